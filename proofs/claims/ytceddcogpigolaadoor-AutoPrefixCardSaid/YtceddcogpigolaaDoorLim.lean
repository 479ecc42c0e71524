/- limit.Check by contract. -/
import Derived.Test.YtceddcogpigolaaDoorPure
namespace Go.Proofs.YtceddcogpigolaaDoor
open Go.RowKit Go.Sort

def withinB (n m : Int) : Bool := decide (1 ≤ n ∧ n ≤ m)
theorem within_t (n m : Int) (h1 : 1 ≤ n) (h2 : n ≤ m) (w : World) : Calls Tryd.prog 106 #[.int .i64 n, .int .i64 m] w fun e w' => e = .returned (.bool true) ∧ w' = w := by
  go_enter Tryd.func106, Tryd.ntmps106
  go_wp2_with fail
  go_returns
  exact ⟨by first | rfl | (simp; done) | (simp; omega), rfl⟩
theorem within_f (n m : Int) (h : ¬ (1 ≤ n ∧ n ≤ m)) (w : World) : Calls Tryd.prog 106 #[.int .i64 n, .int .i64 m] w fun e w' => e = .returned (.bool false) ∧ w' = w := by
  rcases (show n < 1 ∨ (1 ≤ n ∧ m < n) by omega) with h1 | ⟨h1, h2⟩
  · clear h
    go_enter Tryd.func106, Tryd.ntmps106
    go_wp2_with fail
    all_goals go_returns
    all_goals exact ⟨by first | rfl | (simp; done) | (simp; omega), rfl⟩
  · clear h
    go_enter Tryd.func106, Tryd.ntmps106
    go_wp2_with fail
    all_goals go_returns
    all_goals exact ⟨by first | rfl | (simp; done) | (simp; omega), rfl⟩
theorem within_c (n m : Int) (w : World) : Calls Tryd.prog 106 #[.int .i64 n, .int .i64 m] w fun e w' => e = .returned (.bool (withinB n m)) ∧ w' = w := by
  unfold withinB
  by_cases h : 1 ≤ n ∧ n ≤ m
  · rw [decide_eq_true h]
    exact within_t n m h.1 h.2 w
  · rw [decide_eq_false h]
    exact within_f n m h w
def Li.val (l : Li) : Value := .agg #[.int .i64 l.depth, .int .i64 l.key, .int .i64 l.size]
theorem liRight_eq (l : Li) : liRight l = (withinB l.depth 64 && (withinB l.key 1024 && withinB l.size 2305843009213693951)) := by
  unfold liRight withinB
  rw [Bool.eq_iff_iff]
  simp only [Bool.and_eq_true, decide_eq_true_eq]
  omega
theorem limit_check (l : Li) (w : World) : Calls Tryd.prog 64 #[l.val] w fun e w' => e = .returned (.int .i64 (if liRight l then 0 else 15)) ∧ Below w.heap.size w w' := by
  have U := Lib.hid (liRight_eq l)
  have W1 := Lib.hid (within_c l.depth 64)
  have W2 := Lib.hid (within_c l.key 1024)
  have W3 := Lib.hid (within_c l.size 2305843009213693951)
  obtain ⟨d, k, s⟩ := l
  generalize liRight ⟨d, k, s⟩ = q at *
  dsimp only [Li.val] at *
  generalize withinB d 64 = a at *
  generalize withinB k 1024 = b at *
  generalize withinB s 2305843009213693951 = c at *
  generalize hm : (2305843009213693951 : Int) = M at *
  cases a with
  | false =>
    obtain rfl : q = false := by rw [U.out]; rfl
    go_enter Tryd.func64, Tryd.ntmps64
    go_wp2_with fail
    refine (W1.out _).mono ?_
    rintro ev W ⟨rfl, e4⟩
    obtain rfl := e4.symm
    go_wp2_with fail
    go_returns
    exact ⟨rfl, by go_grown⟩
  | true =>
    cases b with
    | false =>
      obtain rfl : q = false := by rw [U.out]; rfl
      go_enter Tryd.func64, Tryd.ntmps64
      go_wp2_with fail
      refine (W1.out _).mono ?_
      rintro ev W ⟨rfl, e4⟩
      obtain rfl := e4.symm
      go_wp2_with fail
      refine (W2.out _).mono ?_
      rintro ev W ⟨rfl, e4⟩
      obtain rfl := e4.symm
      go_wp2_with fail
      go_returns
      exact ⟨rfl, by go_grown⟩
    | true =>
      cases c with
      | false =>
        obtain rfl : q = false := by rw [U.out]; rfl
        go_enter Tryd.func64, Tryd.ntmps64
        go_wp2_with fail
        refine (W1.out _).mono ?_
        rintro ev W ⟨rfl, e4⟩
        obtain rfl := e4.symm
        go_wp2_with fail
        refine (W2.out _).mono ?_
        rintro ev W ⟨rfl, e4⟩
        obtain rfl := e4.symm
        go_wp2_with fail
        subst hm
        refine (W3.out _).mono ?_
        rintro ev W ⟨rfl, e4⟩
        obtain rfl := e4.symm
        go_wp2_with fail
        go_returns
        exact ⟨rfl, by go_grown⟩
      | true =>
        obtain rfl : q = true := by rw [U.out]; rfl
        go_enter Tryd.func64, Tryd.ntmps64
        go_wp2_with fail
        refine (W1.out _).mono ?_
        rintro ev W ⟨rfl, e4⟩
        obtain rfl := e4.symm
        go_wp2_with fail
        refine (W2.out _).mono ?_
        rintro ev W ⟨rfl, e4⟩
        obtain rfl := e4.symm
        go_wp2_with fail
        subst hm
        refine (W3.out _).mono ?_
        rintro ev W ⟨rfl, e4⟩
        obtain rfl := e4.symm
        go_wp2_with fail
        go_returns
        exact ⟨rfl, by go_grown⟩

end Go.Proofs.YtceddcogpigolaaDoor
