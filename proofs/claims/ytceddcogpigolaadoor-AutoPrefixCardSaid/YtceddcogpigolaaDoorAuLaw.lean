/- What a verdict hangs on, of the plain automaton. -/
import Derived.Test.YtceddcogpigolaaDoorAuX
namespace Go.Proofs.YtceddcogpigolaaDoor
open Go.RowKit Go.Sort

theorem Au.step_bad {most : Nat} {a : Au} (h : a.bad ≠ 0) (c : Int) : (a.step most c).1 = a := by unfold Au.step; rw [if_pos h]
theorem Au.run_bad {most : Nat} {a : Au} (h : a.bad ≠ 0) (l : List Int) : a.run most l = a := by
  induction l with
  | nil => rfl
  | cons c l ih =>
    show Au.run most (a.step most c).1 l = a
    rw [Au.step_bad h, ih]
theorem Au.run_append (most : Nat) (a : Au) (l m : List Int) : a.run most (l ++ m) = (a.run most l).run most m := by simp [Au.run, List.foldl_append]
theorem Au.step_one {most : Nat} {a : Au} (c : Int) (h : (a.step most c).1.bad = 0) : a.bad = 0 ∧ (a.step most c).1.many = a.many + 1 := by
  have hm := Au.look_many most { a with evs := [] } c
  unfold Au.step at *
  split at h
  · exact absurd h (by assumption)
  · rename_i hb
    refine ⟨by simpa using hb, ?_⟩
    rw [if_neg (by simpa using hb)]
    dsimp only at h ⊢
    split at h
    · exact absurd h (by assumption)
    · rename_i h2
      rw [if_neg h2]
      dsimp only
      rw [hm.1]
theorem Au.run_many {most : Nat} (l : List Int) : ∀ {a : Au}, (a.run most l).bad = 0 → a.bad = 0 ∧ (a.run most l).many = a.many + l.length := by
  induction l with
  | nil => intro a h; exact ⟨h, by simp [Au.run]⟩
  | cons c l ih =>
    intro a h
    obtain ⟨h3, h4⟩ := ih (a := (a.step most c).1) h
    obtain ⟨h1, h2⟩ := Au.step_one c h3
    exact ⟨h1, by show (Au.run most (a.step most c).1 l).many = _; rw [h4, h2]; simp; omega⟩
theorem Au.run_le (most : Nat) (l : List Int) : ∀ (a : Au), a.many ≤ (a.run most l).many := by
  induction l with
  | nil => intro a; exact Int.le_refl _
  | cons c l ih => intro a; exact Int.le_trans (Au.step_many most a c).2.1 (ih (a.step most c).1)
theorem Au.step_done {most : Nat} {a : Au} (hb : a.bad = 0) (hd : a.done = true) (c : Int) : ((a.step most c).1.bad = 1 ∨ (a.step most c).1.bad = 2) ∧ (a.step most c).1.many = a.many := by
  have hl : Au.look most { a with evs := [] } c = ({ a with evs := [] }, 1) ∨ Au.look most { a with evs := [] } c = ({ a with evs := [] }, 2) := by
    unfold Au.look
    split
    · exact .inl rfl
    · exact .inr rfl
  unfold Au.step
  rw [if_neg (by simp [hb])]
  dsimp only
  rcases hl with hl | hl
  · rw [hl]; exact ⟨.inl rfl, rfl⟩
  · rw [hl]; exact ⟨.inr rfl, rfl⟩
/-- What AutoPrefix asks of two verdicts. -/
def prefixB (v w : Int × Int) (n m : Nat) : Bool :=
  if v.1 = 0 then (decide (m = 0) && decide (w = v)) || (decide (0 < m) && (decide (w.1 = 2) || decide (w.1 = 1)) && decide (w.2 = n))
  else (decide (v.1 = 9) && (decide (w.1 = 0) || decide ((n : Int) ≤ w.2))) || decide (w = v)
theorem prefix_law (b more : List Int) (l : Li) : prefixB (whole b l) (whole (b ++ more) l) b.length more.length = true := by
  unfold whole
  by_cases hl : liRight l = true
  · rw [if_pos hl, if_pos hl, Au.run_append]
    generalize hs : Au.run l.key.toNat (au0 l) b = s
    by_cases hb : s.bad = 0
    · have hm : s.many = b.length := by
        have := (Au.run_many (most := l.key.toNat) (a := au0 l) b (by rw [hs]; exact hb)).2
        rw [hs] at this
        simpa [au0] using this
      by_cases hd : s.done = true
      · have hv : s.close = (0, 0) := by unfold Au.close; rw [if_neg (by simp [hb]), if_neg (by simp [hd])]
        rw [hv]
        cases more with
        | nil =>
          show prefixB (0, 0) s.close _ _ = true
          rw [hv]
          simp [prefixB]
        | cons c r =>
          obtain ⟨h1, h2⟩ := Au.step_done (most := l.key.toNat) hb hd c
          have h3 : (s.step l.key.toNat c).1.bad ≠ 0 := by omega
          have hr : Au.run l.key.toNat s (c :: r) = (s.step l.key.toNat c).1 := Au.run_bad h3 r
          rw [hr]
          have hc : (s.step l.key.toNat c).1.close = ((s.step l.key.toNat c).1.bad, (s.step l.key.toNat c).1.many) := by unfold Au.close; rw [if_pos h3]
          rw [hc, h2, hm]
          rcases h1 with h1 | h1 <;> simp [prefixB, h1]
      · have hv : s.close = (9, s.many) := by unfold Au.close; rw [if_neg (by simp [hb]), if_pos (by simpa using hd)]
        rw [hv]
        have hle := Au.run_le l.key.toNat more s
        generalize Au.run l.key.toNat s more = t at hle
        unfold Au.close
        split
        · simp [prefixB]; omega
        · split
          · simp [prefixB]; omega
          · simp [prefixB]
    · rw [Au.run_bad hb]
      have hv : s.close = (s.bad, s.many) := by unfold Au.close; rw [if_pos hb]
      rw [hv]
      simp [prefixB, hb]
  · rw [if_neg hl, if_neg hl]
    simp [prefixB]
theorem awake_1 : whole [130, 1] ⟨4, 9, 99⟩ = (9, 2) := by decide
theorem awake_2 : whole [24, 23] ⟨4, 9, 99⟩ = (5, 1) := by decide
theorem awake_3 : whole [1] ⟨4, 9, 99⟩ = (0, 0) := by decide

end Go.Proofs.YtceddcogpigolaaDoor
