/- float.NaN and float.Widen, by contracts. -/
import Derived.Test.YtceddcogpigolaaDoorFloatA
namespace Go.Proofs.YtceddcogpigolaaDoor
open Go.RowKit Go.Sort

/-- The variable float.double holds 11 and 52. -/
def Dbl (w : World) : Prop := w.cell? ⟨2, 0, none⟩ = some (.int .i64 11) ∧ w.cell? ⟨2, 1, none⟩ = some (.int .i64 52)
theorem Dbl.lt {w : World} (h : Dbl w) : 2 < w.heap.size := World.block_lt_of_cell? w ⟨2, 0, none⟩ h.1
theorem Dbl.below {w w' : World} (h : Dbl w) (hb : Below w.heap.size w w') : Dbl w' :=
  ⟨(hb.cell (p := ⟨2, 0, none⟩) h.lt).trans h.1, (hb.cell (p := ⟨2, 1, none⟩) h.lt).trans h.2⟩
theorem then_below {w w1 w2 : World} (h : Below w.heap.size w w1) (k : Below w1.heap.size w1 w2) : Below w.heap.size w w2 := h.trans (k.mono h.size)
def nanB (x : Int) : Bool := decide (x / 4503599627370496 % 2048 = 2047) && decide (x % 4503599627370496 ≠ 0)

theorem NaN_any (x : Int) (h : U64 x) (w : World) (hd : Dbl w) : Calls Tryd.prog 192 #[.int .u64 x] w fun e w' => e = .returned (.bool (nanB x)) ∧ Below w.heap.size w w' := by
  have d0 := hd.1
  have d1 := hd.2
  have hd' := Lib.hid hd
  clear hd
  go_enter Tryd.func192, Tryd.ntmps192
  go_wp2_with fail
  refine (split_11 x h _).mono ?_
  rintro ev w1 ⟨rfl, hb1⟩
  have B1 := Lib.hid hb1
  have e0 : w1.cell? ⟨2, 0, none⟩ = some (.int .i64 11) := (hd'.out.below hb1).1
  have e1 : w1.cell? ⟨2, 1, none⟩ = some (.int .i64 52) := (hd'.out.below hb1).2
  clear hb1
  go_wp2_with fail
  refine (top_11 _ _).mono ?_
  rintro ev w2 ⟨rfl, hb2⟩
  have B2 := Lib.hid (then_below B1.out hb2)
  clear hb2
  by_cases h1 : x / 4503599627370496 % 2048 = 2047
  · have h1' : ((x / 4503599627370496 % 2048 : Int) == 2047) = true := by simpa using h1
    clear h1
    go_wp2_with fail
    go_ret
    refine ⟨?_, B2.out⟩
    have h2 := h1'
    simp at h2
    simp [nanB, h2]
    rfl
  · have h1' : ((x / 4503599627370496 % 2048 : Int) == 2047) = false := by simpa using h1
    go_wp2_with fail
    go_ret
    refine ⟨?_, B2.out⟩
    simp [nanB, h1]

/-- What a walk through Widen or narrow keeps: the start's memory, the variable, the form's box in block T. -/
def FI (w : World) (T : Nat) (eb fb : Int) (w' : World) : Prop := Below w.heap.size w w' ∧ Dbl w' ∧ w'.cell? ⟨T, 0, none⟩ = some (.int .i64 eb) ∧ w'.cell? ⟨T, 1, none⟩ = some (.int .i64 fb)
theorem FI.below {w w1 w2 : World} {T : Nat} {eb fb : Int} (h : FI w T eb fb w1) (hb : Below w1.heap.size w1 w2) : FI w T eb fb w2 :=
  ⟨then_below h.1 hb, h.2.1.below hb, (hb.cell (p := ⟨T, 0, none⟩) (World.block_lt_of_cell? _ ⟨T, 0, none⟩ h.2.2.1)).trans h.2.2.1, (hb.cell (p := ⟨T, 1, none⟩) (World.block_lt_of_cell? _ ⟨T, 1, none⟩ h.2.2.2)).trans h.2.2.2⟩
theorem FI.start {w w1 : World} (hd : Dbl w) (hb : Below w.heap.size w w1) (eb fb : Int) : FI w w1.heap.size eb fb (w1.alloc (.cells #[.int .i64 eb, .int .i64 fb] 267)) :=
  ⟨hb.alloc hb.size _, (hd.below hb).below (by go_grown), by simp, by simp⟩
theorem wrapI64 (n : Int) (h0 : -9223372036854775808 ≤ n) (h1 : n < 9223372036854775808) : IntKind.i64.wrap n = n := by rw [IntKind.wrap_i64]; omega
/-! widen -/
def wOut (s P M : Int) : Int := s * 9223372036854775808 + P * 4503599627370496 + M
theorem or_out (s P M : Int) (s0 : 0 ≤ s) (s1 : s ≤ 1) (p0 : 0 ≤ P) (p1 : P ≤ 2047) (m0 : 0 ≤ M) (m1 : M < 4503599627370496) :
    bits .or .u64 (bits .or .u64 (s * 9223372036854775808) (P * 4503599627370496)) M = wOut s P M := by
  have e1 := bits_join .u64 64 (by decide) wrapsU64 63 (s * 9223372036854775808) (P * 4503599627370496) (by omega) (by omega) (by omega) (by omega) (by omega) (by omega)
  rw [e1]
  have e2 := bits_join .u64 64 (by decide) wrapsU64 52 (s * 9223372036854775808 + P * 4503599627370496) M (by omega) (by omega) (by omega) (by omega) (by omega) (by omega)
  rw [e2]
  rfl
theorem pow_le_52 (M A : Int) (j : Nat) (h0 : 0 < M) (hA : A = M * 2 ^ j) (h : A < 9007199254740992) : j ≤ 52 := by
  obtain ⟨n, rfl⟩ := Int.eq_ofNat_of_zero_le (Int.le_of_lt h0)
  have hc : ((n * 2 ^ j : Nat) : Int) = (n : Int) * 2 ^ j := by simp
  have h2 : n * 2 ^ j < 2 ^ 53 := by omega
  have h3 : 2 ^ j ≤ n * 2 ^ j := Nat.le_mul_of_pos_left _ (by omega)
  have c1 := (Nat.pow_lt_pow_iff_right (a := 2) (by decide)).1 (Nat.lt_of_le_of_lt h3 h2)
  omega
def normK (M : Int) : Nat := 52 - Nat.log2 M.toNat
theorem normK_of (M : Int) (j : Nat) (h0 : 0 < M) (h1 : 4503599627370496 ≤ M * 2 ^ j) (h2 : M * 2 ^ j < 9007199254740992) : j = normK M := by
  obtain ⟨n, rfl⟩ := Int.eq_ofNat_of_zero_le (Int.le_of_lt h0)
  have hc : ((n * 2 ^ j : Nat) : Int) = (n : Int) * 2 ^ j := by simp
  have h1' : 4503599627370496 ≤ n * 2 ^ j := by omega
  have h2' : n * 2 ^ j < 9007199254740992 := by omega
  have hn : n ≠ 0 := by intro h; subst h; simp at h0
  have a1 := Nat.log2_self_le hn
  have a2 := Nat.lt_log2_self (n := n)
  simp only [normK, Int.toNat_natCast]
  have b1 : 2 ^ (Nat.log2 n + j) < 2 ^ 53 := by
    rw [Nat.pow_add]; exact Nat.lt_of_le_of_lt (Nat.mul_le_mul_right _ a1) (by omega)
  have b2 : 2 ^ 52 < 2 ^ (Nat.log2 n + 1 + j) := by
    rw [Nat.pow_add]; exact Nat.lt_of_le_of_lt (by omega) (Nat.mul_lt_mul_of_pos_right a2 (Nat.two_pow_pos j))
  have c1 := (Nat.pow_lt_pow_iff_right (a := 2) (by decide)).1 b1
  have c2 := (Nat.pow_lt_pow_iff_right (a := 2) (by decide)).1 b2
  omega
def widenCore (s e m top bias sh : Int) : Int :=
  if e = top then (if m = 0 then wOut s 2047 0 else 9221120237041090560)
  else if e = 0 then (if m = 0 then wOut s 0 0 else wOut s (1024 - bias - normK (m * sh)) (m * sh * 2 ^ normK (m * sh) - 4503599627370496))
  else wOut s (e - bias + 1023) (m * sh)
def widen2 (x : Int) : Int := widenCore (x / 32768) (x / 1024 % 32) (x % 1024) 31 15 4398046511104
def widen4 (x : Int) : Int := widenCore (x / 2147483648) (x / 8388608 % 256) (x % 8388608) 255 127 536870912
set_option maxRecDepth 100000 in
set_option maxHeartbeats 4000000 in
theorem widen_2_great (x : Int) (h : U64 x) (hx : ¬ x < 65536) (w : World) : Calls Tryd.prog 128 #[.int .u64 x, .int .i64 2] w fun e w' => e = .returned (.tuple #[.int .u64 0, .bool false]) ∧ Below w.heap.size w w' := by
  go_enter Tryd.func128, Tryd.ntmps128
  go_wp2_with fail
  refine (forms_2 _).mono ?_
  rintro ev w1 ⟨rfl, hb1⟩
  have B1 := Lib.hid hb1
  clear hb1
  have hx' : ((x / 65536 : Int) != 0) = true := by
    have h0 : x / 65536 ≠ 0 := by have := h.1; omega
    simpa using h0
  clear hx
  go_wp2_with fail
  go_ret2
  exact ⟨rfl, B1.out.alloc B1.out.size _⟩
set_option maxRecDepth 100000 in
set_option maxHeartbeats 4000000 in
theorem widen_2 (x : Int) (h : U64 x) (hx : x < 65536) (w : World) (hd : Dbl w) : Calls Tryd.prog 128 #[.int .u64 x, .int .i64 2] w fun e w' => e = .returned (.tuple #[.int .u64 (widen2 x), .bool true]) ∧ Below w.heap.size w w' := by
  have hd' := Lib.hid hd
  clear hd
  go_enter Tryd.func128, Tryd.ntmps128
  go_wp2_with fail
  refine (forms_2 _).mono ?_
  rintro ev w1 ⟨rfl, hb1⟩
  have B1 := Lib.hid hb1
  clear hb1
  have hx' : ((x / 65536 : Int) != 0) = false := by
    have : x / 65536 = 0 := by have := h.1; omega
    simp [this]
  go_wp2_with fail
  have J2 := Lib.hid (FI.start hd'.out B1.out 5 10)
  generalize w1.alloc (.cells #[.int .i64 5, .int .i64 10] 267) = w2 at J2 ⊢
  generalize w1.heap.size = T at J2 ⊢
  clear B1 hd'
  refine (split_5 x h _).mono ?_
  rintro ev w3 ⟨rfl, hb3⟩
  have J3 := Lib.hid (J2.out.below hb3)
  clear hb3 J2
  obtain ⟨s, hs⟩ : ∃ s, s = x / 32768 := ⟨_, rfl⟩
  obtain ⟨e, he⟩ : ∃ e, e = x / 1024 % 32 := ⟨_, rfl⟩
  obtain ⟨m, hm⟩ : ∃ m, m = x % 1024 := ⟨_, rfl⟩
  have Heq := Lib.hid (show widen2 x = widenCore s e m 31 15 4398046511104 by rw [hs, he, hm]; rfl)
  have s0 : 0 ≤ s := by have := h.1; omega
  have s1 : s ≤ 1 := by omega
  have e0 : 0 ≤ e := by omega
  have e1 : e ≤ 31 := by omega
  have m0 : 0 ≤ m := by omega
  have m1 : m < 1024 := by omega
  rw [← hs, ← he, ← hm]
  clear hs he hm hx hx'
  obtain ⟨-, ⟨d0, d1⟩, f0, f1⟩ := J3.out
  go_wp2_with fail
  have kd0 := cell_regrown d0
  have kd1 := cell_regrown d1
  have kf0 := cell_regrown f0
  have kf1 := cell_regrown f1
  have cF : ∀ d os, Calls Tryd.prog 177 #[.agg #[.int .i64 5, .int .i64 10]] (grow (redrawn w3 d) os) fun ev w'' => ev = .returned (.int .i64 15) ∧ ∃ q : Regrown, w'' = grow (redrawn w3 q.d) q.os := fun d os => Calls.regrown_of (bias_5 _ _)
  have cD : ∀ d os, Calls Tryd.prog 177 #[.agg #[.int .i64 11, .int .i64 52]] (grow (redrawn w3 d) os) fun ev w'' => ev = .returned (.int .i64 1023) ∧ ∃ q : Regrown, w'' = grow (redrawn w3 q.d) q.os := fun d os => Calls.regrown_of (bias_11 _ _)
  have cF' := Lib.hid cF
  have cD' := Lib.hid cD
  clear cF cD d0 d1 f0 f1
  have q0 := wrapI64 e (by omega) (by omega)
  have q1 := wrapI64 (e - 15) (by omega) (by omega)
  have q2 := wrapI64 (e - 15 + 1023) (by omega) (by omega)
  refine wp_region_quiet_below (by kernel_rfl) (by kernel_rfl) ?_
  repeat (quiet_step (first | (with_reducible exact cF'.out _ _) | (with_reducible exact cD'.out _ _)))
  refine wpQuiet_nil ?_
  intro w4 hw4
  obtain ⟨⟨dq, osq⟩, hw''⟩ := hw4
  have J4 := Lib.hid (show FI w T 5 10 w4 by rw [hw'']; exact J3.out.below (below_regrown w3 dq osq))
  clear hw'' kd0 kd1 kf0 kf1 cF' cD' J3 q0 q1 q2
  obtain ⟨-, ⟨d0, d1⟩, f0, f1⟩ := J4.out
  go_wp2_with fail
  refine (top_5 _ _).mono ?_
  rintro ev w5 ⟨rfl, hb5⟩
  have J5 := Lib.hid (J4.out.below hb5)
  clear hb5 J4 d0 d1 f0 f1
  obtain ⟨-, ⟨d0, d1⟩, f0, f1⟩ := J5.out
  by_cases he : e = 31
  · subst he
    by_cases hm : m = 0
    · subst hm
      go_wp2_with fail
      refine (top_5 _ _).mono ?_
      rintro ev w6 ⟨rfl, hb6⟩
      have J6 := Lib.hid (J5.out.below hb6)
      clear hb6 J5 d0 d1 f0 f1
      obtain ⟨-, ⟨d0, d1⟩, f0, f1⟩ := J6.out
      go_wp2_with fail
      refine (top_11 _ _).mono ?_
      rintro ev w7 ⟨rfl, hb7⟩
      have J7 := Lib.hid (J6.out.below hb7)
      clear hb7 J6 d0 d1 f0 f1
      obtain ⟨-, ⟨d0, d1⟩, f0, f1⟩ := J7.out
      have hor : bits .or .u64 (bits .or .u64 (s * 9223372036854775808) 9218868437227405312) 0 = wOut s 2047 0 := or_out s 2047 0 s0 s1 (by decide) (by decide) (by decide) (by decide)
      go_wp2_with fail
      go_ret2
      refine ⟨?_, J7.out.1⟩
      rw [Heq.out]
      simp [widenCore, hor]
    · have hm1 : ((m * 4398046511104 : Int) != 0) = true := by
        have h0 : m * 4398046511104 ≠ 0 := by omega
        simpa using h0
      have hm' := Lib.hid hm
      clear hm
      go_wp2_with fail
      go_ret2
      refine ⟨?_, J5.out.1⟩
      rw [Heq.out]
      simp [widenCore, hm'.out]
  · have he1 : ((e : Int) == 31) = false := by simpa using he
    have he' := Lib.hid he
    clear he
    go_wp2_with fail
    refine (top_5 _ _).mono ?_
    rintro ev w6 ⟨rfl, hb6⟩
    have J6 := Lib.hid (J5.out.below hb6)
    clear hb6 J5 d0 d1 f0 f1
    obtain ⟨-, ⟨d0, d1⟩, f0, f1⟩ := J6.out
    by_cases hz : e = 0
    · subst hz
      by_cases hm : m = 0
      · subst hm
        have hor : bits .or .u64 (s * 9223372036854775808) 0 = s * 9223372036854775808 := (bits_join .u64 64 (by decide) wrapsU64 63 (s * 9223372036854775808) 0 (by omega) (by omega) (by omega) (by omega) (by omega) (by omega)).trans (by omega)
        go_wp2_with fail
        go_ret2
        refine ⟨?_, J6.out.1⟩
        rw [Heq.out]
        simp [widenCore, wOut, hor]
      · have hm1 : ((m * 4398046511104 : Int) == 0) = false := by
          have h0 : m * 4398046511104 ≠ 0 := by omega
          simpa using h0
        have hm' := Lib.hid hm
        clear hm
        obtain ⟨M, hM⟩ : ∃ M, M = m * 4398046511104 := ⟨_, rfl⟩
        have hM' := Lib.hid hM
        have M0 : 0 < M := by have := hm'.out; omega
        have M1 : M < 4503599627370496 := by omega
        rw [← hM] at hm1 ⊢
        clear hM m1
        go_wp2_with fail
        go_loop [10, 11] (fun a p => ∃ (j : Nat) (A P : Int), A = M * 2 ^ j ∧ P = 1024 - 15 - j ∧ A < 9007199254740992 ∧ 0 < A ∧ a = .int .u64 A ∧ p = .int .i64 P) (fun a _ => (9007199254740992 - intOf a).toNat)
        case atStart => exact ⟨0, M, 1024 - 15, by simp, by simp, by omega, M0, rfl, rfl⟩
        case round =>
          obtain ⟨j, A, P, hA, hP, hA1, hA2, rfl, rfl⟩ := hrel
          have hA' := Lib.hid hA
          have hP' := Lib.hid hP
          have hj := pow_le_52 M A j M0 hA hA1
          have P0 : 1 ≤ P := by omega
          have P1 : P ≤ 1023 := by omega
          clear hA hP
          by_cases hq : A < 4503599627370496
          · have hq1 : A / 4503599627370496 = 0 := by omega
            go_wp2_with fail
            go_round
            case rel => exact ⟨j + 1, A * 2, P - 1, by rw [hA'.out, Int.pow_succ, Int.mul_assoc], by have := hP'.out; omega, by omega, by omega, rfl, rfl⟩
            case measure => simp [intOf]; omega
          · have hq1 : A / 4503599627370496 = 1 := by omega
            have hm2 : bits .and .u64 A 4503599627370495 = A - 4503599627370496 := (maskU64 52 (by decide) A (by omega) (by omega)).trans (by omega)
            have hor := or_out s P (A - 4503599627370496) s0 s1 (by omega) (by omega) (by omega) (by omega)
            go_wp2_with fail
            go_ret2
            refine ⟨?_, J6.out.1⟩
            rw [Heq.out]
            have hk := normK_of M j M0 (by rw [← hA'.out]; omega) (by rw [← hA'.out]; omega)
            have hc : widenCore s 0 m 31 15 4398046511104 = wOut s P (A - 4503599627370496) := by
              unfold widenCore
              rw [if_neg (by decide), if_pos rfl, if_neg hm'.out, ← hM'.out, ← hk, ← hA'.out, ← hP'.out]
            rw [hc]
            rfl
    · have hz1 : ((e : Int) == 0) = false := by simpa using hz
      have hz' := Lib.hid hz
      have e2 : 1 ≤ e := by omega
      clear hz
      have e3 : e < 31 := by have := he'.out; omega
      have hor := or_out s (e - 15 + 1023) (m * 4398046511104) s0 s1 (by omega) (by omega) (by omega) (by omega)
      go_wp2_with fail
      go_ret2
      refine ⟨?_, J6.out.1⟩
      rw [Heq.out]
      simp [widenCore, hz'.out, he'.out, hor]
set_option maxRecDepth 100000 in
set_option maxHeartbeats 4000000 in
theorem widen_4_great (x : Int) (h : U64 x) (hx : ¬ x < 4294967296) (w : World) : Calls Tryd.prog 128 #[.int .u64 x, .int .i64 4] w fun e w' => e = .returned (.tuple #[.int .u64 0, .bool false]) ∧ Below w.heap.size w w' := by
  go_enter Tryd.func128, Tryd.ntmps128
  go_wp2_with fail
  refine (forms_4 _).mono ?_
  rintro ev w1 ⟨rfl, hb1⟩
  have B1 := Lib.hid hb1
  clear hb1
  have hx' : ((x / 4294967296 : Int) != 0) = true := by
    have h0 : x / 4294967296 ≠ 0 := by have := h.1; omega
    simpa using h0
  clear hx
  go_wp2_with fail
  go_ret2
  exact ⟨rfl, B1.out.alloc B1.out.size _⟩
set_option maxRecDepth 100000 in
set_option maxHeartbeats 4000000 in
theorem widen_4 (x : Int) (h : U64 x) (hx : x < 4294967296) (w : World) (hd : Dbl w) : Calls Tryd.prog 128 #[.int .u64 x, .int .i64 4] w fun e w' => e = .returned (.tuple #[.int .u64 (widen4 x), .bool true]) ∧ Below w.heap.size w w' := by
  have hd' := Lib.hid hd
  clear hd
  go_enter Tryd.func128, Tryd.ntmps128
  go_wp2_with fail
  refine (forms_4 _).mono ?_
  rintro ev w1 ⟨rfl, hb1⟩
  have B1 := Lib.hid hb1
  clear hb1
  have hx' : ((x / 4294967296 : Int) != 0) = false := by
    have : x / 4294967296 = 0 := by have := h.1; omega
    simp [this]
  go_wp2_with fail
  have J2 := Lib.hid (FI.start hd'.out B1.out 8 23)
  generalize w1.alloc (.cells #[.int .i64 8, .int .i64 23] 267) = w2 at J2 ⊢
  generalize w1.heap.size = T at J2 ⊢
  clear B1 hd'
  refine (split_8 x h _).mono ?_
  rintro ev w3 ⟨rfl, hb3⟩
  have J3 := Lib.hid (J2.out.below hb3)
  clear hb3 J2
  obtain ⟨s, hs⟩ : ∃ s, s = x / 2147483648 := ⟨_, rfl⟩
  obtain ⟨e, he⟩ : ∃ e, e = x / 8388608 % 256 := ⟨_, rfl⟩
  obtain ⟨m, hm⟩ : ∃ m, m = x % 8388608 := ⟨_, rfl⟩
  have Heq := Lib.hid (show widen4 x = widenCore s e m 255 127 536870912 by rw [hs, he, hm]; rfl)
  have s0 : 0 ≤ s := by have := h.1; omega
  have s1 : s ≤ 1 := by omega
  have e0 : 0 ≤ e := by omega
  have e1 : e ≤ 255 := by omega
  have m0 : 0 ≤ m := by omega
  have m1 : m < 8388608 := by omega
  rw [← hs, ← he, ← hm]
  clear hs he hm hx hx'
  obtain ⟨-, ⟨d0, d1⟩, f0, f1⟩ := J3.out
  go_wp2_with fail
  have kd0 := cell_regrown d0
  have kd1 := cell_regrown d1
  have kf0 := cell_regrown f0
  have kf1 := cell_regrown f1
  have cF : ∀ d os, Calls Tryd.prog 177 #[.agg #[.int .i64 8, .int .i64 23]] (grow (redrawn w3 d) os) fun ev w'' => ev = .returned (.int .i64 127) ∧ ∃ q : Regrown, w'' = grow (redrawn w3 q.d) q.os := fun d os => Calls.regrown_of (bias_8 _ _)
  have cD : ∀ d os, Calls Tryd.prog 177 #[.agg #[.int .i64 11, .int .i64 52]] (grow (redrawn w3 d) os) fun ev w'' => ev = .returned (.int .i64 1023) ∧ ∃ q : Regrown, w'' = grow (redrawn w3 q.d) q.os := fun d os => Calls.regrown_of (bias_11 _ _)
  have cF' := Lib.hid cF
  have cD' := Lib.hid cD
  clear cF cD d0 d1 f0 f1
  have q0 := wrapI64 e (by omega) (by omega)
  have q1 := wrapI64 (e - 127) (by omega) (by omega)
  have q2 := wrapI64 (e - 127 + 1023) (by omega) (by omega)
  refine wp_region_quiet_below (by kernel_rfl) (by kernel_rfl) ?_
  repeat (quiet_step (first | (with_reducible exact cF'.out _ _) | (with_reducible exact cD'.out _ _)))
  refine wpQuiet_nil ?_
  intro w4 hw4
  obtain ⟨⟨dq, osq⟩, hw''⟩ := hw4
  have J4 := Lib.hid (show FI w T 8 23 w4 by rw [hw'']; exact J3.out.below (below_regrown w3 dq osq))
  clear hw'' kd0 kd1 kf0 kf1 cF' cD' J3 q0 q1 q2
  obtain ⟨-, ⟨d0, d1⟩, f0, f1⟩ := J4.out
  go_wp2_with fail
  refine (top_8 _ _).mono ?_
  rintro ev w5 ⟨rfl, hb5⟩
  have J5 := Lib.hid (J4.out.below hb5)
  clear hb5 J4 d0 d1 f0 f1
  obtain ⟨-, ⟨d0, d1⟩, f0, f1⟩ := J5.out
  by_cases he : e = 255
  · subst he
    by_cases hm : m = 0
    · subst hm
      go_wp2_with fail
      refine (top_8 _ _).mono ?_
      rintro ev w6 ⟨rfl, hb6⟩
      have J6 := Lib.hid (J5.out.below hb6)
      clear hb6 J5 d0 d1 f0 f1
      obtain ⟨-, ⟨d0, d1⟩, f0, f1⟩ := J6.out
      go_wp2_with fail
      refine (top_11 _ _).mono ?_
      rintro ev w7 ⟨rfl, hb7⟩
      have J7 := Lib.hid (J6.out.below hb7)
      clear hb7 J6 d0 d1 f0 f1
      obtain ⟨-, ⟨d0, d1⟩, f0, f1⟩ := J7.out
      have hor : bits .or .u64 (bits .or .u64 (s * 9223372036854775808) 9218868437227405312) 0 = wOut s 2047 0 := or_out s 2047 0 s0 s1 (by decide) (by decide) (by decide) (by decide)
      go_wp2_with fail
      go_ret2
      refine ⟨?_, J7.out.1⟩
      rw [Heq.out]
      simp [widenCore, hor]
    · have hm1 : ((m * 536870912 : Int) != 0) = true := by
        have h0 : m * 536870912 ≠ 0 := by omega
        simpa using h0
      have hm' := Lib.hid hm
      clear hm
      go_wp2_with fail
      go_ret2
      refine ⟨?_, J5.out.1⟩
      rw [Heq.out]
      simp [widenCore, hm'.out]
  · have he1 : ((e : Int) == 255) = false := by simpa using he
    have he' := Lib.hid he
    clear he
    go_wp2_with fail
    refine (top_8 _ _).mono ?_
    rintro ev w6 ⟨rfl, hb6⟩
    have J6 := Lib.hid (J5.out.below hb6)
    clear hb6 J5 d0 d1 f0 f1
    obtain ⟨-, ⟨d0, d1⟩, f0, f1⟩ := J6.out
    by_cases hz : e = 0
    · subst hz
      by_cases hm : m = 0
      · subst hm
        have hor : bits .or .u64 (s * 9223372036854775808) 0 = s * 9223372036854775808 := (bits_join .u64 64 (by decide) wrapsU64 63 (s * 9223372036854775808) 0 (by omega) (by omega) (by omega) (by omega) (by omega) (by omega)).trans (by omega)
        go_wp2_with fail
        go_ret2
        refine ⟨?_, J6.out.1⟩
        rw [Heq.out]
        simp [widenCore, wOut, hor]
      · have hm1 : ((m * 536870912 : Int) == 0) = false := by
          have h0 : m * 536870912 ≠ 0 := by omega
          simpa using h0
        have hm' := Lib.hid hm
        clear hm
        obtain ⟨M, hM⟩ : ∃ M, M = m * 536870912 := ⟨_, rfl⟩
        have hM' := Lib.hid hM
        have M0 : 0 < M := by have := hm'.out; omega
        have M1 : M < 4503599627370496 := by omega
        rw [← hM] at hm1 ⊢
        clear hM m1
        go_wp2_with fail
        go_loop [10, 11] (fun a p => ∃ (j : Nat) (A P : Int), A = M * 2 ^ j ∧ P = 1024 - 127 - j ∧ A < 9007199254740992 ∧ 0 < A ∧ a = .int .u64 A ∧ p = .int .i64 P) (fun a _ => (9007199254740992 - intOf a).toNat)
        case atStart => exact ⟨0, M, 1024 - 127, by simp, by simp, by omega, M0, rfl, rfl⟩
        case round =>
          obtain ⟨j, A, P, hA, hP, hA1, hA2, rfl, rfl⟩ := hrel
          have hA' := Lib.hid hA
          have hP' := Lib.hid hP
          have hj := pow_le_52 M A j M0 hA hA1
          have P0 : 1 ≤ P := by omega
          have P1 : P ≤ 1023 := by omega
          clear hA hP
          by_cases hq : A < 4503599627370496
          · have hq1 : A / 4503599627370496 = 0 := by omega
            go_wp2_with fail
            go_round
            case rel => exact ⟨j + 1, A * 2, P - 1, by rw [hA'.out, Int.pow_succ, Int.mul_assoc], by have := hP'.out; omega, by omega, by omega, rfl, rfl⟩
            case measure => simp [intOf]; omega
          · have hq1 : A / 4503599627370496 = 1 := by omega
            have hm2 : bits .and .u64 A 4503599627370495 = A - 4503599627370496 := (maskU64 52 (by decide) A (by omega) (by omega)).trans (by omega)
            have hor := or_out s P (A - 4503599627370496) s0 s1 (by omega) (by omega) (by omega) (by omega)
            go_wp2_with fail
            go_ret2
            refine ⟨?_, J6.out.1⟩
            rw [Heq.out]
            have hk := normK_of M j M0 (by rw [← hA'.out]; omega) (by rw [← hA'.out]; omega)
            have hc : widenCore s 0 m 255 127 536870912 = wOut s P (A - 4503599627370496) := by
              unfold widenCore
              rw [if_neg (by decide), if_pos rfl, if_neg hm'.out, ← hM'.out, ← hk, ← hA'.out, ← hP'.out]
            rw [hc]
            rfl
    · have hz1 : ((e : Int) == 0) = false := by simpa using hz
      have hz' := Lib.hid hz
      have e2 : 1 ≤ e := by omega
      clear hz
      have e3 : e < 255 := by have := he'.out; omega
      have hor := or_out s (e - 127 + 1023) (m * 536870912) s0 s1 (by omega) (by omega) (by omega) (by omega)
      go_wp2_with fail
      go_ret2
      refine ⟨?_, J6.out.1⟩
      rw [Heq.out]
      simp [widenCore, hz'.out, he'.out, hor]
def widen8 (x : Int) : Int := if nanB x then 9221120237041090560 else x
set_option maxRecDepth 100000 in
set_option maxHeartbeats 4000000 in
theorem widen_8 (x : Int) (h : U64 x) (w : World) (hd : Dbl w) : Calls Tryd.prog 128 #[.int .u64 x, .int .i64 8] w fun e w' => e = .returned (.tuple #[.int .u64 (widen8 x), .bool true]) ∧ Below w.heap.size w w' := by
  have hd' := Lib.hid hd
  clear hd
  go_enter Tryd.func128, Tryd.ntmps128
  go_wp2_with fail
  refine (forms_8 _).mono ?_
  rintro ev w1 ⟨rfl, hb1⟩
  have B1 := Lib.hid hb1
  clear hb1
  go_wp2_with fail
  have J2 := Lib.hid (FI.start hd'.out B1.out 11 52)
  generalize w1.alloc (.cells #[.int .i64 11, .int .i64 52] 267) = w2 at J2 ⊢
  generalize w1.heap.size = T at J2 ⊢
  clear B1 hd'
  refine (split_11 x h _).mono ?_
  rintro ev w3 ⟨rfl, hb3⟩
  have J3 := Lib.hid (J2.out.below hb3)
  clear hb3 J2
  obtain ⟨s, hs⟩ : ∃ s, s = x / 9223372036854775808 := ⟨_, rfl⟩
  obtain ⟨e, he⟩ : ∃ e, e = x / 4503599627370496 % 2048 := ⟨_, rfl⟩
  obtain ⟨m, hm⟩ : ∃ m, m = x % 4503599627370496 := ⟨_, rfl⟩
  have Heq := Lib.hid (show widen8 x = if e = 2047 ∧ m ≠ 0 then 9221120237041090560 else wOut s e m by
    unfold widen8 nanB wOut
    rw [← he, ← hm]
    by_cases h1 : e = 2047 <;> by_cases h2 : m = 0 <;> simp [h1, h2] <;> have := h.2 <;> omega)
  have s0 : 0 ≤ s := by have := h.1; omega
  have s1 : s ≤ 1 := by have := h.2; omega
  have e0 : 0 ≤ e := by omega
  have e1 : e ≤ 2047 := by omega
  have m0 : 0 ≤ m := by omega
  have m1 : m < 4503599627370496 := by omega
  rw [← hs, ← he, ← hm]
  clear hs he hm
  obtain ⟨-, ⟨d0, d1⟩, f0, f1⟩ := J3.out
  go_wp2_with fail
  have kd0 := cell_regrown d0
  have kd1 := cell_regrown d1
  have kf0 := cell_regrown f0
  have kf1 := cell_regrown f1
  have cD : ∀ d os, Calls Tryd.prog 177 #[.agg #[.int .i64 11, .int .i64 52]] (grow (redrawn w3 d) os) fun ev w'' => ev = .returned (.int .i64 1023) ∧ ∃ q : Regrown, w'' = grow (redrawn w3 q.d) q.os := fun d os => Calls.regrown_of (bias_11 _ _)
  have cD' := Lib.hid cD
  clear cD d0 d1 f0 f1
  have q0 := wrapI64 e (by omega) (by omega)
  have q1 := wrapI64 (e - 1023) (by omega) (by omega)
  have q2 := wrapI64 (e - 1023 + 1023) (by omega) (by omega)
  refine wp_region_quiet_below (by kernel_rfl) (by kernel_rfl) ?_
  repeat (quiet_step (first | (with_reducible exact cD'.out _ _)))
  refine wpQuiet_nil ?_
  intro w4 hw4
  obtain ⟨⟨dq, osq⟩, hw''⟩ := hw4
  have J4 := Lib.hid (show FI w T 11 52 w4 by rw [hw'']; exact J3.out.below (below_regrown w3 dq osq))
  clear hw'' kd0 kd1 kf0 kf1 cD' J3 q0 q1 q2
  obtain ⟨-, ⟨d0, d1⟩, f0, f1⟩ := J4.out
  go_wp2_with fail
  refine (top_11 _ _).mono ?_
  rintro ev w5 ⟨rfl, hb5⟩
  have J5 := Lib.hid (J4.out.below hb5)
  clear hb5 J4 d0 d1 f0 f1
  obtain ⟨-, ⟨d0, d1⟩, f0, f1⟩ := J5.out
  by_cases he : e = 2047
  · subst he
    by_cases hm : m = 0
    · subst hm
      go_wp2_with fail
      refine (top_11 _ _).mono ?_
      rintro ev w6 ⟨rfl, hb6⟩
      have J6 := Lib.hid (J5.out.below hb6)
      clear hb6 J5 d0 d1 f0 f1
      obtain ⟨-, ⟨d0, d1⟩, f0, f1⟩ := J6.out
      go_wp2_with fail
      refine (top_11 _ _).mono ?_
      rintro ev w7 ⟨rfl, hb7⟩
      have J7 := Lib.hid (J6.out.below hb7)
      clear hb7 J6 d0 d1 f0 f1
      obtain ⟨-, ⟨d0, d1⟩, f0, f1⟩ := J7.out
      have hor : bits .or .u64 (bits .or .u64 (s * 9223372036854775808) 9218868437227405312) 0 = wOut s 2047 0 := or_out s 2047 0 s0 s1 (by decide) (by decide) (by decide) (by decide)
      go_wp2_with fail
      go_ret2
      refine ⟨?_, J7.out.1⟩
      rw [Heq.out]
      simp [hor]
    · have hm1 : ((m : Int) != 0) = true := by simpa using hm
      have hm' := Lib.hid hm
      clear hm
      go_wp2_with fail
      go_ret2
      refine ⟨?_, J5.out.1⟩
      rw [Heq.out]
      simp [hm'.out]
  · have he1 : ((e : Int) == 2047) = false := by simpa using he
    have he' := Lib.hid he
    clear he
    go_wp2_with fail
    refine (top_11 _ _).mono ?_
    rintro ev w6 ⟨rfl, hb6⟩
    have J6 := Lib.hid (J5.out.below hb6)
    clear hb6 J5 d0 d1 f0 f1
    obtain ⟨-, ⟨d0, d1⟩, f0, f1⟩ := J6.out
    by_cases hz : e = 0
    · subst hz
      have hor : bits .or .u64 (bits .or .u64 (s * 9223372036854775808) 0) m = wOut s 0 m := or_out s 0 m s0 s1 (by decide) (by decide) m0 m1
      go_wp2_with fail
      go_ret2
      refine ⟨?_, J6.out.1⟩
      rw [Heq.out]
      simp [hor]
    · have hz1 : ((e : Int) == 0) = false := by simpa using hz
      clear hz
      have hor := or_out s e m s0 s1 e0 (by omega) m0 m1
      go_wp2_with fail
      go_ret2
      refine ⟨?_, J6.out.1⟩
      rw [Heq.out]
      simp [he'.out, hor]
end Go.Proofs.YtceddcogpigolaaDoor
