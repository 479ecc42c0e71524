/- float.narrow, float.Shortest and float.Short, by contracts. -/
import Derived.Test.YtceddcogpigolaaDoorFloatB
namespace Go.Proofs.YtceddcogpigolaaDoor
open Go.RowKit Go.Sort

theorem bor_comm (a b : Int) : bits .or .u64 a b = bits .or .u64 b a := by simp [bits, BitVec.or_comm]
theorem or52 (m : Int) (m0 : 0 ≤ m) (m1 : m < 4503599627370496) : bits .or .u64 m 4503599627370496 = m + 4503599627370496 := by
  rw [bor_comm]
  have := bits_join .u64 64 (by decide) wrapsU64 52 4503599627370496 m (by omega) (by omega) (by omega) (by omega) (by omega) (by omega)
  omega
theorem pow_le_int (k L : Nat) (h : k ≤ L) : (2 : Int) ^ k ≤ 2 ^ L := by
  have := Nat.pow_le_pow_right (n := 2) (by decide) h
  exact_mod_cast this
theorem narrow_fin (s m S F : Int) (EF FB L : Nat) (s0 : 0 ≤ s) (m0 : 0 ≤ m) (m1 : m < 4503599627370496) (hS : S = 2 ^ EF) (s1 : s ≤ 1) (hs : s * S % 2 ^ EF = 0) (hF : F = 2 ^ FB) (hEF : EF ≤ 31) (hFB : FB ≤ EF) (hw : IntKind.u64.wrap (IntKind.u64.wrap 0 * F) = 0) (hL : 53 - FB ≤ L) (hl : L ≤ 53) :
    bits .or .u64 (bits .or .u64 (s * S) (IntKind.u64.wrap (IntKind.u64.wrap 0 * F))) ((m + 4503599627370496) / 2 ^ L) = s * S + (m + 4503599627370496) / 2 ^ L ∧
    (bits .and .u64 (m + 4503599627370496) (IntKind.u64.wrap (IntKind.u64.wrap (2 ^ L) - 1)) == 0) = decide ((m + 4503599627370496) % 2 ^ L = 0) := by
  have pL : (2 : Int) ^ L ≤ 2 ^ 53 := pow_le_int _ _ hl
  have p0 : (1 : Int) ≤ 2 ^ L := by have := pow_le_int 0 L (Nat.zero_le _); simpa using this
  have p53 : (2 : Int) ^ 53 = 9007199254740992 := by decide
  have pE : (2 : Int) ^ EF ≤ 2 ^ 31 := pow_le_int _ _ hEF
  have p31 : (2 : Int) ^ 31 = 2147483648 := by decide
  have pE0 : (1 : Int) ≤ 2 ^ EF := by have := pow_le_int 0 EF (Nat.zero_le _); simpa using this
  have sS : s * S ≤ 2147483648 := by
    rcases (show s = 0 ∨ s = 1 by omega) with rfl | rfl
    · simp
    · rw [hS]; omega
  have sS0 : 0 ≤ s * S := Int.mul_nonneg s0 (by rw [hS]; omega)
  have q0 : 0 ≤ (m + 4503599627370496) / 2 ^ L := Int.ediv_nonneg (by omega) (by omega)
  have q1 : (m + 4503599627370496) / 2 ^ L < 2 ^ FB := by
    refine Int.ediv_lt_of_lt_mul (by omega) ?_
    have h1 : (2 : Int) ^ (FB + (53 - FB)) ≤ 2 ^ (FB + L) := pow_le_int _ _ (by omega)
    rw [show FB + (53 - FB) = 53 by omega, Int.pow_add, p53] at h1
    omega
  have pF : (2 : Int) ^ FB ≤ 2 ^ EF := pow_le_int _ _ hFB
  constructor
  · rw [hw]
    have e1 := bits_join .u64 64 (by decide) wrapsU64 EF (s * S) 0 sS0 hs (by omega) (by omega) (by omega) (by omega)
    rw [e1, Int.add_zero]
    exact bits_join .u64 64 (by decide) wrapsU64 EF (s * S) _ sS0 hs (by omega) q0 (by omega) (by omega)
  · rw [wrapsU64 (2 ^ L) (by omega) (by omega), wrapsU64 (2 ^ L - 1) (by omega) (by omega), maskU64 L (by omega) _ (by omega) (by omega)]
    rfl
def narrowCore (s e m top bias fb S F sh : Int) : Int × Bool :=
  if e = 2047 then (s * S + top * F, true)
  else if e = 0 then (s * S, decide (m = 0))
  else if top ≤ e - 1023 + bias then (0, false)
  else if e - 1023 + bias ≤ 0 then
    (if 53 < 52 - fb + (1 - (e - 1023 + bias)) then (0, false)
     else (s * S + (m + 4503599627370496) / 2 ^ (52 - fb + (1 - (e - 1023 + bias))).toNat, decide ((m + 4503599627370496) % 2 ^ (52 - fb + (1 - (e - 1023 + bias))).toNat = 0)))
  else (s * S + (e - 1023 + bias) * F + m / sh, decide (m % sh = 0))
def narrow2 (x : Int) : Int × Bool := narrowCore (x / 9223372036854775808) (x / 4503599627370496 % 2048) (x % 4503599627370496) 31 15 10 32768 1024 4398046511104
def narrow4 (x : Int) : Int × Bool := narrowCore (x / 9223372036854775808) (x / 4503599627370496 % 2048) (x % 4503599627370496) 255 127 23 2147483648 8388608 536870912
set_option maxRecDepth 100000 in
set_option maxHeartbeats 4000000 in
theorem narrow_2 (x : Int) (h : U64 x) (w : World) (hd : Dbl w) : Calls Tryd.prog 223 #[.int .u64 x, .int .i64 2] w fun e w' => e = .returned (.tuple #[.int .u64 (narrow2 x).1, .bool (narrow2 x).2]) ∧ Below w.heap.size w w' := by
  have hd' := Lib.hid hd
  clear hd
  go_enter Tryd.func223, Tryd.ntmps223
  go_wp2_with fail
  refine (forms_2 _).mono ?_
  rintro ev w1 ⟨rfl, hb1⟩
  have B1 := Lib.hid hb1
  have J2 := Lib.hid (FI.start hd'.out B1.out 5 10)
  clear hb1
  obtain ⟨-, ⟨d0, d1⟩, f0, f1⟩ := J2.out
  go_wp2_with fail
  generalize w1.alloc (.cells #[.int .i64 5, .int .i64 10] 267) = w2 at J2 ⊢ d0 d1 f0 f1
  generalize w1.heap.size = T at J2 ⊢ f0 f1
  clear B1 hd' d0 d1 f0 f1
  refine (split_11 x h _).mono ?_
  rintro ev w3 ⟨rfl, hb3⟩
  have J3 := Lib.hid (J2.out.below hb3)
  clear hb3 J2
  obtain ⟨s, hs⟩ : ∃ s, s = x / 9223372036854775808 := ⟨_, rfl⟩
  obtain ⟨e, he⟩ : ∃ e, e = x / 4503599627370496 % 2048 := ⟨_, rfl⟩
  obtain ⟨m, hm⟩ : ∃ m, m = x % 4503599627370496 := ⟨_, rfl⟩
  have Heq := Lib.hid (show narrow2 x = narrowCore s e m 31 15 10 32768 1024 4398046511104 by rw [hs, he, hm]; rfl)
  have s0 : 0 ≤ s := by have := h.1; omega
  have s1 : s ≤ 1 := by have := h.2; omega
  have e0 : 0 ≤ e := by omega
  have e1 : e ≤ 2047 := by omega
  have m0 : 0 ≤ m := by omega
  have m1 : m < 4503599627370496 := by omega
  rw [← hs, ← he, ← hm]
  clear hs he hm
  obtain ⟨-, ⟨d0, d1⟩, f0, f1⟩ := J3.out
  go_wp2_with fail
  have kd0 := cell_regrown d0
  have kd1 := cell_regrown d1
  have kf0 := cell_regrown f0
  have kf1 := cell_regrown f1
  have cF : ∀ d os, Calls Tryd.prog 177 #[.agg #[.int .i64 5, .int .i64 10]] (grow (redrawn w3 d) os) fun ev w'' => ev = .returned (.int .i64 15) ∧ ∃ q : Regrown, w'' = grow (redrawn w3 q.d) q.os := fun d os => Calls.regrown_of (bias_5 _ _)
  have cD : ∀ d os, Calls Tryd.prog 177 #[.agg #[.int .i64 11, .int .i64 52]] (grow (redrawn w3 d) os) fun ev w'' => ev = .returned (.int .i64 1023) ∧ ∃ q : Regrown, w'' = grow (redrawn w3 q.d) q.os := fun d os => Calls.regrown_of (bias_11 _ _)
  have cF' := Lib.hid cF
  have cD' := Lib.hid cD
  clear cF cD d0 d1 f0 f1
  have q0 := wrapI64 e (by omega) (by omega)
  have q1 := wrapI64 (e - 1023) (by omega) (by omega)
  have q2 := wrapI64 (e - 1023 + 15) (by omega) (by omega)
  refine wp_region_quiet_below (by kernel_rfl) (by kernel_rfl) ?_
  repeat (quiet_step (first | (with_reducible exact cF'.out _ _) | (with_reducible exact cD'.out _ _)))
  refine wpQuiet_nil ?_
  intro w4 hw4
  obtain ⟨⟨dq, osq⟩, hw''⟩ := hw4
  have J4 := Lib.hid (show FI w T 5 10 w4 by rw [hw'']; exact J3.out.below (below_regrown w3 dq osq))
  clear hw'' kd0 kd1 kf0 kf1 cF' cD' J3 q0 q1 q2
  obtain ⟨-, ⟨d0, d1⟩, f0, f1⟩ := J4.out
  go_wp2_with fail
  refine (top_11 _ _).mono ?_
  rintro ev w5 ⟨rfl, hb5⟩
  have J5 := Lib.hid (J4.out.below hb5)
  clear hb5 J4 d0 d1 f0 f1
  obtain ⟨-, ⟨d0, d1⟩, f0, f1⟩ := J5.out
  have kf0 := cell_regrown f0
  have kf1 := cell_regrown f1
  by_cases he : e = 2047
  · subst he
    have cF : ∀ d os, Calls Tryd.prog 178 #[.agg #[.int .i64 5, .int .i64 10]] (grow (redrawn w5 d) os) fun ev w'' => ev = .returned (.int .u64 31) ∧ ∃ q : Regrown, w'' = grow (redrawn w5 q.d) q.os := fun d os => Calls.regrown_of (top_5 _ _)
    have cF' := Lib.hid cF
    have hor : bits .or .u64 (s * 32768) 31744 = s * 32768 + 31744 := bits_join .u64 64 (by decide) wrapsU64 15 (s * 32768) 31744 (by omega) (by omega) (by omega) (by omega) (by omega) (by omega)
    have hw1 : IntKind.u64.wrap 31744 = 31744 := by decide
    clear cF
    go_wp2_with fail
    refine wp_region_quiet_below (by kernel_rfl) (by kernel_rfl) ?_
    repeat (quiet_step (first | (with_reducible exact cF'.out _ _)))
    refine wpQuiet_nil ?_
    intro w6 hw6
    obtain ⟨⟨dq, osq⟩, hw''⟩ := hw6
    have B6 := Lib.hid (show Below w.heap.size w w6 by rw [hw'']; exact then_below J5.out.1 (below_regrown w5 dq osq))
    clear hw'' kf0 kf1 cF' J5 d0 d1 f0 f1
    go_wp2_with fail
    go_ret2
    refine ⟨?_, B6.out⟩
    rw [Heq.out]
    simp [narrowCore]
  · have he1 : ((e : Int) == 2047) = false := by simpa using he
    have he' := Lib.hid he
    clear he
    by_cases hz : e = 0
    · subst hz
      go_wp2_with fail
      go_ret2
      refine ⟨?_, J5.out.1⟩
      have hc : narrowCore s 0 m 31 15 10 32768 1024 4398046511104 = (s * 32768, decide (m = 0)) := by
        unfold narrowCore; rw [if_neg (by decide), if_pos rfl]
      rw [Heq.out, hc]
      rfl
    · have hz1 : ((e : Int) == 0) = false := by simpa using hz
      have hz' := Lib.hid hz
      clear hz
      have hN := Lib.hid (show narrowCore s e m 31 15 10 32768 1024 4398046511104 = (if 31 ≤ e - 1023 + 15 then (0, false)
        else if e - 1023 + 15 ≤ 0 then
          (if 53 < 52 - 10 + (1 - (e - 1023 + 15)) then (0, false)
           else (s * 32768 + (m + 4503599627370496) / 2 ^ (52 - 10 + (1 - (e - 1023 + 15))).toNat, decide ((m + 4503599627370496) % 2 ^ (52 - 10 + (1 - (e - 1023 + 15))).toNat = 0)))
        else (s * 32768 + (e - 1023 + 15) * 1024 + m / 4398046511104, decide (m % 4398046511104 = 0))) by
        unfold narrowCore; rw [if_neg he'.out, if_neg hz'.out])
      obtain ⟨P, hP⟩ : ∃ P, P = e - 1023 + 15 := ⟨_, rfl⟩
      have p0 : -1100 ≤ P := by omega
      have p1 : P ≤ 1200 := by omega
      have hN' := Lib.hid (hP ▸ hN.out)
      have J5b := J5
      clear kf0 kf1 hN
      rw [← hP]
      clear hP
      go_wp2_with fail
      refine (top_5 _ _).mono ?_
      rintro ev w6 ⟨rfl, hb6⟩
      have J6 := Lib.hid (J5.out.below hb6)
      clear hb6 J5 J5b d0 d1 f0 f1
      obtain ⟨-, ⟨d0, d1⟩, f0, f1⟩ := J6.out
      have kf0 := cell_regrown f0
      have kf1 := cell_regrown f1
      by_cases ht : 31 ≤ P
      · go_wp2_with fail
        go_ret2
        refine ⟨?_, J6.out.1⟩
        rw [Heq.out, hN'.out, if_pos (by omega)]
        rfl
      · by_cases hp : P ≤ 0
        · by_cases hl : 53 < 52 - 10 + (1 - P)
          · have hl' : 53 < 52 - 10 + (1 - P) := hl
            go_wp2_with fail
            go_ret2
            refine ⟨?_, J6.out.1⟩
            rw [Heq.out, hN'.out, if_neg (by omega), if_pos (by omega), if_pos (by omega)]
            rfl
          · have ho := or52 m m0 m1
            go_wp2_with fail
            obtain ⟨L, hL⟩ : ∃ L : Nat, 42 + (1 - P) = (L : Int) := ⟨(42 + (1 - P)).toNat, by omega⟩
            have l0 : 42 + 1 ≤ L := by omega
            have l1 : L ≤ 53 := by omega
            rw [hL]
            have hL' := Lib.hid hL
            clear hL
            refine wp_region_quiet_below (by kernel_rfl) (by kernel_rfl) ?_
            repeat (quiet_step (fail))
            refine wpQuiet_nil ?_
            intro w7 hw7
            obtain ⟨⟨dq, osq⟩, hw''⟩ := hw7
            have B7 := Lib.hid (show Below w.heap.size w w7 by rw [hw'']; exact then_below J6.out.1 (below_regrown w6 dq osq))
            clear hw'' kf0 kf1 d0 d1 f0 f1 J6
            have hfin := Lib.hid (narrow_fin s m 32768 1024 15 10 L s0 m0 m1 (by decide) (by omega) (by omega) (by decide) (by decide) (by decide) (by decide) (by omega) l1)
            go_wp2_with fail
            go_ret2
            refine ⟨?_, B7.out⟩
            have hn : (52 - 10 + (1 - P)).toNat = L := by have := hL'.out; omega
            rw [Heq.out, hN'.out, if_neg (by omega), if_pos (by omega), if_neg (by have := hL'.out; omega), hn]
            exact congrArg Ending.returned (congrArg Value.tuple (by rw [← hfin.out.1, ← hfin.out.2]; rfl))
        · go_wp2_with fail
          have q1 := wrapsU64 P (by omega) (by omega)
          have q2 := wrapsU64 (P * 1024) (by omega) (by omega)
          have q3 : IntKind.u64.wrap 4398046511104 = 4398046511104 := by decide
          have q4 : IntKind.u64.wrap (4398046511104 - 1) = 4398046511104 - 1 := by decide
          have q4' : IntKind.u64.wrap 4398046511103 = 4398046511103 := by decide
          have o1 := bits_join .u64 64 (by decide) wrapsU64 15 (s * 32768) (P * 1024) (by omega) (by omega) (by omega) (by omega) (by omega) (by omega)
          have o2 := bits_join .u64 64 (by decide) wrapsU64 10 (s * 32768 + P * 1024) (m / 4398046511104) (by omega) (by omega) (by omega) (by omega) (by omega) (by omega)
          have o3 : bits .and .u64 m 4398046511103 = m % 4398046511104 := maskU64 42 (by decide) m (by omega) (by omega)
          refine wp_region_quiet_below (by kernel_rfl) (by kernel_rfl) ?_
          repeat (quiet_step (fail))
          refine wpQuiet_nil ?_
          intro w7 hw7
          obtain ⟨⟨dq, osq⟩, hw''⟩ := hw7
          have B7 := Lib.hid (show Below w.heap.size w w7 by rw [hw'']; exact then_below J6.out.1 (below_regrown w6 dq osq))
          clear hw'' kf0 kf1 d0 d1 f0 f1 J6
          go_wp2_with fail
          go_ret2
          refine ⟨?_, B7.out⟩
          rw [Heq.out, hN'.out, if_neg (by omega), if_neg (by omega)]
          rfl
set_option maxRecDepth 100000 in
set_option maxHeartbeats 4000000 in
theorem narrow_4 (x : Int) (h : U64 x) (w : World) (hd : Dbl w) : Calls Tryd.prog 223 #[.int .u64 x, .int .i64 4] w fun e w' => e = .returned (.tuple #[.int .u64 (narrow4 x).1, .bool (narrow4 x).2]) ∧ Below w.heap.size w w' := by
  have hd' := Lib.hid hd
  clear hd
  go_enter Tryd.func223, Tryd.ntmps223
  go_wp2_with fail
  refine (forms_4 _).mono ?_
  rintro ev w1 ⟨rfl, hb1⟩
  have B1 := Lib.hid hb1
  have J2 := Lib.hid (FI.start hd'.out B1.out 8 23)
  clear hb1
  obtain ⟨-, ⟨d0, d1⟩, f0, f1⟩ := J2.out
  go_wp2_with fail
  generalize w1.alloc (.cells #[.int .i64 8, .int .i64 23] 267) = w2 at J2 ⊢ d0 d1 f0 f1
  generalize w1.heap.size = T at J2 ⊢ f0 f1
  clear B1 hd' d0 d1 f0 f1
  refine (split_11 x h _).mono ?_
  rintro ev w3 ⟨rfl, hb3⟩
  have J3 := Lib.hid (J2.out.below hb3)
  clear hb3 J2
  obtain ⟨s, hs⟩ : ∃ s, s = x / 9223372036854775808 := ⟨_, rfl⟩
  obtain ⟨e, he⟩ : ∃ e, e = x / 4503599627370496 % 2048 := ⟨_, rfl⟩
  obtain ⟨m, hm⟩ : ∃ m, m = x % 4503599627370496 := ⟨_, rfl⟩
  have Heq := Lib.hid (show narrow4 x = narrowCore s e m 255 127 23 2147483648 8388608 536870912 by rw [hs, he, hm]; rfl)
  have s0 : 0 ≤ s := by have := h.1; omega
  have s1 : s ≤ 1 := by have := h.2; omega
  have e0 : 0 ≤ e := by omega
  have e1 : e ≤ 2047 := by omega
  have m0 : 0 ≤ m := by omega
  have m1 : m < 4503599627370496 := by omega
  rw [← hs, ← he, ← hm]
  clear hs he hm
  obtain ⟨-, ⟨d0, d1⟩, f0, f1⟩ := J3.out
  go_wp2_with fail
  have kd0 := cell_regrown d0
  have kd1 := cell_regrown d1
  have kf0 := cell_regrown f0
  have kf1 := cell_regrown f1
  have cF : ∀ d os, Calls Tryd.prog 177 #[.agg #[.int .i64 8, .int .i64 23]] (grow (redrawn w3 d) os) fun ev w'' => ev = .returned (.int .i64 127) ∧ ∃ q : Regrown, w'' = grow (redrawn w3 q.d) q.os := fun d os => Calls.regrown_of (bias_8 _ _)
  have cD : ∀ d os, Calls Tryd.prog 177 #[.agg #[.int .i64 11, .int .i64 52]] (grow (redrawn w3 d) os) fun ev w'' => ev = .returned (.int .i64 1023) ∧ ∃ q : Regrown, w'' = grow (redrawn w3 q.d) q.os := fun d os => Calls.regrown_of (bias_11 _ _)
  have cF' := Lib.hid cF
  have cD' := Lib.hid cD
  clear cF cD d0 d1 f0 f1
  have q0 := wrapI64 e (by omega) (by omega)
  have q1 := wrapI64 (e - 1023) (by omega) (by omega)
  have q2 := wrapI64 (e - 1023 + 127) (by omega) (by omega)
  refine wp_region_quiet_below (by kernel_rfl) (by kernel_rfl) ?_
  repeat (quiet_step (first | (with_reducible exact cF'.out _ _) | (with_reducible exact cD'.out _ _)))
  refine wpQuiet_nil ?_
  intro w4 hw4
  obtain ⟨⟨dq, osq⟩, hw''⟩ := hw4
  have J4 := Lib.hid (show FI w T 8 23 w4 by rw [hw'']; exact J3.out.below (below_regrown w3 dq osq))
  clear hw'' kd0 kd1 kf0 kf1 cF' cD' J3 q0 q1 q2
  obtain ⟨-, ⟨d0, d1⟩, f0, f1⟩ := J4.out
  go_wp2_with fail
  refine (top_11 _ _).mono ?_
  rintro ev w5 ⟨rfl, hb5⟩
  have J5 := Lib.hid (J4.out.below hb5)
  clear hb5 J4 d0 d1 f0 f1
  obtain ⟨-, ⟨d0, d1⟩, f0, f1⟩ := J5.out
  have kf0 := cell_regrown f0
  have kf1 := cell_regrown f1
  by_cases he : e = 2047
  · subst he
    have cF : ∀ d os, Calls Tryd.prog 178 #[.agg #[.int .i64 8, .int .i64 23]] (grow (redrawn w5 d) os) fun ev w'' => ev = .returned (.int .u64 255) ∧ ∃ q : Regrown, w'' = grow (redrawn w5 q.d) q.os := fun d os => Calls.regrown_of (top_8 _ _)
    have cF' := Lib.hid cF
    have hor : bits .or .u64 (s * 2147483648) 2139095040 = s * 2147483648 + 2139095040 := bits_join .u64 64 (by decide) wrapsU64 31 (s * 2147483648) 2139095040 (by omega) (by omega) (by omega) (by omega) (by omega) (by omega)
    have hw1 : IntKind.u64.wrap 2139095040 = 2139095040 := by decide
    clear cF
    go_wp2_with fail
    refine wp_region_quiet_below (by kernel_rfl) (by kernel_rfl) ?_
    repeat (quiet_step (first | (with_reducible exact cF'.out _ _)))
    refine wpQuiet_nil ?_
    intro w6 hw6
    obtain ⟨⟨dq, osq⟩, hw''⟩ := hw6
    have B6 := Lib.hid (show Below w.heap.size w w6 by rw [hw'']; exact then_below J5.out.1 (below_regrown w5 dq osq))
    clear hw'' kf0 kf1 cF' J5 d0 d1 f0 f1
    go_wp2_with fail
    go_ret2
    refine ⟨?_, B6.out⟩
    rw [Heq.out]
    simp [narrowCore]
  · have he1 : ((e : Int) == 2047) = false := by simpa using he
    have he' := Lib.hid he
    clear he
    by_cases hz : e = 0
    · subst hz
      go_wp2_with fail
      go_ret2
      refine ⟨?_, J5.out.1⟩
      have hc : narrowCore s 0 m 255 127 23 2147483648 8388608 536870912 = (s * 2147483648, decide (m = 0)) := by
        unfold narrowCore; rw [if_neg (by decide), if_pos rfl]
      rw [Heq.out, hc]
      rfl
    · have hz1 : ((e : Int) == 0) = false := by simpa using hz
      have hz' := Lib.hid hz
      clear hz
      have hN := Lib.hid (show narrowCore s e m 255 127 23 2147483648 8388608 536870912 = (if 255 ≤ e - 1023 + 127 then (0, false)
        else if e - 1023 + 127 ≤ 0 then
          (if 53 < 52 - 23 + (1 - (e - 1023 + 127)) then (0, false)
           else (s * 2147483648 + (m + 4503599627370496) / 2 ^ (52 - 23 + (1 - (e - 1023 + 127))).toNat, decide ((m + 4503599627370496) % 2 ^ (52 - 23 + (1 - (e - 1023 + 127))).toNat = 0)))
        else (s * 2147483648 + (e - 1023 + 127) * 8388608 + m / 536870912, decide (m % 536870912 = 0))) by
        unfold narrowCore; rw [if_neg he'.out, if_neg hz'.out])
      obtain ⟨P, hP⟩ : ∃ P, P = e - 1023 + 127 := ⟨_, rfl⟩
      have p0 : -1100 ≤ P := by omega
      have p1 : P ≤ 1200 := by omega
      have hN' := Lib.hid (hP ▸ hN.out)
      have J5b := J5
      clear kf0 kf1 hN
      rw [← hP]
      clear hP
      go_wp2_with fail
      refine (top_8 _ _).mono ?_
      rintro ev w6 ⟨rfl, hb6⟩
      have J6 := Lib.hid (J5.out.below hb6)
      clear hb6 J5 J5b d0 d1 f0 f1
      obtain ⟨-, ⟨d0, d1⟩, f0, f1⟩ := J6.out
      have kf0 := cell_regrown f0
      have kf1 := cell_regrown f1
      by_cases ht : 255 ≤ P
      · go_wp2_with fail
        go_ret2
        refine ⟨?_, J6.out.1⟩
        rw [Heq.out, hN'.out, if_pos (by omega)]
        rfl
      · by_cases hp : P ≤ 0
        · by_cases hl : 53 < 52 - 23 + (1 - P)
          · have hl' : 53 < 52 - 23 + (1 - P) := hl
            go_wp2_with fail
            go_ret2
            refine ⟨?_, J6.out.1⟩
            rw [Heq.out, hN'.out, if_neg (by omega), if_pos (by omega), if_pos (by omega)]
            rfl
          · have ho := or52 m m0 m1
            go_wp2_with fail
            obtain ⟨L, hL⟩ : ∃ L : Nat, 29 + (1 - P) = (L : Int) := ⟨(29 + (1 - P)).toNat, by omega⟩
            have l0 : 29 + 1 ≤ L := by omega
            have l1 : L ≤ 53 := by omega
            rw [hL]
            have hL' := Lib.hid hL
            clear hL
            refine wp_region_quiet_below (by kernel_rfl) (by kernel_rfl) ?_
            repeat (quiet_step (fail))
            refine wpQuiet_nil ?_
            intro w7 hw7
            obtain ⟨⟨dq, osq⟩, hw''⟩ := hw7
            have B7 := Lib.hid (show Below w.heap.size w w7 by rw [hw'']; exact then_below J6.out.1 (below_regrown w6 dq osq))
            clear hw'' kf0 kf1 d0 d1 f0 f1 J6
            have hfin := Lib.hid (narrow_fin s m 2147483648 8388608 31 23 L s0 m0 m1 (by decide) (by omega) (by omega) (by decide) (by decide) (by decide) (by decide) (by omega) l1)
            go_wp2_with fail
            go_ret2
            refine ⟨?_, B7.out⟩
            have hn : (52 - 23 + (1 - P)).toNat = L := by have := hL'.out; omega
            rw [Heq.out, hN'.out, if_neg (by omega), if_pos (by omega), if_neg (by have := hL'.out; omega), hn]
            exact congrArg Ending.returned (congrArg Value.tuple (by rw [← hfin.out.1, ← hfin.out.2]; rfl))
        · go_wp2_with fail
          have q1 := wrapsU64 P (by omega) (by omega)
          have q2 := wrapsU64 (P * 8388608) (by omega) (by omega)
          have q3 : IntKind.u64.wrap 536870912 = 536870912 := by decide
          have q4 : IntKind.u64.wrap (536870912 - 1) = 536870912 - 1 := by decide
          have q4' : IntKind.u64.wrap 536870911 = 536870911 := by decide
          have o1 := bits_join .u64 64 (by decide) wrapsU64 31 (s * 2147483648) (P * 8388608) (by omega) (by omega) (by omega) (by omega) (by omega) (by omega)
          have o2 := bits_join .u64 64 (by decide) wrapsU64 23 (s * 2147483648 + P * 8388608) (m / 536870912) (by omega) (by omega) (by omega) (by omega) (by omega) (by omega)
          have o3 : bits .and .u64 m 536870911 = m % 536870912 := maskU64 29 (by decide) m (by omega) (by omega)
          refine wp_region_quiet_below (by kernel_rfl) (by kernel_rfl) ?_
          repeat (quiet_step (fail))
          refine wpQuiet_nil ?_
          intro w7 hw7
          obtain ⟨⟨dq, osq⟩, hw''⟩ := hw7
          have B7 := Lib.hid (show Below w.heap.size w w7 by rw [hw'']; exact then_below J6.out.1 (below_regrown w6 dq osq))
          clear hw'' kf0 kf1 d0 d1 f0 f1 J6
          go_wp2_with fail
          go_ret2
          refine ⟨?_, B7.out⟩
          rw [Heq.out, hN'.out, if_neg (by omega), if_neg (by omega)]
          rfl
end Go.Proofs.YtceddcogpigolaaDoor
