/- float.Shortest and float.Short, by contracts. -/
import Derived.Test.YtceddcogpigolaaDoorFloatC
namespace Go.Proofs.YtceddcogpigolaaDoor
open Go.RowKit Go.Sort

def shortest (x : Int) : Int × Int :=
  if nanB x = true then (32256, 2) else if (narrow2 x).2 = true then ((narrow2 x).1, 2) else if (narrow4 x).2 = true then ((narrow4 x).1, 4) else (x, 8)

set_option maxRecDepth 100000 in
set_option maxHeartbeats 4000000 in
theorem shortest_any (x : Int) (h : U64 x) (w : World) (hd : Dbl w) : Calls Tryd.prog 195 #[.int .u64 x] w fun e w' => e = .returned (.tuple #[.int .u64 (shortest x).1, .int .i64 (shortest x).2]) ∧ Below w.heap.size w w' := by
  have hd' := Lib.hid hd
  clear hd
  have N2 := fun w1 hb => narrow_2 x h w1 hb
  have N4 := fun w1 hb => narrow_4 x h w1 hb
  have S := Lib.hid (show shortest x = if nanB x = true then (32256, 2) else if (narrow2 x).2 = true then ((narrow2 x).1, 2) else if (narrow4 x).2 = true then ((narrow4 x).1, 4) else (x, 8) from rfl)
  generalize narrow2 x = n2 at N2 S
  generalize narrow4 x = n4 at N4 S
  obtain ⟨y2, b2⟩ := n2
  obtain ⟨y4, b4⟩ := n4
  have N2' := Lib.hid N2
  have N4' := Lib.hid N4
  clear N2 N4
  have HN := Lib.hid (NaN_any x h)
  generalize nanB x = bn at HN S
  go_enter Tryd.func195, Tryd.ntmps195
  go_wp2_with fail
  refine (HN.out _ hd'.out).mono ?_
  rintro ev w1 ⟨rfl, hb1⟩
  have B1 := Lib.hid hb1
  clear hb1 HN
  cases bn with
  | true =>
    go_wp2_with fail
    go_ret2
    refine ⟨?_, B1.out⟩
    rw [S.out]; rfl
  | false =>
    go_wp2_with fail
    refine wp_loop_rounds 3 ?_
    rw [rounds_succ]
    go_wp2_with fail
    have B2 := Lib.hid (show Below w.heap.size w (w1.alloc (.cells #[.int .i64 2, .int .i64 4] 3)) from B1.out.alloc B1.out.size _)
    have c1 : (w1.alloc (.cells #[.int .i64 2, .int .i64 4] 3)).cell? ⟨w1.heap.size, 1, none⟩ = some (.int .i64 4) := by simp
    generalize w1.alloc (.cells #[.int .i64 2, .int .i64 4] 3) = w2 at B2 c1 ⊢
    generalize w1.heap.size = T at c1 ⊢
    clear B1
    refine (N2'.out w2 (hd'.out.below B2.out)).mono ?_
    rintro ev w3 ⟨rfl, hb3⟩
    have B3 := Lib.hid (then_below B2.out hb3)
    have c1' : w3.cell? ⟨T, 1, none⟩ = some (.int .i64 4) := (hb3.cell (p := ⟨T, 1, none⟩) (World.block_lt_of_cell? _ ⟨T, 1, none⟩ c1)).trans c1
    clear hb3 B2 c1
    cases b2 with
    | true =>
      go_wp2_with fail
      go_ret2
      refine ⟨?_, B3.out⟩
      rw [S.out]; rfl
    | false =>
      go_wp2_with fail
      rw [rounds_succ]
      go_wp2_with fail
      refine (N4'.out w3 (hd'.out.below B3.out)).mono ?_
      rintro ev w4 ⟨rfl, hb4⟩
      have B4 := Lib.hid (then_below B3.out hb4)
      clear hb4 B3 c1'
      cases b4 with
      | true =>
        go_wp2_with fail
        go_ret2
        refine ⟨?_, B4.out⟩
        rw [S.out]; rfl
      | false =>
        go_wp2_with fail
        rw [rounds_succ]
        go_wp2_with fail
        go_ret2
        refine ⟨?_, B4.out⟩
        rw [S.out]; rfl

def widenW (x width : Int) : Int × Bool :=
  if width = 2 then (if x < 65536 then (widen2 x, true) else (0, false))
  else if width = 4 then (if x < 4294967296 then (widen4 x, true) else (0, false))
  else if width = 8 then (widen8 x, true) else (0, false)
theorem wOut_u64 (s P M : Int) (s0 : 0 ≤ s) (s1 : s ≤ 1) (p0 : 0 ≤ P) (p1 : P ≤ 2047) (m0 : 0 ≤ M) (m1 : M < 4503599627370496) : U64 (wOut s P M) := by
  unfold wOut U64; omega
theorem normK_spec (M : Int) (h0 : 0 < M) (h1 : M < 9007199254740992) : 4503599627370496 ≤ M * 2 ^ normK M ∧ M * 2 ^ normK M < 9007199254740992 ∧ normK M ≤ 52 := by
  obtain ⟨n, rfl⟩ := Int.eq_ofNat_of_zero_le (Int.le_of_lt h0)
  have hn : n ≠ 0 := by intro h; subst h; simp at h0
  have a1 := Nat.log2_self_le hn
  have a2 := Nat.lt_log2_self (n := n)
  have hk : normK (n : Int) = 52 - Nat.log2 n := by simp [normK]
  have hl : Nat.log2 n ≤ 52 := by
    have : 2 ^ Nat.log2 n < 2 ^ 53 := by omega
    have := (Nat.pow_lt_pow_iff_right (a := 2) (by decide)).1 this
    omega
  rw [hk]
  have hc : ((n * 2 ^ (52 - Nat.log2 n) : Nat) : Int) = (n : Int) * 2 ^ (52 - Nat.log2 n) := by simp
  have b1 : 2 ^ 52 ≤ n * 2 ^ (52 - Nat.log2 n) := by
    have : 2 ^ Nat.log2 n * 2 ^ (52 - Nat.log2 n) = 2 ^ 52 := by rw [← Nat.pow_add]; congr 1; omega
    have := Nat.mul_le_mul_right (2 ^ (52 - Nat.log2 n)) a1
    omega
  have b2 : n * 2 ^ (52 - Nat.log2 n) < 2 ^ 53 := by
    have : 2 ^ (Nat.log2 n + 1) * 2 ^ (52 - Nat.log2 n) = 2 ^ 53 := by rw [← Nat.pow_add]; congr 1; omega
    have := Nat.mul_lt_mul_of_pos_right a2 (Nat.two_pow_pos (52 - Nat.log2 n))
    omega
  refine ⟨by omega, by omega, by omega⟩
theorem widenCore_u64 (s e m top bias sh : Int) (s0 : 0 ≤ s) (s1 : s ≤ 1) (e0 : 0 ≤ e) (e1 : e ≤ top) (m0 : 0 ≤ m) (hsh : 0 < sh) (m1 : m * sh < 4503599627370496) (b0 : 1 ≤ bias) (b1 : bias ≤ 127) (t1 : top ≤ 255) : U64 (widenCore s e m top bias sh) := by
  unfold widenCore
  split
  · split
    · exact wOut_u64 _ _ _ s0 s1 (by decide) (by decide) (by decide) (by decide)
    · unfold U64; decide
  · split
    · split
      · exact wOut_u64 _ _ _ s0 s1 (by decide) (by decide) (by decide) (by decide)
      · have hm : 0 < m * sh := Int.mul_pos (by omega) hsh
        have := normK_spec (m * sh) hm (by omega)
        exact wOut_u64 _ _ _ s0 s1 (by omega) (by omega) (by omega) (by omega)
    · have hm : 0 ≤ m * sh := Int.mul_nonneg m0 (by omega)
      exact wOut_u64 _ _ _ s0 s1 (by omega) (by omega) hm m1
theorem widenW_u64 (x width : Int) (h : U64 x) : U64 (widenW x width).1 := by
  have h0 := h.1
  have h1 := h.2
  unfold widenW
  split
  · split
    · exact widenCore_u64 _ _ _ _ _ _ (by omega) (by omega) (by omega) (by omega) (by omega) (by decide) (by omega) (by decide) (by decide) (by decide)
    · unfold U64; decide
  · split
    · split
      · exact widenCore_u64 _ _ _ _ _ _ (by omega) (by omega) (by omega) (by omega) (by omega) (by decide) (by omega) (by decide) (by decide) (by decide)
      · unfold U64; decide
    · split
      · simp only [widen8]
        split
        · unfold U64; decide
        · exact h
      · unfold U64; decide
theorem widen_w (x width : Int) (h : U64 x) (hw : width = 2 ∨ width = 4 ∨ width = 8) (w : World) (hd : Dbl w) : Calls Tryd.prog 128 #[.int .u64 x, .int .i64 width] w fun e w' => e = .returned (.tuple #[.int .u64 (widenW x width).1, .bool (widenW x width).2]) ∧ Below w.heap.size w w' := by
  rcases hw with rfl | rfl | rfl
  · by_cases hx : x < 65536
    · have := widen_2 x h hx w hd
      simpa [widenW, hx] using this
    · have := widen_2_great x h hx w
      simpa [widenW, hx] using this
  · by_cases hx : x < 4294967296
    · have := widen_4 x h hx w hd
      simpa [widenW, hx] using this
    · have := widen_4_great x h hx w
      simpa [widenW, hx] using this
  · have := widen_8 x h w hd
    simpa [widenW] using this
def shortB (x width : Int) : Bool := (widenW x width).2 && decide (shortest (widenW x width).1 = (x, width))

set_option maxHeartbeats 1000000 in
theorem short_w (x width : Int) (h : U64 x) (hw : width = 2 ∨ width = 4 ∨ width = 8) (w : World) (hd : Dbl w) : Calls Tryd.prog 249 #[.int .u64 x, .int .i64 width] w fun e w' => e = .returned (.bool (shortB x width)) ∧ Below w.heap.size w w' := by
  have HW := Lib.hid (widen_w x width h hw)
  have HU := widenW_u64 x width h
  have S := Lib.hid (show shortB x width = ((widenW x width).2 && decide (shortest (widenW x width).1 = (x, width))) from rfl)
  generalize widenW x width = yw at HW HU S
  obtain ⟨y, b⟩ := yw
  have HS := Lib.hid (shortest_any y HU)
  have S2 := Lib.hid (show shortB x width = (b && decide (shortest y = (x, width))) from S.out)
  generalize shortest y = zz at HS S2
  obtain ⟨z, v⟩ := zz
  have hd' := Lib.hid hd
  clear hd S hw h HU
  go_enter Tryd.func249, Tryd.ntmps249
  go_wp2_with fail
  refine (HW.out _ hd'.out).mono ?_
  rintro ev w1 ⟨rfl, hb1⟩
  have B1 := Lib.hid hb1
  clear hb1 HW
  cases b with
  | false =>
    go_wp2_with fail
    go_ret
    exact ⟨by rw [S2.out]; rfl, B1.out⟩
  | true =>
    go_wp2_with fail
    refine (HS.out _ (hd'.out.below B1.out)).mono ?_
    rintro ev w2 ⟨rfl, hb2⟩
    have B2 := Lib.hid (then_below B1.out hb2)
    clear hb2 B1 HS
    by_cases hz : z = x
    · subst hz
      go_wp2_with fail
      go_ret
      refine ⟨?_, B2.out⟩
      rw [S2.out]
      simp [Prod.ext_iff]
      rfl
    · have hz1 : ((z : Int) == x) = false := by simpa using hz
      have hz' := Lib.hid hz
      clear hz
      go_wp2_with fail
      go_ret
      refine ⟨?_, B2.out⟩
      rw [S2.out]
      simp [Prod.ext_iff, hz'.out]
end Go.Proofs.YtceddcogpigolaaDoor
