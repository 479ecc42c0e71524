/- head.begin, head.long and the reader, by contracts. -/
import Derived.Test.YtceddcogpigolaaDoorMem
import Derived.Test.YtceddcogpigolaaDoorFloatD
namespace Go.Proofs.YtceddcogpigolaaDoor
open Go.RowKit Go.Sort

structure Hd where
  mj : Int
  wd : Int
  arg : Int
def Hd.cells (h : Hd) : List Value := [.int .i64 h.mj, .int .i64 h.wd, .int .u64 h.arg]
def Hd.val (h : Hd) : Value := .agg #[.int .i64 h.mj, .int .i64 h.wd, .int .u64 h.arg]
def hdBegin (c : Int) : Hd × Int :=
  if c % 32 = 31 then (⟨c / 32, 0, 31⟩, if 2 ≤ c / 32 ∧ c / 32 ≤ 5 then 5 else 2)
  else if 28 ≤ c % 32 then (⟨c / 32, 0, c % 32⟩, 2)
  else if c % 32 = 27 then (⟨c / 32, 8, 0⟩, 0)
  else if c % 32 = 26 then (⟨c / 32, 4, 0⟩, 0)
  else if c % 32 = 25 then (⟨c / 32, 2, 0⟩, 0)
  else if c % 32 = 24 then (⟨c / 32, 1, 0⟩, 0)
  else (⟨c / 32, 0, c % 32⟩, 0)
theorem wrapsU8 (n : Int) (h0 : 0 ≤ n) (h1 : n < 2 ^ 8) : IntKind.u8.wrap n = n := by rw [IntKind.wrap_u8]; omega

set_option maxRecDepth 100000 in
set_option maxHeartbeats 4000000 in
theorem head_begin (c : Int) (h0 : 0 ≤ c) (h1 : c < 256) (w : World) : Calls Tryd.prog 213 #[.int .u8 c] w fun e w' => e = .returned (.tuple #[(hdBegin c).1.val, .int .i64 (hdBegin c).2]) ∧ Below w.heap.size w w' := by
  have m1 : bits .and .u8 c 31 = c % 32 := bits_mask .u8 8 (by decide) wrapsU8 5 (by decide) c h0 h1
  have U := Lib.hid (show hdBegin c = _ from rfl)
  have q0 : 0 ≤ c / 32 := by omega
  have q1 : c / 32 < 8 := by omega
  have r0 : 0 ≤ c % 32 := by omega
  have r1 : c % 32 < 32 := by omega
  have U2 := Lib.hid (show hdBegin c = (if c % 32 = 31 then (⟨c / 32, 0, 31⟩, if 2 ≤ c / 32 ∧ c / 32 ≤ 5 then 5 else 2)
  else if 28 ≤ c % 32 then (⟨c / 32, 0, c % 32⟩, 2)
  else if c % 32 = 27 then (⟨c / 32, 8, 0⟩, 0)
  else if c % 32 = 26 then (⟨c / 32, 4, 0⟩, 0)
  else if c % 32 = 25 then (⟨c / 32, 2, 0⟩, 0)
  else if c % 32 = 24 then (⟨c / 32, 1, 0⟩, 0)
  else (⟨c / 32, 0, c % 32⟩, 0)) from rfl)
  clear U
  have hq : ∃ q, c / 32 = q := ⟨_, rfl⟩
  have hr : ∃ r, c % 32 = r := ⟨_, rfl⟩
  obtain ⟨q, hq⟩ := hq
  obtain ⟨r, hr⟩ := hr
  rw [hq, hr] at U2
  rw [hq] at q0 q1
  rw [hr] at r0 r1 m1
  generalize hdBegin c = res at U2
  clear hr
  rcases (show r < 24 ∨ r = 24 ∨ r = 25 ∨ r = 26 ∨ r = 27 ∨ r = 28 ∨ r = 29 ∨ r = 30 ∨ r = 31 by omega) with hr | rfl | rfl | rfl | rfl | rfl | rfl | rfl | rfl
  · have U := Lib.hid (show res = (⟨q, 0, r⟩, 0) by rw [U2.out]; (repeat' split) <;> first | rfl | omega)
    clear U2
    have t31 : ((r : Int) == 31) = false := by simp; omega
    have t28 : ((r : Int) == 28) = false := by simp; omega
    have t29 : ((r : Int) == 29) = false := by simp; omega
    have t30 : ((r : Int) == 30) = false := by simp; omega
    have t24 : ((r : Int) == 24) = false := by simp; omega
    have t25 : ((r : Int) == 25) = false := by simp; omega
    have t26 : ((r : Int) == 26) = false := by simp; omega
    have t27 : ((r : Int) == 27) = false := by simp; omega
    go_enter Tryd.func213, Tryd.ntmps213
    go_wp2_with fail
    go_returns
    refine ⟨by rw [U.out]; rfl, ?_⟩
    go_grown
  · have U := Lib.hid (show res = (⟨q, 1, 0⟩, 0) by rw [U2.out]; (repeat' split) <;> first | rfl | omega)
    clear U2
    go_enter Tryd.func213, Tryd.ntmps213
    go_wp2_with fail
    go_returns
    refine ⟨by rw [U.out]; rfl, ?_⟩
    go_grown
  · have U := Lib.hid (show res = (⟨q, 2, 0⟩, 0) by rw [U2.out]; (repeat' split) <;> first | rfl | omega)
    clear U2
    go_enter Tryd.func213, Tryd.ntmps213
    go_wp2_with fail
    go_returns
    refine ⟨by rw [U.out]; rfl, ?_⟩
    go_grown
  · have U := Lib.hid (show res = (⟨q, 4, 0⟩, 0) by rw [U2.out]; (repeat' split) <;> first | rfl | omega)
    clear U2
    go_enter Tryd.func213, Tryd.ntmps213
    go_wp2_with fail
    go_returns
    refine ⟨by rw [U.out]; rfl, ?_⟩
    go_grown
  · have U := Lib.hid (show res = (⟨q, 8, 0⟩, 0) by rw [U2.out]; (repeat' split) <;> first | rfl | omega)
    clear U2
    go_enter Tryd.func213, Tryd.ntmps213
    go_wp2_with fail
    go_returns
    refine ⟨by rw [U.out]; rfl, ?_⟩
    go_grown
  · have U := Lib.hid (show res = (⟨q, 0, 28⟩, 2) by rw [U2.out]; (repeat' split) <;> first | rfl | omega)
    clear U2
    go_enter Tryd.func213, Tryd.ntmps213
    go_wp2_with fail
    go_returns
    refine ⟨by rw [U.out]; rfl, ?_⟩
    go_grown
  · have U := Lib.hid (show res = (⟨q, 0, 29⟩, 2) by rw [U2.out]; (repeat' split) <;> first | rfl | omega)
    clear U2
    go_enter Tryd.func213, Tryd.ntmps213
    go_wp2_with fail
    go_returns
    refine ⟨by rw [U.out]; rfl, ?_⟩
    go_grown
  · have U := Lib.hid (show res = (⟨q, 0, 30⟩, 2) by rw [U2.out]; (repeat' split) <;> first | rfl | omega)
    clear U2
    go_enter Tryd.func213, Tryd.ntmps213
    go_wp2_with fail
    go_returns
    refine ⟨by rw [U.out]; rfl, ?_⟩
    go_grown
  · rcases (show q < 2 ∨ (2 ≤ q ∧ q ≤ 5) ∨ 5 < q by omega) with hq2 | ⟨hq2, hq3⟩ | hq2
    · have U := Lib.hid (show res = (⟨q, 0, 31⟩, 2) by rw [U2.out]; simp <;> omega)
      clear U2
      go_enter Tryd.func213, Tryd.ntmps213
      go_wp2_with fail
      go_returns
      refine ⟨by rw [U.out]; rfl, ?_⟩
      go_grown
    · have U := Lib.hid (show res = (⟨q, 0, 31⟩, 5) by rw [U2.out]; simp <;> omega)
      clear U2
      go_enter Tryd.func213, Tryd.ntmps213
      go_wp2_with fail
      go_returns
      refine ⟨by rw [U.out]; rfl, ?_⟩
      go_grown
    · have U := Lib.hid (show res = (⟨q, 0, 31⟩, 2) by rw [U2.out]; simp <;> omega)
      clear U2
      go_enter Tryd.func213, Tryd.ntmps213
      go_wp2_with fail
      go_returns
      refine ⟨by rw [U.out]; rfl, ?_⟩
      go_grown

def hdLong (h : Hd) : Bool :=
  if h.wd = 0 then false
  else if h.mj = 7 then decide (1 < h.wd) && !shortB h.arg h.wd
  else if h.wd = 1 then decide (h.arg < 24)
  else decide (h.arg / 2 ^ (4 * h.wd).toNat = 0)
def Hd.fit (h : Hd) : Prop := 0 ≤ h.mj ∧ h.mj < 8 ∧ (h.wd = 0 ∨ h.wd = 1 ∨ h.wd = 2 ∨ h.wd = 4 ∨ h.wd = 8) ∧ U64 h.arg

set_option maxRecDepth 100000 in
set_option maxHeartbeats 4000000 in
theorem head_long (h : Hd) (hf : h.fit) (w : World) (hd : Dbl w) : Calls Tryd.prog 236 #[h.val] w fun e w' => e = .returned (.bool (hdLong h)) ∧ Below w.heap.size w w' := by
  obtain ⟨mj, wd, arg⟩ := h
  obtain ⟨f0, f1, f2, f3⟩ := hf
  dsimp only at f0 f1 f2 f3
  have D := Lib.hid hd
  clear hd
  have A := Lib.hid f3
  obtain ⟨a0, a1⟩ := f3
  by_cases hmj : mj = 7
  · subst hmj
    rcases f2 with rfl | rfl | rfl | rfl | rfl
    · have U := Lib.hid (show hdLong ⟨7, 0, arg⟩ = false by simp [hdLong])
      go_enter Tryd.func236, Tryd.ntmps236
      simp only [Hd.val]
      go_wp2_with fail
      go_returns
      refine ⟨by rw [U.out]; rfl, ?_⟩
      go_grown
    · have U := Lib.hid (show hdLong ⟨7, 1, arg⟩ = false by simp [hdLong])
      go_enter Tryd.func236, Tryd.ntmps236
      simp only [Hd.val]
      go_wp2_with fail
      go_returns
      refine ⟨by rw [U.out]; rfl, ?_⟩
      go_grown
    · have U := Lib.hid (show hdLong ⟨7, 2, arg⟩ = !shortB arg 2 by simp [hdLong])
      have S := Lib.hid (short_w arg 2 A.out (by decide))
      generalize shortB arg 2 = sb at U S
      go_enter Tryd.func236, Tryd.ntmps236
      simp only [Hd.val]
      go_wp2_with fail
      refine (S.out _ (by first | exact D.out | exact D.out.below (by go_grown))).mono ?_
      rintro ev w1 ⟨rfl, hb1⟩
      have B1 := Lib.hid hb1
      clear hb1
      go_wp2_with fail
      go_returns
      refine ⟨by rw [U.out]; rfl, ?_⟩
      exact then_below (by go_grown) B1.out
    · have U := Lib.hid (show hdLong ⟨7, 4, arg⟩ = !shortB arg 4 by simp [hdLong])
      have S := Lib.hid (short_w arg 4 A.out (by decide))
      generalize shortB arg 4 = sb at U S
      go_enter Tryd.func236, Tryd.ntmps236
      simp only [Hd.val]
      go_wp2_with fail
      refine (S.out _ (by first | exact D.out | exact D.out.below (by go_grown))).mono ?_
      rintro ev w1 ⟨rfl, hb1⟩
      have B1 := Lib.hid hb1
      clear hb1
      go_wp2_with fail
      go_returns
      refine ⟨by rw [U.out]; rfl, ?_⟩
      exact then_below (by go_grown) B1.out
    · have U := Lib.hid (show hdLong ⟨7, 8, arg⟩ = !shortB arg 8 by simp [hdLong])
      have S := Lib.hid (short_w arg 8 A.out (by decide))
      generalize shortB arg 8 = sb at U S
      go_enter Tryd.func236, Tryd.ntmps236
      simp only [Hd.val]
      go_wp2_with fail
      refine (S.out _ (by first | exact D.out | exact D.out.below (by go_grown))).mono ?_
      rintro ev w1 ⟨rfl, hb1⟩
      have B1 := Lib.hid hb1
      clear hb1
      go_wp2_with fail
      go_returns
      refine ⟨by rw [U.out]; rfl, ?_⟩
      exact then_below (by go_grown) B1.out
  · have hmj' : ((mj : Int) == 7) = false := by simpa using hmj
    rcases f2 with rfl | rfl | rfl | rfl | rfl
    · have U := Lib.hid (show hdLong ⟨mj, 0, arg⟩ = false by simp [hdLong, hmj] <;> rfl)
      clear hmj
      go_enter Tryd.func236, Tryd.ntmps236
      simp only [Hd.val]
      go_wp2_with fail
      go_returns
      refine ⟨by rw [U.out]; rfl, ?_⟩
      go_grown
    · have U := Lib.hid (show hdLong ⟨mj, 1, arg⟩ = decide (arg < 24) by simp [hdLong, hmj] <;> rfl)
      clear hmj
      go_enter Tryd.func236, Tryd.ntmps236
      simp only [Hd.val]
      go_wp2_with fail
      go_returns
      refine ⟨by rw [U.out]; rfl, ?_⟩
      go_grown
    · have U := Lib.hid (show hdLong ⟨mj, 2, arg⟩ = decide (arg / 256 = 0) by simp [hdLong, hmj] <;> rfl)
      clear hmj
      go_enter Tryd.func236, Tryd.ntmps236
      simp only [Hd.val]
      go_wp2_with fail
      go_returns
      refine ⟨by rw [U.out]; rfl, ?_⟩
      go_grown
    · have U := Lib.hid (show hdLong ⟨mj, 4, arg⟩ = decide (arg / 65536 = 0) by simp [hdLong, hmj] <;> rfl)
      clear hmj
      go_enter Tryd.func236, Tryd.ntmps236
      simp only [Hd.val]
      go_wp2_with fail
      go_returns
      refine ⟨by rw [U.out]; rfl, ?_⟩
      go_grown
    · have U := Lib.hid (show hdLong ⟨mj, 8, arg⟩ = decide (arg / 4294967296 = 0) by simp [hdLong, hmj] <;> rfl)
      clear hmj
      go_enter Tryd.func236, Tryd.ntmps236
      simp only [Hd.val]
      go_wp2_with fail
      go_returns
      refine ⟨by rw [U.out]; rfl, ?_⟩
      go_grown

end Go.Proofs.YtceddcogpigolaaDoor
