/- order.Keys.Byte by contract, slot 0. -/
import Derived.Test.YtceddcogpigolaaDoorOrder
namespace Go.Proofs.YtceddcogpigolaaDoor
open Go.RowKit Go.Sort

set_option maxRecDepth 100000 in
set_option maxHeartbeats 8000000 in
theorem ky_byte0 (k x y most : Nat) (l0 l1 : List Int) (ended : Bool) (c : Int) (w : World) (hs : Ky.sits ⟨l0, l1, false, ended⟩ w k x y most) :
    Calls Tryd.prog 207 #[.pointer (some ⟨k, 0, none⟩), .int .u8 c] w fun e w' => e = .returned (.bool (Ky.byte ⟨l0, l1, false, ended⟩ most c).2) ∧ (Ky.byte ⟨l0, l1, false, ended⟩ most c).1.sits w' k x y most ∧ Only (of3 k x y) w w' := by
  have c0 := hs.head.cell 0 (v := sl x l0.length most) rfl
  have c2 := hs.head.cell 2 (v := .int .i64 0) rfl
  simp only [sl] at c0
  have f0 := hs.head.thaw 0 none
  have kx := hs.kx
  have kl := hs.head.lt
  have xl := hs.b0.lt
  have HS := Lib.hid hs
  clear hs
  have k0 := cell_regrown c0
  have k2 := cell_regrown c2
  by_cases hx : l0.length = most
  · have U := Lib.hid (show Ky.byte ⟨l0, l1, false, ended⟩ most c = (⟨l0, l1, false, ended⟩, false) by simp [Ky.byte, Ky.cur, hx])
    generalize Ky.byte ⟨l0, l1, false, ended⟩ most c = res at U
    go_enter Tryd.func207, Tryd.ntmps207
    go_wp2_with fail
    refine wp_region_quiet_below (by kernel_rfl) (by kernel_rfl) ?_
    repeat (quiet_step (fail))
    refine wpQuiet_nil ?_
    intro w1 hw1
    obtain ⟨⟨dq, osq⟩, hw''⟩ := hw1
    have B1 := Lib.hid (show Below w.heap.size w w1 by rw [hw'']; exact below_regrown w dq osq)
    clear hw'' k0 k2
    go_wp2_with fail
    go_returns
    rw [U.out]
    exact ⟨rfl, HS.out.below B1.out, Below.only B1.out _⟩
  · have U := Lib.hid (show Ky.byte ⟨l0, l1, false, ended⟩ most c = (⟨l0 ++ [c], l1, false, ended⟩, true) by simp [Ky.byte, Ky.cur, hx])
    generalize Ky.byte ⟨l0, l1, false, ended⟩ most c = res at U
    have hx' : ((l0.length : Int) == (most : Int)) = false := by simp; omega
    have hlt : Hid (l0.length < most) := by
      obtain ⟨r, _, h2⟩ := HS.out.b0
      have h2 : l0.length + r.length = most := h2
      exact Lib.hid (by omega)
    clear hx
    obtain ⟨i5, hi5, hz5⟩ : ∃ i, Tryd.prog.info? 5 = some i ∧ i.size = 1 := by simpa using info_5
    have I5 := Lib.hid hi5
    have Z5 := Lib.hid hz5
    clear hi5 hz5
    go_enter Tryd.func207, Tryd.ntmps207
    go_wp2_with fail
    refine wp_region_quiet_below (by kernel_rfl) (by kernel_rfl) ?_
    repeat (quiet_step (fail))
    refine wpQuiet_nil ?_
    intro w1 hw1
    obtain ⟨⟨dq, osq⟩, hw''⟩ := hw1
    have B1 := Lib.hid (show Below w.heap.size w w1 by rw [hw'']; exact below_regrown w dq osq)
    clear hw'' k0 k2 c0 c2 f0
    have S1 := Lib.hid (HS.out.below B1.out)
    have c0 := S1.out.head.cell 0 (v := sl x l0.length most) rfl
    have c2 := S1.out.head.cell 2 (v := .int .i64 0) rfl
    simp only [sl] at c0
    have f0 := S1.out.head.thaw 0 none
    have kN : k ≠ w1.heap.size := by have := S1.out.head.lt; omega
    have xN : x ≠ w1.heap.size := by have := S1.out.b0.lt; omega
    have kN' : w1.heap.size ≠ k := kN.symm
    have xN' : w1.heap.size ≠ x := xN.symm
    have kx' : x ≠ k := kx.symm
    have ka : ∀ o, (w1.alloc o).cell? ⟨k, 0, none⟩ = some (.slice (some ⟨x, 0, none⟩) l0.length most) := fun o => (World.cell?_alloc_old _ _ _ kN).trans c0
    have ka2 : ∀ o, (w1.alloc o).cell? ⟨k, 2, none⟩ = some (.int .i64 0) := fun o => (World.cell?_alloc_old _ _ _ kN).trans c2
    have kb : ∀ o, (w1.alloc o).frozen? ⟨k, 0, none⟩ = false := fun o => (World.frozen?_alloc_old _ _ _ kN).trans f0
    go_wp2_with fail
    go_region_law (refine step_append_one (by rfl) _ _ 59 (by rfl) 5 i5 Tryd.underlying59 I5.out Z5.out x l0.length most (by simp [Act.eval, Act.put]) ⟨w1.heap.size, 0, none⟩ 1 (.int .u8 c) (by simp [Act.eval, Act.put]) (one_new _ _ _) rfl hlt.out (S1.out.b0.spare_in _ hlt.out (Below.heap_alloc _ _ _ S1.out.b0.lt)) ?_)
    all_goals go_wp2_with fail
    all_goals go_returns
    all_goals rw [U.out]
    all_goals exact ⟨rfl, ky_pushed0 c S1.out hlt.out, (Below.only B1.out _).trans (ky_push_only0 S1.out)⟩

end Go.Proofs.YtceddcogpigolaaDoor
