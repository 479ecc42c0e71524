/- The functions of package fault, by contracts. -/
import Derived.Test.YtceddcogpigolaaDoorErrIs
namespace Go.Proofs.YtceddcogpigolaaDoor
open Go.RowKit Go.Extern.Stop Go.Stop Go.Extern

/-- errors.errorType holds the handle of the type 'error'. -/
def ErrTy (w : World) : Prop := w.cell? ⟨0, 0, none⟩ = some (.iface 237 (.agg #[.pointer (some ⟨6, 33, none⟩)]))
theorem ErrTy.below {w w' : World} (h : ErrTy w) (hb : Below w.heap.size w w') : ErrTy w' :=
  (hb.cell (p := ⟨0, 0, none⟩) (World.block_lt_of_cell? w ⟨0, 0, none⟩ h)).trans h
theorem Er.In.of_below {w w' : World} {e : Er} (h : e.In w) (hb : Below w.heap.size w w') : e.In w' := h.below fun b o hn => by
  rcases Option.ne_none_iff_exists'.1 hn with ⟨v, hv⟩
  exact hb.cell (p := ⟨b, o, none⟩) (World.block_lt_of_cell? w ⟨b, o, none⟩ hv)

theorem below_then' {w w1 w2 : World} (h : Below w.heap.size w w1) (k : Below w1.heap.size w1 w2) : Below w.heap.size w w2 := h.trans (k.mono h.size)
/-- fault.At, where a fault is in the chain. -/
theorem At_hit (e : Er) (b : Nat) (p : Int) (w : World) (he : e.In w) (hh : e.hit24 = some b) (hg : ErrTy w) (hp : w.cell? ⟨b, 1, none⟩ = some (.int .i64 p)) :
    Calls Tryd.prog 15 #[e.val] w fun ev w' => ev = .returned (.tuple #[.int .i64 p, .bool true]) ∧ Below w.heap.size w w' := by
  have hlt : 0 < w.heap.size := World.block_lt_of_cell? w ⟨0, 0, none⟩ hg
  have hb1 : b < w.heap.size := World.block_lt_of_cell? w ⟨b, 1, none⟩ hp
  have hc := As24_hit e b ⟨w.heap.size, 0, none⟩ (.pointer none) (w.alloc (.cells #[.pointer none] 24)) (he.of_below ((Below.refl _ _).alloc (Nat.le_refl _) _)) hh
    (by rw [World.cell?_alloc_lt _ _ ⟨0, 0, none⟩ hlt]; exact hg) (by simp) (by simp)
  have hx : ∀ o0 o1 o2 o3 o4, (((((w.alloc o0).alloc o1).alloc o2).alloc o3).alloc o4).cell? ⟨b, 1, none⟩ = some (.int .i64 p) := by
    intro o0 o1 o2 o3 o4
    have hbl : Below w.heap.size w (((((w.alloc o0).alloc o1).alloc o2).alloc o3).alloc o4) := by go_grown
    exact (hbl.cell (p := ⟨b, 1, none⟩) hb1).trans hp
  obtain ⟨u, x, hux⟩ := Er.val_iface e
  rw [hux] at hc ⊢
  clear he hh hux
  have hc' := Lib.hid hc
  clear hc hp hg
  go_enter Tryd.func15, Tryd.ntmps15
  go_wp2_with (go_at_call 70; refine hc'.out.mono ?_; rintro ev w' ⟨rfl, rfl⟩)
  go_ret2
  refine ⟨rfl, ?_⟩
  go_grown
/-- fault.At, where none is. -/
theorem At_miss (e : Er) (w : World) (he : e.In w) (hh : e.hit24 = none) (hg : ErrTy w) :
    Calls Tryd.prog 15 #[e.val] w fun ev w' => ev = .returned (.tuple #[.int .i64 0, .bool false]) ∧ Below w.heap.size w w' := by
  have hlt : 0 < w.heap.size := World.block_lt_of_cell? w ⟨0, 0, none⟩ hg
  have hc := As24_miss e ⟨w.heap.size, 0, none⟩ (w.alloc (.cells #[.pointer none] 24)) (he.of_below ((Below.refl _ _).alloc (Nat.le_refl _) _)) hh
    (by rw [World.cell?_alloc_lt _ _ ⟨0, 0, none⟩ hlt]; exact hg)
  obtain ⟨u, x, hux⟩ := Er.val_iface e
  rw [hux] at hc ⊢
  clear he hh hux
  have hc' := Lib.hid hc
  clear hc hg
  go_enter Tryd.func15, Tryd.ntmps15
  go_wp2_with (go_at_call 70; refine hc'.out.mono ?_; rintro ev w' ⟨rfl, rfl⟩)
  go_ret2
  refine ⟨rfl, ?_⟩
  go_grown
theorem At_nil (w : World) : Calls Tryd.prog 15 #[.nilIface] w fun ev w' => ev = .returned (.tuple #[.int .i64 0, .bool false]) ∧ Below w.heap.size w w' := by
  go_enter Tryd.func15, Tryd.ntmps15
  go_wp2_with (go_at_call 70; refine (As_nil _ _).mono ?_; rintro ev w' ⟨rfl, rfl⟩)
  go_ret2
  refine ⟨rfl, ?_⟩
  go_grown
/-- fault.Code. -/
theorem Code_hit (e : Er) (n : Int) (w : World) (he : e.In w) (hh : e.hit22 = some n) (hg : ErrTy w) :
    Calls Tryd.prog 18 #[e.val] w fun ev w' => ev = .returned (.int .i64 n) ∧ Below w.heap.size w w' := by
  have hlt : 0 < w.heap.size := World.block_lt_of_cell? w ⟨0, 0, none⟩ hg
  have hc := As22_hit e n ⟨w.heap.size, 0, none⟩ (.int .i64 0) (w.alloc (.cells #[.int .i64 0] 22)) (he.of_below ((Below.refl _ _).alloc (Nat.le_refl _) _)) hh
    (by rw [World.cell?_alloc_lt _ _ ⟨0, 0, none⟩ hlt]; exact hg) (by simp) (by simp)
  obtain ⟨u, x, hux⟩ := Er.val_iface e
  rw [hux] at hc ⊢
  clear he hh hux
  have hc' := Lib.hid hc
  clear hc hg
  go_enter Tryd.func18, Tryd.ntmps18
  go_wp2_with (go_at_call 70; refine hc'.out.mono ?_; rintro ev w' ⟨rfl, rfl⟩)
  go_ret
  refine ⟨rfl, ?_⟩
  go_grown
theorem Code_miss (e : Er) (w : World) (he : e.In w) (hh : e.hit22 = none) (hg : ErrTy w) :
    Calls Tryd.prog 18 #[e.val] w fun ev w' => ev = .returned (.int .i64 10) ∧ Below w.heap.size w w' := by
  have hlt : 0 < w.heap.size := World.block_lt_of_cell? w ⟨0, 0, none⟩ hg
  have hc := As22_miss e ⟨w.heap.size, 0, none⟩ (w.alloc (.cells #[.int .i64 0] 22)) (he.of_below ((Below.refl _ _).alloc (Nat.le_refl _) _)) hh
    (by rw [World.cell?_alloc_lt _ _ ⟨0, 0, none⟩ hlt]; exact hg)
  obtain ⟨u, x, hux⟩ := Er.val_iface e
  rw [hux] at hc ⊢
  clear he hh hux
  have hc' := Lib.hid hc
  clear hc hg
  go_enter Tryd.func18, Tryd.ntmps18
  go_wp2_with (go_at_call 70; refine hc'.out.mono ?_; rintro ev w' ⟨rfl, rfl⟩)
  go_ret
  refine ⟨rfl, ?_⟩
  go_grown
theorem Code_nil (w : World) : Calls Tryd.prog 18 #[.nilIface] w fun ev w' => ev = .returned (.int .i64 0) ∧ Below w.heap.size w w' := by
  go_enter Tryd.func18, Tryd.ntmps18
  go_wp2
  go_ret
  refine ⟨rfl, ?_⟩
  go_grown
/-- fault.Is. -/
theorem IsC_nz (e : Er) (n c : Int) (w : World) (he : e.In w) (hh : e.hit22 = some n) (hc : (c == 0) = false) :
    Calls Tryd.prog 19 #[e.val, .int .i64 c] w fun ev w' => ev = .returned (.bool (decide (n = c))) ∧ w' = w := by
  have hI := Is22 e n c w he hh
  obtain ⟨u, x, hux⟩ := Er.val_iface e
  rw [hux] at hI ⊢
  clear he hh hux
  have hI' := Lib.hid hI
  clear hI
  go_enter Tryd.func19, Tryd.ntmps19
  go_wp2_with (go_at_call 73; refine hI'.out.mono ?_; rintro ev w' ⟨rfl, rfl⟩)
  go_ret
  exact ⟨rfl, rfl⟩
theorem IsC_z (e : Er) (w : World) :
    Calls Tryd.prog 19 #[e.val, .int .i64 0] w fun ev w' => ev = .returned (.bool false) ∧ w' = w := by
  obtain ⟨u, x, hux⟩ := Er.val_iface e
  rw [hux]
  go_enter Tryd.func19, Tryd.ntmps19
  go_wp2
  go_ret
  exact ⟨rfl, rfl⟩
theorem IsC_nil (w : World) :
    Calls Tryd.prog 19 #[.nilIface, .int .i64 0] w fun ev w' => ev = .returned (.bool true) ∧ w' = w := by
  go_enter Tryd.func19, Tryd.ntmps19
  go_wp2
  go_ret
  exact ⟨rfl, rfl⟩
theorem IsC_nil_nz (c : Int) (w : World) (hc : (c == 0) = false) :
    Calls Tryd.prog 19 #[.nilIface, .int .i64 c] w fun ev w' => ev = .returned (.bool false) ∧ w' = w := by
  have hn := run_eql_iface_nil_left (P := Tryd.prog) w 22 (.int .i64 c) Tryd.underlying33
  go_enter Tryd.func19, Tryd.ntmps19
  go_wp2_with (go_in)
  go_ret
  exact ⟨rfl, rfl⟩
/-- fault.Error. -/
theorem Error_ok (p : Int) (w : World) : Calls Tryd.prog 20 #[.agg #[.int .i64 0, .int .i64 p]] w fun ev w' => ev = .returned .nilIface ∧ Below w.heap.size w w' := by
  go_enter Tryd.func20, Tryd.ntmps20
  go_wp2
  go_ret
  refine ⟨rfl, ?_⟩
  go_grown
theorem Error_no (c p : Int) (w : World) (hc : (c == 0) = false) : Calls Tryd.prog 20 #[.agg #[.int .i64 c, .int .i64 p]] w fun ev w' => ∃ b, w.heap.size ≤ b ∧ ev = .returned (Er.fault b c p).val ∧ (Er.fault b c p).In w' ∧ Below w.heap.size w w' := by
  go_enter Tryd.func20, Tryd.ntmps20
  go_wp2
  go_ret
  refine ⟨w.heap.size + 1, by omega, rfl, ?_, ?_⟩
  · simp [Er.In]
  · go_grown
/-- fault.Wrap. -/
theorem Wrap_nil (s : ByteArray) (w : World) : Calls Tryd.prog 21 #[.nilIface, .string s] w fun ev w' => ev = .returned .nilIface ∧ w' = w := by
  go_enter Tryd.func21, Tryd.ntmps21
  go_wp2
  go_ret
  exact ⟨rfl, rfl⟩
theorem Wrap_no (e : Er) (s : ByteArray) (w : World) (he : e.In w) : Calls Tryd.prog 21 #[e.val, .string s] w fun ev w' => ∃ b, w.heap.size ≤ b ∧ ev = .returned (Er.wrap b s e).val ∧ (Er.wrap b s e).In w' ∧ Below w.heap.size w w' := by
  have H := Lib.hid he
  clear he
  obtain ⟨u, x, hux⟩ := Er.val_iface e
  rw [hux]
  have hux' := Lib.hid hux
  clear hux
  go_enter Tryd.func21, Tryd.ntmps21
  go_wp2
  go_ret
  refine ⟨w.heap.size, by omega, rfl, ⟨by simp, by simp [hux'.out], H.out.of_below (by go_grown)⟩, ?_⟩
  go_grown
/-- A fault's own methods. -/
theorem Fault_Error_nil (w : World) : Calls Tryd.prog 16 #[.pointer none] w fun ev w' => ev = .returned (.string ⟨#[]⟩) ∧ w' = w := by
  go_enter Tryd.func16, Tryd.ntmps16
  go_wp2
  go_ret
  exact ⟨rfl, rfl⟩
theorem Fault_Unwrap_nil (w : World) : Calls Tryd.prog 17 #[.pointer none] w fun ev w' => ev = .returned .nilIface ∧ w' = w := by
  go_enter Tryd.func17, Tryd.ntmps17
  go_wp2
  go_ret
  exact ⟨rfl, rfl⟩
theorem Fault_Unwrap (b : Nat) (c : Int) (w : World) (hc : w.cell? ⟨b, 0, none⟩ = some (.int .i64 c)) : Calls Tryd.prog 17 #[.pointer (some ⟨b, 0, none⟩)] w fun ev w' => ev = .returned (.iface 22 (.int .i64 c)) ∧ w' = w := by
  go_enter Tryd.func17, Tryd.ntmps17
  go_wp2
  go_ret
  exact ⟨rfl, rfl⟩
end Go.Proofs.YtceddcogpigolaaDoor
