/- errors.is and errors.Is against a number, over a chain of this program's errors that ends in a number. -/
import Derived.Test.YtceddcogpigolaaDoorErrAs
import Derived.Lib.IfaceEq
namespace Go.Proofs.YtceddcogpigolaaDoor
open Go.RowKit Go.Extern.Stop Go.Stop Go.Extern

theorem comp22 : (Tryd.prog.info? 22).map (·.comparable) = some true := by kernel_rfl
theorem cmp22 (w : World) : ((ReflectliteType.method fun t => do Rtype.noPackHeld "Comparable" t; pure (.bool (← typeInfo t).comparable)) #[.agg #[.pointer (some ⟨6, 22, none⟩)]]).run Tryd.prog w = .ok (.bool true) w := by kernel_rfl
theorem call281 (w : World) : (callFunc 281 #[.agg #[.pointer (some ⟨6, 22, none⟩)]]).run Tryd.prog w = .ok (.value (.bool true)) w := by
  rw [@run_callFunc_extern Tryd.prog 281 _ (ReflectliteType.method fun t => do Rtype.noPackHeld "Comparable" t; pure (.bool (← typeInfo t).comparable)) Tryd.func281 (by kernel_rfl) (by kernel_rfl) (by kernel_rfl) (by kernel_rfl), cmp22]
  rfl
set_option maxRecDepth 100000 in
set_option maxHeartbeats 4000000 in
theorem is22 (e : Er) (n c : Int) (w : World) (he : e.In w) (hh : e.hit22 = some n) :
    Calls Tryd.prog 116 #[e.val, .iface 22 (.int .i64 c), .bool true] w fun ev w' => ev = .returned (.bool (decide (n = c))) ∧ w' = w := by
  have n22 := noIs22
  have n24 := noIs24
  have n125 := noIs125
  have u24 := un24
  have u125 := un125
  have nu22 := noUn22
  have nus22 := noUns22
  have mu24 := methodUnwrap24
  have mu125 := methodUnwrap125
  have e24 : ∀ v w0, (binOp .eql 33 (.iface 24 v) (.iface 22 (.int .i64 c))).run Tryd.prog w0 = .ok (.bool false) w0 := fun v w0 => run_eql_iface_types (P := Tryd.prog) 24 22 v _ Tryd.underlying33 (by decide) w0
  have e125 : ∀ v w0, (binOp .eql 33 (.iface 125 v) (.iface 22 (.int .i64 c))).run Tryd.prog w0 = .ok (.bool false) w0 := fun v w0 => run_eql_iface_types (P := Tryd.prog) 125 22 v _ Tryd.underlying33 (by decide) w0
  have H := Lib.hid he
  have HH := Lib.hid hh
  clear he hh
  go_enter Tryd.func116, Tryd.ntmps116
  go_wp2
  go_loopg [0] (e.depth) (fun k v wr => wr = w ∧ ∃ e' : Er, e'.depth = k ∧ e'.val = v ∧ e'.In w ∧ e'.hit22 = some n)
  case atStart => exact ⟨rfl, e, rfl, rfl, H.out, HH.out⟩
  case round =>
    obtain ⟨rfl, e', hk, rfl, hin, hit⟩ := hrel
    cases e' with
    | code m =>
      simp only [Er.hit22, Option.some.injEq] at hit
      subst hit
      simp only [Er.val]
      have e22 := Lib.run_eql_iface_int (P := Tryd.prog) (k := .i64) wr m c Tryd.underlying33 comp22 Tryd.underlying22
      go_wp2
      all_goals (go_ret; refine ⟨?_, rfl⟩; simp_all)
    | other => simp [Er.hit22] at hit
    | fault b m p =>
      simp only [Er.hit22, Option.some.injEq] at hit
      subst hit
      obtain ⟨hc0, hc1⟩ := hin
      have hk' := Lib.hid hk
      clear hk
      simp only [Er.val]
      go_wp2
      go_roundg 0
      case rel => exact ⟨rfl, .code m, rfl, rfl, trivial, rfl⟩
      case measure => rw [← hk'.out]; simp [Er.depth]
    | wrap b s e2 =>
      obtain ⟨hc0, hc1, hin2⟩ := hin
      have hk' := Lib.hid hk
      have hin2' := Lib.hid hin2
      have hit' := Lib.hid hit
      clear hk hin2 hit
      obtain ⟨u, x, hux⟩ := Er.val_iface e2
      rw [hux] at hc1
      have hux' := Lib.hid hux
      clear hux
      simp only [Er.val]
      go_wp2
      go_roundg e2.depth
      case rel => exact ⟨rfl, e2, rfl, hux'.out, hin2'.out, hit'.out⟩
      case measure => rw [← hk'.out]; simp [Er.depth]

set_option maxHeartbeats 4000000 in
theorem Is22 (e : Er) (n c : Int) (w : World) (he : e.In w) (hh : e.hit22 = some n) :
    Calls Tryd.prog 73 #[e.val, .iface 22 (.int .i64 c)] w fun ev w' => ev = .returned (.bool (decide (n = c))) ∧ w' = w := by
  have h115 := @run_callFunc_extern Tryd.prog 115 _ ReflectliteType.typeOf Tryd.func115 (by kernel_rfl) (by kernel_rfl) (by kernel_rfl) (by kernel_rfl)
  have h281 := call281
  have t22 := typeOf22
  have mC := methodComparable
  have hc := is22 e n c w he hh
  obtain ⟨u, x, hux⟩ := Er.val_iface e
  rw [hux] at hc ⊢
  clear he hh hux
  have hc' := Lib.hid hc
  clear hc
  go_enter Tryd.func73, Tryd.ntmps73
  go_wp2_with (go_at_call 116; refine hc'.out.mono ?_; rintro ev w' ⟨rfl, rfl⟩)
  go_ret
  exact ⟨rfl, rfl⟩
end Go.Proofs.YtceddcogpigolaaDoor
