/- FaultOthers: the walk of the law: for every number it returns true, and nothing that was there has changed. -/
import Derived.Test.YtceddcogpigolaaDoorErrFault
namespace Go.Proofs.YtceddcogpigolaaDoor
open Go.RowKit Go.Extern.Stop Go.Stop Go.Extern

theorem fault_awake (w : World) (hg : ErrTy w) : Calls Tryd.prog 14 #[] w fun ev w' => ev = .returned (.bool true) ∧ Below w.heap.size w w' := by
  have hg' := Lib.hid hg
  clear hg
  go_enter Tryd.func14, Tryd.ntmps14
  go_wp2_with fail
  refine (Error_no 3 5 _ (by decide)).mono ?_
  rintro ev w1 ⟨b1, hb1, rfl, hin1, hbl1⟩
  have hin1' := Lib.hid hin1
  have hbl1' := Lib.hid hbl1
  clear hin1 hbl1
  go_wp2_with fail
  refine (Wrap_no _ _ _ hin1'.out).mono ?_
  rintro ev w2 ⟨b2, hb2, rfl, hin2, hbl2⟩
  have hin2' := Lib.hid hin2
  have hbl2' := Lib.hid (below_then' hbl1'.out hbl2)
  clear hin2 hbl2 hbl1'
  go_wp2_with fail
  refine (At_hit _ b1 5 _ hin2'.out rfl (hg'.out.below hbl2'.out) hin2'.out.2.2.2).mono ?_
  rintro ev w3 ⟨rfl, hbl3⟩
  have hin3' := Lib.hid (hin2'.out.of_below hbl3)
  have hbl3' := Lib.hid (below_then' hbl2'.out hbl3)
  clear hbl3 hbl2'
  go_wp2_with fail
  refine (Code_hit _ 3 _ hin3'.out rfl (hg'.out.below hbl3'.out)).mono ?_
  rintro ev w4 ⟨rfl, hbl4⟩
  have hbl4' := Lib.hid (below_then' hbl3'.out hbl4)
  clear hbl4 hbl3'
  go_wp2_with fail
  go_ret
  exact ⟨rfl, hbl4'.out⟩

set_option maxRecDepth 100000 in
set_option maxHeartbeats 4000000 in
theorem faultOthers_walk (x : Int) (w : World) (hg : ErrTy w) : Calls Tryd.prog 3 #[.int .i64 x] w fun ev w' => ev = .returned (.bool true) ∧ Below w.heap.size w w' := by
  have hg' := Lib.hid hg
  clear hg
  go_enter Tryd.func3, Tryd.ntmps3
  go_wp2_with fail
  refine (fault_awake _ hg'.out).mono ?_
  rintro ev w1 ⟨rfl, hb1⟩
  have B1 := Lib.hid hb1
  clear hb1
  go_wp2_with fail
  refine (At_miss (.code x) _ trivial rfl (hg'.out.below B1.out)).mono ?_
  rintro ev w2 ⟨rfl, hb2⟩
  have B2 := Lib.hid (below_then' B1.out hb2)
  clear hb2 B1
  go_wp2_with fail
  obtain ⟨b, hbe⟩ : ∃ b, b = w2.heap.size := ⟨_, rfl⟩
  have I3 : Hid ((Er.fault b x 3).In (w2.alloc (.cells #[.int .i64 x, .int .i64 3] 30))) := Lib.hid (by subst hbe; simp [Er.In])
  have B3 : Hid (Below w.heap.size w (w2.alloc (.cells #[.int .i64 x, .int .i64 3] 30))) := Lib.hid (B2.out.alloc B2.out.size _)
  clear B2
  rw [← hbe]
  generalize w2.alloc (.cells #[.int .i64 x, .int .i64 3] 30) = W3 at I3 B3 ⊢
  clear hbe w2
  refine (At_hit (.fault b x 3) b 3 _ I3.out rfl (hg'.out.below B3.out) I3.out.2).mono ?_
  rintro ev w4 ⟨rfl, hb4⟩
  have I4 := Lib.hid (I3.out.of_below hb4)
  have B4 := Lib.hid (below_then' B3.out hb4)
  clear hb4 B3 I3 W3
  go_wp2_with fail
  refine (Fault_Error_nil _).mono ?_
  rintro ev w' ⟨rfl, rfl⟩
  go_wp2_with fail
  refine (Fault_Unwrap_nil _).mono ?_
  rintro ev w' ⟨rfl, rfl⟩
  go_wp2_with fail
  refine (Code_hit (.code x) x _ trivial rfl (hg'.out.below B4.out)).mono ?_
  rintro ev w5 ⟨rfl, hb5⟩
  have I5 := Lib.hid (I4.out.of_below hb5)
  have B5 := Lib.hid (below_then' B4.out hb5)
  clear hb5 B4 I4
  go_wp2_with fail
  refine (Code_hit (.fault b x 3) x _ I5.out rfl (hg'.out.below B5.out)).mono ?_
  rintro ev w6 ⟨rfl, hb6⟩
  have I6 := Lib.hid (I5.out.of_below hb6)
  have B6 := Lib.hid (below_then' B5.out hb6)
  clear hb6 B5 I5
  by_cases hx : x = 0
  · subst hx
    go_wp2_with fail
    refine (Fault_Unwrap b 0 _ I6.out.1).mono ?_
    rintro ev w' ⟨rfl, rfl⟩
    have e22 : ∀ w0, (binOp .eql 33 (.iface 22 (.int .i64 0)) (.iface 22 (.int .i64 0))).run Tryd.prog w0 = .ok (.bool true) w0 := fun w0 => Lib.run_eql_iface_int (P := Tryd.prog) (k := .i64) w0 0 0 Tryd.underlying33 comp22 Tryd.underlying22
    go_wp2_with fail
    refine (IsC_z (.fault b 0 3) _).mono ?_
    rintro ev w' ⟨rfl, rfl⟩
    go_wp2_with fail
    refine (Code_miss .other _ trivial rfl (hg'.out.below B6.out)).mono ?_
    rintro ev w7 ⟨rfl, hb7⟩
    have B7 := Lib.hid (below_then' B6.out hb7)
    clear hb7
    go_wp2_with fail
    go_ret
    exact ⟨rfl, B7.out⟩
  · have hx0 : ((x : Int) == 0) = false := by simpa using hx
    clear hx
    go_wp2_with fail
    refine (IsC_nz (.fault b x 3) x x _ I6.out rfl hx0).mono ?_
    rintro ev w' ⟨rfl, rfl⟩
    go_wp2_with fail
    refine (Fault_Unwrap b x _ I6.out.1).mono ?_
    rintro ev w' ⟨rfl, rfl⟩
    have e22 : ∀ w0, (binOp .eql 33 (.iface 22 (.int .i64 x)) (.iface 22 (.int .i64 x))).run Tryd.prog w0 = .ok (.bool true) w0 := fun w0 => by rw [Lib.run_eql_iface_int (P := Tryd.prog) (k := .i64) w0 x x Tryd.underlying33 comp22 Tryd.underlying22]; simp
    go_wp2_with fail
    refine (IsC_z (.fault b x 3) _).mono ?_
    rintro ev w' ⟨rfl, rfl⟩
    go_wp2_with fail
    refine (Code_miss .other _ trivial rfl (hg'.out.below B6.out)).mono ?_
    rintro ev w7 ⟨rfl, hb7⟩
    have B7 := Lib.hid (below_then' B6.out hb7)
    clear hb7
    go_wp2_with fail
    go_ret
    exact ⟨rfl, B7.out⟩
end Go.Proofs.YtceddcogpigolaaDoor
