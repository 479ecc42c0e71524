/- AutoPrefix: for every two slices of bytes and all limits the law returns true, and the arguments read as they did. Condition: the listed package-level variable holds what the program's text lays (the card ties it). -/
import Derived.Test.YtceddcogpigolaaDoorApLift
namespace Go.Proofs.YtceddcogpigolaaDoor
open Go.ChangeShapes Go.WideShapes Go.ChangeAt Go.RowKit Go.Joins
theorem ap_row : Rows.AutoPrefixSaid :=
  OpenClaim.holds_of_wide 7 Tryd.f7 rfl rfl rfl rfl rfl rfl rfl ⟨rfl, rfl, rfl, rfl, rfl⟩ rfl rfl rfl rfl rfl (by kernel_rfl) Tryd.func7 (by kernel_rfl)
    (of_decide_eq_true (by kernel_rfl)) (by unfold Func.isWrapper; rw [if_neg (of_decide_eq_false (by kernel_rfl))]; exact ⟨rfl, rfl⟩)
    (fun os started H enc _ => ap_lifted os started H enc)

theorem autoPrefix_holds : Rows.AutoPrefixCardSaid :=
  Claim7.holds_tied_plain_at .later [] [.wider] true (true, "1a66e16d780184697c3b287e4ba0a7fe3a6b8588cb84f7822d33da7b71b6a9e5") true
    ap_row (fun _ h => by cases h) (by kernel_rfl) (fun _ h => by cases h) autoPrefix_row_tie rfl ⟨rfl, rfl⟩ (by kernel_rfl) rfl
    (fun f fn hf hfn => by
      obtain rfl : f = 7 := Option.some.inj ((show Tryd.prog.funcNamed "ullage/ullagelaw14.AutoPrefix" = some 7 by kernel_rfl).symm.trans hf) |>.symm
      obtain rfl : fn = Tryd.f7 := (Option.some.inj (Tryd.func7.symm.trans hfn)).symm
      exact ⟨by kernel_rfl, fun j t ht => by
        rw [Tryd.params7] at ht
        have hm : t ∈ [59, 59, 61] := by simpa using Array.mem_of_getElem? ht
        have hall : ([59, 59, 61].all fun u => !Tryd.prog.wantsStandIn u) = true := by kernel_rfl
        exact (show Tryd.prog.wantsStandIn t = false by simpa using List.all_eq_true.1 hall t hm)⟩)
    (by kernel_rfl)
#print axioms autoPrefix_holds
end Go.Proofs.YtceddcogpigolaaDoor
