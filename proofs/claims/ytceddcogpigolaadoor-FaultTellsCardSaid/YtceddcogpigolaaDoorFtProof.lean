/- FaultTells: for every verdict, slice of texts and number the law returns true, and the arguments read as they did. Condition: the listed package-level variables hold what the program's text lays (the card ties them). -/
import Derived.Test.YtceddcogpigolaaDoorFtLift
namespace Go.Proofs.YtceddcogpigolaaDoor
open Go.ChangeShapes Go.WideShapes Go.ChangeAt Go.RowKit Go.Joins
theorem ft_row : Rows.FaultTellsSaid :=
  OpenClaim.holds_of_wide 4 Tryd.f4 rfl rfl rfl rfl rfl rfl rfl ⟨rfl, rfl, rfl, rfl, rfl⟩ rfl rfl rfl rfl rfl (by kernel_rfl) Tryd.func4 (by kernel_rfl)
    (of_decide_eq_true (by kernel_rfl)) (by unfold Func.isWrapper; rw [if_neg (of_decide_eq_false (by kernel_rfl))]; exact ⟨rfl, rfl⟩)
    (fun os started H enc _ => ft_lifted os started H enc)

theorem faultTells_holds : Rows.FaultTellsCardSaid :=
  Claim7.holds_tied_plain_at .later [] [.data, .data, .data, .handle] true (true, "1a66e16d780184697c3b287e4ba0a7fe3a6b8588cb84f7822d33da7b71b6a9e5") true
    ft_row (fun _ h => by cases h) (by kernel_rfl) (fun _ h => by cases h) faultTells_row_tie rfl ⟨rfl, rfl⟩ (by kernel_rfl) rfl
    (fun f fn hf hfn => by
      obtain rfl : f = 4 := Option.some.inj ((show Tryd.prog.funcNamed "ullage/ullagelaw12.FaultTells" = some 4 by kernel_rfl).symm.trans hf) |>.symm
      obtain rfl : fn = Tryd.f4 := (Option.some.inj (Tryd.func4.symm.trans hfn)).symm
      exact ⟨by kernel_rfl, fun j t ht => by
        rw [Tryd.params4] at ht
        have hm : t ∈ [28, 40, 22] := by simpa using Array.mem_of_getElem? ht
        have hall : ([28, 40, 22].all fun u => !Tryd.prog.wantsStandIn u) = true := by kernel_rfl
        exact (show Tryd.prog.wantsStandIn t = false by simpa using List.all_eq_true.1 hall t hm)⟩)
    (by kernel_rfl)
#print axioms faultTells_holds
end Go.Proofs.YtceddcogpigolaaDoor
