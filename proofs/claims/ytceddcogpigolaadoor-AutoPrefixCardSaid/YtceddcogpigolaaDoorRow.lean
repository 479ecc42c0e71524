/- What the rows over float.double alone share: the variable's cells, and bytes that come in. -/
import Derived.Test.YtceddcogpigolaaDoorRows
import Derived.Test.YtceddcogpigolaaDoorCards
import Derived.Test.YtceddcogpigolaaDoorTie
import Derived.Test.YtceddcogpigolaaDoorAuX
import Derived.ProofKit
import Derived.LaidMore
import Derived.LaidHandle
import Derived.OpenShut
import Derived.Stop.Joined
import Derived.SevenTiedAt
import Derived.Lib.SmallJoins
import Derived.Carry
import Derived.Stop.LaidErr
namespace Go.Proofs.YtceddcogpigolaaDoor
open Go.ChangeShapes Go.WideShapes Go.ChangeAt Go.RowKit Go.Joins

theorem own : ownKnob Tryd.prog.godebug = none := by kernel_rfl
theorem laidOut : laidOutB Tryd.prog = true := by kernel_rfl
def laidD : List (String × DataW Unit) := [("ullage/float.double", Rows.laid_ullage_float_double)]
theorem gDbl : Tryd.prog.globalNamed "ullage/float.double" = some 2 := by kernel_rfl
theorem gDblType : (Tryd.prog.globals[2]?).map (·.type) = some 267 := by kernel_rfl
theorem cells3 : Tryd.prog.cellsOf 3 = 1 := by kernel_rfl
theorem cells5 : Tryd.prog.cellsOf 5 = 1 := by kernel_rfl
theorem cells61 : Tryd.prog.cellsOf 61 = 3 := by kernel_rfl
theorem cells267 : Tryd.prog.cellsOf 267 = 2 := by kernel_rfl
theorem dbl_of_laid {W : World} (h : laidMetH Tryd.prog laidD W) : Dbl W := by
  have h1 : laidMet Tryd.prog laidD W := h
  obtain ⟨ps, ⟨g', t', cs, fuel, p, q, hg', ht', hvar, hd, _, _⟩, _⟩ := h1
  obtain rfl := Option.some.inj (gDbl.symm.trans hg')
  obtain rfl := Option.some.inj (gDblType.symm.trans ht')
  obtain ⟨xs, n, _, hx, hl, hlen, hf⟩ := DataW.trod_struct Tryd.underlying267 hd
  match xs, hlen with
  | [y0, y1], _ =>
    have hx1 : (DataW.agg [y0.1, y1.1] : DataW Unit) = .agg [.lit (.int .i64 11), .lit (.int .i64 52)] := (congrArg Prod.fst hx).symm
    simp only [DataW.agg.injEq, List.cons.injEq, and_true] at hx1
    have h0 := hf 0 ⟨"exponent", 3, 0, false, "", "ullage/float", 0⟩ rfl
    have h1 := hf 1 ⟨"fraction", 3, 1, false, "", "ullage/float", 8⟩ rfl
    simp only [cells3, List.drop_zero] at h0 h1
    obtain ⟨z0, e0, r0, _⟩ := DataW.trod_int Tryd.underlying3 (h0.trans rfl)
    obtain ⟨z1, e1, r1, _⟩ := DataW.trod_int Tryd.underlying3 (h1.trans rfl)
    have a0 := hx1.1
    have a1 := hx1.2
    rw [r0] at a0
    rw [r1] at a1
    simp only [DataW.lit.injEq, Lit.int.injEq, true_and] at a0 a1
    subst a0 a1
    rw [cells267] at hl
    obtain ⟨c0, c1, rfl⟩ := array2 (show cs.size = 2 by simpa using hl)
    simp at e0 e1
    subst e0 e1
    exact ⟨by simpa using World.var?_cell gDbl hvar 0, by simpa using World.var?_cell gDbl hvar 1⟩
theorem doorD_met (os : Os) (args : Array Value) : laidMetH Tryd.prog laidD ((World.doorLaid Tryd.prog 36 os).forCall (fun _ _ => 0) ⟨#[], args, []⟩).memory :=
  laidMetH_of_parts3 (fuel := 8) (laidMet_of_run' 8 (by kernel_rfl) (by kernel_rfl)) (by kernel_rfl) (by kernel_rfl)
set_option maxRecDepth 100000 in
/-- A slice of bytes that came in. -/
theorem bys_in {H : Type} {enc : TypeId × Value → H} {W : World} {base : Nat} {v : Value} {d : DataW H} {p : List MemPlace} (hv : Value.okWide Tryd.prog W .any base 59 v) (h : DataW.Trod enc Tryd.prog W 0 (fun _ => true) true 59 v d p) :
    ∃ (a : Option Addr) (n cap : Nat) (bs : List Int), v = .slice a n cap ∧ n ≤ 9223372036854775807 ∧ bs.length = n ∧ Bys W a bs := by
  obtain ⟨a0, len, cap, rfl⟩ := okWide_slice Tryd.underlying59 hv
  obtain ⟨fuel, hf⟩ := h
  rcases open_ints Tryd.underlying59 Tryd.underlying5 cells5 hf with ⟨hcs, -⟩ | ⟨a, len', cap', zs, hcs, -, hl, hm, hz, -, hcell, hwf⟩
  · simp [Value.cells] at hcs
    obtain ⟨rfl, rfl, rfl⟩ := hcs
    exact ⟨none, 0, 0, [], rfl, by omega, rfl, by simp, .inl rfl⟩
  · simp [Value.cells] at hcs
    obtain ⟨rfl, rfl, rfl⟩ := hcs
    simp only [if_true] at hz
    refine ⟨some a, len, cap, zs.take len, rfl, by unfold maxLen at hm; omega, by rw [List.length_take]; omega, ?_, ?_⟩
    · intro x hx
      have := hwf x (List.mem_of_mem_take hx)
      have m0 : IntKind.u8.min = 0 := rfl
      have m1 : IntKind.u8.max = 255 := rfl
      simp [Lit.wf, IntKind.bits, IntKind.signed] at this
      omega
    · by_cases h0 : len = 0
      · exact .inl (by rw [h0]; rfl)
      · obtain ⟨b, off, spot⟩ := a
        have hspot : spot = none := by simpa [Addr.add] using World.cell?_spot (hcell 0 (by omega))
        subst hspot
        refine .inr ⟨b, off, rfl, fun k x hk => ?_⟩
        have hk' : k < len ∧ zs[k]? = some x := by
          rw [List.getElem?_take] at hk
          split at hk
          · exact ⟨by assumption, hk⟩
          · cases hk
        have hc := hcell k (by omega)
        rw [add_plain] at hc
        rw [hc]
        simp [List.getD, hk'.2]
set_option maxRecDepth 100000 in
/-- Limits that came in. -/
theorem li_in {H : Type} {enc : TypeId × Value → H} {W : World} {base : Nat} {v : Value} {d : DataW H} {p : List MemPlace} (hv : Value.okWide Tryd.prog W .any base 61 v) (h : DataW.Trod enc Tryd.prog W 0 (fun _ => true) true 61 v d p) : ∃ l : Li, v = l.val := by
  obtain ⟨c0, c1, c2, y0, y1, y2, m, rfl, -, -, hy0, hy1, hy2⟩ := open_agg3 Tryd.underlying61 (by kernel_rfl) cells61 hv h
  obtain ⟨a, e0, -, -⟩ := DataW.trod_int Tryd.underlying3 hy0
  obtain ⟨b, e1, -, -⟩ := DataW.trod_int Tryd.underlying3 hy1
  obtain ⟨c, e2, -, -⟩ := DataW.trod_int Tryd.underlying3 hy2
  simp only [List.cons.injEq, and_true] at e0 e1 e2
  subst e0 e1 e2
  exact ⟨⟨a, b, c⟩, rfl⟩

end Go.Proofs.YtceddcogpigolaaDoor
