/- FaultTells: for every verdict, slice of texts and number the law returns true, and the arguments read as they did. Condition: the listed package-level variables hold what the program's text lays (the card ties them). -/
import Derived.Test.YtceddcogpigolaaDoorFoProof
import Derived.Test.YtceddcogpigolaaDoorFtWalk
import Derived.Lib.SmallJoins
import Derived.SliceStrings
import Derived.Carry
import Derived.Stop.LaidErr
import Derived.Lib.LaidTab
namespace Go.Proofs.YtceddcogpigolaaDoor
open Go.ChangeShapes Go.WideShapes Go.ChangeAt Go.RowKit Go.Joins

theorem laidOut : laidOutB Tryd.prog = true := by kernel_rfl
theorem cells28 : Tryd.prog.cellsOf 28 = 2 := by kernel_rfl
theorem cells9 : Tryd.prog.cellsOf 9 = 1 := by kernel_rfl
theorem gPowType : (Tryd.prog.globals[3]?).map (·.type) = some 318 := by kernel_rfl
theorem cells47 : Tryd.prog.cellsOf 47 = 1 := by kernel_rfl
theorem cells318 : Tryd.prog.cellsOf 318 = 20 := by kernel_rfl
theorem pow10_of_laid {W : World} (h : laidMetH Tryd.prog laidF W) : Pow10 W := by
  rw [laidF_split] at h
  have h3 : laidMet Tryd.prog [("internal/strconv.uint64pow10", Lib.tabData .u64 Lib.pow10Tab)] W := (h.1.tail).tail
  exact Lib.tabIs_of_head gPow gPowType Tryd.underlying318 Tryd.underlying47 cells47 cells318 h3

set_option maxRecDepth 100000 in
theorem ft_lifted (os : Os) (started : os.Started) (H : Type) (enc : TypeId × Value → H) :
    ReturnsInHanded {} Tryd.checked os 4 .any (fun w args => (Rows.faultTellsSpec.pre enc Tryd.prog Tryd.f4 [] false w args ∧ laidMetH Tryd.prog laidF w) ∧ sizedMet enc Tryd.prog Tryd.f4 (OpenSpec.ofChange Rows.faultTellsSpec) false w args)
      (Rows.faultTellsSpec.post enc Tryd.prog Tryd.f4 false true false false) := by
  refine returnsInHanded_of_change_and (C := Tryd.checked) (X := fun w _ => laidMetH Tryd.prog laidF w) (fun _ _ _ hh h => h.of_heap hh) own started (by kernel_rfl) Tryd.func4
    (ChangeSpec.witness_shaped (enc := enc) (C := Tryd.checked) (os := os) (X := fun w _ => laidMetH Tryd.prog laidF w) false (World.doorLaid Tryd.prog 36 os) #[.agg #[.int .i64 0, .int .i64 0], .slice none 0 0, .int .i64 0] 8 rfl (World.shaped_of_RefB (by kernel_rfl) (by kernel_rfl)) (by kernel_rfl) (by kernel_rfl) (by kernel_rfl) (doorF_met os _)) ?_
  intro W base args ds gs before hval0 hW _ _ hL _
  have hval : ∀ (j : Nat) t v, Tryd.f4.params[j]? = some t → args[j]? = some v → Value.okWide Tryd.prog W .any base t v := hval0
  have hW' := hW
  obtain ⟨p, q, hA0, hV, rfl, hfz, hnd⟩ := hW
  have hA : DataW.TrodAll enc Tryd.prog W 0 (fun _ => true) true Tryd.f4.params.toList args.toList ds p := hA0
  rw [Tryd.params4] at hA hval
  obtain ⟨v0, v1, v2, d0, d1, d2, p0, p1, p2, rfl, rfl, rfl, h0, h1, h2⟩ := trodAll_three hA
  obtain ⟨rfl, rfl⟩ := trodVars_none hV
  simp only [List.append_nil] at hW'
  have hlt : ∀ x ∈ p0 ++ p1 ++ p2, x.block < W.heap.size := fun x hx => by simpa using hW'.lt x hx
  have k0 := h0
  have k1 := h1
  have k2 := h2
  obtain ⟨c0, c1, y0, y1, m, rfl, rfl, hp0, hy0, hy1⟩ := open_agg2 Tryd.underlying28 (by kernel_rfl) cells28 (hval 0 28 v0 rfl rfl) h0
  obtain ⟨c, e0, rfl, wc⟩ := DataW.trod_int Tryd.underlying22 hy0
  obtain ⟨at_, e1, rfl, wa⟩ := DataW.trod_int Tryd.underlying3 hy1
  simp only [List.cons.injEq, and_true] at e0 e1
  subst e0 e1
  obtain ⟨o, rfl, rfl, hp2, wo⟩ := open_int Tryd.underlying22 (hval 2 22 v2 rfl rfl) h2
  obtain ⟨a0, len, cap, rfl⟩ := okWide_slice Tryd.underlying40 (hval 1 40 v1 rfl rfl)
  obtain ⟨fuel, hf⟩ := h1
  have hg := errTy_of_laid hL
  have ht := pow10_of_laid hL
  have h3 : 3 < W.heap.size := World.block_lt_of_cell? W ⟨3, 0, none⟩ (Lib.TabIs.cell ht gPow 0 (by rw [Lib.pow10Tab_length]; decide))
  have ic : I64 c := by have := bounds_i64 wc; unfold I64; omega
  have ia : I64 at_ := by have := bounds_i64 wa; unfold I64; omega
  have fin : ∀ W', Below W.heap.size W W' → Rows.faultTellsSpec.post enc Tryd.checked.prog Tryd.f4 false true false false W #[.agg #[.int .i64 c, .int .i64 at_], .slice a0 len cap, .int .i64 o] (.bool true) W' := by
    intro W' hb
    refine ⟨_, _, _, [], p0 ++ p1 ++ p2, [], hW', ?_, ?_, rfl, hb.frame _, fun h => by cases h⟩
    · exact trodAll_mk1 (shut_bool Tryd.underlying4 true)
    · rw [List.append_assoc]; exact trodAll_mk3 (Below.trod laidOut (by kernel_rfl) (of_decide_eq_true (by kernel_rfl)) k0 hb (fun x hx => hlt x (by simp [hx])))
        (Below.trod laidOut (by kernel_rfl) (of_decide_eq_true (by kernel_rfl)) k1 hb (fun x hx => hlt x (by simp [hx])))
        (Below.trod laidOut (by kernel_rfl) (of_decide_eq_true (by kernel_rfl)) k2 hb (fun x hx => hlt x (by simp [hx])))
  have walk : len ≤ 9223372036854775807 → (len ≤ 20 → ∃ ss, Strs W a0 len ss) → Calls Tryd.checked.prog 4 #[.agg #[.int .i64 c, .int .i64 at_], .slice a0 len cap, .int .i64 o] W fun e W' => ∃ v, e = Ending.returned v ∧ Rows.faultTellsSpec.post enc Tryd.checked.prog Tryd.f4 false true false false W #[.agg #[.int .i64 c, .int .i64 at_], .slice a0 len cap, .int .i64 o] v W' := by
    intro hm hS
    by_cases hn : len ≤ 20
    · obtain ⟨ss, hS⟩ := hS hn
      by_cases hc0 : c = 0
      · subst hc0
        exact (ft_ok at_ o a0 len cap ss W hn hg hS).mono fun e W' ⟨he, hb⟩ => ⟨_, he, fin W' hb⟩
      · exact (ft_no c at_ o ic ia a0 len cap ss W (by simpa using hc0) hn hg ht h3 hS).mono fun e W' ⟨he, hb⟩ => ⟨_, he, fin W' hb⟩
    · exact (ft_long c at_ o a0 len cap W (by omega) hm hg).mono fun e W' ⟨he, hb⟩ => ⟨_, he, fin W' hb⟩
  rcases open_strings Tryd.underlying40 Tryd.underlying9 cells9 hf with ⟨hcs, hx⟩ | ⟨a, len', cap', ss, hcs, _, hl, hm, hz, hx, hcell, hws⟩
  · simp [Value.cells] at hcs
    obtain ⟨rfl, rfl, rfl⟩ := hcs
    exact walk (by omega) (fun _ => ⟨[], rfl, .inl rfl⟩)
  · simp [Value.cells] at hcs
    obtain ⟨rfl, rfl, rfl⟩ := hcs
    simp only [if_true] at hz
    refine walk (by unfold maxLen at hm; omega) (fun _ => ⟨ss.take len, by rw [List.length_take]; omega, ?_⟩)
    by_cases hl0 : len = 0
    · exact .inl hl0
    · obtain ⟨b, off, spot⟩ := a
      have hspot : spot = none := by simpa [Addr.add] using World.cell?_spot (hcell 0 (by omega))
      subst hspot
      refine .inr ⟨b, off, rfl, fun j hj => ?_⟩
      have := hcell j (by omega)
      rw [add_plain] at this
      rw [this]
      simp [List.getD, List.getElem?_take, hj]

end Go.Proofs.YtceddcogpigolaaDoor
