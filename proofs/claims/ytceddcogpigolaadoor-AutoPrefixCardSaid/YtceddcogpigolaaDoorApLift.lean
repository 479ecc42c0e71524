/- AutoPrefix: for every two slices of bytes and all limits the law returns true, and the arguments read as they did. Condition: the listed package-level variable holds what the program's text lays (the card ties it). -/
import Derived.Test.YtceddcogpigolaaDoorRow
import Derived.Test.YtceddcogpigolaaDoorApW
namespace Go.Proofs.YtceddcogpigolaaDoor
open Go.ChangeShapes Go.WideShapes Go.ChangeAt Go.RowKit Go.Joins

set_option maxRecDepth 100000 in
theorem ap_lifted (os : Os) (started : os.Started) (H : Type) (enc : TypeId × Value → H) :
    ReturnsInHanded {} Tryd.checked os 7 .any (fun w args => (Rows.autoPrefixSpec.pre enc Tryd.prog Tryd.f7 [] false w args ∧ laidMetH Tryd.prog laidD w) ∧ sizedMet enc Tryd.prog Tryd.f7 (OpenSpec.ofChange Rows.autoPrefixSpec) false w args)
      (Rows.autoPrefixSpec.post enc Tryd.prog Tryd.f7 false true false false) := by
  refine returnsInHanded_of_change_and (C := Tryd.checked) (X := fun w _ => laidMetH Tryd.prog laidD w) (fun _ _ _ hh h => h.of_heap hh) own started (by kernel_rfl) Tryd.func7
    (ChangeSpec.witness_shaped (enc := enc) (C := Tryd.checked) (os := os) (X := fun w _ => laidMetH Tryd.prog laidD w) false (World.doorLaid Tryd.prog 36 os) #[.slice none 0 0, .slice none 0 0, .agg #[.int .i64 0, .int .i64 0, .int .i64 0]] 8 rfl (World.shaped_of_RefB (by kernel_rfl) (by kernel_rfl)) (by kernel_rfl) (by kernel_rfl) (by kernel_rfl) (doorD_met os _)) ?_
  intro W base args ds gs before hval0 hW _ _ hL _
  have hval : ∀ (j : Nat) t v, Tryd.f7.params[j]? = some t → args[j]? = some v → Value.okWide Tryd.prog W .any base t v := hval0
  have hW' := hW
  obtain ⟨p, q, hA0, hV, rfl, hfz, hnd⟩ := hW
  have hA : DataW.TrodAll enc Tryd.prog W 0 (fun _ => true) true Tryd.f7.params.toList args.toList ds p := hA0
  rw [Tryd.params7] at hA hval
  obtain ⟨v0, v1, v2, d0, d1, d2, p0, p1, p2, rfl, rfl, rfl, h0, h1, h2⟩ := trodAll_three hA
  obtain ⟨rfl, rfl⟩ := trodVars_none hV
  simp only [List.append_nil] at hW'
  have hlt : ∀ x ∈ p0 ++ p1 ++ p2, x.block < W.heap.size := fun x hx => by simpa using hW'.lt x hx
  have k0 := h0
  have k1 := h1
  have k2 := h2
  obtain ⟨a0, n0, c0, b0, rfl, hn0, hl0, hb0⟩ := bys_in (hval 0 59 v0 rfl rfl) h0
  obtain ⟨a1, n1, c1, b1, rfl, hn1, hl1, hb1⟩ := bys_in (hval 1 59 v1 rfl rfl) h1
  obtain ⟨l, rfl⟩ := li_in (hval 2 61 v2 rfl rfl) h2
  have hd := dbl_of_laid hL
  have fin : ∀ W', Below W.heap.size W W' → Rows.autoPrefixSpec.post enc Tryd.checked.prog Tryd.f7 false true false false W #[.slice a0 n0 c0, .slice a1 n1 c1, l.val] (.bool true) W' := by
    intro W' hb
    refine ⟨_, _, _, [], p0 ++ p1 ++ p2, [], hW', ?_, ?_, rfl, hb.frame _, fun h => by cases h⟩
    · exact trodAll_mk1 (shut_bool Tryd.underlying4 true)
    · rw [List.append_assoc]; exact trodAll_mk3 (Below.trod laidOut (by kernel_rfl) (of_decide_eq_true (by kernel_rfl)) k0 hb (fun x hx => hlt x (by simp [hx])))
        (Below.trod laidOut (by kernel_rfl) (of_decide_eq_true (by kernel_rfl)) k1 hb (fun x hx => hlt x (by simp [hx])))
        (Below.trod laidOut (by kernel_rfl) (of_decide_eq_true (by kernel_rfl)) k2 hb (fun x hx => hlt x (by simp [hx])))
  by_cases hs : b0.length ≤ 300 ∧ b1.length ≤ 300
  · subst hl0 hl1
    exact (ap_walk a0 a1 c0 c1 b0 b1 l W hs.1 hs.2 hb0 hb1 hd).mono fun e W' ⟨he, hb⟩ => ⟨_, he, fin W' hb⟩
  · exact (ap_long a0 a1 n0 c0 n1 c1 l W hn0 hn1 (by omega) hd).mono fun e W' ⟨he, hb⟩ => ⟨_, he, fin W' hb⟩

end Go.Proofs.YtceddcogpigolaaDoor
