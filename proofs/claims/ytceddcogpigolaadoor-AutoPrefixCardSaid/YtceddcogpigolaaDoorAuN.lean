/- auto.Auto.note by contract. -/
import Derived.Test.YtceddcogpigolaaDoorAuA
namespace Go.Proofs.YtceddcogpigolaaDoor
open Go.RowKit Go.Sort

theorem info75 : (Tryd.prog.info? 75).map (fun i => (i.zero, i.size, i.bytes)) = some (some (.agg #[.int .i64 0, .int .i64 0, .int .i64 0, .int .u64 0, .int .u8 0, .int .i64 0]), 6, 48) := by kernel_rfl
theorem EvRows.push {cs cs' : List Value} {l : List Ev} (h : EvRows cs l) (e : Ev) (hnew : Rowed 6 cs' l.length e.cells) (hold : ∀ p, p < l.length * 6 → cs'[p]? = cs[p]?) : EvRows cs' (l ++ [e]) := by
  intro i f hf j hj
  rcases Nat.lt_or_ge i l.length with hi | hi
  · rw [List.getElem?_append_left hi] at hf
    have : i * 6 + j < l.length * 6 := by
      have : (i + 1) * 6 ≤ l.length * 6 := Nat.mul_le_mul_right _ hi
      omega
    rw [hold _ this]
    exact h i f hf j hj
  · have hi' : i = l.length := by
      have := (List.getElem?_eq_some_iff.1 hf).1
      simp at this
      omega
    subst hi'
    simp at hf
    subst hf
    exact hnew j hj
theorem cells_new (w : World) (vs : List Value) (t : TypeId) : ∀ j u, vs[j]? = some u → (w.alloc (.cells vs.toArray t)).cell? ((⟨w.heap.size, 0, none⟩ : Addr).add j) = some u := by
  intro j u hj
  rw [Addr.add_mid, Nat.zero_add]
  exact (Blk.new w vs.toArray t).cell j hj

theorem setCells_far {w : World} {a : Addr} {b : Nat} (h : a.block ≠ b) (hl : a.block < w.heap.size) (o : Nat) (vs : List Value) : (w.setCells b o vs).cell? a = w.cell? a ∧ (w.setCells b o vs).frozen? a = w.frozen? a := by
  have hb := (Only.setCells (S := (· = b)) (a := w) b rfl vs o w (Only.refl _ _)).block a.block hl h
  exact ⟨World.cell?_of_block hb, World.frozen?_of_block hb⟩

theorem au_noted {A : AB} (hA : A.ok) {most : Nat} {a : Au} (e : Ev) {W : World} (hs : a.sits W A most) (hl : a.evs.length < 132) (o : Obj) :
    (a.note e).sits (((W.alloc o).drew.setCells A.eb (a.evs.length * 6) e.cells).setCell ⟨A.ab, 22, none⟩ (.slice (some ⟨A.eb, 0, none⟩) (a.evs.length + 1) 132)) A most ∧
    Only (fun b => b = A.ab ∨ b = A.eb) W (((W.alloc o).drew.setCells A.eb (a.evs.length * 6) e.cells).setCell ⟨A.ab, 22, none⟩ (.slice (some ⟨A.eb, 0, none⟩) (a.evs.length + 1) 132)) := by
  have hO : Only (fun b => b = A.ab ∨ b = A.eb) W (((W.alloc o).drew.setCells A.eb (a.evs.length * 6) e.cells).setCell ⟨A.ab, 22, none⟩ (.slice (some ⟨A.eb, 0, none⟩) (a.evs.length + 1) 132)) :=
    (Only.setCells A.eb (.inr rfl) e.cells (a.evs.length * 6) _ (((Only.refl _ W).alloc o).drew)).one A.ab 22 (.inl rfl) _
  obtain ⟨cs, hc, hcl, hr⟩ := hs.evs
  obtain ⟨cs', k1, k2, k3, k4⟩ := Blk.setCells (b := A.eb) (t := 75) e.cells (a.evs.length * 6) _ cs ((hc.alloc o).drew)
  have h1 : Blk ((W.alloc o).drew.setCells A.eb (a.evs.length * 6) e.cells) A.ab (a.cells A) 140 := (Only.setCells (S := (· = A.eb)) (a := (W.alloc o).drew) A.eb rfl e.cells (a.evs.length * 6) _ (Only.refl _ _)).blk ((hs.head.alloc o).drew) hA.ae
  refine ⟨⟨?_, ⟨cs', k1.far (a := ⟨A.ab, 22, none⟩) hA.ae _, by rw [k2, hcl], hr.push e ?_ fun p hp => k3 p (.inl hp)⟩, ?_, ?_⟩, hO⟩
  · refine (h1.set 22 _).cast ?_
    simp [Au.cells, Au.note, evsV]
  · intro j hj
    have hj' : j < e.cells.length := hj
    rw [List.getElem?_eq_getElem hj']
    exact k4 j _ (List.getElem?_eq_getElem hj') (by omega)
  · simp [Au.note]; omega
  · refine hs.sk.only hO ?_
    rintro b hb (rfl | rfl)
    · exact hA.ba hb
    · exact hA.be hb
theorem ev_spare {A : AB} {most : Nat} {a : Au} {W : World} (hs : a.sits W A most) (hl : a.evs.length < 132) (o : Obj) : ∀ j, j < 6 →
    (((W.alloc o).drew).cell? ⟨A.eb, 0 + a.evs.length * 6 + j, none⟩).isSome = true ∧ ((W.alloc o).drew).frozen? ⟨A.eb, 0 + a.evs.length * 6 + j, none⟩ = false := by
  obtain ⟨cs, hc, hcl, hr⟩ := hs.evs
  have hb : Blk ((W.alloc o).drew) A.eb cs 75 := (hc.alloc o).drew
  intro j hj
  refine ⟨?_, hb.thaw _ _⟩
  rw [hb.at, List.getElem?_eq_getElem (by rw [hcl]; omega)]
  rfl

set_option maxRecDepth 100000 in
set_option maxHeartbeats 8000000 in
theorem au_note (A : AB) (hA : A.ok) (most : Nat) (a : Au) (e : Ev) (w : World) (hs : a.sits w A most) (hl : a.evs.length < 132) :
    Calls Tryd.prog 168 #[.pointer (some ⟨A.ab, 0, none⟩), e.val] w fun en w' => en = .returned (.tuple #[]) ∧ (a.note e).sits w' A most ∧ Only (fun b => b = A.ab ∨ b = A.eb) w w' := by
  have HA := Lib.hid hA
  have HL := Lib.hid hl
  obtain ⟨i75, hi75, -, hz75, -⟩ := info_parts info75
  have I75 := Lib.hid hi75
  have Z75 := Lib.hid hz75
  have HS := Lib.hid hs
  have ae := hA.ae
  clear hi75 hz75 hs hA hl
  unfold Ev.val
  go_enter Tryd.func168, Tryd.ntmps168
  go_wp2_with fail
  refine name_world (fun W => a.sits W A most ∧ Below w.heap.size w W ∧ Blk W w.heap.size e.cells 75) ⟨HS.out.below (by go_grown), by go_grown, Blk.new w _ _⟩ ?_
  rintro W ⟨hS, hB, hE⟩
  have SS := Lib.hid hS
  have BB := Lib.hid hB
  have EE := Lib.hid hE
  have c22 : W.cell? ⟨A.ab, 22, none⟩ = some (.slice (some ⟨A.eb, 0, none⟩) a.evs.length 132) := hS.head.cell 22 rfl
  have f22 := hS.head.thaw 22 none
  have l1 : A.ab < W.heap.size := hS.head.lt
  have l2 : w.heap.size < W.heap.size := hE.lt
  have l3 : A.eb < W.heap.size := hS.evs.choose_spec.1.lt
  have l4 : A.ab < w.heap.size := HS.out.head.lt
  obtain ⟨cs, hcs, hcl, hcr⟩ := hS.evs
  have CS := Lib.hid hcs
  have CL := Lib.hid hcl
  have CR := Lib.hid hcr
  have ec : ∀ i, W.cell? ⟨w.heap.size, i, none⟩ = [.int .i64 e.kind, .int .i64 e.head.mj, .int .i64 e.head.wd, .int .u64 e.head.arg, .int .u8 e.byte, .int .i64 e.deep][i]? := hE.at
  generalize hn : w.heap.size = N at *
  have NN := Lib.hid hn
  have ka : ∀ o, (W.alloc o).cell? ⟨A.ab, 22, none⟩ = some (.slice (some ⟨A.eb, 0, none⟩) a.evs.length 132) := fun o => (World.cell?_alloc_lt (a := ⟨A.ab, 22, none⟩) W o l1).trans c22
  have fa : ∀ o, (W.alloc o).frozen? ⟨A.ab, 22, none⟩ = false := fun o => (World.frozen?_alloc_old _ _ _ (by show A.ab ≠ _; omega)).trans f22
  have l1' : ∀ o, A.ab < ((W.alloc o).drew).heap.size := fun o => by show A.ab < (W.alloc o).heap.size; simp; omega
  have kb : ∀ o vs, ((W.alloc o).drew.setCells A.eb (a.evs.length * 6) vs).cell? ⟨A.ab, 22, none⟩ = some (.slice (some ⟨A.eb, 0, none⟩) a.evs.length 132) := fun o vs => (setCells_far (w := (W.alloc o).drew) (a := ⟨A.ab, 22, none⟩) ae (l1' o) _ vs).1.trans (ka o)
  have fb : ∀ o vs, ((W.alloc o).drew.setCells A.eb (a.evs.length * 6) vs).frozen? ⟨A.ab, 22, none⟩ = false := fun o vs => (setCells_far (w := (W.alloc o).drew) (a := ⟨A.ab, 22, none⟩) ae (l1' o) _ vs).2.trans (fa o)
  clear l1'
  clear hS hB hE hcs hcl hcr hn
  go_region_law (refine step_append_room (by rfl) _ _ 99 (by rfl) 75 i75 6 Tryd.underlying99 I75.out Z75.out A.eb 0 a.evs.length 132 (by simp [Act.eval, Act.put]) ⟨W.heap.size, 0, none⟩ 1 1 e.cells (by simp [Act.eval, Act.put]) (by rfl) (cells_new _ _ _) (by simp [Ev.cells, Value.oneCell']) (by have := HL.out; omega) (ev_spare SS.out HL.out _) ?_)
  all_goals
    go_returns
    exact ⟨rfl, (au_noted HA.out e SS.out HL.out _).1, (Below.only (show Below w.heap.size w W by rw [NN.out]; exact BB.out) _).trans (au_noted HA.out e SS.out HL.out _).2⟩

end Go.Proofs.YtceddcogpigolaaDoor
