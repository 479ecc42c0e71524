/- Verdicts held against one another; bytes appended in a region that draws. -/
import Derived.Test.YtceddcogpigolaaDoorApA
import Derived.Deep.DeepCutAuto
import Derived.Maps.AppendAt
namespace Go.Proofs.YtceddcogpigolaaDoor
open Go.RowKit Go.Sort

theorem stood28 : Tryd.prog.stoodInHeld 28 = false := by kernel_rfl
theorem eqg28 : Tryd.prog.eqGuardType Tryd.prog.depth 28 = false := by kernel_rfl
theorem under28 : Tryd.prog.underlying 28 = some (.struct (Tryd.prog.fieldsOf 28)) := by kernel_rfl
theorem eql28 (a b c d : Int) (W : World) : (binOp .eql 28 (.agg #[.int .i64 a, .int .i64 b]) (.agg #[.int .i64 c, .int .i64 d])).run Tryd.prog W = .ok (.bool (a == c && b == d)) W := by
  rw [run_eql_struct, run_equalIn_agg W _ _ _ _ under28 stood28]
  simp [go_sem, Op.eqFields, Program.fieldsOf, Tryd.underlying28, Tryd.underlying22, Tryd.underlying3]
  by_cases h1 : a = c <;> by_cases h2 : b = d <;> simp [h1, h2]

def rowAt (v : Value) (k : Nat) : Prop := some k = v.ownBlock
theorem rowAt_eq {g o : Nat} {n c k : Nat} (h : rowAt (.slice (some ⟨g, o, none⟩) n c) k) : k = g := by
  unfold rowAt Value.ownBlock at h
  exact Option.some.inj h
theorem only_of_grown {w w' : World} {v : Value} (h : w.grownBy w' v.ownBlock) : Only (rowAt v) w w' := ⟨h.os, h.tape, h.output, h.size, fun k hk hn => h.block k hk hn⟩
theorem own0 (W : World) (B : Nat) (h : B ≤ W.heap.size) : (W.alloc (.cells #[] 5)).ownsRow B 5 1 (.slice (some ⟨W.heap.size, 0, none⟩) 0 0) 0 (([] : List Int).map u8v) :=
  World.ownsRow_made W #[] 0 h (Nat.zero_le _) rfl
theorem own1 {W : World} {g B : Nat} (h : Blk W g [] 5) (hB : B ≤ g) : W.ownsRow B 5 1 (.slice (some ⟨g, 0, none⟩) 0 0) 0 (([] : List Int).map u8v) :=
  ⟨rfl, .inr ⟨g, 0, #[], rfl, hB, h, Nat.le_refl _, Nat.zero_le _, rfl, rfl⟩⟩
/-- append of bytes onto a row of the call's own. -/
theorem run_append_bytes (w : World) (base : Nat) (v : Value) (n : Nat) (xs bs : List Int) (hown : w.ownsRow base 5 1 v n (xs.map u8v)) (A : Option Addr) (c : Nat) (hb : Bys w A bs) (h63 : n + bs.length ≤ 100000) (hbase : base ≤ w.heap.size) (ty : TypeId) :
    ∃ A' c' w', (Builtin.append_ #[59, 59] ty #[v, .slice A bs.length c]).run Tryd.prog w = .ok (.slice A' (n + bs.length) c') w' ∧ w'.ownsRow base 5 1 (.slice A' (n + bs.length) c') (n + bs.length) ((xs ++ bs).map u8v) ∧ Below base w w' ∧ Only (rowAt v) w w' ∧ ∀ k, k < w.heap.size → rowAt (.slice A' (n + bs.length) c') k → rowAt v k := by
  obtain ⟨i5, hi, hz0, hz1, hz2⟩ := info_parts info5
  have shape : ∀ (v' : Value) (w' : World) (k : Nat) (ys : List Value), w'.ownsRow base 5 1 v' k ys → ∃ A' c', v' = Value.slice A' k c' := by
    intro v' w' k ys h
    rcases h.2 with ⟨rfl, rfl⟩ | ⟨g, cap, cur, rfl, _⟩
    · exact ⟨_, _, rfl⟩
    · exact ⟨_, _, rfl⟩
  cases A with
  | none =>
    have e : bs = [] := hb.2.resolve_right (by rintro ⟨b, off, h, _⟩; cases h)
    subst e
    obtain ⟨A', c', rfl⟩ := shape _ _ _ _ hown
    refine ⟨A', c', w, ?_, by simpa using hown, Below.refl _ _, Only.refl _ _, fun k _ h => h⟩
    rcases hown.2 with ⟨h1, rfl⟩ | ⟨g, cap, cur, h1, _, _, hnc, _⟩
    · cases h1
      simp [Builtin.append_, run_underlying Tryd.underlying59, sizeOf, typeInfo, hi, Builtin.lenOf, Builtin.firstCells]
    · cases h1
      simp [Builtin.append_, run_underlying Tryd.underlying59, sizeOf, typeInfo, hi, Builtin.lenOf, Builtin.firstCells, hnc, storeCells]
  | some ad =>
    obtain ⟨v', w', h1, h2, h3, -, h5⟩ := run_append_own_at (P := Tryd.prog) w base 59 ty 5 i5 (.int .u8 0) 1 1 Tryd.underlying59 hi hz0 hz1 hz2 rfl (by decide) v n (xs.map u8v) hown ad bs.length c (bs.map u8v) (by simp)
      (by
        intro j u hj
        rcases hb.2 with rfl | ⟨b, off, h, hc⟩
        · simp at hj
        · cases h
          obtain ⟨x, hx, rfl⟩ : ∃ x, bs[j]? = some x ∧ u8v x = u := by simpa [List.getElem?_map] using hj
          rw [Addr.add_mid]
          exact hc j x hx)
      (by intro u hu; obtain ⟨x, _, rfl⟩ := List.mem_map.1 hu; rfl) (by unfold maxLen; omega) (by omega) hbase
    obtain ⟨A', c', rfl⟩ := shape _ _ _ _ h2
    refine ⟨A', c', w', h1, by rw [List.map_append]; exact h2, (Below.refl base w).grown h3 hbase fun k hk => (hown.lt k hk).1, only_of_grown h3, fun k hk h => ?_⟩
    unfold rowAt at h ⊢
    rcases h5 with h5 | h5
    · rw [← h5]; exact h
    · rw [h5] at h
      cases h
      omega
theorem Bys.of_row {w : World} {base : Nat} {A : Option Addr} {n c : Nat} {bs : List Int} (h : w.ownsRow base 5 1 (.slice A n c) n (bs.map u8v)) (hb : ∀ x ∈ bs, 0 ≤ x ∧ x < 256) : Bys w A bs ∧ n = bs.length := by
  have hl : n = bs.length := by have := h.1; simp at this; omega
  refine ⟨⟨hb, ?_⟩, hl⟩
  rcases h.2 with ⟨h1, h2⟩ | ⟨g, cap, cur, h1, _, hg, hnc, _, hs, ht⟩
  · exact .inl (List.eq_nil_of_length_eq_zero (by omega))
  · cases h1
    refine .inr ⟨g, 0, rfl, fun k x hk => ?_⟩
    have hk2 : (cur.toList.take (n * 1))[k]? = some (u8v x) := by rw [ht, List.getElem?_map, hk]; rfl
    have hk3 : cur.toList[k]? = some (u8v x) := by
      rw [List.getElem?_take] at hk2
      split at hk2
      · exact hk2
      · cases hk2
    have hB : Blk w g cur.toList 5 := by unfold Blk; simpa using hg
    rw [Nat.zero_add]
    exact hB.cell k hk3
theorem step_append_bytes {ops : Array Oper} {o : Oper} {a : Act} {w : World} {K : Act → World → Prop} {Q : Exit → Act → World → Prop} {E : Prop} (hgd : o.guard = none) (s x : Operand)
    (ho : o.op = .call { callee := .builtin .append, args := #[s, x], argTypes := #[59, 59] }) (base : Nat) (v : Value) (n : Nat) (xs bs : List Int) (hs : a.eval s = v) (hown : w.ownsRow base 5 1 v n (xs.map u8v))
    (A : Option Addr) (m c : Nat) (hx : a.eval x = .slice A m c) (hm : m = bs.length) (hb : Bys w A bs) (h63 : n + bs.length ≤ 100000) (hbase : base ≤ w.heap.size)
    (h : ∀ A' c' w', w'.ownsRow base 5 1 (.slice A' (n + m) c') (n + m) ((xs ++ bs).map u8v) → Below base w w' → Only (rowAt v) w w' → (∀ k, k < w.heap.size → rowAt (.slice A' (n + m) c') k → rowAt v k) → K (a.put o.dst (.slice A' (n + m) c')) w') :
    if Region.wanted o (yielded ops a.tmps) = true then Oper.wp Tryd.prog o a w K Q else E := by
  have hw : Region.wanted o (yielded ops a.tmps) = true := by simp [Region.wanted, hgd]
  rw [if_pos hw]
  subst hm
  obtain ⟨A', c', w', hr, h2, h3, h4, h5⟩ := run_append_bytes w base v n xs bs hown A c hb h63 hbase o.type
  unfold Oper.wp execOp
  simp only [ho, resolve, invoke, builtin, Sem.run_bind, Sem.run_pure, Result.andThen_ok, List.map_toArray, List.map_cons, List.map_nil, hs, hx, hr]
  exact h A' c' w' h2 h3 h4 h5

end Go.Proofs.YtceddcogpigolaaDoor
