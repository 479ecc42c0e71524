/- Blocks known whole, and what a call leaves of the others. -/
import Derived.Test.YtceddcogpigolaaDoorProg
import Derived.Handy
import Derived.Lib.Hide
import Derived.Lib.QuietBelow
import Derived.WalkLawsBesides
import Derived.Deep.LoopGhost
import Derived.Deep.RegionHeld3
import Derived.Deep.RegionLaw
import Derived.Deep.MidRow
namespace Go.Proofs.YtceddcogpigolaaDoor
open Go.RowKit Go.Sort

/-- Block b is these cells, of which none is frozen. -/
def Blk (w : World) (b : Nat) (cs : List Value) (t : TypeId) : Prop := w.heap[b]? = some (.cells cs.toArray t (0, 0))

theorem Blk.lt {w : World} {b : Nat} {cs : List Value} {t : TypeId} (h : Blk w b cs t) : b < w.heap.size := by
  unfold Blk at h
  rcases Nat.lt_or_ge b w.heap.size with h' | h'
  · exact h'
  · rw [Array.getElem?_eq_none h'] at h; cases h
theorem Blk.cell {w : World} {b : Nat} {cs : List Value} {t : TypeId} (h : Blk w b cs t) (i : Nat) {v : Value} (hv : cs[i]? = some v) : w.cell? ⟨b, i, none⟩ = some v := by
  unfold Blk at h
  simp [World.cell?, h, hv]
theorem Blk.at {w : World} {b : Nat} {cs : List Value} {t : TypeId} (h : Blk w b cs t) (i : Nat) : w.cell? ⟨b, i, none⟩ = cs[i]? := by
  unfold Blk at h
  simp [World.cell?, h]
theorem Blk.thaw {w : World} {b : Nat} {cs : List Value} {t : TypeId} (h : Blk w b cs t) (i : Nat) (s : Option _) : w.frozen? ⟨b, i, s⟩ = false := by
  unfold Blk at h
  simp [World.frozen?, h]
theorem Blk.set {w : World} {b : Nat} {cs : List Value} {t : TypeId} (h : Blk w b cs t) (i : Nat) (v : Value) : Blk (w.setCell ⟨b, i, none⟩ v) b (cs.set i v) t := by
  unfold Blk at *
  simp [World.setCell, Array.getElem?_modify, h]
theorem Blk.far {w : World} {b : Nat} {cs : List Value} {t : TypeId} (h : Blk w b cs t) {a : Addr} (hne : a.block ≠ b) (v : Value) : Blk (w.setCell a v) b cs t := by
  unfold Blk at *
  rw [Below.heap_setCell _ _ _ _ (fun e => hne e.symm)]
  exact h
theorem Blk.alloc {w : World} {b : Nat} {cs : List Value} {t : TypeId} (h : Blk w b cs t) (o : Obj) : Blk (w.alloc o) b cs t := by
  have := h.lt
  unfold Blk at *
  rw [Below.heap_alloc _ _ _ this]
  exact h
theorem Blk.new (w : World) (cs : Array Value) (t : TypeId) : Blk (w.alloc (.cells cs t)) w.heap.size cs.toList t := by
  have h : (w.alloc (.cells cs t)).heap[w.heap.size]? = some (.cells cs t) := by
    show (w.heap.push _)[_]? = _
    simp
  unfold Blk
  rw [h]
theorem Blk.drew {w : World} {b : Nat} {cs : List Value} {t : TypeId} (h : Blk w b cs t) : Blk w.drew b cs t := h
theorem Blk.cast {w : World} {b : Nat} {cs cs' : List Value} {t : TypeId} (h : Blk w b cs t) (e : cs = cs') : Blk w b cs' t := e ▸ h
theorem Blk.setCells {b : Nat} {t : TypeId} : ∀ (vs : List Value) (o : Nat) (w : World) (cs : List Value), Blk w b cs t → ∃ cs', Blk (w.setCells b o vs) b cs' t ∧ cs'.length = cs.length ∧ (∀ i, i < o ∨ o + vs.length ≤ i → cs'[i]? = cs[i]?) ∧ ∀ i v, vs[i]? = some v → o + i < cs.length → cs'[o + i]? = some v
  | [], o, w, cs, h => ⟨cs, h, rfl, fun _ _ => rfl, fun i v hv => by simp at hv⟩
  | v :: r, o, w, cs, h => by
    obtain ⟨cs', h1, h2, h3, h4⟩ := Blk.setCells r (o + 1) (w.setCell ⟨b, o, none⟩ v) (cs.set o v) (h.set o v)
    refine ⟨cs', h1, by simpa using h2, fun i hi => ?_, fun i u hu hl => ?_⟩
    · rw [h3 i (by simp at hi; omega), List.getElem?_set_ne (by simp at hi; omega)]
    · cases i with
      | zero =>
        simp at hu
        subst hu
        have := h3 o (by omega)
        simp only [Nat.add_zero]
        rw [this, List.getElem?_set_self (by omega)]
      | succ i =>
        have := h4 i u (by simpa using hu) (by simp; omega)
        rwa [show o + 1 + i = o + (i + 1) by omega] at this

theorem set_same {cs : List Value} {i : Nat} {v : Value} (h : cs[i]? = some v) : cs.set i v = cs := by
  apply List.ext_getElem?
  intro k
  by_cases hk : i = k
  · subst hk
    obtain ⟨hl, _⟩ := List.getElem?_eq_some_iff.1 h
    rw [List.getElem?_set_self hl, h]
  · rw [List.getElem?_set_ne hk]

/-- Of what was there only blocks that S names have turned. -/
structure Only (S : Nat → Prop) (w w' : World) : Prop where
  os : w'.os = w.os
  tape : w'.tape = w.tape
  output : w'.output = w.output
  size : w.heap.size ≤ w'.heap.size
  block : ∀ k, k < w.heap.size → ¬ S k → w'.heap[k]? = w.heap[k]?

theorem Only.refl (S : Nat → Prop) (w : World) : Only S w w := ⟨rfl, rfl, rfl, Nat.le_refl _, fun _ _ _ => rfl⟩
theorem Only.trans {S : Nat → Prop} {a b c : World} (h : Only S a b) (k : Only S b c) : Only S a c :=
  ⟨k.os.trans h.os, k.tape.trans h.tape, k.output.trans h.output, Nat.le_trans h.size k.size, fun i hi hs => (k.block i (Nat.lt_of_lt_of_le hi h.size) hs).trans (h.block i hi hs)⟩
theorem Only.mono {S S' : Nat → Prop} {w w' : World} (h : Only S w w') (hS : ∀ k, k < w.heap.size → S k → S' k) : Only S' w w' :=
  ⟨h.os, h.tape, h.output, h.size, fun k hk hs => h.block k hk fun hk' => hs (hS k hk hk')⟩
theorem Only.drew {S : Nat → Prop} {a w : World} (h : Only S a w) : Only S a w.drew := ⟨h.os, h.tape, h.output, h.size, h.block⟩
theorem Only.set {S : Nat → Prop} {a w : World} (h : Only S a w) {p : Addr} (hp : S p.block) (u : Value) : Only S a (w.setCell p u) :=
  h.trans ⟨rfl, rfl, rfl, by simp [World.setCell], fun k _ hs => Below.heap_setCell _ _ _ _ (fun e => hs (e ▸ hp))⟩
theorem Only.put {b : Nat} {a w : World} (h : Only (· = b) a w) (i : Nat) (v : Value) : Only (· = b) a (w.setCell ⟨b, i, none⟩ v) := h.set (p := ⟨b, i, none⟩) rfl v
theorem Only.new {S : Nat → Prop} {a w : World} (h : Only S a w) {p : Addr} (hp : a.heap.size ≤ p.block) (u : Value) : Only S a (w.setCell p u) :=
  ⟨h.os, h.tape, h.output, by simpa [World.setCell] using h.size, fun k hk hs => by rw [Below.heap_setCell _ _ _ _ (by omega)]; exact h.block k hk hs⟩
theorem Only.alloc {S : Nat → Prop} {a w : World} (h : Only S a w) (o : Obj) : Only S a (w.alloc o) :=
  h.trans ⟨rfl, rfl, rfl, by simp, fun k hk _ => Below.heap_alloc _ _ _ hk⟩
theorem Only.below {S : Nat → Prop} {a w w' : World} (h : Only S a w) (k : Below w.heap.size w w') : Only S a w' :=
  h.trans ⟨k.os, k.tape, k.output, k.size, fun i hi _ => k.block i hi⟩
theorem Only.toBelow {S : Nat → Prop} {w w' : World} (h : Only S w w') {B : Nat} (hB : B ≤ w.heap.size) (hS : ∀ k, k < w.heap.size → S k → B ≤ k) : Below B w w' :=
  ⟨h.os, h.tape, h.output, h.size, fun k hk => h.block k (by omega) fun hk' => by have := hS k (by omega) hk'; omega⟩
theorem Only.blk {S : Nat → Prop} {w w' : World} (h : Only S w w') {b : Nat} {cs : List Value} {t : TypeId} (hb : Blk w b cs t) (hs : ¬ S b) : Blk w' b cs t := by
  have hl := hb.lt
  unfold Blk at *
  rw [h.block b hl hs]; exact hb
theorem Only.setCells {S : Nat → Prop} {a : World} (b : Nat) (hp : S b) : ∀ (vs : List Value) (o : Nat) (w : World), Only S a w → Only S a (w.setCells b o vs)
  | [], _, _, h => h
  | v :: r, o, w, h => Only.setCells b hp r (o + 1) _ (h.set (p := ⟨b, o, none⟩) hp v)
theorem Below.only {w w' : World} (h : Below w.heap.size w w') (S : Nat → Prop) : Only S w w' := (Only.refl S w).below h
theorem Blk.below {w w' : World} {b : Nat} {cs : List Value} {t : TypeId} (hb : Blk w b cs t) (h : Below w.heap.size w w') : Blk w' b cs t := (Below.only h (fun _ => False)).blk hb (fun e => e)

/-- 'wpQuiet' behind a wall: else Lean reckons ahead over every guarded operation that is not wanted, and does not come back. -/
structure QG (P : Program) (ops : Array Oper) (C : World → Prop) (Q : Act → Prop) (l : List Oper) (a : Act) : Prop where
  out : wpQuiet P ops C Q l a
theorem qg_nil {P : Program} {ops : Array Oper} {C : World → Prop} {Q : Act → Prop} {a : Act} (h : Q a) : QG P ops C Q [] a := ⟨h⟩
theorem qg_step {P : Program} {ops : Array Oper} {C : World → Prop} {Q : Act → Prop} {a : Act} {o : Oper} {rest : List Oper}
    (h : ∀ K : Act → Prop, (∀ a, QG P ops C Q rest a → K a) → if Region.wanted o (yielded ops a.tmps) then o.quiet P a C K else K (a.put o.dst undef)) : QG P ops C Q (o :: rest) a :=
  ⟨wpQuiet_step fun K hK => h K fun a q => hK a q.out⟩
theorem wp_region_qg {P : Program} {id : Nat} {Q : Exit → Act → World → Prop} {a : Act} {w : World} {l : List Oper} (hm : P.follows .mixedOrders = true) (hB : Region.lexB .any l.toArray = true)
    (h : QG P l.toArray (fun w' => ∃ p : Regrown, w' = grow (redrawn w p.d) p.os) (fun a' => ∀ w', (∃ p : Regrown, w' = grow (redrawn w p.d) p.os) → Q .normal a' w') l a) : (Code.region id l.toArray true).wp P Q a w :=
  wp_region_quiet_below hm hB h.out

end Go.Proofs.YtceddcogpigolaaDoor
