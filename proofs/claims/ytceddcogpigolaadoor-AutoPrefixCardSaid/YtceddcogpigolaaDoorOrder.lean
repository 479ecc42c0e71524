/- order.Keys by contracts. -/
import Derived.Test.YtceddcogpigolaaDoorRd
import Derived.Lib.BytesEntry
namespace Go.Proofs.YtceddcogpigolaaDoor
open Go.RowKit Go.Sort

def u8v (x : Int) : Value := .int .u8 x
def sl (b n c : Nat) : Value := .slice (some ⟨b, 0, none⟩) n c
structure Ky where
  l0 : List Int
  l1 : List Int
  now : Bool
  ended : Bool
/-- A buffer of 'most' bytes in block x that begins with l. -/
def Buf (w : World) (x most : Nat) (l : List Int) : Prop := ∃ r : List Value, Blk w x (l.map u8v ++ r) 5 ∧ l.length + r.length = most
structure Ky.sits (s : Ky) (w : World) (k x y most : Nat) : Prop where
  head : Blk w k [sl x s.l0.length most, sl y s.l1.length most, .int .i64 (if s.now then 1 else 0), .bool s.ended] 258
  b0 : Buf w x most s.l0
  b1 : Buf w y most s.l1
  kx : k ≠ x
  ky : k ≠ y
  xy : x ≠ y
def Ky.cur (s : Ky) : List Int := if s.now then s.l1 else s.l0
def Ky.byte (s : Ky) (most : Nat) (c : Int) : Ky × Bool :=
  if s.cur.length = most then (s, false)
  else (if s.now then { s with l1 := s.l1 ++ [c] } else { s with l0 := s.l0 ++ [c] }, true)
def of3 (k x y : Nat) : Nat → Prop := fun b => b = k ∨ b = x ∨ b = y

theorem Buf.drew {w : World} {x most : Nat} {l : List Int} (h : Buf w x most l) : Buf w.drew x most l := h
theorem Buf.far {w : World} {x most : Nat} {l : List Int} (h : Buf w x most l) {a : Addr} (hne : a.block ≠ x) (v : Value) : Buf (w.setCell a v) x most l := by
  obtain ⟨r, h1, h2⟩ := h
  exact ⟨r, h1.far hne v, h2⟩
theorem Buf.alloc {w : World} {x most : Nat} {l : List Int} (h : Buf w x most l) (o : Obj) : Buf (w.alloc o) x most l := by
  obtain ⟨r, h1, h2⟩ := h
  exact ⟨r, h1.alloc o, h2⟩
theorem Buf.lt {w : World} {x most : Nat} {l : List Int} (h : Buf w x most l) : x < w.heap.size := h.choose_spec.1.lt
theorem Buf.push {w : World} {x most : Nat} {l : List Int} (h : Buf w x most l) (hl : l.length < most) (c : Int) : Buf (w.setCell ⟨x, l.length, none⟩ (u8v c)) x most (l ++ [c]) := by
  obtain ⟨r, h1, h2⟩ := h
  match r, h2 with
  | [], h2 => simp at h2; omega
  | v :: r, h2 =>
    refine ⟨r, (h1.set l.length (u8v c)).cast ?_, by simp at h2 ⊢; omega⟩
    rw [List.set_append_right _ _ (by simp)]
    simp
theorem Buf.spare {w : World} {x most : Nat} {l : List Int} (h : Buf w x most l) (i : Nat) (hi : i < most) : (w.cell? ⟨x, i, none⟩).isSome = true ∧ w.frozen? ⟨x, i, none⟩ = false := by
  obtain ⟨r, h1, h2⟩ := h
  refine ⟨?_, h1.thaw _ _⟩
  rw [h1.at, List.getElem?_eq_getElem (by simp; omega)]
  rfl

theorem Buf.only {S : Nat → Prop} {w w' : World} (h : Only S w w') {x most : Nat} {l : List Int} (hb : Buf w x most l) (hs : ¬ S x) : Buf w' x most l := by
  obtain ⟨r, h1, h2⟩ := hb
  exact ⟨r, h.blk h1 hs, h2⟩
theorem Ky.sits.only {S : Nat → Prop} {w w' : World} {k x y most : Nat} {s : Ky} (h : s.sits w k x y most) (ho : Only S w w') (hk : ¬ S k) (hx : ¬ S x) (hy : ¬ S y) : s.sits w' k x y most :=
  ⟨ho.blk h.head hk, h.b0.only ho hx, h.b1.only ho hy, h.kx, h.ky, h.xy⟩
theorem Ky.sits.below {w w' : World} {k x y most : Nat} {s : Ky} (h : s.sits w k x y most) (ho : Below w.heap.size w w') : s.sits w' k x y most :=
  h.only (Below.only ho (fun _ => False)) (fun e => e) (fun e => e) (fun e => e)
theorem one_new (w : World) (x : Value) (t : TypeId) : ∀ j u, [x][j]? = some u → (w.alloc (.cells #[x] t)).cell? ((⟨w.heap.size, 0, none⟩ : Addr).add j) = some u := by
  intro j u hj
  match j, hj with
  | 0, hj =>
    simp at hj
    subst hj
    exact (Blk.new w #[x] t).cell 0 rfl
  | j + 1, hj => simp at hj
/-- append of one one-cell element, where there is room, as a step of a region that draws. -/
theorem step_append_one {P : Program} {ops : Array Oper} {o : Oper} {a : Act} {w : World} {K : Act → World → Prop} {Q : Exit → Act → World → Prop} {E : Prop}
    (hg : o.guard = none) (s x : Operand) (t : TypeId) (hop : o.op = Op.call { callee := Callee.builtin Builtin.append, args := #[s, x], argTypes := #[t, t] })
    (e : TypeId) (i : TypeInfo) (h1 : P.underlying t = some (.slice e)) (h2 : P.info? e = some i) (h4 : i.size = 1)
    (b n cap : Nat) (hs : a.eval s = .slice (some ⟨b, 0, none⟩) n cap)
    (ad : Addr) (c : Nat) (v : Value) (hx : a.eval x = .slice (some ad) 1 c) (hc : ∀ j u, [v][j]? = some u → w.cell? (ad.add j) = some u) (h1c : v.oneCell' = true)
    (hroom : n < cap) (hspare : (w.cell? ⟨b, n, none⟩).isSome = true ∧ w.frozen? ⟨b, n, none⟩ = false)
    (hK : K (a.put o.dst (.slice (some ⟨b, 0, none⟩) (n + 1) cap)) (w.setCell ⟨b, n, none⟩ v)) :
    if Region.wanted o (yielded ops a.tmps) = true then Oper.wp P o a w K Q else E := by
  refine step_append_room hg s x t hop e i 1 h1 h2 h4 b 0 n cap hs ad 1 c [v] hx rfl hc (by simpa using h1c) hroom ?_ ?_
  · intro j hj
    have : j = 0 := by simpa using hj
    subst this
    simpa using hspare
  · simpa [World.setCells] using hK
theorem Buf.spare_in {w w' : World} {x most : Nat} {l : List Int} (h : Buf w x most l) (i : Nat) (hi : i < most) (hb : w'.heap[x]? = w.heap[x]?) : (w'.cell? ⟨x, i, none⟩).isSome = true ∧ w'.frozen? ⟨x, i, none⟩ = false := by
  rw [World.cell?_of_block (w := w) (a := ⟨x, i, none⟩) hb, World.frozen?_of_block (w := w) (a := ⟨x, i, none⟩) hb]
  exact h.spare i hi
theorem info_5 : (Tryd.prog.info? 5).map (·.size) = some 1 := by kernel_rfl

theorem Only.one {S : Nat → Prop} {a w : World} (h : Only S a w) (b i : Nat) (hb : S b) (v : Value) : Only S a (w.setCell ⟨b, i, none⟩ v) := h.set (p := ⟨b, i, none⟩) hb v
theorem ky_pushed0 {k x y most : Nat} {l0 l1 : List Int} {ended : Bool} {w : World} {o : Obj} (c : Int) (hs : Ky.sits ⟨l0, l1, false, ended⟩ w k x y most) (hl : l0.length < most) :
    Ky.sits ⟨l0 ++ [c], l1, false, ended⟩ ((((w.alloc o).setCell ⟨x, l0.length, none⟩ (.int .u8 c)).setCell ⟨k, 0, none⟩ (.slice (some ⟨x, 0, none⟩) (l0.length + 1) most)).drew) k x y most := by
  refine ⟨?_, ?_, ?_, hs.kx, hs.ky, hs.xy⟩
  · refine ((((hs.head.alloc o).far (a := ⟨x, l0.length, none⟩) (fun e => hs.kx e.symm) _).set 0 _).drew).cast ?_
    simp [sl]
  · exact ((((hs.b0.alloc o).push hl c).far (a := ⟨k, 0, none⟩) hs.kx _).drew)
  · exact ((((hs.b1.alloc o).far (a := ⟨x, l0.length, none⟩) hs.xy _).far (a := ⟨k, 0, none⟩) hs.ky _).drew)
theorem ky_push_only0 {k x y most : Nat} {s : Ky} {n i : Nat} {u v : Value} {w : World} {o : Obj} (_ : s.sits w k x y most) :
    Only (of3 k x y) w ((((w.alloc o).setCell ⟨x, n, none⟩ u).setCell ⟨k, i, none⟩ v).drew) :=
  ((((Only.refl _ _).alloc o).one x n (.inr (.inl rfl)) u).one k i (.inl rfl) v).drew
theorem ky_pushed1 {k x y most : Nat} {l0 l1 : List Int} {ended : Bool} {w : World} {o : Obj} (c : Int) (hs : Ky.sits ⟨l0, l1, true, ended⟩ w k x y most) (hl : l1.length < most) :
    Ky.sits ⟨l0, l1 ++ [c], true, ended⟩ ((((w.alloc o).setCell ⟨y, l1.length, none⟩ (.int .u8 c)).setCell ⟨k, 1, none⟩ (.slice (some ⟨y, 0, none⟩) (l1.length + 1) most)).drew) k x y most := by
  refine ⟨?_, ?_, ?_, hs.kx, hs.ky, hs.xy⟩
  · refine ((((hs.head.alloc o).far (a := ⟨y, l1.length, none⟩) (fun e => hs.ky e.symm) _).set 1 _).drew).cast ?_
    simp [sl]
  · exact ((((hs.b0.alloc o).far (a := ⟨y, l1.length, none⟩) (fun e => hs.xy e.symm) _).far (a := ⟨k, 1, none⟩) hs.kx _).drew)
  · exact ((((hs.b1.alloc o).push hl c).far (a := ⟨k, 1, none⟩) hs.ky _).drew)
theorem ky_push_only1 {k x y most : Nat} {s : Ky} {n i : Nat} {u v : Value} {w : World} {o : Obj} (_ : s.sits w k x y most) :
    Only (of3 k x y) w ((((w.alloc o).setCell ⟨y, n, none⟩ u).setCell ⟨k, i, none⟩ v).drew) :=
  ((((Only.refl _ _).alloc o).one y n (.inr (.inr rfl)) u).one k i (.inl rfl) v).drew

end Go.Proofs.YtceddcogpigolaaDoor
