/- The automaton as a plain function on records: frames, stack, events, bytes one by one. -/
import Derived.Test.YtceddcogpigolaaDoorUtf
import Derived.Test.YtceddcogpigolaaDoorKyEnd
import Derived.Test.YtceddcogpigolaaDoorKyNew
import Derived.Test.YtceddcogpigolaaDoorKyB0
import Derived.Test.YtceddcogpigolaaDoorKyB1
namespace Go.Proofs.YtceddcogpigolaaDoor
open Go.RowKit Go.Sort

theorem ky_byte (k x y most : Nat) (s : Ky) (c : Int) (w : World) (hs : s.sits w k x y most) :
    Calls Tryd.prog 207 #[.pointer (some ⟨k, 0, none⟩), .int .u8 c] w fun e w' => e = .returned (.bool (s.byte most c).2) ∧ (s.byte most c).1.sits w' k x y most ∧ Only (of3 k x y) w w' := by
  obtain ⟨l0, l1, now, ended⟩ := s
  cases now
  · exact ky_byte0 k x y most l0 l1 ended c w hs
  · exact ky_byte1 k x y most l0 l1 ended c w hs
structure Fr where
  ky : Ky
  kind : Int
  left : Int
  half : Bool
def Fr.waits (f : Fr) : Bool := f.kind == 5 && !f.half
/-- A byte for a frame: what becomes of it, and whether there was room. -/
def Fr.byte (f : Fr) (most : Nat) (c : Int) : Fr × Bool :=
  if f.waits then ({ f with ky := (f.ky.byte most c).1 }, (f.ky.byte most c).2) else (f, true)
/-- All frames, of which the first 'op' are open. -/
structure Sk where
  l : List Fr
  op : Nat
def Sk.byte (s : Sk) (most : Nat) (c : Int) : Sk × Bool :=
  (⟨(s.l.take s.op).map (fun f => (f.byte most c).1) ++ s.l.drop s.op, s.op⟩, (s.l.take s.op).all fun f => (f.byte most c).2)
def fr0 : Fr := ⟨⟨[], [], false, false⟩, 0, 0, false⟩
def Sk.top (s : Sk) : Fr := s.l.getD (s.op - 1) fr0
def Sk.ends : Nat → List Fr → Sk × Bool × Bool
  | 0, l => (⟨l, 0⟩, true, true)
  | n + 1, l =>
    if (l.getD n fr0).waits then (⟨l.set n { l.getD n fr0 with half := true, ky := (l.getD n fr0).ky.ends.1 }, n + 1⟩, (l.getD n fr0).ky.ends.2, false)
    else if 0 < (l.getD n fr0).left - 1 then (⟨l.set n { l.getD n fr0 with half := false, left := (l.getD n fr0).left - 1 }, n + 1⟩, true, false)
    else Sk.ends n (l.set n { l.getD n fr0 with half := false, left := (l.getD n fr0).left - 1 })
/-- How many items a frame of this kind waits for; none: it is no frame. -/
def openN (kind items : Int) : Option Int :=
  if kind = 6 then some 1 else if kind = 4 ∨ kind = 5 then (if items = 0 then none else some items) else none
def Sk.opens (s : Sk) (kind items : Int) : Sk × Bool :=
  if s.op = s.l.length then (s, false) else
  match openN kind items with
  | none => (s, false)
  | some n => (⟨s.l.set s.op ⟨(s.l.getD s.op fr0).ky.reset, kind, n, false⟩, s.op + 1⟩, true)
structure Ev where
  kind : Int
  head : Hd
  byte : Int
  deep : Int
structure Li where
  depth : Int
  key : Int
  size : Int
structure Au where
  lim : Li
  sk : Sk
  rd : Rd
  wk : Wk
  text : Bool
  left : Int
  many : Int
  done : Bool
  bad : Int
  evs : List Ev
def wk0 : Wk := ⟨0, 0, 0, false⟩
def rd0 : Rd := ⟨hd0, hd0, 0, false, 0⟩
def Au.deep (a : Au) : Int := a.sk.op + 1
def Au.note (a : Au) (e : Ev) : Au := { a with evs := a.evs ++ [e] }
/-- The ends from depth 'was' down to 'to', n of them. -/
def endEvs (was : Int) : Nat → List Ev
  | 0 => []
  | n + 1 => ⟨3, hd0, 0, was⟩ :: endEvs (was - 1) n
def keyLast (l : List Ev) : List Ev := l.set (l.length - 1) { l.getD (l.length - 1) ⟨0, hd0, 0, 0⟩ with kind := 4 }
def Au.ends (a : Au) : Au × Int :=
  let r := Sk.ends a.sk.op a.sk.l
  if r.2.1 = false then ({ a with sk := r.1 }, 7)
  else
    let evs := a.evs ++ endEvs (a.sk.op + 1) (a.sk.op + 1 - r.1.op)
    ({ a with sk := r.1, done := r.2.2, evs := if r.2.2 = false ∧ r.1.top.kind = 5 ∧ r.1.top.waits = false then keyLast evs else evs }, 0)
def Au.begin (a : Au) (h : Hd) : Au × Int :=
  let a := a.note ⟨1, h, 0, a.deep⟩
  if h.mj = 2 ∨ h.mj = 3 then
    let a := { a with text := decide (h.mj = 3), left := h.arg, wk := wk0 }
    if 0 < h.arg then (a, 0) else a.ends
  else if h.mj = 4 ∨ h.mj = 5 ∨ h.mj = 6 then
    if (a.sk.opens h.mj h.arg).2 then ({ a with sk := (a.sk.opens h.mj h.arg).1 }, 0) else Au.ends { a with sk := (a.sk.opens h.mj h.arg).1 }
  else a.ends
def Au.inHead (most : Nat) (a : Au) (c : Int) : Au × Int :=
  let r := a.rd.step c
  let a' := { a with rd := r.1 }
  if r.2.2 = 2 then (a', 2)
  else if a.rd.opened = false ∧ a.lim.depth < a.deep then (a', 3)
  else
    let k := a.sk.byte most c
    let a'' := { a' with sk := k.1 }
    if k.2 = false then (a'', 4)
    else if r.2.2 ≠ 0 then (a'', r.2.2)
    else if r.2.1 then a''.begin r.1.last
    else (a'', 0)
def Au.inText (most : Nat) (a : Au) (c : Int) : Au × Int :=
  let k := a.sk.byte most c
  let a := { a with sk := k.1 }
  if k.2 = false then (a, 4)
  else
    let a := { a with left := a.left - 1 }
    let w := a.wk.step c
    let b := if a.text then { a with wk := w } else a
    if a.text = true ∧ (w.bad = true ∨ a.left = 0 ∧ w.left ≠ 0) then (b, 6)
    else
      let b := b.note ⟨2, hd0, c, b.deep⟩
      if 0 < b.left then (b, 0) else b.ends
def Au.look (most : Nat) (a : Au) (c : Int) : Au × Int :=
  if a.lim.size ≤ a.many then (a, 1)
  else if a.done then (a, 2)
  else if 0 < a.left then a.inText most c
  else a.inHead most c
def Au.step (most : Nat) (a : Au) (c : Int) : Au × Int :=
  if a.bad ≠ 0 then (a, a.bad)
  else
    let r := Au.look most { a with evs := [] } c
    if r.2 ≠ 0 then ({ r.1 with bad := r.2 }, r.2)
    else ({ r.1 with bad := 0, many := r.1.many + 1 }, 0)
def Au.close (a : Au) : Int × Int :=
  if a.bad ≠ 0 then (a.bad, a.many) else if a.done = false then (9, a.many) else (0, 0)
def liRight (l : Li) : Bool := decide (1 ≤ l.depth ∧ l.depth ≤ 64 ∧ 1 ≤ l.key ∧ l.key ≤ 1024 ∧ 1 ≤ l.size ∧ l.size ≤ 2305843009213693951)
def sk0 (depth : Int) : Sk := ⟨List.replicate depth.toNat fr0, 0⟩
def au0 (l : Li) : Au := ⟨l, sk0 l.depth, rd0, wk0, false, 0, 0, false, 0, []⟩
def Au.run (most : Nat) (a : Au) (b : List Int) : Au := b.foldl (fun a c => (a.step most c).1) a
def whole (b : List Int) (l : Li) : Int × Int := if liRight l then (Au.run l.key.toNat (au0 l) b).close else (15, 0)

end Go.Proofs.YtceddcogpigolaaDoor
