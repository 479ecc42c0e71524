/- frame.Stack: how it lies; what only reads it. -/
import Derived.Test.YtceddcogpigolaaDoorPure
import Derived.Deep.QuietTactic
import Derived.BigQuiet
namespace Go.Proofs.YtceddcogpigolaaDoor
open Go.RowKit Go.Sort

structure FB where
  sb : Nat
  fb : Nat
  n : Nat
  k : Nat → Nat
  x : Nat → Nat
  y : Nat → Nat
def FB.of (B : FB) (i : Nat) : Nat → Prop := of3 (B.k i) (B.x i) (B.y i)
structure FB.ok (B : FB) : Prop where
  sf : B.sb ≠ B.fb
  s3 : ∀ i, i < B.n → ¬ B.of i B.sb
  f3 : ∀ i, i < B.n → ¬ B.of i B.fb
  ij : ∀ i j b, i < B.n → j < B.n → B.of i b → B.of j b → i = j
def FB.own (B : FB) : Nat → Prop := fun b => b = B.sb ∨ b = B.fb ∨ ∃ i, i < B.n ∧ B.of i b
def frRow (k : Nat) (f : Fr) : List Value := [.pointer (some ⟨k, 0, none⟩), .int .i64 f.kind, .int .u64 f.left, .bool f.half]
/-- Rows of n cells, one behind the other. -/
def Rowed (n : Nat) (cs : List Value) (i : Nat) (r : List Value) : Prop := ∀ j, j < n → cs[i * n + j]? = r[j]?
def FrRows (k : Nat → Nat) (cs : List Value) (l : List Fr) : Prop := ∀ (i : Nat) (f : Fr), l[i]? = some f → Rowed 4 cs i (frRow (k i) f)
structure Sk.sits (s : Sk) (w : World) (B : FB) (most : Nat) : Prop where
  head : Blk w B.sb [.slice (some ⟨B.fb, 0, none⟩) B.n B.n, .int .i64 s.op] 203
  rows : ∃ cs, Blk w B.fb cs 207 ∧ FrRows B.k cs s.l
  ky : ∀ (i : Nat) (f : Fr), s.l[i]? = some f → f.ky.sits w (B.k i) (B.x i) (B.y i) most
  len : s.l.length = B.n
  op : s.op ≤ B.n
  n64 : B.n ≤ 64
  left : ∀ (i : Nat) (f : Fr), i < s.op → s.l[i]? = some f → 1 ≤ f.left ∧ f.left < 18446744073709551616
theorem Sk.sits.row {s : Sk} {w : World} {B : FB} {most : Nat} (h : s.sits w B most) (i : Nat) (f : Fr) (hf : s.l[i]? = some f) :
    w.cell? ⟨B.fb, i * 4, none⟩ = some (.pointer (some ⟨B.k i, 0, none⟩)) ∧ w.cell? ⟨B.fb, i * 4 + 1, none⟩ = some (.int .i64 f.kind) ∧ w.cell? ⟨B.fb, i * 4 + 2, none⟩ = some (.int .u64 f.left) ∧ w.cell? ⟨B.fb, i * 4 + 3, none⟩ = some (.bool f.half) := by
  obtain ⟨cs, h1, h2⟩ := h.rows
  have h3 := h2 i f hf
  exact ⟨h1.cell _ (h3 0 (by omega)), h1.cell _ (h3 1 (by omega)), h1.cell _ (h3 2 (by omega)), h1.cell _ (h3 3 (by omega))⟩
theorem Sk.sits.thaw {s : Sk} {w : World} {B : FB} {most : Nat} (h : s.sits w B most) (o : Nat) : w.frozen? ⟨B.fb, o, none⟩ = false := by
  obtain ⟨cs, h1, h2⟩ := h.rows
  exact h1.thaw _ _
theorem Sk.sits.drewN {s : Sk} {w : World} {B : FB} {most : Nat} (h : s.sits w B most) (n : Nat) : s.sits (w.drewN n) B most := ⟨h.head, h.rows, fun i f hf => ⟨(h.ky i f hf).head, (h.ky i f hf).b0, (h.ky i f hf).b1, (h.ky i f hf).kx, (h.ky i f hf).ky, (h.ky i f hf).xy⟩, h.len, h.op, h.n64, h.left⟩

theorem Blk.drewN {w : World} {b : Nat} {cs : List Value} {t : TypeId} (h : Blk w b cs t) (n : Nat) : Blk (w.drewN n) b cs t := h
theorem Only.drewN {S : Nat → Prop} {a w : World} (h : Only S a w) (n : Nat) : Only S a (w.drewN n) := ⟨h.os, h.tape, h.output, h.size, h.block⟩
/-- The world at a call gets a name, with what is said of it. -/
theorem name_calls {P : Program} {f : FuncId} {args : Array Value} {w : World} {R : Ending → World → Prop} (S : World → Prop) (h : S w) (k : ∀ w1, S w1 → Calls P f args w1 R) : Calls P f args w R := k w h

def topV (op fb : Nat) : Value := if op = 0 then .pointer none else .pointer (some ⟨fb, (op - 1) * 4, none⟩)
theorem sk_topH (sb fb n op : Nat) (w : World) (hb : Blk w sb [.slice (some ⟨fb, 0, none⟩) n n, .int .i64 op] 203) (ho : op ≤ n) (hn : n ≤ 64) :
    Calls Tryd.prog 234 #[.pointer (some ⟨sb, 0, none⟩)] w fun e w' => e = .returned (topV op fb) ∧ ∃ n, w' = w.drewN n := by
  have c0 := hb.cell 0 (v := .slice (some ⟨fb, 0, none⟩) n n) rfl
  have c1 := hb.cell 1 (v := .int .i64 op) rfl
  clear hb
  by_cases h0 : op = 0
  · subst h0
    go_enter Tryd.func234, Tryd.ntmps234
    go_wp2_with fail
    go_returns
    exact ⟨rfl, 0, rfl⟩
  · obtain ⟨m, rfl⟩ : ∃ m, op = m + 1 := ⟨op - 1, by omega⟩
    have e1 : (((m + 1 : Nat) : Int) == 0) = false := by simp; omega
    have e2 : ((m + 1 : Nat) : Int) - 1 = (m : Int) := by omega
    have l0 : (0 : Int) ≤ (m : Int) := by omega
    have l1 : (m : Int) < (n : Int) := by omega
    clear h0
    go_enter Tryd.func234, Tryd.ntmps234
    go_wp2_with fail
    go_quiet (fail)
    go_wp2_with fail
    go_returns
    exact ⟨rfl, _, rfl⟩
def Sk.topP (s : Sk) (fb : Nat) : Value := topV s.op fb
theorem sk_top (B : FB) (most : Nat) (s : Sk) (w : World) (hs : s.sits w B most) :
    Calls Tryd.prog 234 #[.pointer (some ⟨B.sb, 0, none⟩)] w fun e w' => e = .returned (s.topP B.fb) ∧ ∃ n, w' = w.drewN n := sk_topH _ _ _ _ _ hs.head hs.op hs.n64

theorem fr_waits_nil (w : World) : Calls Tryd.prog 206 #[.pointer none] w fun e w' => e = .returned (.bool false) ∧ w' = w := by
  go_enter Tryd.func206, Tryd.ntmps206
  go_wp2_with fail
  go_returns
  exact ⟨rfl, rfl⟩
theorem fr_waits (b o : Nat) (kind : Int) (half : Bool) (w : World) (h1 : w.cell? ⟨b, o + 1, none⟩ = some (.int .i64 kind)) (h3 : w.cell? ⟨b, o + 3, none⟩ = some (.bool half)) :
    Calls Tryd.prog 206 #[.pointer (some ⟨b, o, none⟩)] w fun e w' => e = .returned (.bool (kind == 5 && !half)) ∧ w' = w := by
  rcases Int.decEq kind 5 with hk | rfl
  · have e5 : ((kind : Int) == 5) = false := by simpa using hk
    clear hk
    rw [e5]
    go_enter Tryd.func206, Tryd.ntmps206
    go_wp2_with fail
    go_returns
    exact ⟨rfl, rfl⟩
  · cases half with
    | true =>
      go_enter Tryd.func206, Tryd.ntmps206
      go_wp2_with fail
      go_returns
      exact ⟨rfl, rfl⟩
    | false =>
      go_enter Tryd.func206, Tryd.ntmps206
      go_wp2_with fail
      go_returns
      exact ⟨rfl, rfl⟩
theorem sk_depth (B : FB) (most : Nat) (s : Sk) (w : World) (hs : s.sits w B most) :
    Calls Tryd.prog 209 #[.pointer (some ⟨B.sb, 0, none⟩)] w fun e w' => e = .returned (.int .i64 s.op) ∧ w' = w := by
  have c1 := hs.head.cell 1 (v := .int .i64 s.op) rfl
  clear hs
  obtain ⟨l, op⟩ := s
  dsimp only at *
  go_enter Tryd.func209, Tryd.ntmps209
  go_wp2_with fail
  go_returns
  exact ⟨rfl, rfl⟩
theorem Sk.top_some {s : Sk} {m : Nat} (h : s.op = m + 1) (hl : s.op ≤ s.l.length) : s.l[m]? = some s.top := by
  unfold Sk.top
  rw [h]
  have : m < s.l.length := by omega
  simp [List.getD, List.getElem?_eq_getElem this]
def Sk.kind (s : Sk) : Int := if s.op = 0 then -1 else s.top.kind
def Sk.key (s : Sk) : Bool := if s.op = 0 then false else s.top.waits
theorem sk_kind (B : FB) (most : Nat) (s : Sk) (w : World) (hs : s.sits w B most) :
    Calls Tryd.prog 211 #[.pointer (some ⟨B.sb, 0, none⟩)] w fun e w' => e = .returned (.int .i64 s.kind) ∧ ∃ n, w' = w.drewN n := by
  have T := Lib.hid (sk_top B most s w hs)
  by_cases h0 : s.op = 0
  · have T2 : Hid (Calls Tryd.prog 234 #[.pointer (some ⟨B.sb, 0, none⟩)] w fun e w' => e = .returned (.pointer none) ∧ ∃ n, w' = w.drewN n) := Lib.hid (by have := T.out; unfold Sk.topP topV at this; rw [if_pos h0] at this; exact this)
    have e : s.kind = -1 := by unfold Sk.kind; rw [if_pos h0]
    rw [e]
    clear T hs e h0
    go_enter Tryd.func211, Tryd.ntmps211
    go_wp2_with fail
    refine T2.out.mono ?_
    rintro ev w1 ⟨rfl, n, rfl⟩
    go_wp2_with fail
    go_returns
    exact ⟨rfl, _, rfl⟩
  · obtain ⟨m, hm⟩ : ∃ m, s.op = m + 1 := ⟨s.op - 1, by omega⟩
    have T2 : Hid (Calls Tryd.prog 234 #[.pointer (some ⟨B.sb, 0, none⟩)] w fun e w' => e = .returned (.pointer (some ⟨B.fb, m * 4, none⟩)) ∧ ∃ n, w' = w.drewN n) := Lib.hid (by have := T.out; unfold Sk.topP topV at this; rw [if_neg h0, hm] at this; exact this)
    have e : s.kind = s.top.kind := by unfold Sk.kind; rw [if_neg h0]
    rw [e]
    obtain ⟨-, r1, -, -⟩ := hs.row m s.top (Sk.top_some hm (by rw [hs.len]; exact hs.op))
    clear T hs e h0 hm
    go_enter Tryd.func211, Tryd.ntmps211
    go_wp2_with fail
    refine T2.out.mono ?_
    rintro ev w1 ⟨rfl, n, rfl⟩
    go_wp2_with fail
    go_returns
    exact ⟨rfl, _, rfl⟩
theorem sk_key (B : FB) (most : Nat) (s : Sk) (w : World) (hs : s.sits w B most) :
    Calls Tryd.prog 212 #[.pointer (some ⟨B.sb, 0, none⟩)] w fun e w' => e = .returned (.bool s.key) ∧ ∃ n, w' = w.drewN n := by
  have T := Lib.hid (sk_top B most s w hs)
  by_cases h0 : s.op = 0
  · have T2 : Hid (Calls Tryd.prog 234 #[.pointer (some ⟨B.sb, 0, none⟩)] w fun e w' => e = .returned (.pointer none) ∧ ∃ n, w' = w.drewN n) := Lib.hid (by have := T.out; unfold Sk.topP topV at this; rw [if_pos h0] at this; exact this)
    have e : s.key = false := by unfold Sk.key; rw [if_pos h0]
    rw [e]
    clear T hs e h0
    go_enter Tryd.func212, Tryd.ntmps212
    go_wp2_with fail
    refine T2.out.mono ?_
    rintro ev w1 ⟨rfl, n, rfl⟩
    go_wp2_with fail
    refine (fr_waits_nil _).mono ?_
    rintro ev w1 ⟨rfl, rfl⟩
    go_wp2_with fail
    go_returns
    exact ⟨rfl, _, rfl⟩
  · obtain ⟨m, hm⟩ : ∃ m, s.op = m + 1 := ⟨s.op - 1, by omega⟩
    have T2 : Hid (Calls Tryd.prog 234 #[.pointer (some ⟨B.sb, 0, none⟩)] w fun e w' => e = .returned (.pointer (some ⟨B.fb, m * 4, none⟩)) ∧ ∃ n, w' = w.drewN n) := Lib.hid (by have := T.out; unfold Sk.topP topV at this; rw [if_neg h0, hm] at this; exact this)
    have e : s.key = s.top.waits := by unfold Sk.key; rw [if_neg h0]
    rw [e]
    obtain ⟨-, r1, -, r3⟩ := hs.row m s.top (Sk.top_some hm (by rw [hs.len]; exact hs.op))
    have W := Lib.hid (fun n => fr_waits B.fb (m * 4) s.top.kind s.top.half (w.drewN n) r1 r3)
    clear T hs e h0 hm r1 r3
    unfold Fr.waits
    generalize (s.top.kind == 5 && !s.top.half) = q at W
    go_enter Tryd.func212, Tryd.ntmps212
    go_wp2_with fail
    refine T2.out.mono ?_
    rintro ev w1 ⟨rfl, n, rfl⟩
    go_wp2_with fail
    refine (W.out n).mono ?_
    rintro ev w1 ⟨rfl, rfl⟩
    go_wp2_with fail
    go_returns
    exact ⟨rfl, _, rfl⟩

theorem FrRows.put {k : Nat → Nat} {cs cs' : List Value} {l : List Fr} (h : FrRows k cs l) (i : Nat) (f' : Fr) (hrow : Rowed 4 cs' i (frRow (k i) f'))
    (hoth : ∀ p, p < i * 4 ∨ i * 4 + 4 ≤ p → cs'[p]? = cs[p]?) : FrRows k cs' (l.set i f') := by
  intro j f hf
  by_cases hij : i = j
  · subst hij
    rw [List.getElem?_set] at hf
    simp only [if_true] at hf
    split at hf
    · cases hf; exact hrow
    · cases hf
  · rw [List.getElem?_set_ne hij] at hf
    intro q hq
    rw [hoth _ (by omega)]
    exact h j f hf q hq
theorem Sk.sits.renew {s : Sk} {w w' : World} {B : FB} {most : Nat} (h : s.sits w B most) (hB : B.ok) (i : Nat) (hi : i < B.n) (f' : Fr) (op' : Nat)
    (hd : Blk w' B.sb [.slice (some ⟨B.fb, 0, none⟩) B.n B.n, .int .i64 op'] 203) (cs : List Value) (hc : Blk w' B.fb cs 207) (hr : FrRows B.k cs (s.l.set i f'))
    (hk : f'.ky.sits w' (B.k i) (B.x i) (B.y i) most) (ho : Only (fun b => b = B.sb ∨ b = B.fb ∨ B.of i b) w w') (hop : op' ≤ B.n)
    (hl : ∀ (j : Nat) (f : Fr), j < op' → (s.l.set i f')[j]? = some f → 1 ≤ f.left ∧ f.left < 18446744073709551616) : (⟨s.l.set i f', op'⟩ : Sk).sits w' B most := by
  refine ⟨hd, ⟨cs, hc, hr⟩, ?_, by simpa using h.len, hop, h.n64, hl⟩
  intro j f hf
  by_cases hij : i = j
  · subst hij
    rw [List.getElem?_set] at hf
    simp only [if_true] at hf
    split at hf
    · cases hf; exact hk
    · cases hf
  · have hj : j < B.n := by
      have := (List.getElem?_eq_some_iff.1 hf).1
      simpa [h.len] using this
    rw [List.getElem?_set_ne hij] at hf
    have hne : ∀ b, B.of j b → ¬ (b = B.sb ∨ b = B.fb ∨ B.of i b) := by
      rintro b hb (rfl | rfl | hb')
      · exact hB.s3 j hj hb
      · exact hB.f3 j hj hb
      · exact hij (hB.ij i j b hi hj hb' hb)
    exact (h.ky j f hf).only ho (hne _ (.inl rfl)) (hne _ (.inr (.inl rfl))) (hne _ (.inr (.inr rfl)))
theorem rowed_of {cs : List Value} {i k : Nat} {f : Fr} (h0 : cs[i * 4]? = some (.pointer (some ⟨k, 0, none⟩))) (h1 : cs[i * 4 + 1]? = some (.int .i64 f.kind)) (h2 : cs[i * 4 + 2]? = some (.int .u64 f.left)) (h3 : cs[i * 4 + 3]? = some (.bool f.half)) : Rowed 4 cs i (frRow k f) := by
  intro j hj
  rcases (show j = 0 ∨ j = 1 ∨ j = 2 ∨ j = 3 by omega) with rfl | rfl | rfl | rfl
  · exact h0
  · exact h1
  · exact h2
  · exact h3
theorem FrRows.at {k : Nat → Nat} {cs : List Value} {l : List Fr} (h : FrRows k cs l) {i : Nat} {f : Fr} (hf : l[i]? = some f) :
    cs[i * 4]? = some (.pointer (some ⟨k i, 0, none⟩)) ∧ cs[i * 4 + 1]? = some (.int .i64 f.kind) ∧ cs[i * 4 + 2]? = some (.int .u64 f.left) ∧ cs[i * 4 + 3]? = some (.bool f.half) :=
  ⟨h i f hf 0 (by omega), h i f hf 1 (by omega), h i f hf 2 (by omega), h i f hf 3 (by omega)⟩
theorem lt_of_some {cs : List Value} {i : Nat} {v : Value} (h : cs[i]? = some v) : i < cs.length := (List.getElem?_eq_some_iff.1 h).1
theorem FrRows.put3 {k : Nat → Nat} {cs : List Value} {l : List Fr} (h : FrRows k cs l) (i : Nat) (hi : i < l.length) (f' : Fr) :
    FrRows k (((cs.set (i * 4 + 1) (.int .i64 f'.kind)).set (i * 4 + 2) (.int .u64 f'.left)).set (i * 4 + 3) (.bool f'.half)) (l.set i f') := by
  obtain ⟨h0, h1, h2, h3⟩ := h.at (List.getElem?_eq_getElem hi)
  have l1 := lt_of_some h1
  have l2 := lt_of_some h2
  have l3 := lt_of_some h3
  refine h.put i f' (rowed_of ?_ ?_ ?_ ?_) fun p hp => ?_
  · rw [List.getElem?_set_ne (by omega), List.getElem?_set_ne (by omega), List.getElem?_set_ne (by omega), h0]
  · rw [List.getElem?_set_ne (by omega), List.getElem?_set_ne (by omega), List.getElem?_set_self l1]
  · rw [List.getElem?_set_ne (by omega), List.getElem?_set_self (by simpa using l2)]
  · rw [List.getElem?_set_self (by simpa using l3)]
  · rw [List.getElem?_set_ne (by omega), List.getElem?_set_ne (by omega), List.getElem?_set_ne (by omega)]
theorem FrRows.putH {k : Nat → Nat} {cs : List Value} {l : List Fr} (h : FrRows k cs l) (i : Nat) {f : Fr} (hf : l[i]? = some f) (f' : Fr) (hk : f'.kind = f.kind) (hl : f'.left = f.left) :
    FrRows k (cs.set (i * 4 + 3) (.bool f'.half)) (l.set i f') := by
  obtain ⟨h0, h1, h2, h3⟩ := h.at hf
  have l3 := lt_of_some h3
  refine h.put i f' (rowed_of ?_ ?_ ?_ ?_) fun p hp => ?_
  · rw [List.getElem?_set_ne (by omega), h0]
  · rw [List.getElem?_set_ne (by omega), h1, hk]
  · rw [List.getElem?_set_ne (by omega), h2, hl]
  · rw [List.getElem?_set_self l3]
  · rw [List.getElem?_set_ne (by omega)]
theorem FrRows.putL {k : Nat → Nat} {cs : List Value} {l : List Fr} (h : FrRows k cs l) (i : Nat) {f : Fr} (hf : l[i]? = some f) (f' : Fr) (hk : f'.kind = f.kind) :
    FrRows k ((cs.set (i * 4 + 3) (.bool f'.half)).set (i * 4 + 2) (.int .u64 f'.left)) (l.set i f') := by
  obtain ⟨h0, h1, h2, h3⟩ := h.at hf
  have l2 := lt_of_some h2
  have l3 := lt_of_some h3
  refine h.put i f' (rowed_of ?_ ?_ ?_ ?_) fun p hp => ?_
  · rw [List.getElem?_set_ne (by omega), List.getElem?_set_ne (by omega), h0]
  · rw [List.getElem?_set_ne (by omega), List.getElem?_set_ne (by omega), h1, hk]
  · rw [List.getElem?_set_self (by simpa using l2)]
  · rw [List.getElem?_set_ne (by omega), List.getElem?_set_self l3]
  · rw [List.getElem?_set_ne (by omega), List.getElem?_set_ne (by omega)]
theorem FrRows.putK {k : Nat → Nat} {cs : List Value} {l : List Fr} (h : FrRows k cs l) (i : Nat) {f : Fr} (hf : l[i]? = some f) (f' : Fr) (hk : f'.kind = f.kind) (hl : f'.left = f.left) (hh : f'.half = f.half) :
    FrRows k cs (l.set i f') := by
  obtain ⟨h0, h1, h2, h3⟩ := h.at hf
  exact h.put i f' (rowed_of h0 (by rw [h1, hk]) (by rw [h2, hl]) (by rw [h3, hh])) fun _ _ => rfl
theorem FB.ok.ne {B : FB} (h : B.ok) {i b : Nat} (hi : i < B.n) (hb : B.of i b) : ¬ (b = B.sb ∨ b = B.fb) := by
  rintro (rfl | rfl)
  · exact h.s3 i hi hb
  · exact h.f3 i hi hb

end Go.Proofs.YtceddcogpigolaaDoor
