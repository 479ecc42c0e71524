/- The automaton's struct in memory; what only reads it; note. -/
import Derived.Test.YtceddcogpigolaaDoorFrNew
import Derived.Test.YtceddcogpigolaaDoorFrOpen
import Derived.Test.YtceddcogpigolaaDoorFrByte
import Derived.Test.YtceddcogpigolaaDoorFrEnd
namespace Go.Proofs.YtceddcogpigolaaDoor
open Go.RowKit Go.Sort

structure AB where
  B : FB
  ab : Nat
  eb : Nat
def AB.own (A : AB) : Nat → Prop := fun b => b = A.ab ∨ b = A.eb ∨ A.B.own b
structure AB.ok (A : AB) : Prop where
  B : A.B.ok
  ae : A.ab ≠ A.eb
  ba : ¬ A.B.own A.ab
  be : ¬ A.B.own A.eb
  o2 : ¬ A.own 2
def Ev.cells (e : Ev) : List Value := [.int .i64 e.kind, .int .i64 e.head.mj, .int .i64 e.head.wd, .int .u64 e.head.arg, .int .u8 e.byte, .int .i64 e.deep]
def Ev.val (e : Ev) : Value := .agg #[.int .i64 e.kind, .int .i64 e.head.mj, .int .i64 e.head.wd, .int .u64 e.head.arg, .int .u8 e.byte, .int .i64 e.deep]
def EvRows (cs : List Value) (l : List Ev) : Prop := ∀ (i : Nat) (e : Ev), l[i]? = some e → Rowed 6 cs i e.cells
def evsV (A : AB) (n : Nat) : Value := .slice (some ⟨A.eb, 0, none⟩) n 132
def Au.cells (a : Au) (A : AB) : List Value :=
  [.int .i64 a.lim.depth, .int .i64 a.lim.key, .int .i64 a.lim.size, .pointer (some ⟨A.B.sb, 0, none⟩),
   .int .i64 a.rd.now.mj, .int .i64 a.rd.now.wd, .int .u64 a.rd.now.arg, .int .i64 a.rd.last.mj, .int .i64 a.rd.last.wd, .int .u64 a.rd.last.arg, .int .i64 a.rd.left, .bool a.rd.opened, .int .i64 a.rd.bad,
   .int .i64 a.wk.left, .int .u8 a.wk.lo, .int .u8 a.wk.hi, .bool a.wk.bad,
   .bool a.text, .int .u64 a.left, .int .i64 a.many, .bool a.done, .int .i64 a.bad, evsV A a.evs.length]
structure Au.fit (a : Au) : Prop where
  lim : liRight a.lim = true
  rd : a.rd.fit
  last : a.rd.last.fit
  wk : a.wk.fit
  left0 : 0 ≤ a.left
  left1 : a.left < 18446744073709551616
  many0 : 0 ≤ a.many
  many1 : a.many ≤ 2305843009213693951
structure Au.sits (a : Au) (w : World) (A : AB) (most : Nat) : Prop where
  head : Blk w A.ab (a.cells A) 140
  evs : ∃ cs, Blk w A.eb cs 75 ∧ cs.length = 792 ∧ EvRows cs a.evs
  evl : a.evs.length ≤ 132
  sk : a.sk.sits w A.B most
theorem Au.sits.only {S : Nat → Prop} {a : Au} {w w' : World} {A : AB} {most : Nat} (h : a.sits w A most) (ho : Only S w w') (hS : ∀ b, A.own b → ¬ S b) : a.sits w' A most := by
  obtain ⟨cs, hc, hl, hr⟩ := h.evs
  exact ⟨ho.blk h.head (hS _ (.inl rfl)), ⟨cs, ho.blk hc (hS _ (.inr (.inl rfl))), hl, hr⟩, h.evl, h.sk.only ho fun b hb => hS b (.inr (.inr hb))⟩
theorem Au.sits.below {a : Au} {w w' : World} {A : AB} {most : Nat} (h : a.sits w A most) (hb : Below w.heap.size w w') : a.sits w' A most :=
  h.only (Below.only hb (fun _ => False)) (fun _ _ e => e)
theorem Au.sits.drewN {a : Au} {w : World} {A : AB} {most : Nat} (h : a.sits w A most) (n : Nat) : a.sits (w.drewN n) A most := ⟨h.head, h.evs, h.evl, h.sk.drewN n⟩

theorem au_deep (A : AB) (most : Nat) (a : Au) (w : World) (hs : a.sits w A most) :
    Calls Tryd.prog 169 #[.pointer (some ⟨A.ab, 0, none⟩)] w fun e w' => e = .returned (.int .i64 a.deep) ∧ w' = w := by
  have c3 := hs.head.cell 3 (v := .pointer (some ⟨A.B.sb, 0, none⟩)) rfl
  have D := Lib.hid (sk_depth A.B most a.sk w hs.sk)
  have o1 : (a.sk.op : Int) ≤ 64 := by have := hs.sk.op; have := hs.sk.n64; omega
  have o0 : (0 : Int) ≤ (a.sk.op : Int) := by omega
  clear hs
  unfold Au.deep
  go_enter Tryd.func169, Tryd.ntmps169
  go_wp2_with fail
  refine D.out.mono ?_
  rintro ev w1 ⟨rfl, rfl⟩
  go_wp2_with fail
  go_returns
  exact ⟨rfl, rfl⟩
theorem au_done (A : AB) (most : Nat) (a : Au) (w : World) (hs : a.sits w A most) :
    Calls Tryd.prog 40 #[.pointer (some ⟨A.ab, 0, none⟩)] w fun e w' => e = .returned (.bool (a.done && a.bad == 0)) ∧ w' = w := by
  have c7 := hs.head.cell 20 (v := .bool a.done) rfl
  have c8 := hs.head.cell 21 (v := .int .i64 a.bad) rfl
  clear hs
  generalize a.done = d at *
  generalize a.bad = b at *
  cases d <;>
  · go_enter Tryd.func40, Tryd.ntmps40
    go_wp2_with fail
    go_returns
    exact ⟨rfl, rfl⟩
theorem au_len (A : AB) (most : Nat) (a : Au) (hm0 : 0 ≤ a.many) (hm1 : a.many ≤ 2305843009213693951) (w : World) (hs : a.sits w A most) :
    Calls Tryd.prog 39 #[.pointer (some ⟨A.ab, 0, none⟩)] w fun e w' => e = .returned (.int .i64 (if a.bad = 0 then a.many else a.many + 1)) ∧ w' = w := by
  have c7 := hs.head.cell 19 (v := .int .i64 a.many) rfl
  have c8 := hs.head.cell 21 (v := .int .i64 a.bad) rfl
  clear hs
  generalize a.many = m at *
  generalize a.bad = b at *
  rcases Int.decEq b 0 with hb | rfl
  · have e1 : ((b : Int) == 0) = false := by simpa using hb
    rw [if_neg hb]
    clear hb
    go_enter Tryd.func39, Tryd.ntmps39
    go_wp2_with fail
    go_returns
    exact ⟨rfl, rfl⟩
  · rw [if_pos rfl]
    go_enter Tryd.func39, Tryd.ntmps39
    go_wp2_with fail
    go_returns
    exact ⟨rfl, rfl⟩
theorem au_cap (A : AB) (most : Nat) (hm : most ≤ 1024) (a : Au) (w : World) (hs : a.sits w A most) :
    Calls Tryd.prog 36 #[.pointer (some ⟨A.ab, 0, none⟩)] w fun e w' => e = .returned (.int .i64 ((2 * most * A.B.n : Nat) : Int)) ∧ Below w.heap.size w w' := by
  have c3 := hs.head.cell 3 (v := .pointer (some ⟨A.B.sb, 0, none⟩)) rfl
  have D := Lib.hid (sk_cap A.B most hm a.sk w hs.sk)
  clear hs
  generalize 2 * most * A.B.n = q at *
  go_enter Tryd.func36, Tryd.ntmps36
  go_wp2_with fail
  refine D.out.mono ?_
  rintro ev w1 ⟨rfl, hb⟩
  have HB := Lib.hid hb
  clear hb
  go_wp2_with fail
  go_returns
  exact ⟨rfl, HB.out⟩
/-- The world at a return gets a name, with what is said of it. -/
theorem name_post {P : Program} {f : Func} {R : Ending → World → Prop} {x : Exit} {a : Act} {w : World} (S : World → Prop) (h : S w) (k : ∀ w1, S w1 → bodyPost P f R x a w1) : bodyPost P f R x a w := k w h
def verV (v : Int × Int) : Value := .agg #[.int .i64 v.1, .int .i64 v.2]
set_option maxRecDepth 100000 in
set_option maxHeartbeats 4000000 in
theorem au_close (A : AB) (most : Nat) (a : Au) (w : World) (hs : a.sits w A most) :
    Calls Tryd.prog 41 #[.pointer (some ⟨A.ab, 0, none⟩)] w fun e w' => e = .returned (verV a.close) ∧ Below w.heap.size w w' := by
  have c6 := hs.head.cell 19 (v := .int .i64 a.many) rfl
  have c7 := hs.head.cell 20 (v := .bool a.done) rfl
  have c8 := hs.head.cell 21 (v := .int .i64 a.bad) rfl
  have hl1 : A.ab < w.heap.size := hs.head.lt
  have hl : A.ab ≠ w.heap.size := by omega
  clear hs
  unfold Au.close
  generalize A.ab = ab at *
  have hl2 : ab < w.heap.size := hl1
  generalize a.many = m at *
  generalize a.bad = b at *
  generalize a.done = d at *
  rcases Int.decEq b 0 with hb | rfl
  · have e1 : ((b : Int) == 0) = false := by simpa using hb
    rw [if_pos hb]
    clear hb
    go_enter Tryd.func41, Tryd.ntmps41
    go_wp2_with fail
    refine name_world (fun W => W.cell? ⟨ab, 19, none⟩ = some (.int .i64 m) ∧ W.cell? ⟨ab, 21, none⟩ = some (.int .i64 b) ∧ Blk W w.heap.size [.int .i64 0, .int .i64 0] 28 ∧ Below w.heap.size w W) ⟨(World.cell?_alloc_old _ _ _ hl).trans c6, (World.cell?_alloc_old _ _ _ hl).trans c8, Blk.new _ _ _, by go_grown⟩ ?_
    rintro W ⟨d6, d8, hB, hb⟩
    clear c6 c7 c8 hl hl2
    have q0 := hB.thaw 0 none
    have q1 := hB.thaw 1 none
    have qc := hB.at
    have HB := Lib.hid hB
    have Hb := Lib.hid hb
    clear hB hb
    go_still_tail 9, (by kernel_rfl)
    change wpList _ _ _ _ _ W.drew
    go_wp2_with fail
    refine name_post (fun W2 => Blk W2 w.heap.size [.int .i64 b, .int .i64 m] 28 ∧ Below w.heap.size w W2) ⟨((HB.out.set 0 _).set 1 _).drew, ((Hb.out.setCell (p := ⟨w.heap.size, 0, none⟩) (Nat.le_refl _) _).setCell (p := ⟨w.heap.size, 1, none⟩) (Nat.le_refl _) _).drew⟩ ?_
    rintro W2 ⟨hB2, hb2⟩
    have r0 := hB2.cell 0 rfl
    have r1 := hB2.cell 1 rfl
    exact bodyPost_ret (v := verV (b, m)) (by simp [results, Tryd.results41, go_sem, r0, r1, verV]) rfl ⟨rfl, hb2⟩
  · rw [if_neg (by simp)]
    cases d with
    | true =>
      go_enter Tryd.func41, Tryd.ntmps41
      go_wp2_with fail
      go_returns
      exact ⟨rfl, by go_grown⟩
    | false =>
      go_enter Tryd.func41, Tryd.ntmps41
      go_wp2_with fail
      go_returns
      exact ⟨rfl, by go_grown⟩
theorem au_close_nil (w : World) : Calls Tryd.prog 41 #[.pointer none] w fun e w' => e = .returned (verV (10, 0)) ∧ Below w.heap.size w w' := by
  go_enter Tryd.func41, Tryd.ntmps41
  go_wp2_with fail
  go_returns
  exact ⟨rfl, by go_grown⟩
theorem au_done_nil (w : World) : Calls Tryd.prog 40 #[.pointer none] w fun e w' => e = .returned (.bool false) ∧ w' = w := by
  go_enter Tryd.func40, Tryd.ntmps40
  go_wp2_with fail
  go_returns
  exact ⟨rfl, rfl⟩
theorem au_len_nil (w : World) : Calls Tryd.prog 39 #[.pointer none] w fun e w' => e = .returned (.int .i64 0) ∧ w' = w := by
  go_enter Tryd.func39, Tryd.ntmps39
  go_wp2_with fail
  go_returns
  exact ⟨rfl, rfl⟩
theorem au_cap_nil (w : World) : Calls Tryd.prog 36 #[.pointer none] w fun e w' => e = .returned (.int .i64 0) ∧ w' = w := by
  go_enter Tryd.func36, Tryd.ntmps36
  go_wp2_with fail
  go_returns
  exact ⟨rfl, rfl⟩
theorem au_step_nil (c : Int) (f : Value) (w : World) : Calls Tryd.prog 37 #[.pointer none, .int .u8 c, f] w fun e w' => e = .returned (.int .i64 10) ∧ w' = w := by
  go_enter Tryd.func37, Tryd.ntmps37
  go_wp2_with fail
  go_returns
  exact ⟨rfl, rfl⟩

end Go.Proofs.YtceddcogpigolaaDoor
