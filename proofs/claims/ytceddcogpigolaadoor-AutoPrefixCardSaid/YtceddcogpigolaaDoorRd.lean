/- head.Reader by contracts. -/
import Derived.Test.YtceddcogpigolaaDoorHead
namespace Go.Proofs.YtceddcogpigolaaDoor
open Go.RowKit Go.Sort

theorem Dbl.only {S : Nat → Prop} {w w' : World} (h : Dbl w) (k : Only S w w') (hs : ¬ S 2) : Dbl w' := by
  have hb := k.block 2 h.lt hs
  exact ⟨(World.cell?_of_block (w := w) hb).trans h.1, (World.cell?_of_block (w := w) hb).trans h.2⟩
theorem Blk.setP {w : World} {b : Nat} {p l : List Value} {t : TypeId} {o : Nat} (h : Blk w b (p ++ l) t) (ho : p.length = o) (i : Nat) (v : Value) : Blk (w.setCell ⟨b, o + i, none⟩ v) b (p ++ l.set i v) t := by
  refine (h.set (o + i) v).cast ?_
  subst ho
  rw [List.set_append_right _ _ (by omega)]
  congr 2
  omega
theorem Blk.setP0 {w : World} {b : Nat} {p l : List Value} {t : TypeId} {o : Nat} (h : Blk w b (p ++ l) t) (ho : p.length = o) (v : Value) : Blk (w.setCell ⟨b, o, none⟩ v) b (p ++ l.set 0 v) t := h.setP ho 0 v
theorem Blk.cellP {w : World} {b : Nat} {p l : List Value} {t : TypeId} {o : Nat} (h : Blk w b (p ++ l) t) (ho : p.length = o) (i : Nat) {v : Value} (hv : l[i]? = some v) : w.cell? ⟨b, o + i, none⟩ = some v := by
  refine h.cell _ ?_
  subst ho
  rw [List.getElem?_append_right (by omega), Nat.add_sub_cancel_left, hv]

/-- The world at hand gets a name, with what is said of it. -/
theorem name_world {P : Program} {c : Code} {Q : Exit → Act → World → Prop} {a : Act} {w : World} (S : World → Prop) (h : S w) (k : ∀ w1, S w1 → c.wp P Q a w1) : c.wp P Q a w := k w h

structure Rd where
  now : Hd
  last : Hd
  left : Int
  opened : Bool
  bad : Int
def Rd.cells (r : Rd) (q : List Value) : List Value :=
  .int .i64 r.now.mj :: .int .i64 r.now.wd :: .int .u64 r.now.arg :: .int .i64 r.last.mj :: .int .i64 r.last.wd :: .int .u64 r.last.arg :: .int .i64 r.left :: .bool r.opened :: .int .i64 r.bad :: q
def hd0 : Hd := ⟨0, 0, 0⟩
def Rd.ends (r : Rd) : Rd × Bool × Int :=
  if r.now.mj = 7 ∧ r.now.wd = 1 ∧ r.now.arg < 32 then (⟨r.now, hd0, r.left, true, 2⟩, false, 2)
  else if hdLong r.now then (⟨r.now, r.now, r.left, false, r.bad⟩, true, 5)
  else (⟨r.now, r.now, r.left, false, r.bad⟩, true, 0)
def Rd.step (r : Rd) (c : Int) : Rd × Bool × Int :=
  if r.bad ≠ 0 then (r, false, r.bad)
  else if r.opened = false then
    if (hdBegin c).2 ≠ 0 then (⟨(hdBegin c).1, hd0, (hdBegin c).1.wd, true, (hdBegin c).2⟩, false, (hdBegin c).2)
    else if 0 < (hdBegin c).1.wd then (⟨(hdBegin c).1, hd0, (hdBegin c).1.wd, true, 0⟩, false, 0)
    else Rd.ends ⟨(hdBegin c).1, hd0, (hdBegin c).1.wd, true, 0⟩
  else if 0 < r.left - 1 then (⟨⟨r.now.mj, r.now.wd, r.now.arg * 256 % 18446744073709551616 + c⟩, r.last, r.left - 1, true, 0⟩, false, 0)
  else Rd.ends ⟨⟨r.now.mj, r.now.wd, r.now.arg * 256 % 18446744073709551616 + c⟩, r.last, r.left - 1, true, 0⟩
def Rd.fit (r : Rd) : Prop := r.now.fit ∧ (r.opened = true → r.bad = 0 → 1 ≤ r.left ∧ r.left ≤ 8)

theorem rd_open (b o : Nat) (t : TypeId) (p q : List Value) (ho : p.length = o) (s : Rd) (w : World) (hb : Blk w b (p ++ s.cells q) t) :
    Calls Tryd.prog 171 #[.pointer (some ⟨b, o, none⟩)] w fun e w' => e = .returned (.bool s.opened) ∧ w' = w := by
  have c7 := hb.cellP ho 7 (v := .bool s.opened) rfl
  clear hb
  go_enter Tryd.func171, Tryd.ntmps171
  go_wp2_with fail
  go_returns
  exact ⟨rfl, rfl⟩

theorem rd_head (b o : Nat) (t : TypeId) (p q : List Value) (ho : p.length = o) (s : Rd) (w : World) (hb : Blk w b (p ++ s.cells q) t) :
    Calls Tryd.prog 174 #[.pointer (some ⟨b, o, none⟩)] w fun e w' => e = .returned s.last.val ∧ Below w.heap.size w w' := by
  have c3 := hb.cellP ho 3 (v := .int .i64 s.last.mj) rfl
  have c4 := hb.cellP ho 4 (v := .int .i64 s.last.wd) rfl
  have c5 := hb.cellP ho 5 (v := .int .u64 s.last.arg) rfl
  have hl := hb.lt
  have N : b ≠ w.heap.size := by omega
  clear hb
  go_enter Tryd.func174, Tryd.ntmps174
  go_wp2_with fail
  go_returns
  refine ⟨rfl, ?_⟩
  go_grown

set_option maxRecDepth 100000 in
set_option maxHeartbeats 4000000 in
theorem rd_end (b o : Nat) (t : TypeId) (p q : List Value) (ho : p.length = o) (s : Rd) (hf : s.now.fit) (w : World) (hb : Blk w b (p ++ s.cells q) t) (hd : Dbl w) (h2 : b ≠ 2) :
    Calls Tryd.prog 214 #[.pointer (some ⟨b, o, none⟩)] w fun e w' => e = .returned (.tuple #[.bool s.ends.2.1, .int .i64 s.ends.2.2]) ∧ Blk w' b (p ++ s.ends.1.cells q) t ∧ Only (· = b) w w' := by
  obtain ⟨⟨mj, wd, arg⟩, last, left, opened, bad⟩ := s
  have c0 := hb.cellP ho 0 (v := .int .i64 mj) rfl
  have c1 := hb.cellP ho 1 (v := .int .i64 wd) rfl
  have c2 := hb.cellP ho 2 (v := .int .u64 arg) rfl
  have c3 := hb.cellP ho 3 (v := .int .i64 last.mj) rfl
  have c4 := hb.cellP ho 4 (v := .int .i64 last.wd) rfl
  have c5 := hb.cellP ho 5 (v := .int .u64 last.arg) rfl
  have c7 := hb.cellP ho 7 (v := .bool opened) rfl
  have c8 := hb.cellP ho 8 (v := .int .i64 bad) rfl
  simp only [Nat.add_zero] at c0
  have f3 := hb.thaw (o + 3) none
  have f4 := hb.thaw (o + 4) none
  have f5 := hb.thaw (o + 5) none
  have f7 := hb.thaw (o + 7) none
  have f8 := hb.thaw (o + 8) none
  have HB := Lib.hid hb
  have HO := Lib.hid ho
  have D := Lib.hid hd
  have N2 := Lib.hid h2
  have F := Lib.hid hf
  clear hb ho hd h2 hf
  by_cases hx : mj = 7 ∧ wd = 1 ∧ arg < 32
  · obtain ⟨rfl, rfl, x2⟩ := hx
    have U := Lib.hid (show Rd.ends ⟨⟨7, 1, arg⟩, last, left, opened, bad⟩ = (⟨⟨7, 1, arg⟩, hd0, left, true, 2⟩, false, 2) by simp [Rd.ends, x2])
    generalize Rd.ends ⟨⟨7, 1, arg⟩, last, left, opened, bad⟩ = en at U
    go_enter Tryd.func214, Tryd.ntmps214
    go_wp2_with fail
    refine name_world (fun w1 => Blk w1 b (p ++ Rd.cells ⟨⟨7, 1, arg⟩, hd0, left, true, 2⟩ q) t ∧ Only (· = b) w w1) ⟨((((((((HB.out.setP HO.out 7 _).setP HO.out 3 _).setP HO.out 4 _).setP HO.out 5 _).setP HO.out 7 _).setP HO.out 3 _).setP HO.out 4 _).setP HO.out 5 _).setP HO.out 8 _, ((((((((((Only.refl _ _).put _ _).put _ _).put _ _).put _ _).put _ _).put _ _).put _ _).put _ _).put _ _)⟩ ?_
    rintro w1 ⟨B1, O1⟩
    clear c0 c1 c2 c3 c4 c5 c7 c8 f3 f4 f5 f7 f8
    have c8 := B1.cellP HO.out 8 (v := .int .i64 2) rfl
    have B2 := Lib.hid B1
    have O2 := Lib.hid O1
    clear B1 O1
    go_region
    all_goals go_wp2_with fail
    all_goals go_returns
    all_goals rw [U.out]
    all_goals exact ⟨rfl, B2.out, O2.out.drew⟩
  · have hx' : ¬ (mj = 7 ∧ wd = 1 ∧ arg < 32) := hx
    have U := Lib.hid (show Rd.ends ⟨⟨mj, wd, arg⟩, last, left, opened, bad⟩ = (if hdLong ⟨mj, wd, arg⟩ then (⟨⟨mj, wd, arg⟩, ⟨mj, wd, arg⟩, left, false, bad⟩, true, 5)
      else (⟨⟨mj, wd, arg⟩, ⟨mj, wd, arg⟩, left, false, bad⟩, true, 0)) by simp only [Rd.ends, if_neg hx'])
    generalize Rd.ends ⟨⟨mj, wd, arg⟩, last, left, opened, bad⟩ = en at U
    have HL := Lib.hid (head_long ⟨mj, wd, arg⟩ F.out)
    generalize hdLong ⟨mj, wd, arg⟩ = lg at U HL
    have hx : (mj = 7 ∧ wd = 1 ∧ 32 ≤ arg) ∨ (mj = 7 ∧ ((wd : Int) == 1) = false) ∨ ((mj : Int) == 7) = false := by
      simp only [beq_eq_false_iff_ne, ne_eq]
      omega
    clear hx'
    rcases hx with ⟨rfl, rfl, x2⟩ | ⟨rfl, x1⟩ | x0
    · go_enter Tryd.func214, Tryd.ntmps214
      go_wp2_with fail
      have D1 := Lib.hid (((((Only.refl (· = b) w).put (o + 7) (.bool false)).put (o + 3) (.int .i64 7)).put (o + 3 + 1) (.int .i64 1)).put (o + 3 + 2) (.int .u64 arg))
      have B1 := Lib.hid ((((HB.out.setP HO.out 7 (.bool false)).setP HO.out 3 (.int .i64 7)).setP HO.out 4 (.int .i64 1)).setP HO.out 5 (.int .u64 arg))
      refine (HL.out _ (D.out.only D1.out (fun e => N2.out e.symm))).mono ?_
      rintro ev w1 ⟨rfl, hb1⟩
      have B2 := Lib.hid (B1.out.below hb1)
      have D2 := Lib.hid (D1.out.below hb1)
      clear hb1 B1 D1 HL
      cases lg with
      | true =>
        go_wp2_with fail
        go_returns
        rw [U.out]
        exact ⟨rfl, B2.out, D2.out⟩
      | false =>
        go_wp2_with fail
        go_returns
        rw [U.out]
        exact ⟨rfl, B2.out, D2.out⟩
    · go_enter Tryd.func214, Tryd.ntmps214
      go_wp2_with fail
      have D1 := Lib.hid (((((Only.refl (· = b) w).put (o + 7) (.bool false)).put (o + 3) (.int .i64 7)).put (o + 3 + 1) (.int .i64 wd)).put (o + 3 + 2) (.int .u64 arg))
      have B1 := Lib.hid ((((HB.out.setP HO.out 7 (.bool false)).setP HO.out 3 (.int .i64 7)).setP HO.out 4 (.int .i64 wd)).setP HO.out 5 (.int .u64 arg))
      refine (HL.out _ (D.out.only D1.out (fun e => N2.out e.symm))).mono ?_
      rintro ev w1 ⟨rfl, hb1⟩
      have B2 := Lib.hid (B1.out.below hb1)
      have D2 := Lib.hid (D1.out.below hb1)
      clear hb1 B1 D1 HL
      cases lg with
      | true =>
        go_wp2_with fail
        go_returns
        rw [U.out]
        exact ⟨rfl, B2.out, D2.out⟩
      | false =>
        go_wp2_with fail
        go_returns
        rw [U.out]
        exact ⟨rfl, B2.out, D2.out⟩
    · go_enter Tryd.func214, Tryd.ntmps214
      go_wp2_with fail
      have D1 := Lib.hid (((((Only.refl (· = b) w).put (o + 7) (.bool false)).put (o + 3) (.int .i64 mj)).put (o + 3 + 1) (.int .i64 wd)).put (o + 3 + 2) (.int .u64 arg))
      have B1 := Lib.hid ((((HB.out.setP HO.out 7 (.bool false)).setP HO.out 3 (.int .i64 mj)).setP HO.out 4 (.int .i64 wd)).setP HO.out 5 (.int .u64 arg))
      refine (HL.out _ (D.out.only D1.out (fun e => N2.out e.symm))).mono ?_
      rintro ev w1 ⟨rfl, hb1⟩
      have B2 := Lib.hid (B1.out.below hb1)
      have D2 := Lib.hid (D1.out.below hb1)
      clear hb1 B1 D1 HL
      cases lg with
      | true =>
        go_wp2_with fail
        go_returns
        rw [U.out]
        exact ⟨rfl, B2.out, D2.out⟩
      | false =>
        go_wp2_with fail
        go_returns
        rw [U.out]
        exact ⟨rfl, B2.out, D2.out⟩

theorem hdBegin_fit (c : Int) (h0 : 0 ≤ c) (h1 : c < 256) : (hdBegin c).1.fit := by
  unfold hdBegin
  (repeat' split) <;> (refine ⟨?_, ?_, ?_, ?_, ?_⟩ <;> dsimp only <;> omega)
theorem arg_next (arg c : Int) (h0 : 0 ≤ c) (h1 : c < 256) : bits .or .u64 (arg * 256 % 18446744073709551616) c = arg * 256 % 18446744073709551616 + c :=
  bits_join .u64 64 (by decide) wrapsU64 8 _ _ (by omega) (by omega) (by omega) h0 (by omega) (by omega)

set_option maxRecDepth 100000 in
set_option maxHeartbeats 8000000 in
theorem rd_step (b o : Nat) (t : TypeId) (p q : List Value) (ho : p.length = o) (s : Rd) (c : Int) (h0 : 0 ≤ c) (h1 : c < 256) (hf : s.fit) (w : World) (hb : Blk w b (p ++ s.cells q) t) (hd : Dbl w) (h2 : b ≠ 2) :
    Calls Tryd.prog 172 #[.pointer (some ⟨b, o, none⟩), .int .u8 c] w fun e w' => e = .returned (.tuple #[.bool (s.step c).2.1, .int .i64 (s.step c).2.2]) ∧ Blk w' b (p ++ (s.step c).1.cells q) t ∧ Only (· = b) w w' := by
  obtain ⟨⟨mj, wd, arg⟩, ⟨lmj, lwd, larg⟩, left, opened, bad⟩ := s
  have HB := Lib.hid hb
  have HO := Lib.hid ho
  have D := Lib.hid hd
  have N2 := Lib.hid h2
  have F := Lib.hid hf
  have c8 := hb.cellP ho 8 (v := .int .i64 bad) rfl
  by_cases hbad : bad = 0
  · subst hbad
    have c0 := hb.cellP ho 0 (v := .int .i64 mj) rfl
    have c1 := hb.cellP ho 1 (v := .int .i64 wd) rfl
    have c2 := hb.cellP ho 2 (v := .int .u64 arg) rfl
    have c3 := hb.cellP ho 3 (v := .int .i64 lmj) rfl
    have c4 := hb.cellP ho 4 (v := .int .i64 lwd) rfl
    have c5 := hb.cellP ho 5 (v := .int .u64 larg) rfl
    have c6 := hb.cellP ho 6 (v := .int .i64 left) rfl
    have c7 := hb.cellP ho 7 (v := .bool opened) rfl
    simp only [Nat.add_zero] at c0
    have f0 := hb.thaw o none
    have f1 := hb.thaw (o + 1) none
    have f2 := hb.thaw (o + 2) none
    have f3 := hb.thaw (o + 3) none
    have f4 := hb.thaw (o + 4) none
    have f5 := hb.thaw (o + 5) none
    have f6 := hb.thaw (o + 6) none
    have f7 := hb.thaw (o + 7) none
    have f8 := hb.thaw (o + 8) none
    clear hb ho hd h2 hf
    cases opened with
    | false =>
      have FB := Lib.hid (hdBegin_fit c h0 h1)
      have U := Lib.hid (show Rd.step ⟨⟨mj, wd, arg⟩, ⟨lmj, lwd, larg⟩, left, false, 0⟩ c = (if (hdBegin c).2 ≠ 0 then (⟨(hdBegin c).1, hd0, (hdBegin c).1.wd, true, (hdBegin c).2⟩, false, (hdBegin c).2)
        else if 0 < (hdBegin c).1.wd then (⟨(hdBegin c).1, hd0, (hdBegin c).1.wd, true, 0⟩, false, 0)
        else Rd.ends ⟨(hdBegin c).1, hd0, (hdBegin c).1.wd, true, 0⟩) by simp only [Rd.step, ne_eq, not_true_eq_false, if_false, if_true])
      have HH := Lib.hid (head_begin c h0 h1)
      generalize hdBegin c = hb at U HH FB
      generalize Rd.step ⟨⟨mj, wd, arg⟩, ⟨lmj, lwd, larg⟩, left, false, 0⟩ c = res at U
      obtain ⟨⟨bmj, bwd, barg⟩, be⟩ := hb
      dsimp only at U FB
      have HH' : Hid (∀ w, Calls Tryd.prog 213 #[.int .u8 c] w fun e w' => e = .returned (.tuple #[.agg #[.int .i64 bmj, .int .i64 bwd, .int .u64 barg], .int .i64 be]) ∧ Below w.heap.size w w') := Lib.hid HH.out
      clear HH
      go_enter Tryd.func172, Tryd.ntmps172
      go_wp2_with fail
      refine (HH'.out _).mono ?_
      rintro ev w1 ⟨rfl, hb1⟩
      have B1 := Lib.hid (((((HB.out.setP HO.out 7 _).setP HO.out 3 _).setP HO.out 4 _).setP HO.out 5 _).below hb1)
      have O1 := Lib.hid (((((Only.refl (· = b) _).put _ _).put _ _).put _ _).put _ _ |>.below hb1)
      have W1 := Lib.hid (show Blk w1 b (p ++ Rd.cells ⟨⟨mj, wd, arg⟩, hd0, left, true, 0⟩ q) t from B1.out)
      have V1 := Lib.hid (show Only (· = b) w w1 from O1.out)
      clear hb1 B1 O1 c0 c1 c2 c3 c4 c5 c6 c7 c8 f0 f1 f2 f3 f4 f5 f6 f7 f8
      have c0 := W1.out.cellP HO.out 0 (v := .int .i64 mj) rfl
      have c1 := W1.out.cellP HO.out 1 (v := .int .i64 wd) rfl
      have c2 := W1.out.cellP HO.out 2 (v := .int .u64 arg) rfl
      have c6 := W1.out.cellP HO.out 6 (v := .int .i64 left) rfl
      have c8 := W1.out.cellP HO.out 8 (v := .int .i64 0) rfl
      simp only [Nat.add_zero] at c0
      have f0 := W1.out.thaw o none
      have f1 := W1.out.thaw (o + 1) none
      have f2 := W1.out.thaw (o + 2) none
      have f6 := W1.out.thaw (o + 6) none
      have f8 := W1.out.thaw (o + 8) none
      by_cases he : be = 0
      · subst he
        by_cases hw : 0 < bwd
        · have U2 := Lib.hid (show res = (⟨⟨bmj, bwd, barg⟩, hd0, bwd, true, 0⟩, false, 0) by rw [U.out]; simp [hw])
          go_wp2_with fail
          go_returns
          rw [U2.out]
          exact ⟨rfl, ((((W1.out.setP0 HO.out _).setP HO.out 1 _).setP HO.out 2 _).setP HO.out 8 _).setP HO.out 6 _, ((((V1.out.put _ _).put _ _).put _ _).put _ _).put _ _⟩
        · have U2 := Lib.hid (show res = Rd.ends ⟨⟨bmj, bwd, barg⟩, hd0, bwd, true, 0⟩ by rw [U.out]; simp [hw])
          have hw' : bwd ≤ 0 := by omega
          clear hw
          go_wp2_with fail
          have B3 := Lib.hid (((((W1.out.setP0 HO.out (.int .i64 bmj)).setP HO.out 1 (.int .i64 bwd)).setP HO.out 2 (.int .u64 barg)).setP HO.out 8 (.int .i64 0)).setP HO.out 6 (.int .i64 bwd))
          have O3 := Lib.hid (((((V1.out.put o (.int .i64 bmj)).put (o + 1) (.int .i64 bwd)).put (o + 2) (.int .u64 barg)).put (o + 8) (.int .i64 0)).put (o + 6) (.int .i64 bwd))
          refine (rd_end b o t p q HO.out ⟨⟨bmj, bwd, barg⟩, hd0, bwd, true, 0⟩ FB.out _ B3.out (D.out.only O3.out (fun e => N2.out e.symm)) N2.out).mono ?_
          rintro ev w3 ⟨rfl, B4, O4⟩
          have B5 := Lib.hid B4
          have O5 := Lib.hid (O3.out.trans O4)
          clear B4 O4 B3 O3
          go_wp2_with fail
          go_returns
          rw [U2.out]
          exact ⟨rfl, B5.out, O5.out⟩
      · have U2 := Lib.hid (show res = (⟨⟨bmj, bwd, barg⟩, hd0, bwd, true, be⟩, false, be) by rw [U.out]; simp [he])
        have he' : ((be : Int) == 0) = false := by simpa using he
        clear he
        go_wp2_with fail
        refine name_world (fun w2 => Blk w2 b (p ++ Rd.cells ⟨⟨bmj, bwd, barg⟩, hd0, bwd, true, be⟩ q) t ∧ Only (· = b) w w2) ⟨((((W1.out.setP0 HO.out _).setP HO.out 1 _).setP HO.out 2 _).setP HO.out 8 _).setP HO.out 6 _, ((((V1.out.put _ _).put _ _).put _ _).put _ _).put _ _⟩ ?_
        rintro w2 ⟨B2, O2⟩
        clear c0 c1 c2 c6 c8 f0 f1 f2 f6 f8
        have c8 := B2.cellP HO.out 8 (v := .int .i64 be) rfl
        have B3 := Lib.hid B2
        have O3 := Lib.hid O2
        clear B2 O2
        go_region
        all_goals go_wp2_with fail
        all_goals go_returns
        all_goals rw [U2.out]
        all_goals exact ⟨rfl, B3.out, O3.out.drew⟩
    | true =>
      obtain ⟨l0, l1⟩ := F.out.2 rfl rfl
      have a0 := F.out.1.2.2.2.1
      have a1 := F.out.1.2.2.2.2
      dsimp only at l0 l1 a0 a1
      have U := Lib.hid (show Rd.step ⟨⟨mj, wd, arg⟩, ⟨lmj, lwd, larg⟩, left, true, 0⟩ c = (if 0 < left - 1 then (⟨⟨mj, wd, arg * 256 % 18446744073709551616 + c⟩, ⟨lmj, lwd, larg⟩, left - 1, true, 0⟩, false, 0)
        else Rd.ends ⟨⟨mj, wd, arg * 256 % 18446744073709551616 + c⟩, ⟨lmj, lwd, larg⟩, left - 1, true, 0⟩) by simp [Rd.step])
      generalize Rd.step ⟨⟨mj, wd, arg⟩, ⟨lmj, lwd, larg⟩, left, true, 0⟩ c = res at U
      have hy := arg_next arg c h0 h1
      have hz : IntKind.u64.wrap (arg * 256) = arg * 256 % 18446744073709551616 := IntKind.wrap_u64 _
      have y0 : 0 ≤ arg * 256 % 18446744073709551616 + c := by omega
      have y1 : arg * 256 % 18446744073709551616 + c < 18446744073709551616 := by omega
      generalize arg * 256 % 18446744073709551616 + c = y at hy U y0 y1
      generalize arg * 256 % 18446744073709551616 = z at hy hz
      have FE : Hid (Rd.fit ⟨⟨mj, wd, y⟩, ⟨lmj, lwd, larg⟩, left, true, 0⟩ ∧ U64 y) := Lib.hid ⟨⟨⟨F.out.1.1, F.out.1.2.1, F.out.1.2.2.1, y0, y1⟩, fun _ _ => ⟨l0, l1⟩⟩, y0, y1⟩
      clear y0 y1
      by_cases hl : 0 < left - 1
      · have U2 := Lib.hid (show res = (⟨⟨mj, wd, y⟩, ⟨lmj, lwd, larg⟩, left - 1, true, 0⟩, false, 0) by rw [U.out]; simp only [hl, if_true])
        go_enter Tryd.func172, Tryd.ntmps172
        go_wp2_with fail
        go_returns
        rw [U2.out]
        exact ⟨rfl, (HB.out.setP HO.out 2 _).setP HO.out 6 _, ((Only.refl _ _).put _ _).put _ _⟩
      · have U2 := Lib.hid (show res = Rd.ends ⟨⟨mj, wd, y⟩, ⟨lmj, lwd, larg⟩, left - 1, true, 0⟩ by rw [U.out]; simp only [hl, if_false])
        have hl' : left - 1 ≤ 0 := by omega
        clear hl
        go_enter Tryd.func172, Tryd.ntmps172
        go_wp2_with fail
        have B3 := Lib.hid ((HB.out.setP HO.out 2 (.int .u64 y)).setP HO.out 6 (.int .i64 (left - 1)))
        have O3 := Lib.hid (((Only.refl (· = b) w).put (o + 2) (.int .u64 y)).put (o + 6) (.int .i64 (left - 1)))
        refine (rd_end b o t p q HO.out ⟨⟨mj, wd, y⟩, ⟨lmj, lwd, larg⟩, left - 1, true, 0⟩ FE.out.1.1 _ B3.out (D.out.only O3.out (fun e => N2.out e.symm)) N2.out).mono ?_
        rintro ev w3 ⟨rfl, B4, O4⟩
        have B5 := Lib.hid B4
        have O5 := Lib.hid (O3.out.trans O4)
        clear B4 O4 B3 O3
        go_wp2_with fail
        go_returns
        rw [U2.out]
        exact ⟨rfl, B5.out, O5.out⟩
  · have hb8 : ((bad : Int) == 0) = false := by simpa using hbad
    have U := Lib.hid (show Rd.step ⟨⟨mj, wd, arg⟩, ⟨lmj, lwd, larg⟩, left, opened, bad⟩ c = (⟨⟨mj, wd, arg⟩, ⟨lmj, lwd, larg⟩, left, opened, bad⟩, false, bad) by simp [Rd.step, hbad])
    clear hb ho hd h2 hf hbad
    generalize Rd.step ⟨⟨mj, wd, arg⟩, ⟨lmj, lwd, larg⟩, left, opened, bad⟩ c = res at U
    go_enter Tryd.func172, Tryd.ntmps172
    go_wp2_with fail
    go_region
    all_goals go_wp2_with fail
    all_goals go_returns
    all_goals rw [U.out]
    all_goals exact ⟨rfl, HB.out, (Only.refl _ _).drew⟩

end Go.Proofs.YtceddcogpigolaaDoor
