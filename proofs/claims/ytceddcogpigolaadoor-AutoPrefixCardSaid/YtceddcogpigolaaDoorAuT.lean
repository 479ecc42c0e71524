/- auto.Auto.inText by contract. -/
import Derived.Test.YtceddcogpigolaaDoorAuB
import Derived.Test.YtceddcogpigolaaDoorSg
namespace Go.Proofs.YtceddcogpigolaaDoor
open Go.RowKit Go.Sort

set_option maxRecDepth 100000 in
set_option maxHeartbeats 8000000 in
theorem au_inText (A : AB) (hA : A.ok) (most : Nat) (a : Au) (c : Int) (h0 : 0 ≤ c) (h1 : c < 256) (hw : a.wk.fit) (l0 : 1 ≤ a.left) (l1 : a.left < 18446744073709551616) (he : a.evs.length ≤ 59) (w : World) (hs : a.sits w A most) :
    Calls Tryd.prog 123 #[.pointer (some ⟨A.ab, 0, none⟩), .int .u8 c] w fun e w' => e = .returned (.int .i64 (a.inText most c).2) ∧ (a.inText most c).1.sits w' A most ∧ Only A.own w w' := by
  have HA := Lib.hid hA
  have HS := Lib.hid hs
  have c3 := hs.head.cell 3 (v := .pointer (some ⟨A.B.sb, 0, none⟩)) rfl
  have BY := Lib.hid (sk_byte A.B hA.B most a.sk c w hs.sk)
  have WS := Lib.hid (fun (cs : List Value) W (hsit : a.wk.sits cs 13) (hb : Blk W A.ab cs 140) => walk_step A.ab 13 140 cs a.wk c h0 h1 hsit hw W hb)
  have WD := Lib.hid (fun (cs : List Value) (s : Wk) W (hsit : s.sits cs 13) (hb : Blk W A.ab cs 140) => walk_done A.ab 13 140 cs s hsit W hb)
  have DP := Lib.hid (fun (a2 : Au) W (hW : a2.sits W A most) => au_deep A most a2 W hW)
  have NT := Lib.hid (fun (a2 : Au) (e : Ev) W (hW : a2.sits W A most) (hl2 : a2.evs.length ≤ 59) => au_note A hA most a2 e W hW (by omega))
  have EN := Lib.hid (fun (a2 : Au) W hW (hl2 : a2.evs.length ≤ 60) => au_end A hA most a2 W hW hl2)
  have LE := Lib.hid he
  have U := Lib.hid (show a.inText most c = (if (a.sk.byte most c).2 = false then ({ a with sk := (a.sk.byte most c).1 }, 4)
    else if a.text = true ∧ ((a.wk.step c).bad = true ∨ a.left - 1 = 0 ∧ (a.wk.step c).left ≠ 0) then (if a.text then { a with sk := (a.sk.byte most c).1, left := a.left - 1, wk := a.wk.step c } else { a with sk := (a.sk.byte most c).1, left := a.left - 1 }, 6)
    else if 0 < a.left - 1 then (Au.note (if a.text then { a with sk := (a.sk.byte most c).1, left := a.left - 1, wk := a.wk.step c } else { a with sk := (a.sk.byte most c).1, left := a.left - 1 }) ⟨2, hd0, c, (a.sk.byte most c).1.op + 1⟩, 0)
    else Au.ends (Au.note (if a.text then { a with sk := (a.sk.byte most c).1, left := a.left - 1, wk := a.wk.step c } else { a with sk := (a.sk.byte most c).1, left := a.left - 1 }) ⟨2, hd0, c, (a.sk.byte most c).1.op + 1⟩)) by
      unfold Au.inText; dsimp only; cases a.text <;> rfl)
  clear hA hs hw h0 h1 he
  generalize a.inText most c = res at *
  generalize a.sk.byte most c = bt at *
  obtain ⟨sk', room⟩ := bt
  generalize a.wk.step c = wk' at *
  dsimp only at *
  have S1 : Hid (∀ W, sk'.sits W A.B most → Only A.B.own w W → ({ a with sk := sk' } : Au).sits W A most) := Lib.hid fun W hB hO => HS.out.stack HA.out hB hO
  go_enter Tryd.func123, Tryd.ntmps123
  go_wp2_with fail
  refine BY.out.mono ?_
  rintro ev W ⟨rfl, K1, O1⟩
  have SW := Lib.hid (S1.out W K1 O1)
  have OW := Lib.hid (O1.mono fun b _ hb => AB.own_sk hb)
  clear K1 O1 c3
  cases room with
  | false =>
    go_wp2_with fail
    go_returns
    rw [show res = ({ a with sk := sk' }, 4) by rw [U.out]; rfl]
    exact ⟨rfl, SW.out, OW.out⟩
  | true =>
    have U2 := Lib.hid (U.out.trans (if_neg (by simp)))
    clear U
    have c18 := SW.out.head.cell 18 (v := .int .u64 a.left) rfl
    have f18 := SW.out.head.thaw 18 none
    have c17 := SW.out.head.cell 17 (v := .bool a.text) rfl
    have S2 : Hid (({ a with sk := sk', left := a.left - 1 } : Au).sits (W.setCell ⟨A.ab, 18, none⟩ (.int .u64 (a.left - 1))) A most) := Lib.hid (SW.out.put HA.out (SW.out.head.set 18 _) rfl rfl ((Only.refl _ _).put _ _))
    have O2 : Hid (Only A.own w (W.setCell ⟨A.ab, 18, none⟩ (.int .u64 (a.left - 1)))) := Lib.hid (OW.out.one A.ab 18 (.inl rfl) _)
    cases htx : a.text with
    | false =>
      rw [htx] at c17
      have U3 : Hid (res = if 0 < a.left - 1 then (Au.note { a with sk := sk', left := a.left - 1 } ⟨2, hd0, c, (sk'.op : Int) + 1⟩, 0) else Au.ends (Au.note { a with sk := sk', left := a.left - 1 } ⟨2, hd0, c, (sk'.op : Int) + 1⟩)) := Lib.hid (by have := U2.out.trans (if_neg (by simp [htx])); rw [if_neg (show ¬ a.text = true by simp [htx])] at this; exact this)
      clear U2
      have HT := Lib.hid htx
      clear htx
      have DD : Hid (Calls Tryd.prog 169 #[.pointer (some ⟨A.ab, 0, none⟩)] (W.setCell ⟨A.ab, 18, none⟩ (.int .u64 (a.left - 1))) fun e w' => e = .returned (.int .i64 ((sk'.op : Int) + 1)) ∧ w' = (W.setCell ⟨A.ab, 18, none⟩ (.int .u64 (a.left - 1)))) := Lib.hid (DP.out _ _ S2.out)
      have NN : Hid (Calls Tryd.prog 168 #[.pointer (some ⟨A.ab, 0, none⟩), .agg #[.int .i64 2, .int .i64 0, .int .i64 0, .int .u64 0, .int .u8 c, .int .i64 ((sk'.op : Int) + 1)]] (W.setCell ⟨A.ab, 18, none⟩ (.int .u64 (a.left - 1))) fun en w' => en = .returned (.tuple #[]) ∧
        (Au.note { a with sk := sk', left := a.left - 1 } ⟨2, hd0, c, (sk'.op : Int) + 1⟩).sits w' A most ∧ Only (fun b => b = A.ab ∨ b = A.eb) (W.setCell ⟨A.ab, 18, none⟩ (.int .u64 (a.left - 1))) w') := Lib.hid (NT.out _ ⟨2, hd0, c, (sk'.op : Int) + 1⟩ _ S2.out LE.out)
      go_wp2_with fail
      refine DD.out.mono ?_
      rintro ev W3 ⟨rfl, e3⟩
      subst e3
      go_wp2_with fail
      refine NN.out.mono ?_
      rintro ev W4 ⟨rfl, S4, O4⟩
      have S4' := Lib.hid S4
      have O4' := Lib.hid (O2.out.trans (O4.mono fun b _ hb => AB.own_ae hb))
      have c18' := S4.head.cell 18 (v := .int .u64 (a.left - 1)) rfl
      clear S4 O4 c18 c17 f18
      by_cases hp : 0 < a.left - 1
      · have R2 := Lib.hid (U3.out.trans (if_pos hp))
        go_wp2_with fail
        go_returns
        rw [R2.out]
        exact ⟨rfl, S4'.out, O4'.out⟩
      · have R2 := Lib.hid (U3.out.trans (if_neg hp))
        have hp' : a.left - 1 ≤ 0 := by omega
        clear hp
        go_wp2_with fail
        refine (EN.out _ _ S4'.out (by simp [Au.note]; have := LE.out; omega)).mono ?_
        rintro ev W5 ⟨rfl, S5, O5⟩
        have S5' := Lib.hid S5
        have O5' := Lib.hid (O4'.out.trans O5)
        clear S5 O5
        go_wp2_with fail
        go_returns
        rw [R2.out]
        exact ⟨rfl, S5'.out, O5'.out⟩
    | true =>
      rw [htx] at c17
      have U3 : Hid (res = if wk'.bad = true ∨ a.left - 1 = 0 ∧ wk'.left ≠ 0 then ({ a with sk := sk', left := a.left - 1, wk := wk' }, 6)
          else if 0 < a.left - 1 then (Au.note { a with sk := sk', left := a.left - 1, wk := wk' } ⟨2, hd0, c, (sk'.op : Int) + 1⟩, 0) else Au.ends (Au.note { a with sk := sk', left := a.left - 1, wk := wk' } ⟨2, hd0, c, (sk'.op : Int) + 1⟩)) := by
        refine Lib.hid ?_
        have := U2.out
        rw [if_pos htx] at this
        simpa only [htx, true_and] using this
      clear U2
      have WW := Lib.hid (WS.out _ _ ⟨rfl, rfl, rfl, rfl⟩ S2.out.head)
      have S3f : Hid (∀ W3, Blk W3 A.ab (putL (Au.cells { a with sk := sk', left := a.left - 1 } A) 13 wk'.cells) 140 → Only (· = A.ab) (W.setCell ⟨A.ab, 18, none⟩ (.int .u64 (a.left - 1))) W3 → ({ a with sk := sk', left := a.left - 1, wk := wk' } : Au).sits W3 A most) :=
        Lib.hid fun W3 hb ho => S2.out.put HA.out hb rfl rfl ho
      clear WS htx
      go_wp2_with fail
      refine WW.out.mono ?_
      rintro ev W3 ⟨rfl, B3, O3⟩
      have S3 := Lib.hid (S3f.out W3 B3 O3)
      have O3' := Lib.hid (O2.out.trans (O3.mono fun b _ hb => AB.own_ab hb))
      clear B3 O3 c18 c17 f18 S3f WW
      have c18 := S3.out.head.cell 18 (v := .int .u64 (a.left - 1)) rfl
      have WD3 := Lib.hid (WD.out _ wk' _ ⟨rfl, rfl, rfl, rfl⟩ S3.out.head)
      have DD : Hid (Calls Tryd.prog 169 #[.pointer (some ⟨A.ab, 0, none⟩)] W3 fun e w' => e = .returned (.int .i64 ((sk'.op : Int) + 1)) ∧ w' = W3) := Lib.hid (DP.out _ _ S3.out)
      have NN : Hid (Calls Tryd.prog 168 #[.pointer (some ⟨A.ab, 0, none⟩), .agg #[.int .i64 2, .int .i64 0, .int .i64 0, .int .u64 0, .int .u8 c, .int .i64 ((sk'.op : Int) + 1)]] W3 fun en w' => en = .returned (.tuple #[]) ∧
        (Au.note { a with sk := sk', left := a.left - 1, wk := wk' } ⟨2, hd0, c, (sk'.op : Int) + 1⟩).sits w' A most ∧ Only (fun b => b = A.ab ∨ b = A.eb) W3 w') := Lib.hid (NT.out _ ⟨2, hd0, c, (sk'.op : Int) + 1⟩ _ S3.out LE.out)
      by_cases hbad : wk'.bad = true
      · have U4 := Lib.hid (U3.out.trans (if_pos (.inl hbad)))
        rw [hbad]
        clear hbad U3
        go_wp2_with fail
        go_returns
        rw [U4.out]
        exact ⟨rfl, S3.out, O3'.out⟩
      · have hbad' : wk'.bad = false := by simpa using hbad
        rw [hbad'] at WD3 ⊢
        by_cases hz : a.left - 1 = 0
        · have ez : ((a.left - 1 : Int) == 0) = true := by simpa using hz
          have ez' : a.left - 1 ≤ 0 := by omega
          by_cases hl : wk'.left = 0
          · have U4 := Lib.hid ((U3.out.trans (if_neg (by simp [hbad', hl]))).trans (if_neg (by omega)))
            rw [show (wk'.left == 0) = true by simpa using hl] at WD3
            clear U3 hbad hbad' hl hz
            go_wp2_with fail
            refine WD3.out.mono ?_
            rintro ev W4 ⟨rfl, e4⟩
            obtain rfl := e4.symm
            go_wp2_with fail
            refine DD.out.mono ?_
            rintro ev W4 ⟨rfl, e4⟩
            obtain rfl := e4.symm
            go_wp2_with fail
            refine NN.out.mono ?_
            rintro ev W4 ⟨rfl, S4, O4⟩
            have S4' := Lib.hid S4
            have O4' := Lib.hid (O3'.out.trans (O4.mono fun b _ hb => AB.own_ae hb))
            have c18' := S4.head.cell 18 (v := .int .u64 (a.left - 1)) rfl
            clear S4 O4 c18
            go_wp2_with fail
            refine (EN.out _ _ S4'.out (by simp [Au.note]; have := LE.out; omega)).mono ?_
            rintro ev W5 ⟨rfl, S5, O5⟩
            have S5' := Lib.hid S5
            have O5' := Lib.hid (O4'.out.trans O5)
            clear S5 O5
            go_wp2_with fail
            go_returns
            rw [U4.out]
            exact ⟨rfl, S5'.out, O5'.out⟩
          · have U4 := Lib.hid (U3.out.trans (if_pos (.inr ⟨hz, hl⟩)))
            rw [show (wk'.left == 0) = false by simpa using hl] at WD3
            clear U3 hbad hbad' hl hz
            go_wp2_with fail
            refine WD3.out.mono ?_
            rintro ev W4 ⟨rfl, e4⟩
            obtain rfl := e4.symm
            go_wp2_with fail
            go_returns
            rw [U4.out]
            exact ⟨rfl, S3.out, O3'.out⟩
        · have ez : ((a.left - 1 : Int) == 0) = false := by simpa using hz
          have ez' : 0 < a.left - 1 := by omega
          have U4 := Lib.hid ((U3.out.trans (if_neg (by simp [hbad', hz]))).trans (if_pos ez'))
          clear U3 hbad hbad' hz
          go_wp2_with fail
          refine DD.out.mono ?_
          rintro ev W4 ⟨rfl, e4⟩
          obtain rfl := e4.symm
          go_wp2_with fail
          refine NN.out.mono ?_
          rintro ev W4 ⟨rfl, S4, O4⟩
          have S4' := Lib.hid S4
          have O4' := Lib.hid (O3'.out.trans (O4.mono fun b _ hb => AB.own_ae hb))
          have c18' := S4.head.cell 18 (v := .int .u64 (a.left - 1)) rfl
          clear S4 O4 c18
          go_wp2_with fail
          go_returns
          rw [U4.out]
          exact ⟨rfl, S4'.out, O4'.out⟩

end Go.Proofs.YtceddcogpigolaaDoor
