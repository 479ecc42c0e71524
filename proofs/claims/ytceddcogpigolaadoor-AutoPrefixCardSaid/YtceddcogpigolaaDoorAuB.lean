/- auto.Auto.begin by contract. -/
import Derived.Test.YtceddcogpigolaaDoorAuE
namespace Go.Proofs.YtceddcogpigolaaDoor
open Go.RowKit Go.Sort

theorem Au.begin_text {a : Au} {h : Hd} (hm : h.mj = 2 ∨ h.mj = 3) : a.begin h = if 0 < h.arg then ({ (a.note ⟨1, h, 0, a.deep⟩) with text := decide (h.mj = 3), left := h.arg, wk := wk0 }, 0) else Au.ends { (a.note ⟨1, h, 0, a.deep⟩) with text := decide (h.mj = 3), left := h.arg, wk := wk0 } := by
  unfold Au.begin
  dsimp only
  rw [if_pos hm]
theorem Au.begin_list {a : Au} {h : Hd} (hm : h.mj = 4 ∨ h.mj = 5 ∨ h.mj = 6) : a.begin h = if (a.sk.opens h.mj h.arg).2 then ({ (a.note ⟨1, h, 0, a.deep⟩) with sk := (a.sk.opens h.mj h.arg).1 }, 0) else Au.ends { (a.note ⟨1, h, 0, a.deep⟩) with sk := (a.sk.opens h.mj h.arg).1 } := by
  unfold Au.begin
  dsimp only
  rw [if_neg (by omega), if_pos hm]
  rfl
theorem Au.begin_one {a : Au} {h : Hd} (h1 : ¬ (h.mj = 2 ∨ h.mj = 3)) (h2 : ¬ (h.mj = 4 ∨ h.mj = 5 ∨ h.mj = 6)) : a.begin h = (a.note ⟨1, h, 0, a.deep⟩).ends := by
  unfold Au.begin
  dsimp only
  rw [if_neg h1, if_neg h2]

set_option maxRecDepth 100000 in
set_option maxHeartbeats 8000000 in
theorem au_begin (A : AB) (hA : A.ok) (most : Nat) (a : Au) (h : Hd) (h0 : 0 ≤ h.arg) (h1 : h.arg < 18446744073709551616) (w : World) (hs : a.sits w A most) (hl : a.evs.length ≤ 59) :
    Calls Tryd.prog 173 #[.pointer (some ⟨A.ab, 0, none⟩), h.val] w fun e w' => e = .returned (.int .i64 (a.begin h).2) ∧ (a.begin h).1.sits w' A most ∧ Only A.own w w' := by
  have HA := Lib.hid hA
  have HL := Lib.hid hl
  have HS := Lib.hid hs
  have D := Lib.hid (fun W hW => au_deep A most a W hW)
  have NT := Lib.hid (fun W hW => au_note A hA most a ⟨1, h, 0, a.deep⟩ W hW (by omega))
  have EN := Lib.hid (fun (a2 : Au) W hW (hl2 : a2.evs.length ≤ 60) => au_end A hA most a2 W hW hl2)
  have LN : Hid ((a.note ⟨1, h, 0, a.deep⟩).evs.length ≤ 60) := Lib.hid (by simp [Au.note]; omega)
  have BT := Lib.hid (@Au.begin_text a h)
  have BL := Lib.hid (@Au.begin_list a h)
  have BO := Lib.hid (@Au.begin_one a h)
  have SKE : Hid ((a.note ⟨1, h, 0, a.deep⟩).sk = a.sk) := Lib.hid rfl
  clear hA hs hl
  generalize ha1 : a.note ⟨1, h, 0, a.deep⟩ = a1 at *
  have HA1 := Lib.hid ha1
  clear ha1
  generalize hres : a.begin h = res at *
  clear hres
  obtain ⟨mj, wd, arg⟩ := h
  unfold Hd.val Ev.val at *
  dsimp only at *
  go_enter Tryd.func173, Tryd.ntmps173
  go_wp2_with fail
  refine name_world (fun W => a.sits W A most ∧ Below w.heap.size w W ∧ Blk W w.heap.size [.int .i64 mj, .int .i64 wd, .int .u64 arg] 73) ⟨HS.out.below (by go_grown), by go_grown, Blk.new w _ _⟩ ?_
  rintro W ⟨hS, hB, hE⟩
  generalize hn : w.heap.size = N at *
  have NN := Lib.hid hn
  have SW := Lib.hid hS
  have BW := Lib.hid hB
  have EW := Lib.hid hE
  have hc := hE.at
  have DW := Lib.hid (D.out W hS)
  clear hS hB hE hn
  go_still_tail 5, (by kernel_rfl)
  still_call (D.out W.drew (SW.out.drewN 1))
  repeat still_step
  refine wpStill_nil ?_
  change wpList _ _ _ _ _ W.drew
  go_wp2_with fail
  refine (NT.out _ (SW.out.drewN 1)).mono ?_
  rintro ev w1 ⟨rfl, S1, O1⟩
  have OW : Hid (Only A.own w w1) := Lib.hid ((Below.only (show Below w.heap.size w W by rw [NN.out]; exact BW.out) _).trans (((Only.refl _ W).drew).trans (O1.mono fun b _ hb => AB.own_ae hb)))
  have S1' := Lib.hid S1
  have N1 : ¬ (N = A.ab ∨ N = A.eb) := by
    rintro (e | e)
    · have := HS.out.head.lt; have := NN.out; omega
    · have := HS.out.evs.choose_spec.1.lt; have := NN.out; omega
  have E1 := Lib.hid (O1.blk EW.out.drew N1)
  have hc1 := E1.out.at
  have NA : Hid (¬ A.own N) := Lib.hid (by
    rintro (e | e | e)
    · exact N1 (.inl e)
    · exact N1 (.inr e)
    · have h2 := NN.out
      subst h2
      have hb := HS.out.sk
      rcases e with e | e | ⟨i, hi, e⟩
      · have := hb.head.lt; omega
      · have := hb.rows.choose_spec.1.lt; omega
      · have := (hb.ky i _ (List.getElem?_eq_getElem (by rw [hb.len]; exact hi))).lt3 _ e; omega)
  clear S1 O1 hc N1
  by_cases m2 : mj = 2 ∨ mj = 3
  · have R := Lib.hid (BT.out m2)
    have f17 := S1'.out.head.thaw 17 none
    have f18 := S1'.out.head.thaw 18 none
    have c17 := S1'.out.head.cell 17 (v := .bool a1.text) rfl
    have c18 := S1'.out.head.cell 18 (v := .int .u64 a1.left) rfl
    clear BL BO BT
    rcases m2 with rfl | rfl
    all_goals
      go_wp2_with fail
      go_region
      go_wp2_with fail
      refine name_calls (fun W2 => ({ a1 with text := _, left := arg } : Au).sits W2 A most ∧ Only A.own w W2 ∧ Blk W2 N [_, .int .i64 wd, .int .u64 arg] 73)
        ⟨S1'.out.put HA.out (((S1'.out.head.set 17 (.bool _)).set 18 (.int .u64 arg)).drew) rfl rfl ((((Only.refl _ _).put _ _).put _ _).drew), (((OW.out.one A.ab 17 (.inl rfl) _).one A.ab 18 (.inl rfl) _).drew), (((E1.out.far (a := ⟨A.ab, 17, none⟩) (fun e => NA.out (e ▸ .inl rfl)) _).far (a := ⟨A.ab, 18, none⟩) (fun e => NA.out (e ▸ .inl rfl)) _).drew)⟩ ?_
      rintro W2 ⟨S2, O2, E2⟩
      have S2' := Lib.hid S2
      have O2' := Lib.hid O2
      have E2' := Lib.hid E2
      clear S2 O2 E2 hc1 f17 f18 c17 c18
      refine (walk_reset A.ab 13 140 _ a1.wk ⟨rfl, rfl, rfl, rfl⟩ _ S2'.out.head).mono ?_
      rintro ev W3 ⟨rfl, B3, O3⟩
      have S3 := Lib.hid (S2'.out.put (a' := { a1 with text := _, left := arg, wk := wk0 }) HA.out B3 rfl rfl O3)
      have O3' := Lib.hid (O2'.out.trans (O3.mono fun b _ hb => AB.own_ab hb))
      have hc3 := (O3.blk E2'.out (fun e => NA.out (e ▸ .inl rfl))).at
      clear B3 O3
      by_cases hp : 0 < arg
      · have R2 := Lib.hid (R.out.trans (if_pos hp))
        go_wp2_with fail
        go_returns
        rw [R2.out]
        exact ⟨rfl, S3.out, O3'.out⟩
      · have R2 := Lib.hid (R.out.trans (if_neg hp))
        have hp' : arg ≤ 0 := by omega
        clear hp
        go_wp2_with fail
        refine (EN.out _ _ S3.out LN.out).mono ?_
        rintro ev W4 ⟨rfl, S4, O4⟩
        have S4' := Lib.hid S4
        have O4' := Lib.hid (O3'.out.trans O4)
        clear S4 O4
        go_wp2_with fail
        go_returns
        rw [R2.out]
        exact ⟨rfl, S4'.out, O4'.out⟩
  · by_cases m4 : mj = 4 ∨ mj = 5 ∨ mj = 6
    · have R := Lib.hid (BL.out m4)
      have c3 := S1'.out.head.cell 3 (v := .pointer (some ⟨A.B.sb, 0, none⟩)) rfl
      have OP := Lib.hid (fun W hW => sk_opens A.B HA.out.B most a.sk mj arg h0 h1 W hW)
      have SK := Lib.hid (show a.sk.sits w1 A.B most by have := S1'.out.sk; rw [SKE.out] at this; exact this)
      have S1k : Hid (∀ (s' : Sk) W, s'.sits W A.B most → Only A.B.own w1 W → ({ a1 with sk := s' } : Au).sits W A most) := Lib.hid fun s' W h1 h2 => S1'.out.stack HA.out h1 h2
      clear BT BO BL
      generalize a.sk.opens mj arg = op at *
      obtain ⟨s', ok⟩ := op
      dsimp only at *
      rcases m4 with rfl | rfl | rfl
      all_goals
        go_wp2_with fail
        go_still_tail 8, (by kernel_rfl)
        change wpList _ _ _ _ _ w1.drew
        go_wp2_with fail
        refine (OP.out _ (SK.out.drewN 1)).mono ?_
        rintro ev W2 ⟨rfl, K2, O2⟩
        have S2 := Lib.hid (S1k.out s' W2 K2 (((Only.refl _ w1).drew).trans O2))
        have O2' := Lib.hid ((OW.out.drew).trans (O2.mono fun b _ hb => AB.own_sk hb))
        clear K2 O2 c3 hc1
        cases ok with
        | true =>
          go_wp2_with fail
          go_returns
          rw [R.out]
          exact ⟨rfl, S2.out, O2'.out⟩
        | false =>
          go_wp2_with fail
          refine (EN.out _ _ S2.out LN.out).mono ?_
          rintro ev W4 ⟨rfl, S4, O4⟩
          have S4' := Lib.hid S4
          have O4' := Lib.hid (O2'.out.trans O4)
          clear S4 O4
          go_wp2_with fail
          go_returns
          rw [R.out]
          exact ⟨rfl, S4'.out, O4'.out⟩
    · have R := Lib.hid (BO.out m2 m4)
      have e2 : ((mj : Int) == 2) = false := by simp; omega
      have e3 : ((mj : Int) == 3) = false := by simp; omega
      have e4 : ((mj : Int) == 4) = false := by simp; omega
      have e5 : ((mj : Int) == 5) = false := by simp; omega
      have e6 : ((mj : Int) == 6) = false := by simp; omega
      clear m2 m4 BT BO BL
      go_wp2_with fail
      refine (EN.out _ _ S1'.out LN.out).mono ?_
      rintro ev W4 ⟨rfl, S4, O4⟩
      have S4' := Lib.hid S4
      have O4' := Lib.hid (OW.out.trans O4)
      clear S4 O4
      go_wp2_with fail
      go_returns
      rw [R.out]
      exact ⟨rfl, S4'.out, O4'.out⟩

end Go.Proofs.YtceddcogpigolaaDoor
