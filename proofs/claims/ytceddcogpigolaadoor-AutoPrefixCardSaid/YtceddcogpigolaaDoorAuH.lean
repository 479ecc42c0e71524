/- auto.Auto.inHead by contract. -/
import Derived.Test.YtceddcogpigolaaDoorAuB
import Derived.Test.YtceddcogpigolaaDoorSg
namespace Go.Proofs.YtceddcogpigolaaDoor
open Go.RowKit Go.Sort

theorem hd0_fit : hd0.fit := by
  exact ⟨by decide, by decide, .inl rfl, by decide, by decide⟩
theorem Rd.ends_fit {r : Rd} (h : r.now.fit) (hl : r.last.fit) : r.ends.1.fit ∧ r.ends.1.last.fit := by
  unfold Rd.ends
  split
  · exact ⟨⟨h, fun _ e => absurd e (by simp)⟩, hd0_fit⟩
  · split
    · exact ⟨⟨h, fun e => absurd e (by simp)⟩, h⟩
    · exact ⟨⟨h, fun e => absurd e (by simp)⟩, h⟩
theorem hdBegin_wd (c : Int) : (hdBegin c).1.wd ≤ 8 := by
  unfold hdBegin
  (repeat' split) <;> dsimp only <;> omega
theorem Rd.step_fit {r : Rd} (h : r.fit) (hl : r.last.fit) (c : Int) (h0 : 0 ≤ c) (h1 : c < 256) : (r.step c).1.fit ∧ (r.step c).1.last.fit := by
  have hb := hdBegin_fit c h0 h1
  have hw := hdBegin_wd c
  unfold Rd.step
  split
  · exact ⟨h, hl⟩
  · rename_i hbad
    split
    · split
      · rename_i hne
        exact ⟨⟨hb, fun _ e => absurd e hne⟩, hd0_fit⟩
      · split
        · exact ⟨⟨hb, fun _ _ => ⟨by dsimp only; omega, by dsimp only; omega⟩⟩, hd0_fit⟩
        · exact Rd.ends_fit hb hd0_fit
    · rename_i hop
      have hn : (⟨r.now.mj, r.now.wd, r.now.arg * 256 % 18446744073709551616 + c⟩ : Hd).fit := by
        obtain ⟨a1, a2, a3, a4, a5⟩ := h.1
        exact ⟨a1, a2, a3, by dsimp only; omega, by dsimp only; omega⟩
      have hleft := h.2 (by simpa using hop) (by simpa using hbad)
      split
      · exact ⟨⟨hn, fun _ _ => ⟨by dsimp only; omega, by dsimp only; omega⟩⟩, hl⟩
      · exact Rd.ends_fit hn hl
def Au.pre (a : Au) (A : AB) : List Value := [.int .i64 a.lim.depth, .int .i64 a.lim.key, .int .i64 a.lim.size, .pointer (some ⟨A.B.sb, 0, none⟩)]
def Au.post (a : Au) (A : AB) : List Value := [.int .i64 a.wk.left, .int .u8 a.wk.lo, .int .u8 a.wk.hi, .bool a.wk.bad,
   .bool a.text, .int .u64 a.left, .int .i64 a.many, .bool a.done, .int .i64 a.bad, evsV A a.evs.length]
theorem Au.cells_rd (a : Au) (A : AB) : a.cells A = a.pre A ++ a.rd.cells (a.post A) := rfl

set_option maxRecDepth 100000 in
set_option maxHeartbeats 8000000 in
theorem au_inHead (A : AB) (hA : A.ok) (most : Nat) (a : Au) (c : Int) (h0 : 0 ≤ c) (h1 : c < 256) (hf : a.rd.fit) (hl : a.rd.last.fit) (he : a.evs.length ≤ 59) (w : World) (hs : a.sits w A most) (hd : Dbl w) :
    Calls Tryd.prog 124 #[.pointer (some ⟨A.ab, 0, none⟩), .int .u8 c] w fun e w' => e = .returned (.int .i64 (a.inHead most c).2) ∧ (a.inHead most c).1.sits w' A most ∧ Only A.own w w' := by
  have HA := Lib.hid hA
  have HS := Lib.hid hs
  have OP := Lib.hid (rd_open A.ab 4 140 (a.pre A) (a.post A) rfl a.rd w hs.head)
  have n2 : A.ab ≠ 2 := fun e => hA.o2 (.inl e.symm)
  have ST := Lib.hid (rd_step A.ab 4 140 (a.pre A) (a.post A) rfl a.rd c h0 h1 hf w hs.head hd n2)
  have SF := Lib.hid (Rd.step_fit hf hl c h0 h1).2
  have BY := Lib.hid (fun (a2 : Au) W (hW : a2.sits W A most) => sk_byte A.B hA.B most a2.sk c W hW.sk)
  have BE := Lib.hid (fun (a2 : Au) (h : Hd) W (hW : a2.sits W A most) (hh : h.fit) (hl2 : a2.evs.length ≤ 59) => au_begin A hA most a2 h hh.2.2.2.1 hh.2.2.2.2 W hW hl2)
  have DP := Lib.hid (fun (a2 : Au) W (hW : a2.sits W A most) => au_deep A most a2 W hW)
  have LE := Lib.hid he
  have S2 : Hid (∀ W, Blk W A.ab (a.pre A ++ (a.rd.step c).1.cells (a.post A)) 140 → Only (· = A.ab) w W → ({ a with rd := (a.rd.step c).1 } : Au).sits W A most) := Lib.hid fun W hB hO => hs.put hA hB rfl rfl hO
  have U := Lib.hid (show a.inHead most c = (if (a.rd.step c).2.2 = 2 then ({ a with rd := (a.rd.step c).1 }, 2)
    else if a.rd.opened = false ∧ a.lim.depth < a.deep then ({ a with rd := (a.rd.step c).1 }, 3)
    else if (a.sk.byte most c).2 = false then ({ a with rd := (a.rd.step c).1, sk := (a.sk.byte most c).1 }, 4)
    else if (a.rd.step c).2.2 ≠ 0 then ({ a with rd := (a.rd.step c).1, sk := (a.sk.byte most c).1 }, (a.rd.step c).2.2)
    else if (a.rd.step c).2.1 then Au.begin { a with rd := (a.rd.step c).1, sk := (a.sk.byte most c).1 } (a.rd.step c).1.last
    else ({ a with rd := (a.rd.step c).1, sk := (a.sk.byte most c).1 }, 0)) from rfl)
  clear hA hs hf hl hd n2 he h0 h1
  generalize a.inHead most c = res at *
  generalize hop : a.rd.opened = opened at *
  have HOP := Lib.hid hop
  clear hop
  generalize a.rd.step c = st at *
  obtain ⟨rd', whole, er⟩ := st
  generalize hbt : a.sk.byte most c = bt at *
  have HBT := Lib.hid hbt
  clear hbt
  obtain ⟨sk', room⟩ := bt
  dsimp only at *
  go_enter Tryd.func124, Tryd.ntmps124
  go_wp2_with fail
  refine OP.out.mono ?_
  rintro ev W ⟨rfl, rfl⟩
  go_wp2_with fail
  refine ST.out.mono ?_
  rintro ev W2 ⟨rfl, B2, O2⟩
  have SW := Lib.hid (S2.out _ B2 O2)
  have OW := Lib.hid (O2.mono fun b _ hb => AB.own_ab hb)
  clear B2 O2
  by_cases e2 : er = 2
  · have U1 := Lib.hid (U.out.trans (if_pos e2))
    subst e2
    go_wp2_with fail
    go_returns
    rw [U1.out]
    exact ⟨rfl, SW.out, OW.out⟩
  · have er2 : ((er : Int) == 2) = false := by simpa using e2
    have U2 := Lib.hid (U.out.trans (if_neg e2))
    clear e2 U S2 OP ST
    have c0 := SW.out.head.cell 0 (v := .int .i64 a.lim.depth) rfl
    by_cases hc : opened = false ∧ a.lim.depth < a.deep
    · have U3 := Lib.hid (U2.out.trans (if_pos hc))
      obtain ⟨rfl, hlt⟩ := hc
      have DD : Hid (Calls Tryd.prog 169 #[.pointer (some ⟨A.ab, 0, none⟩)] W2.drew fun e w' => e = .returned (.int .i64 a.deep) ∧ w' = W2.drew) := Lib.hid (DP.out { a with rd := rd' } W2.drew (SW.out.drewN 1))
      clear U2
      go_wp2_with fail
      go_still_tail 11, (by kernel_rfl)
      still_call DD.out
      repeat still_step
      refine wpStill_nil ?_
      change wpList _ _ _ _ _ W2.drew
      go_wp2_with fail
      go_returns
      rw [U3.out]
      exact ⟨rfl, SW.out.drewN 1, OW.out.drewN 1⟩
    · have U3 := Lib.hid (U2.out.trans (if_neg hc))
      have key : opened = true ∨ (opened = false ∧ a.deep ≤ a.lim.depth) := by
        cases opened with
        | true => exact .inl rfl
        | false => exact .inr ⟨rfl, Int.not_lt.1 fun h => hc ⟨rfl, h⟩⟩
      clear U2 hc
      have DD : Hid (Calls Tryd.prog 169 #[.pointer (some ⟨A.ab, 0, none⟩)] W2.drew fun e w' => e = .returned (.int .i64 a.deep) ∧ w' = W2.drew) := Lib.hid (DP.out { a with rd := rd' } W2.drew (SW.out.drewN 1))
      have BB := Lib.hid (BY.out _ W2.drew (SW.out.drewN 1))
      rw [show ({ a with rd := rd' } : Au).sk = a.sk from rfl, HBT.out] at BB
      have SB : Hid (∀ W3, sk'.sits W3 A.B most → Only A.B.own W2.drew W3 → ({ a with rd := rd', sk := sk' } : Au).sits W3 A most ∧ Only A.own W W3)  :=
        Lib.hid fun W3 K O => ⟨(SW.out.drewN 1).stack HA.out K O, (OW.out.drewN 1).trans (O.mono fun b _ hb => AB.own_sk hb)⟩
      rcases key with rfl | ⟨rfl, hle⟩
      all_goals
        go_wp2_with fail
        refine wp_region_sg 11 (by kernel_rfl) (by kernel_rfl) ?_
        simp only [List.take_succ_cons, List.take_zero, List.drop_succ_cons, List.drop_zero]
        repeat (refine sg_step (fun K hK => ?_); go_simp; first | (refine hK _ ?_; clear hK K) | (refine ⟨_, DD.out, hK _ ?_⟩; clear hK K))
        refine sg_nil ?_
        have c3 := SW.out.head.cell 3 (v := .pointer (some ⟨A.B.sb, 0, none⟩)) rfl
        go_wp2_with fail
        refine BB.out.mono ?_
        rintro ev W3 ⟨rfl, K3, O3⟩
        have S3 := Lib.hid (SB.out W3 K3 O3)
        clear K3 O3 c0 c3
        cases room with
        | false =>
          go_wp2_with fail
          go_returns
          rw [show res = ({ a with rd := rd', sk := sk' }, 4) by rw [U3.out]; rfl]
          exact ⟨rfl, S3.out⟩
        | true =>
          by_cases er0 : er = 0
          · subst er0
            cases whole with
            | false =>
              go_wp2_with fail
              go_returns
              rw [show res = ({ a with rd := rd', sk := sk' }, 0) by rw [U3.out]; rfl]
              exact ⟨rfl, S3.out⟩
            | true =>
              have HD := Lib.hid (rd_head A.ab 4 140 (a.pre A) (a.post A) rfl rd' W3 S3.out.1.head)
              go_wp2_with fail
              refine HD.out.mono ?_
              rintro ev W4 ⟨rfl, B4⟩
              have S4 := Lib.hid (S3.out.1.below B4)
              have O4 := Lib.hid (S3.out.2.below B4)
              clear B4
              go_wp2_with fail
              refine (BE.out _ rd'.last _ S4.out SF.out LE.out).mono ?_
              rintro ev W5 ⟨rfl, S5, O5⟩
              have S5' := Lib.hid S5
              have O5' := Lib.hid (O4.out.trans O5)
              clear S5 O5
              go_wp2_with fail
              go_returns
              rw [show res = Au.begin { a with rd := rd', sk := sk' } rd'.last by rw [U3.out]; rfl]
              exact ⟨rfl, S5'.out, O5'.out⟩
          · have er0' : ((er : Int) == 0) = false := by simpa using er0
            have U5 : Hid (res = ({ a with rd := rd', sk := sk' }, er)) := Lib.hid (by rw [U3.out, if_neg (by simp), if_pos er0])
            clear er0 U3
            go_wp2_with fail
            go_returns
            rw [U5.out]
            exact ⟨rfl, S3.out⟩

end Go.Proofs.YtceddcogpigolaaDoor
