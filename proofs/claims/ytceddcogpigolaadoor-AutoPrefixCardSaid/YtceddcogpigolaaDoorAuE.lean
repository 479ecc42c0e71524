/- auto.Auto.end by contract. -/
import Derived.Test.YtceddcogpigolaaDoorAuN
namespace Go.Proofs.YtceddcogpigolaaDoor
open Go.RowKit Go.Sort

theorem Au.sits.stack {a : Au} {w w' : World} {A : AB} {most : Nat} (h : a.sits w A most) (hA : A.ok) {s' : Sk} (hs : s'.sits w' A.B most) (ho : Only A.B.own w w') : ({ a with sk := s' } : Au).sits w' A most := by
  obtain ⟨cs, hc, hl, hr⟩ := h.evs
  exact ⟨ho.blk h.head hA.ba, ⟨cs, ho.blk hc hA.be, hl, hr⟩, h.evl, hs⟩
theorem Au.sits.put {a a' : Au} {w w' : World} {A : AB} {most : Nat} (h : a.sits w A most) (hA : A.ok) (hd : Blk w' A.ab (a'.cells A) 140) (he : a'.evs = a.evs) (hk : a'.sk = a.sk) (ho : Only (· = A.ab) w w') : a'.sits w' A most := by
  obtain ⟨cs, hc, hl, hr⟩ := h.evs
  refine ⟨hd, ⟨cs, ho.blk hc (Ne.symm hA.ae), hl, by rw [he]; exact hr⟩, by rw [he]; exact h.evl, by rw [hk]; exact h.sk.only ho fun b hb e => hA.ba (e ▸ hb)⟩
theorem AB.own_ab {A : AB} {b : Nat} : b = A.ab → A.own b := Or.inl
theorem AB.own_sk {A : AB} {b : Nat} (h : A.B.own b) : A.own b := Or.inr (Or.inr h)
theorem AB.own_ae {A : AB} {b : Nat} (h : b = A.ab ∨ b = A.eb) : A.own b := h.elim Or.inl fun h => Or.inr (Or.inl h)
theorem endEvs_succ (j : Nat) : ∀ (was : Int), endEvs was (j + 1) = endEvs was j ++ [⟨3, hd0, 0, was - j⟩] := by
  induction j with
  | zero => intro was; simp [endEvs]
  | succ j ih =>
    intro was
    show (⟨3, hd0, 0, was⟩ : Ev) :: endEvs (was - 1) (j + 1) = _
    rw [ih]
    show _ = (⟨3, hd0, 0, was⟩ : Ev) :: endEvs (was - 1) j ++ _
    rw [show was - 1 - (j : Int) = was - ((j + 1 : Nat) : Int) by omega]
    rfl
theorem endEvs_length (j : Nat) : ∀ (was : Int), (endEvs was j).length = j := by
  induction j with
  | zero => intro was; rfl
  | succ j ih => intro was; simp [endEvs, ih]
theorem Sk.ends_op (n : Nat) : ∀ l : List Fr, (Sk.ends n l).1.op ≤ n ∧ ((Sk.ends n l).2.2 = false → 1 ≤ (Sk.ends n l).1.op) ∧ ((Sk.ends n l).2.2 = true → (Sk.ends n l).1.op = 0) := by
  induction n with
  | zero => intro l; simp [Sk.ends]
  | succ n ih =>
    intro l
    unfold Sk.ends
    split
    · simp
    · split
      · simp
      · have := ih (l.set n { l.getD n fr0 with half := false, left := (l.getD n fr0).left - 1 })
        exact ⟨by omega, this.2⟩
theorem EvRows.kind {cs : List Value} {l : List Ev} (h : EvRows cs l) (i : Nat) (hi : i < l.length) (k : Int) (d : Ev) : EvRows (cs.set (i * 6) (.int .i64 k)) (l.set i { l.getD i d with kind := k }) := by
  intro j f hf q hq
  have e0 : l[i]? = some (l.getD i d) := by simp [List.getD, List.getElem?_eq_getElem hi]
  have h0 := h i _ e0 0 (by omega)
  have hlt : i * 6 < cs.length := by
    have : cs[i * 6 + 0]? = some (.int .i64 (l.getD i d).kind) := h0
    exact lt_of_some this
  by_cases hij : i = j
  · subst hij
    rw [List.getElem?_set_self hi] at hf
    cases hf
    rcases Nat.eq_zero_or_pos q with rfl | hq0
    · rw [Nat.add_zero, List.getElem?_set_self hlt]; rfl
    · rw [List.getElem?_set_ne (by omega), h i _ e0 q hq]
      match q, hq0 with
      | q + 1, _ => rfl
  · rw [List.getElem?_set_ne hij] at hf
    rw [List.getElem?_set_ne (by omega)]
    exact h j f hf q hq
/-- What holds at the loop's head after j rounds. -/
def EndLoop (a1 : Au) (evs : List Ev) (was : Int) (K : Nat) (A : AB) (most : Nat) (w : World) (d : Value) (wr : World) : Prop :=
  ∃ j : Nat, j ≤ K ∧ d = .int .i64 (was - j) ∧ ({ a1 with evs := evs ++ endEvs was j } : Au).sits wr A most ∧ Only A.own w wr
theorem Sk.kind_some {s : Sk} (h : 1 ≤ s.op) : s.kind = s.top.kind := by unfold Sk.kind; rw [if_neg (by omega)]
theorem Sk.key_some {s : Sk} (h : 1 ≤ s.op) : s.key = s.top.waits := by unfold Sk.key; rw [if_neg (by omega)]

set_option maxRecDepth 100000 in
set_option maxHeartbeats 8000000 in
theorem au_end (A : AB) (hA : A.ok) (most : Nat) (a : Au) (w : World) (hs : a.sits w A most) (hl : a.evs.length ≤ 60) :
    Calls Tryd.prog 170 #[.pointer (some ⟨A.ab, 0, none⟩)] w fun e w' => e = .returned (.int .i64 a.ends.2) ∧ a.ends.1.sits w' A most ∧ Only A.own w w' := by
  have HA := Lib.hid hA
  have HL := Lib.hid hl
  have HS := Lib.hid hs
  have ae := hA.ae
  have c3 := hs.head.cell 3 (v := .pointer (some ⟨A.B.sb, 0, none⟩)) rfl
  have D := Lib.hid (au_deep A most a w hs)
  have E := Lib.hid (sk_end A.B hA.B most a.sk w hs.sk)
  have OP := Lib.hid (Sk.ends_op a.sk.op a.sk.l)
  have o1 : a.sk.op ≤ 64 := by have := hs.sk.op; have := hs.sk.n64; omega
  have U := Lib.hid (show a.ends = (if (Sk.ends a.sk.op a.sk.l).2.1 = false then ({ a with sk := (Sk.ends a.sk.op a.sk.l).1 }, 7)
    else ({ a with sk := (Sk.ends a.sk.op a.sk.l).1, done := (Sk.ends a.sk.op a.sk.l).2.2, evs := if (Sk.ends a.sk.op a.sk.l).2.2 = false ∧ (Sk.ends a.sk.op a.sk.l).1.top.kind = 5 ∧ (Sk.ends a.sk.op a.sk.l).1.top.waits = false then keyLast (a.evs ++ endEvs (a.sk.op + 1) (a.sk.op + 1 - (Sk.ends a.sk.op a.sk.l).1.op)) else a.evs ++ endEvs (a.sk.op + 1) (a.sk.op + 1 - (Sk.ends a.sk.op a.sk.l).1.op) }, 0)) from rfl)
  clear hA hs hl
  generalize Sk.ends a.sk.op a.sk.l = r at *
  obtain ⟨s', r1, r2⟩ := r
  dsimp only at *
  generalize a.ends = res at *
  have OWN : Hid (∀ b, A.B.own b → A.own b) := Lib.hid fun b hb => .inr (.inr hb)
  cases r1 with
  | false =>
    go_enter Tryd.func170, Tryd.ntmps170
    go_wp2_with fail
    refine D.out.mono ?_
    rintro ev w1 ⟨rfl, rfl⟩
    go_wp2_with fail
    refine E.out.mono ?_
    rintro ev w2 ⟨rfl, K, O⟩
    have K2 := Lib.hid K
    have O2 := Lib.hid O
    clear K O
    go_wp2_with fail
    go_returns
    rw [show res = ({ a with sk := s' }, 7) by rw [U.out]; rfl]
    exact ⟨rfl, HS.out.stack HA.out K2.out O2.out, O2.out.mono fun b _ hb => OWN.out b hb⟩
  | true =>
    go_enter Tryd.func170, Tryd.ntmps170
    go_wp2_with fail
    refine D.out.mono ?_
    rintro ev w1 ⟨rfl, rfl⟩
    go_wp2_with fail
    refine E.out.mono ?_
    rintro ev w2 ⟨rfl, K, O⟩
    have S2 := Lib.hid (HS.out.stack HA.out K O)
    have O2 := Lib.hid (O.mono fun b _ hb => OWN.out b hb)
    clear K O c3
    have U2 : Hid (res = ({ a with sk := s', done := r2, evs := if r2 = false ∧ s'.top.kind = 5 ∧ s'.top.waits = false then keyLast (a.evs ++ endEvs (a.sk.op + 1) (a.sk.op + 1 - s'.op)) else a.evs ++ endEvs (a.sk.op + 1) (a.sk.op + 1 - s'.op) }, 0)) := Lib.hid (by rw [U.out]; rfl)
    clear U
    have p0 : (0 : Int) ≤ (a.sk.op : Int) := by omega
    have p1 : (a.sk.op : Int) ≤ 64 := by omega
    unfold Au.deep
    go_wp2_with fail
    go_loopw [6] (fun d wr => EndLoop { a with sk := s' } a.evs (a.sk.op + 1) (a.sk.op + 1 - s'.op) A most w1 d wr) (fun d _ => (intOf d + 1).toNat)
    case atStart => exact ⟨0, Nat.zero_le _, by simp, by simpa [endEvs] using S2.out, O2.out⟩
    case round =>
      obtain ⟨j, hj, rfl, hS, hO⟩ := hrel
      have SJ := Lib.hid hS
      have OJ := Lib.hid hO
      have DJ := Lib.hid (au_deep A most _ _ hS)
      have hj64 : j ≤ 65 := by omega
      clear hS hO
      have op1 : s'.op ≤ a.sk.op := OP.out.1
      have q0 : (0 : Int) ≤ (s'.op : Int) := by omega
      have q1 : (j : Int) ≤ (a.sk.op : Int) + 1 := by omega
      by_cases hlt : j < a.sk.op + 1 - s'.op
      · have hcmp : (s'.op : Int) + 1 ≤ (a.sk.op : Int) + 1 - (j : Int) := by omega
        have NT : Hid (Calls Tryd.prog 168 #[.pointer (some ⟨A.ab, 0, none⟩), .agg #[.int .i64 3, .int .i64 0, .int .i64 0, .int .u64 0, .int .u8 0, .int .i64 ((a.sk.op : Int) + 1 - (j : Int))]] wr fun en w' => en = .returned (.tuple #[]) ∧
            ({ a with sk := s', evs := a.evs ++ endEvs (a.sk.op + 1) (j + 1) } : Au).sits w' A most ∧ Only (fun b => b = A.ab ∨ b = A.eb) wr w') := by
          refine Lib.hid ?_
          have := au_note A HA.out most _ ⟨3, hd0, 0, (a.sk.op : Int) + 1 - (j : Int)⟩ wr SJ.out (by simp [endEvs_length]; have := HL.out; omega)
          rw [endEvs_succ, ← List.append_assoc]
          exact this
        clear hlt
        go_wp2_with fail
        refine DJ.out.mono ?_
        rintro ev w3 ⟨rfl, rfl⟩
        unfold Au.deep
        go_wp2_with fail
        refine NT.out.mono ?_
        rintro ev w4 ⟨rfl, S4, O4⟩
        have S5 := Lib.hid S4
        have O5 := Lib.hid (OJ.out.trans (O4.mono fun b _ hb => AB.own_ae hb))
        clear S4 O4
        go_wp2_with fail
        go_roundw
        case rel => exact ⟨j + 1, by omega, by go_num, S5.out, O5.out⟩
        case measure => simp [intOf]; omega
      · have hcmp : (a.sk.op : Int) + 1 - (j : Int) < (s'.op : Int) + 1 := by omega
        obtain rfl : j = a.sk.op + 1 - s'.op := by omega
        clear hlt
        go_wp2_with fail
        refine DJ.out.mono ?_
        rintro ev w3 ⟨rfl, rfl⟩
        unfold Au.deep
        cases r2 with
        | true =>
          have f20 := SJ.out.head.thaw 20 none
          have c20 := SJ.out.head.cell 20 (v := .bool a.done) rfl
          go_wp2_with fail
          go_returns
          rw [show res = ({ a with sk := s', done := true, evs := a.evs ++ endEvs (a.sk.op + 1) (a.sk.op + 1 - s'.op) }, 0) by rw [U2.out]; rfl]
          exact ⟨rfl, SJ.out.put HA.out (SJ.out.head.set 20 _) rfl rfl ((Only.refl _ _).put _ _), OJ.out.one _ 20 (.inl rfl) _⟩
        | false =>
          have op2 : 1 ≤ s'.op := OP.out.2.1 rfl
          have KD : Hid (Calls Tryd.prog 211 #[.pointer (some ⟨A.B.sb, 0, none⟩)] w3 fun e w' => e = .returned (.int .i64 s'.top.kind) ∧ ∃ n, w' = w3.drewN n) := Lib.hid (by have := sk_kind A.B most s' w3 SJ.out.sk; rw [Sk.kind_some op2] at this; exact this)
          have KK : Hid (∀ n, Calls Tryd.prog 212 #[.pointer (some ⟨A.B.sb, 0, none⟩)] (w3.drewN n) fun e w' => e = .returned (.bool s'.top.waits) ∧ ∃ k, w' = (w3.drewN n).drewN k) := Lib.hid fun n => by have := sk_key A.B most s' (w3.drewN n) (SJ.out.sk.drewN n); rw [Sk.key_some op2] at this; exact this
          have c3 := SJ.out.head.cell 3 (v := .pointer (some ⟨A.B.sb, 0, none⟩)) rfl
          have f20 := SJ.out.head.thaw 20 none
          have c20 := SJ.out.head.cell 20 (v := .bool a.done) rfl
          have hlen : Hid (∃ m, (a.evs ++ endEvs ((a.sk.op : Int) + 1) (a.sk.op + 1 - s'.op)).length = m + 1) := Lib.hid ⟨a.evs.length + (a.sk.op - s'.op), by simp [endEvs_length]; omega⟩
          have U3 : Hid (res = ({ a with sk := s', done := false, evs := if s'.top.kind = 5 ∧ s'.top.waits = false then keyLast (a.evs ++ endEvs (a.sk.op + 1) (a.sk.op + 1 - s'.op)) else a.evs ++ endEvs (a.sk.op + 1) (a.sk.op + 1 - s'.op) }, 0)) := Lib.hid (by rw [U2.out]; simp)
          clear U2 op2
          generalize a.evs ++ endEvs ((a.sk.op : Int) + 1) (a.sk.op + 1 - s'.op) = L at *
          generalize s'.top.kind = kind at *
          generalize s'.top.waits = wt at *
          rcases Int.decEq kind 5 with hk | rfl
          · have e5 : ((kind : Int) == 5) = false := by simpa using hk
            have U4 : Hid (res = ({ a with sk := s', done := false, evs := L }, 0)) := Lib.hid (by rw [U3.out]; simp [hk])
            clear hk U3
            go_wp2_with fail
            refine KD.out.mono ?_
            rintro ev w4 ⟨rfl, n4, rfl⟩
            go_wp2_with fail
            go_returns
            rw [U4.out]
            exact ⟨rfl, (SJ.out.drewN n4).put HA.out ((SJ.out.head.drewN n4).set 20 _) rfl rfl ((Only.refl _ _).put _ _), (OJ.out.drewN n4).one _ 20 (.inl rfl) _⟩
          · cases wt with
            | true =>
              have U4 : Hid (res = ({ a with sk := s', done := false, evs := L }, 0)) := Lib.hid (by rw [U3.out]; simp)
              clear U3
              go_wp2_with fail
              refine KD.out.mono ?_
              rintro ev w4 ⟨rfl, n4, rfl⟩
              go_wp2_with fail
              refine (KK.out n4).mono ?_
              rintro ev w5 ⟨rfl, n5, rfl⟩
              go_wp2_with fail
              go_returns
              rw [U4.out]
              exact ⟨rfl, (SJ.out.drewN (n4 + n5)).put HA.out ((SJ.out.head.drewN (n4 + n5)).set 20 _) rfl rfl ((Only.refl _ _).put _ _), (OJ.out.drewN (n4 + n5)).one _ 20 (.inl rfl) _⟩
            | false =>
              have U4 : Hid (res = ({ a with sk := s', done := false, evs := keyLast L }, 0)) := Lib.hid (by rw [U3.out]; simp)
              clear U3
              go_wp2_with fail
              refine KD.out.mono ?_
              rintro ev w4 ⟨rfl, n4, rfl⟩
              go_wp2_with fail
              refine (KK.out n4).mono ?_
              rintro ev w5 ⟨rfl, n5, rfl⟩
              go_wp2_with fail
              refine name_world (fun W => ({ a with sk := s', evs := L } : Au).sits W A most ∧ Only A.own w1 W) ⟨SJ.out.drewN (n4 + n5), OJ.out.drewN (n4 + n5)⟩ ?_
              rintro W ⟨hS, hO⟩
              clear c3 f20 c20
              obtain ⟨m, hm⟩ := hlen.out
              have c22 : W.cell? ⟨A.ab, 22, none⟩ = some (.slice (some ⟨A.eb, 0, none⟩) L.length 132) := hS.head.cell 22 rfl
              rw [hm] at c22
              obtain ⟨cs, hcs, hcl, hcr⟩ := hS.evs
              have hm1 : m < L.length := by omega
              obtain ⟨v0, hv0⟩ : ∃ v, cs[m * 6]? = some v := ⟨_, hcr m _ (List.getElem?_eq_getElem hm1) 0 (by omega)⟩
              have ce := hcs.cell (m * 6) hv0
              have fe := hcs.thaw (m * 6) none
              have f20 := hS.head.thaw 20 none
              have c20 := hS.head.cell 20 (v := .bool a.done) rfl
              have i0 : (0 : Int) ≤ (m : Int) := by omega
              have i1 : ((m + 1 : Nat) : Int) - 1 = (m : Int) := by omega
              have i2 : (m : Int) < ((m + 1 : Nat) : Int) := by omega
              have i3 : m ≤ 131 := by have := hS.evl; dsimp only at this; omega
              have HM := Lib.hid hm
              have CS := Lib.hid hcs
              have CL := Lib.hid hcl
              have CR := Lib.hid hcr
              have SW := Lib.hid hS
              have OW := Lib.hid hO
              clear hS hO hm hcs hcl hcr hm1 hv0
              go_still_tail 10, (by kernel_rfl)
              change wpList _ _ _ _ _ W.drew
              go_wp2_with fail
              go_returns
              rw [U4.out]
              have O6 : Only (fun b => b = A.ab ∨ b = A.eb) W (((W.setCell ⟨A.eb, m * 6, none⟩ (.int .i64 4)).drew).setCell ⟨A.ab, 20, none⟩ (.bool false)) := (((Only.refl _ W).one A.eb _ (.inr rfl) _).drew).one A.ab 20 (.inl rfl) _
              refine ⟨rfl, ⟨?_, ⟨cs.set (m * 6) (.int .i64 4), ((CS.out.set _ _).drew).far (a := ⟨A.ab, 20, none⟩) ae _, by simpa using CL.out, ?_⟩, ?_, SW.out.sk.only O6 fun b hb h => h.elim (fun e => HA.out.ba (e ▸ hb)) (fun e => HA.out.be (e ▸ hb))⟩, OW.out.trans (O6.mono fun b _ hb => AB.own_ae hb)⟩
              · refine (((SW.out.head.far (a := ⟨A.eb, m * 6, none⟩) (Ne.symm ae) (.int .i64 4)).drew).set 20 (.bool false)).cast ?_
                simp [Au.cells, keyLast, evsV]
              · have e := CR.out.kind m (by have := HM.out; omega) 4 ⟨0, hd0, 0, 0⟩
                unfold keyLast
                rw [HM.out]
                exact e
              · have := SW.out.evl
                simpa [keyLast] using this

end Go.Proofs.YtceddcogpigolaaDoor
