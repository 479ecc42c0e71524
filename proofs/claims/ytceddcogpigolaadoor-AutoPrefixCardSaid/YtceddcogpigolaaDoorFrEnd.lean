/- frame.Stack.End by contract. -/
import Derived.Test.YtceddcogpigolaaDoorFr
namespace Go.Proofs.YtceddcogpigolaaDoor
open Go.RowKit Go.Sort

def topM : Value → Nat
  | .pointer (some a) => a.off + 1
  | _ => 0
theorem topM_topV (m fb : Nat) : topM (topV m fb) = if m = 0 then 0 else (m - 1) * 4 + 1 := by
  by_cases h : m = 0
  · subst h; rfl
  · unfold topV
    rw [if_neg h, if_neg h]
    rfl
theorem Sk.ends_wait {n : Nat} {l : List Fr} {f : Fr} (h : l[n]? = some f) (hw : f.waits = true) : Sk.ends (n + 1) l = (⟨l.set n { f with half := true, ky := f.ky.ends.1 }, n + 1⟩, f.ky.ends.2, false) := by
  have e : l.getD n fr0 = f := by simp [List.getD, h]
  unfold Sk.ends
  rw [e, if_pos hw]
theorem Sk.ends_more {n : Nat} {l : List Fr} {f : Fr} (h : l[n]? = some f) (hw : f.waits = false) (hl : 0 < f.left - 1) : Sk.ends (n + 1) l = (⟨l.set n { f with half := false, left := f.left - 1 }, n + 1⟩, true, false) := by
  have e : l.getD n fr0 = f := by simp [List.getD, h]
  unfold Sk.ends
  rw [e, hw, if_neg (by simp), if_pos hl]
theorem Sk.ends_next {n : Nat} {l : List Fr} {f : Fr} (h : l[n]? = some f) (hw : f.waits = false) (hl : ¬ 0 < f.left - 1) : Sk.ends (n + 1) l = Sk.ends n (l.set n { f with half := false, left := f.left - 1 }) := by
  have e : l.getD n fr0 = f := by simp [List.getD, h]
  rw [Sk.ends, e, hw, if_neg (by simp), if_neg hl]
/-- Slot, blocks and what is left to do, at the loop's head. -/
def EndRel (s : Sk) (B : FB) (most : Nat) (w : World) (f : Value) (wr : World) : Prop :=
  ∃ (m : Nat) (l : List Fr), f = topV m B.fb ∧ Sk.ends m l = Sk.ends s.op s.l ∧ (⟨l, m⟩ : Sk).sits wr B most ∧ Only B.own w wr

set_option maxRecDepth 100000 in
set_option maxHeartbeats 8000000 in
theorem sk_end (B : FB) (hB : B.ok) (most : Nat) (s : Sk) (w : World) (hs : s.sits w B most) :
    Calls Tryd.prog 210 #[.pointer (some ⟨B.sb, 0, none⟩)] w fun e w' => e = .returned (.tuple #[.bool (Sk.ends s.op s.l).2.1, .bool (Sk.ends s.op s.l).2.2]) ∧ (Sk.ends s.op s.l).1.sits w' B most ∧ Only B.own w w' := by
  have HB := Lib.hid hB
  have HS := Lib.hid hs
  have T0 := Lib.hid (sk_top B most s w hs)
  have sf := hB.sf
  have hn := hs.n64
  clear hs hB
  go_enter Tryd.func210, Tryd.ntmps210
  go_wp2_with fail
  refine T0.out.mono ?_
  rintro ev w0 ⟨rfl, n0, rfl⟩
  go_wp2_with fail
  go_loopw [2, 4] (fun r f wr => r = .bool true ∧ EndRel s B most w f wr) (fun _ f _ => topM f)
  case atStart => exact ⟨rfl, s.op, s.l, rfl, rfl, HS.out.drewN _, (Only.refl _ _).drewN _⟩
  case round =>
    obtain ⟨rfl, m, l, rfl, hE, hS, hO⟩ := hrel
    have HE := Lib.hid hE
    have HO := Lib.hid hO
    clear hE hO T0
    match m, hS, HE with
    | 0, hS, HE =>
      have HS1 := Lib.hid hS
      clear hS
      rw [show topV 0 B.fb = .pointer none from rfl]
      go_wp2_with fail
      go_returns
      rw [← HE.out]
      exact ⟨rfl, HS1.out, HO.out⟩
    | p + 1, hS, HE =>
      have hpn : p < B.n := by have := hS.op; dsimp only at this; omega
      obtain ⟨f, hf⟩ : ∃ f, l[p]? = some f := ⟨_, List.getElem?_eq_getElem (by rw [show l.length = B.n from hS.len]; exact hpn)⟩
      obtain ⟨r0, r1, r2, r3⟩ := hS.row p f hf
      obtain ⟨l1, l2⟩ := hS.left p f (Nat.lt_succ_self p) hf
      have g2 := hS.thaw (p * 4 + 2)
      have g3 := hS.thaw (p * 4 + 3)
      have HS1 := Lib.hid hS
      have HF := Lib.hid hf
      have KY := Lib.hid (hS.ky p f hf)
      have hop1 : p + 1 ≤ B.n := hpn
      clear hS hf
      rw [show topV (p + 1) B.fb = .pointer (some ⟨B.fb, p * 4, none⟩) from rfl]
      have hLT : Hid (p < l.length) := Lib.hid (List.getElem?_eq_some_iff.1 HF.out).1
      by_cases hw : f.waits = true
      · have W : Hid (Calls Tryd.prog 206 #[.pointer (some ⟨B.fb, p * 4, none⟩)] wr fun e w' => e = .returned (.bool true) ∧ w' = wr) := Lib.hid (by have := fr_waits B.fb (p * 4) f.kind f.half wr r1 r3; unfold Fr.waits at hw; rw [hw] at this; exact this)
        have U := Lib.hid (HE.out.symm.trans (Sk.ends_wait HF.out hw))
        clear hw
        obtain ⟨cs, hcs, hrs⟩ := HS1.out.rows
        have CS := Lib.hid hcs
        have RS := Lib.hid hrs
        clear hcs hrs
        have NX : Hid (∀ w3, f.ky.ends.1.sits w3 (B.k p) (B.x p) (B.y p) most → Only (of3 (B.k p) (B.x p) (B.y p)) (wr.setCell ⟨B.fb, p * 4 + 3, none⟩ (.bool true)) w3 → (Sk.ends s.op s.l).1.sits w3 B most ∧ Only B.own w w3) := by
          refine Lib.hid fun w3 K O => ?_
          rw [U.out]
          have O1 : Only (fun b => b = B.fb) wr (wr.setCell ⟨B.fb, p * 4 + 3, none⟩ (.bool true)) := (Only.refl (fun b => b = B.fb) wr).one B.fb _ rfl _
          refine ⟨HS1.out.renew HB.out p hpn _ (p + 1) (O.blk (HS1.out.head.far (a := ⟨B.fb, _, none⟩) (Ne.symm HB.out.sf) _) fun e => HB.out.s3 p hpn e) _ (O.blk (CS.out.set _ _) fun e => HB.out.f3 p hpn e) (RS.out.putH p HF.out ⟨f.ky.ends.1, f.kind, f.left, true⟩ rfl rfl) K ((O1.mono fun _ _ h => Or.inr (Or.inl h)).trans (O.mono fun _ _ h => Or.inr (Or.inr h))) hop1 ?_,
            HO.out.trans ((O1.mono fun _ _ h => Or.inr (Or.inl h)).trans (O.mono fun _ _ h => Or.inr (Or.inr ⟨p, hpn, h⟩)))⟩
          intro j g hj hg
          rw [List.getElem?_set] at hg
          split at hg
          · rename_i e
            subst e
            split at hg
            · cases hg; exact HS1.out.left p f (Nat.lt_succ_self p) HF.out
            · cases hg
          · exact HS1.out.left j g hj hg
        have KY2 : Hid (f.ky.sits (wr.setCell ⟨B.fb, p * 4 + 3, none⟩ (.bool true)) (B.k p) (B.x p) (B.y p) most) :=
          Lib.hid (KY.out.only ((Only.refl (· = B.fb) wr).one B.fb _ rfl _) (fun e => HB.out.f3 p hpn (e ▸ .inl rfl)) (fun e => HB.out.f3 p hpn (e ▸ .inr (.inl rfl))) (fun e => HB.out.f3 p hpn (e ▸ .inr (.inr rfl))))
        have U2 : Hid ((Sk.ends s.op s.l).2.1 = f.ky.ends.2 ∧ (Sk.ends s.op s.l).2.2 = false) := Lib.hid (by rw [U.out]; exact ⟨rfl, rfl⟩)
        have KE := Lib.hid (fun W h => ky_end (B.k p) (B.x p) (B.y p) most f.ky W h)
        generalize f.ky.ends = kb at NX U2 KE
        obtain ⟨kb1, kb2⟩ := kb
        dsimp only at NX U2 KE
        generalize hR : Sk.ends s.op s.l = res at NX U2
        have HR := Lib.hid hR
        clear hR
        obtain ⟨res0, res1, res2⟩ := res
        dsimp only at NX U2
        obtain ⟨u1, u2⟩ := U2.out
        subst u1 u2
        go_wp2_with fail
        refine W.out.mono ?_
        rintro ev w1 ⟨rfl, rfl⟩
        go_wp2_with fail
        refine (KE.out _ KY2.out).mono ?_
        rintro ev w3 ⟨rfl, K, O⟩
        have N3 := Lib.hid (NX.out _ K O)
        clear K O
        cases res1 with
        | true =>
          go_wp2_with fail
          go_returns
          rw [HR.out]
          exact ⟨rfl, N3.out⟩
        | false =>
          go_wp2_with fail
          go_returns
          rw [HR.out]
          exact ⟨rfl, N3.out⟩
      · have hw' : f.waits = false := by simpa using hw
        have W : Hid (Calls Tryd.prog 206 #[.pointer (some ⟨B.fb, p * 4, none⟩)] wr fun e w' => e = .returned (.bool false) ∧ w' = wr) := Lib.hid (by have := fr_waits B.fb (p * 4) f.kind f.half wr r1 r3; unfold Fr.waits at hw'; rw [hw'] at this; exact this)
        have HW := Lib.hid hw'
        clear hw hw'
        obtain ⟨cs, hcs, hrs⟩ := HS1.out.rows
        have CS := Lib.hid hcs
        have RS := Lib.hid hrs
        clear hcs hrs
        have HD := Lib.hid HS1.out.head
        have d1 := HD.out.cell 1 (v := .int .i64 ((p + 1 : Nat) : Int)) rfl
        have df := HD.out.thaw 1 none
        have p0 : (0 : Int) ≤ (p : Int) := by omega
        have p64 : (p : Int) < 64 := by omega
        have NX : Hid (∀ (w3 : World) (op' : Nat), op' ≤ p + 1 → (op' = p + 1 → 1 ≤ f.left - 1) → Blk w3 B.sb [.slice (some ⟨B.fb, 0, none⟩) B.n B.n, .int .i64 op'] 203 → Blk w3 B.fb ((cs.set (p * 4 + 3) (.bool false)).set (p * 4 + 2) (.int .u64 (f.left - 1))) 207 → Only (fun b => b = B.sb ∨ b = B.fb) wr w3 →
            (⟨l.set p { f with half := false, left := f.left - 1 }, op'⟩ : Sk).sits w3 B most ∧ Only B.own w w3) := by
          refine Lib.hid fun w3 op' ho hl hd hc O => ?_
          refine ⟨HS1.out.renew HB.out p hpn _ op' hd _ hc (RS.out.putL p HF.out ⟨f.ky, f.kind, f.left - 1, false⟩ rfl) (KY.out.only O (HB.out.ne hpn (.inl rfl)) (HB.out.ne hpn (.inr (.inl rfl))) (HB.out.ne hpn (.inr (.inr rfl)))) (O.mono fun _ _ h => h.elim Or.inl fun h => Or.inr (Or.inl h)) (by omega) ?_,
            HO.out.trans (O.mono fun _ _ h => h.elim Or.inl fun h => Or.inr (Or.inl h))⟩
          intro j g hj hg
          rw [List.getElem?_set] at hg
          split at hg
          · rename_i e
            subst e
            split at hg
            · cases hg; exact ⟨hl (by omega), by show f.left - 1 < _; omega⟩
            · cases hg
          · exact HS1.out.left j g (by show j < p + 1; omega) hg
        by_cases hl : 0 < f.left - 1
        · have U := Lib.hid (HE.out.symm.trans (Sk.ends_more HF.out HW.out hl))
          go_wp2_with fail
          refine W.out.mono ?_
          rintro ev w1 ⟨rfl, rfl⟩
          go_wp2_with fail
          go_returns
          rw [U.out]
          exact ⟨rfl, NX.out _ (p + 1) (by omega) (fun _ => hl) ((HD.out.far (a := ⟨B.fb, _, none⟩) (Ne.symm sf) _).far (a := ⟨B.fb, _, none⟩) (Ne.symm sf) _) ((CS.out.set _ _).set _ _) (((Only.refl _ _).one B.fb _ (.inr rfl) _).one B.fb _ (.inr rfl) _)⟩
        · have U := Lib.hid (HE.out.symm.trans (Sk.ends_next HF.out HW.out hl))
          have hl' : f.left - 1 ≤ 0 := by omega
          clear hl
          go_wp2_with fail
          refine W.out.mono ?_
          rintro ev w1 ⟨rfl, rfl⟩
          go_wp2_with fail
          have ND := Lib.hid (((HD.out.far (a := ⟨B.fb, p * 4 + 3, none⟩) (Ne.symm sf) (.bool false)).far (a := ⟨B.fb, p * 4 + 2, none⟩) (Ne.symm sf) (.int .u64 (f.left - 1))).set 1 (.int .i64 (p : Int)))
          refine (sk_topH B.sb B.fb B.n p _ ND.out (by omega) hn).mono ?_
          rintro ev w2 ⟨rfl, n2, rfl⟩
          have N3 := Lib.hid (NX.out _ p (by omega) (fun e => by omega) (ND.out.drewN n2) (((((CS.out.set (p * 4 + 3) (.bool false)).set (p * 4 + 2) (.int .u64 (f.left - 1))).far (a := ⟨B.sb, 1, none⟩) sf (.int .i64 (p : Int)))).drewN n2) (((((Only.refl _ _).one B.fb (p * 4 + 3) (.inr rfl) (.bool false)).one B.fb (p * 4 + 2) (.inr rfl) (.int .u64 (f.left - 1))).one B.sb 1 (.inl rfl) (.int .i64 (p : Int))).drewN n2))
          go_wp2_with fail
          go_roundw
          case rel => exact ⟨rfl, p, _, rfl, U.out.symm, N3.out.1, N3.out.2⟩
          case measure =>
            rw [topM_topV]
            show (if p = 0 then 0 else (p - 1) * 4 + 1) < p * 4 + 1
            split <;> omega

end Go.Proofs.YtceddcogpigolaaDoor
