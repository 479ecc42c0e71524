/- frame.Stack.Open by contract. -/
import Derived.Test.YtceddcogpigolaaDoorFr
namespace Go.Proofs.YtceddcogpigolaaDoor
open Go.RowKit Go.Sort

theorem sk_open_full (B : FB) (most : Nat) (s : Sk) (kind items : Int) (w : World) (hs : s.sits w B most) (hf : s.op = B.n) :
    Calls Tryd.prog 216 #[.pointer (some ⟨B.sb, 0, none⟩), .int .i64 kind, .int .u64 items] w fun e w' => e = .returned (.bool false) ∧ ∃ n, w' = w.drewN n := by
  have c0 := hs.head.cell 0 (v := .slice (some ⟨B.fb, 0, none⟩) B.n B.n) rfl
  have c1 := hs.head.cell 1 (v := .int .i64 s.op) rfl
  rw [hf] at c1
  clear hs hf
  go_enter Tryd.func216, Tryd.ntmps216
  go_wp2_with fail
  go_quiet (fail)
  go_wp2_with fail
  go_returns
  exact ⟨rfl, _, rfl⟩
theorem sk_open_none (B : FB) (most : Nat) (s : Sk) (kind items : Int) (w : World) (hs : s.sits w B most) (hf : s.op ≠ B.n) (h6 : kind ≠ 6) (h : (kind ≠ 4 ∧ kind ≠ 5) ∨ items = 0) :
    Calls Tryd.prog 216 #[.pointer (some ⟨B.sb, 0, none⟩), .int .i64 kind, .int .u64 items] w fun e w' => e = .returned (.bool false) ∧ ∃ n, w' = w.drewN n := by
  have c0 := hs.head.cell 0 (v := .slice (some ⟨B.fb, 0, none⟩) B.n B.n) rfl
  have c1 := hs.head.cell 1 (v := .int .i64 s.op) rfl
  have e0 : ((s.op : Int) == (B.n : Int)) = false := by simp; omega
  have e6 : ((kind : Int) == 6) = false := by simpa using h6
  clear hs hf h6
  generalize s.op = op at *
  have key : (((kind : Int) == 4) = false ∧ ((kind : Int) == 5) = false) ∨ (items = 0 ∧ (kind = 4 ∨ kind = 5)) := by
    by_cases k4 : kind = 4
    · exact .inr ⟨h.resolve_left (by omega), .inl k4⟩
    · by_cases k5 : kind = 5
      · exact .inr ⟨h.resolve_left (by omega), .inr k5⟩
      · exact .inl ⟨by simpa using k4, by simpa using k5⟩
  clear h
  rcases key with ⟨e4, e5⟩ | ⟨rfl, rfl | rfl⟩
  · have e4' : ((kind : Int) != 4) = true := by simp [bne, e4]
    have e5' : ((kind : Int) != 5) = true := by simp [bne, e5]
    go_enter Tryd.func216, Tryd.ntmps216
    go_wp2_with fail
    go_quiet (fail)
    go_wp2_with fail
    go_returns
    exact ⟨rfl, _, rfl⟩
  all_goals
    go_enter Tryd.func216, Tryd.ntmps216
    go_wp2_with fail
    go_quiet (fail)
    go_wp2_with fail
    go_returns
    exact ⟨rfl, _, rfl⟩

set_option maxRecDepth 100000 in
set_option maxHeartbeats 8000000 in
theorem sk_open_some (B : FB) (hB : B.ok) (most : Nat) (s : Sk) (kind items m : Int) (w : World) (hs : s.sits w B most) (hf : s.op ≠ B.n) (hk : kind = 6 ∧ m = 1 ∨ (kind = 4 ∨ kind = 5) ∧ 1 ≤ items ∧ items < 18446744073709551616 ∧ m = items) :
    Calls Tryd.prog 216 #[.pointer (some ⟨B.sb, 0, none⟩), .int .i64 kind, .int .u64 items] w fun e w' => e = .returned (.bool true) ∧
      (⟨s.l.set s.op ⟨(s.l.getD s.op fr0).ky.reset, kind, m, false⟩, s.op + 1⟩ : Sk).sits w' B most ∧ Only B.own w w' := by
  have c0 := hs.head.cell 0 (v := .slice (some ⟨B.fb, 0, none⟩) B.n B.n) rfl
  have c1 := hs.head.cell 1 (v := .int .i64 s.op) rfl
  have e0 : ((s.op : Int) == (B.n : Int)) = false := by simp; omega
  have hop : s.op < B.n := by have := hs.op; omega
  have f1 := hs.head.thaw 1 none
  have hn := hs.n64
  have hlt : s.op < s.l.length := by rw [hs.len]; exact hop
  have hrow := hs.row s.op (s.l.getD s.op fr0) (by simp [List.getD, List.getElem?_eq_getElem hlt])
  have hky := Lib.hid (hs.ky s.op (s.l.getD s.op fr0) (by simp [List.getD, List.getElem?_eq_getElem hlt]))
  obtain ⟨cs, hcs, hrs⟩ := hs.rows
  have CS := Lib.hid hcs
  have RS := Lib.hid hrs
  have HS := Lib.hid hs
  have HB := Lib.hid hB
  have LT := Lib.hid hlt
  clear hs hB hf hcs hrs hlt
  have sf := HB.out.sf
  have o0 : (0 : Int) ≤ (s.op : Int) := by omega
  have o1 : (s.op : Int) < 64 := by omega
  have key : (kind = 6 ∧ m = 1) ∨ ((kind = 4 ∨ kind = 5) ∧ ((items : Int) == 0) = false ∧ 1 ≤ items ∧ items < 18446744073709551616 ∧ m = items) := by
    rcases hk with h | ⟨h, h1, h2, h3⟩
    · exact .inl h
    · exact .inr ⟨h, by simp; omega, h1, h2, h3⟩
  have M1 : Hid (1 ≤ m ∧ m < 18446744073709551616) := Lib.hid (by omega)
  clear hk
  rcases key with ⟨rfl, rfl⟩ | ⟨rfl | rfl, i0, -, -, rfl⟩
  all_goals
    go_enter Tryd.func216, Tryd.ntmps216
    go_wp2_with fail
    go_quiet (fail)
    go_wp2_with fail
    refine (sk_topH B.sb B.fb B.n (s.op + 1) _ ((HS.out.head.drewN nq).set 1 _) (by omega) hn).mono ?_
    rintro ev w1 ⟨rfl, n1, rfl⟩
    rw [show topV (s.op + 1) B.fb = .pointer (some ⟨B.fb, s.op * 4, none⟩) from rfl]
    have g1 := CS.out.thaw (s.op * 4 + 1) none
    have g2 := CS.out.thaw (s.op * 4 + 2) none
    have g3 := CS.out.thaw (s.op * 4 + 3) none
    obtain ⟨r0, r1, r2, r3⟩ := hrow
    go_wp2_with fail
    refine name_calls (fun W => Blk W B.sb [.slice (some ⟨B.fb, 0, none⟩) B.n B.n, .int .i64 ((s.op : Int) + 1)] 203 ∧
        Blk W B.fb (((cs.set (s.op * 4 + 1) (.int .i64 _)).set (s.op * 4 + 2) (.int .u64 _)).set (s.op * 4 + 3) (.bool false)) 207 ∧ Only (fun b => b = B.sb ∨ b = B.fb) w W)
      ⟨(((((HS.out.head.drewN nq).set 1 _).drewN n1).far (a := ⟨B.fb, _, none⟩) (Ne.symm sf) _).far (a := ⟨B.fb, _, none⟩) (Ne.symm sf) _).far (a := ⟨B.fb, _, none⟩) (Ne.symm sf) _,
       (((((CS.out.drewN nq).far (a := ⟨B.sb, 1, none⟩) sf _).drewN n1).set _ _).set _ _).set _ _,
       (((((((Only.refl _ _).drewN nq).one B.sb 1 (.inl rfl) _).drewN n1).one B.fb _ (.inr rfl) _).one B.fb _ (.inr rfl) _).one B.fb _ (.inr rfl) _)⟩ ?_
    rintro W ⟨D3, C3, O3⟩
    have D3' := Lib.hid D3
    have C3' := Lib.hid C3
    have O3' := Lib.hid O3
    clear D3 C3 O3 c0 c1 f1 g1 g2 g3 r0 r1 r2 r3
    refine (ky_reset _ _ _ _ _ _ (hky.out.only O3'.out (HB.out.ne hop (.inl rfl)) (HB.out.ne hop (.inr (.inl rfl))) (HB.out.ne hop (.inr (.inr rfl))))).mono ?_
    rintro ev W2 ⟨rfl, K4, O4⟩
    have K4' := Lib.hid K4
    have O4' := Lib.hid O4
    clear K4 O4
    go_wp2_with fail
    go_returns
    have ks : B.of s.op (B.k s.op) := .inl rfl
    have nsb : ¬ (B.sb = B.k s.op) := fun e => HB.out.s3 _ hop (e ▸ ks)
    have nfb : ¬ (B.fb = B.k s.op) := fun e => HB.out.f3 _ hop (e ▸ ks)
    refine ⟨rfl, HS.out.renew HB.out s.op hop _ (s.op + 1) (O4'.out.blk D3'.out nsb) _ (O4'.out.blk C3'.out nfb) (RS.out.put3 s.op LT.out ⟨_, _, _, false⟩) K4'.out ?_ (by omega) ?_, ?_⟩
    · exact (O3'.out.mono (fun _ _ h => h.elim .inl (fun h => .inr (.inl h)))).trans (O4'.out.mono (fun _ _ h => .inr (.inr (h ▸ ks))))
    · intro j f hj hf
      by_cases hjo : s.op = j
      · subst hjo
        rw [List.getElem?_set_self LT.out] at hf
        cases hf
        exact M1.out
      · rw [List.getElem?_set_ne hjo] at hf
        exact HS.out.left j f (by omega) hf
    · exact (O3'.out.mono (fun _ _ h => h.elim .inl (fun h => .inr (.inl h)))).trans (O4'.out.mono (fun _ _ h => .inr (.inr ⟨s.op, hop, h ▸ ks⟩)))

theorem sk_opens (B : FB) (hB : B.ok) (most : Nat) (s : Sk) (kind items : Int) (h0 : 0 ≤ items) (h1 : items < 18446744073709551616) (w : World) (hs : s.sits w B most) :
    Calls Tryd.prog 216 #[.pointer (some ⟨B.sb, 0, none⟩), .int .i64 kind, .int .u64 items] w fun e w' => e = .returned (.bool (s.opens kind items).2) ∧ (s.opens kind items).1.sits w' B most ∧ Only B.own w w' := by
  have quiet : ∀ w', (∃ n, w' = w.drewN n) → s.sits w' B most ∧ Only B.own w w' := by
    rintro _ ⟨n, rfl⟩
    exact ⟨hs.drewN n, (Only.refl _ _).drewN n⟩
  by_cases hf : s.op = B.n
  · have e : s.opens kind items = (s, false) := by unfold Sk.opens; rw [if_pos (by rw [hs.len]; exact hf)]
    rw [e]
    exact (sk_open_full B most s kind items w hs hf).mono fun _ _ ⟨a, b⟩ => ⟨a, quiet _ b⟩
  · have e : s.opens kind items = match openN kind items with
      | none => (s, false)
      | some n => (⟨s.l.set s.op ⟨(s.l.getD s.op fr0).ky.reset, kind, n, false⟩, s.op + 1⟩, true) := by unfold Sk.opens; rw [if_neg (by rw [hs.len]; exact hf)]; rfl
    rw [e]
    by_cases h6 : kind = 6
    · rw [show openN kind items = some 1 by unfold openN; rw [if_pos h6]]
      exact sk_open_some B hB most s kind items 1 w hs hf (.inl ⟨h6, rfl⟩)
    · by_cases h45 : kind = 4 ∨ kind = 5
      · by_cases hi : items = 0
        · rw [show openN kind items = none by unfold openN; rw [if_neg h6, if_pos h45, if_pos hi]]
          exact (sk_open_none B most s kind items w hs hf h6 (.inr hi)).mono fun _ _ ⟨a, b⟩ => ⟨a, quiet _ b⟩
        · rw [show openN kind items = some items by unfold openN; rw [if_neg h6, if_pos h45, if_neg hi]]
          exact sk_open_some B hB most s kind items items w hs hf (.inr ⟨h45, by omega, h1, rfl⟩)
      · rw [show openN kind items = none by unfold openN; rw [if_neg h6, if_neg h45]]
        exact (sk_open_none B most s kind items w hs hf h6 (.inl (by omega))).mono fun _ _ ⟨a, b⟩ => ⟨a, quiet _ b⟩

end Go.Proofs.YtceddcogpigolaaDoor
