/- auto: look, Step (without a function to tell), New, Whole, by contracts. -/
import Derived.Test.YtceddcogpigolaaDoorAuH
import Derived.Test.YtceddcogpigolaaDoorAuT
import Derived.Test.YtceddcogpigolaaDoorLim
namespace Go.Proofs.YtceddcogpigolaaDoor
open Go.RowKit Go.Sort

theorem utfBegin_fit (c : Int) : -1 ≤ (utfBegin c).1 ∧ (utfBegin c).1 ≤ 3 := by
  unfold utfBegin
  (repeat' split) <;> dsimp only <;> omega
theorem Wk.step_fit {s : Wk} (h : s.fit) (c : Int) (hb : s.bad = false → 0 ≤ s.left) : (s.step c).fit ∧ ((s.step c).bad = false → 0 ≤ (s.step c).left) := by
  have hu := utfBegin_fit c
  unfold Wk.step Wk.fit at *
  split
  · exact ⟨h, hb⟩
  · rename_i hbad
    have := hb (by simpa using hbad)
    split
    · exact ⟨⟨hu.1, hu.2⟩, fun e => by simpa using e⟩
    · split
      · exact ⟨h, fun e => absurd e (by simp)⟩
      · exact ⟨⟨by dsimp only; omega, by dsimp only; omega⟩, fun _ => by dsimp only; omega⟩
/-- What stays true of an automaton that was handed bytes. -/
structure Au.good (a : Au) : Prop where
  rd : a.rd.fit
  last : a.rd.last.fit
  wk : a.wk.fit
  wkb : a.wk.bad = false → 0 ≤ a.wk.left
  left0 : 0 ≤ a.left
  left1 : a.left < 18446744073709551616
theorem Au.good.same {a b : Au} (h : a.good) (h1 : b.rd = a.rd) (h2 : b.wk = a.wk) (h3 : b.left = a.left) : b.good :=
  ⟨by rw [h1]; exact h.rd, by rw [h1]; exact h.last, by rw [h2]; exact h.wk, by rw [h2]; exact h.wkb, by rw [h3]; exact h.left0, by rw [h3]; exact h.left1⟩
theorem Au.ends_good {a : Au} (h : a.good) : a.ends.1.good := by
  unfold Au.ends
  dsimp only
  split <;> exact h.same rfl rfl rfl
theorem wk0_fit : wk0.fit := by unfold wk0 Wk.fit; exact ⟨by decide, by decide⟩
theorem Au.begin_good {a : Au} (h : a.good) (x : Hd) (hx : x.fit) : (a.begin x).1.good := by
  have e1 : ∀ (k : Sk) (ev : List Ev), ({ a with evs := ev, text := decide (x.mj = 3), left := x.arg, wk := wk0 } : Au).good := fun _ _ => ⟨h.rd, h.last, wk0_fit, fun _ => by simp [wk0], hx.2.2.2.1, hx.2.2.2.2⟩
  unfold Au.begin
  dsimp only
  split
  · split
    · exact e1 a.sk _
    · exact Au.ends_good (e1 a.sk _)
  · split
    · split
      · exact h.same rfl rfl rfl
      · exact Au.ends_good (h.same rfl rfl rfl)
    · exact Au.ends_good (h.same rfl rfl rfl)
theorem Au.inHead_good {a : Au} (h : a.good) (most : Nat) (c : Int) (h0 : 0 ≤ c) (h1 : c < 256) : (a.inHead most c).1.good := by
  have hs := Rd.step_fit h.rd h.last c h0 h1
  have e1 : ∀ k : Sk, ({ a with rd := (a.rd.step c).1, sk := k } : Au).good := fun _ => ⟨hs.1, hs.2, h.wk, h.wkb, h.left0, h.left1⟩
  unfold Au.inHead
  dsimp only
  split
  · exact e1 a.sk
  · split
    · exact e1 a.sk
    · split
      · exact e1 _
      · split
        · exact e1 _
        · split
          · exact Au.begin_good (e1 _) _ hs.2
          · exact e1 _
theorem Au.inText_good {a : Au} (h : a.good) (most : Nat) (c : Int) (hl : 1 ≤ a.left) : (a.inText most c).1.good := by
  have hs := Wk.step_fit h.wk c h.wkb
  have e1 : ∀ (k : Sk) (ev : List Ev), ({ a with sk := k, left := a.left - 1, wk := a.wk.step c, evs := ev } : Au).good := fun _ _ => ⟨h.rd, h.last, hs.1, hs.2, by dsimp only; omega, by have := h.left1; dsimp only; omega⟩
  have e2 : ∀ (k : Sk) (ev : List Ev), ({ a with sk := k, left := a.left - 1, evs := ev } : Au).good := fun _ _ => ⟨h.rd, h.last, h.wk, h.wkb, by dsimp only; omega, by have := h.left1; dsimp only; omega⟩
  unfold Au.inText
  dsimp only
  repeat' split
  all_goals first | exact e1 _ _ | exact e2 _ _ | exact Au.ends_good (e1 _ _) | exact Au.ends_good (e2 _ _) | exact h.same rfl rfl rfl
theorem Au.look_good {a : Au} (h : a.good) (most : Nat) (c : Int) (h0 : 0 ≤ c) (h1 : c < 256) : (a.look most c).1.good := by
  unfold Au.look
  split
  · exact h
  · split
    · exact h
    · split
      · exact Au.inText_good h most c (by omega)
      · exact Au.inHead_good h most c h0 h1

theorem Au.cell_size {a : Au} {w : World} {A : AB} {most : Nat} (h : a.sits w A most) : w.cell? ⟨A.ab, 2, none⟩ = some (.int .i64 a.lim.size) := h.head.cell 2 rfl
set_option maxRecDepth 100000 in
set_option maxHeartbeats 8000000 in
theorem au_look (A : AB) (hA : A.ok) (most : Nat) (a : Au) (hf : a.good) (c : Int) (h0 : 0 ≤ c) (h1 : c < 256) (he : a.evs.length ≤ 59) (w : World) (hs : a.sits w A most) (hd : Dbl w) :
    Calls Tryd.prog 83 #[.pointer (some ⟨A.ab, 0, none⟩), .int .u8 c] w fun e w' => e = .returned (.int .i64 (a.look most c).2) ∧ (a.look most c).1.sits w' A most ∧ Only A.own w w' := by
  have HS := Lib.hid hs
  have c2 := hs.head.cell 2 (v := .int .i64 a.lim.size) rfl
  have c18 := hs.head.cell 18 (v := .int .u64 a.left) rfl
  have c19 := hs.head.cell 19 (v := .int .i64 a.many) rfl
  have c20 := hs.head.cell 20 (v := .bool a.done) rfl
  have TX : Hid (∀ n, 1 ≤ a.left → Calls Tryd.prog 123 #[.pointer (some ⟨A.ab, 0, none⟩), .int .u8 c] (w.drewN n) fun e w' => e = .returned (.int .i64 (a.inText most c).2) ∧ (a.inText most c).1.sits w' A most ∧ Only A.own w w') :=
    Lib.hid fun n hl => (au_inText A hA most a c h0 h1 hf.wk hl hf.left1 he _ (hs.drewN n)).mono fun _ _ ⟨x, y, z⟩ => ⟨x, y, ((Only.refl _ w).drewN n).trans z⟩
  have HD : Hid (∀ n, Calls Tryd.prog 124 #[.pointer (some ⟨A.ab, 0, none⟩), .int .u8 c] (w.drewN n) fun e w' => e = .returned (.int .i64 (a.inHead most c).2) ∧ (a.inHead most c).1.sits w' A most ∧ Only A.own w w') :=
    Lib.hid fun n => (au_inHead A hA most a c h0 h1 hf.rd hf.last he _ (hs.drewN n) hd).mono fun _ _ ⟨x, y, z⟩ => ⟨x, y, ((Only.refl _ w).drewN n).trans z⟩
  have U := Lib.hid (show a.look most c = (if a.lim.size ≤ a.many then (a, 1) else if a.done then (a, 2) else if 0 < a.left then a.inText most c else a.inHead most c) from rfl)
  have l0 := hf.left0
  clear hs hA hf h0 h1 he hd
  generalize a.look most c = res at *
  by_cases hm : a.lim.size ≤ a.many
  · have U2 := Lib.hid (U.out.trans (if_pos hm))
    go_enter Tryd.func83, Tryd.ntmps83
    go_wp2_with fail
    go_quiet (fail)
    go_wp2_with fail
    go_returns
    rw [U2.out]
    exact ⟨rfl, HS.out.drewN _, (Only.refl _ _).drewN _⟩
  · have U2 := Lib.hid (U.out.trans (if_neg hm))
    have hm' : a.many < a.lim.size := by omega
    clear hm U
    cases hdn : a.done with
    | true =>
      have U3 := Lib.hid (U2.out.trans (if_pos hdn))
      rw [hdn] at c20
      clear hdn
      go_enter Tryd.func83, Tryd.ntmps83
      go_wp2_with fail
      go_quiet (fail)
      go_wp2_with fail
      go_returns
      rw [U3.out]
      exact ⟨rfl, HS.out.drewN _, (Only.refl _ _).drewN _⟩
    | false =>
      have U3 := Lib.hid (U2.out.trans (if_neg (by simp [hdn])))
      rw [hdn] at c20
      clear hdn U2
      by_cases hl : 0 < a.left
      · have U4 := Lib.hid (U3.out.trans (if_pos hl))
        have TX2 := Lib.hid (fun n => TX.out n hl)
        clear U3
        go_enter Tryd.func83, Tryd.ntmps83
        go_wp2_with fail
        go_quiet (fail)
        go_wp2_with fail
        refine (TX2.out _).mono ?_
        rintro ev W ⟨rfl, S1, O1⟩
        have S1' := Lib.hid S1
        have O1' := Lib.hid O1
        clear S1 O1
        go_wp2_with fail
        go_returns
        rw [U4.out]
        exact ⟨rfl, S1'.out, O1'.out⟩
      · have U4 := Lib.hid (U3.out.trans (if_neg hl))
        have hl' : a.left ≤ 0 := by omega
        clear U3 hl
        go_enter Tryd.func83, Tryd.ntmps83
        go_wp2_with fail
        go_quiet (fail)
        go_wp2_with fail
        refine (HD.out _).mono ?_
        rintro ev W ⟨rfl, S1, O1⟩
        have S1' := Lib.hid S1
        have O1' := Lib.hid O1
        clear S1 O1
        go_wp2_with fail
        go_returns
        rw [U4.out]
        exact ⟨rfl, S1'.out, O1'.out⟩
theorem Au.ends_many (a : Au) : a.ends.1.many = a.many ∧ a.ends.1.lim = a.lim := by
  unfold Au.ends
  dsimp only
  split <;> exact ⟨rfl, rfl⟩
theorem Au.begin_many (a : Au) (h : Hd) : (a.begin h).1.many = a.many ∧ (a.begin h).1.lim = a.lim := by
  unfold Au.begin
  dsimp only
  split
  · split
    · exact ⟨rfl, rfl⟩
    · exact Au.ends_many _
  · split
    · split
      · exact ⟨rfl, rfl⟩
      · exact Au.ends_many _
    · exact Au.ends_many _
theorem Au.inHead_many (most : Nat) (a : Au) (c : Int) : (a.inHead most c).1.many = a.many ∧ (a.inHead most c).1.lim = a.lim := by
  unfold Au.inHead
  dsimp only
  split
  · exact ⟨rfl, rfl⟩
  · split
    · exact ⟨rfl, rfl⟩
    · split
      · exact ⟨rfl, rfl⟩
      · split
        · exact ⟨rfl, rfl⟩
        · split
          · exact Au.begin_many _ _
          · exact ⟨rfl, rfl⟩
theorem Au.inText_many (most : Nat) (a : Au) (c : Int) : (a.inText most c).1.many = a.many ∧ (a.inText most c).1.lim = a.lim := by
  unfold Au.inText
  dsimp only
  repeat' split
  all_goals first | exact ⟨rfl, rfl⟩ | exact Au.ends_many _
theorem Au.look_many (most : Nat) (a : Au) (c : Int) : (a.look most c).1.many = a.many ∧ (a.look most c).1.lim = a.lim := by
  unfold Au.look
  split
  · exact ⟨rfl, rfl⟩
  · split
    · exact ⟨rfl, rfl⟩
    · split
      · exact Au.inText_many _ _ _
      · exact Au.inHead_many _ _ _

end Go.Proofs.YtceddcogpigolaaDoor
