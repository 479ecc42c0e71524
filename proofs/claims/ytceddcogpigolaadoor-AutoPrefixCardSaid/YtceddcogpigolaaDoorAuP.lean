/- auto: Step (without a function to tell), New, Whole, by contracts. -/
import Derived.Test.YtceddcogpigolaaDoorAuS
namespace Go.Proofs.YtceddcogpigolaaDoor
open Go.RowKit Go.Sort

theorem evRows_nil (cs : List Value) : EvRows cs [] := fun i e h => by simp at h
theorem Au.sits.noEvs {a : Au} {w : World} {A : AB} {most : Nat} (h : a.sits w A most) (hA : A.ok) : ({ a with evs := [] } : Au).sits (w.setCell ⟨A.ab, 22, none⟩ (.slice (some ⟨A.eb, 0, none⟩) 0 132)) A most := by
  obtain ⟨cs, hc, hl, hr⟩ := h.evs
  exact ⟨h.head.set 22 _, ⟨cs, hc.far (a := ⟨A.ab, 22, none⟩) hA.ae _, hl, evRows_nil _⟩, Nat.zero_le _, h.sk.only ((Only.refl (· = A.ab) w).put 22 _) fun b hb e => hA.ba (e ▸ hb)⟩

set_option maxRecDepth 100000 in
set_option maxHeartbeats 8000000 in
theorem au_step (A : AB) (hA : A.ok) (most : Nat) (a : Au) (hf : a.good) (m0 : 0 ≤ a.many) (m1 : a.many ≤ 2305843009213693951) (c : Int) (h0 : 0 ≤ c) (h1 : c < 256) (w : World) (hs : a.sits w A most) (hd : Dbl w) :
    Calls Tryd.prog 37 #[.pointer (some ⟨A.ab, 0, none⟩), .int .u8 c, .nilFunc] w fun e w' => e = .returned (.int .i64 (a.step most c).2) ∧ (a.step most c).1.sits w' A most ∧ Only A.own w w' := by
  have HS := Lib.hid hs
  have HA := Lib.hid hA
  have c21 := hs.head.cell 21 (v := .int .i64 a.bad) rfl
  by_cases hb : a.bad = 0
  · rw [hb] at c21
    have c22 : w.cell? ⟨A.ab, 22, none⟩ = some (.slice (some ⟨A.eb, 0, none⟩) a.evs.length 132) := hs.head.cell 22 rfl
    have f22 := hs.head.thaw 22 none
    have LK := Lib.hid (au_look A hA most { a with evs := [] } (hf.same rfl rfl rfl) c h0 h1 (Nat.zero_le _) _ (hs.noEvs hA) (hd.only ((Only.refl (· = A.ab) w).put 22 _) fun e => hA.o2 (.inl e)))
    have LM := Lib.hid (Au.look_many most { a with evs := [] } c)
    have U := Lib.hid (show a.step most c = (if (Au.look most { a with evs := [] } c).2 ≠ 0 then ({ (Au.look most { a with evs := [] } c).1 with bad := (Au.look most { a with evs := [] } c).2 }, (Au.look most { a with evs := [] } c).2)
        else ({ (Au.look most { a with evs := [] } c).1 with bad := 0, many := (Au.look most { a with evs := [] } c).1.many + 1 }, 0)) by unfold Au.step; rw [if_neg (by simp [hb])])
    clear hs hA hf h0 h1 hd hb
    generalize a.step most c = res at *
    generalize Au.look most { a with evs := [] } c = lk at *
    obtain ⟨b, er⟩ := lk
    dsimp only at *
    go_enter Tryd.func37, Tryd.ntmps37
    go_wp2_with fail
    refine LK.out.mono ?_
    rintro ev W ⟨rfl, S1, O1⟩
    have S1' := Lib.hid S1
    have O1' := Lib.hid (((Only.refl A.own w).one A.ab 22 (.inl rfl) _).trans O1)
    have c21' := S1.head.cell 21 (v := .int .i64 b.bad) rfl
    have f21 := S1.head.thaw 21 none
    have c19 : W.cell? ⟨A.ab, 19, none⟩ = some (.int .i64 b.many) := S1.head.cell 19 rfl
    rw [LM.out.1] at c19
    have f19 := S1.head.thaw 19 none
    clear S1 O1 c21 c22 f22
    by_cases he : er = 0
    · subst he
      have hnf : ∀ W, (binOp .neq 81 .nilFunc .nilFunc).run Tryd.prog W = .ok (.bool false) W := fun _ => by kernel_rfl
      go_wp2_with fail
      go_returns
      rw [U.out, if_neg (by simp), LM.out.1]
      exact ⟨rfl, S1'.out.put (a' := { b with bad := 0, many := a.many + 1 }) HA.out ((S1'.out.head.set 21 _).set 19 _) rfl rfl (((Only.refl _ _).put _ _).put _ _), (O1'.out.one A.ab 21 (.inl rfl) _).one A.ab 19 (.inl rfl) _⟩
    · have he' : ((er : Int) == 0) = false := by simpa using he
      have U2 := Lib.hid (U.out.trans (if_pos he))
      clear he U
      go_wp2_with fail
      go_returns
      rw [U2.out]
      exact ⟨rfl, S1'.out.put (a' := { b with bad := er }) HA.out (S1'.out.head.set 21 _) rfl rfl ((Only.refl _ _).put _ _), O1'.out.one A.ab 21 (.inl rfl) _⟩
  · have hb' : ((a.bad : Int) == 0) = false := by simpa using hb
    have U := Lib.hid (show a.step most c = (a, a.bad) by unfold Au.step; rw [if_pos hb])
    clear hb hs hA hf hd
    generalize a.step most c = res at *
    go_enter Tryd.func37, Tryd.ntmps37
    go_wp2_with fail
    go_returns
    rw [U.out]
    exact ⟨rfl, HS.out, Only.refl _ _⟩

theorem make99n (n : Nat) (hn : n ≤ 1000) : ∃ cs : List Value, cs.length = n * 6 ∧ ∀ w, (Instr.makeSlice 99 (.int .i64 0) (.int .i64 (n : Int))).run Tryd.prog w = .ok (.slice (some ⟨w.heap.size, 0, none⟩) 0 n) (w.alloc (.cells cs.toArray 75)) := by
  obtain ⟨i0, hi, hz0, hz1, hz2⟩ := info_parts info75
  refine ⟨(madeCells (Value.agg #[.int .i64 0, .int .i64 0, .int .i64 0, .int .u64 0, .int .u8 0, .int .i64 0]).cells (n * 6)).toList, by rw [Array.length_toList, size_madeCells], fun w => ?_⟩
  have := run_makeSlice (P := Tryd.prog) (w := w) 99 75 i0 _ Tryd.underlying99 hi hz0 .i64 .i64 0 (n : Int) (by omega) (by omega) (by rw [hz1]; simp; omega) (by rw [hz2]; omega) (by omega)
  rw [hz1] at this
  simpa using this
theorem make99 : ∃ cs : List Value, cs.length = 792 ∧ ∀ w, (Instr.makeSlice 99 (.int .i64 0) (.int .i64 132)).run Tryd.prog w = .ok (.slice (some ⟨w.heap.size, 0, none⟩) 0 132) (w.alloc (.cells cs.toArray 75)) := make99n 132 (by decide)

set_option maxRecDepth 100000 in
set_option maxHeartbeats 8000000 in
theorem au_new_bad (l : Li) (hl : liRight l = false) (w : World) : Calls Tryd.prog 32 #[l.val] w fun e w' => e = .returned (.tuple #[.pointer none, .int .i64 15]) ∧ Below w.heap.size w w' := by
  have LC := Lib.hid (fun W => limit_check l W)
  rw [hl] at LC
  obtain ⟨d, k, s⟩ := l
  clear hl
  dsimp only [Li.val] at *
  go_enter Tryd.func32, Tryd.ntmps32
  go_wp2_with fail
  refine (LC.out _).mono ?_
  rintro ev W ⟨rfl, hb⟩
  have HB := Lib.hid (below_then (show Below w.heap.size w _ by go_grown) hb)
  clear hb
  go_wp2_with fail
  go_returns
  exact ⟨rfl, HB.out⟩

end Go.Proofs.YtceddcogpigolaaDoor
