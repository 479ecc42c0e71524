/- utf.Walk by contracts. -/
import Derived.Test.YtceddcogpigolaaDoorMem
namespace Go.Proofs.YtceddcogpigolaaDoor
open Go.RowKit Go.Sort

def utfBegin (c : Int) : Int × Int × Int :=
  if c ≤ 127 then (0, 128, 191)
  else if c < 194 then (-1, 128, 191)
  else if c ≤ 223 then (1, 128, 191)
  else if c = 224 then (2, 160, 191)
  else if c ≤ 236 then (2, 128, 191)
  else if c = 237 then (2, 128, 159)
  else if c ≤ 239 then (2, 128, 191)
  else if c = 240 then (3, 144, 191)
  else if c ≤ 243 then (3, 128, 191)
  else if c = 244 then (3, 128, 143)
  else (-1, 128, 191)

set_option maxRecDepth 100000 in
set_option maxHeartbeats 4000000 in
theorem utf_begin (c : Int) (h0 : 0 ≤ c) (h1 : c < 256) (w : World) : Calls Tryd.prog 208 #[.int .u8 c] w fun e w' => e = .returned (.tuple #[.int .i64 (utfBegin c).1, .int .u8 (utfBegin c).2.1, .int .u8 (utfBegin c).2.2]) ∧ w' = w := by
  rcases (show (c ≤ 127) ∨ (127 < c ∧ c < 194) ∨ (194 ≤ c ∧ c ≤ 223) ∨ (c = 224) ∨ (225 ≤ c ∧ c ≤ 236) ∨ (c = 237) ∨ (238 ≤ c ∧ c ≤ 239) ∨ (c = 240) ∨ (241 ≤ c ∧ c ≤ 243) ∨ (c = 244) ∨ (244 < c) by omega) with a0 | ⟨a0, a1⟩ | ⟨a0, a1⟩ | rfl | ⟨a0, a1⟩ | rfl | ⟨a0, a1⟩ | rfl | ⟨a0, a1⟩ | rfl | a0
  · have U := Lib.hid (show utfBegin c = (0, 128, 191) by first | decide | (unfold utfBegin; simp only [show ¬ (c = 224) by omega, show ¬ (c = 237) by omega, show ¬ (c = 240) by omega, show ¬ (c = 244) by omega, ↓reduceIte]; (repeat' split) <;> first | rfl | omega))
    go_enter Tryd.func208, Tryd.ntmps208
    go_wp2_with fail
    all_goals first | (exfalso; omega) | (go_ret3; exact ⟨by rw [U.out]; rfl, rfl⟩)
  · have U := Lib.hid (show utfBegin c = (-1, 128, 191) by first | decide | (unfold utfBegin; simp only [show ¬ (c = 224) by omega, show ¬ (c = 237) by omega, show ¬ (c = 240) by omega, show ¬ (c = 244) by omega, ↓reduceIte]; (repeat' split) <;> first | rfl | omega))
    go_enter Tryd.func208, Tryd.ntmps208
    go_wp2_with fail
    all_goals first | (exfalso; omega) | (go_ret3; exact ⟨by rw [U.out]; rfl, rfl⟩)
  · have U := Lib.hid (show utfBegin c = (1, 128, 191) by first | decide | (unfold utfBegin; simp only [show ¬ (c = 224) by omega, show ¬ (c = 237) by omega, show ¬ (c = 240) by omega, show ¬ (c = 244) by omega, ↓reduceIte]; (repeat' split) <;> first | rfl | omega))
    go_enter Tryd.func208, Tryd.ntmps208
    go_wp2_with fail
    all_goals first | (exfalso; omega) | (go_ret3; exact ⟨by rw [U.out]; rfl, rfl⟩)
  · have U := Lib.hid (show utfBegin 224 = (2, 160, 191) by first | decide | (unfold utfBegin; simp only [show ¬ (c = 224) by omega, show ¬ (c = 237) by omega, show ¬ (c = 240) by omega, show ¬ (c = 244) by omega, ↓reduceIte]; (repeat' split) <;> first | rfl | omega))
    go_enter Tryd.func208, Tryd.ntmps208
    go_wp2_with fail
    all_goals first | (exfalso; omega) | (go_ret3; exact ⟨by rw [U.out]; rfl, rfl⟩)
  · have U := Lib.hid (show utfBegin c = (2, 128, 191) by first | decide | (unfold utfBegin; simp only [show ¬ (c = 224) by omega, show ¬ (c = 237) by omega, show ¬ (c = 240) by omega, show ¬ (c = 244) by omega, ↓reduceIte]; (repeat' split) <;> first | rfl | omega))
    go_enter Tryd.func208, Tryd.ntmps208
    go_wp2_with fail
    all_goals first | (exfalso; omega) | (go_ret3; exact ⟨by rw [U.out]; rfl, rfl⟩)
  · have U := Lib.hid (show utfBegin 237 = (2, 128, 159) by first | decide | (unfold utfBegin; simp only [show ¬ (c = 224) by omega, show ¬ (c = 237) by omega, show ¬ (c = 240) by omega, show ¬ (c = 244) by omega, ↓reduceIte]; (repeat' split) <;> first | rfl | omega))
    go_enter Tryd.func208, Tryd.ntmps208
    go_wp2_with fail
    all_goals first | (exfalso; omega) | (go_ret3; exact ⟨by rw [U.out]; rfl, rfl⟩)
  · have U := Lib.hid (show utfBegin c = (2, 128, 191) by first | decide | (unfold utfBegin; simp only [show ¬ (c = 224) by omega, show ¬ (c = 237) by omega, show ¬ (c = 240) by omega, show ¬ (c = 244) by omega, ↓reduceIte]; (repeat' split) <;> first | rfl | omega))
    go_enter Tryd.func208, Tryd.ntmps208
    go_wp2_with fail
    all_goals first | (exfalso; omega) | (go_ret3; exact ⟨by rw [U.out]; rfl, rfl⟩)
  · have U := Lib.hid (show utfBegin 240 = (3, 144, 191) by first | decide | (unfold utfBegin; simp only [show ¬ (c = 224) by omega, show ¬ (c = 237) by omega, show ¬ (c = 240) by omega, show ¬ (c = 244) by omega, ↓reduceIte]; (repeat' split) <;> first | rfl | omega))
    go_enter Tryd.func208, Tryd.ntmps208
    go_wp2_with fail
    all_goals first | (exfalso; omega) | (go_ret3; exact ⟨by rw [U.out]; rfl, rfl⟩)
  · have U := Lib.hid (show utfBegin c = (3, 128, 191) by first | decide | (unfold utfBegin; simp only [show ¬ (c = 224) by omega, show ¬ (c = 237) by omega, show ¬ (c = 240) by omega, show ¬ (c = 244) by omega, ↓reduceIte]; (repeat' split) <;> first | rfl | omega))
    go_enter Tryd.func208, Tryd.ntmps208
    go_wp2_with fail
    all_goals first | (exfalso; omega) | (go_ret3; exact ⟨by rw [U.out]; rfl, rfl⟩)
  · have U := Lib.hid (show utfBegin 244 = (3, 128, 143) by first | decide | (unfold utfBegin; simp only [show ¬ (c = 224) by omega, show ¬ (c = 237) by omega, show ¬ (c = 240) by omega, show ¬ (c = 244) by omega, ↓reduceIte]; (repeat' split) <;> first | rfl | omega))
    go_enter Tryd.func208, Tryd.ntmps208
    go_wp2_with fail
    all_goals first | (exfalso; omega) | (go_ret3; exact ⟨by rw [U.out]; rfl, rfl⟩)
  · have U := Lib.hid (show utfBegin c = (-1, 128, 191) by first | decide | (unfold utfBegin; simp only [show ¬ (c = 224) by omega, show ¬ (c = 237) by omega, show ¬ (c = 240) by omega, show ¬ (c = 244) by omega, ↓reduceIte]; (repeat' split) <;> first | rfl | omega))
    go_enter Tryd.func208, Tryd.ntmps208
    go_wp2_with fail
    all_goals first | (exfalso; omega) | (go_ret3; exact ⟨by rw [U.out]; rfl, rfl⟩)

structure Wk where
  left : Int
  lo : Int
  hi : Int
  bad : Bool
def Wk.cells (s : Wk) : List Value := [.int .i64 s.left, .int .u8 s.lo, .int .u8 s.hi, .bool s.bad]
def Wk.step (s : Wk) (c : Int) : Wk :=
  if s.bad then s
  else if s.left = 0 then ⟨(utfBegin c).1, (utfBegin c).2.1, (utfBegin c).2.2, decide ((utfBegin c).1 < 0)⟩
  else if c < s.lo ∨ s.hi < c then { s with bad := true }
  else ⟨s.left - 1, 128, 191, false⟩
/-- The cells vs, from place o on, are set. -/
def putL (cs : List Value) (o : Nat) : List Value → List Value
  | [] => cs
  | v :: r => putL (cs.set o v) (o + 1) r


/-- What a walk that stands at place o of block b asks of the cells. -/
def Wk.sits (s : Wk) (cs : List Value) (o : Nat) : Prop := cs[o]? = some (.int .i64 s.left) ∧ cs[o + 1]? = some (.int .u8 s.lo) ∧ cs[o + 2]? = some (.int .u8 s.hi) ∧ cs[o + 3]? = some (.bool s.bad)
def Wk.fit (s : Wk) : Prop := -1 ≤ s.left ∧ s.left ≤ 3

theorem set4_last {cs : List Value} {o : Nat} {a b c d : Value} (h0 : cs[o]? = some a) (h1 : cs[o + 1]? = some b) (h2 : cs[o + 2]? = some c) : cs.set (o + 3) d = putL cs o [a, b, c, d] := by
  simp [putL, set_same h0, set_same h1, set_same h2]
theorem putL4 {cs : List Value} {o : Nat} {a b c d : Value} : (((cs.set o a).set (o + 1) b).set (o + 2) c).set (o + 3) d = putL cs o [a, b, c, d] := rfl
theorem putL3_same {cs : List Value} {o : Nat} {a b c d : Value} (h3 : cs[o + 3]? = some d) : ((cs.set o a).set (o + 1) b).set (o + 2) c = putL cs o [a, b, c, d] := by
  show _ = (((cs.set o a).set (o + 1) b).set (o + 2) c).set (o + 3) d
  rw [set_same (cs := ((cs.set o a).set (o + 1) b).set (o + 2) c)]
  rw [List.getElem?_set_ne (by omega), List.getElem?_set_ne (by omega), List.getElem?_set_ne (by omega)]
  exact h3
theorem putL4_same {cs : List Value} {o : Nat} {a b c d : Value} (h0 : cs[o]? = some a) (h1 : cs[o + 1]? = some b) (h2 : cs[o + 2]? = some c) (h3 : cs[o + 3]? = some d) : cs = putL cs o [a, b, c, d] := by
  simp [putL, set_same h0, set_same h1, set_same h2, set_same h3]

set_option maxRecDepth 100000 in
set_option maxHeartbeats 4000000 in
theorem walk_step (b o : Nat) (t : TypeId) (cs : List Value) (s : Wk) (c : Int) (h0 : 0 ≤ c) (h1 : c < 256) (hs : s.sits cs o) (hf : s.fit) (w : World) (hb : Blk w b cs t) :
    Calls Tryd.prog 166 #[.pointer (some ⟨b, o, none⟩), .int .u8 c] w fun e w' => e = .returned (.bool (!(s.step c).bad)) ∧ Blk w' b (putL cs o (s.step c).cells) t ∧ Only (· = b) w w' := by
  obtain ⟨s0, s1, s2, s3⟩ := hs
  have c0 := hb.cell o s0
  have c1 := hb.cell (o + 1) s1
  have c2 := hb.cell (o + 2) s2
  have c3 := hb.cell (o + 3) s3
  have f0 := hb.thaw o none
  have f1 := hb.thaw (o + 1) none
  have f2 := hb.thaw (o + 2) none
  have f3 := hb.thaw (o + 3) none
  have S0 := Lib.hid s0
  have S1 := Lib.hid s1
  have S2 := Lib.hid s2
  have S3 := Lib.hid s3
  have HB := Lib.hid hb
  obtain ⟨l0, l1⟩ := hf
  clear hb s0 s1 s2 s3
  obtain ⟨left, lo, hi, bad⟩ := s
  dsimp only at *
  cases bad with
  | true =>
    go_enter Tryd.func166, Tryd.ntmps166
    go_wp2_with fail
    go_ret
    exact ⟨rfl, HB.out.cast (putL4_same S0.out S1.out S2.out S3.out), Only.refl _ _⟩
  | false =>
    rcases Int.decEq left 0 with hl | hl
    · have hl' : ((left : Int) == 0) = false := by simpa using hl
      by_cases hlo : c < lo
      · have U := Lib.hid (show Wk.step ⟨left, lo, hi, false⟩ c = ⟨left, lo, hi, true⟩ by simp [Wk.step, hl, hlo])
        clear hl
        go_enter Tryd.func166, Tryd.ntmps166
        go_wp2_with fail
        go_ret
        rw [U.out]
        exact ⟨rfl, (HB.out.set _ _).cast (set4_last S0.out S1.out S2.out), (Only.refl _ _).put _ _⟩
      · by_cases hhi : hi < c
        · have U := Lib.hid (show Wk.step ⟨left, lo, hi, false⟩ c = ⟨left, lo, hi, true⟩ by simp [Wk.step, hl, hhi])
          have hlo' : lo ≤ c := by omega
          clear hl hlo
          go_enter Tryd.func166, Tryd.ntmps166
          go_wp2_with fail
          go_ret
          rw [U.out]
          exact ⟨rfl, (HB.out.set _ _).cast (set4_last S0.out S1.out S2.out), (Only.refl _ _).put _ _⟩
        · have U := Lib.hid (show Wk.step ⟨left, lo, hi, false⟩ c = ⟨left - 1, 128, 191, false⟩ by simp [Wk.step, hl, hlo, hhi])
          have hlo' : lo ≤ c := by omega
          have hhi' : c ≤ hi := by omega
          clear hl hlo hhi
          go_enter Tryd.func166, Tryd.ntmps166
          go_wp2_with fail
          go_ret
          rw [U.out]
          exact ⟨rfl, (((HB.out.set _ _).set _ _).set _ _).cast (putL3_same S3.out), (((Only.refl _ _).put _ _).put _ _).put _ _⟩
    · subst hl
      have U := Lib.hid (show Wk.step ⟨0, lo, hi, false⟩ c = ⟨(utfBegin c).1, (utfBegin c).2.1, (utfBegin c).2.2, decide ((utfBegin c).1 < 0)⟩ by simp [Wk.step])
      have UB := Lib.hid (utf_begin c h0 h1)
      generalize utfBegin c = ub at U UB
      obtain ⟨ul, uo, uh⟩ := ub
      go_enter Tryd.func166, Tryd.ntmps166
      go_wp2_with fail
      refine (UB.out _).mono ?_
      rintro ev w1 ⟨rfl, rfl⟩
      go_wp2_with fail
      go_ret
      rw [U.out]
      exact ⟨rfl, (((HB.out.set _ _).set _ _).set _ _).set _ _, ((((Only.refl _ _).put _ _).put _ _).put _ _).put _ _⟩

theorem walk_done (b o : Nat) (t : TypeId) (cs : List Value) (s : Wk) (hs : s.sits cs o) (w : World) (hb : Blk w b cs t) :
    Calls Tryd.prog 167 #[.pointer (some ⟨b, o, none⟩)] w fun e w' => e = .returned (.bool (!s.bad && s.left == 0)) ∧ w' = w := by
  obtain ⟨s0, s1, s2, s3⟩ := hs
  have c0 := hb.cell o s0
  have c3 := hb.cell (o + 3) s3
  clear hb s0 s1 s2 s3
  obtain ⟨left, lo, hi, bad⟩ := s
  dsimp only at *
  cases bad with
  | true =>
    go_enter Tryd.func167, Tryd.ntmps167
    go_wp2_with fail
    go_ret
    exact ⟨rfl, rfl⟩
  | false =>
    go_enter Tryd.func167, Tryd.ntmps167
    go_wp2_with fail
    go_ret
    exact ⟨rfl, rfl⟩

theorem walk_reset (b o : Nat) (t : TypeId) (cs : List Value) (s : Wk) (hs : s.sits cs o) (w : World) (hb : Blk w b cs t) :
    Calls Tryd.prog 215 #[.pointer (some ⟨b, o, none⟩)] w fun e w' => e = .returned (.tuple #[]) ∧ Blk w' b (putL cs o (Wk.cells ⟨0, 0, 0, false⟩)) t ∧ Only (· = b) w w' := by
  obtain ⟨s0, s1, s2, s3⟩ := hs
  have c0 := hb.cell o s0
  have c1 := hb.cell (o + 1) s1
  have c2 := hb.cell (o + 2) s2
  have c3 := hb.cell (o + 3) s3
  have f0 := hb.thaw o none
  have f1 := hb.thaw (o + 1) none
  have f2 := hb.thaw (o + 2) none
  have f3 := hb.thaw (o + 3) none
  have HB := Lib.hid hb
  clear hb s0 s1 s2 s3
  go_enter Tryd.func215, Tryd.ntmps215
  go_wp2_with fail
  go_returns
  exact ⟨rfl, (((HB.out.set _ _).set _ _).set _ _).set _ _, ((((Only.refl _ _).put _ _).put _ _).put _ _).put _ _⟩

end Go.Proofs.YtceddcogpigolaaDoor
