/- frame.New and frame.Stack.Cap by contracts. -/
import Derived.Test.YtceddcogpigolaaDoorFr
namespace Go.Proofs.YtceddcogpigolaaDoor
open Go.RowKit Go.Sort

theorem Sk.sits.only {S : Nat → Prop} {s : Sk} {w w' : World} {B : FB} {most : Nat} (h : s.sits w B most) (ho : Only S w w') (hS : ∀ b, B.own b → ¬ S b) : s.sits w' B most := by
  obtain ⟨cs, hc, hr⟩ := h.rows
  refine ⟨ho.blk h.head (hS _ (.inl rfl)), ⟨cs, ho.blk hc (hS _ (.inr (.inl rfl))), hr⟩, fun i f hf => ?_, h.len, h.op, h.n64, h.left⟩
  have hi : i < B.n := by rw [← h.len]; exact (List.getElem?_eq_some_iff.1 hf).1
  exact (h.ky i f hf).only ho (hS _ (.inr (.inr ⟨i, hi, .inl rfl⟩))) (hS _ (.inr (.inr ⟨i, hi, .inr (.inl rfl)⟩))) (hS _ (.inr (.inr ⟨i, hi, .inr (.inr rfl)⟩)))
theorem Sk.sits.below {s : Sk} {w w' : World} {B : FB} {most : Nat} (h : s.sits w B most) (hb : Below w.heap.size w w') : s.sits w' B most :=
  h.only (Below.only hb (fun _ => False)) (fun _ _ e => e)
theorem below_then {w a b : World} (h : Below w.heap.size w a) (k : Below a.heap.size a b) : Below w.heap.size w b := h.trans (k.mono h.size)
theorem below_drewN {n : Nat} {a w : World} (h : Below n a w) (k : Nat) : Below n a (w.drewN k) := ⟨h.os, h.tape, h.output, h.size, h.block⟩
theorem below_of_drew {w w1 : World} (h : Below w.drew.heap.size w.drew w1) : Below w.heap.size w w1 := ⟨h.os, h.tape, h.output, h.size, h.block⟩

set_option maxRecDepth 100000 in
set_option maxHeartbeats 8000000 in
theorem sk_cap (B : FB) (most : Nat) (hm : most ≤ 1024) (s : Sk) (w : World) (hs : s.sits w B most) :
    Calls Tryd.prog 82 #[.pointer (some ⟨B.sb, 0, none⟩)] w fun e w' => e = .returned (.int .i64 ((2 * most * B.n : Nat) : Int)) ∧ Below w.heap.size w w' := by
  have c0 := hs.head.cell 0 (v := .slice (some ⟨B.fb, 0, none⟩) B.n B.n) rfl
  have HS := Lib.hid hs
  have hn := hs.n64
  clear hs
  go_enter Tryd.func82, Tryd.ntmps82
  go_wp2_with fail
  go_loopw [3, 13] (fun t i wr => ∃ k : Nat, k ≤ B.n ∧ i = .int .i64 k ∧ t = .int .i64 ((2 * most * k : Nat) : Int) ∧ Below w.heap.size w wr) (fun _ i _ => B.n - (intOf i).toNat)
  case atStart => exact ⟨0, Nat.zero_le _, rfl, rfl, Below.refl _ _⟩
  case round =>
    obtain ⟨k, hk, rfl, rfl, hB⟩ := hrel
    have HB := Lib.hid hB
    have HS1 := Lib.hid (HS.out.below hB)
    clear hB c0
    by_cases hlt : k < B.n
    · obtain ⟨f, hf⟩ : ∃ f, s.l[k]? = some f := ⟨_, List.getElem?_eq_getElem (by rw [HS1.out.len]; omega)⟩
      obtain ⟨r0, r1, r2, r3⟩ := HS1.out.row k f hf
      have KY := Lib.hid (HS1.out.ky k f hf)
      have fl : B.fb < wr.heap.size := HS1.out.rows.choose_spec.1.lt
      have k0 : (0 : Int) ≤ (k : Int) := by omega
      have k1 : (k : Int) < (B.n : Int) := by omega
      have q0 : 2 * most * k ≤ 131072 := by
        have h1 : 2 * most * k ≤ 2 * 1024 * 64 := Nat.mul_le_mul (by omega) (by omega)
        omega
      have q1 : 2 * most * k + 2 * most = 2 * most * (k + 1) := by rw [Nat.mul_add]; omega
      have Q1 := Lib.hid q1
      have m0 : (most : Int) ≤ 1024 := by omega
      generalize 2 * most * k = p at q0 Q1
      have p0 : (p : Int) ≤ 131072 := by omega
      have p1 : (0 : Int) ≤ (p : Int) := by omega
      generalize hd : 2 * most = d at Q1
      have HD := Lib.hid hd
      have d0 : (d : Int) ≤ 2048 := by omega
      have d1 : (0 : Int) ≤ (d : Int) := by omega
      clear hf q1 hd
      go_wp2_with fail
      refine (ky_cap (B.k k) (B.x k) (B.y k) most f.ky _ (KY.out.below (by go_grown)) hm).mono ?_
      rw [HD.out]
      rintro ev w1 ⟨rfl, n1, rfl⟩
      go_wp2_with fail
      go_roundw
      case rel => exact ⟨k + 1, by omega, by go_num, by show Value.int .i64 ((p : Int) + (d : Int)) = _; first | rw [HD.out, ← Q1.out] | rw [← Q1.out]; go_num, below_then HB.out (below_drewN (show Below wr.heap.size wr _ by go_grown) n1)⟩
      case measure => simp [intOf]; omega
    · have hke : k = B.n := by omega
      clear HS1
      subst hke
      go_wp2_with fail
      go_returns
      exact ⟨rfl, HB.out⟩

theorem info207 : (Tryd.prog.info? 207).map (fun i => (i.zero, i.size, i.bytes)) = some (some (.agg #[.pointer none, .int .i64 0, .int .u64 0, .bool false]), 4, 32) := by kernel_rfl
/-- n frames, none of them begun. -/
def Frs0 (cs : List Value) (n k : Nat) (kk : Nat → Nat) : Prop :=
  ∀ i, i < n → (∃ v, cs[i * 4]? = some v ∧ v.oneCell' = true ∧ (i < k → v = .pointer (some ⟨kk i, 0, none⟩))) ∧ cs[i * 4 + 1]? = some (.int .i64 0) ∧ cs[i * 4 + 2]? = some (.int .u64 0) ∧ cs[i * 4 + 3]? = some (.bool false)
theorem make201 (n : Nat) (hn : n ≤ 64) : ∃ cs : Array Value, Frs0 cs.toList n 0 (fun _ => 0) ∧ ∀ w, (Instr.makeSlice 201 (.int .i64 (n : Int)) (.int .i64 (n : Int))).run Tryd.prog w = .ok (.slice (some ⟨w.heap.size, 0, none⟩) n n) (w.alloc (.cells cs 207)) := by
  obtain ⟨i0, hi, hz0, hz1, hz2⟩ := info_parts info207
  refine ⟨madeCells (Value.agg #[.pointer none, .int .i64 0, .int .u64 0, .bool false]).cells (n * 4), ?_, fun w => ?_⟩
  · intro i hi
    have key : ∀ j, j < 4 → (madeCells (Value.agg #[.pointer none, .int .i64 0, .int .u64 0, .bool false]).cells (n * 4)).toList[i * 4 + j]? = some ((#[.pointer none, .int .i64 0, .int .u64 0, .bool false] : Array Value)[j]!) := by
      intro j hj
      rw [Array.getElem?_toList]
      unfold madeCells
      rw [Array.getElem?_map, Array.getElem?_range, if_pos (by omega)]
      show some ((#[.pointer none, .int .i64 0, .int .u64 0, .bool false] : Array Value)[(i * 4 + j) % 4]!) = _
      rw [show (i * 4 + j) % 4 = j by omega]
    exact ⟨⟨_, key 0 (by omega), rfl, fun h => by omega⟩, key 1 (by omega), key 2 (by omega), key 3 (by omega)⟩
  · have := run_makeSlice (P := Tryd.prog) (w := w) 201 207 i0 _ Tryd.underlying201 hi hz0 .i64 .i64 (n : Int) (n : Int) (by omega) (by omega) (by rw [hz1]; simp; omega) (by rw [hz2]; omega) (by omega)
    rw [hz1] at this
    simpa using this
/-- What the loop of New has laid after k rounds. -/
def NewInv (w wr : World) (sb fb n key k : Nat) : Prop :=
  ∃ (kk xx yy : Nat → Nat) (cs : List Value), Blk wr sb [.slice (some ⟨fb, 0, none⟩) n n, .int .i64 0] 203 ∧ Blk wr fb cs 207 ∧ Frs0 cs n k kk ∧ sb ≠ fb ∧ w.heap.size ≤ sb ∧ w.heap.size ≤ fb ∧
    (∀ i, i < k → Ky.sits ⟨[], [], false, false⟩ wr (kk i) (xx i) (yy i) key ∧ (∀ b, of3 (kk i) (xx i) (yy i) b → w.heap.size ≤ b ∧ b ≠ sb ∧ b ≠ fb)) ∧
    (∀ i j b, i < k → j < k → of3 (kk i) (xx i) (yy i) b → of3 (kk j) (xx j) (yy j) b → i = j) ∧ Below w.heap.size w wr
theorem Ky.sits.lt3 {s : Ky} {w : World} {k x y most : Nat} (h : s.sits w k x y most) : ∀ b, of3 k x y b → b < w.heap.size := by
  rintro b (rfl | rfl | rfl)
  · exact h.head.lt
  · exact h.b0.lt
  · exact h.b1.lt
theorem NewInv.next {w wr w1 : World} {sb fb n key k : Nat} (h : NewInv w wr sb fb n key k) (hk : k < n) (hb : Below wr.heap.size wr w1) (k' x' y' : Nat) (hs : Ky.sits ⟨[], [], false, false⟩ w1 k' x' y' key)
    (h1 : wr.heap.size ≤ k') (h2 : wr.heap.size ≤ x') (h3 : wr.heap.size ≤ y') : NewInv w (w1.setCell ⟨fb, k * 4, none⟩ (.pointer (some ⟨k', 0, none⟩))) sb fb n key (k + 1) := by
  obtain ⟨kk, xx, yy, cs, hd, hc, hf, hne, g1, g2, hK, hI, hB⟩ := h
  have hd1 := hd.below hb
  have hc1 := hc.below hb
  have lsb := hd.lt
  have lfb := hc.lt
  have ws := hB.size
  have new : ∀ b, of3 k' x' y' b → wr.heap.size ≤ b := by
    rintro b (rfl | rfl | rfl) <;> assumption
  have hO : Only (· = fb) w1 (w1.setCell ⟨fb, k * 4, none⟩ (.pointer (some ⟨k', 0, none⟩))) := (Only.refl _ _).put _ _
  refine ⟨fun i => if i = k then k' else kk i, fun i => if i = k then x' else xx i, fun i => if i = k then y' else yy i, cs.set (k * 4) (.pointer (some ⟨k', 0, none⟩)), hd1.far (a := ⟨fb, _, none⟩) hne.symm _, hc1.set _ _, ?_, hne, g1, g2, ?_, ?_, ?_⟩
  · intro i hi
    obtain ⟨⟨v, f0, f0', f0''⟩, f1, f2, f3⟩ := hf i hi
    refine ⟨?_, by rw [List.getElem?_set_ne (by omega)]; exact f1, by rw [List.getElem?_set_ne (by omega)]; exact f2, by rw [List.getElem?_set_ne (by omega)]; exact f3⟩
    by_cases hik : i = k
    · subst hik
      exact ⟨_, List.getElem?_set_self (lt_of_some f0), rfl, fun _ => by simp⟩
    · refine ⟨v, by rw [List.getElem?_set_ne (by omega)]; exact f0, f0', fun h => ?_⟩
      show v = .pointer (some ⟨if i = k then k' else kk i, 0, none⟩)
      rw [if_neg hik]
      exact f0'' (by omega)
  · intro i hi
    by_cases hik : i = k
    · subst hik
      simp only [if_true]
      refine ⟨hs.only hO (fun e => ?_) (fun e => ?_) (fun e => ?_), fun b hb' => ?_⟩
      · omega
      · omega
      · omega
      · have := new b hb'
        exact ⟨by omega, by omega, by omega⟩
    · simp only [if_neg hik]
      obtain ⟨a1, a2⟩ := hK i (by omega)
      exact ⟨(a1.below hb).only hO (a2 _ (.inl rfl)).2.2 (a2 _ (.inr (.inl rfl))).2.2 (a2 _ (.inr (.inr rfl))).2.2, a2⟩
  · intro i j b hi hj hbi hbj
    have old : ∀ q, q < k → of3 (kk q) (xx q) (yy q) b → b < wr.heap.size := fun q hq hbq => (hK q hq).1.lt3 b hbq
    by_cases hik : i = k <;> by_cases hjk : j = k
    · omega
    · simp only [if_pos hik] at hbi
      simp only [if_neg hjk] at hbj
      have := new b hbi
      have := old j (by omega) hbj
      omega
    · simp only [if_neg hik] at hbi
      simp only [if_pos hjk] at hbj
      have := new b hbj
      have := old i (by omega) hbi
      omega
    · simp only [if_neg hik] at hbi
      simp only [if_neg hjk] at hbj
      exact hI i j b (by omega) (by omega) hbi hbj
  · exact (below_then hB hb).setCell (p := ⟨fb, _, none⟩) g2 _

set_option maxRecDepth 100000 in
set_option maxHeartbeats 8000000 in
theorem sk_new (n key : Nat) (hn : 1 ≤ n) (hn1 : n ≤ 64) (hk : 1 ≤ key) (hk1 : key ≤ 1024) (w : World) :
    Calls Tryd.prog 79 #[.int .i64 n, .int .i64 key] w fun e w' => ∃ B : FB, e = .returned (.pointer (some ⟨B.sb, 0, none⟩)) ∧ B.ok ∧ B.n = n ∧ (sk0 n).sits w' B key ∧ Below w.heap.size w w' ∧ ∀ b, B.own b → w.heap.size ≤ b := by
  have n0 : (0 : Int) ≤ (n : Int) := by omega
  have n1 : (n : Int) ≤ 64 := by omega
  obtain ⟨cs, hcs, hmk⟩ := make201 n hn1
  have HC := Lib.hid hcs
  clear hcs
  go_enter Tryd.func79, Tryd.ntmps79
  go_wp2_with fail
  go_loopw [18] (fun i wr => ∃ k : Nat, k ≤ n ∧ i = .int .i64 k ∧ NewInv w wr (w.heap.size + 1) w.heap.size n key k) (fun i _ => n - (intOf i).toNat)
  case atStart =>
    refine ⟨0, Nat.zero_le _, rfl, fun _ => 0, fun _ => 0, fun _ => 0, cs.toList, Blk.new' (by simp) _ _, (Blk.new w _ _).alloc _, HC.out, by omega, by omega, by omega, fun i h => by omega, fun i _ _ h => by omega, by go_grown⟩
  case round =>
    obtain ⟨k, hkn, rfl, hI⟩ := hrel
    have HI := Lib.hid hI
    clear hI hmk
    obtain ⟨sb, hsb⟩ : ∃ sb, sb = w.heap.size + 1 := ⟨_, rfl⟩
    obtain ⟨fb, hfb⟩ : ∃ fb, fb = w.heap.size := ⟨_, rfl⟩
    have HI2 : Hid (NewInv w wr sb fb n key k) := Lib.hid (by rw [hsb, hfb]; exact HI.out)
    clear HI
    rw [← hsb]
    have HE := Lib.hid (And.intro hsb hfb)
    clear hsb hfb
    by_cases hlt : k < n
    · have k0 : (0 : Int) ≤ (k : Int) := by omega
      have k1 : (k : Int) < (n : Int) := by omega
      obtain ⟨kk, xx, yy, ds, hd, hc, hf, -⟩ := HI2.out
      obtain ⟨⟨v0, hv0, hv1, -⟩, -⟩ := hf k hlt
      have HD := Lib.hid hd
      have HCs := Lib.hid hc
      have HV := Lib.hid hv0
      have c0 := hd.cell 0 (v := .slice (some ⟨fb, 0, none⟩) n n) rfl
      clear hd hc hf hv0 hv1
      go_wp2_with fail
      go_region_with ((go_at_call 120; refine (ky_new key hk hk1 _).mono ?_; rintro ev w1 ⟨k', x', y', rfl, K, Bl, h1, h2, h3⟩; have HB1 := Lib.hid (below_of_drew Bl); have HK1 := Lib.hid K; clear Bl K; have cc := (HD.out.below HB1.out).cell 0 (v := .slice (some ⟨fb, 0, none⟩) n n) rfl; have cd := (HCs.out.below HB1.out).cell _ HV.out; have cf := (HCs.out.below HB1.out).thaw (k * 4) none))
      all_goals
        go_wp2_with fail
        go_roundw
        case rel => exact ⟨k + 1, by omega, by go_num, by rw [← HE.out.2]; exact HI2.out.next hlt HB1.out _ _ _ HK1.out h1 h2 h3⟩
        case measure => simp [intOf]; omega
    · have hke : k = n := by omega
      subst hke
      go_wp2_with fail
      go_returns
      obtain ⟨kk, xx, yy, ds, hd, hc, hf, hne, g1, g2, hK, hI, hB⟩ := HI2.out
      refine ⟨⟨sb, fb, k, kk, xx, yy⟩, rfl, ⟨hne, fun i hi e => (hK i hi).2 _ e |>.2.1 rfl, fun i hi e => (hK i hi).2 _ e |>.2.2 rfl, hI⟩, rfl, ⟨hd, ⟨ds, hc, ?_⟩, ?_, by simp [sk0], Nat.zero_le _, hn1, fun i _ h => by simp [sk0] at h⟩, hB, ?_⟩
      · intro i f h
        have hi : i < k := by have := (List.getElem?_eq_some_iff.1 h).1; simpa [sk0] using this
        obtain ⟨⟨v, f0, -, f0'⟩, f1, f2, f3⟩ := hf i hi
        have e : f = fr0 := by simpa [sk0, List.getElem?_replicate, hi] using h.symm
        subst e
        exact rowed_of (by rw [f0, f0' hi]) f1 f2 f3
      · intro i f h
        have hi : i < k := by have := (List.getElem?_eq_some_iff.1 h).1; simpa [sk0] using this
        have e : f = fr0 := by simpa [sk0, List.getElem?_replicate, hi] using h.symm
        subst e
        exact (hK i hi).1
      · rintro b (rfl | rfl | ⟨i, hi, hb⟩)
        · exact g1
        · exact g2
        · exact ((hK i hi).2 b hb).1

end Go.Proofs.YtceddcogpigolaaDoor
