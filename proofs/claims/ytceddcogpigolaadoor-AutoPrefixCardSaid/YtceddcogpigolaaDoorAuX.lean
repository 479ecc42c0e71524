/- auto.Whole by contract. -/
import Derived.Test.YtceddcogpigolaaDoorAuW
namespace Go.Proofs.YtceddcogpigolaaDoor
open Go.RowKit Go.Sort

/-- Bytes that lie where a slice points. -/
def Bys (w : World) (a : Option Addr) (bs : List Int) : Prop :=
  (∀ x ∈ bs, 0 ≤ x ∧ x < 256) ∧ (bs = [] ∨ ∃ b off, a = some ⟨b, off, none⟩ ∧ ∀ k x, bs[k]? = some x → w.cell? ⟨b, off + k, none⟩ = some (.int .u8 x))
theorem Bys.below {w w' : World} {a : Option Addr} {bs : List Int} (h : Bys w a bs) (hb : Below w.heap.size w w') : Bys w' a bs := by
  refine ⟨h.1, h.2.imp id ?_⟩
  rintro ⟨b, off, rfl, hc⟩
  exact ⟨b, off, rfl, fun k x hk => (hb.cell (p := ⟨b, off + k, none⟩) (World.block_lt_of_cell? w ⟨b, off + k, none⟩ (hc k x hk))).trans (hc k x hk)⟩
theorem Au.step_many (most : Nat) (a : Au) (c : Int) : (a.step most c).1.lim = a.lim ∧ a.many ≤ (a.step most c).1.many ∧ (a.step most c).1.many ≤ a.many + 1 := by
  have h := Au.look_many most { a with evs := [] } c
  unfold Au.step
  split
  · exact ⟨rfl, Int.le_refl _, by dsimp only; omega⟩
  · dsimp only
    split
    · exact ⟨h.2, by rw [show ({ (Au.look most { a with evs := [] } c).1 with bad := _ } : Au).many = (Au.look most { a with evs := [] } c).1.many from rfl, h.1]; exact Int.le_refl _, by dsimp only; rw [h.1]; dsimp only; omega⟩
    · exact ⟨h.2, by dsimp only; rw [h.1]; dsimp only; omega, by dsimp only; rw [h.1]; exact Int.le_refl _⟩
theorem Au.step_good {a : Au} (h : a.good) (most : Nat) (c : Int) (h0 : 0 ≤ c) (h1 : c < 256) : (a.step most c).1.good := by
  have hl := Au.look_good (a := { a with evs := [] }) (h.same rfl rfl rfl) most c h0 h1
  unfold Au.step
  split
  · exact h
  · dsimp only
    split
    · exact hl.same rfl rfl rfl
    · exact hl.same rfl rfl rfl
theorem Au.run_snoc (most : Nat) (a : Au) (l : List Int) (c : Int) : a.run most (l ++ [c]) = ((a.run most l).step most c).1 := by
  simp [Au.run, List.foldl_append]
theorem int_take_snoc {bs : List Int} {k : Nat} {x : Int} (h : bs[k]? = some x) : bs.take (k + 1) = bs.take k ++ [x] := by
  obtain ⟨hk, he⟩ := List.getElem?_eq_some_iff.1 h
  rw [List.take_succ_eq_append_getElem hk, he]
theorem Only.to_below {S : Nat → Prop} {w w' : World} {B : Nat} (h : Only S w w') (hB : B ≤ w.heap.size) (hS : ∀ b, S b → B ≤ b) : Below B w w' := h.toBelow hB fun k _ hk => hS k hk

set_option maxRecDepth 100000 in
set_option maxHeartbeats 8000000 in
theorem whole_bad (a : Option Addr) (n cap : Nat) (l : Li) (hl : liRight l = false) (w : World) : Calls Tryd.prog 42 #[.slice a n cap, l.val] w fun e w' => e = .returned (verV (15, 0)) ∧ Below w.heap.size w w' := by
  have NB := Lib.hid (fun W => au_new_bad l hl W)
  obtain ⟨d, k, s⟩ := l
  clear hl
  dsimp only [Li.val] at *
  go_enter Tryd.func42, Tryd.ntmps42
  go_wp2_with fail
  refine name_calls (fun W => Below w.heap.size w W ∧ Blk W (w.heap.size + 1) [.int .i64 0, .int .i64 0] 28) ⟨by go_grown, Blk.new' (by simp) _ _⟩ ?_
  rintro W ⟨hB, hR⟩
  refine (NB.out _).mono ?_
  rintro ev W2 ⟨rfl, hb⟩
  have B2 := Lib.hid (below_then hB hb)
  have R2 := Lib.hid (hR.below hb)
  clear hB hR hb
  have f0 := R2.out.thaw 0 none
  have f1 := R2.out.thaw 1 none
  have hc := R2.out.at
  go_wp2_with fail
  refine name_post (fun W3 => Blk W3 (w.heap.size + 1) [.int .i64 15, .int .i64 0] 28 ∧ Below w.heap.size w W3) ⟨(R2.out.set 0 _).set 1 _, (B2.out.setCell (p := ⟨w.heap.size + 1, 0, none⟩) (by simp) _).setCell (p := ⟨w.heap.size + 1, 1, none⟩) (by simp) _⟩ ?_
  rintro W3 ⟨hR3, hB3⟩
  have r0 := hR3.cell 0 rfl
  have r1 := hR3.cell 1 rfl
  exact bodyPost_ret (v := verV (15, 0)) (by simp [results, Tryd.results42, go_sem, r0, r1, verV]) rfl ⟨rfl, hB3⟩

/-- What holds at the loop's head after k bytes. -/
def WhRel (l : Li) (bs : List Int) (A : AB) (w W : World) (R : Nat) (i : Value) (wr : World) : Prop :=
  ∃ k : Nat, k ≤ bs.length ∧ i = .int .i64 k ∧ ((au0 l).run l.key.toNat (bs.take k)).sits wr A l.key.toNat ∧ ((au0 l).run l.key.toNat (bs.take k)).good ∧ 0 ≤ ((au0 l).run l.key.toNat (bs.take k)).many ∧ ((au0 l).run l.key.toNat (bs.take k)).many ≤ k ∧ Only A.own W wr ∧ Below w.heap.size w wr ∧ Blk wr R [.int .i64 0, .int .i64 0] 28

set_option maxRecDepth 100000 in
set_option maxHeartbeats 8000000 in
theorem whole_ok (a : Option Addr) (cap : Nat) (bs : List Int) (l : Li) (hl : liRight l = true) (w : World) (hb : Bys w a bs) (hn : bs.length ≤ 1000000) (hd : Dbl w) :
    Calls Tryd.prog 42 #[.slice a bs.length cap, l.val] w fun e w' => e = .returned (verV ((au0 l).run l.key.toNat bs).close) ∧ Below w.heap.size w w' := by
  have NB := Lib.hid (fun W h => au_new l hl W h)
  have HBY := Lib.hid hb
  have HD := Lib.hid hd
  have HV : Hid (l.val = .agg #[.int .i64 l.depth, .int .i64 l.key, .int .i64 l.size]) := Lib.hid rfl
  clear hl hb hd
  rw [HV.out] at NB ⊢
  go_enter Tryd.func42, Tryd.ntmps42
  go_wp2_with fail
  refine name_calls (fun W => Below w.heap.size w W ∧ Blk W (w.heap.size + 1) [.int .i64 0, .int .i64 0] 28) ⟨by go_grown, Blk.new' (by simp) _ _⟩ ?_
  rintro W ⟨hB, hR⟩
  have szW : w.heap.size ≤ W.heap.size := hB.size
  have l2 := HD.out.lt
  refine (NB.out W (by omega)).mono ?_
  rintro ev W2 ⟨A, rfl, hA, hAn, hS, hb, hown⟩
  have AO := Lib.hid hA
  have RL : Hid (w.heap.size + 1 < W.heap.size) := Lib.hid hR.lt
  have OW := Lib.hid hown
  have S2 := Lib.hid hS
  have B2 := Lib.hid (below_then hB hb)
  have R2 := Lib.hid (hR.below hb)
  clear hB hR hb hA hS hown hAn
  generalize hN : w.heap.size + 1 = N at *
  have HN := Lib.hid hN
  clear hN
  go_wp2_with fail
  go_loopw [20] (fun i wr => WhRel l bs A w W2 N i wr) (fun i _ => bs.length - (intOf i).toNat)
  case atStart => exact ⟨0, Nat.zero_le _, rfl, S2.out, au0_good l, by simp [Au.run, au0], by simp [Au.run, au0], Only.refl _ _, B2.out, R2.out⟩
  case round =>
    obtain ⟨k, hk, rfl, hS, hG, hm0, hm1, hO, hB, hR⟩ := hrel
    by_cases hlt : k < bs.length
    · obtain ⟨x, hx⟩ : ∃ x, bs[k]? = some x := ⟨_, List.getElem?_eq_getElem hlt⟩
      have hx2 := HBY.out.1 x (List.mem_of_getElem? hx)
      obtain ⟨hx0, hx1⟩ := hx2
      obtain ⟨b, off, rfl, hc⟩ := (HBY.out.below hB).2.resolve_left (fun e => by rw [e] at hlt; simp at hlt)
      have hcell := hc k x hx
      have U := Lib.hid (int_take_snoc hx)
      have R1 := Lib.hid (Au.run_snoc l.key.toNat (au0 l) (bs.take k) x)
      have ST := Lib.hid (au_step A AO.out l.key.toNat _ hG hm0 (by omega) x hx0 hx1 wr hS (HD.out.below hB))
      have SG1 := Lib.hid (Au.step_good hG l.key.toNat x hx0 hx1)
      have SM := Lib.hid (Au.step_many l.key.toNat ((au0 l).run l.key.toNat (bs.take k)) x)
      have M := Lib.hid (And.intro hm0 hm1)
      have HO := Lib.hid hO
      have HB := Lib.hid hB
      have HR := Lib.hid hR
      have k0 : (0 : Int) ≤ (k : Int) := by omega
      have k1 : (k : Int) < (bs.length : Int) := by omega
      clear hS hG hm0 hm1 hO hB hR hc hx S2 R2 NB
      generalize (au0 l).run l.key.toNat (bs.take k) = ak at *
      generalize ak.step l.key.toNat x = nx at *
      go_wp2_with fail
      refine ST.out.mono ?_
      rintro ev W3 ⟨rfl, S3, O3⟩
      have N3 : Hid (WhRel l bs A w W2 N (.int .i64 ((k + 1 : Nat) : Int)) W3) := by
        refine Lib.hid ⟨k + 1, hlt, rfl, ?_⟩
        rw [U.out, R1.out]
        have m := M.out
        have sm := SM.out
        have hB3 : Below w.heap.size w W3 := HB.out.trans (O3.to_below HB.out.size fun b hb => by have := OW.out b hb; omega)
        exact ⟨S3, SG1.out, by omega, by omega, HO.out.trans O3, hB3, O3.blk HR.out fun h => by have := OW.out N h; have := RL.out; omega⟩
      clear S3 O3
      go_wp2_with fail
      go_roundw
      case rel => exact N3.out
      case measure => simp [intOf]; omega
    · obtain rfl : k = bs.length := by omega
      rw [List.take_length] at hS
      have CL := Lib.hid (au_close A l.key.toNat _ wr hS)
      have HB := Lib.hid hB
      have HR := Lib.hid hR
      clear hS hG hm0 hm1 hO hB hR S2 R2 NB
      generalize hv : ((au0 l).run l.key.toNat bs).close = v at CL
      obtain ⟨v0, v1⟩ := v
      have HV2 := Lib.hid hv
      clear hv
      unfold verV at CL
      dsimp only at CL
      go_wp2_with fail
      refine CL.out.mono ?_
      rintro ev W3 ⟨rfl, hb3⟩
      have B3 := Lib.hid (below_then HB.out hb3)
      have R3 := Lib.hid (HR.out.below hb3)
      have f0 := R3.out.thaw 0 none
      have f1 := R3.out.thaw 1 none
      have hc := R3.out.at
      have hn1 : w.heap.size ≤ N := by have := HN.out; omega
      clear hb3
      go_wp2_with fail
      refine name_post (fun W4 => Blk W4 N [.int .i64 v0, .int .i64 v1] 28 ∧ Below w.heap.size w W4) ⟨(R3.out.set 0 _).set 1 _, (B3.out.setCell (p := ⟨N, 0, none⟩) hn1 _).setCell (p := ⟨N, 1, none⟩) hn1 _⟩ ?_
      rintro W4 ⟨hR4, hB4⟩
      have r0 := hR4.cell 0 rfl
      have r1 := hR4.cell 1 rfl
      exact bodyPost_ret (v := .agg #[.int .i64 v0, .int .i64 v1]) (by simp [results, Tryd.results42, go_sem, r0, r1]) rfl ⟨by rw [HV2.out]; rfl, hB4⟩
theorem whole_c (a : Option Addr) (cap : Nat) (bs : List Int) (l : Li) (w : World) (hb : Bys w a bs) (hn : bs.length ≤ 1000000) (hd : Dbl w) :
    Calls Tryd.prog 42 #[.slice a bs.length cap, l.val] w fun e w' => e = .returned (verV (whole bs l)) ∧ Below w.heap.size w w' := by
  unfold whole
  by_cases h : liRight l = true
  · rw [if_pos h]
    exact whole_ok a cap bs l h w hb hn hd
  · rw [if_neg h]
    exact whole_bad a bs.length cap l (by simpa using h) w

end Go.Proofs.YtceddcogpigolaaDoor
