/- ullageref05.Text: a number's digits, by contract: Lib.itoa. -/
import Derived.Test.YtceddcogpigolaaDoorProg
import Derived.Handy
import Derived.Lib.Hide
import Derived.Lib.ItoaNum
import Derived.Deep.LoopGhost
namespace Go.Proofs.YtceddcogpigolaaDoor
open Go.RowKit

def bytesOf (l : List UInt8) : ByteArray := ⟨l.toArray⟩
def digs : ByteArray := ⟨#[48, 49, 50, 51, 52, 53, 54, 55, 56, 57]⟩
def dz (u : Nat) : List UInt8 := if h : u = 0 then [] else dz (u / 10) ++ [UInt8.ofNat (48 + u % 10)]
termination_by u
decreasing_by omega

def dgt (d : Nat) : ByteArray := bytesOf [UInt8.ofNat (48 + d)]
theorem slice_dgt0 (w : World) : (Instr.slice 9 (.string ⟨#[48, 49, 50, 51, 52, 53, 54, 55, 56, 57]⟩) (some (.int .i64 (((0 : Nat) : Int)))) (some (.int .i64 (((0 : Nat) : Int) + 1))) none).run Tryd.prog w = .ok (.string (dgt 0)) w := by kernel_rfl
theorem slice_dgt1 (w : World) : (Instr.slice 9 (.string ⟨#[48, 49, 50, 51, 52, 53, 54, 55, 56, 57]⟩) (some (.int .i64 (((1 : Nat) : Int)))) (some (.int .i64 (((1 : Nat) : Int) + 1))) none).run Tryd.prog w = .ok (.string (dgt 1)) w := by kernel_rfl
theorem slice_dgt2 (w : World) : (Instr.slice 9 (.string ⟨#[48, 49, 50, 51, 52, 53, 54, 55, 56, 57]⟩) (some (.int .i64 (((2 : Nat) : Int)))) (some (.int .i64 (((2 : Nat) : Int) + 1))) none).run Tryd.prog w = .ok (.string (dgt 2)) w := by kernel_rfl
theorem slice_dgt3 (w : World) : (Instr.slice 9 (.string ⟨#[48, 49, 50, 51, 52, 53, 54, 55, 56, 57]⟩) (some (.int .i64 (((3 : Nat) : Int)))) (some (.int .i64 (((3 : Nat) : Int) + 1))) none).run Tryd.prog w = .ok (.string (dgt 3)) w := by kernel_rfl
theorem slice_dgt4 (w : World) : (Instr.slice 9 (.string ⟨#[48, 49, 50, 51, 52, 53, 54, 55, 56, 57]⟩) (some (.int .i64 (((4 : Nat) : Int)))) (some (.int .i64 (((4 : Nat) : Int) + 1))) none).run Tryd.prog w = .ok (.string (dgt 4)) w := by kernel_rfl
theorem slice_dgt5 (w : World) : (Instr.slice 9 (.string ⟨#[48, 49, 50, 51, 52, 53, 54, 55, 56, 57]⟩) (some (.int .i64 (((5 : Nat) : Int)))) (some (.int .i64 (((5 : Nat) : Int) + 1))) none).run Tryd.prog w = .ok (.string (dgt 5)) w := by kernel_rfl
theorem slice_dgt6 (w : World) : (Instr.slice 9 (.string ⟨#[48, 49, 50, 51, 52, 53, 54, 55, 56, 57]⟩) (some (.int .i64 (((6 : Nat) : Int)))) (some (.int .i64 (((6 : Nat) : Int) + 1))) none).run Tryd.prog w = .ok (.string (dgt 6)) w := by kernel_rfl
theorem slice_dgt7 (w : World) : (Instr.slice 9 (.string ⟨#[48, 49, 50, 51, 52, 53, 54, 55, 56, 57]⟩) (some (.int .i64 (((7 : Nat) : Int)))) (some (.int .i64 (((7 : Nat) : Int) + 1))) none).run Tryd.prog w = .ok (.string (dgt 7)) w := by kernel_rfl
theorem slice_dgt8 (w : World) : (Instr.slice 9 (.string ⟨#[48, 49, 50, 51, 52, 53, 54, 55, 56, 57]⟩) (some (.int .i64 (((8 : Nat) : Int)))) (some (.int .i64 (((8 : Nat) : Int) + 1))) none).run Tryd.prog w = .ok (.string (dgt 8)) w := by kernel_rfl
theorem slice_dgt9 (w : World) : (Instr.slice 9 (.string ⟨#[48, 49, 50, 51, 52, 53, 54, 55, 56, 57]⟩) (some (.int .i64 (((9 : Nat) : Int)))) (some (.int .i64 (((9 : Nat) : Int) + 1))) none).run Tryd.prog w = .ok (.string (dgt 9)) w := by kernel_rfl
theorem slice_dgt (d : Nat) (h : d ≤ 9) (w : World) : (Instr.slice 9 (.string ⟨#[48, 49, 50, 51, 52, 53, 54, 55, 56, 57]⟩) (some (.int .i64 ((d : Int)))) (some (.int .i64 ((d : Int) + 1))) none).run Tryd.prog w = .ok (.string (dgt d)) w := by
  match d, h with
  | 0, _ => exact slice_dgt0 w
  | 1, _ => exact slice_dgt1 w
  | 2, _ => exact slice_dgt2 w
  | 3, _ => exact slice_dgt3 w
  | 4, _ => exact slice_dgt4 w
  | 5, _ => exact slice_dgt5 w
  | 6, _ => exact slice_dgt6 w
  | 7, _ => exact slice_dgt7 w
  | 8, _ => exact slice_dgt8 w
  | 9, _ => exact slice_dgt9 w
theorem dgt_size (d : Nat) : (dgt d).size = 1 := rfl
theorem bytesOf_append (a b : List UInt8) : bytesOf a ++ bytesOf b = bytesOf (a ++ b) := by
  apply ByteArray.ext; simp [bytesOf]
theorem bytesOf_size (a : List UInt8) : (bytesOf a).size = a.length := by simp [bytesOf, ByteArray.size]
theorem dz_len (k : Nat) : ∀ u, u < 10 ^ k → (dz u).length ≤ k := by
  induction k with
  | zero => intro u h; have : u = 0 := by simpa using h
            subst this; simp [dz]
  | succ k ih =>
    intro u h
    rw [dz]
    split
    · simp
    · have := ih (u / 10) (by rw [Nat.pow_succ] at h; omega)
      simp; omega
theorem dz_zero : dz 0 = [] := by simp [dz]
theorem dz_pos (u : Nat) (h : 0 < u) : dz u = dz (u / 10) ++ [UInt8.ofNat (48 + u % 10)] := by rw [dz]; rw [dif_neg (by omega)]
theorem wrap_small (x : Int) (h : -9223372036854775808 ≤ x) (h' : x < 9223372036854775808) : wrap64 x = x := by unfold wrap64; omega
theorem neg_rem (a : Int) (h : a < 0) : ∃ d : Nat, wrap64 (-a.tmod 10) = (d : Int) ∧ d ≤ 9 ∧ d = a.natAbs % 10 := by
  refine ⟨a.natAbs % 10, ?_, by omega, rfl⟩
  have e : -a.tmod 10 = ((a.natAbs % 10 : Nat) : Int) := by
    have : a = -(a.natAbs : Int) := by omega
    rw [this, Int.neg_tmod, Int.neg_neg, Int.natAbs_neg, Int.natAbs_natCast]
    rfl
  rw [e, wrap_small _ (by omega) (by omega)]
theorem neg_quo (a : Int) (h : a < 0) (h' : -9223372036854775808 ≤ a) : ∃ q : Int, wrap64 (a.tdiv 10) = q ∧ a.tdiv 10 = q ∧ q ≤ 0 ∧ a < q ∧ -9223372036854775808 ≤ q ∧ q.natAbs = a.natAbs / 10 := by
  have e : a.tdiv 10 = -((a.natAbs / 10 : Nat) : Int) := by
    have : a = -(a.natAbs : Int) := by omega
    rw [this, Int.neg_tdiv, Int.natAbs_neg, Int.natAbs_natCast]
    rfl
  refine ⟨a.tdiv 10, ?_, rfl, ?_, ?_, ?_, ?_⟩
  · rw [wrap_small _ (by omega) (by omega)]
  all_goals rw [e]; omega

set_option maxRecDepth 100000 in
set_option maxHeartbeats 1000000 in
theorem text_neg (n : Int) (w : World) (h0 : n < 0) (h1 : -9223372036854775808 ≤ n) :
    Calls Tryd.prog 74 #[.int .i64 n] w fun e w' => e = .returned (.string (bytesOf (45 :: dz n.natAbs))) ∧ w' = w := by
  go_enter Tryd.func74, Tryd.ntmps74
  go_wp2
  go_loop [0, 3] (fun v s => ∃ (a : Int) (l : List UInt8), a ≤ 0 ∧ -9223372036854775808 ≤ a ∧ dz n.natAbs = dz a.natAbs ++ l ∧ v = .int .i64 a ∧ s = .string (bytesOf l)) (fun v _ => (-(intOf v)).toNat)
  case atStart => exact ⟨n, [], by omega, h1, by simp, rfl, rfl⟩
  case round =>
    obtain ⟨a, l, ha, hu, hd, rfl, rfl⟩ := hrel
    have hsz : (bytesOf l).size ≤ 19 := by
      have := dz_len 19 n.natAbs (by omega)
      rw [hd] at this
      rw [bytesOf_size]; simp at this; omega
    by_cases hz : a = 0
    · subst hz
      have hd' := Lib.hid hd
      clear hd
      go_wp2
      go_ret
      refine ⟨?_, rfl⟩
      have := hd'.out
      simp [dz_zero] at this
      rw [this]
      exact congrArg (fun b => Ending.returned (Value.string b)) (bytesOf_append [45] l)
    · have hz' : a < 0 := by omega
      have hd' := Lib.hid hd
      clear hd hz h1
      obtain ⟨d, hdd, hd9, hdv⟩ := neg_rem a hz'
      have hdv' := Lib.hid hdv
      obtain ⟨q, hq1, hq2, hq3, hq4, hq5, hq6⟩ := neg_quo a hz' hu
      have hq6' := Lib.hid hq6
      clear hdv hq6
      have hsl := slice_dgt d hd9
      have hs1 := dgt_size d
      go_wp2
      go_round
      case rel =>
        refine ⟨q, UInt8.ofNat (48 + d) :: l, hq3, hq5, ?_, rfl, congrArg Value.string (bytesOf_append [UInt8.ofNat (48 + d)] l)⟩
        rw [hd'.out, dz_pos a.natAbs (by omega), hq6'.out, hdv'.out]
        simp
      case measure => simp [intOf]; omega

theorem dz_dec : ∀ u : Nat, 0 < u → dz u = Lib.decDigits u := by
  intro u
  induction u using Nat.strongRecOn with
  | _ u ih =>
    intro h
    rw [dz_pos u h, Lib.decDigits]
    by_cases hu : u < 10
    · rw [dif_pos hu, show u / 10 = 0 by omega, dz_zero, show u % 10 = u by omega]; rfl
    · rw [dif_neg hu, ih (u / 10) (by omega) (by omega)]
theorem dec_len (k : Nat) : ∀ u, u < 10 ^ (k + 1) → (Lib.decDigits u).length ≤ k + 1 := by
  induction k with
  | zero => intro u h; rw [Lib.decDigits, dif_pos (by simpa using h)]; simp
  | succ k ih =>
    intro u h
    rw [Lib.decDigits]
    split
    · simp
    · have := ih (u / 10) (by rw [Nat.pow_succ] at h; omega)
      simp; omega
theorem pos_rem (a : Int) (h : 0 ≤ a) : ∃ d : Nat, a % 10 = (d : Int) ∧ d ≤ 9 ∧ d = a.toNat % 10 := ⟨a.toNat % 10, by omega, by omega, rfl⟩

set_option maxRecDepth 100000 in
set_option maxHeartbeats 1000000 in
theorem text_pos (n : Int) (w : World) (h0 : 0 ≤ n) (h1 : n < 9223372036854775808) :
    Calls Tryd.prog 74 #[.int .i64 n] w fun e w' => e = .returned (.string (bytesOf (Lib.decDigits n.toNat))) ∧ w' = w := by
  obtain ⟨d, hdd, hd9, hdv⟩ := pos_rem n h0
  have hdv' := Lib.hid hdv
  have hsl := slice_dgt d hd9
  have hs1 := dgt_size d
  clear hdv
  go_enter Tryd.func74, Tryd.ntmps74
  go_wp2
  go_loop [0, 5] (fun v s => ∃ (a : Int) (l : List UInt8), 0 ≤ a ∧ a < 9223372036854775808 ∧ Lib.decDigits n.toNat = (if a.toNat < 10 then [] else Lib.decDigits (a.toNat / 10)) ++ l ∧ v = .int .i64 a ∧ s = .string (bytesOf l)) (fun v _ => (intOf v).toNat)
  case atStart =>
    refine ⟨n, [UInt8.ofNat (48 + d)], h0, h1, ?_, rfl, rfl⟩
    rw [Lib.decDigits, hdv'.out]
    split
    · rename_i h; rw [show n.toNat % 10 = n.toNat by omega]; rfl
    · rfl
  case round =>
    clear hsl hs1 hdd hdv' hd9
    obtain ⟨a, l, ha, hu, hd, rfl, rfl⟩ := hrel
    have hsz : (bytesOf l).size ≤ 19 := by
      have := dec_len 18 n.toNat (by omega)
      rw [hd] at this
      rw [bytesOf_size]; simp at this; omega
    have hd' := Lib.hid hd
    clear hd
    by_cases hz : a < 10
    · go_wp2
      go_ret
      refine ⟨?_, rfl⟩
      have := hd'.out
      rw [if_pos (by omega)] at this
      rw [this]; rfl
    · have hz' : 10 ≤ a := by omega
      clear hz
      obtain ⟨d2, hdd, hd9, hdv⟩ := pos_rem (a / 10) (by omega)
      have hdv' := Lib.hid hdv
      clear hdv
      have hsl := slice_dgt d2 hd9
      have hs1 := dgt_size d2
      go_wp2
      go_round
      case rel =>
        refine ⟨a / 10, UInt8.ofNat (48 + d2) :: l, by omega, by omega, ?_, rfl, congrArg Value.string (bytesOf_append [UInt8.ofNat (48 + d2)] l)⟩
        rw [hd'.out, if_neg (by omega), Lib.decDigits, hdv'.out, show (a / 10).toNat = a.toNat / 10 by omega]
        by_cases h10 : a.toNat / 10 < 10
        · rw [dif_pos h10, if_pos h10, show a.toNat / 10 % 10 = a.toNat / 10 by omega]; simp
        · rw [dif_neg h10, if_neg h10]; simp
      case measure => simp [intOf]; omega

theorem text_any (n : Int) (w : World) (h0 : -9223372036854775808 ≤ n) (h1 : n < 9223372036854775808) :
    Calls Tryd.prog 74 #[.int .i64 n] w fun e w' => e = .returned (.string (bytesOf (Lib.itoa n))) ∧ w' = w := by
  by_cases h : n < 0
  · have := text_neg n w h h0
    rw [dz_dec _ (by omega)] at this
    unfold Lib.itoa
    rw [if_pos h]
    exact this
  · unfold Lib.itoa
    rw [if_neg h]
    exact text_pos n w (by omega) h1
end Go.Proofs.YtceddcogpigolaaDoor
