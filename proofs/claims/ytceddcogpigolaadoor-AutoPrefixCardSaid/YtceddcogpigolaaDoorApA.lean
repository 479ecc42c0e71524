/- ullagelaw14.awake by contract. -/
import Derived.Test.YtceddcogpigolaaDoorAuLaw
namespace Go.Proofs.YtceddcogpigolaaDoor
open Go.RowKit Go.Sort

theorem Dbl.drewN {w : World} (h : Dbl w) (n : Nat) : Dbl (w.drewN n) := h
theorem Bys.of_blk {w : World} {b n : Nat} {t : TypeId} {bs : List Int} (h : Blk w b (bs.map u8v) t) (hb : ∀ x ∈ bs, 0 ≤ x ∧ x < 256) (hn : n = b) : Bys w (some ⟨n, 0, none⟩) bs := by
  subst hn
  exact ⟨hb, .inr ⟨n, 0, rfl, fun k x hk => by rw [Nat.zero_add]; exact h.cell k (by rw [List.getElem?_map, hk]; rfl)⟩⟩
set_option maxRecDepth 100000 in
set_option maxHeartbeats 8000000 in
theorem awake14 (w : World) (hd : Dbl w) : Calls Tryd.prog 31 #[] w fun e w' => e = .returned (.bool true) ∧ Below w.heap.size w w' := by
  have q1 : ∀ W, (binOp .eql 28 (.agg #[.int .i64 9, .int .i64 2]) (.agg #[.int .i64 9, .int .i64 2])).run Tryd.prog W = .ok (.bool true) W := fun _ => by kernel_rfl
  have q2 : ∀ W, (binOp .eql 28 (.agg #[.int .i64 5, .int .i64 1]) (.agg #[.int .i64 5, .int .i64 1])).run Tryd.prog W = .ok (.bool true) W := fun _ => by kernel_rfl
  have q3 : ∀ W, (binOp .eql 28 (.agg #[.int .i64 0, .int .i64 0]) (.agg #[.int .i64 0, .int .i64 0])).run Tryd.prog W = .ok (.bool true) W := fun _ => by kernel_rfl
  have D := Lib.hid hd
  have W1 := Lib.hid (fun (a : Option Addr) W hb hd => whole_c a 2 [130, 1] ⟨4, 9, 99⟩ W hb (by decide) hd)
  have W2 := Lib.hid (fun (a : Option Addr) W hb hd => whole_c a 2 [24, 23] ⟨4, 9, 99⟩ W hb (by decide) hd)
  have W3 := Lib.hid (fun (a : Option Addr) W hb hd => whole_c a 1 [1] ⟨4, 9, 99⟩ W hb (by decide) hd)
  rw [awake_1] at W1
  rw [awake_2] at W2
  rw [awake_3] at W3
  unfold Li.val verV at W1 W2 W3
  dsimp only at W1 W2 W3
  clear hd
  go_enter Tryd.func31, Tryd.ntmps31
  go_wp2_with fail
  refine name_calls (fun W => Below w.heap.size w W ∧ Blk W w.heap.size [.int .i64 4, .int .i64 9, .int .i64 99] 61 ∧ Blk W (w.heap.size + 1) ([130, 1].map u8v) 5) ⟨by go_grown, (Blk.new w _ _).alloc _, Blk.new' (by simp) _ _⟩ ?_
  rintro V ⟨hB, hL, hS⟩
  refine (W1.out _ V (Bys.of_blk hS (by decide) rfl) (D.out.below hB)).mono ?_
  rintro ev V1 ⟨rfl, hb1⟩
  have B1 := Lib.hid (below_then hB hb1)
  have L1 := Lib.hid (hL.below hb1)
  have hc := L1.out.at
  have lt := L1.out.lt
  clear hB hL hS hb1
  go_wp2_with fail
  refine name_calls (fun W => Below w.heap.size w W ∧ Blk W w.heap.size [.int .i64 4, .int .i64 9, .int .i64 99] 61 ∧ Blk W V1.heap.size ([24, 23].map u8v) 5) ⟨B1.out.alloc B1.out.size _, L1.out.alloc _, Blk.new V1 _ _⟩ ?_
  rintro V2 ⟨hB, hL, hS⟩
  clear hc lt
  refine (W2.out _ V2 (Bys.of_blk hS (by decide) rfl) (D.out.below hB)).mono ?_
  rintro ev V3 ⟨rfl, hb1⟩
  have B3 := Lib.hid (below_then hB hb1)
  have L3 := Lib.hid (hL.below hb1)
  have hc := L3.out.at
  have lt := L3.out.lt
  clear hB hL hS hb1
  go_wp2_with fail
  refine name_calls (fun W => Below w.heap.size w W ∧ Blk W V3.heap.size ([1].map u8v) 5) ⟨B3.out.alloc B3.out.size _, Blk.new V3 _ _⟩ ?_
  rintro V4 ⟨hB, hS⟩
  clear hc lt
  refine (W3.out _ V4 (Bys.of_blk hS (by decide) rfl) (D.out.below hB)).mono ?_
  rintro ev V5 ⟨rfl, hb1⟩
  have B5 := Lib.hid (below_then hB hb1)
  clear hB hS hb1
  go_wp2_with fail
  go_returns
  exact ⟨rfl, B5.out⟩

end Go.Proofs.YtceddcogpigolaaDoor
