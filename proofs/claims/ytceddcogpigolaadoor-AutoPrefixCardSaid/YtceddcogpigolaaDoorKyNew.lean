/- order.Keys.Reset, Cap and order.New by contracts. -/
import Derived.Test.YtceddcogpigolaaDoorOrder
import Derived.StillTailTactics
import Derived.BigQuiet
namespace Go.Proofs.YtceddcogpigolaaDoor
open Go.RowKit Go.Sort

def Ky.reset (s : Ky) : Ky := ⟨[], [], s.now, false⟩
theorem Buf.clear' {w : World} {x most : Nat} {l : List Int} (h : Buf w x most l) : Buf w x most [] := by
  obtain ⟨r, h1, h2⟩ := h
  exact ⟨l.map u8v ++ r, h1, by simpa using h2⟩

set_option maxRecDepth 100000 in
set_option maxHeartbeats 8000000 in
theorem ky_reset (k x y most : Nat) (s : Ky) (w : World) (hs : s.sits w k x y most) :
    Calls Tryd.prog 237 #[.pointer (some ⟨k, 0, none⟩)] w fun e w' => e = .returned (.tuple #[]) ∧ s.reset.sits w' k x y most ∧ Only (· = k) w w' := by
  obtain ⟨l0, l1, now, ended⟩ := s
  have hc := hs.head.at
  have f0 := hs.head.thaw 0 none
  have f1 := hs.head.thaw 1 none
  have f3 := hs.head.thaw 3 none
  simp only [sl] at hc
  have HS := Lib.hid hs
  clear hs
  go_enter Tryd.func237, Tryd.ntmps237
  go_wp2_with fail
  refine name_world (fun w2 => Blk w2 k [sl x l0.length most, sl y l1.length most, .int .i64 (if now then 1 else 0), .bool false] 258 ∧ Only (· = k) w w2) ⟨HS.out.head.set 3 _, (Only.refl _ _).put _ _⟩ ?_
  rintro w2 ⟨B2, O2⟩
  clear hc f3 f0 f1
  have hc := B2.at
  have f0 := B2.thaw 0 none
  have f1 := B2.thaw 1 none
  have HB2 := Lib.hid B2
  have HO2 := Lib.hid O2
  clear B2 O2
  simp only [sl] at hc
  go_still_tail 14, (by kernel_rfl)
  change wpList _ _ _ _ _ w2.drew
  go_wp2_with fail
  go_returns
  refine ⟨rfl, ⟨((HB2.out.set 0 _).set 1 _).drew, ?_, ?_, HS.out.kx, HS.out.ky, HS.out.xy⟩, ?_⟩
  · exact ((((HS.out.b0.only HO2.out (Ne.symm HS.out.kx)).far (a := ⟨k, 0, none⟩) HS.out.kx _).far (a := ⟨k, 1, none⟩) HS.out.kx _).clear').drew
  · exact ((((HS.out.b1.only HO2.out (Ne.symm HS.out.ky)).far (a := ⟨k, 0, none⟩) HS.out.ky _).far (a := ⟨k, 1, none⟩) HS.out.ky _).clear').drew
  · exact ((HO2.out.put _ _).put _ _).drew

theorem ky_cap (k x y most : Nat) (s : Ky) (w : World) (hs : s.sits w k x y most) (hm : most ≤ 1024) :
    Calls Tryd.prog 122 #[.pointer (some ⟨k, 0, none⟩)] w fun e w' => e = .returned (.int .i64 ((2 * most : Nat) : Int)) ∧ ∃ n, w' = w.drewN n := by
  obtain ⟨l0, l1, now, ended⟩ := s
  have hc := hs.head.at
  simp only [sl] at hc
  have m0 : (0 : Int) ≤ (most : Int) := by omega
  have m1 : (most : Int) ≤ 1024 := by omega
  clear hs
  go_enter Tryd.func122, Tryd.ntmps122
  go_wp2_with fail
  go_quiet (fail)
  go_wp2_with fail
  go_returns
  exact ⟨by have e : (most : Int) + (most : Int) = ((2 * most : Nat) : Int) := by omega
            show Ending.returned (.int .i64 ((most : Int) + (most : Int))) = _
            rw [e], _, rfl⟩

theorem info5 : (Tryd.prog.info? 5).map (fun i => (i.zero, i.size, i.bytes)) = some (some (.int .u8 0), 1, 1) := by kernel_rfl
theorem make59 (most : Nat) (hm1 : most ≤ 1024) : ∃ cs : Array Value, cs.size = most ∧ ∀ w, (Instr.makeSlice 59 (.int .i64 0) (.int .i64 (most : Int))).run Tryd.prog w = .ok (.slice (some ⟨w.heap.size, 0, none⟩) 0 most) (w.alloc (.cells cs 5)) := by
  obtain ⟨i0, hi, hz0, hz1, hz2⟩ := info_parts info5
  refine ⟨madeCells (Value.int .u8 0).cells (most * 1), by rw [size_madeCells]; omega, fun w => ?_⟩
  have := run_makeSlice (P := Tryd.prog) (w := w) 59 5 i0 (.int .u8 0) Tryd.underlying59 hi hz0 .i64 .i64 0 (most : Int) (by omega) (by omega) (by rw [hz1]; simp; omega) (by rw [hz2]; omega) (by omega)
  rw [hz1] at this
  simpa using this
theorem Buf.new (w : World) (cs : Array Value) : Buf (w.alloc (.cells cs 5)) w.heap.size cs.size [] := ⟨cs.toList, Blk.new w cs 5, by simp⟩

theorem Blk.new' {w : World} {n : Nat} (h : w.heap.size = n) (cs : Array Value) (t : TypeId) : Blk (w.alloc (.cells cs t)) n cs.toList t := h ▸ Blk.new w cs t
theorem Buf.new' {w : World} {n : Nat} (h : w.heap.size = n) (cs : Array Value) : Buf (w.alloc (.cells cs 5)) n cs.size [] := h ▸ Buf.new w cs
theorem ky_laid {w : World} {cs : Array Value} {most : Nat} (hcs : cs.size = most) (x y : Nat) (h : x = w.heap.size ∧ y = w.heap.size + 1 ∨ x = w.heap.size + 1 ∧ y = w.heap.size) :
    Ky.sits ⟨[], [], false, false⟩ (((w.alloc (.cells cs 5)).alloc (.cells cs 5)).alloc (.cells #[.slice (some ⟨x, 0, none⟩) 0 most, .slice (some ⟨y, 0, none⟩) 0 most, .int .i64 0, .bool false] 258)).drew (w.heap.size + 1 + 1) x y most := by
  subst hcs
  have b0 : Buf (((w.alloc (.cells cs 5)).alloc (.cells cs 5)).alloc (.cells #[.slice (some ⟨x, 0, none⟩) 0 cs.size, .slice (some ⟨y, 0, none⟩) 0 cs.size, .int .i64 0, .bool false] 258)).drew w.heap.size cs.size [] := (((Buf.new w cs).alloc _).alloc _).drew
  have b1 : Buf (((w.alloc (.cells cs 5)).alloc (.cells cs 5)).alloc (.cells #[.slice (some ⟨x, 0, none⟩) 0 cs.size, .slice (some ⟨y, 0, none⟩) 0 cs.size, .int .i64 0, .bool false] 258)).drew (w.heap.size + 1) cs.size [] := ((Buf.new' (by simp) cs).alloc _).drew
  have hd : Blk (((w.alloc (.cells cs 5)).alloc (.cells cs 5)).alloc (.cells #[.slice (some ⟨x, 0, none⟩) 0 cs.size, .slice (some ⟨y, 0, none⟩) 0 cs.size, .int .i64 0, .bool false] 258)).drew (w.heap.size + 1 + 1) [sl x 0 cs.size, sl y 0 cs.size, .int .i64 0, .bool false] 258 := (Blk.new' (by simp) _ _).drew
  rcases h with ⟨rfl, rfl⟩ | ⟨rfl, rfl⟩
  · exact ⟨hd, b0, b1, by omega, by omega, by omega⟩
  · exact ⟨hd, b1, b0, by omega, by omega, by omega⟩

set_option maxRecDepth 100000 in
set_option maxHeartbeats 8000000 in
theorem ky_new (most : Nat) (hm : 1 ≤ most) (hm1 : most ≤ 1024) (w : World) :
    Calls Tryd.prog 120 #[.int .i64 most] w fun e w' => ∃ k x y, e = .returned (.pointer (some ⟨k, 0, none⟩)) ∧ Ky.sits ⟨[], [], false, false⟩ w' k x y most ∧ Below w.heap.size w w' ∧ w.heap.size ≤ k ∧ w.heap.size ≤ x ∧ w.heap.size ≤ y := by
  have m0 : (0 : Int) ≤ (most : Int) := by omega
  have m1 : (most : Int) ≤ 1024 := by omega
  obtain ⟨cs, hcs, hmk⟩ := make59 most hm1
  have HC := Lib.hid hcs
  clear hcs
  go_enter Tryd.func120, Tryd.ntmps120
  go_wp2_with fail
  go_region
  · go_wp2_with fail
    go_returns
    exact ⟨_, w.heap.size, w.heap.size + 1, rfl, ky_laid HC.out _ _ (.inl ⟨rfl, rfl⟩), by go_grown, by omega, by omega, by omega⟩
  · go_wp2_with fail
    go_returns
    exact ⟨_, w.heap.size + 1, w.heap.size, rfl, ky_laid HC.out _ _ (.inr ⟨rfl, rfl⟩), by go_grown, by omega, by omega, by omega⟩

end Go.Proofs.YtceddcogpigolaaDoor
