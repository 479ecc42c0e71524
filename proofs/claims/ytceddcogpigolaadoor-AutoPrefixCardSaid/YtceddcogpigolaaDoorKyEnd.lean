/- order.Ahead, order.Keys.End, Reset and Cap by contracts. -/
import Derived.Test.YtceddcogpigolaaDoorOrder
import Derived.StillTailTactics
namespace Go.Proofs.YtceddcogpigolaaDoor
open Go.RowKit Go.Sort

def cmpL (a b : List Int) : Int := Lib.compareBytes (Lib.bytesOf a) (Lib.bytesOf b)
theorem Buf.loads {w : World} {x most : Nat} {l : List Int} (h : Buf w x most l) : (Extern.Bytes.bytesOf (sl x l.length most)).run Tryd.prog w = .ok ⟨(Lib.bytesOf l).toArray⟩ w := by
  obtain ⟨r, h1, h2⟩ := h
  have hl := Lib.run_loadBytesX (P := Tryd.prog) w l ⟨x, 0, none⟩ .empty (fun j v hj => by
    have hjl : j < l.length := (List.getElem?_eq_some_iff.1 hj).1
    rw [Addr.add_mid, Nat.zero_add]
    refine h1.cell j ?_
    rw [List.getElem?_append_left (by simpa using hjl), List.getElem?_map, hj]
    rfl)
  have he : (⟨ByteArray.empty.data ++ (Lib.bytesOf l).toArray⟩ : ByteArray) = ⟨(Lib.bytesOf l).toArray⟩ := by
    apply ByteArray.ext
    show (#[] : Array UInt8) ++ (Lib.bytesOf l).toArray = (Lib.bytesOf l).toArray
    simp
  rw [he] at hl
  exact hl
theorem run_compare {w : World} {x y most : Nat} {a b : List Int} (ha : Buf w x most a) (hb : Buf w y most b) :
    (callFunc 228 #[sl x a.length most, sl y b.length most]).run Tryd.prog w = .ok (.value (.int .i64 (cmpL a b))) w := by
  rw [run_callFunc_extern Tryd.func228 (by kernel_rfl) (by kernel_rfl) (by kernel_rfl) (by kernel_rfl)]
  have : (Extern.BytealgCompare.compare #[sl x a.length most, sl y b.length most]).run Tryd.prog w = .ok (.int .i64 (cmpL a b)) w := by
    change Sem.run Tryd.prog (do pure (goInt (Extern.BytealgCompare.cmp (← Extern.Bytes.bytesOf (sl x a.length most)) (← Extern.Bytes.bytesOf (sl y b.length most))))) w = _
    simp only [Sem.run_bind, ha.loads, hb.loads, Sem.run_pure, Result.andThen]
    rw [Lib.cmp_eq]
    rfl
  rw [this]
  rfl
def lexB (a b : List Int) : Bool := decide (cmpL a b < 0)
theorem ahead {w : World} {x y most : Nat} {a b : List Int} (ha : Buf w x most a) (hb : Buf w y most b) :
    Calls Tryd.prog 248 #[sl x a.length most, sl y b.length most] w fun e w' => e = .returned (.bool (lexB a b)) ∧ w' = w := by
  have R := run_compare ha hb
  have U := Lib.hid (show lexB a b = decide (cmpL a b < 0) from rfl)
  generalize cmpL a b = z at R U
  generalize lexB a b = q at U
  clear ha hb
  simp only [sl] at R ⊢
  go_enter Tryd.func248, Tryd.ntmps248
  go_wp2_with fail
  go_enter Tryd.func200, Tryd.ntmps200
  go_wp2_with fail
  go_returns
  exact ⟨by rw [U.out]; rfl, rfl⟩

theorem Buf.below {w w' : World} {x most : Nat} {l : List Int} (hb : Buf w x most l) (h : Below w.heap.size w w') : Buf w' x most l := hb.only (Below.only h (fun _ => False)) (fun e => e)
theorem ahead_grown {w : World} {x y most : Nat} {a b : List Int} (ha : Buf w x most a) (hb : Buf w y most b) (d : Nat) (os : Array Obj) :
    Calls Tryd.prog 248 #[.slice (some ⟨x, 0, none⟩) a.length most, .slice (some ⟨y, 0, none⟩) b.length most] (grow (redrawn w d) os) fun e w'' => e = .returned (.bool (lexB a b)) ∧ ∃ p : Regrown, w'' = grow (redrawn w p.d) p.os :=
  Calls.regrown_of ((ahead (ha.below (below_regrown w d os)) (hb.below (below_regrown w d os))).mono fun _ _ ⟨h1, h2⟩ => ⟨h1, h2 ▸ Below.refl _ _⟩)
def Ky.ends (s : Ky) : Ky × Bool :=
  if s.now then (⟨[], s.l1, false, true⟩, !s.ended || lexB s.l0 s.l1) else (⟨s.l0, [], true, true⟩, !s.ended || lexB s.l1 s.l0)
theorem Buf.clear {w : World} {x most : Nat} {l : List Int} (h : Buf w x most l) : Buf w x most [] := by
  obtain ⟨r, h1, h2⟩ := h
  exact ⟨l.map u8v ++ r, h1, by simpa using h2⟩

set_option maxRecDepth 100000 in
set_option maxHeartbeats 8000000 in
theorem ky_end0f (k x y most : Nat) (l0 l1 : List Int) (w : World) (hs : Ky.sits ⟨l0, l1, false, false⟩ w k x y most) :
    Calls Tryd.prog 235 #[.pointer (some ⟨k, 0, none⟩)] w fun e w' => e = .returned (.bool (Ky.ends ⟨l0, l1, false, false⟩).2) ∧ (Ky.ends ⟨l0, l1, false, false⟩).1.sits w' k x y most ∧ Only (of3 k x y) w w' := by
  have c0 := hs.head.cell 0 (v := sl x l0.length most) rfl
  have c1 := hs.head.cell 1 (v := sl y l1.length most) rfl
  have c2 := hs.head.cell 2 (v := .int .i64 0) rfl
  have c3 := hs.head.cell 3 (v := .bool false) rfl
  simp only [sl] at c0 c1
  have HS := Lib.hid hs
  have A := Lib.hid (ahead_grown hs.b1 hs.b0)
  clear hs
  have k0 := cell_regrown c0
  have k1 := cell_regrown c1
  have k2 := cell_regrown c2
  have k3 := cell_regrown c3
  have U := Lib.hid (show Ky.ends ⟨l0, l1, false, false⟩ = (⟨l0, [], true, true⟩, !false || lexB l1 l0) from rfl)
  generalize Ky.ends ⟨l0, l1, false, false⟩ = res at U
  dsimp only at A
  generalize lexB l1 l0 = lx at U A
  go_enter Tryd.func235, Tryd.ntmps235
  go_wp2_with fail
  refine wp_region_qg (by kernel_rfl) (by kernel_rfl) ?_
  repeat (refine qg_step (fun K hK => ?_); go_simp; first | (refine hK _ ?_; clear hK K) | (apply Exists.intro; refine ⟨fun _ => ?_, hK _ ?_⟩; (with_reducible exact A.out _ _); clear hK K))
  refine qg_nil ?_
  intro w1 hw1
  obtain ⟨⟨dq, osq⟩, hw''⟩ := hw1
  have B1 := Lib.hid (show Below w.heap.size w w1 by rw [hw'']; exact below_regrown w dq osq)
  clear hw'' k0 k1 k2 k3 c0 c1 c2 c3
  have S1 := Lib.hid (HS.out.below B1.out)
  have hc := S1.out.head.at
  have f2 := S1.out.head.thaw 2 none
  have f3 := S1.out.head.thaw 3 none
  simp only [sl] at hc
  go_wp2_with fail
  refine name_world (fun w2 => Blk w2 k [sl x l0.length most, sl y l1.length most, .int .i64 1, .bool true] 258 ∧ Only (· = k) w1 w2) ⟨(S1.out.head.set 3 _).set 2 _, ((Only.refl _ _).put _ _).put _ _⟩ ?_
  rintro w2 ⟨B2, O2⟩
  clear hc f2 f3
  have hc := B2.at
  have f1 := B2.thaw 1 none
  have HB2 := Lib.hid B2
  have HO2 := Lib.hid O2
  clear B2 O2
  simp only [sl] at hc
  go_still_tail 12, (by kernel_rfl)
  change wpList _ _ _ _ _ w2.drew
  go_wp2_with fail
  go_returns
  rw [U.out]
  refine ⟨rfl, ⟨(HB2.out.set 1 _).drew, ?_, ?_, HS.out.kx, HS.out.ky, HS.out.xy⟩, ?_⟩
  · exact (((S1.out.b0.only HO2.out (Ne.symm S1.out.kx)).far (a := ⟨k, 1, none⟩) S1.out.kx _)).drew
  · exact (((S1.out.b1.only HO2.out (Ne.symm S1.out.ky)).far (a := ⟨k, 1, none⟩) S1.out.ky _).clear).drew
  · exact (Below.only B1.out _).trans (((HO2.out.mono (fun _ _ h => .inl h)).one k 1 (.inl rfl) _).drew)

set_option maxRecDepth 100000 in
set_option maxHeartbeats 8000000 in
theorem ky_end0t (k x y most : Nat) (l0 l1 : List Int) (w : World) (hs : Ky.sits ⟨l0, l1, false, true⟩ w k x y most) :
    Calls Tryd.prog 235 #[.pointer (some ⟨k, 0, none⟩)] w fun e w' => e = .returned (.bool (Ky.ends ⟨l0, l1, false, true⟩).2) ∧ (Ky.ends ⟨l0, l1, false, true⟩).1.sits w' k x y most ∧ Only (of3 k x y) w w' := by
  have c0 := hs.head.cell 0 (v := sl x l0.length most) rfl
  have c1 := hs.head.cell 1 (v := sl y l1.length most) rfl
  have c2 := hs.head.cell 2 (v := .int .i64 0) rfl
  have c3 := hs.head.cell 3 (v := .bool true) rfl
  simp only [sl] at c0 c1
  have HS := Lib.hid hs
  have A := Lib.hid (ahead_grown hs.b1 hs.b0)
  clear hs
  have k0 := cell_regrown c0
  have k1 := cell_regrown c1
  have k2 := cell_regrown c2
  have k3 := cell_regrown c3
  have U := Lib.hid (show Ky.ends ⟨l0, l1, false, true⟩ = (⟨l0, [], true, true⟩, !true || lexB l1 l0) from rfl)
  generalize Ky.ends ⟨l0, l1, false, true⟩ = res at U
  dsimp only at A
  generalize lexB l1 l0 = lx at U A
  go_enter Tryd.func235, Tryd.ntmps235
  go_wp2_with fail
  refine wp_region_qg (by kernel_rfl) (by kernel_rfl) ?_
  repeat (refine qg_step (fun K hK => ?_); go_simp; first | (refine hK _ ?_; clear hK K) | (apply Exists.intro; refine ⟨fun _ => ?_, hK _ ?_⟩; (with_reducible exact A.out _ _); clear hK K))
  refine qg_nil ?_
  intro w1 hw1
  obtain ⟨⟨dq, osq⟩, hw''⟩ := hw1
  have B1 := Lib.hid (show Below w.heap.size w w1 by rw [hw'']; exact below_regrown w dq osq)
  clear hw'' k0 k1 k2 k3 c0 c1 c2 c3
  have S1 := Lib.hid (HS.out.below B1.out)
  have hc := S1.out.head.at
  have f2 := S1.out.head.thaw 2 none
  have f3 := S1.out.head.thaw 3 none
  simp only [sl] at hc
  go_wp2_with fail
  refine name_world (fun w2 => Blk w2 k [sl x l0.length most, sl y l1.length most, .int .i64 1, .bool true] 258 ∧ Only (· = k) w1 w2) ⟨(S1.out.head.set 3 _).set 2 _, ((Only.refl _ _).put _ _).put _ _⟩ ?_
  rintro w2 ⟨B2, O2⟩
  clear hc f2 f3
  have hc := B2.at
  have f1 := B2.thaw 1 none
  have HB2 := Lib.hid B2
  have HO2 := Lib.hid O2
  clear B2 O2
  simp only [sl] at hc
  go_still_tail 12, (by kernel_rfl)
  change wpList _ _ _ _ _ w2.drew
  go_wp2_with fail
  go_returns
  rw [U.out]
  refine ⟨rfl, ⟨(HB2.out.set 1 _).drew, ?_, ?_, HS.out.kx, HS.out.ky, HS.out.xy⟩, ?_⟩
  · exact (((S1.out.b0.only HO2.out (Ne.symm S1.out.kx)).far (a := ⟨k, 1, none⟩) S1.out.kx _)).drew
  · exact (((S1.out.b1.only HO2.out (Ne.symm S1.out.ky)).far (a := ⟨k, 1, none⟩) S1.out.ky _).clear).drew
  · exact (Below.only B1.out _).trans (((HO2.out.mono (fun _ _ h => .inl h)).one k 1 (.inl rfl) _).drew)

set_option maxRecDepth 100000 in
set_option maxHeartbeats 8000000 in
theorem ky_end1f (k x y most : Nat) (l0 l1 : List Int) (w : World) (hs : Ky.sits ⟨l0, l1, true, false⟩ w k x y most) :
    Calls Tryd.prog 235 #[.pointer (some ⟨k, 0, none⟩)] w fun e w' => e = .returned (.bool (Ky.ends ⟨l0, l1, true, false⟩).2) ∧ (Ky.ends ⟨l0, l1, true, false⟩).1.sits w' k x y most ∧ Only (of3 k x y) w w' := by
  have c0 := hs.head.cell 0 (v := sl x l0.length most) rfl
  have c1 := hs.head.cell 1 (v := sl y l1.length most) rfl
  have c2 := hs.head.cell 2 (v := .int .i64 1) rfl
  have c3 := hs.head.cell 3 (v := .bool false) rfl
  simp only [sl] at c0 c1
  have HS := Lib.hid hs
  have A := Lib.hid (ahead_grown hs.b0 hs.b1)
  clear hs
  have k0 := cell_regrown c0
  have k1 := cell_regrown c1
  have k2 := cell_regrown c2
  have k3 := cell_regrown c3
  have U := Lib.hid (show Ky.ends ⟨l0, l1, true, false⟩ = (⟨[], l1, false, true⟩, !false || lexB l0 l1) from rfl)
  generalize Ky.ends ⟨l0, l1, true, false⟩ = res at U
  dsimp only at A
  generalize lexB l0 l1 = lx at U A
  go_enter Tryd.func235, Tryd.ntmps235
  go_wp2_with fail
  refine wp_region_qg (by kernel_rfl) (by kernel_rfl) ?_
  repeat (refine qg_step (fun K hK => ?_); go_simp; first | (refine hK _ ?_; clear hK K) | (apply Exists.intro; refine ⟨fun _ => ?_, hK _ ?_⟩; (with_reducible exact A.out _ _); clear hK K))
  refine qg_nil ?_
  intro w1 hw1
  obtain ⟨⟨dq, osq⟩, hw''⟩ := hw1
  have B1 := Lib.hid (show Below w.heap.size w w1 by rw [hw'']; exact below_regrown w dq osq)
  clear hw'' k0 k1 k2 k3 c0 c1 c2 c3
  have S1 := Lib.hid (HS.out.below B1.out)
  have hc := S1.out.head.at
  have f2 := S1.out.head.thaw 2 none
  have f3 := S1.out.head.thaw 3 none
  simp only [sl] at hc
  go_wp2_with fail
  refine name_world (fun w2 => Blk w2 k [sl x l0.length most, sl y l1.length most, .int .i64 0, .bool true] 258 ∧ Only (· = k) w1 w2) ⟨(S1.out.head.set 3 _).set 2 _, ((Only.refl _ _).put _ _).put _ _⟩ ?_
  rintro w2 ⟨B2, O2⟩
  clear hc f2 f3
  have hc := B2.at
  have f1 := B2.thaw 0 none
  have HB2 := Lib.hid B2
  have HO2 := Lib.hid O2
  clear B2 O2
  simp only [sl] at hc
  go_still_tail 12, (by kernel_rfl)
  change wpList _ _ _ _ _ w2.drew
  go_wp2_with fail
  go_returns
  rw [U.out]
  refine ⟨rfl, ⟨(HB2.out.set 0 _).drew, ?_, ?_, HS.out.kx, HS.out.ky, HS.out.xy⟩, ?_⟩
  · exact (((S1.out.b0.only HO2.out (Ne.symm S1.out.kx)).far (a := ⟨k, 0, none⟩) S1.out.kx _).clear).drew
  · exact (((S1.out.b1.only HO2.out (Ne.symm S1.out.ky)).far (a := ⟨k, 0, none⟩) S1.out.ky _)).drew
  · exact (Below.only B1.out _).trans (((HO2.out.mono (fun _ _ h => .inl h)).one k 0 (.inl rfl) _).drew)

set_option maxRecDepth 100000 in
set_option maxHeartbeats 8000000 in
theorem ky_end1t (k x y most : Nat) (l0 l1 : List Int) (w : World) (hs : Ky.sits ⟨l0, l1, true, true⟩ w k x y most) :
    Calls Tryd.prog 235 #[.pointer (some ⟨k, 0, none⟩)] w fun e w' => e = .returned (.bool (Ky.ends ⟨l0, l1, true, true⟩).2) ∧ (Ky.ends ⟨l0, l1, true, true⟩).1.sits w' k x y most ∧ Only (of3 k x y) w w' := by
  have c0 := hs.head.cell 0 (v := sl x l0.length most) rfl
  have c1 := hs.head.cell 1 (v := sl y l1.length most) rfl
  have c2 := hs.head.cell 2 (v := .int .i64 1) rfl
  have c3 := hs.head.cell 3 (v := .bool true) rfl
  simp only [sl] at c0 c1
  have HS := Lib.hid hs
  have A := Lib.hid (ahead_grown hs.b0 hs.b1)
  clear hs
  have k0 := cell_regrown c0
  have k1 := cell_regrown c1
  have k2 := cell_regrown c2
  have k3 := cell_regrown c3
  have U := Lib.hid (show Ky.ends ⟨l0, l1, true, true⟩ = (⟨[], l1, false, true⟩, !true || lexB l0 l1) from rfl)
  generalize Ky.ends ⟨l0, l1, true, true⟩ = res at U
  dsimp only at A
  generalize lexB l0 l1 = lx at U A
  go_enter Tryd.func235, Tryd.ntmps235
  go_wp2_with fail
  refine wp_region_qg (by kernel_rfl) (by kernel_rfl) ?_
  repeat (refine qg_step (fun K hK => ?_); go_simp; first | (refine hK _ ?_; clear hK K) | (apply Exists.intro; refine ⟨fun _ => ?_, hK _ ?_⟩; (with_reducible exact A.out _ _); clear hK K))
  refine qg_nil ?_
  intro w1 hw1
  obtain ⟨⟨dq, osq⟩, hw''⟩ := hw1
  have B1 := Lib.hid (show Below w.heap.size w w1 by rw [hw'']; exact below_regrown w dq osq)
  clear hw'' k0 k1 k2 k3 c0 c1 c2 c3
  have S1 := Lib.hid (HS.out.below B1.out)
  have hc := S1.out.head.at
  have f2 := S1.out.head.thaw 2 none
  have f3 := S1.out.head.thaw 3 none
  simp only [sl] at hc
  go_wp2_with fail
  refine name_world (fun w2 => Blk w2 k [sl x l0.length most, sl y l1.length most, .int .i64 0, .bool true] 258 ∧ Only (· = k) w1 w2) ⟨(S1.out.head.set 3 _).set 2 _, ((Only.refl _ _).put _ _).put _ _⟩ ?_
  rintro w2 ⟨B2, O2⟩
  clear hc f2 f3
  have hc := B2.at
  have f1 := B2.thaw 0 none
  have HB2 := Lib.hid B2
  have HO2 := Lib.hid O2
  clear B2 O2
  simp only [sl] at hc
  go_still_tail 12, (by kernel_rfl)
  change wpList _ _ _ _ _ w2.drew
  go_wp2_with fail
  go_returns
  rw [U.out]
  refine ⟨rfl, ⟨(HB2.out.set 0 _).drew, ?_, ?_, HS.out.kx, HS.out.ky, HS.out.xy⟩, ?_⟩
  · exact (((S1.out.b0.only HO2.out (Ne.symm S1.out.kx)).far (a := ⟨k, 0, none⟩) S1.out.kx _).clear).drew
  · exact (((S1.out.b1.only HO2.out (Ne.symm S1.out.ky)).far (a := ⟨k, 0, none⟩) S1.out.ky _)).drew
  · exact (Below.only B1.out _).trans (((HO2.out.mono (fun _ _ h => .inl h)).one k 0 (.inl rfl) _).drew)

theorem ky_end (k x y most : Nat) (s : Ky) (w : World) (hs : s.sits w k x y most) :
    Calls Tryd.prog 235 #[.pointer (some ⟨k, 0, none⟩)] w fun e w' => e = .returned (.bool s.ends.2) ∧ s.ends.1.sits w' k x y most ∧ Only (of3 k x y) w w' := by
  obtain ⟨l0, l1, now, ended⟩ := s
  cases now <;> cases ended
  · exact ky_end0f k x y most l0 l1 w hs
  · exact ky_end0t k x y most l0 l1 w hs
  · exact ky_end1f k x y most l0 l1 w hs
  · exact ky_end1t k x y most l0 l1 w hs

end Go.Proofs.YtceddcogpigolaaDoor
