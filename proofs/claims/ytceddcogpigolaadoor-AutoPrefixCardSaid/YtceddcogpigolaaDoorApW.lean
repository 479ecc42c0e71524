/- AutoPrefix: the walk of the law: at every two slices of bytes and limits it returns true, and nothing that was there has changed. -/
import Derived.Test.YtceddcogpigolaaDoorApB
namespace Go.Proofs.YtceddcogpigolaaDoor
open Go.RowKit Go.Sort

set_option maxRecDepth 100000 in
set_option maxHeartbeats 8000000 in
theorem ap_long (a1 a2 : Option Addr) (n1 c1 n2 c2 : Nat) (l : Li) (w : World) (h1 : n1 ≤ 9223372036854775807) (h2 : n2 ≤ 9223372036854775807) (hl : 300 < n1 ∨ 300 < n2) (hd : Dbl w) :
    Calls Tryd.prog 7 #[.slice a1 n1 c1, .slice a2 n2 c2, l.val] w fun e w' => e = .returned (.bool true) ∧ Below w.heap.size w w' := by
  have AW := Lib.hid (fun W hW => awake14 W hW)
  have D := Lib.hid hd
  obtain ⟨d, k, s⟩ := l
  dsimp only [Li.val]
  clear hd
  have key : (300 : Int) < (n1 : Int) ∨ ((n1 : Int) ≤ 300 ∧ (300 : Int) < (n2 : Int)) := by omega
  clear hl
  rcases key with q | ⟨q, q2⟩
  all_goals
    go_enter Tryd.func7, Tryd.ntmps7
    go_wp2_with fail
    refine name_calls (fun W => Below w.heap.size w W) (by go_grown) ?_
    rintro W hB
    refine (AW.out W (D.out.below hB)).mono ?_
    rintro ev W2 ⟨rfl, hb⟩
    have B2 := Lib.hid (below_then hB hb)
    clear hB hb
    go_wp2_with fail
    go_returns
    exact ⟨rfl, B2.out⟩

set_option maxRecDepth 100000 in
set_option maxHeartbeats 8000000 in
theorem ap_walk (a1 a2 : Option Addr) (c1 c2 : Nat) (b more : List Int) (l : Li) (w : World) (h1 : b.length ≤ 300) (h2 : more.length ≤ 300) (hb : Bys w a1 b) (hm : Bys w a2 more) (hd : Dbl w) :
    Calls Tryd.prog 7 #[.slice a1 b.length c1, .slice a2 more.length c2, l.val] w fun e w' => e = .returned (.bool true) ∧ Below w.heap.size w w' := by
  have AW := Lib.hid (fun W hW => awake14 W hW)
  have D := Lib.hid hd
  have HB := Lib.hid hb
  have HM := Lib.hid hm
  have W1 := Lib.hid (fun W (hB : Below w.heap.size w W) => whole_c a1 c1 b l W (hb.below hB) (by omega) (hd.below hB))
  have W2 := Lib.hid (fun A' c' W (h : Bys W A' (b ++ more)) hd => whole_c A' c' (b ++ more) l W h (by simp; omega) hd)
  have LAW := Lib.hid (prefix_law b more l)
  generalize whole b l = v at *
  generalize whole (b ++ more) l = u at *
  obtain ⟨v0, v1⟩ := v
  obtain ⟨u0, u1⟩ := u
  obtain ⟨d, k, s⟩ := l
  unfold Li.val verV at *
  dsimp only at *
  have q1 : (b.length : Int) ≤ 300 := by omega
  have q2 : (more.length : Int) ≤ 300 := by omega
  clear hd hb hm
  generalize hn1 : b.length = n1 at *
  generalize hn2 : more.length = n2 at *
  have N1 := Lib.hid hn1
  have N2 := Lib.hid hn2
  clear hn1 hn2
  go_enter Tryd.func7, Tryd.ntmps7
  go_wp2_with fail
  refine name_calls (fun W => Below w.heap.size w W ∧ Blk W w.heap.size [.int .i64 d, .int .i64 k, .int .i64 s] 61) ⟨by go_grown, Blk.new _ _ _⟩ ?_
  rintro W ⟨hB, hL⟩
  refine (AW.out W (D.out.below hB)).mono ?_
  rintro ev V1 ⟨rfl, hb⟩
  have B1 := Lib.hid (below_then hB hb)
  have L1 := Lib.hid (hL.below hb)
  clear hB hb hL
  have hc := L1.out.at
  go_wp2_with fail
  refine (W1.out V1 B1.out).mono ?_
  rintro ev V2 ⟨rfl, hb⟩
  have B2 := Lib.hid (below_then B1.out hb)
  have L2 := Lib.hid (L1.out.below hb)
  clear hb hc L1 B1
  generalize hN : w.heap.size = N at *
  have HN := Lib.hid hN
  clear hN
  go_upto_region 6 with fail
  refine name_world (fun W => Below N w W ∧ Blk W N [.int .i64 d, .int .i64 k, .int .i64 s] 61 ∧ Blk W V2.heap.size [.int .i64 v0, .int .i64 v1] 28) ⟨B2.out.alloc (by have := B2.out.size; have := HN.out; omega) _, L2.out.alloc _, Blk.new _ _ _⟩ ?_
  rintro V3 ⟨hB3, hL3, hT3⟩
  generalize hT : V2.heap.size = T at *
  have B3 := Lib.hid hB3
  have L3 := Lib.hid hL3
  have T3 := Lib.hid hT3
  obtain ⟨M, hM⟩ : ∃ M, V3.heap.size = M := ⟨_, rfl⟩
  have HM3 := Lib.hid hM
  have NM : N < M := by have := hL3.lt; omega
  have TM : T < M := by have := hT3.lt; omega
  have z0 := hL3.cell 0 (v := .int .i64 d) rfl
  have z1 := hL3.cell 1 (v := .int .i64 k) rfl
  have z2 := hL3.cell 2 (v := .int .i64 s) rfl
  have BB : Hid (∀ V, Below M V3 V → Bys V a1 b ∧ Bys V a2 more ∧ Dbl V) := Lib.hid fun V h => by
    have h' : Below w.heap.size w V := by
      have e := HN.out
      subst e
      exact hB3.trans (h.mono (by omega))
    exact ⟨HB.out.below h', HM.out.below h', D.out.below h'⟩
  have W2' : Hid (∀ A' c' W m, m = (b ++ more).length → Bys W A' (b ++ more) → Dbl W → Calls Tryd.prog 42 #[.slice A' m c', .agg #[.int .i64 d, .int .i64 k, .int .i64 s]] W fun e w' => e = .returned (.agg #[.int .i64 u0, .int .i64 u1]) ∧ Below W.heap.size W w') := Lib.hid fun A' c' W m h hb hd => by subst h; exact W2.out A' c' W hb hd
  clear hB3 hL3 hT3 hM hT B2 L2 W1 W2 AW
  go_cut [8] (fun s8 wx => ∃ g : Nat, s8 = .pointer (some ⟨g, 0, none⟩) ∧ Blk wx g [.int .i64 u0, .int .i64 u1] 28 ∧ Below M V3 wx)
  case first =>
    have l1 : 0 + b.length ≤ 100000 := by rw [N1.out]; omega
    have l2 : n1 + more.length ≤ 100000 := by rw [N2.out]; omega
    have LL := Lib.hid (And.intro l1 l2)
    have hM0 : M ≤ V3.heap.size := by rw [HM3.out]; exact Nat.le_refl _
    have ch : Below M V3 V3 := Below.refl _ _
    clear l1 l2 LAW
    go_region_held3 (fun w' => w'.cell? ⟨N, 0, none⟩ = some (.int .i64 d) ∧ w'.cell? ⟨N, 1, none⟩ = some (.int .i64 k) ∧ w'.cell? ⟨N, 2, none⟩ = some (.int .i64 s)) (first | exact ⟨r0, r1, r2⟩ | exact ⟨y0, y1, y2⟩ | exact ⟨x0, x1, x2⟩ | go_keep)
      (first
        | (refine step_append_bytes (by rfl) _ _ (by rfl) M _ 0 [] b (by rfl) (by first | exact own1 (Blk.new _ #[] 5) (by first | exact hM0 | omega) | exact own1 (Blk.new' (by simp) #[] 5) (by first | exact hM0 | omega) | exact own1 ((Blk.new _ #[] 5).alloc _) (by first | exact hM0 | omega) | exact own1 ((Blk.new' (by simp) #[] 5).alloc _) (by first | exact hM0 | omega)) a1 n1 c1 (by rfl) N1.out.symm (BB.out _ (by go_grown)).1 LL.out.1 (by first | exact hM0 | (simp; omega)) ?_; intro A1 c1' w1 hown1 hb1 hO1 hS1; simp only [Nat.zero_add, List.nil_append] at hown1 hS1 ⊢; have ch1 : Below M V3 w1 := Below.trans (by go_grown) hb1; have x0 := (ch1.cell (p := ⟨N, 0, none⟩) NM).trans z0; have x1 := (ch1.cell (p := ⟨N, 1, none⟩) NM).trans z1; have x2 := (ch1.cell (p := ⟨N, 2, none⟩) NM).trans z2; have M1 : M ≤ w1.heap.size := Nat.le_trans hM0 ch1.size)
        | (refine step_append_bytes (by rfl) _ _ (by rfl) M (.slice A1 n1 c1') n1 b more (by rfl) (by first | exact hown1 | exact hown1.alloc _) a2 n2 c2 (by rfl) N2.out.symm (BB.out _ (by first | exact ch1 | go_grown)).2.1 LL.out.2 (by first | exact M1 | (simp; omega)) ?_; intro A2 c2' w2 hown2 hb2 hO2 hS2; have ch2 : Below M V3 w2 := Below.trans (by first | exact ch1 | go_grown) hb2; have y0 := (ch2.cell (p := ⟨N, 0, none⟩) NM).trans z0; have y1 := (ch2.cell (p := ⟨N, 1, none⟩) NM).trans z1; have y2 := (ch2.cell (p := ⟨N, 2, none⟩) NM).trans z2; have M2 : M ≤ w2.heap.size := Nat.le_trans hM0 ch2.size; have by2 : Hid (Bys w2 A2 (b ++ more)) := Lib.hid (Bys.of_row hown2 (fun x hx => (List.mem_append.1 hx).elim (HB.out.1 x) (HM.out.1 x))).1)
        | (go_at_call 42; refine (W2'.out A2 c2' _ (n1 + n2) (by simp [N1.out, N2.out]) (by first | exact by2.out | exact by2.out.below (by go_grown)) (BB.out _ (by first | exact ch2 | go_grown)).2.2).mono ?_; rintro ev w3 ⟨rfl, hb3⟩; have ch3 : Below M V3 w3 := Below.trans (by first | exact ch2 | go_grown) (hb3.mono (by first | exact M2 | (simp; omega))); have r0 := (ch3.cell (p := ⟨N, 0, none⟩) NM).trans z0; have r1 := (ch3.cell (p := ⟨N, 1, none⟩) NM).trans z1; have r2 := (ch3.cell (p := ⟨N, 2, none⟩) NM).trans z2; have M3 : M ≤ w3.heap.size := Nat.le_trans hM0 ch3.size; (first
            | (have gN : N ≠ V3.heap.size := (by omega); have gN2 : V3.heap.size ≠ N := (by omega); have e3 : Blk w3 V3.heap.size [.int .i64 0, .int .i64 0] 28 := (hO2.blk (hO1.blk (((Blk.new V3 _ 28).alloc _).drew) (by intro h; have h := rowAt_eq h; first | omega | (simp at h; done) | (simp at h; omega))) (fun h => absurd (hS1 _ (by first | (simp; done) | (simp; omega)) h) (by intro h; have h := rowAt_eq h; first | omega | (simp at h; done) | (simp at h; omega)))).below hb3; have p0 := e3.cell 0 (v := .int .i64 0) rfl; have p1 := e3.cell 1 (v := .int .i64 0) rfl; have pf0 := e3.thaw 0 none; have pf1 := e3.thaw 1 none; have E3 := Lib.hid e3; clear e3)
            | (have gN : N ≠ (V3.heap.size + 1) := (by omega); have gN2 : (V3.heap.size + 1) ≠ N := (by omega); have e3 : Blk w3 (V3.heap.size + 1) [.int .i64 0, .int .i64 0] 28 := (hO2.blk (hO1.blk ((Blk.new' (by simp) _ 28).drew) (by intro h; have h := rowAt_eq h; first | omega | (simp at h; done) | (simp at h; omega))) (fun h => absurd (hS1 _ (by first | (simp; done) | (simp; omega)) h) (by intro h; have h := rowAt_eq h; first | omega | (simp at h; done) | (simp at h; omega)))).below hb3; have p0 := e3.cell 0 (v := .int .i64 0) rfl; have p1 := e3.cell 1 (v := .int .i64 0) rfl; have pf0 := e3.thaw 0 none; have pf1 := e3.thaw 1 none; have E3 := Lib.hid e3; clear e3)
            | (have gN : N ≠ w1.heap.size := (by omega); have gN2 : w1.heap.size ≠ N := (by omega); have e3 : Blk w3 w1.heap.size [.int .i64 0, .int .i64 0] 28 := (hO2.blk (Blk.new w1 _ 28) (fun h => absurd (hown1.lt _ h.symm).2 (Nat.lt_irrefl _))).below hb3; have p0 := e3.cell 0 (v := .int .i64 0) rfl; have p1 := e3.cell 1 (v := .int .i64 0) rfl; have pf0 := e3.thaw 0 none; have pf1 := e3.thaw 1 none; have E3 := Lib.hid e3; clear e3)
            | (have gN : N ≠ w2.heap.size := (by omega); have gN2 : w2.heap.size ≠ N := (by omega); have e3 : Blk w3 w2.heap.size [.int .i64 0, .int .i64 0] 28 := (Blk.new w2 _ 28).below hb3; have p0 := e3.cell 0 (v := .int .i64 0) rfl; have p1 := e3.cell 1 (v := .int .i64 0) rfl; have pf0 := e3.thaw 0 none; have pf1 := e3.thaw 1 none; have E3 := Lib.hid e3; clear e3)
            | (have gN : N ≠ w3.heap.size := (by omega); have gN2 : w3.heap.size ≠ N := (by omega))))
        | fail)
    all_goals (go_wp2_with fail; go_meet)
    · exact ⟨_, rfl, Blk.new w3 _ 28, ch3.alloc M3 _⟩
    all_goals exact ⟨_, rfl, (E3.out.set 0 _).set 1 _, (ch3.setCell (p := ⟨_, 0, none⟩) (by first | exact hM0 | exact M1 | exact M2 | exact Nat.le_succ_of_le hM0) _).setCell (p := ⟨_, 1, none⟩) (by first | exact hM0 | exact M1 | exact M2 | exact Nat.le_succ_of_le hM0) _⟩
  case rest =>
    obtain ⟨g, rfl, hg, hw⟩ := hcut
    rename_i wc
    have hw' : Below V3.heap.size V3 wc := by rw [HM3.out]; exact hw
    have hT := T3.out.below hw'
    have HW : Hid (Below w.heap.size w wc) := Lib.hid (by have e := HN.out; subst e; exact B3.out.trans (hw.mono (by omega)))
    have t0 := hT.cell 0 (v := .int .i64 v0) rfl
    have t1 := hT.cell 1 (v := .int .i64 v1) rfl
    have g0 := hg.cell 0 (v := .int .i64 u0) rfl
    have g1 := hg.cell 1 (v := .int .i64 u1) rfl
    have e28 := eql28
    have law := LAW.out
    clear hw hw' hT hg z0 z1 z2 B3 L3 T3 BB W2' D HB HM N1 N2 HM3 HN LAW
    by_cases hv : v0 = 0
    · subst hv
      rcases (show (n2 = 0 ∧ u0 = 0 ∧ u1 = v1) ∨ (0 < n2 ∧ (u0 = 2 ∨ u0 = 1) ∧ u1 = n1) by
        simp only [prefixB, if_true, Bool.or_eq_true, Bool.and_eq_true, decide_eq_true_eq, Prod.mk.injEq] at law
        omega) with ⟨rfl, rfl, rfl⟩ | ⟨hn, rfl | rfl, rfl⟩
      · clear law
        go_wp2_with fail
        go_returns
        exact ⟨by simp, HW.out⟩
      all_goals
        have en : ((n2 : Int) == 0) = false := by simp; omega
        have en' : (0 : Int) < (n2 : Int) := by omega
        clear law
        go_wp2_with fail
        go_returns
        exact ⟨by simp, HW.out⟩
    · have ev : ((v0 : Int) == 0) = false := by simpa using hv
      have key : (v0 = 9 ∧ u0 = 0) ∨ (v0 = 9 ∧ u0 ≠ 0 ∧ (n1 : Int) ≤ u1) ∨ (u0 = v0 ∧ u1 = v1) := by
        simp only [prefixB, hv, if_false, Bool.or_eq_true, Bool.and_eq_true, decide_eq_true_eq, Prod.mk.injEq] at law
        omega
      have q10 : ∀ W, (binOp .neq 28 (.agg #[.int .i64 10, .int .i64 0]) (.agg #[.int .i64 10, .int .i64 0])).run Tryd.prog W = .ok (.bool false) W := fun _ => by kernel_rfl
      have tail : Hid True := Lib.hid trivial
      clear law hv
      go_wp2_with fail
      refine (au_step_nil 1 .nilFunc _).mono ?_
      rintro ev W1 ⟨rfl, e1⟩
      obtain rfl := e1.symm
      go_wp2_with fail
      refine (au_close_nil _).mono ?_
      rintro ev W1 ⟨rfl, hb⟩
      have HW1 := Lib.hid (HW.out.trans (hb.mono HW.out.size))
      have tt0 := (hb.cell (p := ⟨T, 0, none⟩) (World.block_lt_of_cell? wc ⟨T, 0, none⟩ t0)).trans t0
      have tt1 := (hb.cell (p := ⟨T, 1, none⟩) (World.block_lt_of_cell? wc ⟨T, 1, none⟩ t1)).trans t1
      have gg0 := (hb.cell (p := ⟨g, 0, none⟩) (World.block_lt_of_cell? wc ⟨g, 0, none⟩ g0)).trans g0
      have gg1 := (hb.cell (p := ⟨g, 1, none⟩) (World.block_lt_of_cell? wc ⟨g, 1, none⟩ g1)).trans g1
      clear hb t0 t1 g0 g1 HW
      rw [show verV (10, 0) = .agg #[.int .i64 10, .int .i64 0] from rfl]
      go_wp2_with fail
      refine (au_done_nil _).mono ?_
      rintro ev W2 ⟨rfl, e1⟩
      obtain rfl := e1.symm
      go_wp2_with fail
      refine (au_len_nil _).mono ?_
      rintro ev W2 ⟨rfl, e1⟩
      obtain rfl := e1.symm
      go_wp2_with fail
      refine (au_cap_nil _).mono ?_
      rintro ev W2 ⟨rfl, e1⟩
      obtain rfl := e1.symm
      rcases key with ⟨rfl, rfl⟩ | ⟨rfl, hu, hle⟩ | ⟨rfl, rfl⟩
      · go_wp2_with fail
        go_returns
        exact ⟨by simp, HW1.out⟩
      · have eu : ((u0 : Int) == 0) = false := by simpa using hu
        clear hu
        go_wp2_with fail
        go_returns
        exact ⟨by simp, HW1.out⟩
      · by_cases h9 : u0 = 9
        · subst h9
          by_cases hle : (n1 : Int) ≤ u1
          · go_wp2_with fail
            go_returns
            exact ⟨by simp, HW1.out⟩
          · have hlt : u1 < (n1 : Int) := by omega
            clear hle
            go_wp2_with fail
            go_returns
            exact ⟨by simp, HW1.out⟩
        · have e9 : ((u0 : Int) == 9) = false := by simpa using h9
          clear h9
          go_wp2_with fail
          go_returns
          exact ⟨by simp, HW1.out⟩

end Go.Proofs.YtceddcogpigolaaDoor
