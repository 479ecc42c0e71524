/- FaultTells: the walk of the law: at every verdict, texts and number it returns true, and nothing that was there has changed. -/
import Derived.Test.YtceddcogpigolaaDoorFtText
import Derived.Test.YtceddcogpigolaaDoorFoWalk
namespace Go.Proofs.YtceddcogpigolaaDoor
open Go.RowKit Go.Sort

/-- The place of the fault in a chain. -/
def Er.pl : Er → Option Int
  | .fault _ _ p => some p
  | .wrap _ _ e => e.pl
  | _ => none
theorem Er.pl_cell {w : World} {e : Er} {p : Int} (h : e.In w) (hp : e.pl = some p) : ∃ b, e.hit24 = some b ∧ w.cell? ⟨b, 1, none⟩ = some (.int .i64 p) := by
  induction e with
  | code n => simp [Er.pl] at hp
  | other => simp [Er.pl] at hp
  | fault b c q => simp only [Er.pl, Option.some.injEq] at hp; subst hp; exact ⟨b, rfl, h.2⟩
  | wrap b s e ih => exact ih h.2.2 hp
theorem enter16 (args : Array Value) (w : World) : (callFunc 16 args).run Tryd.prog w = .ok (.enter 16 args) w := by kernel_rfl
theorem enter274 (args : Array Value) (w : World) : (callFunc 274 args).run Tryd.prog w = .ok (.enter 274 args) w := by kernel_rfl
/-- Which method an error's text is. -/
theorem Er.errorFn (e : Er) (hf : e.isF) : ∃ (T : TypeId) (F : FuncId) (b : Nat), e.val = .iface T (.pointer (some ⟨b, 0, none⟩)) ∧ b = e.blk ∧ F = e.fn ∧
    (∀ (a : Addr) (w : World), (Go.method 467 T (.pointer (some a)) "Error").run Tryd.prog w = .ok (F, .pointer (some a)) w) ∧
    (∀ (a : Addr) (w : World), (Go.nilAhead 467 T (.pointer (some a)) "Error").run Tryd.prog w = .ok (some false) w) ∧
    (∀ (args : Array Value) (w : World), (callFunc F args).run Tryd.prog w = .ok (.enter F args) w) := by
  cases e with
  | code n => exact hf.elim
  | other => exact hf.elim
  | fault b c p => exact ⟨24, 16, b, rfl, rfl, rfl, errMethod24, errAhead24, enter16⟩
  | wrap b s e => exact ⟨125, 274, b, rfl, rfl, rfl, errMethod125, errAhead125, enter274⟩

set_option maxRecDepth 100000 in
set_option maxHeartbeats 4000000 in
theorem ft_long (c p o : Int) (A : Option Addr) (n cap : Nat) (w : World) (hn : 20 < n) (hm : n ≤ 9223372036854775807) (hg : ErrTy w) :
    Calls Tryd.prog 4 #[.agg #[.int .i64 c, .int .i64 p], .slice A n cap, .int .i64 o] w fun e w' => e = .returned (.bool true) ∧ Below w.heap.size w w' := by
  have hg' := Lib.hid hg
  clear hg
  go_enter Tryd.func4, Tryd.ntmps4
  go_wp2_with fail
  refine (fault_awake _ (hg'.out.below (by go_grown))).mono ?_
  rintro ev w1 ⟨rfl, hb1⟩
  have B1 := Lib.hid (show Below w.heap.size w w1 from (show Below w.heap.size w (w.alloc (.cells #[.int .i64 c, .int .i64 p] 28)) by go_grown).trans (hb1.mono (by simp)))
  clear hb1
  go_wp2_with fail
  go_ret
  exact ⟨rfl, B1.out⟩

set_option maxRecDepth 100000 in
set_option maxHeartbeats 4000000 in
theorem ft_ok (p o : Int) (A : Option Addr) (n cap : Nat) (ss : List ByteArray) (w : World) (hn : n ≤ 20) (hg : ErrTy w) (hS : Strs w A n ss) :
    Calls Tryd.prog 4 #[.agg #[.int .i64 0, .int .i64 p], .slice A n cap, .int .i64 o] w fun e w' => e = .returned (.bool true) ∧ Below w.heap.size w w' := by
  have H := Lib.hid (And.intro hg hS)
  clear hg hS
  go_enter Tryd.func4, Tryd.ntmps4
  go_wp2_with fail
  obtain ⟨w0, hw0⟩ : ∃ w0, w0 = w.alloc (.cells #[.int .i64 0, .int .i64 p] 28) := ⟨_, rfl⟩
  have B0 := Lib.hid (show Below w.heap.size w w0 by subst hw0; go_grown)
  have C0 := Lib.hid (show w0.cell? ⟨w.heap.size, 0, none⟩ = some (.int .i64 0) ∧ w0.cell? ⟨w.heap.size, 1, none⟩ = some (.int .i64 p) by subst hw0; simp)
  have L0 := Lib.hid (show w.heap.size < w0.heap.size by subst hw0; simp)
  rw [← hw0]
  clear hw0
  refine (fault_awake _ (H.out.1.below B0.out)).mono ?_
  rintro ev w1 ⟨rfl, hb1⟩
  have B1 := Lib.hid hb1
  have c0 : w1.cell? ⟨w.heap.size, 0, none⟩ = some (.int .i64 0) := (hb1.cell (p := ⟨w.heap.size, 0, none⟩) L0.out).trans C0.out.1
  have c1 : w1.cell? ⟨w.heap.size, 1, none⟩ = some (.int .i64 p) := (hb1.cell (p := ⟨w.heap.size, 1, none⟩) L0.out).trans C0.out.2
  clear hb1
  go_wp2_with fail
  refine (Error_ok p _).mono ?_
  rintro ev w2 ⟨rfl, hb2⟩
  have B2 := Lib.hid (below_then' B1.out hb2)
  clear hb2 B1 c0 c1
  go_wp2_with fail
  go_loopw [7, 8] (fun v i wr => ∃ k : Nat, k ≤ n ∧ i = .int .i64 k ∧ v = .nilIface ∧ wr = w2) (fun _ i _ => n - (intOf i).toNat)
  case atStart => exact ⟨0, Nat.zero_le _, rfl, rfl, rfl⟩
  case round =>
    obtain ⟨k, hk, rfl, rfl, rfl⟩ := hrel
    by_cases hlt : k < n
    · have S2 := H.out.2.below (below_then' B0.out B2.out)
      obtain ⟨b, off, hA, hcell⟩ := S2.2.resolve_left (by omega)
      have hc := hcell k hlt
      clear hcell S2
      subst hA
      generalize hX : ss.getD k ByteArray.empty = X at *
      clear hX
      by_cases hl : 100 < X.size
      · go_wp2_with fail
        go_ret
        exact ⟨rfl, below_then' B0.out B2.out⟩
      · go_wp2_with fail
        refine (Wrap_nil _ _).mono ?_
        rintro ev w' ⟨rfl, rfl⟩
        go_wp2_with fail
        go_roundw
        case rel => exact ⟨k + 1, by omega, by go_num, by first | rfl | trivial⟩
        case measure => simp [intOf]; omega
    · have hke : k = n := by omega
      subst hke
      go_wp2_with fail
      refine (At_nil _).mono ?_
      rintro ev w3 ⟨rfl, hb3⟩
      have B3 := Lib.hid (below_then' B2.out hb3)
      have c0 : w3.cell? ⟨w.heap.size, 0, none⟩ = some (.int .i64 0) := (B3.out.cell (p := ⟨w.heap.size, 0, none⟩) L0.out).trans C0.out.1
      clear hb3 B2
      go_wp2_with fail
      refine (Code_nil _).mono ?_
      rintro ev w4 ⟨rfl, hb4⟩
      have B4 := Lib.hid (below_then' B0.out (below_then' B3.out hb4))
      clear hb4 B3
      go_wp2_with fail
      refine (IsC_nil _).mono ?_
      rintro ev w' ⟨rfl, rfl⟩
      by_cases ho : o = 0
      · subst ho
        go_wp2_with fail
        go_ret
        exact ⟨rfl, B4.out⟩
      · have ho' : ((o : Int) == 0) = false := by simpa using ho
        clear ho
        go_wp2_with fail
        refine (IsC_nil_nz o _ ho').mono ?_
        rintro ev w' ⟨rfl, rfl⟩
        go_wp2_with fail
        go_ret
        exact ⟨rfl, B4.out⟩

theorem take_snoc_getD (ss : List ByteArray) (k : Nat) (h : k < ss.length) : ss.take (k + 1) = ss.take k ++ [ss.getD k ByteArray.empty] := by
  rw [List.take_succ_eq_append_getElem h]
  simp [List.getD, List.getElem?_eq_getElem h]
/-- What the loop over the texts has made of the error. -/
def FtRel (c p : Int) (ss : List ByteArray) (w0 wr : World) (k : Nat) (v : Value) : Prop :=
  ∃ e : Er, v = e.val ∧ e.In wr ∧ e.isF ∧ e.hit22 = some c ∧ e.pl = some p ∧ e.text = ahead (ss.take k) (fltT c p) ∧ Below w0.heap.size w0 wr ∧ ∀ x ∈ ss.take k, x.size ≤ 100

set_option maxRecDepth 100000 in
set_option maxHeartbeats 4000000 in
theorem ft_no (c p o : Int) (hc : I64 c) (hp : I64 p) (A : Option Addr) (n cap : Nat) (ss : List ByteArray) (w : World) (hc0 : (c == 0) = false) (hn : n ≤ 20) (hg : ErrTy w) (ht : Pow10 w) (h3 : 3 < w.heap.size) (hS : Strs w A n ss) :
    Calls Tryd.prog 4 #[.agg #[.int .i64 c, .int .i64 p], .slice A n cap, .int .i64 o] w fun e w' => e = .returned (.bool true) ∧ Below w.heap.size w w' := by
  have H := Lib.hid (And.intro hg (And.intro hS (And.intro ht (And.intro h3 (And.intro hc hp)))))
  clear hg hS ht h3 hc hp
  go_enter Tryd.func4, Tryd.ntmps4
  go_wp2_with fail
  obtain ⟨w0, hw0⟩ : ∃ w0, w0 = w.alloc (.cells #[.int .i64 c, .int .i64 p] 28) := ⟨_, rfl⟩
  have B0 := Lib.hid (show Below w.heap.size w w0 by subst hw0; go_grown)
  have C0 := Lib.hid (show w0.cell? ⟨w.heap.size, 0, none⟩ = some (.int .i64 c) ∧ w0.cell? ⟨w.heap.size, 1, none⟩ = some (.int .i64 p) by subst hw0; simp)
  have L0 := Lib.hid (show w.heap.size < w0.heap.size by subst hw0; simp)
  rw [← hw0]
  clear hw0
  refine (fault_awake _ (H.out.1.below B0.out)).mono ?_
  rintro ev w1 ⟨rfl, hb1⟩
  have B1 := Lib.hid hb1
  have c0 : w1.cell? ⟨w.heap.size, 0, none⟩ = some (.int .i64 c) := (hb1.cell (p := ⟨w.heap.size, 0, none⟩) L0.out).trans C0.out.1
  have c1 : w1.cell? ⟨w.heap.size, 1, none⟩ = some (.int .i64 p) := (hb1.cell (p := ⟨w.heap.size, 1, none⟩) L0.out).trans C0.out.2
  clear hb1
  go_wp2_with fail
  refine (Error_no c p _ hc0).mono ?_
  rintro ev w2 ⟨b, _, rfl, hin, hb2⟩
  have R2 := Lib.hid (show FtRel c p ss w0 w2 0 (Er.fault b c p).val from ⟨_, rfl, hin, ⟨H.out.2.2.2.2.1, H.out.2.2.2.2.2⟩, rfl, rfl, by simp [Er.text, ahead], below_then' B1.out hb2, by simp⟩)
  clear hb2 hin B1 c0 c1
  generalize (Er.fault b c p).val = v2 at R2 ⊢
  go_wp2_with fail
  go_loopw [7, 8] (fun v i wr => ∃ k : Nat, k ≤ n ∧ i = .int .i64 k ∧ Hid (FtRel c p ss w0 wr k v)) (fun _ i _ => n - (intOf i).toNat)
  case atStart => exact ⟨0, Nat.zero_le _, rfl, R2⟩
  case round =>
    clear R2
    obtain ⟨k, hk, rfl, R⟩ := hrel
    obtain ⟨e, rfl, RR⟩ := R.out
    have RR' := Lib.hid RR
    clear RR R
    have BB := Lib.hid (below_then' B0.out RR'.out.2.2.2.2.2.1)
    by_cases hlt : k < n
    · have S2 := H.out.2.1.below BB.out
      obtain ⟨b, off, hA, hcell⟩ := S2.2.resolve_left (by omega)
      have hcl := hcell k hlt
      clear hcell
      subst hA
      have hst := Lib.hid (ahead_take ss (fltT c p) k (by rw [S2.1]; exact hlt))
      have htk := Lib.hid (take_snoc_getD ss k (by rw [S2.1]; exact hlt))
      clear S2
      generalize hX : ss.getD k ByteArray.empty = X at *
      have hX' := Lib.hid hX
      clear hX
      by_cases hl : 100 < X.size
      · go_wp2_with fail
        go_ret
        exact ⟨rfl, BB.out⟩
      · go_wp2_with fail
        refine (Wrap_no e _ _ RR'.out.1).mono ?_
        rintro ev w3 ⟨b3, _, rfl, hin3, hb3⟩
        have R3 := Lib.hid (show FtRel c p ss w0 w3 (k + 1) (Er.wrap b3 X e).val from
          ⟨_, rfl, hin3, RR'.out.2.1, RR'.out.2.2.1, RR'.out.2.2.2.1, by rw [hst.out, ← RR'.out.2.2.2.2.1]; rfl, below_then' RR'.out.2.2.2.2.2.1 hb3, by
            rw [htk.out]
            intro x hx
            rcases List.mem_append.1 hx with hx | hx
            · exact RR'.out.2.2.2.2.2.2 x hx
            · rw [List.mem_singleton.1 hx]; omega⟩)
        clear hb3 hin3
        generalize (Er.wrap b3 X e).val = v3 at R3 ⊢
        go_wp2_with fail
        go_roundw
        case rel => exact ⟨k + 1, by omega, by go_num, R3⟩
        case measure => simp [intOf]; omega
    · have hke : k = n := by omega
      subst hke
      obtain ⟨b5, h24, hpl⟩ := Er.pl_cell RR'.out.1 RR'.out.2.2.2.1
      have hpl' := Lib.hid (And.intro h24 hpl)
      clear h24 hpl
      go_wp2_with fail
      refine (At_hit e b5 p _ RR'.out.1 hpl'.out.1 (H.out.1.below BB.out) hpl'.out.2).mono ?_
      rintro ev w3 ⟨rfl, hb3⟩
      have I3 := Lib.hid (RR'.out.1.of_below hb3)
      have B3 := Lib.hid (below_then' RR'.out.2.2.2.2.2.1 hb3)
      have c0 : w3.cell? ⟨w.heap.size, 0, none⟩ = some (.int .i64 c) := (B3.out.cell (p := ⟨w.heap.size, 0, none⟩) L0.out).trans C0.out.1
      have c1 : w3.cell? ⟨w.heap.size, 1, none⟩ = some (.int .i64 p) := (B3.out.cell (p := ⟨w.heap.size, 1, none⟩) L0.out).trans C0.out.2
      clear hb3
      obtain ⟨T, F, b, hval, rfl, rfl, hm, ha, hent⟩ := Er.errorFn e RR'.out.2.1
      rw [hval]
      go_wp2_with fail
      have hlen : (ahead (ss.take k) (fltT c p)).length ≤ 2200 := by
        have h1 := ahead_len (ss.take k) (fltT c p) RR'.out.2.2.2.2.2.2
        have h2 : (ss.take k).length ≤ k := List.length_take_le _ _
        have h3 : (fltT c p).length ≤ 60 := by
          have := itoa_len c H.out.2.2.2.2.1
          have := itoa_len p H.out.2.2.2.2.2
          simp [fltT, errT]; omega
        omega
      have hss : ss.take k = ss := List.take_of_length_le (by rw [H.out.2.1.1]; exact Nat.le_refl _)
      rw [hss] at hlen
      have htxt : e.text = ahead ss (fltT c p) := by rw [RR'.out.2.2.2.2.1, hss]
      have h33 : 3 < w3.heap.size := Nat.lt_of_lt_of_le H.out.2.2.2.1 (below_then' B0.out B3.out).size
      have ht3 : Pow10 w3 := H.out.2.2.1.below H.out.2.2.2.1 (below_then' B0.out B3.out)
      have hS3 : Strs w3 A k ss := H.out.2.1.below (below_then' B0.out B3.out)
      have cE : ∀ d os, Calls Tryd.prog e.fn #[.pointer (some ⟨e.blk, 0, none⟩)] (grow (redrawn w3 d) os) fun ev w'' => ev = .returned (.string (bytesOf (ahead ss (fltT c p)))) ∧ ∃ q : Regrown, w'' = grow (redrawn w3 q.d) q.os := fun d os => by
        rw [← htxt]
        exact Calls.regrown_of (chainText e _ (I3.out.of_below (below_regrown w3 d os)) RR'.out.2.1 (ht3.below h33 (below_regrown w3 d os)) (Nat.lt_of_lt_of_le h33 (below_regrown w3 d os).size) (by rw [htxt]; omega))
      have cT : ∀ d os, Calls Tryd.prog 22 #[.agg #[.int .i64 c, .int .i64 p], .slice A k cap] (grow (redrawn w3 d) os) fun ev w'' => ev = .returned (.string (bytesOf (ahead ss (fltT c p)))) ∧ ∃ q : Regrown, w'' = grow (redrawn w3 q.d) q.os := fun d os =>
        Calls.regrown_of (text12 c p H.out.2.2.2.2.1 H.out.2.2.2.2.2 A k cap ss _ (hS3.below (below_regrown w3 d os)) hn (by
          have := RR'.out.2.2.2.2.2.2
          rw [hss] at this
          exact this) (ht3.below h33 (below_regrown w3 d os)) (Nat.lt_of_lt_of_le h33 (below_regrown w3 d os).size))
      have cE' := Lib.hid cE
      have cT' := Lib.hid cT
      have hval' := Lib.hid hval
      have k0 := cell_regrown c0
      have k1 := cell_regrown c1
      clear cE cT hlen hss htxt h33 ht3 hS3 hval
      generalize bytesOf (ahead ss (fltT c p)) = TX at cE' cT'
      refine wp_region_quiet_below (by kernel_rfl) (by kernel_rfl) ?_
      repeat (quiet_step (first | (with_reducible exact cE'.out _ _) | (with_reducible exact cT'.out _ _)))
      refine wpQuiet_nil ?_
      intro w4 hw4
      obtain ⟨⟨dq, osq⟩, hw''⟩ := hw4
      have B4' := Lib.hid (show Below w3.heap.size w3 w4 by rw [hw'']; exact below_regrown w3 dq osq)
      have I4 := Lib.hid (I3.out.of_below B4'.out)
      have B4 := Lib.hid (below_then' B3.out B4'.out)
      clear hw'' k0 k1 c0 c1 cE' cT' hm ha hent B4' I3 B3
      have c0 : w4.cell? ⟨w.heap.size, 0, none⟩ = some (.int .i64 c) := (B4.out.cell (p := ⟨w.heap.size, 0, none⟩) L0.out).trans C0.out.1
      have c1 : w4.cell? ⟨w.heap.size, 1, none⟩ = some (.int .i64 p) := (B4.out.cell (p := ⟨w.heap.size, 1, none⟩) L0.out).trans C0.out.2
      have k0 := cell_regrown c0
      have k1 := cell_regrown c1
      have BW4 := Lib.hid (below_then' B0.out B4.out)
      have cC : ∀ d os, Calls Tryd.prog 18 #[.iface T (.pointer (some ⟨e.blk, 0, none⟩))] (grow (redrawn w4 d) os) fun ev w'' => ev = .returned (.int .i64 c) ∧ ∃ q : Regrown, w'' = grow (redrawn w4 q.d) q.os := fun d os => by
        rw [← hval'.out]
        exact Calls.regrown_of (Code_hit e c _ (I4.out.of_below (below_regrown w4 d os)) RR'.out.2.2.1 ((H.out.1.below BW4.out).below (below_regrown w4 d os)))
      have cS : ∀ d os, Calls Tryd.prog 19 #[.iface T (.pointer (some ⟨e.blk, 0, none⟩)), .int .i64 c] (grow (redrawn w4 d) os) fun ev w'' => ev = .returned (.bool true) ∧ ∃ q : Regrown, w'' = grow (redrawn w4 q.d) q.os := fun d os => by
        rw [← hval'.out]
        exact Calls.regrown_of ((IsC_nz e c c _ (I4.out.of_below (below_regrown w4 d os)) RR'.out.2.2.1 hc0).mono (fun ev w' ⟨h1, h2⟩ => ⟨by rw [h1]; simp, by subst h2; exact Below.refl _ _⟩))
      have cO : ∀ d os, Calls Tryd.prog 19 #[.iface T (.pointer (some ⟨e.blk, 0, none⟩)), .int .i64 o] (grow (redrawn w4 d) os) fun ev w'' => ev = .returned (.bool (decide (o = c))) ∧ ∃ q : Regrown, w'' = grow (redrawn w4 q.d) q.os := fun d os => by
        rw [← hval'.out]
        by_cases ho : o = 0
        · subst ho
          have hne : ¬ (0 : Int) = c := by intro h; subst h; simp at hc0
          exact Calls.regrown_of ((IsC_z e _).mono (fun ev w' ⟨h1, h2⟩ => ⟨by rw [h1]; simp [hne], by subst h2; exact Below.refl _ _⟩))
        · exact Calls.regrown_of ((IsC_nz e c o _ (I4.out.of_below (below_regrown w4 d os)) RR'.out.2.2.1 (by simpa using ho)).mono (fun ev w' ⟨h1, h2⟩ => ⟨by rw [h1]; simp [eq_comm], by subst h2; exact Below.refl _ _⟩))
      have cC' := Lib.hid cC
      have cS' := Lib.hid cS
      have cO' := Lib.hid cO
      clear cC cS cO c0 c1
      go_wp2
      refine wp_region_quiet_below (by kernel_rfl) (by kernel_rfl) ?_
      repeat (quiet_step (first | (with_reducible exact cC'.out _ _) | (with_reducible exact cS'.out _ _) | (with_reducible exact cO'.out _ _)))
      refine wpQuiet_nil ?_
      intro w5 hw5
      obtain ⟨⟨dq, osq⟩, hw''⟩ := hw5
      have B5 := Lib.hid (show Below w.heap.size w w5 by rw [hw'']; exact below_then' BW4.out (below_regrown w4 dq osq))
      have hbo : (decide (o = c) == (o == c)) = true := by by_cases h : o = c <;> simp [h]
      rw [hbo]
      clear hw'' k0 k1 cC' cS' cO' hbo
      go_wp2
      go_ret
      exact ⟨rfl, B5.out⟩
end Go.Proofs.YtceddcogpigolaaDoor
