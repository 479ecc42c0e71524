/- ullageref12.Text, by contract: the document's text of a verdict, with texts ahead of it. -/
import Derived.Test.YtceddcogpigolaaDoorErrText
namespace Go.Proofs.YtceddcogpigolaaDoor
open Go.RowKit Go.Sort

/-- A slice of strings that is read: its elements. -/
def Strs (w : World) (A : Option Addr) (n : Nat) (ss : List ByteArray) : Prop :=
  ss.length = n ∧ (n = 0 ∨ ∃ b off, A = some ⟨b, off, none⟩ ∧ ∀ j, j < n → w.cell? ⟨b, off + j, none⟩ = some (.string (ss.getD j ByteArray.empty)))
theorem Strs.below {w w' : World} {A : Option Addr} {n : Nat} {ss : List ByteArray} (h : Strs w A n ss) (hb : Below w.heap.size w w') : Strs w' A n ss := by
  refine ⟨h.1, ?_⟩
  rcases h.2 with h0 | ⟨b, off, rfl, hc⟩
  · exact .inl h0
  · refine .inr ⟨b, off, rfl, fun j hj => ?_⟩
    exact (hb.cell (p := ⟨b, off + j, none⟩) (World.block_lt_of_cell? w ⟨b, off + j, none⟩ (hc j hj))).trans (hc j hj)
def ahead (ss : List ByteArray) (t : List UInt8) : List UInt8 := ss.foldl (fun t s => s.data.toList ++ [58, 32] ++ t) t
theorem ahead_take (ss : List ByteArray) (t : List UInt8) (k : Nat) (h : k < ss.length) : ahead (ss.take (k + 1)) t = (ss.getD k ByteArray.empty).data.toList ++ [58, 32] ++ ahead (ss.take k) t := by
  unfold ahead
  rw [List.take_succ_eq_append_getElem h, List.foldl_append]
  simp [List.getD, List.getElem?_eq_getElem h]
theorem ahead_len (ss : List ByteArray) (t : List UInt8) (hs : ∀ s ∈ ss, s.size ≤ 100) : (ahead ss t).length ≤ t.length + 102 * ss.length := by
  unfold ahead
  induction ss generalizing t with
  | nil => simp
  | cons s ss ih =>
    have h1 := hs s (by simp)
    have := ih (s.data.toList ++ [58, 32] ++ t) (fun x hx => hs x (by simp [hx]))
    have h2 : s.data.toList.length = s.size := rfl
    simp only [List.foldl_cons, List.length_append, List.length_cons, List.length_nil] at this ⊢
    omega

set_option maxHeartbeats 1000000 in
theorem text12 (c p : Int) (hc : I64 c) (hp : I64 p) (A : Option Addr) (n cap : Nat) (ss : List ByteArray) (w : World) (hS : Strs w A n ss) (hn : n ≤ 20) (hs : ∀ s ∈ ss, s.size ≤ 100) (ht : Pow10 w) (h3 : 3 < w.heap.size) :
    Calls Tryd.prog 22 #[.agg #[.int .i64 c, .int .i64 p], .slice A n cap] w fun e w' => e = .returned (.string (bytesOf (ahead ss (fltT c p)))) ∧ Below w.heap.size w w' := by
  have l1 : (bytesOf (Lib.itoa p)).size ≤ 20 := by rw [bytesOf_size]; exact itoa_len p hp
  have l2 : (bytesOf (errT c)).size ≤ 34 := by rw [bytesOf_size]; have := itoa_len c hc; simp [errT]; omega
  have lf : (fltT c p).length ≤ 60 := by have := itoa_len c hc; have := itoa_len p hp; simp [fltT, errT]; omega
  have H := Lib.hid (And.intro hS (And.intro hs (And.intro ht (And.intro hc (And.intro hp h3)))))
  clear hS hs ht hc hp h3
  go_enter Tryd.func22, Tryd.ntmps22
  go_wp2
  obtain ⟨w1, hw1⟩ : ∃ w1, w1 = w.alloc (.cells #[.int .i64 c, .int .i64 p] 28) := ⟨_, rfl⟩
  have B1 := Lib.hid (show Below w.heap.size w w1 by subst hw1; go_grown)
  have c0 : w1.cell? ⟨w.heap.size, 0, none⟩ = some (.int .i64 c) := by subst hw1; simp
  have c1 : w1.cell? ⟨w.heap.size, 1, none⟩ = some (.int .i64 p) := by subst hw1; simp
  rw [← hw1]
  clear hw1
  have h31 : 3 < w1.heap.size := Nat.lt_of_lt_of_le H.out.2.2.2.2.2 B1.out.size
  have ht1 : Pow10 w1 := H.out.2.2.1.below H.out.2.2.2.2.2 B1.out
  have cI : ∀ d os, Calls Tryd.prog 74 #[.int .i64 p] (grow (redrawn w1 d) os) fun e w'' => e = .returned (.string (bytesOf (Lib.itoa p))) ∧ ∃ q : Regrown, w'' = grow (redrawn w1 q.d) q.os :=
    fun d os => Calls.regrown_of ((text_any p _ H.out.2.2.2.2.1.1 (by have := H.out.2.2.2.2.1.2; omega)).mono (fun e w' ⟨h1, h2⟩ => ⟨h1, by subst h2; exact Below.refl _ _⟩))
  have cE : ∀ d os, Calls Tryd.prog 72 #[.int .i64 c] (grow (redrawn w1 d) os) fun e w'' => e = .returned (.string (bytesOf (errT c))) ∧ ∃ q : Regrown, w'' = grow (redrawn w1 q.d) q.os :=
    fun d os => Calls.regrown_of (errnoText c H.out.2.2.2.1 _ (ht1.below h31 (below_regrown w1 d os)))
  have cI' := Lib.hid cI
  have cE' := Lib.hid cE
  have k0 := cell_regrown c0
  have k1 := cell_regrown c1
  clear cI cE ht1 h31 c0 c1
  have n1 : ¬ 9223372036854775807 < 3 + (bytesOf (Lib.itoa p)).size := by omega
  have n2 : ¬ 9223372036854775807 < 3 + (bytesOf (Lib.itoa p)).size + 2 := by omega
  have n3 : ¬ 9223372036854775807 < 3 + (bytesOf (Lib.itoa p)).size + 2 + (bytesOf (errT c)).size := by omega
  refine wp_region_quiet_below (by kernel_rfl) (by kernel_rfl) ?_
  repeat (quiet_step (first | (go_at_call 74; exact cI'.out _ _) | (go_at_call 72; exact cE'.out _ _)))
  refine wpQuiet_nil ?_
  intro W2 hw'
  obtain ⟨⟨dq, osq⟩, hw''⟩ := hw'
  have B2 := Lib.hid (show Below w.heap.size w (grow (redrawn w1 dq) osq) from below_then' B1.out (below_regrown w1 dq osq))
  rw [← hw''] at B2
  clear hw'' k0 k1 cI' cE' B1 n1 n2 n3 l1 l2
  have e0 : ({ data := #[97, 116, 32] } ++ bytesOf (Lib.itoa p) ++ { data := #[58, 32] } ++ bytesOf (errT c) : ByteArray) = bytesOf (fltT c p) :=
    ((congrArg (fun x => x ++ _ ++ _) (bytesOf_append [97, 116, 32] _)).trans ((congrArg (fun x => x ++ _) (bytesOf_append _ [58, 32])).trans (bytesOf_append _ _)))
  rw [e0]
  clear e0
  have S2 := Lib.hid (H.out.1.below B2.out)
  have Hs := Lib.hid H.out.2.1
  clear H
  go_wp2
  go_loop [5, 6] (fun t i => ∃ k : Nat, k ≤ n ∧ i = .int .i64 k ∧ t = .string (bytesOf (ahead (ss.take k) (fltT c p)))) (fun _ i => n - (intOf i).toNat)
  case atStart => exact ⟨0, Nat.zero_le _, rfl, rfl⟩
  case round =>
    obtain ⟨k, hk, rfl, rfl⟩ := hrel
    have hsz : (bytesOf (ahead (ss.take k) (fltT c p))).size ≤ 3000 := by
      rw [bytesOf_size]
      have h1 := ahead_len (ss.take k) (fltT c p) (fun x hx => Hs.out x (List.mem_of_mem_take hx))
      have h2 : (ss.take k).length ≤ k := List.length_take_le _ _
      omega
    by_cases hlt : k < n
    · have hlen := Lib.hid S2.out.1
      have hstep := Lib.hid (ahead_take ss (fltT c p) k (by rw [hlen.out]; exact hlt))
      have hx : (ss.getD k ByteArray.empty).size ≤ 100 := by
        rw [List.getD_eq_getElem?_getD, List.getElem?_eq_getElem (by rw [hlen.out]; exact hlt)]
        exact Hs.out _ (List.getElem_mem _)
      obtain ⟨b, off, hA, hcell⟩ := S2.out.2.resolve_left (by omega)
      have hc := hcell k hlt
      clear hcell
      subst hA
      generalize hT : bytesOf (ahead (ss.take k) (fltT c p)) = T at *
      have hT' := Lib.hid hT
      clear hT
      generalize hX : ss.getD k ByteArray.empty = X at *
      clear hX
      have n1 : ¬ 9223372036854775807 < X.size + 2 := by omega
      have n2 : ¬ 9223372036854775807 < X.size + 2 + T.size := by omega
      go_wp2
      go_round
      case rel =>
        refine ⟨k + 1, by omega, by go_num, congrArg Value.string ?_⟩
        rw [hstep.out, ← bytesOf_append, ← bytesOf_append, bytesOf_toList, hT'.out]
        rfl
      case measure => simp [intOf]; omega
    · have hke : k = n := by omega
      have hlen := Lib.hid S2.out.1
      go_wp2
      go_ret
      refine ⟨?_, B2.out⟩
      rw [List.take_of_length_le (by rw [hlen.out]; omega)]
      rfl
end Go.Proofs.YtceddcogpigolaaDoor
