/- The texts of this program's errors, by contracts: the functions' strings are the document's texts. -/
import Derived.Test.YtceddcogpigolaaDoorErrFault
import Derived.Test.YtceddcogpigolaaDoorText5
import Derived.Test.YtceddcogpigolaaDoorShelf
import Derived.Lib.QuietBelow
import Derived.Lib.AppendIntMem
import Derived.WalkSmall
namespace Go.Proofs.YtceddcogpigolaaDoor
open Go.RowKit Go.Sort

def Pow10 (w : World) : Prop := Lib.TabIs Tryd.prog w "internal/strconv.uint64pow10" .u64 Lib.pow10Tab
theorem gPow : Tryd.prog.globalNamed "internal/strconv.uint64pow10" = some 3 := by kernel_rfl
theorem Pow10.below {w w' : World} (h : Pow10 w) (hlt : 3 < w.heap.size) (hb : Below w.heap.size w w') : Pow10 w' := var?_below hb gPow hlt h
def errT (c : Int) : List UInt8 := [117, 108, 108, 97, 103, 101, 58, 32, 101, 114, 114, 111, 114, 32] ++ Lib.itoa c
def fltT (c p : Int) : List UInt8 := [97, 116, 32] ++ Lib.itoa p ++ [58, 32] ++ errT c
def Er.text : Er → List UInt8
  | .code n => errT n
  | .other => [111, 116, 104, 101, 114]
  | .fault _ c p => fltT c p
  | .wrap _ s e => s.data.toList ++ [58, 32] ++ e.text
def I64 (n : Int) : Prop := -9223372036854775808 ≤ n ∧ n ≤ 9223372036854775807
theorem itoa_len (n : Int) (h : I64 n) : (Lib.itoa n).length ≤ 20 := by
  unfold I64 at h
  unfold Lib.itoa
  split
  · have := dec_len 18 n.natAbs (by omega); simp; omega
  · have := dec_len 18 n.toNat (by omega); omega
theorem bytesOf_toList (s : ByteArray) : bytesOf s.data.toList = s := by
  cases s; simp [bytesOf]

theorem itoaB (n : Int) (h : I64 n) (w : World) (hp : Pow10 w) : Calls Tryd.prog 71 #[.int .i64 n] w fun e w' => e = .returned (.string (bytesOf (Lib.itoa n))) ∧ Below w.heap.size w w' := by
  refine (Tryd.strconv_Itoa n h.1 h.2 w hp).mono ?_
  rintro e w' ⟨rfl, k, os, rfl⟩
  exact ⟨rfl, Lib.below_grow _ _ (Nat.le_refl _) k os⟩

theorem errnoText (c : Int) (h : I64 c) (w : World) (hp : Pow10 w) : Calls Tryd.prog 72 #[.int .i64 c] w fun e w' => e = .returned (.string (bytesOf (errT c))) ∧ Below w.heap.size w w' := by
  have hl : (bytesOf (Lib.itoa c)).size ≤ 20 := by rw [bytesOf_size]; exact itoa_len c h
  have hc := itoaB c h w hp
  have hc' := Lib.hid hc
  clear hc hp h
  go_enter Tryd.func72, Tryd.ntmps72
  go_wp2_with (go_at_call 71; refine hc'.out.mono ?_; rintro ev w' ⟨rfl, hb⟩)
  go_ret
  exact ⟨congrArg (fun b => Ending.returned (Value.string b)) (bytesOf_append _ _), by assumption⟩

theorem faultText (b : Nat) (c p : Int) (hc : I64 c) (hp : I64 p) (w : World) (hin : (Er.fault b c p).In w) (ht : Pow10 w) (h3 : 3 < w.heap.size) :
    Calls Tryd.prog 16 #[.pointer (some ⟨b, 0, none⟩)] w fun e w' => e = .returned (.string (bytesOf (fltT c p))) ∧ Below w.heap.size w w' := by
  obtain ⟨c0, c1⟩ := hin
  have k0 := cell_regrown c0
  have k1 := cell_regrown c1
  have l1 : (bytesOf (Lib.itoa p)).size ≤ 20 := by rw [bytesOf_size]; exact itoa_len p hp
  have l2 : (bytesOf (errT c)).size ≤ 34 := by rw [bytesOf_size]; have := itoa_len c hc; simp [errT]; omega
  have cI : ∀ d os, Calls Tryd.prog 71 #[.int .i64 p] (grow (redrawn w d) os) fun e w'' => e = .returned (.string (bytesOf (Lib.itoa p))) ∧ ∃ q : Regrown, w'' = grow (redrawn w q.d) q.os :=
    fun d os => Calls.regrown_of (itoaB p hp _ (ht.below h3 (below_regrown w d os)))
  have cE : ∀ d os, Calls Tryd.prog 72 #[.int .i64 c] (grow (redrawn w d) os) fun e w'' => e = .returned (.string (bytesOf (errT c))) ∧ ∃ q : Regrown, w'' = grow (redrawn w q.d) q.os :=
    fun d os => Calls.regrown_of (errnoText c hc _ (ht.below h3 (below_regrown w d os)))
  clear ht c0 c1 hc hp h3
  have cI' := Lib.hid cI
  have cE' := Lib.hid cE
  clear cI cE
  have n1 : ¬ 9223372036854775807 < 3 + (bytesOf (Lib.itoa p)).size := by omega
  have n2 : ¬ 9223372036854775807 < 3 + (bytesOf (Lib.itoa p)).size + 2 := by omega
  have n3 : ¬ 9223372036854775807 < 3 + (bytesOf (Lib.itoa p)).size + 2 + (bytesOf (errT c)).size := by omega
  go_enter Tryd.func16, Tryd.ntmps16
  go_wp2
  refine wp_region_quiet_below (by kernel_rfl) (by kernel_rfl) ?_
  repeat (quiet_step (first | (go_at_call 71; exact cI'.out _ _) | (go_at_call 72; exact cE'.out _ _)))
  refine wpQuiet_nil ?_
  intro _ hw'
  obtain ⟨⟨dq, osq⟩, hw''⟩ := hw'
  subst hw''
  go_wp2
  go_ret
  refine ⟨?_, below_regrown w dq osq⟩
  refine congrArg (fun b => Ending.returned (Value.string b)) ?_
  exact ((congrArg (fun x => x ++ _ ++ _) (bytesOf_append [97, 116, 32] _)).trans ((congrArg (fun x => x ++ _) (bytesOf_append _ [58, 32])).trans (bytesOf_append _ _)))

theorem errMethod24 (a : Addr) (w : World) : (Go.method 467 24 (.pointer (some a)) "Error").run Tryd.prog w = .ok (16, .pointer (some a)) w := by kernel_rfl
theorem errMethod125 (a : Addr) (w : World) : (Go.method 467 125 (.pointer (some a)) "Error").run Tryd.prog w = .ok (274, .pointer (some a)) w := by kernel_rfl
theorem errAhead24 (a : Addr) (w : World) : (Go.nilAhead 467 24 (.pointer (some a)) "Error").run Tryd.prog w = .ok (some false) w := by kernel_rfl
theorem errAhead125 (a : Addr) (w : World) : (Go.nilAhead 467 125 (.pointer (some a)) "Error").run Tryd.prog w = .ok (some false) w := by kernel_rfl
def Er.isF : Er → Prop
  | .fault _ c p => I64 c ∧ I64 p
  | .wrap _ _ e => e.isF
  | _ => False
def Er.fn : Er → FuncId
  | .fault _ _ _ => 16
  | _ => 274
def Er.blk : Er → Nat
  | .fault b _ _ => b
  | .wrap b _ _ => b
  | _ => 0

set_option maxHeartbeats 1000000 in
theorem chainText (e : Er) : ∀ (w : World), e.In w → e.isF → Pow10 w → 3 < w.heap.size → e.text.length ≤ 100000 →
    Calls Tryd.prog e.fn #[.pointer (some ⟨e.blk, 0, none⟩)] w fun ev w' => ev = .returned (.string (bytesOf e.text)) ∧ Below w.heap.size w w' := by
  induction e with
  | code n => intro w _ h; exact h.elim
  | other => intro w _ h; exact h.elim
  | fault b c p => intro w hin hf hp h3 _; exact faultText b c p hf.1 hf.2 w hin hp h3
  | wrap b s e2 ih =>
    intro w hin hf hp h3 hl
    obtain ⟨c0, c1, hin2⟩ := hin
    have hl2 : e2.text.length ≤ 100000 := by simp [Er.text] at hl; omega
    have hls : s.size ≤ 100000 := by simp [Er.text] at hl; omega
    have cE : ∀ d os, Calls Tryd.prog e2.fn #[.pointer (some ⟨e2.blk, 0, none⟩)] (grow (redrawn w d) os) fun e w'' => e = .returned (.string (bytesOf e2.text)) ∧ ∃ q : Regrown, w'' = grow (redrawn w q.d) q.os :=
      fun d os => Calls.regrown_of (ih _ (hin2.of_below (below_regrown w d os)) hf (hp.below h3 (below_regrown w d os)) (Nat.lt_of_lt_of_le h3 (below_regrown w d os).size) hl2)
    have k0 := cell_regrown c0
    have k1 := cell_regrown c1
    have hz : (bytesOf e2.text).size ≤ 100000 := by rw [bytesOf_size]; exact hl2
    have n1 : ¬ 9223372036854775807 < s.size + 2 := by omega
    have n2 : ¬ 9223372036854775807 < s.size + 2 + (bytesOf e2.text).size := by omega
    have cE' := Lib.hid cE
    have hz' : (bytesOf (e2.text)).size ≤ 100000 := hz
    have fin : (s ++ ⟨#[58, 32]⟩ ++ bytesOf e2.text : ByteArray) = bytesOf (Er.wrap b s e2).text := by
      show _ = bytesOf (s.data.toList ++ [58, 32] ++ e2.text)
      rw [← bytesOf_append, ← bytesOf_append, bytesOf_toList]; rfl
    have fin' := Lib.hid fin
    clear fin ih cE hp h3 hl hl2 hin2 c0 c1
    have mE24 := errMethod24
    have mE125 := errMethod125
    have aE24 := errAhead24
    have aE125 := errAhead125
    cases e2 with
    | code n => exact hf.elim
    | other => exact hf.elim
    | fault b2 c p =>
      clear hf
      simp only [Er.val] at k1
      generalize ht : bytesOf (Er.fault b2 c p).text = T at *
      clear ht
      show Calls Tryd.prog 274 #[.pointer (some ⟨b, 0, none⟩)] w _
      go_enter Tryd.func274, Tryd.ntmps274
      go_wp2
      refine wp_region_quiet_below (by kernel_rfl) (by kernel_rfl) ?_
      repeat (quiet_step (first | (go_at_call 16; exact cE'.out _ _)))
      refine wpQuiet_nil ?_
      intro _ hw'
      obtain ⟨⟨dq, osq⟩, hw''⟩ := hw'
      subst hw''
      go_wp2
      go_ret
      exact ⟨congrArg (fun b => Ending.returned (Value.string b)) fin'.out, below_regrown w dq osq⟩
    | wrap b2 s2 e3 =>
      clear hf
      simp only [Er.val] at k1
      generalize ht : bytesOf (Er.wrap b2 s2 e3).text = T at *
      clear ht
      show Calls Tryd.prog 274 #[.pointer (some ⟨b, 0, none⟩)] w _
      go_enter Tryd.func274, Tryd.ntmps274
      go_wp2
      refine wp_region_quiet_below (by kernel_rfl) (by kernel_rfl) ?_
      repeat (quiet_step (first | (go_at_call 274; exact cE'.out _ _)))
      refine wpQuiet_nil ?_
      intro _ hw'
      obtain ⟨⟨dq, osq⟩, hw''⟩ := hw'
      subst hw''
      go_wp2
      go_ret
      exact ⟨congrArg (fun b => Ending.returned (Value.string b)) fin'.out, below_regrown w dq osq⟩
end Go.Proofs.YtceddcogpigolaaDoor
