/- errors.As and errors.Is over chains of this program's errors, by contracts. -/
import Derived.Test.YtceddcogpigolaaDoorErrFacts
import Derived.Lib.Hide
import Derived.Stop.IfaceNil
import Derived.Deep.LoopGhost
namespace Go.Proofs.YtceddcogpigolaaDoor
open Go.RowKit Go.Extern.Stop Go.Stop Go.Extern

/-- An error of this program: a number · other · a fault in block b · a wrap in block b. -/
inductive Er where
  | code (n : Int)
  | other
  | fault (b : Nat) (c p : Int)
  | wrap (b : Nat) (s : ByteArray) (e : Er)
def Er.val : Er → Value
  | .code n => .iface 22 (.int .i64 n)
  | .other => .iface 38 (.agg #[])
  | .fault b _ _ => .iface 24 (.pointer (some ⟨b, 0, none⟩))
  | .wrap b _ _ => .iface 125 (.pointer (some ⟨b, 0, none⟩))
theorem Er.val_iface (e : Er) : ∃ u x, e.val = .iface u x := by
  cases e <;> exact ⟨_, _, rfl⟩
def Er.In (w : World) : Er → Prop
  | .code _ => True
  | .other => True
  | .fault b c p => w.cell? ⟨b, 0, none⟩ = some (.int .i64 c) ∧ w.cell? ⟨b, 1, none⟩ = some (.int .i64 p)
  | .wrap b s e => w.cell? ⟨b, 0, none⟩ = some (.string s) ∧ w.cell? ⟨b, 1, none⟩ = some e.val ∧ e.In w
def Er.depth : Er → Nat
  | .code _ => 0
  | .other => 0
  | .fault _ _ _ => 1
  | .wrap _ _ e => e.depth + 1
def Er.hit22 : Er → Option Int
  | .code n => some n
  | .other => none
  | .fault _ c _ => some c
  | .wrap _ _ e => e.hit22
def Er.hit24 : Er → Option Nat
  | .code _ => none
  | .other => none
  | .fault b _ _ => some b
  | .wrap _ _ e => e.hit24
theorem Er.In.below {w w' : World} {e : Er} (h : e.In w) (hb : ∀ b o, w.cell? ⟨b, o, none⟩ ≠ none → w'.cell? ⟨b, o, none⟩ = w.cell? ⟨b, o, none⟩) : e.In w' := by
  induction e with
  | code n => trivial
  | other => trivial
  | fault b c p => exact ⟨by rw [hb _ _ (by rw [h.1]; simp)]; exact h.1, by rw [hb _ _ (by rw [h.2]; simp)]; exact h.2⟩
  | wrap b s e ih => exact ⟨by rw [hb _ _ (by rw [h.1]; simp)]; exact h.1, by rw [hb _ _ (by rw [h.2.1]; simp)]; exact h.2.1, ih h.2.2⟩


set_option maxHeartbeats 4000000 in
theorem as22_hit (e : Er) (n : Int) (t vb : Addr) (old : Value) (w : World) (he : e.In w) (hh : e.hit22 = some n) (hv : w.cell? vb = some (.pointer (some t))) (ht : w.cell? t = some old) (hf : w.frozen? t = false) :
    Calls Tryd.prog 113 #[e.val, .iface 123 (.pointer (some t)), .agg #[.pointer (some ⟨6, 123, none⟩), .pointer (some vb), .int .u64 150], .iface 237 (.agg #[.pointer (some ⟨6, 22, none⟩)])] w
      fun ev w' => ev = .returned (.bool true) ∧ w' = ((w.alloc (.cells #[.pointer (some ⟨6, 123, none⟩), .pointer (some vb), .int .u64 150] 186)).alloc (.cells #[.int .i64 n] 22)).setCell t (.int .i64 n) := by
  have h115 := @run_callFunc_extern Tryd.prog 115 _ ReflectliteType.typeOf Tryd.func115 (by kernel_rfl) (by kernel_rfl) (by kernel_rfl) (by kernel_rfl)
  have h280 := @run_callFunc_extern Tryd.prog 280 _ (ReflectliteType.relation "AssignableTo" ReflectliteType.assignableTo) Tryd.func280 (by kernel_rfl) (by kernel_rfl) (by kernel_rfl) (by kernel_rfl)
  have h157 := @run_callFunc_extern Tryd.prog 157 _ (ReflectliteValue.method (ReflectliteValue.valueError "reflectlite.Value.Elem" 0) ReflectliteValue.elem) Tryd.func157 (by kernel_rfl) (by kernel_rfl) (by kernel_rfl) (by kernel_rfl)
  have h110 := @run_callFunc_extern Tryd.prog 110 _ (fun args => ReflectliteValue.unpack (args.getD 0 (.tuple #[]))) Tryd.func110 (by kernel_rfl) (by kernel_rfl) (by kernel_rfl) (by kernel_rfl)
  have h158 := @run_callFunc_extern Tryd.prog 158 _ ReflectliteValue.set Tryd.func158 (by kernel_rfl) (by kernel_rfl) (by kernel_rfl) (by kernel_rfl)
  have hvb : vb.block < w.heap.size := World.block_lt_of_cell? w vb hv
  have htb : t.block < w.heap.size := World.block_lt_of_cell? w t ht
  have typeOf22_ := typeOf22
  have typeOf24_ := typeOf24
  have typeOf125_ := typeOf125
  have typeOf38_ := typeOf38
  have methodAssignableTo_ := methodAssignableTo
  have assign22_22_ := assign22_22
  have assign24_22_ := assign24_22
  have assign125_22_ := assign125_22
  have assign38_22_ := assign38_22
  have noAs22_ := noAs22
  have noAs24_ := noAs24
  have noAs125_ := noAs125
  have noAs38_ := noAs38
  have un24_ := un24
  have un125_ := un125
  have noUn22_ := noUn22
  have noUn38_ := noUn38
  have noUns22_ := noUns22
  have noUns38_ := noUns38
  have methodUnwrap24_ := methodUnwrap24
  have methodUnwrap125_ := methodUnwrap125
  have vE := valueOf22 n
  have el := elemV123 vb t (w.alloc (.cells #[.pointer (some ⟨6, 123, none⟩), .pointer (some vb), .int .u64 150] 186)) (by rw [World.cell?_alloc_lt _ _ vb hvb]; exact hv)
  have st := set22 t ⟨w.heap.size + 1, 0, none⟩ n old ((w.alloc (.cells #[.pointer (some ⟨6, 123, none⟩), .pointer (some vb), .int .u64 150] 186)).alloc (.cells #[.int .i64 n] 22))
    (by rw [World.cell?_alloc_at _ _ _ _ (by simp)]; rfl) (by rw [World.cell?_alloc_lt _ _ t (by simp; omega), World.cell?_alloc_lt _ _ t htb]; exact ht)
    (by rw [World.frozen?_alloc_old _ _ t (by simp; omega), World.frozen?_alloc_old _ _ t (by omega)]; exact hf)
  have H := Lib.hid he
  have HH := Lib.hid hh
  clear he hh
  go_enter Tryd.func113, Tryd.ntmps113
  go_wp2
  go_loopg [0] (e.depth) (fun k v wr => wr = (w.alloc (.cells #[.pointer (some ⟨6, 123, none⟩), .pointer (some vb), .int .u64 150] 186)) ∧ ∃ e' : Er, e'.depth = k ∧ e'.val = v ∧ e'.In w ∧ e'.hit22 = some n)
  case atStart => exact ⟨rfl, e, rfl, rfl, H.out, HH.out⟩
  case round =>
    obtain ⟨rfl, e', hk, rfl, hin, hit⟩ := hrel
    cases e' with
    | code m =>
      simp only [Er.hit22, Option.some.injEq] at hit
      subst hit
      simp only [Er.val]
      go_wp2
      go_ret
      exact ⟨rfl, rfl⟩
    | other => simp [Er.hit22] at hit
    | fault b c p =>
      simp only [Er.hit22, Option.some.injEq] at hit
      subst hit
      obtain ⟨hc0, hc1⟩ := hin
      have hb : b < w.heap.size := World.block_lt_of_cell? w ⟨b, 0, none⟩ hc0
      have hc0' : (w.alloc (.cells #[.pointer (some ⟨6, 123, none⟩), .pointer (some vb), .int .u64 150] 186)).cell? ⟨b, 0, none⟩ = some (.int .i64 c) := by rw [World.cell?_alloc_lt _ _ _ hb]; exact hc0
      have hk' := Lib.hid hk
      clear hk
      simp only [Er.val]
      go_wp2
      go_roundg 0
      case rel => exact ⟨rfl, .code c, rfl, rfl, trivial, rfl⟩
      case measure => rw [← hk'.out]; simp [Er.depth]
    | wrap b s e2 =>
      obtain ⟨hc0, hc1, hin2⟩ := hin
      have hb : b < w.heap.size := World.block_lt_of_cell? w ⟨b, 0, none⟩ hc0
      have hc1' : (w.alloc (.cells #[.pointer (some ⟨6, 123, none⟩), .pointer (some vb), .int .u64 150] 186)).cell? ⟨b, 1, none⟩ = some e2.val := by rw [World.cell?_alloc_lt _ _ _ hb]; exact hc1
      have hk' := Lib.hid hk
      have hin2' := Lib.hid hin2
      have hit' := Lib.hid hit
      clear hk hin2 hit
      obtain ⟨u, x, hux⟩ := Er.val_iface e2
      rw [hux] at hc1'
      have hux' := Lib.hid hux
      clear hux hc1
      simp only [Er.val]
      go_wp2
      go_roundg e2.depth
      case rel => exact ⟨rfl, e2, rfl, hux'.out, hin2'.out, hit'.out⟩
      case measure => rw [← hk'.out]; simp [Er.depth]

set_option maxHeartbeats 4000000 in
theorem as22_miss (e : Er) (t vb : Addr) (w : World) (he : e.In w) (hh : e.hit22 = none) :
    Calls Tryd.prog 113 #[e.val, .iface 123 (.pointer (some t)), .agg #[.pointer (some ⟨6, 123, none⟩), .pointer (some vb), .int .u64 150], .iface 237 (.agg #[.pointer (some ⟨6, 22, none⟩)])] w
      fun ev w' => ev = .returned (.bool false) ∧ w' = (w.alloc (.cells #[.pointer (some ⟨6, 123, none⟩), .pointer (some vb), .int .u64 150] 186)) := by
  have h115 := @run_callFunc_extern Tryd.prog 115 _ ReflectliteType.typeOf Tryd.func115 (by kernel_rfl) (by kernel_rfl) (by kernel_rfl) (by kernel_rfl)
  have h280 := @run_callFunc_extern Tryd.prog 280 _ (ReflectliteType.relation "AssignableTo" ReflectliteType.assignableTo) Tryd.func280 (by kernel_rfl) (by kernel_rfl) (by kernel_rfl) (by kernel_rfl)
  have typeOf22_ := typeOf22
  have typeOf24_ := typeOf24
  have typeOf125_ := typeOf125
  have typeOf38_ := typeOf38
  have methodAssignableTo_ := methodAssignableTo
  have assign22_22_ := assign22_22
  have assign24_22_ := assign24_22
  have assign125_22_ := assign125_22
  have assign38_22_ := assign38_22
  have noAs22_ := noAs22
  have noAs24_ := noAs24
  have noAs125_ := noAs125
  have noAs38_ := noAs38
  have un24_ := un24
  have un125_ := un125
  have noUn22_ := noUn22
  have noUn38_ := noUn38
  have noUns22_ := noUns22
  have noUns38_ := noUns38
  have methodUnwrap24_ := methodUnwrap24
  have methodUnwrap125_ := methodUnwrap125
  have H := Lib.hid he
  have HH := Lib.hid hh
  clear he hh
  go_enter Tryd.func113, Tryd.ntmps113
  go_wp2
  go_loopg [0] (e.depth) (fun k v wr => wr = (w.alloc (.cells #[.pointer (some ⟨6, 123, none⟩), .pointer (some vb), .int .u64 150] 186)) ∧ ∃ e' : Er, e'.depth = k ∧ e'.val = v ∧ e'.In w ∧ e'.hit22 = none)
  case atStart => exact ⟨rfl, e, rfl, rfl, H.out, HH.out⟩
  case round =>
    obtain ⟨rfl, e', hk, rfl, hin, hit⟩ := hrel
    cases e' with
    | code m =>
      simp [Er.hit22] at hit
    | other =>
      have hk' := Lib.hid hk
      clear hk hit
      simp only [Er.val]
      go_wp2
      go_ret
      exact ⟨rfl, rfl⟩
    | fault b c p => simp [Er.hit22] at hit
    | wrap b s e2 =>
      obtain ⟨hc0, hc1, hin2⟩ := hin
      have hb : b < w.heap.size := World.block_lt_of_cell? w ⟨b, 0, none⟩ hc0
      have hc1' : (w.alloc (.cells #[.pointer (some ⟨6, 123, none⟩), .pointer (some vb), .int .u64 150] 186)).cell? ⟨b, 1, none⟩ = some e2.val := by rw [World.cell?_alloc_lt _ _ _ hb]; exact hc1
      have hk' := Lib.hid hk
      have hin2' := Lib.hid hin2
      have hit' := Lib.hid hit
      clear hk hin2 hit
      obtain ⟨u, x, hux⟩ := Er.val_iface e2
      rw [hux] at hc1'
      have hux' := Lib.hid hux
      clear hux hc1
      simp only [Er.val]
      go_wp2
      go_roundg e2.depth
      case rel => exact ⟨rfl, e2, rfl, hux'.out, hin2'.out, hit'.out⟩
      case measure => rw [← hk'.out]; simp [Er.depth]

set_option maxHeartbeats 4000000 in
theorem As22_hit (e : Er) (n : Int) (t : Addr) (old : Value) (w : World) (he : e.In w) (hh : e.hit22 = some n) (hg : w.cell? ⟨0, 0, none⟩ = some (.iface 237 (.agg #[.pointer (some ⟨6, 33, none⟩)]))) (ht : w.cell? t = some old) (hf : w.frozen? t = false) :
    Calls Tryd.prog 70 #[e.val, .iface 123 (.pointer (some t))] w
      fun ev w' => ev = .returned (.bool true) ∧ w' = ((((w.alloc (.cells #[.pointer (some t)] 123)).alloc (.cells #[.pointer (some ⟨6, 123, none⟩), .pointer (some ⟨w.heap.size, 0, none⟩), .int .u64 150] 186)).alloc (.cells #[.pointer (some ⟨6, 123, none⟩), .pointer (some ⟨w.heap.size, 0, none⟩), .int .u64 150] 186)).alloc (.cells #[.int .i64 n] 22)).setCell t (.int .i64 n) := by
  have h110 := @run_callFunc_extern Tryd.prog 110 _ (fun args => ReflectliteValue.unpack (args.getD 0 (.tuple #[]))) Tryd.func110 (by kernel_rfl) (by kernel_rfl) (by kernel_rfl) (by kernel_rfl)
  have h111 := @run_callFunc_extern Tryd.prog 111 _ (ReflectliteValue.methodAny (ReflectliteValue.valueError "reflectlite.Value.Type" 0) (fun t _ _ _ => ReflectliteType.toType t)) Tryd.func111 (by kernel_rfl) (by kernel_rfl) (by kernel_rfl) (by kernel_rfl)
  have h112 := @run_callFunc_extern Tryd.prog 112 _ (ReflectliteValue.method (ReflectliteValue.valueError "reflectlite.Value.IsNil" 0) ReflectliteValue.isNil) Tryd.func112 (by kernel_rfl) (by kernel_rfl) (by kernel_rfl) (by kernel_rfl)
  have h270 := @run_callFunc_extern Tryd.prog 270 _ (ReflectliteType.abiMethod fun t => do pure (.int .u8 (← Rtype.kind t))) Tryd.func270 (by kernel_rfl) (by kernel_rfl) (by kernel_rfl) (by kernel_rfl)
  have h282 := @run_callFunc_extern Tryd.prog 282 _ (ReflectliteType.method ReflectliteType.elem) Tryd.func282 (by kernel_rfl) (by kernel_rfl) (by kernel_rfl) (by kernel_rfl)
  have h283 := @run_callFunc_extern Tryd.prog 283 _ (ReflectliteType.relation "Implements" ReflectliteType.implements_) Tryd.func283 (by kernel_rfl) (by kernel_rfl) (by kernel_rfl) (by kernel_rfl)
  have valueOf123_ := valueOf123
  have type123_ := type123
  have methodKind_ := methodKind
  have methodElem_ := methodElem
  have methodImplements_ := methodImplements
  have kind123_ := kind123
  have kind22_ := kind22
  have elem123_ := elem123
  have implements22_ := implements22
  have hlt : 0 < w.heap.size := World.block_lt_of_cell? w ⟨0, 0, none⟩ hg
  have hg2 : ((w.alloc (.cells #[.pointer (some t)] 123)).alloc (.cells #[.pointer (some ⟨6, 123, none⟩), .pointer (some ⟨w.heap.size, 0, none⟩), .int .u64 150] 186)).cell? ⟨0, 0, none⟩ = some (.iface 237 (.agg #[.pointer (some ⟨6, 33, none⟩)])) := by
    rw [World.cell?_alloc_lt _ _ ⟨0, 0, none⟩ (by simp), World.cell?_alloc_lt _ _ ⟨0, 0, none⟩ hlt]; exact hg
  have n8 := isNil123 ⟨w.heap.size, 0, none⟩ t ((w.alloc (.cells #[.pointer (some t)] 123)).alloc (.cells #[.pointer (some ⟨6, 123, none⟩), .pointer (some ⟨w.heap.size, 0, none⟩), .int .u64 150] 186)) (by simp)
  have hin : e.In ((w.alloc (.cells #[.pointer (some t)] 123)).alloc (.cells #[.pointer (some ⟨6, 123, none⟩), .pointer (some ⟨w.heap.size, 0, none⟩), .int .u64 150] 186)) := he.below (fun b o h => by
    have h1 : (⟨b, o, none⟩ : Addr).block < w.heap.size := by
      rcases Option.ne_none_iff_exists'.1 h with ⟨v, hv⟩
      exact World.block_lt_of_cell? w _ hv
    rw [World.cell?_alloc_lt _ _ _ (by simp at h1 ⊢; omega), World.cell?_alloc_lt _ _ _ h1])
  have hin' := Lib.hid hin
  have hh' := Lib.hid hh
  obtain ⟨u, x, hux⟩ := Er.val_iface e
  have htl : t.block < w.heap.size := World.block_lt_of_cell? w t ht
  have hc := as22_hit e n t ⟨w.heap.size, 0, none⟩ old ((w.alloc (.cells #[.pointer (some t)] 123)).alloc (.cells #[.pointer (some ⟨6, 123, none⟩), .pointer (some ⟨w.heap.size, 0, none⟩), .int .u64 150] 186)) hin hh (by rw [World.cell?_alloc_lt _ _ ⟨w.heap.size, 0, none⟩ (by simp)]; simp)
    (by rw [World.cell?_alloc_lt _ _ t (by simp; omega), World.cell?_alloc_lt _ _ t htl]; exact ht) (by rw [World.frozen?_alloc_old _ _ t (by simp; omega), World.frozen?_alloc_old _ _ t (by omega)]; exact hf)
  rw [hux] at hc ⊢
  clear he hh hin hux
  have hc' := Lib.hid hc
  clear hc
  go_enter Tryd.func70, Tryd.ntmps70
  go_wp2_with (go_at_call 113; refine hc'.out.mono ?_; rintro ev w' ⟨rfl, rfl⟩)
  go_ret
  exact ⟨rfl, rfl⟩
set_option maxHeartbeats 4000000 in
theorem As22_miss (e : Er) (t : Addr) (w : World) (he : e.In w) (hh : e.hit22 = none) (hg : w.cell? ⟨0, 0, none⟩ = some (.iface 237 (.agg #[.pointer (some ⟨6, 33, none⟩)]))) :
    Calls Tryd.prog 70 #[e.val, .iface 123 (.pointer (some t))] w
      fun ev w' => ev = .returned (.bool false) ∧ w' = (((w.alloc (.cells #[.pointer (some t)] 123)).alloc (.cells #[.pointer (some ⟨6, 123, none⟩), .pointer (some ⟨w.heap.size, 0, none⟩), .int .u64 150] 186)).alloc (.cells #[.pointer (some ⟨6, 123, none⟩), .pointer (some ⟨w.heap.size, 0, none⟩), .int .u64 150] 186)) := by
  have h110 := @run_callFunc_extern Tryd.prog 110 _ (fun args => ReflectliteValue.unpack (args.getD 0 (.tuple #[]))) Tryd.func110 (by kernel_rfl) (by kernel_rfl) (by kernel_rfl) (by kernel_rfl)
  have h111 := @run_callFunc_extern Tryd.prog 111 _ (ReflectliteValue.methodAny (ReflectliteValue.valueError "reflectlite.Value.Type" 0) (fun t _ _ _ => ReflectliteType.toType t)) Tryd.func111 (by kernel_rfl) (by kernel_rfl) (by kernel_rfl) (by kernel_rfl)
  have h112 := @run_callFunc_extern Tryd.prog 112 _ (ReflectliteValue.method (ReflectliteValue.valueError "reflectlite.Value.IsNil" 0) ReflectliteValue.isNil) Tryd.func112 (by kernel_rfl) (by kernel_rfl) (by kernel_rfl) (by kernel_rfl)
  have h270 := @run_callFunc_extern Tryd.prog 270 _ (ReflectliteType.abiMethod fun t => do pure (.int .u8 (← Rtype.kind t))) Tryd.func270 (by kernel_rfl) (by kernel_rfl) (by kernel_rfl) (by kernel_rfl)
  have h282 := @run_callFunc_extern Tryd.prog 282 _ (ReflectliteType.method ReflectliteType.elem) Tryd.func282 (by kernel_rfl) (by kernel_rfl) (by kernel_rfl) (by kernel_rfl)
  have h283 := @run_callFunc_extern Tryd.prog 283 _ (ReflectliteType.relation "Implements" ReflectliteType.implements_) Tryd.func283 (by kernel_rfl) (by kernel_rfl) (by kernel_rfl) (by kernel_rfl)
  have valueOf123_ := valueOf123
  have type123_ := type123
  have methodKind_ := methodKind
  have methodElem_ := methodElem
  have methodImplements_ := methodImplements
  have kind123_ := kind123
  have kind22_ := kind22
  have elem123_ := elem123
  have implements22_ := implements22
  have hlt : 0 < w.heap.size := World.block_lt_of_cell? w ⟨0, 0, none⟩ hg
  have hg2 : ((w.alloc (.cells #[.pointer (some t)] 123)).alloc (.cells #[.pointer (some ⟨6, 123, none⟩), .pointer (some ⟨w.heap.size, 0, none⟩), .int .u64 150] 186)).cell? ⟨0, 0, none⟩ = some (.iface 237 (.agg #[.pointer (some ⟨6, 33, none⟩)])) := by
    rw [World.cell?_alloc_lt _ _ ⟨0, 0, none⟩ (by simp), World.cell?_alloc_lt _ _ ⟨0, 0, none⟩ hlt]; exact hg
  have n8 := isNil123 ⟨w.heap.size, 0, none⟩ t ((w.alloc (.cells #[.pointer (some t)] 123)).alloc (.cells #[.pointer (some ⟨6, 123, none⟩), .pointer (some ⟨w.heap.size, 0, none⟩), .int .u64 150] 186)) (by simp)
  have hin : e.In ((w.alloc (.cells #[.pointer (some t)] 123)).alloc (.cells #[.pointer (some ⟨6, 123, none⟩), .pointer (some ⟨w.heap.size, 0, none⟩), .int .u64 150] 186)) := he.below (fun b o h => by
    have h1 : (⟨b, o, none⟩ : Addr).block < w.heap.size := by
      rcases Option.ne_none_iff_exists'.1 h with ⟨v, hv⟩
      exact World.block_lt_of_cell? w _ hv
    rw [World.cell?_alloc_lt _ _ _ (by simp at h1 ⊢; omega), World.cell?_alloc_lt _ _ _ h1])
  have hin' := Lib.hid hin
  have hh' := Lib.hid hh
  obtain ⟨u, x, hux⟩ := Er.val_iface e
  have hc := as22_miss e t ⟨w.heap.size, 0, none⟩ ((w.alloc (.cells #[.pointer (some t)] 123)).alloc (.cells #[.pointer (some ⟨6, 123, none⟩), .pointer (some ⟨w.heap.size, 0, none⟩), .int .u64 150] 186)) hin hh
  rw [hux] at hc ⊢
  clear he hh hin hux
  have hc' := Lib.hid hc
  clear hc
  go_enter Tryd.func70, Tryd.ntmps70
  go_wp2_with (go_at_call 113; refine hc'.out.mono ?_; rintro ev w' ⟨rfl, rfl⟩)
  go_ret
  exact ⟨rfl, rfl⟩

set_option maxHeartbeats 4000000 in
theorem as24_hit (e : Er) (n : Nat) (t vb : Addr) (old : Value) (w : World) (he : e.In w) (hh : e.hit24 = some n) (hv : w.cell? vb = some (.pointer (some t))) (ht : w.cell? t = some old) (hf : w.frozen? t = false) :
    Calls Tryd.prog 113 #[e.val, .iface 121 (.pointer (some t)), .agg #[.pointer (some ⟨6, 121, none⟩), .pointer (some vb), .int .u64 150], .iface 237 (.agg #[.pointer (some ⟨6, 24, none⟩)])] w
      fun ev w' => ev = .returned (.bool true) ∧ w' = ((w.alloc (.cells #[.pointer (some ⟨6, 121, none⟩), .pointer (some vb), .int .u64 150] 186)).alloc (.cells #[.pointer (some ⟨n, 0, none⟩)] 24)).setCell t (.pointer (some ⟨n, 0, none⟩)) := by
  have h115 := @run_callFunc_extern Tryd.prog 115 _ ReflectliteType.typeOf Tryd.func115 (by kernel_rfl) (by kernel_rfl) (by kernel_rfl) (by kernel_rfl)
  have h280 := @run_callFunc_extern Tryd.prog 280 _ (ReflectliteType.relation "AssignableTo" ReflectliteType.assignableTo) Tryd.func280 (by kernel_rfl) (by kernel_rfl) (by kernel_rfl) (by kernel_rfl)
  have h157 := @run_callFunc_extern Tryd.prog 157 _ (ReflectliteValue.method (ReflectliteValue.valueError "reflectlite.Value.Elem" 0) ReflectliteValue.elem) Tryd.func157 (by kernel_rfl) (by kernel_rfl) (by kernel_rfl) (by kernel_rfl)
  have h110 := @run_callFunc_extern Tryd.prog 110 _ (fun args => ReflectliteValue.unpack (args.getD 0 (.tuple #[]))) Tryd.func110 (by kernel_rfl) (by kernel_rfl) (by kernel_rfl) (by kernel_rfl)
  have h158 := @run_callFunc_extern Tryd.prog 158 _ ReflectliteValue.set Tryd.func158 (by kernel_rfl) (by kernel_rfl) (by kernel_rfl) (by kernel_rfl)
  have hvb : vb.block < w.heap.size := World.block_lt_of_cell? w vb hv
  have htb : t.block < w.heap.size := World.block_lt_of_cell? w t ht
  have typeOf22_ := typeOf22
  have typeOf24_ := typeOf24
  have typeOf125_ := typeOf125
  have typeOf38_ := typeOf38
  have methodAssignableTo_ := methodAssignableTo
  have assign22_24_ := assign22_24
  have assign24_24_ := assign24_24
  have assign125_24_ := assign125_24
  have assign38_24_ := assign38_24
  have noAs22_ := noAs22
  have noAs24_ := noAs24
  have noAs125_ := noAs125
  have noAs38_ := noAs38
  have un24_ := un24
  have un125_ := un125
  have noUn22_ := noUn22
  have noUn38_ := noUn38
  have noUns22_ := noUns22
  have noUns38_ := noUns38
  have methodUnwrap24_ := methodUnwrap24
  have methodUnwrap125_ := methodUnwrap125
  have vE := valueOf24 ⟨n, 0, none⟩
  have el := elemV121 vb t (w.alloc (.cells #[.pointer (some ⟨6, 121, none⟩), .pointer (some vb), .int .u64 150] 186)) (by rw [World.cell?_alloc_lt _ _ vb hvb]; exact hv)
  have st := set24 t ⟨w.heap.size + 1, 0, none⟩ ⟨n, 0, none⟩ old ((w.alloc (.cells #[.pointer (some ⟨6, 121, none⟩), .pointer (some vb), .int .u64 150] 186)).alloc (.cells #[.pointer (some ⟨n, 0, none⟩)] 24))
    (by rw [World.cell?_alloc_at _ _ _ _ (by simp)]; rfl) (by rw [World.cell?_alloc_lt _ _ t (by simp; omega), World.cell?_alloc_lt _ _ t htb]; exact ht)
    (by rw [World.frozen?_alloc_old _ _ t (by simp; omega), World.frozen?_alloc_old _ _ t (by omega)]; exact hf)
  have H := Lib.hid he
  have HH := Lib.hid hh
  clear he hh
  go_enter Tryd.func113, Tryd.ntmps113
  go_wp2
  go_loopg [0] (e.depth) (fun k v wr => wr = (w.alloc (.cells #[.pointer (some ⟨6, 121, none⟩), .pointer (some vb), .int .u64 150] 186)) ∧ ∃ e' : Er, e'.depth = k ∧ e'.val = v ∧ e'.In w ∧ e'.hit24 = some n)
  case atStart => exact ⟨rfl, e, rfl, rfl, H.out, HH.out⟩
  case round =>
    obtain ⟨rfl, e', hk, rfl, hin, hit⟩ := hrel
    cases e' with
    | code m => simp [Er.hit24] at hit
    | other => simp [Er.hit24] at hit
    | fault b c p =>
      simp only [Er.hit24, Option.some.injEq] at hit
      subst hit
      simp only [Er.val]
      go_wp2
      go_ret
      exact ⟨rfl, rfl⟩
    | wrap b s e2 =>
      obtain ⟨hc0, hc1, hin2⟩ := hin
      have hb : b < w.heap.size := World.block_lt_of_cell? w ⟨b, 0, none⟩ hc0
      have hc1' : (w.alloc (.cells #[.pointer (some ⟨6, 121, none⟩), .pointer (some vb), .int .u64 150] 186)).cell? ⟨b, 1, none⟩ = some e2.val := by rw [World.cell?_alloc_lt _ _ _ hb]; exact hc1
      have hk' := Lib.hid hk
      have hin2' := Lib.hid hin2
      have hit' := Lib.hid hit
      clear hk hin2 hit
      obtain ⟨u, x, hux⟩ := Er.val_iface e2
      rw [hux] at hc1'
      have hux' := Lib.hid hux
      clear hux hc1
      simp only [Er.val]
      go_wp2
      go_roundg e2.depth
      case rel => exact ⟨rfl, e2, rfl, hux'.out, hin2'.out, hit'.out⟩
      case measure => rw [← hk'.out]; simp [Er.depth]

set_option maxHeartbeats 4000000 in
theorem as24_miss (e : Er) (t vb : Addr) (w : World) (he : e.In w) (hh : e.hit24 = none) :
    Calls Tryd.prog 113 #[e.val, .iface 121 (.pointer (some t)), .agg #[.pointer (some ⟨6, 121, none⟩), .pointer (some vb), .int .u64 150], .iface 237 (.agg #[.pointer (some ⟨6, 24, none⟩)])] w
      fun ev w' => ev = .returned (.bool false) ∧ w' = (w.alloc (.cells #[.pointer (some ⟨6, 121, none⟩), .pointer (some vb), .int .u64 150] 186)) := by
  have h115 := @run_callFunc_extern Tryd.prog 115 _ ReflectliteType.typeOf Tryd.func115 (by kernel_rfl) (by kernel_rfl) (by kernel_rfl) (by kernel_rfl)
  have h280 := @run_callFunc_extern Tryd.prog 280 _ (ReflectliteType.relation "AssignableTo" ReflectliteType.assignableTo) Tryd.func280 (by kernel_rfl) (by kernel_rfl) (by kernel_rfl) (by kernel_rfl)
  have typeOf22_ := typeOf22
  have typeOf24_ := typeOf24
  have typeOf125_ := typeOf125
  have typeOf38_ := typeOf38
  have methodAssignableTo_ := methodAssignableTo
  have assign22_24_ := assign22_24
  have assign24_24_ := assign24_24
  have assign125_24_ := assign125_24
  have assign38_24_ := assign38_24
  have noAs22_ := noAs22
  have noAs24_ := noAs24
  have noAs125_ := noAs125
  have noAs38_ := noAs38
  have un24_ := un24
  have un125_ := un125
  have noUn22_ := noUn22
  have noUn38_ := noUn38
  have noUns22_ := noUns22
  have noUns38_ := noUns38
  have methodUnwrap24_ := methodUnwrap24
  have methodUnwrap125_ := methodUnwrap125
  have H := Lib.hid he
  have HH := Lib.hid hh
  clear he hh
  go_enter Tryd.func113, Tryd.ntmps113
  go_wp2
  go_loopg [0] (e.depth) (fun k v wr => wr = (w.alloc (.cells #[.pointer (some ⟨6, 121, none⟩), .pointer (some vb), .int .u64 150] 186)) ∧ ∃ e' : Er, e'.depth = k ∧ e'.val = v ∧ e'.In w ∧ e'.hit24 = none)
  case atStart => exact ⟨rfl, e, rfl, rfl, H.out, HH.out⟩
  case round =>
    obtain ⟨rfl, e', hk, rfl, hin, hit⟩ := hrel
    cases e' with
    | code m =>
      have hk' := Lib.hid hk
      clear hk hit
      simp only [Er.val]
      go_wp2
      go_ret
      exact ⟨rfl, rfl⟩
    | other =>
      have hk' := Lib.hid hk
      clear hk hit
      simp only [Er.val]
      go_wp2
      go_ret
      exact ⟨rfl, rfl⟩
    | fault b c p => simp [Er.hit24] at hit
    | wrap b s e2 =>
      obtain ⟨hc0, hc1, hin2⟩ := hin
      have hb : b < w.heap.size := World.block_lt_of_cell? w ⟨b, 0, none⟩ hc0
      have hc1' : (w.alloc (.cells #[.pointer (some ⟨6, 121, none⟩), .pointer (some vb), .int .u64 150] 186)).cell? ⟨b, 1, none⟩ = some e2.val := by rw [World.cell?_alloc_lt _ _ _ hb]; exact hc1
      have hk' := Lib.hid hk
      have hin2' := Lib.hid hin2
      have hit' := Lib.hid hit
      clear hk hin2 hit
      obtain ⟨u, x, hux⟩ := Er.val_iface e2
      rw [hux] at hc1'
      have hux' := Lib.hid hux
      clear hux hc1
      simp only [Er.val]
      go_wp2
      go_roundg e2.depth
      case rel => exact ⟨rfl, e2, rfl, hux'.out, hin2'.out, hit'.out⟩
      case measure => rw [← hk'.out]; simp [Er.depth]

set_option maxHeartbeats 4000000 in
theorem As24_hit (e : Er) (n : Nat) (t : Addr) (old : Value) (w : World) (he : e.In w) (hh : e.hit24 = some n) (hg : w.cell? ⟨0, 0, none⟩ = some (.iface 237 (.agg #[.pointer (some ⟨6, 33, none⟩)]))) (ht : w.cell? t = some old) (hf : w.frozen? t = false) :
    Calls Tryd.prog 70 #[e.val, .iface 121 (.pointer (some t))] w
      fun ev w' => ev = .returned (.bool true) ∧ w' = ((((w.alloc (.cells #[.pointer (some t)] 121)).alloc (.cells #[.pointer (some ⟨6, 121, none⟩), .pointer (some ⟨w.heap.size, 0, none⟩), .int .u64 150] 186)).alloc (.cells #[.pointer (some ⟨6, 121, none⟩), .pointer (some ⟨w.heap.size, 0, none⟩), .int .u64 150] 186)).alloc (.cells #[.pointer (some ⟨n, 0, none⟩)] 24)).setCell t (.pointer (some ⟨n, 0, none⟩)) := by
  have h110 := @run_callFunc_extern Tryd.prog 110 _ (fun args => ReflectliteValue.unpack (args.getD 0 (.tuple #[]))) Tryd.func110 (by kernel_rfl) (by kernel_rfl) (by kernel_rfl) (by kernel_rfl)
  have h111 := @run_callFunc_extern Tryd.prog 111 _ (ReflectliteValue.methodAny (ReflectliteValue.valueError "reflectlite.Value.Type" 0) (fun t _ _ _ => ReflectliteType.toType t)) Tryd.func111 (by kernel_rfl) (by kernel_rfl) (by kernel_rfl) (by kernel_rfl)
  have h112 := @run_callFunc_extern Tryd.prog 112 _ (ReflectliteValue.method (ReflectliteValue.valueError "reflectlite.Value.IsNil" 0) ReflectliteValue.isNil) Tryd.func112 (by kernel_rfl) (by kernel_rfl) (by kernel_rfl) (by kernel_rfl)
  have h270 := @run_callFunc_extern Tryd.prog 270 _ (ReflectliteType.abiMethod fun t => do pure (.int .u8 (← Rtype.kind t))) Tryd.func270 (by kernel_rfl) (by kernel_rfl) (by kernel_rfl) (by kernel_rfl)
  have h282 := @run_callFunc_extern Tryd.prog 282 _ (ReflectliteType.method ReflectliteType.elem) Tryd.func282 (by kernel_rfl) (by kernel_rfl) (by kernel_rfl) (by kernel_rfl)
  have h283 := @run_callFunc_extern Tryd.prog 283 _ (ReflectliteType.relation "Implements" ReflectliteType.implements_) Tryd.func283 (by kernel_rfl) (by kernel_rfl) (by kernel_rfl) (by kernel_rfl)
  have valueOf121_ := valueOf121
  have type121_ := type121
  have methodKind_ := methodKind
  have methodElem_ := methodElem
  have methodImplements_ := methodImplements
  have kind121_ := kind121
  have kind24_ := kind24
  have elem121_ := elem121
  have implements24_ := implements24
  have hlt : 0 < w.heap.size := World.block_lt_of_cell? w ⟨0, 0, none⟩ hg
  have hg2 : ((w.alloc (.cells #[.pointer (some t)] 121)).alloc (.cells #[.pointer (some ⟨6, 121, none⟩), .pointer (some ⟨w.heap.size, 0, none⟩), .int .u64 150] 186)).cell? ⟨0, 0, none⟩ = some (.iface 237 (.agg #[.pointer (some ⟨6, 33, none⟩)])) := by
    rw [World.cell?_alloc_lt _ _ ⟨0, 0, none⟩ (by simp), World.cell?_alloc_lt _ _ ⟨0, 0, none⟩ hlt]; exact hg
  have n8 := isNil121 ⟨w.heap.size, 0, none⟩ t ((w.alloc (.cells #[.pointer (some t)] 121)).alloc (.cells #[.pointer (some ⟨6, 121, none⟩), .pointer (some ⟨w.heap.size, 0, none⟩), .int .u64 150] 186)) (by simp)
  have hin : e.In ((w.alloc (.cells #[.pointer (some t)] 121)).alloc (.cells #[.pointer (some ⟨6, 121, none⟩), .pointer (some ⟨w.heap.size, 0, none⟩), .int .u64 150] 186)) := he.below (fun b o h => by
    have h1 : (⟨b, o, none⟩ : Addr).block < w.heap.size := by
      rcases Option.ne_none_iff_exists'.1 h with ⟨v, hv⟩
      exact World.block_lt_of_cell? w _ hv
    rw [World.cell?_alloc_lt _ _ _ (by simp at h1 ⊢; omega), World.cell?_alloc_lt _ _ _ h1])
  have hin' := Lib.hid hin
  have hh' := Lib.hid hh
  obtain ⟨u, x, hux⟩ := Er.val_iface e
  have htl : t.block < w.heap.size := World.block_lt_of_cell? w t ht
  have hc := as24_hit e n t ⟨w.heap.size, 0, none⟩ old ((w.alloc (.cells #[.pointer (some t)] 121)).alloc (.cells #[.pointer (some ⟨6, 121, none⟩), .pointer (some ⟨w.heap.size, 0, none⟩), .int .u64 150] 186)) hin hh (by rw [World.cell?_alloc_lt _ _ ⟨w.heap.size, 0, none⟩ (by simp)]; simp)
    (by rw [World.cell?_alloc_lt _ _ t (by simp; omega), World.cell?_alloc_lt _ _ t htl]; exact ht) (by rw [World.frozen?_alloc_old _ _ t (by simp; omega), World.frozen?_alloc_old _ _ t (by omega)]; exact hf)
  rw [hux] at hc ⊢
  clear he hh hin hux
  have hc' := Lib.hid hc
  clear hc
  go_enter Tryd.func70, Tryd.ntmps70
  go_wp2_with (go_at_call 113; refine hc'.out.mono ?_; rintro ev w' ⟨rfl, rfl⟩)
  go_ret
  exact ⟨rfl, rfl⟩
set_option maxHeartbeats 4000000 in
theorem As24_miss (e : Er) (t : Addr) (w : World) (he : e.In w) (hh : e.hit24 = none) (hg : w.cell? ⟨0, 0, none⟩ = some (.iface 237 (.agg #[.pointer (some ⟨6, 33, none⟩)]))) :
    Calls Tryd.prog 70 #[e.val, .iface 121 (.pointer (some t))] w
      fun ev w' => ev = .returned (.bool false) ∧ w' = (((w.alloc (.cells #[.pointer (some t)] 121)).alloc (.cells #[.pointer (some ⟨6, 121, none⟩), .pointer (some ⟨w.heap.size, 0, none⟩), .int .u64 150] 186)).alloc (.cells #[.pointer (some ⟨6, 121, none⟩), .pointer (some ⟨w.heap.size, 0, none⟩), .int .u64 150] 186)) := by
  have h110 := @run_callFunc_extern Tryd.prog 110 _ (fun args => ReflectliteValue.unpack (args.getD 0 (.tuple #[]))) Tryd.func110 (by kernel_rfl) (by kernel_rfl) (by kernel_rfl) (by kernel_rfl)
  have h111 := @run_callFunc_extern Tryd.prog 111 _ (ReflectliteValue.methodAny (ReflectliteValue.valueError "reflectlite.Value.Type" 0) (fun t _ _ _ => ReflectliteType.toType t)) Tryd.func111 (by kernel_rfl) (by kernel_rfl) (by kernel_rfl) (by kernel_rfl)
  have h112 := @run_callFunc_extern Tryd.prog 112 _ (ReflectliteValue.method (ReflectliteValue.valueError "reflectlite.Value.IsNil" 0) ReflectliteValue.isNil) Tryd.func112 (by kernel_rfl) (by kernel_rfl) (by kernel_rfl) (by kernel_rfl)
  have h270 := @run_callFunc_extern Tryd.prog 270 _ (ReflectliteType.abiMethod fun t => do pure (.int .u8 (← Rtype.kind t))) Tryd.func270 (by kernel_rfl) (by kernel_rfl) (by kernel_rfl) (by kernel_rfl)
  have h282 := @run_callFunc_extern Tryd.prog 282 _ (ReflectliteType.method ReflectliteType.elem) Tryd.func282 (by kernel_rfl) (by kernel_rfl) (by kernel_rfl) (by kernel_rfl)
  have h283 := @run_callFunc_extern Tryd.prog 283 _ (ReflectliteType.relation "Implements" ReflectliteType.implements_) Tryd.func283 (by kernel_rfl) (by kernel_rfl) (by kernel_rfl) (by kernel_rfl)
  have valueOf121_ := valueOf121
  have type121_ := type121
  have methodKind_ := methodKind
  have methodElem_ := methodElem
  have methodImplements_ := methodImplements
  have kind121_ := kind121
  have kind24_ := kind24
  have elem121_ := elem121
  have implements24_ := implements24
  have hlt : 0 < w.heap.size := World.block_lt_of_cell? w ⟨0, 0, none⟩ hg
  have hg2 : ((w.alloc (.cells #[.pointer (some t)] 121)).alloc (.cells #[.pointer (some ⟨6, 121, none⟩), .pointer (some ⟨w.heap.size, 0, none⟩), .int .u64 150] 186)).cell? ⟨0, 0, none⟩ = some (.iface 237 (.agg #[.pointer (some ⟨6, 33, none⟩)])) := by
    rw [World.cell?_alloc_lt _ _ ⟨0, 0, none⟩ (by simp), World.cell?_alloc_lt _ _ ⟨0, 0, none⟩ hlt]; exact hg
  have n8 := isNil121 ⟨w.heap.size, 0, none⟩ t ((w.alloc (.cells #[.pointer (some t)] 121)).alloc (.cells #[.pointer (some ⟨6, 121, none⟩), .pointer (some ⟨w.heap.size, 0, none⟩), .int .u64 150] 186)) (by simp)
  have hin : e.In ((w.alloc (.cells #[.pointer (some t)] 121)).alloc (.cells #[.pointer (some ⟨6, 121, none⟩), .pointer (some ⟨w.heap.size, 0, none⟩), .int .u64 150] 186)) := he.below (fun b o h => by
    have h1 : (⟨b, o, none⟩ : Addr).block < w.heap.size := by
      rcases Option.ne_none_iff_exists'.1 h with ⟨v, hv⟩
      exact World.block_lt_of_cell? w _ hv
    rw [World.cell?_alloc_lt _ _ _ (by simp at h1 ⊢; omega), World.cell?_alloc_lt _ _ _ h1])
  have hin' := Lib.hid hin
  have hh' := Lib.hid hh
  obtain ⟨u, x, hux⟩ := Er.val_iface e
  have hc := as24_miss e t ⟨w.heap.size, 0, none⟩ ((w.alloc (.cells #[.pointer (some t)] 121)).alloc (.cells #[.pointer (some ⟨6, 121, none⟩), .pointer (some ⟨w.heap.size, 0, none⟩), .int .u64 150] 186)) hin hh
  rw [hux] at hc ⊢
  clear he hh hin hux
  have hc' := Lib.hid hc
  clear hc
  go_enter Tryd.func70, Tryd.ntmps70
  go_wp2_with (go_at_call 113; refine hc'.out.mono ?_; rintro ev w' ⟨rfl, rfl⟩)
  go_ret
  exact ⟨rfl, rfl⟩

theorem As_nil (t : Value) (w : World) : Calls Tryd.prog 70 #[.nilIface, t] w fun e w' => e = .returned (.bool false) ∧ w' = w := by
  go_enter Tryd.func70, Tryd.ntmps70
  go_wp2
  go_ret
  exact ⟨rfl, rfl⟩
end Go.Proofs.YtceddcogpigolaaDoor
