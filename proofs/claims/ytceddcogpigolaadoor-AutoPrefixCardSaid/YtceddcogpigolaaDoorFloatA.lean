/- The functions of package float, by contracts: the parts of a form (forms, split, top, bias, NaN). -/
import Derived.Test.YtceddcogpigolaaDoorProg
import Derived.Handy
import Derived.Lib.Hide
import Derived.Lib.QuietBelow
import Derived.WalkLawsBesides
namespace Go.Proofs.YtceddcogpigolaaDoor
open Go.RowKit Go.Sort

theorem top_5 (fb : Int) (w : World) : Calls Tryd.prog 178 #[.agg #[.int .i64 5, .int .i64 fb]] w fun e w' => e = .returned (.int .u64 31) ∧ Below w.heap.size w w' := by
  go_enter Tryd.func178, Tryd.ntmps178
  go_wp2
  go_ret
  exact ⟨rfl, by go_grown⟩
theorem top_8 (fb : Int) (w : World) : Calls Tryd.prog 178 #[.agg #[.int .i64 8, .int .i64 fb]] w fun e w' => e = .returned (.int .u64 255) ∧ Below w.heap.size w w' := by
  go_enter Tryd.func178, Tryd.ntmps178
  go_wp2
  go_ret
  exact ⟨rfl, by go_grown⟩
theorem top_11 (fb : Int) (w : World) : Calls Tryd.prog 178 #[.agg #[.int .i64 11, .int .i64 fb]] w fun e w' => e = .returned (.int .u64 2047) ∧ Below w.heap.size w w' := by
  go_enter Tryd.func178, Tryd.ntmps178
  go_wp2
  go_ret
  exact ⟨rfl, by go_grown⟩
theorem bias_5 (fb : Int) (w : World) : Calls Tryd.prog 177 #[.agg #[.int .i64 5, .int .i64 fb]] w fun e w' => e = .returned (.int .i64 15) ∧ Below w.heap.size w w' := by
  go_enter Tryd.func177, Tryd.ntmps177
  go_wp2
  go_ret
  exact ⟨rfl, by go_grown⟩
theorem bias_8 (fb : Int) (w : World) : Calls Tryd.prog 177 #[.agg #[.int .i64 8, .int .i64 fb]] w fun e w' => e = .returned (.int .i64 127) ∧ Below w.heap.size w w' := by
  go_enter Tryd.func177, Tryd.ntmps177
  go_wp2
  go_ret
  exact ⟨rfl, by go_grown⟩
theorem bias_11 (fb : Int) (w : World) : Calls Tryd.prog 177 #[.agg #[.int .i64 11, .int .i64 fb]] w fun e w' => e = .returned (.int .i64 1023) ∧ Below w.heap.size w w' := by
  go_enter Tryd.func177, Tryd.ntmps177
  go_wp2
  go_ret
  exact ⟨rfl, by go_grown⟩
theorem forms_2 (w : World) : Calls Tryd.prog 175 #[.int .i64 2] w fun e w' => e = .returned (.tuple #[.agg #[.int .i64 5, .int .i64 10], .bool true]) ∧ Below w.heap.size w w' := by
  go_enter Tryd.func175, Tryd.ntmps175
  go_wp2
  go_returns
  exact ⟨rfl, by go_grown⟩
theorem forms_4 (w : World) : Calls Tryd.prog 175 #[.int .i64 4] w fun e w' => e = .returned (.tuple #[.agg #[.int .i64 8, .int .i64 23], .bool true]) ∧ Below w.heap.size w w' := by
  go_enter Tryd.func175, Tryd.ntmps175
  go_wp2
  go_returns
  exact ⟨rfl, by go_grown⟩
theorem forms_8 (w : World) : Calls Tryd.prog 175 #[.int .i64 8] w fun e w' => e = .returned (.tuple #[.agg #[.int .i64 11, .int .i64 52], .bool true]) ∧ Below w.heap.size w w' := by
  go_enter Tryd.func175, Tryd.ntmps175
  go_wp2
  go_returns
  exact ⟨rfl, by go_grown⟩
theorem wrapsU64 (n : Int) (h0 : 0 ≤ n) (h1 : n < 2 ^ 64) : IntKind.u64.wrap n = n := by rw [IntKind.wrap_u64]; omega
theorem maskU64 (i : Nat) (hi : i ≤ 64) (x : Int) (h0 : 0 ≤ x) (h1 : x < 18446744073709551616) : bits .and .u64 x (2 ^ i - 1) = x % 2 ^ i :=
  bits_mask .u64 64 (by decide) wrapsU64 i hi x h0 h1
def U64 (x : Int) : Prop := 0 ≤ x ∧ x < 18446744073709551616
theorem split_5 (x : Int) (h : U64 x) (w : World) : Calls Tryd.prog 176 #[.agg #[.int .i64 5, .int .i64 10], .int .u64 x] w fun e w' => e = .returned (.tuple #[.int .u64 (x / 32768), .int .u64 (x / 1024 % 32), .int .u64 (x % 1024)]) ∧ Below w.heap.size w w' := by
  obtain ⟨h0, h1⟩ := h
  have m1 : bits .and .u64 (x / 1024) 31 = x / 1024 % 32 := maskU64 5 (by decide) _ (by omega) (by omega)
  have m2 : bits .and .u64 x 1023 = x % 1024 := maskU64 10 (by decide) _ (by omega) (by omega)
  have s15 : IntKind.i64.wrap 15 = 15 := by decide
  have s2 : IntKind.u64.wrap 32 = 32 := by decide
  have s3 : IntKind.u64.wrap 31 = 31 := by decide
  have s4 : IntKind.u64.wrap 1024 = 1024 := by decide
  have s5 : IntKind.u64.wrap 1023 = 1023 := by decide
  have c0 : (w.alloc (.cells #[.int .i64 5, .int .i64 10] 267)).cell? ⟨w.heap.size, 0, none⟩ = some (.int .i64 5) := by simp
  have c1 : (w.alloc (.cells #[.int .i64 5, .int .i64 10] 267)).cell? ⟨w.heap.size, 1, none⟩ = some (.int .i64 10) := by simp
  have B1 := Lib.hid (show Below w.heap.size w (w.alloc (.cells #[.int .i64 5, .int .i64 10] 267)) by go_grown)
  have k0 := cell_regrown c0
  have k1 := cell_regrown c1
  clear h1
  go_enter Tryd.func176, Tryd.ntmps176
  go_wp2
  refine wp_region_quiet_below (by kernel_rfl) (by kernel_rfl) ?_
  repeat (quiet_step (fail))
  refine wpQuiet_nil ?_
  intro w2 hw2
  obtain ⟨⟨dq, osq⟩, hw''⟩ := hw2
  have B2 := Lib.hid (show Below w.heap.size w w2 by rw [hw'']; exact B1.out.trans ((below_regrown _ dq osq).mono (by simp)))
  clear hw'' k0 k1 c0 c1
  go_wp2
  go_ret3
  exact ⟨rfl, B2.out⟩
theorem split_8 (x : Int) (h : U64 x) (w : World) : Calls Tryd.prog 176 #[.agg #[.int .i64 8, .int .i64 23], .int .u64 x] w fun e w' => e = .returned (.tuple #[.int .u64 (x / 2147483648), .int .u64 (x / 8388608 % 256), .int .u64 (x % 8388608)]) ∧ Below w.heap.size w w' := by
  obtain ⟨h0, h1⟩ := h
  have m1 : bits .and .u64 (x / 8388608) 255 = x / 8388608 % 256 := maskU64 8 (by decide) _ (by omega) (by omega)
  have m2 : bits .and .u64 x 8388607 = x % 8388608 := maskU64 23 (by decide) _ (by omega) (by omega)
  have s15 : IntKind.i64.wrap 31 = 31 := by decide
  have s2 : IntKind.u64.wrap 256 = 256 := by decide
  have s3 : IntKind.u64.wrap 255 = 255 := by decide
  have s4 : IntKind.u64.wrap 8388608 = 8388608 := by decide
  have s5 : IntKind.u64.wrap 8388607 = 8388607 := by decide
  have c0 : (w.alloc (.cells #[.int .i64 8, .int .i64 23] 267)).cell? ⟨w.heap.size, 0, none⟩ = some (.int .i64 8) := by simp
  have c1 : (w.alloc (.cells #[.int .i64 8, .int .i64 23] 267)).cell? ⟨w.heap.size, 1, none⟩ = some (.int .i64 23) := by simp
  have B1 := Lib.hid (show Below w.heap.size w (w.alloc (.cells #[.int .i64 8, .int .i64 23] 267)) by go_grown)
  have k0 := cell_regrown c0
  have k1 := cell_regrown c1
  clear h1
  go_enter Tryd.func176, Tryd.ntmps176
  go_wp2
  refine wp_region_quiet_below (by kernel_rfl) (by kernel_rfl) ?_
  repeat (quiet_step (fail))
  refine wpQuiet_nil ?_
  intro w2 hw2
  obtain ⟨⟨dq, osq⟩, hw''⟩ := hw2
  have B2 := Lib.hid (show Below w.heap.size w w2 by rw [hw'']; exact B1.out.trans ((below_regrown _ dq osq).mono (by simp)))
  clear hw'' k0 k1 c0 c1
  go_wp2
  go_ret3
  exact ⟨rfl, B2.out⟩
theorem split_11 (x : Int) (h : U64 x) (w : World) : Calls Tryd.prog 176 #[.agg #[.int .i64 11, .int .i64 52], .int .u64 x] w fun e w' => e = .returned (.tuple #[.int .u64 (x / 9223372036854775808), .int .u64 (x / 4503599627370496 % 2048), .int .u64 (x % 4503599627370496)]) ∧ Below w.heap.size w w' := by
  obtain ⟨h0, h1⟩ := h
  have m1 : bits .and .u64 (x / 4503599627370496) 2047 = x / 4503599627370496 % 2048 := maskU64 11 (by decide) _ (by omega) (by omega)
  have m2 : bits .and .u64 x 4503599627370495 = x % 4503599627370496 := maskU64 52 (by decide) _ (by omega) (by omega)
  have s15 : IntKind.i64.wrap 63 = 63 := by decide
  have s2 : IntKind.u64.wrap 2048 = 2048 := by decide
  have s3 : IntKind.u64.wrap 2047 = 2047 := by decide
  have s4 : IntKind.u64.wrap 4503599627370496 = 4503599627370496 := by decide
  have s5 : IntKind.u64.wrap 4503599627370495 = 4503599627370495 := by decide
  have c0 : (w.alloc (.cells #[.int .i64 11, .int .i64 52] 267)).cell? ⟨w.heap.size, 0, none⟩ = some (.int .i64 11) := by simp
  have c1 : (w.alloc (.cells #[.int .i64 11, .int .i64 52] 267)).cell? ⟨w.heap.size, 1, none⟩ = some (.int .i64 52) := by simp
  have B1 := Lib.hid (show Below w.heap.size w (w.alloc (.cells #[.int .i64 11, .int .i64 52] 267)) by go_grown)
  have k0 := cell_regrown c0
  have k1 := cell_regrown c1
  clear h1
  go_enter Tryd.func176, Tryd.ntmps176
  go_wp2
  refine wp_region_quiet_below (by kernel_rfl) (by kernel_rfl) ?_
  repeat (quiet_step (fail))
  refine wpQuiet_nil ?_
  intro w2 hw2
  obtain ⟨⟨dq, osq⟩, hw''⟩ := hw2
  have B2 := Lib.hid (show Below w.heap.size w w2 by rw [hw'']; exact B1.out.trans ((below_regrown _ dq osq).mono (by simp)))
  clear hw'' k0 k1 c0 c1
  go_wp2
  go_ret3
  exact ⟨rfl, B2.out⟩
end Go.Proofs.YtceddcogpigolaaDoor
