/- boscagelaw08.WorldNew where the numbers may not be. -/
import Derived.Test.YtacmeafpieoaaaaAb
namespace Go.Proofs.Ytacmeafpieoaaaa
open Go.RowKit

set_option maxRecDepth 100000
theorem newWorld_bad0 (a b n nodes records : Int) (e0 : decide (a < 2) = true) (w : World) : Calls Try.prog 76 #[.int .i64 a, .int .i64 b, .int .i64 n, .int .i64 nodes, .int .i64 records] w fun e w' => e = .returned (.tuple #[.pointer none, .int .i64 2]) ∧ w' = w := by
  go_enter Try.func76, Try.ntmps76
  go_wp2
  exact bodyPost_ret (v := .tuple #[.pointer none, .int .i64 2]) (by simp [results, Try.results76, go_sem]) rfl ⟨rfl, rfl⟩
theorem worldNew_bad0 (a b n nodes records : Int) (e0 : decide (a < 2) = true) (w : World) : Calls Try.prog 13 #[.int .i64 a, .int .i64 b, .int .i64 n, .int .i64 nodes, .int .i64 records] w fun e w' => e = .returned (.bool true) ∧ Below w.heap.size w w' := by
  go_enter Try.func13, Try.ntmps13
  go_wp2_with fail
  refine (awake08_ok w).mono ?_
  rintro e w1 ⟨rfl, hB⟩
  have HB := Lib.hid hB
  clear hB
  go_wp2_with fail
  refine (newWorld_bad0 a b n nodes records e0 w1).mono ?_
  rintro e w' ⟨rfl, hw'⟩
  replace hw' := hw'.symm
  subst hw'
  go_wp2
  go_ret
  exact ⟨rfl, HB.out⟩

theorem newWorld_bad1 (a b n nodes records : Int) (e0 : decide (a < 2) = false) (e1 : decide (32 < a) = true) (w : World) : Calls Try.prog 76 #[.int .i64 a, .int .i64 b, .int .i64 n, .int .i64 nodes, .int .i64 records] w fun e w' => e = .returned (.tuple #[.pointer none, .int .i64 2]) ∧ w' = w := by
  go_enter Try.func76, Try.ntmps76
  go_wp2
  exact bodyPost_ret (v := .tuple #[.pointer none, .int .i64 2]) (by simp [results, Try.results76, go_sem]) rfl ⟨rfl, rfl⟩
theorem worldNew_bad1 (a b n nodes records : Int) (e0 : decide (a < 2) = false) (e1 : decide (32 < a) = true) (w : World) : Calls Try.prog 13 #[.int .i64 a, .int .i64 b, .int .i64 n, .int .i64 nodes, .int .i64 records] w fun e w' => e = .returned (.bool true) ∧ Below w.heap.size w w' := by
  go_enter Try.func13, Try.ntmps13
  go_wp2_with fail
  refine (awake08_ok w).mono ?_
  rintro e w1 ⟨rfl, hB⟩
  have HB := Lib.hid hB
  clear hB
  go_wp2_with fail
  refine (newWorld_bad1 a b n nodes records e0 e1 w1).mono ?_
  rintro e w' ⟨rfl, hw'⟩
  replace hw' := hw'.symm
  subst hw'
  go_wp2
  go_ret
  exact ⟨rfl, HB.out⟩

theorem newWorld_bad2 (a b n nodes records : Int) (e0 : decide (a < 2) = false) (e1 : decide (32 < a) = false) (e2 : decide (b < wrap64 (wrap64 (2 * a) - 1)) = true) (w : World) : Calls Try.prog 76 #[.int .i64 a, .int .i64 b, .int .i64 n, .int .i64 nodes, .int .i64 records] w fun e w' => e = .returned (.tuple #[.pointer none, .int .i64 2]) ∧ w' = w := by
  go_enter Try.func76, Try.ntmps76
  go_wp2
  exact bodyPost_ret (v := .tuple #[.pointer none, .int .i64 2]) (by simp [results, Try.results76, go_sem]) rfl ⟨rfl, rfl⟩
theorem worldNew_bad2 (a b n nodes records : Int) (e0 : decide (a < 2) = false) (e1 : decide (32 < a) = false) (e2 : decide (b < wrap64 (wrap64 (2 * a) - 1)) = true) (w : World) : Calls Try.prog 13 #[.int .i64 a, .int .i64 b, .int .i64 n, .int .i64 nodes, .int .i64 records] w fun e w' => e = .returned (.bool true) ∧ Below w.heap.size w w' := by
  go_enter Try.func13, Try.ntmps13
  go_wp2_with fail
  refine (awake08_ok w).mono ?_
  rintro e w1 ⟨rfl, hB⟩
  have HB := Lib.hid hB
  clear hB
  go_wp2_with fail
  refine (newWorld_bad2 a b n nodes records e0 e1 e2 w1).mono ?_
  rintro e w' ⟨rfl, hw'⟩
  replace hw' := hw'.symm
  subst hw'
  go_wp2
  go_ret
  exact ⟨rfl, HB.out⟩

theorem newWorld_bad3 (a b n nodes records : Int) (e0 : decide (a < 2) = false) (e1 : decide (32 < a) = false) (e2 : decide (b < wrap64 (wrap64 (2 * a) - 1)) = false) (e3 : decide (32 < b) = true) (w : World) : Calls Try.prog 76 #[.int .i64 a, .int .i64 b, .int .i64 n, .int .i64 nodes, .int .i64 records] w fun e w' => e = .returned (.tuple #[.pointer none, .int .i64 2]) ∧ w' = w := by
  go_enter Try.func76, Try.ntmps76
  go_wp2
  exact bodyPost_ret (v := .tuple #[.pointer none, .int .i64 2]) (by simp [results, Try.results76, go_sem]) rfl ⟨rfl, rfl⟩
theorem worldNew_bad3 (a b n nodes records : Int) (e0 : decide (a < 2) = false) (e1 : decide (32 < a) = false) (e2 : decide (b < wrap64 (wrap64 (2 * a) - 1)) = false) (e3 : decide (32 < b) = true) (w : World) : Calls Try.prog 13 #[.int .i64 a, .int .i64 b, .int .i64 n, .int .i64 nodes, .int .i64 records] w fun e w' => e = .returned (.bool true) ∧ Below w.heap.size w w' := by
  go_enter Try.func13, Try.ntmps13
  go_wp2_with fail
  refine (awake08_ok w).mono ?_
  rintro e w1 ⟨rfl, hB⟩
  have HB := Lib.hid hB
  clear hB
  go_wp2_with fail
  refine (newWorld_bad3 a b n nodes records e0 e1 e2 e3 w1).mono ?_
  rintro e w' ⟨rfl, hw'⟩
  replace hw' := hw'.symm
  subst hw'
  go_wp2
  go_ret
  exact ⟨rfl, HB.out⟩

theorem newWorld_bad4 (a b n nodes records : Int) (e0 : decide (a < 2) = false) (e1 : decide (32 < a) = false) (e2 : decide (b < wrap64 (wrap64 (2 * a) - 1)) = false) (e3 : decide (32 < b) = false) (e4 : decide (n < 1) = true) (w : World) : Calls Try.prog 76 #[.int .i64 a, .int .i64 b, .int .i64 n, .int .i64 nodes, .int .i64 records] w fun e w' => e = .returned (.tuple #[.pointer none, .int .i64 2]) ∧ w' = w := by
  go_enter Try.func76, Try.ntmps76
  go_wp2
  exact bodyPost_ret (v := .tuple #[.pointer none, .int .i64 2]) (by simp [results, Try.results76, go_sem]) rfl ⟨rfl, rfl⟩
theorem worldNew_bad4 (a b n nodes records : Int) (e0 : decide (a < 2) = false) (e1 : decide (32 < a) = false) (e2 : decide (b < wrap64 (wrap64 (2 * a) - 1)) = false) (e3 : decide (32 < b) = false) (e4 : decide (n < 1) = true) (w : World) : Calls Try.prog 13 #[.int .i64 a, .int .i64 b, .int .i64 n, .int .i64 nodes, .int .i64 records] w fun e w' => e = .returned (.bool true) ∧ Below w.heap.size w w' := by
  go_enter Try.func13, Try.ntmps13
  go_wp2_with fail
  refine (awake08_ok w).mono ?_
  rintro e w1 ⟨rfl, hB⟩
  have HB := Lib.hid hB
  clear hB
  go_wp2_with fail
  refine (newWorld_bad4 a b n nodes records e0 e1 e2 e3 e4 w1).mono ?_
  rintro e w' ⟨rfl, hw'⟩
  replace hw' := hw'.symm
  subst hw'
  go_wp2
  go_ret
  exact ⟨rfl, HB.out⟩

theorem newWorld_bad5 (a b n nodes records : Int) (e0 : decide (a < 2) = false) (e1 : decide (32 < a) = false) (e2 : decide (b < wrap64 (wrap64 (2 * a) - 1)) = false) (e3 : decide (32 < b) = false) (e4 : decide (n < 1) = false) (e5 : decide (64 < n) = true) (w : World) : Calls Try.prog 76 #[.int .i64 a, .int .i64 b, .int .i64 n, .int .i64 nodes, .int .i64 records] w fun e w' => e = .returned (.tuple #[.pointer none, .int .i64 2]) ∧ w' = w := by
  go_enter Try.func76, Try.ntmps76
  go_wp2
  exact bodyPost_ret (v := .tuple #[.pointer none, .int .i64 2]) (by simp [results, Try.results76, go_sem]) rfl ⟨rfl, rfl⟩
theorem worldNew_bad5 (a b n nodes records : Int) (e0 : decide (a < 2) = false) (e1 : decide (32 < a) = false) (e2 : decide (b < wrap64 (wrap64 (2 * a) - 1)) = false) (e3 : decide (32 < b) = false) (e4 : decide (n < 1) = false) (e5 : decide (64 < n) = true) (w : World) : Calls Try.prog 13 #[.int .i64 a, .int .i64 b, .int .i64 n, .int .i64 nodes, .int .i64 records] w fun e w' => e = .returned (.bool true) ∧ Below w.heap.size w w' := by
  go_enter Try.func13, Try.ntmps13
  go_wp2_with fail
  refine (awake08_ok w).mono ?_
  rintro e w1 ⟨rfl, hB⟩
  have HB := Lib.hid hB
  clear hB
  go_wp2_with fail
  refine (newWorld_bad5 a b n nodes records e0 e1 e2 e3 e4 e5 w1).mono ?_
  rintro e w' ⟨rfl, hw'⟩
  replace hw' := hw'.symm
  subst hw'
  go_wp2
  go_ret
  exact ⟨rfl, HB.out⟩

theorem newWorld_bad6 (a b n nodes records : Int) (e0 : decide (a < 2) = false) (e1 : decide (32 < a) = false) (e2 : decide (b < wrap64 (wrap64 (2 * a) - 1)) = false) (e3 : decide (32 < b) = false) (e4 : decide (n < 1) = false) (e5 : decide (64 < n) = false) (e6 : decide (nodes < 2) = true) (w : World) : Calls Try.prog 76 #[.int .i64 a, .int .i64 b, .int .i64 n, .int .i64 nodes, .int .i64 records] w fun e w' => e = .returned (.tuple #[.pointer none, .int .i64 2]) ∧ w' = w := by
  go_enter Try.func76, Try.ntmps76
  go_wp2
  exact bodyPost_ret (v := .tuple #[.pointer none, .int .i64 2]) (by simp [results, Try.results76, go_sem]) rfl ⟨rfl, rfl⟩
theorem worldNew_bad6 (a b n nodes records : Int) (e0 : decide (a < 2) = false) (e1 : decide (32 < a) = false) (e2 : decide (b < wrap64 (wrap64 (2 * a) - 1)) = false) (e3 : decide (32 < b) = false) (e4 : decide (n < 1) = false) (e5 : decide (64 < n) = false) (e6 : decide (nodes < 2) = true) (w : World) : Calls Try.prog 13 #[.int .i64 a, .int .i64 b, .int .i64 n, .int .i64 nodes, .int .i64 records] w fun e w' => e = .returned (.bool true) ∧ Below w.heap.size w w' := by
  go_enter Try.func13, Try.ntmps13
  go_wp2_with fail
  refine (awake08_ok w).mono ?_
  rintro e w1 ⟨rfl, hB⟩
  have HB := Lib.hid hB
  clear hB
  go_wp2_with fail
  refine (newWorld_bad6 a b n nodes records e0 e1 e2 e3 e4 e5 e6 w1).mono ?_
  rintro e w' ⟨rfl, hw'⟩
  replace hw' := hw'.symm
  subst hw'
  go_wp2
  go_ret
  exact ⟨rfl, HB.out⟩

theorem newWorld_bad7 (a b n nodes records : Int) (e0 : decide (a < 2) = false) (e1 : decide (32 < a) = false) (e2 : decide (b < wrap64 (wrap64 (2 * a) - 1)) = false) (e3 : decide (32 < b) = false) (e4 : decide (n < 1) = false) (e5 : decide (64 < n) = false) (e6 : decide (nodes < 2) = false) (e7 : decide (65536 < nodes) = true) (w : World) : Calls Try.prog 76 #[.int .i64 a, .int .i64 b, .int .i64 n, .int .i64 nodes, .int .i64 records] w fun e w' => e = .returned (.tuple #[.pointer none, .int .i64 2]) ∧ w' = w := by
  go_enter Try.func76, Try.ntmps76
  go_wp2
  exact bodyPost_ret (v := .tuple #[.pointer none, .int .i64 2]) (by simp [results, Try.results76, go_sem]) rfl ⟨rfl, rfl⟩
theorem worldNew_bad7 (a b n nodes records : Int) (e0 : decide (a < 2) = false) (e1 : decide (32 < a) = false) (e2 : decide (b < wrap64 (wrap64 (2 * a) - 1)) = false) (e3 : decide (32 < b) = false) (e4 : decide (n < 1) = false) (e5 : decide (64 < n) = false) (e6 : decide (nodes < 2) = false) (e7 : decide (65536 < nodes) = true) (w : World) : Calls Try.prog 13 #[.int .i64 a, .int .i64 b, .int .i64 n, .int .i64 nodes, .int .i64 records] w fun e w' => e = .returned (.bool true) ∧ Below w.heap.size w w' := by
  go_enter Try.func13, Try.ntmps13
  go_wp2_with fail
  refine (awake08_ok w).mono ?_
  rintro e w1 ⟨rfl, hB⟩
  have HB := Lib.hid hB
  clear hB
  go_wp2_with fail
  refine (newWorld_bad7 a b n nodes records e0 e1 e2 e3 e4 e5 e6 e7 w1).mono ?_
  rintro e w' ⟨rfl, hw'⟩
  replace hw' := hw'.symm
  subst hw'
  go_wp2
  go_ret
  exact ⟨rfl, HB.out⟩

theorem newWorld_bad8 (a b n nodes records : Int) (e0 : decide (a < 2) = false) (e1 : decide (32 < a) = false) (e2 : decide (b < wrap64 (wrap64 (2 * a) - 1)) = false) (e3 : decide (32 < b) = false) (e4 : decide (n < 1) = false) (e5 : decide (64 < n) = false) (e6 : decide (nodes < 2) = false) (e7 : decide (65536 < nodes) = false) (e8 : decide (records < 0) = true) (w : World) : Calls Try.prog 76 #[.int .i64 a, .int .i64 b, .int .i64 n, .int .i64 nodes, .int .i64 records] w fun e w' => e = .returned (.tuple #[.pointer none, .int .i64 2]) ∧ w' = w := by
  go_enter Try.func76, Try.ntmps76
  go_wp2
  exact bodyPost_ret (v := .tuple #[.pointer none, .int .i64 2]) (by simp [results, Try.results76, go_sem]) rfl ⟨rfl, rfl⟩
theorem worldNew_bad8 (a b n nodes records : Int) (e0 : decide (a < 2) = false) (e1 : decide (32 < a) = false) (e2 : decide (b < wrap64 (wrap64 (2 * a) - 1)) = false) (e3 : decide (32 < b) = false) (e4 : decide (n < 1) = false) (e5 : decide (64 < n) = false) (e6 : decide (nodes < 2) = false) (e7 : decide (65536 < nodes) = false) (e8 : decide (records < 0) = true) (w : World) : Calls Try.prog 13 #[.int .i64 a, .int .i64 b, .int .i64 n, .int .i64 nodes, .int .i64 records] w fun e w' => e = .returned (.bool true) ∧ Below w.heap.size w w' := by
  go_enter Try.func13, Try.ntmps13
  go_wp2_with fail
  refine (awake08_ok w).mono ?_
  rintro e w1 ⟨rfl, hB⟩
  have HB := Lib.hid hB
  clear hB
  go_wp2_with fail
  refine (newWorld_bad8 a b n nodes records e0 e1 e2 e3 e4 e5 e6 e7 e8 w1).mono ?_
  rintro e w' ⟨rfl, hw'⟩
  replace hw' := hw'.symm
  subst hw'
  go_wp2
  go_ret
  exact ⟨rfl, HB.out⟩

theorem newWorld_bad9 (a b n nodes records : Int) (e0 : decide (a < 2) = false) (e1 : decide (32 < a) = false) (e2 : decide (b < wrap64 (wrap64 (2 * a) - 1)) = false) (e3 : decide (32 < b) = false) (e4 : decide (n < 1) = false) (e5 : decide (64 < n) = false) (e6 : decide (nodes < 2) = false) (e7 : decide (65536 < nodes) = false) (e8 : decide (records < 0) = false) (e9 : decide (65536 < records) = true) (w : World) : Calls Try.prog 76 #[.int .i64 a, .int .i64 b, .int .i64 n, .int .i64 nodes, .int .i64 records] w fun e w' => e = .returned (.tuple #[.pointer none, .int .i64 2]) ∧ w' = w := by
  go_enter Try.func76, Try.ntmps76
  go_wp2
  exact bodyPost_ret (v := .tuple #[.pointer none, .int .i64 2]) (by simp [results, Try.results76, go_sem]) rfl ⟨rfl, rfl⟩
theorem worldNew_bad9 (a b n nodes records : Int) (e0 : decide (a < 2) = false) (e1 : decide (32 < a) = false) (e2 : decide (b < wrap64 (wrap64 (2 * a) - 1)) = false) (e3 : decide (32 < b) = false) (e4 : decide (n < 1) = false) (e5 : decide (64 < n) = false) (e6 : decide (nodes < 2) = false) (e7 : decide (65536 < nodes) = false) (e8 : decide (records < 0) = false) (e9 : decide (65536 < records) = true) (w : World) : Calls Try.prog 13 #[.int .i64 a, .int .i64 b, .int .i64 n, .int .i64 nodes, .int .i64 records] w fun e w' => e = .returned (.bool true) ∧ Below w.heap.size w w' := by
  go_enter Try.func13, Try.ntmps13
  go_wp2_with fail
  refine (awake08_ok w).mono ?_
  rintro e w1 ⟨rfl, hB⟩
  have HB := Lib.hid hB
  clear hB
  go_wp2_with fail
  refine (newWorld_bad9 a b n nodes records e0 e1 e2 e3 e4 e5 e6 e7 e8 e9 w1).mono ?_
  rintro e w' ⟨rfl, hw'⟩
  replace hw' := hw'.symm
  subst hw'
  go_wp2
  go_ret
  exact ⟨rfl, HB.out⟩

end Go.Proofs.Ytacmeafpieoaaaa
