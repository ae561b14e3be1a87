/- Thread.run: the deferred closure that recovers. -/
import Derived.Test.YtacmeafpieoaaaaTi
import Derived.Defers
import Derived.Recover
import Derived.Laws.Pointers
namespace Go.Proofs.Ytacmeafpieoaaaa
open Go.RowKit

section
variable {w : World}

set_option maxRecDepth 100000 in
theorem catch_wait (b1 b2 pth : Nat) (x4 : Bool) (h1 : w.cell? ⟨b1, 0, none⟩ = some (.pointer (some ⟨pth, 0, none⟩))) (h2 : w.cell? ⟨b2, 0, none⟩ = some (.bool false)) (z2 : w.frozen? ⟨b2, 0, none⟩ = false)
    (h4 : w.cell? ⟨pth, 4, none⟩ = some (.bool x4)) (z4 : w.frozen? ⟨pth, 4, none⟩ = false) (n1 : b1 ≠ pth) (n2 : b2 ≠ pth) (hb2 : b2 < w.heap.size) :
    CallsD Try.prog 149 #[.pointer (some ⟨b1, 0, none⟩), .pointer (some ⟨b2, 0, none⟩)] (.panicking [{ v := waitV, recovered := false }]) w fun e u' w' =>
      e = .returned (.tuple #[]) ∧ u' = .panicking [{ v := waitV, recovered := true }] ∧ w' = ((w.setCell ⟨pth, 4, none⟩ (.bool false)).setCell ⟨b2, 0, none⟩ (.bool false)).alloc (.cells #[] 219) := by
  refine callsD_of_wpS Try.func149 rfl fun c₀ cs hu => ?_
  apply wpS_seq
  apply wpS_region
  simp [wpOpsS, go_sem, Try.ntmps149, Exit.thenS, h1, h4, z4]
  apply wpS_seq
  apply wpS_region
  simp [wpOpsS, go_sem, recoverD, hu, Exit.thenS]
  refine wpS_of_wp ?_
  simp only [Array.replicate, List.replicate, List.setIfInBounds_toArray, List.set_cons_zero, List.set_cons_succ, List.append_toArray, List.cons_append, List.nil_append]
  have e0 : ∀ w : World, (binOp .eql 20 waitV .nilIface).run Try.prog w = .ok (.bool false) w := fun w => by kernel_rfl
  have e2 : ∀ w : World, (eqGuard BinOp.eql 20 (Operand.tmp 9) (Operand.const Value.nilIface) waitV Value.nilIface).run Try.prog w = .ok () w := fun w => by kernel_rfl
  have e1 : ∀ w : World, (Instr.typeAssert waitV 20 219 true).run Try.prog w = .ok (.tuple #[.agg #[], .bool true]) w := fun w => by kernel_rfl
  go_wp2
  simp [bodyPostS, results, Try.results149]

set_option maxRecDepth 100000 in
theorem catch_idle (b1 b2 pth : Nat) (x4 : Bool) (h1 : w.cell? ⟨b1, 0, none⟩ = some (.pointer (some ⟨pth, 0, none⟩)))
    (h4 : w.cell? ⟨pth, 4, none⟩ = some (.bool x4)) (z4 : w.frozen? ⟨pth, 4, none⟩ = false) :
    CallsD Try.prog 149 #[.pointer (some ⟨b1, 0, none⟩), .pointer (some ⟨b2, 0, none⟩)] .returning w fun e u' w' =>
      e = .returned (.tuple #[]) ∧ u' = .returning ∧ w' = w.setCell ⟨pth, 4, none⟩ (.bool false) := by
  refine callsD_of_wpS Try.func149 rfl fun c₀ cs hu => ?_
  apply wpS_seq
  apply wpS_region
  simp [wpOpsS, go_sem, Try.ntmps149, Exit.thenS, h1, h4, z4]
  apply wpS_seq
  apply wpS_region
  simp [wpOpsS, go_sem, recoverD, hu, Exit.thenS]
  refine wpS_of_wp ?_
  simp only [Array.replicate, List.replicate, List.setIfInBounds_toArray, List.set_cons_zero, List.set_cons_succ, List.append_toArray, List.cons_append, List.nil_append]
  have e0 : ∀ w : World, (binOp .eql 20 .nilIface .nilIface).run Try.prog w = .ok (.bool true) w := fun w => by kernel_rfl
  have e2 : ∀ w : World, (eqGuard BinOp.eql 20 (Operand.tmp 9) (Operand.const Value.nilIface) Value.nilIface Value.nilIface).run Try.prog w = .ok () w := fun w => by kernel_rfl
  go_wp2
  cases c₀
  simp_all [bodyPostS, results, Try.results149]
end
end Go.Proofs.Ytacmeafpieoaaaa
