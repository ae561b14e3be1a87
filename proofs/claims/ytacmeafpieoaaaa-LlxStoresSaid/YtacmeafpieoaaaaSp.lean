/- LlxStores: plain facts at each of its few beginnings. -/
import Derived.Test.YtacmeafpieoaaaaCg
namespace Go.Proofs.Ytacmeafpieoaaaa
open Go.RowKit

def PS1 (k kept : Nat) : Pr (List Int) := changeP (nodeRefs k) kept 1 201 66
def ShS1 (k kept : Nat) : ShS := ((PS1 k kept).go (ShN 1 k)).2.2
def PS2 (k kept : Nat) : Pr (List Int) := changeP (nodeRefs k) kept 1 66 67
def ShS2 (k kept : Nat) : ShS := ((PS2 k kept).go (ShS1 k kept)).2.2
/-- What the nodes are like. -/
def nodesAll (k kept : Nat) : Bool := (List.range k).all fun i => ((ShS1 k kept).A.get (nodeRef i)).isSome && ((ShS1 k kept).A.info (nodeRef i)).1 == 1 && ((ShS1 k kept).A.marked (nodeRef i)).1 == decide (kept ≤ i)
structure SF (k kept : Nat) : Prop where
  f1 : (PS1 k kept).fine (ShN 1 k) = true
  n1 : ((PS1 k kept).go (ShN 1 k)).1 = 7 * k + 1 + k + 1 + (k - kept) + 2
  o1 : ((PS1 k kept).go (ShN 1 k)).2.1 = [1]
  way1 : ((ShS1 k kept).A.way (nodeRef 0) 1).1 = 66
  way0 : ((ShS1 k kept).A.way (nodeRef 0) 0).1 = 200
  all : nodesAll k kept = true
  f2 : (PS2 k kept).fine (ShS1 k kept) = true
  n2 : ((PS2 k kept).go (ShS1 k kept)).1 ≤ 3000
  o2 : ((PS2 k kept).go (ShS1 k kept)).2.1 = [if kept < k then -1 else 1]
  get2 : ((ShS2 k kept).A.get (nodeRef 0)).isSome = true
  way2 : ((ShS2 k kept).A.way (nodeRef 0) 1).1 = if kept < k then 66 else 67
theorem sf (k kept : Nat) (hk : 1 ≤ k) (hk' : k ≤ 5) (hs : kept ≤ 6) : SF k kept := by
  have h1 : k = 1 ∨ k = 2 ∨ k = 3 ∨ k = 4 ∨ k = 5 := by omega
  have h2 : kept = 0 ∨ kept = 1 ∨ kept = 2 ∨ kept = 3 ∨ kept = 4 ∨ kept = 5 ∨ kept = 6 := by omega
  rcases h1 with rfl | rfl | rfl | rfl | rfl <;> rcases h2 with rfl | rfl | rfl | rfl | rfl | rfl | rfl
  all_goals exact ⟨by kernel_rfl, by kernel_rfl, by kernel_rfl, by kernel_rfl, by kernel_rfl, by kernel_rfl, by kernel_rfl, of_decide_eq_true (by kernel_rfl), by kernel_rfl, by kernel_rfl, by kernel_rfl⟩
theorem SF.at {k kept i : Nat} (h : SF k kept) (hi : i < k) : ((ShS1 k kept).A.get (nodeRef i)) ≠ none ∧ ((ShS1 k kept).A.info (nodeRef i)).1 = 1 ∧ ((ShS1 k kept).A.marked (nodeRef i)).1 = decide (kept ≤ i) := by
  have h1 := h.all
  unfold nodesAll at h1
  rw [List.all_eq_true] at h1
  have h2 := h1 i (List.mem_range.2 hi)
  simp only [Bool.and_eq_true, beq_iff_eq] at h2
  exact ⟨(by intro e; rw [e] at h2; simp at h2), h2.1.2, h2.2⟩
end Go.Proofs.Ytacmeafpieoaaaa
