/- HelpAgain's record, done again: plain facts at each of its few beginnings. -/
import Derived.Test.YtacmeafpieoaaaaPk
import Derived.Test.YtacmeafpieoaaaaNe
namespace Go.Proofs.Ytacmeafpieoaaaa
open Go.RowKit

def recG (k : Nat) : RecS := ⟨nodeRefs k, List.replicate k 0, 1, 0, 200, 88⟩
def ShG0 (k : Nat) : Option Nat → ShS
  | some i => { ShN 1 k with A := ((ShN 1 k).A.swapInfo (nodeRef i) 0 44).2 }
  | none => ShN 1 k
def ShG (k : Nat) (s : Option Nat) : ShS := { ShG0 k s with T := ((ShG0 k s).T.make (recG k)).2 }
def ShG' (k : Nat) (s : Option Nat) : ShS := ((helpP 1).go (ShG k s)).2.2
/-- What comes of it, the first time and again. -/
structure GF (k : Nat) (s : Option Nat) : Prop where
  n1 : ((helpP 1).go (ShG k s)).1 ≤ 100
  o1 : ((helpP 1).go (ShG k s)).2.1 = [if s.isSome = true then 0 else 1]
  n2 : ((helpP 1).go (ShG' k s)).1 ≤ 100
  o2 : ((helpP 1).go (ShG' k s)).2.1 = [if s.isSome = true then 0 else 1]
  fix_ : ((helpP 1).go (ShG' k s)).2.2 = ShG' k s
  get0 : ((ShG' k s).A.get (nodeRef 0)).isSome = true
  way : ((ShG' k s).A.way (nodeRef 0) 0).1 = if s.isSome = true then 200 else 88
  st : (ShG' k s).T.state 1 = if s.isSome = true then 0 else 2
theorem gf (k : Nat) (s : Option Nat) (hk : 1 ≤ k) (hk' : k ≤ 4) (hs : ∀ i, s = some i → i < k) : GF k s := by
  have h1 : k = 1 ∨ k = 2 ∨ k = 3 ∨ k = 4 := by omega
  cases s with
  | none =>
    rcases h1 with rfl | rfl | rfl | rfl
    all_goals exact ⟨of_decide_eq_true (by kernel_rfl), by kernel_rfl, of_decide_eq_true (by kernel_rfl), by kernel_rfl, by kernel_rfl, by kernel_rfl, by kernel_rfl, by kernel_rfl⟩
  | some i =>
    have hi := hs i rfl
    have h2 : i = 0 ∨ i = 1 ∨ i = 2 ∨ i = 3 := by omega
    rcases h1 with rfl | rfl | rfl | rfl <;> rcases h2 with rfl | rfl | rfl | rfl
    all_goals first | exact absurd hi (by decide) | exact ⟨of_decide_eq_true (by kernel_rfl), by kernel_rfl, of_decide_eq_true (by kernel_rfl), by kernel_rfl, by kernel_rfl, by kernel_rfl, by kernel_rfl, by kernel_rfl⟩
end Go.Proofs.Ytacmeafpieoaaaa
