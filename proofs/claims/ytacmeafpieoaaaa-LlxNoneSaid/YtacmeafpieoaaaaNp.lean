/- LlxNone: plain facts at each of its few beginnings. -/
import Derived.Test.YtacmeafpieoaaaaCg
namespace Go.Proofs.Ytacmeafpieoaaaa
open Go.RowKit

def nodeX : NodeS := { NodeS.zero with inner := true, ways := [400] }
def ShX0 (r : Nat) : ShS := { Sh0 1 9 r with A := ((Sh0 1 9 r).A.alloc nodeX).2 }
def refX : Int := ((Sh0 1 9 0).A.alloc nodeX).1.1
def PX (r i : Nat) : Pr (List Int) := changeP [refX] 1 0 (400 + min (i : Int) (r : Int)) (401 + (i : Int))
def ShX (r : Nat) : Nat → ShS
  | 0 => ShX0 r
  | i + 1 => ((PX r i).go (ShX r i)).2.2
structure XF (r i : Nat) : Prop where
  f : (PX r i).fine (ShX r i) = true
  n : ((PX r i).go (ShX r i)).1 ≤ 3000
  o : ((PX r i).go (ShX r i)).2.1 = [if r ≤ i then 2 else 1]
  g : ((ShX r (i + 1)).A.get refX).isSome = true
  w : ((ShX r (i + 1)).A.way refX 0).1 = 400 + min ((i : Int) + 1) (r : Int)
theorem xf (r i : Nat) (hr : r ≤ 4) (hi : i ≤ 6) : XF r i := by
  have h1 : r = 0 ∨ r = 1 ∨ r = 2 ∨ r = 3 ∨ r = 4 := by omega
  have h2 : i = 0 ∨ i = 1 ∨ i = 2 ∨ i = 3 ∨ i = 4 ∨ i = 5 ∨ i = 6 := by omega
  rcases h1 with rfl | rfl | rfl | rfl | rfl <;> rcases h2 with rfl | rfl | rfl | rfl | rfl | rfl | rfl
  all_goals exact ⟨by kernel_rfl, of_decide_eq_true (by kernel_rfl), by kernel_rfl, by kernel_rfl, by kernel_rfl⟩
end Go.Proofs.Ytacmeafpieoaaaa
