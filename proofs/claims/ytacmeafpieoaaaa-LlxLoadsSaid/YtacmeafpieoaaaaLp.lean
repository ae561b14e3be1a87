/- LlxLoads: plain facts at each of its few beginnings. -/
import Derived.Test.YtacmeafpieoaaaaLo
namespace Go.Proofs.Ytacmeafpieoaaaa
open Go.RowKit

def recL : RecS := ⟨[nodeRef 0], [0], 1, 1, 201, 55⟩
def ShL1 : ShS := { ShN 1 2 with T := ((ShN 1 2).T.make recL).2 }
def ShL2 (s : Int) : ShS := { ShL1 with T := ShL1.T.setState 1 s }
def ShL3 (s : Int) (none_ : Bool) : ShS := if none_ = true then ShL2 s else { ShL2 s with A := ((ShL2 s).A.swapInfo (nodeRef 0) 0 1).2 }
def ShL4 (s : Int) (none_ marked : Bool) : ShS := if marked = true then { ShL3 s none_ with A := (ShL3 s none_).A.setMark (nodeRef 0) } else ShL3 s none_
def ShL5 (s : Int) (none_ marked : Bool) : ShS := ((lookP (nodeRef 0)).go (ShL4 s none_ marked)).2.2
/-- What comes of it. -/
structure LF (s : Int) (none_ marked : Bool) (steps : Nat) (out : List Int) (st way : Int) : Prop where
  fine : (lookP (nodeRef 0)).fine (ShL4 s none_ marked) = true
  n : ((lookP (nodeRef 0)).go (ShL4 s none_ marked)).1 = steps
  o : ((lookP (nodeRef 0)).go (ShL4 s none_ marked)).2.1 = out
  get0 : ((ShL5 s none_ marked).A.get (nodeRef 0)).isSome = true
  way : ((ShL5 s none_ marked).A.way (nodeRef 0) 1).1 = way
  st : (ShL5 s none_ marked).T.state 1 = st
theorem lf0 (s : Int) (hs : s = 0 ∨ s = 1 ∨ s = 2) (m : Bool) : ∃ st way, LF s true m 7 [0, 0, 200, 201] st way := by
  rcases hs with rfl | rfl | rfl <;> cases m
  all_goals exact ⟨_, _, by kernel_rfl, by kernel_rfl, by kernel_rfl, by kernel_rfl, rfl, rfl⟩
theorem lf1 (m : Bool) : ∃ st way, LF 0 false m 7 [0, 1, 200, 201] st way := by
  cases m
  all_goals exact ⟨_, _, by kernel_rfl, by kernel_rfl, by kernel_rfl, by kernel_rfl, rfl, rfl⟩
theorem lf2 : ∃ st way, LF 2 false false 7 [0, 1, 200, 201] st way := by
  exact ⟨_, _, by kernel_rfl, by kernel_rfl, by kernel_rfl, by kernel_rfl, rfl, rfl⟩
theorem lf3 : ∃ st way, LF 2 false true 5 [2, 0] st way := by
  exact ⟨_, _, by kernel_rfl, by kernel_rfl, by kernel_rfl, by kernel_rfl, rfl, rfl⟩
theorem lf4 : LF 1 false true 10 [2, 0] 2 55 := by
  exact ⟨by kernel_rfl, by kernel_rfl, by kernel_rfl, by kernel_rfl, by kernel_rfl, by kernel_rfl⟩
theorem lf5 : LF 1 false false 12 [1, 0] 2 55 := by
  exact ⟨by kernel_rfl, by kernel_rfl, by kernel_rfl, by kernel_rfl, by kernel_rfl, by kernel_rfl⟩
end Go.Proofs.Ytacmeafpieoaaaa
