/- boscagelaw09.Nodes: a world with some inner nodes. -/
import Derived.Test.YtacmeafpieoaaaaRc
namespace Go.Proofs.Ytacmeafpieoaaaa
open Go.RowKit

def nodeK (k : Nat) : NodeS := ⟨true, false, [], [5], [200 + 10 * (k : Int), 201 + 10 * (k : Int)]⟩
def slotK (k : Nat) : SlotS := ⟨nodeK k, [200 + 10 * (k : Int), 201 + 10 * (k : Int)], 0, false, 1, true⟩
def ArN (n : Nat) : ArS := ⟨[⟨rootN, [], 0, false, 1, true⟩, ⟨entryN, [refOf 0 1], 0, false, 1, true⟩] ++ (List.range n).map slotK, [], 60, 2 + (n : Int), 0⟩
def nodeRef (k : Nat) : Int := refOf ((2 + k : Nat) : Int) 1
def nodeRefs (n : Nat) : List Int := (List.range n).map nodeRef

theorem ArN_zero : ArN 0 = Ar0 60 := by
  rw [Ar0, alloc0 60 (by decide), alloc1 60 (by decide)]; rfl
theorem ArN_len (n : Nat) : (ArN n).slots.length = 2 + n := by simp [ArN]; omega
theorem ArN_alloc (n : Nat) (h : n < 58) : (ArN n).alloc (nodeK n) = ((nodeRef n, true), ArN (n + 1)) := by
  have h0 : ¬ (60 : Int) ≤ 2 + (n : Int) := by omega
  have hw : wrap64 (2 + (n : Int) + 1) = 2 + ((n + 1 : Nat) : Int) := by unfold wrap64; omega
  have hl := ArN_len n
  have hg : ((ArN n).slots ++ [zeroSlot])[(ArN n).slots.length]? = some zeroSlot := by simp
  have hr : (ArN n).reserve = ((ArN n).slots.length, { ArN n with slots := (ArN n).slots ++ [zeroSlot] }) := rfl
  rw [ArS.alloc, if_neg (show ¬ (ArN n).most ≤ (ArN n).used from h0), hr]
  simp only [ArS.fillAt, hg]
  have hu : (ArN n).used = 2 + (n : Int) := rfl
  simp only [hl, hu, hw]
  refine Prod.ext (Prod.ext ?_ rfl) ?_
  · simp [nodeRef, zeroSlot, wrap32]
  · simp only [ArS.put, ArN, List.range_succ, List.map_append, List.map_cons, List.map_nil, ArS.mk.injEq, and_true]
    rw [List.set_append_right _ _ (by simp; omega)]
    simp [zeroSlot, wrap32, slotK, nodeK]
    rw [show 2 + n - (n + 1 + 1) = 0 by omega]; rfl
end Go.Proofs.Ytacmeafpieoaaaa
