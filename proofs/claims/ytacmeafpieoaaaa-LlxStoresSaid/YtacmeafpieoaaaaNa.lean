/- Nodes's arena: where each node lies. -/
import Derived.Test.YtacmeafpieoaaaaPk
namespace Go.Proofs.Ytacmeafpieoaaaa
open Go.RowKit

theorem placeOf_refOf (p c : Int) (h0 : 0 ≤ p) (h1 : p < 1099511627775) : placeOf (refOf p c) = p := by unfold placeOf refOf; omega
theorem ArN_slot (n k : Nat) (hk : k < n) : (ArN n).slots[k + 2]? = some (slotK k) := by
  simp [ArN, hk]
theorem ArN_idx (n k : Nat) (hk : k < n) (hn : n ≤ 50) : (ArN n).idx (nodeRef k) = some (k + 2) := by
  have hp : placeOf (nodeRef k) = ((k + 2 : Nat) : Int) := by rw [nodeRef, placeOf_refOf _ _ (by omega) (by omega)]; omega
  unfold ArS.idx
  rw [hp, if_pos (by omega), Int.toNat_natCast, ArN_slot n k hk]
  have hr : refOf ((k + 2 : Nat) : Int) 1 = nodeRef k := by rw [nodeRef, Nat.add_comm]
  simp only [slotK]
  rw [if_pos ⟨trivial, hr⟩]
theorem ArN_get (n k : Nat) (hk : k < n) (hn : n ≤ 50) : (ArN n).get (nodeRef k) = some (slotK k) := by
  unfold ArS.get
  rw [ArN_idx n k hk hn, Option.bind_some, ArN_slot n k hk]
theorem nodeRef_inj {i j : Nat} (hi : i < 1000000) (hj : j < 1000000) (h : nodeRef i = nodeRef j) : i = j := by
  have h1 := placeOf_refOf ((2 + i : Nat) : Int) 1 (by omega) (by omega)
  have h2 := placeOf_refOf ((2 + j : Nat) : Int) 1 (by omega) (by omega)
  rw [nodeRef] at h
  rw [h, nodeRef, h2] at h1
  omega
end Go.Proofs.Ytacmeafpieoaaaa
