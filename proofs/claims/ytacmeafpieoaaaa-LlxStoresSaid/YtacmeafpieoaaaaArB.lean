/- The arena's operations on one node: their contracts over the plain arena. -/
import Derived.Test.YtacmeafpieoaaaaArA
namespace Go.Proofs.Ytacmeafpieoaaaa
open Go.RowKit

namespace ArW
section
variable (pa bs o i n cap : Nat) (r c : Int) (w : World) (fl : Int)

theorem at_hit (hr : placeOf r = i) (hi : i < n) (hn : n < 1000000) (hof : refOf i c = r)
  (h0 : w.cell? ⟨pa, 0, none⟩ = some (.slice (some ⟨bs, o, none⟩) n cap))
  (hu : w.cell? ⟨bs, o + (i * 10 + 9), none⟩ = some (.bool true)) (hc : w.cell? ⟨bs, o + (i * 10 + 8), none⟩ = some (.int .u32 c)) :
  Calls Try.prog 110 #[.pointer (some ⟨pa, 0, none⟩), .int .i64 r] w fun e w' => e = .returned (.pointer (some ⟨bs, o + i * 10, none⟩)) ∧ w' = w := by
  have Hof := Lib.hid hof; clear hof
  rw [← Nat.add_assoc] at hu hc
  go_enter Try.func110, Try.ntmps110
  go_wp2_with fail
  refine (place_any _ _).mono ?_
  rintro e w' ⟨rfl, rfl⟩
  rw [hr]
  go_wp2_with fail
  refine (of_any _ _ (by omega) (by omega) _).mono ?_
  rintro e w' ⟨rfl, rfl⟩
  rw [Hof.out]
  go_wp2
  go_ret
  exact ⟨rfl, rfl⟩

theorem at_below (hr : placeOf r < 0) (hfa : w.cell? ⟨pa, 4, none⟩ = some (.int .i64 fl)) (hfz : w.frozen? ⟨pa, 4, none⟩ = false) :
  Calls Try.prog 110 #[.pointer (some ⟨pa, 0, none⟩), .int .i64 r] w fun e w' => e = .returned (.pointer none) ∧ w' = w.setCell ⟨pa, 4, none⟩ (.int .i64 (wrap64 (fl + 1))) := by
  have hr' : decide (0 ≤ placeOf r) = false := by simp; omega
  go_enter Try.func110, Try.ntmps110
  go_wp2_with fail
  refine (place_any _ _).mono ?_
  rintro e w' ⟨rfl, rfl⟩
  go_wp2
  go_ret
  exact ⟨rfl, rfl⟩

theorem at_beyond (hr0 : 0 ≤ placeOf r) (vs : Option Addr) (hr : (n : Int) ≤ placeOf r) (h0 : w.cell? ⟨pa, 0, none⟩ = some (.slice vs n cap)) (hfa : w.cell? ⟨pa, 4, none⟩ = some (.int .i64 fl)) (hfz : w.frozen? ⟨pa, 4, none⟩ = false) :
  Calls Try.prog 110 #[.pointer (some ⟨pa, 0, none⟩), .int .i64 r] w fun e w' => e = .returned (.pointer none) ∧ w' = w.setCell ⟨pa, 4, none⟩ (.int .i64 (wrap64 (fl + 1))) := by
  have hr' : decide (placeOf r < (n : Int)) = false := by simp; omega
  go_enter Try.func110, Try.ntmps110
  go_wp2_with fail
  refine (place_any _ _).mono ?_
  rintro e w' ⟨rfl, rfl⟩
  go_wp2
  go_ret
  exact ⟨rfl, rfl⟩

theorem at_unused (hr : placeOf r = i) (hi : i < n) (hn : n < 1000000) (h0 : w.cell? ⟨pa, 0, none⟩ = some (.slice (some ⟨bs, o, none⟩) n cap))
  (hu : w.cell? ⟨bs, o + (i * 10 + 9), none⟩ = some (.bool false)) (hfa : w.cell? ⟨pa, 4, none⟩ = some (.int .i64 fl)) (hfz : w.frozen? ⟨pa, 4, none⟩ = false) :
  Calls Try.prog 110 #[.pointer (some ⟨pa, 0, none⟩), .int .i64 r] w fun e w' => e = .returned (.pointer none) ∧ w' = w.setCell ⟨pa, 4, none⟩ (.int .i64 (wrap64 (fl + 1))) := by
  rw [← Nat.add_assoc] at hu
  go_enter Try.func110, Try.ntmps110
  go_wp2_with fail
  refine (place_any _ _).mono ?_
  rintro e w' ⟨rfl, rfl⟩
  rw [hr]
  go_wp2
  go_ret
  exact ⟨rfl, rfl⟩

theorem at_other (hr : placeOf r = i) (hi : i < n) (hn : n < 1000000) (hof : refOf i c ≠ r) (h0 : w.cell? ⟨pa, 0, none⟩ = some (.slice (some ⟨bs, o, none⟩) n cap))
  (hu : w.cell? ⟨bs, o + (i * 10 + 9), none⟩ = some (.bool true)) (hc : w.cell? ⟨bs, o + (i * 10 + 8), none⟩ = some (.int .u32 c)) (hfa : w.cell? ⟨pa, 4, none⟩ = some (.int .i64 fl)) (hfz : w.frozen? ⟨pa, 4, none⟩ = false) :
  Calls Try.prog 110 #[.pointer (some ⟨pa, 0, none⟩), .int .i64 r] w fun e w' => e = .returned (.pointer none) ∧ w' = w.setCell ⟨pa, 4, none⟩ (.int .i64 (wrap64 (fl + 1))) := by
  have hof' : (refOf i c == r) = false := by simp [hof]
  rw [← Nat.add_assoc] at hu hc
  go_enter Try.func110, Try.ntmps110
  go_wp2_with fail
  refine (place_any _ _).mono ?_
  rintro e w' ⟨rfl, rfl⟩
  rw [hr]
  go_wp2_with fail
  refine (of_any _ _ (by omega) (by omega) _).mono ?_
  rintro e w' ⟨rfl, rfl⟩
  go_wp2
  go_ret
  exact ⟨rfl, rfl⟩
end
end ArW

section
variable {κ : Nat → K} {w : World} {wi pa : Nat} {vs vf : Value} {raw : List Value} {A : ArS}

theorem ArAt.pcell (h : ArAt κ w wi pa vs vf raw A) (i : Nat) : w.cell? ⟨pa, i, none⟩ = #[vs, vf, .int .i64 A.most, .int .i64 A.used, .int .i64 A.faults][i]? := cell_of_heap h.hpa
theorem ArAt.pfrozen (h : ArAt κ w wi pa vs vf raw A) (i : Nat) : w.frozen? ⟨pa, i, none⟩ = false := frozen_of_heap h.hpa
/-- The slots' row, where there is a slot. -/
theorem ArAt.row (h : ArAt κ w wi pa vs vf raw A) {i : Nat} {s : SlotS} (hi : A.slots[i]? = some s) : ∃ bs o cap, vs = .slice (some ⟨bs, o, none⟩) A.slots.length cap ∧ A.slots.length ≤ cap ∧ blk vs = some bs ∧ bs < w.heap.size ∧
    (∀ j u, raw[j]? = some u → w.cell? ⟨bs, o + j, none⟩ = some u) ∧ (∀ j, w.frozen? ⟨bs, j, none⟩ = false) ∧ i < A.slots.length := by
  have hlt := (List.getElem?_eq_some_iff.1 hi).1
  obtain ⟨g, o, cap, h1, h2, h3, h4, h5, h6⟩ := h.own.at (by omega) (by decide)
  exact ⟨g, o, cap, h1, h2, h3, h4, h5, h6, hlt⟩

/-- What 'at' comes to. -/
inductive AtEnd (w : World) (pa : Nat) (vs : Value) (A : ArS) (r : Int) : Ending → World → Prop
  | hit (i : Nat) (s : SlotS) (bs o cap : Nat) (hi : A.idx r = some i) (hs : A.slots[i]? = some s) (hv : vs = .slice (some ⟨bs, o, none⟩) A.slots.length cap) : AtEnd w pa vs A r (.returned (.pointer (some ⟨bs, o + i * 10, none⟩))) w
  | miss (hi : A.idx r = none) : AtEnd w pa vs A r (.returned (.pointer none)) (w.setCell ⟨pa, 4, none⟩ (.int .i64 (wrap64 (A.faults + 1))))

theorem at_ok (h : ArAt κ w wi pa vs vf raw A) (r : Int) : Calls Try.prog 110 #[.pointer (some ⟨pa, 0, none⟩), .int .i64 r] w (AtEnd w pa vs A r) := by
  have hf4 := h.pcell 4
  have hz4 := h.pfrozen 4
  have h0 := h.pcell 0
  simp only [List.getElem?_toArray, List.getElem?_cons_succ, List.getElem?_cons_zero] at hf4 h0
  have hbd := h.bound
  have fin : ∀ e w', (e = .returned (.pointer none) ∧ w' = w.setCell ⟨pa, 4, none⟩ (.int .i64 (wrap64 (A.faults + 1)))) → A.idx r = none → AtEnd w pa vs A r e w' := by
    rintro e w' ⟨rfl, rfl⟩ hn
    exact .miss hn
  by_cases hr0 : 0 ≤ placeOf r
  · cases hs : A.slots[(placeOf r).toNat]? with
    | none =>
      have hle : A.slots.length ≤ (placeOf r).toNat := by simpa using hs
      obtain ⟨h1, a, cap, hv, _⟩ := h.own
      rw [hv] at h0
      exact (ArW.at_beyond pa A.slots.length cap r w A.faults hr0 a (by omega) h0 hf4 hz4).mono fun e w' hh => fin e w' hh (by simp [ArS.idx, hr0, hs])
    | some s =>
      obtain ⟨bs, o, cap, hv, hle, hb, hlt, hc, hz, hi⟩ := h.row hs
      obtain ⟨v2, v3, v4, v5, hsv⟩ := h.slots _ s hs
      have hh0 : w.cell? ⟨pa, 0, none⟩ = some (.slice (some ⟨bs, o, none⟩) A.slots.length cap) := by rw [h0, hv]
      have hp : placeOf r = ((placeOf r).toNat : Nat) := by omega
      have hc9 := hc _ _ hsv.c9
      have hc8 := hc _ _ hsv.c8
      by_cases hu : s.used = true
      · rw [hu] at hc9
        by_cases hof : refOf (placeOf r) s.count = r
        · refine (ArW.at_hit pa bs o _ A.slots.length cap r s.count w hp hi (by omega) (by rw [← hp]; exact hof) hh0 hc9 hc8).mono ?_
          rintro e w' ⟨rfl, rfl⟩
          exact .hit _ s bs o cap (by simp [ArS.idx, hr0, hs, hu, hof]) hs hv
        · exact (ArW.at_other pa bs o _ A.slots.length cap r s.count w A.faults hp hi (by omega) (by rw [← hp]; exact hof) hh0 hc9 hc8 hf4 hz4).mono fun e w' hh => fin e w' hh (by simp [ArS.idx, hr0, hs, hof])
      · have hu' : s.used = false := by simpa using hu
        rw [hu'] at hc9
        exact (ArW.at_unused pa bs o _ A.slots.length cap r w A.faults hp hi (by omega) hh0 hc9 hf4 hz4).mono fun e w' hh => fin e w' hh (by simp [ArS.idx, hr0, hs, hu'])
  · exact (ArW.at_below pa r w A.faults (by omega) hf4 hz4).mono fun e w' hh => fin e w' hh (by simp [ArS.idx, hr0])

/-- Behind a fault. -/
theorem ArAt.faulted (h : ArAt κ w wi pa vs vf raw A) : ArAt κ (w.setCell ⟨pa, 4, none⟩ (.int .i64 (wrap64 (A.faults + 1)))) wi pa vs vf raw A.fault := by
  have hother : ∀ b, b ≠ pa → (w.setCell ⟨pa, 4, none⟩ (.int .i64 (wrap64 (A.faults + 1)))).heap[b]? = w.heap[b]? := fun b hb => Below.heap_setCell _ _ _ _ hb
  have hsz : (w.setCell ⟨pa, 4, none⟩ (.int .i64 (wrap64 (A.faults + 1)))).heap.size = w.heap.size := by simp [World.setCell]
  refine ⟨h.kpa, ?_, ?_, h.kvs, ?_, ?_, h.kvf, h.bound⟩
  · rw [heap_setCell_at h.hpa]; rfl
  · exact h.own.move fun g hg => hother g (by intro e; have := h.kvs g hg; rw [e, h.kpa] at this; cases this)
  · intro i s hi
    obtain ⟨v2, v3, v4, v5, hv⟩ := h.slots i s hi
    exact ⟨v2, v3, v4, v5, hv.keep (fun b _ hk => hother b (by intro e; rw [e, h.kpa] at hk; rcases hk with hk | hk <;> cases hk)) (by omega) (Ext.refl _ _)⟩
  · exact h.fown.move fun g hg => hother g (by intro e; have := h.kvf g hg; rw [e, h.kpa] at this; cases this)

theorem ArAt.frFault (h : ArAt κ w wi pa vs vf raw A) (v : Value) (i : Nat) : Fr κ (K.arena wi) w (w.setCell ⟨pa, i, none⟩ v) := Fr.setCell _ _ (by simp [h.kpa, K.arena])
end
end Go.Proofs.Ytacmeafpieoaaaa
