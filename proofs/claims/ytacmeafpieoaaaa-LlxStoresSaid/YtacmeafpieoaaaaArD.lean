/- The arena's operations on a node's ways: Way, SwapWay. -/
import Derived.Test.YtacmeafpieoaaaaArC
namespace Go.Proofs.Ytacmeafpieoaaaa
open Go.RowKit

section
variable {κ : Nat → K} {w : World} {wi pa : Nat} {vs vf : Value} {raw : List Value} {A : ArS}

theorem way_ok (h : ArRep κ w wi pa A) (r i : Int) : Calls Try.prog 41 #[.pointer (some ⟨pa, 0, none⟩), .int .i64 r, .int .i64 i] w fun e w' => e = .returned (.int .i64 (A.way r i).1) ∧ ArRep κ w' wi pa (A.way r i).2 ∧ Fr κ (K.arena wi) w w' := by
  obtain ⟨vs, vf, raw, h⟩ := h
  go_enter Try.func41, Try.ntmps41
  go_wp2_with fail
  refine (at_ok h r).mono ?_
  rintro e w' hh
  cases hh with
  | hit k s bs o cap hi hs hv =>
    have HI := Lib.hid hi
    have HS := Lib.hid hs
    have H := Lib.hid h
    obtain ⟨v2, v3, v4, v5, hsv, hc, hz, hil, hkb, hlt⟩ := h.hitAt hs hv
    have hc5 := hc _ _ hsv.c5
    rw [← Nat.add_assoc] at hc5
    obtain ⟨a5, cap5, rfl, hle5, hno5⟩ := hsv.r5.shape
    by_cases h0 : 0 ≤ i
    · by_cases hl : i < (s.ways.length : Int)
      · obtain ⟨i, rfl⟩ := Int.eq_ofNat_of_zero_le h0
        obtain ⟨g, o5, cap5', hv5, hle, hg, hk, hcc, hfz⟩ := hsv.r5.at (by omega) (by decide)
        simp only [Value.slice.injEq, true_and] at hv5
        obtain ⟨rfl, rfl⟩ := hv5
        have hin : i < s.ways.length := by omega
        have hci := hcc i (.int .i64 s.ways[i]) (by rw [intVs_get, List.getElem?_eq_getElem hin]; rfl)
        have hd1 : decide ((i : Int) < 0) = false := by simp
        have hd2 : decide ((s.ways.length : Int) ≤ (i : Int)) = false := by simp; omega
        have HX := Lib.hid (show atI s.ways (i : Int) = some s.ways[i] by simp [atI, hin])
        clear hi hs hv h hil hsv hkb hlt hc hz hcc hfz hno5 h0
        go_wp2
        go_ret
        rw [show A.way r i = (s.ways[i], A) by simp only [ArS.way, ArS.get, HI.out, Option.bind_some, HS.out, HX.out, Option.getD_some]]
        exact ⟨rfl, ⟨vs, vf, raw, H.out⟩, Fr.refl _ _ _⟩
      · have hd1 : decide (i < 0) = false := by simp; omega
        have hd2 : decide ((s.ways.length : Int) ≤ i) = true := by simp; omega
        have HX := Lib.hid (show atI s.ways i = none by simp [atI]; omega)
        clear hi hs hv h hil hsv hkb hlt hc hz hno5 h0 hl
        go_wp2
        go_ret
        rw [show A.way r i = (0, A) by simp only [ArS.way, ArS.get, HI.out, Option.bind_some, HS.out, HX.out, Option.getD_none]]
        exact ⟨rfl, ⟨vs, vf, raw, H.out⟩, Fr.refl _ _ _⟩
    · have hd1 : decide (i < 0) = true := by simp; omega
      have HX := Lib.hid (show atI s.ways i = none by simp [atI]; omega)
      clear hi hs hv h hil hsv hkb hlt hc hz hno5 h0
      go_wp2
      go_ret
      rw [show A.way r i = (0, A) by simp only [ArS.way, ArS.get, HI.out, Option.bind_some, HS.out, HX.out, Option.getD_none]]
      exact ⟨rfl, ⟨vs, vf, raw, H.out⟩, Fr.refl _ _ _⟩
  | miss hi =>
    have HI := Lib.hid hi
    have H := Lib.hid h
    clear hi h
    go_wp2
    go_ret
    rw [show A.way r i = (0, A.fault) by simp only [ArS.way, ArS.get, HI.out, Option.bind_none]]
    exact ⟨rfl, ⟨vs, vf, raw, H.out.faulted⟩, H.out.frFault _ _⟩

/-- A way is stored into. -/
theorem ArAt.storeWay (h : ArAt κ w wi pa vs vf raw A) {k : Nat} {s : SlotS} {v2 v3 v4 : Value} {g o5 cap5 : Nat} (hi : A.slots[k]? = some s)
    (hsv : SlotV κ w wi raw k s v2 v3 v4 (.slice (some ⟨g, o5, none⟩) s.ways.length cap5)) (hk : κ g = .ways wi k) (hg : g < w.heap.size)
    (hcc : ∀ j u, (intVs s.ways)[j]? = some u → w.cell? ⟨g, o5 + j, none⟩ = some u) (hfz : ∀ j, w.frozen? ⟨g, j, none⟩ = false) (hle : s.ways.length ≤ cap5) (i : Nat) (hin : i < s.ways.length) (now : Int) :
    ArAt κ (w.setCell ⟨g, o5 + i, none⟩ (.int .i64 now)) wi pa vs vf raw (A.put k { s with ways := s.ways.set i now }) ∧ Fr κ (K.arena wi) w (w.setCell ⟨g, o5 + i, none⟩ (.int .i64 now)) := by
  have hother : ∀ b, b ≠ g → (w.setCell ⟨g, o5 + i, none⟩ (.int .i64 now)).heap[b]? = w.heap[b]? := fun b hb => Below.heap_setCell _ _ _ _ hb
  have hsz : (w.setCell ⟨g, o5 + i, none⟩ (.int .i64 now)).heap.size = w.heap.size := by simp [World.setCell]
  refine ⟨⟨h.kpa, ?_, ?_, h.kvs, ?_, ?_, h.kvf, by simpa [ArS.put] using h.bound⟩, Fr.setCell _ _ (by simp [hk, K.arena])⟩
  · rw [hother pa (by intro e; have := h.kpa; rw [e, hk] at this; cases this)]; exact h.hpa
  · have := h.own.move (w' := w.setCell ⟨g, o5 + i, none⟩ (.int .i64 now)) fun b hb => hother b (by intro e; have := h.kvs b hb; rw [e, hk] at this; cases this)
    simpa [ArS.put] using this
  · intro j t hj
    by_cases hij : k = j
    · subst hij
      have hil := (List.getElem?_eq_some_iff.1 hi).1
      simp only [ArS.put, List.getElem?_set_self hil, Option.some.injEq] at hj
      subst hj
      have m := fun b (_ : b < w.heap.size) (hb : κ b = .imm) => hother b (by intro e; rw [e, hk] at hb; cases hb)
      refine ⟨v2, v3, v4, _, ⟨hsv.c0, hsv.c1, hsv.c2, hsv.c3, hsv.c4, hsv.c5, hsv.c6, hsv.c7, hsv.c8, hsv.c9, hsv.r2.keep m (by omega) (Ext.refl _ _), hsv.r3.keep m (by omega) (Ext.refl _ _), hsv.r4.keep m (by omega) (Ext.refl _ _), ?_, by simpa using hsv.sm⟩⟩
      refine ⟨by simp [intVs], _, cap5, by simp only [List.length_set], by simpa using hle, by simp, .inr ⟨g, o5, rfl, by omega, hk, fun j u hu => ?_, fun j => ?_⟩⟩
      · simp only [intVs, List.map_set] at hu
        by_cases hij : i = j
        · subst hij
          rw [List.getElem?_set_self (by simpa using hin)] at hu
          cases hu
          have hcell := hcc i (.int .i64 s.ways[i]) (by rw [intVs_get, List.getElem?_eq_getElem hin]; rfl)
          exact World.cell?_setCell_same _ _ _ hcell
        · rw [List.getElem?_set_ne hij] at hu
          rw [World.cell?_setCell_other _ _ _ _ (by intro e; simp only [Addr.mk.injEq] at e; omega)]
          exact hcc j u hu
      · rw [World.frozen?_setCell]; exact hfz j
    · simp only [ArS.put, List.getElem?_set_ne hij] at hj
      obtain ⟨u2, u3, u4, u5, hh⟩ := h.slots j t hj
      exact ⟨u2, u3, u4, u5, hh.keep (fun b _ hb => hother b (by intro e; rw [e, hk] at hb; rcases hb with hb | hb <;> cases hb; exact hij rfl)) (by omega) (Ext.refl _ _)⟩
  · exact h.fown.move fun b hb => hother b (by intro e; have := h.kvf b hb; rw [e, hk] at this; cases this)

theorem swapWay_ok (h : ArRep κ w wi pa A) (r i old now : Int) : Calls Try.prog 45 #[.pointer (some ⟨pa, 0, none⟩), .int .i64 r, .int .i64 i, .int .i64 old, .int .i64 now] w fun e w' =>
    e = .returned (.bool (A.swapWay r i old now).1) ∧ ArRep κ w' wi pa (A.swapWay r i old now).2 ∧ Fr κ (K.arena wi) w w' := by
  obtain ⟨vs, vf, raw, h⟩ := h
  go_enter Try.func45, Try.ntmps45
  go_wp2_with fail
  refine (at_ok h r).mono ?_
  rintro e w' hh
  cases hh with
  | hit k s bs o cap hi hs hv =>
    have HI := Lib.hid hi
    have HS := Lib.hid hs
    have H := Lib.hid h
    obtain ⟨v2, v3, v4, v5, hsv, hc, hz, hil, hkb, hlt⟩ := h.hitAt hs hv
    have hc5 := hc _ _ hsv.c5
    rw [← Nat.add_assoc] at hc5
    obtain ⟨a5, cap5, rfl, hle5, hno5⟩ := hsv.r5.shape
    by_cases h0 : 0 ≤ i
    · by_cases hl : i < (s.ways.length : Int)
      · obtain ⟨i, rfl⟩ := Int.eq_ofNat_of_zero_le h0
        obtain ⟨g, o5, cap5', hv5, hle, hg, hk, hcc, hfz⟩ := hsv.r5.at (by omega) (by decide)
        simp only [Value.slice.injEq, true_and] at hv5
        obtain ⟨rfl, rfl⟩ := hv5
        have hin : i < s.ways.length := by omega
        have hci := hcc i (.int .i64 s.ways[i]) (by rw [intVs_get, List.getElem?_eq_getElem hin]; rfl)
        have hfi := hfz (o5 + i)
        have hd1 : decide ((i : Int) < 0) = false := by simp
        have hd2 : decide ((s.ways.length : Int) ≤ (i : Int)) = false := by simp; omega
        have HX := Lib.hid (show atI s.ways (i : Int) = some s.ways[i] by simp [atI, hin])
        have HF := Lib.hid (h.storeWay hs hsv hk hg hcc hfz hle i hin now)
        by_cases hold : s.ways[i] = old
        · have hne : (s.ways[i] != old) = false := by simp [hold]
          have HO := Lib.hid hold
          clear hi hs hv h hil hsv hkb hlt hc hz hcc hfz hno5 h0 hold
          go_wp2
          go_ret
          rw [show A.swapWay r i old now = (true, A.put k { s with ways := s.ways.set i now }) by simp only [ArS.swapWay, HI.out, HS.out, HX.out, HO.out, if_true, Int.toNat_natCast]]
          exact ⟨rfl, ⟨vs, vf, raw, HF.out.1⟩, HF.out.2⟩
        · have hne : (s.ways[i] != old) = true := by simp [hold]
          have HO := Lib.hid hold
          clear hi hs hv h hil hsv hkb hlt hc hz hcc hfz hno5 h0 hold
          go_wp2
          go_ret
          rw [show A.swapWay r i old now = (false, A) by simp only [ArS.swapWay, HI.out, HS.out, HX.out, Option.some.injEq, if_neg HO.out]]
          exact ⟨rfl, ⟨vs, vf, raw, H.out⟩, Fr.refl _ _ _⟩
      · have hd1 : decide (i < 0) = false := by simp; omega
        have hd2 : decide ((s.ways.length : Int) ≤ i) = true := by simp; omega
        have HX := Lib.hid (show atI s.ways i = none by simp [atI]; omega)
        clear hi hs hv h hil hsv hkb hlt hc hz hno5 h0 hl
        go_wp2
        go_ret
        rw [show A.swapWay r i old now = (false, A) by simp [ArS.swapWay, HI.out, HS.out, HX.out]]
        exact ⟨rfl, ⟨vs, vf, raw, H.out⟩, Fr.refl _ _ _⟩
    · have hd1 : decide (i < 0) = true := by simp; omega
      have HX := Lib.hid (show atI s.ways i = none by simp [atI]; omega)
      clear hi hs hv h hil hsv hkb hlt hc hz hno5 h0
      go_wp2
      go_ret
      rw [show A.swapWay r i old now = (false, A) by simp [ArS.swapWay, HI.out, HS.out, HX.out]]
      exact ⟨rfl, ⟨vs, vf, raw, H.out⟩, Fr.refl _ _ _⟩
  | miss hi =>
    have HI := Lib.hid hi
    have H := Lib.hid h
    clear hi h
    go_wp2
    go_ret
    rw [show A.swapWay r i old now = (false, A.fault) by simp only [ArS.swapWay, HI.out]]
    exact ⟨rfl, ⟨vs, vf, raw, H.out.faulted⟩, H.out.frFault _ _⟩
end
end Go.Proofs.Ytacmeafpieoaaaa
