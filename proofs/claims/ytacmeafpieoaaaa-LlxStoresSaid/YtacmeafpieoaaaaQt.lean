/- The arena's reads where they hit: they leave the world as it is. -/
import Derived.Test.YtacmeafpieoaaaaHp
namespace Go.Proofs.Ytacmeafpieoaaaa
open Go.RowKit

section
variable {κ : Nat → K} {w : World} {wi pa : Nat} {vs vf : Value} {raw : List Value} {A : ArS}

theorem info_at (h : ArRep κ w wi pa A) (r : Int) (hg : A.get r ≠ none) : Calls Try.prog 83 #[.pointer (some ⟨pa, 0, none⟩), .int .i64 r] w fun e w' => e = .returned (.int .i64 (A.info r).1) ∧ w' = w := by
  obtain ⟨vs, vf, raw, h⟩ := h
  have HG := Lib.hid hg
  clear hg
  go_enter Try.func83, Try.ntmps83
  go_wp2_with fail
  refine (at_ok h r).mono ?_
  rintro e w' hh
  cases hh with
  | hit i s bs o cap hi hs hv =>
    have HI := Lib.hid hi
    have HS := Lib.hid hs
    have HV := Lib.hid hv
    obtain ⟨v2, v3, v4, v5, hsv, hc, hz, hil, hkb, hlt⟩ := h.hitAt hs hv
    have hc6 := hc _ _ hsv.c6
    rw [← Nat.add_assoc] at hc6
    clear hi hs hv h hil hsv hkb hlt hc hz
    go_wp2
    go_ret
    simp only [ArS.info, ArS.get, HI.out, Option.bind_some, HS.out]
    exact ⟨rfl, trivial⟩
  | miss hi => exact absurd (by simp [ArS.get, hi]) HG.out

theorem mark_at (h : ArRep κ w wi pa A) (r : Int) (hg : A.get r ≠ none) : Calls Try.prog 74 #[.pointer (some ⟨pa, 0, none⟩), .int .i64 r] w fun e w' => e = .returned (.bool (A.marked r).1) ∧ w' = w := by
  obtain ⟨vs, vf, raw, h⟩ := h
  have HG := Lib.hid hg
  clear hg
  go_enter Try.func74, Try.ntmps74
  go_wp2_with fail
  refine (at_ok h r).mono ?_
  rintro e w' hh
  cases hh with
  | hit i s bs o cap hi hs hv =>
    have HI := Lib.hid hi
    have HS := Lib.hid hs
    have HV := Lib.hid hv
    obtain ⟨v2, v3, v4, v5, hsv, hc, hz, hil, hkb, hlt⟩ := h.hitAt hs hv
    have hc7 := hc _ _ hsv.c7
    rw [← Nat.add_assoc] at hc7
    clear hi hs hv h hil hsv hkb hlt hc hz
    go_wp2
    go_ret
    simp only [ArS.marked, ArS.get, HI.out, Option.bind_some, HS.out]
    exact ⟨rfl, trivial⟩
  | miss hi => exact absurd (by simp [ArS.get, hi]) HG.out

theorem way_at (h : ArRep κ w wi pa A) (r i : Int) (hg : A.get r ≠ none) : Calls Try.prog 41 #[.pointer (some ⟨pa, 0, none⟩), .int .i64 r, .int .i64 i] w fun e w' => e = .returned (.int .i64 (A.way r i).1) ∧ w' = w := by
  obtain ⟨vs, vf, raw, h⟩ := h
  have HG := Lib.hid hg
  clear hg
  go_enter Try.func41, Try.ntmps41
  go_wp2_with fail
  refine (at_ok h r).mono ?_
  rintro e w' hh
  cases hh with
  | hit k s bs o cap hi hs hv =>
    have HI := Lib.hid hi
    have HS := Lib.hid hs
    obtain ⟨v2, v3, v4, v5, hsv, hc, hz, hil, hkb, hlt⟩ := h.hitAt hs hv
    have hc5 := hc _ _ hsv.c5
    rw [← Nat.add_assoc] at hc5
    obtain ⟨a5, cap5, rfl, hle5, hno5⟩ := hsv.r5.shape
    by_cases h0 : 0 ≤ i
    · by_cases hl : i < (s.ways.length : Int)
      · obtain ⟨i, rfl⟩ := Int.eq_ofNat_of_zero_le h0
        obtain ⟨g, o5, cap5', hv5, hle, hg, hk, hcc, hfz⟩ := hsv.r5.at (by omega) (by decide)
        simp only [Value.slice.injEq, true_and] at hv5
        obtain ⟨rfl, rfl⟩ := hv5
        have hin : i < s.ways.length := by omega
        have hci := hcc i (.int .i64 s.ways[i]) (by rw [intVs_get, List.getElem?_eq_getElem hin]; rfl)
        have hd1 : decide ((i : Int) < 0) = false := by simp
        have hd2 : decide ((s.ways.length : Int) ≤ (i : Int)) = false := by simp; omega
        have HX := Lib.hid (show atI s.ways (i : Int) = some s.ways[i] by simp [atI, hin])
        clear hi hs hv h hil hsv hkb hlt hc hz hcc hfz hno5 h0
        go_wp2
        go_ret
        rw [show A.way r i = (s.ways[i], A) by simp only [ArS.way, ArS.get, HI.out, Option.bind_some, HS.out, HX.out, Option.getD_some]]
        exact ⟨rfl, rfl⟩
      · have hd1 : decide (i < 0) = false := by simp; omega
        have hd2 : decide ((s.ways.length : Int) ≤ i) = true := by simp; omega
        have HX := Lib.hid (show atI s.ways i = none by simp [atI]; omega)
        clear hi hs hv h hil hsv hkb hlt hc hz hno5 h0 hl
        go_wp2
        go_ret
        rw [show A.way r i = (0, A) by simp only [ArS.way, ArS.get, HI.out, Option.bind_some, HS.out, HX.out, Option.getD_none]]
        exact ⟨rfl, rfl⟩
    · have hd1 : decide (i < 0) = true := by simp; omega
      have HX := Lib.hid (show atI s.ways i = none by simp [atI]; omega)
      clear hi hs hv h hil hsv hkb hlt hc hz hno5 h0
      go_wp2
      go_ret
      rw [show A.way r i = (0, A) by simp only [ArS.way, ArS.get, HI.out, Option.bind_some, HS.out, HX.out, Option.getD_none]]
      exact ⟨rfl, rfl⟩
  | miss hi => exact absurd (by simp [ArS.get, hi]) HG.out

theorem WdRep.drewN {p : WdP} {σ : ShS} (h : WdRep κ w wi p σ) (n : Nat) : WdRep κ (w.drewN n) wi p σ := h.keep (fun _ _ _ => rfl) (Nat.le_refl _) (Ext.refl _ _)
theorem ArRep.drewN (h : ArRep κ w wi pa A) (n : Nat) : ArRep κ (w.drewN n) wi pa A := h.keep (fun _ _ _ => rfl) (Nat.le_refl _) (Ext.refl _ _)
theorem TabRep.drewN {pt : Nat} {T : TabS} (h : TabRep κ w wi pt T) (n : Nat) : TabRep κ (w.drewN n) wi pt T := h.keep (fun _ _ _ => rfl) (Nat.le_refl _) (Ext.refl _ _)
theorem EpRep.drewN {pe : Nat} {E : EpS} (h : EpRep κ w wi pe E) (n : Nat) : EpRep κ (w.drewN n) wi pe E := h.keep (fun _ _ _ => rfl) (Nat.le_refl _) (Ext.refl _ _)
end
end Go.Proofs.Ytacmeafpieoaaaa
