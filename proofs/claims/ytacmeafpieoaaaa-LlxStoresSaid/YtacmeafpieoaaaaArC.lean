/- The arena's operations on one node: Info, SwapInfo, Mark, SetMark, Way, SwapWay, Used, Faults, Most. -/
import Derived.Test.YtacmeafpieoaaaaArB
namespace Go.Proofs.Ytacmeafpieoaaaa
open Go.RowKit

def ArS.info (A : ArS) (r : Int) : Int × ArS := match A.get r with | some s => (s.info, A) | none => (0, A.fault)
def ArS.marked (A : ArS) (r : Int) : Bool × ArS := match A.get r with | some s => (s.mark, A) | none => (false, A.fault)
def ArS.setMark (A : ArS) (r : Int) : ArS := match A.idx r with | some i => (match A.slots[i]? with | some s => A.put i { s with mark := true } | none => A) | none => A.fault
def ArS.swapInfo (A : ArS) (r old now : Int) : Bool × ArS :=
  match A.idx r with
  | some i => (match A.slots[i]? with | some s => if s.info = old then (true, A.put i { s with info := now }) else (false, A) | none => (false, A))
  | none => (false, A.fault)
/-- A list at an int. -/
def atI (l : List Int) (i : Int) : Option Int := if 0 ≤ i then l[i.toNat]? else none
def ArS.way (A : ArS) (r i : Int) : Int × ArS := match A.get r with | some s => ((atI s.ways i).getD 0, A) | none => (0, A.fault)
def ArS.swapWay (A : ArS) (r i old now : Int) : Bool × ArS :=
  match A.idx r with
  | some k => (match A.slots[k]? with | some s => if atI s.ways i = some old then (true, A.put k { s with ways := s.ways.set i.toNat now }) else (false, A) | none => (false, A))
  | none => (false, A.fault)

section
variable {κ : Nat → K} {w : World} {wi pa : Nat} {vs vf : Value} {raw : List Value} {A : ArS}

theorem SlotV.setInfo {i : Nat} {s : SlotS} {v2 v3 v4 v5 : Value} (h : SlotV κ w wi raw i s v2 v3 v4 v5) (x : Int) (hl : i * 10 + 10 ≤ raw.length) : SlotV κ w wi (raw.set (i * 10 + 6) (.int .i64 x)) i { s with info := x } v2 v3 v4 v5 :=
  ⟨by rw [List.getElem?_set_ne (by omega)]; exact h.c0, by rw [List.getElem?_set_ne (by omega)]; exact h.c1, by rw [List.getElem?_set_ne (by omega)]; exact h.c2, by rw [List.getElem?_set_ne (by omega)]; exact h.c3,
   by rw [List.getElem?_set_ne (by omega)]; exact h.c4, by rw [List.getElem?_set_ne (by omega)]; exact h.c5, by rw [List.getElem?_set_self (by omega)], by rw [List.getElem?_set_ne (by omega)]; exact h.c7,
   by rw [List.getElem?_set_ne (by omega)]; exact h.c8, by rw [List.getElem?_set_ne (by omega)]; exact h.c9, h.r2, h.r3, h.r4, h.r5, h.sm⟩
theorem SlotV.setMark {i : Nat} {s : SlotS} {v2 v3 v4 v5 : Value} (h : SlotV κ w wi raw i s v2 v3 v4 v5) (x : Bool) (hl : i * 10 + 10 ≤ raw.length) : SlotV κ w wi (raw.set (i * 10 + 7) (.bool x)) i { s with mark := x } v2 v3 v4 v5 :=
  ⟨by rw [List.getElem?_set_ne (by omega)]; exact h.c0, by rw [List.getElem?_set_ne (by omega)]; exact h.c1, by rw [List.getElem?_set_ne (by omega)]; exact h.c2, by rw [List.getElem?_set_ne (by omega)]; exact h.c3,
   by rw [List.getElem?_set_ne (by omega)]; exact h.c4, by rw [List.getElem?_set_ne (by omega)]; exact h.c5, by rw [List.getElem?_set_ne (by omega)]; exact h.c6, by rw [List.getElem?_set_self (by omega)],
   by rw [List.getElem?_set_ne (by omega)]; exact h.c8, by rw [List.getElem?_set_ne (by omega)]; exact h.c9, h.r2, h.r3, h.r4, h.r5, h.sm⟩
theorem SlotV.setUsed {i : Nat} {s : SlotS} {v2 v3 v4 v5 : Value} (h : SlotV κ w wi raw i s v2 v3 v4 v5) (x : Bool) (hl : i * 10 + 10 ≤ raw.length) : SlotV κ w wi (raw.set (i * 10 + 9) (.bool x)) i { s with used := x } v2 v3 v4 v5 :=
  ⟨by rw [List.getElem?_set_ne (by omega)]; exact h.c0, by rw [List.getElem?_set_ne (by omega)]; exact h.c1, by rw [List.getElem?_set_ne (by omega)]; exact h.c2, by rw [List.getElem?_set_ne (by omega)]; exact h.c3,
   by rw [List.getElem?_set_ne (by omega)]; exact h.c4, by rw [List.getElem?_set_ne (by omega)]; exact h.c5, by rw [List.getElem?_set_ne (by omega)]; exact h.c6, by rw [List.getElem?_set_ne (by omega)]; exact h.c7,
   by rw [List.getElem?_set_ne (by omega)]; exact h.c8, by rw [List.getElem?_set_self (by omega)], h.r2, h.r3, h.r4, h.r5, h.sm⟩
/-- Another slot's cells. -/
theorem SlotV.other {i j k : Nat} {s : SlotS} {v2 v3 v4 v5 : Value} (h : SlotV κ w wi raw i s v2 v3 v4 v5) (hij : j ≠ i) (hk : k < 10) (u : Value) : SlotV κ w wi (raw.set (j * 10 + k) u) i s v2 v3 v4 v5 :=
  ⟨by rw [List.getElem?_set_ne (by omega)]; exact h.c0, by rw [List.getElem?_set_ne (by omega)]; exact h.c1, by rw [List.getElem?_set_ne (by omega)]; exact h.c2, by rw [List.getElem?_set_ne (by omega)]; exact h.c3,
   by rw [List.getElem?_set_ne (by omega)]; exact h.c4, by rw [List.getElem?_set_ne (by omega)]; exact h.c5, by rw [List.getElem?_set_ne (by omega)]; exact h.c6, by rw [List.getElem?_set_ne (by omega)]; exact h.c7,
   by rw [List.getElem?_set_ne (by omega)]; exact h.c8, by rw [List.getElem?_set_ne (by omega)]; exact h.c9, h.r2, h.r3, h.r4, h.r5, h.sm⟩

/-- A slot's cell is stored into. -/
theorem ArAt.store (h : ArAt κ w wi pa vs vf raw A) {i : Nat} {s s' : SlotS} {bs o cap : Nat} (hi : A.slots[i]? = some s) (hv : vs = .slice (some ⟨bs, o, none⟩) A.slots.length cap) (k : Nat) (hk : k < 10) (u : Value)
    (hs : ∀ v2 v3 v4 v5, i * 10 + 10 ≤ raw.length → SlotV κ w wi raw i s v2 v3 v4 v5 → SlotV κ w wi (raw.set (i * 10 + k) u) i s' v2 v3 v4 v5) :
    ArAt κ (w.setCell ⟨bs, o + i * 10 + k, none⟩ u) wi pa vs vf (raw.set (i * 10 + k) u) (A.put i s') ∧ Fr κ (K.arena wi) w (w.setCell ⟨bs, o + i * 10 + k, none⟩ u) := by
  obtain ⟨bs', o', cap', hv', hle, hb, hlt, hc, hz, hil⟩ := h.row hi
  rw [hv'] at hv
  simp only [Value.slice.injEq, Option.some.injEq, Addr.mk.injEq, and_true, true_and] at hv
  obtain ⟨⟨rfl, rfl⟩, rfl⟩ := hv
  have hkb := h.kvs _ hb
  have hother : ∀ b, b ≠ bs' → (w.setCell ⟨bs', o' + i * 10 + k, none⟩ u).heap[b]? = w.heap[b]? := fun b hb => Below.heap_setCell _ _ _ _ hb
  have hsz : (w.setCell ⟨bs', o' + i * 10 + k, none⟩ u).heap.size = w.heap.size := by simp [World.setCell]
  have hrl := h.own.1
  refine ⟨⟨h.kpa, ?_, ?_, h.kvs, ?_, ?_, h.kvf, by simpa [ArS.put] using h.bound⟩, Fr.setCell _ _ (by simp [hkb, K.arena])⟩
  · rw [hother pa (by intro e; have := h.kpa; rw [e, hkb] at this; cases this)]; exact h.hpa
  · have := h.own
    rw [hv'] at this ⊢
    have ho := this.set (i * 10 + k) (by omega) u
    rw [← Nat.add_assoc] at ho
    simpa [ArS.put] using ho
  · intro j t hj
    have move : ∀ {raw' : List Value} {t v2 v3 v4 v5}, SlotV κ w wi raw' j t v2 v3 v4 v5 → SlotV κ (w.setCell ⟨bs', o' + i * 10 + k, none⟩ u) wi raw' j t v2 v3 v4 v5 := fun hh =>
      hh.keep (fun b _ hk => hother b (by intro e; rw [e, hkb] at hk; rcases hk with hk | hk <;> cases hk)) (by omega) (Ext.refl _ _)
    by_cases hij : i = j
    · subst hij
      simp only [ArS.put, List.getElem?_set_self hil, Option.some.injEq] at hj
      subst hj
      obtain ⟨v2, v3, v4, v5, hh⟩ := h.slots i s hi
      exact ⟨v2, v3, v4, v5, move (hs v2 v3 v4 v5 (by omega) hh)⟩
    · simp only [ArS.put, List.getElem?_set_ne hij] at hj
      obtain ⟨v2, v3, v4, v5, hh⟩ := h.slots j t hj
      exact ⟨v2, v3, v4, v5, move (hh.other hij hk u)⟩
  · exact h.fown.move fun g hg => hother g (by intro e; have := h.kvf g hg; rw [e, hkb] at this; cases this)

/-- What is at hand where 'at' has hit. -/
theorem ArAt.hitAt (h : ArAt κ w wi pa vs vf raw A) {i : Nat} {s : SlotS} {bs o cap : Nat} (hi : A.slots[i]? = some s) (hv : vs = .slice (some ⟨bs, o, none⟩) A.slots.length cap) :
    ∃ v2 v3 v4 v5, SlotV κ w wi raw i s v2 v3 v4 v5 ∧ (∀ j u, raw[j]? = some u → w.cell? ⟨bs, o + j, none⟩ = some u) ∧ (∀ j, w.frozen? ⟨bs, j, none⟩ = false) ∧ i < A.slots.length ∧ κ bs = .sh wi 2 ∧ bs < w.heap.size := by
  obtain ⟨bs', o', cap', hv', hle, hb, hlt, hc, hz, hil⟩ := h.row hi
  obtain ⟨v2, v3, v4, v5, hsv⟩ := h.slots _ s hi
  rw [hv'] at hv
  simp only [Value.slice.injEq, Option.some.injEq, Addr.mk.injEq, and_true, true_and] at hv
  obtain ⟨⟨rfl, rfl⟩, rfl⟩ := hv
  exact ⟨v2, v3, v4, v5, hsv, hc, hz, hil, h.kvs _ hb, hlt⟩


theorem info_ok (h : ArRep κ w wi pa A) (r : Int) : Calls Try.prog 83 #[.pointer (some ⟨pa, 0, none⟩), .int .i64 r] w fun e w' => e = .returned (.int .i64 (A.info r).1) ∧ ArRep κ w' wi pa (A.info r).2 ∧ Fr κ (K.arena wi) w w' := by
  obtain ⟨vs, vf, raw, h⟩ := h
  go_enter Try.func83, Try.ntmps83
  go_wp2_with fail
  refine (at_ok h r).mono ?_
  rintro e w' hh
  cases hh with
  | hit i s bs o cap hi hs hv =>
    have HI := Lib.hid hi
    have HS := Lib.hid hs
    have HV := Lib.hid hv
    have H := Lib.hid h
    obtain ⟨v2, v3, v4, v5, hsv, hc, hz, hil, hkb, hlt⟩ := h.hitAt hs hv
    have hc6 := hc _ _ hsv.c6
    rw [← Nat.add_assoc] at hc6
    clear hi hs hv h hil hsv hkb hlt hc hz
    go_wp2
    go_ret
    simp only [ArS.info, ArS.get, HI.out, Option.bind_some, HS.out]
    exact ⟨rfl, ⟨vs, vf, raw, H.out⟩, Fr.refl _ _ _⟩
  | miss hi =>
    have HI := Lib.hid hi
    have H := Lib.hid h
    clear hi h
    go_wp2
    go_ret
    simp only [ArS.info, ArS.get, HI.out, Option.bind_none]
    exact ⟨rfl, ⟨vs, vf, raw, H.out.faulted⟩, H.out.frFault _ _⟩

theorem mark_ok (h : ArRep κ w wi pa A) (r : Int) : Calls Try.prog 74 #[.pointer (some ⟨pa, 0, none⟩), .int .i64 r] w fun e w' => e = .returned (.bool (A.marked r).1) ∧ ArRep κ w' wi pa (A.marked r).2 ∧ Fr κ (K.arena wi) w w' := by
  obtain ⟨vs, vf, raw, h⟩ := h
  go_enter Try.func74, Try.ntmps74
  go_wp2_with fail
  refine (at_ok h r).mono ?_
  rintro e w' hh
  cases hh with
  | hit i s bs o cap hi hs hv =>
    have HI := Lib.hid hi
    have HS := Lib.hid hs
    have HV := Lib.hid hv
    have H := Lib.hid h
    obtain ⟨v2, v3, v4, v5, hsv, hc, hz, hil, hkb, hlt⟩ := h.hitAt hs hv
    have hc7 := hc _ _ hsv.c7
    rw [← Nat.add_assoc] at hc7
    clear hi hs hv h hil hsv hkb hlt hc hz
    go_wp2
    go_ret
    simp only [ArS.marked, ArS.get, HI.out, Option.bind_some, HS.out]
    exact ⟨rfl, ⟨vs, vf, raw, H.out⟩, Fr.refl _ _ _⟩
  | miss hi =>
    have HI := Lib.hid hi
    have H := Lib.hid h
    clear hi h
    go_wp2
    go_ret
    simp only [ArS.marked, ArS.get, HI.out, Option.bind_none]
    exact ⟨rfl, ⟨vs, vf, raw, H.out.faulted⟩, H.out.frFault _ _⟩

theorem setMark_ok (h : ArRep κ w wi pa A) (r : Int) : Calls Try.prog 86 #[.pointer (some ⟨pa, 0, none⟩), .int .i64 r] w fun e w' => e = .returned (.tuple #[]) ∧ ArRep κ w' wi pa (A.setMark r) ∧ Fr κ (K.arena wi) w w' := by
  obtain ⟨vs, vf, raw, h⟩ := h
  go_enter Try.func86, Try.ntmps86
  go_wp2_with fail
  refine (at_ok h r).mono ?_
  rintro e w' hh
  cases hh with
  | hit i s bs o cap hi hs hv =>
    have HI := Lib.hid hi
    have HS := Lib.hid hs
    have HV := Lib.hid hv
    have H := Lib.hid h
    obtain ⟨v2, v3, v4, v5, hsv, hc, hz, hil, hkb, hlt⟩ := h.hitAt hs hv
    have hc7 := hc _ _ hsv.c7
    have hz7 := hz (o + i * 10 + 7)
    rw [← Nat.add_assoc] at hc7
    have HF := Lib.hid (h.store hs hv 7 (by decide) (.bool true) (s' := { s with mark := true }) (fun _ _ _ _ hl hh => hh.setMark true hl))
    clear hi hs hv h hil hsv hkb hlt hc hz
    go_wp2
    go_end0
    rw [show A.setMark r = A.put i { s with mark := true } by simp only [ArS.setMark, HI.out, HS.out]]
    exact ⟨rfl, ⟨vs, vf, _, HF.out.1⟩, HF.out.2⟩
  | miss hi =>
    have HI := Lib.hid hi
    have H := Lib.hid h
    clear hi h
    go_wp2
    go_end0
    rw [show A.setMark r = A.fault by simp only [ArS.setMark, HI.out]]
    exact ⟨rfl, ⟨vs, vf, raw, H.out.faulted⟩, H.out.frFault _ _⟩

theorem swapInfo_ok (h : ArRep κ w wi pa A) (r old now : Int) : Calls Try.prog 72 #[.pointer (some ⟨pa, 0, none⟩), .int .i64 r, .int .i64 old, .int .i64 now] w fun e w' => e = .returned (.bool (A.swapInfo r old now).1) ∧ ArRep κ w' wi pa (A.swapInfo r old now).2 ∧ Fr κ (K.arena wi) w w' := by
  obtain ⟨vs, vf, raw, h⟩ := h
  go_enter Try.func72, Try.ntmps72
  go_wp2_with fail
  refine (at_ok h r).mono ?_
  rintro e w' hh
  cases hh with
  | hit i s bs o cap hi hs hv =>
    have HI := Lib.hid hi
    have HS := Lib.hid hs
    have HV := Lib.hid hv
    have H := Lib.hid h
    obtain ⟨v2, v3, v4, v5, hsv, hc, hz, hil, hkb, hlt⟩ := h.hitAt hs hv
    have hc6 := hc _ _ hsv.c6
    have hz6 := hz (o + i * 10 + 6)
    rw [← Nat.add_assoc] at hc6
    have HF := Lib.hid (h.store hs hv 6 (by decide) (.int .i64 now) (s' := { s with info := now }) (fun _ _ _ _ hl hh => hh.setInfo now hl))
    clear hi hs hv h hil hsv hkb hlt hc hz
    by_cases hold : s.info = old
    · have hne : (s.info != old) = false := by simp [hold]
      have HO := Lib.hid hold
      clear hold
      go_wp2
      go_ret
      rw [show A.swapInfo r old now = (true, A.put i { s with info := now }) by simp only [ArS.swapInfo, HI.out, HS.out, if_pos HO.out]]
      exact ⟨rfl, ⟨vs, vf, _, HF.out.1⟩, HF.out.2⟩
    · have hne : (s.info != old) = true := by simp [hold]
      have HO := Lib.hid hold
      clear hold
      go_wp2
      go_ret
      rw [show A.swapInfo r old now = (false, A) by simp only [ArS.swapInfo, HI.out, HS.out, if_neg HO.out]]
      exact ⟨rfl, ⟨vs, vf, raw, H.out⟩, Fr.refl _ _ _⟩
  | miss hi =>
    have HI := Lib.hid hi
    have H := Lib.hid h
    clear hi h
    go_wp2
    go_ret
    simp only [ArS.swapInfo, HI.out]
    exact ⟨rfl, ⟨vs, vf, raw, H.out.faulted⟩, H.out.frFault _ _⟩

theorem used_ok (h : ArRep κ w wi pa A) : Calls Try.prog 30 #[.pointer (some ⟨pa, 0, none⟩)] w fun e w' => e = .returned (.int .i64 A.used) ∧ w' = w := by
  obtain ⟨vs, vf, raw, h⟩ := h
  have hc := h.pcell 3
  simp only [List.getElem?_toArray, List.getElem?_cons_succ, List.getElem?_cons_zero] at hc
  clear h
  go_enter Try.func30, Try.ntmps30
  go_wp2
  go_ret
  exact ⟨rfl, rfl⟩

theorem faults_ok (h : ArRep κ w wi pa A) : Calls Try.prog 38 #[.pointer (some ⟨pa, 0, none⟩)] w fun e w' => e = .returned (.int .i64 A.faults) ∧ w' = w := by
  obtain ⟨vs, vf, raw, h⟩ := h
  have hc := h.pcell 4
  simp only [List.getElem?_toArray, List.getElem?_cons_succ, List.getElem?_cons_zero] at hc
  clear h
  go_enter Try.func38, Try.ntmps38
  go_wp2
  go_ret
  exact ⟨rfl, rfl⟩

theorem most_ok (h : ArRep κ w wi pa A) : Calls Try.prog 79 #[.pointer (some ⟨pa, 0, none⟩)] w fun e w' => e = .returned (.int .i64 A.most) ∧ w' = w := by
  obtain ⟨vs, vf, raw, h⟩ := h
  have hc := h.pcell 2
  simp only [List.getElem?_toArray, List.getElem?_cons_succ, List.getElem?_cons_zero] at hc
  clear h
  go_enter Try.func79, Try.ntmps79
  go_wp2
  go_ret
  exact ⟨rfl, rfl⟩
end
end Go.Proofs.Ytacmeafpieoaaaa
