/- The epochs as plain data, how they lie in memory; the contracts of their functions. (Nothing is let go in the statements of this seat: the rows of what waits stay empty.) -/
import Derived.Test.YtacmeafpieoaaaaArH
namespace Go.Proofs.Ytacmeafpieoaaaa
open Go.RowKit

structure EpS where
  now : Int
  said : List Int

def K.epochs (wi : Nat) : K → Bool
  | .sh i p => i == wi && (p == 6 || p == 7 || p == 8)
  | _ => false

structure EpAt (κ : Nat → K) (w : World) (wi pe : Nat) (vs vl : Value) (E : EpS) : Prop where
  kpe : κ pe = .sh wi 6
  hpe : w.heap[pe]? = some (.cells #[.int .i64 E.now, vs, vl] 198 (0, 0))
  own : Own w 2 1 vs E.said.length (intVs E.said)
  kvs : ∀ g, blk vs = some g → κ g = .sh wi 7
  lim : Row κ (.sh wi 8) w 1 vl E.said.length (List.replicate E.said.length (.slice none 0 0))

def EpRep (κ : Nat → K) (w : World) (wi pe : Nat) (E : EpS) : Prop := ∃ vs vl, EpAt κ w wi pe vs vl E

section
variable {κ κ' : Nat → K} {w w' : World} {wi pe : Nat} {vs vl : Value} {E : EpS}

theorem EpAt.keep (h : EpAt κ w wi pe vs vl E) (hb : ∀ b, b < w.heap.size → (κ b).epochs wi = true → w'.heap[b]? = w.heap[b]?) (hs : w.heap.size ≤ w'.heap.size) (he : Ext κ κ' w) : EpAt κ' w' wi pe vs vl E := by
  have hpl := lt_of_heap h.hpe
  exact ⟨(he pe hpl).trans h.kpe, (hb pe hpl (by simp [h.kpe, K.epochs])).trans h.hpe, h.own.move fun g hg => hb g (h.own.lt g hg) (by simp [h.kvs g hg, K.epochs]), fun g hg => (he g (h.own.lt g hg)).trans (h.kvs g hg),
    h.lim.keep (fun b h1 h2 => hb b h1 (by simp [h2, K.epochs])) hs he⟩
theorem EpRep.keep (h : EpRep κ w wi pe E) (hb : ∀ b, b < w.heap.size → (κ b).epochs wi = true → w'.heap[b]? = w.heap[b]?) (hs : w.heap.size ≤ w'.heap.size) (he : Ext κ κ' w) : EpRep κ' w' wi pe E := by
  obtain ⟨vs, vl, h⟩ := h
  exact ⟨vs, vl, h.keep hb hs he⟩
theorem EpAt.pcell (h : EpAt κ w wi pe vs vl E) (i : Nat) : w.cell? ⟨pe, i, none⟩ = #[.int .i64 E.now, vs, vl][i]? := cell_of_heap h.hpe
theorem EpAt.pfrozen (h : EpAt κ w wi pe vs vl E) (i : Nat) : w.frozen? ⟨pe, i, none⟩ = false := frozen_of_heap h.hpe

def EpS.has (E : EpS) (t : Int) : Bool := decide (0 ≤ t) && decide (t < (E.said.length : Int))
def EpS.swap (E : EpS) (old : Int) : Bool × EpS := if E.now = old then (true, { E with now := wrap64 (E.now + 1) }) else (false, E)
def EpS.say (E : EpS) (t n : Int) : EpS := if E.has t = true then { E with said := E.said.set t.toNat n } else E
def EpS.told (E : EpS) (t : Int) : Int := if E.has t = true then (E.said[t.toNat]?).getD 0 else -1

theorem now_ok (h : EpRep κ w wi pe E) : Calls Try.prog 64 #[.pointer (some ⟨pe, 0, none⟩)] w fun e w' => e = .returned (.int .i64 E.now) ∧ w' = w := by
  obtain ⟨vs, vl, h⟩ := h
  have h0 := h.pcell 0
  simp only [List.getElem?_toArray, List.getElem?_cons_succ, List.getElem?_cons_zero] at h0
  clear h
  go_enter Try.func64, Try.ntmps64
  go_wp2
  go_ret
  exact ⟨rfl, rfl⟩

theorem elen_ok (h : EpRep κ w wi pe E) : Calls Try.prog 81 #[.pointer (some ⟨pe, 0, none⟩)] w fun e w' => e = .returned (.int .i64 E.said.length) ∧ w' = w := by
  obtain ⟨vs, vl, h⟩ := h
  have h1 := h.pcell 1
  simp only [List.getElem?_toArray, List.getElem?_cons_succ, List.getElem?_cons_zero] at h1
  obtain ⟨_, a, cap, rfl, _⟩ := h.own
  clear h
  go_enter Try.func81, Try.ntmps81
  go_wp2
  go_ret
  exact ⟨rfl, rfl⟩

theorem in_ok (h : EpRep κ w wi pe E) (t : Int) : Calls Try.prog 132 #[.pointer (some ⟨pe, 0, none⟩), .int .i64 t] w fun e w' => e = .returned (.bool (E.has t)) ∧ w' = w := by
  obtain ⟨vs, vl, h⟩ := h
  have h1 := h.pcell 1
  simp only [List.getElem?_toArray, List.getElem?_cons_succ, List.getElem?_cons_zero] at h1
  obtain ⟨_, a, cap, rfl, _⟩ := h.own
  clear h
  by_cases ht : 0 ≤ t
  · have ht' : decide (0 ≤ t) = true := by simpa using ht
    go_enter Try.func132, Try.ntmps132
    go_wp2
    go_ret
    exact ⟨by simp [EpS.has, ht], rfl⟩
  · have ht' : decide (0 ≤ t) = false := by simpa using ht
    go_enter Try.func132, Try.ntmps132
    go_wp2
    go_ret
    exact ⟨by simp [EpS.has]; intros; omega, rfl⟩

theorem swap_ok (h : EpRep κ w wi pe E) (old : Int) : Calls Try.prog 128 #[.pointer (some ⟨pe, 0, none⟩), .int .i64 old] w fun e w' => e = .returned (.bool (E.swap old).1) ∧ EpRep κ w' wi pe (E.swap old).2 ∧ Fr κ (K.epochs wi) w w' := by
  obtain ⟨vs, vl, h⟩ := h
  have h0 := h.pcell 0
  have hz := h.pfrozen 0
  simp only [List.getElem?_toArray, List.getElem?_cons_succ, List.getElem?_cons_zero] at h0
  have H := Lib.hid h
  clear h
  by_cases ho : E.now = old
  · subst ho
    have ho' : (E.now != E.now) = false := by simp
    go_enter Try.func128, Try.ntmps128
    go_wp2
    go_ret
    have h := H.out
    simp only [EpS.swap, if_true]
    have hpl := lt_of_heap h.hpe
    have hk := h.kpe
    refine ⟨rfl, ⟨vs, vl, h.kpe, ?_, h.own.move fun g hg => Below.heap_setCell _ _ _ _ (by intro e; have := h.kvs g hg; rw [e, hk] at this; cases this), h.kvs,
      h.lim.keep (fun b _ hkb => Below.heap_setCell _ _ _ _ (by intro e; rw [e, hk] at hkb; cases hkb)) (by simp [World.setCell]) (Ext.refl _ _)⟩, Fr.setCell _ _ (by simp [hk, K.epochs])⟩
    rw [heap_setCell_at h.hpe]; rfl
  · have ho' : (E.now != old) = true := by simpa using ho
    go_enter Try.func128, Try.ntmps128
    go_wp2
    go_ret
    simp only [EpS.swap, if_neg ho]
    exact ⟨rfl, ⟨vs, vl, H.out⟩, Fr.refl _ _ _⟩

theorem EpAt.row (h : EpAt κ w wi pe vs vl E) {t : Int} (ht : E.has t = true) : ∃ g o cap n, t = (n : Nat) ∧ n < E.said.length ∧ vs = .slice (some ⟨g, o, none⟩) E.said.length cap ∧ blk vs = some g ∧ g < w.heap.size ∧ (∀ i u, (intVs E.said)[i]? = some u → w.cell? ⟨g, o + i, none⟩ = some u) ∧ (∀ i, w.frozen? ⟨g, i, none⟩ = false) := by
  simp only [EpS.has, Bool.and_eq_true, decide_eq_true_eq] at ht
  obtain ⟨g, o, cap, h1, h2, h3, h4, h5, h6⟩ := h.own.at (by omega) (by decide)
  exact ⟨g, o, cap, t.toNat, by omega, by omega, h1, h3, h4, h5, h6⟩

theorem said_ok (h : EpRep κ w wi pe E) (t : Int) : Calls Try.prog 63 #[.pointer (some ⟨pe, 0, none⟩), .int .i64 t] w fun e w' => e = .returned (.int .i64 (E.told t)) ∧ w' = w := by
  have hr := h
  obtain ⟨vs, vl, h⟩ := h
  have h1 := h.pcell 1
  simp only [List.getElem?_toArray, List.getElem?_cons_succ, List.getElem?_cons_zero] at h1
  by_cases ht : E.has t = true
  · obtain ⟨g, o, cap, n, rfl, hn, rfl, hb, hg, hc, hz⟩ := h.row ht
    obtain ⟨x, hx⟩ : ∃ x, E.said[n]? = some x := ⟨_, List.getElem?_eq_getElem hn⟩
    have hcn := hc n (.int .i64 x) (by rw [intVs_get, hx]; rfl)
    have HC := Lib.hid hc
    clear h hc hz hb hg
    go_enter Try.func63, Try.ntmps63
    go_wp2_with fail
    refine (in_ok hr _).mono ?_
    rintro e w' ⟨rfl, rfl⟩
    rw [ht]
    go_wp2
    go_ret
    refine ⟨?_, rfl⟩
    simp [EpS.told, ht, hx]
  · have ht' : E.has t = false := by simpa using ht
    clear h
    go_enter Try.func63, Try.ntmps63
    go_wp2_with fail
    refine (in_ok hr _).mono ?_
    rintro e w' ⟨rfl, rfl⟩
    rw [ht']
    go_wp2
    go_ret
    exact ⟨by simp [EpS.told, ht'], rfl⟩

theorem say_ok (h : EpRep κ w wi pe E) (t n : Int) : Calls Try.prog 124 #[.pointer (some ⟨pe, 0, none⟩), .int .i64 t, .int .i64 n] w fun e w' => e = .returned (.tuple #[]) ∧ EpRep κ w' wi pe (E.say t n) ∧ Fr κ (K.epochs wi) w w' := by
  have hr := h
  obtain ⟨vs, vl, h⟩ := h
  have h1 := h.pcell 1
  simp only [List.getElem?_toArray, List.getElem?_cons_succ, List.getElem?_cons_zero] at h1
  by_cases ht : E.has t = true
  · obtain ⟨g, o, cap, k, rfl, hn, rfl, hb, hg, hc, hz⟩ := h.row ht
    obtain ⟨x, hx⟩ : ∃ x, E.said[k]? = some x := ⟨_, List.getElem?_eq_getElem hn⟩
    have hcn := hc k (.int .i64 x) (by rw [intVs_get, hx]; rfl)
    have hzk := hz (o + k)
    have H := Lib.hid h
    clear h hc hz
    go_enter Try.func124, Try.ntmps124
    go_wp2_with fail
    refine (in_ok hr _).mono ?_
    rintro e w' ⟨rfl, rfl⟩
    rw [ht]
    go_wp2
    go_end0
    have h := H.out
    have hk := h.kpe
    have hkg := h.kvs g hb
    have hne : g ≠ pe := by intro e; rw [e, hk] at hkg; cases hkg
    have hown := h.own.set k (by omega) (.int .i64 n)
    have hi : intVs (E.said.set k n) = (intVs E.said).set k (.int .i64 n) := by simp [intVs, List.map_set]
    simp only [EpS.say, ht, if_true, Int.toNat_natCast]
    refine ⟨trivial, ⟨_, vl, h.kpe, ?_, by simpa [hi] using hown, h.kvs, ?_⟩, Fr.setCell _ _ (by simp [hkg, K.epochs])⟩
    · rw [Below.heap_setCell _ _ _ _ (Ne.symm hne)]; exact h.hpe
    · have := h.lim.keep (κ' := κ) (w' := w'.setCell ⟨g, o + k, none⟩ (.int .i64 n)) (fun b _ hkb => Below.heap_setCell _ _ _ _ (by intro e; rw [e, hkg] at hkb; cases hkb)) (by simp [World.setCell]) (Ext.refl _ _)
      simpa using this
  · have ht' : E.has t = false := by simpa using ht
    have H := Lib.hid h
    clear h
    go_enter Try.func124, Try.ntmps124
    go_wp2_with fail
    refine (in_ok hr _).mono ?_
    rintro e w' ⟨rfl, rfl⟩
    rw [ht']
    go_wp2
    go_end0
    simp only [EpS.say, ht']
    exact ⟨trivial, ⟨vs, vl, H.out⟩, Fr.refl _ _ _⟩

theorem ready_ok (h : EpRep κ w wi pe E) (t now : Int) : Calls Try.prog 159 #[.pointer (some ⟨pe, 0, none⟩), .int .i64 t, .int .i64 now] w fun e w' => e = .returned (.int .i64 0) ∧ w' = w := by
  have hr := h
  obtain ⟨vs, vl, h⟩ := h
  have h2 := h.pcell 2
  simp only [List.getElem?_toArray, List.getElem?_cons_succ, List.getElem?_cons_zero] at h2
  by_cases ht : E.has t = true
  · obtain ⟨_, _, _, n, rfl, hn, _, _, _, _, _⟩ := h.row ht
    obtain ⟨g, o, cap, rfl, hle, hg, hkg, hc, hz⟩ := h.lim.at (by omega) (by decide)
    have hcn := hc n (.slice none 0 0) (by simp [hn])
    clear h hc hz
    go_enter Try.func159, Try.ntmps159
    go_wp2_with fail
    refine (in_ok hr _).mono ?_
    rintro e w' ⟨rfl, rfl⟩
    rw [ht]
    go_wp2
    go_ret
    exact ⟨rfl, rfl⟩
  · have ht' : E.has t = false := by simpa using ht
    clear h
    go_enter Try.func159, Try.ntmps159
    go_wp2_with fail
    refine (in_ok hr _).mono ?_
    rintro e w' ⟨rfl, rfl⟩
    rw [ht']
    go_wp2
    go_ret
    exact ⟨rfl, rfl⟩
end
end Go.Proofs.Ytacmeafpieoaaaa
