/- The records' table: State, Set, All, SetAll, Len. -/
import Derived.Test.YtacmeafpieoaaaaTb
namespace Go.Proofs.Ytacmeafpieoaaaa
open Go.RowKit

def TabS.state (T : TabS) (n : Int) : Int := match T.get n with | some e => e.state | none => 0
def TabS.allOf (T : TabS) (n : Int) : Bool := match T.get n with | some e => e.all | none => false
def TabS.setState (T : TabS) (n s : Int) : TabS := match T.idx n with | some i => (match T.ents[i]? with | some e => T.put i { e with state := s } | none => T) | none => T
def TabS.setAll (T : TabS) (n : Int) : TabS := match T.idx n with | some i => (match T.ents[i]? with | some e => T.put i { e with all := true } | none => T) | none => T

section
variable {κ κ' : Nat → K} {w w' : World} {wi pt : Nat} {vl : Value} {bs : List Nat} {T : TabS}

/-- An entry's cell is stored into. -/
theorem TabAt.store (h : TabAt κ w wi pt vl bs T) {i b : Nat} {vn vi : Value} {e e' : EntS} (hs : T.ents[i]? = some e) (hbs : bs[i]? = some b) (he : EntAt κ w wi i b vn vi e) (k : Nat) (u : Value) (hr : e'.r = e.r)
    (hc : (#[vn, vi, .int .i64 e.r.keep, .int .i64 e.r.way, .int .i64 e.r.old, .int .i64 e.r.new, .int .u8 e.state, .bool e.all] : Array Value).setIfInBounds k u = #[vn, vi, .int .i64 e.r.keep, .int .i64 e.r.way, .int .i64 e.r.old, .int .i64 e.r.new, .int .u8 e'.state, .bool e'.all]) :
    TabAt κ (w.setCell ⟨b, k, none⟩ u) wi pt vl bs (T.put i e') ∧ Fr κ (K.recs wi) w (w.setCell ⟨b, k, none⟩ u) := by
  have hkb := he.kb
  have ho : ∀ c, c ≠ b → (w.setCell ⟨b, k, none⟩ u).heap[c]? = w.heap[c]? := fun c hc => Below.heap_setCell _ _ _ _ hc
  have hsz : (w.setCell ⟨b, k, none⟩ u).heap.size = w.heap.size := by simp [World.setCell]
  have hil := (List.getElem?_eq_some_iff.1 hs).1
  refine ⟨⟨h.kpt, ?_, ?_, h.kvl, by simpa [TabS.put] using h.len, ?_, by simpa [TabS.put] using h.bound⟩, Fr.setCell _ _ (by simp [hkb, K.recs])⟩
  · rw [ho pt (by intro e; have := h.kpt; rw [e, hkb] at this; cases this)]; exact h.hpt
  · have := h.own.move (w' := w.setCell ⟨b, k, none⟩ u) fun g hg => ho g (by intro e; have := h.kvl g hg; rw [e, hkb] at this; cases this)
    simpa [TabS.put] using this
  · intro j t hj
    by_cases hij : i = j
    · subst hij
      simp only [TabS.put, List.getElem?_set_self hil, Option.some.injEq] at hj
      subst hj
      have imm : ∀ c, c < w.heap.size → κ c = .imm → (w.setCell ⟨b, k, none⟩ u).heap[c]? = w.heap[c]? := fun c _ hk => ho c (by intro e; rw [e, hkb] at hk; cases hk)
      refine ⟨b, vn, vi, hbs, hkb, ?_, by rw [hr]; exact he.rn.keep imm (by omega) (Ext.refl _ _), by rw [hr]; exact he.ri.keep imm (by omega) (Ext.refl _ _), by rw [hr]; exact he.sm⟩
      rw [heap_setCell_at he.hb, hc, hr]
    · simp only [TabS.put, List.getElem?_set_ne hij] at hj
      obtain ⟨b', vn', vi', h1, h2⟩ := h.ents j t hj
      exact ⟨b', vn', vi', h1, h2.keep (fun c _ hk => ho c (by intro e; rw [e, hkb] at hk; rcases hk with hk | hk <;> cases hk; exact hij rfl)) (by omega) (Ext.refl _ _)⟩

theorem state_ok (h : TabRep κ w wi pt T) (n : Int) : Calls Try.prog 70 #[.pointer (some ⟨pt, 0, none⟩), .int .i64 n] w fun e w' => e = .returned (.int .u8 (T.state n)) ∧ w' = w := by
  obtain ⟨vl, bs, h⟩ := h
  go_enter Try.func70, Try.ntmps70
  go_wp2_with fail
  refine (tab_at h n).mono ?_
  rintro e w' hh
  cases hh with
  | hit i b vn vi en hi hs hbs he =>
    have hc : w.cell? ⟨b, 6, none⟩ = some (.int .u8 en.state) := by rw [cell_of_heap he.hb]; rfl
    have HI := Lib.hid hi
    have HS := Lib.hid hs
    clear hi hs hbs he h
    go_wp2
    go_ret
    exact ⟨by simp only [TabS.state, TabS.get, HI.out, Option.bind_some, HS.out]; rfl, rfl⟩
  | miss hi =>
    have HI := Lib.hid hi
    clear hi h
    go_wp2
    go_ret
    exact ⟨by simp only [TabS.state, TabS.get, HI.out, Option.bind_none]; rfl, rfl⟩

theorem all_ok (h : TabRep κ w wi pt T) (n : Int) : Calls Try.prog 75 #[.pointer (some ⟨pt, 0, none⟩), .int .i64 n] w fun e w' => e = .returned (.bool (T.allOf n)) ∧ w' = w := by
  obtain ⟨vl, bs, h⟩ := h
  go_enter Try.func75, Try.ntmps75
  go_wp2_with fail
  refine (tab_at h n).mono ?_
  rintro e w' hh
  cases hh with
  | hit i b vn vi en hi hs hbs he =>
    have hc : w.cell? ⟨b, 7, none⟩ = some (.bool en.all) := by rw [cell_of_heap he.hb]; rfl
    have HI := Lib.hid hi
    have HS := Lib.hid hs
    clear hi hs hbs he h
    go_wp2
    go_ret
    exact ⟨by simp only [TabS.allOf, TabS.get, HI.out, Option.bind_some, HS.out]; rfl, rfl⟩
  | miss hi =>
    have HI := Lib.hid hi
    clear hi h
    go_wp2
    go_ret
    exact ⟨by simp only [TabS.allOf, TabS.get, HI.out, Option.bind_none]; rfl, rfl⟩

theorem set_ok (h : TabRep κ w wi pt T) (n : Int) (s : Int) : Calls Try.prog 85 #[.pointer (some ⟨pt, 0, none⟩), .int .i64 n, .int .u8 s] w fun e w' => e = .returned (.tuple #[]) ∧ TabRep κ w' wi pt (T.setState n s) ∧ Fr κ (K.recs wi) w w' := by
  obtain ⟨vl, bs, h⟩ := h
  go_enter Try.func85, Try.ntmps85
  go_wp2_with fail
  refine (tab_at h n).mono ?_
  rintro e w' hh
  cases hh with
  | hit i b vn vi en hi hs hbs he =>
    have hc : w.cell? ⟨b, 6, none⟩ = some (.int .u8 en.state) := by rw [cell_of_heap he.hb]; rfl
    have hz : w.frozen? ⟨b, 6, none⟩ = false := frozen_of_heap he.hb
    have HI := Lib.hid hi
    have HS := Lib.hid hs
    have HF := Lib.hid (h.store hs hbs he 6 (.int .u8 s) (e' := { en with state := s }) rfl rfl)
    clear hi hs hbs he h
    go_wp2
    go_end0
    rw [show T.setState n s = T.put i { en with state := s } by simp only [TabS.setState, HI.out, HS.out]]
    exact ⟨rfl, ⟨vl, bs, HF.out.1⟩, HF.out.2⟩
  | miss hi =>
    have HI := Lib.hid hi
    have H := Lib.hid h
    clear hi h
    go_wp2
    go_end0
    rw [show T.setState n s = T by simp only [TabS.setState, HI.out]]
    exact ⟨rfl, ⟨vl, bs, H.out⟩, Fr.refl _ _ _⟩

theorem setAll_ok (h : TabRep κ w wi pt T) (n : Int) : Calls Try.prog 82 #[.pointer (some ⟨pt, 0, none⟩), .int .i64 n] w fun e w' => e = .returned (.tuple #[]) ∧ TabRep κ w' wi pt (T.setAll n) ∧ Fr κ (K.recs wi) w w' := by
  obtain ⟨vl, bs, h⟩ := h
  go_enter Try.func82, Try.ntmps82
  go_wp2_with fail
  refine (tab_at h n).mono ?_
  rintro e w' hh
  cases hh with
  | hit i b vn vi en hi hs hbs he =>
    have hc : w.cell? ⟨b, 7, none⟩ = some (.bool en.all) := by rw [cell_of_heap he.hb]; rfl
    have hz : w.frozen? ⟨b, 7, none⟩ = false := frozen_of_heap he.hb
    have HI := Lib.hid hi
    have HS := Lib.hid hs
    have HF := Lib.hid (h.store hs hbs he 7 (.bool true) (e' := { en with all := true }) rfl rfl)
    clear hi hs hbs he h
    go_wp2
    go_end0
    rw [show T.setAll n = T.put i { en with all := true } by simp only [TabS.setAll, HI.out, HS.out]]
    exact ⟨rfl, ⟨vl, bs, HF.out.1⟩, HF.out.2⟩
  | miss hi =>
    have HI := Lib.hid hi
    have H := Lib.hid h
    clear hi h
    go_wp2
    go_end0
    rw [show T.setAll n = T by simp only [TabS.setAll, HI.out]]
    exact ⟨rfl, ⟨vl, bs, H.out⟩, Fr.refl _ _ _⟩

theorem tlen_ok (h : TabRep κ w wi pt T) : Calls Try.prog 80 #[.pointer (some ⟨pt, 0, none⟩)] w fun e w' => e = .returned (.int .i64 T.ents.length) ∧ w' = w := by
  obtain ⟨vl, bs, h⟩ := h
  have h0 : w.cell? ⟨pt, 0, none⟩ = some vl := by rw [cell_of_heap h.hpt]; rfl
  obtain ⟨_, a, cap, rfl, _⟩ := h.own
  clear h
  go_enter Try.func80, Try.ntmps80
  go_wp2
  go_ret
  exact ⟨rfl, rfl⟩
end
end Go.Proofs.Ytacmeafpieoaaaa
