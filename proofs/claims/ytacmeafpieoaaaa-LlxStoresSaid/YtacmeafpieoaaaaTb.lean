/- The records' table as plain data, how it lies in memory; the contracts of its functions but Look and Make. -/
import Derived.Test.YtacmeafpieoaaaaNw
namespace Go.Proofs.Ytacmeafpieoaaaa
open Go.RowKit

structure RecS where
  nodes : List Int
  infos : List Int
  keep : Int
  way : Int
  old : Int
  new : Int
structure EntS where
  r : RecS
  state : Int
  all : Bool
structure TabS where
  ents : List EntS
  most : Int

def K.recs (wi : Nat) : K → Bool
  | .sh i p => i == wi && (p == 4 || p == 5)
  | .ent i _ => i == wi
  | _ => false

structure EntAt (κ : Nat → K) (w : World) (wi i b : Nat) (vn vi : Value) (e : EntS) : Prop where
  kb : κ b = .ent wi i
  hb : w.heap[b]? = some (.cells #[vn, vi, .int .i64 e.r.keep, .int .i64 e.r.way, .int .i64 e.r.old, .int .i64 e.r.new, .int .u8 e.state, .bool e.all] 203 (0, 0))
  rn : Row κ .imm w 1 vn e.r.nodes.length (intVs e.r.nodes)
  ri : Row κ .imm w 1 vi e.r.infos.length (intVs e.r.infos)
  sm : e.r.nodes.length ≤ 1048576 ∧ e.r.infos.length ≤ 1048576 ∧ 0 ≤ e.r.keep ∧ e.r.nodes.length = e.r.infos.length

def ptrVs (bs : List Nat) : List Value := bs.map fun b => .pointer (some ⟨b, 0, none⟩)

structure TabAt (κ : Nat → K) (w : World) (wi pt : Nat) (vl : Value) (bs : List Nat) (T : TabS) : Prop where
  kpt : κ pt = .sh wi 4
  hpt : w.heap[pt]? = some (.cells #[vl, .int .i64 T.most] 206 (0, 0))
  own : Own w 200 1 vl T.ents.length (ptrVs bs)
  kvl : ∀ g, blk vl = some g → κ g = .sh wi 5
  len : bs.length = T.ents.length
  ents : ∀ (i : Nat) e, T.ents[i]? = some e → ∃ b vn vi, bs[i]? = some b ∧ EntAt κ w wi i b vn vi e
  bound : (T.ents.length : Int) ≤ T.most ∧ T.most ≤ 65536

def TabRep (κ : Nat → K) (w : World) (wi pt : Nat) (T : TabS) : Prop := ∃ vl bs, TabAt κ w wi pt vl bs T

section
variable {κ κ' : Nat → K} {w w' : World} {wi pt : Nat} {vl : Value} {bs : List Nat} {T : TabS}

theorem EntAt.keep {i b : Nat} {vn vi : Value} {e : EntS} (h : EntAt κ w wi i b vn vi e) (hb : ∀ b, b < w.heap.size → κ b = .imm ∨ κ b = .ent wi i → w'.heap[b]? = w.heap[b]?) (hs : w.heap.size ≤ w'.heap.size) (he : Ext κ κ' w) : EntAt κ' w' wi i b vn vi e := by
  have hl := lt_of_heap h.hb
  exact ⟨(he b hl).trans h.kb, (hb b hl (.inr h.kb)).trans h.hb, h.rn.keep (fun b h1 h2 => hb b h1 (.inl h2)) hs he, h.ri.keep (fun b h1 h2 => hb b h1 (.inl h2)) hs he, h.sm⟩
theorem TabAt.keep (h : TabAt κ w wi pt vl bs T) (hb : ∀ b, b < w.heap.size → κ b = .imm ∨ (κ b).recs wi = true → w'.heap[b]? = w.heap[b]?) (hs : w.heap.size ≤ w'.heap.size) (he : Ext κ κ' w) : TabAt κ' w' wi pt vl bs T := by
  have hpl := lt_of_heap h.hpt
  refine ⟨(he pt hpl).trans h.kpt, (hb pt hpl (.inr (by simp [h.kpt, K.recs]))).trans h.hpt, h.own.move fun g hg => hb g (h.own.lt g hg) (.inr (by simp [h.kvl g hg, K.recs])), fun g hg => (he g (h.own.lt g hg)).trans (h.kvl g hg), h.len, ?_, h.bound⟩
  intro i e hi
  obtain ⟨b, vn, vi, h1, h2⟩ := h.ents i e hi
  exact ⟨b, vn, vi, h1, h2.keep (fun b h1 h2 => hb b h1 (by rcases h2 with h2 | h2; exact .inl h2; exact .inr (by simp [h2, K.recs]))) hs he⟩
theorem TabRep.keep (h : TabRep κ w wi pt T) (hb : ∀ b, b < w.heap.size → κ b = .imm ∨ (κ b).recs wi = true → w'.heap[b]? = w.heap[b]?) (hs : w.heap.size ≤ w'.heap.size) (he : Ext κ κ' w) : TabRep κ' w' wi pt T := by
  obtain ⟨vl, bs, h⟩ := h
  exact ⟨vl, bs, h.keep hb hs he⟩

theorem newTable_ok (wi : Nat) (hS : Sup κ w) (n : Int) (h0 : 0 ≤ n) (h1 : n ≤ 65536) : Calls Try.prog 137 #[.int .i64 n] w fun e w' =>
    ∃ κ' pt, e = .returned (.pointer (some ⟨pt, 0, none⟩)) ∧ TabRep κ' w' wi pt ⟨[], n⟩ ∧ Below w.heap.size w w' ∧ Ext κ κ' w ∧ Sup κ' w' := by
  have e0 : ¬ n < 0 := by omega
  have e1 : ¬ 65536 < n := by omega
  go_enter Try.func137, Try.ntmps137
  go_wp2
  go_ret
  refine ⟨upd κ w.heap.size (.sh wi 4), w.heap.size, rfl, ⟨.slice none 0 0, [], upd_at _ _ _, Laws.heap_new w _, Own.nil _ _ _, by simp [blk], by simp, by simp, ⟨by simpa using h0, h1⟩⟩,
    (Below.refl _ _).alloc (Nat.le_refl _) _, Ext.upd _ _ _ (Nat.le_refl _), hS.upd _ (by simp) (by simp)⟩

/-- Which entry a number names. -/
def TabS.idx (T : TabS) (n : Int) : Option Nat := if 1 ≤ n ∧ n ≤ (T.ents.length : Int) then some (n - 1).toNat else none
def TabS.get (T : TabS) (n : Int) : Option EntS := (T.idx n).bind fun i => T.ents[i]?
def TabS.put (T : TabS) (i : Nat) (e : EntS) : TabS := { T with ents := T.ents.set i e }

theorem TabS.idx_some {n : Int} {i : Nat} (h : T.idx n = some i) : n = (i : Int) + 1 ∧ i < T.ents.length := by
  unfold TabS.idx at h
  split at h
  · rename_i hh; simp only [Option.some.injEq] at h; omega
  · cases h

inductive TabEnd (κ : Nat → K) (w : World) (wi : Nat) (bs : List Nat) (T : TabS) (n : Int) : Ending → World → Prop
  | hit (i b : Nat) (vn vi : Value) (e : EntS) (hi : T.idx n = some i) (hs : T.ents[i]? = some e) (hbs : bs[i]? = some b) (he : EntAt κ w wi i b vn vi e) : TabEnd κ w wi bs T n (.returned (.pointer (some ⟨b, 0, none⟩))) w
  | miss (hi : T.idx n = none) : TabEnd κ w wi bs T n (.returned (.pointer none)) w

theorem tab_at (h : TabAt κ w wi pt vl bs T) (n : Int) : Calls Try.prog 135 #[.pointer (some ⟨pt, 0, none⟩), .int .i64 n] w (TabEnd κ w wi bs T n) := by
  have h0 : w.cell? ⟨pt, 0, none⟩ = some vl := by rw [cell_of_heap h.hpt]; rfl
  by_cases h1 : 1 ≤ n
  · have e1 : decide (n < 1) = false := by simp; omega
    by_cases h2 : n ≤ (T.ents.length : Int)
    · have e2 : decide ((T.ents.length : Int) < n) = false := by simp; omega
      obtain ⟨i, hi⟩ : ∃ i : Nat, n = (i : Int) + 1 := ⟨(n - 1).toNat, by omega⟩
      subst hi
      have hil : i < T.ents.length := by omega
      have hs : T.ents[i]? = some T.ents[i] := List.getElem?_eq_getElem hil
      obtain ⟨b, vn, vi, hbs, hen⟩ := h.ents i _ hs
      obtain ⟨g, o, cap, rfl, hle, hb, hg, hc, hz⟩ := h.own.at (by omega) (by decide)
      have hcn := hc i (.pointer (some ⟨b, 0, none⟩)) (by simp [ptrVs, hbs])
      have hw : wrap64 ((i : Int) + 1 - 1) = i := by have := h.bound; unfold wrap64; omega
      have E := Lib.hid (TabEnd.hit (κ := κ) (w := w) (wi := wi) (bs := bs) (T := T) (n := (i : Int) + 1) i b vn vi _ (by simp [TabS.idx]; omega) hs hbs hen)
      have hbd : T.ents.length ≤ 100000 := by have := h.bound; omega
      clear h hc hz hs hen hbs
      go_enter Try.func135, Try.ntmps135
      go_wp2
      go_ret
      exact E.out
    · have e2 : decide ((T.ents.length : Int) < n) = true := by simp; omega
      obtain ⟨_, a, cap, rfl, _⟩ := h.own
      clear h
      go_enter Try.func135, Try.ntmps135
      go_wp2
      go_ret
      exact .miss (by simp [TabS.idx]; omega)
  · have e1 : decide (n < 1) = true := by simp; omega
    clear h
    go_enter Try.func135, Try.ntmps135
    go_wp2
    go_ret
    exact .miss (by simp [TabS.idx]; omega)
end
end Go.Proofs.Ytacmeafpieoaaaa
