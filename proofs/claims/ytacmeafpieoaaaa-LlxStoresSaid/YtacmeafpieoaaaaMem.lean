/- A frame relation over kinds of blocks (which blocks a call may have changed), rows that are read, rows that are owned, and append to an owned row wherever it begins. -/
import Derived.Test.YtacmeafpieoaaaaBase
namespace Go.Proofs.Ytacmeafpieoaaaa
open Go.RowKit

/-- What a block is for. 'sh' numbers the single parts of a world, the others bear an index of their own. -/
inductive K where
  | none
  | imm
  | sh (wi part : Nat)
  | ways (wi i : Nat)
  | ent (wi i : Nat)
  | lim (wi i : Nat)
  | thr (j : Nat)
  | log (j : Nat)
  | own (j : Nat)
  deriving DecidableEq

/-- The kinds of a world's blocks that may change. -/
def K.ofW (wi : Nat) : K → Bool
  | .sh i _ => i == wi
  | .ways i _ => i == wi
  | .ent i _ => i == wi
  | .lim i _ => i == wi
  | _ => false

/-- Kinds of blocks that are there stay. -/
def Ext (κ κ' : Nat → K) (w : World) : Prop := ∀ b, b < w.heap.size → κ' b = κ b
/-- Blocks to come have no kind yet. -/
def Sup (κ : Nat → K) (w : World) : Prop := ∀ b, w.heap.size ≤ b → κ b = .none

theorem Ext.refl (κ : Nat → K) (w : World) : Ext κ κ w := fun _ _ => rfl
theorem Ext.trans {κ κ' κ'' : Nat → K} {w w' : World} (h : Ext κ κ' w) (h' : Ext κ' κ'' w') (hs : w.heap.size ≤ w'.heap.size) : Ext κ κ'' w :=
  fun b hb => (h' b (by omega)).trans (h b hb)
theorem Sup.mono {κ : Nat → K} {w w' : World} (h : Sup κ w) (hs : w.heap.size ≤ w'.heap.size) : Sup κ w' := fun b hb => h b (by omega)

def upd (κ : Nat → K) (b : Nat) (k : K) : Nat → K := fun c => if c = b then k else κ c
theorem upd_at (κ : Nat → K) (b : Nat) (k : K) : upd κ b k b = k := by simp [upd]
theorem upd_ne (κ : Nat → K) {b c : Nat} (k : K) (h : c ≠ b) : upd κ b k c = κ c := by simp [upd, h]
theorem Ext.upd (κ : Nat → K) (w : World) {b : Nat} (k : K) (h : w.heap.size ≤ b) : Ext κ (upd κ b k) w := fun c hc => upd_ne κ k (by omega)
theorem Sup.upd {κ : Nat → K} {w w' : World} (h : Sup κ w) {b : Nat} (k : K) (hb : b < w'.heap.size) (hs : w.heap.size ≤ w'.heap.size) : Sup (upd κ b k) w' :=
  fun c hc => by rw [upd_ne κ k (by omega)]; exact h c (by omega)

/-- Of what was there only blocks of the kinds in S may have changed. -/
structure Fr (κ : Nat → K) (S : K → Bool) (w w' : World) : Prop where
  os : w'.os = w.os
  tape : w'.tape = w.tape
  output : w'.output = w.output
  size : w.heap.size ≤ w'.heap.size
  block : ∀ b, b < w.heap.size → S (κ b) = false → w'.heap[b]? = w.heap[b]?

def K.never : K → Bool := fun _ => false

section
variable {κ κ' : Nat → K} {S : K → Bool} {w w' w'' : World}
theorem Fr.refl (κ : Nat → K) (S : K → Bool) (w : World) : Fr κ S w w := ⟨rfl, rfl, rfl, Nat.le_refl _, fun _ _ _ => rfl⟩
theorem Fr.trans (h : Fr κ S w w') (h' : Fr κ' S w' w'') (he : Ext κ κ' w) : Fr κ S w w'' :=
  ⟨h'.os.trans h.os, h'.tape.trans h.tape, h'.output.trans h.output, Nat.le_trans h.size h'.size, fun b hb hS =>
    (h'.block b (Nat.lt_of_lt_of_le hb h.size) (by rw [he b hb]; exact hS)).trans (h.block b hb hS)⟩
theorem Fr.trans0 (h : Fr κ S w w') (h' : Fr κ S w' w'') : Fr κ S w w'' := h.trans h' (Ext.refl κ w)
theorem Fr.mono {S' : K → Bool} (h : Fr κ S w w') (hs : ∀ k, S k = true → S' k = true) : Fr κ S' w w' :=
  ⟨h.os, h.tape, h.output, h.size, fun b hb hS => h.block b hb (by cases e : S (κ b) with | false => rfl | true => rw [hs _ e] at hS; cases hS)⟩
theorem Fr.below (h : Below w.heap.size w w') : Fr κ S w w' := ⟨h.os, h.tape, h.output, h.size, fun b hb _ => h.block b hb⟩
theorem Fr.toBelow (h : Fr κ K.never w w') : Below w.heap.size w w' := ⟨h.os, h.tape, h.output, h.size, fun b hb => h.block b hb rfl⟩
theorem Fr.setCell (p : Addr) (v : Value) (hp : S (κ p.block) = true) : Fr κ S w (w.setCell p v) :=
  ⟨rfl, rfl, rfl, by simp [World.setCell], fun b _ hS => Below.heap_setCell _ _ _ _ (by intro e; rw [e, hp] at hS; cases hS)⟩
theorem Fr.alloc (o : Obj) : Fr κ S w (w.alloc o) := .below ((Below.refl _ _).alloc (Nat.le_refl _) o)
theorem Fr.drew : Fr κ S w w.drew := .below (Below.refl _ _).drew
theorem Fr.heap (h : Fr κ S w w') {b : Nat} (hb : b < w.heap.size) (hS : S (κ b) = false) : w'.heap[b]? = w.heap[b]? := h.block b hb hS
theorem Fr.cell (h : Fr κ S w w') {a : Addr} (hb : a.block < w.heap.size) (hS : S (κ a.block) = false) : w'.cell? a = w.cell? a := World.cell?_of_block (h.block _ hb hS)
theorem Fr.frozen (h : Fr κ S w w') {a : Addr} (hb : a.block < w.heap.size) (hS : S (κ a.block) = false) : w'.frozen? a = w.frozen? a := World.frozen?_of_block (h.block _ hb hS)
end

theorem Laws.heap_new (w : World) (o : Obj) : (w.alloc o).heap[w.heap.size]? = some o := by
  show (w.heap.push o)[w.heap.size]? = some o
  simp
theorem lt_of_heap {w : World} {b : Nat} {o : Obj} (h : w.heap[b]? = some o) : b < w.heap.size := (Array.getElem?_eq_some_iff.1 h).1
theorem cell_of_heap {w : World} {b i : Nat} {cs : Array Value} {t : TypeId} {fr : Nat × Nat} (h : w.heap[b]? = some (.cells cs t fr)) : w.cell? ⟨b, i, none⟩ = cs[i]? := by simp [World.cell?, h]
theorem frozen_of_heap {w : World} {b i : Nat} {cs : Array Value} {t : TypeId} (h : w.heap[b]? = some (.cells cs t (0, 0))) : w.frozen? ⟨b, i, none⟩ = false := by simp [World.frozen?, h]
theorem heap_setCell_at {w : World} {b i : Nat} {cs : Array Value} {t : TypeId} {fr : Nat × Nat} (h : w.heap[b]? = some (.cells cs t fr)) (v : Value) :
    (w.setCell ⟨b, i, none⟩ v).heap[b]? = some (.cells (cs.setIfInBounds i v) t fr) := by
  have hlt := lt_of_heap h
  have hv : w.heap[b] = .cells cs t fr := (Array.getElem?_eq_some_iff.1 h).2
  simp only [World.setCell, Array.getElem?_modify, if_pos, h]
  simp

/-- A source of cells: n elements of so many cells each. -/
def Src (w : World) (sz : Nat) (ao : Option Addr) (n : Nat) (cs : List Value) : Prop :=
  cs.length = n * sz ∧ (n * sz = 0 ∨ ∃ ad, ao = some ad ∧ ∀ j u, cs[j]? = some u → w.cell? (ad.add j) = some u)

/-- The block in which a slice's row lies, if it has room for anything. -/
def blk : Value → Option Nat
  | .slice (some a) _ cap => if cap = 0 then none else some a.block
  | _ => none

/-- A row that is a call's own: it may be written and appended to. -/
def Own (w : World) (e sz : Nat) (v : Value) (n : Nat) (xs : List Value) : Prop :=
  xs.length = n * sz ∧ ∃ a cap, v = .slice a n cap ∧ n ≤ cap ∧ cap ≤ maxLen ∧
    (cap = 0 ∨ ∃ g o cur, a = some ⟨g, o, none⟩ ∧ w.heap[g]? = some (.cells cur e (0, 0)) ∧ cur.size = o + cap * sz ∧ (cur.toList.drop o).take (n * sz) = xs)

theorem Own.nil (w : World) (e sz : Nat) : Own w e sz (.slice none 0 0) 0 [] := ⟨by simp, none, 0, rfl, Nat.le_refl _, by simp [maxLen], .inl rfl⟩
theorem Own.empty (w : World) (e sz : Nat) (a : Option Addr) : Own w e sz (.slice a 0 0) 0 [] := ⟨by simp, a, 0, rfl, Nat.le_refl _, by simp [maxLen], .inl rfl⟩

theorem Own.move {w w' : World} {e sz : Nat} {v : Value} {n : Nat} {xs : List Value} (h : Own w e sz v n xs) (hm : ∀ g, blk v = some g → w'.heap[g]? = w.heap[g]?) : Own w' e sz v n xs := by
  obtain ⟨h1, a, cap, rfl, h2, h3, h4⟩ := h
  refine ⟨h1, a, cap, rfl, h2, h3, ?_⟩
  rcases h4 with h4 | ⟨g, o, cur, rfl, hg, h5⟩
  · exact .inl h4
  · by_cases hc : cap = 0
    · exact .inl hc
    · exact .inr ⟨g, o, cur, rfl, by rw [hm g (by simp [blk, hc])]; exact hg, h5⟩

theorem Own.lt {w : World} {e sz : Nat} {v : Value} {n : Nat} {xs : List Value} (h : Own w e sz v n xs) : ∀ g, blk v = some g → g < w.heap.size := by
  obtain ⟨h1, a, cap, rfl, h2, h3, h4⟩ := h
  intro g hg
  rcases h4 with h4 | ⟨g', o, cur, rfl, hg', h5⟩
  · subst h4; cases a <;> simp [blk] at hg
  · by_cases hc : cap = 0
    · simp [blk, hc] at hg
    · simp [blk, hc] at hg; subst hg; exact lt_of_heap hg'

/-- An owned row that isn't empty: its cells. -/
theorem Own.at {w : World} {e sz : Nat} {v : Value} {n : Nat} {xs : List Value} (h : Own w e sz v n xs) (hn : 0 < n) (hsz : 0 < sz) :
    ∃ g o cap, v = .slice (some ⟨g, o, none⟩) n cap ∧ n ≤ cap ∧ blk v = some g ∧ g < w.heap.size ∧ (∀ i u, xs[i]? = some u → w.cell? ⟨g, o + i, none⟩ = some u) ∧ (∀ i, w.frozen? ⟨g, i, none⟩ = false) := by
  obtain ⟨h1, a, cap, rfl, h2, h3, h4⟩ := h
  rcases h4 with h4 | ⟨g, o, cur, rfl, hg, h5, h6⟩
  · omega
  · refine ⟨g, o, cap, rfl, h2, by simp [blk]; omega, lt_of_heap hg, fun i u hu => ?_, fun i => frozen_of_heap hg⟩
    rw [cell_of_heap hg, ← h6] at *
    rw [List.getElem?_take] at hu
    split at hu
    · simpa [List.getElem?_drop] using hu
    · cases hu

/-- .. as a source. -/
theorem Own.src {w : World} {e sz : Nat} {a : Option Addr} {n cap : Nat} {xs : List Value} (h : Own w e sz (.slice a n cap) n xs) : Src w sz a n xs := by
  refine ⟨h.1, ?_⟩
  by_cases h0 : n * sz = 0
  · exact .inl h0
  · have hn : 0 < n := Nat.pos_of_ne_zero (by intro e; subst e; simp at h0)
    have hs : 0 < sz := Nat.pos_of_ne_zero (by intro e; subst e; simp at h0)
    obtain ⟨g, o, cap', hv, _, _, _, hc, _⟩ := h.at hn hs
    simp only [Value.slice.injEq] at hv
    obtain ⟨rfl, _, _⟩ := hv
    exact .inr ⟨_, rfl, fun j u hu => by rw [Addr.add_lit]; exact hc j u hu⟩

theorem run_firstCells_src {P : Program} {w : World} {sz : Nat} {ao : Option Addr} {n : Nat} {cs : List Value} (h : Src w sz ao n cs) (len cap : Nat) :
    (Builtin.firstCells sz n (.slice ao len cap)).run P w = .ok cs.toArray w := by
  obtain ⟨hl, h⟩ := h
  rcases h with h0 | ⟨ad, rfl, hc⟩
  · have : cs = [] := List.eq_nil_of_length_eq_zero (by omega)
    subst this
    cases ao with
    | none => rfl
    | some ad => simp only [Builtin.firstCells, h0]; rfl
  · exact run_firstCells_some w sz n ad len cap cs hl hc

theorem size_zeroCells' (z : Array Value) (n : Nat) : (Builtin.zeroCells z n).size = n * z.size := by simp [Builtin.zeroCells]

/-- append to an owned row: in place or into a new block. -/
theorem run_append_row {P : Program} (w : World) (t ty e : TypeId) (i : TypeInfo) (z : Value) (sz bytes : Nat) (ht : P.underlying t = some (.slice e)) (hi : P.info? e = some i) (hz : i.zero = some z)
    (hsize : i.size = sz) (hby : i.bytes = bytes) (hzs : z.cells.size = sz) (hsz : 0 < sz)
    (v : Value) (n : Nat) (xs : List Value) (hown : Own w e sz v n xs)
    (ao : Option Addr) (m c : Nat) (news : List Value) (hsrc : Src w sz ao m news) (h1 : ∀ u ∈ news, u.oneCell' = true)
    (h63 : n + m ≤ maxLen) (hbytes : (n + m) * bytes ≤ 140737488355328) :
    ∃ v' w', (Builtin.append_ #[t, t] ty #[v, .slice ao m c]).run P w = .ok v' w' ∧ Own w' e sz v' (n + m) (xs ++ news) ∧
      (blk v' = blk v ∨ blk v' = some w.heap.size) ∧ w'.os = w.os ∧ w'.tape = w.tape ∧ w'.output = w.output ∧ w.heap.size ≤ w'.heap.size ∧ (blk v' = some w.heap.size → w'.heap.size = w.heap.size + 1) ∧
      (∀ k, k < w.heap.size → blk v ≠ some k → w'.heap[k]? = w.heap[k]?) := by
  subst hsize
  subst hby
  have hf : ∀ w1 : World, w1.heap = w.heap → (Builtin.firstCells i.size m (.slice ao m c)).run P w1 = .ok news.toArray w1 := by
    intro w1 hw
    refine run_firstCells_src ⟨hsrc.1, ?_⟩ m c
    rcases hsrc.2 with h | ⟨ad, h, hc⟩
    · exact .inl h
    · exact .inr ⟨ad, h, fun j u hu => by have := hc j u hu; simpa [World.cell?, hw] using this⟩
  have hlen : (xs ++ news).length = (n + m) * i.size := by rw [List.length_append, hown.1, hsrc.1, Nat.add_mul]
  obtain ⟨hx, a, cap, rfl, hnc, hcm, h4⟩ := hown
  by_cases hroom : n + m ≤ cap
  · rcases h4 with h0 | ⟨g, o, cur, rfl, hg, hcs, htake⟩
    · have hn : n = 0 := by omega
      have hm : m = 0 := by omega
      subst h0; subst hn; subst hm
      have hx0 : xs = [] := List.eq_nil_of_length_eq_zero (by simpa using hx)
      have hn0 : news = [] := List.eq_nil_of_length_eq_zero (by simpa using hsrc.1)
      subst hx0; subst hn0
      refine ⟨.slice a 0 0, w, ?_, Own.empty w e i.size a, .inl rfl, rfl, rfl, rfl, Nat.le_refl _, ?_, fun _ _ _ => rfl⟩
      · have hf' := hf w rfl
        cases a with
        | none => simp [Builtin.append_, run_underlying ht, sizeOf, typeInfo, hi, Builtin.lenOf, hf']
        | some ad => simp [Builtin.append_, run_underlying ht, sizeOf, typeInfo, hi, Builtin.lenOf, hf', storeCells]
      · intro h; cases a <;> simp [blk] at h
    · have hfit : o + n * i.size + news.length ≤ cur.size := by rw [hsrc.1, hcs, Nat.add_assoc, ← Nat.add_mul]; exact Nat.add_le_add_left (Nat.mul_le_mul_right _ hroom) _
      have hf' := hf w rfl
      have hst := run_storeCells_at P g (o + n * i.size) e news 0 cur w hg (by simpa using hfit) h1
      simp only [Nat.add_zero] at hst
      refine ⟨.slice (some ⟨g, o, none⟩) (n + m) cap, w.setRow g (cur.toList.take (o + n * i.size) ++ news ++ cur.toList.drop (o + n * i.size + news.length)).toArray, ?_, ⟨hlen, some ⟨g, o, none⟩, cap, rfl, hroom, hcm, .inr ⟨g, o, _, rfl, setRow_heap w g cur _ e _ hg, ?_, ?_⟩⟩, .inl rfl, rfl, rfl, rfl, by simp [World.setRow], ?_, ?_⟩
      · simp [Builtin.append_, run_underlying ht, sizeOf, typeInfo, hi, Builtin.lenOf, hroom, hf', Addr.add_lit, hst]
      · simp only [List.size_toArray, List.length_append, List.length_take, List.length_drop, Array.length_toList]
        omega
      · have hc : cur.toList.take (o + n * i.size) = cur.toList.take o ++ xs := by
          rw [List.take_add, htake]
        rw [hc]
        have ho : (cur.toList.take o).length = o := by simp; omega
        simp only [List.append_assoc]
        rw [List.drop_append_of_le_length (by omega), List.drop_of_length_le (by omega), List.nil_append, ← List.append_assoc, ← hlen]
        exact List.take_left
      · intro hb
        by_cases hc0 : cap = 0
        · simp [blk, hc0] at hb
        · simp [blk, hc0] at hb
          have := lt_of_heap hg
          omega
      · intro k _ hk
        by_cases hc0 : cap = 0
        · have hn0 : news = [] := List.eq_nil_of_length_eq_zero (by rw [hsrc.1]; have : m = 0 := by omega
                                                                    subst this; simp)
          subst hn0
          simp only [List.append_nil, List.length_nil, Nat.add_zero, List.take_append_drop, Array.toArray_toList]
          rw [setRow_self w g cur e (0, 0) hg]
        · exact setRow_other w g k _ (fun e => hk (by simp [blk, hc0, e]))
  · have hold : Src w i.size a n xs := by
      refine ⟨hx, ?_⟩
      rcases h4 with h0 | ⟨g, o, cur, rfl, hg, hcs, htake⟩
      · exact .inl (by rw [show n = 0 by omega]; simp)
      · refine .inr ⟨_, rfl, fun j u hu => ?_⟩
        rw [Addr.add_lit, cell_of_heap hg]
        rw [← htake, List.getElem?_take] at hu
        split at hu
        · simpa [List.getElem?_drop] using hu
        · cases hu
    have hn : ¬ (n + m ≤ cap) := hroom
    have h63' : ¬ (9223372036854775807 < ((n : Int) + (m : Int))) := by simp only [maxLen] at h63; omega
    have hfit := growslice_fits (need := n + m) (old := cap) (by omega) hbytes
    have h48' : ¬ (281474976710656 < Builtin.nextslicecap (n + m) cap * i.bytes) := by omega
    have hf1 := hf w.drew rfl
    have hfo : (Builtin.firstCells i.size n (.slice a n cap)).run P w.drew = .ok xs.toArray w.drew := by
      refine run_firstCells_src ⟨hold.1, ?_⟩ n cap
      rcases hold.2 with h | ⟨ad, h, hc⟩
      · exact .inl h
      · exact .inr ⟨ad, h, fun j u hu => by simpa using hc j u hu⟩
    have hge := grownCap_ge w (n + m) cap e
    have hcm' : grownCap w (n + m) cap e ≤ maxLen := grownCap_le_maxLen w (n + m) cap e h63
    have hpos : grownCap w (n + m) cap e ≠ 0 := by omega
    refine ⟨.slice (some ⟨w.heap.size, 0, none⟩) (n + m) (grownCap w (n + m) cap e), w.drew.alloc (.cells (xs.toArray ++ news.toArray ++ Builtin.zeroCells z.cells (grownCap w (n + m) cap e - (n + m))) e), ?_,
      ⟨hlen, some ⟨w.heap.size, 0, none⟩, _, rfl, hge, hcm', .inr ⟨w.heap.size, 0, _, rfl, heap_alloc_new w.drew _, ?_, ?_⟩⟩, .inr (by simp [blk, hpos]), rfl, rfl, rfl, by simp, ?_, ?_⟩
    · simp [Builtin.append_, run_underlying ht, sizeOf, typeInfo, zeroValue, hi, hz, Builtin.lenOf, hn, h63', h48', Question.forced, hf1, hfo, newRow, grownCap]
      congr 2; apply Array.ext'; simp [List.append_assoc]
    · simp only [Array.size_append, List.size_toArray, size_zeroCells', hzs, hx, hsrc.1, ← Nat.add_mul, Nat.zero_add]
      congr 1
      omega
    · simp only [Array.toList_append, List.append_assoc, List.drop_zero]
      rw [← List.append_assoc, ← hlen]
      exact List.take_left
    · intro _; simp
    · intro k hk _
      exact Below.heap_alloc w.drew _ k hk

/-- What an append to an owned row leaves. -/
structure Apd (w w' : World) (e sz : Nat) (v v' : Value) (n : Nat) (xs : List Value) : Prop where
  own : Own w' e sz v' n xs
  at_ : blk v' = blk v ∨ blk v' = some w.heap.size
  os : w'.os = w.os
  tape : w'.tape = w.tape
  output : w'.output = w.output
  size : w.heap.size ≤ w'.heap.size
  new : blk v' = some w.heap.size → w'.heap.size = w.heap.size + 1
  block : ∀ k, k < w.heap.size → blk v ≠ some k → w'.heap[k]? = w.heap[k]?

/-- .. for the walk. -/
theorem wpList_append_row {P : Program} {w : World} {ops : Array Oper} {rest : List Oper} {o : Oper} {a : Act} {Q : Exit → Act → World → Prop} (hgd : o.guard = none) (s x : Operand) (t : TypeId)
    (ho : o.op = .call { callee := .builtin .append, args := #[s, x], argTypes := #[t, t] })
    (e : TypeId) (i : TypeInfo) (z : Value) (sz bytes : Nat) (ht : P.underlying t = some (.slice e)) (hi : P.info? e = some i) (hz : i.zero = some z)
    (hsize : i.size = sz) (hby : i.bytes = bytes) (hzs : z.cells.size = sz) (hsz : 0 < sz)
    (v : Value) (n : Nat) (xs : List Value) (hs : a.eval s = v) (hown : Own w e sz v n xs)
    (ao : Option Addr) (m c : Nat) (news : List Value) (hx : a.eval x = .slice ao m c) (hsrc : Src w sz ao m news) (h1 : ∀ u ∈ news, u.oneCell' = true)
    (h63 : n + m ≤ maxLen) (hbytes : (n + m) * bytes ≤ 140737488355328)
    (h : ∀ v' w', Apd w w' e sz v v' (n + m) (xs ++ news) → wpList P ops Q rest (a.put o.dst v') w') : wpList P ops Q (o :: rest) a w := by
  refine wpList_plain hgd fun K hK => ?_
  obtain ⟨v', w', hr, h2, h3, h4, h5, h6, h7, h8, h9⟩ := run_append_row (P := P) w t o.type e i z sz bytes ht hi hz hsize hby hzs hsz v n xs hown ao m c news hsrc h1 h63 hbytes
  unfold Oper.wp execOp
  simp only [ho, resolve, invoke, builtin, Sem.run_bind, Sem.run_pure, Result.andThen_ok, List.map_toArray, List.map_cons, List.map_nil, hs, hx, hr]
  exact hK _ _ (h v' w' ⟨h2, h3, h4, h5, h6, h7, h8, h9⟩)

theorem wp_append_row {P : Program} {w : World} {o : Oper} {a : Act} {K : Act → World → Prop} {Q : Exit → Act → World → Prop} (s x : Operand) (t : TypeId)
    (ho : o.op = .call { callee := .builtin .append, args := #[s, x], argTypes := #[t, t] })
    (e : TypeId) (i : TypeInfo) (z : Value) (sz bytes : Nat) (ht : P.underlying t = some (.slice e)) (hi : P.info? e = some i) (hz : i.zero = some z)
    (hsize : i.size = sz) (hby : i.bytes = bytes) (hzs : z.cells.size = sz) (hsz : 0 < sz)
    (v : Value) (n : Nat) (xs : List Value) (hs : a.eval s = v) (hown : Own w e sz v n xs)
    (ao : Option Addr) (m c : Nat) (news : List Value) (hx : a.eval x = .slice ao m c) (hsrc : Src w sz ao m news) (h1 : ∀ u ∈ news, u.oneCell' = true)
    (h63 : n + m ≤ maxLen) (hbytes : (n + m) * bytes ≤ 140737488355328)
    (h : ∀ v' w', Apd w w' e sz v v' (n + m) (xs ++ news) → K (a.put o.dst v') w') : o.wp P a w K Q := by
  obtain ⟨v', w', hr, h2, h3, h4, h5, h6, h7, h8, h9⟩ := run_append_row (P := P) w t o.type e i z sz bytes ht hi hz hsize hby hzs hsz v n xs hown ao m c news hsrc h1 h63 hbytes
  unfold Oper.wp execOp
  simp only [ho, resolve, invoke, builtin, Sem.run_bind, Sem.run_pure, Result.andThen_ok, List.map_toArray, List.map_cons, List.map_nil, hs, hx, hr]
  exact h v' w' ⟨h2, h3, h4, h5, h6, h7, h8, h9⟩

/-- The kinds behind an append: the row keeps its own. -/
theorem Apd.kind {κ : Nat → K} {w w' : World} {e sz : Nat} {v v' : Value} {n : Nat} {xs : List Value} (h : Apd w w' e sz v v' n xs) (hs : Sup κ w) (k : K) (hk : ∀ g, blk v = some g → κ g = k) :
    ∃ κ', Ext κ κ' w ∧ Sup κ' w' ∧ (∀ g, blk v' = some g → κ' g = k) := by
  by_cases hn : blk v' = some w.heap.size
  · have hz := h.new hn
    refine ⟨upd κ w.heap.size k, Ext.upd κ w k (Nat.le_refl _), Sup.upd hs k (by omega) (by omega), fun g hg => ?_⟩
    rw [hn] at hg
    cases hg
    exact upd_at _ _ _
  · refine ⟨κ, Ext.refl _ _, hs.mono h.size, fun g hg => ?_⟩
    rcases h.at_ with e | e
    · exact hk g (e ▸ hg)
    · exact absurd e hn
theorem Apd.fr {κ : Nat → K} {S : K → Bool} {w w' : World} {e sz : Nat} {v v' : Value} {n : Nat} {xs : List Value} (h : Apd w w' e sz v v' n xs) (hk : ∀ g, blk v = some g → S (κ g) = true) : Fr κ S w w' :=
  ⟨h.os, h.tape, h.output, h.size, fun b hb hS => h.block b hb (fun e => by rw [hk b e] at hS; cases hS)⟩

/-- Each value is one cell. -/
def OneCells (cs : List Value) : Prop := ∀ u ∈ cs, u.oneCell' = true

theorem Src.move {w w' : World} {sz : Nat} {ao : Option Addr} {n : Nat} {cs : List Value} (h : Src w sz ao n cs) (hb : Below w.heap.size w w') : Src w' sz ao n cs := by
  refine ⟨h.1, ?_⟩
  rcases h.2 with h0 | ⟨ad, h1, hc⟩
  · exact .inl h0
  · exact .inr ⟨ad, h1, fun j u hu => by
      have := hc j u hu
      rw [World.cell?_of_block (hb.block _ (World.block_lt_of_cell? w _ this))]; exact this⟩

theorem Apd.below {w w' : World} {e sz : Nat} {v v' : Value} {n : Nat} {xs : List Value} (h : Apd w w' e sz v v' n xs) {B : Nat} (hB : B ≤ w.heap.size) (hv : ∀ g, blk v = some g → B ≤ g) : Below B w w' :=
  ⟨h.os, h.tape, h.output, h.size, fun k hk => h.block k (by omega) (fun e => by have := hv k e; omega)⟩

/-- A result that is a row of the call's own: its block is new. -/
structure Fresh (w w' : World) (e sz : Nat) (v' : Value) (n : Nat) (cs : List Value) : Prop where
  own : Own w' e sz v' n cs
  new : ∀ g, blk v' = some g → w.heap.size ≤ g
  below : Below w.heap.size w w'

end Go.Proofs.Ytacmeafpieoaaaa
