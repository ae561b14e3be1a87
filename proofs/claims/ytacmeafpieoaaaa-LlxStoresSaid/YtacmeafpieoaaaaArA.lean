/- The arena as plain data, how it lies in memory, and how that is kept. -/
import Derived.Test.YtacmeafpieoaaaaClone
namespace Go.Proofs.Ytacmeafpieoaaaa
open Go.RowKit

structure NodeS where
  inner : Bool
  tagged : Bool
  pairs : List (Int × Int)
  keys : List Int
  ways : List Int
structure SlotS where
  node : NodeS
  ways : List Int
  info : Int
  mark : Bool
  count : Int
  used : Bool
structure ArS where
  slots : List SlotS
  free : List Nat
  most : Int
  used : Int
  faults : Int

def NodeS.zero : NodeS := ⟨false, false, [], [], []⟩
def intVs (l : List Int) : List Value := l.map (Value.int .i64)
def pairVs (l : List (Int × Int)) : List Value := l.flatMap fun p => [.int .i64 p.1, .int .i64 p.2]

theorem intVs_len (l : List Int) : (intVs l).length = l.length * 1 := by simp [intVs]
theorem pairVs_len (l : List (Int × Int)) : (pairVs l).length = l.length * 2 := by
  induction l with
  | nil => rfl
  | cons p l ih => simp only [pairVs, List.flatMap_cons, List.length_append, List.length_cons, List.length_nil] at *; omega
theorem intVs_one (l : List Int) : OneCells (intVs l) := by
  intro u hu
  obtain ⟨x, _, rfl⟩ := List.mem_map.1 hu
  rfl
theorem pairVs_one (l : List (Int × Int)) : OneCells (pairVs l) := by
  intro u hu
  obtain ⟨p, _, hp⟩ := List.mem_flatMap.1 hu
  simp only [List.mem_cons, List.not_mem_nil, or_false] at hp
  rcases hp with rfl | rfl <;> rfl
theorem intVs_get (l : List Int) (i : Nat) : (intVs l)[i]? = (l[i]?).map (Value.int .i64) := by simp [intVs]
theorem pairVs_get (l : List (Int × Int)) : ∀ (i : Nat) (p : Int × Int), l[i]? = some p → (pairVs l)[i * 2]? = some (.int .i64 p.1) ∧ (pairVs l)[i * 2 + 1]? = some (.int .i64 p.2) := by
  induction l with
  | nil => intro i p h; simp at h
  | cons q l ih =>
    intro i p h
    cases i with
    | zero => simp at h; subst h; simp [pairVs]
    | succ i =>
      have := ih i p (by simpa using h)
      have e : pairVs (q :: l) = .int .i64 q.1 :: .int .i64 q.2 :: pairVs l := by simp [pairVs]
      rw [e, show (i + 1) * 2 = i * 2 + 1 + 1 by omega]
      simpa using this

/-- A row that is read; it lies in a block of one kind. -/
def Row (κ : Nat → K) (k : K) (w : World) (sz : Nat) (v : Value) (n : Nat) (cs : List Value) : Prop :=
  cs.length = n * sz ∧ ∃ a cap, v = .slice a n cap ∧ n ≤ cap ∧ (a = none → n = 0) ∧
    (n * sz = 0 ∨ ∃ g o, a = some ⟨g, o, none⟩ ∧ g < w.heap.size ∧ κ g = k ∧ (∀ j u, cs[j]? = some u → w.cell? ⟨g, o + j, none⟩ = some u) ∧ ∀ j, w.frozen? ⟨g, j, none⟩ = false)

section
variable {κ κ' : Nat → K} {k : K} {w w' : World} {sz n : Nat} {v : Value} {cs : List Value}
theorem Row.keep (h : Row κ k w sz v n cs) (hb : ∀ b, b < w.heap.size → κ b = k → w'.heap[b]? = w.heap[b]?) (hs : w.heap.size ≤ w'.heap.size) (he : Ext κ κ' w) : Row κ' k w' sz v n cs := by
  obtain ⟨h1, a, cap, h2, h3, h3', h4⟩ := h
  refine ⟨h1, a, cap, h2, h3, h3', ?_⟩
  rcases h4 with h4 | ⟨g, o, rfl, hg, hk, hc, hf⟩
  · exact .inl h4
  · exact .inr ⟨g, o, rfl, by omega, (he g hg).trans hk, fun j u hu => (World.cell?_of_block (hb g hg hk)).trans (hc j u hu), fun j => (World.frozen?_of_block (hb g hg hk)).trans (hf j)⟩
theorem Row.src {a : Option Addr} {cap : Nat} (h : Row κ k w sz (.slice a n cap) n cs) : Src w sz a n cs := by
  obtain ⟨h1, a', cap', h2, h3, h3', h4⟩ := h
  simp only [Value.slice.injEq] at h2
  obtain ⟨rfl, _, rfl⟩ := h2
  refine ⟨h1, ?_⟩
  rcases h4 with h4 | ⟨g, o, rfl, hg, hk, hc, hf⟩
  · exact .inl h4
  · exact .inr ⟨_, rfl, fun j u hu => by rw [Addr.add_lit]; exact hc j u hu⟩
theorem Row.shape (h : Row κ k w sz v n cs) : ∃ a cap, v = .slice a n cap ∧ n ≤ cap ∧ (a = none → n = 0) := by
  obtain ⟨h1, a, cap, h2, h3, h3', h4⟩ := h
  exact ⟨a, cap, h2, h3, h3'⟩
/-- Where it has elements, its cells. -/
theorem Row.at (h : Row κ k w sz v n cs) (hn : 0 < n) (hsz : 0 < sz) : ∃ g o cap, v = .slice (some ⟨g, o, none⟩) n cap ∧ n ≤ cap ∧ g < w.heap.size ∧ κ g = k ∧ (∀ j u, cs[j]? = some u → w.cell? ⟨g, o + j, none⟩ = some u) ∧ ∀ j, w.frozen? ⟨g, j, none⟩ = false := by
  obtain ⟨h1, a, cap, h2, h3, h3', h4⟩ := h
  rcases h4 with h4 | ⟨g, o, rfl, hg, hk, hc, hf⟩
  · rcases Nat.mul_eq_zero.1 h4 with h | h <;> omega
  · exact ⟨g, o, cap, h2, h3, hg, hk, hc, hf⟩
/-- A new row of the call's own, given a kind. -/
theorem Row.ofOwn {e : TypeId} (h : Own w e sz v n cs) (hk : ∀ g, blk v = some g → κ g = k) (hno : ∀ a m c, v = .slice a m c → a = none → m = 0) : Row κ k w sz v n cs := by
  obtain ⟨h1, a, cap, h2, h3, h4, h5⟩ := h
  refine ⟨h1, a, cap, h2, h3, fun h => hno a n cap h2 h, ?_⟩
  by_cases h0 : n * sz = 0
  · exact .inl h0
  · rcases h5 with h5 | ⟨g, o, cur, rfl, hg, hc, ht⟩
    · exact .inl (by rw [show n = 0 by omega]; simp)
    · have hn : n ≠ 0 := fun e => h0 (by rw [e]; simp)
      refine .inr ⟨g, o, rfl, lt_of_heap hg, hk g (by subst h2; simp [blk]; omega), fun j u hu => ?_, fun j => frozen_of_heap hg⟩
      rw [cell_of_heap hg]
      rw [← ht, List.getElem?_take] at hu
      split at hu
      · simpa [List.getElem?_drop] using hu
      · cases hu
end

theorem Own.noneEmpty {w : World} {e sz n : Nat} {v : Value} {cs : List Value} (h : Own w e sz v n cs) : ∀ a m c, v = .slice a m c → a = none → m = 0 := by
  obtain ⟨h1, a, cap, rfl, h3, h4, h5⟩ := h
  intro a' m c hv ha
  simp only [Value.slice.injEq] at hv
  obtain ⟨rfl, rfl, rfl⟩ := hv
  subst ha
  rcases h5 with h5 | ⟨g, o, cur, h6, _⟩
  · omega
  · cases h6

/-- One cell of an owned row is stored into. -/
theorem Own.set {w : World} {e sz n g o cap : Nat} {cs : List Value} (h : Own w e sz (.slice (some ⟨g, o, none⟩) n cap) n cs) (j : Nat) (hj : j < n * sz) (u : Value) :
    Own (w.setCell ⟨g, o + j, none⟩ u) e sz (.slice (some ⟨g, o, none⟩) n cap) n (cs.set j u) := by
  obtain ⟨h1, a, cap', h2, h3, h4, h5⟩ := h
  simp only [Value.slice.injEq] at h2
  obtain ⟨rfl, _, rfl⟩ := h2
  refine ⟨by simpa using h1, _, cap, rfl, h3, h4, ?_⟩
  rcases h5 with h5 | ⟨g', o', cur, h6, hg, hc, ht⟩
  · exact .inl h5
  · simp only [Option.some.injEq, Addr.mk.injEq] at h6
    obtain ⟨rfl, rfl, _⟩ := h6
    refine .inr ⟨g, o, cur.setIfInBounds (o + j) u, rfl, heap_setCell_at hg u, by simpa using hc, ?_⟩
    rw [← ht]
    apply List.ext_getElem?
    intro i
    simp only [Array.toList_setIfInBounds, List.getElem?_take, List.getElem?_drop, List.getElem?_set, List.length_take, List.length_drop, List.length_set, Array.length_toList]
    have hle : n * sz ≤ cap * sz := Nat.mul_le_mul_right _ h3
    by_cases hi : i < n * sz
    · simp only [hi, if_true]
      by_cases hij : j = i
      · subst hij
        simp only [if_true]
        rw [if_pos (by omega), if_pos (by omega)]
      · rw [if_neg (by omega), if_neg hij]
    · simp only [hi, if_false]
      rw [if_neg (by omega)]

/-- The kinds of an arena's blocks. -/
def K.arena (wi : Nat) : K → Bool
  | .sh i p => i == wi && (p == 1 || p == 2 || p == 3)
  | .ways i _ => i == wi
  | _ => false

structure SlotV (κ : Nat → K) (w : World) (wi : Nat) (raw : List Value) (i : Nat) (s : SlotS) (v2 v3 v4 v5 : Value) : Prop where
  c0 : raw[i * 10]? = some (.bool s.node.inner)
  c1 : raw[i * 10 + 1]? = some (.bool s.node.tagged)
  c2 : raw[i * 10 + 2]? = some v2
  c3 : raw[i * 10 + 3]? = some v3
  c4 : raw[i * 10 + 4]? = some v4
  c5 : raw[i * 10 + 5]? = some v5
  c6 : raw[i * 10 + 6]? = some (.int .i64 s.info)
  c7 : raw[i * 10 + 7]? = some (.bool s.mark)
  c8 : raw[i * 10 + 8]? = some (.int .u32 s.count)
  c9 : raw[i * 10 + 9]? = some (.bool s.used)
  r2 : Row κ .imm w 2 v2 s.node.pairs.length (pairVs s.node.pairs)
  r3 : Row κ .imm w 1 v3 s.node.keys.length (intVs s.node.keys)
  r4 : Row κ .imm w 1 v4 s.node.ways.length (intVs s.node.ways)
  r5 : Row κ (.ways wi i) w 1 v5 s.ways.length (intVs s.ways)
  sm : s.node.pairs.length ≤ 1048576 ∧ s.node.keys.length ≤ 1048576 ∧ s.node.ways.length ≤ 1048576 ∧ s.ways.length ≤ 1048576

structure ArAt (κ : Nat → K) (w : World) (wi pa : Nat) (vs vf : Value) (raw : List Value) (A : ArS) : Prop where
  kpa : κ pa = .sh wi 1
  hpa : w.heap[pa]? = some (.cells #[vs, vf, .int .i64 A.most, .int .i64 A.used, .int .i64 A.faults] 154 (0, 0))
  own : Own w 167 10 vs A.slots.length raw
  kvs : ∀ g, blk vs = some g → κ g = .sh wi 2
  slots : ∀ (i : Nat) s, A.slots[i]? = some s → ∃ v2 v3 v4 v5, SlotV κ w wi raw i s v2 v3 v4 v5
  fown : Own w 3 1 vf A.free.length (A.free.map fun p : Nat => Value.int .i64 (p : Int))
  kvf : ∀ g, blk vf = some g → κ g = .sh wi 3
  bound : A.slots.length ≤ 65536

def ArRep (κ : Nat → K) (w : World) (wi pa : Nat) (A : ArS) : Prop := ∃ vs vf raw, ArAt κ w wi pa vs vf raw A

section
variable {κ κ' : Nat → K} {w w' : World} {wi pa : Nat} {vs vf : Value} {raw : List Value} {A : ArS}

theorem SlotV.keep {i : Nat} {s : SlotS} {v2 v3 v4 v5 : Value} (h : SlotV κ w wi raw i s v2 v3 v4 v5) (hb : ∀ b, b < w.heap.size → κ b = .imm ∨ κ b = .ways wi i → w'.heap[b]? = w.heap[b]?) (hs : w.heap.size ≤ w'.heap.size) (he : Ext κ κ' w) :
    SlotV κ' w' wi raw i s v2 v3 v4 v5 :=
  ⟨h.c0, h.c1, h.c2, h.c3, h.c4, h.c5, h.c6, h.c7, h.c8, h.c9, h.r2.keep (fun b h1 h2 => hb b h1 (.inl h2)) hs he, h.r3.keep (fun b h1 h2 => hb b h1 (.inl h2)) hs he, h.r4.keep (fun b h1 h2 => hb b h1 (.inl h2)) hs he, h.r5.keep (fun b h1 h2 => hb b h1 (.inr h2)) hs he, h.sm⟩

theorem ArAt.keep (h : ArAt κ w wi pa vs vf raw A) (hb : ∀ b, b < w.heap.size → κ b = .imm ∨ (κ b).arena wi = true → w'.heap[b]? = w.heap[b]?) (hs : w.heap.size ≤ w'.heap.size) (he : Ext κ κ' w) : ArAt κ' w' wi pa vs vf raw A := by
  have hpl := lt_of_heap h.hpa
  refine ⟨(he pa hpl).trans h.kpa, (hb pa hpl (.inr (by simp [h.kpa, K.arena]))).trans h.hpa, h.own.move fun g hg => hb g (h.own.lt g hg) (.inr (by simp [h.kvs g hg, K.arena])), fun g hg => (he g (h.own.lt g hg)).trans (h.kvs g hg), ?_,
    h.fown.move fun g hg => hb g (h.fown.lt g hg) (.inr (by simp [h.kvf g hg, K.arena])), fun g hg => (he g (h.fown.lt g hg)).trans (h.kvf g hg), h.bound⟩
  intro i s hi
  obtain ⟨v2, v3, v4, v5, hv⟩ := h.slots i s hi
  exact ⟨v2, v3, v4, v5, hv.keep (fun b h1 h2 => hb b h1 (by rcases h2 with h2 | h2; exact .inl h2; exact .inr (by simp [h2, K.arena]))) hs he⟩

theorem ArRep.keep (h : ArRep κ w wi pa A) (hb : ∀ b, b < w.heap.size → κ b = .imm ∨ (κ b).arena wi = true → w'.heap[b]? = w.heap[b]?) (hs : w.heap.size ≤ w'.heap.size) (he : Ext κ κ' w) : ArRep κ' w' wi pa A := by
  obtain ⟨vs, vf, raw, h⟩ := h
  exact ⟨vs, vf, raw, h.keep hb hs he⟩
end

/-- The place that a reference names, if it is that node's. -/
def ArS.idx (A : ArS) (r : Int) : Option Nat :=
  if 0 ≤ placeOf r then
    match A.slots[(placeOf r).toNat]? with
    | some s => if s.used = true ∧ refOf (placeOf r) s.count = r then some (placeOf r).toNat else none
    | none => none
  else none
def ArS.fault (A : ArS) : ArS := { A with faults := wrap64 (A.faults + 1) }
def ArS.get (A : ArS) (r : Int) : Option SlotS := (A.idx r).bind fun i => A.slots[i]?
def ArS.put (A : ArS) (i : Nat) (s : SlotS) : ArS := { A with slots := A.slots.set i s }

theorem ArS.idx_some {A : ArS} {r : Int} {i : Nat} (h : A.idx r = some i) : ∃ s, A.slots[i]? = some s ∧ s.used = true ∧ placeOf r = (i : Int) ∧ refOf i s.count = r ∧ i < A.slots.length := by
  unfold ArS.idx at h
  split at h
  · rename_i h0
    split at h
    · rename_i s hs
      split at h
      · rename_i hu
        simp only [Option.some.injEq] at h
        subst h
        refine ⟨s, hs, hu.1, by omega, ?_, (List.getElem?_eq_some_iff.1 hs).1⟩
        rw [show (((placeOf r).toNat : Nat) : Int) = placeOf r by omega]
        exact hu.2
      · cases h
    · cases h
  · cases h

end Go.Proofs.Ytacmeafpieoaaaa
