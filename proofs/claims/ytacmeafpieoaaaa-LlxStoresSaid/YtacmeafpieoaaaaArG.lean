/- What the arena's Alloc needs: rows that are read apart from the arena, a place taken anew or from the free ones, a slot that is filled. -/
import Derived.Test.YtacmeafpieoaaaaArF
namespace Go.Proofs.Ytacmeafpieoaaaa
open Go.RowKit

/-- A row that is read and lies in no block of the kinds in S. -/
def RowN (κ : Nat → K) (S : K → Bool) (w : World) (sz : Nat) (v : Value) (n : Nat) (cs : List Value) : Prop :=
  cs.length = n * sz ∧ ∃ a cap, v = .slice a n cap ∧ n ≤ cap ∧ (a = none → n = 0) ∧
    (n * sz = 0 ∨ ∃ g o, a = some ⟨g, o, none⟩ ∧ g < w.heap.size ∧ S (κ g) = false ∧ (∀ j u, cs[j]? = some u → w.cell? ⟨g, o + j, none⟩ = some u))

section
variable {κ κ' : Nat → K} {S S' : K → Bool} {w w' : World} {sz n : Nat} {v : Value} {cs : List Value}
theorem RowN.keep (h : RowN κ S w sz v n cs) (hf : Fr κ S w w') (he : Ext κ κ' w) : RowN κ' S w' sz v n cs := by
  obtain ⟨h1, a, cap, h2, h3, h3', h4⟩ := h
  refine ⟨h1, a, cap, h2, h3, h3', ?_⟩
  rcases h4 with h4 | ⟨g, o, rfl, hg, hk, hc⟩
  · exact .inl h4
  · have := hf.size
    exact .inr ⟨g, o, rfl, by omega, by rw [he g hg]; exact hk, fun j u hu => (hf.cell (a := ⟨g, o + j, none⟩) hg hk).trans (hc j u hu)⟩
theorem RowN.src {a : Option Addr} {cap : Nat} (h : RowN κ S w sz (.slice a n cap) n cs) : Src w sz a n cs := by
  obtain ⟨h1, a', cap', h2, h3, h3', h4⟩ := h
  simp only [Value.slice.injEq] at h2
  obtain ⟨rfl, _, rfl⟩ := h2
  refine ⟨h1, ?_⟩
  rcases h4 with h4 | ⟨g, o, rfl, hg, hk, hc⟩
  · exact .inl h4
  · exact .inr ⟨_, rfl, fun j u hu => by rw [Addr.add_lit]; exact hc j u hu⟩
theorem RowN.shape (h : RowN κ S w sz v n cs) : ∃ a cap, v = .slice a n cap ∧ n ≤ cap ∧ (a = none → n = 0) := by
  obtain ⟨h1, a, cap, h2, h3, h3', h4⟩ := h
  exact ⟨a, cap, h2, h3, h3'⟩
theorem RowN.at (h : RowN κ S w sz v n cs) (hn : 0 < n) (hsz : 0 < sz) : ∃ g o cap, v = .slice (some ⟨g, o, none⟩) n cap ∧ n ≤ cap ∧ g < w.heap.size ∧ S (κ g) = false ∧ (∀ j u, cs[j]? = some u → w.cell? ⟨g, o + j, none⟩ = some u) := by
  obtain ⟨h1, a, cap, h2, h3, h3', h4⟩ := h
  rcases h4 with h4 | ⟨g, o, rfl, hg, hk, hc⟩
  · rcases Nat.mul_eq_zero.1 h4 with h | h <;> omega
  · exact ⟨g, o, cap, h2, h3, hg, hk, hc⟩
theorem RowN.mono (h : RowN κ S w sz v n cs) (hs : ∀ k, S' k = true → S k = true) : RowN κ S' w sz v n cs := by
  obtain ⟨h1, a, cap, h2, h3, h3', h4⟩ := h
  refine ⟨h1, a, cap, h2, h3, h3', h4.imp id ?_⟩
  rintro ⟨g, o, ha, hg, hk, hc⟩
  refine ⟨g, o, ha, hg, ?_, hc⟩
  cases e : S' (κ g) with
  | false => rfl
  | true => rw [hs _ e] at hk; cases hk
theorem Row.toN {k : K} (h : Row κ k w sz v n cs) (hk : S k = false) : RowN κ S w sz v n cs := by
  obtain ⟨h1, a, cap, h2, h3, h3', h4⟩ := h
  refine ⟨h1, a, cap, h2, h3, h3', h4.imp id ?_⟩
  rintro ⟨g, o, ha, hg, hkg, hc, _⟩
  exact ⟨g, o, ha, hg, by rw [hkg]; exact hk, hc⟩
theorem RowN.nil (κ : Nat → K) (S : K → Bool) (w : World) (sz : Nat) : RowN κ S w sz (.slice none 0 0) 0 [] := ⟨by simp, none, 0, rfl, Nat.le_refl _, fun _ => rfl, .inl (by simp)⟩
end

/-- A node as a value whose rows lie apart from S. -/
def NodeN (κ : Nat → K) (S : K → Bool) (w : World) (v : Value) (n : NodeS) : Prop :=
  ∃ vp vk vw, v = .agg #[.bool n.inner, .bool n.tagged, vp, vk, vw] ∧ RowN κ S w 2 vp n.pairs.length (pairVs n.pairs) ∧ RowN κ S w 1 vk n.keys.length (intVs n.keys) ∧ RowN κ S w 1 vw n.ways.length (intVs n.ways)

theorem NodeV.toN {κ : Nat → K} {S : K → Bool} {w : World} {v : Value} {n : NodeS} {k : K} (h : NodeV κ k w v n) (hk : S k = false) : NodeN κ S w v n := by
  obtain ⟨vp, vk, vw, h1, h2, h3, h4⟩ := h
  exact ⟨vp, vk, vw, h1, h2.toN hk, h3.toN hk, h4.toN hk⟩

def zeroSlot : SlotS := ⟨NodeS.zero, [], 0, false, 0, false⟩
def zero10 : List Value := [.bool false, .bool false, .slice none 0 0, .slice none 0 0, .slice none 0 0, .slice none 0 0, .int .i64 0, .bool false, .int .u32 0, .bool false]

section
variable {κ κ' : Nat → K} {w w' : World} {wi pa : Nat} {vs vf : Value} {raw : List Value} {A : ArS}

theorem SlotV.append {i : Nat} {s : SlotS} {v2 v3 v4 v5 : Value} (h : SlotV κ w wi raw i s v2 v3 v4 v5) (l : List Value) (hl : i * 10 + 10 ≤ raw.length) : SlotV κ w wi (raw ++ l) i s v2 v3 v4 v5 :=
  ⟨by rw [List.getElem?_append_left (by omega)]; exact h.c0, by rw [List.getElem?_append_left (by omega)]; exact h.c1, by rw [List.getElem?_append_left (by omega)]; exact h.c2, by rw [List.getElem?_append_left (by omega)]; exact h.c3,
   by rw [List.getElem?_append_left (by omega)]; exact h.c4, by rw [List.getElem?_append_left (by omega)]; exact h.c5, by rw [List.getElem?_append_left (by omega)]; exact h.c6, by rw [List.getElem?_append_left (by omega)]; exact h.c7,
   by rw [List.getElem?_append_left (by omega)]; exact h.c8, by rw [List.getElem?_append_left (by omega)]; exact h.c9, h.r2, h.r3, h.r4, h.r5, h.sm⟩

/-- A zero slot behind the others; the slots' row is another one, perhaps. -/
theorem ArAt.grown (h : ArAt κ w wi pa vs vf raw A) (v' : Value) (hE : Ext κ κ' w) (hb : ∀ b, b < w.heap.size → b ≠ pa → κ b ≠ .sh wi 2 → κ b ≠ .none → w'.heap[b]? = w.heap[b]?) (hs : w.heap.size ≤ w'.heap.size)
    (hpa' : w'.heap[pa]? = some (.cells #[v', vf, .int .i64 A.most, .int .i64 A.used, .int .i64 A.faults] 154 (0, 0))) (ho : Own w' 167 10 v' (A.slots.length + 1) (raw ++ zero10)) (hk : ∀ g, blk v' = some g → κ' g = .sh wi 2) (hbd : A.slots.length < 65536) :
    ArAt κ' w' wi pa v' vf (raw ++ zero10) { A with slots := A.slots ++ [zeroSlot] } := by
  have hpl := lt_of_heap h.hpa
  have hrl := h.own.1
  refine ⟨(hE pa hpl).trans h.kpa, hpa', by simpa using ho, hk, ?_, h.fown.move fun g hg => ?_, fun g hg => (hE g (h.fown.lt g hg)).trans (h.kvf g hg), by simp; omega⟩
  · intro i s hi
    by_cases hlt : i < A.slots.length
    · simp only [List.getElem?_append_left hlt] at hi
      obtain ⟨v2, v3, v4, v5, hv⟩ := h.slots i s hi
      refine ⟨v2, v3, v4, v5, (hv.append zero10 (by omega)).keep (fun b h1 h2 => hb b h1 ?_ ?_ ?_) hs hE⟩
      · intro e; rw [e, h.kpa] at h2; rcases h2 with h2 | h2 <;> cases h2
      · intro e; rw [e] at h2; rcases h2 with h2 | h2 <;> cases h2
      · intro e; rw [e] at h2; rcases h2 with h2 | h2 <;> cases h2
    · have hie : i = A.slots.length := by
        have := (List.getElem?_eq_some_iff.1 hi).1
        simp at this; omega
      subst hie
      simp only [List.getElem?_concat_length, Option.some.injEq] at hi
      subst hi
      have e : ∀ k, k < 10 → (raw ++ zero10)[A.slots.length * 10 + k]? = zero10[k]? := fun k hk => by rw [List.getElem?_append_right (by omega)]; congr 1; omega
      have e0 : (raw ++ zero10)[A.slots.length * 10]? = zero10[0]? := e 0 (by decide)
      exact ⟨_, _, _, _, ⟨by rw [e0]; rfl, by rw [e 1 (by decide)]; rfl, by rw [e 2 (by decide)]; rfl, by rw [e 3 (by decide)]; rfl, by rw [e 4 (by decide)]; rfl, by rw [e 5 (by decide)]; rfl, by rw [e 6 (by decide)]; rfl, by rw [e 7 (by decide)]; rfl, by rw [e 8 (by decide)]; rfl, by rw [e 9 (by decide)]; rfl,
        Row.nil _ _ _ _, Row.nil _ _ _ _, Row.nil _ _ _ _, Row.nil _ _ _ _, by simp [zeroSlot, NodeS.zero]⟩⟩
  · have hkg := h.kvf g hg
    exact hb g (h.fown.lt g hg) (by intro e; rw [e, h.kpa] at hkg; cases hkg) (by rw [hkg]; intro e; cases e) (by rw [hkg]; intro e; cases e)

theorem Own.set' {e sz n g o cap : Nat} {cs : List Value} (h : Own w e sz (.slice (some ⟨g, o, none⟩) n cap) n cs) (x j : Nat) (hx : x = o + j) (hj : j < n * sz) (u : Value) :
    Own (w.setCell ⟨g, x, none⟩ u) e sz (.slice (some ⟨g, o, none⟩) n cap) n (cs.set j u) := by subst hx; exact h.set j hj u

/-- A slice without its first element. -/
theorem Own.tail {e sz n g o cap : Nat} {cs : List Value} (h : Own w e sz (.slice (some ⟨g, o, none⟩) (n + 1) cap) (n + 1) cs) (hc : cap ≠ 1) : Own w e sz (.slice (some ⟨g, o + sz, none⟩) n (cap - 1)) n (cs.drop sz) := by
  obtain ⟨h1, a, cap', h2, h3, h4, h5⟩ := h
  simp only [Value.slice.injEq] at h2
  obtain ⟨rfl, _, rfl⟩ := h2
  refine ⟨by simp [h1, Nat.add_mul], _, cap - 1, rfl, by omega, by omega, ?_⟩
  rcases h5 with h5 | ⟨g', o', cur, h6, hg, hcs, ht⟩
  · omega
  · simp only [Option.some.injEq, Addr.mk.injEq] at h6
    obtain ⟨rfl, rfl, _⟩ := h6
    refine .inr ⟨g, o + sz, cur, rfl, hg, ?_, ?_⟩
    · have : cap * sz = (cap - 1) * sz + sz := by
        obtain ⟨c, rfl⟩ : ∃ c, cap = c + 1 := ⟨cap - 1, by omega⟩
        simp [Nat.add_mul]
      omega
    · rw [← ht, ← List.drop_drop, List.drop_take, Nat.add_mul, Nat.one_mul, Nat.add_sub_cancel]
theorem blk_tail {n g o o' cap : Nat} (hc : cap ≠ 1) (hc0 : cap ≠ 0) : blk (.slice (some ⟨g, o', none⟩) n (cap - 1)) = blk (.slice (some ⟨g, o, none⟩) (n + 1) cap) := by
  simp [blk, hc0]; omega

/-- A slot is filled. -/
theorem ArAt.fill (h : ArAt κ w wi pa vs vf raw A) {i : Nat} {s s' : SlotS} {raw' : List Value} (hi : A.slots[i]? = some s) (used' : Int) (hE : Ext κ κ' w) (hb : ∀ b, b < w.heap.size → b ≠ pa → κ b ≠ .sh wi 2 → κ b ≠ .ways wi i → κ b ≠ .none → w'.heap[b]? = w.heap[b]?) (hs : w.heap.size ≤ w'.heap.size)
    (hpa' : w'.heap[pa]? = some (.cells #[vs, vf, .int .i64 A.most, .int .i64 used', .int .i64 A.faults] 154 (0, 0))) (ho : Own w' 167 10 vs A.slots.length raw') (hraw : ∀ j, (j < i * 10 ∨ i * 10 + 10 ≤ j) → raw'[j]? = raw[j]?)
    (hv : ∃ v2 v3 v4 v5, SlotV κ' w' wi raw' i s' v2 v3 v4 v5) : ArAt κ' w' wi pa vs vf raw' { A.put i s' with used := used' } := by
  have hpl := lt_of_heap h.hpa
  have hil := (List.getElem?_eq_some_iff.1 hi).1
  refine ⟨(hE pa hpl).trans h.kpa, hpa', by simpa [ArS.put] using ho, fun g hg => (hE g (h.own.lt g hg)).trans (h.kvs g hg), ?_, h.fown.move fun g hg => ?_, fun g hg => (hE g (h.fown.lt g hg)).trans (h.kvf g hg), by simpa [ArS.put] using h.bound⟩
  · intro j t hj
    by_cases hij : i = j
    · subst hij
      simp only [ArS.put, List.getElem?_set_self hil, Option.some.injEq] at hj
      subst hj
      exact hv
    · simp only [ArS.put, List.getElem?_set_ne hij] at hj
      obtain ⟨v2, v3, v4, v5, hh⟩ := h.slots j t hj
      have hh' := hh.keep (κ' := κ') (w' := w') (fun b h1 h2 => hb b h1 (by intro e; rw [e, h.kpa] at h2; rcases h2 with h2 | h2 <;> cases h2) (by intro e; rw [e] at h2; rcases h2 with h2 | h2 <;> cases h2)
        (by intro e; rw [e] at h2; rcases h2 with h2 | h2 <;> cases h2; exact hij rfl) (by intro e; rw [e] at h2; rcases h2 with h2 | h2 <;> cases h2)) hs hE
      exact ⟨v2, v3, v4, v5, ⟨by rw [hraw _ (by omega)]; exact hh'.c0, by rw [hraw _ (by omega)]; exact hh'.c1, by rw [hraw _ (by omega)]; exact hh'.c2, by rw [hraw _ (by omega)]; exact hh'.c3, by rw [hraw _ (by omega)]; exact hh'.c4, by rw [hraw _ (by omega)]; exact hh'.c5,
        by rw [hraw _ (by omega)]; exact hh'.c6, by rw [hraw _ (by omega)]; exact hh'.c7, by rw [hraw _ (by omega)]; exact hh'.c8, by rw [hraw _ (by omega)]; exact hh'.c9, hh'.r2, hh'.r3, hh'.r4, hh'.r5, hh'.sm⟩⟩
  · have hkg := h.kvf g hg
    exact hb g (h.fown.lt g hg) (by intro e; rw [e, h.kpa] at hkg; cases hkg) (by rw [hkg]; intro e; cases e) (by rw [hkg]; intro e; cases e) (by rw [hkg]; intro e; cases e)
end
end Go.Proofs.Ytacmeafpieoaaaa
