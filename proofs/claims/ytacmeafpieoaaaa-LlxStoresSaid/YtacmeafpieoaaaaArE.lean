/- The arena's Look: a copy of a node in rows of its own. -/
import Derived.Test.YtacmeafpieoaaaaArD
import Derived.Test.YtacmeafpieoaaaaMask
namespace Go.Proofs.Ytacmeafpieoaaaa
open Go.RowKit

theorem bcell {W w1 : World} (hb : Below W.heap.size W w1) : (∀ b o, b < W.heap.size → w1.cell? ⟨b, o, none⟩ = W.cell? ⟨b, o, none⟩) ∧ (∀ b o, b < W.heap.size → w1.frozen? ⟨b, o, none⟩ = W.frozen? ⟨b, o, none⟩) :=
  ⟨fun b o h => hb.cell (p := ⟨b, o, none⟩) h, fun b o h => hb.frozen (p := ⟨b, o, none⟩) h⟩

/-- Some new blocks become immutable. -/
def imms (κ : Nat → K) (l : List (Option Nat)) : Nat → K := fun b => if some b ∈ l then .imm else κ b
theorem imms_ext {κ : Nat → K} {l : List (Option Nat)} {w : World} (hl : ∀ g, some g ∈ l → w.heap.size ≤ g) : Ext κ (imms κ l) w := fun b hb => by
  unfold imms
  rw [if_neg (fun h => by have := hl b h; omega)]
theorem imms_sup {κ : Nat → K} {l : List (Option Nat)} {w w' : World} (hs : Sup κ w) (hw : w.heap.size ≤ w'.heap.size) (hl : ∀ g, some g ∈ l → g < w'.heap.size) : Sup (imms κ l) w' := fun b hb => by
  unfold imms
  rw [if_neg (fun h => by have := hl b h; omega)]
  exact hs b (by omega)
theorem imms_at {κ : Nat → K} {l : List (Option Nat)} {g : Nat} (h : some g ∈ l) : imms κ l g = .imm := by simp [imms, h]

/-- A node as a value. -/
def NodeV (κ : Nat → K) (k : K) (w : World) (v : Value) (n : NodeS) : Prop :=
  ∃ vp vk vw, v = .agg #[.bool n.inner, .bool n.tagged, vp, vk, vw] ∧ Row κ k w 2 vp n.pairs.length (pairVs n.pairs) ∧ Row κ k w 1 vk n.keys.length (intVs n.keys) ∧ Row κ k w 1 vw n.ways.length (intVs n.ways)

theorem NodeV.keep {κ κ' : Nat → K} {k : K} {w w' : World} {v : Value} {n : NodeS} (h : NodeV κ k w v n) (hb : ∀ b, b < w.heap.size → κ b = k → w'.heap[b]? = w.heap[b]?) (hs : w.heap.size ≤ w'.heap.size) (he : Ext κ κ' w) : NodeV κ' k w' v n := by
  obtain ⟨vp, vk, vw, h1, h2, h3, h4⟩ := h
  exact ⟨vp, vk, vw, h1, h2.keep hb hs he, h3.keep hb hs he, h4.keep hb hs he⟩

theorem Row.nil (κ : Nat → K) (k : K) (w : World) (sz : Nat) : Row κ k w sz (.slice none 0 0) 0 [] := ⟨by simp, none, 0, rfl, Nat.le_refl _, fun _ => rfl, .inl (by simp)⟩
theorem NodeV.zero (κ : Nat → K) (k : K) (w : World) : NodeV κ k w (.agg #[Value.bool false, Value.bool false, Value.slice none 0 0, Value.slice none 0 0, Value.slice none 0 0]) NodeS.zero := ⟨_, _, _, rfl, Row.nil _ _ _ _, Row.nil _ _ _ _, Row.nil _ _ _ _⟩

/-- A box of the call's own is stored into. -/
theorem Fr.box {κ : Nat → K} {S : K → Bool} {w w' : World} (h : Fr κ S w w') {p : Addr} (hp : w.heap.size ≤ p.block) (v : Value) : Fr κ S w (w'.setCell p v) :=
  ⟨h.os, h.tape, h.output, by have := h.size; simp [World.setCell]; exact this, fun b hb hS => by rw [Below.heap_setCell _ _ _ _ (by omega)]; exact h.block b hb hS⟩
theorem Fr.newb {κ : Nat → K} {S : K → Bool} {w w' : World} (h : Fr κ S w w') (o : Obj) : Fr κ S w (w'.alloc o) :=
  ⟨h.os, h.tape, h.output, by have := h.size; simp; omega, fun b hb hS => by rw [Below.heap_alloc _ _ _ (by have := h.size; omega)]; exact h.block b hb hS⟩
theorem Fr.drewn {κ : Nat → K} {S : K → Bool} {w w' : World} (h : Fr κ S w w') : Fr κ S w w'.drew := ⟨h.os, h.tape, h.output, h.size, h.block⟩

/-- A box is stored into: what has a kind stays. -/
theorem ArAt.boxed {κ : Nat → K} {w : World} {wi pa : Nat} {vs vf : Value} {raw : List Value} {A : ArS} (h : ArAt κ w wi pa vs vf raw A) {p : Addr} (hp : κ p.block = .none) (v : Value) : ArAt κ (w.setCell p v) wi pa vs vf raw A :=
  h.keep (fun b _ hb => Below.heap_setCell _ _ _ _ (by intro e; rw [e, hp] at hb; rcases hb with hb | hb <;> simp [K.arena] at hb)) (by simp [World.setCell]) (Ext.refl _ _)

def ArS.look (A : ArS) (r : Int) : NodeS × ArS := match A.get r with | some s => (s.node, A) | none => (NodeS.zero, A.fault)

/-- All rows of nodes are small. -/
def ArS.Small (A : ArS) : Prop := ∀ s ∈ A.slots, s.node.pairs.length ≤ 1048576 ∧ s.node.keys.length ≤ 1048576 ∧ s.node.ways.length ≤ 1048576 ∧ s.ways.length ≤ 1048576

section
variable {κ : Nat → K} {w : World} {wi pa : Nat} {vs vf : Value} {raw : List Value} {A : ArS}

set_option maxRecDepth 100000 in
set_option maxHeartbeats 1000000 in
theorem look_ok (h : ArRep κ w wi pa A) (hS : Sup κ w) (r : Int) : Calls Try.prog 78 #[.pointer (some ⟨pa, 0, none⟩), .int .i64 r] w fun e w' =>
    ∃ v κ', e = .returned v ∧ NodeV κ' .imm w' v (A.look r).1 ∧ ArRep κ' w' wi pa (A.look r).2 ∧ Fr κ (K.arena wi) w w' ∧ Ext κ κ' w ∧ Sup κ' w' := by
  obtain ⟨vs, vf, raw, h⟩ := h
  have HSUP := Lib.hid hS
  clear hS
  go_enter Try.func78, Try.ntmps78
  go_wp2_with fail
  have hB := (Below.refl w.heap.size w).alloc (Nat.le_refl _) (.cells #[Value.bool false, Value.bool false, Value.slice none 0 0, Value.slice none 0 0, Value.slice none 0 0] 60)
  have h' := h.keep (κ' := κ) (fun b hb _ => hB.block b hb) hB.size (Ext.refl _ _)
  refine (at_ok h' r).mono ?_
  rintro e w' hh
  cases hh with
  | hit k s bs o cap hi hs hv =>
    obtain ⟨v2, v3, v4, v5, hsv, hc, hz, hil, hkb, hlt⟩ := h'.hitAt hs hv
    have hc0 := hc _ _ hsv.c0
    have hc1 := hc _ _ hsv.c1
    have hc2 := hc _ _ hsv.c2
    have hc3 := hc _ _ hsv.c3
    have hc4 := hc _ _ hsv.c4
    rw [← Nat.add_assoc] at hc1 hc2 hc3 hc4
    obtain ⟨a2, cap2, rfl, hle2, hno2⟩ := hsv.r2.shape
    obtain ⟨a3, cap3, rfl, hle3, hno3⟩ := hsv.r3.shape
    obtain ⟨a4, cap4, rfl, hle4, hno4⟩ := hsv.r4.shape
    have hs2 := hsv.r2.src
    have hs3 := hsv.r3.src
    have hs4 := hsv.r4.src
    have hsms := hsv.sm
    have HI := Lib.hid hi
    have HS := Lib.hid hs
    have H := Lib.hid h
    clear hi hs hv h hil hsv hkb hlt hc hz h' hB
    go_wp2_with fail
    generalize hW : ((w.alloc (Obj.cells #[Value.bool false, Value.bool false, Value.slice none 0 0, Value.slice none 0 0, Value.slice none 0 0] 60)).alloc (Obj.cells #[Value.bool s.node.inner, Value.bool s.node.tagged, Value.slice a2 s.node.pairs.length cap2, Value.slice a3 s.node.keys.length cap3, Value.slice a4 s.node.ways.length cap4] 60)) = W
    have hWb : Below w.heap.size w W := hW ▸ ((Below.refl w.heap.size w).alloc (Nat.le_refl _) _).alloc (by simp) _
    have hW1 : W.heap[w.heap.size + 1]? = some (.cells #[Value.bool s.node.inner, Value.bool s.node.tagged, Value.slice a2 s.node.pairs.length cap2, Value.slice a3 s.node.keys.length cap3, Value.slice a4 s.node.ways.length cap4] 60 (0, 0)) := by
      rw [← hW]
      have := Laws.heap_new (w.alloc (Obj.cells #[Value.bool false, Value.bool false, Value.slice none 0 0, Value.slice none 0 0, Value.slice none 0 0] 60)) (.cells #[Value.bool s.node.inner, Value.bool s.node.tagged, Value.slice a2 s.node.pairs.length cap2, Value.slice a3 s.node.keys.length cap3, Value.slice a4 s.node.ways.length cap4] 60)
      simpa using this
    have hW0 : W.heap[w.heap.size]? = some (.cells #[Value.bool false, Value.bool false, Value.slice none 0 0, Value.slice none 0 0, Value.slice none 0 0] 60 (0, 0)) := by
      rw [← hW, Below.heap_alloc _ _ _ (by simp)]
      exact Laws.heap_new w _
    have hWs : W.heap.size = w.heap.size + 2 := by rw [← hW]; simp
    have hbs : Below (w.heap.size + 1) (w.alloc (Obj.cells #[Value.bool false, Value.bool false, Value.slice none 0 0, Value.slice none 0 0, Value.slice none 0 0] 60)) W := hW ▸ ((Below.refl _ _).alloc (by simp) _)
    have D2 := Lib.hid (show ∀ W', Below W.heap.size W W' → Calls Try.prog 111 #[.slice a2 s.node.pairs.length cap2] W' fun e w' => ∃ a' c', e = .returned (.slice a' s.node.pairs.length c') ∧ Fresh W' w' 149 2 (.slice a' s.node.pairs.length c') s.node.pairs.length (pairVs s.node.pairs) from
      fun W' hb => clone_pairs a2 _ cap2 _ W' ((hs2.move (by simpa using hbs)).move hb) (pairVs_one _) hsms.1 hno2)
    have D3 := Lib.hid (show ∀ W', Below W.heap.size W W' → Calls Try.prog 112 #[.slice a3 s.node.keys.length cap3] W' fun e w' => ∃ a' c', e = .returned (.slice a' s.node.keys.length c') ∧ Fresh W' w' 2 1 (.slice a' s.node.keys.length c') s.node.keys.length (intVs s.node.keys) from
      fun W' hb => clone_ints a3 _ cap3 _ W' ((hs3.move (by simpa using hbs)).move hb) (intVs_one _) hsms.2.1 hno3)
    have D4 := Lib.hid (show ∀ W', Below W.heap.size W W' → Calls Try.prog 113 #[.slice a4 s.node.ways.length cap4] W' fun e w' => ∃ a' c', e = .returned (.slice a' s.node.ways.length c') ∧ Fresh W' w' 41 1 (.slice a' s.node.ways.length c') s.node.ways.length (intVs s.node.ways) from
      fun W' hb => clone_refs a4 _ cap4 _ W' ((hs4.move (by simpa using hbs)).move hb) (intVs_one _) hsms.2.2.1 hno4)
    have HD := Lib.hid (show ∀ w1, Below W.heap.size W w1 → w1.cell? ⟨w.heap.size + 1, 2, none⟩ = some (Value.slice a2 s.node.pairs.length cap2) ∧ w1.cell? ⟨w.heap.size + 1, 3, none⟩ = some (Value.slice a3 s.node.keys.length cap3) ∧
        w1.cell? ⟨w.heap.size + 1, 4, none⟩ = some (Value.slice a4 s.node.ways.length cap4) ∧ w1.cell? ⟨w.heap.size + 1, 0, none⟩ = some (Value.bool s.node.inner) ∧ w1.cell? ⟨w.heap.size + 1, 1, none⟩ = some (Value.bool s.node.tagged) ∧
        (∀ j, w1.frozen? ⟨w.heap.size + 1, j, none⟩ = false) ∧ (∀ j, w1.frozen? ⟨w.heap.size, j, none⟩ = false) ∧
        w1.cell? ⟨w.heap.size, 0, none⟩ = some (.bool false) ∧ w1.cell? ⟨w.heap.size, 1, none⟩ = some (.bool false) ∧ w1.cell? ⟨w.heap.size, 2, none⟩ = some (.slice none 0 0) ∧ w1.cell? ⟨w.heap.size, 3, none⟩ = some (.slice none 0 0) ∧ w1.cell? ⟨w.heap.size, 4, none⟩ = some (.slice none 0 0) from fun w1 hb => by
      have g1 := (hb.block (w.heap.size + 1) (by omega)).trans hW1
      have g0 := (hb.block w.heap.size (by omega)).trans hW0
      exact ⟨by rw [cell_of_heap g1]; rfl, by rw [cell_of_heap g1]; rfl, by rw [cell_of_heap g1]; rfl, by rw [cell_of_heap g1]; rfl, by rw [cell_of_heap g1]; rfl, fun j => frozen_of_heap g1, fun j => frozen_of_heap g0,
        by rw [cell_of_heap g0]; rfl, by rw [cell_of_heap g0]; rfl, by rw [cell_of_heap g0]; rfl, by rw [cell_of_heap g0]; rfl, by rw [cell_of_heap g0]; rfl⟩)
    have HWb := Lib.hid hWb
    have HWs := Lib.hid hWs
    clear hW hc0 hc1 hc2 hc3 hc4 hs2 hs3 hs4 hno2 hno3 hno4 hle2 hle3 hle4 hsms hW1 hW0 hWs hWb hbs
    have hbw : Below W.heap.size W W.drew := (Below.refl _ _).drew
    have hS : _ ∧ _ ∧ _ := ⟨(HD.out _ hbw).1, (HD.out _ hbw).2.1, (HD.out _ hbw).2.2.1⟩
    refine Mask.begin_ (fun W' => W'.cell? ⟨w.heap.size + 1, 2, none⟩ = some (Value.slice a2 s.node.pairs.length cap2) ∧ W'.cell? ⟨w.heap.size + 1, 3, none⟩ = some (Value.slice a3 s.node.keys.length cap3) ∧ W'.cell? ⟨w.heap.size + 1, 4, none⟩ = some (Value.slice a4 s.node.ways.length cap4)) (fun i => i != 11 && i != 12 && i != 13 && i != 14 && i != 15) (by kernel_rfl) ?_
    refine Mask.take 0 17 (v := ?_) rfl rfl (by kernel_rfl) (by kernel_rfl) (by kernel_rfl) rfl (by kernel_rfl) (by kernel_rfl) (fun _ _ _ h => h) hS (Or.inl ⟨by rfl, ?_⟩) ?_
    rotate_left
    · intro w hSw; (try dsimp only at hSw); go_simp; try with_reducible rfl
    simp only [Act.put, List.setIfInBounds_toArray, List.set_cons_zero, List.set_cons_succ]
    refine Mask.take 1 18 (v := ?_) rfl rfl (by kernel_rfl) (by kernel_rfl) (by kernel_rfl) rfl (by kernel_rfl) (by kernel_rfl) (fun _ _ _ h => h) hS (Or.inl ⟨by rfl, ?_⟩) ?_
    rotate_left
    · intro w hSw; (try dsimp only at hSw); go_simp; try with_reducible rfl
    simp only [Act.put, List.setIfInBounds_toArray, List.set_cons_zero, List.set_cons_succ]
    refine Mask.take 3 20 (v := ?_) rfl rfl (by kernel_rfl) (by kernel_rfl) (by kernel_rfl) rfl (by kernel_rfl) (by kernel_rfl) (fun _ _ _ h => h) hS (Or.inl ⟨by rfl, ?_⟩) ?_
    rotate_left
    · intro w hSw; (try dsimp only at hSw); go_simp; try with_reducible rfl
    simp only [Act.put, List.setIfInBounds_toArray, List.set_cons_zero, List.set_cons_succ]
    refine Mask.take 4 21 (v := ?_) rfl rfl (by kernel_rfl) (by kernel_rfl) (by kernel_rfl) rfl (by kernel_rfl) (by kernel_rfl) (fun _ _ _ h => h) hS (Or.inl ⟨by rfl, ?_⟩) ?_
    rotate_left
    · intro w hSw; (try dsimp only at hSw); go_simp; try with_reducible rfl
    simp only [Act.put, List.setIfInBounds_toArray, List.set_cons_zero, List.set_cons_succ]
    refine Mask.take 5 22 (v := ?_) rfl rfl (by kernel_rfl) (by kernel_rfl) (by kernel_rfl) rfl (by kernel_rfl) (by kernel_rfl) (fun _ _ _ h => h) hS (Or.inl ⟨by rfl, ?_⟩) ?_
    rotate_left
    · intro w hSw; (try dsimp only at hSw); go_simp; try with_reducible rfl
    simp only [Act.put, List.setIfInBounds_toArray, List.set_cons_zero, List.set_cons_succ]
    refine Mask.take 7 24 (v := ?_) rfl rfl (by kernel_rfl) (by kernel_rfl) (by kernel_rfl) rfl (by kernel_rfl) (by kernel_rfl) (fun _ _ _ h => h) hS (Or.inl ⟨by rfl, ?_⟩) ?_
    rotate_left
    · intro w hSw; (try dsimp only at hSw); go_simp; try with_reducible rfl
    simp only [Act.put, List.setIfInBounds_toArray, List.set_cons_zero, List.set_cons_succ]
    refine Mask.take 8 25 (v := ?_) rfl rfl (by kernel_rfl) (by kernel_rfl) (by kernel_rfl) rfl (by kernel_rfl) (by kernel_rfl) (fun _ _ _ h => h) hS (Or.inl ⟨by rfl, ?_⟩) ?_
    rotate_left
    · intro w hSw; (try dsimp only at hSw); go_simp; try with_reducible rfl
    simp only [Act.put, List.setIfInBounds_toArray, List.set_cons_zero, List.set_cons_succ]
    refine Mask.take 9 26 (v := ?_) rfl rfl (by kernel_rfl) (by kernel_rfl) (by kernel_rfl) rfl (by kernel_rfl) (by kernel_rfl) (fun _ _ _ h => h) hS (Or.inl ⟨by rfl, ?_⟩) ?_
    rotate_left
    · intro w hSw; (try dsimp only at hSw); go_simp; try with_reducible rfl
    simp only [Act.put, List.setIfInBounds_toArray, List.set_cons_zero, List.set_cons_succ]
    -- 2: call F111[t18] types#[25]
    refine Mask.one 2 (by kernel_rfl) rfl rfl (fun K hK => ?_)
    go_simp
    refine (D2.out _ hbw).mono ?_
    rintro e w2 ⟨a2', c2', rfl, hF2⟩
    have HB2 := Lib.hid hbw
    replace hbw := hbw.trans (hF2.below.mono hbw.size)
    have HF2 := Lib.hid hF2
    clear hF2
    refine hK _ _ (fun _ => ?_) (?_)
    · exact ⟨(HD.out _ hbw).1, (HD.out _ hbw).2.1, (HD.out _ hbw).2.2.1⟩
    replace hS : _ ∧ _ ∧ _ := ⟨(HD.out _ hbw).1, (HD.out _ hbw).2.1, (HD.out _ hbw).2.2.1⟩
    clear hK K
    try simp only [Act.put, List.setIfInBounds_toArray, List.set_cons_zero, List.set_cons_succ]
    refine Mask.takeP 12 29 (v := ?_) rfl rfl (by kernel_rfl) (by kernel_rfl) (by kernel_rfl) rfl (fun _ _ _ h => h) (Or.inl ⟨by rfl, ?_⟩) ?_
    rotate_left
    · intro w hSw; (try dsimp only at hSw); go_simp; try with_reducible rfl
    simp only [Act.put, List.setIfInBounds_toArray, List.set_cons_zero, List.set_cons_succ]
    -- 6: call F112[t22] types#[22]
    refine Mask.one 6 (by kernel_rfl) rfl rfl (fun K hK => ?_)
    go_simp
    refine (D3.out _ hbw).mono ?_
    rintro e w3 ⟨a3', c3', rfl, hF3⟩
    have HB3 := Lib.hid hbw
    replace hbw := hbw.trans (hF3.below.mono hbw.size)
    have HF3 := Lib.hid hF3
    clear hF3
    refine hK _ _ (fun _ => ?_) (?_)
    · exact ⟨(HD.out _ hbw).1, (HD.out _ hbw).2.1, (HD.out _ hbw).2.2.1⟩
    replace hS : _ ∧ _ ∧ _ := ⟨(HD.out _ hbw).1, (HD.out _ hbw).2.1, (HD.out _ hbw).2.2.1⟩
    clear hK K
    try simp only [Act.put, List.setIfInBounds_toArray, List.set_cons_zero, List.set_cons_succ]
    -- 10: call F113[t26] types#[56]
    refine Mask.one 10 (by kernel_rfl) rfl rfl (fun K hK => ?_)
    go_simp
    refine (D4.out _ hbw).mono ?_
    rintro e w4 ⟨a4', c4', rfl, hF4⟩
    have HB4 := Lib.hid hbw
    replace hbw := hbw.trans (hF4.below.mono hbw.size)
    have HF4 := Lib.hid hF4
    clear hF4
    obtain ⟨_, _, _, e0, e1, ez2, ez1, f0, f1, f2, f3, f4⟩ := HD.out _ hbw
    refine hK _ _ (fun _ => ?_) (?_)
    · exact ⟨(HD.out _ hbw).1, (HD.out _ hbw).2.1, (HD.out _ hbw).2.2.1⟩
    replace hS : _ ∧ _ ∧ _ := ⟨(HD.out _ hbw).1, (HD.out _ hbw).2.1, (HD.out _ hbw).2.2.1⟩
    clear hK K
    try simp only [Act.put, List.setIfInBounds_toArray, List.set_cons_zero, List.set_cons_succ]
    refine Mask.takeP 11 28 (v := ?_) rfl rfl (by kernel_rfl) (by kernel_rfl) (by kernel_rfl) rfl (fun _ _ _ h => h) (Or.inl ⟨by rfl, ?_⟩) ?_
    rotate_left
    · intro w hSw; (try dsimp only at hSw); go_simp; try with_reducible rfl
    simp only [Act.put, List.setIfInBounds_toArray, List.set_cons_zero, List.set_cons_succ]
    -- 13: store T25 t29 t19
    refine Mask.one 13 (by kernel_rfl) rfl rfl (fun K hK => ?_)
    go_simp
    refine hK _ _ (fun h => (by cases h)) ?_
    clear hK K
    try simp only [Act.put, List.setIfInBounds_toArray, List.set_cons_zero, List.set_cons_succ]
    refine Mask.takeP 14 30 (v := ?_) rfl rfl (by kernel_rfl) (by kernel_rfl) (by kernel_rfl) rfl (fun _ _ _ h => h) (Or.inl ⟨by rfl, ?_⟩) ?_
    rotate_left
    · intro w hSw; (try dsimp only at hSw); go_simp; try with_reducible rfl
    simp only [Act.put, List.setIfInBounds_toArray, List.set_cons_zero, List.set_cons_succ]
    -- 15: store T58 t30 t28
    refine Mask.one 15 (by kernel_rfl) rfl rfl (fun K hK => ?_)
    go_simp
    refine hK _ _ (fun h => (by cases h)) ?_
    clear hK K
    try simp only [Act.put, List.setIfInBounds_toArray, List.set_cons_zero, List.set_cons_succ]
    refine Mask.done (by kernel_rfl) ?_ _
    clear hS
    have HB := Lib.hid hbw
    clear hbw
    go_wp2
    have F2 := HF2.out
    have F3 := HF3.out
    have F4 := HF4.out
    have B2 := HB2.out
    have B3 := HB3.out
    have B4 := HB4.out
    have BB := HB.out
    have hWs := HWs.out
    have hWb := HWb.out
    generalize hv2 : Value.slice a2' s.node.pairs.length c2' = V2 at F2 ⊢
    generalize hv3 : Value.slice a3' s.node.keys.length c3' = V3 at F3 ⊢
    generalize hv4 : Value.slice a4' s.node.ways.length c4' = V4 at F4 ⊢
    have hfin : ∀ g, w.heap.size + 2 ≤ g → g < w4.heap.size → (((((((((w4.setCell ⟨w.heap.size + 1, 2, none⟩ V2).setCell ⟨w.heap.size + 1, 3, none⟩ V3).setCell ⟨w.heap.size + 1, 4, none⟩ V4).setCell ⟨w.heap.size, 0, none⟩ (.bool s.node.inner)).setCell ⟨w.heap.size, 1, none⟩ (.bool s.node.tagged)).setCell ⟨w.heap.size, 2, none⟩ V2).setCell ⟨w.heap.size, 3, none⟩ V3).setCell ⟨w.heap.size, 4, none⟩ V4)).heap[g]? = w4.heap[g]? := by
      intro g hg _
      repeat rw [Below.heap_setCell _ _ _ _ (by show g ≠ _; simp only; omega)]
    have n2 := F2.new
    have n3 := F3.new
    have n4 := F4.new
    have l2 := F2.own.lt
    have l3 := F3.own.lt
    have l4 := F4.own.lt
    have s3 := F3.below.size
    have s4 := F4.below.size
    have s2 := F2.below.size
    have s1 := B2.size
    have sz : (((((((((w4.setCell ⟨w.heap.size + 1, 2, none⟩ V2).setCell ⟨w.heap.size + 1, 3, none⟩ V3).setCell ⟨w.heap.size + 1, 4, none⟩ V4).setCell ⟨w.heap.size, 0, none⟩ (.bool s.node.inner)).setCell ⟨w.heap.size, 1, none⟩ (.bool s.node.tagged)).setCell ⟨w.heap.size, 2, none⟩ V2).setCell ⟨w.heap.size, 3, none⟩ V3).setCell ⟨w.heap.size, 4, none⟩ V4)).heap.size = w4.heap.size := by simp [World.setCell]
    have mem : ∀ g, some g ∈ [blk V2, blk V3, blk V4] → w.heap.size + 2 ≤ g ∧ g < w4.heap.size := by
      intro g hg
      simp only [List.mem_cons, List.not_mem_nil, or_false] at hg
      rcases hg with e | e | e
      · have := n2 g e.symm; have := l2 g e.symm; omega
      · have := n3 g e.symm; have := l3 g e.symm; omega
      · have := n4 g e.symm; have := l4 g e.symm; omega
    have hBel : Below w.heap.size w (((((((((w4.setCell ⟨w.heap.size + 1, 2, none⟩ V2).setCell ⟨w.heap.size + 1, 3, none⟩ V3).setCell ⟨w.heap.size + 1, 4, none⟩ V4).setCell ⟨w.heap.size, 0, none⟩ (.bool s.node.inner)).setCell ⟨w.heap.size, 1, none⟩ (.bool s.node.tagged)).setCell ⟨w.heap.size, 2, none⟩ V2).setCell ⟨w.heap.size, 3, none⟩ V3).setCell ⟨w.heap.size, 4, none⟩ V4)) := by
      repeat refine Below.setCell ?_ (by simp) _
      exact hWb.trans (BB.mono (by omega))
    have hE : Ext κ (imms κ [blk V2, blk V3, blk V4]) w := imms_ext fun g hg => by have := mem g hg; omega
    refine bodyPost_ret (v := .agg #[.bool s.node.inner, .bool s.node.tagged, V2, V3, V4]) (by simp [results, Try.results78, go_sem, *]) rfl ?_
    rw [show A.look r = (s.node, A) by simp only [ArS.look, ArS.get, HI.out, Option.bind_some, HS.out]]
    refine ⟨_, imms κ [blk V2, blk V3, blk V4], rfl, ⟨V2, V3, V4, rfl, ?_, ?_, ?_⟩, ⟨vs, vf, raw, H.out.keep (fun b hb _ => hBel.block b hb) hBel.size hE⟩, Fr.below hBel, hE, imms_sup HSUP.out hBel.size fun g hg => by have := mem g hg; omega⟩
    · refine Row.ofOwn ((F2.own.move fun g hg => ?_ : Own w4 149 2 V2 _ _).move fun g hg => hfin g (mem g (by simp [hg])).1 (mem g (by simp [hg])).2) (fun g hg => imms_at (by simp [hg])) F2.own.noneEmpty
      exact ((F3.below.trans (F4.below.mono s3)).block g (l2 g hg))
    · refine Row.ofOwn ((F3.own.move fun g hg => ?_ : Own w4 2 1 V3 _ _).move fun g hg => hfin g (mem g (by simp [hg])).1 (mem g (by simp [hg])).2) (fun g hg => imms_at (by simp [hg])) F3.own.noneEmpty
      exact F4.below.block g (l3 g hg)
    · exact Row.ofOwn (F4.own.move fun g hg => hfin g (mem g (by simp [hg])).1 (mem g (by simp [hg])).2) (fun g hg => imms_at (by simp [hg])) F4.own.noneEmpty
  | miss hi =>
    have hpl := lt_of_heap h.hpa
    have hne1 : ¬ w.heap.size = pa := by omega
    have hne2 : ¬ pa = w.heap.size := by omega
    have HI := Lib.hid hi
    have H := Lib.hid h
    have HB := Lib.hid hB
    have H' := Lib.hid h'
    clear hi h hB hpl h'
    go_wp2
    refine bodyPost_ret (v := .agg #[Value.bool false, Value.bool false, Value.slice none 0 0, Value.slice none 0 0, Value.slice none 0 0]) (by simp [results, Try.results78, go_sem, *]) rfl ?_
    rw [show A.look r = (NodeS.zero, A.fault) by simp only [ArS.look, ArS.get, HI.out, Option.bind_none]]
    have hk : κ w.heap.size = .none := HSUP.out _ (Nat.le_refl _)
    refine ⟨_, κ, rfl, NodeV.zero _ _ _, ⟨vs, vf, raw, (((((H'.out.faulted).boxed hk _).boxed hk _).boxed hk _).boxed hk _).boxed hk _⟩, ?_, Ext.refl _ _, HSUP.out.mono (by simp [World.setCell])⟩
    refine Fr.box (Fr.box (Fr.box (Fr.box (Fr.box ?_ (by simp) _) (by simp) _) (by simp) _) (by simp) _) (by simp) _
    exact (Fr.alloc (κ := κ) (S := K.arena wi) (w := w) _).trans0 (H'.out.frFault _ _)
end
end Go.Proofs.Ytacmeafpieoaaaa
