/- The records' table: Look. -/
import Derived.Test.YtacmeafpieoaaaaTc
namespace Go.Proofs.Ytacmeafpieoaaaa
open Go.RowKit

def RecS.zero : RecS := ⟨[], [], 0, 0, 0, 0⟩
def TabS.look (T : TabS) (n : Int) : RecS := match T.get n with | some e => e.r | none => RecS.zero

/-- A record as a value. -/
def RecV (κ : Nat → K) (k : K) (w : World) (v : Value) (r : RecS) : Prop :=
  ∃ vn vi, v = .agg #[vn, vi, .int .i64 r.keep, .int .i64 r.way, .int .i64 r.old, .int .i64 r.new] ∧ Row κ k w 1 vn r.nodes.length (intVs r.nodes) ∧ Row κ k w 1 vi r.infos.length (intVs r.infos)

/-- All rows of records are small. -/
def TabS.Small (T : TabS) : Prop := ∀ e ∈ T.ents, e.r.nodes.length ≤ 1048576 ∧ e.r.infos.length ≤ 1048576

section
variable {κ κ' : Nat → K} {w w' : World} {wi pt : Nat} {vl : Value} {bs : List Nat} {T : TabS}

set_option maxRecDepth 100000 in
set_option maxHeartbeats 1000000 in
theorem rlook_ok (h : TabRep κ w wi pt T) (hS : Sup κ w) (n : Int) : Calls Try.prog 160 #[.pointer (some ⟨pt, 0, none⟩), .int .i64 n] w fun e w' =>
    ∃ v κ', e = .returned v ∧ RecV κ' .imm w' v (T.look n) ∧ (0 ≤ (T.look n).keep ∧ (T.look n).nodes.length = (T.look n).infos.length ∧ (T.look n).nodes.length ≤ 1048576) ∧ Below w.heap.size w w' ∧ Ext κ κ' w ∧ Sup κ' w' := by
  obtain ⟨vl, bs, h⟩ := h
  have HSUP := Lib.hid hS
  clear hS
  go_enter Try.func160, Try.ntmps160
  go_wp2_with fail
  have hB := (Below.refl w.heap.size w).alloc (Nat.le_refl _) (.cells #[Value.slice none 0 0, Value.slice none 0 0, Value.int .i64 0, Value.int .i64 0, Value.int .i64 0, Value.int .i64 0] 93)
  have h' := h.keep (κ' := κ) (fun b hb _ => hB.block b hb) hB.size (Ext.refl _ _)
  refine (tab_at h' n).mono ?_
  rintro e w' hh
  cases hh with
  | hit i b vn vi en hi hs hbs he =>
    obtain ⟨a2, cap2, rfl, hle2, hno2⟩ := he.rn.shape
    obtain ⟨a3, cap3, rfl, hle3, hno3⟩ := he.ri.shape
    have hs2 := he.rn.src
    have hs3 := he.ri.src
    have hc0 : (w.alloc (.cells #[Value.slice none 0 0, Value.slice none 0 0, Value.int .i64 0, Value.int .i64 0, Value.int .i64 0, Value.int .i64 0] 93)).cell? ⟨b, 0, none⟩ = some (Value.slice a2 en.r.nodes.length cap2) := by rw [cell_of_heap he.hb]; rfl
    have hc1 : (w.alloc (.cells #[Value.slice none 0 0, Value.slice none 0 0, Value.int .i64 0, Value.int .i64 0, Value.int .i64 0, Value.int .i64 0] 93)).cell? ⟨b, 1, none⟩ = some (Value.slice a3 en.r.infos.length cap3) := by rw [cell_of_heap he.hb]; rfl
    have hc2 : (w.alloc (.cells #[Value.slice none 0 0, Value.slice none 0 0, Value.int .i64 0, Value.int .i64 0, Value.int .i64 0, Value.int .i64 0] 93)).cell? ⟨b, 2, none⟩ = some (Value.int .i64 en.r.keep) := by rw [cell_of_heap he.hb]; rfl
    have hc3 : (w.alloc (.cells #[Value.slice none 0 0, Value.slice none 0 0, Value.int .i64 0, Value.int .i64 0, Value.int .i64 0, Value.int .i64 0] 93)).cell? ⟨b, 3, none⟩ = some (Value.int .i64 en.r.way) := by rw [cell_of_heap he.hb]; rfl
    have hc4 : (w.alloc (.cells #[Value.slice none 0 0, Value.slice none 0 0, Value.int .i64 0, Value.int .i64 0, Value.int .i64 0, Value.int .i64 0] 93)).cell? ⟨b, 4, none⟩ = some (Value.int .i64 en.r.old) := by rw [cell_of_heap he.hb]; rfl
    have hc5 : (w.alloc (.cells #[Value.slice none 0 0, Value.slice none 0 0, Value.int .i64 0, Value.int .i64 0, Value.int .i64 0, Value.int .i64 0] 93)).cell? ⟨b, 5, none⟩ = some (Value.int .i64 en.r.new) := by rw [cell_of_heap he.hb]; rfl
    have HGD := Lib.hid (show 0 ≤ en.r.keep ∧ en.r.nodes.length = en.r.infos.length ∧ en.r.nodes.length ≤ 1048576 from ⟨he.sm.2.2.1, he.sm.2.2.2, he.sm.1⟩)
    have hsms : en.r.nodes.length ≤ 1048576 ∧ en.r.infos.length ≤ 1048576 := ⟨he.sm.1, he.sm.2.1⟩
    have HI := Lib.hid hi
    have HS := Lib.hid hs
    clear hi hs hbs he h h' hB
    go_wp2_with fail
    generalize hW : ((w.alloc (Obj.cells #[Value.slice none 0 0, Value.slice none 0 0, Value.int .i64 0, Value.int .i64 0, Value.int .i64 0, Value.int .i64 0] 93)).alloc (Obj.cells #[Value.slice a2 en.r.nodes.length cap2, Value.slice a3 en.r.infos.length cap3, Value.int .i64 en.r.keep, Value.int .i64 en.r.way, Value.int .i64 en.r.old, Value.int .i64 en.r.new] 93)) = W
    have hWb : Below w.heap.size w W := hW ▸ ((Below.refl w.heap.size w).alloc (Nat.le_refl _) _).alloc (by simp) _
    have hW1 : W.heap[w.heap.size + 1]? = some (.cells #[Value.slice a2 en.r.nodes.length cap2, Value.slice a3 en.r.infos.length cap3, Value.int .i64 en.r.keep, Value.int .i64 en.r.way, Value.int .i64 en.r.old, Value.int .i64 en.r.new] 93 (0, 0)) := by
      rw [← hW]
      have := Laws.heap_new (w.alloc (Obj.cells #[Value.slice none 0 0, Value.slice none 0 0, Value.int .i64 0, Value.int .i64 0, Value.int .i64 0, Value.int .i64 0] 93)) (.cells #[Value.slice a2 en.r.nodes.length cap2, Value.slice a3 en.r.infos.length cap3, Value.int .i64 en.r.keep, Value.int .i64 en.r.way, Value.int .i64 en.r.old, Value.int .i64 en.r.new] 93)
      simpa using this
    have hW0 : W.heap[w.heap.size]? = some (.cells #[Value.slice none 0 0, Value.slice none 0 0, Value.int .i64 0, Value.int .i64 0, Value.int .i64 0, Value.int .i64 0] 93 (0, 0)) := by
      rw [← hW, Below.heap_alloc _ _ _ (by simp)]
      exact Laws.heap_new w _
    have hWs : W.heap.size = w.heap.size + 2 := by rw [← hW]; simp
    have hbs : Below (w.heap.size + 1) (w.alloc (Obj.cells #[Value.slice none 0 0, Value.slice none 0 0, Value.int .i64 0, Value.int .i64 0, Value.int .i64 0, Value.int .i64 0] 93)) W := hW ▸ ((Below.refl _ _).alloc (by simp) _)
    have D2 := Lib.hid (show ∀ W', Below W.heap.size W W' → Calls Try.prog 113 #[.slice a2 en.r.nodes.length cap2] W' fun e w' => ∃ a' c', e = .returned (.slice a' en.r.nodes.length c') ∧ Fresh W' w' 41 1 (.slice a' en.r.nodes.length c') en.r.nodes.length (intVs en.r.nodes) from
      fun W' hb => clone_refs a2 _ cap2 _ W' ((hs2.move (by simpa using hbs)).move hb) (intVs_one _) hsms.1 hno2)
    have D3 := Lib.hid (show ∀ W', Below W.heap.size W W' → Calls Try.prog 112 #[.slice a3 en.r.infos.length cap3] W' fun e w' => ∃ a' c', e = .returned (.slice a' en.r.infos.length c') ∧ Fresh W' w' 2 1 (.slice a' en.r.infos.length c') en.r.infos.length (intVs en.r.infos) from
      fun W' hb => clone_ints a3 _ cap3 _ W' ((hs3.move (by simpa using hbs)).move hb) (intVs_one _) hsms.2 hno3)
    have HD := Lib.hid (show ∀ w1, Below W.heap.size W w1 → w1.cell? ⟨w.heap.size + 1, 0, none⟩ = some (Value.slice a2 en.r.nodes.length cap2) ∧ w1.cell? ⟨w.heap.size + 1, 1, none⟩ = some (Value.slice a3 en.r.infos.length cap3) ∧
        w1.cell? ⟨w.heap.size + 1, 2, none⟩ = some (Value.int .i64 en.r.keep) ∧ w1.cell? ⟨w.heap.size + 1, 3, none⟩ = some (Value.int .i64 en.r.way) ∧ w1.cell? ⟨w.heap.size + 1, 4, none⟩ = some (Value.int .i64 en.r.old) ∧ w1.cell? ⟨w.heap.size + 1, 5, none⟩ = some (Value.int .i64 en.r.new) ∧
        (∀ j, w1.frozen? ⟨w.heap.size + 1, j, none⟩ = false) ∧
        w1.cell? ⟨w.heap.size, 0, none⟩ = some (.slice none 0 0) ∧ w1.cell? ⟨w.heap.size, 1, none⟩ = some (.slice none 0 0) ∧ w1.cell? ⟨w.heap.size, 2, none⟩ = some (Value.int .i64 0) ∧ w1.cell? ⟨w.heap.size, 3, none⟩ = some (Value.int .i64 0) ∧ w1.cell? ⟨w.heap.size, 4, none⟩ = some (Value.int .i64 0) ∧ w1.cell? ⟨w.heap.size, 5, none⟩ = some (Value.int .i64 0) ∧
        (∀ j, w1.frozen? ⟨w.heap.size, j, none⟩ = false) from fun w1 hb => by
      have g1 := (hb.block (w.heap.size + 1) (by omega)).trans hW1
      have g0 := (hb.block w.heap.size (by omega)).trans hW0
      exact ⟨by rw [cell_of_heap g1]; rfl, by rw [cell_of_heap g1]; rfl, by rw [cell_of_heap g1]; rfl, by rw [cell_of_heap g1]; rfl, by rw [cell_of_heap g1]; rfl, by rw [cell_of_heap g1]; rfl, fun j => frozen_of_heap g1,
        by rw [cell_of_heap g0]; rfl, by rw [cell_of_heap g0]; rfl, by rw [cell_of_heap g0]; rfl, by rw [cell_of_heap g0]; rfl, by rw [cell_of_heap g0]; rfl, by rw [cell_of_heap g0]; rfl, fun j => frozen_of_heap g0⟩)
    have HWb := Lib.hid hWb
    have HWs := Lib.hid hWs
    clear hW hc0 hc1 hc2 hc3 hc4 hc5 hs2 hs3 hno2 hno3 hle2 hle3 hsms hW1 hW0 hWs hWb hbs
    have hbw : Below W.heap.size W W.drew := (Below.refl _ _).drew
    have hS : _ ∧ _ := ⟨(HD.out _ hbw).1, (HD.out _ hbw).2.1⟩
    refine Mask.begin_ (fun W' => W'.cell? ⟨w.heap.size + 1, 0, none⟩ = some (Value.slice a2 en.r.nodes.length cap2) ∧ W'.cell? ⟨w.heap.size + 1, 1, none⟩ = some (Value.slice a3 en.r.infos.length cap3)) (fun i => i != 6 && i != 7 && i != 8 && i != 9) (by kernel_rfl) ?_
    refine Mask.take 0 17 (v := ?_) rfl rfl (by kernel_rfl) (by kernel_rfl) (by kernel_rfl) rfl (by kernel_rfl) (by kernel_rfl) (fun _ _ _ h => h) hS (Or.inl ⟨by rfl, ?_⟩) ?_
    rotate_left
    · intro w hSw; (try dsimp only at hSw); go_simp; try with_reducible rfl
    simp only [Act.put, List.setIfInBounds_toArray, List.set_cons_zero, List.set_cons_succ]
    refine Mask.take 1 18 (v := ?_) rfl rfl (by kernel_rfl) (by kernel_rfl) (by kernel_rfl) rfl (by kernel_rfl) (by kernel_rfl) (fun _ _ _ h => h) hS (Or.inl ⟨by rfl, ?_⟩) ?_
    rotate_left
    · intro w hSw; (try dsimp only at hSw); go_simp; try with_reducible rfl
    simp only [Act.put, List.setIfInBounds_toArray, List.set_cons_zero, List.set_cons_succ]
    refine Mask.take 3 20 (v := ?_) rfl rfl (by kernel_rfl) (by kernel_rfl) (by kernel_rfl) rfl (by kernel_rfl) (by kernel_rfl) (fun _ _ _ h => h) hS (Or.inl ⟨by rfl, ?_⟩) ?_
    rotate_left
    · intro w hSw; (try dsimp only at hSw); go_simp; try with_reducible rfl
    simp only [Act.put, List.setIfInBounds_toArray, List.set_cons_zero, List.set_cons_succ]
    refine Mask.take 4 21 (v := ?_) rfl rfl (by kernel_rfl) (by kernel_rfl) (by kernel_rfl) rfl (by kernel_rfl) (by kernel_rfl) (fun _ _ _ h => h) hS (Or.inl ⟨by rfl, ?_⟩) ?_
    rotate_left
    · intro w hSw; (try dsimp only at hSw); go_simp; try with_reducible rfl
    simp only [Act.put, List.setIfInBounds_toArray, List.set_cons_zero, List.set_cons_succ]
    -- 2: call F113[t18] types#[56]
    refine Mask.one 2 (by kernel_rfl) rfl rfl (fun K hK => ?_)
    go_simp
    refine (D2.out _ hbw).mono ?_
    rintro e w2 ⟨a2', c2', rfl, hF2⟩
    have HB2 := Lib.hid hbw
    replace hbw := hbw.trans (hF2.below.mono hbw.size)
    have HF2 := Lib.hid hF2
    clear hF2
    refine hK _ _ (fun _ => ?_) (?_)
    · exact ⟨(HD.out _ hbw).1, (HD.out _ hbw).2.1⟩
    replace hS : _ ∧ _ := ⟨(HD.out _ hbw).1, (HD.out _ hbw).2.1⟩
    clear hK K
    try simp only [Act.put, List.setIfInBounds_toArray, List.set_cons_zero, List.set_cons_succ]
    refine Mask.takeP 6 23 (v := ?_) rfl rfl (by kernel_rfl) (by kernel_rfl) (by kernel_rfl) rfl (fun _ _ _ h => h) (Or.inl ⟨by rfl, ?_⟩) ?_
    rotate_left
    · intro w hSw; (try dsimp only at hSw); go_simp; try with_reducible rfl
    simp only [Act.put, List.setIfInBounds_toArray, List.set_cons_zero, List.set_cons_succ]
    -- 5: call F112[t21] types#[22]
    refine Mask.one 5 (by kernel_rfl) rfl rfl (fun K hK => ?_)
    go_simp
    refine (D3.out _ hbw).mono ?_
    rintro e w3 ⟨a3', c3', rfl, hF3⟩
    have HB3 := Lib.hid hbw
    replace hbw := hbw.trans (hF3.below.mono hbw.size)
    have HF3 := Lib.hid hF3
    clear hF3
    obtain ⟨_, _, e2, e3, e4, e5, ez1, f0, f1, f2, f3, f4, f5, ez0⟩ := HD.out _ hbw
    refine hK _ _ (fun _ => ?_) (?_)
    · exact ⟨(HD.out _ hbw).1, (HD.out _ hbw).2.1⟩
    replace hS : _ ∧ _ := ⟨(HD.out _ hbw).1, (HD.out _ hbw).2.1⟩
    clear hK K
    try simp only [Act.put, List.setIfInBounds_toArray, List.set_cons_zero, List.set_cons_succ]
    -- 7: store T56 t23 t19
    refine Mask.one 7 (by kernel_rfl) rfl rfl (fun K hK => ?_)
    go_simp
    refine hK _ _ (fun h => (by cases h)) ?_
    clear hK K
    try simp only [Act.put, List.setIfInBounds_toArray, List.set_cons_zero, List.set_cons_succ]
    refine Mask.takeP 8 24 (v := ?_) rfl rfl (by kernel_rfl) (by kernel_rfl) (by kernel_rfl) rfl (fun _ _ _ h => h) (Or.inl ⟨by rfl, ?_⟩) ?_
    rotate_left
    · intro w hSw; (try dsimp only at hSw); go_simp; try with_reducible rfl
    simp only [Act.put, List.setIfInBounds_toArray, List.set_cons_zero, List.set_cons_succ]
    -- 9: store T22 t24 t22
    refine Mask.one 9 (by kernel_rfl) rfl rfl (fun K hK => ?_)
    go_simp
    refine hK _ _ (fun h => (by cases h)) ?_
    clear hK K
    try simp only [Act.put, List.setIfInBounds_toArray, List.set_cons_zero, List.set_cons_succ]
    refine Mask.done (by kernel_rfl) ?_ _
    clear hS
    have HB := Lib.hid hbw
    clear hbw
    go_wp2
    have F2 := HF2.out
    have F3 := HF3.out
    have B2 := HB2.out
    have B3 := HB3.out
    have BB := HB.out
    have hWs := HWs.out
    have hWb := HWb.out
    have hfin : ∀ g, w.heap.size + 2 ≤ g → g < w3.heap.size → ((((((((w3.setCell ⟨w.heap.size + 1, 0, none⟩ (Value.slice a2' en.r.nodes.length c2')).setCell ⟨w.heap.size + 1, 1, none⟩ (Value.slice a3' en.r.infos.length c3')).setCell ⟨w.heap.size, 0, none⟩ (Value.slice a2' en.r.nodes.length c2')).setCell ⟨w.heap.size, 1, none⟩ (Value.slice a3' en.r.infos.length c3')).setCell ⟨w.heap.size, 2, none⟩ (Value.int .i64 en.r.keep)).setCell ⟨w.heap.size, 3, none⟩ (Value.int .i64 en.r.way)).setCell ⟨w.heap.size, 4, none⟩ (Value.int .i64 en.r.old)).setCell ⟨w.heap.size, 5, none⟩ (Value.int .i64 en.r.new)).heap[g]? = w3.heap[g]? := by
      intro g hg _
      repeat rw [Below.heap_setCell _ _ _ _ (by show g ≠ _; simp only; omega)]
    have n2 := F2.new
    have n3 := F3.new
    have l2 := F2.own.lt
    have l3 := F3.own.lt
    have s3 := F3.below.size
    have s2 := F2.below.size
    have s1 := B2.size
    have sz : ((((((((w3.setCell ⟨w.heap.size + 1, 0, none⟩ (Value.slice a2' en.r.nodes.length c2')).setCell ⟨w.heap.size + 1, 1, none⟩ (Value.slice a3' en.r.infos.length c3')).setCell ⟨w.heap.size, 0, none⟩ (Value.slice a2' en.r.nodes.length c2')).setCell ⟨w.heap.size, 1, none⟩ (Value.slice a3' en.r.infos.length c3')).setCell ⟨w.heap.size, 2, none⟩ (Value.int .i64 en.r.keep)).setCell ⟨w.heap.size, 3, none⟩ (Value.int .i64 en.r.way)).setCell ⟨w.heap.size, 4, none⟩ (Value.int .i64 en.r.old)).setCell ⟨w.heap.size, 5, none⟩ (Value.int .i64 en.r.new)).heap.size = w3.heap.size := by simp [World.setCell]
    have mem : ∀ g, some g ∈ [blk (Value.slice a2' en.r.nodes.length c2'), blk (Value.slice a3' en.r.infos.length c3')] → w.heap.size + 2 ≤ g ∧ g < w3.heap.size := by
      intro g hg
      simp only [List.mem_cons, List.not_mem_nil, or_false] at hg
      rcases hg with e | e
      · have := n2 g e.symm; have := l2 g e.symm; omega
      · have := n3 g e.symm; have := l3 g e.symm; omega
    have hBel : Below w.heap.size w ((((((((w3.setCell ⟨w.heap.size + 1, 0, none⟩ (Value.slice a2' en.r.nodes.length c2')).setCell ⟨w.heap.size + 1, 1, none⟩ (Value.slice a3' en.r.infos.length c3')).setCell ⟨w.heap.size, 0, none⟩ (Value.slice a2' en.r.nodes.length c2')).setCell ⟨w.heap.size, 1, none⟩ (Value.slice a3' en.r.infos.length c3')).setCell ⟨w.heap.size, 2, none⟩ (Value.int .i64 en.r.keep)).setCell ⟨w.heap.size, 3, none⟩ (Value.int .i64 en.r.way)).setCell ⟨w.heap.size, 4, none⟩ (Value.int .i64 en.r.old)).setCell ⟨w.heap.size, 5, none⟩ (Value.int .i64 en.r.new)) := by
      repeat refine Below.setCell ?_ (by simp) _
      exact hWb.trans (BB.mono (by omega))
    have hE : Ext κ (imms κ [blk (Value.slice a2' en.r.nodes.length c2'), blk (Value.slice a3' en.r.infos.length c3')]) w := imms_ext fun g hg => by have := mem g hg; omega
    refine bodyPost_ret (v := .agg #[(Value.slice a2' en.r.nodes.length c2'), (Value.slice a3' en.r.infos.length c3'), Value.int .i64 en.r.keep, Value.int .i64 en.r.way, Value.int .i64 en.r.old, Value.int .i64 en.r.new]) (by simp [results, Try.results160, go_sem, *]) rfl ?_
    rw [show T.look n = en.r by simp only [TabS.look, TabS.get, HI.out, Option.bind_some, HS.out]]
    refine ⟨_, imms κ [blk (Value.slice a2' en.r.nodes.length c2'), blk (Value.slice a3' en.r.infos.length c3')], rfl, ⟨(Value.slice a2' en.r.nodes.length c2'), (Value.slice a3' en.r.infos.length c3'), rfl, ?_, ?_⟩, HGD.out, hBel, hE, imms_sup HSUP.out hBel.size fun g hg => by have := mem g hg; omega⟩
    · refine Row.ofOwn ((F2.own.move fun g hg => ?_ : Own w3 41 1 (Value.slice a2' en.r.nodes.length c2') _ _).move fun g hg => hfin g (mem g (by simp [hg])).1 (mem g (by simp [hg])).2) (fun g hg => imms_at (by simp [hg])) F2.own.noneEmpty
      exact F3.below.block g (l2 g hg)
    · exact Row.ofOwn (F3.own.move fun g hg => hfin g (mem g (by simp [hg])).1 (mem g (by simp [hg])).2) (fun g hg => imms_at (by simp [hg])) F3.own.noneEmpty
  | miss hi =>
    have HI := Lib.hid hi
    have HB := Lib.hid hB
    clear hi h hB h'
    go_wp2
    refine bodyPost_ret (v := .agg #[Value.slice none 0 0, Value.slice none 0 0, Value.int .i64 0, Value.int .i64 0, Value.int .i64 0, Value.int .i64 0]) (by simp [results, Try.results160, go_sem, *]) rfl ?_
    rw [show T.look n = RecS.zero by simp only [TabS.look, TabS.get, HI.out, Option.bind_none]]
    refine ⟨_, κ, rfl, ⟨_, _, rfl, Row.nil _ _ _ _, Row.nil _ _ _ _⟩, by simp [RecS.zero], ?_, Ext.refl _ _, HSUP.out.mono (by simp [World.setCell])⟩
    repeat refine Below.setCell ?_ (by simp) _
    exact HB.out
end
end Go.Proofs.Ytacmeafpieoaaaa
