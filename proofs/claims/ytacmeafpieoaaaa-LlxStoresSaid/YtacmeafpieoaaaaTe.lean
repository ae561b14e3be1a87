/- The records' table: Make. -/
import Derived.Test.YtacmeafpieoaaaaTd
namespace Go.Proofs.Ytacmeafpieoaaaa
open Go.RowKit

theorem info200 : (Try.prog.info? 200).map (fun i => (i.zero, i.size, i.bytes)) = some (some (.pointer none), 1, 8) := by kernel_rfl

def TabS.make (T : TabS) (r : RecS) : (Int × Bool) × TabS := if T.most ≤ (T.ents.length : Int) then ((0, false), T) else (((T.ents.length : Int) + 1, true), { T with ents := T.ents ++ [⟨r, 1, false⟩] })

section
variable {κ κ' : Nat → K} {w w' : World} {wi pt : Nat} {vl : Value} {bs : List Nat} {T : TabS}

set_option maxRecDepth 100000 in
set_option maxHeartbeats 1000000 in
theorem make_ok (h : TabRep κ w wi pt T) (hS0 : Sup κ w) (r : RecS) {vn vi : Value} (hrn : RowN κ (K.recs wi) w 1 vn r.nodes.length (intVs r.nodes)) (hri : RowN κ (K.recs wi) w 1 vi r.infos.length (intVs r.infos))
    (hlen : r.nodes.length = r.infos.length) (hkeep : 0 ≤ r.keep) (hsn : r.nodes.length ≤ 1048576) :
    Calls Try.prog 73 #[.pointer (some ⟨pt, 0, none⟩), .agg #[vn, vi, .int .i64 r.keep, .int .i64 r.way, .int .i64 r.old, .int .i64 r.new]] w fun e w' =>
    ∃ κ', e = .returned (.tuple #[.int .i64 (T.make r).1.1, .bool (T.make r).1.2]) ∧ TabRep κ' w' wi pt (T.make r).2 ∧ Fr κ (K.recs wi) w w' ∧ Ext κ κ' w ∧ Sup κ' w' := by
  obtain ⟨vl, bs, h⟩ := h
  obtain ⟨i0, hi, hz0, hz1, hz2⟩ := info_parts info200
  obtain ⟨a2, cap2, rfl, _, hno2⟩ := hrn.shape
  obtain ⟨a3, cap3, rfl, _, hno3⟩ := hri.shape
  have e1 : ((r.nodes.length : Int) != (r.infos.length : Int)) = false := by simp [hlen]
  have e2 : decide (r.keep < 0) = false := by simp; omega
  obtain ⟨_, al, capl, rfl, hlel, _⟩ := id h.own
  by_cases hroom : T.most ≤ (T.ents.length : Int)
  · have e3 : decide (T.most ≤ (T.ents.length : Int)) = true := by simpa using hroom
    have HM := Lib.hid (show T.make r = ((0, false), T) by simp only [TabS.make, if_pos hroom])
    clear hlen hroom
    go_enter Try.func73, Try.ntmps73
    go_wp2
    generalize hW : (w.alloc (Obj.cells #[Value.slice a2 r.nodes.length cap2, Value.slice a3 r.infos.length cap3, Value.int .i64 r.keep, Value.int .i64 r.way, Value.int .i64 r.old, Value.int .i64 r.new] 93)).drew = W
    have hB : Below w.heap.size w W := hW ▸ ((Below.refl _ _).alloc (Nat.le_refl _) _).drew
    have hbx : W.heap[w.heap.size]? = some (.cells #[Value.slice a2 r.nodes.length cap2, Value.slice a3 r.infos.length cap3, Value.int .i64 r.keep, Value.int .i64 r.way, Value.int .i64 r.old, Value.int .i64 r.new] 93 (0, 0)) := by
      rw [← hW]; exact Laws.heap_new w _
    have b0 : W.cell? ⟨w.heap.size, 0, none⟩ = some (Value.slice a2 r.nodes.length cap2) := by rw [cell_of_heap hbx]; rfl
    have b1 : W.cell? ⟨w.heap.size, 1, none⟩ = some (Value.slice a3 r.infos.length cap3) := by rw [cell_of_heap hbx]; rfl
    have b2 : W.cell? ⟨w.heap.size, 2, none⟩ = some (Value.int .i64 r.keep) := by rw [cell_of_heap hbx]; rfl
    have h' := h.keep (κ' := κ) (fun b hb _ => hB.block b hb) hB.size (Ext.refl _ _)
    have p0 : W.cell? ⟨pt, 0, none⟩ = some (Value.slice al T.ents.length capl) := by rw [cell_of_heap h'.hpt]; rfl
    have p1 : W.cell? ⟨pt, 1, none⟩ = some (Value.int .i64 T.most) := by rw [cell_of_heap h'.hpt]; rfl
    refine wp_still_at (by kernel_rfl) (by kernel_rfl) W hW ?_
    have H := Lib.hid h'
    have HB := Lib.hid hB
    clear hW h' h hB hbx
    repeat still_step
    refine wpStill_nil ?_
    go_wp2
    refine bodyPost_ret (v := .tuple #[.int .i64 0, .bool false]) (by simp [results, Try.results73, go_sem]) rfl ?_
    rw [HM.out]
    exact ⟨κ, rfl, ⟨_, _, H.out⟩, Fr.below HB.out, Ext.refl _ _, hS0.mono HB.out.size⟩
  · have e3 : decide (T.most ≤ (T.ents.length : Int)) = false := by simpa using hroom
    have HM := Lib.hid (show T.make r = (((T.ents.length : Int) + 1, true), { T with ents := T.ents ++ [⟨r, 1, false⟩] }) by simp only [TabS.make, if_neg hroom])
    have hsi : r.infos.length ≤ 1048576 := by omega
    have HBD := Lib.hid (show (T.ents.length : Int) + 1 ≤ T.most ∧ T.most ≤ 65536 from ⟨by omega, h.bound.2⟩)
    have HLEN := Lib.hid hlen
    have HKP := Lib.hid hkeep
    clear hlen hroom
    go_enter Try.func73, Try.ntmps73
    go_wp2
    generalize hW : (w.alloc (Obj.cells #[Value.slice a2 r.nodes.length cap2, Value.slice a3 r.infos.length cap3, Value.int .i64 r.keep, Value.int .i64 r.way, Value.int .i64 r.old, Value.int .i64 r.new] 93)).drew = W
    have hB : Below w.heap.size w W := hW ▸ ((Below.refl _ _).alloc (Nat.le_refl _) _).drew
    have hbx : W.heap[w.heap.size]? = some (.cells #[Value.slice a2 r.nodes.length cap2, Value.slice a3 r.infos.length cap3, Value.int .i64 r.keep, Value.int .i64 r.way, Value.int .i64 r.old, Value.int .i64 r.new] 93 (0, 0)) := by
      rw [← hW]; exact Laws.heap_new w _
    have b0 : W.cell? ⟨w.heap.size, 0, none⟩ = some (Value.slice a2 r.nodes.length cap2) := by rw [cell_of_heap hbx]; rfl
    have b1 : W.cell? ⟨w.heap.size, 1, none⟩ = some (Value.slice a3 r.infos.length cap3) := by rw [cell_of_heap hbx]; rfl
    have b2 : W.cell? ⟨w.heap.size, 2, none⟩ = some (Value.int .i64 r.keep) := by rw [cell_of_heap hbx]; rfl
    have h' := h.keep (κ' := κ) (fun b hb _ => hB.block b hb) hB.size (Ext.refl _ _)
    have p0 : W.cell? ⟨pt, 0, none⟩ = some (Value.slice al T.ents.length capl) := by rw [cell_of_heap h'.hpt]; rfl
    have p1 : W.cell? ⟨pt, 1, none⟩ = some (Value.int .i64 T.most) := by rw [cell_of_heap h'.hpt]; rfl
    refine wp_still_at (by kernel_rfl) (by kernel_rfl) W hW ?_
    have H := Lib.hid h'
    have HB := Lib.hid hB
    have HBX := Lib.hid hbx
    have hfw : Fr κ (K.recs wi) w W := Fr.below hB
    have hs2 := (hrn.keep hfw (Ext.refl _ _)).src
    have hs3 := (hri.keep hfw (Ext.refl _ _)).src
    have D2 := Lib.hid (show ∀ W', Below W.heap.size W W' → Calls Try.prog 113 #[.slice a2 r.nodes.length cap2] W' fun e w' => ∃ a' c', e = .returned (.slice a' r.nodes.length c') ∧ Fresh W' w' 41 1 (.slice a' r.nodes.length c') r.nodes.length (intVs r.nodes) from
      fun W' hb => clone_refs a2 _ cap2 _ W' (hs2.move hb) (intVs_one _) hsn hno2)
    have D3 := Lib.hid (show ∀ W', Below W.heap.size W W' → Calls Try.prog 112 #[.slice a3 r.infos.length cap3] W' fun e w' => ∃ a' c', e = .returned (.slice a' r.infos.length c') ∧ Fresh W' w' 2 1 (.slice a' r.infos.length c') r.infos.length (intVs r.infos) from
      fun W' hb => clone_ints a3 _ cap3 _ W' (hs3.move hb) (intVs_one _) hsi hno3)
    have hbl : w.heap.size < W.heap.size := lt_of_heap hbx
    have HD := Lib.hid (show ∀ w1, Below W.heap.size W w1 → w1.cell? ⟨w.heap.size, 0, none⟩ = some (Value.slice a2 r.nodes.length cap2) ∧ w1.cell? ⟨w.heap.size, 1, none⟩ = some (Value.slice a3 r.infos.length cap3) ∧ (∀ j, w1.frozen? ⟨w.heap.size, j, none⟩ = false) from fun w1 hb => by
      have g1 := (hb.block w.heap.size hbl).trans hbx
      exact ⟨by rw [cell_of_heap g1]; rfl, by rw [cell_of_heap g1]; rfl, fun j => frozen_of_heap g1⟩)
    clear hW h' h hB hbx hs2 hs3 hrn hri hfw
    repeat still_step
    refine wpStill_nil ?_
    go_wp2
    clear b0 b1 b2 p0 p1
    have hbw : Below W.heap.size W W.drew := (Below.refl _ _).drew
    have hS : _ ∧ _ := ⟨(HD.out _ hbw).1, (HD.out _ hbw).2.1⟩
    refine Mask.begin_ (fun W' => W'.cell? ⟨w.heap.size, 0, none⟩ = some (Value.slice a2 r.nodes.length cap2) ∧ W'.cell? ⟨w.heap.size, 1, none⟩ = some (Value.slice a3 r.infos.length cap3)) (fun i => i != 6 && i != 7 && i != 8 && i != 9) (by kernel_rfl) ?_
    refine Mask.take 0 34 (v := ?_) rfl rfl (by kernel_rfl) (by kernel_rfl) (by kernel_rfl) rfl (by kernel_rfl) (by kernel_rfl) (fun _ _ _ h => h) hS (Or.inl ⟨by rfl, ?_⟩) ?_
    rotate_left
    · intro w hSw; (try dsimp only at hSw); go_simp; try with_reducible rfl
    simp only [Act.put, List.setIfInBounds_toArray, List.set_cons_zero, List.set_cons_succ]
    refine Mask.take 1 35 (v := ?_) rfl rfl (by kernel_rfl) (by kernel_rfl) (by kernel_rfl) rfl (by kernel_rfl) (by kernel_rfl) (fun _ _ _ h => h) hS (Or.inl ⟨by rfl, ?_⟩) ?_
    rotate_left
    · intro w hSw; (try dsimp only at hSw); go_simp; try with_reducible rfl
    simp only [Act.put, List.setIfInBounds_toArray, List.set_cons_zero, List.set_cons_succ]
    refine Mask.take 3 37 (v := ?_) rfl rfl (by kernel_rfl) (by kernel_rfl) (by kernel_rfl) rfl (by kernel_rfl) (by kernel_rfl) (fun _ _ _ h => h) hS (Or.inl ⟨by rfl, ?_⟩) ?_
    rotate_left
    · intro w hSw; (try dsimp only at hSw); go_simp; try with_reducible rfl
    simp only [Act.put, List.setIfInBounds_toArray, List.set_cons_zero, List.set_cons_succ]
    refine Mask.take 4 38 (v := ?_) rfl rfl (by kernel_rfl) (by kernel_rfl) (by kernel_rfl) rfl (by kernel_rfl) (by kernel_rfl) (fun _ _ _ h => h) hS (Or.inl ⟨by rfl, ?_⟩) ?_
    rotate_left
    · intro w hSw; (try dsimp only at hSw); go_simp; try with_reducible rfl
    simp only [Act.put, List.setIfInBounds_toArray, List.set_cons_zero, List.set_cons_succ]
    -- 2: call F113[t35] types#[56]
    refine Mask.one 2 (by kernel_rfl) rfl rfl (fun K hK => ?_)
    go_simp
    refine (D2.out _ hbw).mono ?_
    rintro e w2 ⟨a2', c2', rfl, hF2⟩
    have HB2 := Lib.hid hbw
    replace hbw := hbw.trans (hF2.below.mono hbw.size)
    have HF2 := Lib.hid hF2
    clear hF2
    refine hK _ _ (fun _ => ?_) (?_)
    · exact ⟨(HD.out _ hbw).1, (HD.out _ hbw).2.1⟩
    replace hS : _ ∧ _ := ⟨(HD.out _ hbw).1, (HD.out _ hbw).2.1⟩
    clear hK K
    try simp only [Act.put, List.setIfInBounds_toArray, List.set_cons_zero, List.set_cons_succ]
    refine Mask.takeP 6 40 (v := ?_) rfl rfl (by kernel_rfl) (by kernel_rfl) (by kernel_rfl) rfl (fun _ _ _ h => h) (Or.inl ⟨by rfl, ?_⟩) ?_
    rotate_left
    · intro w hSw; (try dsimp only at hSw); go_simp; try with_reducible rfl
    simp only [Act.put, List.setIfInBounds_toArray, List.set_cons_zero, List.set_cons_succ]
    -- 5: call F112[t38] types#[22]
    refine Mask.one 5 (by kernel_rfl) rfl rfl (fun K hK => ?_)
    go_simp
    refine (D3.out _ hbw).mono ?_
    rintro e w3 ⟨a3', c3', rfl, hF3⟩
    have HB3 := Lib.hid hbw
    replace hbw := hbw.trans (hF3.below.mono hbw.size)
    have HF3 := Lib.hid hF3
    clear hF3
    have ez := (HD.out _ hbw).2.2
    refine hK _ _ (fun _ => ?_) (?_)
    · exact ⟨(HD.out _ hbw).1, (HD.out _ hbw).2.1⟩
    replace hS : _ ∧ _ := ⟨(HD.out _ hbw).1, (HD.out _ hbw).2.1⟩
    clear hK K
    try simp only [Act.put, List.setIfInBounds_toArray, List.set_cons_zero, List.set_cons_succ]
    -- 7: store T56 t40 t36
    refine Mask.one 7 (by kernel_rfl) rfl rfl (fun K hK => ?_)
    go_simp
    refine hK _ _ (fun h => (by cases h)) ?_
    clear hK K
    try simp only [Act.put, List.setIfInBounds_toArray, List.set_cons_zero, List.set_cons_succ]
    refine Mask.takeP 8 41 (v := ?_) rfl rfl (by kernel_rfl) (by kernel_rfl) (by kernel_rfl) rfl (fun _ _ _ h => h) (Or.inl ⟨by rfl, ?_⟩) ?_
    rotate_left
    · intro w hSw; (try dsimp only at hSw); go_simp; try with_reducible rfl
    simp only [Act.put, List.setIfInBounds_toArray, List.set_cons_zero, List.set_cons_succ]
    -- 9: store T22 t41 t39
    refine Mask.one 9 (by kernel_rfl) rfl rfl (fun K hK => ?_)
    go_simp
    refine hK _ _ (fun h => (by cases h)) ?_
    clear hK K
    try simp only [Act.put, List.setIfInBounds_toArray, List.set_cons_zero, List.set_cons_succ]
    refine Mask.done (by kernel_rfl) ?_ _
    clear hS D2 D3
    have F2 := HF2.out
    have F3 := HF3.out
    have s3 := F3.below.size
    have s2 := F2.below.size
    have s1 := HB2.out.size
    have sw := hbw.size
    have l2 := F2.own.lt
    have l3 := F3.own.lt
    have n2 := F2.new
    have n3 := F3.new
    have hw3x := (hbw.block _ hbl).trans HBX.out
    generalize hW2 : ((w3.setCell ⟨w.heap.size, 0, none⟩ (Value.slice a2' r.nodes.length c2')).setCell ⟨w.heap.size, 1, none⟩ (Value.slice a3' r.infos.length c3')) = W2
    have hW2o : ∀ b, b ≠ w.heap.size → W2.heap[b]? = w3.heap[b]? := fun b hb => by
      rw [← hW2]
      repeat rw [Below.heap_setCell _ _ _ _ hb]
    have hW2s : W2.heap.size = w3.heap.size := by rw [← hW2]; simp [World.setCell]
    have hW2x : W2.heap[w.heap.size]? = some (.cells #[(Value.slice a2' r.nodes.length c2'), (Value.slice a3' r.infos.length c3'), (Value.int .i64 r.keep), (Value.int .i64 r.way), (Value.int .i64 r.old), (Value.int .i64 r.new)] 93 (0, 0)) := by rw [← hW2, heap_setCell_at (heap_setCell_at hw3x _)]; rfl
    have hB2 : Below w.heap.size w W2 := by
      rw [← hW2]
      exact ((HB.out.trans (hbw.mono (by omega))).setCell (Nat.le_refl _) _).setCell (Nat.le_refl _) _
    have hkx : κ w.heap.size = .none := hS0 _ (Nat.le_refl _)
    have o2 : Own W2 41 1 (Value.slice a2' r.nodes.length c2') r.nodes.length (intVs r.nodes) := F2.own.move fun k hk => (hW2o k (by have := n2 k hk; omega)).trans (F3.below.block k (l2 k hk))
    have o3 : Own W2 2 1 (Value.slice a3' r.infos.length c3') r.infos.length (intVs r.infos) := F3.own.move fun k hk => hW2o k (by have := n3 k hk; omega)
    have mem : ∀ g, some g ∈ [blk (Value.slice a2' r.nodes.length c2'), blk (Value.slice a3' r.infos.length c3')] → W.heap.size ≤ g ∧ g < W2.heap.size := by
      intro g hg
      simp only [List.mem_cons, List.not_mem_nil, or_false] at hg
      rcases hg with e | e
      · have := n2 g e.symm; have := l2 g e.symm; omega
      · have := n3 g e.symm; have := l3 g e.symm; omega
    have hE2W : Ext κ (imms κ [blk (Value.slice a2' r.nodes.length c2'), blk (Value.slice a3' r.infos.length c3')]) W := imms_ext fun g hg => (mem g hg).1
    have hE2 : Ext κ (imms κ [blk (Value.slice a2' r.nodes.length c2'), blk (Value.slice a3' r.infos.length c3')]) w := fun b hb => hE2W b (by have := HB.out.size; omega)
    have hS2 : Sup (imms κ [blk (Value.slice a2' r.nodes.length c2'), blk (Value.slice a3' r.infos.length c3')]) W2 := imms_sup hS0 hB2.size fun g hg => (mem g hg).2
    have r2 : Row (imms κ [blk (Value.slice a2' r.nodes.length c2'), blk (Value.slice a3' r.infos.length c3')]) .imm W2 1 (Value.slice a2' r.nodes.length c2') r.nodes.length (intVs r.nodes) := Row.ofOwn o2 (fun g hg => imms_at (by simp [hg])) o2.noneEmpty
    have r3 : Row (imms κ [blk (Value.slice a2' r.nodes.length c2'), blk (Value.slice a3' r.infos.length c3')]) .imm W2 1 (Value.slice a3' r.infos.length c3') r.infos.length (intVs r.infos) := Row.ofOwn o3 (fun g hg => imms_at (by simp [hg])) o3.noneEmpty
    have h2 : TabAt (imms κ [blk (Value.slice a2' r.nodes.length c2'), blk (Value.slice a3' r.infos.length c3')]) W2 wi pt (.slice al T.ents.length capl) bs T := H.out.keep (fun b hb hk => (hW2o b (by intro e; rw [e, hkx] at hk; simp [K.recs] at hk)).trans (hbw.block b hb)) (by omega) hE2W
    generalize imms κ [blk (Value.slice a2' r.nodes.length c2'), blk (Value.slice a3' r.infos.length c3')] = κ2 at h2 hE2 hE2W hS2 r2 r3
    have hk2x : κ2 w.heap.size = .none := (hE2W _ hbl).trans hkx
    have hp2 := h2.hpt
    have hpl2 := lt_of_heap hp2
    have hxl2 := lt_of_heap hW2x
    have hpv : blk (.slice al T.ents.length capl) ≠ some pt := fun e => by have := h2.kvl pt e; rw [h2.kpt] at this; cases this
    have hxv : blk (.slice al T.ents.length capl) ≠ some w.heap.size := fun e => by have := h2.kvl _ e; rw [hk2x] at this; cases this
    have hcells : ∀ w1 : World, w1.heap[pt]? = W2.heap[pt]? → w1.heap[w.heap.size]? = W2.heap[w.heap.size]? → w1.cell? ⟨pt, 0, none⟩ = some (Value.slice al T.ents.length capl) ∧ w1.cell? ⟨w.heap.size, 0, none⟩ = some (Value.slice a2' r.nodes.length c2') ∧ w1.cell? ⟨w.heap.size, 1, none⟩ = some (Value.slice a3' r.infos.length c3') ∧
        w1.cell? ⟨w.heap.size, 2, none⟩ = some (Value.int .i64 r.keep) ∧ w1.cell? ⟨w.heap.size, 3, none⟩ = some (Value.int .i64 r.way) ∧ w1.cell? ⟨w.heap.size, 4, none⟩ = some (Value.int .i64 r.old) ∧ w1.cell? ⟨w.heap.size, 5, none⟩ = some (Value.int .i64 r.new) := fun w1 h1 h2 => by
      have g1 := h1.trans hp2
      have g2 := h2.trans hW2x
      exact ⟨by rw [cell_of_heap g1]; rfl, by rw [cell_of_heap g2]; rfl, by rw [cell_of_heap g2]; rfl, by rw [cell_of_heap g2]; rfl, by rw [cell_of_heap g2]; rfl, by rw [cell_of_heap g2]; rfl, by rw [cell_of_heap g2]; rfl⟩
    have h7 : ∀ b, b < W2.heap.size → (W2.drew.alloc (.cells #[(Value.slice a2' r.nodes.length c2'), (Value.slice a3' r.infos.length c3'), (Value.int .i64 r.keep), (Value.int .i64 r.way), (Value.int .i64 r.old), (Value.int .i64 r.new), Value.int .u8 1, Value.bool false] 203)).heap[b]? = W2.heap[b]? := fun b hb => Below.heap_alloc _ _ _ hb
    have h8 : ∀ b, b < W2.heap.size → ((W2.drew.alloc (.cells #[(Value.slice a2' r.nodes.length c2'), (Value.slice a3' r.infos.length c3'), (Value.int .i64 r.keep), (Value.int .i64 r.way), (Value.int .i64 r.old), (Value.int .i64 r.new), Value.int .u8 1, Value.bool false] 203)).alloc (.cells #[Value.pointer (some ⟨W2.heap.size, 0, none⟩)] 200)).heap[b]? = W2.heap[b]? := fun b hb => (Below.heap_alloc _ _ _ (by simp; omega)).trans (h7 b hb)
    have h8e : ((W2.drew.alloc (.cells #[(Value.slice a2' r.nodes.length c2'), (Value.slice a3' r.infos.length c3'), (Value.int .i64 r.keep), (Value.int .i64 r.way), (Value.int .i64 r.old), (Value.int .i64 r.new), Value.int .u8 1, Value.bool false] 203)).alloc (.cells #[Value.pointer (some ⟨W2.heap.size, 0, none⟩)] 200)).heap[W2.heap.size]? = some (.cells #[(Value.slice a2' r.nodes.length c2'), (Value.slice a3' r.infos.length c3'), (Value.int .i64 r.keep), (Value.int .i64 r.way), (Value.int .i64 r.old), (Value.int .i64 r.new), Value.int .u8 1, Value.bool false] 203 (0, 0)) := (Below.heap_alloc _ _ _ (by simp)).trans (Laws.heap_new W2.drew _)
    have HK7 := Lib.hid (hcells _ (h7 pt hpl2) (h7 _ hxl2))
    have HK8 := Lib.hid (hcells _ (h8 pt hpl2) (h8 _ hxl2))
    have HOWN := Lib.hid (show Own ((W2.drew.alloc (.cells #[(Value.slice a2' r.nodes.length c2'), (Value.slice a3' r.infos.length c3'), (Value.int .i64 r.keep), (Value.int .i64 r.way), (Value.int .i64 r.old), (Value.int .i64 r.new), Value.int .u8 1, Value.bool false] 203)).alloc (.cells #[Value.pointer (some ⟨W2.heap.size, 0, none⟩)] 200)) 200 1 (.slice al T.ents.length capl) T.ents.length (ptrVs bs) from h2.own.move fun g hg => h8 g (h2.own.lt g hg))
    have HROW := Lib.hid (show ((W2.drew.alloc (.cells #[(Value.slice a2' r.nodes.length c2'), (Value.slice a3' r.infos.length c3'), (Value.int .i64 r.keep), (Value.int .i64 r.way), (Value.int .i64 r.old), (Value.int .i64 r.new), Value.int .u8 1, Value.bool false] 203)).alloc (.cells #[Value.pointer (some ⟨W2.heap.size, 0, none⟩)] 200)).cell? ⟨W2.heap.size + 1, 0, none⟩ = some (.pointer (some ⟨W2.heap.size, 0, none⟩)) by
      have := Laws.heap_new (W2.drew.alloc (.cells #[(Value.slice a2' r.nodes.length c2'), (Value.slice a3' r.infos.length c3'), (Value.int .i64 r.keep), (Value.int .i64 r.way), (Value.int .i64 r.old), (Value.int .i64 r.new), Value.int .u8 1, Value.bool false] 203)) (.cells #[Value.pointer (some ⟨W2.heap.size, 0, none⟩)] 200)
      simp only [World.size_alloc] at this
      rw [cell_of_heap (b := W2.heap.size + 1) (by simpa using this)]; rfl)
    have HN5 := Lib.hid (show ∀ w5 v', Apd ((W2.drew.alloc (.cells #[(Value.slice a2' r.nodes.length c2'), (Value.slice a3' r.infos.length c3'), (Value.int .i64 r.keep), (Value.int .i64 r.way), (Value.int .i64 r.old), (Value.int .i64 r.new), Value.int .u8 1, Value.bool false] 203)).alloc (.cells #[Value.pointer (some ⟨W2.heap.size, 0, none⟩)] 200)) w5 200 1 (.slice al T.ents.length capl) v' (T.ents.length + 1) (ptrVs bs ++ [.pointer (some ⟨W2.heap.size, 0, none⟩)]) → ∀ b, b < W2.heap.size + 2 → blk (.slice al T.ents.length capl) ≠ some b → w5.heap[b]? = ((W2.drew.alloc (.cells #[(Value.slice a2' r.nodes.length c2'), (Value.slice a3' r.infos.length c3'), (Value.int .i64 r.keep), (Value.int .i64 r.way), (Value.int .i64 r.old), (Value.int .i64 r.new), Value.int .u8 1, Value.bool false] 203)).alloc (.cells #[Value.pointer (some ⟨W2.heap.size, 0, none⟩)] 200)).heap[b]? from fun w5 v' hapd b hb hv => hapd.block b (by simp; omega) hv)
    have HS5 := Lib.hid (show ∀ w5 : World, (∀ b, b < W2.heap.size + 2 → blk (.slice al T.ents.length capl) ≠ some b → w5.heap[b]? = ((W2.drew.alloc (.cells #[(Value.slice a2' r.nodes.length c2'), (Value.slice a3' r.infos.length c3'), (Value.int .i64 r.keep), (Value.int .i64 r.way), (Value.int .i64 r.old), (Value.int .i64 r.new), Value.int .u8 1, Value.bool false] 203)).alloc (.cells #[Value.pointer (some ⟨W2.heap.size, 0, none⟩)] 200)).heap[b]?) → _ from fun w5 hn => hcells w5 ((hn pt (by omega) hpv).trans (h8 pt hpl2)) ((hn _ (by omega) hxv).trans (h8 _ hxl2)))
    have HZ5 := Lib.hid (show ∀ w5 : World, (∀ b, b < W2.heap.size + 2 → blk (.slice al T.ents.length capl) ≠ some b → w5.heap[b]? = ((W2.drew.alloc (.cells #[(Value.slice a2' r.nodes.length c2'), (Value.slice a3' r.infos.length c3'), (Value.int .i64 r.keep), (Value.int .i64 r.way), (Value.int .i64 r.old), (Value.int .i64 r.new), Value.int .u8 1, Value.bool false] 203)).alloc (.cells #[Value.pointer (some ⟨W2.heap.size, 0, none⟩)] 200)).heap[b]?) → w5.frozen? ⟨pt, 0, none⟩ = false from fun w5 hn => frozen_of_heap ((hn pt (by omega) hpv).trans ((h8 pt hpl2).trans hp2)))
    have hS := hcells W2.drew rfl rfl
    have HH2 := Lib.hid h2
    have HR2 := Lib.hid r2
    have HR3 := Lib.hid r3
    have HB2' := Lib.hid hB2
    have H8 := Lib.hid h8
    have H8E := Lib.hid h8e
    clear F2 F3 HF2 HF3 HB3 HB2 s1 s2 s3 sw l2 l3 n2 n3 hw3x hW2o hW2x hB2 o2 o3 mem h2 hp2 hcells h7 h8 h8e r2 r3 hW2s ez
    clear hW2 hbw HD
    go_wp2
    refine Mask.begin_ (fun W' => W'.cell? ⟨pt, 0, none⟩ = some (Value.slice al T.ents.length capl) ∧ W'.cell? ⟨w.heap.size, 0, none⟩ = some (Value.slice a2' r.nodes.length c2') ∧ W'.cell? ⟨w.heap.size, 1, none⟩ = some (Value.slice a3' r.infos.length c3') ∧ W'.cell? ⟨w.heap.size, 2, none⟩ = some (Value.int .i64 r.keep) ∧ W'.cell? ⟨w.heap.size, 3, none⟩ = some (Value.int .i64 r.way) ∧ W'.cell? ⟨w.heap.size, 4, none⟩ = some (Value.int .i64 r.old) ∧ W'.cell? ⟨w.heap.size, 5, none⟩ = some (Value.int .i64 r.new)) (fun i => i != 12) (by kernel_rfl) ?_
    refine Mask.take 0 42 (v := ?_) rfl rfl (by kernel_rfl) (by kernel_rfl) (by kernel_rfl) rfl (by kernel_rfl) (by kernel_rfl) (fun _ _ _ h => h) hS (Or.inl ⟨by rfl, ?_⟩) ?_
    rotate_left
    · intro w hSw; (try dsimp only at hSw); go_simp; try with_reducible rfl
    simp only [Act.put, List.setIfInBounds_toArray, List.set_cons_zero, List.set_cons_succ]
    refine Mask.take 1 43 (v := ?_) rfl rfl (by kernel_rfl) (by kernel_rfl) (by kernel_rfl) rfl (by kernel_rfl) (by kernel_rfl) (fun _ _ _ h => h) hS (Or.inl ⟨by rfl, ?_⟩) ?_
    rotate_left
    · intro w hSw; (try dsimp only at hSw); go_simp; try with_reducible rfl
    simp only [Act.put, List.setIfInBounds_toArray, List.set_cons_zero, List.set_cons_succ]
    refine Mask.take 2 44 (v := ?_) rfl rfl (by kernel_rfl) (by kernel_rfl) (by kernel_rfl) rfl (by kernel_rfl) (by kernel_rfl) (fun _ _ _ h => h) hS (Or.inl ⟨by rfl, ?_⟩) ?_
    rotate_left
    · intro w hSw; (try dsimp only at hSw); go_simp; try with_reducible rfl
    simp only [Act.put, List.setIfInBounds_toArray, List.set_cons_zero, List.set_cons_succ]
    refine Mask.take 3 45 (v := ?_) rfl rfl (by kernel_rfl) (by kernel_rfl) (by kernel_rfl) rfl (by kernel_rfl) (by kernel_rfl) (fun _ _ _ h => h) hS (Or.inl ⟨by rfl, ?_⟩) ?_
    rotate_left
    · intro w hSw; (try dsimp only at hSw); go_simp; try with_reducible rfl
    simp only [Act.put, List.setIfInBounds_toArray, List.set_cons_zero, List.set_cons_succ]
    refine Mask.take 4 46 (v := ?_) rfl rfl (by kernel_rfl) (by kernel_rfl) (by kernel_rfl) rfl (by kernel_rfl) (by kernel_rfl) (fun _ _ _ h => h) hS (Or.inl ⟨by rfl, ?_⟩) ?_
    rotate_left
    · intro w hSw; (try dsimp only at hSw); go_simp; try with_reducible rfl
    simp only [Act.put, List.setIfInBounds_toArray, List.set_cons_zero, List.set_cons_succ]
    refine Mask.take 5 47 (v := ?_) rfl rfl (by kernel_rfl) (by kernel_rfl) (by kernel_rfl) rfl (by kernel_rfl) (by kernel_rfl) (fun _ _ _ h => h) hS (Or.inl ⟨by rfl, ?_⟩) ?_
    rotate_left
    · intro w hSw; (try dsimp only at hSw); go_simp; try with_reducible rfl
    simp only [Act.put, List.setIfInBounds_toArray, List.set_cons_zero, List.set_cons_succ]
    refine Mask.take 6 48 (v := ?_) rfl rfl (by kernel_rfl) (by kernel_rfl) (by kernel_rfl) rfl (by kernel_rfl) (by kernel_rfl) (fun _ _ _ h => h) hS (Or.inl ⟨by rfl, ?_⟩) ?_
    rotate_left
    · intro w hSw; (try dsimp only at hSw); go_simp; try with_reducible rfl
    simp only [Act.put, List.setIfInBounds_toArray, List.set_cons_zero, List.set_cons_succ]
    -- 7: box T203 t48
    refine Mask.one 7 (by kernel_rfl) rfl rfl (fun K hK => ?_)
    go_simp
    refine hK _ _ (fun _ => ?_) (?_)
    · exact HK7.out
    clear hK K
    try simp only [Act.put, List.setIfInBounds_toArray, List.set_cons_zero, List.set_cons_succ]
    -- 8: buildSlice T204 1 [(0, t49)]
    refine Mask.one 8 (by kernel_rfl) rfl rfl (fun K hK => ?_)
    go_simp
    refine hK _ _ (fun _ => ?_) (?_)
    · exact HK8.out
    clear hK K
    try simp only [Act.put, List.setIfInBounds_toArray, List.set_cons_zero, List.set_cons_succ]
    -- 9: builtin append[t46, t50] types#[204, 204]
    refine Mask.one 9 (by kernel_rfl) rfl rfl (fun K hK => ?_)
    refine wp_append_row _ _ 204 rfl 200 i0 (.pointer none) 1 8 Try.underlying204 hi hz0 hz1 hz2 rfl (by decide) _ T.ents.length (ptrVs bs) rfl HOWN.out _ 1 1 [.pointer (some ⟨W2.heap.size, 0, none⟩)] rfl ?c1 ?c2 ?c3 ?c4 ?_
    case c1 => exact ⟨rfl, .inr ⟨_, rfl, fun j u hu => by cases j with | zero => (simp at hu; subst hu; exact HROW.out) | succ j => simp at hu⟩⟩
    case c2 => (intro u hu; simp at hu; subst hu; rfl)
    case c3 => (have := HBD.out; simp only [maxLen]; omega)
    case c4 => (have := HBD.out; omega)
    intro v' w5 hapd
    obtain ⟨al', capl', rfl, _⟩ := hapd.own.2
    have HA := Lib.hid hapd
    have hn5 := HN5.out w5 _ hapd
    have hS5 : _ ∧ _ ∧ _ ∧ _ ∧ _ ∧ _ ∧ _ := HS5.out w5 hn5
    have hz5 : w5.frozen? ⟨pt, 0, none⟩ = false := HZ5.out w5 hn5
    have hp5 := hS5.1
    have HN := Lib.hid hn5
    clear hapd hn5
    replace hS := hS5
    refine hK _ _ (fun _ => ?_) (?_)
    · exact hS5
    clear hK K
    try simp only [Act.put, List.setIfInBounds_toArray, List.set_cons_zero, List.set_cons_succ]
    refine Mask.take 10 52 (v := ?_) rfl rfl (by kernel_rfl) (by kernel_rfl) (by kernel_rfl) rfl (by kernel_rfl) (by kernel_rfl) (fun _ _ _ h => h) hS (Or.inl ⟨by rfl, ?_⟩) ?_
    rotate_left
    · intro w hSw; (try dsimp only at hSw); go_simp; try with_reducible rfl
    simp only [Act.put, List.setIfInBounds_toArray, List.set_cons_zero, List.set_cons_succ]
    refine Mask.take 11 53 (v := ?_) rfl rfl (by kernel_rfl) (by kernel_rfl) (by kernel_rfl) rfl (by kernel_rfl) (by kernel_rfl) (fun _ _ _ h => h) hS (Or.inl ⟨by rfl, ?_⟩) ?_
    rotate_left
    · intro w hSw; (try dsimp only at hSw); go_simp; try with_reducible rfl
    simp only [Act.put, List.setIfInBounds_toArray, List.set_cons_zero, List.set_cons_succ]
    -- 12: store T204 t53 t51
    refine Mask.one 12 (by kernel_rfl) rfl rfl (fun K hK => ?_)
    go_simp
    refine hK _ _ (fun h => (by cases h)) ?_
    clear hK K
    try simp only [Act.put, List.setIfInBounds_toArray, List.set_cons_zero, List.set_cons_succ]
    refine Mask.done (by kernel_rfl) ?_ _
    clear hS hS5
    go_wp2
    refine bodyPost_ret (v := .tuple #[.int .i64 ((T.ents.length : Int) + 1), .bool true]) (by simp [results, Try.results73, go_sem]) rfl ?_
    rw [HM.out]
    have hapd := HA.out
    have hn := HN.out
    have h8 := H8.out
    have h2 := HH2.out
    have h8e := H8E.out
    have hp2 := h2.hpt
    have hpl2 := lt_of_heap hp2
    have hpv : blk (.slice al T.ents.length capl) ≠ some pt := fun e => by have := h2.kvl pt e; rw [h2.kpt] at this; cases this
    have hev : blk (.slice al T.ents.length capl) ≠ some W2.heap.size := fun e => by have := h2.own.lt _ e; omega
    have hS3 : Sup (upd κ2 W2.heap.size (.ent wi T.ents.length)) ((W2.drew.alloc (.cells #[(Value.slice a2' r.nodes.length c2'), (Value.slice a3' r.infos.length c3'), (Value.int .i64 r.keep), (Value.int .i64 r.way), (Value.int .i64 r.old), (Value.int .i64 r.new), Value.int .u8 1, Value.bool false] 203)).alloc (.cells #[Value.pointer (some ⟨W2.heap.size, 0, none⟩)] 200)) := hS2.upd _ (by simp; omega) (by simp; omega)
    have hE3 : Ext κ2 (upd κ2 W2.heap.size (.ent wi T.ents.length)) W2 := Ext.upd _ _ _ (Nat.le_refl _)
    obtain ⟨κ', hE4, hS4, hk4⟩ := hapd.kind hS3 (.sh wi 5) (fun g hg => by rw [hE3 g (h2.own.lt g hg)]; exact h2.kvl g hg)
    have hE5 : Ext κ2 κ' W2 := hE3.trans hE4 (by simp; omega)
    have hsz : W2.heap.size + 2 ≤ w5.heap.size := by have := hapd.size; simp at this; omega
    have hke : κ' W2.heap.size = .ent wi T.ents.length := (hE4 _ (by simp; omega)).trans (upd_at _ _ _)
    have hkp : κ' pt = .sh wi 4 := (hE5 pt hpl2).trans h2.kpt
    have hfo : ∀ b, b ≠ pt → (w5.setCell ⟨pt, 0, none⟩ (Value.slice al' (T.ents.length + 1) capl')).heap[b]? = w5.heap[b]? := fun b hb => Below.heap_setCell _ _ _ _ hb
    have hold : ∀ b, b < W2.heap.size → b ≠ pt → κ2 b ≠ .sh wi 5 → (w5.setCell ⟨pt, 0, none⟩ (Value.slice al' (T.ents.length + 1) capl')).heap[b]? = W2.heap[b]? := fun b hb h1 hk =>
      (hfo b h1).trans ((hn b (by omega) (fun e => hk (h2.kvl b e))).trans (h8 b hb))
    have hnp : W2.heap.size ≠ pt := by omega
    refine ⟨κ', rfl, ⟨.slice al' (T.ents.length + 1) capl', bs ++ [W2.heap.size], hkp, ?_, ?_, hk4, by simp [h2.len], ?_, by simp; have := HBD.out; omega⟩, ?_, (hE2.trans hE5 (by have := HB2'.out.size; omega)), hS4.mono (by simp [World.setCell])⟩
    · rw [heap_setCell_at ((hn pt (by omega) hpv).trans ((h8 pt hpl2).trans hp2))]; rfl
    · have := hapd.own.move (w' := w5.setCell ⟨pt, 0, none⟩ (Value.slice al' (T.ents.length + 1) capl')) fun g hg => hfo g (by intro e; have := hk4 g hg; rw [e, hkp] at this; cases this)
      simpa [ptrVs] using this
    · intro i e hi
      by_cases hil : i < T.ents.length
      · simp only [List.getElem?_append_left hil] at hi
        obtain ⟨b, vn, vi, h1, hen⟩ := h2.ents i e hi
        refine ⟨b, vn, vi, by rw [List.getElem?_append_left (by have := h2.len; omega)]; exact h1, hen.keep (fun c hc hk => hold c hc ?_ ?_) (by simp [World.setCell]; omega) hE5⟩
        · intro e; rw [e, h2.kpt] at hk; rcases hk with hk | hk <;> cases hk
        · intro e; rw [e] at hk; rcases hk with hk | hk <;> cases hk
      · have hie : i = T.ents.length := by
          have := (List.getElem?_eq_some_iff.1 hi).1
          simp at this; omega
        subst hie
        simp only [List.getElem?_concat_length, Option.some.injEq] at hi
        subst hi
        have hkeep : ∀ c, c < W2.heap.size → κ2 c = .imm → (w5.setCell ⟨pt, 0, none⟩ (Value.slice al' (T.ents.length + 1) capl')).heap[c]? = W2.heap[c]? := fun c hc hk => hold c hc (by intro e; rw [e, h2.kpt] at hk; cases hk) (by rw [hk]; intro e; cases e)
        refine ⟨W2.heap.size, _, _, by rw [← h2.len]; simp, hke, (hfo _ hnp).trans ((hn _ (by omega) hev).trans h8e), HR2.out.keep hkeep (by simp [World.setCell]; omega) hE5, HR3.out.keep hkeep (by simp [World.setCell]; omega) hE5, ⟨hsn, hsi, HKP.out, HLEN.out⟩⟩
    · have f1 : Fr κ (K.recs wi) w W2 := Fr.below HB2'.out
      have f2 : Fr κ (K.recs wi) w w5 := ⟨hapd.os.trans f1.os, hapd.tape.trans f1.tape, hapd.output.trans f1.output, by have := f1.size; omega, fun b hb hSb => (hn b (by have := f1.size; omega) (fun e => by have := h2.kvl b e; rw [hE2 b hb] at this; rw [this] at hSb; simp [K.recs] at hSb)).trans ((h8 b (by have := f1.size; omega)).trans (f1.block b hb hSb))⟩
      exact f2.any (fun hlt => by rw [← hE2 pt hlt, h2.kpt]; simp [K.recs]) _
end
end Go.Proofs.Ytacmeafpieoaaaa
