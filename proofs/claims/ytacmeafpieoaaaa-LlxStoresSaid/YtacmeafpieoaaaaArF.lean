/- The arena's Free. -/
import Derived.Test.YtacmeafpieoaaaaArE
namespace Go.Proofs.Ytacmeafpieoaaaa
open Go.RowKit

theorem info3 : (Try.prog.info? 3).map (fun i => (i.zero, i.size, i.bytes)) = some (some (.int .i64 0), 1, 8) := by kernel_rfl

def ArS.drop (A : ArS) (r : Int) : Bool × ArS :=
  match A.idx r with
  | some i => (match A.slots[i]? with | some s => (true, { A.put i { s with used := false } with free := A.free ++ [i], used := wrap64 (A.used - 1) }) | none => (false, A))
  | none => (false, A.fault)

section
variable {κ κ' : Nat → K} {w w' : World} {wi pa : Nat} {vs vf : Value} {raw : List Value} {A : ArS}

/-- Another row of free places, another count. -/
theorem ArAt.newFree (h : ArAt κ w wi pa vs vf raw A) (v' : Value) (free' : List Nat) (used' : Int) (hE : Ext κ κ' w) (hb : ∀ b, b < w.heap.size → b ≠ pa → κ b ≠ .sh wi 3 → κ b ≠ .none → w'.heap[b]? = w.heap[b]?) (hs : w.heap.size ≤ w'.heap.size)
    (hpa' : w'.heap[pa]? = some (.cells #[vs, v', .int .i64 A.most, .int .i64 used', .int .i64 A.faults] 154 (0, 0))) (hf : Own w' 3 1 v' free'.length (free'.map fun p : Nat => Value.int .i64 (p : Int))) (hk : ∀ g, blk v' = some g → κ' g = .sh wi 3) :
    ArAt κ' w' wi pa vs v' raw { A with free := free', used := used' } := by
  have hpl := lt_of_heap h.hpa
  refine ⟨(hE pa hpl).trans h.kpa, hpa', h.own.move fun g hg => ?_, fun g hg => (hE g (h.own.lt g hg)).trans (h.kvs g hg), ?_, hf, hk, h.bound⟩
  · have hkg := h.kvs g hg
    exact hb g (h.own.lt g hg) (by intro e; rw [e, h.kpa] at hkg; cases hkg) (by rw [hkg]; intro e; cases e) (by rw [hkg]; intro e; cases e)
  · intro i s hi
    obtain ⟨v2, v3, v4, v5, hv⟩ := h.slots i s hi
    refine ⟨v2, v3, v4, v5, hv.keep (fun b h1 h2 => hb b h1 ?_ ?_ ?_) hs hE⟩
    · intro e; rw [e, h.kpa] at h2; rcases h2 with h2 | h2 <;> cases h2
    · intro e; rw [e] at h2; rcases h2 with h2 | h2 <;> cases h2
    · intro e; rw [e] at h2; rcases h2 with h2 | h2 <;> cases h2

set_option maxRecDepth 100000 in
set_option maxHeartbeats 1000000 in
theorem free_ok (h : ArRep κ w wi pa A) (hS : Sup κ w) (hfb : A.free.length ≤ 100000) (r : Int) : Calls Try.prog 104 #[.pointer (some ⟨pa, 0, none⟩), .int .i64 r] w fun e w' =>
    ∃ κ', e = .returned (.bool (A.drop r).1) ∧ ArRep κ' w' wi pa (A.drop r).2 ∧ Fr κ (K.arena wi) w w' ∧ Ext κ κ' w ∧ Sup κ' w' := by
  obtain ⟨vs, vf, raw, h⟩ := h
  obtain ⟨i0, hi3, hz0, hz1, hz2⟩ := info_parts info3
  have HSUP := Lib.hid hS
  clear hS
  go_enter Try.func104, Try.ntmps104
  go_wp2_with fail
  refine (at_ok h r).mono ?_
  rintro e w' hh
  cases hh with
  | hit i s bs o cap hi hs hv =>
    have HI := Lib.hid hi
    have HS := Lib.hid hs
    have HPL := Lib.hid (show placeOf r = (i : Int) from (ArS.idx_some hi).choose_spec.2.2.1)
    have H := Lib.hid h
    obtain ⟨v2, v3, v4, v5, hsv, hc, hz, hil, hkb, hlt⟩ := h.hitAt hs hv
    have hc9 := hc _ _ hsv.c9
    have hz9 := hz (o + i * 10 + 9)
    rw [← Nat.add_assoc] at hc9
    have HF := Lib.hid (h.store hs hv 9 (by decide) (.bool false) (s' := { s with used := false }) (fun _ _ _ _ hl hh => hh.setUsed false hl))
    obtain ⟨af, capf, rfl, _⟩ := h.fown.2
    have hf1 := HF.out.1.pcell 1
    simp only [List.getElem?_toArray, List.getElem?_cons_succ, List.getElem?_cons_zero] at hf1
    have HFB := Lib.hid hfb
    have HKF := Lib.hid h.kvf
    have hpb0 : pa < w.heap.size := lt_of_heap h.hpa
    clear hi hs hv h hil hsv hkb hlt hc hz hfb
    go_wp2_with fail
    have HKP := Lib.hid H.out.kpa
    generalize hW : w.setCell ⟨bs, o + i * 10 + 9, none⟩ (Value.bool false) = W
    have hpb : pa < W.heap.size := by rw [← hW]; simpa [World.setCell] using hpb0
    rw [hW] at hf1 HF
    have HPA := Lib.hid HF.out.1.hpa
    have HOWN := Lib.hid (show Own ((W.alloc (Obj.cells #[Value.int .i64 (placeOf r)] 3)).drew) 3 1 (.slice af A.free.length capf) A.free.length (A.free.map fun p : Nat => Value.int .i64 (p : Int)) from
      (HF.out.1.fown).move fun g hg => Below.heap_alloc _ _ _ (HF.out.1.fown.lt g hg))
    have HW := Lib.hid hW
    clear hW hc9 hz9
    have hS : W.drew.cell? ⟨pa, 1, none⟩ = some (Value.slice af A.free.length capf) := hf1
    refine Mask.begin_ (fun W' => W'.cell? ⟨pa, 1, none⟩ = some (Value.slice af A.free.length capf)) (fun i => i != 9 && i != 10 && i != 11) (by kernel_rfl) ?_
    refine Mask.take 0 14 (v := ?_) rfl rfl (by kernel_rfl) (by kernel_rfl) (by kernel_rfl) rfl (by kernel_rfl) (by kernel_rfl) (fun _ _ _ h => h) hS (Or.inl ⟨by rfl, ?_⟩) ?_
    rotate_left
    · intro w hSw; (try dsimp only at hSw); go_simp; try with_reducible rfl
    simp only [Act.put, List.setIfInBounds_toArray, List.set_cons_zero, List.set_cons_succ]
    refine Mask.take 1 15 (v := ?_) rfl rfl (by kernel_rfl) (by kernel_rfl) (by kernel_rfl) rfl (by kernel_rfl) (by kernel_rfl) (fun _ _ _ h => h) hS (Or.inl ⟨by rfl, ?_⟩) ?_
    rotate_left
    · intro w hSw; (try dsimp only at hSw); go_simp; try with_reducible rfl
    simp only [Act.put, List.setIfInBounds_toArray, List.set_cons_zero, List.set_cons_succ]
    refine Mask.take 2 16 (v := ?_) rfl rfl (by kernel_rfl) (by kernel_rfl) (by kernel_rfl) rfl (by kernel_rfl) (by kernel_rfl) (fun _ _ _ h => h) hS (Or.inl ⟨by rfl, ?_⟩) ?_
    rotate_left
    · intro w hSw; (try dsimp only at hSw); go_simp; try with_reducible rfl
    simp only [Act.put, List.setIfInBounds_toArray, List.set_cons_zero, List.set_cons_succ]
    refine Mask.take 3 17 (v := ?_) rfl rfl (by kernel_rfl) (by kernel_rfl) (by kernel_rfl) rfl (by kernel_rfl) (by kernel_rfl) (fun _ _ _ h => h) hS (Or.inl ⟨by rfl, ?_⟩) ?_
    rotate_left
    · intro w hSw; (try dsimp only at hSw); go_simp; try with_reducible rfl
    simp only [Act.put, List.setIfInBounds_toArray, List.set_cons_zero, List.set_cons_succ]
    refine Mask.take 4 18 (v := ?_) rfl rfl (by kernel_rfl) (by kernel_rfl) (by kernel_rfl) rfl (by kernel_rfl) (by kernel_rfl) (fun _ _ _ h => h) hS (Or.inl ⟨by rfl, ?_⟩) ?_
    rotate_left
    · intro w hSw; (try dsimp only at hSw); go_simp; try with_reducible rfl
    simp only [Act.put, List.setIfInBounds_toArray, List.set_cons_zero, List.set_cons_succ]
    refine Mask.take 5 19 (v := ?_) rfl rfl (by kernel_rfl) (by kernel_rfl) (by kernel_rfl) rfl (by kernel_rfl) (by kernel_rfl) (fun _ _ _ h => h) hS (Or.inl ⟨by rfl, ?_⟩) ?_
    rotate_left
    · intro w hSw; (try dsimp only at hSw); go_simp; try with_reducible rfl
    simp only [Act.put, List.setIfInBounds_toArray, List.set_cons_zero, List.set_cons_succ]
    -- 6: call F144[t19] types#[41]
    refine Mask.one 6 (by kernel_rfl) rfl rfl (fun K hK => ?_)
    go_simp
    refine (place_any _ _).mono ?_
    rintro e w' ⟨rfl, rfl⟩
    refine hK _ _ (fun _ => ?_) (?_)
    · exact hS
    clear hK K
    try simp only [Act.put, List.setIfInBounds_toArray, List.set_cons_zero, List.set_cons_succ]
    -- 7: buildSlice T118 1 [(0, t20)]
    refine Mask.one 7 (by kernel_rfl) rfl rfl (fun K hK => ?_)
    go_simp
    refine hK _ _ (fun _ => ?_) (?_)
    · exact (World.cell?_alloc_past _ _ _ hpb).trans hf1
    clear hK K
    try simp only [Act.put, List.setIfInBounds_toArray, List.set_cons_zero, List.set_cons_succ]
    -- 8: builtin append[t18, t21] types#[118, 118]
    refine Mask.one 8 (by kernel_rfl) rfl rfl (fun K hK => ?_)
    refine wp_append_row _ _ 118 rfl 3 i0 (.int .i64 0) 1 8 Try.underlying118 hi3 hz0 hz1 hz2 rfl (by decide) _ A.free.length (A.free.map fun p : Nat => Value.int .i64 (p : Int)) rfl HOWN.out _ 1 1 [.int .i64 (placeOf r)] rfl ?c1 ?c2 ?c3 ?c4 ?_
    case c1 => exact ⟨rfl, .inr ⟨_, rfl, fun j u hu => by cases j with | zero => (simp at hu; subst hu; exact cell_of_heap (Laws.heap_new W _)) | succ j => simp at hu⟩⟩
    case c2 => (intro u hu; simp at hu; subst hu; rfl)
    case c3 => (have := HFB.out; simp only [maxLen]; omega)
    case c4 => (have := HFB.out; omega)
    intro v' w3 hapd
    obtain ⟨af', capf', rfl, _⟩ := hapd.own.2
    have HA := Lib.hid hapd
    have hn : ∀ b, b < W.heap.size → κ b ≠ .sh wi 3 → w3.heap[b]? = W.heap[b]? := fun b hb hk => (hapd.block b (by simp; omega) (fun e => hk (HKF.out b e))).trans (Below.heap_alloc _ _ _ hb)
    have HN := Lib.hid hn
    have hpa3 := (hn pa hpb (by rw [HKP.out]; intro e; cases e)).trans HPA.out
    have hz1' : w3.frozen? ⟨pa, 1, none⟩ = false := frozen_of_heap hpa3
    have hz3' : w3.frozen? ⟨pa, 3, none⟩ = false := frozen_of_heap hpa3
    have hc1' : w3.cell? ⟨pa, 1, none⟩ = some (Value.slice af A.free.length capf) := by rw [cell_of_heap hpa3]; rfl
    have hc3' : w3.cell? ⟨pa, 3, none⟩ = some (Value.int .i64 A.used) := by rw [cell_of_heap hpa3]; rfl
    have HP3 := Lib.hid hpa3
    clear hapd hn hpa3
    refine hK _ _ (fun _ => ?_) (?_)
    · exact hc1'
    clear hK K
    try simp only [Act.put, List.setIfInBounds_toArray, List.set_cons_zero, List.set_cons_succ]
    refine Mask.takeP 9 23 (v := ?_) rfl rfl (by kernel_rfl) (by kernel_rfl) (by kernel_rfl) rfl (fun _ _ _ h => h) (Or.inl ⟨by rfl, ?_⟩) ?_
    rotate_left
    · intro w hSw; (try dsimp only at hSw); go_simp; try with_reducible rfl
    simp only [Act.put, List.setIfInBounds_toArray, List.set_cons_zero, List.set_cons_succ]
    refine Mask.takeP 10 24 (v := ?_) rfl rfl (by kernel_rfl) (by kernel_rfl) (by kernel_rfl) rfl (fun _ _ _ h => h) (Or.inl ⟨by rfl, ?_⟩) ?_
    rotate_left
    · intro w hSw; (try dsimp only at hSw); go_simp; try with_reducible rfl
    simp only [Act.put, List.setIfInBounds_toArray, List.set_cons_zero, List.set_cons_succ]
    -- 11: store T118 t24 t22
    refine Mask.one 11 (by kernel_rfl) rfl rfl (fun K hK => ?_)
    go_simp
    refine hK _ _ (fun h => (by cases h)) ?_
    clear hK K
    try simp only [Act.put, List.setIfInBounds_toArray, List.set_cons_zero, List.set_cons_succ]
    refine Mask.done (by kernel_rfl) ?_ _
    clear hS hf1
    go_wp2
    go_ret
    have hapd := HA.out
    have hn := HN.out
    have hF := HF.out
    have hsup : Sup κ ((W.alloc (Obj.cells #[Value.int .i64 (placeOf r)] 3)).drew) := HSUP.out.mono (by simp; have := hF.2.size; omega)
    obtain ⟨κ', hE, hs', hk'⟩ := hapd.kind hsup (.sh wi 3) (fun g hg => HKF.out g hg)
    have hsz : W.heap.size ≤ w3.heap.size := by have := hapd.size; simp at this; omega
    have hE0 : Ext κ κ' W := fun b hb => hE b (by simp; omega)
    have hEw : Ext κ κ' w := fun b hb => hE0 b (by have := hF.2.size; omega)
    rw [show A.drop r = (true, { A.put i { s with used := false } with free := A.free ++ [i], used := wrap64 (A.used - 1) }) by simp only [ArS.drop, HI.out, HS.out]]
    refine ⟨κ', rfl, ⟨vs, _, _, hF.1.newFree (.slice af' (A.free.length + 1) capf') (A.free ++ [i]) (wrap64 (A.used - 1)) hE0 ?_ ?_ ?_ ?_ ?_⟩, ?_, hEw, hs'.mono (by simp [World.setCell])⟩
    · intro b hb h1 h2 _
      rw [Below.heap_setCell _ _ _ _ (by simpa using h1), Below.heap_setCell _ _ _ _ (by simpa using h1)]
      exact hn b hb h2
    · simp [World.setCell]; exact hsz
    · rw [heap_setCell_at (heap_setCell_at HP3.out _)]; rfl
    · have ho := hapd.own
      rw [HPL.out] at ho
      have hpw : κ' pa = .sh wi 1 := (hE0 pa hpb).trans HKP.out
      have : Own w3 3 1 (.slice af' (A.free.length + 1) capf') (A.free ++ [i]).length ((A.free ++ [i]).map fun p : Nat => Value.int .i64 (p : Int)) := by simpa using ho
      refine this.move fun g hg => ?_
      have hne : g ≠ pa := by intro e; have := hk' g hg; rw [e, hpw] at this; cases this
      rw [Below.heap_setCell _ _ _ _ hne, Below.heap_setCell _ _ _ _ hne]
    · exact fun g hg => hk' g hg
    · have f1 : Fr κ (K.arena wi) W w3 := ⟨hapd.os, hapd.tape, hapd.output, hsz, fun b hb hS => hn b hb (by intro e; rw [e] at hS; simp [K.arena] at hS)⟩
      exact ((hF.2.trans0 f1).trans0 (Fr.setCell ⟨pa, 1, none⟩ _ (by simp [HKP.out, K.arena]))).trans0 (Fr.setCell ⟨pa, 3, none⟩ _ (by simp [HKP.out, K.arena]))
  | miss hi =>
    have HI := Lib.hid hi
    have H := Lib.hid h
    clear hi h hfb
    go_wp2
    go_ret
    rw [show A.drop r = (false, A.fault) by simp only [ArS.drop, HI.out]]
    exact ⟨κ, rfl, ⟨vs, vf, raw, H.out.faulted⟩, H.out.frFault _ _, Ext.refl _ _, HSUP.out.mono (by simp [World.setCell])⟩
end
end Go.Proofs.Ytacmeafpieoaaaa
