/- arena.New, epoch.New. -/
import Derived.Test.YtacmeafpieoaaaaEp
namespace Go.Proofs.Ytacmeafpieoaaaa
open Go.RowKit

theorem info233 : (Try.prog.info? 233).map (fun i => (i.zero, i.size, i.bytes)) = some (some (.slice none 0 0), 1, 24) := by kernel_rfl

section
variable {κ : Nat → K} {w : World}

def ArS.empty (most : Int) : ArS := ⟨[], [], most, 0, 0⟩

theorem newArena_ok (wi : Nat) (hS : Sup κ w) (n : Int) (h0 : 0 ≤ n) (h1 : n ≤ 65536) : Calls Try.prog 136 #[.int .i64 n] w fun e w' =>
    ∃ κ' pa, e = .returned (.pointer (some ⟨pa, 0, none⟩)) ∧ ArRep κ' w' wi pa (ArS.empty n) ∧ Below w.heap.size w w' ∧ Ext κ κ' w ∧ Sup κ' w' := by
  have e0 : ¬ n < 0 := by omega
  have e1 : ¬ 65536 < n := by omega
  go_enter Try.func136, Try.ntmps136
  go_wp2
  go_ret
  refine ⟨upd κ w.heap.size (.sh wi 1), w.heap.size, rfl, ⟨.slice none 0 0, .slice none 0 0, [], upd_at _ _ _, Laws.heap_new w _, Own.nil _ _ _, by simp [blk], by simp [ArS.empty], Own.nil _ _ _, by simp [blk], by simp [ArS.empty]⟩,
    (Below.refl _ _).alloc (Nat.le_refl _) _, Ext.upd _ _ _ (Nat.le_refl _), hS.upd _ (by simp) (by simp)⟩

set_option maxRecDepth 100000 in
theorem newEpochs_ok (wi : Nat) (hS : Sup κ w) (n : Nat) (h1 : 1 ≤ n) (h2 : n ≤ 64) : Calls Try.prog 138 #[.int .i64 n] w fun e w' =>
    ∃ κ' pe, e = .returned (.pointer (some ⟨pe, 0, none⟩)) ∧ EpRep κ' w' wi pe ⟨0, List.replicate n (-1)⟩ ∧ Below w.heap.size w w' ∧ Ext κ κ' w ∧ Sup κ' w' := by
  obtain ⟨i0, hi, hz0, hz1, hz2⟩ := info_parts info233
  obtain ⟨j0, hj, hy0, hy1, hy2⟩ := info_parts info2
  have hmk := fun w => run_make (P := Try.prog) w 196 233 i0 (.slice none 0 0) Try.underlying196 hi hz0 .i64 .i64 (n : Int) (n : Int) (by omega) (Int.le_refl _) (by rw [hz2]; omega) (by omega)
  have hmx : max (n : Int) 0 = n := by omega
  have hmn : min (n : Int) 64 = n := by omega
  simp only [hz1] at hmk
  go_enter Try.func138, Try.ntmps138
  go_wp2
  clear hmk
  generalize hW0 : ((w.alloc (Obj.cells (madeCells #[Value.slice none 0 0] n) 233)).alloc (Obj.cells #[Value.int IntKind.i64 0, Value.slice none 0 0, Value.slice (some { block := w.heap.size, off := 0 }) n n] 198)) = W0
  have hB0 : Below w.heap.size w W0 := hW0 ▸ ((Below.refl _ _).alloc (Nat.le_refl _) _).alloc (by simp) _
  have hp0 : W0.heap[w.heap.size + 1]? = some (.cells #[Value.int IntKind.i64 0, Value.slice none 0 0, Value.slice (some { block := w.heap.size, off := 0 }) n n] 198 (0, 0)) := by
    rw [← hW0]
    have := Laws.heap_new (w.alloc (Obj.cells (madeCells #[Value.slice none 0 0] n) 233)) (Obj.cells #[Value.int IntKind.i64 0, Value.slice none 0 0, Value.slice (some { block := w.heap.size, off := 0 }) n n] 198)
    simpa using this
  have hl0 : W0.heap[w.heap.size]? = some (.cells (madeCells #[Value.slice none 0 0] n) 233 (0, 0)) := by
    rw [← hW0, Below.heap_alloc _ _ _ (by simp)]
    exact Laws.heap_new w _
  have HS := Lib.hid hS
  clear hW0 hS
  go_loopw [12] (fun i wr => ∃ k : Nat, k ≤ n ∧ i = .int .i64 k ∧ ∃ vs, wr.heap[w.heap.size + 1]? = some (.cells #[.int .i64 0, vs, .slice (some ⟨w.heap.size, 0, none⟩) n n] 198 (0, 0)) ∧ Own wr 2 1 vs k (intVs (List.replicate k (-1))) ∧ (∀ g, blk vs = some g → w.heap.size + 2 ≤ g) ∧
      wr.heap[w.heap.size]? = some (.cells (madeCells #[Value.slice none 0 0] n) 233 (0, 0)) ∧ Below w.heap.size w wr) (fun i _ => n - (intOf i).toNat)
  case atStart => exact ⟨0, Nat.zero_le _, rfl, _, hp0, Own.nil _ _ _, by simp [blk], hl0, hB0⟩
  case round =>
    clear hp0 hl0 hB0
    obtain ⟨k, hk, rfl, vs, hp, hown, hbk, hl, hB⟩ := hrel
    obtain ⟨_, a, cap, rfl, hle, hcm, hor⟩ := id hown
    have hc1 : wr.cell? ⟨w.heap.size + 1, 1, none⟩ = some (.slice a k cap) := by rw [cell_of_heap hp]; rfl
    have hpl := lt_of_heap hp
    have hz1 : wr.frozen? ⟨w.heap.size + 1, 1, none⟩ = false := frozen_of_heap hp
    have HOR := Lib.hid hor
    have HP := Lib.hid hp
    have HL := Lib.hid hl
    clear hor hp hl
    go_wp2_with (at_builtin; refine wpList_append_row rfl _ _ 22 rfl 2 j0 (.int .i64 0) 1 8 Try.underlying22 hj hy0 hy1 hy2 rfl (by decide) _ k (intVs (List.replicate k (-1))) rfl ?c0 (some ⟨wr.heap.size, 0, none⟩) 1 1 [.int .i64 (-1)] rfl ?c1 ?c4 ?c2 ?c3 ?_)
    case c0 => exact hown.move fun g hg => Below.heap_alloc _ _ _ (hown.lt g hg)
    case c1 => exact ⟨rfl, .inr ⟨_, rfl, fun j u hu => by rw [Addr.add_lit, cell_of_heap (Laws.heap_new wr _)]; simpa using hu⟩⟩
    case c4 => intro u hu; simp only [List.mem_cons, List.not_mem_nil, or_false] at hu; subst hu; rfl
    case c2 => simp only [maxLen]; omega
    case c3 => omega
    · intro v' w3 hapd
      have hblk : ∀ b, b < w.heap.size + 2 → w3.heap[b]? = wr.heap[b]? := fun b hb => (hapd.block b (by simp; omega) (fun e => by have := hbk b e; omega)).trans (Below.heap_alloc _ _ _ (by omega))
      have hp3 := (hblk _ (by omega)).trans HP.out
      have hz3 : w3.frozen? ⟨w.heap.size + 1, 1, none⟩ = false := frozen_of_heap hp3
      have hc3 : w3.cell? ⟨w.heap.size + 1, 1, none⟩ = some (.slice a k cap) := by rw [cell_of_heap hp3]; rfl
      have hlt : k < n := by omega
      obtain ⟨a', cap', rfl, _⟩ := hapd.own.2
      have HA := Lib.hid hapd
      have HB3 := Lib.hid hblk
      have HP3 := Lib.hid hp3
      clear hapd hblk hp3
      go_wp2
      go_roundw
      case rel =>
        have hat := HA.out.at_
        have hbk' : ∀ g, blk (Value.slice a' (k + 1) cap') = some g → w.heap.size + 2 ≤ g := fun g hg => by
          rcases hat with e | e
          · exact hbk g (e ▸ hg)
          · rw [hg] at e; simp at e; omega
        refine ⟨k + 1, by omega, by go_num, _, ?_, (by simpa [intVs, List.replicate_succ'] using HA.out.own : Own w3 2 1 (.slice a' (k + 1) cap') (k + 1) (intVs (List.replicate (k + 1) (-1)))).move fun g hg => Below.heap_setCell _ _ _ _ (by have := hbk' g hg; simp; omega), hbk', ?_, ?_⟩
        · rw [heap_setCell_at HP3.out]; rfl
        · rw [Below.heap_setCell _ _ _ _ (by simp)]; exact (HB3.out _ (by omega)).trans HL.out
        · refine Below.setCell (hB.trans ?_) (by simp) _
          have hs := HA.out.size
          exact ⟨HA.out.os, HA.out.tape, HA.out.output, by simp at hs; omega, fun b hb => HB3.out b (by omega)⟩
      case measure => simp [intOf]; omega
    · have hkn : k = n := by omega
      subst hkn
      go_ret
      obtain ⟨κ', hκ'⟩ : ∃ κ' : Nat → K, κ' = fun b => if some b = blk (Value.slice a k cap) then .sh wi 7 else if b = w.heap.size + 1 then .sh wi 6 else if b = w.heap.size then .sh wi 8 else κ b := ⟨_, rfl⟩
      have hlt := hown.lt
      have k7 : ∀ g, blk (Value.slice a k cap) = some g → κ' g = .sh wi 7 := fun g hg => by rw [hκ']; simp only [hg, if_true]
      have n7 : ∀ b, b < w.heap.size + 2 → ¬ some b = blk (Value.slice a k cap) := fun b hb e => by have := hbk b e.symm; omega
      have k6 : κ' (w.heap.size + 1) = .sh wi 6 := by rw [hκ']; simp only [if_neg (n7 (w.heap.size + 1) (by omega)), if_true]
      have k8 : κ' w.heap.size = .sh wi 8 := by rw [hκ']; simp only [if_neg (n7 w.heap.size (by omega)), if_neg (show ¬ w.heap.size = w.heap.size + 1 by omega), if_true]
      have hls := lt_of_heap HL.out
      refine ⟨κ', w.heap.size + 1, rfl, ⟨.slice a k cap, _, k6, HP.out, by simpa using hown, k7, ?_⟩, hB, fun b hb => ?_, fun b hb => ?_⟩
      · refine ⟨by simp, some ⟨w.heap.size, 0, none⟩, k, by simp, by simp, by simp, .inr ⟨w.heap.size, 0, rfl, hls, k8, fun j u hu => ?_, fun j => frozen_of_heap HL.out⟩⟩
        rw [cell_of_heap HL.out, Nat.zero_add]
        have hj : j < k := by have := (List.getElem?_eq_some_iff.1 hu).1; simpa using this
        simp only [List.length_replicate, List.getElem?_replicate, hj, if_true, Option.some.injEq] at hu
        subst hu
        simp [madeCells, hj, Nat.mod_one]
      · rw [hκ']; simp only [if_neg (n7 b (by omega)), if_neg (show ¬ b = w.heap.size + 1 by omega), if_neg (show ¬ b = w.heap.size by omega)]
      · have h7 : ¬ some b = blk (Value.slice a k cap) := fun e => by have := hlt b e.symm; omega
        rw [hκ']; simp only [if_neg h7, if_neg (show ¬ b = w.heap.size + 1 by omega), if_neg (show ¬ b = w.heap.size by omega)]
        exact HS.out b (by omega)
end
end Go.Proofs.Ytacmeafpieoaaaa
