/- The arena's Alloc. -/
import Derived.Test.YtacmeafpieoaaaaArG
import Derived.StillTactics
namespace Go.Proofs.Ytacmeafpieoaaaa
open Go.RowKit

/-- A region of loads that draws, from a world that bears a name. -/
theorem wp_still_at {P : Program} {id : Nat} {Q : Exit → Act → World → Prop} {a : Act} {w : World} {l : List Oper} (hm : P.follows .mixedOrders = true) (hB : Region.lexB .any l.toArray = true) (W : World) (hW : w.drew = W)
    (h : wpStill P l.toArray W (fun a' => Q .normal a' W) l a) : (Code.region id l.toArray true).wp P Q a w := wp_region_still_lit hm hB (by subst hW; exact h)

def wrap32 (x : Int) : Int := x % 4294967296
/-- A place is taken: of the free ones, or behind all. -/
def ArS.reserve (A : ArS) : Nat × ArS := match A.free with
  | p :: f => (p, { A with free := f })
  | [] => (A.slots.length, { A with slots := A.slots ++ [zeroSlot] })
def ArS.fillAt (A : ArS) (i : Nat) (n : NodeS) : Int × ArS := match A.slots[i]? with
  | some s => (refOf i (wrap32 (s.count + 1)), { A.put i ⟨n, n.ways, 0, false, wrap32 (s.count + 1), true⟩ with used := wrap64 (A.used + 1) })
  | none => (0, A)
def ArS.alloc (A : ArS) (n : NodeS) : (Int × Bool) × ArS :=
  if A.most ≤ A.used then ((0, false), A) else ((((A.reserve.2).fillAt A.reserve.1 n).1, true), ((A.reserve.2).fillAt A.reserve.1 n).2)

section
variable {κ : Nat → K} {w : World} {wi pa : Nat} {A : ArS}

set_option maxRecDepth 100000 in
set_option maxHeartbeats 1000000 in
theorem alloc_full (h : ArRep κ w wi pa A) (hu : A.most ≤ A.used) (b1 b2 : Bool) (vp vk vw : Value) : Calls Try.prog 42 #[.pointer (some ⟨pa, 0, none⟩), .agg #[.bool b1, .bool b2, vp, vk, vw]] w fun e w' =>
    e = .returned (.tuple #[.int .i64 0, .bool false]) ∧ Fr κ (K.arena wi) w w' := by
  obtain ⟨vs, vf, raw, h⟩ := h
  have hlt : decide (A.most ≤ A.used) = true := by simpa using hu
  go_enter Try.func42, Try.ntmps42
  go_wp2
  generalize hW : (w.alloc (Obj.cells #[Value.bool b1, Value.bool b2, vp, vk, vw] 60)).drew = W
  have hB : Below w.heap.size w W := hW ▸ ((Below.refl _ _).alloc (Nat.le_refl _) _).drew
  have h' := h.keep (κ' := κ) (fun b hb _ => hB.block b hb) hB.size (Ext.refl _ _)
  have hp2 := h'.pcell 2
  have hp3 := h'.pcell 3
  simp only [List.getElem?_toArray, List.getElem?_cons_succ, List.getElem?_cons_zero] at hp2 hp3
  refine wp_still_at (by kernel_rfl) (by kernel_rfl) W hW ?_
  clear hW h' h
  repeat still_step
  refine wpStill_nil ?_
  go_wp2
  refine bodyPost_ret (v := .tuple #[.int .i64 0, .bool false]) (by simp [results, Try.results42, go_sem]) rfl ?_
  exact ⟨rfl, Fr.below hB⟩

theorem Fr.any {κ : Nat → K} {S : K → Bool} {w w' : World} (h : Fr κ S w w') {p : Addr} (hp : p.block < w.heap.size → S (κ p.block) = true) (v : Value) : Fr κ S w (w'.setCell p v) :=
  ⟨h.os, h.tape, h.output, by have := h.size; simp [World.setCell]; exact this, fun b hb hS => by
    rw [Below.heap_setCell _ _ _ _ (by intro e; rw [e] at hb hS; rw [hp hb] at hS; cases hS)]; exact h.block b hb hS⟩

theorem Own.slot {w : World} {g o cap N i : Nat} {raw : List Value} (h : Own w 167 10 (.slice (some ⟨g, o, none⟩) N cap) N raw) (hi : i < N) (u0 u1 u2 u3 u4 u5 u6 u7 u8 u9 : Value) :
    ∃ raw', Own ((((((((((w.setCell ⟨g, o + i * 10, none⟩ u0).setCell ⟨g, o + i * 10 + 1, none⟩ u1).setCell ⟨g, o + i * 10 + 2, none⟩ u2).setCell ⟨g, o + i * 10 + 3, none⟩ u3).setCell ⟨g, o + i * 10 + 4, none⟩ u4).setCell ⟨g, o + i * 10 + 5, none⟩ u5).setCell ⟨g, o + i * 10 + 6, none⟩ u6).setCell ⟨g, o + i * 10 + 7, none⟩ u7).setCell ⟨g, o + i * 10 + 8, none⟩ u8).setCell ⟨g, o + i * 10 + 9, none⟩ u9) 167 10 (.slice (some ⟨g, o, none⟩) N cap) N raw' ∧ (∀ j, (j < i * 10 ∨ i * 10 + 10 ≤ j) → raw'[j]? = raw[j]?) ∧
      raw'[i * 10]? = some u0 ∧ raw'[i * 10 + 1]? = some u1 ∧ raw'[i * 10 + 2]? = some u2 ∧ raw'[i * 10 + 3]? = some u3 ∧ raw'[i * 10 + 4]? = some u4 ∧ raw'[i * 10 + 5]? = some u5 ∧ raw'[i * 10 + 6]? = some u6 ∧ raw'[i * 10 + 7]? = some u7 ∧ raw'[i * 10 + 8]? = some u8 ∧ raw'[i * 10 + 9]? = some u9 := by
  have hl := h.1
  refine ⟨_, ((((((((((h.set' (o + i * 10) (i * 10) (by omega) (by omega) u0).set' (o + i * 10 + 1) (i * 10 + 1) (by omega) (by omega) u1).set' (o + i * 10 + 2) (i * 10 + 2) (by omega) (by omega) u2).set' (o + i * 10 + 3) (i * 10 + 3) (by omega) (by omega) u3).set' (o + i * 10 + 4) (i * 10 + 4) (by omega) (by omega) u4).set' (o + i * 10 + 5) (i * 10 + 5) (by omega) (by omega) u5).set' (o + i * 10 + 6) (i * 10 + 6) (by omega) (by omega) u6).set' (o + i * 10 + 7) (i * 10 + 7) (by omega) (by omega) u7).set' (o + i * 10 + 8) (i * 10 + 8) (by omega) (by omega) u8).set' (o + i * 10 + 9) (i * 10 + 9) (by omega) (by omega) u9), ?_, ?_, ?_, ?_, ?_, ?_, ?_, ?_, ?_, ?_, ?_⟩
  · intro j hj
    repeat rw [List.getElem?_set_ne (by omega)]
  all_goals
    repeat (first | rw [List.getElem?_set_ne (by omega)] | rw [List.getElem?_set_self (by (try simp only [List.length_set]); omega)])

theorem info167 : (Try.prog.info? 167).map (fun i => (i.zero, i.size, i.bytes)) = some (some (.agg #[.bool false, .bool false, .slice none 0 0, .slice none 0 0, .slice none 0 0, .slice none 0 0, .int .i64 0, .bool false, .int .u32 0, .bool false]), 10, 128) := by kernel_rfl
theorem zero10_one : OneCells zero10 := by intro u hu; simp only [zero10, List.mem_cons, List.not_mem_nil, or_false] at hu; rcases hu with rfl | rfl | rfl | rfl | rfl | rfl | rfl | rfl | rfl | rfl <;> rfl

set_option maxRecDepth 100000 in
set_option maxHeartbeats 1000000 in
theorem alloc_grow {n : NodeS} {vp vk vw : Value} (h : ArRep κ w wi pa A) (hS : Sup κ w) (hu : A.used < A.most) (hf0 : A.free = []) (hroom : A.slots.length < 65536)
    (hp : RowN κ (K.arena wi) w 2 vp n.pairs.length (pairVs n.pairs)) (hk : RowN κ (K.arena wi) w 1 vk n.keys.length (intVs n.keys)) (hw : RowN κ (K.arena wi) w 1 vw n.ways.length (intVs n.ways))
    (hsp : n.pairs.length ≤ 1048576) (hsk : n.keys.length ≤ 1048576) (hsw : n.ways.length ≤ 1048576) : Calls Try.prog 42 #[.pointer (some ⟨pa, 0, none⟩), .agg #[.bool n.inner, .bool n.tagged, vp, vk, vw]] w fun e w' =>
    ∃ κ', e = .returned (.tuple #[.int .i64 (A.alloc n).1.1, .bool true]) ∧ ArRep κ' w' wi pa (A.alloc n).2 ∧ Fr κ (K.arena wi) w w' ∧ Ext κ κ' w ∧ Sup κ' w' := by
  obtain ⟨vs, vf, raw, h⟩ := h
  obtain ⟨i0, hi167, hz0, hz1, hz2⟩ := info_parts info167
  have hlt : decide (A.most ≤ A.used) = false := by simpa using hu
  obtain ⟨a2, cap2, rfl, _, hno2⟩ := hp.shape
  obtain ⟨a3, cap3, rfl, _, hno3⟩ := hk.shape
  obtain ⟨a4, cap4, rfl, _, hno4⟩ := hw.shape
  go_enter Try.func42, Try.ntmps42
  go_wp2
  generalize hW : (w.alloc (Obj.cells #[Value.bool n.inner, Value.bool n.tagged, .slice a2 n.pairs.length cap2, .slice a3 n.keys.length cap3, .slice a4 n.ways.length cap4] 60)).drew = W
  have hB : Below w.heap.size w W := hW ▸ ((Below.refl _ _).alloc (Nat.le_refl _) _).drew
  have hbx : W.heap[w.heap.size]? = some (.cells #[Value.bool n.inner, Value.bool n.tagged, .slice a2 n.pairs.length cap2, .slice a3 n.keys.length cap3, .slice a4 n.ways.length cap4] 60 (0, 0)) := by
    rw [← hW]; exact Laws.heap_new w _
  have h' := h.keep (κ' := κ) (fun b hb _ => hB.block b hb) hB.size (Ext.refl _ _)
  have hpl : pa < W.heap.size := lt_of_heap h'.hpa
  have hp0 := h'.pcell 0
  have hp1 := h'.pcell 1
  have hp2 := h'.pcell 2
  have hp3 := h'.pcell 3
  have hz0' := h'.pfrozen 0
  simp only [List.getElem?_toArray, List.getElem?_cons_succ, List.getElem?_cons_zero] at hp0 hp1 hp2 hp3
  obtain ⟨_, as_, caps, rfl, hcs⟩ := h'.own
  obtain ⟨_, af, capf, rfl, hcf⟩ := h'.fown
  rw [hf0] at hp1
  have hown := h'.own
  refine wp_still_at (by kernel_rfl) (by kernel_rfl) W hW ?_
  clear hW
  repeat still_step
  refine wpStill_nil ?_
  have H := Lib.hid h'
  have HB := Lib.hid hB
  have HKS := Lib.hid h'.kvs
  clear h' h hB hcs hcf
  go_wp2_with (at_builtin; refine wpList_append_row rfl _ _ 152 rfl 167 i0 _ 10 128 Try.underlying152 hi167 hz0 hz1 hz2 rfl (by decide) _ A.slots.length raw rfl ?c0 (some ⟨W.heap.size, 0, none⟩) 1 1 zero10 rfl ?c1 zero10_one ?c2 ?c3 ?_)
  case c0 => exact hown.move fun g hg => Below.heap_alloc _ _ _ (hown.lt g hg)
  case c1 => exact ⟨rfl, .inr ⟨_, rfl, fun j u hu => by rw [Addr.add_lit, cell_of_heap (Laws.heap_new W _)]; simpa [zero10] using hu⟩⟩
  case c2 => simp only [maxLen]; omega
  case c3 => omega
  intro v' w3 hapd
  have hapd' := Lib.hid hapd
  obtain ⟨g, o, cap, rfl, hle, hbk, hgl, hgc, hgz⟩ := hapd.own.at (by omega) (by decide)
  have hn3 : ∀ b, b < W.heap.size → κ b ≠ .sh wi 2 → w3.heap[b]? = W.heap[b]? := fun b hb hk => (hapd.block b (by simp; omega) (fun e => hk (HKS.out b e))).trans (Below.heap_alloc _ _ _ hb)
  have hpk : κ pa = .sh wi 1 := H.out.kpa
  have hpa3 := (hn3 pa hpl (by rw [hpk]; intro e; cases e)).trans H.out.hpa
  have hz3' : w3.frozen? ⟨pa, 0, none⟩ = false := frozen_of_heap hpa3
  have hc3' : w3.cell? ⟨pa, 0, none⟩ = some (Value.slice as_ A.slots.length caps) := by rw [cell_of_heap hpa3]; rfl
  have HP3 := Lib.hid hpa3
  have HN3 := Lib.hid hn3
  have HBK := Lib.hid hbk
  have HOWN := Lib.hid hown
  have HBX := Lib.hid hbx
  clear hapd hn3 hpa3 hgc hgz hgl hle hbk hown hbx
  go_wp2
  have hapd := hapd'.out
  obtain ⟨κ1, hE1', hS1', hk1'⟩ := hapd.kind (hS.mono (by have := HB.out.size; simp; omega)) (.sh wi 2) (fun g hg => HKS.out g hg)
  have hsz3 : W.heap.size < w3.heap.size := by have := hapd.size; simp at this; omega
  have hE1W : Ext κ κ1 W := fun b hb => hE1' b (by simp; omega)
  have hE1 : Ext κ κ1 w := fun b hb => hE1W b (by have := HB.out.size; omega)
  generalize hW1 : w3.setCell ⟨pa, 0, none⟩ (Value.slice (some ⟨g, o, none⟩) (A.slots.length + 1) cap) = W1
  have hsz1 : W1.heap.size = w3.heap.size := by rw [← hW1]; simp [World.setCell]
  have hkg0 := hk1' g HBK.out
  have hkp1 : κ1 pa = .sh wi 1 := (hE1W pa hpl).trans hpk
  have hother : ∀ b, b ≠ pa → W1.heap[b]? = w3.heap[b]? := fun b hb => by rw [← hW1]; exact Below.heap_setCell _ _ _ _ hb
  have h1 : ArAt κ1 W1 wi pa (.slice (some ⟨g, o, none⟩) (A.slots.length + 1) cap) (.slice af A.free.length capf) (raw ++ zero10) { A with slots := A.slots ++ [zeroSlot] } := by
    refine H.out.grown _ hE1W (fun b hb h1 h2 _ => (hother b h1).trans (HN3.out b hb h2)) (by omega) ?_ (hapd.own.move fun k hk => hother k ?_) hk1' hroom
    · rw [← hW1, heap_setCell_at HP3.out]; rfl
    · intro e; have := hk1' k hk; rw [e, hkp1] at this; cases this
  have hs1 : ({ A with slots := A.slots ++ [zeroSlot] } : ArS).slots[A.slots.length]? = some zeroSlot := by simp
  have hkb : κ1 w.heap.size = .none := (hE1W _ (lt_of_heap HBX.out)).trans (hS _ (Nat.le_refl _))
  have hFW1 : Fr κ (K.arena wi) W W1 := by
    rw [← hW1]
    exact (show Fr κ (K.arena wi) W w3 from ⟨hapd.os, hapd.tape, hapd.output, by omega, fun b hb hSb => HN3.out b hb (by intro e; rw [e] at hSb; simp [K.arena] at hSb)⟩).trans0 (Fr.setCell _ _ (by simp [hpk, K.arena]))
  have hF1 : Fr κ (K.arena wi) w W1 := (Fr.below HB.out).trans0 hFW1
  have hS1 : Sup κ1 W1 := hS1'.mono (by omega)
  have hbx1 := (hFW1.block _ (lt_of_heap HBX.out) (by rw [hS _ (Nat.le_refl _)]; rfl)).trans HBX.out
  have hq1 := hp.keep hF1 hE1
  have hr1 := hk.keep hF1 hE1
  have ht1 := hw.keep hF1 hE1
  clear hapd hE1' hS1' hk1' hapd' hW1 HP3 HN3 HBK HOWN HBX H HB HKS hz3' hc3' hp0 hp1 hp2 hp3 hz0' hother hsz1 hsz3 hkg0 hkp1 hpl
  have hv : Value.slice (some ⟨g, o, none⟩) (A.slots.length + 1) cap = .slice (some ⟨g, o, none⟩) ({ A with slots := A.slots ++ [zeroSlot] } : ArS).slots.length cap := by simp
  obtain ⟨v2, v3, v4, v5, hsv, hc, hz, hil, hkg, hgl⟩ := h1.hitAt hs1 hv
  have hpl1 : pa < W1.heap.size := lt_of_heap h1.hpa
  have hbl1 : w.heap.size < W1.heap.size := lt_of_heap hbx1
  have hgp : g ≠ pa := by intro e; rw [e, h1.kpa] at hkg; cases hkg
  have hgb : g ≠ w.heap.size := by intro e; rw [e, hkb] at hkg; cases hkg
  have hpb : pa ≠ w.heap.size := by intro e; have := h1.kpa; rw [e, hkb] at this; cases this
  have hkga : g < w.heap.size → (K.arena wi) (κ g) = true := fun h => by rw [← hE1 g h, hkg]; simp [K.arena]
  have hc8 := hc _ _ hsv.c8
  rw [← Nat.add_assoc] at hc8
  have hs2 := hq1.src
  have hs3 := hr1.src
  have hs4 := ht1.src
  have D2 := Lib.hid (show ∀ W', Below W1.heap.size W1 W' → Calls Try.prog 111 #[.slice a2 n.pairs.length cap2] W' fun e w' => ∃ a' c', e = .returned (.slice a' n.pairs.length c') ∧ Fresh W' w' 149 2 (.slice a' n.pairs.length c') n.pairs.length (pairVs n.pairs) from
    fun W' hb => clone_pairs a2 _ cap2 _ W' (hs2.move hb) (pairVs_one _) hsp hno2)
  have D3 := Lib.hid (show ∀ W', Below W1.heap.size W1 W' → Calls Try.prog 112 #[.slice a3 n.keys.length cap3] W' fun e w' => ∃ a' c', e = .returned (.slice a' n.keys.length c') ∧ Fresh W' w' 2 1 (.slice a' n.keys.length c') n.keys.length (intVs n.keys) from
    fun W' hb => clone_ints a3 _ cap3 _ W' (hs3.move hb) (intVs_one _) hsk hno3)
  have D4 := Lib.hid (show ∀ W', Below W1.heap.size W1 W' → Calls Try.prog 113 #[.slice a4 n.ways.length cap4] W' fun e w' => ∃ a' c', e = .returned (.slice a' n.ways.length c') ∧ Fresh W' w' 41 1 (.slice a' n.ways.length c') n.ways.length (intVs n.ways) from
    fun W' hb => clone_refs a4 _ cap4 _ W' (hs4.move hb) (intVs_one _) hsw hno4)
  have HD := Lib.hid (show ∀ w1, Below W1.heap.size W1 w1 → w1.cell? ⟨w.heap.size, 2, none⟩ = some (Value.slice a2 n.pairs.length cap2) ∧ w1.cell? ⟨w.heap.size, 3, none⟩ = some (Value.slice a3 n.keys.length cap3) ∧ w1.cell? ⟨w.heap.size, 4, none⟩ = some (Value.slice a4 n.ways.length cap4) ∧
      (∀ j, w1.frozen? ⟨w.heap.size, j, none⟩ = false) ∧ w1.heap[g]? = W1.heap[g]? ∧ w1.heap[pa]? = W1.heap[pa]? from fun w1 hb => by
    have g1 := (hb.block w.heap.size hbl1).trans hbx1
    exact ⟨by rw [cell_of_heap g1]; rfl, by rw [cell_of_heap g1]; rfl, by rw [cell_of_heap g1]; rfl, fun j => frozen_of_heap g1, hb.block g hgl, hb.block pa hpl1⟩)
  have H1 := Lib.hid h1
  have HSV := Lib.hid hsv
  have HZ := Lib.hid hz
  have HC8 := Lib.hid hc8
  have HBX1 := Lib.hid hbx1
  have HIL := Lib.hid hil
  have HS1 := Lib.hid hs1
  clear h1 hsv hc hz hc8 hbx1 hs2 hs3 hs4 hil hv hs1
  have hbw : Below W1.heap.size W1 W1.drew := (Below.refl _ _).drew
  have hS : _ ∧ _ ∧ _ := ⟨(HD.out _ hbw).1, (HD.out _ hbw).2.1, (HD.out _ hbw).2.2.1⟩
  refine Mask.begin_ (fun W' => W'.cell? ⟨w.heap.size, 2, none⟩ = some (Value.slice a2 n.pairs.length cap2) ∧ W'.cell? ⟨w.heap.size, 3, none⟩ = some (Value.slice a3 n.keys.length cap3) ∧ W'.cell? ⟨w.heap.size, 4, none⟩ = some (Value.slice a4 n.ways.length cap4)) (fun i => i != 11 && i != 12 && i != 13 && i != 14 && i != 15) (by kernel_rfl) ?_
  refine Mask.take 0 62 (v := ?_) rfl rfl (by kernel_rfl) (by kernel_rfl) (by kernel_rfl) rfl (by kernel_rfl) (by kernel_rfl) (fun _ _ _ h => h) hS (Or.inl ⟨by rfl, ?_⟩) ?_
  rotate_left
  · intro w hSw; (try dsimp only at hSw); go_simp; try with_reducible rfl
  simp only [Act.put, List.setIfInBounds_toArray, List.set_cons_zero, List.set_cons_succ]
  refine Mask.take 1 63 (v := ?_) rfl rfl (by kernel_rfl) (by kernel_rfl) (by kernel_rfl) rfl (by kernel_rfl) (by kernel_rfl) (fun _ _ _ h => h) hS (Or.inl ⟨by rfl, ?_⟩) ?_
  rotate_left
  · intro w hSw; (try dsimp only at hSw); go_simp; try with_reducible rfl
  simp only [Act.put, List.setIfInBounds_toArray, List.set_cons_zero, List.set_cons_succ]
  refine Mask.take 3 65 (v := ?_) rfl rfl (by kernel_rfl) (by kernel_rfl) (by kernel_rfl) rfl (by kernel_rfl) (by kernel_rfl) (fun _ _ _ h => h) hS (Or.inl ⟨by rfl, ?_⟩) ?_
  rotate_left
  · intro w hSw; (try dsimp only at hSw); go_simp; try with_reducible rfl
  simp only [Act.put, List.setIfInBounds_toArray, List.set_cons_zero, List.set_cons_succ]
  refine Mask.take 4 66 (v := ?_) rfl rfl (by kernel_rfl) (by kernel_rfl) (by kernel_rfl) rfl (by kernel_rfl) (by kernel_rfl) (fun _ _ _ h => h) hS (Or.inl ⟨by rfl, ?_⟩) ?_
  rotate_left
  · intro w hSw; (try dsimp only at hSw); go_simp; try with_reducible rfl
  simp only [Act.put, List.setIfInBounds_toArray, List.set_cons_zero, List.set_cons_succ]
  refine Mask.take 5 67 (v := ?_) rfl rfl (by kernel_rfl) (by kernel_rfl) (by kernel_rfl) rfl (by kernel_rfl) (by kernel_rfl) (fun _ _ _ h => h) hS (Or.inl ⟨by rfl, ?_⟩) ?_
  rotate_left
  · intro w hSw; (try dsimp only at hSw); go_simp; try with_reducible rfl
  simp only [Act.put, List.setIfInBounds_toArray, List.set_cons_zero, List.set_cons_succ]
  refine Mask.take 7 69 (v := ?_) rfl rfl (by kernel_rfl) (by kernel_rfl) (by kernel_rfl) rfl (by kernel_rfl) (by kernel_rfl) (fun _ _ _ h => h) hS (Or.inl ⟨by rfl, ?_⟩) ?_
  rotate_left
  · intro w hSw; (try dsimp only at hSw); go_simp; try with_reducible rfl
  simp only [Act.put, List.setIfInBounds_toArray, List.set_cons_zero, List.set_cons_succ]
  refine Mask.take 8 70 (v := ?_) rfl rfl (by kernel_rfl) (by kernel_rfl) (by kernel_rfl) rfl (by kernel_rfl) (by kernel_rfl) (fun _ _ _ h => h) hS (Or.inl ⟨by rfl, ?_⟩) ?_
  rotate_left
  · intro w hSw; (try dsimp only at hSw); go_simp; try with_reducible rfl
  simp only [Act.put, List.setIfInBounds_toArray, List.set_cons_zero, List.set_cons_succ]
  refine Mask.take 9 71 (v := ?_) rfl rfl (by kernel_rfl) (by kernel_rfl) (by kernel_rfl) rfl (by kernel_rfl) (by kernel_rfl) (fun _ _ _ h => h) hS (Or.inl ⟨by rfl, ?_⟩) ?_
  rotate_left
  · intro w hSw; (try dsimp only at hSw); go_simp; try with_reducible rfl
  simp only [Act.put, List.setIfInBounds_toArray, List.set_cons_zero, List.set_cons_succ]
  -- 2: call F111[t63] types#[25]
  refine Mask.one 2 (by kernel_rfl) rfl rfl (fun K hK => ?_)
  go_simp
  refine (D2.out _ hbw).mono ?_
  rintro e w2 ⟨a2', c2', rfl, hF2⟩
  have HB2 := Lib.hid hbw
  replace hbw := hbw.trans (hF2.below.mono hbw.size)
  have HF2 := Lib.hid hF2
  clear hF2
  refine hK _ _ (fun _ => ?_) (?_)
  · exact ⟨(HD.out _ hbw).1, (HD.out _ hbw).2.1, (HD.out _ hbw).2.2.1⟩
  replace hS : _ ∧ _ ∧ _ := ⟨(HD.out _ hbw).1, (HD.out _ hbw).2.1, (HD.out _ hbw).2.2.1⟩
  clear hK K
  try simp only [Act.put, List.setIfInBounds_toArray, List.set_cons_zero, List.set_cons_succ]
  refine Mask.takeP 12 74 (v := ?_) rfl rfl (by kernel_rfl) (by kernel_rfl) (by kernel_rfl) rfl (fun _ _ _ h => h) (Or.inl ⟨by rfl, ?_⟩) ?_
  rotate_left
  · intro w hSw; (try dsimp only at hSw); go_simp; try with_reducible rfl
  simp only [Act.put, List.setIfInBounds_toArray, List.set_cons_zero, List.set_cons_succ]
  -- 6: call F112[t67] types#[22]
  refine Mask.one 6 (by kernel_rfl) rfl rfl (fun K hK => ?_)
  go_simp
  refine (D3.out _ hbw).mono ?_
  rintro e w3 ⟨a3', c3', rfl, hF3⟩
  have HB3 := Lib.hid hbw
  replace hbw := hbw.trans (hF3.below.mono hbw.size)
  have HF3 := Lib.hid hF3
  clear hF3
  refine hK _ _ (fun _ => ?_) (?_)
  · exact ⟨(HD.out _ hbw).1, (HD.out _ hbw).2.1, (HD.out _ hbw).2.2.1⟩
  replace hS : _ ∧ _ ∧ _ := ⟨(HD.out _ hbw).1, (HD.out _ hbw).2.1, (HD.out _ hbw).2.2.1⟩
  clear hK K
  try simp only [Act.put, List.setIfInBounds_toArray, List.set_cons_zero, List.set_cons_succ]
  -- 10: call F113[t71] types#[56]
  refine Mask.one 10 (by kernel_rfl) rfl rfl (fun K hK => ?_)
  go_simp
  refine (D4.out _ hbw).mono ?_
  rintro e w4 ⟨a4', c4', rfl, hF4⟩
  have HB4 := Lib.hid hbw
  replace hbw := hbw.trans (hF4.below.mono hbw.size)
  have HF4 := Lib.hid hF4
  clear hF4
  obtain ⟨_, _, _, ez1, eg, ep⟩ := HD.out _ hbw
  refine hK _ _ (fun _ => ?_) (?_)
  · exact ⟨(HD.out _ hbw).1, (HD.out _ hbw).2.1, (HD.out _ hbw).2.2.1⟩
  replace hS : _ ∧ _ ∧ _ := ⟨(HD.out _ hbw).1, (HD.out _ hbw).2.1, (HD.out _ hbw).2.2.1⟩
  clear hK K
  try simp only [Act.put, List.setIfInBounds_toArray, List.set_cons_zero, List.set_cons_succ]
  refine Mask.takeP 11 73 (v := ?_) rfl rfl (by kernel_rfl) (by kernel_rfl) (by kernel_rfl) rfl (fun _ _ _ h => h) (Or.inl ⟨by rfl, ?_⟩) ?_
  rotate_left
  · intro w hSw; (try dsimp only at hSw); go_simp; try with_reducible rfl
  simp only [Act.put, List.setIfInBounds_toArray, List.set_cons_zero, List.set_cons_succ]
  -- 13: store T25 t74 t64
  refine Mask.one 13 (by kernel_rfl) rfl rfl (fun K hK => ?_)
  go_simp
  refine hK _ _ (fun h => (by cases h)) ?_
  clear hK K
  try simp only [Act.put, List.setIfInBounds_toArray, List.set_cons_zero, List.set_cons_succ]
  refine Mask.takeP 14 75 (v := ?_) rfl rfl (by kernel_rfl) (by kernel_rfl) (by kernel_rfl) rfl (fun _ _ _ h => h) (Or.inl ⟨by rfl, ?_⟩) ?_
  rotate_left
  · intro w hSw; (try dsimp only at hSw); go_simp; try with_reducible rfl
  simp only [Act.put, List.setIfInBounds_toArray, List.set_cons_zero, List.set_cons_succ]
  -- 15: store T58 t75 t73
  refine Mask.one 15 (by kernel_rfl) rfl rfl (fun K hK => ?_)
  go_simp
  refine hK _ _ (fun h => (by cases h)) ?_
  clear hK K
  try simp only [Act.put, List.setIfInBounds_toArray, List.set_cons_zero, List.set_cons_succ]
  refine Mask.done (by kernel_rfl) ?_ _
  clear hS
  have F2 := HF2.out
  have F3 := HF3.out
  have F4 := HF4.out
  generalize hW2 : ((w4.setCell ⟨w.heap.size, 2, none⟩ (Value.slice a2' n.pairs.length c2')).setCell ⟨w.heap.size, 3, none⟩ (Value.slice a3' n.keys.length c3')).setCell ⟨w.heap.size, 4, none⟩ (Value.slice a4' n.ways.length c4') = W2
  have hW2o : ∀ b, b ≠ w.heap.size → W2.heap[b]? = w4.heap[b]? := fun b hb => by
    rw [← hW2]
    repeat rw [Below.heap_setCell _ _ _ _ hb]
  have hW2s : W2.heap.size = w4.heap.size := by rw [← hW2]; simp [World.setCell]
  have hw4x : w4.heap[w.heap.size]? = some (.cells #[Value.bool n.inner, Value.bool n.tagged, Value.slice a2 n.pairs.length cap2, Value.slice a3 n.keys.length cap3, Value.slice a4 n.ways.length cap4] 60 (0, 0)) := (hbw.block _ hbl1).trans HBX1.out
  have hW2x : W2.heap[w.heap.size]? = some (.cells #[Value.bool n.inner, Value.bool n.tagged, (Value.slice a2' n.pairs.length c2'), (Value.slice a3' n.keys.length c3'), Value.slice a4' n.ways.length c4'] 60 (0, 0)) := by
    rw [← hW2, heap_setCell_at (heap_setCell_at (heap_setCell_at hw4x _) _)]; rfl
  have hW2g : W2.heap[g]? = W1.heap[g]? := (hW2o g hgb).trans (hbw.block _ hgl)
  have hW2p : W2.heap[pa]? = W1.heap[pa]? := (hW2o pa hpb).trans (hbw.block _ hpl1)
  have hc8 : W2.cell? ⟨g, o + A.slots.length * 10 + 8, none⟩ = some (.int .u32 (zeroSlot).count) := (World.cell?_of_block hW2g).trans HC8.out
  have hz8 : ∀ j, W2.frozen? ⟨g, j, none⟩ = false := fun j => (World.frozen?_of_block hW2g).trans (HZ.out j)
  have hFr2 : Fr κ (K.arena wi) w W2 := by
    rw [← hW2]
    refine Fr.box (Fr.box (Fr.box (hF1.trans (Fr.below (κ := κ1) hbw) hE1) ?_ _) ?_ _) ?_ _ <;> exact Nat.le_refl _
  have s1 := hbw.size
  have s2 := F2.below.size
  have s3 := F3.below.size
  have s4 := F4.below.size
  have sB2 := HB2.out.size
  have l2 := F2.own.lt
  have l3 := F3.own.lt
  have l4 := F4.own.lt
  have n2 := F2.new
  have n3 := F3.new
  have n4 := F4.new
  have o2 : Own W2 149 2 (Value.slice a2' n.pairs.length c2') n.pairs.length (pairVs n.pairs) := F2.own.move fun k hk => (hW2o k (by have := n2 k hk; omega)).trans ((F3.below.trans (F4.below.mono s3)).block k (l2 k hk))
  have o3 : Own W2 2 1 (Value.slice a3' n.keys.length c3') n.keys.length (intVs n.keys) := F3.own.move fun k hk => (hW2o k (by have := n3 k hk; omega)).trans (F4.below.block k (l3 k hk))
  have o4 : Own W2 41 1 (.slice a4' n.ways.length c4') n.ways.length (intVs n.ways) := F4.own.move fun k hk => hW2o k (by have := n4 k hk; omega)
  have M2 := Lib.hid (show ∀ k, blk (Value.slice a2' n.pairs.length c2') = some k → W1.heap.size ≤ k ∧ k < W2.heap.size from fun k hk => by have := n2 k hk; have := l2 k hk; omega)
  have M3 := Lib.hid (show ∀ k, blk (Value.slice a3' n.keys.length c3') = some k → W1.heap.size ≤ k ∧ k < W2.heap.size from fun k hk => by have := n3 k hk; have := l3 k hk; omega)
  have M4 := Lib.hid (show ∀ k, blk (Value.slice a4' n.ways.length c4') = some k → W1.heap.size ≤ k ∧ k < W2.heap.size from fun k hk => by have := n4 k hk; have := l4 k hk; omega)
  have HW2O := Lib.hid (show ∀ b, b < W1.heap.size → b ≠ w.heap.size → W2.heap[b]? = W1.heap[b]? from fun b h1 h2 => (hW2o b h2).trans (hbw.block b h1))
  have hW2s' : W1.heap.size ≤ W2.heap.size := by omega
  clear F2 F3 F4 s1 s2 s3 s4 sB2 l2 l3 l4 n2 n3 n4 HF2 HF3 HF4 HB2 HB3 HB4 D2 D3 D4 HD hW2o hW2s hw4x
  try clear ez1 eg ep
  clear hW2 hbw
  go_wp2
  generalize hcc : ((zeroSlot).count + 1) % 4294967296 = cc
  generalize hW3 : W2.setCell ⟨g, o + A.slots.length * 10 + 8, none⟩ (Value.int .u32 cc) = W3
  have hrl := H1.out.own.1
  have hil := HIL.out
  have o1 : Own W2 167 10 (.slice (some ⟨g, o, none⟩) (A.slots.length + 1) cap) (A.slots.length + 1) (raw ++ zero10) := by
    have := H1.out.own
    simp only [List.length_append, List.length_cons, List.length_nil, Nat.zero_add] at this
    refine this.move fun k hk => ?_
    rw [show k = g by simp [blk] at hk; omega]; exact hW2g
  have o1' := o1.set' (o + A.slots.length * 10 + 8) (A.slots.length * 10 + 8) (by omega) (by simp at hil; omega) (.int .u32 cc)
  rw [hW3] at o1'
  have hW3o : ∀ b, b ≠ g → W3.heap[b]? = W2.heap[b]? := fun b hb => by rw [← hW3]; exact Below.heap_setCell _ _ _ _ hb
  have hW3s : W3.heap.size = W2.heap.size := by rw [← hW3]; simp [World.setCell]
  have hW3x := (hW3o _ (Ne.symm hgb)).trans hW2x
  have hW3p := ((hW3o _ (Ne.symm hgp)).trans hW2p).trans H1.out.hpa
  have hMg : ∀ k, W1.heap.size ≤ k → W3.heap[k]? = W2.heap[k]? := fun k hk => hW3o k (by omega)
  have o2' := o2.move fun k hk => hMg k (M2.out k hk).1
  have o3' := o3.move fun k hk => hMg k (M3.out k hk).1
  have o4' := o4.move fun k hk => hMg k (M4.out k hk).1
  have hc8' : W3.cell? ⟨g, o + A.slots.length * 10 + 8, none⟩ = some (.int .u32 cc) := by rw [← hW3]; exact World.cell?_setCell_same _ _ _ hc8
  have hz8' : ∀ j, W3.frozen? ⟨g, j, none⟩ = false := fun j => by rw [← hW3]; simpa using hz8 j
  have hFr3 : Fr κ (K.arena wi) w W3 := by rw [← hW3]; exact hFr2.any hkga _
  have hgl3 : g < W3.heap.size := by omega
  have D5 := Lib.hid (show ∀ W', Below W3.heap.size W3 W' → Calls Try.prog 113 #[.slice a4' n.ways.length c4'] W' fun e w' => ∃ a' c', e = .returned (.slice a' n.ways.length c') ∧ Fresh W' w' 41 1 (.slice a' n.ways.length c') n.ways.length (intVs n.ways) from
    fun W' hb => clone_refs a4' _ c4' _ W' (o4'.src.move hb) (intVs_one _) hsw (fun ha => o4'.noneEmpty _ _ _ rfl ha))
  have HD5 := Lib.hid (show ∀ w1, Below W3.heap.size W3 w1 → (w1.cell? ⟨w.heap.size, 0, none⟩ = some (Value.bool n.inner) ∧ w1.cell? ⟨w.heap.size, 1, none⟩ = some (Value.bool n.tagged) ∧ w1.cell? ⟨w.heap.size, 2, none⟩ = some (Value.slice a2' n.pairs.length c2') ∧ w1.cell? ⟨w.heap.size, 3, none⟩ = some (Value.slice a3' n.keys.length c3') ∧ w1.cell? ⟨w.heap.size, 4, none⟩ = some (Value.slice a4' n.ways.length c4') ∧ w1.cell? ⟨g, o + A.slots.length * 10 + 8, none⟩ = some (Value.int .u32 cc)) ∧ (∀ j, w1.frozen? ⟨g, j, none⟩ = false) ∧ (∀ k u, W3.cell? ⟨g, k, none⟩ = some u → w1.cell? ⟨g, k, none⟩ = some u) from fun w1 hb => by
    have g1 := (hb.block w.heap.size (by omega)).trans hW3x
    have g2 := hb.block g hgl3
    exact ⟨⟨by rw [cell_of_heap g1]; rfl, by rw [cell_of_heap g1]; rfl, by rw [cell_of_heap g1]; rfl, by rw [cell_of_heap g1]; rfl, by rw [cell_of_heap g1]; rfl, (World.cell?_of_block g2).trans hc8'⟩, fun j => (World.frozen?_of_block g2).trans (hz8' j), fun k u hu => (World.cell?_of_block g2).trans hu⟩)
  have hcell : ∀ k, k < 10 → ∃ u, W3.cell? ⟨g, o + A.slots.length * 10 + k, none⟩ = some u := by
    intro k hk
    obtain ⟨g', o', cap', hv', _, _, _, hcl, _⟩ := o1'.at (by simp at hil; omega) (by decide)
    simp only [Value.slice.injEq, Option.some.injEq, Addr.mk.injEq, and_true, true_and] at hv'
    obtain ⟨⟨rfl, rfl⟩, rfl⟩ := hv'
    have hl : A.slots.length * 10 + k < ((raw ++ zero10).set (A.slots.length * 10 + 8) (Value.int .u32 cc)).length := by rw [o1'.1]; simp at hil; omega
    exact ⟨_, by rw [Nat.add_assoc]; exact hcl _ _ (List.getElem?_eq_getElem hl)⟩
  obtain ⟨u0, q0⟩ := hcell 0 (by decide)
  obtain ⟨u1, q1⟩ := hcell 1 (by decide)
  obtain ⟨u2, q2⟩ := hcell 2 (by decide)
  obtain ⟨u3, q3⟩ := hcell 3 (by decide)
  obtain ⟨u4, q4⟩ := hcell 4 (by decide)
  obtain ⟨u5, q5⟩ := hcell 5 (by decide)
  obtain ⟨u6, q6⟩ := hcell 6 (by decide)
  obtain ⟨u7, q7⟩ := hcell 7 (by decide)
  obtain ⟨u8, q8⟩ := hcell 8 (by decide)
  obtain ⟨u9, q9⟩ := hcell 9 (by decide)
  rw [Nat.add_zero] at q0
  clear hcell
  have HO1 := Lib.hid o1'
  have HO2 := Lib.hid o2'
  have HO3 := Lib.hid o3'
  have HO4 := Lib.hid o4'
  clear hW3 o1 o1' o2 o3 o4 o2' o3' o4' hc8 hz8 hc8' hz8' hW3x hW2x
  have hbw : Below W3.heap.size W3 W3.drew := (Below.refl _ _).drew
  have hS : _ ∧ _ ∧ _ ∧ _ ∧ _ ∧ _ := (HD5.out _ hbw).1
  refine Mask.begin_ (fun W' => W'.cell? ⟨w.heap.size, 0, none⟩ = some (Value.bool n.inner) ∧ W'.cell? ⟨w.heap.size, 1, none⟩ = some (Value.bool n.tagged) ∧ W'.cell? ⟨w.heap.size, 2, none⟩ = some (Value.slice a2' n.pairs.length c2') ∧ W'.cell? ⟨w.heap.size, 3, none⟩ = some (Value.slice a3' n.keys.length c3') ∧ W'.cell? ⟨w.heap.size, 4, none⟩ = some (Value.slice a4' n.ways.length c4') ∧ W'.cell? ⟨g, o + A.slots.length * 10 + 8, none⟩ = some (Value.int .u32 cc)) (fun i => i != 12) (by kernel_rfl) ?_
  refine Mask.take 0 83 (v := ?_) rfl rfl (by kernel_rfl) (by kernel_rfl) (by kernel_rfl) rfl (by kernel_rfl) (by kernel_rfl) (fun _ _ _ h => h) hS (Or.inl ⟨by rfl, ?_⟩) ?_
  rotate_left
  · intro w hSw; (try dsimp only at hSw); go_simp; try with_reducible rfl
  simp only [Act.put, List.setIfInBounds_toArray, List.set_cons_zero, List.set_cons_succ]
  refine Mask.take 1 84 (v := ?_) rfl rfl (by kernel_rfl) (by kernel_rfl) (by kernel_rfl) rfl (by kernel_rfl) (by kernel_rfl) (fun _ _ _ h => h) hS (Or.inl ⟨by rfl, ?_⟩) ?_
  rotate_left
  · intro w hSw; (try dsimp only at hSw); go_simp; try with_reducible rfl
  simp only [Act.put, List.setIfInBounds_toArray, List.set_cons_zero, List.set_cons_succ]
  refine Mask.take 2 85 (v := ?_) rfl rfl (by kernel_rfl) (by kernel_rfl) (by kernel_rfl) rfl (by kernel_rfl) (by kernel_rfl) (fun _ _ _ h => h) hS (Or.inl ⟨by rfl, ?_⟩) ?_
  rotate_left
  · intro w hSw; (try dsimp only at hSw); go_simp; try with_reducible rfl
  simp only [Act.put, List.setIfInBounds_toArray, List.set_cons_zero, List.set_cons_succ]
  refine Mask.take 3 86 (v := ?_) rfl rfl (by kernel_rfl) (by kernel_rfl) (by kernel_rfl) rfl (by kernel_rfl) (by kernel_rfl) (fun _ _ _ h => h) hS (Or.inl ⟨by rfl, ?_⟩) ?_
  rotate_left
  · intro w hSw; (try dsimp only at hSw); go_simp; try with_reducible rfl
  simp only [Act.put, List.setIfInBounds_toArray, List.set_cons_zero, List.set_cons_succ]
  refine Mask.take 4 87 (v := ?_) rfl rfl (by kernel_rfl) (by kernel_rfl) (by kernel_rfl) rfl (by kernel_rfl) (by kernel_rfl) (fun _ _ _ h => h) hS (Or.inl ⟨by rfl, ?_⟩) ?_
  rotate_left
  · intro w hSw; (try dsimp only at hSw); go_simp; try with_reducible rfl
  simp only [Act.put, List.setIfInBounds_toArray, List.set_cons_zero, List.set_cons_succ]
  refine Mask.take 6 89 (v := ?_) rfl rfl (by kernel_rfl) (by kernel_rfl) (by kernel_rfl) rfl (by kernel_rfl) (by kernel_rfl) (fun _ _ _ h => h) hS (Or.inl ⟨by rfl, ?_⟩) ?_
  rotate_left
  · intro w hSw; (try dsimp only at hSw); go_simp; try with_reducible rfl
  simp only [Act.put, List.setIfInBounds_toArray, List.set_cons_zero, List.set_cons_succ]
  refine Mask.take 7 90 (v := ?_) rfl rfl (by kernel_rfl) (by kernel_rfl) (by kernel_rfl) rfl (by kernel_rfl) (by kernel_rfl) (fun _ _ _ h => h) hS (Or.inl ⟨by rfl, ?_⟩) ?_
  rotate_left
  · intro w hSw; (try dsimp only at hSw); go_simp; try with_reducible rfl
  simp only [Act.put, List.setIfInBounds_toArray, List.set_cons_zero, List.set_cons_succ]
  refine Mask.take 8 91 (v := ?_) rfl rfl (by kernel_rfl) (by kernel_rfl) (by kernel_rfl) rfl (by kernel_rfl) (by kernel_rfl) (fun _ _ _ h => h) hS (Or.inl ⟨by rfl, ?_⟩) ?_
  rotate_left
  · intro w hSw; (try dsimp only at hSw); go_simp; try with_reducible rfl
  simp only [Act.put, List.setIfInBounds_toArray, List.set_cons_zero, List.set_cons_succ]
  refine Mask.take 9 92 (v := ?_) rfl rfl (by kernel_rfl) (by kernel_rfl) (by kernel_rfl) rfl (by kernel_rfl) (by kernel_rfl) (fun _ _ _ h => h) hS (Or.inl ⟨by rfl, ?_⟩) ?_
  rotate_left
  · intro w hSw; (try dsimp only at hSw); go_simp; try with_reducible rfl
  simp only [Act.put, List.setIfInBounds_toArray, List.set_cons_zero, List.set_cons_succ]
  -- 5: call F113[t87] types#[56]
  refine Mask.one 5 (by kernel_rfl) rfl rfl (fun K hK => ?_)
  go_simp
  refine (D5.out _ hbw).mono ?_
  rintro e w5 ⟨a5', c5', rfl, hF5⟩
  replace hbw := hbw.trans (hF5.below.mono hbw.size)
  have HF5 := Lib.hid hF5
  clear hF5
  obtain ⟨hS5, ez5, hg5⟩ := HD5.out _ hbw
  have p0 := hg5 _ _ q0
  have p1 := hg5 _ _ q1
  have p2 := hg5 _ _ q2
  have p3 := hg5 _ _ q3
  have p4 := hg5 _ _ q4
  have p5 := hg5 _ _ q5
  have p6 := hg5 _ _ q6
  have p7 := hg5 _ _ q7
  have p8 := hg5 _ _ q8
  have p9 := hg5 _ _ q9
  clear hg5
  refine hK _ _ (fun _ => ?_) (?_)
  · exact hS5
  try replace hS := hS5
  clear hK K
  try simp only [Act.put, List.setIfInBounds_toArray, List.set_cons_zero, List.set_cons_succ]
  refine Mask.take 10 93 (v := ?_) rfl rfl (by kernel_rfl) (by kernel_rfl) (by kernel_rfl) rfl (by kernel_rfl) (by kernel_rfl) (fun _ _ _ h => h) hS (Or.inl ⟨by rfl, ?_⟩) ?_
  rotate_left
  · intro w hSw; (try dsimp only at hSw); go_simp; try with_reducible rfl
  simp only [Act.put, List.setIfInBounds_toArray, List.set_cons_zero, List.set_cons_succ]
  refine Mask.take 11 94 (v := ?_) rfl rfl (by kernel_rfl) (by kernel_rfl) (by kernel_rfl) rfl (by kernel_rfl) (by kernel_rfl) (fun _ _ _ h => h) hS (Or.inl ⟨by rfl, ?_⟩) ?_
  rotate_left
  · intro w hSw; (try dsimp only at hSw); go_simp; try with_reducible rfl
  simp only [Act.put, List.setIfInBounds_toArray, List.set_cons_zero, List.set_cons_succ]
  -- 12: store T167 t94 t93
  refine Mask.one 12 (by kernel_rfl) rfl rfl (fun K hK => ?_)
  go_simp
  refine hK _ _ (fun h => (by cases h)) ?_
  clear hK K
  try simp only [Act.put, List.setIfInBounds_toArray, List.set_cons_zero, List.set_cons_succ]
  refine Mask.done (by kernel_rfl) ?_ _
  clear hS D5 HD5
  clear p0 q0 p1 q1 p2 q2 p3 q3 p4 q4 p5 q5 p6 q6 p7 q7 p8 q8 p9 q9
  have F5 := HF5.out
  have n5 := F5.new
  have hdr : W3.drew.heap.size = W3.heap.size := rfl
  have l5 := F5.own.lt
  have hs35 := hbw.size
  have hs5 := F5.below.size
  have o1w : Own w5 167 10 (.slice (some ⟨g, o, none⟩) (A.slots.length + 1) cap) (A.slots.length + 1) _ := HO1.out.move fun k hk => by
    rw [show k = g by simp [blk] at hk; omega]; exact hbw.block g hgl3
  obtain ⟨raw', ho, hro, c0, c1, c2, c3, c4, c5, c6, c7, c8, c9⟩ := o1w.slot (i := A.slots.length) (by simp at hil; omega) (Value.bool n.inner) (Value.bool n.tagged) (Value.slice a2' n.pairs.length c2') (Value.slice a3' n.keys.length c3') (Value.slice a4' n.ways.length c4') (Value.slice a5' n.ways.length c5') (Value.int IntKind.i64 0) (Value.bool false) (Value.int IntKind.u32 cc) (Value.bool true)
  generalize hW4 : ((((((((((w5.setCell ⟨g, o + A.slots.length * 10, none⟩ (Value.bool n.inner)).setCell ⟨g, o + A.slots.length * 10 + 1, none⟩ (Value.bool n.tagged)).setCell ⟨g, o + A.slots.length * 10 + 2, none⟩ (Value.slice a2' n.pairs.length c2')).setCell ⟨g, o + A.slots.length * 10 + 3, none⟩ (Value.slice a3' n.keys.length c3')).setCell ⟨g, o + A.slots.length * 10 + 4, none⟩ (Value.slice a4' n.ways.length c4')).setCell ⟨g, o + A.slots.length * 10 + 5, none⟩ (Value.slice a5' n.ways.length c5')).setCell ⟨g, o + A.slots.length * 10 + 6, none⟩ (Value.int IntKind.i64 0)).setCell ⟨g, o + A.slots.length * 10 + 7, none⟩ (Value.bool false)).setCell ⟨g, o + A.slots.length * 10 + 8, none⟩ (Value.int IntKind.u32 cc)).setCell ⟨g, o + A.slots.length * 10 + 9, none⟩ (Value.bool true)) = W4 at ho ⊢
  have hW4o : ∀ b, b ≠ g → W4.heap[b]? = w5.heap[b]? := fun b hb => by
    rw [← hW4]
    repeat rw [Below.heap_setCell _ _ _ _ hb]
  have hW4s : W4.heap.size = w5.heap.size := by rw [← hW4]; simp [World.setCell]
  have hFr5 : Fr κ (K.arena wi) w w5 := hFr3.trans0 (Fr.below (hbw.mono (Nat.le_refl _)))
  have hFr4 : Fr κ (K.arena wi) w W4 := by
    rw [← hW4]
    exact (((((((((hFr5.any hkga _).any hkga _).any hkga _).any hkga _).any hkga _).any hkga _).any hkga _).any hkga _).any hkga _).any hkga _
  have hpa4 : W4.heap[pa]? = _ := (hW4o pa (Ne.symm hgp)).trans ((hbw.block pa (by omega)).trans hW3p)
  have hu4 : W4.cell? ⟨pa, 3, none⟩ = some (Value.int .i64 ({ A with slots := A.slots ++ [zeroSlot] } : ArS).used) := by rw [cell_of_heap hpa4]; rfl
  have hz4 : W4.frozen? ⟨pa, 3, none⟩ = false := frozen_of_heap hpa4
  have hk4 : W4.cell? ⟨g, o + A.slots.length * 10 + 8, none⟩ = some (Value.int .u32 cc) := by
    obtain ⟨g', o', cap', hv', _, _, _, hcl, _⟩ := ho.at (by simp at hil; omega) (by decide)
    simp only [Value.slice.injEq, Option.some.injEq, Addr.mk.injEq, and_true, true_and] at hv'
    obtain ⟨⟨rfl, rfl⟩, rfl⟩ := hv'
    rw [Nat.add_assoc]; exact hcl _ _ c8
  have HP4 := Lib.hid hpa4
  have HO := Lib.hid ho
  have HRO := Lib.hid hro
  clear hW4 ho hro hpa4
  go_wp2_with fail
  refine (of_any _ _ (by omega) (by have := H1.out.bound; simp at hil this; omega) _).mono ?_
  rintro e w' ⟨rfl, rfl⟩
  go_wp2
  refine bodyPost_ret (v := .tuple #[.int .i64 (refOf ((A.slots.length : Nat) : Int) cc), .bool true]) (by simp [results, Try.results42, go_sem]) rfl ?_
  generalize hWf : W4.setCell ⟨pa, 3, none⟩ _ = Wf
  have hfo : ∀ b, b ≠ pa → Wf.heap[b]? = W4.heap[b]? := fun b hb => by rw [← hWf]; exact Below.heap_setCell _ _ _ _ hb
  have hfs : Wf.heap.size = W4.heap.size := by rw [← hWf]; simp [World.setCell]
  have hfp : Wf.heap[pa]? = some (.cells #[.slice (some ⟨g, o, none⟩) (A.slots.length + 1) cap, (.slice af A.free.length capf), .int .i64 ({ A with slots := A.slots ++ [zeroSlot] } : ArS).most, .int .i64 (wrap64 (({ A with slots := A.slots ++ [zeroSlot] } : ArS).used + 1)), .int .i64 ({ A with slots := A.slots ++ [zeroSlot] } : ArS).faults] 154 (0, 0)) := by
    rw [← hWf, heap_setCell_at HP4.out]; rfl
  have hfr : Fr κ (K.arena wi) w Wf := by
    rw [← hWf]
    exact hFr4.any (fun hlt => by rw [← hE1 pa hlt, H1.out.kpa]; simp [K.arena]) _
  have m2 : ∀ k, blk (Value.slice a2' n.pairs.length c2') = some k → Wf.heap[k]? = W3.heap[k]? := fun k hk => by
    have := M2.out k hk
    exact (hfo k (by omega)).trans ((hW4o k (by omega)).trans (hbw.block k (by omega)))
  have m3 : ∀ k, blk (Value.slice a3' n.keys.length c3') = some k → Wf.heap[k]? = W3.heap[k]? := fun k hk => by
    have := M3.out k hk
    exact (hfo k (by omega)).trans ((hW4o k (by omega)).trans (hbw.block k (by omega)))
  have m4 : ∀ k, blk (Value.slice a4' n.ways.length c4') = some k → Wf.heap[k]? = W3.heap[k]? := fun k hk => by
    have := M4.out k hk
    exact (hfo k (by omega)).trans ((hW4o k (by omega)).trans (hbw.block k (by omega)))
  have m5 : ∀ k, blk (Value.slice a5' n.ways.length c5') = some k → Wf.heap[k]? = w5.heap[k]? := fun k hk => by
    have := n5 k hk
    exact (hfo k (by omega)).trans (hW4o k (by omega))
  have f2 := HO2.out.move m2
  have f3 := HO3.out.move m3
  have f4 := HO4.out.move m4
  have f5 := F5.own.move m5
  obtain ⟨κ', hκ'⟩ : ∃ κ' : Nat → K, κ' = fun b => if some b = blk (Value.slice a5' n.ways.length c5') then .ways wi (A.slots.length) else imms κ1 [blk (Value.slice a2' n.pairs.length c2'), blk (Value.slice a3' n.keys.length c3'), blk (Value.slice a4' n.ways.length c4')] b := ⟨_, rfl⟩
  have k5 : ∀ k, blk (Value.slice a5' n.ways.length c5') = some k → κ' k = .ways wi (A.slots.length) := fun k hk => by rw [hκ']; simp only [hk, if_true]
  have kimm : ∀ k, some k ∈ [blk (Value.slice a2' n.pairs.length c2'), blk (Value.slice a3' n.keys.length c3'), blk (Value.slice a4' n.ways.length c4')] → κ' k = .imm := fun k hk => by
    have hne : ¬ some k = blk (Value.slice a5' n.ways.length c5') := fun e => by
      have := n5 k e.symm
      have h3 : k < W2.heap.size := by
        simp only [List.mem_cons, List.not_mem_nil, or_false] at hk
        rcases hk with e | e | e
        · exact (M2.out k e.symm).2
        · exact (M3.out k e.symm).2
        · exact (M4.out k e.symm).2
      omega
    rw [hκ']; simp only [if_neg hne]; exact imms_at hk
  have memb : ∀ k, some k ∈ [blk (Value.slice a2' n.pairs.length c2'), blk (Value.slice a3' n.keys.length c3'), blk (Value.slice a4' n.ways.length c4')] → W1.heap.size ≤ k ∧ k < Wf.heap.size := fun k hk => by
    simp only [List.mem_cons, List.not_mem_nil, or_false] at hk
    rcases hk with e | e | e
    · have := M2.out k e.symm; omega
    · have := M3.out k e.symm; omega
    · have := M4.out k e.symm; omega
  have hE' : Ext κ1 κ' W1 := fun b hb => by
    have hne : ¬ some b = blk (Value.slice a5' n.ways.length c5') := fun e => by have := n5 b e.symm; omega
    rw [hκ']; simp only [if_neg hne]
    exact imms_ext (w := W1) (fun g hg => (memb g hg).1) b hb
  have hS' : Sup κ' Wf := fun b hb => by
    have hne : ¬ some b = blk (Value.slice a5' n.ways.length c5') := fun e => by have := l5 b e.symm; omega
    rw [hκ']; simp only [if_neg hne]
    exact imms_sup hS1 (by omega) (fun g hg => (memb g hg).2) b hb
  have hwf1 : ∀ b, b < W1.heap.size → b ≠ pa → κ1 b ≠ .sh wi 2 → κ1 b ≠ .ways wi (A.slots.length) → κ1 b ≠ .none → Wf.heap[b]? = W1.heap[b]? := fun b hb h1 h2 _ h4 => by
    have hbg : b ≠ g := by intro e; rw [e] at h2; exact h2 hkg
    have hbx : b ≠ w.heap.size := by intro e; rw [e] at h4; exact h4 hkb
    exact (hfo b h1).trans ((hW4o b hbg).trans ((hbw.block b (by omega)).trans ((hW3o b hbg).trans (HW2O.out b hb hbx))))
  have hraw : ∀ j, (j < (A.slots.length) * 10 ∨ (A.slots.length) * 10 + 10 ≤ j) → raw'[j]? = (raw ++ zero10)[j]? := fun j hj => by
    rw [HRO.out j hj, List.getElem?_set_ne (by omega)]
  have hof : Own Wf 167 10 (.slice (some ⟨g, o, none⟩) (A.slots.length + 1) cap) (A.slots.length + 1) raw' := HO.out.move fun k hk => hfo k (by rw [show k = g by simp [blk] at hk; omega]; exact hgp)
  have hfin := H1.out.fill (i := A.slots.length) (s' := ⟨n, n.ways, 0, false, cc, true⟩) HS1.out (wrap64 (({ A with slots := A.slots ++ [zeroSlot] } : ArS).used + 1)) hE' hwf1 (by omega) hfp (by simpa using hof) hraw
    ⟨_, _, _, _, ⟨c0, c1, c2, c3, c4, c5, c6, c7, c8, c9, Row.ofOwn f2 (fun k hk => kimm k (by simp [hk])) f2.noneEmpty, Row.ofOwn f3 (fun k hk => kimm k (by simp [hk])) f3.noneEmpty, Row.ofOwn f4 (fun k hk => kimm k (by simp [hk])) f4.noneEmpty, Row.ofOwn f5 k5 f5.noneEmpty, ⟨hsp, hsk, hsw, hsw⟩⟩⟩
  rw [show A.alloc n = ((refOf ((A.slots.length : Nat) : Int) cc, true), { ({ A with slots := A.slots ++ [zeroSlot] } : ArS).put (A.slots.length) ⟨n, n.ways, 0, false, cc, true⟩ with used := wrap64 (({ A with slots := A.slots ++ [zeroSlot] } : ArS).used + 1) }) by (have hn : ¬ A.most ≤ A.used := (by omega); have hg : (A.slots ++ [zeroSlot])[A.slots.length]? = some zeroSlot := (by simp); simp only [ArS.alloc, if_neg hn, ArS.reserve, hf0, ArS.fillAt, hg, wrap32, hcc])]
  exact ⟨κ', rfl, ⟨_, _, _, hfin⟩, hfr, hE1.trans hE' (by have := hF1.size; omega), hS'⟩
end
end Go.Proofs.Ytacmeafpieoaaaa
