/- The world that all share; world.New. -/
import Derived.Test.YtacmeafpieoaaaaTe
namespace Go.Proofs.Ytacmeafpieoaaaa
open Go.RowKit

structure ShS where
  A : ArS
  T : TabS
  E : EpS

/-- Where a world's parts lie. -/
structure WdP where
  pw : Nat
  pa : Nat
  pt : Nat
  pe : Nat
  a : Int
  b : Int
  entry : Int
  threads : Nat

structure WdRep (κ : Nat → K) (w : World) (wi : Nat) (p : WdP) (σ : ShS) : Prop where
  kpw : κ p.pw = .sh wi 0
  hpw : w.heap[p.pw]? = some (.cells #[.pointer (some ⟨p.pa, 0, none⟩), .pointer (some ⟨p.pt, 0, none⟩), .pointer (some ⟨p.pe, 0, none⟩), .int .i64 p.a, .int .i64 p.b, .int .i64 p.entry] 43 (0, 0))
  ar : ArRep κ w wi p.pa σ.A
  tab : TabRep κ w wi p.pt σ.T
  ep : EpRep κ w wi p.pe σ.E
  thr : σ.E.said.length = p.threads
  thr64 : p.threads ≤ 64

theorem K.arena_ofW {wi : Nat} (k : K) (h : k.arena wi = true) : k.ofW wi = true := by
  cases k <;> simp_all [K.arena, K.ofW]
theorem K.recs_ofW {wi : Nat} (k : K) (h : k.recs wi = true) : k.ofW wi = true := by
  cases k <;> simp_all [K.recs, K.ofW]
theorem K.epochs_ofW {wi : Nat} (k : K) (h : k.epochs wi = true) : k.ofW wi = true := by
  cases k <;> simp_all [K.epochs, K.ofW]
theorem K.arena_apart {wi : Nat} (k : K) (h : k.arena wi = true) : k.recs wi = false ∧ k.epochs wi = false ∧ k ≠ .imm ∧ k ≠ .sh wi 0 := by
  cases k <;> simp_all [K.arena, K.recs, K.epochs] <;> omega
theorem K.recs_apart {wi : Nat} (k : K) (h : k.recs wi = true) : k.arena wi = false ∧ k.epochs wi = false ∧ k ≠ .imm ∧ k ≠ .sh wi 0 := by
  cases k <;> simp_all [K.arena, K.recs, K.epochs] <;> omega
theorem K.epochs_apart {wi : Nat} (k : K) (h : k.epochs wi = true) : k.arena wi = false ∧ k.recs wi = false ∧ k ≠ .imm ∧ k ≠ .sh wi 0 := by
  cases k <;> simp_all [K.arena, K.recs, K.epochs] <;> omega

section
variable {κ κ' : Nat → K} {w w' : World} {wi : Nat} {p : WdP} {σ : ShS}

/-- What changes no block of the world keeps it. -/
theorem WdRep.keep (h : WdRep κ w wi p σ) (hb : ∀ b, b < w.heap.size → κ b = .imm ∨ (κ b).ofW wi = true → w'.heap[b]? = w.heap[b]?) (hs : w.heap.size ≤ w'.heap.size) (he : Ext κ κ' w) : WdRep κ' w' wi p σ := by
  have hpl := lt_of_heap h.hpw
  exact ⟨(he _ hpl).trans h.kpw, (hb _ hpl (.inr (by simp [h.kpw, K.ofW]))).trans h.hpw, h.ar.keep (fun b h1 h2 => hb b h1 (h2.imp id (K.arena_ofW _))) hs he, h.tab.keep (fun b h1 h2 => hb b h1 (h2.imp id (K.recs_ofW _))) hs he, h.ep.keep (fun b h1 h2 => hb b h1 (.inr (K.epochs_ofW _ h2))) hs he, h.thr, h.thr64⟩
theorem WdRep.fr {S : K → Bool} (h : WdRep κ w wi p σ) (hf : Fr κ S w w') (hS : ∀ k, (k = .imm ∨ k.ofW wi = true) → S k = false) (he : Ext κ κ' w) : WdRep κ' w' wi p σ :=
  h.keep (fun b hb hk => hf.block b hb (hS _ hk)) hf.size he
theorem WdRep.below (h : WdRep κ w wi p σ) (hf : Below w.heap.size w w') (he : Ext κ κ' w) : WdRep κ' w' wi p σ :=
  h.keep (fun b hb _ => hf.block b hb) hf.size he
/-- The arena has turned. -/
theorem WdRep.turnA (h : WdRep κ w wi p σ) {A' : ArS} (ha : ArRep κ' w' wi p.pa A') (hf : Fr κ (K.arena wi) w w') (he : Ext κ κ' w) : WdRep κ' w' wi p { σ with A := A' } := by
  have hpl := lt_of_heap h.hpw
  have ho : ∀ b, b < w.heap.size → (κ b = .imm ∨ (κ b).recs wi = true ∨ (κ b).epochs wi = true ∨ κ b = .sh wi 0) → w'.heap[b]? = w.heap[b]? := fun b hb hk => hf.block b hb (by
    cases e : (κ b).arena wi with
    | false => rfl
    | true =>
      have := K.arena_apart _ e
      rcases hk with hk | hk | hk | hk <;> simp_all)
  exact ⟨(he _ hpl).trans h.kpw, (ho _ hpl (.inr (.inr (.inr h.kpw)))).trans h.hpw, ha, h.tab.keep (fun b h1 h2 => ho b h1 (by rcases h2 with h2 | h2; exact .inl h2; exact .inr (.inl h2))) hf.size he, h.ep.keep (fun b h1 h2 => ho b h1 (.inr (.inr (.inl h2)))) hf.size he, h.thr, h.thr64⟩
/-- The table has turned. -/
theorem WdRep.turnT (h : WdRep κ w wi p σ) {T' : TabS} (ht : TabRep κ' w' wi p.pt T') (hf : Fr κ (K.recs wi) w w') (he : Ext κ κ' w) : WdRep κ' w' wi p { σ with T := T' } := by
  have hpl := lt_of_heap h.hpw
  have ho : ∀ b, b < w.heap.size → (κ b = .imm ∨ (κ b).arena wi = true ∨ (κ b).epochs wi = true ∨ κ b = .sh wi 0) → w'.heap[b]? = w.heap[b]? := fun b hb hk => hf.block b hb (by
    cases e : (κ b).recs wi with
    | false => rfl
    | true =>
      have := K.recs_apart _ e
      rcases hk with hk | hk | hk | hk <;> simp_all)
  exact ⟨(he _ hpl).trans h.kpw, (ho _ hpl (.inr (.inr (.inr h.kpw)))).trans h.hpw, h.ar.keep (fun b h1 h2 => ho b h1 (by rcases h2 with h2 | h2; exact .inl h2; exact .inr (.inl h2))) hf.size he, ht, h.ep.keep (fun b h1 h2 => ho b h1 (.inr (.inr (.inl h2)))) hf.size he, h.thr, h.thr64⟩
/-- The epochs have turned. -/
theorem WdRep.turnE (h : WdRep κ w wi p σ) {E' : EpS} (hE : EpRep κ' w' wi p.pe E') (hf : Fr κ (K.epochs wi) w w') (he : Ext κ κ' w) (hl : E'.said.length = σ.E.said.length) : WdRep κ' w' wi p { σ with E := E' } := by
  have hpl := lt_of_heap h.hpw
  have ho : ∀ b, b < w.heap.size → (κ b = .imm ∨ (κ b).arena wi = true ∨ (κ b).recs wi = true ∨ κ b = .sh wi 0) → w'.heap[b]? = w.heap[b]? := fun b hb hk => hf.block b hb (by
    cases e : (κ b).epochs wi with
    | false => rfl
    | true =>
      have := K.epochs_apart _ e
      rcases hk with hk | hk | hk | hk <;> simp_all)
  exact ⟨(he _ hpl).trans h.kpw, (ho _ hpl (.inr (.inr (.inr h.kpw)))).trans h.hpw, h.ar.keep (fun b h1 h2 => ho b h1 (by rcases h2 with h2 | h2; exact .inl h2; exact .inr (.inl h2))) hf.size he, h.tab.keep (fun b h1 h2 => ho b h1 (by rcases h2 with h2 | h2; exact .inl h2; exact .inr (.inr (.inl h2)))) hf.size he, hE, hl.trans h.thr, h.thr64⟩

def rootN : NodeS := NodeS.zero
def entryN : NodeS := ⟨true, false, [], [], [refOf 0 1]⟩
def Ar0 (nodes : Int) : ArS := (((ArS.empty nodes).alloc rootN).2.alloc entryN).2
def Sh0 (threads : Nat) (nodes records : Int) : ShS := ⟨Ar0 nodes, ⟨[], records⟩, ⟨0, List.replicate threads (-1)⟩⟩

theorem alloc0 (nodes : Int) (h : 2 ≤ nodes) : (ArS.empty nodes).alloc rootN = ((refOf 0 1, true), ⟨[⟨rootN, [], 0, false, 1, true⟩], [], nodes, 1, 0⟩) := by
  have h0 : ¬ nodes ≤ 0 := by omega
  simp [ArS.alloc, ArS.empty, h0, ArS.reserve, ArS.fillAt, ArS.put, zeroSlot, wrap32, rootN, NodeS.zero, wrap64]
theorem alloc1 (nodes : Int) (h : 2 ≤ nodes) : ArS.alloc ⟨[⟨rootN, [], 0, false, 1, true⟩], [], nodes, 1, 0⟩ entryN = ((refOf 1 1, true), ⟨[⟨rootN, [], 0, false, 1, true⟩, ⟨entryN, [refOf 0 1], 0, false, 1, true⟩], [], nodes, 2, 0⟩) := by
  have h0 : ¬ nodes ≤ 1 := by omega
  simp [ArS.alloc, h0, ArS.reserve, ArS.fillAt, ArS.put, zeroSlot, wrap32, entryN, NodeS.zero, wrap64]

set_option maxRecDepth 100000 in
set_option maxHeartbeats 1000000 in
theorem newWorld_ok (wi : Nat) (hS : Sup κ w) (a b : Int) (n : Nat) (nodes records : Int) (ha : 2 ≤ a) (ha' : a ≤ 32) (hb : 2 * a - 1 ≤ b) (hb' : b ≤ 32) (hn : 1 ≤ n) (hn' : n ≤ 64) (hk : 2 ≤ nodes) (hk' : nodes ≤ 65536) (hr : 0 ≤ records) (hr' : records ≤ 65536) :
    Calls Try.prog 76 #[.int .i64 a, .int .i64 b, .int .i64 n, .int .i64 nodes, .int .i64 records] w fun e w' =>
    ∃ κ' p, e = .returned (.tuple #[.pointer (some ⟨p.pw, 0, none⟩), .int .i64 0]) ∧ p.a = a ∧ p.b = b ∧ p.entry = refOf 1 1 ∧ p.threads = n ∧ WdRep κ' w' wi p (Sh0 n nodes records) ∧ Fr κ (K.ofW wi) w w' ∧ Ext κ κ' w ∧ Sup κ' w' := by
  have e1 : decide (a < 2) = false := by simp; omega
  have e2 : decide (32 < a) = false := by simp; omega
  have e3 : decide (b < wrap64 (wrap64 (2 * a) - 1)) = false := by simp [wrap64]; omega
  have e4 : decide (32 < b) = false := by simp; omega
  have e5 : decide ((n : Int) < 1) = false := by simp; omega
  have e6 : decide (64 < (n : Int)) = false := by simp; omega
  have e7 : decide (nodes < 2) = false := by simp; omega
  have e8 : decide (65536 < nodes) = false := by simp; omega
  have e9 : decide (records < 0) = false := by simp; omega
  have e10 : decide (65536 < records) = false := by simp; omega
  go_enter Try.func76, Try.ntmps76
  go_wp2_with fail
  refine (newArena_ok wi hS nodes (by omega) hk').mono ?_
  rintro e w1 ⟨κ1, pa, rfl, hA1, hB1, hE1, hS1⟩
  go_wp2_with fail
  refine (newTable_ok wi hS1 records hr hr').mono ?_
  rintro e w2 ⟨κ2, pt, rfl, hT2, hB2, hE2, hS2⟩
  go_wp2_with fail
  refine (newEpochs_ok wi hS2 n hn hn').mono ?_
  rintro e w3 ⟨κ3, pe, rfl, hP3, hB3, hE3, hS3⟩
  have hs1 := hB1.size
  have hs2 := hB2.size
  have hs3 := hB3.size
  have hB := (hB1.trans (hB2.mono hs1)).trans (hB3.mono (by omega))
  have hE := (hE1.trans hE2 hs1).trans hE3 (by omega)
  have hA3 := (hA1.keep (fun b hb _ => hB2.block b hb) hs2 hE2).keep (fun b hb _ => hB3.block b hb) hs3 hE3
  have hT3 := hT2.keep (fun b hb _ => hB3.block b hb) hs3 hE3
  have HA3 := Lib.hid hA3
  have HT3 := Lib.hid hT3
  have HP3 := Lib.hid hP3
  clear hA1 hA3 hT2 hT3 hP3
  go_wp2_with fail
  generalize hW4 : w3.alloc (.cells #[Value.pointer (some ⟨pa, 0, none⟩), Value.pointer (some ⟨pt, 0, none⟩), Value.pointer (some ⟨pe, 0, none⟩), Value.int .i64 a, Value.int .i64 b, Value.int .i64 0] 43) = w4
  have hp4 : w4.heap[w3.heap.size]? = some (.cells #[Value.pointer (some ⟨pa, 0, none⟩), Value.pointer (some ⟨pt, 0, none⟩), Value.pointer (some ⟨pe, 0, none⟩), Value.int .i64 a, Value.int .i64 b, Value.int .i64 0] 43 (0, 0)) := by rw [← hW4]; exact Laws.heap_new w3 _
  have hB4 : Below w3.heap.size w3 w4 := hW4 ▸ (Below.refl _ _).alloc (Nat.le_refl _) _
  have hl4 := lt_of_heap hp4
  have hE4 : Ext κ3 (upd κ3 w3.heap.size (.sh wi 0)) w3 := Ext.upd _ _ _ (Nat.le_refl _)
  have hk4 : upd κ3 w3.heap.size (.sh wi 0) w3.heap.size = .sh wi 0 := upd_at _ _ _
  have hS4 : Sup (upd κ3 w3.heap.size (.sh wi 0)) w4 := hS3.upd _ hl4 hB4.size
  generalize upd κ3 w3.heap.size (.sh wi 0) = κ4 at hE4 hk4 hS4
  generalize hpw : w3.heap.size = pw at *
  have hs4 := hB4.size
  have hA4 := HA3.out.keep (fun b hb _ => hB4.block b (by omega)) (by omega) hE4
  have HT4 := Lib.hid (HT3.out.keep (fun b hb _ => hB4.block b (by omega)) (by omega) hE4)
  have HP4 := Lib.hid (HP3.out.keep (fun b hb _ => hB4.block b (by omega)) (by omega) hE4)
  have hBw4 := hB.trans (hB4.mono (by omega))
  have hEw4 := hE.trans hE4 (by omega)
  clear hW4 HA3 HT3 HP3
  have HPW := Lib.hid hp4
  clear hp4
  refine (alloc_grow (n := rootN) (vp := .slice none 0 0) (vk := .slice none 0 0) (vw := .slice none 0 0) hA4 hS4 (by show (0 : Int) < nodes; omega) rfl (by simp [ArS.empty]) (RowN.nil _ _ _ _) (RowN.nil _ _ _ _) (RowN.nil _ _ _ _) (by decide) (by decide) (by decide)).mono ?_
  rintro e w5 ⟨κ5, rfl, hA5, hF5, hE5, hS5⟩
  rw [alloc0 nodes hk] at hA5 ⊢
  have hp5 := (hF5.block pw hl4 (by rw [hk4]; simp [K.arena])).trans HPW.out
  have p0 : w5.cell? ⟨pw, 0, none⟩ = some (Value.pointer (some ⟨pa, 0, none⟩)) := by rw [cell_of_heap hp5]; rfl
  have HA5 := Lib.hid hA5
  have HP5 := Lib.hid hp5
  clear hA5 hA4 hp5
  go_wp2_with fail
  generalize hW6 : w5.alloc (.cells #[Value.int .i64 (refOf 0 1)] 41) = w6
  have hr6 : w6.heap[w5.heap.size]? = some (.cells #[Value.int .i64 (refOf 0 1)] 41 (0, 0)) := by rw [← hW6]; exact Laws.heap_new w5 _
  have hB6 : Below w5.heap.size w5 w6 := hW6 ▸ (Below.refl _ _).alloc (Nat.le_refl _) _
  have hl6 := lt_of_heap hr6
  have hS6 : Sup κ5 w6 := hS5.mono hB6.size
  have hA6 := HA5.out.keep (κ' := κ5) (fun b hb _ => hB6.block b hb) hB6.size (Ext.refl _ _)
  have hrow : RowN κ5 (K.arena wi) w6 1 (.slice (some ⟨w5.heap.size, 0, none⟩) 1 1) 1 (intVs [refOf 0 1]) := by
    refine ⟨by simp [intVs], _, 1, rfl, Nat.le_refl _, by simp, .inr ⟨w5.heap.size, 0, rfl, hl6, by rw [hS5 _ (Nat.le_refl _)]; rfl, fun j u hu => ?_⟩⟩
    rw [cell_of_heap hr6, Nat.zero_add]
    simpa [intVs] using hu
  refine (alloc_grow (n := entryN) (vp := .slice none 0 0) (vk := .slice none 0 0) (vw := .slice (some ⟨w5.heap.size, 0, none⟩) 1 1) hA6 hS6 (by show (1 : Int) < nodes; omega) rfl (by simp) (RowN.nil _ _ _ _) (RowN.nil _ _ _ _) hrow (by decide) (by decide) (by decide)).mono ?_
  rintro e w7 ⟨κ7, rfl, hA7, hF7, hE7, hS7⟩
  rw [alloc1 nodes hk] at hA7 ⊢
  have hs5 := hF5.size
  have hs6 := hB6.size
  have hk5 : κ5 pw = .sh wi 0 := (hE5 _ hl4).trans hk4
  have hk7 : κ7 pw = .sh wi 0 := (hE7 pw (by omega)).trans hk5
  have hp7 := (hF7.block pw (by omega) (by rw [hk5]; simp [K.arena])).trans ((hB6.block pw (by omega)).trans HP5.out)
  have q0 : w7.cell? ⟨pw, 5, none⟩ = some (Value.int .i64 0) := by rw [cell_of_heap hp7]; rfl
  have qz : w7.frozen? ⟨pw, 5, none⟩ = false := frozen_of_heap hp7
  have HA7 := Lib.hid hA7
  have HP7 := Lib.hid hp7
  clear hA7 hA6 hp7 hW6 hrow
  go_wp2
  refine bodyPost_ret (v := .tuple #[.pointer (some ⟨pw, 0, none⟩), .int .i64 0]) (by simp [results, Try.results76, go_sem]) rfl ?_
  have hs7 := hF7.size
  have hE57 : Ext κ4 κ7 w4 := (hE5.trans (hE7 : Ext κ5 κ7 w6) (by omega))
  have hpl : pw < w7.heap.size := by omega
  have hfo : ∀ b, b ≠ pw → (w7.setCell ⟨pw, 5, none⟩ (.int .i64 (refOf 1 1))).heap[b]? = w7.heap[b]? := fun b hb => Below.heap_setCell _ _ _ _ hb
  have hT7 : TabRep κ7 (w7.setCell ⟨pw, 5, none⟩ (.int .i64 (refOf 1 1))) wi pt ⟨[], records⟩ := by
    refine HT4.out.keep (fun b hb hkb => ?_) (by simp [World.setCell]; omega) hE57
    have h1 : b ≠ pw := by intro e; rw [e, hk4] at hkb; simp [K.recs] at hkb
    have h2 : (K.arena wi) (κ4 b) = false := by
      cases e : (κ4 b).arena wi with
      | false => rfl
      | true => have := K.arena_apart _ e; rcases hkb with hkb | hkb <;> simp_all
    exact (hfo b h1).trans ((hF7.block b (by omega) (by rw [hE5 b hb]; exact h2)).trans ((hB6.block b (by omega)).trans (hF5.block b hb h2)))
  have hP7 : EpRep κ7 (w7.setCell ⟨pw, 5, none⟩ (.int .i64 (refOf 1 1))) wi pe ⟨0, List.replicate n (-1)⟩ := by
    refine HP4.out.keep (fun b hb hkb => ?_) (by simp [World.setCell]; omega) hE57
    have h1 : b ≠ pw := by intro e; rw [e, hk4] at hkb; simp [K.epochs] at hkb
    have h2 : (K.arena wi) (κ4 b) = false := by
      cases e : (κ4 b).arena wi with
      | false => rfl
      | true => have := K.arena_apart _ e; simp_all
    exact (hfo b h1).trans ((hF7.block b (by omega) (by rw [hE5 b hb]; exact h2)).trans ((hB6.block b (by omega)).trans (hF5.block b hb h2)))
  have hA7 : ArRep κ7 (w7.setCell ⟨pw, 5, none⟩ (.int .i64 (refOf 1 1))) wi pa (Ar0 nodes) := by
    have he : Ar0 nodes = ⟨[⟨rootN, [], 0, false, 1, true⟩, ⟨entryN, [refOf 0 1], 0, false, 1, true⟩], [], nodes, 2, 0⟩ := by rw [Ar0, alloc0 nodes hk, alloc1 nodes hk]
    rw [he]
    exact HA7.out.keep (fun b hb hkb => hfo b (by intro e; rw [e, hk7] at hkb; simp [K.arena] at hkb)) (by simp [World.setCell]) (Ext.refl _ _)
  have g5 : Fr κ (K.ofW wi) w w5 := (Fr.below hBw4).trans (hF5.mono K.arena_ofW) hEw4
  have gE5 : Ext κ κ5 w := hEw4.trans hE5 (by omega)
  have g6 : Fr κ (K.ofW wi) w w6 := g5.trans (Fr.below hB6) gE5
  have g7 : Fr κ (K.ofW wi) w w7 := g6.trans (hF7.mono K.arena_ofW) gE5
  refine ⟨κ7, ⟨pw, pa, pt, pe, a, b, refOf 1 1, n⟩, rfl, rfl, rfl, rfl, rfl, ⟨hk7, ?_, hA7, hT7, hP7, by simp [Sh0], hn'⟩, g7.any (fun hlt => by have h0 : pw < w.heap.size := hlt; omega) _, gE5.trans hE7 (by omega), hS7.mono (by simp [World.setCell])⟩
  rw [heap_setCell_at HP7.out]; rfl
end
end Go.Proofs.Ytacmeafpieoaaaa
