/- boscagelaw09.Nodes: its walk. -/
import Derived.Test.YtacmeafpieoaaaaRd
import Derived.Test.YtacmeafpieoaaaaNd
namespace Go.Proofs.Ytacmeafpieoaaaa
open Go.RowKit

def ShN (m n : Nat) : ShS := ⟨ArN n, ⟨[], 40⟩, ⟨0, List.replicate m (-1)⟩⟩
theorem ShN_zero (m : Nat) : ShN m 0 = Sh0 m 60 40 := by rw [ShN, ArN_zero]; rfl
theorem nodeRefs_succ (k : Nat) : nodeRefs (k + 1) = nodeRefs k ++ [nodeRef k] := by simp [nodeRefs, List.range_succ]
theorem intVs_append (a b : List Int) : intVs (a ++ b) = intVs a ++ intVs b := by simp [intVs]
theorem nodeRefs_len (k : Nat) : (nodeRefs k).length = k := by simp [nodeRefs]

/-- A new block of the call's own, as a row. -/
theorem RowN.new {κ : Nat → K} {S : K → Bool} {w : World} {b : Nat} {cs : Array Value} {t : TypeId} {fr : Nat × Nat} (h : w.heap[b]? = some (.cells cs t fr)) (hk : S (κ b) = false) (n : Nat) (l : List Value) (hl : cs = l.toArray) (sz : Nat) (hn : l.length = n * sz) : RowN κ S w sz (.slice (some ⟨b, 0, none⟩) n n) n l := by
  refine ⟨hn, _, n, rfl, Nat.le_refl _, by simp, .inr ⟨b, 0, rfl, lt_of_heap h, hk, fun j u hu => ?_⟩⟩
  rw [cell_of_heap h, Nat.zero_add, hl]
  simpa using hu

/-- Blocks that bear a kind keep it. -/
def Kin (κ κ' : Nat → K) : Prop := ∀ b, κ b ≠ .none → κ' b = κ b
section
variable {κ κ' : Nat → K} {w : World} {wi : Nat}
theorem Kin.at (h : Kin κ κ') {b : Nat} {k : K} (hb : κ b = k) (hk : k ≠ .none) : κ' b = k := (h b (by rw [hb]; exact hk)).trans hb
theorem Row.rekind {k : K} {sz n : Nat} {v : Value} {cs : List Value} (h : Row κ k w sz v n cs) (hk : k ≠ .none) (he : Kin κ κ') : Row κ' k w sz v n cs := by
  obtain ⟨h1, a, cap, h2, h3, h4, h5⟩ := h
  exact ⟨h1, a, cap, h2, h3, h4, h5.imp id fun ⟨g, o, h6, h7, h8, h9⟩ => ⟨g, o, h6, h7, he.at h8 hk, h9⟩⟩
theorem ArRep.rekind {pa : Nat} {A : ArS} (h : ArRep κ w wi pa A) (he : Kin κ κ') : ArRep κ' w wi pa A := by
  obtain ⟨vs, vf, raw, h⟩ := h
  refine ⟨vs, vf, raw, he.at h.kpa (by simp), h.hpa, h.own, fun g hg => he.at (h.kvs g hg) (by simp), fun i s hi => ?_, h.fown, fun g hg => he.at (h.kvf g hg) (by simp), h.bound⟩
  obtain ⟨v2, v3, v4, v5, hv⟩ := h.slots i s hi
  exact ⟨v2, v3, v4, v5, hv.c0, hv.c1, hv.c2, hv.c3, hv.c4, hv.c5, hv.c6, hv.c7, hv.c8, hv.c9, hv.r2.rekind (by simp) he, hv.r3.rekind (by simp) he, hv.r4.rekind (by simp) he, hv.r5.rekind (by simp) he, hv.sm⟩
theorem TabRep.rekind {pt : Nat} {T : TabS} (h : TabRep κ w wi pt T) (he : Kin κ κ') : TabRep κ' w wi pt T := by
  obtain ⟨vl, bs, h⟩ := h
  refine ⟨vl, bs, he.at h.kpt (by simp), h.hpt, h.own, fun g hg => he.at (h.kvl g hg) (by simp), h.len, fun i e hi => ?_, h.bound⟩
  obtain ⟨b, vn, vi, h1, h2⟩ := h.ents i e hi
  exact ⟨b, vn, vi, h1, he.at h2.kb (by simp), h2.hb, h2.rn.rekind (by simp) he, h2.ri.rekind (by simp) he, h2.sm⟩
theorem EpRep.rekind {pe : Nat} {E : EpS} (h : EpRep κ w wi pe E) (he : Kin κ κ') : EpRep κ' w wi pe E := by
  obtain ⟨vs, vl, h⟩ := h
  exact ⟨vs, vl, he.at h.kpe (by simp), h.hpe, h.own, fun g hg => he.at (h.kvs g hg) (by simp), h.lim.rekind (by simp) he⟩
theorem WdRep.rekind {p : WdP} {σ : ShS} (h : WdRep κ w wi p σ) (he : Kin κ κ') : WdRep κ' w wi p σ :=
  ⟨he.at h.kpw (by simp), h.hpw, h.ar.rekind he, h.tab.rekind he, h.ep.rekind he, h.thr, h.thr64⟩
theorem Kin.imms {l : List (Option Nat)} (h : ∀ g, some g ∈ l → κ g = .none) : Kin κ (imms κ l) := by
  intro b hb
  have : ¬ some b ∈ l := fun hm => hb (h b hm)
  simp only [Ytacmeafpieoaaaa.imms, if_neg this]
end

section
variable {κ : Nat → K} {w : World}

set_option maxRecDepth 100000 in
theorem nodes_ok (wi : Nat) (hS : Sup κ w) (m n : Nat) (hm : 1 ≤ m) (hm' : m ≤ 64) (hn : n ≤ 50) : Calls Try.prog 66 #[.int .i64 m, .int .i64 n] w fun e w' =>
    ∃ κ' p a c, e = .returned (.tuple #[.pointer (some ⟨p.pw, 0, none⟩), .slice a n c]) ∧ p.entry = refOf 1 1 ∧ WdRep κ' w' wi p (ShN m n) ∧ Row κ' .imm w' 1 (.slice a n c) n (intVs (nodeRefs n)) ∧ Fr κ (K.ofW wi) w w' ∧ Ext κ κ' w ∧ Sup κ' w' := by
  obtain ⟨j0, hj, hy0, hy1, hy2⟩ := info_parts info41
  go_enter Try.func66, Try.ntmps66
  go_wp2_with fail
  refine (newWorld_ok wi hS 2 3 m 60 40 (by decide) (by decide) (by decide) (by decide) hm hm' (by decide) (by decide) (by decide) (by decide)).mono ?_
  rintro e w1 ⟨κ1, p, rfl, _, _, hpe, hpt, hW1, hF1, hE1, hS1⟩
  clear hpt
  rw [← ShN_zero] at hW1
  have HPE := Lib.hid hpe
  have HW1 := Lib.hid hW1
  have HF1 := Lib.hid hF1
  have HE1 := Lib.hid hE1
  have HS1 := Lib.hid hS1
  clear hW1 hF1 hE1 hS1 hS hpe
  go_wp2
  go_loopw [8, 18] (fun v i wr => ∃ (k : Nat) (κ1 : Nat → Ytacmeafpieoaaaa.K), i = .int .i64 k ∧ k ≤ n ∧ Hid (WdRep κ1 wr wi p (ShN m k)) ∧ Hid (Own wr 41 1 v k (intVs (nodeRefs k))) ∧ Hid (∀ g, blk v = some g → w.heap.size ≤ g ∧ κ1 g = .none) ∧
      Hid (Fr κ (K.ofW wi) w wr) ∧ Hid (Ext κ κ1 w) ∧ Hid (Sup κ1 wr)) (fun _ i _ => n - (intOf i).toNat)
  case atStart => exact ⟨0, κ1, rfl, Nat.zero_le _, HW1, Lib.hid (Own.nil _ _ _), Lib.hid (by simp [blk]), HF1, HE1, HS1⟩
  case round =>
    clear HW1 HF1 HE1 HS1
    obtain ⟨k, κ2, rfl, hk, HW, HO, HB, HF, HE, HS⟩ := hrel
    obtain ⟨_, a, cap, rfl, hle, hcm, _⟩ := id HO.out
    by_cases hlt : k < n
    · have c0 : wr.cell? ⟨p.pw, 0, none⟩ = some (.pointer (some ⟨p.pa, 0, none⟩)) := cellAt HW.out.hpw 0 rfl
      have hpl := lt_of_heap HW.out.hpw
      go_wp2_with fail
      clear c0
      generalize hW2 : (wr.alloc (.cells #[Value.int .i64 5] 2)).alloc (.cells #[Value.int .i64 (200 + 10 * (k : Int)), Value.int .i64 (201 + 10 * (k : Int))] 41) = w2
      have hb0 : w2.heap[wr.heap.size]? = some (.cells #[Value.int .i64 5] 2 (0, 0)) := by
        rw [← hW2, Below.heap_alloc _ _ _ (by simp)]; exact Laws.heap_new wr _
      have hb1 : w2.heap[wr.heap.size + 1]? = some (.cells #[Value.int .i64 (200 + 10 * (k : Int)), Value.int .i64 (201 + 10 * (k : Int))] 41 (0, 0)) := by
        have := Laws.heap_new (wr.alloc (.cells #[Value.int .i64 5] 2)) (.cells #[Value.int .i64 (200 + 10 * (k : Int)), Value.int .i64 (201 + 10 * (k : Int))] 41)
        rw [← hW2]; simpa using this
      have hB2 : Below wr.heap.size wr w2 := hW2 ▸ ((Below.refl _ _).alloc (Nat.le_refl _) _).alloc (by simp) _
      have hS2 : Sup κ2 w2 := HS.out.mono hB2.size
      have hW2' := HW.out.below (κ' := κ2) hB2 (Ext.refl _ _)
      have hO2 := HO.out.move (w' := w2) fun g hg => hB2.block g (HO.out.lt g hg)
      have r1 : RowN κ2 (K.arena wi) w2 1 (.slice (some ⟨wr.heap.size, 0, none⟩) 1 1) (nodeK k).keys.length (intVs (nodeK k).keys) := RowN.new hb0 (by rw [HS.out _ (Nat.le_refl _)]; rfl) 1 _ rfl 1 rfl
      have r2 : RowN κ2 (K.arena wi) w2 1 (.slice (some ⟨wr.heap.size + 1, 0, none⟩) 2 2) (nodeK k).ways.length (intVs (nodeK k).ways) := RowN.new hb1 (by rw [HS.out _ (by omega)]; rfl) 2 _ rfl 1 rfl
      have HW2 := Lib.hid hW2'
      have HO2 := Lib.hid hO2
      have HF2 := Lib.hid (HF.out.trans (Fr.below hB2) HE.out)
      have hs2 := hB2.size
      have HHB := Lib.hid hb1
      clear hW2 hW2' hO2 hb0 hb1
      refine (alloc_grow (n := nodeK k) (vp := .slice none 0 0) HW2.out.ar hS2 (by show (2 : Int) + (k : Int) < 60; omega) rfl (by show (ArN k).slots.length < 65536; rw [ArN_len]; omega) (RowN.nil _ _ _ _) r1 r2 (by simp [nodeK]) (by simp [nodeK]) (by simp [nodeK])).mono ?_
      rintro e w3 ⟨κ3, rfl, hA, hF3, hE3, hS3⟩
      rw [show (ShN m k).A = ArN k from rfl, ArN_alloc k (by omega)] at hA ⊢
      have HW3 := Lib.hid (show WdRep κ3 w3 wi p (ShN m (k + 1)) from HW2.out.turnA hA hF3 hE3)
      have hko : ∀ g, blk (.slice a k cap) = some g → w.heap.size ≤ g ∧ κ3 g = .none := fun g hg => ⟨(HB.out g hg).1, (hE3 g (HO2.out.lt g hg)).trans (HB.out g hg).2⟩
      have HO3 := Lib.hid (HO2.out.move (w' := w3) fun g hg => hF3.block g (HO2.out.lt g hg) (by rw [(HB.out g hg).2]; rfl))
      have HB3 := Lib.hid hko
      have HF3 := Lib.hid (HF2.out.trans (hF3.mono K.arena_ofW) HE.out)
      have hs3 := hF3.size
      have hwr := HF.out.size
      have HE3 := Lib.hid (HE.out.trans hE3 (by omega))
      have HS3 := Lib.hid hS3
      clear hA hko hF3 hE3 hS3 hS2 HB HF HE HS HW HO r1 r2 HO2 HF2 HW2
      go_wp2_with (at_builtin; refine wpList_append_row rfl _ _ 56 rfl 41 j0 (.int .i64 0) 1 8 Try.underlying56 hj hy0 hy1 hy2 rfl (by decide) _ k (intVs (nodeRefs k)) rfl ?c0 (some ⟨w3.heap.size, 0, none⟩) 1 1 [.int .i64 (nodeRef k)] rfl ?c1 ?c4 ?c2 ?c3 ?_)
      case c0 => exact HO3.out.move fun g hg => Below.heap_alloc _ _ _ (HO3.out.lt g hg)
      case c1 => exact ⟨rfl, .inr ⟨_, rfl, fun j u hu => by rw [Addr.add_lit, cell_of_heap (Laws.heap_new w3 _)]; simpa using hu⟩⟩
      case c4 => intro u hu; simp only [List.mem_cons, List.not_mem_nil, or_false] at hu; subst hu; rfl
      case c2 => simp only [maxLen]; omega
      case c3 => omega
      intro v' w4 hapd
      obtain ⟨a', cap', rfl, _⟩ := hapd.own.2
      have HA := Lib.hid hapd
      clear hapd
      go_wp2
      go_roundw
      case rel =>
        have hapd := HA.out
        have hal : Below w3.heap.size w3 (w3.alloc (.cells #[Value.int .i64 (nodeRef k)] 41)) := (Below.refl _ _).alloc (Nat.le_refl _) _
        have hfa := hapd.fr (κ := κ3) (S := fun k => k == .none) (fun g hg => by rw [(HB3.out g hg).2]; rfl)
        have hs4 : w3.heap.size + 1 ≤ w4.heap.size := by have := hapd.size; simpa using this
        refine ⟨k + 1, κ3, by go_num, by omega, Lib.hid ?_, Lib.hid ?_, Lib.hid fun g hg => ?_, Lib.hid ?_, HE3, Lib.hid (HS3.out.mono (by omega))⟩
        · exact (HW3.out.below hal (Ext.refl _ _)).fr hfa (fun k hk => by rcases hk with hk | hk; · rw [hk]; rfl
                                                                          · cases k <;> first | rfl | simp [K.ofW] at hk) (Ext.refl _ _)
        · rw [nodeRefs_succ, intVs_append]; exact hapd.own
        · rcases hapd.at_ with e | e
          · exact HB3.out g (e ▸ hg)
          · rw [hg] at e
            simp at e
            subst e
            exact ⟨by omega, HS3.out _ (by omega)⟩
        · have f1 := HF3.out.trans (Fr.below hal) HE3.out
          refine ⟨hapd.os.trans f1.os, hapd.tape.trans f1.tape, hapd.output.trans f1.output, by have := f1.size; omega, fun b hb hSb => (hapd.block b (by have := f1.size; omega) (fun e => by have := (HB3.out b e).1; omega)).trans (f1.block b hb hSb)⟩
      case measure => simp [intOf]; omega
    · have hkn : k = n := by omega
      subst hkn
      go_wp2
      refine bodyPost_ret (v := .tuple #[.pointer (some ⟨p.pw, 0, none⟩), .slice a k cap]) (by simp [results, Try.results66, go_sem]) rfl ?_
      have hOwn := HO.out
      refine ⟨imms κ2 [blk (.slice a k cap)], p, a, cap, rfl, HPE.out, ?_, ?_, HF.out, ?_, ?_⟩
      · exact HW.out.rekind (Kin.imms fun g hg => by simp only [List.mem_cons, List.not_mem_nil, or_false] at hg; exact (HB.out g hg.symm).2)
      · exact Row.ofOwn hOwn (fun g hg => imms_at (by simp [hg])) hOwn.noneEmpty
      · intro b hb
        have : ¬ some b ∈ [blk (.slice a k cap)] := by
          intro h
          simp only [List.mem_cons, List.not_mem_nil, or_false] at h
          have := (HB.out b h.symm).1
          omega
        simp only [imms, if_neg this]
        exact HE.out b hb
      · intro b hb
        have : ¬ some b ∈ [blk (.slice a k cap)] := by
          intro h
          simp only [List.mem_cons, List.not_mem_nil, or_false] at h
          have := hOwn.lt b h.symm
          omega
        simp only [imms, if_neg this]
        exact HS.out b hb
end
end Go.Proofs.Ytacmeafpieoaaaa
