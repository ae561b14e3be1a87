/- Thread.run, Thread.Step. -/
import Derived.Test.YtacmeafpieoaaaaTj
namespace Go.Proofs.Ytacmeafpieoaaaa
open Go.RowKit

/-- A row of numbers, handed over. -/
def isRow : List Int → (Nat → K) → World → Value → Prop := fun l κ w v => Row κ .imm w 1 v l.length (intVs l)
/-- What all threads' steps may change. -/
def K.run (wi : Nat) : K → Bool := fun k => k.ofW wi || match k with | .thr _ => true | .log _ => true | _ => false
theorem K.step_run {wi j : Nat} (k : K) (h : K.step wi j k = true) : K.run wi k = true := by
  cases k <;> simp_all [K.step, K.run, K.ofW, K.thrd]
/-- A closure that goes by a program, whenever it is called. -/
def WorkOk (κ : Nat → K) (w : World) (wi : Nat) (p : WdP) (j pth k : Nat) (caps : Array Value) (pr : Pr (List Int)) : Prop :=
  ∀ κ1 w1 T σ, Fr κ (K.run wi) w w1 → Ext κ κ1 w → St κ1 w1 wi p j pth (.func (.func k) #[] caps) T σ →
    Calls Try.prog k (#[.pointer (some ⟨pth, 0, none⟩)] ++ caps) w1 (TPost κ1 w1 wi p j pth (.func (.func k) #[] caps) (pr.exec T σ) isRow)

theorem leaves_congr {P : Program} {fn : Func} {t t' : Array Value} {R : Ending → World → Prop} (h : results fn t = results fn t') : ∀ (ds : List Deferred) (u : FrameMode) (w : World), Leaves P fn t R ds u w → Leaves P fn t' R ds u w := by
  intro ds
  induction ds with
  | nil =>
    intro u w hl
    cases u with
    | returning => simp only [Leaves] at hl ⊢; rw [← h]; exact hl
    | panicking c => exact hl
    | run => exact hl
  | cons d ds ih =>
    intro u w hl
    obtain ⟨h1, fv, cap, f, args, h2, h3, h4⟩ := hl
    refine ⟨h1, fv, cap, f, args, h2, h3, h4.mono fun e u' w' hh => ?_⟩
    cases e with
    | returned v => exact ih _ _ hh
    | panicked c => exact ih _ _ hh
    | outgrown => exact hh
theorem res_cases {α : Type} (r : Res α) : (∃ T σ, r = .wait T σ) ∨ (∃ a T σ, r = .out a T σ) := by
  cases r with
  | out a T σ => exact .inr ⟨a, T, σ, rfl⟩
  | wait T σ => exact .inl ⟨T, σ, rfl⟩
theorem panic116 {R : Ending → World → Prop} {K : Act → World → Prop} {c : List PanicEntry} {a : Act} {w : World} {d : Tmp} {v : Value} (hd : d ≠ 2) (h : (Exit.then K (bodyPostD Try.prog Try.f116 R)) (.panic c) (a.put (some d) v) w) : (Exit.then K (bodyPostD Try.prog Try.f116 R)) (.panic c) a w := by
  refine leaves_congr (t := a.tmps.setIfInBounds d v) ?_ _ _ _ h
  simp [results, Try.results116, Array.getElem?_setIfInBounds_ne hd]

section
variable {κ κ' : Nat → K} {w w' : World} {wi j pth : Nat} {p : WdP} {σ : ShS} {T : TS} {logv : Value} {k : Nat} {caps : Array Value} {pr : Pr (List Int)} {log : List Int}

/-- What run comes to. -/
def RunEnd (κ : Nat → K) (w : World) (wi : Nat) (p : WdP) (j pth : Nat) (work : Value) (r : Res (List Int)) (e : Ending) (w' : World) : Prop := match r with
  | .out l T σ => ∃ κ' outv logv, e = .returned (.bool true) ∧ WdRep κ' w' wi p σ ∧ ThrAt κ' w' j pth work logv T false true outv ∧ Row κ' .imm w' 1 outv l.length (intVs l) ∧ Fr κ (K.step wi j) w w' ∧ Ext κ κ' w ∧ Sup κ' w'
  | .wait T σ => ∃ κ' logv, e = .returned (.bool false) ∧ WdRep κ' w' wi p σ ∧ ThrAt κ' w' j pth work logv T false false (.slice none 0 0) ∧ Fr κ (K.step wi j) w w' ∧ Ext κ κ' w ∧ Sup κ' w'

theorem ThrAt.turn {work outv outv' : Value} {inn done inn' done' : Bool} (h : ThrAt κ w j pth work logv T inn done outv) (hb : ∀ b, b < w.heap.size → b ≠ pth → κ b ≠ .none → w'.heap[b]? = w.heap[b]?)
    (hp : w'.heap[pth]? = some (.cells #[work, logv, .int .i64 T.pos, .bool T.spent, .bool inn', .bool done', outv'] 177 (0, 0))) : ThrAt κ w' j pth work logv T inn' done' outv' :=
  ⟨h.kp, hp, h.own.move fun g hg => hb g (h.own.lt g hg) (by intro e; have := h.kl g hg; rw [e, h.kp] at this; cases this) (by rw [h.kl g hg]; intro e; cases e), h.kl⟩
theorem WdRep.turn (h : WdRep κ w wi p σ) (hk : κ pth = .thr j) (hb : ∀ b, b < w.heap.size → b ≠ pth → κ b ≠ .none → w'.heap[b]? = w.heap[b]?) (hs : w.heap.size ≤ w'.heap.size) : WdRep κ w' wi p σ :=
  h.keep (fun b h1 h2 => hb b h1 (by intro e; rw [e, hk] at h2; simp [K.ofW] at h2) (by intro e; rw [e] at h2; simp [K.ofW] at h2)) hs (Ext.refl _ _)

set_option maxRecDepth 100000 in
theorem run_ok (h : ThrAt κ w j pth (.func (.func k) #[] caps) logv ⟨log, 0, false⟩ false false (.slice none 0 0)) (hW : WdRep κ w wi p σ) (hS0 : Sup κ w) (hlog : log.length < 100000) (hent : Enters Try.prog k) (hwork : WorkOk κ w wi p j pth k caps pr) :
    Calls Try.prog 116 #[.pointer (some ⟨pth, 0, none⟩)] w (RunEnd κ w wi p j pth (.func (.func k) #[] caps) (pr.exec ⟨log, 0, false⟩ σ)) := by
  have hmf : ∀ (fn : Fn) (first cap : Array Value) (w : World), (Instr.makeFunc fn first cap).run Try.prog w = .ok (.func fn first cap) w := fun _ _ _ _ => rfl
  have hpl := lt_of_heap h.hp
  have hne : ¬ w.heap.size = pth := by omega
  have hne' : ¬ pth = w.heap.size := by omega
  have hne1 : ¬ w.heap.size + 1 = pth := by omega
  have hne1' : ¬ pth = w.heap.size + 1 := by omega
  have c4 := h.cell 4
  have z4 := h.frozen 4
  simp only [List.getElem?_toArray, List.getElem?_cons_succ, List.getElem?_cons_zero] at c4
  have hcf := fun args w => hent args w
  have H := Lib.hid h
  have HW := Lib.hid hW
  have HK := Lib.hid hwork
  clear h hW hwork hent
  go_enter_defers Try.func116, Try.ntmps116
  go_wp2
  generalize hW1 : ((w.setCell ⟨pth, 4, none⟩ (.bool true)).alloc (.cells #[.pointer (some ⟨pth, 0, none⟩)] 61)).alloc (.cells #[.bool false] 4) = w1
  have hz0 : (w.setCell ⟨pth, 4, none⟩ (.bool true)).heap.size = w.heap.size := by simp [World.setCell]
  have hB0 : Below w.heap.size (w.setCell ⟨pth, 4, none⟩ (.bool true)) w1 := hW1 ▸ ((Below.refl _ _).alloc (by omega) _).alloc (by simp [hz0]) _
  have hs1 : w1.heap.size = w.heap.size + 2 := by rw [← hW1]; simp [World.setCell]
  have hp1 : w1.heap[pth]? = some (.cells #[.func (.func k) #[] caps, logv, .int .i64 (0 : Nat), .bool false, .bool true, .bool false, .slice none 0 0] 177 (0, 0)) := by
    rw [hB0.block pth hpl, heap_setCell_at H.out.hp]; rfl
  have hx1 : w1.heap[w.heap.size]? = some (.cells #[.pointer (some ⟨pth, 0, none⟩)] 61 (0, 0)) := by
    rw [← hW1, Below.heap_alloc _ _ _ (by simp [hz0])]
    have := Laws.heap_new (w.setCell ⟨pth, 4, none⟩ (.bool true)) (.cells #[.pointer (some ⟨pth, 0, none⟩)] 61)
    rwa [hz0] at this
  have hy1 : w1.heap[w.heap.size + 1]? = some (.cells #[.bool false] 4 (0, 0)) := by
    rw [← hW1]
    have := Laws.heap_new ((w.setCell ⟨pth, 4, none⟩ (.bool true)).alloc (.cells #[.pointer (some ⟨pth, 0, none⟩)] 61)) (.cells #[.bool false] 4)
    simpa [hz0] using this
  have ho1 : ∀ b, b < w.heap.size → b ≠ pth → w1.heap[b]? = w.heap[b]? := fun b hb hbp => (hB0.block b hb).trans (Below.heap_setCell _ _ _ _ hbp)
  have hF1 : Fr κ (K.step wi j) w w1 := by
    have h1 : Fr κ (K.step wi j) w (w.setCell ⟨pth, 4, none⟩ (.bool true)) := Fr.setCell _ _ (by simp [H.out.kp, K.step, K.thrd])
    exact h1.trans0 (Fr.below (by rw [hz0]; exact hB0))
  have hE1 : Ext κ κ w := Ext.refl _ _
  have hF1r : Fr κ (K.run wi) w w1.drew := hF1.drewn.mono K.step_run
  have hstep : (K.step wi j) (κ pth) = true := by rw [show κ pth = .thr j from H.out.kp]; simp [K.step, K.thrd]
  clear hW1 hB0
  have hS : _ ∧ _ := ⟨(by rw [show w1.drew.cell? _ = w1.cell? _ from rfl, cell_of_heap hx1]; rfl : w1.drew.cell? ⟨w.heap.size, 0, none⟩ = some (.pointer (some ⟨pth, 0, none⟩))), (by rw [show w1.drew.cell? _ = w1.cell? _ from rfl, cell_of_heap hp1]; rfl : w1.drew.cell? ⟨pth, 0, none⟩ = some (.func (.func k) #[] caps))⟩
  have hSt : St κ w1.drew wi p j pth (.func (.func k) #[] caps) ⟨log, 0, false⟩ σ := by
    have h1 : ThrAt κ w1 j pth (.func (.func k) #[] caps) logv ⟨log, 0, false⟩ true false (.slice none 0 0) :=
      ⟨H.out.kp, hp1, H.out.own.move fun g hg => ho1 g (H.out.own.lt g hg) (by intro e; have := H.out.kl g hg; rw [e, H.out.kp] at this; cases this), H.out.kl⟩
    have h2 : WdRep κ w1 wi p σ := HW.out.keep (fun b hb hk => ho1 b hb (by intro e; rw [e, H.out.kp] at hk; simp [K.ofW] at hk)) (by omega) (Ext.refl _ _)
    exact ⟨h2.below (Below.refl _ _).drew (Ext.refl _ _), ⟨logv, h1.keep (fun b _ _ => rfl) (Ext.refl _ _)⟩, ⟨Nat.zero_le _, by simp; omega⟩, hS0.mono (by show w.heap.size ≤ w1.heap.size; omega)⟩
  refine Mask.begin_ (fun W' => W'.cell? ⟨w.heap.size, 0, none⟩ = some (.pointer (some ⟨pth, 0, none⟩)) ∧ W'.cell? ⟨pth, 0, none⟩ = some (.func (.func k) #[] caps)) (fun i => i != 7 && i != 8 && i != 9) (by kernel_rfl) ?_
  refine Mask.take 0 7 (v := ?_) rfl rfl (by kernel_rfl) (by kernel_rfl) (by kernel_rfl) rfl (by kernel_rfl) (by kernel_rfl) (fun _ _ _ h => panic116 (by decide) h) hS (Or.inl ⟨by rfl, ?_⟩) ?_
  rotate_left
  · intro w hSw; (try dsimp only at hSw); go_simp; try with_reducible rfl
  simp only [Act.put, List.setIfInBounds_toArray, List.set_cons_zero, List.set_cons_succ]
  refine Mask.take 1 8 (v := ?_) rfl rfl (by kernel_rfl) (by kernel_rfl) (by kernel_rfl) rfl (by kernel_rfl) (by kernel_rfl) (fun _ _ _ h => panic116 (by decide) h) hS (Or.inl ⟨by rfl, ?_⟩) ?_
  rotate_left
  · intro w hSw; (try dsimp only at hSw); go_simp; try with_reducible rfl
  simp only [Act.put, List.setIfInBounds_toArray, List.set_cons_zero, List.set_cons_succ]
  refine Mask.take 2 9 (v := ?_) rfl rfl (by kernel_rfl) (by kernel_rfl) (by kernel_rfl) rfl (by kernel_rfl) (by kernel_rfl) (fun _ _ _ h => panic116 (by decide) h) hS (Or.inl ⟨by rfl, ?_⟩) ?_
  rotate_left
  · intro w hSw; (try dsimp only at hSw); go_simp; try with_reducible rfl
  simp only [Act.put, List.setIfInBounds_toArray, List.set_cons_zero, List.set_cons_succ]
  refine Mask.take 3 10 (v := ?_) rfl rfl (by kernel_rfl) (by kernel_rfl) (by kernel_rfl) rfl (by kernel_rfl) (by kernel_rfl) (fun _ _ _ h => panic116 (by decide) h) hS (Or.inl ⟨by rfl, ?_⟩) ?_
  rotate_left
  · intro w hSw; (try dsimp only at hSw); go_simp; try with_reducible rfl
  simp only [Act.put, List.setIfInBounds_toArray, List.set_cons_zero, List.set_cons_succ]
  refine Mask.take 4 11 (v := ?_) rfl rfl (by kernel_rfl) (by kernel_rfl) (by kernel_rfl) rfl (by kernel_rfl) (by kernel_rfl) (fun _ _ _ h => panic116 (by decide) h) hS (Or.inl ⟨by rfl, ?_⟩) ?_
  rotate_left
  · intro w hSw; (try dsimp only at hSw); go_simp; try with_reducible rfl
  simp only [Act.put, List.setIfInBounds_toArray, List.set_cons_zero, List.set_cons_succ]
  refine Mask.take 5 12 (v := ?_) rfl rfl (by kernel_rfl) (by kernel_rfl) (by kernel_rfl) rfl (by kernel_rfl) (by kernel_rfl) (fun _ _ _ h => panic116 (by decide) h) hS (Or.inl ⟨by rfl, ?_⟩) ?_
  rotate_left
  · intro w hSw; (try dsimp only at hSw); go_simp; try with_reducible rfl
  simp only [Act.put, List.setIfInBounds_toArray, List.set_cons_zero, List.set_cons_succ]
  -- 6: call t11[t12] types#[61]
  refine Mask.one 6 (by kernel_rfl) rfl rfl (fun K hK => ?_)
  go_simp
  refine (HK.out κ w1.drew _ _ hF1r (Ext.refl _ _) hSt).mono ?_
  rintro e w2 hh
  rcases res_cases (pr.exec ⟨log, 0, false⟩ σ) with ⟨T1, σ1, hr⟩ | ⟨l, T1, σ1, hr⟩
  · rw [hr] at hh
    obtain ⟨κ2, rfl, hst, hF2, hE2⟩ := hh
    have HX := Lib.hid hr
    clear hr hS hcf
    have hx2 := (hF2.block w.heap.size (by show w.heap.size < w1.heap.size; omega) (by rw [hS0 _ (Nat.le_refl _)]; rfl)).trans hx1
    have hy2 := (hF2.block (w.heap.size + 1) (by show w.heap.size + 1 < w1.heap.size; omega) (by rw [hS0 _ (by omega)]; rfl)).trans hy1
    obtain ⟨logv2, hth2⟩ := hst.th
    refine leaves_cons (f := 149) (args := #[.pointer (some ⟨w.heap.size, 0, none⟩), .pointer (some ⟨w.heap.size + 1, 0, none⟩)]) (by simp) (by simp [go_sem]) ?_
    refine (catch_wait w.heap.size (w.heap.size + 1) pth true (by rw [cell_of_heap hx2]; rfl) (by rw [cell_of_heap hy2]; rfl) (frozen_of_heap hy2) (hth2.cell 4) (hth2.frozen 4) hne hne1 (lt_of_heap hy2)).mono ?_
    rintro e u' w'' ⟨rfl, rfl, rfl⟩
    refine ⟨.bool false, ?_, ?_⟩
    · have hyf : (((w2.setCell ⟨pth, 4, none⟩ (.bool false)).setCell ⟨w.heap.size + 1, 0, none⟩ (.bool false)).alloc (.cells #[] 219)).heap[w.heap.size + 1]? = some (.cells #[.bool false] 4 (0, 0)) := by
        rw [Below.heap_alloc _ _ _ (by simpa [World.setCell] using lt_of_heap hy2), heap_setCell_at (b := w.heap.size + 1) (cs := #[.bool false]) (t := 4) (fr := (0, 0)) (by rw [Below.heap_setCell _ _ _ _ hne1]; exact hy2)]; rfl
      simp [results, Try.results116, go_sem, cell_of_heap hyf]
    have hk2 : κ2 (w.heap.size + 1) = .none := (hE2 _ (by show w.heap.size + 1 < w1.heap.size; omega)).trans (hS0 _ (by omega))
    have hso : ∀ b, b < w2.heap.size → b ≠ pth → κ2 b ≠ .none → (((w2.setCell ⟨pth, 4, none⟩ (.bool false)).setCell ⟨w.heap.size + 1, 0, none⟩ (.bool false)).alloc (.cells #[] 219)).heap[b]? = w2.heap[b]? := fun b h1 h2 h3 => by
      rw [Below.heap_alloc _ _ _ (by simpa [World.setCell] using h1), Below.heap_setCell _ _ _ _ (by intro e; rw [show b = w.heap.size + 1 from e] at h3; exact h3 hk2), Below.heap_setCell _ _ _ _ h2]
    rw [HX.out]
    refine ⟨κ2, logv2, rfl, hst.wd.turn hth2.kp hso (by simp [World.setCell]), hth2.turn hso ?_, ?_, hE1.trans hE2 hF1.size, hst.sup.mono (by simp [World.setCell])⟩
    · rw [Below.heap_alloc _ _ _ (by simpa [World.setCell] using lt_of_heap hth2.hp), Below.heap_setCell _ _ _ _ hne1', heap_setCell_at hth2.hp]; rfl
    · exact (((hF1.drewn.trans hF2 (Ext.refl _ _)).any (fun _ => hstep) _).any (fun hlt => by have h0 : w.heap.size + 1 < w.heap.size := hlt; omega) _).newb _
  rw [hr] at hh
  obtain ⟨κ2, v, rfl, hrow, hst, hF2, hE2⟩ := hh
  obtain ⟨av, capv, rfl, _, _⟩ := Row.shape hrow
  have HX := Lib.hid hr
  clear hr hcf
  have hx2 := (hF2.block w.heap.size (by show w.heap.size < w1.heap.size; omega) (by rw [hS0 _ (Nat.le_refl _)]; rfl)).trans hx1
  obtain ⟨logv2, hth2⟩ := hst.th
  have z6 := hth2.frozen 6
  have c6 := hth2.cell 6
  simp only [List.getElem?_toArray, List.getElem?_cons_succ, List.getElem?_cons_zero] at c6
  refine hK _ _ (fun _ => ?_) (?_)
  · exact ⟨by rw [cell_of_heap hx2]; rfl, by rw [hth2.cell 0]; rfl⟩
  clear hK K
  try simp only [Act.put, List.setIfInBounds_toArray, List.set_cons_zero, List.set_cons_succ]
  refine Mask.takeP 7 14 (v := ?_) rfl rfl (by kernel_rfl) (by kernel_rfl) (by kernel_rfl) rfl (fun _ _ _ h => panic116 (by decide) h) (Or.inl ⟨by rfl, ?_⟩) ?_
  rotate_left
  · intro w hSw; (try dsimp only at hSw); go_simp; try with_reducible rfl
  simp only [Act.put, List.setIfInBounds_toArray, List.set_cons_zero, List.set_cons_succ]
  refine Mask.takeP 8 15 (v := ?_) rfl rfl (by kernel_rfl) (by kernel_rfl) (by kernel_rfl) rfl (fun _ _ _ h => panic116 (by decide) h) (Or.inl ⟨by rfl, ?_⟩) ?_
  rotate_left
  · intro w hSw; (try dsimp only at hSw); go_simp; try with_reducible rfl
  simp only [Act.put, List.setIfInBounds_toArray, List.set_cons_zero, List.set_cons_succ]
  -- 9: store T22 t15 t13
  refine Mask.one 9 (by kernel_rfl) rfl rfl (fun K hK => ?_)
  go_simp
  refine hK _ _ (fun h => (by cases h)) ?_
  clear hK K
  try simp only [Act.put, List.setIfInBounds_toArray, List.set_cons_zero, List.set_cons_succ]
  refine Mask.done (by kernel_rfl) ?_ _
  have hy2 := (hF2.block (w.heap.size + 1) (by show w.heap.size + 1 < w1.heap.size; omega) (by rw [hS0 _ (by omega)]; rfl)).trans hy1
  have cx : w2.cell? ⟨w.heap.size, 0, none⟩ = some (.pointer (some ⟨pth, 0, none⟩)) := by rw [cell_of_heap hx2]; rfl
  have cy : w2.cell? ⟨w.heap.size + 1, 0, none⟩ = some (.bool false) := by rw [cell_of_heap hy2]; rfl
  have zy : w2.frozen? ⟨w.heap.size + 1, 0, none⟩ = false := frozen_of_heap hy2
  have c5 := hth2.cell 5
  have z5 := hth2.frozen 5
  have c4' := hth2.cell 4
  have z4' := hth2.frozen 4
  simp only [List.getElem?_toArray, List.getElem?_cons_succ, List.getElem?_cons_zero] at c5 c4'
  have HTH := Lib.hid hth2
  have HST := Lib.hid hst
  have HROW := Lib.hid hrow
  have HF2 := Lib.hid hF2
  have HE2 := Lib.hid hE2
  have HY2 := Lib.hid hy2
  clear hth2 hst hrow hF2 hE2 hS hSt hx1 hy1 hp1 ho1 hy2
  go_wp2
  have hth2 := HTH.out
  have hy2 := HY2.out
  have hkp := hth2.kp
  have hne2 : ¬ w.heap.size = w.heap.size + 1 := by omega
  refine leaves_cons (f := 149) (args := #[.pointer (some ⟨w.heap.size, 0, none⟩), .pointer (some ⟨w.heap.size + 1, 0, none⟩)]) (by simp) (by simp [go_sem]) ?_
  refine (catch_idle w.heap.size (w.heap.size + 1) pth true ?_ ?_ ?_).mono ?_
  · rw [World.cell?_setCell_other _ _ _ _ (by simp), World.cell?_setCell_other _ _ _ _ (by simp [hne]), World.cell?_setCell_other _ _ _ _ (by simp [hne])]; exact cx
  · rw [World.cell?_setCell_other _ _ _ _ (by simp [hne1']), World.cell?_setCell_other _ _ _ _ (by simp), World.cell?_setCell_other _ _ _ _ (by simp)]; exact c4'
  · simpa using z4'
  rintro e u' w'' ⟨rfl, rfl, rfl⟩
  generalize hWf : (((w2.setCell { block := pth, off := 6 } (Value.slice av l.length capv)).setCell { block := pth, off := 5 } (Value.bool true)).setCell { block := w.heap.size + 1, off := 0 } (Value.bool true)).setCell ⟨pth, 4, none⟩ (.bool false) = wf
  have hso : ∀ b, b < w2.heap.size → b ≠ pth → κ2 b ≠ .none → wf.heap[b]? = w2.heap[b]? := fun b h1 h2 h3 => by
    have hk2 : κ2 (w.heap.size + 1) = .none := (HE2.out _ (by show w.heap.size + 1 < w1.heap.size; omega)).trans (hS0 _ (by omega))
    rw [← hWf, Below.heap_setCell _ _ _ _ h2, Below.heap_setCell _ _ _ _ (by intro e; rw [show b = w.heap.size + 1 from e] at h3; exact h3 hk2), Below.heap_setCell _ _ _ _ h2, Below.heap_setCell _ _ _ _ h2]
  have hsz : wf.heap.size = w2.heap.size := by rw [← hWf]; simp [World.setCell]
  have hyf : wf.heap[w.heap.size + 1]? = some (.cells #[.bool true] 4 (0, 0)) := by
    rw [← hWf, Below.heap_setCell _ _ _ _ hne1, heap_setCell_at (b := w.heap.size + 1) (cs := #[.bool false]) (t := 4) (fr := (0, 0))]
    · rfl
    · rw [Below.heap_setCell _ _ _ _ hne1, Below.heap_setCell _ _ _ _ hne1]; exact hy2
  refine ⟨.bool true, ?_, ?_⟩
  · simp [results, Try.results116, go_sem, cell_of_heap hyf]
  rw [HX.out]
  have hpf : wf.heap[pth]? = some (.cells #[.func (.func k) #[] caps, logv2, .int .i64 T1.pos, .bool T1.spent, .bool false, .bool true, .slice av l.length capv] 177 (0, 0)) := by
    rw [← hWf, heap_setCell_at (b := pth) (cs := #[.func (.func k) #[] caps, logv2, .int .i64 T1.pos, .bool T1.spent, .bool true, .bool true, .slice av l.length capv]) (t := 177) (fr := (0, 0))]
    · rfl
    · rw [Below.heap_setCell _ _ _ _ hne1', heap_setCell_at (heap_setCell_at hth2.hp _)]; rfl
  refine ⟨κ2, _, logv2, rfl, HST.out.wd.turn hkp hso (by omega), hth2.turn hso hpf, ?_, ?_, hE1.trans HE2.out hF1.size, HST.out.sup.mono (by omega)⟩
  · exact HROW.out.keep (fun b h1 h2 => hso b h1 (by intro e; rw [e, hkp] at h2; cases h2) (by rw [h2]; intro e; cases e)) (by omega) (Ext.refl _ _)
  · rw [← hWf]
    have hkp0 : ∀ hlt : pth < w.heap.size, (K.step wi j) (κ pth) = true := fun _ => by rw [show κ pth = .thr j from H.out.kp]; simp [K.step, K.thrd]
    exact ((((hF1.drewn.trans HF2.out (Ext.refl _ _)).any hkp0 _).any hkp0 _).any (fun hlt => by have h0 : w.heap.size + 1 < w.heap.size := hlt; omega) _).any hkp0 _
end
end Go.Proofs.Ytacmeafpieoaaaa
