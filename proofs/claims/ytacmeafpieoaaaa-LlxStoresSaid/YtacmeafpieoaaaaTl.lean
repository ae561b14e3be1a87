/- Thread.Step, New, Done, Out; Start. -/
import Derived.Test.YtacmeafpieoaaaaTk
namespace Go.Proofs.Ytacmeafpieoaaaa
open Go.RowKit

structure Th where
  log : List Int
  res : Option (List Int)
def stepT (pr : Pr (List Int)) (t : Th) (σ : ShS) : Bool × Th × ShS := match t.res with
  | some _ => (true, t, σ)
  | none => match pr.exec ⟨t.log, 0, false⟩ σ with
    | .out l T σ' => (true, ⟨T.log, some l⟩, σ')
    | .wait T σ' => (false, ⟨T.log, none⟩, σ')

theorem eqlFunc175 (k : Nat) (caps : Array Value) (w : World) : (binOp .eql 175 (.func (.func k) #[] caps) .nilFunc).run Try.prog w = .ok (.bool false) w := by kernel_rfl

/-- A thread at rest. -/
def ThRep (κ : Nat → K) (w : World) (j pth : Nat) (work : Value) (t : Th) : Prop :=
  ∃ logv T outv, T.log = t.log ∧ ThrAt κ w j pth work logv T false t.res.isSome outv ∧ (match t.res with | some l => Row κ .imm w 1 outv l.length (intVs l) | none => outv = .slice none 0 0)

section
variable {κ κ' : Nat → K} {w w' : World} {wi j pth : Nat} {p : WdP} {σ : ShS} {t : Th} {logv : Value} {k : Nat} {caps : Array Value} {pr : Pr (List Int)} {work : Value}

theorem ThRep.keep (h : ThRep κ w j pth work t) (hb : ∀ b, b < w.heap.size → κ b = .imm ∨ (κ b).thrd j = true → w'.heap[b]? = w.heap[b]?) (hs : w.heap.size ≤ w'.heap.size) (he : Ext κ κ' w) : ThRep κ' w' j pth work t := by
  obtain ⟨logv, T, outv, h1, h2, h3⟩ := h
  refine ⟨logv, T, outv, h1, h2.keep (fun b hb' hk => hb b hb' (.inr hk)) he, ?_⟩
  cases hr : t.res with
  | some l => rw [hr] at h3; exact h3.keep (fun b hb' hk => hb b hb' (.inl hk)) hs he
  | none => rw [hr] at h3; exact h3
theorem ThRep.below (h : ThRep κ w j pth work t) (hb : Below w.heap.size w w') (he : Ext κ κ' w) : ThRep κ' w' j pth work t := h.keep (fun b hb' _ => hb.block b hb') hb.size he
/-- Another thread's step, or what all share, leaves a thread alone. -/
theorem ThRep.other {i : Nat} (h : ThRep κ w j pth work t) (hf : Fr κ (K.step wi i) w w') (hij : i ≠ j) (he : Ext κ κ' w) : ThRep κ' w' j pth work t :=
  h.keep (fun b hb' hk => hf.block b hb' (by
    rcases hk with hk | hk
    · rw [hk]; rfl
    · generalize κ b = q at hk ⊢
      cases q <;> simp_all [K.thrd, K.step, K.ofW] <;> omega)) hf.size he

theorem WorkOk.later (h : WorkOk κ w wi p j pth k caps pr) (hf : Fr κ (K.run wi) w w') (he : Ext κ κ' w) : WorkOk κ' w' wi p j pth k caps pr :=
  fun κ1 w1 T σ h1 h2 h3 => h κ1 w1 T σ (hf.trans h1 he) (he.trans h2 hf.size) h3

set_option maxRecDepth 100000 in
theorem step_ok (h : ThRep κ w j pth (.func (.func k) #[] caps) t) (hW : WdRep κ w wi p σ) (hS : Sup κ w) (hlog : t.log.length < 100000) (hent : Enters Try.prog k) (hwork : WorkOk κ w wi p j pth k caps pr) :
    Calls Try.prog 44 #[.pointer (some ⟨pth, 0, none⟩)] w fun e w' => ∃ κ', e = .returned (.bool (stepT pr t σ).1) ∧ WdRep κ' w' wi p (stepT pr t σ).2.2 ∧ ThRep κ' w' j pth (.func (.func k) #[] caps) (stepT pr t σ).2.1 ∧ Fr κ (K.step wi j) w w' ∧ Ext κ κ' w ∧ Sup κ' w' := by
  have hfn := fun w => eqlFunc175 k caps w
  have hall := h
  obtain ⟨logv, T, outv, hlg, hth, hout⟩ := h
  have c0 := hth.cell 0
  have c2 := hth.cell 2
  have c3 := hth.cell 3
  have c5 := hth.cell 5
  have z2 := hth.frozen 2
  have z3 := hth.frozen 3
  simp only [List.getElem?_toArray, List.getElem?_cons_succ, List.getElem?_cons_zero] at c0 c2 c3 c5
  cases hr : t.res with
  | some l =>
    rw [hr] at c5
    replace c5 : w.cell? ⟨pth, 5, none⟩ = some (.bool true) := c5
    have HX := Lib.hid (show stepT pr t σ = (true, t, σ) by simp only [stepT, hr])
    clear hth hout hwork hr
    go_enter Try.func44, Try.ntmps44
    go_wp2
    go_ret
    rw [HX.out]
    exact ⟨κ, rfl, hW, hall, Fr.refl _ _ _, Ext.refl _ _, hS⟩
  | none =>
    rw [hr] at c5 hout hth
    replace hout : outv = .slice none 0 0 := hout
    subst hout
    replace c5 : w.cell? ⟨pth, 5, none⟩ = some (.bool false) := c5
    have HTH := Lib.hid hth
    have HK := Lib.hid hwork
    have HW := Lib.hid hW
    have HL := Lib.hid hlg
    have HR := Lib.hid hr
    have HE := Lib.hid hent
    clear hth hwork hW hall hr hlg hent
    go_enter Try.func44, Try.ntmps44
    go_wp2_with fail
    generalize hW1 : (w.setCell ⟨pth, 2, none⟩ (.int .i64 0)).setCell ⟨pth, 3, none⟩ (.bool false) = w1
    have hth := HTH.out
    have hs1 : w1.heap.size = w.heap.size := by rw [← hW1]; simp [World.setCell]
    have ho1 : ∀ b, b ≠ pth → w1.heap[b]? = w.heap[b]? := fun b hb => by rw [← hW1, Below.heap_setCell _ _ _ _ hb, Below.heap_setCell _ _ _ _ hb]
    have h1 : ThrAt κ w1 j pth (.func (.func k) #[] caps) logv ⟨t.log, 0, false⟩ false false (.slice none 0 0) := by
      refine ⟨hth.kp, ?_, ?_, hth.kl⟩
      · rw [← hW1, heap_setCell_at (heap_setCell_at hth.hp _)]; rfl
      · rw [← HL.out]; exact hth.own.move fun g hg => ho1 g (by intro e; have := hth.kl g hg; rw [e, hth.kp] at this; cases this)
    have hkp : (K.step wi j) (κ pth) = true := by rw [show κ pth = .thr j from hth.kp]; simp [K.step, K.thrd]
    have hF1 : Fr κ (K.step wi j) w w1 := by
      rw [← hW1]
      exact (Fr.setCell ⟨pth, 2, none⟩ _ hkp).any (fun _ => hkp) _
    have hWd1 : WdRep κ w1 wi p σ := HW.out.turn hth.kp (fun b _ hb _ => ho1 b hb) (by omega)
    have hwk1 : WorkOk κ w1 wi p j pth k caps pr := HK.out.later (hF1.mono K.step_run) (Ext.refl _ _)
    clear hW1 c0 c2 c3 c5 z2 z3 hfn
    refine (run_ok h1 hWd1 (hS.mono (by omega)) hlog HE.out hwk1).mono ?_
    rintro e w2 hh
    rcases res_cases (pr.exec ⟨t.log, 0, false⟩ σ) with ⟨T1, σ1, hx⟩ | ⟨l, T1, σ1, hx⟩
    · rw [hx] at hh
      obtain ⟨κ2, logv2, rfl, hw2, ht2, hf2, he2, hs2⟩ := hh
      have HX := Lib.hid (show stepT pr t σ = (false, ⟨T1.log, none⟩, σ1) by simp only [stepT, HR.out, hx])
      clear hx h1 hWd1 hwk1
      go_wp2
      go_ret
      rw [HX.out]
      exact ⟨κ2, rfl, hw2, ⟨logv2, T1, _, rfl, ht2, rfl⟩, hF1.trans hf2 (Ext.refl _ _), (Ext.refl _ _).trans he2 hF1.size, hs2⟩
    · rw [hx] at hh
      obtain ⟨κ2, outv2, logv2, rfl, hw2, ht2, hrow, hf2, he2, hs2⟩ := hh
      have HX := Lib.hid (show stepT pr t σ = (true, ⟨T1.log, some l⟩, σ1) by simp only [stepT, HR.out, hx])
      clear hx h1 hWd1 hwk1
      go_wp2
      go_ret
      rw [HX.out]
      exact ⟨κ2, rfl, hw2, ⟨logv2, T1, outv2, rfl, ht2, hrow⟩, hF1.trans hf2 (Ext.refl _ _), (Ext.refl _ _).trans he2 hF1.size, hs2⟩
end
end Go.Proofs.Ytacmeafpieoaaaa
