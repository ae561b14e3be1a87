/- Alone: a thread goes on to its end. -/
import Derived.Test.YtacmeafpieoaaaaTm
namespace Go.Proofs.Ytacmeafpieoaaaa
open Go.RowKit

inductive Ends (pr : Pr (List Int)) : Th → ShS → Nat → Th → ShS → Prop
  | one {t t' : Th} {σ σ' : ShS} (h : stepT pr t σ = (true, t', σ')) (hl : t.log.length < 100000) : Ends pr t σ 1 t' σ'
  | more {t t1 t' : Th} {σ σ1 σ' : ShS} {n : Nat} (h : stepT pr t σ = (false, t1, σ1)) (hl : t.log.length < 100000) (rest : Ends pr t1 σ1 n t' σ') : Ends pr t σ (n + 1) t' σ'

section
variable {κ κ' : Nat → K} {w w' : World} {wi j pth : Nat} {p : WdP} {σ σ' : ShS} {t t' : Th} {k : Nat} {caps : Array Value} {pr : Pr (List Int)}

/-- Alone's answer. -/
def AloneEnd (κ : Nat → K) (w : World) (wi : Nat) (p : WdP) (j pth : Nat) (work : Value) (N : Nat) (l : List Int) (t' : Th) (σ' : ShS) (e : Ending) (w' : World) : Prop :=
  ∃ κ' a c, e = .returned (.tuple #[.slice a l.length c, .int .i64 N, .bool true]) ∧ Row κ' .imm w' 1 (.slice a l.length c) l.length (intVs l) ∧ WdRep κ' w' wi p σ' ∧ ThRep κ' w' j pth work t' ∧ Fr κ (K.step wi j) w w' ∧ Ext κ κ' w ∧ Sup κ' w'

set_option maxRecDepth 100000 in
theorem alone_ok (h : ThRep κ w j pth (.func (.func k) #[] caps) t) (hW : WdRep κ w wi p σ) (hS : Sup κ w) (hent : Enters Try.prog k) (hwork : WorkOk κ w wi p j pth k caps pr) {N : Nat} (hN : N ≤ 3000) (hends : Ends pr t σ N t' σ')
    {l : List Int} (hl : t'.res = some l) (hll : l.length ≤ 100000) : Calls Try.prog 46 #[.pointer (some ⟨pth, 0, none⟩)] w (AloneEnd κ w wi p j pth (.func (.func k) #[] caps) N l t' σ') := by
  go_enter Try.func46, Try.ntmps46
  go_wp2
  go_loopw [5] (fun i wr => ∃ (q m : Nat) (t1 : Th) (σ1 : ShS) (κ1 : Nat → Ytacmeafpieoaaaa.K), i = .int .i64 q ∧ q + m = N ∧ Ends pr t1 σ1 m t' σ' ∧ WdRep κ1 wr wi p σ1 ∧ ThRep κ1 wr j pth (.func (.func k) #[] caps) t1 ∧ Fr κ (K.step wi j) w wr ∧ Ext κ κ1 w ∧ Sup κ1 wr)
    (fun i _ => 3000 - (intOf i).toNat)
  case atStart => exact ⟨0, N, t, σ, κ, rfl, by omega, hends, hW, h, Fr.refl _ _ _, Ext.refl _ _, hS⟩
  case round =>
    obtain ⟨q, m, t1, σ1, κ1, rfl, hq, hE, hW1, hT1, hF1, hX1, hS1⟩ := hrel
    have hwk := hwork.later (hF1.mono K.step_run) hX1
    have HWK := Lib.hid hwork
    clear h hW hS hends hwork
    cases hE with
    | one hs hlg =>
      have hlt : (q : Int) < 3000 := by omega
      have hw : wrap64 ((q : Int) + 1) = (q : Int) + 1 := by unfold wrap64; omega
      go_wp2_with fail
      refine (step_ok hT1 hW1 hS1 hlg hent hwk).mono ?_
      rintro e w2 ⟨κ2, rfl, hW2, hT2, hF2, hE2, hS2⟩
      rw [hs] at hW2 hT2 ⊢
      clear hwk
      go_wp2_with fail
      refine (tout_ok hT2 hl hll).mono ?_
      rintro e w3 ⟨a, c, rfl, hfr⟩
      go_wp2
      refine bodyPost_ret (v := .tuple #[.slice a l.length c, .int .i64 N, .bool true]) (by simp [results, Try.results46, go_sem]; omega) rfl ?_
      have hb := hfr.below
      have hEi : Ext κ2 (imms κ2 [blk (.slice a l.length c)]) w2 := imms_ext fun g hg => hfr.new g (List.mem_singleton.1 hg).symm
      have hSi : Sup (imms κ2 [blk (.slice a l.length c)]) w3 := imms_sup hS2 hb.size fun g hg => hfr.own.lt g (List.mem_singleton.1 hg).symm
      exact ⟨_, a, c, rfl, Row.ofOwn hfr.own (fun g hg => imms_at (by simp [hg])) hfr.own.noneEmpty, hW2.below hb hEi, hT2.below hb hEi, (hF1.trans hF2 hX1).trans0 (Fr.below (hb.mono (by have := hF1.size; have := hF2.size; omega))), (hX1.trans hE2 hF1.size).trans hEi (by have := hF1.size; have := hF2.size; omega), hSi⟩
    | more hs hlg hrest =>
      rename_i t2 σ2 m2
      have hm2 : 1 ≤ m2 := by cases hrest <;> omega
      have hlt : (q : Int) < 3000 := by omega
      have hw : wrap64 ((q : Int) + 1) = (q : Int) + 1 := by unfold wrap64; omega
      go_wp2_with fail
      refine (step_ok hT1 hW1 hS1 hlg hent hwk).mono ?_
      rintro e w2 ⟨κ2, rfl, hW2, hT2, hF2, hE2, hS2⟩
      rw [hs] at hW2 hT2 ⊢
      clear hwk
      go_wp2
      go_roundw
      case rel => exact ⟨q + 1, m2, _, _, κ2, by go_num, by omega, hrest, hW2, hT2, hF1.trans hF2 hX1, hX1.trans hE2 hF1.size, hS2⟩
      case measure => simp [intOf]; omega
end
end Go.Proofs.Ytacmeafpieoaaaa
