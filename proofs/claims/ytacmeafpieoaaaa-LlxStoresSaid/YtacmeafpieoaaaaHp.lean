/- boscagelaw09.helper and its closure, yes. -/
import Derived.Test.YtacmeafpieoaaaaNe
namespace Go.Proofs.Ytacmeafpieoaaaa
open Go.RowKit

def helpP (n : Int) : Pr (List Int) := (recP n).bind fun b => .ret [if b = true then 1 else 0]

theorem enters133 : Enters Try.prog 133 := enters_of Try.func133 (by kernel_rfl) rfl

section
variable {κ κ' : Nat → K} {w w' : World} {wi j pth : Nat} {p : WdP} {σ : ShS} {T : TS} {me : Int} {work : Value}

/-- A new block's row is handed over. -/
theorem St.give (h : St κ w wi p j pth work T σ) (cs : Array Value) (t : TypeId) : St (upd κ w.heap.size .imm) (w.alloc (.cells cs t)) wi p j pth work T σ ∧ Ext κ (upd κ w.heap.size .imm) w ∧ Fr κ (K.step wi j) w (w.alloc (.cells cs t)) := by
  have hB : Below w.heap.size w (w.alloc (.cells cs t)) := (Below.refl _ _).alloc (Nat.le_refl _) _
  have hE : Ext κ (upd κ w.heap.size .imm) w := Ext.upd _ _ _ (Nat.le_refl _)
  exact ⟨h.later hB hE (h.sup.upd _ (by simp) (by simp)), hE, Fr.below hB⟩
theorem Row.newImm {κ : Nat → K} {w : World} {b : Nat} {cs : Array Value} {t : TypeId} (h : w.heap[b]? = some (.cells cs t (0, 0))) (hk : κ b = .imm) (n : Nat) (l : List Value) (hl : cs = l.toArray) (sz : Nat) (hn : l.length = n * sz) : Row κ .imm w sz (.slice (some ⟨b, 0, none⟩) n n) n l := by
  refine ⟨hn, _, n, rfl, Nat.le_refl _, by simp, .inr ⟨b, 0, rfl, lt_of_heap h, hk, fun j u hu => ?_, fun j => frozen_of_heap h⟩⟩
  rw [cell_of_heap h, Nat.zero_add, hl]
  simpa using hu

set_option maxRecDepth 100000 in
theorem helper_task {nb : Nat} {n : Int} (hnb : BoxAt κ w nb #[.int .i64 n] 2) (j pth : Nat) : TaskOk κ w wi p j pth me 133 #[.pointer (some ⟨nb, 0, none⟩)] (helpP n) := by
  intro κ1 w1 work T σ hf he hst
  have gnb := hnb.keep hf he rfl
  have n0 : w1.cell? ⟨nb, 0, none⟩ = some (.int .i64 n) := cellAt gnb.hb 0 rfl
  have hnl := lt_of_heap gnb.hb
  have hS := hst.sup
  have HST := Lib.hid hst
  clear hst hf he hnb gnb
  generalize hwhole : (helpP n).exec T σ = whole
  go_enter Try.func133, Try.ntmps133
  go_wp2_with fail
  generalize hw0 : w1.alloc (.cells #[.pointer (some ⟨pth, 0, none⟩), .pointer (some ⟨p.pw, 0, none⟩), .int .i64 me] 85) = w0
  have hB0 : Below w1.heap.size w1 w0 := hw0 ▸ (Below.refl _ _).alloc (Nat.le_refl _) _
  have HB := Lib.hid hB0
  clear hw0 n0
  refine (record_ok (me := me) (HST.out.below hB0) n).mono ?_
  clear hB0
  rintro e w5 hh
  rcases hh.elim with ⟨T2, σ2, κ2, hr2, rfl, hst2, hf2, he2⟩ | ⟨ok, T2, σ2, κ2, v, hr2, rfl, hv, hst2, hf2, he2⟩
  · refine ⟨rfl, ?_⟩
    rw [← hwhole, helpP, Pr.exec_bind, hr2]
    exact ⟨κ2, rfl, hst2, (Fr.below HB.out).trans0 hf2, (Ext.refl _ _).trans he2 HB.out.size⟩
  · replace hv : v = .bool ok := hv
    subst hv
    have HWH := Lib.hid (show whole = .out [if ok = true then 1 else 0] T2 σ2 by rw [← hwhole, helpP, Pr.exec_bind, hr2]; rfl)
    have HF := Lib.hid ((Fr.below (S := K.step wi j) HB.out).trans0 hf2)
    have HE := Lib.hid ((Ext.refl κ1 w1).trans he2 HB.out.size)
    have HST2 := Lib.hid hst2
    clear hh hr2 hst2 hf2 he2 hwhole
    cases ok with
    | true =>
      go_wp2
      go_ret
      rw [HWH.out]
      obtain ⟨g1, g2, g3⟩ := HST2.out.give #[Value.int .i64 1] 2
      exact ⟨_, _, rfl, Row.newImm (Laws.heap_new _ _) (upd_at _ _ _) 1 _ rfl 1 rfl, g1, HF.out.trans g3 HE.out, HE.out.trans g2 HF.out.size⟩
    | false =>
      go_wp2
      go_ret
      rw [HWH.out]
      obtain ⟨g1, g2, g3⟩ := HST2.out.give #[Value.int .i64 0] 2
      exact ⟨_, _, rfl, Row.newImm (Laws.heap_new _ _) (upd_at _ _ _) 1 _ rfl 1 rfl, g1, HF.out.trans g3 HE.out, HE.out.trans g2 HF.out.size⟩

set_option maxRecDepth 100000 in
theorem helper_ok (hS : Sup κ w) (j : Nat) (p : WdP) (me n : Int) : Calls Try.prog 68 #[.pointer (some ⟨p.pw, 0, none⟩), .int .i64 me, .int .i64 n] w fun e w' => ∃ κ' pth caps1, e = .returned (.pointer (some ⟨pth, 0, none⟩)) ∧ ThRep κ' w' j pth (.func (.func 121) #[] caps1) ⟨[], none⟩ ∧
      WorkOk κ' w' wi p j pth 121 caps1 (helpP n) ∧ Below w.heap.size w w' ∧ Ext κ κ' w ∧ Sup κ' w' := by
  have hmf : ∀ (fn : Fn) (first cap : Array Value) (w : World), (Instr.makeFunc fn first cap).run Try.prog w = .ok (.func fn first cap) w := fun _ _ _ _ => rfl
  go_enter Try.func68, Try.ntmps68
  go_wp2_with fail
  have b0 := BoxAt.new hS #[.int .i64 n] 2
  have hB0 : Below w.heap.size w (w.alloc (.cells #[.int .i64 n] 2)) := (Below.refl _ _).alloc (Nat.le_refl _) _
  refine (start_ok (wi := wi) (hS.mono hB0.size) j p me 133 _ (helpP n) enters133 (fun pth => helper_task b0 j pth)).mono ?_
  rintro e w3 ⟨κ3, pth, caps1, rfl, h1, h2, h3, h4, h5⟩
  have H1 := Lib.hid h1
  have H2 := Lib.hid h2
  clear h1 h2
  go_wp2
  go_ret
  exact ⟨κ3, pth, caps1, rfl, H1.out, H2.out, hB0.trans (h3.mono hB0.size), (Ext.refl κ w).trans h4 hB0.size, h5⟩

def isYes (l : List Int) : Bool := l.length == 1 && (l[0]?).getD 0 == 1
set_option maxRecDepth 100000 in
theorem yes_ok {t : Th} (h : ThRep κ w j pth work t) {l : List Int} (hr : t.res = some l) (hl : l.length ≤ 100000) : Calls Try.prog 71 #[.pointer (some ⟨pth, 0, none⟩)] w fun e w' => e = .returned (.bool (isYes l)) ∧ Below w.heap.size w w' := by
  go_enter Try.func71, Try.ntmps71
  go_wp2_with fail
  refine (tout_ok h hr hl).mono ?_
  rintro e w1 ⟨a, c, rfl, hF⟩
  have HB := Lib.hid hF.below
  by_cases h1 : l.length = 1
  · obtain ⟨x, rfl⟩ : ∃ x, l = [x] := by
      match l, h1 with
      | [x], _ => exact ⟨x, rfl⟩
    obtain ⟨g, o, cap, hv, hle, hb, hlt, hcx, hz⟩ := hF.own.at (by simp) (by decide)
    simp only [Value.slice.injEq] at hv
    obtain ⟨rfl, _, rfl⟩ := hv
    have hx : w1.cell? ⟨g, o, none⟩ = some (.int .i64 x) := hcx 0 _ rfl
    clear hcx hz hF h1 hr
    simp only [List.length_singleton]
    go_wp2
    go_ret
    refine ⟨?_, HB.out⟩
    simp [isYes]
  · have h1' : ((l.length : Int) == 1) = false := by simp; omega
    have H1 := Lib.hid h1
    clear hr hF h1
    go_wp2
    go_ret
    refine ⟨?_, HB.out⟩
    have : (l.length == 1) = false := by simpa using H1.out
    simp [isYes, this]
end
end Go.Proofs.Ytacmeafpieoaaaa
