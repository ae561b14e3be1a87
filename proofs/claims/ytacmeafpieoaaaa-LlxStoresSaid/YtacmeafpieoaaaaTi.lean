/- Thread.Ask. -/
import Derived.Test.YtacmeafpieoaaaaTh
namespace Go.Proofs.Ytacmeafpieoaaaa
open Go.RowKit

def asked (g : ShS → Bool × ShS) (σ : ShS) : Int × ShS := (if (g σ).1 = true then 1 else 0, (g σ).2)
def Pr.ask (g : ShS → Bool × ShS) : Pr Bool := .touch (asked g) fun n => .ret (n == 1)
/-- A touch's closure that tells yes or no. -/
def TouchB (κ : Nat → K) (w : World) (wi : Nat) (p : WdP) (j : Nat) (σ : ShS) (k : Nat) (caps : Array Value) (g : ShS → Bool × ShS) : Prop :=
  ∀ w1, Fr κ (K.thrd j) w w1 → WdRep κ w1 wi p σ → Sup κ w1 → Calls Try.prog k caps w1 fun e w' => ∃ κ', e = .returned (.bool (g σ).1) ∧ WdRep κ' w' wi p (g σ).2 ∧ Fr κ (K.ofW wi) w1 w' ∧ Ext κ κ' w1 ∧ Sup κ' w'

theorem eqlFunc23 (k : Nat) (caps : Array Value) (w : World) : (binOp .eql 23 (.func (.func k) #[] caps) .nilFunc).run Try.prog w = .ok (.bool false) w := by kernel_rfl
theorem enters158 : Enters Try.prog 158 := enters_of Try.func158 (by kernel_rfl) rfl

section
variable {κ κ' : Nat → K} {w w' : World} {wi j pth : Nat} {p : WdP} {σ : ShS} {T : TS} {work logv outv : Value} {inn done : Bool}

theorem St.below (h : St κ w wi p j pth work T σ) (hb : Below w.heap.size w w') : St κ w' wi p j pth work T σ := by
  obtain ⟨logv, hth⟩ := h.th
  exact ⟨h.wd.below hb (Ext.refl _ _), ⟨logv, hth.keep (fun b hb' _ => hb.block b hb') (Ext.refl _ _)⟩, h.ok, h.sup.mono hb.size⟩

theorem TPost.weak {κ0 : Nat → K} {α : Type} {r : Res α} {V : α → (Nat → K) → World → Value → Prop} {e : Ending} {w0 : World} (h : TPost κ w wi p j pth work r V e w') (hf : Fr κ0 (K.step wi j) w0 w) (he : Ext κ0 κ w0) : TPost κ0 w0 wi p j pth work r V e w' := by
  cases r with
  | out a T σ =>
    obtain ⟨κ', v, h1, h2, h3, h4, h5⟩ := h
    exact ⟨κ', v, h1, h2, h3, hf.trans h4 he, he.trans h5 hf.size⟩
  | wait T σ =>
    obtain ⟨κ', h1, h3, h4, h5⟩ := h
    exact ⟨κ', h1, h3, hf.trans h4 he, he.trans h5 hf.size⟩

set_option maxRecDepth 100000 in
theorem ask_ok (h : St κ w wi p j pth work T σ) (k : Nat) (caps : Array Value) (g : ShS → Bool × ShS) (hent : Enters Try.prog k) (ht : TouchB κ w wi p j σ k caps g) :
    Calls Try.prog 126 #[.pointer (some ⟨pth, 0, none⟩), .func (.func k) #[] caps] w (TPost κ w wi p j pth work ((Pr.ask g).exec T σ) isBool) := by
  have hmf : ∀ (fn : Fn) (first cap : Array Value) (w : World), (Instr.makeFunc fn first cap).run Try.prog w = .ok (.func fn first cap) w := fun _ _ _ _ => rfl
  have hfn := fun w => eqlFunc23 k caps w
  have H := Lib.hid h
  have HT := Lib.hid ht
  have HE := Lib.hid hent
  clear h ht hent
  go_enter Try.func126, Try.ntmps126
  go_wp2_with fail
  generalize hW : w.alloc (.cells #[.func (.func k) #[] caps] 23) = W
  have hB : Below w.heap.size w W := hW ▸ (Below.refl _ _).alloc (Nat.le_refl _) _
  have hbx : W.heap[w.heap.size]? = some (.cells #[.func (.func k) #[] caps] 23 (0, 0)) := by rw [← hW]; exact Laws.heap_new w _
  have hlx := lt_of_heap hbx
  have hkx : κ w.heap.size = .none := H.out.sup _ (Nat.le_refl _)
  have ht1 : Touch κ W wi p j σ 158 #[.pointer (some ⟨w.heap.size, 0, none⟩)] (fun x => .int .i64 x.1) (asked g) := by
    intro w1 hf1 hw1 hs1
    have hx1 := (hf1.block _ hlx (by rw [hkx]; rfl)).trans hbx
    have c1 : w1.cell? ⟨w.heap.size, 0, none⟩ = some (.func (.func k) #[] caps) := by rw [cell_of_heap hx1]; rfl
    have hcf := fun w => HE.out caps w
    have hh := HT.out w1 ((Fr.below hB).trans0 hf1) hw1 hs1
    clear hf1 hw1 hs1 hx1 hmf hfn hW hbx
    go_enter Try.func158, Try.ntmps158
    go_wp2_with fail
    refine hh.mono ?_
    rintro e w2 ⟨κ2, rfl, h1, h2, h3, h4⟩
    clear hh hcf
    have HR := Lib.hid (show WdRep κ2 w2 wi p (asked g σ).2 from h1)
    clear h1
    cases hg : (g σ).1 with
    | true =>
      go_wp2
      go_ret
      exact ⟨κ2, by simp [asked, hg], HR.out, h2, h3, h4⟩
    | false =>
      go_wp2
      go_ret
      exact ⟨κ2, by simp [asked, hg], HR.out, h2, h3, h4⟩
  refine (do_ok (H.out.below hB) 158 _ (asked g) enters158 ht1).mono ?_
  rintro e w2 hh
  have he : (Pr.ask g).exec T σ = ((Pr.one (asked g)).exec T σ).then fun n T' σ' => .out (n == 1) T' σ' := Pr.exec_bind (Pr.one (asked g)) (fun n => .ret (n == 1)) T σ
  have hF := Fr.below (κ := κ) (S := K.step wi j) hB
  cases hr : (Pr.one (asked g)).exec T σ with
  | out n T1 σ1 =>
    rw [hr] at hh
    obtain ⟨κ', v, rfl, rfl, h3, h4, h5⟩ := hh
    rw [hr] at he
    have HX := Lib.hid he
    clear he hr
    go_wp2
    refine bodyPost_ret (v := .bool (n == 1)) (by simp [results, Try.results126, go_sem]) rfl ?_
    rw [HX.out]
    exact ⟨κ', _, rfl, rfl, h3, hF.trans0 h4, (Ext.refl _ _).trans h5 hB.size⟩
  | wait T1 σ1 =>
    rw [hr] at hh
    obtain ⟨κ', rfl, h3, h4, h5⟩ := hh
    rw [hr] at he
    refine ⟨rfl, ?_⟩
    rw [he]
    exact ⟨κ', rfl, h3, hF.trans0 h4, (Ext.refl _ _).trans h5 hB.size⟩
end
end Go.Proofs.Ytacmeafpieoaaaa
