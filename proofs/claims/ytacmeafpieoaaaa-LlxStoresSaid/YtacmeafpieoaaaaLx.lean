/- llx.info, mark, state. -/
import Derived.Test.YtacmeafpieoaaaaBg
namespace Go.Proofs.Ytacmeafpieoaaaa
open Go.RowKit

def stateP (n : Int) : Pr Int := (Pr.one (tStateW n)).bind fun x => .ret (x % 256)
def isState : Int → (Nat → K) → World → Value → Prop := fun n _ _ v => v = .int .u8 n

section
variable {κ κ' : Nat → K} {w w' : World} {wi j pth : Nat} {p : WdP} {σ : ShS} {T : TS} {me : Int} {work : Value}

set_option maxRecDepth 100000 in
theorem linfo_ok (h : St κ w wi p j pth work T σ) (r : Int) : Calls Try.prog 143 #[.agg (taskCs pth p me), .int .i64 r] w (TPost κ w wi p j pth work ((Pr.one (tInfo r)).exec T σ) isInt) := by
  have hmf : ∀ (fn : Fn) (first cap : Array Value) (w : World), (Instr.makeFunc fn first cap).run Try.prog w = .ok (.func fn first cap) w := fun _ _ _ _ => rfl
  have hS := h.sup
  have H := Lib.hid h
  clear h
  simp only [taskCs]
  go_enter Try.func143, Try.ntmps143
  go_wp2_with fail
  generalize hw0 : w.alloc (.cells #[.pointer (some ⟨pth, 0, none⟩), .pointer (some ⟨p.pw, 0, none⟩), .int .i64 me] 85) = w0
  have b0 : BoxAt κ w0 w.heap.size (taskCs pth p me) 85 := hw0 ▸ BoxAt.new hS _ _
  have hB0 : Below w.heap.size w w0 := hw0 ▸ (Below.refl _ _).alloc (Nat.le_refl _) _
  have hs0 : w0.heap.size = w.heap.size + 1 := by rw [← hw0]; simp
  generalize hw1 : w0.alloc (.cells #[.int .i64 r] 41) = w1
  have b1 : BoxAt κ w1 (w.heap.size + 1) #[.int .i64 r] 41 := by rw [← hw1, ← hs0]; exact BoxAt.new (hS.mono (by omega)) _ _
  have hB1 : Below w0.heap.size w0 w1 := hw1 ▸ (Below.refl _ _).alloc (Nat.le_refl _) _
  have hB : Below w.heap.size w w1 := hB0.trans (hB1.mono (by omega))
  refine (do_ok (H.out.below hB) 171 _ (tInfo r) enters171 (touch_info2 (b0.below hB1) b1)).mono ?_
  rintro e w3 hh
  have hF := Fr.below (κ := κ) (S := K.step wi j) hB
  rcases hh.elim with ⟨T1, σ1, κ1, hr, rfl, hst, hf, he⟩ | ⟨a, T1, σ1, κ1, v, hr, rfl, hv, hst, hf, he⟩
  · refine ⟨rfl, ?_⟩
    rw [hr]
    exact ⟨κ1, rfl, hst, hF.trans0 hf, (Ext.refl _ _).trans he hB.size⟩
  · have HR := Lib.hid hr
    replace hv : v = .int .i64 a := hv
    subst hv
    clear hr hh hw0 hw1
    go_wp2
    go_ret
    rw [HR.out]
    exact ⟨κ1, _, rfl, rfl, hst, hF.trans0 hf, (Ext.refl _ _).trans he hB.size⟩

set_option maxRecDepth 100000 in
theorem lmark_ok (h : St κ w wi p j pth work T σ) (r : Int) : Calls Try.prog 168 #[.agg (taskCs pth p me), .int .i64 r] w (TPost κ w wi p j pth work ((Pr.ask (tMark r)).exec T σ) isBool) := by
  have hmf : ∀ (fn : Fn) (first cap : Array Value) (w : World), (Instr.makeFunc fn first cap).run Try.prog w = .ok (.func fn first cap) w := fun _ _ _ _ => rfl
  have hS := h.sup
  have H := Lib.hid h
  clear h
  simp only [taskCs]
  go_enter Try.func168, Try.ntmps168
  go_wp2_with fail
  generalize hw0 : w.alloc (.cells #[.pointer (some ⟨pth, 0, none⟩), .pointer (some ⟨p.pw, 0, none⟩), .int .i64 me] 85) = w0
  have b0 : BoxAt κ w0 w.heap.size (taskCs pth p me) 85 := hw0 ▸ BoxAt.new hS _ _
  have hB0 : Below w.heap.size w w0 := hw0 ▸ (Below.refl _ _).alloc (Nat.le_refl _) _
  have hs0 : w0.heap.size = w.heap.size + 1 := by rw [← hw0]; simp
  generalize hw1 : w0.alloc (.cells #[.int .i64 r] 41) = w1
  have b1 : BoxAt κ w1 (w.heap.size + 1) #[.int .i64 r] 41 := by rw [← hw1, ← hs0]; exact BoxAt.new (hS.mono (by omega)) _ _
  have hB1 : Below w0.heap.size w0 w1 := hw1 ▸ (Below.refl _ _).alloc (Nat.le_refl _) _
  have hB : Below w.heap.size w w1 := hB0.trans (hB1.mono (by omega))
  refine (ask_ok (H.out.below hB) 175 _ (tMark r) enters175 (touch_mark (b0.below hB1) b1)).mono ?_
  rintro e w3 hh
  have hF := Fr.below (κ := κ) (S := K.step wi j) hB
  rcases hh.elim with ⟨T1, σ1, κ1, hr, rfl, hst, hf, he⟩ | ⟨a, T1, σ1, κ1, v, hr, rfl, hv, hst, hf, he⟩
  · refine ⟨rfl, ?_⟩
    rw [hr]
    exact ⟨κ1, rfl, hst, hF.trans0 hf, (Ext.refl _ _).trans he hB.size⟩
  · have HR := Lib.hid hr
    replace hv : v = .bool a := hv
    subst hv
    clear hr hh hw0 hw1
    go_wp2
    go_ret
    rw [HR.out]
    exact ⟨κ1, _, rfl, rfl, hst, hF.trans0 hf, (Ext.refl _ _).trans he hB.size⟩

set_option maxRecDepth 100000 in
theorem lstate_ok (h : St κ w wi p j pth work T σ) (r : Int) : Calls Try.prog 169 #[.agg (taskCs pth p me), .int .i64 r] w (TPost κ w wi p j pth work ((stateP r).exec T σ) isState) := by
  have hmf : ∀ (fn : Fn) (first cap : Array Value) (w : World), (Instr.makeFunc fn first cap).run Try.prog w = .ok (.func fn first cap) w := fun _ _ _ _ => rfl
  have hS := h.sup
  have H := Lib.hid h
  clear h
  simp only [taskCs]
  go_enter Try.func169, Try.ntmps169
  go_wp2_with fail
  generalize hw0 : w.alloc (.cells #[.pointer (some ⟨pth, 0, none⟩), .pointer (some ⟨p.pw, 0, none⟩), .int .i64 me] 85) = w0
  have b0 : BoxAt κ w0 w.heap.size (taskCs pth p me) 85 := hw0 ▸ BoxAt.new hS _ _
  have hB0 : Below w.heap.size w w0 := hw0 ▸ (Below.refl _ _).alloc (Nat.le_refl _) _
  have hs0 : w0.heap.size = w.heap.size + 1 := by rw [← hw0]; simp
  generalize hw1 : w0.alloc (.cells #[.int .i64 r] 2) = w1
  have b1 : BoxAt κ w1 (w.heap.size + 1) #[.int .i64 r] 2 := by rw [← hw1, ← hs0]; exact BoxAt.new (hS.mono (by omega)) _ _
  have hB1 : Below w0.heap.size w0 w1 := hw1 ▸ (Below.refl _ _).alloc (Nat.le_refl _) _
  have hB : Below w.heap.size w w1 := hB0.trans (hB1.mono (by omega))
  refine (do_ok (H.out.below hB) 176 _ (tStateW r) enters176 (touch_state (b0.below hB1) b1)).mono ?_
  rintro e w3 hh
  have hF := Fr.below (κ := κ) (S := K.step wi j) hB
  rcases hh.elim with ⟨T1, σ1, κ1, hr, rfl, hst, hf, he⟩ | ⟨a, T1, σ1, κ1, v, hr, rfl, hv, hst, hf, he⟩
  · refine ⟨rfl, ?_⟩
    rw [stateP, Pr.exec_bind, hr]
    exact ⟨κ1, rfl, hst, hF.trans0 hf, (Ext.refl _ _).trans he hB.size⟩
  · have HR := Lib.hid hr
    replace hv : v = .int .i64 a := hv
    subst hv
    clear hr hh hw0 hw1
    go_wp2
    go_ret
    rw [stateP, Pr.exec_bind, HR.out]
    exact ⟨κ1, _, rfl, rfl, hst, hF.trans0 hf, (Ext.refl _ _).trans he hB.size⟩
end
end Go.Proofs.Ytacmeafpieoaaaa
