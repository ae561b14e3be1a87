/- help.Record as a program; help.set. -/
import Derived.Test.YtacmeafpieoaaaaHl
namespace Go.Proofs.Ytacmeafpieoaaaa
open Go.RowKit

def isUnit : Unit → (Nat → K) → World → Value → Prop := fun _ _ _ v => v = .tuple #[]

theorem Pr.exec_bind2 {α β γ : Type} (p : Pr α) (q : α → Pr β) (r : β → Pr γ) (T : TS) (σ : ShS) : ((p.bind q).bind r).exec T σ = (p.exec T σ).then fun a T' σ' => ((q a).bind r).exec T' σ' := by
  rw [Pr.exec_bind, Pr.exec_bind]
  cases p.exec T σ with
  | out a T' σ' => simp only [Res.then]; rw [Pr.exec_bind]; rfl
  | wait T' σ' => rfl

def setP (n s : Int) : Pr Unit := (Pr.one (tSet n s)).bind fun _ => .ret ()
def recFail (n : Int) : Pr (Option Bool) := (Pr.ask (tAll n)).bind fun a => if a = true then .ret (some true) else (setP n 0).bind fun _ => .ret (some false)
def recMiss (n x : Int) (next : Pr (Option Bool)) : Pr (Option Bool) := (Pr.one (tInfo x)).bind fun m => if m = n then next else recFail n
def recLoop (n : Int) : List (Int × Int) → Pr (Option Bool)
  | [] => .ret none
  | (x, old) :: rest => (Pr.ask (tSwapInfo x old n)).bind fun ok => if ok = true then recLoop n rest else recMiss n x (recLoop n rest)
def markLoop : List Int → Pr Unit
  | [] => .ret ()
  | x :: rest => (Pr.one (tSetMark x)).bind fun _ => markLoop rest
def recWay (r : RecS) : Pr Unit := match r.nodes with
  | [] => .ret ()
  | x :: _ => (Pr.ask (tSwapWay x r.way r.old r.new)).bind fun _ => .ret ()
def recDone (n : Int) (r : RecS) : Pr Bool := (Pr.one (tSetAll n)).bind fun _ => (markLoop (r.nodes.drop r.keep.toNat)).bind fun _ => (recWay r).bind fun _ => (setP n 2).bind fun _ => .ret true
def recRest (n : Int) (r : RecS) (o : Option Bool) : Pr Bool := match o with
  | some b => .ret b
  | none => recDone n r
def recP (n : Int) : Pr Bool := .see n fun r => (recLoop n (r.nodes.zip r.infos)).bind (recRest n r)

section
variable {κ κ' : Nat → K} {w w' : World} {wi j pth : Nat} {p : WdP} {σ : ShS} {T : TS} {me : Int} {work : Value}

theorem TPost.elim {α : Type} {r : Res α} {V : α → (Nat → K) → World → Value → Prop} {e : Ending} (h : TPost κ w wi p j pth work r V e w') :
    (∃ T σ κ', r = .wait T σ ∧ e = .panicked [{ v := waitV, recovered := false }] ∧ St κ' w' wi p j pth work T σ ∧ Fr κ (K.step wi j) w w' ∧ Ext κ κ' w) ∨
    (∃ a T σ κ' v, r = .out a T σ ∧ e = .returned v ∧ V a κ' w' v ∧ St κ' w' wi p j pth work T σ ∧ Fr κ (K.step wi j) w w' ∧ Ext κ κ' w) := by
  cases r with
  | out a T σ => obtain ⟨κ', v, h1, h2, h3, h4, h5⟩ := h; exact .inr ⟨a, T, σ, κ', v, rfl, h1, h2, h3, h4, h5⟩
  | wait T σ => obtain ⟨κ', h1, h2, h3, h4⟩ := h; exact .inl ⟨T, σ, κ', rfl, h1, h2, h3, h4⟩

theorem BoxAt.new (hS : Sup κ w) (cs : Array Value) (t : TypeId) : BoxAt κ (w.alloc (.cells cs t)) w.heap.size cs t := ⟨Laws.heap_new w _, hS _ (Nat.le_refl _)⟩
theorem BoxAt.below {b : Nat} {cs : Array Value} {t : TypeId} (h : BoxAt κ w b cs t) (hb : Below w.heap.size w w') : BoxAt κ w' b cs t := ⟨(hb.block b (lt_of_heap h.hb)).trans h.hb, h.kb⟩

set_option maxRecDepth 100000 in
theorem hset_ok (h : St κ w wi p j pth work T σ) (n s : Int) : Calls Try.prog 164 #[.agg (taskCs pth p me), .int .i64 n, .int .u8 s] w (TPost κ w wi p j pth work ((setP n s).exec T σ) isUnit) := by
  have hmf : ∀ (fn : Fn) (first cap : Array Value) (w : World), (Instr.makeFunc fn first cap).run Try.prog w = .ok (.func fn first cap) w := fun _ _ _ _ => rfl
  have hS := h.sup
  have H := Lib.hid h
  clear h
  simp only [taskCs]
  go_enter Try.func164, Try.ntmps164
  go_wp2_with fail
  generalize hw0 : w.alloc (.cells #[.pointer (some ⟨pth, 0, none⟩), .pointer (some ⟨p.pw, 0, none⟩), .int .i64 me] 85) = w0
  have b0 : BoxAt κ w0 w.heap.size (taskCs pth p me) 85 := hw0 ▸ BoxAt.new hS _ _
  have hB0 : Below w.heap.size w w0 := hw0 ▸ (Below.refl _ _).alloc (Nat.le_refl _) _
  have hs0 : w0.heap.size = w.heap.size + 1 := by rw [← hw0]; simp
  generalize hw1 : w0.alloc (.cells #[.int .i64 n] 2) = w1
  have hS0 : Sup κ w0 := hS.mono (by omega)
  have b1 : BoxAt κ w1 (w.heap.size + 1) #[.int .i64 n] 2 := by rw [← hw1, ← hs0]; exact BoxAt.new hS0 _ _
  have hB1 : Below w0.heap.size w0 w1 := hw1 ▸ (Below.refl _ _).alloc (Nat.le_refl _) _
  have hs1 : w1.heap.size = w.heap.size + 2 := by rw [← hw1]; simp [hs0]
  generalize hw2 : w1.alloc (.cells #[.int .u8 s] 98) = w2
  have hS1 : Sup κ w1 := hS.mono (by omega)
  have b2 : BoxAt κ w2 (w.heap.size + 2) #[.int .u8 s] 98 := by rw [← hw2, ← hs1]; exact BoxAt.new hS1 _ _
  have hB2 : Below w1.heap.size w1 w2 := hw2 ▸ (Below.refl _ _).alloc (Nat.le_refl _) _
  have hB : Below w.heap.size w w2 := (hB0.trans (hB1.mono (by omega))).trans (hB2.mono (by omega))
  refine (do_ok (H.out.below hB) 174 _ (tSet n s) enters174 (touch_set ((b0.below hB1).below hB2) (b1.below hB2) b2)).mono ?_
  rintro e w3 hh
  have hF := Fr.below (κ := κ) (S := K.step wi j) hB
  rcases hh.elim with ⟨T1, σ1, κ1, hr, rfl, hst, hf, he⟩ | ⟨a, T1, σ1, κ1, v, hr, rfl, hv, hst, hf, he⟩
  · refine ⟨rfl, ?_⟩
    rw [setP, Pr.exec_bind, hr]
    exact ⟨κ1, rfl, hst, hF.trans0 hf, (Ext.refl _ _).trans he hB.size⟩
  · have HR := Lib.hid hr
    clear hr hh hw0 hw1 hw2
    go_wp2
    go_end0
    rw [setP, Pr.exec_bind, HR.out]
    exact ⟨κ1, _, rfl, rfl, hst, hF.trans0 hf, (Ext.refl _ _).trans he hB.size⟩
end
end Go.Proofs.Ytacmeafpieoaaaa
