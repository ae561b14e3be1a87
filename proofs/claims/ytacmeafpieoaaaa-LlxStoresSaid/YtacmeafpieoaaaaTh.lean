/- Operations that go on touch by touch: programs, replay, how a thread lies in memory; the contract of Do. -/
import Derived.Test.YtacmeafpieoaaaaWd
import Derived.Shelf.Abstract
import Derived.WalkLawsBesides
namespace Go.Proofs.Ytacmeafpieoaaaa
open Go.RowKit

/-- What an operation does: touches of what all share; looks at nodes between them. -/
inductive Pr (α : Type) where
  | ret (a : α)
  | touch (f : ShS → Int × ShS) (k : Int → Pr α)
  | look (r : Int) (k : NodeS → Pr α)
  | see (n : Int) (k : RecS → Pr α)
/-- How far a thread is, while it is gone through. -/
structure TS where
  log : List Int
  pos : Nat
  spent : Bool
inductive Res (α : Type) where
  | out (a : α) (T : TS) (σ : ShS)
  | wait (T : TS) (σ : ShS)

def ShS.looked (σ : ShS) (r : Int) : ShS := { σ with A := (σ.A.look r).2 }
def TS.told (T : TS) : TS := { T with pos := T.pos + 1 }
def TS.more (T : TS) (n : Int) : TS := ⟨T.log ++ [n], T.pos + 1, true⟩
def Pr.exec {α : Type} : Pr α → TS → ShS → Res α
  | .ret a, T, σ => .out a T σ
  | .touch f k, T, σ => match T.log[T.pos]? with
    | some n => (k n).exec T.told σ
    | none => if T.spent = true then .wait T σ else (k (f σ).1).exec (T.more (f σ).1) (f σ).2
  | .look r k, T, σ => (k (σ.A.look r).1).exec T (σ.looked r)
  | .see n k, T, σ => (k (σ.T.look n)).exec T σ
def Pr.bind {α β : Type} : Pr α → (α → Pr β) → Pr β
  | .ret a, q => q a
  | .touch f k, q => .touch f fun n => (k n).bind q
  | .look r k, q => .look r fun n => (k n).bind q
  | .see n k, q => .see n fun r => (k r).bind q
def Res.then {α β : Type} (r : Res α) (q : α → TS → ShS → Res β) : Res β := match r with
  | .out a T σ => q a T σ
  | .wait T σ => .wait T σ
theorem Pr.exec_bind {α β : Type} (p : Pr α) (q : α → Pr β) (T : TS) (σ : ShS) : (p.bind q).exec T σ = (p.exec T σ).then fun a T' σ' => (q a).exec T' σ' := by
  induction p generalizing T σ with
  | ret a => rfl
  | touch f k ih =>
    simp only [Pr.bind, Pr.exec]
    cases T.log[T.pos]? with
    | some n => exact ih n _ _
    | none =>
      by_cases hs : T.spent = true
      · simp [hs, Res.then]
      · simp only [hs, if_false]; exact ih _ _ _
  | look r k ih => exact ih _ _ _
  | see n k ih => exact ih _ _ _
/-- One touch. -/
def Pr.one (f : ShS → Int × ShS) : Pr Int := .touch f .ret

def K.thrd (j : Nat) : K → Bool
  | .thr i => i == j
  | .log i => i == j
  | _ => false
/-- What a thread's touch may change. -/
def K.step (wi j : Nat) : K → Bool := fun k => k.ofW wi || k.thrd j

structure ThrAt (κ : Nat → K) (w : World) (j pth : Nat) (work logv : Value) (T : TS) (inn done : Bool) (outv : Value) : Prop where
  kp : κ pth = .thr j
  hp : w.heap[pth]? = some (.cells #[work, logv, .int .i64 T.pos, .bool T.spent, .bool inn, .bool done, outv] 177 (0, 0))
  own : Own w 2 1 logv T.log.length (intVs T.log)
  kl : ∀ g, blk logv = some g → κ g = .log j

section
variable {κ κ' : Nat → K} {w w' : World} {wi j pth : Nat} {p : WdP} {σ : ShS} {T : TS} {work logv outv : Value} {inn done : Bool}

theorem ThrAt.keep (h : ThrAt κ w j pth work logv T inn done outv) (hb : ∀ b, b < w.heap.size → (κ b).thrd j = true → w'.heap[b]? = w.heap[b]?) (he : Ext κ κ' w) : ThrAt κ' w' j pth work logv T inn done outv := by
  have hpl := lt_of_heap h.hp
  exact ⟨(he _ hpl).trans h.kp, (hb _ hpl (by simp [h.kp, K.thrd])).trans h.hp, h.own.move fun g hg => hb g (h.own.lt g hg) (by simp [h.kl g hg, K.thrd]), fun g hg => (he g (h.own.lt g hg)).trans (h.kl g hg)⟩
theorem ThrAt.cell (h : ThrAt κ w j pth work logv T inn done outv) (i : Nat) : w.cell? ⟨pth, i, none⟩ = #[work, logv, .int .i64 T.pos, .bool T.spent, .bool inn, .bool done, outv][i]? := cell_of_heap h.hp
theorem ThrAt.frozen (h : ThrAt κ w j pth work logv T inn done outv) (i : Nat) : w.frozen? ⟨pth, i, none⟩ = false := frozen_of_heap h.hp

/-- A thread at work in a world. -/
structure St (κ : Nat → K) (w : World) (wi : Nat) (p : WdP) (j pth : Nat) (work : Value) (T : TS) (σ : ShS) : Prop where
  wd : WdRep κ w wi p σ
  th : ∃ logv, ThrAt κ w j pth work logv T true false (.slice none 0 0)
  ok : T.pos ≤ T.log.length ∧ T.log.length + (if T.spent = true then 0 else 1) ≤ 100000
  sup : Sup κ w

def waitV : Value := .iface 219 (.agg #[])
/-- What a function comes to that goes by a program. -/
def TPost {α : Type} (κ : Nat → K) (w : World) (wi : Nat) (p : WdP) (j pth : Nat) (work : Value) (r : Res α) (V : α → (Nat → K) → World → Value → Prop) (e : Ending) (w' : World) : Prop := match r with
  | .out a T σ => ∃ κ' v, e = .returned v ∧ V a κ' w' v ∧ St κ' w' wi p j pth work T σ ∧ Fr κ (K.step wi j) w w' ∧ Ext κ κ' w
  | .wait T σ => ∃ κ', e = .panicked [{ v := waitV, recovered := false }] ∧ St κ' w' wi p j pth work T σ ∧ Fr κ (K.step wi j) w w' ∧ Ext κ κ' w
def isInt : Int → (Nat → K) → World → Value → Prop := fun n _ _ v => v = .int .i64 n
def isBool : Bool → (Nat → K) → World → Value → Prop := fun n _ _ v => v = .bool n

/-- A touch's closure: what it does to what all share. -/
def Touch (κ : Nat → K) (w : World) (wi : Nat) (p : WdP) (j : Nat) (σ : ShS) (k : Nat) (caps : Array Value) (v : Int × ShS → Value) (f : ShS → Int × ShS) : Prop :=
  ∀ w1, Fr κ (K.thrd j) w w1 → WdRep κ w1 wi p σ → Sup κ w1 → Calls Try.prog k caps w1 fun e w' => ∃ κ', e = .returned (v (f σ)) ∧ WdRep κ' w' wi p (f σ).2 ∧ Fr κ (K.ofW wi) w1 w' ∧ Ext κ κ' w1 ∧ Sup κ' w'

theorem K.thrd_apart {k : K} (h : k.thrd j = true) : k.ofW wi = false ∧ k ≠ .imm ∧ k ≠ .none := by
  cases k <;> simp_all [K.thrd, K.ofW]
theorem K.ofW_apart {k : K} (h : k.ofW wi = true) : k.thrd j = false ∧ k ≠ .imm ∧ k ≠ .none := by
  cases k <;> simp_all [K.thrd, K.ofW]

theorem eqlFunc88 (k : Nat) (caps : Array Value) (w : World) : (binOp .eql 88 (.func (.func k) #[] caps) .nilFunc).run Try.prog w = .ok (.bool false) w := by kernel_rfl

set_option maxRecDepth 100000 in
theorem do_told (h : ThrAt κ w j pth work logv T true done outv) (k : Nat) (caps : Array Value) {n : Int} (hn : T.log[T.pos]? = some n) (hl : T.log.length ≤ 100000) :
    Calls Try.prog 122 #[.pointer (some ⟨pth, 0, none⟩), .func (.func k) #[] caps] w fun e w' => e = .returned (.int .i64 n) ∧ ThrAt κ w' j pth work logv T.told true done outv ∧ Fr κ (K.thrd j) w w' ∧ w'.heap.size = w.heap.size := by
  have hlt := (List.getElem?_eq_some_iff.1 hn).1
  have c1 := h.cell 1
  have c2 := h.cell 2
  have c4 := h.cell 4
  have z2 := h.frozen 2
  simp only [List.getElem?_toArray, List.getElem?_cons_succ, List.getElem?_cons_zero] at c1 c2 c4
  obtain ⟨g, o, cap, rfl, hle, hb, hg, hc, hz⟩ := h.own.at (by omega) (by decide)
  have hcn := hc T.pos (.int .i64 n) (by rw [intVs_get, hn]; rfl)
  have hlg := h.kl g hb
  have hgp : g ≠ pth := by intro e; rw [e, h.kp] at hlg; cases hlg
  have hw1 : wrap64 ((T.pos : Int) + 1) = (T.pos : Int) + 1 := by unfold wrap64; omega
  have hw2 : IntKind.i64.wrap (T.pos : Int) = (T.pos : Int) := by rw [IntKind.wrap_i64]; omega
  have H := Lib.hid h
  have hfn := fun w => eqlFunc88 k caps w
  clear h hc hz
  go_enter Try.func122, Try.ntmps122
  go_wp2
  have hd : w.drew.heap = w.heap := rfl
  have HF := Lib.hid (show Fr κ (K.thrd j) w w.drew from Fr.drew)
  have HT := Lib.hid (show ThrAt κ w.drew j pth work (Value.slice (some { block := g, off := o }) T.log.length cap) T true done outv from H.out.keep (fun b hb _ => rfl) (Ext.refl _ _))
  replace c1 : w.drew.cell? _ = _ := c1
  replace c2 : w.drew.cell? _ = _ := c2
  replace z2 : w.drew.frozen? _ = _ := z2
  replace hcn : w.drew.cell? _ = _ := hcn
  refine wp_still_at (by kernel_rfl) (by kernel_rfl) w.drew rfl ?_
  have hsz : w.drew.heap.size = w.heap.size := rfl
  generalize w.drew = w0 at c1 c2 z2 hcn HF HT hsz ⊢
  clear H hd c4
  repeat still_step
  refine wpStill_nil ?_
  go_wp2
  have d1 : (w0.setCell ⟨pth, 2, none⟩ (.int .i64 ((T.pos : Int) + 1))).drew.cell? ⟨pth, 1, none⟩ = some (Value.slice (some { block := g, off := o }) T.log.length cap) := by
    show (w0.setCell ⟨pth, 2, none⟩ (.int .i64 ((T.pos : Int) + 1))).cell? ⟨pth, 1, none⟩ = _
    rw [World.cell?_setCell_other _ _ _ _ (by simp)]; exact c1
  have d2 : (w0.setCell ⟨pth, 2, none⟩ (.int .i64 ((T.pos : Int) + 1))).drew.cell? ⟨pth, 2, none⟩ = some (.int .i64 ((T.pos : Int) + 1)) := World.cell?_setCell_same _ _ _ c2
  have d3 : (w0.setCell ⟨pth, 2, none⟩ (.int .i64 ((T.pos : Int) + 1))).drew.cell? ⟨g, o + T.pos, none⟩ = some (.int .i64 n) := by
    show (w0.setCell ⟨pth, 2, none⟩ (.int .i64 ((T.pos : Int) + 1))).cell? ⟨g, o + T.pos, none⟩ = _
    rw [World.cell?_setCell_other _ _ _ _ (by simp [hgp])]; exact hcn
  have HS := Lib.hid (show (w0.setCell ⟨pth, 2, none⟩ (.int .i64 ((T.pos : Int) + 1))).drew.heap = (w0.setCell ⟨pth, 2, none⟩ (.int .i64 ((T.pos : Int) + 1))).heap from rfl)
  have HFF := Lib.hid (show Fr κ (K.thrd j) w (w0.setCell ⟨pth, 2, none⟩ (.int .i64 ((T.pos : Int) + 1))).drew from (HF.out.any (fun _ => by simp [HT.out.kp, K.thrd]) _).drewn)
  refine wp_still_at (by kernel_rfl) (by kernel_rfl) (w0.setCell ⟨pth, 2, none⟩ (.int .i64 ((T.pos : Int) + 1))).drew rfl ?_
  generalize (w0.setCell ⟨pth, 2, none⟩ (.int .i64 ((T.pos : Int) + 1))).drew = w2 at d1 d2 d3 HS HFF ⊢
  clear c1 c2 z2 hcn
  repeat still_step
  refine wpStill_nil ?_
  go_wp2
  go_ret
  have h := HT.out
  have hb' : ∀ b, b ≠ pth → w2.heap[b]? = w0.heap[b]? := fun b hb => by rw [HS.out]; exact Below.heap_setCell _ _ _ _ hb
  refine ⟨rfl, ⟨h.kp, ?_, h.own.move fun g' hg' => hb' g' (by intro e; have := h.kl g' hg'; rw [e, h.kp] at this; cases this), h.kl⟩, HFF.out, by rw [HS.out]; simpa [World.setCell] using hsz⟩
  rw [HS.out, heap_setCell_at h.hp]; rfl

set_option maxRecDepth 100000 in
theorem do_spent (h : ThrAt κ w j pth work logv T true done outv) (k : Nat) (caps : Array Value) (hn : T.log[T.pos]? = none) (hs : T.spent = true) (hp : T.pos ≤ T.log.length) :
    Calls Try.prog 122 #[.pointer (some ⟨pth, 0, none⟩), .func (.func k) #[] caps] w fun e w' => e = .panicked [{ v := waitV, recovered := false }] ∧ w' = w.drew := by
  have hge : T.pos = T.log.length := by have := List.getElem?_eq_none_iff.1 hn; omega
  have c1 := h.cell 1
  have c2 := h.cell 2
  have c3 := h.cell 3
  have c4 := h.cell 4
  simp only [List.getElem?_toArray, List.getElem?_cons_succ, List.getElem?_cons_zero] at c1 c2 c3 c4
  rw [hs] at c3
  rw [hge] at c2
  obtain ⟨_, a, cap, rfl, _⟩ := h.own
  have hfn := fun w => eqlFunc88 k caps w
  clear h
  go_enter Try.func122, Try.ntmps122
  go_wp2
  replace c1 : w.drew.cell? _ = _ := c1
  replace c2 : w.drew.cell? _ = _ := c2
  replace c3 : w.drew.cell? _ = _ := c3
  refine wp_still_at (by kernel_rfl) (by kernel_rfl) w.drew rfl ?_
  generalize hw0 : w.drew = w0 at c1 c2 c3 ⊢
  repeat still_step
  refine wpStill_nil ?_
  go_wp2
  exact ⟨rfl, rfl, hw0.symm⟩

set_option maxRecDepth 100000 in
set_option maxHeartbeats 1000000 in
theorem do_touch (h : ThrAt κ w j pth work logv T true done outv) (hW : WdRep κ w wi p σ) (hS : Sup κ w) (k : Nat) (caps : Array Value) (f : ShS → Int × ShS) (hent : Enters Try.prog k) (ht : Touch κ w wi p j σ k caps (fun x => .int .i64 x.1) f)
    (hn : T.log[T.pos]? = none) (hs : T.spent = false) (hp : T.pos ≤ T.log.length) (hl : T.log.length < 100000) :
    Calls Try.prog 122 #[.pointer (some ⟨pth, 0, none⟩), .func (.func k) #[] caps] w fun e w' => ∃ κ', e = .returned (.int .i64 (f σ).1) ∧ WdRep κ' w' wi p (f σ).2 ∧ (∃ logv', ThrAt κ' w' j pth work logv' (T.more (f σ).1) true done outv) ∧ Fr κ (K.step wi j) w w' ∧ Ext κ κ' w ∧ Sup κ' w' := by
  obtain ⟨j0, hj, hy0, hy1, hy2⟩ := info_parts info2
  have hge : T.pos = T.log.length := by have := List.getElem?_eq_none_iff.1 hn; omega
  have c1 := h.cell 1
  have c2 := h.cell 2
  have c3 := h.cell 3
  have c4 := h.cell 4
  have z3 := h.frozen 3
  have z4 := h.frozen 4
  simp only [List.getElem?_toArray, List.getElem?_cons_succ, List.getElem?_cons_zero] at c1 c2 c3 c4
  rw [hs] at c3
  rw [hge] at c2
  obtain ⟨hol, a, cap, rfl, hor⟩ := h.own
  clear hol hor
  have hfn := fun w => eqlFunc88 k caps w
  have hcf := fun w => hent caps w
  have H := Lib.hid h
  have HT := Lib.hid ht
  have HW := Lib.hid hW
  have HE := Lib.hid hent
  clear h ht hW hent
  go_enter Try.func122, Try.ntmps122
  go_wp2
  replace c1 : w.drew.cell? _ = _ := c1
  replace c2 : w.drew.cell? _ = _ := c2
  replace c3 : w.drew.cell? _ = _ := c3
  replace c4 : w.drew.cell? _ = _ := c4
  replace z3 : w.drew.frozen? _ = _ := z3
  replace z4 : w.drew.frozen? _ = _ := z4
  refine wp_still_at (by kernel_rfl) (by kernel_rfl) w.drew rfl ?_
  have HD := Lib.hid (show w.drew.heap = w.heap from rfl)
  have HF0 := Lib.hid (show Fr κ (K.thrd j) w w.drew from Fr.drew)
  generalize w.drew = w0 at c1 c2 c3 c4 z3 z4 HD HF0 ⊢
  repeat still_step
  refine wpStill_nil ?_
  go_wp2_with fail
  generalize hW1 : (w0.setCell ⟨pth, 3, none⟩ (.bool true)).setCell ⟨pth, 4, none⟩ (.bool false) = w1
  have h0 : ThrAt κ w0 j pth work (Value.slice a T.log.length cap) T true done outv := H.out.keep (fun b hb _ => by rw [HD.out]) (Ext.refl _ _)
  have ho1 : ∀ b, b ≠ pth → w1.heap[b]? = w0.heap[b]? := fun b hb => by rw [← hW1, Below.heap_setCell _ _ _ _ hb, Below.heap_setCell _ _ _ _ hb]
  have hs1 : w1.heap.size = w.heap.size := by rw [← hW1]; simp [World.setCell, HD.out]
  have h1 : ThrAt κ w1 j pth work (Value.slice a T.log.length cap) ⟨T.log, T.pos, true⟩ false done outv := by
    refine ⟨h0.kp, ?_, h0.own.move fun g hg => ho1 g (by intro e; have := h0.kl g hg; rw [e, h0.kp] at this; cases this), h0.kl⟩
    rw [← hW1, heap_setCell_at (heap_setCell_at h0.hp _)]; rfl
  have hF1 : Fr κ (K.thrd j) w w1 := by
    rw [← hW1]
    exact (HF0.out.any (fun _ => by simp [h0.kp, K.thrd]) _).any (fun _ => by simp [h0.kp, K.thrd]) _
  have hWd1 : WdRep κ w1 wi p σ := HW.out.fr hF1 (fun q hq => by
    cases e : q.thrd j with
    | false => rfl
    | true => have := K.thrd_apart (wi := wi) e; rcases hq with hq | hq <;> simp_all) (Ext.refl _ _)
  have hS1 : Sup κ w1 := hS.mono (by omega)
  have hhead := HT.out w1 hF1 hWd1 hS1
  have HF1 := Lib.hid hF1
  clear hW1 c1 c2 c3 c4 z3 z4 h0 ho1
  refine hhead.mono ?_
  rintro e w2 ⟨κ2, rfl, hW2, hF2, hE2, hS2⟩
  have h2 : ThrAt κ2 w2 j pth work (Value.slice a T.log.length cap) ⟨T.log, T.pos, true⟩ false done outv := h1.keep (fun b hb hk => hF2.block b hb (by
    cases e : (κ b).ofW wi with
    | false => rfl
    | true => have := K.ofW_apart (j := j) e; simp_all)) hE2
  have c1 := h2.cell 1
  have c2 := h2.cell 2
  have c4 := h2.cell 4
  have z1 := h2.frozen 1
  have z2 := h2.frozen 2
  have z4 := h2.frozen 4
  simp only [List.getElem?_toArray, List.getElem?_cons_succ, List.getElem?_cons_zero] at c1 c2 c4
  have H1 := Lib.hid h1
  have H2 := Lib.hid h2
  have hkp2 := h2.kp
  have hpl2 := lt_of_heap h2.hp
  have HO2 := Lib.hid (show Own ((w2.setCell ⟨pth, 4, none⟩ (.bool true)).alloc (.cells #[.int .i64 (f σ).1] 2)) 2 1 (Value.slice a T.log.length cap) T.log.length (intVs T.log) from h2.own.move fun g hg => by
    rw [Below.heap_alloc _ _ _ (by simp [World.setCell]; exact h2.own.lt g hg)]
    exact Below.heap_setCell _ _ _ _ (by intro e; have := h2.kl g hg; rw [e, hkp2] at this; cases this))
  have HE2 := Lib.hid hE2
  have HF2 := Lib.hid hF2
  have HWW := Lib.hid hW2
  clear h1 h2 hhead hcf hfn hE2 hF2 hW2 hWd1
  go_wp2_with (at_builtin; refine wpList_append_row rfl _ _ 22 rfl 2 j0 (.int .i64 0) 1 8 Try.underlying22 hj hy0 hy1 hy2 rfl (by decide) _ T.log.length (intVs T.log) rfl HO2.out (some ⟨w2.heap.size, 0, none⟩) 1 1 [.int .i64 (f σ).1] rfl ?c1 ?c4 ?c2 ?c3 ?_)
  case c1 => exact ⟨rfl, .inr ⟨_, rfl, fun j u hu => by
    have hh := Laws.heap_new (w2.setCell ⟨pth, 4, none⟩ (.bool true)) (.cells #[.int .i64 (f σ).1] 2)
    rw [show (w2.setCell ⟨pth, 4, none⟩ (.bool true)).heap.size = w2.heap.size by simp [World.setCell]] at hh
    rw [Addr.add_lit, cell_of_heap hh]; simpa using hu⟩⟩
  case c4 => intro u hu; simp only [List.mem_cons, List.not_mem_nil, or_false] at hu; subst hu; rfl
  case c2 => simp only [maxLen]; omega
  case c3 => omega
  intro v' w5 hapd
  have h2 := H2.out
  have hvp : blk (Value.slice a T.log.length cap) ≠ some pth := fun e => by have := h2.kl pth e; rw [hkp2] at this; cases this
  have hp5 := ((hapd.block pth (by simp [World.setCell]; omega) hvp).trans (Below.heap_alloc _ _ _ (by simpa [World.setCell] using hpl2))).trans (heap_setCell_at (i := 4) h2.hp (.bool true))
  have c1 : w5.cell? ⟨pth, 1, none⟩ = some (Value.slice a T.log.length cap) := by rw [cell_of_heap hp5]; rfl
  have c2 : w5.cell? ⟨pth, 2, none⟩ = some (.int .i64 (T.pos : Int)) := by rw [cell_of_heap hp5]; rfl
  have z1 : w5.frozen? ⟨pth, 1, none⟩ = false := frozen_of_heap hp5
  have z2 : w5.frozen? ⟨pth, 2, none⟩ = false := frozen_of_heap hp5
  have hw1 : wrap64 ((T.pos : Int) + 1) = (T.pos : Int) + 1 := by unfold wrap64; omega
  obtain ⟨al', capl', rfl, _⟩ := hapd.own.2
  have HA := Lib.hid hapd
  have HP5 := Lib.hid hp5
  clear hapd hp5 h2 hvp
  go_wp2
  go_ret
  have hapd := HA.out
  have h2 := H2.out
  have hvt : ∀ b, blk (Value.slice a T.log.length cap) = some b → (κ2 b).thrd j = true := fun b hb => by simp [h2.kl b hb, K.thrd]
  have hold : ∀ b, b < w2.heap.size → (κ2 b).thrd j = false → w5.heap[b]? = w2.heap[b]? := fun b hb hk =>
    (hapd.block b (by simp [World.setCell]; omega) (fun e => by rw [hvt b e] at hk; cases hk)).trans ((Below.heap_alloc _ _ _ (by simpa [World.setCell] using hb)).trans (Below.heap_setCell _ _ _ _ (by intro e; rw [e, hkp2] at hk; simp [K.thrd] at hk)))
  have hsz5 : w2.heap.size < w5.heap.size := by have := hapd.size; simp [World.setCell] at this; omega
  obtain ⟨κ', hE', hS', hk'⟩ := hapd.kind (hS2.mono (by simp [World.setCell])) (.log j) (fun g hg => h2.kl g hg)
  have hEE : Ext κ2 κ' w2 := fun b hb => hE' b (by simp [World.setCell]; omega)
  have hkp' : κ' pth = .thr j := (hEE pth hpl2).trans hkp2
  generalize hWf : (w5.setCell ⟨pth, 1, none⟩ (Value.slice al' (T.log.length + 1) capl')).setCell ⟨pth, 2, none⟩ _ = wf
  have hfo : ∀ b, b ≠ pth → wf.heap[b]? = w5.heap[b]? := fun b hb => by rw [← hWf, Below.heap_setCell _ _ _ _ hb, Below.heap_setCell _ _ _ _ hb]
  have hfs : wf.heap.size = w5.heap.size := by rw [← hWf]; simp [World.setCell]
  have hff : ∀ b, b < w2.heap.size → (κ2 b).thrd j = false → wf.heap[b]? = w2.heap[b]? := fun b hb hk => (hfo b (by intro e; rw [e, hkp2] at hk; simp [K.thrd] at hk)).trans (hold b hb hk)
  refine ⟨rfl, κ', HWW.out.keep (fun b hb hk => hff b hb ?_) (by omega) hEE, ⟨_, hkp', ?_, ?_, hk'⟩, ?_, ?_, hS'.mono (by omega)⟩
  · cases e : (κ2 b).thrd j with
    | false => rfl
    | true => have := K.thrd_apart (wi := wi) e; rcases hk with hk | hk <;> simp_all
  · rw [← hWf, heap_setCell_at (heap_setCell_at HP5.out _)]
    have e1 : wrap64 ((T.log.length : Int) + 1) = ((T.log.length + 1 : Nat) : Int) := by unfold wrap64; omega
    simp [TS.more, e1, hge]
  · have := hapd.own.move (w' := wf) fun g hg => hfo g (by intro e; have := hk' g hg; rw [e, hkp'] at this; cases this)
    simpa [TS.more, intVs] using this
  · have f2 : Fr κ (K.step wi j) w w2 := ((show Fr κ (K.step wi j) w w1 from H1.out |> fun _ => HF1.out.mono (fun k hk => by simp [K.step, hk])).trans0 (HF2.out.mono (fun k hk => by simp [K.step, hk])))
    exact ⟨by rw [← hWf]; exact hapd.os.trans f2.os, by rw [← hWf]; exact hapd.tape.trans f2.tape, by rw [← hWf]; exact hapd.output.trans f2.output, by have := f2.size; omega, fun b hb hSb => (hff b (by have := f2.size; omega) (by
      rw [HE2.out b (by omega)]
      simp only [K.step, Bool.or_eq_false_iff] at hSb
      exact hSb.2)).trans (f2.block b hb hSb)⟩
  · exact fun b hb => (hEE b (by have := HF2.out.size; omega)).trans (HE2.out b (by omega))

/-- One touch, whatever the thread has told. -/
theorem do_ok (h : St κ w wi p j pth work T σ) (k : Nat) (caps : Array Value) (f : ShS → Int × ShS) (hent : Enters Try.prog k) (ht : Touch κ w wi p j σ k caps (fun x => .int .i64 x.1) f) :
    Calls Try.prog 122 #[.pointer (some ⟨pth, 0, none⟩), .func (.func k) #[] caps] w (TPost κ w wi p j pth work ((Pr.one f).exec T σ) isInt) := by
  obtain ⟨logv, hth⟩ := h.th
  simp only [Pr.one, Pr.exec]
  cases hn : T.log[T.pos]? with
  | some n =>
    refine (do_told hth k caps hn (by have := h.ok.2; split at this <;> omega)).mono ?_
    rintro e w' ⟨rfl, h1, h2, h3⟩
    have hlt := (List.getElem?_eq_some_iff.1 hn).1
    refine ⟨κ, _, rfl, rfl, ⟨h.wd.fr h2 (fun q hq => ?_) (Ext.refl _ _), ⟨logv, h1⟩, by simp only [TS.told]; exact ⟨by omega, h.ok.2⟩, h.sup.mono (by omega)⟩, h2.mono (fun q hq => by simp [K.step, hq]), Ext.refl _ _⟩
    cases e : q.thrd j with
    | false => rfl
    | true => have := K.thrd_apart (wi := wi) e; rcases hq with hq | hq <;> simp_all
  | none =>
    by_cases hs : T.spent = true
    · simp only [hs, if_true]
      refine (do_spent hth k caps hn hs h.ok.1).mono ?_
      rintro e w' ⟨rfl, rfl⟩
      exact ⟨κ, rfl, ⟨h.wd.below (Below.refl _ _).drew (Ext.refl _ _), ⟨logv, hth.keep (fun b _ _ => rfl) (Ext.refl _ _)⟩, h.ok, h.sup⟩, Fr.drew, Ext.refl _ _⟩
    · simp only [hs, if_false]
      refine (do_touch hth h.wd h.sup k caps f hent ht hn (by simpa using hs) h.ok.1 (by have := h.ok.2; simp [hs] at this; omega)).mono ?_
      rintro e w' ⟨κ', rfl, h1, h2, h3, h4, h5⟩
      have hge := List.getElem?_eq_none_iff.1 hn
      exact ⟨κ', _, rfl, rfl, ⟨h1, h2, by have := h.ok; simp [hs] at this; simp only [TS.more, List.length_append, List.length_cons, List.length_nil, if_true]; exact ⟨by omega, by omega⟩, h5⟩, h3, h4⟩

/- The same for method values. -/
theorem eqlFunc88M (k : Nat) (caps : Array Value) (w : World) : (binOp .eql 88 (.func (.func k) caps #[]) .nilFunc).run Try.prog w = .ok (.bool false) w := by kernel_rfl

set_option maxRecDepth 100000 in
theorem do_toldM (h : ThrAt κ w j pth work logv T true done outv) (k : Nat) (caps : Array Value) {n : Int} (hn : T.log[T.pos]? = some n) (hl : T.log.length ≤ 100000) :
    Calls Try.prog 122 #[.pointer (some ⟨pth, 0, none⟩), .func (.func k) caps #[]] w fun e w' => e = .returned (.int .i64 n) ∧ ThrAt κ w' j pth work logv T.told true done outv ∧ Fr κ (K.thrd j) w w' ∧ w'.heap.size = w.heap.size := by
  have hlt := (List.getElem?_eq_some_iff.1 hn).1
  have c1 := h.cell 1
  have c2 := h.cell 2
  have c4 := h.cell 4
  have z2 := h.frozen 2
  simp only [List.getElem?_toArray, List.getElem?_cons_succ, List.getElem?_cons_zero] at c1 c2 c4
  obtain ⟨g, o, cap, rfl, hle, hb, hg, hc, hz⟩ := h.own.at (by omega) (by decide)
  have hcn := hc T.pos (.int .i64 n) (by rw [intVs_get, hn]; rfl)
  have hlg := h.kl g hb
  have hgp : g ≠ pth := by intro e; rw [e, h.kp] at hlg; cases hlg
  have hw1 : wrap64 ((T.pos : Int) + 1) = (T.pos : Int) + 1 := by unfold wrap64; omega
  have hw2 : IntKind.i64.wrap (T.pos : Int) = (T.pos : Int) := by rw [IntKind.wrap_i64]; omega
  have H := Lib.hid h
  have hfn := fun w => eqlFunc88M k caps w
  clear h hc hz
  go_enter Try.func122, Try.ntmps122
  go_wp2
  have hd : w.drew.heap = w.heap := rfl
  have HF := Lib.hid (show Fr κ (K.thrd j) w w.drew from Fr.drew)
  have HT := Lib.hid (show ThrAt κ w.drew j pth work (Value.slice (some { block := g, off := o }) T.log.length cap) T true done outv from H.out.keep (fun b hb _ => rfl) (Ext.refl _ _))
  replace c1 : w.drew.cell? _ = _ := c1
  replace c2 : w.drew.cell? _ = _ := c2
  replace z2 : w.drew.frozen? _ = _ := z2
  replace hcn : w.drew.cell? _ = _ := hcn
  refine wp_still_at (by kernel_rfl) (by kernel_rfl) w.drew rfl ?_
  have hsz : w.drew.heap.size = w.heap.size := rfl
  generalize w.drew = w0 at c1 c2 z2 hcn HF HT hsz ⊢
  clear H hd c4
  repeat still_step
  refine wpStill_nil ?_
  go_wp2
  have d1 : (w0.setCell ⟨pth, 2, none⟩ (.int .i64 ((T.pos : Int) + 1))).drew.cell? ⟨pth, 1, none⟩ = some (Value.slice (some { block := g, off := o }) T.log.length cap) := by
    show (w0.setCell ⟨pth, 2, none⟩ (.int .i64 ((T.pos : Int) + 1))).cell? ⟨pth, 1, none⟩ = _
    rw [World.cell?_setCell_other _ _ _ _ (by simp)]; exact c1
  have d2 : (w0.setCell ⟨pth, 2, none⟩ (.int .i64 ((T.pos : Int) + 1))).drew.cell? ⟨pth, 2, none⟩ = some (.int .i64 ((T.pos : Int) + 1)) := World.cell?_setCell_same _ _ _ c2
  have d3 : (w0.setCell ⟨pth, 2, none⟩ (.int .i64 ((T.pos : Int) + 1))).drew.cell? ⟨g, o + T.pos, none⟩ = some (.int .i64 n) := by
    show (w0.setCell ⟨pth, 2, none⟩ (.int .i64 ((T.pos : Int) + 1))).cell? ⟨g, o + T.pos, none⟩ = _
    rw [World.cell?_setCell_other _ _ _ _ (by simp [hgp])]; exact hcn
  have HS := Lib.hid (show (w0.setCell ⟨pth, 2, none⟩ (.int .i64 ((T.pos : Int) + 1))).drew.heap = (w0.setCell ⟨pth, 2, none⟩ (.int .i64 ((T.pos : Int) + 1))).heap from rfl)
  have HFF := Lib.hid (show Fr κ (K.thrd j) w (w0.setCell ⟨pth, 2, none⟩ (.int .i64 ((T.pos : Int) + 1))).drew from (HF.out.any (fun _ => by simp [HT.out.kp, K.thrd]) _).drewn)
  refine wp_still_at (by kernel_rfl) (by kernel_rfl) (w0.setCell ⟨pth, 2, none⟩ (.int .i64 ((T.pos : Int) + 1))).drew rfl ?_
  generalize (w0.setCell ⟨pth, 2, none⟩ (.int .i64 ((T.pos : Int) + 1))).drew = w2 at d1 d2 d3 HS HFF ⊢
  clear c1 c2 z2 hcn
  repeat still_step
  refine wpStill_nil ?_
  go_wp2
  go_ret
  have h := HT.out
  have hb' : ∀ b, b ≠ pth → w2.heap[b]? = w0.heap[b]? := fun b hb => by rw [HS.out]; exact Below.heap_setCell _ _ _ _ hb
  refine ⟨rfl, ⟨h.kp, ?_, h.own.move fun g' hg' => hb' g' (by intro e; have := h.kl g' hg'; rw [e, h.kp] at this; cases this), h.kl⟩, HFF.out, by rw [HS.out]; simpa [World.setCell] using hsz⟩
  rw [HS.out, heap_setCell_at h.hp]; rfl

set_option maxRecDepth 100000 in
theorem do_spentM (h : ThrAt κ w j pth work logv T true done outv) (k : Nat) (caps : Array Value) (hn : T.log[T.pos]? = none) (hs : T.spent = true) (hp : T.pos ≤ T.log.length) :
    Calls Try.prog 122 #[.pointer (some ⟨pth, 0, none⟩), .func (.func k) caps #[]] w fun e w' => e = .panicked [{ v := waitV, recovered := false }] ∧ w' = w.drew := by
  have hge : T.pos = T.log.length := by have := List.getElem?_eq_none_iff.1 hn; omega
  have c1 := h.cell 1
  have c2 := h.cell 2
  have c3 := h.cell 3
  have c4 := h.cell 4
  simp only [List.getElem?_toArray, List.getElem?_cons_succ, List.getElem?_cons_zero] at c1 c2 c3 c4
  rw [hs] at c3
  rw [hge] at c2
  obtain ⟨_, a, cap, rfl, _⟩ := h.own
  have hfn := fun w => eqlFunc88M k caps w
  clear h
  go_enter Try.func122, Try.ntmps122
  go_wp2
  replace c1 : w.drew.cell? _ = _ := c1
  replace c2 : w.drew.cell? _ = _ := c2
  replace c3 : w.drew.cell? _ = _ := c3
  refine wp_still_at (by kernel_rfl) (by kernel_rfl) w.drew rfl ?_
  generalize hw0 : w.drew = w0 at c1 c2 c3 ⊢
  repeat still_step
  refine wpStill_nil ?_
  go_wp2
  exact ⟨rfl, rfl, hw0.symm⟩

set_option maxRecDepth 100000 in
set_option maxHeartbeats 1000000 in
theorem do_touchM (h : ThrAt κ w j pth work logv T true done outv) (hW : WdRep κ w wi p σ) (hS : Sup κ w) (k : Nat) (caps : Array Value) (f : ShS → Int × ShS) (hent : Enters Try.prog k) (ht : Touch κ w wi p j σ k caps (fun x => .int .i64 x.1) f)
    (hn : T.log[T.pos]? = none) (hs : T.spent = false) (hp : T.pos ≤ T.log.length) (hl : T.log.length < 100000) :
    Calls Try.prog 122 #[.pointer (some ⟨pth, 0, none⟩), .func (.func k) caps #[]] w fun e w' => ∃ κ', e = .returned (.int .i64 (f σ).1) ∧ WdRep κ' w' wi p (f σ).2 ∧ (∃ logv', ThrAt κ' w' j pth work logv' (T.more (f σ).1) true done outv) ∧ Fr κ (K.step wi j) w w' ∧ Ext κ κ' w ∧ Sup κ' w' := by
  obtain ⟨j0, hj, hy0, hy1, hy2⟩ := info_parts info2
  have hge : T.pos = T.log.length := by have := List.getElem?_eq_none_iff.1 hn; omega
  have c1 := h.cell 1
  have c2 := h.cell 2
  have c3 := h.cell 3
  have c4 := h.cell 4
  have z3 := h.frozen 3
  have z4 := h.frozen 4
  simp only [List.getElem?_toArray, List.getElem?_cons_succ, List.getElem?_cons_zero] at c1 c2 c3 c4
  rw [hs] at c3
  rw [hge] at c2
  obtain ⟨hol, a, cap, rfl, hor⟩ := h.own
  clear hol hor
  have hfn := fun w => eqlFunc88M k caps w
  have hcf := fun w => hent caps w
  have H := Lib.hid h
  have HT := Lib.hid ht
  have HW := Lib.hid hW
  have HE := Lib.hid hent
  clear h ht hW hent
  go_enter Try.func122, Try.ntmps122
  go_wp2
  replace c1 : w.drew.cell? _ = _ := c1
  replace c2 : w.drew.cell? _ = _ := c2
  replace c3 : w.drew.cell? _ = _ := c3
  replace c4 : w.drew.cell? _ = _ := c4
  replace z3 : w.drew.frozen? _ = _ := z3
  replace z4 : w.drew.frozen? _ = _ := z4
  refine wp_still_at (by kernel_rfl) (by kernel_rfl) w.drew rfl ?_
  have HD := Lib.hid (show w.drew.heap = w.heap from rfl)
  have HF0 := Lib.hid (show Fr κ (K.thrd j) w w.drew from Fr.drew)
  generalize w.drew = w0 at c1 c2 c3 c4 z3 z4 HD HF0 ⊢
  repeat still_step
  refine wpStill_nil ?_
  go_wp2_with fail
  generalize hW1 : (w0.setCell ⟨pth, 3, none⟩ (.bool true)).setCell ⟨pth, 4, none⟩ (.bool false) = w1
  have h0 : ThrAt κ w0 j pth work (Value.slice a T.log.length cap) T true done outv := H.out.keep (fun b hb _ => by rw [HD.out]) (Ext.refl _ _)
  have ho1 : ∀ b, b ≠ pth → w1.heap[b]? = w0.heap[b]? := fun b hb => by rw [← hW1, Below.heap_setCell _ _ _ _ hb, Below.heap_setCell _ _ _ _ hb]
  have hs1 : w1.heap.size = w.heap.size := by rw [← hW1]; simp [World.setCell, HD.out]
  have h1 : ThrAt κ w1 j pth work (Value.slice a T.log.length cap) ⟨T.log, T.pos, true⟩ false done outv := by
    refine ⟨h0.kp, ?_, h0.own.move fun g hg => ho1 g (by intro e; have := h0.kl g hg; rw [e, h0.kp] at this; cases this), h0.kl⟩
    rw [← hW1, heap_setCell_at (heap_setCell_at h0.hp _)]; rfl
  have hF1 : Fr κ (K.thrd j) w w1 := by
    rw [← hW1]
    exact (HF0.out.any (fun _ => by simp [h0.kp, K.thrd]) _).any (fun _ => by simp [h0.kp, K.thrd]) _
  have hWd1 : WdRep κ w1 wi p σ := HW.out.fr hF1 (fun q hq => by
    cases e : q.thrd j with
    | false => rfl
    | true => have := K.thrd_apart (wi := wi) e; rcases hq with hq | hq <;> simp_all) (Ext.refl _ _)
  have hS1 : Sup κ w1 := hS.mono (by omega)
  have hhead := HT.out w1 hF1 hWd1 hS1
  have HF1 := Lib.hid hF1
  clear hW1 c1 c2 c3 c4 z3 z4 h0 ho1
  refine hhead.mono ?_
  rintro e w2 ⟨κ2, rfl, hW2, hF2, hE2, hS2⟩
  have h2 : ThrAt κ2 w2 j pth work (Value.slice a T.log.length cap) ⟨T.log, T.pos, true⟩ false done outv := h1.keep (fun b hb hk => hF2.block b hb (by
    cases e : (κ b).ofW wi with
    | false => rfl
    | true => have := K.ofW_apart (j := j) e; simp_all)) hE2
  have c1 := h2.cell 1
  have c2 := h2.cell 2
  have c4 := h2.cell 4
  have z1 := h2.frozen 1
  have z2 := h2.frozen 2
  have z4 := h2.frozen 4
  simp only [List.getElem?_toArray, List.getElem?_cons_succ, List.getElem?_cons_zero] at c1 c2 c4
  have H1 := Lib.hid h1
  have H2 := Lib.hid h2
  have hkp2 := h2.kp
  have hpl2 := lt_of_heap h2.hp
  have HO2 := Lib.hid (show Own ((w2.setCell ⟨pth, 4, none⟩ (.bool true)).alloc (.cells #[.int .i64 (f σ).1] 2)) 2 1 (Value.slice a T.log.length cap) T.log.length (intVs T.log) from h2.own.move fun g hg => by
    rw [Below.heap_alloc _ _ _ (by simp [World.setCell]; exact h2.own.lt g hg)]
    exact Below.heap_setCell _ _ _ _ (by intro e; have := h2.kl g hg; rw [e, hkp2] at this; cases this))
  have HE2 := Lib.hid hE2
  have HF2 := Lib.hid hF2
  have HWW := Lib.hid hW2
  clear h1 h2 hhead hcf hfn hE2 hF2 hW2 hWd1
  go_wp2_with (at_builtin; refine wpList_append_row rfl _ _ 22 rfl 2 j0 (.int .i64 0) 1 8 Try.underlying22 hj hy0 hy1 hy2 rfl (by decide) _ T.log.length (intVs T.log) rfl HO2.out (some ⟨w2.heap.size, 0, none⟩) 1 1 [.int .i64 (f σ).1] rfl ?c1 ?c4 ?c2 ?c3 ?_)
  case c1 => exact ⟨rfl, .inr ⟨_, rfl, fun j u hu => by
    have hh := Laws.heap_new (w2.setCell ⟨pth, 4, none⟩ (.bool true)) (.cells #[.int .i64 (f σ).1] 2)
    rw [show (w2.setCell ⟨pth, 4, none⟩ (.bool true)).heap.size = w2.heap.size by simp [World.setCell]] at hh
    rw [Addr.add_lit, cell_of_heap hh]; simpa using hu⟩⟩
  case c4 => intro u hu; simp only [List.mem_cons, List.not_mem_nil, or_false] at hu; subst hu; rfl
  case c2 => simp only [maxLen]; omega
  case c3 => omega
  intro v' w5 hapd
  have h2 := H2.out
  have hvp : blk (Value.slice a T.log.length cap) ≠ some pth := fun e => by have := h2.kl pth e; rw [hkp2] at this; cases this
  have hp5 := ((hapd.block pth (by simp [World.setCell]; omega) hvp).trans (Below.heap_alloc _ _ _ (by simpa [World.setCell] using hpl2))).trans (heap_setCell_at (i := 4) h2.hp (.bool true))
  have c1 : w5.cell? ⟨pth, 1, none⟩ = some (Value.slice a T.log.length cap) := by rw [cell_of_heap hp5]; rfl
  have c2 : w5.cell? ⟨pth, 2, none⟩ = some (.int .i64 (T.pos : Int)) := by rw [cell_of_heap hp5]; rfl
  have z1 : w5.frozen? ⟨pth, 1, none⟩ = false := frozen_of_heap hp5
  have z2 : w5.frozen? ⟨pth, 2, none⟩ = false := frozen_of_heap hp5
  have hw1 : wrap64 ((T.pos : Int) + 1) = (T.pos : Int) + 1 := by unfold wrap64; omega
  obtain ⟨al', capl', rfl, _⟩ := hapd.own.2
  have HA := Lib.hid hapd
  have HP5 := Lib.hid hp5
  clear hapd hp5 h2 hvp
  go_wp2
  go_ret
  have hapd := HA.out
  have h2 := H2.out
  have hvt : ∀ b, blk (Value.slice a T.log.length cap) = some b → (κ2 b).thrd j = true := fun b hb => by simp [h2.kl b hb, K.thrd]
  have hold : ∀ b, b < w2.heap.size → (κ2 b).thrd j = false → w5.heap[b]? = w2.heap[b]? := fun b hb hk =>
    (hapd.block b (by simp [World.setCell]; omega) (fun e => by rw [hvt b e] at hk; cases hk)).trans ((Below.heap_alloc _ _ _ (by simpa [World.setCell] using hb)).trans (Below.heap_setCell _ _ _ _ (by intro e; rw [e, hkp2] at hk; simp [K.thrd] at hk)))
  have hsz5 : w2.heap.size < w5.heap.size := by have := hapd.size; simp [World.setCell] at this; omega
  obtain ⟨κ', hE', hS', hk'⟩ := hapd.kind (hS2.mono (by simp [World.setCell])) (.log j) (fun g hg => h2.kl g hg)
  have hEE : Ext κ2 κ' w2 := fun b hb => hE' b (by simp [World.setCell]; omega)
  have hkp' : κ' pth = .thr j := (hEE pth hpl2).trans hkp2
  generalize hWf : (w5.setCell ⟨pth, 1, none⟩ (Value.slice al' (T.log.length + 1) capl')).setCell ⟨pth, 2, none⟩ _ = wf
  have hfo : ∀ b, b ≠ pth → wf.heap[b]? = w5.heap[b]? := fun b hb => by rw [← hWf, Below.heap_setCell _ _ _ _ hb, Below.heap_setCell _ _ _ _ hb]
  have hfs : wf.heap.size = w5.heap.size := by rw [← hWf]; simp [World.setCell]
  have hff : ∀ b, b < w2.heap.size → (κ2 b).thrd j = false → wf.heap[b]? = w2.heap[b]? := fun b hb hk => (hfo b (by intro e; rw [e, hkp2] at hk; simp [K.thrd] at hk)).trans (hold b hb hk)
  refine ⟨rfl, κ', HWW.out.keep (fun b hb hk => hff b hb ?_) (by omega) hEE, ⟨_, hkp', ?_, ?_, hk'⟩, ?_, ?_, hS'.mono (by omega)⟩
  · cases e : (κ2 b).thrd j with
    | false => rfl
    | true => have := K.thrd_apart (wi := wi) e; rcases hk with hk | hk <;> simp_all
  · rw [← hWf, heap_setCell_at (heap_setCell_at HP5.out _)]
    have e1 : wrap64 ((T.log.length : Int) + 1) = ((T.log.length + 1 : Nat) : Int) := by unfold wrap64; omega
    simp [TS.more, e1, hge]
  · have := hapd.own.move (w' := wf) fun g hg => hfo g (by intro e; have := hk' g hg; rw [e, hkp'] at this; cases this)
    simpa [TS.more, intVs] using this
  · have f2 : Fr κ (K.step wi j) w w2 := ((show Fr κ (K.step wi j) w w1 from H1.out |> fun _ => HF1.out.mono (fun k hk => by simp [K.step, hk])).trans0 (HF2.out.mono (fun k hk => by simp [K.step, hk])))
    exact ⟨by rw [← hWf]; exact hapd.os.trans f2.os, by rw [← hWf]; exact hapd.tape.trans f2.tape, by rw [← hWf]; exact hapd.output.trans f2.output, by have := f2.size; omega, fun b hb hSb => (hff b (by have := f2.size; omega) (by
      rw [HE2.out b (by omega)]
      simp only [K.step, Bool.or_eq_false_iff] at hSb
      exact hSb.2)).trans (f2.block b hb hSb)⟩
  · exact fun b hb => (hEE b (by have := HF2.out.size; omega)).trans (HE2.out b (by omega))

/-- One touch, whatever the thread has told. -/
theorem do_okM (h : St κ w wi p j pth work T σ) (k : Nat) (caps : Array Value) (f : ShS → Int × ShS) (hent : Enters Try.prog k) (ht : Touch κ w wi p j σ k caps (fun x => .int .i64 x.1) f) :
    Calls Try.prog 122 #[.pointer (some ⟨pth, 0, none⟩), .func (.func k) caps #[]] w (TPost κ w wi p j pth work ((Pr.one f).exec T σ) isInt) := by
  obtain ⟨logv, hth⟩ := h.th
  simp only [Pr.one, Pr.exec]
  cases hn : T.log[T.pos]? with
  | some n =>
    refine (do_toldM hth k caps hn (by have := h.ok.2; split at this <;> omega)).mono ?_
    rintro e w' ⟨rfl, h1, h2, h3⟩
    have hlt := (List.getElem?_eq_some_iff.1 hn).1
    refine ⟨κ, _, rfl, rfl, ⟨h.wd.fr h2 (fun q hq => ?_) (Ext.refl _ _), ⟨logv, h1⟩, by simp only [TS.told]; exact ⟨by omega, h.ok.2⟩, h.sup.mono (by omega)⟩, h2.mono (fun q hq => by simp [K.step, hq]), Ext.refl _ _⟩
    cases e : q.thrd j with
    | false => rfl
    | true => have := K.thrd_apart (wi := wi) e; rcases hq with hq | hq <;> simp_all
  | none =>
    by_cases hs : T.spent = true
    · simp only [hs, if_true]
      refine (do_spentM hth k caps hn hs h.ok.1).mono ?_
      rintro e w' ⟨rfl, rfl⟩
      exact ⟨κ, rfl, ⟨h.wd.below (Below.refl _ _).drew (Ext.refl _ _), ⟨logv, hth.keep (fun b _ _ => rfl) (Ext.refl _ _)⟩, h.ok, h.sup⟩, Fr.drew, Ext.refl _ _⟩
    · simp only [hs, if_false]
      refine (do_touchM hth h.wd h.sup k caps f hent ht hn (by simpa using hs) h.ok.1 (by have := h.ok.2; simp [hs] at this; omega)).mono ?_
      rintro e w' ⟨κ', rfl, h1, h2, h3, h4, h5⟩
      have hge := List.getElem?_eq_none_iff.1 hn
      exact ⟨κ', _, rfl, rfl, ⟨h1, h2, by have := h.ok; simp [hs] at this; simp only [TS.more, List.length_append, List.length_cons, List.length_nil, if_true]; exact ⟨by omega, by omega⟩, h5⟩, h3, h4⟩
end
end Go.Proofs.Ytacmeafpieoaaaa
