/- boscagelaw10.Change, its closure, Came. -/
import Derived.Test.YtacmeafpieoaaaaFi
namespace Go.Proofs.Ytacmeafpieoaaaa
open Go.RowKit

/-- All that a program may come to is so. -/
def Pr.outs {α : Type} (P : α → Prop) : Pr α → Prop
  | .ret a => P a
  | .touch _ k => ∀ n, (k n).outs P
  | .look _ k => ∀ x, (k x).outs P
  | .see _ k => ∀ x, (k x).outs P
theorem Pr.outs_bind {α β : Type} {P : β → Prop} {q : α → Pr β} (hq : ∀ a, (q a).outs P) : ∀ p : Pr α, (p.bind q).outs P := by
  intro p
  induction p with
  | ret a => exact hq a
  | touch f k ih => exact fun n => ih n
  | look r k ih => exact fun n => ih n
  | see n k ih => exact fun n => ih n
theorem Pr.outs_exec {α : Type} {P : α → Prop} : ∀ (p : Pr α), p.outs P → ∀ {T : TS} {σ : ShS} {a : α} {T' : TS} {σ' : ShS}, p.exec T σ = .out a T' σ' → P a := by
  intro p
  induction p with
  | ret b => intro h T σ a T' σ' he; simp only [Pr.exec, Res.out.injEq] at he; rw [← he.1]; exact h
  | touch f k ih =>
    intro h T σ a T' σ' he
    simp only [Pr.exec] at he
    split at he
    · exact ih _ (h _) he
    · split at he
      · cases he
      · exact ih _ (h _) he
  | look r k ih => exact fun h T σ a T' σ' he => ih _ (h _) he
  | see n k ih => exact fun h T σ a T' σ' he => ih _ (h _) he
theorem loads_len : ∀ (l : List Int) (acc : List SnapS), (loadsP l acc).outs fun o => ∀ s, o = some s → s.length = acc.length + l.length
  | [], acc => fun s hs => by simp only [Option.some.injEq] at hs; rw [← hs]; rfl
  | r :: rest, acc => Pr.outs_bind (fun x => by
      split
      · have h := loads_len rest (acc ++ [x.1])
        simp only [List.length_append, List.length_singleton, List.length_cons, List.length_nil, Nat.zero_add] at h ⊢
        have e : acc.length + 1 + rest.length = acc.length + (rest.length + 1) := by omega
        rw [e] at h
        exact h
      · exact fun s hs => by cases hs) (loadP r)

def change2 (x : Bool × Bool) : List Int := [if x.2 = true then 2 else if x.1 = true then 1 else 0]
def change1 (keep way old now : Int) (o : Option (List SnapS)) : Pr (List Int) := match o with
  | none => .ret [-1]
  | some s => (storeP s keep way old now).bind fun x => .ret (change2 x)
def changeP (l : List Int) (keep way old now : Int) : Pr (List Int) := (loadsP l []).bind (change1 keep way old now)
theorem tl_changeP (l : List Int) (keep way old now : Int) : TameL (changeP l keep way old now) := (tl_loadsP l []).bind fun o => by
  unfold change1
  split
  · exact .ret _
  · exact (tl_storeP _ _ _ _ _).bind fun _ => .ret _

theorem enters141 : Enters Try.prog 141 := enters_of Try.func141 (by kernel_rfl) rfl

section
variable {κ κ' : Nat → K} {w w' : World} {wi j pth : Nat} {p : WdP} {σ : ShS} {T : TS} {me : Int} {work : Value}

/-- What a change has caught. -/
structure ChBox (κ : Nat → K) (w : World) (bl bk bw bo bn : Nat) (vl : Value) (keep way old now : Int) : Prop where
  l : BoxAt κ w bl #[vl] 56
  k : BoxAt κ w bk #[.int .i64 keep] 3
  y : BoxAt κ w bw #[.int .i64 way] 3
  o : BoxAt κ w bo #[.int .i64 old] 41
  n : BoxAt κ w bn #[.int .i64 now] 41
theorem ChBox.keep {bl bk bw bo bn : Nat} {vl : Value} {kp way old now : Int} {S : K → Bool} (h : ChBox κ w bl bk bw bo bn vl kp way old now) (hf : Fr κ S w w') (he : Ext κ κ' w) (hS : S .none = false) : ChBox κ' w' bl bk bw bo bn vl kp way old now :=
  ⟨h.l.keep hf he hS, h.k.keep hf he hS, h.y.keep hf he hS, h.o.keep hf he hS, h.n.keep hf he hS⟩

set_option maxRecDepth 100000 in
set_option maxHeartbeats 1000000 in
theorem change_task {bl bk bw bo bn : Nat} {l : List Int} {a0 : Option Addr} {c0 : Nat} {keep way old now : Int} (hb : ChBox κ w bl bk bw bo bn (.slice a0 l.length c0) keep way old now) (hr : Row κ .imm w 1 (.slice a0 l.length c0) l.length (intVs l)) (hll : l.length ≤ 1000) (hkeep : 0 ≤ keep) (j pth : Nat) :
    TaskOk κ w wi p j pth me 141 #[.pointer (some ⟨bl, 0, none⟩), .pointer (some ⟨bk, 0, none⟩), .pointer (some ⟨bw, 0, none⟩), .pointer (some ⟨bo, 0, none⟩), .pointer (some ⟨bn, 0, none⟩)] (changeP l keep way old now) := by
  intro κ1 w1 work T σ hf he hst
  have HB1 := Lib.hid (hb.keep hf he rfl)
  have HR1 := Lib.hid (hr.keep (fun b hb hk => hf.block b hb (by rw [hk]; rfl)) hf.size he)
  have HST := Lib.hid hst
  have k0 : w1.cell? ⟨bl, 0, none⟩ = some (.slice a0 l.length c0) := cellAt HB1.out.l.hb 0 rfl
  have hnl := lt_of_heap HB1.out.l.hb
  have hS := hst.sup
  clear hst hf he hb hr
  generalize hwhole : (changeP l keep way old now).exec T σ = whole
  have HW := Lib.hid (show whole = ((loadsP l []).bind (change1 keep way old now)).exec T σ from hwhole.symm)
  clear hwhole
  go_enter Try.func141, Try.ntmps141
  go_wp2_with fail
  generalize hw0 : w1.alloc (.cells #[.pointer (some ⟨pth, 0, none⟩), .pointer (some ⟨p.pw, 0, none⟩), .int .i64 me] 85) = w0
  have hB0 : Below w1.heap.size w1 w0 := hw0 ▸ (Below.refl _ _).alloc (Nat.le_refl _) _
  have HT := Lib.hid (show BoxAt κ1 w0 w1.heap.size (taskCs pth p me) 85 from hw0 ▸ BoxAt.new hS _ _)
  have HF0 := Lib.hid (show Fr κ1 (K.step wi j) w1 w0 from Fr.below hB0)
  have HB := Lib.hid (HB1.out.keep HF0.out (Ext.refl _ _) rfl)
  replace HST := Lib.hid (HST.out.below hB0)
  have HR := Lib.hid (HR1.out.keep (w' := w0) (fun b hb _ => hB0.block b hb) hB0.size (Ext.refl _ _))
  clear hw0 hB0 k0 hS
  generalize htb : w1.heap.size = tb at HT ⊢
  clear htb
  refine (loads_ok (me := me) HST.out l hll a0 c0 HR.out).mono ?_
  rintro e w5 hh
  rcases hh.elim with ⟨T2, σ2, κ2, hr2, rfl, hst2, hf2, he2⟩ | ⟨o, T2, σ2, κ2, v, hr2, rfl, hv, hst2, hf2, he2⟩
  · refine ⟨rfl, ?_⟩
    rw [HW.out, Pr.exec_bind, hr2]
    exact ⟨κ2, rfl, hst2, HF0.out.trans0 hf2, (Ext.refl _ _).trans he2 HF0.out.size⟩
  replace HW := Lib.hid (show whole = (change1 keep way old now o).exec T2 σ2 by rw [HW.out, Pr.exec_bind, hr2]; rfl)
  have HLN := Lib.hid (Pr.outs_exec _ (loads_len l []) hr2)
  have HF := Lib.hid (HF0.out.trans0 hf2)
  have HE := Lib.hid ((Ext.refl κ1 w1).trans he2 HF0.out.size)
  replace HST := Lib.hid hst2
  replace HB := Lib.hid (HB.out.keep hf2 he2 rfl)
  replace HT := Lib.hid (HT.out.keep hf2 he2 rfl)
  clear hh hr2 hst2 hf2 he2 HF0 HR HR1 HB1
  cases o with
  | none =>
    replace hv : v = .tuple #[.slice none 0 0, .bool false] := hv
    subst hv
    have HWH := Lib.hid (show whole = .out [-1] T2 σ2 from HW.out)
    go_wp2
    go_ret
    rw [HWH.out]
    obtain ⟨g1, g2, g3⟩ := HST.out.give #[Value.int .i64 (-1)] 2
    exact ⟨_, _, rfl, Row.newImm (Laws.heap_new _ _) (upd_at _ _ _) 1 _ rfl 1 rfl, g1, HF.out.trans g3 HE.out, HE.out.trans g2 HF.out.size⟩
  | some s =>
    obtain ⟨vs, cs, rfl, hrow, hsc⟩ := hv
    have hsl : s.length = l.length := by have := HLN.out s rfl; simpa using this
    obtain ⟨as', cp, rfl, _, _⟩ := hrow.shape
    have HRS := Lib.hid hrow
    have HSC := Lib.hid hsc
    clear hrow hsc
    have t0 : w5.cell? ⟨tb, 0, none⟩ = some (.pointer (some ⟨pth, 0, none⟩)) := cellAt HT.out.hb 0 rfl
    have t1 : w5.cell? ⟨tb, 1, none⟩ = some (.pointer (some ⟨p.pw, 0, none⟩)) := cellAt HT.out.hb 1 rfl
    have t2 : w5.cell? ⟨tb, 2, none⟩ = some (.int .i64 me) := cellAt HT.out.hb 2 rfl
    have k1 : w5.cell? ⟨bk, 0, none⟩ = some (.int .i64 keep) := cellAt HB.out.k.hb 0 rfl
    have k2 : w5.cell? ⟨bw, 0, none⟩ = some (.int .i64 way) := cellAt HB.out.y.hb 0 rfl
    have k3 : w5.cell? ⟨bo, 0, none⟩ = some (.int .i64 old) := cellAt HB.out.o.hb 0 rfl
    have k4 : w5.cell? ⟨bn, 0, none⟩ = some (.int .i64 now) := cellAt HB.out.n.hb 0 rfl
    replace HSL := Lib.hid hsl
    clear hsl
    go_wp2_with fail
    clear t0 t1 t2 k1 k2 k3 k4
    refine (store_ok (me := me) HST.out s (by have := HSL.out; omega) as' cp cs HRS.out HSC.out keep way old now hkeep).mono ?_
    rintro e w6 hh
    rcases hh.elim with ⟨T3, σ3, κ3, hr3, rfl, hst3, hf3, he3⟩ | ⟨x, T3, σ3, κ3, v, hr3, rfl, hv, hst3, hf3, he3⟩
    · refine ⟨rfl, ?_⟩
      rw [HW.out, change1, Pr.exec_bind, hr3]
      exact ⟨κ3, rfl, hst3, HF.out.trans hf3 HE.out, HE.out.trans he3 HF.out.size⟩
    obtain ⟨done, none_⟩ := x
    replace hv : v = .tuple #[.bool done, .bool none_] := hv
    subst hv
    have HWH := Lib.hid (show whole = .out (change2 (done, none_)) T3 σ3 by rw [HW.out, change1, Pr.exec_bind, hr3]; rfl)
    have HE' := Lib.hid (HE.out.trans he3 HF.out.size)
    replace HF := Lib.hid (HF.out.trans hf3 HE.out)
    clear HE
    have HE := HE'
    clear HE'
    replace HST := Lib.hid hst3
    clear hh hr3 hst3 hf3 he3 HW HT HB
    cases none_ with
    | true =>
      go_wp2
      go_ret
      rw [HWH.out]
      obtain ⟨g1, g2, g3⟩ := HST.out.give #[Value.int .i64 2] 2
      exact ⟨_, _, rfl, Row.newImm (Laws.heap_new _ _) (upd_at _ _ _) 1 _ rfl 1 rfl, g1, HF.out.trans g3 HE.out, HE.out.trans g2 HF.out.size⟩
    | false =>
      cases done with
      | true =>
        go_wp2
        go_ret
        rw [HWH.out]
        obtain ⟨g1, g2, g3⟩ := HST.out.give #[Value.int .i64 1] 2
        exact ⟨_, _, rfl, Row.newImm (Laws.heap_new _ _) (upd_at _ _ _) 1 _ rfl 1 rfl, g1, HF.out.trans g3 HE.out, HE.out.trans g2 HF.out.size⟩
      | false =>
        go_wp2
        go_ret
        rw [HWH.out]
        obtain ⟨g1, g2, g3⟩ := HST.out.give #[Value.int .i64 0] 2
        exact ⟨_, _, rfl, Row.newImm (Laws.heap_new _ _) (upd_at _ _ _) 1 _ rfl 1 rfl, g1, HF.out.trans g3 HE.out, HE.out.trans g2 HF.out.size⟩

set_option maxRecDepth 100000 in
theorem change_ok (hS : Sup κ w) (j : Nat) (p : WdP) (me : Int) (l : List Int) (a0 : Option Addr) (c0 : Nat) (hr : Row κ .imm w 1 (.slice a0 l.length c0) l.length (intVs l)) (hll : l.length ≤ 1000) (keep way old now : Int) (hkeep : 0 ≤ keep) :
    Calls Try.prog 88 #[.pointer (some ⟨p.pw, 0, none⟩), .int .i64 me, .slice a0 l.length c0, .int .i64 keep, .int .i64 way, .int .i64 old, .int .i64 now] w fun e w' => ∃ κ' pth caps1, e = .returned (.pointer (some ⟨pth, 0, none⟩)) ∧ ThRep κ' w' j pth (.func (.func 121) #[] caps1) ⟨[], none⟩ ∧
      WorkOk κ' w' wi p j pth 121 caps1 (changeP l keep way old now) ∧ Below w.heap.size w w' ∧ Ext κ κ' w ∧ Sup κ' w' := by
  have hmf : ∀ (fn : Fn) (first cap : Array Value) (w : World), (Instr.makeFunc fn first cap).run Try.prog w = .ok (.func fn first cap) w := fun _ _ _ _ => rfl
  have HR := Lib.hid hr
  clear hr
  go_enter Try.func88, Try.ntmps88
  go_wp2_with fail
  generalize hw1 : w.alloc (.cells #[.slice a0 l.length c0] 56) = w1
  have hB1 : Below w.heap.size w w1 := hw1 ▸ (Below.refl _ _).alloc (Nat.le_refl _) _
  have b1 : BoxAt κ w1 w.heap.size #[.slice a0 l.length c0] 56 := hw1 ▸ BoxAt.new hS _ _
  have s1 : w1.heap.size = w.heap.size + 1 := by rw [← hw1]; simp
  have S1 := hS.mono hB1.size
  generalize hw2 : w1.alloc (.cells #[.int .i64 keep] 3) = w2
  have hB2 : Below w1.heap.size w1 w2 := hw2 ▸ (Below.refl _ _).alloc (Nat.le_refl _) _
  have b2 : BoxAt κ w2 w1.heap.size #[.int .i64 keep] 3 := hw2 ▸ BoxAt.new S1 _ _
  have s2 : w2.heap.size = w1.heap.size + 1 := by rw [← hw2]; simp
  have S2 := S1.mono hB2.size
  generalize hw3 : w2.alloc (.cells #[.int .i64 way] 3) = w3
  have hB3 : Below w2.heap.size w2 w3 := hw3 ▸ (Below.refl _ _).alloc (Nat.le_refl _) _
  have b3 : BoxAt κ w3 w2.heap.size #[.int .i64 way] 3 := hw3 ▸ BoxAt.new S2 _ _
  have s3 : w3.heap.size = w2.heap.size + 1 := by rw [← hw3]; simp
  have S3 := S2.mono hB3.size
  generalize hw4 : w3.alloc (.cells #[.int .i64 old] 41) = w4
  have hB4 : Below w3.heap.size w3 w4 := hw4 ▸ (Below.refl _ _).alloc (Nat.le_refl _) _
  have b4 : BoxAt κ w4 w3.heap.size #[.int .i64 old] 41 := hw4 ▸ BoxAt.new S3 _ _
  have s4 : w4.heap.size = w3.heap.size + 1 := by rw [← hw4]; simp
  have S4 := S3.mono hB4.size
  generalize hw5 : w4.alloc (.cells #[.int .i64 now] 41) = w5
  have hB5 : Below w4.heap.size w4 w5 := hw5 ▸ (Below.refl _ _).alloc (Nat.le_refl _) _
  have b5 : BoxAt κ w5 w4.heap.size #[.int .i64 now] 41 := hw5 ▸ BoxAt.new S4 _ _
  have S5 := S4.mono hB5.size
  have hB : Below w.heap.size w w5 := (((hB1.trans (hB2.mono (by omega))).trans (hB3.mono (by omega))).trans (hB4.mono (by omega))).trans (hB5.mono (by omega))
  have HCB : ChBox κ w5 w.heap.size (w.heap.size + 1) (w.heap.size + 1 + 1) (w.heap.size + 1 + 1 + 1) (w.heap.size + 1 + 1 + 1 + 1) (.slice a0 l.length c0) keep way old now :=
    ⟨((((b1.below hB2).below hB3).below hB4).below hB5), s1 ▸ (((b2.below hB3).below hB4).below hB5), s1 ▸ s2 ▸ ((b3.below hB4).below hB5), s1 ▸ s2 ▸ s3 ▸ (b4.below hB5), s1 ▸ s2 ▸ s3 ▸ s4 ▸ b5⟩
  have HRr := HR.out.keep (w' := w5) (fun b hb _ => hB.block b hb) hB.size (Ext.refl _ _)
  clear hw1 hw2 hw3 hw4 hw5 hB1 hB2 hB3 hB4 hB5 b1 b2 b3 b4 b5 S1 S2 S3 S4 HR
  refine (start_ok (wi := wi) S5 j p me 141 _ (changeP l keep way old now) enters141 (fun pth => change_task HCB HRr hll hkeep j pth)).mono ?_
  rintro e wz ⟨κ3, pth, caps1, rfl, h1, h2, h3, h4, h5⟩
  have H1 := Lib.hid h1
  have H2 := Lib.hid h2
  clear h1 h2
  go_wp2
  go_ret
  exact ⟨κ3, pth, caps1, rfl, H1.out, H2.out, hB.trans (h3.mono hB.size), (Ext.refl κ w).trans h4 hB.size, h5⟩

def came (l : List Int) : Int := match l with
  | [x] => x
  | _ => -9
set_option maxRecDepth 100000 in
theorem came_ok {t : Th} (h : ThRep κ w j pth work t) {l : List Int} (hr : t.res = some l) (hl : l.length ≤ 100000) : Calls Try.prog 89 #[.pointer (some ⟨pth, 0, none⟩)] w fun e w' => e = .returned (.int .i64 (came l)) ∧ Below w.heap.size w w' := by
  go_enter Try.func89, Try.ntmps89
  go_wp2_with fail
  refine (tout_ok h hr hl).mono ?_
  rintro e w1 ⟨a, c, rfl, hF⟩
  have HB := Lib.hid hF.below
  by_cases h1 : l.length = 1
  · obtain ⟨x, rfl⟩ : ∃ x, l = [x] := by
      match l, h1 with
      | [x], _ => exact ⟨x, rfl⟩
    obtain ⟨g, o, cap, hv, hle, hb, hlt, hcx, hz⟩ := hF.own.at (by simp) (by decide)
    simp only [Value.slice.injEq] at hv
    obtain ⟨rfl, _, rfl⟩ := hv
    have hx : w1.cell? ⟨g, o, none⟩ = some (.int .i64 x) := hcx 0 _ rfl
    clear hcx hz hF h1 hr
    simp only [List.length_singleton]
    go_wp2
    go_ret
    exact ⟨rfl, HB.out⟩
  · have h1' : ((l.length : Int) == 1) = false := by simp; omega
    have H1 := Lib.hid h1
    clear hr hF h1
    go_wp2
    go_ret
    refine ⟨?_, HB.out⟩
    match l, H1.out with
    | [], _ => rfl
    | [x], h => exact absurd rfl h
    | _ :: _ :: _, _ => rfl
end
end Go.Proofs.Ytacmeafpieoaaaa
