/- llx.Load. -/
import Derived.Test.YtacmeafpieoaaaaLx
import Derived.Test.YtacmeafpieoaaaaHp
import Derived.Test.YtacmeafpieoaaaaNe
namespace Go.Proofs.Ytacmeafpieoaaaa
open Go.RowKit

structure SnapS where
  ref : Int
  info : Int
  node : NodeS
  ways : List Int
def SnapS.zero : SnapS := ⟨0, 0, NodeS.zero, []⟩
/-- A snap as a value. -/
def SnapV (κ : Nat → K) (w : World) (v : Value) (s : SnapS) : Prop :=
  ∃ vp vk vn vy, v = .agg #[.int .i64 s.ref, .int .i64 s.info, .bool s.node.inner, .bool s.node.tagged, vp, vk, vn, vy] ∧ Row κ .imm w 2 vp s.node.pairs.length (pairVs s.node.pairs) ∧ Row κ .imm w 1 vk s.node.keys.length (intVs s.node.keys) ∧ Row κ .imm w 1 vn s.node.ways.length (intVs s.node.ways) ∧ Row κ .imm w 1 vy s.ways.length (intVs s.ways) ∧ s.ways.length ≤ 1048576
def isSnap : SnapS × Int → (Nat → K) → World → Value → Prop := fun x κ w v => ∃ vs, v = .tuple #[vs, .int .u8 x.2] ∧ SnapV κ w vs x.1

def load10 (m st : Int) : Pr (SnapS × Int) := if st = 1 then (recP m).bind fun _ => .ret (SnapS.zero, 1) else .ret (SnapS.zero, 1)
def load9 (m : Int) : Pr (SnapS × Int) := (stateP m).bind (load10 m)
def load8 (r : Int) : Pr (SnapS × Int) := (Pr.one (tInfo r)).bind load9
def load7c (r : Int) (first d : Bool) : Pr (SnapS × Int) := if d = true ∧ first = true then .ret (SnapS.zero, 2) else load8 r
def load7b (r n : Int) (first : Bool) (now : Int) : Pr (SnapS × Int) := if now = 2 then load7c r first true else if now = 1 then (recP n).bind (load7c r first) else load7c r first false
def load7 (r n : Int) (first : Bool) : Pr (SnapS × Int) := (stateP n).bind (load7b r n first)
def load6c (r n : Int) (first : Bool) (nd : NodeS) (ws : List Int) (m : Int) : Pr (SnapS × Int) := if m = n then .ret (⟨r, n, nd, ws⟩, 0) else load7 r n first
def load6b (r n : Int) (first : Bool) (nd : NodeS) (ws : List Int) : Pr (SnapS × Int) := (Pr.one (tInfo r)).bind (load6c r n first nd ws)
def waysP (r : Int) (acc : List Int) : Nat → Pr (List Int)
  | 0 => .ret acc
  | m + 1 => (Pr.one (tWay r acc.length)).bind fun x => waysP r (acc ++ [x]) m
def load6 (r n : Int) (first : Bool) : Pr (SnapS × Int) := .look r fun nd => (waysP r [] nd.ways.length).bind (load6b r n first nd)
def load5 (r n : Int) (first : Bool) (was : Int) (second : Bool) : Pr (SnapS × Int) := if was = 0 ∨ (was = 2 ∧ second = false) then load6 r n first else load7 r n first
def load4 (r n : Int) (first : Bool) (was : Int) : Pr (SnapS × Int) := (Pr.ask (tMark r)).bind (load5 r n first was)
def load3 (r : Int) (first : Bool) (n : Int) : Pr (SnapS × Int) := (stateP n).bind (load4 r n first)
def load2 (r : Int) (first : Bool) : Pr (SnapS × Int) := (Pr.one (tInfo r)).bind (load3 r first)
def loadP (r : Int) : Pr (SnapS × Int) := (Pr.ask (tMark r)).bind (load2 r)

def Z8 : Array Value := #[.int .i64 0, .int .i64 0, .bool false, .bool false, .slice none 0 0, .slice none 0 0, .slice none 0 0, .slice none 0 0]

section
variable {κ κ' : Nat → K} {w w' : World} {wi j pth : Nat} {p : WdP} {σ : ShS} {T : TS} {me : Int} {work : Value}

/-- What Load has at hand between its touches. -/
structure LdCtx (κ0 : Nat → K) (w0 : World) (wi : Nat) (p : WdP) (j pth : Nat) (me r : Int) (tb rb zb : Nat) (κ1 : Nat → K) (w1 : World) : Prop where
  b0 : BoxAt κ1 w1 tb (taskCs pth p me) 85
  b1 : BoxAt κ1 w1 rb #[.int .i64 r] 41
  b2 : BoxAt κ1 w1 zb Z8 138
  fr : Fr κ0 (K.step wi j) w0 w1
  ex : Ext κ0 κ1 w0
theorem LdCtx.later {κ0 κ1 κ2 : Nat → K} {w0 w1 w2 : World} {r : Int} {tb rb zb : Nat} (h : LdCtx κ0 w0 wi p j pth me r tb rb zb κ1 w1) (hf : Fr κ1 (K.step wi j) w1 w2) (he : Ext κ1 κ2 w1) : LdCtx κ0 w0 wi p j pth me r tb rb zb κ2 w2 :=
  ⟨h.b0.keep hf he rfl, h.b1.keep hf he rfl, h.b2.keep hf he rfl, h.fr.trans hf h.ex, h.ex.trans he h.fr.size⟩

/-- A snap in a box of the call's own. -/
structure SnapBox (κ : Nat → K) (w : World) (sb : Nat) (r n : Int) (nd : NodeS) (vp vk vn vy : Value) : Prop where
  box : BoxAt κ w sb #[.int .i64 r, .int .i64 n, .bool nd.inner, .bool nd.tagged, vp, vk, vn, vy] 138
  rp : Row κ .imm w 2 vp nd.pairs.length (pairVs nd.pairs)
  rk : Row κ .imm w 1 vk nd.keys.length (intVs nd.keys)
  rn : Row κ .imm w 1 vn nd.ways.length (intVs nd.ways)
theorem SnapBox.mk' {sb : Nat} {r n : Int} {nd : NodeS} {vp vk vn vy : Value} (h : BoxAt κ w sb #[.int .i64 r, .int .i64 n, .bool nd.inner, .bool nd.tagged, vp, vk, vn, vy] 138) (rp : Row κ .imm w 2 vp nd.pairs.length (pairVs nd.pairs)) (rk : Row κ .imm w 1 vk nd.keys.length (intVs nd.keys)) (rn : Row κ .imm w 1 vn nd.ways.length (intVs nd.ways)) : SnapBox κ w sb r n nd vp vk vn vy := ⟨h, rp, rk, rn⟩
theorem SnapBox.keep {sb : Nat} {r n : Int} {nd : NodeS} {vp vk vn vy : Value} {S : K → Bool} (h : SnapBox κ w sb r n nd vp vk vn vy) (hf : Fr κ S w w') (he : Ext κ κ' w) (h1 : S .none = false) (h2 : S .imm = false) : SnapBox κ' w' sb r n nd vp vk vn vy :=
  ⟨h.box.keep hf he h1, h.rp.keep (fun b hb hk => hf.block b hb (by rw [hk]; exact h2)) hf.size he, h.rk.keep (fun b hb hk => hf.block b hb (by rw [hk]; exact h2)) hf.size he, h.rn.keep (fun b hb hk => hf.block b hb (by rw [hk]; exact h2)) hf.size he⟩
theorem setCell_os (w : World) (a : Addr) (v : Value) : (w.setCell a v).os = w.os := rfl
theorem setCell_tape (w : World) (a : Addr) (v : Value) : (w.setCell a v).tape = w.tape := rfl
theorem setCell_output (w : World) (a : Addr) (v : Value) : (w.setCell a v).output = w.output := rfl
theorem setCell_size (w : World) (a : Addr) (v : Value) : (w.setCell a v).heap.size = w.heap.size := by simp [World.setCell]
theorem eight_sets {b : Nat} {z0 z1 z2 z3 z4 z5 z6 z7 : Value} {t : TypeId} {wf : World} (h : BoxAt κ w b #[z0, z1, z2, z3, z4, z5, z6, z7] t) {u0 u1 u2 u3 u4 u5 u6 u7 : Value}
    (hwf : ((((((((w.setCell ⟨b, 0, none⟩ u0).setCell ⟨b, 1, none⟩ u1).setCell ⟨b, 2, none⟩ u2).setCell ⟨b, 3, none⟩ u3).setCell ⟨b, 4, none⟩ u4).setCell ⟨b, 5, none⟩ u5).setCell ⟨b, 6, none⟩ u6).setCell ⟨b, 7, none⟩ u7) = wf) :
    BoxAt κ wf b #[u0, u1, u2, u3, u4, u5, u6, u7] t ∧ (∀ c, c ≠ b → wf.heap[c]? = w.heap[c]?) ∧ wf.heap.size = w.heap.size ∧ wf.os = w.os ∧ wf.tape = w.tape ∧ wf.output = w.output := by
  subst hwf
  refine ⟨⟨?_, h.kb⟩, fun c hc => by repeat rw [Below.heap_setCell _ _ _ _ hc], by repeat rw [setCell_size], by repeat rw [setCell_os], by repeat rw [setCell_tape], by repeat rw [setCell_output]⟩
  have e := heap_setCell_at (i := 7) (heap_setCell_at (i := 6) (heap_setCell_at (i := 5) (heap_setCell_at (i := 4) (heap_setCell_at (i := 3) (heap_setCell_at (i := 2) (heap_setCell_at (i := 1) (heap_setCell_at (i := 0) h.hb u0) u1) u2) u3) u4) u5) u6) u7
  simp only [List.setIfInBounds_toArray, List.set_cons_zero, List.set_cons_succ] at e
  exact e
theorem LdCtx.boxed {κ0 κ1 : Nat → K} {w0 w1 w2 : World} {r : Int} {tb rb zb b : Nat} (h : LdCtx κ0 w0 wi p j pth me r tb rb zb κ1 w1) (hk : κ1 b = .none) (ho : ∀ c, c ≠ b → w2.heap[c]? = w1.heap[c]?) (hs : w2.heap.size = w1.heap.size) (n1 : tb ≠ b) (n2 : rb ≠ b) (n3 : zb ≠ b) (hb : w0.heap.size ≤ b) (hos : w2.os = w1.os) (htp : w2.tape = w1.tape) (hou : w2.output = w1.output) : LdCtx κ0 w0 wi p j pth me r tb rb zb κ1 w2 :=
  ⟨⟨(ho _ n1).trans h.b0.hb, h.b0.kb⟩, ⟨(ho _ n2).trans h.b1.hb, h.b1.kb⟩, ⟨(ho _ n3).trans h.b2.hb, h.b2.kb⟩, ⟨hos.trans h.fr.os, htp.trans h.fr.tape, hou.trans h.fr.output, by have := h.fr.size; omega, fun c hc hS => (ho c (by omega)).trans (h.fr.block c hc hS)⟩, h.ex⟩
theorem St.frNone (h : St κ w wi p j pth work T σ) (hf : Fr κ (fun k => k == .none) w w') : St κ w' wi p j pth work T σ := by
  obtain ⟨logv, hth⟩ := h.th
  have hn : ∀ k : K, k.ofW wi = true → (k == K.none) = false := fun k hk => by cases k <;> first | rfl | simp [K.ofW] at hk
  have ht : ∀ k : K, k.thrd j = true → (k == K.none) = false := fun k hk => by cases k <;> first | rfl | simp [K.thrd] at hk
  exact ⟨h.wd.keep (fun b hb hk => hf.block b hb (by rcases hk with hk | hk; · rw [hk]; rfl
                                                     · exact hn _ hk)) hf.size (Ext.refl _ _), ⟨logv, hth.keep (fun b hb hk => hf.block b hb (ht _ hk)) (Ext.refl _ _)⟩, h.ok, h.sup.mono hf.size⟩
theorem LdCtx.same {κ0 κ1 : Nat → K} {w0 w1 w2 : World} {r : Int} {tb rb zb sb : Nat} {e sz n : Nat} {v v' : Value} {xs : List Value} (h : LdCtx κ0 w0 wi p j pth me r tb rb zb κ1 w1) (hk : ∀ b, b ≤ sb → w2.heap[b]? = w1.heap[b]?) (n1 : tb ≤ sb) (n2 : rb ≤ sb) (n3 : zb ≤ sb)
    (hf : Fr κ1 (fun k => k == .none) w1 w2) (hb : ∀ b, b < w0.heap.size → blk v ≠ some b) (ha : Apd w1 w2 e sz v v' n xs) : LdCtx κ0 w0 wi p j pth me r tb rb zb κ1 w2 :=
  ⟨⟨(hk _ n1).trans h.b0.hb, h.b0.kb⟩, ⟨(hk _ n2).trans h.b1.hb, h.b1.kb⟩, ⟨(hk _ n3).trans h.b2.hb, h.b2.kb⟩, ⟨hf.os.trans h.fr.os, hf.tape.trans h.fr.tape, hf.output.trans h.fr.output, Nat.le_trans h.fr.size hf.size, fun c hc hS => (ha.block c (by have := h.fr.size; omega) (hb c hc)).trans (h.fr.block c hc hS)⟩, h.ex⟩
theorem St.rekind (h : St κ w wi p j pth work T σ) (he : Kin κ κ') (hs : Sup κ' w) : St κ' w wi p j pth work T σ := by
  obtain ⟨logv, hth⟩ := h.th
  exact ⟨h.wd.rekind he, ⟨logv, he.at hth.kp (by simp), hth.hp, hth.own, fun g hg => he.at (hth.kl g hg) (by simp)⟩, h.ok, hs⟩
theorem St.lookd {r : Int} (h : St κ w wi p j pth work T σ) (ha : ArRep κ' w' wi p.pa (σ.A.look r).2) (hf : Fr κ (K.arena wi) w w') (he : Ext κ κ' w) (hs : Sup κ' w') : St κ' w' wi p j pth work T (σ.looked r) := by
  obtain ⟨logv, hth⟩ := h.th
  exact ⟨h.wd.turnA ha hf he, ⟨logv, hth.keep (fun b hb hk => hf.block b hb (by
    cases e : (κ b).arena wi with
    | false => rfl
    | true => have := K.arena_ofW _ e; have h2 := (K.thrd_apart (wi := wi) hk).1; rw [this] at h2; cases h2)) he⟩, h.ok, hs⟩
theorem ArRep.lookSmall {pa : Nat} {A : ArS} (h : ArRep κ w wi pa A) (r : Int) : (A.look r).1.ways.length ≤ 1048576 := by
  obtain ⟨vs, vf, raw, h⟩ := h
  unfold ArS.look ArS.get
  cases hi : A.idx r with
  | none => exact Nat.zero_le _
  | some i =>
    simp only [Option.bind_some]
    cases hs : A.slots[i]? with
    | none => exact Nat.zero_le _
    | some s =>
      obtain ⟨v2, v3, v4, v5, hv⟩ := h.slots i s hs
      exact hv.sm.2.2.1

set_option maxRecDepth 100000 in
set_option maxHeartbeats 4000000 in
theorem load_ok (h : St κ w wi p j pth work T σ) (r : Int) : Calls Try.prog 140 #[.agg (taskCs pth p me), .int .i64 r] w (TPost κ w wi p j pth work ((loadP r).exec T σ) isSnap) := by
  have hmf : ∀ (fn : Fn) (first cap : Array Value) (w : World), (Instr.makeFunc fn first cap).run Try.prog w = .ok (.func fn first cap) w := fun _ _ _ _ => rfl
  obtain ⟨j0, hj, hy0, hy1, hy2⟩ := info_parts info41
  have hS := h.sup
  have H := Lib.hid h
  clear h
  generalize hwhole : (loadP r).exec T σ = whole
  simp only [taskCs]
  go_enter Try.func140, Try.ntmps140
  go_wp2_with fail
  generalize hw0 : w.alloc (.cells #[.pointer (some ⟨pth, 0, none⟩), .pointer (some ⟨p.pw, 0, none⟩), .int .i64 me] 85) = w0
  have b0 : BoxAt κ w0 w.heap.size (taskCs pth p me) 85 := hw0 ▸ BoxAt.new hS _ _
  have hB0 : Below w.heap.size w w0 := hw0 ▸ (Below.refl _ _).alloc (Nat.le_refl _) _
  have hs0 : w0.heap.size = w.heap.size + 1 := by rw [← hw0]; simp
  generalize hw1 : w0.alloc (.cells #[.int .i64 r] 41) = w1
  have b1 : BoxAt κ w1 (w.heap.size + 1) #[.int .i64 r] 41 := by rw [← hw1, ← hs0]; exact BoxAt.new (hS.mono (by omega)) _ _
  have hB1 : Below w0.heap.size w0 w1 := hw1 ▸ (Below.refl _ _).alloc (Nat.le_refl _) _
  have hs1 : w1.heap.size = w.heap.size + 1 + 1 := by rw [← hw1]; simp [hs0]
  generalize hw2 : w1.alloc (.cells #[.int .i64 0, .int .i64 0, .bool false, .bool false, .slice none 0 0, .slice none 0 0, .slice none 0 0, .slice none 0 0] 138) = w2
  have b2 : BoxAt κ w2 (w.heap.size + 1 + 1) Z8 138 := by rw [← hw2, ← hs1]; exact BoxAt.new (hS.mono (by omega)) _ _
  have hB2 : Below w1.heap.size w1 w2 := hw2 ▸ (Below.refl _ _).alloc (Nat.le_refl _) _
  have hB : Below w.heap.size w w2 := (hB0.trans (hB1.mono (by omega))).trans (hB2.mono (by omega))
  have HX0 := Lib.hid (show LdCtx κ w wi p j pth me r w.heap.size (w.heap.size + 1) (w.heap.size + 1 + 1) κ w2 from ⟨(b0.below hB1).below hB2, b1.below hB2, b2, Fr.below hB, Ext.refl _ _⟩)
  have HST0 := Lib.hid (H.out.below hB)
  clear hw0 hw1 hw2 b0 b1 b2 hB0 hB1 hB2 hB H hS
  have hz1 : w.heap.size ≤ w.heap.size := Nat.le_refl _
  have hz2 : w.heap.size < w.heap.size + 1 := by omega
  have hz3 : w.heap.size + 1 < w.heap.size + 1 + 1 := by omega
  generalize htb : w.heap.size = tb at HX0 hz2 hz3 ⊢
  replace hz1 : w.heap.size ≤ tb := by omega
  generalize hrb : tb + 1 = rb at HX0 hz2 hz3 ⊢
  generalize hzb : rb + 1 = zb at HX0 hz3 ⊢
  clear htb hrb hzb hs0 hs1
  have HW := Lib.hid (show whole = ((Pr.ask (tMark r)).bind (load2 r)).exec T σ from hwhole.symm)
  have HX := HX0
  have HST := HST0
  clear HX0 HST0 hwhole
  have c0 : w2.cell? ⟨tb, 0, none⟩ = some (.pointer (some ⟨pth, 0, none⟩)) := cellAt HX.out.b0.hb 0 rfl
  have c1 : w2.cell? ⟨tb, 1, none⟩ = some (.pointer (some ⟨p.pw, 0, none⟩)) := cellAt HX.out.b0.hb 1 rfl
  have c2 : w2.cell? ⟨tb, 2, none⟩ = some (.int .i64 me) := cellAt HX.out.b0.hb 2 rfl
  have c3 : w2.cell? ⟨rb, 0, none⟩ = some (.int .i64 r) := cellAt HX.out.b1.hb 0 rfl
  clear c0 c1 c2 c3
  refine (lmark_ok (me := me) HST.out r).mono ?_
  rintro e w3 hh
  rcases hh.elim with ⟨T2, σ2, κ2, hr2, rfl, hst2, hf2, he2⟩ | ⟨first, T2, σ2, κ2, v, hr2, rfl, hv, hst2, hf2, he2⟩
  · have hx := HX.out.later hf2 he2
    refine ⟨rfl, ?_⟩
    rw [HW.out, Pr.exec_bind, hr2]
    exact ⟨κ2, rfl, hst2, hx.fr, hx.ex⟩
  replace hv : v = .bool first := hv
  subst hv
  replace HW := Lib.hid (show whole = (load2 r first).exec T2 σ2 by rw [HW.out, Pr.exec_bind, hr2]; rfl)
  replace HX := Lib.hid (HX.out.later hf2 he2)
  replace HST := Lib.hid hst2
  clear hh hr2 hst2 hf2 he2
  have c0 : w3.cell? ⟨tb, 0, none⟩ = some (.pointer (some ⟨pth, 0, none⟩)) := cellAt HX.out.b0.hb 0 rfl
  have c1 : w3.cell? ⟨tb, 1, none⟩ = some (.pointer (some ⟨p.pw, 0, none⟩)) := cellAt HX.out.b0.hb 1 rfl
  have c2 : w3.cell? ⟨tb, 2, none⟩ = some (.int .i64 me) := cellAt HX.out.b0.hb 2 rfl
  have c3 : w3.cell? ⟨rb, 0, none⟩ = some (.int .i64 r) := cellAt HX.out.b1.hb 0 rfl
  go_wp2_with fail
  clear c0 c1 c2 c3
  refine (linfo_ok (me := me) HST.out r).mono ?_
  rintro e w4 hh
  rcases hh.elim with ⟨T2, σ2, κ2, hr2, rfl, hst2, hf2, he2⟩ | ⟨n, T2, σ2, κ2, v, hr2, rfl, hv, hst2, hf2, he2⟩
  · have hx := HX.out.later hf2 he2
    refine ⟨rfl, ?_⟩
    rw [HW.out, load2, Pr.exec_bind, hr2]
    exact ⟨κ2, rfl, hst2, hx.fr, hx.ex⟩
  replace hv : v = .int .i64 n := hv
  subst hv
  replace HW := Lib.hid (show whole = (load3 r first n).exec T2 σ2 by rw [HW.out, load2, Pr.exec_bind, hr2]; rfl)
  replace HX := Lib.hid (HX.out.later hf2 he2)
  replace HST := Lib.hid hst2
  clear hh hr2 hst2 hf2 he2
  have c0 : w4.cell? ⟨tb, 0, none⟩ = some (.pointer (some ⟨pth, 0, none⟩)) := cellAt HX.out.b0.hb 0 rfl
  have c1 : w4.cell? ⟨tb, 1, none⟩ = some (.pointer (some ⟨p.pw, 0, none⟩)) := cellAt HX.out.b0.hb 1 rfl
  have c2 : w4.cell? ⟨tb, 2, none⟩ = some (.int .i64 me) := cellAt HX.out.b0.hb 2 rfl
  go_wp2_with fail
  clear c0 c1 c2
  refine (lstate_ok (me := me) HST.out n).mono ?_
  rintro e w5 hh
  rcases hh.elim with ⟨T2, σ2, κ2, hr2, rfl, hst2, hf2, he2⟩ | ⟨was, T2, σ2, κ2, v, hr2, rfl, hv, hst2, hf2, he2⟩
  · have hx := HX.out.later hf2 he2
    refine ⟨rfl, ?_⟩
    rw [HW.out, load3, Pr.exec_bind, hr2]
    exact ⟨κ2, rfl, hst2, hx.fr, hx.ex⟩
  replace hv : v = .int .u8 was := hv
  subst hv
  replace HW := Lib.hid (show whole = (load4 r n first was).exec T2 σ2 by rw [HW.out, load3, Pr.exec_bind, hr2]; rfl)
  replace HX := Lib.hid (HX.out.later hf2 he2)
  replace HST := Lib.hid hst2
  clear hh hr2 hst2 hf2 he2
  have c0 : w5.cell? ⟨tb, 0, none⟩ = some (.pointer (some ⟨pth, 0, none⟩)) := cellAt HX.out.b0.hb 0 rfl
  have c1 : w5.cell? ⟨tb, 1, none⟩ = some (.pointer (some ⟨p.pw, 0, none⟩)) := cellAt HX.out.b0.hb 1 rfl
  have c2 : w5.cell? ⟨tb, 2, none⟩ = some (.int .i64 me) := cellAt HX.out.b0.hb 2 rfl
  have c3 : w5.cell? ⟨rb, 0, none⟩ = some (.int .i64 r) := cellAt HX.out.b1.hb 0 rfl
  go_wp2_with fail
  clear c0 c1 c2 c3
  refine (lmark_ok (me := me) HST.out r).mono ?_
  rintro e w6 hh
  rcases hh.elim with ⟨T2, σ2, κ2, hr2, rfl, hst2, hf2, he2⟩ | ⟨second, T2, σ2, κ2, v, hr2, rfl, hv, hst2, hf2, he2⟩
  · have hx := HX.out.later hf2 he2
    refine ⟨rfl, ?_⟩
    rw [HW.out, load4, Pr.exec_bind, hr2]
    exact ⟨κ2, rfl, hst2, hx.fr, hx.ex⟩
  replace hv : v = .bool second := hv
  subst hv
  replace HW := Lib.hid (show whole = (load5 r n first was second).exec T2 σ2 by rw [HW.out, load4, Pr.exec_bind, hr2]; rfl)
  replace HX := Lib.hid (HX.out.later hf2 he2)
  replace HST := Lib.hid hst2
  clear hh hr2 hst2 hf2 he2
  go_upto_region 5 with fail
  go_cut [35] from 26 to 35 (fun v35 wx => ∃ b : Bool, v35 = .bool b ∧ Hid (b = decide (was = 0 ∨ (was = 2 ∧ second = false))) ∧ wx = w6)
  case first =>
    by_cases h0 : was = 0
    · have e0 : (was == 0) = true := by simp [h0]
      have HD := Lib.hid (show decide (was = 0 ∨ (was = 2 ∧ second = false)) = true by simp [h0])
      clear h0
      go_wp2
      go_meet
      case rel => exact ⟨_, rfl, Lib.hid HD.out.symm, rfl⟩
    · have e0 : (was == 0) = false := by simp [h0]
      by_cases h2 : was = 2
      · have e2 : (was == 2) = true := by simp [h2]
        cases second with
        | true =>
          have HD := Lib.hid (show decide (was = 0 ∨ (was = 2 ∧ true = false)) = false by simp [h0])
          clear h0 h2
          go_wp2
          go_meet
          case rel => exact ⟨_, rfl, Lib.hid HD.out.symm, rfl⟩
        | false =>
          have HD := Lib.hid (show decide (was = 0 ∨ (was = 2 ∧ false = false)) = true by simp [h2])
          clear h0 h2
          go_wp2
          go_meet
          case rel => exact ⟨_, rfl, Lib.hid HD.out.symm, rfl⟩
      · have e2 : (was == 2) = false := by simp [h2]
        have HD := Lib.hid (show decide (was = 0 ∨ (was = 2 ∧ second = false)) = false by simp [h0, h2])
        clear h0 h2
        go_wp2
        go_meet
        case rel => exact ⟨_, rfl, Lib.hid HD.out.symm, rfl⟩
  case rest =>
    obtain ⟨b, rfl, HBc, rfl⟩ := hcut
    go_upto_if 35 with fail
    go_cut [35] from 36 to 69 (fun _ wx => ∃ (T1 : TS) (σ1 : ShS) (κ1 : Nat → Ytacmeafpieoaaaa.K), Hid (whole = (load7 r n first).exec T1 σ1) ∧ Hid (St κ1 wx wi p j pth work T1 σ1) ∧ Hid (LdCtx κ w wi p j pth me r tb rb zb κ1 wx))
    case first =>
      cases b with
      | false =>
        have HW7 := Lib.hid (show whole = (load7 r n first).exec T2 σ2 by rw [HW.out, load5, if_neg (of_decide_eq_false HBc.out.symm)])
        clear HW
        go_wp2
        go_meet
        case rel => exact ⟨T2, σ2, κ2, HW7, HST, HX⟩
      | true =>
        replace HW := Lib.hid (show whole = ((waysP r [] (σ2.A.look r).1.ways.length).bind (load6b r n first (σ2.A.look r).1)).exec T2 (σ2.looked r) by rw [HW.out, load5, if_pos (of_decide_eq_true HBc.out.symm)]; rfl)
        have hsm := HST.out.wd.ar.lookSmall r
        go_upto_region 6 with fail
        go_cut [10] from 36 to 45 (fun v10 wx => ∃ (sb : Nat) (vp vk vn : Value) (κ1 : Nat → Ytacmeafpieoaaaa.K), v10 = .pointer (some ⟨sb, 0, none⟩) ∧ zb < sb ∧ Hid (St κ1 wx wi p j pth work T2 (σ2.looked r)) ∧ Hid (LdCtx κ w wi p j pth me r tb rb zb κ1 wx) ∧
          Hid (SnapBox κ1 wx sb r n (σ2.A.look r).1 vp vk vn (.slice none 0 0)))
        case first =>
          replace HST := Lib.hid (HST.out.below (Below.refl _ _).drew)
          replace HX := Lib.hid (HX.out.later (Fr.below (Below.refl _ _).drew) (Ext.refl _ _))
          generalize hWd : wc.drew = W at *
          have hS : _ ∧ _ ∧ _ := ⟨(cellAt HX.out.b0.hb 1 rfl : W.cell? ⟨tb, 1, none⟩ = some (.pointer (some ⟨p.pw, 0, none⟩))), (cellAt HX.out.b1.hb 0 rfl : W.cell? ⟨rb, 0, none⟩ = some (.int .i64 r)), (cellAt HST.out.wd.hpw 0 rfl : W.cell? ⟨p.pw, 0, none⟩ = some (.pointer (some ⟨p.pa, 0, none⟩)))⟩
          refine Mask.beginAt (fun W' => W'.cell? ⟨tb, 1, none⟩ = some (.pointer (some ⟨p.pw, 0, none⟩)) ∧ W'.cell? ⟨rb, 0, none⟩ = some (.int .i64 r) ∧ W'.cell? ⟨p.pw, 0, none⟩ = some (.pointer (some ⟨p.pa, 0, none⟩))) (fun i => i != 9 && i != 11) (by kernel_rfl) W hWd ?_
          refine Mask.take 0 36 (v := ?_) rfl rfl (by kernel_rfl) (by kernel_rfl) (by kernel_rfl) rfl (by kernel_rfl) (by kernel_rfl) (fun _ _ _ h => h) hS (Or.inl ⟨by rfl, ?_⟩) ?_
          rotate_left
          · intro w hSw; (try dsimp only at hSw); skip; go_simp; try with_reducible rfl
          simp only [Act.put, List.setIfInBounds_toArray, List.set_cons_zero, List.set_cons_succ]
          refine Mask.take 1 37 (v := ?_) rfl rfl (by kernel_rfl) (by kernel_rfl) (by kernel_rfl) rfl (by kernel_rfl) (by kernel_rfl) (fun _ _ _ h => h) hS (Or.inl ⟨by rfl, ?_⟩) ?_
          rotate_left
          · intro w hSw; (try dsimp only at hSw); go_simp; try with_reducible rfl
          simp only [Act.put, List.setIfInBounds_toArray, List.set_cons_zero, List.set_cons_succ]
          refine Mask.take 2 38 (v := ?_) rfl rfl (by kernel_rfl) (by kernel_rfl) (by kernel_rfl) rfl (by kernel_rfl) (by kernel_rfl) (fun _ _ _ h => h) hS (Or.inl ⟨by rfl, ?_⟩) ?_
          rotate_left
          · intro w hSw; (try dsimp only at hSw); go_simp; try with_reducible rfl
          simp only [Act.put, List.setIfInBounds_toArray, List.set_cons_zero, List.set_cons_succ]
          refine Mask.take 3 39 (v := ?_) rfl rfl (by kernel_rfl) (by kernel_rfl) (by kernel_rfl) rfl (by kernel_rfl) (by kernel_rfl) (fun _ _ _ h => h) hS (Or.inl ⟨by rfl, ?_⟩) ?_
          rotate_left
          · intro w hSw; (try dsimp only at hSw); skip; go_simp; try with_reducible rfl
          simp only [Act.put, List.setIfInBounds_toArray, List.set_cons_zero, List.set_cons_succ]
          refine Mask.take 4 40 (v := ?_) rfl rfl (by kernel_rfl) (by kernel_rfl) (by kernel_rfl) rfl (by kernel_rfl) (by kernel_rfl) (fun _ _ _ h => h) hS (Or.inl ⟨by rfl, ?_⟩) ?_
          rotate_left
          · intro w hSw; (try dsimp only at hSw); go_simp; try with_reducible rfl
          simp only [Act.put, List.setIfInBounds_toArray, List.set_cons_zero, List.set_cons_succ]
          refine Mask.take 5 41 (v := ?_) rfl rfl (by kernel_rfl) (by kernel_rfl) (by kernel_rfl) rfl (by kernel_rfl) (by kernel_rfl) (fun _ _ _ h => h) hS (Or.inl ⟨by rfl, ?_⟩) ?_
          rotate_left
          · intro w hSw; (try dsimp only at hSw); go_simp; try with_reducible rfl
          simp only [Act.put, List.setIfInBounds_toArray, List.set_cons_zero, List.set_cons_succ]
          refine Mask.take 6 42 (v := ?_) rfl rfl (by kernel_rfl) (by kernel_rfl) (by kernel_rfl) rfl (by kernel_rfl) (by kernel_rfl) (fun _ _ _ h => h) hS (Or.inl ⟨by rfl, ?_⟩) ?_
          rotate_left
          · intro w hSw; (try dsimp only at hSw); skip; go_simp; try with_reducible rfl
          simp only [Act.put, List.setIfInBounds_toArray, List.set_cons_zero, List.set_cons_succ]
          refine Mask.take 7 43 (v := ?_) rfl rfl (by kernel_rfl) (by kernel_rfl) (by kernel_rfl) rfl (by kernel_rfl) (by kernel_rfl) (fun _ _ _ h => h) hS (Or.inl ⟨by rfl, ?_⟩) ?_
          rotate_left
          · intro w hSw; (try dsimp only at hSw); skip; go_simp; try with_reducible rfl
          simp only [Act.put, List.setIfInBounds_toArray, List.set_cons_zero, List.set_cons_succ]
          refine Mask.two 8 10 (by kernel_rfl) rfl rfl rfl rfl (fun K__ hK => ?_) (fun K__ hK => ?_)
          · -- 8: call F78[t42, t43] types#[38, 41]
            go_simp
            have HSTa := HST
            have HXa := HX
            refine (look_ok HSTa.out.wd.ar HSTa.out.sup r).mono ?_
            rintro e w7 ⟨v, κ7, rfl, ⟨vp, vk, vn, rfl, rp, rk, rn⟩, har, hf, he, hs⟩
            obtain ⟨ap, cp, rfl, _, _⟩ := rp.shape
            obtain ⟨ak, ck, rfl, _, _⟩ := rk.shape
            obtain ⟨an, cn, rfl, _, _⟩ := rn.shape
            have HST7 := Lib.hid (show St κ7 w7 wi p j pth work T2 (σ2.looked r) from HSTa.out.lookd har hf he hs)
            have HX7 := Lib.hid (HXa.out.later (hf.mono fun k hk => by unfold K.step; rw [K.arena_ofW k hk]; rfl) he)
            have HRW := Lib.hid (And.intro rp (And.intro rk rn))
            clear har hf he hs rp rk rn
            refine hK _ _ (fun _ => ?_) ?_
            · exact ⟨cellAt HX7.out.b0.hb 1 rfl, cellAt HX7.out.b1.hb 0 rfl, cellAt HST7.out.wd.hpw 0 rfl⟩
            replace hS : _ ∧ _ ∧ _ := ⟨cellAt HX7.out.b0.hb 1 rfl, cellAt HX7.out.b1.hb 0 rfl, cellAt HST7.out.wd.hpw 0 rfl⟩
            clear hK K__
            try simp only [Act.put, List.setIfInBounds_toArray, List.set_cons_zero, List.set_cons_succ]
            refine Mask.takeP 9 45 (v := ?_) rfl rfl (by kernel_rfl) (by kernel_rfl) (by kernel_rfl) rfl (fun _ _ _ h => h) (Or.inl ⟨by rfl, ?_⟩) ?_
            rotate_left
            · intro w hSw; (try dsimp only at hSw); go_simp; try with_reducible rfl
            simp only [Act.put, List.setIfInBounds_toArray, List.set_cons_zero, List.set_cons_succ]
            -- 10: alloc T138
            refine Mask.one 10 (by kernel_rfl) rfl rfl (fun K__ hK => ?_)
            go_simp
            refine hK _ _ (fun _ => ?_) ?_
            · exact ⟨(World.cell?_alloc_past _ _ _ (lt_of_heap HX7.out.b0.hb)).trans hS.1, (World.cell?_alloc_past _ _ _ (lt_of_heap HX7.out.b1.hb)).trans hS.2.1, (World.cell?_alloc_past _ _ _ (lt_of_heap HST7.out.wd.hpw)).trans hS.2.2⟩
            clear hK K__
            try simp only [Act.put, List.setIfInBounds_toArray, List.set_cons_zero, List.set_cons_succ]
            -- 11: store T138 t10 t45
            refine Mask.one 11 (by kernel_rfl) rfl rfl (fun K__ hK => ?_)
            go_simp
            refine hK _ _ (fun h => (by cases h)) ?_
            clear hK K__
            try simp only [Act.put, List.setIfInBounds_toArray, List.set_cons_zero, List.set_cons_succ]
            refine Mask.done (by kernel_rfl) ?_ _
            go_wp2
            go_meet
            case rel =>
              have hal : Below w7.heap.size w7 (w7.alloc (.cells #[.int .i64 r, .int .i64 n, .bool (σ2.A.look r).1.inner, .bool (σ2.A.look r).1.tagged, .slice ap (σ2.A.look r).1.pairs.length cp, .slice ak (σ2.A.look r).1.keys.length ck, .slice an (σ2.A.look r).1.ways.length cn, .slice none 0 0] 138)) := (Below.refl _ _).alloc (Nat.le_refl _) _
              exact ⟨w7.heap.size, _, _, _, κ7, rfl, lt_of_heap HX7.out.b2.hb, Lib.hid (HST7.out.below hal), Lib.hid (HX7.out.later (Fr.below hal) (Ext.refl _ _)), Lib.hid (SnapBox.mk' (BoxAt.new HST7.out.sup _ _) (HRW.out.1.keep (fun b hb _ => hal.block b hb) hal.size (Ext.refl _ _)) (HRW.out.2.1.keep (fun b hb _ => hal.block b hb) hal.size (Ext.refl _ _)) (HRW.out.2.2.keep (fun b hb _ => hal.block b hb) hal.size (Ext.refl _ _)))⟩
          · -- 10: alloc T138
            go_simp
            generalize hG__ : W.alloc (.cells #[.int .i64 0, .int .i64 0, .bool false, .bool false, .slice none 0 0, .slice none 0 0, .slice none 0 0, .slice none 0 0] 138) = wq1
            have hZ := Lib.hid (show Below W.heap.size W wq1 from hG__ ▸ (Below.refl _ _).alloc (Nat.le_refl _) _)
            have HNB := Lib.hid (show wq1.heap[W.heap.size]? = some (.cells Z8 138 (0, 0)) from hG__ ▸ Laws.heap_new W _)
            have hS' : _ ∧ _ ∧ _ := ⟨(hZ.out.cell (p := ⟨tb, 1, none⟩) (lt_of_heap HX.out.b0.hb)).trans hS.1, (hZ.out.cell (p := ⟨rb, 0, none⟩) (lt_of_heap HX.out.b1.hb)).trans hS.2.1, (hZ.out.cell (p := ⟨p.pw, 0, none⟩) (lt_of_heap HST.out.wd.hpw)).trans hS.2.2⟩
            clear hG__
            refine hK _ _ (fun _ => ?_) ?_
            · exact hS'
            replace hS := hS'
            clear hK K__
            try simp only [Act.put, List.setIfInBounds_toArray, List.set_cons_zero, List.set_cons_succ]
            -- 8: call F78[t42, t43] types#[38, 41]
            refine Mask.one 8 (by kernel_rfl) rfl rfl (fun K__ hK => ?_)
            go_simp
            have HSTa := Lib.hid (HST.out.below hZ.out)
            have HXa := Lib.hid (HX.out.later (Fr.below hZ.out) (Ext.refl _ _))
            refine (look_ok HSTa.out.wd.ar HSTa.out.sup r).mono ?_
            rintro e w7 ⟨v, κ7, rfl, ⟨vp, vk, vn, rfl, rp, rk, rn⟩, har, hf, he, hs⟩
            obtain ⟨ap, cp, rfl, _, _⟩ := rp.shape
            obtain ⟨ak, ck, rfl, _, _⟩ := rk.shape
            obtain ⟨an, cn, rfl, _, _⟩ := rn.shape
            have HST7 := Lib.hid (show St κ7 w7 wi p j pth work T2 (σ2.looked r) from HSTa.out.lookd har hf he hs)
            have HX7 := Lib.hid (HXa.out.later (hf.mono fun k hk => by unfold K.step; rw [K.arena_ofW k hk]; rfl) he)
            have HRW := Lib.hid (And.intro rp (And.intro rk rn))
            have HNB7 := Lib.hid ((show BoxAt κ2 wq1 W.heap.size Z8 138 from ⟨HNB.out, HST.out.sup _ (Nat.le_refl _)⟩).keep hf he rfl)
            clear har hf he hs rp rk rn
            refine hK _ _ (fun _ => ?_) ?_
            · exact ⟨cellAt HX7.out.b0.hb 1 rfl, cellAt HX7.out.b1.hb 0 rfl, cellAt HST7.out.wd.hpw 0 rfl⟩
            replace hS : _ ∧ _ ∧ _ := ⟨cellAt HX7.out.b0.hb 1 rfl, cellAt HX7.out.b1.hb 0 rfl, cellAt HST7.out.wd.hpw 0 rfl⟩
            clear hK K__
            try simp only [Act.put, List.setIfInBounds_toArray, List.set_cons_zero, List.set_cons_succ]
            refine Mask.takeP 9 45 (v := ?_) rfl rfl (by kernel_rfl) (by kernel_rfl) (by kernel_rfl) rfl (fun _ _ _ h => h) (Or.inl ⟨by rfl, ?_⟩) ?_
            rotate_left
            · intro w hSw; (try dsimp only at hSw); go_simp; try with_reducible rfl
            simp only [Act.put, List.setIfInBounds_toArray, List.set_cons_zero, List.set_cons_succ]
            -- 11: store T138 t10 t45
            refine Mask.one 11 (by kernel_rfl) rfl rfl (fun K__ hK => ?_)
            have y0 : w7.cell? ⟨W.heap.size, 0, none⟩ = some (.int .i64 0) := cellAt HNB7.out.hb 0 rfl
            have y1 : w7.cell? ⟨W.heap.size, 1, none⟩ = some (.int .i64 0) := cellAt HNB7.out.hb 1 rfl
            have y2 : w7.cell? ⟨W.heap.size, 2, none⟩ = some (.bool false) := cellAt HNB7.out.hb 2 rfl
            have y3 : w7.cell? ⟨W.heap.size, 3, none⟩ = some (.bool false) := cellAt HNB7.out.hb 3 rfl
            have y4 : w7.cell? ⟨W.heap.size, 4, none⟩ = some (.slice none 0 0) := cellAt HNB7.out.hb 4 rfl
            have y5 : w7.cell? ⟨W.heap.size, 5, none⟩ = some (.slice none 0 0) := cellAt HNB7.out.hb 5 rfl
            have y6 : w7.cell? ⟨W.heap.size, 6, none⟩ = some (.slice none 0 0) := cellAt HNB7.out.hb 6 rfl
            have y7 : w7.cell? ⟨W.heap.size, 7, none⟩ = some (.slice none 0 0) := cellAt HNB7.out.hb 7 rfl
            have yz : ∀ k, w7.frozen? ⟨W.heap.size, k, none⟩ = false := fun k => frozen_of_heap HNB7.out.hb
            go_simp
            refine hK _ _ (fun h => (by cases h)) ?_
            clear hK K__
            try simp only [Act.put, List.setIfInBounds_toArray, List.set_cons_zero, List.set_cons_succ]
            refine Mask.done (by kernel_rfl) ?_ _
            go_wp2
            go_meet
            case rel =>
              have hko : κ7 W.heap.size = .none := HNB7.out.kb
              have hlt := lt_of_heap HX.out.b2.hb
              generalize hwf : ((((((((w7.setCell ⟨W.heap.size, 0, none⟩ (.int .i64 r)).setCell ⟨W.heap.size, 1, none⟩ (.int .i64 n)).setCell ⟨W.heap.size, 2, none⟩ (.bool (σ2.A.look r).1.inner)).setCell ⟨W.heap.size, 3, none⟩ (.bool (σ2.A.look r).1.tagged)).setCell ⟨W.heap.size, 4, none⟩ (.slice ap (σ2.A.look r).1.pairs.length cp)).setCell ⟨W.heap.size, 5, none⟩ (.slice ak (σ2.A.look r).1.keys.length ck)).setCell ⟨W.heap.size, 6, none⟩ (.slice an (σ2.A.look r).1.ways.length cn)).setCell ⟨W.heap.size, 7, none⟩ (.slice none 0 0)) = wf
              obtain ⟨g1, g2, g3, g4, g5, g6⟩ := eight_sets HNB7.out hwf
              clear hwf
              have kp : ∀ b, b < w7.heap.size → κ7 b = .imm → wf.heap[b]? = w7.heap[b]? := fun b _ hk => g2 b (by intro e; rw [e, hko] at hk; cases hk)
              exact ⟨W.heap.size, _, _, _, κ7, rfl, hlt, Lib.hid (HST7.out.boxed hko g2 g3.symm), Lib.hid (HX7.out.boxed hko g2 g3 (by omega) (by omega) (by omega) (by omega) g4 g5 g6), Lib.hid (SnapBox.mk' g1 (HRW.out.1.keep kp (by omega) (Ext.refl _ _)) (HRW.out.2.1.keep kp (by omega) (Ext.refl _ _)) (HRW.out.2.2.keep kp (by omega) (Ext.refl _ _)))⟩
        case rest =>
          clear HST HX
          obtain ⟨sb, vp, vk, vn, κ1, rfl, hsb, HST, HX, HSB⟩ := hcut
          obtain ⟨an, cn, rfl, _, _⟩ := HSB.out.rn.shape
          generalize (σ2.A.look r).1 = nd at *
          generalize σ2.looked r = σ3 at *
          have y6 : wc.cell? ⟨sb, 6, none⟩ = some (.slice an nd.ways.length cn) := cellAt HSB.out.box.hb 6 rfl
          go_upto_block 0 with fail
          clear y6
          go_cut [51] from 52 to 63 (fun _ wx => ∃ (ws : List Int) (T1 : TS) (σ1 : ShS) (κ3 : Nat → Ytacmeafpieoaaaa.K) (vy : Value), ws.length ≤ 1048576 ∧ Hid (whole = (load6b r n first nd ws).exec T1 σ1) ∧ Hid (St κ3 wx wi p j pth work T1 σ1) ∧ Hid (LdCtx κ w wi p j pth me r tb rb zb κ3 wx) ∧
            Hid (SnapBox κ3 wx sb r n nd vp vk (.slice an nd.ways.length cn) vy) ∧ Hid (Own wx 41 1 vy ws.length (intVs ws)) ∧ Hid (∀ g, blk vy = some g → sb < g ∧ κ3 g = .none))
          case first =>
            go_wp2
            go_loopw [51] (fun i wr => ∃ (acc : List Int) (T1 : TS) (σ1 : ShS) (κ3 : Nat → Ytacmeafpieoaaaa.K) (vy : Value), i = .int .i64 (acc.length : Nat) ∧ acc.length ≤ nd.ways.length ∧ Hid (whole = ((waysP r acc (nd.ways.length - acc.length)).bind (load6b r n first nd)).exec T1 σ1) ∧ Hid (St κ3 wr wi p j pth work T1 σ1) ∧ Hid (LdCtx κ w wi p j pth me r tb rb zb κ3 wr) ∧
              Hid (SnapBox κ3 wr sb r n nd vp vk (.slice an nd.ways.length cn) vy) ∧ Hid (Own wr 41 1 vy acc.length (intVs acc)) ∧ Hid (∀ g, blk vy = some g → sb < g ∧ κ3 g = .none)) (fun i _ => nd.ways.length - (intOf i).toNat)
            case atStart => exact ⟨[], T2, σ3, κ1, .slice none 0 0, rfl, Nat.zero_le _, HW, HST, HX, HSB, Lib.hid (Own.nil _ _ _), Lib.hid (by simp [blk])⟩
            case round =>
              clear HW HST HX HSB
              obtain ⟨acc, T1, σ1, κ3, vy, rfl, hle, HW, HST, HX, HSB, HO, HBK⟩ := hrel
              by_cases hlt : acc.length < nd.ways.length
              · obtain ⟨m, hm⟩ : ∃ m, nd.ways.length - acc.length = m + 1 := ⟨nd.ways.length - acc.length - 1, by omega⟩
                have HM := Lib.hid (show nd.ways.length - (acc.length + 1) = m by omega)
                rw [hm] at HW
                clear hm
                obtain ⟨_, ay, cy, rfl, hley, _, _⟩ := id HO.out
                go_upto_region 10 with fail
                generalize hwA : wr.alloc (.cells #[.int .i64 (acc.length : Nat)] 3) = wA
                have hBA : Below wr.heap.size wr wA := hwA ▸ (Below.refl _ _).alloc (Nat.le_refl _) _
                have bi : BoxAt κ3 wA wr.heap.size #[.int .i64 (acc.length : Nat)] 3 := hwA ▸ BoxAt.new HST.out.sup _ _
                have HIB := Lib.hid (bi.below (Below.refl _ _).drew)
                have hBd : Below wr.heap.size wr wA.drew := hBA.drew
                replace HST := Lib.hid (HST.out.below hBd)
                replace HX := Lib.hid (HX.out.later (Fr.below hBd) (Ext.refl _ _))
                replace HSB := Lib.hid (HSB.out.keep (Fr.below (S := K.never) hBd) (Ext.refl _ _) rfl rfl)
                replace HO := Lib.hid (HO.out.move (w' := wA.drew) fun g hg => hBd.block g (HO.out.lt g hg))
                clear hwA hBA hBd bi
                generalize hWd : wA.drew = W at *
                have hS : _ ∧ _ := ⟨(cellAt HX.out.b0.hb 0 rfl : W.cell? ⟨tb, 0, none⟩ = some (.pointer (some ⟨pth, 0, none⟩))), (cellAt HSB.out.box.hb 7 rfl : W.cell? ⟨sb, 7, none⟩ = some (.slice ay acc.length cy))⟩
                refine Mask.beginAt (fun W' => W'.cell? ⟨tb, 0, none⟩ = some (.pointer (some ⟨pth, 0, none⟩)) ∧ W'.cell? ⟨sb, 7, none⟩ = some (.slice ay acc.length cy)) (fun i => i != 7 && i != 8 && i != 9) (by kernel_rfl) W hWd ?_
                refine Mask.take 0 54 (v := ?_) rfl rfl (by kernel_rfl) (by kernel_rfl) (by kernel_rfl) rfl (by kernel_rfl) (by kernel_rfl) (fun _ _ _ h => h) hS (Or.inl ⟨by rfl, ?_⟩) ?_
                rotate_left
                · intro w hSw; (try dsimp only at hSw); go_simp; try with_reducible rfl
                simp only [Act.put, List.setIfInBounds_toArray, List.set_cons_zero, List.set_cons_succ]
                refine Mask.take 1 55 (v := ?_) rfl rfl (by kernel_rfl) (by kernel_rfl) (by kernel_rfl) rfl (by kernel_rfl) (by kernel_rfl) (fun _ _ _ h => h) hS (Or.inl ⟨by rfl, ?_⟩) ?_
                rotate_left
                · intro w hSw; (try dsimp only at hSw); skip; go_simp; try with_reducible rfl
                simp only [Act.put, List.setIfInBounds_toArray, List.set_cons_zero, List.set_cons_succ]
                refine Mask.take 2 56 (v := ?_) rfl rfl (by kernel_rfl) (by kernel_rfl) (by kernel_rfl) rfl (by kernel_rfl) (by kernel_rfl) (fun _ _ _ h => h) hS (Or.inl ⟨by rfl, ?_⟩) ?_
                rotate_left
                · intro w hSw; (try dsimp only at hSw); go_simp; try with_reducible rfl
                simp only [Act.put, List.setIfInBounds_toArray, List.set_cons_zero, List.set_cons_succ]
                refine Mask.take 3 57 (v := ?_) rfl rfl (by kernel_rfl) (by kernel_rfl) (by kernel_rfl) rfl (by kernel_rfl) (by kernel_rfl) (fun _ _ _ h => h) hS (Or.inl ⟨by rfl, ?_⟩) ?_
                rotate_left
                · intro w hSw; (try dsimp only at hSw); skip; go_simp; try with_reducible rfl
                simp only [Act.put, List.setIfInBounds_toArray, List.set_cons_zero, List.set_cons_succ]
                refine Mask.take 4 58 (v := ?_) rfl rfl (by kernel_rfl) (by kernel_rfl) (by kernel_rfl) rfl (by kernel_rfl) (by kernel_rfl) (fun _ _ _ h => h) hS (Or.inl ⟨by rfl, ?_⟩) ?_
                rotate_left
                · intro w hSw; (try dsimp only at hSw); go_simp; try with_reducible rfl
                simp only [Act.put, List.setIfInBounds_toArray, List.set_cons_zero, List.set_cons_succ]
                -- 5: call F122[t57, t58] types#[61, 88]
                refine Mask.one 5 (by kernel_rfl) rfl rfl (fun K__ hK => ?_)
                go_simp
                refine (do_ok HST.out 170 _ (tWay r (acc.length : Nat)) enters170 (touch_way HX.out.b0 HX.out.b1 HIB.out)).mono ?_
                rintro e w7 hh
                rcases hh.elim with ⟨T2, σ2, κ2, hr2, rfl, hst2, hf2, he2⟩ | ⟨x, T2, σ2, κ2, v, hr2, rfl, hv, hst2, hf2, he2⟩
                · have hx := HX.out.later hf2 he2
                  refine ⟨rfl, ?_⟩
                  rw [HW.out, waysP, Pr.exec_bind2, hr2]
                  exact ⟨κ2, rfl, hst2, hx.fr, hx.ex⟩
                replace hv : v = .int .i64 x := hv
                subst hv
                replace HW := Lib.hid (show whole = ((waysP r (acc ++ [x]) m).bind (load6b r n first nd)).exec T2 σ2 by rw [HW.out, waysP, Pr.exec_bind2, hr2]; rfl)
                have HBK7 := Lib.hid (show ∀ g, blk (.slice ay acc.length cy) = some g → sb < g ∧ κ2 g = .none from fun g hg => ⟨(HBK.out g hg).1, (he2 g (HO.out.lt g hg)).trans (HBK.out g hg).2⟩)
                have HO7 := Lib.hid (HO.out.move (w' := w7) fun g hg => hf2.block g (HO.out.lt g hg) (by rw [(HBK.out g hg).2]; rfl))
                replace HX := Lib.hid (HX.out.later hf2 he2)
                replace HSB := Lib.hid (HSB.out.keep hf2 he2 rfl rfl)
                replace HST := Lib.hid hst2
                clear hh hr2 hst2 hf2 he2 HO HBK HIB
                refine hK _ _ (fun _ => ?_) ?_
                · exact ⟨cellAt HX.out.b0.hb 0 rfl, cellAt HSB.out.box.hb 7 rfl⟩
                replace hS : _ ∧ _ := ⟨cellAt HX.out.b0.hb 0 rfl, cellAt HSB.out.box.hb 7 rfl⟩
                clear hK K__
                try simp only [Act.put, List.setIfInBounds_toArray, List.set_cons_zero, List.set_cons_succ]
                -- 6: buildSlice T56 1 [(0, t59)]
                refine Mask.one 6 (by kernel_rfl) rfl rfl (fun K__ hK => ?_)
                go_simp
                generalize hG__ : w7.alloc (.cells #[.int .i64 x] 41) = w8
                have hZ : Below w7.heap.size w7 w8 := hG__ ▸ (Below.refl _ _).alloc (Nat.le_refl _) _
                have HNEW := Lib.hid (show w8.heap[w7.heap.size]? = some (.cells #[.int .i64 x] 41 (0, 0)) from hG__ ▸ Laws.heap_new w7 _)
                replace HST := Lib.hid (HST.out.below hZ)
                replace HX := Lib.hid (HX.out.later (Fr.below hZ) (Ext.refl _ _))
                replace HSB := Lib.hid (HSB.out.keep (Fr.below (S := K.never) hZ) (Ext.refl _ _) rfl rfl)
                have HO8 := Lib.hid (HO7.out.move (w' := w8) fun g hg => hZ.block g (HO7.out.lt g hg))
                have h78 := lt_of_heap HNEW.out
                clear hG__ hZ HO7
                refine hK _ _ (fun _ => ?_) ?_
                · exact ⟨cellAt HX.out.b0.hb 0 rfl, cellAt HSB.out.box.hb 7 rfl⟩
                replace hS : _ ∧ _ := ⟨cellAt HX.out.b0.hb 0 rfl, cellAt HSB.out.box.hb 7 rfl⟩
                clear hK K__
                try simp only [Act.put, List.setIfInBounds_toArray, List.set_cons_zero, List.set_cons_succ]
                -- 7: builtin append[t55, t60] types#[56, 56]
                refine Mask.one 7 (by kernel_rfl) rfl rfl (fun K__ hK => ?_)
                refine wp_append_row _ _ 56 rfl 41 j0 (.int .i64 0) 1 8 Try.underlying56 hj hy0 hy1 hy2 rfl (by decide) _ acc.length (intVs acc) rfl HO8.out _ 1 1 [.int .i64 x] rfl ?c1 ?c2 ?c3 ?c4 ?_
                case c1 => exact ⟨rfl, .inr ⟨_, rfl, fun j u hu => by rw [Addr.add_lit, cell_of_heap HNEW.out]; simpa using hu⟩⟩
                case c2 => intro u hu; simp only [List.mem_cons, List.not_mem_nil, or_false] at hu; subst hu; rfl
                case c3 => simp only [maxLen]; omega
                case c4 => omega
                intro v' w9 hapd
                obtain ⟨ay', cy', rfl, _⟩ := hapd.own.2
                have HA := Lib.hid hapd
                have HBK9 := Lib.hid (show ∀ g, blk (.slice ay' (acc.length + 1) cy') = some g → sb < g ∧ κ2 g = .none from fun g hg => by
                    rcases hapd.at_ with e | e
                    · exact HBK7.out g (e ▸ hg)
                    · rw [hg] at e; simp only [Option.some.injEq] at e; subst e; exact ⟨lt_of_heap HSB.out.box.hb, HST.out.sup _ (Nat.le_refl _)⟩)
                have hfa : Fr κ2 (fun k => k == .none) w8 w9 := hapd.fr (fun g hg => by rw [(HBK7.out g hg).2]; rfl)
                have nsb : ∀ b, b ≤ sb → blk (.slice ay acc.length cy) ≠ some b := fun b hb e => by have := (HBK7.out b e).1; omega
                have hkp : ∀ b, b ≤ sb → w9.heap[b]? = w8.heap[b]? := fun b hb => hapd.block b (by have := lt_of_heap HSB.out.box.hb; omega) (nsb b hb)
                replace HST := Lib.hid (HST.out.frNone hfa)
                replace HX := Lib.hid (HX.out.same hkp (by omega) (by omega) (by omega) hfa (by have := HX.out.fr.size; intro b hb e; have := (HBK7.out b e).1; omega) hapd)
                replace HSB := Lib.hid (SnapBox.mk' ⟨(hkp sb (Nat.le_refl _)).trans HSB.out.box.hb, HSB.out.box.kb⟩ (HSB.out.rp.keep (fun b hb hk => hfa.block b hb (by rw [hk]; rfl)) hfa.size (Ext.refl _ _)) (HSB.out.rk.keep (fun b hb hk => hfa.block b hb (by rw [hk]; rfl)) hfa.size (Ext.refl _ _)) (HSB.out.rn.keep (fun b hb hk => hfa.block b hb (by rw [hk]; rfl)) hfa.size (Ext.refl _ _)))
                have y7 : w9.cell? ⟨sb, 7, none⟩ = some (.slice ay acc.length cy) := cellAt HSB.out.box.hb 7 rfl
                have yz : w9.frozen? ⟨sb, 7, none⟩ = false := frozen_of_heap HSB.out.box.hb
                clear hapd hfa hkp nsb HO8 HNEW
                refine hK _ _ (fun h => (by cases h)) ?_
                clear hK K__
                try simp only [Act.put, List.setIfInBounds_toArray, List.set_cons_zero, List.set_cons_succ]
                refine Mask.takeP 8 62 (v := ?_) rfl rfl (by kernel_rfl) (by kernel_rfl) (by kernel_rfl) rfl (fun _ _ _ h => h) (Or.inl ⟨by rfl, ?_⟩) ?_
                rotate_left
                · intro w hSw; (try dsimp only at hSw); go_simp; try with_reducible rfl
                simp only [Act.put, List.setIfInBounds_toArray, List.set_cons_zero, List.set_cons_succ]
                -- 9: store T56 t62 t61
                refine Mask.one 9 (by kernel_rfl) rfl rfl (fun K__ hK => ?_)
                go_simp
                refine hK _ _ (fun h => (by cases h)) ?_
                clear hK K__
                try simp only [Act.put, List.setIfInBounds_toArray, List.set_cons_zero, List.set_cons_succ]
                refine Mask.done (by kernel_rfl) ?_ _
                clear hS
                go_wp2
                go_roundw
                case rel =>
                  have hko : κ2 sb = .none := HSB.out.box.kb
                  have ho : ∀ b, b ≠ sb → (w9.setCell ⟨sb, 7, none⟩ (.slice ay' (acc.length + 1) cy')).heap[b]? = w9.heap[b]? := fun b hb => Below.heap_setCell _ _ _ _ hb
                  have kp : ∀ b, b < w9.heap.size → κ2 b = .imm → (w9.setCell ⟨sb, 7, none⟩ (.slice ay' (acc.length + 1) cy')).heap[b]? = w9.heap[b]? := fun b _ hk => ho b (by intro e; rw [e, hko] at hk; cases hk)
                  have hl : (acc ++ [x]).length = acc.length + 1 := by simp
                  refine ⟨acc ++ [x], T2, σ2, κ2, .slice ay' (acc.length + 1) cy', by rw [hl]; go_num, by rw [hl]; omega, Lib.hid (by rw [hl, HM.out]; exact HW.out), Lib.hid (HST.out.boxed hko ho (setCell_size _ _ _).symm), Lib.hid (HX.out.boxed hko ho (setCell_size _ _ _) (by omega) (by omega) (by omega) (by omega) rfl rfl rfl), Lib.hid (SnapBox.mk' HSB.out.box.set (HSB.out.rp.keep kp (by rw [setCell_size]; exact Nat.le_refl _) (Ext.refl _ _)) (HSB.out.rk.keep kp (by rw [setCell_size]; exact Nat.le_refl _) (Ext.refl _ _)) (HSB.out.rn.keep kp (by rw [setCell_size]; exact Nat.le_refl _) (Ext.refl _ _))), Lib.hid ?_, HBK9⟩
                  rw [hl, intVs_append]
                  exact HA.out.own.move fun g hg => ho g (by have := (HBK9.out g hg).1; omega)
                case measure => simp [intOf]; omega
              · have HW3 := Lib.hid (show whole = (load6b r n first nd acc).exec T1 σ1 by rw [HW.out, show nd.ways.length - acc.length = 0 by omega]; rfl)
                clear HW
                go_wp2
                go_meet
                case rel => exact ⟨acc, T1, σ1, κ3, vy, by omega, HW3, HST, HX, HSB, HO, HBK⟩
          case rest =>
            clear HW HST HX HSB
            obtain ⟨ws, T1, σ1, κ3, vy, hwl, HW, HST, HX, HSB, HO, HBK⟩ := hcut
            have c0 : wc.cell? ⟨tb, 0, none⟩ = some (.pointer (some ⟨pth, 0, none⟩)) := cellAt HX.out.b0.hb 0 rfl
            have c1 : wc.cell? ⟨tb, 1, none⟩ = some (.pointer (some ⟨p.pw, 0, none⟩)) := cellAt HX.out.b0.hb 1 rfl
            have c2 : wc.cell? ⟨tb, 2, none⟩ = some (.int .i64 me) := cellAt HX.out.b0.hb 2 rfl
            have c3 : wc.cell? ⟨rb, 0, none⟩ = some (.int .i64 r) := cellAt HX.out.b1.hb 0 rfl
            go_wp2_with fail
            clear c0 c1 c2 c3
            refine (linfo_ok (me := me) HST.out r).mono ?_
            rintro e w7b hh
            rcases hh.elim with ⟨T2, σ2, κ2, hr2, rfl, hst2, hf2, he2⟩ | ⟨m, T2, σ2, κ2, v, hr2, rfl, hv, hst2, hf2, he2⟩
            · have hx := HX.out.later hf2 he2
              refine ⟨rfl, ?_⟩
              rw [HW.out, load6b, Pr.exec_bind, hr2]
              exact ⟨κ2, rfl, hst2, hx.fr, hx.ex⟩
            replace hv : v = .int .i64 m := hv
            subst hv
            replace HW := Lib.hid (show whole = (load6c r n first nd ws m).exec T2 σ2 by rw [HW.out, load6b, Pr.exec_bind, hr2]; rfl)
            replace HSB := Lib.hid (HSB.out.keep hf2 he2 rfl rfl)
            have HBK' := Lib.hid (show ∀ g, blk vy = some g → sb < g ∧ κ2 g = .none from fun g hg => ⟨(HBK.out g hg).1, (he2 g (HO.out.lt g hg)).trans (HBK.out g hg).2⟩)
            replace HO := Lib.hid (HO.out.move (w' := w7b) fun g hg => hf2.block g (HO.out.lt g hg) (by rw [(HBK.out g hg).2]; rfl))
            replace HBK := HBK'
            clear HBK'
            replace HX := Lib.hid (HX.out.later hf2 he2)
            replace HST := Lib.hid hst2
            clear hh hr2 hst2 hf2 he2
            by_cases hm : m = n
            · have em : (m == n) = true := by simp [hm]
              have HWf := Lib.hid (show whole = .out (⟨r, n, nd, ws⟩, 0) T2 σ2 by rw [HW.out, load6c, if_pos hm]; rfl)
              clear hm HW
              obtain ⟨ap, cp, rfl, _, _⟩ := HSB.out.rp.shape
              obtain ⟨ak, ck, rfl, _, _⟩ := HSB.out.rk.shape
              obtain ⟨_, ay, cy, rfl, _, _, _⟩ := id HO.out
              have y0 : w7b.cell? ⟨sb, 0, none⟩ = some (.int .i64 r) := cellAt HSB.out.box.hb 0 rfl
              have y1 : w7b.cell? ⟨sb, 1, none⟩ = some (.int .i64 n) := cellAt HSB.out.box.hb 1 rfl
              have y2 : w7b.cell? ⟨sb, 2, none⟩ = some (.bool nd.inner) := cellAt HSB.out.box.hb 2 rfl
              have y3 : w7b.cell? ⟨sb, 3, none⟩ = some (.bool nd.tagged) := cellAt HSB.out.box.hb 3 rfl
              have y4 : w7b.cell? ⟨sb, 4, none⟩ = some (.slice ap nd.pairs.length cp) := cellAt HSB.out.box.hb 4 rfl
              have y5 : w7b.cell? ⟨sb, 5, none⟩ = some (.slice ak nd.keys.length ck) := cellAt HSB.out.box.hb 5 rfl
              have y6 : w7b.cell? ⟨sb, 6, none⟩ = some (.slice an nd.ways.length cn) := cellAt HSB.out.box.hb 6 rfl
              have y7 : w7b.cell? ⟨sb, 7, none⟩ = some (.slice ay ws.length cy) := cellAt HSB.out.box.hb 7 rfl
              have z0 : w7b.cell? ⟨zb, 0, none⟩ = some (.int .i64 0) := cellAt HX.out.b2.hb 0 rfl
              have z1 : w7b.cell? ⟨zb, 1, none⟩ = some (.int .i64 0) := cellAt HX.out.b2.hb 1 rfl
              have z2 : w7b.cell? ⟨zb, 2, none⟩ = some (.bool false) := cellAt HX.out.b2.hb 2 rfl
              have z3 : w7b.cell? ⟨zb, 3, none⟩ = some (.bool false) := cellAt HX.out.b2.hb 3 rfl
              have z4 : w7b.cell? ⟨zb, 4, none⟩ = some (.slice none 0 0) := cellAt HX.out.b2.hb 4 rfl
              have z5 : w7b.cell? ⟨zb, 5, none⟩ = some (.slice none 0 0) := cellAt HX.out.b2.hb 5 rfl
              have z6 : w7b.cell? ⟨zb, 6, none⟩ = some (.slice none 0 0) := cellAt HX.out.b2.hb 6 rfl
              have z7 : w7b.cell? ⟨zb, 7, none⟩ = some (.slice none 0 0) := cellAt HX.out.b2.hb 7 rfl
              have zz : ∀ k, w7b.frozen? ⟨zb, k, none⟩ = false := fun k => frozen_of_heap HX.out.b2.hb
              go_wp2
              generalize hwf : ((((((((w7b.setCell ⟨zb, 0, none⟩ (.int .i64 r)).setCell ⟨zb, 1, none⟩ (.int .i64 n)).setCell ⟨zb, 2, none⟩ (.bool nd.inner)).setCell ⟨zb, 3, none⟩ (.bool nd.tagged)).setCell ⟨zb, 4, none⟩ (.slice ap nd.pairs.length cp)).setCell ⟨zb, 5, none⟩ (.slice ak nd.keys.length ck)).setCell ⟨zb, 6, none⟩ (.slice an nd.ways.length cn)).setCell ⟨zb, 7, none⟩ (.slice ay ws.length cy)) = wf
              obtain ⟨g1, g2, g3, g4, g5, g6⟩ := eight_sets HX.out.b2 hwf
              clear hwf z0 z1 z2 z3 z4 z5 z6 z7 zz
              have f0 : wf.cell? ⟨zb, 0, none⟩ = some (.int .i64 r) := cellAt g1.hb 0 rfl
              have f1 : wf.cell? ⟨zb, 1, none⟩ = some (.int .i64 n) := cellAt g1.hb 1 rfl
              have f2 : wf.cell? ⟨zb, 2, none⟩ = some (.bool nd.inner) := cellAt g1.hb 2 rfl
              have f3 : wf.cell? ⟨zb, 3, none⟩ = some (.bool nd.tagged) := cellAt g1.hb 3 rfl
              have f4 : wf.cell? ⟨zb, 4, none⟩ = some (.slice ap nd.pairs.length cp) := cellAt g1.hb 4 rfl
              have f5 : wf.cell? ⟨zb, 5, none⟩ = some (.slice ak nd.keys.length ck) := cellAt g1.hb 5 rfl
              have f6 : wf.cell? ⟨zb, 6, none⟩ = some (.slice an nd.ways.length cn) := cellAt g1.hb 6 rfl
              have f7 : wf.cell? ⟨zb, 7, none⟩ = some (.slice ay ws.length cy) := cellAt g1.hb 7 rfl
              refine bodyPost_ret (v := .tuple #[.agg #[.int .i64 r, .int .i64 n, .bool nd.inner, .bool nd.tagged, .slice ap nd.pairs.length cp, .slice ak nd.keys.length ck, .slice an nd.ways.length cn, .slice ay ws.length cy], .int .u8 0]) (by simp [results, Try.results140, go_sem, *]) rfl ?_
              have hkz : _ = K.none := HX.out.b2.kb
              have hkp : ∀ b, b < w7b.heap.size → κ2 b = .imm → wf.heap[b]? = w7b.heap[b]? := fun b _ hk => g2 b (by intro e; rw [e, hkz] at hk; cases hk)
              have hzl := lt_of_heap HX.out.b2.hb
              have hin : ∀ g, some g ∈ [blk (Value.slice ay ws.length cy)] → sb < g ∧ κ2 g = .none ∧ g < w7b.heap.size := fun g hg => by
                simp only [List.mem_cons, List.not_mem_nil, or_false] at hg
                exact ⟨(HBK.out g hg.symm).1, (HBK.out g hg.symm).2, HO.out.lt g hg.symm⟩
              have hKin : Kin κ2 (imms κ2 [blk (Value.slice ay ws.length cy)]) := Kin.imms fun g hg => (hin g hg).2.1
              have hSt := HST.out.boxed hkz g2 g3.symm
              have hfr : Fr κ (K.step wi j) w wf := ⟨g4.trans HX.out.fr.os, g5.trans HX.out.fr.tape, g6.trans HX.out.fr.output, by have := HX.out.fr.size; omega, fun c hc hS => (g2 c (by omega)).trans (HX.out.fr.block c hc hS)⟩
              rw [HWf.out]
              refine ⟨imms κ2 [blk (Value.slice ay ws.length cy)], _, rfl, ⟨_, rfl, ⟨_, _, _, _, rfl, (HSB.out.rp.keep hkp (by omega) (Ext.refl _ _)).rekind (by simp) hKin, (HSB.out.rk.keep hkp (by omega) (Ext.refl _ _)).rekind (by simp) hKin, (HSB.out.rn.keep hkp (by omega) (Ext.refl _ _)).rekind (by simp) hKin, ?_, hwl⟩⟩, hSt.rekind hKin ?_, hfr, ?_⟩
              · exact Row.ofOwn (HO.out.move fun g hg => g2 g (by have := (HBK.out g hg).1; omega)) (fun g hg => imms_at (by simp [hg])) HO.out.noneEmpty
              · exact imms_sup HST.out.sup (by omega) fun g hg => by have := hin g hg; omega
              · intro b hb
                have hnb : ¬ some b ∈ [blk (Value.slice ay ws.length cy)] := fun hm => by have := hin b hm; omega
                simp only [imms, if_neg hnb]
                exact HX.out.ex b hb
            · have em : (m == n) = false := by simp [hm]
              have HW7 := Lib.hid (show whole = (load7 r n first).exec T2 σ2 by rw [HW.out, load6c, if_neg hm])
              clear hm HW
              go_wp2
              go_meet
              case rel => exact ⟨T2, σ2, κ2, HW7, HST, HX⟩
    case rest =>
      clear HW HST HX
      obtain ⟨T1, σ1, κ1, HW, HST, HX⟩ := hcut
      have c0 : wc.cell? ⟨tb, 0, none⟩ = some (.pointer (some ⟨pth, 0, none⟩)) := cellAt HX.out.b0.hb 0 rfl
      have c1 : wc.cell? ⟨tb, 1, none⟩ = some (.pointer (some ⟨p.pw, 0, none⟩)) := cellAt HX.out.b0.hb 1 rfl
      have c2 : wc.cell? ⟨tb, 2, none⟩ = some (.int .i64 me) := cellAt HX.out.b0.hb 2 rfl
      go_wp2_with fail
      clear c0 c1 c2
      refine (lstate_ok (me := me) HST.out n).mono ?_
      rintro e wB hh
      rcases hh.elim with ⟨T2, σ2, κ2, hr2, rfl, hst2, hf2, he2⟩ | ⟨now, T2, σ2, κ2, v, hr2, rfl, hv, hst2, hf2, he2⟩
      · have hx := HX.out.later hf2 he2
        refine ⟨rfl, ?_⟩
        rw [HW.out, load7, Pr.exec_bind, hr2]
        exact ⟨κ2, rfl, hst2, hx.fr, hx.ex⟩
      replace hv : v = .int .u8 now := hv
      subst hv
      replace HW := Lib.hid (show whole = (load7b r n first now).exec T2 σ2 by rw [HW.out, load7, Pr.exec_bind, hr2]; rfl)
      replace HX := Lib.hid (HX.out.later hf2 he2)
      replace HST := Lib.hid hst2
      clear hh hr2 hst2 hf2 he2
      go_upto_region 15 with fail
      go_cut [86] from 73 to 86 (fun v86 wx => ∃ (d : Bool) (T1 : TS) (σ1 : ShS) (κ1 : Nat → Ytacmeafpieoaaaa.K), v86 = .bool (d && first) ∧ Hid (whole = (load7c r first d).exec T1 σ1) ∧ Hid (St κ1 wx wi p j pth work T1 σ1) ∧ Hid (LdCtx κ w wi p j pth me r tb rb zb κ1 wx))
      case first =>
        by_cases h2 : now = 2
        · have e2 : (now == 2) = true := by simp [h2]
          have HWn := Lib.hid (show whole = (load7c r first true).exec T2 σ2 by rw [HW.out, load7b, if_pos h2])
          clear h2 HW
          cases first with
          | true => go_wp2; go_meet; case rel => exact ⟨true, T2, σ2, κ2, rfl, HWn, HST, HX⟩
          | false => go_wp2; go_meet; case rel => exact ⟨true, T2, σ2, κ2, rfl, HWn, HST, HX⟩
        · have e2 : (now == 2) = false := by simp [h2]
          by_cases h1 : now = 1
          · have e1 : (now == 1) = true := by simp [h1]
            replace HW := Lib.hid (show whole = ((recP n).bind (load7c r first)).exec T2 σ2 by rw [HW.out, load7b, if_neg h2, if_pos h1])
            clear h1 h2
            have c0 : wB.cell? ⟨tb, 0, none⟩ = some (.pointer (some ⟨pth, 0, none⟩)) := cellAt HX.out.b0.hb 0 rfl
            have c1 : wB.cell? ⟨tb, 1, none⟩ = some (.pointer (some ⟨p.pw, 0, none⟩)) := cellAt HX.out.b0.hb 1 rfl
            have c2 : wB.cell? ⟨tb, 2, none⟩ = some (.int .i64 me) := cellAt HX.out.b0.hb 2 rfl
            go_wp2_with fail
            clear c0 c1 c2
            refine (record_ok (me := me) HST.out n).mono ?_
            rintro e wC hh
            rcases hh.elim with ⟨T2, σ2, κ2, hr2, rfl, hst2, hf2, he2⟩ | ⟨d, T2, σ2, κ2, v, hr2, rfl, hv, hst2, hf2, he2⟩
            · have hx := HX.out.later hf2 he2
              refine ⟨rfl, ?_⟩
              rw [HW.out, Pr.exec_bind, hr2]
              exact ⟨κ2, rfl, hst2, hx.fr, hx.ex⟩
            replace hv : v = .bool d := hv
            subst hv
            replace HW := Lib.hid (show whole = (load7c r first d).exec T2 σ2 by rw [HW.out, Pr.exec_bind, hr2]; rfl)
            replace HX := Lib.hid (HX.out.later hf2 he2)
            replace HST := Lib.hid hst2
            clear hh hr2 hst2 hf2 he2
            cases d with
            | true =>
              cases first with
              | true => go_wp2; go_meet; case rel => exact ⟨true, T2, σ2, κ2, rfl, HW, HST, HX⟩
              | false => go_wp2; go_meet; case rel => exact ⟨true, T2, σ2, κ2, rfl, HW, HST, HX⟩
            | false => go_wp2; go_meet; case rel => exact ⟨false, T2, σ2, κ2, rfl, HW, HST, HX⟩
          · have e1 : (now == 1) = false := by simp [h1]
            have HWn := Lib.hid (show whole = (load7c r first false).exec T2 σ2 by rw [HW.out, load7b, if_neg h2, if_neg h1])
            clear h1 h2 HW
            go_wp2
            go_meet
            case rel => exact ⟨false, T2, σ2, κ2, rfl, HWn, HST, HX⟩
      case rest =>
        clear HW HST HX
        obtain ⟨d, T1, σ1, κ1, rfl, HW, HST, HX⟩ := hcut
        by_cases hdf : d = true ∧ first = true
        · have HWf := Lib.hid (show whole = .out (SnapS.zero, 2) T1 σ1 by rw [HW.out, load7c, if_pos hdf]; rfl)
          obtain ⟨rfl, rfl⟩ := hdf
          clear HW
          have z0 : wc.cell? ⟨zb, 0, none⟩ = some (.int .i64 0) := cellAt HX.out.b2.hb 0 rfl
          have z1 : wc.cell? ⟨zb, 1, none⟩ = some (.int .i64 0) := cellAt HX.out.b2.hb 1 rfl
          have z2 : wc.cell? ⟨zb, 2, none⟩ = some (.bool false) := cellAt HX.out.b2.hb 2 rfl
          have z3 : wc.cell? ⟨zb, 3, none⟩ = some (.bool false) := cellAt HX.out.b2.hb 3 rfl
          have z4 : wc.cell? ⟨zb, 4, none⟩ = some (.slice none 0 0) := cellAt HX.out.b2.hb 4 rfl
          have z5 : wc.cell? ⟨zb, 5, none⟩ = some (.slice none 0 0) := cellAt HX.out.b2.hb 5 rfl
          have z6 : wc.cell? ⟨zb, 6, none⟩ = some (.slice none 0 0) := cellAt HX.out.b2.hb 6 rfl
          have z7 : wc.cell? ⟨zb, 7, none⟩ = some (.slice none 0 0) := cellAt HX.out.b2.hb 7 rfl
          have zz : ∀ k, wc.frozen? ⟨zb, k, none⟩ = false := fun k => frozen_of_heap HX.out.b2.hb
          go_wp2
          generalize hwf : ((((((((wc.setCell ⟨zb, 0, none⟩ (.int .i64 0)).setCell ⟨zb, 1, none⟩ (.int .i64 0)).setCell ⟨zb, 2, none⟩ (.bool false)).setCell ⟨zb, 3, none⟩ (.bool false)).setCell ⟨zb, 4, none⟩ (.slice none 0 0)).setCell ⟨zb, 5, none⟩ (.slice none 0 0)).setCell ⟨zb, 6, none⟩ (.slice none 0 0)).setCell ⟨zb, 7, none⟩ (.slice none 0 0)) = wf
          obtain ⟨g1, g2, g3, g4, g5, g6⟩ := eight_sets HX.out.b2 hwf
          clear hwf z0 z1 z2 z3 z4 z5 z6 z7 zz
          have f0 : wf.cell? ⟨zb, 0, none⟩ = some (.int .i64 0) := cellAt g1.hb 0 rfl
          have f1 : wf.cell? ⟨zb, 1, none⟩ = some (.int .i64 0) := cellAt g1.hb 1 rfl
          have f2 : wf.cell? ⟨zb, 2, none⟩ = some (.bool false) := cellAt g1.hb 2 rfl
          have f3 : wf.cell? ⟨zb, 3, none⟩ = some (.bool false) := cellAt g1.hb 3 rfl
          have f4 : wf.cell? ⟨zb, 4, none⟩ = some (.slice none 0 0) := cellAt g1.hb 4 rfl
          have f5 : wf.cell? ⟨zb, 5, none⟩ = some (.slice none 0 0) := cellAt g1.hb 5 rfl
          have f6 : wf.cell? ⟨zb, 6, none⟩ = some (.slice none 0 0) := cellAt g1.hb 6 rfl
          have f7 : wf.cell? ⟨zb, 7, none⟩ = some (.slice none 0 0) := cellAt g1.hb 7 rfl
          refine bodyPost_ret (v := .tuple #[.agg #[.int .i64 0, .int .i64 0, .bool false, .bool false, .slice none 0 0, .slice none 0 0, .slice none 0 0, .slice none 0 0], .int .u8 2]) (by simp [results, Try.results140, go_sem, *]) rfl ?_
          have hkz : _ = K.none := HX.out.b2.kb
          have hfr : Fr κ (K.step wi j) w wf := ⟨g4.trans HX.out.fr.os, g5.trans HX.out.fr.tape, g6.trans HX.out.fr.output, by have := HX.out.fr.size; omega, fun c hc hS => (g2 c (by omega)).trans (HX.out.fr.block c hc hS)⟩
          rw [HWf.out]
          exact ⟨κ1, _, rfl, ⟨_, rfl, ⟨_, _, _, _, rfl, Row.nil _ _ _ _, Row.nil _ _ _ _, Row.nil _ _ _ _, Row.nil _ _ _ _, Nat.zero_le _⟩⟩, HST.out.boxed hkz g2 g3.symm, hfr, HX.out.ex⟩
        · replace HW := Lib.hid (show whole = ((Pr.one (tInfo r)).bind load9).exec T1 σ1 by rw [HW.out, load7c, if_neg hdf]; rfl)
          have hdf' : (d && first) = false := by cases d <;> cases first <;> simp_all
          rw [hdf']
          clear hdf
          have c0 : wc.cell? ⟨tb, 0, none⟩ = some (.pointer (some ⟨pth, 0, none⟩)) := cellAt HX.out.b0.hb 0 rfl
          have c1 : wc.cell? ⟨tb, 1, none⟩ = some (.pointer (some ⟨p.pw, 0, none⟩)) := cellAt HX.out.b0.hb 1 rfl
          have c2 : wc.cell? ⟨tb, 2, none⟩ = some (.int .i64 me) := cellAt HX.out.b0.hb 2 rfl
          have c3 : wc.cell? ⟨rb, 0, none⟩ = some (.int .i64 r) := cellAt HX.out.b1.hb 0 rfl
          go_wp2_with fail
          clear c0 c1 c2 c3
          refine (linfo_ok (me := me) HST.out r).mono ?_
          rintro e wD hh
          rcases hh.elim with ⟨T2, σ2, κ2, hr2, rfl, hst2, hf2, he2⟩ | ⟨m, T2, σ2, κ2, v, hr2, rfl, hv, hst2, hf2, he2⟩
          · have hx := HX.out.later hf2 he2
            refine ⟨rfl, ?_⟩
            rw [HW.out, Pr.exec_bind, hr2]
            exact ⟨κ2, rfl, hst2, hx.fr, hx.ex⟩
          replace hv : v = .int .i64 m := hv
          subst hv
          replace HW := Lib.hid (show whole = (load9 m).exec T2 σ2 by rw [HW.out, Pr.exec_bind, hr2]; rfl)
          replace HX := Lib.hid (HX.out.later hf2 he2)
          replace HST := Lib.hid hst2
          clear hh hr2 hst2 hf2 he2
          have c0 : wD.cell? ⟨tb, 0, none⟩ = some (.pointer (some ⟨pth, 0, none⟩)) := cellAt HX.out.b0.hb 0 rfl
          have c1 : wD.cell? ⟨tb, 1, none⟩ = some (.pointer (some ⟨p.pw, 0, none⟩)) := cellAt HX.out.b0.hb 1 rfl
          have c2 : wD.cell? ⟨tb, 2, none⟩ = some (.int .i64 me) := cellAt HX.out.b0.hb 2 rfl
          go_wp2_with fail
          clear c0 c1 c2
          refine (lstate_ok (me := me) HST.out m).mono ?_
          rintro e wE hh
          rcases hh.elim with ⟨T2, σ2, κ2, hr2, rfl, hst2, hf2, he2⟩ | ⟨st, T2, σ2, κ2, v, hr2, rfl, hv, hst2, hf2, he2⟩
          · have hx := HX.out.later hf2 he2
            refine ⟨rfl, ?_⟩
            rw [HW.out, load9, Pr.exec_bind, hr2]
            exact ⟨κ2, rfl, hst2, hx.fr, hx.ex⟩
          replace hv : v = .int .u8 st := hv
          subst hv
          replace HW := Lib.hid (show whole = (load10 m st).exec T2 σ2 by rw [HW.out, load9, Pr.exec_bind, hr2]; rfl)
          replace HX := Lib.hid (HX.out.later hf2 he2)
          replace HST := Lib.hid hst2
          clear hh hr2 hst2 hf2 he2
          go_upto_if 94 with fail
          go_cut [94] from 95 to 97 (fun _ wx => ∃ (T1 : TS) (σ1 : ShS) (κ1 : Nat → Ytacmeafpieoaaaa.K), Hid (whole = .out (SnapS.zero, 1) T1 σ1) ∧ Hid (St κ1 wx wi p j pth work T1 σ1) ∧ Hid (LdCtx κ w wi p j pth me r tb rb zb κ1 wx))
          case first =>
            by_cases h1 : st = 1
            · have e1 : (st == 1) = true := by simp [h1]
              replace HW := Lib.hid (show whole = ((recP m).bind fun _ => .ret (SnapS.zero, 1)).exec T2 σ2 by rw [HW.out, load10, if_pos h1])
              clear h1
              have c0 : wE.cell? ⟨tb, 0, none⟩ = some (.pointer (some ⟨pth, 0, none⟩)) := cellAt HX.out.b0.hb 0 rfl
              have c1 : wE.cell? ⟨tb, 1, none⟩ = some (.pointer (some ⟨p.pw, 0, none⟩)) := cellAt HX.out.b0.hb 1 rfl
              have c2 : wE.cell? ⟨tb, 2, none⟩ = some (.int .i64 me) := cellAt HX.out.b0.hb 2 rfl
              go_wp2_with fail
              clear c0 c1 c2
              refine (record_ok (me := me) HST.out m).mono ?_
              rintro e wF hh
              rcases hh.elim with ⟨T2, σ2, κ2, hr2, rfl, hst2, hf2, he2⟩ | ⟨d2, T2, σ2, κ2, v, hr2, rfl, hv, hst2, hf2, he2⟩
              · have hx := HX.out.later hf2 he2
                refine ⟨rfl, ?_⟩
                rw [HW.out, Pr.exec_bind, hr2]
                exact ⟨κ2, rfl, hst2, hx.fr, hx.ex⟩
              replace hv : v = .bool d2 := hv
              subst hv
              replace HW := Lib.hid (show whole = ((Pr.ret (SnapS.zero, 1) : Pr (SnapS × Int))).exec T2 σ2 by rw [HW.out, Pr.exec_bind, hr2]; rfl)
              replace HX := Lib.hid (HX.out.later hf2 he2)
              replace HST := Lib.hid hst2
              clear hh hr2 hst2 hf2 he2
              go_wp2
              go_meet
              case rel => exact ⟨T2, σ2, κ2, HW, HST, HX⟩
            · have e1 : (st == 1) = false := by simp [h1]
              have HWn := Lib.hid (show whole = .out (SnapS.zero, 1) T2 σ2 by rw [HW.out, load10, if_neg h1]; rfl)
              clear h1 HW
              go_wp2
              go_meet
              case rel => exact ⟨T2, σ2, κ2, HWn, HST, HX⟩
          case rest =>
            clear HW HST HX
            obtain ⟨T1, σ1, κ1, HWf, HST, HX⟩ := hcut
            have z0 : wc.cell? ⟨zb, 0, none⟩ = some (.int .i64 0) := cellAt HX.out.b2.hb 0 rfl
            have z1 : wc.cell? ⟨zb, 1, none⟩ = some (.int .i64 0) := cellAt HX.out.b2.hb 1 rfl
            have z2 : wc.cell? ⟨zb, 2, none⟩ = some (.bool false) := cellAt HX.out.b2.hb 2 rfl
            have z3 : wc.cell? ⟨zb, 3, none⟩ = some (.bool false) := cellAt HX.out.b2.hb 3 rfl
            have z4 : wc.cell? ⟨zb, 4, none⟩ = some (.slice none 0 0) := cellAt HX.out.b2.hb 4 rfl
            have z5 : wc.cell? ⟨zb, 5, none⟩ = some (.slice none 0 0) := cellAt HX.out.b2.hb 5 rfl
            have z6 : wc.cell? ⟨zb, 6, none⟩ = some (.slice none 0 0) := cellAt HX.out.b2.hb 6 rfl
            have z7 : wc.cell? ⟨zb, 7, none⟩ = some (.slice none 0 0) := cellAt HX.out.b2.hb 7 rfl
            have zz : ∀ k, wc.frozen? ⟨zb, k, none⟩ = false := fun k => frozen_of_heap HX.out.b2.hb
            go_wp2
            generalize hwf : ((((((((wc.setCell ⟨zb, 0, none⟩ (.int .i64 0)).setCell ⟨zb, 1, none⟩ (.int .i64 0)).setCell ⟨zb, 2, none⟩ (.bool false)).setCell ⟨zb, 3, none⟩ (.bool false)).setCell ⟨zb, 4, none⟩ (.slice none 0 0)).setCell ⟨zb, 5, none⟩ (.slice none 0 0)).setCell ⟨zb, 6, none⟩ (.slice none 0 0)).setCell ⟨zb, 7, none⟩ (.slice none 0 0)) = wf
            obtain ⟨g1, g2, g3, g4, g5, g6⟩ := eight_sets HX.out.b2 hwf
            clear hwf z0 z1 z2 z3 z4 z5 z6 z7 zz
            have f0 : wf.cell? ⟨zb, 0, none⟩ = some (.int .i64 0) := cellAt g1.hb 0 rfl
            have f1 : wf.cell? ⟨zb, 1, none⟩ = some (.int .i64 0) := cellAt g1.hb 1 rfl
            have f2 : wf.cell? ⟨zb, 2, none⟩ = some (.bool false) := cellAt g1.hb 2 rfl
            have f3 : wf.cell? ⟨zb, 3, none⟩ = some (.bool false) := cellAt g1.hb 3 rfl
            have f4 : wf.cell? ⟨zb, 4, none⟩ = some (.slice none 0 0) := cellAt g1.hb 4 rfl
            have f5 : wf.cell? ⟨zb, 5, none⟩ = some (.slice none 0 0) := cellAt g1.hb 5 rfl
            have f6 : wf.cell? ⟨zb, 6, none⟩ = some (.slice none 0 0) := cellAt g1.hb 6 rfl
            have f7 : wf.cell? ⟨zb, 7, none⟩ = some (.slice none 0 0) := cellAt g1.hb 7 rfl
            refine bodyPost_ret (v := .tuple #[.agg #[.int .i64 0, .int .i64 0, .bool false, .bool false, .slice none 0 0, .slice none 0 0, .slice none 0 0, .slice none 0 0], .int .u8 1]) (by simp [results, Try.results140, go_sem, *]) rfl ?_
            have hkz : _ = K.none := HX.out.b2.kb
            have hfr : Fr κ (K.step wi j) w wf := ⟨g4.trans HX.out.fr.os, g5.trans HX.out.fr.tape, g6.trans HX.out.fr.output, by have := HX.out.fr.size; omega, fun c hc hS => (g2 c (by omega)).trans (HX.out.fr.block c hc hS)⟩
            rw [HWf.out]
            exact ⟨κ1, _, rfl, ⟨_, rfl, ⟨_, _, _, _, rfl, Row.nil _ _ _ _, Row.nil _ _ _ _, Row.nil _ _ _ _, Row.nil _ _ _ _, Nat.zero_le _⟩⟩, HST.out.boxed hkz g2 g3.symm, hfr, HX.out.ex⟩
end
end Go.Proofs.Ytacmeafpieoaaaa
