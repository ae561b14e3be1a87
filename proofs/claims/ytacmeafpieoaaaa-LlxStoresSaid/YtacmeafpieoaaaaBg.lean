/- Task.Begin, Task.End. -/
import Derived.Test.YtacmeafpieoaaaaPk
import Derived.Test.YtacmeafpieoaaaaAw
import Derived.Deep.CutRange
import Derived.Deep.CutBlock
import Derived.Deep.LoopGhost
namespace Go.Proofs.Ytacmeafpieoaaaa
open Go.RowKit

def begLoop (now : Int) (k : Nat) : Nat → Pr Bool
  | 0 => .ret true
  | m + 1 => (Pr.one (tSaid k)).bind fun said => if said ≠ -1 ∧ said ≠ now then .ret false else begLoop now (k + 1) m
def zeroLoop : Nat → Pr Unit
  | 0 => .ret ()
  | m + 1 => (Pr.one tNone).bind fun n => if n = 0 then .ret () else zeroLoop m
def begin4 : Pr Unit := (Pr.one tNow).bind fun _ => zeroLoop 100002
def begin3 (now : Int) (all : Bool) : Pr Unit := (if all = true then (Pr.ask (tSwap now)).bind fun _ => .ret () else .ret ()).bind fun _ => begin4
def begin2 (n : Nat) (now : Int) : Pr Unit := (begLoop now 0 n).bind (begin3 now)
def begin1 (me : Int) (n : Nat) (now : Int) : Pr Unit := (Pr.one (tSay me now)).bind fun _ => begin2 n now
def beginP (me : Int) (n : Nat) : Pr Unit := (Pr.one tNow).bind (begin1 me n)

section
variable {κ κ' : Nat → K} {w w' : World} {wi j pth : Nat} {p : WdP} {σ : ShS} {T : TS} {me : Int} {work : Value}

theorem enters64 : Enters Try.prog 64 := enters_of Try.func64 (by kernel_rfl) rfl
theorem touch_now : Touch κ w wi p j σ 64 #[.pointer (some ⟨p.pe, 0, none⟩)] (fun x => .int .i64 x.1) tNow := by
  intro w1 hf hw hs
  refine (now_ok hw.ep).mono ?_
  rintro e w' ⟨rfl, rfl⟩
  exact ⟨κ, rfl, hw, Fr.refl _ _ _, Ext.refl _ _, hs⟩
theorem BoxAt.set {b i : Nat} {cs : Array Value} {t : TypeId} {v : Value} (h : BoxAt κ w b cs t) : BoxAt κ (w.setCell ⟨b, i, none⟩ v) b (cs.setIfInBounds i v) t := ⟨heap_setCell_at h.hb v, h.kb⟩
theorem BoxAt.setOther {b : Nat} {cs : Array Value} {t : TypeId} {a : Addr} {v : Value} (h : BoxAt κ w b cs t) (hb : b ≠ a.block) : BoxAt κ (w.setCell a v) b cs t := ⟨(Below.heap_setCell _ _ _ _ hb).trans h.hb, h.kb⟩
/-- What one touch comes to. -/
theorem one_out {f : ShS → Int × ShS} {n : Int} {T2 : TS} {σ2 : ShS} (h : (Pr.one f).exec T σ = .out n T2 σ2) : (T.log[T.pos]? = some n ∧ T2 = T.told ∧ σ2 = σ) ∨ (T.log[T.pos]? = none ∧ n = (f σ).1 ∧ T2 = T.more n ∧ σ2 = (f σ).2) := by
  simp only [Pr.one, Pr.exec] at h
  split at h
  · rename_i m hm
    simp only [Res.out.injEq] at h
    obtain ⟨rfl, rfl, rfl⟩ := h
    exact .inl ⟨hm, rfl, rfl⟩
  · rename_i hm
    split at h
    · cases h
    · simp only [Res.out.injEq] at h
      obtain ⟨rfl, rfl, rfl⟩ := h
      exact .inr ⟨hm, rfl, rfl, rfl⟩

theorem enters129 : Enters Try.prog 129 := enters_of Try.func129 (by kernel_rfl) rfl
set_option maxRecDepth 100000 in
theorem one_ok (hW : WdRep κ w wi p σ) (hS : Sup κ w) (now : Int) : Calls Try.prog 130 #[.agg (taskCs pth p me), .int .i64 now] w fun e w' => e = .returned (.int .i64 0) ∧ Below w.heap.size w w' := by
  have H := Lib.hid hW
  clear hW
  simp only [taskCs]
  go_enter Try.func130, Try.ntmps130
  go_upto_region 1 with fail
  generalize hw0 : w.alloc (.cells #[.pointer (some ⟨pth, 0, none⟩), .pointer (some ⟨p.pw, 0, none⟩), .int .i64 me] 85) = w0
  have hB0 : Below w.heap.size w w0 := hw0 ▸ (Below.refl _ _).alloc (Nat.le_refl _) _
  have b0 : BoxAt κ w0 w.heap.size (taskCs pth p me) 85 := hw0 ▸ BoxAt.new hS _ _
  have b1 : BoxAt κ w0.drew w.heap.size (taskCs pth p me) 85 := b0.below (Below.refl _ _).drew
  have HB := Lib.hid (show Below w.heap.size w w0.drew from hB0.drew)
  have HWD := Lib.hid (H.out.below HB.out (Ext.refl _ _))
  clear hw0 b0 hB0 hS
  generalize hWd : w0.drew = W at *
  have c0 : W.cell? ⟨w.heap.size, 2, none⟩ = some (.int .i64 me) := cellAt b1.hb 2 rfl
  have c1 : W.cell? ⟨w.heap.size, 1, none⟩ = some (.pointer (some ⟨p.pw, 0, none⟩)) := cellAt b1.hb 1 rfl
  have c2 : W.cell? ⟨p.pw, 2, none⟩ = some (.pointer (some ⟨p.pe, 0, none⟩)) := cellAt HWD.out.hpw 2 rfl
  refine wp_tail_at 8 (by kernel_rfl) (by kernel_rfl) W hWd ?_
  clear hWd b1
  simp only [List.take_succ_cons, List.take_zero, List.drop_succ_cons, List.drop_zero]
  repeat still_step
  refine wpStill_nil ?_
  go_wp2_with fail
  refine (ready_ok HWD.out.ep me now).mono ?_
  rintro e w' ⟨rfl, hw'⟩
  replace hw' := hw'.symm
  subst hw'
  go_wp2
  go_ret
  exact ⟨rfl, HB.out⟩
set_option maxRecDepth 100000 in
theorem touch_one {tb nb : Nat} {n : Int} (htb : BoxAt κ w tb (taskCs pth p me) 85) (hnb : BoxAt κ w nb #[.int .i64 n] 2) : Touch κ w wi p j σ 129 #[.pointer (some ⟨tb, 0, none⟩), .pointer (some ⟨nb, 0, none⟩)] (fun x => .int .i64 x.1) tNone := by
  intro w1 hf hw hs
  have htb1 := htb.keep hf (Ext.refl _ _) rfl
  have hnb1 := hnb.keep hf (Ext.refl _ _) rfl
  have c0 : w1.cell? ⟨tb, 0, none⟩ = some (.pointer (some ⟨pth, 0, none⟩)) := cellAt htb1.hb 0 rfl
  have c1 : w1.cell? ⟨tb, 1, none⟩ = some (.pointer (some ⟨p.pw, 0, none⟩)) := cellAt htb1.hb 1 rfl
  have c2 : w1.cell? ⟨tb, 2, none⟩ = some (.int .i64 me) := cellAt htb1.hb 2 rfl
  have c3 : w1.cell? ⟨nb, 0, none⟩ = some (.int .i64 n) := cellAt hnb1.hb 0 rfl
  have HW := Lib.hid hw
  clear hf htb hnb htb1 hnb1 hw
  go_enter Try.func129, Try.ntmps129
  go_wp2_with fail
  refine (one_ok (me := me) HW.out hs n).mono ?_
  rintro e w2 ⟨rfl, hB⟩
  have HB := Lib.hid hB
  clear c0 c1 c2 c3 hB
  go_wp2
  go_ret
  exact ⟨κ, rfl, HW.out.below HB.out (Ext.refl _ _), Fr.below HB.out, Ext.refl _ _, hs.mono HB.out.size⟩

set_option maxRecDepth 100000 in
set_option maxHeartbeats 4000000 in
theorem begin_ok (h : St κ w wi p j pth work T σ) : Calls Try.prog 61 #[.agg (taskCs pth p me)] w (TPost κ w wi p j pth work ((beginP me p.threads).exec T σ) isUnit) := by
  have hmf : ∀ (fn : Fn) (first cap : Array Value) (w : World), (Instr.makeFunc fn first cap).run Try.prog w = .ok (.func fn first cap) w := fun _ _ _ _ => rfl
  have hS0 := h.sup
  have H := Lib.hid h
  clear h
  generalize hwhole : (beginP me p.threads).exec T σ = whole
  simp only [taskCs]
  go_enter Try.func61, Try.ntmps61
  go_upto_region 1 with fail
  generalize hw0 : w.alloc (.cells #[.pointer (some ⟨pth, 0, none⟩), .pointer (some ⟨p.pw, 0, none⟩), .int .i64 me] 85) = w0
  have hB0 : Below w.heap.size w w0 := hw0 ▸ (Below.refl _ _).alloc (Nat.le_refl _) _
  have b0 : BoxAt κ w0 w.heap.size (taskCs pth p me) 85 := hw0 ▸ BoxAt.new hS0 _ _
  clear hw0 hS0
  go_cut [2] from 6 to 14 (fun v2 wx => ∃ (nb : Nat) (now : Int) (T1 : TS) (σ1 : ShS) (κ1 : Nat → Ytacmeafpieoaaaa.K), v2 = .pointer (some ⟨nb, 0, none⟩) ∧ w.heap.size < nb ∧ Hid (whole = (begin1 me p.threads now).exec T1 σ1) ∧ Hid (St κ1 wx wi p j pth work T1 σ1) ∧
    Hid (BoxAt κ1 wx w.heap.size (taskCs pth p me) 85) ∧ Hid (BoxAt κ1 wx nb #[.int .i64 now] 2) ∧ Hid (Fr κ (K.step wi j) w wx) ∧ Hid (Ext κ κ1 w))
  case first =>
    have HST := Lib.hid ((H.out.below hB0).below (Below.refl _ _).drew)
    have HTB := Lib.hid ((b0.below (Below.refl _ _).drew))
    have HF := Lib.hid (show Fr κ (K.step wi j) w w0.drew from Fr.below hB0.drew)
    clear H b0 hB0
    generalize hWd : w0.drew = W at *
    have hS : _ ∧ _ ∧ _ := ⟨(cellAt HTB.out.hb 0 rfl : W.cell? ⟨w.heap.size, 0, none⟩ = some (.pointer (some ⟨pth, 0, none⟩))), (cellAt HTB.out.hb 1 rfl : W.cell? ⟨w.heap.size, 1, none⟩ = some (.pointer (some ⟨p.pw, 0, none⟩))), (cellAt HST.out.wd.hpw 2 rfl : W.cell? ⟨p.pw, 2, none⟩ = some (.pointer (some ⟨p.pe, 0, none⟩)))⟩
    refine Mask.beginAt (fun W' => W'.cell? ⟨w.heap.size, 0, none⟩ = some (.pointer (some ⟨pth, 0, none⟩)) ∧ W'.cell? ⟨w.heap.size, 1, none⟩ = some (.pointer (some ⟨p.pw, 0, none⟩)) ∧ W'.cell? ⟨p.pw, 2, none⟩ = some (.pointer (some ⟨p.pe, 0, none⟩))) (fun i => i != 10) (by kernel_rfl) W hWd ?_
    refine Mask.take 0 6 (v := ?_) rfl rfl (by kernel_rfl) (by kernel_rfl) (by kernel_rfl) rfl (by kernel_rfl) (by kernel_rfl) (fun _ _ _ h => h) hS (Or.inl ⟨by rfl, ?_⟩) ?_
    rotate_left
    · intro w hSw; (try dsimp only at hSw); go_simp; try with_reducible rfl
    simp only [Act.put, List.setIfInBounds_toArray, List.set_cons_zero, List.set_cons_succ]
    refine Mask.take 1 7 (v := ?_) rfl rfl (by kernel_rfl) (by kernel_rfl) (by kernel_rfl) rfl (by kernel_rfl) (by kernel_rfl) (fun _ _ _ h => h) hS (Or.inl ⟨by rfl, ?_⟩) ?_
    rotate_left
    · intro w hSw; (try dsimp only at hSw); skip; go_simp; try with_reducible rfl
    simp only [Act.put, List.setIfInBounds_toArray, List.set_cons_zero, List.set_cons_succ]
    refine Mask.take 2 8 (v := ?_) rfl rfl (by kernel_rfl) (by kernel_rfl) (by kernel_rfl) rfl (by kernel_rfl) (by kernel_rfl) (fun _ _ _ h => h) hS (Or.inl ⟨by rfl, ?_⟩) ?_
    rotate_left
    · intro w hSw; (try dsimp only at hSw); go_simp; try with_reducible rfl
    simp only [Act.put, List.setIfInBounds_toArray, List.set_cons_zero, List.set_cons_succ]
    refine Mask.take 3 9 (v := ?_) rfl rfl (by kernel_rfl) (by kernel_rfl) (by kernel_rfl) rfl (by kernel_rfl) (by kernel_rfl) (fun _ _ _ h => h) hS (Or.inl ⟨by rfl, ?_⟩) ?_
    rotate_left
    · intro w hSw; (try dsimp only at hSw); skip; go_simp; try with_reducible rfl
    simp only [Act.put, List.setIfInBounds_toArray, List.set_cons_zero, List.set_cons_succ]
    refine Mask.take 4 10 (v := ?_) rfl rfl (by kernel_rfl) (by kernel_rfl) (by kernel_rfl) rfl (by kernel_rfl) (by kernel_rfl) (fun _ _ _ h => h) hS (Or.inl ⟨by rfl, ?_⟩) ?_
    rotate_left
    · intro w hSw; (try dsimp only at hSw); go_simp; try with_reducible rfl
    simp only [Act.put, List.setIfInBounds_toArray, List.set_cons_zero, List.set_cons_succ]
    refine Mask.take 5 11 (v := ?_) rfl rfl (by kernel_rfl) (by kernel_rfl) (by kernel_rfl) rfl (by kernel_rfl) (by kernel_rfl) (fun _ _ _ h => h) hS (Or.inl ⟨by rfl, ?_⟩) ?_
    rotate_left
    · intro w hSw; (try dsimp only at hSw); go_simp; try with_reducible rfl
    simp only [Act.put, List.setIfInBounds_toArray, List.set_cons_zero, List.set_cons_succ]
    refine Mask.take 6 12 (v := ?_) rfl rfl (by kernel_rfl) (by kernel_rfl) (by kernel_rfl) rfl (by kernel_rfl) (by kernel_rfl) (fun _ _ _ h => h) hS (Or.inl ⟨by rfl, ?_⟩) ?_
    rotate_left
    · intro w hSw; (try dsimp only at hSw); skip; go_simp; try with_reducible rfl
    simp only [Act.put, List.setIfInBounds_toArray, List.set_cons_zero, List.set_cons_succ]
    refine Mask.take 7 13 (v := ?_) rfl rfl (by kernel_rfl) (by kernel_rfl) (by kernel_rfl) rfl (by kernel_rfl) (by kernel_rfl) (fun _ _ _ h => h) hS (Or.inl ⟨by rfl, ?_⟩) ?_
    rotate_left
    · intro w hSw; (try dsimp only at hSw); go_simp; try with_reducible rfl
    simp only [Act.put, List.setIfInBounds_toArray, List.set_cons_zero, List.set_cons_succ]
    refine Mask.two 8 9 (by kernel_rfl) rfl rfl rfl rfl (fun K__ hK => ?_) (fun K__ hK => ?_)
    · -- 8: call F122[t7, t13] types#[61, 88]
      go_simp
      refine (do_okM HST.out 64 _ tNow enters64 touch_now).mono ?_
      rintro e w5 hh
      rcases hh.elim with ⟨T2, σ2, κ2, hr2, rfl, hst2, hf2, he2⟩ | ⟨now, T2, σ2, κ2, v, hr2, rfl, hv, hst2, hf2, he2⟩
      · refine ⟨rfl, ?_⟩
        rw [← hwhole, beginP, Pr.exec_bind, hr2]
        exact ⟨κ2, rfl, hst2, HF.out.trans0 hf2, (Ext.refl κ w).trans he2 HF.out.size⟩
      replace hv : v = .int .i64 now := hv
      subst hv
      have HW2 := Lib.hid (show whole = (begin1 me p.threads now).exec T2 σ2 by rw [← hwhole, beginP, Pr.exec_bind, hr2]; rfl)
      have HF2 := Lib.hid (HF.out.trans0 hf2)
      have HE2 := Lib.hid ((Ext.refl κ w).trans he2 HF.out.size)
      have HTB2 := Lib.hid (HTB.out.keep hf2 he2 rfl)
      have HST2 := Lib.hid hst2
      clear hh hr2 hst2 hf2 he2
      refine hK _ _ (fun _ => ?_) ?_
      · exact ⟨cellAt HTB2.out.hb 0 rfl, cellAt HTB2.out.hb 1 rfl, cellAt HST2.out.wd.hpw 2 rfl⟩
      replace hS : _ ∧ _ ∧ _ := ⟨cellAt HTB2.out.hb 0 rfl, cellAt HTB2.out.hb 1 rfl, cellAt HST2.out.wd.hpw 2 rfl⟩
      clear hK K__
      try simp only [Act.put, List.setIfInBounds_toArray, List.set_cons_zero, List.set_cons_succ]
      -- 9: alloc T2
      refine Mask.one 9 (by kernel_rfl) rfl rfl (fun K__ hK => ?_)
      go_simp
      refine hK _ _ (fun _ => ?_) ?_
      · exact ⟨(World.cell?_alloc_past _ _ _ (lt_of_heap HTB2.out.hb)).trans hS.1, (World.cell?_alloc_past _ _ _ (lt_of_heap HTB2.out.hb)).trans hS.2.1, (World.cell?_alloc_past _ _ _ (lt_of_heap HST2.out.wd.hpw)).trans hS.2.2⟩
      clear hK K__
      try simp only [Act.put, List.setIfInBounds_toArray, List.set_cons_zero, List.set_cons_succ]
      -- 10: store T2 t2 t14
      refine Mask.one 10 (by kernel_rfl) rfl rfl (fun K__ hK => ?_)
      go_simp
      refine hK _ _ (fun h => (by cases h)) ?_
      clear hK K__
      try simp only [Act.put, List.setIfInBounds_toArray, List.set_cons_zero, List.set_cons_succ]
      refine Mask.done (by kernel_rfl) ?_ _
      go_wp2
      go_meet
      case rel =>
        have hal : Below w5.heap.size w5 (w5.alloc (.cells #[Value.int .i64 now] 2)) := (Below.refl _ _).alloc (Nat.le_refl _) _
        exact ⟨w5.heap.size, now, T2, σ2, κ2, rfl, lt_of_heap HTB2.out.hb, HW2, Lib.hid (HST2.out.below hal), Lib.hid (HTB2.out.below hal), Lib.hid (BoxAt.new HST2.out.sup _ _), Lib.hid (HF2.out.trans (Fr.below hal) HE2.out), HE2⟩
    · -- 9: alloc T2
      go_simp
      generalize hG__ : W.alloc (.cells #[Value.int .i64 0] 2) = wq1
      have hZ := Lib.hid (show Below W.heap.size W wq1 from hG__ ▸ (Below.refl _ _).alloc (Nat.le_refl _) _)
      have HNB := Lib.hid (show wq1.heap[W.heap.size]? = some (.cells #[Value.int .i64 0] 2 (0, 0)) from hG__ ▸ Laws.heap_new W _)
      have hS' : _ ∧ _ ∧ _ := ⟨(hZ.out.cell (p := ⟨w.heap.size, 0, none⟩) (lt_of_heap HTB.out.hb)).trans hS.1, (hZ.out.cell (p := ⟨w.heap.size, 1, none⟩) (lt_of_heap HTB.out.hb)).trans hS.2.1, (hZ.out.cell (p := ⟨p.pw, 2, none⟩) (lt_of_heap HST.out.wd.hpw)).trans hS.2.2⟩
      clear hG__
      refine hK _ _ (fun _ => ?_) ?_
      · exact hS'
      replace hS := hS'
      clear hK K__
      try simp only [Act.put, List.setIfInBounds_toArray, List.set_cons_zero, List.set_cons_succ]
      -- 8: call F122[t7, t13] types#[61, 88]
      refine Mask.one 8 (by kernel_rfl) rfl rfl (fun K__ hK => ?_)
      go_simp
      refine (do_okM (HST.out.below hZ.out) 64 _ tNow enters64 touch_now).mono ?_
      rintro e w5 hh
      rcases hh.elim with ⟨T2, σ2, κ2, hr2, rfl, hst2, hf2, he2⟩ | ⟨now, T2, σ2, κ2, v, hr2, rfl, hv, hst2, hf2, he2⟩
      · refine ⟨rfl, ?_⟩
        rw [← hwhole, beginP, Pr.exec_bind, hr2]
        exact ⟨κ2, rfl, hst2, HF.out.trans0 ((Fr.below (S := K.step wi j) hZ.out).trans0 hf2), (Ext.refl κ w).trans ((Ext.refl κ W).trans he2 hZ.out.size) HF.out.size⟩
      replace hv : v = .int .i64 now := hv
      subst hv
      have HW2 := Lib.hid (show whole = (begin1 me p.threads now).exec T2 σ2 by rw [← hwhole, beginP, Pr.exec_bind, hr2]; rfl)
      have HF2 := Lib.hid (HF.out.trans0 ((Fr.below (S := K.step wi j) hZ.out).trans0 hf2))
      have HE2 := Lib.hid ((Ext.refl κ w).trans ((Ext.refl κ W).trans he2 hZ.out.size) HF.out.size)
      have HTB2 := Lib.hid ((HTB.out.below hZ.out).keep hf2 he2 rfl)
      have HST2 := Lib.hid hst2
      have HNB2 := Lib.hid ((show BoxAt κ wq1 W.heap.size #[.int .i64 0] 2 from ⟨HNB.out, HST.out.sup _ (Nat.le_refl _)⟩).keep hf2 he2 rfl)
      have y0 : w5.cell? ⟨W.heap.size, 0, none⟩ = some (.int .i64 0) := cellAt HNB2.out.hb 0 rfl
      have yz : w5.frozen? ⟨W.heap.size, 0, none⟩ = false := frozen_of_heap HNB2.out.hb
      clear hh hr2 hst2 hf2 he2
      refine hK _ _ (fun _ => ?_) ?_
      · exact ⟨cellAt HTB2.out.hb 0 rfl, cellAt HTB2.out.hb 1 rfl, cellAt HST2.out.wd.hpw 2 rfl⟩
      replace hS : _ ∧ _ ∧ _ := ⟨cellAt HTB2.out.hb 0 rfl, cellAt HTB2.out.hb 1 rfl, cellAt HST2.out.wd.hpw 2 rfl⟩
      clear hK K__
      try simp only [Act.put, List.setIfInBounds_toArray, List.set_cons_zero, List.set_cons_succ]
      -- 10: store T2 t2 t14
      refine Mask.one 10 (by kernel_rfl) rfl rfl (fun K__ hK => ?_)
      go_simp
      refine hK _ _ (fun h => (by cases h)) ?_
      clear hK K__
      try simp only [Act.put, List.setIfInBounds_toArray, List.set_cons_zero, List.set_cons_succ]
      refine Mask.done (by kernel_rfl) ?_ _
      go_wp2
      go_meet
      case rel =>
        have hko : κ2 W.heap.size = .none := HNB2.out.kb
        have hlt := lt_of_heap HTB.out.hb
        exact ⟨W.heap.size, now, T2, σ2, κ2, rfl, lt_of_heap HTB.out.hb, HW2, Lib.hid (HST2.out.boxed hko (fun b hb => Below.heap_setCell _ _ _ _ hb) (by simp [World.setCell])), Lib.hid (HTB2.out.setOther (by simp; omega)), Lib.hid HNB2.out.set, Lib.hid (HF2.out.box (by have := HF.out.size; simp; omega) _), HE2⟩
  case rest =>
    clear hB0 b0 H hwhole
    obtain ⟨nb, now, T1, σ1, κ1, rfl, hnbl, HW, HST, HTB, HNB, HF, HE⟩ := hcut
    have c0 : wc.cell? ⟨w.heap.size, 0, none⟩ = some (.pointer (some ⟨pth, 0, none⟩)) := cellAt HTB.out.hb 0 rfl
    go_wp2_with fail
    refine (do_ok HST.out 123 _ (tSay me now) enters123 (touch_say HTB.out HNB.out)).mono ?_
    rintro e w5 hh
    rcases hh.elim with ⟨T2, σ2, κ2, hr2, rfl, hst2, hf2, he2⟩ | ⟨x, T2, σ2, κ2, v, hr2, rfl, hv, hst2, hf2, he2⟩
    · refine ⟨rfl, ?_⟩
      rw [HW.out, begin1, Pr.exec_bind, hr2]
      exact ⟨κ2, rfl, hst2, HF.out.trans hf2 HE.out, HE.out.trans he2 HF.out.size⟩
    replace hv : v = .int .i64 x := hv
    subst hv
    have HW2 := Lib.hid (show whole = (begin2 p.threads now).exec T2 σ2 by rw [HW.out, begin1, Pr.exec_bind, hr2]; rfl)
    have HST2 := Lib.hid hst2
    have HTB2 := Lib.hid (HTB.out.keep hf2 he2 rfl)
    have HNB2 := Lib.hid (HNB.out.keep hf2 he2 rfl)
    have HF2 := Lib.hid (HF.out.trans hf2 HE.out)
    have HE2 := Lib.hid (HE.out.trans he2 HF.out.size)
    clear hh hr2 hst2 hf2 he2 c0 HW HST HTB HNB HF HE
    have c1 : w5.cell? ⟨w.heap.size, 1, none⟩ = some (.pointer (some ⟨p.pw, 0, none⟩)) := cellAt HTB2.out.hb 1 rfl
    have c2 : w5.cell? ⟨p.pw, 2, none⟩ = some (.pointer (some ⟨p.pe, 0, none⟩)) := cellAt HST2.out.wd.hpw 2 rfl
    go_wp2_with fail
    refine (elen_ok HST2.out.wd.ep).mono ?_
    rintro e w' ⟨rfl, hw'⟩
    replace hw' := hw'.symm
    subst hw'
    rw [HST2.out.wd.thr]
    have hn64 := HST2.out.wd.thr64
    clear c1 c2
    go_upto_block 0 with fail
    go_cut [3] from 26 to 39 (fun v3 wx => ∃ (all : Bool) (T1 : TS) (σ1 : ShS) (κ1 : Nat → Ytacmeafpieoaaaa.K), v3 = .bool all ∧ Hid (whole = (begin3 now all).exec T1 σ1) ∧ Hid (St κ1 wx wi p j pth work T1 σ1) ∧
      Hid (BoxAt κ1 wx w.heap.size (taskCs pth p me) 85) ∧ Hid (BoxAt κ1 wx nb #[.int .i64 now] 2) ∧ Hid (Fr κ (K.step wi j) w wx) ∧ Hid (Ext κ κ1 w))
    case first =>
      go_wp2
      go_loopw [3, 25] (fun v3 i wr => ∃ (k : Nat) (T1 : TS) (σ1 : ShS) (κ1 : Nat → Ytacmeafpieoaaaa.K), v3 = .bool true ∧ i = .int .i64 k ∧ k ≤ p.threads ∧ Hid (whole = ((begLoop now k (p.threads - k)).bind (begin3 now)).exec T1 σ1) ∧ Hid (St κ1 wr wi p j pth work T1 σ1) ∧
        Hid (BoxAt κ1 wr w.heap.size (taskCs pth p me) 85) ∧ Hid (BoxAt κ1 wr nb #[.int .i64 now] 2) ∧ Hid (Fr κ (K.step wi j) w wr) ∧ Hid (Ext κ κ1 w)) (fun _ i _ => p.threads - (intOf i).toNat)
      case atStart => exact ⟨0, T2, σ2, κ2, rfl, rfl, Nat.zero_le _, HW2, HST2, HTB2, HNB2, HF2, HE2⟩
      case round =>
        clear HW2 HST2 HTB2 HNB2 HF2 HE2
        obtain ⟨k, T1, σ1, κ1, rfl, rfl, hk, HW, HST, HTB, HNB, HF, HE⟩ := hrel
        by_cases hlt : k < p.threads
        · obtain ⟨m, hm⟩ : ∃ m, p.threads - k = m + 1 := ⟨p.threads - k - 1, by omega⟩
          have HM := Lib.hid (show p.threads - (k + 1) = m by omega)
          rw [hm] at HW
          clear hm
          have c0 : wr.cell? ⟨w.heap.size, 0, none⟩ = some (.pointer (some ⟨pth, 0, none⟩)) := cellAt HTB.out.hb 0 rfl
          have hltx := lt_of_heap HTB.out.hb
          go_wp2_with fail
          generalize hwA : wr.alloc (.cells #[.int .i64 k] 3) = wA
          have hS1 := HST.out.sup
          have bk : BoxAt κ1 wA wr.heap.size #[.int .i64 k] 3 := hwA ▸ BoxAt.new hS1 _ _
          have hB : Below wr.heap.size wr wA := hwA ▸ (Below.refl _ _).alloc (Nat.le_refl _) _
          clear hwA c0
          refine (do_ok (HST.out.below hB) 125 _ (tSaid k) enters125 (touch_said (HTB.out.below hB) bk)).mono ?_
          rintro e w6 hh
          have HFA := Lib.hid (HF.out.trans (Fr.below (S := K.step wi j) hB) HE.out)
          have HNA := Lib.hid (HNB.out.below hB)
          have HTA := Lib.hid (HTB.out.below hB)
          rcases hh.elim with ⟨T2, σ2, κ2, hr2, rfl, hst2, hf2, he2⟩ | ⟨said, T2, σ2, κ2, v, hr2, rfl, hv, hst2, hf2, he2⟩
          · refine ⟨rfl, ?_⟩
            rw [HW.out, begLoop, Pr.exec_bind2, hr2]
            exact ⟨κ2, rfl, hst2, HFA.out.trans hf2 HE.out, HE.out.trans he2 HFA.out.size⟩
          replace hv : v = .int .i64 said := hv
          subst hv
          have HW2 := Lib.hid (show whole = ((if said ≠ -1 ∧ said ≠ now then Pr.ret false else begLoop now (k + 1) m).bind (begin3 now)).exec T2 σ2 by rw [HW.out, begLoop, Pr.exec_bind2, hr2]; rfl)
          have HST2 := Lib.hid hst2
          have HTB2 := Lib.hid (HTA.out.keep hf2 he2 rfl)
          have HNB2 := Lib.hid (HNA.out.keep hf2 he2 rfl)
          have HF2 := Lib.hid (HFA.out.trans hf2 HE.out)
          have HE2 := Lib.hid (HE.out.trans he2 HFA.out.size)
          clear hh hr2 hst2 hf2 he2 bk hB hS1 HW HST HTB HNB HF HE HFA HNA HTA hltx
          have c0 : w6.cell? ⟨nb, 0, none⟩ = some (.int .i64 now) := cellAt HNB2.out.hb 0 rfl
          by_cases h1 : said = -1
          · have e1 : (said != -1) = false := by simp [h1]
            have HW3 := Lib.hid (show whole = ((begLoop now (k + 1) (p.threads - (k + 1))).bind (begin3 now)).exec T2 σ2 by rw [HW2.out, if_neg (fun h => h.1 h1), HM.out])
            clear h1 HW2
            go_wp2
            go_roundw
            case rel => exact ⟨k + 1, T2, σ2, κ2, rfl, by go_num, by omega, HW3, HST2, HTB2, HNB2, HF2, HE2⟩
            case measure => simp [intOf]; omega
          · have e1 : (said != -1) = true := by simp [h1]
            by_cases h2 : said = now
            · have e2 : (said != now) = false := by simp [h2]
              have HW3 := Lib.hid (show whole = ((begLoop now (k + 1) (p.threads - (k + 1))).bind (begin3 now)).exec T2 σ2 by rw [HW2.out, if_neg (fun h => h.2 h2), HM.out])
              clear h1 h2 HW2
              go_wp2
              go_roundw
              case rel => exact ⟨k + 1, T2, σ2, κ2, rfl, by go_num, by omega, HW3, HST2, HTB2, HNB2, HF2, HE2⟩
              case measure => simp [intOf]; omega
            · have e2 : (said != now) = true := by simp [h2]
              have HW3 := Lib.hid (show whole = (begin3 now false).exec T2 σ2 by rw [HW2.out, if_pos ⟨h1, h2⟩]; rfl)
              clear h1 h2 HW2
              go_wp2
              go_meet
              case rel => exact ⟨false, T2, σ2, κ2, rfl, HW3, HST2, HTB2, HNB2, HF2, HE2⟩
        · have HW3 := Lib.hid (show whole = (begin3 now true).exec T1 σ1 by rw [HW.out, show p.threads - k = 0 by omega]; rfl)
          clear HW
          go_wp2
          go_meet
          case rel => exact ⟨true, T1, σ1, κ1, rfl, HW3, HST, HTB, HNB, HF, HE⟩
    case rest =>
      clear HW2 HST2 HTB2 HNB2 HF2 HE2
      obtain ⟨all, T2, σ2, κ2, rfl, HW2, HST2, HTB2, HNB2, HF2, HE2⟩ := hcut
      go_upto_if 40 with fail
      go_cut [40] from 41 to 44 (fun _ wx => ∃ (T1 : TS) (σ1 : ShS) (κ1 : Nat → Ytacmeafpieoaaaa.K), Hid (whole = begin4.exec T1 σ1) ∧ Hid (St κ1 wx wi p j pth work T1 σ1) ∧
        Hid (BoxAt κ1 wx w.heap.size (taskCs pth p me) 85) ∧ Hid (BoxAt κ1 wx nb #[.int .i64 now] 2) ∧ Hid (Fr κ (K.step wi j) w wx) ∧ Hid (Ext κ κ1 w))
      case first =>
        cases all with
        | false =>
          have HW3 := Lib.hid (show whole = begin4.exec T2 σ2 by rw [HW2.out]; rfl)
          clear HW2
          go_wp2
          go_meet
          case rel => exact ⟨T2, σ2, κ2, HW3, HST2, HTB2, HNB2, HF2, HE2⟩
        | true =>
          have HW3 := Lib.hid (show whole = (((Pr.ask (tSwap now)).bind fun _ => .ret ()).bind fun _ => begin4).exec T2 σ2 by rw [HW2.out]; rfl)
          clear HW2
          rename World => wz
          have c0 : wz.cell? ⟨w.heap.size, 0, none⟩ = some (.pointer (some ⟨pth, 0, none⟩)) := cellAt HTB2.out.hb 0 rfl
          go_wp2_with fail
          refine (ask_ok HST2.out 127 _ (tSwap now) enters127 (touch_swap HTB2.out HNB2.out)).mono ?_
          rintro e w6 hh
          rcases hh.elim with ⟨T3, σ3, κ3, hr2, rfl, hst2, hf2, he2⟩ | ⟨x, T3, σ3, κ3, v, hr2, rfl, hv, hst2, hf2, he2⟩
          · refine ⟨rfl, ?_⟩
            rw [HW3.out, Pr.exec_bind2, hr2]
            exact ⟨κ3, rfl, hst2, HF2.out.trans hf2 HE2.out, HE2.out.trans he2 HF2.out.size⟩
          replace hv : v = .bool x := hv
          subst hv
          have HW4 := Lib.hid (show whole = begin4.exec T3 σ3 by rw [HW3.out, Pr.exec_bind2, hr2]; rfl)
          have HST3 := Lib.hid hst2
          have HTB3 := Lib.hid (HTB2.out.keep hf2 he2 rfl)
          have HNB3 := Lib.hid (HNB2.out.keep hf2 he2 rfl)
          have HF3 := Lib.hid (HF2.out.trans hf2 HE2.out)
          have HE3 := Lib.hid (HE2.out.trans he2 HF2.out.size)
          clear hh hr2 hst2 hf2 he2 c0
          go_wp2
          go_meet
          case rel => exact ⟨T3, σ3, κ3, HW4, HST3, HTB3, HNB3, HF3, HE3⟩
      case rest =>
        clear HW2 HST2 HTB2 HNB2 HF2 HE2
        obtain ⟨T2, σ2, κ2, HW2, HST2, HTB2, HNB2, HF2, HE2⟩ := hcut
        go_upto_region 13 with fail
        have HSTd := Lib.hid (HST2.out.below (Below.refl _ _).drew)
        have HTBd := Lib.hid (HTB2.out.below (Below.refl _ _).drew)
        have HNBd := Lib.hid (HNB2.out.below (Below.refl _ _).drew)
        have HFd := Lib.hid (HF2.out.trans (Fr.drew (S := K.step wi j)) HE2.out)
        clear HST2 HTB2 HNB2 HF2
        generalize hWd : wc.drew = W at *
        have c0 : W.cell? ⟨w.heap.size, 0, none⟩ = some (.pointer (some ⟨pth, 0, none⟩)) := cellAt HTBd.out.hb 0 rfl
        have c1 : W.cell? ⟨w.heap.size, 1, none⟩ = some (.pointer (some ⟨p.pw, 0, none⟩)) := cellAt HTBd.out.hb 1 rfl
        have c2 : W.cell? ⟨p.pw, 2, none⟩ = some (.pointer (some ⟨p.pe, 0, none⟩)) := cellAt HSTd.out.wd.hpw 2 rfl
        refine wp_tail_at 8 (by kernel_rfl) (by kernel_rfl) W hWd ?_
        clear hWd
        simp only [List.take_succ_cons, List.take_zero, List.drop_succ_cons, List.drop_zero]
        repeat still_step
        refine wpStill_nil ?_
        go_wp2_with fail
        clear c0 c1 c2
        refine (do_okM HSTd.out 64 _ tNow enters64 touch_now).mono ?_
        rintro e w6 hh
        rcases hh.elim with ⟨T3, σ3, κ3, hr2, rfl, hst2, hf2, he2⟩ | ⟨now2, T3, σ3, κ3, v, hr2, rfl, hv, hst2, hf2, he2⟩
        · refine ⟨rfl, ?_⟩
          rw [HW2.out, begin4, Pr.exec_bind, hr2]
          exact ⟨κ3, rfl, hst2, HFd.out.trans hf2 HE2.out, HE2.out.trans he2 HFd.out.size⟩
        replace hv : v = .int .i64 now2 := hv
        subst hv
        have HW3 := Lib.hid (show whole = (zeroLoop 100002).exec T3 σ3 by rw [HW2.out, begin4, Pr.exec_bind, hr2]; rfl)
        have hnb2 := HNBd.out.keep hf2 he2 rfl
        have htb2 := HTBd.out.keep hf2 he2 rfl
        have y0 : w6.cell? ⟨nb, 0, none⟩ = some (.int .i64 now) := cellAt hnb2.hb 0 rfl
        have yz : w6.frozen? ⟨nb, 0, none⟩ = false := frozen_of_heap hnb2.hb
        have HST3 := Lib.hid hst2
        have HTB3 := Lib.hid htb2
        have HNB3 := Lib.hid hnb2
        have HF3 := Lib.hid (HFd.out.trans hf2 HE2.out)
        have HE3 := Lib.hid (HE2.out.trans he2 HFd.out.size)
        clear hh hr2 hst2 hf2 he2 hnb2 htb2 HW2 HSTd HTBd HNBd HFd HE2
        go_wp2
        go_loopg [] 100002 (fun g wr => ∃ (T1 : TS) (σ1 : ShS) (κ1 : Nat → Ytacmeafpieoaaaa.K), Hid (T1.log.length + 1 ≤ T1.pos + g) ∧ Hid (whole = (zeroLoop g).exec T1 σ1) ∧ Hid (St κ1 wr wi p j pth work T1 σ1) ∧
          Hid (BoxAt κ1 wr w.heap.size (taskCs pth p me) 85) ∧ Hid (BoxAt κ1 wr nb #[.int .i64 now2] 2) ∧ Hid (Fr κ (K.step wi j) w wr) ∧ Hid (Ext κ κ1 w))
        case atStart =>
          refine ⟨T3, σ3, κ3, Lib.hid (by have := HST3.out.ok; split at this <;> omega), HW3, Lib.hid (HST3.out.boxed HNB3.out.kb (fun b hb => Below.heap_setCell _ _ _ _ hb) (by simp [World.setCell])), Lib.hid (HTB3.out.setOther (by simp; omega)), Lib.hid HNB3.out.set, Lib.hid (HF3.out.box (by simp; omega) _), HE3⟩
        case round =>
          clear HW3 HST3 HTB3 HNB3 HF3 HE3 y0 yz
          obtain ⟨T1, σ1, κ1, HG, HW, HST, HTB, HNB, HF, HE⟩ := hrel
          cases gk with
          | zero => exact absurd HST.out.ok.1 (by have := HG.out; omega)
          | succ m =>
            have c0 : wr.cell? ⟨w.heap.size, 0, none⟩ = some (.pointer (some ⟨pth, 0, none⟩)) := cellAt HTB.out.hb 0 rfl
            go_wp2_with fail
            refine (do_ok HST.out 129 _ tNone enters129 (touch_one HTB.out HNB.out)).mono ?_
            rintro e w6 hh
            rcases hh.elim with ⟨T3, σ3, κ3, hr2, rfl, hst2, hf2, he2⟩ | ⟨x2, T3, σ3, κ3, v, hr2, rfl, hv, hst2, hf2, he2⟩
            · refine ⟨rfl, ?_⟩
              rw [HW.out, zeroLoop, Pr.exec_bind, hr2]
              exact ⟨κ3, rfl, hst2, HF.out.trans hf2 HE.out, HE.out.trans he2 HF.out.size⟩
            replace hv : v = .int .i64 x2 := hv
            subst hv
            have HW3 := Lib.hid (show whole = (if x2 = 0 then Pr.ret () else zeroLoop m).exec T3 σ3 by rw [HW.out, zeroLoop, Pr.exec_bind, hr2]; rfl)
            have HO := Lib.hid (one_out hr2)
            have HST3 := Lib.hid hst2
            have HTB3 := Lib.hid (HTB.out.keep hf2 he2 rfl)
            have HNB3 := Lib.hid (HNB.out.keep hf2 he2 rfl)
            have HF3 := Lib.hid (HF.out.trans hf2 HE.out)
            have HE3 := Lib.hid (HE.out.trans he2 HF.out.size)
            clear hh hr2 hst2 hf2 he2 c0 HW HST HTB HNB HF HE
            by_cases hx : x2 = 0
            · have e1 : (x2 != 0) = false := by simp [hx]
              have HW4 := Lib.hid (show whole = .out () T3 σ3 by rw [HW3.out, if_pos hx]; rfl)
              clear hx
              go_wp2
              go_end0
              rw [HW4.out]
              exact ⟨κ3, _, rfl, rfl, HST3.out, HF3.out, HE3.out⟩
            · have e1 : (x2 != 0) = true := by simp [hx]
              have HW4 := Lib.hid (show whole = (zeroLoop m).exec T3 σ3 by rw [HW3.out, if_neg hx])
              have hg : T3.log.length + 1 ≤ T3.pos + m := by
                rcases HO.out with ⟨_, h2, _⟩ | ⟨_, h2, _, _⟩
                · rw [h2]; have := HG.out; show T1.log.length + 1 ≤ T1.pos + 1 + m; omega
                · exact absurd h2 hx
              have HG3 := Lib.hid hg
              clear hx hg
              go_wp2
              go_roundg m
              case measure => omega
              case rel => exact ⟨T3, σ3, κ3, HG3, HW4, HST3, HTB3, HNB3, HF3, HE3⟩

set_option maxRecDepth 100000 in
theorem end_ok (h : St κ w wi p j pth work T σ) : Calls Try.prog 62 #[.agg (taskCs pth p me)] w (TPost κ w wi p j pth work (((Pr.one (tSay me (-1))).bind fun _ => .ret ()).exec T σ) isUnit) := by
  have hmf : ∀ (fn : Fn) (first cap : Array Value) (w : World), (Instr.makeFunc fn first cap).run Try.prog w = .ok (.func fn first cap) w := fun _ _ _ _ => rfl
  have hS := h.sup
  have H := Lib.hid h
  clear h
  simp only [taskCs]
  go_enter Try.func62, Try.ntmps62
  go_wp2_with fail
  generalize hw0 : w.alloc (.cells #[.pointer (some ⟨pth, 0, none⟩), .pointer (some ⟨p.pw, 0, none⟩), .int .i64 me] 85) = w0
  have b0 : BoxAt κ w0 w.heap.size (taskCs pth p me) 85 := hw0 ▸ BoxAt.new hS _ _
  have hB : Below w.heap.size w w0 := hw0 ▸ (Below.refl _ _).alloc (Nat.le_refl _) _
  refine (do_ok (H.out.below hB) 131 _ (tSay me (-1)) enters131 (touch_sayEnd b0)).mono ?_
  rintro e w3 hh
  have hF := Fr.below (κ := κ) (S := K.step wi j) hB
  rcases hh.elim with ⟨T1, σ1, κ1, hr, rfl, hst, hf, he⟩ | ⟨a, T1, σ1, κ1, v, hr, rfl, hv, hst, hf, he⟩
  · refine ⟨rfl, ?_⟩
    rw [Pr.exec_bind, hr]
    exact ⟨κ1, rfl, hst, hF.trans0 hf, (Ext.refl _ _).trans he hB.size⟩
  · have HR := Lib.hid hr
    clear hr hh hw0
    go_wp2
    go_end0
    rw [Pr.exec_bind, HR.out]
    exact ⟨κ1, _, rfl, rfl, hst, hF.trans0 hf, (Ext.refl _ _).trans he hB.size⟩
end
end Go.Proofs.Ytacmeafpieoaaaa
