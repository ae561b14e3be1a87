/- boscagelaw10.looker, its closure; boscagelaw10.Awake is true. -/
import Derived.Test.YtacmeafpieoaaaaCg
namespace Go.Proofs.Ytacmeafpieoaaaa
open Go.RowKit

def look1 (x : SnapS × Int) : List Int := x.2 :: x.1.info :: x.1.ways
def lookP (r : Int) : Pr (List Int) := (loadP r).bind fun x => .ret (look1 x)
theorem tl_lookP (r : Int) : TameL (lookP r) := (tl_loadP r).bind fun _ => .ret _
/-- A status. -/
def isStat (x : SnapS × Int) : Prop := x.2 = 0 ∨ x.2 = 1 ∨ x.2 = 2
theorem stat_load8 (r : Int) : (load8 r).outs isStat := Pr.outs_bind (fun m => Pr.outs_bind (fun st => by
  unfold load10
  split
  · exact Pr.outs_bind (P := isStat) (q := fun _ => .ret (SnapS.zero, 1)) (fun _ => (Or.inr (Or.inl rfl) : isStat (SnapS.zero, 1))) _
  · exact (Or.inr (Or.inl rfl) : isStat (SnapS.zero, 1))) _) _
theorem stat_load7c (r : Int) (first d : Bool) : (load7c r first d).outs isStat := by
  unfold load7c
  split
  · exact (Or.inr (Or.inr rfl) : isStat (SnapS.zero, 2))
  · exact stat_load8 r
theorem stat_load7 (r n : Int) (first : Bool) : (load7 r n first).outs isStat := Pr.outs_bind (fun now => by
  unfold load7b
  split
  · exact stat_load7c _ _ _
  · split
    · exact Pr.outs_bind (fun _ => stat_load7c _ _ _) _
    · exact stat_load7c _ _ _) _
theorem stat_load6 (r n : Int) (first : Bool) : (load6 r n first).outs isStat := fun nd => Pr.outs_bind (fun ws => Pr.outs_bind (fun m => by
  unfold load6c
  split
  · exact (Or.inl rfl : isStat (_, 0))
  · exact stat_load7 _ _ _) _) _
theorem stat_loadP (r : Int) : (loadP r).outs isStat := Pr.outs_bind (fun first => Pr.outs_bind (fun n => Pr.outs_bind (fun was => Pr.outs_bind (fun second => by
  unfold load5
  split
  · exact stat_load6 _ _ _
  · exact stat_load7 _ _ _) _) _) _) _

theorem enters139 : Enters Try.prog 139 := enters_of Try.func139 (by kernel_rfl) rfl

section
variable {κ κ' : Nat → K} {w w' : World} {wi j pth : Nat} {p : WdP} {σ : ShS} {T : TS} {me : Int} {work : Value}

set_option maxRecDepth 100000 in
set_option maxHeartbeats 1000000 in
theorem look_task {br : Nat} {r : Int} (hb : BoxAt κ w br #[.int .i64 r] 41) (j pth : Nat) : TaskOk κ w wi p j pth me 139 #[.pointer (some ⟨br, 0, none⟩)] (lookP r) := by
  obtain ⟨j0, hj, hy0, hy1, hy2⟩ := info_parts info2
  intro κ1 w1 work T σ hf he hst
  have gb := hb.keep hf he rfl
  have k0 : w1.cell? ⟨br, 0, none⟩ = some (.int .i64 r) := cellAt gb.hb 0 rfl
  have hnl := lt_of_heap gb.hb
  have HST := Lib.hid hst
  clear hst hf he hb gb
  generalize hwhole : (lookP r).exec T σ = whole
  have HW := Lib.hid (show whole = ((loadP r).bind fun x => .ret (look1 x)).exec T σ from hwhole.symm)
  clear hwhole
  go_enter Try.func139, Try.ntmps139
  go_wp2_with fail
  generalize hw0 : w1.alloc (.cells #[.pointer (some ⟨pth, 0, none⟩), .pointer (some ⟨p.pw, 0, none⟩), .int .i64 me] 85) = w0
  have hB0 : Below w1.heap.size w1 w0 := hw0 ▸ (Below.refl _ _).alloc (Nat.le_refl _) _
  have HF0 := Lib.hid (show Fr κ1 (K.step wi j) w1 w0 from Fr.below hB0)
  replace HST := Lib.hid (HST.out.below hB0)
  clear hw0 hB0 k0
  refine (load_ok (me := me) HST.out r).mono ?_
  rintro e w5 hh
  rcases hh.elim with ⟨T2, σ2, κ2, hr2, rfl, hst2, hf2, he2⟩ | ⟨x, T2, σ2, κ2, v, hr2, rfl, hv, hst2, hf2, he2⟩
  · refine ⟨rfl, ?_⟩
    rw [HW.out, Pr.exec_bind, hr2]
    exact ⟨κ2, rfl, hst2, HF0.out.trans0 hf2, (Ext.refl _ _).trans he2 HF0.out.size⟩
  have hstat := Pr.outs_exec _ (stat_loadP r) hr2
  have HWH := Lib.hid (show whole = .out (look1 x) T2 σ2 by rw [HW.out, Pr.exec_bind, hr2]; rfl)
  have HF := Lib.hid (HF0.out.trans0 hf2)
  have HE := Lib.hid ((Ext.refl κ1 w1).trans he2 HF0.out.size)
  replace HST := Lib.hid hst2
  clear hh hr2 hst2 hf2 he2 HF0 HW
  obtain ⟨s, st⟩ := x
  obtain ⟨vs, rfl, vp, vk, vn, vy, rfl, rp, rk, rn, ry, hwn⟩ := hv
  replace hstat : st = 0 ∨ st = 1 ∨ st = 2 := hstat
  replace hwn : s.ways.length ≤ 1048576 := hwn
  obtain ⟨ap, cp, rfl, _, _⟩ := rp.shape
  obtain ⟨ak, ck, rfl, _, _⟩ := rk.shape
  obtain ⟨an, cn, rfl, _, _⟩ := rn.shape
  obtain ⟨ay, cy, rfl, _, _⟩ := ry.shape
  have HRY := Lib.hid ry
  clear rp rk rn ry
  dsimp only at HRY ⊢
  go_upto_block 0 with fail
  generalize hwq : ((w5.alloc (.cells #[.int .i64 s.ref, .int .i64 s.info, .bool s.node.inner, .bool s.node.tagged, .slice ap s.node.pairs.length cp, .slice ak s.node.keys.length ck, .slice an s.node.ways.length cn, .slice ay s.ways.length cy] 138)).alloc (.cells #[.int .i64 st, .int .i64 s.info] 2)) = wq
  have hBq : Below w5.heap.size w5 wq := hwq ▸ ((Below.refl _ _).alloc (Nat.le_refl _) _).alloc (by simp) _
  have hnew : wq.heap[w5.heap.size + 1]? = some (.cells #[.int .i64 st, .int .i64 s.info] 2 (0, 0)) := by
    have := Laws.heap_new (w5.alloc (.cells #[.int .i64 s.ref, .int .i64 s.info, .bool s.node.inner, .bool s.node.tagged, .slice ap s.node.pairs.length cp, .slice ak s.node.keys.length ck, .slice an s.node.ways.length cn, .slice ay s.ways.length cy] 138)) (.cells #[.int .i64 st, .int .i64 s.info] 2)
    rw [← hwq]; simpa using this
  have HO0 := Lib.hid (show Own wq 2 1 (.slice (some ⟨w5.heap.size + 1, 0, none⟩) (2 + 0) 2) (2 + 0) (intVs (st :: s.info :: s.ways.take 0)) from ⟨by simp [intVs], _, _, rfl, by omega, by decide, .inr ⟨_, _, _, rfl, hnew, rfl, rfl⟩⟩)
  have HB0 := Lib.hid (show ∀ g, blk (.slice (some ⟨w5.heap.size + 1, 0, none⟩) (2 + 0) 2) = some g → w1.heap.size ≤ g ∧ κ2 g = .none from fun g hg => by
    simp only [blk] at hg
    simp at hg
    subst hg
    exact ⟨by have := HF.out.size; omega, HST.out.sup _ (by omega)⟩)
  replace HST := Lib.hid (HST.out.below hBq)
  replace HRY := Lib.hid (HRY.out.keep (w' := wq) (fun b hb _ => hBq.block b hb) hBq.size (Ext.refl _ _))
  replace HF := Lib.hid (HF.out.trans (Fr.below (S := K.step wi j) hBq) HE.out)
  have hsl := lt_of_heap hnew
  generalize w5.heap.size + 1 = sb at *
  clear hwq hBq hnew hstat
  go_wp2
  go_loopw [6, 23] (fun v i wr => ∃ n : Nat, i = .int .i64 n ∧ n ≤ s.ways.length ∧ Hid (St κ2 wr wi p j pth work T2 σ2) ∧ Hid (Row κ2 .imm wr 1 (.slice ay s.ways.length cy) s.ways.length (intVs s.ways)) ∧ Hid (Fr κ1 (K.step wi j) w1 wr) ∧
    Hid (Own wr 2 1 v (2 + n) (intVs (st :: s.info :: s.ways.take n))) ∧ Hid (∀ g, blk v = some g → w1.heap.size ≤ g ∧ κ2 g = .none)) (fun _ i _ => s.ways.length - (intOf i).toNat)
  case atStart => exact ⟨0, rfl, Nat.zero_le _, HST, HRY, HF, HO0, HB0⟩
  case round =>
    clear HST HRY HF HO0 HB0 hsl
    obtain ⟨n, rfl, hn, HST, HRY, HF, HO, HB⟩ := hrel
    obtain ⟨_, a, cap, rfl, hle, hcm, _⟩ := id HO.out
    by_cases hlt : n < s.ways.length
    · obtain ⟨x, hx⟩ : ∃ x, s.ways[n]? = some x := ⟨_, List.getElem?_eq_getElem hlt⟩
      obtain ⟨g, o, cap', hv, hle', hgl, hgk, hgc, hgz⟩ := HRY.out.at (by omega) (by decide)
      simp only [Value.slice.injEq] at hv
      obtain ⟨rfl, _, rfl⟩ := hv
      have cx : wr.cell? ⟨g, o + n, none⟩ = some (.int .i64 x) := hgc n _ (by simp [intVs, hx])
      have HX := Lib.hid hx
      clear hgc hgz hx
      go_wp2_with (at_builtin; refine wpList_append_row rfl _ _ 22 rfl 2 j0 (.int .i64 0) 1 8 Try.underlying22 hj hy0 hy1 hy2 rfl (by decide) _ (2 + n) (intVs (st :: s.info :: s.ways.take n)) rfl ?c0 (some ⟨wr.heap.size, 0, none⟩) 1 1 [.int .i64 x] rfl ?c1 ?c4 ?c2 ?c3 ?_)
      case c0 => exact HO.out.move fun g hg => Below.heap_alloc _ _ _ (HO.out.lt g hg)
      case c1 => exact ⟨rfl, .inr ⟨_, rfl, fun j u hu => by rw [Addr.add_lit, cell_of_heap (Laws.heap_new wr _)]; simpa using hu⟩⟩
      case c4 => intro u hu; simp only [List.mem_cons, List.not_mem_nil, or_false] at hu; subst hu; rfl
      case c2 => simp only [maxLen]; omega
      case c3 => omega
      intro v' w4 hapd
      obtain ⟨a', cap', rfl, _⟩ := hapd.own.2
      have HA := Lib.hid hapd
      clear hapd
      go_wp2
      go_roundw
      case rel =>
        have hapd := HA.out
        have hal : Below wr.heap.size wr (wr.alloc (.cells #[Value.int .i64 x] 2)) := (Below.refl _ _).alloc (Nat.le_refl _) _
        have hfa := hapd.fr (κ := κ2) (S := fun k => k == .none) (fun g hg => by rw [(HB.out g hg).2]; rfl)
        have hs4 : wr.heap.size + 1 ≤ w4.heap.size := by have := hapd.size; simpa using this
        have hs1 := HF.out.size
        have hta : s.ways.take (n + 1) = s.ways.take n ++ [x] := by rw [List.take_add_one, HX.out]; rfl
        refine ⟨n + 1, by go_num, by omega, Lib.hid ((HST.out.below hal).frNone hfa), Lib.hid ?_, Lib.hid ?_, Lib.hid ?_, Lib.hid fun g hg => ?_⟩
        · exact (HRY.out.keep (w' := wr.alloc (.cells #[Value.int .i64 x] 2)) (fun b hb _ => hal.block b hb) hal.size (Ext.refl _ _)).keep (fun b hb hk => hfa.block b hb (by rw [hk]; rfl)) hfa.size (Ext.refl _ _)
        · have f1 := HF.out.trans (Fr.below (S := K.step wi j) hal) HE.out
          refine ⟨hapd.os.trans f1.os, hapd.tape.trans f1.tape, hapd.output.trans f1.output, by have := f1.size; omega, fun b hb hSb => (hapd.block b (by have := f1.size; omega) (fun e => by have := (HB.out b e).1; omega)).trans (f1.block b hb hSb)⟩
        · rw [hta]
          have := hapd.own
          rw [show intVs (st :: s.info :: s.ways.take n) ++ [Value.int .i64 x] = intVs (st :: s.info :: (s.ways.take n ++ [x])) by simp [intVs]] at this
          exact this
        · rcases hapd.at_ with e | e
          · exact HB.out g (e ▸ hg)
          · rw [show blk _ = some g from hg] at e
            simp at e
            subst e
            exact ⟨by omega, HST.out.sup _ (by omega)⟩
      case measure => simp [intOf]; omega
    · have hnn : n = s.ways.length := by omega
      subst hnn
      go_wp2
      go_ret
      rw [HWH.out]
      have hOwn := HO.out
      rw [List.take_length] at hOwn
      have hin : ∀ g, some g ∈ [blk (Value.slice a (2 + s.ways.length) cap)] → w1.heap.size ≤ g ∧ κ2 g = .none ∧ g < wr.heap.size := fun g hg => by
        simp only [List.mem_cons, List.not_mem_nil, or_false] at hg
        exact ⟨(HB.out g hg.symm).1, (HB.out g hg.symm).2, HO.out.lt g hg.symm⟩
      have hKin : Kin κ2 (imms κ2 [blk (Value.slice a (2 + s.ways.length) cap)]) := Kin.imms fun g hg => (hin g hg).2.1
      refine ⟨imms κ2 [blk (Value.slice a (2 + s.ways.length) cap)], .slice a (2 + s.ways.length) cap, rfl, ?_, HST.out.rekind hKin ?_, HF.out, ?_⟩
      · have hl : (look1 (s, st)).length = 2 + s.ways.length := by simp [look1]; omega
        show Row _ _ _ _ _ (look1 (s, st)).length _
        rw [hl]
        exact Row.ofOwn hOwn (fun g hg => imms_at (by simp [hg])) hOwn.noneEmpty
      · exact imms_sup HST.out.sup (Nat.le_refl _) fun g hg => by have := hin g hg; omega
      · intro b hb
        have hnb : ¬ some b ∈ [blk (Value.slice a (2 + s.ways.length) cap)] := fun hm => by have := hin b hm; omega
        simp only [imms, if_neg hnb]
        exact HE.out b hb
end
end Go.Proofs.Ytacmeafpieoaaaa
