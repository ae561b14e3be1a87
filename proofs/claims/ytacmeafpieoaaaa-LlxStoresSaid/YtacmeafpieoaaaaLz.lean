/- llx.Loads. -/
import Derived.Test.YtacmeafpieoaaaaLy
namespace Go.Proofs.Ytacmeafpieoaaaa
open Go.RowKit

/-- A snap's rows. -/
structure SnapAt (κ : Nat → K) (w : World) (s : SnapS) (vp vk vn vy : Value) : Prop where
  rp : Row κ .imm w 2 vp s.node.pairs.length (pairVs s.node.pairs)
  rk : Row κ .imm w 1 vk s.node.keys.length (intVs s.node.keys)
  rn : Row κ .imm w 1 vn s.node.ways.length (intVs s.node.ways)
  ry : Row κ .imm w 1 vy s.ways.length (intVs s.ways)
def snapCs (s : SnapS) (vp vk vn vy : Value) : List Value := [.int .i64 s.ref, .int .i64 s.info, .bool s.node.inner, .bool s.node.tagged, vp, vk, vn, vy]
/-- Cells that read as snaps. -/
def SnapsC (κ : Nat → K) (w : World) : List SnapS → List Value → Prop
  | [], cs => cs = []
  | s :: l, cs => ∃ vp vk vn vy rest, cs = snapCs s vp vk vn vy ++ rest ∧ SnapAt κ w s vp vk vn vy ∧ SnapsC κ w l rest
def isSnaps : Option (List SnapS) → (Nat → K) → World → Value → Prop := fun x κ w v => match x with
  | some l => ∃ vs cs, v = .tuple #[vs, .bool true] ∧ Row κ .imm w 8 vs l.length cs ∧ SnapsC κ w l cs
  | none => v = .tuple #[.slice none 0 0, .bool false]

def loadsP : List Int → List SnapS → Pr (Option (List SnapS))
  | [], acc => .ret (some acc)
  | r :: rest, acc => (loadP r).bind fun x => if x.2 = 0 then loadsP rest (acc ++ [x.1]) else .ret none

section
variable {κ κ' : Nat → K} {w w' : World} {wi j pth : Nat} {p : WdP} {σ : ShS} {T : TS} {me : Int} {work : Value}

theorem SnapAt.keep {S : K → Bool} {s : SnapS} {vp vk vn vy : Value} (h : SnapAt κ w s vp vk vn vy) (hf : Fr κ S w w') (he : Ext κ κ' w) (h2 : S .imm = false) : SnapAt κ' w' s vp vk vn vy :=
  ⟨h.rp.keep (fun b hb hk => hf.block b hb (by rw [hk]; exact h2)) hf.size he, h.rk.keep (fun b hb hk => hf.block b hb (by rw [hk]; exact h2)) hf.size he, h.rn.keep (fun b hb hk => hf.block b hb (by rw [hk]; exact h2)) hf.size he, h.ry.keep (fun b hb hk => hf.block b hb (by rw [hk]; exact h2)) hf.size he⟩
theorem SnapsC.keep {S : K → Bool} (hf : Fr κ S w w') (he : Ext κ κ' w) (h2 : S .imm = false) : ∀ {l : List SnapS} {cs : List Value}, SnapsC κ w l cs → SnapsC κ' w' l cs
  | [], _, h => h
  | _ :: _, _, ⟨vp, vk, vn, vy, rest, h1, h3, h4⟩ => ⟨vp, vk, vn, vy, rest, h1, h3.keep hf he h2, SnapsC.keep hf he h2 h4⟩
theorem SnapAt.rekind {s : SnapS} {vp vk vn vy : Value} (h : SnapAt κ w s vp vk vn vy) (he : Kin κ κ') : SnapAt κ' w s vp vk vn vy := ⟨h.rp.rekind (by simp) he, h.rk.rekind (by simp) he, h.rn.rekind (by simp) he, h.ry.rekind (by simp) he⟩
theorem SnapsC.rekind (he : Kin κ κ') : ∀ {l : List SnapS} {cs : List Value}, SnapsC κ w l cs → SnapsC κ' w l cs
  | [], _, h => h
  | _ :: _, _, ⟨vp, vk, vn, vy, rest, h1, h3, h4⟩ => ⟨vp, vk, vn, vy, rest, h1, h3.rekind he, SnapsC.rekind he h4⟩
theorem SnapsC.snoc {s : SnapS} {vp vk vn vy : Value} (hs : SnapAt κ w s vp vk vn vy) : ∀ {l : List SnapS} {cs : List Value}, SnapsC κ w l cs → SnapsC κ w (l ++ [s]) (cs ++ snapCs s vp vk vn vy)
  | [], _, h => by
    obtain rfl : _ = [] := h
    exact ⟨vp, vk, vn, vy, [], by simp, hs, rfl⟩
  | _ :: _, _, ⟨vp', vk', vn', vy', rest, h1, h3, h4⟩ => ⟨vp', vk', vn', vy', rest ++ snapCs s vp vk vn vy, by rw [h1, List.append_assoc], h3, SnapsC.snoc hs h4⟩
theorem SnapsC.len : ∀ {l : List SnapS} {cs : List Value}, SnapsC κ w l cs → cs.length = l.length * 8
  | [], _, h => by obtain rfl : _ = [] := h; rfl
  | _ :: l, _, ⟨vp, vk, vn, vy, rest, h1, h3, h4⟩ => by
    rw [h1, List.length_append, SnapsC.len h4]
    simp [snapCs]; omega
/-- One of them. -/
theorem SnapsC.at : ∀ {l : List SnapS} {cs : List Value} {i : Nat} {s : SnapS}, SnapsC κ w l cs → l[i]? = some s → ∃ vp vk vn vy, SnapAt κ w s vp vk vn vy ∧ ∀ q u, (snapCs s vp vk vn vy)[q]? = some u → cs[i * 8 + q]? = some u
  | [], _, _, _, _, hi => by cases hi
  | x :: l, cs, 0, s, ⟨vp, vk, vn, vy, rest, h1, h3, h4⟩, hi => by
    simp only [List.getElem?_cons_zero, Option.some.injEq] at hi
    subst hi
    refine ⟨vp, vk, vn, vy, h3, fun q u hq => ?_⟩
    rw [h1, Nat.zero_mul, Nat.zero_add, List.getElem?_append_left (List.getElem?_eq_some_iff.1 hq).1]
    exact hq
  | x :: l, cs, i + 1, s, ⟨vp, vk, vn, vy, rest, h1, h3, h4⟩, hi => by
    obtain ⟨vp', vk', vn', vy', h5, h6⟩ := SnapsC.at h4 (show l[i]? = some s from hi)
    refine ⟨vp', vk', vn', vy', h5, fun q u hq => ?_⟩
    rw [h1, List.getElem?_append_right (by simp [snapCs]; omega)]
    rw [show (i + 1) * 8 + q - (snapCs x vp vk vn vy).length = i * 8 + q by simp [snapCs]; omega]
    exact h6 q u hq
theorem snapCs_one {s : SnapS} {vp vk vn vy : Value} (h1 : vp.oneCell' = true) (h2 : vk.oneCell' = true) (h3 : vn.oneCell' = true) (h4 : vy.oneCell' = true) : ∀ u ∈ snapCs s vp vk vn vy, u.oneCell' = true := by
  intro u hu
  simp only [snapCs, List.mem_cons, List.not_mem_nil, or_false] at hu
  rcases hu with rfl | rfl | rfl | rfl | rfl | rfl | rfl | rfl <;> first | rfl | assumption
theorem info138 : (Try.prog.info? 138).map (fun i => (i.zero, i.size, i.bytes)) = some (some (.agg Z8), 8, 120) := by kernel_rfl

set_option maxRecDepth 100000 in
set_option maxHeartbeats 4000000 in
theorem loads_ok (h : St κ w wi p j pth work T σ) (l : List Int) (hll : l.length ≤ 1000) (a0 : Option Addr) (c0 : Nat) (hl : Row κ .imm w 1 (.slice a0 l.length c0) l.length (intVs l)) :
    Calls Try.prog 92 #[.agg (taskCs pth p me), .slice a0 l.length c0] w (TPost κ w wi p j pth work ((loadsP l []).exec T σ) isSnaps) := by
  obtain ⟨j0, hj, hy0, hy1, hy2⟩ := info_parts info138
  have hS := h.sup
  have H := Lib.hid h
  have HL := Lib.hid hl
  clear h hl
  generalize hwhole : (loadsP l []).exec T σ = whole
  simp only [taskCs]
  go_enter Try.func92, Try.ntmps92
  go_wp2
  generalize hw0 : w.alloc (.cells #[.pointer (some ⟨pth, 0, none⟩), .pointer (some ⟨p.pw, 0, none⟩), .int .i64 me] 85) = w0
  have hB : Below w.heap.size w w0 := hw0 ▸ (Below.refl _ _).alloc (Nat.le_refl _) _
  have HTB0 := Lib.hid (show BoxAt κ w0 w.heap.size (taskCs pth p me) 85 from hw0 ▸ BoxAt.new hS _ _)
  have HST0 := Lib.hid (H.out.below hB)
  have HF0 := Lib.hid (show Fr κ (K.step wi j) w w0 from Fr.below hB)
  have HL0 := Lib.hid (HL.out.keep (w' := w0) (fun b hb _ => hB.block b hb) hB.size (Ext.refl _ _))
  have HW0 := Lib.hid hwhole.symm
  clear hw0 hB H hS HL hwhole
  go_loopw [6, 13] (fun v6 i wr => ∃ (q : Nat) (acc : List SnapS) (cs : List Value) (T1 : TS) (σ1 : ShS) (κ1 : Nat → Ytacmeafpieoaaaa.K), i = .int .i64 q ∧ q ≤ l.length ∧ acc.length = q ∧ Hid (whole = (loadsP (l.drop q) acc).exec T1 σ1) ∧ Hid (St κ1 wr wi p j pth work T1 σ1) ∧
      Hid (BoxAt κ1 wr w.heap.size (taskCs pth p me) 85) ∧ Hid (Row κ1 .imm wr 1 (.slice a0 l.length c0) l.length (intVs l)) ∧ Hid (Own wr 138 8 v6 q cs) ∧ Hid (∀ g, blk v6 = some g → w.heap.size < g ∧ κ1 g = .none) ∧ Hid (SnapsC κ1 wr acc cs) ∧ Hid (Fr κ (K.step wi j) w wr) ∧ Hid (Ext κ κ1 w)) (fun _ i _ => l.length - (intOf i).toNat)
  case atStart => exact ⟨0, [], [], T, σ, κ, rfl, Nat.zero_le _, rfl, HW0, HST0, HTB0, HL0, Lib.hid (Own.nil _ _ _), Lib.hid (by simp [blk]), Lib.hid rfl, HF0, Lib.hid (Ext.refl _ _)⟩
  case round =>
    clear HW0 HST0 HTB0 HL0 HF0
    obtain ⟨q, acc, cs, T1, σ1, κ1, rfl, hq, hacc, HW, HST, HTB, HL, HO, HBK, HSC, HF, HE⟩ := hrel
    have HAC := Lib.hid hacc
    clear hacc
    obtain ⟨_, ay, cy, rfl, hley, _, _⟩ := id HO.out
    by_cases hlt : q < l.length
    · obtain ⟨r, hr⟩ : ∃ x, l[q]? = some x := ⟨_, List.getElem?_eq_getElem hlt⟩
      have hdrop : l.drop q = r :: l.drop (q + 1) := by
        rw [List.drop_eq_getElem_cons hlt]
        have h1 := List.getElem?_eq_some_iff.1 hr
        simp [h1.2]
      rw [hdrop] at HW
      obtain ⟨g, o, cap', hv', hle, hgl, hgk, hgc, hgz⟩ := HL.out.at (by omega) (by decide)
      simp only [Value.slice.injEq] at hv'
      obtain ⟨rfl, _, rfl⟩ := hv'
      have hcx : wr.cell? ⟨g, o + q, none⟩ = some (.int .i64 r) := hgc q _ (by rw [intVs_get, hr]; rfl)
      have c0 : wr.cell? ⟨w.heap.size, 0, none⟩ = some (.pointer (some ⟨pth, 0, none⟩)) := cellAt HTB.out.hb 0 rfl
      have c1 : wr.cell? ⟨w.heap.size, 1, none⟩ = some (.pointer (some ⟨p.pw, 0, none⟩)) := cellAt HTB.out.hb 1 rfl
      have c2 : wr.cell? ⟨w.heap.size, 2, none⟩ = some (.int .i64 me) := cellAt HTB.out.hb 2 rfl
      clear hdrop hgc hgz hgk hle hr hgl
      go_wp2_with fail
      clear hcx c0 c1 c2
      refine (load_ok (me := me) HST.out r).mono ?_
      rintro e w5 hh
      rcases hh.elim with ⟨T2, σ2, κ2, hr2, rfl, hst2, hf2, he2⟩ | ⟨x, T2, σ2, κ2, v, hr2, rfl, hv, hst2, hf2, he2⟩
      · refine ⟨rfl, ?_⟩
        rw [HW.out, loadsP, Pr.exec_bind, hr2]
        exact ⟨κ2, rfl, hst2, HF.out.trans hf2 HE.out, HE.out.trans he2 HF.out.size⟩
      obtain ⟨s, st⟩ := x
      obtain ⟨vs, rfl, vp, vk, vn, vy, rfl, rp, rk, rn, ry, _⟩ := hv
      replace HW := Lib.hid (show whole = (if st = 0 then loadsP (l.drop (q + 1)) (acc ++ [s]) else Pr.ret none).exec T2 σ2 by rw [HW.out, loadsP, Pr.exec_bind, hr2]; rfl)
      have HSA := Lib.hid (show SnapAt κ2 w5 s vp vk vn vy from ⟨rp, rk, rn, ry⟩)
      obtain ⟨ap, cp, rfl, _, _⟩ := rp.shape
      obtain ⟨ak, ck, rfl, _, _⟩ := rk.shape
      obtain ⟨an, cn, rfl, _, _⟩ := rn.shape
      obtain ⟨ayy, cyy, rfl, _, _⟩ := ry.shape
      have HBK5 := Lib.hid (show ∀ g, blk (.slice ay q cy) = some g → w.heap.size < g ∧ κ2 g = .none from fun g hg => ⟨(HBK.out g hg).1, (he2 g (HO.out.lt g hg)).trans (HBK.out g hg).2⟩)
      replace HO := Lib.hid (HO.out.move (w' := w5) fun g hg => hf2.block g (HO.out.lt g hg) (by rw [(HBK.out g hg).2]; rfl))
      replace HST := Lib.hid hst2
      replace HTB := Lib.hid (HTB.out.keep hf2 he2 rfl)
      replace HL := Lib.hid (HL.out.keep (fun b hb hk => hf2.block b hb (by rw [hk]; rfl)) hf2.size he2)
      replace HSC := Lib.hid (HSC.out.keep hf2 he2 rfl)
      have HE5 := Lib.hid (HE.out.trans he2 HF.out.size)
      replace HF := Lib.hid (HF.out.trans hf2 HE.out)
      replace HE := HE5
      clear hh hr2 hst2 hf2 he2 rp rk rn ry HE5 HBK
      by_cases hst : st = 0
      · have e1 : (st != 0) = false := by simp [hst]
        replace HW := Lib.hid (show whole = (loadsP (l.drop (q + 1)) (acc ++ [s])).exec T2 σ2 by rw [HW.out, if_pos hst])
        clear hst
        have hB1 : Below w5.heap.size w5 ((w5.alloc (.cells (snapCs s (.slice ap s.node.pairs.length cp) (.slice ak s.node.keys.length ck) (.slice an s.node.ways.length cn) (.slice ayy s.ways.length cyy)).toArray 138)).alloc (.cells (snapCs s (.slice ap s.node.pairs.length cp) (.slice ak s.node.keys.length ck) (.slice an s.node.ways.length cn) (.slice ayy s.ways.length cyy)).toArray 138)) := ((Below.refl _ _).alloc (Nat.le_refl _) _).alloc (by simp) _
        have HB1 := Lib.hid hB1
        clear hB1
        have hq1 : q ≤ 1000 := by omega
        go_wp2_with (at_builtin; refine wpList_append_row rfl _ _ 134 rfl 138 j0 (.agg Z8) 8 120 Try.underlying134 hj hy0 hy1 hy2 rfl (by decide) _ q cs rfl ?d0 (some ⟨w5.heap.size + 1, 0, none⟩) 1 1 (snapCs s (.slice ap s.node.pairs.length cp) (.slice ak s.node.keys.length ck) (.slice an s.node.ways.length cn) (.slice ayy s.ways.length cyy)) rfl ?d1 ?d4 ?d2 ?d3 ?_)
        case d0 => exact HO.out.move fun g hg => HB1.out.block g (HO.out.lt g hg)
        case d1 =>
          refine ⟨rfl, .inr ⟨_, rfl, fun j u hu => ?_⟩⟩
          have hn := Laws.heap_new (w5.alloc (.cells (snapCs s (.slice ap s.node.pairs.length cp) (.slice ak s.node.keys.length ck) (.slice an s.node.ways.length cn) (.slice ayy s.ways.length cyy)).toArray 138)) (.cells (snapCs s (.slice ap s.node.pairs.length cp) (.slice ak s.node.keys.length ck) (.slice an s.node.ways.length cn) (.slice ayy s.ways.length cyy)).toArray 138)
          rw [show (w5.alloc (Obj.cells (snapCs s (.slice ap s.node.pairs.length cp) (.slice ak s.node.keys.length ck) (.slice an s.node.ways.length cn) (.slice ayy s.ways.length cyy)).toArray 138)).heap.size = w5.heap.size + 1 by simp] at hn
          rw [Addr.add_lit, Nat.zero_add]
          exact (cell_of_heap hn).trans (by simpa using hu)
        case d4 => exact snapCs_one rfl rfl rfl rfl
        case d2 => simp only [maxLen]; omega
        case d3 => omega
        intro v' w7 hapd
        obtain ⟨ay', cy', rfl, _⟩ := hapd.own.2
        have HA := Lib.hid hapd
        clear hapd
        go_wp2
        go_roundw
        case rel =>
          have hapd := HA.out
          have hB := HB1.out
          have hw6 : w5.heap.size + 2 ≤ w7.heap.size := by have := hapd.size; simp at this; omega
          have hfa := hapd.fr (κ := κ2) (S := fun k => k == .none) (fun g hg => by rw [(HBK5.out g hg).2]; rfl)
          have hbk7 : ∀ g, blk (.slice ay' (q + 1) cy') = some g → w.heap.size < g ∧ κ2 g = .none := fun g hg => by
            rcases hapd.at_ with e | e
            · exact HBK5.out g (e ▸ hg)
            · rw [hg] at e
              simp at e
              have := HF.out.size
              have := lt_of_heap HTB.out.hb
              exact ⟨by omega, HST.out.sup _ (by omega)⟩
          have hkp : ∀ b, b ≤ w.heap.size → w7.heap[b]? = w5.heap[b]? := fun b hb => (hapd.block b (by have := lt_of_heap HTB.out.hb; simp; omega) (fun e => by have := (HBK5.out b e).1; omega)).trans (hB.block b (by have := lt_of_heap HTB.out.hb; omega))
          have himm : ∀ b, b < w5.heap.size → κ2 b = .imm → w7.heap[b]? = w5.heap[b]? := fun b hb hk => (hfa.block b (by simp; omega) (by rw [hk]; rfl)).trans (hB.block b hb)
          have h57 : Fr κ2 (fun k => k == .none) w5 w7 := (Fr.below hB).trans0 hfa
          refine ⟨q + 1, acc ++ [s], _, T2, σ2, κ2, by go_num, by omega, by rw [List.length_append, HAC.out]; rfl, HW, Lib.hid ((HST.out.below hB).frNone hfa), Lib.hid ⟨(hkp _ (Nat.le_refl _)).trans HTB.out.hb, HTB.out.kb⟩, Lib.hid (HL.out.keep himm h57.size (Ext.refl _ _)), Lib.hid hapd.own, Lib.hid hbk7, Lib.hid ((HSC.out.snoc HSA.out).keep h57 (Ext.refl _ _) rfl), Lib.hid ?_, HE⟩
          have f1 := HF.out
          exact ⟨h57.os.trans f1.os, h57.tape.trans f1.tape, h57.output.trans f1.output, by have := f1.size; omega, fun b hb hS => (hkp b (by omega)).trans (f1.block b hb hS)⟩
        case measure => simp [intOf]; omega
      · have e1 : (st != 0) = true := by simp [hst]
        have HWf := Lib.hid (show whole = .out none T2 σ2 by rw [HW.out, if_neg hst]; rfl)
        clear hst HW
        go_wp2
        refine bodyPost_ret (v := .tuple #[.slice none 0 0, .bool false]) (by simp [results, Try.results92, go_sem]) rfl ?_
        rw [HWf.out]
        have hal : ∀ o, Below w5.heap.size w5 (w5.alloc o) := fun o => (Below.refl _ _).alloc (Nat.le_refl _) o
        exact ⟨κ2, _, rfl, rfl, HST.out.below (hal _), HF.out.trans (Fr.below (hal _)) HE.out, HE.out⟩
    · have hqe : q = l.length := by omega
      have HWf := Lib.hid (show whole = .out (some acc) T1 σ1 by rw [HW.out, List.drop_eq_nil_of_le (by omega)]; rfl)
      clear HW
      go_wp2
      refine bodyPost_ret (v := .tuple #[.slice ay q cy, .bool true]) (by simp [results, Try.results92, go_sem]) rfl ?_
      rw [HWf.out]
      have hO := HO.out
      have hin : ∀ g, some g ∈ [blk (Value.slice ay q cy)] → w.heap.size < g ∧ κ1 g = .none ∧ g < wr.heap.size := fun g hg => by
        simp only [List.mem_cons, List.not_mem_nil, or_false] at hg
        exact ⟨(HBK.out g hg.symm).1, (HBK.out g hg.symm).2, hO.lt g hg.symm⟩
      have hKin : Kin κ1 (imms κ1 [blk (Value.slice ay q cy)]) := Kin.imms fun g hg => (hin g hg).2.1
      refine ⟨imms κ1 [blk (Value.slice ay q cy)], _, rfl, ⟨_, cs, rfl, ?_, HSC.out.rekind hKin⟩, HST.out.rekind hKin (imms_sup HST.out.sup (Nat.le_refl _) fun g hg => (hin g hg).2.2), HF.out, ?_⟩
      · rw [HAC.out]
        exact Row.ofOwn hO (fun g hg => imms_at (by simp [hg])) hO.noneEmpty
      · intro b hb
        have hnb : ¬ some b ∈ [blk (Value.slice ay q cy)] := fun hm => by have := hin b hm; omega
        simp only [imms, if_neg hnb]
        exact HE.out b hb
end
end Go.Proofs.Ytacmeafpieoaaaa
