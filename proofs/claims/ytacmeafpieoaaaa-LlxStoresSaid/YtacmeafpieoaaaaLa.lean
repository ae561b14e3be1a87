/- llx.Store. -/
import Derived.Test.YtacmeafpieoaaaaLz
namespace Go.Proofs.Ytacmeafpieoaaaa
open Go.RowKit

def storeRec (l : List SnapS) (keep way old now : Int) : RecS := ⟨l.map (·.ref), l.map (·.info), keep, way, old, now⟩
def store2 (n : Int) : Pr (Bool × Bool) := if n = 0 then .ret (false, true) else (recP n).bind fun d => .ret (d, false)
def storeP (l : List SnapS) (keep way old now : Int) : Pr (Bool × Bool) := (Pr.one (tMake (storeRec l keep way old now))).bind store2
def isBools : Bool × Bool → (Nat → K) → World → Value → Prop := fun x _ _ v => v = .tuple #[.bool x.1, .bool x.2]

section
variable {κ κ' : Nat → K} {w w' : World} {wi j pth : Nat} {p : WdP} {σ : ShS} {T : TS} {me : Int} {work : Value}

set_option maxRecDepth 100000 in
set_option maxHeartbeats 4000000 in
theorem store_ok (h : St κ w wi p j pth work T σ) (l : List SnapS) (hll : l.length ≤ 1000) (a0 : Option Addr) (c0 : Nat) (cs : List Value) (hl : Row κ .imm w 8 (.slice a0 l.length c0) l.length cs) (hsc : SnapsC κ w l cs) (keep way old now : Int) (hkeep : 0 ≤ keep) :
    Calls Try.prog 94 #[.agg (taskCs pth p me), .slice a0 l.length c0, .int .i64 keep, .int .i64 way, .int .i64 old, .int .i64 now] w (TPost κ w wi p j pth work ((storeP l keep way old now).exec T σ) isBools) := by
  have hmf : ∀ (fn : Fn) (first cap : Array Value) (w : World), (Instr.makeFunc fn first cap).run Try.prog w = .ok (.func fn first cap) w := fun _ _ _ _ => rfl
  obtain ⟨j0, hj, hy0, hy1, hy2⟩ := info_parts info41
  obtain ⟨i0, hi, hz0, hz1, hz2⟩ := info_parts info2
  have hS := h.sup
  have H := Lib.hid h
  have HL := Lib.hid hl
  have HSC := Lib.hid hsc
  have HKE := Lib.hid hkeep
  clear h hl hsc hkeep
  generalize hwhole : (storeP l keep way old now).exec T σ = whole
  simp only [taskCs]
  go_enter Try.func94, Try.ntmps94
  go_upto_block 0 with fail
  generalize hw0 : w.alloc (.cells #[.pointer (some ⟨pth, 0, none⟩), .pointer (some ⟨p.pw, 0, none⟩), .int .i64 me] 85) = w0
  have hB0 : Below w.heap.size w w0 := hw0 ▸ (Below.refl _ _).alloc (Nat.le_refl _) _
  have b0 : BoxAt κ w0 w.heap.size (taskCs pth p me) 85 := hw0 ▸ BoxAt.new hS _ _
  have hs0 : w0.heap.size = w.heap.size + 1 := by rw [← hw0]; simp
  generalize hw1 : w0.alloc (.cells #[.slice none 0 0, .slice none 0 0, .int .i64 keep, .int .i64 way, .int .i64 old, .int .i64 now] 93) = w1
  have b1 : BoxAt κ w1 (w.heap.size + 1) #[.slice none 0 0, .slice none 0 0, .int .i64 keep, .int .i64 way, .int .i64 old, .int .i64 now] 93 := by rw [← hw1, ← hs0]; exact BoxAt.new (hS.mono (by omega)) _ _
  have hB1 : Below w0.heap.size w0 w1 := hw1 ▸ (Below.refl _ _).alloc (Nat.le_refl _) _
  have hs1 : w1.heap.size = w.heap.size + 2 := by rw [← hw1]; simp [hs0]
  have HB0 := Lib.hid (show Below w.heap.size w w1 from hB0.trans (hB1.mono (by omega)))
  have HTB0 := Lib.hid (b0.below hB1)
  have HRB0 := Lib.hid b1
  have HS1 := Lib.hid hs1
  have hS' : Sup κ w := hS
  clear hw0 hw1 b0 b1 hB0 hB1 hs0 hs1 hS
  have HSUP := Lib.hid hS'
  clear hS'
  go_cut [25] from 26 to 43 (fun _ wx => ∃ (vn vi : Value), Hid (BoxAt κ wx w.heap.size (taskCs pth p me) 85) ∧ Hid (BoxAt κ wx (w.heap.size + 1) #[vn, vi, .int .i64 keep, .int .i64 way, .int .i64 old, .int .i64 now] 93) ∧ Hid (Below w.heap.size w wx) ∧
    Hid (Own wx 41 1 vn l.length (intVs (l.map (·.ref)))) ∧ Hid (Own wx 2 1 vi l.length (intVs (l.map (·.info)))) ∧ Hid (∀ g, blk vn = some g → w.heap.size + 2 ≤ g) ∧ Hid (∀ g, blk vi = some g → w.heap.size + 2 ≤ g))
  case first =>
    go_wp2
    go_loopw [25] (fun i wr => ∃ (q : Nat) (vn vi : Value), i = .int .i64 q ∧ q ≤ l.length ∧ Hid (BoxAt κ wr w.heap.size (taskCs pth p me) 85) ∧ Hid (BoxAt κ wr (w.heap.size + 1) #[vn, vi, .int .i64 keep, .int .i64 way, .int .i64 old, .int .i64 now] 93) ∧ Hid (Below w.heap.size w wr) ∧
      Hid (Own wr 41 1 vn q (intVs ((l.map (·.ref)).take q))) ∧ Hid (Own wr 2 1 vi q (intVs ((l.map (·.info)).take q))) ∧ Hid (∀ g, blk vn = some g → w.heap.size + 2 ≤ g ∧ blk vi ≠ some g) ∧ Hid (∀ g, blk vi = some g → w.heap.size + 2 ≤ g) ∧ Hid (w.heap.size + 2 ≤ wr.heap.size)) (fun i _ => l.length - (intOf i).toNat)
    case atStart => exact ⟨0, .slice none 0 0, .slice none 0 0, rfl, Nat.zero_le _, HTB0, HRB0, HB0, Lib.hid (Own.nil _ _ _), Lib.hid (Own.nil _ _ _), Lib.hid (by simp [blk]), Lib.hid (by simp [blk]), Lib.hid (by have := HS1.out; omega)⟩
    case round =>
      clear HTB0 HRB0 HB0 HS1
      obtain ⟨q, vn, vi, rfl, hq, HTB, HRB, HB, HON, HOI, HBN, HBI, HSZ⟩ := hrel
      obtain ⟨q1, an, cn, rfl, hlen, q2, q3⟩ := id HON.out
      obtain ⟨q4, ai, ci, rfl, hlei, q5, q6⟩ := id HOI.out
      clear q1 q2 q3 q4 q5 q6
      by_cases hlt : q < l.length
      · obtain ⟨s, hs⟩ : ∃ x, l[q]? = some x := ⟨_, List.getElem?_eq_getElem hlt⟩
        obtain ⟨g, o, cap', hv', hle, hgl, hgk, hgc, hgz⟩ := HL.out.at (by omega) (by decide)
        simp only [Value.slice.injEq] at hv'
        obtain ⟨rfl, _, rfl⟩ := hv'
        obtain ⟨vp, vk, vw, vy, hsa, hcs⟩ := HSC.out.at hs
        obtain ⟨ap, cp, rfl, _, _⟩ := hsa.rp.shape
        obtain ⟨ak, ck, rfl, _, _⟩ := hsa.rk.shape
        obtain ⟨aw, cw, rfl, _, _⟩ := hsa.rn.shape
        obtain ⟨ay, cy, rfl, _, _⟩ := hsa.ry.shape
        have hcell : ∀ j u, (snapCs s (.slice ap s.node.pairs.length cp) (.slice ak s.node.keys.length ck) (.slice aw s.node.ways.length cw) (.slice ay s.ways.length cy))[j]? = some u → wr.cell? ⟨g, o + q * 8 + j, none⟩ = some u := fun j u hu => by
          rw [Nat.add_assoc]
          exact (HB.out.cell (p := ⟨g, o + (q * 8 + j), none⟩) hgl).trans (hgc _ _ (hcs j u hu))
        have x0 := hcell 0 _ rfl
        have x1 := hcell 1 _ rfl
        have x2 := hcell 2 _ rfl
        have x3 := hcell 3 _ rfl
        have x4 := hcell 4 _ rfl
        have x5 := hcell 5 _ rfl
        have x6 := hcell 6 _ rfl
        have x7 := hcell 7 _ rfl
        have hgw : g < wr.heap.size := Nat.lt_of_lt_of_le hgl HB.out.size
        rw [Nat.add_zero] at x0
        have r0 : wr.cell? ⟨w.heap.size + 1, 0, none⟩ = some (.slice an q cn) := cellAt HRB.out.hb 0 rfl
        have r1 : wr.cell? ⟨w.heap.size + 1, 1, none⟩ = some (.slice ai q ci) := cellAt HRB.out.hb 1 rfl
        have hrl : w.heap.size + 1 < wr.heap.size := by have := HSZ.out; omega
        have HS0 := Lib.hid hs
        have hln : l.length ≤ 1000 := hll
        clear hgc hgz hgk hle hcs hsa hcell hs
        go_upto_region 5 with fail
        clear x0 x1 x2 x3 x4 x5 x6 x7 r0 r1
        generalize hwA : wr.alloc (.cells #[.int .i64 s.ref, .int .i64 s.info, .bool s.node.inner, .bool s.node.tagged, .slice ap s.node.pairs.length cp, .slice ak s.node.keys.length ck, .slice aw s.node.ways.length cw, .slice ay s.ways.length cy] 138) = wA
        have hBA : Below wr.heap.size wr wA := hwA ▸ (Below.refl _ _).alloc (Nat.le_refl _) _
        have hxb : wA.heap[wr.heap.size]? = some (.cells #[.int .i64 s.ref, .int .i64 s.info, .bool s.node.inner, .bool s.node.tagged, .slice ap s.node.pairs.length cp, .slice ak s.node.keys.length ck, .slice aw s.node.ways.length cw, .slice ay s.ways.length cy] 138 (0, 0)) := hwA ▸ Laws.heap_new wr _
        have s0 : wA.cell? ⟨wr.heap.size, 0, none⟩ = some (.int .i64 s.ref) := cellAt hxb 0 rfl
        have HRA := Lib.hid (HRB.out.below hBA)
        have r0 : wA.cell? ⟨w.heap.size + 1, 0, none⟩ = some (.slice an q cn) := cellAt HRA.out.hb 0 rfl
        have hlA := lt_of_heap hxb
        have HXB := Lib.hid hxb
        have HBA := Lib.hid hBA
        have HONA := Lib.hid (HON.out.move (w' := wA) fun g hg => hBA.block g (HON.out.lt g hg))
        have HOIA := Lib.hid (HOI.out.move (w' := wA) fun g hg => hBA.block g (HOI.out.lt g hg))
        clear hwA hBA hxb
        go_wp2_with (at_builtin; refine wpList_append_row rfl _ _ 56 rfl 41 j0 (.int .i64 0) 1 8 Try.underlying56 hj hy0 hy1 hy2 rfl (by decide) _ q (intVs ((l.map (·.ref)).take q)) rfl ?a0 (some ⟨wA.heap.size, 0, none⟩) 1 1 [.int .i64 s.ref] rfl ?a1 ?a4 ?a2 ?a3 ?_)
        case a0 => exact HONA.out.move fun g hg => Below.heap_alloc _ _ _ (HONA.out.lt g hg)
        case a1 => exact ⟨rfl, .inr ⟨_, rfl, fun j u hu => by rw [Addr.add_lit, cell_of_heap (Laws.heap_new wA _)]; simpa using hu⟩⟩
        case a4 => intro u hu; simp only [List.mem_cons, List.not_mem_nil, or_false] at hu; subst hu; rfl
        case a2 => simp only [maxLen]; omega
        case a3 => omega
        intro v' w5 hapd
        obtain ⟨an', cn', rfl, _⟩ := hapd.own.2
        have hal : Below wA.heap.size wA (wA.alloc (.cells #[Value.int .i64 s.ref] 41)) := (Below.refl _ _).alloc (Nat.le_refl _) _
        have h5 : ∀ b, b < wA.heap.size → blk (.slice an q cn) ≠ some b → w5.heap[b]? = wA.heap[b]? := fun b hb hn => (hapd.block b (by simp; omega) hn).trans (hal.block b hb)
        have hA5 : wA.heap.size + 1 ≤ w5.heap.size := by have := hapd.size; simpa using this
        have hnr : blk (.slice an q cn) ≠ some (w.heap.size + 1) := fun e => by have := (HBN.out _ e).1; omega
        have hnx : blk (.slice an q cn) ≠ some wr.heap.size := fun e => by have := HON.out.lt _ e; omega
        have b5 : BoxAt κ w5 (w.heap.size + 1) #[.slice an q cn, .slice ai q ci, .int .i64 keep, .int .i64 way, .int .i64 old, .int .i64 now] 93 := ⟨(h5 _ (by omega) hnr).trans HRA.out.hb, HRA.out.kb⟩
        have y0 : w5.cell? ⟨w.heap.size + 1, 0, none⟩ = some (.slice an q cn) := cellAt b5.hb 0 rfl
        have yz : w5.frozen? ⟨w.heap.size + 1, 0, none⟩ = false := frozen_of_heap b5.hb
        have HB5 := Lib.hid b5
        have HX5 := Lib.hid ((h5 wr.heap.size hlA hnx).trans HXB.out)
        have H5 := Lib.hid h5
        have HA := Lib.hid hapd
        have hnew : ∀ g, blk (.slice an' (q + 1) cn') = some g → w.heap.size + 2 ≤ g ∧ blk (.slice ai q ci) ≠ some g ∧ (g = wA.heap.size + 1 ∨ blk (.slice an q cn) = some g) := fun g hg => by
          rcases hapd.at_ with e | e
          · exact ⟨(HBN.out g (e ▸ hg)).1, (HBN.out g (e ▸ hg)).2, .inr (e ▸ hg)⟩
          · rw [hg] at e
            simp at e
            exact ⟨by have := HSZ.out; omega, fun e2 => by have := HOIA.out.lt _ e2; omega, .inl (by omega)⟩
        have HNEW := Lib.hid hnew
        clear hapd hal h5 hnr hnx b5 hnew s0 r0
        go_upto_region 6 with fail
        generalize hwB : w5.setCell ⟨w.heap.size + 1, 0, none⟩ (.slice an' (q + 1) cn') = wB
        have hBo : ∀ b, b ≠ w.heap.size + 1 → wB.heap[b]? = w5.heap[b]? := fun b hb => hwB ▸ Below.heap_setCell _ _ _ _ hb
        have hsB : wB.heap.size = w5.heap.size := by rw [← hwB]; exact setCell_size _ _ _
        have bB : BoxAt κ wB (w.heap.size + 1) #[.slice an' (q + 1) cn', .slice ai q ci, .int .i64 keep, .int .i64 way, .int .i64 old, .int .i64 now] 93 := hwB ▸ HB5.out.set
        have r1 : wB.cell? ⟨w.heap.size + 1, 1, none⟩ = some (.slice ai q ci) := cellAt bB.hb 1 rfl
        have xB : wB.heap[wr.heap.size]? = some (.cells #[.int .i64 s.ref, .int .i64 s.info, .bool s.node.inner, .bool s.node.tagged, .slice ap s.node.pairs.length cp, .slice ak s.node.keys.length ck, .slice aw s.node.ways.length cw, .slice ay s.ways.length cy] 138 (0, 0)) := (hBo _ (by omega)).trans HX5.out
        have s1 : wB.cell? ⟨wr.heap.size, 1, none⟩ = some (.int .i64 s.info) := cellAt xB 1 rfl
        have HEB : Hid (wB.os = w5.os ∧ wB.tape = w5.tape ∧ wB.output = w5.output) := Lib.hid (hwB ▸ ⟨rfl, rfl, rfl⟩)
        have HOIB := Lib.hid (HOIA.out.move (w' := wB) fun g hg => (hBo g (by have := HBI.out g hg; omega)).trans (H5.out g (HOIA.out.lt g hg) (fun e => (HBN.out g e).2 hg)))
        have HONB := Lib.hid (HA.out.own.move (w' := wB) fun g hg => hBo g (by have := (HNEW.out g hg).1; omega))
        have HBB := Lib.hid bB
        have HBO := Lib.hid hBo
        have HSB := Lib.hid hsB
        clear hwB hBo bB xB hsB y0 yz HOIA HONA
        go_wp2_with (at_builtin; refine wpList_append_row rfl _ _ 22 rfl 2 i0 (.int .i64 0) 1 8 Try.underlying22 hi hz0 hz1 hz2 rfl (by decide) _ q (intVs ((l.map (·.info)).take q)) rfl ?e0 (some ⟨wB.heap.size, 0, none⟩) 1 1 [.int .i64 s.info] rfl ?e1 ?e4 ?e2 ?e3 ?_)
        case e0 => exact HOIB.out.move fun g hg => Below.heap_alloc _ _ _ (HOIB.out.lt g hg)
        case e1 => exact ⟨rfl, .inr ⟨_, rfl, fun j u hu => by rw [Addr.add_lit, cell_of_heap (Laws.heap_new wB _)]; simpa using hu⟩⟩
        case e4 => intro u hu; simp only [List.mem_cons, List.not_mem_nil, or_false] at hu; subst hu; rfl
        case e2 => simp only [maxLen]; omega
        case e3 => omega
        intro v' w6 hapd
        obtain ⟨ai', ci', rfl, _⟩ := hapd.own.2
        have hal : Below wB.heap.size wB (wB.alloc (.cells #[Value.int .i64 s.info] 2)) := (Below.refl _ _).alloc (Nat.le_refl _) _
        have h6 : ∀ b, b < wB.heap.size → blk (.slice ai q ci) ≠ some b → w6.heap[b]? = wB.heap[b]? := fun b hb hn => (hapd.block b (by simp; omega) hn).trans (hal.block b hb)
        have hB6 : wB.heap.size + 1 ≤ w6.heap.size := by have := hapd.size; simpa using this
        have hnr : blk (.slice ai q ci) ≠ some (w.heap.size + 1) := fun e => by have := HBI.out _ e; omega
        have b6 : BoxAt κ w6 (w.heap.size + 1) #[.slice an' (q + 1) cn', .slice ai q ci, .int .i64 keep, .int .i64 way, .int .i64 old, .int .i64 now] 93 := ⟨(h6 _ (lt_of_heap HBB.out.hb) hnr).trans HBB.out.hb, HBB.out.kb⟩
        have y0 : w6.cell? ⟨w.heap.size + 1, 1, none⟩ = some (.slice ai q ci) := cellAt b6.hb 1 rfl
        have yz : w6.frozen? ⟨w.heap.size + 1, 1, none⟩ = false := frozen_of_heap b6.hb
        have HB6 := Lib.hid b6
        have H6 := Lib.hid h6
        have HA6 := Lib.hid hapd
        clear hapd hal h6 hnr b6 r1 s1
        go_wp2
        go_roundw
        case rel =>
          have hapd := HA6.out
          have ho : ∀ b, b ≠ w.heap.size + 1 → (w6.setCell ⟨w.heap.size + 1, 1, none⟩ (.slice ai' (q + 1) ci')).heap[b]? = w6.heap[b]? := fun b hb => Below.heap_setCell _ _ _ _ hb
          have hbsz := HSB.out
          have hsz := HSZ.out
          have hni : ∀ g, blk (.slice ai' (q + 1) ci') = some g → w.heap.size + 2 ≤ g ∧ blk (.slice an' (q + 1) cn') ≠ some g := fun g hg => by
            rcases hapd.at_ with e | e
            · exact ⟨HBI.out g (e ▸ hg), fun e2 => (HNEW.out g e2).2.1 (e ▸ hg)⟩
            · rw [hg] at e
              simp at e
              exact ⟨by omega, fun e2 => by have := HONB.out.lt _ e2; omega⟩
          have hall : ∀ b, b < w.heap.size + 2 → b ≠ w.heap.size + 1 → (w6.setCell ⟨w.heap.size + 1, 1, none⟩ (.slice ai' (q + 1) ci')).heap[b]? = wr.heap[b]? := fun b hb hne =>
            (ho b hne).trans ((H6.out b (by omega) (fun e => by have := HBI.out b e; omega)).trans ((HBO.out b hne).trans ((H5.out b (by omega) (fun e => by have := (HBN.out b e).1; omega)).trans (HBA.out.block b (by omega)))))
          have htk : (l.map (·.ref)).take (q + 1) = (l.map (·.ref)).take q ++ [s.ref] := by rw [List.take_add_one, List.getElem?_map, HS0.out]; rfl
          have hti : (l.map (·.info)).take (q + 1) = (l.map (·.info)).take q ++ [s.info] := by rw [List.take_add_one, List.getElem?_map, HS0.out]; rfl
          refine ⟨q + 1, .slice an' (q + 1) cn', .slice ai' (q + 1) ci', by go_num, by omega, Lib.hid ⟨(hall _ (by omega) (by omega)).trans HTB.out.hb, HTB.out.kb⟩, Lib.hid HB6.out.set, Lib.hid ?_, Lib.hid ?_, Lib.hid ?_, Lib.hid fun g hg => ⟨(HNEW.out g hg).1, fun e => (hni g e).2 hg⟩, Lib.hid fun g hg => (hni g hg).1, Lib.hid (by rw [setCell_size]; omega)⟩
          · have e6 := HA6.out
            have e5 := HA.out
            have eb := HEB.out
            exact ⟨e6.os.trans (eb.1.trans (e5.os.trans (HBA.out.os.trans HB.out.os))), e6.tape.trans (eb.2.1.trans (e5.tape.trans (HBA.out.tape.trans HB.out.tape))), e6.output.trans (eb.2.2.trans (e5.output.trans (HBA.out.output.trans HB.out.output))), by rw [setCell_size]; omega, fun b hb => (hall b (by omega) (by omega)).trans (HB.out.block b hb)⟩
          · rw [htk, intVs_append]
            exact HONB.out.move fun g hg => (ho g (by have := (HNEW.out g hg).1; omega)).trans (H6.out g (HONB.out.lt g hg) (HNEW.out g hg).2.1)
          · rw [hti, intVs_append]
            exact hapd.own.move fun g hg => ho g (by have := (hni g hg).1; omega)
        case measure => simp [intOf]; omega
      · have hqe : q = l.length := by omega
        subst hqe
        go_wp2
        go_meet
        case rel => exact ⟨_, _, HTB, HRB, HB, Lib.hid (by have h := HON.out; rwa [List.take_of_length_le (by simp)] at h), Lib.hid (by have h := HOI.out; rwa [List.take_of_length_le (by simp)] at h), Lib.hid (fun g hg => (HBN.out g hg).1), HBI⟩
  case rest =>
    clear HTB0 HRB0 HB0 HS1
    obtain ⟨vn, vi, HTB, HRB, HB, HON, HOI, HBN, HBI⟩ := hcut
    have hlr : (l.map (·.ref)).length = l.length := by simp
    have hli : (l.map (·.info)).length = l.length := by simp
    have hin : ∀ g, some g ∈ [blk vn, blk vi] → w.heap.size + 2 ≤ g ∧ g < wc.heap.size := fun g hg => by
      simp only [List.mem_cons, List.not_mem_nil, or_false] at hg
      rcases hg with e | e
      · exact ⟨HBN.out g e.symm, HON.out.lt g e.symm⟩
      · exact ⟨HBI.out g e.symm, HOI.out.lt g e.symm⟩
    have HIN := Lib.hid hin
    have hKin : Kin κ (imms κ [blk vn, blk vi]) := Kin.imms fun g hg => HSUP.out g (by have := hin g hg; omega)
    have hex : Ext κ (imms κ [blk vn, blk vi]) w := imms_ext fun g hg => by have := hin g hg; omega
    have HST := Lib.hid ((H.out.below HB.out).rekind hKin (imms_sup HSUP.out HB.out.size fun g hg => (hin g hg).2))
    have hno : ∀ b, b < w.heap.size + 2 → imms κ [blk vn, blk vi] b = κ b := fun b hb => by
      have hnb : ¬ some b ∈ [blk vn, blk vi] := fun hm => by have := hin b hm; omega
      simp only [imms, if_neg hnb]
    have HTB2 := Lib.hid (show BoxAt (imms κ [blk vn, blk vi]) wc w.heap.size (taskCs pth p me) 85 from ⟨HTB.out.hb, (hno _ (by omega)).trans HTB.out.kb⟩)
    have HRB2 := Lib.hid (show BoxAt (imms κ [blk vn, blk vi]) wc (w.heap.size + 1) #[vn, vi, .int .i64 keep, .int .i64 way, .int .i64 old, .int .i64 now] 93 from ⟨HRB.out.hb, (hno _ (by omega)).trans HRB.out.kb⟩)
    have hrn : Row (imms κ [blk vn, blk vi]) .imm wc 1 vn (storeRec l keep way old now).nodes.length (intVs (storeRec l keep way old now).nodes) := by
      show Row _ _ _ _ _ (l.map (·.ref)).length _
      rw [hlr]
      exact Row.ofOwn HON.out (fun g hg => imms_at (by simp [hg])) HON.out.noneEmpty
    have hri : Row (imms κ [blk vn, blk vi]) .imm wc 1 vi (storeRec l keep way old now).infos.length (intVs (storeRec l keep way old now).infos) := by
      show Row _ _ _ _ _ (l.map (·.info)).length _
      rw [hli]
      exact Row.ofOwn HOI.out (fun g hg => imms_at (by simp [hg])) HOI.out.noneEmpty
    have HRN := Lib.hid hrn
    have HRI := Lib.hid hri
    have HF := Lib.hid (show Fr κ (K.step wi j) w wc from Fr.below HB.out)
    have HE := Lib.hid hex
    have HLEN := Lib.hid (show (storeRec l keep way old now).nodes.length = (storeRec l keep way old now).infos.length by show (l.map (·.ref)).length = (l.map (·.info)).length; rw [hlr, hli])
    have HSN := Lib.hid (show (storeRec l keep way old now).nodes.length ≤ 1048576 by show (l.map (·.ref)).length ≤ 1048576; rw [hlr]; omega)
    have HW := Lib.hid hwhole.symm
    clear hlr hli hin hKin hex hno hrn hri HTB HRB HB HON HOI HBN HBI H HL HSC HSUP hwhole
    generalize imms κ [blk vn, blk vi] = κ1 at *
    have c0 : wc.cell? ⟨w.heap.size, 0, none⟩ = some (.pointer (some ⟨pth, 0, none⟩)) := cellAt HTB2.out.hb 0 rfl
    go_wp2_with fail
    clear c0
    refine (do_ok HST.out 142 _ (tMake (storeRec l keep way old now)) enters142 (touch_make HRN.out HRI.out HLEN.out HKE.out HSN.out HTB2.out HRB2.out)).mono ?_
    rintro e w5 hh
    rcases hh.elim with ⟨T2, σ2, κ2, hr2, rfl, hst2, hf2, he2⟩ | ⟨n, T2, σ2, κ2, v, hr2, rfl, hv, hst2, hf2, he2⟩
    · refine ⟨rfl, ?_⟩
      rw [HW.out, storeP, Pr.exec_bind, hr2]
      exact ⟨κ2, rfl, hst2, HF.out.trans hf2 HE.out, HE.out.trans he2 HF.out.size⟩
    replace hv : v = .int .i64 n := hv
    subst hv
    replace HW := Lib.hid (show whole = (store2 n).exec T2 σ2 by rw [HW.out, storeP, Pr.exec_bind, hr2]; rfl)
    have HST2 := Lib.hid hst2
    have HTB3 := Lib.hid (HTB2.out.keep hf2 he2 rfl)
    have HE2 := Lib.hid (HE.out.trans he2 HF.out.size)
    have HF2 := Lib.hid (HF.out.trans hf2 HE.out)
    clear hh hr2 hst2 hf2 he2 HST HTB2 HRB2 HRN HRI HLEN HSN HF HE
    by_cases hn : n = 0
    · have e1 : (n == 0) = true := by simp [hn]
      have HWf := Lib.hid (show whole = .out (false, true) T2 σ2 by rw [HW.out, store2, if_pos hn]; rfl)
      clear hn HW
      go_wp2
      refine bodyPost_ret (v := .tuple #[.bool false, .bool true]) (by simp [results, Try.results94, go_sem]) rfl ?_
      rw [HWf.out]
      exact ⟨κ2, _, rfl, rfl, HST2.out, HF2.out, HE2.out⟩
    · have e1 : (n == 0) = false := by simp [hn]
      replace HW := Lib.hid (show whole = ((recP n).bind fun d => .ret (d, false)).exec T2 σ2 by rw [HW.out, store2, if_neg hn])
      clear hn
      have c0 : w5.cell? ⟨w.heap.size, 0, none⟩ = some (.pointer (some ⟨pth, 0, none⟩)) := cellAt HTB3.out.hb 0 rfl
      have c1 : w5.cell? ⟨w.heap.size, 1, none⟩ = some (.pointer (some ⟨p.pw, 0, none⟩)) := cellAt HTB3.out.hb 1 rfl
      have c2 : w5.cell? ⟨w.heap.size, 2, none⟩ = some (.int .i64 me) := cellAt HTB3.out.hb 2 rfl
      go_wp2_with fail
      clear c0 c1 c2
      refine (record_ok (me := me) HST2.out n).mono ?_
      rintro e w6 hh
      rcases hh.elim with ⟨T3, σ3, κ3, hr2, rfl, hst2, hf2, he2⟩ | ⟨d, T3, σ3, κ3, v, hr2, rfl, hv, hst2, hf2, he2⟩
      · refine ⟨rfl, ?_⟩
        rw [HW.out, Pr.exec_bind, hr2]
        exact ⟨κ3, rfl, hst2, HF2.out.trans hf2 HE2.out, HE2.out.trans he2 HF2.out.size⟩
      replace hv : v = .bool d := hv
      subst hv
      have HWf := Lib.hid (show whole = .out (d, false) T3 σ3 by rw [HW.out, Pr.exec_bind, hr2]; rfl)
      have HX := Lib.hid (show St κ3 w6 wi p j pth work T3 σ3 ∧ Fr κ (K.step wi j) w w6 ∧ Ext κ κ3 w from ⟨hst2, HF2.out.trans hf2 HE2.out, HE2.out.trans he2 HF2.out.size⟩)
      clear hh hr2 hst2 hf2 he2 HW
      go_wp2
      refine bodyPost_ret (v := .tuple #[.bool d, .bool false]) (by simp [results, Try.results94, go_sem]) rfl ?_
      rw [HWf.out]
      exact ⟨κ3, _, rfl, rfl, HX.out.1, HX.out.2.1, HX.out.2.2⟩
end
end Go.Proofs.Ytacmeafpieoaaaa
