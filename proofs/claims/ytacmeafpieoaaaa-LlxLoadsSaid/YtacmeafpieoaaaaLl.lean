/- boscagelaw10.LlxLoads returns true. -/
import Derived.Test.YtacmeafpieoaaaaLp
import Derived.Test.YtacmeafpieoaaaaAk
import Derived.Test.YtacmeafpieoaaaaNa
namespace Go.Proofs.Ytacmeafpieoaaaa
open Go.RowKit

theorem Row.take {κ : Nat → K} {k : K} {w : World} {sz : Nat} {a : Option Addr} {n c m : Nat} {cs : List Value} (h : Row κ k w sz (.slice a n c) n cs) (hm : m ≤ n) (h0 : 0 < m) (hsz : 0 < sz) : Row κ k w sz (.slice a m c) m (cs.take (m * sz)) := by
  have hl := h.1
  obtain ⟨g, o, cap, hv, hle, hg, hk, hc, hf⟩ := h.at (by omega) hsz
  simp only [Value.slice.injEq] at hv
  obtain ⟨rfl, _, rfl⟩ := hv
  refine ⟨?_, _, _, rfl, by omega, by simp, .inr ⟨g, o, rfl, hg, hk, fun j u hj => ?_, hf⟩⟩
  · rw [List.length_take, hl]; exact Nat.min_eq_left (Nat.mul_le_mul_right _ hm)
  · rw [List.getElem?_take] at hj
    split at hj
    · exact hc j u hj
    · cases hj

theorem shN12_get : (ShN 1 2).A.get (nodeRef 0) ≠ none := by
  show (ArN 2).get (nodeRef 0) ≠ none
  rw [ArN_get 2 0 (by omega) (by omega)]; simp

set_option maxRecDepth 100000 in
set_option maxHeartbeats 4000000 in
theorem llxLoads_walk (st : Int) (hst : 0 ≤ st) (hst' : st ≤ 255) (marked none_ : Bool) (s : Int) (hs : st % 3 = s) (hs3 : s = 0 ∨ s = 1 ∨ s = 2) (w : World) :
    Calls Try.prog 16 #[.int .u8 st, .bool marked, .bool none_] w fun e w' => e = .returned (.bool true) ∧ Below w.heap.size w w' := by
  go_enter Try.func16, Try.ntmps16
  go_wp2_with fail
  refine (awake10_ok w).mono ?_
  rintro e w1 ⟨rfl, hB⟩
  have HB := Lib.hid hB
  clear hB
  go_wp2_with fail
  refine (nodes_ok 0 (supNo w1) 1 2 (by decide) (by decide) (by omega)).mono ?_
  rintro e w2 ⟨κ2, p, a, c, rfl, hpe, hW, hrow, hF, hE, hS⟩
  have HLW0 := Lib.hid (Lw.new hW hF hE hS)
  have HROW0 := Lib.hid hrow
  clear hW hF hE hS hpe hrow
  go_upto_region 4 with fail
  go_cut [9, 10] from 23 to 34 (fun v9 _ wx => ∃ κ4 : Nat → Ytacmeafpieoaaaa.K, v9 = .int .i64 1 ∧ Hid (Lw w1 κ4 0 p ShL1 wx) ∧ Hid (Row κ4 .imm wx 1 (.slice a 2 c) 2 (intVs (nodeRefs 2))))
  case first =>
    have HLW := Lib.hid HLW0.out.drew
    have HROWW := Lib.hid (HROW0.out.keep (w' := w2.drew) (fun b hb _ => rfl) (Nat.le_refl _) (Ext.refl _ _))
    obtain ⟨g, o, cap, hv, hle, hgl, hgk, hgc, hgz⟩ := HROWW.out.at (by omega) (by decide)
    simp only [Value.slice.injEq] at hv
    obtain ⟨rfl, _, rfl⟩ := hv
    clear HLW0 HROW0 hgc hgz
    generalize hWd : w2.drew = W at *
    have hpl := lt_of_heap HLW.out.wd.hpw
    have c1 : W.cell? ⟨p.pw, 1, none⟩ = some (.pointer (some ⟨p.pt, 0, none⟩)) := cellAt HLW.out.wd.hpw 1 rfl
    have hS : Below W.heap.size W W := Below.refl _ _
    have hc1 : (1 : Int) ≤ (c : Int) := by omega
    refine Mask.beginAt (fun W' => Below W.heap.size W W') (fun i => i != 8 && i != 9 && i != 10 && i != 11 && i != 12 && i != 13) (by kernel_rfl) W hWd ?_
    refine Mask.take 0 24 (v := ?_) rfl rfl (by kernel_rfl) (by kernel_rfl) (by kernel_rfl) rfl (by kernel_rfl) (by kernel_rfl) (fun _ _ _ h => h) hS (Or.inl ⟨by rfl, ?_⟩) ?_
    rotate_left
    · intro w hSw; (try dsimp only at hSw); go_simp; try with_reducible rfl
    simp only [Act.put, List.setIfInBounds_toArray, List.set_cons_zero, List.set_cons_succ]
    refine Mask.take 1 25 (v := ?_) rfl rfl (by kernel_rfl) (by kernel_rfl) (by kernel_rfl) rfl (by kernel_rfl) (by kernel_rfl) (fun _ _ _ h => h) hS (Or.inl ⟨by rfl, ?_⟩) ?_
    rotate_left
    · intro w hSw; (try dsimp only at hSw); go_simp; try with_reducible rfl
    simp only [Act.put, List.setIfInBounds_toArray, List.set_cons_zero, List.set_cons_succ]
    refine Mask.take 2 26 (v := ?_) rfl rfl (by kernel_rfl) (by kernel_rfl) (by kernel_rfl) rfl (by kernel_rfl) (by kernel_rfl) (fun _ _ _ h => h) hS (Or.inl ⟨by rfl, ?_⟩) ?_
    rotate_left
    · intro w hSw; (try dsimp only at hSw); go_simp; try with_reducible rfl
    simp only [Act.put, List.setIfInBounds_toArray, List.set_cons_zero, List.set_cons_succ]
    refine Mask.take 3 27 (v := ?_) rfl rfl (by kernel_rfl) (by kernel_rfl) (by kernel_rfl) rfl (by kernel_rfl) (by kernel_rfl) (fun _ _ _ h => h) hS (Or.inl ⟨by rfl, ?_⟩) ?_
    rotate_left
    · intro w hSw; (try dsimp only at hSw); obtain ⟨hc__, hf__⟩ := bcell hSw; go_simp; try with_reducible rfl
    simp only [Act.put, List.setIfInBounds_toArray, List.set_cons_zero, List.set_cons_succ]
    refine Mask.take 4 28 (v := ?_) rfl rfl (by kernel_rfl) (by kernel_rfl) (by kernel_rfl) rfl (by kernel_rfl) (by kernel_rfl) (fun _ _ _ h => h) hS (Or.inl ⟨by rfl, ?_⟩) ?_
    rotate_left
    · intro w hSw; (try dsimp only at hSw); go_simp; try with_reducible rfl
    simp only [Act.put, List.setIfInBounds_toArray, List.set_cons_zero, List.set_cons_succ]
    refine Mask.take 5 29 (v := ?_) rfl rfl (by kernel_rfl) (by kernel_rfl) (by kernel_rfl) rfl (by kernel_rfl) (by kernel_rfl) (fun _ _ _ h => h) hS (Or.inl ⟨by rfl, ?_⟩) ?_
    rotate_left
    · intro w hSw; (try dsimp only at hSw); go_simp; try with_reducible rfl
    simp only [Act.put, List.setIfInBounds_toArray, List.set_cons_zero, List.set_cons_succ]
    -- 6: buildSlice T22 1 [(0, i64:0)]
    refine Mask.one 6 (by kernel_rfl) rfl rfl (fun K__ hK => ?_)
    go_simp
    generalize hG__ : W.alloc (.cells #[.int .i64 0] 2) = wq1
    have hZ : Below W.heap.size W wq1 := hG__ ▸ (Below.refl _ _).alloc (Nat.le_refl _) _
    have hnew : wq1.heap[W.heap.size]? = some (.cells #[.int .i64 0] 2 (0, 0)) := hG__ ▸ Laws.heap_new W _
    have HL1 := Lib.hid (HLW.out.below hZ)
    have HR1 := Lib.hid (HROWW.out.keep (w' := wq1) (fun b hb _ => hZ.block b hb) hZ.size (Ext.refl _ _))
    have r2 : RowN κ2 (K.recs 0) wq1 1 (.slice (some ⟨W.heap.size, 0, none⟩) 1 1) recL.infos.length (intVs recL.infos) := RowN.new hnew (by rw [HLW.out.sup _ (Nat.le_refl _)]; rfl) 1 _ rfl 1 rfl
    have hSn := hS.trans (hZ.mono hS.size)
    clear hG__ hnew hZ
    refine hK _ _ (fun _ => ?_) ?_
    · exact hSn
    replace hS := hSn; clear hSn
    clear hK K__
    try simp only [Act.put, List.setIfInBounds_toArray, List.set_cons_zero, List.set_cons_succ]
    refine Mask.take 7 31 (v := ?_) rfl rfl (by kernel_rfl) (by kernel_rfl) (by kernel_rfl) rfl (by kernel_rfl) (by kernel_rfl) (fun _ _ _ h => h) hS (Or.inl ⟨by rfl, ?_⟩) ?_
    rotate_left
    · intro w hSw; (try dsimp only at hSw); go_simp; try with_reducible rfl
    simp only [Act.put, List.setIfInBounds_toArray, List.set_cons_zero, List.set_cons_succ]
    -- 8: call F73[t27, t31] types#[39, 93]
    refine Mask.one 8 (by kernel_rfl) rfl rfl (fun K__ hK => ?_)
    go_simp
    have r1 : RowN κ2 (K.recs 0) wq1 1 (.slice (some ⟨g, o, none⟩) 1 c) recL.nodes.length (intVs recL.nodes) := (HR1.out.take (m := 1) (by omega) (by omega) (by omega)).toN rfl
    refine (make_ok HL1.out.wd.tab HL1.out.sup recL r1 r2 rfl (by decide) (by decide)).mono ?_
    rintro e w4 ⟨κ4, rfl, h1, h2, h3, h4⟩
    have HR4 := Lib.hid (HR1.out.keep (fun b hb hk => h2.block b hb (by rw [hk]; rfl)) h2.size h3)
    have HL4 := Lib.hid (show Lw w1 κ4 0 p ShL1 w4 from HL1.out.turnT h1 h2 h3 h4)
    rw [show ((ShN 1 2).T.make recL).1.1 = 1 from rfl]
    clear h1 h2 h3 h4 r1 r2
    refine hK _ _ (fun h => (by cases h)) ?_
    clear hK K__
    try simp only [Act.put, List.setIfInBounds_toArray, List.set_cons_zero, List.set_cons_succ]
    refine Mask.takeP 9 23 (v := ?_) rfl rfl (by kernel_rfl) (by kernel_rfl) (by kernel_rfl) rfl (fun _ _ _ h => h) (Or.inl ⟨by rfl, ?_⟩) ?_
    rotate_left
    · intro w hSw; (try dsimp only at hSw); go_simp; try with_reducible rfl
    simp only [Act.put, List.setIfInBounds_toArray, List.set_cons_zero, List.set_cons_succ]
    refine Mask.takeP 10 33 (v := ?_) rfl rfl (by kernel_rfl) (by kernel_rfl) (by kernel_rfl) rfl (fun _ _ _ h => h) (Or.inl ⟨by rfl, ?_⟩) ?_
    rotate_left
    · intro w hSw; (try dsimp only at hSw); go_simp; try with_reducible rfl
    simp only [Act.put, List.setIfInBounds_toArray, List.set_cons_zero, List.set_cons_succ]
    refine Mask.takeP 11 34 (v := ?_) rfl rfl (by kernel_rfl) (by kernel_rfl) (by kernel_rfl) rfl (fun _ _ _ h => h) (Or.inl ⟨by rfl, ?_⟩) ?_
    rotate_left
    · intro w hSw; (try dsimp only at hSw); go_simp; try with_reducible rfl
    simp only [Act.put, List.setIfInBounds_toArray, List.set_cons_zero, List.set_cons_succ]
    refine Mask.takeP 12 9 (v := ?_) rfl rfl (by kernel_rfl) (by kernel_rfl) (by kernel_rfl) rfl (fun _ _ _ h => h) (Or.inl ⟨by rfl, ?_⟩) ?_
    rotate_left
    · intro w hSw; (try dsimp only at hSw); go_simp; try with_reducible rfl
    simp only [Act.put, List.setIfInBounds_toArray, List.set_cons_zero, List.set_cons_succ]
    refine Mask.takeP 13 10 (v := ?_) rfl rfl (by kernel_rfl) (by kernel_rfl) (by kernel_rfl) rfl (fun _ _ _ h => h) (Or.inl ⟨by rfl, ?_⟩) ?_
    rotate_left
    · intro w hSw; (try dsimp only at hSw); go_simp; try with_reducible rfl
    simp only [Act.put, List.setIfInBounds_toArray, List.set_cons_zero, List.set_cons_succ]
    refine Mask.done (by kernel_rfl) ?_ _
    go_wp2
    go_meet
    case rel => exact ⟨κ4, rfl, HL4, HR4⟩
  case rest =>
    clear HLW0 HROW0
    obtain ⟨κ4, rfl, HL, HR⟩ := hcut
    have c1 : wc.cell? ⟨p.pw, 1, none⟩ = some (.pointer (some ⟨p.pt, 0, none⟩)) := cellAt HL.out.wd.hpw 1 rfl
    go_wp2_with fail
    clear c1
    refine (set_ok HL.out.wd.tab 1 s).mono ?_
    rintro e w4 ⟨rfl, h1, h2⟩
    have HL2 := Lib.hid (show Lw w1 κ4 0 p (ShL2 s) w4 from HL.out.turnT h1 h2 (Ext.refl _ _) (HL.out.sup.mono h2.size))
    have HR2 := Lib.hid (HR.out.keep (fun b hb hk => h2.block b hb (by rw [hk]; rfl)) h2.size (Ext.refl _ _))
    clear h1 h2 HL HR
    go_upto_if 45 with fail
    go_cut [45] from 46 to 54 (fun _ wx => Hid (Lw w1 κ4 0 p (ShL3 s none_) wx) ∧ Hid (Row κ4 .imm wx 1 (.slice a 2 c) 2 (intVs (nodeRefs 2))))
    case first =>
      cases none_ with
      | true =>
        go_wp2
        go_meet
        case rel => exact ⟨HL2, HR2⟩
      | false =>
        have HLd := Lib.hid HL2.out.drew
        have HRd := Lib.hid (HR2.out.keep (w' := w4.drew) (fun b hb _ => rfl) (Nat.le_refl _) (Ext.refl _ _))
        obtain ⟨g, o, cap, hv, hle, hgl, hgk, hgc, hgz⟩ := HRd.out.at (by omega) (by decide)
        simp only [Value.slice.injEq] at hv
        obtain ⟨rfl, _, rfl⟩ := hv
        clear HL2 HR2
        go_upto_region 8 with fail
        generalize hWd : w4.drew = W at *
        have c0 : W.cell? ⟨p.pw, 0, none⟩ = some (.pointer (some ⟨p.pa, 0, none⟩)) := cellAt HLd.out.wd.hpw 0 rfl
        have cx : W.cell? ⟨g, o, none⟩ = some (.int .i64 (nodeRef 0)) := hgc 0 _ rfl
        clear hgc hgz hgk hle hgl
        refine wp_tail_at 8 (by kernel_rfl) (by kernel_rfl) W hWd ?_
        clear hWd
        simp only [List.take_succ_cons, List.take_zero, List.drop_succ_cons, List.drop_zero]
        repeat still_step
        refine wpStill_nil ?_
        go_wp2_with fail
        clear c0 cx
        refine (swapInfo_ok HLd.out.wd.ar (nodeRef 0) 0 1).mono ?_
        rintro e w3 ⟨rfl, h1, h2⟩
        have HL3 := Lib.hid (show Lw w1 κ4 0 p (ShL3 s false) w3 from HLd.out.turnA h1 h2 (Ext.refl _ _) (HLd.out.sup.mono h2.size))
        have HR3 := Lib.hid (HRd.out.keep (fun b hb hk => h2.block b hb (by rw [hk]; rfl)) h2.size (Ext.refl _ _))
        clear h1 h2 HLd HRd
        go_wp2
        go_meet
        case rel => exact ⟨HL3, HR3⟩
    case rest =>
      clear HL2 HR2
      obtain ⟨HL3, HR3⟩ := hcut
      go_upto_if 55 with fail
      go_cut [55] from 56 to 63 (fun _ wx => Hid (Lw w1 κ4 0 p (ShL4 s none_ marked) wx) ∧ Hid (Row κ4 .imm wx 1 (.slice a 2 c) 2 (intVs (nodeRefs 2))))
      case first =>
        cases marked with
        | false =>
          go_wp2
          go_meet
          case rel => exact ⟨HL3, HR3⟩
        | true =>
          have HLd := Lib.hid HL3.out.drew
          have HRd := Lib.hid (HR3.out.keep (w' := wc.drew) (fun b hb _ => rfl) (Nat.le_refl _) (Ext.refl _ _))
          obtain ⟨g, o, cap, hv, hle, hgl, hgk, hgc, hgz⟩ := HRd.out.at (by omega) (by decide)
          simp only [Value.slice.injEq] at hv
          obtain ⟨rfl, _, rfl⟩ := hv
          clear HL3 HR3
          go_upto_region 10 with fail
          generalize hWd : wc.drew = W at *
          have c0 : W.cell? ⟨p.pw, 0, none⟩ = some (.pointer (some ⟨p.pa, 0, none⟩)) := cellAt HLd.out.wd.hpw 0 rfl
          have cx : W.cell? ⟨g, o, none⟩ = some (.int .i64 (nodeRef 0)) := hgc 0 _ rfl
          clear hgc hgz hgk hle hgl
          refine wp_tail_at 7 (by kernel_rfl) (by kernel_rfl) W hWd ?_
          clear hWd
          simp only [List.take_succ_cons, List.take_zero, List.drop_succ_cons, List.drop_zero]
          repeat still_step
          refine wpStill_nil ?_
          go_wp2_with fail
          clear c0 cx
          refine (setMark_ok HLd.out.wd.ar (nodeRef 0)).mono ?_
          rintro e w3 ⟨rfl, h1, h2⟩
          have HL4 := Lib.hid (show Lw w1 κ4 0 p (ShL4 s none_ true) w3 from HLd.out.turnA h1 h2 (Ext.refl _ _) (HLd.out.sup.mono h2.size))
          have HR4 := Lib.hid (HRd.out.keep (fun b hb hk => h2.block b hb (by rw [hk]; rfl)) h2.size (Ext.refl _ _))
          clear h1 h2 HLd HRd
          go_wp2
          go_meet
          case rel => exact ⟨HL4, HR4⟩
      case rest =>
        clear HL3 HR3
        obtain ⟨HL, HR⟩ := hcut
        clear hst hst' hs
        cases none_ with
        | true =>
          obtain ⟨stt, way, hlf⟩ := (lf0 s hs3 marked)
          have HLF := Lib.hid hlf
          clear hlf
          obtain ⟨g, o, cap, hv, hle, hgl, hgk, hgc, hgz⟩ := HR.out.at (by omega) (by decide)
          simp only [Value.slice.injEq] at hv
          obtain ⟨rfl, _, rfl⟩ := hv
          have cx : wc.cell? ⟨g, o, none⟩ = some (.int .i64 (nodeRef 0)) := hgc 0 _ rfl
          clear hgc hgz
          go_wp2_with fail
          clear cx
          refine (looker_ok (wi := 0) HL.out.sup 0 p (nodeRef 0)).mono ?_
          rintro e w5 ⟨κ5, pth, caps1, rfl, hth, hwk, hB5, hE5, hS5⟩
          have HL5 := Lib.hid (HL.out.later hB5 hE5 hS5)
          have HR5 := Lib.hid (HR.out.keep (fun b hb _ => hB5.block b hb) hB5.size hE5)
          have HTH := Lib.hid hth
          have HWK := Lib.hid hwk
          clear hth hwk hB5 hE5 hS5 HL HR hgl hgk
          go_wp2_with fail
          obtain ⟨log', hends⟩ := (tl_lookP (nodeRef 0)).ends HLF.out.fine (by rw [HLF.out.n]; decide)
          rw [HLF.out.n, HLF.out.o] at hends
          refine (alone_ok HTH.out HL5.out.wd HL5.out.sup enters121 HWK.out (N := 7) (by decide) hends (l := [0, 0, 200, 201]) rfl (by decide)).mono ?_
          rintro e w6 ⟨κ6, a1, c6, rfl, hrow, hwd, hth6, hF6, hE6, hS6⟩
          have HL6 := Lib.hid (show Lw w1 κ6 0 p (ShL5 _ _ _) w6 from HL5.out.turn hwd (hF6.mono K.step_run) hE6 hS6)
          have HR6 := Lib.hid (HR5.out.keep (fun b hb hk => hF6.block b hb (by rw [hk]; rfl)) hF6.size hE6)
          obtain ⟨g1, o1, cap1, hv, hle1, hgl1, hgk1, hgc1, hgz1⟩ := hrow.at (by decide) (by decide)
          simp only [Value.slice.injEq] at hv
          obtain ⟨rfl, _, rfl⟩ := hv
          have d0 : w6.cell? ⟨g1, o1, none⟩ = some (.int .i64 0) := hgc1 0 _ rfl
          have d1 : w6.cell? ⟨g1, o1 + 1, none⟩ = some (.int .i64 0) := hgc1 1 _ rfl
          have d2 : w6.cell? ⟨g1, o1 + 2, none⟩ = some (.int .i64 200) := hgc1 2 _ rfl
          have d3 : w6.cell? ⟨g1, o1 + 3, none⟩ = some (.int .i64 201) := hgc1 3 _ rfl
          have HGC := Lib.hid hgc1
          clear hends hrow hwd hth6 hF6 hE6 hS6 HL5 HR5 HTH HWK hgc1 hgz1
          go_wp2
          go_ret
          exact ⟨rfl, HB.out.trans (HL6.out.below0.mono HB.out.size)⟩
        | false =>
          rcases hs3 with rfl | rfl | rfl
          · skip
            obtain ⟨stt, way, hlf⟩ := (lf1 marked)
            have HLF := Lib.hid hlf
            clear hlf
            obtain ⟨g, o, cap, hv, hle, hgl, hgk, hgc, hgz⟩ := HR.out.at (by omega) (by decide)
            simp only [Value.slice.injEq] at hv
            obtain ⟨rfl, _, rfl⟩ := hv
            have cx : wc.cell? ⟨g, o, none⟩ = some (.int .i64 (nodeRef 0)) := hgc 0 _ rfl
            clear hgc hgz
            go_wp2_with fail
            clear cx
            refine (looker_ok (wi := 0) HL.out.sup 0 p (nodeRef 0)).mono ?_
            rintro e w5 ⟨κ5, pth, caps1, rfl, hth, hwk, hB5, hE5, hS5⟩
            have HL5 := Lib.hid (HL.out.later hB5 hE5 hS5)
            have HR5 := Lib.hid (HR.out.keep (fun b hb _ => hB5.block b hb) hB5.size hE5)
            have HTH := Lib.hid hth
            have HWK := Lib.hid hwk
            clear hth hwk hB5 hE5 hS5 HL HR hgl hgk
            go_wp2_with fail
            obtain ⟨log', hends⟩ := (tl_lookP (nodeRef 0)).ends HLF.out.fine (by rw [HLF.out.n]; decide)
            rw [HLF.out.n, HLF.out.o] at hends
            refine (alone_ok HTH.out HL5.out.wd HL5.out.sup enters121 HWK.out (N := 7) (by decide) hends (l := [0, 1, 200, 201]) rfl (by decide)).mono ?_
            rintro e w6 ⟨κ6, a1, c6, rfl, hrow, hwd, hth6, hF6, hE6, hS6⟩
            have HL6 := Lib.hid (show Lw w1 κ6 0 p (ShL5 _ _ _) w6 from HL5.out.turn hwd (hF6.mono K.step_run) hE6 hS6)
            have HR6 := Lib.hid (HR5.out.keep (fun b hb hk => hF6.block b hb (by rw [hk]; rfl)) hF6.size hE6)
            obtain ⟨g1, o1, cap1, hv, hle1, hgl1, hgk1, hgc1, hgz1⟩ := hrow.at (by decide) (by decide)
            simp only [Value.slice.injEq] at hv
            obtain ⟨rfl, _, rfl⟩ := hv
            have d0 : w6.cell? ⟨g1, o1, none⟩ = some (.int .i64 0) := hgc1 0 _ rfl
            have d1 : w6.cell? ⟨g1, o1 + 1, none⟩ = some (.int .i64 1) := hgc1 1 _ rfl
            have d2 : w6.cell? ⟨g1, o1 + 2, none⟩ = some (.int .i64 200) := hgc1 2 _ rfl
            have d3 : w6.cell? ⟨g1, o1 + 3, none⟩ = some (.int .i64 201) := hgc1 3 _ rfl
            have HGC := Lib.hid hgc1
            clear hends hrow hwd hth6 hF6 hE6 hS6 HL5 HR5 HTH HWK hgc1 hgz1
            go_wp2
            go_ret
            exact ⟨rfl, HB.out.trans (HL6.out.below0.mono HB.out.size)⟩
          · cases marked with
            | true =>
              have hlf := lf4
              have HLF := Lib.hid hlf
              clear hlf
              obtain ⟨g, o, cap, hv, hle, hgl, hgk, hgc, hgz⟩ := HR.out.at (by omega) (by decide)
              simp only [Value.slice.injEq] at hv
              obtain ⟨rfl, _, rfl⟩ := hv
              have cx : wc.cell? ⟨g, o, none⟩ = some (.int .i64 (nodeRef 0)) := hgc 0 _ rfl
              clear hgc hgz
              go_wp2_with fail
              clear cx
              refine (looker_ok (wi := 0) HL.out.sup 0 p (nodeRef 0)).mono ?_
              rintro e w5 ⟨κ5, pth, caps1, rfl, hth, hwk, hB5, hE5, hS5⟩
              have HL5 := Lib.hid (HL.out.later hB5 hE5 hS5)
              have HR5 := Lib.hid (HR.out.keep (fun b hb _ => hB5.block b hb) hB5.size hE5)
              have HTH := Lib.hid hth
              have HWK := Lib.hid hwk
              clear hth hwk hB5 hE5 hS5 HL HR hgl hgk
              go_wp2_with fail
              obtain ⟨log', hends⟩ := (tl_lookP (nodeRef 0)).ends HLF.out.fine (by rw [HLF.out.n]; decide)
              rw [HLF.out.n, HLF.out.o] at hends
              refine (alone_ok HTH.out HL5.out.wd HL5.out.sup enters121 HWK.out (N := 10) (by decide) hends (l := [2, 0]) rfl (by decide)).mono ?_
              rintro e w6 ⟨κ6, a1, c6, rfl, hrow, hwd, hth6, hF6, hE6, hS6⟩
              have HL6 := Lib.hid (show Lw w1 κ6 0 p (ShL5 _ _ _) w6 from HL5.out.turn hwd (hF6.mono K.step_run) hE6 hS6)
              have HR6 := Lib.hid (HR5.out.keep (fun b hb hk => hF6.block b hb (by rw [hk]; rfl)) hF6.size hE6)
              obtain ⟨g1, o1, cap1, hv, hle1, hgl1, hgk1, hgc1, hgz1⟩ := hrow.at (by decide) (by decide)
              simp only [Value.slice.injEq] at hv
              obtain ⟨rfl, _, rfl⟩ := hv
              have d0 : w6.cell? ⟨g1, o1, none⟩ = some (.int .i64 2) := hgc1 0 _ rfl
              have d1 : w6.cell? ⟨g1, o1 + 1, none⟩ = some (.int .i64 0) := hgc1 1 _ rfl
              have HGC := Lib.hid hgc1
              clear hends hrow hwd hth6 hF6 hE6 hS6 HL5 HR5 HTH HWK hgc1 hgz1
              have hwy := HLF.out.way
              have hsy := HLF.out.st
              have HG0 := Lib.hid (show (ShL5 1 false true).A.get (nodeRef 0) ≠ none by have := HLF.out.get0; intro h; rw [h] at this; cases this)
              have c0 : w6.cell? ⟨p.pw, 0, none⟩ = some (.pointer (some ⟨p.pa, 0, none⟩)) := cellAt HL6.out.wd.hpw 0 rfl
              have c1 : w6.cell? ⟨p.pw, 1, none⟩ = some (.pointer (some ⟨p.pt, 0, none⟩)) := cellAt HL6.out.wd.hpw 1 rfl
              obtain ⟨g2, o2, cap2, hv, hle2, hgl2, hgk2, hgc2, hgz2⟩ := HR6.out.at (by omega) (by decide)
              simp only [Value.slice.injEq, Option.some.injEq] at hv
              obtain ⟨hgo, _, rfl⟩ := hv
              obtain ⟨rfl, rfl⟩ : g = g2 ∧ o = o2 := by simpa using hgo
              have cx : w6.cell? ⟨g, o, none⟩ = some (.int .i64 (nodeRef 0)) := hgc2 0 _ rfl
              clear hgc2 hgz2 hgo hgl2 hgk2
              go_upto_region 23 with fail
              go_quiet ((first | (go_at_call 41; exact Calls.quiet_of_same (way_at (HL6.out.wd.ar.drewN _) _ _ HG0.out)) | (go_at_call 70; exact Calls.quiet_of_same (state_ok (HL6.out.wd.tab.drewN _) _))))
              go_wp2
              go_ret
              exact ⟨rfl, HB.out.trans ((Below.drawn HL6.out.below0 _).mono HB.out.size)⟩
            | false =>
              have hlf := lf5
              have HLF := Lib.hid hlf
              clear hlf
              obtain ⟨g, o, cap, hv, hle, hgl, hgk, hgc, hgz⟩ := HR.out.at (by omega) (by decide)
              simp only [Value.slice.injEq] at hv
              obtain ⟨rfl, _, rfl⟩ := hv
              have cx : wc.cell? ⟨g, o, none⟩ = some (.int .i64 (nodeRef 0)) := hgc 0 _ rfl
              clear hgc hgz
              go_wp2_with fail
              clear cx
              refine (looker_ok (wi := 0) HL.out.sup 0 p (nodeRef 0)).mono ?_
              rintro e w5 ⟨κ5, pth, caps1, rfl, hth, hwk, hB5, hE5, hS5⟩
              have HL5 := Lib.hid (HL.out.later hB5 hE5 hS5)
              have HR5 := Lib.hid (HR.out.keep (fun b hb _ => hB5.block b hb) hB5.size hE5)
              have HTH := Lib.hid hth
              have HWK := Lib.hid hwk
              clear hth hwk hB5 hE5 hS5 HL HR hgl hgk
              go_wp2_with fail
              obtain ⟨log', hends⟩ := (tl_lookP (nodeRef 0)).ends HLF.out.fine (by rw [HLF.out.n]; decide)
              rw [HLF.out.n, HLF.out.o] at hends
              refine (alone_ok HTH.out HL5.out.wd HL5.out.sup enters121 HWK.out (N := 12) (by decide) hends (l := [1, 0]) rfl (by decide)).mono ?_
              rintro e w6 ⟨κ6, a1, c6, rfl, hrow, hwd, hth6, hF6, hE6, hS6⟩
              have HL6 := Lib.hid (show Lw w1 κ6 0 p (ShL5 _ _ _) w6 from HL5.out.turn hwd (hF6.mono K.step_run) hE6 hS6)
              have HR6 := Lib.hid (HR5.out.keep (fun b hb hk => hF6.block b hb (by rw [hk]; rfl)) hF6.size hE6)
              obtain ⟨g1, o1, cap1, hv, hle1, hgl1, hgk1, hgc1, hgz1⟩ := hrow.at (by decide) (by decide)
              simp only [Value.slice.injEq] at hv
              obtain ⟨rfl, _, rfl⟩ := hv
              have d0 : w6.cell? ⟨g1, o1, none⟩ = some (.int .i64 1) := hgc1 0 _ rfl
              have d1 : w6.cell? ⟨g1, o1 + 1, none⟩ = some (.int .i64 0) := hgc1 1 _ rfl
              have HGC := Lib.hid hgc1
              clear hends hrow hwd hth6 hF6 hE6 hS6 HL5 HR5 HTH HWK hgc1 hgz1
              have hwy := HLF.out.way
              have hsy := HLF.out.st
              have HG0 := Lib.hid (show (ShL5 1 false false).A.get (nodeRef 0) ≠ none by have := HLF.out.get0; intro h; rw [h] at this; cases this)
              have c0 : w6.cell? ⟨p.pw, 0, none⟩ = some (.pointer (some ⟨p.pa, 0, none⟩)) := cellAt HL6.out.wd.hpw 0 rfl
              have c1 : w6.cell? ⟨p.pw, 1, none⟩ = some (.pointer (some ⟨p.pt, 0, none⟩)) := cellAt HL6.out.wd.hpw 1 rfl
              obtain ⟨g2, o2, cap2, hv, hle2, hgl2, hgk2, hgc2, hgz2⟩ := HR6.out.at (by omega) (by decide)
              simp only [Value.slice.injEq, Option.some.injEq] at hv
              obtain ⟨hgo, _, rfl⟩ := hv
              obtain ⟨rfl, rfl⟩ : g = g2 ∧ o = o2 := by simpa using hgo
              have cx : w6.cell? ⟨g, o, none⟩ = some (.int .i64 (nodeRef 0)) := hgc2 0 _ rfl
              clear hgc2 hgz2 hgo hgl2 hgk2
              go_upto_region 24 with fail
              go_quiet ((first | (go_at_call 41; exact Calls.quiet_of_same (way_at (HL6.out.wd.ar.drewN _) _ _ HG0.out)) | (go_at_call 70; exact Calls.quiet_of_same (state_ok (HL6.out.wd.tab.drewN _) _))))
              go_wp2
              go_ret
              exact ⟨rfl, HB.out.trans ((Below.drawn HL6.out.below0 _).mono HB.out.size)⟩
          · cases marked with
            | true =>
              obtain ⟨stt, way, hlf⟩ := lf3
              have HLF := Lib.hid hlf
              clear hlf
              obtain ⟨g, o, cap, hv, hle, hgl, hgk, hgc, hgz⟩ := HR.out.at (by omega) (by decide)
              simp only [Value.slice.injEq] at hv
              obtain ⟨rfl, _, rfl⟩ := hv
              have cx : wc.cell? ⟨g, o, none⟩ = some (.int .i64 (nodeRef 0)) := hgc 0 _ rfl
              clear hgc hgz
              go_wp2_with fail
              clear cx
              refine (looker_ok (wi := 0) HL.out.sup 0 p (nodeRef 0)).mono ?_
              rintro e w5 ⟨κ5, pth, caps1, rfl, hth, hwk, hB5, hE5, hS5⟩
              have HL5 := Lib.hid (HL.out.later hB5 hE5 hS5)
              have HR5 := Lib.hid (HR.out.keep (fun b hb _ => hB5.block b hb) hB5.size hE5)
              have HTH := Lib.hid hth
              have HWK := Lib.hid hwk
              clear hth hwk hB5 hE5 hS5 HL HR hgl hgk
              go_wp2_with fail
              obtain ⟨log', hends⟩ := (tl_lookP (nodeRef 0)).ends HLF.out.fine (by rw [HLF.out.n]; decide)
              rw [HLF.out.n, HLF.out.o] at hends
              refine (alone_ok HTH.out HL5.out.wd HL5.out.sup enters121 HWK.out (N := 5) (by decide) hends (l := [2, 0]) rfl (by decide)).mono ?_
              rintro e w6 ⟨κ6, a1, c6, rfl, hrow, hwd, hth6, hF6, hE6, hS6⟩
              have HL6 := Lib.hid (show Lw w1 κ6 0 p (ShL5 _ _ _) w6 from HL5.out.turn hwd (hF6.mono K.step_run) hE6 hS6)
              have HR6 := Lib.hid (HR5.out.keep (fun b hb hk => hF6.block b hb (by rw [hk]; rfl)) hF6.size hE6)
              obtain ⟨g1, o1, cap1, hv, hle1, hgl1, hgk1, hgc1, hgz1⟩ := hrow.at (by decide) (by decide)
              simp only [Value.slice.injEq] at hv
              obtain ⟨rfl, _, rfl⟩ := hv
              have d0 : w6.cell? ⟨g1, o1, none⟩ = some (.int .i64 2) := hgc1 0 _ rfl
              have d1 : w6.cell? ⟨g1, o1 + 1, none⟩ = some (.int .i64 0) := hgc1 1 _ rfl
              have HGC := Lib.hid hgc1
              clear hends hrow hwd hth6 hF6 hE6 hS6 HL5 HR5 HTH HWK hgc1 hgz1
              go_wp2
              go_ret
              exact ⟨rfl, HB.out.trans (HL6.out.below0.mono HB.out.size)⟩
            | false =>
              obtain ⟨stt, way, hlf⟩ := lf2
              have HLF := Lib.hid hlf
              clear hlf
              obtain ⟨g, o, cap, hv, hle, hgl, hgk, hgc, hgz⟩ := HR.out.at (by omega) (by decide)
              simp only [Value.slice.injEq] at hv
              obtain ⟨rfl, _, rfl⟩ := hv
              have cx : wc.cell? ⟨g, o, none⟩ = some (.int .i64 (nodeRef 0)) := hgc 0 _ rfl
              clear hgc hgz
              go_wp2_with fail
              clear cx
              refine (looker_ok (wi := 0) HL.out.sup 0 p (nodeRef 0)).mono ?_
              rintro e w5 ⟨κ5, pth, caps1, rfl, hth, hwk, hB5, hE5, hS5⟩
              have HL5 := Lib.hid (HL.out.later hB5 hE5 hS5)
              have HR5 := Lib.hid (HR.out.keep (fun b hb _ => hB5.block b hb) hB5.size hE5)
              have HTH := Lib.hid hth
              have HWK := Lib.hid hwk
              clear hth hwk hB5 hE5 hS5 HL HR hgl hgk
              go_wp2_with fail
              obtain ⟨log', hends⟩ := (tl_lookP (nodeRef 0)).ends HLF.out.fine (by rw [HLF.out.n]; decide)
              rw [HLF.out.n, HLF.out.o] at hends
              refine (alone_ok HTH.out HL5.out.wd HL5.out.sup enters121 HWK.out (N := 7) (by decide) hends (l := [0, 1, 200, 201]) rfl (by decide)).mono ?_
              rintro e w6 ⟨κ6, a1, c6, rfl, hrow, hwd, hth6, hF6, hE6, hS6⟩
              have HL6 := Lib.hid (show Lw w1 κ6 0 p (ShL5 _ _ _) w6 from HL5.out.turn hwd (hF6.mono K.step_run) hE6 hS6)
              have HR6 := Lib.hid (HR5.out.keep (fun b hb hk => hF6.block b hb (by rw [hk]; rfl)) hF6.size hE6)
              obtain ⟨g1, o1, cap1, hv, hle1, hgl1, hgk1, hgc1, hgz1⟩ := hrow.at (by decide) (by decide)
              simp only [Value.slice.injEq] at hv
              obtain ⟨rfl, _, rfl⟩ := hv
              have d0 : w6.cell? ⟨g1, o1, none⟩ = some (.int .i64 0) := hgc1 0 _ rfl
              have d1 : w6.cell? ⟨g1, o1 + 1, none⟩ = some (.int .i64 1) := hgc1 1 _ rfl
              have d2 : w6.cell? ⟨g1, o1 + 2, none⟩ = some (.int .i64 200) := hgc1 2 _ rfl
              have d3 : w6.cell? ⟨g1, o1 + 3, none⟩ = some (.int .i64 201) := hgc1 3 _ rfl
              have HGC := Lib.hid hgc1
              clear hends hrow hwd hth6 hF6 hE6 hS6 HL5 HR5 HTH HWK hgc1 hgz1
              go_wp2
              go_ret
              exact ⟨rfl, HB.out.trans (HL6.out.below0.mono HB.out.size)⟩

theorem llxLoads_ok (st : Int) (marked none_ : Bool) (hst : (Lit.int .u8 st).wf = true) (w : World) :
    Calls Try.prog 16 #[.int .u8 st, .bool marked, .bool none_] w fun e w' => e = .returned (.bool true) ∧ Below w.heap.size w w' := by
  have e1 : IntKind.u8.min = 0 := by decide
  have e2 : IntKind.u8.max = 255 := by decide
  simp only [Lit.wf, Bool.and_eq_true, decide_eq_true_eq, e1, e2] at hst
  exact llxLoads_walk st hst.1 hst.2 marked none_ (st % 3) rfl (by omega) w
end Go.Proofs.Ytacmeafpieoaaaa
