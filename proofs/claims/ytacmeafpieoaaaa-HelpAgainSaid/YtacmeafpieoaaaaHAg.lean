/- boscagelaw09.HelpAgain returns true. -/
import Derived.Test.YtacmeafpieoaaaaGaP
import Derived.Test.YtacmeafpieoaaaaAw
import Derived.Test.YtacmeafpieoaaaaNa
namespace Go.Proofs.Ytacmeafpieoaaaa
open Go.RowKit

theorem made_ints (k : Nat) : madeCells #[Value.int .i64 0] k = (intVs (List.replicate k 0)).toArray := by
  apply Array.ext_getElem?
  intro i
  by_cases hi : i < k <;> simp [madeCells, intVs, Nat.mod_one, hi]
theorem nodeRefs_get {k i : Nat} (h : i < k) : (nodeRefs k)[i]? = some (nodeRef i) := by simp [nodeRefs, h]
theorem ArN_get' (k i : Nat) (hi : i < k) (hk : k ≤ 4) : (ShN 1 k).A.get (nodeRef i) ≠ none := by
  show (ArN k).get (nodeRef i) ≠ none
  rw [ArN_get k i hi (by omega)]; simp

set_option maxRecDepth 100000 in
set_option maxHeartbeats 4000000 in
theorem again_ok (m st tm : Int) (hm : 0 ≤ m) (hm' : m ≤ 255) (hst : 0 ≤ st) (hst' : st ≤ 255) (htm : 0 ≤ tm) (htm' : tm ≤ 255) (k : Nat) (hkm : 1 + m % 4 = (k : Int)) (s : Option Nat) (hs : ∀ i, s = some i → i < k ∧ st = (i : Int)) (hs0 : s = none → (k : Int) ≤ st) (w : World) :
    Calls Try.prog 11 #[.int .u8 m, .int .u8 st, .int .u8 tm] w fun e w' => e = .returned (.bool true) ∧ Below w.heap.size w w' := by
  obtain ⟨j0, hj, hy0, hy1, hy2⟩ := info_parts info2
  have hk1 : 1 ≤ k := by omega
  have hk4 : k ≤ 4 := by omega
  have HGF := Lib.hid (gf k s hk1 hk4 (fun i h => (hs i h).1))
  have hbad : decide (st < (k : Int)) = s.isSome := by
    cases s with
    | none => simp; exact hs0 rfl
    | some i => have := hs i rfl; simp; omega
  have HS := Lib.hid hs
  clear hs hs0
  go_enter Try.func11, Try.ntmps11
  go_wp2_with fail
  refine (awake09_ok w).mono ?_
  rintro e w1 ⟨rfl, hB⟩
  have HB := Lib.hid hB
  clear hB
  go_wp2_with fail
  refine (nodes_ok 0 (supNo w1) 1 k (by decide) (by decide) (by omega)).mono ?_
  rintro e w2 ⟨κ2, p, a, c, rfl, hpe, hW, hrow, hF, hE, hS⟩
  have HLW := Lib.hid (Lw.new hW hF hE hS)
  have HROW := Lib.hid hrow
  clear hW hF hE hS hpe hrow
  go_upto_if 34 with fail
  go_cut [34] from 35 to 43 (fun _ wx => ∃ κ1 : Nat → Ytacmeafpieoaaaa.K, Hid (Lw w1 κ1 0 p (ShG0 k s) wx) ∧ Hid (Row κ1 .imm wx 1 (.slice a k c) k (intVs (nodeRefs k))))
  case first =>
    cases s with
    | none =>
      go_wp2
      go_meet
      case rel => exact ⟨κ2, HLW, HROW⟩
    | some i =>
      obtain ⟨hi, rfl⟩ := HS.out i rfl
      have HLd := Lib.hid HLW.out.drew
      have HRd := Lib.hid (HROW.out.keep (w' := w2.drew) (fun b hb _ => rfl) (Nat.le_refl _) (Ext.refl _ _))
      obtain ⟨g, o, cap, hv, hle, hgl, hgk, hgc, hgz⟩ := HRd.out.at (by omega) (by decide)
      simp only [Value.slice.injEq] at hv
      obtain ⟨rfl, _, rfl⟩ := hv
      clear HLW HROW HGF HS hbad
      go_upto_region 7 with fail
      generalize hWd : w2.drew = W at *
      have c0 : W.cell? ⟨p.pw, 0, none⟩ = some (.pointer (some ⟨p.pa, 0, none⟩)) := cellAt HLd.out.wd.hpw 0 rfl
      have cx : W.cell? ⟨g, o + i, none⟩ = some (.int .i64 (nodeRef i)) := hgc i _ (by rw [intVs_get]; simp [nodeRefs, hi])
      clear hgc hgz hgk hle hgl
      refine wp_tail_at 8 (by kernel_rfl) (by kernel_rfl) W hWd ?_
      clear hWd
      simp only [List.take_succ_cons, List.take_zero, List.drop_succ_cons, List.drop_zero]
      repeat still_step
      refine wpStill_nil ?_
      go_wp2_with fail
      clear c0 cx
      refine (swapInfo_ok HLd.out.wd.ar (nodeRef i) 0 44).mono ?_
      rintro e w3 ⟨rfl, h1, h2⟩
      have HL3 := Lib.hid (show Lw w1 κ2 0 p (ShG0 k (some i)) w3 from HLd.out.turnA h1 h2 (Ext.refl _ _) (HLd.out.sup.mono h2.size))
      have HR3 := Lib.hid (HRd.out.keep (fun b hb hk => h2.block b hb (by rw [hk]; rfl)) h2.size (Ext.refl _ _))
      clear h1 h2 HLd HRd
      go_wp2
      go_meet
      case rel => exact ⟨κ2, HL3, HR3⟩
  case rest =>
    clear HLW HROW
    obtain ⟨κ1, HLW0, HROW0⟩ := hcut
    go_upto_region 8 with fail
    go_cut [11, 12] from 44 to 55 (fun v11 _ wx => ∃ κ4 : Nat → Ytacmeafpieoaaaa.K, v11 = .int .i64 1 ∧ Hid (Lw w1 κ4 0 p (ShG k s) wx) ∧ Hid (Row κ4 .imm wx 1 (.slice a k c) k (intVs (nodeRefs k))))
    case first =>
      have HLW := Lib.hid HLW0.out.drew
      have HROWW := Lib.hid (HROW0.out.keep (w' := wc.drew) (fun b hb _ => rfl) (Nat.le_refl _) (Ext.refl _ _))
      have hmk := fun w => run_make (P := Try.prog) w 22 2 j0 (.int .i64 0) Try.underlying22 hj hy0 .i64 .i64 (k : Int) (k : Int) (by omega) (Int.le_refl _) (by rw [hy2]; omega) (by omega)
      simp only [hy1] at hmk
      clear HLW0 HROW0 HGF HS hbad
      generalize hWd : wc.drew = W at *
      have hpl := lt_of_heap HLW.out.wd.hpw
      have c1 : W.cell? ⟨p.pw, 1, none⟩ = some (.pointer (some ⟨p.pt, 0, none⟩)) := cellAt HLW.out.wd.hpw 1 rfl
      have hS : Below W.heap.size W W := Below.refl _ _
      refine Mask.beginAt (fun W' => Below W.heap.size W W') (fun i => i != 8 && i != 9 && i != 10 && i != 11 && i != 12 && i != 13) (by kernel_rfl) W hWd ?_
      refine Mask.take 0 45 (v := ?_) rfl rfl (by kernel_rfl) (by kernel_rfl) (by kernel_rfl) rfl (by kernel_rfl) (by kernel_rfl) (fun _ _ _ h => h) hS (Or.inl ⟨by rfl, ?_⟩) ?_
      rotate_left
      · intro w hSw; (try dsimp only at hSw); go_simp; try with_reducible rfl
      simp only [Act.put, List.setIfInBounds_toArray, List.set_cons_zero, List.set_cons_succ]
      refine Mask.take 1 46 (v := ?_) rfl rfl (by kernel_rfl) (by kernel_rfl) (by kernel_rfl) rfl (by kernel_rfl) (by kernel_rfl) (fun _ _ _ h => h) hS (Or.inl ⟨by rfl, ?_⟩) ?_
      rotate_left
      · intro w hSw; (try dsimp only at hSw); go_simp; try with_reducible rfl
      simp only [Act.put, List.setIfInBounds_toArray, List.set_cons_zero, List.set_cons_succ]
      refine Mask.take 2 47 (v := ?_) rfl rfl (by kernel_rfl) (by kernel_rfl) (by kernel_rfl) rfl (by kernel_rfl) (by kernel_rfl) (fun _ _ _ h => h) hS (Or.inl ⟨by rfl, ?_⟩) ?_
      rotate_left
      · intro w hSw; (try dsimp only at hSw); go_simp; try with_reducible rfl
      simp only [Act.put, List.setIfInBounds_toArray, List.set_cons_zero, List.set_cons_succ]
      refine Mask.take 3 48 (v := ?_) rfl rfl (by kernel_rfl) (by kernel_rfl) (by kernel_rfl) rfl (by kernel_rfl) (by kernel_rfl) (fun _ _ _ h => h) hS (Or.inl ⟨by rfl, ?_⟩) ?_
      rotate_left
      · intro w hSw; (try dsimp only at hSw); obtain ⟨hc__, hf__⟩ := bcell hSw; go_simp; try with_reducible rfl
      simp only [Act.put, List.setIfInBounds_toArray, List.set_cons_zero, List.set_cons_succ]
      refine Mask.take 4 49 (v := ?_) rfl rfl (by kernel_rfl) (by kernel_rfl) (by kernel_rfl) rfl (by kernel_rfl) (by kernel_rfl) (fun _ _ _ h => h) hS (Or.inl ⟨by rfl, ?_⟩) ?_
      rotate_left
      · intro w hSw; (try dsimp only at hSw); go_simp; try with_reducible rfl
      simp only [Act.put, List.setIfInBounds_toArray, List.set_cons_zero, List.set_cons_succ]
      refine Mask.take 5 50 (v := ?_) rfl rfl (by kernel_rfl) (by kernel_rfl) (by kernel_rfl) rfl (by kernel_rfl) (by kernel_rfl) (fun _ _ _ h => h) hS (Or.inl ⟨by rfl, ?_⟩) ?_
      rotate_left
      · intro w hSw; (try dsimp only at hSw); go_simp; try with_reducible rfl
      simp only [Act.put, List.setIfInBounds_toArray, List.set_cons_zero, List.set_cons_succ]
      -- 6: makeSlice T22 t50 t50
      refine Mask.one 6 (by kernel_rfl) rfl rfl (fun K__ hK => ?_)
      go_simp
      generalize hG__ : W.alloc (.cells (madeCells #[Value.int .i64 0] k) 2) = wq1
      have hZ : Below W.heap.size W wq1 := hG__ ▸ (Below.refl _ _).alloc (Nat.le_refl _) _
      have hnew : wq1.heap[W.heap.size]? = some (.cells (madeCells #[Value.int .i64 0] k) 2 (0, 0)) := hG__ ▸ Laws.heap_new W _
      have HL1 := Lib.hid (HLW.out.below hZ)
      have HR1 := Lib.hid (HROWW.out.keep (w' := wq1) (fun b hb _ => hZ.block b hb) hZ.size (Ext.refl _ _))
      have r2 : RowN κ1 (K.recs 0) wq1 1 (.slice (some ⟨W.heap.size, 0, none⟩) k k) (recG k).infos.length (intVs (recG k).infos) := by
        have hl : (recG k).infos.length = k := by simp [recG]
        rw [hl]
        exact RowN.new hnew (by rw [HLW.out.sup _ (Nat.le_refl _)]; rfl) k _ (made_ints k) 1 (by simp [recG, intVs])
      have hSn := hS.trans (hZ.mono hS.size)
      clear hG__ hnew hZ
      refine hK _ _ (fun _ => ?_) ?_
      · exact hSn
      replace hS := hSn; clear hSn
      clear hK K__
      try simp only [Act.put, List.setIfInBounds_toArray, List.set_cons_zero, List.set_cons_succ]
      refine Mask.take 7 52 (v := ?_) rfl rfl (by kernel_rfl) (by kernel_rfl) (by kernel_rfl) rfl (by kernel_rfl) (by kernel_rfl) (fun _ _ _ h => h) hS (Or.inl ⟨by rfl, ?_⟩) ?_
      rotate_left
      · intro w hSw; (try dsimp only at hSw); go_simp; try with_reducible rfl
      simp only [Act.put, List.setIfInBounds_toArray, List.set_cons_zero, List.set_cons_succ]
      -- 8: call F73[t48, t52] types#[39, 93]
      refine Mask.one 8 (by kernel_rfl) rfl rfl (fun K__ hK => ?_)
      go_simp
      have hl1 : (recG k).nodes.length = k := by simp [recG, nodeRefs]
      have r1 : RowN κ1 (K.recs 0) wq1 1 (.slice a k c) (recG k).nodes.length (intVs (recG k).nodes) := by rw [hl1]; exact HR1.out.toN rfl
      clear hl1
      refine (make_ok HL1.out.wd.tab HL1.out.sup (recG k) r1 r2 (by simp [recG, nodeRefs]) (by simp [recG]) (by simp [recG, nodeRefs]; omega)).mono ?_
      rintro e w4 ⟨κ4, rfl, h1, h2, h3, h4⟩
      have HR4 := Lib.hid (HR1.out.keep (fun b hb hk => h2.block b hb (by rw [hk]; rfl)) h2.size h3)
      have HL4 := Lib.hid (show Lw w1 κ4 0 p (ShG k s) w4 from HL1.out.turnT h1 h2 h3 h4)
      rw [show ((ShG0 k s).T.make (recG k)).1.1 = 1 from by cases s <;> rfl]
      clear h1 h2 h3 h4 r1 r2
      refine hK _ _ (fun h => (by cases h)) ?_
      clear hK K__
      try simp only [Act.put, List.setIfInBounds_toArray, List.set_cons_zero, List.set_cons_succ]
      refine Mask.takeP 9 44 (v := ?_) rfl rfl (by kernel_rfl) (by kernel_rfl) (by kernel_rfl) rfl (fun _ _ _ h => h) (Or.inl ⟨by rfl, ?_⟩) ?_
      rotate_left
      · intro w hSw; (try dsimp only at hSw); go_simp; try with_reducible rfl
      simp only [Act.put, List.setIfInBounds_toArray, List.set_cons_zero, List.set_cons_succ]
      refine Mask.takeP 10 54 (v := ?_) rfl rfl (by kernel_rfl) (by kernel_rfl) (by kernel_rfl) rfl (fun _ _ _ h => h) (Or.inl ⟨by rfl, ?_⟩) ?_
      rotate_left
      · intro w hSw; (try dsimp only at hSw); go_simp; try with_reducible rfl
      simp only [Act.put, List.setIfInBounds_toArray, List.set_cons_zero, List.set_cons_succ]
      refine Mask.takeP 11 55 (v := ?_) rfl rfl (by kernel_rfl) (by kernel_rfl) (by kernel_rfl) rfl (fun _ _ _ h => h) (Or.inl ⟨by rfl, ?_⟩) ?_
      rotate_left
      · intro w hSw; (try dsimp only at hSw); go_simp; try with_reducible rfl
      simp only [Act.put, List.setIfInBounds_toArray, List.set_cons_zero, List.set_cons_succ]
      refine Mask.takeP 12 11 (v := ?_) rfl rfl (by kernel_rfl) (by kernel_rfl) (by kernel_rfl) rfl (fun _ _ _ h => h) (Or.inl ⟨by rfl, ?_⟩) ?_
      rotate_left
      · intro w hSw; (try dsimp only at hSw); go_simp; try with_reducible rfl
      simp only [Act.put, List.setIfInBounds_toArray, List.set_cons_zero, List.set_cons_succ]
      refine Mask.takeP 13 12 (v := ?_) rfl rfl (by kernel_rfl) (by kernel_rfl) (by kernel_rfl) rfl (fun _ _ _ h => h) (Or.inl ⟨by rfl, ?_⟩) ?_
      rotate_left
      · intro w hSw; (try dsimp only at hSw); go_simp; try with_reducible rfl
      simp only [Act.put, List.setIfInBounds_toArray, List.set_cons_zero, List.set_cons_succ]
      refine Mask.done (by kernel_rfl) ?_ _
      go_wp2
      go_meet
      case rel => exact ⟨κ4, rfl, HL4, HR4⟩
    case rest =>
      clear HLW0 HROW0
      obtain ⟨κ4, rfl, HL, HR⟩ := hcut
      have hq : ∃ q : Nat, 2 + tm % 4 = (q : Int) ∧ q ≤ 5 := ⟨(2 + tm % 4).toNat, by omega, by omega⟩
      obtain ⟨q, hq, hq5⟩ := hq
      go_wp2
      go_loopw [60] (fun i wr => ∃ (n : Nat) (κ1 : Nat → Ytacmeafpieoaaaa.K) (σ1 : ShS), i = .int .i64 n ∧ n ≤ q ∧ Hid (σ1 = ShG k s ∨ σ1 = ShG' k s) ∧ Hid (Lw w1 κ1 0 p σ1 wr) ∧ Hid (Row κ1 .imm wr 1 (.slice a k c) k (intVs (nodeRefs k)))) (fun i _ => q - (intOf i).toNat)
      case atStart => exact ⟨0, κ4, ShG k s, rfl, Nat.zero_le _, Lib.hid (.inl rfl), HL, HR⟩
      case round =>
        clear HL HR
        obtain ⟨n, κ1, σ1, rfl, hn, HSI, HL, HR⟩ := hrel
        by_cases hlt : n < q
        · go_wp2_with fail
          refine (helper_ok (wi := 0) HL.out.sup 0 p 0 1).mono ?_
          rintro e w5 ⟨κ5, pth, caps1, rfl, hth, hwk, hB5, hE5, hS5⟩
          have HL5 := Lib.hid (HL.out.later hB5 hE5 hS5)
          have HR5 := Lib.hid (HR.out.keep (fun b hb _ => hB5.block b hb) hB5.size hE5)
          have HTH := Lib.hid hth
          have HWK := Lib.hid hwk
          clear hth hwk hB5 hE5 hS5 HL HR
          go_wp2_with fail
          have hfac : ((helpP 1).go σ1).1 ≤ 100 ∧ ((helpP 1).go σ1).2.1 = [if s.isSome = true then 0 else 1] ∧ ((helpP 1).go σ1).2.2 = ShG' k s := by
            rcases HSI.out with rfl | rfl
            · exact ⟨HGF.out.n1, HGF.out.o1, rfl⟩
            · exact ⟨HGF.out.n2, HGF.out.o2, HGF.out.fix_⟩
          obtain ⟨hn1, ho1, hf1⟩ := hfac
          obtain ⟨log', hends⟩ := help_ends 1 σ1 (by omega)
          rw [ho1, hf1] at hends
          refine (alone_ok HTH.out HL5.out.wd HL5.out.sup enters121 HWK.out (N := max ((helpP 1).go σ1).1 1) (by omega) hends (l := [if s.isSome = true then 0 else 1]) rfl (by simp)).mono ?_
          rintro e w6 ⟨κ6, a1, c1, rfl, hrow, hwd, hth6, hF6, hE6, hS6⟩
          have HL6 := Lib.hid (show Lw w1 κ6 0 p (ShG' k s) w6 from HL5.out.turn hwd (hF6.mono K.step_run) hE6 hS6)
          have HR6 := Lib.hid (HR5.out.keep (fun b hb hk => hF6.block b hb (by rw [hk]; rfl)) hF6.size hE6)
          have HTH6 := Lib.hid hth6
          clear hn1 ho1 hf1 hends hrow hwd hth6 hF6 hE6 hS6 HL5 HR5 HTH HWK
          go_wp2_with fail
          refine (yes_ok HTH6.out (l := [if s.isSome = true then 0 else 1]) rfl (by simp)).mono ?_
          rintro e w7 ⟨rfl, hB7⟩
          have HL7 := Lib.hid (HL6.out.below hB7)
          have HR7 := Lib.hid (HR6.out.keep (fun b hb _ => hB7.block b hb) hB7.size (Ext.refl _ _))
          clear hB7 HL6 HR6 HTH6
          have hy : isYes [if s.isSome = true then 0 else 1] = !s.isSome := by cases s <;> rfl
          rw [hy]
          have HG0 := Lib.hid (show (ShG' k s).A.get (nodeRef 0) ≠ none by have := HGF.out.get0; intro h; rw [h] at this; cases this)
          have hwy := HGF.out.way
          have hsy := HGF.out.st
          clear hy
          have HLd := Lib.hid HL7.out.drew
          have HRd := Lib.hid (HR7.out.keep (w' := w7.drew) (fun b hb _ => rfl) (Nat.le_refl _) (Ext.refl _ _))
          obtain ⟨g, o, cap, hv, hle, hgl, hgk, hgc, hgz⟩ := HRd.out.at (by omega) (by decide)
          simp only [Value.slice.injEq] at hv
          obtain ⟨rfl, _, rfl⟩ := hv
          cases s with
          | none =>
            replace hwy : ((ShG' k none).A.way (nodeRef 0) 0).1 = 88 := hwy
            replace hsy : (ShG' k none).T.state 1 = 2 := hsy
            have c0 : w7.drew.cell? ⟨p.pw, 0, none⟩ = some (.pointer (some ⟨p.pa, 0, none⟩)) := cellAt HLd.out.wd.hpw 0 rfl
            have c1 : w7.drew.cell? ⟨p.pw, 1, none⟩ = some (.pointer (some ⟨p.pt, 0, none⟩)) := cellAt HLd.out.wd.hpw 1 rfl
            have cx : w7.drew.cell? ⟨g, o, none⟩ = some (.int .i64 (nodeRef 0)) := hgc 0 _ (by rw [intVs_get, nodeRefs_get (by omega)]; rfl)
            have hkp : 0 < k := by omega
            clear hgc hgz hgk hle hgl HL7 HR7 HSI HGF HS hbad
            go_upto_region 15 with fail
            generalize hWd : w7.drew = W at *
            refine wp_tail_at 7 (by kernel_rfl) (by kernel_rfl) W hWd ?_
            clear hWd
            simp only [List.take_succ_cons, List.take_zero, List.drop_succ_cons, List.drop_zero]
            repeat still_step
            refine wpStill_nil ?_
            go_wp2_with (first | (refine (way_at HLd.out.wd.ar _ _ HG0.out).mono ?_; rintro e w' ⟨rfl, hw'⟩; replace hw' := hw'.symm; subst hw') | (refine (state_ok HLd.out.wd.tab _).mono ?_; rintro e w' ⟨rfl, hw'⟩; replace hw' := hw'.symm; subst hw'))
            go_roundw
            case rel => (repeat apply Exists.intro); exact ⟨⟨n + 1, κ6, _, by go_num, by omega, Lib.hid (.inr rfl), HLd, HRd⟩, rfl⟩
            case measure => simp [intOf]; omega
          | some i =>
            replace hwy : ((ShG' k (some i)).A.way (nodeRef 0) 0).1 = 200 := hwy
            replace hsy : (ShG' k (some i)).T.state 1 = 0 := hsy
            have c0 : w7.drew.cell? ⟨p.pw, 0, none⟩ = some (.pointer (some ⟨p.pa, 0, none⟩)) := cellAt HLd.out.wd.hpw 0 rfl
            have c1 : w7.drew.cell? ⟨p.pw, 1, none⟩ = some (.pointer (some ⟨p.pt, 0, none⟩)) := cellAt HLd.out.wd.hpw 1 rfl
            have cx : w7.drew.cell? ⟨g, o, none⟩ = some (.int .i64 (nodeRef 0)) := hgc 0 _ (by rw [intVs_get, nodeRefs_get (by omega)]; rfl)
            have hkp : 0 < k := by omega
            clear hgc hgz hgk hle hgl HL7 HR7 HSI HGF HS hbad
            go_upto_region 15 with fail
            generalize hWd : w7.drew = W at *
            refine wp_tail_at 7 (by kernel_rfl) (by kernel_rfl) W hWd ?_
            clear hWd
            simp only [List.take_succ_cons, List.take_zero, List.drop_succ_cons, List.drop_zero]
            repeat still_step
            refine wpStill_nil ?_
            go_wp2_with (first | (refine (way_at HLd.out.wd.ar _ _ HG0.out).mono ?_; rintro e w' ⟨rfl, hw'⟩; replace hw' := hw'.symm; subst hw') | (refine (state_ok HLd.out.wd.tab _).mono ?_; rintro e w' ⟨rfl, hw'⟩; replace hw' := hw'.symm; subst hw'))
            go_roundw
            case rel => (repeat apply Exists.intro); exact ⟨⟨n + 1, κ6, _, by go_num, by omega, Lib.hid (.inr rfl), HLd, HRd⟩, rfl⟩
            case measure => simp [intOf]; omega
        · go_wp2
          go_ret
          exact ⟨rfl, HB.out.trans (HL.out.below0.mono HB.out.size)⟩

theorem wf_u8 {a : Int} (h : (Lit.int .u8 a).wf = true) : 0 ≤ a ∧ a ≤ 255 := by
  have e1 : IntKind.u8.min = 0 := by decide
  have e2 : IntKind.u8.max = 255 := by decide
  simp only [Lit.wf, Bool.and_eq_true, decide_eq_true_eq, e1, e2] at h
  exact h
theorem helpAgain_ok (m st tm : Int) (hm : (Lit.int .u8 m).wf = true) (hst : (Lit.int .u8 st).wf = true) (htm : (Lit.int .u8 tm).wf = true) (w : World) :
    Calls Try.prog 11 #[.int .u8 m, .int .u8 st, .int .u8 tm] w fun e w' => e = .returned (.bool true) ∧ Below w.heap.size w w' := by
  have h1 := wf_u8 hm
  have h2 := wf_u8 hst
  have h3 := wf_u8 htm
  by_cases hb : st < 1 + m % 4
  · exact again_ok m st tm h1.1 h1.2 h2.1 h2.2 h3.1 h3.2 (1 + m % 4).toNat (by omega) (some st.toNat) (fun i h => by simp only [Option.some.injEq] at h; omega) (fun h => by cases h) w
  · exact again_ok m st tm h1.1 h1.2 h2.1 h2.2 h3.1 h3.2 (1 + m % 4).toNat (by omega) none (fun i h => by cases h) (fun _ => by omega) w
end Go.Proofs.Ytacmeafpieoaaaa
