/- boscagelaw10.LlxStores returns true. -/
import Derived.Test.YtacmeafpieoaaaaSp
import Derived.Test.YtacmeafpieoaaaaAk
import Derived.Test.YtacmeafpieoaaaaNa
import Derived.IntWalk
namespace Go.Mask
section
variable {P : Program} {ops : Array Oper} {Q : Exit → Act → World → Prop} {md : Region.Mode} {S : World → Prop} {m : Nat → Bool}
/-- Only one may come up, and its guard lets it: it is carried out as it stands. -/
theorem oneG (i : Nat) {oi : Oper} {fuel : Nat} {listed : Array Bool} {a : Act} {w : World} (hr : Region.ready md ops listed = [i]) (hi : ops[i]? = some oi) (hg : Region.wanted oi (yielded ops a.tmps) = true)
    (h : ∀ K : Act → World → Prop, (∀ a' w', (m i = true → S w') → (wpAnyM P md ops Q S m fuel (listed.setIfInBounds i true) a' w') → K a' w') → oi.wp P a w K Q) : wpAnyM P md ops Q S m (fuel + 1) listed a w := by
  refine ⟨fun h0 => (by rw [hr] at h0; cases h0), fun j hj => ?_⟩
  rw [hr] at hj
  simp only [List.mem_cons, List.not_mem_nil, or_false] at hj
  subst hj
  unfold wpOp
  simp only [hi]
  rw [if_pos hg]
  exact .inl (h _ fun a' w' hs hh => ⟨hs, hh⟩)
end
end Go.Mask
namespace Go.Proofs.Ytacmeafpieoaaaa
open Go.RowKit

theorem nodeRefs_get' {k i : Nat} (h : i < k) : (nodeRefs k)[i]? = some (nodeRef i) := by simp [nodeRefs, h]

theorem sum_ne (k kept N : Nat) (hk : k ≤ 5) (ht : kept ≤ 6) (hN : N = 7 * k + 1 + k + 1 + (k - kept) + 2) : ((N : Int) != IntKind.i64.wrap (IntKind.i64.wrap (IntKind.i64.wrap (IntKind.i64.wrap (IntKind.i64.wrap (7 * (k : Int) + 1) + (k : Int)) + 1) +
    if IntKind.i64.wrap ((k : Int) - (kept : Int)) < 0 then 0 else IntKind.i64.wrap ((k : Int) - (kept : Int))) + 2)) = false := by
  rw [IntWalk.i64_in (7 * (k : Int) + 1) (by omega), IntWalk.i64_in (7 * (k : Int) + 1 + (k : Int)) (by omega), IntWalk.i64_in (7 * (k : Int) + 1 + (k : Int) + 1) (by omega), IntWalk.i64_in ((k : Int) - (kept : Int)) (by omega)]
  split
  · rw [IntWalk.i64_in (7 * (k : Int) + 1 + (k : Int) + 1 + 0) (by omega), IntWalk.i64_in (7 * (k : Int) + 1 + (k : Int) + 1 + 0 + 2) (by omega)]
    simp; omega
  · rw [IntWalk.i64_in (7 * (k : Int) + 1 + (k : Int) + 1 + ((k : Int) - (kept : Int))) (by omega), IntWalk.i64_in (7 * (k : Int) + 1 + (k : Int) + 1 + ((k : Int) - (kept : Int)) + 2) (by omega)]
    simp; omega

set_option maxRecDepth 100000 in
set_option maxHeartbeats 4000000 in
theorem llxStores_walk (m kp : Int) (hm : 0 ≤ m) (hm' : m ≤ 255) (hkp : 0 ≤ kp) (hkp' : kp ≤ 255) (k kept : Nat) (hk : 1 + m % 5 = (k : Int)) (hkt : kp % 7 = (kept : Int)) (w : World) :
    Calls Try.prog 18 #[.int .u8 m, .int .u8 kp] w fun e w' => e = .returned (.bool true) ∧ Below w.heap.size w w' := by
  have hk1 : 1 ≤ k := by omega
  have hk5 : k ≤ 5 := by omega
  have ht6 : kept ≤ 6 := by omega
  have HSF := Lib.hid (sf k kept hk1 hk5 ht6)
  go_enter Try.func18, Try.ntmps18
  go_wp2_with fail
  refine (awake10_ok w).mono ?_
  rintro e w1 ⟨rfl, hB⟩
  have HB := Lib.hid hB
  clear hB
  go_wp2_with fail
  refine (nodes_ok 0 (supNo w1) 1 k (by decide) (by decide) (by omega)).mono ?_
  rintro e w2 ⟨κ2, p, a, c, rfl, hpe, hW, hrow, hF, hE, hS⟩
  have HL := Lib.hid (Lw.new hW hF hE hS)
  have HR := Lib.hid hrow
  clear hW hF hE hS hpe hrow
  go_upto_region 6 with fail
  rw [hkt]
  clear hkt hkp hkp' hk hm hm'
  go_wp2_with fail
  have hcr : Row κ2 .imm w2 1 (.slice a (nodeRefs k).length c) (nodeRefs k).length (intVs (nodeRefs k)) := by rw [nodeRefs_len]; exact HR.out
  have hch := change_ok (wi := 0) HL.out.sup 0 p 0 (nodeRefs k) a c hcr (by rw [nodeRefs_len]; omega) kept 1 201 66 (by omega)
  rw [nodeRefs_len] at hch
  refine hch.mono ?_
  clear hch hcr
  rintro e w3 ⟨κ3, pth, caps1, rfl, hth, hwk, hB3, hE3, hS3⟩
  have HL3 := Lib.hid (HL.out.later hB3 hE3 hS3)
  have HR3 := Lib.hid (HR.out.keep (fun b hb _ => hB3.block b hb) hB3.size hE3)
  have HTH := Lib.hid hth
  have HWK := Lib.hid hwk
  clear hth hwk hB3 hE3 hS3 HL HR
  go_wp2_with fail
  obtain ⟨log', hends⟩ := (tl_changeP (nodeRefs k) kept 1 201 66).ends HSF.out.f1 (by have := HSF.out.n1; show ((PS1 k kept).go (ShN 1 k)).1 < 100000; omega)
  rw [show ((changeP (nodeRefs k) kept 1 201 66).go (ShN 1 k)).2.1 = [1] from HSF.out.o1, show ((changeP (nodeRefs k) kept 1 201 66).go (ShN 1 k)).1 = 7 * k + 1 + k + 1 + (k - kept) + 2 from HSF.out.n1] at hends
  obtain ⟨N, hN⟩ : ∃ N : Nat, N = 7 * k + 1 + k + 1 + (k - kept) + 2 := ⟨_, rfl⟩
  rw [← hN, Nat.max_eq_left (by omega)] at hends
  refine (alone_ok HTH.out HL3.out.wd HL3.out.sup enters121 HWK.out (N := N) (by omega) hends (l := [1]) rfl (by decide)).mono ?_
  rintro e w4 ⟨κ4, a1, c1, rfl, hrow, hwd, hth4, hF4, hE4, hS4⟩
  have HL4 := Lib.hid (show Lw w1 κ4 0 p (ShS1 k kept) w4 from HL3.out.turn hwd (hF4.mono K.step_run) hE4 hS4)
  have HR4 := Lib.hid (HR3.out.keep (fun b hb hk => hF4.block b hb (by rw [hk]; rfl)) hF4.size hE4)
  have HTH4 := Lib.hid hth4
  have HN := Lib.hid hN
  clear hends hrow hwd hth4 hF4 hE4 hS4 HL3 HR3 HTH HWK hN
  go_upto_region 8 with fail
  go_cut [84] from 40 to 84 (fun v84 wx => v84 = .bool false ∧ Hid (Lw w1 κ4 0 p (ShS1 k kept) wx) ∧ Hid (Row κ4 .imm wx 1 (.slice a k c) k (intVs (nodeRefs k))))
  case first =>
    have HLW := Lib.hid HL4.out.drew
    have HRW := Lib.hid (HR4.out.keep (w' := w4.drew) (fun b hb _ => rfl) (Nat.le_refl _) (Ext.refl _ _))
    have HTW := Lib.hid (HTH4.out.keep (w' := w4.drew) (fun b hb _ => rfl) (Nat.le_refl _) (Ext.refl _ _))
    have HG := Lib.hid (HSF.out.at (i := 0) (by omega)).1
    have HY1 := Lib.hid HSF.out.way1
    have HY0 := Lib.hid HSF.out.way0
    obtain ⟨g, o, cap, hv, hle, hgl, hgk, hgc, hgz⟩ := HRW.out.at (by omega) (by decide)
    simp only [Value.slice.injEq] at hv
    obtain ⟨rfl, _, rfl⟩ := hv
    generalize hWd : w4.drew = W at *
    have hS : _ ∧ _ := ⟨(cellAt HLW.out.wd.hpw 0 rfl : W.cell? ⟨p.pw, 0, none⟩ = some (.pointer (some ⟨p.pa, 0, none⟩))), (hgc 0 _ (by rw [intVs_get, nodeRefs_get' (by omega)]; rfl) : W.cell? ⟨g, o, none⟩ = some (.int .i64 (nodeRef 0)))⟩
    clear HL4 HR4 hgc hgz hgk
    have hk0 : 0 < k := hk1
    have hNz := HN.out
    have hne := sum_ne k kept N hk5 ht6 hNz
    clear hNz
    have e1 : IntKind.i64.wrap (7 * (k : Int)) = 7 * (k : Int) := wrap64_small _ (by omega) (by omega)
    refine Mask.beginAt (fun W' => W'.cell? ⟨p.pw, 0, none⟩ = some (.pointer (some ⟨p.pa, 0, none⟩)) ∧ W'.cell? ⟨g, o, none⟩ = some (.int .i64 (nodeRef 0))) (fun i => true) (by kernel_rfl) W hWd ?_
    refine Mask.take 0 40 (v := ?_) rfl rfl (by kernel_rfl) (by kernel_rfl) (by kernel_rfl) rfl (by kernel_rfl) (by kernel_rfl) (fun _ _ _ h => h) hS (Or.inl ⟨by rfl, ?_⟩) ?_
    rotate_left
    · intro w hSw; (try dsimp only at hSw); go_simp; try with_reducible rfl
    simp only [Act.put, List.setIfInBounds_toArray, List.set_cons_zero, List.set_cons_succ]
    refine Mask.take 1 41 (v := ?_) rfl rfl (by kernel_rfl) (by kernel_rfl) (by kernel_rfl) rfl (by kernel_rfl) (by kernel_rfl) (fun _ _ _ h => h) hS (Or.inl ⟨by rfl, ?_⟩) ?_
    rotate_left
    · intro w hSw; (try dsimp only at hSw); go_simp; try with_reducible rfl
    simp only [Act.put, List.setIfInBounds_toArray, List.set_cons_zero, List.set_cons_succ]
    refine Mask.take 2 42 (v := ?_) rfl rfl (by kernel_rfl) (by kernel_rfl) (by kernel_rfl) rfl (by kernel_rfl) (by kernel_rfl) (fun _ _ _ h => h) hS (Or.inl ⟨by rfl, ?_⟩) ?_
    rotate_left
    · intro w hSw; (try dsimp only at hSw); go_simp; try with_reducible rfl
    simp only [Act.put, List.setIfInBounds_toArray, List.set_cons_zero, List.set_cons_succ]
    refine Mask.take 3 43 (v := ?_) rfl rfl (by kernel_rfl) (by kernel_rfl) (by kernel_rfl) rfl (by kernel_rfl) (by kernel_rfl) (fun _ _ _ h => h) hS (Or.inl ⟨by rfl, ?_⟩) ?_
    rotate_left
    · intro w hSw; (try dsimp only at hSw); go_simp; try with_reducible rfl
    simp only [Act.put, List.setIfInBounds_toArray, List.set_cons_zero, List.set_cons_succ]
    refine Mask.take 4 44 (v := ?_) rfl rfl (by kernel_rfl) (by kernel_rfl) (by kernel_rfl) rfl (by kernel_rfl) (by kernel_rfl) (fun _ _ _ h => h) hS (Or.inl ⟨by rfl, ?_⟩) ?_
    rotate_left
    · intro w hSw; (try dsimp only at hSw); go_simp; try with_reducible rfl
    simp only [Act.put, List.setIfInBounds_toArray, List.set_cons_zero, List.set_cons_succ]
    refine Mask.take 5 45 (v := ?_) rfl rfl (by kernel_rfl) (by kernel_rfl) (by kernel_rfl) rfl (by kernel_rfl) (by kernel_rfl) (fun _ _ _ h => h) hS (Or.inl ⟨by rfl, ?_⟩) ?_
    rotate_left
    · intro w hSw; (try dsimp only at hSw); go_simp; try with_reducible rfl
    simp only [Act.put, List.setIfInBounds_toArray, List.set_cons_zero, List.set_cons_succ]
    refine Mask.take 6 46 (v := ?_) rfl rfl (by kernel_rfl) (by kernel_rfl) (by kernel_rfl) rfl (by kernel_rfl) (by kernel_rfl) (fun _ _ _ h => h) hS (Or.inl ⟨by rfl, ?_⟩) ?_
    rotate_left
    · intro w hSw; (try dsimp only at hSw); go_simp; try with_reducible rfl
    simp only [Act.put, List.setIfInBounds_toArray, List.set_cons_zero, List.set_cons_succ]
    refine Mask.take 7 47 (v := ?_) rfl rfl (by kernel_rfl) (by kernel_rfl) (by kernel_rfl) rfl (by kernel_rfl) (by kernel_rfl) (fun _ _ _ h => h) hS (Or.inl ⟨by rfl, ?_⟩) ?_
    rotate_left
    · intro w hSw; (try dsimp only at hSw); go_simp; try with_reducible rfl
    simp only [Act.put, List.setIfInBounds_toArray, List.set_cons_zero, List.set_cons_succ]
    refine Mask.take 8 48 (v := ?_) rfl rfl (by kernel_rfl) (by kernel_rfl) (by kernel_rfl) rfl (by kernel_rfl) (by kernel_rfl) (fun _ _ _ h => h) hS (Or.inl ⟨by rfl, ?_⟩) ?_
    rotate_left
    · intro w hSw; (try dsimp only at hSw); go_simp; try with_reducible rfl
    simp only [Act.put, List.setIfInBounds_toArray, List.set_cons_zero, List.set_cons_succ]
    refine Mask.take 9 49 (v := ?_) rfl rfl (by kernel_rfl) (by kernel_rfl) (by kernel_rfl) rfl (by kernel_rfl) (by kernel_rfl) (fun _ _ _ h => h) hS (Or.inl ⟨by rfl, ?_⟩) ?_
    rotate_left
    · intro w hSw; (try dsimp only at hSw); go_simp; try with_reducible rfl
    simp only [Act.put, List.setIfInBounds_toArray, List.set_cons_zero, List.set_cons_succ]
    refine Mask.take 10 50 (v := ?_) rfl rfl (by kernel_rfl) (by kernel_rfl) (by kernel_rfl) rfl (by kernel_rfl) (by kernel_rfl) (fun _ _ _ h => h) hS (Or.inl ⟨by rfl, ?_⟩) ?_
    rotate_left
    · intro w hSw; (try dsimp only at hSw); go_simp; try with_reducible rfl
    simp only [Act.put, List.setIfInBounds_toArray, List.set_cons_zero, List.set_cons_succ]
    refine Mask.take 11 51 (v := ?_) rfl rfl (by kernel_rfl) (by kernel_rfl) (by kernel_rfl) rfl (by kernel_rfl) (by kernel_rfl) (fun _ _ _ h => h) hS (Or.inl ⟨by rfl, ?_⟩) ?_
    rotate_left
    · intro w hSw; (try dsimp only at hSw); go_simp; try with_reducible rfl
    simp only [Act.put, List.setIfInBounds_toArray, List.set_cons_zero, List.set_cons_succ]
    refine Mask.take 12 52 (v := ?_) rfl rfl (by kernel_rfl) (by kernel_rfl) (by kernel_rfl) rfl (by kernel_rfl) (by kernel_rfl) (fun _ _ _ h => h) hS (Or.inl ⟨by rfl, ?_⟩) ?_
    rotate_left
    · intro w hSw; (try dsimp only at hSw); go_simp; try with_reducible rfl
    simp only [Act.put, List.setIfInBounds_toArray, List.set_cons_zero, List.set_cons_succ]
    refine Mask.take 13 53 (v := ?_) rfl rfl (by kernel_rfl) (by kernel_rfl) (by kernel_rfl) rfl (by kernel_rfl) (by kernel_rfl) (fun _ _ _ h => h) hS (Or.inl ⟨by rfl, ?_⟩) ?_
    rotate_left
    · intro w hSw; (try dsimp only at hSw); go_simp; try with_reducible rfl
    simp only [Act.put, List.setIfInBounds_toArray, List.set_cons_zero, List.set_cons_succ]
    refine Mask.take 14 54 (v := ?_) rfl rfl (by kernel_rfl) (by kernel_rfl) (by kernel_rfl) rfl (by kernel_rfl) (by kernel_rfl) (fun _ _ _ h => h) hS (Or.inl ⟨by rfl, ?_⟩) ?_
    rotate_left
    · intro w hSw; (try dsimp only at hSw); go_simp; try with_reducible rfl
    simp only [Act.put, List.setIfInBounds_toArray, List.set_cons_zero, List.set_cons_succ]
    refine Mask.take 15 55 (v := ?_) rfl rfl (by kernel_rfl) (by kernel_rfl) (by kernel_rfl) rfl (by kernel_rfl) (by kernel_rfl) (fun _ _ _ h => h) hS (Or.inl ⟨by rfl, ?_⟩) ?_
    rotate_left
    · intro w hSw; (try dsimp only at hSw); go_simp; try with_reducible rfl
    simp only [Act.put, List.setIfInBounds_toArray, List.set_cons_zero, List.set_cons_succ]
    refine Mask.take 16 56 (v := ?_) rfl rfl (by kernel_rfl) (by kernel_rfl) (by kernel_rfl) rfl (by kernel_rfl) (by kernel_rfl) (fun _ _ _ h => h) hS (Or.inl ⟨by rfl, ?_⟩) ?_
    rotate_left
    · intro w hSw; (try dsimp only at hSw); go_simp; try with_reducible rfl
    simp only [Act.put, List.setIfInBounds_toArray, List.set_cons_zero, List.set_cons_succ]
    refine Mask.take 17 57 (v := ?_) rfl rfl (by kernel_rfl) (by kernel_rfl) (by kernel_rfl) rfl (by kernel_rfl) (by kernel_rfl) (fun _ _ _ h => h) hS (Or.inl ⟨by rfl, ?_⟩) ?_
    rotate_left
    · intro w hSw; (try dsimp only at hSw); go_simp; try with_reducible rfl
    simp only [Act.put, List.setIfInBounds_toArray, List.set_cons_zero, List.set_cons_succ]
    refine Mask.take 18 58 (v := ?_) rfl rfl (by kernel_rfl) (by kernel_rfl) (by kernel_rfl) rfl (by kernel_rfl) (by kernel_rfl) (fun _ _ _ h => h) hS (Or.inl ⟨by rfl, ?_⟩) ?_
    rotate_left
    · intro w hSw; (try dsimp only at hSw); go_simp; try with_reducible rfl
    simp only [Act.put, List.setIfInBounds_toArray, List.set_cons_zero, List.set_cons_succ]
    refine Mask.take 19 59 (v := ?_) rfl rfl (by kernel_rfl) (by kernel_rfl) (by kernel_rfl) rfl (by kernel_rfl) (by kernel_rfl) (fun _ _ _ h => h) hS (Or.inl ⟨by rfl, ?_⟩) ?_
    rotate_left
    · intro w hSw; (try dsimp only at hSw); go_simp; try with_reducible rfl
    simp only [Act.put, List.setIfInBounds_toArray, List.set_cons_zero, List.set_cons_succ]
    -- 20: call F89[t59] types#[61]
    refine Mask.oneG 20 (by kernel_rfl) rfl (by rfl) (fun K__ hK => ?_)
    go_simp
    refine (came_ok HTW.out (l := [1]) rfl (by simp)).mono ?_
    rintro e w9 ⟨rfl, hB9⟩
    have HL9 := Lib.hid (HLW.out.below hB9)
    have HR9 := Lib.hid (HRW.out.keep (fun b hb _ => hB9.block b hb) hB9.size (Ext.refl _ _))
    have hSn : _ ∧ _ := ⟨(cellAt HL9.out.wd.hpw 0 rfl : w9.cell? ⟨p.pw, 0, none⟩ = some (.pointer (some ⟨p.pa, 0, none⟩))), (hB9.cell (p := ⟨g, o, none⟩) hgl).trans hS.2⟩
    rw [show came [1] = 1 from rfl]
    clear hB9
    refine hK _ _ (fun _ => ?_) ?_
    · exact hSn
    replace hS := hSn; clear hSn
    clear hK K__
    try simp only [Act.put, List.setIfInBounds_toArray, List.set_cons_zero, List.set_cons_succ]
    refine Mask.take 21 61 (v := ?_) rfl rfl (by kernel_rfl) (by kernel_rfl) (by kernel_rfl) rfl (by kernel_rfl) (by kernel_rfl) (fun _ _ _ h => h) hS (Or.inl ⟨by rfl, ?_⟩) ?_
    rotate_left
    · intro w hSw; (try dsimp only at hSw); go_simp; try with_reducible rfl
    simp only [Act.put, List.setIfInBounds_toArray, List.set_cons_zero, List.set_cons_succ]
    refine Mask.take 22 62 (v := ?_) rfl rfl (by kernel_rfl) (by kernel_rfl) (by kernel_rfl) rfl (by kernel_rfl) (by kernel_rfl) (fun _ _ _ h => h) hS (Or.inl ⟨by rfl, ?_⟩) ?_
    rotate_left
    · intro w hSw; (try dsimp only at hSw); go_simp; try with_reducible rfl
    simp only [Act.put, List.setIfInBounds_toArray, List.set_cons_zero, List.set_cons_succ]
    refine Mask.take 23 63 (v := ?_) rfl rfl (by kernel_rfl) (by kernel_rfl) (by kernel_rfl) rfl (by kernel_rfl) (by kernel_rfl) (fun _ _ _ h => h) hS (Or.inl ⟨by rfl, ?_⟩) ?_
    rotate_left
    · intro w hSw; (try dsimp only at hSw); go_simp; try with_reducible rfl
    simp only [Act.put, List.setIfInBounds_toArray, List.set_cons_zero, List.set_cons_succ]
    refine Mask.take 24 64 (v := ?_) rfl rfl (by kernel_rfl) (by kernel_rfl) (by kernel_rfl) rfl (by kernel_rfl) (by kernel_rfl) (fun _ _ _ h => h) hS (Or.inl ⟨by rfl, ?_⟩) ?_
    rotate_left
    · intro w hSw; (try dsimp only at hSw); go_simp; try with_reducible rfl
    simp only [Act.put, List.setIfInBounds_toArray, List.set_cons_zero, List.set_cons_succ]
    refine Mask.take 25 65 (v := ?_) rfl rfl (by kernel_rfl) (by kernel_rfl) (by kernel_rfl) rfl (by kernel_rfl) (by kernel_rfl) (fun _ _ _ h => h) hS (Or.inl ⟨by rfl, ?_⟩) ?_
    rotate_left
    · intro w hSw; (try dsimp only at hSw); go_simp; try with_reducible rfl
    simp only [Act.put, List.setIfInBounds_toArray, List.set_cons_zero, List.set_cons_succ]
    refine Mask.take 26 66 (v := ?_) rfl rfl (by kernel_rfl) (by kernel_rfl) (by kernel_rfl) rfl (by kernel_rfl) (by kernel_rfl) (fun _ _ _ h => h) hS (Or.inl ⟨by rfl, ?_⟩) ?_
    rotate_left
    · intro w hSw; (try dsimp only at hSw); go_simp; try with_reducible rfl
    simp only [Act.put, List.setIfInBounds_toArray, List.set_cons_zero, List.set_cons_succ]
    refine Mask.take 27 67 (v := ?_) rfl rfl (by kernel_rfl) (by kernel_rfl) (by kernel_rfl) rfl (by kernel_rfl) (by kernel_rfl) (fun _ _ _ h => h) hS (Or.inl ⟨by rfl, ?_⟩) ?_
    rotate_left
    · intro w hSw; (try dsimp only at hSw); skip; go_simp; try with_reducible rfl
    simp only [Act.put, List.setIfInBounds_toArray, List.set_cons_zero, List.set_cons_succ]
    refine Mask.take 28 68 (v := ?_) rfl rfl (by kernel_rfl) (by kernel_rfl) (by kernel_rfl) rfl (by kernel_rfl) (by kernel_rfl) (fun _ _ _ h => h) hS (Or.inl ⟨by rfl, ?_⟩) ?_
    rotate_left
    · intro w hSw; (try dsimp only at hSw); go_simp; try with_reducible rfl
    simp only [Act.put, List.setIfInBounds_toArray, List.set_cons_zero, List.set_cons_succ]
    refine Mask.take 29 69 (v := ?_) rfl rfl (by kernel_rfl) (by kernel_rfl) (by kernel_rfl) rfl (by kernel_rfl) (by kernel_rfl) (fun _ _ _ h => h) hS (Or.inl ⟨by rfl, ?_⟩) ?_
    rotate_left
    · intro w hSw; (try dsimp only at hSw); go_simp; try with_reducible rfl
    simp only [Act.put, List.setIfInBounds_toArray, List.set_cons_zero, List.set_cons_succ]
    refine Mask.take 30 70 (v := ?_) rfl rfl (by kernel_rfl) (by kernel_rfl) (by kernel_rfl) rfl (by kernel_rfl) (by kernel_rfl) (fun _ _ _ h => h) hS (Or.inl ⟨by rfl, ?_⟩) ?_
    rotate_left
    · intro w hSw; (try dsimp only at hSw); skip; go_simp; try with_reducible rfl
    simp only [Act.put, List.setIfInBounds_toArray, List.set_cons_zero, List.set_cons_succ]
    -- 31: call F41[t67, t70, i64:1] types#[38, 41, 3]
    refine Mask.oneG 31 (by kernel_rfl) rfl (by rfl) (fun K__ hK => ?_)
    go_simp
    refine (way_at HL9.out.wd.ar (nodeRef 0) 1 HG.out).mono ?_
    rintro e w' ⟨rfl, hw'⟩; replace hw' := hw'.symm; subst hw'
    rw [HY1.out]
    refine hK _ _ (fun _ => ?_) ?_
    · exact hS
    clear hK K__
    try simp only [Act.put, List.setIfInBounds_toArray, List.set_cons_zero, List.set_cons_succ]
    refine Mask.take 32 72 (v := ?_) rfl rfl (by kernel_rfl) (by kernel_rfl) (by kernel_rfl) rfl (by kernel_rfl) (by kernel_rfl) (fun _ _ _ h => h) hS (Or.inl ⟨by rfl, ?_⟩) ?_
    rotate_left
    · intro w hSw; (try dsimp only at hSw); go_simp; try with_reducible rfl
    simp only [Act.put, List.setIfInBounds_toArray, List.set_cons_zero, List.set_cons_succ]
    refine Mask.take 33 73 (v := ?_) rfl rfl (by kernel_rfl) (by kernel_rfl) (by kernel_rfl) rfl (by kernel_rfl) (by kernel_rfl) (fun _ _ _ h => h) hS (Or.inl ⟨by rfl, ?_⟩) ?_
    rotate_left
    · intro w hSw; (try dsimp only at hSw); go_simp; try with_reducible rfl
    simp only [Act.put, List.setIfInBounds_toArray, List.set_cons_zero, List.set_cons_succ]
    refine Mask.take 34 74 (v := ?_) rfl rfl (by kernel_rfl) (by kernel_rfl) (by kernel_rfl) rfl (by kernel_rfl) (by kernel_rfl) (fun _ _ _ h => h) hS (Or.inl ⟨by rfl, ?_⟩) ?_
    rotate_left
    · intro w hSw; (try dsimp only at hSw); go_simp; try with_reducible rfl
    simp only [Act.put, List.setIfInBounds_toArray, List.set_cons_zero, List.set_cons_succ]
    refine Mask.take 35 75 (v := ?_) rfl rfl (by kernel_rfl) (by kernel_rfl) (by kernel_rfl) rfl (by kernel_rfl) (by kernel_rfl) (fun _ _ _ h => h) hS (Or.inl ⟨by rfl, ?_⟩) ?_
    rotate_left
    · intro w hSw; (try dsimp only at hSw); go_simp; try with_reducible rfl
    simp only [Act.put, List.setIfInBounds_toArray, List.set_cons_zero, List.set_cons_succ]
    refine Mask.take 36 76 (v := ?_) rfl rfl (by kernel_rfl) (by kernel_rfl) (by kernel_rfl) rfl (by kernel_rfl) (by kernel_rfl) (fun _ _ _ h => h) hS (Or.inl ⟨by rfl, ?_⟩) ?_
    rotate_left
    · intro w hSw; (try dsimp only at hSw); go_simp; try with_reducible rfl
    simp only [Act.put, List.setIfInBounds_toArray, List.set_cons_zero, List.set_cons_succ]
    refine Mask.take 37 77 (v := ?_) rfl rfl (by kernel_rfl) (by kernel_rfl) (by kernel_rfl) rfl (by kernel_rfl) (by kernel_rfl) (fun _ _ _ h => h) hS (Or.inl ⟨by rfl, ?_⟩) ?_
    rotate_left
    · intro w hSw; (try dsimp only at hSw); go_simp; try with_reducible rfl
    simp only [Act.put, List.setIfInBounds_toArray, List.set_cons_zero, List.set_cons_succ]
    refine Mask.take 38 78 (v := ?_) rfl rfl (by kernel_rfl) (by kernel_rfl) (by kernel_rfl) rfl (by kernel_rfl) (by kernel_rfl) (fun _ _ _ h => h) hS (Or.inl ⟨by rfl, ?_⟩) ?_
    rotate_left
    · intro w hSw; (try dsimp only at hSw); skip; go_simp; try with_reducible rfl
    simp only [Act.put, List.setIfInBounds_toArray, List.set_cons_zero, List.set_cons_succ]
    refine Mask.take 39 79 (v := ?_) rfl rfl (by kernel_rfl) (by kernel_rfl) (by kernel_rfl) rfl (by kernel_rfl) (by kernel_rfl) (fun _ _ _ h => h) hS (Or.inl ⟨by rfl, ?_⟩) ?_
    rotate_left
    · intro w hSw; (try dsimp only at hSw); go_simp; try with_reducible rfl
    simp only [Act.put, List.setIfInBounds_toArray, List.set_cons_zero, List.set_cons_succ]
    refine Mask.take 40 80 (v := ?_) rfl rfl (by kernel_rfl) (by kernel_rfl) (by kernel_rfl) rfl (by kernel_rfl) (by kernel_rfl) (fun _ _ _ h => h) hS (Or.inl ⟨by rfl, ?_⟩) ?_
    rotate_left
    · intro w hSw; (try dsimp only at hSw); go_simp; try with_reducible rfl
    simp only [Act.put, List.setIfInBounds_toArray, List.set_cons_zero, List.set_cons_succ]
    refine Mask.take 41 81 (v := ?_) rfl rfl (by kernel_rfl) (by kernel_rfl) (by kernel_rfl) rfl (by kernel_rfl) (by kernel_rfl) (fun _ _ _ h => h) hS (Or.inl ⟨by rfl, ?_⟩) ?_
    rotate_left
    · intro w hSw; (try dsimp only at hSw); skip; go_simp; try with_reducible rfl
    simp only [Act.put, List.setIfInBounds_toArray, List.set_cons_zero, List.set_cons_succ]
    -- 42: call F41[t78, t81, i64:0] types#[38, 41, 3]
    refine Mask.oneG 42 (by kernel_rfl) rfl (by rfl) (fun K__ hK => ?_)
    go_simp
    refine (way_at HL9.out.wd.ar (nodeRef 0) 0 HG.out).mono ?_
    rintro e w' ⟨rfl, hw'⟩; replace hw' := hw'.symm; subst hw'
    rw [HY0.out]
    refine hK _ _ (fun _ => ?_) ?_
    · exact hS
    clear hK K__
    try simp only [Act.put, List.setIfInBounds_toArray, List.set_cons_zero, List.set_cons_succ]
    refine Mask.take 43 83 (v := ?_) rfl rfl (by kernel_rfl) (by kernel_rfl) (by kernel_rfl) rfl (by kernel_rfl) (by kernel_rfl) (fun _ _ _ h => h) hS (Or.inl ⟨by rfl, ?_⟩) ?_
    rotate_left
    · intro w hSw; (try dsimp only at hSw); go_simp; try with_reducible rfl
    simp only [Act.put, List.setIfInBounds_toArray, List.set_cons_zero, List.set_cons_succ]
    refine Mask.take 44 84 (v := ?_) rfl rfl (by kernel_rfl) (by kernel_rfl) (by kernel_rfl) rfl (by kernel_rfl) (by kernel_rfl) (fun _ _ _ h => h) hS (Or.inl ⟨by rfl, ?_⟩) ?_
    rotate_left
    · intro w hSw; (try dsimp only at hSw); go_simp; try with_reducible rfl
    simp only [Act.put, List.setIfInBounds_toArray, List.set_cons_zero, List.set_cons_succ]
    refine Mask.done (by kernel_rfl) ?_ _
    clear hne e1
    generalize (if IntKind.i64.wrap ((k : Int) - (kept : Int)) < 0 then (0 : Int) else IntKind.i64.wrap ((k : Int) - (kept : Int))) = zz__
    go_wp2
    go_meet
    case rel => exact ⟨rfl, HL9, HR9⟩
  case rest =>
    clear HL4 HR4
    obtain ⟨rfl, HL, HR⟩ := hcut
    clear HTH4 HN
    go_wp2
    go_loop [87] (fun i => ∃ n : Nat, i = .int .i64 n ∧ n ≤ k) (fun i => k - (intOf i).toNat)
    case atStart => exact ⟨0, rfl, Nat.zero_le _⟩
    case round =>
      obtain ⟨n, rfl, hn⟩ := hrel
      by_cases hlt : n < k
      · have hat := HSF.out.at hlt
        have HGn := Lib.hid hat.1
        have hi := hat.2.1
        have hmk := hat.2.2
        clear hat
        obtain ⟨g, o, cap, hv, hle, hgl, hgk, hgc, hgz⟩ := HR.out.at (by omega) (by decide)
        simp only [Value.slice.injEq] at hv
        obtain ⟨rfl, _, rfl⟩ := hv
        have cx : wc.cell? ⟨g, o + n, none⟩ = some (.int .i64 (nodeRef n)) := hgc n _ (by rw [intVs_get, nodeRefs_get' hlt]; rfl)
        have c0 : wc.cell? ⟨p.pw, 0, none⟩ = some (.pointer (some ⟨p.pa, 0, none⟩)) := cellAt HL.out.wd.hpw 0 rfl
        clear hgc hgz hgk
        by_cases hx : kept ≤ n
        · replace hmk : ((ShS1 k kept).A.marked (nodeRef n)).1 = true := by rw [hmk]; simpa using hx
          go_wp2_with (first | (refine (info_at HL.out.wd.ar _ HGn.out).mono ?_; rintro e w' ⟨rfl, hw'⟩; replace hw' := hw'.symm; subst hw') | (refine (mark_at HL.out.wd.ar _ HGn.out).mono ?_; rintro e w' ⟨rfl, hw'⟩; replace hw' := hw'.symm; subst hw'))
          go_round
          case rel => exact ⟨n + 1, by go_num, by omega⟩
          case measure => simp [intOf]; omega
        · replace hmk : ((ShS1 k kept).A.marked (nodeRef n)).1 = false := by rw [hmk]; simpa using hx
          go_wp2_with (first | (refine (info_at HL.out.wd.ar _ HGn.out).mono ?_; rintro e w' ⟨rfl, hw'⟩; replace hw' := hw'.symm; subst hw') | (refine (mark_at HL.out.wd.ar _ HGn.out).mono ?_; rintro e w' ⟨rfl, hw'⟩; replace hw' := hw'.symm; subst hw'))
          go_round
          case rel => exact ⟨n + 1, by go_num, by omega⟩
          case measure => simp [intOf]; omega
      · by_cases hck : kept < k
        · skip
          have ho2 : ((PS2 k kept).go (ShS1 k kept)).2.1 = [-1] := by rw [HSF.out.o2, if_pos hck]
          have HO2 := Lib.hid ho2
          clear ho2
          have HW2 := Lib.hid (show ((ShS2 k kept).A.way (nodeRef 0) 1).1 = 66 by rw [HSF.out.way2, if_pos hck])
          have hcr : Row κ4 .imm wc 1 (.slice a (nodeRefs k).length c) (nodeRefs k).length (intVs (nodeRefs k)) := by rw [nodeRefs_len]; exact HR.out
          have hch := change_ok (wi := 0) HL.out.sup 0 p 0 (nodeRefs k) a c hcr (by rw [nodeRefs_len]; omega) kept 1 66 67 (by omega)
          rw [nodeRefs_len] at hch
          go_wp2_with fail
          refine hch.mono ?_
          clear hch hcr
          rintro e w5 ⟨κ5, pth2, caps2, rfl, hth, hwk, hB5, hE5, hS5⟩
          have HL5 := Lib.hid (HL.out.later hB5 hE5 hS5)
          have HR5 := Lib.hid (HR.out.keep (fun b hb _ => hB5.block b hb) hB5.size hE5)
          have HTH := Lib.hid hth
          have HWK := Lib.hid hwk
          clear hth hwk hB5 hE5 hS5 HL HR
          go_wp2_with fail
          obtain ⟨log2, hends⟩ := (tl_changeP (nodeRefs k) kept 1 66 67).ends HSF.out.f2 (by have := HSF.out.n2; show ((PS2 k kept).go (ShS1 k kept)).1 < 100000; omega)
          rw [show ((changeP (nodeRefs k) kept 1 66 67).go (ShS1 k kept)).2.1 = [-1] from HO2.out] at hends
          have hnn : max ((changeP (nodeRefs k) kept 1 66 67).go (ShS1 k kept)).1 1 ≤ 3000 := by have : ((changeP (nodeRefs k) kept 1 66 67).go (ShS1 k kept)).1 ≤ 3000 := HSF.out.n2; omega
          refine (alone_ok HTH.out HL5.out.wd HL5.out.sup enters121 HWK.out hnn hends (l := [-1]) rfl (by decide)).mono ?_
          clear hnn
          rintro e w6 ⟨κ6, a6, c6, rfl, hrow, hwd, hth6, hF6, hE6, hS6⟩
          have HL6 := Lib.hid (show Lw w1 κ6 0 p (ShS2 k kept) w6 from HL5.out.turn hwd (hF6.mono K.step_run) hE6 hS6)
          have HR6 := Lib.hid (HR5.out.keep (fun b hb hk => hF6.block b hb (by rw [hk]; rfl)) hF6.size hE6)
          have HTH6 := Lib.hid hth6
          clear hends hrow hwd hth6 hF6 hE6 hS6 HL5 HR5 HTH HWK
          go_upto_region 21 with fail
          have HLW := Lib.hid HL6.out.drew
          have HRW := Lib.hid (HR6.out.keep (w' := w6.drew) (fun b hb _ => rfl) (Nat.le_refl _) (Ext.refl _ _))
          have HTW := Lib.hid (HTH6.out.keep (w' := w6.drew) (fun b hb _ => rfl) (Nat.le_refl _) (Ext.refl _ _))
          have HG := Lib.hid (show (ShS2 k kept).A.get (nodeRef 0) ≠ none by have := HSF.out.get2; intro h; rw [h] at this; cases this)
          obtain ⟨g, o, cap, hv, hle, hgl, hgk, hgc, hgz⟩ := HRW.out.at (by omega) (by decide)
          simp only [Value.slice.injEq] at hv
          obtain ⟨rfl, _, rfl⟩ := hv
          generalize hWd : w6.drew = W at *
          have hS : _ ∧ _ := ⟨(cellAt HLW.out.wd.hpw 0 rfl : W.cell? ⟨p.pw, 0, none⟩ = some (.pointer (some ⟨p.pa, 0, none⟩))), (hgc 0 _ (by rw [intVs_get, nodeRefs_get' (by omega)]; rfl) : W.cell? ⟨g, o, none⟩ = some (.int .i64 (nodeRef 0)))⟩
          clear HL6 HR6 hgc hgz hgk
          have hk0 : 0 < k := hk1
          refine Mask.beginAt (fun W' => W'.cell? ⟨p.pw, 0, none⟩ = some (.pointer (some ⟨p.pa, 0, none⟩)) ∧ W'.cell? ⟨g, o, none⟩ = some (.int .i64 (nodeRef 0))) (fun i => true) (by kernel_rfl) W hWd ?_
          refine Mask.take 0 127 (v := ?_) rfl rfl (by kernel_rfl) (by kernel_rfl) (by kernel_rfl) rfl (by kernel_rfl) (by kernel_rfl) (fun _ _ _ h => h) hS (Or.inl ⟨by rfl, ?_⟩) ?_
          rotate_left
          · intro w hSw; (try dsimp only at hSw); go_simp; try with_reducible rfl
          simp only [Act.put, List.setIfInBounds_toArray, List.set_cons_zero, List.set_cons_succ]
          -- 1: call F89[t127] types#[61]
          refine Mask.one 1 (by kernel_rfl) rfl rfl (fun K__ hK => ?_)
          go_simp
          refine (came_ok HTW.out (l := [-1]) rfl (by simp)).mono ?_
          rintro e w9 ⟨rfl, hB9⟩
          have HL9 := Lib.hid (HLW.out.below hB9)
          have hSn : _ ∧ _ := ⟨(cellAt HL9.out.wd.hpw 0 rfl : w9.cell? ⟨p.pw, 0, none⟩ = some (.pointer (some ⟨p.pa, 0, none⟩))), (hB9.cell (p := ⟨g, o, none⟩) hgl).trans hS.2⟩
          rw [show came [-1] = -1 from rfl]
          clear hB9
          refine hK _ _ (fun _ => ?_) ?_
          · exact hSn
          replace hS := hSn; clear hSn
          clear hK K__
          try simp only [Act.put, List.setIfInBounds_toArray, List.set_cons_zero, List.set_cons_succ]
          refine Mask.take 2 129 (v := ?_) rfl rfl (by kernel_rfl) (by kernel_rfl) (by kernel_rfl) rfl (by kernel_rfl) (by kernel_rfl) (fun _ _ _ h => h) hS (Or.inl ⟨by rfl, ?_⟩) ?_
          rotate_left
          · intro w hSw; (try dsimp only at hSw); go_simp; try with_reducible rfl
          simp only [Act.put, List.setIfInBounds_toArray, List.set_cons_zero, List.set_cons_succ]
          refine Mask.take 3 130 (v := ?_) rfl rfl (by kernel_rfl) (by kernel_rfl) (by kernel_rfl) rfl (by kernel_rfl) (by kernel_rfl) (fun _ _ _ h => h) hS (Or.inl ⟨by rfl, ?_⟩) ?_
          rotate_left
          · intro w hSw; (try dsimp only at hSw); go_simp; try with_reducible rfl
          simp only [Act.put, List.setIfInBounds_toArray, List.set_cons_zero, List.set_cons_succ]
          refine Mask.take 4 131 (v := ?_) rfl rfl (by kernel_rfl) (by kernel_rfl) (by kernel_rfl) rfl (by kernel_rfl) (by kernel_rfl) (fun _ _ _ h => h) hS (Or.inl ⟨by rfl, ?_⟩) ?_
          rotate_left
          · intro w hSw; (try dsimp only at hSw); go_simp; try with_reducible rfl
          simp only [Act.put, List.setIfInBounds_toArray, List.set_cons_zero, List.set_cons_succ]
          refine Mask.take 5 132 (v := ?_) rfl rfl (by kernel_rfl) (by kernel_rfl) (by kernel_rfl) rfl (by kernel_rfl) (by kernel_rfl) (fun _ _ _ h => h) hS (Or.inl ⟨by rfl, ?_⟩) ?_
          rotate_left
          · intro w hSw; (try dsimp only at hSw); go_simp; try with_reducible rfl
          simp only [Act.put, List.setIfInBounds_toArray, List.set_cons_zero, List.set_cons_succ]
          refine Mask.take 6 133 (v := ?_) rfl rfl (by kernel_rfl) (by kernel_rfl) (by kernel_rfl) rfl (by kernel_rfl) (by kernel_rfl) (fun _ _ _ h => h) hS (Or.inl ⟨by rfl, ?_⟩) ?_
          rotate_left
          · intro w hSw; (try dsimp only at hSw); go_simp; try with_reducible rfl
          simp only [Act.put, List.setIfInBounds_toArray, List.set_cons_zero, List.set_cons_succ]
          refine Mask.take 7 134 (v := ?_) rfl rfl (by kernel_rfl) (by kernel_rfl) (by kernel_rfl) rfl (by kernel_rfl) (by kernel_rfl) (fun _ _ _ h => h) hS (Or.inl ⟨by rfl, ?_⟩) ?_
          rotate_left
          · intro w hSw; (try dsimp only at hSw); skip; go_simp; try with_reducible rfl
          simp only [Act.put, List.setIfInBounds_toArray, List.set_cons_zero, List.set_cons_succ]
          refine Mask.take 8 135 (v := ?_) rfl rfl (by kernel_rfl) (by kernel_rfl) (by kernel_rfl) rfl (by kernel_rfl) (by kernel_rfl) (fun _ _ _ h => h) hS (Or.inl ⟨by rfl, ?_⟩) ?_
          rotate_left
          · intro w hSw; (try dsimp only at hSw); go_simp; try with_reducible rfl
          simp only [Act.put, List.setIfInBounds_toArray, List.set_cons_zero, List.set_cons_succ]
          refine Mask.take 9 136 (v := ?_) rfl rfl (by kernel_rfl) (by kernel_rfl) (by kernel_rfl) rfl (by kernel_rfl) (by kernel_rfl) (fun _ _ _ h => h) hS (Or.inl ⟨by rfl, ?_⟩) ?_
          rotate_left
          · intro w hSw; (try dsimp only at hSw); go_simp; try with_reducible rfl
          simp only [Act.put, List.setIfInBounds_toArray, List.set_cons_zero, List.set_cons_succ]
          refine Mask.take 10 137 (v := ?_) rfl rfl (by kernel_rfl) (by kernel_rfl) (by kernel_rfl) rfl (by kernel_rfl) (by kernel_rfl) (fun _ _ _ h => h) hS (Or.inl ⟨by rfl, ?_⟩) ?_
          rotate_left
          · intro w hSw; (try dsimp only at hSw); skip; go_simp; try with_reducible rfl
          simp only [Act.put, List.setIfInBounds_toArray, List.set_cons_zero, List.set_cons_succ]
          -- 11: call F41[t134, t137, i64:1] types#[38, 41, 3]
          refine Mask.oneG 11 (by kernel_rfl) rfl (by rfl) (fun K__ hK => ?_)
          go_simp
          refine (way_at HL9.out.wd.ar (nodeRef 0) 1 HG.out).mono ?_
          rintro e w' ⟨rfl, hw'⟩; replace hw' := hw'.symm; subst hw'
          rw [HW2.out]
          refine hK _ _ (fun _ => ?_) ?_
          · exact hS
          clear hK K__
          try simp only [Act.put, List.setIfInBounds_toArray, List.set_cons_zero, List.set_cons_succ]
          refine Mask.take 12 139 (v := ?_) rfl rfl (by kernel_rfl) (by kernel_rfl) (by kernel_rfl) rfl (by kernel_rfl) (by kernel_rfl) (fun _ _ _ h => h) hS (Or.inl ⟨by rfl, ?_⟩) ?_
          rotate_left
          · intro w hSw; (try dsimp only at hSw); go_simp; try with_reducible rfl
          simp only [Act.put, List.setIfInBounds_toArray, List.set_cons_zero, List.set_cons_succ]
          refine Mask.take 13 140 (v := ?_) rfl rfl (by kernel_rfl) (by kernel_rfl) (by kernel_rfl) rfl (by kernel_rfl) (by kernel_rfl) (fun _ _ _ h => h) hS (Or.inl ⟨by rfl, ?_⟩) ?_
          rotate_left
          · intro w hSw; (try dsimp only at hSw); go_simp; try with_reducible rfl
          simp only [Act.put, List.setIfInBounds_toArray, List.set_cons_zero, List.set_cons_succ]
          refine Mask.take 14 4 (v := ?_) rfl rfl (by kernel_rfl) (by kernel_rfl) (by kernel_rfl) rfl (by kernel_rfl) (by kernel_rfl) (fun _ _ _ h => h) hS (Or.inl ⟨by rfl, ?_⟩) ?_
          rotate_left
          · intro w hSw; (try dsimp only at hSw); go_simp; try with_reducible rfl
          simp only [Act.put, List.setIfInBounds_toArray, List.set_cons_zero, List.set_cons_succ]
          refine Mask.done (by kernel_rfl) ?_ _
          go_wp2
          go_ret
          exact ⟨rfl, HB.out.trans (HL9.out.below0.mono HB.out.size)⟩
        · skip
          have ho2 : ((PS2 k kept).go (ShS1 k kept)).2.1 = [1] := by rw [HSF.out.o2, if_neg hck]
          have HO2 := Lib.hid ho2
          clear ho2
          have HW2 := Lib.hid (show ((ShS2 k kept).A.way (nodeRef 0) 1).1 = 67 by rw [HSF.out.way2, if_neg hck])
          have hcr : Row κ4 .imm wc 1 (.slice a (nodeRefs k).length c) (nodeRefs k).length (intVs (nodeRefs k)) := by rw [nodeRefs_len]; exact HR.out
          have hch := change_ok (wi := 0) HL.out.sup 0 p 0 (nodeRefs k) a c hcr (by rw [nodeRefs_len]; omega) kept 1 66 67 (by omega)
          rw [nodeRefs_len] at hch
          go_wp2_with fail
          refine hch.mono ?_
          clear hch hcr
          rintro e w5 ⟨κ5, pth2, caps2, rfl, hth, hwk, hB5, hE5, hS5⟩
          have HL5 := Lib.hid (HL.out.later hB5 hE5 hS5)
          have HR5 := Lib.hid (HR.out.keep (fun b hb _ => hB5.block b hb) hB5.size hE5)
          have HTH := Lib.hid hth
          have HWK := Lib.hid hwk
          clear hth hwk hB5 hE5 hS5 HL HR
          go_wp2_with fail
          obtain ⟨log2, hends⟩ := (tl_changeP (nodeRefs k) kept 1 66 67).ends HSF.out.f2 (by have := HSF.out.n2; show ((PS2 k kept).go (ShS1 k kept)).1 < 100000; omega)
          rw [show ((changeP (nodeRefs k) kept 1 66 67).go (ShS1 k kept)).2.1 = [1] from HO2.out] at hends
          have hnn : max ((changeP (nodeRefs k) kept 1 66 67).go (ShS1 k kept)).1 1 ≤ 3000 := by have : ((changeP (nodeRefs k) kept 1 66 67).go (ShS1 k kept)).1 ≤ 3000 := HSF.out.n2; omega
          refine (alone_ok HTH.out HL5.out.wd HL5.out.sup enters121 HWK.out hnn hends (l := [1]) rfl (by decide)).mono ?_
          clear hnn
          rintro e w6 ⟨κ6, a6, c6, rfl, hrow, hwd, hth6, hF6, hE6, hS6⟩
          have HL6 := Lib.hid (show Lw w1 κ6 0 p (ShS2 k kept) w6 from HL5.out.turn hwd (hF6.mono K.step_run) hE6 hS6)
          have HR6 := Lib.hid (HR5.out.keep (fun b hb hk => hF6.block b hb (by rw [hk]; rfl)) hF6.size hE6)
          have HTH6 := Lib.hid hth6
          clear hends hrow hwd hth6 hF6 hE6 hS6 HL5 HR5 HTH HWK
          go_upto_region 22 with fail
          have HLW := Lib.hid HL6.out.drew
          have HRW := Lib.hid (HR6.out.keep (w' := w6.drew) (fun b hb _ => rfl) (Nat.le_refl _) (Ext.refl _ _))
          have HTW := Lib.hid (HTH6.out.keep (w' := w6.drew) (fun b hb _ => rfl) (Nat.le_refl _) (Ext.refl _ _))
          have HG := Lib.hid (show (ShS2 k kept).A.get (nodeRef 0) ≠ none by have := HSF.out.get2; intro h; rw [h] at this; cases this)
          obtain ⟨g, o, cap, hv, hle, hgl, hgk, hgc, hgz⟩ := HRW.out.at (by omega) (by decide)
          simp only [Value.slice.injEq] at hv
          obtain ⟨rfl, _, rfl⟩ := hv
          generalize hWd : w6.drew = W at *
          have hS : _ ∧ _ := ⟨(cellAt HLW.out.wd.hpw 0 rfl : W.cell? ⟨p.pw, 0, none⟩ = some (.pointer (some ⟨p.pa, 0, none⟩))), (hgc 0 _ (by rw [intVs_get, nodeRefs_get' (by omega)]; rfl) : W.cell? ⟨g, o, none⟩ = some (.int .i64 (nodeRef 0)))⟩
          clear HL6 HR6 hgc hgz hgk
          have hk0 : 0 < k := hk1
          refine Mask.beginAt (fun W' => W'.cell? ⟨p.pw, 0, none⟩ = some (.pointer (some ⟨p.pa, 0, none⟩)) ∧ W'.cell? ⟨g, o, none⟩ = some (.int .i64 (nodeRef 0))) (fun i => true) (by kernel_rfl) W hWd ?_
          refine Mask.take 0 141 (v := ?_) rfl rfl (by kernel_rfl) (by kernel_rfl) (by kernel_rfl) rfl (by kernel_rfl) (by kernel_rfl) (fun _ _ _ h => h) hS (Or.inl ⟨by rfl, ?_⟩) ?_
          rotate_left
          · intro w hSw; (try dsimp only at hSw); go_simp; try with_reducible rfl
          simp only [Act.put, List.setIfInBounds_toArray, List.set_cons_zero, List.set_cons_succ]
          -- 1: call F89[t141] types#[61]
          refine Mask.one 1 (by kernel_rfl) rfl rfl (fun K__ hK => ?_)
          go_simp
          refine (came_ok HTW.out (l := [1]) rfl (by simp)).mono ?_
          rintro e w9 ⟨rfl, hB9⟩
          have HL9 := Lib.hid (HLW.out.below hB9)
          have hSn : _ ∧ _ := ⟨(cellAt HL9.out.wd.hpw 0 rfl : w9.cell? ⟨p.pw, 0, none⟩ = some (.pointer (some ⟨p.pa, 0, none⟩))), (hB9.cell (p := ⟨g, o, none⟩) hgl).trans hS.2⟩
          rw [show came [1] = 1 from rfl]
          clear hB9
          refine hK _ _ (fun _ => ?_) ?_
          · exact hSn
          replace hS := hSn; clear hSn
          clear hK K__
          try simp only [Act.put, List.setIfInBounds_toArray, List.set_cons_zero, List.set_cons_succ]
          refine Mask.take 2 143 (v := ?_) rfl rfl (by kernel_rfl) (by kernel_rfl) (by kernel_rfl) rfl (by kernel_rfl) (by kernel_rfl) (fun _ _ _ h => h) hS (Or.inl ⟨by rfl, ?_⟩) ?_
          rotate_left
          · intro w hSw; (try dsimp only at hSw); go_simp; try with_reducible rfl
          simp only [Act.put, List.setIfInBounds_toArray, List.set_cons_zero, List.set_cons_succ]
          refine Mask.take 3 144 (v := ?_) rfl rfl (by kernel_rfl) (by kernel_rfl) (by kernel_rfl) rfl (by kernel_rfl) (by kernel_rfl) (fun _ _ _ h => h) hS (Or.inl ⟨by rfl, ?_⟩) ?_
          rotate_left
          · intro w hSw; (try dsimp only at hSw); go_simp; try with_reducible rfl
          simp only [Act.put, List.setIfInBounds_toArray, List.set_cons_zero, List.set_cons_succ]
          refine Mask.take 4 145 (v := ?_) rfl rfl (by kernel_rfl) (by kernel_rfl) (by kernel_rfl) rfl (by kernel_rfl) (by kernel_rfl) (fun _ _ _ h => h) hS (Or.inl ⟨by rfl, ?_⟩) ?_
          rotate_left
          · intro w hSw; (try dsimp only at hSw); go_simp; try with_reducible rfl
          simp only [Act.put, List.setIfInBounds_toArray, List.set_cons_zero, List.set_cons_succ]
          refine Mask.take 5 146 (v := ?_) rfl rfl (by kernel_rfl) (by kernel_rfl) (by kernel_rfl) rfl (by kernel_rfl) (by kernel_rfl) (fun _ _ _ h => h) hS (Or.inl ⟨by rfl, ?_⟩) ?_
          rotate_left
          · intro w hSw; (try dsimp only at hSw); go_simp; try with_reducible rfl
          simp only [Act.put, List.setIfInBounds_toArray, List.set_cons_zero, List.set_cons_succ]
          refine Mask.take 6 147 (v := ?_) rfl rfl (by kernel_rfl) (by kernel_rfl) (by kernel_rfl) rfl (by kernel_rfl) (by kernel_rfl) (fun _ _ _ h => h) hS (Or.inl ⟨by rfl, ?_⟩) ?_
          rotate_left
          · intro w hSw; (try dsimp only at hSw); go_simp; try with_reducible rfl
          simp only [Act.put, List.setIfInBounds_toArray, List.set_cons_zero, List.set_cons_succ]
          refine Mask.take 7 148 (v := ?_) rfl rfl (by kernel_rfl) (by kernel_rfl) (by kernel_rfl) rfl (by kernel_rfl) (by kernel_rfl) (fun _ _ _ h => h) hS (Or.inl ⟨by rfl, ?_⟩) ?_
          rotate_left
          · intro w hSw; (try dsimp only at hSw); skip; go_simp; try with_reducible rfl
          simp only [Act.put, List.setIfInBounds_toArray, List.set_cons_zero, List.set_cons_succ]
          refine Mask.take 8 149 (v := ?_) rfl rfl (by kernel_rfl) (by kernel_rfl) (by kernel_rfl) rfl (by kernel_rfl) (by kernel_rfl) (fun _ _ _ h => h) hS (Or.inl ⟨by rfl, ?_⟩) ?_
          rotate_left
          · intro w hSw; (try dsimp only at hSw); go_simp; try with_reducible rfl
          simp only [Act.put, List.setIfInBounds_toArray, List.set_cons_zero, List.set_cons_succ]
          refine Mask.take 9 150 (v := ?_) rfl rfl (by kernel_rfl) (by kernel_rfl) (by kernel_rfl) rfl (by kernel_rfl) (by kernel_rfl) (fun _ _ _ h => h) hS (Or.inl ⟨by rfl, ?_⟩) ?_
          rotate_left
          · intro w hSw; (try dsimp only at hSw); go_simp; try with_reducible rfl
          simp only [Act.put, List.setIfInBounds_toArray, List.set_cons_zero, List.set_cons_succ]
          refine Mask.take 10 151 (v := ?_) rfl rfl (by kernel_rfl) (by kernel_rfl) (by kernel_rfl) rfl (by kernel_rfl) (by kernel_rfl) (fun _ _ _ h => h) hS (Or.inl ⟨by rfl, ?_⟩) ?_
          rotate_left
          · intro w hSw; (try dsimp only at hSw); skip; go_simp; try with_reducible rfl
          simp only [Act.put, List.setIfInBounds_toArray, List.set_cons_zero, List.set_cons_succ]
          -- 11: call F41[t148, t151, i64:1] types#[38, 41, 3]
          refine Mask.oneG 11 (by kernel_rfl) rfl (by rfl) (fun K__ hK => ?_)
          go_simp
          refine (way_at HL9.out.wd.ar (nodeRef 0) 1 HG.out).mono ?_
          rintro e w' ⟨rfl, hw'⟩; replace hw' := hw'.symm; subst hw'
          rw [HW2.out]
          refine hK _ _ (fun _ => ?_) ?_
          · exact hS
          clear hK K__
          try simp only [Act.put, List.setIfInBounds_toArray, List.set_cons_zero, List.set_cons_succ]
          refine Mask.take 12 153 (v := ?_) rfl rfl (by kernel_rfl) (by kernel_rfl) (by kernel_rfl) rfl (by kernel_rfl) (by kernel_rfl) (fun _ _ _ h => h) hS (Or.inl ⟨by rfl, ?_⟩) ?_
          rotate_left
          · intro w hSw; (try dsimp only at hSw); go_simp; try with_reducible rfl
          simp only [Act.put, List.setIfInBounds_toArray, List.set_cons_zero, List.set_cons_succ]
          refine Mask.take 13 154 (v := ?_) rfl rfl (by kernel_rfl) (by kernel_rfl) (by kernel_rfl) rfl (by kernel_rfl) (by kernel_rfl) (fun _ _ _ h => h) hS (Or.inl ⟨by rfl, ?_⟩) ?_
          rotate_left
          · intro w hSw; (try dsimp only at hSw); go_simp; try with_reducible rfl
          simp only [Act.put, List.setIfInBounds_toArray, List.set_cons_zero, List.set_cons_succ]
          refine Mask.take 14 4 (v := ?_) rfl rfl (by kernel_rfl) (by kernel_rfl) (by kernel_rfl) rfl (by kernel_rfl) (by kernel_rfl) (fun _ _ _ h => h) hS (Or.inl ⟨by rfl, ?_⟩) ?_
          rotate_left
          · intro w hSw; (try dsimp only at hSw); go_simp; try with_reducible rfl
          simp only [Act.put, List.setIfInBounds_toArray, List.set_cons_zero, List.set_cons_succ]
          refine Mask.done (by kernel_rfl) ?_ _
          go_wp2
          go_ret
          exact ⟨rfl, HB.out.trans (HL9.out.below0.mono HB.out.size)⟩

theorem llxStores_ok (m kp : Int) (hm : (Lit.int .u8 m).wf = true) (hk : (Lit.int .u8 kp).wf = true) (w : World) :
    Calls Try.prog 18 #[.int .u8 m, .int .u8 kp] w fun e w' => e = .returned (.bool true) ∧ Below w.heap.size w w' := by
  have e1 : IntKind.u8.min = 0 := by decide
  have e2 : IntKind.u8.max = 255 := by decide
  simp only [Lit.wf, Bool.and_eq_true, decide_eq_true_eq, e1, e2] at hm hk
  exact llxStores_walk m kp hm.1 hm.2 hk.1 hk.2 (1 + m % 5).toNat (kp % 7).toNat (by omega) (by omega) w
end Go.Proofs.Ytacmeafpieoaaaa
