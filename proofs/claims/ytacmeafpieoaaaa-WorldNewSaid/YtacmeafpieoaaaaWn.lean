/- boscagelaw08.WorldNew returns true. -/
import Derived.Test.YtacmeafpieoaaaaWnB
import Derived.Test.YtacmeafpieoaaaaLk
import Derived.Deep.QuietTactic
import Derived.BigQuiet
namespace Go.Proofs.Ytacmeafpieoaaaa
open Go.RowKit

theorem Ar0_eq (nodes : Int) (h : 2 ≤ nodes) : Ar0 nodes = ⟨[⟨rootN, [], 0, false, 1, true⟩, ⟨entryN, [refOf 0 1], 0, false, 1, true⟩], [], nodes, 2, 0⟩ := by rw [Ar0, alloc0 nodes h, alloc1 nodes h]
theorem Ar0_get1 (nodes : Int) (h : 2 ≤ nodes) : (Ar0 nodes).get (refOf 1 1) = some ⟨entryN, [refOf 0 1], 0, false, 1, true⟩ := by rw [Ar0_eq nodes h]; kernel_rfl
theorem Ar0_get0 (nodes : Int) (h : 2 ≤ nodes) : (Ar0 nodes).get (refOf 0 1) = some ⟨rootN, [], 0, false, 1, true⟩ := by rw [Ar0_eq nodes h]; kernel_rfl

section
variable {w wx w' : World} {κ κ' : Nat → K} {wi j : Nat} {p : WdP} {σ σ' : ShS}
theorem Lw.setCell (h : Lw w κ wi p σ wx) {a : Addr} (hk : κ a.block = .none) (hb : w.heap.size ≤ a.block) (v : Value) : Lw w κ wi p σ (wx.setCell a v) := by
  have ho : ∀ b, b ≠ a.block → (wx.setCell a v).heap[b]? = wx.heap[b]? := fun b hb => Below.heap_setCell _ _ _ _ hb
  refine ⟨h.wd.keep (fun b _ hkb => ho b (by intro e; rw [e, hk] at hkb; simp [K.ofW] at hkb)) (by simp [World.setCell]) (Ext.refl _ _), h.sup.mono (by simp [World.setCell]), ?_, h.ex⟩
  exact ⟨h.fr.os, h.fr.tape, h.fr.output, by have := h.fr.size; simpa [World.setCell] using this, fun b hb' hs => (ho b (by omega)).trans (h.fr.block b hb' hs)⟩
theorem BoxAt.five {b : Nat} {z0 z1 z2 z3 z4 : Value} {t : TypeId} (h : BoxAt κ w b #[z0, z1, z2, z3, z4] t) (u0 u1 u2 u3 u4 : Value) :
    BoxAt κ (((((w.setCell ⟨b, 0, none⟩ u0).setCell ⟨b, 1, none⟩ u1).setCell ⟨b, 2, none⟩ u2).setCell ⟨b, 3, none⟩ u3).setCell ⟨b, 4, none⟩ u4) b #[u0, u1, u2, u3, u4] t := ((((h.set).set).set).set).set
theorem BoxAt.fiveOther {b c : Nat} {cs : Array Value} {t : TypeId} (h : BoxAt κ w c cs t) (hne : c ≠ b) (u0 u1 u2 u3 u4 : Value) :
    BoxAt κ (((((w.setCell ⟨b, 0, none⟩ u0).setCell ⟨b, 1, none⟩ u1).setCell ⟨b, 2, none⟩ u2).setCell ⟨b, 3, none⟩ u3).setCell ⟨b, 4, none⟩ u4) c cs t := ((((h.setOther hne).setOther hne).setOther hne).setOther hne).setOther hne
theorem Lw.five (h : Lw w κ wi p σ wx) {b : Nat} (hk : κ b = .none) (hb : w.heap.size ≤ b) (u0 u1 u2 u3 u4 : Value) :
    Lw w κ wi p σ (((((wx.setCell ⟨b, 0, none⟩ u0).setCell ⟨b, 1, none⟩ u1).setCell ⟨b, 2, none⟩ u2).setCell ⟨b, 3, none⟩ u3).setCell ⟨b, 4, none⟩ u4) := ((((h.setCell hk hb _).setCell hk hb _).setCell hk hb _).setCell hk hb _).setCell hk hb _
theorem two_nodes {b1 b2 : Nat} {z0 z1 z2 z3 z4 : Value} {t : TypeId} (HL : Hid (Lw w κ wi p σ wx)) (H1 : Hid (BoxAt κ wx b1 #[z0, z1, z2, z3, z4] t)) (H2 : Hid (BoxAt κ wx b2 #[z0, z1, z2, z3, z4] t)) (hne : b1 ≠ b2) (h1 : w.heap.size ≤ b1) (h2 : w.heap.size ≤ b2) (u0 u1 u2 u3 u4 v0 v1 v2 v3 v4 : Value) :
    Hid (BoxAt κ ((((((((((wx.setCell ⟨b1, 0, none⟩ u0).setCell ⟨b1, 1, none⟩ u1).setCell ⟨b1, 2, none⟩ u2).setCell ⟨b1, 3, none⟩ u3).setCell ⟨b1, 4, none⟩ u4).setCell ⟨b2, 0, none⟩ v0).setCell ⟨b2, 1, none⟩ v1).setCell ⟨b2, 2, none⟩ v2).setCell ⟨b2, 3, none⟩ v3).setCell ⟨b2, 4, none⟩ v4) b1 #[u0, u1, u2, u3, u4] t) ∧
    Hid (BoxAt κ ((((((((((wx.setCell ⟨b1, 0, none⟩ u0).setCell ⟨b1, 1, none⟩ u1).setCell ⟨b1, 2, none⟩ u2).setCell ⟨b1, 3, none⟩ u3).setCell ⟨b1, 4, none⟩ u4).setCell ⟨b2, 0, none⟩ v0).setCell ⟨b2, 1, none⟩ v1).setCell ⟨b2, 2, none⟩ v2).setCell ⟨b2, 3, none⟩ v3).setCell ⟨b2, 4, none⟩ v4) b2 #[v0, v1, v2, v3, v4] t) ∧
    Hid (Lw w κ wi p σ ((((((((((wx.setCell ⟨b1, 0, none⟩ u0).setCell ⟨b1, 1, none⟩ u1).setCell ⟨b1, 2, none⟩ u2).setCell ⟨b1, 3, none⟩ u3).setCell ⟨b1, 4, none⟩ u4).setCell ⟨b2, 0, none⟩ v0).setCell ⟨b2, 1, none⟩ v1).setCell ⟨b2, 2, none⟩ v2).setCell ⟨b2, 3, none⟩ v3).setCell ⟨b2, 4, none⟩ v4)) :=
  ⟨Lib.hid ((H1.out.five u0 u1 u2 u3 u4).fiveOther hne v0 v1 v2 v3 v4), Lib.hid ((H2.out.fiveOther hne.symm u0 u1 u2 u3 u4).five v0 v1 v2 v3 v4), Lib.hid ((HL.out.five H1.out.kb h1 u0 u1 u2 u3 u4).five H2.out.kb h2 v0 v1 v2 v3 v4)⟩
end

set_option maxRecDepth 100000 in
set_option maxHeartbeats 8000000 in
theorem worldNew_good (a b : Int) (n : Nat) (nodes records : Int) (ha : 2 ≤ a) (ha' : a ≤ 32) (hb : 2 * a - 1 ≤ b) (hb' : b ≤ 32) (hn : 1 ≤ n) (hn' : n ≤ 64) (hk : 2 ≤ nodes) (hk' : nodes ≤ 65536) (hr : 0 ≤ records) (hr' : records ≤ 65536) (w : World) :
    Calls Try.prog 13 #[.int .i64 a, .int .i64 b, .int .i64 n, .int .i64 nodes, .int .i64 records] w fun e w' => e = .returned (.bool true) ∧ Below w.heap.size w w' := by
  have e1 : decide (a < 2) = false := by simp; omega
  have e2 : decide (32 < a) = false := by simp; omega
  have e3 : decide (b < wrap64 (wrap64 (2 * a) - 1)) = false := by simp [wrap64]; omega
  have e4 : decide (32 < b) = false := by simp; omega
  have e5 : decide ((n : Int) < 1) = false := by simp; omega
  have e6 : decide (64 < (n : Int)) = false := by simp; omega
  have e7 : decide (nodes < 2) = false := by simp; omega
  have e8 : decide (65536 < nodes) = false := by simp; omega
  have e9 : decide (records < 0) = false := by simp; omega
  have e10 : decide (65536 < records) = false := by simp; omega
  go_enter Try.func13, Try.ntmps13
  go_wp2_with fail
  refine (awake08_ok w).mono ?_
  rintro e w1 ⟨rfl, hB⟩
  have HB := Lib.hid hB
  clear hB
  go_wp2_with fail
  refine (newWorld_ok 0 (supNo w1) a b n nodes records ha ha' hb hb' hn hn' hk hk' hr hr').mono ?_
  rintro e w2 ⟨κ1, p, rfl, hpa, hpb, hpe, hpt, hW1, hF1, hE1, hS1⟩
  have HL0 := Lib.hid (Lw.new hW1 hF1 hE1 hS1)
  have HPE := Lib.hid hpe
  have HPA := Lib.hid hpa
  have HPB := Lib.hid hpb
  clear hW1 hF1 hE1 hS1 hpe hpa hpb hpt
  go_upto_region 6 with fail
  have c3 : w2.cell? ⟨p.pw, 3, none⟩ = some (.int .i64 a) := by rw [← HPA.out]; exact cellAt HL0.out.wd.hpw 3 rfl
  have c4 : w2.cell? ⟨p.pw, 4, none⟩ = some (.int .i64 b) := by rw [← HPB.out]; exact cellAt HL0.out.wd.hpw 4 rfl
  have c5 : w2.cell? ⟨p.pw, 5, none⟩ = some (.int .i64 (refOf 1 1)) := by rw [← HPE.out]; exact cellAt HL0.out.wd.hpw 5 rfl
  go_quiet ((go_at_call 77; exact Calls.quiet_of_same (of_any 1 1 (by decide) (by decide) _)))
  go_upto_region 8 with fail
  clear c3 c4 c5
  go_cut [13, 14] from 103 to 117 (fun v13 v14 wx => ∃ (b1 b2 : Nat) (κ2 : Nat → Ytacmeafpieoaaaa.K) (xa1 : Option Addr) (xc1 : Nat) (xa2 : Option Addr) (xc2 : Nat) (xa3 : Option Addr) (xc3 : Nat) (ya1 : Option Addr) (yc1 : Nat) (ya2 : Option Addr) (yc2 : Nat) (ya3 : Option Addr) (yc3 : Nat), v13 = .pointer (some ⟨b1, 0, none⟩) ∧ v14 = .pointer (some ⟨b2, 0, none⟩) ∧
    Hid (BoxAt κ2 wx b1 #[.bool true, .bool false, .slice xa1 0 xc1, .slice xa2 0 xc2, .slice xa3 1 xc3] 60) ∧ Hid (BoxAt κ2 wx b2 #[.bool false, .bool false, .slice ya1 0 yc1, .slice ya2 0 yc2, .slice ya3 0 yc3] 60) ∧ Hid (Lw w1 κ2 0 p (Sh0 n nodes records) wx))
  case first =>
    have HL_W := Lib.hid (HL0.out.below (show Below w2.heap.size w2 (w2.drewN nq).drew from (Below.drawn (Below.refl _ _) _).drew))
    clear HL0
    generalize hWd : (w2.drewN nq).drew = W at *
    have hpl := lt_of_heap HL_W.out.wd.hpw
    have c0 : W.cell? ⟨p.pw, 0, none⟩ = some (.pointer (some ⟨p.pa, 0, none⟩)) := cellAt HL_W.out.wd.hpw 0 rfl
    have c5 : W.cell? ⟨p.pw, 5, none⟩ = some (.int .i64 (refOf 1 1)) := by rw [← HPE.out]; exact cellAt HL_W.out.wd.hpw 5 rfl
    have HG1 := Lib.hid (show (Sh0 n nodes records).A.get (refOf 1 1) ≠ none by show (Ar0 nodes).get (refOf 1 1) ≠ none; rw [Ar0_get1 nodes hk]; simp)
    have HG0 := Lib.hid (show (Sh0 n nodes records).A.get (refOf 0 1) ≠ none by show (Ar0 nodes).get (refOf 0 1) ≠ none; rw [Ar0_get0 nodes hk]; simp)
    have HN1 := Lib.hid (show ((Sh0 n nodes records).A.look (refOf 1 1)).1 = entryN by show ((Ar0 nodes).look (refOf 1 1)).1 = entryN; unfold ArS.look; rw [Ar0_get1 nodes hk])
    have HN0 := Lib.hid (show ((Sh0 n nodes records).A.look (refOf 0 1)).1 = rootN by show ((Ar0 nodes).look (refOf 0 1)).1 = rootN; unfold ArS.look; rw [Ar0_get0 nodes hk])
    have hWw : w1.heap.size ≤ W.heap.size := HL_W.out.fr.size
    have hS : Below W.heap.size W W := Below.refl _ _
    refine Mask.beginAt (fun W' => Below W.heap.size W W') (fun i => i != 17 && i != 18) (by kernel_rfl) W hWd ?_
    refine Mask.take 0 103 (v := ?_) rfl rfl (by kernel_rfl) (by kernel_rfl) (by kernel_rfl) rfl (by kernel_rfl) (by kernel_rfl) (fun _ _ _ h => h) hS (Or.inl ⟨by rfl, ?_⟩) ?_
    rotate_left
    · intro w hSw; (try dsimp only at hSw); go_simp; try with_reducible rfl
    simp only [Act.put, List.setIfInBounds_toArray, List.set_cons_zero, List.set_cons_succ]
    refine Mask.take 1 104 (v := ?_) rfl rfl (by kernel_rfl) (by kernel_rfl) (by kernel_rfl) rfl (by kernel_rfl) (by kernel_rfl) (fun _ _ _ h => h) hS (Or.inl ⟨by rfl, ?_⟩) ?_
    rotate_left
    · intro w hSw; (try dsimp only at hSw); go_simp; try with_reducible rfl
    simp only [Act.put, List.setIfInBounds_toArray, List.set_cons_zero, List.set_cons_succ]
    refine Mask.take 2 105 (v := ?_) rfl rfl (by kernel_rfl) (by kernel_rfl) (by kernel_rfl) rfl (by kernel_rfl) (by kernel_rfl) (fun _ _ _ h => h) hS (Or.inl ⟨by rfl, ?_⟩) ?_
    rotate_left
    · intro w hSw; (try dsimp only at hSw); go_simp; try with_reducible rfl
    simp only [Act.put, List.setIfInBounds_toArray, List.set_cons_zero, List.set_cons_succ]
    refine Mask.take 3 106 (v := ?_) rfl rfl (by kernel_rfl) (by kernel_rfl) (by kernel_rfl) rfl (by kernel_rfl) (by kernel_rfl) (fun _ _ _ h => h) hS (Or.inl ⟨by rfl, ?_⟩) ?_
    rotate_left
    · intro w hSw; (try dsimp only at hSw); obtain ⟨hc__, hf__⟩ := bcell hSw; go_simp; try with_reducible rfl
    simp only [Act.put, List.setIfInBounds_toArray, List.set_cons_zero, List.set_cons_succ]
    refine Mask.take 4 107 (v := ?_) rfl rfl (by kernel_rfl) (by kernel_rfl) (by kernel_rfl) rfl (by kernel_rfl) (by kernel_rfl) (fun _ _ _ h => h) hS (Or.inl ⟨by rfl, ?_⟩) ?_
    rotate_left
    · intro w hSw; (try dsimp only at hSw); go_simp; try with_reducible rfl
    simp only [Act.put, List.setIfInBounds_toArray, List.set_cons_zero, List.set_cons_succ]
    refine Mask.take 5 108 (v := ?_) rfl rfl (by kernel_rfl) (by kernel_rfl) (by kernel_rfl) rfl (by kernel_rfl) (by kernel_rfl) (fun _ _ _ h => h) hS (Or.inl ⟨by rfl, ?_⟩) ?_
    rotate_left
    · intro w hSw; (try dsimp only at hSw); go_simp; try with_reducible rfl
    simp only [Act.put, List.setIfInBounds_toArray, List.set_cons_zero, List.set_cons_succ]
    refine Mask.take 6 109 (v := ?_) rfl rfl (by kernel_rfl) (by kernel_rfl) (by kernel_rfl) rfl (by kernel_rfl) (by kernel_rfl) (fun _ _ _ h => h) hS (Or.inl ⟨by rfl, ?_⟩) ?_
    rotate_left
    · intro w hSw; (try dsimp only at hSw); go_simp; try with_reducible rfl
    simp only [Act.put, List.setIfInBounds_toArray, List.set_cons_zero, List.set_cons_succ]
    refine Mask.take 7 110 (v := ?_) rfl rfl (by kernel_rfl) (by kernel_rfl) (by kernel_rfl) rfl (by kernel_rfl) (by kernel_rfl) (fun _ _ _ h => h) hS (Or.inl ⟨by rfl, ?_⟩) ?_
    rotate_left
    · intro w hSw; (try dsimp only at hSw); obtain ⟨hc__, hf__⟩ := bcell hSw; go_simp; try with_reducible rfl
    simp only [Act.put, List.setIfInBounds_toArray, List.set_cons_zero, List.set_cons_succ]
    refine Mask.take 9 112 (v := ?_) rfl rfl (by kernel_rfl) (by kernel_rfl) (by kernel_rfl) rfl (by kernel_rfl) (by kernel_rfl) (fun _ _ _ h => h) hS (Or.inl ⟨by rfl, ?_⟩) ?_
    rotate_left
    · intro w hSw; (try dsimp only at hSw); go_simp; try with_reducible rfl
    simp only [Act.put, List.setIfInBounds_toArray, List.set_cons_zero, List.set_cons_succ]
    refine Mask.take 10 113 (v := ?_) rfl rfl (by kernel_rfl) (by kernel_rfl) (by kernel_rfl) rfl (by kernel_rfl) (by kernel_rfl) (fun _ _ _ h => h) hS (Or.inl ⟨by rfl, ?_⟩) ?_
    rotate_left
    · intro w hSw; (try dsimp only at hSw); go_simp; try with_reducible rfl
    simp only [Act.put, List.setIfInBounds_toArray, List.set_cons_zero, List.set_cons_succ]
    refine Mask.take 11 114 (v := ?_) rfl rfl (by kernel_rfl) (by kernel_rfl) (by kernel_rfl) rfl (by kernel_rfl) (by kernel_rfl) (fun _ _ _ h => h) hS (Or.inl ⟨by rfl, ?_⟩) ?_
    rotate_left
    · intro w hSw; (try dsimp only at hSw); go_simp; try with_reducible rfl
    simp only [Act.put, List.setIfInBounds_toArray, List.set_cons_zero, List.set_cons_succ]
    refine Mask.take 12 115 (v := ?_) rfl rfl (by kernel_rfl) (by kernel_rfl) (by kernel_rfl) rfl (by kernel_rfl) (by kernel_rfl) (fun _ _ _ h => h) hS (Or.inl ⟨by rfl, ?_⟩) ?_
    rotate_left
    · intro w hSw; (try dsimp only at hSw); obtain ⟨hc__, hf__⟩ := bcell hSw; go_simp; try with_reducible rfl
    simp only [Act.put, List.setIfInBounds_toArray, List.set_cons_zero, List.set_cons_succ]
    refine Mask.three 8 15 16 (by kernel_rfl) rfl rfl rfl rfl rfl rfl (fun K__ hK => ?_) (fun K__ hK => ?_) (fun K__ hK => ?_)
    · -- 8: call F78[t106, t110] types#[38, 41]
      go_simp
      refine (look_at HL_W.out.wd.ar HL_W.out.sup (refOf 1 1) HG1.out).mono ?_
      rintro e wq1 ⟨v__, κq1, rfl, hv__, hZ, hE, hSu⟩
      rw [HN1.out] at hv__
      obtain ⟨xp, xk, xw, rfl, rp, rk, rw⟩ := hv__
      obtain ⟨xa1, xc1, rfl, _, _⟩ := rp.shape
      obtain ⟨xa2, xc2, rfl, _, _⟩ := rk.shape
      obtain ⟨xa3, xc3, rfl, _, _⟩ := rw.shape
      have HL_wq1 := Lib.hid (HL_W.out.later hZ hE hSu)
      have hSn := hS.trans (hZ.mono hS.size)
      clear hZ hE hSu rp rk rw
      refine hK _ _ (fun _ => ?_) ?_
      · exact hSn
      replace hS := hSn; clear hSn
      clear hK K__
      try simp only [Act.put, List.setIfInBounds_toArray, List.set_cons_zero, List.set_cons_succ]
      refine Mask.three 13 15 16 (by kernel_rfl) rfl rfl rfl rfl rfl rfl (fun K__ hK => ?_) (fun K__ hK => ?_) (fun K__ hK => ?_)
      · -- 13: call F77[i64:0, u32:1] types#[3, 112]
        go_simp
        refine (of_any 0 1 (by decide) (by decide) _).mono ?_
        rintro e w' ⟨rfl, hw'⟩; replace hw' := hw'.symm; subst hw'
        refine hK _ _ (fun _ => ?_) ?_
        · exact hS
        clear hK K__
        try simp only [Act.put, List.setIfInBounds_toArray, List.set_cons_zero, List.set_cons_succ]
        refine Mask.three 14 15 16 (by kernel_rfl) rfl rfl rfl rfl rfl rfl (fun K__ hK => ?_) (fun K__ hK => ?_) (fun K__ hK => ?_)
        · -- 14: call F78[t115, t116] types#[38, 41]
          go_simp
          refine (look_at HL_wq1.out.wd.ar HL_wq1.out.sup (refOf 0 1) HG0.out).mono ?_
          rintro e wq2 ⟨v__, κq2, rfl, hv__, hZ, hE, hSu⟩
          rw [HN0.out] at hv__
          obtain ⟨yp, yk, yw, rfl, rp, rk, rw⟩ := hv__
          obtain ⟨ya1, yc1, rfl, _, _⟩ := rp.shape
          obtain ⟨ya2, yc2, rfl, _, _⟩ := rk.shape
          obtain ⟨ya3, yc3, rfl, _, _⟩ := rw.shape
          have HL_wq2 := Lib.hid (HL_wq1.out.later hZ hE hSu)
          have hSn := hS.trans (hZ.mono hS.size)
          clear hZ hE hSu rp rk rw
          refine hK _ _ (fun _ => ?_) ?_
          · exact hSn
          replace hS := hSn; clear hSn
          clear hK K__
          try simp only [Act.put, List.setIfInBounds_toArray, List.set_cons_zero, List.set_cons_succ]
          refine Mask.two 15 16 (by kernel_rfl) rfl rfl rfl rfl (fun K__ hK => ?_) (fun K__ hK => ?_)
          · -- 15: alloc T60
            go_simp
            generalize hG__ : wq2.alloc (.cells #[Value.bool false, Value.bool false, Value.slice none 0 0, Value.slice none 0 0, Value.slice none 0 0] 60) = wq3
            have hZ : Below wq2.heap.size wq2 wq3 := hG__ ▸ (Below.refl _ _).alloc (Nat.le_refl _) _
            have hnew : BoxAt κq2 wq3 wq2.heap.size #[Value.bool false, Value.bool false, Value.slice none 0 0, Value.slice none 0 0, Value.slice none 0 0] 60 := hG__ ▸ BoxAt.new HL_wq2.out.sup _ _
            have HL_wq3 := Lib.hid (HL_wq2.out.later hZ (Ext.refl κq2 wq2) (HL_wq2.out.sup.mono hZ.size))
            have hSn := hS.trans (hZ.mono hS.size)
            have HB1_wq3 := Lib.hid hnew
            have hge1 : W.heap.size ≤ wq2.heap.size := hS.size
            clear hG__ hZ hnew
            refine hK _ _ (fun _ => ?_) ?_
            · exact hSn
            replace hS := hSn; clear hSn
            clear hK K__
            try simp only [Act.put, List.setIfInBounds_toArray, List.set_cons_zero, List.set_cons_succ]
            -- 16: alloc T60
            refine Mask.one 16 (by kernel_rfl) rfl rfl (fun K__ hK => ?_)
            go_simp
            generalize hG__ : wq3.alloc (.cells #[Value.bool false, Value.bool false, Value.slice none 0 0, Value.slice none 0 0, Value.slice none 0 0] 60) = wq4
            have hZ : Below wq3.heap.size wq3 wq4 := hG__ ▸ (Below.refl _ _).alloc (Nat.le_refl _) _
            have hnew : BoxAt κq2 wq4 wq3.heap.size #[Value.bool false, Value.bool false, Value.slice none 0 0, Value.slice none 0 0, Value.slice none 0 0] 60 := hG__ ▸ BoxAt.new HL_wq3.out.sup _ _
            have HL_wq4 := Lib.hid (HL_wq3.out.later hZ (Ext.refl κq2 wq3) (HL_wq3.out.sup.mono hZ.size))
            have HB1_wq4 := Lib.hid (HB1_wq3.out.later hZ (Ext.refl κq2 wq3))
            have hSn := hS.trans (hZ.mono hS.size)
            have hge12 : wq2.heap.size < wq3.heap.size := lt_of_heap HB1_wq3.out.hb
            have HB2_wq4 := Lib.hid hnew
            have hge2 : W.heap.size ≤ wq3.heap.size := hS.size
            clear hG__ hZ hnew
            refine hK _ _ (fun _ => ?_) ?_
            · exact hSn
            replace hS := hSn; clear hSn
            clear hK K__
            try simp only [Act.put, List.setIfInBounds_toArray, List.set_cons_zero, List.set_cons_succ]
            -- 17: store T60 t13 t111
            refine Mask.one 17 (by kernel_rfl) rfl rfl (fun K__ hK => ?_)
            have y10 : wq4.cell? ⟨wq2.heap.size, 0, none⟩ = some (.bool false) := cellAt HB1_wq4.out.hb 0 rfl
            have y11 : wq4.cell? ⟨wq2.heap.size, 1, none⟩ = some (.bool false) := cellAt HB1_wq4.out.hb 1 rfl
            have y12 : wq4.cell? ⟨wq2.heap.size, 2, none⟩ = some (.slice none 0 0) := cellAt HB1_wq4.out.hb 2 rfl
            have y13 : wq4.cell? ⟨wq2.heap.size, 3, none⟩ = some (.slice none 0 0) := cellAt HB1_wq4.out.hb 3 rfl
            have y14 : wq4.cell? ⟨wq2.heap.size, 4, none⟩ = some (.slice none 0 0) := cellAt HB1_wq4.out.hb 4 rfl
            have yz1 : ∀ k, wq4.frozen? ⟨wq2.heap.size, k, none⟩ = false := fun k => frozen_of_heap HB1_wq4.out.hb
            have hne1 : ¬ wq2.heap.size = wq3.heap.size := by omega
            have hne2 : ¬ wq3.heap.size = wq2.heap.size := by omega
            go_simp
            refine hK _ _ (fun h => (by cases h)) ?_
            clear hK K__
            try simp only [Act.put, List.setIfInBounds_toArray, List.set_cons_zero, List.set_cons_succ]
            -- 18: store T60 t14 t117
            refine Mask.one 18 (by kernel_rfl) rfl rfl (fun K__ hK => ?_)
            have y20 : wq4.cell? ⟨wq3.heap.size, 0, none⟩ = some (.bool false) := cellAt HB2_wq4.out.hb 0 rfl
            have y21 : wq4.cell? ⟨wq3.heap.size, 1, none⟩ = some (.bool false) := cellAt HB2_wq4.out.hb 1 rfl
            have y22 : wq4.cell? ⟨wq3.heap.size, 2, none⟩ = some (.slice none 0 0) := cellAt HB2_wq4.out.hb 2 rfl
            have y23 : wq4.cell? ⟨wq3.heap.size, 3, none⟩ = some (.slice none 0 0) := cellAt HB2_wq4.out.hb 3 rfl
            have y24 : wq4.cell? ⟨wq3.heap.size, 4, none⟩ = some (.slice none 0 0) := cellAt HB2_wq4.out.hb 4 rfl
            have yz2 : ∀ k, wq4.frozen? ⟨wq3.heap.size, k, none⟩ = false := fun k => frozen_of_heap HB2_wq4.out.hb
            go_simp
            refine hK _ _ (fun h => (by cases h)) ?_
            clear hK K__
            try simp only [Act.put, List.setIfInBounds_toArray, List.set_cons_zero, List.set_cons_succ]
            refine Mask.done (by kernel_rfl) ?_ _
            go_wp2
            go_meet
            case rel =>
              have hne : wq2.heap.size ≠ wq3.heap.size := by omega
              exact ⟨wq2.heap.size, wq3.heap.size, κq2, xa1, xc1, xa2, xc2, xa3, xc3, ya1, yc1, ya2, yc2, ya3, yc3, rfl, rfl, two_nodes HL_wq4 HB1_wq4 HB2_wq4 hne (Nat.le_trans hWw hge1) (Nat.le_trans hWw hge2) _ _ _ _ _ _ _ _ _ _⟩
          · -- 16: alloc T60
            go_simp
            generalize hG__ : wq2.alloc (.cells #[Value.bool false, Value.bool false, Value.slice none 0 0, Value.slice none 0 0, Value.slice none 0 0] 60) = wq3
            have hZ : Below wq2.heap.size wq2 wq3 := hG__ ▸ (Below.refl _ _).alloc (Nat.le_refl _) _
            have hnew : BoxAt κq2 wq3 wq2.heap.size #[Value.bool false, Value.bool false, Value.slice none 0 0, Value.slice none 0 0, Value.slice none 0 0] 60 := hG__ ▸ BoxAt.new HL_wq2.out.sup _ _
            have HL_wq3 := Lib.hid (HL_wq2.out.later hZ (Ext.refl κq2 wq2) (HL_wq2.out.sup.mono hZ.size))
            have hSn := hS.trans (hZ.mono hS.size)
            have HB2_wq3 := Lib.hid hnew
            have hge2 : W.heap.size ≤ wq2.heap.size := hS.size
            clear hG__ hZ hnew
            refine hK _ _ (fun _ => ?_) ?_
            · exact hSn
            replace hS := hSn; clear hSn
            clear hK K__
            try simp only [Act.put, List.setIfInBounds_toArray, List.set_cons_zero, List.set_cons_succ]
            -- 15: alloc T60
            refine Mask.one 15 (by kernel_rfl) rfl rfl (fun K__ hK => ?_)
            go_simp
            generalize hG__ : wq3.alloc (.cells #[Value.bool false, Value.bool false, Value.slice none 0 0, Value.slice none 0 0, Value.slice none 0 0] 60) = wq4
            have hZ : Below wq3.heap.size wq3 wq4 := hG__ ▸ (Below.refl _ _).alloc (Nat.le_refl _) _
            have hnew : BoxAt κq2 wq4 wq3.heap.size #[Value.bool false, Value.bool false, Value.slice none 0 0, Value.slice none 0 0, Value.slice none 0 0] 60 := hG__ ▸ BoxAt.new HL_wq3.out.sup _ _
            have HL_wq4 := Lib.hid (HL_wq3.out.later hZ (Ext.refl κq2 wq3) (HL_wq3.out.sup.mono hZ.size))
            have HB2_wq4 := Lib.hid (HB2_wq3.out.later hZ (Ext.refl κq2 wq3))
            have hSn := hS.trans (hZ.mono hS.size)
            have hge12 : wq2.heap.size < wq3.heap.size := lt_of_heap HB2_wq3.out.hb
            have HB1_wq4 := Lib.hid hnew
            have hge1 : W.heap.size ≤ wq3.heap.size := hS.size
            clear hG__ hZ hnew
            refine hK _ _ (fun _ => ?_) ?_
            · exact hSn
            replace hS := hSn; clear hSn
            clear hK K__
            try simp only [Act.put, List.setIfInBounds_toArray, List.set_cons_zero, List.set_cons_succ]
            -- 17: store T60 t13 t111
            refine Mask.one 17 (by kernel_rfl) rfl rfl (fun K__ hK => ?_)
            have y10 : wq4.cell? ⟨wq3.heap.size, 0, none⟩ = some (.bool false) := cellAt HB1_wq4.out.hb 0 rfl
            have y11 : wq4.cell? ⟨wq3.heap.size, 1, none⟩ = some (.bool false) := cellAt HB1_wq4.out.hb 1 rfl
            have y12 : wq4.cell? ⟨wq3.heap.size, 2, none⟩ = some (.slice none 0 0) := cellAt HB1_wq4.out.hb 2 rfl
            have y13 : wq4.cell? ⟨wq3.heap.size, 3, none⟩ = some (.slice none 0 0) := cellAt HB1_wq4.out.hb 3 rfl
            have y14 : wq4.cell? ⟨wq3.heap.size, 4, none⟩ = some (.slice none 0 0) := cellAt HB1_wq4.out.hb 4 rfl
            have yz1 : ∀ k, wq4.frozen? ⟨wq3.heap.size, k, none⟩ = false := fun k => frozen_of_heap HB1_wq4.out.hb
            have hne1 : ¬ wq3.heap.size = wq2.heap.size := by omega
            have hne2 : ¬ wq2.heap.size = wq3.heap.size := by omega
            go_simp
            refine hK _ _ (fun h => (by cases h)) ?_
            clear hK K__
            try simp only [Act.put, List.setIfInBounds_toArray, List.set_cons_zero, List.set_cons_succ]
            -- 18: store T60 t14 t117
            refine Mask.one 18 (by kernel_rfl) rfl rfl (fun K__ hK => ?_)
            have y20 : wq4.cell? ⟨wq2.heap.size, 0, none⟩ = some (.bool false) := cellAt HB2_wq4.out.hb 0 rfl
            have y21 : wq4.cell? ⟨wq2.heap.size, 1, none⟩ = some (.bool false) := cellAt HB2_wq4.out.hb 1 rfl
            have y22 : wq4.cell? ⟨wq2.heap.size, 2, none⟩ = some (.slice none 0 0) := cellAt HB2_wq4.out.hb 2 rfl
            have y23 : wq4.cell? ⟨wq2.heap.size, 3, none⟩ = some (.slice none 0 0) := cellAt HB2_wq4.out.hb 3 rfl
            have y24 : wq4.cell? ⟨wq2.heap.size, 4, none⟩ = some (.slice none 0 0) := cellAt HB2_wq4.out.hb 4 rfl
            have yz2 : ∀ k, wq4.frozen? ⟨wq2.heap.size, k, none⟩ = false := fun k => frozen_of_heap HB2_wq4.out.hb
            go_simp
            refine hK _ _ (fun h => (by cases h)) ?_
            clear hK K__
            try simp only [Act.put, List.setIfInBounds_toArray, List.set_cons_zero, List.set_cons_succ]
            refine Mask.done (by kernel_rfl) ?_ _
            go_wp2
            go_meet
            case rel =>
              have hne : wq3.heap.size ≠ wq2.heap.size := by omega
              exact ⟨wq3.heap.size, wq2.heap.size, κq2, xa1, xc1, xa2, xc2, xa3, xc3, ya1, yc1, ya2, yc2, ya3, yc3, rfl, rfl, two_nodes HL_wq4 HB1_wq4 HB2_wq4 hne (Nat.le_trans hWw hge1) (Nat.le_trans hWw hge2) _ _ _ _ _ _ _ _ _ _⟩
        · -- 15: alloc T60
          go_simp
          generalize hG__ : wq1.alloc (.cells #[Value.bool false, Value.bool false, Value.slice none 0 0, Value.slice none 0 0, Value.slice none 0 0] 60) = wq2
          have hZ : Below wq1.heap.size wq1 wq2 := hG__ ▸ (Below.refl _ _).alloc (Nat.le_refl _) _
          have hnew : BoxAt κq1 wq2 wq1.heap.size #[Value.bool false, Value.bool false, Value.slice none 0 0, Value.slice none 0 0, Value.slice none 0 0] 60 := hG__ ▸ BoxAt.new HL_wq1.out.sup _ _
          have HL_wq2 := Lib.hid (HL_wq1.out.later hZ (Ext.refl κq1 wq1) (HL_wq1.out.sup.mono hZ.size))
          have hSn := hS.trans (hZ.mono hS.size)
          have HB1_wq2 := Lib.hid hnew
          have hge1 : W.heap.size ≤ wq1.heap.size := hS.size
          clear hG__ hZ hnew
          refine hK _ _ (fun _ => ?_) ?_
          · exact hSn
          replace hS := hSn; clear hSn
          clear hK K__
          try simp only [Act.put, List.setIfInBounds_toArray, List.set_cons_zero, List.set_cons_succ]
          refine Mask.two 14 16 (by kernel_rfl) rfl rfl rfl rfl (fun K__ hK => ?_) (fun K__ hK => ?_)
          · -- 14: call F78[t115, t116] types#[38, 41]
            go_simp
            refine (look_at HL_wq2.out.wd.ar HL_wq2.out.sup (refOf 0 1) HG0.out).mono ?_
            rintro e wq3 ⟨v__, κq3, rfl, hv__, hZ, hE, hSu⟩
            rw [HN0.out] at hv__
            obtain ⟨yp, yk, yw, rfl, rp, rk, rw⟩ := hv__
            obtain ⟨ya1, yc1, rfl, _, _⟩ := rp.shape
            obtain ⟨ya2, yc2, rfl, _, _⟩ := rk.shape
            obtain ⟨ya3, yc3, rfl, _, _⟩ := rw.shape
            have HL_wq3 := Lib.hid (HL_wq2.out.later hZ hE hSu)
            have HB1_wq3 := Lib.hid (HB1_wq2.out.later hZ hE)
            have hSn := hS.trans (hZ.mono hS.size)
            clear hZ hE hSu rp rk rw
            refine hK _ _ (fun _ => ?_) ?_
            · exact hSn
            replace hS := hSn; clear hSn
            clear hK K__
            try simp only [Act.put, List.setIfInBounds_toArray, List.set_cons_zero, List.set_cons_succ]
            -- 16: alloc T60
            refine Mask.one 16 (by kernel_rfl) rfl rfl (fun K__ hK => ?_)
            go_simp
            generalize hG__ : wq3.alloc (.cells #[Value.bool false, Value.bool false, Value.slice none 0 0, Value.slice none 0 0, Value.slice none 0 0] 60) = wq4
            have hZ : Below wq3.heap.size wq3 wq4 := hG__ ▸ (Below.refl _ _).alloc (Nat.le_refl _) _
            have hnew : BoxAt κq3 wq4 wq3.heap.size #[Value.bool false, Value.bool false, Value.slice none 0 0, Value.slice none 0 0, Value.slice none 0 0] 60 := hG__ ▸ BoxAt.new HL_wq3.out.sup _ _
            have HL_wq4 := Lib.hid (HL_wq3.out.later hZ (Ext.refl κq3 wq3) (HL_wq3.out.sup.mono hZ.size))
            have HB1_wq4 := Lib.hid (HB1_wq3.out.later hZ (Ext.refl κq3 wq3))
            have hSn := hS.trans (hZ.mono hS.size)
            have hge12 : wq1.heap.size < wq3.heap.size := lt_of_heap HB1_wq3.out.hb
            have HB2_wq4 := Lib.hid hnew
            have hge2 : W.heap.size ≤ wq3.heap.size := hS.size
            clear hG__ hZ hnew
            refine hK _ _ (fun _ => ?_) ?_
            · exact hSn
            replace hS := hSn; clear hSn
            clear hK K__
            try simp only [Act.put, List.setIfInBounds_toArray, List.set_cons_zero, List.set_cons_succ]
            -- 17: store T60 t13 t111
            refine Mask.one 17 (by kernel_rfl) rfl rfl (fun K__ hK => ?_)
            have y10 : wq4.cell? ⟨wq1.heap.size, 0, none⟩ = some (.bool false) := cellAt HB1_wq4.out.hb 0 rfl
            have y11 : wq4.cell? ⟨wq1.heap.size, 1, none⟩ = some (.bool false) := cellAt HB1_wq4.out.hb 1 rfl
            have y12 : wq4.cell? ⟨wq1.heap.size, 2, none⟩ = some (.slice none 0 0) := cellAt HB1_wq4.out.hb 2 rfl
            have y13 : wq4.cell? ⟨wq1.heap.size, 3, none⟩ = some (.slice none 0 0) := cellAt HB1_wq4.out.hb 3 rfl
            have y14 : wq4.cell? ⟨wq1.heap.size, 4, none⟩ = some (.slice none 0 0) := cellAt HB1_wq4.out.hb 4 rfl
            have yz1 : ∀ k, wq4.frozen? ⟨wq1.heap.size, k, none⟩ = false := fun k => frozen_of_heap HB1_wq4.out.hb
            have hne1 : ¬ wq1.heap.size = wq3.heap.size := by omega
            have hne2 : ¬ wq3.heap.size = wq1.heap.size := by omega
            go_simp
            refine hK _ _ (fun h => (by cases h)) ?_
            clear hK K__
            try simp only [Act.put, List.setIfInBounds_toArray, List.set_cons_zero, List.set_cons_succ]
            -- 18: store T60 t14 t117
            refine Mask.one 18 (by kernel_rfl) rfl rfl (fun K__ hK => ?_)
            have y20 : wq4.cell? ⟨wq3.heap.size, 0, none⟩ = some (.bool false) := cellAt HB2_wq4.out.hb 0 rfl
            have y21 : wq4.cell? ⟨wq3.heap.size, 1, none⟩ = some (.bool false) := cellAt HB2_wq4.out.hb 1 rfl
            have y22 : wq4.cell? ⟨wq3.heap.size, 2, none⟩ = some (.slice none 0 0) := cellAt HB2_wq4.out.hb 2 rfl
            have y23 : wq4.cell? ⟨wq3.heap.size, 3, none⟩ = some (.slice none 0 0) := cellAt HB2_wq4.out.hb 3 rfl
            have y24 : wq4.cell? ⟨wq3.heap.size, 4, none⟩ = some (.slice none 0 0) := cellAt HB2_wq4.out.hb 4 rfl
            have yz2 : ∀ k, wq4.frozen? ⟨wq3.heap.size, k, none⟩ = false := fun k => frozen_of_heap HB2_wq4.out.hb
            go_simp
            refine hK _ _ (fun h => (by cases h)) ?_
            clear hK K__
            try simp only [Act.put, List.setIfInBounds_toArray, List.set_cons_zero, List.set_cons_succ]
            refine Mask.done (by kernel_rfl) ?_ _
            go_wp2
            go_meet
            case rel =>
              have hne : wq1.heap.size ≠ wq3.heap.size := by omega
              exact ⟨wq1.heap.size, wq3.heap.size, κq3, xa1, xc1, xa2, xc2, xa3, xc3, ya1, yc1, ya2, yc2, ya3, yc3, rfl, rfl, two_nodes HL_wq4 HB1_wq4 HB2_wq4 hne (Nat.le_trans hWw hge1) (Nat.le_trans hWw hge2) _ _ _ _ _ _ _ _ _ _⟩
          · -- 16: alloc T60
            go_simp
            generalize hG__ : wq2.alloc (.cells #[Value.bool false, Value.bool false, Value.slice none 0 0, Value.slice none 0 0, Value.slice none 0 0] 60) = wq3
            have hZ : Below wq2.heap.size wq2 wq3 := hG__ ▸ (Below.refl _ _).alloc (Nat.le_refl _) _
            have hnew : BoxAt κq1 wq3 wq2.heap.size #[Value.bool false, Value.bool false, Value.slice none 0 0, Value.slice none 0 0, Value.slice none 0 0] 60 := hG__ ▸ BoxAt.new HL_wq2.out.sup _ _
            have HL_wq3 := Lib.hid (HL_wq2.out.later hZ (Ext.refl κq1 wq2) (HL_wq2.out.sup.mono hZ.size))
            have HB1_wq3 := Lib.hid (HB1_wq2.out.later hZ (Ext.refl κq1 wq2))
            have hSn := hS.trans (hZ.mono hS.size)
            have hge12 : wq1.heap.size < wq2.heap.size := lt_of_heap HB1_wq2.out.hb
            have HB2_wq3 := Lib.hid hnew
            have hge2 : W.heap.size ≤ wq2.heap.size := hS.size
            clear hG__ hZ hnew
            refine hK _ _ (fun _ => ?_) ?_
            · exact hSn
            replace hS := hSn; clear hSn
            clear hK K__
            try simp only [Act.put, List.setIfInBounds_toArray, List.set_cons_zero, List.set_cons_succ]
            -- 14: call F78[t115, t116] types#[38, 41]
            refine Mask.one 14 (by kernel_rfl) rfl rfl (fun K__ hK => ?_)
            go_simp
            refine (look_at HL_wq3.out.wd.ar HL_wq3.out.sup (refOf 0 1) HG0.out).mono ?_
            rintro e wq4 ⟨v__, κq4, rfl, hv__, hZ, hE, hSu⟩
            rw [HN0.out] at hv__
            obtain ⟨yp, yk, yw, rfl, rp, rk, rw⟩ := hv__
            obtain ⟨ya1, yc1, rfl, _, _⟩ := rp.shape
            obtain ⟨ya2, yc2, rfl, _, _⟩ := rk.shape
            obtain ⟨ya3, yc3, rfl, _, _⟩ := rw.shape
            have HL_wq4 := Lib.hid (HL_wq3.out.later hZ hE hSu)
            have HB1_wq4 := Lib.hid (HB1_wq3.out.later hZ hE)
            have HB2_wq4 := Lib.hid (HB2_wq3.out.later hZ hE)
            have hSn := hS.trans (hZ.mono hS.size)
            clear hZ hE hSu rp rk rw
            refine hK _ _ (fun _ => ?_) ?_
            · exact hSn
            replace hS := hSn; clear hSn
            clear hK K__
            try simp only [Act.put, List.setIfInBounds_toArray, List.set_cons_zero, List.set_cons_succ]
            -- 17: store T60 t13 t111
            refine Mask.one 17 (by kernel_rfl) rfl rfl (fun K__ hK => ?_)
            have y10 : wq4.cell? ⟨wq1.heap.size, 0, none⟩ = some (.bool false) := cellAt HB1_wq4.out.hb 0 rfl
            have y11 : wq4.cell? ⟨wq1.heap.size, 1, none⟩ = some (.bool false) := cellAt HB1_wq4.out.hb 1 rfl
            have y12 : wq4.cell? ⟨wq1.heap.size, 2, none⟩ = some (.slice none 0 0) := cellAt HB1_wq4.out.hb 2 rfl
            have y13 : wq4.cell? ⟨wq1.heap.size, 3, none⟩ = some (.slice none 0 0) := cellAt HB1_wq4.out.hb 3 rfl
            have y14 : wq4.cell? ⟨wq1.heap.size, 4, none⟩ = some (.slice none 0 0) := cellAt HB1_wq4.out.hb 4 rfl
            have yz1 : ∀ k, wq4.frozen? ⟨wq1.heap.size, k, none⟩ = false := fun k => frozen_of_heap HB1_wq4.out.hb
            have hne1 : ¬ wq1.heap.size = wq2.heap.size := by omega
            have hne2 : ¬ wq2.heap.size = wq1.heap.size := by omega
            go_simp
            refine hK _ _ (fun h => (by cases h)) ?_
            clear hK K__
            try simp only [Act.put, List.setIfInBounds_toArray, List.set_cons_zero, List.set_cons_succ]
            -- 18: store T60 t14 t117
            refine Mask.one 18 (by kernel_rfl) rfl rfl (fun K__ hK => ?_)
            have y20 : wq4.cell? ⟨wq2.heap.size, 0, none⟩ = some (.bool false) := cellAt HB2_wq4.out.hb 0 rfl
            have y21 : wq4.cell? ⟨wq2.heap.size, 1, none⟩ = some (.bool false) := cellAt HB2_wq4.out.hb 1 rfl
            have y22 : wq4.cell? ⟨wq2.heap.size, 2, none⟩ = some (.slice none 0 0) := cellAt HB2_wq4.out.hb 2 rfl
            have y23 : wq4.cell? ⟨wq2.heap.size, 3, none⟩ = some (.slice none 0 0) := cellAt HB2_wq4.out.hb 3 rfl
            have y24 : wq4.cell? ⟨wq2.heap.size, 4, none⟩ = some (.slice none 0 0) := cellAt HB2_wq4.out.hb 4 rfl
            have yz2 : ∀ k, wq4.frozen? ⟨wq2.heap.size, k, none⟩ = false := fun k => frozen_of_heap HB2_wq4.out.hb
            go_simp
            refine hK _ _ (fun h => (by cases h)) ?_
            clear hK K__
            try simp only [Act.put, List.setIfInBounds_toArray, List.set_cons_zero, List.set_cons_succ]
            refine Mask.done (by kernel_rfl) ?_ _
            go_wp2
            go_meet
            case rel =>
              have hne : wq1.heap.size ≠ wq2.heap.size := by omega
              exact ⟨wq1.heap.size, wq2.heap.size, κq4, xa1, xc1, xa2, xc2, xa3, xc3, ya1, yc1, ya2, yc2, ya3, yc3, rfl, rfl, two_nodes HL_wq4 HB1_wq4 HB2_wq4 hne (Nat.le_trans hWw hge1) (Nat.le_trans hWw hge2) _ _ _ _ _ _ _ _ _ _⟩
        · -- 16: alloc T60
          go_simp
          generalize hG__ : wq1.alloc (.cells #[Value.bool false, Value.bool false, Value.slice none 0 0, Value.slice none 0 0, Value.slice none 0 0] 60) = wq2
          have hZ : Below wq1.heap.size wq1 wq2 := hG__ ▸ (Below.refl _ _).alloc (Nat.le_refl _) _
          have hnew : BoxAt κq1 wq2 wq1.heap.size #[Value.bool false, Value.bool false, Value.slice none 0 0, Value.slice none 0 0, Value.slice none 0 0] 60 := hG__ ▸ BoxAt.new HL_wq1.out.sup _ _
          have HL_wq2 := Lib.hid (HL_wq1.out.later hZ (Ext.refl κq1 wq1) (HL_wq1.out.sup.mono hZ.size))
          have hSn := hS.trans (hZ.mono hS.size)
          have HB2_wq2 := Lib.hid hnew
          have hge2 : W.heap.size ≤ wq1.heap.size := hS.size
          clear hG__ hZ hnew
          refine hK _ _ (fun _ => ?_) ?_
          · exact hSn
          replace hS := hSn; clear hSn
          clear hK K__
          try simp only [Act.put, List.setIfInBounds_toArray, List.set_cons_zero, List.set_cons_succ]
          refine Mask.two 14 15 (by kernel_rfl) rfl rfl rfl rfl (fun K__ hK => ?_) (fun K__ hK => ?_)
          · -- 14: call F78[t115, t116] types#[38, 41]
            go_simp
            refine (look_at HL_wq2.out.wd.ar HL_wq2.out.sup (refOf 0 1) HG0.out).mono ?_
            rintro e wq3 ⟨v__, κq3, rfl, hv__, hZ, hE, hSu⟩
            rw [HN0.out] at hv__
            obtain ⟨yp, yk, yw, rfl, rp, rk, rw⟩ := hv__
            obtain ⟨ya1, yc1, rfl, _, _⟩ := rp.shape
            obtain ⟨ya2, yc2, rfl, _, _⟩ := rk.shape
            obtain ⟨ya3, yc3, rfl, _, _⟩ := rw.shape
            have HL_wq3 := Lib.hid (HL_wq2.out.later hZ hE hSu)
            have HB2_wq3 := Lib.hid (HB2_wq2.out.later hZ hE)
            have hSn := hS.trans (hZ.mono hS.size)
            clear hZ hE hSu rp rk rw
            refine hK _ _ (fun _ => ?_) ?_
            · exact hSn
            replace hS := hSn; clear hSn
            clear hK K__
            try simp only [Act.put, List.setIfInBounds_toArray, List.set_cons_zero, List.set_cons_succ]
            -- 15: alloc T60
            refine Mask.one 15 (by kernel_rfl) rfl rfl (fun K__ hK => ?_)
            go_simp
            generalize hG__ : wq3.alloc (.cells #[Value.bool false, Value.bool false, Value.slice none 0 0, Value.slice none 0 0, Value.slice none 0 0] 60) = wq4
            have hZ : Below wq3.heap.size wq3 wq4 := hG__ ▸ (Below.refl _ _).alloc (Nat.le_refl _) _
            have hnew : BoxAt κq3 wq4 wq3.heap.size #[Value.bool false, Value.bool false, Value.slice none 0 0, Value.slice none 0 0, Value.slice none 0 0] 60 := hG__ ▸ BoxAt.new HL_wq3.out.sup _ _
            have HL_wq4 := Lib.hid (HL_wq3.out.later hZ (Ext.refl κq3 wq3) (HL_wq3.out.sup.mono hZ.size))
            have HB2_wq4 := Lib.hid (HB2_wq3.out.later hZ (Ext.refl κq3 wq3))
            have hSn := hS.trans (hZ.mono hS.size)
            have hge12 : wq1.heap.size < wq3.heap.size := lt_of_heap HB2_wq3.out.hb
            have HB1_wq4 := Lib.hid hnew
            have hge1 : W.heap.size ≤ wq3.heap.size := hS.size
            clear hG__ hZ hnew
            refine hK _ _ (fun _ => ?_) ?_
            · exact hSn
            replace hS := hSn; clear hSn
            clear hK K__
            try simp only [Act.put, List.setIfInBounds_toArray, List.set_cons_zero, List.set_cons_succ]
            -- 17: store T60 t13 t111
            refine Mask.one 17 (by kernel_rfl) rfl rfl (fun K__ hK => ?_)
            have y10 : wq4.cell? ⟨wq3.heap.size, 0, none⟩ = some (.bool false) := cellAt HB1_wq4.out.hb 0 rfl
            have y11 : wq4.cell? ⟨wq3.heap.size, 1, none⟩ = some (.bool false) := cellAt HB1_wq4.out.hb 1 rfl
            have y12 : wq4.cell? ⟨wq3.heap.size, 2, none⟩ = some (.slice none 0 0) := cellAt HB1_wq4.out.hb 2 rfl
            have y13 : wq4.cell? ⟨wq3.heap.size, 3, none⟩ = some (.slice none 0 0) := cellAt HB1_wq4.out.hb 3 rfl
            have y14 : wq4.cell? ⟨wq3.heap.size, 4, none⟩ = some (.slice none 0 0) := cellAt HB1_wq4.out.hb 4 rfl
            have yz1 : ∀ k, wq4.frozen? ⟨wq3.heap.size, k, none⟩ = false := fun k => frozen_of_heap HB1_wq4.out.hb
            have hne1 : ¬ wq3.heap.size = wq1.heap.size := by omega
            have hne2 : ¬ wq1.heap.size = wq3.heap.size := by omega
            go_simp
            refine hK _ _ (fun h => (by cases h)) ?_
            clear hK K__
            try simp only [Act.put, List.setIfInBounds_toArray, List.set_cons_zero, List.set_cons_succ]
            -- 18: store T60 t14 t117
            refine Mask.one 18 (by kernel_rfl) rfl rfl (fun K__ hK => ?_)
            have y20 : wq4.cell? ⟨wq1.heap.size, 0, none⟩ = some (.bool false) := cellAt HB2_wq4.out.hb 0 rfl
            have y21 : wq4.cell? ⟨wq1.heap.size, 1, none⟩ = some (.bool false) := cellAt HB2_wq4.out.hb 1 rfl
            have y22 : wq4.cell? ⟨wq1.heap.size, 2, none⟩ = some (.slice none 0 0) := cellAt HB2_wq4.out.hb 2 rfl
            have y23 : wq4.cell? ⟨wq1.heap.size, 3, none⟩ = some (.slice none 0 0) := cellAt HB2_wq4.out.hb 3 rfl
            have y24 : wq4.cell? ⟨wq1.heap.size, 4, none⟩ = some (.slice none 0 0) := cellAt HB2_wq4.out.hb 4 rfl
            have yz2 : ∀ k, wq4.frozen? ⟨wq1.heap.size, k, none⟩ = false := fun k => frozen_of_heap HB2_wq4.out.hb
            go_simp
            refine hK _ _ (fun h => (by cases h)) ?_
            clear hK K__
            try simp only [Act.put, List.setIfInBounds_toArray, List.set_cons_zero, List.set_cons_succ]
            refine Mask.done (by kernel_rfl) ?_ _
            go_wp2
            go_meet
            case rel =>
              have hne : wq3.heap.size ≠ wq1.heap.size := by omega
              exact ⟨wq3.heap.size, wq1.heap.size, κq3, xa1, xc1, xa2, xc2, xa3, xc3, ya1, yc1, ya2, yc2, ya3, yc3, rfl, rfl, two_nodes HL_wq4 HB1_wq4 HB2_wq4 hne (Nat.le_trans hWw hge1) (Nat.le_trans hWw hge2) _ _ _ _ _ _ _ _ _ _⟩
          · -- 15: alloc T60
            go_simp
            generalize hG__ : wq2.alloc (.cells #[Value.bool false, Value.bool false, Value.slice none 0 0, Value.slice none 0 0, Value.slice none 0 0] 60) = wq3
            have hZ : Below wq2.heap.size wq2 wq3 := hG__ ▸ (Below.refl _ _).alloc (Nat.le_refl _) _
            have hnew : BoxAt κq1 wq3 wq2.heap.size #[Value.bool false, Value.bool false, Value.slice none 0 0, Value.slice none 0 0, Value.slice none 0 0] 60 := hG__ ▸ BoxAt.new HL_wq2.out.sup _ _
            have HL_wq3 := Lib.hid (HL_wq2.out.later hZ (Ext.refl κq1 wq2) (HL_wq2.out.sup.mono hZ.size))
            have HB2_wq3 := Lib.hid (HB2_wq2.out.later hZ (Ext.refl κq1 wq2))
            have hSn := hS.trans (hZ.mono hS.size)
            have hge12 : wq1.heap.size < wq2.heap.size := lt_of_heap HB2_wq2.out.hb
            have HB1_wq3 := Lib.hid hnew
            have hge1 : W.heap.size ≤ wq2.heap.size := hS.size
            clear hG__ hZ hnew
            refine hK _ _ (fun _ => ?_) ?_
            · exact hSn
            replace hS := hSn; clear hSn
            clear hK K__
            try simp only [Act.put, List.setIfInBounds_toArray, List.set_cons_zero, List.set_cons_succ]
            -- 14: call F78[t115, t116] types#[38, 41]
            refine Mask.one 14 (by kernel_rfl) rfl rfl (fun K__ hK => ?_)
            go_simp
            refine (look_at HL_wq3.out.wd.ar HL_wq3.out.sup (refOf 0 1) HG0.out).mono ?_
            rintro e wq4 ⟨v__, κq4, rfl, hv__, hZ, hE, hSu⟩
            rw [HN0.out] at hv__
            obtain ⟨yp, yk, yw, rfl, rp, rk, rw⟩ := hv__
            obtain ⟨ya1, yc1, rfl, _, _⟩ := rp.shape
            obtain ⟨ya2, yc2, rfl, _, _⟩ := rk.shape
            obtain ⟨ya3, yc3, rfl, _, _⟩ := rw.shape
            have HL_wq4 := Lib.hid (HL_wq3.out.later hZ hE hSu)
            have HB2_wq4 := Lib.hid (HB2_wq3.out.later hZ hE)
            have HB1_wq4 := Lib.hid (HB1_wq3.out.later hZ hE)
            have hSn := hS.trans (hZ.mono hS.size)
            clear hZ hE hSu rp rk rw
            refine hK _ _ (fun _ => ?_) ?_
            · exact hSn
            replace hS := hSn; clear hSn
            clear hK K__
            try simp only [Act.put, List.setIfInBounds_toArray, List.set_cons_zero, List.set_cons_succ]
            -- 17: store T60 t13 t111
            refine Mask.one 17 (by kernel_rfl) rfl rfl (fun K__ hK => ?_)
            have y10 : wq4.cell? ⟨wq2.heap.size, 0, none⟩ = some (.bool false) := cellAt HB1_wq4.out.hb 0 rfl
            have y11 : wq4.cell? ⟨wq2.heap.size, 1, none⟩ = some (.bool false) := cellAt HB1_wq4.out.hb 1 rfl
            have y12 : wq4.cell? ⟨wq2.heap.size, 2, none⟩ = some (.slice none 0 0) := cellAt HB1_wq4.out.hb 2 rfl
            have y13 : wq4.cell? ⟨wq2.heap.size, 3, none⟩ = some (.slice none 0 0) := cellAt HB1_wq4.out.hb 3 rfl
            have y14 : wq4.cell? ⟨wq2.heap.size, 4, none⟩ = some (.slice none 0 0) := cellAt HB1_wq4.out.hb 4 rfl
            have yz1 : ∀ k, wq4.frozen? ⟨wq2.heap.size, k, none⟩ = false := fun k => frozen_of_heap HB1_wq4.out.hb
            have hne1 : ¬ wq2.heap.size = wq1.heap.size := by omega
            have hne2 : ¬ wq1.heap.size = wq2.heap.size := by omega
            go_simp
            refine hK _ _ (fun h => (by cases h)) ?_
            clear hK K__
            try simp only [Act.put, List.setIfInBounds_toArray, List.set_cons_zero, List.set_cons_succ]
            -- 18: store T60 t14 t117
            refine Mask.one 18 (by kernel_rfl) rfl rfl (fun K__ hK => ?_)
            have y20 : wq4.cell? ⟨wq1.heap.size, 0, none⟩ = some (.bool false) := cellAt HB2_wq4.out.hb 0 rfl
            have y21 : wq4.cell? ⟨wq1.heap.size, 1, none⟩ = some (.bool false) := cellAt HB2_wq4.out.hb 1 rfl
            have y22 : wq4.cell? ⟨wq1.heap.size, 2, none⟩ = some (.slice none 0 0) := cellAt HB2_wq4.out.hb 2 rfl
            have y23 : wq4.cell? ⟨wq1.heap.size, 3, none⟩ = some (.slice none 0 0) := cellAt HB2_wq4.out.hb 3 rfl
            have y24 : wq4.cell? ⟨wq1.heap.size, 4, none⟩ = some (.slice none 0 0) := cellAt HB2_wq4.out.hb 4 rfl
            have yz2 : ∀ k, wq4.frozen? ⟨wq1.heap.size, k, none⟩ = false := fun k => frozen_of_heap HB2_wq4.out.hb
            go_simp
            refine hK _ _ (fun h => (by cases h)) ?_
            clear hK K__
            try simp only [Act.put, List.setIfInBounds_toArray, List.set_cons_zero, List.set_cons_succ]
            refine Mask.done (by kernel_rfl) ?_ _
            go_wp2
            go_meet
            case rel =>
              have hne : wq2.heap.size ≠ wq1.heap.size := by omega
              exact ⟨wq2.heap.size, wq1.heap.size, κq4, xa1, xc1, xa2, xc2, xa3, xc3, ya1, yc1, ya2, yc2, ya3, yc3, rfl, rfl, two_nodes HL_wq4 HB1_wq4 HB2_wq4 hne (Nat.le_trans hWw hge1) (Nat.le_trans hWw hge2) _ _ _ _ _ _ _ _ _ _⟩
      · -- 15: alloc T60
        go_simp
        generalize hG__ : wq1.alloc (.cells #[Value.bool false, Value.bool false, Value.slice none 0 0, Value.slice none 0 0, Value.slice none 0 0] 60) = wq2
        have hZ : Below wq1.heap.size wq1 wq2 := hG__ ▸ (Below.refl _ _).alloc (Nat.le_refl _) _
        have hnew : BoxAt κq1 wq2 wq1.heap.size #[Value.bool false, Value.bool false, Value.slice none 0 0, Value.slice none 0 0, Value.slice none 0 0] 60 := hG__ ▸ BoxAt.new HL_wq1.out.sup _ _
        have HL_wq2 := Lib.hid (HL_wq1.out.later hZ (Ext.refl κq1 wq1) (HL_wq1.out.sup.mono hZ.size))
        have hSn := hS.trans (hZ.mono hS.size)
        have HB1_wq2 := Lib.hid hnew
        have hge1 : W.heap.size ≤ wq1.heap.size := hS.size
        clear hG__ hZ hnew
        refine hK _ _ (fun _ => ?_) ?_
        · exact hSn
        replace hS := hSn; clear hSn
        clear hK K__
        try simp only [Act.put, List.setIfInBounds_toArray, List.set_cons_zero, List.set_cons_succ]
        refine Mask.two 13 16 (by kernel_rfl) rfl rfl rfl rfl (fun K__ hK => ?_) (fun K__ hK => ?_)
        · -- 13: call F77[i64:0, u32:1] types#[3, 112]
          go_simp
          refine (of_any 0 1 (by decide) (by decide) _).mono ?_
          rintro e w' ⟨rfl, hw'⟩; replace hw' := hw'.symm; subst hw'
          refine hK _ _ (fun _ => ?_) ?_
          · exact hS
          clear hK K__
          try simp only [Act.put, List.setIfInBounds_toArray, List.set_cons_zero, List.set_cons_succ]
          refine Mask.two 14 16 (by kernel_rfl) rfl rfl rfl rfl (fun K__ hK => ?_) (fun K__ hK => ?_)
          · -- 14: call F78[t115, t116] types#[38, 41]
            go_simp
            refine (look_at HL_wq2.out.wd.ar HL_wq2.out.sup (refOf 0 1) HG0.out).mono ?_
            rintro e wq3 ⟨v__, κq3, rfl, hv__, hZ, hE, hSu⟩
            rw [HN0.out] at hv__
            obtain ⟨yp, yk, yw, rfl, rp, rk, rw⟩ := hv__
            obtain ⟨ya1, yc1, rfl, _, _⟩ := rp.shape
            obtain ⟨ya2, yc2, rfl, _, _⟩ := rk.shape
            obtain ⟨ya3, yc3, rfl, _, _⟩ := rw.shape
            have HL_wq3 := Lib.hid (HL_wq2.out.later hZ hE hSu)
            have HB1_wq3 := Lib.hid (HB1_wq2.out.later hZ hE)
            have hSn := hS.trans (hZ.mono hS.size)
            clear hZ hE hSu rp rk rw
            refine hK _ _ (fun _ => ?_) ?_
            · exact hSn
            replace hS := hSn; clear hSn
            clear hK K__
            try simp only [Act.put, List.setIfInBounds_toArray, List.set_cons_zero, List.set_cons_succ]
            -- 16: alloc T60
            refine Mask.one 16 (by kernel_rfl) rfl rfl (fun K__ hK => ?_)
            go_simp
            generalize hG__ : wq3.alloc (.cells #[Value.bool false, Value.bool false, Value.slice none 0 0, Value.slice none 0 0, Value.slice none 0 0] 60) = wq4
            have hZ : Below wq3.heap.size wq3 wq4 := hG__ ▸ (Below.refl _ _).alloc (Nat.le_refl _) _
            have hnew : BoxAt κq3 wq4 wq3.heap.size #[Value.bool false, Value.bool false, Value.slice none 0 0, Value.slice none 0 0, Value.slice none 0 0] 60 := hG__ ▸ BoxAt.new HL_wq3.out.sup _ _
            have HL_wq4 := Lib.hid (HL_wq3.out.later hZ (Ext.refl κq3 wq3) (HL_wq3.out.sup.mono hZ.size))
            have HB1_wq4 := Lib.hid (HB1_wq3.out.later hZ (Ext.refl κq3 wq3))
            have hSn := hS.trans (hZ.mono hS.size)
            have hge12 : wq1.heap.size < wq3.heap.size := lt_of_heap HB1_wq3.out.hb
            have HB2_wq4 := Lib.hid hnew
            have hge2 : W.heap.size ≤ wq3.heap.size := hS.size
            clear hG__ hZ hnew
            refine hK _ _ (fun _ => ?_) ?_
            · exact hSn
            replace hS := hSn; clear hSn
            clear hK K__
            try simp only [Act.put, List.setIfInBounds_toArray, List.set_cons_zero, List.set_cons_succ]
            -- 17: store T60 t13 t111
            refine Mask.one 17 (by kernel_rfl) rfl rfl (fun K__ hK => ?_)
            have y10 : wq4.cell? ⟨wq1.heap.size, 0, none⟩ = some (.bool false) := cellAt HB1_wq4.out.hb 0 rfl
            have y11 : wq4.cell? ⟨wq1.heap.size, 1, none⟩ = some (.bool false) := cellAt HB1_wq4.out.hb 1 rfl
            have y12 : wq4.cell? ⟨wq1.heap.size, 2, none⟩ = some (.slice none 0 0) := cellAt HB1_wq4.out.hb 2 rfl
            have y13 : wq4.cell? ⟨wq1.heap.size, 3, none⟩ = some (.slice none 0 0) := cellAt HB1_wq4.out.hb 3 rfl
            have y14 : wq4.cell? ⟨wq1.heap.size, 4, none⟩ = some (.slice none 0 0) := cellAt HB1_wq4.out.hb 4 rfl
            have yz1 : ∀ k, wq4.frozen? ⟨wq1.heap.size, k, none⟩ = false := fun k => frozen_of_heap HB1_wq4.out.hb
            have hne1 : ¬ wq1.heap.size = wq3.heap.size := by omega
            have hne2 : ¬ wq3.heap.size = wq1.heap.size := by omega
            go_simp
            refine hK _ _ (fun h => (by cases h)) ?_
            clear hK K__
            try simp only [Act.put, List.setIfInBounds_toArray, List.set_cons_zero, List.set_cons_succ]
            -- 18: store T60 t14 t117
            refine Mask.one 18 (by kernel_rfl) rfl rfl (fun K__ hK => ?_)
            have y20 : wq4.cell? ⟨wq3.heap.size, 0, none⟩ = some (.bool false) := cellAt HB2_wq4.out.hb 0 rfl
            have y21 : wq4.cell? ⟨wq3.heap.size, 1, none⟩ = some (.bool false) := cellAt HB2_wq4.out.hb 1 rfl
            have y22 : wq4.cell? ⟨wq3.heap.size, 2, none⟩ = some (.slice none 0 0) := cellAt HB2_wq4.out.hb 2 rfl
            have y23 : wq4.cell? ⟨wq3.heap.size, 3, none⟩ = some (.slice none 0 0) := cellAt HB2_wq4.out.hb 3 rfl
            have y24 : wq4.cell? ⟨wq3.heap.size, 4, none⟩ = some (.slice none 0 0) := cellAt HB2_wq4.out.hb 4 rfl
            have yz2 : ∀ k, wq4.frozen? ⟨wq3.heap.size, k, none⟩ = false := fun k => frozen_of_heap HB2_wq4.out.hb
            go_simp
            refine hK _ _ (fun h => (by cases h)) ?_
            clear hK K__
            try simp only [Act.put, List.setIfInBounds_toArray, List.set_cons_zero, List.set_cons_succ]
            refine Mask.done (by kernel_rfl) ?_ _
            go_wp2
            go_meet
            case rel =>
              have hne : wq1.heap.size ≠ wq3.heap.size := by omega
              exact ⟨wq1.heap.size, wq3.heap.size, κq3, xa1, xc1, xa2, xc2, xa3, xc3, ya1, yc1, ya2, yc2, ya3, yc3, rfl, rfl, two_nodes HL_wq4 HB1_wq4 HB2_wq4 hne (Nat.le_trans hWw hge1) (Nat.le_trans hWw hge2) _ _ _ _ _ _ _ _ _ _⟩
          · -- 16: alloc T60
            go_simp
            generalize hG__ : wq2.alloc (.cells #[Value.bool false, Value.bool false, Value.slice none 0 0, Value.slice none 0 0, Value.slice none 0 0] 60) = wq3
            have hZ : Below wq2.heap.size wq2 wq3 := hG__ ▸ (Below.refl _ _).alloc (Nat.le_refl _) _
            have hnew : BoxAt κq1 wq3 wq2.heap.size #[Value.bool false, Value.bool false, Value.slice none 0 0, Value.slice none 0 0, Value.slice none 0 0] 60 := hG__ ▸ BoxAt.new HL_wq2.out.sup _ _
            have HL_wq3 := Lib.hid (HL_wq2.out.later hZ (Ext.refl κq1 wq2) (HL_wq2.out.sup.mono hZ.size))
            have HB1_wq3 := Lib.hid (HB1_wq2.out.later hZ (Ext.refl κq1 wq2))
            have hSn := hS.trans (hZ.mono hS.size)
            have hge12 : wq1.heap.size < wq2.heap.size := lt_of_heap HB1_wq2.out.hb
            have HB2_wq3 := Lib.hid hnew
            have hge2 : W.heap.size ≤ wq2.heap.size := hS.size
            clear hG__ hZ hnew
            refine hK _ _ (fun _ => ?_) ?_
            · exact hSn
            replace hS := hSn; clear hSn
            clear hK K__
            try simp only [Act.put, List.setIfInBounds_toArray, List.set_cons_zero, List.set_cons_succ]
            -- 14: call F78[t115, t116] types#[38, 41]
            refine Mask.one 14 (by kernel_rfl) rfl rfl (fun K__ hK => ?_)
            go_simp
            refine (look_at HL_wq3.out.wd.ar HL_wq3.out.sup (refOf 0 1) HG0.out).mono ?_
            rintro e wq4 ⟨v__, κq4, rfl, hv__, hZ, hE, hSu⟩
            rw [HN0.out] at hv__
            obtain ⟨yp, yk, yw, rfl, rp, rk, rw⟩ := hv__
            obtain ⟨ya1, yc1, rfl, _, _⟩ := rp.shape
            obtain ⟨ya2, yc2, rfl, _, _⟩ := rk.shape
            obtain ⟨ya3, yc3, rfl, _, _⟩ := rw.shape
            have HL_wq4 := Lib.hid (HL_wq3.out.later hZ hE hSu)
            have HB1_wq4 := Lib.hid (HB1_wq3.out.later hZ hE)
            have HB2_wq4 := Lib.hid (HB2_wq3.out.later hZ hE)
            have hSn := hS.trans (hZ.mono hS.size)
            clear hZ hE hSu rp rk rw
            refine hK _ _ (fun _ => ?_) ?_
            · exact hSn
            replace hS := hSn; clear hSn
            clear hK K__
            try simp only [Act.put, List.setIfInBounds_toArray, List.set_cons_zero, List.set_cons_succ]
            -- 17: store T60 t13 t111
            refine Mask.one 17 (by kernel_rfl) rfl rfl (fun K__ hK => ?_)
            have y10 : wq4.cell? ⟨wq1.heap.size, 0, none⟩ = some (.bool false) := cellAt HB1_wq4.out.hb 0 rfl
            have y11 : wq4.cell? ⟨wq1.heap.size, 1, none⟩ = some (.bool false) := cellAt HB1_wq4.out.hb 1 rfl
            have y12 : wq4.cell? ⟨wq1.heap.size, 2, none⟩ = some (.slice none 0 0) := cellAt HB1_wq4.out.hb 2 rfl
            have y13 : wq4.cell? ⟨wq1.heap.size, 3, none⟩ = some (.slice none 0 0) := cellAt HB1_wq4.out.hb 3 rfl
            have y14 : wq4.cell? ⟨wq1.heap.size, 4, none⟩ = some (.slice none 0 0) := cellAt HB1_wq4.out.hb 4 rfl
            have yz1 : ∀ k, wq4.frozen? ⟨wq1.heap.size, k, none⟩ = false := fun k => frozen_of_heap HB1_wq4.out.hb
            have hne1 : ¬ wq1.heap.size = wq2.heap.size := by omega
            have hne2 : ¬ wq2.heap.size = wq1.heap.size := by omega
            go_simp
            refine hK _ _ (fun h => (by cases h)) ?_
            clear hK K__
            try simp only [Act.put, List.setIfInBounds_toArray, List.set_cons_zero, List.set_cons_succ]
            -- 18: store T60 t14 t117
            refine Mask.one 18 (by kernel_rfl) rfl rfl (fun K__ hK => ?_)
            have y20 : wq4.cell? ⟨wq2.heap.size, 0, none⟩ = some (.bool false) := cellAt HB2_wq4.out.hb 0 rfl
            have y21 : wq4.cell? ⟨wq2.heap.size, 1, none⟩ = some (.bool false) := cellAt HB2_wq4.out.hb 1 rfl
            have y22 : wq4.cell? ⟨wq2.heap.size, 2, none⟩ = some (.slice none 0 0) := cellAt HB2_wq4.out.hb 2 rfl
            have y23 : wq4.cell? ⟨wq2.heap.size, 3, none⟩ = some (.slice none 0 0) := cellAt HB2_wq4.out.hb 3 rfl
            have y24 : wq4.cell? ⟨wq2.heap.size, 4, none⟩ = some (.slice none 0 0) := cellAt HB2_wq4.out.hb 4 rfl
            have yz2 : ∀ k, wq4.frozen? ⟨wq2.heap.size, k, none⟩ = false := fun k => frozen_of_heap HB2_wq4.out.hb
            go_simp
            refine hK _ _ (fun h => (by cases h)) ?_
            clear hK K__
            try simp only [Act.put, List.setIfInBounds_toArray, List.set_cons_zero, List.set_cons_succ]
            refine Mask.done (by kernel_rfl) ?_ _
            go_wp2
            go_meet
            case rel =>
              have hne : wq1.heap.size ≠ wq2.heap.size := by omega
              exact ⟨wq1.heap.size, wq2.heap.size, κq4, xa1, xc1, xa2, xc2, xa3, xc3, ya1, yc1, ya2, yc2, ya3, yc3, rfl, rfl, two_nodes HL_wq4 HB1_wq4 HB2_wq4 hne (Nat.le_trans hWw hge1) (Nat.le_trans hWw hge2) _ _ _ _ _ _ _ _ _ _⟩
        · -- 16: alloc T60
          go_simp
          generalize hG__ : wq2.alloc (.cells #[Value.bool false, Value.bool false, Value.slice none 0 0, Value.slice none 0 0, Value.slice none 0 0] 60) = wq3
          have hZ : Below wq2.heap.size wq2 wq3 := hG__ ▸ (Below.refl _ _).alloc (Nat.le_refl _) _
          have hnew : BoxAt κq1 wq3 wq2.heap.size #[Value.bool false, Value.bool false, Value.slice none 0 0, Value.slice none 0 0, Value.slice none 0 0] 60 := hG__ ▸ BoxAt.new HL_wq2.out.sup _ _
          have HL_wq3 := Lib.hid (HL_wq2.out.later hZ (Ext.refl κq1 wq2) (HL_wq2.out.sup.mono hZ.size))
          have HB1_wq3 := Lib.hid (HB1_wq2.out.later hZ (Ext.refl κq1 wq2))
          have hSn := hS.trans (hZ.mono hS.size)
          have hge12 : wq1.heap.size < wq2.heap.size := lt_of_heap HB1_wq2.out.hb
          have HB2_wq3 := Lib.hid hnew
          have hge2 : W.heap.size ≤ wq2.heap.size := hS.size
          clear hG__ hZ hnew
          refine hK _ _ (fun _ => ?_) ?_
          · exact hSn
          replace hS := hSn; clear hSn
          clear hK K__
          try simp only [Act.put, List.setIfInBounds_toArray, List.set_cons_zero, List.set_cons_succ]
          -- 13: call F77[i64:0, u32:1] types#[3, 112]
          refine Mask.one 13 (by kernel_rfl) rfl rfl (fun K__ hK => ?_)
          go_simp
          refine (of_any 0 1 (by decide) (by decide) _).mono ?_
          rintro e w' ⟨rfl, hw'⟩; replace hw' := hw'.symm; subst hw'
          refine hK _ _ (fun _ => ?_) ?_
          · exact hS
          clear hK K__
          try simp only [Act.put, List.setIfInBounds_toArray, List.set_cons_zero, List.set_cons_succ]
          -- 14: call F78[t115, t116] types#[38, 41]
          refine Mask.one 14 (by kernel_rfl) rfl rfl (fun K__ hK => ?_)
          go_simp
          refine (look_at HL_wq3.out.wd.ar HL_wq3.out.sup (refOf 0 1) HG0.out).mono ?_
          rintro e wq4 ⟨v__, κq4, rfl, hv__, hZ, hE, hSu⟩
          rw [HN0.out] at hv__
          obtain ⟨yp, yk, yw, rfl, rp, rk, rw⟩ := hv__
          obtain ⟨ya1, yc1, rfl, _, _⟩ := rp.shape
          obtain ⟨ya2, yc2, rfl, _, _⟩ := rk.shape
          obtain ⟨ya3, yc3, rfl, _, _⟩ := rw.shape
          have HL_wq4 := Lib.hid (HL_wq3.out.later hZ hE hSu)
          have HB1_wq4 := Lib.hid (HB1_wq3.out.later hZ hE)
          have HB2_wq4 := Lib.hid (HB2_wq3.out.later hZ hE)
          have hSn := hS.trans (hZ.mono hS.size)
          clear hZ hE hSu rp rk rw
          refine hK _ _ (fun _ => ?_) ?_
          · exact hSn
          replace hS := hSn; clear hSn
          clear hK K__
          try simp only [Act.put, List.setIfInBounds_toArray, List.set_cons_zero, List.set_cons_succ]
          -- 17: store T60 t13 t111
          refine Mask.one 17 (by kernel_rfl) rfl rfl (fun K__ hK => ?_)
          have y10 : wq4.cell? ⟨wq1.heap.size, 0, none⟩ = some (.bool false) := cellAt HB1_wq4.out.hb 0 rfl
          have y11 : wq4.cell? ⟨wq1.heap.size, 1, none⟩ = some (.bool false) := cellAt HB1_wq4.out.hb 1 rfl
          have y12 : wq4.cell? ⟨wq1.heap.size, 2, none⟩ = some (.slice none 0 0) := cellAt HB1_wq4.out.hb 2 rfl
          have y13 : wq4.cell? ⟨wq1.heap.size, 3, none⟩ = some (.slice none 0 0) := cellAt HB1_wq4.out.hb 3 rfl
          have y14 : wq4.cell? ⟨wq1.heap.size, 4, none⟩ = some (.slice none 0 0) := cellAt HB1_wq4.out.hb 4 rfl
          have yz1 : ∀ k, wq4.frozen? ⟨wq1.heap.size, k, none⟩ = false := fun k => frozen_of_heap HB1_wq4.out.hb
          have hne1 : ¬ wq1.heap.size = wq2.heap.size := by omega
          have hne2 : ¬ wq2.heap.size = wq1.heap.size := by omega
          go_simp
          refine hK _ _ (fun h => (by cases h)) ?_
          clear hK K__
          try simp only [Act.put, List.setIfInBounds_toArray, List.set_cons_zero, List.set_cons_succ]
          -- 18: store T60 t14 t117
          refine Mask.one 18 (by kernel_rfl) rfl rfl (fun K__ hK => ?_)
          have y20 : wq4.cell? ⟨wq2.heap.size, 0, none⟩ = some (.bool false) := cellAt HB2_wq4.out.hb 0 rfl
          have y21 : wq4.cell? ⟨wq2.heap.size, 1, none⟩ = some (.bool false) := cellAt HB2_wq4.out.hb 1 rfl
          have y22 : wq4.cell? ⟨wq2.heap.size, 2, none⟩ = some (.slice none 0 0) := cellAt HB2_wq4.out.hb 2 rfl
          have y23 : wq4.cell? ⟨wq2.heap.size, 3, none⟩ = some (.slice none 0 0) := cellAt HB2_wq4.out.hb 3 rfl
          have y24 : wq4.cell? ⟨wq2.heap.size, 4, none⟩ = some (.slice none 0 0) := cellAt HB2_wq4.out.hb 4 rfl
          have yz2 : ∀ k, wq4.frozen? ⟨wq2.heap.size, k, none⟩ = false := fun k => frozen_of_heap HB2_wq4.out.hb
          go_simp
          refine hK _ _ (fun h => (by cases h)) ?_
          clear hK K__
          try simp only [Act.put, List.setIfInBounds_toArray, List.set_cons_zero, List.set_cons_succ]
          refine Mask.done (by kernel_rfl) ?_ _
          go_wp2
          go_meet
          case rel =>
            have hne : wq1.heap.size ≠ wq2.heap.size := by omega
            exact ⟨wq1.heap.size, wq2.heap.size, κq4, xa1, xc1, xa2, xc2, xa3, xc3, ya1, yc1, ya2, yc2, ya3, yc3, rfl, rfl, two_nodes HL_wq4 HB1_wq4 HB2_wq4 hne (Nat.le_trans hWw hge1) (Nat.le_trans hWw hge2) _ _ _ _ _ _ _ _ _ _⟩
      · -- 16: alloc T60
        go_simp
        generalize hG__ : wq1.alloc (.cells #[Value.bool false, Value.bool false, Value.slice none 0 0, Value.slice none 0 0, Value.slice none 0 0] 60) = wq2
        have hZ : Below wq1.heap.size wq1 wq2 := hG__ ▸ (Below.refl _ _).alloc (Nat.le_refl _) _
        have hnew : BoxAt κq1 wq2 wq1.heap.size #[Value.bool false, Value.bool false, Value.slice none 0 0, Value.slice none 0 0, Value.slice none 0 0] 60 := hG__ ▸ BoxAt.new HL_wq1.out.sup _ _
        have HL_wq2 := Lib.hid (HL_wq1.out.later hZ (Ext.refl κq1 wq1) (HL_wq1.out.sup.mono hZ.size))
        have hSn := hS.trans (hZ.mono hS.size)
        have HB2_wq2 := Lib.hid hnew
        have hge2 : W.heap.size ≤ wq1.heap.size := hS.size
        clear hG__ hZ hnew
        refine hK _ _ (fun _ => ?_) ?_
        · exact hSn
        replace hS := hSn; clear hSn
        clear hK K__
        try simp only [Act.put, List.setIfInBounds_toArray, List.set_cons_zero, List.set_cons_succ]
        refine Mask.two 13 15 (by kernel_rfl) rfl rfl rfl rfl (fun K__ hK => ?_) (fun K__ hK => ?_)
        · -- 13: call F77[i64:0, u32:1] types#[3, 112]
          go_simp
          refine (of_any 0 1 (by decide) (by decide) _).mono ?_
          rintro e w' ⟨rfl, hw'⟩; replace hw' := hw'.symm; subst hw'
          refine hK _ _ (fun _ => ?_) ?_
          · exact hS
          clear hK K__
          try simp only [Act.put, List.setIfInBounds_toArray, List.set_cons_zero, List.set_cons_succ]
          refine Mask.two 14 15 (by kernel_rfl) rfl rfl rfl rfl (fun K__ hK => ?_) (fun K__ hK => ?_)
          · -- 14: call F78[t115, t116] types#[38, 41]
            go_simp
            refine (look_at HL_wq2.out.wd.ar HL_wq2.out.sup (refOf 0 1) HG0.out).mono ?_
            rintro e wq3 ⟨v__, κq3, rfl, hv__, hZ, hE, hSu⟩
            rw [HN0.out] at hv__
            obtain ⟨yp, yk, yw, rfl, rp, rk, rw⟩ := hv__
            obtain ⟨ya1, yc1, rfl, _, _⟩ := rp.shape
            obtain ⟨ya2, yc2, rfl, _, _⟩ := rk.shape
            obtain ⟨ya3, yc3, rfl, _, _⟩ := rw.shape
            have HL_wq3 := Lib.hid (HL_wq2.out.later hZ hE hSu)
            have HB2_wq3 := Lib.hid (HB2_wq2.out.later hZ hE)
            have hSn := hS.trans (hZ.mono hS.size)
            clear hZ hE hSu rp rk rw
            refine hK _ _ (fun _ => ?_) ?_
            · exact hSn
            replace hS := hSn; clear hSn
            clear hK K__
            try simp only [Act.put, List.setIfInBounds_toArray, List.set_cons_zero, List.set_cons_succ]
            -- 15: alloc T60
            refine Mask.one 15 (by kernel_rfl) rfl rfl (fun K__ hK => ?_)
            go_simp
            generalize hG__ : wq3.alloc (.cells #[Value.bool false, Value.bool false, Value.slice none 0 0, Value.slice none 0 0, Value.slice none 0 0] 60) = wq4
            have hZ : Below wq3.heap.size wq3 wq4 := hG__ ▸ (Below.refl _ _).alloc (Nat.le_refl _) _
            have hnew : BoxAt κq3 wq4 wq3.heap.size #[Value.bool false, Value.bool false, Value.slice none 0 0, Value.slice none 0 0, Value.slice none 0 0] 60 := hG__ ▸ BoxAt.new HL_wq3.out.sup _ _
            have HL_wq4 := Lib.hid (HL_wq3.out.later hZ (Ext.refl κq3 wq3) (HL_wq3.out.sup.mono hZ.size))
            have HB2_wq4 := Lib.hid (HB2_wq3.out.later hZ (Ext.refl κq3 wq3))
            have hSn := hS.trans (hZ.mono hS.size)
            have hge12 : wq1.heap.size < wq3.heap.size := lt_of_heap HB2_wq3.out.hb
            have HB1_wq4 := Lib.hid hnew
            have hge1 : W.heap.size ≤ wq3.heap.size := hS.size
            clear hG__ hZ hnew
            refine hK _ _ (fun _ => ?_) ?_
            · exact hSn
            replace hS := hSn; clear hSn
            clear hK K__
            try simp only [Act.put, List.setIfInBounds_toArray, List.set_cons_zero, List.set_cons_succ]
            -- 17: store T60 t13 t111
            refine Mask.one 17 (by kernel_rfl) rfl rfl (fun K__ hK => ?_)
            have y10 : wq4.cell? ⟨wq3.heap.size, 0, none⟩ = some (.bool false) := cellAt HB1_wq4.out.hb 0 rfl
            have y11 : wq4.cell? ⟨wq3.heap.size, 1, none⟩ = some (.bool false) := cellAt HB1_wq4.out.hb 1 rfl
            have y12 : wq4.cell? ⟨wq3.heap.size, 2, none⟩ = some (.slice none 0 0) := cellAt HB1_wq4.out.hb 2 rfl
            have y13 : wq4.cell? ⟨wq3.heap.size, 3, none⟩ = some (.slice none 0 0) := cellAt HB1_wq4.out.hb 3 rfl
            have y14 : wq4.cell? ⟨wq3.heap.size, 4, none⟩ = some (.slice none 0 0) := cellAt HB1_wq4.out.hb 4 rfl
            have yz1 : ∀ k, wq4.frozen? ⟨wq3.heap.size, k, none⟩ = false := fun k => frozen_of_heap HB1_wq4.out.hb
            have hne1 : ¬ wq3.heap.size = wq1.heap.size := by omega
            have hne2 : ¬ wq1.heap.size = wq3.heap.size := by omega
            go_simp
            refine hK _ _ (fun h => (by cases h)) ?_
            clear hK K__
            try simp only [Act.put, List.setIfInBounds_toArray, List.set_cons_zero, List.set_cons_succ]
            -- 18: store T60 t14 t117
            refine Mask.one 18 (by kernel_rfl) rfl rfl (fun K__ hK => ?_)
            have y20 : wq4.cell? ⟨wq1.heap.size, 0, none⟩ = some (.bool false) := cellAt HB2_wq4.out.hb 0 rfl
            have y21 : wq4.cell? ⟨wq1.heap.size, 1, none⟩ = some (.bool false) := cellAt HB2_wq4.out.hb 1 rfl
            have y22 : wq4.cell? ⟨wq1.heap.size, 2, none⟩ = some (.slice none 0 0) := cellAt HB2_wq4.out.hb 2 rfl
            have y23 : wq4.cell? ⟨wq1.heap.size, 3, none⟩ = some (.slice none 0 0) := cellAt HB2_wq4.out.hb 3 rfl
            have y24 : wq4.cell? ⟨wq1.heap.size, 4, none⟩ = some (.slice none 0 0) := cellAt HB2_wq4.out.hb 4 rfl
            have yz2 : ∀ k, wq4.frozen? ⟨wq1.heap.size, k, none⟩ = false := fun k => frozen_of_heap HB2_wq4.out.hb
            go_simp
            refine hK _ _ (fun h => (by cases h)) ?_
            clear hK K__
            try simp only [Act.put, List.setIfInBounds_toArray, List.set_cons_zero, List.set_cons_succ]
            refine Mask.done (by kernel_rfl) ?_ _
            go_wp2
            go_meet
            case rel =>
              have hne : wq3.heap.size ≠ wq1.heap.size := by omega
              exact ⟨wq3.heap.size, wq1.heap.size, κq3, xa1, xc1, xa2, xc2, xa3, xc3, ya1, yc1, ya2, yc2, ya3, yc3, rfl, rfl, two_nodes HL_wq4 HB1_wq4 HB2_wq4 hne (Nat.le_trans hWw hge1) (Nat.le_trans hWw hge2) _ _ _ _ _ _ _ _ _ _⟩
          · -- 15: alloc T60
            go_simp
            generalize hG__ : wq2.alloc (.cells #[Value.bool false, Value.bool false, Value.slice none 0 0, Value.slice none 0 0, Value.slice none 0 0] 60) = wq3
            have hZ : Below wq2.heap.size wq2 wq3 := hG__ ▸ (Below.refl _ _).alloc (Nat.le_refl _) _
            have hnew : BoxAt κq1 wq3 wq2.heap.size #[Value.bool false, Value.bool false, Value.slice none 0 0, Value.slice none 0 0, Value.slice none 0 0] 60 := hG__ ▸ BoxAt.new HL_wq2.out.sup _ _
            have HL_wq3 := Lib.hid (HL_wq2.out.later hZ (Ext.refl κq1 wq2) (HL_wq2.out.sup.mono hZ.size))
            have HB2_wq3 := Lib.hid (HB2_wq2.out.later hZ (Ext.refl κq1 wq2))
            have hSn := hS.trans (hZ.mono hS.size)
            have hge12 : wq1.heap.size < wq2.heap.size := lt_of_heap HB2_wq2.out.hb
            have HB1_wq3 := Lib.hid hnew
            have hge1 : W.heap.size ≤ wq2.heap.size := hS.size
            clear hG__ hZ hnew
            refine hK _ _ (fun _ => ?_) ?_
            · exact hSn
            replace hS := hSn; clear hSn
            clear hK K__
            try simp only [Act.put, List.setIfInBounds_toArray, List.set_cons_zero, List.set_cons_succ]
            -- 14: call F78[t115, t116] types#[38, 41]
            refine Mask.one 14 (by kernel_rfl) rfl rfl (fun K__ hK => ?_)
            go_simp
            refine (look_at HL_wq3.out.wd.ar HL_wq3.out.sup (refOf 0 1) HG0.out).mono ?_
            rintro e wq4 ⟨v__, κq4, rfl, hv__, hZ, hE, hSu⟩
            rw [HN0.out] at hv__
            obtain ⟨yp, yk, yw, rfl, rp, rk, rw⟩ := hv__
            obtain ⟨ya1, yc1, rfl, _, _⟩ := rp.shape
            obtain ⟨ya2, yc2, rfl, _, _⟩ := rk.shape
            obtain ⟨ya3, yc3, rfl, _, _⟩ := rw.shape
            have HL_wq4 := Lib.hid (HL_wq3.out.later hZ hE hSu)
            have HB2_wq4 := Lib.hid (HB2_wq3.out.later hZ hE)
            have HB1_wq4 := Lib.hid (HB1_wq3.out.later hZ hE)
            have hSn := hS.trans (hZ.mono hS.size)
            clear hZ hE hSu rp rk rw
            refine hK _ _ (fun _ => ?_) ?_
            · exact hSn
            replace hS := hSn; clear hSn
            clear hK K__
            try simp only [Act.put, List.setIfInBounds_toArray, List.set_cons_zero, List.set_cons_succ]
            -- 17: store T60 t13 t111
            refine Mask.one 17 (by kernel_rfl) rfl rfl (fun K__ hK => ?_)
            have y10 : wq4.cell? ⟨wq2.heap.size, 0, none⟩ = some (.bool false) := cellAt HB1_wq4.out.hb 0 rfl
            have y11 : wq4.cell? ⟨wq2.heap.size, 1, none⟩ = some (.bool false) := cellAt HB1_wq4.out.hb 1 rfl
            have y12 : wq4.cell? ⟨wq2.heap.size, 2, none⟩ = some (.slice none 0 0) := cellAt HB1_wq4.out.hb 2 rfl
            have y13 : wq4.cell? ⟨wq2.heap.size, 3, none⟩ = some (.slice none 0 0) := cellAt HB1_wq4.out.hb 3 rfl
            have y14 : wq4.cell? ⟨wq2.heap.size, 4, none⟩ = some (.slice none 0 0) := cellAt HB1_wq4.out.hb 4 rfl
            have yz1 : ∀ k, wq4.frozen? ⟨wq2.heap.size, k, none⟩ = false := fun k => frozen_of_heap HB1_wq4.out.hb
            have hne1 : ¬ wq2.heap.size = wq1.heap.size := by omega
            have hne2 : ¬ wq1.heap.size = wq2.heap.size := by omega
            go_simp
            refine hK _ _ (fun h => (by cases h)) ?_
            clear hK K__
            try simp only [Act.put, List.setIfInBounds_toArray, List.set_cons_zero, List.set_cons_succ]
            -- 18: store T60 t14 t117
            refine Mask.one 18 (by kernel_rfl) rfl rfl (fun K__ hK => ?_)
            have y20 : wq4.cell? ⟨wq1.heap.size, 0, none⟩ = some (.bool false) := cellAt HB2_wq4.out.hb 0 rfl
            have y21 : wq4.cell? ⟨wq1.heap.size, 1, none⟩ = some (.bool false) := cellAt HB2_wq4.out.hb 1 rfl
            have y22 : wq4.cell? ⟨wq1.heap.size, 2, none⟩ = some (.slice none 0 0) := cellAt HB2_wq4.out.hb 2 rfl
            have y23 : wq4.cell? ⟨wq1.heap.size, 3, none⟩ = some (.slice none 0 0) := cellAt HB2_wq4.out.hb 3 rfl
            have y24 : wq4.cell? ⟨wq1.heap.size, 4, none⟩ = some (.slice none 0 0) := cellAt HB2_wq4.out.hb 4 rfl
            have yz2 : ∀ k, wq4.frozen? ⟨wq1.heap.size, k, none⟩ = false := fun k => frozen_of_heap HB2_wq4.out.hb
            go_simp
            refine hK _ _ (fun h => (by cases h)) ?_
            clear hK K__
            try simp only [Act.put, List.setIfInBounds_toArray, List.set_cons_zero, List.set_cons_succ]
            refine Mask.done (by kernel_rfl) ?_ _
            go_wp2
            go_meet
            case rel =>
              have hne : wq2.heap.size ≠ wq1.heap.size := by omega
              exact ⟨wq2.heap.size, wq1.heap.size, κq4, xa1, xc1, xa2, xc2, xa3, xc3, ya1, yc1, ya2, yc2, ya3, yc3, rfl, rfl, two_nodes HL_wq4 HB1_wq4 HB2_wq4 hne (Nat.le_trans hWw hge1) (Nat.le_trans hWw hge2) _ _ _ _ _ _ _ _ _ _⟩
        · -- 15: alloc T60
          go_simp
          generalize hG__ : wq2.alloc (.cells #[Value.bool false, Value.bool false, Value.slice none 0 0, Value.slice none 0 0, Value.slice none 0 0] 60) = wq3
          have hZ : Below wq2.heap.size wq2 wq3 := hG__ ▸ (Below.refl _ _).alloc (Nat.le_refl _) _
          have hnew : BoxAt κq1 wq3 wq2.heap.size #[Value.bool false, Value.bool false, Value.slice none 0 0, Value.slice none 0 0, Value.slice none 0 0] 60 := hG__ ▸ BoxAt.new HL_wq2.out.sup _ _
          have HL_wq3 := Lib.hid (HL_wq2.out.later hZ (Ext.refl κq1 wq2) (HL_wq2.out.sup.mono hZ.size))
          have HB2_wq3 := Lib.hid (HB2_wq2.out.later hZ (Ext.refl κq1 wq2))
          have hSn := hS.trans (hZ.mono hS.size)
          have hge12 : wq1.heap.size < wq2.heap.size := lt_of_heap HB2_wq2.out.hb
          have HB1_wq3 := Lib.hid hnew
          have hge1 : W.heap.size ≤ wq2.heap.size := hS.size
          clear hG__ hZ hnew
          refine hK _ _ (fun _ => ?_) ?_
          · exact hSn
          replace hS := hSn; clear hSn
          clear hK K__
          try simp only [Act.put, List.setIfInBounds_toArray, List.set_cons_zero, List.set_cons_succ]
          -- 13: call F77[i64:0, u32:1] types#[3, 112]
          refine Mask.one 13 (by kernel_rfl) rfl rfl (fun K__ hK => ?_)
          go_simp
          refine (of_any 0 1 (by decide) (by decide) _).mono ?_
          rintro e w' ⟨rfl, hw'⟩; replace hw' := hw'.symm; subst hw'
          refine hK _ _ (fun _ => ?_) ?_
          · exact hS
          clear hK K__
          try simp only [Act.put, List.setIfInBounds_toArray, List.set_cons_zero, List.set_cons_succ]
          -- 14: call F78[t115, t116] types#[38, 41]
          refine Mask.one 14 (by kernel_rfl) rfl rfl (fun K__ hK => ?_)
          go_simp
          refine (look_at HL_wq3.out.wd.ar HL_wq3.out.sup (refOf 0 1) HG0.out).mono ?_
          rintro e wq4 ⟨v__, κq4, rfl, hv__, hZ, hE, hSu⟩
          rw [HN0.out] at hv__
          obtain ⟨yp, yk, yw, rfl, rp, rk, rw⟩ := hv__
          obtain ⟨ya1, yc1, rfl, _, _⟩ := rp.shape
          obtain ⟨ya2, yc2, rfl, _, _⟩ := rk.shape
          obtain ⟨ya3, yc3, rfl, _, _⟩ := rw.shape
          have HL_wq4 := Lib.hid (HL_wq3.out.later hZ hE hSu)
          have HB2_wq4 := Lib.hid (HB2_wq3.out.later hZ hE)
          have HB1_wq4 := Lib.hid (HB1_wq3.out.later hZ hE)
          have hSn := hS.trans (hZ.mono hS.size)
          clear hZ hE hSu rp rk rw
          refine hK _ _ (fun _ => ?_) ?_
          · exact hSn
          replace hS := hSn; clear hSn
          clear hK K__
          try simp only [Act.put, List.setIfInBounds_toArray, List.set_cons_zero, List.set_cons_succ]
          -- 17: store T60 t13 t111
          refine Mask.one 17 (by kernel_rfl) rfl rfl (fun K__ hK => ?_)
          have y10 : wq4.cell? ⟨wq2.heap.size, 0, none⟩ = some (.bool false) := cellAt HB1_wq4.out.hb 0 rfl
          have y11 : wq4.cell? ⟨wq2.heap.size, 1, none⟩ = some (.bool false) := cellAt HB1_wq4.out.hb 1 rfl
          have y12 : wq4.cell? ⟨wq2.heap.size, 2, none⟩ = some (.slice none 0 0) := cellAt HB1_wq4.out.hb 2 rfl
          have y13 : wq4.cell? ⟨wq2.heap.size, 3, none⟩ = some (.slice none 0 0) := cellAt HB1_wq4.out.hb 3 rfl
          have y14 : wq4.cell? ⟨wq2.heap.size, 4, none⟩ = some (.slice none 0 0) := cellAt HB1_wq4.out.hb 4 rfl
          have yz1 : ∀ k, wq4.frozen? ⟨wq2.heap.size, k, none⟩ = false := fun k => frozen_of_heap HB1_wq4.out.hb
          have hne1 : ¬ wq2.heap.size = wq1.heap.size := by omega
          have hne2 : ¬ wq1.heap.size = wq2.heap.size := by omega
          go_simp
          refine hK _ _ (fun h => (by cases h)) ?_
          clear hK K__
          try simp only [Act.put, List.setIfInBounds_toArray, List.set_cons_zero, List.set_cons_succ]
          -- 18: store T60 t14 t117
          refine Mask.one 18 (by kernel_rfl) rfl rfl (fun K__ hK => ?_)
          have y20 : wq4.cell? ⟨wq1.heap.size, 0, none⟩ = some (.bool false) := cellAt HB2_wq4.out.hb 0 rfl
          have y21 : wq4.cell? ⟨wq1.heap.size, 1, none⟩ = some (.bool false) := cellAt HB2_wq4.out.hb 1 rfl
          have y22 : wq4.cell? ⟨wq1.heap.size, 2, none⟩ = some (.slice none 0 0) := cellAt HB2_wq4.out.hb 2 rfl
          have y23 : wq4.cell? ⟨wq1.heap.size, 3, none⟩ = some (.slice none 0 0) := cellAt HB2_wq4.out.hb 3 rfl
          have y24 : wq4.cell? ⟨wq1.heap.size, 4, none⟩ = some (.slice none 0 0) := cellAt HB2_wq4.out.hb 4 rfl
          have yz2 : ∀ k, wq4.frozen? ⟨wq1.heap.size, k, none⟩ = false := fun k => frozen_of_heap HB2_wq4.out.hb
          go_simp
          refine hK _ _ (fun h => (by cases h)) ?_
          clear hK K__
          try simp only [Act.put, List.setIfInBounds_toArray, List.set_cons_zero, List.set_cons_succ]
          refine Mask.done (by kernel_rfl) ?_ _
          go_wp2
          go_meet
          case rel =>
            have hne : wq2.heap.size ≠ wq1.heap.size := by omega
            exact ⟨wq2.heap.size, wq1.heap.size, κq4, xa1, xc1, xa2, xc2, xa3, xc3, ya1, yc1, ya2, yc2, ya3, yc3, rfl, rfl, two_nodes HL_wq4 HB1_wq4 HB2_wq4 hne (Nat.le_trans hWw hge1) (Nat.le_trans hWw hge2) _ _ _ _ _ _ _ _ _ _⟩
    · -- 15: alloc T60
      go_simp
      generalize hG__ : W.alloc (.cells #[Value.bool false, Value.bool false, Value.slice none 0 0, Value.slice none 0 0, Value.slice none 0 0] 60) = wq1
      have hZ : Below W.heap.size W wq1 := hG__ ▸ (Below.refl _ _).alloc (Nat.le_refl _) _
      have hnew : BoxAt κ1 wq1 W.heap.size #[Value.bool false, Value.bool false, Value.slice none 0 0, Value.slice none 0 0, Value.slice none 0 0] 60 := hG__ ▸ BoxAt.new HL_W.out.sup _ _
      have HL_wq1 := Lib.hid (HL_W.out.later hZ (Ext.refl κ1 W) (HL_W.out.sup.mono hZ.size))
      have hSn := hS.trans (hZ.mono hS.size)
      have HB1_wq1 := Lib.hid hnew
      have hge1 : W.heap.size ≤ W.heap.size := hS.size
      clear hG__ hZ hnew
      refine hK _ _ (fun _ => ?_) ?_
      · exact hSn
      replace hS := hSn; clear hSn
      clear hK K__
      try simp only [Act.put, List.setIfInBounds_toArray, List.set_cons_zero, List.set_cons_succ]
      refine Mask.two 8 16 (by kernel_rfl) rfl rfl rfl rfl (fun K__ hK => ?_) (fun K__ hK => ?_)
      · -- 8: call F78[t106, t110] types#[38, 41]
        go_simp
        refine (look_at HL_wq1.out.wd.ar HL_wq1.out.sup (refOf 1 1) HG1.out).mono ?_
        rintro e wq2 ⟨v__, κq2, rfl, hv__, hZ, hE, hSu⟩
        rw [HN1.out] at hv__
        obtain ⟨xp, xk, xw, rfl, rp, rk, rw⟩ := hv__
        obtain ⟨xa1, xc1, rfl, _, _⟩ := rp.shape
        obtain ⟨xa2, xc2, rfl, _, _⟩ := rk.shape
        obtain ⟨xa3, xc3, rfl, _, _⟩ := rw.shape
        have HL_wq2 := Lib.hid (HL_wq1.out.later hZ hE hSu)
        have HB1_wq2 := Lib.hid (HB1_wq1.out.later hZ hE)
        have hSn := hS.trans (hZ.mono hS.size)
        clear hZ hE hSu rp rk rw
        refine hK _ _ (fun _ => ?_) ?_
        · exact hSn
        replace hS := hSn; clear hSn
        clear hK K__
        try simp only [Act.put, List.setIfInBounds_toArray, List.set_cons_zero, List.set_cons_succ]
        refine Mask.two 13 16 (by kernel_rfl) rfl rfl rfl rfl (fun K__ hK => ?_) (fun K__ hK => ?_)
        · -- 13: call F77[i64:0, u32:1] types#[3, 112]
          go_simp
          refine (of_any 0 1 (by decide) (by decide) _).mono ?_
          rintro e w' ⟨rfl, hw'⟩; replace hw' := hw'.symm; subst hw'
          refine hK _ _ (fun _ => ?_) ?_
          · exact hS
          clear hK K__
          try simp only [Act.put, List.setIfInBounds_toArray, List.set_cons_zero, List.set_cons_succ]
          refine Mask.two 14 16 (by kernel_rfl) rfl rfl rfl rfl (fun K__ hK => ?_) (fun K__ hK => ?_)
          · -- 14: call F78[t115, t116] types#[38, 41]
            go_simp
            refine (look_at HL_wq2.out.wd.ar HL_wq2.out.sup (refOf 0 1) HG0.out).mono ?_
            rintro e wq3 ⟨v__, κq3, rfl, hv__, hZ, hE, hSu⟩
            rw [HN0.out] at hv__
            obtain ⟨yp, yk, yw, rfl, rp, rk, rw⟩ := hv__
            obtain ⟨ya1, yc1, rfl, _, _⟩ := rp.shape
            obtain ⟨ya2, yc2, rfl, _, _⟩ := rk.shape
            obtain ⟨ya3, yc3, rfl, _, _⟩ := rw.shape
            have HL_wq3 := Lib.hid (HL_wq2.out.later hZ hE hSu)
            have HB1_wq3 := Lib.hid (HB1_wq2.out.later hZ hE)
            have hSn := hS.trans (hZ.mono hS.size)
            clear hZ hE hSu rp rk rw
            refine hK _ _ (fun _ => ?_) ?_
            · exact hSn
            replace hS := hSn; clear hSn
            clear hK K__
            try simp only [Act.put, List.setIfInBounds_toArray, List.set_cons_zero, List.set_cons_succ]
            -- 16: alloc T60
            refine Mask.one 16 (by kernel_rfl) rfl rfl (fun K__ hK => ?_)
            go_simp
            generalize hG__ : wq3.alloc (.cells #[Value.bool false, Value.bool false, Value.slice none 0 0, Value.slice none 0 0, Value.slice none 0 0] 60) = wq4
            have hZ : Below wq3.heap.size wq3 wq4 := hG__ ▸ (Below.refl _ _).alloc (Nat.le_refl _) _
            have hnew : BoxAt κq3 wq4 wq3.heap.size #[Value.bool false, Value.bool false, Value.slice none 0 0, Value.slice none 0 0, Value.slice none 0 0] 60 := hG__ ▸ BoxAt.new HL_wq3.out.sup _ _
            have HL_wq4 := Lib.hid (HL_wq3.out.later hZ (Ext.refl κq3 wq3) (HL_wq3.out.sup.mono hZ.size))
            have HB1_wq4 := Lib.hid (HB1_wq3.out.later hZ (Ext.refl κq3 wq3))
            have hSn := hS.trans (hZ.mono hS.size)
            have hge12 : W.heap.size < wq3.heap.size := lt_of_heap HB1_wq3.out.hb
            have HB2_wq4 := Lib.hid hnew
            have hge2 : W.heap.size ≤ wq3.heap.size := hS.size
            clear hG__ hZ hnew
            refine hK _ _ (fun _ => ?_) ?_
            · exact hSn
            replace hS := hSn; clear hSn
            clear hK K__
            try simp only [Act.put, List.setIfInBounds_toArray, List.set_cons_zero, List.set_cons_succ]
            -- 17: store T60 t13 t111
            refine Mask.one 17 (by kernel_rfl) rfl rfl (fun K__ hK => ?_)
            have y10 : wq4.cell? ⟨W.heap.size, 0, none⟩ = some (.bool false) := cellAt HB1_wq4.out.hb 0 rfl
            have y11 : wq4.cell? ⟨W.heap.size, 1, none⟩ = some (.bool false) := cellAt HB1_wq4.out.hb 1 rfl
            have y12 : wq4.cell? ⟨W.heap.size, 2, none⟩ = some (.slice none 0 0) := cellAt HB1_wq4.out.hb 2 rfl
            have y13 : wq4.cell? ⟨W.heap.size, 3, none⟩ = some (.slice none 0 0) := cellAt HB1_wq4.out.hb 3 rfl
            have y14 : wq4.cell? ⟨W.heap.size, 4, none⟩ = some (.slice none 0 0) := cellAt HB1_wq4.out.hb 4 rfl
            have yz1 : ∀ k, wq4.frozen? ⟨W.heap.size, k, none⟩ = false := fun k => frozen_of_heap HB1_wq4.out.hb
            have hne1 : ¬ W.heap.size = wq3.heap.size := by omega
            have hne2 : ¬ wq3.heap.size = W.heap.size := by omega
            go_simp
            refine hK _ _ (fun h => (by cases h)) ?_
            clear hK K__
            try simp only [Act.put, List.setIfInBounds_toArray, List.set_cons_zero, List.set_cons_succ]
            -- 18: store T60 t14 t117
            refine Mask.one 18 (by kernel_rfl) rfl rfl (fun K__ hK => ?_)
            have y20 : wq4.cell? ⟨wq3.heap.size, 0, none⟩ = some (.bool false) := cellAt HB2_wq4.out.hb 0 rfl
            have y21 : wq4.cell? ⟨wq3.heap.size, 1, none⟩ = some (.bool false) := cellAt HB2_wq4.out.hb 1 rfl
            have y22 : wq4.cell? ⟨wq3.heap.size, 2, none⟩ = some (.slice none 0 0) := cellAt HB2_wq4.out.hb 2 rfl
            have y23 : wq4.cell? ⟨wq3.heap.size, 3, none⟩ = some (.slice none 0 0) := cellAt HB2_wq4.out.hb 3 rfl
            have y24 : wq4.cell? ⟨wq3.heap.size, 4, none⟩ = some (.slice none 0 0) := cellAt HB2_wq4.out.hb 4 rfl
            have yz2 : ∀ k, wq4.frozen? ⟨wq3.heap.size, k, none⟩ = false := fun k => frozen_of_heap HB2_wq4.out.hb
            go_simp
            refine hK _ _ (fun h => (by cases h)) ?_
            clear hK K__
            try simp only [Act.put, List.setIfInBounds_toArray, List.set_cons_zero, List.set_cons_succ]
            refine Mask.done (by kernel_rfl) ?_ _
            go_wp2
            go_meet
            case rel =>
              have hne : W.heap.size ≠ wq3.heap.size := by omega
              exact ⟨W.heap.size, wq3.heap.size, κq3, xa1, xc1, xa2, xc2, xa3, xc3, ya1, yc1, ya2, yc2, ya3, yc3, rfl, rfl, two_nodes HL_wq4 HB1_wq4 HB2_wq4 hne (Nat.le_trans hWw hge1) (Nat.le_trans hWw hge2) _ _ _ _ _ _ _ _ _ _⟩
          · -- 16: alloc T60
            go_simp
            generalize hG__ : wq2.alloc (.cells #[Value.bool false, Value.bool false, Value.slice none 0 0, Value.slice none 0 0, Value.slice none 0 0] 60) = wq3
            have hZ : Below wq2.heap.size wq2 wq3 := hG__ ▸ (Below.refl _ _).alloc (Nat.le_refl _) _
            have hnew : BoxAt κq2 wq3 wq2.heap.size #[Value.bool false, Value.bool false, Value.slice none 0 0, Value.slice none 0 0, Value.slice none 0 0] 60 := hG__ ▸ BoxAt.new HL_wq2.out.sup _ _
            have HL_wq3 := Lib.hid (HL_wq2.out.later hZ (Ext.refl κq2 wq2) (HL_wq2.out.sup.mono hZ.size))
            have HB1_wq3 := Lib.hid (HB1_wq2.out.later hZ (Ext.refl κq2 wq2))
            have hSn := hS.trans (hZ.mono hS.size)
            have hge12 : W.heap.size < wq2.heap.size := lt_of_heap HB1_wq2.out.hb
            have HB2_wq3 := Lib.hid hnew
            have hge2 : W.heap.size ≤ wq2.heap.size := hS.size
            clear hG__ hZ hnew
            refine hK _ _ (fun _ => ?_) ?_
            · exact hSn
            replace hS := hSn; clear hSn
            clear hK K__
            try simp only [Act.put, List.setIfInBounds_toArray, List.set_cons_zero, List.set_cons_succ]
            -- 14: call F78[t115, t116] types#[38, 41]
            refine Mask.one 14 (by kernel_rfl) rfl rfl (fun K__ hK => ?_)
            go_simp
            refine (look_at HL_wq3.out.wd.ar HL_wq3.out.sup (refOf 0 1) HG0.out).mono ?_
            rintro e wq4 ⟨v__, κq4, rfl, hv__, hZ, hE, hSu⟩
            rw [HN0.out] at hv__
            obtain ⟨yp, yk, yw, rfl, rp, rk, rw⟩ := hv__
            obtain ⟨ya1, yc1, rfl, _, _⟩ := rp.shape
            obtain ⟨ya2, yc2, rfl, _, _⟩ := rk.shape
            obtain ⟨ya3, yc3, rfl, _, _⟩ := rw.shape
            have HL_wq4 := Lib.hid (HL_wq3.out.later hZ hE hSu)
            have HB1_wq4 := Lib.hid (HB1_wq3.out.later hZ hE)
            have HB2_wq4 := Lib.hid (HB2_wq3.out.later hZ hE)
            have hSn := hS.trans (hZ.mono hS.size)
            clear hZ hE hSu rp rk rw
            refine hK _ _ (fun _ => ?_) ?_
            · exact hSn
            replace hS := hSn; clear hSn
            clear hK K__
            try simp only [Act.put, List.setIfInBounds_toArray, List.set_cons_zero, List.set_cons_succ]
            -- 17: store T60 t13 t111
            refine Mask.one 17 (by kernel_rfl) rfl rfl (fun K__ hK => ?_)
            have y10 : wq4.cell? ⟨W.heap.size, 0, none⟩ = some (.bool false) := cellAt HB1_wq4.out.hb 0 rfl
            have y11 : wq4.cell? ⟨W.heap.size, 1, none⟩ = some (.bool false) := cellAt HB1_wq4.out.hb 1 rfl
            have y12 : wq4.cell? ⟨W.heap.size, 2, none⟩ = some (.slice none 0 0) := cellAt HB1_wq4.out.hb 2 rfl
            have y13 : wq4.cell? ⟨W.heap.size, 3, none⟩ = some (.slice none 0 0) := cellAt HB1_wq4.out.hb 3 rfl
            have y14 : wq4.cell? ⟨W.heap.size, 4, none⟩ = some (.slice none 0 0) := cellAt HB1_wq4.out.hb 4 rfl
            have yz1 : ∀ k, wq4.frozen? ⟨W.heap.size, k, none⟩ = false := fun k => frozen_of_heap HB1_wq4.out.hb
            have hne1 : ¬ W.heap.size = wq2.heap.size := by omega
            have hne2 : ¬ wq2.heap.size = W.heap.size := by omega
            go_simp
            refine hK _ _ (fun h => (by cases h)) ?_
            clear hK K__
            try simp only [Act.put, List.setIfInBounds_toArray, List.set_cons_zero, List.set_cons_succ]
            -- 18: store T60 t14 t117
            refine Mask.one 18 (by kernel_rfl) rfl rfl (fun K__ hK => ?_)
            have y20 : wq4.cell? ⟨wq2.heap.size, 0, none⟩ = some (.bool false) := cellAt HB2_wq4.out.hb 0 rfl
            have y21 : wq4.cell? ⟨wq2.heap.size, 1, none⟩ = some (.bool false) := cellAt HB2_wq4.out.hb 1 rfl
            have y22 : wq4.cell? ⟨wq2.heap.size, 2, none⟩ = some (.slice none 0 0) := cellAt HB2_wq4.out.hb 2 rfl
            have y23 : wq4.cell? ⟨wq2.heap.size, 3, none⟩ = some (.slice none 0 0) := cellAt HB2_wq4.out.hb 3 rfl
            have y24 : wq4.cell? ⟨wq2.heap.size, 4, none⟩ = some (.slice none 0 0) := cellAt HB2_wq4.out.hb 4 rfl
            have yz2 : ∀ k, wq4.frozen? ⟨wq2.heap.size, k, none⟩ = false := fun k => frozen_of_heap HB2_wq4.out.hb
            go_simp
            refine hK _ _ (fun h => (by cases h)) ?_
            clear hK K__
            try simp only [Act.put, List.setIfInBounds_toArray, List.set_cons_zero, List.set_cons_succ]
            refine Mask.done (by kernel_rfl) ?_ _
            go_wp2
            go_meet
            case rel =>
              have hne : W.heap.size ≠ wq2.heap.size := by omega
              exact ⟨W.heap.size, wq2.heap.size, κq4, xa1, xc1, xa2, xc2, xa3, xc3, ya1, yc1, ya2, yc2, ya3, yc3, rfl, rfl, two_nodes HL_wq4 HB1_wq4 HB2_wq4 hne (Nat.le_trans hWw hge1) (Nat.le_trans hWw hge2) _ _ _ _ _ _ _ _ _ _⟩
        · -- 16: alloc T60
          go_simp
          generalize hG__ : wq2.alloc (.cells #[Value.bool false, Value.bool false, Value.slice none 0 0, Value.slice none 0 0, Value.slice none 0 0] 60) = wq3
          have hZ : Below wq2.heap.size wq2 wq3 := hG__ ▸ (Below.refl _ _).alloc (Nat.le_refl _) _
          have hnew : BoxAt κq2 wq3 wq2.heap.size #[Value.bool false, Value.bool false, Value.slice none 0 0, Value.slice none 0 0, Value.slice none 0 0] 60 := hG__ ▸ BoxAt.new HL_wq2.out.sup _ _
          have HL_wq3 := Lib.hid (HL_wq2.out.later hZ (Ext.refl κq2 wq2) (HL_wq2.out.sup.mono hZ.size))
          have HB1_wq3 := Lib.hid (HB1_wq2.out.later hZ (Ext.refl κq2 wq2))
          have hSn := hS.trans (hZ.mono hS.size)
          have hge12 : W.heap.size < wq2.heap.size := lt_of_heap HB1_wq2.out.hb
          have HB2_wq3 := Lib.hid hnew
          have hge2 : W.heap.size ≤ wq2.heap.size := hS.size
          clear hG__ hZ hnew
          refine hK _ _ (fun _ => ?_) ?_
          · exact hSn
          replace hS := hSn; clear hSn
          clear hK K__
          try simp only [Act.put, List.setIfInBounds_toArray, List.set_cons_zero, List.set_cons_succ]
          -- 13: call F77[i64:0, u32:1] types#[3, 112]
          refine Mask.one 13 (by kernel_rfl) rfl rfl (fun K__ hK => ?_)
          go_simp
          refine (of_any 0 1 (by decide) (by decide) _).mono ?_
          rintro e w' ⟨rfl, hw'⟩; replace hw' := hw'.symm; subst hw'
          refine hK _ _ (fun _ => ?_) ?_
          · exact hS
          clear hK K__
          try simp only [Act.put, List.setIfInBounds_toArray, List.set_cons_zero, List.set_cons_succ]
          -- 14: call F78[t115, t116] types#[38, 41]
          refine Mask.one 14 (by kernel_rfl) rfl rfl (fun K__ hK => ?_)
          go_simp
          refine (look_at HL_wq3.out.wd.ar HL_wq3.out.sup (refOf 0 1) HG0.out).mono ?_
          rintro e wq4 ⟨v__, κq4, rfl, hv__, hZ, hE, hSu⟩
          rw [HN0.out] at hv__
          obtain ⟨yp, yk, yw, rfl, rp, rk, rw⟩ := hv__
          obtain ⟨ya1, yc1, rfl, _, _⟩ := rp.shape
          obtain ⟨ya2, yc2, rfl, _, _⟩ := rk.shape
          obtain ⟨ya3, yc3, rfl, _, _⟩ := rw.shape
          have HL_wq4 := Lib.hid (HL_wq3.out.later hZ hE hSu)
          have HB1_wq4 := Lib.hid (HB1_wq3.out.later hZ hE)
          have HB2_wq4 := Lib.hid (HB2_wq3.out.later hZ hE)
          have hSn := hS.trans (hZ.mono hS.size)
          clear hZ hE hSu rp rk rw
          refine hK _ _ (fun _ => ?_) ?_
          · exact hSn
          replace hS := hSn; clear hSn
          clear hK K__
          try simp only [Act.put, List.setIfInBounds_toArray, List.set_cons_zero, List.set_cons_succ]
          -- 17: store T60 t13 t111
          refine Mask.one 17 (by kernel_rfl) rfl rfl (fun K__ hK => ?_)
          have y10 : wq4.cell? ⟨W.heap.size, 0, none⟩ = some (.bool false) := cellAt HB1_wq4.out.hb 0 rfl
          have y11 : wq4.cell? ⟨W.heap.size, 1, none⟩ = some (.bool false) := cellAt HB1_wq4.out.hb 1 rfl
          have y12 : wq4.cell? ⟨W.heap.size, 2, none⟩ = some (.slice none 0 0) := cellAt HB1_wq4.out.hb 2 rfl
          have y13 : wq4.cell? ⟨W.heap.size, 3, none⟩ = some (.slice none 0 0) := cellAt HB1_wq4.out.hb 3 rfl
          have y14 : wq4.cell? ⟨W.heap.size, 4, none⟩ = some (.slice none 0 0) := cellAt HB1_wq4.out.hb 4 rfl
          have yz1 : ∀ k, wq4.frozen? ⟨W.heap.size, k, none⟩ = false := fun k => frozen_of_heap HB1_wq4.out.hb
          have hne1 : ¬ W.heap.size = wq2.heap.size := by omega
          have hne2 : ¬ wq2.heap.size = W.heap.size := by omega
          go_simp
          refine hK _ _ (fun h => (by cases h)) ?_
          clear hK K__
          try simp only [Act.put, List.setIfInBounds_toArray, List.set_cons_zero, List.set_cons_succ]
          -- 18: store T60 t14 t117
          refine Mask.one 18 (by kernel_rfl) rfl rfl (fun K__ hK => ?_)
          have y20 : wq4.cell? ⟨wq2.heap.size, 0, none⟩ = some (.bool false) := cellAt HB2_wq4.out.hb 0 rfl
          have y21 : wq4.cell? ⟨wq2.heap.size, 1, none⟩ = some (.bool false) := cellAt HB2_wq4.out.hb 1 rfl
          have y22 : wq4.cell? ⟨wq2.heap.size, 2, none⟩ = some (.slice none 0 0) := cellAt HB2_wq4.out.hb 2 rfl
          have y23 : wq4.cell? ⟨wq2.heap.size, 3, none⟩ = some (.slice none 0 0) := cellAt HB2_wq4.out.hb 3 rfl
          have y24 : wq4.cell? ⟨wq2.heap.size, 4, none⟩ = some (.slice none 0 0) := cellAt HB2_wq4.out.hb 4 rfl
          have yz2 : ∀ k, wq4.frozen? ⟨wq2.heap.size, k, none⟩ = false := fun k => frozen_of_heap HB2_wq4.out.hb
          go_simp
          refine hK _ _ (fun h => (by cases h)) ?_
          clear hK K__
          try simp only [Act.put, List.setIfInBounds_toArray, List.set_cons_zero, List.set_cons_succ]
          refine Mask.done (by kernel_rfl) ?_ _
          go_wp2
          go_meet
          case rel =>
            have hne : W.heap.size ≠ wq2.heap.size := by omega
            exact ⟨W.heap.size, wq2.heap.size, κq4, xa1, xc1, xa2, xc2, xa3, xc3, ya1, yc1, ya2, yc2, ya3, yc3, rfl, rfl, two_nodes HL_wq4 HB1_wq4 HB2_wq4 hne (Nat.le_trans hWw hge1) (Nat.le_trans hWw hge2) _ _ _ _ _ _ _ _ _ _⟩
      · -- 16: alloc T60
        go_simp
        generalize hG__ : wq1.alloc (.cells #[Value.bool false, Value.bool false, Value.slice none 0 0, Value.slice none 0 0, Value.slice none 0 0] 60) = wq2
        have hZ : Below wq1.heap.size wq1 wq2 := hG__ ▸ (Below.refl _ _).alloc (Nat.le_refl _) _
        have hnew : BoxAt κ1 wq2 wq1.heap.size #[Value.bool false, Value.bool false, Value.slice none 0 0, Value.slice none 0 0, Value.slice none 0 0] 60 := hG__ ▸ BoxAt.new HL_wq1.out.sup _ _
        have HL_wq2 := Lib.hid (HL_wq1.out.later hZ (Ext.refl κ1 wq1) (HL_wq1.out.sup.mono hZ.size))
        have HB1_wq2 := Lib.hid (HB1_wq1.out.later hZ (Ext.refl κ1 wq1))
        have hSn := hS.trans (hZ.mono hS.size)
        have hge12 : W.heap.size < wq1.heap.size := lt_of_heap HB1_wq1.out.hb
        have HB2_wq2 := Lib.hid hnew
        have hge2 : W.heap.size ≤ wq1.heap.size := hS.size
        clear hG__ hZ hnew
        refine hK _ _ (fun _ => ?_) ?_
        · exact hSn
        replace hS := hSn; clear hSn
        clear hK K__
        try simp only [Act.put, List.setIfInBounds_toArray, List.set_cons_zero, List.set_cons_succ]
        -- 8: call F78[t106, t110] types#[38, 41]
        refine Mask.one 8 (by kernel_rfl) rfl rfl (fun K__ hK => ?_)
        go_simp
        refine (look_at HL_wq2.out.wd.ar HL_wq2.out.sup (refOf 1 1) HG1.out).mono ?_
        rintro e wq3 ⟨v__, κq3, rfl, hv__, hZ, hE, hSu⟩
        rw [HN1.out] at hv__
        obtain ⟨xp, xk, xw, rfl, rp, rk, rw⟩ := hv__
        obtain ⟨xa1, xc1, rfl, _, _⟩ := rp.shape
        obtain ⟨xa2, xc2, rfl, _, _⟩ := rk.shape
        obtain ⟨xa3, xc3, rfl, _, _⟩ := rw.shape
        have HL_wq3 := Lib.hid (HL_wq2.out.later hZ hE hSu)
        have HB1_wq3 := Lib.hid (HB1_wq2.out.later hZ hE)
        have HB2_wq3 := Lib.hid (HB2_wq2.out.later hZ hE)
        have hSn := hS.trans (hZ.mono hS.size)
        clear hZ hE hSu rp rk rw
        refine hK _ _ (fun _ => ?_) ?_
        · exact hSn
        replace hS := hSn; clear hSn
        clear hK K__
        try simp only [Act.put, List.setIfInBounds_toArray, List.set_cons_zero, List.set_cons_succ]
        -- 13: call F77[i64:0, u32:1] types#[3, 112]
        refine Mask.one 13 (by kernel_rfl) rfl rfl (fun K__ hK => ?_)
        go_simp
        refine (of_any 0 1 (by decide) (by decide) _).mono ?_
        rintro e w' ⟨rfl, hw'⟩; replace hw' := hw'.symm; subst hw'
        refine hK _ _ (fun _ => ?_) ?_
        · exact hS
        clear hK K__
        try simp only [Act.put, List.setIfInBounds_toArray, List.set_cons_zero, List.set_cons_succ]
        -- 14: call F78[t115, t116] types#[38, 41]
        refine Mask.one 14 (by kernel_rfl) rfl rfl (fun K__ hK => ?_)
        go_simp
        refine (look_at HL_wq3.out.wd.ar HL_wq3.out.sup (refOf 0 1) HG0.out).mono ?_
        rintro e wq4 ⟨v__, κq4, rfl, hv__, hZ, hE, hSu⟩
        rw [HN0.out] at hv__
        obtain ⟨yp, yk, yw, rfl, rp, rk, rw⟩ := hv__
        obtain ⟨ya1, yc1, rfl, _, _⟩ := rp.shape
        obtain ⟨ya2, yc2, rfl, _, _⟩ := rk.shape
        obtain ⟨ya3, yc3, rfl, _, _⟩ := rw.shape
        have HL_wq4 := Lib.hid (HL_wq3.out.later hZ hE hSu)
        have HB1_wq4 := Lib.hid (HB1_wq3.out.later hZ hE)
        have HB2_wq4 := Lib.hid (HB2_wq3.out.later hZ hE)
        have hSn := hS.trans (hZ.mono hS.size)
        clear hZ hE hSu rp rk rw
        refine hK _ _ (fun _ => ?_) ?_
        · exact hSn
        replace hS := hSn; clear hSn
        clear hK K__
        try simp only [Act.put, List.setIfInBounds_toArray, List.set_cons_zero, List.set_cons_succ]
        -- 17: store T60 t13 t111
        refine Mask.one 17 (by kernel_rfl) rfl rfl (fun K__ hK => ?_)
        have y10 : wq4.cell? ⟨W.heap.size, 0, none⟩ = some (.bool false) := cellAt HB1_wq4.out.hb 0 rfl
        have y11 : wq4.cell? ⟨W.heap.size, 1, none⟩ = some (.bool false) := cellAt HB1_wq4.out.hb 1 rfl
        have y12 : wq4.cell? ⟨W.heap.size, 2, none⟩ = some (.slice none 0 0) := cellAt HB1_wq4.out.hb 2 rfl
        have y13 : wq4.cell? ⟨W.heap.size, 3, none⟩ = some (.slice none 0 0) := cellAt HB1_wq4.out.hb 3 rfl
        have y14 : wq4.cell? ⟨W.heap.size, 4, none⟩ = some (.slice none 0 0) := cellAt HB1_wq4.out.hb 4 rfl
        have yz1 : ∀ k, wq4.frozen? ⟨W.heap.size, k, none⟩ = false := fun k => frozen_of_heap HB1_wq4.out.hb
        have hne1 : ¬ W.heap.size = wq1.heap.size := by omega
        have hne2 : ¬ wq1.heap.size = W.heap.size := by omega
        go_simp
        refine hK _ _ (fun h => (by cases h)) ?_
        clear hK K__
        try simp only [Act.put, List.setIfInBounds_toArray, List.set_cons_zero, List.set_cons_succ]
        -- 18: store T60 t14 t117
        refine Mask.one 18 (by kernel_rfl) rfl rfl (fun K__ hK => ?_)
        have y20 : wq4.cell? ⟨wq1.heap.size, 0, none⟩ = some (.bool false) := cellAt HB2_wq4.out.hb 0 rfl
        have y21 : wq4.cell? ⟨wq1.heap.size, 1, none⟩ = some (.bool false) := cellAt HB2_wq4.out.hb 1 rfl
        have y22 : wq4.cell? ⟨wq1.heap.size, 2, none⟩ = some (.slice none 0 0) := cellAt HB2_wq4.out.hb 2 rfl
        have y23 : wq4.cell? ⟨wq1.heap.size, 3, none⟩ = some (.slice none 0 0) := cellAt HB2_wq4.out.hb 3 rfl
        have y24 : wq4.cell? ⟨wq1.heap.size, 4, none⟩ = some (.slice none 0 0) := cellAt HB2_wq4.out.hb 4 rfl
        have yz2 : ∀ k, wq4.frozen? ⟨wq1.heap.size, k, none⟩ = false := fun k => frozen_of_heap HB2_wq4.out.hb
        go_simp
        refine hK _ _ (fun h => (by cases h)) ?_
        clear hK K__
        try simp only [Act.put, List.setIfInBounds_toArray, List.set_cons_zero, List.set_cons_succ]
        refine Mask.done (by kernel_rfl) ?_ _
        go_wp2
        go_meet
        case rel =>
          have hne : W.heap.size ≠ wq1.heap.size := by omega
          exact ⟨W.heap.size, wq1.heap.size, κq4, xa1, xc1, xa2, xc2, xa3, xc3, ya1, yc1, ya2, yc2, ya3, yc3, rfl, rfl, two_nodes HL_wq4 HB1_wq4 HB2_wq4 hne (Nat.le_trans hWw hge1) (Nat.le_trans hWw hge2) _ _ _ _ _ _ _ _ _ _⟩
    · -- 16: alloc T60
      go_simp
      generalize hG__ : W.alloc (.cells #[Value.bool false, Value.bool false, Value.slice none 0 0, Value.slice none 0 0, Value.slice none 0 0] 60) = wq1
      have hZ : Below W.heap.size W wq1 := hG__ ▸ (Below.refl _ _).alloc (Nat.le_refl _) _
      have hnew : BoxAt κ1 wq1 W.heap.size #[Value.bool false, Value.bool false, Value.slice none 0 0, Value.slice none 0 0, Value.slice none 0 0] 60 := hG__ ▸ BoxAt.new HL_W.out.sup _ _
      have HL_wq1 := Lib.hid (HL_W.out.later hZ (Ext.refl κ1 W) (HL_W.out.sup.mono hZ.size))
      have hSn := hS.trans (hZ.mono hS.size)
      have HB2_wq1 := Lib.hid hnew
      have hge2 : W.heap.size ≤ W.heap.size := hS.size
      clear hG__ hZ hnew
      refine hK _ _ (fun _ => ?_) ?_
      · exact hSn
      replace hS := hSn; clear hSn
      clear hK K__
      try simp only [Act.put, List.setIfInBounds_toArray, List.set_cons_zero, List.set_cons_succ]
      refine Mask.two 8 15 (by kernel_rfl) rfl rfl rfl rfl (fun K__ hK => ?_) (fun K__ hK => ?_)
      · -- 8: call F78[t106, t110] types#[38, 41]
        go_simp
        refine (look_at HL_wq1.out.wd.ar HL_wq1.out.sup (refOf 1 1) HG1.out).mono ?_
        rintro e wq2 ⟨v__, κq2, rfl, hv__, hZ, hE, hSu⟩
        rw [HN1.out] at hv__
        obtain ⟨xp, xk, xw, rfl, rp, rk, rw⟩ := hv__
        obtain ⟨xa1, xc1, rfl, _, _⟩ := rp.shape
        obtain ⟨xa2, xc2, rfl, _, _⟩ := rk.shape
        obtain ⟨xa3, xc3, rfl, _, _⟩ := rw.shape
        have HL_wq2 := Lib.hid (HL_wq1.out.later hZ hE hSu)
        have HB2_wq2 := Lib.hid (HB2_wq1.out.later hZ hE)
        have hSn := hS.trans (hZ.mono hS.size)
        clear hZ hE hSu rp rk rw
        refine hK _ _ (fun _ => ?_) ?_
        · exact hSn
        replace hS := hSn; clear hSn
        clear hK K__
        try simp only [Act.put, List.setIfInBounds_toArray, List.set_cons_zero, List.set_cons_succ]
        refine Mask.two 13 15 (by kernel_rfl) rfl rfl rfl rfl (fun K__ hK => ?_) (fun K__ hK => ?_)
        · -- 13: call F77[i64:0, u32:1] types#[3, 112]
          go_simp
          refine (of_any 0 1 (by decide) (by decide) _).mono ?_
          rintro e w' ⟨rfl, hw'⟩; replace hw' := hw'.symm; subst hw'
          refine hK _ _ (fun _ => ?_) ?_
          · exact hS
          clear hK K__
          try simp only [Act.put, List.setIfInBounds_toArray, List.set_cons_zero, List.set_cons_succ]
          refine Mask.two 14 15 (by kernel_rfl) rfl rfl rfl rfl (fun K__ hK => ?_) (fun K__ hK => ?_)
          · -- 14: call F78[t115, t116] types#[38, 41]
            go_simp
            refine (look_at HL_wq2.out.wd.ar HL_wq2.out.sup (refOf 0 1) HG0.out).mono ?_
            rintro e wq3 ⟨v__, κq3, rfl, hv__, hZ, hE, hSu⟩
            rw [HN0.out] at hv__
            obtain ⟨yp, yk, yw, rfl, rp, rk, rw⟩ := hv__
            obtain ⟨ya1, yc1, rfl, _, _⟩ := rp.shape
            obtain ⟨ya2, yc2, rfl, _, _⟩ := rk.shape
            obtain ⟨ya3, yc3, rfl, _, _⟩ := rw.shape
            have HL_wq3 := Lib.hid (HL_wq2.out.later hZ hE hSu)
            have HB2_wq3 := Lib.hid (HB2_wq2.out.later hZ hE)
            have hSn := hS.trans (hZ.mono hS.size)
            clear hZ hE hSu rp rk rw
            refine hK _ _ (fun _ => ?_) ?_
            · exact hSn
            replace hS := hSn; clear hSn
            clear hK K__
            try simp only [Act.put, List.setIfInBounds_toArray, List.set_cons_zero, List.set_cons_succ]
            -- 15: alloc T60
            refine Mask.one 15 (by kernel_rfl) rfl rfl (fun K__ hK => ?_)
            go_simp
            generalize hG__ : wq3.alloc (.cells #[Value.bool false, Value.bool false, Value.slice none 0 0, Value.slice none 0 0, Value.slice none 0 0] 60) = wq4
            have hZ : Below wq3.heap.size wq3 wq4 := hG__ ▸ (Below.refl _ _).alloc (Nat.le_refl _) _
            have hnew : BoxAt κq3 wq4 wq3.heap.size #[Value.bool false, Value.bool false, Value.slice none 0 0, Value.slice none 0 0, Value.slice none 0 0] 60 := hG__ ▸ BoxAt.new HL_wq3.out.sup _ _
            have HL_wq4 := Lib.hid (HL_wq3.out.later hZ (Ext.refl κq3 wq3) (HL_wq3.out.sup.mono hZ.size))
            have HB2_wq4 := Lib.hid (HB2_wq3.out.later hZ (Ext.refl κq3 wq3))
            have hSn := hS.trans (hZ.mono hS.size)
            have hge12 : W.heap.size < wq3.heap.size := lt_of_heap HB2_wq3.out.hb
            have HB1_wq4 := Lib.hid hnew
            have hge1 : W.heap.size ≤ wq3.heap.size := hS.size
            clear hG__ hZ hnew
            refine hK _ _ (fun _ => ?_) ?_
            · exact hSn
            replace hS := hSn; clear hSn
            clear hK K__
            try simp only [Act.put, List.setIfInBounds_toArray, List.set_cons_zero, List.set_cons_succ]
            -- 17: store T60 t13 t111
            refine Mask.one 17 (by kernel_rfl) rfl rfl (fun K__ hK => ?_)
            have y10 : wq4.cell? ⟨wq3.heap.size, 0, none⟩ = some (.bool false) := cellAt HB1_wq4.out.hb 0 rfl
            have y11 : wq4.cell? ⟨wq3.heap.size, 1, none⟩ = some (.bool false) := cellAt HB1_wq4.out.hb 1 rfl
            have y12 : wq4.cell? ⟨wq3.heap.size, 2, none⟩ = some (.slice none 0 0) := cellAt HB1_wq4.out.hb 2 rfl
            have y13 : wq4.cell? ⟨wq3.heap.size, 3, none⟩ = some (.slice none 0 0) := cellAt HB1_wq4.out.hb 3 rfl
            have y14 : wq4.cell? ⟨wq3.heap.size, 4, none⟩ = some (.slice none 0 0) := cellAt HB1_wq4.out.hb 4 rfl
            have yz1 : ∀ k, wq4.frozen? ⟨wq3.heap.size, k, none⟩ = false := fun k => frozen_of_heap HB1_wq4.out.hb
            have hne1 : ¬ wq3.heap.size = W.heap.size := by omega
            have hne2 : ¬ W.heap.size = wq3.heap.size := by omega
            go_simp
            refine hK _ _ (fun h => (by cases h)) ?_
            clear hK K__
            try simp only [Act.put, List.setIfInBounds_toArray, List.set_cons_zero, List.set_cons_succ]
            -- 18: store T60 t14 t117
            refine Mask.one 18 (by kernel_rfl) rfl rfl (fun K__ hK => ?_)
            have y20 : wq4.cell? ⟨W.heap.size, 0, none⟩ = some (.bool false) := cellAt HB2_wq4.out.hb 0 rfl
            have y21 : wq4.cell? ⟨W.heap.size, 1, none⟩ = some (.bool false) := cellAt HB2_wq4.out.hb 1 rfl
            have y22 : wq4.cell? ⟨W.heap.size, 2, none⟩ = some (.slice none 0 0) := cellAt HB2_wq4.out.hb 2 rfl
            have y23 : wq4.cell? ⟨W.heap.size, 3, none⟩ = some (.slice none 0 0) := cellAt HB2_wq4.out.hb 3 rfl
            have y24 : wq4.cell? ⟨W.heap.size, 4, none⟩ = some (.slice none 0 0) := cellAt HB2_wq4.out.hb 4 rfl
            have yz2 : ∀ k, wq4.frozen? ⟨W.heap.size, k, none⟩ = false := fun k => frozen_of_heap HB2_wq4.out.hb
            go_simp
            refine hK _ _ (fun h => (by cases h)) ?_
            clear hK K__
            try simp only [Act.put, List.setIfInBounds_toArray, List.set_cons_zero, List.set_cons_succ]
            refine Mask.done (by kernel_rfl) ?_ _
            go_wp2
            go_meet
            case rel =>
              have hne : wq3.heap.size ≠ W.heap.size := by omega
              exact ⟨wq3.heap.size, W.heap.size, κq3, xa1, xc1, xa2, xc2, xa3, xc3, ya1, yc1, ya2, yc2, ya3, yc3, rfl, rfl, two_nodes HL_wq4 HB1_wq4 HB2_wq4 hne (Nat.le_trans hWw hge1) (Nat.le_trans hWw hge2) _ _ _ _ _ _ _ _ _ _⟩
          · -- 15: alloc T60
            go_simp
            generalize hG__ : wq2.alloc (.cells #[Value.bool false, Value.bool false, Value.slice none 0 0, Value.slice none 0 0, Value.slice none 0 0] 60) = wq3
            have hZ : Below wq2.heap.size wq2 wq3 := hG__ ▸ (Below.refl _ _).alloc (Nat.le_refl _) _
            have hnew : BoxAt κq2 wq3 wq2.heap.size #[Value.bool false, Value.bool false, Value.slice none 0 0, Value.slice none 0 0, Value.slice none 0 0] 60 := hG__ ▸ BoxAt.new HL_wq2.out.sup _ _
            have HL_wq3 := Lib.hid (HL_wq2.out.later hZ (Ext.refl κq2 wq2) (HL_wq2.out.sup.mono hZ.size))
            have HB2_wq3 := Lib.hid (HB2_wq2.out.later hZ (Ext.refl κq2 wq2))
            have hSn := hS.trans (hZ.mono hS.size)
            have hge12 : W.heap.size < wq2.heap.size := lt_of_heap HB2_wq2.out.hb
            have HB1_wq3 := Lib.hid hnew
            have hge1 : W.heap.size ≤ wq2.heap.size := hS.size
            clear hG__ hZ hnew
            refine hK _ _ (fun _ => ?_) ?_
            · exact hSn
            replace hS := hSn; clear hSn
            clear hK K__
            try simp only [Act.put, List.setIfInBounds_toArray, List.set_cons_zero, List.set_cons_succ]
            -- 14: call F78[t115, t116] types#[38, 41]
            refine Mask.one 14 (by kernel_rfl) rfl rfl (fun K__ hK => ?_)
            go_simp
            refine (look_at HL_wq3.out.wd.ar HL_wq3.out.sup (refOf 0 1) HG0.out).mono ?_
            rintro e wq4 ⟨v__, κq4, rfl, hv__, hZ, hE, hSu⟩
            rw [HN0.out] at hv__
            obtain ⟨yp, yk, yw, rfl, rp, rk, rw⟩ := hv__
            obtain ⟨ya1, yc1, rfl, _, _⟩ := rp.shape
            obtain ⟨ya2, yc2, rfl, _, _⟩ := rk.shape
            obtain ⟨ya3, yc3, rfl, _, _⟩ := rw.shape
            have HL_wq4 := Lib.hid (HL_wq3.out.later hZ hE hSu)
            have HB2_wq4 := Lib.hid (HB2_wq3.out.later hZ hE)
            have HB1_wq4 := Lib.hid (HB1_wq3.out.later hZ hE)
            have hSn := hS.trans (hZ.mono hS.size)
            clear hZ hE hSu rp rk rw
            refine hK _ _ (fun _ => ?_) ?_
            · exact hSn
            replace hS := hSn; clear hSn
            clear hK K__
            try simp only [Act.put, List.setIfInBounds_toArray, List.set_cons_zero, List.set_cons_succ]
            -- 17: store T60 t13 t111
            refine Mask.one 17 (by kernel_rfl) rfl rfl (fun K__ hK => ?_)
            have y10 : wq4.cell? ⟨wq2.heap.size, 0, none⟩ = some (.bool false) := cellAt HB1_wq4.out.hb 0 rfl
            have y11 : wq4.cell? ⟨wq2.heap.size, 1, none⟩ = some (.bool false) := cellAt HB1_wq4.out.hb 1 rfl
            have y12 : wq4.cell? ⟨wq2.heap.size, 2, none⟩ = some (.slice none 0 0) := cellAt HB1_wq4.out.hb 2 rfl
            have y13 : wq4.cell? ⟨wq2.heap.size, 3, none⟩ = some (.slice none 0 0) := cellAt HB1_wq4.out.hb 3 rfl
            have y14 : wq4.cell? ⟨wq2.heap.size, 4, none⟩ = some (.slice none 0 0) := cellAt HB1_wq4.out.hb 4 rfl
            have yz1 : ∀ k, wq4.frozen? ⟨wq2.heap.size, k, none⟩ = false := fun k => frozen_of_heap HB1_wq4.out.hb
            have hne1 : ¬ wq2.heap.size = W.heap.size := by omega
            have hne2 : ¬ W.heap.size = wq2.heap.size := by omega
            go_simp
            refine hK _ _ (fun h => (by cases h)) ?_
            clear hK K__
            try simp only [Act.put, List.setIfInBounds_toArray, List.set_cons_zero, List.set_cons_succ]
            -- 18: store T60 t14 t117
            refine Mask.one 18 (by kernel_rfl) rfl rfl (fun K__ hK => ?_)
            have y20 : wq4.cell? ⟨W.heap.size, 0, none⟩ = some (.bool false) := cellAt HB2_wq4.out.hb 0 rfl
            have y21 : wq4.cell? ⟨W.heap.size, 1, none⟩ = some (.bool false) := cellAt HB2_wq4.out.hb 1 rfl
            have y22 : wq4.cell? ⟨W.heap.size, 2, none⟩ = some (.slice none 0 0) := cellAt HB2_wq4.out.hb 2 rfl
            have y23 : wq4.cell? ⟨W.heap.size, 3, none⟩ = some (.slice none 0 0) := cellAt HB2_wq4.out.hb 3 rfl
            have y24 : wq4.cell? ⟨W.heap.size, 4, none⟩ = some (.slice none 0 0) := cellAt HB2_wq4.out.hb 4 rfl
            have yz2 : ∀ k, wq4.frozen? ⟨W.heap.size, k, none⟩ = false := fun k => frozen_of_heap HB2_wq4.out.hb
            go_simp
            refine hK _ _ (fun h => (by cases h)) ?_
            clear hK K__
            try simp only [Act.put, List.setIfInBounds_toArray, List.set_cons_zero, List.set_cons_succ]
            refine Mask.done (by kernel_rfl) ?_ _
            go_wp2
            go_meet
            case rel =>
              have hne : wq2.heap.size ≠ W.heap.size := by omega
              exact ⟨wq2.heap.size, W.heap.size, κq4, xa1, xc1, xa2, xc2, xa3, xc3, ya1, yc1, ya2, yc2, ya3, yc3, rfl, rfl, two_nodes HL_wq4 HB1_wq4 HB2_wq4 hne (Nat.le_trans hWw hge1) (Nat.le_trans hWw hge2) _ _ _ _ _ _ _ _ _ _⟩
        · -- 15: alloc T60
          go_simp
          generalize hG__ : wq2.alloc (.cells #[Value.bool false, Value.bool false, Value.slice none 0 0, Value.slice none 0 0, Value.slice none 0 0] 60) = wq3
          have hZ : Below wq2.heap.size wq2 wq3 := hG__ ▸ (Below.refl _ _).alloc (Nat.le_refl _) _
          have hnew : BoxAt κq2 wq3 wq2.heap.size #[Value.bool false, Value.bool false, Value.slice none 0 0, Value.slice none 0 0, Value.slice none 0 0] 60 := hG__ ▸ BoxAt.new HL_wq2.out.sup _ _
          have HL_wq3 := Lib.hid (HL_wq2.out.later hZ (Ext.refl κq2 wq2) (HL_wq2.out.sup.mono hZ.size))
          have HB2_wq3 := Lib.hid (HB2_wq2.out.later hZ (Ext.refl κq2 wq2))
          have hSn := hS.trans (hZ.mono hS.size)
          have hge12 : W.heap.size < wq2.heap.size := lt_of_heap HB2_wq2.out.hb
          have HB1_wq3 := Lib.hid hnew
          have hge1 : W.heap.size ≤ wq2.heap.size := hS.size
          clear hG__ hZ hnew
          refine hK _ _ (fun _ => ?_) ?_
          · exact hSn
          replace hS := hSn; clear hSn
          clear hK K__
          try simp only [Act.put, List.setIfInBounds_toArray, List.set_cons_zero, List.set_cons_succ]
          -- 13: call F77[i64:0, u32:1] types#[3, 112]
          refine Mask.one 13 (by kernel_rfl) rfl rfl (fun K__ hK => ?_)
          go_simp
          refine (of_any 0 1 (by decide) (by decide) _).mono ?_
          rintro e w' ⟨rfl, hw'⟩; replace hw' := hw'.symm; subst hw'
          refine hK _ _ (fun _ => ?_) ?_
          · exact hS
          clear hK K__
          try simp only [Act.put, List.setIfInBounds_toArray, List.set_cons_zero, List.set_cons_succ]
          -- 14: call F78[t115, t116] types#[38, 41]
          refine Mask.one 14 (by kernel_rfl) rfl rfl (fun K__ hK => ?_)
          go_simp
          refine (look_at HL_wq3.out.wd.ar HL_wq3.out.sup (refOf 0 1) HG0.out).mono ?_
          rintro e wq4 ⟨v__, κq4, rfl, hv__, hZ, hE, hSu⟩
          rw [HN0.out] at hv__
          obtain ⟨yp, yk, yw, rfl, rp, rk, rw⟩ := hv__
          obtain ⟨ya1, yc1, rfl, _, _⟩ := rp.shape
          obtain ⟨ya2, yc2, rfl, _, _⟩ := rk.shape
          obtain ⟨ya3, yc3, rfl, _, _⟩ := rw.shape
          have HL_wq4 := Lib.hid (HL_wq3.out.later hZ hE hSu)
          have HB2_wq4 := Lib.hid (HB2_wq3.out.later hZ hE)
          have HB1_wq4 := Lib.hid (HB1_wq3.out.later hZ hE)
          have hSn := hS.trans (hZ.mono hS.size)
          clear hZ hE hSu rp rk rw
          refine hK _ _ (fun _ => ?_) ?_
          · exact hSn
          replace hS := hSn; clear hSn
          clear hK K__
          try simp only [Act.put, List.setIfInBounds_toArray, List.set_cons_zero, List.set_cons_succ]
          -- 17: store T60 t13 t111
          refine Mask.one 17 (by kernel_rfl) rfl rfl (fun K__ hK => ?_)
          have y10 : wq4.cell? ⟨wq2.heap.size, 0, none⟩ = some (.bool false) := cellAt HB1_wq4.out.hb 0 rfl
          have y11 : wq4.cell? ⟨wq2.heap.size, 1, none⟩ = some (.bool false) := cellAt HB1_wq4.out.hb 1 rfl
          have y12 : wq4.cell? ⟨wq2.heap.size, 2, none⟩ = some (.slice none 0 0) := cellAt HB1_wq4.out.hb 2 rfl
          have y13 : wq4.cell? ⟨wq2.heap.size, 3, none⟩ = some (.slice none 0 0) := cellAt HB1_wq4.out.hb 3 rfl
          have y14 : wq4.cell? ⟨wq2.heap.size, 4, none⟩ = some (.slice none 0 0) := cellAt HB1_wq4.out.hb 4 rfl
          have yz1 : ∀ k, wq4.frozen? ⟨wq2.heap.size, k, none⟩ = false := fun k => frozen_of_heap HB1_wq4.out.hb
          have hne1 : ¬ wq2.heap.size = W.heap.size := by omega
          have hne2 : ¬ W.heap.size = wq2.heap.size := by omega
          go_simp
          refine hK _ _ (fun h => (by cases h)) ?_
          clear hK K__
          try simp only [Act.put, List.setIfInBounds_toArray, List.set_cons_zero, List.set_cons_succ]
          -- 18: store T60 t14 t117
          refine Mask.one 18 (by kernel_rfl) rfl rfl (fun K__ hK => ?_)
          have y20 : wq4.cell? ⟨W.heap.size, 0, none⟩ = some (.bool false) := cellAt HB2_wq4.out.hb 0 rfl
          have y21 : wq4.cell? ⟨W.heap.size, 1, none⟩ = some (.bool false) := cellAt HB2_wq4.out.hb 1 rfl
          have y22 : wq4.cell? ⟨W.heap.size, 2, none⟩ = some (.slice none 0 0) := cellAt HB2_wq4.out.hb 2 rfl
          have y23 : wq4.cell? ⟨W.heap.size, 3, none⟩ = some (.slice none 0 0) := cellAt HB2_wq4.out.hb 3 rfl
          have y24 : wq4.cell? ⟨W.heap.size, 4, none⟩ = some (.slice none 0 0) := cellAt HB2_wq4.out.hb 4 rfl
          have yz2 : ∀ k, wq4.frozen? ⟨W.heap.size, k, none⟩ = false := fun k => frozen_of_heap HB2_wq4.out.hb
          go_simp
          refine hK _ _ (fun h => (by cases h)) ?_
          clear hK K__
          try simp only [Act.put, List.setIfInBounds_toArray, List.set_cons_zero, List.set_cons_succ]
          refine Mask.done (by kernel_rfl) ?_ _
          go_wp2
          go_meet
          case rel =>
            have hne : wq2.heap.size ≠ W.heap.size := by omega
            exact ⟨wq2.heap.size, W.heap.size, κq4, xa1, xc1, xa2, xc2, xa3, xc3, ya1, yc1, ya2, yc2, ya3, yc3, rfl, rfl, two_nodes HL_wq4 HB1_wq4 HB2_wq4 hne (Nat.le_trans hWw hge1) (Nat.le_trans hWw hge2) _ _ _ _ _ _ _ _ _ _⟩
      · -- 15: alloc T60
        go_simp
        generalize hG__ : wq1.alloc (.cells #[Value.bool false, Value.bool false, Value.slice none 0 0, Value.slice none 0 0, Value.slice none 0 0] 60) = wq2
        have hZ : Below wq1.heap.size wq1 wq2 := hG__ ▸ (Below.refl _ _).alloc (Nat.le_refl _) _
        have hnew : BoxAt κ1 wq2 wq1.heap.size #[Value.bool false, Value.bool false, Value.slice none 0 0, Value.slice none 0 0, Value.slice none 0 0] 60 := hG__ ▸ BoxAt.new HL_wq1.out.sup _ _
        have HL_wq2 := Lib.hid (HL_wq1.out.later hZ (Ext.refl κ1 wq1) (HL_wq1.out.sup.mono hZ.size))
        have HB2_wq2 := Lib.hid (HB2_wq1.out.later hZ (Ext.refl κ1 wq1))
        have hSn := hS.trans (hZ.mono hS.size)
        have hge12 : W.heap.size < wq1.heap.size := lt_of_heap HB2_wq1.out.hb
        have HB1_wq2 := Lib.hid hnew
        have hge1 : W.heap.size ≤ wq1.heap.size := hS.size
        clear hG__ hZ hnew
        refine hK _ _ (fun _ => ?_) ?_
        · exact hSn
        replace hS := hSn; clear hSn
        clear hK K__
        try simp only [Act.put, List.setIfInBounds_toArray, List.set_cons_zero, List.set_cons_succ]
        -- 8: call F78[t106, t110] types#[38, 41]
        refine Mask.one 8 (by kernel_rfl) rfl rfl (fun K__ hK => ?_)
        go_simp
        refine (look_at HL_wq2.out.wd.ar HL_wq2.out.sup (refOf 1 1) HG1.out).mono ?_
        rintro e wq3 ⟨v__, κq3, rfl, hv__, hZ, hE, hSu⟩
        rw [HN1.out] at hv__
        obtain ⟨xp, xk, xw, rfl, rp, rk, rw⟩ := hv__
        obtain ⟨xa1, xc1, rfl, _, _⟩ := rp.shape
        obtain ⟨xa2, xc2, rfl, _, _⟩ := rk.shape
        obtain ⟨xa3, xc3, rfl, _, _⟩ := rw.shape
        have HL_wq3 := Lib.hid (HL_wq2.out.later hZ hE hSu)
        have HB2_wq3 := Lib.hid (HB2_wq2.out.later hZ hE)
        have HB1_wq3 := Lib.hid (HB1_wq2.out.later hZ hE)
        have hSn := hS.trans (hZ.mono hS.size)
        clear hZ hE hSu rp rk rw
        refine hK _ _ (fun _ => ?_) ?_
        · exact hSn
        replace hS := hSn; clear hSn
        clear hK K__
        try simp only [Act.put, List.setIfInBounds_toArray, List.set_cons_zero, List.set_cons_succ]
        -- 13: call F77[i64:0, u32:1] types#[3, 112]
        refine Mask.one 13 (by kernel_rfl) rfl rfl (fun K__ hK => ?_)
        go_simp
        refine (of_any 0 1 (by decide) (by decide) _).mono ?_
        rintro e w' ⟨rfl, hw'⟩; replace hw' := hw'.symm; subst hw'
        refine hK _ _ (fun _ => ?_) ?_
        · exact hS
        clear hK K__
        try simp only [Act.put, List.setIfInBounds_toArray, List.set_cons_zero, List.set_cons_succ]
        -- 14: call F78[t115, t116] types#[38, 41]
        refine Mask.one 14 (by kernel_rfl) rfl rfl (fun K__ hK => ?_)
        go_simp
        refine (look_at HL_wq3.out.wd.ar HL_wq3.out.sup (refOf 0 1) HG0.out).mono ?_
        rintro e wq4 ⟨v__, κq4, rfl, hv__, hZ, hE, hSu⟩
        rw [HN0.out] at hv__
        obtain ⟨yp, yk, yw, rfl, rp, rk, rw⟩ := hv__
        obtain ⟨ya1, yc1, rfl, _, _⟩ := rp.shape
        obtain ⟨ya2, yc2, rfl, _, _⟩ := rk.shape
        obtain ⟨ya3, yc3, rfl, _, _⟩ := rw.shape
        have HL_wq4 := Lib.hid (HL_wq3.out.later hZ hE hSu)
        have HB2_wq4 := Lib.hid (HB2_wq3.out.later hZ hE)
        have HB1_wq4 := Lib.hid (HB1_wq3.out.later hZ hE)
        have hSn := hS.trans (hZ.mono hS.size)
        clear hZ hE hSu rp rk rw
        refine hK _ _ (fun _ => ?_) ?_
        · exact hSn
        replace hS := hSn; clear hSn
        clear hK K__
        try simp only [Act.put, List.setIfInBounds_toArray, List.set_cons_zero, List.set_cons_succ]
        -- 17: store T60 t13 t111
        refine Mask.one 17 (by kernel_rfl) rfl rfl (fun K__ hK => ?_)
        have y10 : wq4.cell? ⟨wq1.heap.size, 0, none⟩ = some (.bool false) := cellAt HB1_wq4.out.hb 0 rfl
        have y11 : wq4.cell? ⟨wq1.heap.size, 1, none⟩ = some (.bool false) := cellAt HB1_wq4.out.hb 1 rfl
        have y12 : wq4.cell? ⟨wq1.heap.size, 2, none⟩ = some (.slice none 0 0) := cellAt HB1_wq4.out.hb 2 rfl
        have y13 : wq4.cell? ⟨wq1.heap.size, 3, none⟩ = some (.slice none 0 0) := cellAt HB1_wq4.out.hb 3 rfl
        have y14 : wq4.cell? ⟨wq1.heap.size, 4, none⟩ = some (.slice none 0 0) := cellAt HB1_wq4.out.hb 4 rfl
        have yz1 : ∀ k, wq4.frozen? ⟨wq1.heap.size, k, none⟩ = false := fun k => frozen_of_heap HB1_wq4.out.hb
        have hne1 : ¬ wq1.heap.size = W.heap.size := by omega
        have hne2 : ¬ W.heap.size = wq1.heap.size := by omega
        go_simp
        refine hK _ _ (fun h => (by cases h)) ?_
        clear hK K__
        try simp only [Act.put, List.setIfInBounds_toArray, List.set_cons_zero, List.set_cons_succ]
        -- 18: store T60 t14 t117
        refine Mask.one 18 (by kernel_rfl) rfl rfl (fun K__ hK => ?_)
        have y20 : wq4.cell? ⟨W.heap.size, 0, none⟩ = some (.bool false) := cellAt HB2_wq4.out.hb 0 rfl
        have y21 : wq4.cell? ⟨W.heap.size, 1, none⟩ = some (.bool false) := cellAt HB2_wq4.out.hb 1 rfl
        have y22 : wq4.cell? ⟨W.heap.size, 2, none⟩ = some (.slice none 0 0) := cellAt HB2_wq4.out.hb 2 rfl
        have y23 : wq4.cell? ⟨W.heap.size, 3, none⟩ = some (.slice none 0 0) := cellAt HB2_wq4.out.hb 3 rfl
        have y24 : wq4.cell? ⟨W.heap.size, 4, none⟩ = some (.slice none 0 0) := cellAt HB2_wq4.out.hb 4 rfl
        have yz2 : ∀ k, wq4.frozen? ⟨W.heap.size, k, none⟩ = false := fun k => frozen_of_heap HB2_wq4.out.hb
        go_simp
        refine hK _ _ (fun h => (by cases h)) ?_
        clear hK K__
        try simp only [Act.put, List.setIfInBounds_toArray, List.set_cons_zero, List.set_cons_succ]
        refine Mask.done (by kernel_rfl) ?_ _
        go_wp2
        go_meet
        case rel =>
          have hne : wq1.heap.size ≠ W.heap.size := by omega
          exact ⟨wq1.heap.size, W.heap.size, κq4, xa1, xc1, xa2, xc2, xa3, xc3, ya1, yc1, ya2, yc2, ya3, yc3, rfl, rfl, two_nodes HL_wq4 HB1_wq4 HB2_wq4 hne (Nat.le_trans hWw hge1) (Nat.le_trans hWw hge2) _ _ _ _ _ _ _ _ _ _⟩
  case rest =>
    obtain ⟨b1, b2, κ2, xa1, xc1, xa2, xc2, xa3, xc3, ya1, yc1, ya2, yc2, ya3, yc3, rfl, rfl, HB1, HB2, HL⟩ := hcut
    clear HL0
    go_upto_region 9 with fail
    have x0 : wc.cell? ⟨b1, 0, none⟩ = some (.bool true) := cellAt HB1.out.hb 0 rfl
    have x1 : wc.cell? ⟨b1, 1, none⟩ = some (.bool false) := cellAt HB1.out.hb 1 rfl
    have x3 : wc.cell? ⟨b1, 3, none⟩ = some (.slice xa2 0 xc2) := cellAt HB1.out.hb 3 rfl
    have x4 : wc.cell? ⟨b1, 4, none⟩ = some (.slice xa3 1 xc3) := cellAt HB1.out.hb 4 rfl
    have c0 : wc.cell? ⟨p.pw, 0, none⟩ = some (.pointer (some ⟨p.pa, 0, none⟩)) := cellAt HL.out.wd.hpw 0 rfl
    have c5 : wc.cell? ⟨p.pw, 5, none⟩ = some (.int .i64 (refOf 1 1)) := by rw [← HPE.out]; exact cellAt HL.out.wd.hpw 5 rfl
    have HG1 := Lib.hid (show (Sh0 n nodes records).A.get (refOf 1 1) ≠ none by show (Ar0 nodes).get (refOf 1 1) ≠ none; rw [Ar0_get1 nodes hk]; simp)
    have hw : ((Sh0 n nodes records).A.way (refOf 1 1) 0).1 = refOf 0 1 := by show ((Ar0 nodes).way (refOf 1 1) 0).1 = refOf 0 1; unfold ArS.way; rw [Ar0_get1 nodes hk]; rfl
    go_quiet ((first | (go_at_call 41; exact Calls.quiet_of_same (way_at (HL.out.wd.ar.drewN _) _ _ HG1.out)) | (go_at_call 77; exact Calls.quiet_of_same (of_any 0 1 (by decide) (by decide) _))))
    go_upto_region 11 with fail
    have HLd := Lib.hid (HL.out.below (show Below wc.heap.size wc (wc.drewN nq) from Below.drawn (Below.refl _ _) _))
    have HB2d := Lib.hid (HB2.out.below (show Below wc.heap.size wc (wc.drewN nq) from Below.drawn (Below.refl _ _) _))
    clear x0 x1 x3 x4 c0 c5 HG1 hw HL HB1 HB2
    generalize wc.drewN nq = wd at *
    have y0 : wd.cell? ⟨b2, 0, none⟩ = some (.bool false) := cellAt HB2d.out.hb 0 rfl
    have y1 : wd.cell? ⟨b2, 1, none⟩ = some (.bool false) := cellAt HB2d.out.hb 1 rfl
    have y2 : wd.cell? ⟨b2, 2, none⟩ = some (.slice ya1 0 yc1) := cellAt HB2d.out.hb 2 rfl
    have c0 : wd.cell? ⟨p.pw, 0, none⟩ = some (.pointer (some ⟨p.pa, 0, none⟩)) := cellAt HLd.out.wd.hpw 0 rfl
    have c1 : wd.cell? ⟨p.pw, 1, none⟩ = some (.pointer (some ⟨p.pt, 0, none⟩)) := cellAt HLd.out.wd.hpw 1 rfl
    have c2 : wd.cell? ⟨p.pw, 2, none⟩ = some (.pointer (some ⟨p.pe, 0, none⟩)) := cellAt HLd.out.wd.hpw 2 rfl
    have hu : (Sh0 n nodes records).A.used = 2 := by show (Ar0 nodes).used = 2; rw [Ar0_eq nodes hk]
    have hm : (Sh0 n nodes records).A.most = nodes := by show (Ar0 nodes).most = nodes; rw [Ar0_eq nodes hk]
    have hf : (Sh0 n nodes records).A.faults = 0 := by show (Ar0 nodes).faults = 0; rw [Ar0_eq nodes hk]
    have ht : (((Sh0 n nodes records).T.ents.length : Nat) : Int) = 0 := rfl
    have he : (((Sh0 n nodes records).E.said.length : Nat) : Int) = n := by show ((List.replicate n (-1 : Int)).length : Int) = n; rw [List.length_replicate]
    have hnow : (Sh0 n nodes records).E.now = 0 := rfl
    have HX := Lib.hid (And.intro ht he)
    clear ht he
    go_wp2_with (first | (refine (used_ok HLd.out.wd.ar).mono ?_; rintro e w' ⟨rfl, hw'⟩; replace hw' := hw'.symm; subst hw') | (refine (most_ok HLd.out.wd.ar).mono ?_; rintro e w' ⟨rfl, hw'⟩; replace hw' := hw'.symm; subst hw') | (refine (faults_ok HLd.out.wd.ar).mono ?_; rintro e w' ⟨rfl, hw'⟩; replace hw' := hw'.symm; subst hw') | (refine (tlen_ok HLd.out.wd.tab).mono ?_; rintro e w' ⟨rfl, hw'⟩; replace hw' := hw'.symm; subst hw'; rw [HX.out.1]) | (refine (elen_ok HLd.out.wd.ep).mono ?_; rintro e w' ⟨rfl, hw'⟩; replace hw' := hw'.symm; subst hw'; rw [HX.out.2]) | (refine (now_ok HLd.out.wd.ep).mono ?_; rintro e w' ⟨rfl, hw'⟩; replace hw' := hw'.symm; subst hw'))
    go_ret
    exact ⟨rfl, HB.out.trans (HLd.out.below0.mono HB.out.size)⟩

theorem worldNew_ok (a b n nodes records : Int) (w : World) : Calls Try.prog 13 #[.int .i64 a, .int .i64 b, .int .i64 n, .int .i64 nodes, .int .i64 records] w fun e w' => e = .returned (.bool true) ∧ Below w.heap.size w w' := by
  by_cases c0 : a < 2
  · exact worldNew_bad0 a b n nodes records (by simpa using c0) w
  have e0 : decide (a < 2) = false := by simpa using c0
  by_cases c1 : 32 < a
  · exact worldNew_bad1 a b n nodes records e0 (by simpa using c1) w
  have e1 : decide (32 < a) = false := by simpa using c1
  by_cases c2 : b < wrap64 (wrap64 (2 * a) - 1)
  · exact worldNew_bad2 a b n nodes records e0 e1 (by simpa using c2) w
  have e2 : decide (b < wrap64 (wrap64 (2 * a) - 1)) = false := by simpa using c2
  by_cases c3 : 32 < b
  · exact worldNew_bad3 a b n nodes records e0 e1 e2 (by simpa using c3) w
  have e3 : decide (32 < b) = false := by simpa using c3
  by_cases c4 : n < 1
  · exact worldNew_bad4 a b n nodes records e0 e1 e2 e3 (by simpa using c4) w
  have e4 : decide (n < 1) = false := by simpa using c4
  by_cases c5 : 64 < n
  · exact worldNew_bad5 a b n nodes records e0 e1 e2 e3 e4 (by simpa using c5) w
  have e5 : decide (64 < n) = false := by simpa using c5
  by_cases c6 : nodes < 2
  · exact worldNew_bad6 a b n nodes records e0 e1 e2 e3 e4 e5 (by simpa using c6) w
  have e6 : decide (nodes < 2) = false := by simpa using c6
  by_cases c7 : 65536 < nodes
  · exact worldNew_bad7 a b n nodes records e0 e1 e2 e3 e4 e5 e6 (by simpa using c7) w
  have e7 : decide (65536 < nodes) = false := by simpa using c7
  by_cases c8 : records < 0
  · exact worldNew_bad8 a b n nodes records e0 e1 e2 e3 e4 e5 e6 e7 (by simpa using c8) w
  have e8 : decide (records < 0) = false := by simpa using c8
  by_cases c9 : 65536 < records
  · exact worldNew_bad9 a b n nodes records e0 e1 e2 e3 e4 e5 e6 e7 e8 (by simpa using c9) w
  obtain ⟨m, rfl⟩ := Int.eq_ofNat_of_zero_le (show (0 : Int) ≤ n by omega)
  have c2' : 2 * a - 1 ≤ b := by
    unfold wrap64 at c2
    omega
  exact worldNew_good a b m nodes records (by omega) (by omega) c2' (by omega) (by omega) (by omega) (by omega) (by omega) (by omega) (by omega) w
end Go.Proofs.Ytacmeafpieoaaaa
