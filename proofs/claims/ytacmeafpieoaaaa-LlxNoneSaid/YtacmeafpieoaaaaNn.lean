/- boscagelaw10.LlxNone returns true. -/
import Derived.Test.YtacmeafpieoaaaaNp
import Derived.Test.YtacmeafpieoaaaaAk
import Derived.Test.YtacmeafpieoaaaaNa
namespace Go.Proofs.Ytacmeafpieoaaaa
open Go.RowKit

theorem ar9 : (Ar0 9).used < (Ar0 9).most ∧ (Ar0 9).free = [] ∧ (Ar0 9).slots.length < 65536 := ⟨of_decide_eq_true (by kernel_rfl), by kernel_rfl, of_decide_eq_true (by kernel_rfl)⟩
theorem Lw.give {w wx : World} {κ : Nat → K} {wi : Nat} {p : WdP} {σ : ShS} (h : Lw w κ wi p σ wx) (cs : Array Value) (t : TypeId) : Lw w (upd κ wx.heap.size .imm) wi p σ (wx.alloc (.cells cs t)) :=
  h.later ((Below.refl _ _).alloc (Nat.le_refl _) _) (Ext.upd _ _ _ (Nat.le_refl _)) (h.sup.upd _ (by simp) (by simp))

set_option maxRecDepth 100000 in
set_option maxHeartbeats 1000000 in
theorem llxNone_walk (rc tm : Int) (hrc : 0 ≤ rc) (hrc' : rc ≤ 255) (htm : 0 ≤ tm) (htm' : tm ≤ 255) (r q : Nat) (hr : rc % 5 = (r : Int)) (hq : tm % 8 = (q : Int)) (w : World) :
    Calls Try.prog 19 #[.int .u8 rc, .int .u8 tm] w fun e w' => e = .returned (.bool true) ∧ Below w.heap.size w w' := by
  have hr4 : r ≤ 4 := by omega
  have hq7 : q ≤ 7 := by omega
  go_enter Try.func19, Try.ntmps19
  go_wp2_with fail
  refine (awake10_ok w).mono ?_
  rintro e w1 ⟨rfl, hB⟩
  have HB := Lib.hid hB
  clear hB
  go_wp2_with fail
  refine (newWorld_ok 0 (supNo w1) 2 3 1 9 r (by decide) (by decide) (by decide) (by decide) (by decide) (by decide) (by decide) (by decide) (by omega) (by omega)).mono ?_
  rintro e w2 ⟨κ2, p, rfl, _, _, hpe, hpt, hW, hF, hE, hS⟩
  have HL := Lib.hid (Lw.new hW hF hE hS)
  clear hW hF hE hS hpe hpt
  have c0 : w2.cell? ⟨p.pw, 0, none⟩ = some (.pointer (some ⟨p.pa, 0, none⟩)) := cellAt HL.out.wd.hpw 0 rfl
  have hpl := lt_of_heap HL.out.wd.hpw
  go_wp2_with fail
  clear c0
  generalize hW3 : w2.alloc (.cells #[.int .i64 400] 41) = w3
  have hB3 : Below w2.heap.size w2 w3 := hW3 ▸ (Below.refl _ _).alloc (Nat.le_refl _) _
  have hn3 : w3.heap[w2.heap.size]? = some (.cells #[.int .i64 400] 41 (0, 0)) := hW3 ▸ Laws.heap_new w2 _
  have HL3 := Lib.hid (HL.out.below hB3)
  have r1 : RowN κ2 (K.arena 0) w3 1 (.slice (some ⟨w2.heap.size, 0, none⟩) 1 1) nodeX.ways.length (intVs nodeX.ways) := RowN.new hn3 (by rw [HL.out.sup _ (Nat.le_refl _)]; rfl) 1 _ rfl 1 rfl
  clear hW3 hn3 hB3 HL
  refine (alloc_grow (n := nodeX) (vp := .slice none 0 0) (vk := .slice none 0 0) HL3.out.wd.ar HL3.out.sup ar9.1 ar9.2.1 ar9.2.2 (RowN.nil _ _ _ _) (RowN.nil _ _ _ _) r1 (by simp [nodeX, NodeS.zero]) (by simp [nodeX, NodeS.zero]) (by simp [nodeX, NodeS.zero])).mono ?_
  rintro e w4 ⟨κ4, rfl, hA, hF4, hE4, hS4⟩
  rw [show ((Sh0 1 9 r).A.alloc nodeX).1.1 = refX from rfl]
  have HL4 := Lib.hid (show Lw w1 κ4 0 p (ShX r 0) w4 from HL3.out.turnA hA hF4 hE4 hS4)
  clear hA hF4 hE4 hS4 r1 HL3 hpl
  go_upto_block 0 with fail
  rw [hq]
  clear hq htm htm'
  go_wp2
  go_loopw [40] (fun i wr => ∃ (n : Nat) (κ1 : Nat → Ytacmeafpieoaaaa.K), i = .int .i64 n ∧ n ≤ q ∧ Hid (Lw w1 κ1 0 p (ShX r n) wr)) (fun i _ => q - (intOf i).toNat)
  case atStart => exact ⟨0, κ4, rfl, Nat.zero_le _, HL4⟩
  case round =>
    clear HL4
    obtain ⟨n, κ5, rfl, hn, HL⟩ := hrel
    by_cases hlt : n < q
    · have hXF := xf r n hr4 (by omega)
      have HXF := Lib.hid hXF
      clear hXF
      rcases Nat.lt_trichotomy n r with hc | hc | hc
      · have hcz : ¬ r < n := by omega
        have HPX := Lib.hid (show changeP [refX] 1 0 (400 + (n : Int)) (401 + (n : Int)) = PX r n by unfold PX; rw [show 400 + (n : Int) = 400 + min (n : Int) (r : Int) by omega])
        have ho : ((PX r n).go (ShX r n)).2.1 = [1] := by rw [HXF.out.o, if_neg (by omega)]
        have hw : ((ShX r (n + 1)).A.way refX 0).1 = 400 + ((n : Int) + 1) := by have := HXF.out.w; rw [this]; omega
        have HO := Lib.hid ho
        have HWY := Lib.hid hw
        clear ho hw
        go_wp2_with fail
        generalize hW6 : wr.alloc (.cells #[.int .i64 refX] 41) = w6
        have hn6 : w6.heap[wr.heap.size]? = some (.cells #[.int .i64 refX] 41 (0, 0)) := hW6 ▸ Laws.heap_new wr _
        have HL6 := Lib.hid (show Lw w1 (upd κ5 wr.heap.size .imm) 0 p (ShX r n) w6 from hW6 ▸ HL.out.give _ _)
        have hrw : Row (upd κ5 wr.heap.size .imm) .imm w6 1 (.slice (some ⟨wr.heap.size, 0, none⟩) 1 1) 1 (intVs [refX]) := Row.newImm hn6 (upd_at _ _ _) 1 _ rfl 1 rfl
        clear hW6 hn6 HL
        refine (change_ok (wi := 0) HL6.out.sup 0 p 0 [refX] _ 1 hrw (by simp) 1 0 (400 + (n : Int)) (401 + (n : Int)) (by decide)).mono ?_
        rintro e w7 ⟨κ7, pth, caps1, rfl, hth, hwk, hB7, hE7, hS7⟩
        rw [HPX.out] at hwk
        have HL7 := Lib.hid (HL6.out.later hB7 hE7 hS7)
        have HTH := Lib.hid hth
        have HWK := Lib.hid hwk
        clear hth hwk hB7 hE7 hS7 HL6 hrw
        go_wp2_with fail
        obtain ⟨log', hends⟩ := (tl_changeP [refX] 1 0 (400 + min (n : Int) (r : Int)) (401 + (n : Int))).ends HXF.out.f (by have := HXF.out.n; show ((PX r n).go (ShX r n)).1 < 100000; omega)
        rw [show ((changeP [refX] 1 0 (400 + min (n : Int) (r : Int)) (401 + (n : Int))).go (ShX r n)).2.1 = [1] from HO.out] at hends
        have hnn : max ((changeP [refX] 1 0 (400 + min (n : Int) (r : Int)) (401 + (n : Int))).go (ShX r n)).1 1 ≤ 3000 := by have : ((changeP [refX] 1 0 (400 + min (n : Int) (r : Int)) (401 + (n : Int))).go (ShX r n)).1 ≤ 3000 := HXF.out.n; omega
        refine (alone_ok HTH.out HL7.out.wd HL7.out.sup enters121 HWK.out hnn hends (l := [1]) rfl (by decide)).mono ?_
        clear hnn
        rintro e w8 ⟨κ8, a1, c1, rfl, hrow, hwd, hth8, hF8, hE8, hS8⟩
        have HL8 := Lib.hid (show Lw w1 κ8 0 p (ShX r (n + 1)) w8 from HL7.out.turn hwd (hF8.mono K.step_run) hE8 hS8)
        have HTH8 := Lib.hid hth8
        clear hends hrow hwd hth8 hF8 hE8 hS8 HL7 HTH HWK
        go_wp2_with fail
        refine (came_ok HTH8.out (l := [1]) rfl (by simp)).mono ?_
        rintro e w9 ⟨rfl, hB9⟩
        have HL9 := Lib.hid (HL8.out.below hB9)
        clear hB9 HL8 HTH8
        have HG := Lib.hid (show (ShX r (n + 1)).A.get refX ≠ none by have := HXF.out.g; intro h; rw [h] at this; cases this)
        have c0 : w9.cell? ⟨p.pw, 0, none⟩ = some (.pointer (some ⟨p.pa, 0, none⟩)) := cellAt HL9.out.wd.hpw 0 rfl
        have hw := HWY.out
        rw [show came [1] = 1 from rfl]
        go_wp2_with fail
        refine (way_at HL9.out.wd.ar _ _ HG.out).mono ?_
        rintro e w' ⟨rfl, hw'⟩
        replace hw' := hw'.symm
        subst hw'
        rw [hw]
        clear hw
        go_wp2
        go_roundw
        case rel => first | exact ⟨n + 1, κ8, by go_num, by omega, HL9⟩ | ((repeat apply Exists.intro); exact ⟨⟨n + 1, κ8, by go_num, by omega, HL9⟩, rfl⟩)
        case measure => simp [intOf]; omega
      · have hcz : ¬ r < n := by omega
        have hcy : ¬ n < r := by omega
        clear hc
        have HPX := Lib.hid (show changeP [refX] 1 0 (400 + (n : Int)) (401 + (n : Int)) = PX r n by unfold PX; rw [show 400 + (n : Int) = 400 + min (n : Int) (r : Int) by omega])
        have ho : ((PX r n).go (ShX r n)).2.1 = [2] := by rw [HXF.out.o, if_pos (by omega)]
        have hw : ((ShX r (n + 1)).A.way refX 0).1 = 400 + (r : Int) := by have := HXF.out.w; rw [this]; omega
        have HO := Lib.hid ho
        have HWY := Lib.hid hw
        clear ho hw
        go_wp2_with fail
        generalize hW6 : wr.alloc (.cells #[.int .i64 refX] 41) = w6
        have hn6 : w6.heap[wr.heap.size]? = some (.cells #[.int .i64 refX] 41 (0, 0)) := hW6 ▸ Laws.heap_new wr _
        have HL6 := Lib.hid (show Lw w1 (upd κ5 wr.heap.size .imm) 0 p (ShX r n) w6 from hW6 ▸ HL.out.give _ _)
        have hrw : Row (upd κ5 wr.heap.size .imm) .imm w6 1 (.slice (some ⟨wr.heap.size, 0, none⟩) 1 1) 1 (intVs [refX]) := Row.newImm hn6 (upd_at _ _ _) 1 _ rfl 1 rfl
        clear hW6 hn6 HL
        refine (change_ok (wi := 0) HL6.out.sup 0 p 0 [refX] _ 1 hrw (by simp) 1 0 (400 + (n : Int)) (401 + (n : Int)) (by decide)).mono ?_
        rintro e w7 ⟨κ7, pth, caps1, rfl, hth, hwk, hB7, hE7, hS7⟩
        rw [HPX.out] at hwk
        have HL7 := Lib.hid (HL6.out.later hB7 hE7 hS7)
        have HTH := Lib.hid hth
        have HWK := Lib.hid hwk
        clear hth hwk hB7 hE7 hS7 HL6 hrw
        go_wp2_with fail
        obtain ⟨log', hends⟩ := (tl_changeP [refX] 1 0 (400 + min (n : Int) (r : Int)) (401 + (n : Int))).ends HXF.out.f (by have := HXF.out.n; show ((PX r n).go (ShX r n)).1 < 100000; omega)
        rw [show ((changeP [refX] 1 0 (400 + min (n : Int) (r : Int)) (401 + (n : Int))).go (ShX r n)).2.1 = [2] from HO.out] at hends
        have hnn : max ((changeP [refX] 1 0 (400 + min (n : Int) (r : Int)) (401 + (n : Int))).go (ShX r n)).1 1 ≤ 3000 := by have : ((changeP [refX] 1 0 (400 + min (n : Int) (r : Int)) (401 + (n : Int))).go (ShX r n)).1 ≤ 3000 := HXF.out.n; omega
        refine (alone_ok HTH.out HL7.out.wd HL7.out.sup enters121 HWK.out hnn hends (l := [2]) rfl (by decide)).mono ?_
        clear hnn
        rintro e w8 ⟨κ8, a1, c1, rfl, hrow, hwd, hth8, hF8, hE8, hS8⟩
        have HL8 := Lib.hid (show Lw w1 κ8 0 p (ShX r (n + 1)) w8 from HL7.out.turn hwd (hF8.mono K.step_run) hE8 hS8)
        have HTH8 := Lib.hid hth8
        clear hends hrow hwd hth8 hF8 hE8 hS8 HL7 HTH HWK
        go_wp2_with fail
        refine (came_ok HTH8.out (l := [2]) rfl (by simp)).mono ?_
        rintro e w9 ⟨rfl, hB9⟩
        have HL9 := Lib.hid (HL8.out.below hB9)
        clear hB9 HL8 HTH8
        have HG := Lib.hid (show (ShX r (n + 1)).A.get refX ≠ none by have := HXF.out.g; intro h; rw [h] at this; cases this)
        have c0 : w9.cell? ⟨p.pw, 0, none⟩ = some (.pointer (some ⟨p.pa, 0, none⟩)) := cellAt HL9.out.wd.hpw 0 rfl
        have hw := HWY.out
        rw [show came [2] = 2 from rfl]
        go_wp2_with fail
        refine (way_at HL9.out.wd.ar _ _ HG.out).mono ?_
        rintro e w' ⟨rfl, hw'⟩
        replace hw' := hw'.symm
        subst hw'
        rw [hw]
        clear hw
        go_wp2
        go_roundw
        case rel => first | exact ⟨n + 1, κ8, by go_num, by omega, HL9⟩ | ((repeat apply Exists.intro); exact ⟨⟨n + 1, κ8, by go_num, by omega, HL9⟩, rfl⟩)
        case measure => simp [intOf]; omega
      · have hcz : ¬ n < r := by omega
        have HPX := Lib.hid (show changeP [refX] 1 0 (400 + (r : Int)) (401 + (n : Int)) = PX r n by unfold PX; rw [show 400 + (r : Int) = 400 + min (n : Int) (r : Int) by omega])
        have ho : ((PX r n).go (ShX r n)).2.1 = [2] := by rw [HXF.out.o, if_pos (by omega)]
        have hw : ((ShX r (n + 1)).A.way refX 0).1 = 400 + (r : Int) := by have := HXF.out.w; rw [this]; omega
        have HO := Lib.hid ho
        have HWY := Lib.hid hw
        clear ho hw
        go_wp2_with fail
        generalize hW6 : wr.alloc (.cells #[.int .i64 refX] 41) = w6
        have hn6 : w6.heap[wr.heap.size]? = some (.cells #[.int .i64 refX] 41 (0, 0)) := hW6 ▸ Laws.heap_new wr _
        have HL6 := Lib.hid (show Lw w1 (upd κ5 wr.heap.size .imm) 0 p (ShX r n) w6 from hW6 ▸ HL.out.give _ _)
        have hrw : Row (upd κ5 wr.heap.size .imm) .imm w6 1 (.slice (some ⟨wr.heap.size, 0, none⟩) 1 1) 1 (intVs [refX]) := Row.newImm hn6 (upd_at _ _ _) 1 _ rfl 1 rfl
        clear hW6 hn6 HL
        refine (change_ok (wi := 0) HL6.out.sup 0 p 0 [refX] _ 1 hrw (by simp) 1 0 (400 + (r : Int)) (401 + (n : Int)) (by decide)).mono ?_
        rintro e w7 ⟨κ7, pth, caps1, rfl, hth, hwk, hB7, hE7, hS7⟩
        rw [HPX.out] at hwk
        have HL7 := Lib.hid (HL6.out.later hB7 hE7 hS7)
        have HTH := Lib.hid hth
        have HWK := Lib.hid hwk
        clear hth hwk hB7 hE7 hS7 HL6 hrw
        go_wp2_with fail
        obtain ⟨log', hends⟩ := (tl_changeP [refX] 1 0 (400 + min (n : Int) (r : Int)) (401 + (n : Int))).ends HXF.out.f (by have := HXF.out.n; show ((PX r n).go (ShX r n)).1 < 100000; omega)
        rw [show ((changeP [refX] 1 0 (400 + min (n : Int) (r : Int)) (401 + (n : Int))).go (ShX r n)).2.1 = [2] from HO.out] at hends
        have hnn : max ((changeP [refX] 1 0 (400 + min (n : Int) (r : Int)) (401 + (n : Int))).go (ShX r n)).1 1 ≤ 3000 := by have : ((changeP [refX] 1 0 (400 + min (n : Int) (r : Int)) (401 + (n : Int))).go (ShX r n)).1 ≤ 3000 := HXF.out.n; omega
        refine (alone_ok HTH.out HL7.out.wd HL7.out.sup enters121 HWK.out hnn hends (l := [2]) rfl (by decide)).mono ?_
        clear hnn
        rintro e w8 ⟨κ8, a1, c1, rfl, hrow, hwd, hth8, hF8, hE8, hS8⟩
        have HL8 := Lib.hid (show Lw w1 κ8 0 p (ShX r (n + 1)) w8 from HL7.out.turn hwd (hF8.mono K.step_run) hE8 hS8)
        have HTH8 := Lib.hid hth8
        clear hends hrow hwd hth8 hF8 hE8 hS8 HL7 HTH HWK
        go_wp2_with fail
        refine (came_ok HTH8.out (l := [2]) rfl (by simp)).mono ?_
        rintro e w9 ⟨rfl, hB9⟩
        have HL9 := Lib.hid (HL8.out.below hB9)
        clear hB9 HL8 HTH8
        have HG := Lib.hid (show (ShX r (n + 1)).A.get refX ≠ none by have := HXF.out.g; intro h; rw [h] at this; cases this)
        have c0 : w9.cell? ⟨p.pw, 0, none⟩ = some (.pointer (some ⟨p.pa, 0, none⟩)) := cellAt HL9.out.wd.hpw 0 rfl
        have hw := HWY.out
        rw [show came [2] = 2 from rfl]
        go_wp2_with fail
        refine (way_at HL9.out.wd.ar _ _ HG.out).mono ?_
        rintro e w' ⟨rfl, hw'⟩
        replace hw' := hw'.symm
        subst hw'
        rw [hw]
        clear hw
        go_wp2
        go_roundw
        case rel => first | exact ⟨n + 1, κ8, by go_num, by omega, HL9⟩ | ((repeat apply Exists.intro); exact ⟨⟨n + 1, κ8, by go_num, by omega, HL9⟩, rfl⟩)
        case measure => simp [intOf]; omega
    · go_wp2
      go_ret
      exact ⟨rfl, HB.out.trans (HL.out.below0.mono HB.out.size)⟩

theorem wf_u8' {a : Int} (h : (Lit.int .u8 a).wf = true) : 0 ≤ a ∧ a ≤ 255 := by
  have e1 : IntKind.u8.min = 0 := by decide
  have e2 : IntKind.u8.max = 255 := by decide
  simp only [Lit.wf, Bool.and_eq_true, decide_eq_true_eq, e1, e2] at h
  exact h
theorem llxNone_ok (rc tm : Int) (hrc : (Lit.int .u8 rc).wf = true) (htm : (Lit.int .u8 tm).wf = true) (w : World) :
    Calls Try.prog 19 #[.int .u8 rc, .int .u8 tm] w fun e w' => e = .returned (.bool true) ∧ Below w.heap.size w w' := by
  have h1 := wf_u8' hrc
  have h2 := wf_u8' htm
  exact llxNone_walk rc tm h1.1 h1.2 h2.1 h2.2 (rc % 5).toNat (tm % 8).toNat (by omega) (by omega) w
end Go.Proofs.Ytacmeafpieoaaaa
