/- boscagelaw09.HelpNone: whatever the number, it returns true. -/
import Derived.Test.YtacmeafpieoaaaaAw
import Derived.Test.YtacmeafpieoaaaaNa
namespace Go.Proofs.Ytacmeafpieoaaaa
open Go.RowKit

def recH : RecS := ⟨nodeRefs 2, [0, 0], 0, 0, 200, 77⟩
def ShH : ShS := { ShN 1 2 with T := ((ShN 1 2).T.make recH).2 }
theorem ShH_idx (n : Int) (hn : n ≠ 1) : ShH.T.idx n = none := by
  unfold TabS.idx
  rw [if_neg]
  show ¬ (1 ≤ n ∧ n ≤ 1)
  omega
theorem none_go (n : Int) (hn : n ≠ 1) : (helpP n).go ShH = (2, [1], ShH) := by
  have hi := ShH_idx n hn
  have h1 : ShH.T.look n = RecS.zero := by unfold TabS.look TabS.get; rw [hi]; rfl
  have h2 : ShH.T.setAll n = ShH.T := by unfold TabS.setAll; rw [hi]
  have h3 : ShH.T.setState n 2 = ShH.T := by unfold TabS.setState; rw [hi]
  have h4 : (tSetAll n ShH).2 = ShH := by unfold tSetAll; rw [h2]
  have h5 : (tSet n 2 ShH).2 = ShH := by unfold tSet; rw [h3]
  simp only [helpP, Pr.go_bind, recP, Pr.go, h1]
  simp only [recLoop, RecS.zero, List.zip_nil_right, List.zip_nil_left, Pr.bind, Pr.go, recRest, recDone, Pr.one, h4, markLoop, List.drop_nil, recWay, setP, h5]
  rfl
theorem ShH_get (k : Nat) (hk : k < 2) : ShH.A.get (nodeRef k) = some (slotK k) := ArN_get 2 k hk (by decide)
theorem ShH_info (k : Nat) (hk : k < 2) : (ShH.A.info (nodeRef k)).1 = 0 := by unfold ArS.info; rw [ShH_get k hk]; rfl
theorem ShH_mark (k : Nat) (hk : k < 2) : (ShH.A.marked (nodeRef k)).1 = false := by unfold ArS.marked; rw [ShH_get k hk]; rfl
theorem ShH_way (k : Nat) (hk : k < 2) : (ShH.A.way (nodeRef k) 0).1 = 200 + 10 * (k : Int) := by unfold ArS.way; rw [ShH_get k hk]; rfl

set_option maxRecDepth 100000 in
theorem helpNone_ok (n : Int) (w : World) : Calls Try.prog 15 #[.int .i64 n] w fun e w' => e = .returned (.bool true) ∧ Below w.heap.size w w' := by
  by_cases hn : n = 1
  · subst hn
    go_enter Try.func15, Try.ntmps15
    go_wp2_with fail
    refine (awake09_ok w).mono ?_
    rintro e w1 ⟨rfl, hB⟩
    have HB := Lib.hid hB
    clear hB
    go_wp2
    go_ret
    exact ⟨rfl, HB.out⟩
  · have hn1 : (n == 1) = false := by simpa using hn
    have HN := Lib.hid hn
    clear hn
    go_enter Try.func15, Try.ntmps15
    go_wp2_with fail
    refine (awake09_ok w).mono ?_
    rintro e w1 ⟨rfl, hB⟩
    have HB := Lib.hid hB
    clear hB
    go_wp2_with fail
    refine (nodes_ok 0 (supNo w1) 1 2 (by decide) (by decide) (by decide)).mono ?_
    rintro e w2 ⟨κ2, p, a, c, rfl, hpe, hW, hrow, hF, hE, hS⟩
    have HLW := Lib.hid (Lw.new hW hF hE hS)
    have HROW := Lib.hid hrow
    clear hW hF hE hS hpe hrow
    have c1 : w2.cell? ⟨p.pw, 1, none⟩ = some (.pointer (some ⟨p.pt, 0, none⟩)) := cellAt HLW.out.wd.hpw 1 rfl
    go_wp2_with fail
    generalize hw3 : w2.alloc (.cells #[Value.int .i64 0, Value.int .i64 0] 2) = w3
    have hB3 : Below w2.heap.size w2 w3 := hw3 ▸ (Below.refl _ _).alloc (Nat.le_refl _) _
    have hb3 : w3.heap[w2.heap.size]? = some (.cells #[Value.int .i64 0, Value.int .i64 0] 2 (0, 0)) := hw3 ▸ Laws.heap_new w2 _
    have r2 : RowN κ2 (K.recs 0) w3 1 (.slice (some ⟨w2.heap.size, 0, none⟩) 2 2) recH.infos.length (intVs recH.infos) := RowN.new hb3 (by rw [HLW.out.sup _ (Nat.le_refl _)]; rfl) 2 _ rfl 1 rfl
    have HR3 := Lib.hid (HROW.out.keep (w' := w3) (fun b hb _ => hB3.block b hb) hB3.size (Ext.refl _ _))
    have r1 : RowN κ2 (K.recs 0) w3 1 (.slice a 2 c) recH.nodes.length (intVs recH.nodes) := HR3.out.toN rfl
    have HL3 := Lib.hid (HLW.out.below hB3)
    clear hw3 hB3 hb3 c1 HROW HLW
    refine (make_ok HL3.out.wd.tab HL3.out.sup recH r1 r2 rfl (by decide) (by decide)).mono ?_
    rintro e w4 ⟨κ4, rfl, h1, h2, h3, h4⟩
    have HR4 := Lib.hid (HR3.out.keep (fun b hb hk => h2.block b hb (by rw [hk]; rfl)) h2.size h3)
    have HL4 := Lib.hid (show Lw w1 κ4 0 p ShH w4 from HL3.out.turnT h1 h2 h3 h4)
    clear h1 h2 h3 h4 r1 r2 HR3 HL3
    go_wp2_with fail
    refine (helper_ok (wi := 0) HL4.out.sup 0 p 0 n).mono ?_
    rintro e w5 ⟨κ5, pth, caps1, rfl, hth, hwk, hB5, hE5, hS5⟩
    have HL5 := Lib.hid (HL4.out.later hB5 hE5 hS5)
    have HR5 := Lib.hid (HR4.out.keep (fun b hb _ => hB5.block b hb) hB5.size hE5)
    have HTH := Lib.hid hth
    have HWK := Lib.hid hwk
    clear hth hwk hB5 hE5 hS5 HL4 HR4
    go_wp2_with fail
    have hgo := none_go n HN.out
    obtain ⟨log', hends⟩ := help_ends n ShH (by rw [hgo]; decide)
    rw [hgo] at hends
    refine (alone_ok HTH.out HL5.out.wd HL5.out.sup enters121 HWK.out (N := 2) (by decide) hends (l := [1]) rfl (by decide)).mono ?_
    rintro e w6 ⟨κ6, a1, c1, rfl, hrow, hwd, hth6, hF6, hE6, hS6⟩
    have HL6 := Lib.hid (show Lw w1 κ6 0 p ShH w6 from HL5.out.turn hwd (hF6.mono K.step_run) hE6 hS6)
    have HR6 := Lib.hid (HR5.out.keep (fun b hb hk => hF6.block b hb (by rw [hk]; rfl)) hF6.size hE6)
    have HTH6 := Lib.hid hth6
    clear hgo hends hrow hwd hth6 hF6 hE6 hS6 HL5 HR5 HTH HWK
    obtain ⟨g, o, cap, hv, hle, hgl, hgk, hgc, hgz⟩ := HR6.out.at (by decide) (by decide)
    simp only [Value.slice.injEq] at hv
    obtain ⟨rfl, _, rfl⟩ := hv
    have x0 : w6.cell? ⟨g, o, none⟩ = some (.int .i64 (nodeRef 0)) := hgc 0 _ rfl
    have x1 : w6.cell? ⟨g, o + 1, none⟩ = some (.int .i64 (nodeRef 1)) := hgc 1 _ rfl
    have c0 : w6.cell? ⟨p.pw, 0, none⟩ = some (.pointer (some ⟨p.pa, 0, none⟩)) := cellAt HL6.out.wd.hpw 0 rfl
    have c1 : w6.cell? ⟨p.pw, 1, none⟩ = some (.pointer (some ⟨p.pt, 0, none⟩)) := cellAt HL6.out.wd.hpw 1 rfl
    clear hgc hgz hgk hle hgl
    go_wp2
    go_loop [38] (fun i => ∃ k : Nat, k ≤ 2 ∧ i = .int .i64 k) (fun i => 2 - (intOf i).toNat)
    case atStart => exact ⟨0, by decide, rfl⟩
    case round =>
      obtain ⟨k, hk, rfl⟩ := hrel
      by_cases hlt : k < 2
      · have hcx : w6.cell? ⟨g, o + k, none⟩ = some (.int .i64 (nodeRef k)) := by
          have h01 : k = 0 ∨ k = 1 := by omega
          rcases h01 with rfl | rfl
          · exact x0
          · exact x1
        have HG := Lib.hid (show ShH.A.get (nodeRef k) ≠ none by rw [ShH_get k hlt]; simp)
        have hi := ShH_info k hlt
        have hm := ShH_mark k hlt
        have hw := ShH_way k hlt
        clear x0 x1
        go_wp2_with (first | (refine (info_at HL6.out.wd.ar _ HG.out).mono ?_; rintro e w' ⟨rfl, hw'⟩; replace hw' := hw'.symm; subst hw') | (refine (mark_at HL6.out.wd.ar _ HG.out).mono ?_; rintro e w' ⟨rfl, hw'⟩; replace hw' := hw'.symm; subst hw') | (refine (way_at HL6.out.wd.ar _ _ HG.out).mono ?_; rintro e w' ⟨rfl, hw'⟩; replace hw' := hw'.symm; subst hw'))
        go_round
        case rel => exact ⟨k + 1, by omega, by go_num⟩
        case measure => simp [intOf]; omega
      · clear x0 x1
        go_wp2_with fail
        refine (yes_ok HTH6.out (l := [1]) rfl (by decide)).mono ?_
        rintro e w7 ⟨rfl, hB7⟩
        have HL7 := Lib.hid (HL6.out.below hB7)
        clear hB7 c0 c1 HL6 HR6
        have c1 : w7.cell? ⟨p.pw, 1, none⟩ = some (.pointer (some ⟨p.pt, 0, none⟩)) := cellAt HL7.out.wd.hpw 1 rfl
        have hy : isYes [1] = true := rfl
        have hst : ShH.T.state 1 = 1 := by kernel_rfl
        have htl : ((ShH.T.ents.length : Nat) : Int) = 1 := rfl
        go_wp2_with (first | (refine (tlen_ok HL7.out.wd.tab).mono ?_; rintro e w' ⟨rfl, hw'⟩; replace hw' := hw'.symm; subst hw'; rw [htl]) | (refine (state_ok HL7.out.wd.tab _).mono ?_; rintro e w' ⟨rfl, hw'⟩; replace hw' := hw'.symm; subst hw'))
        go_ret
        exact ⟨rfl, HB.out.trans (HL7.out.below0.mono HB.out.size)⟩
end Go.Proofs.Ytacmeafpieoaaaa
