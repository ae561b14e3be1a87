/- boscagelaw10.looker; boscagelaw10.Awake is true. -/
import Derived.Test.YtacmeafpieoaaaaLo
import Derived.Test.YtacmeafpieoaaaaAw
namespace Go.Proofs.Ytacmeafpieoaaaa
open Go.RowKit

def goLk : Nat × List Int × ShS := (lookP (refOf 0 1)).go (Sh0 1 9 9)
theorem goLk_ok : (lookP (refOf 0 1)).fine (Sh0 1 9 9) = true ∧ goLk.1 = 5 ∧ goLk.2.1 = [0, 0] := ⟨by kernel_rfl, by kernel_rfl, by kernel_rfl⟩

section
variable {κ κ' : Nat → K} {w w' : World} {wi j pth : Nat} {p : WdP} {σ : ShS} {T : TS} {me : Int} {work : Value}

set_option maxRecDepth 100000 in
theorem looker_ok (hS : Sup κ w) (j : Nat) (p : WdP) (r : Int) : Calls Try.prog 87 #[.pointer (some ⟨p.pw, 0, none⟩), .int .i64 r] w fun e w' => ∃ κ' pth caps1, e = .returned (.pointer (some ⟨pth, 0, none⟩)) ∧ ThRep κ' w' j pth (.func (.func 121) #[] caps1) ⟨[], none⟩ ∧
      WorkOk κ' w' wi p j pth 121 caps1 (lookP r) ∧ Below w.heap.size w w' ∧ Ext κ κ' w ∧ Sup κ' w' := by
  have hmf : ∀ (fn : Fn) (first cap : Array Value) (w : World), (Instr.makeFunc fn first cap).run Try.prog w = .ok (.func fn first cap) w := fun _ _ _ _ => rfl
  go_enter Try.func87, Try.ntmps87
  go_wp2_with fail
  have b0 := BoxAt.new hS #[.int .i64 r] 41
  have hB0 : Below w.heap.size w (w.alloc (.cells #[.int .i64 r] 41)) := (Below.refl _ _).alloc (Nat.le_refl _) _
  refine (start_ok (wi := wi) (hS.mono hB0.size) j p 0 139 _ (lookP r) enters139 (fun pth => look_task b0 j pth)).mono ?_
  rintro e w3 ⟨κ3, pth, caps1, rfl, h1, h2, h3, h4, h5⟩
  have H1 := Lib.hid h1
  have H2 := Lib.hid h2
  clear h1 h2
  go_wp2
  go_ret
  exact ⟨κ3, pth, caps1, rfl, H1.out, H2.out, hB0.trans (h3.mono hB0.size), (Ext.refl κ w).trans h4 hB0.size, h5⟩

set_option maxRecDepth 100000 in
theorem awake10_ok (w : World) : Calls Try.prog 84 #[] w fun e w' => e = .returned (.bool true) ∧ Below w.heap.size w w' := by
  go_enter Try.func84, Try.ntmps84
  go_wp2_with fail
  refine (newWorld_ok 0 (supNo w) 2 3 1 9 9 (by decide) (by decide) (by decide) (by decide) (by decide) (by decide) (by decide) (by decide) (by decide) (by decide)).mono ?_
  rintro e w1 ⟨κ1, p, rfl, _, _, hpe, hpt, hW1, hF1, hE1, hS1⟩
  have HL1 := Lib.hid (Lw.new hW1 hF1 hE1 hS1)
  clear hW1 hF1 hE1 hS1 hpe hpt
  go_wp2_with fail
  refine (of_any 0 1 (by decide) (by decide) _).mono ?_
  rintro e w2 ⟨rfl, hw2⟩
  replace hw2 := hw2.symm
  subst hw2
  go_wp2_with fail
  refine (looker_ok (wi := 0) HL1.out.sup 0 p (refOf 0 1)).mono ?_
  rintro e w3 ⟨κ3, pth, caps1, rfl, hth, hwk, hB3, hE3, hS3⟩
  have HL3 := Lib.hid (HL1.out.later hB3 hE3 hS3)
  have HTH := Lib.hid hth
  have HWK := Lib.hid hwk
  clear hth hwk hB3 hE3 hS3 HL1
  go_wp2_with fail
  obtain ⟨log', hends⟩ := (tl_lookP (refOf 0 1)).ends goLk_ok.1 (by show goLk.1 < 100000; rw [goLk_ok.2.1]; decide)
  rw [show ((lookP (refOf 0 1)).go (Sh0 1 9 9)).1 = 5 from goLk_ok.2.1, show ((lookP (refOf 0 1)).go (Sh0 1 9 9)).2.1 = [0, 0] from goLk_ok.2.2] at hends
  refine (alone_ok HTH.out HL3.out.wd HL3.out.sup enters121 HWK.out (N := 5) (by decide) hends (l := [0, 0]) rfl (by decide)).mono ?_
  rintro e w4 ⟨κ4, a, c, rfl, hrow, hwd, hth4, hF4, hE4, hS4⟩
  have HL4 := Lib.hid (show Lw w κ4 0 p goLk.2.2 w4 from HL3.out.turn hwd (hF4.mono K.step_run) hE4 hS4)
  obtain ⟨g, o, cap, hv, hle, hgl, hgk, hgc, hgz⟩ := hrow.at (by decide) (by decide)
  simp only [Value.slice.injEq] at hv
  obtain ⟨rfl, _, rfl⟩ := hv
  have c0 : w4.cell? ⟨g, o, none⟩ = some (.int .i64 0) := hgc 0 _ rfl
  have c1 : w4.cell? ⟨g, o + 1, none⟩ = some (.int .i64 0) := hgc 1 _ rfl
  clear hends hrow hwd hth4 hF4 hE4 hS4 HTH HWK HL3 hgc hgz
  go_wp2
  go_ret
  exact ⟨rfl, HL4.out.below0⟩
end
end Go.Proofs.Ytacmeafpieoaaaa
