/- LlxLoads: whatever the input, the law returns true, and its arguments read behind the call as they read before. No condition. -/
import Derived.Test.YtacmeafpieoaaaaRows
import Derived.Test.YtacmeafpieoaaaaLl
import Derived.Test.YtacmeafpieoaaaaRw
import Derived.Test.YtacmeafpieoaaaaFxA
import Derived.Test.YtacmeafpieoaaaaFxB
import Derived.Test.YtacmeafpieoaaaaFxC
import Derived.Test.YtacmeafpieoaaaaFxD
import Derived.WalkKit
import Derived.ProofKit
import Derived.OpenShut
namespace Go.Proofs.Ytacmeafpieoaaaa
namespace RLlxLoads
open Go.ChangeShapes Go.WideShapes Go.ChangeAt Go.RowKit

theorem own : ownKnob Try.prog.godebug = none := by kernel_rfl

theorem walk (a0 : Int) (a1 : Bool) (a2 : Bool) (w0 : (Lit.int .u8 a0).wf = true) (w : World) : Calls Try.prog 16 #[.int .u8 a0, .bool a1, .bool a2] w fun e w' => e = .returned (.bool true) ∧ Below w.heap.size w w' := llxLoads_ok a0 a1 a2 w0 w

set_option maxRecDepth 100000 in
theorem lifted (os : Os) (started : os.Started) (H : Type) (enc : TypeId × Value → H) :
    ReturnsInHanded {} Try.checked os 16 .any (Rows.llxLoadsSpec.pre6 enc Try.prog Try.f16 Rows.llxLoadsRow.domain false) (Rows.llxLoadsSpec.post enc Try.prog Try.f16 false true false false) := by
  refine returnsInHanded_of_change (C := Try.checked) own started (by kernel_rfl) Try.func16
    (ChangeSpec.witness6 (enc := enc) (C := Try.checked) false ⟨#[], #[.int .u8 0, .bool false, .bool false], []⟩ 8 (by kernel_rfl) (by kernel_rfl) (by kernel_rfl) (by kernel_rfl)) ?_
  intro W base args ds gs before hval0 hW hcnd _
  have hval : ∀ (j : Nat) t v, Try.f16.params[j]? = some t → args[j]? = some v → Value.okWide Try.prog W .any base t v := hval0
  have hW' := hW
  obtain ⟨p, q, hA0, hV, rfl, hfz, hnd⟩ := hW
  have hA : DataW.TrodAll enc Try.prog W 0 (fun _ => true) true Try.f16.params.toList args.toList ds p := hA0
  rw [Try.params16] at hA hval
  obtain ⟨v0, vs0, d0, ds0, p0, q0, hargs, rfl, rfl, h0, r0⟩ := trodAll_cons hA
  obtain ⟨v1, vs1, d1, ds1, p1, q1, rfl, rfl, rfl, h1, r1⟩ := trodAll_cons r0
  obtain ⟨v2, vs2, d2, ds2, p2, q2, rfl, rfl, rfl, h2, r2⟩ := trodAll_cons r1
  obtain ⟨rfl, rfl, rfl⟩ := trodAll_nil r2
  obtain rfl : args = #[v0, v1, v2] := by cases args; simp_all
  obtain ⟨rfl, rfl⟩ := trodVars_none hV
  obtain ⟨a0, rfl, rfl, rfl, w0⟩ := open_int Try.underlying5 (hval 0 5 v0 rfl rfl) h0
  obtain ⟨a1, rfl, rfl, rfl⟩ := open_bool Try.underlying4 (hval 1 4 v1 rfl rfl) h1
  obtain ⟨a2, rfl, rfl, rfl⟩ := open_bool Try.underlying4 (hval 2 4 v2 rfl rfl) h2
  clear hA0 hval0
  simp only [List.append_nil] at hW'
  refine (walk a0 a1 a2 w0 W).mono fun e W' ⟨he, hg⟩ => ?_
  subst he
  exact ⟨_, rfl, post_of_below (pa := []) (pv := []) hW' (fun _ _ _ => (trodAll_cons_mk (shut_bool Try.underlying4 _) trodAll_mk0)) (fun sp _ => (trodAll_cons_mk (shut_int Try.underlying5 w0) (trodAll_cons_mk (shut_bool Try.underlying4 _) (trodAll_cons_mk (shut_bool Try.underlying4 _) trodAll_mk0)))) (fun _ _ => rfl) rfl
    hg (ok_one (by kernel_rfl) rfl (okWide_bool_mk Try.underlying4 _))⟩

theorem f_inPlace : (Rows.llxLoadsRow.inPlace == Try.prog.inPlace 16) = true := by kernel_rfl
theorem f_unf : (Rows.llxLoadsRow.unfollowed == Try.prog.unfollowed 16) = true := by kernel_rfl
theorem f_rec : (Rows.llxLoadsRow.recurses == Try.prog.recurses 16) = true := by kernel_rfl
theorem f_named : (Rows.llxLoadsRow.named == Try.prog.varsNamed 16) = true := by kernel_rfl
theorem f_fn : Try.pinned.checked.prog.funcNamed Rows.llxLoadsRow.func = some 16 := by kernel_rfl
theorem closed : joinedFacts Try.pinned.checked.prog 16 Try.f16 Rows.llxLoadsSpec Rows.llxLoadsRow = true :=
  joined_mk _ _ _ _ _ (by kernel_rfl) fx_laid fx_maps (by kernel_rfl) (by kernel_rfl) (by kernel_rfl) fx_stops (by kernel_rfl) fx_knobs f_inPlace f_unf f_rec f_named (by kernel_rfl) (by kernel_rfl) (by kernel_rfl) (by kernel_rfl) (by kernel_rfl) (by kernel_rfl) (by kernel_rfl) (by kernel_rfl) (by kernel_rfl) fx_plain (by kernel_rfl) fx_heard fx_mayEnter fx_lifted fx_make (by kernel_rfl) (by kernel_rfl) (by kernel_rfl) (by kernel_rfl)
theorem over : Rows.llxLoadsRow.holds Try.pinned (OpenSpec.ofChange Rows.llxLoadsSpec) :=
  OpenClaim.holds_of_wide 16 Try.f16 rfl rfl rfl rfl rfl rfl rfl ⟨rfl, rfl, rfl, rfl, rfl⟩ rfl rfl rfl rfl rfl f_fn Try.func16 closed
    (of_decide_eq_true (by kernel_rfl)) (by unfold Func.isWrapper; first | (rw [if_pos (by decide +kernel)]; kernel_rfl) | (rw [if_neg (by decide +kernel)]; exact ⟨rfl, rfl⟩))
    (fun os started H enc _ => lifted os started H enc)
end RLlxLoads
/-- The statement. -/
theorem llxLoads_holds : Rows.LlxLoadsSaid := RLlxLoads.over
#print axioms llxLoads_holds
end Go.Proofs.Ytacmeafpieoaaaa
