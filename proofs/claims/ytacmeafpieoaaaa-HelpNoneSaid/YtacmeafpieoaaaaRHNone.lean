/- boscagelaw09.HelpNone: for every number the law returns true, and its argument reads behind the call as it read before. No condition. -/
import Derived.Test.YtacmeafpieoaaaaRows
import Derived.Test.YtacmeafpieoaaaaHNone
import Derived.Test.YtacmeafpieoaaaaRw
import Derived.Test.YtacmeafpieoaaaaFxA
import Derived.Test.YtacmeafpieoaaaaFxB
import Derived.Test.YtacmeafpieoaaaaFxC
import Derived.Test.YtacmeafpieoaaaaFxD
import Derived.WalkKit
import Derived.ProofKit
import Derived.OpenShut
namespace Go.Proofs.Ytacmeafpieoaaaa
namespace RHelpNone
open Go.ChangeShapes Go.WideShapes Go.ChangeAt Go.RowKit

theorem own : ownKnob Try.prog.godebug = none := by kernel_rfl

theorem walk (a0 : Int) (w : World) : Calls Try.prog 15 #[.int .i64 a0] w fun e w' => e = .returned (.bool true) ∧ Below w.heap.size w w' := helpNone_ok a0 w

set_option maxRecDepth 100000 in
theorem lifted (os : Os) (started : os.Started) (H : Type) (enc : TypeId × Value → H) :
    ReturnsInHanded {} Try.checked os 15 .any (Rows.helpNoneSpec.pre6 enc Try.prog Try.f15 Rows.helpNoneRow.domain false) (Rows.helpNoneSpec.post enc Try.prog Try.f15 false true false false) := by
  refine returnsInHanded_of_change (C := Try.checked) own started (by kernel_rfl) Try.func15
    (ChangeSpec.witness6 (enc := enc) (C := Try.checked) false ⟨#[], #[.int .i64 0], []⟩ 8 (by kernel_rfl) (by kernel_rfl) (by kernel_rfl) (by kernel_rfl)) ?_
  intro W base args ds gs before hval0 hW hcnd _
  have hval : ∀ (j : Nat) t v, Try.f15.params[j]? = some t → args[j]? = some v → Value.okWide Try.prog W .any base t v := hval0
  have hW' := hW
  obtain ⟨p, q, hA0, hV, rfl, hfz, hnd⟩ := hW
  have hA : DataW.TrodAll enc Try.prog W 0 (fun _ => true) true Try.f15.params.toList args.toList ds p := hA0
  rw [Try.params15] at hA hval
  obtain ⟨v0, vs0, d0, ds0, p0, q0, hargs, rfl, rfl, h0, r0⟩ := trodAll_cons hA
  obtain ⟨rfl, rfl, rfl⟩ := trodAll_nil r0
  obtain rfl : args = #[v0] := by cases args; simp_all
  obtain ⟨rfl, rfl⟩ := trodVars_none hV
  obtain ⟨a0, rfl, rfl, rfl, w0⟩ := open_int Try.underlying2 (hval 0 2 v0 rfl rfl) h0
  clear hA0 hval0
  simp only [List.append_nil] at hW'
  refine (walk a0 W).mono fun e W' ⟨he, hg⟩ => ?_
  subst he
  exact ⟨_, rfl, post_of_below (pa := []) (pv := []) hW' (fun _ _ _ => (trodAll_cons_mk (shut_bool Try.underlying4 _) trodAll_mk0)) (fun sp _ => (trodAll_cons_mk (shut_int Try.underlying2 w0) trodAll_mk0)) (fun _ _ => rfl) rfl
    hg (ok_one (by kernel_rfl) rfl (okWide_bool_mk Try.underlying4 _))⟩

theorem f_inPlace : (Rows.helpNoneRow.inPlace == Try.prog.inPlace 15) = true := by kernel_rfl
theorem f_unf : (Rows.helpNoneRow.unfollowed == Try.prog.unfollowed 15) = true := by kernel_rfl
theorem f_rec : (Rows.helpNoneRow.recurses == Try.prog.recurses 15) = true := by kernel_rfl
theorem f_named : (Rows.helpNoneRow.named == Try.prog.varsNamed 15) = true := by kernel_rfl
theorem f_fn : Try.pinned.checked.prog.funcNamed Rows.helpNoneRow.func = some 15 := by kernel_rfl
theorem closed : joinedFacts Try.pinned.checked.prog 15 Try.f15 Rows.helpNoneSpec Rows.helpNoneRow = true :=
  joined_mk _ _ _ _ _ (by kernel_rfl) fx_laid fx_maps (by kernel_rfl) (by kernel_rfl) (by kernel_rfl) fx_stops (by kernel_rfl) fx_knobs f_inPlace f_unf f_rec f_named (by kernel_rfl) (by kernel_rfl) (by kernel_rfl) (by kernel_rfl) (by kernel_rfl) (by kernel_rfl) (by kernel_rfl) (by kernel_rfl) (by kernel_rfl) fx_plain (by kernel_rfl) fx_heard fx_mayEnter fx_lifted fx_make (by kernel_rfl) (by kernel_rfl) (by kernel_rfl) (by kernel_rfl)
theorem over : Rows.helpNoneRow.holds Try.pinned (OpenSpec.ofChange Rows.helpNoneSpec) :=
  OpenClaim.holds_of_wide 15 Try.f15 rfl rfl rfl rfl rfl rfl rfl ⟨rfl, rfl, rfl, rfl, rfl⟩ rfl rfl rfl rfl rfl f_fn Try.func15 closed
    (of_decide_eq_true (by kernel_rfl)) (by unfold Func.isWrapper; first | (rw [if_pos (by decide +kernel)]; kernel_rfl) | (rw [if_neg (by decide +kernel)]; exact ⟨rfl, rfl⟩))
    (fun os started H enc _ => lifted os started H enc)

end RHelpNone
/-- The statement. -/
theorem helpNone_holds : Rows.HelpNoneSaid := RHelpNone.over
#print axioms helpNone_holds
end Go.Proofs.Ytacmeafpieoaaaa
