/- LlxStores: whatever the input, the law returns true, and its arguments read behind the call as they read before. No condition. -/
import Derived.Test.YtacmeafpieoaaaaRows
import Derived.Test.YtacmeafpieoaaaaSs
import Derived.Test.YtacmeafpieoaaaaRw
import Derived.Test.YtacmeafpieoaaaaFxA
import Derived.Test.YtacmeafpieoaaaaFxB
import Derived.Test.YtacmeafpieoaaaaFxC
import Derived.Test.YtacmeafpieoaaaaFxD
import Derived.WalkKit
import Derived.ProofKit
import Derived.OpenShut
namespace Go.Proofs.Ytacmeafpieoaaaa
namespace RLlxStores
open Go.ChangeShapes Go.WideShapes Go.ChangeAt Go.RowKit

theorem own : ownKnob Try.prog.godebug = none := by kernel_rfl

theorem walk (a0 : Int) (a1 : Int) (w0 : (Lit.int .u8 a0).wf = true) (w1 : (Lit.int .u8 a1).wf = true) (w : World) : Calls Try.prog 18 #[.int .u8 a0, .int .u8 a1] w fun e w' => e = .returned (.bool true) ∧ Below w.heap.size w w' := llxStores_ok a0 a1 w0 w1 w

set_option maxRecDepth 100000 in
theorem lifted (os : Os) (started : os.Started) (H : Type) (enc : TypeId × Value → H) :
    ReturnsInHanded {} Try.checked os 18 .any (Rows.llxStoresSpec.pre6 enc Try.prog Try.f18 Rows.llxStoresRow.domain false) (Rows.llxStoresSpec.post enc Try.prog Try.f18 false true false false) := by
  refine returnsInHanded_of_change (C := Try.checked) own started (by kernel_rfl) Try.func18
    (ChangeSpec.witness6 (enc := enc) (C := Try.checked) false ⟨#[], #[.int .u8 0, .int .u8 0], []⟩ 8 (by kernel_rfl) (by kernel_rfl) (by kernel_rfl) (by kernel_rfl)) ?_
  intro W base args ds gs before hval0 hW hcnd _
  have hval : ∀ (j : Nat) t v, Try.f18.params[j]? = some t → args[j]? = some v → Value.okWide Try.prog W .any base t v := hval0
  have hW' := hW
  obtain ⟨p, q, hA0, hV, rfl, hfz, hnd⟩ := hW
  have hA : DataW.TrodAll enc Try.prog W 0 (fun _ => true) true Try.f18.params.toList args.toList ds p := hA0
  rw [Try.params18] at hA hval
  obtain ⟨v0, vs0, d0, ds0, p0, q0, hargs, rfl, rfl, h0, r0⟩ := trodAll_cons hA
  obtain ⟨v1, vs1, d1, ds1, p1, q1, rfl, rfl, rfl, h1, r1⟩ := trodAll_cons r0
  obtain ⟨rfl, rfl, rfl⟩ := trodAll_nil r1
  obtain rfl : args = #[v0, v1] := by cases args; simp_all
  obtain ⟨rfl, rfl⟩ := trodVars_none hV
  obtain ⟨a0, rfl, rfl, rfl, w0⟩ := open_int Try.underlying5 (hval 0 5 v0 rfl rfl) h0
  obtain ⟨a1, rfl, rfl, rfl, w1⟩ := open_int Try.underlying5 (hval 1 5 v1 rfl rfl) h1
  clear hA0 hval0
  simp only [List.append_nil] at hW'
  refine (walk a0 a1 w0 w1 W).mono fun e W' ⟨he, hg⟩ => ?_
  subst he
  exact ⟨_, rfl, post_of_below (pa := []) (pv := []) hW' (fun _ _ _ => (trodAll_cons_mk (shut_bool Try.underlying4 _) trodAll_mk0)) (fun sp _ => (trodAll_cons_mk (shut_int Try.underlying5 w0) (trodAll_cons_mk (shut_int Try.underlying5 w1) trodAll_mk0))) (fun _ _ => rfl) rfl
    hg (ok_one (by kernel_rfl) rfl (okWide_bool_mk Try.underlying4 _))⟩

theorem f_inPlace : (Rows.llxStoresRow.inPlace == Try.prog.inPlace 18) = true := by kernel_rfl
theorem f_unf : (Rows.llxStoresRow.unfollowed == Try.prog.unfollowed 18) = true := by kernel_rfl
theorem f_rec : (Rows.llxStoresRow.recurses == Try.prog.recurses 18) = true := by kernel_rfl
theorem f_named : (Rows.llxStoresRow.named == Try.prog.varsNamed 18) = true := by kernel_rfl
theorem f_fn : Try.pinned.checked.prog.funcNamed Rows.llxStoresRow.func = some 18 := by kernel_rfl
theorem closed : joinedFacts Try.pinned.checked.prog 18 Try.f18 Rows.llxStoresSpec Rows.llxStoresRow = true :=
  joined_mk _ _ _ _ _ (by kernel_rfl) fx_laid fx_maps (by kernel_rfl) (by kernel_rfl) (by kernel_rfl) fx_stops (by kernel_rfl) fx_knobs f_inPlace f_unf f_rec f_named (by kernel_rfl) (by kernel_rfl) (by kernel_rfl) (by kernel_rfl) (by kernel_rfl) (by kernel_rfl) (by kernel_rfl) (by kernel_rfl) (by kernel_rfl) fx_plain (by kernel_rfl) fx_heard fx_mayEnter fx_lifted fx_make (by kernel_rfl) (by kernel_rfl) (by kernel_rfl) (by kernel_rfl)
theorem over : Rows.llxStoresRow.holds Try.pinned (OpenSpec.ofChange Rows.llxStoresSpec) :=
  OpenClaim.holds_of_wide 18 Try.f18 rfl rfl rfl rfl rfl rfl rfl ⟨rfl, rfl, rfl, rfl, rfl⟩ rfl rfl rfl rfl rfl f_fn Try.func18 closed
    (of_decide_eq_true (by kernel_rfl)) (by unfold Func.isWrapper; first | (rw [if_pos (by decide +kernel)]; kernel_rfl) | (rw [if_neg (by decide +kernel)]; exact ⟨rfl, rfl⟩))
    (fun os started H enc _ => lifted os started H enc)
end RLlxStores
/-- The statement. -/
theorem llxStores_holds : Rows.LlxStoresSaid := RLlxStores.over
#print axioms llxStores_holds
end Go.Proofs.Ytacmeafpieoaaaa
