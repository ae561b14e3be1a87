/- slices.Clone at the program's three instances: a row of the call's own with the same cells. -/
import Derived.Test.YtacmeafpieoaaaaMem
import Derived.Lib.SliceRun
namespace Go.Proofs.Ytacmeafpieoaaaa
open Go.RowKit

theorem info2 : (Try.prog.info? 2).map (fun i => (i.zero, i.size, i.bytes)) = some (some (.int .i64 0), 1, 8) := by kernel_rfl
theorem info41 : (Try.prog.info? 41).map (fun i => (i.zero, i.size, i.bytes)) = some (some (.int .i64 0), 1, 8) := by kernel_rfl
theorem info149 : (Try.prog.info? 149).map (fun i => (i.zero, i.size, i.bytes)) = some (some (.agg #[.int .i64 0, .int .i64 0]), 2, 16) := by kernel_rfl

set_option maxRecDepth 100000 in
theorem clone_ints (ao : Option Addr) (n cap : Nat) (cs : List Value) (w : World) (hs : Src w 1 ao n cs) (h1 : OneCells cs) (hn : n ≤ 1048576) (hno : ao = none → n = 0) :
    Calls Try.prog 112 #[.slice ao n cap] w fun e w' => ∃ a' c', e = .returned (.slice a' n c') ∧ Fresh w w' 2 1 (.slice a' n c') n cs := by
  obtain ⟨i0, hi, hz0, hz1, hz2⟩ := info_parts info2
  have he := fun w => Lib.run_eql_slice_nil (P := Try.prog) w 22 2 ao n cap 0 0 Try.underlying22
  have hm : n ≤ maxLen := by simp only [maxLen]; omega
  cases ao with
  | none =>
    have H0 := Lib.hid (hno rfl); clear hno
    go_enter Try.func112, Try.ntmps112
    go_wp2
    go_ret
    have h0 := H0.out
    subst h0
    have hc : cs = [] := List.eq_nil_of_length_eq_zero (by simpa using hs.1)
    subst hc
    exact ⟨none, 0, rfl, Own.nil _ _ _, by simp [blk], Below.refl _ _⟩
  | some ad =>
    clear hno
    go_enter Try.func112, Try.ntmps112
    go_wp2_with (at_builtin; refine wpList_append_row rfl _ _ 22 rfl 2 i0 (.int .i64 0) 1 8 Try.underlying22 hi hz0 hz1 hz2 rfl (by decide) _ 0 [] rfl (Own.empty _ _ _ _) (some ad) n cap cs rfl ?c1 h1 ?c2 ?c3 ?_)
    case c1 => exact hs.move ((Below.refl _ _).alloc (Nat.le_refl _) _)
    case c2 => omega
    case c3 => omega
    intro v' w' h
    go_wp2
    go_ret
    have ho : Own w' 2 1 v' n cs := by simpa using h.own
    obtain ⟨a', c', hv', _⟩ := ho.2
    have hat := h.at_
    subst hv'
    refine ⟨a', c', rfl, ho, fun g hg => ?_, ((Below.refl _ _).alloc (Nat.le_refl _) _).trans (h.below (by simp) (by simp [blk]))⟩
    rcases hat with e | e
    · rw [e] at hg; simp [blk] at hg
    · rw [e] at hg; simp at hg; omega

set_option maxRecDepth 100000 in
theorem clone_refs (ao : Option Addr) (n cap : Nat) (cs : List Value) (w : World) (hs : Src w 1 ao n cs) (h1 : OneCells cs) (hn : n ≤ 1048576) (hno : ao = none → n = 0) :
    Calls Try.prog 113 #[.slice ao n cap] w fun e w' => ∃ a' c', e = .returned (.slice a' n c') ∧ Fresh w w' 41 1 (.slice a' n c') n cs := by
  obtain ⟨i0, hi, hz0, hz1, hz2⟩ := info_parts info41
  have he := fun w => Lib.run_eql_slice_nil (P := Try.prog) w 56 41 ao n cap 0 0 Try.underlying56
  have hm : n ≤ maxLen := by simp only [maxLen]; omega
  cases ao with
  | none =>
    have H0 := Lib.hid (hno rfl); clear hno
    go_enter Try.func113, Try.ntmps113
    go_wp2
    go_ret
    have h0 := H0.out
    subst h0
    have hc : cs = [] := List.eq_nil_of_length_eq_zero (by simpa using hs.1)
    subst hc
    exact ⟨none, 0, rfl, Own.nil _ _ _, by simp [blk], Below.refl _ _⟩
  | some ad =>
    clear hno
    go_enter Try.func113, Try.ntmps113
    go_wp2_with (at_builtin; refine wpList_append_row rfl _ _ 56 rfl 41 i0 (.int .i64 0) 1 8 Try.underlying56 hi hz0 hz1 hz2 rfl (by decide) _ 0 [] rfl (Own.empty _ _ _ _) (some ad) n cap cs rfl ?c1 h1 ?c2 ?c3 ?_)
    case c1 => exact hs.move ((Below.refl _ _).alloc (Nat.le_refl _) _)
    case c2 => omega
    case c3 => omega
    intro v' w' h
    go_wp2
    go_ret
    have ho : Own w' 41 1 v' n cs := by simpa using h.own
    obtain ⟨a', c', hv', _⟩ := ho.2
    have hat := h.at_
    subst hv'
    refine ⟨a', c', rfl, ho, fun g hg => ?_, ((Below.refl _ _).alloc (Nat.le_refl _) _).trans (h.below (by simp) (by simp [blk]))⟩
    rcases hat with e | e
    · rw [e] at hg; simp [blk] at hg
    · rw [e] at hg; simp at hg; omega

set_option maxRecDepth 100000 in
theorem clone_pairs (ao : Option Addr) (n cap : Nat) (cs : List Value) (w : World) (hs : Src w 2 ao n cs) (h1 : OneCells cs) (hn : n ≤ 1048576) (hno : ao = none → n = 0) :
    Calls Try.prog 111 #[.slice ao n cap] w fun e w' => ∃ a' c', e = .returned (.slice a' n c') ∧ Fresh w w' 149 2 (.slice a' n c') n cs := by
  obtain ⟨i0, hi, hz0, hz1, hz2⟩ := info_parts info149
  have he := fun w => Lib.run_eql_slice_nil (P := Try.prog) w 25 149 ao n cap 0 0 Try.underlying25
  have hm : n ≤ maxLen := by simp only [maxLen]; omega
  cases ao with
  | none =>
    have H0 := Lib.hid (hno rfl); clear hno
    go_enter Try.func111, Try.ntmps111
    go_wp2
    go_ret
    have h0 := H0.out
    subst h0
    have hc : cs = [] := List.eq_nil_of_length_eq_zero (by simpa using hs.1)
    subst hc
    exact ⟨none, 0, rfl, Own.nil _ _ _, by simp [blk], Below.refl _ _⟩
  | some ad =>
    clear hno
    go_enter Try.func111, Try.ntmps111
    go_wp2_with (at_builtin; refine wpList_append_row rfl _ _ 25 rfl 149 i0 (.agg #[.int .i64 0, .int .i64 0]) 2 16 Try.underlying25 hi hz0 hz1 hz2 rfl (by decide) _ 0 [] rfl (Own.empty _ _ _ _) (some ad) n cap cs rfl ?c1 h1 ?c2 ?c3 ?_)
    case c1 => exact hs.move ((Below.refl _ _).alloc (Nat.le_refl _) _)
    case c2 => omega
    case c3 => omega
    intro v' w' h
    go_wp2
    go_ret
    have ho : Own w' 149 2 v' n cs := by simpa using h.own
    obtain ⟨a', c', hv', _⟩ := ho.2
    have hat := h.at_
    subst hv'
    refine ⟨a', c', rfl, ho, fun g hg => ?_, ((Below.refl _ _).alloc (Nat.le_refl _) _).trans (h.below (by simp) (by simp [blk]))⟩
    rcases hat with e | e
    · rw [e] at hg; simp [blk] at hg
    · rw [e] at hg; simp at hg; omega

end Go.Proofs.Ytacmeafpieoaaaa
