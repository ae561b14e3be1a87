/- Which touches keep what may be looked at; a program gone through at once. -/
import Derived.Test.YtacmeafpieoaaaaPu
namespace Go.Proofs.Ytacmeafpieoaaaa
open Go.RowKit

/-- An arena whose nodes are as those of another one. -/
structure ArS.Like (A A' : ArS) : Prop where
  len : A'.slots.length = A.slots.length
  slot : ∀ (i : Nat) (s : SlotS), A.slots[i]? = some s → ∃ s' : SlotS, A'.slots[i]? = some s' ∧ s'.node = s.node ∧ s'.count = s.count ∧ s'.used = s.used

theorem ArS.Like.refl (A : ArS) : A.Like A := ⟨rfl, fun _ s h => ⟨s, h, rfl, rfl, rfl⟩⟩
theorem ArS.Like.fault (A : ArS) : A.Like A.fault := ⟨rfl, fun _ s h => ⟨s, h, rfl, rfl, rfl⟩⟩
theorem ArS.Like.put {A : ArS} {i : Nat} {s s' : SlotS} (hi : A.slots[i]? = some s) (h1 : s'.node = s.node) (h2 : s'.count = s.count) (h3 : s'.used = s.used) : A.Like (A.put i s') := by
  refine ⟨by simp [ArS.put], fun j t hj => ?_⟩
  by_cases hij : i = j
  · subst hij
    rw [hi] at hj
    cases hj
    exact ⟨s', by simp [ArS.put, List.getElem?_set, (List.getElem?_eq_some_iff.1 hi).1], h1, h2, h3⟩
  · exact ⟨t, by simp [ArS.put, List.getElem?_set, hij, hj], rfl, rfl, rfl⟩
theorem ArS.Like.idx {A A' : ArS} (h : A.Like A') (r : Int) : A'.idx r = A.idx r := by
  unfold ArS.idx
  split
  · cases hs : A.slots[(placeOf r).toNat]? with
    | none =>
      have : A'.slots[(placeOf r).toNat]? = none := by
        rw [List.getElem?_eq_none_iff] at hs ⊢
        have := h.len; omega
      rw [this]
    | some s =>
      obtain ⟨s', h1, _, h3, h4⟩ := h.slot _ s hs
      rw [h1]
      simp only [h3, h4]
  · rfl
theorem ArS.Like.get {A A' : ArS} (h : A.Like A') {r : Int} {s : SlotS} (hs : A.get r = some s) : ∃ s', A'.get r = some s' ∧ s'.node = s.node ∧ s'.count = s.count ∧ s'.used = s.used := by
  unfold ArS.get at hs ⊢
  rw [h.idx]
  cases hi : A.idx r with
  | none => rw [hi] at hs; cases hs
  | some i => rw [hi] at hs; exact h.slot i s hs
theorem ArS.Like.looks {A A' : ArS} (h : A.Like A') {r : Int} (hr : A.get r ≠ none) : A'.get r ≠ none ∧ (A'.look r).1 = (A.look r).1 := by
  cases hs : A.get r with
  | none => exact absurd hs hr
  | some s =>
    obtain ⟨s', h1, h2, _⟩ := h.get hs
    refine ⟨by rw [h1]; simp, ?_⟩
    simp only [ArS.look, hs, h1, h2]

def Vall : ShS → Int → Prop := fun _ _ => True
theorem Keeps.ofA {V : ShS → Int → Prop} {σ : ShS} {A' : ArS} (h : σ.A.Like A') (hV : ∀ n, V σ n → V { σ with A := A' } n) : Keeps V σ { σ with A := A' } := ⟨fun n hn => ⟨hV n hn, rfl⟩, fun _ hr => h.looks hr⟩
theorem Keeps.ofT {V : ShS → Int → Prop} {σ : ShS} {T' : TabS} (h : ∀ n, T'.look n = σ.T.look n) (hV : ∀ n, V σ n → V { σ with T := T' } n) : Keeps V σ { σ with T := T' } := ⟨fun n hn => ⟨hV n hn, h n⟩, fun _ hr => ⟨hr, rfl⟩⟩

theorem like_info (A : ArS) (r : Int) : A.Like (A.info r).2 := by unfold ArS.info; split <;> first | exact .refl _ | exact .fault _
theorem like_marked (A : ArS) (r : Int) : A.Like (A.marked r).2 := by unfold ArS.marked; split <;> first | exact .refl _ | exact .fault _
theorem like_way (A : ArS) (r i : Int) : A.Like (A.way r i).2 := by unfold ArS.way; split <;> first | exact .refl _ | exact .fault _
theorem like_swapInfo (A : ArS) (r old now : Int) : A.Like (A.swapInfo r old now).2 := by
  unfold ArS.swapInfo
  split
  · split
    · split
      · exact .put (s := ‹SlotS›) (by assumption) rfl rfl rfl
      · exact .refl _
    · exact .refl _
  · exact .fault _
theorem like_setMark (A : ArS) (r : Int) : A.Like (A.setMark r) := by
  unfold ArS.setMark
  split
  · split
    · exact .put (s := ‹SlotS›) (by assumption) rfl rfl rfl
    · exact .refl _
  · exact .fault _
theorem like_swapWay (A : ArS) (r i old now : Int) : A.Like (A.swapWay r i old now).2 := by
  unfold ArS.swapWay
  split
  · split
    · split
      · exact .put (s := ‹SlotS›) (by assumption) rfl rfl rfl
      · exact .refl _
    · exact .refl _
  · exact .fault _
theorem TabS.look_put (T : TabS) {i : Nat} {e e' : EntS} (hi : T.ents[i]? = some e) (he : e'.r = e.r) (n : Int) : (T.put i e').look n = T.look n := by
  unfold TabS.look TabS.get TabS.idx
  simp only [TabS.put, List.length_set]
  by_cases hn : 1 ≤ n ∧ n ≤ (T.ents.length : Int)
  · simp only [if_pos hn, Option.bind_some]
    by_cases hij : i = (n - 1).toNat
    · rw [← hij, hi, List.getElem?_set, if_pos rfl, if_pos (List.getElem?_eq_some_iff.1 hi).1]
      exact he
    · rw [List.getElem?_set, if_neg hij]
  · simp only [if_neg hn, Option.bind_none]
theorem look_setState (T : TabS) (m s n : Int) : (T.setState m s).look n = T.look n := by
  unfold TabS.setState
  split
  · split
    · exact T.look_put (e := ‹EntS›) (e' := { (‹EntS› : EntS) with state := s }) (by assumption) rfl n
    · rfl
  · rfl
theorem look_setAll (T : TabS) (m n : Int) : (T.setAll m).look n = T.look n := by
  unfold TabS.setAll
  split
  · split
    · exact T.look_put (e := ‹EntS›) (e' := { (‹EntS› : EntS) with all := true }) (by assumption) rfl n
    · rfl
  · rfl

/-- A touch that keeps all that may be looked at. -/
def Tamed (f : ShS → Int × ShS) : Prop := ∀ σ, Keeps Vall σ (f σ).2
theorem tame_info (x : Int) : Tamed (tInfo x) := fun σ => .ofA (like_info _ _) fun _ h => h
theorem tame_setMark (x : Int) : Tamed (tSetMark x) := fun σ => .ofA (like_setMark _ _) fun _ h => h
theorem tame_way (x i : Int) : Tamed (tWay x i) := fun σ => .ofA (like_way _ _ _) fun _ h => h
theorem tame_setAll (n : Int) : Tamed (tSetAll n) := fun σ => .ofT (look_setAll _ _) fun _ h => h
theorem tame_set (n s : Int) : Tamed (tSet n s) := fun σ => .ofT (look_setState _ _ _) fun _ h => h
theorem tame_asked_swapInfo (x old new : Int) : Tamed (asked (tSwapInfo x old new)) := fun σ => .ofA (like_swapInfo _ _ _ _) fun _ h => h
theorem tame_asked_swapWay (x i old new : Int) : Tamed (asked (tSwapWay x i old new)) := fun σ => .ofA (like_swapWay _ _ _ _ _) fun _ h => h
theorem tame_asked_all (n : Int) : Tamed (asked (tAll n)) := fun σ => .refl _ _

/-- All touches of a program are tame; it looks at no node. -/
inductive Tame {α : Type} : Pr α → Prop
  | ret (a : α) : Tame (.ret a)
  | touch {f : ShS → Int × ShS} {k : Int → Pr α} (hf : Tamed f) (hk : ∀ n, Tame (k n)) : Tame (.touch f k)
  | see {n : Int} {k : RecS → Pr α} (hk : ∀ r, Tame (k r)) : Tame (.see n k)
theorem Tame.bind {α β : Type} {p : Pr α} {q : α → Pr β} (h : Tame p) (hq : ∀ a, Tame (q a)) : Tame (p.bind q) := by
  induction h with
  | ret a => exact hq a
  | touch hf _ ih => exact .touch hf ih
  | see _ ih => exact .see ih
/-- Gone through at once: how many touches, what it comes to, what it leaves. -/
def Pr.go {α : Type} : Pr α → ShS → Nat × α × ShS
  | .ret a, σ => (0, a, σ)
  | .touch f k, σ => (((k (f σ).1).go (f σ).2).1 + 1, ((k (f σ).1).go (f σ).2).2)
  | .look r k, σ => (k (σ.A.look r).1).go σ
  | .see n k, σ => (k (σ.T.look n)).go σ
theorem Tame.runs {α : Type} {p : Pr α} (h : Tame p) : ∀ σ, Runs Vall p σ (p.go σ).1 (p.go σ).2.1 (p.go σ).2.2 := by
  induction h with
  | ret a => exact fun σ => .ret
  | touch hf _ ih => exact fun σ => .touch (hf σ) (ih _ _)
  | see _ ih => exact fun σ => .see trivial (ih _ _)
theorem Pr.go_bind {α β : Type} (p : Pr α) (q : α → Pr β) : ∀ σ, (p.bind q).go σ = ((p.go σ).1 + ((q (p.go σ).2.1).go (p.go σ).2.2).1, ((q (p.go σ).2.1).go (p.go σ).2.2).2) := by
  induction p with
  | ret a => intro σ; simp [Pr.bind, Pr.go]
  | touch f k ih => intro σ; simp only [Pr.bind, Pr.go, ih]; rw [Nat.add_right_comm]
  | look r k ih => intro σ; simp only [Pr.bind, Pr.go, ih]
  | see n k ih => intro σ; simp only [Pr.bind, Pr.go, ih]

theorem tame_setP (n s : Int) : Tame (setP n s) := .touch (tame_set n s) fun _ => .ret _
theorem tame_recFail (n : Int) : Tame (recFail n) := by
  refine Tame.bind (.touch (tame_asked_all n) fun _ => .ret _) fun a => ?_
  split
  · exact .ret _
  · exact (tame_setP n 0).bind fun _ => .ret _
theorem tame_recMiss (n x : Int) {next : Pr (Option Bool)} (h : Tame next) : Tame (recMiss n x next) := by
  refine Tame.bind (.touch (tame_info x) fun _ => .ret _) fun m => ?_
  split
  · exact h
  · exact tame_recFail n
theorem tame_recLoop (n : Int) : ∀ l, Tame (recLoop n l)
  | [] => .ret _
  | (x, old) :: rest => by
    refine Tame.bind (.touch (tame_asked_swapInfo x old n) fun _ => .ret _) fun ok => ?_
    split
    · exact tame_recLoop n rest
    · exact tame_recMiss n x (tame_recLoop n rest)
theorem tame_markLoop : ∀ l, Tame (markLoop l)
  | [] => .ret _
  | x :: rest => Tame.bind (.touch (tame_setMark x) fun _ => .ret _) fun _ => tame_markLoop rest
theorem tame_recWay (r : RecS) : Tame (recWay r) := by
  unfold recWay
  split
  · exact .ret _
  · exact Tame.bind (.touch (tame_asked_swapWay _ _ _ _) fun _ => .ret _) fun _ => .ret _
theorem tame_recDone (n : Int) (r : RecS) : Tame (recDone n r) :=
  Tame.bind (.touch (tame_setAll n) fun _ => .ret _) fun _ => (tame_markLoop _).bind fun _ => (tame_recWay r).bind fun _ => (tame_setP n 2).bind fun _ => .ret _
theorem tame_recP (n : Int) : Tame (recP n) := .see fun r => (tame_recLoop n _).bind fun o => by
  unfold recRest
  split
  · exact .ret _
  · exact tame_recDone n r
theorem tame_helpP (n : Int) : Tame (helpP n) := (tame_recP n).bind fun _ => .ret _
/-- A helper that goes on alone. -/
theorem help_ends (n : Int) (σ : ShS) (h : ((helpP n).go σ).1 < 100000) : ∃ log', Ends (helpP n) ⟨[], none⟩ σ (max ((helpP n).go σ).1 1) ⟨log', some ((helpP n).go σ).2.1⟩ ((helpP n).go σ).2.2 := by
  obtain ⟨log', _, h2⟩ := ((tame_helpP n).runs σ).ends h
  exact ⟨log', h2⟩
end Go.Proofs.Ytacmeafpieoaaaa
