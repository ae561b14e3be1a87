/- Programs that look at nodes and at records, gone through at once. -/
import Derived.Test.YtacmeafpieoaaaaLa
import Derived.Test.YtacmeafpieoaaaaPk
namespace Go.Proofs.Ytacmeafpieoaaaa
open Go.RowKit

/-- A record's number that is given. -/
def Vin (σ : ShS) (n : Int) : Prop := 1 ≤ n ∧ n ≤ (σ.T.ents.length : Int)
/-- A touch that keeps all that may be looked at. -/
def TameI (f : ShS → Int × ShS) : Prop := ∀ σ, Keeps Vin σ (f σ).2

theorem put_len (T : TabS) (i : Nat) (e : EntS) : (T.put i e).ents.length = T.ents.length := by simp [TabS.put]
theorem setState_len (T : TabS) (m s : Int) : (T.setState m s).ents.length = T.ents.length := by
  unfold TabS.setState
  split
  · split
    · exact put_len _ _ _
    · rfl
  · rfl
theorem setAll_len (T : TabS) (m : Int) : (T.setAll m).ents.length = T.ents.length := by
  unfold TabS.setAll
  split
  · split
    · exact put_len _ _ _
    · rfl
  · rfl
theorem look_make (T : TabS) (r : RecS) {n : Int} (h1 : 1 ≤ n) (h2 : n ≤ (T.ents.length : Int)) : (T.make r).2.look n = T.look n := by
  unfold TabS.make
  split
  · rfl
  · unfold TabS.look TabS.get TabS.idx
    have h3 : n ≤ ((T.ents ++ [(⟨r, 1, false⟩ : EntS)]).length : Int) := by simp; omega
    simp only [if_pos (And.intro h1 h2), if_pos (And.intro h1 h3), Option.bind_some]
    rw [List.getElem?_append_left (by omega)]
theorem make_len (T : TabS) (r : RecS) : T.ents.length ≤ (T.make r).2.ents.length := by
  unfold TabS.make
  split
  · exact Nat.le_refl _
  · simp
theorem tamei_info (x : Int) : TameI (tInfo x) := fun σ => .ofA (like_info _ _) fun _ h => h
theorem tamei_mark (x : Int) : TameI (asked (tMark x)) := fun σ => .ofA (like_marked _ _) fun _ h => h
theorem tamei_state (n : Int) : TameI (tStateW n) := fun σ => .refl _ _
theorem tamei_way (x i : Int) : TameI (tWay x i) := fun σ => .ofA (like_way _ _ _) fun _ h => h
theorem tamei_setMark (x : Int) : TameI (tSetMark x) := fun σ => .ofA (like_setMark _ _) fun _ h => h
theorem tamei_swapInfo (x old new : Int) : TameI (asked (tSwapInfo x old new)) := fun σ => .ofA (like_swapInfo _ _ _ _) fun _ h => h
theorem tamei_swapWay (x i old new : Int) : TameI (asked (tSwapWay x i old new)) := fun σ => .ofA (like_swapWay _ _ _ _ _) fun _ h => h
theorem tamei_all (n : Int) : TameI (asked (tAll n)) := fun σ => .refl _ _
theorem tamei_setAll (n : Int) : TameI (tSetAll n) := fun σ => .ofT (look_setAll _ _) fun m h => ⟨h.1, by show m ≤ ((σ.T.setAll n).ents.length : Int); rw [setAll_len]; exact h.2⟩
theorem tamei_set (n s : Int) : TameI (tSet n s) := fun σ => .ofT (look_setState _ _ _) fun m h => ⟨h.1, by show m ≤ ((σ.T.setState n s).ents.length : Int); rw [setState_len]; exact h.2⟩
theorem tamei_make (r : RecS) : TameI (tMake r) := fun σ => ⟨fun n hn => ⟨⟨hn.1, by have := make_len σ.T r; have := hn.2; show n ≤ ((σ.T.make r).2.ents.length : Int); omega⟩, look_make _ _ hn.1 hn.2⟩, fun _ hr => ⟨hr, rfl⟩⟩

/-- All touches of a program are tame. -/
inductive TameL {α : Type} : Pr α → Prop
  | ret (a : α) : TameL (.ret a)
  | touch {f : ShS → Int × ShS} {k : Int → Pr α} (hf : TameI f) (hk : ∀ n, TameL (k n)) : TameL (.touch f k)
  | look {r : Int} {k : NodeS → Pr α} (hk : ∀ n, TameL (k n)) : TameL (.look r k)
  | see {n : Int} {k : RecS → Pr α} (hk : ∀ r, TameL (k r)) : TameL (.see n k)
theorem TameL.bind {α β : Type} {p : Pr α} {q : α → Pr β} (h : TameL p) (hq : ∀ a, TameL (q a)) : TameL (p.bind q) := by
  induction h with
  | ret a => exact hq a
  | touch hf _ ih => exact .touch hf ih
  | look _ ih => exact .look ih
  | see _ ih => exact .see ih
/-- Gone through at once each look hits. -/
def Pr.fine {α : Type} : Pr α → ShS → Bool
  | .ret _, _ => true
  | .touch f k, σ => (k (f σ).1).fine (f σ).2
  | .look r k, σ => (σ.A.get r).isSome && (k (σ.A.look r).1).fine σ
  | .see n k, σ => (decide (1 ≤ n) && decide (n ≤ (σ.T.ents.length : Int))) && (k (σ.T.look n)).fine σ
theorem TameL.runs {α : Type} {p : Pr α} (h : TameL p) : ∀ σ, p.fine σ = true → Runs Vin p σ (p.go σ).1 (p.go σ).2.1 (p.go σ).2.2 := by
  induction h with
  | ret a => exact fun σ _ => .ret
  | touch hf _ ih => exact fun σ hx => .touch (hf σ) (ih _ _ hx)
  | look _ ih =>
    intro σ hx
    simp only [Pr.fine, Bool.and_eq_true] at hx
    exact .look (by intro h0; rw [h0] at hx; cases hx.1) (ih _ _ hx.2)
  | see _ ih =>
    intro σ hx
    simp only [Pr.fine, Bool.and_eq_true, decide_eq_true_eq] at hx
    exact .see hx.1 (ih _ _ hx.2)
/-- A thread that goes on alone. -/
theorem TameL.ends {p : Pr (List Int)} (h : TameL p) {σ : ShS} (hf : p.fine σ = true) (hn : (p.go σ).1 < 100000) : ∃ log', Ends p ⟨[], none⟩ σ (max (p.go σ).1 1) ⟨log', some (p.go σ).2.1⟩ (p.go σ).2.2 := by
  obtain ⟨log', _, h2⟩ := (h.runs σ hf).ends hn
  exact ⟨log', h2⟩

theorem TameL.oneOf {f : ShS → Int × ShS} (h : TameI f) : TameL (Pr.one f) := .touch h fun _ => .ret _
theorem TameL.askOf {f : ShS → Bool × ShS} (h : TameI (asked f)) : TameL (Pr.ask f) := .touch h fun _ => .ret _
theorem tl_setP (n s : Int) : TameL (setP n s) := .touch (tamei_set n s) fun _ => .ret _
theorem tl_recFail (n : Int) : TameL (recFail n) := by
  refine TameL.bind (.askOf (tamei_all n)) fun a => ?_
  split
  · exact .ret _
  · exact (tl_setP n 0).bind fun _ => .ret _
theorem tl_recMiss (n x : Int) {next : Pr (Option Bool)} (h : TameL next) : TameL (recMiss n x next) := by
  refine TameL.bind (.oneOf (tamei_info x)) fun m => ?_
  split
  · exact h
  · exact tl_recFail n
theorem tl_recLoop (n : Int) : ∀ l, TameL (recLoop n l)
  | [] => .ret _
  | (x, old) :: rest => by
    refine TameL.bind (.askOf (tamei_swapInfo x old n)) fun ok => ?_
    split
    · exact tl_recLoop n rest
    · exact tl_recMiss n x (tl_recLoop n rest)
theorem tl_markLoop : ∀ l, TameL (markLoop l)
  | [] => .ret _
  | x :: rest => TameL.bind (.oneOf (tamei_setMark x)) fun _ => tl_markLoop rest
theorem tl_recWay (r : RecS) : TameL (recWay r) := by
  unfold recWay
  split
  · exact .ret _
  · exact TameL.bind (.askOf (tamei_swapWay _ _ _ _)) fun _ => .ret _
theorem tl_recDone (n : Int) (r : RecS) : TameL (recDone n r) :=
  TameL.bind (.oneOf (tamei_setAll n)) fun _ => (tl_markLoop _).bind fun _ => (tl_recWay r).bind fun _ => (tl_setP n 2).bind fun _ => .ret true
theorem tl_recP (n : Int) : TameL (recP n) := .see fun r => (tl_recLoop n _).bind fun o => by
  unfold recRest
  split
  · exact .ret _
  · exact tl_recDone n r
theorem tl_stateP (n : Int) : TameL (stateP n) := (TameL.oneOf (tamei_state n)).bind fun _ => .ret _
theorem tl_load8 (r : Int) : TameL (load8 r) := (TameL.oneOf (tamei_info r)).bind fun m => (tl_stateP m).bind fun st => by
  unfold load10
  split
  · exact (tl_recP m).bind fun _ => .ret _
  · exact .ret _
theorem tl_load7c (r : Int) (first d : Bool) : TameL (load7c r first d) := by
  unfold load7c
  split
  · exact .ret _
  · exact tl_load8 r
theorem tl_load7 (r n : Int) (first : Bool) : TameL (load7 r n first) := (tl_stateP n).bind fun now => by
  unfold load7b
  split
  · exact tl_load7c _ _ _
  · split
    · exact (tl_recP n).bind fun _ => tl_load7c _ _ _
    · exact tl_load7c _ _ _
theorem tl_waysP (r : Int) : ∀ m acc, TameL (waysP r acc m)
  | 0, _ => .ret _
  | m + 1, acc => (TameL.oneOf (tamei_way _ _)).bind fun x => tl_waysP r m _
theorem tl_load6 (r n : Int) (first : Bool) : TameL (load6 r n first) := .look fun nd => (tl_waysP r _ _).bind fun ws => (TameL.oneOf (tamei_info r)).bind fun m => by
  unfold load6c
  split
  · exact .ret _
  · exact tl_load7 _ _ _
theorem tl_loadP (r : Int) : TameL (loadP r) := (TameL.askOf (tamei_mark r)).bind fun first => (TameL.oneOf (tamei_info r)).bind fun n => (tl_stateP n).bind fun was => (TameL.askOf (tamei_mark r)).bind fun second => by
  unfold load5
  split
  · exact tl_load6 _ _ _
  · exact tl_load7 _ _ _
theorem tl_loadsP : ∀ l acc, TameL (loadsP l acc)
  | [], _ => .ret _
  | r :: rest, acc => (tl_loadP r).bind fun x => by
    split
    · exact tl_loadsP rest _
    · exact .ret _
theorem tl_storeP (l : List SnapS) (keep way old now : Int) : TameL (storeP l keep way old now) := (TameL.oneOf (tamei_make _)).bind fun n => by
  unfold store2
  split
  · exact .ret _
  · exact (tl_recP n).bind fun _ => .ret _
end Go.Proofs.Ytacmeafpieoaaaa
