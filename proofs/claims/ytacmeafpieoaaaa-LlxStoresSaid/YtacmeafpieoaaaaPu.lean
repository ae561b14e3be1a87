/- Programs replayed: what is left of a program behind its log, one step, a run alone to its end. -/
import Derived.Test.YtacmeafpieoaaaaQt
namespace Go.Proofs.Ytacmeafpieoaaaa
open Go.RowKit

/-- What is left of a program behind a log. -/
def Pr.after {α : Type} (σ : ShS) : Pr α → List Int → Pr α
  | .ret a, _ => .ret a
  | .touch f k, [] => .touch f k
  | .touch _ k, n :: l => (k n).after σ l
  | .look r k, l => (k (σ.A.look r).1).after σ l
  | .see n k, l => (k (σ.T.look n)).after σ l
/-- Each look hits, each record that is looked at is of those that stay. -/
def Pr.firm {α : Type} (V : ShS → Int → Prop) (σ : ShS) : Pr α → List Int → Prop
  | .ret _, _ => True
  | .touch _ _, [] => True
  | .touch _ k, n :: l => (k n).firm V σ l
  | .look r k, l => σ.A.get r ≠ none ∧ (k (σ.A.look r).1).firm V σ l
  | .see n k, l => V σ n ∧ (k (σ.T.look n)).firm V σ l

/-- What may be looked at stays. -/
structure Keeps (V : ShS → Int → Prop) (σ σ' : ShS) : Prop where
  see : ∀ n, V σ n → V σ' n ∧ σ'.T.look n = σ.T.look n
  look : ∀ r, σ.A.get r ≠ none → σ'.A.get r ≠ none ∧ (σ'.A.look r).1 = (σ.A.look r).1

theorem Keeps.refl (V : ShS → Int → Prop) (σ : ShS) : Keeps V σ σ := ⟨fun _ h => ⟨h, rfl⟩, fun _ h => ⟨h, rfl⟩⟩
theorem Keeps.trans {V : ShS → Int → Prop} {σ σ1 σ2 : ShS} (h : Keeps V σ σ1) (h' : Keeps V σ1 σ2) : Keeps V σ σ2 :=
  ⟨fun n hn => ⟨(h'.see n (h.see n hn).1).1, (h'.see n (h.see n hn).1).2.trans (h.see n hn).2⟩, fun r hr => ⟨(h'.look r (h.look r hr).1).1, (h'.look r (h.look r hr).1).2.trans (h.look r hr).2⟩⟩

section
variable {α β : Type} {V : ShS → Int → Prop} {σ σ' : ShS}
theorem after_form (σ : ShS) (p : Pr α) : ∀ l, (∃ a, p.after σ l = .ret a) ∨ ∃ f k, p.after σ l = .touch f k := by
  induction p with
  | ret a => exact fun l => .inl ⟨a, by cases l <;> rfl⟩
  | touch f k ih =>
    intro l
    cases l with
    | nil => exact .inr ⟨f, k, rfl⟩
    | cons n l => exact ih n l
  | look r k ih => exact fun l => by simp only [Pr.after]; exact ih _ l
  | see n k ih => exact fun l => by simp only [Pr.after]; exact ih _ l
theorem after_ret (a : α) (l : List Int) : (Pr.ret a).after σ l = .ret a := by cases l <;> rfl
theorem firm_ret (a : α) (l : List Int) : (Pr.ret a).firm V σ l := by cases l <;> exact trivial
theorem stable (h : Keeps V σ σ') (p : Pr α) : ∀ l, p.firm V σ l → p.firm V σ' l ∧ p.after σ' l = p.after σ l := by
  induction p with
  | ret a => exact fun l _ => ⟨firm_ret a l, by rw [after_ret, after_ret]⟩
  | touch f k ih =>
    intro l hl
    cases l with
    | nil => exact ⟨trivial, rfl⟩
    | cons n l => exact ih n l hl
  | look r k ih =>
    intro l hl
    simp only [Pr.firm, Pr.after] at hl ⊢
    have h1 := h.look r hl.1
    rw [h1.2]
    exact ⟨⟨h1.1, (ih _ l hl.2).1⟩, (ih _ l hl.2).2⟩
  | see n k ih =>
    intro l hl
    simp only [Pr.firm, Pr.after] at hl ⊢
    have h1 := h.see n hl.1
    rw [h1.2]
    exact ⟨⟨h1.1, (ih _ l hl.2).1⟩, (ih _ l hl.2).2⟩
theorem after_snoc (n : Int) {f : ShS → Int × ShS} {k : Int → Pr α} (p : Pr α) : ∀ l, p.after σ l = .touch f k → p.after σ (l ++ [n]) = (k n).after σ [] := by
  induction p with
  | ret a => intro l h; rw [after_ret] at h; cases h
  | touch g k' ih =>
    intro l h
    cases l with
    | nil => simp only [Pr.after, Pr.touch.injEq] at h; obtain ⟨rfl, rfl⟩ := h; rfl
    | cons m l => exact ih m l h
  | look r k ih => intro l h; simp only [Pr.after] at h ⊢; exact ih _ l h
  | see m k ih => intro l h; simp only [Pr.after] at h ⊢; exact ih _ l h
theorem firm_snoc (n : Int) {f : ShS → Int × ShS} {k : Int → Pr α} (p : Pr α) : ∀ l, p.after σ l = .touch f k → p.firm V σ l → (k n).firm V σ [] → p.firm V σ (l ++ [n]) := by
  induction p with
  | ret a => intro l _ _ _; exact firm_ret _ _
  | touch g k' ih =>
    intro l h hl hk
    cases l with
    | nil => simp only [Pr.after, Pr.touch.injEq] at h; obtain ⟨rfl, rfl⟩ := h; exact hk
    | cons m l => exact ih m l h hl hk
  | look r k ih => intro l h hl hk; simp only [Pr.after, Pr.firm] at h hl ⊢; exact ⟨hl.1, ih _ l h hl.2 hk⟩
  | see m k ih => intro l h hl hk; simp only [Pr.after, Pr.firm] at h hl ⊢; exact ⟨hl.1, ih _ l h hl.2 hk⟩
theorem looked_hit {r : Int} (h : σ.A.get r ≠ none) : σ.looked r = σ := by
  unfold ShS.looked ArS.look
  cases hg : σ.A.get r with
  | none => exact absurd hg h
  | some s => rfl

/-- Through the log, up to the first touch beyond it. -/
theorem exec_log (log : List Int) (p : Pr α) : ∀ pos, pos ≤ log.length → p.firm V σ (log.drop pos) →
    (∀ a, p.after σ (log.drop pos) = .ret a → ∃ pos', p.exec ⟨log, pos, false⟩ σ = .out a ⟨log, pos', false⟩ σ) ∧
    (∀ f k, p.after σ (log.drop pos) = .touch f k → p.exec ⟨log, pos, false⟩ σ = (k (f σ).1).exec ⟨log ++ [(f σ).1], log.length + 1, true⟩ (f σ).2) := by
  induction p with
  | ret a =>
    intro pos hp _
    refine ⟨fun b h => ?_, fun f k h => ?_⟩
    · rw [after_ret] at h; cases h; exact ⟨pos, rfl⟩
    · rw [after_ret] at h; cases h
  | touch g k' ih =>
    intro pos hp hl
    by_cases hlt : pos < log.length
    · have hd : log.drop pos = log[pos] :: log.drop (pos + 1) := List.drop_eq_getElem_cons hlt
      rw [hd] at hl ⊢
      have he : (Pr.touch g k').exec ⟨log, pos, false⟩ σ = (k' log[pos]).exec ⟨log, pos + 1, false⟩ σ := by
        simp only [Pr.exec, List.getElem?_eq_getElem hlt]; rfl
      rw [he]
      exact ih _ (pos + 1) hlt hl
    · have hd : log.drop pos = [] := List.drop_eq_nil_of_le (by omega)
      have hpe : pos = log.length := by omega
      rw [hd] at hl ⊢
      refine ⟨fun b h => (by cases h), fun f k h => ?_⟩
      simp only [Pr.after, Pr.touch.injEq] at h
      obtain ⟨rfl, rfl⟩ := h
      subst hpe
      simp only [Pr.exec, List.getElem?_eq_none (Nat.le_refl _)]
      rfl
  | look r k ih =>
    intro pos hp hl
    simp only [Pr.firm, Pr.after] at hl ⊢
    have he : (Pr.look r k).exec ⟨log, pos, false⟩ σ = (k (σ.A.look r).1).exec ⟨log, pos, false⟩ σ := by
      simp only [Pr.exec, looked_hit hl.1]
    rw [he]
    exact ih _ pos hp hl.2
  | see n k ih =>
    intro pos hp hl
    simp only [Pr.firm, Pr.after] at hl ⊢
    exact ih _ pos hp hl.2
/-- On to the next touch. -/
theorem exec_spent (log : List Int) (p : Pr α) : p.firm V σ [] →
    (∀ a, p.after σ [] = .ret a → p.exec ⟨log, log.length, true⟩ σ = .out a ⟨log, log.length, true⟩ σ) ∧
    (∀ f k, p.after σ [] = .touch f k → p.exec ⟨log, log.length, true⟩ σ = .wait ⟨log, log.length, true⟩ σ) := by
  induction p with
  | ret a => exact fun _ => ⟨fun b h => by rw [after_ret] at h; cases h; rfl, fun f k h => by rw [after_ret] at h; cases h⟩
  | touch g k' ih =>
    refine fun _ => ⟨fun b h => (by cases h), fun f k h => ?_⟩
    simp only [Pr.exec, List.getElem?_eq_none (Nat.le_refl _)]
    rfl
  | look r k ih =>
    intro hl
    simp only [Pr.firm, Pr.after] at hl ⊢
    have he : (Pr.look r k).exec ⟨log, log.length, true⟩ σ = (k (σ.A.look r).1).exec ⟨log, log.length, true⟩ σ := by
      simp only [Pr.exec, looked_hit hl.1]
    rw [he]
    exact ih _ hl.2
  | see n k ih =>
    intro hl
    simp only [Pr.firm, Pr.after] at hl ⊢
    exact ih _ hl.2
end

section
variable {V : ShS → Int → Prop} {σ σ' : ShS} {pr : Pr (List Int)} {log : List Int}
/-- A thread that is on its way: what is left of it. -/
structure Rn (V : ShS → Int → Prop) (pr : Pr (List Int)) (σ : ShS) (log : List Int) (q : Pr (List Int)) : Prop where
  firm : pr.firm V σ log
  left : pr.after σ log = q

theorem Rn.keep {q : Pr (List Int)} (h : Rn V pr σ log q) (hk : Keeps V σ σ') : Rn V pr σ' log q :=
  ⟨(stable hk pr log h.firm).1, (stable hk pr log h.firm).2.trans h.left⟩
/-- One step. -/
theorem Rn.step {f : ShS → Int × ShS} {k : Int → Pr (List Int)} (h : Rn V pr σ log (.touch f k)) (hk : Keeps V σ (f σ).2) (hf : (k (f σ).1).firm V (f σ).2 []) :
    Rn V pr (f σ).2 (log ++ [(f σ).1]) ((k (f σ).1).after (f σ).2 []) ∧
    (∀ a, (k (f σ).1).after (f σ).2 [] = .ret a → stepT pr ⟨log, none⟩ σ = (true, ⟨log ++ [(f σ).1], some a⟩, (f σ).2)) ∧
    (∀ g j, (k (f σ).1).after (f σ).2 [] = .touch g j → stepT pr ⟨log, none⟩ σ = (false, ⟨log ++ [(f σ).1], none⟩, (f σ).2)) := by
  have hs := stable hk pr log h.firm
  have he := (exec_log (V := V) log pr 0 (Nat.zero_le _) h.firm).2 f k h.left
  have hx := exec_spent (V := V) (log ++ [(f σ).1]) (k (f σ).1) hf
  rw [List.length_append, List.length_singleton] at hx
  refine ⟨⟨firm_snoc _ _ _ (hs.2.trans h.left) hs.1 hf, after_snoc _ _ _ (hs.2.trans h.left)⟩, fun a ha => ?_, fun g j hj => ?_⟩
  · simp only [stepT]; rw [he, hx.1 a ha]
  · simp only [stepT]; rw [he, hx.2 g j hj]
theorem Rn.done {a : List Int} (h : Rn V pr σ log (.ret a)) : stepT pr ⟨log, none⟩ σ = (true, ⟨log, some a⟩, σ) := by
  obtain ⟨pos, he⟩ := (exec_log (V := V) log pr 0 (Nat.zero_le _) h.firm).1 a h.left
  simp only [stepT]; rw [he]
theorem Rn.start (h : pr.firm V σ []) : Rn V pr σ [] (pr.after σ []) := ⟨h, rfl⟩

/-- A program that runs alone: so many touches. -/
inductive Runs (V : ShS → Int → Prop) {α : Type} : Pr α → ShS → Nat → α → ShS → Prop
  | ret {a : α} {σ : ShS} : Runs V (.ret a) σ 0 a σ
  | touch {f : ShS → Int × ShS} {k : Int → Pr α} {σ σ' : ShS} {N : Nat} {a : α} (hk : Keeps V σ (f σ).2) (h : Runs V (k (f σ).1) (f σ).2 N a σ') : Runs V (.touch f k) σ (N + 1) a σ'
  | look {r : Int} {k : NodeS → Pr α} {σ σ' : ShS} {N : Nat} {a : α} (hr : σ.A.get r ≠ none) (h : Runs V (k (σ.A.look r).1) σ N a σ') : Runs V (.look r k) σ N a σ'
  | see {n : Int} {k : RecS → Pr α} {σ σ' : ShS} {N : Nat} {a : α} (hn : V σ n) (h : Runs V (k (σ.T.look n)) σ N a σ') : Runs V (.see n k) σ N a σ'

theorem Runs.bind {α β : Type} {p : Pr α} {q : α → Pr β} {σ σ1 σ2 : ShS} {N M : Nat} {a : α} {b : β} (h : Runs V p σ N a σ1) (h' : Runs V (q a) σ1 M b σ2) : Runs V (p.bind q) σ (N + M) b σ2 := by
  induction h with
  | ret => rw [Nat.zero_add]; exact h'
  | touch hk _ ih => rw [Nat.add_right_comm]; exact .touch hk (ih h')
  | look hr _ ih => exact .look hr (ih h')
  | see hn _ ih => exact .see hn (ih h')

/-- What is left at its head is firm, and goes on so. -/
theorem Runs.head {α : Type} {p : Pr α} {σ σ' : ShS} {N : Nat} {a : α} (h : Runs V p σ N a σ') : p.firm V σ [] ∧ Runs V (p.after σ []) σ N a σ' := by
  induction h with
  | ret => exact ⟨trivial, .ret⟩
  | touch hk h _ => exact ⟨trivial, .touch hk h⟩
  | look hr _ ih => exact ⟨⟨hr, ih.1⟩, ih.2⟩
  | see hn _ ih => exact ⟨⟨hn, ih.1⟩, ih.2⟩

theorem Rn.ends {N : Nat} {q : Pr (List Int)} {a : List Int} (hr : Runs V q σ (N + 1) a σ') : ∀ {log : List Int}, Rn V pr σ log q → (∃ f k, q = .touch f k) → log.length + N < 100000 → ∃ log', log'.length = log.length + (N + 1) ∧ Ends pr ⟨log, none⟩ σ (N + 1) ⟨log', some a⟩ σ' := by
  induction N generalizing q σ with
  | zero =>
    intro log h ⟨f, k, hq⟩ hl
    subst hq
    cases hr with
    | touch hk hrest =>
      have hd := hrest.head
      have hs := h.step hk hd.1
      rcases after_form (f σ).2 (k (f σ).1) [] with ⟨b, hb⟩ | ⟨g, j, hg⟩
      · have h2 := hd.2
        rw [hb] at h2
        cases h2
        exact ⟨_, by simp, .one (hs.2.1 _ hb) hl⟩
      · have h2 := hd.2
        rw [hg] at h2
        cases h2
  | succ N ih =>
    intro log h ⟨f, k, hq⟩ hl
    subst hq
    cases hr with
    | touch hk hrest =>
      have hd := hrest.head
      have hs := h.step hk hd.1
      rcases after_form (f σ).2 (k (f σ).1) [] with ⟨b, hb⟩ | ⟨g, j, hg⟩
      · have h2 := hd.2
        rw [hb] at h2
        cases h2
      · have h2 := hd.2
        rw [hg] at h2
        have hs1 := hs.1
        rw [hg] at hs1
        obtain ⟨log', h3, h4⟩ := ih h2 hs1 ⟨g, j, rfl⟩ (by simp; omega)
        exact ⟨log', by rw [h3]; simp; omega, .more (hs.2.2 _ _ hg) (by show log.length < 100000; omega) h4⟩
/-- A thread that runs alone from its beginning. -/
theorem Runs.ends {N : Nat} {a : List Int} (hr : Runs V pr σ N a σ') (hN : N < 100000) : ∃ log', log'.length = N ∧ Ends pr ⟨[], none⟩ σ (max N 1) ⟨log', some a⟩ σ' := by
  have hd := hr.head
  have h0 := Rn.start hd.1
  rcases after_form σ pr [] with ⟨b, hb⟩ | ⟨g, j, hg⟩
  · have h2 := hd.2
    rw [hb] at h2 h0
    cases h2
    exact ⟨[], rfl, .one h0.done (by simp)⟩
  · have h2 := hd.2
    rw [hg] at h2 h0
    obtain ⟨N, rfl⟩ : ∃ M, N = M + 1 := by
      cases h2 with
      | touch _ _ => exact ⟨_, rfl⟩
    obtain ⟨log', h3, h4⟩ := Rn.ends h2 h0 ⟨g, j, rfl⟩ (by simp; omega)
    exact ⟨log', by simpa using h3, by rw [Nat.max_eq_left (by omega)]; exact h4⟩
end
end Go.Proofs.Ytacmeafpieoaaaa
