/- Thread.New, Done, Out; Start. -/
import Derived.Test.YtacmeafpieoaaaaTl
namespace Go.Proofs.Ytacmeafpieoaaaa
open Go.RowKit

theorem enters121 : Enters Try.prog 121 := enters_of Try.func121 (by kernel_rfl) rfl

section
variable {κ κ' : Nat → K} {w w' : World} {wi j pth : Nat} {p : WdP} {σ : ShS} {t : Th} {logv : Value} {k : Nat} {caps : Array Value} {pr : Pr (List Int)} {work : Value}

theorem tdone_ok (h : ThRep κ w j pth (.func (.func k) #[] caps) t) : Calls Try.prog 58 #[.pointer (some ⟨pth, 0, none⟩)] w fun e w' => e = .returned (.bool t.res.isSome) ∧ w' = w := by
  have hfn := fun w => eqlFunc175 k caps w
  obtain ⟨logv, T, outv, hlg, hth, hout⟩ := h
  have c0 := hth.cell 0
  have c5 := hth.cell 5
  simp only [List.getElem?_toArray, List.getElem?_cons_succ, List.getElem?_cons_zero] at c0 c5
  clear hth hout hlg
  cases hr : t.res with
  | some l =>
    rw [hr] at c5
    replace c5 : w.cell? ⟨pth, 5, none⟩ = some (.bool true) := c5
    go_enter Try.func58, Try.ntmps58
    go_wp2
    go_ret
    exact ⟨rfl, rfl⟩
  | none =>
    rw [hr] at c5
    replace c5 : w.cell? ⟨pth, 5, none⟩ = some (.bool false) := c5
    go_enter Try.func58, Try.ntmps58
    go_wp2
    go_ret
    exact ⟨rfl, rfl⟩

set_option maxRecDepth 100000 in
theorem tout_ok (h : ThRep κ w j pth work t) {l : List Int} (hr : t.res = some l) (hl : l.length ≤ 100000) : Calls Try.prog 47 #[.pointer (some ⟨pth, 0, none⟩)] w fun e w' =>
    ∃ a c, e = .returned (.slice a l.length c) ∧ Fresh w w' 2 1 (.slice a l.length c) l.length (intVs l) := by
  obtain ⟨j0, hj, hy0, hy1, hy2⟩ := info_parts info2
  obtain ⟨logv, T, outv, hlg, hth, hout⟩ := h
  have c5 := hth.cell 5
  have c6 := hth.cell 6
  simp only [List.getElem?_toArray, List.getElem?_cons_succ, List.getElem?_cons_zero] at c5 c6
  rw [hr] at c5 hout
  replace c5 : w.cell? ⟨pth, 5, none⟩ = some (.bool true) := c5
  obtain ⟨ao, cap, rfl, hle, hno⟩ := Row.shape hout
  have hsrc := Row.src hout
  have hpl := lt_of_heap hth.hp
  clear hth hout hlg
  go_enter Try.func47, Try.ntmps47
  go_wp2_with (at_builtin; refine wpList_append_row rfl _ _ 22 rfl 2 j0 (.int .i64 0) 1 8 Try.underlying22 hj hy0 hy1 hy2 rfl (by decide) _ 0 [] rfl (Own.empty _ _ _ _) ao l.length cap (intVs l) rfl ?c1 (intVs_one _) ?c2 ?c3 ?_)
  case c1 => exact hsrc.move ((Below.refl _ _).alloc (Nat.le_refl _) _)
  case c2 => simp only [maxLen]; omega
  case c3 => omega
  intro v' w3 h
  go_wp2
  go_ret
  have ho : Own w3 2 1 v' l.length (intVs l) := by simpa using h.own
  obtain ⟨a', c', hv', _⟩ := ho.2
  have hat := h.at_
  have hsz := h.size
  simp at hsz
  have hnew : ∀ g, blk v' = some g → w.heap.size ≤ g := fun g hg => by
    rcases hat with e | e
    · rw [e] at hg; simp [blk] at hg
    · rw [hg] at e; simp at e; omega
  subst hv'
  refine ⟨a', c', rfl, ho, hnew, ((Below.refl _ _).alloc (Nat.le_refl _) _).trans (h.below (by simp) (by simp [blk]))⟩

/-- An operation that goes by a program, whenever it is called with its thread. -/
def TaskOk (κ : Nat → K) (w : World) (wi : Nat) (p : WdP) (j pth : Nat) (me : Int) (k : Nat) (caps : Array Value) (pr : Pr (List Int)) : Prop :=
  ∀ κ1 w1 work T σ, Fr κ (K.run wi) w w1 → Ext κ κ1 w → St κ1 w1 wi p j pth work T σ →
    Calls Try.prog k (#[.agg #[.pointer (some ⟨pth, 0, none⟩), .pointer (some ⟨p.pw, 0, none⟩), .int .i64 me]] ++ caps) w1 (TPost κ1 w1 wi p j pth work (pr.exec T σ) isRow)

theorem start_ok (hS : Sup κ w) (j : Nat) (p : WdP) (me : Int) (k : Nat) (caps : Array Value) (pr : Pr (List Int)) (hent : Enters Try.prog k) (ht : ∀ pth, TaskOk κ w wi p j pth me k caps pr) :
    Calls Try.prog 59 #[.pointer (some ⟨p.pw, 0, none⟩), .int .i64 me, .func (.func k) #[] caps] w fun e w' => ∃ κ' pth caps1, e = .returned (.pointer (some ⟨pth, 0, none⟩)) ∧ ThRep κ' w' j pth (.func (.func 121) #[] caps1) ⟨[], none⟩ ∧
      WorkOk κ' w' wi p j pth 121 caps1 pr ∧ Below w.heap.size w w' ∧ Ext κ κ' w ∧ Sup κ' w' := by
  have hmf : ∀ (fn : Fn) (first cap : Array Value) (w : World), (Instr.makeFunc fn first cap).run Try.prog w = .ok (.func fn first cap) w := fun _ _ _ _ => rfl
  have HT := Lib.hid ht
  have HE := Lib.hid hent
  clear ht hent
  go_enter Try.func59, Try.ntmps59
  go_wp2
  refine bodyPost_ret (v := .pointer (some ⟨w.heap.size + 3, 0, none⟩)) (by simp [results, Try.results59, go_sem]) rfl ?_
  generalize hw0 : w.alloc (Obj.cells #[Value.pointer (some { block := p.pw, off := 0 })] 33) = w0
  have hs0 : w0.heap.size = w.heap.size + 1 := by rw [← hw0]; simp
  have hb0 : Below w.heap.size w w0 := hw0 ▸ (Below.refl _ _).alloc (Nat.le_refl _) _
  have hx0 : w0.heap[w.heap.size]? = some (.cells #[Value.pointer (some { block := p.pw, off := 0 })] 33 (0, 0)) := by rw [← hw0]; exact Laws.heap_new w _
  generalize hw1 : w0.alloc (Obj.cells #[Value.int IntKind.i64 me] 3) = w1
  have hs1 : w1.heap.size = w.heap.size + 2 := by rw [← hw1]; simp [hs0]
  have hb1 : Below w0.heap.size w0 w1 := hw1 ▸ (Below.refl _ _).alloc (Nat.le_refl _) _
  have hx1 : w1.heap[w.heap.size + 1]? = some (.cells #[Value.int IntKind.i64 me] 3 (0, 0)) := by rw [← hw1, ← hs0]; exact Laws.heap_new w0 _
  generalize hw2 : w1.alloc (Obj.cells #[Value.func (Fn.func k) #[] caps] 86) = w2
  have hs2 : w2.heap.size = w.heap.size + 3 := by rw [← hw2]; simp [hs1]
  have hb2 : Below w1.heap.size w1 w2 := hw2 ▸ (Below.refl _ _).alloc (Nat.le_refl _) _
  have hx2 : w2.heap[w.heap.size + 2]? = some (.cells #[Value.func (Fn.func k) #[] caps] 86 (0, 0)) := by rw [← hw2, ← hs1]; exact Laws.heap_new w1 _
  generalize hw3 : w2.alloc _ = w3
  have hs3 : w3.heap.size = w.heap.size + 4 := by rw [← hw3]; simp [hs2]
  have hb3 : Below w2.heap.size w2 w3 := hw3 ▸ (Below.refl _ _).alloc (Nat.le_refl _) _
  have hx3 : w3.heap[w.heap.size + 3]? = some (.cells #[Value.func (Fn.func 121) #[] #[.pointer (some ⟨w.heap.size + 2, 0, none⟩), .pointer (some ⟨w.heap.size, 0, none⟩), .pointer (some ⟨w.heap.size + 1, 0, none⟩)],
      Value.slice none 0 0, Value.int IntKind.i64 (0 : Nat), Value.bool false, Value.bool false, Value.bool false, Value.slice none 0 0] 177 (0, 0)) := by rw [← hw3, ← hs2]; exact Laws.heap_new w2 _
  have hB : Below w.heap.size w w3 := ((hb0.trans (hb1.mono (by omega))).trans (hb2.mono (by omega))).trans (hb3.mono (by omega))
  have y0 : w3.heap[w.heap.size]? = some (.cells #[Value.pointer (some { block := p.pw, off := 0 })] 33 (0, 0)) := (hb3.block _ (by omega)).trans ((hb2.block _ (by omega)).trans ((hb1.block _ (by omega)).trans hx0))
  have y1 : w3.heap[w.heap.size + 1]? = some (.cells #[Value.int IntKind.i64 me] 3 (0, 0)) := (hb3.block _ (by omega)).trans ((hb2.block _ (by omega)).trans hx1)
  have y2 : w3.heap[w.heap.size + 2]? = some (.cells #[Value.func (Fn.func k) #[] caps] 86 (0, 0)) := (hb3.block _ (by omega)).trans hx2
  have hE : Ext κ (upd κ (w.heap.size + 3) (.thr j)) w := Ext.upd _ _ _ (by omega)
  have hk3 : upd κ (w.heap.size + 3) (.thr j) (w.heap.size + 3) = .thr j := upd_at _ _ _
  have hkn : ∀ b, w.heap.size ≤ b → b < w.heap.size + 3 → upd κ (w.heap.size + 3) (.thr j) b = .none := fun b h1 h2 => by rw [upd_ne _ _ (by omega)]; exact hS b h1
  have hS3 : Sup (upd κ (w.heap.size + 3) (.thr j)) w3 := hS.upd _ (by omega) (by omega)
  generalize upd κ (w.heap.size + 3) (.thr j) = κ' at hE hk3 hkn hS3
  refine ⟨κ', w.heap.size + 3, #[.pointer (some ⟨w.heap.size + 2, 0, none⟩), .pointer (some ⟨w.heap.size, 0, none⟩), .pointer (some ⟨w.heap.size + 1, 0, none⟩)], rfl, ⟨.slice none 0 0, ⟨[], 0, false⟩, .slice none 0 0, rfl, ⟨hk3, hx3, Own.nil _ _ _, by simp [blk]⟩, rfl⟩, ?_, hB, hE, hS3⟩
  clear hw0 hw1 hw2 hw3 hb0 hb1 hb2 hb3 hx0 hx1 hx2 hx3 hmf
  intro κ4 w4 T σ hf he hst
  have g0 := (hf.block _ (by omega) (by rw [hkn _ (by omega) (by omega)]; rfl)).trans y0
  have g1 := (hf.block _ (by omega) (by rw [hkn _ (by omega) (by omega)]; rfl)).trans y1
  have g2 := (hf.block _ (by omega) (by rw [hkn _ (by omega) (by omega)]; rfl)).trans y2
  have c0 : w4.cell? ⟨w.heap.size, 0, none⟩ = some (Value.pointer (some { block := p.pw, off := 0 })) := by rw [cell_of_heap g0]; rfl
  have c1 : w4.cell? ⟨w.heap.size + 1, 0, none⟩ = some (Value.int IntKind.i64 me) := by rw [cell_of_heap g1]; rfl
  have c2 : w4.cell? ⟨w.heap.size + 2, 0, none⟩ = some (Value.func (Fn.func k) #[] caps) := by rw [cell_of_heap g2]; rfl
  have hcall := HT.out (w.heap.size + 3) κ4 w4 _ T σ ((Fr.below (κ := κ) hB).trans hf hE) (hE.trans he hB.size) hst
  have hcf := fun args w => HE.out args w
  clear g0 g1 g2 y0 y1 y2 hf he hst hkn hE hB hS
  show Calls Try.prog 121 #[.pointer (some ⟨w.heap.size + 3, 0, none⟩), .pointer (some ⟨w.heap.size + 2, 0, none⟩), .pointer (some ⟨w.heap.size, 0, none⟩), .pointer (some ⟨w.heap.size + 1, 0, none⟩)] w4 _
  go_enter Try.func121, Try.ntmps121
  go_wp2_with fail
  refine hcall.mono ?_
  rintro e w5 hh
  rcases res_cases (pr.exec T σ) with ⟨T1, σ1, hx⟩ | ⟨l, T1, σ1, hx⟩
  · rw [hx] at hh
    obtain ⟨κ5, rfl, h1, h2, h3⟩ := hh
    refine ⟨rfl, ?_⟩
    rw [hx]
    exact ⟨κ5, rfl, h1, h2, h3⟩
  · rw [hx] at hh
    obtain ⟨κ5, v, rfl, h0, h1, h2, h3⟩ := hh
    have HX := Lib.hid hx
    clear hx hcall hcf
    go_wp2
    go_ret
    rw [HX.out]
    exact ⟨κ5, v, rfl, h0, h1, h2, h3⟩
end
end Go.Proofs.Ytacmeafpieoaaaa
