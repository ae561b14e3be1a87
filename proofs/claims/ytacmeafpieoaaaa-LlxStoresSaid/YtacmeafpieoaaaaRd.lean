/- help.Record: its walk. -/
import Derived.Test.YtacmeafpieoaaaaRc
import Derived.Test.YtacmeafpieoaaaaHm
import Derived.Deep.CutRange
namespace Go.Mask
section
variable {P : Program} {ops : Array Oper} {Q : Exit → Act → World → Prop} {md : Region.Mode} {S : World → Prop} {m : Nat → Bool}
/-- One of several that may come up. -/
theorem oneOf (i : Nat) {oi : Oper} {fuel : Nat} {listed : Array Bool} {a : Act} {w : World} (hi : ops[i]? = some oi) (hg : oi.guard = none)
    (h : ∀ K : Act → World → Prop, (∀ a' w', (m i = true → S w') → (wpAnyM P md ops Q S m fuel (listed.setIfInBounds i true) a' w') → K a' w') → oi.wp P a w K Q) :
    wpOp P ops Q i (fun a' w' => (m i = true → S w') ∧ wpAnyM P md ops Q S m fuel (listed.setIfInBounds i true) a' w') a w := by
  unfold wpOp
  simp only [hi]
  rw [if_pos (by simp [Region.wanted, hg])]
  exact .inl (h _ fun a' w' hs hh => ⟨hs, hh⟩)
/-- Of two that may come up each. -/
theorem two (i j : Nat) {oi oj : Oper} {fuel : Nat} {listed : Array Bool} {a : Act} {w : World} (hr : Region.ready md ops listed = [i, j]) (hi : ops[i]? = some oi) (hgi : oi.guard = none) (hj : ops[j]? = some oj) (hgj : oj.guard = none)
    (h1 : ∀ K : Act → World → Prop, (∀ a' w', (m i = true → S w') → (wpAnyM P md ops Q S m fuel (listed.setIfInBounds i true) a' w') → K a' w') → oi.wp P a w K Q)
    (h2 : ∀ K : Act → World → Prop, (∀ a' w', (m j = true → S w') → (wpAnyM P md ops Q S m fuel (listed.setIfInBounds j true) a' w') → K a' w') → oj.wp P a w K Q) : wpAnyM P md ops Q S m (fuel + 1) listed a w := by
  refine all hr (by simp) fun k hk => ?_
  simp only [List.mem_cons, List.not_mem_nil, or_false] at hk
  rcases hk with rfl | rfl
  · exact oneOf k hi hgi h1
  · exact oneOf k hj hgj h2
end
end Go.Mask
namespace Go.Proofs.Ytacmeafpieoaaaa
open Go.RowKit

section
variable {κ κ' : Nat → K} {w w' : World} {wi j pth : Nat} {p : WdP} {σ : ShS} {T : TS} {me : Int} {work : Value}

theorem St.later (h : St κ w wi p j pth work T σ) (hb : Below w.heap.size w w') (he : Ext κ κ' w) (hS : Sup κ' w') : St κ' w' wi p j pth work T σ := by
  obtain ⟨logv, hth⟩ := h.th
  exact ⟨h.wd.below hb he, ⟨logv, hth.keep (fun b hb' _ => hb.block b hb') he⟩, h.ok, hS⟩
theorem St.boxed (h : St κ w wi p j pth work T σ) {x : Nat} (hx : κ x = .none) (ho : ∀ b, b ≠ x → w'.heap[b]? = w.heap[b]?) (hs : w.heap.size = w'.heap.size) : St κ w' wi p j pth work T σ := by
  obtain ⟨logv, hth⟩ := h.th
  exact ⟨h.wd.keep (fun b _ hk => ho b (by intro e; rw [e, hx] at hk; simp [K.ofW] at hk)) (by omega) (Ext.refl _ _), ⟨logv, hth.keep (fun b _ hk => ho b (by intro e; rw [e, hx] at hk; simp [K.thrd] at hk)) (Ext.refl _ _)⟩, h.ok, h.sup.mono (by omega)⟩
theorem BoxAt.later {b : Nat} {cs : Array Value} {t : TypeId} (h : BoxAt κ w b cs t) (hb : Below w.heap.size w w') (he : Ext κ κ' w) : BoxAt κ' w' b cs t := ⟨(hb.block b (lt_of_heap h.hb)).trans h.hb, (he b (lt_of_heap h.hb)).trans h.kb⟩

theorem Row.zero0 (κ : Nat → K) (k : K) (w : World) (sz : Nat) (a : Option Addr) (c : Nat) (_ : True ∨ 0 ≤ c) : Row κ k w sz (.slice a 0 c) 0 [] := ⟨by simp, a, c, rfl, Nat.zero_le _, fun _ => rfl, .inl (by simp)⟩
theorem Row.dropN {k : K} {n cap : Nat} {a : Option Addr} {cs : List Value} (h : Row κ k w 1 (.slice a n cap) n cs) (x : Nat) (hx : x < n) : Row κ k w 1 (.slice (a.map (·.add x)) (n - x) (cap - x)) (n - x) (cs.drop x) := by
  obtain ⟨g, o, cap', hv, hle, hgl, hgk, hgc, hgz⟩ := h.at (by omega) (by decide)
  simp only [Value.slice.injEq] at hv
  obtain ⟨rfl, _, rfl⟩ := hv
  refine ⟨by rw [List.length_drop, h.1]; omega, _, _, rfl, by omega, by simp, .inr ⟨g, o + x, by simp [Addr.add], hgl, hgk, fun q u hu => ?_, hgz⟩⟩
  rw [List.getElem?_drop] at hu
  rw [Nat.add_assoc]
  exact hgc _ _ hu

/-- What help.Record has at hand between its touches. -/
structure RecCtx (κ0 : Nat → K) (w0 : World) (wi : Nat) (p : WdP) (j pth : Nat) (me n : Int) (r : RecS) (tb nb rb : Nat) (an ai : Option Addr) (cn ci : Nat) (κ1 : Nat → K) (w1 : World) : Prop where
  b0 : BoxAt κ1 w1 tb (taskCs pth p me) 85
  b1 : BoxAt κ1 w1 nb #[.int .i64 n] 2
  b2 : BoxAt κ1 w1 rb #[.slice an r.nodes.length cn, .slice ai r.infos.length ci, .int .i64 r.keep, .int .i64 r.way, .int .i64 r.old, .int .i64 r.new] 93
  rn : Row κ1 .imm w1 1 (.slice an r.nodes.length cn) r.nodes.length (intVs r.nodes)
  ri : Row κ1 .imm w1 1 (.slice ai r.infos.length ci) r.infos.length (intVs r.infos)
  fr : Fr κ0 (K.step wi j) w0 w1
  ex : Ext κ0 κ1 w0
theorem RecCtx.later {κ0 κ1 κ2 : Nat → K} {w0 w1 w2 : World} {n : Int} {r : RecS} {tb nb rb : Nat} {an ai : Option Addr} {cn ci : Nat} (h : RecCtx κ0 w0 wi p j pth me n r tb nb rb an ai cn ci κ1 w1) (hf : Fr κ1 (K.step wi j) w1 w2) (he : Ext κ1 κ2 w1) :
    RecCtx κ0 w0 wi p j pth me n r tb nb rb an ai cn ci κ2 w2 :=
  ⟨h.b0.keep hf he rfl, h.b1.keep hf he rfl, h.b2.keep hf he rfl, h.rn.keep (fun b hb hk => hf.block b hb (by rw [hk]; rfl)) hf.size he, h.ri.keep (fun b hb hk => hf.block b hb (by rw [hk]; rfl)) hf.size he, h.fr.trans hf h.ex, h.ex.trans he h.fr.size⟩
theorem RecCtx.below {κ0 κ1 : Nat → K} {w0 w1 w2 : World} {n : Int} {r : RecS} {tb nb rb : Nat} {an ai : Option Addr} {cn ci : Nat} (h : RecCtx κ0 w0 wi p j pth me n r tb nb rb an ai cn ci κ1 w1) (hb : Below w1.heap.size w1 w2) :
    RecCtx κ0 w0 wi p j pth me n r tb nb rb an ai cn ci κ1 w2 := h.later (Fr.below hb) (Ext.refl _ _)

set_option maxRecDepth 100000 in
set_option maxHeartbeats 1000000 in
theorem record_ok (h : St κ w wi p j pth work T σ) (n : Int) : Calls Try.prog 134 #[.agg (taskCs pth p me), .int .i64 n] w (TPost κ w wi p j pth work ((recP n).exec T σ) isBool) := by
  have hmf : ∀ (fn : Fn) (first cap : Array Value) (w : World), (Instr.makeFunc fn first cap).run Try.prog w = .ok (.func fn first cap) w := fun _ _ _ _ => rfl
  have hS := h.sup
  have H := Lib.hid h
  clear h
  generalize hwhole : (recP n).exec T σ = whole
  simp only [taskCs]
  go_enter Try.func134, Try.ntmps134
  go_wp2
  generalize hw0 : w.alloc (.cells #[.pointer (some ⟨pth, 0, none⟩), .pointer (some ⟨p.pw, 0, none⟩), .int .i64 me] 85) = w0
  have b0 : BoxAt κ w0 w.heap.size (taskCs pth p me) 85 := hw0 ▸ BoxAt.new hS _ _
  have hB0 : Below w.heap.size w w0 := hw0 ▸ (Below.refl _ _).alloc (Nat.le_refl _) _
  have hs0 : w0.heap.size = w.heap.size + 1 := by rw [← hw0]; simp
  generalize hw1 : w0.alloc (.cells #[.int .i64 n] 2) = w1
  have hS0 : Sup κ w0 := hS.mono (by omega)
  have b1 : BoxAt κ w1 (w.heap.size + 1) #[.int .i64 n] 2 := by rw [← hw1, ← hs0]; exact BoxAt.new hS0 _ _
  have hB1 : Below w0.heap.size w0 w1 := hw1 ▸ (Below.refl _ _).alloc (Nat.le_refl _) _
  have hs1 : w1.heap.size = w.heap.size + 2 := by rw [← hw1]; simp [hs0]
  have hB : Below w.heap.size w w1 := hB0.trans (hB1.mono (by omega))
  have HST := Lib.hid ((H.out.below hB).below (Below.refl _ _).drew)
  have HD0 := Lib.hid ((b0.below hB1).below (Below.refl _ _).drew)
  have HD1 := Lib.hid (b1.below (Below.refl _ _).drew)
  have HBD := Lib.hid (show Below w.heap.size w w1.drew from hB.drew)
  clear hw0 hw1 b0 b1 hB0 hB1 hB hs0 hS0
  generalize hr : σ.T.look n = r at *
  have hs2 : w1.drew.heap.size = w.heap.size + 2 := hs1
  go_cut [5] from 10 to 16 (fun v5 wr => ∃ (rb : Nat) (κ3 : Nat → Ytacmeafpieoaaaa.K) (an ai : Option Addr) (cn ci : Nat), v5 = .pointer (some ⟨rb, 0, none⟩) ∧ (0 ≤ r.keep ∧ r.nodes.length = r.infos.length ∧ r.nodes.length ≤ 1048576) ∧ St κ3 wr wi p j pth work T σ ∧ BoxAt κ3 wr w.heap.size (taskCs pth p me) 85 ∧ BoxAt κ3 wr (w.heap.size + 1) #[.int .i64 n] 2 ∧ BoxAt κ3 wr rb #[.slice an r.nodes.length cn, .slice ai r.infos.length ci, .int .i64 r.keep, .int .i64 r.way, .int .i64 r.old, .int .i64 r.new] 93 ∧ Row κ3 .imm wr 1 (.slice an r.nodes.length cn) r.nodes.length (intVs r.nodes) ∧ Row κ3 .imm wr 1 (.slice ai r.infos.length ci) r.infos.length (intVs r.infos) ∧ Fr κ (K.step wi j) w wr ∧ Ext κ κ3 w)
  case first =>
    have hS : _ ∧ _ ∧ _ := ⟨(by rw [cell_of_heap HD0.out.hb]; rfl : w1.drew.cell? ⟨w.heap.size, 1, none⟩ = some (.pointer (some ⟨p.pw, 0, none⟩))), (by rw [cell_of_heap HD1.out.hb]; rfl : w1.drew.cell? ⟨w.heap.size + 1, 0, none⟩ = some (.int .i64 n)), (by rw [cell_of_heap HST.out.wd.hpw]; rfl : w1.drew.cell? ⟨p.pw, 1, none⟩ = some (.pointer (some ⟨p.pt, 0, none⟩)))⟩
    refine Mask.begin_ (fun W' => W'.cell? ⟨w.heap.size, 1, none⟩ = some (.pointer (some ⟨p.pw, 0, none⟩)) ∧ W'.cell? ⟨w.heap.size + 1, 0, none⟩ = some (.int .i64 n) ∧ W'.cell? ⟨p.pw, 1, none⟩ = some (.pointer (some ⟨p.pt, 0, none⟩))) (fun i => i != 6 && i != 8) (by kernel_rfl) ?_
    refine Mask.take 0 10 (v := ?_) rfl rfl (by kernel_rfl) (by kernel_rfl) (by kernel_rfl) rfl (by kernel_rfl) (by kernel_rfl) (fun _ _ _ h => h) hS (Or.inl ⟨by rfl, ?_⟩) ?_
    rotate_left
    · intro w hSw; (try dsimp only at hSw); go_simp; try with_reducible rfl
    simp only [Act.put, List.setIfInBounds_toArray, List.set_cons_zero, List.set_cons_succ]
    refine Mask.take 1 11 (v := ?_) rfl rfl (by kernel_rfl) (by kernel_rfl) (by kernel_rfl) rfl (by kernel_rfl) (by kernel_rfl) (fun _ _ _ h => h) hS (Or.inl ⟨by rfl, ?_⟩) ?_
    rotate_left
    · intro w hSw; (try dsimp only at hSw); go_simp; try with_reducible rfl
    simp only [Act.put, List.setIfInBounds_toArray, List.set_cons_zero, List.set_cons_succ]
    refine Mask.take 2 12 (v := ?_) rfl rfl (by kernel_rfl) (by kernel_rfl) (by kernel_rfl) rfl (by kernel_rfl) (by kernel_rfl) (fun _ _ _ h => h) hS (Or.inl ⟨by rfl, ?_⟩) ?_
    rotate_left
    · intro w hSw; (try dsimp only at hSw); go_simp; try with_reducible rfl
    simp only [Act.put, List.setIfInBounds_toArray, List.set_cons_zero, List.set_cons_succ]
    refine Mask.take 3 13 (v := ?_) rfl rfl (by kernel_rfl) (by kernel_rfl) (by kernel_rfl) rfl (by kernel_rfl) (by kernel_rfl) (fun _ _ _ h => h) hS (Or.inl ⟨by rfl, ?_⟩) ?_
    rotate_left
    · intro w hSw; (try dsimp only at hSw); go_simp; try with_reducible rfl
    simp only [Act.put, List.setIfInBounds_toArray, List.set_cons_zero, List.set_cons_succ]
    refine Mask.take 4 14 (v := ?_) rfl rfl (by kernel_rfl) (by kernel_rfl) (by kernel_rfl) rfl (by kernel_rfl) (by kernel_rfl) (fun _ _ _ h => h) hS (Or.inl ⟨by rfl, ?_⟩) ?_
    rotate_left
    · intro w hSw; (try dsimp only at hSw); go_simp; try with_reducible rfl
    simp only [Act.put, List.setIfInBounds_toArray, List.set_cons_zero, List.set_cons_succ]
    refine Mask.take 5 15 (v := ?_) rfl rfl (by kernel_rfl) (by kernel_rfl) (by kernel_rfl) rfl (by kernel_rfl) (by kernel_rfl) (fun _ _ _ h => h) hS (Or.inl ⟨by rfl, ?_⟩) ?_
    rotate_left
    · intro w hSw; (try dsimp only at hSw); go_simp; try with_reducible rfl
    simp only [Act.put, List.setIfInBounds_toArray, List.set_cons_zero, List.set_cons_succ]
    refine Mask.two 6 7 (by kernel_rfl) rfl rfl rfl rfl (fun K hK => ?_) (fun K hK => ?_)
    · go_simp
      refine (rlook_ok HST.out.wd.tab HST.out.sup n).mono ?_
      rintro e w3 ⟨v, κ3, rfl, ⟨vn, vi, rfl, hrn, hri⟩, hgd, hB3, hE3, hS3⟩
      rw [hr] at hrn hri hgd
      obtain ⟨an, cn, rfl, _, _⟩ := hrn.shape
      obtain ⟨ai, ci, rfl, _, _⟩ := hri.shape
      have HG := Lib.hid hgd
      have HB3 := Lib.hid hB3
      have hS' : _ ∧ _ ∧ _ := ⟨(hB3.cell (p := ⟨w.heap.size, 1, none⟩) (lt_of_heap HD0.out.hb)).trans hS.1, (hB3.cell (p := ⟨w.heap.size + 1, 0, none⟩) (lt_of_heap HD1.out.hb)).trans hS.2.1, (hB3.cell (p := ⟨p.pw, 1, none⟩) (lt_of_heap HST.out.wd.hpw)).trans hS.2.2⟩
      have hb3 := hB3.size
      have hl0 := lt_of_heap HD0.out.hb
      have hl1 := lt_of_heap HD1.out.hb
      have hl2 := lt_of_heap HST.out.wd.hpw
      rw [hr]
      clear hgd hB3
      refine hK _ _ (fun h => (by cases h)) ?_
      clear hK K
      try simp only [Act.put, List.setIfInBounds_toArray, List.set_cons_zero, List.set_cons_succ]
      refine Mask.one 7 (by kernel_rfl) rfl rfl (fun K hK => ?_)
      go_simp
      refine hK _ _ (fun _ => ?_) ?_
      · exact ⟨(World.cell?_alloc_past _ _ _ (by show w.heap.size < w3.heap.size; omega)).trans hS'.1, (World.cell?_alloc_past _ _ _ (by show w.heap.size + 1 < w3.heap.size; omega)).trans hS'.2.1, (World.cell?_alloc_past _ _ _ (by show p.pw < w3.heap.size; omega)).trans hS'.2.2⟩
      clear hK K
      try simp only [Act.put, List.setIfInBounds_toArray, List.set_cons_zero, List.set_cons_succ]
      refine Mask.one 8 (by kernel_rfl) rfl rfl (fun K hK => ?_)
      go_simp
      refine hK _ _ (fun h => (by cases h)) ?_
      clear hK K
      try simp only [Act.put, List.setIfInBounds_toArray, List.set_cons_zero, List.set_cons_succ]
      refine Mask.done (by kernel_rfl) ?_ _
      go_wp2
      go_meet
      case rel =>
        have hB := HB3.out
        have hEw : Ext κ κ3 w := fun b hb => hE3 b (by have := HBD.out.size; omega)
        have hBa : Below w1.drew.heap.size w1.drew (w3.alloc (.cells #[.slice an r.nodes.length cn, .slice ai r.infos.length ci, .int .i64 r.keep, .int .i64 r.way, .int .i64 r.old, .int .i64 r.new] 93)) := hB.alloc hB.size _
        have hS3a : Sup κ3 (w3.alloc (.cells #[.slice an r.nodes.length cn, .slice ai r.infos.length ci, .int .i64 r.keep, .int .i64 r.way, .int .i64 r.old, .int .i64 r.new] 93)) := hS3.mono (by simp)
        have hal : Below w3.heap.size w3 (w3.alloc (.cells #[.slice an r.nodes.length cn, .slice ai r.infos.length ci, .int .i64 r.keep, .int .i64 r.way, .int .i64 r.old, .int .i64 r.new] 93)) := (Below.refl _ _).alloc (Nat.le_refl _) _
        exact ⟨w3.heap.size, κ3, an, ai, cn, ci, rfl, HG.out, HST.out.later hBa hE3 hS3a, HD0.out.later hBa hE3, HD1.out.later hBa hE3, BoxAt.new hS3 _ _,
          hrn.keep (fun b hb _ => hal.block b hb) hal.size (Ext.refl _ _), hri.keep (fun b hb _ => hal.block b hb) hal.size (Ext.refl _ _), Fr.below (HBD.out.trans (hBa.mono HBD.out.size)), hEw⟩
    · go_simp
      have hz : Below w1.drew.heap.size w1.drew (w1.alloc (.cells #[Value.slice none 0 0, Value.slice none 0 0, Value.int .i64 0, Value.int .i64 0, Value.int .i64 0, Value.int .i64 0] 93)).drew := show Below w1.drew.heap.size w1.drew (w1.drew.alloc (.cells #[Value.slice none 0 0, Value.slice none 0 0, Value.int .i64 0, Value.int .i64 0, Value.int .i64 0, Value.int .i64 0] 93)) from (Below.refl _ _).alloc (Nat.le_refl _) _
      have hx : (w1.alloc (.cells #[Value.slice none 0 0, Value.slice none 0 0, Value.int .i64 0, Value.int .i64 0, Value.int .i64 0, Value.int .i64 0] 93)).drew.heap[w.heap.size + 2]? = some (.cells #[Value.slice none 0 0, Value.slice none 0 0, Value.int .i64 0, Value.int .i64 0, Value.int .i64 0, Value.int .i64 0] 93 (0, 0)) := by rw [← hs2]; exact Laws.heap_new w1.drew _
      have HST' := Lib.hid (HST.out.below hz)
      have HD0' := Lib.hid (HD0.out.below hz)
      have HD1' := Lib.hid (HD1.out.below hz)
      have hkx : κ (w.heap.size + 2) = .none := HST.out.sup _ (by omega)
      have hxs := lt_of_heap hx
      refine hK _ _ (fun _ => ?_) ?_
      · exact ⟨(World.cell?_alloc_past _ _ _ (lt_of_heap HD0.out.hb)).trans hS.1, (World.cell?_alloc_past _ _ _ (lt_of_heap HD1.out.hb)).trans hS.2.1, (World.cell?_alloc_past _ _ _ (lt_of_heap HST.out.wd.hpw)).trans hS.2.2⟩
      clear hK K
      try simp only [Act.put, List.setIfInBounds_toArray, List.set_cons_zero, List.set_cons_succ]
      generalize (w1.alloc (.cells #[Value.slice none 0 0, Value.slice none 0 0, Value.int .i64 0, Value.int .i64 0, Value.int .i64 0, Value.int .i64 0] 93)).drew = wa at *
      have HX := Lib.hid hx
      clear hS hx
      refine Mask.one 6 (by kernel_rfl) rfl rfl (fun K hK => ?_)
      go_simp
      refine (rlook_ok HST'.out.wd.tab HST'.out.sup n).mono ?_
      rintro e w3 ⟨v, κ3, rfl, ⟨vn, vi, rfl, hrn, hri⟩, hgd, hB3, hE3, hS3⟩
      rw [hr] at hrn hri hgd
      obtain ⟨an, cn, rfl, _, _⟩ := hrn.shape
      obtain ⟨ai, ci, rfl, _, _⟩ := hri.shape
      have HG := Lib.hid hgd
      rw [hr]
      have hx3 := (hB3.block _ hxs).trans HX.out
      have y0 : w3.cell? ⟨w.heap.size + 2, 0, none⟩ = some (Value.slice none 0 0) := by rw [cell_of_heap hx3]; rfl
      have y1 : w3.cell? ⟨w.heap.size + 2, 1, none⟩ = some (Value.slice none 0 0) := by rw [cell_of_heap hx3]; rfl
      have y2 : w3.cell? ⟨w.heap.size + 2, 2, none⟩ = some (Value.int .i64 0) := by rw [cell_of_heap hx3]; rfl
      have y3 : w3.cell? ⟨w.heap.size + 2, 3, none⟩ = some (Value.int .i64 0) := by rw [cell_of_heap hx3]; rfl
      have y4 : w3.cell? ⟨w.heap.size + 2, 4, none⟩ = some (Value.int .i64 0) := by rw [cell_of_heap hx3]; rfl
      have y5 : w3.cell? ⟨w.heap.size + 2, 5, none⟩ = some (Value.int .i64 0) := by rw [cell_of_heap hx3]; rfl
      have yz : ∀ k, w3.frozen? ⟨w.heap.size + 2, k, none⟩ = false := fun k => frozen_of_heap hx3
      have HX3 := Lib.hid hx3
      clear hgd hx3
      refine hK _ _ (fun h => (by cases h)) ?_
      clear hK K
      try simp only [Act.put, List.setIfInBounds_toArray, List.set_cons_zero, List.set_cons_succ]
      refine Mask.one 8 (by kernel_rfl) rfl rfl (fun K hK => ?_)
      go_simp
      refine hK _ _ (fun h => (by cases h)) ?_
      clear hK K
      try simp only [Act.put, List.setIfInBounds_toArray, List.set_cons_zero, List.set_cons_succ]
      refine Mask.done (by kernel_rfl) ?_ _
      go_wp2
      go_meet
      case rel =>
        generalize hwf : ((((((w3.setCell ⟨w.heap.size + 2, 0, none⟩ (.slice an r.nodes.length cn)).setCell ⟨w.heap.size + 2, 1, none⟩ (.slice ai r.infos.length ci)).setCell ⟨w.heap.size + 2, 2, none⟩ (.int .i64 r.keep)).setCell ⟨w.heap.size + 2, 3, none⟩ (.int .i64 r.way)).setCell ⟨w.heap.size + 2, 4, none⟩ (.int .i64 r.old)).setCell ⟨w.heap.size + 2, 5, none⟩ (.int .i64 r.new)) = wf
        have hx3 := HX3.out
        have ho : ∀ b, b ≠ w.heap.size + 2 → wf.heap[b]? = w3.heap[b]? := fun b hb => by
          rw [← hwf]
          repeat rw [Below.heap_setCell _ _ _ _ hb]
        have hxf : wf.heap[w.heap.size + 2]? = some (.cells #[.slice an r.nodes.length cn, .slice ai r.infos.length ci, .int .i64 r.keep, .int .i64 r.way, .int .i64 r.old, .int .i64 r.new] 93 (0, 0)) := by
          rw [← hwf, heap_setCell_at (heap_setCell_at (heap_setCell_at (heap_setCell_at (heap_setCell_at (heap_setCell_at hx3 _) _) _) _) _) _]; rfl
        have hsf : wf.heap.size = w3.heap.size := by rw [← hwf]; simp [World.setCell]
        have hk3 : κ3 (w.heap.size + 2) = .none := (hE3 _ hxs).trans hkx
        have hEw : Ext κ κ3 w := fun b hb => hE3 b (by have := hz.size; omega)
        have hBf : Below w.heap.size w wf := by
          rw [← hwf]
          repeat refine Below.setCell ?_ (by simp) _
          exact (HBD.out.trans (hz.mono (by omega))).trans (hB3.mono (by have := hz.size; omega))
        exact ⟨w.heap.size + 2, κ3, an, ai, cn, ci, rfl, HG.out, (HST'.out.later hB3 hE3 hS3).boxed hk3 ho (by omega), ⟨(ho _ (by omega)).trans (HD0'.out.later hB3 hE3).hb, (HD0'.out.later hB3 hE3).kb⟩, ⟨(ho _ (by omega)).trans (HD1'.out.later hB3 hE3).hb, (HD1'.out.later hB3 hE3).kb⟩, ⟨hxf, hk3⟩,
          hrn.keep (fun b hb hk => ho b (by intro e; rw [e, hk3] at hk; cases hk)) (by omega) (Ext.refl _ _), hri.keep (fun b hb hk => ho b (by intro e; rw [e, hk3] at hk; cases hk)) (by omega) (Ext.refl _ _), Fr.below hBf, hEw⟩
  case rest =>
    obtain ⟨rb, κ3, an, ai, cn, ci, rfl, hgd, hst, hb0, hb1, hb2, hrn, hri, hF, hE⟩ := hcut
    have HWH := Lib.hid (show whole = ((recLoop n (r.nodes.zip r.infos)).bind (recRest n r)).exec T σ by rw [← hwhole]; simp only [recP, Pr.exec, hr])
    have e0 : wc.cell? ⟨rb, 0, none⟩ = some (.slice an r.nodes.length cn) := by rw [cell_of_heap hb2.hb]; rfl
    have HGD := Lib.hid hgd
    clear HST HD0 HD1 HBD H hwhole hs1 hs2 hgd hr
    go_wp2
    clear e0
    have HC := Lib.hid (show RecCtx κ w wi p j pth me n r w.heap.size (w.heap.size + 1) rb an ai cn ci κ3 wc from ⟨hb0, hb1, hb2, hrn, hri, hF, hE⟩)
    clear hb0 hb1 hb2 hrn hri hF hE
    go_loopw [20] (fun i wr => ∃ (q : Nat) (T1 : TS) (σ1 : ShS) (κ1 : Nat → Ytacmeafpieoaaaa.K), i = .int .i64 q ∧ q ≤ r.nodes.length ∧ Hid (whole = ((recLoop n ((r.nodes.zip r.infos).drop q)).bind (recRest n r)).exec T1 σ1) ∧ Hid (St κ1 wr wi p j pth work T1 σ1) ∧
        Hid (RecCtx κ w wi p j pth me n r w.heap.size (w.heap.size + 1) rb an ai cn ci κ1 wr)) (fun i _ => r.nodes.length - (intOf i).toNat)
    case atStart => exact ⟨0, T, σ, κ3, rfl, Nat.zero_le _, HWH, Lib.hid hst, HC⟩
    case round =>
      clear hst HC HWH
      obtain ⟨q, T1, σ1, κ1, rfl, hq, HWH, HST, HC⟩ := hrel
      by_cases hql : q < r.nodes.length
      · have hqi : q < r.infos.length := by rw [← HGD.out.2.1]; exact hql
        obtain ⟨x, hx⟩ : ∃ x, r.nodes[q]? = some x := ⟨_, List.getElem?_eq_getElem hql⟩
        obtain ⟨old, ho⟩ : ∃ x, r.infos[q]? = some x := ⟨_, List.getElem?_eq_getElem hqi⟩
        have hdrop : (r.nodes.zip r.infos).drop q = (x, old) :: (r.nodes.zip r.infos).drop (q + 1) := by
          have hl : q < (r.nodes.zip r.infos).length := by simp; omega
          rw [List.drop_eq_getElem_cons hl]
          have h1 := List.getElem?_eq_some_iff.1 hx
          have h2 := List.getElem?_eq_some_iff.1 ho
          simp [h1.2, h2.2]
        rw [hdrop] at HWH
        obtain ⟨g, o, cap', hv', hle, hgl, hgk, hgc, hgz⟩ := HC.out.rn.at (by omega) (by decide)
        simp only [Value.slice.injEq] at hv'
        obtain ⟨rfl, _, rfl⟩ := hv'
        have hcx : wr.cell? ⟨g, o + q, none⟩ = some (.int .i64 x) := hgc q _ (by rw [intVs_get, hx]; rfl)
        have c0 : wr.cell? ⟨w.heap.size, 0, none⟩ = some (.pointer (some ⟨pth, 0, none⟩)) := by rw [cell_of_heap HC.out.b0.hb]; rfl
        have hltx := lt_of_heap HC.out.b0.hb
        have HO := Lib.hid ho
        clear hdrop hgc hgz hgk hle hx ho
        go_wp2_with fail
        generalize hwA : wr.alloc (.cells #[.int .i64 q] 3) = wA
        have hS1 := HST.out.sup
        have bi : BoxAt κ1 wA wr.heap.size #[.int .i64 q] 3 := hwA ▸ BoxAt.new hS1 _ _
        have hBA : Below wr.heap.size wr wA := hwA ▸ (Below.refl _ _).alloc (Nat.le_refl _) _
        have hsA : wA.heap.size = wr.heap.size + 1 := by rw [← hwA]; simp
        generalize hwB : wA.alloc (.cells #[.int .i64 x] 41) = wB
        have bx : BoxAt κ1 wB (wr.heap.size + 1) #[.int .i64 x] 41 := by rw [← hwB, ← hsA]; exact BoxAt.new (hS1.mono (by omega)) _ _
        have hBB : Below wA.heap.size wA wB := hwB ▸ (Below.refl _ _).alloc (Nat.le_refl _) _
        have hB : Below wr.heap.size wr wB := hBA.trans (hBB.mono (by omega))
        have hstB := HST.out.below hB
        have hcB := HC.out.below hB
        have biB := bi.below hBB
        clear hwA hwB hBA hBB hcx c0 bi
        refine (ask_ok hstB 161 _ (tSwapInfo x old n) enters161 (touch_swapInfo hcB.ri HO.out hcB.b0 bx hcB.b2 biB hcB.b1)).mono ?_
        rintro e w5 hh
        rcases hh.elim with ⟨T2, σ2, κ2, hr2, rfl, hst2, hf2, he2⟩ | ⟨ok, T2, σ2, κ2, v, hr2, rfl, hv, hst2, hf2, he2⟩
        · have hc5 := hcB.later hf2 he2
          refine ⟨rfl, ?_⟩
          rw [HWH.out, recLoop, Pr.exec_bind2, hr2]
          exact ⟨κ2, rfl, hst2, hc5.fr, hc5.ex⟩
        · replace hv : v = .bool ok := hv
          subst hv
          have HC5 := Lib.hid (hcB.later hf2 he2)
          have bx5 := bx.keep hf2 he2 rfl
          have HW5 := Lib.hid (show whole = ((if ok = true then recLoop n ((r.nodes.zip r.infos).drop (q + 1)) else recMiss n x (recLoop n ((r.nodes.zip r.infos).drop (q + 1)))).bind (recRest n r)).exec T2 σ2 by
            rw [HWH.out, recLoop, Pr.exec_bind2, hr2]; rfl)
          have HST5 := Lib.hid hst2
          have HBX := Lib.hid bx5
          clear hh hr2 hst2 hf2 he2 hstB hcB biB bx bx5 HWH HST HC
          cases ok with
          | true =>
            have hb := HGD.out.2.2
            go_wp2
            go_roundw
            case rel => exact ⟨q + 1, T2, σ2, κ2, by go_num, by omega, HW5, HST5, HC5⟩
            case measure => simp [intOf]; omega
          | false =>
            have HSTd := Lib.hid (HST5.out.below (Below.refl _ _).drew)
            have HCd := Lib.hid (HC5.out.below (Below.refl _ _).drew)
            have HBXd := Lib.hid (HBX.out.below (Below.refl _ _).drew)
            go_wp2
            have hS : _ ∧ _ := ⟨(by rw [cell_of_heap HCd.out.b0.hb]; rfl : w5.drew.cell? ⟨w.heap.size, 0, none⟩ = some (.pointer (some ⟨pth, 0, none⟩))), (by rw [cell_of_heap HCd.out.b1.hb]; rfl : w5.drew.cell? ⟨w.heap.size + 1, 0, none⟩ = some (.int .i64 n))⟩
            refine Mask.begin_ (fun W' => W'.cell? ⟨w.heap.size, 0, none⟩ = some (.pointer (some ⟨pth, 0, none⟩)) ∧ W'.cell? ⟨w.heap.size + 1, 0, none⟩ = some (.int .i64 n)) (fun i => i != 5) (by kernel_rfl) ?_
            refine Mask.take 0 29 (v := ?_) rfl rfl (by kernel_rfl) (by kernel_rfl) (by kernel_rfl) rfl (by kernel_rfl) (by kernel_rfl) (fun _ _ _ h => h) hS (Or.inl ⟨by rfl, ?_⟩) ?_
            rotate_left
            · intro w hSw; (try dsimp only at hSw); go_simp; try with_reducible rfl
            simp only [Act.put, List.setIfInBounds_toArray, List.set_cons_zero, List.set_cons_succ]
            refine Mask.take 1 30 (v := ?_) rfl rfl (by kernel_rfl) (by kernel_rfl) (by kernel_rfl) rfl (by kernel_rfl) (by kernel_rfl) (fun _ _ _ h => h) hS (Or.inl ⟨by rfl, ?_⟩) ?_
            rotate_left
            · intro w hSw; (try dsimp only at hSw); go_simp; try with_reducible rfl
            simp only [Act.put, List.setIfInBounds_toArray, List.set_cons_zero, List.set_cons_succ]
            refine Mask.take 2 31 (v := ?_) rfl rfl (by kernel_rfl) (by kernel_rfl) (by kernel_rfl) rfl (by kernel_rfl) (by kernel_rfl) (fun _ _ _ h => h) hS (Or.inl ⟨by rfl, ?_⟩) ?_
            rotate_left
            · intro w hSw; (try dsimp only at hSw); go_simp; try with_reducible rfl
            simp only [Act.put, List.setIfInBounds_toArray, List.set_cons_zero, List.set_cons_succ]
            refine Mask.take 4 33 (v := ?_) rfl rfl (by kernel_rfl) (by kernel_rfl) (by kernel_rfl) rfl (by kernel_rfl) (by kernel_rfl) (fun _ _ _ h => h) hS (Or.inl ⟨by rfl, ?_⟩) ?_
            rotate_left
            · intro w hSw; (try dsimp only at hSw); go_simp; try with_reducible rfl
            simp only [Act.put, List.setIfInBounds_toArray, List.set_cons_zero, List.set_cons_succ]
            -- 3: call F122[t30, t31] types#[61, 88]
            refine Mask.one 3 (by kernel_rfl) rfl rfl (fun K hK => ?_)
            go_simp
            refine (do_ok HSTd.out 162 _ (tInfo x) enters162 (touch_info HCd.out.b0 HBXd.out)).mono ?_
            rintro e w6 hh
            rcases hh.elim with ⟨T3, σ3, κ4, hr3, rfl, hst3, hf3, he3⟩ | ⟨m, T3, σ3, κ4, v, hr3, rfl, hv, hst3, hf3, he3⟩
            · have hc6 := HCd.out.later hf3 he3
              refine ⟨rfl, ?_⟩
              rw [HW5.out]
              simp only [Bool.false_eq_true, if_false]
              rw [recMiss, Pr.exec_bind2, hr3]
              exact ⟨κ4, rfl, hst3, hc6.fr, hc6.ex⟩
            replace hv : v = .int .i64 m := hv
            subst hv
            have HC6 := Lib.hid (HCd.out.later hf3 he3)
            have HW6 := Lib.hid (show whole = ((if m = n then recLoop n ((r.nodes.zip r.infos).drop (q + 1)) else recFail n).bind (recRest n r)).exec T3 σ3 by
              rw [HW5.out]
              simp only [Bool.false_eq_true, if_false]
              rw [recMiss, Pr.exec_bind2, hr3]; rfl)
            have HST6 := Lib.hid hst3
            clear hh hr3 hst3 hf3 he3
            refine hK _ _ (fun _ => ?_) (?_)
            · exact ⟨by rw [cell_of_heap HC6.out.b0.hb]; rfl, by rw [cell_of_heap HC6.out.b1.hb]; rfl⟩
            replace hS : _ ∧ _ := ⟨(by rw [cell_of_heap HC6.out.b0.hb]; rfl : w6.cell? ⟨w.heap.size, 0, none⟩ = some (.pointer (some ⟨pth, 0, none⟩))), (by rw [cell_of_heap HC6.out.b1.hb]; rfl : w6.cell? ⟨w.heap.size + 1, 0, none⟩ = some (.int .i64 n))⟩
            clear hK K
            try simp only [Act.put, List.setIfInBounds_toArray, List.set_cons_zero, List.set_cons_succ]
            refine Mask.takeP 5 34 (v := ?_) rfl rfl (by kernel_rfl) (by kernel_rfl) (by kernel_rfl) rfl (fun _ _ _ h => h) (Or.inl ⟨by rfl, ?_⟩) ?_
            rotate_left
            · intro w hSw; (try dsimp only at hSw); go_simp; try with_reducible rfl
            simp only [Act.put, List.setIfInBounds_toArray, List.set_cons_zero, List.set_cons_succ]
            refine Mask.done (by kernel_rfl) ?_ _
            by_cases hm : m = n
            · have hm' : (m == n) = true := by simp [hm]
              have hb := HGD.out.2.2
              go_wp2
              go_roundw
              case rel => exact ⟨q + 1, T3, σ3, κ4, by go_num, by omega, Lib.hid (by rw [HW6.out, if_pos hm]), HST6, HC6⟩
              case measure => simp [intOf]; omega
            · have hm' : (m == n) = false := by simp [hm]
              have c0 : w6.cell? ⟨w.heap.size, 0, none⟩ = some (.pointer (some ⟨pth, 0, none⟩)) := by rw [cell_of_heap HC6.out.b0.hb]; rfl
              go_wp2_with fail
              refine (ask_ok HST6.out 163 _ (tAll n) enters163 (touch_all HC6.out.b0 HC6.out.b1)).mono ?_
              rintro e w7 hh
              rcases hh.elim with ⟨T4, σ4, κ5, hr4, rfl, hst4, hf4, he4⟩ | ⟨al, T4, σ4, κ5, v, hr4, rfl, hv, hst4, hf4, he4⟩
              · have hc7 := HC6.out.later hf4 he4
                refine ⟨rfl, ?_⟩
                rw [HW6.out, if_neg hm, recFail, Pr.exec_bind2, hr4]
                exact ⟨κ5, rfl, hst4, hc7.fr, hc7.ex⟩
              replace hv : v = .bool al := hv
              subst hv
              have HC7 := Lib.hid (HC6.out.later hf4 he4)
              have HW7 := Lib.hid (show whole = ((if al = true then Pr.ret (some true) else (setP n 0).bind fun _ => .ret (some false)).bind (recRest n r)).exec T4 σ4 by
                rw [HW6.out, if_neg hm, recFail, Pr.exec_bind2, hr4]; rfl)
              have HST7 := Lib.hid hst4
              clear hh hr4 hst4 hf4 he4 c0 HW6 HC6 HST6
              cases al with
              | true =>
                go_wp2
                go_ret
                rw [HW7.out]
                exact ⟨κ5, _, rfl, rfl, HST7.out, HC7.out.fr, HC7.out.ex⟩
              | false =>
                have c0 : w7.cell? ⟨w.heap.size, 0, none⟩ = some (.pointer (some ⟨pth, 0, none⟩)) := by rw [cell_of_heap HC7.out.b0.hb]; rfl
                have c1 : w7.cell? ⟨w.heap.size, 1, none⟩ = some (.pointer (some ⟨p.pw, 0, none⟩)) := by rw [cell_of_heap HC7.out.b0.hb]; rfl
                have c2 : w7.cell? ⟨w.heap.size, 2, none⟩ = some (.int .i64 me) := by rw [cell_of_heap HC7.out.b0.hb]; rfl
                have c3 : w7.cell? ⟨w.heap.size + 1, 0, none⟩ = some (.int .i64 n) := by rw [cell_of_heap HC7.out.b1.hb]; rfl
                go_wp2_with fail
                refine (hset_ok HST7.out n 0).mono ?_
                rintro e w8 hh
                rcases hh.elim with ⟨T5, σ5, κ6, hr5, rfl, hst5, hf5, he5⟩ | ⟨_, T5, σ5, κ6, v, hr5, rfl, hv, hst5, hf5, he5⟩
                · have hc8 := HC7.out.later hf5 he5
                  refine ⟨rfl, ?_⟩
                  rw [HW7.out]
                  simp only [Bool.false_eq_true, if_false]
                  rw [Pr.exec_bind2, hr5]
                  exact ⟨κ6, rfl, hst5, hc8.fr, hc8.ex⟩
                · have HC8 := Lib.hid (HC7.out.later hf5 he5)
                  have HW8 := Lib.hid (show whole = Res.out false T5 σ5 by
                    rw [HW7.out]
                    simp only [Bool.false_eq_true, if_false]
                    rw [Pr.exec_bind2, hr5]; rfl)
                  have HST8 := Lib.hid hst5
                  clear hh hr5 hst5 hf5 he5 c0 c1 c2 c3 HW7 HC7 HST7
                  replace hv : v = .tuple #[] := hv
                  subst hv
                  go_wp2
                  go_ret
                  rw [HW8.out]
                  exact ⟨κ6, _, rfl, rfl, HST8.out, HC8.out.fr, HC8.out.ex⟩
      · have hqe : r.nodes.length ≤ q := by omega
        have HW0 := Lib.hid (show whole = (recDone n r).exec T1 σ1 by
          rw [HWH.out, List.drop_eq_nil_of_le (by rw [List.length_zip]; have := HGD.out.2.1; omega)]; rfl)
        have c0 : wr.cell? ⟨w.heap.size, 0, none⟩ = some (.pointer (some ⟨pth, 0, none⟩)) := by rw [cell_of_heap HC.out.b0.hb]; rfl
        clear HWH
        go_wp2_with fail
        refine (do_ok HST.out 165 _ (tSetAll n) enters165 (touch_setAll HC.out.b0 HC.out.b1)).mono ?_
        rintro e w5 hh
        rcases hh.elim with ⟨T2, σ2, κ2, hr2, rfl, hst2, hf2, he2⟩ | ⟨_, T2, σ2, κ2, v, hr2, rfl, hv, hst2, hf2, he2⟩
        · have hc5 := HC.out.later hf2 he2
          refine ⟨rfl, ?_⟩
          rw [HW0.out, recDone, Pr.exec_bind, hr2]
          exact ⟨κ2, rfl, hst2, hc5.fr, hc5.ex⟩
        replace hv : v = .int .i64 _ := hv
        subst hv
        have HC5 := Lib.hid (HC.out.later hf2 he2)
        have HW5 := Lib.hid (show whole = ((markLoop (r.nodes.drop r.keep.toNat)).bind fun _ => (recWay r).bind fun _ => (setP n 2).bind fun _ => .ret true).exec T2 σ2 by
          rw [HW0.out, recDone, Pr.exec_bind, hr2]; rfl)
        have HST5 := Lib.hid hst2
        clear hh hr2 hst2 hf2 he2 c0 HW0 HC HST
        have c2 : w5.cell? ⟨rb, 0, none⟩ = some (.slice an r.nodes.length cn) := by rw [cell_of_heap HC5.out.b2.hb]; rfl
        have c3 : w5.cell? ⟨rb, 2, none⟩ = some (.int .i64 r.keep) := by rw [cell_of_heap HC5.out.b2.hb]; rfl
        go_upto_region 13 with fail
        go_cut [18, 55, 56, 57] from 47 to 57 (fun _ v55 v56 v57 wx => Row κ2 .imm wx 1 v55 (r.nodes.drop r.keep.toNat).length (intVs (r.nodes.drop r.keep.toNat)) ∧ v56 = .int .i64 ((r.nodes.drop r.keep.toNat).length : Nat) ∧ v57 = .int .i64 0 ∧ wx = w5)
        case first =>
          have hk0 := HGD.out.1
          have hk1 := HGD.out.2.2
          obtain ⟨_, _, hv', hcap, hnone⟩ := HC5.out.rn.shape
          simp only [Value.slice.injEq] at hv'
          obtain ⟨rfl, _, rfl⟩ := hv'
          by_cases hk : r.keep < (r.nodes.length : Int)
          · have hkl : r.keep.toNat < r.nodes.length := by omega
            have HD := Lib.hid (HC5.out.rn.dropN r.keep.toNat hkl)
            go_wp2
            go_meet
            case rel =>
              refine ⟨?_, by simp, rfl, rfl⟩
              have := HD.out
              simpa [intVs, List.map_drop] using this
          · have hd : r.nodes.drop r.keep.toNat = [] := List.drop_eq_nil_of_le (by omega)
            have HD := Lib.hid hd
            clear hd
            go_wp2
            all_goals go_meet
            all_goals
              case rel =>
                rw [HD.out]
                exact ⟨Row.zero0 _ _ _ _ _ _ (.inl trivial), rfl, rfl, rfl⟩
        case rest =>
          obtain ⟨hrow, rfl, rfl, rfl⟩ := hcut
          clear c2 c3
          generalize hl : r.nodes.drop r.keep.toNat = l at *
          have hll : l.length ≤ 1048576 := by have := HGD.out.2.2; rw [← hl, List.length_drop]; omega
          obtain ⟨a', c', rfl, _, _⟩ := hrow.shape
          have HL := Lib.hid hl
          have HROW := Lib.hid hrow
          clear hl hrow
          go_wp2
          go_loopw [57] (fun i wr => ∃ (q : Nat) (T1 : TS) (σ1 : ShS) (κ1 : Nat → Ytacmeafpieoaaaa.K), i = .int .i64 q ∧ q ≤ l.length ∧ Hid (whole = ((markLoop (l.drop q)).bind fun _ => (recWay r).bind fun _ => (setP n 2).bind fun _ => .ret true).exec T1 σ1) ∧ Hid (St κ1 wr wi p j pth work T1 σ1) ∧
              Hid (RecCtx κ w wi p j pth me n r w.heap.size (w.heap.size + 1) rb an ai cn ci κ1 wr) ∧ Hid (Row κ1 .imm wr 1 (.slice a' l.length c') l.length (intVs l))) (fun i _ => l.length - (intOf i).toNat)
          case atStart => exact ⟨0, T2, σ2, κ2, rfl, Nat.zero_le _, HW5, HST5, HC5, HROW⟩
          case round =>
            clear HST5 HC5 HW5 HROW
            obtain ⟨q, T3, σ3, κ3, rfl, hq, HW, HST, HC, HROW⟩ := hrel
            by_cases hql : q < l.length
            · obtain ⟨x, hx⟩ : ∃ x, l[q]? = some x := ⟨_, List.getElem?_eq_getElem hql⟩
              have hdrop : l.drop q = x :: l.drop (q + 1) := by
                rw [List.drop_eq_getElem_cons hql]
                have h1 := List.getElem?_eq_some_iff.1 hx
                simp [h1.2]
              rw [hdrop] at HW
              obtain ⟨g, o, cap', hv', hle, hgl, hgk, hgc, hgz⟩ := HROW.out.at (by omega) (by decide)
              simp only [Value.slice.injEq] at hv'
              obtain ⟨rfl, _, rfl⟩ := hv'
              have hcx : wr.cell? ⟨g, o + q, none⟩ = some (.int .i64 x) := hgc q _ (by rw [intVs_get, hx]; rfl)
              have c0 : wr.cell? ⟨w.heap.size, 0, none⟩ = some (.pointer (some ⟨pth, 0, none⟩)) := by rw [cell_of_heap HC.out.b0.hb]; rfl
              have hltx := lt_of_heap HC.out.b0.hb
              clear hdrop hgc hgz hgk hle hx
              go_wp2_with fail
              generalize hwA : wr.alloc (.cells #[.int .i64 x] 41) = wA
              have hS1 := HST.out.sup
              have bx : BoxAt κ3 wA wr.heap.size #[.int .i64 x] 41 := hwA ▸ BoxAt.new hS1 _ _
              have hB : Below wr.heap.size wr wA := hwA ▸ (Below.refl _ _).alloc (Nat.le_refl _) _
              have hstB := HST.out.below hB
              have hcB := HC.out.below hB
              have HRB := Lib.hid (HROW.out.keep (w' := wA) (fun b hb _ => hB.block b hb) hB.size (Ext.refl _ _))
              clear hwA hcx c0 HROW
              refine (do_ok hstB 166 _ (tSetMark x) enters166 (touch_setMark hcB.b0 bx)).mono ?_
              rintro e w6 hh
              rcases hh.elim with ⟨T4, σ4, κ4, hr2, rfl, hst2, hf2, he2⟩ | ⟨ok, T4, σ4, κ4, v, hr2, rfl, hv, hst2, hf2, he2⟩
              · have hc5 := hcB.later hf2 he2
                refine ⟨rfl, ?_⟩
                rw [HW.out, markLoop, Pr.exec_bind2, hr2]
                exact ⟨κ4, rfl, hst2, hc5.fr, hc5.ex⟩
              · replace hv : v = .int .i64 ok := hv
                subst hv
                have HC6 := Lib.hid (hcB.later hf2 he2)
                have HW6 := Lib.hid (show whole = ((markLoop (l.drop (q + 1))).bind fun _ => (recWay r).bind fun _ => (setP n 2).bind fun _ => .ret true).exec T4 σ4 by
                  rw [HW.out, markLoop, Pr.exec_bind2, hr2]; rfl)
                have HST6 := Lib.hid hst2
                have HR6 := Lib.hid (HRB.out.keep (w' := w6) (fun b hb hk => hf2.block b hb (by rw [hk]; rfl)) hf2.size he2)
                clear hh hr2 hst2 hf2 he2 hstB hcB bx HW HST HC HRB
                go_wp2
                go_roundw
                case rel => exact ⟨q + 1, T4, σ4, κ4, by go_num, by omega, HW6, HST6, HC6, HR6⟩
                case measure => simp [intOf]; omega
            · have HW0 := Lib.hid (show whole = ((recWay r).bind fun _ => (setP n 2).bind fun _ => .ret true).exec T3 σ3 by
                rw [HW.out, List.drop_eq_nil_of_le (by omega)]; rfl)
              clear HW HROW
              have c0 : wr.cell? ⟨w.heap.size, 0, none⟩ = some (.pointer (some ⟨pth, 0, none⟩)) := by rw [cell_of_heap HC.out.b0.hb]; rfl
              have c2 : wr.cell? ⟨rb, 0, none⟩ = some (.slice an r.nodes.length cn) := by rw [cell_of_heap HC.out.b2.hb]; rfl
              go_upto_if 69 with fail
              go_cut [68, 69] from 70 to 73 (fun _ _ wx => ∃ (T4 : TS) (σ4 : ShS) (κ4 : Nat → Ytacmeafpieoaaaa.K), Hid (whole = ((setP n 2).bind fun _ => .ret true).exec T4 σ4) ∧ Hid (St κ4 wx wi p j pth work T4 σ4) ∧
                Hid (RecCtx κ w wi p j pth me n r w.heap.size (w.heap.size + 1) rb an ai cn ci κ4 wx))
              case first =>
                by_cases hn0 : 0 < r.nodes.length
                · obtain ⟨x, hx⟩ : ∃ x, r.nodes[0]? = some x := ⟨_, List.getElem?_eq_getElem hn0⟩
                  have hway : recWay r = (Pr.ask (tSwapWay x r.way r.old r.new)).bind fun _ => .ret () := by
                    unfold recWay
                    cases hnn : r.nodes with
                    | nil => rw [hnn] at hx; cases hx
                    | cons y t => rw [hnn] at hx; simp only [List.getElem?_cons_zero, Option.some.injEq] at hx; subst hx; rfl
                  have HWAY := Lib.hid hway
                  have HX := Lib.hid hx
                  clear hway hx
                  go_wp2_with fail
                  refine (ask_ok HST.out 167 _ (tSwapWay x r.way r.old r.new) enters167 (touch_swapWay HC.out.rn HX.out HC.out.b0 HC.out.b2)).mono ?_
                  rintro e w6 hh
                  rcases hh.elim with ⟨T4, σ4, κ4, hr2, rfl, hst2, hf2, he2⟩ | ⟨ok, T4, σ4, κ4, v, hr2, rfl, hv, hst2, hf2, he2⟩
                  · have hc5 := HC.out.later hf2 he2
                    refine ⟨rfl, ?_⟩
                    rw [HW0.out, HWAY.out, Pr.exec_bind2, hr2]
                    exact ⟨κ4, rfl, hst2, hc5.fr, hc5.ex⟩
                  · replace hv : v = .bool ok := hv
                    subst hv
                    have HC6 := Lib.hid (HC.out.later hf2 he2)
                    have HW6 := Lib.hid (show whole = ((setP n 2).bind fun _ => .ret true).exec T4 σ4 by
                      rw [HW0.out, HWAY.out, Pr.exec_bind2, hr2]; rfl)
                    have HST6 := Lib.hid hst2
                    clear hh hr2 hst2 hf2 he2 HW0 HST HC c0 c2
                    go_wp2
                    go_meet
                    case rel => exact ⟨T4, σ4, κ4, HW6, HST6, HC6⟩
                · have hway : recWay r = .ret () := by
                    unfold recWay
                    cases hnn : r.nodes with
                    | nil => rfl
                    | cons y t => rw [hnn] at hn0; simp at hn0
                  have HW6 := Lib.hid (show whole = ((setP n 2).bind fun _ => .ret true).exec T3 σ3 by
                      rw [HW0.out, hway]; rfl)
                  clear hway
                  have hn0' : r.nodes.length ≤ 0 := by omega
                  go_wp2
                  go_meet
                  case rel => exact ⟨T3, σ3, κ3, HW6, HST, HC⟩
              case rest =>
                obtain ⟨T5, σ5, κ5, HW7, HST7, HC7⟩ := hcut
                clear HW0 HST HC c0 c2
                have c0 : wc.cell? ⟨w.heap.size, 0, none⟩ = some (.pointer (some ⟨pth, 0, none⟩)) := by rw [cell_of_heap HC7.out.b0.hb]; rfl
                have c1 : wc.cell? ⟨w.heap.size, 1, none⟩ = some (.pointer (some ⟨p.pw, 0, none⟩)) := by rw [cell_of_heap HC7.out.b0.hb]; rfl
                have c2 : wc.cell? ⟨w.heap.size, 2, none⟩ = some (.int .i64 me) := by rw [cell_of_heap HC7.out.b0.hb]; rfl
                have c3 : wc.cell? ⟨w.heap.size + 1, 0, none⟩ = some (.int .i64 n) := by rw [cell_of_heap HC7.out.b1.hb]; rfl
                go_wp2_with fail
                refine (hset_ok HST7.out n 2).mono ?_
                rintro e w8 hh
                rcases hh.elim with ⟨T6, σ6, κ6, hr5, rfl, hst5, hf5, he5⟩ | ⟨_, T6, σ6, κ6, v, hr5, rfl, hv, hst5, hf5, he5⟩
                · have hc8 := HC7.out.later hf5 he5
                  refine ⟨rfl, ?_⟩
                  rw [HW7.out, Pr.exec_bind, hr5]
                  exact ⟨κ6, rfl, hst5, hc8.fr, hc8.ex⟩
                · have HC8 := Lib.hid (HC7.out.later hf5 he5)
                  have HW8 := Lib.hid (show whole = Res.out true T6 σ6 by
                    rw [HW7.out, Pr.exec_bind, hr5]; rfl)
                  have HST8 := Lib.hid hst5
                  clear hh hr5 hst5 hf5 he5 c0 c1 c2 c3 HW7 HC7 HST7
                  replace hv : v = .tuple #[] := hv
                  subst hv
                  go_wp2
                  go_ret
                  rw [HW8.out]
                  exact ⟨κ6, _, rfl, rfl, HST8.out, HC8.out.fr, HC8.out.ex⟩
end
end Go.Proofs.Ytacmeafpieoaaaa
