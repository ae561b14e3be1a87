/- boscagelaw09.Awake: true. -/
import Derived.Test.YtacmeafpieoaaaaPk
import Derived.Deep.CutRange
import Derived.Deep.QuietTactic
import Derived.BigQuiet
namespace Go.Mask
/-- Of three that may come up each. -/
theorem three {P : Program} {ops : Array Oper} {Q : Exit → Act → World → Prop} {md : Region.Mode} {S : World → Prop} {m : Nat → Bool} (i j l : Nat) {oi oj ol : Oper} {fuel : Nat} {listed : Array Bool} {a : Act} {w : World} (hr : Region.ready md ops listed = [i, j, l]) (hi : ops[i]? = some oi) (hgi : oi.guard = none) (hj : ops[j]? = some oj) (hgj : oj.guard = none) (hl : ops[l]? = some ol) (hgl : ol.guard = none)
    (h1 : ∀ K : Act → World → Prop, (∀ a' w', (m i = true → S w') → (wpAnyM P md ops Q S m fuel (listed.setIfInBounds i true) a' w') → K a' w') → oi.wp P a w K Q)
    (h2 : ∀ K : Act → World → Prop, (∀ a' w', (m j = true → S w') → (wpAnyM P md ops Q S m fuel (listed.setIfInBounds j true) a' w') → K a' w') → oj.wp P a w K Q)
    (h3 : ∀ K : Act → World → Prop, (∀ a' w', (m l = true → S w') → (wpAnyM P md ops Q S m fuel (listed.setIfInBounds l true) a' w') → K a' w') → ol.wp P a w K Q) : wpAnyM P md ops Q S m (fuel + 1) listed a w := by
  refine all hr (by simp) fun k hk => ?_
  simp only [List.mem_cons, List.not_mem_nil, or_false] at hk
  rcases hk with rfl | rfl | rfl
  · exact oneOf k hi hgi h1
  · exact oneOf k hj hgj h2
  · exact oneOf k hl hgl h3
/-- The beginning, from a world that bears a name. -/
theorem beginAt {P : Program} {ops : Array Oper} {Q : Exit → Act → World → Prop} {id : Nat} {a : Act} {w : World} (S : World → Prop) (m : Nat → Bool) (hm : P.follows .mixedOrders = true) (W : World) (hW : w.drew = W)
    (h : wpAnyM P .any ops Q S m ops.size (Array.replicate ops.size false) a W) : (Code.region id ops true).wp P Q a w := begin_ S m hm (by rw [hW]; exact h)
end Go.Mask
namespace Go.Proofs.Ytacmeafpieoaaaa
open Go.RowKit

def noK : Nat → K := fun _ => .none
/-- What a law's walk has at hand: the world that it made; of what stood before nothing has changed. -/
structure Lw (w : World) (κ : Nat → K) (wi : Nat) (p : WdP) (σ : ShS) (wx : World) : Prop where
  wd : WdRep κ wx wi p σ
  sup : Sup κ wx
  fr : Fr noK (K.run wi) w wx
  ex : Ext noK κ w

theorem Fr.below0 {S : K → Bool} {w w' : World} (h : Fr noK S w w') (hS : S .none = false) : Below w.heap.size w w' := ⟨h.os, h.tape, h.output, h.size, fun b hb => h.block b hb hS⟩
theorem K.ofW_run {wi : Nat} (k : K) (h : k.ofW wi = true) : K.run wi k = true := by unfold K.run; rw [h]; rfl

section
variable {w wx w' : World} {κ κ' : Nat → K} {wi j : Nat} {p : WdP} {σ σ' : ShS}
theorem Lw.below0 (h : Lw w κ wi p σ wx) : Below w.heap.size w wx := h.fr.below0 rfl
theorem Lw.below (h : Lw w κ wi p σ wx) (hb : Below wx.heap.size wx w') : Lw w κ wi p σ w' := ⟨h.wd.below hb (Ext.refl _ _), h.sup.mono hb.size, h.fr.trans (Fr.below hb) h.ex, h.ex⟩
theorem Lw.turn (h : Lw w κ wi p σ wx) (hw : WdRep κ' w' wi p σ') (hf : Fr κ (K.run wi) wx w') (he : Ext κ κ' wx) (hs : Sup κ' w') : Lw w κ' wi p σ' w' := ⟨hw, hs, h.fr.trans hf h.ex, h.ex.trans he h.fr.size⟩
theorem Lw.turnA (h : Lw w κ wi p σ wx) {A' : ArS} (ha : ArRep κ' w' wi p.pa A') (hf : Fr κ (K.arena wi) wx w') (he : Ext κ κ' wx) (hs : Sup κ' w') : Lw w κ' wi p { σ with A := A' } w' :=
  h.turn (h.wd.turnA ha hf he) (hf.mono fun k hk => K.ofW_run k (K.arena_ofW k hk)) he hs
theorem Lw.turnT (h : Lw w κ wi p σ wx) {T' : TabS} (ha : TabRep κ' w' wi p.pt T') (hf : Fr κ (K.recs wi) wx w') (he : Ext κ κ' wx) (hs : Sup κ' w') : Lw w κ' wi p { σ with T := T' } w' :=
  h.turn (h.wd.turnT ha hf he) (hf.mono fun k hk => K.ofW_run k (K.recs_ofW k hk)) he hs
theorem Lw.turnE (h : Lw w κ wi p σ wx) {E' : EpS} (ha : EpRep κ' w' wi p.pe E') (hf : Fr κ (K.epochs wi) wx w') (he : Ext κ κ' wx) (hs : Sup κ' w') (hl : E'.said.length = σ.E.said.length) : Lw w κ' wi p { σ with E := E' } w' :=
  h.turn (h.wd.turnE ha hf he hl) (hf.mono fun k hk => K.ofW_run k (K.epochs_ofW k hk)) he hs
theorem Lw.new (hw : WdRep κ w' wi p σ) (hf : Fr noK (K.ofW wi) w w') (he : Ext noK κ w) (hs : Sup κ w') : Lw w κ wi p σ w' := ⟨hw, hs, hf.mono K.ofW_run, he⟩
theorem Lw.later (h : Lw w κ wi p σ wx) (hb : Below wx.heap.size wx w') (he : Ext κ κ' wx) (hs : Sup κ' w') : Lw w κ' wi p σ w' := ⟨h.wd.below hb he, hs, h.fr.trans (Fr.below hb) h.ex, h.ex.trans he h.fr.size⟩
theorem Lw.drew (h : Lw w κ wi p σ wx) : Lw w κ wi p σ wx.drew := h.below (Below.refl _ _).drew
end
theorem Below.drawn {B : Nat} {a w : World} (h : Below B a w) (n : Nat) : Below B a (w.drewN n) := ⟨h.os, h.tape, h.output, h.size, h.block⟩
theorem supNo (w : World) : Sup noK w := fun _ _ => rfl

def recA : RecS := ⟨[refOf 1 1], [0], 1, 0, refOf 0 1, 77⟩
def ShA : ShS := { Sh0 1 9 9 with T := ((Sh0 1 9 9).T.make recA).2 }
theorem goA : ((helpP 1).go ShA).1 = 4 ∧ ((helpP 1).go ShA).2.1 = [1] := by
  exact ⟨by kernel_rfl, by kernel_rfl⟩
def ShA' : ShS := ((helpP 1).go ShA).2.2
theorem goA' : (ShA'.A.way (refOf 1 1) 0).1 = 77 ∧ ShA'.T.state 1 = 2 ∧ (ShA'.A.info (refOf 1 1)).1 = 1 ∧ (ShA'.A.get (refOf 1 1)).isSome = true := by
  exact ⟨by kernel_rfl, by kernel_rfl, by kernel_rfl, by kernel_rfl⟩

set_option maxRecDepth 100000 in
set_option maxHeartbeats 4000000 in
theorem awake09_ok (w : World) : Calls Try.prog 65 #[] w fun e w' => e = .returned (.bool true) ∧ Below w.heap.size w w' := by
  go_enter Try.func65, Try.ntmps65
  go_wp2_with fail
  refine (newWorld_ok 0 (supNo w) 2 3 1 9 9 (by decide) (by decide) (by decide) (by decide) (by decide) (by decide) (by decide) (by decide) (by decide) (by decide)).mono ?_
  rintro e w1 ⟨κ1, p, rfl, _, _, hpe, _, hW1, hF1, hE1, hS1⟩
  have HLW0 := Lib.hid (Lw.new hW1 hF1 hE1 hS1)
  have HPE := Lib.hid hpe
  clear hW1 hF1 hE1 hS1 hpe
  go_upto_region 4 with fail
  go_cut [3, 4] from 18 to 33 (fun v3 _ wx => ∃ κ2 : Nat → Ytacmeafpieoaaaa.K, v3 = .int .i64 1 ∧ Hid (Lw w κ2 0 p ShA wx))
  case first =>
    have HLW := Lib.hid HLW0.out.drew
    clear HLW0
    generalize hWd : w1.drew = W at *
    have hpl := lt_of_heap HLW.out.wd.hpw
    have c1 : W.cell? ⟨p.pw, 1, none⟩ = some (.pointer (some ⟨p.pt, 0, none⟩)) := cellAt HLW.out.wd.hpw 1 rfl
    have c5 : W.cell? ⟨p.pw, 5, none⟩ = some (.int .i64 (refOf 1 1)) := by rw [← HPE.out]; exact cellAt HLW.out.wd.hpw 5 rfl
    have hS : Below W.heap.size W W := Below.refl _ _
    refine Mask.beginAt (fun W' => Below W.heap.size W W') (fun i => i != 12 && i != 13 && i != 14 && i != 15 && i != 16 && i != 17) (by kernel_rfl) W hWd ?_
    refine Mask.take 0 19 (v := ?_) rfl rfl (by kernel_rfl) (by kernel_rfl) (by kernel_rfl) rfl (by kernel_rfl) (by kernel_rfl) (fun _ _ _ h => h) hS (Or.inl ⟨by rfl, ?_⟩) ?_
    rotate_left
    · intro w hSw; (try dsimp only at hSw); go_simp; try with_reducible rfl
    simp only [Act.put, List.setIfInBounds_toArray, List.set_cons_zero, List.set_cons_succ]
    refine Mask.take 1 20 (v := ?_) rfl rfl (by kernel_rfl) (by kernel_rfl) (by kernel_rfl) rfl (by kernel_rfl) (by kernel_rfl) (fun _ _ _ h => h) hS (Or.inl ⟨by rfl, ?_⟩) ?_
    rotate_left
    · intro w hSw; (try dsimp only at hSw); go_simp; try with_reducible rfl
    simp only [Act.put, List.setIfInBounds_toArray, List.set_cons_zero, List.set_cons_succ]
    refine Mask.take 2 21 (v := ?_) rfl rfl (by kernel_rfl) (by kernel_rfl) (by kernel_rfl) rfl (by kernel_rfl) (by kernel_rfl) (fun _ _ _ h => h) hS (Or.inl ⟨by rfl, ?_⟩) ?_
    rotate_left
    · intro w hSw; (try dsimp only at hSw); go_simp; try with_reducible rfl
    simp only [Act.put, List.setIfInBounds_toArray, List.set_cons_zero, List.set_cons_succ]
    refine Mask.take 3 22 (v := ?_) rfl rfl (by kernel_rfl) (by kernel_rfl) (by kernel_rfl) rfl (by kernel_rfl) (by kernel_rfl) (fun _ _ _ h => h) hS (Or.inl ⟨by rfl, ?_⟩) ?_
    rotate_left
    · intro w hSw; (try dsimp only at hSw); obtain ⟨hc__, hf__⟩ := bcell hSw; go_simp; try with_reducible rfl
    simp only [Act.put, List.setIfInBounds_toArray, List.set_cons_zero, List.set_cons_succ]
    refine Mask.take 4 23 (v := ?_) rfl rfl (by kernel_rfl) (by kernel_rfl) (by kernel_rfl) rfl (by kernel_rfl) (by kernel_rfl) (fun _ _ _ h => h) hS (Or.inl ⟨by rfl, ?_⟩) ?_
    rotate_left
    · intro w hSw; (try dsimp only at hSw); go_simp; try with_reducible rfl
    simp only [Act.put, List.setIfInBounds_toArray, List.set_cons_zero, List.set_cons_succ]
    refine Mask.take 5 24 (v := ?_) rfl rfl (by kernel_rfl) (by kernel_rfl) (by kernel_rfl) rfl (by kernel_rfl) (by kernel_rfl) (fun _ _ _ h => h) hS (Or.inl ⟨by rfl, ?_⟩) ?_
    rotate_left
    · intro w hSw; (try dsimp only at hSw); go_simp; try with_reducible rfl
    simp only [Act.put, List.setIfInBounds_toArray, List.set_cons_zero, List.set_cons_succ]
    refine Mask.take 6 25 (v := ?_) rfl rfl (by kernel_rfl) (by kernel_rfl) (by kernel_rfl) rfl (by kernel_rfl) (by kernel_rfl) (fun _ _ _ h => h) hS (Or.inl ⟨by rfl, ?_⟩) ?_
    rotate_left
    · intro w hSw; (try dsimp only at hSw); go_simp; try with_reducible rfl
    simp only [Act.put, List.setIfInBounds_toArray, List.set_cons_zero, List.set_cons_succ]
    refine Mask.take 7 26 (v := ?_) rfl rfl (by kernel_rfl) (by kernel_rfl) (by kernel_rfl) rfl (by kernel_rfl) (by kernel_rfl) (fun _ _ _ h => h) hS (Or.inl ⟨by rfl, ?_⟩) ?_
    rotate_left
    · intro w hSw; (try dsimp only at hSw); obtain ⟨hc__, hf__⟩ := bcell hSw; go_simp; try with_reducible rfl
    simp only [Act.put, List.setIfInBounds_toArray, List.set_cons_zero, List.set_cons_succ]
    refine Mask.three 8 9 10 (by kernel_rfl) rfl rfl rfl rfl rfl rfl (fun K__ hK => ?_) (fun K__ hK => ?_) (fun K__ hK => ?_)
    · -- 8: buildSlice T56 1 [(0, t26)]
      go_simp
      generalize hG__ : W.alloc (.cells #[Value.int .i64 (refOf 1 1)] 41) = wq1
      have hZ__ : Below W.heap.size W wq1 := hG__ ▸ (Below.refl _ _).alloc (Nat.le_refl _) _
      have HN_b1 := Lib.hid (show wq1.heap[W.heap.size]? = some (.cells #[Value.int .i64 (refOf 1 1)] 41 (0, 0)) from hG__ ▸ Laws.heap_new W _)
      have HB_wq1 := Lib.hid hZ__
      have HS_wq1 := Lib.hid (hS.trans (hZ__.mono hS.size))
      have hS_W : W.heap.size ≤ W.heap.size := hS.size
      clear hG__ hZ__
      refine hK _ _ (fun _ => ?_) ?_
      · exact HS_wq1.out
      replace hS := HS_wq1.out
      clear hK K__
      try simp only [Act.put, List.setIfInBounds_toArray, List.set_cons_zero, List.set_cons_succ]
      refine Mask.two 9 10 (by kernel_rfl) rfl rfl rfl rfl (fun K__ hK => ?_) (fun K__ hK => ?_)
      · -- 9: buildSlice T22 1 [(0, i64:0)]
        go_simp
        generalize hG__ : wq1.alloc (.cells #[Value.int .i64 0] 2) = wq2
        have hZ__ : Below wq1.heap.size wq1 wq2 := hG__ ▸ (Below.refl _ _).alloc (Nat.le_refl _) _
        have HN_b2 := Lib.hid (show wq2.heap[wq1.heap.size]? = some (.cells #[Value.int .i64 0] 2 (0, 0)) from hG__ ▸ Laws.heap_new wq1 _)
        have HB_wq2 := Lib.hid hZ__
        have HS_wq2 := Lib.hid (hS.trans (hZ__.mono hS.size))
        have hS_wq1 : W.heap.size ≤ wq1.heap.size := hS.size
        clear hG__ hZ__
        refine hK _ _ (fun _ => ?_) ?_
        · exact HS_wq2.out
        replace hS := HS_wq2.out
        clear hK K__
        try simp only [Act.put, List.setIfInBounds_toArray, List.set_cons_zero, List.set_cons_succ]
        -- 10: call F77[i64:0, u32:1] types#[3, 112]
        refine Mask.one 10 (by kernel_rfl) rfl rfl (fun K__ hK => ?_)
        go_simp
        refine (of_any 0 1 (by decide) (by decide) _).mono ?_
        rintro e w' ⟨rfl, hw'⟩; replace hw' := hw'.symm; subst hw'
        refine hK _ _ (fun _ => ?_) ?_
        · exact hS
        clear hK K__
        try simp only [Act.put, List.setIfInBounds_toArray, List.set_cons_zero, List.set_cons_succ]
        refine Mask.take 11 30 (v := ?_) rfl rfl (by kernel_rfl) (by kernel_rfl) (by kernel_rfl) rfl (by kernel_rfl) (by kernel_rfl) (fun _ _ _ h => h) hS (Or.inl ⟨by rfl, ?_⟩) ?_
        rotate_left
        · intro w hSw; (try dsimp only at hSw); go_simp; try with_reducible rfl
        simp only [Act.put, List.setIfInBounds_toArray, List.set_cons_zero, List.set_cons_succ]
        -- 12: call F73[t22, t30] types#[39, 93]
        refine Mask.one 12 (by kernel_rfl) rfl rfl (fun K__ hK => ?_)
        go_simp
        have HLQ := Lib.hid ((HLW.out.below HB_wq1.out).below HB_wq2.out)
        have hm1 := (HB_wq2.out.block _ (lt_of_heap HN_b1.out)).trans HN_b1.out
        have hm2 := HN_b2.out
        have r1 : RowN κ1 (K.recs 0) wq2 1 (.slice (some ⟨W.heap.size, 0, none⟩) 1 1) recA.nodes.length (intVs recA.nodes) := RowN.new hm1 (by rw [HLW.out.sup _ hS_W]; rfl) 1 _ rfl 1 rfl
        have r2 : RowN κ1 (K.recs 0) wq2 1 (.slice (some ⟨wq1.heap.size, 0, none⟩) 1 1) recA.infos.length (intVs recA.infos) := RowN.new hm2 (by rw [HLW.out.sup _ hS_wq1]; rfl) 1 _ rfl 1 rfl
        clear hm1 hm2
        refine (make_ok HLQ.out.wd.tab HLQ.out.sup recA r1 r2 rfl (by decide) (by decide)).mono ?_
        rintro e w3 ⟨κ3, rfl, h1, h2, h3, h4⟩
        have HL3 := Lib.hid (HLQ.out.turnT h1 h2 h3 h4)
        clear h1 h2 h3 h4
        refine hK _ _ (fun h => (by cases h)) ?_
        clear hK K__
        try simp only [Act.put, List.setIfInBounds_toArray, List.set_cons_zero, List.set_cons_succ]
        refine Mask.takeP 13 18 (v := ?_) rfl rfl (by kernel_rfl) (by kernel_rfl) (by kernel_rfl) rfl (fun _ _ _ h => h) (Or.inl ⟨by rfl, ?_⟩) ?_
        rotate_left
        · intro w hSw; (try dsimp only at hSw); go_simp; try with_reducible rfl
        simp only [Act.put, List.setIfInBounds_toArray, List.set_cons_zero, List.set_cons_succ]
        refine Mask.takeP 14 32 (v := ?_) rfl rfl (by kernel_rfl) (by kernel_rfl) (by kernel_rfl) rfl (fun _ _ _ h => h) (Or.inl ⟨by rfl, ?_⟩) ?_
        rotate_left
        · intro w hSw; (try dsimp only at hSw); go_simp; try with_reducible rfl
        simp only [Act.put, List.setIfInBounds_toArray, List.set_cons_zero, List.set_cons_succ]
        refine Mask.takeP 15 33 (v := ?_) rfl rfl (by kernel_rfl) (by kernel_rfl) (by kernel_rfl) rfl (fun _ _ _ h => h) (Or.inl ⟨by rfl, ?_⟩) ?_
        rotate_left
        · intro w hSw; (try dsimp only at hSw); go_simp; try with_reducible rfl
        simp only [Act.put, List.setIfInBounds_toArray, List.set_cons_zero, List.set_cons_succ]
        refine Mask.takeP 16 3 (v := ?_) rfl rfl (by kernel_rfl) (by kernel_rfl) (by kernel_rfl) rfl (fun _ _ _ h => h) (Or.inl ⟨by rfl, ?_⟩) ?_
        rotate_left
        · intro w hSw; (try dsimp only at hSw); go_simp; try with_reducible rfl
        simp only [Act.put, List.setIfInBounds_toArray, List.set_cons_zero, List.set_cons_succ]
        refine Mask.takeP 17 4 (v := ?_) rfl rfl (by kernel_rfl) (by kernel_rfl) (by kernel_rfl) rfl (fun _ _ _ h => h) (Or.inl ⟨by rfl, ?_⟩) ?_
        rotate_left
        · intro w hSw; (try dsimp only at hSw); go_simp; try with_reducible rfl
        simp only [Act.put, List.setIfInBounds_toArray, List.set_cons_zero, List.set_cons_succ]
        refine Mask.done (by kernel_rfl) ?_ _
        go_wp2
        go_meet
        case rel => exact ⟨κ3, rfl, HL3⟩
      · -- 10: call F77[i64:0, u32:1] types#[3, 112]
        go_simp
        refine (of_any 0 1 (by decide) (by decide) _).mono ?_
        rintro e w' ⟨rfl, hw'⟩; replace hw' := hw'.symm; subst hw'
        refine hK _ _ (fun _ => ?_) ?_
        · exact hS
        clear hK K__
        try simp only [Act.put, List.setIfInBounds_toArray, List.set_cons_zero, List.set_cons_succ]
        -- 9: buildSlice T22 1 [(0, i64:0)]
        refine Mask.one 9 (by kernel_rfl) rfl rfl (fun K__ hK => ?_)
        go_simp
        generalize hG__ : wq1.alloc (.cells #[Value.int .i64 0] 2) = wq2
        have hZ__ : Below wq1.heap.size wq1 wq2 := hG__ ▸ (Below.refl _ _).alloc (Nat.le_refl _) _
        have HN_b2 := Lib.hid (show wq2.heap[wq1.heap.size]? = some (.cells #[Value.int .i64 0] 2 (0, 0)) from hG__ ▸ Laws.heap_new wq1 _)
        have HB_wq2 := Lib.hid hZ__
        have HS_wq2 := Lib.hid (hS.trans (hZ__.mono hS.size))
        have hS_wq1 : W.heap.size ≤ wq1.heap.size := hS.size
        clear hG__ hZ__
        refine hK _ _ (fun _ => ?_) ?_
        · exact HS_wq2.out
        replace hS := HS_wq2.out
        clear hK K__
        try simp only [Act.put, List.setIfInBounds_toArray, List.set_cons_zero, List.set_cons_succ]
        refine Mask.take 11 30 (v := ?_) rfl rfl (by kernel_rfl) (by kernel_rfl) (by kernel_rfl) rfl (by kernel_rfl) (by kernel_rfl) (fun _ _ _ h => h) hS (Or.inl ⟨by rfl, ?_⟩) ?_
        rotate_left
        · intro w hSw; (try dsimp only at hSw); go_simp; try with_reducible rfl
        simp only [Act.put, List.setIfInBounds_toArray, List.set_cons_zero, List.set_cons_succ]
        -- 12: call F73[t22, t30] types#[39, 93]
        refine Mask.one 12 (by kernel_rfl) rfl rfl (fun K__ hK => ?_)
        go_simp
        have HLQ := Lib.hid ((HLW.out.below HB_wq1.out).below HB_wq2.out)
        have hm1 := (HB_wq2.out.block _ (lt_of_heap HN_b1.out)).trans HN_b1.out
        have hm2 := HN_b2.out
        have r1 : RowN κ1 (K.recs 0) wq2 1 (.slice (some ⟨W.heap.size, 0, none⟩) 1 1) recA.nodes.length (intVs recA.nodes) := RowN.new hm1 (by rw [HLW.out.sup _ hS_W]; rfl) 1 _ rfl 1 rfl
        have r2 : RowN κ1 (K.recs 0) wq2 1 (.slice (some ⟨wq1.heap.size, 0, none⟩) 1 1) recA.infos.length (intVs recA.infos) := RowN.new hm2 (by rw [HLW.out.sup _ hS_wq1]; rfl) 1 _ rfl 1 rfl
        clear hm1 hm2
        refine (make_ok HLQ.out.wd.tab HLQ.out.sup recA r1 r2 rfl (by decide) (by decide)).mono ?_
        rintro e w3 ⟨κ3, rfl, h1, h2, h3, h4⟩
        have HL3 := Lib.hid (HLQ.out.turnT h1 h2 h3 h4)
        clear h1 h2 h3 h4
        refine hK _ _ (fun h => (by cases h)) ?_
        clear hK K__
        try simp only [Act.put, List.setIfInBounds_toArray, List.set_cons_zero, List.set_cons_succ]
        refine Mask.takeP 13 18 (v := ?_) rfl rfl (by kernel_rfl) (by kernel_rfl) (by kernel_rfl) rfl (fun _ _ _ h => h) (Or.inl ⟨by rfl, ?_⟩) ?_
        rotate_left
        · intro w hSw; (try dsimp only at hSw); go_simp; try with_reducible rfl
        simp only [Act.put, List.setIfInBounds_toArray, List.set_cons_zero, List.set_cons_succ]
        refine Mask.takeP 14 32 (v := ?_) rfl rfl (by kernel_rfl) (by kernel_rfl) (by kernel_rfl) rfl (fun _ _ _ h => h) (Or.inl ⟨by rfl, ?_⟩) ?_
        rotate_left
        · intro w hSw; (try dsimp only at hSw); go_simp; try with_reducible rfl
        simp only [Act.put, List.setIfInBounds_toArray, List.set_cons_zero, List.set_cons_succ]
        refine Mask.takeP 15 33 (v := ?_) rfl rfl (by kernel_rfl) (by kernel_rfl) (by kernel_rfl) rfl (fun _ _ _ h => h) (Or.inl ⟨by rfl, ?_⟩) ?_
        rotate_left
        · intro w hSw; (try dsimp only at hSw); go_simp; try with_reducible rfl
        simp only [Act.put, List.setIfInBounds_toArray, List.set_cons_zero, List.set_cons_succ]
        refine Mask.takeP 16 3 (v := ?_) rfl rfl (by kernel_rfl) (by kernel_rfl) (by kernel_rfl) rfl (fun _ _ _ h => h) (Or.inl ⟨by rfl, ?_⟩) ?_
        rotate_left
        · intro w hSw; (try dsimp only at hSw); go_simp; try with_reducible rfl
        simp only [Act.put, List.setIfInBounds_toArray, List.set_cons_zero, List.set_cons_succ]
        refine Mask.takeP 17 4 (v := ?_) rfl rfl (by kernel_rfl) (by kernel_rfl) (by kernel_rfl) rfl (fun _ _ _ h => h) (Or.inl ⟨by rfl, ?_⟩) ?_
        rotate_left
        · intro w hSw; (try dsimp only at hSw); go_simp; try with_reducible rfl
        simp only [Act.put, List.setIfInBounds_toArray, List.set_cons_zero, List.set_cons_succ]
        refine Mask.done (by kernel_rfl) ?_ _
        go_wp2
        go_meet
        case rel => exact ⟨κ3, rfl, HL3⟩
    · -- 9: buildSlice T22 1 [(0, i64:0)]
      go_simp
      generalize hG__ : W.alloc (.cells #[Value.int .i64 0] 2) = wq1
      have hZ__ : Below W.heap.size W wq1 := hG__ ▸ (Below.refl _ _).alloc (Nat.le_refl _) _
      have HN_b2 := Lib.hid (show wq1.heap[W.heap.size]? = some (.cells #[Value.int .i64 0] 2 (0, 0)) from hG__ ▸ Laws.heap_new W _)
      have HB_wq1 := Lib.hid hZ__
      have HS_wq1 := Lib.hid (hS.trans (hZ__.mono hS.size))
      have hS_W : W.heap.size ≤ W.heap.size := hS.size
      clear hG__ hZ__
      refine hK _ _ (fun _ => ?_) ?_
      · exact HS_wq1.out
      replace hS := HS_wq1.out
      clear hK K__
      try simp only [Act.put, List.setIfInBounds_toArray, List.set_cons_zero, List.set_cons_succ]
      refine Mask.two 8 10 (by kernel_rfl) rfl rfl rfl rfl (fun K__ hK => ?_) (fun K__ hK => ?_)
      · -- 8: buildSlice T56 1 [(0, t26)]
        go_simp
        generalize hG__ : wq1.alloc (.cells #[Value.int .i64 (refOf 1 1)] 41) = wq2
        have hZ__ : Below wq1.heap.size wq1 wq2 := hG__ ▸ (Below.refl _ _).alloc (Nat.le_refl _) _
        have HN_b1 := Lib.hid (show wq2.heap[wq1.heap.size]? = some (.cells #[Value.int .i64 (refOf 1 1)] 41 (0, 0)) from hG__ ▸ Laws.heap_new wq1 _)
        have HB_wq2 := Lib.hid hZ__
        have HS_wq2 := Lib.hid (hS.trans (hZ__.mono hS.size))
        have hS_wq1 : W.heap.size ≤ wq1.heap.size := hS.size
        clear hG__ hZ__
        refine hK _ _ (fun _ => ?_) ?_
        · exact HS_wq2.out
        replace hS := HS_wq2.out
        clear hK K__
        try simp only [Act.put, List.setIfInBounds_toArray, List.set_cons_zero, List.set_cons_succ]
        -- 10: call F77[i64:0, u32:1] types#[3, 112]
        refine Mask.one 10 (by kernel_rfl) rfl rfl (fun K__ hK => ?_)
        go_simp
        refine (of_any 0 1 (by decide) (by decide) _).mono ?_
        rintro e w' ⟨rfl, hw'⟩; replace hw' := hw'.symm; subst hw'
        refine hK _ _ (fun _ => ?_) ?_
        · exact hS
        clear hK K__
        try simp only [Act.put, List.setIfInBounds_toArray, List.set_cons_zero, List.set_cons_succ]
        refine Mask.take 11 30 (v := ?_) rfl rfl (by kernel_rfl) (by kernel_rfl) (by kernel_rfl) rfl (by kernel_rfl) (by kernel_rfl) (fun _ _ _ h => h) hS (Or.inl ⟨by rfl, ?_⟩) ?_
        rotate_left
        · intro w hSw; (try dsimp only at hSw); go_simp; try with_reducible rfl
        simp only [Act.put, List.setIfInBounds_toArray, List.set_cons_zero, List.set_cons_succ]
        -- 12: call F73[t22, t30] types#[39, 93]
        refine Mask.one 12 (by kernel_rfl) rfl rfl (fun K__ hK => ?_)
        go_simp
        have HLQ := Lib.hid ((HLW.out.below HB_wq1.out).below HB_wq2.out)
        have hm1 := HN_b1.out
        have hm2 := (HB_wq2.out.block _ (lt_of_heap HN_b2.out)).trans HN_b2.out
        have r1 : RowN κ1 (K.recs 0) wq2 1 (.slice (some ⟨wq1.heap.size, 0, none⟩) 1 1) recA.nodes.length (intVs recA.nodes) := RowN.new hm1 (by rw [HLW.out.sup _ hS_wq1]; rfl) 1 _ rfl 1 rfl
        have r2 : RowN κ1 (K.recs 0) wq2 1 (.slice (some ⟨W.heap.size, 0, none⟩) 1 1) recA.infos.length (intVs recA.infos) := RowN.new hm2 (by rw [HLW.out.sup _ hS_W]; rfl) 1 _ rfl 1 rfl
        clear hm1 hm2
        refine (make_ok HLQ.out.wd.tab HLQ.out.sup recA r1 r2 rfl (by decide) (by decide)).mono ?_
        rintro e w3 ⟨κ3, rfl, h1, h2, h3, h4⟩
        have HL3 := Lib.hid (HLQ.out.turnT h1 h2 h3 h4)
        clear h1 h2 h3 h4
        refine hK _ _ (fun h => (by cases h)) ?_
        clear hK K__
        try simp only [Act.put, List.setIfInBounds_toArray, List.set_cons_zero, List.set_cons_succ]
        refine Mask.takeP 13 18 (v := ?_) rfl rfl (by kernel_rfl) (by kernel_rfl) (by kernel_rfl) rfl (fun _ _ _ h => h) (Or.inl ⟨by rfl, ?_⟩) ?_
        rotate_left
        · intro w hSw; (try dsimp only at hSw); go_simp; try with_reducible rfl
        simp only [Act.put, List.setIfInBounds_toArray, List.set_cons_zero, List.set_cons_succ]
        refine Mask.takeP 14 32 (v := ?_) rfl rfl (by kernel_rfl) (by kernel_rfl) (by kernel_rfl) rfl (fun _ _ _ h => h) (Or.inl ⟨by rfl, ?_⟩) ?_
        rotate_left
        · intro w hSw; (try dsimp only at hSw); go_simp; try with_reducible rfl
        simp only [Act.put, List.setIfInBounds_toArray, List.set_cons_zero, List.set_cons_succ]
        refine Mask.takeP 15 33 (v := ?_) rfl rfl (by kernel_rfl) (by kernel_rfl) (by kernel_rfl) rfl (fun _ _ _ h => h) (Or.inl ⟨by rfl, ?_⟩) ?_
        rotate_left
        · intro w hSw; (try dsimp only at hSw); go_simp; try with_reducible rfl
        simp only [Act.put, List.setIfInBounds_toArray, List.set_cons_zero, List.set_cons_succ]
        refine Mask.takeP 16 3 (v := ?_) rfl rfl (by kernel_rfl) (by kernel_rfl) (by kernel_rfl) rfl (fun _ _ _ h => h) (Or.inl ⟨by rfl, ?_⟩) ?_
        rotate_left
        · intro w hSw; (try dsimp only at hSw); go_simp; try with_reducible rfl
        simp only [Act.put, List.setIfInBounds_toArray, List.set_cons_zero, List.set_cons_succ]
        refine Mask.takeP 17 4 (v := ?_) rfl rfl (by kernel_rfl) (by kernel_rfl) (by kernel_rfl) rfl (fun _ _ _ h => h) (Or.inl ⟨by rfl, ?_⟩) ?_
        rotate_left
        · intro w hSw; (try dsimp only at hSw); go_simp; try with_reducible rfl
        simp only [Act.put, List.setIfInBounds_toArray, List.set_cons_zero, List.set_cons_succ]
        refine Mask.done (by kernel_rfl) ?_ _
        go_wp2
        go_meet
        case rel => exact ⟨κ3, rfl, HL3⟩
      · -- 10: call F77[i64:0, u32:1] types#[3, 112]
        go_simp
        refine (of_any 0 1 (by decide) (by decide) _).mono ?_
        rintro e w' ⟨rfl, hw'⟩; replace hw' := hw'.symm; subst hw'
        refine hK _ _ (fun _ => ?_) ?_
        · exact hS
        clear hK K__
        try simp only [Act.put, List.setIfInBounds_toArray, List.set_cons_zero, List.set_cons_succ]
        -- 8: buildSlice T56 1 [(0, t26)]
        refine Mask.one 8 (by kernel_rfl) rfl rfl (fun K__ hK => ?_)
        go_simp
        generalize hG__ : wq1.alloc (.cells #[Value.int .i64 (refOf 1 1)] 41) = wq2
        have hZ__ : Below wq1.heap.size wq1 wq2 := hG__ ▸ (Below.refl _ _).alloc (Nat.le_refl _) _
        have HN_b1 := Lib.hid (show wq2.heap[wq1.heap.size]? = some (.cells #[Value.int .i64 (refOf 1 1)] 41 (0, 0)) from hG__ ▸ Laws.heap_new wq1 _)
        have HB_wq2 := Lib.hid hZ__
        have HS_wq2 := Lib.hid (hS.trans (hZ__.mono hS.size))
        have hS_wq1 : W.heap.size ≤ wq1.heap.size := hS.size
        clear hG__ hZ__
        refine hK _ _ (fun _ => ?_) ?_
        · exact HS_wq2.out
        replace hS := HS_wq2.out
        clear hK K__
        try simp only [Act.put, List.setIfInBounds_toArray, List.set_cons_zero, List.set_cons_succ]
        refine Mask.take 11 30 (v := ?_) rfl rfl (by kernel_rfl) (by kernel_rfl) (by kernel_rfl) rfl (by kernel_rfl) (by kernel_rfl) (fun _ _ _ h => h) hS (Or.inl ⟨by rfl, ?_⟩) ?_
        rotate_left
        · intro w hSw; (try dsimp only at hSw); go_simp; try with_reducible rfl
        simp only [Act.put, List.setIfInBounds_toArray, List.set_cons_zero, List.set_cons_succ]
        -- 12: call F73[t22, t30] types#[39, 93]
        refine Mask.one 12 (by kernel_rfl) rfl rfl (fun K__ hK => ?_)
        go_simp
        have HLQ := Lib.hid ((HLW.out.below HB_wq1.out).below HB_wq2.out)
        have hm1 := HN_b1.out
        have hm2 := (HB_wq2.out.block _ (lt_of_heap HN_b2.out)).trans HN_b2.out
        have r1 : RowN κ1 (K.recs 0) wq2 1 (.slice (some ⟨wq1.heap.size, 0, none⟩) 1 1) recA.nodes.length (intVs recA.nodes) := RowN.new hm1 (by rw [HLW.out.sup _ hS_wq1]; rfl) 1 _ rfl 1 rfl
        have r2 : RowN κ1 (K.recs 0) wq2 1 (.slice (some ⟨W.heap.size, 0, none⟩) 1 1) recA.infos.length (intVs recA.infos) := RowN.new hm2 (by rw [HLW.out.sup _ hS_W]; rfl) 1 _ rfl 1 rfl
        clear hm1 hm2
        refine (make_ok HLQ.out.wd.tab HLQ.out.sup recA r1 r2 rfl (by decide) (by decide)).mono ?_
        rintro e w3 ⟨κ3, rfl, h1, h2, h3, h4⟩
        have HL3 := Lib.hid (HLQ.out.turnT h1 h2 h3 h4)
        clear h1 h2 h3 h4
        refine hK _ _ (fun h => (by cases h)) ?_
        clear hK K__
        try simp only [Act.put, List.setIfInBounds_toArray, List.set_cons_zero, List.set_cons_succ]
        refine Mask.takeP 13 18 (v := ?_) rfl rfl (by kernel_rfl) (by kernel_rfl) (by kernel_rfl) rfl (fun _ _ _ h => h) (Or.inl ⟨by rfl, ?_⟩) ?_
        rotate_left
        · intro w hSw; (try dsimp only at hSw); go_simp; try with_reducible rfl
        simp only [Act.put, List.setIfInBounds_toArray, List.set_cons_zero, List.set_cons_succ]
        refine Mask.takeP 14 32 (v := ?_) rfl rfl (by kernel_rfl) (by kernel_rfl) (by kernel_rfl) rfl (fun _ _ _ h => h) (Or.inl ⟨by rfl, ?_⟩) ?_
        rotate_left
        · intro w hSw; (try dsimp only at hSw); go_simp; try with_reducible rfl
        simp only [Act.put, List.setIfInBounds_toArray, List.set_cons_zero, List.set_cons_succ]
        refine Mask.takeP 15 33 (v := ?_) rfl rfl (by kernel_rfl) (by kernel_rfl) (by kernel_rfl) rfl (fun _ _ _ h => h) (Or.inl ⟨by rfl, ?_⟩) ?_
        rotate_left
        · intro w hSw; (try dsimp only at hSw); go_simp; try with_reducible rfl
        simp only [Act.put, List.setIfInBounds_toArray, List.set_cons_zero, List.set_cons_succ]
        refine Mask.takeP 16 3 (v := ?_) rfl rfl (by kernel_rfl) (by kernel_rfl) (by kernel_rfl) rfl (fun _ _ _ h => h) (Or.inl ⟨by rfl, ?_⟩) ?_
        rotate_left
        · intro w hSw; (try dsimp only at hSw); go_simp; try with_reducible rfl
        simp only [Act.put, List.setIfInBounds_toArray, List.set_cons_zero, List.set_cons_succ]
        refine Mask.takeP 17 4 (v := ?_) rfl rfl (by kernel_rfl) (by kernel_rfl) (by kernel_rfl) rfl (fun _ _ _ h => h) (Or.inl ⟨by rfl, ?_⟩) ?_
        rotate_left
        · intro w hSw; (try dsimp only at hSw); go_simp; try with_reducible rfl
        simp only [Act.put, List.setIfInBounds_toArray, List.set_cons_zero, List.set_cons_succ]
        refine Mask.done (by kernel_rfl) ?_ _
        go_wp2
        go_meet
        case rel => exact ⟨κ3, rfl, HL3⟩
    · -- 10: call F77[i64:0, u32:1] types#[3, 112]
      go_simp
      refine (of_any 0 1 (by decide) (by decide) _).mono ?_
      rintro e w' ⟨rfl, hw'⟩; replace hw' := hw'.symm; subst hw'
      refine hK _ _ (fun _ => ?_) ?_
      · exact hS
      clear hK K__
      try simp only [Act.put, List.setIfInBounds_toArray, List.set_cons_zero, List.set_cons_succ]
      refine Mask.two 8 9 (by kernel_rfl) rfl rfl rfl rfl (fun K__ hK => ?_) (fun K__ hK => ?_)
      · -- 8: buildSlice T56 1 [(0, t26)]
        go_simp
        generalize hG__ : W.alloc (.cells #[Value.int .i64 (refOf 1 1)] 41) = wq1
        have hZ__ : Below W.heap.size W wq1 := hG__ ▸ (Below.refl _ _).alloc (Nat.le_refl _) _
        have HN_b1 := Lib.hid (show wq1.heap[W.heap.size]? = some (.cells #[Value.int .i64 (refOf 1 1)] 41 (0, 0)) from hG__ ▸ Laws.heap_new W _)
        have HB_wq1 := Lib.hid hZ__
        have HS_wq1 := Lib.hid (hS.trans (hZ__.mono hS.size))
        have hS_W : W.heap.size ≤ W.heap.size := hS.size
        clear hG__ hZ__
        refine hK _ _ (fun _ => ?_) ?_
        · exact HS_wq1.out
        replace hS := HS_wq1.out
        clear hK K__
        try simp only [Act.put, List.setIfInBounds_toArray, List.set_cons_zero, List.set_cons_succ]
        -- 9: buildSlice T22 1 [(0, i64:0)]
        refine Mask.one 9 (by kernel_rfl) rfl rfl (fun K__ hK => ?_)
        go_simp
        generalize hG__ : wq1.alloc (.cells #[Value.int .i64 0] 2) = wq2
        have hZ__ : Below wq1.heap.size wq1 wq2 := hG__ ▸ (Below.refl _ _).alloc (Nat.le_refl _) _
        have HN_b2 := Lib.hid (show wq2.heap[wq1.heap.size]? = some (.cells #[Value.int .i64 0] 2 (0, 0)) from hG__ ▸ Laws.heap_new wq1 _)
        have HB_wq2 := Lib.hid hZ__
        have HS_wq2 := Lib.hid (hS.trans (hZ__.mono hS.size))
        have hS_wq1 : W.heap.size ≤ wq1.heap.size := hS.size
        clear hG__ hZ__
        refine hK _ _ (fun _ => ?_) ?_
        · exact HS_wq2.out
        replace hS := HS_wq2.out
        clear hK K__
        try simp only [Act.put, List.setIfInBounds_toArray, List.set_cons_zero, List.set_cons_succ]
        refine Mask.take 11 30 (v := ?_) rfl rfl (by kernel_rfl) (by kernel_rfl) (by kernel_rfl) rfl (by kernel_rfl) (by kernel_rfl) (fun _ _ _ h => h) hS (Or.inl ⟨by rfl, ?_⟩) ?_
        rotate_left
        · intro w hSw; (try dsimp only at hSw); go_simp; try with_reducible rfl
        simp only [Act.put, List.setIfInBounds_toArray, List.set_cons_zero, List.set_cons_succ]
        -- 12: call F73[t22, t30] types#[39, 93]
        refine Mask.one 12 (by kernel_rfl) rfl rfl (fun K__ hK => ?_)
        go_simp
        have HLQ := Lib.hid ((HLW.out.below HB_wq1.out).below HB_wq2.out)
        have hm1 := (HB_wq2.out.block _ (lt_of_heap HN_b1.out)).trans HN_b1.out
        have hm2 := HN_b2.out
        have r1 : RowN κ1 (K.recs 0) wq2 1 (.slice (some ⟨W.heap.size, 0, none⟩) 1 1) recA.nodes.length (intVs recA.nodes) := RowN.new hm1 (by rw [HLW.out.sup _ hS_W]; rfl) 1 _ rfl 1 rfl
        have r2 : RowN κ1 (K.recs 0) wq2 1 (.slice (some ⟨wq1.heap.size, 0, none⟩) 1 1) recA.infos.length (intVs recA.infos) := RowN.new hm2 (by rw [HLW.out.sup _ hS_wq1]; rfl) 1 _ rfl 1 rfl
        clear hm1 hm2
        refine (make_ok HLQ.out.wd.tab HLQ.out.sup recA r1 r2 rfl (by decide) (by decide)).mono ?_
        rintro e w3 ⟨κ3, rfl, h1, h2, h3, h4⟩
        have HL3 := Lib.hid (HLQ.out.turnT h1 h2 h3 h4)
        clear h1 h2 h3 h4
        refine hK _ _ (fun h => (by cases h)) ?_
        clear hK K__
        try simp only [Act.put, List.setIfInBounds_toArray, List.set_cons_zero, List.set_cons_succ]
        refine Mask.takeP 13 18 (v := ?_) rfl rfl (by kernel_rfl) (by kernel_rfl) (by kernel_rfl) rfl (fun _ _ _ h => h) (Or.inl ⟨by rfl, ?_⟩) ?_
        rotate_left
        · intro w hSw; (try dsimp only at hSw); go_simp; try with_reducible rfl
        simp only [Act.put, List.setIfInBounds_toArray, List.set_cons_zero, List.set_cons_succ]
        refine Mask.takeP 14 32 (v := ?_) rfl rfl (by kernel_rfl) (by kernel_rfl) (by kernel_rfl) rfl (fun _ _ _ h => h) (Or.inl ⟨by rfl, ?_⟩) ?_
        rotate_left
        · intro w hSw; (try dsimp only at hSw); go_simp; try with_reducible rfl
        simp only [Act.put, List.setIfInBounds_toArray, List.set_cons_zero, List.set_cons_succ]
        refine Mask.takeP 15 33 (v := ?_) rfl rfl (by kernel_rfl) (by kernel_rfl) (by kernel_rfl) rfl (fun _ _ _ h => h) (Or.inl ⟨by rfl, ?_⟩) ?_
        rotate_left
        · intro w hSw; (try dsimp only at hSw); go_simp; try with_reducible rfl
        simp only [Act.put, List.setIfInBounds_toArray, List.set_cons_zero, List.set_cons_succ]
        refine Mask.takeP 16 3 (v := ?_) rfl rfl (by kernel_rfl) (by kernel_rfl) (by kernel_rfl) rfl (fun _ _ _ h => h) (Or.inl ⟨by rfl, ?_⟩) ?_
        rotate_left
        · intro w hSw; (try dsimp only at hSw); go_simp; try with_reducible rfl
        simp only [Act.put, List.setIfInBounds_toArray, List.set_cons_zero, List.set_cons_succ]
        refine Mask.takeP 17 4 (v := ?_) rfl rfl (by kernel_rfl) (by kernel_rfl) (by kernel_rfl) rfl (fun _ _ _ h => h) (Or.inl ⟨by rfl, ?_⟩) ?_
        rotate_left
        · intro w hSw; (try dsimp only at hSw); go_simp; try with_reducible rfl
        simp only [Act.put, List.setIfInBounds_toArray, List.set_cons_zero, List.set_cons_succ]
        refine Mask.done (by kernel_rfl) ?_ _
        go_wp2
        go_meet
        case rel => exact ⟨κ3, rfl, HL3⟩
      · -- 9: buildSlice T22 1 [(0, i64:0)]
        go_simp
        generalize hG__ : W.alloc (.cells #[Value.int .i64 0] 2) = wq1
        have hZ__ : Below W.heap.size W wq1 := hG__ ▸ (Below.refl _ _).alloc (Nat.le_refl _) _
        have HN_b2 := Lib.hid (show wq1.heap[W.heap.size]? = some (.cells #[Value.int .i64 0] 2 (0, 0)) from hG__ ▸ Laws.heap_new W _)
        have HB_wq1 := Lib.hid hZ__
        have HS_wq1 := Lib.hid (hS.trans (hZ__.mono hS.size))
        have hS_W : W.heap.size ≤ W.heap.size := hS.size
        clear hG__ hZ__
        refine hK _ _ (fun _ => ?_) ?_
        · exact HS_wq1.out
        replace hS := HS_wq1.out
        clear hK K__
        try simp only [Act.put, List.setIfInBounds_toArray, List.set_cons_zero, List.set_cons_succ]
        -- 8: buildSlice T56 1 [(0, t26)]
        refine Mask.one 8 (by kernel_rfl) rfl rfl (fun K__ hK => ?_)
        go_simp
        generalize hG__ : wq1.alloc (.cells #[Value.int .i64 (refOf 1 1)] 41) = wq2
        have hZ__ : Below wq1.heap.size wq1 wq2 := hG__ ▸ (Below.refl _ _).alloc (Nat.le_refl _) _
        have HN_b1 := Lib.hid (show wq2.heap[wq1.heap.size]? = some (.cells #[Value.int .i64 (refOf 1 1)] 41 (0, 0)) from hG__ ▸ Laws.heap_new wq1 _)
        have HB_wq2 := Lib.hid hZ__
        have HS_wq2 := Lib.hid (hS.trans (hZ__.mono hS.size))
        have hS_wq1 : W.heap.size ≤ wq1.heap.size := hS.size
        clear hG__ hZ__
        refine hK _ _ (fun _ => ?_) ?_
        · exact HS_wq2.out
        replace hS := HS_wq2.out
        clear hK K__
        try simp only [Act.put, List.setIfInBounds_toArray, List.set_cons_zero, List.set_cons_succ]
        refine Mask.take 11 30 (v := ?_) rfl rfl (by kernel_rfl) (by kernel_rfl) (by kernel_rfl) rfl (by kernel_rfl) (by kernel_rfl) (fun _ _ _ h => h) hS (Or.inl ⟨by rfl, ?_⟩) ?_
        rotate_left
        · intro w hSw; (try dsimp only at hSw); go_simp; try with_reducible rfl
        simp only [Act.put, List.setIfInBounds_toArray, List.set_cons_zero, List.set_cons_succ]
        -- 12: call F73[t22, t30] types#[39, 93]
        refine Mask.one 12 (by kernel_rfl) rfl rfl (fun K__ hK => ?_)
        go_simp
        have HLQ := Lib.hid ((HLW.out.below HB_wq1.out).below HB_wq2.out)
        have hm1 := HN_b1.out
        have hm2 := (HB_wq2.out.block _ (lt_of_heap HN_b2.out)).trans HN_b2.out
        have r1 : RowN κ1 (K.recs 0) wq2 1 (.slice (some ⟨wq1.heap.size, 0, none⟩) 1 1) recA.nodes.length (intVs recA.nodes) := RowN.new hm1 (by rw [HLW.out.sup _ hS_wq1]; rfl) 1 _ rfl 1 rfl
        have r2 : RowN κ1 (K.recs 0) wq2 1 (.slice (some ⟨W.heap.size, 0, none⟩) 1 1) recA.infos.length (intVs recA.infos) := RowN.new hm2 (by rw [HLW.out.sup _ hS_W]; rfl) 1 _ rfl 1 rfl
        clear hm1 hm2
        refine (make_ok HLQ.out.wd.tab HLQ.out.sup recA r1 r2 rfl (by decide) (by decide)).mono ?_
        rintro e w3 ⟨κ3, rfl, h1, h2, h3, h4⟩
        have HL3 := Lib.hid (HLQ.out.turnT h1 h2 h3 h4)
        clear h1 h2 h3 h4
        refine hK _ _ (fun h => (by cases h)) ?_
        clear hK K__
        try simp only [Act.put, List.setIfInBounds_toArray, List.set_cons_zero, List.set_cons_succ]
        refine Mask.takeP 13 18 (v := ?_) rfl rfl (by kernel_rfl) (by kernel_rfl) (by kernel_rfl) rfl (fun _ _ _ h => h) (Or.inl ⟨by rfl, ?_⟩) ?_
        rotate_left
        · intro w hSw; (try dsimp only at hSw); go_simp; try with_reducible rfl
        simp only [Act.put, List.setIfInBounds_toArray, List.set_cons_zero, List.set_cons_succ]
        refine Mask.takeP 14 32 (v := ?_) rfl rfl (by kernel_rfl) (by kernel_rfl) (by kernel_rfl) rfl (fun _ _ _ h => h) (Or.inl ⟨by rfl, ?_⟩) ?_
        rotate_left
        · intro w hSw; (try dsimp only at hSw); go_simp; try with_reducible rfl
        simp only [Act.put, List.setIfInBounds_toArray, List.set_cons_zero, List.set_cons_succ]
        refine Mask.takeP 15 33 (v := ?_) rfl rfl (by kernel_rfl) (by kernel_rfl) (by kernel_rfl) rfl (fun _ _ _ h => h) (Or.inl ⟨by rfl, ?_⟩) ?_
        rotate_left
        · intro w hSw; (try dsimp only at hSw); go_simp; try with_reducible rfl
        simp only [Act.put, List.setIfInBounds_toArray, List.set_cons_zero, List.set_cons_succ]
        refine Mask.takeP 16 3 (v := ?_) rfl rfl (by kernel_rfl) (by kernel_rfl) (by kernel_rfl) rfl (fun _ _ _ h => h) (Or.inl ⟨by rfl, ?_⟩) ?_
        rotate_left
        · intro w hSw; (try dsimp only at hSw); go_simp; try with_reducible rfl
        simp only [Act.put, List.setIfInBounds_toArray, List.set_cons_zero, List.set_cons_succ]
        refine Mask.takeP 17 4 (v := ?_) rfl rfl (by kernel_rfl) (by kernel_rfl) (by kernel_rfl) rfl (fun _ _ _ h => h) (Or.inl ⟨by rfl, ?_⟩) ?_
        rotate_left
        · intro w hSw; (try dsimp only at hSw); go_simp; try with_reducible rfl
        simp only [Act.put, List.setIfInBounds_toArray, List.set_cons_zero, List.set_cons_succ]
        refine Mask.done (by kernel_rfl) ?_ _
        go_wp2
        go_meet
        case rel => exact ⟨κ3, rfl, HL3⟩
  case rest =>
    obtain ⟨κ2, rfl, HLW⟩ := hcut
    clear HLW0
    go_wp2_with fail
    refine (helper_ok (wi := 0) HLW.out.sup 0 p 0 1).mono ?_
    rintro e w3 ⟨κ3, pth, caps1, rfl, hth, hwk, hB3, hE3, hS3⟩
    have HL3 := Lib.hid (HLW.out.later hB3 hE3 hS3)
    have HTH := Lib.hid hth
    have HWK := Lib.hid hwk
    clear hth hwk hB3 hE3 hS3 HLW
    go_wp2_with fail
    obtain ⟨log', hends⟩ := help_ends 1 ShA (by rw [goA.1]; decide)
    rw [goA.1, goA.2] at hends
    refine (alone_ok HTH.out HL3.out.wd HL3.out.sup enters121 HWK.out (N := 4) (by decide) hends (l := [1]) rfl (by decide)).mono ?_
    rintro e w4 ⟨κ4, a, c, rfl, hrow, hwd, hth4, hF4, hE4, hS4⟩
    have HL4 := Lib.hid (show Lw w κ4 0 p ShA' w4 from HL3.out.turn hwd (hF4.mono K.step_run) hE4 hS4)
    obtain ⟨g, o, cap, hv, hle, hgl, hgk, hgc, hgz⟩ := hrow.at (by decide) (by decide)
    simp only [Value.slice.injEq] at hv
    obtain ⟨rfl, _, rfl⟩ := hv
    have hx : w4.cell? ⟨g, o, none⟩ = some (.int .i64 1) := hgc 0 _ rfl
    have c0 : w4.cell? ⟨p.pw, 0, none⟩ = some (.pointer (some ⟨p.pa, 0, none⟩)) := cellAt HL4.out.wd.hpw 0 rfl
    have c1 : w4.cell? ⟨p.pw, 1, none⟩ = some (.pointer (some ⟨p.pt, 0, none⟩)) := cellAt HL4.out.wd.hpw 1 rfl
    have c5 : w4.cell? ⟨p.pw, 5, none⟩ = some (.int .i64 (refOf 1 1)) := by rw [← HPE.out]; exact cellAt HL4.out.wd.hpw 5 rfl
    have HG := Lib.hid (show ShA'.A.get (refOf 1 1) ≠ none by have := goA'.2.2.2; intro h; rw [h] at this; cases this)
    clear hends hrow hwd hth4 hF4 hE4 hS4 hgc hgz hgk HTH HWK HL3
    have hw := goA'.1
    have hs := goA'.2.1
    have hi := goA'.2.2.1
    simp only [List.length_singleton]
    go_upto_region 6 with fail
    go_quiet ((first | (go_at_call 41; exact Calls.quiet_of_same (way_at (HL4.out.wd.ar.drewN _) _ _ HG.out)) | (go_at_call 70; exact Calls.quiet_of_same (state_ok (HL4.out.wd.tab.drewN _) _)) | (go_at_call 83; exact Calls.quiet_of_same (info_at (HL4.out.wd.ar.drewN _) _ HG.out))))
    go_wp2
    go_ret
    exact ⟨rfl, Below.drawn HL4.out.below0 _⟩
end Go.Proofs.Ytacmeafpieoaaaa
