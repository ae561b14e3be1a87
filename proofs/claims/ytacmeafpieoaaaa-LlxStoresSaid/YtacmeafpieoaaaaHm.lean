/- More closures of touches: SwapWay, State, one, Make. -/
import Derived.Test.YtacmeafpieoaaaaHl
namespace Go.Proofs.Ytacmeafpieoaaaa
open Go.RowKit

def tStateW (n : Int) (σ : ShS) : Int × ShS := (wrap64 (σ.T.state n), σ)
def tMake (r : RecS) (σ : ShS) : Int × ShS := ((σ.T.make r).1.1, { σ with T := (σ.T.make r).2 })

theorem cellAt {w : World} {b : Nat} {cs : Array Value} {t : TypeId} {fr : Nat × Nat} (h : w.heap[b]? = some (.cells cs t fr)) (i : Nat) {u : Value} (hu : cs[i]? = some u) : w.cell? ⟨b, i, none⟩ = some u := by rw [cell_of_heap h]; exact hu

section
variable {κ κ' : Nat → K} {w w' : World} {wi j pth : Nat} {p : WdP} {σ : ShS} {me : Int}

theorem enters167 : Enters Try.prog 167 := enters_of Try.func167 (by kernel_rfl) rfl
set_option maxRecDepth 100000 in
theorem touch_swapWay {tb : Nat} {rb : Nat} {x : Int} {r : RecS} {vn vi : Value} (hrn : Row κ .imm w 1 vn r.nodes.length (intVs r.nodes)) (hxo : r.nodes[0]? = some x) (htb : BoxAt κ w tb (taskCs pth p me) 85) (hrb : BoxAt κ w rb #[vn, vi, .int .i64 r.keep, .int .i64 r.way, .int .i64 r.old, .int .i64 r.new] 93) : TouchB κ w wi p j σ 167 #[.pointer (some ⟨tb, 0, none⟩), .pointer (some ⟨rb, 0, none⟩)] (tSwapWay x r.way r.old r.new) := by
  intro w1 hf hw hs
  have gtb := (hf.block tb (lt_of_heap htb.hb) (by rw [htb.kb]; rfl)).trans htb.hb
  have atb0 : w1.cell? ⟨tb, 0, none⟩ = some (.pointer (some ⟨pth, 0, none⟩)) := by rw [cell_of_heap gtb]; rfl
  have atb1 : w1.cell? ⟨tb, 1, none⟩ = some (.pointer (some ⟨p.pw, 0, none⟩)) := by rw [cell_of_heap gtb]; rfl
  have atb2 : w1.cell? ⟨tb, 2, none⟩ = some (.int .i64 me) := by rw [cell_of_heap gtb]; rfl
  have grb := (hf.block rb (lt_of_heap hrb.hb) (by rw [hrb.kb]; rfl)).trans hrb.hb
  have arb0 : w1.cell? ⟨rb, 0, none⟩ = some (vn) := by rw [cell_of_heap grb]; rfl
  have arb1 : w1.cell? ⟨rb, 1, none⟩ = some (vi) := by rw [cell_of_heap grb]; rfl
  have arb2 : w1.cell? ⟨rb, 2, none⟩ = some (.int .i64 r.keep) := by rw [cell_of_heap grb]; rfl
  have arb3 : w1.cell? ⟨rb, 3, none⟩ = some (.int .i64 r.way) := by rw [cell_of_heap grb]; rfl
  have arb4 : w1.cell? ⟨rb, 4, none⟩ = some (.int .i64 r.old) := by rw [cell_of_heap grb]; rfl
  have arb5 : w1.cell? ⟨rb, 5, none⟩ = some (.int .i64 r.new) := by rw [cell_of_heap grb]; rfl
  have q0 : w1.cell? ⟨p.pw, 0, none⟩ = some (.pointer (some ⟨p.pa, 0, none⟩)) := by rw [cell_of_heap hw.hpw]; rfl
  have q1 : w1.cell? ⟨p.pw, 1, none⟩ = some (.pointer (some ⟨p.pt, 0, none⟩)) := by rw [cell_of_heap hw.hpw]; rfl
  have q2 : w1.cell? ⟨p.pw, 2, none⟩ = some (.pointer (some ⟨p.pe, 0, none⟩)) := by rw [cell_of_heap hw.hpw]; rfl
  obtain ⟨an, cn, rfl, hlen, _⟩ := hrn.shape
  obtain ⟨g, o, cap', hv', hle, hgl, hgk, hgc, hgz⟩ := hrn.at (by have := (List.getElem?_eq_some_iff.1 hxo).1; omega) (by decide)
  simp only [Value.slice.injEq] at hv'
  obtain ⟨rfl, _, rfl⟩ := hv'
  have hcn : w1.cell? ⟨g, o, none⟩ = some (.int .i64 x) := (World.cell?_of_block (hf.block g hgl (by rw [hgk]; rfl))).trans (hgc 0 _ (by rw [intVs_get, hxo]; rfl))
  have hil : 0 < r.nodes.length := (List.getElem?_eq_some_iff.1 hxo).1
  clear hgc hgz hgk hle hrn
  have hwd : WdRep κ w1.drew wi p σ := hw.below (Below.refl _ _).drew (Ext.refl _ _)
  have hsd : Sup κ w1.drew := hs
  have hfd : Fr κ (K.ofW wi) w1 w1.drew := Fr.drew
  clear hf hw hs gtb grb htb hrb
  go_enter Try.func167, Try.ntmps167
  go_wp2
  replace atb0 : w1.drew.cell? _ = _ := atb0
  replace atb1 : w1.drew.cell? _ = _ := atb1
  replace atb2 : w1.drew.cell? _ = _ := atb2
  replace arb0 : w1.drew.cell? _ = _ := arb0
  replace arb1 : w1.drew.cell? _ = _ := arb1
  replace arb2 : w1.drew.cell? _ = _ := arb2
  replace arb3 : w1.drew.cell? _ = _ := arb3
  replace arb4 : w1.drew.cell? _ = _ := arb4
  replace arb5 : w1.drew.cell? _ = _ := arb5
  replace q0 : w1.drew.cell? _ = _ := q0
  replace q1 : w1.drew.cell? _ = _ := q1
  replace q2 : w1.drew.cell? _ = _ := q2
  replace hcn : w1.drew.cell? _ = _ := hcn
  refine wp_tail_at 15 (by kernel_rfl) (by kernel_rfl) w1.drew rfl ?_
  generalize w1.drew = w2 at atb0 atb1 atb2 arb0 arb1 arb2 arb3 arb4 arb5 q0 q1 q2 hcn  hwd hsd hfd ⊢
  simp only [List.take_succ_cons, List.take_zero, List.drop_succ_cons, List.drop_zero]
  have HWD := Lib.hid hwd
  have HFD := Lib.hid hfd
  clear hwd hfd
  repeat still_step
  refine wpStill_nil ?_
  go_wp2_with fail
  refine (swapWay_ok HWD.out.ar x r.way r.old r.new).mono ?_
  rintro e w3 ⟨rfl, h1, h2⟩
  go_wp2
  go_ret
  exact ⟨κ, rfl, HWD.out.turnA h1 h2 (Ext.refl _ _), HFD.out.trans0 (h2.mono K.arena_ofW), Ext.refl _ _, hsd.mono h2.size⟩

theorem enters176 : Enters Try.prog 176 := enters_of Try.func176 (by kernel_rfl) rfl
set_option maxRecDepth 100000 in
theorem touch_state {tb : Nat} {nb : Nat} {n : Int} (htb : BoxAt κ w tb (taskCs pth p me) 85) (hnb : BoxAt κ w nb #[.int .i64 n] 2) : Touch κ w wi p j σ 176 #[.pointer (some ⟨tb, 0, none⟩), .pointer (some ⟨nb, 0, none⟩)] (fun x => .int .i64 x.1) (tStateW n) := by
  intro w1 hf hw hs
  have gtb := (hf.block tb (lt_of_heap htb.hb) (by rw [htb.kb]; rfl)).trans htb.hb
  have atb0 : w1.cell? ⟨tb, 0, none⟩ = some (.pointer (some ⟨pth, 0, none⟩)) := by rw [cell_of_heap gtb]; rfl
  have atb1 : w1.cell? ⟨tb, 1, none⟩ = some (.pointer (some ⟨p.pw, 0, none⟩)) := by rw [cell_of_heap gtb]; rfl
  have atb2 : w1.cell? ⟨tb, 2, none⟩ = some (.int .i64 me) := by rw [cell_of_heap gtb]; rfl
  have gnb := (hf.block nb (lt_of_heap hnb.hb) (by rw [hnb.kb]; rfl)).trans hnb.hb
  have anb0 : w1.cell? ⟨nb, 0, none⟩ = some (.int .i64 n) := by rw [cell_of_heap gnb]; rfl
  have q0 : w1.cell? ⟨p.pw, 0, none⟩ = some (.pointer (some ⟨p.pa, 0, none⟩)) := by rw [cell_of_heap hw.hpw]; rfl
  have q1 : w1.cell? ⟨p.pw, 1, none⟩ = some (.pointer (some ⟨p.pt, 0, none⟩)) := by rw [cell_of_heap hw.hpw]; rfl
  have q2 : w1.cell? ⟨p.pw, 2, none⟩ = some (.pointer (some ⟨p.pe, 0, none⟩)) := by rw [cell_of_heap hw.hpw]; rfl
  have hwd : WdRep κ w1.drew wi p σ := hw.below (Below.refl _ _).drew (Ext.refl _ _)
  have hsd : Sup κ w1.drew := hs
  have hfd : Fr κ (K.ofW wi) w1 w1.drew := Fr.drew
  clear hf hw hs gtb gnb htb hnb
  go_enter Try.func176, Try.ntmps176
  go_wp2
  replace atb0 : w1.drew.cell? _ = _ := atb0
  replace atb1 : w1.drew.cell? _ = _ := atb1
  replace atb2 : w1.drew.cell? _ = _ := atb2
  replace anb0 : w1.drew.cell? _ = _ := anb0
  replace q0 : w1.drew.cell? _ = _ := q0
  replace q1 : w1.drew.cell? _ = _ := q1
  replace q2 : w1.drew.cell? _ = _ := q2
  refine wp_tail_at 6 (by kernel_rfl) (by kernel_rfl) w1.drew rfl ?_
  generalize w1.drew = w2 at atb0 atb1 atb2 anb0 q0 q1 q2  hwd hsd hfd ⊢
  simp only [List.take_succ_cons, List.take_zero, List.drop_succ_cons, List.drop_zero]
  have HWD := Lib.hid hwd
  have HFD := Lib.hid hfd
  clear hwd hfd
  repeat still_step
  refine wpStill_nil ?_
  go_wp2_with fail
  refine (state_ok HWD.out.tab n).mono ?_
  rintro e w3 ⟨rfl, rfl⟩
  go_wp2
  go_ret
  exact ⟨κ, rfl, HWD.out, HFD.out, Ext.refl _ _, hsd⟩

theorem enters142 : Enters Try.prog 142 := enters_of Try.func142 (by kernel_rfl) rfl
set_option maxRecDepth 100000 in
theorem touch_make {tb : Nat} {rb : Nat} {r : RecS} {vn vi : Value} (hrn : Row κ .imm w 1 vn r.nodes.length (intVs r.nodes)) (hri : Row κ .imm w 1 vi r.infos.length (intVs r.infos)) (hlen : r.nodes.length = r.infos.length) (hkeep : 0 ≤ r.keep) (hsn : r.nodes.length ≤ 1048576) (htb : BoxAt κ w tb (taskCs pth p me) 85) (hrb : BoxAt κ w rb #[vn, vi, .int .i64 r.keep, .int .i64 r.way, .int .i64 r.old, .int .i64 r.new] 93) : Touch κ w wi p j σ 142 #[.pointer (some ⟨tb, 0, none⟩), .pointer (some ⟨rb, 0, none⟩)] (fun x => .int .i64 x.1) (tMake r) := by
  intro w1 hf hw hs
  have gtb := (hf.block tb (lt_of_heap htb.hb) (by rw [htb.kb]; rfl)).trans htb.hb
  have grb := (hf.block rb (lt_of_heap hrb.hb) (by rw [hrb.kb]; rfl)).trans hrb.hb
  have hrn2 : RowN κ (K.recs wi) w1.drew 1 vn r.nodes.length (intVs r.nodes) := (hrn.keep (w' := w1) (fun b hb hk => hf.block b hb (by rw [hk]; rfl)) hf.size (Ext.refl _ _)).toN rfl
  have hri2 : RowN κ (K.recs wi) w1.drew 1 vi r.infos.length (intVs r.infos) := (hri.keep (w' := w1) (fun b hb hk => hf.block b hb (by rw [hk]; rfl)) hf.size (Ext.refl _ _)).toN rfl
  obtain ⟨a2, cap2, rfl, _, hno2⟩ := hrn2.shape
  obtain ⟨a3, cap3, rfl, _, hno3⟩ := hri2.shape
  have hS : _ ∧ _ ∧ _ ∧ _ ∧ _ ∧ _ ∧ _ ∧ _ := ⟨(cellAt (w := w1.drew) gtb 1 rfl : w1.drew.cell? ⟨tb, 1, none⟩ = some (.pointer (some ⟨p.pw, 0, none⟩))), (cellAt (w := w1.drew) hw.hpw 1 rfl : w1.drew.cell? ⟨p.pw, 1, none⟩ = some (.pointer (some ⟨p.pt, 0, none⟩))),
    (cellAt (w := w1.drew) grb 0 rfl : w1.drew.cell? ⟨rb, 0, none⟩ = some (.slice a2 r.nodes.length cap2)), (cellAt (w := w1.drew) grb 1 rfl : w1.drew.cell? ⟨rb, 1, none⟩ = some (.slice a3 r.infos.length cap3)), (cellAt (w := w1.drew) grb 2 rfl : w1.drew.cell? ⟨rb, 2, none⟩ = some (.int .i64 r.keep)), (cellAt (w := w1.drew) grb 3 rfl : w1.drew.cell? ⟨rb, 3, none⟩ = some (.int .i64 r.way)), (cellAt (w := w1.drew) grb 4 rfl : w1.drew.cell? ⟨rb, 4, none⟩ = some (.int .i64 r.old)), (cellAt (w := w1.drew) grb 5 rfl : w1.drew.cell? ⟨rb, 5, none⟩ = some (.int .i64 r.new))⟩
  have HWD := Lib.hid (show WdRep κ w1.drew wi p σ from hw.below (Below.refl _ _).drew (Ext.refl _ _))
  have hsd : Sup κ w1.drew := hs
  have HFD := Lib.hid (show Fr κ (K.ofW wi) w1 w1.drew from Fr.drew)
  have HLEN := Lib.hid hlen
  have HKP := Lib.hid hkeep
  clear hf hw hs gtb grb htb hrb hrn hri hlen hkeep
  go_enter Try.func142, Try.ntmps142
  go_wp2
  refine Mask.begin_ (fun W' => W'.cell? ⟨tb, 1, none⟩ = some (.pointer (some ⟨p.pw, 0, none⟩)) ∧ W'.cell? ⟨p.pw, 1, none⟩ = some (.pointer (some ⟨p.pt, 0, none⟩)) ∧ W'.cell? ⟨rb, 0, none⟩ = some (.slice a2 r.nodes.length cap2) ∧ W'.cell? ⟨rb, 1, none⟩ = some (.slice a3 r.infos.length cap3) ∧ W'.cell? ⟨rb, 2, none⟩ = some (.int .i64 r.keep) ∧ W'.cell? ⟨rb, 3, none⟩ = some (.int .i64 r.way) ∧ W'.cell? ⟨rb, 4, none⟩ = some (.int .i64 r.old) ∧ W'.cell? ⟨rb, 5, none⟩ = some (.int .i64 r.new)) (fun i => i != 6 && i != 7 && i != 8 && i != 9 && i != 10 && i != 11) (by kernel_rfl) ?_
  refine Mask.take 0 6 (v := ?_) rfl rfl (by kernel_rfl) (by kernel_rfl) (by kernel_rfl) rfl (by kernel_rfl) (by kernel_rfl) (fun _ _ _ h => h) hS (Or.inl ⟨by rfl, ?_⟩) ?_
  rotate_left
  · intro w hSw; (try dsimp only at hSw); go_simp; try with_reducible rfl
  simp only [Act.put, List.setIfInBounds_toArray, List.set_cons_zero, List.set_cons_succ]
  refine Mask.take 1 7 (v := ?_) rfl rfl (by kernel_rfl) (by kernel_rfl) (by kernel_rfl) rfl (by kernel_rfl) (by kernel_rfl) (fun _ _ _ h => h) hS (Or.inl ⟨by rfl, ?_⟩) ?_
  rotate_left
  · intro w hSw; (try dsimp only at hSw); go_simp; try with_reducible rfl
  simp only [Act.put, List.setIfInBounds_toArray, List.set_cons_zero, List.set_cons_succ]
  refine Mask.take 2 8 (v := ?_) rfl rfl (by kernel_rfl) (by kernel_rfl) (by kernel_rfl) rfl (by kernel_rfl) (by kernel_rfl) (fun _ _ _ h => h) hS (Or.inl ⟨by rfl, ?_⟩) ?_
  rotate_left
  · intro w hSw; (try dsimp only at hSw); go_simp; try with_reducible rfl
  simp only [Act.put, List.setIfInBounds_toArray, List.set_cons_zero, List.set_cons_succ]
  refine Mask.take 3 9 (v := ?_) rfl rfl (by kernel_rfl) (by kernel_rfl) (by kernel_rfl) rfl (by kernel_rfl) (by kernel_rfl) (fun _ _ _ h => h) hS (Or.inl ⟨by rfl, ?_⟩) ?_
  rotate_left
  · intro w hSw; (try dsimp only at hSw); go_simp; try with_reducible rfl
  simp only [Act.put, List.setIfInBounds_toArray, List.set_cons_zero, List.set_cons_succ]
  refine Mask.take 4 10 (v := ?_) rfl rfl (by kernel_rfl) (by kernel_rfl) (by kernel_rfl) rfl (by kernel_rfl) (by kernel_rfl) (fun _ _ _ h => h) hS (Or.inl ⟨by rfl, ?_⟩) ?_
  rotate_left
  · intro w hSw; (try dsimp only at hSw); go_simp; try with_reducible rfl
  simp only [Act.put, List.setIfInBounds_toArray, List.set_cons_zero, List.set_cons_succ]
  refine Mask.take 5 11 (v := ?_) rfl rfl (by kernel_rfl) (by kernel_rfl) (by kernel_rfl) rfl (by kernel_rfl) (by kernel_rfl) (fun _ _ _ h => h) hS (Or.inl ⟨by rfl, ?_⟩) ?_
  rotate_left
  · intro w hSw; (try dsimp only at hSw); go_simp; try with_reducible rfl
  simp only [Act.put, List.setIfInBounds_toArray, List.set_cons_zero, List.set_cons_succ]
  -- 6: call F73[t10, t11] types#[39, 93]
  refine Mask.one 6 (by kernel_rfl) rfl rfl (fun K hK => ?_)
  go_simp
  refine (make_ok HWD.out.tab hsd r hrn2 hri2 HLEN.out HKP.out hsn).mono ?_
  rintro e w3 ⟨κ3, rfl, h1, h2, h3, h4⟩
  have HM1 := Lib.hid h1
  clear h1
  refine hK _ _ (fun h => (by cases h)) ?_
  clear hK K
  try simp only [Act.put, List.setIfInBounds_toArray, List.set_cons_zero, List.set_cons_succ]
  refine Mask.takeP 7 5 (v := ?_) rfl rfl (by kernel_rfl) (by kernel_rfl) (by kernel_rfl) rfl (fun _ _ _ h => h) (Or.inl ⟨by rfl, ?_⟩) ?_
  rotate_left
  · intro w hSw; (try dsimp only at hSw); go_simp; try with_reducible rfl
  simp only [Act.put, List.setIfInBounds_toArray, List.set_cons_zero, List.set_cons_succ]
  refine Mask.takeP 8 13 (v := ?_) rfl rfl (by kernel_rfl) (by kernel_rfl) (by kernel_rfl) rfl (fun _ _ _ h => h) (Or.inl ⟨by rfl, ?_⟩) ?_
  rotate_left
  · intro w hSw; (try dsimp only at hSw); go_simp; try with_reducible rfl
  simp only [Act.put, List.setIfInBounds_toArray, List.set_cons_zero, List.set_cons_succ]
  refine Mask.takeP 9 14 (v := ?_) rfl rfl (by kernel_rfl) (by kernel_rfl) (by kernel_rfl) rfl (fun _ _ _ h => h) (Or.inl ⟨by rfl, ?_⟩) ?_
  rotate_left
  · intro w hSw; (try dsimp only at hSw); go_simp; try with_reducible rfl
  simp only [Act.put, List.setIfInBounds_toArray, List.set_cons_zero, List.set_cons_succ]
  refine Mask.takeP 10 3 (v := ?_) rfl rfl (by kernel_rfl) (by kernel_rfl) (by kernel_rfl) rfl (fun _ _ _ h => h) (Or.inl ⟨by rfl, ?_⟩) ?_
  rotate_left
  · intro w hSw; (try dsimp only at hSw); go_simp; try with_reducible rfl
  simp only [Act.put, List.setIfInBounds_toArray, List.set_cons_zero, List.set_cons_succ]
  refine Mask.takeP 11 4 (v := ?_) rfl rfl (by kernel_rfl) (by kernel_rfl) (by kernel_rfl) rfl (fun _ _ _ h => h) (Or.inl ⟨by rfl, ?_⟩) ?_
  rotate_left
  · intro w hSw; (try dsimp only at hSw); go_simp; try with_reducible rfl
  simp only [Act.put, List.setIfInBounds_toArray, List.set_cons_zero, List.set_cons_succ]
  refine Mask.done (by kernel_rfl) ?_ _
  clear hS
  go_wp2
  go_ret
  exact ⟨κ3, rfl, HWD.out.turnT HM1.out h2 h3, HFD.out.trans0 (h2.mono K.recs_ofW), (fun b hb => h3 b (by have := HFD.out.size; omega)), h4⟩
end
end Go.Proofs.Ytacmeafpieoaaaa
