/- The closures of touches: what each does to what all share. -/
import Derived.Test.YtacmeafpieoaaaaTn
import Derived.StillTail
namespace Go.Proofs.Ytacmeafpieoaaaa
open Go.RowKit

/-- A region that draws: reads, then a tail that is forced; from a world that bears a name. -/
theorem wp_tail_at {P : Program} {id : Nat} {Q : Exit → Act → World → Prop} {a : Act} {w : World} {l : List Oper} (n : Nat) (hm : P.follows .mixedOrders = true) (hB : Region.lexTailB .any l.toArray n = true) (W : World) (hW : w.drew = W)
    (h : wpStill P l.toArray W (fun a' => wpList P l.toArray Q (l.drop n) a' W) (l.take n) a) : (Code.region id l.toArray true).wp P Q a w := wp_region_still_tail n hm hB (by subst hW; exact h)

def tInfo (x : Int) (σ : ShS) : Int × ShS := ((σ.A.info x).1, { σ with A := (σ.A.info x).2 })
def tMark (x : Int) (σ : ShS) : Bool × ShS := ((σ.A.marked x).1, { σ with A := (σ.A.marked x).2 })
def tSwapInfo (x old new : Int) (σ : ShS) : Bool × ShS := ((σ.A.swapInfo x old new).1, { σ with A := (σ.A.swapInfo x old new).2 })
def tSetMark (x : Int) (σ : ShS) : Int × ShS := (0, { σ with A := σ.A.setMark x })
def tWay (x i : Int) (σ : ShS) : Int × ShS := ((σ.A.way x i).1, { σ with A := (σ.A.way x i).2 })
def tSwapWay (x i old new : Int) (σ : ShS) : Bool × ShS := ((σ.A.swapWay x i old new).1, { σ with A := (σ.A.swapWay x i old new).2 })
def tAll (n : Int) (σ : ShS) : Bool × ShS := (σ.T.allOf n, σ)
def tState (n : Int) (σ : ShS) : Int × ShS := (σ.T.state n, σ)
def tSetAll (n : Int) (σ : ShS) : Int × ShS := (0, { σ with T := σ.T.setAll n })
def tSet (n s : Int) (σ : ShS) : Int × ShS := (0, { σ with T := σ.T.setState n s })
def tNow (σ : ShS) : Int × ShS := (σ.E.now, σ)
def tSay (t n : Int) (σ : ShS) : Int × ShS := (0, { σ with E := σ.E.say t n })
def tSaid (t : Int) (σ : ShS) : Int × ShS := (σ.E.told t, σ)
def tSwap (old : Int) (σ : ShS) : Bool × ShS := ((σ.E.swap old).1, { σ with E := (σ.E.swap old).2 })
def tNone (σ : ShS) : Int × ShS := (0, σ)

theorem EpS.say_len (E : EpS) (t n : Int) : (E.say t n).said.length = E.said.length := by unfold EpS.say; split <;> simp
theorem EpS.swap_len (E : EpS) (old : Int) : (E.swap old).2.said.length = E.said.length := by unfold EpS.swap; split <;> rfl

/-- A box of a call's own. -/
structure BoxAt (κ : Nat → K) (w : World) (b : Nat) (cs : Array Value) (t : TypeId) : Prop where
  hb : w.heap[b]? = some (.cells cs t (0, 0))
  kb : κ b = .none
def taskCs (pth : Nat) (p : WdP) (me : Int) : Array Value := #[.pointer (some ⟨pth, 0, none⟩), .pointer (some ⟨p.pw, 0, none⟩), .int .i64 me]

section
variable {κ κ' : Nat → K} {w w' : World} {wi j pth : Nat} {p : WdP} {σ : ShS} {me : Int}
theorem BoxAt.keep {b : Nat} {cs : Array Value} {t : TypeId} {S : K → Bool} (h : BoxAt κ w b cs t) (hf : Fr κ S w w') (he : Ext κ κ' w) (hS : S .none = false) : BoxAt κ' w' b cs t :=
  ⟨(hf.block b (lt_of_heap h.hb) (by rw [h.kb]; exact hS)).trans h.hb, (he b (lt_of_heap h.hb)).trans h.kb⟩

theorem enters162 : Enters Try.prog 162 := enters_of Try.func162 (by kernel_rfl) rfl
set_option maxRecDepth 100000 in
theorem touch_info {tb : Nat} {xb : Nat} {x : Int} (htb : BoxAt κ w tb (taskCs pth p me) 85) (hxb : BoxAt κ w xb #[.int .i64 x] 41) : Touch κ w wi p j σ 162 #[.pointer (some ⟨tb, 0, none⟩), .pointer (some ⟨xb, 0, none⟩)] (fun x => .int .i64 x.1) (tInfo x) := by
  intro w1 hf hw hs
  have gtb := (hf.block tb (lt_of_heap htb.hb) (by rw [htb.kb]; rfl)).trans htb.hb
  have atb0 : w1.cell? ⟨tb, 0, none⟩ = some (.pointer (some ⟨pth, 0, none⟩)) := by rw [cell_of_heap gtb]; rfl
  have atb1 : w1.cell? ⟨tb, 1, none⟩ = some (.pointer (some ⟨p.pw, 0, none⟩)) := by rw [cell_of_heap gtb]; rfl
  have atb2 : w1.cell? ⟨tb, 2, none⟩ = some (.int .i64 me) := by rw [cell_of_heap gtb]; rfl
  have gxb := (hf.block xb (lt_of_heap hxb.hb) (by rw [hxb.kb]; rfl)).trans hxb.hb
  have axb0 : w1.cell? ⟨xb, 0, none⟩ = some (.int .i64 x) := by rw [cell_of_heap gxb]; rfl
  have q0 : w1.cell? ⟨p.pw, 0, none⟩ = some (.pointer (some ⟨p.pa, 0, none⟩)) := by rw [cell_of_heap hw.hpw]; rfl
  have q1 : w1.cell? ⟨p.pw, 1, none⟩ = some (.pointer (some ⟨p.pt, 0, none⟩)) := by rw [cell_of_heap hw.hpw]; rfl
  have q2 : w1.cell? ⟨p.pw, 2, none⟩ = some (.pointer (some ⟨p.pe, 0, none⟩)) := by rw [cell_of_heap hw.hpw]; rfl
  have hwd : WdRep κ w1.drew wi p σ := hw.below (Below.refl _ _).drew (Ext.refl _ _)
  have hsd : Sup κ w1.drew := hs
  have hfd : Fr κ (K.ofW wi) w1 w1.drew := Fr.drew
  clear hf hw hs gtb gxb htb hxb
  go_enter Try.func162, Try.ntmps162
  go_wp2
  replace atb0 : w1.drew.cell? _ = _ := atb0
  replace atb1 : w1.drew.cell? _ = _ := atb1
  replace atb2 : w1.drew.cell? _ = _ := atb2
  replace axb0 : w1.drew.cell? _ = _ := axb0
  replace q0 : w1.drew.cell? _ = _ := q0
  replace q1 : w1.drew.cell? _ = _ := q1
  replace q2 : w1.drew.cell? _ = _ := q2
  refine wp_tail_at 6 (by kernel_rfl) (by kernel_rfl) w1.drew rfl ?_
  generalize w1.drew = w2 at atb0 atb1 atb2 axb0 q0 q1 q2 hwd hsd hfd ⊢
  simp only [List.take_succ_cons, List.take_zero, List.drop_succ_cons, List.drop_zero]
  have HWD := Lib.hid hwd
  have HFD := Lib.hid hfd
  clear hwd hfd
  repeat still_step
  refine wpStill_nil ?_
  go_wp2_with fail
  refine (info_ok HWD.out.ar x).mono ?_
  rintro e w3 ⟨rfl, h1, h2⟩
  go_wp2
  go_ret
  exact ⟨κ, rfl, HWD.out.turnA h1 h2 (Ext.refl _ _), HFD.out.trans0 (h2.mono K.arena_ofW), Ext.refl _ _, hsd.mono h2.size⟩

theorem enters163 : Enters Try.prog 163 := enters_of Try.func163 (by kernel_rfl) rfl
set_option maxRecDepth 100000 in
theorem touch_all {tb : Nat} {nb : Nat} {n : Int} (htb : BoxAt κ w tb (taskCs pth p me) 85) (hnb : BoxAt κ w nb #[.int .i64 n] 2) : TouchB κ w wi p j σ 163 #[.pointer (some ⟨tb, 0, none⟩), .pointer (some ⟨nb, 0, none⟩)] (tAll n) := by
  intro w1 hf hw hs
  have gtb := (hf.block tb (lt_of_heap htb.hb) (by rw [htb.kb]; rfl)).trans htb.hb
  have atb0 : w1.cell? ⟨tb, 0, none⟩ = some (.pointer (some ⟨pth, 0, none⟩)) := by rw [cell_of_heap gtb]; rfl
  have atb1 : w1.cell? ⟨tb, 1, none⟩ = some (.pointer (some ⟨p.pw, 0, none⟩)) := by rw [cell_of_heap gtb]; rfl
  have atb2 : w1.cell? ⟨tb, 2, none⟩ = some (.int .i64 me) := by rw [cell_of_heap gtb]; rfl
  have gnb := (hf.block nb (lt_of_heap hnb.hb) (by rw [hnb.kb]; rfl)).trans hnb.hb
  have anb0 : w1.cell? ⟨nb, 0, none⟩ = some (.int .i64 n) := by rw [cell_of_heap gnb]; rfl
  have q0 : w1.cell? ⟨p.pw, 0, none⟩ = some (.pointer (some ⟨p.pa, 0, none⟩)) := by rw [cell_of_heap hw.hpw]; rfl
  have q1 : w1.cell? ⟨p.pw, 1, none⟩ = some (.pointer (some ⟨p.pt, 0, none⟩)) := by rw [cell_of_heap hw.hpw]; rfl
  have q2 : w1.cell? ⟨p.pw, 2, none⟩ = some (.pointer (some ⟨p.pe, 0, none⟩)) := by rw [cell_of_heap hw.hpw]; rfl
  have hwd : WdRep κ w1.drew wi p σ := hw.below (Below.refl _ _).drew (Ext.refl _ _)
  have hsd : Sup κ w1.drew := hs
  have hfd : Fr κ (K.ofW wi) w1 w1.drew := Fr.drew
  clear hf hw hs gtb gnb htb hnb
  go_enter Try.func163, Try.ntmps163
  go_wp2
  replace atb0 : w1.drew.cell? _ = _ := atb0
  replace atb1 : w1.drew.cell? _ = _ := atb1
  replace atb2 : w1.drew.cell? _ = _ := atb2
  replace anb0 : w1.drew.cell? _ = _ := anb0
  replace q0 : w1.drew.cell? _ = _ := q0
  replace q1 : w1.drew.cell? _ = _ := q1
  replace q2 : w1.drew.cell? _ = _ := q2
  refine wp_tail_at 6 (by kernel_rfl) (by kernel_rfl) w1.drew rfl ?_
  generalize w1.drew = w2 at atb0 atb1 atb2 anb0 q0 q1 q2 hwd hsd hfd ⊢
  simp only [List.take_succ_cons, List.take_zero, List.drop_succ_cons, List.drop_zero]
  have HWD := Lib.hid hwd
  have HFD := Lib.hid hfd
  clear hwd hfd
  repeat still_step
  refine wpStill_nil ?_
  go_wp2_with fail
  refine (all_ok HWD.out.tab n).mono ?_
  rintro e w3 ⟨rfl, rfl⟩
  go_wp2
  go_ret
  exact ⟨κ, rfl, HWD.out, HFD.out, Ext.refl _ _, hsd⟩

theorem enters165 : Enters Try.prog 165 := enters_of Try.func165 (by kernel_rfl) rfl
set_option maxRecDepth 100000 in
theorem touch_setAll {tb : Nat} {nb : Nat} {n : Int} (htb : BoxAt κ w tb (taskCs pth p me) 85) (hnb : BoxAt κ w nb #[.int .i64 n] 2) : Touch κ w wi p j σ 165 #[.pointer (some ⟨tb, 0, none⟩), .pointer (some ⟨nb, 0, none⟩)] (fun x => .int .i64 x.1) (tSetAll n) := by
  intro w1 hf hw hs
  have gtb := (hf.block tb (lt_of_heap htb.hb) (by rw [htb.kb]; rfl)).trans htb.hb
  have atb0 : w1.cell? ⟨tb, 0, none⟩ = some (.pointer (some ⟨pth, 0, none⟩)) := by rw [cell_of_heap gtb]; rfl
  have atb1 : w1.cell? ⟨tb, 1, none⟩ = some (.pointer (some ⟨p.pw, 0, none⟩)) := by rw [cell_of_heap gtb]; rfl
  have atb2 : w1.cell? ⟨tb, 2, none⟩ = some (.int .i64 me) := by rw [cell_of_heap gtb]; rfl
  have gnb := (hf.block nb (lt_of_heap hnb.hb) (by rw [hnb.kb]; rfl)).trans hnb.hb
  have anb0 : w1.cell? ⟨nb, 0, none⟩ = some (.int .i64 n) := by rw [cell_of_heap gnb]; rfl
  have q0 : w1.cell? ⟨p.pw, 0, none⟩ = some (.pointer (some ⟨p.pa, 0, none⟩)) := by rw [cell_of_heap hw.hpw]; rfl
  have q1 : w1.cell? ⟨p.pw, 1, none⟩ = some (.pointer (some ⟨p.pt, 0, none⟩)) := by rw [cell_of_heap hw.hpw]; rfl
  have q2 : w1.cell? ⟨p.pw, 2, none⟩ = some (.pointer (some ⟨p.pe, 0, none⟩)) := by rw [cell_of_heap hw.hpw]; rfl
  have hwd : WdRep κ w1.drew wi p σ := hw.below (Below.refl _ _).drew (Ext.refl _ _)
  have hsd : Sup κ w1.drew := hs
  have hfd : Fr κ (K.ofW wi) w1 w1.drew := Fr.drew
  clear hf hw hs gtb gnb htb hnb
  go_enter Try.func165, Try.ntmps165
  go_wp2
  replace atb0 : w1.drew.cell? _ = _ := atb0
  replace atb1 : w1.drew.cell? _ = _ := atb1
  replace atb2 : w1.drew.cell? _ = _ := atb2
  replace anb0 : w1.drew.cell? _ = _ := anb0
  replace q0 : w1.drew.cell? _ = _ := q0
  replace q1 : w1.drew.cell? _ = _ := q1
  replace q2 : w1.drew.cell? _ = _ := q2
  refine wp_tail_at 6 (by kernel_rfl) (by kernel_rfl) w1.drew rfl ?_
  generalize w1.drew = w2 at atb0 atb1 atb2 anb0 q0 q1 q2 hwd hsd hfd ⊢
  simp only [List.take_succ_cons, List.take_zero, List.drop_succ_cons, List.drop_zero]
  have HWD := Lib.hid hwd
  have HFD := Lib.hid hfd
  clear hwd hfd
  repeat still_step
  refine wpStill_nil ?_
  go_wp2_with fail
  refine (setAll_ok HWD.out.tab n).mono ?_
  rintro e w3 ⟨rfl, h1, h2⟩
  go_wp2
  go_ret
  exact ⟨κ, rfl, HWD.out.turnT h1 h2 (Ext.refl _ _), HFD.out.trans0 (h2.mono K.recs_ofW), Ext.refl _ _, hsd.mono h2.size⟩

theorem enters166 : Enters Try.prog 166 := enters_of Try.func166 (by kernel_rfl) rfl
set_option maxRecDepth 100000 in
theorem touch_setMark {tb : Nat} {xb : Nat} {x : Int} (htb : BoxAt κ w tb (taskCs pth p me) 85) (hxb : BoxAt κ w xb #[.int .i64 x] 41) : Touch κ w wi p j σ 166 #[.pointer (some ⟨tb, 0, none⟩), .pointer (some ⟨xb, 0, none⟩)] (fun x => .int .i64 x.1) (tSetMark x) := by
  intro w1 hf hw hs
  have gtb := (hf.block tb (lt_of_heap htb.hb) (by rw [htb.kb]; rfl)).trans htb.hb
  have atb0 : w1.cell? ⟨tb, 0, none⟩ = some (.pointer (some ⟨pth, 0, none⟩)) := by rw [cell_of_heap gtb]; rfl
  have atb1 : w1.cell? ⟨tb, 1, none⟩ = some (.pointer (some ⟨p.pw, 0, none⟩)) := by rw [cell_of_heap gtb]; rfl
  have atb2 : w1.cell? ⟨tb, 2, none⟩ = some (.int .i64 me) := by rw [cell_of_heap gtb]; rfl
  have gxb := (hf.block xb (lt_of_heap hxb.hb) (by rw [hxb.kb]; rfl)).trans hxb.hb
  have axb0 : w1.cell? ⟨xb, 0, none⟩ = some (.int .i64 x) := by rw [cell_of_heap gxb]; rfl
  have q0 : w1.cell? ⟨p.pw, 0, none⟩ = some (.pointer (some ⟨p.pa, 0, none⟩)) := by rw [cell_of_heap hw.hpw]; rfl
  have q1 : w1.cell? ⟨p.pw, 1, none⟩ = some (.pointer (some ⟨p.pt, 0, none⟩)) := by rw [cell_of_heap hw.hpw]; rfl
  have q2 : w1.cell? ⟨p.pw, 2, none⟩ = some (.pointer (some ⟨p.pe, 0, none⟩)) := by rw [cell_of_heap hw.hpw]; rfl
  have hwd : WdRep κ w1.drew wi p σ := hw.below (Below.refl _ _).drew (Ext.refl _ _)
  have hsd : Sup κ w1.drew := hs
  have hfd : Fr κ (K.ofW wi) w1 w1.drew := Fr.drew
  clear hf hw hs gtb gxb htb hxb
  go_enter Try.func166, Try.ntmps166
  go_wp2
  replace atb0 : w1.drew.cell? _ = _ := atb0
  replace atb1 : w1.drew.cell? _ = _ := atb1
  replace atb2 : w1.drew.cell? _ = _ := atb2
  replace axb0 : w1.drew.cell? _ = _ := axb0
  replace q0 : w1.drew.cell? _ = _ := q0
  replace q1 : w1.drew.cell? _ = _ := q1
  replace q2 : w1.drew.cell? _ = _ := q2
  refine wp_tail_at 6 (by kernel_rfl) (by kernel_rfl) w1.drew rfl ?_
  generalize w1.drew = w2 at atb0 atb1 atb2 axb0 q0 q1 q2 hwd hsd hfd ⊢
  simp only [List.take_succ_cons, List.take_zero, List.drop_succ_cons, List.drop_zero]
  have HWD := Lib.hid hwd
  have HFD := Lib.hid hfd
  clear hwd hfd
  repeat still_step
  refine wpStill_nil ?_
  go_wp2_with fail
  refine (setMark_ok HWD.out.ar x).mono ?_
  rintro e w3 ⟨rfl, h1, h2⟩
  go_wp2
  go_ret
  exact ⟨κ, rfl, HWD.out.turnA h1 h2 (Ext.refl _ _), HFD.out.trans0 (h2.mono K.arena_ofW), Ext.refl _ _, hsd.mono h2.size⟩

theorem enters174 : Enters Try.prog 174 := enters_of Try.func174 (by kernel_rfl) rfl
set_option maxRecDepth 100000 in
theorem touch_set {tb : Nat} {nb : Nat} {sb : Nat} {n s : Int} (htb : BoxAt κ w tb (taskCs pth p me) 85) (hnb : BoxAt κ w nb #[.int .i64 n] 2) (hsb : BoxAt κ w sb #[.int .u8 s] 98) : Touch κ w wi p j σ 174 #[.pointer (some ⟨tb, 0, none⟩), .pointer (some ⟨nb, 0, none⟩), .pointer (some ⟨sb, 0, none⟩)] (fun x => .int .i64 x.1) (tSet n s) := by
  intro w1 hf hw hs
  have gtb := (hf.block tb (lt_of_heap htb.hb) (by rw [htb.kb]; rfl)).trans htb.hb
  have atb0 : w1.cell? ⟨tb, 0, none⟩ = some (.pointer (some ⟨pth, 0, none⟩)) := by rw [cell_of_heap gtb]; rfl
  have atb1 : w1.cell? ⟨tb, 1, none⟩ = some (.pointer (some ⟨p.pw, 0, none⟩)) := by rw [cell_of_heap gtb]; rfl
  have atb2 : w1.cell? ⟨tb, 2, none⟩ = some (.int .i64 me) := by rw [cell_of_heap gtb]; rfl
  have gnb := (hf.block nb (lt_of_heap hnb.hb) (by rw [hnb.kb]; rfl)).trans hnb.hb
  have anb0 : w1.cell? ⟨nb, 0, none⟩ = some (.int .i64 n) := by rw [cell_of_heap gnb]; rfl
  have gsb := (hf.block sb (lt_of_heap hsb.hb) (by rw [hsb.kb]; rfl)).trans hsb.hb
  have asb0 : w1.cell? ⟨sb, 0, none⟩ = some (.int .u8 s) := by rw [cell_of_heap gsb]; rfl
  have q0 : w1.cell? ⟨p.pw, 0, none⟩ = some (.pointer (some ⟨p.pa, 0, none⟩)) := by rw [cell_of_heap hw.hpw]; rfl
  have q1 : w1.cell? ⟨p.pw, 1, none⟩ = some (.pointer (some ⟨p.pt, 0, none⟩)) := by rw [cell_of_heap hw.hpw]; rfl
  have q2 : w1.cell? ⟨p.pw, 2, none⟩ = some (.pointer (some ⟨p.pe, 0, none⟩)) := by rw [cell_of_heap hw.hpw]; rfl
  have hwd : WdRep κ w1.drew wi p σ := hw.below (Below.refl _ _).drew (Ext.refl _ _)
  have hsd : Sup κ w1.drew := hs
  have hfd : Fr κ (K.ofW wi) w1 w1.drew := Fr.drew
  clear hf hw hs gtb gnb gsb htb hnb hsb
  go_enter Try.func174, Try.ntmps174
  go_wp2
  replace atb0 : w1.drew.cell? _ = _ := atb0
  replace atb1 : w1.drew.cell? _ = _ := atb1
  replace atb2 : w1.drew.cell? _ = _ := atb2
  replace anb0 : w1.drew.cell? _ = _ := anb0
  replace asb0 : w1.drew.cell? _ = _ := asb0
  replace q0 : w1.drew.cell? _ = _ := q0
  replace q1 : w1.drew.cell? _ = _ := q1
  replace q2 : w1.drew.cell? _ = _ := q2
  refine wp_tail_at 7 (by kernel_rfl) (by kernel_rfl) w1.drew rfl ?_
  generalize w1.drew = w2 at atb0 atb1 atb2 anb0 asb0 q0 q1 q2 hwd hsd hfd ⊢
  simp only [List.take_succ_cons, List.take_zero, List.drop_succ_cons, List.drop_zero]
  have HWD := Lib.hid hwd
  have HFD := Lib.hid hfd
  clear hwd hfd
  repeat still_step
  refine wpStill_nil ?_
  go_wp2_with fail
  refine (set_ok HWD.out.tab n s).mono ?_
  rintro e w3 ⟨rfl, h1, h2⟩
  go_wp2
  go_ret
  exact ⟨κ, rfl, HWD.out.turnT h1 h2 (Ext.refl _ _), HFD.out.trans0 (h2.mono K.recs_ofW), Ext.refl _ _, hsd.mono h2.size⟩

theorem enters123 : Enters Try.prog 123 := enters_of Try.func123 (by kernel_rfl) rfl
set_option maxRecDepth 100000 in
theorem touch_say {tb : Nat} {nb : Nat} {n : Int} (htb : BoxAt κ w tb (taskCs pth p me) 85) (hnb : BoxAt κ w nb #[.int .i64 n] 2) : Touch κ w wi p j σ 123 #[.pointer (some ⟨tb, 0, none⟩), .pointer (some ⟨nb, 0, none⟩)] (fun x => .int .i64 x.1) (tSay me n) := by
  intro w1 hf hw hs
  have gtb := (hf.block tb (lt_of_heap htb.hb) (by rw [htb.kb]; rfl)).trans htb.hb
  have atb0 : w1.cell? ⟨tb, 0, none⟩ = some (.pointer (some ⟨pth, 0, none⟩)) := by rw [cell_of_heap gtb]; rfl
  have atb1 : w1.cell? ⟨tb, 1, none⟩ = some (.pointer (some ⟨p.pw, 0, none⟩)) := by rw [cell_of_heap gtb]; rfl
  have atb2 : w1.cell? ⟨tb, 2, none⟩ = some (.int .i64 me) := by rw [cell_of_heap gtb]; rfl
  have gnb := (hf.block nb (lt_of_heap hnb.hb) (by rw [hnb.kb]; rfl)).trans hnb.hb
  have anb0 : w1.cell? ⟨nb, 0, none⟩ = some (.int .i64 n) := by rw [cell_of_heap gnb]; rfl
  have q0 : w1.cell? ⟨p.pw, 0, none⟩ = some (.pointer (some ⟨p.pa, 0, none⟩)) := by rw [cell_of_heap hw.hpw]; rfl
  have q1 : w1.cell? ⟨p.pw, 1, none⟩ = some (.pointer (some ⟨p.pt, 0, none⟩)) := by rw [cell_of_heap hw.hpw]; rfl
  have q2 : w1.cell? ⟨p.pw, 2, none⟩ = some (.pointer (some ⟨p.pe, 0, none⟩)) := by rw [cell_of_heap hw.hpw]; rfl
  have hwd : WdRep κ w1.drew wi p σ := hw.below (Below.refl _ _).drew (Ext.refl _ _)
  have hsd : Sup κ w1.drew := hs
  have hfd : Fr κ (K.ofW wi) w1 w1.drew := Fr.drew
  clear hf hw hs gtb gnb htb hnb
  go_enter Try.func123, Try.ntmps123
  go_wp2
  replace atb0 : w1.drew.cell? _ = _ := atb0
  replace atb1 : w1.drew.cell? _ = _ := atb1
  replace atb2 : w1.drew.cell? _ = _ := atb2
  replace anb0 : w1.drew.cell? _ = _ := anb0
  replace q0 : w1.drew.cell? _ = _ := q0
  replace q1 : w1.drew.cell? _ = _ := q1
  replace q2 : w1.drew.cell? _ = _ := q2
  refine wp_tail_at 8 (by kernel_rfl) (by kernel_rfl) w1.drew rfl ?_
  generalize w1.drew = w2 at atb0 atb1 atb2 anb0 q0 q1 q2 hwd hsd hfd ⊢
  simp only [List.take_succ_cons, List.take_zero, List.drop_succ_cons, List.drop_zero]
  have HWD := Lib.hid hwd
  have HFD := Lib.hid hfd
  clear hwd hfd
  repeat still_step
  refine wpStill_nil ?_
  go_wp2_with fail
  refine (say_ok HWD.out.ep me n).mono ?_
  rintro e w3 ⟨rfl, h1, h2⟩
  go_wp2
  go_ret
  exact ⟨κ, rfl, HWD.out.turnE h1 h2 (Ext.refl _ _) (EpS.say_len _ _ _), HFD.out.trans0 (h2.mono K.epochs_ofW), Ext.refl _ _, hsd.mono h2.size⟩

theorem enters125 : Enters Try.prog 125 := enters_of Try.func125 (by kernel_rfl) rfl
set_option maxRecDepth 100000 in
theorem touch_said {tb : Nat} {kb : Nat} {k : Int} (htb : BoxAt κ w tb (taskCs pth p me) 85) (hkb : BoxAt κ w kb #[.int .i64 k] 3) : Touch κ w wi p j σ 125 #[.pointer (some ⟨tb, 0, none⟩), .pointer (some ⟨kb, 0, none⟩)] (fun x => .int .i64 x.1) (tSaid k) := by
  intro w1 hf hw hs
  have gtb := (hf.block tb (lt_of_heap htb.hb) (by rw [htb.kb]; rfl)).trans htb.hb
  have atb0 : w1.cell? ⟨tb, 0, none⟩ = some (.pointer (some ⟨pth, 0, none⟩)) := by rw [cell_of_heap gtb]; rfl
  have atb1 : w1.cell? ⟨tb, 1, none⟩ = some (.pointer (some ⟨p.pw, 0, none⟩)) := by rw [cell_of_heap gtb]; rfl
  have atb2 : w1.cell? ⟨tb, 2, none⟩ = some (.int .i64 me) := by rw [cell_of_heap gtb]; rfl
  have gkb := (hf.block kb (lt_of_heap hkb.hb) (by rw [hkb.kb]; rfl)).trans hkb.hb
  have akb0 : w1.cell? ⟨kb, 0, none⟩ = some (.int .i64 k) := by rw [cell_of_heap gkb]; rfl
  have q0 : w1.cell? ⟨p.pw, 0, none⟩ = some (.pointer (some ⟨p.pa, 0, none⟩)) := by rw [cell_of_heap hw.hpw]; rfl
  have q1 : w1.cell? ⟨p.pw, 1, none⟩ = some (.pointer (some ⟨p.pt, 0, none⟩)) := by rw [cell_of_heap hw.hpw]; rfl
  have q2 : w1.cell? ⟨p.pw, 2, none⟩ = some (.pointer (some ⟨p.pe, 0, none⟩)) := by rw [cell_of_heap hw.hpw]; rfl
  have hwd : WdRep κ w1.drew wi p σ := hw.below (Below.refl _ _).drew (Ext.refl _ _)
  have hsd : Sup κ w1.drew := hs
  have hfd : Fr κ (K.ofW wi) w1 w1.drew := Fr.drew
  clear hf hw hs gtb gkb htb hkb
  go_enter Try.func125, Try.ntmps125
  go_wp2
  replace atb0 : w1.drew.cell? _ = _ := atb0
  replace atb1 : w1.drew.cell? _ = _ := atb1
  replace atb2 : w1.drew.cell? _ = _ := atb2
  replace akb0 : w1.drew.cell? _ = _ := akb0
  replace q0 : w1.drew.cell? _ = _ := q0
  replace q1 : w1.drew.cell? _ = _ := q1
  replace q2 : w1.drew.cell? _ = _ := q2
  refine wp_tail_at 6 (by kernel_rfl) (by kernel_rfl) w1.drew rfl ?_
  generalize w1.drew = w2 at atb0 atb1 atb2 akb0 q0 q1 q2 hwd hsd hfd ⊢
  simp only [List.take_succ_cons, List.take_zero, List.drop_succ_cons, List.drop_zero]
  have HWD := Lib.hid hwd
  have HFD := Lib.hid hfd
  clear hwd hfd
  repeat still_step
  refine wpStill_nil ?_
  go_wp2_with fail
  refine (said_ok HWD.out.ep k).mono ?_
  rintro e w3 ⟨rfl, rfl⟩
  go_wp2
  go_ret
  exact ⟨κ, rfl, HWD.out, HFD.out, Ext.refl _ _, hsd⟩

theorem enters127 : Enters Try.prog 127 := enters_of Try.func127 (by kernel_rfl) rfl
set_option maxRecDepth 100000 in
theorem touch_swap {tb : Nat} {nb : Nat} {n : Int} (htb : BoxAt κ w tb (taskCs pth p me) 85) (hnb : BoxAt κ w nb #[.int .i64 n] 2) : TouchB κ w wi p j σ 127 #[.pointer (some ⟨tb, 0, none⟩), .pointer (some ⟨nb, 0, none⟩)] (tSwap n) := by
  intro w1 hf hw hs
  have gtb := (hf.block tb (lt_of_heap htb.hb) (by rw [htb.kb]; rfl)).trans htb.hb
  have atb0 : w1.cell? ⟨tb, 0, none⟩ = some (.pointer (some ⟨pth, 0, none⟩)) := by rw [cell_of_heap gtb]; rfl
  have atb1 : w1.cell? ⟨tb, 1, none⟩ = some (.pointer (some ⟨p.pw, 0, none⟩)) := by rw [cell_of_heap gtb]; rfl
  have atb2 : w1.cell? ⟨tb, 2, none⟩ = some (.int .i64 me) := by rw [cell_of_heap gtb]; rfl
  have gnb := (hf.block nb (lt_of_heap hnb.hb) (by rw [hnb.kb]; rfl)).trans hnb.hb
  have anb0 : w1.cell? ⟨nb, 0, none⟩ = some (.int .i64 n) := by rw [cell_of_heap gnb]; rfl
  have q0 : w1.cell? ⟨p.pw, 0, none⟩ = some (.pointer (some ⟨p.pa, 0, none⟩)) := by rw [cell_of_heap hw.hpw]; rfl
  have q1 : w1.cell? ⟨p.pw, 1, none⟩ = some (.pointer (some ⟨p.pt, 0, none⟩)) := by rw [cell_of_heap hw.hpw]; rfl
  have q2 : w1.cell? ⟨p.pw, 2, none⟩ = some (.pointer (some ⟨p.pe, 0, none⟩)) := by rw [cell_of_heap hw.hpw]; rfl
  have hwd : WdRep κ w1.drew wi p σ := hw.below (Below.refl _ _).drew (Ext.refl _ _)
  have hsd : Sup κ w1.drew := hs
  have hfd : Fr κ (K.ofW wi) w1 w1.drew := Fr.drew
  clear hf hw hs gtb gnb htb hnb
  go_enter Try.func127, Try.ntmps127
  go_wp2
  replace atb0 : w1.drew.cell? _ = _ := atb0
  replace atb1 : w1.drew.cell? _ = _ := atb1
  replace atb2 : w1.drew.cell? _ = _ := atb2
  replace anb0 : w1.drew.cell? _ = _ := anb0
  replace q0 : w1.drew.cell? _ = _ := q0
  replace q1 : w1.drew.cell? _ = _ := q1
  replace q2 : w1.drew.cell? _ = _ := q2
  refine wp_tail_at 6 (by kernel_rfl) (by kernel_rfl) w1.drew rfl ?_
  generalize w1.drew = w2 at atb0 atb1 atb2 anb0 q0 q1 q2 hwd hsd hfd ⊢
  simp only [List.take_succ_cons, List.take_zero, List.drop_succ_cons, List.drop_zero]
  have HWD := Lib.hid hwd
  have HFD := Lib.hid hfd
  clear hwd hfd
  repeat still_step
  refine wpStill_nil ?_
  go_wp2_with fail
  refine (swap_ok HWD.out.ep n).mono ?_
  rintro e w3 ⟨rfl, h1, h2⟩
  go_wp2
  go_ret
  exact ⟨κ, rfl, HWD.out.turnE h1 h2 (Ext.refl _ _) (EpS.swap_len _ _), HFD.out.trans0 (h2.mono K.epochs_ofW), Ext.refl _ _, hsd.mono h2.size⟩

theorem enters131 : Enters Try.prog 131 := enters_of Try.func131 (by kernel_rfl) rfl
set_option maxRecDepth 100000 in
theorem touch_sayEnd {tb : Nat}  (htb : BoxAt κ w tb (taskCs pth p me) 85) : Touch κ w wi p j σ 131 #[.pointer (some ⟨tb, 0, none⟩)] (fun x => .int .i64 x.1) (tSay me (-1)) := by
  intro w1 hf hw hs
  have gtb := (hf.block tb (lt_of_heap htb.hb) (by rw [htb.kb]; rfl)).trans htb.hb
  have atb0 : w1.cell? ⟨tb, 0, none⟩ = some (.pointer (some ⟨pth, 0, none⟩)) := by rw [cell_of_heap gtb]; rfl
  have atb1 : w1.cell? ⟨tb, 1, none⟩ = some (.pointer (some ⟨p.pw, 0, none⟩)) := by rw [cell_of_heap gtb]; rfl
  have atb2 : w1.cell? ⟨tb, 2, none⟩ = some (.int .i64 me) := by rw [cell_of_heap gtb]; rfl
  have q0 : w1.cell? ⟨p.pw, 0, none⟩ = some (.pointer (some ⟨p.pa, 0, none⟩)) := by rw [cell_of_heap hw.hpw]; rfl
  have q1 : w1.cell? ⟨p.pw, 1, none⟩ = some (.pointer (some ⟨p.pt, 0, none⟩)) := by rw [cell_of_heap hw.hpw]; rfl
  have q2 : w1.cell? ⟨p.pw, 2, none⟩ = some (.pointer (some ⟨p.pe, 0, none⟩)) := by rw [cell_of_heap hw.hpw]; rfl
  have hwd : WdRep κ w1.drew wi p σ := hw.below (Below.refl _ _).drew (Ext.refl _ _)
  have hsd : Sup κ w1.drew := hs
  have hfd : Fr κ (K.ofW wi) w1 w1.drew := Fr.drew
  clear hf hw hs gtb htb
  go_enter Try.func131, Try.ntmps131
  go_wp2
  replace atb0 : w1.drew.cell? _ = _ := atb0
  replace atb1 : w1.drew.cell? _ = _ := atb1
  replace atb2 : w1.drew.cell? _ = _ := atb2
  replace q0 : w1.drew.cell? _ = _ := q0
  replace q1 : w1.drew.cell? _ = _ := q1
  replace q2 : w1.drew.cell? _ = _ := q2
  refine wp_tail_at 7 (by kernel_rfl) (by kernel_rfl) w1.drew rfl ?_
  generalize w1.drew = w2 at atb0 atb1 atb2 q0 q1 q2 hwd hsd hfd ⊢
  simp only [List.take_succ_cons, List.take_zero, List.drop_succ_cons, List.drop_zero]
  have HWD := Lib.hid hwd
  have HFD := Lib.hid hfd
  clear hwd hfd
  repeat still_step
  refine wpStill_nil ?_
  go_wp2_with fail
  refine (say_ok HWD.out.ep me (-1)).mono ?_
  rintro e w3 ⟨rfl, h1, h2⟩
  go_wp2
  go_ret
  exact ⟨κ, rfl, HWD.out.turnE h1 h2 (Ext.refl _ _) (EpS.say_len _ _ _), HFD.out.trans0 (h2.mono K.epochs_ofW), Ext.refl _ _, hsd.mono h2.size⟩

theorem enters171 : Enters Try.prog 171 := enters_of Try.func171 (by kernel_rfl) rfl
set_option maxRecDepth 100000 in
theorem touch_info2 {tb : Nat} {xb : Nat} {x : Int} (htb : BoxAt κ w tb (taskCs pth p me) 85) (hxb : BoxAt κ w xb #[.int .i64 x] 41) : Touch κ w wi p j σ 171 #[.pointer (some ⟨tb, 0, none⟩), .pointer (some ⟨xb, 0, none⟩)] (fun x => .int .i64 x.1) (tInfo x) := by
  intro w1 hf hw hs
  have gtb := (hf.block tb (lt_of_heap htb.hb) (by rw [htb.kb]; rfl)).trans htb.hb
  have atb0 : w1.cell? ⟨tb, 0, none⟩ = some (.pointer (some ⟨pth, 0, none⟩)) := by rw [cell_of_heap gtb]; rfl
  have atb1 : w1.cell? ⟨tb, 1, none⟩ = some (.pointer (some ⟨p.pw, 0, none⟩)) := by rw [cell_of_heap gtb]; rfl
  have atb2 : w1.cell? ⟨tb, 2, none⟩ = some (.int .i64 me) := by rw [cell_of_heap gtb]; rfl
  have gxb := (hf.block xb (lt_of_heap hxb.hb) (by rw [hxb.kb]; rfl)).trans hxb.hb
  have axb0 : w1.cell? ⟨xb, 0, none⟩ = some (.int .i64 x) := by rw [cell_of_heap gxb]; rfl
  have q0 : w1.cell? ⟨p.pw, 0, none⟩ = some (.pointer (some ⟨p.pa, 0, none⟩)) := by rw [cell_of_heap hw.hpw]; rfl
  have q1 : w1.cell? ⟨p.pw, 1, none⟩ = some (.pointer (some ⟨p.pt, 0, none⟩)) := by rw [cell_of_heap hw.hpw]; rfl
  have q2 : w1.cell? ⟨p.pw, 2, none⟩ = some (.pointer (some ⟨p.pe, 0, none⟩)) := by rw [cell_of_heap hw.hpw]; rfl
  have hwd : WdRep κ w1.drew wi p σ := hw.below (Below.refl _ _).drew (Ext.refl _ _)
  have hsd : Sup κ w1.drew := hs
  have hfd : Fr κ (K.ofW wi) w1 w1.drew := Fr.drew
  clear hf hw hs gtb gxb htb hxb
  go_enter Try.func171, Try.ntmps171
  go_wp2
  replace atb0 : w1.drew.cell? _ = _ := atb0
  replace atb1 : w1.drew.cell? _ = _ := atb1
  replace atb2 : w1.drew.cell? _ = _ := atb2
  replace axb0 : w1.drew.cell? _ = _ := axb0
  replace q0 : w1.drew.cell? _ = _ := q0
  replace q1 : w1.drew.cell? _ = _ := q1
  replace q2 : w1.drew.cell? _ = _ := q2
  refine wp_tail_at 6 (by kernel_rfl) (by kernel_rfl) w1.drew rfl ?_
  generalize w1.drew = w2 at atb0 atb1 atb2 axb0 q0 q1 q2 hwd hsd hfd ⊢
  simp only [List.take_succ_cons, List.take_zero, List.drop_succ_cons, List.drop_zero]
  have HWD := Lib.hid hwd
  have HFD := Lib.hid hfd
  clear hwd hfd
  repeat still_step
  refine wpStill_nil ?_
  go_wp2_with fail
  refine (info_ok HWD.out.ar x).mono ?_
  rintro e w3 ⟨rfl, h1, h2⟩
  go_wp2
  go_ret
  exact ⟨κ, rfl, HWD.out.turnA h1 h2 (Ext.refl _ _), HFD.out.trans0 (h2.mono K.arena_ofW), Ext.refl _ _, hsd.mono h2.size⟩

theorem enters175 : Enters Try.prog 175 := enters_of Try.func175 (by kernel_rfl) rfl
set_option maxRecDepth 100000 in
theorem touch_mark {tb : Nat} {xb : Nat} {x : Int} (htb : BoxAt κ w tb (taskCs pth p me) 85) (hxb : BoxAt κ w xb #[.int .i64 x] 41) : TouchB κ w wi p j σ 175 #[.pointer (some ⟨tb, 0, none⟩), .pointer (some ⟨xb, 0, none⟩)] (tMark x) := by
  intro w1 hf hw hs
  have gtb := (hf.block tb (lt_of_heap htb.hb) (by rw [htb.kb]; rfl)).trans htb.hb
  have atb0 : w1.cell? ⟨tb, 0, none⟩ = some (.pointer (some ⟨pth, 0, none⟩)) := by rw [cell_of_heap gtb]; rfl
  have atb1 : w1.cell? ⟨tb, 1, none⟩ = some (.pointer (some ⟨p.pw, 0, none⟩)) := by rw [cell_of_heap gtb]; rfl
  have atb2 : w1.cell? ⟨tb, 2, none⟩ = some (.int .i64 me) := by rw [cell_of_heap gtb]; rfl
  have gxb := (hf.block xb (lt_of_heap hxb.hb) (by rw [hxb.kb]; rfl)).trans hxb.hb
  have axb0 : w1.cell? ⟨xb, 0, none⟩ = some (.int .i64 x) := by rw [cell_of_heap gxb]; rfl
  have q0 : w1.cell? ⟨p.pw, 0, none⟩ = some (.pointer (some ⟨p.pa, 0, none⟩)) := by rw [cell_of_heap hw.hpw]; rfl
  have q1 : w1.cell? ⟨p.pw, 1, none⟩ = some (.pointer (some ⟨p.pt, 0, none⟩)) := by rw [cell_of_heap hw.hpw]; rfl
  have q2 : w1.cell? ⟨p.pw, 2, none⟩ = some (.pointer (some ⟨p.pe, 0, none⟩)) := by rw [cell_of_heap hw.hpw]; rfl
  have hwd : WdRep κ w1.drew wi p σ := hw.below (Below.refl _ _).drew (Ext.refl _ _)
  have hsd : Sup κ w1.drew := hs
  have hfd : Fr κ (K.ofW wi) w1 w1.drew := Fr.drew
  clear hf hw hs gtb gxb htb hxb
  go_enter Try.func175, Try.ntmps175
  go_wp2
  replace atb0 : w1.drew.cell? _ = _ := atb0
  replace atb1 : w1.drew.cell? _ = _ := atb1
  replace atb2 : w1.drew.cell? _ = _ := atb2
  replace axb0 : w1.drew.cell? _ = _ := axb0
  replace q0 : w1.drew.cell? _ = _ := q0
  replace q1 : w1.drew.cell? _ = _ := q1
  replace q2 : w1.drew.cell? _ = _ := q2
  refine wp_tail_at 6 (by kernel_rfl) (by kernel_rfl) w1.drew rfl ?_
  generalize w1.drew = w2 at atb0 atb1 atb2 axb0 q0 q1 q2 hwd hsd hfd ⊢
  simp only [List.take_succ_cons, List.take_zero, List.drop_succ_cons, List.drop_zero]
  have HWD := Lib.hid hwd
  have HFD := Lib.hid hfd
  clear hwd hfd
  repeat still_step
  refine wpStill_nil ?_
  go_wp2_with fail
  refine (mark_ok HWD.out.ar x).mono ?_
  rintro e w3 ⟨rfl, h1, h2⟩
  go_wp2
  go_ret
  exact ⟨κ, rfl, HWD.out.turnA h1 h2 (Ext.refl _ _), HFD.out.trans0 (h2.mono K.arena_ofW), Ext.refl _ _, hsd.mono h2.size⟩

theorem enters170 : Enters Try.prog 170 := enters_of Try.func170 (by kernel_rfl) rfl
set_option maxRecDepth 100000 in
theorem touch_way {tb : Nat} {xb : Nat} {ib : Nat} {x i : Int} (htb : BoxAt κ w tb (taskCs pth p me) 85) (hxb : BoxAt κ w xb #[.int .i64 x] 41) (hib : BoxAt κ w ib #[.int .i64 i] 3) : Touch κ w wi p j σ 170 #[.pointer (some ⟨tb, 0, none⟩), .pointer (some ⟨xb, 0, none⟩), .pointer (some ⟨ib, 0, none⟩)] (fun x => .int .i64 x.1) (tWay x i) := by
  intro w1 hf hw hs
  have gtb := (hf.block tb (lt_of_heap htb.hb) (by rw [htb.kb]; rfl)).trans htb.hb
  have atb0 : w1.cell? ⟨tb, 0, none⟩ = some (.pointer (some ⟨pth, 0, none⟩)) := by rw [cell_of_heap gtb]; rfl
  have atb1 : w1.cell? ⟨tb, 1, none⟩ = some (.pointer (some ⟨p.pw, 0, none⟩)) := by rw [cell_of_heap gtb]; rfl
  have atb2 : w1.cell? ⟨tb, 2, none⟩ = some (.int .i64 me) := by rw [cell_of_heap gtb]; rfl
  have gxb := (hf.block xb (lt_of_heap hxb.hb) (by rw [hxb.kb]; rfl)).trans hxb.hb
  have axb0 : w1.cell? ⟨xb, 0, none⟩ = some (.int .i64 x) := by rw [cell_of_heap gxb]; rfl
  have gib := (hf.block ib (lt_of_heap hib.hb) (by rw [hib.kb]; rfl)).trans hib.hb
  have aib0 : w1.cell? ⟨ib, 0, none⟩ = some (.int .i64 i) := by rw [cell_of_heap gib]; rfl
  have q0 : w1.cell? ⟨p.pw, 0, none⟩ = some (.pointer (some ⟨p.pa, 0, none⟩)) := by rw [cell_of_heap hw.hpw]; rfl
  have q1 : w1.cell? ⟨p.pw, 1, none⟩ = some (.pointer (some ⟨p.pt, 0, none⟩)) := by rw [cell_of_heap hw.hpw]; rfl
  have q2 : w1.cell? ⟨p.pw, 2, none⟩ = some (.pointer (some ⟨p.pe, 0, none⟩)) := by rw [cell_of_heap hw.hpw]; rfl
  have hwd : WdRep κ w1.drew wi p σ := hw.below (Below.refl _ _).drew (Ext.refl _ _)
  have hsd : Sup κ w1.drew := hs
  have hfd : Fr κ (K.ofW wi) w1 w1.drew := Fr.drew
  clear hf hw hs gtb gxb gib htb hxb hib
  go_enter Try.func170, Try.ntmps170
  go_wp2
  replace atb0 : w1.drew.cell? _ = _ := atb0
  replace atb1 : w1.drew.cell? _ = _ := atb1
  replace atb2 : w1.drew.cell? _ = _ := atb2
  replace axb0 : w1.drew.cell? _ = _ := axb0
  replace aib0 : w1.drew.cell? _ = _ := aib0
  replace q0 : w1.drew.cell? _ = _ := q0
  replace q1 : w1.drew.cell? _ = _ := q1
  replace q2 : w1.drew.cell? _ = _ := q2
  refine wp_tail_at 7 (by kernel_rfl) (by kernel_rfl) w1.drew rfl ?_
  generalize w1.drew = w2 at atb0 atb1 atb2 axb0 aib0 q0 q1 q2 hwd hsd hfd ⊢
  simp only [List.take_succ_cons, List.take_zero, List.drop_succ_cons, List.drop_zero]
  have HWD := Lib.hid hwd
  have HFD := Lib.hid hfd
  clear hwd hfd
  repeat still_step
  refine wpStill_nil ?_
  go_wp2_with fail
  refine (way_ok HWD.out.ar x i).mono ?_
  rintro e w3 ⟨rfl, h1, h2⟩
  go_wp2
  go_ret
  exact ⟨κ, rfl, HWD.out.turnA h1 h2 (Ext.refl _ _), HFD.out.trans0 (h2.mono K.arena_ofW), Ext.refl _ _, hsd.mono h2.size⟩

theorem enters161 : Enters Try.prog 161 := enters_of Try.func161 (by kernel_rfl) rfl
set_option maxRecDepth 100000 in
theorem touch_swapInfo {tb : Nat} {xb : Nat} {rb : Nat} {ib : Nat} {nb : Nat} {x n old : Int} {i : Nat} {r : RecS} {vn vi : Value} (hri : Row κ .imm w 1 vi r.infos.length (intVs r.infos)) (hio : r.infos[i]? = some old) (htb : BoxAt κ w tb (taskCs pth p me) 85) (hxb : BoxAt κ w xb #[.int .i64 x] 41) (hrb : BoxAt κ w rb #[vn, vi, .int .i64 r.keep, .int .i64 r.way, .int .i64 r.old, .int .i64 r.new] 93) (hib : BoxAt κ w ib #[.int .i64 (i : Nat)] 3) (hnb : BoxAt κ w nb #[.int .i64 n] 2) : TouchB κ w wi p j σ 161 #[.pointer (some ⟨tb, 0, none⟩), .pointer (some ⟨xb, 0, none⟩), .pointer (some ⟨rb, 0, none⟩), .pointer (some ⟨ib, 0, none⟩), .pointer (some ⟨nb, 0, none⟩)] (tSwapInfo x old n) := by
  intro w1 hf hw hs
  have gtb := (hf.block tb (lt_of_heap htb.hb) (by rw [htb.kb]; rfl)).trans htb.hb
  have atb0 : w1.cell? ⟨tb, 0, none⟩ = some (.pointer (some ⟨pth, 0, none⟩)) := by rw [cell_of_heap gtb]; rfl
  have atb1 : w1.cell? ⟨tb, 1, none⟩ = some (.pointer (some ⟨p.pw, 0, none⟩)) := by rw [cell_of_heap gtb]; rfl
  have atb2 : w1.cell? ⟨tb, 2, none⟩ = some (.int .i64 me) := by rw [cell_of_heap gtb]; rfl
  have gxb := (hf.block xb (lt_of_heap hxb.hb) (by rw [hxb.kb]; rfl)).trans hxb.hb
  have axb0 : w1.cell? ⟨xb, 0, none⟩ = some (.int .i64 x) := by rw [cell_of_heap gxb]; rfl
  have grb := (hf.block rb (lt_of_heap hrb.hb) (by rw [hrb.kb]; rfl)).trans hrb.hb
  have arb0 : w1.cell? ⟨rb, 0, none⟩ = some (vn) := by rw [cell_of_heap grb]; rfl
  have arb1 : w1.cell? ⟨rb, 1, none⟩ = some (vi) := by rw [cell_of_heap grb]; rfl
  have gib := (hf.block ib (lt_of_heap hib.hb) (by rw [hib.kb]; rfl)).trans hib.hb
  have aib0 : w1.cell? ⟨ib, 0, none⟩ = some (.int .i64 (i : Nat)) := by rw [cell_of_heap gib]; rfl
  have gnb := (hf.block nb (lt_of_heap hnb.hb) (by rw [hnb.kb]; rfl)).trans hnb.hb
  have anb0 : w1.cell? ⟨nb, 0, none⟩ = some (.int .i64 n) := by rw [cell_of_heap gnb]; rfl
  have q0 : w1.cell? ⟨p.pw, 0, none⟩ = some (.pointer (some ⟨p.pa, 0, none⟩)) := by rw [cell_of_heap hw.hpw]; rfl
  have q1 : w1.cell? ⟨p.pw, 1, none⟩ = some (.pointer (some ⟨p.pt, 0, none⟩)) := by rw [cell_of_heap hw.hpw]; rfl
  have q2 : w1.cell? ⟨p.pw, 2, none⟩ = some (.pointer (some ⟨p.pe, 0, none⟩)) := by rw [cell_of_heap hw.hpw]; rfl
  obtain ⟨ai, ci, rfl, hlei, _⟩ := hri.shape
  obtain ⟨g, o, cap', hv', hle, hgl, hgk, hgc, hgz⟩ := hri.at (by have := (List.getElem?_eq_some_iff.1 hio).1; omega) (by decide)
  simp only [Value.slice.injEq] at hv'
  obtain ⟨rfl, _, rfl⟩ := hv'
  have hcn : w1.cell? ⟨g, o + i, none⟩ = some (.int .i64 old) := (World.cell?_of_block (hf.block g hgl (by rw [hgk]; rfl))).trans (hgc i _ (by rw [intVs_get, hio]; rfl))
  have hil : i < r.infos.length := (List.getElem?_eq_some_iff.1 hio).1
  clear hgc hgz hgk hle hri
  have hwd : WdRep κ w1.drew wi p σ := hw.below (Below.refl _ _).drew (Ext.refl _ _)
  have hsd : Sup κ w1.drew := hs
  have hfd : Fr κ (K.ofW wi) w1 w1.drew := Fr.drew
  clear hf hw hs gtb gxb grb gib gnb htb hxb hrb hib hnb
  go_enter Try.func161, Try.ntmps161
  go_wp2
  replace atb0 : w1.drew.cell? _ = _ := atb0
  replace atb1 : w1.drew.cell? _ = _ := atb1
  replace atb2 : w1.drew.cell? _ = _ := atb2
  replace axb0 : w1.drew.cell? _ = _ := axb0
  replace arb0 : w1.drew.cell? _ = _ := arb0
  replace arb1 : w1.drew.cell? _ = _ := arb1
  replace aib0 : w1.drew.cell? _ = _ := aib0
  replace anb0 : w1.drew.cell? _ = _ := anb0
  replace q0 : w1.drew.cell? _ = _ := q0
  replace q1 : w1.drew.cell? _ = _ := q1
  replace q2 : w1.drew.cell? _ = _ := q2
  replace hcn : w1.drew.cell? _ = _ := hcn
  refine wp_tail_at 12 (by kernel_rfl) (by kernel_rfl) w1.drew rfl ?_
  generalize w1.drew = w2 at atb0 atb1 atb2 axb0 arb0 arb1 aib0 anb0 q0 q1 q2 hcn hwd hsd hfd ⊢
  simp only [List.take_succ_cons, List.take_zero, List.drop_succ_cons, List.drop_zero]
  have HWD := Lib.hid hwd
  have HFD := Lib.hid hfd
  clear hwd hfd
  repeat still_step
  refine wpStill_nil ?_
  go_wp2_with fail
  refine (swapInfo_ok HWD.out.ar x old n).mono ?_
  rintro e w3 ⟨rfl, h1, h2⟩
  go_wp2
  go_ret
  exact ⟨κ, rfl, HWD.out.turnA h1 h2 (Ext.refl _ _), HFD.out.trans0 (h2.mono K.arena_ofW), Ext.refl _ _, hsd.mono h2.size⟩
end
end Go.Proofs.Ytacmeafpieoaaaa
