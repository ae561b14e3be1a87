/- Operations that begin (and end); boscagelaw08.Awake is true. -/
import Derived.Test.YtacmeafpieoaaaaBg
namespace Go.Proofs.Ytacmeafpieoaaaa
open Go.RowKit

def begOnly (me : Int) (n : Nat) : Pr (List Int) := (beginP me n).bind fun _ => .ret []
def begEnd (me : Int) (n : Nat) : Pr (List Int) := (beginP me n).bind fun _ => ((Pr.one (tSay me (-1))).bind fun _ => .ret ()).bind fun _ => .ret []

theorem Keeps.ofE {V : ShS → Int → Prop} {σ : ShS} {E' : EpS} (hV : ∀ n, V σ n → V { σ with E := E' } n) : Keeps V σ { σ with E := E' } := ⟨fun n hn => ⟨hV n hn, rfl⟩, fun _ hr => ⟨hr, rfl⟩⟩
theorem tame_now : Tamed tNow := fun σ => .refl _ _
theorem tame_none : Tamed tNone := fun σ => .refl _ _
theorem tame_said (k : Int) : Tamed (tSaid k) := fun σ => .refl _ _
theorem tame_say (t n : Int) : Tamed (tSay t n) := fun σ => .ofE fun _ h => h
theorem tame_asked_swap (old : Int) : Tamed (asked (tSwap old)) := fun σ => .ofE fun _ h => h
theorem Tame.oneOf {f : ShS → Int × ShS} (h : Tamed f) : Tame (Pr.one f) := .touch h fun _ => .ret _
theorem tame_zeroLoop : ∀ m, Tame (zeroLoop m)
  | 0 => .ret _
  | m + 1 => (Tame.oneOf tame_none).bind fun n => by
    split
    · exact .ret _
    · exact tame_zeroLoop m
theorem tame_begLoop (now : Int) : ∀ m k, Tame (begLoop now k m)
  | 0, _ => .ret _
  | m + 1, k => (Tame.oneOf (tame_said k)).bind fun n => by
    split
    · exact .ret _
    · exact tame_begLoop now m (k + 1)
theorem tame_begin3 (now : Int) (all : Bool) : Tame (begin3 now all) := by
  refine Tame.bind ?_ fun _ => (Tame.oneOf tame_now).bind fun _ => tame_zeroLoop _
  split
  · exact Tame.bind (.touch (tame_asked_swap now) fun _ => .ret _) fun _ => .ret _
  · exact .ret _
theorem tame_beginP (me : Int) (n : Nat) : Tame (beginP me n) :=
  (Tame.oneOf tame_now).bind fun now => (Tame.oneOf (tame_say me now)).bind fun _ => (tame_begLoop now n 0).bind fun all => tame_begin3 now all
theorem tame_begOnly (me : Int) (n : Nat) : Tame (begOnly me n) := (tame_beginP me n).bind fun _ => .ret _
theorem tame_begEnd (me : Int) (n : Nat) : Tame (begEnd me n) := (tame_beginP me n).bind fun _ => ((Tame.oneOf (tame_say me (-1))).bind fun _ => .ret _).bind fun _ => .ret _

theorem enters119 : Enters Try.prog 119 := enters_of Try.func119 (by kernel_rfl) rfl
theorem enters60 : Enters Try.prog 60 := enters_of Try.func60 (by kernel_rfl) rfl

section
variable {κ κ' : Nat → K} {w w' : World} {wi j pth : Nat} {p : WdP} {σ : ShS} {T : TS} {me : Int} {work : Value}

set_option maxRecDepth 100000 in
theorem begOnly_task (j pth : Nat) : TaskOk κ w wi p j pth me 119 #[] (begOnly me p.threads) := by
  intro κ1 w1 work T σ hf he hst
  have hS := hst.sup
  have HST := Lib.hid hst
  clear hst hf he
  generalize hwhole : (begOnly me p.threads).exec T σ = whole
  go_enter Try.func119, Try.ntmps119
  go_wp2_with fail
  generalize hw0 : w1.alloc (.cells #[.pointer (some ⟨pth, 0, none⟩), .pointer (some ⟨p.pw, 0, none⟩), .int .i64 me] 85) = w0
  have hB0 : Below w1.heap.size w1 w0 := hw0 ▸ (Below.refl _ _).alloc (Nat.le_refl _) _
  have HB := Lib.hid hB0
  clear hw0
  refine (begin_ok (me := me) (HST.out.below hB0)).mono ?_
  clear hB0
  rintro e w5 hh
  rcases hh.elim with ⟨T2, σ2, κ2, hr2, rfl, hst2, hf2, he2⟩ | ⟨u, T2, σ2, κ2, v, hr2, rfl, hv, hst2, hf2, he2⟩
  · refine ⟨rfl, ?_⟩
    rw [← hwhole, begOnly, Pr.exec_bind, hr2]
    exact ⟨κ2, rfl, hst2, (Fr.below HB.out).trans0 hf2, (Ext.refl _ _).trans he2 HB.out.size⟩
  · replace hv : v = .tuple #[] := hv
    subst hv
    have HWH := Lib.hid (show whole = .out [] T2 σ2 by rw [← hwhole, begOnly, Pr.exec_bind, hr2]; rfl)
    have HF := Lib.hid ((Fr.below (S := K.step wi j) HB.out).trans0 hf2)
    have HE := Lib.hid ((Ext.refl κ1 w1).trans he2 HB.out.size)
    have HST2 := Lib.hid hst2
    clear hh hr2 hst2 hf2 he2 hwhole
    go_wp2
    go_ret
    rw [HWH.out]
    exact ⟨κ2, _, rfl, Row.nil _ _ _ _, HST2.out, HF.out, HE.out⟩

def ShW : ShS := Sh0 1 9 9
theorem goW : (begOnly 0 1).go ShW = (6, [], ((begOnly 0 1).go ShW).2.2) := by
  have h1 : ((begOnly 0 1).go ShW).1 = 6 := by kernel_rfl
  have h2 : ((begOnly 0 1).go ShW).2.1 = [] := by kernel_rfl
  exact Prod.ext h1 (Prod.ext h2 rfl)
def ShW' : ShS := ((begOnly 0 1).go ShW).2.2
theorem goW' : ShW'.E.told 0 = 0 ∧ ShW'.E.now = 1 := ⟨by kernel_rfl, by kernel_rfl⟩

set_option maxRecDepth 100000 in
theorem awake08_ok (w : World) : Calls Try.prog 56 #[] w fun e w' => e = .returned (.bool true) ∧ Below w.heap.size w w' := by
  go_enter Try.func56, Try.ntmps56
  go_wp2_with fail
  refine (newWorld_ok 0 (supNo w) 2 3 1 9 9 (by decide) (by decide) (by decide) (by decide) (by decide) (by decide) (by decide) (by decide) (by decide) (by decide)).mono ?_
  rintro e w1 ⟨κ1, p, rfl, _, _, hpe, hpt, hW1, hF1, hE1, hS1⟩
  have HL1 := Lib.hid (Lw.new hW1 hF1 hE1 hS1)
  have HPT := Lib.hid hpt
  clear hW1 hF1 hE1 hS1 hpe hpt
  go_wp2_with fail
  refine (start_ok (wi := 0) HL1.out.sup 0 p 0 119 #[] (begOnly 0 p.threads) enters119 (fun pth => begOnly_task 0 pth)).mono ?_
  rintro e w3 ⟨κ3, pth, caps1, rfl, hth, hwk, hB3, hE3, hS3⟩
  rw [HPT.out] at hwk
  have HL3 := Lib.hid (HL1.out.later hB3 hE3 hS3)
  have HTH := Lib.hid hth
  have HWK := Lib.hid hwk
  clear hth hwk hB3 hE3 hS3 HL1
  go_wp2_with fail
  obtain ⟨log', _, hends⟩ := ((tame_begOnly 0 1).runs ShW).ends (by rw [goW]; decide)
  rw [goW] at hends
  refine (alone_ok HTH.out HL3.out.wd HL3.out.sup enters121 HWK.out (N := 6) (by decide) hends (l := []) rfl (by decide)).mono ?_
  rintro e w4 ⟨κ4, a, c, rfl, hrow, hwd, hth4, hF4, hE4, hS4⟩
  have HL4 := Lib.hid (show Lw w κ4 0 p ShW' w4 from HL3.out.turn hwd (hF4.mono K.step_run) hE4 hS4)
  have c2 : w4.cell? ⟨p.pw, 2, none⟩ = some (.pointer (some ⟨p.pe, 0, none⟩)) := cellAt HL4.out.wd.hpw 2 rfl
  have hs := goW'.1
  have hn := goW'.2
  clear hends hrow hwd hth4 hF4 hE4 hS4 HTH HWK HL3
  go_wp2_with (first | (refine (said_ok HL4.out.wd.ep _).mono ?_; rintro e w' ⟨rfl, hw'⟩; replace hw' := hw'.symm; subst hw') | (refine (now_ok HL4.out.wd.ep).mono ?_; rintro e w' ⟨rfl, hw'⟩; replace hw' := hw'.symm; subst hw'))
  go_ret
  exact ⟨rfl, HL4.out.below0⟩
end
end Go.Proofs.Ytacmeafpieoaaaa
