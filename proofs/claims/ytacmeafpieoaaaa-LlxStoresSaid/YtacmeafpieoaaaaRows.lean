/-
  No cell of these rows narrows 'for every input' (looked for: loops, veiled, ifaces, maps, wideKeys, modest, calm, conditions, laid).
  DERIVED. THE GIVEN ROWS OF THIS SEAT. 20 by the template 'for every input the law returns true; each argument reads behind the call as it read before'; 0 by the template 'total and deterministic' (their statements: YtacmeafpieoaaaaTotals.lean).
  GIVEN WITH THE SEED: the statements are not yours to turn. If you find one false, say at which input.
  Laid BY PROGRAM, IN A SANDBOX (cutbox-rows.mjs): the forced cells as the released guide's own fill.sh prints them over the translation 0dea8a4110baabb0… (all of the seat's roots in one cut). By AI agents, Wed Nov 11 2026. No macro, syntax, notation, axiom, sorry.
-/
import Derived.Test.YtacmeafpieoaaaaChecked
import GoSem.Claim
import GoSem.ClaimJoined
import GoSem.ClaimMapViews
import Derived.JoinedTies
import Derived.KernelRfl
namespace Go.Proofs.Ytacmeafpieoaaaa
/- THE CELL 'sum', in the pinned program and in every row, IS THE sha256 OF THE DUMP (.gsa) THAT YtacmeafpieoaaaaProg.lean LOADS. Nothing in Lean hashes anything: it is a label: what it is worth is what the hold of that sum in a sandbox is worth. -/
noncomputable def Try.pinned : Pinned := { name := "ytacmeafpieoaaaa", sum := "0dea8a4110baabb0207ce21feefbb88d9d5b285a635c8c06e0513971ec1b74cb", checked := Try.checked }
namespace Rows
def none {H : Type} : Left H := { results := [], args := [] }

/-- 'boscagelaw20.LoadRoom': WHATEVER THE INPUT: true; the input reads as it did. -/
def loadRoomSpec : ChangeSpec := { name := "loadRoom", fn := fun _ => fun
  | [d1, d2, d3] => { results := [.lit (.bool true)], args := [d1, d2, d3] }
  | _ => none }
def loadRoomRow : OpenClaim := { program := "ytacmeafpieoaaaa", sum := "0dea8a4110baabb0207ce21feefbb88d9d5b285a635c8c06e0513971ec1b74cb", func := "boscage/boscagelaw20.LoadRoom", spec := "loadRoom", recurses := true, apart := false }
def LoadRoomSaid : Prop := loadRoomRow.holds Try.pinned (OpenSpec.ofChange loadRoomSpec)

/-- ITS FALSE NEIGHBOUR: 'it returns false'. Refute it at one input. -/
def loadRoomWrong : ChangeSpec := { name := "loadRoom", fn := fun _ => fun
  | [d1, d2, d3] => { results := [.lit (.bool false)], args := [d1, d2, d3] }
  | _ => none }
def LoadRoomWrongFalsely : Prop := loadRoomRow.holds Try.pinned (OpenSpec.ofChange loadRoomWrong)

/-- 'boscagelaw20.LoadNone': WHATEVER THE INPUT: true; the input reads as it did. -/
def loadNoneSpec : ChangeSpec := { name := "loadNone", fn := fun _ => fun
  | [d1, d2] => { results := [.lit (.bool true)], args := [d1, d2] }
  | _ => none }
def loadNoneRow : OpenClaim := { program := "ytacmeafpieoaaaa", sum := "0dea8a4110baabb0207ce21feefbb88d9d5b285a635c8c06e0513971ec1b74cb", func := "boscage/boscagelaw20.LoadNone", spec := "loadNone", recurses := true, apart := false }
def LoadNoneSaid : Prop := loadNoneRow.holds Try.pinned (OpenSpec.ofChange loadNoneSpec)

/-- ITS FALSE NEIGHBOUR: 'it returns false'. Refute it at one input. -/
def loadNoneWrong : ChangeSpec := { name := "loadNone", fn := fun _ => fun
  | [d1, d2] => { results := [.lit (.bool false)], args := [d1, d2] }
  | _ => none }
def LoadNoneWrongFalsely : Prop := loadNoneRow.holds Try.pinned (OpenSpec.ofChange loadNoneWrong)

/-- 'boscagelaw20.LoadLoads': WHATEVER THE INPUT: true; the input reads as it did. -/
def loadLoadsSpec : ChangeSpec := { name := "loadLoads", fn := fun _ => fun
  | [d1, d2] => { results := [.lit (.bool true)], args := [d1, d2] }
  | _ => none }
def loadLoadsRow : OpenClaim := { program := "ytacmeafpieoaaaa", sum := "0dea8a4110baabb0207ce21feefbb88d9d5b285a635c8c06e0513971ec1b74cb", func := "boscage/boscagelaw20.LoadLoads", spec := "loadLoads", recurses := true, apart := false }
def LoadLoadsSaid : Prop := loadLoadsRow.holds Try.pinned (OpenSpec.ofChange loadLoadsSpec)

/-- ITS FALSE NEIGHBOUR: 'it returns false'. Refute it at one input. -/
def loadLoadsWrong : ChangeSpec := { name := "loadLoads", fn := fun _ => fun
  | [d1, d2] => { results := [.lit (.bool false)], args := [d1, d2] }
  | _ => none }
def LoadLoadsWrongFalsely : Prop := loadLoadsRow.holds Try.pinned (OpenSpec.ofChange loadLoadsWrong)

/-- 'boscagelaw11.SeekTurns': WHATEVER THE INPUT: true; the input reads as it did. -/
def seekTurnsSpec : ChangeSpec := { name := "seekTurns", fn := fun _ => fun
  | [d1, d2, d3, d4] => { results := [.lit (.bool true)], args := [d1, d2, d3, d4] }
  | _ => none }
def seekTurnsRow : OpenClaim := { program := "ytacmeafpieoaaaa", sum := "0dea8a4110baabb0207ce21feefbb88d9d5b285a635c8c06e0513971ec1b74cb", func := "boscage/boscagelaw11.SeekTurns", spec := "seekTurns", unfollowed := true, recurses := true, apart := false }
def SeekTurnsSaid : Prop := seekTurnsRow.holds Try.pinned (OpenSpec.ofChange seekTurnsSpec)

/-- ITS FALSE NEIGHBOUR: 'it returns false'. Refute it at one input. -/
def seekTurnsWrong : ChangeSpec := { name := "seekTurns", fn := fun _ => fun
  | [d1, d2, d3, d4] => { results := [.lit (.bool false)], args := [d1, d2, d3, d4] }
  | _ => none }
def SeekTurnsWrongFalsely : Prop := seekTurnsRow.holds Try.pinned (OpenSpec.ofChange seekTurnsWrong)

/-- 'boscagelaw21.AuditEven': WHATEVER THE INPUT: true; the input reads as it did. -/
def auditEvenSpec : ChangeSpec := { name := "auditEven", fn := fun _ => fun
  | [d1, d2] => { results := [.lit (.bool true)], args := [d1, d2] }
  | _ => none }
def auditEvenRow : OpenClaim := { program := "ytacmeafpieoaaaa", sum := "0dea8a4110baabb0207ce21feefbb88d9d5b285a635c8c06e0513971ec1b74cb", func := "boscage/boscagelaw21.AuditEven", spec := "auditEven", recurses := true, apart := false }
def AuditEvenSaid : Prop := auditEvenRow.holds Try.pinned (OpenSpec.ofChange auditEvenSpec)

/-- ITS FALSE NEIGHBOUR: 'it returns false'. Refute it at one input. -/
def auditEvenWrong : ChangeSpec := { name := "auditEven", fn := fun _ => fun
  | [d1, d2] => { results := [.lit (.bool false)], args := [d1, d2] }
  | _ => none }
def AuditEvenWrongFalsely : Prop := auditEvenRow.holds Try.pinned (OpenSpec.ofChange auditEvenWrong)

/-- 'boscagelaw21.AuditOdd': WHATEVER THE INPUT: true; the input reads as it did. -/
def auditOddSpec : ChangeSpec := { name := "auditOdd", fn := fun _ => fun
  | [d1, d2, d3] => { results := [.lit (.bool true)], args := [d1, d2, d3] }
  | _ => none }
def auditOddRow : OpenClaim := { program := "ytacmeafpieoaaaa", sum := "0dea8a4110baabb0207ce21feefbb88d9d5b285a635c8c06e0513971ec1b74cb", func := "boscage/boscagelaw21.AuditOdd", spec := "auditOdd", recurses := true, apart := false }
def AuditOddSaid : Prop := auditOddRow.holds Try.pinned (OpenSpec.ofChange auditOddSpec)

/-- ITS FALSE NEIGHBOUR: 'it returns false'. Refute it at one input. -/
def auditOddWrong : ChangeSpec := { name := "auditOdd", fn := fun _ => fun
  | [d1, d2, d3] => { results := [.lit (.bool false)], args := [d1, d2, d3] }
  | _ => none }
def AuditOddWrongFalsely : Prop := auditOddRow.holds Try.pinned (OpenSpec.ofChange auditOddWrong)

/-- 'boscagelaw08.WorldGrace': WHATEVER THE INPUT: true; the input reads as it did. -/
def worldGraceSpec : ChangeSpec := { name := "worldGrace", fn := fun _ => fun
  | [d1, d2] => { results := [.lit (.bool true)], args := [d1, d2] }
  | _ => none }
def worldGraceRow : OpenClaim := { program := "ytacmeafpieoaaaa", sum := "0dea8a4110baabb0207ce21feefbb88d9d5b285a635c8c06e0513971ec1b74cb", func := "boscage/boscagelaw08.WorldGrace", spec := "worldGrace", unfollowed := true, recurses := true, apart := false }
def WorldGraceSaid : Prop := worldGraceRow.holds Try.pinned (OpenSpec.ofChange worldGraceSpec)

/-- ITS FALSE NEIGHBOUR: 'it returns false'. Refute it at one input. -/
def worldGraceWrong : ChangeSpec := { name := "worldGrace", fn := fun _ => fun
  | [d1, d2] => { results := [.lit (.bool false)], args := [d1, d2] }
  | _ => none }
def WorldGraceWrongFalsely : Prop := worldGraceRow.holds Try.pinned (OpenSpec.ofChange worldGraceWrong)

/-- 'boscagelaw09.HelpRivals': WHATEVER THE INPUT: true; the input reads as it did. -/
def helpRivalsSpec : ChangeSpec := { name := "helpRivals", fn := fun _ => fun
  | [d1, d2, d3, d4] => { results := [.lit (.bool true)], args := [d1, d2, d3, d4] }
  | _ => none }
def helpRivalsRow : OpenClaim := { program := "ytacmeafpieoaaaa", sum := "0dea8a4110baabb0207ce21feefbb88d9d5b285a635c8c06e0513971ec1b74cb", func := "boscage/boscagelaw09.HelpRivals", spec := "helpRivals", unfollowed := true, recurses := true, apart := false }
def HelpRivalsSaid : Prop := helpRivalsRow.holds Try.pinned (OpenSpec.ofChange helpRivalsSpec)

/-- ITS FALSE NEIGHBOUR: 'it returns false'. Refute it at one input. -/
def helpRivalsWrong : ChangeSpec := { name := "helpRivals", fn := fun _ => fun
  | [d1, d2, d3, d4] => { results := [.lit (.bool false)], args := [d1, d2, d3, d4] }
  | _ => none }
def HelpRivalsWrongFalsely : Prop := helpRivalsRow.holds Try.pinned (OpenSpec.ofChange helpRivalsWrong)

/-- 'boscagelaw09.HelpAgain': WHATEVER THE INPUT: true; the input reads as it did. -/
def helpAgainSpec : ChangeSpec := { name := "helpAgain", fn := fun _ => fun
  | [d1, d2, d3] => { results := [.lit (.bool true)], args := [d1, d2, d3] }
  | _ => none }
def helpAgainRow : OpenClaim := { program := "ytacmeafpieoaaaa", sum := "0dea8a4110baabb0207ce21feefbb88d9d5b285a635c8c06e0513971ec1b74cb", func := "boscage/boscagelaw09.HelpAgain", spec := "helpAgain", unfollowed := true, recurses := true, apart := false }
def HelpAgainSaid : Prop := helpAgainRow.holds Try.pinned (OpenSpec.ofChange helpAgainSpec)

/-- ITS FALSE NEIGHBOUR: 'it returns false'. Refute it at one input. -/
def helpAgainWrong : ChangeSpec := { name := "helpAgain", fn := fun _ => fun
  | [d1, d2, d3] => { results := [.lit (.bool false)], args := [d1, d2, d3] }
  | _ => none }
def HelpAgainWrongFalsely : Prop := helpAgainRow.holds Try.pinned (OpenSpec.ofChange helpAgainWrong)

/-- 'boscagelaw09.HelpMany': WHATEVER THE INPUT: true; the input reads as it did. -/
def helpManySpec : ChangeSpec := { name := "helpMany", fn := fun _ => fun
  | [d1, d2, d3, d4, d5] => { results := [.lit (.bool true)], args := [d1, d2, d3, d4, d5] }
  | _ => none }
def helpManyRow : OpenClaim := { program := "ytacmeafpieoaaaa", sum := "0dea8a4110baabb0207ce21feefbb88d9d5b285a635c8c06e0513971ec1b74cb", func := "boscage/boscagelaw09.HelpMany", spec := "helpMany", unfollowed := true, recurses := true, apart := false }
def HelpManySaid : Prop := helpManyRow.holds Try.pinned (OpenSpec.ofChange helpManySpec)

/-- ITS FALSE NEIGHBOUR: 'it returns false'. Refute it at one input. -/
def helpManyWrong : ChangeSpec := { name := "helpMany", fn := fun _ => fun
  | [d1, d2, d3, d4, d5] => { results := [.lit (.bool false)], args := [d1, d2, d3, d4, d5] }
  | _ => none }
def HelpManyWrongFalsely : Prop := helpManyRow.holds Try.pinned (OpenSpec.ofChange helpManyWrong)

/-- 'boscagelaw08.WorldNew': WHATEVER THE INPUT: true; the input reads as it did. -/
def worldNewSpec : ChangeSpec := { name := "worldNew", fn := fun _ => fun
  | [d1, d2, d3, d4, d5] => { results := [.lit (.bool true)], args := [d1, d2, d3, d4, d5] }
  | _ => none }
def worldNewRow : OpenClaim := { program := "ytacmeafpieoaaaa", sum := "0dea8a4110baabb0207ce21feefbb88d9d5b285a635c8c06e0513971ec1b74cb", func := "boscage/boscagelaw08.WorldNew", spec := "worldNew", unfollowed := true, recurses := true, apart := false }
def WorldNewSaid : Prop := worldNewRow.holds Try.pinned (OpenSpec.ofChange worldNewSpec)

/-- ITS FALSE NEIGHBOUR: 'it returns false'. Refute it at one input. -/
def worldNewWrong : ChangeSpec := { name := "worldNew", fn := fun _ => fun
  | [d1, d2, d3, d4, d5] => { results := [.lit (.bool false)], args := [d1, d2, d3, d4, d5] }
  | _ => none }
def WorldNewWrongFalsely : Prop := worldNewRow.holds Try.pinned (OpenSpec.ofChange worldNewWrong)

/-- 'boscagelaw09.HelpAlone': WHATEVER THE INPUT: true; the input reads as it did. -/
def helpAloneSpec : ChangeSpec := { name := "helpAlone", fn := fun _ => fun
  | [d1, d2, d3, d4, d5, d6] => { results := [.lit (.bool true)], args := [d1, d2, d3, d4, d5, d6] }
  | _ => none }
def helpAloneRow : OpenClaim := { program := "ytacmeafpieoaaaa", sum := "0dea8a4110baabb0207ce21feefbb88d9d5b285a635c8c06e0513971ec1b74cb", func := "boscage/boscagelaw09.HelpAlone", spec := "helpAlone", unfollowed := true, recurses := true, apart := false }
def HelpAloneSaid : Prop := helpAloneRow.holds Try.pinned (OpenSpec.ofChange helpAloneSpec)

/-- ITS FALSE NEIGHBOUR: 'it returns false'. Refute it at one input. -/
def helpAloneWrong : ChangeSpec := { name := "helpAlone", fn := fun _ => fun
  | [d1, d2, d3, d4, d5, d6] => { results := [.lit (.bool false)], args := [d1, d2, d3, d4, d5, d6] }
  | _ => none }
def HelpAloneWrongFalsely : Prop := helpAloneRow.holds Try.pinned (OpenSpec.ofChange helpAloneWrong)

/-- 'boscagelaw09.HelpNone': WHATEVER THE INPUT: true; the input reads as it did. -/
def helpNoneSpec : ChangeSpec := { name := "helpNone", fn := fun _ => fun
  | [d] => { results := [.lit (.bool true)], args := [d] }
  | _ => none }
def helpNoneRow : OpenClaim := { program := "ytacmeafpieoaaaa", sum := "0dea8a4110baabb0207ce21feefbb88d9d5b285a635c8c06e0513971ec1b74cb", func := "boscage/boscagelaw09.HelpNone", spec := "helpNone", unfollowed := true, recurses := true, apart := false }
def HelpNoneSaid : Prop := helpNoneRow.holds Try.pinned (OpenSpec.ofChange helpNoneSpec)

/-- ITS FALSE NEIGHBOUR: 'it returns false'. Refute it at one input. -/
def helpNoneWrong : ChangeSpec := { name := "helpNone", fn := fun _ => fun
  | [d] => { results := [.lit (.bool false)], args := [d] }
  | _ => none }
def HelpNoneWrongFalsely : Prop := helpNoneRow.holds Try.pinned (OpenSpec.ofChange helpNoneWrong)

/-- 'boscagelaw10.LlxLoads': WHATEVER THE INPUT: true; the input reads as it did. -/
def llxLoadsSpec : ChangeSpec := { name := "llxLoads", fn := fun _ => fun
  | [d1, d2, d3] => { results := [.lit (.bool true)], args := [d1, d2, d3] }
  | _ => none }
def llxLoadsRow : OpenClaim := { program := "ytacmeafpieoaaaa", sum := "0dea8a4110baabb0207ce21feefbb88d9d5b285a635c8c06e0513971ec1b74cb", func := "boscage/boscagelaw10.LlxLoads", spec := "llxLoads", unfollowed := true, recurses := true, apart := false }
def LlxLoadsSaid : Prop := llxLoadsRow.holds Try.pinned (OpenSpec.ofChange llxLoadsSpec)

/-- ITS FALSE NEIGHBOUR: 'it returns false'. Refute it at one input. -/
def llxLoadsWrong : ChangeSpec := { name := "llxLoads", fn := fun _ => fun
  | [d1, d2, d3] => { results := [.lit (.bool false)], args := [d1, d2, d3] }
  | _ => none }
def LlxLoadsWrongFalsely : Prop := llxLoadsRow.holds Try.pinned (OpenSpec.ofChange llxLoadsWrong)

/-- 'boscagelaw21.AuditNil': WHATEVER THE INPUT: true; the input reads as it did. -/
def auditNilSpec : ChangeSpec := { name := "auditNil", fn := fun _ => fun
  | [d] => { results := [.lit (.bool true)], args := [d] }
  | _ => none }
def auditNilRow : OpenClaim := { program := "ytacmeafpieoaaaa", sum := "0dea8a4110baabb0207ce21feefbb88d9d5b285a635c8c06e0513971ec1b74cb", func := "boscage/boscagelaw21.AuditNil", spec := "auditNil", recurses := true, apart := false }
def AuditNilSaid : Prop := auditNilRow.holds Try.pinned (OpenSpec.ofChange auditNilSpec)

/-- ITS FALSE NEIGHBOUR: 'it returns false'. Refute it at one input. -/
def auditNilWrong : ChangeSpec := { name := "auditNil", fn := fun _ => fun
  | [d] => { results := [.lit (.bool false)], args := [d] }
  | _ => none }
def AuditNilWrongFalsely : Prop := auditNilRow.holds Try.pinned (OpenSpec.ofChange auditNilWrong)

/-- 'boscagelaw10.LlxStores': WHATEVER THE INPUT: true; the input reads as it did. -/
def llxStoresSpec : ChangeSpec := { name := "llxStores", fn := fun _ => fun
  | [d1, d2] => { results := [.lit (.bool true)], args := [d1, d2] }
  | _ => none }
def llxStoresRow : OpenClaim := { program := "ytacmeafpieoaaaa", sum := "0dea8a4110baabb0207ce21feefbb88d9d5b285a635c8c06e0513971ec1b74cb", func := "boscage/boscagelaw10.LlxStores", spec := "llxStores", unfollowed := true, recurses := true, apart := false }
def LlxStoresSaid : Prop := llxStoresRow.holds Try.pinned (OpenSpec.ofChange llxStoresSpec)

/-- ITS FALSE NEIGHBOUR: 'it returns false'. Refute it at one input. -/
def llxStoresWrong : ChangeSpec := { name := "llxStores", fn := fun _ => fun
  | [d1, d2] => { results := [.lit (.bool false)], args := [d1, d2] }
  | _ => none }
def LlxStoresWrongFalsely : Prop := llxStoresRow.holds Try.pinned (OpenSpec.ofChange llxStoresWrong)

/-- 'boscagelaw10.LlxNone': WHATEVER THE INPUT: true; the input reads as it did. -/
def llxNoneSpec : ChangeSpec := { name := "llxNone", fn := fun _ => fun
  | [d1, d2] => { results := [.lit (.bool true)], args := [d1, d2] }
  | _ => none }
def llxNoneRow : OpenClaim := { program := "ytacmeafpieoaaaa", sum := "0dea8a4110baabb0207ce21feefbb88d9d5b285a635c8c06e0513971ec1b74cb", func := "boscage/boscagelaw10.LlxNone", spec := "llxNone", unfollowed := true, recurses := true, apart := false }
def LlxNoneSaid : Prop := llxNoneRow.holds Try.pinned (OpenSpec.ofChange llxNoneSpec)

/-- ITS FALSE NEIGHBOUR: 'it returns false'. Refute it at one input. -/
def llxNoneWrong : ChangeSpec := { name := "llxNone", fn := fun _ => fun
  | [d1, d2] => { results := [.lit (.bool false)], args := [d1, d2] }
  | _ => none }
def LlxNoneWrongFalsely : Prop := llxNoneRow.holds Try.pinned (OpenSpec.ofChange llxNoneWrong)

/-- 'boscagelaw10.LlxRace': WHATEVER THE INPUT: true; the input reads as it did. -/
def llxRaceSpec : ChangeSpec := { name := "llxRace", fn := fun _ => fun
  | [d1, d2] => { results := [.lit (.bool true)], args := [d1, d2] }
  | _ => none }
def llxRaceRow : OpenClaim := { program := "ytacmeafpieoaaaa", sum := "0dea8a4110baabb0207ce21feefbb88d9d5b285a635c8c06e0513971ec1b74cb", func := "boscage/boscagelaw10.LlxRace", spec := "llxRace", unfollowed := true, recurses := true, apart := false }
def LlxRaceSaid : Prop := llxRaceRow.holds Try.pinned (OpenSpec.ofChange llxRaceSpec)

/-- ITS FALSE NEIGHBOUR: 'it returns false'. Refute it at one input. -/
def llxRaceWrong : ChangeSpec := { name := "llxRace", fn := fun _ => fun
  | [d1, d2] => { results := [.lit (.bool false)], args := [d1, d2] }
  | _ => none }
def LlxRaceWrongFalsely : Prop := llxRaceRow.holds Try.pinned (OpenSpec.ofChange llxRaceWrong)

/-- 'boscagelaw10.LlxStale': WHATEVER THE INPUT: true; the input reads as it did. -/
def llxStaleSpec : ChangeSpec := { name := "llxStale", fn := fun _ => fun
  | [d1, d2, d3] => { results := [.lit (.bool true)], args := [d1, d2, d3] }
  | _ => none }
def llxStaleRow : OpenClaim := { program := "ytacmeafpieoaaaa", sum := "0dea8a4110baabb0207ce21feefbb88d9d5b285a635c8c06e0513971ec1b74cb", func := "boscage/boscagelaw10.LlxStale", spec := "llxStale", unfollowed := true, recurses := true, apart := false }
def LlxStaleSaid : Prop := llxStaleRow.holds Try.pinned (OpenSpec.ofChange llxStaleSpec)

/-- ITS FALSE NEIGHBOUR: 'it returns false'. Refute it at one input. -/
def llxStaleWrong : ChangeSpec := { name := "llxStale", fn := fun _ => fun
  | [d1, d2, d3] => { results := [.lit (.bool false)], args := [d1, d2, d3] }
  | _ => none }
def LlxStaleWrongFalsely : Prop := llxStaleRow.holds Try.pinned (OpenSpec.ofChange llxStaleWrong)

/-- 'boscagelaw10.LlxStill': WHATEVER THE INPUT: true; the input reads as it did. -/
def llxStillSpec : ChangeSpec := { name := "llxStill", fn := fun _ => fun
  | [d1, d2] => { results := [.lit (.bool true)], args := [d1, d2] }
  | _ => none }
def llxStillRow : OpenClaim := { program := "ytacmeafpieoaaaa", sum := "0dea8a4110baabb0207ce21feefbb88d9d5b285a635c8c06e0513971ec1b74cb", func := "boscage/boscagelaw10.LlxStill", spec := "llxStill", unfollowed := true, recurses := true, apart := false }
def LlxStillSaid : Prop := llxStillRow.holds Try.pinned (OpenSpec.ofChange llxStillSpec)

/-- ITS FALSE NEIGHBOUR: 'it returns false'. Refute it at one input. -/
def llxStillWrong : ChangeSpec := { name := "llxStill", fn := fun _ => fun
  | [d1, d2] => { results := [.lit (.bool false)], args := [d1, d2] }
  | _ => none }
def LlxStillWrongFalsely : Prop := llxStillRow.holds Try.pinned (OpenSpec.ofChange llxStillWrong)

/- THE SECOND FORM. 'bulk': how many values and letters a reading holds, each counted each time it is reached (what is shared counts as often as it is met; a slice's spare places count too). A statement '..UptoSaid' is the law's where the arguments, and the package variables that the reading takes, are together of bulk at most 1048576: NARROWER than '..Said'. Prove '..Said' where nothing that the law and all that it calls make is longer than what came in: it says more and counts as full. Else prove '..UptoSaid'. A law counts once. -/
mutual
def uptoBulk {H : Type} : DataW H → Nat
  | .lit (.string bytes) => bytes.length + 1
  | .lit _ => 1
  | .nil => 1
  | .ptr d => uptoBulk d + 1
  | .slice elems spare => uptoBulkAll elems + uptoBulkAll spare + 1
  | .agg parts => uptoBulkAll parts + 1
  | .iface _ d => uptoBulk d + 1
  | .map entries => uptoBulkEntries entries + 1
  | .held _ => 1
def uptoBulkAll {H : Type} : List (DataW H) → Nat
  | [] => 0
  | d :: r => uptoBulk d + uptoBulkAll r
def uptoBulkEntries {H : Type} : List (Lit × DataW H) → Nat
  | [] => 0
  | x :: r => uptoBulkEntry x + uptoBulkEntries r
def uptoBulkEntry {H : Type} : Lit × DataW H → Nat
  | (.string bytes, d) => bytes.length + uptoBulk d + 1
  | (_, d) => uptoBulk d + 1
 end
def uptoSmall : (H : Type) → List (DataW H) → Bool := fun _ ds => decide (uptoBulkAll ds ≤ 1048576)
def OpenSpec.upto (s : _root_.Go.ChangeSpec) : _root_.Go.OpenSpec := { _root_.Go.OpenSpec.ofChange s with cond := some uptoSmall }

/-- 'boscagelaw20.LoadRoom', WHERE WHAT IT READS IS OF BULK AT MOST 1048576: true; the input reads as it did. -/
def loadRoomUptoRow : OpenClaim := { program := "ytacmeafpieoaaaa", sum := "0dea8a4110baabb0207ce21feefbb88d9d5b285a635c8c06e0513971ec1b74cb", func := "boscage/boscagelaw20.LoadRoom", spec := "loadRoom", recurses := true, apart := false, narrowed := true }
def LoadRoomUptoSaid : Prop := loadRoomUptoRow.holds Try.pinned (OpenSpec.upto loadRoomSpec)

/-- 'boscagelaw20.LoadNone', WHERE WHAT IT READS IS OF BULK AT MOST 1048576: true; the input reads as it did. -/
def loadNoneUptoRow : OpenClaim := { program := "ytacmeafpieoaaaa", sum := "0dea8a4110baabb0207ce21feefbb88d9d5b285a635c8c06e0513971ec1b74cb", func := "boscage/boscagelaw20.LoadNone", spec := "loadNone", recurses := true, apart := false, narrowed := true }
def LoadNoneUptoSaid : Prop := loadNoneUptoRow.holds Try.pinned (OpenSpec.upto loadNoneSpec)

/-- 'boscagelaw20.LoadLoads', WHERE WHAT IT READS IS OF BULK AT MOST 1048576: true; the input reads as it did. -/
def loadLoadsUptoRow : OpenClaim := { program := "ytacmeafpieoaaaa", sum := "0dea8a4110baabb0207ce21feefbb88d9d5b285a635c8c06e0513971ec1b74cb", func := "boscage/boscagelaw20.LoadLoads", spec := "loadLoads", recurses := true, apart := false, narrowed := true }
def LoadLoadsUptoSaid : Prop := loadLoadsUptoRow.holds Try.pinned (OpenSpec.upto loadLoadsSpec)

/-- 'boscagelaw11.SeekTurns', WHERE WHAT IT READS IS OF BULK AT MOST 1048576: true; the input reads as it did. -/
def seekTurnsUptoRow : OpenClaim := { program := "ytacmeafpieoaaaa", sum := "0dea8a4110baabb0207ce21feefbb88d9d5b285a635c8c06e0513971ec1b74cb", func := "boscage/boscagelaw11.SeekTurns", spec := "seekTurns", unfollowed := true, recurses := true, apart := false, narrowed := true }
def SeekTurnsUptoSaid : Prop := seekTurnsUptoRow.holds Try.pinned (OpenSpec.upto seekTurnsSpec)

/-- 'boscagelaw21.AuditEven', WHERE WHAT IT READS IS OF BULK AT MOST 1048576: true; the input reads as it did. -/
def auditEvenUptoRow : OpenClaim := { program := "ytacmeafpieoaaaa", sum := "0dea8a4110baabb0207ce21feefbb88d9d5b285a635c8c06e0513971ec1b74cb", func := "boscage/boscagelaw21.AuditEven", spec := "auditEven", recurses := true, apart := false, narrowed := true }
def AuditEvenUptoSaid : Prop := auditEvenUptoRow.holds Try.pinned (OpenSpec.upto auditEvenSpec)

/-- 'boscagelaw21.AuditOdd', WHERE WHAT IT READS IS OF BULK AT MOST 1048576: true; the input reads as it did. -/
def auditOddUptoRow : OpenClaim := { program := "ytacmeafpieoaaaa", sum := "0dea8a4110baabb0207ce21feefbb88d9d5b285a635c8c06e0513971ec1b74cb", func := "boscage/boscagelaw21.AuditOdd", spec := "auditOdd", recurses := true, apart := false, narrowed := true }
def AuditOddUptoSaid : Prop := auditOddUptoRow.holds Try.pinned (OpenSpec.upto auditOddSpec)

/-- 'boscagelaw08.WorldGrace', WHERE WHAT IT READS IS OF BULK AT MOST 1048576: true; the input reads as it did. -/
def worldGraceUptoRow : OpenClaim := { program := "ytacmeafpieoaaaa", sum := "0dea8a4110baabb0207ce21feefbb88d9d5b285a635c8c06e0513971ec1b74cb", func := "boscage/boscagelaw08.WorldGrace", spec := "worldGrace", unfollowed := true, recurses := true, apart := false, narrowed := true }
def WorldGraceUptoSaid : Prop := worldGraceUptoRow.holds Try.pinned (OpenSpec.upto worldGraceSpec)

/-- 'boscagelaw09.HelpRivals', WHERE WHAT IT READS IS OF BULK AT MOST 1048576: true; the input reads as it did. -/
def helpRivalsUptoRow : OpenClaim := { program := "ytacmeafpieoaaaa", sum := "0dea8a4110baabb0207ce21feefbb88d9d5b285a635c8c06e0513971ec1b74cb", func := "boscage/boscagelaw09.HelpRivals", spec := "helpRivals", unfollowed := true, recurses := true, apart := false, narrowed := true }
def HelpRivalsUptoSaid : Prop := helpRivalsUptoRow.holds Try.pinned (OpenSpec.upto helpRivalsSpec)

/-- 'boscagelaw09.HelpAgain', WHERE WHAT IT READS IS OF BULK AT MOST 1048576: true; the input reads as it did. -/
def helpAgainUptoRow : OpenClaim := { program := "ytacmeafpieoaaaa", sum := "0dea8a4110baabb0207ce21feefbb88d9d5b285a635c8c06e0513971ec1b74cb", func := "boscage/boscagelaw09.HelpAgain", spec := "helpAgain", unfollowed := true, recurses := true, apart := false, narrowed := true }
def HelpAgainUptoSaid : Prop := helpAgainUptoRow.holds Try.pinned (OpenSpec.upto helpAgainSpec)

/-- 'boscagelaw09.HelpMany', WHERE WHAT IT READS IS OF BULK AT MOST 1048576: true; the input reads as it did. -/
def helpManyUptoRow : OpenClaim := { program := "ytacmeafpieoaaaa", sum := "0dea8a4110baabb0207ce21feefbb88d9d5b285a635c8c06e0513971ec1b74cb", func := "boscage/boscagelaw09.HelpMany", spec := "helpMany", unfollowed := true, recurses := true, apart := false, narrowed := true }
def HelpManyUptoSaid : Prop := helpManyUptoRow.holds Try.pinned (OpenSpec.upto helpManySpec)

/-- 'boscagelaw08.WorldNew', WHERE WHAT IT READS IS OF BULK AT MOST 1048576: true; the input reads as it did. -/
def worldNewUptoRow : OpenClaim := { program := "ytacmeafpieoaaaa", sum := "0dea8a4110baabb0207ce21feefbb88d9d5b285a635c8c06e0513971ec1b74cb", func := "boscage/boscagelaw08.WorldNew", spec := "worldNew", unfollowed := true, recurses := true, apart := false, narrowed := true }
def WorldNewUptoSaid : Prop := worldNewUptoRow.holds Try.pinned (OpenSpec.upto worldNewSpec)

/-- 'boscagelaw09.HelpAlone', WHERE WHAT IT READS IS OF BULK AT MOST 1048576: true; the input reads as it did. -/
def helpAloneUptoRow : OpenClaim := { program := "ytacmeafpieoaaaa", sum := "0dea8a4110baabb0207ce21feefbb88d9d5b285a635c8c06e0513971ec1b74cb", func := "boscage/boscagelaw09.HelpAlone", spec := "helpAlone", unfollowed := true, recurses := true, apart := false, narrowed := true }
def HelpAloneUptoSaid : Prop := helpAloneUptoRow.holds Try.pinned (OpenSpec.upto helpAloneSpec)

/-- 'boscagelaw09.HelpNone', WHERE WHAT IT READS IS OF BULK AT MOST 1048576: true; the input reads as it did. -/
def helpNoneUptoRow : OpenClaim := { program := "ytacmeafpieoaaaa", sum := "0dea8a4110baabb0207ce21feefbb88d9d5b285a635c8c06e0513971ec1b74cb", func := "boscage/boscagelaw09.HelpNone", spec := "helpNone", unfollowed := true, recurses := true, apart := false, narrowed := true }
def HelpNoneUptoSaid : Prop := helpNoneUptoRow.holds Try.pinned (OpenSpec.upto helpNoneSpec)

/-- 'boscagelaw10.LlxLoads', WHERE WHAT IT READS IS OF BULK AT MOST 1048576: true; the input reads as it did. -/
def llxLoadsUptoRow : OpenClaim := { program := "ytacmeafpieoaaaa", sum := "0dea8a4110baabb0207ce21feefbb88d9d5b285a635c8c06e0513971ec1b74cb", func := "boscage/boscagelaw10.LlxLoads", spec := "llxLoads", unfollowed := true, recurses := true, apart := false, narrowed := true }
def LlxLoadsUptoSaid : Prop := llxLoadsUptoRow.holds Try.pinned (OpenSpec.upto llxLoadsSpec)

/-- 'boscagelaw21.AuditNil', WHERE WHAT IT READS IS OF BULK AT MOST 1048576: true; the input reads as it did. -/
def auditNilUptoRow : OpenClaim := { program := "ytacmeafpieoaaaa", sum := "0dea8a4110baabb0207ce21feefbb88d9d5b285a635c8c06e0513971ec1b74cb", func := "boscage/boscagelaw21.AuditNil", spec := "auditNil", recurses := true, apart := false, narrowed := true }
def AuditNilUptoSaid : Prop := auditNilUptoRow.holds Try.pinned (OpenSpec.upto auditNilSpec)

/-- 'boscagelaw10.LlxStores', WHERE WHAT IT READS IS OF BULK AT MOST 1048576: true; the input reads as it did. -/
def llxStoresUptoRow : OpenClaim := { program := "ytacmeafpieoaaaa", sum := "0dea8a4110baabb0207ce21feefbb88d9d5b285a635c8c06e0513971ec1b74cb", func := "boscage/boscagelaw10.LlxStores", spec := "llxStores", unfollowed := true, recurses := true, apart := false, narrowed := true }
def LlxStoresUptoSaid : Prop := llxStoresUptoRow.holds Try.pinned (OpenSpec.upto llxStoresSpec)

/-- 'boscagelaw10.LlxNone', WHERE WHAT IT READS IS OF BULK AT MOST 1048576: true; the input reads as it did. -/
def llxNoneUptoRow : OpenClaim := { program := "ytacmeafpieoaaaa", sum := "0dea8a4110baabb0207ce21feefbb88d9d5b285a635c8c06e0513971ec1b74cb", func := "boscage/boscagelaw10.LlxNone", spec := "llxNone", unfollowed := true, recurses := true, apart := false, narrowed := true }
def LlxNoneUptoSaid : Prop := llxNoneUptoRow.holds Try.pinned (OpenSpec.upto llxNoneSpec)

/-- 'boscagelaw10.LlxRace', WHERE WHAT IT READS IS OF BULK AT MOST 1048576: true; the input reads as it did. -/
def llxRaceUptoRow : OpenClaim := { program := "ytacmeafpieoaaaa", sum := "0dea8a4110baabb0207ce21feefbb88d9d5b285a635c8c06e0513971ec1b74cb", func := "boscage/boscagelaw10.LlxRace", spec := "llxRace", unfollowed := true, recurses := true, apart := false, narrowed := true }
def LlxRaceUptoSaid : Prop := llxRaceUptoRow.holds Try.pinned (OpenSpec.upto llxRaceSpec)

/-- 'boscagelaw10.LlxStale', WHERE WHAT IT READS IS OF BULK AT MOST 1048576: true; the input reads as it did. -/
def llxStaleUptoRow : OpenClaim := { program := "ytacmeafpieoaaaa", sum := "0dea8a4110baabb0207ce21feefbb88d9d5b285a635c8c06e0513971ec1b74cb", func := "boscage/boscagelaw10.LlxStale", spec := "llxStale", unfollowed := true, recurses := true, apart := false, narrowed := true }
def LlxStaleUptoSaid : Prop := llxStaleUptoRow.holds Try.pinned (OpenSpec.upto llxStaleSpec)

/-- 'boscagelaw10.LlxStill', WHERE WHAT IT READS IS OF BULK AT MOST 1048576: true; the input reads as it did. -/
def llxStillUptoRow : OpenClaim := { program := "ytacmeafpieoaaaa", sum := "0dea8a4110baabb0207ce21feefbb88d9d5b285a635c8c06e0513971ec1b74cb", func := "boscage/boscagelaw10.LlxStill", spec := "llxStill", unfollowed := true, recurses := true, apart := false, narrowed := true }
def LlxStillUptoSaid : Prop := llxStillUptoRow.holds Try.pinned (OpenSpec.upto llxStillSpec)

end Rows
end Go.Proofs.Ytacmeafpieoaaaa
