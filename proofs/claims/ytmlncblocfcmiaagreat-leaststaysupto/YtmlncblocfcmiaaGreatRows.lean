/-
  NARROWER THAN 'FOR EVERY INPUT', by the rows' own cells (each row's printed sentence says how): StuckTells: loops · StuckWaits: loops · LeastNeeds: loops · LeastShrinks: loops · LeastStays: loops · StrandTells: loops · StrandSums: loops · GuardRises: loops · EagerRests: loops.
  DERIVED. THE GIVEN ROWS OF THIS SEAT. 17 by the template 'for every input the law returns true; each argument reads behind the call as it read before'; 0 by the template 'total and deterministic' (their statements: YtmlncblocfcmiaaGreatTotals.lean).
  GIVEN WITH THE SEED: the statements are not yours to turn. If you find one false, say at which input.
  Laid BY PROGRAM, IN A SANDBOX (cutbox-rows.mjs): the forced cells as the released guide's own fill.sh prints them over the translation 784ec4c1f22e1979… (all of the seat's roots in one cut). By AI agents, Wed Nov 11 2026. No macro, syntax, notation, axiom, sorry.
-/
import Derived.Test.YtmlncblocfcmiaaGreatChecked
import GoSem.Claim
import GoSem.ClaimJoined
import GoSem.ClaimMapViews
import Derived.JoinedTies
import Derived.KernelRfl
namespace Go.Proofs.YtmlncblocfcmiaaGreat
/- THE CELL 'sum', in the pinned program and in every row, IS THE sha256 OF THE DUMP (.gsa) THAT YtmlncblocfcmiaaGreatProg.lean LOADS. Nothing in Lean hashes anything: it is a label: what it is worth is what the hold of that sum in a sandbox is worth. -/
noncomputable def Tryz.pinned : Pinned := { name := "ytmlncblocfcmiaagreat", sum := "784ec4c1f22e19797d9057d52d18f912f03bee143d249aed5c04b9a4c01813e3", checked := Tryz.checked }
namespace Rows
def none {H : Type} : Left H := { results := [], args := [] }

/-- 'ententelaw38.WeighTells': WHATEVER THE INPUT: true; the input reads as it did. -/
def weighTellsSpec : ChangeSpec := { name := "weighTells", fn := fun _ => fun
  | [d] => { results := [.lit (.bool true)], args := [d] }
  | _ => none }
def weighTellsRow : OpenClaim := { program := "ytmlncblocfcmiaagreat", sum := "784ec4c1f22e19797d9057d52d18f912f03bee143d249aed5c04b9a4c01813e3", func := "entente/ententelaw38.WeighTells", spec := "weighTells", inPlace := ["internal/bytealg.IndexByteString", "internal/bytealg.abigen_runtime_cmpstring", "internal/bytealg.Compare", "maps.clone"], unfollowed := true, recurses := true, plainKeys := false, apart := false }
def WeighTellsSaid : Prop := weighTellsRow.holds Tryz.pinned (OpenSpec.ofChange weighTellsSpec)

/-- ITS FALSE NEIGHBOUR: 'it returns false'. Refute it at one input. -/
def weighTellsWrong : ChangeSpec := { name := "weighTells", fn := fun _ => fun
  | [d] => { results := [.lit (.bool false)], args := [d] }
  | _ => none }
def WeighTellsWrongFalsely : Prop := weighTellsRow.holds Tryz.pinned (OpenSpec.ofChange weighTellsWrong)

/-- 'ententelaw38.WeighRanks': WHATEVER THE INPUT: true; the input reads as it did. -/
def weighRanksSpec : ChangeSpec := { name := "weighRanks", fn := fun _ => fun
  | [d1, d2] => { results := [.lit (.bool true)], args := [d1, d2] }
  | _ => none }
def weighRanksRow : OpenClaim := { program := "ytmlncblocfcmiaagreat", sum := "784ec4c1f22e19797d9057d52d18f912f03bee143d249aed5c04b9a4c01813e3", func := "entente/ententelaw38.WeighRanks", spec := "weighRanks", inPlace := ["internal/bytealg.IndexByteString", "internal/bytealg.abigen_runtime_cmpstring", "internal/bytealg.Compare", "maps.clone"], unfollowed := true, recurses := true, plainKeys := false, apart := false }
def WeighRanksSaid : Prop := weighRanksRow.holds Tryz.pinned (OpenSpec.ofChange weighRanksSpec)

/-- ITS FALSE NEIGHBOUR: 'it returns false'. Refute it at one input. -/
def weighRanksWrong : ChangeSpec := { name := "weighRanks", fn := fun _ => fun
  | [d1, d2] => { results := [.lit (.bool false)], args := [d1, d2] }
  | _ => none }
def WeighRanksWrongFalsely : Prop := weighRanksRow.holds Tryz.pinned (OpenSpec.ofChange weighRanksWrong)

/-- 'ententelaw38.WeighHolds': WHATEVER THE INPUT: true; the input reads as it did. -/
def weighHoldsSpec : ChangeSpec := { name := "weighHolds", fn := fun _ => fun
  | [d1, d2] => { results := [.lit (.bool true)], args := [d1, d2] }
  | _ => none }
def weighHoldsRow : OpenClaim := { program := "ytmlncblocfcmiaagreat", sum := "784ec4c1f22e19797d9057d52d18f912f03bee143d249aed5c04b9a4c01813e3", func := "entente/ententelaw38.WeighHolds", spec := "weighHolds", inPlace := ["internal/bytealg.IndexByteString", "internal/bytealg.abigen_runtime_cmpstring", "internal/bytealg.Compare", "maps.clone"], unfollowed := true, recurses := true, plainKeys := false, apart := false }
def WeighHoldsSaid : Prop := weighHoldsRow.holds Tryz.pinned (OpenSpec.ofChange weighHoldsSpec)

/-- ITS FALSE NEIGHBOUR: 'it returns false'. Refute it at one input. -/
def weighHoldsWrong : ChangeSpec := { name := "weighHolds", fn := fun _ => fun
  | [d1, d2] => { results := [.lit (.bool false)], args := [d1, d2] }
  | _ => none }
def WeighHoldsWrongFalsely : Prop := weighHoldsRow.holds Tryz.pinned (OpenSpec.ofChange weighHoldsWrong)

/-- 'ententelaw34.RevokeTells': WHATEVER THE INPUT: true; the input reads as it did. -/
def revokeTellsSpec : ChangeSpec := { name := "revokeTells", fn := fun _ => fun
  | [d1, d2, d3] => { results := [.lit (.bool true)], args := [d1, d2, d3] }
  | _ => none }
def revokeTellsRow : OpenClaim := { program := "ytmlncblocfcmiaagreat", sum := "784ec4c1f22e19797d9057d52d18f912f03bee143d249aed5c04b9a4c01813e3", func := "entente/ententelaw34.RevokeTells", spec := "revokeTells", inPlace := ["internal/bytealg.IndexByteString", "internal/bytealg.abigen_runtime_cmpstring", "internal/bytealg.Compare"], unfollowed := true, recurses := true, plainKeys := false, apart := false }
def RevokeTellsSaid : Prop := revokeTellsRow.holds Tryz.pinned (OpenSpec.ofChange revokeTellsSpec)

/-- ITS FALSE NEIGHBOUR: 'it returns false'. Refute it at one input. -/
def revokeTellsWrong : ChangeSpec := { name := "revokeTells", fn := fun _ => fun
  | [d1, d2, d3] => { results := [.lit (.bool false)], args := [d1, d2, d3] }
  | _ => none }
def RevokeTellsWrongFalsely : Prop := revokeTellsRow.holds Tryz.pinned (OpenSpec.ofChange revokeTellsWrong)

/-- 'ententelaw34.RevokeLoses': WHATEVER THE INPUT: true; the input reads as it did. -/
def revokeLosesSpec : ChangeSpec := { name := "revokeLoses", fn := fun _ => fun
  | [d1, d2, d3] => { results := [.lit (.bool true)], args := [d1, d2, d3] }
  | _ => none }
def revokeLosesRow : OpenClaim := { program := "ytmlncblocfcmiaagreat", sum := "784ec4c1f22e19797d9057d52d18f912f03bee143d249aed5c04b9a4c01813e3", func := "entente/ententelaw34.RevokeLoses", spec := "revokeLoses", inPlace := ["internal/bytealg.IndexByteString", "internal/bytealg.abigen_runtime_cmpstring", "internal/bytealg.Compare"], unfollowed := true, recurses := true, plainKeys := false, apart := false }
def RevokeLosesSaid : Prop := revokeLosesRow.holds Tryz.pinned (OpenSpec.ofChange revokeLosesSpec)

/-- ITS FALSE NEIGHBOUR: 'it returns false'. Refute it at one input. -/
def revokeLosesWrong : ChangeSpec := { name := "revokeLoses", fn := fun _ => fun
  | [d1, d2, d3] => { results := [.lit (.bool false)], args := [d1, d2, d3] }
  | _ => none }
def RevokeLosesWrongFalsely : Prop := revokeLosesRow.holds Tryz.pinned (OpenSpec.ofChange revokeLosesWrong)

/-- 'ententelaw34.RevokeStops': WHATEVER THE INPUT: true; the input reads as it did. -/
def revokeStopsSpec : ChangeSpec := { name := "revokeStops", fn := fun _ => fun
  | [d1, d2, d3] => { results := [.lit (.bool true)], args := [d1, d2, d3] }
  | _ => none }
def revokeStopsRow : OpenClaim := { program := "ytmlncblocfcmiaagreat", sum := "784ec4c1f22e19797d9057d52d18f912f03bee143d249aed5c04b9a4c01813e3", func := "entente/ententelaw34.RevokeStops", spec := "revokeStops", inPlace := ["internal/bytealg.IndexByteString", "internal/bytealg.abigen_runtime_cmpstring", "internal/bytealg.Compare"], unfollowed := true, recurses := true, plainKeys := false, apart := false }
def RevokeStopsSaid : Prop := revokeStopsRow.holds Tryz.pinned (OpenSpec.ofChange revokeStopsSpec)

/-- ITS FALSE NEIGHBOUR: 'it returns false'. Refute it at one input. -/
def revokeStopsWrong : ChangeSpec := { name := "revokeStops", fn := fun _ => fun
  | [d1, d2, d3] => { results := [.lit (.bool false)], args := [d1, d2, d3] }
  | _ => none }
def RevokeStopsWrongFalsely : Prop := revokeStopsRow.holds Tryz.pinned (OpenSpec.ofChange revokeStopsWrong)

/-- 'ententelaw06.KeysCheck': WHATEVER THE INPUT: true; the input reads as it did. -/
def keysCheckSpec : ChangeSpec := { name := "keysCheck", fn := fun _ => fun
  | [d1, d2] => { results := [.lit (.bool true)], args := [d1, d2] }
  | _ => none }
def keysCheckRow : OpenClaim := { program := "ytmlncblocfcmiaagreat", sum := "784ec4c1f22e19797d9057d52d18f912f03bee143d249aed5c04b9a4c01813e3", func := "entente/ententelaw06.KeysCheck", spec := "keysCheck", inPlace := ["internal/bytealg.IndexByteString", "internal/bytealg.abigen_runtime_cmpstring", "internal/bytealg.Compare"], unfollowed := true, recurses := true, plainKeys := false, apart := false }
def KeysCheckSaid : Prop := keysCheckRow.holds Tryz.pinned (OpenSpec.ofChange keysCheckSpec)

/-- ITS FALSE NEIGHBOUR: 'it returns false'. Refute it at one input. -/
def keysCheckWrong : ChangeSpec := { name := "keysCheck", fn := fun _ => fun
  | [d1, d2] => { results := [.lit (.bool false)], args := [d1, d2] }
  | _ => none }
def KeysCheckWrongFalsely : Prop := keysCheckRow.holds Tryz.pinned (OpenSpec.ofChange keysCheckWrong)

/-- 'ententelaw06.KeysGet': WHATEVER THE INPUT: true; the input reads as it did. -/
def keysGetSpec : ChangeSpec := { name := "keysGet", fn := fun _ => fun
  | [d1, d2] => { results := [.lit (.bool true)], args := [d1, d2] }
  | _ => none }
def keysGetRow : OpenClaim := { program := "ytmlncblocfcmiaagreat", sum := "784ec4c1f22e19797d9057d52d18f912f03bee143d249aed5c04b9a4c01813e3", func := "entente/ententelaw06.KeysGet", spec := "keysGet", inPlace := ["internal/bytealg.IndexByteString", "internal/bytealg.abigen_runtime_cmpstring", "internal/bytealg.Compare"], unfollowed := true, recurses := true, plainKeys := false, apart := false }
def KeysGetSaid : Prop := keysGetRow.holds Tryz.pinned (OpenSpec.ofChange keysGetSpec)

/-- ITS FALSE NEIGHBOUR: 'it returns false'. Refute it at one input. -/
def keysGetWrong : ChangeSpec := { name := "keysGet", fn := fun _ => fun
  | [d1, d2] => { results := [.lit (.bool false)], args := [d1, d2] }
  | _ => none }
def KeysGetWrongFalsely : Prop := keysGetRow.holds Tryz.pinned (OpenSpec.ofChange keysGetWrong)

/-- 'ententelaw43.StuckTells': WHATEVER THE INPUT: true; the input reads as it did. -/
def stuckTellsSpec : ChangeSpec := { name := "stuckTells", fn := fun _ => fun
  | [d] => { results := [.lit (.bool true)], args := [d] }
  | _ => none }
def stuckTellsRow : OpenClaim := { program := "ytmlncblocfcmiaagreat", sum := "784ec4c1f22e19797d9057d52d18f912f03bee143d249aed5c04b9a4c01813e3", func := "entente/ententelaw43.StuckTells", spec := "stuckTells", inPlace := ["internal/bytealg.IndexByteString", "internal/bytealg.abigen_runtime_cmpstring", "internal/bytealg.Compare"], unfollowed := true, recurses := true, loops := true, plainKeys := false, apart := false }
def StuckTellsSaid : Prop := stuckTellsRow.holds Tryz.pinned (OpenSpec.ofChange stuckTellsSpec)

/-- ITS FALSE NEIGHBOUR: 'it returns false'. Refute it at one input. -/
def stuckTellsWrong : ChangeSpec := { name := "stuckTells", fn := fun _ => fun
  | [d] => { results := [.lit (.bool false)], args := [d] }
  | _ => none }
def StuckTellsWrongFalsely : Prop := stuckTellsRow.holds Tryz.pinned (OpenSpec.ofChange stuckTellsWrong)

/-- 'ententelaw43.StuckWaits': WHATEVER THE INPUT: true; the input reads as it did. -/
def stuckWaitsSpec : ChangeSpec := { name := "stuckWaits", fn := fun _ => fun
  | [d] => { results := [.lit (.bool true)], args := [d] }
  | _ => none }
def stuckWaitsRow : OpenClaim := { program := "ytmlncblocfcmiaagreat", sum := "784ec4c1f22e19797d9057d52d18f912f03bee143d249aed5c04b9a4c01813e3", func := "entente/ententelaw43.StuckWaits", spec := "stuckWaits", inPlace := ["internal/bytealg.IndexByteString", "internal/bytealg.abigen_runtime_cmpstring", "internal/bytealg.Compare"], unfollowed := true, recurses := true, loops := true, plainKeys := false, apart := false }
def StuckWaitsSaid : Prop := stuckWaitsRow.holds Tryz.pinned (OpenSpec.ofChange stuckWaitsSpec)

/-- ITS FALSE NEIGHBOUR: 'it returns false'. Refute it at one input. -/
def stuckWaitsWrong : ChangeSpec := { name := "stuckWaits", fn := fun _ => fun
  | [d] => { results := [.lit (.bool false)], args := [d] }
  | _ => none }
def StuckWaitsWrongFalsely : Prop := stuckWaitsRow.holds Tryz.pinned (OpenSpec.ofChange stuckWaitsWrong)

/-- 'ententelaw32.LeastNeeds': WHATEVER THE INPUT: true; the input reads as it did. -/
def leastNeedsSpec : ChangeSpec := { name := "leastNeeds", fn := fun _ => fun
  | [d1, d2] => { results := [.lit (.bool true)], args := [d1, d2] }
  | _ => none }
def leastNeedsRow : OpenClaim := { program := "ytmlncblocfcmiaagreat", sum := "784ec4c1f22e19797d9057d52d18f912f03bee143d249aed5c04b9a4c01813e3", func := "entente/ententelaw32.LeastNeeds", spec := "leastNeeds", inPlace := ["internal/bytealg.IndexByteString", "internal/bytealg.abigen_runtime_cmpstring", "internal/bytealg.Compare"], unfollowed := true, recurses := true, loops := true, plainKeys := false, apart := false }
def LeastNeedsSaid : Prop := leastNeedsRow.holds Tryz.pinned (OpenSpec.ofChange leastNeedsSpec)

/-- ITS FALSE NEIGHBOUR: 'it returns false'. Refute it at one input. -/
def leastNeedsWrong : ChangeSpec := { name := "leastNeeds", fn := fun _ => fun
  | [d1, d2] => { results := [.lit (.bool false)], args := [d1, d2] }
  | _ => none }
def LeastNeedsWrongFalsely : Prop := leastNeedsRow.holds Tryz.pinned (OpenSpec.ofChange leastNeedsWrong)

/-- 'ententelaw32.LeastShrinks': WHATEVER THE INPUT: true; the input reads as it did. -/
def leastShrinksSpec : ChangeSpec := { name := "leastShrinks", fn := fun _ => fun
  | [d] => { results := [.lit (.bool true)], args := [d] }
  | _ => none }
def leastShrinksRow : OpenClaim := { program := "ytmlncblocfcmiaagreat", sum := "784ec4c1f22e19797d9057d52d18f912f03bee143d249aed5c04b9a4c01813e3", func := "entente/ententelaw32.LeastShrinks", spec := "leastShrinks", inPlace := ["internal/bytealg.IndexByteString", "internal/bytealg.abigen_runtime_cmpstring", "internal/bytealg.Compare"], unfollowed := true, recurses := true, loops := true, plainKeys := false, apart := false }
def LeastShrinksSaid : Prop := leastShrinksRow.holds Tryz.pinned (OpenSpec.ofChange leastShrinksSpec)

/-- ITS FALSE NEIGHBOUR: 'it returns false'. Refute it at one input. -/
def leastShrinksWrong : ChangeSpec := { name := "leastShrinks", fn := fun _ => fun
  | [d] => { results := [.lit (.bool false)], args := [d] }
  | _ => none }
def LeastShrinksWrongFalsely : Prop := leastShrinksRow.holds Tryz.pinned (OpenSpec.ofChange leastShrinksWrong)

/-- 'ententelaw32.LeastStays': WHATEVER THE INPUT: true; the input reads as it did. -/
def leastStaysSpec : ChangeSpec := { name := "leastStays", fn := fun _ => fun
  | [d] => { results := [.lit (.bool true)], args := [d] }
  | _ => none }
def leastStaysRow : OpenClaim := { program := "ytmlncblocfcmiaagreat", sum := "784ec4c1f22e19797d9057d52d18f912f03bee143d249aed5c04b9a4c01813e3", func := "entente/ententelaw32.LeastStays", spec := "leastStays", inPlace := ["internal/bytealg.IndexByteString", "internal/bytealg.abigen_runtime_cmpstring", "internal/bytealg.Compare"], unfollowed := true, recurses := true, loops := true, plainKeys := false, apart := false }
def LeastStaysSaid : Prop := leastStaysRow.holds Tryz.pinned (OpenSpec.ofChange leastStaysSpec)

/-- ITS FALSE NEIGHBOUR: 'it returns false'. Refute it at one input. -/
def leastStaysWrong : ChangeSpec := { name := "leastStays", fn := fun _ => fun
  | [d] => { results := [.lit (.bool false)], args := [d] }
  | _ => none }
def LeastStaysWrongFalsely : Prop := leastStaysRow.holds Tryz.pinned (OpenSpec.ofChange leastStaysWrong)

/-- 'ententelaw40.StrandTells': WHATEVER THE INPUT: true; the input reads as it did. -/
def strandTellsSpec : ChangeSpec := { name := "strandTells", fn := fun _ => fun
  | [d1, d2] => { results := [.lit (.bool true)], args := [d1, d2] }
  | _ => none }
def strandTellsRow : OpenClaim := { program := "ytmlncblocfcmiaagreat", sum := "784ec4c1f22e19797d9057d52d18f912f03bee143d249aed5c04b9a4c01813e3", func := "entente/ententelaw40.StrandTells", spec := "strandTells", inPlace := ["internal/bytealg.IndexByteString", "internal/bytealg.abigen_runtime_cmpstring", "internal/bytealg.Compare"], unfollowed := true, recurses := true, loops := true, plainKeys := false, apart := false }
def StrandTellsSaid : Prop := strandTellsRow.holds Tryz.pinned (OpenSpec.ofChange strandTellsSpec)

/-- ITS FALSE NEIGHBOUR: 'it returns false'. Refute it at one input. -/
def strandTellsWrong : ChangeSpec := { name := "strandTells", fn := fun _ => fun
  | [d1, d2] => { results := [.lit (.bool false)], args := [d1, d2] }
  | _ => none }
def StrandTellsWrongFalsely : Prop := strandTellsRow.holds Tryz.pinned (OpenSpec.ofChange strandTellsWrong)

/-- 'ententelaw40.StrandSums': WHATEVER THE INPUT: true; the input reads as it did. -/
def strandSumsSpec : ChangeSpec := { name := "strandSums", fn := fun _ => fun
  | [d] => { results := [.lit (.bool true)], args := [d] }
  | _ => none }
def strandSumsRow : OpenClaim := { program := "ytmlncblocfcmiaagreat", sum := "784ec4c1f22e19797d9057d52d18f912f03bee143d249aed5c04b9a4c01813e3", func := "entente/ententelaw40.StrandSums", spec := "strandSums", inPlace := ["internal/bytealg.IndexByteString", "internal/bytealg.abigen_runtime_cmpstring", "internal/bytealg.Compare"], unfollowed := true, recurses := true, loops := true, plainKeys := false, apart := false }
def StrandSumsSaid : Prop := strandSumsRow.holds Tryz.pinned (OpenSpec.ofChange strandSumsSpec)

/-- ITS FALSE NEIGHBOUR: 'it returns false'. Refute it at one input. -/
def strandSumsWrong : ChangeSpec := { name := "strandSums", fn := fun _ => fun
  | [d] => { results := [.lit (.bool false)], args := [d] }
  | _ => none }
def StrandSumsWrongFalsely : Prop := strandSumsRow.holds Tryz.pinned (OpenSpec.ofChange strandSumsWrong)

/-- 'ententelaw15.GuardRises': WHATEVER THE INPUT: true; the input reads as it did. -/
def guardRisesSpec : ChangeSpec := { name := "guardRises", fn := fun _ => fun
  | [d1, d2, d3] => { results := [.lit (.bool true)], args := [d1, d2, d3] }
  | _ => none }
def guardRisesRow : OpenClaim := { program := "ytmlncblocfcmiaagreat", sum := "784ec4c1f22e19797d9057d52d18f912f03bee143d249aed5c04b9a4c01813e3", func := "entente/ententelaw15.GuardRises", spec := "guardRises", inPlace := ["internal/bytealg.IndexByteString", "internal/bytealg.Compare", "internal/bytealg.abigen_runtime_cmpstring"], unfollowed := true, recurses := true, loops := true, plainKeys := false, apart := false }
def GuardRisesSaid : Prop := guardRisesRow.holds Tryz.pinned (OpenSpec.ofChange guardRisesSpec)

/-- ITS FALSE NEIGHBOUR: 'it returns false'. Refute it at one input. -/
def guardRisesWrong : ChangeSpec := { name := "guardRises", fn := fun _ => fun
  | [d1, d2, d3] => { results := [.lit (.bool false)], args := [d1, d2, d3] }
  | _ => none }
def GuardRisesWrongFalsely : Prop := guardRisesRow.holds Tryz.pinned (OpenSpec.ofChange guardRisesWrong)

/-- 'ententelaw21.EagerRests': WHATEVER THE INPUT: true; the input reads as it did. -/
def eagerRestsSpec : ChangeSpec := { name := "eagerRests", fn := fun _ => fun
  | [d] => { results := [.lit (.bool true)], args := [d] }
  | _ => none }
def eagerRestsRow : OpenClaim := { program := "ytmlncblocfcmiaagreat", sum := "784ec4c1f22e19797d9057d52d18f912f03bee143d249aed5c04b9a4c01813e3", func := "entente/ententelaw21.EagerRests", spec := "eagerRests", inPlace := ["internal/bytealg.IndexByteString", "internal/bytealg.abigen_runtime_cmpstring", "internal/bytealg.Compare"], unfollowed := true, recurses := true, loops := true, plainKeys := false, apart := false }
def EagerRestsSaid : Prop := eagerRestsRow.holds Tryz.pinned (OpenSpec.ofChange eagerRestsSpec)

/-- ITS FALSE NEIGHBOUR: 'it returns false'. Refute it at one input. -/
def eagerRestsWrong : ChangeSpec := { name := "eagerRests", fn := fun _ => fun
  | [d] => { results := [.lit (.bool false)], args := [d] }
  | _ => none }
def EagerRestsWrongFalsely : Prop := eagerRestsRow.holds Tryz.pinned (OpenSpec.ofChange eagerRestsWrong)

/- THE SECOND FORM. 'bulk': how many values and letters a reading holds, each counted each time it is reached (what is shared counts as often as it is met; a slice's spare places count too). A statement '..UptoSaid' is the law's where the arguments, and the package variables that the reading takes, are together of bulk at most 1048576: NARROWER than '..Said'. Prove '..Said' where nothing that the law and all that it calls make is longer than what came in: it says more and counts as full. Else prove '..UptoSaid'. A law counts once. -/
mutual
def uptoBulk {H : Type} : DataW H → Nat
  | .lit (.string bytes) => bytes.length + 1
  | .lit _ => 1
  | .nil => 1
  | .ptr d => uptoBulk d + 1
  | .slice elems spare => uptoBulkAll elems + uptoBulkAll spare + 1
  | .agg parts => uptoBulkAll parts + 1
  | .iface _ d => uptoBulk d + 1
  | .map entries => uptoBulkEntries entries + 1
  | .held _ => 1
def uptoBulkAll {H : Type} : List (DataW H) → Nat
  | [] => 0
  | d :: r => uptoBulk d + uptoBulkAll r
def uptoBulkEntries {H : Type} : List (Lit × DataW H) → Nat
  | [] => 0
  | x :: r => uptoBulkEntry x + uptoBulkEntries r
def uptoBulkEntry {H : Type} : Lit × DataW H → Nat
  | (.string bytes, d) => bytes.length + uptoBulk d + 1
  | (_, d) => uptoBulk d + 1
 end
def uptoSmall : (H : Type) → List (DataW H) → Bool := fun _ ds => decide (uptoBulkAll ds ≤ 1048576)
def OpenSpec.upto (s : _root_.Go.ChangeSpec) : _root_.Go.OpenSpec := { _root_.Go.OpenSpec.ofChange s with cond := some uptoSmall }

/-- 'ententelaw38.WeighTells', WHERE WHAT IT READS IS OF BULK AT MOST 1048576: true; the input reads as it did. -/
def weighTellsUptoRow : OpenClaim := { program := "ytmlncblocfcmiaagreat", sum := "784ec4c1f22e19797d9057d52d18f912f03bee143d249aed5c04b9a4c01813e3", func := "entente/ententelaw38.WeighTells", spec := "weighTells", inPlace := ["internal/bytealg.IndexByteString", "internal/bytealg.abigen_runtime_cmpstring", "internal/bytealg.Compare", "maps.clone"], unfollowed := true, recurses := true, plainKeys := false, apart := false, narrowed := true }
def WeighTellsUptoSaid : Prop := weighTellsUptoRow.holds Tryz.pinned (OpenSpec.upto weighTellsSpec)

/-- 'ententelaw38.WeighRanks', WHERE WHAT IT READS IS OF BULK AT MOST 1048576: true; the input reads as it did. -/
def weighRanksUptoRow : OpenClaim := { program := "ytmlncblocfcmiaagreat", sum := "784ec4c1f22e19797d9057d52d18f912f03bee143d249aed5c04b9a4c01813e3", func := "entente/ententelaw38.WeighRanks", spec := "weighRanks", inPlace := ["internal/bytealg.IndexByteString", "internal/bytealg.abigen_runtime_cmpstring", "internal/bytealg.Compare", "maps.clone"], unfollowed := true, recurses := true, plainKeys := false, apart := false, narrowed := true }
def WeighRanksUptoSaid : Prop := weighRanksUptoRow.holds Tryz.pinned (OpenSpec.upto weighRanksSpec)

/-- 'ententelaw38.WeighHolds', WHERE WHAT IT READS IS OF BULK AT MOST 1048576: true; the input reads as it did. -/
def weighHoldsUptoRow : OpenClaim := { program := "ytmlncblocfcmiaagreat", sum := "784ec4c1f22e19797d9057d52d18f912f03bee143d249aed5c04b9a4c01813e3", func := "entente/ententelaw38.WeighHolds", spec := "weighHolds", inPlace := ["internal/bytealg.IndexByteString", "internal/bytealg.abigen_runtime_cmpstring", "internal/bytealg.Compare", "maps.clone"], unfollowed := true, recurses := true, plainKeys := false, apart := false, narrowed := true }
def WeighHoldsUptoSaid : Prop := weighHoldsUptoRow.holds Tryz.pinned (OpenSpec.upto weighHoldsSpec)

/-- 'ententelaw34.RevokeTells', WHERE WHAT IT READS IS OF BULK AT MOST 1048576: true; the input reads as it did. -/
def revokeTellsUptoRow : OpenClaim := { program := "ytmlncblocfcmiaagreat", sum := "784ec4c1f22e19797d9057d52d18f912f03bee143d249aed5c04b9a4c01813e3", func := "entente/ententelaw34.RevokeTells", spec := "revokeTells", inPlace := ["internal/bytealg.IndexByteString", "internal/bytealg.abigen_runtime_cmpstring", "internal/bytealg.Compare"], unfollowed := true, recurses := true, plainKeys := false, apart := false, narrowed := true }
def RevokeTellsUptoSaid : Prop := revokeTellsUptoRow.holds Tryz.pinned (OpenSpec.upto revokeTellsSpec)

/-- 'ententelaw34.RevokeLoses', WHERE WHAT IT READS IS OF BULK AT MOST 1048576: true; the input reads as it did. -/
def revokeLosesUptoRow : OpenClaim := { program := "ytmlncblocfcmiaagreat", sum := "784ec4c1f22e19797d9057d52d18f912f03bee143d249aed5c04b9a4c01813e3", func := "entente/ententelaw34.RevokeLoses", spec := "revokeLoses", inPlace := ["internal/bytealg.IndexByteString", "internal/bytealg.abigen_runtime_cmpstring", "internal/bytealg.Compare"], unfollowed := true, recurses := true, plainKeys := false, apart := false, narrowed := true }
def RevokeLosesUptoSaid : Prop := revokeLosesUptoRow.holds Tryz.pinned (OpenSpec.upto revokeLosesSpec)

/-- 'ententelaw34.RevokeStops', WHERE WHAT IT READS IS OF BULK AT MOST 1048576: true; the input reads as it did. -/
def revokeStopsUptoRow : OpenClaim := { program := "ytmlncblocfcmiaagreat", sum := "784ec4c1f22e19797d9057d52d18f912f03bee143d249aed5c04b9a4c01813e3", func := "entente/ententelaw34.RevokeStops", spec := "revokeStops", inPlace := ["internal/bytealg.IndexByteString", "internal/bytealg.abigen_runtime_cmpstring", "internal/bytealg.Compare"], unfollowed := true, recurses := true, plainKeys := false, apart := false, narrowed := true }
def RevokeStopsUptoSaid : Prop := revokeStopsUptoRow.holds Tryz.pinned (OpenSpec.upto revokeStopsSpec)

/-- 'ententelaw06.KeysCheck', WHERE WHAT IT READS IS OF BULK AT MOST 1048576: true; the input reads as it did. -/
def keysCheckUptoRow : OpenClaim := { program := "ytmlncblocfcmiaagreat", sum := "784ec4c1f22e19797d9057d52d18f912f03bee143d249aed5c04b9a4c01813e3", func := "entente/ententelaw06.KeysCheck", spec := "keysCheck", inPlace := ["internal/bytealg.IndexByteString", "internal/bytealg.abigen_runtime_cmpstring", "internal/bytealg.Compare"], unfollowed := true, recurses := true, plainKeys := false, apart := false, narrowed := true }
def KeysCheckUptoSaid : Prop := keysCheckUptoRow.holds Tryz.pinned (OpenSpec.upto keysCheckSpec)

/-- 'ententelaw06.KeysGet', WHERE WHAT IT READS IS OF BULK AT MOST 1048576: true; the input reads as it did. -/
def keysGetUptoRow : OpenClaim := { program := "ytmlncblocfcmiaagreat", sum := "784ec4c1f22e19797d9057d52d18f912f03bee143d249aed5c04b9a4c01813e3", func := "entente/ententelaw06.KeysGet", spec := "keysGet", inPlace := ["internal/bytealg.IndexByteString", "internal/bytealg.abigen_runtime_cmpstring", "internal/bytealg.Compare"], unfollowed := true, recurses := true, plainKeys := false, apart := false, narrowed := true }
def KeysGetUptoSaid : Prop := keysGetUptoRow.holds Tryz.pinned (OpenSpec.upto keysGetSpec)

/-- 'ententelaw43.StuckTells', WHERE WHAT IT READS IS OF BULK AT MOST 1048576: true; the input reads as it did. -/
def stuckTellsUptoRow : OpenClaim := { program := "ytmlncblocfcmiaagreat", sum := "784ec4c1f22e19797d9057d52d18f912f03bee143d249aed5c04b9a4c01813e3", func := "entente/ententelaw43.StuckTells", spec := "stuckTells", inPlace := ["internal/bytealg.IndexByteString", "internal/bytealg.abigen_runtime_cmpstring", "internal/bytealg.Compare"], unfollowed := true, recurses := true, loops := true, plainKeys := false, apart := false, narrowed := true }
def StuckTellsUptoSaid : Prop := stuckTellsUptoRow.holds Tryz.pinned (OpenSpec.upto stuckTellsSpec)

/-- 'ententelaw43.StuckWaits', WHERE WHAT IT READS IS OF BULK AT MOST 1048576: true; the input reads as it did. -/
def stuckWaitsUptoRow : OpenClaim := { program := "ytmlncblocfcmiaagreat", sum := "784ec4c1f22e19797d9057d52d18f912f03bee143d249aed5c04b9a4c01813e3", func := "entente/ententelaw43.StuckWaits", spec := "stuckWaits", inPlace := ["internal/bytealg.IndexByteString", "internal/bytealg.abigen_runtime_cmpstring", "internal/bytealg.Compare"], unfollowed := true, recurses := true, loops := true, plainKeys := false, apart := false, narrowed := true }
def StuckWaitsUptoSaid : Prop := stuckWaitsUptoRow.holds Tryz.pinned (OpenSpec.upto stuckWaitsSpec)

/-- 'ententelaw32.LeastNeeds', WHERE WHAT IT READS IS OF BULK AT MOST 1048576: true; the input reads as it did. -/
def leastNeedsUptoRow : OpenClaim := { program := "ytmlncblocfcmiaagreat", sum := "784ec4c1f22e19797d9057d52d18f912f03bee143d249aed5c04b9a4c01813e3", func := "entente/ententelaw32.LeastNeeds", spec := "leastNeeds", inPlace := ["internal/bytealg.IndexByteString", "internal/bytealg.abigen_runtime_cmpstring", "internal/bytealg.Compare"], unfollowed := true, recurses := true, loops := true, plainKeys := false, apart := false, narrowed := true }
def LeastNeedsUptoSaid : Prop := leastNeedsUptoRow.holds Tryz.pinned (OpenSpec.upto leastNeedsSpec)

/-- 'ententelaw32.LeastShrinks', WHERE WHAT IT READS IS OF BULK AT MOST 1048576: true; the input reads as it did. -/
def leastShrinksUptoRow : OpenClaim := { program := "ytmlncblocfcmiaagreat", sum := "784ec4c1f22e19797d9057d52d18f912f03bee143d249aed5c04b9a4c01813e3", func := "entente/ententelaw32.LeastShrinks", spec := "leastShrinks", inPlace := ["internal/bytealg.IndexByteString", "internal/bytealg.abigen_runtime_cmpstring", "internal/bytealg.Compare"], unfollowed := true, recurses := true, loops := true, plainKeys := false, apart := false, narrowed := true }
def LeastShrinksUptoSaid : Prop := leastShrinksUptoRow.holds Tryz.pinned (OpenSpec.upto leastShrinksSpec)

/-- 'ententelaw32.LeastStays', WHERE WHAT IT READS IS OF BULK AT MOST 1048576: true; the input reads as it did. -/
def leastStaysUptoRow : OpenClaim := { program := "ytmlncblocfcmiaagreat", sum := "784ec4c1f22e19797d9057d52d18f912f03bee143d249aed5c04b9a4c01813e3", func := "entente/ententelaw32.LeastStays", spec := "leastStays", inPlace := ["internal/bytealg.IndexByteString", "internal/bytealg.abigen_runtime_cmpstring", "internal/bytealg.Compare"], unfollowed := true, recurses := true, loops := true, plainKeys := false, apart := false, narrowed := true }
def LeastStaysUptoSaid : Prop := leastStaysUptoRow.holds Tryz.pinned (OpenSpec.upto leastStaysSpec)

/-- 'ententelaw40.StrandTells', WHERE WHAT IT READS IS OF BULK AT MOST 1048576: true; the input reads as it did. -/
def strandTellsUptoRow : OpenClaim := { program := "ytmlncblocfcmiaagreat", sum := "784ec4c1f22e19797d9057d52d18f912f03bee143d249aed5c04b9a4c01813e3", func := "entente/ententelaw40.StrandTells", spec := "strandTells", inPlace := ["internal/bytealg.IndexByteString", "internal/bytealg.abigen_runtime_cmpstring", "internal/bytealg.Compare"], unfollowed := true, recurses := true, loops := true, plainKeys := false, apart := false, narrowed := true }
def StrandTellsUptoSaid : Prop := strandTellsUptoRow.holds Tryz.pinned (OpenSpec.upto strandTellsSpec)

/-- 'ententelaw40.StrandSums', WHERE WHAT IT READS IS OF BULK AT MOST 1048576: true; the input reads as it did. -/
def strandSumsUptoRow : OpenClaim := { program := "ytmlncblocfcmiaagreat", sum := "784ec4c1f22e19797d9057d52d18f912f03bee143d249aed5c04b9a4c01813e3", func := "entente/ententelaw40.StrandSums", spec := "strandSums", inPlace := ["internal/bytealg.IndexByteString", "internal/bytealg.abigen_runtime_cmpstring", "internal/bytealg.Compare"], unfollowed := true, recurses := true, loops := true, plainKeys := false, apart := false, narrowed := true }
def StrandSumsUptoSaid : Prop := strandSumsUptoRow.holds Tryz.pinned (OpenSpec.upto strandSumsSpec)

/-- 'ententelaw15.GuardRises', WHERE WHAT IT READS IS OF BULK AT MOST 1048576: true; the input reads as it did. -/
def guardRisesUptoRow : OpenClaim := { program := "ytmlncblocfcmiaagreat", sum := "784ec4c1f22e19797d9057d52d18f912f03bee143d249aed5c04b9a4c01813e3", func := "entente/ententelaw15.GuardRises", spec := "guardRises", inPlace := ["internal/bytealg.IndexByteString", "internal/bytealg.Compare", "internal/bytealg.abigen_runtime_cmpstring"], unfollowed := true, recurses := true, loops := true, plainKeys := false, apart := false, narrowed := true }
def GuardRisesUptoSaid : Prop := guardRisesUptoRow.holds Tryz.pinned (OpenSpec.upto guardRisesSpec)

/-- 'ententelaw21.EagerRests', WHERE WHAT IT READS IS OF BULK AT MOST 1048576: true; the input reads as it did. -/
def eagerRestsUptoRow : OpenClaim := { program := "ytmlncblocfcmiaagreat", sum := "784ec4c1f22e19797d9057d52d18f912f03bee143d249aed5c04b9a4c01813e3", func := "entente/ententelaw21.EagerRests", spec := "eagerRests", inPlace := ["internal/bytealg.IndexByteString", "internal/bytealg.abigen_runtime_cmpstring", "internal/bytealg.Compare"], unfollowed := true, recurses := true, loops := true, plainKeys := false, apart := false, narrowed := true }
def EagerRestsUptoSaid : Prop := eagerRestsUptoRow.holds Tryz.pinned (OpenSpec.upto eagerRestsSpec)

end Rows
end Go.Proofs.YtmlncblocfcmiaaGreat
