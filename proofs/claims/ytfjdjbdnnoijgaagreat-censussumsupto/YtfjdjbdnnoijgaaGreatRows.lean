/-
  No cell of these rows narrows 'for every input' (looked for: loops, veiled, ifaces, maps, wideKeys, modest, calm, conditions, laid).
  DERIVED. THE GIVEN ROWS OF THIS SEAT. 12 by the template 'for every input the law returns true; each argument reads behind the call as it read before'; 0 by the template 'total and deterministic' (their statements: YtfjdjbdnnoijgaaGreatTotals.lean).
  GIVEN WITH THE SEED: the statements are not yours to turn. If you find one false, say at which input.
  Laid BY PROGRAM, IN A SANDBOX (cutbox-rows.mjs): the forced cells as the released guide's own fill.sh prints them over the translation 69fae1006fece07e… (all of the seat's roots in one cut). By AI agents, Wed Nov 11 2026. No macro, syntax, notation, axiom, sorry.
-/
import Derived.Test.YtfjdjbdnnoijgaaGreatChecked
import GoSem.Claim
import GoSem.ClaimJoined
import GoSem.ClaimMapViews
import Derived.JoinedTies
import Derived.KernelRfl
namespace Go.Proofs.YtfjdjbdnnoijgaaGreat
/- THE CELL 'sum', in the pinned program and in every row, IS THE sha256 OF THE DUMP (.gsa) THAT YtfjdjbdnnoijgaaGreatProg.lean LOADS. Nothing in Lean hashes anything: it is a label: what it is worth is what the hold of that sum in a sandbox is worth. -/
noncomputable def Tryz.pinned : Pinned := { name := "ytfjdjbdnnoijgaagreat", sum := "69fae1006fece07e8288c7800cd5ceab24554dc3289c6c23692c7b667a3b6f70", checked := Tryz.checked }
namespace Rows
def none {H : Type} : Left H := { results := [], args := [] }

/-- 'ententelaw22.GraphTells': WHATEVER THE INPUT: true; the input reads as it did. -/
def graphTellsSpec : ChangeSpec := { name := "graphTells", fn := fun _ => fun
  | [d1, d2, d3] => { results := [.lit (.bool true)], args := [d1, d2, d3] }
  | _ => none }
def graphTellsRow : OpenClaim := { program := "ytfjdjbdnnoijgaagreat", sum := "69fae1006fece07e8288c7800cd5ceab24554dc3289c6c23692c7b667a3b6f70", func := "entente/ententelaw22.GraphTells", spec := "graphTells", inPlace := ["internal/bytealg.IndexByteString", "internal/bytealg.abigen_runtime_cmpstring", "internal/bytealg.Compare"], unfollowed := true, recurses := true, plainKeys := false, apart := false }
def GraphTellsSaid : Prop := graphTellsRow.holds Tryz.pinned (OpenSpec.ofChange graphTellsSpec)

/-- ITS FALSE NEIGHBOUR: 'it returns false'. Refute it at one input. -/
def graphTellsWrong : ChangeSpec := { name := "graphTells", fn := fun _ => fun
  | [d1, d2, d3] => { results := [.lit (.bool false)], args := [d1, d2, d3] }
  | _ => none }
def GraphTellsWrongFalsely : Prop := graphTellsRow.holds Tryz.pinned (OpenSpec.ofChange graphTellsWrong)

/-- 'ententelaw22.GraphEdges': WHATEVER THE INPUT: true; the input reads as it did. -/
def graphEdgesSpec : ChangeSpec := { name := "graphEdges", fn := fun _ => fun
  | [d1, d2, d3] => { results := [.lit (.bool true)], args := [d1, d2, d3] }
  | _ => none }
def graphEdgesRow : OpenClaim := { program := "ytfjdjbdnnoijgaagreat", sum := "69fae1006fece07e8288c7800cd5ceab24554dc3289c6c23692c7b667a3b6f70", func := "entente/ententelaw22.GraphEdges", spec := "graphEdges", inPlace := ["internal/bytealg.IndexByteString", "internal/bytealg.abigen_runtime_cmpstring", "internal/bytealg.Compare"], unfollowed := true, recurses := true, plainKeys := false, apart := false }
def GraphEdgesSaid : Prop := graphEdgesRow.holds Tryz.pinned (OpenSpec.ofChange graphEdgesSpec)

/-- ITS FALSE NEIGHBOUR: 'it returns false'. Refute it at one input. -/
def graphEdgesWrong : ChangeSpec := { name := "graphEdges", fn := fun _ => fun
  | [d1, d2, d3] => { results := [.lit (.bool false)], args := [d1, d2, d3] }
  | _ => none }
def GraphEdgesWrongFalsely : Prop := graphEdgesRow.holds Tryz.pinned (OpenSpec.ofChange graphEdgesWrong)

/-- 'ententelaw08.ModelTells': WHATEVER THE INPUT: true; the input reads as it did. -/
def modelTellsSpec : ChangeSpec := { name := "modelTells", fn := fun _ => fun
  | [d1, d2, d3] => { results := [.lit (.bool true)], args := [d1, d2, d3] }
  | _ => none }
def modelTellsRow : OpenClaim := { program := "ytfjdjbdnnoijgaagreat", sum := "69fae1006fece07e8288c7800cd5ceab24554dc3289c6c23692c7b667a3b6f70", func := "entente/ententelaw08.ModelTells", spec := "modelTells", inPlace := ["internal/bytealg.IndexByteString", "internal/bytealg.abigen_runtime_cmpstring"], unfollowed := true, recurses := true, plainKeys := false, apart := false }
def ModelTellsSaid : Prop := modelTellsRow.holds Tryz.pinned (OpenSpec.ofChange modelTellsSpec)

/-- ITS FALSE NEIGHBOUR: 'it returns false'. Refute it at one input. -/
def modelTellsWrong : ChangeSpec := { name := "modelTells", fn := fun _ => fun
  | [d1, d2, d3] => { results := [.lit (.bool false)], args := [d1, d2, d3] }
  | _ => none }
def ModelTellsWrongFalsely : Prop := modelTellsRow.holds Tryz.pinned (OpenSpec.ofChange modelTellsWrong)

/-- 'ententelaw41.MergeThrees': WHATEVER THE INPUT: true; the input reads as it did. -/
def mergeThreesSpec : ChangeSpec := { name := "mergeThrees", fn := fun _ => fun
  | [d1, d2, d3] => { results := [.lit (.bool true)], args := [d1, d2, d3] }
  | _ => none }
def mergeThreesRow : OpenClaim := { program := "ytfjdjbdnnoijgaagreat", sum := "69fae1006fece07e8288c7800cd5ceab24554dc3289c6c23692c7b667a3b6f70", func := "entente/ententelaw41.MergeThrees", spec := "mergeThrees", inPlace := ["internal/bytealg.IndexByteString", "internal/bytealg.abigen_runtime_cmpstring", "internal/bytealg.Compare"], unfollowed := true, recurses := true, plainKeys := false, apart := false }
def MergeThreesSaid : Prop := mergeThreesRow.holds Tryz.pinned (OpenSpec.ofChange mergeThreesSpec)

/-- ITS FALSE NEIGHBOUR: 'it returns false'. Refute it at one input. -/
def mergeThreesWrong : ChangeSpec := { name := "mergeThrees", fn := fun _ => fun
  | [d1, d2, d3] => { results := [.lit (.bool false)], args := [d1, d2, d3] }
  | _ => none }
def MergeThreesWrongFalsely : Prop := mergeThreesRow.holds Tryz.pinned (OpenSpec.ofChange mergeThreesWrong)

/-- 'ententelaw41.MergeBack': WHATEVER THE INPUT: true; the input reads as it did. -/
def mergeBackSpec : ChangeSpec := { name := "mergeBack", fn := fun _ => fun
  | [d1, d2] => { results := [.lit (.bool true)], args := [d1, d2] }
  | _ => none }
def mergeBackRow : OpenClaim := { program := "ytfjdjbdnnoijgaagreat", sum := "69fae1006fece07e8288c7800cd5ceab24554dc3289c6c23692c7b667a3b6f70", func := "entente/ententelaw41.MergeBack", spec := "mergeBack", inPlace := ["internal/bytealg.IndexByteString", "internal/bytealg.abigen_runtime_cmpstring", "internal/bytealg.Compare"], unfollowed := true, recurses := true, plainKeys := false, apart := false }
def MergeBackSaid : Prop := mergeBackRow.holds Tryz.pinned (OpenSpec.ofChange mergeBackSpec)

/-- ITS FALSE NEIGHBOUR: 'it returns false'. Refute it at one input. -/
def mergeBackWrong : ChangeSpec := { name := "mergeBack", fn := fun _ => fun
  | [d1, d2] => { results := [.lit (.bool false)], args := [d1, d2] }
  | _ => none }
def MergeBackWrongFalsely : Prop := mergeBackRow.holds Tryz.pinned (OpenSpec.ofChange mergeBackWrong)

/-- 'ententelaw22.GraphHolds': WHATEVER THE INPUT: true; the input reads as it did. -/
def graphHoldsSpec : ChangeSpec := { name := "graphHolds", fn := fun _ => fun
  | [d1, d2] => { results := [.lit (.bool true)], args := [d1, d2] }
  | _ => none }
def graphHoldsRow : OpenClaim := { program := "ytfjdjbdnnoijgaagreat", sum := "69fae1006fece07e8288c7800cd5ceab24554dc3289c6c23692c7b667a3b6f70", func := "entente/ententelaw22.GraphHolds", spec := "graphHolds", inPlace := ["internal/bytealg.IndexByteString", "internal/bytealg.abigen_runtime_cmpstring", "internal/bytealg.Compare"], unfollowed := true, recurses := true, plainKeys := false, apart := false }
def GraphHoldsSaid : Prop := graphHoldsRow.holds Tryz.pinned (OpenSpec.ofChange graphHoldsSpec)

/-- ITS FALSE NEIGHBOUR: 'it returns false'. Refute it at one input. -/
def graphHoldsWrong : ChangeSpec := { name := "graphHolds", fn := fun _ => fun
  | [d1, d2] => { results := [.lit (.bool false)], args := [d1, d2] }
  | _ => none }
def GraphHoldsWrongFalsely : Prop := graphHoldsRow.holds Tryz.pinned (OpenSpec.ofChange graphHoldsWrong)

/-- 'ententelaw10.ChainFinds': WHATEVER THE INPUT: true; the input reads as it did. -/
def chainFindsSpec : ChangeSpec := { name := "chainFinds", fn := fun _ => fun
  | [d1, d2] => { results := [.lit (.bool true)], args := [d1, d2] }
  | _ => none }
def chainFindsRow : OpenClaim := { program := "ytfjdjbdnnoijgaagreat", sum := "69fae1006fece07e8288c7800cd5ceab24554dc3289c6c23692c7b667a3b6f70", func := "entente/ententelaw10.ChainFinds", spec := "chainFinds", inPlace := ["internal/bytealg.IndexByteString", "internal/bytealg.abigen_runtime_cmpstring", "internal/bytealg.Compare"], unfollowed := true, recurses := true, plainKeys := false, apart := false }
def ChainFindsSaid : Prop := chainFindsRow.holds Tryz.pinned (OpenSpec.ofChange chainFindsSpec)

/-- ITS FALSE NEIGHBOUR: 'it returns false'. Refute it at one input. -/
def chainFindsWrong : ChangeSpec := { name := "chainFinds", fn := fun _ => fun
  | [d1, d2] => { results := [.lit (.bool false)], args := [d1, d2] }
  | _ => none }
def ChainFindsWrongFalsely : Prop := chainFindsRow.holds Tryz.pinned (OpenSpec.ofChange chainFindsWrong)

/-- 'ententelaw10.ChainUses': WHATEVER THE INPUT: true; the input reads as it did. -/
def chainUsesSpec : ChangeSpec := { name := "chainUses", fn := fun _ => fun
  | [d] => { results := [.lit (.bool true)], args := [d] }
  | _ => none }
def chainUsesRow : OpenClaim := { program := "ytfjdjbdnnoijgaagreat", sum := "69fae1006fece07e8288c7800cd5ceab24554dc3289c6c23692c7b667a3b6f70", func := "entente/ententelaw10.ChainUses", spec := "chainUses", inPlace := ["internal/bytealg.IndexByteString", "internal/bytealg.abigen_runtime_cmpstring", "internal/bytealg.Compare"], unfollowed := true, recurses := true, plainKeys := false, apart := false }
def ChainUsesSaid : Prop := chainUsesRow.holds Tryz.pinned (OpenSpec.ofChange chainUsesSpec)

/-- ITS FALSE NEIGHBOUR: 'it returns false'. Refute it at one input. -/
def chainUsesWrong : ChangeSpec := { name := "chainUses", fn := fun _ => fun
  | [d] => { results := [.lit (.bool false)], args := [d] }
  | _ => none }
def ChainUsesWrongFalsely : Prop := chainUsesRow.holds Tryz.pinned (OpenSpec.ofChange chainUsesWrong)

/-- 'ententelaw10.ChainStands': WHATEVER THE INPUT: true; the input reads as it did. -/
def chainStandsSpec : ChangeSpec := { name := "chainStands", fn := fun _ => fun
  | [d1, d2] => { results := [.lit (.bool true)], args := [d1, d2] }
  | _ => none }
def chainStandsRow : OpenClaim := { program := "ytfjdjbdnnoijgaagreat", sum := "69fae1006fece07e8288c7800cd5ceab24554dc3289c6c23692c7b667a3b6f70", func := "entente/ententelaw10.ChainStands", spec := "chainStands", inPlace := ["internal/bytealg.IndexByteString", "internal/bytealg.abigen_runtime_cmpstring", "internal/bytealg.Compare"], unfollowed := true, recurses := true, plainKeys := false, apart := false }
def ChainStandsSaid : Prop := chainStandsRow.holds Tryz.pinned (OpenSpec.ofChange chainStandsSpec)

/-- ITS FALSE NEIGHBOUR: 'it returns false'. Refute it at one input. -/
def chainStandsWrong : ChangeSpec := { name := "chainStands", fn := fun _ => fun
  | [d1, d2] => { results := [.lit (.bool false)], args := [d1, d2] }
  | _ => none }
def ChainStandsWrongFalsely : Prop := chainStandsRow.holds Tryz.pinned (OpenSpec.ofChange chainStandsWrong)

/-- 'ententelaw47.CensusCounts': WHATEVER THE INPUT: true; the input reads as it did. -/
def censusCountsSpec : ChangeSpec := { name := "censusCounts", fn := fun _ => fun
  | [d1, d2] => { results := [.lit (.bool true)], args := [d1, d2] }
  | _ => none }
def censusCountsRow : OpenClaim := { program := "ytfjdjbdnnoijgaagreat", sum := "69fae1006fece07e8288c7800cd5ceab24554dc3289c6c23692c7b667a3b6f70", func := "entente/ententelaw47.CensusCounts", spec := "censusCounts", inPlace := ["internal/bytealg.IndexByteString", "internal/bytealg.abigen_runtime_cmpstring", "internal/bytealg.Compare"], unfollowed := true, recurses := true, plainKeys := false, apart := false }
def CensusCountsSaid : Prop := censusCountsRow.holds Tryz.pinned (OpenSpec.ofChange censusCountsSpec)

/-- ITS FALSE NEIGHBOUR: 'it returns false'. Refute it at one input. -/
def censusCountsWrong : ChangeSpec := { name := "censusCounts", fn := fun _ => fun
  | [d1, d2] => { results := [.lit (.bool false)], args := [d1, d2] }
  | _ => none }
def CensusCountsWrongFalsely : Prop := censusCountsRow.holds Tryz.pinned (OpenSpec.ofChange censusCountsWrong)

/-- 'ententelaw47.CensusReaches': WHATEVER THE INPUT: true; the input reads as it did. -/
def censusReachesSpec : ChangeSpec := { name := "censusReaches", fn := fun _ => fun
  | [d1, d2, d3] => { results := [.lit (.bool true)], args := [d1, d2, d3] }
  | _ => none }
def censusReachesRow : OpenClaim := { program := "ytfjdjbdnnoijgaagreat", sum := "69fae1006fece07e8288c7800cd5ceab24554dc3289c6c23692c7b667a3b6f70", func := "entente/ententelaw47.CensusReaches", spec := "censusReaches", inPlace := ["internal/bytealg.IndexByteString", "internal/bytealg.abigen_runtime_cmpstring", "internal/bytealg.Compare"], unfollowed := true, recurses := true, plainKeys := false, apart := false }
def CensusReachesSaid : Prop := censusReachesRow.holds Tryz.pinned (OpenSpec.ofChange censusReachesSpec)

/-- ITS FALSE NEIGHBOUR: 'it returns false'. Refute it at one input. -/
def censusReachesWrong : ChangeSpec := { name := "censusReaches", fn := fun _ => fun
  | [d1, d2, d3] => { results := [.lit (.bool false)], args := [d1, d2, d3] }
  | _ => none }
def CensusReachesWrongFalsely : Prop := censusReachesRow.holds Tryz.pinned (OpenSpec.ofChange censusReachesWrong)

/-- 'ententelaw47.CensusSums': WHATEVER THE INPUT: true; the input reads as it did. -/
def censusSumsSpec : ChangeSpec := { name := "censusSums", fn := fun _ => fun
  | [d] => { results := [.lit (.bool true)], args := [d] }
  | _ => none }
def censusSumsRow : OpenClaim := { program := "ytfjdjbdnnoijgaagreat", sum := "69fae1006fece07e8288c7800cd5ceab24554dc3289c6c23692c7b667a3b6f70", func := "entente/ententelaw47.CensusSums", spec := "censusSums", inPlace := ["internal/bytealg.IndexByteString", "internal/bytealg.abigen_runtime_cmpstring", "internal/bytealg.Compare"], unfollowed := true, recurses := true, plainKeys := false, apart := false }
def CensusSumsSaid : Prop := censusSumsRow.holds Tryz.pinned (OpenSpec.ofChange censusSumsSpec)

/-- ITS FALSE NEIGHBOUR: 'it returns false'. Refute it at one input. -/
def censusSumsWrong : ChangeSpec := { name := "censusSums", fn := fun _ => fun
  | [d] => { results := [.lit (.bool false)], args := [d] }
  | _ => none }
def CensusSumsWrongFalsely : Prop := censusSumsRow.holds Tryz.pinned (OpenSpec.ofChange censusSumsWrong)

/- THE SECOND FORM. 'bulk': how many values and letters a reading holds, each counted each time it is reached (what is shared counts as often as it is met; a slice's spare places count too). A statement '..UptoSaid' is the law's where the arguments, and the package variables that the reading takes, are together of bulk at most 1048576: NARROWER than '..Said'. Prove '..Said' where nothing that the law and all that it calls make is longer than what came in: it says more and counts as full. Else prove '..UptoSaid'. A law counts once. -/
mutual
def uptoBulk {H : Type} : DataW H → Nat
  | .lit (.string bytes) => bytes.length + 1
  | .lit _ => 1
  | .nil => 1
  | .ptr d => uptoBulk d + 1
  | .slice elems spare => uptoBulkAll elems + uptoBulkAll spare + 1
  | .agg parts => uptoBulkAll parts + 1
  | .iface _ d => uptoBulk d + 1
  | .map entries => uptoBulkEntries entries + 1
  | .held _ => 1
def uptoBulkAll {H : Type} : List (DataW H) → Nat
  | [] => 0
  | d :: r => uptoBulk d + uptoBulkAll r
def uptoBulkEntries {H : Type} : List (Lit × DataW H) → Nat
  | [] => 0
  | x :: r => uptoBulkEntry x + uptoBulkEntries r
def uptoBulkEntry {H : Type} : Lit × DataW H → Nat
  | (.string bytes, d) => bytes.length + uptoBulk d + 1
  | (_, d) => uptoBulk d + 1
 end
def uptoSmall : (H : Type) → List (DataW H) → Bool := fun _ ds => decide (uptoBulkAll ds ≤ 1048576)
def OpenSpec.upto (s : _root_.Go.ChangeSpec) : _root_.Go.OpenSpec := { _root_.Go.OpenSpec.ofChange s with cond := some uptoSmall }

/-- 'ententelaw22.GraphTells', WHERE WHAT IT READS IS OF BULK AT MOST 1048576: true; the input reads as it did. -/
def graphTellsUptoRow : OpenClaim := { program := "ytfjdjbdnnoijgaagreat", sum := "69fae1006fece07e8288c7800cd5ceab24554dc3289c6c23692c7b667a3b6f70", func := "entente/ententelaw22.GraphTells", spec := "graphTells", inPlace := ["internal/bytealg.IndexByteString", "internal/bytealg.abigen_runtime_cmpstring", "internal/bytealg.Compare"], unfollowed := true, recurses := true, plainKeys := false, apart := false, narrowed := true }
def GraphTellsUptoSaid : Prop := graphTellsUptoRow.holds Tryz.pinned (OpenSpec.upto graphTellsSpec)

/-- 'ententelaw22.GraphEdges', WHERE WHAT IT READS IS OF BULK AT MOST 1048576: true; the input reads as it did. -/
def graphEdgesUptoRow : OpenClaim := { program := "ytfjdjbdnnoijgaagreat", sum := "69fae1006fece07e8288c7800cd5ceab24554dc3289c6c23692c7b667a3b6f70", func := "entente/ententelaw22.GraphEdges", spec := "graphEdges", inPlace := ["internal/bytealg.IndexByteString", "internal/bytealg.abigen_runtime_cmpstring", "internal/bytealg.Compare"], unfollowed := true, recurses := true, plainKeys := false, apart := false, narrowed := true }
def GraphEdgesUptoSaid : Prop := graphEdgesUptoRow.holds Tryz.pinned (OpenSpec.upto graphEdgesSpec)

/-- 'ententelaw08.ModelTells', WHERE WHAT IT READS IS OF BULK AT MOST 1048576: true; the input reads as it did. -/
def modelTellsUptoRow : OpenClaim := { program := "ytfjdjbdnnoijgaagreat", sum := "69fae1006fece07e8288c7800cd5ceab24554dc3289c6c23692c7b667a3b6f70", func := "entente/ententelaw08.ModelTells", spec := "modelTells", inPlace := ["internal/bytealg.IndexByteString", "internal/bytealg.abigen_runtime_cmpstring"], unfollowed := true, recurses := true, plainKeys := false, apart := false, narrowed := true }
def ModelTellsUptoSaid : Prop := modelTellsUptoRow.holds Tryz.pinned (OpenSpec.upto modelTellsSpec)

/-- 'ententelaw41.MergeThrees', WHERE WHAT IT READS IS OF BULK AT MOST 1048576: true; the input reads as it did. -/
def mergeThreesUptoRow : OpenClaim := { program := "ytfjdjbdnnoijgaagreat", sum := "69fae1006fece07e8288c7800cd5ceab24554dc3289c6c23692c7b667a3b6f70", func := "entente/ententelaw41.MergeThrees", spec := "mergeThrees", inPlace := ["internal/bytealg.IndexByteString", "internal/bytealg.abigen_runtime_cmpstring", "internal/bytealg.Compare"], unfollowed := true, recurses := true, plainKeys := false, apart := false, narrowed := true }
def MergeThreesUptoSaid : Prop := mergeThreesUptoRow.holds Tryz.pinned (OpenSpec.upto mergeThreesSpec)

/-- 'ententelaw41.MergeBack', WHERE WHAT IT READS IS OF BULK AT MOST 1048576: true; the input reads as it did. -/
def mergeBackUptoRow : OpenClaim := { program := "ytfjdjbdnnoijgaagreat", sum := "69fae1006fece07e8288c7800cd5ceab24554dc3289c6c23692c7b667a3b6f70", func := "entente/ententelaw41.MergeBack", spec := "mergeBack", inPlace := ["internal/bytealg.IndexByteString", "internal/bytealg.abigen_runtime_cmpstring", "internal/bytealg.Compare"], unfollowed := true, recurses := true, plainKeys := false, apart := false, narrowed := true }
def MergeBackUptoSaid : Prop := mergeBackUptoRow.holds Tryz.pinned (OpenSpec.upto mergeBackSpec)

/-- 'ententelaw22.GraphHolds', WHERE WHAT IT READS IS OF BULK AT MOST 1048576: true; the input reads as it did. -/
def graphHoldsUptoRow : OpenClaim := { program := "ytfjdjbdnnoijgaagreat", sum := "69fae1006fece07e8288c7800cd5ceab24554dc3289c6c23692c7b667a3b6f70", func := "entente/ententelaw22.GraphHolds", spec := "graphHolds", inPlace := ["internal/bytealg.IndexByteString", "internal/bytealg.abigen_runtime_cmpstring", "internal/bytealg.Compare"], unfollowed := true, recurses := true, plainKeys := false, apart := false, narrowed := true }
def GraphHoldsUptoSaid : Prop := graphHoldsUptoRow.holds Tryz.pinned (OpenSpec.upto graphHoldsSpec)

/-- 'ententelaw10.ChainFinds', WHERE WHAT IT READS IS OF BULK AT MOST 1048576: true; the input reads as it did. -/
def chainFindsUptoRow : OpenClaim := { program := "ytfjdjbdnnoijgaagreat", sum := "69fae1006fece07e8288c7800cd5ceab24554dc3289c6c23692c7b667a3b6f70", func := "entente/ententelaw10.ChainFinds", spec := "chainFinds", inPlace := ["internal/bytealg.IndexByteString", "internal/bytealg.abigen_runtime_cmpstring", "internal/bytealg.Compare"], unfollowed := true, recurses := true, plainKeys := false, apart := false, narrowed := true }
def ChainFindsUptoSaid : Prop := chainFindsUptoRow.holds Tryz.pinned (OpenSpec.upto chainFindsSpec)

/-- 'ententelaw10.ChainUses', WHERE WHAT IT READS IS OF BULK AT MOST 1048576: true; the input reads as it did. -/
def chainUsesUptoRow : OpenClaim := { program := "ytfjdjbdnnoijgaagreat", sum := "69fae1006fece07e8288c7800cd5ceab24554dc3289c6c23692c7b667a3b6f70", func := "entente/ententelaw10.ChainUses", spec := "chainUses", inPlace := ["internal/bytealg.IndexByteString", "internal/bytealg.abigen_runtime_cmpstring", "internal/bytealg.Compare"], unfollowed := true, recurses := true, plainKeys := false, apart := false, narrowed := true }
def ChainUsesUptoSaid : Prop := chainUsesUptoRow.holds Tryz.pinned (OpenSpec.upto chainUsesSpec)

/-- 'ententelaw10.ChainStands', WHERE WHAT IT READS IS OF BULK AT MOST 1048576: true; the input reads as it did. -/
def chainStandsUptoRow : OpenClaim := { program := "ytfjdjbdnnoijgaagreat", sum := "69fae1006fece07e8288c7800cd5ceab24554dc3289c6c23692c7b667a3b6f70", func := "entente/ententelaw10.ChainStands", spec := "chainStands", inPlace := ["internal/bytealg.IndexByteString", "internal/bytealg.abigen_runtime_cmpstring", "internal/bytealg.Compare"], unfollowed := true, recurses := true, plainKeys := false, apart := false, narrowed := true }
def ChainStandsUptoSaid : Prop := chainStandsUptoRow.holds Tryz.pinned (OpenSpec.upto chainStandsSpec)

/-- 'ententelaw47.CensusCounts', WHERE WHAT IT READS IS OF BULK AT MOST 1048576: true; the input reads as it did. -/
def censusCountsUptoRow : OpenClaim := { program := "ytfjdjbdnnoijgaagreat", sum := "69fae1006fece07e8288c7800cd5ceab24554dc3289c6c23692c7b667a3b6f70", func := "entente/ententelaw47.CensusCounts", spec := "censusCounts", inPlace := ["internal/bytealg.IndexByteString", "internal/bytealg.abigen_runtime_cmpstring", "internal/bytealg.Compare"], unfollowed := true, recurses := true, plainKeys := false, apart := false, narrowed := true }
def CensusCountsUptoSaid : Prop := censusCountsUptoRow.holds Tryz.pinned (OpenSpec.upto censusCountsSpec)

/-- 'ententelaw47.CensusReaches', WHERE WHAT IT READS IS OF BULK AT MOST 1048576: true; the input reads as it did. -/
def censusReachesUptoRow : OpenClaim := { program := "ytfjdjbdnnoijgaagreat", sum := "69fae1006fece07e8288c7800cd5ceab24554dc3289c6c23692c7b667a3b6f70", func := "entente/ententelaw47.CensusReaches", spec := "censusReaches", inPlace := ["internal/bytealg.IndexByteString", "internal/bytealg.abigen_runtime_cmpstring", "internal/bytealg.Compare"], unfollowed := true, recurses := true, plainKeys := false, apart := false, narrowed := true }
def CensusReachesUptoSaid : Prop := censusReachesUptoRow.holds Tryz.pinned (OpenSpec.upto censusReachesSpec)

/-- 'ententelaw47.CensusSums', WHERE WHAT IT READS IS OF BULK AT MOST 1048576: true; the input reads as it did. -/
def censusSumsUptoRow : OpenClaim := { program := "ytfjdjbdnnoijgaagreat", sum := "69fae1006fece07e8288c7800cd5ceab24554dc3289c6c23692c7b667a3b6f70", func := "entente/ententelaw47.CensusSums", spec := "censusSums", inPlace := ["internal/bytealg.IndexByteString", "internal/bytealg.abigen_runtime_cmpstring", "internal/bytealg.Compare"], unfollowed := true, recurses := true, plainKeys := false, apart := false, narrowed := true }
def CensusSumsUptoSaid : Prop := censusSumsUptoRow.holds Tryz.pinned (OpenSpec.upto censusSumsSpec)

end Rows
end Go.Proofs.YtfjdjbdnnoijgaaGreat
