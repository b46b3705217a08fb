/-
  NARROWER THAN 'FOR EVERY INPUT', by the rows' own cells (each row's printed sentence says how): OutcomeTells: loops · OutcomeChecks: loops · OutcomeProves: loops.
  DERIVED. THE GIVEN ROWS OF THIS SEAT. 7 by the template 'for every input the law returns true; each argument reads behind the call as it read before'; 0 by the template 'total and deterministic' (their statements: YtbnbdigcbldfhaaGreatTotals.lean).
  GIVEN WITH THE SEED: the statements are not yours to turn. If you find one false, say at which input.
  Laid BY PROGRAM, IN A SANDBOX (cutbox-rows.mjs): the forced cells as the released guide's own fill.sh prints them over the translation f675e316fb4d0de6… (all of the seat's roots in one cut). By AI agents, Wed Nov 11 2026. No macro, syntax, notation, axiom, sorry.
-/
import Derived.Test.YtbnbdigcbldfhaaGreatChecked
import GoSem.Claim
import GoSem.ClaimJoined
import GoSem.ClaimMapViews
import Derived.JoinedTies
import Derived.KernelRfl
namespace Go.Proofs.YtbnbdigcbldfhaaGreat
/- THE CELL 'sum', in the pinned program and in every row, IS THE sha256 OF THE DUMP (.gsa) THAT YtbnbdigcbldfhaaGreatProg.lean LOADS. Nothing in Lean hashes anything: it is a label: what it is worth is what the hold of that sum in a sandbox is worth. -/
noncomputable def Tryz.pinned : Pinned := { name := "ytbnbdigcbldfhaagreat", sum := "f675e316fb4d0de644a8509a11429286e849790029810814625efdfb956902d6", checked := Tryz.checked }
namespace Rows
def none {H : Type} : Left H := { results := [], args := [] }

/-- 'ententelaw38.WeighTells': WHATEVER THE INPUT: true; the input reads as it did. -/
def weighTellsSpec : ChangeSpec := { name := "weighTells", fn := fun _ => fun
  | [d] => { results := [.lit (.bool true)], args := [d] }
  | _ => none }
def weighTellsRow : OpenClaim := { program := "ytbnbdigcbldfhaagreat", sum := "f675e316fb4d0de644a8509a11429286e849790029810814625efdfb956902d6", func := "entente/ententelaw38.WeighTells", spec := "weighTells", inPlace := ["internal/bytealg.IndexByteString", "internal/bytealg.abigen_runtime_cmpstring", "internal/bytealg.Compare", "maps.clone"], unfollowed := true, recurses := true, plainKeys := false, apart := false }
def WeighTellsSaid : Prop := weighTellsRow.holds Tryz.pinned (OpenSpec.ofChange weighTellsSpec)

/-- ITS FALSE NEIGHBOUR: 'it returns false'. Refute it at one input. -/
def weighTellsWrong : ChangeSpec := { name := "weighTells", fn := fun _ => fun
  | [d] => { results := [.lit (.bool false)], args := [d] }
  | _ => none }
def WeighTellsWrongFalsely : Prop := weighTellsRow.holds Tryz.pinned (OpenSpec.ofChange weighTellsWrong)

/-- 'ententelaw38.WeighRanks': WHATEVER THE INPUT: true; the input reads as it did. -/
def weighRanksSpec : ChangeSpec := { name := "weighRanks", fn := fun _ => fun
  | [d1, d2] => { results := [.lit (.bool true)], args := [d1, d2] }
  | _ => none }
def weighRanksRow : OpenClaim := { program := "ytbnbdigcbldfhaagreat", sum := "f675e316fb4d0de644a8509a11429286e849790029810814625efdfb956902d6", func := "entente/ententelaw38.WeighRanks", spec := "weighRanks", inPlace := ["internal/bytealg.IndexByteString", "internal/bytealg.abigen_runtime_cmpstring", "internal/bytealg.Compare", "maps.clone"], unfollowed := true, recurses := true, plainKeys := false, apart := false }
def WeighRanksSaid : Prop := weighRanksRow.holds Tryz.pinned (OpenSpec.ofChange weighRanksSpec)

/-- ITS FALSE NEIGHBOUR: 'it returns false'. Refute it at one input. -/
def weighRanksWrong : ChangeSpec := { name := "weighRanks", fn := fun _ => fun
  | [d1, d2] => { results := [.lit (.bool false)], args := [d1, d2] }
  | _ => none }
def WeighRanksWrongFalsely : Prop := weighRanksRow.holds Tryz.pinned (OpenSpec.ofChange weighRanksWrong)

/-- 'ententelaw38.WeighHolds': WHATEVER THE INPUT: true; the input reads as it did. -/
def weighHoldsSpec : ChangeSpec := { name := "weighHolds", fn := fun _ => fun
  | [d1, d2] => { results := [.lit (.bool true)], args := [d1, d2] }
  | _ => none }
def weighHoldsRow : OpenClaim := { program := "ytbnbdigcbldfhaagreat", sum := "f675e316fb4d0de644a8509a11429286e849790029810814625efdfb956902d6", func := "entente/ententelaw38.WeighHolds", spec := "weighHolds", inPlace := ["internal/bytealg.IndexByteString", "internal/bytealg.abigen_runtime_cmpstring", "internal/bytealg.Compare", "maps.clone"], unfollowed := true, recurses := true, plainKeys := false, apart := false }
def WeighHoldsSaid : Prop := weighHoldsRow.holds Tryz.pinned (OpenSpec.ofChange weighHoldsSpec)

/-- ITS FALSE NEIGHBOUR: 'it returns false'. Refute it at one input. -/
def weighHoldsWrong : ChangeSpec := { name := "weighHolds", fn := fun _ => fun
  | [d1, d2] => { results := [.lit (.bool false)], args := [d1, d2] }
  | _ => none }
def WeighHoldsWrongFalsely : Prop := weighHoldsRow.holds Tryz.pinned (OpenSpec.ofChange weighHoldsWrong)

/-- 'ententelaw28.OutcomeTells': WHATEVER THE INPUT: true; the input reads as it did. -/
def outcomeTellsSpec : ChangeSpec := { name := "outcomeTells", fn := fun _ => fun
  | [d] => { results := [.lit (.bool true)], args := [d] }
  | _ => none }
def outcomeTellsRow : OpenClaim := { program := "ytbnbdigcbldfhaagreat", sum := "f675e316fb4d0de644a8509a11429286e849790029810814625efdfb956902d6", func := "entente/ententelaw28.OutcomeTells", spec := "outcomeTells", inPlace := ["internal/bytealg.IndexByteString", "internal/bytealg.abigen_runtime_cmpstring", "internal/bytealg.Compare"], unfollowed := true, recurses := true, loops := true, plainKeys := false, apart := false }
def OutcomeTellsSaid : Prop := outcomeTellsRow.holds Tryz.pinned (OpenSpec.ofChange outcomeTellsSpec)

/-- ITS FALSE NEIGHBOUR: 'it returns false'. Refute it at one input. -/
def outcomeTellsWrong : ChangeSpec := { name := "outcomeTells", fn := fun _ => fun
  | [d] => { results := [.lit (.bool false)], args := [d] }
  | _ => none }
def OutcomeTellsWrongFalsely : Prop := outcomeTellsRow.holds Tryz.pinned (OpenSpec.ofChange outcomeTellsWrong)

/-- 'ententelaw28.OutcomeChecks': WHATEVER THE INPUT: true; the input reads as it did. -/
def outcomeChecksSpec : ChangeSpec := { name := "outcomeChecks", fn := fun _ => fun
  | [d] => { results := [.lit (.bool true)], args := [d] }
  | _ => none }
def outcomeChecksRow : OpenClaim := { program := "ytbnbdigcbldfhaagreat", sum := "f675e316fb4d0de644a8509a11429286e849790029810814625efdfb956902d6", func := "entente/ententelaw28.OutcomeChecks", spec := "outcomeChecks", inPlace := ["internal/bytealg.IndexByteString", "internal/bytealg.abigen_runtime_cmpstring", "internal/bytealg.Compare"], unfollowed := true, recurses := true, loops := true, plainKeys := false, apart := false }
def OutcomeChecksSaid : Prop := outcomeChecksRow.holds Tryz.pinned (OpenSpec.ofChange outcomeChecksSpec)

/-- ITS FALSE NEIGHBOUR: 'it returns false'. Refute it at one input. -/
def outcomeChecksWrong : ChangeSpec := { name := "outcomeChecks", fn := fun _ => fun
  | [d] => { results := [.lit (.bool false)], args := [d] }
  | _ => none }
def OutcomeChecksWrongFalsely : Prop := outcomeChecksRow.holds Tryz.pinned (OpenSpec.ofChange outcomeChecksWrong)

/-- 'ententelaw28.OutcomeGets': WHATEVER THE INPUT: true; the input reads as it did. -/
def outcomeGetsSpec : ChangeSpec := { name := "outcomeGets", fn := fun _ => fun
  | [d1, d2, d3] => { results := [.lit (.bool true)], args := [d1, d2, d3] }
  | _ => none }
def outcomeGetsRow : OpenClaim := { program := "ytbnbdigcbldfhaagreat", sum := "f675e316fb4d0de644a8509a11429286e849790029810814625efdfb956902d6", func := "entente/ententelaw28.OutcomeGets", spec := "outcomeGets", inPlace := ["internal/bytealg.IndexByteString", "internal/bytealg.abigen_runtime_cmpstring", "internal/bytealg.Compare"], unfollowed := true, recurses := true, plainKeys := false, apart := false }
def OutcomeGetsSaid : Prop := outcomeGetsRow.holds Tryz.pinned (OpenSpec.ofChange outcomeGetsSpec)

/-- ITS FALSE NEIGHBOUR: 'it returns false'. Refute it at one input. -/
def outcomeGetsWrong : ChangeSpec := { name := "outcomeGets", fn := fun _ => fun
  | [d1, d2, d3] => { results := [.lit (.bool false)], args := [d1, d2, d3] }
  | _ => none }
def OutcomeGetsWrongFalsely : Prop := outcomeGetsRow.holds Tryz.pinned (OpenSpec.ofChange outcomeGetsWrong)

/-- 'ententelaw28.OutcomeProves': WHATEVER THE INPUT: true; the input reads as it did. -/
def outcomeProvesSpec : ChangeSpec := { name := "outcomeProves", fn := fun _ => fun
  | [d] => { results := [.lit (.bool true)], args := [d] }
  | _ => none }
def outcomeProvesRow : OpenClaim := { program := "ytbnbdigcbldfhaagreat", sum := "f675e316fb4d0de644a8509a11429286e849790029810814625efdfb956902d6", func := "entente/ententelaw28.OutcomeProves", spec := "outcomeProves", inPlace := ["internal/bytealg.IndexByteString", "internal/bytealg.abigen_runtime_cmpstring", "internal/bytealg.Compare"], unfollowed := true, recurses := true, loops := true, plainKeys := false, apart := false }
def OutcomeProvesSaid : Prop := outcomeProvesRow.holds Tryz.pinned (OpenSpec.ofChange outcomeProvesSpec)

/-- ITS FALSE NEIGHBOUR: 'it returns false'. Refute it at one input. -/
def outcomeProvesWrong : ChangeSpec := { name := "outcomeProves", fn := fun _ => fun
  | [d] => { results := [.lit (.bool false)], args := [d] }
  | _ => none }
def OutcomeProvesWrongFalsely : Prop := outcomeProvesRow.holds Tryz.pinned (OpenSpec.ofChange outcomeProvesWrong)

/- THE SECOND FORM. 'bulk': how many values and letters a reading holds, each counted each time it is reached (what is shared counts as often as it is met; a slice's spare places count too). A statement '..UptoSaid' is the law's where the arguments, and the package variables that the reading takes, are together of bulk at most 1048576: NARROWER than '..Said'. Prove '..Said' where nothing that the law and all that it calls make is longer than what came in: it says more and counts as full. Else prove '..UptoSaid'. A law counts once. -/
mutual
def uptoBulk {H : Type} : DataW H → Nat
  | .lit (.string bytes) => bytes.length + 1
  | .lit _ => 1
  | .nil => 1
  | .ptr d => uptoBulk d + 1
  | .slice elems spare => uptoBulkAll elems + uptoBulkAll spare + 1
  | .agg parts => uptoBulkAll parts + 1
  | .iface _ d => uptoBulk d + 1
  | .map entries => uptoBulkEntries entries + 1
  | .held _ => 1
def uptoBulkAll {H : Type} : List (DataW H) → Nat
  | [] => 0
  | d :: r => uptoBulk d + uptoBulkAll r
def uptoBulkEntries {H : Type} : List (Lit × DataW H) → Nat
  | [] => 0
  | x :: r => uptoBulkEntry x + uptoBulkEntries r
def uptoBulkEntry {H : Type} : Lit × DataW H → Nat
  | (.string bytes, d) => bytes.length + uptoBulk d + 1
  | (_, d) => uptoBulk d + 1
 end
def uptoSmall : (H : Type) → List (DataW H) → Bool := fun _ ds => decide (uptoBulkAll ds ≤ 1048576)
def OpenSpec.upto (s : _root_.Go.ChangeSpec) : _root_.Go.OpenSpec := { _root_.Go.OpenSpec.ofChange s with cond := some uptoSmall }

/-- 'ententelaw38.WeighTells', WHERE WHAT IT READS IS OF BULK AT MOST 1048576: true; the input reads as it did. -/
def weighTellsUptoRow : OpenClaim := { program := "ytbnbdigcbldfhaagreat", sum := "f675e316fb4d0de644a8509a11429286e849790029810814625efdfb956902d6", func := "entente/ententelaw38.WeighTells", spec := "weighTells", inPlace := ["internal/bytealg.IndexByteString", "internal/bytealg.abigen_runtime_cmpstring", "internal/bytealg.Compare", "maps.clone"], unfollowed := true, recurses := true, plainKeys := false, apart := false, narrowed := true }
def WeighTellsUptoSaid : Prop := weighTellsUptoRow.holds Tryz.pinned (OpenSpec.upto weighTellsSpec)

/-- 'ententelaw38.WeighRanks', WHERE WHAT IT READS IS OF BULK AT MOST 1048576: true; the input reads as it did. -/
def weighRanksUptoRow : OpenClaim := { program := "ytbnbdigcbldfhaagreat", sum := "f675e316fb4d0de644a8509a11429286e849790029810814625efdfb956902d6", func := "entente/ententelaw38.WeighRanks", spec := "weighRanks", inPlace := ["internal/bytealg.IndexByteString", "internal/bytealg.abigen_runtime_cmpstring", "internal/bytealg.Compare", "maps.clone"], unfollowed := true, recurses := true, plainKeys := false, apart := false, narrowed := true }
def WeighRanksUptoSaid : Prop := weighRanksUptoRow.holds Tryz.pinned (OpenSpec.upto weighRanksSpec)

/-- 'ententelaw38.WeighHolds', WHERE WHAT IT READS IS OF BULK AT MOST 1048576: true; the input reads as it did. -/
def weighHoldsUptoRow : OpenClaim := { program := "ytbnbdigcbldfhaagreat", sum := "f675e316fb4d0de644a8509a11429286e849790029810814625efdfb956902d6", func := "entente/ententelaw38.WeighHolds", spec := "weighHolds", inPlace := ["internal/bytealg.IndexByteString", "internal/bytealg.abigen_runtime_cmpstring", "internal/bytealg.Compare", "maps.clone"], unfollowed := true, recurses := true, plainKeys := false, apart := false, narrowed := true }
def WeighHoldsUptoSaid : Prop := weighHoldsUptoRow.holds Tryz.pinned (OpenSpec.upto weighHoldsSpec)

/-- 'ententelaw28.OutcomeTells', WHERE WHAT IT READS IS OF BULK AT MOST 1048576: true; the input reads as it did. -/
def outcomeTellsUptoRow : OpenClaim := { program := "ytbnbdigcbldfhaagreat", sum := "f675e316fb4d0de644a8509a11429286e849790029810814625efdfb956902d6", func := "entente/ententelaw28.OutcomeTells", spec := "outcomeTells", inPlace := ["internal/bytealg.IndexByteString", "internal/bytealg.abigen_runtime_cmpstring", "internal/bytealg.Compare"], unfollowed := true, recurses := true, loops := true, plainKeys := false, apart := false, narrowed := true }
def OutcomeTellsUptoSaid : Prop := outcomeTellsUptoRow.holds Tryz.pinned (OpenSpec.upto outcomeTellsSpec)

/-- 'ententelaw28.OutcomeChecks', WHERE WHAT IT READS IS OF BULK AT MOST 1048576: true; the input reads as it did. -/
def outcomeChecksUptoRow : OpenClaim := { program := "ytbnbdigcbldfhaagreat", sum := "f675e316fb4d0de644a8509a11429286e849790029810814625efdfb956902d6", func := "entente/ententelaw28.OutcomeChecks", spec := "outcomeChecks", inPlace := ["internal/bytealg.IndexByteString", "internal/bytealg.abigen_runtime_cmpstring", "internal/bytealg.Compare"], unfollowed := true, recurses := true, loops := true, plainKeys := false, apart := false, narrowed := true }
def OutcomeChecksUptoSaid : Prop := outcomeChecksUptoRow.holds Tryz.pinned (OpenSpec.upto outcomeChecksSpec)

/-- 'ententelaw28.OutcomeGets', WHERE WHAT IT READS IS OF BULK AT MOST 1048576: true; the input reads as it did. -/
def outcomeGetsUptoRow : OpenClaim := { program := "ytbnbdigcbldfhaagreat", sum := "f675e316fb4d0de644a8509a11429286e849790029810814625efdfb956902d6", func := "entente/ententelaw28.OutcomeGets", spec := "outcomeGets", inPlace := ["internal/bytealg.IndexByteString", "internal/bytealg.abigen_runtime_cmpstring", "internal/bytealg.Compare"], unfollowed := true, recurses := true, plainKeys := false, apart := false, narrowed := true }
def OutcomeGetsUptoSaid : Prop := outcomeGetsUptoRow.holds Tryz.pinned (OpenSpec.upto outcomeGetsSpec)

/-- 'ententelaw28.OutcomeProves', WHERE WHAT IT READS IS OF BULK AT MOST 1048576: true; the input reads as it did. -/
def outcomeProvesUptoRow : OpenClaim := { program := "ytbnbdigcbldfhaagreat", sum := "f675e316fb4d0de644a8509a11429286e849790029810814625efdfb956902d6", func := "entente/ententelaw28.OutcomeProves", spec := "outcomeProves", inPlace := ["internal/bytealg.IndexByteString", "internal/bytealg.abigen_runtime_cmpstring", "internal/bytealg.Compare"], unfollowed := true, recurses := true, loops := true, plainKeys := false, apart := false, narrowed := true }
def OutcomeProvesUptoSaid : Prop := outcomeProvesUptoRow.holds Tryz.pinned (OpenSpec.upto outcomeProvesSpec)

end Rows
end Go.Proofs.YtbnbdigcbldfhaaGreat
