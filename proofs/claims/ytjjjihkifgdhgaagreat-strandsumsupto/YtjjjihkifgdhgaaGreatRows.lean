/-
  NARROWER THAN 'FOR EVERY INPUT', by the rows' own cells (each row's printed sentence says how): StrandTells: loops · StrandSums: loops.
  DERIVED. THE GIVEN ROWS OF THIS SEAT. 2 by the template 'for every input the law returns true; each argument reads behind the call as it read before'; 0 by the template 'total and deterministic' (their statements: YtjjjihkifgdhgaaGreatTotals.lean).
  GIVEN WITH THE SEED: the statements are not yours to turn. If you find one false, say at which input.
  Laid BY PROGRAM, IN A SANDBOX (cutbox-rows.mjs): the forced cells as the released guide's own fill.sh prints them over the translation 0a638c6e6800b4ce… (all of the seat's roots in one cut). By AI agents, Wed Nov 11 2026. No macro, syntax, notation, axiom, sorry.
-/
import Derived.Test.YtjjjihkifgdhgaaGreatChecked
import GoSem.Claim
import GoSem.ClaimJoined
import GoSem.ClaimMapViews
import Derived.JoinedTies
import Derived.KernelRfl
namespace Go.Proofs.YtjjjihkifgdhgaaGreat
/- THE CELL 'sum', in the pinned program and in every row, IS THE sha256 OF THE DUMP (.gsa) THAT YtjjjihkifgdhgaaGreatProg.lean LOADS. Nothing in Lean hashes anything: it is a label: what it is worth is what the hold of that sum in a sandbox is worth. -/
noncomputable def Tryz.pinned : Pinned := { name := "ytjjjihkifgdhgaagreat", sum := "0a638c6e6800b4ce5625bb23270ecdbeea2cfb246ee8da69f66d0a19b6a66763", checked := Tryz.checked }
namespace Rows
def none {H : Type} : Left H := { results := [], args := [] }

/-- 'ententelaw40.StrandTells': WHATEVER THE INPUT: true; the input reads as it did. -/
def strandTellsSpec : ChangeSpec := { name := "strandTells", fn := fun _ => fun
  | [d1, d2] => { results := [.lit (.bool true)], args := [d1, d2] }
  | _ => none }
def strandTellsRow : OpenClaim := { program := "ytjjjihkifgdhgaagreat", sum := "0a638c6e6800b4ce5625bb23270ecdbeea2cfb246ee8da69f66d0a19b6a66763", func := "entente/ententelaw40.StrandTells", spec := "strandTells", inPlace := ["internal/bytealg.IndexByteString", "internal/bytealg.abigen_runtime_cmpstring", "internal/bytealg.Compare"], unfollowed := true, recurses := true, loops := true, plainKeys := false, apart := false }
def StrandTellsSaid : Prop := strandTellsRow.holds Tryz.pinned (OpenSpec.ofChange strandTellsSpec)

/-- ITS FALSE NEIGHBOUR: 'it returns false'. Refute it at one input. -/
def strandTellsWrong : ChangeSpec := { name := "strandTells", fn := fun _ => fun
  | [d1, d2] => { results := [.lit (.bool false)], args := [d1, d2] }
  | _ => none }
def StrandTellsWrongFalsely : Prop := strandTellsRow.holds Tryz.pinned (OpenSpec.ofChange strandTellsWrong)

/-- 'ententelaw40.StrandSums': WHATEVER THE INPUT: true; the input reads as it did. -/
def strandSumsSpec : ChangeSpec := { name := "strandSums", fn := fun _ => fun
  | [d] => { results := [.lit (.bool true)], args := [d] }
  | _ => none }
def strandSumsRow : OpenClaim := { program := "ytjjjihkifgdhgaagreat", sum := "0a638c6e6800b4ce5625bb23270ecdbeea2cfb246ee8da69f66d0a19b6a66763", func := "entente/ententelaw40.StrandSums", spec := "strandSums", inPlace := ["internal/bytealg.IndexByteString", "internal/bytealg.abigen_runtime_cmpstring", "internal/bytealg.Compare"], unfollowed := true, recurses := true, loops := true, plainKeys := false, apart := false }
def StrandSumsSaid : Prop := strandSumsRow.holds Tryz.pinned (OpenSpec.ofChange strandSumsSpec)

/-- ITS FALSE NEIGHBOUR: 'it returns false'. Refute it at one input. -/
def strandSumsWrong : ChangeSpec := { name := "strandSums", fn := fun _ => fun
  | [d] => { results := [.lit (.bool false)], args := [d] }
  | _ => none }
def StrandSumsWrongFalsely : Prop := strandSumsRow.holds Tryz.pinned (OpenSpec.ofChange strandSumsWrong)

/- THE SECOND FORM. 'bulk': how many values and letters a reading holds, each counted each time it is reached (what is shared counts as often as it is met; a slice's spare places count too). A statement '..UptoSaid' is the law's where the arguments, and the package variables that the reading takes, are together of bulk at most 1048576: NARROWER than '..Said'. Prove '..Said' where nothing that the law and all that it calls make is longer than what came in: it says more and counts as full. Else prove '..UptoSaid'. A law counts once. -/
mutual
def uptoBulk {H : Type} : DataW H → Nat
  | .lit (.string bytes) => bytes.length + 1
  | .lit _ => 1
  | .nil => 1
  | .ptr d => uptoBulk d + 1
  | .slice elems spare => uptoBulkAll elems + uptoBulkAll spare + 1
  | .agg parts => uptoBulkAll parts + 1
  | .iface _ d => uptoBulk d + 1
  | .map entries => uptoBulkEntries entries + 1
  | .held _ => 1
def uptoBulkAll {H : Type} : List (DataW H) → Nat
  | [] => 0
  | d :: r => uptoBulk d + uptoBulkAll r
def uptoBulkEntries {H : Type} : List (Lit × DataW H) → Nat
  | [] => 0
  | x :: r => uptoBulkEntry x + uptoBulkEntries r
def uptoBulkEntry {H : Type} : Lit × DataW H → Nat
  | (.string bytes, d) => bytes.length + uptoBulk d + 1
  | (_, d) => uptoBulk d + 1
 end
def uptoSmall : (H : Type) → List (DataW H) → Bool := fun _ ds => decide (uptoBulkAll ds ≤ 1048576)
def OpenSpec.upto (s : _root_.Go.ChangeSpec) : _root_.Go.OpenSpec := { _root_.Go.OpenSpec.ofChange s with cond := some uptoSmall }

/-- 'ententelaw40.StrandTells', WHERE WHAT IT READS IS OF BULK AT MOST 1048576: true; the input reads as it did. -/
def strandTellsUptoRow : OpenClaim := { program := "ytjjjihkifgdhgaagreat", sum := "0a638c6e6800b4ce5625bb23270ecdbeea2cfb246ee8da69f66d0a19b6a66763", func := "entente/ententelaw40.StrandTells", spec := "strandTells", inPlace := ["internal/bytealg.IndexByteString", "internal/bytealg.abigen_runtime_cmpstring", "internal/bytealg.Compare"], unfollowed := true, recurses := true, loops := true, plainKeys := false, apart := false, narrowed := true }
def StrandTellsUptoSaid : Prop := strandTellsUptoRow.holds Tryz.pinned (OpenSpec.upto strandTellsSpec)

/-- 'ententelaw40.StrandSums', WHERE WHAT IT READS IS OF BULK AT MOST 1048576: true; the input reads as it did. -/
def strandSumsUptoRow : OpenClaim := { program := "ytjjjihkifgdhgaagreat", sum := "0a638c6e6800b4ce5625bb23270ecdbeea2cfb246ee8da69f66d0a19b6a66763", func := "entente/ententelaw40.StrandSums", spec := "strandSums", inPlace := ["internal/bytealg.IndexByteString", "internal/bytealg.abigen_runtime_cmpstring", "internal/bytealg.Compare"], unfollowed := true, recurses := true, loops := true, plainKeys := false, apart := false, narrowed := true }
def StrandSumsUptoSaid : Prop := strandSumsUptoRow.holds Tryz.pinned (OpenSpec.upto strandSumsSpec)

end Rows
end Go.Proofs.YtjjjihkifgdhgaaGreat
