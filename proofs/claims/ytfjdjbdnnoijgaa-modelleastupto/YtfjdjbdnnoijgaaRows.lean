/-
  No cell of these rows narrows 'for every input' (looked for: loops, veiled, ifaces, maps, wideKeys, modest, calm, conditions, laid).
  DERIVED. THE GIVEN ROWS OF THIS SEAT. 2 by the template 'for every input the law returns true; each argument reads behind the call as it read before'; 0 by the template 'total and deterministic' (their statements: YtfjdjbdnnoijgaaTotals.lean).
  GIVEN WITH THE SEED: the statements are not yours to turn. If you find one false, say at which input.
  Laid BY PROGRAM, IN A SANDBOX (cutbox-rows.mjs): the forced cells as the released guide's own fill.sh prints them over the translation 96c5590c35fd4c88… (all of the seat's roots in one cut). By AI agents, Wed Nov 11 2026. No macro, syntax, notation, axiom, sorry.
-/
import Derived.Test.YtfjdjbdnnoijgaaChecked
import GoSem.Claim
import GoSem.ClaimJoined
import GoSem.ClaimMapViews
import Derived.JoinedTies
import Derived.KernelRfl
namespace Go.Proofs.Ytfjdjbdnnoijgaa
/- THE CELL 'sum', in the pinned program and in every row, IS THE sha256 OF THE DUMP (.gsa) THAT YtfjdjbdnnoijgaaProg.lean LOADS. Nothing in Lean hashes anything: it is a label: what it is worth is what the hold of that sum in a sandbox is worth. -/
noncomputable def Try.pinned : Pinned := { name := "ytfjdjbdnnoijgaa", sum := "96c5590c35fd4c88e972627126482d32205336f66afd9075117560e85d6ede70", checked := Try.checked }
namespace Rows
def none {H : Type} : Left H := { results := [], args := [] }

/-- 'ententelaw08.ModelAdds': WHATEVER THE INPUT: true; the input reads as it did. -/
def modelAddsSpec : ChangeSpec := { name := "modelAdds", fn := fun _ => fun
  | [d] => { results := [.lit (.bool true)], args := [d] }
  | _ => none }
def modelAddsRow : OpenClaim := { program := "ytfjdjbdnnoijgaa", sum := "96c5590c35fd4c88e972627126482d32205336f66afd9075117560e85d6ede70", func := "entente/ententelaw08.ModelAdds", spec := "modelAdds", inPlace := ["internal/bytealg.IndexByteString", "internal/bytealg.abigen_runtime_cmpstring"], unfollowed := true, recurses := true, plainKeys := false, apart := false }
def ModelAddsSaid : Prop := modelAddsRow.holds Try.pinned (OpenSpec.ofChange modelAddsSpec)

/-- ITS FALSE NEIGHBOUR: 'it returns false'. Refute it at one input. -/
def modelAddsWrong : ChangeSpec := { name := "modelAdds", fn := fun _ => fun
  | [d] => { results := [.lit (.bool false)], args := [d] }
  | _ => none }
def ModelAddsWrongFalsely : Prop := modelAddsRow.holds Try.pinned (OpenSpec.ofChange modelAddsWrong)

/-- 'ententelaw08.ModelLeast': WHATEVER THE INPUT: true; the input reads as it did. -/
def modelLeastSpec : ChangeSpec := { name := "modelLeast", fn := fun _ => fun
  | [d1, d2] => { results := [.lit (.bool true)], args := [d1, d2] }
  | _ => none }
def modelLeastRow : OpenClaim := { program := "ytfjdjbdnnoijgaa", sum := "96c5590c35fd4c88e972627126482d32205336f66afd9075117560e85d6ede70", func := "entente/ententelaw08.ModelLeast", spec := "modelLeast", inPlace := ["internal/bytealg.IndexByteString", "internal/bytealg.abigen_runtime_cmpstring"], unfollowed := true, recurses := true, plainKeys := false, apart := false }
def ModelLeastSaid : Prop := modelLeastRow.holds Try.pinned (OpenSpec.ofChange modelLeastSpec)

/-- ITS FALSE NEIGHBOUR: 'it returns false'. Refute it at one input. -/
def modelLeastWrong : ChangeSpec := { name := "modelLeast", fn := fun _ => fun
  | [d1, d2] => { results := [.lit (.bool false)], args := [d1, d2] }
  | _ => none }
def ModelLeastWrongFalsely : Prop := modelLeastRow.holds Try.pinned (OpenSpec.ofChange modelLeastWrong)

/- THE SECOND FORM. 'bulk': how many values and letters a reading holds, each counted each time it is reached (what is shared counts as often as it is met; a slice's spare places count too). A statement '..UptoSaid' is the law's where the arguments, and the package variables that the reading takes, are together of bulk at most 1048576: NARROWER than '..Said'. Prove '..Said' where nothing that the law and all that it calls make is longer than what came in: it says more and counts as full. Else prove '..UptoSaid'. A law counts once. -/
mutual
def uptoBulk {H : Type} : DataW H → Nat
  | .lit (.string bytes) => bytes.length + 1
  | .lit _ => 1
  | .nil => 1
  | .ptr d => uptoBulk d + 1
  | .slice elems spare => uptoBulkAll elems + uptoBulkAll spare + 1
  | .agg parts => uptoBulkAll parts + 1
  | .iface _ d => uptoBulk d + 1
  | .map entries => uptoBulkEntries entries + 1
  | .held _ => 1
def uptoBulkAll {H : Type} : List (DataW H) → Nat
  | [] => 0
  | d :: r => uptoBulk d + uptoBulkAll r
def uptoBulkEntries {H : Type} : List (Lit × DataW H) → Nat
  | [] => 0
  | x :: r => uptoBulkEntry x + uptoBulkEntries r
def uptoBulkEntry {H : Type} : Lit × DataW H → Nat
  | (.string bytes, d) => bytes.length + uptoBulk d + 1
  | (_, d) => uptoBulk d + 1
 end
def uptoSmall : (H : Type) → List (DataW H) → Bool := fun _ ds => decide (uptoBulkAll ds ≤ 1048576)
def OpenSpec.upto (s : _root_.Go.ChangeSpec) : _root_.Go.OpenSpec := { _root_.Go.OpenSpec.ofChange s with cond := some uptoSmall }

/-- 'ententelaw08.ModelAdds', WHERE WHAT IT READS IS OF BULK AT MOST 1048576: true; the input reads as it did. -/
def modelAddsUptoRow : OpenClaim := { program := "ytfjdjbdnnoijgaa", sum := "96c5590c35fd4c88e972627126482d32205336f66afd9075117560e85d6ede70", func := "entente/ententelaw08.ModelAdds", spec := "modelAdds", inPlace := ["internal/bytealg.IndexByteString", "internal/bytealg.abigen_runtime_cmpstring"], unfollowed := true, recurses := true, plainKeys := false, apart := false, narrowed := true }
def ModelAddsUptoSaid : Prop := modelAddsUptoRow.holds Try.pinned (OpenSpec.upto modelAddsSpec)

/-- 'ententelaw08.ModelLeast', WHERE WHAT IT READS IS OF BULK AT MOST 1048576: true; the input reads as it did. -/
def modelLeastUptoRow : OpenClaim := { program := "ytfjdjbdnnoijgaa", sum := "96c5590c35fd4c88e972627126482d32205336f66afd9075117560e85d6ede70", func := "entente/ententelaw08.ModelLeast", spec := "modelLeast", inPlace := ["internal/bytealg.IndexByteString", "internal/bytealg.abigen_runtime_cmpstring"], unfollowed := true, recurses := true, plainKeys := false, apart := false, narrowed := true }
def ModelLeastUptoSaid : Prop := modelLeastUptoRow.holds Try.pinned (OpenSpec.upto modelLeastSpec)

end Rows
end Go.Proofs.Ytfjdjbdnnoijgaa
