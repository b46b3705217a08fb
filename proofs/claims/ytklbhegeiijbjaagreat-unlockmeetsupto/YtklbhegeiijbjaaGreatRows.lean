/-
  NARROWER THAN 'FOR EVERY INPUT', by the rows' own cells (each row's printed sentence says how): UnlockMeets: loops · GateSafe: loops · ThriftSpares: loops · ThriftHides: loops · LeastShrinks: loops · LeastNeeds: loops.
  DERIVED. THE GIVEN ROWS OF THIS SEAT. 6 by the template 'for every input the law returns true; each argument reads behind the call as it read before'; 0 by the template 'total and deterministic' (their statements: YtklbhegeiijbjaaGreatTotals.lean).
  GIVEN WITH THE SEED: the statements are not yours to turn. If you find one false, say at which input.
  Laid BY PROGRAM, IN A SANDBOX (cutbox-rows.mjs): the forced cells as the released guide's own fill.sh prints them over the translation 1ea8eabd553a84b9… (all of the seat's roots in one cut). By AI agents, Wed Nov 11 2026. No macro, syntax, notation, axiom, sorry.
-/
import Derived.Test.YtklbhegeiijbjaaGreatChecked
import GoSem.Claim
import GoSem.ClaimJoined
import GoSem.ClaimMapViews
import Derived.JoinedTies
import Derived.KernelRfl
namespace Go.Proofs.YtklbhegeiijbjaaGreat
/- THE CELL 'sum', in the pinned program and in every row, IS THE sha256 OF THE DUMP (.gsa) THAT YtklbhegeiijbjaaGreatProg.lean LOADS. Nothing in Lean hashes anything: it is a label: what it is worth is what the hold of that sum in a sandbox is worth. -/
noncomputable def Tryz.pinned : Pinned := { name := "ytklbhegeiijbjaagreat", sum := "1ea8eabd553a84b982773d435f75c80c5d72b1a486782a20ec71748f67f8f20e", checked := Tryz.checked }
namespace Rows
def none {H : Type} : Left H := { results := [], args := [] }

/-- 'ententelaw16.UnlockMeets': WHATEVER THE INPUT: true; the input reads as it did. -/
def unlockMeetsSpec : ChangeSpec := { name := "unlockMeets", fn := fun _ => fun
  | [d1, d2] => { results := [.lit (.bool true)], args := [d1, d2] }
  | _ => none }
def unlockMeetsRow : OpenClaim := { program := "ytklbhegeiijbjaagreat", sum := "1ea8eabd553a84b982773d435f75c80c5d72b1a486782a20ec71748f67f8f20e", func := "entente/ententelaw16.UnlockMeets", spec := "unlockMeets", inPlace := ["internal/bytealg.IndexByteString", "internal/bytealg.abigen_runtime_cmpstring", "internal/bytealg.Compare"], unfollowed := true, recurses := true, loops := true, plainKeys := false, apart := false }
def UnlockMeetsSaid : Prop := unlockMeetsRow.holds Tryz.pinned (OpenSpec.ofChange unlockMeetsSpec)

/-- ITS FALSE NEIGHBOUR: 'it returns false'. Refute it at one input. -/
def unlockMeetsWrong : ChangeSpec := { name := "unlockMeets", fn := fun _ => fun
  | [d1, d2] => { results := [.lit (.bool false)], args := [d1, d2] }
  | _ => none }
def UnlockMeetsWrongFalsely : Prop := unlockMeetsRow.holds Tryz.pinned (OpenSpec.ofChange unlockMeetsWrong)

/-- 'ententelaw20.GateSafe': WHATEVER THE INPUT: true; the input reads as it did. -/
def gateSafeSpec : ChangeSpec := { name := "gateSafe", fn := fun _ => fun
  | [d1, d2, d3] => { results := [.lit (.bool true)], args := [d1, d2, d3] }
  | _ => none }
def gateSafeRow : OpenClaim := { program := "ytklbhegeiijbjaagreat", sum := "1ea8eabd553a84b982773d435f75c80c5d72b1a486782a20ec71748f67f8f20e", func := "entente/ententelaw20.GateSafe", spec := "gateSafe", inPlace := ["internal/bytealg.IndexByteString", "internal/bytealg.abigen_runtime_cmpstring", "internal/bytealg.Compare"], unfollowed := true, recurses := true, loops := true, plainKeys := false, apart := false }
def GateSafeSaid : Prop := gateSafeRow.holds Tryz.pinned (OpenSpec.ofChange gateSafeSpec)

/-- ITS FALSE NEIGHBOUR: 'it returns false'. Refute it at one input. -/
def gateSafeWrong : ChangeSpec := { name := "gateSafe", fn := fun _ => fun
  | [d1, d2, d3] => { results := [.lit (.bool false)], args := [d1, d2, d3] }
  | _ => none }
def GateSafeWrongFalsely : Prop := gateSafeRow.holds Tryz.pinned (OpenSpec.ofChange gateSafeWrong)

/-- 'ententelaw23.ThriftSpares': WHATEVER THE INPUT: true; the input reads as it did. -/
def thriftSparesSpec : ChangeSpec := { name := "thriftSpares", fn := fun _ => fun
  | [d1, d2] => { results := [.lit (.bool true)], args := [d1, d2] }
  | _ => none }
def thriftSparesRow : OpenClaim := { program := "ytklbhegeiijbjaagreat", sum := "1ea8eabd553a84b982773d435f75c80c5d72b1a486782a20ec71748f67f8f20e", func := "entente/ententelaw23.ThriftSpares", spec := "thriftSpares", inPlace := ["internal/bytealg.IndexByteString", "internal/bytealg.abigen_runtime_cmpstring", "internal/bytealg.Compare"], unfollowed := true, recurses := true, loops := true, plainKeys := false, apart := false }
def ThriftSparesSaid : Prop := thriftSparesRow.holds Tryz.pinned (OpenSpec.ofChange thriftSparesSpec)

/-- ITS FALSE NEIGHBOUR: 'it returns false'. Refute it at one input. -/
def thriftSparesWrong : ChangeSpec := { name := "thriftSpares", fn := fun _ => fun
  | [d1, d2] => { results := [.lit (.bool false)], args := [d1, d2] }
  | _ => none }
def ThriftSparesWrongFalsely : Prop := thriftSparesRow.holds Tryz.pinned (OpenSpec.ofChange thriftSparesWrong)

/-- 'ententelaw23.ThriftHides': WHATEVER THE INPUT: true; the input reads as it did. -/
def thriftHidesSpec : ChangeSpec := { name := "thriftHides", fn := fun _ => fun
  | [d1, d2, d3] => { results := [.lit (.bool true)], args := [d1, d2, d3] }
  | _ => none }
def thriftHidesRow : OpenClaim := { program := "ytklbhegeiijbjaagreat", sum := "1ea8eabd553a84b982773d435f75c80c5d72b1a486782a20ec71748f67f8f20e", func := "entente/ententelaw23.ThriftHides", spec := "thriftHides", inPlace := ["internal/bytealg.IndexByteString", "internal/bytealg.abigen_runtime_cmpstring", "internal/bytealg.Compare"], unfollowed := true, recurses := true, loops := true, plainKeys := false, apart := false }
def ThriftHidesSaid : Prop := thriftHidesRow.holds Tryz.pinned (OpenSpec.ofChange thriftHidesSpec)

/-- ITS FALSE NEIGHBOUR: 'it returns false'. Refute it at one input. -/
def thriftHidesWrong : ChangeSpec := { name := "thriftHides", fn := fun _ => fun
  | [d1, d2, d3] => { results := [.lit (.bool false)], args := [d1, d2, d3] }
  | _ => none }
def ThriftHidesWrongFalsely : Prop := thriftHidesRow.holds Tryz.pinned (OpenSpec.ofChange thriftHidesWrong)

/-- 'ententelaw32.LeastShrinks': WHATEVER THE INPUT: true; the input reads as it did. -/
def leastShrinksSpec : ChangeSpec := { name := "leastShrinks", fn := fun _ => fun
  | [d] => { results := [.lit (.bool true)], args := [d] }
  | _ => none }
def leastShrinksRow : OpenClaim := { program := "ytklbhegeiijbjaagreat", sum := "1ea8eabd553a84b982773d435f75c80c5d72b1a486782a20ec71748f67f8f20e", func := "entente/ententelaw32.LeastShrinks", spec := "leastShrinks", inPlace := ["internal/bytealg.IndexByteString", "internal/bytealg.abigen_runtime_cmpstring", "internal/bytealg.Compare"], unfollowed := true, recurses := true, loops := true, plainKeys := false, apart := false }
def LeastShrinksSaid : Prop := leastShrinksRow.holds Tryz.pinned (OpenSpec.ofChange leastShrinksSpec)

/-- ITS FALSE NEIGHBOUR: 'it returns false'. Refute it at one input. -/
def leastShrinksWrong : ChangeSpec := { name := "leastShrinks", fn := fun _ => fun
  | [d] => { results := [.lit (.bool false)], args := [d] }
  | _ => none }
def LeastShrinksWrongFalsely : Prop := leastShrinksRow.holds Tryz.pinned (OpenSpec.ofChange leastShrinksWrong)

/-- 'ententelaw32.LeastNeeds': WHATEVER THE INPUT: true; the input reads as it did. -/
def leastNeedsSpec : ChangeSpec := { name := "leastNeeds", fn := fun _ => fun
  | [d1, d2] => { results := [.lit (.bool true)], args := [d1, d2] }
  | _ => none }
def leastNeedsRow : OpenClaim := { program := "ytklbhegeiijbjaagreat", sum := "1ea8eabd553a84b982773d435f75c80c5d72b1a486782a20ec71748f67f8f20e", func := "entente/ententelaw32.LeastNeeds", spec := "leastNeeds", inPlace := ["internal/bytealg.IndexByteString", "internal/bytealg.abigen_runtime_cmpstring", "internal/bytealg.Compare"], unfollowed := true, recurses := true, loops := true, plainKeys := false, apart := false }
def LeastNeedsSaid : Prop := leastNeedsRow.holds Tryz.pinned (OpenSpec.ofChange leastNeedsSpec)

/-- ITS FALSE NEIGHBOUR: 'it returns false'. Refute it at one input. -/
def leastNeedsWrong : ChangeSpec := { name := "leastNeeds", fn := fun _ => fun
  | [d1, d2] => { results := [.lit (.bool false)], args := [d1, d2] }
  | _ => none }
def LeastNeedsWrongFalsely : Prop := leastNeedsRow.holds Tryz.pinned (OpenSpec.ofChange leastNeedsWrong)

/- THE SECOND FORM. 'bulk': how many values and letters a reading holds, each counted each time it is reached (what is shared counts as often as it is met; a slice's spare places count too). A statement '..UptoSaid' is the law's where the arguments, and the package variables that the reading takes, are together of bulk at most 1048576: NARROWER than '..Said'. Prove '..Said' where nothing that the law and all that it calls make is longer than what came in: it says more and counts as full. Else prove '..UptoSaid'. A law counts once. -/
mutual
def uptoBulk {H : Type} : DataW H → Nat
  | .lit (.string bytes) => bytes.length + 1
  | .lit _ => 1
  | .nil => 1
  | .ptr d => uptoBulk d + 1
  | .slice elems spare => uptoBulkAll elems + uptoBulkAll spare + 1
  | .agg parts => uptoBulkAll parts + 1
  | .iface _ d => uptoBulk d + 1
  | .map entries => uptoBulkEntries entries + 1
  | .held _ => 1
def uptoBulkAll {H : Type} : List (DataW H) → Nat
  | [] => 0
  | d :: r => uptoBulk d + uptoBulkAll r
def uptoBulkEntries {H : Type} : List (Lit × DataW H) → Nat
  | [] => 0
  | x :: r => uptoBulkEntry x + uptoBulkEntries r
def uptoBulkEntry {H : Type} : Lit × DataW H → Nat
  | (.string bytes, d) => bytes.length + uptoBulk d + 1
  | (_, d) => uptoBulk d + 1
 end
def uptoSmall : (H : Type) → List (DataW H) → Bool := fun _ ds => decide (uptoBulkAll ds ≤ 1048576)
def OpenSpec.upto (s : _root_.Go.ChangeSpec) : _root_.Go.OpenSpec := { _root_.Go.OpenSpec.ofChange s with cond := some uptoSmall }

/-- 'ententelaw16.UnlockMeets', WHERE WHAT IT READS IS OF BULK AT MOST 1048576: true; the input reads as it did. -/
def unlockMeetsUptoRow : OpenClaim := { program := "ytklbhegeiijbjaagreat", sum := "1ea8eabd553a84b982773d435f75c80c5d72b1a486782a20ec71748f67f8f20e", func := "entente/ententelaw16.UnlockMeets", spec := "unlockMeets", inPlace := ["internal/bytealg.IndexByteString", "internal/bytealg.abigen_runtime_cmpstring", "internal/bytealg.Compare"], unfollowed := true, recurses := true, loops := true, plainKeys := false, apart := false, narrowed := true }
def UnlockMeetsUptoSaid : Prop := unlockMeetsUptoRow.holds Tryz.pinned (OpenSpec.upto unlockMeetsSpec)

/-- 'ententelaw20.GateSafe', WHERE WHAT IT READS IS OF BULK AT MOST 1048576: true; the input reads as it did. -/
def gateSafeUptoRow : OpenClaim := { program := "ytklbhegeiijbjaagreat", sum := "1ea8eabd553a84b982773d435f75c80c5d72b1a486782a20ec71748f67f8f20e", func := "entente/ententelaw20.GateSafe", spec := "gateSafe", inPlace := ["internal/bytealg.IndexByteString", "internal/bytealg.abigen_runtime_cmpstring", "internal/bytealg.Compare"], unfollowed := true, recurses := true, loops := true, plainKeys := false, apart := false, narrowed := true }
def GateSafeUptoSaid : Prop := gateSafeUptoRow.holds Tryz.pinned (OpenSpec.upto gateSafeSpec)

/-- 'ententelaw23.ThriftSpares', WHERE WHAT IT READS IS OF BULK AT MOST 1048576: true; the input reads as it did. -/
def thriftSparesUptoRow : OpenClaim := { program := "ytklbhegeiijbjaagreat", sum := "1ea8eabd553a84b982773d435f75c80c5d72b1a486782a20ec71748f67f8f20e", func := "entente/ententelaw23.ThriftSpares", spec := "thriftSpares", inPlace := ["internal/bytealg.IndexByteString", "internal/bytealg.abigen_runtime_cmpstring", "internal/bytealg.Compare"], unfollowed := true, recurses := true, loops := true, plainKeys := false, apart := false, narrowed := true }
def ThriftSparesUptoSaid : Prop := thriftSparesUptoRow.holds Tryz.pinned (OpenSpec.upto thriftSparesSpec)

/-- 'ententelaw23.ThriftHides', WHERE WHAT IT READS IS OF BULK AT MOST 1048576: true; the input reads as it did. -/
def thriftHidesUptoRow : OpenClaim := { program := "ytklbhegeiijbjaagreat", sum := "1ea8eabd553a84b982773d435f75c80c5d72b1a486782a20ec71748f67f8f20e", func := "entente/ententelaw23.ThriftHides", spec := "thriftHides", inPlace := ["internal/bytealg.IndexByteString", "internal/bytealg.abigen_runtime_cmpstring", "internal/bytealg.Compare"], unfollowed := true, recurses := true, loops := true, plainKeys := false, apart := false, narrowed := true }
def ThriftHidesUptoSaid : Prop := thriftHidesUptoRow.holds Tryz.pinned (OpenSpec.upto thriftHidesSpec)

/-- 'ententelaw32.LeastShrinks', WHERE WHAT IT READS IS OF BULK AT MOST 1048576: true; the input reads as it did. -/
def leastShrinksUptoRow : OpenClaim := { program := "ytklbhegeiijbjaagreat", sum := "1ea8eabd553a84b982773d435f75c80c5d72b1a486782a20ec71748f67f8f20e", func := "entente/ententelaw32.LeastShrinks", spec := "leastShrinks", inPlace := ["internal/bytealg.IndexByteString", "internal/bytealg.abigen_runtime_cmpstring", "internal/bytealg.Compare"], unfollowed := true, recurses := true, loops := true, plainKeys := false, apart := false, narrowed := true }
def LeastShrinksUptoSaid : Prop := leastShrinksUptoRow.holds Tryz.pinned (OpenSpec.upto leastShrinksSpec)

/-- 'ententelaw32.LeastNeeds', WHERE WHAT IT READS IS OF BULK AT MOST 1048576: true; the input reads as it did. -/
def leastNeedsUptoRow : OpenClaim := { program := "ytklbhegeiijbjaagreat", sum := "1ea8eabd553a84b982773d435f75c80c5d72b1a486782a20ec71748f67f8f20e", func := "entente/ententelaw32.LeastNeeds", spec := "leastNeeds", inPlace := ["internal/bytealg.IndexByteString", "internal/bytealg.abigen_runtime_cmpstring", "internal/bytealg.Compare"], unfollowed := true, recurses := true, loops := true, plainKeys := false, apart := false, narrowed := true }
def LeastNeedsUptoSaid : Prop := leastNeedsUptoRow.holds Tryz.pinned (OpenSpec.upto leastNeedsSpec)

end Rows
end Go.Proofs.YtklbhegeiijbjaaGreat
