/- a part of a proof of MergeBack -/
import Derived.Test.YtfjdjbdnnoijgaaGreatNd
set_option linter.all false
namespace Go.Proofs.YtfjdjbdnnoijgaaGreat
open Go.RowKit
def zF : Fact := ⟨⟨zS, zS⟩, zS⟩
def SM (C : List Cred) : Prop := C.length ≤ 30000
theorem SM.small {C : List Cred} (h : SM C) : SMALL C := by unfold SM at h; unfold SMALL; omega
theorem SM.sq {C : List Cred} (h : SM C) : C.length * C.length ≤ 900000000 := Nat.mul_le_mul h h
end Go.Proofs.YtfjdjbdnnoijgaaGreat
