/- a part of a proof of MergeThrees -/
import Derived.Test.YtfjdjbdnnoijgaaGreatNe
set_option linter.all false
namespace Go.Proofs.YtfjdjbdnnoijgaaGreat
open Go.RowKit
theorem isF_len {P : Fact → Prop} {s t : List Fact} (h : IsF P s) (ht : ∀ f, P f → f ∈ t) : s.length ≤ t.length := length_le_of_nodup (nodup_of_lt ltOnF (fun _ _ => rfl) h.1) (fun f hf => ht f ((h.2 f).1 hf))
theorem isF_der {C : List Cred} {s : List Fact} (h : IsF (Der C) s) (hC : SM C) : s.length ≤ 900000000 := by
  have := isF_len h (t := uni C) (fun f hf => hf.uni)
  rw [uni_length] at this
  have := hC.sq
  omega
end Go.Proofs.YtfjdjbdnnoijgaaGreat
