/- a part of a proof of GraphHolds -/
import Derived.Test.YtfjdjbdnnoijgaaGreatNd
set_option linter.all false
namespace Go.Proofs.YtfjdjbdnnoijgaaGreat
open Go.RowKit
def SM (C : List Cred) : Prop := C.length ≤ 30000
theorem SM.sq {C : List Cred} (h : SM C) : C.length * C.length ≤ 900000000 := Nat.mul_le_mul h h
theorem sortedS_lt {l : List ByteArray} (hn : l.Nodup) : (sortedS l).Pairwise (fun a b => ltS a b = true) := by
  have h1 : (sortedS l).Pairwise (fun a b => (!ltS b a) = true) := sort_pairwise (P := fun _ => True) (fun a b c _ _ _ h1 h2 => by
      simp only [Bool.not_eq_true'] at *
      rcases ltS_total a b with h | h | h
      · rcases ltS_total b c with k | k | k
        · exact ltS_asymm (ltS_trans h k)
        · subst k; exact h1
        · rw [h2] at k; cases k
      · subst h; exact h2
      · rw [h1] at h; cases h) (fun a b _ _ => by
      rcases ltS_total a b with h | h | h
      · simp [ltS_asymm h]
      · subst h; simp [ltS_irrefl]
      · simp [ltS_asymm h]) l (fun _ _ => trivial)
  have h2 : (sortedS l).Nodup := by unfold sortedS; exact (List.mergeSort_perm l _).nodup_iff.2 hn
  refine (h1.and h2).imp (fun {a b} h => ?_)
  rcases ltS_total a b with k | k | k
  · exact k
  · exact absurd k h.2
  · have := h.1; rw [k] at this; cases this
end Go.Proofs.YtfjdjbdnnoijgaaGreat
