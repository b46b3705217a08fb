/- a part of a proof of MergeThrees -/
import Derived.Test.YtfjdjbdnnoijgaaGreatSf
import Derived.Shelf.SortM.Plain
import Derived.Shelf.SortM.SortNone
set_option linter.all false
namespace Go.Proofs.YtfjdjbdnnoijgaaGreat
open Go.Sort Go.Proofs Go.Shelf
theorem bytes_toList (b : ByteArray) : b.toList = b.data.toList := by rw [ByteArray.toList_eq]
theorem flat_S (l : List ByteArray) : (l.map encSk).flatten = l.map Value.string := by
  induction l with
  | nil => rfl
  | cons x l ih => simp only [List.map_cons, List.flatten_cons, ih]; rfl
theorem sorted_S (l : List ByteArray) : (sortedS l).map (fun b => b.data.toList) = (l.map (fun b => b.data.toList)).mergeSort (fun x y => decide (x ≤ y)) := by
  unfold sortedS
  refine List.map_mergeSort fun a _ b _ => ?_
  unfold ltS
  rw [bytesLess_eq, bytes_toList, bytes_toList]
  by_cases h : a.data.toList ≤ b.data.toList
  · have h' : ¬ b.data.toList < a.data.toList := List.not_lt.2 h
    simp [h, h']
  · have h' : b.data.toList < a.data.toList := by
      cases Decidable.em (b.data.toList < a.data.toList) with
      | inl h2 => exact h2
      | inr h2 => exact absurd (List.not_lt.1 h2) h
    simp [h, h']
end Go.Proofs.YtfjdjbdnnoijgaaGreat
