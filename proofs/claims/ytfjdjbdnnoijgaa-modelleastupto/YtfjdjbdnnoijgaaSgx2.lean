/- a part of a proof of ModelLeast -/
import Derived.Test.YtfjdjbdnnoijgaaSfx2
import Derived.Shelf.SortM.Plain
import Derived.Shelf.SortM.SortNone
set_option linter.all false
namespace Go.Proofs.Ytfjdjbdnnoijgaa
open Go.Sort Go.Proofs Go.Shelf
theorem bytes_toList (b : ByteArray) : b.toList = b.data.toList := by rw [ByteArray.toList_eq]
theorem flat_S (l : List ByteArray) : (l.map encSk).flatten = l.map Value.string := by
  induction l with
  | nil => rfl
  | cons x l ih => simp only [List.map_cons, List.flatten_cons, ih]; rfl
theorem sorted_S (l : List ByteArray) : (sortedS l).map (fun b => b.data.toList) = (l.map (fun b => b.data.toList)).mergeSort (fun x y => decide (x ≤ y)) := by
  unfold sortedS
  refine List.map_mergeSort fun a _ b _ => ?_
  unfold ltS
  rw [bytesLess_eq, bytes_toList, bytes_toList]
  by_cases h : a.data.toList ≤ b.data.toList
  · have h' : ¬ b.data.toList < a.data.toList := List.not_lt.2 h
    simp [h, h']
  · have h' : b.data.toList < a.data.toList := by
      cases Decidable.em (b.data.toList < a.data.toList) with
      | inl h2 => exact h2
      | inr h2 => exact absurd (List.not_lt.1 h2) h
    simp [h, h']
section
variable {P : Program} {ρ : Ren}
theorem sortS_gives (L : SlLaysM.n6 P ρ) {e : TypeId} {v : Value} {l r : List ByteArray} {R : List (Nat × Obj)} {w : World} (hH : Held (R ++ []) w) (hr : Row e encSk 1 v l R) (hm : sortS l = some r) :
    GivesM true P (ρ.f 6) [v] w (R ++ []) (fun u L1 _ => ∃ (S : List (Nat × Obj)), u = (.tuple #[]) ∧ L1 = (S ++ []) ∧ Row e encSk 1 v r S) := by
  unfold sortS at hm
  split at hm
  · rename_i hshort
    cases hm
    rw [List.append_nil] at hH ⊢
    rcases Nat.eq_zero_or_pos l.length with h0 | hpos
    · have hl : l = [] := List.eq_nil_of_length_eq_zero h0
      subst hl
      have hs : sortedS [] = [] := by simp [sortedS]
      rw [hs]
      obtain ⟨p, c, rfl⟩ : ∃ p c, v = .slice p 0 c := by
        rcases hr with ⟨rfl, _, _⟩ | ⟨g, cap, cur, rfl, _⟩
        · exact ⟨_, _, rfl⟩
        · exact ⟨_, _, rfl⟩
      refine Calls.mono (AnyM.slices_Sort_string_none L p c w) fun x w' ⟨hx, hw⟩ => ?_
      subst hx hw
      refine ⟨_, R, rfl, ⟨⟨rfl, rfl, rfl, Low.of (Nat.le_refl _), Nat.le_refl _, fun _ _ _ => rfl⟩, fun b o h => ⟨hH b o h, .inr ⟨o, h⟩⟩, ?_⟩, R, rfl, (List.append_nil R).symm, hr⟩
      rcases hr with ⟨_, _, rfl⟩ | ⟨g, cap, cur, _, rfl, _⟩ <;> simp
    · rcases hr with ⟨_, rfl, _⟩ | ⟨g, cap, cur, rfl, rfl, hlc, hcm, hcs, htk⟩
      · simp at hpos
      have hg : w.heap[g]? = some (.cells cur e (0, 0)) := hH g _ (by simp)
      have hlt : g < w.heap.size := (Array.getElem?_eq_some_iff.1 hg).1
      have hH2 : Holds encStr w g 0 (l.map (fun b => b.data.toList)).toArray := by
        intro j hj
        have hj' : j < l.length := by simpa using hj
        have h1 : (cur.toList.take (l.length * 1))[j]? = ((l.map encSk).flatten)[j]? := by rw [htk]
        rw [flat_S, List.getElem?_take, if_pos (by omega), List.getElem?_map, List.getElem?_eq_getElem hj'] at h1
        refine ⟨?_, by simp [World.frozen?, hg]⟩
        simp only [World.cell?, hg, Nat.zero_add]
        rw [getElem!_pos _ j hj]
        simpa using h1
      have hmain := AnyM.slices_Sort_string L g 0 cap (l.map (fun b => b.data.toList)) w hH2 hlt (by simpa using hshort)
      rw [List.length_map, ← sorted_S] at hmain
      refine Calls.mono hmain fun u w' ⟨hu, n, os, hw⟩ => ?_
      subst hu
      have hrl : (sortedS l).length = l.length := by simp [sortedS, List.length_mergeSort]
      have hbk := back_turned (w := w) (m := n) (f := putCells encStr 0 ((sortedS l).map (fun b => b.data.toList)).toArray) (os := os) hg
      have hw2 : w' = Go.Sort.grow (mapBlock (Go.Sort.ahead w n) g (putCells encStr 0 ((sortedS l).map (fun b => b.data.toList)).toArray)) os := hw
      rw [← hw2] at hbk
      refine ⟨_, _, rfl, hbk, _, rfl, (List.append_nil _).symm, .inr ⟨g, cap, _, by rw [hrl], rfl, by omega, hcm, by simpa [putCells] using hcs, ?_⟩⟩
      rw [hrl, flat_S]
      apply List.ext_getElem?
      intro j
      rw [List.getElem?_take]
      split
      · rename_i hj
        have hj' : j < (sortedS l).length := by omega
        rw [List.getElem?_map, List.getElem?_eq_getElem hj']
        simp only [putCells, Array.getElem?_toList, Array.getElem?_mapIdx]
        rw [Array.getElem?_eq_getElem (by omega)]
        have h3 : j < ((sortedS l).map (fun b => b.data.toList)).toArray.size := by simpa using hj'
        have h4 : 0 ≤ j ∧ j < 0 + ((sortedS l).map (fun b => b.data.toList)).toArray.size := ⟨by omega, by omega⟩
        simp only [Option.map_some, if_pos h4, Nat.sub_zero]
        rw [getElem!_pos _ j h3]
        simp
      · rename_i hj
        rw [List.getElem?_eq_none (by simp; omega)]
  · cases hm
end
end Go.Proofs.Ytfjdjbdnnoijgaa
