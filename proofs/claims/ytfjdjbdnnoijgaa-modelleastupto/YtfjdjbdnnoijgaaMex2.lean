/- a part of a proof of ModelLeast -/
import Derived.Test.YtfjdjbdnnoijgaaMdx2
set_option linter.all false
namespace Go.Proofs.Ytfjdjbdnnoijgaa
open Go.RowKit
theorem cpt2S_eq (i : Int) : ∀ (n : Nat) (l : List ByteArray) (k j : Int), m_slices_Compact_string_L2 i n l k j = cpt2 beqS i n l k j
  | 0, _, _, _ => rfl
  | n + 1, l, k, j => by
    rw [m_slices_Compact_string_L2, cpt2]
    simp only [cpt2S_eq i n]
theorem cpt1S_eq (l : List ByteArray) : ∀ (n : Nat) (i : Int), m_slices_Compact_string_L1 l n i = cpt1 beqS zS l n i
  | 0, _ => rfl
  | n + 1, i => by
    rw [m_slices_Compact_string_L1, cpt1]
    simp only [cpt1S_eq l n, cpt2S_eq]
theorem cptFS_eq (l : List ByteArray) : m_slices_Compact_string l = cptF beqS zS l := by
  unfold m_slices_Compact_string cptF
  simp only [cpt1S_eq]
theorem sortedS_eq (l : List ByteArray) : sortedS l = sorted (fun x => some (if ltS x.1 x.2 then -1 else 0)) l := by
  unfold sortedS sorted
  congr 1
  funext x y
  unfold lessO
  cases h : ltS y x <;> simp [h]
theorem nameSet_L1 : ∀ (l acc : List ByteArray), acc.length + l.length ≤ 1000000000 → m_name_Set_L1 l acc = (sortS (acc ++ l.filter rightN)).bind fun r => m_slices_Compact_string r
  | [], acc, _ => by rw [m_name_Set_L1]; simp
  | x :: l, acc, h => by
    rw [m_name_Set_L1, m_name_Right_eq]
    simp only [Option.bind_some]
    cases hx : rightN x with
    | false =>
      simp only [Bool.false_eq_true, if_false]
      rw [nameSet_L1 l acc (by simp at h; omega)]
      simp [hx]
    | true =>
      simp only [if_true]
      rw [appB_ok (by simp at h ⊢; omega) (by simp at h ⊢; omega)]
      simp only [Option.bind_some]
      rw [nameSet_L1 l (acc ++ [x]) (by simp at h ⊢; omega)]
      simp [hx]
theorem setN (l : List ByteArray) (hl : l.length ≤ 1000000000) : ∃ s, m_name_Set l = some s ∧ IsSetN l s := by
  unfold m_name_Set
  rw [nameSet_L1 l [] (by simpa using hl)]
  simp only [List.nil_append]
  have hf : (l.filter rightN).length ≤ l.length := List.length_filter_le _ _
  unfold sortS
  rw [if_pos (by omega)]
  simp only [Option.bind_some]
  obtain ⟨s, h1, h2, h3⟩ := sortF_isSet (eq := beqS) (lt := fun a b => ltS a b = true) (P := fun x => rightN x = true) (cf := fun x => some (if ltS x.1 x.2 then -1 else 0)) (l := l.filter rightN) (fun x y => beqS_iff) (ltOnS _) (fun x hx => (List.mem_filter.1 hx).2) (by omega) (fun x y _ _ => ⟨_, rfl, by cases h : ltS x y <;> simp [h]⟩)
  have h4 := (sortF_some h1).2
  rw [sortedS_eq, ← h4, cptFS_eq, cptF_run _ _ _ (by omega)]
  refine ⟨_, rfl, h3.1, fun x => ?_⟩
  rw [h3.2]
  simp
end Go.Proofs.Ytfjdjbdnnoijgaa
