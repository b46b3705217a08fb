/- a part of a proof of MergeThrees -/
import Derived.Test.YtfjdjbdnnoijgaaGreatMd
set_option linter.all false
namespace Go.Proofs.YtfjdjbdnnoijgaaGreat
open Go.RowKit
def zC : Cred := ⟨0, ⟨zS, zS⟩, zS, ⟨zS, zS⟩, ⟨zS, zS⟩, zS⟩
theorem delC_eq (f : Cred → Option Bool) : ∀ (n : Nat) (l : List Cred) (i j : Int), m_slices_DeleteFunc_Cred_L1 f n l i j = delL f zC n l i j
  | 0, _, _, _ => rfl
  | n + 1, l, i, j => by
    rw [m_slices_DeleteFunc_Cred_L1, delL]
    simp only [delC_eq f n]
    rfl
theorem idxC_eq (f : Cred → Option Bool) : ∀ (l : List Cred) (i : Nat), m_slices_IndexFunc_Cred_L1 f l i = idxL f l i
  | [], _ => rfl
  | x :: l, i => by rw [m_slices_IndexFunc_Cred_L1, idxL]; simp only [idxC_eq f l]
theorem delFC_eq (f : Cred → Option Bool) (l : List Cred) : m_slices_DeleteFunc_Cred l f = delF f zC l := by
  unfold m_slices_DeleteFunc_Cred delF m_slices_IndexFunc_Cred
  simp only [idxC_eq, delC_eq]
theorem cpt2C_eq (i : Int) : ∀ (n : Nat) (l : List Cred) (k j : Int), m_slices_Compact_Cred_L2 i n l k j = cpt2 beqCred i n l k j
  | 0, _, _, _ => rfl
  | n + 1, l, k, j => by
    rw [m_slices_Compact_Cred_L2, cpt2]
    simp only [cpt2C_eq i n]
theorem cpt1C_eq (l : List Cred) : ∀ (n : Nat) (i : Int), m_slices_Compact_Cred_L1 l n i = cpt1 beqCred zC l n i
  | 0, _ => rfl
  | n + 1, i => by
    rw [m_slices_Compact_Cred_L1, cpt1]
    simp only [cpt1C_eq l n, cpt2C_eq]
    rfl
theorem cptFC_eq (l : List Cred) : m_slices_Compact_Cred l = cptF beqCred zC l := by
  unfold m_slices_Compact_Cred cptF
  simp only [cpt1C_eq]
theorem cloneC {l : List Cred} (hl : l.length ≤ 1000000000) : m_slices_Clone_Cred l = some l := by
  unfold m_slices_Clone_Cred
  rw [appB_ok (by simp; omega) (by simp; omega)]
  simp
theorem setC (l : List Cred) (hl : l.length ≤ 1000000000) : ∃ s, m_cred_Set l = some s ∧ IsSetC l s := by
  unfold m_cred_Set
  rw [cloneC hl]
  simp only [Option.bind_some]
  rw [delFC_eq, delF_run _ (fun x => !rightC x) zC l (by omega) (fun x _ => by simp [m_cred_Set_c1, m_cred_Right_eq])]
  simp only [Option.bind_some, Bool.not_not]
  have hf : (l.filter fun x => rightC x).length ≤ l.length := List.length_filter_le _ _
  obtain ⟨s, h1, h2, h3⟩ := sortF_isSet (eq := beqCred) (lt := fun a b => ltC a b = true) (P := fun x => rightC x = true) (cf := fun x => m_cred_Compare x.1 x.2) (l := l.filter fun x => rightC x) (fun x y => beqCred_iff) ltOnC (fun x hx => (List.mem_filter.1 hx).2) (by omega) (fun x y _ _ => m_cred_Compare_eq x y)
  rw [h1]
  simp only [Option.bind_some]
  rw [cptFC_eq, cptF_run _ _ _ (by omega)]
  refine ⟨_, rfl, h3.1, fun x => ?_⟩
  rw [h3.2]
  simp
theorem sameC_run (b : List Cred) : ∀ (A l : List Cred), m_ref05_Same_L1 (A ++ l) l A.length = some true
  | A, [] => rfl
  | A, x :: l => by
    rw [m_ref05_Same_L1, idx_mid A x l _ rfl]
    simp only [Option.bind_some]
    rw [beqCred_iff.2 rfl]
    simp only [Bool.not_true, Bool.false_eq_true, if_false]
    have := sameC_run b (A ++ [x]) l
    simpa using this
theorem sameC (l : List Cred) : m_ref05_Same l l = some true := by
  unfold m_ref05_Same
  rw [if_neg (by simp)]
  exact sameC_run [] [] l
end Go.Proofs.YtfjdjbdnnoijgaaGreat
