/- a part of a proof of GraphHolds -/
import Derived.Test.YtfjdjbdnnoijgaaGreatMd
set_option linter.all false
namespace Go.Proofs.YtfjdjbdnnoijgaaGreat
open Go.RowKit
def zC : Cred := ⟨0, ⟨zS, zS⟩, zS, ⟨zS, zS⟩, ⟨zS, zS⟩, zS⟩
theorem delC_eq (f : Cred → Option Bool) : ∀ (n : Nat) (l : List Cred) (i j : Int), m_slices_DeleteFunc_Cred_L1 f n l i j = delL f zC n l i j
  | 0, _, _, _ => rfl
  | n + 1, l, i, j => by
    rw [m_slices_DeleteFunc_Cred_L1, delL]
    simp only [delC_eq f n]
    rfl
theorem idxC_eq (f : Cred → Option Bool) : ∀ (l : List Cred) (i : Nat), m_slices_IndexFunc_Cred_L1 f l i = idxL f l i
  | [], _ => rfl
  | x :: l, i => by rw [m_slices_IndexFunc_Cred_L1, idxL]; simp only [idxC_eq f l]
theorem delFC_eq (f : Cred → Option Bool) (l : List Cred) : m_slices_DeleteFunc_Cred l f = delF f zC l := by
  unfold m_slices_DeleteFunc_Cred delF m_slices_IndexFunc_Cred
  simp only [idxC_eq, delC_eq]
theorem cpt2C_eq (i : Int) : ∀ (n : Nat) (l : List Cred) (k j : Int), m_slices_Compact_Cred_L2 i n l k j = cpt2 beqCred i n l k j
  | 0, _, _, _ => rfl
  | n + 1, l, k, j => by
    rw [m_slices_Compact_Cred_L2, cpt2]
    simp only [cpt2C_eq i n]
theorem cpt1C_eq (l : List Cred) : ∀ (n : Nat) (i : Int), m_slices_Compact_Cred_L1 l n i = cpt1 beqCred zC l n i
  | 0, _ => rfl
  | n + 1, i => by
    rw [m_slices_Compact_Cred_L1, cpt1]
    simp only [cpt1C_eq l n, cpt2C_eq]
    rfl
theorem cptFC_eq (l : List Cred) : m_slices_Compact_Cred l = cptF beqCred zC l := by
  unfold m_slices_Compact_Cred cptF
  simp only [cpt1C_eq]
theorem delR_eq (f : Role → Option Bool) : ∀ (n : Nat) (l : List Role) (i j : Int), m_slices_DeleteFunc_Role_L1 f n l i j = delL f zR n l i j
  | 0, _, _, _ => rfl
  | n + 1, l, i, j => by
    rw [m_slices_DeleteFunc_Role_L1, delL]
    simp only [delR_eq f n]
    rfl
theorem idxR_eq (f : Role → Option Bool) : ∀ (l : List Role) (i : Nat), m_slices_IndexFunc_Role_L1 f l i = idxL f l i
  | [], _ => rfl
  | x :: l, i => by rw [m_slices_IndexFunc_Role_L1, idxL]; simp only [idxR_eq f l]
theorem delFR_eq (f : Role → Option Bool) (l : List Role) : m_slices_DeleteFunc_Role l f = delF f zR l := by
  unfold m_slices_DeleteFunc_Role delF m_slices_IndexFunc_Role
  simp only [idxR_eq, delR_eq]
theorem cpt2R_eq (i : Int) : ∀ (n : Nat) (l : List Role) (k j : Int), m_slices_Compact_Role_L2 i n l k j = cpt2 beqRole i n l k j
  | 0, _, _, _ => rfl
  | n + 1, l, k, j => by
    rw [m_slices_Compact_Role_L2, cpt2]
    simp only [cpt2R_eq i n]
theorem cpt1R_eq (l : List Role) : ∀ (n : Nat) (i : Int), m_slices_Compact_Role_L1 l n i = cpt1 beqRole zR l n i
  | 0, _ => rfl
  | n + 1, i => by
    rw [m_slices_Compact_Role_L1, cpt1]
    simp only [cpt1R_eq l n, cpt2R_eq]
    rfl
theorem cptFR_eq (l : List Role) : m_slices_Compact_Role l = cptF beqRole zR l := by
  unfold m_slices_Compact_Role cptF
  simp only [cpt1R_eq]
theorem cpt2S_eq (i : Int) : ∀ (n : Nat) (l : List ByteArray) (k j : Int), m_slices_Compact_string_L2 i n l k j = cpt2 beqS i n l k j
  | 0, _, _, _ => rfl
  | n + 1, l, k, j => by
    rw [m_slices_Compact_string_L2, cpt2]
    simp only [cpt2S_eq i n]
theorem cpt1S_eq (l : List ByteArray) : ∀ (n : Nat) (i : Int), m_slices_Compact_string_L1 l n i = cpt1 beqS zS l n i
  | 0, _ => rfl
  | n + 1, i => by
    rw [m_slices_Compact_string_L1, cpt1]
    simp only [cpt1S_eq l n, cpt2S_eq]
theorem cptFS_eq (l : List ByteArray) : m_slices_Compact_string l = cptF beqS zS l := by
  unfold m_slices_Compact_string cptF
  simp only [cpt1S_eq]
theorem cloneC {l : List Cred} (hl : l.length ≤ 1000000000) : m_slices_Clone_Cred l = some l := by
  unfold m_slices_Clone_Cred
  rw [appB_ok (by simp; omega) (by simp; omega)]
  simp
theorem cloneR {l : List Role} (hl : l.length ≤ 1000000000) : m_slices_Clone_Role l = some l := by
  unfold m_slices_Clone_Role
  rw [appB_ok (by simp; omega) (by simp; omega)]
  simp
theorem setC (l : List Cred) (hl : l.length ≤ 1000000000) : ∃ s, m_cred_Set l = some s ∧ IsSetC l s := by
  unfold m_cred_Set
  rw [cloneC hl]
  simp only [Option.bind_some]
  rw [delFC_eq, delF_run _ (fun x => !rightC x) zC l (by omega) (fun x _ => by simp [m_cred_Set_c1, m_cred_Right_eq])]
  simp only [Option.bind_some, Bool.not_not]
  have hf : (l.filter fun x => rightC x).length ≤ l.length := List.length_filter_le _ _
  obtain ⟨s, h1, h2, h3⟩ := sortF_isSet (eq := beqCred) (lt := fun a b => ltC a b = true) (P := fun x => rightC x = true) (cf := fun x => m_cred_Compare x.1 x.2) (l := l.filter fun x => rightC x) (fun x y => beqCred_iff) ltOnC (fun x hx => (List.mem_filter.1 hx).2) (by omega) (fun x y _ _ => m_cred_Compare_eq x y)
  rw [h1]
  simp only [Option.bind_some]
  rw [cptFC_eq, cptF_run _ _ _ (by omega)]
  refine ⟨_, rfl, h3.1, fun x => ?_⟩
  rw [h3.2]
  simp
theorem setR (l : List Role) (hl : l.length ≤ 1000000000) : ∃ s, m_role_Set l = some s ∧ IsSetR l s := by
  unfold m_role_Set
  rw [cloneR hl]
  simp only [Option.bind_some]
  rw [delFR_eq, delF_run _ (fun x => !rightR x) zR l (by omega) (fun x _ => by simp [m_role_Set_c1, m_role_Right_eq])]
  simp only [Option.bind_some, Bool.not_not]
  have hf : (l.filter fun x => rightR x).length ≤ l.length := List.length_filter_le _ _
  obtain ⟨s, h1, h2, h3⟩ := sortF_isSet (eq := beqRole) (lt := fun a b => ltR a b = true) (P := fun x => rightR x = true) (cf := fun x => m_role_Compare x.1 x.2) (l := l.filter fun x => rightR x) (fun x y => beqRole_iff) (ltOnR _) (fun x hx => (List.mem_filter.1 hx).2) (by omega) (fun x y _ _ => m_role_Compare_eq x y)
  rw [h1]
  simp only [Option.bind_some]
  rw [cptFR_eq, cptF_run _ _ _ (by omega)]
  refine ⟨_, rfl, h3.1, fun x => ?_⟩
  rw [h3.2]
  simp
theorem sortedS_eq (l : List ByteArray) : sortedS l = sorted (fun x => some (if ltS x.1 x.2 then -1 else 0)) l := by
  unfold sortedS sorted
  congr 1
  funext x y
  unfold lessO
  cases h : ltS y x <;> simp [h]
theorem nameSet_L1 : ∀ (l acc : List ByteArray), acc.length + l.length ≤ 1000000000 → m_name_Set_L1 l acc = (sortS (acc ++ l.filter rightN)).bind fun r => m_slices_Compact_string r
  | [], acc, _ => by rw [m_name_Set_L1]; simp
  | x :: l, acc, h => by
    rw [m_name_Set_L1, m_name_Right_eq]
    simp only [Option.bind_some]
    cases hx : rightN x with
    | false =>
      simp only [Bool.false_eq_true, if_false]
      rw [nameSet_L1 l acc (by simp at h; omega)]
      simp [hx]
    | true =>
      simp only [if_true]
      rw [appB_ok (by simp at h ⊢; omega) (by simp at h ⊢; omega)]
      simp only [Option.bind_some]
      rw [nameSet_L1 l (acc ++ [x]) (by simp at h ⊢; omega)]
      simp [hx]
theorem setN (l : List ByteArray) (hl : l.length ≤ 1000000000) : ∃ s, m_name_Set l = some s ∧ IsSetN l s := by
  unfold m_name_Set
  rw [nameSet_L1 l [] (by simpa using hl)]
  simp only [List.nil_append]
  have hf : (l.filter rightN).length ≤ l.length := List.length_filter_le _ _
  unfold sortS
  rw [if_pos (by omega)]
  simp only [Option.bind_some]
  obtain ⟨s, h1, h2, h3⟩ := sortF_isSet (eq := beqS) (lt := fun a b => ltS a b = true) (P := fun x => rightN x = true) (cf := fun x => some (if ltS x.1 x.2 then -1 else 0)) (l := l.filter rightN) (fun x y => beqS_iff) (ltOnS _) (fun x hx => (List.mem_filter.1 hx).2) (by omega) (fun x y _ _ => ⟨_, rfl, by cases h : ltS x y <;> simp [h]⟩)
  have h4 := (sortF_some h1).2
  rw [sortedS_eq, ← h4, cptFS_eq, cptF_run _ _ _ (by omega)]
  refine ⟨_, rfl, h3.1, fun x => ?_⟩
  rw [h3.2]
  simp
theorem sameS_run : ∀ (A l : List ByteArray), m_ref03_Same_L1 (A ++ l) l A.length = some true
  | A, [] => rfl
  | A, x :: l => by
    rw [m_ref03_Same_L1, idx_mid A x l _ rfl]
    simp only [Option.bind_some]
    rw [beqS_refl]
    simp only [Bool.not_true, Bool.false_eq_true, if_false]
    have := sameS_run (A ++ [x]) l
    simpa using this
theorem sameS (l : List ByteArray) : m_ref03_Same l l = some true := by
  unfold m_ref03_Same
  rw [if_neg (by simp)]
  exact sameS_run [] l
end Go.Proofs.YtfjdjbdnnoijgaaGreat
