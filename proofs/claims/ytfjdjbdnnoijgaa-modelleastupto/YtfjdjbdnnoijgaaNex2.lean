/- a part of a proof of ModelLeast -/
import Derived.Test.YtfjdjbdnnoijgaaNdx2
set_option linter.all false
namespace Go.Proofs.Ytfjdjbdnnoijgaa
open Go.RowKit
theorem names_L1 : ∀ (l : List Cred) (acc : List ByteArray), acc.length + 4 * l.length ≤ 1000000000 → m_ref08_Names_L1 l acc = m_ref03_Set (acc ++ l.flatMap fun c => [c.Who, c.Head.Owner, c.B.Owner, c.C.Owner])
  | [], acc, _ => by rw [m_ref08_Names_L1]; simp [bindS]
  | c :: l, acc, h => by
    rw [m_ref08_Names_L1]
    simp only [List.length_cons] at h
    rw [appB_ok (by simp; omega) (by simp; omega)]
    simp only [Option.bind_some]
    rw [names_L1 l _ (by simp; omega)]
    simp
def SM (C : List Cred) : Prop := C.length ≤ 30000
theorem SM.small {C : List Cred} (h : SM C) : SMALL C := by unfold SM at h; unfold SMALL; omega
theorem SM.sq {C : List Cred} (h : SM C) : C.length * C.length ≤ 900000000 := Nat.mul_le_mul h h
theorem closed_all {C : List Cred} (hR : Rights C) {names : List ByteArray} (hn : ∀ c ∈ C, c.Kind = 1 → c.Who ∈ names) {out : List Fact} (h : ∀ c ∈ C, ∀ w ∈ names, StepP out c names w → (⟨c.Head, w⟩ : Fact) ∈ out) {f : Fact} (hf : Der C f) : f ∈ out := by
  have hw : ∀ f, Der C f → f.Who ∈ names := fun f hf => by
    obtain ⟨c, hc, hk, e⟩ := hf.who
    rw [← e]; exact hn c hc hk
  induction hf with
  | mem c hc hk => exact h c hc _ (hn c hc hk) (.inl ⟨hk, rfl⟩)
  | inc c w hc hk hd ih => exact h c hc w (hw _ hd) (.inr (.inl ⟨hk, ih⟩))
  | lnk c b w hc hk hd1 hd2 ih1 ih2 => exact h c hc w (hw _ hd2) (.inr (.inr (.inr ⟨by omega, by omega, by omega, b, hw _ hd1, ih1, ih2⟩)))
  | both c w hc hk hd1 hd2 ih1 ih2 => exact h c hc w (hw _ hd1) (.inr (.inr (.inl ⟨hk, ih1, ih2⟩)))
theorem sameF_run : ∀ (A l : List Fact), m_ref08_Same_L1 (A ++ l) l A.length = some true
  | A, [] => rfl
  | A, x :: l => by
    rw [m_ref08_Same_L1, idx_mid A x l _ rfl]
    simp only [Option.bind_some]
    rw [beqFact_iff.2 rfl]
    simp only [Bool.not_true, Bool.false_eq_true, if_false]
    have := sameF_run (A ++ [x]) l
    simpa using this
theorem sameF (l : List Fact) : m_ref08_Same l l = some true := by
  unfold m_ref08_Same
  rw [if_neg (by simp)]
  exact sameF_run [] l
theorem roles_L1 (w : ByteArray) : ∀ (l : List Fact) (acc : List Role), acc.length + l.length ≤ 1000000000 → m_model_Model_Roles_L1 w l acc = some (acc ++ (l.filter fun f => beqS f.Who w).map (·.Role))
  | [], acc, _ => by rw [m_model_Model_Roles_L1]; simp
  | x :: l, acc, h => by
    rw [m_model_Model_Roles_L1]
    simp only [List.length_cons] at h
    by_cases hx : beqS x.Who w = true
    · rw [if_pos hx, appB_ok (by simp; omega) (by simp; omega)]
      simp only [Option.bind_some]
      rw [roles_L1 w l _ (by simp; omega)]
      simp [hx]
    · rw [if_neg hx, roles_L1 w l acc (by omega)]
      simp [hx]
theorem sortedS_lt {l : List ByteArray} (hn : l.Nodup) : (sortedS l).Pairwise (fun a b => ltS a b = true) := by
  have h1 : (sortedS l).Pairwise (fun a b => (!ltS b a) = true) := sort_pairwise (P := fun _ => True) (fun a b c _ _ _ h1 h2 => by
      simp only [Bool.not_eq_true'] at *
      rcases ltS_total a b with h | h | h
      · rcases ltS_total b c with k | k | k
        · exact ltS_asymm (ltS_trans h k)
        · subst k; exact h1
        · rw [h2] at k; cases k
      · subst h; exact h2
      · rw [h1] at h; cases h) (fun a b _ _ => by
      rcases ltS_total a b with h | h | h
      · simp [ltS_asymm h]
      · subst h; simp [ltS_irrefl]
      · simp [ltS_asymm h]) l (fun _ _ => trivial)
  have h2 : (sortedS l).Nodup := by unfold sortedS; exact (List.mergeSort_perm l _).nodup_iff.2 hn
  refine (h1.and h2).imp (fun {a b} h => ?_)
  rcases ltS_total a b with k | k | k
  · exact k
  · exact absurd k h.2
  · have := h.1; rw [k] at this; cases this
end Go.Proofs.Ytfjdjbdnnoijgaa
