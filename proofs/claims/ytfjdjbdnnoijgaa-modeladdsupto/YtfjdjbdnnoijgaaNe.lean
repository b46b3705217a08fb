/- a part of a proof of ModelAdds -/
import Derived.Test.YtfjdjbdnnoijgaaNd
set_option linter.all false
namespace Go.Proofs.Ytfjdjbdnnoijgaa
open Go.RowKit
def zF : Fact := ⟨⟨zS, zS⟩, zS⟩
theorem ref_less (a b : Fact) : m_ref08_less a b = some (ltF a b) := by
  unfold m_ref08_less ltF
  simp only [m_ref04_Less_eq, Option.bind_some, andS, orS]
def RelB (a : List Fact) (best : Int) (p : Bool × Fact) : Prop := (p.1 = false ∧ best = -1) ∨ (p.1 = true ∧ 0 ≤ best ∧ idx a best = some p.2)
theorem sorted_L2 (out a : List Fact) (hl : out.length < 4611686018427387904) : ∀ (rest A : List Fact) (best : Int) (p : Bool × Fact), a = A ++ rest → RelB a best p →
    ∃ best', m_ref08_Sorted_L2 out a rest A.length best = some best' ∧ RelB a best' (selP anyF ltF out.getLast? rest p.1 p.2)
  | [], A, best, p, ha, hr => ⟨best, rfl, hr⟩
  | x :: rest, A, best, p, ha, hr => by
    rw [m_ref08_Sorted_L2, selP]
    simp only [anyF, Bool.true_and]
    have h1 : ((if ((out.length : Int) == 0) = true then some true else (idx out (IntKind.i64.wrap ((out.length : Int) - 1))).bind fun y => (m_ref08_less y x).bind fun r => some r) : Option Bool) = some (out.getLast?.all fun y => ltF y x) := by
      rcases List.eq_nil_or_concat out with h | ⟨B, z, h⟩
      · subst h; rfl
      · subst h
        rw [if_neg (by simp; omega)]
        rw [List.concat_eq_append] at hl ⊢
        rw [last_idx B z (by simp at hl; omega)]
        simp [ref_less]
    have h2 : ((if decide (best < 0) = true then some true else (idx a best).bind fun y => (m_ref08_less x y).bind fun r => some r) : Option Bool) = some (!p.1 || ltF x p.2) := by
      rcases hr with ⟨e1, e2⟩ | ⟨e1, e2, e3⟩
      · rw [if_pos (by simp [e2]), e1]; rfl
      · rw [if_neg (by simpa using e2), e3, e1]
        simp [ref_less]
    rw [h1]
    simp only [Option.bind_some]
    rw [h2]
    simp only [Option.bind_some, andS]
    have hx : idx a (A.length : Int) = some x := by rw [ha]; exact idx_mid A x rest _ rfl
    by_cases hc : ((out.getLast?.all fun y => ltF y x) && (!p.1 || ltF x p.2)) = true
    · rw [if_pos hc, if_pos hc]
      have := sorted_L2 out a hl rest (A ++ [x]) (A.length : Int) (true, x) (by rw [ha]; simp) (.inr ⟨rfl, by simp, hx⟩)
      simpa using this
    · rw [if_neg hc, if_neg hc]
      have := sorted_L2 out a hl rest (A ++ [x]) best p (by rw [ha]; simp) hr
      simpa using this
theorem sorted_stay {out a : List Fact} (hl : out.length < 4611686018427387904) (h : (selP anyF ltF out.getLast? a false zF).1 = false) : ∀ cnt : List Fact, m_ref08_Sorted_L1 a cnt out = some out
  | [] => rfl
  | x :: cnt => by
    rw [m_ref08_Sorted_L1]
    obtain ⟨b, e, hr⟩ := sorted_L2 out a hl a [] (-1) (false, zF) rfl (.inl ⟨rfl, rfl⟩)
    rw [show m_ref08_Sorted_L2 out a a 0 (-1) = some b from e]
    simp only [Option.bind_some]
    rcases hr with ⟨_, e2⟩ | ⟨e1, _⟩
    · rw [if_neg (by simp [e2])]; exact sorted_stay hl h cnt
    · rw [h] at e1; cases e1
theorem sorted_L1 (a : List Fact) : ∀ (cnt : List Fact) (out s : List Fact), selL 48 anyF ltF zF a (cnt.length + 1) out = some s → s.length < 4611686018427387904 → m_ref08_Sorted_L1 a cnt out = some s ∧ out.length ≤ s.length
  | [], out, s, h, hs => by
    rw [selL] at h
    cases hp : (selP anyF ltF out.getLast? a false zF).1 with
    | false =>
      rw [hp] at h
      simp only [Bool.not_false, if_true] at h
      cases h
      exact ⟨rfl, Nat.le_refl _⟩
    | true =>
      rw [hp] at h
      simp only [Bool.not_true, Bool.false_eq_true, if_false] at h
      obtain ⟨o, ho, h⟩ := bind_some h
      replace h : selL 48 anyF ltF zF a 0 o = some s := h
      rw [selL] at h
      cases h
  | x :: cnt, out, s, h, hs => by
    rw [selL] at h
    cases hp : (selP anyF ltF out.getLast? a false zF).1 with
    | false =>
      rw [hp] at h
      simp only [Bool.not_false, if_true] at h
      cases h
      exact ⟨sorted_stay hs hp _, Nat.le_refl _⟩
    | true =>
      rw [hp] at h
      simp only [Bool.not_true, Bool.false_eq_true, if_false] at h
      obtain ⟨o, ho, h⟩ := bind_some h
      have ho' := ho
      unfold appB at ho
      split at ho
      case isFalse => cases ho
      cases ho
      obtain ⟨k1, k2⟩ := sorted_L1 a cnt _ s h hs
      simp at k2
      rw [m_ref08_Sorted_L1]
      obtain ⟨b, e, hr⟩ := sorted_L2 out a (by omega) a [] (-1) (false, zF) rfl (.inl ⟨rfl, rfl⟩)
      rw [show m_ref08_Sorted_L2 out a a 0 (-1) = some b from e]
      simp only [Option.bind_some]
      rcases hr with ⟨e1, _⟩ | ⟨e1, e2, e3⟩
      · rw [hp] at e1; cases e1
      · rw [if_pos (by simpa using e2), e3]
        simp only [Option.bind_some]
        rw [ho']
        exact ⟨k1, by omega⟩
theorem refSorted (l : List Fact) (hl : l.length ≤ 1000000000) : ∃ s, m_ref08_Sorted l = some s ∧ IsF (fun f => f ∈ l) s := by
  obtain ⟨s, h1, h2⟩ := selL_spec ltOnF (w := 48) (by omega) zF l hl (l.length + 1) [] (by simp) (by simp) (fun x hx => by cases hx) (fun x _ _ => .inr rfl)
  have hlen : s.length ≤ l.length := length_le_of_nodup (nodup_of_lt ltOnF (fun _ _ => rfl) h2.1) (fun x hx => ((h2.2 x).1 hx).1)
  exact ⟨s, (sorted_L1 l l [] s h1 (by omega)).1, h2.1, fun f => by rw [h2.2]; exact ⟨fun h => h.1, fun h => ⟨h, rfl⟩⟩⟩
theorem names_L1 : ∀ (l : List Cred) (acc : List ByteArray), acc.length + 4 * l.length ≤ 1000000000 → m_ref08_Names_L1 l acc = m_ref03_Set (acc ++ l.flatMap fun c => [c.Who, c.Head.Owner, c.B.Owner, c.C.Owner])
  | [], acc, _ => by rw [m_ref08_Names_L1]; simp [bindS]
  | c :: l, acc, h => by
    rw [m_ref08_Names_L1]
    simp only [List.length_cons] at h
    rw [appB_ok (by simp; omega) (by simp; omega)]
    simp only [Option.bind_some]
    rw [names_L1 l _ (by simp; omega)]
    simp
def SM (C : List Cred) : Prop := C.length ≤ 30000
theorem SM.small {C : List Cred} (h : SM C) : SMALL C := by unfold SM at h; unfold SMALL; omega
theorem SM.sq {C : List Cred} (h : SM C) : C.length * C.length ≤ 900000000 := Nat.mul_le_mul h h
theorem refNames {C : List Cred} (hC : SM C) (hR : Rights C) : ∃ names, m_ref08_Names C = some names ∧ ∀ c ∈ C, c.Kind = 1 → c.Who ∈ names := by
  have hC' : C.length ≤ 30000 := hC
  unfold m_ref08_Names
  rw [names_L1 C [] (by simp; omega)]
  obtain ⟨s, e, hs⟩ := refSetN ([] ++ C.flatMap fun c => [c.Who, c.Head.Owner, c.B.Owner, c.C.Owner]) (by
    have : ∀ l : List Cred, (l.flatMap fun c => [c.Who, c.Head.Owner, c.B.Owner, c.C.Owner]).length = 4 * l.length := fun l => by
      induction l with
      | nil => rfl
      | cons x l ih => simp [ih]; omega
    rw [List.nil_append, this]; omega)
  refine ⟨s, e, fun c hc hk => (hs.2 _).2 ⟨?_, ?_⟩⟩
  · rw [List.nil_append]; exact List.mem_flatMap.2 ⟨c, hc, by simp⟩
  · rcases rightC_cases (hR c hc) with h | h | h | h
    · exact h.2.1
    · exact absurd (hk.symm.trans h.1) (by decide)
    · exact absurd (hk.symm.trans h.1) (by decide)
    · exact absurd (hk.symm.trans h.1) (by decide)
theorem closed_all {C : List Cred} (hR : Rights C) {names : List ByteArray} (hn : ∀ c ∈ C, c.Kind = 1 → c.Who ∈ names) {out : List Fact} (h : ∀ c ∈ C, ∀ w ∈ names, StepP out c names w → (⟨c.Head, w⟩ : Fact) ∈ out) {f : Fact} (hf : Der C f) : f ∈ out := by
  have hw : ∀ f, Der C f → f.Who ∈ names := fun f hf => by
    obtain ⟨c, hc, hk, e⟩ := hf.who
    rw [← e]; exact hn c hc hk
  induction hf with
  | mem c hc hk => exact h c hc _ (hn c hc hk) (.inl ⟨hk, rfl⟩)
  | inc c w hc hk hd ih => exact h c hc w (hw _ hd) (.inr (.inl ⟨hk, ih⟩))
  | lnk c b w hc hk hd1 hd2 ih1 ih2 => exact h c hc w (hw _ hd2) (.inr (.inr (.inr ⟨by omega, by omega, by omega, b, hw _ hd1, ih1, ih2⟩)))
  | both c w hc hk hd1 hd2 ih1 ih2 => exact h c hc w (hw _ hd1) (.inr (.inr (.inl ⟨hk, ih1, ih2⟩)))
theorem refOf_L1 {C : List Cred} (hC : SM C) (hR : Rights C) {names : List ByteArray} (hn : ∀ c ∈ C, c.Kind = 1 → c.Who ∈ names) : ∀ (m : Nat) (out : List Fact), RInv C out → C.length * C.length < m + out.length →
    ∃ s, m_ref08_Of_L1 names C m out = some s ∧ IsF (Der C) s
  | 0, out, h, hm => by have := h.len; omega
  | m + 1, out, h, hm => by
    rw [m_ref08_Of_L1]
    obtain ⟨o, c, e, a1, a2, a3, a4⟩ := refOf_L2 hC.small hR names C out false (fun _ h => h) h
    rw [e]
    simp only [Option.bind_some, bindS]
    cases c with
    | false =>
      simp only [Bool.not_false, if_true]
      obtain ⟨_, b2, b3⟩ := a3 rfl
      subst b2
      have hl := h.len
      have hsq := hC.sq
      obtain ⟨s, hs, hF⟩ := refSorted o (by omega)
      exact ⟨s, hs, hF.1, fun f => (hF.2 f).trans ⟨h.der f, closed_all hR hn b3⟩⟩
    | true =>
      simp only [Bool.not_true, Bool.false_eq_true, if_false]
      rcases a2 rfl with h1 | h1
      · cases h1
      · exact refOf_L1 hC hR hn m o a1 (by omega)
theorem refOf08 (l : List Cred) (hl : l.length ≤ 30000) : ∃ C s, m_ref08_Of l = some s ∧ IsF (Der C) s ∧ ∀ c, c ∈ C ↔ c ∈ l ∧ rightC c = true := by
  unfold m_ref08_Of
  obtain ⟨C, e, hC⟩ := refSetC l (by omega)
  have hlen := isSet_length ltOnC hC
  have hSM : SM C := by unfold SM; omega
  have hR : Rights C := fun c hc => ((hC.2 c).1 hc).2
  obtain ⟨names, e2, hn⟩ := refNames hSM hR
  rw [e]
  simp only [Option.bind_some]
  rw [e2]
  simp only [Option.bind_some]
  have hsq := hSM.sq
  obtain ⟨s, e3, hF⟩ := refOf_L1 hSM hR hn FUEL [] ⟨by simp, fun f hf => by cases hf⟩ (by rw [FUEL_eq]; simp; omega)
  exact ⟨C, s, e3, hF, hC.2⟩
theorem sameF_run : ∀ (A l : List Fact), m_ref08_Same_L1 (A ++ l) l A.length = some true
  | A, [] => rfl
  | A, x :: l => by
    rw [m_ref08_Same_L1, idx_mid A x l _ rfl]
    simp only [Option.bind_some]
    rw [beqFact_iff.2 rfl]
    simp only [Bool.not_true, Bool.false_eq_true, if_false]
    have := sameF_run (A ++ [x]) l
    simpa using this
theorem sameF (l : List Fact) : m_ref08_Same l l = some true := by
  unfold m_ref08_Same
  rw [if_neg (by simp)]
  exact sameF_run [] l
theorem roles_L1 (w : ByteArray) : ∀ (l : List Fact) (acc : List Role), acc.length + l.length ≤ 1000000000 → m_model_Model_Roles_L1 w l acc = some (acc ++ (l.filter fun f => beqS f.Who w).map (·.Role))
  | [], acc, _ => by rw [m_model_Model_Roles_L1]; simp
  | x :: l, acc, h => by
    rw [m_model_Model_Roles_L1]
    simp only [List.length_cons] at h
    by_cases hx : beqS x.Who w = true
    · rw [if_pos hx, appB_ok (by simp; omega) (by simp; omega)]
      simp only [Option.bind_some]
      rw [roles_L1 w l _ (by simp; omega)]
      simp [hx]
    · rw [if_neg hx, roles_L1 w l acc (by omega)]
      simp [hx]
theorem sortedS_lt {l : List ByteArray} (hn : l.Nodup) : (sortedS l).Pairwise (fun a b => ltS a b = true) := by
  have h1 : (sortedS l).Pairwise (fun a b => (!ltS b a) = true) := sort_pairwise (P := fun _ => True) (fun a b c _ _ _ h1 h2 => by
      simp only [Bool.not_eq_true'] at *
      rcases ltS_total a b with h | h | h
      · rcases ltS_total b c with k | k | k
        · exact ltS_asymm (ltS_trans h k)
        · subst k; exact h1
        · rw [h2] at k; cases k
      · subst h; exact h2
      · rw [h1] at h; cases h) (fun a b _ _ => by
      rcases ltS_total a b with h | h | h
      · simp [ltS_asymm h]
      · subst h; simp [ltS_irrefl]
      · simp [ltS_asymm h]) l (fun _ _ => trivial)
  have h2 : (sortedS l).Nodup := by unfold sortedS; exact (List.mergeSort_perm l _).nodup_iff.2 hn
  refine (h1.and h2).imp (fun {a b} h => ?_)
  rcases ltS_total a b with k | k | k
  · exact k
  · exact absurd k h.2
  · have := h.1; rw [k] at this; cases this
end Go.Proofs.Ytfjdjbdnnoijgaa
