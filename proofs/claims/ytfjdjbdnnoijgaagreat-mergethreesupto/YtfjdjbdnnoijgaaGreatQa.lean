/- a part of a proof of MergeThrees -/
import Derived.Test.YtfjdjbdnnoijgaaGreatNf
set_option linter.all false
namespace Go.Proofs.YtfjdjbdnnoijgaaGreat
open Go.RowKit
def mns (a b : List Cred) : List Cred := a.filter fun c => !hasB beqCred b c
theorem mem_mns (a b : List Cred) (c : Cred) : c ∈ mns a b ↔ c ∈ a ∧ c ∉ b := by
  simp only [mns, List.mem_filter, Bool.not_eq_true', and_congr_right_iff]
  intro _
  rw [← Bool.not_eq_true, hasB_iff beqCred_iff]
theorem minus_ok (a b : List Cred) (ha : a.length ≤ 100000000) : ∃ s, m_merge_minus a b = some s ∧ IsSetC (mns a b) s ∧ s.length ≤ a.length := by
  obtain ⟨t, e, h⟩ := setC a (by omega)
  have hl := isSet_length ltOnC h
  have hf : ∀ x, ∃ q, m_cred_Has b x = some q ∧ (q = true ↔ x ∈ b) := fun x => cred_Has x b
  have hp : ∀ x, m_cred_Has b x = some (hasB beqCred b x) := fun x => by
    obtain ⟨q, e, hq⟩ := hf x
    rw [e]
    congr 1
    have := hasB_iff beqCred_iff b x
    cases q <;> cases h : hasB beqCred b x <;> simp_all
  refine ⟨t.filter fun x => !hasB beqCred b x, ?_, ⟨h.1.filter _, fun x => ?_⟩, Nat.le_trans (List.length_filter_le _ _) hl⟩
  · unfold m_merge_minus
    rw [e]
    simp only [Option.bind_some]
    rw [delFC_eq, delF_run _ (fun c => hasB beqCred b c) zC t (by omega) (fun c _ => by unfold m_merge_minus_c1; rw [hp]; rfl)]
    rfl
  · rw [List.mem_filter, h.2, mem_mns]
    have := hasB_iff beqCred_iff b x
    cases hb : hasB beqCred b x <;> simp_all
theorem grow_nil (n : Nat) (hn : n ≤ 1000000000) : m_slices_Grow_Cred_nil (n : Int) = some [] := by
  unfold m_slices_Grow_Cred_nil
  rw [if_neg (by simp), wrap_in (x := 0 - 0) (by omega) (by omega), show (n : Int) - (0 - 0) = n by omega, wrap_in (x := (n : Int)) (by omega) (by omega)]
  by_cases h : 0 < n
  · rw [if_pos (by simpa using h)]
    unfold makeB
    rw [if_pos ⟨by omega, by omega, by unfold maxLen; omega⟩]
    simp [chk]
  · rw [if_neg (by simpa using h)]; rfl
theorem concat_ok (a b : List Cred) (h : a.length + b.length ≤ 1000000000) : m_slices_Concat_Cred [a, b] = some (a ++ b) := by
  unfold m_slices_Concat_Cred
  rw [m_slices_Concat_Cred_L1, wrap_in (by omega) (by omega), if_neg (by simp), m_slices_Concat_Cred_L1, wrap_in (by omega) (by omega), if_neg (by simp; omega), m_slices_Concat_Cred_L1]
  rw [show (0 : Int) + (a.length : Int) + (b.length : Int) = ((a.length + b.length : Nat) : Int) by omega, grow_nil _ h]
  simp only [Option.bind_some]
  rw [m_slices_Concat_Cred_L2, appB_ok (by simp; omega) (by simp; omega)]
  simp only [Option.bind_some, List.nil_append]
  rw [m_slices_Concat_Cred_L2, appB_ok (by omega) (by omega)]
  simp only [Option.bind_some]
  rw [m_slices_Concat_Cred_L2]
  rfl
theorem apply_ok (a came went : List Cred) (ha : a.length ≤ 100000000) (hc : came.length ≤ 100000000) : ∃ s, m_merge_Apply a came went = some s ∧ IsSetC (mns a went ++ came) s ∧ s.length ≤ a.length + came.length := by
  unfold m_merge_Apply
  obtain ⟨t, e, h, hl⟩ := minus_ok a went ha
  rw [e]
  simp only [Option.bind_some]
  rw [concat_ok t came (by omega)]
  simp only [Option.bind_some]
  obtain ⟨s, e2, h2⟩ := setC (t ++ came) (by simp; omega)
  rw [e2]
  have hl2 := isSet_length ltOnC h2
  refine ⟨s, rfl, ⟨h2.1, fun x => ?_⟩, by simp at hl2; omega⟩
  rw [h2.2, List.mem_append, List.mem_append, h.2]
  exact ⟨fun h => ⟨h.1.elim (fun h => .inl h.1) .inr, h.2⟩, fun h => ⟨h.1.elim (fun h1 => .inl ⟨h1, h.2⟩) .inr, h.2⟩⟩
theorem diff_ok (a b : List Cred) (ha : a.length ≤ 100000000) (hb : b.length ≤ 100000000) : ∃ came went, m_merge_Diff a b = some (came, went) ∧ IsSetC (mns b a) came ∧ IsSetC (mns a b) went ∧ came.length ≤ b.length ∧ went.length ≤ a.length := by
  unfold m_merge_Diff
  obtain ⟨s, e, h, hl⟩ := minus_ok b a hb
  obtain ⟨t, e2, h2, hl2⟩ := minus_ok a b ha
  rw [e, e2]
  exact ⟨s, t, rfl, h, h2, hl, hl2⟩
def threeP (base a b : List Cred) (x : Cred) : Prop := (x ∈ base ∧ x ∈ a ∧ x ∈ b) ∨ (x ∉ base ∧ (x ∈ a ∨ x ∈ b))
theorem three_ok (base a b : List Cred) (h0 : base.length ≤ 10000000) (ha : a.length ≤ 10000000) (hb : b.length ≤ 10000000) :
    ∃ s, m_merge_Three base a b = some s ∧ s.Pairwise (fun a b => ltC a b = true) ∧ ∀ x, x ∈ s ↔ threeP base a b x ∧ rightC x = true := by
  unfold m_merge_Three
  obtain ⟨c1, w1, e1, h1, g1, l1, k1⟩ := diff_ok base a (by omega) (by omega)
  obtain ⟨c2, w2, e2, h2, g2, l2, k2⟩ := diff_ok base b (by omega) (by omega)
  rw [e1, e2]
  simp only [Option.bind_some]
  rw [concat_ok w1 w2 (by omega)]
  simp only [Option.bind_some]
  obtain ⟨p, e3, h3, l3⟩ := apply_ok base [] (w1 ++ w2) (by omega) (by simp)
  rw [e3]
  simp only [Option.bind_some]
  rw [concat_ok c1 c2 (by omega)]
  simp only [Option.bind_some]
  obtain ⟨s, e4, h4, l4⟩ := apply_ok p (c1 ++ c2) [] (by simp at l3; omega) (by simp; omega)
  rw [e4]
  refine ⟨s, rfl, h4.1, fun x => ?_⟩
  rw [h4.2, List.mem_append, mem_mns, h3.2, List.mem_append, List.mem_append, mem_mns, List.mem_append, h1.2, h2.2, g1.2, g2.2]
  simp only [mem_mns, List.not_mem_nil, or_false, not_false_eq_true, and_true, not_or, not_and, threeP]
  by_cases hx : rightC x = true <;> by_cases q0 : x ∈ base <;> by_cases q1 : x ∈ a <;> by_cases q2 : x ∈ b <;> simp [hx, q0, q1, q2]
theorem setEq {s t l : List Cred} (h1 : s.Pairwise (fun a b => ltC a b = true)) (h : ∀ x, x ∈ s ↔ x ∈ l ∧ rightC x = true) (ht : IsSetC l t) : s = t := IsSet.unique ltOnC ⟨h1, h⟩ ht
theorem great_up : ∀ (l : List Cred) (n r : Int), 0 ≤ n → (∀ c ∈ l, sizeC c ≤ 1000000000) → n + l.length * 1000000020 ≤ 4000000000000000000 → m_law05_Great_L1 l n = some r → r ≤ n + l.length * 1000000020
  | [], n, r, h0, hc, hb, h => by cases h; simp
  | c :: l, n, r, h0, hc, hb, h => by
    have hh := hc c (by simp)
    unfold sizeC at hh
    simp only [List.length_cons] at hb ⊢
    rw [m_law05_Great_L1] at h
    rw [wrap_in (x := 20 + (c.Head.Owner.size : Int)) (by omega) (by omega), wrap_in (x := 20 + (c.Head.Owner.size : Int) + (c.Head.Word.size : Int)) (by omega) (by omega), wrap_in (x := 20 + (c.Head.Owner.size : Int) + (c.Head.Word.size : Int) + (c.Who.size : Int)) (by omega) (by omega), wrap_in (x := 20 + (c.Head.Owner.size : Int) + (c.Head.Word.size : Int) + (c.Who.size : Int) + (c.B.Owner.size : Int)) (by omega) (by omega), wrap_in (x := 20 + (c.Head.Owner.size : Int) + (c.Head.Word.size : Int) + (c.Who.size : Int) + (c.B.Owner.size : Int) + (c.B.Word.size : Int)) (by omega) (by omega), wrap_in (x := 20 + (c.Head.Owner.size : Int) + (c.Head.Word.size : Int) + (c.Who.size : Int) + (c.B.Owner.size : Int) + (c.B.Word.size : Int) + (c.C.Owner.size : Int)) (by omega) (by omega), wrap_in (x := 20 + (c.Head.Owner.size : Int) + (c.Head.Word.size : Int) + (c.Who.size : Int) + (c.B.Owner.size : Int) + (c.B.Word.size : Int) + (c.C.Owner.size : Int) + (c.C.Word.size : Int)) (by omega) (by omega), wrap_in (x := 20 + (c.Head.Owner.size : Int) + (c.Head.Word.size : Int) + (c.Who.size : Int) + (c.B.Owner.size : Int) + (c.B.Word.size : Int) + (c.C.Owner.size : Int) + (c.C.Word.size : Int) + (c.Word2.size : Int)) (by omega) (by omega), wrap_in (by omega) (by omega)] at h
    have := great_up l _ r (by omega) (fun d hd => hc d (by simp [hd])) (by omega) h
    omega
theorem great_both (l : List Cred) (hl : l.length ≤ 10000000) (hc : ∀ c ∈ l, sizeC c ≤ 1000000000) : ∃ r, m_law05_Great l = some r ∧ 20 * (l.length : Int) ≤ r ∧ r ≤ 100000000000000000 := by
  obtain ⟨r, h, h1⟩ := great_L1 l 0 (by omega) (by omega) hc (by omega)
  exact ⟨r, h, by omega, by have := great_up l 0 r (by omega) hc (by omega) h; omega⟩
end Go.Proofs.YtfjdjbdnnoijgaaGreat
