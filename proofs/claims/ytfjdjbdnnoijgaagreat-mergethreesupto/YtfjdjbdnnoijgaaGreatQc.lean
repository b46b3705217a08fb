/- a part of a proof of MergeThrees -/
import Derived.Test.YtfjdjbdnnoijgaaGreatQb
set_option linter.all false
namespace Go.Proofs.YtfjdjbdnnoijgaaGreat
open Go.RowKit
def threeB (base a b : List Cred) (x : Cred) : Bool := (hasB beqCred base x && hasB beqCred a x && hasB beqCred b x) || (!hasB beqCred base x && (hasB beqCred a x || hasB beqCred b x))
theorem threeB_iff (base a b : List Cred) (x : Cred) : threeB base a b x = true ↔ threeP base a b x := by
  unfold threeB threeP
  simp only [Bool.or_eq_true, Bool.and_eq_true, Bool.not_eq_true', ← Bool.not_eq_true, hasB_iff beqCred_iff, and_assoc]
theorem three_L1 (base a b : List Cred) : ∀ (l acc : List Cred), acc.length + l.length ≤ 1000000000 → m_ref41_Three_L1 base a b l acc = some (acc ++ l.filter (threeB base a b))
  | [], acc, _ => by rw [m_ref41_Three_L1]; simp
  | x :: l, acc, h => by
    simp only [List.length_cons] at h
    rw [m_ref41_Three_L1, hasC_eq, hasC_eq, hasC_eq]
    simp only [Option.bind_some]
    have ih1 := three_L1 base a b l acc (by omega)
    have ih2 := three_L1 base a b l (acc ++ [x]) (by simp; omega)
    have ha : appB 136 acc [x] = some (acc ++ [x]) := appB_ok (by simp; omega) (by simp; omega)
    rw [List.filter_cons]
    unfold threeB at ih1 ih2 ⊢
    cases q0 : hasB beqCred base x <;> cases q1 : hasB beqCred a x <;> cases q2 : hasB beqCred b x <;> simp [ha, ih1, ih2, q0, q1, q2]
theorem refThree_ok (base a b : List Cred) (h0 : base.length ≤ 10000000) (ha : a.length ≤ 10000000) (hb : b.length ≤ 10000000) :
    ∃ s, m_ref41_Three base a b = some s ∧ s.Pairwise (fun a b => ltC a b = true) ∧ ∀ x, x ∈ s ↔ threeP base a b x ∧ rightC x = true := by
  unfold m_ref41_Three
  rw [appB_ok (by simp; omega) (by simp; omega)]
  simp only [Option.bind_some, List.nil_append]
  rw [appB_ok (by omega) (by omega)]
  simp only [Option.bind_some]
  rw [appB_ok (by simp; omega) (by simp; omega)]
  simp only [Option.bind_some]
  obtain ⟨s, e, hs⟩ := refSetC (base ++ a ++ b) (by simp; omega)
  have hl := isSet_length ltOnC hs
  simp only [List.length_append] at hl
  rw [e]
  simp only [Option.bind_some]
  rw [three_L1 base a b s [] (by simp; omega)]
  refine ⟨_, rfl, hs.1.filter _, fun x => ?_⟩
  rw [List.nil_append, List.mem_filter, threeB_iff, hs.2, List.mem_append, List.mem_append]
  unfold threeP
  by_cases q0 : x ∈ base <;> by_cases q1 : x ∈ a <;> by_cases q2 : x ∈ b <;> simp [q0, q1, q2]
theorem lost_L1 (t : List Fact) : ∀ (l acc : List Fact), acc.length + l.length ≤ 1000000000 → ∃ s, m_ref41_Lost_L1 t l acc = some (acc ++ s) ∧ ∃ p : Fact → Bool, s = l.filter p ∧ ∀ f ∈ l, (p f = true ↔ f ∉ t)
  | [], acc, _ => ⟨[], by rw [m_ref41_Lost_L1]; simp, fun _ => true, rfl, by simp⟩
  | x :: l, acc, h => by
    simp only [List.length_cons] at h
    obtain ⟨q, e, hq⟩ := refIn_eq t x.Role x.Who
    have hx : (⟨x.Role, x.Who⟩ : Fact) = x := rfl
    rw [hx] at hq
    rw [m_ref41_Lost_L1, e]
    simp only [Option.bind_some]
    classical
    have hp : ∀ f ∈ x :: l, (decide (f ∉ t) = true ↔ f ∉ t) := fun f _ => decide_eq_true_iff
    cases q with
    | true =>
      obtain ⟨s, e2, p, hs, hp2⟩ := lost_L1 t l acc (by omega)
      have hm : x ∈ t := hq.1 rfl
      simp only [Bool.not_true, Bool.false_eq_true, if_false]
      refine ⟨s, e2, fun f => decide (f ∉ t), ?_, hp⟩
      rw [hs, List.filter_cons, if_neg (by simpa using hm)]
      exact List.filter_congr (fun f hf => by have := hp2 f hf; rw [Bool.eq_iff_iff, this, decide_eq_true_iff])
    | false =>
      obtain ⟨s, e2, p, hs, hp2⟩ := lost_L1 t l (acc ++ [x]) (by simp; omega)
      have hm : x ∉ t := fun h => by have := hq.2 h; cases this
      simp only [Bool.not_false, if_true]
      rw [appB_ok (by simp; omega) (by simp; omega)]
      simp only [Option.bind_some]
      refine ⟨x :: s, by rw [e2]; simp, fun f => decide (f ∉ t), ?_, hp⟩
      rw [hs, List.filter_cons, if_pos (by simpa using hm)]
      congr 1
      exact List.filter_congr (fun f hf => by have := hp2 f hf; rw [Bool.eq_iff_iff, this, decide_eq_true_iff])
theorem refLost_ok (a b : List Cred) (ha : a.length ≤ 30000) (hb : b.length ≤ 30000) : ∃ A B s, m_ref41_Lost a b = some s ∧ (∀ c, c ∈ A ↔ c ∈ a ∧ rightC c = true) ∧ (∀ c, c ∈ B ↔ c ∈ b ∧ rightC c = true) ∧ IsF (fun f => Der A f ∧ ¬ Der B f) s := by
  unfold m_ref41_Lost
  obtain ⟨B, t, e1, h1, hB⟩ := refOf08 b hb
  obtain ⟨A, s, e2, h2, hA⟩ := refOf08 a ha
  rw [e1, e2]
  simp only [Option.bind_some]
  obtain ⟨C, T, us, ws, n, e3, m3, hC, hl⟩ := of_ok a (by omega)
  have hsC : IsF (Der C) s := ⟨h2.1, fun f => (h2.2 f).trans (Der.congr (fun c => by rw [hA, hC]) f)⟩
  have hlen := isF_der hsC (show SM C by unfold SM; omega)
  obtain ⟨u, e4, p, rfl, hp⟩ := lost_L1 t s [] (by simp; omega)
  refine ⟨A, B, _, by rw [e4]; rfl, hA, hB, h2.1.filter _, fun f => ?_⟩
  rw [List.mem_filter]
  constructor
  · rintro ⟨q1, q2⟩
    exact ⟨(h2.2 f).1 q1, fun h => (hp f q1).1 q2 ((h1.2 f).2 h)⟩
  · rintro ⟨q1, q2⟩
    have := (h2.2 f).2 q1
    exact ⟨this, (hp f this).2 (fun h => q2 ((h1.2 f).1 h))⟩
theorem mergeThrees_main (hf : m_law41_first = some true) (base a b : List Cred) (hl0 : base.length ≤ 10000000) (hla : a.length ≤ 10000000) (hlb : b.length ≤ 10000000) (hc0 : ∀ c ∈ base, sizeC c ≤ 1000000000) (hca : ∀ c ∈ a, sizeC c ≤ 1000000000) (hcb : ∀ c ∈ b, sizeC c ≤ 1000000000) : m_law41_MergeThrees base a b = some true := by
  unfold m_law41_MergeThrees
  rw [hf]
  simp only [Option.bind_some, Bool.not_true, Bool.false_eq_true, if_false]
  obtain ⟨ga, ea, ha1, ha2⟩ := great_both a hla hca
  obtain ⟨gb, eb, hb1, hb2⟩ := great_both b hlb hcb
  obtain ⟨g0, e0, h01, h02⟩ := great_both base hl0 hc0
  rw [ea, eb, e0]
  simp only [Option.bind_some]
  rw [wrap_in (x := ga + gb) (by omega) (by omega), wrap_in (by omega) (by omega)]
  by_cases hbig : ga + gb + g0 > 1800
  · rw [if_pos (by simpa using hbig)]
  · rw [if_neg (by simpa using hbig)]
    obtain ⟨C1, C2, x, y, e1, hC1, hC2, hx, hy⟩ := mfacts_ok a b (by omega) (by omega)
    obtain ⟨s, e2, p1, p2⟩ := three_ok base a b (by omega) (by omega) (by omega)
    obtain ⟨t, e3, p3, p4⟩ := refThree_ok base a b (by omega) (by omega) (by omega)
    rw [e1, e2, e3]
    simp only [Option.bind_some]
    have hst : s = t := IsSet.unique (l := t) ltOnC ⟨p1, fun x => by rw [p2, p4]; exact ⟨fun h => ⟨h, h.2⟩, fun h => h.1⟩⟩ ⟨p3, fun x => by rw [p4]; exact ⟨fun h => ⟨h, h.2⟩, fun h => h.1⟩⟩
    rw [hst, sameC]
    simp only [Option.bind_some, if_true]
    obtain ⟨A1, B1, u, e4, hA1, hB1, hu⟩ := refLost_ok b a (by omega) (by omega)
    obtain ⟨A2, B2, v, e5, hA2, hB2, hv⟩ := refLost_ok a b (by omega) (by omega)
    rw [e4, e5]
    simp only [Option.bind_some]
    have hxu : x = u := hx.unique ⟨hu.1, fun f => by rw [hu.2]; show (Der A1 f ∧ ¬ Der B1 f) ↔ (Der C2 f ∧ ¬ Der C1 f); rw [Der.congr (C := A1) (C' := C2) (fun c => by rw [hA1, hC2]), Der.congr (C := B1) (C' := C1) (fun c => by rw [hB1, hC1])]⟩
    have hyv : y = v := hy.unique ⟨hv.1, fun f => by rw [hv.2]; show (Der A2 f ∧ ¬ Der B2 f) ↔ (Der C1 f ∧ ¬ Der C2 f); rw [Der.congr (C := A2) (C' := C1) (fun c => by rw [hA2, hC1]), Der.congr (C := B2) (C' := C2) (fun c => by rw [hB2, hC2])]⟩
    rw [hxu, hyv, sameF]
    simp only [Option.bind_some, if_true]
    rw [sameF]
    rfl
end Go.Proofs.YtfjdjbdnnoijgaaGreat
