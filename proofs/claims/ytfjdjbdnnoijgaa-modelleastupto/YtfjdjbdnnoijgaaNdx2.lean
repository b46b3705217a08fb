/- a part of a proof of ModelLeast -/
import Derived.Test.YtfjdjbdnnoijgaaNcx2
set_option linter.all false
namespace Go.Proofs.Ytfjdjbdnnoijgaa
open Go.RowKit
def ltF (a b : Fact) : Bool := ltR a.Role b.Role || (beqRole a.Role b.Role && ltS a.Who b.Who)
theorem ltF_iff {a b : Fact} : ltF a b = true ↔ ltR a.Role b.Role = true ∨ (a.Role = b.Role ∧ ltS a.Who b.Who = true) := by simp [ltF, beqRole_iff]
def anyF (_ : Fact) : Bool := true
theorem ltOnF : LtOn (fun a b => ltF a b = true) (fun x => anyF x = true) := by
  have H := ltOnR (fun _ => True)
  refine ⟨fun x _ => ?_, fun x y z _ _ _ h1 h2 => ?_, fun x y _ _ => ?_⟩
  · rw [ltF_iff]
    rintro (h | ⟨_, h⟩)
    · exact H.irrefl _ trivial h
    · rw [ltS_irrefl] at h; cases h
  · rw [ltF_iff] at *
    rcases h1 with h1 | ⟨e1, h1⟩
    · rcases h2 with h2 | ⟨e2, h2⟩
      · exact .inl (H.trans _ _ _ trivial trivial trivial h1 h2)
      · exact .inl (by rw [← e2]; exact h1)
    · rcases h2 with h2 | ⟨e2, h2⟩
      · exact .inl (by rw [e1]; exact h2)
      · exact .inr ⟨e1.trans e2, ltS_trans h1 h2⟩
  · simp only [ltF_iff]
    rcases H.total x.Role y.Role trivial trivial with h | h | h
    · exact .inl (.inl h)
    · rcases ltS_total x.Who y.Who with h2 | h2 | h2
      · exact .inl (.inr ⟨h, h2⟩)
      · refine .inr (.inl ?_)
        cases x; cases y; simp at h h2; simp [h, h2]
      · exact .inr (.inr (.inr ⟨h.symm, h2⟩))
    · exact .inr (.inr (.inl h))
theorem xcmp0 (a b : ByteArray) : xCompareS a b = 0 ↔ a = b := by unfold xCompareS; rw [cmp_zero]; exact ⟨ba_ext, fun h => by rw [h]⟩
theorem xcmpN (a b : ByteArray) : xCompareS a b < 0 ↔ ltS a b = true := by rw [ltS_def]; exact cmp_neg _ _
theorem role_cmp0 (a b : Role) : ∃ c, m_role_Compare a b = some c ∧ (c < 0 ↔ ltR a b = true) ∧ (c = 0 ↔ a = b) := by
  obtain ⟨c, e, h⟩ := m_role_Compare_eq a b
  refine ⟨c, e, h, ?_⟩
  unfold m_role_Compare at e
  simp only [m_strings_Compare, m_internal_bytealg_CompareString, Option.bind_some, m_cmp_Or_int, m_cmp_Or_int_L1, bindS] at e
  by_cases e1 : xCompareS a.Owner b.Owner = 0
  · rw [if_neg (by simp [e1])] at e
    have h1 := (xcmp0 _ _).1 e1
    by_cases e2 : xCompareS a.Word b.Word = 0
    · rw [if_neg (by simp [e2])] at e
      have h2 := (xcmp0 _ _).1 e2
      cases e
      refine ⟨fun _ => ?_, fun _ => rfl⟩
      cases a; cases b; simp at h1 h2; simp [h1, h2]
    · rw [if_pos (by simp [e2])] at e
      cases e
      exact ⟨fun k => absurd k e2, fun k => by rw [k] at e2; exact absurd ((xcmp0 _ _).2 rfl) e2⟩
  · rw [if_pos (by simp [e1])] at e
    cases e
    exact ⟨fun k => absurd k e1, fun k => by rw [k] at e1; exact absurd ((xcmp0 _ _).2 rfl) e1⟩
theorem fact_cmp (a b : Fact) : ∃ c, m_model_Model_Facts_c1 a b = some c ∧ (c < 0 ↔ ltF a b = true) := by
  unfold m_model_Model_Facts_c1
  obtain ⟨c, e, h1, h2⟩ := role_cmp0 a.Role b.Role
  rw [e]
  simp only [m_strings_Compare, m_internal_bytealg_CompareString, Option.bind_some, m_cmp_Or_int, m_cmp_Or_int_L1, bindS]
  by_cases e1 : c = 0
  · rw [if_neg (by simp [e1])]
    have hr := h2.1 e1
    have hnl : ¬ ltR a.Role b.Role = true := fun hh => by have := h1.2 hh; omega
    by_cases e2 : xCompareS a.Who b.Who = 0
    · rw [if_neg (by simp [e2])]
      refine ⟨0, rfl, ?_⟩
      rw [ltF_iff]
      simp [hnl, (xcmp0 _ _).1 e2, ltS_irrefl]
    · rw [if_pos (by simp [e2])]
      refine ⟨_, rfl, ?_⟩
      rw [ltF_iff, xcmpN]
      exact ⟨fun k => .inr ⟨hr, k⟩, fun k => k.elim (fun k => absurd k hnl) (·.2)⟩
  · rw [if_pos (by simp [e1])]
    refine ⟨c, rfl, ?_⟩
    rw [ltF_iff, h1]
    have : a.Role ≠ b.Role := fun k => e1 (h2.2 k)
    simp [this]
theorem ddGo_id {α : Type} {eq : α → α → Bool} (he : ∀ x y, eq x y = true ↔ x = y) : ∀ (l : List α) (p : α), (p :: l).Nodup → ddGo eq p l = l
  | [], p, _ => rfl
  | y :: l, p, h => by
    have h1 := List.nodup_cons.1 h
    rw [ddGo, if_neg (fun e => h1.1 (by rw [← (he _ _).1 e]; simp)), ddGo_id he l y h1.2]
theorem dd_id {α : Type} {eq : α → α → Bool} (he : ∀ x y, eq x y = true ↔ x = y) : ∀ l : List α, l.Nodup → dd eq l = l
  | [], _ => rfl
  | x :: l, h => by rw [dd, ddGo_id he l x h]
def IsF (P : Fact → Prop) (s : List Fact) : Prop := s.Pairwise (fun a b => ltF a b = true) ∧ ∀ f, f ∈ s ↔ P f
theorem IsF.unique {P : Fact → Prop} {s t : List Fact} (h : IsF P s) (k : IsF P t) : s = t :=
  IsSet.unique (l := s) ltOnF ⟨h.1, fun x => ⟨fun hx => ⟨hx, rfl⟩, fun hx => hx.1⟩⟩ ⟨k.1, fun x => by rw [k.2, h.2]; exact ⟨fun hx => ⟨hx, rfl⟩, fun hx => hx.1⟩⟩
theorem sort_facts {l : List Fact} (hn : l.Nodup) (hl : l.length ≤ 1000000000000) : ∃ s, sortF (fun (x : Fact × Fact) => m_model_Model_Facts_c1 x.1 x.2) l = some s ∧ IsF (fun f => f ∈ l) s := by
  obtain ⟨s, h1, h2, h3⟩ := sortF_isSet (eq := beqFact) (lt := fun a b => ltF a b = true) (P := fun x => anyF x = true) (cf := fun (x : Fact × Fact) => m_model_Model_Facts_c1 x.1 x.2) (l := l) (fun x y => beqFact_iff) ltOnF (fun _ _ => rfl) (by omega) (fun x y _ _ => fact_cmp x y)
  have hs : s.Nodup := by
    have := (sortF_some h1).2
    rw [this]
    unfold sorted
    exact (List.mergeSort_perm l _).nodup_iff.2 hn
  rw [dd_id (fun x y => beqFact_iff) s hs] at h3
  exact ⟨s, h1, h3.1, fun f => by rw [h3.2]; exact ⟨fun h => h.1, fun h => ⟨h, rfl⟩⟩⟩
theorem flat_mm (T : Tab) : (mm T).flatMap (fun p => p.2.map (fun q => (fun (a : Role) (b : ByteArray) => (⟨a, b⟩ : Fact)) p.1 q.1)) = FS T := by
  unfold mm FS tt
  rw [List.flatMap_map]
  congr 1
  funext p
  simp [Function.comp_def]
theorem facts_ok {C : List Cred} (hC : SMALL C) {T : Tab} {us : List (Role × List Cred)} {ws : List (ByteArray × List Cred)} {n : Int} (h : MS C T us ws n) (cs : List Cred) (u : List (Role × List Cred)) (w : List (ByteArray × List Cred)) (td : List Fact) (z : Int) :
    ∃ s, m_model_Model_Facts (mm T) cs u w td z = some s ∧ IsF (Der C) s := by
  have hsq := hC.sq
  have hlen := h.good.len
  obtain ⟨s, hs, hF⟩ := sort_facts h.good.nd (by omega)
  have hD : IsF (Der C) s := ⟨hF.1, fun f => (hF.2 f).trans (h.all f)⟩
  refine ⟨s, ?_, hD⟩
  unfold m_model_Model_Facts pairsB
  rw [flat_mm]
  rw [if_pos ⟨by omega, by unfold maxLen; omega⟩]
  simp only [Option.bind_some, bindS]
  refine allOrders_intro (fun o ho => ?_)
  obtain ⟨s', hs', hF'⟩ := sort_facts ((ho.nodup_iff).2 h.good.nd) (by rw [ho.length_eq]; omega)
  rw [hs']
  congr 1
  exact IsF.unique ⟨hF'.1, fun f => (hF'.2 f).trans (ho.mem_iff.trans (h.all f))⟩ hD
def StepP (l : List Fact) (c : Cred) (names : List ByteArray) (w : ByteArray) : Prop :=
  (c.Kind = 1 ∧ c.Who = w) ∨ (c.Kind = 2 ∧ (⟨c.B, w⟩ : Fact) ∈ l) ∨ (c.Kind = 4 ∧ (⟨c.B, w⟩ : Fact) ∈ l ∧ (⟨c.C, w⟩ : Fact) ∈ l) ∨
  (c.Kind ≠ 1 ∧ c.Kind ≠ 2 ∧ c.Kind ≠ 4 ∧ ∃ b ∈ names, (⟨c.B, b⟩ : Fact) ∈ l ∧ (⟨⟨b, c.Word2⟩, w⟩ : Fact) ∈ l)
theorem StepP.der {C : List Cred} {l : List Fact} (hl : ∀ f ∈ l, Der C f) {c : Cred} (hc : c ∈ C) (hk : c.Kind = 1 ∨ c.Kind = 2 ∨ c.Kind = 3 ∨ c.Kind = 4) {names : List ByteArray} {w : ByteArray} (h : StepP l c names w) : Der C ⟨c.Head, w⟩ := by
  rcases h with ⟨k, rfl⟩ | ⟨k, h⟩ | ⟨k, h1, h2⟩ | ⟨k1, k2, k4, b, _, h1, h2⟩
  · exact .mem c hc k
  · exact .inc c w hc k (hl _ h)
  · exact .both c w hc k (hl _ h1) (hl _ h2)
  · exact .lnk c b w hc (by omega) (hl _ h1) (hl _ h2)
structure RInv (C : List Cred) (out : List Fact) : Prop where
  nd : out.Nodup
  der : ∀ f ∈ out, Der C f
theorem RInv.len {C : List Cred} {out : List Fact} (h : RInv C out) : out.length ≤ C.length * C.length := by
  rw [← uni_length]; exact length_le_of_nodup h.nd (fun f hf => (h.der f hf).uni)
end Go.Proofs.Ytfjdjbdnnoijgaa
