/- a part of a proof of ModelAdds -/
import Derived.Test.YtfjdjbdnnoijgaaNc
set_option linter.all false
namespace Go.Proofs.Ytfjdjbdnnoijgaa
open Go.RowKit
def ltF (a b : Fact) : Bool := ltR a.Role b.Role || (beqRole a.Role b.Role && ltS a.Who b.Who)
theorem ltF_iff {a b : Fact} : ltF a b = true ↔ ltR a.Role b.Role = true ∨ (a.Role = b.Role ∧ ltS a.Who b.Who = true) := by simp [ltF, beqRole_iff]
def anyF (_ : Fact) : Bool := true
theorem ltOnF : LtOn (fun a b => ltF a b = true) (fun x => anyF x = true) := by
  have H := ltOnR (fun _ => True)
  refine ⟨fun x _ => ?_, fun x y z _ _ _ h1 h2 => ?_, fun x y _ _ => ?_⟩
  · rw [ltF_iff]
    rintro (h | ⟨_, h⟩)
    · exact H.irrefl _ trivial h
    · rw [ltS_irrefl] at h; cases h
  · rw [ltF_iff] at *
    rcases h1 with h1 | ⟨e1, h1⟩
    · rcases h2 with h2 | ⟨e2, h2⟩
      · exact .inl (H.trans _ _ _ trivial trivial trivial h1 h2)
      · exact .inl (by rw [← e2]; exact h1)
    · rcases h2 with h2 | ⟨e2, h2⟩
      · exact .inl (by rw [e1]; exact h2)
      · exact .inr ⟨e1.trans e2, ltS_trans h1 h2⟩
  · simp only [ltF_iff]
    rcases H.total x.Role y.Role trivial trivial with h | h | h
    · exact .inl (.inl h)
    · rcases ltS_total x.Who y.Who with h2 | h2 | h2
      · exact .inl (.inr ⟨h, h2⟩)
      · refine .inr (.inl ?_)
        cases x; cases y; simp at h h2; simp [h, h2]
      · exact .inr (.inr (.inr ⟨h.symm, h2⟩))
    · exact .inr (.inr (.inl h))
theorem xcmp0 (a b : ByteArray) : xCompareS a b = 0 ↔ a = b := by unfold xCompareS; rw [cmp_zero]; exact ⟨ba_ext, fun h => by rw [h]⟩
theorem xcmpN (a b : ByteArray) : xCompareS a b < 0 ↔ ltS a b = true := by rw [ltS_def]; exact cmp_neg _ _
theorem role_cmp0 (a b : Role) : ∃ c, m_role_Compare a b = some c ∧ (c < 0 ↔ ltR a b = true) ∧ (c = 0 ↔ a = b) := by
  obtain ⟨c, e, h⟩ := m_role_Compare_eq a b
  refine ⟨c, e, h, ?_⟩
  unfold m_role_Compare at e
  simp only [m_strings_Compare, m_internal_bytealg_CompareString, Option.bind_some, m_cmp_Or_int, m_cmp_Or_int_L1, bindS] at e
  by_cases e1 : xCompareS a.Owner b.Owner = 0
  · rw [if_neg (by simp [e1])] at e
    have h1 := (xcmp0 _ _).1 e1
    by_cases e2 : xCompareS a.Word b.Word = 0
    · rw [if_neg (by simp [e2])] at e
      have h2 := (xcmp0 _ _).1 e2
      cases e
      refine ⟨fun _ => ?_, fun _ => rfl⟩
      cases a; cases b; simp at h1 h2; simp [h1, h2]
    · rw [if_pos (by simp [e2])] at e
      cases e
      exact ⟨fun k => absurd k e2, fun k => by rw [k] at e2; exact absurd ((xcmp0 _ _).2 rfl) e2⟩
  · rw [if_pos (by simp [e1])] at e
    cases e
    exact ⟨fun k => absurd k e1, fun k => by rw [k] at e1; exact absurd ((xcmp0 _ _).2 rfl) e1⟩
theorem fact_cmp (a b : Fact) : ∃ c, m_model_Model_Facts_c1 a b = some c ∧ (c < 0 ↔ ltF a b = true) := by
  unfold m_model_Model_Facts_c1
  obtain ⟨c, e, h1, h2⟩ := role_cmp0 a.Role b.Role
  rw [e]
  simp only [m_strings_Compare, m_internal_bytealg_CompareString, Option.bind_some, m_cmp_Or_int, m_cmp_Or_int_L1, bindS]
  by_cases e1 : c = 0
  · rw [if_neg (by simp [e1])]
    have hr := h2.1 e1
    have hnl : ¬ ltR a.Role b.Role = true := fun hh => by have := h1.2 hh; omega
    by_cases e2 : xCompareS a.Who b.Who = 0
    · rw [if_neg (by simp [e2])]
      refine ⟨0, rfl, ?_⟩
      rw [ltF_iff]
      simp [hnl, (xcmp0 _ _).1 e2, ltS_irrefl]
    · rw [if_pos (by simp [e2])]
      refine ⟨_, rfl, ?_⟩
      rw [ltF_iff, xcmpN]
      exact ⟨fun k => .inr ⟨hr, k⟩, fun k => k.elim (fun k => absurd k hnl) (·.2)⟩
  · rw [if_pos (by simp [e1])]
    refine ⟨c, rfl, ?_⟩
    rw [ltF_iff, h1]
    have : a.Role ≠ b.Role := fun k => e1 (h2.2 k)
    simp [this]
theorem ddGo_id {α : Type} {eq : α → α → Bool} (he : ∀ x y, eq x y = true ↔ x = y) : ∀ (l : List α) (p : α), (p :: l).Nodup → ddGo eq p l = l
  | [], p, _ => rfl
  | y :: l, p, h => by
    have h1 := List.nodup_cons.1 h
    rw [ddGo, if_neg (fun e => h1.1 (by rw [← (he _ _).1 e]; simp)), ddGo_id he l y h1.2]
theorem dd_id {α : Type} {eq : α → α → Bool} (he : ∀ x y, eq x y = true ↔ x = y) : ∀ l : List α, l.Nodup → dd eq l = l
  | [], _ => rfl
  | x :: l, h => by rw [dd, ddGo_id he l x h]
def IsF (P : Fact → Prop) (s : List Fact) : Prop := s.Pairwise (fun a b => ltF a b = true) ∧ ∀ f, f ∈ s ↔ P f
theorem IsF.unique {P : Fact → Prop} {s t : List Fact} (h : IsF P s) (k : IsF P t) : s = t :=
  IsSet.unique (l := s) ltOnF ⟨h.1, fun x => ⟨fun hx => ⟨hx, rfl⟩, fun hx => hx.1⟩⟩ ⟨k.1, fun x => by rw [k.2, h.2]; exact ⟨fun hx => ⟨hx, rfl⟩, fun hx => hx.1⟩⟩
theorem sort_facts {l : List Fact} (hn : l.Nodup) (hl : l.length ≤ 1000000000000) : ∃ s, sortF (fun (x : Fact × Fact) => m_model_Model_Facts_c1 x.1 x.2) l = some s ∧ IsF (fun f => f ∈ l) s := by
  obtain ⟨s, h1, h2, h3⟩ := sortF_isSet (eq := beqFact) (lt := fun a b => ltF a b = true) (P := fun x => anyF x = true) (cf := fun (x : Fact × Fact) => m_model_Model_Facts_c1 x.1 x.2) (l := l) (fun x y => beqFact_iff) ltOnF (fun _ _ => rfl) (by omega) (fun x y _ _ => fact_cmp x y)
  have hs : s.Nodup := by
    have := (sortF_some h1).2
    rw [this]
    unfold sorted
    exact (List.mergeSort_perm l _).nodup_iff.2 hn
  rw [dd_id (fun x y => beqFact_iff) s hs] at h3
  exact ⟨s, h1, h3.1, fun f => by rw [h3.2]; exact ⟨fun h => h.1, fun h => ⟨h, rfl⟩⟩⟩
theorem flat_mm (T : Tab) : (mm T).flatMap (fun p => p.2.map (fun q => (fun (a : Role) (b : ByteArray) => (⟨a, b⟩ : Fact)) p.1 q.1)) = FS T := by
  unfold mm FS tt
  rw [List.flatMap_map]
  congr 1
  funext p
  simp [Function.comp_def]
theorem facts_ok {C : List Cred} (hC : SMALL C) {T : Tab} {us : List (Role × List Cred)} {ws : List (ByteArray × List Cred)} {n : Int} (h : MS C T us ws n) (cs : List Cred) (u : List (Role × List Cred)) (w : List (ByteArray × List Cred)) (td : List Fact) (z : Int) :
    ∃ s, m_model_Model_Facts (mm T) cs u w td z = some s ∧ IsF (Der C) s := by
  have hsq := hC.sq
  have hlen := h.good.len
  obtain ⟨s, hs, hF⟩ := sort_facts h.good.nd (by omega)
  have hD : IsF (Der C) s := ⟨hF.1, fun f => (hF.2 f).trans (h.all f)⟩
  refine ⟨s, ?_, hD⟩
  unfold m_model_Model_Facts pairsB
  rw [flat_mm]
  rw [if_pos ⟨by omega, by unfold maxLen; omega⟩]
  simp only [Option.bind_some, bindS]
  refine allOrders_intro (fun o ho => ?_)
  obtain ⟨s', hs', hF'⟩ := sort_facts ((ho.nodup_iff).2 h.good.nd) (by rw [ho.length_eq]; omega)
  rw [hs']
  congr 1
  exact IsF.unique ⟨hF'.1, fun f => (hF'.2 f).trans (ho.mem_iff.trans (h.all f))⟩ hD
theorem refIn (r : Role) (w : ByteArray) : ∀ l : List Fact, ∃ b, m_ref08_In_L1 r w l = some b ∧ (b = true ↔ (⟨r, w⟩ : Fact) ∈ l)
  | [] => ⟨false, rfl, by simp⟩
  | x :: l => by
    rw [m_ref08_In_L1]
    simp only [andS, Option.bind_some]
    obtain ⟨b, e, hb⟩ := refIn r w l
    by_cases h : (beqRole x.Role r && beqS x.Who w) = true
    · rw [if_pos h]
      have h' : x = ⟨r, w⟩ := by
        rw [Bool.and_eq_true, beqRole_iff, beqS_iff] at h
        cases x; simp at h; simp [h]
      exact ⟨true, rfl, by simp [h']⟩
    · rw [if_neg h]
      refine ⟨b, e, ?_⟩
      rw [hb, List.mem_cons]
      refine ⟨.inr, fun h2 => h2.resolve_left (fun e => h ?_)⟩
      rw [← e]; simp [beqRole_refl, beqS_refl]
theorem refIn_eq (l : List Fact) (r : Role) (w : ByteArray) : ∃ b, m_ref08_In l r w = some b ∧ (b = true ↔ (⟨r, w⟩ : Fact) ∈ l) := refIn r w l
def StepP (l : List Fact) (c : Cred) (names : List ByteArray) (w : ByteArray) : Prop :=
  (c.Kind = 1 ∧ c.Who = w) ∨ (c.Kind = 2 ∧ (⟨c.B, w⟩ : Fact) ∈ l) ∨ (c.Kind = 4 ∧ (⟨c.B, w⟩ : Fact) ∈ l ∧ (⟨c.C, w⟩ : Fact) ∈ l) ∨
  (c.Kind ≠ 1 ∧ c.Kind ≠ 2 ∧ c.Kind ≠ 4 ∧ ∃ b ∈ names, (⟨c.B, b⟩ : Fact) ∈ l ∧ (⟨⟨b, c.Word2⟩, w⟩ : Fact) ∈ l)
theorem refStep_L1 (l : List Fact) (c : Cred) (w : ByteArray) : ∀ names : List ByteArray, ∃ b, m_ref08_Step_L1 l c w names = some b ∧ (b = true ↔ ∃ b ∈ names, (⟨c.B, b⟩ : Fact) ∈ l ∧ (⟨⟨b, c.Word2⟩, w⟩ : Fact) ∈ l)
  | [] => ⟨false, rfl, by simp⟩
  | x :: names => by
    rw [m_ref08_Step_L1]
    obtain ⟨b1, e1, h1⟩ := refIn_eq l c.B x
    obtain ⟨b2, e2, h2⟩ := refIn_eq l ⟨x, c.Word2⟩ w
    obtain ⟨b, e, hb⟩ := refStep_L1 l c w names
    rw [e1, e2, e]
    simp only [Option.bind_some, andS]
    by_cases h : (b1 && b2) = true
    · rw [if_pos h]
      rw [Bool.and_eq_true, h1, h2] at h
      exact ⟨true, rfl, by simp [h]⟩
    · rw [if_neg h]
      rw [Bool.and_eq_true, h1, h2] at h
      refine ⟨b, rfl, ?_⟩
      rw [hb]
      constructor
      · rintro ⟨y, hy, q⟩; exact ⟨y, by simp [hy], q⟩
      · rintro ⟨y, hy, q⟩
        rcases List.mem_cons.1 hy with rfl | hy
        · exact absurd q h
        · exact ⟨y, hy, q⟩
theorem refStep (l : List Fact) (c : Cred) (names : List ByteArray) (w : ByteArray) : ∃ b, m_ref08_Step l c names w = some b ∧ (b = true ↔ StepP l c names w) := by
  unfold m_ref08_Step StepP
  simp only [bindS]
  by_cases h1 : c.Kind = 1
  · rw [if_pos (by simp [h1])]; exact ⟨_, rfl, by simp [h1, beqS_iff]⟩
  rw [if_neg (by simp [h1])]
  by_cases h2 : c.Kind = 2
  · rw [if_pos (by simp [h2])]
    obtain ⟨b, e, hb⟩ := refIn_eq l c.B w
    exact ⟨b, e, by simp [h2, hb]⟩
  rw [if_neg (by simp [h2])]
  by_cases h4 : c.Kind = 4
  · rw [if_pos (by simp [h4])]
    obtain ⟨b1, e1, hb1⟩ := refIn_eq l c.B w
    obtain ⟨b2, e2, hb2⟩ := refIn_eq l c.C w
    rw [e1, e2]
    simp only [Option.bind_some, andS]
    exact ⟨_, rfl, by simp [h4, hb1, hb2]⟩
  rw [if_neg (by simp [h4])]
  obtain ⟨b, e, hb⟩ := refStep_L1 l c w names
  exact ⟨b, e, by rw [hb]; simp [h1, h2, h4]⟩
theorem StepP.der {C : List Cred} {l : List Fact} (hl : ∀ f ∈ l, Der C f) {c : Cred} (hc : c ∈ C) (hk : c.Kind = 1 ∨ c.Kind = 2 ∨ c.Kind = 3 ∨ c.Kind = 4) {names : List ByteArray} {w : ByteArray} (h : StepP l c names w) : Der C ⟨c.Head, w⟩ := by
  rcases h with ⟨k, rfl⟩ | ⟨k, h⟩ | ⟨k, h1, h2⟩ | ⟨k1, k2, k4, b, _, h1, h2⟩
  · exact .mem c hc k
  · exact .inc c w hc k (hl _ h)
  · exact .both c w hc k (hl _ h1) (hl _ h2)
  · exact .lnk c b w hc (by omega) (hl _ h1) (hl _ h2)
theorem right_kind {c : Cred} (h : rightC c = true) : c.Kind = 1 ∨ c.Kind = 2 ∨ c.Kind = 3 ∨ c.Kind = 4 := by rcases rightC_cases h with h | h | h | h <;> simp [h.1]
structure RInv (C : List Cred) (out : List Fact) : Prop where
  nd : out.Nodup
  der : ∀ f ∈ out, Der C f
theorem RInv.len {C : List Cred} {out : List Fact} (h : RInv C out) : out.length ≤ C.length * C.length := by
  rw [← uni_length]; exact length_le_of_nodup h.nd (fun f hf => (h.der f hf).uni)
theorem refOf_L3 {C : List Cred} (hC : SMALL C) (hR : Rights C) {c : Cred} (hc : c ∈ C) (names : List ByteArray) : ∀ (l : List ByteArray) (out : List Fact) (came : Bool), RInv C out →
    ∃ out' came', m_ref08_Of_L3 c names l out came = some (out', came') ∧ RInv C out' ∧ (came' = true → came = true ∨ out.length < out'.length) ∧ (came' = false → came = false ∧ out' = out ∧ ∀ w ∈ l, StepP out c names w → (⟨c.Head, w⟩ : Fact) ∈ out) ∧ out.length ≤ out'.length
  | [], out, came, h => ⟨out, came, rfl, h, .inl, fun h => ⟨h, rfl, fun _ hw => by cases hw⟩, Nat.le_refl _⟩
  | w :: l, out, came, h => by
    rw [m_ref08_Of_L3]
    obtain ⟨b1, e1, h1⟩ := refIn_eq out c.Head w
    obtain ⟨b2, e2, h2⟩ := refStep out c names w
    rw [e1, e2]
    simp only [Option.bind_some, andS]
    by_cases hb : (!b1 && b2) = true
    · rw [if_pos hb]
      rw [Bool.and_eq_true] at hb
      have hn : (⟨c.Head, w⟩ : Fact) ∉ out := fun hh => by have := h1.2 hh; rw [this] at hb; exact absurd hb.1 (by decide)
      have hl := h.len
      have hsq := hC.sq
      rw [appB_ok (by simp; omega) (by simp; omega)]
      simp only [Option.bind_some]
      have h' : RInv C (out ++ [⟨c.Head, w⟩]) := ⟨List.nodup_append.2 ⟨h.nd, by simp, fun a ha b hb e => by simp at hb; subst hb; subst e; exact hn ha⟩, fun f hf => by
        rcases List.mem_append.1 hf with hf | hf
        · exact h.der f hf
        · simp at hf; subst hf; exact (h2.1 hb.2).der h.der hc (right_kind (hR c hc))⟩
      obtain ⟨out', came', e, a1, a2, a3, a4⟩ := refOf_L3 hC hR hc names l _ true h'
      simp at a4
      exact ⟨out', came', e, a1, fun _ => .inr (by omega), fun hf => (by cases (a3 hf).1), by omega⟩
    · rw [if_neg hb]
      obtain ⟨out', came', e, a1, a2, a3, a4⟩ := refOf_L3 hC hR hc names l out came h
      refine ⟨out', came', e, a1, a2, fun hf => ?_, a4⟩
      obtain ⟨b1', b2', b3'⟩ := a3 hf
      refine ⟨b1', b2', fun v hv hs => ?_⟩
      rcases List.mem_cons.1 hv with rfl | hv
      · refine Classical.byContradiction fun hn => hb ?_
        rw [Bool.and_eq_true, h2.2 hs]
        cases b1 with
        | false => exact ⟨rfl, rfl⟩
        | true => exact absurd (h1.1 rfl) hn
      · exact b3' v hv hs
theorem refOf_L2 {C : List Cred} (hC : SMALL C) (hR : Rights C) (names : List ByteArray) : ∀ (l : List Cred) (out : List Fact) (came : Bool), (∀ c ∈ l, c ∈ C) → RInv C out →
    ∃ out' came', m_ref08_Of_L2 names l out came = some (out', came') ∧ RInv C out' ∧ (came' = true → came = true ∨ out.length < out'.length) ∧ (came' = false → came = false ∧ out' = out ∧ ∀ c ∈ l, ∀ w ∈ names, StepP out c names w → (⟨c.Head, w⟩ : Fact) ∈ out) ∧ out.length ≤ out'.length
  | [], out, came, _, h => ⟨out, came, rfl, h, .inl, fun h => ⟨h, rfl, fun _ hw => by cases hw⟩, Nat.le_refl _⟩
  | c :: l, out, came, hs, h => by
    rw [m_ref08_Of_L2]
    obtain ⟨o1, c1, e1, a1, a2, a3, a4⟩ := refOf_L3 hC hR (hs c (by simp)) names names out came h
    rw [e1]
    simp only [Option.bind_some]
    obtain ⟨o2, c2, e2, b1, b2, b3, b4⟩ := refOf_L2 hC hR names l o1 c1 (fun d hd => hs d (by simp [hd])) a1
    refine ⟨o2, c2, e2, b1, fun hf => ?_, fun hf => ?_, by omega⟩
    · rcases b2 hf with h1 | h1
      · rcases a2 h1 with h2 | h2
        · exact .inl h2
        · exact .inr (by omega)
      · exact .inr (by omega)
    · obtain ⟨p1, p2, p3⟩ := b3 hf
      obtain ⟨q1, q2, q3⟩ := a3 p1
      subst q2
      refine ⟨q1, p2, fun d hd => ?_⟩
      rcases List.mem_cons.1 hd with rfl | hd
      · exact q3
      · exact p3 d hd
end Go.Proofs.Ytfjdjbdnnoijgaa
