/- a part of a proof of ModelLeast -/
import Derived.Test.YtfjdjbdnnoijgaaNgx2
import Derived.Test.YtfjdjbdnnoijgaaNfx2
set_option linter.all false
namespace Go.Proofs.Ytfjdjbdnnoijgaa
open Go.RowKit
theorem br_step {c : Cred} {p : Role × ByteArray → Bool} {out : List Fact} (hp : ∀ r w, p (r, w) = true ↔ (⟨r, w⟩ : Fact) ∈ out) (s : List ByteArray) (w : ByteArray) : brP c p s w = true ↔ StepP out c s w := by
  unfold brP StepP
  by_cases h1 : c.Kind = 1
  · rw [if_pos h1, beqS_iff]
    constructor
    · intro h; exact .inl ⟨h1, h⟩
    · rintro (h | h | h | h)
      · exact h.2
      · exact absurd (h1.symm.trans h.1) (by decide)
      · exact absurd (h1.symm.trans h.1) (by decide)
      · exact absurd h1 h.1
  rw [if_neg h1]
  by_cases h2 : c.Kind = 2
  · rw [if_pos h2, hp]
    constructor
    · intro h; exact .inr (.inl ⟨h2, h⟩)
    · rintro (h | h | h | h)
      · exact absurd h.1 h1
      · exact h.2
      · exact absurd (h2.symm.trans h.1) (by decide)
      · exact absurd h2 h.2.1
  rw [if_neg h2]
  by_cases h4 : c.Kind = 4
  · rw [if_pos h4, Bool.and_eq_true, hp, hp]
    constructor
    · intro h; exact .inr (.inr (.inl ⟨h4, h⟩))
    · rintro (h | h | h | h)
      · exact absurd h.1 h1
      · exact absurd h.1 h2
      · exact h.2
      · exact absurd h4 h.2.2.1
  rw [if_neg h4, List.any_eq_true]
  constructor
  · rintro ⟨b, hb, h⟩
    rw [Bool.and_eq_true, hp, hp] at h
    exact .inr (.inr (.inr ⟨h1, h2, h4, b, hb, h⟩))
  · rintro (h | h | h | h)
    · exact absurd h.1 h1
    · exact absurd h.1 h2
    · exact absurd h.1 h4
    · obtain ⟨_, _, _, b, hb, h⟩ := h
      exact ⟨b, hb, by rw [Bool.and_eq_true, hp, hp]; exact h⟩
theorem step_der {C : List Cred} {c : Cred} (hc : c ∈ C) (hr : rightC c = true) {out : List Fact} (ho : ∀ f ∈ out, Der C f) {s : List ByteArray} {w : ByteArray} (h : StepP out c s w) : Der C ⟨c.Head, w⟩ := by
  rcases h with ⟨h1, h2⟩ | ⟨h1, h2⟩ | ⟨h1, h2, h3⟩ | ⟨h1, h2, h3, b, _, h4, h5⟩
  · subst h2; exact .mem c hc h1
  · exact .inc c w hc h1 (ho _ h2)
  · exact .both c w hc h1 (ho _ h2) (ho _ h3)
  · have h3' : c.Kind = 3 := by
      rcases rightC_cases hr with h | h | h | h
      · exact absurd h.1 h1
      · exact absurd h.1 h2
      · exact h.1
      · exact absurd h.1 h3
    exact .lnk c b w hc h3' (ho _ h4) (ho _ h5)
theorem holds_any {f : Role × ByteArray → Option Bool} {p : Role × ByteArray → Bool} (hf : ∀ x, f x = some (p x)) {out : List Fact} (hp : ∀ r w, p (r, w) = true ↔ (⟨r, w⟩ : Fact) ∈ out) (c : Cred) {l s : List ByteArray} (hl : l.length ≤ 900000000) (hs : IsSetN l s) :
    ∃ h, m_model_Holds c f l = some h ∧ (∀ g ∈ h, rightC c = true ∧ g.Role = c.Head ∧ StepP out c s g.Who) ∧ (rightC c = true → ∀ w ∈ s, StepP out c s w → (⟨c.Head, w⟩ : Fact) ∈ h) := by
  by_cases hr : rightC c = true
  · obtain ⟨s', hs', e⟩ := holds_ok hf hr l hl
    obtain rfl : s' = s := IsSet.unique (ltOnS _) hs' hs
    refine ⟨_, e, fun g hg => ?_, fun _ w hw hst => ?_⟩
    · obtain ⟨w, hw, rfl⟩ := List.mem_map.1 hg
      exact ⟨hr, rfl, (br_step hp _ _).1 (List.mem_filter.1 hw).2⟩
    · refine List.mem_map.2 ⟨w, List.mem_filter.2 ⟨?_, (br_step hp _ _).2 hst⟩, rfl⟩
      split
      · rename_i h1
        rcases hst with h | h | h | h
        · rw [h.2]; simp
        · exact absurd (h1.symm.trans h.1) (by decide)
        · exact absurd (h1.symm.trans h.1) (by decide)
        · exact absurd h1 h.1
      · exact hw
  · refine ⟨[], ?_, by simp, fun h => absurd h hr⟩
    unfold m_model_Holds
    rw [m_cred_Right_eq]
    simp only [Bool.not_eq_true] at hr
    rw [hr]
    rfl
theorem right_name {c : Cred} (hr : rightC c = true) (hk : c.Kind = 1) : rightN c.Who = true := by
  rcases rightC_cases hr with h | h | h | h
  · exact h.2.1
  · exact absurd (hk.symm.trans h.1) (by decide)
  · exact absurd (hk.symm.trans h.1) (by decide)
  · exact absurd (hk.symm.trans h.1) (by decide)
theorem refNames2 {C : List Cred} (hC : SM C) : ∃ names, m_ref08_Names C = some names ∧ names.length ≤ 4 * C.length ∧ ∀ c ∈ C, c.Kind = 1 → rightC c = true → c.Who ∈ names := by
  have hC' : C.length ≤ 30000 := hC
  unfold m_ref08_Names
  rw [names_L1 C [] (by simp; omega)]
  have hlen : ∀ l : List Cred, (l.flatMap fun c => [c.Who, c.Head.Owner, c.B.Owner, c.C.Owner]).length = 4 * l.length := fun l => by
    induction l with
    | nil => rfl
    | cons x l ih => simp [ih]; omega
  obtain ⟨s, e, hs⟩ := refSetN ([] ++ C.flatMap fun c => [c.Who, c.Head.Owner, c.B.Owner, c.C.Owner]) (by rw [List.nil_append, hlen]; omega)
  refine ⟨s, e, by have := isSet_length (ltOnS _) hs; rw [List.nil_append, hlen] at this; exact this, fun c hc hk hr => (hs.2 _).2 ⟨?_, right_name hr hk⟩⟩
  rw [List.nil_append]; exact List.mem_flatMap.2 ⟨c, hc, by simp⟩
theorem ins_ext {κ : Type} {beq : κ → κ → Bool} (ks : List κ) (k : κ) : ∃ e, ins beq ks k = ks ++ e := by
  unfold ins; split
  · exact ⟨[], by simp⟩
  · exact ⟨[k], rfl⟩
theorem found_L3 : ∀ (h hs : List Fact), ∃ e, m_law08_founded_L3 h (tt hs) = some (tt (hs ++ e)) ∧ (hs.Nodup → (hs ++ e).Nodup) ∧ (∀ f, f ∈ hs ++ e ↔ f ∈ hs ∨ f ∈ h)
  | [], hs => ⟨[], by rw [m_law08_founded_L3]; simp, by simp, by simp⟩
  | x :: h, hs => by
    rw [m_law08_founded_L3, mput_tt beqFact_iff]
    obtain ⟨e1, he1⟩ := ins_ext (beq := beqFact) hs x
    obtain ⟨e, h1, h2, h3⟩ := found_L3 h (ins beqFact hs x)
    rw [he1] at h1 h2 h3
    refine ⟨e1 ++ e, by rw [he1, h1, List.append_assoc], fun hn => ?_, fun f => ?_⟩
    · rw [← List.append_assoc]; exact h2 (by rw [← he1]; exact nodup_ins beqFact_iff hn x)
    · rw [← List.append_assoc, h3, ← he1, mem_ins beqFact_iff]
      simp [or_assoc]
theorem found_L2 {C : List Cred} (names s : List ByteArray) (hl : names.length ≤ 900000000) (hsN : IsSetN names s) : ∀ (l : List Cred) (hs : List Fact), (∀ c ∈ l, rightC c = true → c ∈ C) → hs.Nodup → (∀ f ∈ hs, Der C f) →
    ∃ e, m_law08_founded_L2 names l (tt hs) = some (tt (hs ++ e)) ∧ (hs ++ e).Nodup ∧ (∀ f ∈ hs ++ e, Der C f) ∧ (e = [] → ∀ c ∈ l, rightC c = true → ∀ w ∈ s, StepP hs c s w → (⟨c.Head, w⟩ : Fact) ∈ hs)
  | [], hs, _, hn, hd => ⟨[], by rw [m_law08_founded_L2]; simp, by simpa using hn, by simpa using hd, by simp⟩
  | c :: l, hs, hC, hn, hd => by
    rw [m_law08_founded_L2]
    obtain ⟨h, e0, a1, a2⟩ := holds_any (f := fun x => m_law08_founded_c1 x.1 x.2 (tt hs)) (p := fun x => hasB beqFact hs ⟨x.1, x.2⟩) (fun x => by unfold m_law08_founded_c1; rw [mgetD_tt]) (out := hs) (fun r w => hasB_iff beqFact_iff hs _) c hl hsN
    rw [e0]
    simp only [Option.bind_some]
    obtain ⟨e1, b1, b2, b3⟩ := found_L3 h hs
    rw [b1]
    simp only [Option.bind_some]
    obtain ⟨e2, d1, d2, d3, d4⟩ := found_L2 names s hl hsN l (hs ++ e1) (fun x hx => hC x (by simp [hx])) (b2 hn) (fun f hf => by
      rcases (b3 f).1 hf with h1 | h1
      · exact hd f h1
      · obtain ⟨q1, q2, q3⟩ := a1 f h1
        have := step_der (hC c (by simp) q1) q1 hd q3
        rw [← q2] at this
        exact this)
    refine ⟨e1 ++ e2, by rw [d1, List.append_assoc], by rw [← List.append_assoc]; exact d2, by rw [← List.append_assoc]; exact d3, fun he c' hc' hr w hw hst => ?_⟩
    obtain ⟨rfl, rfl⟩ := List.append_eq_nil_iff.1 he
    simp only [List.append_nil] at b3 d4
    rcases List.mem_cons.1 hc' with rfl | hc'
    · exact (b3 _).2 (.inr (a2 hr w hw hst))
    · exact d4 trivial c' hc' hr w hw hst
theorem found_L1 {C : List Cred} (names s : List ByteArray) (hl : names.length ≤ 900000000) (hsN : IsSetN names s) (l : List Cred) (hC : ∀ c ∈ l, rightC c = true → c ∈ C) : ∀ (F hs : List Fact), hs.Nodup → (∀ f ∈ hs, Der C f) →
    ∃ o, m_law08_founded_L1 names l F (tt hs) = some (tt o) ∧ o.Nodup ∧ (∀ f ∈ o, Der C f) ∧ ((∀ c ∈ l, rightC c = true → ∀ w ∈ s, StepP o c s w → (⟨c.Head, w⟩ : Fact) ∈ o) ∨ hs.length + F.length ≤ o.length)
  | [], hs, hn, hd => ⟨hs, by rw [m_law08_founded_L1], hn, hd, .inr (by simp)⟩
  | x :: F, hs, hn, hd => by
    rw [m_law08_founded_L1]
    obtain ⟨e, e1, a1, a2, a3⟩ := found_L2 names s hl hsN l hs hC hn hd
    rw [e1]
    simp only [Option.bind_some, tt_length]
    cases e with
    | nil =>
      rw [if_pos (by simp)]
      simp only [List.append_nil] at a1 a2 ⊢
      exact ⟨hs, rfl, a1, a2, .inl (a3 rfl)⟩
    | cons y e =>
      rw [if_neg (by simp; omega)]
      obtain ⟨o, o1, o2, o3, o4⟩ := found_L1 names s hl hsN l hC F (hs ++ y :: e) a1 a2
      refine ⟨o, o1, o2, o3, o4.imp_right fun h => ?_⟩
      simp only [List.length_append, List.length_cons] at h ⊢
      omega
theorem founded_ok {C : List Cred} (hR : Rights C) {names s : List ByteArray} (hl : names.length ≤ 900000000) (hsN : IsSetN names s) (hw : ∀ c ∈ C, c.Kind = 1 → c.Who ∈ names) {l : List Cred} (hC : ∀ c, c ∈ C ↔ c ∈ l ∧ rightC c = true) {F : List Fact} (hF : IsF (Der C) F) : m_law08_founded l F names = some true := by
  unfold m_law08_founded
  obtain ⟨o, e, o1, o2, o3⟩ := found_L1 (C := C) names s hl hsN l (fun c hc hr => (hC c).2 ⟨hc, hr⟩) F [] (by simp) (by simp)
  rw [show m_law08_founded_L1 names l F [] = _ from e]
  simp only [Option.bind_some, tt_length]
  have hFn : F.Nodup := nodup_of_lt ltOnF (fun x _ => rfl) hF.1
  have hsub : o.length ≤ F.length := length_le_of_nodup o1 (fun f hf => (hF.2 f).2 (o2 f hf))
  have hlen : o.length = F.length := by
    rcases o3 with h | h
    · have hall : ∀ f, Der C f → f ∈ o := fun f hf => closed_all hR (names := s) (fun c hc hk => (hsN.2 _).2 ⟨hw c hc hk, right_name (hR c hc) hk⟩) (fun c hc w hws hst => h c ((hC c).1 hc).1 (hR c hc) w hws hst) hf
      exact Nat.le_antisymm hsub (length_le_of_nodup hFn (fun f hf => hall f ((hF.2 f).1 hf)))
    · simp only [List.length_nil] at h; omega
  rw [hlen]
  simp
theorem least_L2 {C : List Cred} {T : Tab} {us : List (Role × List Cred)} {ws : List (ByteArray × List Cred)} {n : Int} (M : MS C T us ws n) : ∀ h : List Fact, (∀ f ∈ h, Der C f) → m_law08_ModelLeast_L2 (mm T, C, us, ws, [], n) h = some (Sum.inr ())
  | [], _ => rfl
  | f :: h, hd => by
    rw [m_law08_ModelLeast_L2]
    obtain ⟨b, e, hb⟩ := min_ok M C us ws [] n f.Role f.Who
    have : b = true := hb.2 (hd f (by simp))
    subst this
    simp only [e, Option.bind_some, Bool.not_true, Bool.false_eq_true, if_false]
    exact least_L2 M h (fun f hf => hd f (by simp [hf]))
theorem least_L3 {C : List Cred} {T : Tab} {us : List (Role × List Cred)} {ws : List (ByteArray × List Cred)} {n : Int} (M : MS C T us ws n) : ∀ h : List Fact, (∀ f ∈ h, Der C f) → m_law08_ModelLeast_L3 (mm T, C, us, ws, [], n) h = some (Sum.inr ())
  | [], _ => rfl
  | f :: h, hd => by
    rw [m_law08_ModelLeast_L3]
    obtain ⟨b, e, hb⟩ := min_ok M C us ws [] n f.Role f.Who
    have : b = true := hb.2 (hd f (by simp))
    subst this
    simp only [e, Option.bind_some, Bool.not_true, Bool.false_eq_true, if_false]
    exact least_L3 M h (fun f hf => hd f (by simp [hf]))
theorem least_L4 (l : List Cred) (hl : l.length ≤ 1000000) : ∀ (xs : List Cred) (i : Nat) (acc : List Cred), i + xs.length = l.length → acc.length + xs.length ≤ 1000000 →
    m_law08_ModelLeast_L4 l xs i acc = some (acc ++ (l.take xs.length).reverse)
  | [], i, acc, _, _ => by rw [m_law08_ModelLeast_L4]; simp
  | x :: xs, i, acc, h, hb => by
    simp only [List.length_cons] at h hb
    have hlt : xs.length < l.length := by omega
    rw [m_law08_ModelLeast_L4, wrap_in (x := (l.length : Int) - 1) (by omega) (by omega), wrap_in (by omega) (by omega), show (l.length : Int) - 1 - (i : Int) = ((xs.length : Nat) : Int) by omega, idx_nat, List.getElem?_eq_getElem hlt]
    simp only [Option.bind_some]
    rw [appB_ok (by simp; omega) (by simp; omega)]
    simp only [Option.bind_some]
    rw [least_L4 l hl xs (i + 1) _ (by omega) (by simp; omega)]
    rw [List.length_cons, List.take_succ_eq_append_getElem hlt, List.reverse_append]
    simp
theorem least_L1 {C : List Cred} {T : Tab} {us : List (Role × List Cred)} {ws : List (ByteArray × List Cred)} {n : Int} (M : MS C T us ws n) {names s : List ByteArray} (hl : names.length ≤ 900000000) (hsN : IsSetN names s) (hw : ∀ c ∈ C, c.Kind = 1 → c.Who ∈ names) {l : List Cred} (h60 : l.length ≤ 60) (hC : ∀ c, c ∈ C ↔ c ∈ l ∧ rightC c = true) {F : List Fact} (hF : IsF (Der C) F) (more : Cred) :
    ∀ xs : List Cred, (∀ c ∈ xs, c ∈ l) → m_law08_ModelLeast_L1 (mm T, C, us, ws, [], n) names l F more xs = some true
  | [], _ => by
    rw [m_law08_ModelLeast_L1, least_L4 l (by omega) l 0 [] (by simp) (by simp; omega), List.take_length, List.nil_append]
    simp only [Option.bind_some]
    obtain ⟨C2, T2, us2, ws2, n2, e2, M2, hC2, hlen2⟩ := of_ok l.reverse (by simp; omega)
    rw [e2]
    simp only [Option.bind_some]
    have hS2 : SM C2 := by unfold SM; simp at hlen2; omega
    obtain ⟨F2, e3, hF2⟩ := facts_ok hS2.small M2 C2 us2 ws2 [] n2
    rw [e3]
    simp only [Option.bind_some]
    have hcc : ∀ c, c ∈ C2 ↔ c ∈ C := fun c => by rw [hC2, hC, List.mem_reverse]
    have hFF : F2 = F := IsF.unique (P := Der C) ⟨hF2.1, fun f => (hF2.2 f).trans (Der.congr hcc f)⟩ hF
    subst hFF
    rw [sameF]
    simp only [Option.bind_some, Bool.not_true, Bool.false_eq_true, if_false]
    rw [appB_ok (by simp; omega) (by simp; omega)]
    simp only [Option.bind_some, List.nil_append]
    rw [appB_ok (by simp; omega) (by simp; omega)]
    simp only [Option.bind_some]
    obtain ⟨C3, T3, us3, ws3, n3, e4, M3, hC3, hlen3⟩ := of_ok (l ++ [more]) (by simp; omega)
    rw [e4]
    simp only [Option.bind_some]
    rw [least_L3 M3 F2 (fun f hf => ((hF.2 f).1 hf).mono (fun c hc => (hC3 c).2 ⟨List.mem_append_left _ ((hC c).1 hc).1, ((hC c).1 hc).2⟩))]
    simp only [Option.bind_some]
    rw [founded_ok M.right hl hsN hw hC hF]
    rfl
  | c :: xs, hx => by
    rw [m_law08_ModelLeast_L1]
    obtain ⟨h, e, a1, _⟩ := holds_any (f := fun x => m_model_Model_In (mm T) C us ws [] n x.1 x.2) (p := fun x => mgetD beqS ((mget beqRole (mm T) x.1).getD []) x.2 false) (fun _ => rfl) (out := FS T) (fun r w => hasB_names M.good.keys r w) c hl hsN
    simp only [e, Option.bind_some]
    rw [least_L2 M h (fun f hf => by
      obtain ⟨q1, q2, q3⟩ := a1 f hf
      have := step_der ((hC c).2 ⟨hx c (by simp), q1⟩) q1 (fun f hf => (M.all f).1 hf) q3
      rw [← q2] at this
      exact this)]
    simp only [Option.bind_some]
    exact least_L1 M hl hsN hw h60 hC hF more xs (fun c hc => hx c (by simp [hc]))
theorem modelLeast_main (hf : m_law08_first = some true) (l : List Cred) (more : Cred) (hl : l.length ≤ 10000000) (hc : ∀ c ∈ l, sizeC c ≤ 1000000000) (hm : sizeC more ≤ 1000000000) : m_law08_ModelLeast l more = some true := by
  unfold m_law08_ModelLeast
  rw [hf]
  simp only [Option.bind_some, Bool.not_true, Bool.false_eq_true, if_false]
  obtain ⟨g, hg, hg2⟩ := great_L1 l 0 (by omega) (by omega) hc (by omega)
  rw [show m_law05_Great l = some g from hg]
  simp only [Option.bind_some]
  by_cases hbig : g > 1200
  · rw [if_pos (by simpa using hbig)]; rfl
  · rw [if_neg (by simpa using hbig)]
    obtain ⟨g2, hg2', _⟩ := great_L1 [more] 0 (by omega) (by omega) (fun c hc => by simp at hc; subst hc; exact hm) (by simp)
    rw [show m_law05_Great [more] = some g2 from hg2']
    simp only [Option.bind_some]
    cases hb : decide (g2 > 300) with
    | true => rfl
    | false =>
      simp only [Bool.false_eq_true, if_false]
      have h60 : l.length ≤ 60 := by omega
      obtain ⟨C, T, us, ws, n, e1, M, hC, hlen⟩ := of_ok l (by omega)
      rw [e1]
      simp only [Option.bind_some]
      have hS : SM C := by unfold SM; omega
      obtain ⟨F, e2, hF⟩ := facts_ok hS.small M C us ws [] n
      rw [e2]
      simp only [Option.bind_some]
      rw [appB_ok (by simp; omega) (by simp; omega)]
      simp only [Option.bind_some, List.nil_append]
      rw [appB_ok (by simp; omega) (by simp; omega)]
      simp only [Option.bind_some]
      obtain ⟨D, e3, hD⟩ := refSetC (l ++ [more]) (by simp; omega)
      have hDl := isSet_length ltOnC hD
      simp only [List.length_append, List.length_cons, List.length_nil] at hDl
      rw [e3]
      simp only [Option.bind_some]
      obtain ⟨names, e4, hn, hw⟩ := refNames2 (C := D) (by unfold SM; omega)
      rw [e4]
      simp only [Option.bind_some]
      obtain ⟨s, _, hs⟩ := refSetN names (by omega)
      exact least_L1 M (by omega) hs (fun c hc hk => by
        have := (hC c).1 hc
        exact hw c ((hD.2 c).2 ⟨List.mem_append_left _ this.1, this.2⟩) hk this.2) h60 hC hF more l (fun _ h => h)
end Go.Proofs.Ytfjdjbdnnoijgaa
