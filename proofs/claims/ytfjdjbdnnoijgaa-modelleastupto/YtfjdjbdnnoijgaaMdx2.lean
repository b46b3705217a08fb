/- a part of a proof of ModelLeast -/
import Derived.Test.YtfjdjbdnnoijgaaMcx2
set_option linter.all false
namespace Go.Proofs.Ytfjdjbdnnoijgaa
open Go.RowKit
def selP {α : Type} (R : α → Bool) (lt : α → α → Bool) (last : Option α) : List α → Bool → α → Bool × α
  | [], ok, b => (ok, b)
  | x :: xs, ok, b => if R x && last.all (fun y => lt y x) && (!ok || lt x b) then selP R lt last xs true x else selP R lt last xs ok b
def selL {α : Type} (w : Nat) (R : α → Bool) (lt : α → α → Bool) (d : α) (l : List α) : Nat → List α → Option (List α)
  | 0, _ => none
  | n + 1, out => if !(selP R lt out.getLast? l false d).1 then some out else (appB w out [(selP R lt out.getLast? l false d).2]).bind fun o => selL w R lt d l n o
section
variable {α : Type} {R : α → Bool} {lt : α → α → Bool}
theorem selP_spec (H : LtOn (fun a b => lt a b = true) (fun x => R x = true)) (last : Option α) : ∀ (l : List α) (ok : Bool) (b : α), (ok = true → R b = true ∧ last.all (fun y => lt y b) = true) →
    ((selP R lt last l ok b).1 = false → ok = false ∧ ∀ x ∈ l, R x = true → last.all (fun y => lt y x) = false) ∧
    ((selP R lt last l ok b).1 = true → R (selP R lt last l ok b).2 = true ∧ last.all (fun y => lt y (selP R lt last l ok b).2) = true ∧ ((selP R lt last l ok b).2 ∈ l ∨ (ok = true ∧ (selP R lt last l ok b).2 = b)) ∧
      (∀ x ∈ l, R x = true → last.all (fun y => lt y x) = true → lt x (selP R lt last l ok b).2 = false) ∧ (ok = true → lt b (selP R lt last l ok b).2 = false))
  | [], ok, b, hb => by
    simp only [selP]
    exact ⟨fun h => ⟨h, by simp⟩, fun h => ⟨(hb h).1, (hb h).2, .inr ⟨h, trivial⟩, by simp, fun _ => by
      cases hx : lt b b with
      | false => rfl
      | true => exact absurd hx (H.irrefl b (hb h).1)⟩⟩
  | x :: xs, ok, b, hb => by
    rw [selP]
    by_cases hc : (R x && last.all (fun y => lt y x) && (!ok || lt x b)) = true
    · rw [if_pos hc]
      simp only [Bool.and_eq_true, Bool.or_eq_true, Bool.not_eq_true'] at hc
      obtain ⟨⟨hR, hL⟩, hok⟩ := hc
      obtain ⟨h1, h2⟩ := selP_spec H last xs true x (fun _ => ⟨hR, hL⟩)
      refine ⟨fun h => ?_, fun h => ?_⟩
      · cases (h1 h).1
      · obtain ⟨a1, a2, a3, a4, a5⟩ := h2 h
        refine ⟨a1, a2, ?_, ?_, ?_⟩
        · rcases a3 with a3 | ⟨_, a3⟩
          · exact .inl (by simp [a3])
          · exact .inl (by rw [a3]; simp)
        · intro y hy hRy hLy
          rcases List.mem_cons.1 hy with rfl | hy
          · exact a5 rfl
          · exact a4 y hy hRy hLy
        · intro hko
          cases hx : lt b (selP R lt last xs true x).2 with
          | false => rfl
          | true =>
            have hxb : lt x b = true := by rcases hok with h | h; rw [hko] at h; cases h; exact h
            have := H.trans x b _ hR (hb hko).1 a1 hxb hx
            simp only [a5 rfl] at this
            cases this
    · rw [if_neg hc]
      obtain ⟨h1, h2⟩ := selP_spec H last xs ok b hb
      refine ⟨fun h => ⟨(h1 h).1, fun y hy hRy => ?_⟩, fun h => ?_⟩
      · rcases List.mem_cons.1 hy with rfl | hy
        · have hko := (h1 h).1
          cases hL : last.all (fun z => lt z y) with
          | false => rfl
          | true => exact absurd (by simp [hRy, hL, hko]) hc
        · exact (h1 h).2 y hy hRy
      · obtain ⟨a1, a2, a3, a4, a5⟩ := h2 h
        refine ⟨a1, a2, ?_, ?_, a5⟩
        · rcases a3 with a3 | a3
          · exact .inl (by simp [a3])
          · exact .inr a3
        · intro y hy hRy hLy
          rcases List.mem_cons.1 hy with rfl | hy
          · cases hx : lt y (selP R lt last xs ok b).2 with
            | false => rfl
            | true =>
              cases ok with
              | false => exact absurd (by simp [hRy, hLy]) hc
              | true =>
                have hyb : lt y b = false := by
                  cases h3 : lt y b with
                  | false => rfl
                  | true => exact absurd (by simp [hRy, hLy, h3]) hc
                have hb' := hb rfl
                rcases H.total y b hRy hb'.1 with h4 | h4 | h4
                · rw [hyb] at h4; cases h4
                · subst h4; rw [a5 rfl] at hx; cases hx
                · have := H.trans b y _ hb'.1 hRy a1 h4 hx
                  simp only [a5 rfl] at this
                  cases this
          · exact a4 y hy hRy hLy
theorem nodup_of_lt (H : LtOn (fun a b => lt a b = true) (fun x => R x = true)) {l : List α} (hR : ∀ x ∈ l, R x = true) (h : l.Pairwise (fun a b => lt a b = true)) : l.Nodup := by
  refine h.imp_of_mem (fun {a b} ha hb hab e => ?_)
  subst e
  exact H.irrefl a (hR a ha) hab
theorem length_le_of_nodup : ∀ {l m : List α}, l.Nodup → (∀ x ∈ l, x ∈ m) → l.length ≤ m.length
  | [], _, _, _ => by simp
  | x :: l, m, hn, hs => by
    obtain ⟨A, B, rfl⟩ := List.append_of_mem (hs x (by simp))
    have hn' := List.nodup_cons.1 hn
    have := length_le_of_nodup (l := l) (m := A ++ B) hn'.2 (fun y hy => by
      have := hs y (List.mem_cons_of_mem _ hy)
      simp only [List.mem_append, List.mem_cons] at this ⊢
      rcases this with h | h | h
      · exact .inl h
      · subst h; exact absurd hy hn'.1
      · exact .inr h)
    simp at this ⊢; omega
theorem selL_spec (H : LtOn (fun a b => lt a b = true) (fun x => R x = true)) {w : Nat} (hw : w ≤ 1000) (d : α) (l : List α) (hl : l.length ≤ 1000000000) : ∀ (n : Nat) (out : List α), l.length < n + out.length → out.Pairwise (fun a b => lt a b = true) → (∀ x ∈ out, x ∈ l ∧ R x = true) →
    (∀ x ∈ l, R x = true → x ∈ out ∨ out.getLast?.all (fun y => lt y x) = true) → ∃ s, selL w R lt d l n out = some s ∧ IsSet (fun a b => lt a b = true) (fun x => R x = true) l s
  | 0, out, hn, hp, hm, hc => by
    exfalso
    have := length_le_of_nodup (nodup_of_lt H (fun x hx => (hm x hx).2) hp) (fun x hx => (hm x hx).1)
    omega
  | n + 1, out, hn, hp, hm, hc => by
    rw [selL]
    obtain ⟨h1, h2⟩ := selP_spec H out.getLast? l false d (fun h => by cases h)
    have hlen := length_le_of_nodup (nodup_of_lt H (fun x hx => (hm x hx).2) hp) (fun x hx => (hm x hx).1)
    cases hs : (selP R lt out.getLast? l false d).1 with
    | false =>
      rw [if_pos (by simp)]
      refine ⟨out, rfl, hp, fun x => ⟨hm x, fun hx => ?_⟩⟩
      rcases hc x hx.1 hx.2 with h | h
      · exact h
      · rw [(h1 hs).2 x hx.1 hx.2] at h; cases h
    | true =>
      rw [if_neg (by simp)]
      obtain ⟨a1, a2, a3, a4, _⟩ := h2 hs
      generalize (selP R lt out.getLast? l false d).2 = b at *
      have hbl : b ∈ l := by rcases a3 with h | ⟨h, _⟩; exact h; cases h
      have hout : ∀ y ∈ out, lt y b = true := by
        intro y hy
        obtain ⟨A, z, rfl⟩ : ∃ A z, out = A ++ [z] := by
          rcases List.eq_nil_or_concat out with h | ⟨A, z, h⟩
          · subst h; cases hy
          · exact ⟨A, z, by rw [h]; simp⟩
        simp at a2
        rcases List.mem_append.1 hy with hy | hy
        · have hyz : lt y z = true := (List.pairwise_append.1 hp).2.2 y hy z (by simp)
          exact H.trans y z b (hm y (by simp [hy])).2 (hm z (by simp)).2 a1 hyz a2
        · simp at hy; subst hy; exact a2
      have hp' : (out ++ [b]).Pairwise (fun a b => lt a b = true) := List.pairwise_append.2 ⟨hp, by simp, fun x hx y hy => by simp at hy; subst hy; exact hout x hx⟩
      have hm' : ∀ x ∈ out ++ [b], x ∈ l ∧ R x = true := fun x hx => by
        rcases List.mem_append.1 hx with hx | hx
        · exact hm x hx
        · simp at hx; subst hx; exact ⟨hbl, a1⟩
      have hlen' := length_le_of_nodup (nodup_of_lt H (fun x hx => (hm' x hx).2) hp') (fun x hx => (hm' x hx).1)
      simp at hlen'
      rw [appB_ok (by simp only [List.length_cons, List.length_nil]; have : (out.length + (0 + 1)) * w ≤ 1000000000 * 1000 := Nat.mul_le_mul (by omega) hw; omega) (by simp; omega)]
      simp only [Option.bind_some]
      refine selL_spec H hw d l hl n (out ++ [b]) (by simp; omega) hp' hm' (fun x hx hRx => ?_)
      rcases hc x hx hRx with h | h
      · exact .inl (by simp [h])
      · have h3 := a4 x hx hRx h
        rcases H.total x b hRx a1 with h4 | h4 | h4
        · rw [h3] at h4; cases h4
        · subst h4; exact .inl (by simp)
        · exact .inr (by simp [h4])
end
theorem last_idx {α : Type} (A : List α) (x : α) (hl : A.length < 4611686018427387904) : idx (A ++ [x]) (IntKind.i64.wrap (((A ++ [x]).length : Int) - 1)) = some x := by
  rw [wrap_in (by simp; try omega) (by simp; try omega)]
  rw [idx_mid A x [] _ (by simp; try omega)]
theorem ref05_L2 (out : List Cred) (hl : out.length < 4611686018427387904) : ∀ (l : List Cred) (ok : Bool) (b : Cred), m_ref05_Set_L2 out l ok b = some (selP rightC ltC out.getLast? l ok b)
  | [], ok, b => rfl
  | x :: xs, ok, b => by
    rw [m_ref05_Set_L2, selP]
    have cmp : ∀ a b, ∃ c, m_ref05_Compare a b = some c ∧ decide (c < 0) = ltC a b := fun a b => by
      obtain ⟨c, h1, h2⟩ := m_ref05_Compare_eq a b
      exact ⟨c, h1, by rw [Bool.eq_iff_iff, ← h2]; simp⟩
    rw [m_ref05_Right_eq, ref05_L2 out hl xs true x, ref05_L2 out hl xs ok b]
    obtain ⟨c, h1, h2⟩ := cmp x b
    rcases List.eq_nil_or_concat out with h | ⟨A, z, h⟩
    · subst h
      simp only [h1, Option.bind_some, h2, List.length_nil, Option.all, List.getLast?_nil]
      generalize ltC x b = p
      cases rightC x <;> cases ok <;> cases p <;> simp
    · have h' : out = A ++ [z] := by rw [h]; simp
      obtain ⟨c3, h3, h4⟩ := cmp z x
      have hlast : out.getLast? = some z := by rw [h']; simp
      have hidx : idx out (IntKind.i64.wrap ((out.length : Int) - 1)) = some z := by rw [h']; exact last_idx A z (by rw [h'] at hl; simp at hl; omega)
      have hne : ((out.length : Int) == 0) = false := by rw [h']; simp; omega
      rw [hlast]
      simp only [hne, hidx, h3, h1, Option.bind_some, h2, h4, Option.all]
      rcases Bool.eq_false_or_eq_true (ltC x b) with hp | hp <;> rcases Bool.eq_false_or_eq_true (ltC z x) with hq | hq <;> rcases Bool.eq_false_or_eq_true (rightC x) with hr | hr <;> cases ok <;> simp [hp, hq, hr]
theorem gtS (a b : ByteArray) : (!(ltS a b || beqS a b)) = ltS b a := by
  rcases ltS_total a b with h | h | h
  · simp [h, ltS_asymm h]
  · subst h; simp [beqS_refl, ltS_irrefl]
  · have h2 := ltS_asymm h
    have h3 : beqS a b = false := beqS_ne (by rintro rfl; rw [ltS_irrefl] at h; cases h)
    simp [h, h2, h3]
theorem rightN_ne {s : ByteArray} (h : rightN s = true) : beqS s zS = false := beqS_ne (fun e => by have := rightN_size h; rw [e, zS_size] at this; omega)
theorem ref03_L2 (out : List ByteArray) (hl : out.length < 4611686018427387904) : ∀ (l : List ByteArray) (b : ByteArray),
    ∃ b', m_ref03_Set_L2 out l b = some b' ∧ (selP rightN ltS out.getLast? l (!beqS b zS) b) = (!beqS b' zS, b')
  | [], b => ⟨b, rfl, rfl⟩
  | x :: xs, b => by
    rw [m_ref03_Set_L2, selP]
    obtain ⟨b1, e1, e2⟩ := ref03_L2 out hl xs x
    obtain ⟨b2, e3, e4⟩ := ref03_L2 out hl xs b
    rw [m_ref03_Right_eq, e1, e3]
    by_cases hx : rightN x = true
    · rw [rightN_ne hx] at e2
      simp only [Bool.not_false] at e2
      rcases List.eq_nil_or_concat out with h | ⟨A, z, h⟩
      · subst h
        simp only [Option.bind_some, List.length_nil, Option.all, List.getLast?_nil, hx] at *
        rw [e2, e4]
        generalize ltS x b = p
        generalize beqS b zS = q
        cases p <;> cases q <;> simp
      · have h' : out = A ++ [z] := by rw [h]; simp
        have hlast : out.getLast? = some z := by rw [h']; simp
        have hidx : idx out (IntKind.i64.wrap ((out.length : Int) - 1)) = some z := by rw [h']; exact last_idx A z (by rw [h'] at hl; simp at hl; omega)
        have hne : ((out.length : Int) == 0) = false := by rw [h']; simp; omega
        rw [hlast] at e2 e4 ⊢
        simp only [hne, hidx, Option.bind_some, Option.all, gtS, hx]
        rw [e2, e4]
        rcases Bool.eq_false_or_eq_true (ltS x b) with hp | hp <;> rcases Bool.eq_false_or_eq_true (ltS z x) with hq | hq <;> rcases Bool.eq_false_or_eq_true (beqS b zS) with hr | hr <;> simp [hp, hq, hr]
    · simp only [Bool.not_eq_true] at hx
      rw [hx, e4]
      simp
theorem sel05 (a : List Cred) : ∀ (n : Nat) (out s : List Cred), selL 136 rightC ltC (⟨0, ⟨zS, zS⟩, zS, ⟨zS, zS⟩, ⟨zS, zS⟩, zS⟩ : Cred) a n out = some s → s.length < 4611686018427387904 → m_ref05_Set_L1 a n out = some s ∧ out.length ≤ s.length
  | 0, out, s, h, _ => by cases h
  | n + 1, out, s, h, hs => by
    rw [selL] at h
    rw [m_ref05_Set_L1]
    have key : out.length ≤ s.length → m_ref05_Set_L2 out a false (⟨0, ⟨zS, zS⟩, zS, ⟨zS, zS⟩, ⟨zS, zS⟩, zS⟩ : Cred) = _ := fun hl => ref05_L2 out (by omega) a false _
    split at h
    · rename_i h1
      cases h
      rw [key (Nat.le_refl _)]
      simp only [Option.bind_some]
      rw [if_pos h1]
      exact ⟨rfl, Nat.le_refl _⟩
    · rename_i h1
      obtain ⟨o, h2, h3⟩ := bind_some h
      have h4 := sel05 a n o s h3 hs
      have h5 : out.length + 1 = o.length := by
        unfold appB at h2; split at h2
        · cases h2; simp
        · cases h2
      rw [key (by omega)]
      simp only [Option.bind_some]
      rw [if_neg h1, h2]
      exact ⟨h4.1, by omega⟩
theorem sel03 (a : List ByteArray) : ∀ (n : Nat) (out s : List ByteArray), selL 16 rightN ltS zS a n out = some s → s.length < 4611686018427387904 → m_ref03_Set_L1 a n out = some s ∧ out.length ≤ s.length
  | 0, out, s, h, _ => by cases h
  | n + 1, out, s, h, hs => by
    rw [selL] at h
    rw [m_ref03_Set_L1]
    have key : out.length ≤ s.length → ∃ b', m_ref03_Set_L2 out a zS = some b' ∧ selP rightN ltS out.getLast? a false zS = (!beqS b' zS, b') := fun hl => by
      have := ref03_L2 out (by omega) a zS
      rw [beqS_refl] at this
      exact this
    split at h
    · rename_i h1
      cases h
      obtain ⟨b', k1, k2⟩ := key (Nat.le_refl _)
      rw [k1]
      rw [k2] at h1
      simp only [Option.bind_some]
      rw [if_pos (by simpa using h1)]
      exact ⟨rfl, Nat.le_refl _⟩
    · rename_i h1
      obtain ⟨o, h2, h3⟩ := bind_some h
      have h4 := sel03 a n o s h3 hs
      have h5 : out.length + 1 = o.length := by
        unfold appB at h2; split at h2
        · cases h2; simp
        · cases h2
      obtain ⟨b', k1, k2⟩ := key (by omega)
      rw [k1]
      rw [k2] at h1 h2
      simp only [Option.bind_some]
      rw [if_neg (by simpa using h1), h2]
      exact ⟨h4.1, by omega⟩
abbrev IsSetN (l s : List ByteArray) := IsSet (fun a b => ltS a b = true) (fun x => rightN x = true) l s
abbrev IsSetC (l s : List Cred) := IsSet (fun a b => ltC a b = true) (fun x => rightC x = true) l s
theorem isSet_length {α : Type} {lt : α → α → Bool} {R : α → Bool} (H : LtOn (fun a b => lt a b = true) (fun x => R x = true)) {l s : List α} (h : IsSet (fun a b => lt a b = true) (fun x => R x = true) l s) : s.length ≤ l.length :=
  length_le_of_nodup (nodup_of_lt H (fun x hx => ((h.2 x).1 hx).2) h.1) (fun x hx => ((h.2 x).1 hx).1)
theorem refSetC (l : List Cred) (hl : l.length ≤ 1000000000) : ∃ s, m_ref05_Set l = some s ∧ IsSetC l s := by
  obtain ⟨s, h1, h2⟩ := selL_spec ltOnC (w := 136) (by omega) (⟨0, ⟨zS, zS⟩, zS, ⟨zS, zS⟩, ⟨zS, zS⟩, zS⟩ : Cred) l hl FUEL [] (by rw [FUEL_eq]; omega) (by simp) (by simp) (fun x _ _ => .inr rfl)
  exact ⟨s, (sel05 l FUEL [] s h1 (by have := isSet_length ltOnC h2; omega)).1, h2⟩
theorem refSetN (l : List ByteArray) (hl : l.length ≤ 1000000000) : ∃ s, m_ref03_Set l = some s ∧ IsSetN l s := by
  obtain ⟨s, h1, h2⟩ := selL_spec (ltOnS (fun x => rightN x = true)) (w := 16) (by omega) zS l hl FUEL [] (by rw [FUEL_eq]; omega) (by simp) (by simp) (fun x _ _ => .inr rfl)
  exact ⟨s, (sel03 l FUEL [] s h1 (by have := isSet_length (ltOnS _) h2; omega)).1, h2⟩
end Go.Proofs.Ytfjdjbdnnoijgaa
