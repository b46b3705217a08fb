/- a part of a proof of ModelLeast -/
import Derived.Test.YtfjdjbdnnoijgaaRtLx2
set_option linter.all false
namespace Go.Proofs.Ytfjdjbdnnoijgaa
open Go.RowKit
theorem andS {c x : Bool} : (if c = true then some x else some false : Option Bool) = some (c && x) := by cases c <;> rfl
theorem orS {c x : Bool} : (if c = true then some true else some x : Option Bool) = some (c || x) := by cases c <;> rfl
theorem bindS {α : Type} (x : Option α) : (x.bind fun y => some y) = x := by cases x <;> rfl
theorem wrap_in {x : Int} (h0 : -9223372036854775808 ≤ x) (h1 : x ≤ 9223372036854775807) : IntKind.i64.wrap x = x := IntWalk.i64_in _ (by omega)
theorem idx_mid {α : Type} (A : List α) (x : α) (B : List α) (i : Int) (h : i = (A.length : Int)) : idx (A ++ x :: B) i = some x := by
  subst h; rw [idx_nat]; simp
theorem fuel_big : FUEL = 18446744073709551615 + 1 := by rw [FUEL_eq]
theorem chk_ok {a b : Int} (h0 : 0 ≤ a) (h1 : a ≤ b) : chk (decide (0 ≤ a) && decide (a ≤ b)) = some () := by simp [chk, h0, h1]
def ddGo {α : Type} (eq : α → α → Bool) : α → List α → List α
  | _, [] => []
  | p, y :: ys => if eq y p then ddGo eq y ys else y :: ddGo eq y ys
def dd {α : Type} (eq : α → α → Bool) : List α → List α
  | [] => []
  | x :: xs => x :: ddGo eq x xs
def cpt2 {α : Type} (eq : α → α → Bool) (i : Int) : Nat → List α → Int → Int → Option (List α × Int)
  | 0, _, _, _ => none
  | n + 1, l, k, j => if decide (j < ((l.length - Int.toNat i : Nat) : Int)) then
      ((idx (l.drop (Int.toNat i)) j).bind fun x => (idx (l.drop (Int.toNat i)) (IntKind.i64.wrap (j - 1))).bind fun y => if !(eq x y) then (idx (l.drop (Int.toNat i)) j).bind fun z => (idx l k).bind fun _ => some (l.set (Int.toNat k) z, IntKind.i64.wrap (k + 1)) else some (l, k) : Option (List α × Int)).bind fun (l', k') => cpt2 eq i n l' k' (IntKind.i64.wrap (j + 1))
    else some (l, k)
def cpt1 {α : Type} (eq : α → α → Bool) (z : α) (l : List α) : Nat → Int → Option (List α)
  | 0, _ => none
  | n + 1, i => if decide (i < (l.length : Int)) then (idx l i).bind fun x => (idx l (IntKind.i64.wrap (i - 1))).bind fun y => if eq x y then
        (chk (decide (0 ≤ i) && decide (i ≤ (l.length : Int)))).bind fun _ => (cpt2 eq i FUEL l i 1).bind fun (l', k) => (chk (decide (0 ≤ k) && decide (k ≤ (l'.length : Int)))).bind fun _ => (chk (decide (0 ≤ k) && decide (k ≤ ((clearT l' (Int.toNat k) z).length : Int)))).bind fun _ => some ((clearT l' (Int.toNat k) z).take (Int.toNat k))
      else cpt1 eq z l n (IntKind.i64.wrap (i + 1))
    else some l
def cptF {α : Type} (eq : α → α → Bool) (z : α) (l : List α) : Option (List α) := if decide ((l.length : Int) < 2) then some l else cpt1 eq z l FUEL 1
theorem idx_drop {α : Type} (l : List α) (i : Nat) (j : Int) (hj : 0 ≤ j) : idx (l.drop i) j = idx l ((i : Int) + j) := by
  obtain ⟨m, rfl⟩ : ∃ m : Nat, j = m := ⟨j.toNat, by omega⟩
  rw [show (i : Int) + (m : Int) = ((i + m : Nat) : Int) by omega, idx_nat, idx_nat, List.getElem?_drop]
theorem cpt2_run {α : Type} (eq : α → α → Bool) (i : Nat) : ∀ (rest out mid : List α) (p : α) (n : Nat), rest.length < n → (out ++ (mid ++ [p]) ++ rest).length < 4611686018427387904 → 1 ≤ i → i ≤ out.length →
    ∃ l', cpt2 eq (i : Int) n (out ++ (mid ++ [p]) ++ rest) (out.length : Int) ((out.length + mid.length + 1 - i : Nat) : Int) = some (l', ((out ++ ddGo eq p rest).length : Int)) ∧ l'.take (out ++ ddGo eq p rest).length = out ++ ddGo eq p rest ∧ (out ++ ddGo eq p rest).length ≤ l'.length
  | [], out, mid, p, 0, h, _, _, _ => by simp at h
  | [], out, mid, p, n + 1, h, hl, h1, h2 => by
    rw [cpt2, if_neg (by simp; omega)]
    exact ⟨out ++ (mid ++ [p]) ++ [], by simp [ddGo], by simp [ddGo], by simp [ddGo]⟩
  | x :: rest, out, mid, p, 0, h, _, _, _ => by simp at h
  | x :: rest, out, mid, p, n + 1, h, hl, h1, h2 => by
    have hlen : (out ++ (mid ++ [p]) ++ x :: rest).length = out.length + mid.length + rest.length + 2 := by simp; omega
    rw [hlen] at hl
    rw [cpt2, if_pos (by rw [hlen]; simp; omega)]
    rw [Int.toNat_natCast, idx_drop _ _ _ (by omega), idx_mid (out ++ (mid ++ [p])) x rest _ (by simp; omega)]
    simp only [Option.bind_some]
    rw [wrap_in (x := ((out.length + mid.length + 1 - i : Nat) : Int) - 1) (by omega) (by omega), idx_drop _ _ _ (by omega)]
    rw [show out ++ (mid ++ [p]) ++ x :: rest = (out ++ mid) ++ p :: (x :: rest) by simp]
    rw [idx_mid (out ++ mid) p (x :: rest) _ (by simp; omega)]
    simp only [Option.bind_some]
    rw [wrap_in (x := ((out.length + mid.length + 1 - i : Nat) : Int) + 1) (by omega) (by omega)]
    cases hp : eq x p with
    | true =>
      simp only [Bool.not_true, Bool.false_eq_true, if_false, Option.bind_some]
      obtain ⟨l', e1, e2, e3⟩ := cpt2_run eq i rest out (mid ++ [p]) x n (by simp at h; omega) (by simp; omega) h1 h2
      refine ⟨l', ?_, by rw [ddGo, hp]; exact e2, by rw [ddGo, hp]; exact e3⟩
      rw [ddGo, hp, if_pos rfl, ← e1]
      congr 1
      · simp
      · simp; omega
    | false =>
      simp only [Bool.not_false, if_true]
      obtain ⟨m, mid', hm⟩ : ∃ m mid', mid ++ [p] = m :: mid' := by cases mid with
        | nil => exact ⟨p, [], rfl⟩
        | cons m mid' => exact ⟨m, mid' ++ [p], rfl⟩
      have hml : mid'.length = mid.length := by have := congrArg List.length hm; simp at this; omega
      rw [show (out ++ mid) ++ p :: (x :: rest) = out ++ m :: (mid' ++ x :: rest) by rw [← List.cons_append, ← hm]; simp]
      rw [idx_mid out m (mid' ++ x :: rest) _ rfl]
      simp only [Option.bind_some]
      rw [wrap_in (x := (out.length : Int) + 1) (by omega) (by omega)]
      have hs : (out ++ m :: (mid' ++ x :: rest)).set (Int.toNat (out.length : Int)) x = (out ++ [x]) ++ (mid' ++ [x]) ++ rest := by
        rw [Int.toNat_natCast, List.set_append_right _ _ (Nat.le_refl _)]; simp
      rw [hs]
      obtain ⟨l', e1, e2, e3⟩ := cpt2_run eq i rest (out ++ [x]) mid' x n (by simp at h; omega) (by simp; omega) h1 (by simp; omega)
      refine ⟨l', ?_, ?_, ?_⟩
      · rw [ddGo, hp, if_neg (by decide)]
        have e4 : ((out ++ x :: ddGo eq x rest).length : Int) = ((out ++ [x] ++ ddGo eq x rest).length : Int) := by simp
        rw [e4, ← e1]
        congr 1
        · simp
        · simp; omega
      · rw [ddGo, hp, if_neg (by decide)]; simpa using e2
      · rw [ddGo, hp, if_neg (by decide)]; simpa using e3
theorem cpt1_run {α : Type} (eq : α → α → Bool) (z : α) : ∀ (rest pre : List α) (p : α) (n : Nat), rest.length < n → (pre ++ p :: rest).length < 4611686018427387904 →
    cpt1 eq z (pre ++ p :: rest) n ((pre.length + 1 : Nat) : Int) = some (pre ++ p :: ddGo eq p rest)
  | [], pre, p, 0, h, _ => by simp at h
  | [], pre, p, n + 1, h, hl => by rw [cpt1, if_neg (by simp)]; simp [ddGo]
  | x :: rest, pre, p, 0, h, _ => by simp at h
  | x :: rest, pre, p, n + 1, h, hl => by
    have hlen : (pre ++ p :: x :: rest).length = pre.length + rest.length + 2 := by simp; omega
    rw [hlen] at hl
    rw [cpt1, if_pos (by rw [hlen]; simp; omega)]
    rw [show pre ++ p :: x :: rest = (pre ++ [p]) ++ x :: rest by simp, idx_mid (pre ++ [p]) x rest _ (by simp)]
    simp only [Option.bind_some]
    rw [wrap_in (x := ((pre.length + 1 : Nat) : Int) - 1) (by omega) (by omega)]
    rw [show (pre ++ [p]) ++ x :: rest = pre ++ p :: (x :: rest) by simp, idx_mid pre p (x :: rest) _ (by omega)]
    simp only [Option.bind_some]
    cases hp : eq x p with
    | true =>
      simp only [if_true]
      rw [chk_ok (by omega) (by rw [hlen]; omega)]
      simp only [Option.bind_some]
      obtain ⟨l', e1, e2, e3⟩ := cpt2_run eq (pre.length + 1) rest (pre ++ [p]) [] x FUEL (by rw [FUEL_eq]; omega) (by simp; omega) (by omega) (by simp)
      simp only [List.append_assoc, List.cons_append, List.nil_append, List.length_append, List.length_cons, List.length_nil] at e1 e2 e3
      rw [show (pre.length + (0 + 1) + 0 + 1 - (pre.length + 1) : Nat) = 1 by omega] at e1
      rw [show ((pre.length + 1 : Nat) : Int) = ((pre.length + (0 + 1) : Nat) : Int) by omega] at *
      have e1' : cpt2 eq ((pre.length + (0 + 1) : Nat) : Int) FUEL (pre ++ p :: x :: rest) ((pre.length + (0 + 1) : Nat) : Int) 1 = _ := e1
      rw [e1']
      simp only [Option.bind_some]
      rw [chk_ok (by omega) (by omega)]
      simp only [Option.bind_some, Int.toNat_natCast]
      rw [chk_ok (by omega) (by rw [clearT_length _ _ _ e3]; omega)]
      simp only [Option.bind_some]
      rw [clearT_take _ _ _ e3, e2, ddGo, hp]
      simp
    | false =>
      simp only [Bool.false_eq_true, if_false]
      rw [wrap_in (x := ((pre.length + 1 : Nat) : Int) + 1) (by omega) (by omega)]
      have := cpt1_run eq z rest (pre ++ [p]) x n (by simp at h; omega) (by simp; omega)
      simp only [List.append_assoc, List.cons_append, List.nil_append, List.length_append, List.length_cons, List.length_nil] at this
      rw [show ((pre.length + 1 : Nat) : Int) + 1 = ((pre.length + (0 + 1) + 1 : Nat) : Int) by omega, this, ddGo, hp]
      simp
theorem cptF_run {α : Type} (eq : α → α → Bool) (z : α) (l : List α) (hl : l.length < 4611686018427387904) : cptF eq z l = some (dd eq l) := by
  unfold cptF
  cases l with
  | nil => rfl
  | cons x xs =>
    cases xs with
    | nil => simp [dd, ddGo]
    | cons y ys =>
      rw [if_neg (by simp; omega)]
      have := cpt1_run eq z (y :: ys) [] x FUEL (by rw [FUEL_eq]; simp at hl ⊢; omega) (by simpa using hl)
      simpa [dd] using this
structure LtOn {α : Type} (lt : α → α → Prop) (P : α → Prop) : Prop where
  irrefl : ∀ x, P x → ¬ lt x x
  trans : ∀ x y z, P x → P y → P z → lt x y → lt y z → lt x z
  total : ∀ x y, P x → P y → lt x y ∨ x = y ∨ lt y x
def IsSet {α : Type} (lt : α → α → Prop) (P : α → Prop) (l out : List α) : Prop := out.Pairwise lt ∧ ∀ x, x ∈ out ↔ x ∈ l ∧ P x
theorem IsSet.unique {α : Type} {lt : α → α → Prop} {P : α → Prop} (H : LtOn lt P) : ∀ {l a b : List α}, IsSet lt P l a → IsSet lt P l b → a = b := by
  have key : ∀ a b : List α, (∀ x ∈ a, P x) → a.Pairwise lt → b.Pairwise lt → (∀ x, x ∈ a ↔ x ∈ b) → a = b := by
    intro a
    induction a with
    | nil => intro b _ _ _ hm; cases b with
      | nil => rfl
      | cons y ys => exact absurd ((hm y).2 (by simp)) (by simp)
    | cons x xs ih =>
      intro b hP ha hb hm
      cases b with
      | nil => exact absurd ((hm x).1 (by simp)) (by simp)
      | cons y ys =>
        have hPy : P y := hP y ((hm y).2 (by simp))
        have hPx : P x := hP x (by simp)
        have ha' := List.pairwise_cons.1 ha
        have hb' := List.pairwise_cons.1 hb
        have hxy : x = y := by
          rcases List.mem_cons.1 ((hm x).1 (by simp)) with h | h
          · exact h
          · rcases List.mem_cons.1 ((hm y).2 (by simp)) with h2 | h2
            · exact h2.symm
            · exact absurd (H.trans x y x hPx hPy hPx (ha'.1 y h2) (hb'.1 x h)) (H.irrefl x hPx)
        subst hxy
        congr 1
        refine ih ys (fun z hz => hP z (by simp [hz])) ha'.2 hb'.2 (fun z => ?_)
        constructor
        · intro hz
          rcases List.mem_cons.1 ((hm z).1 (by simp [hz])) with h | h
          · subst h; exact absurd (ha'.1 z hz) (H.irrefl z hPx)
          · exact h
        · intro hz
          rcases List.mem_cons.1 ((hm z).2 (by simp [hz])) with h | h
          · subst h; exact absurd (hb'.1 z hz) (H.irrefl z hPx)
          · exact h
  intro l a b ha hb
  exact key a b (fun x hx => ((ha.2 x).1 hx).2) ha.1 hb.1 (fun x => (ha.2 x).trans (hb.2 x).symm)
theorem ddGo_mem {α : Type} {eq : α → α → Bool} (he : ∀ x y, eq x y = true ↔ x = y) : ∀ (l : List α) (p x : α), x ∈ p :: ddGo eq p l ↔ x ∈ p :: l
  | [], p, x => by simp [ddGo]
  | y :: l, p, x => by
    rw [ddGo]
    split
    · rename_i h
      have := (he y p).1 h
      subst this
      rw [ddGo_mem he l y x]; simp
    · have := ddGo_mem he l y x
      simp only [List.mem_cons] at this ⊢
      rw [this]
theorem dd_mem {α : Type} {eq : α → α → Bool} (he : ∀ x y, eq x y = true ↔ x = y) (l : List α) (x : α) : x ∈ dd eq l ↔ x ∈ l := by
  cases l with
  | nil => simp [dd]
  | cons y l => exact ddGo_mem he l y x
theorem ddGo_sorted {α : Type} {eq : α → α → Bool} {lt : α → α → Prop} {P : α → Prop} (he : ∀ x y, eq x y = true ↔ x = y) (H : LtOn lt P) : ∀ (l : List α) (p : α), (∀ x ∈ p :: l, P x) → (p :: l).Pairwise (fun a b => ¬ lt b a) → (p :: ddGo eq p l).Pairwise lt
  | [], p, _, _ => by simp [ddGo]
  | y :: l, p, hP, hs => by
    have h1 := List.pairwise_cons.1 hs
    rw [ddGo]
    split
    · rename_i h
      have := (he y p).1 h
      subst this
      exact ddGo_sorted he H l y (fun x hx => hP x (List.mem_cons_of_mem _ hx)) h1.2
    · rename_i h
      have ih := ddGo_sorted he H l y (fun x hx => hP x (List.mem_cons_of_mem _ hx)) h1.2
      refine List.pairwise_cons.2 ⟨fun z hz => ?_, ih⟩
      have hpy : lt p y := by
        rcases H.total p y (hP p (by simp)) (hP y (by simp)) with h2 | h2 | h2
        · exact h2
        · exact absurd ((he y p).2 h2.symm) h
        · exact absurd h2 (h1.1 y (by simp))
      rcases List.mem_cons.1 hz with rfl | hz'
      · exact hpy
      · have hzl : z ∈ y :: l := (ddGo_mem he l y z).1 hz
        exact H.trans p y z (hP p (by simp)) (hP y (by simp)) (hP z (List.mem_cons_of_mem _ hzl)) hpy ((List.pairwise_cons.1 ih).1 z hz')
theorem dd_sorted {α : Type} {eq : α → α → Bool} {lt : α → α → Prop} {P : α → Prop} (he : ∀ x y, eq x y = true ↔ x = y) (H : LtOn lt P) (l : List α) (hP : ∀ x ∈ l, P x) (hs : l.Pairwise (fun a b => ¬ lt b a)) : (dd eq l).Pairwise lt := by
  cases l with
  | nil => simp [dd]
  | cons y l => exact ddGo_sorted he H l y hP hs
theorem sort_pairwise {α : Type} {le : α → α → Bool} {P : α → Prop} (ht : ∀ a b c, P a → P b → P c → le a b = true → le b c = true → le a c = true) (ho : ∀ a b, P a → P b → (le a b || le b a) = true) (l : List α) (hP : ∀ x ∈ l, P x) :
    (l.mergeSort le).Pairwise (fun a b => le a b = true) := by
  have e : l = (l.attachWith P hP).map Subtype.val := by simp
  have hm : ((l.attachWith P hP).mergeSort fun a b => le a.1 b.1).map Subtype.val = l.mergeSort le := by
    conv => rhs; rw [e]
    exact List.map_mergeSort (fun a _ b _ => rfl)
  rw [← hm, List.pairwise_map]
  exact List.pairwise_mergeSort (le := fun (a b : {x // P x}) => le a.1 b.1) (fun a b c h1 h2 => ht a.1 b.1 c.1 a.2 b.2 c.2 h1 h2) (fun a b => ho a.1 b.1 a.2 b.2) _
theorem sortF_isSet {α : Type} {eq : α → α → Bool} {lt : α → α → Prop} {P : α → Prop} {cf : α × α → Option Int} {l : List α} (he : ∀ x y, eq x y = true ↔ x = y) (H : LtOn lt P) (hP : ∀ x ∈ l, P x) (hl : l.length < 4611686018427387904)
    (hc : ∀ x y, P x → P y → ∃ c, cf (x, y) = some c ∧ (c < 0 ↔ lt x y)) : ∃ s, sortF cf l = some s ∧ s.length = l.length ∧ IsSet lt P l (dd eq s) := by
  have hless : ∀ x y, P x → P y → (lessO cf x y = true ↔ lt x y) := fun x y hx hy => by
    obtain ⟨c, h1, h2⟩ := hc x y hx hy
    unfold lessO
    rw [h1]
    simpa using h2
  have hless' : ∀ x y, P x → P y → (lessO cf x y = false ↔ ¬ lt x y) := fun x y hx hy => by
    rw [← hless x y hx hy]; simp
  have ok : SortOk cf l := by
    refine ⟨fun x hx y hy => ?_, fun x hx => ?_, fun x hx y hy z hz h1 h2 => ?_, fun x hx y hy h1 h2 => ?_, hl⟩
    · obtain ⟨c, h1, _⟩ := hc x y (hP x hx) (hP y hy); exact ⟨c, h1⟩
    · exact (hless' x x (hP x hx) (hP x hx)).2 (H.irrefl x (hP x hx))
    · rw [hless _ _ (hP x hx) (hP y hy)] at h1
      rw [hless _ _ (hP y hy) (hP z hz)] at h2
      rw [hless _ _ (hP x hx) (hP z hz)]
      exact H.trans x y z (hP x hx) (hP y hy) (hP z hz) h1 h2
    · rw [hless' _ _ (hP x hx) (hP y hy)] at h1
      rw [hless' _ _ (hP y hy) (hP x hx)] at h2
      rcases H.total x y (hP x hx) (hP y hy) with h | h | h
      · exact absurd h h1
      · exact h
      · exact absurd h h2
  refine ⟨_, sortF_of ok, by simp [sorted], ?_, ?_⟩
  · have hperm : ∀ x, x ∈ sorted cf l ↔ x ∈ l := fun x => by simp [sorted]
    refine dd_sorted he H _ (fun x hx => hP x ((hperm x).1 hx)) ?_
    have := sort_pairwise (le := fun x y => !lessO cf y x) (P := P) (fun a b c ha hb hcc h1 h2 => ?_) (fun a b ha hb => ?_) l hP
    · refine (this.imp_of_mem ?_ : _)
      intro a b ha hb h
      have ha' : a ∈ l := (hperm a).1 ha
      have hb' : b ∈ l := (hperm b).1 hb
      simp at h
      exact (hless' b a (hP b hb') (hP a ha')).1 h
    · simp at h1 h2 ⊢
      rw [hless' _ _ hb ha] at h1
      rw [hless' _ _ hcc hb] at h2
      rw [hless' _ _ hcc ha]
      intro h3
      rcases H.total a b ha hb with h | h | h
      · exact h2 (H.trans c a b hcc ha hb h3 h)
      · subst h; exact h2 h3
      · exact h1 h
    · simp only [Bool.or_eq_true, Bool.not_eq_true']
      rw [hless' _ _ hb ha, hless' _ _ ha hb]
      by_cases h : lt b a
      · right; intro h2; exact H.irrefl a ha (H.trans a b a ha hb ha h2 h)
      · exact .inl h
  · intro x
    rw [dd_mem he]
    constructor
    · intro hx
      have : x ∈ l := by simpa [sorted] using hx
      exact ⟨this, hP x this⟩
    · intro hx; simpa [sorted] using hx.1
end Go.Proofs.Ytfjdjbdnnoijgaa
