/- a part of a proof of ChainStands -/
import Derived.Test.YtfjdjbdnnoijgaaGreatLs
import Derived.Test.YtfjdjbdnnoijgaaGreatGH11M
import Derived.Test.YtfjdjbdnnoijgaaGreatRows
import Derived.WalkKit
import Derived.ProofKit
import Derived.OpenShut
import Derived.JoinedCond
import Derived.Deep.Slices
import Derived.Carry
import Derived.ChangeArms
import Derived.ChangeSame
import Derived.Test.YtfjdjbdnnoijgaaGreatGH11W2
set_option linter.all false
namespace Go.Proofs.YtfjdjbdnnoijgaaGreat
open Go.RowKit
theorem andS {c x : Bool} : (if c = true then some x else some false : Option Bool) = some (c && x) := by cases c <;> rfl
theorem orS {c x : Bool} : (if c = true then some true else some x : Option Bool) = some (c || x) := by cases c <;> rfl
theorem bindS {α : Type} (x : Option α) : (x.bind fun y => some y) = x := by cases x <;> rfl
theorem wrap_in {x : Int} (h0 : -9223372036854775808 ≤ x) (h1 : x ≤ 9223372036854775807) : IntKind.i64.wrap x = x := IntWalk.i64_in _ (by omega)
theorem idx_mid {α : Type} (A : List α) (x : α) (B : List α) (i : Int) (h : i = (A.length : Int)) : idx (A ++ x :: B) i = some x := by
  subst h; rw [idx_nat]; simp
theorem fuel_big : FUEL = 18446744073709551615 + 1 := by rw [FUEL_eq]
def delL {α : Type} (f1 : α → Option Bool) (z : α) : Nat → List α → Int → Int → Option (List α)
  | 0, _, _, _ => none
  | n + 1, l, i, j => if decide (j < (l.length : Int)) then
      ((idx l j).bind fun x => (f1 x).bind fun r => if (!r) then (idx l i).bind fun _ => some (l.set (Int.toNat i) x, IntKind.i64.wrap (i + 1)) else some (l, i) : Option (List α × Int)).bind fun (l', i') => delL f1 z n l' i' (IntKind.i64.wrap (j + 1))
    else (chk (decide (0 ≤ i) && decide (i ≤ (l.length : Int)))).bind fun _ => (chk (decide (0 ≤ i) && decide (i ≤ ((clearT l (Int.toNat i) z).length : Int)))).bind fun _ => some ((clearT l (Int.toNat i) z).take (Int.toNat i))
theorem chk_ok {a b : Int} (h0 : 0 ≤ a) (h1 : a ≤ b) : chk (decide (0 ≤ a) && decide (a ≤ b)) = some () := by simp [chk, h0, h1]
theorem delL_run {α : Type} (f1 : α → Option Bool) (p : α → Bool) (z : α) : ∀ (rest out mid : List α) (n : Nat), rest.length < n → (out ++ mid ++ rest).length < 4611686018427387904 → mid ≠ [] → (∀ x ∈ rest, f1 x = some (p x)) →
    delL f1 z n (out ++ mid ++ rest) (out.length : Int) ((out.length + mid.length : Nat) : Int) = some (out ++ rest.filter fun x => !p x)
  | [], out, mid, 0, h, _, _, _ => by simp at h
  | [], out, mid, n + 1, _, hl, hm, _ => by
    rw [delL, if_neg (by simp)]
    have h1 : out.length ≤ (out ++ mid ++ []).length := by simp
    rw [chk_ok (by omega) (by omega)]
    simp only [Option.bind_some]
    rw [chk_ok (by omega) (by rw [clearT_length _ _ _ (by simpa using h1)]; omega)]
    simp only [Option.bind_some, Int.toNat_natCast]
    rw [clearT_take _ _ _ h1]
    simp
  | x :: rest, out, mid, 0, h, _, _, _ => by simp at h
  | x :: rest, out, mid, n + 1, h, hl, hm, hf => by
    have hlen : (out ++ mid ++ x :: rest).length = out.length + mid.length + rest.length + 1 := by simp; omega
    rw [hlen] at hl
    rw [delL, if_pos (by rw [hlen]; simp; omega)]
    rw [idx_mid (out ++ mid) x rest _ (by simp)]
    simp only [Option.bind_some, hf x (by simp)]
    rw [wrap_in (x := ((out.length + mid.length : Nat) : Int) + 1) (by omega) (by omega)]
    have ih := delL_run f1 p z rest
    cases hp : p x with
    | true =>
      simp only [Bool.not_true, Bool.false_eq_true, if_false, Option.bind_some]
      have := ih out (mid ++ [x]) n (by simp at h; omega) (by simp; omega) (by simp) (fun y hy => hf y (by simp [hy]))
      simp only [List.append_assoc, List.cons_append, List.nil_append, List.length_append, List.length_cons, List.length_nil] at this ⊢
      rw [show ((out.length + mid.length : Nat) : Int) + 1 = ((out.length + (mid.length + (0 + 1)) : Nat) : Int) by omega, this]
      simp [hp]
    | false =>
      obtain ⟨m, mid', rfl⟩ : ∃ m mid', mid = m :: mid' := by cases mid with
        | nil => exact absurd rfl hm
        | cons m mid' => exact ⟨m, mid', rfl⟩
      simp only [Bool.not_false, if_true]
      rw [List.append_assoc out (m :: mid') (x :: rest), List.cons_append]
      rw [idx_mid out m (mid' ++ x :: rest) _ rfl]
      simp only [Option.bind_some]
      rw [wrap_in (x := (out.length : Int) + 1) (by omega) (by simp at hl; omega)]
      have := ih (out ++ [x]) (mid' ++ [x]) n (by simp at h; omega) (by simp at hl ⊢; omega) (by simp) (fun y hy => hf y (by simp [hy]))
      simp only [List.append_assoc, List.cons_append, List.nil_append, List.length_append, List.length_cons, List.length_nil] at this
      have hs : (out ++ m :: (mid' ++ x :: rest)).set (Int.toNat (out.length : Int)) x = out ++ x :: (mid' ++ x :: rest) := by
        rw [Int.toNat_natCast, List.set_append_right _ _ (Nat.le_refl _)]; simp
      rw [hs]
      simp only [List.length_cons] at hl ⊢
      rw [show (out.length : Int) + 1 = ((out.length + (0 + 1) : Nat) : Int) by omega, show ((out.length + (mid'.length + 1) : Nat) : Int) + 1 = ((out.length + (0 + 1) + (mid'.length + (0 + 1)) : Nat) : Int) by omega, this]
      simp [hp]
def idxL {α : Type} (f1 : α → Option Bool) : List α → Nat → Option Int
  | [], _ => some (-1)
  | x :: xs, i => (f1 x).bind fun r => if r then some (i : Int) else idxL f1 xs (i + 1)
theorem idxL_run {α : Type} (f1 : α → Option Bool) (p : α → Bool) : ∀ (l : List α) (i : Nat), (∀ x ∈ l, f1 x = some (p x)) →
    (idxL f1 l i = some (-1) ∧ ∀ x ∈ l, p x = false) ∨ ∃ A x B, l = A ++ x :: B ∧ (∀ y ∈ A, p y = false) ∧ p x = true ∧ idxL f1 l i = some ((i + A.length : Nat) : Int)
  | [], i, _ => .inl ⟨rfl, by simp⟩
  | x :: l, i, h => by
    rw [idxL, h x (by simp)]
    simp only [Option.bind_some]
    cases hp : p x with
    | true => exact .inr ⟨[], x, l, rfl, by simp, hp, by simp⟩
    | false =>
      simp only [Bool.false_eq_true, if_false]
      rcases idxL_run f1 p l (i + 1) (fun y hy => h y (by simp [hy])) with ⟨h1, h2⟩ | ⟨A, y, B, rfl, h1, h2, h3⟩
      · exact .inl ⟨h1, by intro y hy; rcases List.mem_cons.1 hy with rfl | hy; exact hp; exact h2 y hy⟩
      · refine .inr ⟨x :: A, y, B, rfl, ?_, h2, ?_⟩
        · intro z hz; rcases List.mem_cons.1 hz with rfl | hz
          · exact hp
          · exact h1 z hz
        · rw [h3]; simp; omega
def delF {α : Type} (f1 : α → Option Bool) (z : α) (l : List α) : Option (List α) :=
  (idxL f1 l 0).bind fun r1 => if (r1 == ((-1))) then some l else delL f1 z FUEL l r1 (IntKind.i64.wrap (r1 + 1))
theorem delF_run {α : Type} (f1 : α → Option Bool) (p : α → Bool) (z : α) (l : List α) (hl : l.length < 4611686018427387904) (h : ∀ x ∈ l, f1 x = some (p x)) : delF f1 z l = some (l.filter fun x => !p x) := by
  unfold delF
  rcases idxL_run f1 p l 0 h with ⟨h1, h2⟩ | ⟨A, x, B, rfl, h1, h2, h3⟩
  · rw [h1]
    simp only [Option.bind_some, beq_self_eq_true, if_true]
    rw [List.filter_eq_self.2 (fun y hy => by simp [h2 y hy])]
  · rw [h3]
    simp only [Option.bind_some, Nat.zero_add]
    rw [if_neg (by simp), wrap_in (by omega) (by simp at hl; omega)]
    have := delL_run f1 p z B A [x] FUEL (by rw [FUEL_eq]; simp at hl; omega) (by simpa using hl) (by simp) (fun y hy => h y (by simp [hy]))
    simp only [List.append_assoc, List.cons_append, List.nil_append, List.length_cons, List.length_nil] at this
    rw [show (A.length : Int) + 1 = ((A.length + (0 + 1) : Nat) : Int) by omega, this]
    have hA : A.filter (fun x => !p x) = A := List.filter_eq_self.2 (fun y hy => by simp [h1 y hy])
    rw [List.filter_append, hA]
    simp [h2]
def ddGo {α : Type} (eq : α → α → Bool) : α → List α → List α
  | _, [] => []
  | p, y :: ys => if eq y p then ddGo eq y ys else y :: ddGo eq y ys
def dd {α : Type} (eq : α → α → Bool) : List α → List α
  | [] => []
  | x :: xs => x :: ddGo eq x xs
def cpt2 {α : Type} (eq : α → α → Bool) (i : Int) : Nat → List α → Int → Int → Option (List α × Int)
  | 0, _, _, _ => none
  | n + 1, l, k, j => if decide (j < ((l.length - Int.toNat i : Nat) : Int)) then
      ((idx (l.drop (Int.toNat i)) j).bind fun x => (idx (l.drop (Int.toNat i)) (IntKind.i64.wrap (j - 1))).bind fun y => if !(eq x y) then (idx (l.drop (Int.toNat i)) j).bind fun z => (idx l k).bind fun _ => some (l.set (Int.toNat k) z, IntKind.i64.wrap (k + 1)) else some (l, k) : Option (List α × Int)).bind fun (l', k') => cpt2 eq i n l' k' (IntKind.i64.wrap (j + 1))
    else some (l, k)
def cpt1 {α : Type} (eq : α → α → Bool) (z : α) (l : List α) : Nat → Int → Option (List α)
  | 0, _ => none
  | n + 1, i => if decide (i < (l.length : Int)) then (idx l i).bind fun x => (idx l (IntKind.i64.wrap (i - 1))).bind fun y => if eq x y then
        (chk (decide (0 ≤ i) && decide (i ≤ (l.length : Int)))).bind fun _ => (cpt2 eq i FUEL l i 1).bind fun (l', k) => (chk (decide (0 ≤ k) && decide (k ≤ (l'.length : Int)))).bind fun _ => (chk (decide (0 ≤ k) && decide (k ≤ ((clearT l' (Int.toNat k) z).length : Int)))).bind fun _ => some ((clearT l' (Int.toNat k) z).take (Int.toNat k))
      else cpt1 eq z l n (IntKind.i64.wrap (i + 1))
    else some l
def cptF {α : Type} (eq : α → α → Bool) (z : α) (l : List α) : Option (List α) := if decide ((l.length : Int) < 2) then some l else cpt1 eq z l FUEL 1
theorem idx_drop {α : Type} (l : List α) (i : Nat) (j : Int) (hj : 0 ≤ j) : idx (l.drop i) j = idx l ((i : Int) + j) := by
  obtain ⟨m, rfl⟩ : ∃ m : Nat, j = m := ⟨j.toNat, by omega⟩
  rw [show (i : Int) + (m : Int) = ((i + m : Nat) : Int) by omega, idx_nat, idx_nat, List.getElem?_drop]
theorem cpt2_run {α : Type} (eq : α → α → Bool) (i : Nat) : ∀ (rest out mid : List α) (p : α) (n : Nat), rest.length < n → (out ++ (mid ++ [p]) ++ rest).length < 4611686018427387904 → 1 ≤ i → i ≤ out.length →
    ∃ l', cpt2 eq (i : Int) n (out ++ (mid ++ [p]) ++ rest) (out.length : Int) ((out.length + mid.length + 1 - i : Nat) : Int) = some (l', ((out ++ ddGo eq p rest).length : Int)) ∧ l'.take (out ++ ddGo eq p rest).length = out ++ ddGo eq p rest ∧ (out ++ ddGo eq p rest).length ≤ l'.length
  | [], out, mid, p, 0, h, _, _, _ => by simp at h
  | [], out, mid, p, n + 1, h, hl, h1, h2 => by
    rw [cpt2, if_neg (by simp; omega)]
    exact ⟨out ++ (mid ++ [p]) ++ [], by simp [ddGo], by simp [ddGo], by simp [ddGo]⟩
  | x :: rest, out, mid, p, 0, h, _, _, _ => by simp at h
  | x :: rest, out, mid, p, n + 1, h, hl, h1, h2 => by
    have hlen : (out ++ (mid ++ [p]) ++ x :: rest).length = out.length + mid.length + rest.length + 2 := by simp; omega
    rw [hlen] at hl
    rw [cpt2, if_pos (by rw [hlen]; simp; omega)]
    rw [Int.toNat_natCast, idx_drop _ _ _ (by omega), idx_mid (out ++ (mid ++ [p])) x rest _ (by simp; omega)]
    simp only [Option.bind_some]
    rw [wrap_in (x := ((out.length + mid.length + 1 - i : Nat) : Int) - 1) (by omega) (by omega), idx_drop _ _ _ (by omega)]
    rw [show out ++ (mid ++ [p]) ++ x :: rest = (out ++ mid) ++ p :: (x :: rest) by simp]
    rw [idx_mid (out ++ mid) p (x :: rest) _ (by simp; omega)]
    simp only [Option.bind_some]
    rw [wrap_in (x := ((out.length + mid.length + 1 - i : Nat) : Int) + 1) (by omega) (by omega)]
    cases hp : eq x p with
    | true =>
      simp only [Bool.not_true, Bool.false_eq_true, if_false, Option.bind_some]
      obtain ⟨l', e1, e2, e3⟩ := cpt2_run eq i rest out (mid ++ [p]) x n (by simp at h; omega) (by simp; omega) h1 h2
      refine ⟨l', ?_, by rw [ddGo, hp]; exact e2, by rw [ddGo, hp]; exact e3⟩
      rw [ddGo, hp, if_pos rfl, ← e1]
      congr 1
      · simp
      · simp; omega
    | false =>
      simp only [Bool.not_false, if_true]
      obtain ⟨m, mid', hm⟩ : ∃ m mid', mid ++ [p] = m :: mid' := by cases mid with
        | nil => exact ⟨p, [], rfl⟩
        | cons m mid' => exact ⟨m, mid' ++ [p], rfl⟩
      have hml : mid'.length = mid.length := by have := congrArg List.length hm; simp at this; omega
      rw [show (out ++ mid) ++ p :: (x :: rest) = out ++ m :: (mid' ++ x :: rest) by rw [← List.cons_append, ← hm]; simp]
      rw [idx_mid out m (mid' ++ x :: rest) _ rfl]
      simp only [Option.bind_some]
      rw [wrap_in (x := (out.length : Int) + 1) (by omega) (by omega)]
      have hs : (out ++ m :: (mid' ++ x :: rest)).set (Int.toNat (out.length : Int)) x = (out ++ [x]) ++ (mid' ++ [x]) ++ rest := by
        rw [Int.toNat_natCast, List.set_append_right _ _ (Nat.le_refl _)]; simp
      rw [hs]
      obtain ⟨l', e1, e2, e3⟩ := cpt2_run eq i rest (out ++ [x]) mid' x n (by simp at h; omega) (by simp; omega) h1 (by simp; omega)
      refine ⟨l', ?_, ?_, ?_⟩
      · rw [ddGo, hp, if_neg (by decide)]
        have e4 : ((out ++ x :: ddGo eq x rest).length : Int) = ((out ++ [x] ++ ddGo eq x rest).length : Int) := by simp
        rw [e4, ← e1]
        congr 1
        · simp
        · simp; omega
      · rw [ddGo, hp, if_neg (by decide)]; simpa using e2
      · rw [ddGo, hp, if_neg (by decide)]; simpa using e3
theorem cpt1_run {α : Type} (eq : α → α → Bool) (z : α) : ∀ (rest pre : List α) (p : α) (n : Nat), rest.length < n → (pre ++ p :: rest).length < 4611686018427387904 →
    cpt1 eq z (pre ++ p :: rest) n ((pre.length + 1 : Nat) : Int) = some (pre ++ p :: ddGo eq p rest)
  | [], pre, p, 0, h, _ => by simp at h
  | [], pre, p, n + 1, h, hl => by rw [cpt1, if_neg (by simp)]; simp [ddGo]
  | x :: rest, pre, p, 0, h, _ => by simp at h
  | x :: rest, pre, p, n + 1, h, hl => by
    have hlen : (pre ++ p :: x :: rest).length = pre.length + rest.length + 2 := by simp; omega
    rw [hlen] at hl
    rw [cpt1, if_pos (by rw [hlen]; simp; omega)]
    rw [show pre ++ p :: x :: rest = (pre ++ [p]) ++ x :: rest by simp, idx_mid (pre ++ [p]) x rest _ (by simp)]
    simp only [Option.bind_some]
    rw [wrap_in (x := ((pre.length + 1 : Nat) : Int) - 1) (by omega) (by omega)]
    rw [show (pre ++ [p]) ++ x :: rest = pre ++ p :: (x :: rest) by simp, idx_mid pre p (x :: rest) _ (by omega)]
    simp only [Option.bind_some]
    cases hp : eq x p with
    | true =>
      simp only [if_true]
      rw [chk_ok (by omega) (by rw [hlen]; omega)]
      simp only [Option.bind_some]
      obtain ⟨l', e1, e2, e3⟩ := cpt2_run eq (pre.length + 1) rest (pre ++ [p]) [] x FUEL (by rw [FUEL_eq]; omega) (by simp; omega) (by omega) (by simp)
      simp only [List.append_assoc, List.cons_append, List.nil_append, List.length_append, List.length_cons, List.length_nil] at e1 e2 e3
      rw [show (pre.length + (0 + 1) + 0 + 1 - (pre.length + 1) : Nat) = 1 by omega] at e1
      rw [show ((pre.length + 1 : Nat) : Int) = ((pre.length + (0 + 1) : Nat) : Int) by omega] at *
      have e1' : cpt2 eq ((pre.length + (0 + 1) : Nat) : Int) FUEL (pre ++ p :: x :: rest) ((pre.length + (0 + 1) : Nat) : Int) 1 = _ := e1
      rw [e1']
      simp only [Option.bind_some]
      rw [chk_ok (by omega) (by omega)]
      simp only [Option.bind_some, Int.toNat_natCast]
      rw [chk_ok (by omega) (by rw [clearT_length _ _ _ e3]; omega)]
      simp only [Option.bind_some]
      rw [clearT_take _ _ _ e3, e2, ddGo, hp]
      simp
    | false =>
      simp only [Bool.false_eq_true, if_false]
      rw [wrap_in (x := ((pre.length + 1 : Nat) : Int) + 1) (by omega) (by omega)]
      have := cpt1_run eq z rest (pre ++ [p]) x n (by simp at h; omega) (by simp; omega)
      simp only [List.append_assoc, List.cons_append, List.nil_append, List.length_append, List.length_cons, List.length_nil] at this
      rw [show ((pre.length + 1 : Nat) : Int) + 1 = ((pre.length + (0 + 1) + 1 : Nat) : Int) by omega, this, ddGo, hp]
      simp
theorem cptF_run {α : Type} (eq : α → α → Bool) (z : α) (l : List α) (hl : l.length < 4611686018427387904) : cptF eq z l = some (dd eq l) := by
  unfold cptF
  cases l with
  | nil => rfl
  | cons x xs =>
    cases xs with
    | nil => simp [dd, ddGo]
    | cons y ys =>
      rw [if_neg (by simp; omega)]
      have := cpt1_run eq z (y :: ys) [] x FUEL (by rw [FUEL_eq]; simp at hl ⊢; omega) (by simpa using hl)
      simpa [dd] using this
structure LtOn {α : Type} (lt : α → α → Prop) (P : α → Prop) : Prop where
  irrefl : ∀ x, P x → ¬ lt x x
  trans : ∀ x y z, P x → P y → P z → lt x y → lt y z → lt x z
  total : ∀ x y, P x → P y → lt x y ∨ x = y ∨ lt y x
def IsSet {α : Type} (lt : α → α → Prop) (P : α → Prop) (l out : List α) : Prop := out.Pairwise lt ∧ ∀ x, x ∈ out ↔ x ∈ l ∧ P x
theorem IsSet.unique {α : Type} {lt : α → α → Prop} {P : α → Prop} (H : LtOn lt P) : ∀ {l a b : List α}, IsSet lt P l a → IsSet lt P l b → a = b := by
  have key : ∀ a b : List α, (∀ x ∈ a, P x) → a.Pairwise lt → b.Pairwise lt → (∀ x, x ∈ a ↔ x ∈ b) → a = b := by
    intro a
    induction a with
    | nil => intro b _ _ _ hm; cases b with
      | nil => rfl
      | cons y ys => exact absurd ((hm y).2 (by simp)) (by simp)
    | cons x xs ih =>
      intro b hP ha hb hm
      cases b with
      | nil => exact absurd ((hm x).1 (by simp)) (by simp)
      | cons y ys =>
        have hPy : P y := hP y ((hm y).2 (by simp))
        have hPx : P x := hP x (by simp)
        have ha' := List.pairwise_cons.1 ha
        have hb' := List.pairwise_cons.1 hb
        have hxy : x = y := by
          rcases List.mem_cons.1 ((hm x).1 (by simp)) with h | h
          · exact h
          · rcases List.mem_cons.1 ((hm y).2 (by simp)) with h2 | h2
            · exact h2.symm
            · exact absurd (H.trans x y x hPx hPy hPx (ha'.1 y h2) (hb'.1 x h)) (H.irrefl x hPx)
        subst hxy
        congr 1
        refine ih ys (fun z hz => hP z (by simp [hz])) ha'.2 hb'.2 (fun z => ?_)
        constructor
        · intro hz
          rcases List.mem_cons.1 ((hm z).1 (by simp [hz])) with h | h
          · subst h; exact absurd (ha'.1 z hz) (H.irrefl z hPx)
          · exact h
        · intro hz
          rcases List.mem_cons.1 ((hm z).2 (by simp [hz])) with h | h
          · subst h; exact absurd (hb'.1 z hz) (H.irrefl z hPx)
          · exact h
  intro l a b ha hb
  exact key a b (fun x hx => ((ha.2 x).1 hx).2) ha.1 hb.1 (fun x => (ha.2 x).trans (hb.2 x).symm)
theorem ddGo_mem {α : Type} {eq : α → α → Bool} (he : ∀ x y, eq x y = true ↔ x = y) : ∀ (l : List α) (p x : α), x ∈ p :: ddGo eq p l ↔ x ∈ p :: l
  | [], p, x => by simp [ddGo]
  | y :: l, p, x => by
    rw [ddGo]
    split
    · rename_i h
      have := (he y p).1 h
      subst this
      rw [ddGo_mem he l y x]; simp
    · have := ddGo_mem he l y x
      simp only [List.mem_cons] at this ⊢
      rw [this]
theorem dd_mem {α : Type} {eq : α → α → Bool} (he : ∀ x y, eq x y = true ↔ x = y) (l : List α) (x : α) : x ∈ dd eq l ↔ x ∈ l := by
  cases l with
  | nil => simp [dd]
  | cons y l => exact ddGo_mem he l y x
theorem ddGo_sorted {α : Type} {eq : α → α → Bool} {lt : α → α → Prop} {P : α → Prop} (he : ∀ x y, eq x y = true ↔ x = y) (H : LtOn lt P) : ∀ (l : List α) (p : α), (∀ x ∈ p :: l, P x) → (p :: l).Pairwise (fun a b => ¬ lt b a) → (p :: ddGo eq p l).Pairwise lt
  | [], p, _, _ => by simp [ddGo]
  | y :: l, p, hP, hs => by
    have h1 := List.pairwise_cons.1 hs
    rw [ddGo]
    split
    · rename_i h
      have := (he y p).1 h
      subst this
      exact ddGo_sorted he H l y (fun x hx => hP x (List.mem_cons_of_mem _ hx)) h1.2
    · rename_i h
      have ih := ddGo_sorted he H l y (fun x hx => hP x (List.mem_cons_of_mem _ hx)) h1.2
      refine List.pairwise_cons.2 ⟨fun z hz => ?_, ih⟩
      have hpy : lt p y := by
        rcases H.total p y (hP p (by simp)) (hP y (by simp)) with h2 | h2 | h2
        · exact h2
        · exact absurd ((he y p).2 h2.symm) h
        · exact absurd h2 (h1.1 y (by simp))
      rcases List.mem_cons.1 hz with rfl | hz'
      · exact hpy
      · have hzl : z ∈ y :: l := (ddGo_mem he l y z).1 hz
        exact H.trans p y z (hP p (by simp)) (hP y (by simp)) (hP z (List.mem_cons_of_mem _ hzl)) hpy ((List.pairwise_cons.1 ih).1 z hz')
theorem dd_sorted {α : Type} {eq : α → α → Bool} {lt : α → α → Prop} {P : α → Prop} (he : ∀ x y, eq x y = true ↔ x = y) (H : LtOn lt P) (l : List α) (hP : ∀ x ∈ l, P x) (hs : l.Pairwise (fun a b => ¬ lt b a)) : (dd eq l).Pairwise lt := by
  cases l with
  | nil => simp [dd]
  | cons y l => exact ddGo_sorted he H l y hP hs
theorem sort_pairwise {α : Type} {le : α → α → Bool} {P : α → Prop} (ht : ∀ a b c, P a → P b → P c → le a b = true → le b c = true → le a c = true) (ho : ∀ a b, P a → P b → (le a b || le b a) = true) (l : List α) (hP : ∀ x ∈ l, P x) :
    (l.mergeSort le).Pairwise (fun a b => le a b = true) := by
  have e : l = (l.attachWith P hP).map Subtype.val := by simp
  have hm : ((l.attachWith P hP).mergeSort fun a b => le a.1 b.1).map Subtype.val = l.mergeSort le := by
    conv => rhs; rw [e]
    exact List.map_mergeSort (fun a _ b _ => rfl)
  rw [← hm, List.pairwise_map]
  exact List.pairwise_mergeSort (le := fun (a b : {x // P x}) => le a.1 b.1) (fun a b c h1 h2 => ht a.1 b.1 c.1 a.2 b.2 c.2 h1 h2) (fun a b => ho a.1 b.1 a.2 b.2) _
theorem sortF_isSet {α : Type} {eq : α → α → Bool} {lt : α → α → Prop} {P : α → Prop} {cf : α × α → Option Int} {l : List α} (he : ∀ x y, eq x y = true ↔ x = y) (H : LtOn lt P) (hP : ∀ x ∈ l, P x) (hl : l.length < 4611686018427387904)
    (hc : ∀ x y, P x → P y → ∃ c, cf (x, y) = some c ∧ (c < 0 ↔ lt x y)) : ∃ s, sortF cf l = some s ∧ s.length = l.length ∧ IsSet lt P l (dd eq s) := by
  have hless : ∀ x y, P x → P y → (lessO cf x y = true ↔ lt x y) := fun x y hx hy => by
    obtain ⟨c, h1, h2⟩ := hc x y hx hy
    unfold lessO
    rw [h1]
    simpa using h2
  have hless' : ∀ x y, P x → P y → (lessO cf x y = false ↔ ¬ lt x y) := fun x y hx hy => by
    rw [← hless x y hx hy]; simp
  have ok : SortOk cf l := by
    refine ⟨fun x hx y hy => ?_, fun x hx => ?_, fun x hx y hy z hz h1 h2 => ?_, fun x hx y hy h1 h2 => ?_, hl⟩
    · obtain ⟨c, h1, _⟩ := hc x y (hP x hx) (hP y hy); exact ⟨c, h1⟩
    · exact (hless' x x (hP x hx) (hP x hx)).2 (H.irrefl x (hP x hx))
    · rw [hless _ _ (hP x hx) (hP y hy)] at h1
      rw [hless _ _ (hP y hy) (hP z hz)] at h2
      rw [hless _ _ (hP x hx) (hP z hz)]
      exact H.trans x y z (hP x hx) (hP y hy) (hP z hz) h1 h2
    · rw [hless' _ _ (hP x hx) (hP y hy)] at h1
      rw [hless' _ _ (hP y hy) (hP x hx)] at h2
      rcases H.total x y (hP x hx) (hP y hy) with h | h | h
      · exact absurd h h1
      · exact h
      · exact absurd h h2
  refine ⟨_, sortF_of ok, by simp [sorted], ?_, ?_⟩
  · have hperm : ∀ x, x ∈ sorted cf l ↔ x ∈ l := fun x => by simp [sorted]
    refine dd_sorted he H _ (fun x hx => hP x ((hperm x).1 hx)) ?_
    have := sort_pairwise (le := fun x y => !lessO cf y x) (P := P) (fun a b c ha hb hcc h1 h2 => ?_) (fun a b ha hb => ?_) l hP
    · refine (this.imp_of_mem ?_ : _)
      intro a b ha hb h
      have ha' : a ∈ l := (hperm a).1 ha
      have hb' : b ∈ l := (hperm b).1 hb
      simp at h
      exact (hless' b a (hP b hb') (hP a ha')).1 h
    · simp at h1 h2 ⊢
      rw [hless' _ _ hb ha] at h1
      rw [hless' _ _ hcc hb] at h2
      rw [hless' _ _ hcc ha]
      intro h3
      rcases H.total a b ha hb with h | h | h
      · exact h2 (H.trans c a b hcc ha hb h3 h)
      · subst h; exact h2 h3
      · exact h1 h
    · simp only [Bool.or_eq_true, Bool.not_eq_true']
      rw [hless' _ _ hb ha, hless' _ _ ha hb]
      by_cases h : lt b a
      · right; intro h2; exact H.irrefl a ha (H.trans a b a ha hb ha h2 h)
      · exact .inl h
  · intro x
    rw [dd_mem he]
    constructor
    · intro hx
      have : x ∈ l := by simpa [sorted] using hx
      exact ⟨this, hP x this⟩
    · intro hx; simpa [sorted] using hx.1
end Go.Proofs.YtfjdjbdnnoijgaaGreat
namespace Go.Proofs.YtfjdjbdnnoijgaaGreat
open Go.RowKit
theorem bl_irrefl : ∀ a : List UInt8, Op.bytesLess a a = false
  | [] => rfl
  | x :: a => by simp [Op.bytesLess, bl_irrefl a]
theorem u8_tri (x y : UInt8) : x < y ∨ x = y ∨ y < x := by
  rcases Nat.lt_trichotomy x.toNat y.toNat with h | h | h
  · exact .inl h
  · exact .inr (.inl (UInt8.toNat_inj.1 h))
  · exact .inr (.inr h)
theorem bl_trans : ∀ a b c : List UInt8, Op.bytesLess a b = true → Op.bytesLess b c = true → Op.bytesLess a c = true
  | [], [], c, h1, _ => by simp [Op.bytesLess] at h1
  | _ :: _, [], c, h1, _ => by simp [Op.bytesLess] at h1
  | a, _ :: _, [], _, h2 => by simp [Op.bytesLess] at h2
  | [], b :: bs, c :: cs, _, _ => rfl
  | a :: ax, b :: bs, c :: cs, h1, h2 => by
    simp only [Op.bytesLess, Bool.or_eq_true, decide_eq_true_eq, Bool.and_eq_true, beq_iff_eq] at h1 h2 ⊢
    rcases h1 with h1 | ⟨rfl, h1⟩
    · rcases h2 with h2 | ⟨rfl, h2⟩
      · exact .inl (UInt8.lt_trans h1 h2)
      · exact .inl h1
    · rcases h2 with h2 | ⟨rfl, h2⟩
      · exact .inl h2
      · exact .inr ⟨rfl, bl_trans ax bs cs h1 h2⟩
theorem bl_total : ∀ a b : List UInt8, Op.bytesLess a b = true ∨ a = b ∨ Op.bytesLess b a = true
  | [], [] => .inr (.inl rfl)
  | [], _ :: _ => .inl rfl
  | _ :: _, [] => .inr (.inr rfl)
  | a :: ax, b :: bs => by
    simp only [Op.bytesLess, Bool.or_eq_true, decide_eq_true_eq, Bool.and_eq_true, beq_iff_eq, List.cons.injEq]
    rcases u8_tri a b with h | h | h
    · exact .inl (.inl h)
    · subst h
      rcases bl_total ax bs with h | h | h
      · exact .inl (.inr ⟨rfl, h⟩)
      · exact .inr (.inl ⟨rfl, h⟩)
      · exact .inr (.inr (.inr ⟨rfl, h⟩))
    · exact .inr (.inr (.inl h))
theorem cmp_neg : ∀ a b : List UInt8, (Lib.compareBytes a b < 0 ↔ Op.bytesLess a b = true)
  | [], [] => by simp [Lib.compareBytes, Op.bytesLess]
  | [], _ :: _ => by simp [Lib.compareBytes, Op.bytesLess]
  | _ :: _, [] => by simp [Lib.compareBytes, Op.bytesLess]
  | a :: ax, b :: bs => by
    simp only [Lib.compareBytes, Op.bytesLess, Bool.or_eq_true, decide_eq_true_eq, Bool.and_eq_true, beq_iff_eq]
    by_cases h : a < b
    · simp [h]
    · by_cases h2 : b < a
      · have : a ≠ b := by rintro rfl; exact h h2
        simp [h, h2, this]
      · have : a = b := by rcases u8_tri a b with h3 | h3 | h3; exact absurd h3 h; exact h3; exact absurd h3 h2
        subst this
        simp [h, cmp_neg ax bs]
theorem cmp_zero : ∀ a b : List UInt8, (Lib.compareBytes a b = 0 ↔ a = b)
  | [], [] => by simp [Lib.compareBytes]
  | [], _ :: _ => by simp [Lib.compareBytes]
  | _ :: _, [] => by simp [Lib.compareBytes]
  | a :: ax, b :: bs => by
    simp only [Lib.compareBytes, List.cons.injEq]
    by_cases h : a < b
    · simp only [h, if_true]
      constructor
      · intro h; cases h
      · rintro ⟨rfl, _⟩; exact absurd h (by simp)
    · by_cases h2 : b < a
      · simp only [h, h2, if_true, if_false]
        constructor
        · intro h; cases h
        · rintro ⟨rfl, _⟩; exact absurd h2 (by simp)
      · have : a = b := by rcases u8_tri a b with h3 | h3 | h3; exact absurd h3 h; exact h3; exact absurd h3 h2
        subst this
        simp [h, cmp_zero ax bs]
theorem ltS_def (a b : ByteArray) : ltS a b = Op.bytesLess a.data.toList b.data.toList := by unfold ltS; rw [ByteArray.toList_eq, ByteArray.toList_eq]
theorem ba_ext {a b : ByteArray} (h : a.data.toList = b.data.toList) : a = b := ByteArray.ext (Array.toList_inj.1 h)
theorem ltS_irrefl (a : ByteArray) : ltS a a = false := by rw [ltS_def, bl_irrefl]
theorem ltS_trans {a b c : ByteArray} (h1 : ltS a b = true) (h2 : ltS b c = true) : ltS a c = true := by rw [ltS_def] at *; exact bl_trans _ _ _ h1 h2
theorem ltS_total (a b : ByteArray) : ltS a b = true ∨ a = b ∨ ltS b a = true := by
  rw [ltS_def, ltS_def]
  rcases bl_total a.data.toList b.data.toList with h | h | h
  · exact .inl h
  · exact .inr (.inl (ba_ext h))
  · exact .inr (.inr h)
theorem ltOnS (P : ByteArray → Prop) : LtOn (fun a b => ltS a b = true) P :=
  ⟨fun x _ h => (by rw [ltS_irrefl] at h; cases h), fun x y z _ _ _ => ltS_trans, fun x y _ _ => ltS_total x y⟩
def isLetter (b : UInt8) : Bool := decide (97 ≤ b.toNat) && decide (b.toNat ≤ 122)
def isSign (b : UInt8) : Bool := isLetter b || (decide (48 ≤ b.toNat) && decide (b.toNat ≤ 57)) || decide (b.toNat = 45)
def rightN (s : ByteArray) : Bool := decide (1 ≤ s.size) && decide (s.size ≤ 16) && (match s.data.toList with | [] => false | b :: _ => isLetter b) && s.data.toList.all isSign
theorem rightN_size {s : ByteArray} (h : rightN s = true) : 1 ≤ s.size ∧ s.size ≤ 16 := by
  simp only [rightN, Bool.and_eq_true, decide_eq_true_eq] at h
  exact h.1.1
theorem letters_ix : ∀ n : Nat, n < 256 → decide (xIndexByte (⟨#[97, 98, 99, 100, 101, 102, 103, 104, 105, 106, 107, 108, 109, 110, 111, 112, 113, 114, 115, 116, 117, 118, 119, 120, 121, 122]⟩ : ByteArray) (n : Int) ≥ 0) = isLetter (UInt8.ofNat n) := by decide +kernel
theorem signs_ix : ∀ n : Nat, n < 256 → decide (xIndexByte (⟨#[97, 98, 99, 100, 101, 102, 103, 104, 105, 106, 107, 108, 109, 110, 111, 112, 113, 114, 115, 116, 117, 118, 119, 120, 121, 122, 48, 49, 50, 51, 52, 53, 54, 55, 56, 57, 45]⟩ : ByteArray) (n : Int) < 0) = !isSign (UInt8.ofNat n) := by decide +kernel
theorem size_list (s : ByteArray) : s.size = s.data.toList.length := by rw [Array.length_toList]; rfl
theorem bytesB_some {s : ByteArray} (h : s.size ≤ 16) : bytesB s = some (bytesI s) := by
  unfold bytesB; rw [if_pos (by unfold maxLen; omega)]
theorem only_run : ∀ l : List UInt8, m_name_only_L1 (l.map fun b => (b.toNat : Int)) = some (l.all isSign)
  | [] => rfl
  | b :: l => by
    rw [List.map_cons, m_name_only_L1]
    simp only [m_strings_IndexByte, m_internal_stringslite_IndexByte, Option.bind_some]
    have hb := signs_ix b.toNat (UInt8.toNat_lt b)
    rw [hb]
    simp only [UInt8.ofNat_toNat, List.all_cons]
    cases isSign b with
    | true => simp [only_run l]
    | false => simp
theorem idxS_head {s : ByteArray} {b : UInt8} {l : List UInt8} (h : s.data.toList = b :: l) : idxS s 0 = some b := by
  unfold idxS
  rw [if_pos (Int.le_refl 0)]
  have h0 : s.data[0]? = some b := by rw [← Array.getElem?_toList, h]; rfl
  show s[0]? = some b
  rw [← h0]
  rfl
theorem m_name_Right_eq (s : ByteArray) : m_name_Right s = some (rightN s) := by
  unfold m_name_Right
  simp only [andS, Option.bind_some, bindS]
  by_cases h1 : 1 ≤ s.size
  · by_cases h2 : s.size ≤ 16
    · rw [if_pos (by simp; omega)]
      obtain ⟨b, l, hl⟩ : ∃ b l, s.data.toList = b :: l := by
        cases h : s.data.toList with
        | nil => rw [size_list, h] at h1; simp at h1
        | cons b l => exact ⟨b, l, rfl⟩
      rw [idxS_head hl]
      simp only [Option.bind_some, m_strings_IndexByte, m_internal_stringslite_IndexByte]
      rw [letters_ix b.toNat (UInt8.toNat_lt b)]
      simp only [UInt8.ofNat_toNat, rightN, h1, h2, hl, decide_true, Bool.true_and]
      cases isLetter b with
      | false => simp
      | true =>
        simp only [if_true, m_name_only, bytesB_some h2, Option.bind_some, bytesI]
        rw [only_run, hl]
        simp
    · rw [if_neg (by simp; omega)]
      simp [rightN, h2]
  · rw [if_neg (by simp; omega)]
    simp [rightN, h1]
theorem idxS_at {s : ByteArray} {A B : List UInt8} {b : UInt8} (h : s.data.toList = A ++ b :: B) (i : Int) (hi : i = (A.length : Int)) : idxS s i = some b := by
  subst hi
  unfold idxS
  rw [if_pos (by omega), Int.toNat_natCast]
  have h0 : s.data[A.length]? = some b := by rw [← Array.getElem?_toList, h]; simp
  show s[A.length]? = some b
  rw [← h0]
  rfl
theorem refRight_run (s : ByteArray) (hs : s.size ≤ 16) : ∀ (B A : List UInt8) (n : Nat), s.data.toList = A ++ B → B.length < n → m_ref03_Right_L1 s n (A.length : Int) = some (B.all isSign)
  | [], A, 0, _, h => by simp at h
  | [], A, n + 1, h, _ => by
    have : s.size = A.length := by rw [size_list, h]; simp
    rw [m_ref03_Right_L1, if_neg (by rw [this]; simp)]
    rfl
  | b :: B, A, 0, _, h => by simp at h
  | b :: B, A, n + 1, h, hn => by
    have hsz : s.size = A.length + B.length + 1 := by rw [size_list, h]; simp; omega
    rw [m_ref03_Right_L1, if_pos (by rw [hsz]; simp; omega)]
    rw [idxS_at h _ rfl]
    simp only [Option.bind_some]
    rw [wrap_in (x := (A.length : Int) + 1) (by omega) (by omega)]
    have ih := refRight_run s hs B (A ++ [b]) n (by rw [h]; simp) (by simp at hn; omega)
    rw [show ((A ++ [b]).length : Int) = (A.length : Int) + 1 by simp] at ih
    simp only [List.all_cons]
    have hsg : ∀ n : Nat, n < 256 → isSign (UInt8.ofNat n) = !((decide (n < 97) || decide (n > 122)) && (decide (n < 48) || decide (n > 57)) && decide (n ≠ 45)) := by decide +kernel
    have hb := hsg b.toNat (UInt8.toNat_lt b)
    simp only [UInt8.ofNat_toNat] at hb
    rw [hb]
    by_cases h1 : b.toNat < 97 <;> by_cases h2 : b.toNat > 122 <;> by_cases h3 : b.toNat < 48 <;> by_cases h4 : b.toNat > 57 <;> by_cases h5 : b.toNat = 45 <;>
      first
      | omega
      | (have h1' : ((b.toNat : Int) < 97) = (b.toNat < 97) := by rw [eq_iff_iff]; omega
         have h2' : ((b.toNat : Int) > 122) = (b.toNat > 122) := by rw [eq_iff_iff]; omega
         have h3' : ((b.toNat : Int) < 48) = (b.toNat < 48) := by rw [eq_iff_iff]; omega
         have h4' : ((b.toNat : Int) > 57) = (b.toNat > 57) := by rw [eq_iff_iff]; omega
         have h5' : ((b.toNat : Int) != 45) = !decide (b.toNat = 45) := by rw [Bool.eq_iff_iff]; simp; omega
         simp [h1, h2, h3, h4, h5, h1', h2', h3', h4', h5', ih])
theorem beqS_refl (a : ByteArray) : beqS a a = true := beqS_iff.2 rfl
theorem eq_zS {s : ByteArray} : s = zS ↔ s.size = 0 := by
  constructor
  · rintro rfl; rfl
  · intro h; exact ba_ext (by rw [size_list] at h; rw [List.length_eq_zero_iff.1 h]; rfl)
theorem m_ref03_Right_eq (s : ByteArray) : m_ref03_Right s = some (rightN s) := by
  unfold m_ref03_Right
  simp only [orS, Option.bind_some, bindS]
  by_cases h0 : s.size = 0
  · have : s = zS := eq_zS.2 h0
    subst this
    rw [beqS_refl]
    rfl
  · have hb : beqS s zS = false := by
      cases h : beqS s zS with
      | false => rfl
      | true => exact absurd (eq_zS.1 (beqS_iff.1 h)) h0
    rw [hb]
    simp only [Bool.false_or]
    by_cases h2 : s.size ≤ 16
    · rw [if_neg (by simp; omega)]
      obtain ⟨b, l, hl⟩ : ∃ b l, s.data.toList = b :: l := by
        cases h : s.data.toList with
        | nil => rw [size_list, h] at h0; simp at h0
        | cons b l => exact ⟨b, l, rfl⟩
      rw [idxS_head hl]
      simp only [Option.bind_some, orS]
      have hr := refRight_run s h2 s.data.toList [] FUEL rfl (by rw [FUEL_eq, ← size_list]; omega)
      simp only [List.length_nil] at hr
      rw [show (0 : Int) = ((0 : Nat) : Int) from rfl] at *
      rw [hr]
      have h97 : ((b.toNat : Int) < 97) = (b.toNat < 97) := by rw [eq_iff_iff]; omega
      have h122 : ((b.toNat : Int) > 122) = (b.toNat > 122) := by rw [eq_iff_iff]; omega
      have h1 : 1 ≤ s.size := by omega
      simp only [rightN, h1, h2, hl, isLetter, decide_true, Bool.true_and, h97, h122]
      by_cases a : b.toNat < 97
      · simp [a, show ¬ 97 ≤ b.toNat by omega]
      · by_cases c : b.toNat > 122
        · simp [a, c, show ¬ b.toNat ≤ 122 by omega]
        · simp [a, c, show 97 ≤ b.toNat by omega, show b.toNat ≤ 122 by omega]
    · rw [if_pos (by simp; omega)]
      simp [rightN, h2]
def rightR (r : Role) : Bool := rightN r.Owner && rightN r.Word
theorem m_role_Right_eq (r : Role) : m_role_Right r = some (rightR r) := by
  unfold m_role_Right rightR
  simp only [m_name_Right_eq, Option.bind_some]
  cases rightN r.Owner <;> simp
theorem m_ref04_Right_eq (r : Role) : m_ref04_Right r = some (rightR r) := by
  unfold m_ref04_Right rightR
  simp only [m_ref03_Right_eq, Option.bind_some]
  cases rightN r.Owner <;> simp
def ltR (a b : Role) : Bool := ltS a.Owner b.Owner || (beqS a.Owner b.Owner && ltS a.Word b.Word)
theorem m_ref04_Less_eq (a b : Role) : m_ref04_Less a b = some (ltR a b) := by
  unfold m_ref04_Less ltR
  cases ltS a.Owner b.Owner <;> cases beqS a.Owner b.Owner <;> simp
theorem ltR_iff {a b : Role} : ltR a b = true ↔ ltS a.Owner b.Owner = true ∨ (a.Owner = b.Owner ∧ ltS a.Word b.Word = true) := by
  simp [ltR, beqS_iff]
theorem ltOnR (P : Role → Prop) : LtOn (fun a b => ltR a b = true) P := by
  refine ⟨fun x _ h => ?_, fun x y z _ _ _ h1 h2 => ?_, fun x y _ _ => ?_⟩
  · rw [ltR_iff] at h
    simp [ltS_irrefl] at h
  · rw [ltR_iff] at *
    rcases h1 with h1 | ⟨e1, h1⟩
    · rcases h2 with h2 | ⟨e2, h2⟩
      · exact .inl (ltS_trans h1 h2)
      · exact .inl (by rw [← e2]; exact h1)
    · rcases h2 with h2 | ⟨e2, h2⟩
      · exact .inl (by rw [e1]; exact h2)
      · exact .inr ⟨e1.trans e2, ltS_trans h1 h2⟩
  · simp only [ltR_iff]
    rcases ltS_total x.Owner y.Owner with h | h | h
    · exact .inl (.inl h)
    · rcases ltS_total x.Word y.Word with h2 | h2 | h2
      · exact .inl (.inr ⟨h, h2⟩)
      · refine .inr (.inl ?_)
        cases x; cases y; simp at h h2; simp [h, h2]
      · exact .inr (.inr (.inr ⟨h.symm, h2⟩))
    · exact .inr (.inr (.inl h))
theorem m_role_Compare_eq (a b : Role) : ∃ c, m_role_Compare a b = some c ∧ (c < 0 ↔ ltR a b = true) := by
  unfold m_role_Compare
  simp only [m_strings_Compare, m_internal_bytealg_CompareString, Option.bind_some, m_cmp_Or_int, m_cmp_Or_int_L1]
  have h1 : ∀ a b : ByteArray, (xCompareS a b < 0 ↔ ltS a b = true) := fun a b => by rw [ltS_def]; exact cmp_neg _ _
  have h0 : ∀ a b : ByteArray, (xCompareS a b = 0 ↔ a = b) := fun a b => by
    unfold xCompareS; rw [cmp_zero]; exact ⟨ba_ext, fun h => by rw [h]⟩
  by_cases e : xCompareS a.Owner b.Owner = 0
  · rw [if_neg (by simp [e])]
    have e' := (h0 _ _).1 e
    by_cases e2 : xCompareS a.Word b.Word = 0
    · rw [if_neg (by simp [e2])]
      refine ⟨0, rfl, ?_⟩
      rw [ltR_iff, e', (h0 _ _).1 e2]
      simp [ltS_irrefl]
    · rw [if_pos (by simp [e2])]
      refine ⟨_, rfl, ?_⟩
      rw [ltR_iff, e', h1]
      simp [ltS_irrefl]
  · rw [if_pos (by simp [e])]
    refine ⟨_, rfl, ?_⟩
    rw [ltR_iff, h1]
    have : a.Owner ≠ b.Owner := fun h => e ((h0 _ _).2 h)
    simp [this]
def zR : Role := ⟨zS, zS⟩
theorem beqS_comm (a b : ByteArray) : beqS a b = beqS b a := by rw [Bool.eq_iff_iff, beqS_iff, beqS_iff]; exact eq_comm
theorem beqRole_comm (a b : Role) : beqRole a b = beqRole b a := by rw [Bool.eq_iff_iff, beqRole_iff, beqRole_iff]; exact eq_comm
theorem beqRole_refl (a : Role) : beqRole a a = true := beqRole_iff.2 rfl
def rightC (c : Cred) : Bool := rightR c.Head && (
  if c.Kind == 1 then rightN c.Who && beqRole zR c.B && beqRole zR c.C && beqS zS c.Word2
  else if c.Kind == 2 then rightR c.B && beqS zS c.Who && beqRole zR c.C && beqS zS c.Word2
  else if c.Kind == 3 then rightR c.B && beqS c.B.Owner c.Head.Owner && rightN c.Word2 && beqS zS c.Who && beqRole zR c.C
  else if c.Kind == 4 then rightR c.B && rightR c.C && ltR c.B c.C && beqS zS c.Who && beqS zS c.Word2
  else false)
theorem m_cred_Right_eq (c : Cred) : m_cred_Right c = some (rightC c) := by
  unfold m_cred_Right rightC
  simp only [m_role_Right_eq, m_name_Right_eq, Option.bind_some]
  obtain ⟨k, hk, hk2⟩ := m_role_Compare_eq c.B c.C
  rw [hk]
  have hk3 : decide (k < 0) = ltR c.B c.C := by rw [Bool.eq_iff_iff, ← hk2]; simp
  simp only [Option.bind_some, hk3]
  by_cases h1 : c.Kind = 1
  · cases rightR c.Head <;> cases rightN c.Who <;> simp [h1, beqCred, beqRole_refl, beqS_refl, zR, Bool.and_assoc]
  · by_cases h2 : c.Kind = 2
    · cases rightR c.Head <;> cases rightR c.B <;> simp [h2, beqCred, beqRole_refl, beqS_refl, zR, Bool.and_assoc]
    · by_cases h3 : c.Kind = 3
      · cases rightR c.Head <;> cases rightR c.B <;> cases beqS c.B.Owner c.Head.Owner <;> cases rightN c.Word2 <;> simp [h3, beqCred, beqRole_refl, beqS_refl, zR, Bool.and_assoc]
      · by_cases h4 : c.Kind = 4
        · cases rightR c.Head <;> cases rightR c.B <;> cases rightR c.C <;> cases ltR c.B c.C <;> simp [h4, beqCred, beqRole_refl, beqS_refl, zR, Bool.and_assoc]
        · simp [h1, h2, h3, h4]
theorem m_ref05_Right_eq (c : Cred) : m_ref05_Right c = some (rightC c) := by
  unfold m_ref05_Right rightC
  simp only [m_ref04_Right_eq, m_ref03_Right_eq, m_ref04_Less_eq, Option.bind_some]
  rw [show (⟨zS, zS⟩ : Role) = zR from rfl, beqRole_comm c.B zR, beqRole_comm c.C zR, beqS_comm c.Word2 zS, beqS_comm c.Who zS]
  by_cases h1 : c.Kind = 1
  · cases rightR c.Head <;> cases rightN c.Who <;> cases beqRole zR c.B <;> cases beqRole zR c.C <;> simp [h1]
  · by_cases h2 : c.Kind = 2
    · cases rightR c.Head <;> cases rightR c.B <;> cases beqS zS c.Who <;> cases beqRole zR c.C <;> simp [h2]
    · by_cases h3 : c.Kind = 3
      · cases rightR c.Head <;> cases rightR c.B <;> cases beqS zS c.Who <;> cases beqRole zR c.C <;> cases beqS c.B.Owner c.Head.Owner <;> simp [h3]
      · by_cases h4 : c.Kind = 4
        · cases rightR c.Head <;> cases rightR c.B <;> cases beqS zS c.Who <;> cases beqS zS c.Word2 <;> cases rightR c.C <;> simp [h4]
        · cases rightR c.Head <;> cases rightR c.B <;> cases beqS zS c.Who <;> simp [h1, h2, h3, h4]
end Go.Proofs.YtfjdjbdnnoijgaaGreat
namespace Go.Proofs.YtfjdjbdnnoijgaaGreat
open Go.RowKit
theorem appB_ok {α : Type} {b : Nat} {l m : List α} (h : (l.length + m.length) * b ≤ 140737488355328) (h2 : l.length + m.length ≤ 9223372036854775807) : appB b l m = some (l ++ m) := by
  unfold appB; rw [if_pos ⟨h, by unfold maxLen; omega⟩]
theorem app1 {l m : List Int} (h : l.length + m.length ≤ 1000000) : appB 1 l m = some (l ++ m) := appB_ok (by omega) (by omega)
def textI (s : ByteArray) : List Int := (s.size : Int) :: bytesI s
def roleI (r : Role) : List Int := textI r.Owner ++ textI r.Word
def bodyI (c : Cred) : List Int := if c.Kind = 1 then textI c.Who else if c.Kind = 2 then roleI c.B else if c.Kind = 3 then roleI c.B ++ textI c.Word2 else roleI c.B ++ roleI c.C
def credI (c : Cred) : List Int := c.Kind :: (roleI c.Head ++ bodyI c)
theorem textI_length (s : ByteArray) : (textI s).length = s.size + 1 := by simp [textI, bytesI_length]
theorem roleI_length {r : Role} (h : rightR r = true) : (roleI r).length ≤ 34 := by
  simp only [rightR, Bool.and_eq_true] at h
  have h1 := rightN_size h.1
  have h2 := rightN_size h.2
  simp [roleI, textI_length]; omega
theorem penNumber {l : List Int} {n : Int} (h0 : 0 ≤ n) (h1 : n < 128) (hl : l.length ≤ 100000) : m_tape_Pen_Number_w l n = some (true, l ++ [n]) := by
  have hw : IntKind.u8.wrap n = n := by
    obtain ⟨k, rfl⟩ : ∃ k : Nat, n = k := ⟨n.toNat, by omega⟩
    have : ∀ k : Nat, k < 128 → IntKind.u8.wrap (k : Int) = (k : Int) := by decide +kernel
    exact this k (by omega)
  unfold m_tape_Pen_Number_w
  rw [if_neg (by simp; omega), fuel_big, m_tape_Pen_Number_w_L1, if_neg (by simp; omega), hw, app1 (by simp; omega)]
  rfl
theorem putName {l : List Int} {s : ByteArray} (h : rightN s = true) (hl : l.length ≤ 10000) : m_name_Put_w l s = some (true, l ++ textI s) := by
  have h1 := rightN_size h
  unfold m_name_Put_w
  simp only [m_name_Right_eq, Option.bind_some, h, if_true, bytesB_some h1.2]
  unfold m_tape_Pen_Text_w
  rw [if_neg (by rw [bytesI_length]; simp; omega)]
  rw [bytesI_length, penNumber (by omega) (by omega) (by omega)]
  simp only [Option.bind_some]
  rw [app1 (by simp [bytesI_length]; omega)]
  simp [textI]
theorem putRole {l : List Int} {r : Role} (h : rightR r = true) (hl : l.length ≤ 1000) : m_role_Put_w l r = some (true, l ++ roleI r) := by
  have h0 := h
  simp only [rightR, Bool.and_eq_true] at h
  have h1 := rightN_size h.1
  unfold m_role_Put_w
  simp only [m_role_Right_eq, Option.bind_some, h0, if_true]
  rw [putName h.1 (by omega)]
  simp only [Option.bind_some, if_true]
  rw [putName h.2 (by simp [textI_length]; omega)]
  simp [roleI]
theorem rightC_head {c : Cred} (h : rightC c = true) : rightR c.Head = true := by
  simp only [rightC, Bool.and_eq_true] at h; exact h.1
theorem rightC_cases {c : Cred} (h : rightC c = true) :
    (c.Kind = 1 ∧ rightN c.Who = true ∧ c.B = zR ∧ c.C = zR ∧ c.Word2 = zS) ∨
    (c.Kind = 2 ∧ rightR c.B = true ∧ c.Who = zS ∧ c.C = zR ∧ c.Word2 = zS) ∨
    (c.Kind = 3 ∧ rightR c.B = true ∧ rightN c.Word2 = true ∧ c.B.Owner = c.Head.Owner ∧ c.Who = zS ∧ c.C = zR) ∨
    (c.Kind = 4 ∧ rightR c.B = true ∧ rightR c.C = true ∧ ltR c.B c.C = true ∧ c.Who = zS ∧ c.Word2 = zS) := by
  simp only [rightC, Bool.and_eq_true] at h
  obtain ⟨_, h⟩ := h
  split at h
  · rename_i h1
    simp only [Bool.and_eq_true, beqRole_iff, beqS_iff] at h
    exact .inl ⟨by simpa using h1, h.1.1.1, h.1.1.2.symm, h.1.2.symm, h.2.symm⟩
  · split at h
    · rename_i h1
      simp only [Bool.and_eq_true, beqRole_iff, beqS_iff] at h
      exact .inr (.inl ⟨by simpa using h1, h.1.1.1, h.1.1.2.symm, h.1.2.symm, h.2.symm⟩)
    · split at h
      · rename_i h1
        simp only [Bool.and_eq_true, beqRole_iff, beqS_iff] at h
        exact .inr (.inr (.inl ⟨by simpa using h1, h.1.1.1.1, h.1.1.2, h.1.1.1.2, h.1.2.symm, h.2.symm⟩))
      · split at h
        · rename_i h1
          simp only [Bool.and_eq_true, beqRole_iff, beqS_iff] at h
          exact .inr (.inr (.inr ⟨by simpa using h1, h.1.1.1.1, h.1.1.1.2, h.1.1.2, h.1.2.symm, h.2.symm⟩))
        · cases h
theorem m_cred_Bytes_eq (c : Cred) : m_cred_Bytes c = some (if rightC c then credI c else []) := by
  unfold m_cred_Bytes
  rw [m_cred_Right_eq]
  simp only [Option.bind_some]
  cases h : rightC c with
  | false => simp
  | true =>
    have hh := rightC_head h
    have hl := roleI_length hh
    simp only [Bool.not_true, Bool.false_eq_true, if_false, if_true]
    have hk : 0 ≤ c.Kind ∧ c.Kind < 128 := by rcases rightC_cases h with h | h | h | h <;> omega
    rw [penNumber hk.1 hk.2 (by simp)]
    simp only [Option.bind_some]
    rw [putRole hh (by simp)]
    simp only [Option.bind_some, m_tape_Pen_Bytes, m_bytes_Clone]
    rcases rightC_cases h with ⟨k, h1, _⟩ | ⟨k, h1, _⟩ | ⟨k, h1, h2, _⟩ | ⟨k, h1, h2, _⟩
    · have hs := rightN_size h1
      simp only [k, beq_self_eq_true, if_true, putName h1 (show (([] ++ [(1:Int)]) ++ roleI c.Head).length ≤ 10000 by simp; omega), Option.bind_some]
      rw [app1 (by simp [textI_length]; omega)]
      simp [credI, bodyI, k]
    · have hs := roleI_length h1
      simp only [k, show ((2 : Int) == 1) = false from rfl, Bool.false_eq_true, beq_self_eq_true, if_true, if_false, putRole h1 (show (([] ++ [(2:Int)]) ++ roleI c.Head).length ≤ 1000 by simp; omega), Option.bind_some]
      rw [app1 (by simp; omega)]
      simp [credI, bodyI, k]
    · have hs := roleI_length h1
      have hs2 := rightN_size h2
      simp only [k, show ((3 : Int) == 1) = false from rfl, show ((3 : Int) == 2) = false from rfl, Bool.false_eq_true, beq_self_eq_true, if_true, if_false, putRole h1 (show (([] ++ [(3:Int)]) ++ roleI c.Head).length ≤ 1000 by simp; omega), Option.bind_some]
      rw [putName h2 (by simp; omega)]
      simp only [Option.bind_some]
      rw [app1 (by simp [textI_length]; omega)]
      simp [credI, bodyI, k]
    · have hs := roleI_length h1
      have hs2 := roleI_length h2
      simp only [k, show ((4 : Int) == 1) = false from rfl, show ((4 : Int) == 2) = false from rfl, show ((4 : Int) == 3) = false from rfl, Bool.false_eq_true, beq_self_eq_true, if_true, if_false, putRole h1 (show (([] ++ [(4:Int)]) ++ roleI c.Head).length ≤ 1000 by simp; omega), Option.bind_some]
      rw [putRole h2 (by simp; omega)]
      simp only [Option.bind_some]
      rw [app1 (by simp; omega)]
      simp [credI, bodyI, k]
def toS (l : List Int) : ByteArray := ⟨(u8s l).toArray⟩
theorem toS_list (l : List Int) : (toS l).data.toList = u8s l := rfl
theorem strI_foldl : ∀ (l : List Int) (r : ByteArray), (l.foldl (fun r n => r.push (UInt8.ofNat n.toNat)) r).data.toList = r.data.toList ++ u8s l
  | [], r => by simp [u8s]
  | x :: l, r => by
    rw [List.foldl_cons, strI_foldl l]
    show ((r.data.push _).toList) ++ _ = _
    simp [u8s]
theorem strI_eq (l : List Int) : strI l = toS l := ba_ext (by unfold strI; rw [strI_foldl]; rfl)
theorem toS_size (l : List Int) : (toS l).size = l.length := by rw [size_list, toS_list]; simp [u8s]
theorem u8s_append (a b : List Int) : u8s (a ++ b) = u8s a ++ u8s b := by simp [u8s]
theorem catS_ok (a b : List Int) (h : a.length + b.length ≤ 1000000) : catS (toS a) (toS b) = some (toS (a ++ b)) := by
  unfold catS
  rw [if_neg]
  · congr 1
    refine ba_ext ?_
    rw [toS_list, u8s_append, ← toS_list a, ← toS_list b]
    exact ByteArray.toList_data_append ▸ rfl
  · rw [toS_size, toS_size]
    show ¬ (_ > (9223372036854775807 : Int))
    omega
theorem toS_bytesI (s : ByteArray) : toS (bytesI s) = s := ba_ext (by rw [toS_list]; simp [u8s, bytesI, Function.comp_def])
theorem refNumber {n : Int} (h0 : 0 ≤ n) (h1 : n < 128) : m_ref01_Number n = some (toS [n]) := by
  have hw : IntKind.u8.wrap n = n := by
    obtain ⟨k, rfl⟩ : ∃ k : Nat, n = k := ⟨n.toNat, by omega⟩
    have : ∀ k : Nat, k < 128 → IntKind.u8.wrap (k : Int) = (k : Int) := by decide +kernel
    exact this k (by omega)
  unfold m_ref01_Number
  rw [fuel_big, m_ref01_Number_L1, if_neg (by simp; omega), hw, strI_eq, show zS = toS [] from rfl, catS_ok _ _ (by simp)]
  rfl
theorem refText {s : ByteArray} (h : rightN s = true) : m_ref01_Text s = some (toS (textI s)) := by
  have h1 := rightN_size h
  unfold m_ref01_Text
  rw [refNumber (by omega) (by omega)]
  simp only [Option.bind_some]
  have := catS_ok [(s.size : Int)] (bytesI s) (by rw [bytesI_length]; simp; omega)
  rw [toS_bytesI] at this
  rw [this]
  simp [textI]
theorem refRole {r : Role} (h : rightR r = true) : m_ref04_Bytes r = some (toS (roleI r)) := by
  simp only [rightR, Bool.and_eq_true] at h
  have h1 := rightN_size h.1
  have h2 := rightN_size h.2
  unfold m_ref04_Bytes
  rw [refText h.1, refText h.2]
  simp only [Option.bind_some]
  rw [catS_ok _ _ (by simp [textI_length]; omega)]
  rfl
theorem m_ref05_bytes_eq (c : Cred) : m_ref05_bytes c = some (toS (if rightC c then credI c else [])) := by
  unfold m_ref05_bytes
  rw [m_ref05_Right_eq]
  simp only [Option.bind_some]
  cases h : rightC c with
  | false => rfl
  | true =>
    have hh := rightC_head h
    have hl := roleI_length hh
    simp only [Bool.not_true, Bool.false_eq_true, if_false, if_true]
    have hk : 0 ≤ c.Kind ∧ c.Kind < 128 := by rcases rightC_cases h with h | h | h | h <;> omega
    unfold m_ref05_Bytes
    rw [refNumber hk.1 hk.2, refRole hh]
    simp only [Option.bind_some]
    rw [catS_ok _ _ (by simp; omega)]
    simp only [Option.bind_some]
    rcases rightC_cases h with ⟨k, h1, _⟩ | ⟨k, h1, _⟩ | ⟨k, h1, h2, _⟩ | ⟨k, h1, h2, _⟩
    · have hs := rightN_size h1
      simp only [k, beq_self_eq_true, if_true, refText h1, Option.bind_some]
      rw [catS_ok _ _ (by simp [textI_length]; omega)]
      simp [credI, bodyI, k]
    · have hs := roleI_length h1
      simp only [k, show ((2 : Int) == 1) = false from rfl, show ((2 : Int) == 3) = false from rfl, show ((2 : Int) == 4) = false from rfl, Bool.false_eq_true, if_false, refRole h1, Option.bind_some]
      rw [catS_ok _ _ (by simp; omega)]
      simp [credI, bodyI, k]
    · have hs := roleI_length h1
      have hs2 := rightN_size h2
      simp only [k, show ((3 : Int) == 1) = false from rfl, show ((3 : Int) == 4) = false from rfl, Bool.false_eq_true, beq_self_eq_true, if_true, if_false, refRole h1, Option.bind_some]
      rw [catS_ok _ _ (by simp; omega)]
      simp only [Option.bind_some, refText h2]
      rw [catS_ok _ _ (by simp [textI_length]; omega)]
      simp [credI, bodyI, k]
    · have hs := roleI_length h1
      have hs2 := roleI_length h2
      simp only [k, show ((4 : Int) == 1) = false from rfl, show ((4 : Int) == 3) = false from rfl, Bool.false_eq_true, beq_self_eq_true, if_true, if_false, refRole h1, Option.bind_some]
      rw [catS_ok _ _ (by simp; omega)]
      simp only [Option.bind_some, refRole h2]
      rw [catS_ok _ _ (by simp; omega)]
      simp [credI, bodyI, k]
def keyC (c : Cred) : List UInt8 := u8s (if rightC c then credI c else [])
def ltC (a b : Cred) : Bool := Op.bytesLess (keyC a) (keyC b)
theorem m_cred_Compare_eq (a b : Cred) : ∃ c, m_cred_Compare a b = some c ∧ (c < 0 ↔ ltC a b = true) := by
  unfold m_cred_Compare
  rw [m_cred_Bytes_eq, m_cred_Bytes_eq]
  exact ⟨_, rfl, cmp_neg _ _⟩
theorem m_ref05_Compare_eq (a b : Cred) : ∃ c, m_ref05_Compare a b = some c ∧ (c < 0 ↔ ltC a b = true) := by
  unfold m_ref05_Compare
  rw [m_ref05_bytes_eq, m_ref05_bytes_eq]
  simp only [Option.bind_some]
  have h : ltS (toS (if rightC a then credI a else [])) (toS (if rightC b then credI b else [])) = ltC a b := by rw [ltS_def]; rfl
  rw [h]
  cases ltC a b with
  | true => exact ⟨_, rfl, by decide⟩
  | false =>
    simp only [Bool.false_eq_true, if_false, Bool.false_or]
    cases hq : beqS (toS (if rightC a then credI a else [])) (toS (if rightC b then credI b else [])) with
    | true => exact ⟨0, by simp, by decide⟩
    | false => exact ⟨1, by simp, by decide⟩
theorem u8_inj {a b : Int} (ha : 0 ≤ a ∧ a < 256) (hb : 0 ≤ b ∧ b < 256) (h : a.toNat.toUInt8 = b.toNat.toUInt8) : a = b := by
  have := congrArg UInt8.toNat h
  simp only [UInt8.toNat_ofNat', Nat.toUInt8] at this
  simp at this
  omega
theorem u8s_inj : ∀ {a b : List Int}, (∀ x ∈ a, 0 ≤ x ∧ x < 256) → (∀ x ∈ b, 0 ≤ x ∧ x < 256) → u8s a = u8s b → a = b
  | [], [], _, _, _ => rfl
  | [], _ :: _, _, _, h => by simp [u8s] at h
  | _ :: _, [], _, _, h => by simp [u8s] at h
  | x :: a, y :: b, ha, hb, h => by
    simp only [u8s, List.map_cons, List.cons.injEq] at h
    rw [u8_inj (ha x (by simp)) (hb y (by simp)) h.1, u8s_inj (fun z hz => ha z (by simp [hz])) (fun z hz => hb z (by simp [hz])) h.2]
theorem textI_range {s : ByteArray} (h : rightN s = true) : ∀ x ∈ textI s, 0 ≤ x ∧ x < 256 := by
  have h1 := rightN_size h
  intro x hx
  rcases List.mem_cons.1 hx with rfl | hx
  · omega
  · simp only [bytesI, List.mem_map] at hx
    obtain ⟨b, _, rfl⟩ := hx
    have := UInt8.toNat_lt b
    omega
theorem roleI_range {r : Role} (h : rightR r = true) : ∀ x ∈ roleI r, 0 ≤ x ∧ x < 256 := by
  simp only [rightR, Bool.and_eq_true] at h
  intro x hx
  rcases List.mem_append.1 hx with hx | hx
  · exact textI_range h.1 x hx
  · exact textI_range h.2 x hx
theorem credI_range {c : Cred} (h : rightC c = true) : ∀ x ∈ credI c, 0 ≤ x ∧ x < 256 := by
  intro x hx
  rcases List.mem_cons.1 hx with rfl | hx
  · rcases rightC_cases h with h | h | h | h <;> omega
  · rcases List.mem_append.1 hx with hx | hx
    · exact roleI_range (rightC_head h) x hx
    · unfold bodyI at hx
      rcases rightC_cases h with ⟨k, h1, _⟩ | ⟨k, h1, _⟩ | ⟨k, h1, h2, _⟩ | ⟨k, h1, h2, _⟩
      · rw [if_pos k] at hx; exact textI_range h1 x hx
      · rw [if_neg (by omega), if_pos k] at hx; exact roleI_range h1 x hx
      · rw [if_neg (by omega), if_neg (by omega), if_pos k] at hx
        rcases List.mem_append.1 hx with hx | hx
        · exact roleI_range h1 x hx
        · exact textI_range h2 x hx
      · rw [if_neg (by omega), if_neg (by omega), if_neg (by omega)] at hx
        rcases List.mem_append.1 hx with hx | hx
        · exact roleI_range h1 x hx
        · exact roleI_range h2 x hx
theorem bytesI_inj {s t : ByteArray} (h : bytesI s = bytesI t) : s = t := by rw [← toS_bytesI s, h, toS_bytesI]
theorem textI_cut {s t : ByteArray} {X Y : List Int} (h : textI s ++ X = textI t ++ Y) : s = t ∧ X = Y := by
  simp only [textI, List.cons_append, List.cons.injEq] at h
  obtain ⟨h1, h2⟩ := h
  have hl : (bytesI s).length = (bytesI t).length := by rw [bytesI_length, bytesI_length]; omega
  have := List.append_inj h2 hl
  exact ⟨bytesI_inj this.1, this.2⟩
theorem roleI_cut {a b : Role} {X Y : List Int} (h : roleI a ++ X = roleI b ++ Y) : a = b ∧ X = Y := by
  simp only [roleI, List.append_assoc] at h
  obtain ⟨h1, h2⟩ := textI_cut h
  obtain ⟨h3, h4⟩ := textI_cut h2
  exact ⟨by cases a; cases b; simp at h1 h3; simp [h1, h3], h4⟩
theorem credI_inj {a b : Cred} (ha : rightC a = true) (hb : rightC b = true) (h : credI a = credI b) : a = b := by
  simp only [credI, List.cons.injEq] at h
  obtain ⟨hk, hq⟩ := h
  obtain ⟨hh, h⟩ := roleI_cut hq
  clear hq
  have e0 : ∀ {X Y : List Int}, X = Y → X ++ [] = Y ++ [] := fun h => by rw [h]
  unfold bodyI at h
  obtain ⟨ka, ha1, wa, ba, ca, wa2⟩ := a
  obtain ⟨kb, hb1, wb, bb, cb, wb2⟩ := b
  simp only at hk hh h
  subst hk hh
  rcases rightC_cases ha with ⟨k, h1, h2, h3, h4⟩ | ⟨k, h1, h2, h3, h4⟩ | ⟨k, h1, h2, h3, h4, h5⟩ | ⟨k, h1, h2, h3, h4, h5⟩ <;>
  rcases rightC_cases hb with ⟨k', g1, g2, g3, g4⟩ | ⟨k', g1, g2, g3, g4⟩ | ⟨k', g1, g2, g3, g4, g5⟩ | ⟨k', g1, g2, g3, g4, g5⟩ <;> simp only at k k' h2 h3 h4 g2 g3 g4 <;> (try omega)
  · rw [if_pos k, if_pos k] at h
    simp [textI_cut (e0 h), h2, h3, h4, g2, g3, g4]
  · rw [if_neg (by omega), if_pos k, if_neg (by omega), if_pos k] at h
    simp [roleI_cut (e0 h), h2, h3, h4, g2, g3, g4]
  · rw [if_neg (by omega), if_neg (by omega), if_pos k, if_neg (by omega), if_neg (by omega), if_pos k] at h
    obtain ⟨q1, q2⟩ := roleI_cut h
    simp only at h5 g5
    simp [q1, textI_cut (e0 q2), h4, h5, g4, g5]
  · rw [if_neg (by omega), if_neg (by omega), if_neg (by omega), if_neg (by omega), if_neg (by omega), if_neg (by omega)] at h
    obtain ⟨q1, q2⟩ := roleI_cut h
    simp only at h5 g5
    simp [q1, roleI_cut (e0 q2), h4, h5, g4, g5]
theorem ltOnC : LtOn (fun a b => ltC a b = true) (fun c => rightC c = true) := by
  refine ⟨fun x _ h => ?_, fun x y z _ _ _ h1 h2 => bl_trans _ _ _ h1 h2, fun x y hx hy => ?_⟩
  · unfold ltC at h; rw [bl_irrefl] at h; cases h
  · rcases bl_total (keyC x) (keyC y) with h | h | h
    · exact .inl h
    · refine .inr (.inl (credI_inj hx hy ?_))
      unfold keyC at h
      rw [if_pos hx, if_pos hy] at h
      exact u8s_inj (credI_range hx) (credI_range hy) h
    · exact .inr (.inr h)
end Go.Proofs.YtfjdjbdnnoijgaaGreat
namespace Go.Proofs.YtfjdjbdnnoijgaaGreat
open Go.RowKit
def selP {α : Type} (R : α → Bool) (lt : α → α → Bool) (last : Option α) : List α → Bool → α → Bool × α
  | [], ok, b => (ok, b)
  | x :: xs, ok, b => if R x && last.all (fun y => lt y x) && (!ok || lt x b) then selP R lt last xs true x else selP R lt last xs ok b
def selL {α : Type} (w : Nat) (R : α → Bool) (lt : α → α → Bool) (d : α) (l : List α) : Nat → List α → Option (List α)
  | 0, _ => none
  | n + 1, out => if !(selP R lt out.getLast? l false d).1 then some out else (appB w out [(selP R lt out.getLast? l false d).2]).bind fun o => selL w R lt d l n o
section
variable {α : Type} {R : α → Bool} {lt : α → α → Bool}
theorem selP_spec (H : LtOn (fun a b => lt a b = true) (fun x => R x = true)) (last : Option α) : ∀ (l : List α) (ok : Bool) (b : α), (ok = true → R b = true ∧ last.all (fun y => lt y b) = true) →
    ((selP R lt last l ok b).1 = false → ok = false ∧ ∀ x ∈ l, R x = true → last.all (fun y => lt y x) = false) ∧
    ((selP R lt last l ok b).1 = true → R (selP R lt last l ok b).2 = true ∧ last.all (fun y => lt y (selP R lt last l ok b).2) = true ∧ ((selP R lt last l ok b).2 ∈ l ∨ (ok = true ∧ (selP R lt last l ok b).2 = b)) ∧
      (∀ x ∈ l, R x = true → last.all (fun y => lt y x) = true → lt x (selP R lt last l ok b).2 = false) ∧ (ok = true → lt b (selP R lt last l ok b).2 = false))
  | [], ok, b, hb => by
    simp only [selP]
    exact ⟨fun h => ⟨h, by simp⟩, fun h => ⟨(hb h).1, (hb h).2, .inr ⟨h, trivial⟩, by simp, fun _ => by
      cases hx : lt b b with
      | false => rfl
      | true => exact absurd hx (H.irrefl b (hb h).1)⟩⟩
  | x :: xs, ok, b, hb => by
    rw [selP]
    by_cases hc : (R x && last.all (fun y => lt y x) && (!ok || lt x b)) = true
    · rw [if_pos hc]
      simp only [Bool.and_eq_true, Bool.or_eq_true, Bool.not_eq_true'] at hc
      obtain ⟨⟨hR, hL⟩, hok⟩ := hc
      obtain ⟨h1, h2⟩ := selP_spec H last xs true x (fun _ => ⟨hR, hL⟩)
      refine ⟨fun h => ?_, fun h => ?_⟩
      · cases (h1 h).1
      · obtain ⟨a1, a2, a3, a4, a5⟩ := h2 h
        refine ⟨a1, a2, ?_, ?_, ?_⟩
        · rcases a3 with a3 | ⟨_, a3⟩
          · exact .inl (by simp [a3])
          · exact .inl (by rw [a3]; simp)
        · intro y hy hRy hLy
          rcases List.mem_cons.1 hy with rfl | hy
          · exact a5 rfl
          · exact a4 y hy hRy hLy
        · intro hko
          cases hx : lt b (selP R lt last xs true x).2 with
          | false => rfl
          | true =>
            have hxb : lt x b = true := by rcases hok with h | h; rw [hko] at h; cases h; exact h
            have := H.trans x b _ hR (hb hko).1 a1 hxb hx
            simp only [a5 rfl] at this
            cases this
    · rw [if_neg hc]
      obtain ⟨h1, h2⟩ := selP_spec H last xs ok b hb
      refine ⟨fun h => ⟨(h1 h).1, fun y hy hRy => ?_⟩, fun h => ?_⟩
      · rcases List.mem_cons.1 hy with rfl | hy
        · have hko := (h1 h).1
          cases hL : last.all (fun z => lt z y) with
          | false => rfl
          | true => exact absurd (by simp [hRy, hL, hko]) hc
        · exact (h1 h).2 y hy hRy
      · obtain ⟨a1, a2, a3, a4, a5⟩ := h2 h
        refine ⟨a1, a2, ?_, ?_, a5⟩
        · rcases a3 with a3 | a3
          · exact .inl (by simp [a3])
          · exact .inr a3
        · intro y hy hRy hLy
          rcases List.mem_cons.1 hy with rfl | hy
          · cases hx : lt y (selP R lt last xs ok b).2 with
            | false => rfl
            | true =>
              cases ok with
              | false => exact absurd (by simp [hRy, hLy]) hc
              | true =>
                have hyb : lt y b = false := by
                  cases h3 : lt y b with
                  | false => rfl
                  | true => exact absurd (by simp [hRy, hLy, h3]) hc
                have hb' := hb rfl
                rcases H.total y b hRy hb'.1 with h4 | h4 | h4
                · rw [hyb] at h4; cases h4
                · subst h4; rw [a5 rfl] at hx; cases hx
                · have := H.trans b y _ hb'.1 hRy a1 h4 hx
                  simp only [a5 rfl] at this
                  cases this
          · exact a4 y hy hRy hLy
theorem nodup_of_lt (H : LtOn (fun a b => lt a b = true) (fun x => R x = true)) {l : List α} (hR : ∀ x ∈ l, R x = true) (h : l.Pairwise (fun a b => lt a b = true)) : l.Nodup := by
  refine h.imp_of_mem (fun {a b} ha hb hab e => ?_)
  subst e
  exact H.irrefl a (hR a ha) hab
theorem length_le_of_nodup : ∀ {l m : List α}, l.Nodup → (∀ x ∈ l, x ∈ m) → l.length ≤ m.length
  | [], _, _, _ => by simp
  | x :: l, m, hn, hs => by
    obtain ⟨A, B, rfl⟩ := List.append_of_mem (hs x (by simp))
    have hn' := List.nodup_cons.1 hn
    have := length_le_of_nodup (l := l) (m := A ++ B) hn'.2 (fun y hy => by
      have := hs y (List.mem_cons_of_mem _ hy)
      simp only [List.mem_append, List.mem_cons] at this ⊢
      rcases this with h | h | h
      · exact .inl h
      · subst h; exact absurd hy hn'.1
      · exact .inr h)
    simp at this ⊢; omega
theorem selL_spec (H : LtOn (fun a b => lt a b = true) (fun x => R x = true)) {w : Nat} (hw : w ≤ 1000) (d : α) (l : List α) (hl : l.length ≤ 1000000000) : ∀ (n : Nat) (out : List α), l.length < n + out.length → out.Pairwise (fun a b => lt a b = true) → (∀ x ∈ out, x ∈ l ∧ R x = true) →
    (∀ x ∈ l, R x = true → x ∈ out ∨ out.getLast?.all (fun y => lt y x) = true) → ∃ s, selL w R lt d l n out = some s ∧ IsSet (fun a b => lt a b = true) (fun x => R x = true) l s
  | 0, out, hn, hp, hm, hc => by
    exfalso
    have := length_le_of_nodup (nodup_of_lt H (fun x hx => (hm x hx).2) hp) (fun x hx => (hm x hx).1)
    omega
  | n + 1, out, hn, hp, hm, hc => by
    rw [selL]
    obtain ⟨h1, h2⟩ := selP_spec H out.getLast? l false d (fun h => by cases h)
    have hlen := length_le_of_nodup (nodup_of_lt H (fun x hx => (hm x hx).2) hp) (fun x hx => (hm x hx).1)
    cases hs : (selP R lt out.getLast? l false d).1 with
    | false =>
      rw [if_pos (by simp)]
      refine ⟨out, rfl, hp, fun x => ⟨hm x, fun hx => ?_⟩⟩
      rcases hc x hx.1 hx.2 with h | h
      · exact h
      · rw [(h1 hs).2 x hx.1 hx.2] at h; cases h
    | true =>
      rw [if_neg (by simp)]
      obtain ⟨a1, a2, a3, a4, _⟩ := h2 hs
      generalize (selP R lt out.getLast? l false d).2 = b at *
      have hbl : b ∈ l := by rcases a3 with h | ⟨h, _⟩; exact h; cases h
      have hout : ∀ y ∈ out, lt y b = true := by
        intro y hy
        obtain ⟨A, z, rfl⟩ : ∃ A z, out = A ++ [z] := by
          rcases List.eq_nil_or_concat out with h | ⟨A, z, h⟩
          · subst h; cases hy
          · exact ⟨A, z, by rw [h]; simp⟩
        simp at a2
        rcases List.mem_append.1 hy with hy | hy
        · have hyz : lt y z = true := (List.pairwise_append.1 hp).2.2 y hy z (by simp)
          exact H.trans y z b (hm y (by simp [hy])).2 (hm z (by simp)).2 a1 hyz a2
        · simp at hy; subst hy; exact a2
      have hp' : (out ++ [b]).Pairwise (fun a b => lt a b = true) := List.pairwise_append.2 ⟨hp, by simp, fun x hx y hy => by simp at hy; subst hy; exact hout x hx⟩
      have hm' : ∀ x ∈ out ++ [b], x ∈ l ∧ R x = true := fun x hx => by
        rcases List.mem_append.1 hx with hx | hx
        · exact hm x hx
        · simp at hx; subst hx; exact ⟨hbl, a1⟩
      have hlen' := length_le_of_nodup (nodup_of_lt H (fun x hx => (hm' x hx).2) hp') (fun x hx => (hm' x hx).1)
      simp at hlen'
      rw [appB_ok (by simp only [List.length_cons, List.length_nil]; have : (out.length + (0 + 1)) * w ≤ 1000000000 * 1000 := Nat.mul_le_mul (by omega) hw; omega) (by simp; omega)]
      simp only [Option.bind_some]
      refine selL_spec H hw d l hl n (out ++ [b]) (by simp; omega) hp' hm' (fun x hx hRx => ?_)
      rcases hc x hx hRx with h | h
      · exact .inl (by simp [h])
      · have h3 := a4 x hx hRx h
        rcases H.total x b hRx a1 with h4 | h4 | h4
        · rw [h3] at h4; cases h4
        · subst h4; exact .inl (by simp)
        · exact .inr (by simp [h4])
end
theorem last_idx {α : Type} (A : List α) (x : α) (hl : A.length < 4611686018427387904) : idx (A ++ [x]) (IntKind.i64.wrap (((A ++ [x]).length : Int) - 1)) = some x := by
  rw [wrap_in (by simp; try omega) (by simp; try omega)]
  rw [idx_mid A x [] _ (by simp; try omega)]
theorem ref05_L2 (out : List Cred) (hl : out.length < 4611686018427387904) : ∀ (l : List Cred) (ok : Bool) (b : Cred), m_ref05_Set_L2 out l ok b = some (selP rightC ltC out.getLast? l ok b)
  | [], ok, b => rfl
  | x :: xs, ok, b => by
    rw [m_ref05_Set_L2, selP]
    have cmp : ∀ a b, ∃ c, m_ref05_Compare a b = some c ∧ decide (c < 0) = ltC a b := fun a b => by
      obtain ⟨c, h1, h2⟩ := m_ref05_Compare_eq a b
      exact ⟨c, h1, by rw [Bool.eq_iff_iff, ← h2]; simp⟩
    rw [m_ref05_Right_eq, ref05_L2 out hl xs true x, ref05_L2 out hl xs ok b]
    obtain ⟨c, h1, h2⟩ := cmp x b
    rcases List.eq_nil_or_concat out with h | ⟨A, z, h⟩
    · subst h
      simp only [h1, Option.bind_some, h2, List.length_nil, Option.all, List.getLast?_nil]
      generalize ltC x b = p
      cases rightC x <;> cases ok <;> cases p <;> simp
    · have h' : out = A ++ [z] := by rw [h]; simp
      obtain ⟨c3, h3, h4⟩ := cmp z x
      have hlast : out.getLast? = some z := by rw [h']; simp
      have hidx : idx out (IntKind.i64.wrap ((out.length : Int) - 1)) = some z := by rw [h']; exact last_idx A z (by rw [h'] at hl; simp at hl; omega)
      have hne : ((out.length : Int) == 0) = false := by rw [h']; simp; omega
      rw [hlast]
      simp only [hne, hidx, h3, h1, Option.bind_some, h2, h4, Option.all]
      rcases Bool.eq_false_or_eq_true (ltC x b) with hp | hp <;> rcases Bool.eq_false_or_eq_true (ltC z x) with hq | hq <;> rcases Bool.eq_false_or_eq_true (rightC x) with hr | hr <;> cases ok <;> simp [hp, hq, hr]
theorem sel05 (a : List Cred) : ∀ (n : Nat) (out s : List Cred), selL 136 rightC ltC (⟨0, ⟨zS, zS⟩, zS, ⟨zS, zS⟩, ⟨zS, zS⟩, zS⟩ : Cred) a n out = some s → s.length < 4611686018427387904 → m_ref05_Set_L1 a n out = some s ∧ out.length ≤ s.length
  | 0, out, s, h, _ => by cases h
  | n + 1, out, s, h, hs => by
    rw [selL] at h
    rw [m_ref05_Set_L1]
    have key : out.length ≤ s.length → m_ref05_Set_L2 out a false (⟨0, ⟨zS, zS⟩, zS, ⟨zS, zS⟩, ⟨zS, zS⟩, zS⟩ : Cred) = _ := fun hl => ref05_L2 out (by omega) a false _
    split at h
    · rename_i h1
      cases h
      rw [key (Nat.le_refl _)]
      simp only [Option.bind_some]
      rw [if_pos h1]
      exact ⟨rfl, Nat.le_refl _⟩
    · rename_i h1
      obtain ⟨o, h2, h3⟩ := bind_some h
      have h4 := sel05 a n o s h3 hs
      have h5 : out.length + 1 = o.length := by
        unfold appB at h2; split at h2
        · cases h2; simp
        · cases h2
      rw [key (by omega)]
      simp only [Option.bind_some]
      rw [if_neg h1, h2]
      exact ⟨h4.1, by omega⟩
abbrev IsSetN (l s : List ByteArray) := IsSet (fun a b => ltS a b = true) (fun x => rightN x = true) l s
abbrev IsSetC (l s : List Cred) := IsSet (fun a b => ltC a b = true) (fun x => rightC x = true) l s
theorem isSet_length {α : Type} {lt : α → α → Bool} {R : α → Bool} (H : LtOn (fun a b => lt a b = true) (fun x => R x = true)) {l s : List α} (h : IsSet (fun a b => lt a b = true) (fun x => R x = true) l s) : s.length ≤ l.length :=
  length_le_of_nodup (nodup_of_lt H (fun x hx => ((h.2 x).1 hx).2) h.1) (fun x hx => ((h.2 x).1 hx).1)
theorem refSetC (l : List Cred) (hl : l.length ≤ 1000000000) : ∃ s, m_ref05_Set l = some s ∧ IsSetC l s := by
  obtain ⟨s, h1, h2⟩ := selL_spec ltOnC (w := 136) (by omega) (⟨0, ⟨zS, zS⟩, zS, ⟨zS, zS⟩, ⟨zS, zS⟩, zS⟩ : Cred) l hl FUEL [] (by rw [FUEL_eq]; omega) (by simp) (by simp) (fun x _ _ => .inr rfl)
  exact ⟨s, (sel05 l FUEL [] s h1 (by have := isSet_length ltOnC h2; omega)).1, h2⟩
end Go.Proofs.YtfjdjbdnnoijgaaGreat
namespace Go.Proofs.YtfjdjbdnnoijgaaGreat
open Go.RowKit
def zC : Cred := ⟨0, ⟨zS, zS⟩, zS, ⟨zS, zS⟩, ⟨zS, zS⟩, zS⟩
theorem delC_eq (f : Cred → Option Bool) : ∀ (n : Nat) (l : List Cred) (i j : Int), m_slices_DeleteFunc_Cred_L1 f n l i j = delL f zC n l i j
  | 0, _, _, _ => rfl
  | n + 1, l, i, j => by
    rw [m_slices_DeleteFunc_Cred_L1, delL]
    simp only [delC_eq f n]
    rfl
theorem idxC_eq (f : Cred → Option Bool) : ∀ (l : List Cred) (i : Nat), m_slices_IndexFunc_Cred_L1 f l i = idxL f l i
  | [], _ => rfl
  | x :: l, i => by rw [m_slices_IndexFunc_Cred_L1, idxL]; simp only [idxC_eq f l]
theorem delFC_eq (f : Cred → Option Bool) (l : List Cred) : m_slices_DeleteFunc_Cred l f = delF f zC l := by
  unfold m_slices_DeleteFunc_Cred delF m_slices_IndexFunc_Cred
  simp only [idxC_eq, delC_eq]
theorem cpt2C_eq (i : Int) : ∀ (n : Nat) (l : List Cred) (k j : Int), m_slices_Compact_Cred_L2 i n l k j = cpt2 beqCred i n l k j
  | 0, _, _, _ => rfl
  | n + 1, l, k, j => by
    rw [m_slices_Compact_Cred_L2, cpt2]
    simp only [cpt2C_eq i n]
theorem cpt1C_eq (l : List Cred) : ∀ (n : Nat) (i : Int), m_slices_Compact_Cred_L1 l n i = cpt1 beqCred zC l n i
  | 0, _ => rfl
  | n + 1, i => by
    rw [m_slices_Compact_Cred_L1, cpt1]
    simp only [cpt1C_eq l n, cpt2C_eq]
    rfl
theorem cptFC_eq (l : List Cred) : m_slices_Compact_Cred l = cptF beqCred zC l := by
  unfold m_slices_Compact_Cred cptF
  simp only [cpt1C_eq]
theorem cpt2S_eq (i : Int) : ∀ (n : Nat) (l : List ByteArray) (k j : Int), m_slices_Compact_string_L2 i n l k j = cpt2 beqS i n l k j
  | 0, _, _, _ => rfl
  | n + 1, l, k, j => by
    rw [m_slices_Compact_string_L2, cpt2]
    simp only [cpt2S_eq i n]
theorem cpt1S_eq (l : List ByteArray) : ∀ (n : Nat) (i : Int), m_slices_Compact_string_L1 l n i = cpt1 beqS zS l n i
  | 0, _ => rfl
  | n + 1, i => by
    rw [m_slices_Compact_string_L1, cpt1]
    simp only [cpt1S_eq l n, cpt2S_eq]
theorem cptFS_eq (l : List ByteArray) : m_slices_Compact_string l = cptF beqS zS l := by
  unfold m_slices_Compact_string cptF
  simp only [cpt1S_eq]
theorem cloneC {l : List Cred} (hl : l.length ≤ 1000000000) : m_slices_Clone_Cred l = some l := by
  unfold m_slices_Clone_Cred
  rw [appB_ok (by simp; omega) (by simp; omega)]
  simp
theorem setC (l : List Cred) (hl : l.length ≤ 1000000000) : ∃ s, m_cred_Set l = some s ∧ IsSetC l s := by
  unfold m_cred_Set
  rw [cloneC hl]
  simp only [Option.bind_some]
  rw [delFC_eq, delF_run _ (fun x => !rightC x) zC l (by omega) (fun x _ => by simp [m_cred_Set_c1, m_cred_Right_eq])]
  simp only [Option.bind_some, Bool.not_not]
  have hf : (l.filter fun x => rightC x).length ≤ l.length := List.length_filter_le _ _
  obtain ⟨s, h1, h2, h3⟩ := sortF_isSet (eq := beqCred) (lt := fun a b => ltC a b = true) (P := fun x => rightC x = true) (cf := fun x => m_cred_Compare x.1 x.2) (l := l.filter fun x => rightC x) (fun x y => beqCred_iff) ltOnC (fun x hx => (List.mem_filter.1 hx).2) (by omega) (fun x y _ _ => m_cred_Compare_eq x y)
  rw [h1]
  simp only [Option.bind_some]
  rw [cptFC_eq, cptF_run _ _ _ (by omega)]
  refine ⟨_, rfl, h3.1, fun x => ?_⟩
  rw [h3.2]
  simp
theorem sortedS_eq (l : List ByteArray) : sortedS l = sorted (fun x => some (if ltS x.1 x.2 then -1 else 0)) l := by
  unfold sortedS sorted
  congr 1
  funext x y
  unfold lessO
  cases h : ltS y x <;> simp [h]
theorem nameSet_L1 : ∀ (l acc : List ByteArray), acc.length + l.length ≤ 1000000000 → m_name_Set_L1 l acc = (sortS (acc ++ l.filter rightN)).bind fun r => m_slices_Compact_string r
  | [], acc, _ => by rw [m_name_Set_L1]; simp
  | x :: l, acc, h => by
    rw [m_name_Set_L1, m_name_Right_eq]
    simp only [Option.bind_some]
    cases hx : rightN x with
    | false =>
      simp only [Bool.false_eq_true, if_false]
      rw [nameSet_L1 l acc (by simp at h; omega)]
      simp [hx]
    | true =>
      simp only [if_true]
      rw [appB_ok (by simp at h ⊢; omega) (by simp at h ⊢; omega)]
      simp only [Option.bind_some]
      rw [nameSet_L1 l (acc ++ [x]) (by simp at h ⊢; omega)]
      simp [hx]
theorem setN (l : List ByteArray) (hl : l.length ≤ 1000000000) : ∃ s, m_name_Set l = some s ∧ IsSetN l s := by
  unfold m_name_Set
  rw [nameSet_L1 l [] (by simpa using hl)]
  simp only [List.nil_append]
  have hf : (l.filter rightN).length ≤ l.length := List.length_filter_le _ _
  unfold sortS
  rw [if_pos (by omega)]
  simp only [Option.bind_some]
  obtain ⟨s, h1, h2, h3⟩ := sortF_isSet (eq := beqS) (lt := fun a b => ltS a b = true) (P := fun x => rightN x = true) (cf := fun x => some (if ltS x.1 x.2 then -1 else 0)) (l := l.filter rightN) (fun x y => beqS_iff) (ltOnS _) (fun x hx => (List.mem_filter.1 hx).2) (by omega) (fun x y _ _ => ⟨_, rfl, by cases h : ltS x y <;> simp [h]⟩)
  have h4 := (sortF_some h1).2
  rw [sortedS_eq, ← h4, cptFS_eq, cptF_run _ _ _ (by omega)]
  refine ⟨_, rfl, h3.1, fun x => ?_⟩
  rw [h3.2]
  simp
end Go.Proofs.YtfjdjbdnnoijgaaGreat
namespace Go.Proofs.YtfjdjbdnnoijgaaGreat
open Go.RowKit
def tt {κ : Type} (ks : List κ) : List (κ × Bool) := ks.map fun k => (k, true)
def hasB {κ : Type} (beq : κ → κ → Bool) (ks : List κ) (k : κ) : Bool := ks.any fun x => beq k x
def ins {κ : Type} (beq : κ → κ → Bool) (ks : List κ) (k : κ) : List κ := if hasB beq ks k then ks else ks ++ [k]
section
variable {κ : Type} {beq : κ → κ → Bool}
theorem hasB_iff (hb : ∀ {x y}, beq x y = true ↔ x = y) (ks : List κ) (k : κ) : hasB beq ks k = true ↔ k ∈ ks := by
  simp [hasB, List.any_eq_true, hb]
theorem mgetD_tt (ks : List κ) (k : κ) : mgetD beq (tt ks) k false = hasB beq ks k := by
  unfold mgetD mget hasB tt
  induction ks with
  | nil => rfl
  | cons x xs ih =>
    simp only [List.map_cons, List.find?_cons, List.any_cons]
    cases h : beq k x with
    | true => simp
    | false => simpa using ih
theorem mput_tt (hb : ∀ {x y}, beq x y = true ↔ x = y) (ks : List κ) (k : κ) : mput beq (tt ks) k true = tt (ins beq ks k) := by
  unfold mput ins
  have hf : (tt ks).findIdx? (fun p => beq k p.1) = ks.findIdx? (fun x => beq k x) := by
    unfold tt; rw [List.findIdx?_map]; rfl
  rw [hf]
  cases h : ks.findIdx? (fun x => beq k x) with
  | none =>
    rw [List.findIdx?_eq_none_iff] at h
    rw [if_neg]
    · simp [tt]
    · intro hh
      unfold hasB at hh
      rw [List.any_eq_true] at hh
      obtain ⟨x, hx, hx2⟩ := hh
      rw [h x hx] at hx2
      cases hx2
  | some i =>
    rw [List.findIdx?_eq_some_iff_getElem] at h
    obtain ⟨hi, h1, _⟩ := h
    have e := hb.1 h1
    rw [if_pos]
    · simp only [tt]
      apply List.ext_getElem?
      intro j
      rw [List.getElem?_set]
      split
      · rename_i hij
        subst hij
        simp [hi, e]
      · rfl
    · unfold hasB
      exact List.any_eq_true.2 ⟨ks[i], List.getElem_mem hi, h1⟩
end
inductive Clo (all : List Cred) (wants : List Role) : Role ⊕ ByteArray ⊕ Cred → Prop
  | want (r : Role) : r ∈ wants → Clo all wants (.inl r)
  | relH (c : Cred) : c ∈ all → Clo all wants (.inl c.Head) → Clo all wants (.inr (.inr c))
  | relW (c : Cred) : c ∈ all → Clo all wants (.inr (.inl c.Head.Word)) → Clo all wants (.inr (.inr c))
  | toB (c : Cred) : Clo all wants (.inr (.inr c)) → c.Kind > 1 → Clo all wants (.inl c.B)
  | toC (c : Cred) : Clo all wants (.inr (.inr c)) → c.Kind = 4 → Clo all wants (.inl c.C)
  | toW (c : Cred) : Clo all wants (.inr (.inr c)) → c.Kind = 3 → Clo all wants (.inr (.inl c.Word2))
structure GInv (all : List Cred) (wants : List Role) (T : List Role) (W : List ByteArray) (R : List Cred) : Prop where
  sT : ∀ r ∈ T, Clo all wants (.inl r)
  sW : ∀ w ∈ W, Clo all wants (.inr (.inl w))
  sR : ∀ c ∈ R, Clo all wants (.inr (.inr c))
  want : ∀ r ∈ wants, r ∈ T
  sub : ∀ c ∈ R, c ∈ all
  nd : R.Nodup
  toB : ∀ c ∈ R, c.Kind > 1 → c.B ∈ T
  toC : ∀ c ∈ R, c.Kind = 4 → c.C ∈ T
  toW : ∀ c ∈ R, c.Kind = 3 → c.Word2 ∈ W
  lT : T.length ≤ wants.length + 2 * R.length
  lW : W.length ≤ R.length
section
variable {all : List Cred} {wants : List Role} {T : List Role} {W : List ByteArray} {R : List Cred}
def rolesOf (c : Cred) : List Role := if c.Kind = 1 then [] else if c.Kind = 4 then [c.B, c.C] else [c.B]
theorem GInv.add (h : GInv all wants T W R) {c : Cred} (hc : c ∈ all) (hk : rightC c = true) (hn : c ∉ R) (hf : c.Head ∈ T ∨ c.Head.Word ∈ W) {T' : List Role} {W' : List ByteArray} (hT : ∀ r, r ∈ T' ↔ r ∈ T ∨ r ∈ rolesOf c) (hW : ∀ w, w ∈ W' ↔ w ∈ W ∨ (c.Kind = 3 ∧ w = c.Word2))
    (lT : T'.length ≤ T.length + 2) (lW : W'.length ≤ W.length + 1) : GInv all wants T' W' (R ++ [c]) := by
  have hcl : Clo all wants (.inr (.inr c)) := by
    rcases hf with hf | hf
    · exact .relH c hc (h.sT _ hf)
    · exact .relW c hc (h.sW _ hf)
  have hkk : c.Kind = 1 ∨ c.Kind = 2 ∨ c.Kind = 3 ∨ c.Kind = 4 := by rcases rightC_cases hk with h | h | h | h <;> simp [h.1]
  refine ⟨fun r hr => ?_, fun w hw => ?_, fun d hd => ?_, fun r hr => (hT r).2 (.inl (h.want r hr)), fun d hd => ?_, ?_, fun d hd hk2 => ?_, fun d hd hk2 => ?_, fun d hd hk2 => ?_, ?_, ?_⟩
  · rcases (hT r).1 hr with hr | hr
    · exact h.sT r hr
    · unfold rolesOf at hr
      split at hr
      · cases hr
      · split at hr
        · rename_i h4
          simp at hr
          rcases hr with rfl | rfl
          · exact .toB c hcl (by omega)
          · exact .toC c hcl h4
        · simp at hr; subst hr; exact .toB c hcl (by omega)
  · rcases (hW w).1 hw with hw | ⟨h3, rfl⟩
    · exact h.sW w hw
    · exact .toW c hcl h3
  · rcases List.mem_append.1 hd with hd | hd
    · exact h.sR d hd
    · simp at hd; subst hd; exact hcl
  · rcases List.mem_append.1 hd with hd | hd
    · exact h.sub d hd
    · simp at hd; subst hd; exact hc
  · exact List.nodup_append.2 ⟨h.nd, by simp, fun a ha b hb => by simp at hb; subst hb; intro e; subst e; exact hn ha⟩
  · rcases List.mem_append.1 hd with hd | hd
    · exact (hT _).2 (.inl (h.toB d hd hk2))
    · simp at hd; subst hd
      refine (hT _).2 (.inr ?_)
      unfold rolesOf
      rw [if_neg (by omega)]
      split <;> simp
  · rcases List.mem_append.1 hd with hd | hd
    · exact (hT _).2 (.inl (h.toC d hd hk2))
    · simp at hd; subst hd
      refine (hT _).2 (.inr ?_)
      unfold rolesOf
      rw [if_neg (by omega), if_pos hk2]
      simp
  · rcases List.mem_append.1 hd with hd | hd
    · exact (hW _).2 (.inl (h.toW d hd hk2))
    · simp at hd; subst hd; exact (hW _).2 (.inr ⟨hk2, rfl⟩)
  · have := h.lT; simp; omega
  · have := h.lW; simp; omega
end
end Go.Proofs.YtfjdjbdnnoijgaaGreat
namespace Go.Proofs.YtfjdjbdnnoijgaaGreat
open Go.RowKit
theorem Clo.mono {all : List Cred} {wants wants' : List Role} (hw : ∀ r ∈ wants, r ∈ wants') {x : Role ⊕ ByteArray ⊕ Cred} (h : Clo all wants x) : Clo all wants' x := by
  induction h with
  | want r hr => exact .want r (hw r hr)
  | relH c hc _ ih => exact .relH c hc ih
  | relW c hc _ ih => exact .relW c hc ih
  | toB c _ hk ih => exact .toB c ih hk
  | toC c _ hk ih => exact .toC c ih hk
  | toW c _ hk ih => exact .toW c ih hk
theorem IsSet.congr {α : Type} {lt : α → α → Prop} {P : α → Prop} {l m s : List α} (h : IsSet lt P l s) (hm : ∀ x, x ∈ l ↔ x ∈ m) : IsSet lt P m s := ⟨h.1, fun x => by rw [h.2, hm]⟩
end Go.Proofs.YtfjdjbdnnoijgaaGreat
namespace Go.Proofs.YtfjdjbdnnoijgaaGreat
open Go.RowKit
theorem great_L1 : ∀ (l : List Cred) (n : Int), 0 ≤ n → n ≤ 4000000000000000000 → (∀ c ∈ l, c.Head.Owner.size + c.Head.Word.size + c.Who.size + c.B.Owner.size + c.B.Word.size + c.C.Owner.size + c.C.Word.size + c.Word2.size ≤ 1000000000) → n + l.length * 1000000020 ≤ 4000000000000000000 →
    ∃ r, m_law05_Great_L1 l n = some r ∧ n + 20 * l.length ≤ r
  | [], n, _, _, _, _ => ⟨n, rfl, by simp⟩
  | c :: l, n, h0, h1, hc, hb => by
    have h := hc c (by simp)
    simp only [List.length_cons] at hb ⊢
    rw [m_law05_Great_L1]
    rw [wrap_in (x := 20 + (c.Head.Owner.size : Int)) (by omega) (by omega), wrap_in (x := 20 + (c.Head.Owner.size : Int) + (c.Head.Word.size : Int)) (by omega) (by omega), wrap_in (x := 20 + (c.Head.Owner.size : Int) + (c.Head.Word.size : Int) + (c.Who.size : Int)) (by omega) (by omega), wrap_in (x := 20 + (c.Head.Owner.size : Int) + (c.Head.Word.size : Int) + (c.Who.size : Int) + (c.B.Owner.size : Int)) (by omega) (by omega), wrap_in (x := 20 + (c.Head.Owner.size : Int) + (c.Head.Word.size : Int) + (c.Who.size : Int) + (c.B.Owner.size : Int) + (c.B.Word.size : Int)) (by omega) (by omega), wrap_in (x := 20 + (c.Head.Owner.size : Int) + (c.Head.Word.size : Int) + (c.Who.size : Int) + (c.B.Owner.size : Int) + (c.B.Word.size : Int) + (c.C.Owner.size : Int)) (by omega) (by omega), wrap_in (x := 20 + (c.Head.Owner.size : Int) + (c.Head.Word.size : Int) + (c.Who.size : Int) + (c.B.Owner.size : Int) + (c.B.Word.size : Int) + (c.C.Owner.size : Int) + (c.C.Word.size : Int)) (by omega) (by omega), wrap_in (x := 20 + (c.Head.Owner.size : Int) + (c.Head.Word.size : Int) + (c.Who.size : Int) + (c.B.Owner.size : Int) + (c.B.Word.size : Int) + (c.C.Owner.size : Int) + (c.C.Word.size : Int) + (c.Word2.size : Int)) (by omega) (by omega), wrap_in (by omega) (by omega)]
    obtain ⟨r, e1, e2⟩ := great_L1 l (n + (20 + (c.Head.Owner.size : Int) + (c.Head.Word.size : Int) + (c.Who.size : Int) + (c.B.Owner.size : Int) + (c.B.Word.size : Int) + (c.C.Owner.size : Int) + (c.C.Word.size : Int) + (c.Word2.size : Int))) (by omega) (by omega) (fun d hd => hc d (by simp [hd])) (by omega)
    exact ⟨r, e1, by omega⟩
def sizeC (c : Cred) : Nat := c.Head.Owner.size + c.Head.Word.size + c.Who.size + c.B.Owner.size + c.B.Word.size + c.C.Owner.size + c.C.Word.size + c.Word2.size
theorem Clo.congr {all : List Cred} {w w' : List Role} (h : ∀ r, r ∈ w ↔ r ∈ w') (x : Role ⊕ ByteArray ⊕ Cred) : Clo all w x ↔ Clo all w' x := ⟨fun hx => hx.mono (fun r hr => (h r).1 hr), fun hx => hx.mono (fun r hr => (h r).2 hr)⟩
end Go.Proofs.YtfjdjbdnnoijgaaGreat
namespace Go.Proofs.YtfjdjbdnnoijgaaGreat
open Go.RowKit
abbrev Tab := List (Role × List ByteArray)
def mm (T : Tab) : List (Role × List (ByteArray × Bool)) := T.map fun p => (p.1, tt p.2)
def FS (T : Tab) : List Fact := T.flatMap fun p => p.2.map fun w => (⟨p.1, w⟩ : Fact)
inductive Der (C : List Cred) : Fact → Prop
  | mem (c) : c ∈ C → c.Kind = 1 → Der C ⟨c.Head, c.Who⟩
  | inc (c w) : c ∈ C → c.Kind = 2 → Der C ⟨c.B, w⟩ → Der C ⟨c.Head, w⟩
  | lnk (c b w) : c ∈ C → c.Kind = 3 → Der C ⟨c.B, b⟩ → Der C ⟨⟨b, c.Word2⟩, w⟩ → Der C ⟨c.Head, w⟩
  | both (c w) : c ∈ C → c.Kind = 4 → Der C ⟨c.B, w⟩ → Der C ⟨c.C, w⟩ → Der C ⟨c.Head, w⟩
theorem Der.mono {C C' : List Cred} (h : ∀ c ∈ C, c ∈ C') {f : Fact} (hf : Der C f) : Der C' f := by
  induction hf with
  | mem c hc hk => exact .mem c (h c hc) hk
  | inc c w hc hk _ ih => exact .inc c w (h c hc) hk ih
  | lnk c b w hc hk _ _ ih1 ih2 => exact .lnk c b w (h c hc) hk ih1 ih2
  | both c w hc hk _ _ ih1 ih2 => exact .both c w (h c hc) hk ih1 ih2
def uni (C : List Cred) : List Fact := (C.map (·.Head)).flatMap fun r => (C.map (·.Who)).map fun w => (⟨r, w⟩ : Fact)
theorem uni_length (C : List Cred) : (uni C).length = C.length * C.length := by
  unfold uni
  have : ∀ l : List Role, (l.flatMap fun r => (C.map (·.Who)).map fun w => (⟨r, w⟩ : Fact)).length = l.length * C.length := fun l => by
    induction l with
    | nil => simp
    | cons x l ih => simp only [List.flatMap_cons, List.length_append, ih, List.length_map, List.length_cons, Nat.add_mul]; omega
  rw [this, List.length_map]
theorem mem_uni {C : List Cred} {r : Role} {w : ByteArray} : (⟨r, w⟩ : Fact) ∈ uni C ↔ (∃ c ∈ C, c.Head = r) ∧ ∃ c ∈ C, c.Who = w := by
  unfold uni
  simp only [List.mem_flatMap, List.mem_map, Fact.mk.injEq]
  constructor
  · rintro ⟨r', ⟨c, hc, rfl⟩, w', ⟨c', hc', rfl⟩, rfl, rfl⟩; exact ⟨⟨c, hc, rfl⟩, c', hc', rfl⟩
  · rintro ⟨⟨c, hc, rfl⟩, c', hc', rfl⟩; exact ⟨_, ⟨c, hc, rfl⟩, _, ⟨c', hc', rfl⟩, rfl, rfl⟩
theorem Der.who {C : List Cred} {f : Fact} (h : Der C f) : ∃ c ∈ C, c.Kind = 1 ∧ c.Who = f.Who := by
  induction h with
  | mem c hc hk => exact ⟨c, hc, hk, rfl⟩
  | inc c w hc hk _ ih => exact ih
  | lnk c b w hc hk _ _ ih1 ih2 => exact ih2
  | both c w hc hk _ _ ih1 ih2 => exact ih1
theorem Der.head {C : List Cred} {f : Fact} (h : Der C f) : ∃ c ∈ C, c.Head = f.Role := by
  cases h with
  | mem c hc hk => exact ⟨c, hc, rfl⟩
  | inc c w hc hk _ => exact ⟨c, hc, rfl⟩
  | lnk c b w hc hk _ _ => exact ⟨c, hc, rfl⟩
  | both c w hc hk _ _ => exact ⟨c, hc, rfl⟩
theorem Der.uni {C : List Cred} {f : Fact} (h : Der C f) : f ∈ uni C := by
  obtain ⟨c, hc, _, hw⟩ := h.who
  exact mem_uni.2 ⟨h.head, c, hc, hw⟩
structure Good (C : List Cred) (T : Tab) (td : List Fact) (n : Int) : Prop where
  keys : (T.map (·.1)).Nodup
  nd : (FS T).Nodup
  tnd : td.Nodup
  sub : ∀ f ∈ td, f ∈ FS T
  num : n = (FS T).length
  der : ∀ f ∈ FS T, Der C f
theorem Good.len {C : List Cred} {T : Tab} {td : List Fact} {n : Int} (h : Good C T td n) : (FS T).length ≤ C.length * C.length := by
  rw [← uni_length]; exact length_le_of_nodup h.nd (fun f hf => (h.der f hf).uni)
theorem Good.mono {C C' : List Cred} {T : Tab} {td : List Fact} {n : Int} (h : Good C T td n) (hc : ∀ c ∈ C, c ∈ C') : Good C' T td n := ⟨h.keys, h.nd, h.tnd, h.sub, h.num, fun f hf => (h.der f hf).mono hc⟩
structure Ext (T : Tab) (td : List Fact) (T' : Tab) (td' : List Fact) : Prop where
  old : ∀ f ∈ FS T, f ∈ FS T'
  todo : ∀ f ∈ td, f ∈ td'
  new : ∀ f ∈ FS T', f ∈ FS T ∨ f ∈ td'
  fresh : ∀ f ∈ td', f ∈ td ∨ f ∉ FS T
theorem Ext.refl (T : Tab) (td : List Fact) : Ext T td T td := ⟨fun _ h => h, fun _ h => h, fun _ h => .inl h, fun _ h => .inl h⟩
theorem Ext.trans {T T' T'' : Tab} {td td' td'' : List Fact} (h : Ext T td T' td') (k : Ext T' td' T'' td'') : Ext T td T'' td'' :=
  ⟨fun f hf => k.old f (h.old f hf), fun f hf => k.todo f (h.todo f hf), fun f hf => by
    rcases k.new f hf with h1 | h1
    · rcases h.new f h1 with h2 | h2
      · exact .inl h2
      · exact .inr (k.todo f h2)
    · exact .inr h1, fun f hf => by
    rcases k.fresh f hf with h1 | h1
    · exact h.fresh f h1
    · exact .inr (fun h2 => h1 (h.old f h2))⟩
def Goes (C : List Cred) (T : Tab) (td : List Fact) (res : Option (List (Role × List (ByteArray × Bool)) × List Fact × Int)) (Q : Tab → Prop) : Prop :=
  ∃ T' td' n', res = some (mm T', td', n') ∧ Good C T' td' n' ∧ Ext T td T' td' ∧ Q T'
theorem Goes.mono {C : List Cred} {T : Tab} {td : List Fact} {res : Option (List (Role × List (ByteArray × Bool)) × List Fact × Int)} {Q Q' : Tab → Prop} (h : Goes C T td res Q) (hq : ∀ T', (∀ f ∈ FS T, f ∈ FS T') → Q T' → Q' T') : Goes C T td res Q' := by
  obtain ⟨T', td', n', h1, h2, h3, h4⟩ := h
  exact ⟨T', td', n', h1, h2, h3, hq T' h3.old h4⟩
def SMALL (C : List Cred) : Prop := C.length ≤ 1000000
theorem SMALL.sq {C : List Cred} (h : SMALL C) : C.length * C.length ≤ 1000000000000 := Nat.mul_le_mul h h
end Go.Proofs.YtfjdjbdnnoijgaaGreat
namespace Go.Proofs.YtfjdjbdnnoijgaaGreat
open Go.RowKit
def Rights (C : List Cred) : Prop := ∀ c ∈ C, rightC c = true
def Done (c : Cred) (f : Fact) (T T' : Tab) : Prop :=
  (c.Kind = 2 → f.Role = c.B → (⟨c.Head, f.Who⟩ : Fact) ∈ FS T') ∧
  (c.Kind = 3 → f.Role = c.B → ∀ w, (⟨⟨f.Who, c.Word2⟩, w⟩ : Fact) ∈ FS T → (⟨c.Head, w⟩ : Fact) ∈ FS T') ∧
  (c.Kind = 4 → (⟨c.B, f.Who⟩ : Fact) ∈ FS T → (⟨c.C, f.Who⟩ : Fact) ∈ FS T → (⟨c.Head, f.Who⟩ : Fact) ∈ FS T')
theorem Done.mono {c : Cred} {f : Fact} {T T' T0 T1 : Tab} (h : Done c f T T') (h0 : ∀ f ∈ FS T0, f ∈ FS T) (h1 : ∀ f ∈ FS T', f ∈ FS T1) : Done c f T0 T1 :=
  ⟨fun a b => h1 _ (h.1 a b), fun a b w hw => h1 _ (h.2.1 a b w (h0 _ hw)), fun a b d => h1 _ (h.2.2 a (h0 _ b) (h0 _ d))⟩
def ClC (c : Cred) (T : Tab) (td : List Fact) : Prop :=
  (c.Kind = 1 → (⟨c.Head, c.Who⟩ : Fact) ∈ FS T) ∧
  (c.Kind = 2 → ∀ w, (⟨c.B, w⟩ : Fact) ∈ FS T → (⟨c.B, w⟩ : Fact) ∉ td → (⟨c.Head, w⟩ : Fact) ∈ FS T) ∧
  (c.Kind = 3 → ∀ b w, (⟨c.B, b⟩ : Fact) ∈ FS T → (⟨c.B, b⟩ : Fact) ∉ td → (⟨⟨b, c.Word2⟩, w⟩ : Fact) ∈ FS T → (⟨⟨b, c.Word2⟩, w⟩ : Fact) ∉ td → (⟨c.Head, w⟩ : Fact) ∈ FS T) ∧
  (c.Kind = 4 → ∀ w, (⟨c.B, w⟩ : Fact) ∈ FS T → (⟨c.B, w⟩ : Fact) ∉ td → (⟨c.C, w⟩ : Fact) ∈ FS T → (⟨c.C, w⟩ : Fact) ∉ td → (⟨c.Head, w⟩ : Fact) ∈ FS T)
theorem ClC.ext {c : Cred} {T T' : Tab} {td td' : List Fact} (h : ClC c T td) (x : Ext T td T' td') : ClC c T' td' := by
  have old : ∀ f, f ∈ FS T' → f ∉ td' → f ∈ FS T ∧ f ∉ td := fun f hf hn => by
    rcases x.new f hf with h1 | h1
    · exact ⟨h1, fun h2 => hn (x.todo f h2)⟩
    · exact absurd h1 hn
  refine ⟨fun k => x.old _ (h.1 k), fun k w a b => ?_, fun k b w a1 a2 a3 a4 => ?_, fun k w a1 a2 a3 a4 => ?_⟩
  · exact x.old _ (h.2.1 k w (old _ a b).1 (old _ a b).2)
  · exact x.old _ (h.2.2.1 k b w (old _ a1 a2).1 (old _ a1 a2).2 (old _ a3 a4).1 (old _ a3 a4).2)
  · exact x.old _ (h.2.2.2 k w (old _ a1 a2).1 (old _ a1 a2).2 (old _ a3 a4).1 (old _ a3 a4).2)
structure Uses (C : List Cred) (us : List (Role × List Cred)) (ws : List (ByteArray × List Cred)) : Prop where
  role : ∀ r c, c ∈ (mget beqRole us r).getD [] ↔ c ∈ C ∧ r ∈ rolesOf c
  word : ∀ w c, c ∈ (mget beqS ws w).getD [] ↔ c ∈ C ∧ c.Kind = 3 ∧ c.Word2 = w
  rlen : ∀ r, ((mget beqRole us r).getD []).length ≤ 2 * C.length
  wlen : ∀ w, ((mget beqS ws w).getD []).length ≤ C.length
end Go.Proofs.YtfjdjbdnnoijgaaGreat
namespace Go.Proofs.YtfjdjbdnnoijgaaGreat
open Go.RowKit
theorem index_C (c : Cred) : ∀ (l : List Cred) (i : Nat), ∃ z, m_slices_Index_Cred_L1 c l i = some z ∧ (z ≥ 0 ↔ c ∈ l)
  | [], i => ⟨-1, rfl, by simp⟩
  | x :: l, i => by
    rw [m_slices_Index_Cred_L1]
    by_cases h : beqCred c x = true
    · rw [if_pos h]
      exact ⟨_, rfl, by simp [beqCred_iff.1 h]⟩
    · rw [if_neg h]
      obtain ⟨z, e, hz⟩ := index_C c l (i + 1)
      refine ⟨z, e, ?_⟩
      rw [hz, List.mem_cons]
      exact ⟨.inr, fun h2 => h2.resolve_left (fun e => h (beqCred_iff.2 e))⟩
theorem cred_Has (c : Cred) (l : List Cred) : ∃ b, m_cred_Has l c = some b ∧ (b = true ↔ c ∈ l) := by
  obtain ⟨z, e, hz⟩ := index_C c l 0
  refine ⟨decide (z ≥ 0), ?_, by simpa using hz⟩
  unfold m_cred_Has m_slices_Contains_Cred m_slices_Index_Cred
  rw [e]
  rfl
structure MS (C : List Cred) (T : Tab) (us : List (Role × List Cred)) (ws : List (ByteArray × List Cred)) (n : Int) : Prop where
  good : Good C T [] n
  cl : ∀ c ∈ C, ClC c T []
  uses : Uses C us ws
  right : Rights C
theorem MS.all {C : List Cred} {T : Tab} {us : List (Role × List Cred)} {ws : List (ByteArray × List Cred)} {n : Int} (h : MS C T us ws n) (f : Fact) : f ∈ FS T ↔ Der C f := by
  refine ⟨h.good.der f, fun hd => ?_⟩
  induction hd with
  | mem c hc hk => exact (h.cl c hc).1 hk
  | inc c w hc hk _ ih => exact (h.cl c hc).2.1 hk w ih (by simp)
  | lnk c b w hc hk _ _ ih1 ih2 => exact (h.cl c hc).2.2.1 hk b w ih1 (by simp) ih2 (by simp)
  | both c w hc hk _ _ ih1 ih2 => exact (h.cl c hc).2.2.2 hk w ih1 (by simp) ih2 (by simp)
theorem Uses.zero : Uses [] [] [] := ⟨fun r c => by simp [mget], fun w c => by simp [mget], fun r => by simp [mget], fun w => by simp [mget]⟩
theorem Good.zero : Good [] [] [] 0 := ⟨by simp, by simp [FS], by simp, by simp, by simp [FS], by simp [FS]⟩
theorem MS.zero : MS [] [] [] [] 0 := ⟨Good.zero, fun c hc => (by cases hc), Uses.zero, fun c hc => (by cases hc)⟩
theorem Der.congr {C C' : List Cred} (h : ∀ c, c ∈ C ↔ c ∈ C') (f : Fact) : Der C f ↔ Der C' f := ⟨fun d => d.mono (fun c hc => (h c).1 hc), fun d => d.mono (fun c hc => (h c).2 hc)⟩
end Go.Proofs.YtfjdjbdnnoijgaaGreat
namespace Go.Proofs.YtfjdjbdnnoijgaaGreat
open Go.RowKit
def ltF (a b : Fact) : Bool := ltR a.Role b.Role || (beqRole a.Role b.Role && ltS a.Who b.Who)
theorem ltF_iff {a b : Fact} : ltF a b = true ↔ ltR a.Role b.Role = true ∨ (a.Role = b.Role ∧ ltS a.Who b.Who = true) := by simp [ltF, beqRole_iff]
def anyF (_ : Fact) : Bool := true
theorem ltOnF : LtOn (fun a b => ltF a b = true) (fun x => anyF x = true) := by
  have H := ltOnR (fun _ => True)
  refine ⟨fun x _ => ?_, fun x y z _ _ _ h1 h2 => ?_, fun x y _ _ => ?_⟩
  · rw [ltF_iff]
    rintro (h | ⟨_, h⟩)
    · exact H.irrefl _ trivial h
    · rw [ltS_irrefl] at h; cases h
  · rw [ltF_iff] at *
    rcases h1 with h1 | ⟨e1, h1⟩
    · rcases h2 with h2 | ⟨e2, h2⟩
      · exact .inl (H.trans _ _ _ trivial trivial trivial h1 h2)
      · exact .inl (by rw [← e2]; exact h1)
    · rcases h2 with h2 | ⟨e2, h2⟩
      · exact .inl (by rw [e1]; exact h2)
      · exact .inr ⟨e1.trans e2, ltS_trans h1 h2⟩
  · simp only [ltF_iff]
    rcases H.total x.Role y.Role trivial trivial with h | h | h
    · exact .inl (.inl h)
    · rcases ltS_total x.Who y.Who with h2 | h2 | h2
      · exact .inl (.inr ⟨h, h2⟩)
      · refine .inr (.inl ?_)
        cases x; cases y; simp at h h2; simp [h, h2]
      · exact .inr (.inr (.inr ⟨h.symm, h2⟩))
    · exact .inr (.inr (.inl h))
def IsF (P : Fact → Prop) (s : List Fact) : Prop := s.Pairwise (fun a b => ltF a b = true) ∧ ∀ f, f ∈ s ↔ P f
theorem IsF.unique {P : Fact → Prop} {s t : List Fact} (h : IsF P s) (k : IsF P t) : s = t :=
  IsSet.unique (l := s) ltOnF ⟨h.1, fun x => ⟨fun hx => ⟨hx, rfl⟩, fun hx => hx.1⟩⟩ ⟨k.1, fun x => by rw [k.2, h.2]; exact ⟨fun hx => ⟨hx, rfl⟩, fun hx => hx.1⟩⟩
def StepP (l : List Fact) (c : Cred) (names : List ByteArray) (w : ByteArray) : Prop :=
  (c.Kind = 1 ∧ c.Who = w) ∨ (c.Kind = 2 ∧ (⟨c.B, w⟩ : Fact) ∈ l) ∨ (c.Kind = 4 ∧ (⟨c.B, w⟩ : Fact) ∈ l ∧ (⟨c.C, w⟩ : Fact) ∈ l) ∨
  (c.Kind ≠ 1 ∧ c.Kind ≠ 2 ∧ c.Kind ≠ 4 ∧ ∃ b ∈ names, (⟨c.B, b⟩ : Fact) ∈ l ∧ (⟨⟨b, c.Word2⟩, w⟩ : Fact) ∈ l)
theorem StepP.der {C : List Cred} {l : List Fact} (hl : ∀ f ∈ l, Der C f) {c : Cred} (hc : c ∈ C) (hk : c.Kind = 1 ∨ c.Kind = 2 ∨ c.Kind = 3 ∨ c.Kind = 4) {names : List ByteArray} {w : ByteArray} (h : StepP l c names w) : Der C ⟨c.Head, w⟩ := by
  rcases h with ⟨k, rfl⟩ | ⟨k, h⟩ | ⟨k, h1, h2⟩ | ⟨k1, k2, k4, b, _, h1, h2⟩
  · exact .mem c hc k
  · exact .inc c w hc k (hl _ h)
  · exact .both c w hc k (hl _ h1) (hl _ h2)
  · exact .lnk c b w hc (by omega) (hl _ h1) (hl _ h2)
theorem right_kind {c : Cred} (h : rightC c = true) : c.Kind = 1 ∨ c.Kind = 2 ∨ c.Kind = 3 ∨ c.Kind = 4 := by rcases rightC_cases h with h | h | h | h <;> simp [h.1]
structure RInv (C : List Cred) (out : List Fact) : Prop where
  nd : out.Nodup
  der : ∀ f ∈ out, Der C f
theorem RInv.len {C : List Cred} {out : List Fact} (h : RInv C out) : out.length ≤ C.length * C.length := by
  rw [← uni_length]; exact length_le_of_nodup h.nd (fun f hf => (h.der f hf).uni)
end Go.Proofs.YtfjdjbdnnoijgaaGreat
namespace Go.Proofs.YtfjdjbdnnoijgaaGreat
open Go.RowKit
def SM (C : List Cred) : Prop := C.length ≤ 30000
theorem SM.sq {C : List Cred} (h : SM C) : C.length * C.length ≤ 900000000 := Nat.mul_le_mul h h
theorem closed_all {C : List Cred} (hR : Rights C) {names : List ByteArray} (hn : ∀ c ∈ C, c.Kind = 1 → c.Who ∈ names) {out : List Fact} (h : ∀ c ∈ C, ∀ w ∈ names, StepP out c names w → (⟨c.Head, w⟩ : Fact) ∈ out) {f : Fact} (hf : Der C f) : f ∈ out := by
  have hw : ∀ f, Der C f → f.Who ∈ names := fun f hf => by
    obtain ⟨c, hc, hk, e⟩ := hf.who
    rw [← e]; exact hn c hc hk
  induction hf with
  | mem c hc hk => exact h c hc _ (hn c hc hk) (.inl ⟨hk, rfl⟩)
  | inc c w hc hk hd ih => exact h c hc w (hw _ hd) (.inr (.inl ⟨hk, ih⟩))
  | lnk c b w hc hk hd1 hd2 ih1 ih2 => exact h c hc w (hw _ hd2) (.inr (.inr (.inr ⟨by omega, by omega, by omega, b, hw _ hd1, ih1, ih2⟩)))
  | both c w hc hk hd1 hd2 ih1 ih2 => exact h c hc w (hw _ hd1) (.inr (.inr (.inl ⟨hk, ih1, ih2⟩)))
end Go.Proofs.YtfjdjbdnnoijgaaGreat
namespace Go.Proofs.YtfjdjbdnnoijgaaGreat
open Go.RowKit
theorem contains_names (f : ByteArray → Option Bool) (p : ByteArray → Bool) : ∀ (l : List ByteArray) (i : Nat), (∀ x ∈ l, f x = some (p x)) → ∃ z, m_slices_IndexFunc_string_L1 f l i = some z ∧ (z ≥ 0 ↔ ∃ x ∈ l, p x = true)
  | [], i, _ => ⟨-1, rfl, by simp⟩
  | x :: l, i, h => by
    rw [m_slices_IndexFunc_string_L1, h x (by simp)]
    simp only [Option.bind_some]
    cases hp : p x with
    | true => exact ⟨_, rfl, by simp [hp]⟩
    | false =>
      obtain ⟨z, e, hz⟩ := contains_names f p l (i + 1) (fun y hy => h y (by simp [hy]))
      exact ⟨z, e, by rw [hz]; simp [hp]⟩
end Go.Proofs.YtfjdjbdnnoijgaaGreat
namespace Go.Proofs.YtfjdjbdnnoijgaaGreat
open Go.RowKit
def brP (c : Cred) (p : Role × ByteArray → Bool) (names : List ByteArray) (w : ByteArray) : Bool :=
  if c.Kind = 1 then beqS c.Who w else if c.Kind = 2 then p (c.B, w) else if c.Kind = 4 then p (c.B, w) && p (c.C, w) else names.any fun b => p (c.B, b) && p (⟨b, c.Word2⟩, w)
theorem brings_ok {f : Role × ByteArray → Option Bool} {p : Role × ByteArray → Bool} (hf : ∀ x, f x = some (p x)) (c : Cred) (names : List ByteArray) (w : ByteArray) : m_model_brings c f names w = some (brP c p names w) := by
  unfold m_model_brings brP
  simp only [hf, Option.bind_some, andS]
  by_cases h1 : c.Kind = 1
  · rw [if_pos (by simp [h1]), if_pos h1]
  rw [if_neg (by simp [h1]), if_neg h1]
  by_cases h2 : c.Kind = 2
  · rw [if_pos (by simp [h2]), if_pos h2]
  rw [if_neg (by simp [h2]), if_neg h2]
  by_cases h4 : c.Kind = 4
  · rw [if_pos (by simp [h4]), if_pos h4]
  rw [if_neg (by simp [h4]), if_neg h4]
  unfold m_slices_ContainsFunc_string m_slices_IndexFunc_string
  obtain ⟨z, e, hz⟩ := contains_names (fun x => m_model_brings_c1 x f c w) (fun b => p (c.B, b) && p (⟨b, c.Word2⟩, w)) names 0 (fun x _ => by
    unfold m_model_brings_c1
    simp only [hf, Option.bind_some, andS])
  rw [e]
  simp only [Option.bind_some]
  congr 1
  rw [Bool.eq_iff_iff, List.any_eq_true]
  simpa using hz
theorem holds_L1 {f : Role × ByteArray → Option Bool} {p : Role × ByteArray → Bool} (hf : ∀ x, f x = some (p x)) (c : Cred) (names : List ByteArray) : ∀ (l : List ByteArray) (acc : List Fact), acc.length + l.length ≤ 1000000000 →
    m_model_Holds_L1 c f names l acc = some (acc ++ (l.filter (brP c p names)).map fun w => (⟨c.Head, w⟩ : Fact))
  | [], acc, _ => by rw [m_model_Holds_L1]; simp
  | x :: l, acc, h => by
    rw [m_model_Holds_L1, brings_ok hf]
    simp only [Option.bind_some, List.length_cons] at h ⊢
    cases hb : brP c p names x with
    | true =>
      simp only [if_true]
      rw [appB_ok (by simp; omega) (by simp; omega)]
      simp only [Option.bind_some]
      rw [holds_L1 hf c names l _ (by simp; omega)]
      simp [hb]
    | false =>
      simp only [Bool.false_eq_true, if_false]
      rw [holds_L1 hf c names l acc (by omega)]
      simp [hb]
theorem holds_ok {f : Role × ByteArray → Option Bool} {p : Role × ByteArray → Bool} (hf : ∀ x, f x = some (p x)) {c : Cred} (hc : rightC c = true) (l : List ByteArray) (hl : l.length ≤ 900000000) :
    ∃ names, IsSetN l names ∧ m_model_Holds c f l = some (((if c.Kind = 1 then [c.Who] else names).filter (brP c p names)).map fun w => (⟨c.Head, w⟩ : Fact)) := by
  obtain ⟨s, e, hs⟩ := setN l (by omega)
  refine ⟨s, hs, ?_⟩
  have hlen : s.length ≤ l.length := isSet_length (ltOnS _) hs
  unfold m_model_Holds
  rw [m_cred_Right_eq, hc]
  simp only [Option.bind_some, Bool.not_true, Bool.false_eq_true, if_false]
  rw [e]
  simp only [Option.bind_some]
  by_cases h1 : c.Kind = 1
  · rw [if_pos (by simp [h1]), if_pos h1]
    simp only [Option.bind_some]
    rw [holds_L1 hf c s _ [] (by simp)]
    simp
  · rw [if_neg (by simp [h1]), if_neg h1]
    simp only [Option.bind_some]
    rw [holds_L1 hf c s _ [] (by simp; omega)]
    simp
end Go.Proofs.YtfjdjbdnnoijgaaGreat
namespace Go.Proofs.YtfjdjbdnnoijgaaGreat
open Go.RowKit
theorem great_up : ∀ (l : List Cred) (n r : Int), 0 ≤ n → (∀ c ∈ l, sizeC c ≤ 1000000000) → n + l.length * 1000000020 ≤ 4000000000000000000 → m_law05_Great_L1 l n = some r → r ≤ n + l.length * 1000000020
  | [], n, r, h0, hc, hb, h => by cases h; simp
  | c :: l, n, r, h0, hc, hb, h => by
    have hh := hc c (by simp)
    unfold sizeC at hh
    simp only [List.length_cons] at hb ⊢
    rw [m_law05_Great_L1] at h
    rw [wrap_in (x := 20 + (c.Head.Owner.size : Int)) (by omega) (by omega), wrap_in (x := 20 + (c.Head.Owner.size : Int) + (c.Head.Word.size : Int)) (by omega) (by omega), wrap_in (x := 20 + (c.Head.Owner.size : Int) + (c.Head.Word.size : Int) + (c.Who.size : Int)) (by omega) (by omega), wrap_in (x := 20 + (c.Head.Owner.size : Int) + (c.Head.Word.size : Int) + (c.Who.size : Int) + (c.B.Owner.size : Int)) (by omega) (by omega), wrap_in (x := 20 + (c.Head.Owner.size : Int) + (c.Head.Word.size : Int) + (c.Who.size : Int) + (c.B.Owner.size : Int) + (c.B.Word.size : Int)) (by omega) (by omega), wrap_in (x := 20 + (c.Head.Owner.size : Int) + (c.Head.Word.size : Int) + (c.Who.size : Int) + (c.B.Owner.size : Int) + (c.B.Word.size : Int) + (c.C.Owner.size : Int)) (by omega) (by omega), wrap_in (x := 20 + (c.Head.Owner.size : Int) + (c.Head.Word.size : Int) + (c.Who.size : Int) + (c.B.Owner.size : Int) + (c.B.Word.size : Int) + (c.C.Owner.size : Int) + (c.C.Word.size : Int)) (by omega) (by omega), wrap_in (x := 20 + (c.Head.Owner.size : Int) + (c.Head.Word.size : Int) + (c.Who.size : Int) + (c.B.Owner.size : Int) + (c.B.Word.size : Int) + (c.C.Owner.size : Int) + (c.C.Word.size : Int) + (c.Word2.size : Int)) (by omega) (by omega), wrap_in (by omega) (by omega)] at h
    have := great_up l _ r (by omega) (fun d hd => hc d (by simp [hd])) (by omega) h
    omega
theorem great_both (l : List Cred) (hl : l.length ≤ 10000000) (hc : ∀ c ∈ l, sizeC c ≤ 1000000000) : ∃ r, m_law05_Great l = some r ∧ 20 * (l.length : Int) ≤ r ∧ r ≤ 100000000000000000 := by
  obtain ⟨r, h, h1⟩ := great_L1 l 0 (by omega) (by omega) hc (by omega)
  exact ⟨r, h, by omega, by have := great_up l 0 r (by omega) hc (by omega) h; omega⟩
end Go.Proofs.YtfjdjbdnnoijgaaGreat
namespace Go.Proofs.YtfjdjbdnnoijgaaGreat
open Go.RowKit
theorem br_step {c : Cred} {p : Role × ByteArray → Bool} {out : List Fact} (hp : ∀ r w, p (r, w) = true ↔ (⟨r, w⟩ : Fact) ∈ out) (s : List ByteArray) (w : ByteArray) : brP c p s w = true ↔ StepP out c s w := by
  unfold brP StepP
  by_cases h1 : c.Kind = 1
  · rw [if_pos h1, beqS_iff]
    constructor
    · intro h; exact .inl ⟨h1, h⟩
    · rintro (h | h | h | h)
      · exact h.2
      · exact absurd (h1.symm.trans h.1) (by decide)
      · exact absurd (h1.symm.trans h.1) (by decide)
      · exact absurd h1 h.1
  rw [if_neg h1]
  by_cases h2 : c.Kind = 2
  · rw [if_pos h2, hp]
    constructor
    · intro h; exact .inr (.inl ⟨h2, h⟩)
    · rintro (h | h | h | h)
      · exact absurd h.1 h1
      · exact h.2
      · exact absurd (h2.symm.trans h.1) (by decide)
      · exact absurd h2 h.2.1
  rw [if_neg h2]
  by_cases h4 : c.Kind = 4
  · rw [if_pos h4, Bool.and_eq_true, hp, hp]
    constructor
    · intro h; exact .inr (.inr (.inl ⟨h4, h⟩))
    · rintro (h | h | h | h)
      · exact absurd h.1 h1
      · exact absurd h.1 h2
      · exact h.2
      · exact absurd h4 h.2.2.1
  rw [if_neg h4, List.any_eq_true]
  constructor
  · rintro ⟨b, hb, h⟩
    rw [Bool.and_eq_true, hp, hp] at h
    exact .inr (.inr (.inr ⟨h1, h2, h4, b, hb, h⟩))
  · rintro (h | h | h | h)
    · exact absurd h.1 h1
    · exact absurd h.1 h2
    · exact absurd h.1 h4
    · obtain ⟨_, _, _, b, hb, h⟩ := h
      exact ⟨b, hb, by rw [Bool.and_eq_true, hp, hp]; exact h⟩
theorem step_der {C : List Cred} {c : Cred} (hc : c ∈ C) (hr : rightC c = true) {out : List Fact} (ho : ∀ f ∈ out, Der C f) {s : List ByteArray} {w : ByteArray} (h : StepP out c s w) : Der C ⟨c.Head, w⟩ := by
  rcases h with ⟨h1, h2⟩ | ⟨h1, h2⟩ | ⟨h1, h2, h3⟩ | ⟨h1, h2, h3, b, _, h4, h5⟩
  · subst h2; exact .mem c hc h1
  · exact .inc c w hc h1 (ho _ h2)
  · exact .both c w hc h1 (ho _ h2) (ho _ h3)
  · have h3' : c.Kind = 3 := by
      rcases rightC_cases hr with h | h | h | h
      · exact absurd h.1 h1
      · exact absurd h.1 h2
      · exact h.1
      · exact absurd h.1 h3
    exact .lnk c b w hc h3' (ho _ h4) (ho _ h5)
theorem holds_any {f : Role × ByteArray → Option Bool} {p : Role × ByteArray → Bool} (hf : ∀ x, f x = some (p x)) {out : List Fact} (hp : ∀ r w, p (r, w) = true ↔ (⟨r, w⟩ : Fact) ∈ out) (c : Cred) {l s : List ByteArray} (hl : l.length ≤ 900000000) (hs : IsSetN l s) :
    ∃ h, m_model_Holds c f l = some h ∧ (∀ g ∈ h, rightC c = true ∧ g.Role = c.Head ∧ StepP out c s g.Who) ∧ (rightC c = true → ∀ w ∈ s, StepP out c s w → (⟨c.Head, w⟩ : Fact) ∈ h) := by
  by_cases hr : rightC c = true
  · obtain ⟨s', hs', e⟩ := holds_ok hf hr l hl
    obtain rfl : s' = s := IsSet.unique (ltOnS _) hs' hs
    refine ⟨_, e, fun g hg => ?_, fun _ w hw hst => ?_⟩
    · obtain ⟨w, hw, rfl⟩ := List.mem_map.1 hg
      exact ⟨hr, rfl, (br_step hp _ _).1 (List.mem_filter.1 hw).2⟩
    · refine List.mem_map.2 ⟨w, List.mem_filter.2 ⟨?_, (br_step hp _ _).2 hst⟩, rfl⟩
      split
      · rename_i h1
        rcases hst with h | h | h | h
        · rw [h.2]; simp
        · exact absurd (h1.symm.trans h.1) (by decide)
        · exact absurd (h1.symm.trans h.1) (by decide)
        · exact absurd h1 h.1
      · exact hw
  · refine ⟨[], ?_, by simp, fun h => absurd h hr⟩
    unfold m_model_Holds
    rw [m_cred_Right_eq]
    simp only [Bool.not_eq_true] at hr
    rw [hr]
    rfl
theorem right_name {c : Cred} (hr : rightC c = true) (hk : c.Kind = 1) : rightN c.Who = true := by
  rcases rightC_cases hr with h | h | h | h
  · exact h.2.1
  · exact absurd (hk.symm.trans h.1) (by decide)
  · exact absurd (hk.symm.trans h.1) (by decide)
  · exact absurd (hk.symm.trans h.1) (by decide)
end Go.Proofs.YtfjdjbdnnoijgaaGreat
namespace Go.Proofs.YtfjdjbdnnoijgaaGreat
open Go.RowKit
def ixG {α : Type} (eq : α → α → Bool) (a : α) : List α → Nat → Option Int
  | [], _ => some (-1)
  | x :: xs, i => if eq a x then some (i : Int) else ixG eq a xs (i + 1)
theorem ixG_spec {α : Type} {eq : α → α → Bool} (he : ∀ {x y}, eq x y = true ↔ x = y) (a : α) : ∀ (l : List α) (i : Nat), ∃ z, ixG eq a l i = some z ∧ (z ≥ 0 ↔ a ∈ l)
  | [], i => ⟨-1, rfl, by simp⟩
  | x :: l, i => by
    rw [ixG]
    by_cases h : eq a x = true
    · rw [if_pos h]; exact ⟨i, rfl, by simp [he.1 h]⟩
    · rw [if_neg h]
      obtain ⟨z, h1, h2⟩ := ixG_spec he a l (i + 1)
      have hne : a ≠ x := fun e => h (he.2 e)
      exact ⟨z, h1, by rw [h2]; simp [hne]⟩
theorem ixF_eq (a : Fact) : ∀ (l : List Fact) (i : Nat), m_slices_Index_Fact_L1 a l i = ixG beqFact a l i
  | [], i => rfl
  | x :: l, i => by rw [m_slices_Index_Fact_L1, ixG, ixF_eq a l]
theorem ixF1_eq (a : Fact) : ∀ (l : List Fact) (i : Nat), m_slices_Index_had_Fact_L1 a l i = ixG beqFact a l i
  | [], i => rfl
  | x :: l, i => by rw [m_slices_Index_had_Fact_L1, ixG, ixF1_eq a l]
open Classical in
theorem contF (l : List Fact) (f : Fact) : m_slices_Contains_Fact l f = some (decide (f ∈ l)) := by
  obtain ⟨z, h1, h2⟩ := ixG_spec (eq := beqFact) beqFact_iff f l 0
  unfold m_slices_Contains_Fact m_slices_Index_Fact
  rw [ixF_eq, h1]
  simp only [Option.bind_some]
  congr 1
  rw [Bool.eq_iff_iff]; simp [h2]
open Classical in
theorem contF1 (l : List Fact) (f : Fact) : m_slices_Contains_had_Fact l f = some (decide (f ∈ l)) := by
  obtain ⟨z, h1, h2⟩ := ixG_spec (eq := beqFact) beqFact_iff f l 0
  unfold m_slices_Contains_had_Fact m_slices_Index_had_Fact
  rw [ixF1_eq, h1]
  simp only [Option.bind_some]
  congr 1
  rw [Bool.eq_iff_iff]; simp [h2]
theorem ixFF_eq (f : Fact → Option Bool) : ∀ (l : List Fact) (i : Nat), m_slices_IndexFunc_had_Fact_L1 f l i = idxL f l i
  | [], i => rfl
  | x :: l, i => by rw [m_slices_IndexFunc_had_Fact_L1, idxL, ixFF_eq f l]
theorem contFF (f : Fact → Option Bool) (p : Fact → Bool) (l : List Fact) (h : ∀ x ∈ l, f x = some (p x)) : m_slices_ContainsFunc_had_Fact l f = some (l.any p) := by
  unfold m_slices_ContainsFunc_had_Fact m_slices_IndexFunc_had_Fact
  rw [ixFF_eq]
  rcases idxL_run f p l 0 h with ⟨h1, h2⟩ | ⟨A, x, B, rfl, h1, h2, h3⟩
  · rw [h1]; simp only [Option.bind_some]; congr 1; rw [Bool.eq_iff_iff]; simp; exact h2
  · rw [h3]; simp only [Option.bind_some]; congr 1; rw [Bool.eq_iff_iff]
    simp [h2]
theorem had_in (l : List Fact) (r : Role) (w : ByteArray) : ∃ b, m_check_had_in l r w = some b ∧ (b = true ↔ (⟨r, w⟩ : Fact) ∈ l) := by
  classical
  refine ⟨_, by unfold m_check_had_in; rw [contF1]; rfl, by simp⟩
def FolP (s : Step) (had : List Fact) : Prop := rightC s.Cred = true ∧ s.Fact.Role = s.Cred.Head ∧ StepP had s.Cred (had.map (·.Who)) s.Fact.Who
theorem FolP.mono {s : Step} {a b : List Fact} (h : FolP s a) (hs : ∀ f ∈ a, f ∈ b) : FolP s b := by
  obtain ⟨h1, h2, h3⟩ := h
  refine ⟨h1, h2, ?_⟩
  rcases h3 with h | h | h | ⟨q1, q2, q3, b', q4, q5, q6⟩
  · exact .inl h
  · exact .inr (.inl ⟨h.1, hs _ h.2⟩)
  · exact .inr (.inr (.inl ⟨h.1, hs _ h.2.1, hs _ h.2.2⟩))
  · exact .inr (.inr (.inr ⟨q1, q2, q3, b', List.mem_map.2 ⟨_, hs _ q5, rfl⟩, hs _ q5, hs _ q6⟩))
theorem FolP.congr {s : Step} {a b : List Fact} (hs : ∀ f, f ∈ a ↔ f ∈ b) : FolP s a ↔ FolP s b := ⟨fun h => h.mono fun f hf => (hs f).1 hf, fun h => h.mono fun f hf => (hs f).2 hf⟩
open Classical in
noncomputable def fol (s : Step) (had : List Fact) : Bool := decide (FolP s had)
theorem fol_iff {s : Step} {had : List Fact} : fol s had = true ↔ FolP s had := by unfold fol; simp
theorem beqRole_ne {a b : Role} (h : a ≠ b) : beqRole a b = false := by
  cases hb : beqRole a b with
  | false => rfl
  | true => exact absurd (beqRole_iff.1 hb) h
theorem follows_ok (s : Step) (had : List Fact) : m_check_Follows s had = some (fol s had) := by
  have key : ∀ b, (b = true ↔ FolP s had) → b = fol s had := fun b h => by rw [Bool.eq_iff_iff, h, fol_iff]
  unfold m_check_Follows
  rw [m_cred_Right_eq]
  simp only [Option.bind_some]
  by_cases hr : rightC s.Cred = true
  · rw [hr]
    simp only [Bool.not_true, Bool.false_eq_true, if_false, Option.bind_some]
    by_cases hh : s.Fact.Role = s.Cred.Head
    · rw [hh, beqRole_refl]
      simp only [Bool.not_true, Bool.false_eq_true, if_false]
      have hk := right_kind hr
      by_cases h1 : s.Cred.Kind = 1
      · rw [if_pos (by simpa using h1)]
        congr 1
        refine key _ ?_
        rw [beqS_iff]
        constructor
        · intro h; exact ⟨hr, hh, .inl ⟨h1, h⟩⟩
        · rintro ⟨_, _, h | h | h | h⟩
          · exact h.2
          · exact absurd (h1.symm.trans h.1) (by decide)
          · exact absurd (h1.symm.trans h.1) (by decide)
          · exact absurd h1 h.1
      rw [if_neg (by simpa using h1)]
      by_cases h2 : s.Cred.Kind = 2
      · rw [if_pos (by simpa using h2), bindS]
        obtain ⟨b, e, hb⟩ := had_in had s.Cred.B s.Fact.Who
        rw [e]; congr 1
        refine key _ ?_
        rw [hb]
        constructor
        · intro h; exact ⟨hr, hh, .inr (.inl ⟨h2, h⟩)⟩
        · rintro ⟨_, _, h | h | h | h⟩
          · exact absurd h.1 h1
          · exact h.2
          · exact absurd (h2.symm.trans h.1) (by decide)
          · exact absurd h2 h.2.1
      rw [if_neg (by simpa using h2)]
      by_cases h3 : s.Cred.Kind = 3
      · rw [if_pos (by simpa using h3), bindS]
        unfold m_check_had_linked
        rw [contFF _ (fun f => beqRole f.Role s.Cred.B && fol ⟨⟨2, ⟨zS, zS⟩, zS, ⟨zS, zS⟩, ⟨zS, zS⟩, zS⟩, ⟨⟨zS, zS⟩, zS⟩⟩ [] || (beqRole f.Role s.Cred.B && hasB beqFact had ⟨⟨f.Who, s.Cred.Word2⟩, s.Fact.Who⟩)) had (fun f hf => by
          unfold m_check_had_linked_c1
          obtain ⟨b, e, hb⟩ := had_in had ⟨f.Who, s.Cred.Word2⟩ s.Fact.Who
          rw [e]
          simp only [Option.bind_some, andS]
          congr 1
          have hz : fol ⟨⟨2, ⟨zS, zS⟩, zS, ⟨zS, zS⟩, ⟨zS, zS⟩, zS⟩, ⟨⟨zS, zS⟩, zS⟩⟩ [] = false := by
            cases hq : fol ⟨⟨2, ⟨zS, zS⟩, zS, ⟨zS, zS⟩, ⟨zS, zS⟩, zS⟩, ⟨⟨zS, zS⟩, zS⟩⟩ [] with
            | false => rfl
            | true => exact absurd (fol_iff.1 hq).1 (by decide +kernel)
          rw [hz, Bool.and_false, Bool.false_or]
          congr 1
          rw [Bool.eq_iff_iff, hb, hasB_iff beqFact_iff])]
        simp only [Option.bind_some]
        congr 1
        refine key _ ?_
        rw [List.any_eq_true]
        have hz : fol ⟨⟨2, ⟨zS, zS⟩, zS, ⟨zS, zS⟩, ⟨zS, zS⟩, zS⟩, ⟨⟨zS, zS⟩, zS⟩⟩ [] = false := by
          cases hq : fol ⟨⟨2, ⟨zS, zS⟩, zS, ⟨zS, zS⟩, ⟨zS, zS⟩, zS⟩, ⟨⟨zS, zS⟩, zS⟩⟩ [] with
          | false => rfl
          | true => exact absurd (fol_iff.1 hq).1 (by decide +kernel)
        simp only [hz, Bool.and_false, Bool.false_or, Bool.and_eq_true, beqRole_iff, hasB_iff beqFact_iff]
        constructor
        · rintro ⟨f, hf, hfr, hff⟩
          refine ⟨hr, hh, .inr (.inr (.inr ⟨h1, h2, fun h => absurd (h3.symm.trans h) (by decide), f.Who, List.mem_map.2 ⟨f, hf, rfl⟩, ?_, hff⟩))⟩
          rw [← hfr]; exact hf
        · rintro ⟨_, _, h | h | h | h⟩
          · exact absurd h.1 h1
          · exact absurd h.1 h2
          · exact absurd (h3.symm.trans h.1) (by decide)
          · obtain ⟨_, _, _, b, _, hb1, hb2⟩ := h
            exact ⟨_, hb1, rfl, hb2⟩
      rw [if_neg (by simpa using h3)]
      have h4 : s.Cred.Kind = 4 := by 
        rcases hk with h | h | h | h
        · exact absurd h h1
        · exact absurd h h2
        · exact absurd h h3
        · exact h
      obtain ⟨b, e, hb⟩ := had_in had s.Cred.B s.Fact.Who
      obtain ⟨c, e2, hc⟩ := had_in had s.Cred.C s.Fact.Who
      rw [e, e2]
      simp only [Option.bind_some, andS]
      congr 1
      refine key _ ?_
      rw [Bool.and_eq_true, hb, hc]
      constructor
      · intro h; exact ⟨hr, hh, .inr (.inr (.inl ⟨h4, h⟩))⟩
      · rintro ⟨_, _, h | h | h | h⟩
        · exact absurd h.1 h1
        · exact absurd h.1 h2
        · exact h.2
        · exact absurd h4 h.2.2.1
    · rw [beqRole_ne hh]
      simp only [Bool.not_false, if_true]
      congr 1
      exact key _ ⟨fun h => (by cases h), fun h => absurd h.2.1 hh⟩
  · simp only [Bool.not_eq_true] at hr
    rw [hr]
    simp only [Bool.not_false, if_true, Option.bind_some]
    congr 1
    exact key _ ⟨fun h => (by cases h), fun h => by rw [h.1] at hr; cases hr⟩
def Stands : List Fact → List Step → Prop
  | _, [] => True
  | had, s :: l => FolP s had ∧ Stands (had ++ [s.Fact]) l
theorem Stands.mono : ∀ {l : List Step} {a b : List Fact}, Stands a l → (∀ f ∈ a, f ∈ b) → Stands b l
  | [], _, _, _, _ => trivial
  | s :: l, a, b, ⟨h1, h2⟩, hs => ⟨h1.mono hs, Stands.mono h2 (fun f hf => by
      rcases List.mem_append.1 hf with hf | hf
      · exact List.mem_append_left _ (hs f hf)
      · exact List.mem_append_right _ hf)⟩
theorem stands_app : ∀ (l m : List Step) (a : List Fact), Stands a (l ++ m) ↔ Stands a l ∧ Stands (a ++ l.map (·.Fact)) m
  | [], m, a => by simp [Stands]
  | s :: l, m, a => by
    simp only [List.cons_append, Stands, stands_app l m, List.map_cons, List.append_assoc, List.nil_append, and_assoc, List.singleton_append]
open Classical in
noncomputable def std (l : List Step) : Bool := decide (Stands [] l)
theorem std_iff {l : List Step} : std l = true ↔ Stands [] l := by unfold std; simp
open Classical in
theorem cstands_L1 : ∀ (l : List Step) (had : List Fact), had.length + l.length ≤ 1000000000 → m_chain_stands_L1 l had = some (decide (Stands had l))
  | [], had, _ => by rw [m_chain_stands_L1]; congr 1; rw [eq_comm, decide_eq_true_iff]; trivial
  | s :: l, had, h => by
    simp only [List.length_cons] at h
    rw [m_chain_stands_L1, follows_ok]
    simp only [Option.bind_some]
    cases hf : fol s had with
    | false =>
      simp only [Bool.not_false, if_true]
      congr 1
      rw [eq_comm, decide_eq_false_iff_not]
      intro hs
      rw [fol_iff.2 hs.1] at hf; cases hf
    | true =>
      simp only [Bool.not_true, Bool.false_eq_true, if_false]
      rw [appB_ok (by simp; omega) (by simp; omega)]
      simp only [Option.bind_some]
      rw [cstands_L1 l _ (by simp; omega)]
      congr 1
      rw [Bool.eq_iff_iff]
      simp [Stands, fol_iff.1 hf]
theorem cstands_ok (l : List Step) (h : l.length ≤ 1000000000) : m_chain_stands l = some (std l) := by
  unfold m_chain_stands; rw [cstands_L1 l [] (by simpa using h)]; rfl
theorem facts_L1 : ∀ (l : List Step) (acc : List Fact), acc.length + l.length ≤ 1000000000 → m_check_facts_L1 l acc = some (acc ++ l.map (·.Fact))
  | [], acc, _ => by rw [m_check_facts_L1]; simp
  | f :: l, acc, h => by
    simp only [List.length_cons] at h
    rw [m_check_facts_L1, appB_ok (by simp; omega) (by simp; omega)]
    simp only [Option.bind_some]
    rw [facts_L1 l _ (by simp; omega)]
    simp
theorem cfacts_ok (l : List Step) (h : l.length ≤ 1000000000) : m_check_facts l = some (l.map (·.Fact)) := by
  unfold m_check_facts; rw [facts_L1 l [] (by simpa using h)]; rfl
theorem take_mid {α : Type} (A B : List α) : (A ++ B).take (Int.toNat (A.length : Int)) = A := by simp
open Classical in
theorem kstands_L1 : ∀ (B A : List Step), m_check_stands_L1 ((A ++ B).map (·.Fact)) B A.length = some (decide (Stands (A.map (·.Fact)) B))
  | [], A => by rw [m_check_stands_L1]; congr 1; rw [eq_comm, decide_eq_true_iff]; trivial
  | s :: B, A => by
    rw [m_check_stands_L1, chk_ok (by omega) (by simp; omega)]
    simp only [Option.bind_some]
    rw [← List.map_take, take_mid, follows_ok]
    simp only [Option.bind_some]
    cases hf : fol s (A.map (·.Fact)) with
    | false =>
      simp only [Bool.not_false, if_true]
      congr 1
      rw [eq_comm, decide_eq_false_iff_not]
      intro hs
      rw [fol_iff.2 hs.1] at hf; cases hf
    | true =>
      simp only [Bool.not_true, Bool.false_eq_true, if_false]
      have := kstands_L1 B (A ++ [s])
      simp only [List.append_assoc, List.cons_append, List.nil_append, List.length_append, List.length_cons, List.length_nil, Nat.zero_add] at this
      rw [this]
      congr 1
      rw [Bool.eq_iff_iff]
      simp [Stands, fol_iff.1 hf]
theorem kstands_ok (l : List Step) (h : l.length ≤ 1000000000) : m_check_stands l = some (std l) := by
  unfold m_check_stands; rw [cfacts_ok l h]
  exact kstands_L1 l []
end Go.Proofs.YtfjdjbdnnoijgaaGreat
namespace Go.Proofs.YtfjdjbdnnoijgaaGreat
open Go.RowKit
theorem cloneSt {l : List Step} (hl : l.length ≤ 1000000000) : m_slices_Clone_Step l = some l := by
  unfold m_slices_Clone_Step
  rw [appB_ok (by simp; omega) (by simp; omega)]
  rfl
theorem chkD {p : Prop} [Decidable p] (h : p) : chk (decide p) = some () := by simp [chk, h]
theorem deleteSt (A : List Step) (x : Step) (B : List Step) (hl : (A ++ x :: B).length ≤ 1000000000) : m_slices_Delete_Step (A ++ x :: B) (A.length : Int) ((A.length : Int) + 1) = some (A ++ B) := by
  have hlen : (A ++ x :: B).length = A.length + (B.length + 1) := by simp
  have e1 : (A ++ x :: B).take (Int.toNat (A.length : Int)) = A := by simp
  have e2 : (A ++ x :: B).drop (Int.toNat ((A.length : Int) + 1)) = B := by
    rw [show Int.toNat ((A.length : Int) + 1) = A.length + 1 by omega, List.drop_append]
    simp
  have e3 : (delB (A ++ x :: B) (Int.toNat (A.length : Int)) (Int.toNat ((A.length : Int) + 1))) = A ++ B ++ (A ++ x :: B).drop ((A ++ x :: B).length - (Int.toNat ((A.length : Int) + 1) - Int.toNat (A.length : Int))) := by
    unfold delB; rw [e1, e2]
  have e4 : (A ++ B ++ (A ++ x :: B).drop ((A ++ x :: B).length - (Int.toNat ((A.length : Int) + 1) - Int.toNat (A.length : Int)))).length = (A ++ x :: B).length := by
    rw [List.length_append, List.length_drop, hlen, List.length_append]; omega
  unfold m_slices_Delete_Step
  rw [chkD (by omega)]
  simp only [Option.bind_some]
  rw [if_neg (by simp; omega), chk_ok (by omega) (by omega), chk_ok (by omega) (by omega), chkD (by omega)]
  simp only [Option.bind_some]
  rw [e1, e2, e3, e4, chkD (by simp; omega)]
  simp only [Option.bind_some]
  congr 1
  unfold clearT
  have h : (Int.toNat ((A ++ B).length : Int)) = (A ++ B).length := by omega
  rw [h, List.take_left, List.take_left]
def Loose (l : List Step) (i : Nat) : Prop := ∃ j, i ≤ j ∧ j + 1 < l.length ∧ Stands [] (l.eraseIdx j)
theorem split_at {α : Type} (l : List α) (i : Nat) (h : i < l.length) : ∃ A x B, l = A ++ x :: B ∧ A.length = i := ⟨l.take i, l[i], l.drop (i + 1), by simp, by simp; omega⟩
theorem erase_mid {α : Type} (A : List α) (x : α) (B : List α) : (A ++ x :: B).eraseIdx A.length = A ++ B := by
  rw [List.eraseIdx_append_of_length_le (Nat.le_refl _)]; simp
theorem Loose.step {l : List Step} {i : Nat} (h : i + 1 < l.length) : Loose l i ↔ Stands [] (l.eraseIdx i) ∨ Loose l (i + 1) := by
  constructor
  · rintro ⟨j, h1, h2, h3⟩
    rcases Nat.eq_or_lt_of_le h1 with rfl | h1
    · exact .inl h3
    · exact .inr ⟨j, h1, h2, h3⟩
  · rintro (h1 | ⟨j, h1, h2, h3⟩)
    · exact ⟨i, Nat.le_refl _, h, h1⟩
    · exact ⟨j, by omega, h2, h3⟩
open Classical in
theorem ktight_L2 (l : List Step) (hl : l.length ≤ 100000000) : ∀ (n i : Nat), l.length < n + i → i ≤ l.length → m_check_Tight_L2 l n (i : Int) = some (if Loose l i then .inl false else .inr ())
  | 0, i, h, hil => by
    omega
  | n + 1, i, h, hil => by
    rw [m_check_Tight_L2, wrap_in (by omega) (by omega)]
    have hm : (if 0 > (l.length : Int) - 1 then 0 else (l.length : Int) - 1) = ((l.length - 1 : Nat) : Int) := by split <;> omega
    rw [hm]
    by_cases hi : i + 1 < l.length
    · rw [if_pos (by simp; omega), cloneSt (by omega)]
      simp only [Option.bind_some]
      obtain ⟨A, x, B, rfl, rfl⟩ := split_at l i (by omega)
      rw [wrap_in (by omega) (by omega), deleteSt A x B (by omega)]
      simp only [Option.bind_some]
      rw [kstands_ok _ (by simp at hl ⊢; omega)]
      simp only [Option.bind_some]
      rw [Loose.step hi, erase_mid]
      cases hs : std (A ++ B) with
      | true => simp [std_iff.1 hs]
      | false =>
        have hn : ¬ Stands [] (A ++ B) := fun h => by rw [std_iff.2 h] at hs; cases hs
        have := ktight_L2 _ hl n (A.length + 1) (by omega) (by omega)
        simp only [Int.natCast_add, Int.natCast_one] at this
        simp only [Bool.false_eq_true, if_false, hn, false_or]
        exact this
    · rw [if_neg (by simp; omega)]
      have hn : ¬ Loose l i := fun ⟨j, h1, h2, _⟩ => by omega
      rw [if_neg hn]
def TightP (l : List Step) : Prop := (l.map (·.Fact)).Nodup ∧ Stands [] l ∧ ¬ Loose l 0
open Classical in
noncomputable def tgt (l : List Step) : Bool := decide (TightP l)
theorem tgt_iff {l : List Step} : tgt l = true ↔ TightP l := by unfold tgt; simp
theorem tight_end (l : List Step) (hn : (l.map (·.Fact)).Nodup) {q : Option (Bool ⊕ Unit)} (hq : q = (open Classical in some (if Loose l 0 then .inl false else .inr ()))) :
    (if (!std l) = true then some false else q.bind fun s => match s with | .inl q380 => some q380 | .inr _ => some true) = some (tgt l) := by
  subst hq
  cases hs : std l with
  | false =>
    simp only [Bool.not_false, if_true]
    congr 1
    rw [Bool.eq_iff_iff, tgt_iff]
    exact ⟨fun h => (by cases h), fun h => by rw [std_iff.2 h.2.1] at hs; cases hs⟩
  | true =>
    simp only [Bool.not_true, Bool.false_eq_true, if_false, Option.bind_some]
    by_cases hL : Loose l 0
    · rw [if_pos hL]
      simp only
      congr 1
      rw [Bool.eq_iff_iff, tgt_iff]
      exact ⟨fun h => (by cases h), fun h => absurd hL h.2.2⟩
    · rw [if_neg hL]
      simp only
      congr 1
      rw [Bool.eq_iff_iff, tgt_iff]
      exact ⟨fun _ => ⟨hn, std_iff.1 hs, hL⟩, fun _ => rfl⟩
theorem ktight_L1 (l : List Step) (hl : l.length ≤ 100000000) : ∀ (B A : List Fact), A ++ B = l.map (·.Fact) → A.Nodup → m_check_Tight_L1 (A ++ B) l B A.length = some (tgt l)
  | [], A, e, hn => by
    rw [m_check_Tight_L1, kstands_ok l (by omega)]
    simp only [Option.bind_some]
    rw [List.append_nil] at e
    exact tight_end l (by rw [← e]; exact hn) (ktight_L2 l hl FUEL 0 (by rw [FUEL_eq]; omega) (by omega))
  | f :: B, A, e, hn => by
    rw [m_check_Tight_L1, chk_ok (by omega) (by simp; omega)]
    simp only [Option.bind_some]
    rw [take_mid, contF]
    simp only [Option.bind_some]
    by_cases hf : f ∈ A
    · rw [if_pos (by simpa using hf)]
      congr 1
      rw [Bool.eq_iff_iff, tgt_iff]
      refine ⟨fun h => (by cases h), fun h => ?_⟩
      have := h.1
      rw [← e] at this
      exact absurd rfl ((List.nodup_append.1 this).2.2 f hf f (by simp))
    · rw [if_neg (by simpa using hf)]
      have := ktight_L1 l hl B (A ++ [f]) (by simpa using e) (List.nodup_append.2 ⟨hn, by simp, fun a ha b hb hab => by rw [List.mem_singleton] at hb; rw [hab, hb] at ha; exact hf ha⟩)
      simpa only [List.append_assoc, List.cons_append, List.nil_append, List.length_append, List.length_cons, List.length_nil, Nat.zero_add] using this
theorem ktight_ok (l : List Step) (hl : l.length ≤ 100000000) : m_check_Tight l = some (tgt l) := by
  unfold m_check_Tight
  rw [cfacts_ok l (by omega)]
  exact ktight_L1 l hl _ [] rfl (by simp)
theorem pass_L2 : ∀ (P S : List Step) (n : Nat), P.length < n → (P ++ S).length ≤ 100000000 → Stands [] (P ++ S) →
    ∃ R, m_chain_tightened_L2 n (P ++ S) ((P.length : Int) - 1) = some (R ++ S) ∧ R.Sublist P ∧ Stands [] (R ++ S) ∧ ∀ R1 x R2, R = R1 ++ x :: R2 → ¬ Stands [] (R1 ++ (R2 ++ S)) := by
  intro P
  induction hk : P.length generalizing P with
  | zero =>
    intro S n hn hl hs
    obtain rfl := List.length_eq_zero_iff.1 hk
    obtain ⟨m, rfl⟩ : ∃ m, n = m + 1 := ⟨n - 1, by omega⟩
    refine ⟨[], ?_, .slnil, hs, fun R1 x R2 h => by simp at h⟩
    rw [m_chain_tightened_L2, if_neg (by simp)]
  | succ k ih =>
    intro S n hn hl hs
    obtain ⟨m, rfl⟩ : ∃ m, n = m + 1 := ⟨n - 1, by omega⟩
    obtain ⟨P0, x, rfl⟩ : ∃ P0 x, P = P0 ++ [x] := by
      rcases List.eq_nil_or_concat P with rfl | ⟨L, y, rfl⟩
      · simp at hk
      · exact ⟨L, y, by simp⟩
    have hP0 : P0.length = k := by simpa using hk
    subst hP0
    have hl' : P0.length + (S.length + 1) ≤ 100000000 := by simp at hl; omega
    simp only [List.append_assoc, List.cons_append, List.nil_append] at hs hl ⊢
    rw [m_chain_tightened_L2, if_pos (by simp), cloneSt (by omega)]
    simp only [Option.bind_some]
    rw [show ((P0.length + 1 : Nat) : Int) - 1 = (P0.length : Int) by omega, wrap_in (by omega) (by omega), deleteSt P0 x S (by omega)]
    simp only [Option.bind_some]
    rw [cstands_ok _ (by simp; omega), wrap_in (by omega) (by omega)]
    simp only [Option.bind_some]
    cases hst : std (P0 ++ S) with
    | true =>
      simp only [if_true, Option.bind_some]
      obtain ⟨R, e, h1, h2, h3⟩ := ih P0 rfl S m (by omega) (by simp; omega) (std_iff.1 hst)
      exact ⟨R, e, h1.trans (List.sublist_append_left _ _), h2, h3⟩
    | false =>
      simp only [Bool.false_eq_true, if_false, Option.bind_some]
      obtain ⟨R, e, h1, h2, h3⟩ := ih P0 rfl (x :: S) m (by omega) (by simp; omega) hs
      refine ⟨R ++ [x], by rw [e]; simp, List.Sublist.append h1 (.refl _), by simpa using h2, fun R1 y R2 hR hstand => ?_⟩
      rcases List.eq_nil_or_concat R2 with rfl | ⟨R2', z, rfl⟩
      · -- x itself
        have : R = R1 ∧ x = y := by
          have := List.append_inj' (t₁ := [x]) (t₂ := [y]) (by simpa using hR) rfl
          exact ⟨this.1, by simpa using this.2⟩
        obtain ⟨rfl, rfl⟩ := this
        simp only [List.nil_append] at hstand
        rw [stands_app] at hs hstand
        have : Stands [] (P0 ++ S) := (stands_app _ _ _).2 ⟨hs.1, hstand.2.mono (fun f hf => by
          simp only [List.nil_append] at hf ⊢
          exact (h1.map _).subset hf)⟩
        rw [std_iff.2 this] at hst; cases hst
      · have hR' : R ++ [x] = (R1 ++ y :: R2') ++ [z] := by simpa using hR
        have := List.append_inj' hR' rfl
        obtain ⟨e1, e2⟩ := this
        simp at e2; subst e2
        exact h3 R1 y R2' e1 (by simpa using hstand)
theorem tight_of {R : List Step} {z : Step} (hn : ((R ++ [z]).map (·.Fact)).Nodup) (hs : Stands [] (R ++ [z])) (h : ∀ R1 x R2, R = R1 ++ x :: R2 → ¬ Stands [] (R1 ++ (R2 ++ [z]))) : TightP (R ++ [z]) := by
  refine ⟨hn, hs, ?_⟩
  rintro ⟨j, _, h1, h2⟩
  have hj : j < R.length := by simp at h1; omega
  obtain ⟨A, x, B, rfl, rfl⟩ := split_at R j hj
  refine h A x B rfl ?_
  have := erase_mid A x (B ++ [z])
  simp only [List.append_assoc, List.cons_append] at h2
  rw [this] at h2
  exact h2
theorem tightened_ok (P : List Step) (z : Step) (hl : (P ++ [z]).length ≤ 10000000) (hn : ((P ++ [z]).map (·.Fact)).Nodup) (hs : Stands [] (P ++ [z])) :
    ∃ R, m_chain_tightened (P ++ [z]) = some (R ++ [z]) ∧ R.Sublist P ∧ TightP (R ++ [z]) := by
  unfold m_chain_tightened
  rw [fuel_big, m_chain_tightened_L1, ktight_ok _ (by omega)]
  simp only [Option.bind_some]
  cases ht : tgt (P ++ [z]) with
  | true =>
    simp only [Bool.not_true, Bool.false_eq_true, if_false]
    exact ⟨P, rfl, .refl _, tgt_iff.1 ht⟩
  | false =>
    simp only [Bool.not_false, if_true]
    have hl' : P.length + 1 ≤ 10000000 := by simpa using hl
    obtain ⟨R, e, h1, h2, h3⟩ := pass_L2 P [z] FUEL (by rw [FUEL_eq]; omega) (by simp; omega) hs
    have hi : IntKind.i64.wrap (((P ++ [z]).length : Int) - 2) = (P.length : Int) - 1 := by rw [wrap_in (by simp; omega) (by simp; omega)]; simp; omega
    rw [hi, e]
    simp only [Option.bind_some]
    have hsub : (R ++ [z]).Sublist (P ++ [z]) := List.Sublist.append h1 (.refl _)
    have hT := tight_of ((hsub.map _).nodup hn) h2 h3
    rw [show (18446744073709551615 : Nat) = 18446744073709551614 + 1 from rfl, m_chain_tightened_L1, ktight_ok _ (by have := hsub.length_le; omega)]
    simp only [Option.bind_some]
    rw [tgt_iff.2 hT]
    simp only [Bool.not_true, Bool.false_eq_true, if_false]
    exact ⟨R, rfl, h1, hT⟩
end Go.Proofs.YtfjdjbdnnoijgaaGreat
namespace Go.Proofs.YtfjdjbdnnoijgaaGreat
open Go.RowKit
def names4 (l : List Cred) : List ByteArray := l.flatMap fun c => [c.Who, c.Head.Owner, c.B.Owner, c.C.Owner]
theorem names4_length (l : List Cred) : (names4 l).length = 4 * l.length := by
  unfold names4
  induction l with
  | nil => rfl
  | cons x l ih => simp [ih]; omega
theorem cnames_L1 : ∀ (l : List Cred) (acc : List ByteArray), acc.length + 4 * l.length ≤ 1000000000 → m_chain_names_L1 l acc = m_name_Set (acc ++ names4 l)
  | [], acc, _ => by rw [m_chain_names_L1, bindS]; simp [names4]
  | c :: l, acc, h => by
    simp only [List.length_cons] at h
    rw [m_chain_names_L1, appB_ok (by simp; omega) (by simp; omega)]
    simp only [Option.bind_some]
    rw [cnames_L1 l _ (by simp; omega)]
    simp [names4]
theorem cnames_ok (l : List Cred) (h : l.length ≤ 10000000) : ∃ s, m_chain_names l = some s ∧ IsSetN (names4 l) s ∧ s.length ≤ 4 * l.length := by
  unfold m_chain_names
  rw [cnames_L1 l [] (by simp; omega)]
  obtain ⟨s, e, hs⟩ := setN ([] ++ names4 l) (by rw [List.nil_append, names4_length]; omega)
  rw [List.nil_append] at hs
  exact ⟨s, e, hs, by rw [← names4_length]; exact isSet_length (ltOnS _) hs⟩
theorem IsSet.self {α : Type} {lt : α → α → Prop} {P : α → Prop} {l s : List α} (h : IsSet lt P l s) : IsSet lt P s s := ⟨h.1, fun x => ⟨fun hx => ⟨hx, ((h.2 x).1 hx).2⟩, fun hx => hx.1⟩⟩
theorem StepP.own {l : List Fact} {c : Cred} {names : List ByteArray} {w : ByteArray} (h : StepP l c names w) : StepP l c (l.map (·.Who)) w := by
  rcases h with h | h | h | ⟨q1, q2, q3, b, _, q5, q6⟩
  · exact .inl h
  · exact .inr (.inl h)
  · exact .inr (.inr (.inl h))
  · exact .inr (.inr (.inr ⟨q1, q2, q3, b, List.mem_map.2 ⟨_, q5, rfl⟩, q5, q6⟩))
theorem StepP.subset {a b : List Fact} {c : Cred} {names : List ByteArray} {w : ByteArray} (h : StepP a c names w) (hs : ∀ f ∈ a, f ∈ b) : StepP b c names w := by
  rcases h with h | h | h | ⟨q1, q2, q3, b', q4, q5, q6⟩
  · exact .inl h
  · exact .inr (.inl ⟨h.1, hs _ h.2⟩)
  · exact .inr (.inr (.inl ⟨h.1, hs _ h.2.1, hs _ h.2.2⟩))
  · exact .inr (.inr (.inr ⟨q1, q2, q3, b', q4, hs _ q5, hs _ q6⟩))
def fcts (l : List Step) : List Fact := l.map (·.Fact)
theorem fcts_app (l m : List Step) : fcts (l ++ m) = fcts l ++ fcts m := by simp [fcts]
structure Grow (C : List Cred) (want : Fact) (out : List Step) : Prop where
  st : Stands [] out
  nd : (fcts out).Nodup
  cr : ∀ s ∈ out, s.Cred ∈ C
  dr : ∀ f ∈ fcts out, Der C f
  no : want ∉ fcts out
theorem Grow.len {C : List Cred} {want : Fact} {out : List Step} (h : Grow C want out) : out.length ≤ C.length * C.length := by
  have h1 : (fcts out).length ≤ (uni C).length := length_le_of_nodup h.nd (fun f hf => (h.dr f hf).uni)
  rw [uni_length] at h1
  simpa [fcts] using h1
structure Got (C : List Cred) (want : Fact) (l : List Step) : Prop where
  st : Stands [] l
  nd : (fcts l).Nodup
  cr : ∀ s ∈ l, s.Cred ∈ C
  dr : Der C want
  len : l.length ≤ C.length * C.length
  last : ∃ P z, l = P ++ [z] ∧ z.Fact = want
theorem ins_new {κ : Type} {beq : κ → κ → Bool} (hb : ∀ {x y}, beq x y = true ↔ x = y) {ks : List κ} {k : κ} (h : k ∉ ks) : ins beq ks k = ks ++ [k] := by
  unfold ins
  rw [if_neg]
  intro hh; exact h ((hasB_iff hb ks k).1 hh)
theorem grown_L3 {C : List Cred} (hC : SM C) (hR : Rights C) {c : Cred} (hc : c ∈ C) (who : List ByteArray) (want : Fact) (out0 : List Step) : ∀ (fs : List Fact) (out : List Step), Grow C want out → (∀ f ∈ fcts out0, f ∈ fcts out) → (∀ f ∈ fs, f.Role = c.Head ∧ StepP (fcts out0) c who f.Who) →
    (∃ l, m_chain_grown_L3 c want fs out (tt (fcts out)) = some (.inl (.inl (l, true))) ∧ Got C want l) ∨
    (∃ e, m_chain_grown_L3 c want fs out (tt (fcts out)) = some (.inr (out ++ e, tt (fcts (out ++ e)))) ∧ Grow C want (out ++ e) ∧ ∀ f ∈ fs, f ∈ fcts (out ++ e))
  | [], out, h, _, _ => .inr ⟨[], by rw [m_chain_grown_L3]; simp, by simpa using h, by simp⟩
  | f :: fs, out, h, hs, hf => by
    rw [m_chain_grown_L3, mgetD_tt]
    by_cases hh : f ∈ fcts out
    · rw [if_pos ((hasB_iff beqFact_iff _ _).2 hh)]
      rcases grown_L3 hC hR hc who want out0 fs out h hs (fun g hg => hf g (by simp [hg])) with h1 | ⟨e, h1, h2, h3⟩
      · exact .inl h1
      · refine .inr ⟨e, h1, h2, fun g hg => ?_⟩
        rcases List.mem_cons.1 hg with rfl | hg
        · rw [fcts_app]; exact List.mem_append_left _ hh
        · exact h3 g hg
    · rw [if_neg (fun hb => hh ((hasB_iff beqFact_iff _ _).1 hb))]
      have hl := h.len
      have hsq := hC.sq
      rw [appB_ok (by simp; omega) (by simp; omega)]
      simp only [Option.bind_some]
      obtain ⟨hr, hst⟩ := hf f (by simp)
      have hst' : StepP (fcts out) c who f.Who := hst.subset hs
      have hder : Der C f := by
        have := step_der hc (hR c hc) h.dr hst'
        rw [← hr] at this; exact this
      have hstand : Stands [] (out ++ [⟨c, f⟩]) := (stands_app _ _ _).2 ⟨h.st, ⟨hR c hc, hr, hst'.own⟩, trivial⟩
      have hnd : (fcts (out ++ [⟨c, f⟩])).Nodup := by
        rw [fcts_app]
        exact List.nodup_append.2 ⟨h.nd, by simp [fcts], fun a ha b hb hab => by
          simp only [fcts, List.map_cons, List.map_nil, List.mem_singleton] at hb
          rw [hab, hb] at ha; exact hh ha⟩
      have hcr : ∀ s ∈ out ++ [⟨c, f⟩], s.Cred ∈ C := fun s hs => by
        rcases List.mem_append.1 hs with hs | hs
        · exact h.cr s hs
        · rw [List.mem_singleton] at hs; rw [hs]; exact hc
      have hdr : ∀ g ∈ fcts (out ++ [⟨c, f⟩]), Der C g := fun g hg => by
        rw [fcts_app] at hg
        rcases List.mem_append.1 hg with hg | hg
        · exact h.dr g hg
        · simp only [fcts, List.map_cons, List.map_nil, List.mem_singleton] at hg
          rw [hg]; exact hder
      by_cases hw : f = want
      · rw [if_pos (beqFact_iff.2 hw)]
        refine .inl ⟨_, rfl, hstand, hnd, hcr, by rw [← hw]; exact hder, ?_, out, _, rfl, hw⟩
        have h1 : (fcts (out ++ [⟨c, f⟩])).length ≤ (uni C).length := length_le_of_nodup hnd (fun g hg => (hdr g hg).uni)
        rw [uni_length] at h1
        simpa [fcts] using h1
      · rw [if_neg (fun hb => hw (beqFact_iff.1 hb)), mput_tt beqFact_iff, ins_new beqFact_iff hh]
        have hg : Grow C want (out ++ [⟨c, f⟩]) := ⟨hstand, hnd, hcr, hdr, fun hh => by
          rw [fcts_app] at hh
          rcases List.mem_append.1 hh with hh | hh
          · exact h.no hh
          · simp only [fcts, List.map_cons, List.map_nil, List.mem_singleton] at hh
            exact hw hh.symm⟩
        have ef : fcts out ++ [f] = fcts (out ++ [⟨c, f⟩]) := by rw [fcts_app]; rfl
        rw [ef]
        rcases grown_L3 hC hR hc who want out0 fs _ hg (fun g hg => by rw [fcts_app]; exact List.mem_append_left _ (hs g hg)) (fun g hg => hf g (by simp [hg])) with h1 | ⟨e, h1, h2, h3⟩
        · exact .inl h1
        · refine .inr ⟨⟨c, f⟩ :: e, by rw [h1]; simp, by simpa using h2, fun g hg => ?_⟩
          rcases List.mem_cons.1 hg with rfl | hg
          · rw [fcts_app]; exact List.mem_append_right _ (by simp [fcts])
          · have := h3 g hg
            simpa using this
def ClosedBy (who : List ByteArray) (cs : List Cred) (F : List Fact) : Prop := ∀ c ∈ cs, ∀ w ∈ who, StepP F c who w → (⟨c.Head, w⟩ : Fact) ∈ F
theorem grown_L2 {C : List Cred} (hC : SM C) (hR : Rights C) {who : List ByteArray} (hw : IsSetN who who) (hwl : who.length ≤ 900000000) (want : Fact) : ∀ (cs : List Cred) (out : List Step), (∀ c ∈ cs, c ∈ C) → Grow C want out →
    (∃ l, m_chain_grown_L2 who want cs out (tt (fcts out)) = some (.inl (l, true)) ∧ Got C want l) ∨
    (∃ e, m_chain_grown_L2 who want cs out (tt (fcts out)) = some (.inr (out ++ e, tt (fcts (out ++ e)))) ∧ Grow C want (out ++ e) ∧ (e = [] → ClosedBy who cs (fcts out)))
  | [], out, _, h => .inr ⟨[], by rw [m_chain_grown_L2]; simp, by simpa using h, fun _ c hc => by cases hc⟩
  | c :: cs, out, hcs, h => by
    rw [m_chain_grown_L2]
    obtain ⟨fs, e0, a1, a2⟩ := holds_any (f := fun x => m_chain_grown_c1 x.1 x.2 (tt (fcts out))) (p := fun x => hasB beqFact (fcts out) ⟨x.1, x.2⟩) (fun x => by unfold m_chain_grown_c1; rw [mgetD_tt]) (out := fcts out) (fun r w => hasB_iff beqFact_iff _ _) c hwl hw
    rw [e0]
    simp only [Option.bind_some]
    rcases grown_L3 hC hR (hcs c (by simp)) who want out fs out h (fun _ h => h) (fun f hf => (a1 f hf).2) with ⟨l, h1, h2⟩ | ⟨e, h1, h2, h3⟩
    · rw [h1]
      exact .inl ⟨l, rfl, h2⟩
    · rw [h1]
      simp only [Option.bind_some]
      rcases grown_L2 hC hR hw hwl want cs _ (fun x hx => hcs x (by simp [hx])) h2 with ⟨l, k1, k2⟩ | ⟨e2, k1, k2, k3⟩
      · exact .inl ⟨l, k1, k2⟩
      · refine .inr ⟨e ++ e2, by rw [k1]; simp, by simpa using k2, fun he => ?_⟩
        obtain ⟨rfl, rfl⟩ := List.append_eq_nil_iff.1 he
        simp only [List.append_nil] at h3 k3
        intro c' hc' w hwm hst
        rcases List.mem_cons.1 hc' with rfl | hc'
        · exact h3 _ (a2 (hR _ (hcs _ (by simp))) w hwm hst)
        · exact k3 trivial c' hc' w hwm hst
theorem grown_L1 {C : List Cred} (hC : SM C) (hR : Rights C) {who : List ByteArray} (hw : IsSetN who who) (hwl : who.length ≤ 900000000) (hn : ∀ c ∈ C, c.Kind = 1 → c.Who ∈ who) (want : Fact) : ∀ (n : Nat) (out : List Step) (x : Int), Grow C want out → x ≤ out.length → (x = out.length → ClosedBy who C (fcts out)) → ((C.length * C.length : Nat) : Int) < n + x →
    (∃ l, m_chain_grown_L1 who want C n out x (tt (fcts out)) = some (l, true) ∧ Got C want l) ∨ (m_chain_grown_L1 who want C n out x (tt (fcts out)) = some ([], false) ∧ ¬ Der C want)
  | 0, out, x, h, hx, _, hf => by
    have := h.len
    omega
  | n + 1, out, x, h, hx, hcl, hf => by
    rw [m_chain_grown_L1]
    by_cases hlt : x < out.length
    · rw [if_pos (by simpa using hlt)]
      rcases grown_L2 hC hR hw hwl want C out (fun _ h => h) h with ⟨l, k1, k2⟩ | ⟨e, k1, k2, k3⟩
      · rw [k1]
        exact .inl ⟨l, rfl, k2⟩
      · rw [k1]
        simp only [Option.bind_some]
        refine grown_L1 hC hR hw hwl hn want n (out ++ e) out.length k2 (by rw [List.length_append]; omega) (fun he => ?_) (by omega)
        have : e = [] := List.eq_nil_of_length_eq_zero (by simp at he; omega)
        subst this
        rw [List.append_nil]
        exact k3 rfl
    · rw [if_neg (by simpa using hlt)]
      refine .inr ⟨rfl, fun hd => h.no ?_⟩
      exact closed_all hR hn (hcl (by omega)) hd
theorem grown_ok (l : List Cred) (hl : l.length ≤ 30000) (want : Fact) : ∃ C, IsSetC l C ∧ ((∃ o, m_chain_grown l want = some (o, true) ∧ Got C want o) ∨ (m_chain_grown l want = some ([], false) ∧ ¬ Der C want)) := by
  obtain ⟨C, e1, hC⟩ := setC l (by omega)
  obtain ⟨who, e2, hw, hwl⟩ := cnames_ok l (by omega)
  have hCl : C.length ≤ l.length := isSet_length ltOnC hC
  have hSM : SM C := by unfold SM; omega
  have hR : Rights C := fun c hc => ((hC.2 c).1 hc).2
  refine ⟨C, hC, ?_⟩
  unfold m_chain_grown
  rw [e1, e2]
  simp only [Option.bind_some]
  have hsq := hSM.sq
  exact grown_L1 hSM hR hw.self (by omega) (fun c hc hk => (hw.2 _).2 ⟨List.mem_flatMap.2 ⟨c, ((hC.2 c).1 hc).1, by simp⟩, right_name (hR c hc) hk⟩) want FUEL [] (-1) ⟨trivial, by simp [fcts], by simp, by simp [fcts], by simp [fcts]⟩ (by simp) (by simp) (by rw [FUEL_eq]; omega)
structure Found (C : List Cred) (want : Fact) (l : List Step) : Prop where
  tg : TightP l
  cr : ∀ s ∈ l, s.Cred ∈ C
  dr : Der C want
  len : l.length ≤ C.length * C.length
  last : ∃ P z, l = P ++ [z] ∧ z.Fact = want
theorem find_ok (l : List Cred) (hl : l.length ≤ 3000) (want : Fact) : ∃ C, IsSetC l C ∧ ((∃ o, m_chain_Find l want = some (o, true) ∧ Found C want o) ∨ (m_chain_Find l want = some ([], false) ∧ ¬ Der C want)) := by
  obtain ⟨C, hC, h⟩ := grown_ok l (by omega) want
  refine ⟨C, hC, ?_⟩
  have hCl : C.length ≤ l.length := isSet_length ltOnC hC
  have hsq : C.length * C.length ≤ 3000 * 3000 := Nat.mul_le_mul (by omega) (by omega)
  unfold m_chain_Find
  rcases h with ⟨o, e, g⟩ | ⟨e, g⟩
  · rw [e]
    simp only [Option.bind_some, Bool.not_true, Bool.false_eq_true, if_false]
    obtain ⟨P, z, rfl, hz⟩ := g.last
    have hlen := g.len
    obtain ⟨R, e1, h1, h2⟩ := tightened_ok P z (by omega) g.nd g.st
    rw [e1]
    simp only [Option.bind_some]
    have hsub : (R ++ [z]).Sublist (P ++ [z]) := List.Sublist.append h1 (.refl _)
    exact .inl ⟨_, rfl, h2, fun s hs => g.cr s (hsub.subset hs), g.dr, by have := hsub.length_le; omega, R, z, rfl, hz⟩
  · rw [e]
    exact .inr ⟨rfl, g⟩
end Go.Proofs.YtfjdjbdnnoijgaaGreat
namespace Go.Proofs.YtfjdjbdnnoijgaaGreat
open Go.RowKit
def mrg : List Step → List Step → List Step
  | [], acc => acc
  | s :: l, acc => if hasB beqFact (fcts acc) s.Fact then mrg l acc else mrg l (acc ++ [s])
theorem mrg_app : ∀ (l m acc : List Step), mrg (l ++ m) acc = mrg m (mrg l acc)
  | [], m, acc => rfl
  | s :: l, m, acc => by
    simp only [List.cons_append, mrg]
    split <;> exact mrg_app l m _
theorem mrg_length : ∀ (l acc : List Step), (mrg l acc).length ≤ acc.length + l.length
  | [], acc => by simp [mrg]
  | s :: l, acc => by
    rw [mrg]
    split
    · have := mrg_length l acc; simp; omega
    · have := mrg_length l (acc ++ [s]); simp at this ⊢; omega
theorem merge_L1 : ∀ (l acc : List Step), acc.length + l.length ≤ 100000000 → m_chain_Merge_L1 l (tt (fcts acc)) acc = some (mrg l acc)
  | [], acc, _ => by rw [m_chain_Merge_L1]; rfl
  | s :: l, acc, h => by
    simp only [List.length_cons] at h
    rw [m_chain_Merge_L1, mgetD_tt, mrg]
    by_cases hb : s.Fact ∈ fcts acc
    · rw [(hasB_iff beqFact_iff _ _).2 hb]
      simp only [Bool.not_true, Bool.false_eq_true, if_false, if_true]
      exact merge_L1 l acc (by omega)
    · have hb' : hasB beqFact (fcts acc) s.Fact = false := by
        cases hh : hasB beqFact (fcts acc) s.Fact with
        | false => rfl
        | true => exact absurd ((hasB_iff beqFact_iff _ _).1 hh) hb
      rw [hb']
      simp only [Bool.not_false, if_true, Bool.false_eq_true, if_false]
      rw [appB_ok (by simp; omega) (by simp; omega)]
      simp only [Option.bind_some]
      rw [mput_tt beqFact_iff, ins_new beqFact_iff hb, show fcts acc ++ [s.Fact] = fcts (acc ++ [s]) by rw [fcts_app]; rfl]
      exact merge_L1 l _ (by simp; omega)
theorem chkD2 {b : Bool} (h : b = true) : chk b = some () := by simp [chk, h]
theorem grow_nilSt (n : Nat) (hn : n ≤ 1000000000) : m_slices_Grow_Step_nil (n : Int) = some [] := by
  unfold m_slices_Grow_Step_nil
  rw [show IntKind.i64.wrap (0 - 0) = 0 by decide, wrap_in (by omega) (by omega), if_neg (by simp), Int.sub_zero]
  by_cases h : (n : Int) > 0
  · rw [if_pos (by simp; omega)]
    unfold makeB
    rw [if_pos ⟨by omega, by omega, by unfold maxLen; omega⟩]
    simp only [Option.bind_some]
    rw [chkD2 (by simp)]
    simp
  · rw [if_neg (by simp; omega)]; simp
def tot {α : Type} (ls : List (List α)) : Nat := (ls.map List.length).sum
theorem concat_L2 : ∀ (ls : List (List Step)) (acc : List Step), acc.length + tot ls ≤ 100000000 → m_slices_Concat_Step_L2 ls acc = some (acc ++ ls.flatten)
  | [], acc, _ => by rw [m_slices_Concat_Step_L2]; simp
  | l :: ls, acc, h => by
    simp only [tot, List.map_cons, List.sum_cons] at h
    rw [m_slices_Concat_Step_L2, appB_ok (by omega) (by omega)]
    simp only [Option.bind_some]
    rw [concat_L2 ls _ (by simp only [tot, List.length_append]; omega)]
    simp
theorem concat_L1 (a0 : List (List Step)) (h0 : tot a0 ≤ 100000000) : ∀ (ls : List (List Step)) (n : Nat), n + tot ls ≤ 100000000 → m_slices_Concat_Step_L1 a0 ls (n : Int) = some a0.flatten
  | [], n, h => by
    rw [m_slices_Concat_Step_L1, grow_nilSt n (by omega)]
    simp only [Option.bind_some, bindS]
    rw [concat_L2 a0 [] (by simpa using h0)]; simp
  | l :: ls, n, h => by
    simp only [tot, List.map_cons, List.sum_cons] at h
    rw [m_slices_Concat_Step_L1, wrap_in (by omega) (by omega), if_neg (by simp; omega)]
    have := concat_L1 a0 h0 ls (n + l.length) (by simp only [tot]; omega)
    simpa using this
theorem concatSt (a0 : List (List Step)) (h0 : tot a0 ≤ 100000000) : m_slices_Concat_Step a0 = some a0.flatten := concat_L1 a0 h0 a0 0 (by omega)
theorem flatten_length {α : Type} (ls : List (List α)) : ls.flatten.length = tot ls := by simp [tot, List.length_flatten]
theorem merge_ok (ls : List (List Step)) (h0 : tot ls ≤ 100000000) : m_chain_Merge ls = some (mrg ls.flatten []) := by
  unfold m_chain_Merge
  rw [concatSt ls h0]
  simp only [Option.bind_some]
  exact merge_L1 _ [] (by rw [flatten_length]; simpa using h0)
theorem used_L1 : ∀ (l : List Step) (acc : List Cred), acc.length + l.length ≤ 100000000 → m_chain_Used_L1 l acc = m_cred_Set (acc ++ l.map (·.Cred))
  | [], acc, _ => by rw [m_chain_Used_L1, bindS]; simp
  | s :: l, acc, h => by
    simp only [List.length_cons] at h
    rw [m_chain_Used_L1, appB_ok (by simp; omega) (by simp; omega)]
    simp only [Option.bind_some]
    rw [used_L1 l _ (by simp; omega)]
    simp
theorem rused_L1 : ∀ (l : List Step) (acc : List Cred), acc.length + l.length ≤ 100000000 → m_ref10_Used_L1 l acc = m_ref05_Set (acc ++ l.map (·.Cred))
  | [], acc, _ => by rw [m_ref10_Used_L1, bindS]; simp
  | s :: l, acc, h => by
    simp only [List.length_cons] at h
    rw [m_ref10_Used_L1, appB_ok (by simp; omega) (by simp; omega)]
    simp only [Option.bind_some]
    rw [rused_L1 l _ (by simp; omega)]
    simp
theorem used_ok (l : List Step) (h : l.length ≤ 100000000) : ∃ s, m_chain_Used l = some s ∧ m_ref10_Used l = some s ∧ IsSetC (l.map (·.Cred)) s := by
  unfold m_chain_Used m_ref10_Used
  rw [used_L1 l [] (by simpa using h), rused_L1 l [] (by simpa using h)]
  obtain ⟨s, e1, h1⟩ := setC ([] ++ l.map (·.Cred)) (by simp; omega)
  obtain ⟨t, e2, h2⟩ := refSetC ([] ++ l.map (·.Cred)) (by simp; omega)
  have : t = s := IsSet.unique ltOnC h2 h1
  subst this
  exact ⟨t, e1, e2, h1⟩
def fM : Fact := ⟨kC1.Head, kC1.Who⟩
where kC1 : Cred := ⟨1, ⟨⟨#[98]⟩, ⟨#[115]⟩⟩, ⟨#[100]⟩, ⟨zS, zS⟩, ⟨zS, zS⟩, zS⟩
theorem kC1r : rightC fM.kC1 = true := by decide +kernel
theorem setOne {c : Cred} (hc : rightC c = true) {C : List Cred} (h : IsSetC [c] C) : C = [c] :=
  (IsSet.unique ltOnC h ⟨by simp, fun x => by
    constructor
    · intro hx; rw [List.mem_singleton] at hx; subst hx; exact ⟨by simp, hc⟩
    · intro hx; exact hx.1⟩)
theorem first10 : m_law10_first = some true := by
  obtain ⟨C, hC, h⟩ := find_ok [fM.kC1] (by simp) fM
  obtain rfl := setOne kC1r hC
  have hd : Der [fM.kC1] fM := .mem fM.kC1 (by simp) rfl
  obtain ⟨C0, hC0, h0⟩ := find_ok [] (by simp) fM
  have hC0' : C0 = [] := List.eq_nil_of_length_eq_zero (by have := isSet_length ltOnC hC0; simpa using this)
  subst hC0'
  rcases h with ⟨o, e, g⟩ | ⟨_, g⟩
  case inr => exact absurd hd g
  rcases h0 with ⟨_, _, g0⟩ | ⟨e0, _⟩
  case inl => obtain ⟨c, hc, _⟩ := g0.dr.who; cases hc
  have ho : o = [⟨fM.kC1, fM⟩] := by
    obtain ⟨P, z, rfl, hz⟩ := g.last
    have hl := g.len
    simp at hl
    subst hl
    have := g.cr z (by simp)
    rw [List.mem_singleton] at this
    cases z
    simp only at hz this
    subst hz; subst this; rfl
  subst ho
  unfold m_law10_first
  have e' : m_chain_Find [(⟨1, (⟨(⟨#[98]⟩ : ByteArray), (⟨#[115]⟩ : ByteArray)⟩ : Role), (⟨#[100]⟩ : ByteArray), (⟨zS, zS⟩ : Role), (⟨zS, zS⟩ : Role), zS⟩ : Cred)] ((⟨(⟨(⟨#[98]⟩ : ByteArray), (⟨#[115]⟩ : ByteArray)⟩ : Role), (⟨#[100]⟩ : ByteArray)⟩ : Fact)) = some ([⟨fM.kC1, fM⟩], true) := e
  have e0' : m_chain_Find [] ((⟨(⟨(⟨#[98]⟩ : ByteArray), (⟨#[115]⟩ : ByteArray)⟩ : Role), (⟨#[100]⟩ : ByteArray)⟩ : Fact)) = some ([], false) := e0
  rw [e', e0']
  obtain ⟨s, u1, _, u3⟩ := used_ok [⟨fM.kC1, fM⟩] (by simp)
  obtain rfl : s = [fM.kC1] := setOne kC1r u3
  have hm := merge_ok [[(⟨fM.kC1, fM⟩ : Step)], [⟨fM.kC1, fM⟩]] (by simp [tot])
  have hm2 : mrg ([[(⟨fM.kC1, fM⟩ : Step)], [⟨fM.kC1, fM⟩]].flatten) [] = [⟨fM.kC1, fM⟩] := by
    simp only [List.flatten_cons, List.flatten_nil, List.append_nil, List.cons_append, List.nil_append, mrg]
    rw [if_neg (by simp [fcts, hasB]), if_pos ((hasB_iff beqFact_iff _ _).2 (by simp [fcts]))]
  rw [hm2] at hm
  simp only [Option.bind_some, u1, hm, Bool.not_false, if_true, List.length_cons, List.length_nil]
  rw [show idx [(⟨fM.kC1, fM⟩ : Step)] 0 = some ⟨fM.kC1, fM⟩ from rfl]
  simp only [Option.bind_some]
  have hb : beqStep ⟨fM.kC1, fM⟩ ((⟨(⟨1, (⟨(⟨#[98]⟩ : ByteArray), (⟨#[115]⟩ : ByteArray)⟩ : Role), (⟨#[100]⟩ : ByteArray), (⟨zS, zS⟩ : Role), (⟨zS, zS⟩ : Role), zS⟩ : Cred), (⟨(⟨(⟨#[98]⟩ : ByteArray), (⟨#[115]⟩ : ByteArray)⟩ : Role), (⟨#[100]⟩ : ByteArray)⟩ : Fact)⟩ : Step)) = true := beqStep_iff.2 rfl
  rw [hb]
  simp
end Go.Proofs.YtfjdjbdnnoijgaaGreat
namespace Go.Proofs.YtfjdjbdnnoijgaaGreat
open Go.RowKit
theorem stands_mid {A B : List Step} {s : Step} {a : List Fact} (h : Stands a (A ++ s :: B)) : FolP s (a ++ fcts A) := by
  have := ((stands_app A (s :: B) a).1 h).2
  exact this.1
theorem kcheck_L1 (l : List Step) (C : List Cred) (want : Fact) (hl : l.length ≤ 100000000) (hc : ∀ s ∈ l, s.Cred ∈ C) (hs : Stands [] l) (hw : want ∈ fcts l) : ∀ (B A : List Step), A ++ B = l → m_check_Check_L1 C (fcts l) want l B A.length = some ((l.length : Int), 0)
  | [], A, e => by
    rw [m_check_Check_L1, contF]
    simp [hw]
  | s :: B, A, e => by
    have hAl : A.length ≤ l.length := by have := congrArg List.length e; simp at this; omega
    obtain ⟨b, e1, hb⟩ := cred_Has s.Cred C
    have : b = true := hb.2 (hc s (by rw [← e]; simp))
    subst this
    rw [m_check_Check_L1, e1, chk_ok (by omega) (by simp [fcts]; omega)]
    simp only [Option.bind_some, Bool.not_true, Bool.false_eq_true, if_false]
    have ht : (fcts l).take (Int.toNat (A.length : Int)) = fcts A := by rw [← e, fcts_app]; have := take_mid (fcts A) (fcts (s :: B)); simpa [fcts] using this
    rw [ht, follows_ok]
    have hf : fol s (fcts A) = true := fol_iff.2 (by have := stands_mid (A := A) (B := B) (s := s) (a := []) (by rw [e]; exact hs); simpa using this)
    rw [hf]
    simp only [Option.bind_some, Bool.not_true, Bool.false_eq_true, if_false]
    have := kcheck_L1 l C want hl hc hs hw B (A ++ [s]) (by simpa using e)
    simpa only [List.length_append, List.length_cons, List.length_nil, Nat.zero_add] using this
theorem kcheck_ok (l : List Step) (C : List Cred) (want : Fact) (hl : l.length ≤ 100000000) (hc : ∀ s ∈ l, s.Cred ∈ C) (hs : Stands [] l) (hw : want ∈ fcts l) : m_check_Check l C want = some ((l.length : Int), 0) := by
  unfold m_check_Check
  rw [cfacts_ok l (by omega)]
  exact kcheck_L1 l C want hl hc hs hw l [] rfl
theorem Found.want_in {C : List Cred} {want : Fact} {o : List Step} (g : Found C want o) : want ∈ fcts o := by
  obtain ⟨P, z, rfl, hz⟩ := g.last
  rw [fcts_app]; exact List.mem_append_right _ (by simp [fcts, hz])
theorem mrg_stands : ∀ (l acc : List Step) (F : List Fact), Stands F l → (∀ f ∈ F, f ∈ fcts acc) → Stands [] acc → Stands [] (mrg l acc)
  | [], acc, F, _, _, h => h
  | s :: l, acc, F, hs, hF, h => by
    rw [mrg]
    split
    · rename_i hb
      exact mrg_stands l acc (F ++ [s.Fact]) hs.2 (fun f hf => by
        rcases List.mem_append.1 hf with hf | hf
        · exact hF f hf
        · rw [List.mem_singleton] at hf; rw [hf]; exact (hasB_iff beqFact_iff _ _).1 hb) h
    · exact mrg_stands l (acc ++ [s]) (F ++ [s.Fact]) hs.2 (fun f hf => by
        rw [fcts_app]
        rcases List.mem_append.1 hf with hf | hf
        · exact List.mem_append_left _ (hF f hf)
        · exact List.mem_append_right _ hf) ((stands_app _ _ _).2 ⟨h, hs.1.mono hF, trivial⟩)
theorem mem_mrg : ∀ (l acc : List Step) (s : Step), s ∈ mrg l acc → s ∈ l ∨ s ∈ acc
  | [], acc, s, h => .inr h
  | x :: l, acc, s, h => by
    rw [mrg] at h
    split at h
    · exact (mem_mrg l acc s h).imp (.tail _) id
    · rcases mem_mrg l _ s h with h | h
      · exact .inl (.tail _ h)
      · rcases List.mem_append.1 h with h | h
        · exact .inr h
        · rw [List.mem_singleton] at h; rw [h]; exact .inl (by simp)
theorem cstands_end (all : List Step) (a0 : List Cred) (hl : all.length ≤ 100000000) (hc : ∀ s ∈ all, s.Cred ∈ a0) (hs : Stands [] all) : ∀ l : List Step, (∀ s ∈ l, s ∈ all) → m_law10_ChainStands_L2 all a0 l = some (.inr ())
  | [], _ => by rw [m_law10_ChainStands_L2]
  | s :: l, h => by
    rw [m_law10_ChainStands_L2, kcheck_ok all a0 s.Fact hl hc hs (List.mem_map.2 ⟨s, h s (by simp), rfl⟩)]
    simp only [Option.bind_some, bne_self_eq_false, Bool.false_eq_true, if_false]
    exact cstands_end all a0 hl hc hs l (fun t ht => h t (by simp [ht]))
theorem lstands_L1 (a0 : List Cred) (h0 : a0.length ≤ 50) : ∀ (ws : List Fact) (all : List Step), all.length + 2500 * ws.length ≤ 100000 → (∀ s ∈ all, s.Cred ∈ a0) → Stands [] all → m_law10_ChainStands_L1 a0 ws all = some true
  | [], all, hl, hc, hs => by
    simp at hl
    rw [m_law10_ChainStands_L1, cstands_end all a0 (by omega) hc hs all (fun _ h => h)]
    rfl
  | w :: ws, all, hl, hc, hs => by
    simp only [List.length_cons] at hl
    rw [m_law10_ChainStands_L1]
    split
    · rfl
    · obtain ⟨C, hC, h⟩ := find_ok a0 (by omega) w
      have hCl : C.length ≤ 50 := Nat.le_trans (isSet_length ltOnC hC) h0
      have hsq : C.length * C.length ≤ 50 * 50 := Nat.mul_le_mul hCl hCl
      rcases h with ⟨o, e, g⟩ | ⟨e, g⟩
      · rw [e]
        have hol := g.len
        have hco : ∀ s ∈ o, s.Cred ∈ a0 := fun s hs => ((hC.2 _).1 (g.cr s hs)).1
        simp only [Option.bind_some, if_true]
        rw [kcheck_ok o a0 w (by omega) hco g.tg.2.1 g.want_in]
        simp only [Option.bind_some, bne_self_eq_false, Bool.false_eq_true, if_false]
        rw [merge_ok [all, o] (by simp [tot]; omega)]
        simp only [Option.bind_some, List.flatten_cons, List.flatten_nil, List.append_nil]
        rw [mrg_app]
        refine lstands_L1 a0 h0 ws _ ?_ (fun s hs => ?_) ?_
        · have h1 := mrg_length all []
          have h2 := mrg_length o (mrg all [])
          simp at h1; omega
        · rcases mem_mrg _ _ s hs with h | h
          · exact hco s h
          · rcases mem_mrg _ _ s h with h | h
            · exact hc s h
            · cases h
        · exact mrg_stands o _ [] g.tg.2.1 (by simp) (mrg_stands all [] [] hs (by simp) trivial)
      · rw [e]
        exact lstands_L1 a0 h0 ws all (by omega) hc hs
theorem chainStands_main (l : List Cred) (ws : List Fact) (hl : l.length ≤ 10000000) (hc : ∀ c ∈ l, sizeC c ≤ 1000000000) : m_law10_ChainStands l ws = some true := by
  unfold m_law10_ChainStands
  rw [first10]
  simp only [Option.bind_some, Bool.not_true, Bool.false_eq_true, if_false]
  obtain ⟨g, eg, g1, g2⟩ := great_both l hl hc
  rw [eg]
  simp only [Option.bind_some, orS]
  split
  · rfl
  · rename_i hb
    simp only [Bool.or_eq_true, decide_eq_true_eq, not_or] at hb
    exact lstands_L1 l (by omega) ws [] (by simp; omega) (by simp) trivial
end Go.Proofs.YtfjdjbdnnoijgaaGreat
namespace Go.Proofs.YtfjdjbdnnoijgaaGreat.Lf
open Go.ChangeShapes Go.WideShapes Go.ChangeAt Go.RowKit
open Go.Proofs.YtfjdjbdnnoijgaaGreat (Rows.uptoBulk Rows.uptoBulkAll Rows.uptoSmall)
theorem one_le {H : Type} (d : DataW H) : 1 ≤ Rows.uptoBulk d := by
  cases d with
  | lit l => cases l <;> simp [Rows.uptoBulk]
  | nil => simp [Rows.uptoBulk]
  | ptr d => simp [Rows.uptoBulk]
  | slice elems spare => simp [Rows.uptoBulk]
  | agg parts => simp [Rows.uptoBulk]
  | iface t d => simp [Rows.uptoBulk]
  | map entries => simp [Rows.uptoBulk]
  | held h => simp [Rows.uptoBulk]
theorem length_le {H : Type} (l : List (DataW H)) : l.length ≤ Rows.uptoBulkAll l := by
  induction l with
  | nil => simp [Rows.uptoBulkAll]
  | cons x r ih => have := one_le x; simp only [Rows.uptoBulkAll, List.length_cons]; omega
def Dec {α : Type} (P : Program) (t : TypeId) (enc : α → List Value) (sz : α → Nat) : Prop :=
  ∀ (H : Type) (eh : TypeId × Value → H) (W : World) (base : Nat) (sp : Nat → Bool) (hd : Bool) (fuel : Nat) (cs : List Value) (x : DataW H × List MemPlace),
    DataW.trod eh P W base sp hd fuel t cs = some x → ∃ a : α, cs = enc a ∧ sz a ≤ Rows.uptoBulk x.1
theorem dec_string {P : Program} {t : TypeId} (ht : P.underlying t = some .string) : Dec P t (fun s : ByteArray => [.string s]) (fun s => s.size) := by
  intro H eh W base sp hd fuel cs x h
  obtain ⟨s, rfl, rfl, _⟩ := DataW.trod_string ht h
  refine ⟨s, rfl, ?_⟩
  have e : s.data.toList.length = s.size := by rw [Array.length_toList]; rfl
  simp [Rows.uptoBulk, e]
theorem dec_int {P : Program} {t : TypeId} {k : IntKind} (ht : P.underlying t = some (.int k)) : Dec P t (fun n : Int => [.int k n]) (fun _ => 0) := by
  intro H eh W base sp hd fuel cs x h
  obtain ⟨n, rfl, rfl, _⟩ := DataW.trod_int ht h
  exact ⟨n, rfl, Nat.zero_le _⟩
theorem list_of {α : Type} {n : Nat} {p : Nat → α → Prop} (h : ∀ i, i < n → ∃ x, p i x) : ∃ l : List α, l.length = n ∧ ∀ i x, l[i]? = some x → p i x := by
  induction n with
  | zero => exact ⟨[], rfl, by simp⟩
  | succ n ih =>
    obtain ⟨l, h1, h2⟩ := ih fun i hi => h i (by omega)
    obtain ⟨x, hx⟩ := h n (by omega)
    refine ⟨l ++ [x], by simp [h1], fun i y hy => ?_⟩
    by_cases hi : i < l.length
    · rw [List.getElem?_append_left hi] at hy
      exact h2 i y hy
    · rw [List.getElem?_append_right (by omega)] at hy
      have : i - l.length = 0 := by
        cases hd : i - l.length with
        | zero => rfl
        | succ m => rw [hd] at hy; simp at hy
      rw [this] at hy
      have e : i = n := by omega
      simp at hy
      subst hy; rw [e]; exact hx
theorem cell_get {W : World} {a : Addr} {v : Value} (h : W.cell? a = some v) : ∃ cs T fr, W.heap[a.block]? = some (.cells cs T fr) ∧ a.spot = none ∧ cs[a.off]? = some v := by
  unfold World.cell? at h
  split at h
  · rename_i c T fr hb
    by_cases hs : a.spot.isSome
    · simp [hs] at h
    · simp only [hs] at h
      exact ⟨c, T, fr, hb, by simpa using hs, by simpa using h⟩
  · cases h
theorem Ex.below {dd : Bool} {W W' : World} (h : Ex dd W W') : Below W.heap.size W W' := ⟨h.os, h.tape, h.output, h.size, h.old⟩
theorem trodAll_stays {H : Type} {eh : TypeId × Value → H} {P : Program} (hl : laidOutB P = true) {W W' : World} {sp' : Nat → Bool} :
    ∀ {ts : List TypeId} {vs : List Value} {ds : List (DataW H)} {ps : List MemPlace}, (∀ t ∈ ts, P.readableRec t = true ∧ t < P.types.size) →
      DataW.TrodAll eh P W 0 (fun _ => true) true ts vs ds ps → (∀ p ∈ ps, W.sameAt W' p) → (∀ p ∈ ps, sp' p.block = true) → DataW.TrodAll eh P W' 0 sp' true ts vs ds ps
  | [], _, _, _, _, h, _, _ => by
    obtain ⟨rfl, rfl, rfl⟩ := trodAll_nil h
    exact trodAll_mk0
  | t :: ts, _, _, _, hr, h, h1, h2 => by
    obtain ⟨v, vs, d, ds, p, q, rfl, rfl, rfl, h3, h4⟩ := trodAll_cons h
    exact trodAll_cons_mk (WideElems.Trod_stays hl (hr t (by simp)).1 (hr t (by simp)).2 h3 (fun x hx => h1 x (by simp [hx])) (fun x hx => h2 x (by simp [hx])))
      (trodAll_stays hl (fun u hu => hr u (by simp [hu])) h4 (fun x hx => h1 x (by simp [hx])) (fun x hx => h2 x (by simp [hx])))
theorem post_of_ex {H : Type} {enc : TypeId × Value → H} {P : Program} (hl : laidOutB P = true) {f : Func} {s : ChangeSpec} {apart fresh handsOn again : Bool} {W W' : World} {args : Array Value} {v : Value} {ds gs : List (DataW H)} {before : List MemPlace}
    (hr : ∀ t ∈ f.params.toList, P.readableRec t = true ∧ t < P.types.size) (hsv : s.vars = [])
    (hW : DataW.Whole enc P f.params.toList s.vars apart W args.toList ds gs before)
    {dd : Bool} (hx : Ex dd W W')
    (hres : ∀ (b : Nat) (sp : Nat → Bool) (hd : Bool), DataW.TrodAll enc P W' b sp hd f.resultTypes.toList (v.resultList f.resultTypes.size) (s.fn H (ds ++ gs)).results [])
    (hargs : (s.fn H (ds ++ gs)).args = ds) (hvars : (s.fn H (ds ++ gs)).vars = [])
    (hok : ∀ (j : Nat) (t : TypeId) (r : Value), f.resultTypes[j]? = some t → (v.resultList f.resultTypes.size)[j]? = some r → Value.okWide P W' .any 0 t r) :
    s.post enc P f apart fresh handsOn again W args v W' := by
  have hlt := hW.lt
  have hold : ∀ p ∈ before, (fun b => decide (b < W.heap.size)) p.block = true := fun p hp => by simpa using hlt p hp
  have hb := Ex.below hx
  have hW' := hW
  obtain ⟨p, q, hA, hV, hpq, hz, hn⟩ := hW
  rw [hsv] at hV
  obtain ⟨rfl, rfl⟩ := trodVars_none hV
  rw [List.append_nil] at hpq
  subst hpq
  have hst : ∀ sp : Nat → Bool, (∀ p ∈ before, sp p.block = true) → DataW.TrodAll enc P W' 0 sp true f.params.toList args.toList (s.fn H (ds ++ [])).args before := fun sp hsp => by
    rw [hargs]
    exact trodAll_stays hl hr hA (fun x hx => hb.same (hlt x hx)) hsp
  have hvs : ∀ sp : Nat → Bool, DataW.TrodVars enc P W' sp s.vars (s.fn H (ds ++ [])).vars [] := fun sp => by
    rw [hvars, hsv]; rfl
  refine ⟨ds, [], before, [], before, [], hW', hres _ _ _, hst _ hold, hvs _, World.keptBut_mono (fun p hp => ⟨hp, ?_⟩) (hb.frame (· ∈ before)), fun _ => ?_⟩
  · exact Or.inr (Or.inl hp)
  · refine ⟨hok, _, _, ([] ++ before) ++ [], ⟨[] ++ before, [], trodAll_append (hst _ (fun _ _ => rfl)) (hres _ _ _), hvs _, rfl, ?_, ?_⟩, ?_⟩
    · intro b off hp
      have hp' : MemPlace.cell b off ∈ before := by simpa using hp
      rw [World.frozen?_of_block (w := W) (hb.block b (hlt _ hp'))]
      exact hz b off hp'
    · intro ha
      simpa using hn ha
    · intro p hp _
      simpa using hp
end Go.Proofs.YtfjdjbdnnoijgaaGreat.Lf
namespace Go.Proofs.YtfjdjbdnnoijgaaGreat.Lf
open Go.ChangeShapes Go.WideShapes Go.ChangeAt Go.RowKit
open Go.Proofs.YtfjdjbdnnoijgaaGreat (Rows.uptoBulk Rows.uptoBulkAll Rows.uptoSmall)
def DecR {α : Type} (P : Program) (t : TypeId) (R : Rep α) (sz : α → Nat) : Prop :=
  ∀ (H : Type) (eh : TypeId × Value → H) (W : World) (base : Nat) (sp : Nat → Bool) (hd : Bool) (fuel : Nat) (cs : List Value) (x : DataW H × List MemPlace),
    DataW.trod eh P W base sp hd fuel t cs = some x → ∃ a : α, R (hp W) cs a ∧ sz a ≤ Rows.uptoBulk x.1
theorem Dec.rel {α : Type} {P : Program} {t : TypeId} {enc : α → List Value} {sz : α → Nat} (h : Dec P t enc sz) : DecR P t (Pl enc) sz := fun H eh W base sp hd fuel cs x hx => h H eh W base sp hd fuel cs x hx
end Go.Proofs.YtfjdjbdnnoijgaaGreat.Lf
namespace Go.Proofs.YtfjdjbdnnoijgaaGreat.Lf
open Go.ChangeShapes Go.WideShapes Go.ChangeAt Go.RowKit
open Go.Proofs.YtfjdjbdnnoijgaaGreat (Rows.uptoBulk Rows.uptoBulkAll Rows.uptoSmall)
theorem bulkAll_sum {H : Type} : ∀ l : List (DataW H), Rows.uptoBulkAll l = (l.map Rows.uptoBulk).sum
  | [] => by simp [Rows.uptoBulkAll]
  | d :: l => by simp [Rows.uptoBulkAll, bulkAll_sum l]
theorem sum_le {α : Type} (g : α → Nat) : ∀ (n : Nat) (f : Nat → Nat) {l : List α}, l.length = n → (∀ i x, l[i]? = some x → g x ≤ f i) → (l.map g).sum ≤ ((List.range n).map f).sum
  | 0, f, l, hl, h => by
    obtain rfl := List.length_eq_zero_iff.1 hl
    simp
  | n + 1, f, [], hl, h => by cases hl
  | n + 1, f, a :: l, hl, h => by
    rw [List.range_succ_eq_map, List.map_cons, List.map_cons, List.sum_cons, List.sum_cons, List.map_map]
    have h1 := h 0 a rfl
    have h2 := sum_le g n (f ∘ Nat.succ) (l := l) (by simpa using hl) (fun i x hx => h (i + 1) x (by simpa using hx))
    omega
def szS {α : Type} (sz : α → Nat) (l : List α) : Nat := (l.map fun a => max 1 (sz a)).sum
theorem len_szS {α : Type} (sz : α → Nat) : ∀ l : List α, l.length ≤ szS sz l
  | [] => Nat.le_refl _
  | a :: l => by have := len_szS sz l; simp only [szS, List.map_cons, List.sum_cons, List.length_cons] at this ⊢; omega
theorem le_szS {α : Type} {sz : α → Nat} : ∀ {l : List α} {a : α}, a ∈ l → sz a ≤ szS sz l
  | b :: l, a, h => by
    simp only [szS, List.map_cons, List.sum_cons]
    rcases List.mem_cons.1 h with rfl | h
    · omega
    · have := le_szS (sz := sz) h; simp only [szS] at this; omega
theorem decR_sliceS {α : Type} {P : Program} {t e : TypeId} {k : Nat} {R : Rep α} {sz : α → Nat} (hk : P.cellsOf e = k) (hk0 : 0 < k) (hd : DecR P e R sz) (ht : P.underlying t = some (.slice e)) {H : Type} {eh : TypeId × Value → H} {W : World} {base : Nat} {sp : Nat → Bool} {held : Bool} {fuel : Nat} {cs : List Value} {x : DataW H × List MemPlace}
    (hf : DataW.trod eh P W base sp held fuel t cs = some x) :
    ∃ v l, cs = [v] ∧ Sl R k (hp W) v l ∧ szS sz l ≤ Rows.uptoBulk x.1 := by
  rcases Go.Deep.open_slice ht hf with ⟨rfl, rfl⟩ | ⟨a, ln, cp, m, n, D, Q, rfl, hb, hl, hm, hmm, rfl, hel⟩
  · exact ⟨_, [], rfl, ⟨none, 0, rfl, Nat.le_refl _, Nat.zero_le _, fun h => absurd h (Nat.lt_irrefl _)⟩, Nat.zero_le _⟩
  · have hlm : ln ≤ m := by rw [hmm]; split <;> omega
    have hB : ((List.range ln).map fun i => Rows.uptoBulk (D i)).sum ≤ Rows.uptoBulk (DataW.slice ((List.range ln).map D) ((List.range (m - ln)).map fun j => D (ln + j))) := by
      simp only [Rows.uptoBulk]
      rw [bulkAll_sum, List.map_map]
      have e : ((List.range ln).map fun i => Rows.uptoBulk (D i)) = (List.range ln).map (Rows.uptoBulk ∘ D) := rfl
      rw [e]
      omega
    simp only
    generalize Rows.uptoBulk (DataW.slice ((List.range ln).map D) ((List.range (m - ln)).map fun j => D (ln + j))) = B at hB
    obtain ⟨l, hl1, hl2⟩ := list_of (α := α) (n := ln) (p := fun i x => ∃ cs', W.cells? base (a.add (i * k)) k = some cs' ∧ R (hp W) cs' x ∧ sz x ≤ Rows.uptoBulk (D i)) fun i hi => by
      obtain ⟨cs', h1, h2⟩ := hel i (by omega)
      obtain ⟨x, hR, h3⟩ := hd _ _ _ _ _ _ _ _ _ h2
      rw [hk] at h1
      exact ⟨x, cs', h1, hR, h3⟩
    subst hl1
    refine ⟨_, l, rfl, ⟨some a, cp, rfl, hl, hm, fun h0 => ?_⟩, ?_⟩
    · have hget : ∀ i x, l[i]? = some x → ∃ cs', R (hp W) cs' x ∧ cs'.length = k ∧ ∀ j, j < k → W.cell? ((a.add (i * k)).add j) = cs'[j]? := fun i x hx =>
        let ⟨cs', h1, h2, _⟩ := hl2 i x hx
        let ⟨_, h3, h4⟩ := World.cells?_some h1
        ⟨cs', h2, h3, h4⟩
      obtain ⟨cs0, _, h4, h5⟩ := hget 0 l[0] (by simp [h0])
      have h6 := h5 0 hk0
      rw [Nat.zero_mul, List.getElem?_eq_getElem (by omega)] at h6
      have e0 : (a.add 0).add 0 = a := rfl
      rw [e0] at h6
      obtain ⟨cs, T, fr, h7, h8, _⟩ := cell_get h6
      obtain ⟨ab, ao, asp⟩ := a
      simp only at h7 h8
      subst h8
      refine ⟨ab, ao, cs, T, fr, rfl, h7, fun i x hx => ?_⟩
      obtain ⟨cs', gR, g1, g2⟩ := hget i x hx
      refine ⟨cs', g1, gR, fun j y hy => ?_⟩
      have hj : j < k := by
        rw [← g1]
        exact (List.getElem?_eq_some_iff.1 hy).1
      have h9 := g2 j hj
      rw [Go.Deep.add_add, hy] at h9
      obtain ⟨cs'', T', fr', h10, h11, h12⟩ := cell_get h9
      have hbk : (Addr.add ⟨ab, ao, none⟩ (i * k + j)).block = ab ∧ (Addr.add ⟨ab, ao, none⟩ (i * k + j)).off = ao + (i * k + j) := by
        unfold Addr.add
        split
        · rename_i hz
          rw [hz]; exact ⟨rfl, rfl⟩
        · exact ⟨rfl, rfl⟩
      rw [hbk.1, h7] at h10
      cases h10
      rw [hbk.2, ← Nat.add_assoc] at h12
      exact h12
    · refine Nat.le_trans (sum_le _ _ _ rfl fun i x hx => ?_) hB
      exact Nat.max_le.2 ⟨one_le _, (hl2 i x hx).elim fun _ h => h.2.2⟩
theorem slS_of_trod {α H : Type} {eh : TypeId × Value → H} {P : Program} {t e : TypeId} {k : Nat} {enc : α → List Value} {sz : α → Nat} (hk : P.cellsOf e = k) (hk0 : 0 < k) (hd : Dec P e enc sz)
    (ht : P.underlying t = some (.slice e)) {W : World} {base b0 : Nat} {r : Reach} {sp : Nat → Bool} {held : Bool} {v : Value} {d : DataW H} {ps : List MemPlace}
    (hval : Value.okWide P W r b0 t v) (h : DataW.Trod eh P W base sp held t v d ps) :
    ∃ l : List α, Sl (Pl enc) k (hp W) v l ∧ szS sz l ≤ Rows.uptoBulk d := by
  obtain ⟨A, ln, cp, rfl⟩ := okWide_slice ht hval
  obtain ⟨fuel, hf⟩ := h
  obtain ⟨u, l, h1, h2, h3⟩ := decR_sliceS hk hk0 hd.rel ht hf
  have hc : (Value.slice A ln cp).cells.toList = [Value.slice A ln cp] := rfl
  rw [hc] at h1
  cases h1
  exact ⟨l, h2, h3⟩
end Go.Proofs.YtfjdjbdnnoijgaaGreat.Lf
namespace Go.Proofs.YtfjdjbdnnoijgaaGreat
set_option maxRecDepth 10000
open Go.ChangeShapes Go.WideShapes Go.ChangeAt Go.RowKit
open Go.Proofs.YtfjdjbdnnoijgaaGreat Go.Proofs.YtfjdjbdnnoijgaaGreat.Lf
theorem dec3 : Dec Tryz.prog 3 (fun n : Int => [.int .i64 n]) (fun _ => 0) := dec_int Tryz.underlying3
theorem cells3 : Tryz.prog.cellsOf 3 = 1 := by kernel_rfl
theorem dec9 : Dec Tryz.prog 9 (fun s : ByteArray => [.string s]) (fun s => s.size) := dec_string Tryz.underlying9
theorem cells9 : Tryz.prog.cellsOf 9 = 1 := by kernel_rfl
theorem cells47 : Tryz.prog.cellsOf 47 = 2 := by kernel_rfl
theorem len2 {α : Type} {l : List α} (h : l.length = 2) : ∃ a0 a1, l = [a0, a1] := by
  match l, h with
  | [a0, a1], _ => exact ⟨a0, a1, rfl⟩
def szRole (x : Role) : Nat := x.Owner.size + x.Word.size
theorem dec47 : Dec Tryz.prog 47 encRole szRole := by
  intro H eh W base sp hd fuel cs x h
  obtain ⟨xs, n, _, rfl, hl, hlen, hf⟩ := DataW.trod_struct Tryz.underlying47 h
  obtain ⟨y0, y1, rfl⟩ := len2 hlen
  obtain ⟨c0, c1, rfl⟩ := len2 (hl.trans cells47)
  have h0 : DataW.trod eh Tryz.prog W base sp hd n 9 (([c0, c1].drop 0).take (Tryz.prog.cellsOf 9)) = some y0 := hf 0 _ rfl
  have h1 : DataW.trod eh Tryz.prog W base sp hd n 9 (([c0, c1].drop 1).take (Tryz.prog.cellsOf 9)) = some y1 := hf 1 _ rfl
  simp only [cells9, List.drop, List.take] at h0 h1
  obtain ⟨s0, e0, b0⟩ := dec9 _ _ _ _ _ _ _ _ _ h0
  obtain ⟨s1, e1, b1⟩ := dec9 _ _ _ _ _ _ _ _ _ h1
  simp only [List.cons.injEq, and_true] at e0 e1
  obtain rfl := e0
  obtain rfl := e1
  refine ⟨⟨s0, s1⟩, rfl, ?_⟩
  simp only [List.map, Rows.uptoBulk, Rows.uptoBulkAll, szRole] at b0 b1 ⊢
  omega
theorem cells83 : Tryz.prog.cellsOf 83 = 9 := by kernel_rfl
theorem len6 {α : Type} {l : List α} (h : l.length = 6) : ∃ a0 a1 a2 a3 a4 a5, l = [a0, a1, a2, a3, a4, a5] := by
  match l, h with
  | [a0, a1, a2, a3, a4, a5], _ => exact ⟨a0, a1, a2, a3, a4, a5, rfl⟩
theorem len9 {α : Type} {l : List α} (h : l.length = 9) : ∃ a0 a1 a2 a3 a4 a5 a6 a7 a8, l = [a0, a1, a2, a3, a4, a5, a6, a7, a8] := by
  match l, h with
  | [a0, a1, a2, a3, a4, a5, a6, a7, a8], _ => exact ⟨a0, a1, a2, a3, a4, a5, a6, a7, a8, rfl⟩
def szCred (x : Cred) : Nat := szRole x.Head + x.Who.size + szRole x.B + szRole x.C + x.Word2.size
theorem dec83 : Dec Tryz.prog 83 encCred szCred := by
  intro H eh W base sp hd fuel cs x h
  obtain ⟨xs, n, _, rfl, hl, hlen, hf⟩ := DataW.trod_struct Tryz.underlying83 h
  obtain ⟨y0, y1, y2, y3, y4, y5, rfl⟩ := len6 hlen
  obtain ⟨c0, c1, c2, c3, c4, c5, c6, c7, c8, rfl⟩ := len9 (hl.trans cells83)
  have h0 : DataW.trod eh Tryz.prog W base sp hd n 3 (([c0, c1, c2, c3, c4, c5, c6, c7, c8].drop 0).take (Tryz.prog.cellsOf 3)) = some y0 := hf 0 _ rfl
  have h1 : DataW.trod eh Tryz.prog W base sp hd n 47 (([c0, c1, c2, c3, c4, c5, c6, c7, c8].drop 1).take (Tryz.prog.cellsOf 47)) = some y1 := hf 1 _ rfl
  have h2 : DataW.trod eh Tryz.prog W base sp hd n 9 (([c0, c1, c2, c3, c4, c5, c6, c7, c8].drop 3).take (Tryz.prog.cellsOf 9)) = some y2 := hf 2 _ rfl
  have h3 : DataW.trod eh Tryz.prog W base sp hd n 47 (([c0, c1, c2, c3, c4, c5, c6, c7, c8].drop 4).take (Tryz.prog.cellsOf 47)) = some y3 := hf 3 _ rfl
  have h4 : DataW.trod eh Tryz.prog W base sp hd n 47 (([c0, c1, c2, c3, c4, c5, c6, c7, c8].drop 6).take (Tryz.prog.cellsOf 47)) = some y4 := hf 4 _ rfl
  have h5 : DataW.trod eh Tryz.prog W base sp hd n 9 (([c0, c1, c2, c3, c4, c5, c6, c7, c8].drop 8).take (Tryz.prog.cellsOf 9)) = some y5 := hf 5 _ rfl
  simp only [cells3, cells47, cells9, List.drop, List.take] at h0 h1 h2 h3 h4 h5
  obtain ⟨s0, e0, b0⟩ := dec3 _ _ _ _ _ _ _ _ _ h0
  obtain ⟨s1, e1, b1⟩ := dec47 _ _ _ _ _ _ _ _ _ h1
  obtain ⟨s2, e2, b2⟩ := dec9 _ _ _ _ _ _ _ _ _ h2
  obtain ⟨s3, e3, b3⟩ := dec47 _ _ _ _ _ _ _ _ _ h3
  obtain ⟨s4, e4, b4⟩ := dec47 _ _ _ _ _ _ _ _ _ h4
  obtain ⟨s5, e5, b5⟩ := dec9 _ _ _ _ _ _ _ _ _ h5
  simp only [encRole, List.cons.injEq, and_true] at e0 e1 e2 e3 e4 e5
  obtain rfl := e0
  obtain ⟨rfl, rfl⟩ := e1
  obtain rfl := e2
  obtain ⟨rfl, rfl⟩ := e3
  obtain ⟨rfl, rfl⟩ := e4
  obtain rfl := e5
  refine ⟨⟨s0, s1, s2, s3, s4, s5⟩, rfl, ?_⟩
  simp only [List.map, Rows.uptoBulk, Rows.uptoBulkAll, szCred] at b0 b1 b2 b3 b4 b5 ⊢
  omega
theorem cells78 : Tryz.prog.cellsOf 78 = 3 := by kernel_rfl
theorem len3 {α : Type} {l : List α} (h : l.length = 3) : ∃ a0 a1 a2, l = [a0, a1, a2] := by
  match l, h with
  | [a0, a1, a2], _ => exact ⟨a0, a1, a2, rfl⟩
def szFact (x : Fact) : Nat := szRole x.Role + x.Who.size
theorem dec78 : Dec Tryz.prog 78 encFact szFact := by
  intro H eh W base sp hd fuel cs x h
  obtain ⟨xs, n, _, rfl, hl, hlen, hf⟩ := DataW.trod_struct Tryz.underlying78 h
  obtain ⟨y0, y1, rfl⟩ := len2 hlen
  obtain ⟨c0, c1, c2, rfl⟩ := len3 (hl.trans cells78)
  have h0 : DataW.trod eh Tryz.prog W base sp hd n 47 (([c0, c1, c2].drop 0).take (Tryz.prog.cellsOf 47)) = some y0 := hf 0 _ rfl
  have h1 : DataW.trod eh Tryz.prog W base sp hd n 9 (([c0, c1, c2].drop 2).take (Tryz.prog.cellsOf 9)) = some y1 := hf 1 _ rfl
  simp only [cells47, cells9, List.drop, List.take] at h0 h1
  obtain ⟨s0, e0, b0⟩ := dec47 _ _ _ _ _ _ _ _ _ h0
  obtain ⟨s1, e1, b1⟩ := dec9 _ _ _ _ _ _ _ _ _ h1
  simp only [encRole, List.cons.injEq, and_true] at e0 e1
  obtain ⟨rfl, rfl⟩ := e0
  obtain rfl := e1
  refine ⟨⟨s0, s1⟩, rfl, ?_⟩
  simp only [List.map, Rows.uptoBulk, Rows.uptoBulkAll, szFact] at b0 b1 ⊢
  omega
theorem rd22 : Tryz.prog.readableRec 22 = true ∧ 22 < Tryz.prog.types.size := ⟨by kernel_rfl, of_decide_eq_true (by kernel_rfl)⟩
theorem rd53 : Tryz.prog.readableRec 53 = true ∧ 53 < Tryz.prog.types.size := ⟨by kernel_rfl, of_decide_eq_true (by kernel_rfl)⟩
theorem own : ownKnob Tryz.prog.godebug = none := by kernel_rfl
theorem laid_out : laidOutB Tryz.prog = true := by kernel_rfl
theorem contract (H : Type) (enc : TypeId × Value → H) (W : World) (base : Nat) (args : Array Value) (ds gs : List (DataW H)) (before : List MemPlace)
    (hval : ∀ (j : Nat) t v, Tryz.f11.params[j]? = some t → args[j]? = some v → Value.okWide Tryz.prog W .any base t v)
    (hW : DataW.Whole enc Tryz.prog Tryz.f11.params.toList Rows.chainStandsSpec.vars false W args.toList ds gs before) (hk : Rows.uptoSmall H (ds ++ gs) = true) :
    Calls Tryz.prog 11 args W fun e W' => ∃ v, e = .returned v ∧ Rows.chainStandsSpec.post enc Tryz.prog Tryz.f11 false true false false W args v W' := by
  have hW' := hW
  obtain ⟨p, q, hA0, hV, rfl, hfz, hnd⟩ := hW
  have hA : DataW.TrodAll enc Tryz.prog W 0 (fun _ => true) true Tryz.f11.params.toList args.toList ds p := hA0
  have hr : ∀ t ∈ Tryz.f11.params.toList, Tryz.prog.readableRec t = true ∧ t < Tryz.prog.types.size := by
    rw [Tryz.params11]
    intro t ht
    simp only [List.mem_cons, List.not_mem_nil, or_false] at ht
    rcases ht with rfl | rfl
    · exact rd22
    · exact rd53
  rw [Tryz.params11] at hA hval
  obtain ⟨v0, vs0, d0, ds0, p0, q0, hargs, rfl, rfl, h0, r0⟩ := trodAll_cons hA
  obtain ⟨v1, vs1, d1, ds1, p1, q1, rfl, rfl, rfl, h1, r1⟩ := trodAll_cons r0
  obtain ⟨rfl, rfl, rfl⟩ := trodAll_nil r1
  obtain rfl : args = #[v0, v1] := by cases args; simp_all
  obtain ⟨rfl, rfl⟩ := trodVars_none hV
  have k0 := hval 0 22 v0 rfl rfl
  have k1 := hval 1 53 v1 rfl rfl
  obtain ⟨a0, s0, z0⟩ := slS_of_trod (k := 9) cells83 (by decide) dec83 Tryz.underlying22 k0 h0
  obtain ⟨a1, s1, z1⟩ := slS_of_trod (k := 3) cells78 (by decide) dec78 Tryz.underlying53 k1 h1
  have hB : Rows.uptoBulkAll ([d0, d1] ++ []) ≤ 1048576 := of_decide_eq_true hk
  simp only [List.append_nil, Rows.uptoBulkAll] at hB
  have hm : m_law10_ChainStands a0 a1 = some true := chainStands_main a0 a1 (by have := len_szS szCred a0; omega) (fun c hc => by have := le_szS (sz := szCred) hc; have : sizeC c = szCred c := (by simp only [szCred, szRole, sizeC]; omega); omega)
  have hg := w_law10_ChainStands v0 a0 v1 a1 true W s0 s1 hm
  refine Calls.mono hg fun e W' ⟨he, hx⟩ => ?_
  subst he
  exact ⟨_, rfl, post_of_ex laid_out hr rfl hW' hx (fun _ _ _ => trodAll_cons_mk (shut_bool Tryz.underlying4 _) trodAll_mk0) rfl rfl (ok_one (by kernel_rfl) rfl (okWide_bool_mk Tryz.underlying4 _))⟩
set_option maxRecDepth 100000 in
theorem lifted (os : Os) (started : os.Started) (H : Type) (enc : TypeId × Value → H) (F : Stop.Interp) :
    ReturnsInHanded {} Tryz.checked os 11 .any ((Rows.OpenSpec.upto Rows.chainStandsSpec).pre6 enc Tryz.prog Tryz.f11 Rows.chainStandsUptoRow.domain false) (((Rows.OpenSpec.upto Rows.chainStandsSpec).at F).post enc Tryz.prog Tryz.f11 false true false false) := by
  refine returnsInHanded_of_cond (C := Tryz.checked) (s := Rows.OpenSpec.upto Rows.chainStandsSpec) (k := Rows.uptoSmall) rfl own started (by kernel_rfl) Tryz.func11
    (OpenSpec.witness (enc := enc) (C := Tryz.checked) (s := Rows.OpenSpec.upto Rows.chainStandsSpec) (k := Rows.uptoSmall) rfl false ⟨#[], #[.slice none 0 0, .slice none 0 0], []⟩ 8 (by kernel_rfl) (by kernel_rfl) (by kernel_rfl)
      (x := ([.nil, .nil], [], [])) (by kernel_rfl) rfl (by kernel_rfl)) ?_
  intro W base args ds gs before hval hW _ hk _
  exact contract H enc W base args ds gs before hval hW hk
theorem proved : Rows.ChainStandsUptoSaid :=
  OpenClaim.holds_of_cond 11 Tryz.f11 rfl rfl rfl rfl rfl rfl rfl ⟨rfl, rfl, rfl, rfl, rfl⟩ rfl rfl rfl rfl rfl (by kernel_rfl) Tryz.func11 (by kernel_rfl)
    (of_decide_eq_true (by kernel_rfl)) (by unfold Func.isWrapper; first | (rw [if_pos (by decide +kernel)]; kernel_rfl) | (rw [if_neg (by decide +kernel)]; exact ⟨rfl, rfl⟩))
    (fun os started H enc _ F => lifted os started H enc F)
end Go.Proofs.YtfjdjbdnnoijgaaGreat
