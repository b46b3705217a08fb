/- a part of a proof of RevokeTells -/
import Derived.Test.YtmlncblocfcmiaaGreatRtRt
import Derived.Test.YtmlncblocfcmiaaGreatRVMt
import Derived.Test.YtmlncblocfcmiaaGreatRows
import Derived.WalkKit
import Derived.ProofKit
import Derived.OpenShut
import Derived.JoinedCond
import Derived.Deep.Slices
import Derived.Carry
import Derived.ChangeArms
import Derived.ChangeSame
import Derived.Test.YtmlncblocfcmiaaGreatRVW3t
set_option linter.all false
namespace Go.Proofs.YtmlncblocfcmiaaGreat
open Go.RowKit
theorem andS {c x : Bool} : (if c = true then some x else some false : Option Bool) = some (c && x) := by cases c <;> rfl
theorem orS {c x : Bool} : (if c = true then some true else some x : Option Bool) = some (c || x) := by cases c <;> rfl
theorem bindS {α : Type} (x : Option α) : (x.bind fun y => some y) = x := by cases x <;> rfl
theorem wrap_in {x : Int} (h0 : -9223372036854775808 ≤ x) (h1 : x ≤ 9223372036854775807) : IntKind.i64.wrap x = x := IntWalk.i64_in _ (by omega)
theorem idx_mid {α : Type} (A : List α) (x : α) (B : List α) (i : Int) (h : i = (A.length : Int)) : idx (A ++ x :: B) i = some x := by
  subst h; rw [idx_nat]; simp
theorem fuel_big : FUEL = 18446744073709551615 + 1 := by rw [FUEL_eq]
def delL {α : Type} (f1 : α → Option Bool) (z : α) : Nat → List α → Int → Int → Option (List α)
  | 0, _, _, _ => none
  | n + 1, l, i, j => if decide (j < (l.length : Int)) then
      ((idx l j).bind fun x => (f1 x).bind fun r => if (!r) then (idx l i).bind fun _ => some (l.set (Int.toNat i) x, IntKind.i64.wrap (i + 1)) else some (l, i) : Option (List α × Int)).bind fun (l', i') => delL f1 z n l' i' (IntKind.i64.wrap (j + 1))
    else (chk (decide (0 ≤ i) && decide (i ≤ (l.length : Int)))).bind fun _ => (chk (decide (0 ≤ i) && decide (i ≤ ((clearT l (Int.toNat i) z).length : Int)))).bind fun _ => some ((clearT l (Int.toNat i) z).take (Int.toNat i))
theorem chk_ok {a b : Int} (h0 : 0 ≤ a) (h1 : a ≤ b) : chk (decide (0 ≤ a) && decide (a ≤ b)) = some () := by simp [chk, h0, h1]
theorem delL_run {α : Type} (f1 : α → Option Bool) (p : α → Bool) (z : α) : ∀ (rest out mid : List α) (n : Nat), rest.length < n → (out ++ mid ++ rest).length < 4611686018427387904 → mid ≠ [] → (∀ x ∈ rest, f1 x = some (p x)) →
    delL f1 z n (out ++ mid ++ rest) (out.length : Int) ((out.length + mid.length : Nat) : Int) = some (out ++ rest.filter fun x => !p x)
  | [], out, mid, 0, h, _, _, _ => by simp at h
  | [], out, mid, n + 1, _, hl, hm, _ => by
    rw [delL, if_neg (by simp)]
    have h1 : out.length ≤ (out ++ mid ++ []).length := by simp
    rw [chk_ok (by omega) (by omega)]
    simp only [Option.bind_some]
    rw [chk_ok (by omega) (by rw [clearT_length _ _ _ (by simpa using h1)]; omega)]
    simp only [Option.bind_some, Int.toNat_natCast]
    rw [clearT_take _ _ _ h1]
    simp
  | x :: rest, out, mid, 0, h, _, _, _ => by simp at h
  | x :: rest, out, mid, n + 1, h, hl, hm, hf => by
    have hlen : (out ++ mid ++ x :: rest).length = out.length + mid.length + rest.length + 1 := by simp; omega
    rw [hlen] at hl
    rw [delL, if_pos (by rw [hlen]; simp; omega)]
    rw [idx_mid (out ++ mid) x rest _ (by simp)]
    simp only [Option.bind_some, hf x (by simp)]
    rw [wrap_in (x := ((out.length + mid.length : Nat) : Int) + 1) (by omega) (by omega)]
    have ih := delL_run f1 p z rest
    cases hp : p x with
    | true =>
      simp only [Bool.not_true, Bool.false_eq_true, if_false, Option.bind_some]
      have := ih out (mid ++ [x]) n (by simp at h; omega) (by simp; omega) (by simp) (fun y hy => hf y (by simp [hy]))
      simp only [List.append_assoc, List.cons_append, List.nil_append, List.length_append, List.length_cons, List.length_nil] at this ⊢
      rw [show ((out.length + mid.length : Nat) : Int) + 1 = ((out.length + (mid.length + (0 + 1)) : Nat) : Int) by omega, this]
      simp [hp]
    | false =>
      obtain ⟨m, mid', rfl⟩ : ∃ m mid', mid = m :: mid' := by cases mid with
        | nil => exact absurd rfl hm
        | cons m mid' => exact ⟨m, mid', rfl⟩
      simp only [Bool.not_false, if_true]
      rw [List.append_assoc out (m :: mid') (x :: rest), List.cons_append]
      rw [idx_mid out m (mid' ++ x :: rest) _ rfl]
      simp only [Option.bind_some]
      rw [wrap_in (x := (out.length : Int) + 1) (by omega) (by simp at hl; omega)]
      have := ih (out ++ [x]) (mid' ++ [x]) n (by simp at h; omega) (by simp at hl ⊢; omega) (by simp) (fun y hy => hf y (by simp [hy]))
      simp only [List.append_assoc, List.cons_append, List.nil_append, List.length_append, List.length_cons, List.length_nil] at this
      have hs : (out ++ m :: (mid' ++ x :: rest)).set (Int.toNat (out.length : Int)) x = out ++ x :: (mid' ++ x :: rest) := by
        rw [Int.toNat_natCast, List.set_append_right _ _ (Nat.le_refl _)]; simp
      rw [hs]
      simp only [List.length_cons] at hl ⊢
      rw [show (out.length : Int) + 1 = ((out.length + (0 + 1) : Nat) : Int) by omega, show ((out.length + (mid'.length + 1) : Nat) : Int) + 1 = ((out.length + (0 + 1) + (mid'.length + (0 + 1)) : Nat) : Int) by omega, this]
      simp [hp]
def idxL {α : Type} (f1 : α → Option Bool) : List α → Nat → Option Int
  | [], _ => some (-1)
  | x :: xs, i => (f1 x).bind fun r => if r then some (i : Int) else idxL f1 xs (i + 1)
theorem idxL_run {α : Type} (f1 : α → Option Bool) (p : α → Bool) : ∀ (l : List α) (i : Nat), (∀ x ∈ l, f1 x = some (p x)) →
    (idxL f1 l i = some (-1) ∧ ∀ x ∈ l, p x = false) ∨ ∃ A x B, l = A ++ x :: B ∧ (∀ y ∈ A, p y = false) ∧ p x = true ∧ idxL f1 l i = some ((i + A.length : Nat) : Int)
  | [], i, _ => .inl ⟨rfl, by simp⟩
  | x :: l, i, h => by
    rw [idxL, h x (by simp)]
    simp only [Option.bind_some]
    cases hp : p x with
    | true => exact .inr ⟨[], x, l, rfl, by simp, hp, by simp⟩
    | false =>
      simp only [Bool.false_eq_true, if_false]
      rcases idxL_run f1 p l (i + 1) (fun y hy => h y (by simp [hy])) with ⟨h1, h2⟩ | ⟨A, y, B, rfl, h1, h2, h3⟩
      · exact .inl ⟨h1, by intro y hy; rcases List.mem_cons.1 hy with rfl | hy; exact hp; exact h2 y hy⟩
      · refine .inr ⟨x :: A, y, B, rfl, ?_, h2, ?_⟩
        · intro z hz; rcases List.mem_cons.1 hz with rfl | hz
          · exact hp
          · exact h1 z hz
        · rw [h3]; simp; omega
def delF {α : Type} (f1 : α → Option Bool) (z : α) (l : List α) : Option (List α) :=
  (idxL f1 l 0).bind fun r1 => if (r1 == ((-1))) then some l else delL f1 z FUEL l r1 (IntKind.i64.wrap (r1 + 1))
theorem delF_run {α : Type} (f1 : α → Option Bool) (p : α → Bool) (z : α) (l : List α) (hl : l.length < 4611686018427387904) (h : ∀ x ∈ l, f1 x = some (p x)) : delF f1 z l = some (l.filter fun x => !p x) := by
  unfold delF
  rcases idxL_run f1 p l 0 h with ⟨h1, h2⟩ | ⟨A, x, B, rfl, h1, h2, h3⟩
  · rw [h1]
    simp only [Option.bind_some, beq_self_eq_true, if_true]
    rw [List.filter_eq_self.2 (fun y hy => by simp [h2 y hy])]
  · rw [h3]
    simp only [Option.bind_some, Nat.zero_add]
    rw [if_neg (by simp), wrap_in (by omega) (by simp at hl; omega)]
    have := delL_run f1 p z B A [x] FUEL (by rw [FUEL_eq]; simp at hl; omega) (by simpa using hl) (by simp) (fun y hy => h y (by simp [hy]))
    simp only [List.append_assoc, List.cons_append, List.nil_append, List.length_cons, List.length_nil] at this
    rw [show (A.length : Int) + 1 = ((A.length + (0 + 1) : Nat) : Int) by omega, this]
    have hA : A.filter (fun x => !p x) = A := List.filter_eq_self.2 (fun y hy => by simp [h1 y hy])
    rw [List.filter_append, hA]
    simp [h2]
def ddGo {α : Type} (eq : α → α → Bool) : α → List α → List α
  | _, [] => []
  | p, y :: ys => if eq y p then ddGo eq y ys else y :: ddGo eq y ys
def dd {α : Type} (eq : α → α → Bool) : List α → List α
  | [] => []
  | x :: xs => x :: ddGo eq x xs
def cpt2 {α : Type} (eq : α → α → Bool) (i : Int) : Nat → List α → Int → Int → Option (List α × Int)
  | 0, _, _, _ => none
  | n + 1, l, k, j => if decide (j < ((l.length - Int.toNat i : Nat) : Int)) then
      ((idx (l.drop (Int.toNat i)) j).bind fun x => (idx (l.drop (Int.toNat i)) (IntKind.i64.wrap (j - 1))).bind fun y => if !(eq x y) then (idx (l.drop (Int.toNat i)) j).bind fun z => (idx l k).bind fun _ => some (l.set (Int.toNat k) z, IntKind.i64.wrap (k + 1)) else some (l, k) : Option (List α × Int)).bind fun (l', k') => cpt2 eq i n l' k' (IntKind.i64.wrap (j + 1))
    else some (l, k)
def cpt1 {α : Type} (eq : α → α → Bool) (z : α) (l : List α) : Nat → Int → Option (List α)
  | 0, _ => none
  | n + 1, i => if decide (i < (l.length : Int)) then (idx l i).bind fun x => (idx l (IntKind.i64.wrap (i - 1))).bind fun y => if eq x y then
        (chk (decide (0 ≤ i) && decide (i ≤ (l.length : Int)))).bind fun _ => (cpt2 eq i FUEL l i 1).bind fun (l', k) => (chk (decide (0 ≤ k) && decide (k ≤ (l'.length : Int)))).bind fun _ => (chk (decide (0 ≤ k) && decide (k ≤ ((clearT l' (Int.toNat k) z).length : Int)))).bind fun _ => some ((clearT l' (Int.toNat k) z).take (Int.toNat k))
      else cpt1 eq z l n (IntKind.i64.wrap (i + 1))
    else some l
def cptF {α : Type} (eq : α → α → Bool) (z : α) (l : List α) : Option (List α) := if decide ((l.length : Int) < 2) then some l else cpt1 eq z l FUEL 1
theorem idx_drop {α : Type} (l : List α) (i : Nat) (j : Int) (hj : 0 ≤ j) : idx (l.drop i) j = idx l ((i : Int) + j) := by
  obtain ⟨m, rfl⟩ : ∃ m : Nat, j = m := ⟨j.toNat, by omega⟩
  rw [show (i : Int) + (m : Int) = ((i + m : Nat) : Int) by omega, idx_nat, idx_nat, List.getElem?_drop]
theorem cpt2_run {α : Type} (eq : α → α → Bool) (i : Nat) : ∀ (rest out mid : List α) (p : α) (n : Nat), rest.length < n → (out ++ (mid ++ [p]) ++ rest).length < 4611686018427387904 → 1 ≤ i → i ≤ out.length →
    ∃ l', cpt2 eq (i : Int) n (out ++ (mid ++ [p]) ++ rest) (out.length : Int) ((out.length + mid.length + 1 - i : Nat) : Int) = some (l', ((out ++ ddGo eq p rest).length : Int)) ∧ l'.take (out ++ ddGo eq p rest).length = out ++ ddGo eq p rest ∧ (out ++ ddGo eq p rest).length ≤ l'.length
  | [], out, mid, p, 0, h, _, _, _ => by simp at h
  | [], out, mid, p, n + 1, h, hl, h1, h2 => by
    rw [cpt2, if_neg (by simp; omega)]
    exact ⟨out ++ (mid ++ [p]) ++ [], by simp [ddGo], by simp [ddGo], by simp [ddGo]⟩
  | x :: rest, out, mid, p, 0, h, _, _, _ => by simp at h
  | x :: rest, out, mid, p, n + 1, h, hl, h1, h2 => by
    have hlen : (out ++ (mid ++ [p]) ++ x :: rest).length = out.length + mid.length + rest.length + 2 := by simp; omega
    rw [hlen] at hl
    rw [cpt2, if_pos (by rw [hlen]; simp; omega)]
    rw [Int.toNat_natCast, idx_drop _ _ _ (by omega), idx_mid (out ++ (mid ++ [p])) x rest _ (by simp; omega)]
    simp only [Option.bind_some]
    rw [wrap_in (x := ((out.length + mid.length + 1 - i : Nat) : Int) - 1) (by omega) (by omega), idx_drop _ _ _ (by omega)]
    rw [show out ++ (mid ++ [p]) ++ x :: rest = (out ++ mid) ++ p :: (x :: rest) by simp]
    rw [idx_mid (out ++ mid) p (x :: rest) _ (by simp; omega)]
    simp only [Option.bind_some]
    rw [wrap_in (x := ((out.length + mid.length + 1 - i : Nat) : Int) + 1) (by omega) (by omega)]
    cases hp : eq x p with
    | true =>
      simp only [Bool.not_true, Bool.false_eq_true, if_false, Option.bind_some]
      obtain ⟨l', e1, e2, e3⟩ := cpt2_run eq i rest out (mid ++ [p]) x n (by simp at h; omega) (by simp; omega) h1 h2
      refine ⟨l', ?_, by rw [ddGo, hp]; exact e2, by rw [ddGo, hp]; exact e3⟩
      rw [ddGo, hp, if_pos rfl, ← e1]
      congr 1
      · simp
      · simp; omega
    | false =>
      simp only [Bool.not_false, if_true]
      obtain ⟨m, mid', hm⟩ : ∃ m mid', mid ++ [p] = m :: mid' := by cases mid with
        | nil => exact ⟨p, [], rfl⟩
        | cons m mid' => exact ⟨m, mid' ++ [p], rfl⟩
      have hml : mid'.length = mid.length := by have := congrArg List.length hm; simp at this; omega
      rw [show (out ++ mid) ++ p :: (x :: rest) = out ++ m :: (mid' ++ x :: rest) by rw [← List.cons_append, ← hm]; simp]
      rw [idx_mid out m (mid' ++ x :: rest) _ rfl]
      simp only [Option.bind_some]
      rw [wrap_in (x := (out.length : Int) + 1) (by omega) (by omega)]
      have hs : (out ++ m :: (mid' ++ x :: rest)).set (Int.toNat (out.length : Int)) x = (out ++ [x]) ++ (mid' ++ [x]) ++ rest := by
        rw [Int.toNat_natCast, List.set_append_right _ _ (Nat.le_refl _)]; simp
      rw [hs]
      obtain ⟨l', e1, e2, e3⟩ := cpt2_run eq i rest (out ++ [x]) mid' x n (by simp at h; omega) (by simp; omega) h1 (by simp; omega)
      refine ⟨l', ?_, ?_, ?_⟩
      · rw [ddGo, hp, if_neg (by decide)]
        have e4 : ((out ++ x :: ddGo eq x rest).length : Int) = ((out ++ [x] ++ ddGo eq x rest).length : Int) := by simp
        rw [e4, ← e1]
        congr 1
        · simp
        · simp; omega
      · rw [ddGo, hp, if_neg (by decide)]; simpa using e2
      · rw [ddGo, hp, if_neg (by decide)]; simpa using e3
theorem cpt1_run {α : Type} (eq : α → α → Bool) (z : α) : ∀ (rest pre : List α) (p : α) (n : Nat), rest.length < n → (pre ++ p :: rest).length < 4611686018427387904 →
    cpt1 eq z (pre ++ p :: rest) n ((pre.length + 1 : Nat) : Int) = some (pre ++ p :: ddGo eq p rest)
  | [], pre, p, 0, h, _ => by simp at h
  | [], pre, p, n + 1, h, hl => by rw [cpt1, if_neg (by simp)]; simp [ddGo]
  | x :: rest, pre, p, 0, h, _ => by simp at h
  | x :: rest, pre, p, n + 1, h, hl => by
    have hlen : (pre ++ p :: x :: rest).length = pre.length + rest.length + 2 := by simp; omega
    rw [hlen] at hl
    rw [cpt1, if_pos (by rw [hlen]; simp; omega)]
    rw [show pre ++ p :: x :: rest = (pre ++ [p]) ++ x :: rest by simp, idx_mid (pre ++ [p]) x rest _ (by simp)]
    simp only [Option.bind_some]
    rw [wrap_in (x := ((pre.length + 1 : Nat) : Int) - 1) (by omega) (by omega)]
    rw [show (pre ++ [p]) ++ x :: rest = pre ++ p :: (x :: rest) by simp, idx_mid pre p (x :: rest) _ (by omega)]
    simp only [Option.bind_some]
    cases hp : eq x p with
    | true =>
      simp only [if_true]
      rw [chk_ok (by omega) (by rw [hlen]; omega)]
      simp only [Option.bind_some]
      obtain ⟨l', e1, e2, e3⟩ := cpt2_run eq (pre.length + 1) rest (pre ++ [p]) [] x FUEL (by rw [FUEL_eq]; omega) (by simp; omega) (by omega) (by simp)
      simp only [List.append_assoc, List.cons_append, List.nil_append, List.length_append, List.length_cons, List.length_nil] at e1 e2 e3
      rw [show (pre.length + (0 + 1) + 0 + 1 - (pre.length + 1) : Nat) = 1 by omega] at e1
      rw [show ((pre.length + 1 : Nat) : Int) = ((pre.length + (0 + 1) : Nat) : Int) by omega] at *
      have e1' : cpt2 eq ((pre.length + (0 + 1) : Nat) : Int) FUEL (pre ++ p :: x :: rest) ((pre.length + (0 + 1) : Nat) : Int) 1 = _ := e1
      rw [e1']
      simp only [Option.bind_some]
      rw [chk_ok (by omega) (by omega)]
      simp only [Option.bind_some, Int.toNat_natCast]
      rw [chk_ok (by omega) (by rw [clearT_length _ _ _ e3]; omega)]
      simp only [Option.bind_some]
      rw [clearT_take _ _ _ e3, e2, ddGo, hp]
      simp
    | false =>
      simp only [Bool.false_eq_true, if_false]
      rw [wrap_in (x := ((pre.length + 1 : Nat) : Int) + 1) (by omega) (by omega)]
      have := cpt1_run eq z rest (pre ++ [p]) x n (by simp at h; omega) (by simp; omega)
      simp only [List.append_assoc, List.cons_append, List.nil_append, List.length_append, List.length_cons, List.length_nil] at this
      rw [show ((pre.length + 1 : Nat) : Int) + 1 = ((pre.length + (0 + 1) + 1 : Nat) : Int) by omega, this, ddGo, hp]
      simp
theorem cptF_run {α : Type} (eq : α → α → Bool) (z : α) (l : List α) (hl : l.length < 4611686018427387904) : cptF eq z l = some (dd eq l) := by
  unfold cptF
  cases l with
  | nil => rfl
  | cons x xs =>
    cases xs with
    | nil => simp [dd, ddGo]
    | cons y ys =>
      rw [if_neg (by simp; omega)]
      have := cpt1_run eq z (y :: ys) [] x FUEL (by rw [FUEL_eq]; simp at hl ⊢; omega) (by simpa using hl)
      simpa [dd] using this
structure LtOn {α : Type} (lt : α → α → Prop) (P : α → Prop) : Prop where
  irrefl : ∀ x, P x → ¬ lt x x
  trans : ∀ x y z, P x → P y → P z → lt x y → lt y z → lt x z
  total : ∀ x y, P x → P y → lt x y ∨ x = y ∨ lt y x
def IsSet {α : Type} (lt : α → α → Prop) (P : α → Prop) (l out : List α) : Prop := out.Pairwise lt ∧ ∀ x, x ∈ out ↔ x ∈ l ∧ P x
theorem IsSet.unique {α : Type} {lt : α → α → Prop} {P : α → Prop} (H : LtOn lt P) : ∀ {l a b : List α}, IsSet lt P l a → IsSet lt P l b → a = b := by
  have key : ∀ a b : List α, (∀ x ∈ a, P x) → a.Pairwise lt → b.Pairwise lt → (∀ x, x ∈ a ↔ x ∈ b) → a = b := by
    intro a
    induction a with
    | nil => intro b _ _ _ hm; cases b with
      | nil => rfl
      | cons y ys => exact absurd ((hm y).2 (by simp)) (by simp)
    | cons x xs ih =>
      intro b hP ha hb hm
      cases b with
      | nil => exact absurd ((hm x).1 (by simp)) (by simp)
      | cons y ys =>
        have hPy : P y := hP y ((hm y).2 (by simp))
        have hPx : P x := hP x (by simp)
        have ha' := List.pairwise_cons.1 ha
        have hb' := List.pairwise_cons.1 hb
        have hxy : x = y := by
          rcases List.mem_cons.1 ((hm x).1 (by simp)) with h | h
          · exact h
          · rcases List.mem_cons.1 ((hm y).2 (by simp)) with h2 | h2
            · exact h2.symm
            · exact absurd (H.trans x y x hPx hPy hPx (ha'.1 y h2) (hb'.1 x h)) (H.irrefl x hPx)
        subst hxy
        congr 1
        refine ih ys (fun z hz => hP z (by simp [hz])) ha'.2 hb'.2 (fun z => ?_)
        constructor
        · intro hz
          rcases List.mem_cons.1 ((hm z).1 (by simp [hz])) with h | h
          · subst h; exact absurd (ha'.1 z hz) (H.irrefl z hPx)
          · exact h
        · intro hz
          rcases List.mem_cons.1 ((hm z).2 (by simp [hz])) with h | h
          · subst h; exact absurd (hb'.1 z hz) (H.irrefl z hPx)
          · exact h
  intro l a b ha hb
  exact key a b (fun x hx => ((ha.2 x).1 hx).2) ha.1 hb.1 (fun x => (ha.2 x).trans (hb.2 x).symm)
theorem ddGo_mem {α : Type} {eq : α → α → Bool} (he : ∀ x y, eq x y = true ↔ x = y) : ∀ (l : List α) (p x : α), x ∈ p :: ddGo eq p l ↔ x ∈ p :: l
  | [], p, x => by simp [ddGo]
  | y :: l, p, x => by
    rw [ddGo]
    split
    · rename_i h
      have := (he y p).1 h
      subst this
      rw [ddGo_mem he l y x]; simp
    · have := ddGo_mem he l y x
      simp only [List.mem_cons] at this ⊢
      rw [this]
theorem dd_mem {α : Type} {eq : α → α → Bool} (he : ∀ x y, eq x y = true ↔ x = y) (l : List α) (x : α) : x ∈ dd eq l ↔ x ∈ l := by
  cases l with
  | nil => simp [dd]
  | cons y l => exact ddGo_mem he l y x
theorem ddGo_sorted {α : Type} {eq : α → α → Bool} {lt : α → α → Prop} {P : α → Prop} (he : ∀ x y, eq x y = true ↔ x = y) (H : LtOn lt P) : ∀ (l : List α) (p : α), (∀ x ∈ p :: l, P x) → (p :: l).Pairwise (fun a b => ¬ lt b a) → (p :: ddGo eq p l).Pairwise lt
  | [], p, _, _ => by simp [ddGo]
  | y :: l, p, hP, hs => by
    have h1 := List.pairwise_cons.1 hs
    rw [ddGo]
    split
    · rename_i h
      have := (he y p).1 h
      subst this
      exact ddGo_sorted he H l y (fun x hx => hP x (List.mem_cons_of_mem _ hx)) h1.2
    · rename_i h
      have ih := ddGo_sorted he H l y (fun x hx => hP x (List.mem_cons_of_mem _ hx)) h1.2
      refine List.pairwise_cons.2 ⟨fun z hz => ?_, ih⟩
      have hpy : lt p y := by
        rcases H.total p y (hP p (by simp)) (hP y (by simp)) with h2 | h2 | h2
        · exact h2
        · exact absurd ((he y p).2 h2.symm) h
        · exact absurd h2 (h1.1 y (by simp))
      rcases List.mem_cons.1 hz with rfl | hz'
      · exact hpy
      · have hzl : z ∈ y :: l := (ddGo_mem he l y z).1 hz
        exact H.trans p y z (hP p (by simp)) (hP y (by simp)) (hP z (List.mem_cons_of_mem _ hzl)) hpy ((List.pairwise_cons.1 ih).1 z hz')
theorem dd_sorted {α : Type} {eq : α → α → Bool} {lt : α → α → Prop} {P : α → Prop} (he : ∀ x y, eq x y = true ↔ x = y) (H : LtOn lt P) (l : List α) (hP : ∀ x ∈ l, P x) (hs : l.Pairwise (fun a b => ¬ lt b a)) : (dd eq l).Pairwise lt := by
  cases l with
  | nil => simp [dd]
  | cons y l => exact ddGo_sorted he H l y hP hs
theorem sort_pairwise {α : Type} {le : α → α → Bool} {P : α → Prop} (ht : ∀ a b c, P a → P b → P c → le a b = true → le b c = true → le a c = true) (ho : ∀ a b, P a → P b → (le a b || le b a) = true) (l : List α) (hP : ∀ x ∈ l, P x) :
    (l.mergeSort le).Pairwise (fun a b => le a b = true) := by
  have e : l = (l.attachWith P hP).map Subtype.val := by simp
  have hm : ((l.attachWith P hP).mergeSort fun a b => le a.1 b.1).map Subtype.val = l.mergeSort le := by
    conv => rhs; rw [e]
    exact List.map_mergeSort (fun a _ b _ => rfl)
  rw [← hm, List.pairwise_map]
  exact List.pairwise_mergeSort (le := fun (a b : {x // P x}) => le a.1 b.1) (fun a b c h1 h2 => ht a.1 b.1 c.1 a.2 b.2 c.2 h1 h2) (fun a b => ho a.1 b.1 a.2 b.2) _
theorem sortF_isSet {α : Type} {eq : α → α → Bool} {lt : α → α → Prop} {P : α → Prop} {cf : α × α → Option Int} {l : List α} (he : ∀ x y, eq x y = true ↔ x = y) (H : LtOn lt P) (hP : ∀ x ∈ l, P x) (hl : l.length < 4611686018427387904)
    (hc : ∀ x y, P x → P y → ∃ c, cf (x, y) = some c ∧ (c < 0 ↔ lt x y)) : ∃ s, sortF cf l = some s ∧ s.length = l.length ∧ IsSet lt P l (dd eq s) := by
  have hless : ∀ x y, P x → P y → (lessO cf x y = true ↔ lt x y) := fun x y hx hy => by
    obtain ⟨c, h1, h2⟩ := hc x y hx hy
    unfold lessO
    rw [h1]
    simpa using h2
  have hless' : ∀ x y, P x → P y → (lessO cf x y = false ↔ ¬ lt x y) := fun x y hx hy => by
    rw [← hless x y hx hy]; simp
  have ok : SortOk cf l := by
    refine ⟨fun x hx y hy => ?_, fun x hx => ?_, fun x hx y hy z hz h1 h2 => ?_, fun x hx y hy h1 h2 => ?_, hl⟩
    · obtain ⟨c, h1, _⟩ := hc x y (hP x hx) (hP y hy); exact ⟨c, h1⟩
    · exact (hless' x x (hP x hx) (hP x hx)).2 (H.irrefl x (hP x hx))
    · rw [hless _ _ (hP x hx) (hP y hy)] at h1
      rw [hless _ _ (hP y hy) (hP z hz)] at h2
      rw [hless _ _ (hP x hx) (hP z hz)]
      exact H.trans x y z (hP x hx) (hP y hy) (hP z hz) h1 h2
    · rw [hless' _ _ (hP x hx) (hP y hy)] at h1
      rw [hless' _ _ (hP y hy) (hP x hx)] at h2
      rcases H.total x y (hP x hx) (hP y hy) with h | h | h
      · exact absurd h h1
      · exact h
      · exact absurd h h2
  refine ⟨_, sortF_of ok, by simp [sorted], ?_, ?_⟩
  · have hperm : ∀ x, x ∈ sorted cf l ↔ x ∈ l := fun x => by simp [sorted]
    refine dd_sorted he H _ (fun x hx => hP x ((hperm x).1 hx)) ?_
    have := sort_pairwise (le := fun x y => !lessO cf y x) (P := P) (fun a b c ha hb hcc h1 h2 => ?_) (fun a b ha hb => ?_) l hP
    · refine (this.imp_of_mem ?_ : _)
      intro a b ha hb h
      have ha' : a ∈ l := (hperm a).1 ha
      have hb' : b ∈ l := (hperm b).1 hb
      simp at h
      exact (hless' b a (hP b hb') (hP a ha')).1 h
    · simp at h1 h2 ⊢
      rw [hless' _ _ hb ha] at h1
      rw [hless' _ _ hcc hb] at h2
      rw [hless' _ _ hcc ha]
      intro h3
      rcases H.total a b ha hb with h | h | h
      · exact h2 (H.trans c a b hcc ha hb h3 h)
      · subst h; exact h2 h3
      · exact h1 h
    · simp only [Bool.or_eq_true, Bool.not_eq_true']
      rw [hless' _ _ hb ha, hless' _ _ ha hb]
      by_cases h : lt b a
      · right; intro h2; exact H.irrefl a ha (H.trans a b a ha hb ha h2 h)
      · exact .inl h
  · intro x
    rw [dd_mem he]
    constructor
    · intro hx
      have : x ∈ l := by simpa [sorted] using hx
      exact ⟨this, hP x this⟩
    · intro hx; simpa [sorted] using hx.1
end Go.Proofs.YtmlncblocfcmiaaGreat
namespace Go.Proofs.YtmlncblocfcmiaaGreat
open Go.RowKit
theorem bl_irrefl : ∀ a : List UInt8, Op.bytesLess a a = false
  | [] => rfl
  | x :: a => by simp [Op.bytesLess, bl_irrefl a]
theorem u8_tri (x y : UInt8) : x < y ∨ x = y ∨ y < x := by
  rcases Nat.lt_trichotomy x.toNat y.toNat with h | h | h
  · exact .inl h
  · exact .inr (.inl (UInt8.toNat_inj.1 h))
  · exact .inr (.inr h)
theorem bl_trans : ∀ a b c : List UInt8, Op.bytesLess a b = true → Op.bytesLess b c = true → Op.bytesLess a c = true
  | [], [], c, h1, _ => by simp [Op.bytesLess] at h1
  | _ :: _, [], c, h1, _ => by simp [Op.bytesLess] at h1
  | a, _ :: _, [], _, h2 => by simp [Op.bytesLess] at h2
  | [], b :: bs, c :: cs, _, _ => rfl
  | a :: ax, b :: bs, c :: cs, h1, h2 => by
    simp only [Op.bytesLess, Bool.or_eq_true, decide_eq_true_eq, Bool.and_eq_true, beq_iff_eq] at h1 h2 ⊢
    rcases h1 with h1 | ⟨rfl, h1⟩
    · rcases h2 with h2 | ⟨rfl, h2⟩
      · exact .inl (UInt8.lt_trans h1 h2)
      · exact .inl h1
    · rcases h2 with h2 | ⟨rfl, h2⟩
      · exact .inl h2
      · exact .inr ⟨rfl, bl_trans ax bs cs h1 h2⟩
theorem bl_total : ∀ a b : List UInt8, Op.bytesLess a b = true ∨ a = b ∨ Op.bytesLess b a = true
  | [], [] => .inr (.inl rfl)
  | [], _ :: _ => .inl rfl
  | _ :: _, [] => .inr (.inr rfl)
  | a :: ax, b :: bs => by
    simp only [Op.bytesLess, Bool.or_eq_true, decide_eq_true_eq, Bool.and_eq_true, beq_iff_eq, List.cons.injEq]
    rcases u8_tri a b with h | h | h
    · exact .inl (.inl h)
    · subst h
      rcases bl_total ax bs with h | h | h
      · exact .inl (.inr ⟨rfl, h⟩)
      · exact .inr (.inl ⟨rfl, h⟩)
      · exact .inr (.inr (.inr ⟨rfl, h⟩))
    · exact .inr (.inr (.inl h))
theorem cmp_neg : ∀ a b : List UInt8, (Lib.compareBytes a b < 0 ↔ Op.bytesLess a b = true)
  | [], [] => by simp [Lib.compareBytes, Op.bytesLess]
  | [], _ :: _ => by simp [Lib.compareBytes, Op.bytesLess]
  | _ :: _, [] => by simp [Lib.compareBytes, Op.bytesLess]
  | a :: ax, b :: bs => by
    simp only [Lib.compareBytes, Op.bytesLess, Bool.or_eq_true, decide_eq_true_eq, Bool.and_eq_true, beq_iff_eq]
    by_cases h : a < b
    · simp [h]
    · by_cases h2 : b < a
      · have : a ≠ b := by rintro rfl; exact h h2
        simp [h, h2, this]
      · have : a = b := by rcases u8_tri a b with h3 | h3 | h3; exact absurd h3 h; exact h3; exact absurd h3 h2
        subst this
        simp [h, cmp_neg ax bs]
theorem cmp_zero : ∀ a b : List UInt8, (Lib.compareBytes a b = 0 ↔ a = b)
  | [], [] => by simp [Lib.compareBytes]
  | [], _ :: _ => by simp [Lib.compareBytes]
  | _ :: _, [] => by simp [Lib.compareBytes]
  | a :: ax, b :: bs => by
    simp only [Lib.compareBytes, List.cons.injEq]
    by_cases h : a < b
    · simp only [h, if_true]
      constructor
      · intro h; cases h
      · rintro ⟨rfl, _⟩; exact absurd h (by simp)
    · by_cases h2 : b < a
      · simp only [h, h2, if_true, if_false]
        constructor
        · intro h; cases h
        · rintro ⟨rfl, _⟩; exact absurd h2 (by simp)
      · have : a = b := by rcases u8_tri a b with h3 | h3 | h3; exact absurd h3 h; exact h3; exact absurd h3 h2
        subst this
        simp [h, cmp_zero ax bs]
theorem ltS_def (a b : ByteArray) : ltS a b = Op.bytesLess a.data.toList b.data.toList := by unfold ltS; rw [ByteArray.toList_eq, ByteArray.toList_eq]
theorem ba_ext {a b : ByteArray} (h : a.data.toList = b.data.toList) : a = b := ByteArray.ext (Array.toList_inj.1 h)
theorem ltS_irrefl (a : ByteArray) : ltS a a = false := by rw [ltS_def, bl_irrefl]
theorem ltS_trans {a b c : ByteArray} (h1 : ltS a b = true) (h2 : ltS b c = true) : ltS a c = true := by rw [ltS_def] at *; exact bl_trans _ _ _ h1 h2
theorem ltS_total (a b : ByteArray) : ltS a b = true ∨ a = b ∨ ltS b a = true := by
  rw [ltS_def, ltS_def]
  rcases bl_total a.data.toList b.data.toList with h | h | h
  · exact .inl h
  · exact .inr (.inl (ba_ext h))
  · exact .inr (.inr h)
theorem ltS_asymm {a b : ByteArray} (h : ltS a b = true) : ltS b a = false := by
  cases h2 : ltS b a with
  | false => rfl
  | true => have := ltS_trans h h2; rw [ltS_irrefl] at this; cases this
theorem ltOnS (P : ByteArray → Prop) : LtOn (fun a b => ltS a b = true) P :=
  ⟨fun x _ h => (by rw [ltS_irrefl] at h; cases h), fun x y z _ _ _ => ltS_trans, fun x y _ _ => ltS_total x y⟩
def isLetter (b : UInt8) : Bool := decide (97 ≤ b.toNat) && decide (b.toNat ≤ 122)
def isSign (b : UInt8) : Bool := isLetter b || (decide (48 ≤ b.toNat) && decide (b.toNat ≤ 57)) || decide (b.toNat = 45)
def rightN (s : ByteArray) : Bool := decide (1 ≤ s.size) && decide (s.size ≤ 16) && (match s.data.toList with | [] => false | b :: _ => isLetter b) && s.data.toList.all isSign
theorem rightN_size {s : ByteArray} (h : rightN s = true) : 1 ≤ s.size ∧ s.size ≤ 16 := by
  simp only [rightN, Bool.and_eq_true, decide_eq_true_eq] at h
  exact h.1.1
theorem letters_ix : ∀ n : Nat, n < 256 → decide (xIndexByte (⟨#[97, 98, 99, 100, 101, 102, 103, 104, 105, 106, 107, 108, 109, 110, 111, 112, 113, 114, 115, 116, 117, 118, 119, 120, 121, 122]⟩ : ByteArray) (n : Int) ≥ 0) = isLetter (UInt8.ofNat n) := by decide +kernel
theorem signs_ix : ∀ n : Nat, n < 256 → decide (xIndexByte (⟨#[97, 98, 99, 100, 101, 102, 103, 104, 105, 106, 107, 108, 109, 110, 111, 112, 113, 114, 115, 116, 117, 118, 119, 120, 121, 122, 48, 49, 50, 51, 52, 53, 54, 55, 56, 57, 45]⟩ : ByteArray) (n : Int) < 0) = !isSign (UInt8.ofNat n) := by decide +kernel
theorem size_list (s : ByteArray) : s.size = s.data.toList.length := by rw [Array.length_toList]; rfl
theorem bytesB_some {s : ByteArray} (h : s.size ≤ 16) : bytesB s = some (bytesI s) := by
  unfold bytesB; rw [if_pos (by unfold maxLen; omega)]
theorem only_run : ∀ l : List UInt8, m_name_only_L1 (l.map fun b => (b.toNat : Int)) = some (l.all isSign)
  | [] => rfl
  | b :: l => by
    rw [List.map_cons, m_name_only_L1]
    simp only [m_strings_IndexByte, m_internal_stringslite_IndexByte, Option.bind_some]
    have hb := signs_ix b.toNat (UInt8.toNat_lt b)
    rw [hb]
    simp only [UInt8.ofNat_toNat, List.all_cons]
    cases isSign b with
    | true => simp [only_run l]
    | false => simp
theorem idxS_head {s : ByteArray} {b : UInt8} {l : List UInt8} (h : s.data.toList = b :: l) : idxS s 0 = some b := by
  unfold idxS
  rw [if_pos (Int.le_refl 0)]
  have h0 : s.data[0]? = some b := by rw [← Array.getElem?_toList, h]; rfl
  show s[0]? = some b
  rw [← h0]
  rfl
theorem m_name_Right_eq (s : ByteArray) : m_name_Right s = some (rightN s) := by
  unfold m_name_Right
  simp only [andS, Option.bind_some, bindS]
  by_cases h1 : 1 ≤ s.size
  · by_cases h2 : s.size ≤ 16
    · rw [if_pos (by simp; omega)]
      obtain ⟨b, l, hl⟩ : ∃ b l, s.data.toList = b :: l := by
        cases h : s.data.toList with
        | nil => rw [size_list, h] at h1; simp at h1
        | cons b l => exact ⟨b, l, rfl⟩
      rw [idxS_head hl]
      simp only [Option.bind_some, m_strings_IndexByte, m_internal_stringslite_IndexByte]
      rw [letters_ix b.toNat (UInt8.toNat_lt b)]
      simp only [UInt8.ofNat_toNat, rightN, h1, h2, hl, decide_true, Bool.true_and]
      cases isLetter b with
      | false => simp
      | true =>
        simp only [if_true, m_name_only, bytesB_some h2, Option.bind_some, bytesI]
        rw [only_run, hl]
        simp
    · rw [if_neg (by simp; omega)]
      simp [rightN, h2]
  · rw [if_neg (by simp; omega)]
    simp [rightN, h1]
theorem idxS_at {s : ByteArray} {A B : List UInt8} {b : UInt8} (h : s.data.toList = A ++ b :: B) (i : Int) (hi : i = (A.length : Int)) : idxS s i = some b := by
  subst hi
  unfold idxS
  rw [if_pos (by omega), Int.toNat_natCast]
  have h0 : s.data[A.length]? = some b := by rw [← Array.getElem?_toList, h]; simp
  show s[A.length]? = some b
  rw [← h0]
  rfl
theorem refRight_run (s : ByteArray) (hs : s.size ≤ 16) : ∀ (B A : List UInt8) (n : Nat), s.data.toList = A ++ B → B.length < n → m_ref03_Right_L1 s n (A.length : Int) = some (B.all isSign)
  | [], A, 0, _, h => by simp at h
  | [], A, n + 1, h, _ => by
    have : s.size = A.length := by rw [size_list, h]; simp
    rw [m_ref03_Right_L1, if_neg (by rw [this]; simp)]
    rfl
  | b :: B, A, 0, _, h => by simp at h
  | b :: B, A, n + 1, h, hn => by
    have hsz : s.size = A.length + B.length + 1 := by rw [size_list, h]; simp; omega
    rw [m_ref03_Right_L1, if_pos (by rw [hsz]; simp; omega)]
    rw [idxS_at h _ rfl]
    simp only [Option.bind_some]
    rw [wrap_in (x := (A.length : Int) + 1) (by omega) (by omega)]
    have ih := refRight_run s hs B (A ++ [b]) n (by rw [h]; simp) (by simp at hn; omega)
    rw [show ((A ++ [b]).length : Int) = (A.length : Int) + 1 by simp] at ih
    simp only [List.all_cons]
    have hsg : ∀ n : Nat, n < 256 → isSign (UInt8.ofNat n) = !((decide (n < 97) || decide (n > 122)) && (decide (n < 48) || decide (n > 57)) && decide (n ≠ 45)) := by decide +kernel
    have hb := hsg b.toNat (UInt8.toNat_lt b)
    simp only [UInt8.ofNat_toNat] at hb
    rw [hb]
    by_cases h1 : b.toNat < 97 <;> by_cases h2 : b.toNat > 122 <;> by_cases h3 : b.toNat < 48 <;> by_cases h4 : b.toNat > 57 <;> by_cases h5 : b.toNat = 45 <;>
      first
      | omega
      | (have h1' : ((b.toNat : Int) < 97) = (b.toNat < 97) := by rw [eq_iff_iff]; omega
         have h2' : ((b.toNat : Int) > 122) = (b.toNat > 122) := by rw [eq_iff_iff]; omega
         have h3' : ((b.toNat : Int) < 48) = (b.toNat < 48) := by rw [eq_iff_iff]; omega
         have h4' : ((b.toNat : Int) > 57) = (b.toNat > 57) := by rw [eq_iff_iff]; omega
         have h5' : ((b.toNat : Int) != 45) = !decide (b.toNat = 45) := by rw [Bool.eq_iff_iff]; simp; omega
         simp [h1, h2, h3, h4, h5, h1', h2', h3', h4', h5', ih])
theorem beqS_refl (a : ByteArray) : beqS a a = true := beqS_iff.2 rfl
theorem zS_size : zS.size = 0 := rfl
theorem eq_zS {s : ByteArray} : s = zS ↔ s.size = 0 := by
  constructor
  · rintro rfl; rfl
  · intro h; exact ba_ext (by rw [size_list] at h; rw [List.length_eq_zero_iff.1 h]; rfl)
theorem m_ref03_Right_eq (s : ByteArray) : m_ref03_Right s = some (rightN s) := by
  unfold m_ref03_Right
  simp only [orS, Option.bind_some, bindS]
  by_cases h0 : s.size = 0
  · have : s = zS := eq_zS.2 h0
    subst this
    rw [beqS_refl]
    rfl
  · have hb : beqS s zS = false := by
      cases h : beqS s zS with
      | false => rfl
      | true => exact absurd (eq_zS.1 (beqS_iff.1 h)) h0
    rw [hb]
    simp only [Bool.false_or]
    by_cases h2 : s.size ≤ 16
    · rw [if_neg (by simp; omega)]
      obtain ⟨b, l, hl⟩ : ∃ b l, s.data.toList = b :: l := by
        cases h : s.data.toList with
        | nil => rw [size_list, h] at h0; simp at h0
        | cons b l => exact ⟨b, l, rfl⟩
      rw [idxS_head hl]
      simp only [Option.bind_some, orS]
      have hr := refRight_run s h2 s.data.toList [] FUEL rfl (by rw [FUEL_eq, ← size_list]; omega)
      simp only [List.length_nil] at hr
      rw [show (0 : Int) = ((0 : Nat) : Int) from rfl] at *
      rw [hr]
      have h97 : ((b.toNat : Int) < 97) = (b.toNat < 97) := by rw [eq_iff_iff]; omega
      have h122 : ((b.toNat : Int) > 122) = (b.toNat > 122) := by rw [eq_iff_iff]; omega
      have h1 : 1 ≤ s.size := by omega
      simp only [rightN, h1, h2, hl, isLetter, decide_true, Bool.true_and, h97, h122]
      by_cases a : b.toNat < 97
      · simp [a, show ¬ 97 ≤ b.toNat by omega]
      · by_cases c : b.toNat > 122
        · simp [a, c, show ¬ b.toNat ≤ 122 by omega]
        · simp [a, c, show 97 ≤ b.toNat by omega, show b.toNat ≤ 122 by omega]
    · rw [if_pos (by simp; omega)]
      simp [rightN, h2]
def rightR (r : Role) : Bool := rightN r.Owner && rightN r.Word
theorem m_role_Right_eq (r : Role) : m_role_Right r = some (rightR r) := by
  unfold m_role_Right rightR
  simp only [m_name_Right_eq, Option.bind_some]
  cases rightN r.Owner <;> simp
theorem m_ref04_Right_eq (r : Role) : m_ref04_Right r = some (rightR r) := by
  unfold m_ref04_Right rightR
  simp only [m_ref03_Right_eq, Option.bind_some]
  cases rightN r.Owner <;> simp
def ltR (a b : Role) : Bool := ltS a.Owner b.Owner || (beqS a.Owner b.Owner && ltS a.Word b.Word)
theorem m_ref04_Less_eq (a b : Role) : m_ref04_Less a b = some (ltR a b) := by
  unfold m_ref04_Less ltR
  cases ltS a.Owner b.Owner <;> cases beqS a.Owner b.Owner <;> simp
theorem beqS_ne {a b : ByteArray} (h : a ≠ b) : beqS a b = false := by
  cases h2 : beqS a b with
  | false => rfl
  | true => exact absurd (beqS_iff.1 h2) h
theorem ltR_iff {a b : Role} : ltR a b = true ↔ ltS a.Owner b.Owner = true ∨ (a.Owner = b.Owner ∧ ltS a.Word b.Word = true) := by
  simp [ltR, beqS_iff]
theorem ltOnR (P : Role → Prop) : LtOn (fun a b => ltR a b = true) P := by
  refine ⟨fun x _ h => ?_, fun x y z _ _ _ h1 h2 => ?_, fun x y _ _ => ?_⟩
  · rw [ltR_iff] at h
    simp [ltS_irrefl] at h
  · rw [ltR_iff] at *
    rcases h1 with h1 | ⟨e1, h1⟩
    · rcases h2 with h2 | ⟨e2, h2⟩
      · exact .inl (ltS_trans h1 h2)
      · exact .inl (by rw [← e2]; exact h1)
    · rcases h2 with h2 | ⟨e2, h2⟩
      · exact .inl (by rw [e1]; exact h2)
      · exact .inr ⟨e1.trans e2, ltS_trans h1 h2⟩
  · simp only [ltR_iff]
    rcases ltS_total x.Owner y.Owner with h | h | h
    · exact .inl (.inl h)
    · rcases ltS_total x.Word y.Word with h2 | h2 | h2
      · exact .inl (.inr ⟨h, h2⟩)
      · refine .inr (.inl ?_)
        cases x; cases y; simp at h h2; simp [h, h2]
      · exact .inr (.inr (.inr ⟨h.symm, h2⟩))
    · exact .inr (.inr (.inl h))
theorem m_role_Compare_eq (a b : Role) : ∃ c, m_role_Compare a b = some c ∧ (c < 0 ↔ ltR a b = true) := by
  unfold m_role_Compare
  simp only [m_strings_Compare, m_internal_bytealg_CompareString, Option.bind_some, m_cmp_Or_int, m_cmp_Or_int_L1]
  have h1 : ∀ a b : ByteArray, (xCompareS a b < 0 ↔ ltS a b = true) := fun a b => by rw [ltS_def]; exact cmp_neg _ _
  have h0 : ∀ a b : ByteArray, (xCompareS a b = 0 ↔ a = b) := fun a b => by
    unfold xCompareS; rw [cmp_zero]; exact ⟨ba_ext, fun h => by rw [h]⟩
  by_cases e : xCompareS a.Owner b.Owner = 0
  · rw [if_neg (by simp [e])]
    have e' := (h0 _ _).1 e
    by_cases e2 : xCompareS a.Word b.Word = 0
    · rw [if_neg (by simp [e2])]
      refine ⟨0, rfl, ?_⟩
      rw [ltR_iff, e', (h0 _ _).1 e2]
      simp [ltS_irrefl]
    · rw [if_pos (by simp [e2])]
      refine ⟨_, rfl, ?_⟩
      rw [ltR_iff, e', h1]
      simp [ltS_irrefl]
  · rw [if_pos (by simp [e])]
    refine ⟨_, rfl, ?_⟩
    rw [ltR_iff, h1]
    have : a.Owner ≠ b.Owner := fun h => e ((h0 _ _).2 h)
    simp [this]
def zR : Role := ⟨zS, zS⟩
theorem beqS_comm (a b : ByteArray) : beqS a b = beqS b a := by rw [Bool.eq_iff_iff, beqS_iff, beqS_iff]; exact eq_comm
theorem beqRole_comm (a b : Role) : beqRole a b = beqRole b a := by rw [Bool.eq_iff_iff, beqRole_iff, beqRole_iff]; exact eq_comm
theorem beqRole_refl (a : Role) : beqRole a a = true := beqRole_iff.2 rfl
def rightC (c : Cred) : Bool := rightR c.Head && (
  if c.Kind == 1 then rightN c.Who && beqRole zR c.B && beqRole zR c.C && beqS zS c.Word2
  else if c.Kind == 2 then rightR c.B && beqS zS c.Who && beqRole zR c.C && beqS zS c.Word2
  else if c.Kind == 3 then rightR c.B && beqS c.B.Owner c.Head.Owner && rightN c.Word2 && beqS zS c.Who && beqRole zR c.C
  else if c.Kind == 4 then rightR c.B && rightR c.C && ltR c.B c.C && beqS zS c.Who && beqS zS c.Word2
  else false)
theorem m_cred_Right_eq (c : Cred) : m_cred_Right c = some (rightC c) := by
  unfold m_cred_Right rightC
  simp only [m_role_Right_eq, m_name_Right_eq, Option.bind_some]
  obtain ⟨k, hk, hk2⟩ := m_role_Compare_eq c.B c.C
  rw [hk]
  have hk3 : decide (k < 0) = ltR c.B c.C := by rw [Bool.eq_iff_iff, ← hk2]; simp
  simp only [Option.bind_some, hk3]
  by_cases h1 : c.Kind = 1
  · cases rightR c.Head <;> cases rightN c.Who <;> simp [h1, beqCred, beqRole_refl, beqS_refl, zR, Bool.and_assoc]
  · by_cases h2 : c.Kind = 2
    · cases rightR c.Head <;> cases rightR c.B <;> simp [h2, beqCred, beqRole_refl, beqS_refl, zR, Bool.and_assoc]
    · by_cases h3 : c.Kind = 3
      · cases rightR c.Head <;> cases rightR c.B <;> cases beqS c.B.Owner c.Head.Owner <;> cases rightN c.Word2 <;> simp [h3, beqCred, beqRole_refl, beqS_refl, zR, Bool.and_assoc]
      · by_cases h4 : c.Kind = 4
        · cases rightR c.Head <;> cases rightR c.B <;> cases rightR c.C <;> cases ltR c.B c.C <;> simp [h4, beqCred, beqRole_refl, beqS_refl, zR, Bool.and_assoc]
        · simp [h1, h2, h3, h4]
theorem m_ref05_Right_eq (c : Cred) : m_ref05_Right c = some (rightC c) := by
  unfold m_ref05_Right rightC
  simp only [m_ref04_Right_eq, m_ref03_Right_eq, m_ref04_Less_eq, Option.bind_some]
  rw [show (⟨zS, zS⟩ : Role) = zR from rfl, beqRole_comm c.B zR, beqRole_comm c.C zR, beqS_comm c.Word2 zS, beqS_comm c.Who zS]
  by_cases h1 : c.Kind = 1
  · cases rightR c.Head <;> cases rightN c.Who <;> cases beqRole zR c.B <;> cases beqRole zR c.C <;> simp [h1]
  · by_cases h2 : c.Kind = 2
    · cases rightR c.Head <;> cases rightR c.B <;> cases beqS zS c.Who <;> cases beqRole zR c.C <;> simp [h2]
    · by_cases h3 : c.Kind = 3
      · cases rightR c.Head <;> cases rightR c.B <;> cases beqS zS c.Who <;> cases beqRole zR c.C <;> cases beqS c.B.Owner c.Head.Owner <;> simp [h3]
      · by_cases h4 : c.Kind = 4
        · cases rightR c.Head <;> cases rightR c.B <;> cases beqS zS c.Who <;> cases beqS zS c.Word2 <;> cases rightR c.C <;> simp [h4]
        · cases rightR c.Head <;> cases rightR c.B <;> cases beqS zS c.Who <;> simp [h1, h2, h3, h4]
end Go.Proofs.YtmlncblocfcmiaaGreat
namespace Go.Proofs.YtmlncblocfcmiaaGreat
open Go.RowKit
theorem appB_ok {α : Type} {b : Nat} {l m : List α} (h : (l.length + m.length) * b ≤ 140737488355328) (h2 : l.length + m.length ≤ 9223372036854775807) : appB b l m = some (l ++ m) := by
  unfold appB; rw [if_pos ⟨h, by unfold maxLen; omega⟩]
theorem app1 {l m : List Int} (h : l.length + m.length ≤ 1000000) : appB 1 l m = some (l ++ m) := appB_ok (by omega) (by omega)
def textI (s : ByteArray) : List Int := (s.size : Int) :: bytesI s
def roleI (r : Role) : List Int := textI r.Owner ++ textI r.Word
def bodyI (c : Cred) : List Int := if c.Kind = 1 then textI c.Who else if c.Kind = 2 then roleI c.B else if c.Kind = 3 then roleI c.B ++ textI c.Word2 else roleI c.B ++ roleI c.C
def credI (c : Cred) : List Int := c.Kind :: (roleI c.Head ++ bodyI c)
theorem textI_length (s : ByteArray) : (textI s).length = s.size + 1 := by simp [textI, bytesI_length]
theorem roleI_length {r : Role} (h : rightR r = true) : (roleI r).length ≤ 34 := by
  simp only [rightR, Bool.and_eq_true] at h
  have h1 := rightN_size h.1
  have h2 := rightN_size h.2
  simp [roleI, textI_length]; omega
theorem penNumber {l : List Int} {n : Int} (h0 : 0 ≤ n) (h1 : n < 128) (hl : l.length ≤ 100000) : m_tape_Pen_Number_w l n = some (true, l ++ [n]) := by
  have hw : IntKind.u8.wrap n = n := by
    obtain ⟨k, rfl⟩ : ∃ k : Nat, n = k := ⟨n.toNat, by omega⟩
    have : ∀ k : Nat, k < 128 → IntKind.u8.wrap (k : Int) = (k : Int) := by decide +kernel
    exact this k (by omega)
  unfold m_tape_Pen_Number_w
  rw [if_neg (by simp; omega), fuel_big, m_tape_Pen_Number_w_L1, if_neg (by simp; omega), hw, app1 (by simp; omega)]
  rfl
theorem putName {l : List Int} {s : ByteArray} (h : rightN s = true) (hl : l.length ≤ 10000) : m_name_Put_w l s = some (true, l ++ textI s) := by
  have h1 := rightN_size h
  unfold m_name_Put_w
  simp only [m_name_Right_eq, Option.bind_some, h, if_true, bytesB_some h1.2]
  unfold m_tape_Pen_Text_w
  rw [if_neg (by rw [bytesI_length]; simp; omega)]
  rw [bytesI_length, penNumber (by omega) (by omega) (by omega)]
  simp only [Option.bind_some]
  rw [app1 (by simp [bytesI_length]; omega)]
  simp [textI]
theorem putRole {l : List Int} {r : Role} (h : rightR r = true) (hl : l.length ≤ 1000) : m_role_Put_w l r = some (true, l ++ roleI r) := by
  have h0 := h
  simp only [rightR, Bool.and_eq_true] at h
  have h1 := rightN_size h.1
  unfold m_role_Put_w
  simp only [m_role_Right_eq, Option.bind_some, h0, if_true]
  rw [putName h.1 (by omega)]
  simp only [Option.bind_some, if_true]
  rw [putName h.2 (by simp [textI_length]; omega)]
  simp [roleI]
theorem rightC_head {c : Cred} (h : rightC c = true) : rightR c.Head = true := by
  simp only [rightC, Bool.and_eq_true] at h; exact h.1
theorem rightC_cases {c : Cred} (h : rightC c = true) :
    (c.Kind = 1 ∧ rightN c.Who = true ∧ c.B = zR ∧ c.C = zR ∧ c.Word2 = zS) ∨
    (c.Kind = 2 ∧ rightR c.B = true ∧ c.Who = zS ∧ c.C = zR ∧ c.Word2 = zS) ∨
    (c.Kind = 3 ∧ rightR c.B = true ∧ rightN c.Word2 = true ∧ c.B.Owner = c.Head.Owner ∧ c.Who = zS ∧ c.C = zR) ∨
    (c.Kind = 4 ∧ rightR c.B = true ∧ rightR c.C = true ∧ ltR c.B c.C = true ∧ c.Who = zS ∧ c.Word2 = zS) := by
  simp only [rightC, Bool.and_eq_true] at h
  obtain ⟨_, h⟩ := h
  split at h
  · rename_i h1
    simp only [Bool.and_eq_true, beqRole_iff, beqS_iff] at h
    exact .inl ⟨by simpa using h1, h.1.1.1, h.1.1.2.symm, h.1.2.symm, h.2.symm⟩
  · split at h
    · rename_i h1
      simp only [Bool.and_eq_true, beqRole_iff, beqS_iff] at h
      exact .inr (.inl ⟨by simpa using h1, h.1.1.1, h.1.1.2.symm, h.1.2.symm, h.2.symm⟩)
    · split at h
      · rename_i h1
        simp only [Bool.and_eq_true, beqRole_iff, beqS_iff] at h
        exact .inr (.inr (.inl ⟨by simpa using h1, h.1.1.1.1, h.1.1.2, h.1.1.1.2, h.1.2.symm, h.2.symm⟩))
      · split at h
        · rename_i h1
          simp only [Bool.and_eq_true, beqRole_iff, beqS_iff] at h
          exact .inr (.inr (.inr ⟨by simpa using h1, h.1.1.1.1, h.1.1.1.2, h.1.1.2, h.1.2.symm, h.2.symm⟩))
        · cases h
theorem m_cred_Bytes_eq (c : Cred) : m_cred_Bytes c = some (if rightC c then credI c else []) := by
  unfold m_cred_Bytes
  rw [m_cred_Right_eq]
  simp only [Option.bind_some]
  cases h : rightC c with
  | false => simp
  | true =>
    have hh := rightC_head h
    have hl := roleI_length hh
    simp only [Bool.not_true, Bool.false_eq_true, if_false, if_true]
    have hk : 0 ≤ c.Kind ∧ c.Kind < 128 := by rcases rightC_cases h with h | h | h | h <;> omega
    rw [penNumber hk.1 hk.2 (by simp)]
    simp only [Option.bind_some]
    rw [putRole hh (by simp)]
    simp only [Option.bind_some, m_tape_Pen_Bytes, m_bytes_Clone]
    rcases rightC_cases h with ⟨k, h1, _⟩ | ⟨k, h1, _⟩ | ⟨k, h1, h2, _⟩ | ⟨k, h1, h2, _⟩
    · have hs := rightN_size h1
      simp only [k, beq_self_eq_true, if_true, putName h1 (show (([] ++ [(1:Int)]) ++ roleI c.Head).length ≤ 10000 by simp; omega), Option.bind_some]
      rw [app1 (by simp [textI_length]; omega)]
      simp [credI, bodyI, k]
    · have hs := roleI_length h1
      simp only [k, show ((2 : Int) == 1) = false from rfl, Bool.false_eq_true, beq_self_eq_true, if_true, if_false, putRole h1 (show (([] ++ [(2:Int)]) ++ roleI c.Head).length ≤ 1000 by simp; omega), Option.bind_some]
      rw [app1 (by simp; omega)]
      simp [credI, bodyI, k]
    · have hs := roleI_length h1
      have hs2 := rightN_size h2
      simp only [k, show ((3 : Int) == 1) = false from rfl, show ((3 : Int) == 2) = false from rfl, Bool.false_eq_true, beq_self_eq_true, if_true, if_false, putRole h1 (show (([] ++ [(3:Int)]) ++ roleI c.Head).length ≤ 1000 by simp; omega), Option.bind_some]
      rw [putName h2 (by simp; omega)]
      simp only [Option.bind_some]
      rw [app1 (by simp [textI_length]; omega)]
      simp [credI, bodyI, k]
    · have hs := roleI_length h1
      have hs2 := roleI_length h2
      simp only [k, show ((4 : Int) == 1) = false from rfl, show ((4 : Int) == 2) = false from rfl, show ((4 : Int) == 3) = false from rfl, Bool.false_eq_true, beq_self_eq_true, if_true, if_false, putRole h1 (show (([] ++ [(4:Int)]) ++ roleI c.Head).length ≤ 1000 by simp; omega), Option.bind_some]
      rw [putRole h2 (by simp; omega)]
      simp only [Option.bind_some]
      rw [app1 (by simp; omega)]
      simp [credI, bodyI, k]
def toS (l : List Int) : ByteArray := ⟨(u8s l).toArray⟩
theorem toS_list (l : List Int) : (toS l).data.toList = u8s l := rfl
theorem strI_foldl : ∀ (l : List Int) (r : ByteArray), (l.foldl (fun r n => r.push (UInt8.ofNat n.toNat)) r).data.toList = r.data.toList ++ u8s l
  | [], r => by simp [u8s]
  | x :: l, r => by
    rw [List.foldl_cons, strI_foldl l]
    show ((r.data.push _).toList) ++ _ = _
    simp [u8s]
theorem strI_eq (l : List Int) : strI l = toS l := ba_ext (by unfold strI; rw [strI_foldl]; rfl)
theorem toS_size (l : List Int) : (toS l).size = l.length := by rw [size_list, toS_list]; simp [u8s]
theorem u8s_append (a b : List Int) : u8s (a ++ b) = u8s a ++ u8s b := by simp [u8s]
theorem catS_ok (a b : List Int) (h : a.length + b.length ≤ 1000000) : catS (toS a) (toS b) = some (toS (a ++ b)) := by
  unfold catS
  rw [if_neg]
  · congr 1
    refine ba_ext ?_
    rw [toS_list, u8s_append, ← toS_list a, ← toS_list b]
    exact ByteArray.toList_data_append ▸ rfl
  · rw [toS_size, toS_size]
    show ¬ (_ > (9223372036854775807 : Int))
    omega
theorem toS_bytesI (s : ByteArray) : toS (bytesI s) = s := ba_ext (by rw [toS_list]; simp [u8s, bytesI, Function.comp_def])
theorem refNumber {n : Int} (h0 : 0 ≤ n) (h1 : n < 128) : m_ref01_Number n = some (toS [n]) := by
  have hw : IntKind.u8.wrap n = n := by
    obtain ⟨k, rfl⟩ : ∃ k : Nat, n = k := ⟨n.toNat, by omega⟩
    have : ∀ k : Nat, k < 128 → IntKind.u8.wrap (k : Int) = (k : Int) := by decide +kernel
    exact this k (by omega)
  unfold m_ref01_Number
  rw [fuel_big, m_ref01_Number_L1, if_neg (by simp; omega), hw, strI_eq, show zS = toS [] from rfl, catS_ok _ _ (by simp)]
  rfl
theorem refText {s : ByteArray} (h : rightN s = true) : m_ref01_Text s = some (toS (textI s)) := by
  have h1 := rightN_size h
  unfold m_ref01_Text
  rw [refNumber (by omega) (by omega)]
  simp only [Option.bind_some]
  have := catS_ok [(s.size : Int)] (bytesI s) (by rw [bytesI_length]; simp; omega)
  rw [toS_bytesI] at this
  rw [this]
  simp [textI]
theorem refRole {r : Role} (h : rightR r = true) : m_ref04_Bytes r = some (toS (roleI r)) := by
  simp only [rightR, Bool.and_eq_true] at h
  have h1 := rightN_size h.1
  have h2 := rightN_size h.2
  unfold m_ref04_Bytes
  rw [refText h.1, refText h.2]
  simp only [Option.bind_some]
  rw [catS_ok _ _ (by simp [textI_length]; omega)]
  rfl
theorem m_ref05_bytes_eq (c : Cred) : m_ref05_bytes c = some (toS (if rightC c then credI c else [])) := by
  unfold m_ref05_bytes
  rw [m_ref05_Right_eq]
  simp only [Option.bind_some]
  cases h : rightC c with
  | false => rfl
  | true =>
    have hh := rightC_head h
    have hl := roleI_length hh
    simp only [Bool.not_true, Bool.false_eq_true, if_false, if_true]
    have hk : 0 ≤ c.Kind ∧ c.Kind < 128 := by rcases rightC_cases h with h | h | h | h <;> omega
    unfold m_ref05_Bytes
    rw [refNumber hk.1 hk.2, refRole hh]
    simp only [Option.bind_some]
    rw [catS_ok _ _ (by simp; omega)]
    simp only [Option.bind_some]
    rcases rightC_cases h with ⟨k, h1, _⟩ | ⟨k, h1, _⟩ | ⟨k, h1, h2, _⟩ | ⟨k, h1, h2, _⟩
    · have hs := rightN_size h1
      simp only [k, beq_self_eq_true, if_true, refText h1, Option.bind_some]
      rw [catS_ok _ _ (by simp [textI_length]; omega)]
      simp [credI, bodyI, k]
    · have hs := roleI_length h1
      simp only [k, show ((2 : Int) == 1) = false from rfl, show ((2 : Int) == 3) = false from rfl, show ((2 : Int) == 4) = false from rfl, Bool.false_eq_true, if_false, refRole h1, Option.bind_some]
      rw [catS_ok _ _ (by simp; omega)]
      simp [credI, bodyI, k]
    · have hs := roleI_length h1
      have hs2 := rightN_size h2
      simp only [k, show ((3 : Int) == 1) = false from rfl, show ((3 : Int) == 4) = false from rfl, Bool.false_eq_true, beq_self_eq_true, if_true, if_false, refRole h1, Option.bind_some]
      rw [catS_ok _ _ (by simp; omega)]
      simp only [Option.bind_some, refText h2]
      rw [catS_ok _ _ (by simp [textI_length]; omega)]
      simp [credI, bodyI, k]
    · have hs := roleI_length h1
      have hs2 := roleI_length h2
      simp only [k, show ((4 : Int) == 1) = false from rfl, show ((4 : Int) == 3) = false from rfl, Bool.false_eq_true, beq_self_eq_true, if_true, if_false, refRole h1, Option.bind_some]
      rw [catS_ok _ _ (by simp; omega)]
      simp only [Option.bind_some, refRole h2]
      rw [catS_ok _ _ (by simp; omega)]
      simp [credI, bodyI, k]
def keyC (c : Cred) : List UInt8 := u8s (if rightC c then credI c else [])
def ltC (a b : Cred) : Bool := Op.bytesLess (keyC a) (keyC b)
theorem m_cred_Compare_eq (a b : Cred) : ∃ c, m_cred_Compare a b = some c ∧ (c < 0 ↔ ltC a b = true) := by
  unfold m_cred_Compare
  rw [m_cred_Bytes_eq, m_cred_Bytes_eq]
  exact ⟨_, rfl, cmp_neg _ _⟩
theorem m_ref05_Compare_eq (a b : Cred) : ∃ c, m_ref05_Compare a b = some c ∧ (c < 0 ↔ ltC a b = true) := by
  unfold m_ref05_Compare
  rw [m_ref05_bytes_eq, m_ref05_bytes_eq]
  simp only [Option.bind_some]
  have h : ltS (toS (if rightC a then credI a else [])) (toS (if rightC b then credI b else [])) = ltC a b := by rw [ltS_def]; rfl
  rw [h]
  cases ltC a b with
  | true => exact ⟨_, rfl, by decide⟩
  | false =>
    simp only [Bool.false_eq_true, if_false, Bool.false_or]
    cases hq : beqS (toS (if rightC a then credI a else [])) (toS (if rightC b then credI b else [])) with
    | true => exact ⟨0, by simp, by decide⟩
    | false => exact ⟨1, by simp, by decide⟩
theorem u8_inj {a b : Int} (ha : 0 ≤ a ∧ a < 256) (hb : 0 ≤ b ∧ b < 256) (h : a.toNat.toUInt8 = b.toNat.toUInt8) : a = b := by
  have := congrArg UInt8.toNat h
  simp only [UInt8.toNat_ofNat', Nat.toUInt8] at this
  simp at this
  omega
theorem u8s_inj : ∀ {a b : List Int}, (∀ x ∈ a, 0 ≤ x ∧ x < 256) → (∀ x ∈ b, 0 ≤ x ∧ x < 256) → u8s a = u8s b → a = b
  | [], [], _, _, _ => rfl
  | [], _ :: _, _, _, h => by simp [u8s] at h
  | _ :: _, [], _, _, h => by simp [u8s] at h
  | x :: a, y :: b, ha, hb, h => by
    simp only [u8s, List.map_cons, List.cons.injEq] at h
    rw [u8_inj (ha x (by simp)) (hb y (by simp)) h.1, u8s_inj (fun z hz => ha z (by simp [hz])) (fun z hz => hb z (by simp [hz])) h.2]
theorem textI_range {s : ByteArray} (h : rightN s = true) : ∀ x ∈ textI s, 0 ≤ x ∧ x < 256 := by
  have h1 := rightN_size h
  intro x hx
  rcases List.mem_cons.1 hx with rfl | hx
  · omega
  · simp only [bytesI, List.mem_map] at hx
    obtain ⟨b, _, rfl⟩ := hx
    have := UInt8.toNat_lt b
    omega
theorem roleI_range {r : Role} (h : rightR r = true) : ∀ x ∈ roleI r, 0 ≤ x ∧ x < 256 := by
  simp only [rightR, Bool.and_eq_true] at h
  intro x hx
  rcases List.mem_append.1 hx with hx | hx
  · exact textI_range h.1 x hx
  · exact textI_range h.2 x hx
theorem credI_range {c : Cred} (h : rightC c = true) : ∀ x ∈ credI c, 0 ≤ x ∧ x < 256 := by
  intro x hx
  rcases List.mem_cons.1 hx with rfl | hx
  · rcases rightC_cases h with h | h | h | h <;> omega
  · rcases List.mem_append.1 hx with hx | hx
    · exact roleI_range (rightC_head h) x hx
    · unfold bodyI at hx
      rcases rightC_cases h with ⟨k, h1, _⟩ | ⟨k, h1, _⟩ | ⟨k, h1, h2, _⟩ | ⟨k, h1, h2, _⟩
      · rw [if_pos k] at hx; exact textI_range h1 x hx
      · rw [if_neg (by omega), if_pos k] at hx; exact roleI_range h1 x hx
      · rw [if_neg (by omega), if_neg (by omega), if_pos k] at hx
        rcases List.mem_append.1 hx with hx | hx
        · exact roleI_range h1 x hx
        · exact textI_range h2 x hx
      · rw [if_neg (by omega), if_neg (by omega), if_neg (by omega)] at hx
        rcases List.mem_append.1 hx with hx | hx
        · exact roleI_range h1 x hx
        · exact roleI_range h2 x hx
theorem bytesI_inj {s t : ByteArray} (h : bytesI s = bytesI t) : s = t := by rw [← toS_bytesI s, h, toS_bytesI]
theorem textI_cut {s t : ByteArray} {X Y : List Int} (h : textI s ++ X = textI t ++ Y) : s = t ∧ X = Y := by
  simp only [textI, List.cons_append, List.cons.injEq] at h
  obtain ⟨h1, h2⟩ := h
  have hl : (bytesI s).length = (bytesI t).length := by rw [bytesI_length, bytesI_length]; omega
  have := List.append_inj h2 hl
  exact ⟨bytesI_inj this.1, this.2⟩
theorem roleI_cut {a b : Role} {X Y : List Int} (h : roleI a ++ X = roleI b ++ Y) : a = b ∧ X = Y := by
  simp only [roleI, List.append_assoc] at h
  obtain ⟨h1, h2⟩ := textI_cut h
  obtain ⟨h3, h4⟩ := textI_cut h2
  exact ⟨by cases a; cases b; simp at h1 h3; simp [h1, h3], h4⟩
theorem credI_inj {a b : Cred} (ha : rightC a = true) (hb : rightC b = true) (h : credI a = credI b) : a = b := by
  simp only [credI, List.cons.injEq] at h
  obtain ⟨hk, hq⟩ := h
  obtain ⟨hh, h⟩ := roleI_cut hq
  clear hq
  have e0 : ∀ {X Y : List Int}, X = Y → X ++ [] = Y ++ [] := fun h => by rw [h]
  unfold bodyI at h
  obtain ⟨ka, ha1, wa, ba, ca, wa2⟩ := a
  obtain ⟨kb, hb1, wb, bb, cb, wb2⟩ := b
  simp only at hk hh h
  subst hk hh
  rcases rightC_cases ha with ⟨k, h1, h2, h3, h4⟩ | ⟨k, h1, h2, h3, h4⟩ | ⟨k, h1, h2, h3, h4, h5⟩ | ⟨k, h1, h2, h3, h4, h5⟩ <;>
  rcases rightC_cases hb with ⟨k', g1, g2, g3, g4⟩ | ⟨k', g1, g2, g3, g4⟩ | ⟨k', g1, g2, g3, g4, g5⟩ | ⟨k', g1, g2, g3, g4, g5⟩ <;> simp only at k k' h2 h3 h4 g2 g3 g4 <;> (try omega)
  · rw [if_pos k, if_pos k] at h
    simp [textI_cut (e0 h), h2, h3, h4, g2, g3, g4]
  · rw [if_neg (by omega), if_pos k, if_neg (by omega), if_pos k] at h
    simp [roleI_cut (e0 h), h2, h3, h4, g2, g3, g4]
  · rw [if_neg (by omega), if_neg (by omega), if_pos k, if_neg (by omega), if_neg (by omega), if_pos k] at h
    obtain ⟨q1, q2⟩ := roleI_cut h
    simp only at h5 g5
    simp [q1, textI_cut (e0 q2), h4, h5, g4, g5]
  · rw [if_neg (by omega), if_neg (by omega), if_neg (by omega), if_neg (by omega), if_neg (by omega), if_neg (by omega)] at h
    obtain ⟨q1, q2⟩ := roleI_cut h
    simp only at h5 g5
    simp [q1, roleI_cut (e0 q2), h4, h5, g4, g5]
theorem ltOnC : LtOn (fun a b => ltC a b = true) (fun c => rightC c = true) := by
  refine ⟨fun x _ h => ?_, fun x y z _ _ _ h1 h2 => bl_trans _ _ _ h1 h2, fun x y hx hy => ?_⟩
  · unfold ltC at h; rw [bl_irrefl] at h; cases h
  · rcases bl_total (keyC x) (keyC y) with h | h | h
    · exact .inl h
    · refine .inr (.inl (credI_inj hx hy ?_))
      unfold keyC at h
      rw [if_pos hx, if_pos hy] at h
      exact u8s_inj (credI_range hx) (credI_range hy) h
    · exact .inr (.inr h)
end Go.Proofs.YtmlncblocfcmiaaGreat
namespace Go.Proofs.YtmlncblocfcmiaaGreat
open Go.RowKit
def selP {α : Type} (R : α → Bool) (lt : α → α → Bool) (last : Option α) : List α → Bool → α → Bool × α
  | [], ok, b => (ok, b)
  | x :: xs, ok, b => if R x && last.all (fun y => lt y x) && (!ok || lt x b) then selP R lt last xs true x else selP R lt last xs ok b
def selL {α : Type} (w : Nat) (R : α → Bool) (lt : α → α → Bool) (d : α) (l : List α) : Nat → List α → Option (List α)
  | 0, _ => none
  | n + 1, out => if !(selP R lt out.getLast? l false d).1 then some out else (appB w out [(selP R lt out.getLast? l false d).2]).bind fun o => selL w R lt d l n o
section
variable {α : Type} {R : α → Bool} {lt : α → α → Bool}
theorem selP_spec (H : LtOn (fun a b => lt a b = true) (fun x => R x = true)) (last : Option α) : ∀ (l : List α) (ok : Bool) (b : α), (ok = true → R b = true ∧ last.all (fun y => lt y b) = true) →
    ((selP R lt last l ok b).1 = false → ok = false ∧ ∀ x ∈ l, R x = true → last.all (fun y => lt y x) = false) ∧
    ((selP R lt last l ok b).1 = true → R (selP R lt last l ok b).2 = true ∧ last.all (fun y => lt y (selP R lt last l ok b).2) = true ∧ ((selP R lt last l ok b).2 ∈ l ∨ (ok = true ∧ (selP R lt last l ok b).2 = b)) ∧
      (∀ x ∈ l, R x = true → last.all (fun y => lt y x) = true → lt x (selP R lt last l ok b).2 = false) ∧ (ok = true → lt b (selP R lt last l ok b).2 = false))
  | [], ok, b, hb => by
    simp only [selP]
    exact ⟨fun h => ⟨h, by simp⟩, fun h => ⟨(hb h).1, (hb h).2, .inr ⟨h, trivial⟩, by simp, fun _ => by
      cases hx : lt b b with
      | false => rfl
      | true => exact absurd hx (H.irrefl b (hb h).1)⟩⟩
  | x :: xs, ok, b, hb => by
    rw [selP]
    by_cases hc : (R x && last.all (fun y => lt y x) && (!ok || lt x b)) = true
    · rw [if_pos hc]
      simp only [Bool.and_eq_true, Bool.or_eq_true, Bool.not_eq_true'] at hc
      obtain ⟨⟨hR, hL⟩, hok⟩ := hc
      obtain ⟨h1, h2⟩ := selP_spec H last xs true x (fun _ => ⟨hR, hL⟩)
      refine ⟨fun h => ?_, fun h => ?_⟩
      · cases (h1 h).1
      · obtain ⟨a1, a2, a3, a4, a5⟩ := h2 h
        refine ⟨a1, a2, ?_, ?_, ?_⟩
        · rcases a3 with a3 | ⟨_, a3⟩
          · exact .inl (by simp [a3])
          · exact .inl (by rw [a3]; simp)
        · intro y hy hRy hLy
          rcases List.mem_cons.1 hy with rfl | hy
          · exact a5 rfl
          · exact a4 y hy hRy hLy
        · intro hko
          cases hx : lt b (selP R lt last xs true x).2 with
          | false => rfl
          | true =>
            have hxb : lt x b = true := by rcases hok with h | h; rw [hko] at h; cases h; exact h
            have := H.trans x b _ hR (hb hko).1 a1 hxb hx
            simp only [a5 rfl] at this
            cases this
    · rw [if_neg hc]
      obtain ⟨h1, h2⟩ := selP_spec H last xs ok b hb
      refine ⟨fun h => ⟨(h1 h).1, fun y hy hRy => ?_⟩, fun h => ?_⟩
      · rcases List.mem_cons.1 hy with rfl | hy
        · have hko := (h1 h).1
          cases hL : last.all (fun z => lt z y) with
          | false => rfl
          | true => exact absurd (by simp [hRy, hL, hko]) hc
        · exact (h1 h).2 y hy hRy
      · obtain ⟨a1, a2, a3, a4, a5⟩ := h2 h
        refine ⟨a1, a2, ?_, ?_, a5⟩
        · rcases a3 with a3 | a3
          · exact .inl (by simp [a3])
          · exact .inr a3
        · intro y hy hRy hLy
          rcases List.mem_cons.1 hy with rfl | hy
          · cases hx : lt y (selP R lt last xs ok b).2 with
            | false => rfl
            | true =>
              cases ok with
              | false => exact absurd (by simp [hRy, hLy]) hc
              | true =>
                have hyb : lt y b = false := by
                  cases h3 : lt y b with
                  | false => rfl
                  | true => exact absurd (by simp [hRy, hLy, h3]) hc
                have hb' := hb rfl
                rcases H.total y b hRy hb'.1 with h4 | h4 | h4
                · rw [hyb] at h4; cases h4
                · subst h4; rw [a5 rfl] at hx; cases hx
                · have := H.trans b y _ hb'.1 hRy a1 h4 hx
                  simp only [a5 rfl] at this
                  cases this
          · exact a4 y hy hRy hLy
theorem nodup_of_lt (H : LtOn (fun a b => lt a b = true) (fun x => R x = true)) {l : List α} (hR : ∀ x ∈ l, R x = true) (h : l.Pairwise (fun a b => lt a b = true)) : l.Nodup := by
  refine h.imp_of_mem (fun {a b} ha hb hab e => ?_)
  subst e
  exact H.irrefl a (hR a ha) hab
theorem length_le_of_nodup : ∀ {l m : List α}, l.Nodup → (∀ x ∈ l, x ∈ m) → l.length ≤ m.length
  | [], _, _, _ => by simp
  | x :: l, m, hn, hs => by
    obtain ⟨A, B, rfl⟩ := List.append_of_mem (hs x (by simp))
    have hn' := List.nodup_cons.1 hn
    have := length_le_of_nodup (l := l) (m := A ++ B) hn'.2 (fun y hy => by
      have := hs y (List.mem_cons_of_mem _ hy)
      simp only [List.mem_append, List.mem_cons] at this ⊢
      rcases this with h | h | h
      · exact .inl h
      · subst h; exact absurd hy hn'.1
      · exact .inr h)
    simp at this ⊢; omega
theorem selL_spec (H : LtOn (fun a b => lt a b = true) (fun x => R x = true)) {w : Nat} (hw : w ≤ 1000) (d : α) (l : List α) (hl : l.length ≤ 1000000000) : ∀ (n : Nat) (out : List α), l.length < n + out.length → out.Pairwise (fun a b => lt a b = true) → (∀ x ∈ out, x ∈ l ∧ R x = true) →
    (∀ x ∈ l, R x = true → x ∈ out ∨ out.getLast?.all (fun y => lt y x) = true) → ∃ s, selL w R lt d l n out = some s ∧ IsSet (fun a b => lt a b = true) (fun x => R x = true) l s
  | 0, out, hn, hp, hm, hc => by
    exfalso
    have := length_le_of_nodup (nodup_of_lt H (fun x hx => (hm x hx).2) hp) (fun x hx => (hm x hx).1)
    omega
  | n + 1, out, hn, hp, hm, hc => by
    rw [selL]
    obtain ⟨h1, h2⟩ := selP_spec H out.getLast? l false d (fun h => by cases h)
    have hlen := length_le_of_nodup (nodup_of_lt H (fun x hx => (hm x hx).2) hp) (fun x hx => (hm x hx).1)
    cases hs : (selP R lt out.getLast? l false d).1 with
    | false =>
      rw [if_pos (by simp)]
      refine ⟨out, rfl, hp, fun x => ⟨hm x, fun hx => ?_⟩⟩
      rcases hc x hx.1 hx.2 with h | h
      · exact h
      · rw [(h1 hs).2 x hx.1 hx.2] at h; cases h
    | true =>
      rw [if_neg (by simp)]
      obtain ⟨a1, a2, a3, a4, _⟩ := h2 hs
      generalize (selP R lt out.getLast? l false d).2 = b at *
      have hbl : b ∈ l := by rcases a3 with h | ⟨h, _⟩; exact h; cases h
      have hout : ∀ y ∈ out, lt y b = true := by
        intro y hy
        obtain ⟨A, z, rfl⟩ : ∃ A z, out = A ++ [z] := by
          rcases List.eq_nil_or_concat out with h | ⟨A, z, h⟩
          · subst h; cases hy
          · exact ⟨A, z, by rw [h]; simp⟩
        simp at a2
        rcases List.mem_append.1 hy with hy | hy
        · have hyz : lt y z = true := (List.pairwise_append.1 hp).2.2 y hy z (by simp)
          exact H.trans y z b (hm y (by simp [hy])).2 (hm z (by simp)).2 a1 hyz a2
        · simp at hy; subst hy; exact a2
      have hp' : (out ++ [b]).Pairwise (fun a b => lt a b = true) := List.pairwise_append.2 ⟨hp, by simp, fun x hx y hy => by simp at hy; subst hy; exact hout x hx⟩
      have hm' : ∀ x ∈ out ++ [b], x ∈ l ∧ R x = true := fun x hx => by
        rcases List.mem_append.1 hx with hx | hx
        · exact hm x hx
        · simp at hx; subst hx; exact ⟨hbl, a1⟩
      have hlen' := length_le_of_nodup (nodup_of_lt H (fun x hx => (hm' x hx).2) hp') (fun x hx => (hm' x hx).1)
      simp at hlen'
      rw [appB_ok (by simp only [List.length_cons, List.length_nil]; have : (out.length + (0 + 1)) * w ≤ 1000000000 * 1000 := Nat.mul_le_mul (by omega) hw; omega) (by simp; omega)]
      simp only [Option.bind_some]
      refine selL_spec H hw d l hl n (out ++ [b]) (by simp; omega) hp' hm' (fun x hx hRx => ?_)
      rcases hc x hx hRx with h | h
      · exact .inl (by simp [h])
      · have h3 := a4 x hx hRx h
        rcases H.total x b hRx a1 with h4 | h4 | h4
        · rw [h3] at h4; cases h4
        · subst h4; exact .inl (by simp)
        · exact .inr (by simp [h4])
end
theorem last_idx {α : Type} (A : List α) (x : α) (hl : A.length < 4611686018427387904) : idx (A ++ [x]) (IntKind.i64.wrap (((A ++ [x]).length : Int) - 1)) = some x := by
  rw [wrap_in (by simp; try omega) (by simp; try omega)]
  rw [idx_mid A x [] _ (by simp; try omega)]
theorem ref05_L2 (out : List Cred) (hl : out.length < 4611686018427387904) : ∀ (l : List Cred) (ok : Bool) (b : Cred), m_ref05_Set_L2 out l ok b = some (selP rightC ltC out.getLast? l ok b)
  | [], ok, b => rfl
  | x :: xs, ok, b => by
    rw [m_ref05_Set_L2, selP]
    have cmp : ∀ a b, ∃ c, m_ref05_Compare a b = some c ∧ decide (c < 0) = ltC a b := fun a b => by
      obtain ⟨c, h1, h2⟩ := m_ref05_Compare_eq a b
      exact ⟨c, h1, by rw [Bool.eq_iff_iff, ← h2]; simp⟩
    rw [m_ref05_Right_eq, ref05_L2 out hl xs true x, ref05_L2 out hl xs ok b]
    obtain ⟨c, h1, h2⟩ := cmp x b
    rcases List.eq_nil_or_concat out with h | ⟨A, z, h⟩
    · subst h
      simp only [h1, Option.bind_some, h2, List.length_nil, Option.all, List.getLast?_nil]
      generalize ltC x b = p
      cases rightC x <;> cases ok <;> cases p <;> simp
    · have h' : out = A ++ [z] := by rw [h]; simp
      obtain ⟨c3, h3, h4⟩ := cmp z x
      have hlast : out.getLast? = some z := by rw [h']; simp
      have hidx : idx out (IntKind.i64.wrap ((out.length : Int) - 1)) = some z := by rw [h']; exact last_idx A z (by rw [h'] at hl; simp at hl; omega)
      have hne : ((out.length : Int) == 0) = false := by rw [h']; simp; omega
      rw [hlast]
      simp only [hne, hidx, h3, h1, Option.bind_some, h2, h4, Option.all]
      rcases Bool.eq_false_or_eq_true (ltC x b) with hp | hp <;> rcases Bool.eq_false_or_eq_true (ltC z x) with hq | hq <;> rcases Bool.eq_false_or_eq_true (rightC x) with hr | hr <;> cases ok <;> simp [hp, hq, hr]
theorem gtS (a b : ByteArray) : (!(ltS a b || beqS a b)) = ltS b a := by
  rcases ltS_total a b with h | h | h
  · simp [h, ltS_asymm h]
  · subst h; simp [beqS_refl, ltS_irrefl]
  · have h2 := ltS_asymm h
    have h3 : beqS a b = false := beqS_ne (by rintro rfl; rw [ltS_irrefl] at h; cases h)
    simp [h, h2, h3]
theorem rightN_ne {s : ByteArray} (h : rightN s = true) : beqS s zS = false := beqS_ne (fun e => by have := rightN_size h; rw [e, zS_size] at this; omega)
theorem ref03_L2 (out : List ByteArray) (hl : out.length < 4611686018427387904) : ∀ (l : List ByteArray) (b : ByteArray),
    ∃ b', m_ref03_Set_L2 out l b = some b' ∧ (selP rightN ltS out.getLast? l (!beqS b zS) b) = (!beqS b' zS, b')
  | [], b => ⟨b, rfl, rfl⟩
  | x :: xs, b => by
    rw [m_ref03_Set_L2, selP]
    obtain ⟨b1, e1, e2⟩ := ref03_L2 out hl xs x
    obtain ⟨b2, e3, e4⟩ := ref03_L2 out hl xs b
    rw [m_ref03_Right_eq, e1, e3]
    by_cases hx : rightN x = true
    · rw [rightN_ne hx] at e2
      simp only [Bool.not_false] at e2
      rcases List.eq_nil_or_concat out with h | ⟨A, z, h⟩
      · subst h
        simp only [Option.bind_some, List.length_nil, Option.all, List.getLast?_nil, hx] at *
        rw [e2, e4]
        generalize ltS x b = p
        generalize beqS b zS = q
        cases p <;> cases q <;> simp
      · have h' : out = A ++ [z] := by rw [h]; simp
        have hlast : out.getLast? = some z := by rw [h']; simp
        have hidx : idx out (IntKind.i64.wrap ((out.length : Int) - 1)) = some z := by rw [h']; exact last_idx A z (by rw [h'] at hl; simp at hl; omega)
        have hne : ((out.length : Int) == 0) = false := by rw [h']; simp; omega
        rw [hlast] at e2 e4 ⊢
        simp only [hne, hidx, Option.bind_some, Option.all, gtS, hx]
        rw [e2, e4]
        rcases Bool.eq_false_or_eq_true (ltS x b) with hp | hp <;> rcases Bool.eq_false_or_eq_true (ltS z x) with hq | hq <;> rcases Bool.eq_false_or_eq_true (beqS b zS) with hr | hr <;> simp [hp, hq, hr]
    · simp only [Bool.not_eq_true] at hx
      rw [hx, e4]
      simp
theorem sel05 (a : List Cred) : ∀ (n : Nat) (out s : List Cred), selL 136 rightC ltC (⟨0, ⟨zS, zS⟩, zS, ⟨zS, zS⟩, ⟨zS, zS⟩, zS⟩ : Cred) a n out = some s → s.length < 4611686018427387904 → m_ref05_Set_L1 a n out = some s ∧ out.length ≤ s.length
  | 0, out, s, h, _ => by cases h
  | n + 1, out, s, h, hs => by
    rw [selL] at h
    rw [m_ref05_Set_L1]
    have key : out.length ≤ s.length → m_ref05_Set_L2 out a false (⟨0, ⟨zS, zS⟩, zS, ⟨zS, zS⟩, ⟨zS, zS⟩, zS⟩ : Cred) = _ := fun hl => ref05_L2 out (by omega) a false _
    split at h
    · rename_i h1
      cases h
      rw [key (Nat.le_refl _)]
      simp only [Option.bind_some]
      rw [if_pos h1]
      exact ⟨rfl, Nat.le_refl _⟩
    · rename_i h1
      obtain ⟨o, h2, h3⟩ := bind_some h
      have h4 := sel05 a n o s h3 hs
      have h5 : out.length + 1 = o.length := by
        unfold appB at h2; split at h2
        · cases h2; simp
        · cases h2
      rw [key (by omega)]
      simp only [Option.bind_some]
      rw [if_neg h1, h2]
      exact ⟨h4.1, by omega⟩
theorem sel03 (a : List ByteArray) : ∀ (n : Nat) (out s : List ByteArray), selL 16 rightN ltS zS a n out = some s → s.length < 4611686018427387904 → m_ref03_Set_L1 a n out = some s ∧ out.length ≤ s.length
  | 0, out, s, h, _ => by cases h
  | n + 1, out, s, h, hs => by
    rw [selL] at h
    rw [m_ref03_Set_L1]
    have key : out.length ≤ s.length → ∃ b', m_ref03_Set_L2 out a zS = some b' ∧ selP rightN ltS out.getLast? a false zS = (!beqS b' zS, b') := fun hl => by
      have := ref03_L2 out (by omega) a zS
      rw [beqS_refl] at this
      exact this
    split at h
    · rename_i h1
      cases h
      obtain ⟨b', k1, k2⟩ := key (Nat.le_refl _)
      rw [k1]
      rw [k2] at h1
      simp only [Option.bind_some]
      rw [if_pos (by simpa using h1)]
      exact ⟨rfl, Nat.le_refl _⟩
    · rename_i h1
      obtain ⟨o, h2, h3⟩ := bind_some h
      have h4 := sel03 a n o s h3 hs
      have h5 : out.length + 1 = o.length := by
        unfold appB at h2; split at h2
        · cases h2; simp
        · cases h2
      obtain ⟨b', k1, k2⟩ := key (by omega)
      rw [k1]
      rw [k2] at h1 h2
      simp only [Option.bind_some]
      rw [if_neg (by simpa using h1), h2]
      exact ⟨h4.1, by omega⟩
abbrev IsSetN (l s : List ByteArray) := IsSet (fun a b => ltS a b = true) (fun x => rightN x = true) l s
abbrev IsSetC (l s : List Cred) := IsSet (fun a b => ltC a b = true) (fun x => rightC x = true) l s
theorem isSet_length {α : Type} {lt : α → α → Bool} {R : α → Bool} (H : LtOn (fun a b => lt a b = true) (fun x => R x = true)) {l s : List α} (h : IsSet (fun a b => lt a b = true) (fun x => R x = true) l s) : s.length ≤ l.length :=
  length_le_of_nodup (nodup_of_lt H (fun x hx => ((h.2 x).1 hx).2) h.1) (fun x hx => ((h.2 x).1 hx).1)
theorem refSetC (l : List Cred) (hl : l.length ≤ 1000000000) : ∃ s, m_ref05_Set l = some s ∧ IsSetC l s := by
  obtain ⟨s, h1, h2⟩ := selL_spec ltOnC (w := 136) (by omega) (⟨0, ⟨zS, zS⟩, zS, ⟨zS, zS⟩, ⟨zS, zS⟩, zS⟩ : Cred) l hl FUEL [] (by rw [FUEL_eq]; omega) (by simp) (by simp) (fun x _ _ => .inr rfl)
  exact ⟨s, (sel05 l FUEL [] s h1 (by have := isSet_length ltOnC h2; omega)).1, h2⟩
theorem refSetN (l : List ByteArray) (hl : l.length ≤ 1000000000) : ∃ s, m_ref03_Set l = some s ∧ IsSetN l s := by
  obtain ⟨s, h1, h2⟩ := selL_spec (ltOnS (fun x => rightN x = true)) (w := 16) (by omega) zS l hl FUEL [] (by rw [FUEL_eq]; omega) (by simp) (by simp) (fun x _ _ => .inr rfl)
  exact ⟨s, (sel03 l FUEL [] s h1 (by have := isSet_length (ltOnS _) h2; omega)).1, h2⟩
end Go.Proofs.YtmlncblocfcmiaaGreat
namespace Go.Proofs.YtmlncblocfcmiaaGreat
open Go.RowKit
def zC : Cred := ⟨0, ⟨zS, zS⟩, zS, ⟨zS, zS⟩, ⟨zS, zS⟩, zS⟩
theorem delC_eq (f : Cred → Option Bool) : ∀ (n : Nat) (l : List Cred) (i j : Int), m_slices_DeleteFunc_Cred_L1 f n l i j = delL f zC n l i j
  | 0, _, _, _ => rfl
  | n + 1, l, i, j => by
    rw [m_slices_DeleteFunc_Cred_L1, delL]
    simp only [delC_eq f n]
    rfl
theorem idxC_eq (f : Cred → Option Bool) : ∀ (l : List Cred) (i : Nat), m_slices_IndexFunc_Cred_L1 f l i = idxL f l i
  | [], _ => rfl
  | x :: l, i => by rw [m_slices_IndexFunc_Cred_L1, idxL]; simp only [idxC_eq f l]
theorem delFC_eq (f : Cred → Option Bool) (l : List Cred) : m_slices_DeleteFunc_Cred l f = delF f zC l := by
  unfold m_slices_DeleteFunc_Cred delF m_slices_IndexFunc_Cred
  simp only [idxC_eq, delC_eq]
theorem cpt2C_eq (i : Int) : ∀ (n : Nat) (l : List Cred) (k j : Int), m_slices_Compact_Cred_L2 i n l k j = cpt2 beqCred i n l k j
  | 0, _, _, _ => rfl
  | n + 1, l, k, j => by
    rw [m_slices_Compact_Cred_L2, cpt2]
    simp only [cpt2C_eq i n]
theorem cpt1C_eq (l : List Cred) : ∀ (n : Nat) (i : Int), m_slices_Compact_Cred_L1 l n i = cpt1 beqCred zC l n i
  | 0, _ => rfl
  | n + 1, i => by
    rw [m_slices_Compact_Cred_L1, cpt1]
    simp only [cpt1C_eq l n, cpt2C_eq]
    rfl
theorem cptFC_eq (l : List Cred) : m_slices_Compact_Cred l = cptF beqCred zC l := by
  unfold m_slices_Compact_Cred cptF
  simp only [cpt1C_eq]
theorem cloneC {l : List Cred} (hl : l.length ≤ 1000000000) : m_slices_Clone_Cred l = some l := by
  unfold m_slices_Clone_Cred
  rw [appB_ok (by simp; omega) (by simp; omega)]
  simp
theorem setC (l : List Cred) (hl : l.length ≤ 1000000000) : ∃ s, m_cred_Set l = some s ∧ IsSetC l s := by
  unfold m_cred_Set
  rw [cloneC hl]
  simp only [Option.bind_some]
  rw [delFC_eq, delF_run _ (fun x => !rightC x) zC l (by omega) (fun x _ => by simp [m_cred_Set_c1, m_cred_Right_eq])]
  simp only [Option.bind_some, Bool.not_not]
  have hf : (l.filter fun x => rightC x).length ≤ l.length := List.length_filter_le _ _
  obtain ⟨s, h1, h2, h3⟩ := sortF_isSet (eq := beqCred) (lt := fun a b => ltC a b = true) (P := fun x => rightC x = true) (cf := fun x => m_cred_Compare x.1 x.2) (l := l.filter fun x => rightC x) (fun x y => beqCred_iff) ltOnC (fun x hx => (List.mem_filter.1 hx).2) (by omega) (fun x y _ _ => m_cred_Compare_eq x y)
  rw [h1]
  simp only [Option.bind_some]
  rw [cptFC_eq, cptF_run _ _ _ (by omega)]
  refine ⟨_, rfl, h3.1, fun x => ?_⟩
  rw [h3.2]
  simp
theorem sameC_run (b : List Cred) : ∀ (A l : List Cred), m_ref05_Same_L1 (A ++ l) l A.length = some true
  | A, [] => rfl
  | A, x :: l => by
    rw [m_ref05_Same_L1, idx_mid A x l _ rfl]
    simp only [Option.bind_some]
    rw [beqCred_iff.2 rfl]
    simp only [Bool.not_true, Bool.false_eq_true, if_false]
    have := sameC_run b (A ++ [x]) l
    simpa using this
theorem sameC (l : List Cred) : m_ref05_Same l l = some true := by
  unfold m_ref05_Same
  rw [if_neg (by simp)]
  exact sameC_run [] [] l
end Go.Proofs.YtmlncblocfcmiaaGreat
namespace Go.Proofs.YtmlncblocfcmiaaGreat
open Go.RowKit
def tt {κ : Type} (ks : List κ) : List (κ × Bool) := ks.map fun k => (k, true)
def hasB {κ : Type} (beq : κ → κ → Bool) (ks : List κ) (k : κ) : Bool := ks.any fun x => beq k x
def ins {κ : Type} (beq : κ → κ → Bool) (ks : List κ) (k : κ) : List κ := if hasB beq ks k then ks else ks ++ [k]
section
variable {κ : Type} {beq : κ → κ → Bool}
theorem hasB_iff (hb : ∀ {x y}, beq x y = true ↔ x = y) (ks : List κ) (k : κ) : hasB beq ks k = true ↔ k ∈ ks := by
  simp [hasB, List.any_eq_true, hb]
theorem mem_ins (hb : ∀ {x y}, beq x y = true ↔ x = y) (ks : List κ) (k x : κ) : x ∈ ins beq ks k ↔ x ∈ ks ∨ x = k := by
  unfold ins
  split
  · rename_i h
    have := (hasB_iff hb ks k).1 h
    exact ⟨.inl, fun h => by rcases h with h | rfl; exact h; exact this⟩
  · simp
theorem tt_length (ks : List κ) : (tt ks).length = ks.length := by simp [tt]
theorem mgetD_tt (ks : List κ) (k : κ) : mgetD beq (tt ks) k false = hasB beq ks k := by
  unfold mgetD mget hasB tt
  induction ks with
  | nil => rfl
  | cons x xs ih =>
    simp only [List.map_cons, List.find?_cons, List.any_cons]
    cases h : beq k x with
    | true => simp
    | false => simpa using ih
theorem mput_tt (hb : ∀ {x y}, beq x y = true ↔ x = y) (ks : List κ) (k : κ) : mput beq (tt ks) k true = tt (ins beq ks k) := by
  unfold mput ins
  have hf : (tt ks).findIdx? (fun p => beq k p.1) = ks.findIdx? (fun x => beq k x) := by
    unfold tt; rw [List.findIdx?_map]; rfl
  rw [hf]
  cases h : ks.findIdx? (fun x => beq k x) with
  | none =>
    rw [List.findIdx?_eq_none_iff] at h
    rw [if_neg]
    · simp [tt]
    · intro hh
      unfold hasB at hh
      rw [List.any_eq_true] at hh
      obtain ⟨x, hx, hx2⟩ := hh
      rw [h x hx] at hx2
      cases hx2
  | some i =>
    rw [List.findIdx?_eq_some_iff_getElem] at h
    obtain ⟨hi, h1, _⟩ := h
    have e := hb.1 h1
    rw [if_pos]
    · simp only [tt]
      apply List.ext_getElem?
      intro j
      rw [List.getElem?_set]
      split
      · rename_i hij
        subst hij
        simp [hi, e]
      · rfl
    · unfold hasB
      exact List.any_eq_true.2 ⟨ks[i], List.getElem_mem hi, h1⟩
end
section
variable {all : List Cred} {wants : List Role} {T : List Role} {W : List ByteArray} {R : List Cred}
def rolesOf (c : Cred) : List Role := if c.Kind = 1 then [] else if c.Kind = 4 then [c.B, c.C] else [c.B]
end
theorem hasC_eq (x : Cred) : ∀ l : List Cred, m_ref05_Has l x = some (hasB beqCred l x)
  | [] => rfl
  | y :: l => by
    have ih := hasC_eq x l
    unfold m_ref05_Has at ih ⊢
    rw [m_ref05_Has_L1, ih]
    have : beqCred y x = beqCred x y := by rw [Bool.eq_iff_iff, beqCred_iff, beqCred_iff]; exact eq_comm
    rw [this]
    simp only [hasB, List.any_cons]
    cases beqCred x y <;> simp
end Go.Proofs.YtmlncblocfcmiaaGreat
namespace Go.Proofs.YtmlncblocfcmiaaGreat
open Go.RowKit
theorem rolesC {c : Cred} (h : rightC c = true) : m_cred_Roles c = some (c.Head :: rolesOf c) := by
  unfold m_cred_Roles
  rw [m_cred_Right_eq, h]
  simp only [Option.bind_some, Bool.not_true, Bool.false_eq_true, if_false]
  have hkk : c.Kind = 1 ∨ c.Kind = 2 ∨ c.Kind = 3 ∨ c.Kind = 4 := by rcases rightC_cases h with h | h | h | h <;> simp [h.1]
  rcases hkk with k | k | k | k
  · simp [k, rolesOf]
  · rw [if_pos (by simp [k]), appB_ok (by simp) (by simp)]
    simp [k, rolesOf]
  · rw [if_pos (by simp [k]), appB_ok (by simp) (by simp)]
    simp [k, rolesOf]
  · rw [if_pos (by simp [k]), appB_ok (by simp) (by simp)]
    simp only [Option.bind_some]
    rw [if_pos (by simp [k]), appB_ok (by simp) (by simp)]
    simp [k, rolesOf]
theorem IsSet.congr {α : Type} {lt : α → α → Prop} {P : α → Prop} {l m s : List α} (h : IsSet lt P l s) (hm : ∀ x, x ∈ l ↔ x ∈ m) : IsSet lt P m s := ⟨h.1, fun x => by rw [h.2, hm]⟩
theorem tt_keys {κ : Type} (ks : List κ) : (tt ks).map (·.1) = ks := by simp [tt, Function.comp_def]
end Go.Proofs.YtmlncblocfcmiaaGreat
namespace Go.Proofs.YtmlncblocfcmiaaGreat
open Go.RowKit
theorem great_L1 : ∀ (l : List Cred) (n : Int), 0 ≤ n → n ≤ 4000000000000000000 → (∀ c ∈ l, c.Head.Owner.size + c.Head.Word.size + c.Who.size + c.B.Owner.size + c.B.Word.size + c.C.Owner.size + c.C.Word.size + c.Word2.size ≤ 1000000000) → n + l.length * 1000000020 ≤ 4000000000000000000 →
    ∃ r, m_law05_Great_L1 l n = some r ∧ n + 20 * l.length ≤ r
  | [], n, _, _, _, _ => ⟨n, rfl, by simp⟩
  | c :: l, n, h0, h1, hc, hb => by
    have h := hc c (by simp)
    simp only [List.length_cons] at hb ⊢
    rw [m_law05_Great_L1]
    rw [wrap_in (x := 20 + (c.Head.Owner.size : Int)) (by omega) (by omega), wrap_in (x := 20 + (c.Head.Owner.size : Int) + (c.Head.Word.size : Int)) (by omega) (by omega), wrap_in (x := 20 + (c.Head.Owner.size : Int) + (c.Head.Word.size : Int) + (c.Who.size : Int)) (by omega) (by omega), wrap_in (x := 20 + (c.Head.Owner.size : Int) + (c.Head.Word.size : Int) + (c.Who.size : Int) + (c.B.Owner.size : Int)) (by omega) (by omega), wrap_in (x := 20 + (c.Head.Owner.size : Int) + (c.Head.Word.size : Int) + (c.Who.size : Int) + (c.B.Owner.size : Int) + (c.B.Word.size : Int)) (by omega) (by omega), wrap_in (x := 20 + (c.Head.Owner.size : Int) + (c.Head.Word.size : Int) + (c.Who.size : Int) + (c.B.Owner.size : Int) + (c.B.Word.size : Int) + (c.C.Owner.size : Int)) (by omega) (by omega), wrap_in (x := 20 + (c.Head.Owner.size : Int) + (c.Head.Word.size : Int) + (c.Who.size : Int) + (c.B.Owner.size : Int) + (c.B.Word.size : Int) + (c.C.Owner.size : Int) + (c.C.Word.size : Int)) (by omega) (by omega), wrap_in (x := 20 + (c.Head.Owner.size : Int) + (c.Head.Word.size : Int) + (c.Who.size : Int) + (c.B.Owner.size : Int) + (c.B.Word.size : Int) + (c.C.Owner.size : Int) + (c.C.Word.size : Int) + (c.Word2.size : Int)) (by omega) (by omega), wrap_in (by omega) (by omega)]
    obtain ⟨r, e1, e2⟩ := great_L1 l (n + (20 + (c.Head.Owner.size : Int) + (c.Head.Word.size : Int) + (c.Who.size : Int) + (c.B.Owner.size : Int) + (c.B.Word.size : Int) + (c.C.Owner.size : Int) + (c.C.Word.size : Int) + (c.Word2.size : Int))) (by omega) (by omega) (fun d hd => hc d (by simp [hd])) (by omega)
    exact ⟨r, e1, by omega⟩
def sizeC (c : Cred) : Nat := c.Head.Owner.size + c.Head.Word.size + c.Who.size + c.B.Owner.size + c.B.Word.size + c.C.Owner.size + c.C.Word.size + c.Word2.size
theorem great_ok (l : List Cred) (hl : l.length ≤ 100000000) (hc : ∀ c ∈ l, sizeC c ≤ 1000000000) : ∃ r, m_law05_Great l = some r := by
  obtain ⟨r, h, _⟩ := great_L1 l 0 (by omega) (by omega) hc (by omega)
  exact ⟨r, h⟩
end Go.Proofs.YtmlncblocfcmiaaGreat
namespace Go.Proofs.YtmlncblocfcmiaaGreat
open Go.RowKit
section
variable {κ γ : Type} {beq : κ → κ → Bool}
theorem mget_split (hb : ∀ {x y}, beq x y = true ↔ x = y) {A B : List (κ × γ)} {k : κ} {x : γ} (hA : ∀ p ∈ A, p.1 ≠ k) : mget beq (A ++ (k, x) :: B) k = some x := by
  unfold mget
  rw [List.find?_append]
  have : A.find? (fun p => beq k p.1) = none := List.find?_eq_none.2 (fun p hp h => hA p hp (hb.1 h).symm)
  rw [this]
  simp [hb.2 (rfl : k = k)]
theorem mget_no (hb : ∀ {x y}, beq x y = true ↔ x = y) {l : List (κ × γ)} {k : κ} (h : ∀ p ∈ l, p.1 ≠ k) : mget beq l k = none := by
  unfold mget
  rw [List.find?_eq_none.2 (fun p hp hh => h p hp (hb.1 hh).symm)]
  rfl
theorem mput_split (hb : ∀ {x y}, beq x y = true ↔ x = y) {A B : List (κ × γ)} {k : κ} {x y : γ} (hA : ∀ p ∈ A, p.1 ≠ k) : mput beq (A ++ (k, x) :: B) k y = A ++ (k, y) :: B := by
  have h1 : (A ++ (k, x) :: B).findIdx? (fun p => beq k p.1) = some A.length := by
    rw [List.findIdx?_append, List.findIdx?_eq_none_iff.2 (fun p hp => by
      cases h : beq k p.1 with
      | false => rfl
      | true => exact absurd (hb.1 h).symm (hA p hp))]
    simp [List.findIdx?_cons, hb.2 (rfl : k = k)]
  rw [mput_found h1]
  simp
theorem mput_no (hb : ∀ {x y}, beq x y = true ↔ x = y) {l : List (κ × γ)} {k : κ} {y : γ} (h : ∀ p ∈ l, p.1 ≠ k) : mput beq l k y = l ++ [(k, y)] := by
  refine mput_miss (List.findIdx?_eq_none_iff.2 (fun p hp => ?_)) y
  cases hh : beq k p.1 with
  | false => rfl
  | true => exact absurd (hb.1 hh).symm (h p hp)
theorem key_split (k : κ) : ∀ (l : List (κ × γ)), (∀ p ∈ l, p.1 ≠ k) ∨ ∃ A x B, l = A ++ (k, x) :: B ∧ ∀ p ∈ A, p.1 ≠ k
  | [] => .inl (fun _ h => by cases h)
  | p :: l => by
    by_cases hp : p.1 = k
    · exact .inr ⟨[], p.2, l, by rw [← hp]; rfl, fun _ h => by cases h⟩
    · rcases key_split k l with h | ⟨A, x, B, rfl, h⟩
      · exact .inl (fun q hq => by rcases List.mem_cons.1 hq with rfl | hq; exact hp; exact h q hq)
      · exact .inr ⟨p :: A, x, B, rfl, fun q hq => by rcases List.mem_cons.1 hq with rfl | hq; exact hp; exact h q hq⟩
theorem mget_app (hb : ∀ {x y}, beq x y = true ↔ x = y) (A B : List (κ × γ)) (k : κ) : mget beq (A ++ B) k = (mget beq A k).or (mget beq B k) := by
  unfold mget
  rw [List.find?_append]
  cases A.find? (fun p => beq k p.1) <;> rfl
theorem mget_cons (p : κ × γ) (l : List (κ × γ)) (k : κ) : mget beq (p :: l) k = if beq k p.1 = true then some p.2 else mget beq l k := by
  unfold mget
  rw [List.find?_cons]
  cases beq k p.1 <;> simp
theorem mget_mput (hb : ∀ {x y}, beq x y = true ↔ x = y) (l : List (κ × γ)) (k k2 : κ) (y : γ) : mget beq (mput beq l k y) k2 = if beq k2 k = true then some y else mget beq l k2 := by
  rcases key_split k l with h | ⟨A, x, B, rfl, h⟩
  · rw [mput_no hb h, mget_app hb, mget_cons]
    by_cases hk : beq k2 k = true
    · have := hb.1 hk
      subst this
      rw [if_pos hk, if_pos hk, mget_no hb h]; rfl
    · rw [if_neg hk, if_neg hk]
      show (mget beq l k2).or none = _
      cases mget beq l k2 <;> rfl
  · rw [mput_split hb h, mget_app hb, mget_cons, mget_app hb, mget_cons]
    by_cases hk : beq k2 k = true
    · have := hb.1 hk
      subst this
      rw [if_pos hk, if_pos hk, mget_no hb h]; rfl
    · rw [if_neg hk, if_neg hk, if_neg hk]
end
abbrev Tab := List (Role × List ByteArray)
def mm (T : Tab) : List (Role × List (ByteArray × Bool)) := T.map fun p => (p.1, tt p.2)
def namesOf (T : Tab) (r : Role) : List ByteArray := (mget beqRole T r).getD []
def FS (T : Tab) : List Fact := T.flatMap fun p => p.2.map fun w => (⟨p.1, w⟩ : Fact)
def addT (T : Tab) (r : Role) (w : ByteArray) : Tab := mput beqRole T r (namesOf T r ++ [w])
theorem mm_app (A B : Tab) : mm (A ++ B) = mm A ++ mm B := by simp [mm]
theorem mm_keys {A : Tab} {r : Role} (h : ∀ p ∈ A, p.1 ≠ r) : ∀ p ∈ mm A, p.1 ≠ r := by
  intro p hp
  simp only [mm, List.mem_map] at hp
  obtain ⟨q, hq, rfl⟩ := hp
  exact h q hq
theorem mget_mm (T : Tab) (r : Role) : mget beqRole (mm T) r = (mget beqRole T r).map tt := by
  rcases key_split r T with h | ⟨A, x, B, rfl, h⟩
  · rw [mget_no beqRole_iff h, mget_no beqRole_iff (mm_keys h)]; rfl
  · rw [mget_split beqRole_iff h, mm_app]
    exact mget_split beqRole_iff (mm_keys h)
theorem getD_mm (T : Tab) (r : Role) : (mget beqRole (mm T) r).getD [] = tt (namesOf T r) := by
  rw [mget_mm, namesOf]; cases mget beqRole T r <;> rfl
theorem FS_add (T : Tab) (r : Role) (w : ByteArray) : (FS (addT T r w)).Perm (FS T ++ [(⟨r, w⟩ : Fact)]) := by
  unfold addT namesOf
  rcases key_split r T with h | ⟨A, x, B, rfl, h⟩
  · rw [mput_no beqRole_iff h, mget_no beqRole_iff h]
    simp [FS]
  · rw [mput_split beqRole_iff h, mget_split beqRole_iff h]
    simp only [FS, List.flatMap_append, List.flatMap_cons, Option.getD_some, List.map_append, List.map_cons, List.map_nil, List.append_assoc]
    refine List.Perm.append_left _ (List.Perm.append_left _ ?_)
    exact List.perm_append_comm
theorem keys_add {T : Tab} (hk : (T.map (·.1)).Nodup) (r : Role) (w : ByteArray) : ((addT T r w).map (·.1)).Nodup := by
  unfold addT
  rcases key_split r T with h | ⟨A, x, B, rfl, h⟩
  · rw [mput_no beqRole_iff h]
    simp only [List.map_append, List.map_cons, List.map_nil]
    refine List.nodup_append.2 ⟨hk, by simp, fun a ha b hb e => ?_⟩
    simp at hb; subst hb; subst e
    obtain ⟨p, hp, e⟩ := List.mem_map.1 ha
    exact h p hp e
  · rw [mput_split beqRole_iff h]
    simpa using hk
theorem mem_FS {T : Tab} (hk : (T.map (·.1)).Nodup) (f : Fact) : f ∈ FS T ↔ f.Who ∈ namesOf T f.Role := by
  simp only [FS, List.mem_flatMap, List.mem_map]
  constructor
  · rintro ⟨p, hp, w, hw, rfl⟩
    obtain ⟨A, B, rfl⟩ := List.append_of_mem hp
    have hA : ∀ q ∈ A, q.1 ≠ p.1 := fun q hq e => by
      rw [List.map_append, List.map_cons] at hk
      exact (List.nodup_append.1 hk).2.2 q.1 (List.mem_map.2 ⟨q, hq, rfl⟩) p.1 (by simp) e
    rw [namesOf, show p = (p.1, p.2) from rfl, mget_split beqRole_iff hA]
    exact hw
  · intro h
    unfold namesOf at h
    rcases key_split f.Role T with hn | ⟨A, x, B, rfl, hA⟩
    · rw [mget_no beqRole_iff hn] at h; cases h
    · rw [mget_split beqRole_iff hA] at h
      exact ⟨(f.Role, x), by simp, f.Who, h, rfl⟩
theorem names_nodup {T : Tab} (h : (FS T).Nodup) (r : Role) : (namesOf T r).Nodup := by
  unfold namesOf
  rcases key_split r T with hn | ⟨A, x, B, rfl, hA⟩
  · rw [mget_no beqRole_iff hn]; simp
  · rw [mget_split beqRole_iff hA]
    simp only [FS, List.flatMap_append, List.flatMap_cons] at h
    have h1 := (List.nodup_append.1 (List.nodup_append.1 h).2.1).1
    simp only [List.Nodup, List.pairwise_map] at h1
    exact h1.imp (fun h e => h (by rw [e]))
inductive Der (C : List Cred) : Fact → Prop
  | mem (c) : c ∈ C → c.Kind = 1 → Der C ⟨c.Head, c.Who⟩
  | inc (c w) : c ∈ C → c.Kind = 2 → Der C ⟨c.B, w⟩ → Der C ⟨c.Head, w⟩
  | lnk (c b w) : c ∈ C → c.Kind = 3 → Der C ⟨c.B, b⟩ → Der C ⟨⟨b, c.Word2⟩, w⟩ → Der C ⟨c.Head, w⟩
  | both (c w) : c ∈ C → c.Kind = 4 → Der C ⟨c.B, w⟩ → Der C ⟨c.C, w⟩ → Der C ⟨c.Head, w⟩
theorem Der.mono {C C' : List Cred} (h : ∀ c ∈ C, c ∈ C') {f : Fact} (hf : Der C f) : Der C' f := by
  induction hf with
  | mem c hc hk => exact .mem c (h c hc) hk
  | inc c w hc hk _ ih => exact .inc c w (h c hc) hk ih
  | lnk c b w hc hk _ _ ih1 ih2 => exact .lnk c b w (h c hc) hk ih1 ih2
  | both c w hc hk _ _ ih1 ih2 => exact .both c w (h c hc) hk ih1 ih2
def uni (C : List Cred) : List Fact := (C.map (·.Head)).flatMap fun r => (C.map (·.Who)).map fun w => (⟨r, w⟩ : Fact)
theorem uni_length (C : List Cred) : (uni C).length = C.length * C.length := by
  unfold uni
  have : ∀ l : List Role, (l.flatMap fun r => (C.map (·.Who)).map fun w => (⟨r, w⟩ : Fact)).length = l.length * C.length := fun l => by
    induction l with
    | nil => simp
    | cons x l ih => simp only [List.flatMap_cons, List.length_append, ih, List.length_map, List.length_cons, Nat.add_mul]; omega
  rw [this, List.length_map]
theorem mem_uni {C : List Cred} {r : Role} {w : ByteArray} : (⟨r, w⟩ : Fact) ∈ uni C ↔ (∃ c ∈ C, c.Head = r) ∧ ∃ c ∈ C, c.Who = w := by
  unfold uni
  simp only [List.mem_flatMap, List.mem_map, Fact.mk.injEq]
  constructor
  · rintro ⟨r', ⟨c, hc, rfl⟩, w', ⟨c', hc', rfl⟩, rfl, rfl⟩; exact ⟨⟨c, hc, rfl⟩, c', hc', rfl⟩
  · rintro ⟨⟨c, hc, rfl⟩, c', hc', rfl⟩; exact ⟨_, ⟨c, hc, rfl⟩, _, ⟨c', hc', rfl⟩, rfl, rfl⟩
theorem Der.who {C : List Cred} {f : Fact} (h : Der C f) : ∃ c ∈ C, c.Kind = 1 ∧ c.Who = f.Who := by
  induction h with
  | mem c hc hk => exact ⟨c, hc, hk, rfl⟩
  | inc c w hc hk _ ih => exact ih
  | lnk c b w hc hk _ _ ih1 ih2 => exact ih2
  | both c w hc hk _ _ ih1 ih2 => exact ih1
theorem Der.head {C : List Cred} {f : Fact} (h : Der C f) : ∃ c ∈ C, c.Head = f.Role := by
  cases h with
  | mem c hc hk => exact ⟨c, hc, rfl⟩
  | inc c w hc hk _ => exact ⟨c, hc, rfl⟩
  | lnk c b w hc hk _ _ => exact ⟨c, hc, rfl⟩
  | both c w hc hk _ _ => exact ⟨c, hc, rfl⟩
theorem Der.uni {C : List Cred} {f : Fact} (h : Der C f) : f ∈ uni C := by
  obtain ⟨c, hc, _, hw⟩ := h.who
  exact mem_uni.2 ⟨h.head, c, hc, hw⟩
structure Good (C : List Cred) (T : Tab) (td : List Fact) (n : Int) : Prop where
  keys : (T.map (·.1)).Nodup
  nd : (FS T).Nodup
  tnd : td.Nodup
  sub : ∀ f ∈ td, f ∈ FS T
  num : n = (FS T).length
  der : ∀ f ∈ FS T, Der C f
theorem Good.len {C : List Cred} {T : Tab} {td : List Fact} {n : Int} (h : Good C T td n) : (FS T).length ≤ C.length * C.length := by
  rw [← uni_length]; exact length_le_of_nodup h.nd (fun f hf => (h.der f hf).uni)
theorem Good.tlen {C : List Cred} {T : Tab} {td : List Fact} {n : Int} (h : Good C T td n) : td.length ≤ (FS T).length := length_le_of_nodup h.tnd h.sub
theorem Good.mono {C C' : List Cred} {T : Tab} {td : List Fact} {n : Int} (h : Good C T td n) (hc : ∀ c ∈ C, c ∈ C') : Good C' T td n := ⟨h.keys, h.nd, h.tnd, h.sub, h.num, fun f hf => (h.der f hf).mono hc⟩
structure Ext (T : Tab) (td : List Fact) (T' : Tab) (td' : List Fact) : Prop where
  old : ∀ f ∈ FS T, f ∈ FS T'
  todo : ∀ f ∈ td, f ∈ td'
  new : ∀ f ∈ FS T', f ∈ FS T ∨ f ∈ td'
  fresh : ∀ f ∈ td', f ∈ td ∨ f ∉ FS T
theorem Ext.refl (T : Tab) (td : List Fact) : Ext T td T td := ⟨fun _ h => h, fun _ h => h, fun _ h => .inl h, fun _ h => .inl h⟩
theorem Ext.trans {T T' T'' : Tab} {td td' td'' : List Fact} (h : Ext T td T' td') (k : Ext T' td' T'' td'') : Ext T td T'' td'' :=
  ⟨fun f hf => k.old f (h.old f hf), fun f hf => k.todo f (h.todo f hf), fun f hf => by
    rcases k.new f hf with h1 | h1
    · rcases h.new f h1 with h2 | h2
      · exact .inl h2
      · exact .inr (k.todo f h2)
    · exact .inr h1, fun f hf => by
    rcases k.fresh f hf with h1 | h1
    · exact h.fresh f h1
    · exact .inr (fun h2 => h1 (h.old f h2))⟩
theorem filter_two {α : Type} (p : α → Bool) : ∀ l : List α, (l.filter p).length + (l.filter fun x => !p x).length = l.length
  | [] => rfl
  | x :: l => by
    have := filter_two p l
    cases h : p x <;> simp [h] <;> omega
theorem Good.cnt {C C' : List Cred} {T T' : Tab} {td td' : List Fact} {n n' : Int} (g' : Good C' T' td' n') (g : Good C T td n) (x : Ext T td T' td') : td'.length + (FS T).length ≤ td.length + (FS T').length := by
  classical
  have h1 : (td'.filter fun f => decide (f ∈ FS T)).length ≤ td.length := length_le_of_nodup (g'.tnd.filter _) (fun f hf => by
    have := List.mem_filter.1 hf
    rcases x.fresh f this.1 with h | h
    · exact h
    · exact absurd (by simpa using this.2) h)
  have h2 : (FS T ++ td'.filter fun f => !decide (f ∈ FS T)).length ≤ (FS T').length := length_le_of_nodup (List.nodup_append.2 ⟨g.nd, g'.tnd.filter _, fun a ha b hb e => by
    subst e
    have := (List.mem_filter.1 hb).2
    simp [ha] at this⟩) (fun f hf => by
    rcases List.mem_append.1 hf with h | h
    · exact x.old f h
    · exact g'.sub f (List.mem_filter.1 h).1)
  have h3 : (td'.filter fun f => decide (f ∈ FS T)).length + (td'.filter fun f => !decide (f ∈ FS T)).length = td'.length := by
    exact filter_two (fun f => decide (f ∈ FS T)) td'
  rw [List.length_append] at h2
  omega
def Goes (C : List Cred) (T : Tab) (td : List Fact) (res : Option (List (Role × List (ByteArray × Bool)) × List Fact × Int)) (Q : Tab → Prop) : Prop :=
  ∃ T' td' n', res = some (mm T', td', n') ∧ Good C T' td' n' ∧ Ext T td T' td' ∧ Q T'
theorem Goes.mono {C : List Cred} {T : Tab} {td : List Fact} {res : Option (List (Role × List (ByteArray × Bool)) × List Fact × Int)} {Q Q' : Tab → Prop} (h : Goes C T td res Q) (hq : ∀ T', (∀ f ∈ FS T, f ∈ FS T') → Q T' → Q' T') : Goes C T td res Q' := by
  obtain ⟨T', td', n', h1, h2, h3, h4⟩ := h
  exact ⟨T', td', n', h1, h2, h3, hq T' h3.old h4⟩
def SMALL (C : List Cred) : Prop := C.length ≤ 1000000
theorem SMALL.sq {C : List Cred} (h : SMALL C) : C.length * C.length ≤ 1000000000000 := Nat.mul_le_mul h h
theorem hasB_names {T : Tab} (hk : (T.map (·.1)).Nodup) (r : Role) (w : ByteArray) : mgetD beqS ((mget beqRole (mm T) r).getD []) w false = true ↔ (⟨r, w⟩ : Fact) ∈ FS T := by
  rw [getD_mm, mgetD_tt, hasB_iff beqS_iff, mem_FS hk]
theorem tell_ok {C : List Cred} (hC : SMALL C) {T : Tab} {td : List Fact} {n : Int} (h : Good C T td n) (cs : List Cred) (us : List (Role × List Cred)) (ws : List (ByteArray × List Cred)) {r : Role} {w : ByteArray} (hd : Der C ⟨r, w⟩) :
    Goes C T td (m_model_Model_tell_w (mm T) cs us ws td n r w) (fun T' => (⟨r, w⟩ : Fact) ∈ FS T') := by
  unfold m_model_Model_tell_w
  have hsq := hC.sq
  have hl := h.len
  have htl := h.tlen
  by_cases hin : (⟨r, w⟩ : Fact) ∈ FS T
  · rw [if_pos ((hasB_names h.keys r w).2 hin)]
    exact ⟨T, td, n, rfl, h, Ext.refl _ _, hin⟩
  · rw [if_neg (fun hh => hin ((hasB_names h.keys r w).1 hh))]
    have hg : Good C (addT T r w) (td ++ [⟨r, w⟩]) (n + 1) := by
      have hp := FS_add T r w
      refine ⟨keys_add h.keys r w, (hp.nodup_iff).2 (List.nodup_append.2 ⟨h.nd, by simp, fun a ha b hb e => ?_⟩), List.nodup_append.2 ⟨h.tnd, by simp, fun a ha b hb e => ?_⟩, fun f hf => hp.mem_iff.2 ?_, ?_, fun f hf => ?_⟩
      · simp at hb; subst hb; subst e; exact hin ha
      · simp at hb; subst hb; subst e; exact hin (h.sub _ ha)
      · rcases List.mem_append.1 hf with hf | hf
        · exact List.mem_append_left _ (h.sub f hf)
        · exact List.mem_append_right _ hf
      · rw [hp.length_eq, h.num]; simp
      · rcases List.mem_append.1 (hp.mem_iff.1 hf) with hf | hf
        · exact h.der f hf
        · simp at hf; subst hf; exact hd
    have hst : ((if (mget beqRole (mm T) r).isNone = true then ((mnew beqRole (mm T) r []).bind fun l => some l) else some (mm T)) : Option _).bind (fun l => (mupd beqRole beqS l r w true)) = some (mm (addT T r w)) := by
      unfold addT namesOf
      rcases key_split r T with hn | ⟨A, x, B, rfl, hA⟩
      · have hn' := mget_no beqRole_iff (mm_keys hn)
        rw [hn', mget_no beqRole_iff hn, mput_no beqRole_iff hn, mm_app]
        simp only [Option.isNone_none, if_true, mnew, hn', Option.bind_some]
        rw [mput_no beqRole_iff (mm_keys hn)]
        unfold mupd
        rw [mget_split beqRole_iff (mm_keys hn)]
        simp only [Option.map_some]
        rw [mput_split beqRole_iff (mm_keys hn)]
        rfl
      · have hA' := mm_keys hA
        have hs : mget beqRole (mm (A ++ (r, x) :: B)) r = some (tt x) := by rw [mm_app]; exact mget_split beqRole_iff hA'
        rw [hs, mget_split beqRole_iff hA, mput_split beqRole_iff hA]
        simp only [Option.isNone_some, Bool.false_eq_true, if_false, Option.bind_some, mupd, hs, Option.map_some, Option.getD_some]
        have hx : w ∉ x := fun hw => hin (by
          rw [mem_FS h.keys, namesOf, mget_split beqRole_iff hA]; exact hw)
        rw [mput_tt beqS_iff]
        rw [show ins beqS x w = x ++ [w] from by unfold ins; rw [if_neg (fun hh => hx ((hasB_iff beqS_iff x w).1 hh))]]
        rw [mm_app, show mm ((r, x) :: B) = (r, tt x) :: mm B from rfl, mput_split beqRole_iff hA', mm_app]
        rfl
    refine ⟨addT T r w, td ++ [⟨r, w⟩], n + 1, ?_, hg, ⟨fun f hf => (FS_add T r w).mem_iff.2 (List.mem_append_left _ hf), fun f hf => List.mem_append_left _ hf, fun f hf => ?_, fun f hf => ?_⟩, (FS_add T r w).mem_iff.2 (by simp)⟩
    · have hst' := hst
      generalize ((if (mget beqRole (mm T) r).isNone = true then ((mnew beqRole (mm T) r []).bind fun l => some l) else some (mm T)) : Option _) = o at hst'
      cases o with
      | none => cases hst'
      | some l =>
        simp only [Option.bind_some] at hst' ⊢
        rw [hst']
        simp only [Option.bind_some]
        rw [appB_ok (by simp; omega) (by simp; omega)]
        simp only [Option.bind_some]
        rw [wrap_in (by rw [h.num]; omega) (by rw [h.num]; omega)]
    · rcases List.mem_append.1 ((FS_add T r w).mem_iff.1 hf) with h1 | h1
      · exact .inl h1
      · exact .inr (List.mem_append_right _ h1)
    · rcases List.mem_append.1 hf with h1 | h1
      · exact .inl h1
      · simp at h1; subst h1; exact .inr hin
end Go.Proofs.YtmlncblocfcmiaaGreat
namespace Go.Proofs.YtmlncblocfcmiaaGreat
open Go.RowKit
theorem mem_sortedS (l : List ByteArray) (x : ByteArray) : x ∈ sortedS l ↔ x ∈ l := by unfold sortedS; simp
def Rights (C : List Cred) : Prop := ∀ c ∈ C, rightC c = true
theorem right_who {c : Cred} (h : rightC c = true) (hk : c.Kind = 1) : c.Who.size ≤ 16 := by
  rcases rightC_cases h with h | h | h | h
  · exact (rightN_size h.2.1).2
  · exact absurd (hk.symm.trans h.1) (by decide)
  · exact absurd (hk.symm.trans h.1) (by decide)
  · exact absurd (hk.symm.trans h.1) (by decide)
theorem flat_len {T : Tab} (r : Role) (hk : (T.map (·.1)).Nodup) : (namesOf T r).length ≤ (FS T).length := by
  unfold namesOf
  rcases key_split r T with hn | ⟨A, x, B, rfl, hA⟩
  · rw [mget_no beqRole_iff hn]; simp
  · rw [mget_split beqRole_iff hA]
    simp only [FS, List.flatMap_append, List.flatMap_cons, List.length_append, List.length_map, Option.getD_some]
    omega
theorem members_ok {C : List Cred} (hC : SMALL C) (hR : Rights C) {T : Tab} {td : List Fact} {n : Int} (h : Good C T td n) (cs : List Cred) (us : List (Role × List Cred)) (ws : List (ByteArray × List Cred)) (q : List Fact) (z : Int) (r : Role) :
    m_model_Model_Members (mm T) cs us ws q z r = some (sortedS (namesOf T r)) := by
  unfold m_model_Model_Members m_maps_Keys_map_stringbool_string_bool_
  rw [getD_mm]
  simp only [Option.bind_some, bindS]
  have hl := flat_len r h.keys
  have h2 := h.len
  have h3 := hC.sq
  unfold keysS
  rw [tt_keys, if_pos]
  refine ⟨names_nodup h.nd r, fun p hp => ?_, by rw [tt_length]; omega⟩
  simp only [tt, List.mem_map] at hp
  obtain ⟨w, hw, rfl⟩ := hp
  have hd := h.der ⟨r, w⟩ ((mem_FS h.keys ⟨r, w⟩).2 hw)
  obtain ⟨c, hc, hk, e⟩ := hd.who
  have := right_who (hR c hc) hk
  simp only at e ⊢
  rw [← e]
  unfold maxLen
  omega
theorem all_L1 {C : List Cred} (hC : SMALL C) (cs : List Cred) (us : List (Role × List Cred)) (ws : List (ByteArray × List Cred)) (head : Role) : ∀ (l : List ByteArray) {T : Tab} {td : List Fact} {n : Int}, Good C T td n → (∀ w ∈ l, Der C ⟨head, w⟩) →
    Goes C T td (m_model_Model_all_w_L1 cs us ws head l (mm T) td n) (fun T' => ∀ w ∈ l, (⟨head, w⟩ : Fact) ∈ FS T')
  | [], T, td, n, h, _ => ⟨T, td, n, rfl, h, Ext.refl _ _, fun _ hw => by cases hw⟩
  | w :: l, T, td, n, h, hd => by
    rw [m_model_Model_all_w_L1]
    obtain ⟨T1, td1, n1, e1, g1, x1, q1⟩ := tell_ok hC h cs us ws (hd w (by simp))
    rw [e1]
    simp only [Option.bind_some]
    obtain ⟨T2, td2, n2, e2, g2, x2, q2⟩ := all_L1 hC cs us ws head l g1 (fun w hw => hd w (by simp [hw]))
    refine ⟨T2, td2, n2, e2, g2, x1.trans x2, fun v hv => ?_⟩
    rcases List.mem_cons.1 hv with rfl | hv
    · exact x2.old _ q1
    · exact q2 v hv
theorem all_ok {C : List Cred} (hC : SMALL C) (hR : Rights C) {T : Tab} {td : List Fact} {n : Int} (h : Good C T td n) (cs : List Cred) (us : List (Role × List Cred)) (ws : List (ByteArray × List Cred)) (r head : Role) (hd : ∀ w, (⟨r, w⟩ : Fact) ∈ FS T → Der C ⟨head, w⟩) :
    Goes C T td (m_model_Model_all_w (mm T) cs us ws td n r head) (fun T' => ∀ w, (⟨r, w⟩ : Fact) ∈ FS T → (⟨head, w⟩ : Fact) ∈ FS T') := by
  unfold m_model_Model_all_w
  rw [members_ok hC hR h]
  simp only [Option.bind_some]
  refine (all_L1 hC cs us ws head _ h (fun w hw => hd w ((mem_FS h.keys ⟨r, w⟩).2 ((mem_sortedS _ _).1 hw)))).mono (fun T' _ hq w hw => hq w ((mem_sortedS _ _).2 ((mem_FS h.keys ⟨r, w⟩).1 hw)))
def Done (c : Cred) (f : Fact) (T T' : Tab) : Prop :=
  (c.Kind = 2 → f.Role = c.B → (⟨c.Head, f.Who⟩ : Fact) ∈ FS T') ∧
  (c.Kind = 3 → f.Role = c.B → ∀ w, (⟨⟨f.Who, c.Word2⟩, w⟩ : Fact) ∈ FS T → (⟨c.Head, w⟩ : Fact) ∈ FS T') ∧
  (c.Kind = 4 → (⟨c.B, f.Who⟩ : Fact) ∈ FS T → (⟨c.C, f.Who⟩ : Fact) ∈ FS T → (⟨c.Head, f.Who⟩ : Fact) ∈ FS T')
theorem Done.mono {c : Cred} {f : Fact} {T T' T0 T1 : Tab} (h : Done c f T T') (h0 : ∀ f ∈ FS T0, f ∈ FS T) (h1 : ∀ f ∈ FS T', f ∈ FS T1) : Done c f T0 T1 :=
  ⟨fun a b => h1 _ (h.1 a b), fun a b w hw => h1 _ (h.2.1 a b w (h0 _ hw)), fun a b d => h1 _ (h.2.2 a (h0 _ b) (h0 _ d))⟩
theorem bind3 (x : Option (List (Role × List (ByteArray × Bool)) × List Fact × Int)) : (x.bind fun r => some (r.1, r.2.1, r.2.2)) = x := by cases x <;> rfl
theorem use_ok {C : List Cred} (hC : SMALL C) (hR : Rights C) {T : Tab} {td : List Fact} {n : Int} (h : Good C T td n) (cs : List Cred) (us : List (Role × List Cred)) (ws : List (ByteArray × List Cred)) {c : Cred} (hc : c ∈ C) {f : Fact} (hf : f ∈ FS T) (hr : f.Role ∈ rolesOf c) :
    Goes C T td (m_model_Model_use_w (mm T) cs us ws td n c f) (Done c f T) := by
  unfold m_model_Model_use_w
  simp only [bind3, andS]
  by_cases h2 : c.Kind = 2
  · have hB : f.Role = c.B := by simpa [rolesOf, h2] using hr
    rw [if_pos (by simp [h2])]
    have hd : Der C ⟨c.Head, f.Who⟩ := .inc c f.Who hc h2 (by rw [← hB]; exact h.der f hf)
    refine (tell_ok hC h cs us ws hd).mono (fun T' _ hq => ⟨fun _ _ => hq, fun k => absurd (h2.symm.trans k) (by decide), fun k => absurd (h2.symm.trans k) (by decide)⟩)
  rw [if_neg (by simp [h2])]
  by_cases h3 : c.Kind = 3
  · have hB : f.Role = c.B := by simpa [rolesOf, h3] using hr
    rw [if_pos (by simp [h3])]
    refine (all_ok hC hR h cs us ws ⟨f.Who, c.Word2⟩ c.Head (fun w hw => .lnk c f.Who w hc h3 (by rw [← hB]; exact h.der f hf) (h.der _ hw))).mono (fun T' _ hq => ⟨fun k => absurd k h2, fun _ _ w hw => hq w hw, fun k => absurd (h3.symm.trans k) (by decide)⟩)
  rw [if_neg (by simp [h3])]
  by_cases h4 : c.Kind = 4
  · rw [if_pos (by simp [h4])]
    simp only [Option.bind_some]
    by_cases hb : (⟨c.B, f.Who⟩ : Fact) ∈ FS T ∧ (⟨c.C, f.Who⟩ : Fact) ∈ FS T
    · rw [if_pos (by rw [Bool.and_eq_true, hasB_names h.keys, hasB_names h.keys]; exact hb)]
      have hd : Der C ⟨c.Head, f.Who⟩ := .both c f.Who hc h4 (h.der _ hb.1) (h.der _ hb.2)
      exact (tell_ok hC h cs us ws hd).mono (fun T' _ hq => ⟨fun k => absurd k h2, fun k => absurd k h3, fun _ _ _ => hq⟩)
    · rw [if_neg (by rw [Bool.and_eq_true, hasB_names h.keys, hasB_names h.keys]; exact hb)]
      exact ⟨T, td, n, rfl, h, Ext.refl _ _, fun k => absurd k h2, fun k => absurd k h3, fun _ x y => absurd ⟨x, y⟩ hb⟩
  · rw [if_neg (by simp [h4])]
    exact ⟨T, td, n, rfl, h, Ext.refl _ _, fun k => absurd k h2, fun k => absurd k h3, fun k => absurd k h4⟩
theorem begin_L1 {C : List Cred} (hC : SMALL C) (hR : Rights C) (cs : List Cred) (us : List (Role × List Cred)) (ws : List (ByteArray × List Cred)) {c : Cred} (hc : c ∈ C) (hr : c.B ∈ rolesOf c) : ∀ (l : List ByteArray) {T : Tab} {td : List Fact} {n : Int}, Good C T td n → (∀ w ∈ l, (⟨c.B, w⟩ : Fact) ∈ FS T) →
    Goes C T td (m_model_Model_begin_w_L1 cs us ws c l (mm T) td n) (fun T' => ∀ w ∈ l, Done c ⟨c.B, w⟩ T T')
  | [], T, td, n, h, _ => ⟨T, td, n, rfl, h, Ext.refl _ _, fun _ hw => by cases hw⟩
  | w :: l, T, td, n, h, hm => by
    rw [m_model_Model_begin_w_L1]
    obtain ⟨T1, td1, n1, e1, g1, x1, q1⟩ := use_ok hC hR h cs us ws hc (f := ⟨c.B, w⟩) (hm w (by simp)) hr
    rw [e1]
    simp only [Option.bind_some]
    obtain ⟨T2, td2, n2, e2, g2, x2, q2⟩ := begin_L1 hC hR cs us ws hc hr l g1 (fun w hw => x1.old _ (hm w (by simp [hw])))
    refine ⟨T2, td2, n2, e2, g2, x1.trans x2, fun v hv => ?_⟩
    rcases List.mem_cons.1 hv with rfl | hv
    · exact q1.mono (fun _ h => h) x2.old
    · exact (q2 v hv).mono x1.old (fun _ h => h)
def ClC (c : Cred) (T : Tab) (td : List Fact) : Prop :=
  (c.Kind = 1 → (⟨c.Head, c.Who⟩ : Fact) ∈ FS T) ∧
  (c.Kind = 2 → ∀ w, (⟨c.B, w⟩ : Fact) ∈ FS T → (⟨c.B, w⟩ : Fact) ∉ td → (⟨c.Head, w⟩ : Fact) ∈ FS T) ∧
  (c.Kind = 3 → ∀ b w, (⟨c.B, b⟩ : Fact) ∈ FS T → (⟨c.B, b⟩ : Fact) ∉ td → (⟨⟨b, c.Word2⟩, w⟩ : Fact) ∈ FS T → (⟨⟨b, c.Word2⟩, w⟩ : Fact) ∉ td → (⟨c.Head, w⟩ : Fact) ∈ FS T) ∧
  (c.Kind = 4 → ∀ w, (⟨c.B, w⟩ : Fact) ∈ FS T → (⟨c.B, w⟩ : Fact) ∉ td → (⟨c.C, w⟩ : Fact) ∈ FS T → (⟨c.C, w⟩ : Fact) ∉ td → (⟨c.Head, w⟩ : Fact) ∈ FS T)
theorem ClC.ext {c : Cred} {T T' : Tab} {td td' : List Fact} (h : ClC c T td) (x : Ext T td T' td') : ClC c T' td' := by
  have old : ∀ f, f ∈ FS T' → f ∉ td' → f ∈ FS T ∧ f ∉ td := fun f hf hn => by
    rcases x.new f hf with h1 | h1
    · exact ⟨h1, fun h2 => hn (x.todo f h2)⟩
    · exact absurd h1 hn
  refine ⟨fun k => x.old _ (h.1 k), fun k w a b => ?_, fun k b w a1 a2 a3 a4 => ?_, fun k w a1 a2 a3 a4 => ?_⟩
  · exact x.old _ (h.2.1 k w (old _ a b).1 (old _ a b).2)
  · exact x.old _ (h.2.2.1 k b w (old _ a1 a2).1 (old _ a1 a2).2 (old _ a3 a4).1 (old _ a3 a4).2)
  · exact x.old _ (h.2.2.2 k w (old _ a1 a2).1 (old _ a1 a2).2 (old _ a3 a4).1 (old _ a3 a4).2)
theorem begin_ok {C : List Cred} (hC : SMALL C) (hR : Rights C) {T : Tab} {td : List Fact} {n : Int} (h : Good C T td n) (cs : List Cred) (us : List (Role × List Cred)) (ws : List (ByteArray × List Cred)) {c : Cred} (hc : c ∈ C) :
    ∃ T' td' n', m_model_Model_begin_w (mm T) cs us ws td n c = some (mm T', td', n') ∧ Good C T' td' n' ∧ Ext T td T' td' ∧ ClC c T' td' := by
  unfold m_model_Model_begin_w
  simp only [bind3]
  by_cases h1 : c.Kind = 1
  · rw [if_pos (by simp [h1])]
    obtain ⟨T', td', n', e, g, x, q⟩ := tell_ok hC h cs us ws (Der.mem c hc h1)
    exact ⟨T', td', n', e, g, x, fun _ => q, fun k => absurd (h1.symm.trans k) (by decide), fun k => absurd (h1.symm.trans k) (by decide), fun k => absurd (h1.symm.trans k) (by decide)⟩
  · rw [if_neg (by simp [h1]), members_ok hC hR h]
    simp only [Option.bind_some]
    have hr : c.B ∈ rolesOf c := by unfold rolesOf; rw [if_neg h1]; split <;> simp
    obtain ⟨T', td', n', e, g, x, q⟩ := begin_L1 hC hR cs us ws hc hr (sortedS (namesOf T c.B)) h (fun w hw => (mem_FS h.keys ⟨c.B, w⟩).2 ((mem_sortedS _ _).1 hw))
    have old : ∀ f, f ∈ FS T' → f ∉ td' → f ∈ FS T := fun f hf hn => by
      rcases x.new f hf with h1 | h1
      · exact h1
      · exact absurd h1 hn
    have qq : ∀ w, (⟨c.B, w⟩ : Fact) ∈ FS T → Done c ⟨c.B, w⟩ T T' := fun w hw => q w ((mem_sortedS _ _).2 ((mem_FS h.keys ⟨c.B, w⟩).1 hw))
    refine ⟨T', td', n', e, g, x, fun k => absurd k h1, fun k w a b => ?_, fun k b w a1 a2 a3 a4 => ?_, fun k w a1 a2 a3 a4 => ?_⟩
    · exact (qq w (old _ a b)).1 k rfl
    · exact (qq b (old _ a1 a2)).2.1 k rfl w (old _ a3 a4)
    · exact (qq w (old _ a1 a2)).2.2 k (old _ a1 a2) (old _ a3 a4)
structure Uses (C : List Cred) (us : List (Role × List Cred)) (ws : List (ByteArray × List Cred)) : Prop where
  role : ∀ r c, c ∈ (mget beqRole us r).getD [] ↔ c ∈ C ∧ r ∈ rolesOf c
  word : ∀ w c, c ∈ (mget beqS ws w).getD [] ↔ c ∈ C ∧ c.Kind = 3 ∧ c.Word2 = w
  rlen : ∀ r, ((mget beqRole us r).getD []).length ≤ 2 * C.length
  wlen : ∀ w, ((mget beqS ws w).getD []).length ≤ C.length
theorem settle_L3 {C : List Cred} (hC : SMALL C) (hR : Rights C) (cs : List Cred) (us : List (Role × List Cred)) (ws : List (ByteArray × List Cred)) {f : Fact} : ∀ (l : List Cred) {T : Tab} {td : List Fact} {n : Int}, Good C T td n → f ∈ FS T → (∀ c ∈ l, c ∈ C ∧ f.Role ∈ rolesOf c) →
    Goes C T td (m_model_Model_settle_w_L3 cs us ws f l (mm T) td n) (fun T' => ∀ c ∈ l, Done c f T T')
  | [], T, td, n, h, _, _ => ⟨T, td, n, rfl, h, Ext.refl _ _, fun _ hw => by cases hw⟩
  | c :: l, T, td, n, h, hf, hm => by
    rw [m_model_Model_settle_w_L3]
    obtain ⟨T1, td1, n1, e1, g1, x1, q1⟩ := use_ok hC hR h cs us ws (hm c (by simp)).1 hf (hm c (by simp)).2
    rw [e1]
    simp only [Option.bind_some]
    obtain ⟨T2, td2, n2, e2, g2, x2, q2⟩ := settle_L3 hC hR cs us ws l g1 (x1.old _ hf) (fun c hc => hm c (by simp [hc]))
    refine ⟨T2, td2, n2, e2, g2, x1.trans x2, fun v hv => ?_⟩
    rcases List.mem_cons.1 hv with rfl | hv
    · exact q1.mono (fun _ h => h) x2.old
    · exact (q2 v hv).mono x1.old (fun _ h => h)
theorem settle_L2 {C : List Cred} (hC : SMALL C) (hR : Rights C) (cs : List Cred) (us : List (Role × List Cred)) (ws : List (ByteArray × List Cred)) {f : Fact} : ∀ (l : List Cred) {T : Tab} {td : List Fact} {n : Int}, Good C T td n → f ∈ FS T → (∀ c ∈ l, c ∈ C ∧ c.Kind = 3 ∧ c.Word2 = f.Role.Word) →
    Goes C T td (m_model_Model_settle_w_L2 f cs us ws l (mm T) td n) (fun T' => ∀ c ∈ l, (⟨c.B, f.Role.Owner⟩ : Fact) ∈ FS T → (⟨c.Head, f.Who⟩ : Fact) ∈ FS T')
  | [], T, td, n, h, _, _ => ⟨T, td, n, rfl, h, Ext.refl _ _, fun _ hw => by cases hw⟩
  | c :: l, T, td, n, h, hf, hm => by
    rw [m_model_Model_settle_w_L2]
    have hk := hm c (by simp)
    by_cases hb : (⟨c.B, f.Role.Owner⟩ : Fact) ∈ FS T
    · rw [if_pos ((hasB_names h.keys _ _).2 hb)]
      have hfe : f = ⟨⟨f.Role.Owner, c.Word2⟩, f.Who⟩ := by rw [hk.2.2]
      have hd : Der C ⟨c.Head, f.Who⟩ := .lnk c f.Role.Owner f.Who hk.1 hk.2.1 (h.der _ hb) (by rw [← hfe]; exact h.der f hf)
      obtain ⟨T1, td1, n1, e1, g1, x1, q1⟩ := tell_ok hC h cs us ws hd
      rw [e1]
      simp only [Option.bind_some]
      obtain ⟨T2, td2, n2, e2, g2, x2, q2⟩ := settle_L2 hC hR cs us ws l g1 (x1.old _ hf) (fun c hc => hm c (by simp [hc]))
      refine ⟨T2, td2, n2, e2, g2, x1.trans x2, fun v hv hv2 => ?_⟩
      rcases List.mem_cons.1 hv with rfl | hv
      · exact x2.old _ q1
      · exact q2 v hv (x1.old _ hv2)
    · rw [if_neg (fun hh => hb ((hasB_names h.keys _ _).1 hh))]
      obtain ⟨T2, td2, n2, e2, g2, x2, q2⟩ := settle_L2 hC hR cs us ws l h hf (fun c hc => hm c (by simp [hc]))
      refine ⟨T2, td2, n2, e2, g2, x2, fun v hv hv2 => ?_⟩
      rcases List.mem_cons.1 hv with rfl | hv
      · exact absurd hv2 hb
      · exact q2 v hv hv2
theorem settle_L1 {C : List Cred} (hC : SMALL C) (hR : Rights C) {cs : List Cred} {us : List (Role × List Cred)} {ws : List (ByteArray × List Cred)} (hU : Uses C us ws) : ∀ (m : Nat) {T : Tab} {td : List Fact} {n : Int}, Good C T td n → (∀ c ∈ C, ClC c T td) → C.length * C.length + td.length < m + (FS T).length →
    ∃ T' n', m_model_Model_settle_w_L1 cs us ws m (mm T) td n = some (mm T', [], n') ∧ Good C T' [] n' ∧ (∀ c ∈ C, ClC c T' []) ∧ (∀ f ∈ FS T, f ∈ FS T')
  | 0, T, td, n, h, _, hm => by have := h.len; omega
  | m + 1, T, [], n, h, hcl, hm => by
    rw [m_model_Model_settle_w_L1]
    exact ⟨T, n, rfl, h, hcl, fun _ h => h⟩
  | m + 1, T, f :: td, n, h, hcl, hm => by
    rw [m_model_Model_settle_w_L1]
    rw [if_pos (by simp)]
    have hf : f ∈ FS T := h.sub f (by simp)
    have hn := (List.nodup_cons.1 h.tnd)
    simp only [idx, Int.le_refl, if_true, Int.toNat_zero, List.getElem?_cons_zero, Option.bind_some]
    rw [show chk (decide ((0 : Nat) ≤ 1) && decide ((1 : Int) ≤ ((f :: td).length : Int))) = some () by simp [chk]; omega]
    simp only [Option.bind_some, show Int.toNat 1 = 1 from rfl, List.drop_one, List.tail_cons]
    have h0 : Good C T td n := ⟨h.keys, h.nd, hn.2, fun g hg => h.sub g (by simp [hg]), h.num, h.der⟩
    obtain ⟨T1, td1, n1, e1, g1, x1, q1⟩ := settle_L3 hC hR cs us ws ((mget beqRole us f.Role).getD []) h0 hf (fun c hc => (hU.role _ c).1 hc)
    rw [e1]
    simp only [Option.bind_some]
    obtain ⟨T2, td2, n2, e2, g2, x2, q2⟩ := settle_L2 hC hR cs us ws ((mget beqS ws f.Role.Word).getD []) g1 (x1.old _ hf) (fun c hc => (hU.word _ c).1 hc)
    rw [e2]
    simp only [Option.bind_some]
    have x := x1.trans x2
    have old : ∀ g, g ∈ FS T2 → g ∉ td2 → g ∈ FS T ∧ (g = f ∨ g ∉ f :: td) := fun g hg hg2 => by
      rcases x.new g hg with h1 | h1
      · refine ⟨h1, ?_⟩
        by_cases he : g = f
        · exact .inl he
        · exact .inr (fun h2 => by
            rcases List.mem_cons.1 h2 with h2 | h2
            · exact he h2
            · exact hg2 (x.todo g h2))
      · exact absurd h1 hg2
    have d1 : ∀ c ∈ C, f.Role ∈ rolesOf c → Done c f T T2 := fun c hc hr => (q1 c ((hU.role _ c).2 ⟨hc, hr⟩)).mono (fun _ h => h) x2.old
    have hcl2 : ∀ c ∈ C, ClC c T2 td2 := fun c hc => by
      have k := hcl c hc
      refine ⟨fun hk => x.old _ (k.1 hk), fun hk w a b => ?_, fun hk b w a1 a2 a3 a4 => ?_, fun hk w a1 a2 a3 a4 => ?_⟩
      · obtain ⟨o1, o2⟩ := old _ a b
        rcases o2 with o2 | o2
        · subst o2; exact (d1 c hc (by simp [rolesOf, hk])).1 hk rfl
        · exact x.old _ (k.2.1 hk w o1 o2)
      · obtain ⟨o1, o2⟩ := old _ a1 a2
        obtain ⟨p1, p2⟩ := old _ a3 a4
        rcases o2 with o2 | o2
        · subst o2; exact (d1 c hc (by simp [rolesOf, hk])).2.1 hk rfl w p1
        · rcases p2 with p2 | p2
          · subst p2
            exact q2 c ((hU.word _ c).2 ⟨hc, hk, rfl⟩) (x1.old _ o1)
          · exact x.old _ (k.2.2.1 hk b w o1 o2 p1 p2)
      · obtain ⟨o1, o2⟩ := old _ a1 a2
        obtain ⟨p1, p2⟩ := old _ a3 a4
        rcases o2 with o2 | o2
        · subst o2; exact (d1 c hc (by simp [rolesOf, hk])).2.2 hk o1 p1
        · rcases p2 with p2 | p2
          · subst p2; exact (d1 c hc (by simp [rolesOf, hk])).2.2 hk o1 p1
          · exact x.old _ (k.2.2.2 hk w o1 o2 p1 p2)
    have hlen : td2.length + (FS T).length ≤ td.length + (FS T2).length := by
      exact g2.cnt h0 x
    obtain ⟨T3, n3, e3, g3, c3, o3⟩ := settle_L1 hC hR hU m g2 hcl2 (by simp only [List.length_cons] at hm; omega)
    exact ⟨T3, n3, e3, g3, c3, fun g hg => o3 g (x.old g hg)⟩
end Go.Proofs.YtmlncblocfcmiaaGreat
namespace Go.Proofs.YtmlncblocfcmiaaGreat
open Go.RowKit
theorem index_C (c : Cred) : ∀ (l : List Cred) (i : Nat), ∃ z, m_slices_Index_Cred_L1 c l i = some z ∧ (z ≥ 0 ↔ c ∈ l)
  | [], i => ⟨-1, rfl, by simp⟩
  | x :: l, i => by
    rw [m_slices_Index_Cred_L1]
    by_cases h : beqCred c x = true
    · rw [if_pos h]
      exact ⟨_, rfl, by simp [beqCred_iff.1 h]⟩
    · rw [if_neg h]
      obtain ⟨z, e, hz⟩ := index_C c l (i + 1)
      refine ⟨z, e, ?_⟩
      rw [hz, List.mem_cons]
      exact ⟨.inr, fun h2 => h2.resolve_left (fun e => h (beqCred_iff.2 e))⟩
theorem cred_Has (c : Cred) (l : List Cred) : ∃ b, m_cred_Has l c = some b ∧ (b = true ↔ c ∈ l) := by
  obtain ⟨z, e, hz⟩ := index_C c l 0
  refine ⟨decide (z ≥ 0), ?_, by simpa using hz⟩
  unfold m_cred_Has m_slices_Contains_Cred m_slices_Index_Cred
  rw [e]
  rfl
theorem note_L1 (c : Cred) (ws : List (ByteArray × List Cred)) (C : List Cred) (hw : ∀ w, ((mget beqS ws w).getD []).length ≤ 2000000) : ∀ (rs : List Role) (us : List (Role × List Cred)), (∀ r, ((mget beqRole us r).getD []).length + rs.length ≤ 4000000) →
    ∃ us' ws', m_model_Model_note_w_L1 c ws C rs us = some (C, us', ws') ∧ (∀ r x, x ∈ (mget beqRole us' r).getD [] ↔ x ∈ (mget beqRole us r).getD [] ∨ (x = c ∧ r ∈ rs)) ∧
      (∀ w x, x ∈ (mget beqS ws' w).getD [] ↔ x ∈ (mget beqS ws w).getD [] ∨ (x = c ∧ c.Kind = 3 ∧ w = c.Word2)) ∧ (∀ r, ((mget beqRole us' r).getD []).length ≤ ((mget beqRole us r).getD []).length + rs.length) ∧
      (∀ w, ((mget beqS ws' w).getD []).length ≤ ((mget beqS ws w).getD []).length + 1)
  | [], us, _ => by
    rw [m_model_Model_note_w_L1]
    by_cases h3 : c.Kind = 3
    · rw [if_pos (by simp [h3])]
      have h := hw c.Word2
      rw [appB_ok (by simp; omega) (by simp; omega)]
      simp only [Option.bind_some]
      refine ⟨us, _, rfl, by simp, fun w x => ?_, by simp, fun w => ?_⟩
      · rw [mget_mput beqS_iff]
        by_cases hk : beqS w c.Word2 = true
        · rw [if_pos hk, beqS_iff.1 hk]; simp [h3]
        · rw [if_neg hk]
          have : w ≠ c.Word2 := fun e => hk (beqS_iff.2 e)
          simp [this]
      · rw [mget_mput beqS_iff]
        by_cases hk : beqS w c.Word2 = true
        · rw [if_pos hk, beqS_iff.1 hk]; simp
        · rw [if_neg hk]; exact Nat.le_succ _
    · rw [if_neg (by simp [h3])]
      exact ⟨us, ws, rfl, by simp, by simp [h3], by simp, by simp⟩
  | r0 :: rs, us, hl => by
    rw [m_model_Model_note_w_L1]
    have h := hl r0
    simp only [List.length_cons] at h
    rw [appB_ok (by simp; omega) (by simp; omega)]
    simp only [Option.bind_some]
    have hget : ∀ r, (mget beqRole (mput beqRole us r0 (((mget beqRole us r0).getD []) ++ [c])) r).getD [] = if beqRole r r0 = true then ((mget beqRole us r0).getD []) ++ [c] else (mget beqRole us r).getD [] := fun r => by
      rw [mget_mput beqRole_iff]; by_cases hk : beqRole r r0 = true
      · rw [if_pos hk, if_pos hk]; rfl
      · rw [if_neg hk, if_neg hk]
    obtain ⟨us', ws', e, a1, a2, a3, a4⟩ := note_L1 c ws C hw rs (mput beqRole us r0 (((mget beqRole us r0).getD []) ++ [c])) (fun r => by
      rw [hget r]
      have h2 := hl r
      simp only [List.length_cons] at h2
      by_cases hk : beqRole r r0 = true
      · rw [if_pos hk]; simp; omega
      · rw [if_neg hk]; omega)
    refine ⟨us', ws', e, fun r x => ?_, a2, fun r => ?_, a4⟩
    · rw [a1, hget]
      by_cases hk : beqRole r r0 = true
      · rw [if_pos hk, beqRole_iff.1 hk]
        simp only [List.mem_append, List.mem_cons, List.not_mem_nil, or_false]
        constructor
        · rintro ((h | h) | h)
          · exact .inl h
          · exact .inr ⟨h, .inl trivial⟩
          · exact .inr ⟨h.1, .inr h.2⟩
        · rintro (h | h)
          · exact .inl (.inl h)
          · exact .inl (.inr h.1)
      · rw [if_neg hk]
        have : r ≠ r0 := fun e => hk (beqRole_iff.2 e)
        simp [this]
    · have := a3 r
      rw [hget r] at this
      by_cases hk : beqRole r r0 = true
      · rw [if_pos hk] at this; rw [beqRole_iff.1 hk] at this ⊢; simp at this ⊢; omega
      · rw [if_neg hk] at this; simp; omega
theorem note_ok {C : List Cred} {us : List (Role × List Cred)} {ws : List (ByteArray × List Cred)} (hU : Uses C us ws) (hC : C.length + 1 ≤ 1000000) {c : Cred} (hr : rightC c = true) (i : List (Role × List (ByteArray × Bool))) (td : List Fact) (n : Int) :
    ∃ us' ws', m_model_Model_note_w i C us ws td n c = some (C ++ [c], us', ws') ∧ Uses (C ++ [c]) us' ws' := by
  unfold m_model_Model_note_w
  rw [appB_ok (by simp; omega) (by simp; omega)]
  simp only [Option.bind_some, rolesC hr]
  rw [show chk (decide ((0 : Nat) ≤ 1) && decide ((1 : Int) ≤ ((c.Head :: rolesOf c).length : Int))) = some () by simp [chk]; omega]
  simp only [Option.bind_some, show Int.toNat 1 = 1 from rfl, List.drop_one, List.tail_cons]
  have hro : (rolesOf c).length ≤ 2 := by unfold rolesOf; split; simp; split <;> simp
  obtain ⟨us', ws', e, a1, a2, a3, a4⟩ := note_L1 c ws (C ++ [c]) (fun w => by have := hU.wlen w; omega) (rolesOf c) us (fun r => by have := hU.rlen r; omega)
  refine ⟨us', ws', e, fun r x => ?_, fun w x => ?_, fun r => ?_, fun w => ?_⟩
  · rw [a1, hU.role, List.mem_append, List.mem_singleton]
    constructor
    · rintro (h | h)
      · exact ⟨.inl h.1, h.2⟩
      · exact ⟨.inr h.1, by rw [h.1]; exact h.2⟩
    · rintro ⟨h | h, h2⟩
      · exact .inl ⟨h, h2⟩
      · exact .inr ⟨h, by rw [← h]; exact h2⟩
  · rw [a2, hU.word, List.mem_append, List.mem_singleton]
    constructor
    · rintro (h | h)
      · exact ⟨.inl h.1, h.2⟩
      · exact ⟨.inr h.1, by rw [h.1]; exact ⟨h.2.1, h.2.2.symm⟩⟩
    · rintro ⟨h | h, h2⟩
      · exact .inl ⟨h, h2⟩
      · subst h; exact .inr ⟨rfl, h2.1, h2.2.symm⟩
  · have := a3 r; have := hU.rlen r; simp; omega
  · have := a4 w; have := hU.wlen w; simp; omega
structure MS (C : List Cred) (T : Tab) (us : List (Role × List Cred)) (ws : List (ByteArray × List Cred)) (n : Int) : Prop where
  good : Good C T [] n
  cl : ∀ c ∈ C, ClC c T []
  uses : Uses C us ws
  right : Rights C
theorem MS.all {C : List Cred} {T : Tab} {us : List (Role × List Cred)} {ws : List (ByteArray × List Cred)} {n : Int} (h : MS C T us ws n) (f : Fact) : f ∈ FS T ↔ Der C f := by
  refine ⟨h.good.der f, fun hd => ?_⟩
  induction hd with
  | mem c hc hk => exact (h.cl c hc).1 hk
  | inc c w hc hk _ ih => exact (h.cl c hc).2.1 hk w ih (by simp)
  | lnk c b w hc hk _ _ ih1 ih2 => exact (h.cl c hc).2.2.1 hk b w ih1 (by simp) ih2 (by simp)
  | both c w hc hk _ _ ih1 ih2 => exact (h.cl c hc).2.2.2 hk w ih1 (by simp) ih2 (by simp)
theorem add_L1 (n0 : Int) (hn0 : 0 ≤ n0 ∧ n0 ≤ 1000000000000) : ∀ (l : List Cred) {C : List Cred} {T : Tab} {td : List Fact} {us : List (Role × List Cred)} {ws : List (ByteArray × List Cred)} {n : Int}, Good C T td n → (∀ c ∈ C, ClC c T td) → Uses C us ws → Rights C → C.length + l.length ≤ 1000000 →
    ∃ C' T' us' ws' n', m_model_Model_Add_w_L1 n0 l (mm T) C us ws td n = some (n' - n0, mm T', C', us', ws', [], n') ∧ MS C' T' us' ws' n' ∧ (∀ c, c ∈ C' ↔ c ∈ C ∨ (c ∈ l ∧ rightC c = true)) ∧ C'.length ≤ C.length + l.length ∧ (∀ f ∈ FS T, f ∈ FS T')
  | [], C, T, td, us, ws, n, g, hcl, hU, hR, hl => by
    rw [m_model_Model_Add_w_L1]
    have hC : SMALL C := by unfold SMALL; simp at hl; omega
    have hsq := hC.sq
    have hlen := g.len
    have htl := g.tlen
    obtain ⟨T', n', e, g', c', o⟩ := settle_L1 hC hR hU (cs := C) FUEL g hcl (by rw [FUEL_eq]; omega)
    unfold m_model_Model_settle_w
    rw [e]
    simp only [Option.bind_some]
    have hlen' := g'.len
    have hnum := g'.num
    rw [wrap_in (by omega) (by omega)]
    exact ⟨C, T', us, ws, n', rfl, ⟨g', c', hU, hR⟩, by simp, by simp, o⟩
  | x :: l, C, T, td, us, ws, n, g, hcl, hU, hR, hl => by
    rw [m_model_Model_Add_w_L1, m_cred_Right_eq]
    simp only [List.length_cons] at hl
    obtain ⟨b, hb, hb2⟩ := cred_Has x C
    simp only [Option.bind_some, hb, andS]
    by_cases hx : rightC x = true ∧ x ∉ C
    · have hbf : b = false := by cases b with | false => rfl | true => exact absurd (hb2.1 rfl) hx.2
      rw [hx.1, hbf]
      simp only [Bool.not_false, Bool.and_self, if_true]
      obtain ⟨us1, ws1, e1, U1⟩ := note_ok hU (by omega) hx.1 (mm T) td n
      rw [e1]
      simp only [Option.bind_some]
      have hC1 : SMALL (C ++ [x]) := by unfold SMALL; simp; omega
      have hR1 : Rights (C ++ [x]) := fun c hc => by
        rcases List.mem_append.1 hc with h | h
        · exact hR c h
        · simp at h; subst h; exact hx.1
      have g1 : Good (C ++ [x]) T td n := g.mono (fun c hc => List.mem_append_left _ hc)
      obtain ⟨T2, td2, n2, e2, g2, x2, c2⟩ := begin_ok hC1 hR1 g1 (C ++ [x]) us1 ws1 (c := x) (by simp)
      rw [e2]
      simp only [Option.bind_some]
      have hcl2 : ∀ c ∈ C ++ [x], ClC c T2 td2 := fun c hc => by
        rcases List.mem_append.1 hc with h | h
        · exact (hcl c h).ext x2
        · simp at h; subst h; exact c2
      obtain ⟨C', T', us', ws', n', e, m, a1, a2, a3⟩ := add_L1 n0 hn0 l g2 hcl2 U1 hR1 (by simp; omega)
      refine ⟨C', T', us', ws', n', e, m, fun c => ?_, by simp at a2 ⊢; omega, fun f hf => a3 f (x2.old f hf)⟩
      rw [a1]
      simp only [List.mem_append, List.mem_cons, List.not_mem_nil, or_false]
      constructor
      · rintro ((h | h) | h)
        · exact .inl h
        · subst h; exact .inr ⟨.inl rfl, hx.1⟩
        · exact .inr ⟨.inr h.1, h.2⟩
      · rintro (h | ⟨h | h, h2⟩)
        · exact .inl (.inl h)
        · exact .inl (.inr h)
        · exact .inr ⟨h, h2⟩
    · have hf : (rightC x && !b) = false := by
        cases hr : rightC x with
        | false => rfl
        | true =>
          have : x ∈ C := Classical.byContradiction fun hn => hx ⟨hr, hn⟩
          rw [hb2.2 this]; rfl
      rw [hf]
      simp only [Bool.false_eq_true, if_false]
      obtain ⟨C', T', us', ws', n', e, m, a1, a2, a3⟩ := add_L1 n0 hn0 l g hcl hU hR (by omega)
      refine ⟨C', T', us', ws', n', e, m, fun c => ?_, by simp; omega, a3⟩
      rw [a1, List.mem_cons]
      constructor
      · rintro (h | h)
        · exact .inl h
        · exact .inr ⟨.inr h.1, h.2⟩
      · rintro (h | ⟨h | h, h2⟩)
        · exact .inl h
        · subst h
          exact .inl (Classical.byContradiction fun hn => hx ⟨h2, hn⟩)
        · exact .inr ⟨h, h2⟩
theorem add_ok {C : List Cred} {T : Tab} {us : List (Role × List Cred)} {ws : List (ByteArray × List Cred)} {n : Int} (h : MS C T us ws n) (l : List Cred) (hl : C.length + l.length ≤ 1000000) :
    ∃ C' T' us' ws' n', m_model_Model_Add_w (mm T) C us ws [] n l = some (n' - n, mm T', C', us', ws', [], n') ∧ MS C' T' us' ws' n' ∧ (∀ c, c ∈ C' ↔ c ∈ C ∨ (c ∈ l ∧ rightC c = true)) ∧ C'.length ≤ C.length + l.length ∧ (∀ f ∈ FS T, f ∈ FS T') := by
  have hC : SMALL C := by unfold SMALL; omega
  have h1 := h.good.len
  have h2 := hC.sq
  have h3 := h.good.num
  exact add_L1 n ⟨by omega, by omega⟩ l h.good h.cl h.uses h.right hl
theorem Uses.zero : Uses [] [] [] := ⟨fun r c => by simp [mget], fun w c => by simp [mget], fun r => by simp [mget], fun w => by simp [mget]⟩
theorem Good.zero : Good [] [] [] 0 := ⟨by simp, by simp [FS], by simp, by simp, by simp [FS], by simp [FS]⟩
theorem MS.zero : MS [] [] [] [] 0 := ⟨Good.zero, fun c hc => (by cases hc), Uses.zero, fun c hc => (by cases hc)⟩
theorem of_ok (l : List Cred) (hl : l.length ≤ 1000000) : ∃ C T us ws n, m_model_Of l = some (mm T, C, us, ws, [], n) ∧ MS C T us ws n ∧ (∀ c, c ∈ C ↔ c ∈ l ∧ rightC c = true) ∧ C.length ≤ l.length := by
  unfold m_model_Of
  obtain ⟨C', T', us', ws', n', e, m, a1, a2, a3⟩ := add_ok MS.zero l (by simpa using hl)
  rw [show m_model_Model_Add_w [] [] [] [] [] 0 l = _ from e]
  exact ⟨C', T', us', ws', n', rfl, m, by simpa using a1, by simpa using a2⟩
theorem Der.congr {C C' : List Cred} (h : ∀ c, c ∈ C ↔ c ∈ C') (f : Fact) : Der C f ↔ Der C' f := ⟨fun d => d.mono (fun c hc => (h c).1 hc), fun d => d.mono (fun c hc => (h c).2 hc)⟩
end Go.Proofs.YtmlncblocfcmiaaGreat
namespace Go.Proofs.YtmlncblocfcmiaaGreat
open Go.RowKit
def ltF (a b : Fact) : Bool := ltR a.Role b.Role || (beqRole a.Role b.Role && ltS a.Who b.Who)
theorem ltF_iff {a b : Fact} : ltF a b = true ↔ ltR a.Role b.Role = true ∨ (a.Role = b.Role ∧ ltS a.Who b.Who = true) := by simp [ltF, beqRole_iff]
def anyF (_ : Fact) : Bool := true
theorem ltOnF : LtOn (fun a b => ltF a b = true) (fun x => anyF x = true) := by
  have H := ltOnR (fun _ => True)
  refine ⟨fun x _ => ?_, fun x y z _ _ _ h1 h2 => ?_, fun x y _ _ => ?_⟩
  · rw [ltF_iff]
    rintro (h | ⟨_, h⟩)
    · exact H.irrefl _ trivial h
    · rw [ltS_irrefl] at h; cases h
  · rw [ltF_iff] at *
    rcases h1 with h1 | ⟨e1, h1⟩
    · rcases h2 with h2 | ⟨e2, h2⟩
      · exact .inl (H.trans _ _ _ trivial trivial trivial h1 h2)
      · exact .inl (by rw [← e2]; exact h1)
    · rcases h2 with h2 | ⟨e2, h2⟩
      · exact .inl (by rw [e1]; exact h2)
      · exact .inr ⟨e1.trans e2, ltS_trans h1 h2⟩
  · simp only [ltF_iff]
    rcases H.total x.Role y.Role trivial trivial with h | h | h
    · exact .inl (.inl h)
    · rcases ltS_total x.Who y.Who with h2 | h2 | h2
      · exact .inl (.inr ⟨h, h2⟩)
      · refine .inr (.inl ?_)
        cases x; cases y; simp at h h2; simp [h, h2]
      · exact .inr (.inr (.inr ⟨h.symm, h2⟩))
    · exact .inr (.inr (.inl h))
theorem xcmp0 (a b : ByteArray) : xCompareS a b = 0 ↔ a = b := by unfold xCompareS; rw [cmp_zero]; exact ⟨ba_ext, fun h => by rw [h]⟩
theorem xcmpN (a b : ByteArray) : xCompareS a b < 0 ↔ ltS a b = true := by rw [ltS_def]; exact cmp_neg _ _
theorem role_cmp0 (a b : Role) : ∃ c, m_role_Compare a b = some c ∧ (c < 0 ↔ ltR a b = true) ∧ (c = 0 ↔ a = b) := by
  obtain ⟨c, e, h⟩ := m_role_Compare_eq a b
  refine ⟨c, e, h, ?_⟩
  unfold m_role_Compare at e
  simp only [m_strings_Compare, m_internal_bytealg_CompareString, Option.bind_some, m_cmp_Or_int, m_cmp_Or_int_L1, bindS] at e
  by_cases e1 : xCompareS a.Owner b.Owner = 0
  · rw [if_neg (by simp [e1])] at e
    have h1 := (xcmp0 _ _).1 e1
    by_cases e2 : xCompareS a.Word b.Word = 0
    · rw [if_neg (by simp [e2])] at e
      have h2 := (xcmp0 _ _).1 e2
      cases e
      refine ⟨fun _ => ?_, fun _ => rfl⟩
      cases a; cases b; simp at h1 h2; simp [h1, h2]
    · rw [if_pos (by simp [e2])] at e
      cases e
      exact ⟨fun k => absurd k e2, fun k => by rw [k] at e2; exact absurd ((xcmp0 _ _).2 rfl) e2⟩
  · rw [if_pos (by simp [e1])] at e
    cases e
    exact ⟨fun k => absurd k e1, fun k => by rw [k] at e1; exact absurd ((xcmp0 _ _).2 rfl) e1⟩
theorem fact_cmp (a b : Fact) : ∃ c, m_model_Model_Facts_c1 a b = some c ∧ (c < 0 ↔ ltF a b = true) := by
  unfold m_model_Model_Facts_c1
  obtain ⟨c, e, h1, h2⟩ := role_cmp0 a.Role b.Role
  rw [e]
  simp only [m_strings_Compare, m_internal_bytealg_CompareString, Option.bind_some, m_cmp_Or_int, m_cmp_Or_int_L1, bindS]
  by_cases e1 : c = 0
  · rw [if_neg (by simp [e1])]
    have hr := h2.1 e1
    have hnl : ¬ ltR a.Role b.Role = true := fun hh => by have := h1.2 hh; omega
    by_cases e2 : xCompareS a.Who b.Who = 0
    · rw [if_neg (by simp [e2])]
      refine ⟨0, rfl, ?_⟩
      rw [ltF_iff]
      simp [hnl, (xcmp0 _ _).1 e2, ltS_irrefl]
    · rw [if_pos (by simp [e2])]
      refine ⟨_, rfl, ?_⟩
      rw [ltF_iff, xcmpN]
      exact ⟨fun k => .inr ⟨hr, k⟩, fun k => k.elim (fun k => absurd k hnl) (·.2)⟩
  · rw [if_pos (by simp [e1])]
    refine ⟨c, rfl, ?_⟩
    rw [ltF_iff, h1]
    have : a.Role ≠ b.Role := fun k => e1 (h2.2 k)
    simp [this]
theorem ddGo_id {α : Type} {eq : α → α → Bool} (he : ∀ x y, eq x y = true ↔ x = y) : ∀ (l : List α) (p : α), (p :: l).Nodup → ddGo eq p l = l
  | [], p, _ => rfl
  | y :: l, p, h => by
    have h1 := List.nodup_cons.1 h
    rw [ddGo, if_neg (fun e => h1.1 (by rw [← (he _ _).1 e]; simp)), ddGo_id he l y h1.2]
theorem dd_id {α : Type} {eq : α → α → Bool} (he : ∀ x y, eq x y = true ↔ x = y) : ∀ l : List α, l.Nodup → dd eq l = l
  | [], _ => rfl
  | x :: l, h => by rw [dd, ddGo_id he l x h]
def IsF (P : Fact → Prop) (s : List Fact) : Prop := s.Pairwise (fun a b => ltF a b = true) ∧ ∀ f, f ∈ s ↔ P f
theorem IsF.unique {P : Fact → Prop} {s t : List Fact} (h : IsF P s) (k : IsF P t) : s = t :=
  IsSet.unique (l := s) ltOnF ⟨h.1, fun x => ⟨fun hx => ⟨hx, rfl⟩, fun hx => hx.1⟩⟩ ⟨k.1, fun x => by rw [k.2, h.2]; exact ⟨fun hx => ⟨hx, rfl⟩, fun hx => hx.1⟩⟩
theorem sort_facts {l : List Fact} (hn : l.Nodup) (hl : l.length ≤ 1000000000000) : ∃ s, sortF (fun (x : Fact × Fact) => m_model_Model_Facts_c1 x.1 x.2) l = some s ∧ IsF (fun f => f ∈ l) s := by
  obtain ⟨s, h1, h2, h3⟩ := sortF_isSet (eq := beqFact) (lt := fun a b => ltF a b = true) (P := fun x => anyF x = true) (cf := fun (x : Fact × Fact) => m_model_Model_Facts_c1 x.1 x.2) (l := l) (fun x y => beqFact_iff) ltOnF (fun _ _ => rfl) (by omega) (fun x y _ _ => fact_cmp x y)
  have hs : s.Nodup := by
    have := (sortF_some h1).2
    rw [this]
    unfold sorted
    exact (List.mergeSort_perm l _).nodup_iff.2 hn
  rw [dd_id (fun x y => beqFact_iff) s hs] at h3
  exact ⟨s, h1, h3.1, fun f => by rw [h3.2]; exact ⟨fun h => h.1, fun h => ⟨h, rfl⟩⟩⟩
theorem flat_mm (T : Tab) : (mm T).flatMap (fun p => p.2.map (fun q => (fun (a : Role) (b : ByteArray) => (⟨a, b⟩ : Fact)) p.1 q.1)) = FS T := by
  unfold mm FS tt
  rw [List.flatMap_map]
  congr 1
  funext p
  simp [Function.comp_def]
theorem facts_ok {C : List Cred} (hC : SMALL C) {T : Tab} {us : List (Role × List Cred)} {ws : List (ByteArray × List Cred)} {n : Int} (h : MS C T us ws n) (cs : List Cred) (u : List (Role × List Cred)) (w : List (ByteArray × List Cred)) (td : List Fact) (z : Int) :
    ∃ s, m_model_Model_Facts (mm T) cs u w td z = some s ∧ IsF (Der C) s := by
  have hsq := hC.sq
  have hlen := h.good.len
  obtain ⟨s, hs, hF⟩ := sort_facts h.good.nd (by omega)
  have hD : IsF (Der C) s := ⟨hF.1, fun f => (hF.2 f).trans (h.all f)⟩
  refine ⟨s, ?_, hD⟩
  unfold m_model_Model_Facts pairsB
  rw [flat_mm]
  rw [if_pos ⟨by omega, by unfold maxLen; omega⟩]
  simp only [Option.bind_some, bindS]
  refine allOrders_intro (fun o ho => ?_)
  obtain ⟨s', hs', hF'⟩ := sort_facts ((ho.nodup_iff).2 h.good.nd) (by rw [ho.length_eq]; omega)
  rw [hs']
  congr 1
  exact IsF.unique ⟨hF'.1, fun f => (hF'.2 f).trans (ho.mem_iff.trans (h.all f))⟩ hD
theorem refIn (r : Role) (w : ByteArray) : ∀ l : List Fact, ∃ b, m_ref08_In_L1 r w l = some b ∧ (b = true ↔ (⟨r, w⟩ : Fact) ∈ l)
  | [] => ⟨false, rfl, by simp⟩
  | x :: l => by
    rw [m_ref08_In_L1]
    simp only [andS, Option.bind_some]
    obtain ⟨b, e, hb⟩ := refIn r w l
    by_cases h : (beqRole x.Role r && beqS x.Who w) = true
    · rw [if_pos h]
      have h' : x = ⟨r, w⟩ := by
        rw [Bool.and_eq_true, beqRole_iff, beqS_iff] at h
        cases x; simp at h; simp [h]
      exact ⟨true, rfl, by simp [h']⟩
    · rw [if_neg h]
      refine ⟨b, e, ?_⟩
      rw [hb, List.mem_cons]
      refine ⟨.inr, fun h2 => h2.resolve_left (fun e => h ?_)⟩
      rw [← e]; simp [beqRole_refl, beqS_refl]
theorem refIn_eq (l : List Fact) (r : Role) (w : ByteArray) : ∃ b, m_ref08_In l r w = some b ∧ (b = true ↔ (⟨r, w⟩ : Fact) ∈ l) := refIn r w l
def StepP (l : List Fact) (c : Cred) (names : List ByteArray) (w : ByteArray) : Prop :=
  (c.Kind = 1 ∧ c.Who = w) ∨ (c.Kind = 2 ∧ (⟨c.B, w⟩ : Fact) ∈ l) ∨ (c.Kind = 4 ∧ (⟨c.B, w⟩ : Fact) ∈ l ∧ (⟨c.C, w⟩ : Fact) ∈ l) ∨
  (c.Kind ≠ 1 ∧ c.Kind ≠ 2 ∧ c.Kind ≠ 4 ∧ ∃ b ∈ names, (⟨c.B, b⟩ : Fact) ∈ l ∧ (⟨⟨b, c.Word2⟩, w⟩ : Fact) ∈ l)
theorem refStep_L1 (l : List Fact) (c : Cred) (w : ByteArray) : ∀ names : List ByteArray, ∃ b, m_ref08_Step_L1 l c w names = some b ∧ (b = true ↔ ∃ b ∈ names, (⟨c.B, b⟩ : Fact) ∈ l ∧ (⟨⟨b, c.Word2⟩, w⟩ : Fact) ∈ l)
  | [] => ⟨false, rfl, by simp⟩
  | x :: names => by
    rw [m_ref08_Step_L1]
    obtain ⟨b1, e1, h1⟩ := refIn_eq l c.B x
    obtain ⟨b2, e2, h2⟩ := refIn_eq l ⟨x, c.Word2⟩ w
    obtain ⟨b, e, hb⟩ := refStep_L1 l c w names
    rw [e1, e2, e]
    simp only [Option.bind_some, andS]
    by_cases h : (b1 && b2) = true
    · rw [if_pos h]
      rw [Bool.and_eq_true, h1, h2] at h
      exact ⟨true, rfl, by simp [h]⟩
    · rw [if_neg h]
      rw [Bool.and_eq_true, h1, h2] at h
      refine ⟨b, rfl, ?_⟩
      rw [hb]
      constructor
      · rintro ⟨y, hy, q⟩; exact ⟨y, by simp [hy], q⟩
      · rintro ⟨y, hy, q⟩
        rcases List.mem_cons.1 hy with rfl | hy
        · exact absurd q h
        · exact ⟨y, hy, q⟩
theorem refStep (l : List Fact) (c : Cred) (names : List ByteArray) (w : ByteArray) : ∃ b, m_ref08_Step l c names w = some b ∧ (b = true ↔ StepP l c names w) := by
  unfold m_ref08_Step StepP
  simp only [bindS]
  by_cases h1 : c.Kind = 1
  · rw [if_pos (by simp [h1])]; exact ⟨_, rfl, by simp [h1, beqS_iff]⟩
  rw [if_neg (by simp [h1])]
  by_cases h2 : c.Kind = 2
  · rw [if_pos (by simp [h2])]
    obtain ⟨b, e, hb⟩ := refIn_eq l c.B w
    exact ⟨b, e, by simp [h2, hb]⟩
  rw [if_neg (by simp [h2])]
  by_cases h4 : c.Kind = 4
  · rw [if_pos (by simp [h4])]
    obtain ⟨b1, e1, hb1⟩ := refIn_eq l c.B w
    obtain ⟨b2, e2, hb2⟩ := refIn_eq l c.C w
    rw [e1, e2]
    simp only [Option.bind_some, andS]
    exact ⟨_, rfl, by simp [h4, hb1, hb2]⟩
  rw [if_neg (by simp [h4])]
  obtain ⟨b, e, hb⟩ := refStep_L1 l c w names
  exact ⟨b, e, by rw [hb]; simp [h1, h2, h4]⟩
theorem StepP.der {C : List Cred} {l : List Fact} (hl : ∀ f ∈ l, Der C f) {c : Cred} (hc : c ∈ C) (hk : c.Kind = 1 ∨ c.Kind = 2 ∨ c.Kind = 3 ∨ c.Kind = 4) {names : List ByteArray} {w : ByteArray} (h : StepP l c names w) : Der C ⟨c.Head, w⟩ := by
  rcases h with ⟨k, rfl⟩ | ⟨k, h⟩ | ⟨k, h1, h2⟩ | ⟨k1, k2, k4, b, _, h1, h2⟩
  · exact .mem c hc k
  · exact .inc c w hc k (hl _ h)
  · exact .both c w hc k (hl _ h1) (hl _ h2)
  · exact .lnk c b w hc (by omega) (hl _ h1) (hl _ h2)
theorem right_kind {c : Cred} (h : rightC c = true) : c.Kind = 1 ∨ c.Kind = 2 ∨ c.Kind = 3 ∨ c.Kind = 4 := by rcases rightC_cases h with h | h | h | h <;> simp [h.1]
structure RInv (C : List Cred) (out : List Fact) : Prop where
  nd : out.Nodup
  der : ∀ f ∈ out, Der C f
theorem RInv.len {C : List Cred} {out : List Fact} (h : RInv C out) : out.length ≤ C.length * C.length := by
  rw [← uni_length]; exact length_le_of_nodup h.nd (fun f hf => (h.der f hf).uni)
theorem refOf_L3 {C : List Cred} (hC : SMALL C) (hR : Rights C) {c : Cred} (hc : c ∈ C) (names : List ByteArray) : ∀ (l : List ByteArray) (out : List Fact) (came : Bool), RInv C out →
    ∃ out' came', m_ref08_Of_L3 c names l out came = some (out', came') ∧ RInv C out' ∧ (came' = true → came = true ∨ out.length < out'.length) ∧ (came' = false → came = false ∧ out' = out ∧ ∀ w ∈ l, StepP out c names w → (⟨c.Head, w⟩ : Fact) ∈ out) ∧ out.length ≤ out'.length
  | [], out, came, h => ⟨out, came, rfl, h, .inl, fun h => ⟨h, rfl, fun _ hw => by cases hw⟩, Nat.le_refl _⟩
  | w :: l, out, came, h => by
    rw [m_ref08_Of_L3]
    obtain ⟨b1, e1, h1⟩ := refIn_eq out c.Head w
    obtain ⟨b2, e2, h2⟩ := refStep out c names w
    rw [e1, e2]
    simp only [Option.bind_some, andS]
    by_cases hb : (!b1 && b2) = true
    · rw [if_pos hb]
      rw [Bool.and_eq_true] at hb
      have hn : (⟨c.Head, w⟩ : Fact) ∉ out := fun hh => by have := h1.2 hh; rw [this] at hb; exact absurd hb.1 (by decide)
      have hl := h.len
      have hsq := hC.sq
      rw [appB_ok (by simp; omega) (by simp; omega)]
      simp only [Option.bind_some]
      have h' : RInv C (out ++ [⟨c.Head, w⟩]) := ⟨List.nodup_append.2 ⟨h.nd, by simp, fun a ha b hb e => by simp at hb; subst hb; subst e; exact hn ha⟩, fun f hf => by
        rcases List.mem_append.1 hf with hf | hf
        · exact h.der f hf
        · simp at hf; subst hf; exact (h2.1 hb.2).der h.der hc (right_kind (hR c hc))⟩
      obtain ⟨out', came', e, a1, a2, a3, a4⟩ := refOf_L3 hC hR hc names l _ true h'
      simp at a4
      exact ⟨out', came', e, a1, fun _ => .inr (by omega), fun hf => (by cases (a3 hf).1), by omega⟩
    · rw [if_neg hb]
      obtain ⟨out', came', e, a1, a2, a3, a4⟩ := refOf_L3 hC hR hc names l out came h
      refine ⟨out', came', e, a1, a2, fun hf => ?_, a4⟩
      obtain ⟨b1', b2', b3'⟩ := a3 hf
      refine ⟨b1', b2', fun v hv hs => ?_⟩
      rcases List.mem_cons.1 hv with rfl | hv
      · refine Classical.byContradiction fun hn => hb ?_
        rw [Bool.and_eq_true, h2.2 hs]
        cases b1 with
        | false => exact ⟨rfl, rfl⟩
        | true => exact absurd (h1.1 rfl) hn
      · exact b3' v hv hs
theorem refOf_L2 {C : List Cred} (hC : SMALL C) (hR : Rights C) (names : List ByteArray) : ∀ (l : List Cred) (out : List Fact) (came : Bool), (∀ c ∈ l, c ∈ C) → RInv C out →
    ∃ out' came', m_ref08_Of_L2 names l out came = some (out', came') ∧ RInv C out' ∧ (came' = true → came = true ∨ out.length < out'.length) ∧ (came' = false → came = false ∧ out' = out ∧ ∀ c ∈ l, ∀ w ∈ names, StepP out c names w → (⟨c.Head, w⟩ : Fact) ∈ out) ∧ out.length ≤ out'.length
  | [], out, came, _, h => ⟨out, came, rfl, h, .inl, fun h => ⟨h, rfl, fun _ hw => by cases hw⟩, Nat.le_refl _⟩
  | c :: l, out, came, hs, h => by
    rw [m_ref08_Of_L2]
    obtain ⟨o1, c1, e1, a1, a2, a3, a4⟩ := refOf_L3 hC hR (hs c (by simp)) names names out came h
    rw [e1]
    simp only [Option.bind_some]
    obtain ⟨o2, c2, e2, b1, b2, b3, b4⟩ := refOf_L2 hC hR names l o1 c1 (fun d hd => hs d (by simp [hd])) a1
    refine ⟨o2, c2, e2, b1, fun hf => ?_, fun hf => ?_, by omega⟩
    · rcases b2 hf with h1 | h1
      · rcases a2 h1 with h2 | h2
        · exact .inl h2
        · exact .inr (by omega)
      · exact .inr (by omega)
    · obtain ⟨p1, p2, p3⟩ := b3 hf
      obtain ⟨q1, q2, q3⟩ := a3 p1
      subst q2
      refine ⟨q1, p2, fun d hd => ?_⟩
      rcases List.mem_cons.1 hd with rfl | hd
      · exact q3
      · exact p3 d hd
end Go.Proofs.YtmlncblocfcmiaaGreat
namespace Go.Proofs.YtmlncblocfcmiaaGreat
open Go.RowKit
def zF : Fact := ⟨⟨zS, zS⟩, zS⟩
theorem ref_less (a b : Fact) : m_ref08_less a b = some (ltF a b) := by
  unfold m_ref08_less ltF
  simp only [m_ref04_Less_eq, Option.bind_some, andS, orS]
def RelB (a : List Fact) (best : Int) (p : Bool × Fact) : Prop := (p.1 = false ∧ best = -1) ∨ (p.1 = true ∧ 0 ≤ best ∧ idx a best = some p.2)
theorem sorted_L2 (out a : List Fact) (hl : out.length < 4611686018427387904) : ∀ (rest A : List Fact) (best : Int) (p : Bool × Fact), a = A ++ rest → RelB a best p →
    ∃ best', m_ref08_Sorted_L2 out a rest A.length best = some best' ∧ RelB a best' (selP anyF ltF out.getLast? rest p.1 p.2)
  | [], A, best, p, ha, hr => ⟨best, rfl, hr⟩
  | x :: rest, A, best, p, ha, hr => by
    rw [m_ref08_Sorted_L2, selP]
    simp only [anyF, Bool.true_and]
    have h1 : ((if ((out.length : Int) == 0) = true then some true else (idx out (IntKind.i64.wrap ((out.length : Int) - 1))).bind fun y => (m_ref08_less y x).bind fun r => some r) : Option Bool) = some (out.getLast?.all fun y => ltF y x) := by
      rcases List.eq_nil_or_concat out with h | ⟨B, z, h⟩
      · subst h; rfl
      · subst h
        rw [if_neg (by simp; omega)]
        rw [List.concat_eq_append] at hl ⊢
        rw [last_idx B z (by simp at hl; omega)]
        simp [ref_less]
    have h2 : ((if decide (best < 0) = true then some true else (idx a best).bind fun y => (m_ref08_less x y).bind fun r => some r) : Option Bool) = some (!p.1 || ltF x p.2) := by
      rcases hr with ⟨e1, e2⟩ | ⟨e1, e2, e3⟩
      · rw [if_pos (by simp [e2]), e1]; rfl
      · rw [if_neg (by simpa using e2), e3, e1]
        simp [ref_less]
    rw [h1]
    simp only [Option.bind_some]
    rw [h2]
    simp only [Option.bind_some, andS]
    have hx : idx a (A.length : Int) = some x := by rw [ha]; exact idx_mid A x rest _ rfl
    by_cases hc : ((out.getLast?.all fun y => ltF y x) && (!p.1 || ltF x p.2)) = true
    · rw [if_pos hc, if_pos hc]
      have := sorted_L2 out a hl rest (A ++ [x]) (A.length : Int) (true, x) (by rw [ha]; simp) (.inr ⟨rfl, by simp, hx⟩)
      simpa using this
    · rw [if_neg hc, if_neg hc]
      have := sorted_L2 out a hl rest (A ++ [x]) best p (by rw [ha]; simp) hr
      simpa using this
theorem sorted_stay {out a : List Fact} (hl : out.length < 4611686018427387904) (h : (selP anyF ltF out.getLast? a false zF).1 = false) : ∀ cnt : List Fact, m_ref08_Sorted_L1 a cnt out = some out
  | [] => rfl
  | x :: cnt => by
    rw [m_ref08_Sorted_L1]
    obtain ⟨b, e, hr⟩ := sorted_L2 out a hl a [] (-1) (false, zF) rfl (.inl ⟨rfl, rfl⟩)
    rw [show m_ref08_Sorted_L2 out a a 0 (-1) = some b from e]
    simp only [Option.bind_some]
    rcases hr with ⟨_, e2⟩ | ⟨e1, _⟩
    · rw [if_neg (by simp [e2])]; exact sorted_stay hl h cnt
    · rw [h] at e1; cases e1
theorem sorted_L1 (a : List Fact) : ∀ (cnt : List Fact) (out s : List Fact), selL 48 anyF ltF zF a (cnt.length + 1) out = some s → s.length < 4611686018427387904 → m_ref08_Sorted_L1 a cnt out = some s ∧ out.length ≤ s.length
  | [], out, s, h, hs => by
    rw [selL] at h
    cases hp : (selP anyF ltF out.getLast? a false zF).1 with
    | false =>
      rw [hp] at h
      simp only [Bool.not_false, if_true] at h
      cases h
      exact ⟨rfl, Nat.le_refl _⟩
    | true =>
      rw [hp] at h
      simp only [Bool.not_true, Bool.false_eq_true, if_false] at h
      obtain ⟨o, ho, h⟩ := bind_some h
      replace h : selL 48 anyF ltF zF a 0 o = some s := h
      rw [selL] at h
      cases h
  | x :: cnt, out, s, h, hs => by
    rw [selL] at h
    cases hp : (selP anyF ltF out.getLast? a false zF).1 with
    | false =>
      rw [hp] at h
      simp only [Bool.not_false, if_true] at h
      cases h
      exact ⟨sorted_stay hs hp _, Nat.le_refl _⟩
    | true =>
      rw [hp] at h
      simp only [Bool.not_true, Bool.false_eq_true, if_false] at h
      obtain ⟨o, ho, h⟩ := bind_some h
      have ho' := ho
      unfold appB at ho
      split at ho
      case isFalse => cases ho
      cases ho
      obtain ⟨k1, k2⟩ := sorted_L1 a cnt _ s h hs
      simp at k2
      rw [m_ref08_Sorted_L1]
      obtain ⟨b, e, hr⟩ := sorted_L2 out a (by omega) a [] (-1) (false, zF) rfl (.inl ⟨rfl, rfl⟩)
      rw [show m_ref08_Sorted_L2 out a a 0 (-1) = some b from e]
      simp only [Option.bind_some]
      rcases hr with ⟨e1, _⟩ | ⟨e1, e2, e3⟩
      · rw [hp] at e1; cases e1
      · rw [if_pos (by simpa using e2), e3]
        simp only [Option.bind_some]
        rw [ho']
        exact ⟨k1, by omega⟩
theorem refSorted (l : List Fact) (hl : l.length ≤ 1000000000) : ∃ s, m_ref08_Sorted l = some s ∧ IsF (fun f => f ∈ l) s := by
  obtain ⟨s, h1, h2⟩ := selL_spec ltOnF (w := 48) (by omega) zF l hl (l.length + 1) [] (by simp) (by simp) (fun x hx => by cases hx) (fun x _ _ => .inr rfl)
  have hlen : s.length ≤ l.length := length_le_of_nodup (nodup_of_lt ltOnF (fun _ _ => rfl) h2.1) (fun x hx => ((h2.2 x).1 hx).1)
  exact ⟨s, (sorted_L1 l l [] s h1 (by omega)).1, h2.1, fun f => by rw [h2.2]; exact ⟨fun h => h.1, fun h => ⟨h, rfl⟩⟩⟩
theorem names_L1 : ∀ (l : List Cred) (acc : List ByteArray), acc.length + 4 * l.length ≤ 1000000000 → m_ref08_Names_L1 l acc = m_ref03_Set (acc ++ l.flatMap fun c => [c.Who, c.Head.Owner, c.B.Owner, c.C.Owner])
  | [], acc, _ => by rw [m_ref08_Names_L1]; simp [bindS]
  | c :: l, acc, h => by
    rw [m_ref08_Names_L1]
    simp only [List.length_cons] at h
    rw [appB_ok (by simp; omega) (by simp; omega)]
    simp only [Option.bind_some]
    rw [names_L1 l _ (by simp; omega)]
    simp
def SM (C : List Cred) : Prop := C.length ≤ 30000
theorem SM.small {C : List Cred} (h : SM C) : SMALL C := by unfold SM at h; unfold SMALL; omega
theorem SM.sq {C : List Cred} (h : SM C) : C.length * C.length ≤ 900000000 := Nat.mul_le_mul h h
theorem refNames {C : List Cred} (hC : SM C) (hR : Rights C) : ∃ names, m_ref08_Names C = some names ∧ ∀ c ∈ C, c.Kind = 1 → c.Who ∈ names := by
  have hC' : C.length ≤ 30000 := hC
  unfold m_ref08_Names
  rw [names_L1 C [] (by simp; omega)]
  obtain ⟨s, e, hs⟩ := refSetN ([] ++ C.flatMap fun c => [c.Who, c.Head.Owner, c.B.Owner, c.C.Owner]) (by
    have : ∀ l : List Cred, (l.flatMap fun c => [c.Who, c.Head.Owner, c.B.Owner, c.C.Owner]).length = 4 * l.length := fun l => by
      induction l with
      | nil => rfl
      | cons x l ih => simp [ih]; omega
    rw [List.nil_append, this]; omega)
  refine ⟨s, e, fun c hc hk => (hs.2 _).2 ⟨?_, ?_⟩⟩
  · rw [List.nil_append]; exact List.mem_flatMap.2 ⟨c, hc, by simp⟩
  · rcases rightC_cases (hR c hc) with h | h | h | h
    · exact h.2.1
    · exact absurd (hk.symm.trans h.1) (by decide)
    · exact absurd (hk.symm.trans h.1) (by decide)
    · exact absurd (hk.symm.trans h.1) (by decide)
theorem closed_all {C : List Cred} (hR : Rights C) {names : List ByteArray} (hn : ∀ c ∈ C, c.Kind = 1 → c.Who ∈ names) {out : List Fact} (h : ∀ c ∈ C, ∀ w ∈ names, StepP out c names w → (⟨c.Head, w⟩ : Fact) ∈ out) {f : Fact} (hf : Der C f) : f ∈ out := by
  have hw : ∀ f, Der C f → f.Who ∈ names := fun f hf => by
    obtain ⟨c, hc, hk, e⟩ := hf.who
    rw [← e]; exact hn c hc hk
  induction hf with
  | mem c hc hk => exact h c hc _ (hn c hc hk) (.inl ⟨hk, rfl⟩)
  | inc c w hc hk hd ih => exact h c hc w (hw _ hd) (.inr (.inl ⟨hk, ih⟩))
  | lnk c b w hc hk hd1 hd2 ih1 ih2 => exact h c hc w (hw _ hd2) (.inr (.inr (.inr ⟨by omega, by omega, by omega, b, hw _ hd1, ih1, ih2⟩)))
  | both c w hc hk hd1 hd2 ih1 ih2 => exact h c hc w (hw _ hd1) (.inr (.inr (.inl ⟨hk, ih1, ih2⟩)))
theorem refOf_L1 {C : List Cred} (hC : SM C) (hR : Rights C) {names : List ByteArray} (hn : ∀ c ∈ C, c.Kind = 1 → c.Who ∈ names) : ∀ (m : Nat) (out : List Fact), RInv C out → C.length * C.length < m + out.length →
    ∃ s, m_ref08_Of_L1 names C m out = some s ∧ IsF (Der C) s
  | 0, out, h, hm => by have := h.len; omega
  | m + 1, out, h, hm => by
    rw [m_ref08_Of_L1]
    obtain ⟨o, c, e, a1, a2, a3, a4⟩ := refOf_L2 hC.small hR names C out false (fun _ h => h) h
    rw [e]
    simp only [Option.bind_some, bindS]
    cases c with
    | false =>
      simp only [Bool.not_false, if_true]
      obtain ⟨_, b2, b3⟩ := a3 rfl
      subst b2
      have hl := h.len
      have hsq := hC.sq
      obtain ⟨s, hs, hF⟩ := refSorted o (by omega)
      exact ⟨s, hs, hF.1, fun f => (hF.2 f).trans ⟨h.der f, closed_all hR hn b3⟩⟩
    | true =>
      simp only [Bool.not_true, Bool.false_eq_true, if_false]
      rcases a2 rfl with h1 | h1
      · cases h1
      · exact refOf_L1 hC hR hn m o a1 (by omega)
theorem refOf08 (l : List Cred) (hl : l.length ≤ 30000) : ∃ C s, m_ref08_Of l = some s ∧ IsF (Der C) s ∧ ∀ c, c ∈ C ↔ c ∈ l ∧ rightC c = true := by
  unfold m_ref08_Of
  obtain ⟨C, e, hC⟩ := refSetC l (by omega)
  have hlen := isSet_length ltOnC hC
  have hSM : SM C := by unfold SM; omega
  have hR : Rights C := fun c hc => ((hC.2 c).1 hc).2
  obtain ⟨names, e2, hn⟩ := refNames hSM hR
  rw [e]
  simp only [Option.bind_some]
  rw [e2]
  simp only [Option.bind_some]
  have hsq := hSM.sq
  obtain ⟨s, e3, hF⟩ := refOf_L1 hSM hR hn FUEL [] ⟨by simp, fun f hf => by cases hf⟩ (by rw [FUEL_eq]; simp; omega)
  exact ⟨C, s, e3, hF, hC.2⟩
end Go.Proofs.YtmlncblocfcmiaaGreat
namespace Go.Proofs.YtmlncblocfcmiaaGreat
open Go.RowKit
theorem isF_len {P : Fact → Prop} {s t : List Fact} (h : IsF P s) (ht : ∀ f, P f → f ∈ t) : s.length ≤ t.length := length_le_of_nodup (nodup_of_lt ltOnF (fun _ _ => rfl) h.1) (fun f hf => ht f ((h.2 f).1 hf))
theorem isF_der {C : List Cred} {s : List Fact} (h : IsF (Der C) s) (hC : SM C) : s.length ≤ 900000000 := by
  have := isF_len h (t := uni C) (fun f hf => hf.uni)
  rw [uni_length] at this
  have := hC.sq
  omega
theorem min_ok {C : List Cred} {T : Tab} {us : List (Role × List Cred)} {ws : List (ByteArray × List Cred)} {n : Int} (h : MS C T us ws n) (cs : List Cred) (u : List (Role × List Cred)) (w : List (ByteArray × List Cred)) (td : List Fact) (z : Int) (r : Role) (who : ByteArray) :
    ∃ b, m_model_Model_In (mm T) cs u w td z r who = some b ∧ (b = true ↔ Der C ⟨r, who⟩) :=
  ⟨_, rfl, by rw [hasB_names h.good.keys, h.all]⟩
def qA : Role := ⟨⟨#[97]⟩, ⟨#[114]⟩⟩
def qB : Role := ⟨⟨#[98]⟩, ⟨#[115]⟩⟩
def qd : ByteArray := ⟨#[100]⟩
def j1 : Cred := ⟨2, qA, zS, qB, ⟨zS, zS⟩, zS⟩
def j2 : Cred := ⟨1, qB, qd, ⟨zS, zS⟩, ⟨zS, zS⟩, zS⟩
end Go.Proofs.YtmlncblocfcmiaaGreat
namespace Go.Proofs.YtmlncblocfcmiaaGreat
open Go.RowKit
theorem setEq {s t l : List Cred} (h1 : s.Pairwise (fun a b => ltC a b = true)) (h : ∀ x, x ∈ s ↔ x ∈ l ∧ rightC x = true) (ht : IsSetC l t) : s = t := IsSet.unique ltOnC ⟨h1, h⟩ ht
end Go.Proofs.YtmlncblocfcmiaaGreat
namespace Go.Proofs.YtmlncblocfcmiaaGreat
open Go.RowKit
theorem delFa_eq (f : Fact → Option Bool) : ∀ (n : Nat) (l : List Fact) (i j : Int), m_slices_DeleteFunc_Fact_L1 f n l i j = delL f zF n l i j
  | 0, _, _, _ => rfl
  | n + 1, l, i, j => by
    rw [m_slices_DeleteFunc_Fact_L1, delL]
    simp only [delFa_eq f n]
    rfl
theorem idxFa_eq (f : Fact → Option Bool) : ∀ (l : List Fact) (i : Nat), m_slices_IndexFunc_Fact_L1 f l i = idxL f l i
  | [], _ => rfl
  | x :: l, i => by rw [m_slices_IndexFunc_Fact_L1, idxL]; simp only [idxFa_eq f l]
theorem delFFa_eq (f : Fact → Option Bool) (l : List Fact) : m_slices_DeleteFunc_Fact l f = delF f zF l := by
  unfold m_slices_DeleteFunc_Fact delF m_slices_IndexFunc_Fact
  simp only [idxFa_eq, delFa_eq]
def kM : Cred := ⟨1, ⟨⟨#[120]⟩, ⟨#[121]⟩⟩, ⟨#[100]⟩, ⟨zS, zS⟩, ⟨zS, zS⟩, zS⟩
theorem kMr : rightC kM = true := by decide +kernel
theorem derM {C : List Cred} (hC : ∀ c, c ∈ C ↔ c = kM) (f : Fact) : Der C f ↔ f = ⟨kM.Head, kM.Who⟩ := by
  constructor
  · intro h
    cases h with
    | mem c hc hk => rw [(hC c).1 hc]
    | inc c w hc hk _ => rw [(hC c).1 hc] at hk; exact absurd hk (by decide)
    | lnk c b w hc hk _ _ => rw [(hC c).1 hc] at hk; exact absurd hk (by decide)
    | both c w hc hk _ _ => rw [(hC c).1 hc] at hk; exact absurd hk (by decide)
  · rintro rfl
    exact .mem kM ((hC kM).2 rfl) rfl
theorem derNo {C : List Cred} (hC : ∀ c, ¬ c ∈ C) (f : Fact) : ¬ Der C f := fun h => by
  obtain ⟨c, hc, _⟩ := h.head
  exact hC c hc
end Go.Proofs.YtmlncblocfcmiaaGreat
namespace Go.Proofs.YtmlncblocfcmiaaGreat
open Go.RowKit
theorem StepP.own {l : List Fact} {c : Cred} {names : List ByteArray} {w : ByteArray} (h : StepP l c names w) : StepP l c (l.map (·.Who)) w := by
  rcases h with h | h | h | ⟨q1, q2, q3, b, _, q5, q6⟩
  · exact .inl h
  · exact .inr (.inl h)
  · exact .inr (.inr (.inl h))
  · exact .inr (.inr (.inr ⟨q1, q2, q3, b, List.mem_map.2 ⟨_, q5, rfl⟩, q5, q6⟩))
theorem StepP.subset {a b : List Fact} {c : Cred} {names : List ByteArray} {w : ByteArray} (h : StepP a c names w) (hs : ∀ f ∈ a, f ∈ b) : StepP b c names w := by
  rcases h with h | h | h | ⟨q1, q2, q3, b', q4, q5, q6⟩
  · exact .inl h
  · exact .inr (.inl ⟨h.1, hs _ h.2⟩)
  · exact .inr (.inr (.inl ⟨h.1, hs _ h.2.1, hs _ h.2.2⟩))
  · exact .inr (.inr (.inr ⟨q1, q2, q3, b', q4, hs _ q5, hs _ q6⟩))
end Go.Proofs.YtmlncblocfcmiaaGreat
namespace Go.Proofs.YtmlncblocfcmiaaGreat
open Go.RowKit
def tot {α : Type} (ls : List (List α)) : Nat := (ls.map List.length).sum
end Go.Proofs.YtmlncblocfcmiaaGreat
namespace Go.Proofs.YtmlncblocfcmiaaGreat
open Go.RowKit
def up (w : ByteArray) (g : ByteArray → Nat) : ByteArray → Nat := fun x => if beqS w x = true then g x + 1 else g x
end Go.Proofs.YtmlncblocfcmiaaGreat
namespace Go.Proofs.YtmlncblocfcmiaaGreat
open Go.RowKit
instance decRole : DecidableEq Role := fun a b => decidable_of_iff (beqRole a b = true) beqRole_iff
structure Fac (l : List Cred) (F : List Fact) : Prop where
  len : l.length ≤ 30000
  C : ∃ C : List Cred, IsF (Der C) F ∧ (∀ c, c ∈ C ↔ c ∈ l ∧ rightC c = true) ∧ SM C
  ref : m_ref08_Of l = some F
theorem fac_ok (l : List Cred) (hl : l.length ≤ 30000) : ∃ F, Fac l F := by
  obtain ⟨C, F, e, h1, h2⟩ := refOf08 l hl
  obtain ⟨C1, T, us, ws, n, e1, m1, hC1, hlen1⟩ := of_ok l (by omega)
  have hcc : ∀ c, c ∈ C ↔ c ∈ C1 := fun c => by rw [h2, hC1]
  exact ⟨F, hl, ⟨C1, ⟨h1.1, fun f => (h1.2 f).trans (Der.congr hcc f)⟩, hC1, by unfold SM; omega⟩, e⟩
theorem Fac.flen {l : List Cred} {F : List Fact} (h : Fac l F) : F.length ≤ 900000000 := by
  obtain ⟨C, h1, h2, h3⟩ := h.C
  exact isF_der h1 h3
end Go.Proofs.YtmlncblocfcmiaaGreat
namespace Go.Proofs.YtmlncblocfcmiaaGreat
open Go.RowKit
def B8 (l : List Int) : Prop := ∀ x ∈ l, 0 ≤ x ∧ x < 256
theorem B8.app {a b : List Int} (ha : B8 a) (hb : B8 b) : B8 (a ++ b) := fun x hx => (List.mem_append.1 hx).elim (ha x) (hb x)
theorem toS_inj {a b : List Int} (ha : B8 a) (hb : B8 b) : toS a = toS b ↔ a = b :=
  ⟨fun h => u8s_inj ha hb (by rw [← toS_list, ← toS_list, h]), fun h => by rw [h]⟩
theorem bytesI_toS {l : List Int} (h : B8 l) : bytesI (toS l) = l := by
  unfold bytesI
  rw [toS_list]
  unfold u8s
  rw [List.map_map]
  conv => rhs; rw [← List.map_id l]
  apply List.map_congr_left
  intro x hx
  have := h x hx
  simp only [Function.comp, id]
  have h2 : x.toNat.toUInt8.toNat = x.toNat := by rw [Nat.toUInt8_eq, UInt8.toNat_ofNat']; omega
  rw [h2]; omega
theorem bytesB_toS {l : List Int} (h : B8 l) (hl : l.length ≤ 1000000) : bytesB (toS l) = some l := by
  unfold bytesB
  rw [bytesI_toS h, toS_size, if_pos (by simp only [maxLen]; omega)]
def stp (h x : Int) : Int := IntKind.u64.wrap (((IntKind.u64.wrap (BitVec.ofInt (IntKind.bits .u64) h ^^^ BitVec.ofInt (IntKind.bits .u64) (IntKind.u64.wrap x)).toNat)) * 1099511628211)
def sum8 (l : List Int) : Int := l.foldl stp 14695981039346656037
theorem u64_rng (n : Int) : 0 ≤ IntKind.u64.wrap n ∧ IntKind.u64.wrap n < 18446744073709551616 := by
  simp only [IntKind.wrap, IntKind.bits, IntKind.signed]; constructor
  · simp; omega
  · simp; omega
theorem sum8_rng (l : List Int) : 0 ≤ sum8 l ∧ sum8 l < 18446744073709551616 := by
  have : ∀ (l : List Int) (h : Int), (0 ≤ h ∧ h < 18446744073709551616) → 0 ≤ l.foldl stp h ∧ l.foldl stp h < 18446744073709551616 := by
    intro l
    induction l with
    | nil => intro h hh; exact hh
    | cons x l ih => intro h hh; exact ih _ (u64_rng _)
  exact this l _ (by omega)
theorem sum_L2 : ∀ (l : List Int) (h : Int), m_tag_Sum_L2 l h = some (l.foldl stp h)
  | [], h => rfl
  | x :: l, h => by rw [m_tag_Sum_L2, sum_L2 l]; rfl
theorem sum_L1 : ∀ (ls : List (List Int)) (h : Int), m_tag_Sum_L1 ls h = some (ls.flatten.foldl stp h)
  | [], h => rfl
  | l :: ls, h => by rw [m_tag_Sum_L1, sum_L2, Option.bind_some, sum_L1 ls, List.flatten_cons, List.foldl_append]
theorem tagSum (ls : List (List Int)) : m_tag_Sum ls = some (sum8 ls.flatten) := sum_L1 ls _
theorem refSum_L1 (s : ByteArray) (hs : s.size ≤ 10000000) : ∀ (B A : List UInt8) (h : Int) (n : Nat), s.data.toList = A ++ B → B.length < n → m_ref02_Sum_L1 s n h (A.length : Int) = some ((B.map fun b => (b.toNat : Int)).foldl stp h)
  | [], A, h, n + 1, e, _ => by
    have : s.size = A.length := by rw [size_list, e]; simp
    rw [m_ref02_Sum_L1, if_neg (by simp [this])]; rfl
  | b :: B, A, h, n + 1, e, hn => by
    have hz : s.size = A.length + (B.length + 1) := by rw [size_list, e]; simp
    rw [m_ref02_Sum_L1, if_pos (by simp; omega), idxS_at e _ rfl, Option.bind_some, wrap_in (by omega) (by omega)]
    have := refSum_L1 s hs B (A ++ [b]) (stp h (b.toNat : Int)) n (by rw [e]; simp) (by simp only [List.length_cons] at hn; omega)
    simp only [List.length_append, List.length_cons, List.length_nil, Nat.zero_add] at this
    rw [List.map_cons, List.foldl_cons, ← this]
    rfl
theorem refSum {l : List Int} (h : B8 l) (hl : l.length ≤ 1000000) : m_ref02_Sum (toS l) = some (sum8 l) := by
  unfold m_ref02_Sum
  have := refSum_L1 (toS l) (by rw [toS_size]; omega) (toS l).data.toList [] 14695981039346656037 FUEL rfl (by rw [← size_list, toS_size, FUEL_eq]; omega)
  rw [show ((toS l).data.toList.map fun b => (b.toNat : Int)) = l from bytesI_toS h] at this
  exact this
def dig (H : Int) : List Int := [H / 72057594037927936 % 256, H / 281474976710656 % 256, H / 1099511627776 % 256, H / 4294967296 % 256, H / 16777216 % 256, H / 65536 % 256, H / 256 % 256, H % 256]
theorem dig8 (H : Int) : B8 (dig H) := by
  intro x hx
  simp only [dig, List.mem_cons, List.not_mem_nil, or_false] at hx
  rcases hx with rfl | rfl | rfl | rfl | rfl | rfl | rfl | rfl <;> omega
theorem makeTag (H : Int) (hH : 0 ≤ H ∧ H < 18446744073709551616) : ((makeB2 1 (0 : Int) 8).bind fun l => m_tag_Make_L1 H l 0 l) = some (dig H) := by
  have e1 : makeB2 1 (0 : Int) 8 = some [0, 0, 0, 0, 0, 0, 0, 0] := by unfold makeB2; rw [if_pos (by simp [maxLen])]; rfl
  rw [e1, Option.bind_some]
  have k0 : ∀ n : Nat, n ≤ 7 → IntKind.i64.wrap (8 * IntKind.i64.wrap (7 - (n : Int))) = 8 * (7 - (n : Int)) := fun n hn => by
    rw [wrap_in (x := 7 - (n : Int)) (by omega) (by omega), wrap_in (by omega) (by omega)]
  have step : ∀ (x : Int) (xs l : List Int) (i : Nat) (d : Int), i ≤ 7 → l.length = 8 → IntKind.u8.wrap (Int.fdiv H (2 ^ min (Int.toNat (8 * (7 - (i : Int)))) (IntKind.bits .u64))) = d → m_tag_Make_L1 H (x :: xs) i l = m_tag_Make_L1 H xs (i + 1) (l.set i d) := by
    intro x xs l i d hi hl hd
    rw [m_tag_Make_L1, k0 i hi, hd]
    have : chk (decide (0 ≤ 8 * (7 - (i : Int)))) = some () := by simp [chk]; omega
    rw [this, Option.bind_some]
    have : idx l (i : Int) = some l[i] := by unfold idx; rw [if_pos (by omega)]; simp
    rw [this, Option.bind_some]
    rfl
  have w8 : ∀ n : Int, IntKind.u8.wrap n = n % 256 := fun n => by rw [IntKind.wrap_u8]
  have fd : ∀ m : Int, 0 < m → Int.fdiv H m = H / m := fun m hm => Int.fdiv_eq_ediv_of_nonneg _ (by omega)
  rw [step _ _ _ 0 (H / 72057594037927936 % 256) (by omega) rfl (by rw [w8, fd _ (by decide)]; rfl)]
  rw [step _ _ _ 1 (H / 281474976710656 % 256) (by omega) rfl (by rw [w8, fd _ (by decide)]; rfl)]
  rw [step _ _ _ 2 (H / 1099511627776 % 256) (by omega) rfl (by rw [w8, fd _ (by decide)]; rfl)]
  rw [step _ _ _ 3 (H / 4294967296 % 256) (by omega) rfl (by rw [w8, fd _ (by decide)]; rfl)]
  rw [step _ _ _ 4 (H / 16777216 % 256) (by omega) rfl (by rw [w8, fd _ (by decide)]; rfl)]
  rw [step _ _ _ 5 (H / 65536 % 256) (by omega) rfl (by rw [w8, fd _ (by decide)]; rfl)]
  rw [step _ _ _ 6 (H / 256 % 256) (by omega) rfl (by rw [w8, fd _ (by decide)]; rfl)]
  rw [step _ _ _ 7 (H % 256) (by omega) rfl (by rw [w8, fd _ (by decide)]; simp)]
  rfl
theorem refTag (H : Int) (hH : 0 ≤ H ∧ H < 18446744073709551616) : m_ref02_Make_L1 FUEL H zS 0 = some (toS (dig H)) := by
  have w8 : ∀ n : Int, 0 ≤ n → IntKind.u8.wrap (Int.tmod n 256) = n % 256 := fun n hn => by
    rw [IntKind.wrap_u8, Int.tmod_eq_emod_of_nonneg hn]; omega
  have step : ∀ (n : Nat) (x : Int) (l : List Int) (i : Nat), i < 8 → 0 ≤ x ∧ x < 18446744073709551616 → l.length ≤ 100 → m_ref02_Make_L1 (n + 1) x (toS l) (i : Int) = m_ref02_Make_L1 n (x / 256) (toS (x % 256 :: l)) ((i + 1 : Nat) : Int) := by
    intro n x l i hi hx hl
    rw [m_ref02_Make_L1, if_pos (by simp; omega), w8 x hx.1, strI_eq, catS_ok _ _ (by simp; omega), Option.bind_some, Int.tdiv_eq_ediv_of_nonneg hx.1, IntWalk.u64_in _ (by omega), wrap_in (by omega) (by omega)]
    rfl
  have hz : zS = toS [] := ba_ext rfl
  rw [FUEL_eq, hz]
  rw [show (18446744073709551616 : Nat) = 18446744073709551607 + 9 from rfl]
  rw [show (0 : Int) = ((0 : Nat) : Int) from rfl, step _ _ _ 0 (by omega) hH (by simp), step _ _ _ 1 (by omega) (by omega) (by simp), step _ _ _ 2 (by omega) (by omega) (by simp), step _ _ _ 3 (by omega) (by omega) (by simp), step _ _ _ 4 (by omega) (by omega) (by simp), step _ _ _ 5 (by omega) (by omega) (by simp), step _ _ _ 6 (by omega) (by omega) (by simp), step _ _ _ 7 (by omega) (by omega) (by simp)]
  rw [m_ref02_Make_L1, if_neg (by simp)]
  have e1 : H / 256 / 256 = H / 65536 := by omega
  have e2 : H / 65536 / 256 = H / 16777216 := by omega
  have e3 : H / 16777216 / 256 = H / 4294967296 := by omega
  have e4 : H / 4294967296 / 256 = H / 1099511627776 := by omega
  have e5 : H / 1099511627776 / 256 = H / 281474976710656 := by omega
  have e6 : H / 281474976710656 / 256 = H / 72057594037927936 := by omega
  rw [e1, e2, e3, e4, e5, e6]
  rfl
def tagL (k b : List Int) : List Int := dig (sum8 ((k.length : Int) :: (k ++ (b ++ k))))
theorem tagL8 (k b : List Int) : B8 (tagL k b) := dig8 _
theorem tagMake {k : List Int} (b : List Int) (h : 1 ≤ k.length ∧ k.length ≤ 32) : m_tag_Make k b = some (tagL k b) := by
  have hr : m_tag_right k = some true := by
    unfold m_tag_right
    rw [decide_eq_true (show (k.length : Int) ≥ 1 by omega), decide_eq_true (show (k.length : Int) ≤ 32 by omega)]; rfl
  unfold m_tag_Make
  rw [hr]
  simp only [Option.bind_some, Bool.not_true, Bool.false_eq_true, if_false]
  rw [tagSum]
  simp only [Option.bind_some]
  rw [makeTag _ (sum8_rng _), show IntKind.u8.wrap (k.length : Int) = (k.length : Int) from IntWalk.u8_in _ (by omega)]
  simp [tagL]
theorem refMake {k b : List Int} (hk : B8 k) (hb : B8 b) (h : 1 ≤ k.length ∧ k.length ≤ 32) (hl : b.length ≤ 10000) : m_ref02_Make (toS k) (toS b) = some (toS (tagL k b)) := by
  unfold m_ref02_Make
  rw [strI_eq, toS_size, show IntKind.u8.wrap (k.length : Int) = (k.length : Int) from IntWalk.u8_in _ (by omega), catS_ok _ _ (by simp only [List.length_cons, List.length_nil]; omega)]
  simp only [Option.bind_some]
  rw [catS_ok _ _ (by simp; omega)]
  simp only [Option.bind_some]
  rw [catS_ok _ _ (by simp; omega)]
  simp only [Option.bind_some]
  have h8 : B8 ([(k.length : Int)] ++ k ++ b ++ k) := ((B8.app (fun x hx => by rw [List.mem_singleton] at hx; omega) hk).app hb).app hk
  rw [refSum h8 (by simp; omega), Option.bind_some, refTag _ (sum8_rng _)]
  simp [tagL]
end Go.Proofs.YtmlncblocfcmiaaGreat
namespace Go.Proofs.YtmlncblocfcmiaaGreat
open Go.RowKit
def newE : List ByteArray → List Key → Int
  | _, [] => 0
  | seen, k :: l => if rightN k.Who = false then 30 else if k.Key.length < 1 ∨ 32 < k.Key.length then 21 else if hasB beqS seen k.Who = true then 41 else newE (seen ++ [k.Who]) l
def tabK (l : List Key) : List (ByteArray × List Int) := l.map fun k => (k.Who, k.Key)
def look (l : List Key) (o : ByteArray) : Option (List Int) := mget beqS (tabK l) o
theorem tabK_app (a b : List Key) : tabK (a ++ b) = tabK a ++ tabK b := by simp [tabK]
theorem mget_has (acc : List Key) (w : ByteArray) : (mget beqS (tabK acc) w).isSome = hasB beqS (acc.map (·.Who)) w := by
  induction acc with
  | nil => rfl
  | cons k l ih =>
    rw [show tabK (k :: l) = (k.Who, k.Key) :: tabK l from rfl, mget_cons]
    simp only [List.map_cons, hasB, List.any_cons] at ih ⊢
    cases h : beqS w k.Who <;> simp [ih]
theorem cloneB {l : List Int} (h : l.length ≤ 1000000) : m_bytes_Clone l = some l := by
  unfold m_bytes_Clone
  rw [app1 (by simpa using h)]; rfl
theorem tooB (k : Key) : (if decide ((k.Key.length : Int) < 1) = true then some true else some (decide ((k.Key.length : Int) > 32)) : Option Bool) = some (decide (k.Key.length < 1 ∨ 32 < k.Key.length)) := by
  rw [Bool.decide_or]
  by_cases h : k.Key.length < 1
  · rw [if_pos (by simp; omega), decide_eq_true h, Bool.true_or]
  · rw [if_neg (by simp; omega), decide_eq_false h, Bool.false_or]
    congr 1; apply decide_eq_decide.2; omega
theorem keysNew_L1 : ∀ (l acc : List Key), m_keys_New_L1 l (tabK acc) = some (if newE (acc.map (·.Who)) l = 0 then (some (⟨tabK (acc ++ l)⟩ : KeysRegistry), 0) else (none, newE (acc.map (·.Who)) l))
  | [], acc => by rw [m_keys_New_L1]; simp [newE]
  | k :: l, acc => by
    rw [m_keys_New_L1, m_name_Right_eq, Option.bind_some]
    unfold newE
    cases hr : rightN k.Who
    · simp
    · simp only [Bool.not_true, Bool.false_eq_true, if_false]
      rw [tooB, Option.bind_some]
      by_cases hk : k.Key.length < 1 ∨ 32 < k.Key.length
      · simp only [hk, decide_true, if_true]
        rw [if_neg (by simp), if_neg (by decide)]
      · simp only [hk, decide_false, Bool.false_eq_true, if_false]
        rw [mget_has]
        cases hh : hasB beqS (acc.map (·.Who)) k.Who
        · simp only [Bool.false_eq_true, if_false]
          rw [cloneB (by omega), Option.bind_some]
          have hn : ∀ p ∈ tabK acc, p.1 ≠ k.Who := by
            intro p hp e
            obtain ⟨q, hq, rfl⟩ := List.mem_map.1 hp
            have := (hasB_iff beqS_iff (acc.map (·.Who)) k.Who).2 (List.mem_map.2 ⟨q, hq, e⟩)
            rw [this] at hh; cases hh
          unfold mnew
          rw [mget_no beqS_iff hn, mput_no beqS_iff hn]
          simp only [Option.isNone_none, if_true, Option.bind_some]
          have := keysNew_L1 l (acc ++ [k])
          rw [tabK_app] at this
          rw [show tabK acc ++ [(k.Who, k.Key)] = tabK acc ++ tabK [k] from rfl, this]
          simp
        · simp
theorem keysNew (l : List Key) : m_keys_New l = some (if newE [] l = 0 then (some (⟨tabK l⟩ : KeysRegistry), 0) else (none, newE [] l)) := keysNew_L1 l []
theorem refNew_L2 (k : Key) : ∀ A : List Key, m_ref06_New_L2 k A = some (if hasB beqS (A.map (·.Who)) k.Who = true then .inl 41 else .inr ())
  | [] => rfl
  | x :: A => by
    rw [m_ref06_New_L2, beqS_comm, refNew_L2 k A]
    simp only [List.map_cons, hasB, List.any_cons]
    cases beqS k.Who x.Who <;> simp
theorem refNew_L1 (a0 : List Key) : ∀ (l A : List Key), a0 = A ++ l → m_ref06_New_L1 a0 l A.length = some (newE (A.map (·.Who)) l)
  | [], A, e => by rw [m_ref06_New_L1]; simp [newE]
  | k :: l, A, e => by
    rw [m_ref06_New_L1, m_ref03_Right_eq, Option.bind_some]
    unfold newE
    cases hr : rightN k.Who
    · simp
    · simp only [Bool.not_true, Bool.false_eq_true, if_false]
      rw [tooB, Option.bind_some]
      by_cases hk : k.Key.length < 1 ∨ 32 < k.Key.length
      · simp only [hk, decide_true, if_true]; simp
      · simp only [hk, decide_false, Bool.false_eq_true, if_false]
        rw [chk_ok (by omega) (by rw [e]; simp; omega), Option.bind_some]
        have ht : a0.take (Int.toNat (A.length : Int)) = A := by rw [e]; simp
        rw [ht, refNew_L2, Option.bind_some]
        cases hh : hasB beqS (A.map (·.Who)) k.Who
        · simp only [Bool.false_eq_true, if_false]
          have := refNew_L1 a0 l (A ++ [k]) (by rw [e]; simp)
          simpa using this
        · simp
theorem refNew (l : List Key) : m_ref06_New l = some (newE [] l) := refNew_L1 l l [] rfl
theorem newE_ok : ∀ (l : List Key) (seen : List ByteArray), newE seen l = 0 → ∀ k ∈ l, 1 ≤ k.Key.length ∧ k.Key.length ≤ 32
  | [], _, _, _, hk => by cases hk
  | x :: l, seen, h, k, hk => by
    unfold newE at h
    split at h
    · cases h
    split at h
    · cases h
    split at h
    · cases h
    rcases List.mem_cons.1 hk with rfl | hk
    · omega
    · exact newE_ok l _ h k hk
theorem look_mem : ∀ (l : List Key) (o : ByteArray) (b : List Int), look l o = some b → ∃ k ∈ l, k.Key = b
  | [], o, b, h => by cases h
  | x :: l, o, b, h => by
    unfold look at h
    rw [show tabK (x :: l) = (x.Who, x.Key) :: tabK l from rfl, mget_cons] at h
    split at h
    · cases h; exact ⟨x, by simp, rfl⟩
    · obtain ⟨k, hk, e⟩ := look_mem l o b h
      exact ⟨k, by simp [hk], e⟩
theorem look_cons (x : Key) (l : List Key) (o : ByteArray) : look (x :: l) o = if beqS x.Who o = true then some x.Key else look l o := by
  unfold look
  rw [show tabK (x :: l) = (x.Who, x.Key) :: tabK l from rfl, mget_cons, beqS_comm]
def K8 (l : List Key) : Prop := ∀ k ∈ l, B8 k.Key
def zSg : Signed := ⟨(⟨0, (⟨zS, zS⟩ : Role), zS, (⟨zS, zS⟩ : Role), (⟨zS, zS⟩ : Role), zS⟩ : Cred), []⟩
theorem rkey (c : Cred) : ∀ l : List Key, m_revoke_key_L1 c l = some (match look l c.Head.Owner with | some k => (k, nilOf k) | none => ([], some true))
  | [] => rfl
  | x :: l => by
    rw [m_revoke_key_L1, look_cons, rkey c l]
    split <;> rfl
theorem credI_len {c : Cred} (h : rightC c = true) : (credI c).length ≤ 200 := by
  unfold credI bodyI
  rw [List.length_cons, List.length_append]
  have h0 := roleI_length (rightC_head h)
  have hN : ∀ s, rightN s = true → (textI s).length ≤ 17 := fun s hs => by rw [textI_length]; have := rightN_size hs; omega
  rcases rightC_cases h with g | g | g | g <;> simp only [g.1, if_true, if_false, Int.reduceEq]
  · have := hN c.Who (by simp_all); omega
  · have : (roleI c.B).length ≤ 34 := roleI_length (by simp_all)
    omega
  · have : (roleI c.B).length ≤ 34 := roleI_length (by simp_all)
    have := hN c.Word2 (by simp_all)
    rw [List.length_append]; omega
  · have : (roleI c.B).length ≤ 34 := roleI_length (by simp_all)
    have : (roleI c.C).length ≤ 34 := roleI_length (by simp_all)
    rw [List.length_append]; omega
theorem cB (c : Cred) (h : rightC c = true) : m_cred_Bytes c = some (credI c) := by rw [m_cred_Bytes_eq, if_pos h]
theorem rB (c : Cred) (h : rightC c = true) : m_ref05_Bytes c = some (toS (credI c)) := by
  have := m_ref05_bytes_eq c
  unfold m_ref05_bytes at this
  rw [m_ref05_Right_eq, h] at this
  simp only [Option.bind_some, Bool.not_true, Bool.false_eq_true, if_false, if_true] at this
  rw [← this]; cases m_ref05_Bytes c <;> rfl
structure Mk (ks : List Key) (c : Cred) (k : List Int) : Prop where
  ok : newE [] ks = 0
  rt : rightC c = true
  lk : look ks c.Head.Owner = some k
theorem Mk.len {ks : List Key} {c : Cred} {k : List Int} (h : Mk ks c k) : 1 ≤ k.length ∧ k.length ≤ 32 := by
  obtain ⟨q, hq, rfl⟩ := look_mem _ _ _ h.lk
  exact newE_ok ks [] h.ok q hq
theorem Mk.b8 {ks : List Key} {c : Cred} {k : List Int} (h : Mk ks c k) (hk : K8 ks) : B8 k := by
  obtain ⟨q, hq, rfl⟩ := look_mem _ _ _ h.lk
  exact hk q hq
theorem Mk.unique {ks : List Key} {c : Cred} {k k' : List Int} (h : Mk ks c k) (h' : Mk ks c k') : k = k' := by
  have := h.lk; rw [h'.lk] at this; cases this; rfl
def bodyR (c : Cred) : List Int := 255 :: credI c
theorem bodyR8 {c : Cred} (h : rightC c = true) : B8 (bodyR c) := fun x hx => by
  rcases List.mem_cons.1 hx with rfl | hx
  · omega
  · exact credI_range h x hx
theorem rbody (c : Cred) (h : rightC c = true) : m_revoke_body c = some (bodyR c) := by
  unfold m_revoke_body
  have := credI_len h
  rw [cB c h, Option.bind_some, app1 (by simp; omega)]; rfl
theorem refMake_L1 (ks : List Key) (hk : K8 ks) (c : Cred) (hc : rightC c = true) : ∀ l : List Key, (∀ k ∈ l, B8 k.Key ∧ 1 ≤ k.Key.length ∧ k.Key.length ≤ 32) → m_ref34_Make_L1 c l = some (match look l c.Head.Owner with | some k => (⟨c, tagL k (bodyR c)⟩, 0) | none => (zSg, 21))
  | [], _ => rfl
  | x :: l, h => by
    rw [m_ref34_Make_L1, look_cons, refMake_L1 ks hk c hc l (fun k hk => h k (by simp [hk]))]
    split
    · have := credI_len hc
      have hx := h x (by simp)
      rw [rB c hc]
      simp only [Option.bind_some]
      rw [show (⟨#[255]⟩ : ByteArray) = toS [255] from rfl, catS_ok _ _ (by simp; omega)]
      simp only [Option.bind_some]
      rw [strI_eq, show [255] ++ credI c = bodyR c from rfl, refMake hx.1 (bodyR8 hc) hx.2 (by simp [bodyR]; omega), Option.bind_some, bytesB_toS (tagL8 _ _) (by simp [tagL, dig])]
      rfl
    · rfl
theorem make_eq (ks : List Key) (hk : K8 ks) (c : Cred) : ∃ r, m_revoke_Make ks c = some r ∧ m_ref34_Make ks c = some r ∧ ((r.2 ≠ 0 ∧ r.1 = zSg ∧ ∀ k, ¬ Mk ks c k) ∨ (r.2 = 0 ∧ ∃ k, Mk ks c k ∧ r.1 = ⟨c, tagL k (bodyR c)⟩)) := by
  unfold m_revoke_Make m_ref34_Make m_revoke_key
  rw [keysNew, refNew, rkey]
  simp only [Option.bind_some]
  by_cases h0 : newE [] ks = 0
  case neg =>
    simp only [h0, if_false]
    have : (newE [] ks != 0) = true := by simp [h0]
    rw [this]
    exact ⟨_, rfl, rfl, .inl ⟨h0, rfl, fun k h => h0 h.ok⟩⟩
  simp only [h0, if_true, m_cred_Right_eq, m_ref05_Right_eq, Option.bind_some]
  cases hr : rightC c
  · exact ⟨_, rfl, rfl, .inl ⟨by decide, rfl, fun k h => by have := h.rt; rw [hr] at this; cases this⟩⟩
  rw [refMake_L1 ks hk c hr ks (fun k hq => ⟨hk k hq, newE_ok ks [] h0 k hq⟩)]
  cases hl : look ks c.Head.Owner with
  | none => exact ⟨_, rfl, rfl, .inl ⟨by decide, rfl, fun k h => by have := h.lk; rw [hl] at this; cases this⟩⟩
  | some k =>
    have hm : Mk ks c k := ⟨h0, hr, hl⟩
    have hne : k.isEmpty = false := by have := hm.len; cases k with | nil => simp at this | cons _ _ => rfl
    simp only [nilOf, hne, nilT, Bool.false_eq_true, if_false, Option.bind_some, rbody c hr, tagMake _ hm.len]
    exact ⟨_, rfl, rfl, .inr ⟨rfl, k, hm, rfl⟩⟩
theorem eqBy_run : ∀ (l m A : List Int), l.length = m.length → m_slices_Equal_byte_L1 (A ++ m) l A.length = some (decide (l = m))
  | [], [], A, _ => rfl
  | x :: l, y :: m, A, h => by
    rw [m_slices_Equal_byte_L1, idx_mid A y m _ rfl, Option.bind_some]
    have := eqBy_run l m (A ++ [y]) (by simpa using h)
    simp only [List.append_assoc, List.cons_append, List.nil_append, List.length_append, List.length_cons, List.length_nil, Nat.zero_add] at this
    rw [this]
    by_cases e : x = y
    · subst e; simp
    · have : (x != y) = true := by simp [e]
      rw [this]; simp [e]
theorem eqBy (l m : List Int) : m_slices_Equal_byte l m = some (decide (l = m)) := by
  unfold m_slices_Equal_byte
  by_cases h : l.length = m.length
  · rw [if_neg (by simp [h])]; exact eqBy_run l m [] h
  · rw [if_pos (by simp; omega), decide_eq_false (fun e => h (by rw [e]))]
theorem beqT {a b : List Int} (ha : B8 a) (hb : B8 b) : beqS (strI a) (strI b) = decide (a = b) := by
  rw [Bool.eq_iff_iff, beqS_iff, strI_eq, strI_eq, toS_inj ha hb]; simp
def GoodP (ks : List Key) (s : Signed) : Prop := ∃ k, Mk ks s.Cred k ∧ s.Tag = tagL k (bodyR s.Cred)
theorem good_eq (ks : List Key) (hk : K8 ks) (s : Signed) (hs : B8 s.Tag) : ∃ b, m_revoke_Good ks s = some b ∧ m_ref34_Good ks s = some b ∧ (b = true ↔ GoodP ks s) := by
  obtain ⟨r, e1, e2, hr⟩ := make_eq ks hk s.Cred
  unfold m_revoke_Good m_ref34_Good
  rw [e1, e2]
  simp only [Option.bind_some]
  rcases hr with ⟨h, _, hn⟩ | ⟨h, k, hm, h1⟩
  · have : (r.2 == 0) = false := by simp [h]
    rw [this]
    exact ⟨false, rfl, rfl, by simp; rintro ⟨k, h, _⟩; exact hn k h⟩
  · have : (r.2 == 0) = true := by simp [h]
    rw [this, h1, eqBy, beqT (tagL8 _ _) hs]
    refine ⟨_, rfl, rfl, ?_⟩
    rw [decide_eq_true_iff]
    exact ⟨fun e => ⟨k, hm, e.symm⟩, fun ⟨k', h', e⟩ => by rw [e, hm.unique h']⟩
def CheckP (ks : List Key) (s : Signed) : Prop := ∃ k, Mk ks s.Cred k ∧ s.Tag = tagL k (credI s.Cred)
theorem kof (ks : List Key) (c : Cred) : m_keys_Registry_of (some ⟨tabK ks⟩) c = some (if rightC c = true then (match look ks c.Head.Owner with | some k => (k, (0 : Int)) | none => ([], 21)) else ([], 11)) := by
  unfold m_keys_Registry_of
  rw [if_neg (by simp), m_cred_Right_eq]
  simp only [Option.bind_some]
  cases hr : rightC c
  · rfl
  simp only [Bool.not_true, Bool.false_eq_true, if_false, if_true]
  unfold look
  cases mget beqS (tabK ks) c.Head.Owner <;> rfl
theorem rkey_L1 (c : Cred) : ∀ l : List Key, m_ref06_key_L1 c l = some (match look l c.Head.Owner with | some k => (toS k, 0) | none => (zS, 21))
  | [] => rfl
  | x :: l => by
    rw [m_ref06_key_L1, look_cons, rkey_L1 c l, strI_eq]
    split <;> rfl
theorem sign_eq (ks : List Key) (h0 : newE [] ks = 0) (c : Cred) : ∃ r, m_keys_Registry_Sign (some ⟨tabK ks⟩) c = some r ∧ ((r.2 ≠ 0 ∧ ∀ k, ¬ Mk ks c k) ∨ (r.2 = 0 ∧ ∃ k, Mk ks c k ∧ r.1 = ⟨c, tagL k (credI c)⟩)) := by
  unfold m_keys_Registry_Sign
  rw [kof]
  simp only [Option.bind_some]
  cases hr : rightC c
  · exact ⟨_, rfl, .inl ⟨by simp, fun k h => by have := h.rt; rw [hr] at this; cases this⟩⟩
  simp only [if_true]
  cases hl : look ks c.Head.Owner with
  | none => exact ⟨_, rfl, .inl ⟨by decide, fun k h => by have := h.lk; rw [hl] at this; cases this⟩⟩
  | some k =>
    have hm : Mk ks c k := ⟨h0, hr, hl⟩
    simp only [cB c hr, Option.bind_some, tagMake _ hm.len]
    exact ⟨_, rfl, .inr ⟨rfl, k, hm, rfl⟩⟩
theorem check_eq (ks : List Key) (hk : K8 ks) (h0 : newE [] ks = 0) (s : Signed) (hs : B8 s.Tag) : ∃ e, m_keys_Registry_Check (some ⟨tabK ks⟩) s = some e ∧ m_ref06_Check ks s = some e ∧ (e = 0 ↔ CheckP ks s) := by
  unfold m_keys_Registry_Check m_ref06_Check m_ref06_key
  rw [kof, m_ref05_Right_eq, rkey_L1]
  simp only [Option.bind_some]
  cases hr : rightC s.Cred
  · exact ⟨11, rfl, rfl, by simp; rintro ⟨k, h, _⟩; have := h.rt; rw [hr] at this; cases this⟩
  simp only [if_true, Bool.not_true, Bool.false_eq_true, if_false, Option.bind_some]
  cases hl : look ks s.Cred.Head.Owner with
  | none => exact ⟨21, rfl, rfl, by simp; rintro ⟨k, h, _⟩; have := h.lk; rw [hl] at this; cases this⟩
  | some k =>
    have hm : Mk ks s.Cred k := ⟨h0, hr, hl⟩
    have := credI_len hr
    have ht : m_tag_Good k (credI s.Cred) s.Tag = some (decide (tagL k (credI s.Cred) = s.Tag)) := by
      unfold m_tag_Good
      have hq : m_tag_right k = some true := by
        unfold m_tag_right
        have := hm.len
        rw [decide_eq_true (show (k.length : Int) ≥ 1 by omega), decide_eq_true (show (k.length : Int) ≤ 32 by omega)]; rfl
      rw [hq]
      simp only [Option.bind_some, if_true, tagMake _ hm.len, m_bytes_Equal]
      rw [beqT (tagL8 _ _) hs]
    simp only [cB _ hr, rB _ hr, Option.bind_some, ht, refMake (hm.b8 hk) (credI_range hr) hm.len (show (credI s.Cred).length ≤ 10000 by omega)]
    rw [← strI_eq (tagL k _), beqT (tagL8 _ _) hs]
    by_cases he : tagL k (credI s.Cred) = s.Tag
    · refine ⟨0, ?_, ?_, by simp; exact ⟨k, hm, he.symm⟩⟩ <;> simp [he]
    · refine ⟨20, ?_, ?_, ?_⟩
      · simp [he]
      · simp [he]
      · simp; rintro ⟨k', h', e⟩; exact he (by rw [e, hm.unique h'])
end Go.Proofs.YtmlncblocfcmiaaGreat
namespace Go.Proofs.YtmlncblocfcmiaaGreat
open Go.RowKit
open Classical in
noncomputable def goodB (ks : List Key) (s : Signed) : Bool := decide (GoodP ks s)
open Classical in
noncomputable def checkB (ks : List Key) (s : Signed) : Bool := decide (CheckP ks s)
theorem goodB_iff (ks : List Key) (s : Signed) : goodB ks s = true ↔ GoodP ks s := by simp [goodB]
theorem checkB_iff (ks : List Key) (s : Signed) : checkB ks s = true ↔ CheckP ks s := by simp [checkB]
theorem good_b (ks : List Key) (hk : K8 ks) (s : Signed) (hs : B8 s.Tag) : m_revoke_Good ks s = some (goodB ks s) ∧ m_ref34_Good ks s = some (goodB ks s) := by
  obtain ⟨b, e1, e2, h⟩ := good_eq ks hk s hs
  have : b = goodB ks s := by rw [Bool.eq_iff_iff, h, goodB_iff]
  rw [← this]; exact ⟨e1, e2⟩
def S8 (l : List Signed) : Prop := ∀ s ∈ l, B8 s.Tag
theorem kGood_L1 (ks : List Key) (hk : K8 ks) (h0 : newE [] ks = 0) : ∀ (l : List Signed) (acc : List Cred), S8 l → acc.length + l.length ≤ 100000000 →
    m_keys_Registry_Good_L1 (some ⟨tabK ks⟩) l acc = m_cred_Set (acc ++ (l.filter (checkB ks)).map (·.Cred)) ∧ m_ref06_Good_L1 ks l acc = m_ref05_Set (acc ++ (l.filter (checkB ks)).map (·.Cred))
  | [], acc, _, _ => by rw [m_keys_Registry_Good_L1, m_ref06_Good_L1]; simp [bindS]
  | s :: l, acc, h8, hl => by
    rw [m_keys_Registry_Good_L1, m_ref06_Good_L1]
    obtain ⟨e, e1, e2, he⟩ := check_eq ks hk h0 s (h8 s (by simp))
    rw [e1, e2]
    simp only [Option.bind_some]
    simp only [List.length_cons] at hl
    have h8' : S8 l := fun x hx => h8 x (by simp [hx])
    by_cases hz : e = 0
    · have hb : checkB ks s = true := (checkB_iff ks s).2 (he.1 hz)
      rw [if_pos (by simp [hz]), if_pos (by simp [hz]), appB_ok (by simp; omega) (by simp; omega)]
      simp only [Option.bind_some]
      have := kGood_L1 ks hk h0 l (acc ++ [s.Cred]) h8' (by simp; omega)
      simpa [List.filter_cons, hb] using this
    · have hb : checkB ks s = false := by rw [← Bool.not_eq_true, checkB_iff, ← he]; exact hz
      rw [if_neg (by simp [hz]), if_neg (by simp [hz])]
      have := kGood_L1 ks hk h0 l acc h8' (by omega)
      simpa [List.filter_cons, hb] using this
theorem kGood_ok (ks : List Key) (hk : K8 ks) (h0 : newE [] ks = 0) (l : List Signed) (h8 : S8 l) (hl : l.length ≤ 10000000) : ∃ G, m_keys_Registry_Good (some ⟨tabK ks⟩) l = some G ∧ m_ref06_Good ks l = some G ∧ IsSetC ((l.filter (checkB ks)).map (·.Cred)) G := by
  obtain ⟨e1, e2⟩ := kGood_L1 ks hk h0 l [] h8 (by simp; omega)
  have hl' : ((l.filter (checkB ks)).map (·.Cred)).length ≤ 1000000000 := by
    rw [List.length_map]; have := List.length_filter_le (checkB ks) l; omega
  rw [List.nil_append] at e1 e2
  obtain ⟨G, g1, g2⟩ := setC _ hl'
  obtain ⟨G', g3, g4⟩ := refSetC _ hl'
  have := g4.unique ltOnC g2
  subst this
  exact ⟨G', e1.trans g1, e2.trans g3, g2⟩
noncomputable def gone (ks : List Key) (l : List Signed) (acc : List Cred) : List Cred := l.foldl (fun a s => if goodB ks s = true then ins beqCred a s.Cred else a) acc
theorem mem_gone (ks : List Key) : ∀ (l : List Signed) (acc : List Cred) (x : Cred), x ∈ gone ks l acc ↔ x ∈ acc ∨ ∃ s ∈ l, GoodP ks s ∧ s.Cred = x
  | [], acc, x => by simp [gone]
  | s :: l, acc, x => by
    have := mem_gone ks l (if goodB ks s = true then ins beqCred acc s.Cred else acc) x
    unfold gone at this ⊢
    rw [List.foldl_cons, this]
    by_cases h : goodB ks s = true
    · rw [if_pos h, mem_ins beqCred_iff]
      rw [goodB_iff] at h
      constructor
      · rintro ((h1 | h1) | ⟨t, h1, h2⟩)
        · exact .inl h1
        · exact .inr ⟨s, by simp, h, h1.symm⟩
        · exact .inr ⟨t, by simp [h1], h2⟩
      · rintro (h1 | ⟨t, h1, h2, h3⟩)
        · exact .inl (.inl h1)
        · rcases List.mem_cons.1 h1 with rfl | h1
          · exact .inl (.inr h3.symm)
          · exact .inr ⟨t, h1, h2, h3⟩
    · rw [if_neg h]
      rw [goodB_iff] at h
      constructor
      · rintro (h1 | ⟨t, h1, h2⟩)
        · exact .inl h1
        · exact .inr ⟨t, by simp [h1], h2⟩
      · rintro (h1 | ⟨t, h1, h2, h3⟩)
        · exact .inl h1
        · rcases List.mem_cons.1 h1 with rfl | h1
          · exact absurd h2 h
          · exact .inr ⟨t, h1, h2, h3⟩
theorem live_L1 (ks : List Key) (hk : K8 ks) (r : Option KeysRegistry × Int) (l1 : List Signed) : ∀ (l : List Signed) (acc : List Cred), S8 l →
    m_revoke_Live_L1 ks r l1 l (tt acc) = (m_keys_Registry_Good r.1 l1).bind fun G => m_slices_DeleteFunc_Cred G (fun x => m_revoke_Live_c1 x (tt (gone ks l acc)))
  | [], acc, _ => by rw [m_revoke_Live_L1]; simp [gone, bindS]
  | s :: l, acc, h8 => by
    rw [m_revoke_Live_L1, (good_b ks hk s (h8 s (by simp))).1, Option.bind_some]
    have h8' : S8 l := fun x hx => h8 x (by simp [hx])
    unfold gone
    rw [List.foldl_cons]
    by_cases h : goodB ks s = true
    · rw [if_pos h, if_pos h, mput_tt beqCred_iff, live_L1 ks hk r l1 l _ h8']; rfl
    · rw [if_neg h, if_neg h, live_L1 ks hk r l1 l _ h8']; rfl
theorem refLive_L2 (ks : List Key) (hk : K8 ks) (x : Cred) : ∀ (l : List Signed) (b : Bool), S8 l → ∃ q, m_ref34_Live_L2 x ks l b = some q ∧ (q = true ↔ b = true ∧ ∀ s ∈ l, GoodP ks s → s.Cred ≠ x)
  | [], b, _ => ⟨b, rfl, by simp⟩
  | s :: l, b, h8 => by
    have h8' : S8 l := fun x hx => h8 x (by simp [hx])
    rw [m_ref34_Live_L2, (good_b ks hk s (h8 s (by simp))).2]
    simp only [Option.bind_some, bindS, orS, andS]
    obtain ⟨q, e, hq⟩ := refLive_L2 ks hk x l (b && (!beqCred s.Cred x || !goodB ks s)) h8'
    refine ⟨q, e, hq.trans ?_⟩
    simp only [Bool.and_eq_true, Bool.or_eq_true, Bool.not_eq_true', ← Bool.not_eq_true, goodB_iff, beqCred_iff, List.mem_cons, forall_eq_or_imp]
    constructor
    · rintro ⟨⟨h1, h2⟩, h3⟩
      exact ⟨h1, fun g e => h2.elim (fun h => h e) (fun h => h g), h3⟩
    · rintro ⟨h1, h2, h3⟩
      refine ⟨⟨h1, ?_⟩, h3⟩
      by_cases g : GoodP ks s
      · exact .inl (h2 g)
      · exact .inr g
theorem refLive_L1 (ks : List Key) (hk : K8 ks) (l2 : List Signed) (h8 : S8 l2) (p : Cred → Bool) (hp : ∀ x, p x = true ↔ ∀ s ∈ l2, GoodP ks s → s.Cred ≠ x) : ∀ (G acc : List Cred), acc.length + G.length ≤ 100000000 → m_ref34_Live_L1 ks l2 G acc = some (acc ++ G.filter p)
  | [], acc, _ => by rw [m_ref34_Live_L1]; simp
  | x :: G, acc, hl => by
    rw [m_ref34_Live_L1]
    obtain ⟨q, e, hq⟩ := refLive_L2 ks hk x l2 true h8
    have : q = p x := by rw [Bool.eq_iff_iff, hq, hp]; simp
    rw [e, this]
    simp only [Option.bind_some]
    simp only [List.length_cons] at hl
    cases h : p x
    · simp only [Bool.false_eq_true, if_false]
      rw [refLive_L1 ks hk l2 h8 p hp G acc (by omega), List.filter_cons_of_neg (by simp [h])]
    · simp only [if_true]
      rw [appB_ok (by simp; omega) (by simp; omega), Option.bind_some, refLive_L1 ks hk l2 h8 p hp G _ (by simp; omega), List.filter_cons_of_pos h]
      simp
structure LiveP (ks : List Key) (l1 l2 : List Signed) (s : List Cred) : Prop where
  srt : s.Pairwise (fun a b => ltC a b = true)
  mem : ∀ c, c ∈ s ↔ (∃ g ∈ l1, CheckP ks g ∧ g.Cred = c) ∧ ¬ ∃ g ∈ l2, GoodP ks g ∧ g.Cred = c
theorem live_ok (ks : List Key) (hk : K8 ks) (l1 l2 : List Signed) (h1 : S8 l1) (h2 : S8 l2) (n1 : l1.length ≤ 10000000) : ∃ s, m_revoke_Live ks l1 l2 = some s ∧ m_ref34_Live ks l1 l2 = some s ∧ (newE [] ks = 0 → LiveP ks l1 l2 s) := by
  unfold m_revoke_Live m_ref34_Live
  rw [keysNew, refNew]
  simp only [Option.bind_some]
  by_cases h0 : newE [] ks = 0
  case neg =>
    simp only [h0, if_false]
    have : (newE [] ks != 0) = true := by simp [h0]
    rw [this]
    exact ⟨[], rfl, rfl, fun h => h.elim⟩
  simp only [h0, if_true]
  rw [if_neg (by simp), if_neg (by simp)]
  obtain ⟨G, e1, e2, hG⟩ := kGood_ok ks hk h0 l1 h1 n1
  have hGl : G.length ≤ 10000000 := by
    have := isSet_length ltOnC hG
    have h3 := List.length_filter_le (checkB ks) l1
    rw [List.length_map] at this; omega
  rw [show ([] : List (Cred × Bool)) = tt [] from rfl, live_L1 ks hk _ l1 l2 [] h2]
  simp only [e1, e2, Option.bind_some]
  rw [delFC_eq, delF_run _ (fun c => hasB beqCred (gone ks l2 []) c) zC G (by omega) (fun c _ => by simp [m_revoke_Live_c1, mgetD_tt])]
  have hp : ∀ x, (!hasB beqCred (gone ks l2 []) x) = true ↔ ∀ s ∈ l2, GoodP ks s → s.Cred ≠ x := fun x => by
    rw [Bool.not_eq_true', ← Bool.not_eq_true, hasB_iff beqCred_iff, mem_gone]
    simp
  rw [refLive_L1 ks hk l2 h2 (fun x => !hasB beqCred (gone ks l2 []) x) hp G [] (by simp; omega)]
  refine ⟨_, rfl, by simp, fun _ => ⟨hG.1.filter _, fun c => ?_⟩⟩
  rw [List.mem_filter, hp, hG.2]
  constructor
  · rintro ⟨⟨g1, g2⟩, g3⟩
    refine ⟨?_, fun ⟨g, q1, q2, q3⟩ => g3 g q1 q2 q3⟩
    obtain ⟨g, q1, q2⟩ := List.mem_map.1 g1
    rw [List.mem_filter, checkB_iff] at q1
    exact ⟨g, q1.1, q1.2, q2⟩
  · rintro ⟨⟨g, q1, q2, q3⟩, g3⟩
    refine ⟨⟨List.mem_map.2 ⟨g, List.mem_filter.2 ⟨q1, (checkB_iff ks g).2 q2⟩, q3⟩, ?_⟩, fun s t1 t2 t3 => g3 ⟨s, t1, t2, t3⟩⟩
    obtain ⟨k, hm, _⟩ := q2
    rw [← q3]; exact hm.rt
theorem same06 (s : Signed) (hs : B8 s.Tag) : m_ref06_Same s s = some true := by
  unfold m_ref06_Same
  rw [if_pos (beqCred_iff.2 rfl), beqT hs hs]; simp
theorem tells34_L1 (ks : List Key) (hk : K8 ks) (l1 l2 : List Signed) (h1 : S8 l1) (h2 : S8 l2) (n1 : l1.length ≤ 10000000) : ∀ l : List Signed, S8 l → m_law34_RevokeTells_L1 ks l1 l2 l = some true
  | [], _ => by
    rw [m_law34_RevokeTells_L1]
    obtain ⟨s, e1, e2, _⟩ := live_ok ks hk l1 l2 h1 h2 n1
    rw [e1, e2]
    simp only [Option.bind_some, sameC]
  | s :: l, h8 => by
    rw [m_law34_RevokeTells_L1]
    obtain ⟨r, e1, e2, hr⟩ := make_eq ks hk s.Cred
    obtain ⟨g1, g2⟩ := good_b ks hk s (h8 s (by simp))
    have hT : B8 r.1.Tag := by
      rcases hr with ⟨_, h, _⟩ | ⟨h, k, hm, h1⟩
      · rw [h]; intro x hx; cases hx
      · rw [h1]; exact tagL8 _ _
    rw [e1, e2]
    simp only [Option.bind_some, same06 _ hT, g1, g2]
    rw [if_neg (by simp)]
    simp only [Option.bind_some, Bool.not_true, Bool.false_eq_true, if_false]
    rw [if_neg (by simp)]
    exact tells34_L1 ks hk l1 l2 h1 h2 n1 l (fun x hx => h8 x (by simp [hx]))
theorem great06_L2 : ∀ (l : List Signed) (x : Int), (∀ s ∈ l, sizeC s.Cred ≤ 1000000000) → ∃ r, m_law06_Great_L2 l x = some r
  | [], x, _ => ⟨x, rfl⟩
  | s :: l, x, h => by
    rw [m_law06_Great_L2]
    obtain ⟨r, e⟩ := great_ok [s.Cred] (by simp) (fun c hc => by rw [List.mem_singleton] at hc; rw [hc]; exact h s (by simp))
    rw [e, Option.bind_some]
    exact great06_L2 l _ (fun s hs => h s (by simp [hs]))
theorem great06_L1 (l : List Signed) (h : ∀ s ∈ l, sizeC s.Cred ≤ 1000000000) : ∀ (ks : List Key) (x : Int), ∃ r, m_law06_Great_L1 l ks x = some r
  | [], x => by
    rw [m_law06_Great_L1]
    obtain ⟨r, e⟩ := great06_L2 l x h
    rw [e]; exact ⟨r, rfl⟩
  | k :: ks, x => by rw [m_law06_Great_L1]; exact great06_L1 l h ks _
theorem great06 (ks : List Key) (l : List Signed) (h : ∀ s ∈ l, sizeC s.Cred ≤ 1000000000) : ∃ r, m_law06_Great ks l = some r := great06_L1 l h ks 0
theorem revokeTells_main (hf : m_law34_first = some true) (ks : List Key) (l1 l2 : List Signed) (hk : K8 ks) (h1 : S8 l1) (h2 : S8 l2) (n1 : l1.length ≤ 10000000) (n2 : l2.length ≤ 10000000) (c1 : ∀ s ∈ l1, sizeC s.Cred ≤ 1000000000) (c2 : ∀ s ∈ l2, sizeC s.Cred ≤ 1000000000) : m_law34_RevokeTells ks l1 l2 = some true := by
  unfold m_law34_RevokeTells
  rw [hf]
  simp only [Option.bind_some, Bool.not_true, Bool.false_eq_true, if_false]
  rw [appB_ok (by simp; omega) (by simp; omega), List.nil_append]
  simp only [Option.bind_some]
  rw [appB_ok (by omega) (by omega)]
  simp only [Option.bind_some]
  obtain ⟨r, e⟩ := great06 ks (l1 ++ l2) (fun s hs => (List.mem_append.1 hs).elim (c1 s) (c2 s))
  rw [e]
  simp only [Option.bind_some]
  split
  · rfl
  rw [appB_ok (by simp; omega) (by simp; omega), List.nil_append]
  simp only [Option.bind_some]
  rw [appB_ok (by omega) (by omega)]
  simp only [Option.bind_some]
  exact tells34_L1 ks hk l1 l2 h1 h2 n1 (l2 ++ l1) (fun s hs => (List.mem_append.1 hs).elim (h2 s) (h1 s))
end Go.Proofs.YtmlncblocfcmiaaGreat
namespace Go.Proofs.YtmlncblocfcmiaaGreat
open Go.RowKit
theorem has_both (b : List Cred) (x : Cred) : m_slices_Contains_Cred b x = some (hasB beqCred b x) := by
  obtain ⟨q, e, h⟩ := cred_Has x b
  unfold m_cred_Has at e
  rw [bindS] at e
  rw [e, show q = hasB beqCred b x from by rw [Bool.eq_iff_iff, h, hasB_iff beqCred_iff]]
theorem rwithout_L1 (b : List Cred) : ∀ (l acc : List Cred), acc.length + l.length ≤ 100000000 → m_ref34_Without_L1 b l acc = some (acc ++ l.filter fun x => !hasB beqCred b x)
  | [], acc, _ => by rw [m_ref34_Without_L1]; simp
  | x :: l, acc, hl => by
    simp only [List.length_cons] at hl
    rw [m_ref34_Without_L1, hasC_eq, Option.bind_some]
    cases h : hasB beqCred b x
    · simp only [Bool.not_false, if_true]
      rw [appB_ok (by simp; omega) (by simp; omega), Option.bind_some, rwithout_L1 b l _ (by simp; omega), List.filter_cons_of_pos (by simp [h])]; simp
    · simp only [Bool.not_true, Bool.false_eq_true, if_false]
      rw [rwithout_L1 b l acc (by omega), List.filter_cons_of_neg (by simp [h])]
theorem without_ok (a b : List Cred) (ha : a.length ≤ 10000000) : ∃ s, m_revoke_without a b = some s ∧ m_ref34_Without a b = some s ∧ s.length ≤ a.length ∧ s.Pairwise (fun x y => ltC x y = true) ∧ ∀ c, c ∈ s ↔ c ∈ a ∧ rightC c = true ∧ c ∉ b := by
  obtain ⟨s, e1, h1⟩ := setC a (by omega)
  obtain ⟨s', e2, h2⟩ := refSetC a (by omega)
  obtain rfl := h2.unique ltOnC h1
  have hl := isSet_length ltOnC h1
  unfold m_revoke_without m_ref34_Without
  rw [e1, e2]
  simp only [Option.bind_some, bindS]
  rw [delFC_eq, delF_run _ (fun c => hasB beqCred b c) zC s' (by omega) (fun c _ => by simp [m_revoke_without_c1, has_both]), rwithout_L1 b s' [] (by simp; omega)]
  refine ⟨_, rfl, by simp, ?_, h1.1.filter _, fun c => ?_⟩
  · have := List.length_filter_le (fun x => !hasB beqCred b x) s'; omega
  · rw [List.mem_filter, h1.2, Bool.not_eq_true', ← Bool.not_eq_true, hasB_iff beqCred_iff]
    exact ⟨fun ⟨⟨p, q⟩, r⟩ => ⟨p, q, r⟩, fun ⟨p, q, r⟩ => ⟨⟨p, q⟩, r⟩⟩
structure FacI (l : List Cred) (F : List Fact) : Prop where
  len : F.length ≤ 900000000
  ref : m_ref08_Of l = some F
  mdl : ∃ m, m_model_Of l = some m ∧ m_model_Model_Facts m.1 m.2.1 m.2.2.1 m.2.2.2.1 m.2.2.2.2.1 m.2.2.2.2.2 = some F ∧ ∀ r w, m_model_Model_In m.1 m.2.1 m.2.2.1 m.2.2.2.1 m.2.2.2.2.1 m.2.2.2.2.2 r w = some (hasB beqFact F ⟨r, w⟩)
  der : ∀ C : List Cred, (∀ c, c ∈ C ↔ c ∈ l ∧ rightC c = true) → IsF (Der C) F
theorem facI (l : List Cred) (hl : l.length ≤ 30000) : ∃ F, FacI l F := by
  obtain ⟨F, h⟩ := fac_ok l hl
  refine ⟨F, h.flen, h.ref, ?_, fun C hC => ?_⟩
  · obtain ⟨C, h1, h2, h3⟩ := h.C
    obtain ⟨C1, T, us, ws, n, e1, m1, hC1, hlen1⟩ := of_ok l (by omega)
    have hcc : ∀ c, c ∈ C1 ↔ c ∈ C := fun c => by rw [h2, hC1]
    have hF : IsF (Der C1) F := ⟨h1.1, fun f => (h1.2 f).trans (Der.congr hcc f).symm⟩
    have hS : SM C1 := by unfold SM; omega
    refine ⟨_, e1, ?_, fun r w => ?_⟩
    · obtain ⟨F1, e3, hF3⟩ := facts_ok hS.small m1 C1 us ws [] n
      rw [← hF3.unique hF]; exact e3
    · obtain ⟨b, e, hb⟩ := min_ok m1 C1 us ws [] n r w
      rw [e, show b = hasB beqFact F ⟨r, w⟩ from by rw [Bool.eq_iff_iff, hb, hasB_iff beqFact_iff, hF.2]]
  · obtain ⟨C', h1, h2, h3⟩ := h.C
    have hcc : ∀ c, c ∈ C' ↔ c ∈ C := fun c => by rw [h2, hC]
    exact ⟨h1.1, fun f => (h1.2 f).trans (Der.congr hcc f)⟩
theorem refInB (F : List Fact) (r : Role) (w : ByteArray) : m_ref08_In F r w = some (hasB beqFact F ⟨r, w⟩) := by
  obtain ⟨b, e, h⟩ := refIn_eq F r w
  rw [e, show b = hasB beqFact F ⟨r, w⟩ from by rw [Bool.eq_iff_iff, h, hasB_iff beqFact_iff]]
theorem rlost_L1 (F1 : List Fact) : ∀ (l acc : List Fact), acc.length + l.length ≤ 1000000000 → m_ref34_Lost_L1 F1 l acc = some (acc ++ l.filter fun x => !hasB beqFact F1 x)
  | [], acc, _ => by rw [m_ref34_Lost_L1]; simp
  | x :: l, acc, hl => by
    simp only [List.length_cons] at hl
    rw [m_ref34_Lost_L1, refInB, Option.bind_some]
    cases h : hasB beqFact F1 x
    · simp only [Bool.not_false, if_true]
      rw [appB_ok (by simp; omega) (by simp; omega), Option.bind_some, rlost_L1 F1 l _ (by simp; omega), List.filter_cons_of_pos (by simp [h])]; simp
    · simp only [Bool.not_true, Bool.false_eq_true, if_false]
      rw [rlost_L1 F1 l acc (by omega), List.filter_cons_of_neg (by simp [h])]
theorem lost34_ok (a b : List Cred) (ha : a.length ≤ 30000) : ∃ s t F1 F0, m_revoke_Lost a b = some s ∧ m_ref34_Lost a b = some s ∧ m_revoke_without a b = some t ∧ FacI t F1 ∧ FacI a F0 ∧ s = F0.filter (fun x => !hasB beqFact F1 x) := by
  obtain ⟨t, w1, w2, wl, _, _⟩ := without_ok a b (by omega)
  obtain ⟨F1, f1⟩ := facI t (by omega)
  obtain ⟨F0, f0⟩ := facI a ha
  obtain ⟨m1, g1, g2, g3⟩ := f1.mdl
  obtain ⟨m0, k1, k2, k3⟩ := f0.mdl
  unfold m_revoke_Lost m_ref34_Lost
  rw [w1, w2]
  simp only [Option.bind_some, f1.ref, f0.ref, g1, k1, k2, bindS]
  have := f0.len
  rw [delFFa_eq, delF_run _ (fun x => hasB beqFact F1 x) zF F0 (by omega) (fun x _ => by unfold m_revoke_Lost_c1; rw [bindS, g3]), rlost_L1 F1 F0 [] (by simp; omega)]
  exact ⟨_, t, F1, F0, rfl, by simp, rfl, f1, f0, rfl⟩
theorem crit_c1 (a : List Cred) (f : Fact) (ha : a.length ≤ 30000) (x : Cred) : ∃ b, m_revoke_Critical_c1 x a f = some b ∧ ((m_ref34_Without a [x]).bind fun r => (m_ref08_Of r).bind fun q => m_ref08_In q f.Role f.Who) = some b ∧ ∃ t, (∀ c, c ∈ t ↔ c ∈ a ∧ rightC c = true ∧ c ≠ x) ∧ (b = true ↔ Der t f) := by
  obtain ⟨t, w1, w2, wl, _, hm⟩ := without_ok a [x] (by omega)
  obtain ⟨F1, f1⟩ := facI t (by omega)
  obtain ⟨m1, g1, g2, g3⟩ := f1.mdl
  unfold m_revoke_Critical_c1
  rw [w1, w2]
  simp only [Option.bind_some, f1.ref, g1, bindS, g3, refInB]
  refine ⟨_, rfl, rfl, t, fun c => by rw [hm]; simp, ?_⟩
  have hI := f1.der t (fun c => ⟨fun h => ⟨h, ((hm c).1 h).2.1⟩, fun h => h.1⟩)
  rw [hasB_iff beqFact_iff, hI.2]
theorem rcrit_L1 (a : List Cred) (f : Fact) (ha : a.length ≤ 30000) (p : Cred → Bool) (hp : ∀ x, m_revoke_Critical_c1 x a f = some (p x)) : ∀ (l acc : List Cred), acc.length + l.length ≤ 100000000 → m_ref34_Critical_L1 a f l acc = some (acc ++ l.filter fun x => !p x)
  | [], acc, _ => by rw [m_ref34_Critical_L1]; simp
  | x :: l, acc, hl => by
    simp only [List.length_cons] at hl
    obtain ⟨b, e1, e2, _⟩ := crit_c1 a f ha x
    rw [hp] at e1; cases e1
    have e3 : m_ref34_Critical_L1 a f (x :: l) acc = ((m_ref34_Without a [x]).bind fun r => (m_ref08_Of r).bind fun q => m_ref08_In q f.Role f.Who).bind fun b => if (!b) = true then (appB 136 acc [x]).bind fun l605 => m_ref34_Critical_L1 a f l l605 else m_ref34_Critical_L1 a f l acc := by
      rw [m_ref34_Critical_L1]
      cases m_ref34_Without a [x] with
      | none => rfl
      | some r =>
        simp only [Option.bind_some]
        cases m_ref08_Of r with
        | none => rfl
        | some q => rfl
    rw [e3, e2, Option.bind_some]
    cases h : p x
    · simp only [Bool.not_false, if_true]
      rw [appB_ok (by simp; omega) (by simp; omega), Option.bind_some, rcrit_L1 a f ha p hp l _ (by simp; omega), List.filter_cons_of_pos (by simp [h])]; simp
    · simp only [Bool.not_true, Bool.false_eq_true, if_false]
      rw [rcrit_L1 a f ha p hp l acc (by omega), List.filter_cons_of_neg (by simp [h])]
theorem crit_ok (a : List Cred) (f : Fact) (ha : a.length ≤ 30000) : ∃ s, m_revoke_Critical a f = some s ∧ m_ref34_Critical a f = some s ∧ s.Pairwise (fun x y => ltC x y = true) ∧ ∀ C : List Cred, (∀ c, c ∈ C ↔ c ∈ a ∧ rightC c = true) → ∀ x, x ∈ s ↔ x ∈ C ∧ Der C f ∧ ∃ t : List Cred, (∀ c, c ∈ t ↔ c ∈ a ∧ rightC c = true ∧ c ≠ x) ∧ ¬ Der t f := by
  obtain ⟨F0, f0⟩ := facI a ha
  obtain ⟨m0, k1, k2, k3⟩ := f0.mdl
  unfold m_revoke_Critical m_ref34_Critical
  simp only [f0.ref, k1, Option.bind_some, k3, refInB, bindS]
  have hd : ∀ C : List Cred, (∀ c, c ∈ C ↔ c ∈ a ∧ rightC c = true) → (hasB beqFact F0 ⟨f.Role, f.Who⟩ = true ↔ Der C f) := fun C hC => by
    rw [hasB_iff beqFact_iff, (f0.der C hC).2]
  cases hb : hasB beqFact F0 ⟨f.Role, f.Who⟩
  · refine ⟨[], rfl, rfl, by simp, fun C hC x => ?_⟩
    have := hd C hC
    rw [hb] at this
    simp only [List.not_mem_nil, false_iff]
    rintro ⟨_, h, _⟩
    exact absurd (this.2 h) (by simp)
  obtain ⟨s, e1, h1⟩ := setC a (by omega)
  obtain ⟨s', e2, h2⟩ := refSetC a (by omega)
  obtain rfl := h2.unique ltOnC h1
  have hl := isSet_length ltOnC h1
  have hex : ∃ p : Cred → Bool, ∀ x, m_revoke_Critical_c1 x a f = some (p x) := ⟨fun x => (m_revoke_Critical_c1 x a f).getD false, fun x => by
    obtain ⟨b, e, _⟩ := crit_c1 a f ha x
    show _ = some ((m_revoke_Critical_c1 x a f).getD false)
    rw [e]; rfl⟩
  obtain ⟨p, hp⟩ := hex
  simp only [Bool.not_true, Bool.false_eq_true, if_false, e1, e2, Option.bind_some]
  rw [delFC_eq, delF_run _ p zC s' (by omega) (fun x _ => hp x), rcrit_L1 a f ha p hp s' [] (by simp; omega)]
  refine ⟨_, rfl, by simp, h1.1.filter _, fun C hC x => ?_⟩
  obtain ⟨b, c1, _, t, ht, hbt⟩ := crit_c1 a f ha x
  rw [hp] at c1; cases c1
  rw [List.mem_filter, h1.2, hC]
  have hd1 : Der C f := (hd C hC).1 hb
  constructor
  · rintro ⟨g1, g2⟩
    exact ⟨g1, hd1, t, ht, fun h => by rw [hbt.2 h] at g2; cases g2⟩
  · rintro ⟨g1, _, t', ht', hn⟩
    refine ⟨g1, ?_⟩
    rw [Bool.not_eq_true', ← Bool.not_eq_true, hbt, Der.congr (C' := t') (fun c => by rw [ht, ht'])]
    exact hn
end Go.Proofs.YtmlncblocfcmiaaGreat
namespace Go.Proofs.YtmlncblocfcmiaaGreat
open Go.RowKit
def ksM : List Key := [⟨⟨#[120]⟩, [107]⟩]
def fM34 : Fact := ⟨kM.Head, kM.Who⟩
theorem ksM0 : newE [] ksM = 0 := by decide +kernel
theorem ksM8 : K8 ksM := fun k hk => by
  simp only [ksM, List.mem_singleton] at hk
  subst hk
  intro x hx
  simp only [List.mem_singleton] at hx
  omega
theorem mkM : Mk ksM kM [107] := ⟨ksM0, kMr, by decide +kernel⟩
theorem tagNe : tagL [107] (credI kM) ≠ tagL [107] (bodyR kM) := by decide +kernel
def sgM : Signed := ⟨kM, tagL [107] (credI kM)⟩
def mdM : Signed := ⟨kM, tagL [107] (bodyR kM)⟩
theorem first34 : m_law34_first = some true := by
  have hC : ∀ (t : List Cred), (∀ c, c ∈ t ↔ c ∈ [kM] ∧ rightC c = true) → ∀ c, c ∈ t ↔ c = kM := fun t h c => by
    rw [h]; constructor
    · intro h; simpa using h.1
    · rintro rfl; exact ⟨by simp, kMr⟩
  have gM : goodB ksM mdM = true := (goodB_iff _ _).2 ⟨_, mkM, rfl⟩
  have gS : goodB ksM sgM = false := by
    rw [← Bool.not_eq_true, goodB_iff]
    rintro ⟨k, hk, e⟩
    have := Mk.unique mkM hk
    subst this
    exact tagNe e
  have g1 := (good_b ksM ksM8 mdM (tagL8 _ _)).1
  have g2 := (good_b ksM ksM8 sgM (tagL8 _ _)).1
  rw [gM] at g1; rw [gS] at g2
  have s8 : S8 [sgM] := fun s hs => by rw [List.mem_singleton] at hs; rw [hs]; exact tagL8 _ _
  have m8 : S8 [mdM] := fun s hs => by rw [List.mem_singleton] at hs; rw [hs]; exact tagL8 _ _
  have n8 : S8 [] := fun s hs => by cases hs
  have cM : CheckP ksM sgM := ⟨_, mkM, rfl⟩
  obtain ⟨l1, v1, _, L1⟩ := live_ok ksM ksM8 [sgM] [] s8 n8 (by simp)
  obtain ⟨l2, v2, _, L2⟩ := live_ok ksM ksM8 [sgM] [mdM] s8 m8 (by simp)
  have L1 := L1 ksM0
  have L2 := L2 ksM0
  have e1 : l1 = [kM] := setEq (l := [kM]) L1.srt (fun x => by
    rw [L1.mem]
    constructor
    · rintro ⟨⟨g, h1, _, h3⟩, _⟩
      rw [List.mem_singleton] at h1
      subst h1
      subst h3
      exact ⟨by simp [sgM], kMr⟩
    · rintro ⟨h1, _⟩
      rw [List.mem_singleton] at h1
      subst h1
      exact ⟨⟨sgM, by simp, cM, rfl⟩, by simp⟩) ⟨by simp, fun x => by
    constructor
    · intro h; simp at h; subst h; exact ⟨by simp, kMr⟩
    · intro h; exact h.1⟩
  have e2 : l2 = [] := List.eq_nil_iff_forall_not_mem.2 (fun x hx => by
    obtain ⟨⟨g, h1, _, h3⟩, h4⟩ := (L2.mem x).1 hx
    rw [List.mem_singleton] at h1
    subst h1
    exact h4 ⟨mdM, by simp, (goodB_iff _ _).1 gM, h3⟩)
  subst e1; subst e2
  obtain ⟨lo, t, F1, F0, o1, _, ow, f1, f0, hlo⟩ := lost34_ok [kM] [kM] (by simp)
  obtain ⟨t', w1, _, _, _, wm⟩ := without_ok [kM] [kM] (by simp)
  rw [ow] at w1; cases w1
  have ht : t = [] := List.eq_nil_iff_forall_not_mem.2 (fun x hx => by have := (wm x).1 hx; exact this.2.2 this.1)
  have hF1 : F1 = [] := List.eq_nil_iff_forall_not_mem.2 (fun f hf => by
    have hI := f1.der [] (fun c => by simp [ht])
    exact derNo (fun c => by simp) f ((hI.2 f).1 hf))
  have hF0 : F0 = [fM34] := (f0.der [kM] (fun c => by simp only [List.mem_singleton]; exact ⟨fun h => ⟨h, by rw [h]; exact kMr⟩, fun h => h.1⟩)).unique ⟨by simp, fun f => by rw [derM (fun c => by simp) f]; simp [fM34]⟩
  have elo : lo = [fM34] := by rw [hlo, hF0, hF1]; rfl
  subst elo
  obtain ⟨cr, c1, _, cp, cm⟩ := crit_ok [kM] fM34 (by simp)
  have cm := cm [kM] (fun c => by simp only [List.mem_singleton]; exact ⟨fun h => ⟨h, by rw [h]; exact kMr⟩, fun h => h.1⟩)
  have ecr : cr = [kM] := setEq (l := [kM]) cp (fun x => by
    rw [cm]
    constructor
    · rintro ⟨h1, _⟩; exact ⟨h1, by rw [List.mem_singleton.1 h1]; exact kMr⟩
    · rintro ⟨h1, _⟩
      refine ⟨h1, (derM (fun c => by simp) _).2 rfl, [], fun c => ?_, derNo (fun c => by simp) _⟩
      rw [List.mem_singleton] at h1
      subst h1
      simp only [List.not_mem_nil, List.mem_singleton, false_iff]
      rintro ⟨h, _, h2⟩; exact h2 h) ⟨by simp, fun x => by
    constructor
    · intro h; simp at h; subst h; exact ⟨by simp, kMr⟩
    · intro h; exact h.1⟩
  subst ecr
  obtain ⟨r, a1, a2⟩ := sign_eq ksM ksM0 kM
  have hr : r = (sgM, 0) := by
    rcases a2 with ⟨_, h⟩ | ⟨h, k, hk, e⟩
    · exact absurd mkM (h _)
    · have := Mk.unique mkM hk
      subst this
      exact Prod.ext e h
  subst hr
  obtain ⟨q, b1, _, b2⟩ := make_eq ksM ksM8 kM
  have hq : q = (mdM, 0) := by
    rcases b2 with ⟨_, _, h⟩ | ⟨h, k, hk, e⟩
    · exact absurd mkM (h _)
    · have := Mk.unique mkM hk
      subst this
      exact Prod.ext e h
  subst hq
  have hn : m_keys_New ksM = some (some ⟨tabK ksM⟩, 0) := by rw [keysNew, if_pos ksM0]
  unfold m_law34_first
  show ((m_keys_New ksM).bind fun r22 => (m_keys_Registry_Sign r22.1 kM).bind fun r34 => (m_revoke_Make ksM kM).bind _) = _
  simp only [hn, Option.bind_some]
  rw [a1]
  simp only [Option.bind_some]
  rw [b1]
  simp only [Option.bind_some]
  have z0 : ((0 : Int) == 0) = true := rfl
  simp only [z0, if_true, Option.bind_some]
  rw [show m_revoke_Good [(⟨(⟨#[120]⟩ : ByteArray), [107]⟩ : Key)] mdM = some true from g1]
  simp only [if_true, Option.bind_some]
  rw [show m_revoke_Good [(⟨(⟨#[120]⟩ : ByteArray), [107]⟩ : Key)] sgM = some false from g2]
  simp only [Bool.not_false, if_true, Option.bind_some]
  rw [show m_revoke_Live [(⟨(⟨#[120]⟩ : ByteArray), [107]⟩ : Key)] [sgM] [] = some [kM] from v1]
  simp only [if_true, Option.bind_some, show ((([kM] : List Cred).length : Int) == 1) = true from rfl]
  rw [show m_revoke_Live [(⟨(⟨#[120]⟩ : ByteArray), [107]⟩ : Key)] [sgM] [mdM] = some [] from v2]
  simp only [if_true, Option.bind_some, show ((([] : List Cred).length : Int) == 0) = true from rfl]
  rw [show m_revoke_Lost [(⟨1, (⟨(⟨#[120]⟩ : ByteArray), (⟨#[121]⟩ : ByteArray)⟩ : Role), (⟨#[100]⟩ : ByteArray), (⟨zS, zS⟩ : Role), (⟨zS, zS⟩ : Role), zS⟩ : Cred)] [(⟨1, (⟨(⟨#[120]⟩ : ByteArray), (⟨#[121]⟩ : ByteArray)⟩ : Role), (⟨#[100]⟩ : ByteArray), (⟨zS, zS⟩ : Role), (⟨zS, zS⟩ : Role), zS⟩ : Cred)] = some [fM34] from o1]
  simp only [if_true, Option.bind_some, show ((([fM34] : List Fact).length : Int) == 1) = true from rfl]
  rw [show m_revoke_Critical [(⟨1, (⟨(⟨#[120]⟩ : ByteArray), (⟨#[121]⟩ : ByteArray)⟩ : Role), (⟨#[100]⟩ : ByteArray), (⟨zS, zS⟩ : Role), (⟨zS, zS⟩ : Role), zS⟩ : Cred)] ((⟨(⟨(⟨#[120]⟩ : ByteArray), (⟨#[121]⟩ : ByteArray)⟩ : Role), (⟨#[100]⟩ : ByteArray)⟩ : Fact)) = some [kM] from c1]
  rfl
end Go.Proofs.YtmlncblocfcmiaaGreat
namespace Go.Proofs.YtmlncblocfcmiaaGreat.Lf
open Go.ChangeShapes Go.WideShapes Go.ChangeAt Go.RowKit
open Go.Proofs.YtmlncblocfcmiaaGreat (Rows.uptoBulk Rows.uptoBulkAll Rows.uptoSmall)
theorem one_le {H : Type} (d : DataW H) : 1 ≤ Rows.uptoBulk d := by
  cases d with
  | lit l => cases l <;> simp [Rows.uptoBulk]
  | nil => simp [Rows.uptoBulk]
  | ptr d => simp [Rows.uptoBulk]
  | slice elems spare => simp [Rows.uptoBulk]
  | agg parts => simp [Rows.uptoBulk]
  | iface t d => simp [Rows.uptoBulk]
  | map entries => simp [Rows.uptoBulk]
  | held h => simp [Rows.uptoBulk]
def Dec {α : Type} (P : Program) (t : TypeId) (enc : α → List Value) (sz : α → Nat) : Prop :=
  ∀ (H : Type) (eh : TypeId × Value → H) (W : World) (base : Nat) (sp : Nat → Bool) (hd : Bool) (fuel : Nat) (cs : List Value) (x : DataW H × List MemPlace),
    DataW.trod eh P W base sp hd fuel t cs = some x → ∃ a : α, cs = enc a ∧ sz a ≤ Rows.uptoBulk x.1
theorem dec_string {P : Program} {t : TypeId} (ht : P.underlying t = some .string) : Dec P t (fun s : ByteArray => [.string s]) (fun s => s.size) := by
  intro H eh W base sp hd fuel cs x h
  obtain ⟨s, rfl, rfl, _⟩ := DataW.trod_string ht h
  refine ⟨s, rfl, ?_⟩
  have e : s.data.toList.length = s.size := by rw [Array.length_toList]; rfl
  simp [Rows.uptoBulk, e]
theorem dec_int {P : Program} {t : TypeId} {k : IntKind} (ht : P.underlying t = some (.int k)) : Dec P t (fun n : Int => [.int k n]) (fun _ => 0) := by
  intro H eh W base sp hd fuel cs x h
  obtain ⟨n, rfl, rfl, _⟩ := DataW.trod_int ht h
  exact ⟨n, rfl, Nat.zero_le _⟩
theorem list_of {α : Type} {n : Nat} {p : Nat → α → Prop} (h : ∀ i, i < n → ∃ x, p i x) : ∃ l : List α, l.length = n ∧ ∀ i x, l[i]? = some x → p i x := by
  induction n with
  | zero => exact ⟨[], rfl, by simp⟩
  | succ n ih =>
    obtain ⟨l, h1, h2⟩ := ih fun i hi => h i (by omega)
    obtain ⟨x, hx⟩ := h n (by omega)
    refine ⟨l ++ [x], by simp [h1], fun i y hy => ?_⟩
    by_cases hi : i < l.length
    · rw [List.getElem?_append_left hi] at hy
      exact h2 i y hy
    · rw [List.getElem?_append_right (by omega)] at hy
      have : i - l.length = 0 := by
        cases hd : i - l.length with
        | zero => rfl
        | succ m => rw [hd] at hy; simp at hy
      rw [this] at hy
      have e : i = n := by omega
      simp at hy
      subst hy; rw [e]; exact hx
theorem cell_get {W : World} {a : Addr} {v : Value} (h : W.cell? a = some v) : ∃ cs T fr, W.heap[a.block]? = some (.cells cs T fr) ∧ a.spot = none ∧ cs[a.off]? = some v := by
  unfold World.cell? at h
  split at h
  · rename_i c T fr hb
    by_cases hs : a.spot.isSome
    · simp [hs] at h
    · simp only [hs] at h
      exact ⟨c, T, fr, hb, by simpa using hs, by simpa using h⟩
  · cases h
theorem Ex.below {dd : Bool} {W W' : World} (h : Ex dd W W') : Below W.heap.size W W' := ⟨h.os, h.tape, h.output, h.size, h.old⟩
theorem trodAll_stays {H : Type} {eh : TypeId × Value → H} {P : Program} (hl : laidOutB P = true) {W W' : World} {sp' : Nat → Bool} :
    ∀ {ts : List TypeId} {vs : List Value} {ds : List (DataW H)} {ps : List MemPlace}, (∀ t ∈ ts, P.readableRec t = true ∧ t < P.types.size) →
      DataW.TrodAll eh P W 0 (fun _ => true) true ts vs ds ps → (∀ p ∈ ps, W.sameAt W' p) → (∀ p ∈ ps, sp' p.block = true) → DataW.TrodAll eh P W' 0 sp' true ts vs ds ps
  | [], _, _, _, _, h, _, _ => by
    obtain ⟨rfl, rfl, rfl⟩ := trodAll_nil h
    exact trodAll_mk0
  | t :: ts, _, _, _, hr, h, h1, h2 => by
    obtain ⟨v, vs, d, ds, p, q, rfl, rfl, rfl, h3, h4⟩ := trodAll_cons h
    exact trodAll_cons_mk (WideElems.Trod_stays hl (hr t (by simp)).1 (hr t (by simp)).2 h3 (fun x hx => h1 x (by simp [hx])) (fun x hx => h2 x (by simp [hx])))
      (trodAll_stays hl (fun u hu => hr u (by simp [hu])) h4 (fun x hx => h1 x (by simp [hx])) (fun x hx => h2 x (by simp [hx])))
theorem post_of_ex {H : Type} {enc : TypeId × Value → H} {P : Program} (hl : laidOutB P = true) {f : Func} {s : ChangeSpec} {apart fresh handsOn again : Bool} {W W' : World} {args : Array Value} {v : Value} {ds gs : List (DataW H)} {before : List MemPlace}
    (hr : ∀ t ∈ f.params.toList, P.readableRec t = true ∧ t < P.types.size) (hsv : s.vars = [])
    (hW : DataW.Whole enc P f.params.toList s.vars apart W args.toList ds gs before)
    {dd : Bool} (hx : Ex dd W W')
    (hres : ∀ (b : Nat) (sp : Nat → Bool) (hd : Bool), DataW.TrodAll enc P W' b sp hd f.resultTypes.toList (v.resultList f.resultTypes.size) (s.fn H (ds ++ gs)).results [])
    (hargs : (s.fn H (ds ++ gs)).args = ds) (hvars : (s.fn H (ds ++ gs)).vars = [])
    (hok : ∀ (j : Nat) (t : TypeId) (r : Value), f.resultTypes[j]? = some t → (v.resultList f.resultTypes.size)[j]? = some r → Value.okWide P W' .any 0 t r) :
    s.post enc P f apart fresh handsOn again W args v W' := by
  have hlt := hW.lt
  have hold : ∀ p ∈ before, (fun b => decide (b < W.heap.size)) p.block = true := fun p hp => by simpa using hlt p hp
  have hb := Ex.below hx
  have hW' := hW
  obtain ⟨p, q, hA, hV, hpq, hz, hn⟩ := hW
  rw [hsv] at hV
  obtain ⟨rfl, rfl⟩ := trodVars_none hV
  rw [List.append_nil] at hpq
  subst hpq
  have hst : ∀ sp : Nat → Bool, (∀ p ∈ before, sp p.block = true) → DataW.TrodAll enc P W' 0 sp true f.params.toList args.toList (s.fn H (ds ++ [])).args before := fun sp hsp => by
    rw [hargs]
    exact trodAll_stays hl hr hA (fun x hx => hb.same (hlt x hx)) hsp
  have hvs : ∀ sp : Nat → Bool, DataW.TrodVars enc P W' sp s.vars (s.fn H (ds ++ [])).vars [] := fun sp => by
    rw [hvars, hsv]; rfl
  refine ⟨ds, [], before, [], before, [], hW', hres _ _ _, hst _ hold, hvs _, World.keptBut_mono (fun p hp => ⟨hp, ?_⟩) (hb.frame (· ∈ before)), fun _ => ?_⟩
  · exact Or.inr (Or.inl hp)
  · refine ⟨hok, _, _, ([] ++ before) ++ [], ⟨[] ++ before, [], trodAll_append (hst _ (fun _ _ => rfl)) (hres _ _ _), hvs _, rfl, ?_, ?_⟩, ?_⟩
    · intro b off hp
      have hp' : MemPlace.cell b off ∈ before := by simpa using hp
      rw [World.frozen?_of_block (w := W) (hb.block b (hlt _ hp'))]
      exact hz b off hp'
    · intro ha
      simpa using hn ha
    · intro p hp _
      simpa using hp
end Go.Proofs.YtmlncblocfcmiaaGreat.Lf
namespace Go.Proofs.YtmlncblocfcmiaaGreat.Lf
open Go.ChangeShapes Go.WideShapes Go.ChangeAt Go.RowKit
open Go.Proofs.YtmlncblocfcmiaaGreat (Rows.uptoBulk Rows.uptoBulkAll Rows.uptoSmall)
def DecR {α : Type} (P : Program) (t : TypeId) (R : Rep α) (sz : α → Nat) : Prop :=
  ∀ (H : Type) (eh : TypeId × Value → H) (W : World) (base : Nat) (sp : Nat → Bool) (hd : Bool) (fuel : Nat) (cs : List Value) (x : DataW H × List MemPlace),
    DataW.trod eh P W base sp hd fuel t cs = some x → ∃ a : α, R (hp W) cs a ∧ sz a ≤ Rows.uptoBulk x.1
end Go.Proofs.YtmlncblocfcmiaaGreat.Lf
namespace Go.Proofs.YtmlncblocfcmiaaGreat.Lf
open Go.ChangeShapes Go.WideShapes Go.ChangeAt Go.RowKit
open Go.Proofs.YtmlncblocfcmiaaGreat (Rows.uptoBulk Rows.uptoBulkAll Rows.uptoSmall)
theorem bulkAll_sum {H : Type} : ∀ l : List (DataW H), Rows.uptoBulkAll l = (l.map Rows.uptoBulk).sum
  | [] => by simp [Rows.uptoBulkAll]
  | d :: l => by simp [Rows.uptoBulkAll, bulkAll_sum l]
theorem sum_le {α : Type} (g : α → Nat) : ∀ (n : Nat) (f : Nat → Nat) {l : List α}, l.length = n → (∀ i x, l[i]? = some x → g x ≤ f i) → (l.map g).sum ≤ ((List.range n).map f).sum
  | 0, f, l, hl, h => by
    obtain rfl := List.length_eq_zero_iff.1 hl
    simp
  | n + 1, f, [], hl, h => by cases hl
  | n + 1, f, a :: l, hl, h => by
    rw [List.range_succ_eq_map, List.map_cons, List.map_cons, List.sum_cons, List.sum_cons, List.map_map]
    have h1 := h 0 a rfl
    have h2 := sum_le g n (f ∘ Nat.succ) (l := l) (by simpa using hl) (fun i x hx => h (i + 1) x (by simpa using hx))
    omega
def szS {α : Type} (sz : α → Nat) (l : List α) : Nat := (l.map fun a => max 1 (sz a)).sum
theorem len_szS {α : Type} (sz : α → Nat) : ∀ l : List α, l.length ≤ szS sz l
  | [] => Nat.le_refl _
  | a :: l => by have := len_szS sz l; simp only [szS, List.map_cons, List.sum_cons, List.length_cons] at this ⊢; omega
theorem le_szS {α : Type} {sz : α → Nat} : ∀ {l : List α} {a : α}, a ∈ l → sz a ≤ szS sz l
  | b :: l, a, h => by
    simp only [szS, List.map_cons, List.sum_cons]
    rcases List.mem_cons.1 h with rfl | h
    · omega
    · have := le_szS (sz := sz) h; simp only [szS] at this; omega
theorem decR_sliceS {α : Type} {P : Program} {t e : TypeId} {k : Nat} {R : Rep α} {sz : α → Nat} (hk : P.cellsOf e = k) (hk0 : 0 < k) (hd : DecR P e R sz) (ht : P.underlying t = some (.slice e)) {H : Type} {eh : TypeId × Value → H} {W : World} {base : Nat} {sp : Nat → Bool} {held : Bool} {fuel : Nat} {cs : List Value} {x : DataW H × List MemPlace}
    (hf : DataW.trod eh P W base sp held fuel t cs = some x) :
    ∃ v l, cs = [v] ∧ Sl R k (hp W) v l ∧ szS sz l ≤ Rows.uptoBulk x.1 := by
  rcases Go.Deep.open_slice ht hf with ⟨rfl, rfl⟩ | ⟨a, ln, cp, m, n, D, Q, rfl, hb, hl, hm, hmm, rfl, hel⟩
  · exact ⟨_, [], rfl, ⟨none, 0, rfl, Nat.le_refl _, Nat.zero_le _, fun h => absurd h (Nat.lt_irrefl _)⟩, Nat.zero_le _⟩
  · have hlm : ln ≤ m := by rw [hmm]; split <;> omega
    have hB : ((List.range ln).map fun i => Rows.uptoBulk (D i)).sum ≤ Rows.uptoBulk (DataW.slice ((List.range ln).map D) ((List.range (m - ln)).map fun j => D (ln + j))) := by
      simp only [Rows.uptoBulk]
      rw [bulkAll_sum, List.map_map]
      have e : ((List.range ln).map fun i => Rows.uptoBulk (D i)) = (List.range ln).map (Rows.uptoBulk ∘ D) := rfl
      rw [e]
      omega
    simp only
    generalize Rows.uptoBulk (DataW.slice ((List.range ln).map D) ((List.range (m - ln)).map fun j => D (ln + j))) = B at hB
    obtain ⟨l, hl1, hl2⟩ := list_of (α := α) (n := ln) (p := fun i x => ∃ cs', W.cells? base (a.add (i * k)) k = some cs' ∧ R (hp W) cs' x ∧ sz x ≤ Rows.uptoBulk (D i)) fun i hi => by
      obtain ⟨cs', h1, h2⟩ := hel i (by omega)
      obtain ⟨x, hR, h3⟩ := hd _ _ _ _ _ _ _ _ _ h2
      rw [hk] at h1
      exact ⟨x, cs', h1, hR, h3⟩
    subst hl1
    refine ⟨_, l, rfl, ⟨some a, cp, rfl, hl, hm, fun h0 => ?_⟩, ?_⟩
    · have hget : ∀ i x, l[i]? = some x → ∃ cs', R (hp W) cs' x ∧ cs'.length = k ∧ ∀ j, j < k → W.cell? ((a.add (i * k)).add j) = cs'[j]? := fun i x hx =>
        let ⟨cs', h1, h2, _⟩ := hl2 i x hx
        let ⟨_, h3, h4⟩ := World.cells?_some h1
        ⟨cs', h2, h3, h4⟩
      obtain ⟨cs0, _, h4, h5⟩ := hget 0 l[0] (by simp [h0])
      have h6 := h5 0 hk0
      rw [Nat.zero_mul, List.getElem?_eq_getElem (by omega)] at h6
      have e0 : (a.add 0).add 0 = a := rfl
      rw [e0] at h6
      obtain ⟨cs, T, fr, h7, h8, _⟩ := cell_get h6
      obtain ⟨ab, ao, asp⟩ := a
      simp only at h7 h8
      subst h8
      refine ⟨ab, ao, cs, T, fr, rfl, h7, fun i x hx => ?_⟩
      obtain ⟨cs', gR, g1, g2⟩ := hget i x hx
      refine ⟨cs', g1, gR, fun j y hy => ?_⟩
      have hj : j < k := by
        rw [← g1]
        exact (List.getElem?_eq_some_iff.1 hy).1
      have h9 := g2 j hj
      rw [Go.Deep.add_add, hy] at h9
      obtain ⟨cs'', T', fr', h10, h11, h12⟩ := cell_get h9
      have hbk : (Addr.add ⟨ab, ao, none⟩ (i * k + j)).block = ab ∧ (Addr.add ⟨ab, ao, none⟩ (i * k + j)).off = ao + (i * k + j) := by
        unfold Addr.add
        split
        · rename_i hz
          rw [hz]; exact ⟨rfl, rfl⟩
        · exact ⟨rfl, rfl⟩
      rw [hbk.1, h7] at h10
      cases h10
      rw [hbk.2, ← Nat.add_assoc] at h12
      exact h12
    · refine Nat.le_trans (sum_le _ _ _ rfl fun i x hx => ?_) hB
      exact Nat.max_le.2 ⟨one_le _, (hl2 i x hx).elim fun _ h => h.2.2⟩
end Go.Proofs.YtmlncblocfcmiaaGreat.Lf
namespace Go.Proofs.YtmlncblocfcmiaaGreat.Lf
open Go.ChangeShapes Go.WideShapes Go.ChangeAt Go.RowKit
open Go.Proofs.YtmlncblocfcmiaaGreat (Rows.uptoBulk Rows.uptoBulkAll Rows.uptoSmall)
def OkR {α : Type} (R : Rep α) (Q : α → Prop) : Rep α := fun μ ys x => R μ ys x ∧ Q x
theorem Sl.all {α : Type} {R : Rep α} {Q : α → Prop} {k : Nat} {μ : Mem} {v : Value} {l : List α} (h : Sl (OkR R Q) k μ v l) : Sl R k μ v l ∧ ∀ x ∈ l, Q x := by
  obtain ⟨A, c, rfl, h1, h2, h3⟩ := h
  cases l with
  | nil => exact ⟨⟨A, c, rfl, h1, h2, fun h => absurd h (by simp)⟩, by simp⟩
  | cons a l =>
    obtain ⟨b, o, cs, T, fr, e, h4, h5⟩ := h3 (by simp)
    refine ⟨⟨A, c, rfl, h1, h2, fun _ => ⟨b, o, cs, T, fr, e, h4, fun i x hx => ?_⟩⟩, fun x hx => ?_⟩
    · obtain ⟨ys, h6, h7, h8⟩ := h5 i x hx
      exact ⟨ys, h6, h7.1, h8⟩
    · obtain ⟨i, hi⟩ := List.mem_iff_getElem?.1 hx
      obtain ⟨ys, h6, h7, h8⟩ := h5 i x hi
      exact h7.2
theorem decR_u8 {P : Program} {t : TypeId} (ht : P.underlying t = some (.int .u8)) : DecR P t (OkR (Pl (encIk .u8)) (fun x => 0 ≤ x ∧ x < 256)) (fun _ => 0) := by
  intro H eh W base sp hd fuel cs x h
  obtain ⟨n, rfl, rfl, hw⟩ := DataW.trod_int ht h
  refine ⟨n, ⟨rfl, ?_⟩, Nat.zero_le _⟩
  simp [Lit.wf, IntKind.min, IntKind.max, IntKind.bits, IntKind.signed] at hw
  omega
theorem slD_of_trod {α H : Type} {eh : TypeId × Value → H} {P : Program} {t e : TypeId} {k : Nat} {R : Rep α} {Q : α → Prop} {sz : α → Nat} (hk : P.cellsOf e = k) (hk0 : 0 < k) (hd : DecR P e (OkR R Q) sz)
    (ht : P.underlying t = some (.slice e)) {W : World} {base b0 : Nat} {r : Reach} {sp : Nat → Bool} {held : Bool} {v : Value} {d : DataW H} {ps : List MemPlace}
    (hval : Value.okWide P W r b0 t v) (h : DataW.Trod eh P W base sp held t v d ps) :
    ∃ l : List α, Sl R k (hp W) v l ∧ szS sz l ≤ Rows.uptoBulk d ∧ ∀ x ∈ l, Q x := by
  obtain ⟨A, ln, cp, rfl⟩ := okWide_slice ht hval
  obtain ⟨fuel, hf⟩ := h
  obtain ⟨u, l, h1, h2, h3⟩ := decR_sliceS hk hk0 hd ht hf
  have hc : (Value.slice A ln cp).cells.toList = [Value.slice A ln cp] := rfl
  rw [hc] at h1
  cases h1
  exact ⟨l, (Sl.all h2).1, h3, (Sl.all h2).2⟩
end Go.Proofs.YtmlncblocfcmiaaGreat.Lf
namespace Go.Proofs.YtmlncblocfcmiaaGreat
set_option maxRecDepth 10000
open Go.ChangeShapes Go.WideShapes Go.ChangeAt Go.RowKit
open Go.Proofs.YtmlncblocfcmiaaGreat Go.Proofs.YtmlncblocfcmiaaGreat.Lf
theorem cells196 : Tryz.prog.cellsOf 196 = 2 := by kernel_rfl
theorem len2 {α : Type} {l : List α} (h : l.length = 2) : ∃ a0 a1, l = [a0, a1] := by
  match l, h with
  | [a0, a1], _ => exact ⟨a0, a1, rfl⟩
theorem dec9 : Dec Tryz.prog 9 (fun s : ByteArray => [.string s]) (fun s => s.size) := dec_string Tryz.underlying9
theorem cells9 : Tryz.prog.cellsOf 9 = 1 := by kernel_rfl
theorem cells5 : Tryz.prog.cellsOf 5 = 1 := by kernel_rfl
theorem decu5 : DecR Tryz.prog 5 (OkR (Pl (encIk .u8)) (fun x => 0 ≤ x ∧ x < 256)) (fun _ => 0) := decR_u8 Tryz.underlying5
theorem cells54 : Tryz.prog.cellsOf 54 = 1 := by kernel_rfl
def szKey (x : Key) : Nat := x.Who.size + szS (fun _ : Int => 0) x.Key
def okKey (x : Key) : Prop := (∀ y ∈ x.Key, 0 ≤ y ∧ y < 256)
theorem decd196 : DecR Tryz.prog 196 (OkR relKey okKey) szKey := by
  intro H eh W base sp hd fuel cs x h
  obtain ⟨xs, n, _, rfl, hl, hlen, hf⟩ := DataW.trod_struct Tryz.underlying196 h
  obtain ⟨y0, y1, rfl⟩ := len2 hlen
  obtain ⟨c0, c1, rfl⟩ := len2 (hl.trans cells196)
  have h0 : DataW.trod eh Tryz.prog W base sp hd n 9 (([c0, c1].drop 0).take (Tryz.prog.cellsOf 9)) = some y0 := hf 0 _ rfl
  have h1 : DataW.trod eh Tryz.prog W base sp hd n 54 (([c0, c1].drop 1).take (Tryz.prog.cellsOf 54)) = some y1 := hf 1 _ rfl
  simp only [cells54, cells9, List.drop, List.take] at h0 h1
  obtain ⟨s0, e0, b0⟩ := dec9 _ _ _ _ _ _ _ _ _ h0
  obtain ⟨v1, s1, e1, q1, b1⟩ := decR_sliceS cells5 (by decide) decu5 Tryz.underlying54 h1
  simp only [List.cons.injEq, and_true] at e0 e1
  obtain rfl := e0
  obtain rfl := e1
  obtain ⟨q1, g1⟩ := Lf.Sl.all q1
  refine ⟨⟨s0, s1⟩, ⟨relKey.mk ⟨_, rfl, q1⟩, g1⟩, ?_⟩
  simp only [List.map, Rows.uptoBulk, Rows.uptoBulkAll, szKey] at b0 b1 ⊢
  omega
theorem cells56 : Tryz.prog.cellsOf 56 = 10 := by kernel_rfl
theorem len10 {α : Type} {l : List α} (h : l.length = 10) : ∃ a0 a1 a2 a3 a4 a5 a6 a7 a8 a9, l = [a0, a1, a2, a3, a4, a5, a6, a7, a8, a9] := by
  match l, h with
  | [a0, a1, a2, a3, a4, a5, a6, a7, a8, a9], _ => exact ⟨a0, a1, a2, a3, a4, a5, a6, a7, a8, a9, rfl⟩
theorem dec3 : Dec Tryz.prog 3 (fun n : Int => [.int .i64 n]) (fun _ => 0) := dec_int Tryz.underlying3
theorem cells3 : Tryz.prog.cellsOf 3 = 1 := by kernel_rfl
theorem cells28 : Tryz.prog.cellsOf 28 = 2 := by kernel_rfl
def szRole (x : Role) : Nat := x.Owner.size + x.Word.size
theorem dec28 : Dec Tryz.prog 28 encRole szRole := by
  intro H eh W base sp hd fuel cs x h
  obtain ⟨xs, n, _, rfl, hl, hlen, hf⟩ := DataW.trod_struct Tryz.underlying28 h
  obtain ⟨y0, y1, rfl⟩ := len2 hlen
  obtain ⟨c0, c1, rfl⟩ := len2 (hl.trans cells28)
  have h0 : DataW.trod eh Tryz.prog W base sp hd n 9 (([c0, c1].drop 0).take (Tryz.prog.cellsOf 9)) = some y0 := hf 0 _ rfl
  have h1 : DataW.trod eh Tryz.prog W base sp hd n 9 (([c0, c1].drop 1).take (Tryz.prog.cellsOf 9)) = some y1 := hf 1 _ rfl
  simp only [cells9, List.drop, List.take] at h0 h1
  obtain ⟨s0, e0, b0⟩ := dec9 _ _ _ _ _ _ _ _ _ h0
  obtain ⟨s1, e1, b1⟩ := dec9 _ _ _ _ _ _ _ _ _ h1
  simp only [List.cons.injEq, and_true] at e0 e1
  obtain rfl := e0
  obtain rfl := e1
  refine ⟨⟨s0, s1⟩, rfl, ?_⟩
  simp only [List.map, Rows.uptoBulk, Rows.uptoBulkAll, szRole] at b0 b1 ⊢
  omega
theorem cells53 : Tryz.prog.cellsOf 53 = 9 := by kernel_rfl
theorem len6 {α : Type} {l : List α} (h : l.length = 6) : ∃ a0 a1 a2 a3 a4 a5, l = [a0, a1, a2, a3, a4, a5] := by
  match l, h with
  | [a0, a1, a2, a3, a4, a5], _ => exact ⟨a0, a1, a2, a3, a4, a5, rfl⟩
theorem len9 {α : Type} {l : List α} (h : l.length = 9) : ∃ a0 a1 a2 a3 a4 a5 a6 a7 a8, l = [a0, a1, a2, a3, a4, a5, a6, a7, a8] := by
  match l, h with
  | [a0, a1, a2, a3, a4, a5, a6, a7, a8], _ => exact ⟨a0, a1, a2, a3, a4, a5, a6, a7, a8, rfl⟩
def szCred (x : Cred) : Nat := szRole x.Head + x.Who.size + szRole x.B + szRole x.C + x.Word2.size
theorem dec53 : Dec Tryz.prog 53 encCred szCred := by
  intro H eh W base sp hd fuel cs x h
  obtain ⟨xs, n, _, rfl, hl, hlen, hf⟩ := DataW.trod_struct Tryz.underlying53 h
  obtain ⟨y0, y1, y2, y3, y4, y5, rfl⟩ := len6 hlen
  obtain ⟨c0, c1, c2, c3, c4, c5, c6, c7, c8, rfl⟩ := len9 (hl.trans cells53)
  have h0 : DataW.trod eh Tryz.prog W base sp hd n 3 (([c0, c1, c2, c3, c4, c5, c6, c7, c8].drop 0).take (Tryz.prog.cellsOf 3)) = some y0 := hf 0 _ rfl
  have h1 : DataW.trod eh Tryz.prog W base sp hd n 28 (([c0, c1, c2, c3, c4, c5, c6, c7, c8].drop 1).take (Tryz.prog.cellsOf 28)) = some y1 := hf 1 _ rfl
  have h2 : DataW.trod eh Tryz.prog W base sp hd n 9 (([c0, c1, c2, c3, c4, c5, c6, c7, c8].drop 3).take (Tryz.prog.cellsOf 9)) = some y2 := hf 2 _ rfl
  have h3 : DataW.trod eh Tryz.prog W base sp hd n 28 (([c0, c1, c2, c3, c4, c5, c6, c7, c8].drop 4).take (Tryz.prog.cellsOf 28)) = some y3 := hf 3 _ rfl
  have h4 : DataW.trod eh Tryz.prog W base sp hd n 28 (([c0, c1, c2, c3, c4, c5, c6, c7, c8].drop 6).take (Tryz.prog.cellsOf 28)) = some y4 := hf 4 _ rfl
  have h5 : DataW.trod eh Tryz.prog W base sp hd n 9 (([c0, c1, c2, c3, c4, c5, c6, c7, c8].drop 8).take (Tryz.prog.cellsOf 9)) = some y5 := hf 5 _ rfl
  simp only [cells28, cells3, cells9, List.drop, List.take] at h0 h1 h2 h3 h4 h5
  obtain ⟨s0, e0, b0⟩ := dec3 _ _ _ _ _ _ _ _ _ h0
  obtain ⟨s1, e1, b1⟩ := dec28 _ _ _ _ _ _ _ _ _ h1
  obtain ⟨s2, e2, b2⟩ := dec9 _ _ _ _ _ _ _ _ _ h2
  obtain ⟨s3, e3, b3⟩ := dec28 _ _ _ _ _ _ _ _ _ h3
  obtain ⟨s4, e4, b4⟩ := dec28 _ _ _ _ _ _ _ _ _ h4
  obtain ⟨s5, e5, b5⟩ := dec9 _ _ _ _ _ _ _ _ _ h5
  simp only [encRole, List.cons.injEq, and_true] at e0 e1 e2 e3 e4 e5
  obtain rfl := e0
  obtain ⟨rfl, rfl⟩ := e1
  obtain rfl := e2
  obtain ⟨rfl, rfl⟩ := e3
  obtain ⟨rfl, rfl⟩ := e4
  obtain rfl := e5
  refine ⟨⟨s0, s1, s2, s3, s4, s5⟩, rfl, ?_⟩
  simp only [List.map, Rows.uptoBulk, Rows.uptoBulkAll, szCred] at b0 b1 b2 b3 b4 b5 ⊢
  omega
def szSigned (x : Signed) : Nat := szCred x.Cred + szS (fun _ : Int => 0) x.Tag
def okSigned (x : Signed) : Prop := (∀ y ∈ x.Tag, 0 ≤ y ∧ y < 256)
theorem decd56 : DecR Tryz.prog 56 (OkR relSigned okSigned) szSigned := by
  intro H eh W base sp hd fuel cs x h
  obtain ⟨xs, n, _, rfl, hl, hlen, hf⟩ := DataW.trod_struct Tryz.underlying56 h
  obtain ⟨y0, y1, rfl⟩ := len2 hlen
  obtain ⟨c0, c1, c2, c3, c4, c5, c6, c7, c8, c9, rfl⟩ := len10 (hl.trans cells56)
  have h0 : DataW.trod eh Tryz.prog W base sp hd n 53 (([c0, c1, c2, c3, c4, c5, c6, c7, c8, c9].drop 0).take (Tryz.prog.cellsOf 53)) = some y0 := hf 0 _ rfl
  have h1 : DataW.trod eh Tryz.prog W base sp hd n 54 (([c0, c1, c2, c3, c4, c5, c6, c7, c8, c9].drop 9).take (Tryz.prog.cellsOf 54)) = some y1 := hf 1 _ rfl
  simp only [cells53, cells54, List.drop, List.take] at h0 h1
  obtain ⟨s0, e0, b0⟩ := dec53 _ _ _ _ _ _ _ _ _ h0
  obtain ⟨v1, s1, e1, q1, b1⟩ := decR_sliceS cells5 (by decide) decu5 Tryz.underlying54 h1
  simp only [encCred, encRole, List.cons.injEq, and_true] at e0 e1
  obtain ⟨rfl, rfl, rfl, rfl, rfl, rfl, rfl, rfl, rfl⟩ := e0
  obtain rfl := e1
  obtain ⟨q1, g1⟩ := Lf.Sl.all q1
  refine ⟨⟨s0, s1⟩, ⟨relSigned.mk ⟨_, rfl, q1⟩, g1⟩, ?_⟩
  simp only [List.map, Rows.uptoBulk, Rows.uptoBulkAll, szSigned] at b0 b1 ⊢
  omega
theorem rd49 : Tryz.prog.readableRec 49 = true ∧ 49 < Tryz.prog.types.size := ⟨by kernel_rfl, of_decide_eq_true (by kernel_rfl)⟩
theorem rd50 : Tryz.prog.readableRec 50 = true ∧ 50 < Tryz.prog.types.size := ⟨by kernel_rfl, of_decide_eq_true (by kernel_rfl)⟩
theorem own : ownKnob Tryz.prog.godebug = none := by kernel_rfl
theorem laid_out : laidOutB Tryz.prog = true := by kernel_rfl
theorem contract (H : Type) (enc : TypeId × Value → H) (W : World) (base : Nat) (args : Array Value) (ds gs : List (DataW H)) (before : List MemPlace)
    (hval : ∀ (j : Nat) t v, Tryz.f6.params[j]? = some t → args[j]? = some v → Value.okWide Tryz.prog W .any base t v)
    (hW : DataW.Whole enc Tryz.prog Tryz.f6.params.toList Rows.revokeTellsSpec.vars false W args.toList ds gs before) (hk : Rows.uptoSmall H (ds ++ gs) = true) :
    Calls Tryz.prog 6 args W fun e W' => ∃ v, e = .returned v ∧ Rows.revokeTellsSpec.post enc Tryz.prog Tryz.f6 false true false false W args v W' := by
  have hW' := hW
  obtain ⟨p, q, hA0, hV, rfl, hfz, hnd⟩ := hW
  have hA : DataW.TrodAll enc Tryz.prog W 0 (fun _ => true) true Tryz.f6.params.toList args.toList ds p := hA0
  have hr : ∀ t ∈ Tryz.f6.params.toList, Tryz.prog.readableRec t = true ∧ t < Tryz.prog.types.size := by
    rw [Tryz.params6]
    intro t ht
    simp only [List.mem_cons, List.not_mem_nil, or_false] at ht
    rcases ht with rfl | rfl | rfl
    · exact rd49
    · exact rd50
    · exact rd50
  rw [Tryz.params6] at hA hval
  obtain ⟨v0, vs0, d0, ds0, p0, q0, hargs, rfl, rfl, h0, r0⟩ := trodAll_cons hA
  obtain ⟨v1, vs1, d1, ds1, p1, q1, rfl, rfl, rfl, h1, r1⟩ := trodAll_cons r0
  obtain ⟨v2, vs2, d2, ds2, p2, q2, rfl, rfl, rfl, h2, r2⟩ := trodAll_cons r1
  obtain ⟨rfl, rfl, rfl⟩ := trodAll_nil r2
  obtain rfl : args = #[v0, v1, v2] := by cases args; simp_all
  obtain ⟨rfl, rfl⟩ := trodVars_none hV
  have k0 := hval 0 49 v0 rfl rfl
  have k1 := hval 1 50 v1 rfl rfl
  have k2 := hval 2 50 v2 rfl rfl
  obtain ⟨a0, s0, z0, o0⟩ := slD_of_trod (k := 2) cells196 (by decide) decd196 Tryz.underlying49 k0 h0
  obtain ⟨a1, s1, z1, o1⟩ := slD_of_trod (k := 10) cells56 (by decide) decd56 Tryz.underlying50 k1 h1
  obtain ⟨a2, s2, z2, o2⟩ := slD_of_trod (k := 10) cells56 (by decide) decd56 Tryz.underlying50 k2 h2
  have hB : Rows.uptoBulkAll ([d0, d1, d2] ++ []) ≤ 1048576 := of_decide_eq_true hk
  simp only [List.append_nil, Rows.uptoBulkAll] at hB
  have hm : m_law34_RevokeTells a0 a1 a2 = some true := revokeTells_main first34 a0 a1 a2 o0 o1 o2 (by have := len_szS szSigned a1; omega) (by have := len_szS szSigned a2; omega) (fun s hs => by have := le_szS (sz := szSigned) hs; have : sizeC s.Cred + szS (fun _ : Int => 0) s.Tag = szSigned s := (by simp only [szSigned, szCred, szRole, sizeC]; omega); omega) (fun s hs => by have := le_szS (sz := szSigned) hs; have : sizeC s.Cred + szS (fun _ : Int => 0) s.Tag = szSigned s := (by simp only [szSigned, szCred, szRole, sizeC]; omega); omega)
  have hg := w_law34_RevokeTells v0 a0 v1 a1 v2 a2 true W s0 s1 s2 hm
  refine Calls.mono hg fun e W' ⟨he, hx⟩ => ?_
  subst he
  exact ⟨_, rfl, post_of_ex laid_out hr rfl hW' hx (fun _ _ _ => trodAll_cons_mk (shut_bool Tryz.underlying4 _) trodAll_mk0) rfl rfl (ok_one (by kernel_rfl) rfl (okWide_bool_mk Tryz.underlying4 _))⟩
set_option maxRecDepth 100000 in
theorem lifted (os : Os) (started : os.Started) (H : Type) (enc : TypeId × Value → H) (F : Stop.Interp) :
    ReturnsInHanded {} Tryz.checked os 6 .any ((Rows.OpenSpec.upto Rows.revokeTellsSpec).pre6 enc Tryz.prog Tryz.f6 Rows.revokeTellsUptoRow.domain false) (((Rows.OpenSpec.upto Rows.revokeTellsSpec).at F).post enc Tryz.prog Tryz.f6 false true false false) := by
  refine returnsInHanded_of_cond (C := Tryz.checked) (s := Rows.OpenSpec.upto Rows.revokeTellsSpec) (k := Rows.uptoSmall) rfl own started (by kernel_rfl) Tryz.func6
    (OpenSpec.witness (enc := enc) (C := Tryz.checked) (s := Rows.OpenSpec.upto Rows.revokeTellsSpec) (k := Rows.uptoSmall) rfl false ⟨#[], #[.slice none 0 0, .slice none 0 0, .slice none 0 0], []⟩ 8 (by kernel_rfl) (by kernel_rfl) (by kernel_rfl)
      (x := ([.nil, .nil, .nil], [], [])) (by kernel_rfl) rfl (by kernel_rfl)) ?_
  intro W base args ds gs before hval hW _ hk _
  exact contract H enc W base args ds gs before hval hW hk
theorem bothT {a b : Bool} (ha : a = true) (hb : b = true) : (a && b) = true := by rw [ha, hb]; rfl
set_option maxHeartbeats 40000000 in
theorem closedT : joinedFacts Tryz.checked.prog 6 Tryz.f6 (Rows.OpenSpec.upto Rows.revokeTellsSpec).bare Rows.revokeTellsUptoRow = true := by
  unfold joinedFacts
  repeat' with_reducible refine bothT ?_ ?_
  all_goals as_aux_lemma => kernel_rfl
theorem proved : Rows.RevokeTellsUptoSaid :=
  OpenClaim.holds_of_cond 6 Tryz.f6 rfl rfl rfl rfl rfl rfl rfl ⟨rfl, rfl, rfl, rfl, rfl⟩ rfl rfl rfl rfl rfl (by kernel_rfl) Tryz.func6 closedT
    (of_decide_eq_true (by kernel_rfl)) (by unfold Func.isWrapper; first | (rw [if_pos (by decide +kernel)]; kernel_rfl) | (rw [if_neg (by decide +kernel)]; exact ⟨rfl, rfl⟩))
    (fun os started H enc _ F => lifted os started H enc F)
end Go.Proofs.YtmlncblocfcmiaaGreat
