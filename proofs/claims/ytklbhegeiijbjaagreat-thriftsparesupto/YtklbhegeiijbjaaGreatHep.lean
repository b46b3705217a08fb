/- a part of a proof of ThriftSpares -/
import Derived.Test.YtklbhegeiijbjaaGreatRtVp
import Derived.Test.YtklbhegeiijbjaaGreatTSMp
set_option linter.all false
namespace Go.Proofs.YtklbhegeiijbjaaGreat
open Go.RowKit
theorem FD {c x : Bool} : (if c = true then some x else some false : Option Bool) = some (c && x) := by cases c <;> rfl
theorem TW {c x : Bool} : (if c = true then some true else some x : Option Bool) = some (c || x) := by cases c <;> rfl
theorem pk {α : Type} (x : Option α) : (x.bind fun y => some y) = x := by cases x <;> rfl
theorem nf {x : Int} (a : -9223372036854775808 ≤ x) (h1 : x ≤ 9223372036854775807) : IntKind.i64.wrap x = x := IntWalk.i64_in _ (by omega)
theorem oS {α : Type} (A : List α) (x : α) (B : List α) (i : Int) (h : i = (A.length : Int)) : nD (A ++ x :: B) i = some x := by
 subst h; rw [G5]; simp
theorem oY : mR = 18446744073709551615 + 1 := by rw [yc]
def Da {α : Type} (f1 : α → Option Bool) (z : α) : Nat → List α → Int → Int → Option (List α)
 | 0, _, _, _ => none
 | n + 1, l, i, j => if decide (j < (l.length : Int)) then
   ((nD l j).bind fun x => (f1 x).bind fun r => if (!r) then (nD l i).bind fun _ => some (l.set (Int.toNat i) x, IntKind.i64.wrap (i + 1)) else some (l, i) : Option (List α × Int)).bind fun (b, a) => Da f1 z n b a (IntKind.i64.wrap (j + 1))
  else (rG (decide (0 ≤ i) && decide (i ≤ (l.length : Int)))).bind fun _ => (rG (decide (0 ≤ i) && decide (i ≤ ((pL l (Int.toNat i) z).length : Int)))).bind fun _ => some ((pL l (Int.toNat i) z).take (Int.toNat i))
theorem Ax {a b : Int} (c : 0 ≤ a) (h1 : a ≤ b) : rG (decide (0 ≤ a) && decide (a ≤ b)) = some () := by simp [rG, c, h1]
theorem LR {α : Type} (f1 : α → Option Bool) (p : α → Bool) (z : α) : ∀ (rest out mid : List α) (n : Nat), rest.length < n → (out ++ mid ++ rest).length < 4611686018427387904 → mid ≠ [] → (∀ x ∈ rest, f1 x = some (p x)) →
  Da f1 z n (out ++ mid ++ rest) (out.length : Int) ((out.length + mid.length : Nat) : Int) = some (out ++ rest.filter fun x => !p x)
 | [], out, mid, 0, h, _, _, _ => by simp at h
 | [], out, mid, n + 1, _, b, hm, _ => by
  rw [Da, aY (by simp)]
  have h1 : out.length ≤ (out ++ mid ++ []).length := by simp
  rw [Ax (by omega) (by omega)]
  simp only [aA]
  rw [Ax (by omega) (by rw [xV _ _ _ (by simpa using h1)]; omega)]
  simp only [aA, eE]
  rw [HK _ _ _ h1]
  simp
 | x :: rest, out, mid, 0, h, _, _, _ => by simp at h
 | x :: rest, out, mid, n + 1, h, b, hm, c => by
  have hlen : (out ++ mid ++ x :: rest).length = out.length + mid.length + rest.length + 1 := by simp; omega
  rw [hlen] at b
  rw [Da, aV (by rw [hlen]; simp; omega)]
  rw [oS (out ++ mid) x rest _ (by simp)]
  simp only [aA, c x (by simp)]
  rw [nf (x := ((out.length + mid.length : Nat) : Int) + 1) (by omega) (by omega)]
  have ih := LR f1 p z rest
  cases hp : p x with
  | true =>
   simp only [bX, aB, aN, aA]
   have := ih out (mid ++ [x]) n (by simp at h; omega) (by simp; omega) (by simp) (fun y d => c y (by simp [d]))
   simp only [aR, cC, bN, aC, aP, bV] at this ⊢
   rw [show ((out.length + mid.length : Nat) : Int) + 1 = ((out.length + (mid.length + (0 + 1)) : Nat) : Int) by omega, this]
   simp [hp]
  | false =>
   obtain ⟨m, a, rfl⟩ : ∃ m a, mid = m :: a := by cases mid with
    | nil => exact absurd rfl hm
    | cons m a => exact ⟨m, a, rfl⟩
   simp only [eL, aT]
   rw [aR out (m :: a) (x :: rest), cC]
   rw [oS out m (a ++ x :: rest) _ rfl]
   simp only [aA]
   rw [nf (x := (out.length : Int) + 1) (by omega) (by simp at b; omega)]
   have := ih (out ++ [x]) (a ++ [x]) n (by simp at h; omega) (by simp at b ⊢; omega) (by simp) (fun y d => c y (by simp [d]))
   simp only [aR, cC, bN, aC, aP, bV] at this
   have g : (out ++ m :: (a ++ x :: rest)).set (Int.toNat (out.length : Int)) x = out ++ x :: (a ++ x :: rest) := by
    rw [eE, List.set_append_right _ _ (aW _)]; simp
   rw [g]
   simp only [aP] at b ⊢
   rw [show (out.length : Int) + 1 = ((out.length + (0 + 1) : Nat) : Int) by omega, show ((out.length + (a.length + 1) : Nat) : Int) + 1 = ((out.length + (0 + 1) + (a.length + (0 + 1)) : Nat) : Int) by omega, this]
   simp [hp]
def zo {α : Type} (f1 : α → Option Bool) : List α → Nat → Option Int
 | [], _ => some (-1)
 | x :: xs, i => (f1 x).bind fun r => if r then some (i : Int) else zo f1 xs (i + 1)
theorem CY {α : Type} (f1 : α → Option Bool) (p : α → Bool) : ∀ (l : List α) (i : Nat), (∀ x ∈ l, f1 x = some (p x)) →
  (zo f1 l i = some (-1) ∧ ∀ x ∈ l, p x = false) ∨ ∃ A x B, l = A ++ x :: B ∧ (∀ y ∈ A, p y = false) ∧ p x = true ∧ zo f1 l i = some ((i + A.length : Nat) : Int)
 | [], i, _ => .inl ⟨rfl, by simp⟩
 | x :: l, i, h => by
  rw [zo, h x (by simp)]
  simp only [aA]
  cases hp : p x with
  | true => exact .inr ⟨[], x, l, rfl, by simp, hp, by simp⟩
  | false =>
   simp only [aB, aN]
   rcases CY f1 p l (i + 1) (fun y a => h y (by simp [a])) with ⟨h1, b⟩ | ⟨A, y, B, rfl, h1, b, d⟩
   ·exact .inl ⟨h1, by intro y a; rcases aS.1 a with rfl | a; exact hp; exact b y a⟩
   ·refine .inr ⟨x :: A, y, B, rfl, ?_, b, ?_⟩
    ·intro z c; rcases aS.1 c with rfl | c
     ·exact hp
     ·exact h1 z c
    ·rw [d]; simp; omega
def D0 {α : Type} (f1 : α → Option Bool) (z : α) (l : List α) : Option (List α) :=
 (zo f1 l 0).bind fun a => if (a == (-1)) then some l else Da f1 z mR l a (IntKind.i64.wrap (a + 1))
theorem xC {α : Type} (f1 : α → Option Bool) (p : α → Bool) (z : α) (l : List α) (c : l.length < 4611686018427387904) (h : ∀ x ∈ l, f1 x = some (p x)) : D0 f1 z l = some (l.filter fun x => !p x) := by
 unfold D0
 rcases CY f1 p l 0 h with ⟨h1, b⟩ | ⟨A, x, B, rfl, h1, b, d⟩
 ·rw [h1]
  simp only [aA, bP, aT]
  rw [List.filter_eq_self.2 (fun y a => by simp [b y a])]
 ·rw [d]
  simp only [aA, gV]
  rw [aY (by simp), nf (by omega) (by simp at c; omega)]
  have := LR f1 p z B A [x] mR (by rw [yc]; simp at c; omega) (by simpa using c) (by simp) (fun y a => h y (by simp [a]))
  simp only [aR, cC, bN, aP, bV] at this
  rw [show (A.length : Int) + 1 = ((A.length + (0 + 1) : Nat) : Int) by omega, this]
  have g : A.filter (fun x => !p x) = A := List.filter_eq_self.2 (fun y a => by simp [h1 y a])
  rw [List.filter_append, g]
  simp [b]
def ry {α : Type} (eq : α → α → Bool) : α → List α → List α
 | _, [] => []
 | p, y :: ys => if eq y p then ry eq y ys else y :: ry eq y ys
def dd {α : Type} (eq : α → α → Bool) : List α → List α
 | [] => []
 | x :: xs => x :: ry eq x xs
def Bu {α : Type} (eq : α → α → Bool) (i : Int) : Nat → List α → Int → Int → Option (List α × Int)
 | 0, _, _, _ => none
 | n + 1, l, k, j => if decide (j < ((l.length - Int.toNat i : Nat) : Int)) then
   ((nD (l.drop (Int.toNat i)) j).bind fun x => (nD (l.drop (Int.toNat i)) (IntKind.i64.wrap (j - 1))).bind fun y => if !(eq x y) then (nD (l.drop (Int.toNat i)) j).bind fun z => (nD l k).bind fun _ => some (l.set (Int.toNat k) z, IntKind.i64.wrap (k + 1)) else some (l, k) : Option (List α × Int)).bind fun (a, k') => Bu eq i n a k' (IntKind.i64.wrap (j + 1))
  else some (l, k)
def BZ {α : Type} (eq : α → α → Bool) (z : α) (l : List α) : Nat → Int → Option (List α)
 | 0, _ => none
 | n + 1, i => if decide (i < (l.length : Int)) then (nD l i).bind fun x => (nD l (IntKind.i64.wrap (i - 1))).bind fun y => if eq x y then
    (rG (decide (0 ≤ i) && decide (i ≤ (l.length : Int)))).bind fun _ => (Bu eq i mR l i 1).bind fun (a, k) => (rG (decide (0 ≤ k) && decide (k ≤ (a.length : Int)))).bind fun _ => (rG (decide (0 ≤ k) && decide (k ≤ ((pL a (Int.toNat k) z).length : Int)))).bind fun _ => some ((pL a (Int.toNat k) z).take (Int.toNat k))
   else BZ eq z l n (IntKind.i64.wrap (i + 1))
  else some l
def H0 {α : Type} (eq : α → α → Bool) (z : α) (l : List α) : Option (List α) := if decide ((l.length : Int) < 2) then some l else BZ eq z l mR 1
theorem Lb {α : Type} (l : List α) (i : Nat) (j : Int) (a : 0 ≤ j) : nD (l.drop i) j = nD l ((i : Int) + j) := by
 obtain ⟨m, rfl⟩ : ∃ m : Nat, j = m := ⟨j.toNat, by omega⟩
 rw [show (i : Int) + (m : Int) = ((i + m : Nat) : Int) by omega, G5, G5, eF]
theorem It {α : Type} (eq : α → α → Bool) (i : Nat) : ∀ (rest out mid : List α) (p : α) (n : Nat), rest.length < n → (out ++ (mid ++ [p]) ++ rest).length < 4611686018427387904 → 1 ≤ i → i ≤ out.length →
  ∃ b, Bu eq (i : Int) n (out ++ (mid ++ [p]) ++ rest) (out.length : Int) ((out.length + mid.length + 1 - i : Nat) : Int) = some (b, ((out ++ ry eq p rest).length : Int)) ∧ b.take (out ++ ry eq p rest).length = out ++ ry eq p rest ∧ (out ++ ry eq p rest).length ≤ b.length
 | [], out, mid, p, 0, h, _, _, _ => by simp at h
 | [], out, mid, p, n + 1, h, k, h1, j => by
  rw [Bu, aY (by simp; omega)]
  exact ⟨out ++ (mid ++ [p]) ++ [], by simp [ry], by simp [ry], by simp [ry]⟩
 | x :: rest, out, mid, p, 0, h, _, _, _ => by simp at h
 | x :: rest, out, mid, p, n + 1, h, k, h1, j => by
  have hlen : (out ++ (mid ++ [p]) ++ x :: rest).length = out.length + mid.length + rest.length + 2 := by simp; omega
  rw [hlen] at k
  rw [Bu, aV (by rw [hlen]; simp; omega)]
  rw [eE, Lb _ _ _ (by omega), oS (out ++ (mid ++ [p])) x rest _ (by simp; omega)]
  simp only [aA]
  rw [nf (x := ((out.length + mid.length + 1 - i : Nat) : Int) - 1) (by omega) (by omega), Lb _ _ _ (by omega)]
  rw [show out ++ (mid ++ [p]) ++ x :: rest = (out ++ mid) ++ p :: (x :: rest) by simp]
  rw [oS (out ++ mid) p (x :: rest) _ (by simp; omega)]
  simp only [aA]
  rw [nf (x := ((out.length + mid.length + 1 - i : Nat) : Int) + 1) (by omega) (by omega)]
  cases hp : eq x p with
  | true =>
   simp only [bX, aB, aN, aA]
   obtain ⟨b, c, d, g⟩ := It eq i rest out (mid ++ [p]) x n (by simp at h; omega) (by simp; omega) h1 j
   refine ⟨b, ?_, by rw [ry, hp]; exact d, by rw [ry, hp]; exact g⟩
   rw [ry, hp, aV rfl, ← c]
   congr 1
   ·simp
   ·simp; omega
  | false =>
   simp only [eL, aT]
   obtain ⟨m, a, hm⟩ : ∃ m a, mid ++ [p] = m :: a := by cases mid with
    | nil => exact ⟨p, [], rfl⟩
    | cons m a => exact ⟨m, a ++ [p], rfl⟩
   have o : a.length = mid.length := by have := bA List.length hm; simp at this; omega
   rw [show (out ++ mid) ++ p :: (x :: rest) = out ++ m :: (a ++ x :: rest) by rw [← cC, ← hm]; simp]
   rw [oS out m (a ++ x :: rest) _ rfl]
   simp only [aA]
   rw [nf (x := (out.length : Int) + 1) (by omega) (by omega)]
   have q : (out ++ m :: (a ++ x :: rest)).set (Int.toNat (out.length : Int)) x = (out ++ [x]) ++ (a ++ [x]) ++ rest := by
    rw [eE, List.set_append_right _ _ (aW _)]; simp
   rw [q]
   obtain ⟨b, c, d, g⟩ := It eq i rest (out ++ [x]) a x n (by simp at h; omega) (by simp; omega) h1 (by simp; omega)
   refine ⟨b, ?_, ?_, ?_⟩
   ·rw [ry, hp, aY (by decide)]
    have l : ((out ++ x :: ry eq x rest).length : Int) = ((out ++ [x] ++ ry eq x rest).length : Int) := by simp
    rw [l, ← c]
    congr 1
    ·simp
    ·simp; omega
   ·rw [ry, hp, aY (by decide)]; simpa using d
   ·rw [ry, hp, aY (by decide)]; simpa using g
theorem Mi {α : Type} (eq : α → α → Bool) (z : α) : ∀ (rest pre : List α) (p : α) (n : Nat), rest.length < n → (pre ++ p :: rest).length < 4611686018427387904 →
  BZ eq z (pre ++ p :: rest) n ((pre.length + 1 : Nat) : Int) = some (pre ++ p :: ry eq p rest)
 | [], pre, p, 0, h, _ => by simp at h
 | [], pre, p, n + 1, h, g => by rw [BZ, aY (by simp)]; simp [ry]
 | x :: rest, pre, p, 0, h, _ => by simp at h
 | x :: rest, pre, p, n + 1, h, g => by
  have hlen : (pre ++ p :: x :: rest).length = pre.length + rest.length + 2 := by simp; omega
  rw [hlen] at g
  rw [BZ, aV (by rw [hlen]; simp; omega)]
  rw [show pre ++ p :: x :: rest = (pre ++ [p]) ++ x :: rest by simp, oS (pre ++ [p]) x rest _ (by simp)]
  simp only [aA]
  rw [nf (x := ((pre.length + 1 : Nat) : Int) - 1) (by omega) (by omega)]
  rw [show (pre ++ [p]) ++ x :: rest = pre ++ p :: (x :: rest) by simp, oS pre p (x :: rest) _ (by omega)]
  simp only [aA]
  cases hp : eq x p with
  | true =>
   simp only [aT]
   rw [Ax (by omega) (by rw [hlen]; omega)]
   simp only [aA]
   obtain ⟨i, a, d, c⟩ := It eq (pre.length + 1) rest (pre ++ [p]) [] x mR (by rw [yc]; omega) (by simp; omega) (by omega) (by simp)
   simp only [aR, cC, bN, aC, aP, bV] at a d c
   rw [show (pre.length + (0 + 1) + 0 + 1 - (pre.length + 1) : Nat) = 1 by omega] at a
   rw [show ((pre.length + 1 : Nat) : Int) = ((pre.length + (0 + 1) : Nat) : Int) by omega] at *
   have b : Bu eq ((pre.length + (0 + 1) : Nat) : Int) mR (pre ++ p :: x :: rest) ((pre.length + (0 + 1) : Nat) : Int) 1 = _ := a
   rw [b]
   simp only [aA]
   rw [Ax (by omega) (by omega)]
   simp only [aA, eE]
   rw [Ax (by omega) (by rw [xV _ _ _ c]; omega)]
   simp only [aA]
   rw [HK _ _ _ c, d, ry, hp]
   simp
  | false =>
   simp only [aB, aN]
   rw [nf (x := ((pre.length + 1 : Nat) : Int) + 1) (by omega) (by omega)]
   have := Mi eq z rest (pre ++ [p]) x n (by simp at h; omega) (by simp; omega)
   simp only [aR, cC, bN, aC, aP, bV] at this
   rw [show ((pre.length + 1 : Nat) : Int) + 1 = ((pre.length + (0 + 1) + 1 : Nat) : Int) by omega, this, ry, hp]
   simp
theorem Ip {α : Type} (eq : α → α → Bool) (z : α) (l : List α) (a : l.length < 4611686018427387904) : H0 eq z l = some (dd eq l) := by
 unfold H0
 cases l with
 | nil => rfl
 | cons x xs =>
  cases xs with
  | nil => simp [dd, ry]
  | cons y ys =>
   rw [aY (by simp; omega)]
   have := Mi eq z (y :: ys) [] x mR (by rw [yc]; simp at a ⊢; omega) (by simpa using a)
   simpa [dd] using this
structure B4 {α : Type} (lt : α → α → Prop) (P : α → Prop) : Prop where
 irrefl : ∀ x, P x → ¬ lt x x
 trans : ∀ x y z, P x → P y → P z → lt x y → lt y z → lt x z
 total : ∀ x y, P x → P y → lt x y ∨ x = y ∨ lt y x
def sU {α : Type} (lt : α → α → Prop) (P : α → Prop) (l out : List α) : Prop := out.Pairwise lt ∧ ∀ x, x ∈ out ↔ x ∈ l ∧ P x
theorem sU.unique {α : Type} {lt : α → α → Prop} {P : α → Prop} (H : B4 lt P) : ∀ {l a b : List α}, sU lt P l a → sU lt P l b → a = b := by
 have key : ∀ a b : List α, (∀ x ∈ a, P x) → a.Pairwise lt → b.Pairwise lt → (∀ x, x ∈ a ↔ x ∈ b) → a = b := by
  intro a
  induction a with
  | nil => intro b _ _ _ hm; cases b with
   | nil => rfl
   | cons y ys => exact absurd ((hm y).2 (by simp)) (by simp)
  | cons x xs ih =>
   intro b m ha j hm
   cases b with
   | nil => exact absurd ((hm x).1 (by simp)) (by simp)
   | cons y ys =>
    have n : P y := m y ((hm y).2 (by simp))
    have c : P x := m x (by simp)
    have d := cR.1 ha
    have g := cR.1 j
    have o : x = y := by
     rcases aS.1 ((hm x).1 (by simp)) with h | h
     ·exact h
     ·rcases aS.1 ((hm y).2 (by simp)) with k | k
      ·exact k.symm
      ·exact absurd (H.trans x y x c n c (d.1 y k) (g.1 x h)) (H.irrefl x c)
    subst o
    congr 1
    refine ih ys (fun z i => m z (by simp [i])) d.2 g.2 (fun z => ?_)
    constructor
    ·intro i
     rcases aS.1 ((hm z).1 (by simp [i])) with h | h
     ·subst h; exact absurd (d.1 z i) (H.irrefl z c)
     ·exact h
    ·intro i
     rcases aS.1 ((hm z).2 (by simp [i])) with h | h
     ·subst h; exact absurd (g.1 z i) (H.irrefl z c)
     ·exact h
 intro l a b ha j
 exact key a b (fun x q => ((ha.2 x).1 q).2) ha.1 j.1 (fun x => (ha.2 x).trans (j.2 x).symm)
theorem Fe {α : Type} {eq : α → α → Bool} (he : ∀ x y, eq x y = true ↔ x = y) : ∀ (l : List α) (p x : α), x ∈ p :: ry eq p l ↔ x ∈ p :: l
 | [], p, x => by simp [ry]
 | y :: l, p, x => by
  rw [ry]
  split
  ·rename_i h
   have := (he y p).1 h
   subst this
   rw [Fe he l y x]; simp
  ·have := Fe he l y x
   simp only [aS] at this ⊢
   rw [this]
theorem TE {α : Type} {eq : α → α → Bool} (he : ∀ x y, eq x y = true ↔ x = y) (l : List α) (x : α) : x ∈ dd eq l ↔ x ∈ l := by
 cases l with
 | nil => simp [dd]
 | cons y l => exact Fe he l y x
theorem DO {α : Type} {eq : α → α → Bool} {lt : α → α → Prop} {P : α → Prop} (he : ∀ x y, eq x y = true ↔ x = y) (H : B4 lt P) : ∀ (l : List α) (p : α), (∀ x ∈ p :: l, P x) → (p :: l).Pairwise (fun a b => ¬ lt b a) → (p :: ry eq p l).Pairwise lt
 | [], p, _, _ => by simp [ry]
 | y :: l, p, c, n => by
  have h1 := cR.1 n
  rw [ry]
  split
  ·rename_i h
   have := (he y p).1 h
   subst this
   exact DO he H l y (fun x i => c x (gG _ i)) h1.2
  ·rename_i h
   have ih := DO he H l y (fun x i => c x (gG _ i)) h1.2
   refine cR.2 ⟨fun z m => ?_, ih⟩
   have g : lt p y := by
    rcases H.total p y (c p (by simp)) (c y (by simp)) with d | d | d
    ·exact d
    ·exact absurd ((he y p).2 d.symm) h
    ·exact absurd d (h1.1 y (by simp))
   rcases aS.1 m with rfl | j
   ·exact g
   ·have k : z ∈ y :: l := (Fe he l y z).1 m
    exact H.trans p y z (c p (by simp)) (c y (by simp)) (c z (gG _ k)) g ((cR.1 ih).1 z j)
theorem O2 {α : Type} {eq : α → α → Bool} {lt : α → α → Prop} {P : α → Prop} (he : ∀ x y, eq x y = true ↔ x = y) (H : B4 lt P) (l : List α) (c : ∀ x ∈ l, P x) (d : l.Pairwise (fun a b => ¬ lt b a)) : (dd eq l).Pairwise lt := by
 cases l with
 | nil => simp [dd]
 | cons y l => exact DO he H l y c d
theorem Ky {α : Type} {le : α → α → Bool} {P : α → Prop} (i : ∀ a b c, P a → P b → P c → le a b = true → le b c = true → le a c = true) (h : ∀ a b, P a → P b → (le a b || le b a) = true) (l : List α) (d : ∀ x ∈ l, P x) :
  (l.mergeSort le).Pairwise (fun a b => le a b = true) := by
 have e : l = (l.attachWith P d).map Subtype.val := by simp
 have hm : ((l.attachWith P d).mergeSort fun a b => le a.1 b.1).map Subtype.val = l.mergeSort le := by
  conv => rhs; rw [e]
  exact jS (fun a _ b _ => rfl)
 rw [← hm, gF]
 exact ja (le := fun (a b : {x // P x}) => le a.1 b.1) (fun a b c h1 g => i a.1 b.1 c.1 a.2 b.2 c.2 h1 g) (fun a b => h a.1 b.1 a.2 b.2) _
theorem D5 {α : Type} {eq : α → α → Bool} {lt : α → α → Prop} {P : α → Prop} {cf : α × α → Option Int} {l : List α} (he : ∀ x y, eq x y = true ↔ x = y) (H : B4 lt P) (g : ∀ x ∈ l, P x) (A : l.length < 4611686018427387904) (w : ∀ x y, P x → P y → ∃ c, cf (x, y) = some c ∧ (c < 0 ↔ lt x y)) : ∃ s, zX cf l = some s ∧ s.length = l.length ∧ sU lt P l (dd eq s) := by
 have j : ∀ x y, P x → P y → (wy cf x y = true ↔ lt x y) := fun x y i n => by
  obtain ⟨c, h1, m⟩ := w x y i n
  unfold wy
  rw [h1]
  simpa using m
 have d : ∀ x y, P x → P y → (wy cf x y = false ↔ ¬ lt x y) := fun x y i n => by
  rw [← j x y i n]; simp
 have ok : Gr cf l := by
  refine ⟨fun x i y n => ?_, fun x i => ?_, fun x i y n z u h1 m => ?_, fun x i y n h1 m => ?_, A⟩
  ·obtain ⟨c, h1, _⟩ := w x y (g x i) (g y n); exact ⟨c, h1⟩
  ·exact (d x x (g x i) (g x i)).2 (H.irrefl x (g x i))
  ·rw [j _ _ (g x i) (g y n)] at h1
   rw [j _ _ (g y n) (g z u)] at m
   rw [j _ _ (g x i) (g z u)]
   exact H.trans x y z (g x i) (g y n) (g z u) h1 m
  ·rw [d _ _ (g x i) (g y n)] at h1
   rw [d _ _ (g y n) (g x i)] at m
   rcases H.total x y (g x i) (g y n) with h | h | h
   ·exact absurd h h1
   ·exact h
   ·exact absurd h m
 refine ⟨_, Rc ok, by simp [vN], ?_, ?_⟩
 ·have k : ∀ x, x ∈ vN cf l ↔ x ∈ l := fun x => by simp [vN]
  refine O2 he H _ (fun x i => g x ((k x).1 i)) ?_
  have := Ky (le := fun x y => !wy cf y x) (P := P) (fun a b c ha o q h1 m => ?_) (fun a b ha o => ?_) l g
  ·refine (this.imp_of_mem ?_ : _)
   intro a b ha o h
   have r : a ∈ l := (k a).1 ha
   have t : b ∈ l := (k b).1 o
   simp at h
   exact (d b a (g b t) (g a r)).1 h
  ·simp at h1 m ⊢
   rw [d _ _ o ha] at h1
   rw [d _ _ q o] at m
   rw [d _ _ q ha]
   intro v
   rcases H.total a b ha o with h | h | h
   ·exact m (H.trans c a b q ha o v h)
   ·subst h; exact m v
   ·exact h1 h
  ·simp only [ie, gJ]
   rw [d _ _ o ha, d _ _ ha o]
   by_cases h : lt b a
   ·right; intro m; exact H.irrefl a ha (H.trans a b a ha o ha m h)
   ·exact .inl h
 ·intro x
  rw [TE he]
  constructor
  ·intro i
   have : x ∈ l := by simpa [vN] using i
   exact ⟨this, g x this⟩
  ·intro i; simpa [vN] using i.1
end Go.Proofs.YtklbhegeiijbjaaGreat
namespace Go.Proofs.YtklbhegeiijbjaaGreat
open Go.RowKit
theorem DH : ∀ a : List UInt8, Op.bytesLess a a = false
 | [] => rfl
 | x :: a => by simp [Op.bytesLess, DH a]
theorem Me (x y : UInt8) : x < y ∨ x = y ∨ y < x := by
 rcases Nat.lt_trichotomy x.toNat y.toNat with h | h | h
 ·exact .inl h
 ·exact .inr (.inl (UInt8.toNat_inj.1 h))
 ·exact .inr (.inr h)
theorem CM : ∀ a b c : List UInt8, Op.bytesLess a b = true → Op.bytesLess b c = true → Op.bytesLess a c = true
 | [], [], c, h1, _ => by simp [Op.bytesLess] at h1
 | _ :: _, [], c, h1, _ => by simp [Op.bytesLess] at h1
 | a, _ :: _, [], _, d => by simp [Op.bytesLess] at d
 | [], b :: bs, c :: cs, _, _ => rfl
 | a :: ax, b :: bs, c :: cs, h1, d => by
  simp only [Op.bytesLess, ie, cH, bD, la] at h1 d ⊢
  rcases h1 with h1 | ⟨rfl, h1⟩
  ·rcases d with d | ⟨rfl, d⟩
   ·exact .inl (UInt8.lt_trans h1 d)
   ·exact .inl h1
  ·rcases d with d | ⟨rfl, d⟩
   ·exact .inl d
   ·exact .inr ⟨rfl, CM ax bs cs h1 d⟩
theorem E9 : ∀ a b : List UInt8, Op.bytesLess a b = true ∨ a = b ∨ Op.bytesLess b a = true
 | [], [] => .inr (.inl rfl)
 | [], _ :: _ => .inl rfl
 | _ :: _, [] => .inr (.inr rfl)
 | a :: ax, b :: bs => by
  simp only [Op.bytesLess, ie, cH, bD, la, bJ]
  rcases Me a b with h | h | h
  ·exact .inl (.inl h)
  ·subst h
   rcases E9 ax bs with h | h | h
   ·exact .inl (.inr ⟨rfl, h⟩)
   ·exact .inr (.inl ⟨rfl, h⟩)
   ·exact .inr (.inr (.inr ⟨rfl, h⟩))
  ·exact .inr (.inr (.inl h))
theorem Ev : ∀ a b : List UInt8, (Lib.compareBytes a b < 0 ↔ Op.bytesLess a b = true)
 | [], [] => by simp [Lib.compareBytes, Op.bytesLess]
 | [], _ :: _ => by simp [Lib.compareBytes, Op.bytesLess]
 | _ :: _, [] => by simp [Lib.compareBytes, Op.bytesLess]
 | a :: ax, b :: bs => by
  simp only [Lib.compareBytes, Op.bytesLess, ie, cH, bD, la]
  by_cases h : a < b
  ·simp [h]
  ·by_cases d : b < a
   ·have : a ≠ b := by rintro rfl; exact h d
    simp [h, d, this]
   ·have : a = b := by rcases Me a b with c | c | c; exact absurd c h; exact c; exact absurd c d
    subst this
    simp [h, Ev ax bs]
theorem Io : ∀ a b : List UInt8, (Lib.compareBytes a b = 0 ↔ a = b)
 | [], [] => by simp [Lib.compareBytes]
 | [], _ :: _ => by simp [Lib.compareBytes]
 | _ :: _, [] => by simp [Lib.compareBytes]
 | a :: ax, b :: bs => by
  simp only [Lib.compareBytes, bJ]
  by_cases h : a < b
  ·simp only [h, aT]
   constructor
   ·intro h; cases h
   ·rintro ⟨rfl, _⟩; exact absurd h (by simp)
  ·by_cases d : b < a
   ·simp only [h, d, aT, aN]
    constructor
    ·intro h; cases h
    ·rintro ⟨rfl, _⟩; exact absurd d (by simp)
   ·have : a = b := by rcases Me a b with c | c | c; exact absurd c h; exact c; exact absurd c d
    subst this
    simp [h, Io ax bs]
theorem Bf (a b : ByteArray) : tf a b = Op.bytesLess a.data.toList b.data.toList := by unfold tf; rw [gO, gO]
theorem CH {a b : ByteArray} (h : a.data.toList = b.data.toList) : a = b := kM (Array.toList_inj.1 h)
theorem vv (a : ByteArray) : tf a a = false := by rw [Bf, DH]
theorem BS {a b c : ByteArray} (h1 : tf a b = true) (d : tf b c = true) : tf a c = true := by rw [Bf] at *; exact CM _ _ _ h1 d
theorem BL (a b : ByteArray) : tf a b = true ∨ a = b ∨ tf b a = true := by
 rw [Bf, Bf]
 rcases E9 a.data.toList b.data.toList with h | h | h
 ·exact .inl h
 ·exact .inr (.inl (CH h))
 ·exact .inr (.inr h)
theorem Kg {a b : ByteArray} (h : tf a b = true) : tf b a = false := by
 cases c : tf b a with
 | false => rfl
 | true => have := BS h c; rw [vv] at this; cases this
theorem RK (P : ByteArray → Prop) : B4 (fun a b => tf a b = true) P :=
 ⟨fun x _ h => (by rw [vv] at h; cases h), fun x y z _ _ _ => BS, fun x y _ _ => BL x y⟩
def Df (b : UInt8) : Bool := decide (97 ≤ b.toNat) && decide (b.toNat ≤ 122)
def EJ (b : UInt8) : Bool := Df b || (decide (48 ≤ b.toNat) && decide (b.toNat ≤ 57)) || decide (b.toNat = 45)
def oV (s : ByteArray) : Bool := decide (1 ≤ s.size) && decide (s.size ≤ 16) && (match s.data.toList with | [] => false | b :: _ => Df b) && s.data.toList.all EJ
theorem ql {s : ByteArray} (h : oV s = true) : 1 ≤ s.size ∧ s.size ≤ 16 := by
 simp only [oV, bD, cH] at h
 exact h.1.1
theorem N5 : ∀ n : Nat, n < 256 → decide (zg (⟨#[97, 98, 99, 100, 101, 102, 103, 104, 105, 106, 107, 108, 109, 110, 111, 112, 113, 114, 115, 116, 117, 118, 119, 120, 121, 122]⟩ : ByteArray) (n : Int) ≥ 0) = Df (UInt8.ofNat n) := by decide +kernel
theorem Q8 : ∀ n : Nat, n < 256 → decide (zg (⟨#[97, 98, 99, 100, 101, 102, 103, 104, 105, 106, 107, 108, 109, 110, 111, 112, 113, 114, 115, 116, 117, 118, 119, 120, 121, 122, 48, 49, 50, 51, 52, 53, 54, 55, 56, 57, 45]⟩ : ByteArray) (n : Int) < 0) = !EJ (UInt8.ofNat n) := by decide +kernel
theorem yM (s : ByteArray) : s.size = s.data.toList.length := by rw [dG]; rfl
theorem HA {s : ByteArray} (h : s.size ≤ 16) : EN s = some (vo s) := by
 unfold EN; rw [aV (by unfold maxLen; omega)]
theorem LC : ∀ l : List UInt8, xj (l.map fun b => (b.toNat : Int)) = some (l.all EJ)
 | [] => rfl
 | b :: l => by
  rw [bM, xj]
  simp only [uf, qK, aA]
  have a := Q8 b.toNat (kh b)
  rw [a]
  simp only [kK, List.all_cons]
  cases EJ b with
  | true => simp [LC l]
  | false => simp
theorem Kd {s : ByteArray} {b : UInt8} {l : List UInt8} (h : s.data.toList = b :: l) : B9 s 0 = some b := by
 unfold B9
 rw [aV (Int.le_refl 0)]
 have a : s.data[0]? = some b := by rw [← dY, h]; rfl
 show s[0]? = some b
 rw [← a]
 rfl
theorem vc (s : ByteArray) : qP s = some (oV s) := by
 unfold qP
 simp only [FD, aA, pk]
 by_cases h1 : 1 ≤ s.size
 ·by_cases a : s.size ≤ 16
  ·rw [aV (by simp; omega)]
   obtain ⟨b, l, c⟩ : ∃ b l, s.data.toList = b :: l := by
    cases h : s.data.toList with
    | nil => rw [yM, h] at h1; simp at h1
    | cons b l => exact ⟨b, l, rfl⟩
   rw [Kd c]
   simp only [aA, uf, qK]
   rw [N5 b.toNat (kh b)]
   simp only [kK, oV, h1, a, c, cA, fF]
   cases Df b with
   | false => simp
   | true =>
    simp only [aT, DN, HA a, aA, vo]
    rw [LC, c]
    simp
  ·rw [aY (by simp; omega)]
   simp [oV, a]
 ·rw [aY (by simp; omega)]
  simp [oV, h1]
theorem RQ {s : ByteArray} {A B : List UInt8} {b : UInt8} (h : s.data.toList = A ++ b :: B) (i : Int) (c : i = (A.length : Int)) : B9 s i = some b := by
 subst c
 unfold B9
 rw [aV (by omega), eE]
 have a : s.data[A.length]? = some b := by rw [← dY, h]; simp
 show s[A.length]? = some b
 rw [← a]
 rfl
theorem GF (s : ByteArray) (u : s.size ≤ 16) : ∀ (B A : List UInt8) (n : Nat), s.data.toList = A ++ B → B.length < n → vO s n (A.length : Int) = some (B.all EJ)
  | [], A, 0, _, h => by simp at h
  | [], A, n + 1, h, _ => by
    have : s.size = A.length := by rw [yM, h]; simp
    rw [vO, aY (by rw [this]; simp)]
    rfl
  | b :: B, A, 0, _, h => by simp at h
  | b :: B, A, n + 1, h, t => by
    have k : s.size = A.length + B.length + 1 := by rw [yM, h]; simp; omega
    rw [vO, aV (by rw [k]; simp; omega)]
    rw [RQ h _ rfl]
    simp only [aA]
    rw [nf (x := (A.length : Int) + 1) (by omega) (by omega)]
    have ih := GF s u B (A ++ [b]) n (by rw [h]; simp) (by simp at t; omega)
    rw [show ((A ++ [b]).length : Int) = (A.length : Int) + 1 by simp] at ih
    simp only [List.all_cons]
    have j : ∀ n : Nat, n < 256 → EJ (UInt8.ofNat n) = !((decide (n < 97) || decide (n > 122)) && (decide (n < 48) || decide (n > 57)) && decide (n ≠ 45)) := by decide +kernel
    have l := j b.toNat (kh b)
    simp only [kK] at l
    rw [l]
    by_cases h1 : b.toNat < 97 <;> by_cases m : b.toNat > 122 <;> by_cases o : b.toNat < 48 <;> by_cases q : b.toNat > 57 <;> by_cases r : b.toNat = 45 <;>
      first
      | omega
      | (have a : ((b.toNat : Int) < 97) = (b.toNat < 97) := by rw [iX]; omega
         have c : ((b.toNat : Int) > 122) = (b.toNat > 122) := by rw [iX]; omega
         have d : ((b.toNat : Int) < 48) = (b.toNat < 48) := by rw [iX]; omega
         have g : ((b.toNat : Int) > 57) = (b.toNat > 57) := by rw [iX]; omega
         have i : ((b.toNat : Int) != 45) = !decide (b.toNat = 45) := by rw [cJ]; simp; omega
         simp [h1, m, o, q, r, a, c, d, g, i, ih])
theorem xr (a : ByteArray) : nq a a = true := nY.2 rfl
theorem SR : zS.size = 0 := rfl
theorem RG {s : ByteArray} : s = zS ↔ s.size = 0 := by
 constructor
 ·rintro rfl; rfl
 ·intro h; exact CH (by rw [yM] at h; rw [eS.1 h]; rfl)
theorem Ai (s : ByteArray) : vl s = some (oV s) := by
 unfold vl
 simp only [TW, aA, pk]
 by_cases g : s.size = 0
 ·have : s = zS := RG.2 g
  subst this
  rw [xr]
  rfl
 ·have n : nq s zS = false := by
   cases h : nq s zS with
   | false => rfl
   | true => exact absurd (RG.1 (nY.1 h)) g
  rw [n]
  simp only [Bool.false_or]
  by_cases i : s.size ≤ 16
  ·rw [aY (by simp; omega)]
   obtain ⟨b, l, k⟩ : ∃ b l, s.data.toList = b :: l := by
    cases h : s.data.toList with
    | nil => rw [yM, h] at g; simp at g
    | cons b l => exact ⟨b, l, rfl⟩
   rw [Kd k]
   simp only [aA, TW]
   have m := GF s i s.data.toList [] mR rfl (by rw [yc, ← yM]; omega)
   simp only [bV] at m
   rw [show (0 : Int) = ((0 : Nat) : Int) from rfl] at *
   rw [m]
   have j : ((b.toNat : Int) < 97) = (b.toNat < 97) := by rw [iX]; omega
   have d : ((b.toNat : Int) > 122) = (b.toNat > 122) := by rw [iX]; omega
   have h1 : 1 ≤ s.size := by omega
   simp only [oV, h1, i, k, Df, cA, fF, j, d]
   by_cases a : b.toNat < 97
   ·simp [a, show ¬ 97 ≤ b.toNat by omega]
   ·by_cases c : b.toNat > 122
    ·simp [a, c, show ¬ b.toNat ≤ 122 by omega]
    ·simp [a, c, show 97 ≤ b.toNat by omega, show b.toNat ≤ 122 by omega]
  ·rw [aV (by simp; omega)]
   simp [oV, i]
def nQ (r : lC) : Bool := oV r.lI && oV r.lM
theorem wB (r : lC) : qQ r = some (nQ r) := by
 unfold qQ nQ
 simp only [vc, aA]
 cases oV r.lI <;> simp
theorem H7 (r : lC) : xU r = some (nQ r) := by
 unfold xU nQ
 simp only [Ai, aA]
 cases oV r.lI <;> simp
def A8 (a b : lC) : Bool := tf a.lI b.lI || (nq a.lI b.lI && tf a.lM b.lM)
theorem Dq (a b : lC) : AN a b = some (A8 a b) := by
 unfold AN A8
 cases tf a.lI b.lI <;> cases nq a.lI b.lI <;> simp
theorem No {a b : ByteArray} (h : a ≠ b) : nq a b = false := by
 cases c : nq a b with
 | false => rfl
 | true => exact absurd (nY.1 c) h
theorem Cx {a b : lC} : A8 a b = true ↔ tf a.lI b.lI = true ∨ (a.lI = b.lI ∧ tf a.lM b.lM = true) := by
 simp [A8, nY]
theorem AM (P : lC → Prop) : B4 (fun a b => A8 a b = true) P := by
 refine ⟨fun x _ h => ?_, fun x y z _ _ _ h1 c => ?_, fun x y _ _ => ?_⟩
 ·rw [Cx] at h
  simp [vv] at h
 ·rw [Cx] at *
  rcases h1 with h1 | ⟨g, h1⟩
  ·rcases c with c | ⟨d, c⟩
   ·exact .inl (BS h1 c)
   ·exact .inl (by rw [← d]; exact h1)
  ·rcases c with c | ⟨d, c⟩
   ·exact .inl (by rw [g]; exact c)
   ·exact .inr ⟨g.trans d, BS h1 c⟩
 ·simp only [Cx]
  rcases BL x.lI y.lI with h | h | h
  ·exact .inl (.inl h)
  ·rcases BL x.lM y.lM with c | c | c
   ·exact .inl (.inr ⟨h, c⟩)
   ·refine .inr (.inl ?_)
    cases x; cases y; simp at h c; simp [h, c]
   ·exact .inr (.inr (.inr ⟨h.symm, c⟩))
  ·exact .inr (.inr (.inl h))
theorem wZ (a b : lC) : ∃ c, pG a b = some c ∧ (c < 0 ↔ A8 a b = true) := by
 unfold pG
 simp only [rO, pt, aA, xd, uU]
 have h1 : ∀ a b : ByteArray, (rp a b < 0 ↔ tf a b = true) := fun a b => by rw [Bf]; exact Ev _ _
 have g : ∀ a b : ByteArray, (rp a b = 0 ↔ a = b) := fun a b => by
  unfold rp; rw [Io]; exact ⟨CH, fun h => by rw [h]⟩
 by_cases e : rp a.lI b.lI = 0
 ·rw [aY (by simp [e])]
  have e' := (g _ _).1 e
  by_cases d : rp a.lM b.lM = 0
  ·rw [aY (by simp [d])]
   refine ⟨0, rfl, ?_⟩
   rw [Cx, e', (g _ _).1 d]
   simp [vv]
  ·rw [aV (by simp [d])]
   refine ⟨_, rfl, ?_⟩
   rw [Cx, e', h1]
   simp [vv]
 ·rw [aV (by simp [e])]
  refine ⟨_, rfl, ?_⟩
  rw [Cx, h1]
  have : a.lI ≠ b.lI := fun h => e ((g _ _).2 h)
  simp [this]
def zR : lC := ⟨zS, zS⟩
theorem J8 (a b : ByteArray) : nq a b = nq b a := by rw [cJ, nY, nY]; exact eq_comm
theorem GR (a b : lC) : lZ a b = lZ b a := by rw [cJ, mi, mi]; exact eq_comm
theorem xm (a : lC) : lZ a a = true := mi.2 rfl
def ns (c : lB) : Bool := nQ c.Head && (
 if c.Kind == 1 then oV c.mS && lZ zR c.B && lZ zR c.C && nq zS c.mK
 else if c.Kind == 2 then nQ c.B && nq zS c.mS && lZ zR c.C && nq zS c.mK
 else if c.Kind == 3 then nQ c.B && nq c.B.lI c.Head.lI && oV c.mK && nq zS c.mS && lZ zR c.C
 else if c.Kind == 4 then nQ c.B && nQ c.C && A8 c.B c.C && nq zS c.mS && nq zS c.mK
 else false)
theorem wH (c : lB) : uR c = some (ns c) := by
 unfold uR ns
 simp only [wB, vc, aA]
 obtain ⟨k, hk, a⟩ := wZ c.B c.C
 rw [hk]
 have b : decide (k < 0) = A8 c.B c.C := by rw [cJ, ← a]; simp
 simp only [aA, b]
 by_cases h1 : c.Kind = 1
 ·cases nQ c.Head <;> cases oV c.mS <;> simp [h1, mC, xm, xr, zR, ki]
 ·by_cases d : c.Kind = 2
  ·cases nQ c.Head <;> cases nQ c.B <;> simp [d, mC, xm, xr, zR, ki]
  ·by_cases g : c.Kind = 3
   ·cases nQ c.Head <;> cases nQ c.B <;> cases nq c.B.lI c.Head.lI <;> cases oV c.mK <;> simp [g, mC, xm, xr, zR, ki]
   ·by_cases h : c.Kind = 4
    ·cases nQ c.Head <;> cases nQ c.B <;> cases nQ c.C <;> cases A8 c.B c.C <;> simp [h, mC, xm, xr, zR, ki]
    ·simp [h1, d, g, h]
theorem CU (c : lB) : zY c = some (ns c) := by
 unfold zY ns
 simp only [H7, Ai, Dq, aA]
 rw [show (⟨zS, zS⟩ : lC) = zR from rfl, GR c.B zR, GR c.C zR, J8 c.mK zS, J8 c.mS zS]
 by_cases h1 : c.Kind = 1
 ·cases nQ c.Head <;> cases oV c.mS <;> cases lZ zR c.B <;> cases lZ zR c.C <;> simp [h1]
 ·by_cases a : c.Kind = 2
  ·cases nQ c.Head <;> cases nQ c.B <;> cases nq zS c.mS <;> cases lZ zR c.C <;> simp [a]
  ·by_cases b : c.Kind = 3
   ·cases nQ c.Head <;> cases nQ c.B <;> cases nq zS c.mS <;> cases lZ zR c.C <;> cases nq c.B.lI c.Head.lI <;> simp [b]
   ·by_cases d : c.Kind = 4
    ·cases nQ c.Head <;> cases nQ c.B <;> cases nq zS c.mS <;> cases nq zS c.mK <;> cases nQ c.C <;> simp [d]
    ·cases nQ c.Head <;> cases nQ c.B <;> cases nq zS c.mS <;> simp [h1, a, b, d]
end Go.Proofs.YtklbhegeiijbjaaGreat
namespace Go.Proofs.YtklbhegeiijbjaaGreat
open Go.RowKit
theorem om {α : Type} {b : Nat} {l m : List α} (h : (l.length + m.length) * b ≤ 140737488355328) (a : l.length + m.length ≤ 9223372036854775807) : oI b l m = some (l ++ m) := by
 unfold oI; rw [aV ⟨h, by unfold maxLen; omega⟩]
theorem Iq {l m : List Int} (h : l.length + m.length ≤ 1000000) : oI 1 l m = some (l ++ m) := om (by omega) (by omega)
def yr (s : ByteArray) : List Int := (s.size : Int) :: vo s
def uI (r : lC) : List Int := yr r.lI ++ yr r.lM
def AX (c : lB) : List Int := if c.Kind = 1 then yr c.mS else if c.Kind = 2 then uI c.B else if c.Kind = 3 then uI c.B ++ yr c.mK else uI c.B ++ uI c.C
def vw (c : lB) : List Int := c.Kind :: (uI c.Head ++ AX c)
theorem vR (s : ByteArray) : (yr s).length = s.size + 1 := by simp [yr, rE]
theorem rk {r : lC} (h : nQ r = true) : (uI r).length ≤ 34 := by
 simp only [nQ, bD] at h
 have h1 := ql h.1
 have a := ql h.2
 simp [uI, vR]; omega
theorem Ar {l : List Int} {n : Int} (a : 0 ≤ n) (h1 : n < 128) (b : l.length ≤ 100000) : pV l n = some (true, l ++ [n]) := by
 have hw : IntKind.u8.wrap n = n := by
  obtain ⟨k, rfl⟩ : ∃ k : Nat, n = k := ⟨n.toNat, by omega⟩
  have : ∀ k : Nat, k < 128 → IntKind.u8.wrap (k : Int) = (k : Int) := by decide +kernel
  exact this k (by omega)
 unfold pV
 rw [aY (by simp; omega), oY, sf, aY (by simp; omega), hw, Iq (by simp; omega)]
 rfl
theorem Hh {l : List Int} {s : ByteArray} (h : oV s = true) (a : l.length ≤ 10000) : vZ l s = some (true, l ++ yr s) := by
 have h1 := ql h
 unfold vZ
 simp only [vc, aA, h, aT, HA h1.2]
 unfold zt
 rw [aY (by rw [rE]; simp; omega)]
 rw [rE, Ar (by omega) (by omega) (by omega)]
 simp only [aA]
 rw [Iq (by simp [rE]; omega)]
 simp [yr]
theorem Mj {l : List Int} {r : lC} (h : nQ r = true) (b : l.length ≤ 9000) : si l r = some (true, l ++ uI r) := by
 have a := h
 simp only [nQ, bD] at h
 have h1 := ql h.1
 unfold si
 simp only [wB, aA, a, aT]
 rw [Hh h.1 (by omega)]
 simp only [aA, aT]
 rw [Hh h.2 (by simp [vR]; omega)]
 simp [uI]
theorem ED {l : List Int} {r : lC} (h : nQ r = true) (a : l.length ≤ 1000) : si l r = some (true, l ++ uI r) := Mj h (by omega)
theorem DX {c : lB} (h : ns c = true) : nQ c.Head = true := by
 simp only [ns, bD] at h; exact h.1
theorem pX {c : lB} (h : ns c = true) :
  (c.Kind = 1 ∧ oV c.mS = true ∧ c.B = zR ∧ c.C = zR ∧ c.mK = zS) ∨
  (c.Kind = 2 ∧ nQ c.B = true ∧ c.mS = zS ∧ c.C = zR ∧ c.mK = zS) ∨
  (c.Kind = 3 ∧ nQ c.B = true ∧ oV c.mK = true ∧ c.B.lI = c.Head.lI ∧ c.mS = zS ∧ c.C = zR) ∨
  (c.Kind = 4 ∧ nQ c.B = true ∧ nQ c.C = true ∧ A8 c.B c.C = true ∧ c.mS = zS ∧ c.mK = zS) := by
 simp only [ns, bD] at h
 obtain ⟨_, h⟩ := h
 split at h
 ·rename_i h1
  simp only [bD, mi, nY] at h
  exact .inl ⟨by simpa using h1, h.1.1.1, h.1.1.2.symm, h.1.2.symm, h.2.symm⟩
 ·split at h
  ·rename_i h1
   simp only [bD, mi, nY] at h
   exact .inr (.inl ⟨by simpa using h1, h.1.1.1, h.1.1.2.symm, h.1.2.symm, h.2.symm⟩)
  ·split at h
   ·rename_i h1
    simp only [bD, mi, nY] at h
    exact .inr (.inr (.inl ⟨by simpa using h1, h.1.1.1.1, h.1.1.2, h.1.1.1.2, h.1.2.symm, h.2.symm⟩))
   ·split at h
    ·rename_i h1
     simp only [bD, mi, nY] at h
     exact .inr (.inr (.inr ⟨by simpa using h1, h.1.1.1.1, h.1.1.1.2, h.1.1.2, h.1.2.symm, h.2.symm⟩))
    ·cases h
theorem Dx (c : lB) : yG c = some (if ns c then vw c else []) := by
 unfold yG
 rw [wH]
 simp only [aA]
 cases h : ns c with
 | false => simp
 | true =>
  have g := DX h
  have i := rk g
  simp only [bX, aB, aN, aT]
  have hk : 0 ≤ c.Kind ∧ c.Kind < 128 := by rcases pX h with h | h | h | h <;> omega
  rw [Ar hk.1 hk.2 (by simp)]
  simp only [aA]
  rw [ED g (by simp)]
  simp only [aA, vY, wx]
  rcases pX h with ⟨k, h1, _⟩ | ⟨k, h1, _⟩ | ⟨k, h1, a, _⟩ | ⟨k, h1, a, _⟩
  ·have b := ql h1
   simp only [k, bP, aT, Hh h1 (show (([] ++ [(1:Int)]) ++ uI c.Head).length ≤ 10000 by simp; omega), aA]
   rw [Iq (by simp [vR]; omega)]
   simp [vw, AX, k]
  ·have b := rk h1
   simp only [k, show ((2 : Int) == 1) = false from rfl, aB, bP, aT, aN, ED h1 (show (([] ++ [(2:Int)]) ++ uI c.Head).length ≤ 1000 by simp; omega), aA]
   rw [Iq (by simp; omega)]
   simp [vw, AX, k]
  ·have b := rk h1
   have d := ql a
   simp only [k, show ((3 : Int) == 1) = false from rfl, show ((3 : Int) == 2) = false from rfl, aB, bP, aT, aN, ED h1 (show (([] ++ [(3:Int)]) ++ uI c.Head).length ≤ 1000 by simp; omega), aA]
   rw [Hh a (by simp; omega)]
   simp only [aA]
   rw [Iq (by simp [vR]; omega)]
   simp [vw, AX, k]
  ·have b := rk h1
   have d := rk a
   simp only [k, show ((4 : Int) == 1) = false from rfl, show ((4 : Int) == 2) = false from rfl, show ((4 : Int) == 3) = false from rfl, aB, bP, aT, aN, ED h1 (show (([] ++ [(4:Int)]) ++ uI c.Head).length ≤ 1000 by simp; omega), aA]
   rw [ED a (by simp; omega)]
   simp only [aA]
   rw [Iq (by simp; omega)]
   simp [vw, AX, k]
def Cc (l : List Int) : ByteArray := ⟨(xu l).toArray⟩
theorem Dd (l : List Int) : (Cc l).data.toList = xu l := rfl
theorem Jd : ∀ (l : List Int) (r : ByteArray), (l.foldl (fun r n => r.push (UInt8.ofNat n.toNat)) r).data.toList = r.data.toList ++ xu l
 | [], r => by simp [xu]
 | x :: l, r => by
  rw [iU, Jd l]
  show ((r.data.push _).toList) ++ _ = _
  simp [xu]
theorem RZ (l : List Int) : BU l = Cc l := CH (by unfold BU; rw [Jd]; rfl)
theorem Mx (l : List Int) : (Cc l).size = l.length := by rw [yM, Dd]; simp [xu]
theorem On (a b : List Int) : xu (a ++ b) = xu a ++ xu b := by simp [xu]
theorem xZ (a b : List Int) (h : a.length + b.length ≤ 1000000) : CP (Cc a) (Cc b) = some (Cc (a ++ b)) := by
 unfold CP
 rw [aY]
 ·congr 1
  refine CH ?_
  rw [Dd, On, ← Dd a, ← Dd b]
  exact ByteArray.toList_data_append ▸ rfl
 ·rw [Mx, Mx]
  show ¬ (_ > (9223372036854775807 : Int))
  omega
theorem FC (s : ByteArray) : Cc (vo s) = s := CH (by rw [Dd]; simp [xu, vo, iw])
theorem Ko {n : Int} (a : 0 ≤ n) (h1 : n < 128) : zh n = some (Cc [n]) := by
 have hw : IntKind.u8.wrap n = n := by
  obtain ⟨k, rfl⟩ : ∃ k : Nat, n = k := ⟨n.toNat, by omega⟩
  have : ∀ k : Nat, k < 128 → IntKind.u8.wrap (k : Int) = (k : Int) := by decide +kernel
  exact this k (by omega)
 unfold zh
 rw [oY, zr, aY (by simp; omega), hw, RZ, show zS = Cc [] from rfl, xZ _ _ (by simp)]
 rfl
theorem Hf {s : ByteArray} (h : oV s = true) : xn s = some (Cc (yr s)) := by
 have h1 := ql h
 unfold xn
 rw [Ko (by omega) (by omega)]
 simp only [aA]
 have := xZ [(s.size : Int)] (vo s) (by rw [rE]; simp; omega)
 rw [FC] at this
 rw [this]
 simp [yr]
theorem EK {r : lC} (h : nQ r = true) : xX r = some (Cc (uI r)) := by
 simp only [nQ, bD] at h
 have h1 := ql h.1
 have a := ql h.2
 unfold xX
 rw [Hf h.1, Hf h.2]
 simp only [aA]
 rw [xZ _ _ (by simp [vR]; omega)]
 rfl
theorem CQ (c : lB) : zL c = some (Cc (if ns c then vw c else [])) := by
 unfold zL
 rw [CU]
 simp only [aA]
 cases h : ns c with
 | false => rfl
 | true =>
  have g := DX h
  have i := rk g
  simp only [bX, aB, aN, aT]
  have hk : 0 ≤ c.Kind ∧ c.Kind < 128 := by rcases pX h with h | h | h | h <;> omega
  unfold FM
  rw [Ko hk.1 hk.2, EK g]
  simp only [aA]
  rw [xZ _ _ (by simp; omega)]
  simp only [aA]
  rcases pX h with ⟨k, h1, _⟩ | ⟨k, h1, _⟩ | ⟨k, h1, a, _⟩ | ⟨k, h1, a, _⟩
  ·have b := ql h1
   simp only [k, bP, aT, Hf h1, aA]
   rw [xZ _ _ (by simp [vR]; omega)]
   simp [vw, AX, k]
  ·have b := rk h1
   simp only [k, show ((2 : Int) == 1) = false from rfl, show ((2 : Int) == 3) = false from rfl, show ((2 : Int) == 4) = false from rfl, aB, aN, EK h1, aA]
   rw [xZ _ _ (by simp; omega)]
   simp [vw, AX, k]
  ·have b := rk h1
   have d := ql a
   simp only [k, show ((3 : Int) == 1) = false from rfl, show ((3 : Int) == 4) = false from rfl, aB, bP, aT, aN, EK h1, aA]
   rw [xZ _ _ (by simp; omega)]
   simp only [aA, Hf a]
   rw [xZ _ _ (by simp [vR]; omega)]
   simp [vw, AX, k]
  ·have b := rk h1
   have d := rk a
   simp only [k, show ((4 : Int) == 1) = false from rfl, show ((4 : Int) == 3) = false from rfl, aB, bP, aT, aN, EK h1, aA]
   rw [xZ _ _ (by simp; omega)]
   simp only [aA, EK a]
   rw [xZ _ _ (by simp; omega)]
   simp [vw, AX, k]
def LA (c : lB) : List UInt8 := xu (if ns c then vw c else [])
def AS (a b : lB) : Bool := Op.bytesLess (LA a) (LA b)
theorem Cd (a b : lB) : ∃ c, sN a b = some c ∧ (c < 0 ↔ AS a b = true) := by
 unfold sN
 rw [Dx, Dx]
 exact ⟨_, rfl, Ev _ _⟩
theorem Gv (a b : lB) : ∃ c, wE a b = some c ∧ (c < 0 ↔ AS a b = true) := by
 unfold wE
 rw [CQ, CQ]
 simp only [aA]
 have h : tf (Cc (if ns a then vw a else [])) (Cc (if ns b then vw b else [])) = AS a b := by rw [Bf]; rfl
 rw [h]
 cases AS a b with
 | true => exact ⟨_, rfl, by decide⟩
 | false =>
  simp only [aB, aN, Bool.false_or]
  cases d : nq (Cc (if ns a then vw a else [])) (Cc (if ns b then vw b else [])) with
  | true => exact ⟨0, by simp, by decide⟩
  | false => exact ⟨1, by simp, by decide⟩
theorem Un {a b : Int} (ha : 0 ≤ a ∧ a < 256) (c : 0 ≤ b ∧ b < 256) (h : a.toNat.toUInt8 = b.toNat.toUInt8) : a = b := by
 have := bA UInt8.toNat h
 simp only [UInt8.toNat_ofNat', Nat.toUInt8] at this
 simp at this
 omega
theorem NH : ∀ {a b : List Int}, (∀ x ∈ a, 0 ≤ x ∧ x < 256) → (∀ x ∈ b, 0 ≤ x ∧ x < 256) → xu a = xu b → a = b
 | [], [], _, _, _ => rfl
 | [], _ :: _, _, _, h => by simp [xu] at h
 | _ :: _, [], _, _, h => by simp [xu] at h
 | x :: a, y :: b, ha, d, h => by
  simp only [xu, bM, bJ] at h
  rw [Un (ha x (by simp)) (d y (by simp)) h.1, NH (fun z c => ha z (by simp [c])) (fun z c => d z (by simp [c])) h.2]
theorem BA {s : ByteArray} (h : oV s = true) : ∀ x ∈ yr s, 0 ≤ x ∧ x < 256 := by
 have h1 := ql h
 intro x a
 rcases aS.1 a with rfl | a
 ·omega
 ·simp only [vo, bG] at a
  obtain ⟨b, _, rfl⟩ := a
  have := kh b
  omega
theorem zw {r : lC} (h : nQ r = true) : ∀ x ∈ uI r, 0 ≤ x ∧ x < 256 := by
 simp only [nQ, bD] at h
 intro x a
 rcases aO.1 a with a | a
 ·exact BA h.1 x a
 ·exact BA h.2 x a
theorem Ht {c : lB} (h : ns c = true) : ∀ x ∈ vw c, 0 ≤ x ∧ x < 256 := by
 intro x a
 rcases aS.1 a with rfl | a
 ·rcases pX h with h | h | h | h <;> omega
 ·rcases aO.1 a with a | a
  ·exact zw (DX h) x a
  ·unfold AX at a
   rcases pX h with ⟨k, h1, _⟩ | ⟨k, h1, _⟩ | ⟨k, h1, b, _⟩ | ⟨k, h1, b, _⟩
   ·rw [aV k] at a; exact BA h1 x a
   ·rw [aY (by omega), aV k] at a; exact zw h1 x a
   ·rw [aY (by omega), aY (by omega), aV k] at a
    rcases aO.1 a with a | a
    ·exact zw h1 x a
    ·exact BA b x a
   ·rw [aY (by omega), aY (by omega), aY (by omega)] at a
    rcases aO.1 a with a | a
    ·exact zw h1 x a
    ·exact zw b x a
theorem OP {s t : ByteArray} (h : vo s = vo t) : s = t := by rw [← FC s, h, FC]
theorem Dv {s t : ByteArray} {X Y : List Int} (h : yr s ++ X = yr t ++ Y) : s = t ∧ X = Y := by
 simp only [yr, cC, bJ] at h
 obtain ⟨h1, a⟩ := h
 have b : (vo s).length = (vo t).length := by rw [rE, rE]; omega
 have := List.append_inj a b
 exact ⟨OP this.1, this.2⟩
theorem BK {a b : lC} {X Y : List Int} (h : uI a ++ X = uI b ++ Y) : a = b ∧ X = Y := by
 simp only [uI, aR] at h
 obtain ⟨h1, d⟩ := Dv h
 obtain ⟨c, g⟩ := Dv d
 exact ⟨by cases a; cases b; simp at h1 c; simp [h1, c], g⟩
theorem Pj {a b : lB} (ha : ns a = true) (r : ns b = true) (h : vw a = vw b) : a = b := by
 simp only [vw, bJ] at h
 obtain ⟨hk, o⟩ := h
 obtain ⟨n, h⟩ := BK o
 clear o
 have j : ∀ {X Y : List Int}, X = Y → X ++ [] = Y ++ [] := fun h => by rw [h]
 unfold AX at h
 obtain ⟨y, q, A, v, w, t⟩ := a
 obtain ⟨z, s, D, bb, x, u⟩ := b
 simp only at hk n h
 subst hk n
 rcases pX ha with ⟨k, h1, d, g, c⟩ | ⟨k, h1, d, g, c⟩ | ⟨k, h1, d, g, c, i⟩ | ⟨k, h1, d, g, c, i⟩ <;>
 rcases pX r with ⟨k', g1, g2, g3, g4⟩ | ⟨k', g1, g2, g3, g4⟩ | ⟨k', g1, g2, g3, g4, g5⟩ | ⟨k', g1, g2, g3, g4, g5⟩ <;> simp only at k k' d g c g2 g3 g4 <;> (try omega)
 ·rw [aV k, aV k] at h
  simp [Dv (j h), d, g, c, g2, g3, g4]
 ·rw [aY (by omega), aV k, aY (by omega), aV k] at h
  simp [BK (j h), d, g, c, g2, g3, g4]
 ·rw [aY (by omega), aY (by omega), aV k, aY (by omega), aY (by omega), aV k] at h
  obtain ⟨l, m⟩ := BK h
  simp only at i g5
  simp [l, Dv (j m), c, i, g4, g5]
 ·rw [aY (by omega), aY (by omega), aY (by omega), aY (by omega), aY (by omega), aY (by omega)] at h
  obtain ⟨l, m⟩ := BK h
  simp only at i g5
  simp [l, BK (j m), c, i, g4, g5]
theorem yO : B4 (fun a b => AS a b = true) (fun c => ns c = true) := by
 refine ⟨fun x _ h => ?_, fun x y z _ _ _ h1 i => CM _ _ _ h1 i, fun x y d g => ?_⟩
 ·unfold AS at h; rw [DH] at h; cases h
 ·rcases E9 (LA x) (LA y) with h | h | h
  ·exact .inl h
  ·refine .inr (.inl (Pj d g ?_))
   unfold LA at h
   rw [aV d, aV g] at h
   exact NH (Ht d) (Ht g) h
  ·exact .inr (.inr h)
end Go.Proofs.YtklbhegeiijbjaaGreat
namespace Go.Proofs.YtklbhegeiijbjaaGreat
open Go.RowKit
def tY {α : Type} (R : α → Bool) (lt : α → α → Bool) (last : Option α) : List α → Bool → α → Bool × α
 | [], ok, b => (ok, b)
 | x :: xs, ok, b => if R x && last.all (fun y => lt y x) && (!ok || lt x b) then tY R lt last xs true x else tY R lt last xs ok b
def BV {α : Type} (w : Nat) (R : α → Bool) (lt : α → α → Bool) (d : α) (l : List α) : Nat → List α → Option (List α)
 | 0, _ => none
 | n + 1, out => if !(tY R lt out.getLast? l false d).1 then some out else (oI w out [(tY R lt out.getLast? l false d).2]).bind fun o => BV w R lt d l n o
section
variable {α : Type} {R : α → Bool} {lt : α → α → Bool}
theorem GX (H : B4 (fun a b => lt a b = true) (fun x => R x = true)) (last : Option α) : ∀ (l : List α) (ok : Bool) (b : α), (ok = true → R b = true ∧ last.all (fun y => lt y b) = true) →
  ((tY R lt last l ok b).1 = false → ok = false ∧ ∀ x ∈ l, R x = true → last.all (fun y => lt y x) = false) ∧
  ((tY R lt last l ok b).1 = true → R (tY R lt last l ok b).2 = true ∧ last.all (fun y => lt y (tY R lt last l ok b).2) = true ∧ ((tY R lt last l ok b).2 ∈ l ∨ (ok = true ∧ (tY R lt last l ok b).2 = b)) ∧
   (∀ x ∈ l, R x = true → last.all (fun y => lt y x) = true → lt x (tY R lt last l ok b).2 = false) ∧ (ok = true → lt b (tY R lt last l ok b).2 = false))
 | [], ok, b, j => by
  simp only [tY]
  exact ⟨fun h => ⟨h, by simp⟩, fun h => ⟨(j h).1, (j h).2, .inr ⟨h, trivial⟩, by simp, fun _ => by
   cases m : lt b b with
   | false => rfl
   | true => exact absurd m (H.irrefl b (j h).1)⟩⟩
 | x :: xs, ok, b, j => by
  rw [tY]
  by_cases k : (R x && last.all (fun y => lt y x) && (!ok || lt x b)) = true
  ·rw [aV k]
   simp only [bD, ie, gJ] at k
   obtain ⟨⟨w, s⟩, t⟩ := k
   obtain ⟨h1, r⟩ := GX H last xs true x (fun _ => ⟨w, s⟩)
   refine ⟨fun h => ?_, fun h => ?_⟩
   ·cases (h1 h).1
   ·obtain ⟨o, a2, a3, a4, a5⟩ := r h
    refine ⟨o, a2, ?_, ?_, ?_⟩
    ·rcases a3 with a3 | ⟨_, a3⟩
     ·exact .inl (by simp [a3])
     ·exact .inl (by rw [a3]; simp)
    ·intro y g c d
     rcases aS.1 g with rfl | g
     ·exact a5 rfl
     ·exact a4 y g c d
    ·intro i
     cases m : lt b (tY R lt last xs true x).2 with
     | false => rfl
     | true =>
      have u : lt x b = true := by rcases t with h | h; rw [i] at h; cases h; exact h
      have := H.trans x b _ w (j i).1 o u m
      simp only [a5 rfl] at this
      cases this
  ·rw [aY k]
   obtain ⟨h1, r⟩ := GX H last xs ok b j
   refine ⟨fun h => ⟨(h1 h).1, fun y g c => ?_⟩, fun h => ?_⟩
   ·rcases aS.1 g with rfl | g
    ·have i := (h1 h).1
     cases s : last.all (fun z => lt z y) with
     | false => rfl
     | true => exact absurd (by simp [c, s, i]) k
    ·exact (h1 h).2 y g c
   ·obtain ⟨o, a2, a3, a4, a5⟩ := r h
    refine ⟨o, a2, ?_, ?_, a5⟩
    ·rcases a3 with a3 | a3
     ·exact .inl (by simp [a3])
     ·exact .inr a3
    ·intro y g c d
     rcases aS.1 g with rfl | g
     ·cases m : lt y (tY R lt last xs ok b).2 with
      | false => rfl
      | true =>
       cases ok with
       | false => exact absurd (by simp [c, d]) k
       | true =>
        have v : lt y b = false := by
         cases A : lt y b with
         | false => rfl
         | true => exact absurd (by simp [c, d, A]) k
        have q := j rfl
        rcases H.total y b c q.1 with n | n | n
        ·rw [v] at n; cases n
        ·subst n; rw [a5 rfl] at m; cases m
        ·have := H.trans b y _ q.1 c o n m
         simp only [a5 rfl] at this
         cases this
     ·exact a4 y g c d
theorem vB (H : B4 (fun a b => lt a b = true) (fun x => R x = true)) {l : List α} (d : ∀ x ∈ l, R x = true) (h : l.Pairwise (fun a b => lt a b = true)) : l.Nodup := by
 refine h.imp_of_mem (fun {a b} ha g c e => ?_)
 subst e
 exact H.irrefl a (d a ha) c
theorem oe : ∀ {l m : List α}, l.Nodup → (∀ x ∈ l, x ∈ m) → l.length ≤ m.length
 | [], _, _, _ => by simp
 | x :: l, m, d, b => by
  obtain ⟨A, B, rfl⟩ := List.append_of_mem (b x (by simp))
  have a := dC.1 d
  have := oe (l := l) (m := A ++ B) a.2 (fun y c => by
   have := b y (gG _ c)
   simp only [aO, aS] at this ⊢
   rcases this with h | h | h
   ·exact .inl h
   ·subst h; exact absurd c a.1
   ·exact .inr h)
  simp at this ⊢; omega
theorem DB (H : B4 (fun a b => lt a b = true) (fun x => R x = true)) {w : Nat} (hw : w ≤ 1000) (d : α) (l : List α) (I : l.length ≤ 1000000000) : ∀ (n : Nat) (out : List α), l.length < n + out.length → out.Pairwise (fun a b => lt a b = true) → (∀ x ∈ out, x ∈ l ∧ R x = true) →
  (∀ x ∈ l, R x = true → x ∈ out ∨ out.getLast?.all (fun y => lt y x) = true) → ∃ s, BV w R lt d l n out = some s ∧ sU (fun a b => lt a b = true) (fun x => R x = true) l s
 | 0, out, J, hp, hm, u => by
  exfalso
  have := oe (vB H (fun x c => (hm x c).2) hp) (fun x c => (hm x c).1)
  omega
 | n + 1, out, J, hp, hm, u => by
  rw [BV]
  obtain ⟨h1, F⟩ := GX H out.getLast? l false d (fun h => by cases h)
  have hlen := oe (vB H (fun x c => (hm x c).2) hp) (fun x c => (hm x c).1)
  cases D : (tY R lt out.getLast? l false d).1 with
  | false =>
   rw [aV (by simp)]
   refine ⟨out, rfl, hp, fun x => ⟨hm x, fun c => ?_⟩⟩
   rcases u x c.1 c.2 with h | h
   ·exact h
   ·rw [(h1 D).2 x c.1 c.2] at h; cases h
  | true =>
   rw [aY (by simp)]
   obtain ⟨r, a2, a3, a4, _⟩ := F D
   generalize (tY R lt out.getLast? l false d).2 = b at *
   have t : b ∈ l := by rcases a3 with h | ⟨h, _⟩; exact h; cases h
   have o : ∀ y ∈ out, lt y b = true := by
    intro y g
    obtain ⟨A, z, rfl⟩ : ∃ A z, out = A ++ [z] := by
     rcases dM out with h | ⟨A, z, h⟩
     ·subst h; cases g
     ·exact ⟨A, z, by rw [h]; simp⟩
    simp at a2
    rcases aO.1 g with g | g
    ·have v : lt y z = true := (cY.1 hp).2.2 y g z (by simp)
     exact H.trans y z b (hm y (by simp [g])).2 (hm z (by simp)).2 r v a2
    ·simp at g; subst g; exact a2
   have q : (out ++ [b]).Pairwise (fun a b => lt a b = true) := cY.2 ⟨hp, by simp, fun x c y g => by simp at g; subst g; exact o x c⟩
   have k : ∀ x ∈ out ++ [b], x ∈ l ∧ R x = true := fun x c => by
    rcases aO.1 c with c | c
    ·exact hm x c
    ·simp at c; subst c; exact ⟨t, r⟩
   have j := oe (vB H (fun x c => (k x c).2) q) (fun x c => (k x c).1)
   simp at j
   rw [om (by simp only [aP, bV]; have : (out.length + (0 + 1)) * w ≤ 1000000000 * 1000 := Nat.mul_le_mul (by omega) hw; omega) (by simp; omega)]
   simp only [aA]
   refine DB H hw d l I n (out ++ [b]) (by simp; omega) q k (fun x c i => ?_)
   rcases u x c i with h | h
   ·exact .inl (by simp [h])
   ·have G := a4 x c i h
    rcases H.total x b i r with m | m | m
    ·rw [G] at m; cases m
    ·subst m; exact .inl (by simp)
    ·exact .inr (by simp [m])
end
theorem Ij {α : Type} (A : List α) (x : α) (a : A.length < 4611686018427387904) : nD (A ++ [x]) (IntKind.i64.wrap (((A ++ [x]).length : Int) - 1)) = some x := by
 rw [nf (by simp; try omega) (by simp; try omega)]
 rw [oS A x [] _ (by simp; try omega)]
theorem H8 (out : List lB) (k : out.length < 4611686018427387904) : ∀ (l : List lB) (ok : Bool) (b : lB), vH out l ok b = some (tY ns AS out.getLast? l ok b)
 | [], ok, b => rfl
 | x :: xs, ok, b => by
  rw [vH, tY]
  have cmp : ∀ a b, ∃ c, wE a b = some c ∧ decide (c < 0) = AS a b := fun a b => by
   obtain ⟨c, h1, j⟩ := Gv a b
   exact ⟨c, h1, by rw [cJ, ← j]; simp⟩
  rw [CU, H8 out k xs true x, H8 out k xs ok b]
  obtain ⟨c, h1, j⟩ := cmp x b
  rcases dM out with h | ⟨A, z, h⟩
  ·subst h
   simp only [h1, aA, j, bV, Option.all, List.getLast?_nil]
   generalize AS x b = p
   cases ns x <;> cases ok <;> cases p <;> simp
  ·have i : out = A ++ [z] := by rw [h]; simp
   obtain ⟨s, q, r⟩ := cmp z x
   have d : out.getLast? = some z := by rw [i]; simp
   have g : nD out (IntKind.i64.wrap ((out.length : Int) - 1)) = some z := by rw [i]; exact Ij A z (by rw [i] at k; simp at k; omega)
   have m : ((out.length : Int) == 0) = false := by rw [i]; simp; omega
   rw [d]
   simp only [m, g, q, h1, aA, j, r, Option.all]
   rcases eO (AS x b) with hp | hp <;> rcases eO (AS z x) with n | n <;> rcases eO (ns x) with o | o <;> cases ok <;> simp [hp, n, o]
theorem VM (a b : ByteArray) : (!(tf a b || nq a b)) = tf b a := by
 rcases BL a b with h | h | h
 ·simp [h, Kg h]
 ·subst h; simp [xr, vv]
 ·have c := Kg h
  have d : nq a b = false := No (by rintro rfl; rw [vv] at h; cases h)
  simp [h, c, d]
theorem O9 {s : ByteArray} (h : oV s = true) : nq s zS = false := No (fun e => by have := ql h; rw [e, SR] at this; omega)
theorem H2 (out : List ByteArray) (k : out.length < 4611686018427387904) : ∀ (l : List ByteArray) (b : ByteArray),
  ∃ m, vK out l b = some m ∧ (tY oV tf out.getLast? l (!nq b zS) b) = (!nq m zS, m)
 | [], b => ⟨b, rfl, rfl⟩
 | x :: xs, b => by
  rw [vK, tY]
  obtain ⟨u, s, c⟩ := H2 out k xs x
  obtain ⟨v, t, i⟩ := H2 out k xs b
  rw [Ai, s, t]
  by_cases g : oV x = true
  ·rw [O9 g] at c
   simp only [eL] at c
   rcases dM out with h | ⟨A, z, h⟩
   ·subst h
    simp only [aA, bV, Option.all, List.getLast?_nil, g] at *
    rw [c, i]
    generalize tf x b = p
    generalize nq b zS = q
    cases p <;> cases q <;> simp
   ·have j : out = A ++ [z] := by rw [h]; simp
    have a : out.getLast? = some z := by rw [j]; simp
    have d : nD out (IntKind.i64.wrap ((out.length : Int) - 1)) = some z := by rw [j]; exact Ij A z (by rw [j] at k; simp at k; omega)
    have n : ((out.length : Int) == 0) = false := by rw [j]; simp; omega
    rw [a] at c i ⊢
    simp only [n, d, aA, Option.all, VM, g]
    rw [c, i]
    rcases eO (tf x b) with hp | hp <;> rcases eO (tf z x) with o | o <;> rcases eO (nq b zS) with r | r <;> simp [hp, o, r]
  ·simp only [iH] at g
   rw [g, i]
   simp
theorem Rs (a : List lB) : ∀ (n : Nat) (out s : List lB), BV 136 ns AS (⟨0, ⟨zS, zS⟩, zS, ⟨zS, zS⟩, ⟨zS, zS⟩, zS⟩ : lB) a n out = some s → s.length < 4611686018427387904 → zb a n out = some s ∧ out.length ≤ s.length
 | 0, out, s, h, _ => by cases h
 | n + 1, out, s, h, g => by
  rw [BV] at h
  rw [zb]
  have key : out.length ≤ s.length → vH out a false (⟨0, ⟨zS, zS⟩, zS, ⟨zS, zS⟩, ⟨zS, zS⟩, zS⟩ : lB) = _ := fun j => H8 out (by omega) a false _
  split at h
  ·rename_i h1
   cases h
   rw [key (aW _)]
   simp only [aA]
   rw [aV h1]
   exact ⟨rfl, aW _⟩
  ·rename_i h1
   obtain ⟨o, b, c⟩ := bind_some h
   have d := Rs a n o s c g
   have i : out.length + 1 = o.length := by
    unfold oI at b; split at b
    ·cases b; simp
    ·cases b
   rw [key (by omega)]
   simp only [aA]
   rw [aY h1, b]
   exact ⟨d.1, by omega⟩
theorem RM (a : List ByteArray) : ∀ (n : Nat) (out s : List ByteArray), BV 16 oV tf zS a n out = some s → s.length < 4611686018427387904 → zf a n out = some s ∧ out.length ≤ s.length
 | 0, out, s, h, _ => by cases h
 | n + 1, out, s, h, j => by
  rw [BV] at h
  rw [zf]
  have key : out.length ≤ s.length → ∃ c, vK out a zS = some c ∧ tY oV tf out.getLast? a false zS = (!nq c zS, c) := fun l => by
   have := H2 out (by omega) a zS
   rw [xr] at this
   exact this
  split at h
  ·rename_i h1
   cases h
   obtain ⟨c, d, k2⟩ := key (aW _)
   rw [d]
   rw [k2] at h1
   simp only [aA]
   rw [aV (by simpa using h1)]
   exact ⟨rfl, aW _⟩
  ·rename_i h1
   obtain ⟨o, b, g⟩ := bind_some h
   have i := RM a n o s g j
   have k : out.length + 1 = o.length := by
    unfold oI at b; split at b
    ·cases b; simp
    ·cases b
   obtain ⟨c, d, k2⟩ := key (by omega)
   rw [d]
   rw [k2] at h1 b
   simp only [aA]
   rw [aY (by simpa using h1), b]
   exact ⟨i.1, by omega⟩
abbrev Tj (l s : List ByteArray) := sU (fun a b => tf a b = true) (fun x => oV x = true) l s
abbrev pA (l s : List lC) := sU (fun a b => A8 a b = true) (fun x => nQ x = true) l s
abbrev uQ (l s : List lB) := sU (fun a b => AS a b = true) (fun x => ns x = true) l s
theorem ru {α : Type} {lt : α → α → Bool} {R : α → Bool} (H : B4 (fun a b => lt a b = true) (fun x => R x = true)) {l s : List α} (h : sU (fun a b => lt a b = true) (fun x => R x = true) l s) : s.length ≤ l.length :=
 oe (vB H (fun x c => ((h.2 x).1 c).2) h.1) (fun x c => ((h.2 x).1 c).1)
theorem SE (l : List lB) (b : l.length ≤ 1000000000) : ∃ s, HH l = some s ∧ uQ l s := by
 obtain ⟨s, h1, a⟩ := DB yO (w := 136) (by omega) (⟨0, ⟨zS, zS⟩, zS, ⟨zS, zS⟩, ⟨zS, zS⟩, zS⟩ : lB) l b mR [] (by rw [yc]; omega) (by simp) (by simp) (fun x _ _ => .inr rfl)
 exact ⟨s, (Rs l mR [] s h1 (by have := ru yO a; omega)).1, a⟩
theorem R0 (l : List ByteArray) (b : l.length ≤ 1000000000) : ∃ s, DP l = some s ∧ Tj l s := by
 obtain ⟨s, h1, a⟩ := DB (RK (fun x => oV x = true)) (w := 16) (by omega) zS l b mR [] (by rw [yc]; omega) (by simp) (by simp) (fun x _ _ => .inr rfl)
 exact ⟨s, (RM l mR [] s h1 (by have := ru (RK _) a; omega)).1, a⟩
end Go.Proofs.YtklbhegeiijbjaaGreat
namespace Go.Proofs.YtklbhegeiijbjaaGreat
open Go.RowKit
def zC : lB := ⟨0, ⟨zS, zS⟩, zS, ⟨zS, zS⟩, ⟨zS, zS⟩, zS⟩
theorem NF (f : lB → Option Bool) : ∀ (n : Nat) (l : List lB) (i j : Int), pv f n l i j = Da f zC n l i j
 | 0, _, _, _ => rfl
 | n + 1, l, i, j => by
  rw [pv, Da]
  simp only [NF f n]
  rfl
theorem JZ (f : lB → Option Bool) : ∀ (l : List lB) (i : Nat), qM f l i = zo f l i
 | [], _ => rfl
 | x :: l, i => by rw [qM, zo]; simp only [JZ f l]
theorem Fh (f : lB → Option Bool) (l : List lB) : pq l f = D0 f zC l := by
 unfold pq D0 rM
 simp only [JZ, NF]
theorem LS (i : Int) : ∀ (n : Nat) (l : List lB) (k j : Int), qa i n l k j = Bu mC i n l k j
 | 0, _, _, _ => rfl
 | n + 1, l, k, j => by
  rw [qa, Bu]
  simp only [LS i n]
theorem Lq (l : List lB) : ∀ (n : Nat) (i : Int), qh l n i = BZ mC zC l n i
 | 0, _ => rfl
 | n + 1, i => by
  rw [qh, BZ]
  simp only [Lq l n, LS]
  rfl
theorem Q6 (l : List lB) : uW l = H0 mC zC l := by
 unfold uW H0
 simp only [Lq]
theorem NJ (f : lC → Option Bool) : ∀ (n : Nat) (l : List lC) (i j : Int), pw f n l i j = Da f zR n l i j
 | 0, _, _, _ => rfl
 | n + 1, l, i, j => by
  rw [pw, Da]
  simp only [NJ f n]
  rfl
theorem Ny (f : lC → Option Bool) : ∀ (l : List lC) (i : Nat), qO f l i = zo f l i
 | [], _ => rfl
 | x :: l, i => by rw [qO, zo]; simp only [Ny f l]
theorem Il (f : lC → Option Bool) (l : List lC) : rj l f = D0 f zR l := by
 unfold rj D0 wo
 simp only [Ny, NJ]
theorem Mf (i : Int) : ∀ (n : Nat) (l : List lC) (k j : Int), pY i n l k j = Bu lZ i n l k j
 | 0, _, _, _ => rfl
 | n + 1, l, k, j => by
  rw [pY, Bu]
  simp only [Mf i n]
theorem Lj (l : List lC) : ∀ (n : Nat) (i : Int), qf l n i = BZ lZ zR l n i
 | 0, _ => rfl
 | n + 1, i => by
  rw [qf, BZ]
  simp only [Lj l n, Mf]
  rfl
theorem QO (l : List lC) : vd l = H0 lZ zR l := by
 unfold vd H0
 simp only [Lj]
theorem PI {l : List lB} (a : l.length ≤ 1000000000) : rX l = some l := by
 unfold rX
 rw [om (by simp; omega) (by simp; omega)]
 simp
theorem Ut {l : List lC} (a : l.length ≤ 1000000000) : ub l = some l := by
 unfold ub
 rw [om (by simp; omega) (by simp; omega)]
 simp
theorem E4 (l : List lB) (d : l.length ≤ 1000000000) : ∃ s, oW l = some s ∧ uQ l s := by
 unfold oW
 rw [PI d]
 simp only [aA]
 rw [Fh, xC _ (fun x => !ns x) zC l (by omega) (fun x _ => by simp [zM, wH])]
 simp only [aA, fO]
 have i : (l.filter fun x => ns x).length ≤ l.length := cQ _ _
 obtain ⟨s, h1, h, c⟩ := D5 (eq := mC) (lt := fun a b => AS a b = true) (P := fun x => ns x = true) (cf := fun x => sN x.1 x.2) (l := l.filter fun x => ns x) (fun x y => nF) yO (fun x g => (bT.1 g).2) (by omega) (fun x y _ _ => Cd x y)
 rw [h1]
 simp only [aA]
 rw [Q6, Ip _ _ _ (by omega)]
 refine ⟨_, rfl, c.1, fun x => ?_⟩
 rw [c.2]
 simp
theorem Fo (l : List lC) (d : l.length ≤ 1000000000) : ∃ s, pj l = some s ∧ pA l s := by
 unfold pj
 rw [Ut d]
 simp only [aA]
 rw [Il, xC _ (fun x => !nQ x) zR l (by omega) (fun x _ => by simp [zW, wB])]
 simp only [aA, fO]
 have i : (l.filter fun x => nQ x).length ≤ l.length := cQ _ _
 obtain ⟨s, h1, h, c⟩ := D5 (eq := lZ) (lt := fun a b => A8 a b = true) (P := fun x => nQ x = true) (cf := fun x => pG x.1 x.2) (l := l.filter fun x => nQ x) (fun x y => mi) (AM _) (fun x g => (bT.1 g).2) (by omega) (fun x y _ _ => wZ x y)
 rw [h1]
 simp only [aA]
 rw [QO, Ip _ _ _ (by omega)]
 refine ⟨_, rfl, c.1, fun x => ?_⟩
 rw [c.2]
 simp
end Go.Proofs.YtklbhegeiijbjaaGreat
namespace Go.Proofs.YtklbhegeiijbjaaGreat
open Go.RowKit
def tt {κ : Type} (a : List κ) : List (κ × Bool) := a.map fun k => (k, true)
def ov {κ : Type} (beq : κ → κ → Bool) (a : List κ) (k : κ) : Bool := a.any fun x => beq k x
def ins {κ : Type} (beq : κ → κ → Bool) (a : List κ) (k : κ) : List κ := if ov beq a k then a else a ++ [k]
section
variable {κ : Type} {beq : κ → κ → Bool}
theorem oT (b : ∀ {x y}, beq x y = true ↔ x = y) (a : List κ) (k : κ) : ov beq a k = true ↔ k ∈ a := by
 simp [ov, kX, b]
theorem NG (b : ∀ {x y}, beq x y = true ↔ x = y) (a : List κ) (k x : κ) : x ∈ ins beq a k ↔ x ∈ a ∨ x = k := by
 unfold ins
 split
 ·rename_i h
  have := (oT b a k).1 h
  exact ⟨.inl, fun h => by rcases h with h | rfl; exact h; exact this⟩
 ·simp
theorem IV (a : List κ) (k : κ) : (ins beq a k).length ≤ a.length + 1 ∧ a.length ≤ (ins beq a k).length := by
 unfold ins; split <;> simp
theorem Gw (a : List κ) : (tt a).length = a.length := by simp [tt]
theorem EY (a : List κ) (k : κ) : ua beq (tt a) k false = ov beq a k := by
 unfold ua nA ov tt
 induction a with
 | nil => rfl
 | cons x xs ih =>
  simp only [bM, gZ, List.any_cons]
  cases h : beq k x with
  | true => simp
  | false => simpa using ih
theorem Ew (l : ∀ {x y}, beq x y = true ↔ x = y) (a : List κ) (k : κ) : oz beq (tt a) k true = tt (ins beq a k) := by
 unfold oz ins
 have m : (tt a).findIdx? (fun p => beq k p.1) = a.findIdx? (fun x => beq k x) := by
  unfold tt; rw [je]; rfl
 rw [m]
 cases h : a.findIdx? (fun x => beq k x) with
 | none =>
  rw [iK] at h
  rw [aY]
  ·simp [tt]
  ·intro c
   unfold ov at c
   rw [kX] at c
   obtain ⟨x, n, b⟩ := c
   rw [h x n] at b
   cases b
 | some i =>
  rw [eV] at h
  obtain ⟨g, h1, _⟩ := h
  have e := l.1 h1
  rw [aV]
  ·simp only [tt]
   apply fI
   intro j
   rw [gD]
   split
   ·rename_i d
    subst d
    simp [g, e]
   ·rfl
  ·unfold ov
   exact kX.2 ⟨a[i], List.getElem_mem g, h1⟩
end
inductive wU (all : List lB) (wants : List lC) : lC ⊕ ByteArray ⊕ lB → Prop
 | want (r : lC) : r ∈ wants → wU all wants (.inl r)
 | HY (c : lB) : c ∈ all → wU all wants (.inl c.Head) → wU all wants (.inr (.inr c))
 | JV (c : lB) : c ∈ all → wU all wants (.inr (.inl c.Head.lM)) → wU all wants (.inr (.inr c))
 | HI (c : lB) : wU all wants (.inr (.inr c)) → c.Kind > 1 → wU all wants (.inl c.B)
 | IX (c : lB) : wU all wants (.inr (.inr c)) → c.Kind = 4 → wU all wants (.inl c.C)
 | IZ (c : lB) : wU all wants (.inr (.inr c)) → c.Kind = 3 → wU all wants (.inr (.inl c.mK))
structure yk (all : List lB) (wants : List lC) (T : List lC) (W : List ByteArray) (R : List lB) : Prop where
 sT : ∀ r ∈ T, wU all wants (.inl r)
 sW : ∀ w ∈ W, wU all wants (.inr (.inl w))
 sR : ∀ c ∈ R, wU all wants (.inr (.inr c))
 want : ∀ r ∈ wants, r ∈ T
 sub : ∀ c ∈ R, c ∈ all
 nd : R.Nodup
 HI : ∀ c ∈ R, c.Kind > 1 → c.B ∈ T
 IX : ∀ c ∈ R, c.Kind = 4 → c.C ∈ T
 IZ : ∀ c ∈ R, c.Kind = 3 → c.mK ∈ W
 lT : T.length ≤ wants.length + 2 * R.length
 lW : W.length ≤ R.length
def Jy (all : List lB) (T : List lC) (W : List ByteArray) (R : List lB) : Prop := ∀ c ∈ all, (c.Head ∈ T ∨ c.Head.lM ∈ W) → c ∈ R
section
variable {all : List lB} {wants : List lC} {T : List lC} {W : List ByteArray} {R : List lB}
theorem yk.Th (h : yk all wants T W R) (b : Jy all T W R) : ∀ x, wU all wants x → (match x with | .inl r => r ∈ T | .inr (.inl w) => w ∈ W | .inr (.inr c) => c ∈ R) := by
 intro x g
 induction g with
 | want r d => exact h.want r d
 | HY c a _ ih => exact b c a (.inl ih)
 | JV c a _ ih => exact b c a (.inr ih)
 | HI c _ hk ih => exact h.HI c ih hk
 | IX c _ hk ih => exact h.IX c ih hk
 | IZ c _ hk ih => exact h.IZ c ih hk
theorem yk.UW (h : yk all wants T W R) (a : Jy all T W R) (c : lB) : c ∈ R ↔ wU all wants (.inr (.inr c)) := ⟨h.sR c, h.Th a (.inr (.inr c))⟩
theorem yk.lR (h : yk all wants T W R) : R.length ≤ all.length := oe h.nd h.sub
def oM (c : lB) : List lC := if c.Kind = 1 then [] else if c.Kind = 4 then [c.B, c.C] else [c.B]
theorem yk.add (h : yk all wants T W R) {c : lB} (o : c ∈ all) (hk : ns c = true) (v : c ∉ R) (m : c.Head ∈ T ∨ c.Head.lM ∈ W) {T' : List lC} {W' : List ByteArray} (l : ∀ r, r ∈ T' ↔ r ∈ T ∨ r ∈ oM c) (n : ∀ w, w ∈ W' ↔ w ∈ W ∨ (c.Kind = 3 ∧ w = c.mK)) (lT : T'.length ≤ T.length + 2) (lW : W'.length ≤ W.length + 1) : yk all wants T' W' (R ++ [c]) := by
 have k : wU all wants (.inr (.inr c)) := by
  rcases m with m | m
  ·exact .HY c o (h.sT _ m)
  ·exact .JV c o (h.sW _ m)
 have u : c.Kind = 1 ∨ c.Kind = 2 ∨ c.Kind = 3 ∨ c.Kind = 4 := by rcases pX hk with h | h | h | h <;> simp [h.1]
 refine ⟨fun r j => ?_, fun w hw => ?_, fun d g => ?_, fun r j => (l r).2 (.inl (h.want r j)), fun d g => ?_, ?_, fun d g i => ?_, fun d g i => ?_, fun d g i => ?_, ?_, ?_⟩
 ·rcases (l r).1 j with j | j
  ·exact h.sT r j
  ·unfold oM at j
   split at j
   ·cases j
   ·split at j
    ·rename_i t
     simp at j
     rcases j with rfl | rfl
     ·exact .HI c k (by omega)
     ·exact .IX c k t
    ·simp at j; subst j; exact .HI c k (by omega)
 ·rcases (n w).1 hw with hw | ⟨s, rfl⟩
  ·exact h.sW w hw
  ·exact .IZ c k s
 ·rcases aO.1 g with g | g
  ·exact h.sR d g
  ·simp at g; subst g; exact k
 ·rcases aO.1 g with g | g
  ·exact h.sub d g
  ·simp at g; subst g; exact o
 ·exact bW.2 ⟨h.nd, by simp, fun a ha b q => by simp at q; subst q; intro e; subst e; exact v ha⟩
 ·rcases aO.1 g with g | g
  ·exact (l _).2 (.inl (h.HI d g i))
  ·simp at g; subst g
   refine (l _).2 (.inr ?_)
   unfold oM
   rw [aY (by omega)]
   split <;> simp
 ·rcases aO.1 g with g | g
  ·exact (l _).2 (.inl (h.IX d g i))
  ·simp at g; subst g
   refine (l _).2 (.inr ?_)
   unfold oM
   rw [aY (by omega), aV i]
   simp
 ·rcases aO.1 g with g | g
  ·exact (n _).2 (.inl (h.IZ d g i))
  ·simp at g; subst g; exact (n _).2 (.inr ⟨i, rfl⟩)
 ·have := h.lT; simp; omega
 ·have := h.lW; simp; omega
end
theorem M5 (x : lB) : ∀ l : List lB, BD l x = some (ov mC l x)
 | [] => rfl
 | y :: l => by
  have ih := M5 x l
  unfold BD at ih ⊢
  rw [yR, ih]
  have : mC y x = mC x y := by rw [cJ, nF, nF]; exact eq_comm
  rw [this]
  simp only [ov, List.any_cons]
  cases mC x y <;> simp
end Go.Proofs.YtklbhegeiijbjaaGreat
namespace Go.Proofs.YtklbhegeiijbjaaGreat
open Go.RowKit
theorem O3 {c : lB} (h : ns c = true) : yB c = some (c.Head :: oM c) := by
 unfold yB
 rw [wH, h]
 simp only [aA, bX, aB, aN]
 have a : c.Kind = 1 ∨ c.Kind = 2 ∨ c.Kind = 3 ∨ c.Kind = 4 := by rcases pX h with h | h | h | h <;> simp [h.1]
 rcases a with k | k | k | k
 ·simp [k, oM]
 ·rw [aV (by simp [k]), om (by simp) (by simp)]
  simp [k, oM]
 ·rw [aV (by simp [k]), om (by simp) (by simp)]
  simp [k, oM]
 ·rw [aV (by simp [k]), om (by simp) (by simp)]
  simp only [aA]
  rw [aV (by simp [k]), om (by simp) (by simp)]
  simp [k, oM]
theorem Nt (c : lB) (W : List ByteArray) (R : List lB) : ∀ (a : List lC) (T : List lC), qy c (tt W) (tt R) a (tt T) =
  some (tt (a.foldl (ins lZ) T), tt (if c.Kind = 3 then ins nq W c.mK else W), tt (ins mC R c))
 | [], T => by
  rw [qy, Ew nY, Ew nF]
  by_cases h : c.Kind = 3 <;> simp [h]
 | r :: a, T => by
  rw [qy, Ew mi, Nt c W R a]
  rfl
theorem vh : ∀ (a T : List lC) (r : lC), r ∈ a.foldl (ins lZ) T ↔ r ∈ T ∨ r ∈ a
 | [], T, r => by simp
 | x :: a, T, r => by
  rw [iU, vh a, NG mi]
  simp [or_assoc]
theorem Ae : ∀ (a T : List lC), (a.foldl (ins lZ) T).length ≤ T.length + a.length
 | [], T => by simp
 | x :: a, T => by
  have h1 := Ae a (ins lZ T x)
  have b := (IV (beq := lZ) T x).1
  simp only [iU, aP]
  omega
theorem SY {c : lB} (h : ns c = true) (A : List lB) (T : List lC) (W : List ByteArray) (R : List lB) : vx A (tt T) (tt W) (tt R) c =
  some (tt ((oM c).foldl (ins lZ) T), tt (if c.Kind = 3 then ins nq W c.mK else W), tt (ins mC R c)) := by
 unfold vx
 rw [O3 h]
 simp only [aA]
 have a : rG (decide ((0 : Nat) ≤ 1) && decide ((1 : Int) ≤ ((c.Head :: oM c).length : Int))) = some () := by
  have : (1 : Int) ≤ ((c.Head :: oM c).length : Int) := by simp; omega
  simp only [rG, this]
  rfl
 rw [a]
 simp only [aA, show Int.toNat 1 = 1 from rfl, List.drop_succ_cons, List.drop_zero]
 exact Nt c W R _ T
theorem JC (A all : List lB) (wants : List lC) (v : ∀ c ∈ all, ns c = true) : ∀ (l : List lB) (T : List lC) (W : List ByteArray) (R : List lB), (∀ c ∈ l, c ∈ all) → yk all wants T W R →
  ∃ T' W' R', pE A l (tt T) (tt W) (tt R) = some (tt T', tt W', tt R') ∧ yk all wants T' W' R' ∧ R.length ≤ R'.length ∧ (R'.length = R.length → T' = T ∧ W' = W ∧ R' = R ∧ ∀ c ∈ l, (c.Head ∈ T ∨ c.Head.lM ∈ W) → c ∈ R)
 | [], T, W, R, _, h => ⟨T, W, R, rfl, h, aW _, fun _ => ⟨rfl, rfl, rfl, by simp⟩⟩
 | c :: l, T, W, R, u, h => by
  rw [pE, EY]
  have y := oT (beq := mC) nF R c
  have z := oT (beq := lZ) mi T c.Head
  have D := oT (beq := nq) nY W c.Head.lM
  have rest : (c ∈ R ∨ ¬ (c.Head ∈ T ∨ c.Head.lM ∈ W)) → ∃ T' W' R', pE A l (tt T) (tt W) (tt R) = some (tt T', tt W', tt R') ∧ yk all wants T' W' R' ∧ R.length ≤ R'.length ∧ (R'.length = R.length → T' = T ∧ W' = W ∧ R' = R ∧ ∀ d ∈ c :: l, (d.Head ∈ T ∨ d.Head.lM ∈ W) → d ∈ R) := by
   intro j
   obtain ⟨T', W', R', e, g1, g2, g3⟩ := JC A all wants v l T W R (fun d g => u d (by simp [g])) h
   refine ⟨T', W', R', e, g1, g2, fun x => ?_⟩
   obtain ⟨F, a2, a3, a4⟩ := g3 x
   exact ⟨F, a2, a3, fun d g n => by
    rcases aS.1 g with rfl | g
    ·rcases j with j | j
     ·exact j
     ·exact absurd n j
    ·exact a4 d g n⟩
  by_cases t : c ∈ R
  ·rw [y.2 t]
   simp only [bX, aB, aN, aA]
   exact rest (.inl t)
  ·have i : ov mC R c = false := by cases q : ov mC R c with | false => rfl | true => exact absurd (y.1 q) t
   rw [i]
   simp only [eL, aT, yh, EY]
   by_cases a : c.Head ∈ T ∨ c.Head.lM ∈ W
   ·have b : ((if ov lZ T c.Head = true then some true else some (ov nq W c.Head.lM)) : Option Bool) = some true := by
     rcases a with a | a
     ·rw [z.2 a]; rfl
     ·rw [D.2 a]; cases ov lZ T c.Head <;> rfl
    rw [b]
    simp only [aA, aT]
    have m := v c (u c (by simp))
    rw [SY m]
    simp only [aA]
    have o : ins mC R c = R ++ [c] := by unfold ins; rw [i]; rfl
    rw [o]
    have J : (oM c).length ≤ 2 := by unfold oM; split <;> (try split) <;> simp
    have s := h.add (u c (by simp)) m t a (T' := (oM c).foldl (ins lZ) T) (W' := if c.Kind = 3 then ins nq W c.mK else W) (fun r => vh _ _ _) (fun w => by
     by_cases k : c.Kind = 3
     ·simp only [k, aT, true_and]; exact NG nY W c.mK w
     ·simp [k]) (by have := Ae (oM c) T; omega) (by
     by_cases k : c.Kind = 3
     ·simp only [k, aT]; exact (IV W c.mK).1
     ·simp [k])
    obtain ⟨T', W', R', e, g1, g2, g3⟩ := JC A all wants v l _ _ _ (fun d g => u d (by simp [g])) s
    simp at g2
    exact ⟨T', W', R', e, g1, by omega, fun x => by omega⟩
   ·have G : ov lZ T c.Head = false := by cases q : ov lZ T c.Head with | false => rfl | true => exact absurd (.inl (z.1 q)) a
    have I : ov nq W c.Head.lM = false := by cases q : ov nq W c.Head.lM with | false => rfl | true => exact absurd (.inr (D.1 q)) a
    rw [G, I]
    simp only [aB, aN, aA]
    exact rest (.inr a)
theorem Ns (all : List lB) (wants : List lC) (b : ∀ c ∈ all, ns c = true) : ∀ (n : Nat) (x : Int) (T : List lC) (W : List ByteArray) (R : List lB), (all.length : Int) < n + x → yk all wants T W R → x ≤ R.length → (x = R.length → Jy all T W R) →
  ∃ T' W' R', qH all n x (tt T) (tt W) (tt R) = some (tt T', tt W', tt R') ∧ yk all wants T' W' R' ∧ Jy all T' W' R'
 | 0, x, T, W, R, g, h, i, _ => by have := h.lR; omega
 | n + 1, x, T, W, R, g, h, i, d => by
  rw [qH, Gw]
  by_cases a : x < R.length
  ·rw [aV (by simpa using a)]
   obtain ⟨T', W', R', e, g1, g2, g3⟩ := JC all all wants b all T W R (fun _ h => h) h
   rw [e]
   simp only [aA]
   refine Ns all wants b n R.length T' W' R' (by omega) g1 (by omega) (fun he => ?_)
   obtain ⟨rfl, rfl, rfl, a4⟩ := g3 (by omega)
   exact a4
  ·rw [aY (by simpa using a)]
   exact ⟨T, W, R, rfl, h, d (by omega)⟩
theorem Nh (all : List lB) (W : List ByteArray) (R : List lB) : ∀ (ws T : List lC), pB all (tt W) (tt R) ws (tt T) = pB all (tt W) (tt R) [] (tt (ws.foldl (ins lZ) T))
 | [], T => rfl
 | w :: ws, T => by
  show pB all (tt W) (tt R) ws (oz lZ (tt T) w true) = _
  rw [Ew mi, Nh all W R ws]
  rfl
theorem wU.mono {all : List lB} {wants a : List lC} (hw : ∀ r ∈ wants, r ∈ a) {x : lC ⊕ ByteArray ⊕ lB} (h : wU all wants x) : wU all a x := by
 induction h with
 | want r d => exact .want r (hw r d)
 | HY c b _ ih => exact .HY c b ih
 | JV c b _ ih => exact .JV c b ih
 | HI c _ hk ih => exact .HI c ih hk
 | IX c _ hk ih => exact .IX c ih hk
 | IZ c _ hk ih => exact .IZ c ih hk
theorem Ss (all : List lB) (a : ∀ c ∈ all, ns c = true) (l : all.length ≤ 100000000) (wants b : List lC) (j : b.length ≤ 1000000000) {T : List lC} {W : List ByteArray} {R : List lB} (h : yk all wants T W R) :
  ∃ s T' W' R', pA b s ∧ yk all (wants ++ s) T' W' R' ∧ Jy all T' W' R' ∧ tK all (tt T) (tt W) (tt R) b = some ((R'.length : Int) - R.length, tt T', tt W', tt R') := by
 obtain ⟨s, h1, g⟩ := Fo b j
 have i : yk all (wants ++ s) (s.foldl (ins lZ) T) W R := by
  have hm : ∀ {x}, wU all wants x → wU all (wants ++ s) x := fun k => k.mono (fun r a => cD _ a)
  refine ⟨fun r a => ?_, fun w hw => hm (h.sW w hw), fun c d => hm (h.sR c d), fun r a => ?_, h.sub, h.nd, fun c d hk => ?_, fun c d hk => ?_, h.IZ, ?_, h.lW⟩
  ·rcases (vh s T r).1 a with a | a
   ·exact hm (h.sT r a)
   ·exact .want r (dX _ a)
  ·rcases aO.1 a with a | a
   ·exact (vh s T r).2 (.inl (h.want r a))
   ·exact (vh s T r).2 (.inr a)
  ·exact (vh s T _).2 (.inl (h.HI c d hk))
  ·exact (vh s T _).2 (.inl (h.IX c d hk))
  ·have := h.lT
   have := Ae s T
   simp; omega
 obtain ⟨T', W', R', e, g1, g2⟩ := Ns all (wants ++ s) a mR (-1) _ W R (by rw [yc]; omega) i (by omega) (fun he => by omega)
 refine ⟨s, T', W', R', g, g1, g2, ?_⟩
 unfold tK
 rw [h1]
 simp only [aA]
 rw [Nh, pB, e]
 simp only [aA, Gw]
 have := g1.lR
 have := h.lR
 rw [nf (by omega) (by omega)]
theorem Ti (l : List lB) (a : List lC) (i : l.length ≤ 100000000) (ha : a.length ≤ 1000000000) : ∃ all s T W R, uQ l all ∧ pA a s ∧ yk all s T W R ∧ Jy all T W R ∧ BE l a = some (all, tt T, tt W, tt R) := by
 obtain ⟨all, h1, d⟩ := E4 l (by omega)
 have h := ru yO d
 obtain ⟨s, T, W, R, g1, g2, g3, g4⟩ := Ss all (fun c g => ((d.2 c).1 g).2) (by omega) [] a ha (T := []) (W := []) (R := []) ⟨by simp, by simp, by simp, by simp, by simp, by simp, by simp, by simp, by simp, by simp, by simp⟩
 refine ⟨all, s, T, W, R, d, g1, by simpa using g2, g3, ?_⟩
 unfold BE
 rw [h1]
 simp only [aA]
 have b : tK all [] [] [] a = _ := g4
 rw [b]
 rfl
theorem sU.congr {α : Type} {lt : α → α → Prop} {P : α → Prop} {l m s : List α} (h : sU lt P l s) (hm : ∀ x, x ∈ l ↔ x ∈ m) : sU lt P m s := ⟨h.1, fun x => by rw [h.2, hm]⟩
theorem Sy {κ : Type} (a : List κ) : (tt a).map (·.1) = a := by simp [tt, iw]
theorem MA {l all : List lB} (h : uQ l all) (g : all.length ≤ 100000000) (T : List (lC × Bool)) (W : List (ByteArray × Bool)) (R : List lB) (b : ∀ c ∈ R, c ∈ all) {s : List lB} (d : uQ R s) : uF all T W (tt R) = some s := by
 unfold uF
 rw [PI (by omega)]
 simp only [aA]
 rw [Fh, xC _ (fun c => !ov mC R c) zC all (by omega) (fun c _ => by simp [sP, EY])]
 simp only [aA, fO]
 have : uQ R (all.filter fun c => ov mC R c) := by
  refine ⟨h.1.filter _, fun x => ?_⟩
  rw [bT, oT nF]
  constructor
  ·rintro ⟨h1, a⟩; exact ⟨a, ((h.2 x).1 h1).2⟩
  ·rintro ⟨h1, a⟩; exact ⟨b x h1, h1⟩
 rw [sU.unique yO this d]
end Go.Proofs.YtklbhegeiijbjaaGreat
namespace Go.Proofs.YtklbhegeiijbjaaGreat
open Go.RowKit
def zV (c : lB) : Nat := c.Head.lI.size + c.Head.lM.size + c.mS.size + c.B.lI.size + c.B.lM.size + c.C.lI.size + c.C.lM.size + c.mK.size
theorem wU.congr {all : List lB} {w c : List lC} (h : ∀ r, r ∈ w ↔ r ∈ c) (x : lC ⊕ ByteArray ⊕ lB) : wU all w x ↔ wU all c x := ⟨fun b => b.mono (fun r a => (h r).1 a), fun b => b.mono (fun r a => (h r).2 a)⟩
end Go.Proofs.YtklbhegeiijbjaaGreat
namespace Go.Proofs.YtklbhegeiijbjaaGreat
open Go.RowKit
section
variable {κ γ : Type} {beq : κ → κ → Bool}
theorem tq (a : ∀ {x y}, beq x y = true ↔ x = y) {A B : List (κ × γ)} {k : κ} {x : γ} (b : ∀ p ∈ A, p.1 ≠ k) : nA beq (A ++ (k, x) :: B) k = some x := by
 unfold nA
 rw [kL]
 have : A.find? (fun p => beq k p.1) = none := fW.2 (fun p hp h => b p hp (a.1 h).symm)
 rw [this]
 simp [a.2 (rfl : k = k)]
theorem yb (a : ∀ {x y}, beq x y = true ↔ x = y) {l : List (κ × γ)} {k : κ} (h : ∀ p ∈ l, p.1 ≠ k) : nA beq l k = none := by
 unfold nA
 rw [fW.2 (fun p hp b => h p hp (a.1 b).symm)]
 rfl
theorem za (a : ∀ {x y}, beq x y = true ↔ x = y) {A B : List (κ × γ)} {k : κ} {x y : γ} (b : ∀ p ∈ A, p.1 ≠ k) : oz beq (A ++ (k, x) :: B) k y = A ++ (k, y) :: B := by
 have h1 : (A ++ (k, x) :: B).findIdx? (fun p => beq k p.1) = some A.length := by
  rw [jz, iK.2 (fun p hp => by
   cases h : beq k p.1 with
   | false => rfl
   | true => exact absurd (a.1 h).symm (b p hp))]
  simp [fV, a.2 (rfl : k = k)]
 rw [tJ h1]
 simp
theorem EP (a : ∀ {x y}, beq x y = true ↔ x = y) {l : List (κ × γ)} {k : κ} {y : γ} (h : ∀ p ∈ l, p.1 ≠ k) : oz beq l k y = l ++ [(k, y)] := by
 refine xp (iK.2 (fun p hp => ?_)) y
 cases b : beq k p.1 with
 | false => rfl
 | true => exact absurd (a.1 b).symm (h p hp)
theorem wD (k : κ) : ∀ (l : List (κ × γ)), (∀ p ∈ l, p.1 ≠ k) ∨ ∃ A x B, l = A ++ (k, x) :: B ∧ ∀ p ∈ A, p.1 ≠ k
 | [] => .inl (fun _ h => by cases h)
 | p :: l => by
  by_cases hp : p.1 = k
  ·exact .inr ⟨[], p.2, l, by rw [← hp]; rfl, fun _ h => by cases h⟩
  ·rcases wD k l with h | ⟨A, x, B, rfl, h⟩
   ·exact .inl (fun q a => by rcases aS.1 a with rfl | a; exact hp; exact h q a)
   ·exact .inr ⟨p :: A, x, B, rfl, fun q a => by rcases aS.1 a with rfl | a; exact hp; exact h q a⟩
theorem H6 (a : ∀ {x y}, beq x y = true ↔ x = y) (A B : List (κ × γ)) (k : κ) : nA beq (A ++ B) k = (nA beq A k).or (nA beq B k) := by
 unfold nA
 rw [kL]
 cases A.find? (fun p => beq k p.1) <;> rfl
theorem Dt (p : κ × γ) (l : List (κ × γ)) (k : κ) : nA beq (p :: l) k = if beq k p.1 = true then some p.2 else nA beq l k := by
 unfold nA
 rw [gZ]
 cases beq k p.1 <;> simp
theorem BP (a : ∀ {x y}, beq x y = true ↔ x = y) (l : List (κ × γ)) (k k2 : κ) (y : γ) : nA beq (oz beq l k y) k2 = if beq k2 k = true then some y else nA beq l k2 := by
 rcases wD k l with h | ⟨A, x, B, rfl, h⟩
 ·rw [EP a h, H6 a, Dt]
  by_cases hk : beq k2 k = true
  ·have := a.1 hk
   subst this
   rw [aV hk, aV hk, yb a h]; rfl
  ·rw [aY hk, aY hk]
   show (nA beq l k2).or none = _
   cases nA beq l k2 <;> rfl
 ·rw [za a h, H6 a, Dt, H6 a, Dt]
  by_cases hk : beq k2 k = true
  ·have := a.1 hk
   subst this
   rw [aV hk, aV hk, yb a h]; rfl
  ·rw [aY hk, aY hk, aY hk]
end
abbrev re := List (lC × List ByteArray)
def mm (T : re) : List (lC × List (ByteArray × Bool)) := T.map fun p => (p.1, tt p.2)
def um (T : re) (r : lC) : List ByteArray := (nA lZ T r).getD []
def FS (T : re) : List lY := T.flatMap fun p => p.2.map fun w => (⟨p.1, w⟩ : lY)
def GB (T : re) (r : lC) (w : ByteArray) : re := oz lZ T r (um T r ++ [w])
theorem F5 (A B : re) : mm (A ++ B) = mm A ++ mm B := by simp [mm]
theorem Bi {A : re} {r : lC} (h : ∀ p ∈ A, p.1 ≠ r) : ∀ p ∈ mm A, p.1 ≠ r := by
 intro p hp
 simp only [mm, bG] at hp
 obtain ⟨q, a, rfl⟩ := hp
 exact h q a
theorem R9 (T : re) (r : lC) : nA lZ (mm T) r = (nA lZ T r).map tt := by
 rcases wD r T with h | ⟨A, x, B, rfl, h⟩
 ·rw [yb mi h, yb mi (Bi h)]; rfl
 ·rw [tq mi h, F5]
  exact tq mi (Bi h)
theorem NR (T : re) (r : lC) : (nA lZ (mm T) r).getD [] = tt (um T r) := by
 rw [R9, um]; cases nA lZ T r <;> rfl
theorem I7 (T : re) (r : lC) (w : ByteArray) : (FS (GB T r w)).Perm (FS T ++ [(⟨r, w⟩ : lY)]) := by
 unfold GB um
 rcases wD r T with h | ⟨A, x, B, rfl, h⟩
 ·rw [EP mi h, yb mi h]
  simp [FS]
 ·rw [za mi h, tq mi h]
  simp only [FS, jL, jj, gS, cF, bM, gW, aR]
  refine bY _ (bY _ ?_)
  exact fX
theorem QL {T : re} (hk : (T.map (·.1)).Nodup) (r : lC) (w : ByteArray) : ((GB T r w).map (·.1)).Nodup := by
 unfold GB
 rcases wD r T with h | ⟨A, x, B, rfl, h⟩
 ·rw [EP mi h]
  simp only [cF, bM, gW]
  refine bW.2 ⟨hk, by simp, fun a ha b c e => ?_⟩
  simp at c; subst c; subst e
  obtain ⟨p, hp, e⟩ := bG.1 ha
  exact h p hp e
 ·rw [za mi h]
  simpa using hk
theorem Dj {T : re} (hk : (T.map (·.1)).Nodup) (f : lY) : f ∈ FS T ↔ f.mS ∈ um T f.lC := by
 simp only [FS, kY, bG]
 constructor
 ·rintro ⟨p, hp, w, hw, rfl⟩
  obtain ⟨A, B, rfl⟩ := List.append_of_mem hp
  have a : ∀ q ∈ A, q.1 ≠ p.1 := fun q c e => by
   rw [cF, bM] at hk
   exact (bW.1 hk).2.2 q.1 (bG.2 ⟨q, c, rfl⟩) p.1 (by simp) e
  rw [um, show p = (p.1, p.2) from rfl, tq mi a]
  exact hw
 ·intro h
  unfold um at h
  rcases wD f.lC T with b | ⟨A, x, B, rfl, a⟩
  ·rw [yb mi b] at h; cases h
  ·rw [tq mi a] at h
   exact ⟨(f.lC, x), by simp, f.mS, h, rfl⟩
theorem MH {T : re} (h : (FS T).Nodup) (r : lC) : (um T r).Nodup := by
 unfold um
 rcases wD r T with b | ⟨A, x, B, rfl, a⟩
 ·rw [yb mi b]; simp
 ·rw [tq mi a]
  simp only [FS, jL, jj] at h
  have h1 := (bW.1 (bW.1 h).2.1).1
  simp only [List.Nodup, gF] at h1
  exact h1.imp (fun h e => h (by rw [e]))
inductive qW (C : List lB) : lY → Prop
 | mem (c) : c ∈ C → c.Kind = 1 → qW C ⟨c.Head, c.mS⟩
 | inc (c w) : c ∈ C → c.Kind = 2 → qW C ⟨c.B, w⟩ → qW C ⟨c.Head, w⟩
 | Hw (c b w) : c ∈ C → c.Kind = 3 → qW C ⟨c.B, b⟩ → qW C ⟨⟨b, c.mK⟩, w⟩ → qW C ⟨c.Head, w⟩
 | both (c w) : c ∈ C → c.Kind = 4 → qW C ⟨c.B, w⟩ → qW C ⟨c.C, w⟩ → qW C ⟨c.Head, w⟩
theorem qW.mono {C C' : List lB} (h : ∀ c ∈ C, c ∈ C') {f : lY} (i : qW C f) : qW C' f := by
 induction i with
 | mem c a hk => exact .mem c (h c a) hk
 | inc c w a hk _ ih => exact .inc c w (h c a) hk ih
 | Hw c b w a hk _ _ d g => exact .Hw c b w (h c a) hk d g
 | both c w a hk _ _ d g => exact .both c w (h c a) hk d g
def HF (C : List lB) : List lY := (C.map (·.Head)).flatMap fun r => (C.map (·.mS)).map fun w => (⟨r, w⟩ : lY)
theorem Fv (C : List lB) : (HF C).length = C.length * C.length := by
 unfold HF
 have : ∀ l : List lC, (l.flatMap fun r => (C.map (·.mS)).map fun w => (⟨r, w⟩ : lY)).length = l.length * C.length := fun l => by
  induction l with
  | nil => simp
  | cons x l ih => simp only [jj, aC, ih, cV, aP, cT]; omega
 rw [this, cV]
theorem SU {C : List lB} {r : lC} {w : ByteArray} : (⟨r, w⟩ : lY) ∈ HF C ↔ (∃ c ∈ C, c.Head = r) ∧ ∃ c ∈ C, c.mS = w := by
 unfold HF
 simp only [kY, bG, lY.mk.injEq]
 constructor
 ·rintro ⟨g, ⟨c, d, rfl⟩, h, ⟨b, a, rfl⟩, rfl, rfl⟩; exact ⟨⟨c, d, rfl⟩, b, a, rfl⟩
 ·rintro ⟨⟨c, d, rfl⟩, b, a, rfl⟩; exact ⟨_, ⟨c, d, rfl⟩, _, ⟨b, a, rfl⟩, rfl, rfl⟩
theorem qW.MZ {C : List lB} {f : lY} (h : qW C f) : ∃ c ∈ C, c.Kind = 1 ∧ c.mS = f.mS := by
 induction h with
 | mem c g hk => exact ⟨c, g, hk, rfl⟩
 | inc c w g hk _ ih => exact ih
 | Hw c b w g hk _ _ a d => exact d
 | both c w g hk _ _ a d => exact a
theorem qW.head {C : List lB} {f : lY} (h : qW C f) : ∃ c ∈ C, c.Head = f.lC := by
 cases h with
 | mem c a hk => exact ⟨c, a, rfl⟩
 | inc c w a hk _ => exact ⟨c, a, rfl⟩
 | Hw c b w a hk _ _ => exact ⟨c, a, rfl⟩
 | both c w a hk _ _ => exact ⟨c, a, rfl⟩
theorem qW.HF {C : List lB} {f : lY} (h : qW C f) : f ∈ HF C := by
 obtain ⟨c, a, _, hw⟩ := h.MZ
 exact SU.2 ⟨h.head, c, a, hw⟩
structure sD (C : List lB) (T : re) (td : List lY) (n : Int) : Prop where
 keys : (T.map (·.1)).Nodup
 nd : (FS T).Nodup
 M1 : td.Nodup
 sub : ∀ f ∈ td, f ∈ FS T
 num : n = (FS T).length
 yC : ∀ f ∈ FS T, qW C f
theorem sD.len {C : List lB} {T : re} {b : List lY} {n : Int} (h : sD C T b n) : (FS T).length ≤ C.length * C.length := by
 rw [← Fv]; exact oe h.nd (fun f a => (h.yC f a).HF)
theorem sD.Up {C : List lB} {T : re} {a : List lY} {n : Int} (h : sD C T a n) : a.length ≤ (FS T).length := oe h.M1 h.sub
theorem sD.mono {C C' : List lB} {T : re} {a : List lY} {n : Int} (h : sD C T a n) (b : ∀ c ∈ C, c ∈ C') : sD C' T a n := ⟨h.keys, h.nd, h.M1, h.sub, h.num, fun f d => (h.yC f d).mono b⟩
structure BQ (T : re) (td : List lY) (T' : re) (td' : List lY) : Prop where
 oy : ∀ f ∈ FS T, f ∈ FS T'
 todo : ∀ f ∈ td, f ∈ td'
 new : ∀ f ∈ FS T', f ∈ FS T ∨ f ∈ td'
 fresh : ∀ f ∈ td', f ∈ td ∨ f ∉ FS T
theorem BQ.refl (T : re) (a : List lY) : BQ T a T a := ⟨fun _ h => h, fun _ h => h, fun _ h => .inl h, fun _ h => .inl h⟩
theorem BQ.trans {T T' T'' : re} {g d a : List lY} (h : BQ T g T' d) (k : BQ T' d T'' a) : BQ T g T'' a :=
 ⟨fun f b => k.oy f (h.oy f b), fun f b => k.todo f (h.todo f b), fun f b => by
  rcases k.new f b with h1 | h1
  ·rcases h.new f h1 with c | c
   ·exact .inl c
   ·exact .inr (k.todo f c)
  ·exact .inr h1, fun f b => by
  rcases k.fresh f b with h1 | h1
  ·exact h.fresh f h1
  ·exact .inr (fun c => h1 (h.oy f c))⟩
theorem Jo {α : Type} (p : α → Bool) : ∀ l : List α, (l.filter p).length + (l.filter fun x => !p x).length = l.length
 | [] => rfl
 | x :: l => by
  have := Jo p l
  cases h : p x <;> simp [h] <;> omega
theorem sD.HE {C C' : List lB} {T T' : re} {d c : List lY} {n m : Int} (i : sD C' T' c m) (g : sD C T d n) (x : BQ T d T' c) : c.length + (FS T).length ≤ d.length + (FS T').length := by
 classical
 have h1 : (c.filter fun f => decide (f ∈ FS T)).length ≤ d.length := oe (i.M1.filter _) (fun f j => by
  have := bT.1 j
  rcases x.fresh f this.1 with h | h
  ·exact h
  ·exact absurd (by simpa using this.2) h)
 have k : (FS T ++ c.filter fun f => !decide (f ∈ FS T)).length ≤ (FS T').length := oe (bW.2 ⟨g.nd, i.M1.filter _, fun a ha b l e => by
  subst e
  have := (bT.1 l).2
  simp [ha] at this⟩) (fun f j => by
  rcases aO.1 j with h | h
  ·exact x.oy f h
  ·exact i.sub f (bT.1 h).1)
 have o : (c.filter fun f => decide (f ∈ FS T)).length + (c.filter fun f => !decide (f ∈ FS T)).length = c.length := by
  exact Jo (fun f => decide (f ∈ FS T)) c
 rw [aC] at k
 omega
def DV (C : List lB) (T : re) (d : List lY) (b : Option (List (lC × List (ByteArray × Bool)) × List lY × Int)) (Q : re → Prop) : Prop :=
 ∃ T' a c, b = some (mm T', a, c) ∧ sD C T' a c ∧ BQ T d T' a ∧ Q T'
theorem DV.mono {C : List lB} {T : re} {d : List lY} {a : Option (List (lC × List (ByteArray × Bool)) × List lY × Int)} {Q Q' : re → Prop} (h : DV C T d a Q) (j : ∀ T', (∀ f ∈ FS T, f ∈ FS T') → Q T' → Q' T') : DV C T d a Q' := by
 obtain ⟨T', b, k, h1, g, c, i⟩ := h
 exact ⟨T', b, k, h1, g, c, j T' c.oy i⟩
def tw (C : List lB) : Prop := C.length ≤ 1000000
theorem tw.sq {C : List lB} (h : tw C) : C.length * C.length ≤ 1000000000000 := Nat.mul_le_mul h h
theorem vu {T : re} (hk : (T.map (·.1)).Nodup) (r : lC) (w : ByteArray) : ua nq ((nA lZ (mm T) r).getD []) w false = true ↔ (⟨r, w⟩ : lY) ∈ FS T := by
 rw [NR, EY, oT nY, Dj hk]
theorem Em {C : List lB} (y : tw C) {T : re} {j : List lY} {n : Int} (h : sD C T j n) (cs : List lB) (J : List (lC × List lB)) (ws : List (ByteArray × List lB)) {r : lC} {w : ByteArray} (z : qW C ⟨r, w⟩) :
  DV C T j (pM (mm T) cs J ws j n r w) (fun T' => (⟨r, w⟩ : lY) ∈ FS T') := by
 unfold pM
 have F := y.sq
 have L := h.len
 have G := h.Up
 by_cases d : (⟨r, w⟩ : lY) ∈ FS T
 ·rw [aV ((vu h.keys r w).2 d)]
  exact ⟨T, j, n, rfl, h, BQ.refl _ _, d⟩
 ·rw [aY (fun t => d ((vu h.keys r w).1 t))]
  have D : sD C (GB T r w) (j ++ [⟨r, w⟩]) (n + 1) := by
   have hp := I7 T r w
   refine ⟨QL h.keys r w, (hp.nodup_iff).2 (bW.2 ⟨h.nd, by simp, fun a ha b m e => ?_⟩), bW.2 ⟨h.M1, by simp, fun a ha b m e => ?_⟩, fun f c => hp.mem_iff.2 ?_, ?_, fun f c => ?_⟩
   ·simp at m; subst m; subst e; exact d ha
   ·simp at m; subst m; subst e; exact d (h.sub _ ha)
   ·rcases aO.1 c with c | c
    ·exact cD _ (h.sub f c)
    ·exact dX _ c
   ·rw [hp.length_eq, h.num]; simp
   ·rcases aO.1 (hp.mem_iff.1 c) with c | c
    ·exact h.yC f c
    ·simp at c; subst c; exact z
  have u : ((if (nA lZ (mm T) r).isNone = true then ((Is lZ (mm T) r []).bind fun l => some l) else some (mm T)) : Option _).bind (fun l => (HZ lZ nq l r w true)) = some (mm (GB T r w)) := by
   unfold GB um
   rcases wD r T with i | ⟨A, x, B, rfl, s⟩
   ·have q := yb mi (Bi i)
    rw [q, yb mi i, EP mi i, F5]
    simp only [Option.isNone_none, aT, Is, q, aA]
    rw [EP mi (Bi i)]
    unfold HZ
    rw [tq mi (Bi i)]
    simp only [eG]
    rw [za mi (Bi i)]
    rfl
   ·have k := Bi s
    have v : nA lZ (mm (A ++ (r, x) :: B)) r = some (tt x) := by rw [F5]; exact tq mi k
    rw [v, tq mi s, za mi s]
    simp only [Option.isNone_some, aB, aN, aA, HZ, v, eG, gS]
    have I : w ∉ x := fun hw => d (by
     rw [Dj h.keys, um, tq mi s]; exact hw)
    rw [Ew nY]
    rw [show ins nq x w = x ++ [w] from by unfold ins; rw [aY (fun t => I ((oT nY x w).1 t))]]
    rw [F5, show mm ((r, x) :: B) = (r, tt x) :: mm B from rfl, za mi k, F5]
    rfl
  refine ⟨GB T r w, j ++ [⟨r, w⟩], n + 1, ?_, D, ⟨fun f c => (I7 T r w).mem_iff.2 (cD _ c), fun f c => cD _ c, fun f c => ?_, fun f c => ?_⟩, (I7 T r w).mem_iff.2 (by simp)⟩
  ·have g := u
   generalize ((if (nA lZ (mm T) r).isNone = true then ((Is lZ (mm T) r []).bind fun l => some l) else some (mm T)) : Option _) = o at g
   cases o with
   | none => cases g
   | some l =>
    simp only [aA] at g ⊢
    rw [g]
    simp only [aA]
    rw [om (by simp; omega) (by simp; omega)]
    simp only [aA]
    rw [nf (by rw [h.num]; omega) (by rw [h.num]; omega)]
  ·rcases aO.1 ((I7 T r w).mem_iff.1 c) with h1 | h1
   ·exact .inl h1
   ·exact .inr (dX _ h1)
  ·rcases aO.1 c with h1 | h1
   ·exact .inl h1
   ·simp at h1; subst h1; exact .inr d
end Go.Proofs.YtklbhegeiijbjaaGreat
namespace Go.Proofs.YtklbhegeiijbjaaGreat
open Go.RowKit
theorem By (l : List ByteArray) (x : ByteArray) : x ∈ xk l ↔ x ∈ l := by unfold xk; simp
def uN (C : List lB) : Prop := ∀ c ∈ C, ns c = true
theorem PA {c : lB} (h : ns c = true) (hk : c.Kind = 1) : c.mS.size ≤ 16 := by
 rcases pX h with h | h | h | h
 ·exact (ql h.2.1).2
 ·exact absurd (hk.symm.trans h.1) (by decide)
 ·exact absurd (hk.symm.trans h.1) (by decide)
 ·exact absurd (hk.symm.trans h.1) (by decide)
theorem Qq {T : re} (r : lC) (hk : (T.map (·.1)).Nodup) : (um T r).length ≤ (FS T).length := by
 unfold um
 rcases wD r T with b | ⟨A, x, B, rfl, a⟩
 ·rw [yb mi b]; simp
 ·rw [tq mi a]
  simp only [FS, jL, jj, aC, cV, gS]
  omega
theorem Ja {C : List lB} (a : tw C) (b : uN C) {T : re} {i : List lY} {n : Int} (h : sD C T i n) (cs : List lB) (j : List (lC × List lB)) (ws : List (ByteArray × List lB)) (q : List lY) (z : Int) (r : lC) :
  sM (mm T) cs j ws q z r = some (xk (um T r)) := by
 unfold sM qR
 rw [NR]
 simp only [aA, pk]
 have m := Qq r h.keys
 have k := h.len
 have l := a.sq
 unfold IC
 rw [Sy, aV]
 refine ⟨MH h.nd r, fun p hp => ?_, by rw [Gw]; omega⟩
 simp only [tt, bG] at hp
 obtain ⟨w, hw, rfl⟩ := hp
 have g := h.yC ⟨r, w⟩ ((Dj h.keys ⟨r, w⟩).2 hw)
 obtain ⟨c, d, hk, e⟩ := g.MZ
 have := PA (b c d) hk
 simp only at e ⊢
 rw [← e]
 unfold maxLen
 omega
theorem O5 {C : List lB} (g : tw C) (cs : List lB) (d : List (lC × List lB)) (ws : List (ByteArray × List lB)) (head : lC) : ∀ (l : List ByteArray) {T : re} {a : List lY} {n : Int}, sD C T a n → (∀ w ∈ l, qW C ⟨head, w⟩) →
  DV C T a (sa cs d ws head l (mm T) a n) (fun T' => ∀ w ∈ l, (⟨head, w⟩ : lY) ∈ FS T')
 | [], T, a, n, h, _ => ⟨T, a, n, rfl, h, BQ.refl _ _, fun _ hw => by cases hw⟩
 | w :: l, T, a, n, h, i => by
  rw [sa]
  obtain ⟨T1, r, s, j, g1, x1, o⟩ := Em g h cs d ws (i w (by simp))
  rw [j]
  simp only [aA]
  obtain ⟨T2, c, m, k, g2, x2, q⟩ := O5 g cs d ws head l g1 (fun w hw => i w (by simp [hw]))
  refine ⟨T2, c, m, k, g2, x1.trans x2, fun v b => ?_⟩
  rcases aS.1 b with rfl | b
  ·exact x2.oy _ o
  ·exact q v b
theorem Tu {C : List lB} (b : tw C) (d : uN C) {T : re} {a : List lY} {n : Int} (h : sD C T a n) (cs : List lB) (c : List (lC × List lB)) (ws : List (ByteArray × List lB)) (r head : lC) (g : ∀ w, (⟨r, w⟩ : lY) ∈ FS T → qW C ⟨head, w⟩) :
  DV C T a (wk (mm T) cs c ws a n r head) (fun T' => ∀ w, (⟨r, w⟩ : lY) ∈ FS T → (⟨head, w⟩ : lY) ∈ FS T') := by
 unfold wk
 rw [Ja b d h]
 simp only [aA]
 refine (O5 b cs c ws head _ h (fun w hw => g w ((Dj h.keys ⟨r, w⟩).2 ((By _ _).1 hw)))).mono (fun T' _ i w hw => i w ((By _ _).2 ((Dj h.keys ⟨r, w⟩).1 hw)))
def G1 (c : lB) (f : lY) (T T' : re) : Prop :=
 (c.Kind = 2 → f.lC = c.B → (⟨c.Head, f.mS⟩ : lY) ∈ FS T') ∧
 (c.Kind = 3 → f.lC = c.B → ∀ w, (⟨⟨f.mS, c.mK⟩, w⟩ : lY) ∈ FS T → (⟨c.Head, w⟩ : lY) ∈ FS T') ∧
 (c.Kind = 4 → (⟨c.B, f.mS⟩ : lY) ∈ FS T → (⟨c.C, f.mS⟩ : lY) ∈ FS T → (⟨c.Head, f.mS⟩ : lY) ∈ FS T')
theorem G1.mono {c : lB} {f : lY} {T T' T0 T1 : re} (h : G1 c f T T') (g : ∀ f ∈ FS T0, f ∈ FS T) (h1 : ∀ f ∈ FS T', f ∈ FS T1) : G1 c f T0 T1 :=
 ⟨fun a b => h1 _ (h.1 a b), fun a b w hw => h1 _ (h.2.1 a b w (g _ hw)), fun a b d => h1 _ (h.2.2 a (g _ b) (g _ d))⟩
theorem RO (x : Option (List (lC × List (ByteArray × Bool)) × List lY × Int)) : (x.bind fun r => some (r.1, r.2.1, r.2.2)) = x := by cases x <;> rfl
theorem O6 {C : List lB} (o : tw C) (u : uN C) {T : re} {i : List lY} {n : Int} (h : sD C T i n) (cs : List lB) (l : List (lC × List lB)) (ws : List (ByteArray × List lB)) {c : lB} (q : c ∈ C) {f : lY} (s : f ∈ FS T) (t : f.lC ∈ oM c) :
  DV C T i (uc (mm T) cs l ws i n c f) (G1 c f T) := by
 unfold uc
 simp only [RO, FD]
 by_cases a : c.Kind = 2
 ·have m : f.lC = c.B := by simpa [oM, a] using t
  rw [aV (by simp [a])]
  have r : qW C ⟨c.Head, f.mS⟩ := .inc c f.mS q a (by rw [← m]; exact h.yC f s)
  refine (Em o h cs l ws r).mono (fun T' _ g => ⟨fun _ _ => g, fun k => absurd (a.symm.trans k) (by decide), fun k => absurd (a.symm.trans k) (by decide)⟩)
 rw [aY (by simp [a])]
 by_cases b : c.Kind = 3
 ·have m : f.lC = c.B := by simpa [oM, b] using t
  rw [aV (by simp [b])]
  refine (Tu o u h cs l ws ⟨f.mS, c.mK⟩ c.Head (fun w hw => .Hw c f.mS w q b (by rw [← m]; exact h.yC f s) (h.yC _ hw))).mono (fun T' _ g => ⟨fun k => absurd k a, fun _ _ w hw => g w hw, fun k => absurd (b.symm.trans k) (by decide)⟩)
 rw [aY (by simp [b])]
 by_cases j : c.Kind = 4
 ·rw [aV (by simp [j])]
  simp only [aA]
  by_cases d : (⟨c.B, f.mS⟩ : lY) ∈ FS T ∧ (⟨c.C, f.mS⟩ : lY) ∈ FS T
  ·rw [aV (by rw [bD, vu h.keys, vu h.keys]; exact d)]
   have r : qW C ⟨c.Head, f.mS⟩ := .both c f.mS q j (h.yC _ d.1) (h.yC _ d.2)
   exact (Em o h cs l ws r).mono (fun T' _ g => ⟨fun k => absurd k a, fun k => absurd k b, fun _ _ _ => g⟩)
  ·rw [aY (by rw [bD, vu h.keys, vu h.keys]; exact d)]
   exact ⟨T, i, n, rfl, h, BQ.refl _ _, fun k => absurd k a, fun k => absurd k b, fun _ x y => absurd ⟨x, y⟩ d⟩
 ·rw [aY (by simp [j])]
  exact ⟨T, i, n, rfl, h, BQ.refl _ _, fun k => absurd k a, fun k => absurd k b, fun k => absurd k j⟩
theorem Ls {C : List lB} (i : tw C) (j : uN C) (cs : List lB) (g : List (lC × List lB)) (ws : List (ByteArray × List lB)) {c : lB} (k : c ∈ C) (m : c.B ∈ oM c) : ∀ (l : List ByteArray) {T : re} {a : List lY} {n : Int}, sD C T a n → (∀ w ∈ l, (⟨c.B, w⟩ : lY) ∈ FS T) →
  DV C T a (rn cs g ws c l (mm T) a n) (fun T' => ∀ w ∈ l, G1 c ⟨c.B, w⟩ T T')
 | [], T, a, n, h, _ => ⟨T, a, n, rfl, h, BQ.refl _ _, fun _ hw => by cases hw⟩
 | w :: l, T, a, n, h, hm => by
  rw [rn]
  obtain ⟨T1, u, x, o, g1, x1, s⟩ := O6 i j h cs g ws k (f := ⟨c.B, w⟩) (hm w (by simp)) m
  rw [o]
  simp only [aA]
  obtain ⟨T2, d, r, q, g2, x2, t⟩ := Ls i j cs g ws k m l g1 (fun w hw => x1.oy _ (hm w (by simp [hw])))
  refine ⟨T2, d, r, q, g2, x1.trans x2, fun v b => ?_⟩
  rcases aS.1 b with rfl | b
  ·exact s.mono (fun _ h => h) x2.oy
  ·exact (t v b).mono x1.oy (fun _ h => h)
def Hu (c : lB) (T : re) (a : List lY) : Prop :=
 (c.Kind = 1 → (⟨c.Head, c.mS⟩ : lY) ∈ FS T) ∧
 (c.Kind = 2 → ∀ w, (⟨c.B, w⟩ : lY) ∈ FS T → (⟨c.B, w⟩ : lY) ∉ a → (⟨c.Head, w⟩ : lY) ∈ FS T) ∧
 (c.Kind = 3 → ∀ b w, (⟨c.B, b⟩ : lY) ∈ FS T → (⟨c.B, b⟩ : lY) ∉ a → (⟨⟨b, c.mK⟩, w⟩ : lY) ∈ FS T → (⟨⟨b, c.mK⟩, w⟩ : lY) ∉ a → (⟨c.Head, w⟩ : lY) ∈ FS T) ∧
 (c.Kind = 4 → ∀ w, (⟨c.B, w⟩ : lY) ∈ FS T → (⟨c.B, w⟩ : lY) ∉ a → (⟨c.C, w⟩ : lY) ∈ FS T → (⟨c.C, w⟩ : lY) ∉ a → (⟨c.Head, w⟩ : lY) ∈ FS T)
theorem Hu.ext {c : lB} {T T' : re} {i d : List lY} (h : Hu c T i) (x : BQ T i T' d) : Hu c T' d := by
 have oy : ∀ f, f ∈ FS T' → f ∉ d → f ∈ FS T ∧ f ∉ i := fun f m j => by
  rcases x.new f m with h1 | h1
  ·exact ⟨h1, fun l => j (x.todo f l)⟩
  ·exact absurd h1 j
 refine ⟨fun k => x.oy _ (h.1 k), fun k w a b => ?_, fun k b w g a2 a3 a4 => ?_, fun k w g a2 a3 a4 => ?_⟩
 ·exact x.oy _ (h.2.1 k w (oy _ a b).1 (oy _ a b).2)
 ·exact x.oy _ (h.2.2.1 k b w (oy _ g a2).1 (oy _ g a2).2 (oy _ a3 a4).1 (oy _ a3 a4).2)
 ·exact x.oy _ (h.2.2.2 k w (oy _ g a2).1 (oy _ g a2).2 (oy _ a3 a4).1 (oy _ a3 a4).2)
theorem Rj {C : List lB} (l : tw C) (s : uN C) {T : re} {o : List lY} {n : Int} (h : sD C T o n) (cs : List lB) (r : List (lC × List lB)) (ws : List (ByteArray × List lB)) {c : lB} (t : c ∈ C) :
  ∃ T' d i, uV (mm T) cs r ws o n c = some (mm T', d, i) ∧ sD C T' d i ∧ BQ T o T' d ∧ Hu c T' d := by
 unfold uV
 simp only [RO]
 by_cases h1 : c.Kind = 1
 ·rw [aV (by simp [h1])]
  obtain ⟨T', d, i, e, g, x, q⟩ := Em l h cs r ws (qW.mem c t h1)
  exact ⟨T', d, i, e, g, x, fun _ => q, fun k => absurd (h1.symm.trans k) (by decide), fun k => absurd (h1.symm.trans k) (by decide), fun k => absurd (h1.symm.trans k) (by decide)⟩
 ·rw [aY (by simp [h1]), Ja l s h]
  simp only [aA]
  have y : c.B ∈ oM c := by unfold oM; rw [aY h1]; split <;> simp
  obtain ⟨T', d, i, e, g, x, q⟩ := Ls l s cs r ws t y (xk (um T c.B)) h (fun w hw => (Dj h.keys ⟨c.B, w⟩).2 ((By _ _).1 hw))
  have oy : ∀ f, f ∈ FS T' → f ∉ d → f ∈ FS T := fun f u v => by
   rcases x.new f u with h1 | h1
   ·exact h1
   ·exact absurd h1 v
  have m : ∀ w, (⟨c.B, w⟩ : lY) ∈ FS T → G1 c ⟨c.B, w⟩ T T' := fun w hw => q w ((By _ _).2 ((Dj h.keys ⟨c.B, w⟩).1 hw))
  refine ⟨T', d, i, e, g, x, fun k => absurd k h1, fun k w a b => ?_, fun k b w j a2 a3 a4 => ?_, fun k w j a2 a3 a4 => ?_⟩
  ·exact (m w (oy _ a b)).1 k rfl
  ·exact (m b (oy _ j a2)).2.1 k rfl w (oy _ a3 a4)
  ·exact (m w (oy _ j a2)).2.2 k (oy _ j a2) (oy _ a3 a4)
structure Gu (C : List lB) (us : List (lC × List lB)) (ws : List (ByteArray × List lB)) : Prop where
 Qv : ∀ r c, c ∈ (nA lZ us r).getD [] ↔ c ∈ C ∧ r ∈ oM c
 word : ∀ w c, c ∈ (nA nq ws w).getD [] ↔ c ∈ C ∧ c.Kind = 3 ∧ c.mK = w
 T9 : ∀ r, ((nA lZ us r).getD []).length ≤ 2 * C.length
 Uf : ∀ w, ((nA nq ws w).getD []).length ≤ C.length
theorem J1 {C : List lB} (i : tw C) (j : uN C) (cs : List lB) (g : List (lC × List lB)) (ws : List (ByteArray × List lB)) {f : lY} : ∀ (l : List lB) {T : re} {a : List lY} {n : Int}, sD C T a n → f ∈ FS T → (∀ c ∈ l, c ∈ C ∧ f.lC ∈ oM c) →
  DV C T a (qY cs g ws f l (mm T) a n) (fun T' => ∀ c ∈ l, G1 c f T T')
 | [], T, a, n, h, _, _ => ⟨T, a, n, rfl, h, BQ.refl _ _, fun _ hw => by cases hw⟩
 | c :: l, T, a, n, h, k, hm => by
  rw [qY]
  obtain ⟨T1, u, w, m, g1, x1, s⟩ := O6 i j h cs g ws (hm c (by simp)).1 k (hm c (by simp)).2
  rw [m]
  simp only [aA]
  obtain ⟨T2, d, r, o, g2, x2, t⟩ := J1 i j cs g ws l g1 (x1.oy _ k) (fun c q => hm c (by simp [q]))
  refine ⟨T2, d, r, o, g2, x1.trans x2, fun v b => ?_⟩
  rcases aS.1 b with rfl | b
  ·exact s.mono (fun _ h => h) x2.oy
  ·exact (t v b).mono x1.oy (fun _ h => h)
theorem Ga {C : List lB} (m : tw C) (u : uN C) (cs : List lB) (j : List (lC × List lB)) (ws : List (ByteArray × List lB)) {f : lY} : ∀ (l : List lB) {T : re} {g : List lY} {n : Int}, sD C T g n → f ∈ FS T → (∀ c ∈ l, c ∈ C ∧ c.Kind = 3 ∧ c.mK = f.lC.lM) →
  DV C T g (pP f cs j ws l (mm T) g n) (fun T' => ∀ c ∈ l, (⟨c.B, f.lC.lI⟩ : lY) ∈ FS T → (⟨c.Head, f.mS⟩ : lY) ∈ FS T')
 | [], T, g, n, h, _, _ => ⟨T, g, n, rfl, h, BQ.refl _ _, fun _ hw => by cases hw⟩
 | c :: l, T, g, n, h, q, hm => by
  rw [pP]
  have hk := hm c (by simp)
  by_cases i : (⟨c.B, f.lC.lI⟩ : lY) ∈ FS T
  ·rw [aV ((vu h.keys _ _).2 i)]
   have r : f = ⟨⟨f.lC.lI, c.mK⟩, f.mS⟩ := by rw [hk.2.2]
   have x : qW C ⟨c.Head, f.mS⟩ := .Hw c f.lC.lI f.mS hk.1 hk.2.1 (h.yC _ i) (by rw [← r]; exact h.yC f q)
   obtain ⟨T1, A, D, w, g1, x1, z⟩ := Em m h cs j ws x
   rw [w]
   simp only [aA]
   obtain ⟨T2, d, s, k, g2, x2, t⟩ := Ga m u cs j ws l g1 (x1.oy _ q) (fun c o => hm c (by simp [o]))
   refine ⟨T2, d, s, k, g2, x1.trans x2, fun v b a => ?_⟩
   rcases aS.1 b with rfl | b
   ·exact x2.oy _ z
   ·exact t v b (x1.oy _ a)
  ·rw [aY (fun y => i ((vu h.keys _ _).1 y))]
   obtain ⟨T2, d, s, k, g2, x2, t⟩ := Ga m u cs j ws l h q (fun c o => hm c (by simp [o]))
   refine ⟨T2, d, s, k, g2, x2, fun v b a => ?_⟩
   rcases aS.1 b with rfl | b
   ·exact absurd a i
   ·exact t v b a
theorem Kp {C : List lB} (F : tw C) (G : uN C) {cs : List lB} {A : List (lC × List lB)} {ws : List (ByteArray × List lB)} (u : Gu C A ws) : ∀ (m : Nat) {T : re} {l : List lY} {n : Int}, sD C T l n → (∀ c ∈ C, Hu c T l) → C.length * C.length + l.length < m + (FS T).length →
  ∃ T' L, ph cs A ws m (mm T) l n = some (mm T', [], L) ∧ sD C T' [] L ∧ (∀ c ∈ C, Hu c T' []) ∧ (∀ f ∈ FS T, f ∈ FS T')
 | 0, T, l, n, h, _, hm => by have := h.len; omega
 | m + 1, T, [], n, h, q, hm => by
  rw [ph]
  exact ⟨T, n, rfl, h, q, fun _ h => h⟩
 | m + 1, T, f :: l, n, h, q, hm => by
  rw [ph]
  rw [aV (by simp)]
  have J : f ∈ FS T := h.sub f (by simp)
  have R := (dC.1 h.M1)
  simp only [nD, Int.le_refl, aT, Int.toNat_zero, iZ, aA]
  rw [show rG (decide ((0 : Nat) ≤ 1) && decide ((1 : Int) ≤ ((f :: l).length : Int))) = some () by simp [rG]; omega]
  simp only [aA, show Int.toNat 1 = 1 from rfl, List.drop_one, List.tail_cons]
  have I : sD C T l n := ⟨h.keys, h.nd, R.2, fun g y => h.sub g (by simp [y]), h.num, h.yC⟩
  obtain ⟨T1, a6, n1, O, g1, x1, Z⟩ := J1 F G cs A ws ((nA lZ A f.lC).getD []) I J (fun c i => (u.Qv _ c).1 i)
  rw [O]
  simp only [aA]
  obtain ⟨T2, r, n2, P, g2, x2, q2⟩ := Ga F G cs A ws ((nA nq ws f.lC.lM).getD []) g1 (x1.oy _ J) (fun c i => (u.word _ c).1 i)
  rw [P]
  simp only [aA]
  have x := x1.trans x2
  have oy : ∀ g, g ∈ FS T2 → g ∉ r → g ∈ FS T ∧ (g = f ∨ g ∉ f :: l) := fun g y z => by
   rcases x.new g y with h1 | h1
   ·refine ⟨h1, ?_⟩
    by_cases he : g = f
    ·exact .inl he
    ·exact .inr (fun t => by
      rcases aS.1 t with t | t
      ·exact he t
      ·exact z (x.todo g t))
   ·exact absurd h1 z
  have d1 : ∀ c ∈ C, f.lC ∈ oM c → G1 c f T T2 := fun c i U => (Z c ((u.Qv _ c).2 ⟨i, U⟩)).mono (fun _ h => h) x2.oy
  have v : ∀ c ∈ C, Hu c T2 r := fun c i => by
   have k := q c i
   refine ⟨fun hk => x.oy _ (k.1 hk), fun hk w a b => ?_, fun hk b w D a2 a3 a4 => ?_, fun hk w D a2 a3 a4 => ?_⟩
   ·obtain ⟨o, d⟩ := oy _ a b
    rcases d with d | d
    ·subst d; exact (d1 c i (by simp [oM, hk])).1 hk rfl
    ·exact x.oy _ (k.2.1 hk w o d)
   ·obtain ⟨o, d⟩ := oy _ D a2
    obtain ⟨s, j⟩ := oy _ a3 a4
    rcases d with d | d
    ·subst d; exact (d1 c i (by simp [oM, hk])).2.1 hk rfl w s
    ·rcases j with j | j
     ·subst j
      exact q2 c ((u.word _ c).2 ⟨i, hk, rfl⟩) (x1.oy _ o)
     ·exact x.oy _ (k.2.2.1 hk b w o d s j)
   ·obtain ⟨o, d⟩ := oy _ D a2
    obtain ⟨s, j⟩ := oy _ a3 a4
    rcases d with d | d
    ·subst d; exact (d1 c i (by simp [oM, hk])).2.2 hk o s
    ·rcases j with j | j
     ·subst j; exact (d1 c i (by simp [oM, hk])).2.2 hk o s
     ·exact x.oy _ (k.2.2.2 hk w o d s j)
  have hlen : r.length + (FS T).length ≤ l.length + (FS T2).length := by
   exact g2.HE I x
  obtain ⟨T3, W, Q, g3, M, Y⟩ := Kp F G u m g2 v (by simp only [aP] at hm; omega)
  exact ⟨T3, W, Q, g3, M, fun g y => Y g (x.oy g y)⟩
end Go.Proofs.YtklbhegeiijbjaaGreat
namespace Go.Proofs.YtklbhegeiijbjaaGreat
open Go.RowKit
theorem NK (c : lB) : ∀ (l : List lB) (i : Nat), ∃ z, rZ c l i = some z ∧ (z ≥ 0 ↔ c ∈ l)
 | [], i => ⟨-1, rfl, by simp⟩
 | x :: l, i => by
  rw [rZ]
  by_cases h : mC c x = true
  ·rw [aV h]
   exact ⟨_, rfl, by simp [nF.1 h]⟩
  ·rw [aY h]
   obtain ⟨z, e, b⟩ := NK c l (i + 1)
   refine ⟨z, e, ?_⟩
   rw [b, aS]
   exact ⟨.inr, fun a => a.resolve_left (fun e => h (nF.2 e))⟩
theorem LV (c : lB) (l : List lB) : ∃ b, rL l c = some b ∧ (b = true ↔ c ∈ l) := by
 obtain ⟨z, e, a⟩ := NK c l 0
 refine ⟨decide (z ≥ 0), ?_, by simpa using a⟩
 unfold rL uD yj
 rw [e]
 rfl
theorem M8 (c : lB) (ws : List (ByteArray × List lB)) (C : List lB) (hw : ∀ w, ((nA nq ws w).getD []).length ≤ 2000000) : ∀ (j : List lC) (a : List (lC × List lB)), (∀ r, ((nA lZ a r).getD []).length + j.length ≤ 4000000) →
  ∃ g i, qD c ws C j a = some (C, g, i) ∧ (∀ r x, x ∈ (nA lZ g r).getD [] ↔ x ∈ (nA lZ a r).getD [] ∨ (x = c ∧ r ∈ j)) ∧
   (∀ w x, x ∈ (nA nq i w).getD [] ↔ x ∈ (nA nq ws w).getD [] ∨ (x = c ∧ c.Kind = 3 ∧ w = c.mK)) ∧ (∀ r, ((nA lZ g r).getD []).length ≤ ((nA lZ a r).getD []).length + j.length) ∧
   (∀ w, ((nA nq i w).getD []).length ≤ ((nA nq ws w).getD []).length + 1)
 | [], a, _ => by
  rw [qD]
  by_cases k : c.Kind = 3
  ·rw [aV (by simp [k])]
   have h := hw c.mK
   rw [om (by simp; omega) (by simp; omega)]
   simp only [aA]
   refine ⟨a, _, rfl, by simp, fun w x => ?_, by simp, fun w => ?_⟩
   ·rw [BP nY]
    by_cases hk : nq w c.mK = true
    ·rw [aV hk, nY.1 hk]; simp [k]
    ·rw [aY hk]
     have : w ≠ c.mK := fun e => hk (nY.2 e)
     simp [this]
   ·rw [BP nY]
    by_cases hk : nq w c.mK = true
    ·rw [aV hk, nY.1 hk]; simp
    ·rw [aY hk]; exact kk _
  ·rw [aY (by simp [k])]
   exact ⟨a, ws, rfl, by simp, by simp [k], by simp, by simp⟩
 | b :: j, a, l => by
  rw [qD]
  have h := l b
  simp only [aP] at h
  rw [om (by simp; omega) (by simp; omega)]
  simp only [aA]
  have d : ∀ r, (nA lZ (oz lZ a b (((nA lZ a b).getD []) ++ [c])) r).getD [] = if lZ r b = true then ((nA lZ a b).getD []) ++ [c] else (nA lZ a r).getD [] := fun r => by
   rw [BP mi]; by_cases hk : lZ r b = true
   ·rw [aV hk, aV hk]; rfl
   ·rw [aY hk, aY hk]
  obtain ⟨g, i, e, m, a2, a3, a4⟩ := M8 c ws C hw j (oz lZ a b (((nA lZ a b).getD []) ++ [c])) (fun r => by
   rw [d r]
   have n := l r
   simp only [aP] at n
   by_cases hk : lZ r b = true
   ·rw [aV hk]; simp; omega
   ·rw [aY hk]; omega)
  refine ⟨g, i, e, fun r x => ?_, a2, fun r => ?_, a4⟩
  ·rw [m, d]
   by_cases hk : lZ r b = true
   ·rw [aV hk, mi.1 hk]
    simp only [aO, aS, dV, iM]
    constructor
    ·rintro ((h | h) | h)
     ·exact .inl h
     ·exact .inr ⟨h, .inl trivial⟩
     ·exact .inr ⟨h.1, .inr h.2⟩
    ·rintro (h | h)
     ·exact .inl (.inl h)
     ·exact .inl (.inr h.1)
   ·rw [aY hk]
    have : r ≠ b := fun e => hk (mi.2 e)
    simp [this]
  ·have := a3 r
   rw [d r] at this
   by_cases hk : lZ r b = true
   ·rw [aV hk] at this; rw [mi.1 hk] at this ⊢; simp at this ⊢; omega
   ·rw [aY hk] at this; simp; omega
theorem Sk {C : List lB} {j : List (lC × List lB)} {ws : List (ByteArray × List lB)} (g : Gu C j ws) (q : C.length + 1 ≤ 1000000) {c : lB} (l : ns c = true) (i : List (lC × List (ByteArray × Bool))) (o : List lY) (n : Int) :
  ∃ a b, vy i C j ws o n c = some (C ++ [c], a, b) ∧ Gu (C ++ [c]) a b := by
 unfold vy
 rw [om (by simp; omega) (by simp; omega)]
 simp only [aA, O3 l]
 rw [show rG (decide ((0 : Nat) ≤ 1) && decide ((1 : Int) ≤ ((c.Head :: oM c).length : Int))) = some () by simp [rG]; omega]
 simp only [aA, show Int.toNat 1 = 1 from rfl, List.drop_one, List.tail_cons]
 have m : (oM c).length ≤ 2 := by unfold oM; split; simp; split <;> simp
 obtain ⟨a, b, e, k, a2, a3, a4⟩ := M8 c ws (C ++ [c]) (fun w => by have := g.Uf w; omega) (oM c) j (fun r => by have := g.T9 r; omega)
 refine ⟨a, b, e, fun r x => ?_, fun w x => ?_, fun r => ?_, fun w => ?_⟩
 ·rw [k, g.Qv, aO, bF]
  constructor
  ·rintro (h | h)
   ·exact ⟨.inl h.1, h.2⟩
   ·exact ⟨.inr h.1, by rw [h.1]; exact h.2⟩
  ·rintro ⟨h | h, d⟩
   ·exact .inl ⟨h, d⟩
   ·exact .inr ⟨h, by rw [← h]; exact d⟩
 ·rw [a2, g.word, aO, bF]
  constructor
  ·rintro (h | h)
   ·exact ⟨.inl h.1, h.2⟩
   ·exact ⟨.inr h.1, by rw [h.1]; exact ⟨h.2.1, h.2.2.symm⟩⟩
  ·rintro ⟨h | h, d⟩
   ·exact .inl ⟨h, d⟩
   ·subst h; exact .inr ⟨rfl, d.1, d.2.symm⟩
 ·have := a3 r; have := g.T9 r; simp; omega
 ·have := a4 w; have := g.Uf w; simp; omega
structure MS (C : List lB) (T : re) (us : List (lC × List lB)) (ws : List (ByteArray × List lB)) (n : Int) : Prop where
 F8 : sD C T [] n
 cl : ∀ c ∈ C, Hu c T []
 Vh : Gu C us ws
 right : uN C
theorem MS.all {C : List lB} {T : re} {j : List (lC × List lB)} {ws : List (ByteArray × List lB)} {n : Int} (h : MS C T j ws n) (f : lY) : f ∈ FS T ↔ qW C f := by
 refine ⟨h.F8.yC f, fun i => ?_⟩
 induction i with
 | mem c a hk => exact (h.cl c a).1 hk
 | inc c w a hk _ ih => exact (h.cl c a).2.1 hk w ih (by simp)
 | Hw c b w a hk _ _ d g => exact (h.cl c a).2.2.1 hk b w d (by simp) g (by simp)
 | both c w a hk _ _ d g => exact (h.cl c a).2.2.2 hk w d (by simp) g (by simp)
theorem LF (r : Int) (z : 0 ≤ r ∧ r ≤ 1000000000000) : ∀ (l : List lB) {C : List lB} {T : re} {q : List lY} {A : List (lC × List lB)} {ws : List (ByteArray × List lB)} {n : Int}, sD C T q n → (∀ c ∈ C, Hu c T q) → Gu C A ws → uN C → C.length + l.length ≤ 1000000 →
  ∃ C' T' a d j, pN r l (mm T) C A ws q n = some (j - r, mm T', C', a, d, [], j) ∧ MS C' T' a d j ∧ (∀ c, c ∈ C' ↔ c ∈ C ∨ (c ∈ l ∧ ns c = true)) ∧ C'.length ≤ C.length + l.length ∧ (∀ f ∈ FS T, f ∈ FS T')
 | [], C, T, q, A, ws, n, g, i, u, s, M => by
  rw [pN]
  have W : tw C := by unfold tw; simp at M; omega
  have a6 := W.sq
  have hlen := g.len
  have a7 := g.Up
  obtain ⟨T', j, e, G, Z, o⟩ := Kp W s u (cs := C) mR g i (by rw [yc]; omega)
  unfold wO
  rw [e]
  simp only [aA]
  have O := G.len
  have Y := G.num
  rw [nf (by omega) (by omega)]
  exact ⟨C, T', A, ws, j, rfl, ⟨G, Z, u, s⟩, by simp, by simp, o⟩
 | x :: l, C, T, q, A, ws, n, g, i, u, s, M => by
  rw [pN, wH]
  simp only [aP] at M
  obtain ⟨b, hb, v⟩ := LV x C
  simp only [aA, hb, FD]
  by_cases k : ns x = true ∧ x ∉ C
  ·have J : b = false := by cases b with | false => rfl | true => exact absurd (v.1 rfl) k.2
   rw [k.1, J]
   simp only [eL, Bool.and_self, aT]
   obtain ⟨R, U, e1, U1⟩ := Sk u (by omega) k.1 (mm T) q n
   rw [e1]
   simp only [aA]
   have I : tw (C ++ [x]) := by unfold tw; simp; omega
   have t : uN (C ++ [x]) := fun c w => by
    rcases aO.1 w with h | h
    ·exact s c h
    ·simp at h; subst h; exact k.1
   have g1 : sD (C ++ [x]) T q n := g.mono (fun c w => cD _ w)
   obtain ⟨T2, Q, n2, e2, g2, x2, c2⟩ := Rj I t g1 (C ++ [x]) R U (c := x) (by simp)
   rw [e2]
   simp only [aA]
   have y : ∀ c ∈ C ++ [x], Hu c T2 Q := fun c w => by
    rcases aO.1 w with h | h
    ·exact (i c h).ext x2
    ·simp at h; subst h; exact c2
   obtain ⟨C', T', a, d, j, e, m, F, a2, a3⟩ := LF r z l g2 y U1 t (by simp; omega)
   refine ⟨C', T', a, d, j, e, m, fun c => ?_, by simp at a2 ⊢; omega, fun f L => a3 f (x2.oy f L)⟩
   rw [F]
   simp only [aO, aS, dV, iM]
   constructor
   ·rintro ((h | h) | h)
    ·exact .inl h
    ·subst h; exact .inr ⟨.inl rfl, k.1⟩
    ·exact .inr ⟨.inr h.1, h.2⟩
   ·rintro (h | ⟨h | h, D⟩)
    ·exact .inl (.inl h)
    ·exact .inl (.inr h)
    ·exact .inr ⟨h, D⟩
  ·have L : (ns x && !b) = false := by
    cases hr : ns x with
    | false => rfl
    | true =>
     have : x ∈ C := fZ fun P => k ⟨hr, P⟩
     rw [v.2 this]; rfl
   rw [L]
   simp only [aB, aN]
   obtain ⟨C', T', a, d, j, e, m, F, a2, a3⟩ := LF r z l g i u s (by omega)
   refine ⟨C', T', a, d, j, e, m, fun c => ?_, by simp; omega, a3⟩
   rw [F, aS]
   constructor
   ·rintro (h | h)
    ·exact .inl h
    ·exact .inr ⟨.inr h.1, h.2⟩
   ·rintro (h | ⟨h | h, D⟩)
    ·exact .inl h
    ·subst h
     exact .inl (fZ fun P => k ⟨D, P⟩)
    ·exact .inr ⟨h, D⟩
theorem S0 {C : List lB} {T : re} {g : List (lC × List lB)} {ws : List (ByteArray × List lB)} {n : Int} (h : MS C T g ws n) (l : List lB) (j : C.length + l.length ≤ 1000000) :
  ∃ C' T' a b d, wj (mm T) C g ws [] n l = some (d - n, mm T', C', a, b, [], d) ∧ MS C' T' a b d ∧ (∀ c, c ∈ C' ↔ c ∈ C ∨ (c ∈ l ∧ ns c = true)) ∧ C'.length ≤ C.length + l.length ∧ (∀ f ∈ FS T, f ∈ FS T') := by
 have i : tw C := by unfold tw; omega
 have h1 := h.F8.len
 have k := i.sq
 have m := h.F8.num
 exact LF n ⟨by omega, by omega⟩ l h.F8 h.cl h.Vh h.right j
theorem Gu.zero : Gu [] [] [] := ⟨fun r c => by simp [nA], fun w c => by simp [nA], fun r => by simp [nA], fun w => by simp [nA]⟩
theorem sD.zero : sD [] [] [] 0 := ⟨by simp, by simp [FS], by simp, by simp, by simp [FS], by simp [FS]⟩
theorem MS.zero : MS [] [] [] [] 0 := ⟨sD.zero, fun c a => (by cases a), Gu.zero, fun c a => (by cases a)⟩
theorem Oc (l : List lB) (h : l.length ≤ 1000000) : ∃ C T d ws n, xA l = some (mm T, C, d, ws, [], n) ∧ MS C T d ws n ∧ (∀ c, c ∈ C ↔ c ∈ l ∧ ns c = true) ∧ C.length ≤ l.length := by
 unfold xA
 obtain ⟨C', T', a, b, i, e, m, g, a2, a3⟩ := S0 MS.zero l (by simpa using h)
 rw [show wj [] [] [] [] [] 0 l = _ from e]
 exact ⟨C', T', a, b, i, rfl, m, by simpa using g, by simpa using a2⟩
theorem qW.congr {C C' : List lB} (h : ∀ c, c ∈ C ↔ c ∈ C') (f : lY) : qW C f ↔ qW C' f := ⟨fun d => d.mono (fun c a => (h c).1 a), fun d => d.mono (fun c a => (h c).2 a)⟩
end Go.Proofs.YtklbhegeiijbjaaGreat
namespace Go.Proofs.YtklbhegeiijbjaaGreat
open Go.RowKit
def A6 (a b : lY) : Bool := A8 a.lC b.lC || (lZ a.lC b.lC && tf a.mS b.mS)
theorem Cw {a b : lY} : A6 a b = true ↔ A8 a.lC b.lC = true ∨ (a.lC = b.lC ∧ tf a.mS b.mS = true) := by simp [A6, mi]
def FA (_ : lY) : Bool := true
theorem I8 : B4 (fun a b => A6 a b = true) (fun x => FA x = true) := by
 have H := AM (fun _ => True)
 refine ⟨fun x _ => ?_, fun x y z _ _ _ h1 c => ?_, fun x y _ _ => ?_⟩
 ·rw [Cw]
  rintro (h | ⟨_, h⟩)
  ·exact H.irrefl _ trivial h
  ·rw [vv] at h; cases h
 ·rw [Cw] at *
  rcases h1 with h1 | ⟨g, h1⟩
  ·rcases c with c | ⟨d, c⟩
   ·exact .inl (H.trans _ _ _ trivial trivial trivial h1 c)
   ·exact .inl (by rw [← d]; exact h1)
  ·rcases c with c | ⟨d, c⟩
   ·exact .inl (by rw [g]; exact c)
   ·exact .inr ⟨g.trans d, BS h1 c⟩
 ·simp only [Cw]
  rcases H.total x.lC y.lC trivial trivial with h | h | h
  ·exact .inl (.inl h)
  ·rcases BL x.mS y.mS with c | c | c
   ·exact .inl (.inr ⟨h, c⟩)
   ·refine .inr (.inl ?_)
    cases x; cases y; simp at h c; simp [h, c]
   ·exact .inr (.inr (.inr ⟨h.symm, c⟩))
  ·exact .inr (.inr (.inl h))
theorem I9 (a b : ByteArray) : rp a b = 0 ↔ a = b := by unfold rp; rw [Io]; exact ⟨CH, fun h => by rw [h]⟩
theorem Ux (a b : ByteArray) : rp a b < 0 ↔ tf a b = true := by rw [Bf]; exact Ev _ _
theorem P6 (a b : lC) : ∃ c, pG a b = some c ∧ (c < 0 ↔ A8 a b = true) ∧ (c = 0 ↔ a = b) := by
 obtain ⟨c, e, h⟩ := wZ a b
 refine ⟨c, e, h, ?_⟩
 unfold pG at e
 simp only [rO, pt, aA, xd, uU, pk] at e
 by_cases d : rp a.lI b.lI = 0
 ·rw [aY (by simp [d])] at e
  have h1 := (I9 _ _).1 d
  by_cases g : rp a.lM b.lM = 0
  ·rw [aY (by simp [g])] at e
   have i := (I9 _ _).1 g
   cases e
   refine ⟨fun _ => ?_, fun _ => rfl⟩
   cases a; cases b; simp at h1 i; simp [h1, i]
  ·rw [aV (by simp [g])] at e
   cases e
   exact ⟨fun k => absurd k g, fun k => by rw [k] at g; exact absurd ((I9 _ _).2 rfl) g⟩
 ·rw [aV (by simp [d])] at e
  cases e
  exact ⟨fun k => absurd k d, fun k => by rw [k] at d; exact absurd ((I9 _ _).2 rfl) d⟩
theorem Qu (a b : lY) : ∃ c, sn a b = some c ∧ (c < 0 ↔ A6 a b = true) := by
 unfold sn
 obtain ⟨c, e, h1, i⟩ := P6 a.lC b.lC
 rw [e]
 simp only [rO, pt, aA, xd, uU, pk]
 by_cases g : c = 0
 ·rw [aY (by simp [g])]
  have l := i.1 g
  have d : ¬ A8 a.lC b.lC = true := fun j => by have := h1.2 j; omega
  by_cases h : rp a.mS b.mS = 0
  ·rw [aY (by simp [h])]
   refine ⟨0, rfl, ?_⟩
   rw [Cw]
   simp [d, (I9 _ _).1 h, vv]
  ·rw [aV (by simp [h])]
   refine ⟨_, rfl, ?_⟩
   rw [Cw, Ux]
   exact ⟨fun k => .inr ⟨l, k⟩, fun k => k.elim (fun k => absurd k d) (·.2)⟩
 ·rw [aV (by simp [g])]
  refine ⟨c, rfl, ?_⟩
  rw [Cw, h1]
  have : a.lC ≠ b.lC := fun k => g (i.2 k)
  simp [this]
theorem NP {α : Type} {eq : α → α → Bool} (he : ∀ x y, eq x y = true ↔ x = y) : ∀ (l : List α) (p : α), (p :: l).Nodup → ry eq p l = l
 | [], p, _ => rfl
 | y :: l, p, h => by
  have h1 := dC.1 h
  rw [ry, aY (fun e => h1.1 (by rw [← (he _ _).1 e]; simp)), NP he l y h1.2]
theorem UQ {α : Type} {eq : α → α → Bool} (he : ∀ x y, eq x y = true ↔ x = y) : ∀ l : List α, l.Nodup → dd eq l = l
 | [], _ => rfl
 | x :: l, h => by rw [dd, NP he l x h]
def CE (P : lY → Prop) (s : List lY) : Prop := s.Pairwise (fun a b => A6 a b = true) ∧ ∀ f, f ∈ s ↔ P f
theorem CE.unique {P : lY → Prop} {s t : List lY} (h : CE P s) (k : CE P t) : s = t :=
 sU.unique (l := s) I8 ⟨h.1, fun x => ⟨fun a => ⟨a, rfl⟩, fun a => a.1⟩⟩ ⟨k.1, fun x => by rw [k.2, h.2]; exact ⟨fun a => ⟨a, rfl⟩, fun a => a.1⟩⟩
theorem II {l : List lY} (d : l.Nodup) (j : l.length ≤ 1000000000000) : ∃ s, zX (fun (x : lY × lY) => sn x.1 x.2) l = some s ∧ CE (fun f => f ∈ l) s := by
 obtain ⟨s, h1, i, c⟩ := D5 (eq := Cy) (lt := fun a b => A6 a b = true) (P := fun x => FA x = true) (cf := fun (x : lY × lY) => sn x.1 x.2) (l := l) (fun x y => zu) I8 (fun _ _ => rfl) (by omega) (fun x y _ _ => Qu x y)
 have g : s.Nodup := by
  have := (Jh h1).2
  rw [this]
  unfold vN
  exact (jK l _).nodup_iff.2 d
 rw [UQ (fun x y => zu) s g] at c
 exact ⟨s, h1, c.1, fun f => by rw [c.2]; exact ⟨fun h => h.1, fun h => ⟨h, rfl⟩⟩⟩
theorem SZ (T : re) : (mm T).flatMap (fun p => p.2.map (fun q => (fun (a : lC) (b : ByteArray) => (⟨a, b⟩ : lY)) p.1 q.1)) = FS T := by
 unfold mm FS tt
 rw [List.flatMap_map]
 congr 1
 funext p
 simp [iw]
theorem Q7 {C : List lB} (i : tw C) {T : re} {l : List (lC × List lB)} {ws : List (ByteArray × List lB)} {n : Int} (h : MS C T l ws n) (cs : List lB) (u : List (lC × List lB)) (w : List (ByteArray × List lB)) (k : List lY) (z : Int) :
  ∃ s, yi (mm T) cs u w k z = some s ∧ CE (qW C) s := by
 have j := i.sq
 have hlen := h.F8.len
 obtain ⟨s, m, g⟩ := II h.F8.nd (by omega)
 have d : CE (qW C) s := ⟨g.1, fun f => (g.2 f).trans (h.all f)⟩
 refine ⟨s, ?_, d⟩
 unfold yi PO
 rw [SZ]
 rw [aV ⟨by omega, by unfold maxLen; omega⟩]
 simp only [aA, pk]
 refine Ix (fun o b => ?_)
 obtain ⟨q, c, a⟩ := II ((b.nodup_iff).2 h.F8.nd) (by rw [b.length_eq]; omega)
 rw [c]
 congr 1
 exact CE.unique ⟨a.1, fun f => (a.2 f).trans (b.mem_iff.trans (h.all f))⟩ d
theorem Rk (r : lC) (w : ByteArray) : ∀ l : List lY, ∃ b, zK r w l = some b ∧ (b = true ↔ (⟨r, w⟩ : lY) ∈ l)
 | [] => ⟨false, rfl, by simp⟩
 | x :: l => by
  rw [zK]
  simp only [FD, aA]
  obtain ⟨b, e, d⟩ := Rk r w l
  by_cases h : (lZ x.lC r && nq x.mS w) = true
  ·rw [aV h]
   have a : x = ⟨r, w⟩ := by
    rw [bD, mi, nY] at h
    cases x; simp at h; simp [h]
   exact ⟨true, rfl, by simp [a]⟩
  ·rw [aY h]
   refine ⟨b, e, ?_⟩
   rw [d, aS]
   refine ⟨.inr, fun c => c.resolve_left (fun e => h ?_)⟩
   rw [← e]; simp [xm, xr]
theorem Bc (l : List lY) (r : lC) (w : ByteArray) : ∃ b, xF l r w = some b ∧ (b = true ↔ (⟨r, w⟩ : lY) ∈ l) := Rk r w l
def yQ (l : List lY) (c : lB) (names : List ByteArray) (w : ByteArray) : Prop :=
 (c.Kind = 1 ∧ c.mS = w) ∨ (c.Kind = 2 ∧ (⟨c.B, w⟩ : lY) ∈ l) ∨ (c.Kind = 4 ∧ (⟨c.B, w⟩ : lY) ∈ l ∧ (⟨c.C, w⟩ : lY) ∈ l) ∨
 (c.Kind ≠ 1 ∧ c.Kind ≠ 2 ∧ c.Kind ≠ 4 ∧ ∃ b ∈ names, (⟨c.B, b⟩ : lY) ∈ l ∧ (⟨⟨b, c.mK⟩, w⟩ : lY) ∈ l)
theorem IA (l : List lY) (c : lB) (w : ByteArray) : ∀ names : List ByteArray, ∃ b, yn l c w names = some b ∧ (b = true ↔ ∃ b ∈ names, (⟨c.B, b⟩ : lY) ∈ l ∧ (⟨⟨b, c.mK⟩, w⟩ : lY) ∈ l)
 | [] => ⟨false, rfl, by simp⟩
 | x :: names => by
  rw [yn]
  obtain ⟨g, j, h1⟩ := Bc l c.B x
  obtain ⟨i, k, d⟩ := Bc l ⟨x, c.mK⟩ w
  obtain ⟨b, e, m⟩ := IA l c w names
  rw [j, k, e]
  simp only [aA, FD]
  by_cases h : (g && i) = true
  ·rw [aV h]
   rw [bD, h1, d] at h
   exact ⟨true, rfl, by simp [h]⟩
  ·rw [aY h]
   rw [bD, h1, d] at h
   refine ⟨b, rfl, ?_⟩
   rw [m]
   constructor
   ·rintro ⟨y, a, q⟩; exact ⟨y, by simp [a], q⟩
   ·rintro ⟨y, a, q⟩
    rcases aS.1 a with rfl | a
    ·exact absurd q h
    ·exact ⟨y, a, q⟩
theorem R5 (l : List lY) (c : lB) (names : List ByteArray) (w : ByteArray) : ∃ b, CZ l c names w = some b ∧ (b = true ↔ yQ l c names w) := by
 unfold CZ yQ
 simp only [pk]
 by_cases h1 : c.Kind = 1
 ·rw [aV (by simp [h1])]; exact ⟨_, rfl, by simp [h1, nY]⟩
 rw [aY (by simp [h1])]
 by_cases a : c.Kind = 2
 ·rw [aV (by simp [a])]
  obtain ⟨b, e, g⟩ := Bc l c.B w
  exact ⟨b, e, by simp [a, g]⟩
 rw [aY (by simp [a])]
 by_cases d : c.Kind = 4
 ·rw [aV (by simp [d])]
  obtain ⟨m, j, h⟩ := Bc l c.B w
  obtain ⟨n, k, i⟩ := Bc l c.C w
  rw [j, k]
  simp only [aA, FD]
  exact ⟨_, rfl, by simp [d, h, i]⟩
 rw [aY (by simp [d])]
 obtain ⟨b, e, g⟩ := IA l c w names
 exact ⟨b, e, by rw [g]; simp [h1, a, d]⟩
theorem yQ.yC {C : List lB} {l : List lY} (a : ∀ f ∈ l, qW C f) {c : lB} (d : c ∈ C) (hk : c.Kind = 1 ∨ c.Kind = 2 ∨ c.Kind = 3 ∨ c.Kind = 4) {names : List ByteArray} {w : ByteArray} (h : yQ l c names w) : qW C ⟨c.Head, w⟩ := by
 rcases h with ⟨k, rfl⟩ | ⟨k, h⟩ | ⟨k, h1, g⟩ | ⟨i, k2, j, b, _, h1, g⟩
 ·exact .mem c d k
 ·exact .inc c w d k (a _ h)
 ·exact .both c w d k (a _ h1) (a _ g)
 ·exact .Hw c b w d (by omega) (a _ h1) (a _ g)
theorem OI {c : lB} (h : ns c = true) : c.Kind = 1 ∨ c.Kind = 2 ∨ c.Kind = 3 ∨ c.Kind = 4 := by rcases pX h with h | h | h | h <;> simp [h.1]
structure Gq (C : List lB) (out : List lY) : Prop where
 nd : out.Nodup
 yC : ∀ f ∈ out, qW C f
theorem Gq.len {C : List lB} {out : List lY} (h : Gq C out) : out.length ≤ C.length * C.length := by
 rw [← Fv]; exact oe h.nd (fun f a => (h.yC f a).HF)
theorem Ig {C : List lB} (s : tw C) (t : uN C) {c : lB} (m : c ∈ C) (names : List ByteArray) : ∀ (l : List ByteArray) (out : List lY) (i : Bool), Gq C out →
  ∃ g d, xY c names l out i = some (g, d) ∧ Gq C g ∧ (d = true → i = true ∨ out.length < g.length) ∧ (d = false → i = false ∧ g = out ∧ ∀ w ∈ l, yQ out c names w → (⟨c.Head, w⟩ : lY) ∈ out) ∧ out.length ≤ g.length
 | [], out, i, h => ⟨out, i, rfl, h, .inl, fun h => ⟨h, rfl, fun _ hw => by cases hw⟩, aW _⟩
 | w :: l, out, i, h => by
  rw [xY]
  obtain ⟨y, F, h1⟩ := Bc out c.Head w
  obtain ⟨D, G, z⟩ := R5 out c names w
  rw [F, G]
  simp only [aA, FD]
  by_cases j : (!y && D) = true
  ·rw [aV j]
   rw [bD] at j
   have u : (⟨c.Head, w⟩ : lY) ∉ out := fun J => by have := h1.2 J; rw [this] at j; exact absurd j.1 (by decide)
   have M := h.len
   have L := s.sq
   rw [om (by simp; omega) (by simp; omega)]
   simp only [aA]
   have I : Gq C (out ++ [⟨c.Head, w⟩]) := ⟨bW.2 ⟨h.nd, by simp, fun a ha b j e => by simp at j; subst j; subst e; exact u ha⟩, fun f k => by
    rcases aO.1 k with k | k
    ·exact h.yC f k
    ·simp at k; subst k; exact (z.1 j.2).yC h.yC m (OI (t c m))⟩
   obtain ⟨g, d, e, n, a2, a3, a4⟩ := Ig s t m names l _ true I
   simp at a4
   exact ⟨g, d, e, n, fun _ => .inr (by omega), fun k => (by cases (a3 k).1), by omega⟩
  ·rw [aY j]
   obtain ⟨g, d, e, n, a2, a3, a4⟩ := Ig s t m names l out i h
   refine ⟨g, d, e, n, a2, fun k => ?_, a4⟩
   obtain ⟨o, q, r⟩ := a3 k
   refine ⟨o, q, fun v x A => ?_⟩
   rcases aS.1 x with rfl | x
   ·refine fZ fun u => j ?_
    rw [bD, z.2 A]
    cases y with
    | false => exact ⟨rfl, rfl⟩
    | true => exact absurd (h1.1 rfl) u
   ·exact r v x A
theorem Lr {C : List lB} (m : tw C) (n : uN C) (names : List ByteArray) : ∀ (l : List lB) (out : List lY) (a : Bool), (∀ c ∈ l, c ∈ C) → Gq C out →
  ∃ b g, Aa names l out a = some (b, g) ∧ Gq C b ∧ (g = true → a = true ∨ out.length < b.length) ∧ (g = false → a = false ∧ b = out ∧ ∀ c ∈ l, ∀ w ∈ names, yQ out c names w → (⟨c.Head, w⟩ : lY) ∈ out) ∧ out.length ≤ b.length
 | [], out, a, _, h => ⟨out, a, rfl, h, .inl, fun h => ⟨h, rfl, fun _ hw => by cases hw⟩, aW _⟩
 | c :: l, out, a, o, h => by
  rw [Aa]
  obtain ⟨x, c1, u, q, a2, a3, a4⟩ := Ig m n (o c (by simp)) names names out a h
  rw [u]
  simp only [aA]
  obtain ⟨y, c2, v, r, s, t, J⟩ := Lr m n names l x c1 (fun d i => o d (by simp [i])) q
  refine ⟨y, c2, v, r, fun j => ?_, fun j => ?_, by omega⟩
  ·rcases s j with h1 | h1
   ·rcases a2 h1 with k | k
    ·exact .inl k
    ·exact .inr (by omega)
   ·exact .inr (by omega)
  ·obtain ⟨z, A, D⟩ := t j
   obtain ⟨F, G, I⟩ := a3 z
   subst G
   refine ⟨F, A, fun d i => ?_⟩
   rcases aS.1 i with rfl | i
   ·exact I
   ·exact D d i
end Go.Proofs.YtklbhegeiijbjaaGreat
namespace Go.Proofs.YtklbhegeiijbjaaGreat
open Go.RowKit
def zF : lY := ⟨⟨zS, zS⟩, zS⟩
theorem Lp (a b : lY) : xc a b = some (A6 a b) := by
 unfold xc A6
 simp only [Dq, aA, FD, TW]
def To (a : List lY) (b : Int) (p : Bool × lY) : Prop := (p.1 = false ∧ b = -1) ∨ (p.1 = true ∧ 0 ≤ b ∧ nD a b = some p.2)
theorem Ds (out a : List lY) (g : out.length < 4611686018427387904) : ∀ (rest A : List lY) (b : Int) (p : Bool × lY), a = A ++ rest → To a b p →
  ∃ c, rR out a rest A.length b = some c ∧ To a c (tY FA A6 out.getLast? rest p.1 p.2)
 | [], A, b, p, ha, i => ⟨b, rfl, i⟩
 | x :: rest, A, b, p, ha, i => by
  rw [rR, tY]
  simp only [FA, fF]
  have h1 : ((if ((out.length : Int) == 0) = true then some true else (nD out (IntKind.i64.wrap ((out.length : Int) - 1))).bind fun y => (xc y x).bind fun r => some r) : Option Bool) = some (out.getLast?.all fun y => A6 y x) := by
   rcases dM out with h | ⟨B, z, h⟩
   ·subst h; rfl
   ·subst h
    rw [aY (by simp; omega)]
    rw [eJ] at g ⊢
    rw [Ij B z (by simp at g; omega)]
    simp [Lp]
  have m : ((if decide (b < 0) = true then some true else (nD a b).bind fun y => (xc x y).bind fun r => some r) : Option Bool) = some (!p.1 || A6 x p.2) := by
   rcases i with ⟨j, k⟩ | ⟨j, k, l⟩
   ·rw [aV (by simp [k]), j]; rfl
   ·rw [aY (by simpa using k), l, j]
    simp [Lp]
  rw [h1]
  simp only [aA]
  rw [m]
  simp only [aA, FD]
  have n : nD a (A.length : Int) = some x := by rw [ha]; exact oS A x rest _ rfl
  by_cases d : ((out.getLast?.all fun y => A6 y x) && (!p.1 || A6 x p.2)) = true
  ·rw [aV d, aV d]
   have := Ds out a g rest (A ++ [x]) (A.length : Int) (true, x) (by rw [ha]; simp) (.inr ⟨rfl, by simp, n⟩)
   simpa using this
  ·rw [aY d, aY d]
   have := Ds out a g rest (A ++ [x]) b p (by rw [ha]; simp) i
   simpa using this
theorem Hz {out a : List lY} (d : out.length < 4611686018427387904) (h : (tY FA A6 out.getLast? a false zF).1 = false) : ∀ HE : List lY, rN a HE out = some out
 | [] => rfl
 | x :: HE => by
  rw [rN]
  obtain ⟨b, e, i⟩ := Ds out a d a [] (-1) (false, zF) rfl (.inl ⟨rfl, rfl⟩)
  rw [show rR out a a 0 (-1) = some b from e]
  simp only [aA]
  rcases i with ⟨_, g⟩ | ⟨c, _⟩
  ·rw [aY (by simp [g])]; exact Hz d h HE
  ·rw [h] at c; cases c
theorem J5 (a : List lY) : ∀ (HE : List lY) (out s : List lY), BV 48 FA A6 zF a (HE.length + 1) out = some s → s.length < 4611686018427387904 → rN a HE out = some s ∧ out.length ≤ s.length
 | [], out, s, h, i => by
  rw [BV] at h
  cases hp : (tY FA A6 out.getLast? a false zF).1 with
  | false =>
   rw [hp] at h
   simp only [eL, aT] at h
   cases h
   exact ⟨rfl, aW _⟩
  | true =>
   rw [hp] at h
   simp only [bX, aB, aN] at h
   obtain ⟨o, c, h⟩ := bind_some h
   replace h : BV 48 FA A6 zF a 0 o = some s := h
   rw [BV] at h
   cases h
 | x :: HE, out, s, h, i => by
  rw [BV] at h
  cases hp : (tY FA A6 out.getLast? a false zF).1 with
  | false =>
   rw [hp] at h
   simp only [eL, aT] at h
   cases h
   exact ⟨Hz i hp _, aW _⟩
  | true =>
   rw [hp] at h
   simp only [bX, aB, aN] at h
   obtain ⟨o, c, h⟩ := bind_some h
   have g := c
   unfold oI at c
   split at c
   case isFalse => cases c
   cases c
   obtain ⟨m, k2⟩ := J5 a HE _ s h i
   simp at k2
   rw [rN]
   obtain ⟨b, e, l⟩ := Ds out a (by omega) a [] (-1) (false, zF) rfl (.inl ⟨rfl, rfl⟩)
   rw [show rR out a a 0 (-1) = some b from e]
   simp only [aA]
   rcases l with ⟨d, _⟩ | ⟨d, j, k⟩
   ·rw [hp] at d; cases d
   ·rw [aV (by simpa using j), k]
    simp only [aA]
    rw [g]
    exact ⟨m, by omega⟩
theorem P3 (l : List lY) (c : l.length ≤ 1000000000) : ∃ s, EB l = some s ∧ CE (fun f => f ∈ l) s := by
 obtain ⟨s, h1, a⟩ := DB I8 (w := 48) (by omega) zF l c (l.length + 1) [] (by simp) (by simp) (fun x b => by cases b) (fun x _ _ => .inr rfl)
 have hlen : s.length ≤ l.length := oe (vB I8 (fun _ _ => rfl) a.1) (fun x b => ((a.2 x).1 b).1)
 exact ⟨s, (J5 l l [] s h1 (by omega)).1, a.1, fun f => by rw [a.2]; exact ⟨fun h => h.1, fun h => ⟨h, rfl⟩⟩⟩
theorem Mn : ∀ (l : List lB) (acc : List ByteArray), acc.length + 4 * l.length ≤ 1000000000 → we l acc = DP (acc ++ l.flatMap fun c => [c.mS, c.Head.lI, c.B.lI, c.C.lI])
 | [], acc, _ => by rw [we]; simp [pk]
 | c :: l, acc, h => by
  rw [we]
  simp only [aP] at h
  rw [om (by simp; omega) (by simp; omega)]
  simp only [aA]
  rw [Mn l _ (by simp; omega)]
  simp
def SM (C : List lB) : Prop := C.length ≤ 30000
theorem SM.small {C : List lB} (h : SM C) : tw C := by unfold SM at h; unfold tw; omega
theorem SM.sq {C : List lB} (h : SM C) : C.length * C.length ≤ 900000000 := Nat.mul_le_mul h h
theorem Qs {C : List lB} (b : SM C) (g : uN C) : ∃ names, BW C = some names ∧ ∀ c ∈ C, c.Kind = 1 → c.mS ∈ names := by
 have d : C.length ≤ 30000 := b
 unfold BW
 rw [Mn C [] (by simp; omega)]
 obtain ⟨s, e, i⟩ := R0 ([] ++ C.flatMap fun c => [c.mS, c.Head.lI, c.B.lI, c.C.lI]) (by
  have : ∀ l : List lB, (l.flatMap fun c => [c.mS, c.Head.lI, c.B.lI, c.C.lI]).length = 4 * l.length := fun l => by
   induction l with
   | nil => rfl
   | cons x l ih => simp [ih]; omega
  rw [bN, this]; omega)
 refine ⟨s, e, fun c a hk => (i.2 _).2 ⟨?_, ?_⟩⟩
 ·rw [bN]; exact kY.2 ⟨c, a, by simp⟩
 ·rcases pX (g c a) with h | h | h | h
  ·exact h.2.1
  ·exact absurd (hk.symm.trans h.1) (by decide)
  ·exact absurd (hk.symm.trans h.1) (by decide)
  ·exact absurd (hk.symm.trans h.1) (by decide)
theorem NY {C : List lB} (n : uN C) {names : List ByteArray} (l : ∀ c ∈ C, c.Kind = 1 → c.mS ∈ names) {out : List lY} (h : ∀ c ∈ C, ∀ w ∈ names, yQ out c names w → (⟨c.Head, w⟩ : lY) ∈ out) {f : lY} (k : qW C f) : f ∈ out := by
 have hw : ∀ f, qW C f → f.mS ∈ names := fun f k => by
  obtain ⟨c, a, hk, e⟩ := k.MZ
  rw [← e]; exact l c a hk
 induction k with
 | mem c a hk => exact h c a _ (l c a hk) (.inl ⟨hk, rfl⟩)
 | inc c w a hk m ih => exact h c a w (hw _ m) (.inr (.inl ⟨hk, ih⟩))
 | Hw c b w a hk d j g i => exact h c a w (hw _ j) (.inr (.inr (.inr ⟨by omega, by omega, by omega, b, hw _ d, g, i⟩)))
 | both c w a hk d j g i => exact h c a w (hw _ d) (.inr (.inr (.inl ⟨hk, g, i⟩)))
theorem LX {C : List lB} (a : SM C) (b : uN C) {names : List ByteArray} (g : ∀ c ∈ C, c.Kind = 1 → c.mS ∈ names) : ∀ (m : Nat) (out : List lY), Gq C out → C.length * C.length < m + out.length →
  ∃ s, zP names C m out = some s ∧ CE (qW C) s
 | 0, out, h, hm => by have := h.len; omega
 | m + 1, out, h, hm => by
  rw [zP]
  obtain ⟨o, c, e, i, a2, a3, a4⟩ := Lr a.small b names C out false (fun _ h => h) h
  rw [e]
  simp only [aA, pk]
  cases c with
  | false =>
   simp only [eL, aT]
   obtain ⟨_, j, k⟩ := a3 rfl
   subst j
   have q := h.len
   have n := a.sq
   obtain ⟨s, l, d⟩ := P3 o (by omega)
   exact ⟨s, l, d.1, fun f => (d.2 f).trans ⟨h.yC f, NY b g k⟩⟩
  | true =>
   simp only [bX, aB, aN]
   rcases a2 rfl with h1 | h1
   ·cases h1
   ·exact LX a b g m o i (by omega)
theorem SB (l : List lB) (o : l.length ≤ 30000) : ∃ C s, Cj l = some s ∧ CE (qW C) s ∧ ∀ c, c ∈ C ↔ c ∈ l ∧ ns c = true := by
 unfold Cj
 obtain ⟨C, e, b⟩ := SE l (by omega)
 have hlen := ru yO b
 have a : SM C := by unfold SM; omega
 have d : uN C := fun c j => ((b.2 c).1 j).2
 obtain ⟨names, g, m⟩ := Qs a d
 rw [e]
 simp only [aA]
 rw [g]
 simp only [aA]
 have n := a.sq
 obtain ⟨s, h, i⟩ := LX a d m mR [] ⟨by simp, fun f k => by cases k⟩ (by rw [yc]; simp; omega)
 exact ⟨C, s, h, i, b.2⟩
end Go.Proofs.YtklbhegeiijbjaaGreat
namespace Go.Proofs.YtklbhegeiijbjaaGreat
open Go.RowKit
theorem RU {P : lY → Prop} {s t : List lY} (h : CE P s) (b : ∀ f, P f → f ∈ t) : s.length ≤ t.length := oe (vB I8 (fun _ _ => rfl) h.1) (fun f a => b f ((h.2 f).1 a))
theorem Sx {C : List lB} {s : List lY} (h : CE (qW C) s) (a : SM C) : s.length ≤ 900000000 := by
 have := RU h (t := HF C) (fun f b => b.HF)
 rw [Fv] at this
 have := a.sq
 omega
theorem Pm {C : List lB} {T : re} {c : List (lC × List lB)} {ws : List (ByteArray × List lB)} {n : Int} (h : MS C T c ws n) (cs : List lB) (u : List (lC × List lB)) (w : List (ByteArray × List lB)) (a : List lY) (z : Int) (r : lC) (MZ : ByteArray) :
  ∃ b, uq (mm T) cs u w a z r MZ = some b ∧ (b = true ↔ qW C ⟨r, MZ⟩) :=
 ⟨_, rfl, by rw [vu h.F8.keys, h.all]⟩
def qA : lC := ⟨⟨#[97]⟩, ⟨#[114]⟩⟩
def qB : lC := ⟨⟨#[98]⟩, ⟨#[115]⟩⟩
def qd : ByteArray := ⟨#[100]⟩
def j1 : lB := ⟨2, qA, zS, qB, ⟨zS, zS⟩, zS⟩
def j2 : lB := ⟨1, qB, qd, ⟨zS, zS⟩, ⟨zS, zS⟩, zS⟩
end Go.Proofs.YtklbhegeiijbjaaGreat
namespace Go.Proofs.YtklbhegeiijbjaaGreat
open Go.RowKit
theorem QJ (n : Nat) (a : n ≤ 1000000000) : uA (n : Int) = some [] := by
 unfold uA
 rw [aY (by simp), nf (x := 0 - 0) (by omega) (by omega), show (n : Int) - (0 - 0) = n by omega, nf (x := (n : Int)) (by omega) (by omega)]
 by_cases h : 0 < n
 ·rw [aV (by simpa using h)]
  unfold FE
  rw [aV ⟨by omega, by omega, by unfold maxLen; omega⟩]
  simp [rG]
 ·rw [aY (by simpa using h)]; rfl
theorem Pe (a b : List lB) (h : a.length + b.length ≤ 1000000000) : tE [a, b] = some (a ++ b) := by
 unfold tE
 rw [qF, nf (by omega) (by omega), aY (by simp), qF, nf (by omega) (by omega), aY (by simp; omega), qF]
 rw [show (0 : Int) + (a.length : Int) + (b.length : Int) = ((a.length + b.length : Nat) : Int) by omega, QJ _ h]
 simp only [aA]
 rw [qv, om (by simp; omega) (by simp; omega)]
 simp only [aA, bN]
 rw [qv, om (by omega) (by omega)]
 simp only [aA]
 rw [qv]
 rfl
end Go.Proofs.YtklbhegeiijbjaaGreat
namespace Go.Proofs.YtklbhegeiijbjaaGreat
open Go.RowKit
theorem Of {a b : lC} (h : a ≠ b) : lZ a b = false := by
 cases c : lZ a b with
 | false => rfl
 | true => exact absurd (mi.1 c) h
end Go.Proofs.YtklbhegeiijbjaaGreat
namespace Go.Proofs.YtklbhegeiijbjaaGreat
open Go.RowKit
theorem sU.self {α : Type} {lt : α → α → Prop} {P : α → Prop} {l s : List α} (h : sU lt P l s) : sU lt P s s := ⟨h.1, fun x => ⟨fun a => ⟨a, ((h.2 x).1 a).2⟩, fun a => a.1⟩⟩
theorem yQ.own {l : List lY} {c : lB} {names : List ByteArray} {w : ByteArray} (h : yQ l c names w) : yQ l c (l.map (·.mS)) w := by
 rcases h with h | h | h | ⟨d, g, i, b, _, a, j⟩
 ·exact .inl h
 ·exact .inr (.inl h)
 ·exact .inr (.inr (.inl h))
 ·exact .inr (.inr (.inr ⟨d, g, i, b, bG.2 ⟨_, a, rfl⟩, a, j⟩))
theorem yQ.subset {a b : List lY} {c : lB} {names : List ByteArray} {w : ByteArray} (h : yQ a c names w) (d : ∀ f ∈ a, f ∈ b) : yQ b c names w := by
 rcases h with h | h | h | ⟨i, j, k, g, l, m, n⟩
 ·exact .inl h
 ·exact .inr (.inl ⟨h.1, d _ h.2⟩)
 ·exact .inr (.inr (.inl ⟨h.1, d _ h.2.1, d _ h.2.2⟩))
 ·exact .inr (.inr (.inr ⟨i, j, k, g, l, d _ m, d _ n⟩))
end Go.Proofs.YtklbhegeiijbjaaGreat
namespace Go.Proofs.YtklbhegeiijbjaaGreat
open Go.RowKit
def tot {α : Type} (a : List (List α)) : Nat := (a.map List.length).sum
end Go.Proofs.YtklbhegeiijbjaaGreat
namespace Go.Proofs.YtklbhegeiijbjaaGreat
open Go.RowKit
def up (w : ByteArray) (g : ByteArray → Nat) : ByteArray → Nat := fun x => if nq w x = true then g x + 1 else g x
end Go.Proofs.YtklbhegeiijbjaaGreat
namespace Go.Proofs.YtklbhegeiijbjaaGreat
open Go.RowKit
instance decRole : DecidableEq lC := fun a b => decidable_of_iff (lZ a b = true) mi
theorem Ke (b : List lC) : ∀ (l m A : List lC), A ++ m = b → l.length = m.length → yl b l A.length = some (decide (l = m)) ∧ qU b l A.length = some (decide (l = m))
 | [], [], A, _, _ => ⟨by rw [yl]; rfl, by rw [qU]; rfl⟩
 | x :: l, y :: m, A, h, d => by
  have e : nD b (A.length : Int) = some y := by rw [← h]; exact oS A y m _ rfl
  obtain ⟨c, a2⟩ := Ke b l m (A ++ [y]) (by simpa using h) (by simpa using d)
  rw [aC] at c a2
  rw [yl, qU, e]
  simp only [aA]
  by_cases a : x = y
  ·subst a
   rw [xm]
   simp only [bX, aB, aN]
   exact ⟨by rw [show A.length + 1 = A.length + [x].length from rfl, c]; simp, by rw [show A.length + 1 = A.length + [x].length from rfl, a2]; simp⟩
  ·rw [Of a]
   simp [a]
theorem Fj (a b : List lC) : pU a b = some (decide (a = b)) := by
 unfold pU
 by_cases h : a.length = b.length
 ·rw [aY (by simp [h])]
  exact (Ke b a b [] rfl h).2
 ·rw [aV (by simp; omega)]
  simp; intro e; exact h (by rw [e])
structure TC (l : List lB) (F : List lY) : Prop where
 len : l.length ≤ 30000
 C : ∃ C : List lB, CE (qW C) F ∧ (∀ c, c ∈ C ↔ c ∈ l ∧ ns c = true) ∧ SM C
 ref : Cj l = some F
theorem TH (l : List lB) (g : l.length ≤ 30000) : ∃ F, TC l F := by
 obtain ⟨C, F, e, h1, h⟩ := SB l g
 obtain ⟨C1, T, j, ws, n, i, m1, a, d⟩ := Oc l (by omega)
 have b : ∀ c, c ∈ C ↔ c ∈ C1 := fun c => by rw [h, a]
 exact ⟨F, g, ⟨C1, ⟨h1.1, fun f => (h1.2 f).trans (qW.congr b f)⟩, a, by unfold SM; omega⟩, e⟩
theorem TC.Vk {l : List lB} {F : List lY} (h : TC l F) : F.length ≤ 900000000 := by
 obtain ⟨C, h1, b, a⟩ := h.C
 exact Sx h1 a
end Go.Proofs.YtklbhegeiijbjaaGreat
namespace Go.Proofs.YtklbhegeiijbjaaGreat
open Go.RowKit
def B8 (l : List Int) : Prop := ∀ x ∈ l, 0 ≤ x ∧ x < 256
end Go.Proofs.YtklbhegeiijbjaaGreat
namespace Go.Proofs.YtklbhegeiijbjaaGreat
open Go.RowKit
def OF : List ByteArray → List Key → Int
 | _, [] => 0
 | seen, k :: l => if oV k.mS = false then 30 else if k.Key.length < 1 ∨ 32 < k.Key.length then 21 else if ov nq seen k.mS = true then 41 else OF (seen ++ [k.mS]) l
def QM (l : List Key) : List (ByteArray × List Int) := l.map fun k => (k.mS, k.Key)
def QI (l : List Key) (o : ByteArray) : Option (List Int) := nA nq (QM l) o
theorem Tt {l : List Int} (h : l.length ≤ 1000000) : wx l = some l := by
 unfold wx
 rw [Iq (by simpa using h)]; rfl
theorem NN : ∀ (l : List Key) (seen : List ByteArray), OF seen l = 0 → ∀ k ∈ l, 1 ≤ k.Key.length ∧ k.Key.length ≤ 32
 | [], _, _, _, hk => by cases hk
 | x :: l, seen, h, k, hk => by
  unfold OF at h
  split at h
  ·cases h
  split at h
  ·cases h
  split at h
  ·cases h
  rcases aS.1 hk with rfl | hk
  ·omega
  ·exact NN l _ h k hk
theorem H5 : ∀ (l : List Key) (o : ByteArray) (b : List Int), QI l o = some b → ∃ k ∈ l, k.Key = b
 | [], o, b, h => by cases h
 | x :: l, o, b, h => by
  unfold QI at h
  rw [show QM (x :: l) = (x.mS, x.Key) :: QM l from rfl, Dt] at h
  split at h
  ·cases h; exact ⟨x, by simp, rfl⟩
  ·obtain ⟨k, hk, e⟩ := H5 l o b h
   exact ⟨k, by simp [hk], e⟩
def K8 (l : List Key) : Prop := ∀ k ∈ l, B8 k.Key
structure Mk (ks : List Key) (c : lB) (k : List Int) : Prop where
 ok : OF [] ks = 0
 rt : ns c = true
 lk : QI ks c.Head.lI = some k
theorem Mk.len {a : List Key} {c : lB} {k : List Int} (h : Mk a c k) : 1 ≤ k.length ∧ k.length ≤ 32 := by
 obtain ⟨q, b, rfl⟩ := H5 _ _ _ h.lk
 exact NN a [] h.ok q b
theorem Mk.b8 {a : List Key} {c : lB} {k : List Int} (h : Mk a c k) (hk : K8 a) : B8 k := by
 obtain ⟨q, b, rfl⟩ := H5 _ _ _ h.lk
 exact hk q b
theorem Mk.unique {a : List Key} {c : lB} {k k' : List Int} (h : Mk a c k) (b : Mk a c k') : k = k' := by
 have := h.lk; rw [b.lk] at this; cases this; rfl
end Go.Proofs.YtklbhegeiijbjaaGreat
namespace Go.Proofs.YtklbhegeiijbjaaGreat
open Go.RowKit
def S8 (l : List Signed) : Prop := ∀ s ∈ l, B8 s.Tag
end Go.Proofs.YtklbhegeiijbjaaGreat
namespace Go.Proofs.YtklbhegeiijbjaaGreat
open Go.RowKit
theorem Fi (b : List lB) (x : lB) : uD b x = some (ov mC b x) := by
 obtain ⟨q, e, h⟩ := LV x b
 unfold rL at e
 rw [pk] at e
 rw [e, show q = ov mC b x from by rw [cJ, h, oT nF]]
structure QB (l : List lB) (F : List lY) : Prop where
 len : F.length ≤ 900000000
 ref : Cj l = some F
 U9 : ∃ m, xA l = some m ∧ yi m.1 m.2.1 m.2.2.1 m.2.2.2.1 m.2.2.2.2.1 m.2.2.2.2.2 = some F ∧ ∀ r w, uq m.1 m.2.1 m.2.2.1 m.2.2.2.1 m.2.2.2.2.1 m.2.2.2.2.2 r w = some (ov Cy F ⟨r, w⟩)
 yC : ∀ C : List lB, (∀ c, c ∈ C ↔ c ∈ l ∧ ns c = true) → CE (qW C) F
theorem Us (l : List lB) (x : l.length ≤ 30000) : ∃ F, QB l F := by
 obtain ⟨F, h⟩ := TH l x
 refine ⟨F, h.Vk, h.ref, ?_, fun C t => ?_⟩
 ·obtain ⟨C, h1, d, s⟩ := h.C
  obtain ⟨C1, T, m, ws, n, o, m1, g, j⟩ := Oc l (by omega)
  have a : ∀ c, c ∈ C1 ↔ c ∈ C := fun c => by rw [d, g]
  have k : CE (qW C1) F := ⟨h1.1, fun f => (h1.2 f).trans (qW.congr a f).symm⟩
  have u : SM C1 := by unfold SM; omega
  refine ⟨_, o, ?_, fun r w => ?_⟩
  ·obtain ⟨F1, q, i⟩ := Q7 u.small m1 C1 m ws [] n
   rw [← i.unique k]; exact q
  ·obtain ⟨b, e, v⟩ := Pm m1 C1 m ws [] n r w
   rw [e, show b = ov Cy F ⟨r, w⟩ from by rw [cJ, v, oT zu, k.2]]
 ·obtain ⟨C', h1, d, s⟩ := h.C
  have a : ∀ c, c ∈ C' ↔ c ∈ C := fun c => by rw [d, t]
  exact ⟨h1.1, fun f => (h1.2 f).trans (qW.congr a f)⟩
end Go.Proofs.YtklbhegeiijbjaaGreat
namespace Go.Proofs.YtklbhegeiijbjaaGreat
open Go.RowKit
section
variable {α : Type}
structure SWO (lt : α → α → Bool) : Prop where
 UZ : ∀ x, lt x x = false
 tr : ∀ x y z, lt x y = true → lt y z = true → lt x z = true
 Rx : ∀ x y z, lt x z = true → lt x y = true ∨ lt y z = true
variable {lt : α → α → Bool}
def tl (lt : α → α → Bool) (p q : α × Nat) : Prop := lt p.1 q.1 = true ∨ (lt q.1 p.1 = false ∧ p.2 < q.2)
theorem E6 (h : SWO lt) {p q r : α × Nat} (a : tl lt p q) (b : tl lt q r) : tl lt p r := by
 unfold tl at *
 rcases a with a | ⟨a, a2⟩ <;> rcases b with b | ⟨b, d⟩
 ·exact .inl (h.tr _ _ _ a b)
 ·rcases h.Rx _ r.1 _ a with c | c
  ·exact .inl c
  ·rw [b] at c; cases c
 ·rcases h.Rx _ p.1 _ b with c | c
  ·rw [a] at c; cases c
  ·exact .inl c
 ·refine .inr ⟨?_, by omega⟩
  cases e : lt r.1 p.1
  ·rfl
  ·rcases h.Rx _ q.1 _ e with c | c
   ·rw [b] at c; cases c
   ·rw [a] at c; cases c
theorem RY (h : SWO lt) {p q : α × Nat} (a : tl lt p q) (b : tl lt q p) : False := by
 have c := E6 h a b
 rcases c with c | ⟨_, c⟩
 ·rw [h.UZ] at c; cases c
 ·omega
abbrev qn (lt : α → α → Bool) (t : List (α × Nat)) : Prop := t.Pairwise (tl lt)
theorem I5 (h : SWO lt) : ∀ {t u : List (α × Nat)}, qn lt t → qn lt u → t.Perm u → t = u
 | [], u, _, _, hp => by rw [List.nil_perm] at hp; exact hp.symm
 | p :: t, [], _, _, hp => by simp at hp
 | p :: t, q :: u, h1, b, hp => by
  have e : p = q := by
   rcases aS.1 (hp.mem_iff.1 (.head _)) with e | c
   ·exact e
   ·rcases aS.1 (hp.mem_iff.2 (.head _)) with e | a
    ·exact e.symm
    ·exact (RY h ((cR.1 h1).1 _ a) ((cR.1 b).1 _ c)).elim
  subst e
  rw [I5 h (cR.1 h1).2 (cR.1 b).2 (List.Perm.cons_inv hp)]
def Im (lt : α → α → Bool) (l : List α) (k : α) : List α := l.filter (fun x => !lt k x) ++ k :: l.filter (fun x => lt k x)
def Mg (lt : α → α → Bool) (l : List α) : List α := l.foldl (Im lt) []
def HW (lt : α → α → Bool) (t : List (α × Nat)) (k : α × Nat) : List (α × Nat) := t.filter (fun x => !lt k.1 x.1) ++ k :: t.filter (fun x => lt k.1 x.1)
theorem QF (t : List (α × Nat)) (k : α × Nat) : (HW lt t k).map (·.1) = Im lt (t.map (·.1)) k.1 := by
 simp [HW, Im, List.filter_map, iw]
theorem Qg (t : List (α × Nat)) (k : α × Nat) : (HW lt t k).Perm (t ++ [k]) := by
 unfold HW
 refine List.perm_middle.trans ?_
 refine (List.Perm.cons _ ?_).trans (iC k t).symm
 have := List.filter_append_perm (fun x : α × Nat => !lt k.1 x.1) t
 simpa using this
theorem Ri (h : SWO lt) {t : List (α × Nat)} {k : α × Nat} (g : qn lt t) (hk : ∀ x ∈ t, x.2 < k.2) : qn lt (HW lt t k) := by
 unfold HW qn
 rw [cY, cR]
 refine ⟨g.filter _, ⟨fun x b => ?_, g.filter _⟩, fun x b y c => ?_⟩
 ·exact .inl (bT.1 b).2
 ·obtain ⟨h1, d⟩ := bT.1 b
  simp only [gJ, ] at d
  have a : tl lt x k := .inr ⟨d, hk x h1⟩
  rcases aS.1 c with rfl | c
  ·exact a
  ·exact E6 h a (.inl (bT.1 c).2)
theorem UG (h : SWO lt) (l : List α) : ∃ t, qn lt t ∧ t.Perm l.zipIdx ∧ t.map (·.1) = Mg lt l := by
 suffices H : ∀ (l r : List α) (t : List (α × Nat)), qn lt t → t.Perm r.zipIdx → ∃ u, qn lt u ∧ u.Perm (r ++ l).zipIdx ∧ u.map (·.1) = l.foldl (Im lt) (t.map (·.1)) by
  obtain ⟨u, h1, c, g⟩ := H l [] [] .nil (by simp)
  exact ⟨u, h1, by simpa using c, g⟩
 intro l
 induction l with
 | nil => intro r t h1 c; exact ⟨t, h1, by simpa using c, rfl⟩
 | cons k l ih =>
  intro r t h1 c
  obtain ⟨u, d, a2, a3⟩ := ih (r ++ [k]) (HW lt t (k, r.length)) (Ri h h1 (fun x i => by
   obtain ⟨a, b⟩ := x
   have := List.snd_lt_of_mem_zipIdx (c.mem_iff.1 i)
   simpa using this)) ((Qg t _).trans (by rw [List.zipIdx_append]; simpa using c.append_right _))
  refine ⟨u, d, by simpa using a2, ?_⟩
  rw [a3, QF]
  rfl
theorem SF (h : SWO lt) {l : List α} {t : List (α × Nat)} (h1 : qn lt t) (b : t.Perm l.zipIdx) : t.map (·.1) = Mg lt l := by
 obtain ⟨u, a, a2, a3⟩ := UG h l
 rw [← a3, I5 h h1 a (b.trans a2.symm)]
end
end Go.Proofs.YtklbhegeiijbjaaGreat
namespace Go.Proofs.YtklbhegeiijbjaaGreat
open Go.RowKit
section
variable {α : Type} {lt : α → α → Bool}
abbrev Lk (lt : α → α → Bool) (A B : List (α × Nat)) : Prop := ∀ A' a b B', A = A' ++ [a] → B = b :: B' → tl lt a b
theorem BO (h : SWO lt) {A B : List (α × Nat)} (j : qn lt A) (k : qn lt B) (l : Lk lt A B) : ∀ a ∈ A, ∀ b ∈ B, tl lt a b := by
 intro a ha b c
 rcases dM A with rfl | ⟨A', z, rfl⟩
 ·cases ha
 cases B with
 | nil => cases c
 | cons y B' =>
  have h1 : tl lt z y := l A' z y B' (by simp) rfl
  have d : a = z ∨ tl lt a z := by
   simp only [eJ, aO, bF] at ha
   rcases ha with ha | ha
   ·refine .inr ?_
    simp only [eJ, qn, cY] at j
    exact j.2.2 a ha z (by simp)
   ·exact .inl ha
  have g : b = y ∨ tl lt y b := by
   rcases aS.1 c with c | c
   ·exact .inl c
   ·exact .inr ((cR.1 k).1 b c)
  have i : tl lt a y := by
   rcases d with rfl | d
   ·exact h1
   ·exact E6 h d h1
  rcases g with rfl | g
  ·exact i
  ·exact E6 h i g
theorem Lh (h : SWO lt) {A B : List (α × Nat)} (a : qn lt A) (b : qn lt B) (l : Lk lt A B) : qn lt (A ++ B) :=
 cY.2 ⟨a, b, BO h a b l⟩
theorem qn.left {A B : List (α × Nat)} (h : qn lt (A ++ B)) : qn lt A := (cY.1 h).1
theorem qn.right {A B : List (α × Nat)} (h : qn lt (A ++ B)) : qn lt B := (cY.1 h).2.1
theorem qn.two {A B : List (α × Nat)} (h : qn lt (A ++ B)) : ∀ a ∈ A, ∀ b ∈ B, tl lt a b := (cY.1 h).2.2
theorem JG (h : SWO lt) {A B : List (α × Nat)} {x : α × Nat} (d : qn lt (A ++ B)) (i : Lk lt A [x]) (j : Lk lt [x] B) : qn lt (A ++ x :: B) := by
 have h1 := BO h d.left (jb _ x) i
 have g := BO h (jb _ x) d.right j
 refine cY.2 ⟨d.left, cR.2 ⟨fun b c => g x (by simp) b c, d.right⟩, fun a ha b c => ?_⟩
 rcases aS.1 c with rfl | c
 ·exact h1 a ha _ (by simp)
 ·exact d.two a ha b c
theorem SN (h : SWO lt) {A1 A2 B1 B2 C1 C2 : List (α × Nat)} (d : qn lt (A1 ++ A2)) (g : qn lt (B1 ++ B2)) (j : Lk lt A1 B2) (k : Lk lt B1 A2) (l : C1.Perm (A1 ++ B1)) (m : C2.Perm (A2 ++ B2)) (h1 : qn lt C1) (i : qn lt C2) : qn lt (C1 ++ C2) := by
 have x1 := BO h d.left g.right j
 have x2 := BO h g.left d.right k
 refine cY.2 ⟨h1, i, fun a ha b c => ?_⟩
 rcases aO.1 (l.mem_iff.1 ha) with ha | ha <;> rcases aO.1 (m.mem_iff.1 c) with c | c
 ·exact d.two a ha b c
 ·exact x1 a ha b c
 ·exact x2 a ha b c
 ·exact g.two a ha b c
end
section
variable {α : Type}
theorem G3 (p q : List α) (x y : α) : (p ++ x :: q).set p.length y = p ++ y :: q := by simp
theorem Mm (p q : List α) (x y : α) (n : Nat) (h : n = p.length) : (p ++ x :: q).set n y = p ++ y :: q := by subst h; simp
theorem HO (p m q : List α) (x y : α) : ((p ++ x :: (m ++ y :: q)).set p.length y).set (p.length + 1 + m.length) x = p ++ y :: (m ++ x :: q) := by
 rw [G3]
 have : p ++ y :: (m ++ y :: q) = (p ++ y :: m) ++ y :: q := by simp
 rw [this, show p.length + 1 + m.length = (p ++ y :: m).length by simp; omega, G3]
 simp
theorem O4 (p m q : List α) (x y : α) : ((p ++ x :: (m ++ y :: q)).set (p.length + 1 + m.length) x).set p.length y = p ++ y :: (m ++ x :: q) := by
 rw [List.set_comm _ _ (by omega), HO]
theorem yw {l : List α} {n : Nat} (h : n ≤ l.length) : ∃ a b, l = a ++ b ∧ a.length = n := ⟨l.take n, l.drop n, (jq n l).symm, by simp [h]⟩
end
end Go.Proofs.YtklbhegeiijbjaaGreat
namespace Go.Proofs.YtklbhegeiijbjaaGreat
open Go.RowKit
section
variable {c : Formula → Formula → Int} {G : Formula → Prop} {f : Formula × Formula → Option Int}
theorem Oy (x : Formula) : (⟨x.Op, x.K, x.lC, x.Kids⟩ : Formula) = x := by cases x; rfl
abbrev qe (c : Formula → Formula → Int) (x y : Formula) : Bool := decide (c x y < 0)
abbrev Ee (f : Formula × Formula → Option Int) (c : Formula → Formula → Int) (G : Formula → Prop) : Prop := ∀ x y, G x → G y → f (x, y) = some (c x y)
theorem Vj (u : Ee f c G) (pre : List Formula) (x : Formula) (w : G x) : ∀ (k : Nat) (P S : List Formula) (n : Nat) (j a : Int), P.length = k → k < n → (∀ y ∈ P, G y) → (pre ++ (P ++ x :: S)).length ≤ 1000000 → j = ((pre.length + P.length : Nat) : Int) → a = (pre.length : Int) →
  ∃ P1 P2, P = P1 ++ P2 ∧ nR a f n (pre ++ (P ++ x :: S)) j = some (pre ++ (P1 ++ x :: (P2 ++ S))) ∧ (∀ P' z, P1 = P' ++ [z] → qe c x z = false) ∧ (∀ y P', P2 = y :: P' → qe c x y = true) := by
 intro k
 induction k with
 | zero =>
  intro P S n j a hk v d l h ha
  obtain rfl := aX hk
  obtain ⟨n, rfl⟩ := aQ (by omega : n ≠ 0)
  refine ⟨[], [], rfl, ?_, by simp, by simp⟩
  rw [nR]
  have : ¬ (j > a) := by rw [h, ha]; simp
  simp [this]
 | succ k ih =>
  intro P S n j a hk v d l h ha
  rcases dM P with rfl | ⟨P', z, rfl⟩
  ·simp at hk
  simp only [eJ, aC, aP, bV] at hk h l d ⊢
  obtain ⟨n, rfl⟩ := aQ (by omega : n ≠ 0)
  have i : j > a := by omega
  have m : pre ++ (P' ++ [z] ++ x :: S) = (pre ++ P') ++ z :: x :: S := by simp
  have hw : IntKind.i64.wrap (j - 1) = ((pre.length + P'.length : Nat) : Int) := by rw [nf (by omega) (by omega)]; omega
  have i1 : nD ((pre ++ P') ++ z :: x :: S) j = some x := by
   rw [show (pre ++ P') ++ z :: x :: S = (pre ++ P' ++ [z]) ++ x :: S by simp]
   exact oS _ _ _ _ (by simp; omega)
  have i2 : nD ((pre ++ P') ++ z :: x :: S) ((pre.length + P'.length : Nat) : Int) = some z := oS _ _ _ _ (by simp)
  have D : G z := d z (by simp)
  have t : ∀ y ∈ P', G y := fun y A => d y (by simp [A])
  have I : j.toNat = pre.length + P'.length + 1 := by omega
  rw [nR, m]
  simp only [i, cA, aT, i1, hw, i2, aA, u x z w D]
  by_cases g : c x z < 0
  ·simp only [g, cA, aT]
   have s1 : ((pre ++ P') ++ z :: x :: S).set j.toNat z = (pre ++ P') ++ z :: z :: S := by
    have := Mm (pre ++ P' ++ [z]) S x z j.toNat (by simp; omega)
    simpa only [aR, iu, cC, bN] using this
   have s2 : ((pre ++ P') ++ z :: z :: S).set (pre.length + P'.length) x = (pre ++ P') ++ x :: z :: S := by
    exact Mm (pre ++ P') (z :: S) z x _ (by simp)
   have i3 : nD ((pre ++ P') ++ z :: z :: S) ((pre.length + P'.length : Nat) : Int) = some z := oS _ _ _ _ (by simp)
   rw [s1, i3, aA, eE, Oy, s2]
   have o : (pre ++ P') ++ x :: z :: S = pre ++ (P' ++ x :: (z :: S)) := by simp
   obtain ⟨P1, P2, h1, q, r, s⟩ := ih P' (z :: S) n ((pre.length + P'.length : Nat) : Int) a (by omega) (by omega) t (by simp; omega) rfl ha
   rw [o, q]
   refine ⟨P1, P2 ++ [z], by rw [h1]; simp, by simp, r, ?_⟩
   intro y Q b
   cases P2 with
   | nil =>
    simp only [bN, bJ] at b
    rw [← b.1]; simp [qe, g]
   | cons F P2 =>
    simp only [cC, bJ] at b
    rw [← b.1]; exact s F P2 rfl
  ·simp only [g, cL, aB, aN]
   refine ⟨P' ++ [z], [], by simp, by simp, ?_, by simp⟩
   intro Q y b
   have := List.append_inj' b rfl
   simp only [bJ, eP] at this
   rw [← this.2]; simp [qe, g]
theorem Rw (h : SWO (qe c)) (I : Ee f c G) (pre post : List Formula) (a b : Int) (ha : a = (pre.length : Int)) : ∀ (S t : List (Formula × Nat)) (n : Nat) (i : Int),
  S.length < n → qn (qe c) t → (∀ x ∈ t, ∀ y ∈ S, x.2 < y.2) → S.Pairwise (fun x y => x.2 < y.2) → (∀ x ∈ t ++ S, G x.1) → (pre ++ (t.map (·.1) ++ (S.map (·.1) ++ post))).length ≤ 1000000 →
  i = ((pre.length + t.length : Nat) : Int) → b = ((pre.length + t.length + S.length : Nat) : Int) →
  ∃ u, nG b a f n (pre ++ (t.map (·.1) ++ (S.map (·.1) ++ post))) i = some (pre ++ (u.map (·.1) ++ post)) ∧ qn (qe c) u ∧ u.Perm (t ++ S)
 | [], t, n, i, A, D, h1, F, q, w, J, r => by
  obtain ⟨n, rfl⟩ := aQ (by simp at A; omega : n ≠ 0)
  rw [nG]
  simp only [bV] at r
  have : ¬ (i < b) := by omega
  simp only [this, cL, aB, aN]
  exact ⟨t, by simp, D, by simp⟩
 | s :: S, t, n, i, A, D, h1, F, q, w, J, r => by
  simp only [aP] at A r
  obtain ⟨n, rfl⟩ := aQ (by omega : n ≠ 0)
  rw [nG]
  have v : i < b := by omega
  simp only [v, cA, aT]
  have k := w
  simp only [aC, cV, aP] at k
  obtain ⟨P1, P2, O, P, Q, R⟩ := Vj I pre s.1 (q s (by simp)) (t.map (·.1)).length (t.map (·.1)) (S.map (·.1) ++ post) mR i a rfl (by rw [oY]; simp; omega)
   (fun y m => by obtain ⟨p, hp, rfl⟩ := bG.1 m; exact q p (by simp [hp])) (by simpa using w) (by simp; omega) ha
  simp only [bM, cC]
  rw [P, aA]
  obtain ⟨t1, t2, rfl, L, M⟩ := List.map_eq_append_iff.1 O
  have hlen : t1.length + t2.length = (t1 ++ t2).length := by simp
  have hw : IntKind.i64.wrap (i + 1) = ((pre.length + (t1 ++ s :: t2).length : Nat) : Int) := by rw [nf (by omega) (by omega)]; simp at J ⊢; omega
  rw [hw]
  have l : qn (qe c) (t1 ++ s :: t2) := JG h D
   (fun A' z b B' j o => by
    simp only [bJ] at o
    rw [← o.1]
    refine .inr ⟨Q (A'.map (·.1)) z.1 (by rw [← L, j]; simp), h1 z (by rw [j]; simp) s (by simp)⟩)
   (fun A' z b B' j o => by
    have U : z = s := by
     cases A' with
     | nil => simpa using j.symm
     | cons _ A' => simp at j
    rw [U]
    exact .inl (R b.1 (B'.map (·.1)) (by rw [← M, o]; simp)))
  have g := cR.1 F
  have T : pre ++ (P1 ++ s.1 :: (P2 ++ (S.map (·.1) ++ post))) = pre ++ ((t1 ++ s :: t2).map (·.1) ++ (S.map (·.1) ++ post)) := by rw [← L, ← M]; simp
  rw [T]
  obtain ⟨u, W, Y, Z⟩ := Rw h I pre post a b ha S (t1 ++ s :: t2) n _ (by omega) l
   (fun x d y m => by
    rcases aO.1 d with d | d
    ·exact h1 x (by simp [d]) y (by simp [m])
    ·rcases aS.1 d with rfl | d
     ·exact g.1 y m
     ·exact h1 x (by simp [d]) y (by simp [m]))
   g.2 (fun x d => q x (by
    simp only [aO, aS] at d ⊢
    rcases d with (d | d | d) | d
    ·exact .inl (.inl d)
    ·exact .inr (.inl d)
    ·exact .inl (.inr d)
    ·exact .inr (.inr d))) (by simp at k ⊢; omega) rfl (by simp at r ⊢; omega)
  refine ⟨u, W, Y, Z.trans ?_⟩
  simp only [aR, cC]
  exact bY t1 (List.perm_middle.symm)
theorem NL (h : SWO (qe c)) (o : Ee f c G) (pre post : List Formula) (S : List (Formula × Nat)) (a b : Int) (l : S.Pairwise (fun x y => x.2 < y.2)) (m : ∀ x ∈ S, G x.1) (k : (pre ++ (S.map (·.1) ++ post)).length ≤ 1000000) (ha : a = (pre.length : Int)) (j : b = ((pre.length + S.length : Nat) : Int)) :
  ∃ u, oU (pre ++ (S.map (·.1) ++ post)) a b f = some (pre ++ (u.map (·.1) ++ post)) ∧ qn (qe c) u ∧ u.Perm S := by
 unfold oU
 have g := k
 simp only [aC, cV] at g
 cases S with
 | nil =>
  refine ⟨[], ?_, .nil, .nil⟩
  obtain ⟨n, q⟩ := aQ (by rw [oY]; omega : mR ≠ 0)
  rw [q, nG]
  have : ¬ (IntKind.i64.wrap (a + 1) < b) := by rw [nf (by omega) (by omega)]; simp at j; omega
  simp [this]
 | cons s S =>
  simp only [aP] at j g
  have d := cR.1 l
  obtain ⟨u, t, v, w⟩ := Rw h o pre post a b ha S [s] mR (IntKind.i64.wrap (a + 1)) (by rw [oY]; omega) (jb _ _) (fun x i y r => by simp at i; rw [i]; exact d.1 y r) d.2
   (fun x i => m x (by simpa using i)) (by simp at k ⊢; omega) (by rw [nf (by omega) (by omega)]; simp; omega) (by simp; omega)
  exact ⟨u, by simpa using t, v, by simpa using w⟩
end
end Go.Proofs.YtklbhegeiijbjaaGreat
namespace Go.Proofs.YtklbhegeiijbjaaGreat
open Go.RowKit
section
variable {c : Formula → Formula → Int} {G : Formula → Prop} {f : Formula × Formula → Option Int}
theorem pn {x : Int} (n : Nat) (h : x = (n : Int)) (a : n ≤ 4000000) : IntKind.i64.wrap x = (n : Int) := by rw [h, nf (by omega) (by omega)]
theorem Uq (p m q : List Formula) (a b N : Int) : ∀ (k : Nat) (X1 X2 Y1 Y2 : List Formula) (n : Nat) (i : Int), X2.length = k → Y2.length = k → X1.length = Y1.length → k < n → (p ++ (Y1 ++ (X2 ++ (m ++ (X1 ++ (Y2 ++ q)))))).length ≤ 1000000 →
  i = (X1.length : Int) → N = ((X1.length + k : Nat) : Int) → a = (p.length : Int) → b = ((p.length + X1.length + k + m.length : Nat) : Int) →
  og N b a n (p ++ (Y1 ++ (X2 ++ (m ++ (X1 ++ (Y2 ++ q)))))) i = some (p ++ ((Y1 ++ Y2) ++ (m ++ ((X1 ++ X2) ++ q)))) := by
 intro k
 induction k with
 | zero =>
  intro X1 X2 Y1 Y2 n i h1 c s u l t h ha j
  obtain rfl := aX h1
  obtain rfl := aX c
  obtain ⟨n, rfl⟩ := aQ (by omega : n ≠ 0)
  rw [og]
  have : ¬ (i < N) := by omega
  simp [this]
 | succ k ih =>
  intro X1 X2 Y1 Y2 n i h1 c s u l t h ha j
  cases X2 with
  | nil => simp at h1
  | cons x X2 =>
  cases Y2 with
  | nil => simp at c
  | cons y Y2 =>
  simp only [aP, Nat.add_right_cancel_iff] at h1 c
  obtain ⟨n, rfl⟩ := aQ (by omega : n ≠ 0)
  have g := l
  simp only [aC, aP] at g
  have d : i < N := by omega
  have v : IntKind.i64.wrap (b + i) = (((p ++ Y1).length + 1 + (X2 ++ (m ++ X1)).length : Nat) : Int) := pn _ (by simp; omega) (by simp; omega)
  have w : IntKind.i64.wrap (a + i) = ((p ++ Y1).length : Int) := pn _ (by simp; omega) (by simp; omega)
  have z : IntKind.i64.wrap (i + 1) = ((X1 ++ [x]).length : Int) := pn _ (by simp; omega) (by simp; omega)
  have o : p ++ (Y1 ++ (x :: X2 ++ (m ++ (X1 ++ (y :: Y2 ++ q))))) = (p ++ Y1) ++ x :: ((X2 ++ (m ++ X1)) ++ y :: (Y2 ++ q)) := by simp
  have i1 : nD ((p ++ Y1) ++ x :: ((X2 ++ (m ++ X1)) ++ y :: (Y2 ++ q))) (((p ++ Y1).length + 1 + (X2 ++ (m ++ X1)).length : Nat) : Int) = some y := by
   have := oS ((p ++ Y1) ++ x :: (X2 ++ (m ++ X1))) y (Y2 ++ q) (((p ++ Y1).length + 1 + (X2 ++ (m ++ X1)).length : Nat) : Int) (by simp; omega)
   simpa using this
  have i2 : nD ((p ++ Y1) ++ x :: ((X2 ++ (m ++ X1)) ++ y :: (Y2 ++ q))) ((p ++ Y1).length : Int) = some x := oS _ _ _ _ rfl
  rw [og, o]
  simp only [d, cA, aT, v, w, i1, i2, aA, eE, z]
  have i3 : nD (((p ++ Y1) ++ x :: ((X2 ++ (m ++ X1)) ++ y :: (Y2 ++ q))).set (p ++ Y1).length y) (((p ++ Y1).length + 1 + (X2 ++ (m ++ X1)).length : Nat) : Int) = some y := by
   rw [G3]
   have := oS ((p ++ Y1) ++ y :: (X2 ++ (m ++ X1))) y (Y2 ++ q) (((p ++ Y1).length + 1 + (X2 ++ (m ++ X1)).length : Nat) : Int) (by simp; omega)
   simpa using this
  rw [i3, aA, Oy, HO]
  have r : (p ++ Y1) ++ y :: ((X2 ++ (m ++ X1)) ++ x :: (Y2 ++ q)) = p ++ ((Y1 ++ [y]) ++ (X2 ++ (m ++ ((X1 ++ [x]) ++ (Y2 ++ q))))) := by simp
  rw [r, ih (X1 ++ [x]) X2 (Y1 ++ [y]) Y2 n _ h1 c (by simp; omega) (by omega) (by simp; omega) rfl (by rw [h]; simp; omega) ha (by rw [j]; simp; omega)]
  simp
theorem NV (p m q X Y : List Formula) (a b N : Int) (h : X.length = Y.length) (d : (p ++ (X ++ (m ++ (Y ++ q)))).length ≤ 1000000) (g : N = (X.length : Int)) (ha : a = (p.length : Int)) (i : b = ((p.length + X.length + m.length : Nat) : Int)) :
  oO (p ++ (X ++ (m ++ (Y ++ q)))) a b N f = some (p ++ (Y ++ (m ++ (X ++ q)))) := by
 unfold oO
 have c := d
 simp only [aC] at c
 have := Uq p m q a b N X.length [] X [] Y mR 0 rfl h.symm rfl (by rw [oY]; omega) (by simpa using d) rfl (by simpa using g) ha (by rw [i]; simp)
 simpa using this
theorem Uz (M : Int) : ∀ (k : Nat) (A B p q : List Formula) (n : Nat) (i j : Int), A.length + B.length ≤ k → 0 < A.length → 0 < B.length → k < n → (p ++ (A ++ (B ++ q))).length ≤ 1000000 → i = (A.length : Int) → j = (B.length : Int) → M = ((p.length + A.length : Nat) : Int) →
  ox M f n (p ++ (A ++ (B ++ q))) i j = some (p ++ (B ++ (A ++ q))) := by
 intro k
 induction k with
 | zero => intro A B p q n i j h h1 r; omega
 | succ k ih =>
  intro A B p q n i j h h1 r F v b g t
  obtain ⟨n, rfl⟩ := aQ (by omega : n ≠ 0)
  have a := v
  simp only [aC] at a
  rw [ox]
  by_cases he : A.length = B.length
  ·have : (i != j) = false := by rw [b, g, he]; simp
   simp only [this, aB, aN]
   have c : IntKind.i64.wrap (M - i) = (p.length : Int) := pn _ (by omega) (by omega)
   have := NV (f := f) p [] q A B (p.length : Int) M i he (by simpa using v) b rfl (by rw [t]; simp)
   simp only [bN] at this
   rw [c, this]; rfl
  ·have m : (i != j) = true := by rw [b, g]; simp; omega
   simp only [m, aT]
   by_cases u : i > j
   ·simp only [u, cA, aT]
    obtain ⟨X, Y, rfl, D⟩ := yw (l := A) (n := B.length) (by omega)
    simp only [aC] at b h t a
    have c : IntKind.i64.wrap (M - i) = (p.length : Int) := pn _ (by omega) (by omega)
    have s := NV (f := f) p Y q X B (p.length : Int) M j (by omega) (by simp; omega) (by omega) rfl (by omega)
    have d : p ++ (X ++ Y ++ (B ++ q)) = p ++ (X ++ (Y ++ (B ++ q))) := by simp
    have o : IntKind.i64.wrap (i - j) = (Y.length : Int) := pn _ (by omega) (by omega)
    rw [d, c, s, aA, o]
    have w : p ++ (B ++ (Y ++ (X ++ q))) = (p ++ B) ++ (Y ++ (X ++ q)) := by simp
    rw [w, ih Y X (p ++ B) q n _ j (by omega) (by omega) (by omega) (by omega) (by simp; omega) rfl (by omega) (by simp; omega)]
    simp
   ·simp only [u, cL, aB, aN]
    obtain ⟨Z, V, rfl, x⟩ := yw (l := B) (n := B.length - A.length) (by omega)
    simp only [aC] at g h a x r he
    have c : IntKind.i64.wrap (M - i) = (p.length : Int) := pn _ (by omega) (by omega)
    have y : IntKind.i64.wrap (M + j) = ((p.length + A.length + (Z.length + V.length) : Nat) : Int) := pn _ (by omega) (by omega)
    have z : IntKind.i64.wrap (((p.length + A.length + (Z.length + V.length) : Nat) : Int) - i) = ((p.length + A.length + Z.length : Nat) : Int) := pn _ (by omega) (by omega)
    have s := NV (f := f) p Z q A V (p.length : Int) ((p.length + A.length + Z.length : Nat) : Int) i (by omega) (by simp; omega) b rfl rfl
    have d : p ++ (A ++ (Z ++ V ++ q)) = p ++ (A ++ (Z ++ (V ++ q))) := by simp
    have o : IntKind.i64.wrap (j - i) = (Z.length : Int) := pn _ (by omega) (by omega)
    rw [d, c, y, z, s, aA, o]
    rw [show p ++ (V ++ (Z ++ (A ++ q))) = p ++ (V ++ (Z ++ (A ++ q))) from rfl, ih V Z p (A ++ q) n i _ (by omega) (by omega) (by omega) (by omega) (by simp; omega) (by omega) rfl (by omega)]
    simp
theorem VR (A B p q : List Formula) (a m b : Int) (h1 : 0 < A.length) (g : 0 < B.length) (d : (p ++ (A ++ (B ++ q))).length ≤ 1000000) (ha : a = (p.length : Int)) (hm : m = ((p.length + A.length : Nat) : Int)) (h : b = ((p.length + A.length + B.length : Nat) : Int)) :
  oJ (p ++ (A ++ (B ++ q))) a m b f = some (p ++ (B ++ (A ++ q))) := by
 unfold oJ
 have c := d
 simp only [aC] at c
 rw [pn A.length (by omega) (by omega), pn B.length (by omega) (by omega)]
 exact Uz m (A.length + B.length) A B p q mR _ _ (aW _) h1 g (by rw [oY]; omega) d rfl rfl hm
end
end Go.Proofs.YtklbhegeiijbjaaGreat
namespace Go.Proofs.YtklbhegeiijbjaaGreat
open Go.RowKit
section
variable {c : Formula → Formula → Int} {G : Formula → Prop} {f : Formula × Formula → Option Int}
theorem EU {x : Int} (n : Nat) (h : x = (n : Int)) (b : n ≤ 4000000) : IntKind.i64.wrap (Int.fdiv (IntKind.u64.wrap (IntKind.i64.wrap x)) (2 ^ min (Int.toNat 1) (IntKind.bits .u64))) = ((n / 2 : Nat) : Int) := by
 rw [pn n h b]
 have a : IntKind.u64.wrap (n : Int) = (n : Int) := by
  simp only [IntKind.wrap, IntKind.signed, IntKind.bits]
  simp
  omega
 rw [a, show (2 ^ min (Int.toNat 1) (IntKind.bits .u64) : Int) = 2 from by decide, Int.fdiv_eq_ediv_of_nonneg _ (by decide), nf (by omega) (by omega)]
 omega
abbrev Ask (a0 : List Formula) (f : Formula × Formula → Option Int) (p q : Int) (b : Bool) : Prop := ∃ x y r, nD a0 p = some x ∧ nD a0 q = some y ∧ f (x, y) = some r ∧ decide (r < 0) = b
theorem Vz (a0 : List Formula) (o : Int) (b : Nat → Bool) (c a : Nat) (G : a ≤ 1000000) (u : ∀ h, c ≤ h → h < a → Ask a0 f (h : Int) o (b h)) : ∀ (d n i j : Nat), j - i ≤ d → d < n → c ≤ i → i ≤ j → j ≤ a → (i = c ∨ b (i - 1) = true) → (j = a ∨ b j = false) →
  ∃ t J, c ≤ t ∧ t ≤ a ∧ (t = c ∨ b (t - 1) = true) ∧ (t = a ∨ b t = false) ∧ nw a0 o f n (i : Int) (j : Int) = nw a0 o f (J + 1) (t : Int) (t : Int) := by
 intro d
 induction d with
 | zero =>
  intro n i j h1 I g D k l m
  obtain ⟨n, rfl⟩ := aQ (by omega : n ≠ 0)
  obtain rfl : i = j := by omega
  exact ⟨i, n, g, k, l, m, rfl⟩
 | succ d ih =>
  intro n i j h1 I g D k l m
  obtain ⟨n, rfl⟩ := aQ (by omega : n ≠ 0)
  by_cases q : i = j
  ·subst q; exact ⟨i, n, g, k, l, m, rfl⟩
  have F := EU (i + j) (x := (i : Int) + (j : Int)) (by omega) (by omega)
  obtain ⟨x, y, r, v, w, z, A⟩ := u ((i + j) / 2) (by omega) (by omega)
  rw [nw]
  have s : ((i : Int) < (j : Int)) := by omega
  simp only [s, cA, aT, F, v, w, z, A, aA]
  cases hp : b ((i + j) / 2)
  ·simp only [aB, aN]
   exact ih n i ((i + j) / 2) (by omega) (by omega) g (by omega) (by omega) l (.inr hp)
  ·simp only [aT]
   rw [pn ((i + j) / 2 + 1) (by omega) (by omega)]
   exact ih n ((i + j) / 2 + 1) j (by omega) (by omega) (by omega) (by omega) k (.inr (by simpa using hp)) m
theorem V0 (a0 : List Formula) (a2 : Int) (b : Nat → Bool) (c a : Nat) (F : a ≤ 1000000) (s : ∀ h, c ≤ h → h < a → Ask a0 f a2 (h : Int) (!b h)) : ∀ (d n i j : Nat), j - i ≤ d → d < n → c ≤ i → i ≤ j → j ≤ a → (i = c ∨ b (i - 1) = true) → (j = a ∨ b j = false) →
  ∃ t I, c ≤ t ∧ t ≤ a ∧ (t = c ∨ b (t - 1) = true) ∧ (t = a ∨ b t = false) ∧ nx a0 a2 f n (i : Int) (j : Int) = nx a0 a2 f (I + 1) (t : Int) (t : Int) := by
 intro d
 induction d with
 | zero =>
  intro n i j h1 G g A k l m
  obtain ⟨n, rfl⟩ := aQ (by omega : n ≠ 0)
  obtain rfl : i = j := by omega
  exact ⟨i, n, g, k, l, m, rfl⟩
 | succ d ih =>
  intro n i j h1 G g A k l m
  obtain ⟨n, rfl⟩ := aQ (by omega : n ≠ 0)
  by_cases o : i = j
  ·subst o; exact ⟨i, n, g, k, l, m, rfl⟩
  have D := EU (i + j) (x := (i : Int) + (j : Int)) (by omega) (by omega)
  obtain ⟨x, y, r, u, v, w, z⟩ := s ((i + j) / 2) (by omega) (by omega)
  rw [nx]
  have q : ((i : Int) < (j : Int)) := by omega
  simp only [q, cA, aT, D, u, v, w, z, aA, fO]
  cases hp : b ((i + j) / 2)
  ·simp only [aB, aN]
   exact ih n i ((i + j) / 2) (by omega) (by omega) g (by omega) (by omega) l (.inr hp)
  ·simp only [aT]
   rw [pn ((i + j) / 2 + 1) (by omega) (by omega)]
   exact ih n ((i + j) / 2 + 1) j (by omega) (by omega) (by omega) (by omega) k (.inr (by simpa using hp)) m
theorem U0 (x : Formula) : ∀ (P Q R : List Formula) (n : Nat) (k i : Int), P.length < n → (Q ++ x :: (P ++ R)).length ≤ 1000000 → k = (Q.length : Int) → i = ((Q.length + P.length + 1 : Nat) : Int) → ot i n (Q ++ x :: (P ++ R)) k = some (Q ++ (P ++ x :: R))
 | [], Q, R, n, k, i, b, c, hk, a => by
  obtain ⟨n, rfl⟩ := aQ (by simp at b; omega : n ≠ 0)
  simp only [aC, aP, bV] at c a
  rw [ot, pn Q.length (by omega) (by omega)]
  have : ¬ (k < (Q.length : Int)) := by omega
  simp [this]
 | y :: P, Q, R, n, k, i, b, c, hk, a => by
  obtain ⟨n, rfl⟩ := aQ (by simp at b; omega : n ≠ 0)
  simp only [aC, aP] at c a b
  have g : Q ++ x :: (y :: P ++ R) = Q ++ x :: ([] ++ y :: (P ++ R)) := rfl
  have h : IntKind.i64.wrap (k + 1) = ((Q.length + 1 + ([] : List Formula).length : Nat) : Int) := pn _ (by simp; omega) (by simp; omega)
  have i1 : nD (Q ++ x :: ([] ++ y :: (P ++ R))) ((Q.length + 1 + ([] : List Formula).length : Nat) : Int) = some y := by
   have := oS (Q ++ [x]) y (P ++ R) ((Q.length + 1 + ([] : List Formula).length : Nat) : Int) (by simp)
   simpa using this
  have i2 : nD (Q ++ x :: ([] ++ y :: (P ++ R))) k = some x := oS _ _ _ _ hk
  rw [ot, pn (Q.length + P.length + 1) (by omega) (by omega), g]
  have d : k < ((Q.length + P.length + 1 : Nat) : Int) := by omega
  have kn : k.toNat = Q.length := by omega
  simp only [d, cA, aT, h, i1, i2, aA, kn]
  have i3 : nD ((Q ++ x :: ([] ++ y :: (P ++ R))).set Q.length y) ((Q.length + 1 + ([] : List Formula).length : Nat) : Int) = some y := by
   rw [G3]
   have := oS (Q ++ [y]) y (P ++ R) ((Q.length + 1 + ([] : List Formula).length : Nat) : Int) (by simp)
   simpa using this
  rw [i3, aA, eE, Oy, HO]
  have := U0 x P (Q ++ [y]) R n ((Q.length + 1 + ([] : List Formula).length : Nat) : Int) i (by omega) (by simp; omega) (by simp) (by rw [a]; simp; omega)
  simpa using this
theorem VS (x : Formula) : ∀ (k : Nat) (S Q R : List Formula) (n : Nat) (j i : Int), S.length = k → k < n → (Q ++ (S ++ x :: R)).length ≤ 1000000 → j = ((Q.length + S.length : Nat) : Int) → i = (Q.length : Int) → oq i n (Q ++ (S ++ x :: R)) j = some (Q ++ x :: (S ++ R)) := by
 intro k
 induction k with
 | zero =>
  intro S Q R n j i hk l g a d
  obtain ⟨n, rfl⟩ := aQ (by omega : n ≠ 0)
  obtain rfl := aX hk
  rw [oq]
  simp only [bV, kZ] at a
  have : ¬ (j > i) := by omega
  simp [this]
 | succ k ih =>
  intro S Q R n j i hk l g a d
  obtain ⟨n, rfl⟩ := aQ (by omega : n ≠ 0)
  rcases dM S with rfl | ⟨S, z, rfl⟩
  ·simp at hk
  simp only [eJ, aC, aP, bV] at hk a g ⊢
  have h : Q ++ (S ++ [z] ++ x :: R) = (Q ++ S) ++ z :: ([] ++ x :: R) := by simp
  have o : IntKind.i64.wrap (j - 1) = ((Q ++ S).length : Int) := pn _ (by simp; omega) (by simp; omega)
  have b : j = (((Q ++ S).length + 1 + ([] : List Formula).length : Nat) : Int) := by rw [a]; simp; omega
  have i1 : nD ((Q ++ S) ++ z :: ([] ++ x :: R)) j = some x := by
   have := oS (Q ++ S ++ [z]) x R j (by rw [b]; simp; omega)
   simpa using this
  have i2 : nD ((Q ++ S) ++ z :: ([] ++ x :: R)) ((Q ++ S).length : Int) = some z := oS _ _ _ _ rfl
  rw [oq, h]
  have c : j > i := by omega
  have m : j.toNat = (Q ++ S).length + 1 + ([] : List Formula).length := by omega
  simp only [c, cA, aT, o, i1, i2, aA, m]
  have i3 : nD (((Q ++ S) ++ z :: ([] ++ x :: R)).set ((Q ++ S).length + 1 + ([] : List Formula).length) z) ((Q ++ S).length : Int) = some z := by
   have : ((Q ++ S) ++ z :: ([] ++ x :: R)).set ((Q ++ S).length + 1 + ([] : List Formula).length) z = (Q ++ S) ++ z :: (z :: R) := by
    have := Mm (Q ++ S ++ [z]) R x z ((Q ++ S).length + 1 + ([] : List Formula).length) (by simp; omega)
    simpa using this
   rw [this]; exact oS _ _ _ _ rfl
  rw [i3, aA, eE, Oy, O4]
  have := ih S Q (z :: R) n ((Q ++ S).length : Int) i (by omega) (by omega) (by simp; omega) (by simp) d
  simpa using this
end
end Go.Proofs.YtklbhegeiijbjaaGreat
namespace Go.Proofs.YtklbhegeiijbjaaGreat
open Go.RowKit
section
variable {c : Formula → Formula → Int} {G : Formula → Prop} {f : Formula × Formula → Option Int}
theorem U7 (a0 : List Formula) (g a3 a2 : Int) (rec : List Formula → Int → Int → Int → ((Formula × Formula) → Option Int) → Option (List Formula)) (mid m p : Nat) (k : g + a3 = ((2 * mid : Nat) : Int) ∨ g + a3 = ((2 * mid + 1 : Nat) : Int)) (hm : a2 = (m : Int)) (hp : p + 1 = mid + m) (c : Nat → Bool) (o a : Nat) (M : a ≤ 1000000) (P : mid ≤ 1000000) (O : mid + m ≤ 2000000) (hle : a ≤ p + 1) (A : ∀ h, o ≤ h → h < a → Ask a0 f ((p - h : Nat) : Int) (h : Int) (!c h)) : ∀ (d n i j : Nat), j - i ≤ d → d < n → o ≤ i → i ≤ j → j ≤ a → (i = o ∨ c (i - 1) = true) → (j = a ∨ c j = false) →
  ∃ t R, o ≤ t ∧ t ≤ a ∧ (t = o ∨ c (t - 1) = true) ∧ (t = a ∨ c t = false) ∧ ni a0 g a3 a2 f rec n (i : Int) (j : Int) = ni a0 g a3 a2 f rec (R + 1) (t : Int) (t : Int) := by
 have b : IntKind.i64.wrap (Int.fdiv (IntKind.u64.wrap (IntKind.i64.wrap (g + a3))) (2 ^ min (Int.toNat 1) (IntKind.bits .u64))) = (mid : Int) := by
  rcases k with h | h
  ·rw [EU _ h (by omega), show 2 * mid / 2 = mid by omega]
  ·rw [EU _ h (by omega), show (2 * mid + 1) / 2 = mid by omega]
 intro d
 induction d with
 | zero =>
  intro n i j h1 Q q J s u v
  obtain ⟨n, rfl⟩ := aQ (by omega : n ≠ 0)
  obtain rfl : i = j := by omega
  exact ⟨i, n, q, s, u, v, rfl⟩
 | succ d ih =>
  intro n i j h1 Q q J s u v
  obtain ⟨n, rfl⟩ := aQ (by omega : n ≠ 0)
  by_cases w : i = j
  ·subst w; exact ⟨i, n, q, s, u, v, rfl⟩
  have L := EU (i + j) (x := (i : Int) + (j : Int)) (by omega) (by omega)
  obtain ⟨x, y, r, D, F, G, I⟩ := A ((i + j) / 2) (by omega) (by omega)
  have T : IntKind.i64.wrap ((mid : Int) + a2) = ((mid + m : Nat) : Int) := pn _ (by omega) (by omega)
  have U : IntKind.i64.wrap (((mid + m : Nat) : Int) - 1) = (p : Int) := pn _ (by omega) (by omega)
  have W : IntKind.i64.wrap ((p : Int) - (((i + j) / 2 : Nat) : Int)) = ((p - (i + j) / 2 : Nat) : Int) := pn _ (by omega) (by omega)
  rw [ni]
  have z : ((i : Int) < (j : Int)) := by omega
  simp only [z, cA, aT, L, b, T, U, W, D, F, G, I, aA, fO]
  cases l : c ((i + j) / 2)
  ·simp only [aB, aN]
   exact ih n i ((i + j) / 2) (by omega) (by omega) q (by omega) (by omega) u (.inr l)
  ·simp only [aT]
   rw [pn ((i + j) / 2 + 1) (by omega) (by omega)]
   exact ih n ((i + j) / 2 + 1) j (by omega) (by omega) (by omega) (by omega) s (.inr (by simpa using l)) v
theorem Uj (a0 : List Formula) (b a3 a2 : Int) (rec : List Formula → Int → Int → Int → ((Formula × Formula) → Option Int) → Option (List Formula)) (mid m t n : Nat) (c : b + a3 = ((2 * mid : Nat) : Int) ∨ b + a3 = ((2 * mid + 1 : Nat) : Int)) (hm : a2 = (m : Int)) (o : mid ≤ 1000000) (k : mid + m ≤ 2000000) (v : t ≤ mid + m) :
  ni a0 b a3 a2 f rec (n + 1) (t : Int) (t : Int) =
   ((if t < m ∧ m < mid + m - t then oJ a0 (t : Int) a2 ((mid + m - t : Nat) : Int) f else some a0).bind fun l => ((if b < (t : Int) ∧ t < mid then rec l b (t : Int) (mid : Int) f else some l).bind fun l => if mid < mid + m - t ∧ ((mid + m - t : Nat) : Int) < a3 then rec l (mid : Int) ((mid + m - t : Nat) : Int) a3 f else some l)) := by
 have a : IntKind.i64.wrap (Int.fdiv (IntKind.u64.wrap (IntKind.i64.wrap (b + a3))) (2 ^ min (Int.toNat 1) (IntKind.bits .u64))) = (mid : Int) := by
  rcases c with h | h
  ·rw [EU _ h (by omega), show 2 * mid / 2 = mid by omega]
  ·rw [EU _ h (by omega), show (2 * mid + 1) / 2 = mid by omega]
 have s : IntKind.i64.wrap ((mid : Int) + a2) = ((mid + m : Nat) : Int) := pn _ (by omega) (by omega)
 have u : IntKind.i64.wrap (((mid + m : Nat) : Int) - (t : Int)) = ((mid + m - t : Nat) : Int) := pn _ (by omega) (by omega)
 rw [ni]
 simp only [Int.lt_irrefl, cL, aB, aN, a, s, u, pk]
 subst hm
 have d : ((t : Int) < (m : Int)) = (t < m) := by simp
 have g : ((m : Int) < ((mid + m - t : Nat) : Int)) = (m < mid + m - t) := by rw [iX]; omega
 have i : ((t : Int) < (mid : Int)) = (t < mid) := by simp
 have j : ((mid : Int) < ((mid + m - t : Nat) : Int)) = (mid < mid + m - t) := by rw [iX]; omega
 simp only [d, g, i, j]
 have key : ∀ (p q : Prop) [Decidable p] [Decidable q] (A B : Option (List Formula)), ((if decide p = true then some (decide q) else some false : Option Bool).bind fun x => if x = true then A else B) = if p ∧ q then A else B := by
  intro p q _ _ A B
  by_cases hp : p <;> by_cases r : q <;> simp [hp, r]
 simp only [key]
theorem OK (p A q : List Formula) (h : Nat) (b : p.length ≤ h) (h1 : h < p.length + A.length) : ∃ x, A[h - p.length]? = some x ∧ nD (p ++ (A ++ q)) (h : Int) = some x := by
 obtain ⟨x, a⟩ : ∃ x, A[h - p.length]? = some x := ⟨_, dA (by omega)⟩
 refine ⟨x, a, ?_⟩
 rw [G5, fU b, iJ (by omega), a]
end
end Go.Proofs.YtklbhegeiijbjaaGreat
namespace Go.Proofs.YtklbhegeiijbjaaGreat
open Go.RowKit
section
variable {c : Formula → Formula → Int} {G : Formula → Prop} {f : Formula × Formula → Option Int}
theorem Fw {α : Type} {P A' : List α} {z : α} (S : List α) (h : P = A' ++ [z]) : (P ++ S)[P.length - 1]? = some z := by subst h; simp
theorem E8 {α : Type} {S B' : List α} {z : α} (P : List α) (h : S = z :: B') : (P ++ S)[P.length]? = some z := by subst h; simp
theorem Ao {A : List (Formula × Nat)} {i : Nat} {z : Formula × Nat} (h : A[i]? = some z) : (A.map (·.1))[i]? = some z.1 := by simp [h]
theorem UN (h : SWO (qe c)) (R : Ee f c G) (x : Formula × Nat) (B : List (Formula × Nat)) (pre post : List Formula) (a m b : Int) (J : qn (qe c) B) (W : ∀ y ∈ B, x.2 < y.2) (w : ∀ y ∈ x :: B, G y.1) (T : (pre ++ x.1 :: (B.map (·.1) ++ post)).length ≤ 400000) (ha : a = (pre.length : Int)) (hm : m = ((pre.length + 1 : Nat) : Int)) (Q : b = ((pre.length + 1 + B.length : Nat) : Int)) :
  ∃ u, nw (pre ++ x.1 :: (B.map (·.1) ++ post)) a f mR m b = some (pre ++ (u.map (·.1) ++ post)) ∧ qn (qe c) u ∧ u.Perm (x :: B) := by
 have r := T
 simp only [aC, aP, cV] at r
 let g : Nat → Bool := fun k => match (B.map (·.1))[k - (pre.length + 1)]? with | some y => qe c y x.1 | none => false
 have j : ∀ k, pre.length + 1 ≤ k → k < pre.length + 1 + B.length → Ask (pre ++ x.1 :: (B.map (·.1) ++ post)) f (k : Int) a (g k) := by
  intro k h1 h2
  obtain ⟨y, s, A⟩ := OK (pre ++ [x.1]) (B.map (·.1)) post k (by simp; omega) (by simp; omega)
  have D : nD (pre ++ x.1 :: (B.map (·.1) ++ post)) (k : Int) = some y := by simpa using A
  have F : nD (pre ++ x.1 :: (B.map (·.1) ++ post)) a = some x.1 := oS _ _ _ _ ha
  have Y : G y := by
   obtain ⟨q, U, rfl⟩ := bG.1 (dK s)
   exact w q (by simp [U])
  refine ⟨y, x.1, _, D, F, R y x.1 Y (w x (by simp)), ?_⟩
  simp only [aC, aP, bV] at s
  simp only [g, s]
 obtain ⟨t, n', t1, t2, t3, t4, e⟩ := Vz (f := f) _ a g (pre.length + 1) (pre.length + 1 + B.length) (by omega) j B.length mR (pre.length + 1) (pre.length + 1 + B.length) (by omega) (by rw [oY]; omega) (aW _) (by omega) (aW _) (.inl rfl) (.inl rfl)
 rw [hm, Q, e, nw]
 simp only [Int.lt_irrefl, cL, aB, aN, pk]
 obtain ⟨P, S, rfl, L⟩ := yw (l := B) (n := t - (pre.length + 1)) (by omega)
 simp only [aC] at r t2 t4
 have I : pre ++ x.1 :: ((P ++ S).map (·.1) ++ post) = pre ++ x.1 :: (P.map (·.1) ++ (S.map (·.1) ++ post)) := by simp
 rw [I, U0 x.1 (P.map (·.1)) pre (S.map (·.1) ++ post) mR a (t : Int) (by rw [oY]; simp; omega) (by simp; omega) ha (by simp; omega)]
 refine ⟨P ++ x :: S, by simp, JG h J ?_ ?_, fT⟩
 ·intro A' z v B' i d
  simp only [bJ] at d
  rw [← d.1]
  have M : 0 < P.length := by rw [i]; simp
  have hp : g (t - 1) = true := by
   rcases t3 with t3 | t3
   ·omega
   ·exact t3
  have o := Ao (Fw S i)
  rw [show P.length - 1 = t - 1 - (pre.length + 1) by omega] at o
  simp only [g, o] at hp
  exact .inl hp
 ·intro A' z v B' i d
  have Z : z = x := by
   cases A' with
   | nil => simpa using i.symm
   | cons _ A' => simp at i
  rw [Z]
  have O : 0 < S.length := by rw [d]; simp
  have hp : g t = false := by
   rcases t4 with t4 | t4
   ·omega
   ·exact t4
  have o := Ao (E8 P d)
  rw [L] at o
  simp only [g, o] at hp
  exact .inr ⟨hp, W v (by rw [d]; simp)⟩
theorem UX (h : SWO (qe c)) (O : Ee f c G) (y : Formula × Nat) (A : List (Formula × Nat)) (pre post : List Formula) (a m : Int) (I : qn (qe c) A) (T : ∀ x ∈ A, x.2 < y.2) (s : ∀ x ∈ y :: A, G x.1) (Q : (pre ++ (A.map (·.1) ++ y.1 :: post)).length ≤ 400000) (ha : a = (pre.length : Int)) (hm : m = ((pre.length + A.length : Nat) : Int)) :
  ∃ u, nx (pre ++ (A.map (·.1) ++ y.1 :: post)) m f mR a m = some (pre ++ (u.map (·.1) ++ post)) ∧ qn (qe c) u ∧ u.Perm (A ++ [y]) := by
 have o := Q
 simp only [aC, aP, cV] at o
 let g : Nat → Bool := fun k => match (A.map (·.1))[k - pre.length]? with | some x => !qe c y.1 x | none => false
 have i : ∀ k, pre.length ≤ k → k < pre.length + A.length → Ask (pre ++ (A.map (·.1) ++ y.1 :: post)) f m (k : Int) (!g k) := by
  intro k h1 Y
  obtain ⟨x, r, w⟩ := OK pre (A.map (·.1)) (y.1 :: post) k h1 (by simp; omega)
  have D : nD (pre ++ (A.map (·.1) ++ y.1 :: post)) m = some y.1 := by
   have := oS (pre ++ A.map (·.1)) y.1 post m (by rw [hm]; simp)
   simpa using this
  have U : G x := by
   obtain ⟨q, R, rfl⟩ := bG.1 (dK r)
   exact s q (by simp [R])
  refine ⟨y.1, x, _, D, w, O y.1 x (s y (by simp)) U, ?_⟩
  simp only [g, r, fO]
 obtain ⟨t, Z, t1, t2, t3, t4, e⟩ := V0 (f := f) _ m g pre.length (pre.length + A.length) (by omega) i A.length mR pre.length (pre.length + A.length) (by omega) (by rw [oY]; omega) (aW _) (by omega) (aW _) (.inl rfl) (.inl rfl)
 rw [← hm, ← ha] at e
 rw [e, nx]
 simp only [Int.lt_irrefl, cL, aB, aN, pk]
 obtain ⟨P, S, rfl, J⟩ := yw (l := A) (n := t - pre.length) (by omega)
 simp only [aC] at o t2 t4 hm
 have F : pre ++ ((P ++ S).map (·.1) ++ y.1 :: post) = (pre ++ P.map (·.1)) ++ (S.map (·.1) ++ y.1 :: post) := by simp
 rw [F, VS y.1 S.length (S.map (·.1)) (pre ++ P.map (·.1)) post mR m (t : Int) (by simp) (by rw [oY]; omega) (by simp; omega) (by rw [hm]; simp; omega) (by simp; omega)]
 refine ⟨P ++ y :: S, by simp, JG h I ?_ ?_, List.perm_middle.trans (iC y (P ++ S)).symm⟩
 ·intro A' z v B' b d
  simp only [bJ] at d
  rw [← d.1]
  have L : 0 < P.length := by rw [b]; simp
  have hp : g (t - 1) = true := by
   rcases t3 with t3 | t3
   ·omega
   ·exact t3
  have j := Ao (Fw S b)
  rw [show P.length - 1 = t - 1 - pre.length by omega] at j
  simp only [g, j, gJ] at hp
  exact .inr ⟨hp, T z (by rw [b]; simp)⟩
 ·intro A' z v B' b d
  have W : z = y := by
   cases A' with
   | nil => simpa using b.symm
   | cons _ A' => simp at b
  rw [W]
  have M : 0 < S.length := by rw [d]; simp
  have hp : g t = false := by
   rcases t4 with t4 | t4
   ·omega
   ·exact t4
  have j := Ao (E8 P d)
  rw [J] at j
  simp only [g, j, Bool.not_eq_false'] at hp
  exact .inl hp
theorem Qn {α : Type} {A1 A2 B1 B2 C1 C2 : List α} (a : C1.Perm (A1 ++ B1)) (b : C2.Perm (A2 ++ B2)) : (C1 ++ C2).Perm ((A1 ++ A2) ++ (B1 ++ B2)) := by
 refine (a.append b).trans ?_
 simp only [aR]
 refine bY A1 ?_
 exact iy B1 A2 B2
def RJ (c : Formula → Formula → Int) (A B : List Formula) (a b p q : Nat) : Bool := match A[q - a]?, B[p - q - b]? with | some x, some y => !qe c y x | _, _ => false
theorem Le {A B : List Formula} {a b p q : Nat} {x y : Formula} (h1 : A[q - a]? = some x) (d : B[p - q - b]? = some y) : RJ c A B a b p q = !qe c y x := by simp only [RJ, h1, d]
theorem Vl (l : Ee f c G) (A B : List (Formula × Nat)) (pre post : List Formula) (a p : Nat) (m : a = pre.length + A.length) (h : ∀ x ∈ A ++ B, G x.1) (q : Nat) (r : pre.length ≤ q) (s : q < a) (t : a ≤ p - q) (u : p - q < a + B.length) :
  Ask (pre ++ (A.map (·.1) ++ (B.map (·.1) ++ post))) f ((p - q : Nat) : Int) (q : Int) (!RJ c (A.map (·.1)) (B.map (·.1)) pre.length a p q) := by
 obtain ⟨x, g, i⟩ := OK pre (A.map (·.1)) (B.map (·.1) ++ post) q r (by simp; omega)
 obtain ⟨y, b, j⟩ := OK (pre ++ A.map (·.1)) (B.map (·.1)) post (p - q) (by simp; omega) (by simp; omega)
 have n : G x := by
  obtain ⟨z, d, rfl⟩ := bG.1 (dK g)
  exact h z (by simp [d])
 have o : G y := by
  obtain ⟨z, d, rfl⟩ := bG.1 (dK b)
  exact h z (by simp [d])
 have k : nD (pre ++ (A.map (·.1) ++ (B.map (·.1) ++ post))) ((p - q : Nat) : Int) = some y := by simpa using j
 refine ⟨y, x, _, k, i, l y x o n, ?_⟩
 rw [show p - q - (pre ++ A.map (·.1)).length = p - q - a by simp; omega] at b
 rw [Le g b, fO]
abbrev VF (c : Formula → Formula → Int) (G : Formula → Prop) (f : Formula × Formula → Option Int) (rec : List Formula → Int → Int → Int → ((Formula × Formula) → Option Int) → Option (List Formula)) (k : Nat) : Prop :=
 ∀ (A B : List (Formula × Nat)) (pre post : List Formula) (a m b : Int), A.length + B.length ≤ k → 0 < A.length → 0 < B.length → qn (qe c) A → qn (qe c) B →
  (∀ x ∈ A, ∀ y ∈ B, x.2 < y.2) → (∀ x ∈ A ++ B, G x.1) → (pre ++ (A.map (·.1) ++ (B.map (·.1) ++ post))).length ≤ 400000 → a = (pre.length : Int) → m = ((pre.length + A.length : Nat) : Int) → b = ((pre.length + A.length + B.length : Nat) : Int) →
  ∃ u, rec (pre ++ (A.map (·.1) ++ (B.map (·.1) ++ post))) a m b f = some (pre ++ (u.map (·.1) ++ post)) ∧ qn (qe c) u ∧ u.Perm (A ++ B)
theorem Uc (h : SWO (qe c)) {rec : List Formula → Int → Int → Int → ((Formula × Formula) → Option Int) → Option (List Formula)} {k : Nat} (ih : VF c G f rec k) (A1 A2 B1 B2 : List (Formula × Nat)) (pre post : List Formula) (a m b : Int) (mid d t : Nat) (O : d = pre.length + (A1.length + A2.length)) (Q : mid = (pre.length + (d + (B1.length + B2.length))) / 2) (L : A1.length = t - pre.length) (M : B1.length = mid - t) (R : pre.length ≤ t) (T : t ≤ mid) (U : t ≤ d) (hk : A1.length + A2.length + (B1.length + B2.length) ≤ k + 1) (P : 2 ≤ A1.length + A2.length + (B1.length + B2.length)) (o : qn (qe c) (A1 ++ A2)) (q : qn (qe c) (B1 ++ B2)) (J : ∀ x ∈ A1 ++ A2, ∀ y ∈ B1 ++ B2, x.2 < y.2) (I : ∀ x ∈ (A1 ++ A2) ++ (B1 ++ B2), G x.1) (hl : pre.length + (A1.length + A2.length + (B1.length + B2.length + post.length)) ≤ 400000) (ha : a = (pre.length : Int)) (hm : m = (d : Int)) (hb : b = ((d + (B1.length + B2.length) : Nat) : Int)) (W : Lk (qe c) A1 B2) (Y : Lk (qe c) B1 A2) :
  ∃ u, ((if t < d ∧ d < mid + d - t then oJ (pre ++ ((A1 ++ A2).map (·.1) ++ ((B1 ++ B2).map (·.1) ++ post))) (t : Int) m ((mid + d - t : Nat) : Int) f else some (pre ++ ((A1 ++ A2).map (·.1) ++ ((B1 ++ B2).map (·.1) ++ post)))).bind fun l =>
   ((if a < (t : Int) ∧ t < mid then rec l a (t : Int) (mid : Int) f else some l).bind fun l => if mid < mid + d - t ∧ ((mid + d - t : Nat) : Int) < b then rec l (mid : Int) ((mid + d - t : Nat) : Int) b f else some l)) = some (pre ++ (u.map (·.1) ++ post)) ∧ qn (qe c) u ∧ u.Perm ((A1 ++ A2) ++ (B1 ++ B2)) := by
 have Z : (if t < d ∧ d < mid + d - t then oJ (pre ++ ((A1 ++ A2).map (·.1) ++ ((B1 ++ B2).map (·.1) ++ post))) (t : Int) m ((mid + d - t : Nat) : Int) f else some (pre ++ ((A1 ++ A2).map (·.1) ++ ((B1 ++ B2).map (·.1) ++ post)))) =
   some (pre ++ (A1.map (·.1) ++ (B1.map (·.1) ++ (A2.map (·.1) ++ (B2.map (·.1) ++ post))))) := by
  by_cases i : t < d ∧ d < mid + d - t
  ·rw [aV i]
   have := VR (f := f) (A2.map (·.1)) (B1.map (·.1)) (pre ++ A1.map (·.1)) (B2.map (·.1) ++ post) (t : Int) m ((mid + d - t : Nat) : Int) (by simp; omega) (by simp; omega) (by simp; omega) (by simp; omega) (by simp; omega) (by simp; omega)
   simpa using this
  ·rw [aY i]
   have : A2 = [] ∨ B1 = [] := by
    by_cases h1 : A2.length = 0
    ·exact .inl (aX h1)
    ·exact .inr (aX (by omega))
   rcases this with rfl | rfl <;> simp
 rw [Z, aA]
 have r2 : ∃ C1, (if a < (t : Int) ∧ t < mid then rec (pre ++ (A1.map (·.1) ++ (B1.map (·.1) ++ (A2.map (·.1) ++ (B2.map (·.1) ++ post))))) a (t : Int) (mid : Int) f else some (pre ++ (A1.map (·.1) ++ (B1.map (·.1) ++ (A2.map (·.1) ++ (B2.map (·.1) ++ post)))))) =
   some (pre ++ (C1.map (·.1) ++ (A2.map (·.1) ++ (B2.map (·.1) ++ post)))) ∧ qn (qe c) C1 ∧ C1.Perm (A1 ++ B1) := by
  by_cases i : a < (t : Int) ∧ t < mid
  ·rw [aV i]
   exact ih A1 B1 pre (A2.map (·.1) ++ (B2.map (·.1) ++ post)) a t mid (by omega) (by omega) (by omega) o.left q.left (fun x g y A => J x (by simp [g]) y (by simp [A])) (fun x g => I x (by simp at g ⊢; rcases g with g | g <;> simp [g]))
    (by simp; omega) ha (by omega) (by omega)
  ·rw [aY i]
   refine ⟨A1 ++ B1, by simp, Lh h o.left q.left (fun A' x y B' D F => ?_), .refl _⟩
   have g1 : 0 < A1.length := by rw [D]; simp
   have g2 : 0 < B1.length := by rw [F]; simp
   omega
 obtain ⟨C1, r, v, j⟩ := r2
 have s := j.length_eq
 simp only [aC] at s
 rw [r, aA]
 have r3 : ∃ C2, (if mid < mid + d - t ∧ ((mid + d - t : Nat) : Int) < b then rec (pre ++ (C1.map (·.1) ++ (A2.map (·.1) ++ (B2.map (·.1) ++ post)))) (mid : Int) ((mid + d - t : Nat) : Int) b f else some (pre ++ (C1.map (·.1) ++ (A2.map (·.1) ++ (B2.map (·.1) ++ post))))) =
   some ((pre ++ C1.map (·.1)) ++ (C2.map (·.1) ++ post)) ∧ qn (qe c) C2 ∧ C2.Perm (A2 ++ B2) := by
  by_cases i : mid < mid + d - t ∧ ((mid + d - t : Nat) : Int) < b
  ·rw [aV i]
   have := ih A2 B2 (pre ++ C1.map (·.1)) post mid ((mid + d - t : Nat) : Int) b (by omega) (by omega) (by omega) o.right q.right (fun x g y A => J x (by simp [g]) y (by simp [A])) (fun x g => I x (by simp at g ⊢; rcases g with g | g <;> simp [g]))
    (by simp; omega) (by simp; omega) (by simp; omega) (by simp; omega)
   simpa using this
  ·rw [aY i]
   refine ⟨A2 ++ B2, by simp, Lh h o.right q.right (fun A' x y B' D F => ?_), .refl _⟩
   have g1 : 0 < A2.length := by rw [D]; simp
   have g2 : 0 < B2.length := by rw [F]; simp
   omega
 obtain ⟨C2, w, z, n⟩ := r3
 rw [w]
 exact ⟨C1 ++ C2, by simp, SN h o q W Y j n v z, Qn j n⟩
theorem QA (F : Nat) (G : 1000000 < F) (L : List Formula) (rec : List Formula → Int → Int → Int → ((Formula × Formula) → Option Int) → Option (List Formula)) (pl al g mid c p : Nat) (a b m : Int) (n : Nat → Bool) (u : 0 < al) (v : 0 < g) (z : pl + (al + g) ≤ 400000) (y : mid = (pl + (pl + al + g)) / 2) (w : c = pl + al) (hp : p + 1 = mid + c) (k : a + b = ((2 * mid : Nat) : Int) ∨ a + b = ((2 * mid + 1 : Nat) : Int)) (ha : a = (pl : Int)) (j : m = (c : Int)) (I : b = ((pl + al + g : Nat) : Int)) (h : ∀ q, pl ≤ q → q < c → c ≤ p - q → p - q < c + g → Ask L f ((p - q : Nat) : Int) (q : Int) (!n q)) :
  ∃ t l d o : Nat, (d = pl ∧ o = c ∧ c ≤ mid ∨ d + (pl + al + g) = mid + c ∧ o = mid ∧ mid < c) ∧ d ≤ t ∧ t ≤ o ∧ (t = d ∨ n (t - 1) = true) ∧ (t = o ∨ n t = false) ∧
    ((if decide (m > (mid : Int)) then some (IntKind.i64.wrap (((mid + c : Nat) : Int) - b), (mid : Int)) else some (a, m) : Option (Int × Int)).bind fun x => ni L a b m f rec F x.1 x.2) =
     ni L a b m f rec (l + 1) (t : Int) (t : Int) := by
 by_cases s : mid < c
 ·obtain ⟨d, r⟩ : ∃ d : Nat, d + (pl + al + g) = mid + c := ⟨mid + c - (pl + al + g), by omega⟩
  obtain ⟨t, l, t1, t2, t3, t4, e⟩ := U7 (f := f) L a b m rec mid c p k j hp n d mid (by omega) (by omega) (by omega) (by omega) (fun q A D => h q (by omega) (by omega) (by omega) (by omega))
   (mid - d) F d mid (aW _) (by omega) (aW _) (by omega) (aW _) (.inl rfl) (.inl rfl)
  refine ⟨t, l, d, mid, .inr ⟨r, rfl, s⟩, t1, t2, t3, t4, ?_⟩
  have i : m > (mid : Int) := by omega
  simp only [i, cA, aT, aA]
  rw [pn d (by omega) (by omega), e]
 ·obtain ⟨t, l, t1, t2, t3, t4, e⟩ := U7 (f := f) L a b m rec mid c p k j hp n pl c (by omega) (by omega) (by omega) (by omega) (fun q A D => h q (by omega) (by omega) (by omega) (by omega))
   (c - pl) F pl c (aW _) (by omega) (aW _) (by omega) (aW _) (.inl rfl) (.inl rfl)
  refine ⟨t, l, pl, c, .inl ⟨rfl, rfl, by omega⟩, t1, t2, t3, t4, ?_⟩
  have i : ¬ (m > (mid : Int)) := by omega
  simp only [i, cL, aB, aN, aA]
  rw [← e, ← ha, ← j]
set_option maxHeartbeats 2000000 in
theorem Vp (h : SWO (qe c)) (hf : Ee f c G) : ∀ (k : Nat) (A B : List (Formula × Nat)) (pre post : List Formula) (n : Nat) (a m b : Int), A.length + B.length ≤ k → 0 < A.length → 0 < B.length → k < n → qn (qe c) A → qn (qe c) B →
  (∀ x ∈ A, ∀ y ∈ B, x.2 < y.2) → (∀ x ∈ A ++ B, G x.1) → (pre ++ (A.map (·.1) ++ (B.map (·.1) ++ post))).length ≤ 400000 → a = (pre.length : Int) → m = ((pre.length + A.length : Nat) : Int) → b = ((pre.length + A.length + B.length : Nat) : Int) →
  ∃ u, nJ n (pre ++ (A.map (·.1) ++ (B.map (·.1) ++ post))) a m b f = some (pre ++ (u.map (·.1) ++ post)) ∧ qn (qe c) u ∧ u.Perm (A ++ B) := by
 intro k
 induction k with
 | zero => intro A B pre post n a m b h0 h1 h2; omega
 | succ k ih =>
  intro A B pre post n a m b h0 h1 h2 hn hA hB U T hl ha hm O
  obtain ⟨n, rfl⟩ := aQ (by omega : n ≠ 0)
  have P := hl
  simp only [aC, cV] at P
  rw [nJ]
  unfold rf
  by_cases c1 : A.length = 1
  ·obtain ⟨x, rfl⟩ := List.length_eq_one_iff.1 c1
   have : (IntKind.i64.wrap (m - a) == 1) = true := by rw [pn 1 (by simp at hm; omega) (by omega)]; rfl
   simp only [this, aT]
   obtain ⟨u, u1, u2, u3⟩ := UN h hf x B pre post a m b hB (fun y hy => U x (by simp) y hy) (fun y hy => T y (by simpa using hy)) (by simpa using hl) ha (by simpa using hm) (by simpa using O)
   exact ⟨u, by simpa using u1, u2, by simpa using u3⟩
  have n1 : (IntKind.i64.wrap (m - a) == 1) = false := by rw [pn A.length (by omega) (by omega)]; simp; omega
  simp only [n1, aB, aN]
  by_cases c2 : B.length = 1
  ·obtain ⟨y, rfl⟩ := List.length_eq_one_iff.1 c2
   have : (IntKind.i64.wrap (b - m) == 1) = true := by rw [pn 1 (by simp at O; omega) (by omega)]; rfl
   simp only [this, aT]
   obtain ⟨u, u1, u2, u3⟩ := UX h hf y A pre post a m hA (fun x W => U x W y (by simp)) (fun x W => T x (by simp at W ⊢; exact W.symm)) (by simpa using hl) ha hm
   exact ⟨u, by simpa using u1, u2, u3⟩
  have n2 : (IntKind.i64.wrap (b - m) == 1) = false := by rw [pn B.length (by omega) (by omega)]; simp; omega
  simp only [n2, aB, aN]
  obtain ⟨F, hF, Z⟩ : ∃ F, F = mR ∧ 1000000 < F := ⟨mR, rfl, by rw [oY]; omega⟩
  rw [← hF]
  obtain ⟨mid, D⟩ : ∃ mid : Nat, mid = (pre.length + (pre.length + A.length + B.length)) / 2 := ⟨_, rfl⟩
  obtain ⟨d, j⟩ : ∃ d : Nat, d = pre.length + A.length := ⟨_, rfl⟩
  obtain ⟨p, hp⟩ : ∃ p : Nat, p + 1 = mid + d := ⟨mid + d - 1, by omega⟩
  have v : a + b = ((2 * mid : Nat) : Int) ∨ a + b = ((2 * mid + 1 : Nat) : Int) := by omega
  have I : IntKind.i64.wrap (Int.fdiv (IntKind.u64.wrap (IntKind.i64.wrap (a + b))) (2 ^ min (Int.toNat 1) (IntKind.bits .u64))) = (mid : Int) := by
   rcases v with h | h
   ·rw [EU _ h (by omega), show 2 * mid / 2 = mid by omega]
   ·rw [EU _ h (by omega), show (2 * mid + 1) / 2 = mid by omega]
  have w : m = (d : Int) := by omega
  have w1 : IntKind.i64.wrap ((mid : Int) + m) = ((mid + d : Nat) : Int) := pn _ (by omega) (by omega)
  obtain ⟨J, o⟩ : ∃ J : Nat → Bool, J = RJ c (A.map (·.1)) (B.map (·.1)) pre.length d p := ⟨_, rfl⟩
  have M : ∀ q, pre.length ≤ q → q < d → d ≤ p - q → p - q < d + B.length → Ask (pre ++ (A.map (·.1) ++ (B.map (·.1) ++ post))) f ((p - q : Nat) : Int) (q : Int) (!J q) := fun q g i q3 q4 => by rw [o]; exact Vl hf A B pre post d p j T q g i q3 q4
  obtain ⟨t, n', lo, hi, a1, t1, t2, t3, t4, e⟩ := QA (f := f) F Z (pre ++ (A.map (·.1) ++ (B.map (·.1) ++ post))) (nJ n) pre.length A.length B.length mid d p a b m J (by omega) (by omega) (by omega) D j hp v ha w O M
  simp only [I, w1]
  rw [e, Uj (f := f) _ a b m _ mid d t n' v w (by omega) (by omega) (by omega)]
  obtain ⟨A1, A2, rfl, L⟩ := yw (l := A) (n := t - pre.length) (by omega)
  obtain ⟨B1, B2, rfl, Y⟩ := yw (l := B) (n := mid - t) (by omega)
  simp only [aC] at h0 h1 h2 P t1 t2 t3 t4 a1 hm O j D
  have Q : ∀ q x y, ((A1 ++ A2).map (·.1))[q - pre.length]? = some x → ((B1 ++ B2).map (·.1))[p - q - d]? = some y → J q = !qe c y x := fun q x y r s => by rw [o]; exact Le r s
  have l1 : Lk (qe c) A1 B2 := by
   intro A' z b' B' g i
   have g1 : 0 < A1.length := by rw [g]; simp
   have g2 : 0 < B2.length := by rw [i]; simp
   have R : J (t - 1) = true := by
    rcases t3 with t3 | t3
    ·omega
    ·exact t3
   have r := Ao (Fw A2 g)
   have s := Ao (E8 B1 i)
   rw [show A1.length - 1 = t - 1 - pre.length by omega] at r
   rw [show B1.length = p - (t - 1) - d by omega] at s
   rw [Q _ _ _ r s, gJ] at R
   exact .inr ⟨R, U z (by rw [g]; simp) b' (by rw [i]; simp)⟩
  have l2 : Lk (qe c) B1 A2 := by
   intro A' z b' B' g i
   have g1 : 0 < B1.length := by rw [g]; simp
   have g2 : 0 < A2.length := by rw [i]; simp
   have R : J t = false := by
    rcases t4 with t4 | t4
    ·omega
    ·exact t4
   have r := Ao (Fw B2 g)
   have s := Ao (E8 A1 i)
   rw [show B1.length - 1 = p - t - d by omega] at r
   rw [L] at s
   rw [Q _ _ _ s r, Bool.not_eq_false'] at R
   exact .inl R
  exact Uc h (fun A B pre post a m b g i q3 => ih A B pre post n a m b g i q3 (by omega)) A1 A2 B1 B2 pre post a m b mid d t j (by rw [D]; congr 1; omega) L Y (by omega) (by omega) (by omega) (by omega) (by omega) hA hB U T (by omega) ha w (by rw [O]; congr 1; omega) l1 l2
end
end Go.Proofs.YtklbhegeiijbjaaGreat
namespace Go.Proofs.YtklbhegeiijbjaaGreat
open Go.RowKit
section
variable {c : Formula → Formula → Int} {G : Formula → Prop} {f : Formula × Formula → Option Int}
def zl (c : Formula → Formula → Int) : Nat → List (List (Formula × Nat)) → Prop
 | _, [] => True
 | o, A :: bs => qn (qe c) A ∧ (∀ x ∈ A, o ≤ x.2 ∧ x.2 < o + A.length) ∧ zl c (o + A.length) bs
def WB (s : Nat) : List (List (Formula × Nat)) → Prop
 | [] => True
 | A :: bs => A.length ≤ s ∧ (bs ≠ [] → A.length = s) ∧ WB s bs
theorem zl.append : ∀ {ds bs : List (List (Formula × Nat))} {o : Nat}, zl c o (ds ++ bs) ↔ zl c o ds ∧ zl c (o + ds.flatten.length) bs
 | [], bs, o => by simp [zl]
 | A :: ds, bs, o => by
  simp only [cC, zl, zl.append (ds := ds), bQ, aC, and_assoc, fC]
def fm (bs : List (List (Formula × Nat))) : List Formula := bs.flatten.map (·.1)
theorem Kh (a b : List (List (Formula × Nat))) : fm (a ++ b) = fm a ++ fm b := by simp [fm]
theorem Nx (A : List (Formula × Nat)) (b : List (List (Formula × Nat))) : fm (A :: b) = A.map (·.1) ++ fm b := by simp [fm]
theorem tU (a : List (List (Formula × Nat))) : (fm a).length = a.flatten.length := by unfold fm; rw [cV]
theorem P7 (ds : List (List (Formula × Nat))) (C : List (Formula × Nat)) : (ds ++ [C]).flatten.length = ds.flatten.length + C.length := by rw [cW, aC]; simp only [bQ, dI, bO]
theorem T5 (C : List (Formula × Nat)) (bs : List (List (Formula × Nat))) : fm ([C] ++ bs) = C.map (·.1) ++ fm bs := by simp [fm]
theorem Hj {R : List Formula} {o : Nat} {x : Formula × Nat} (h : x ∈ R.zipIdx o) : x.1 ∈ R := List.fst_mem_of_mem_zipIdx h
theorem WB.two {s : Nat} {A : List (Formula × Nat)} {bs : List (List (Formula × Nat))} (d : 0 < s) (h : WB s (A :: bs)) (c : s < (A :: bs).flatten.length) : A.length = s ∧ ∃ B a, bs = B :: a ∧ (B.length = s ∨ a = []) ∧ B.length ≤ s ∧ WB s a := by
 cases bs with
 | nil => simp at c; have := h.1; omega
 | cons B a =>
  refine ⟨h.2.1 (by simp), B, a, rfl, ?_, h.2.2.1, h.2.2.2.2⟩
  by_cases b : a = []
  ·exact .inr b
  ·exact .inl (h.2.2.2.1 b)
theorem L6 (h : SWO (qe c)) (u : Ee f c G) {ds bs : List (List (Formula × Nat))} {A B : List (Formula × Nat)} (hO : zl c 0 (ds ++ A :: B :: bs)) (s : ∀ x ∈ (ds ++ A :: B :: bs).flatten, G x.1) (i : (fm (ds ++ A :: B :: bs)).length ≤ 400000) (q : 0 < A.length) (r : 0 < B.length) (a m b : Int) (ha : a = (ds.flatten.length : Int)) (hm : m = ((ds.flatten.length + A.length : Nat) : Int)) (t : b = ((ds.flatten.length + A.length + B.length : Nat) : Int)) :
  ∃ C, nJ mR (fm (ds ++ A :: B :: bs)) a m b f = some (fm ((ds ++ [C]) ++ bs)) ∧ zl c 0 ((ds ++ [C]) ++ bs) ∧ C.Perm (A ++ B) := by
 obtain ⟨h1, o⟩ := zl.append.1 hO
 obtain ⟨F, l, I, n, v⟩ := o
 have e : fm (ds ++ A :: B :: bs) = fm ds ++ (A.map (·.1) ++ (B.map (·.1) ++ fm bs)) := by rw [Kh, Nx, Nx]
 rw [e] at i ⊢
 have j := i
 simp only [aC, cV, tU] at j
 obtain ⟨C, z, D, k⟩ := Vp h u (A.length + B.length) A B (fm ds) (fm bs) mR a m b (aW _) q r (by rw [oY]; omega) F I (fun x d y w => by have := (l x d).2; have := (n y w).1; omega)
  (fun x d => s x (by
   rw [cW, bQ, bQ, aO, aO, aO]
   rcases aO.1 d with d | d
   ·exact .inr (.inl d)
   ·exact .inr (.inr (.inl d)))) i (by rw [ha, tU]) (by rw [hm, tU]) (by rw [t, tU])
 have g := k.length_eq
 simp only [aC] at g
 refine ⟨C, by rw [z, aR, Kh, T5], ?_, k⟩
 ·rw [aR, zl.append]
  refine ⟨h1, D, fun x d => ?_, ?_⟩
  ·rcases aO.1 (k.mem_iff.1 d) with d | d
   ·have := l x d; omega
   ·have := n x d; omega
  ·rw [g, ← fC]; exact v
theorem Lu {ds bs : List (List (Formula × Nat))} {A B C : List (Formula × Nat)} (h : C.Perm (A ++ B)) : ((ds ++ [C]) ++ bs).flatten.Perm (ds ++ A :: B :: bs).flatten := by
 simp only [cW, bQ, dI, bO, aR]
 refine bY _ ?_
 rw [← aR]
 exact h.append_right _
theorem R4 (h : SWO (qe c)) (P : Ee f c G) (s : Nat) (R : 0 < s) (T : s ≤ 1000000) (N : Nat) (hN : N ≤ 400000) : ∀ (k : Nat) (bs ds : List (List (Formula × Nat))) (n : Nat) (a b : Int), bs.length ≤ k → k < n → zl c 0 (ds ++ bs) → (∀ x ∈ (ds ++ bs).flatten, G x.1) → (ds ++ bs).flatten.length = N → WB s bs → (∀ A ∈ ds, A.length = 2 * s) →
  a = (ds.flatten.length : Int) → b = ((ds.flatten.length + 2 * s : Nat) : Int) →
  ∃ es r, ow (N : Int) (s : Int) f n (fm (ds ++ bs)) a b = some (fm (es ++ r), (es.flatten.length : Int)) ∧ zl c 0 (es ++ r) ∧ (es ++ r).flatten.Perm (ds ++ bs).flatten ∧ WB s r ∧ r.flatten.length < 2 * s ∧ (∀ A ∈ es, A.length = 2 * s) := by
 intro k
 induction k with
 | zero =>
  intro bs ds n a b hk Q hO q j t l ha M
  obtain ⟨n, rfl⟩ := aQ (by omega : n ≠ 0)
  obtain rfl := aX (Nat.le_zero.1 hk)
  simp only [bO] at j
  rw [ow]
  have : ¬ (b ≤ (N : Int)) := by omega
  simp only [this, cL, aB, aN]
  exact ⟨ds, [], by rw [ha], hO, .refl _, trivial, by simp only [dI, bV]; omega, l⟩
 | succ k ih =>
  intro bs ds n a b hk Q hO q j t l ha M
  obtain ⟨n, rfl⟩ := aQ (by omega : n ≠ 0)
  rw [ow]
  by_cases hle : b ≤ (N : Int)
  ·simp only [hle, cA, aT]
   have d := j
   rw [cW, aC] at d
   cases bs with
   | nil => simp only [dI, bV] at d; omega
   | cons A bs =>
    obtain ⟨hA, B, i, rfl, m, J, u⟩ := WB.two R t (by omega)
    have L : B.length = s := by
     rcases m with m | rfl
     ·exact m
     ·simp only [bQ, dI, bO, aC] at d; omega
    have Z : IntKind.i64.wrap (a + (s : Int)) = ((ds.flatten.length + A.length : Nat) : Int) := pn _ (by omega) (by omega)
    obtain ⟨C, W, Y, v⟩ := L6 h P hO q (by rw [tU]; omega) (by omega) (by omega) a _ b ha Z (by omega)
    rw [W, aA]
    have o := v.length_eq
    simp only [aC] at o
    have w2 : IntKind.i64.wrap (2 * (s : Int)) = ((2 * s : Nat) : Int) := pn _ (by omega) (by omega)
    have O : (ds ++ [C]).flatten.length = ds.flatten.length + 2 * s := by rw [P7]; omega
    have w3 : IntKind.i64.wrap (b + ((2 * s : Nat) : Int)) = (((ds ++ [C]).flatten.length + 2 * s : Nat) : Int) := pn _ (by omega) (by omega)
    have hp := Lu (ds := ds) (bs := i) v
    rw [w2, w3]
    obtain ⟨es, r, w, y, z, D, F, I⟩ := ih i (ds ++ [C]) n b _ (by simp at hk; omega) (by omega) Y (fun x U => q x (hp.mem_iff.1 U)) (by rw [hp.length_eq, j]) u (fun X g => by
     rcases aO.1 g with g | g
     ·exact l X g
     ·simp at g; rw [g]; omega) (by rw [O]; omega) rfl
    exact ⟨es, r, w, y, z.trans hp, D, F, I⟩
  ·simp only [hle, cL, aB, aN]
   refine ⟨ds, bs, by rw [ha], hO, .refl _, t, ?_, l⟩
   rw [cW, aC] at j
   omega
theorem WB.I3 {t : Nat} : ∀ {es : List (List (Formula × Nat))} {C : List (Formula × Nat)}, (∀ A ∈ es, A.length = t) → C.length ≤ t → WB t (es ++ [C])
 | [], C, _, a => ⟨a, fun h => absurd rfl h, trivial⟩
 | E :: es, C, h, a => ⟨by rw [h E (by simp)]; omega, fun _ => h E (by simp), WB.I3 (fun A b => h A (by simp [b])) a⟩
theorem O0 {s : Nat} {r : List (List (Formula × Nat))} {o : Nat} (b : WB s r) (d : r.flatten.length ≤ s) (hO : zl c o r) : qn (qe c) r.flatten ∧ ∀ x ∈ r.flatten, o ≤ x.2 ∧ x.2 < o + r.flatten.length := by
 cases r with
 | nil => exact ⟨.nil, fun x g => by cases g⟩
 | cons A r =>
  have : r.flatten = [] := by
   by_cases a : r = []
   ·rw [a]; rfl
   ·have := b.2.1 a
    rw [bQ, aC] at d
    exact aX (by omega)
  rw [bQ, this, bO]
  exact ⟨hO.1, hO.2.1⟩
theorem QR (h : SWO (qe c)) (T : Ee f c G) (N : Nat) (hN : N ≤ 400000) : ∀ (k s : Nat) (bs : List (List (Formula × Nat))) (n : Nat), N - s ≤ k → k < n → 0 < s → s ≤ 1000000 → zl c 0 bs → (∀ x ∈ bs.flatten, G x.1) → bs.flatten.length = N → WB s bs →
  ∃ u, nW (N : Int) f n (fm bs) (s : Int) = some (u.map (·.1)) ∧ qn (qe c) u ∧ u.Perm bs.flatten := by
 intro k
 induction k with
 | zero =>
  intro s bs n hk hn F m hO l i b
  obtain ⟨n, rfl⟩ := aQ (by omega : n ≠ 0)
  rw [nW]
  have : ¬ ((s : Int) < (N : Int)) := by omega
  simp only [this, cL, aB, aN]
  refine ⟨bs.flatten, rfl, ?_, .refl _⟩
  cases bs with
  | nil => exact .nil
  | cons A bs =>
   have : bs.flatten = [] := by
    by_cases d : bs = []
    ·rw [d]; rfl
    ·have := b.2.1 d
     rw [bQ, aC] at i
     exact aX (by omega)
   rw [bQ, this, bO]
   exact hO.1
 | succ k ih =>
  intro s bs n hk hn F m hO l i b
  by_cases a8 : s < N
  ·obtain ⟨n, rfl⟩ := aQ (by omega : n ≠ 0)
   rw [nW]
   have : ((s : Int) < (N : Int)) := by omega
   simp only [this, cA, aT]
   have w1 : IntKind.i64.wrap (2 * (s : Int)) = ((2 * s : Nat) : Int) := pn _ (by omega) (by omega)
   have w0 : IntKind.i64.wrap ((s : Int) * 2) = ((2 * s : Nat) : Int) := pn _ (by omega) (by omega)
   have a7 : bs.length ≤ 2000000 := by
    have : ∀ {bs : List (List (Formula × Nat))}, WB s bs → bs.length ≤ bs.flatten.length + 1 := by
     intro bs
     induction bs with
     | nil => intro _; simp
     | cons A bs I =>
      intro b
      by_cases d : bs = []
      ·subst d; simp
      ·have := b.2.1 d
       have := I b.2.2
       simp only [aP, bQ, aC]
       omega
    have := this b
    omega
   obtain ⟨es, r, M, O, a, P, Q, R⟩ := R4 h T s F m N hN bs.length bs [] mR 0 ((2 * s : Nat) : Int) (aW _) (by rw [oY]; omega) (by simpa using hO) (by simpa using l) (by simpa using i) b (by simp) rfl (by simp)
   simp only [bN] at M a
   rw [w1, M, aA, w0]
   have j := a.length_eq
   rw [i, cW, aC] at j
   have w2 : IntKind.i64.wrap ((es.flatten.length : Int) + (s : Int)) = ((es.flatten.length + s : Nat) : Int) := pn _ (by omega) (by omega)
   simp only [w2]
   by_cases hm : es.flatten.length + s < N
   ·have : (((es.flatten.length + s : Nat) : Int) < (N : Int)) := by omega
    simp only [this, cA, aT, pk]
    cases r with
    | nil => simp only [dI, bV] at j; omega
    | cons A r =>
     obtain ⟨hA, B, Y, rfl, q, a1, a6⟩ := WB.two F P (by omega)
     have D : Y = [] := by
      rcases q with q | q
      ·by_cases hr : Y = []
       ·exact hr
       ·simp only [bQ, aC] at Q; omega
      ·exact q
     subst D
     simp only [bQ, dI, bO, aC] at j Q
     obtain ⟨C, q1, U, W⟩ := L6 h T O (fun x o => l x (a.mem_iff.1 o)) (by rw [tU, a.length_eq]; omega) (by omega) (by omega) (es.flatten.length : Int) ((es.flatten.length + s : Nat) : Int) (N : Int) rfl (by omega) (by omega)
     rw [q1, aA]
     have v := W.length_eq
     simp only [aC] at v
     have hp := (Lu (ds := es) (bs := []) W).trans a
     simp only [bO] at U hp ⊢
     obtain ⟨u, J, L, t⟩ := ih (2 * s) (es ++ [C]) n (by omega) (by omega) (by omega) (by omega) U (fun x o => l x (hp.mem_iff.1 o)) (by rw [hp.length_eq, i]) (WB.I3 R (by omega))
     exact ⟨u, J, L, t.trans hp⟩
   ·have : ¬ (((es.flatten.length + s : Nat) : Int) < (N : Int)) := by omega
    simp only [this, cL, aB, aN, aA]
    obtain ⟨w, y⟩ := zl.append.1 O
    obtain ⟨Z, b2⟩ := O0 P (by omega) y
    have z : fm (es ++ r) = fm (es ++ [r.flatten]) := by simp [fm]
    have g : (es ++ [r.flatten]).flatten = (es ++ r).flatten := by simp
    rw [z]
    obtain ⟨u, J, L, t⟩ := ih (2 * s) (es ++ [r.flatten]) n (by omega) (by omega) (by omega) (by omega) (zl.append.2 ⟨w, Z, b2, trivial⟩) (fun x o => l x (a.mem_iff.1 (by rw [← g]; exact o))) (by rw [g, a.length_eq, i]) (WB.I3 R (by omega))
    exact ⟨u, J, L, by rw [g] at t; exact t.trans a⟩
  ·obtain ⟨n, rfl⟩ := aQ (by omega : n ≠ 0)
   rw [nW]
   have : ¬ ((s : Int) < (N : Int)) := by omega
   simp only [this, cL, aB, aN]
   refine ⟨bs.flatten, rfl, ?_, .refl _⟩
   cases bs with
   | nil => exact .nil
   | cons A bs =>
    have : bs.flatten = [] := by
     by_cases d : bs = []
     ·rw [d]; rfl
     ·have := b.2.1 d
      rw [bQ, aC] at i
      exact aX (by omega)
    rw [bQ, this, bO]
    exact hO.1
theorem JQ : ∀ (l : List Formula) (o : Nat), (l.zipIdx o).Pairwise (fun x y => x.2 < y.2)
 | [], o => by simp
 | x :: l, o => by
  rw [kQ, cR]
  refine ⟨fun y c => ?_, JQ l (o + 1)⟩
  obtain ⟨a, b⟩ := y
  have := List.le_snd_of_mem_zipIdx c
  simp only at this ⊢; omega
theorem M9 (l : List Formula) (o : Nat) : ∀ x ∈ l.zipIdx o, o ≤ x.2 ∧ x.2 < o + l.length := by
 rintro ⟨a, b⟩ c
 have h1 := List.le_snd_of_mem_zipIdx c
 have d := List.snd_lt_add_of_mem_zipIdx c
 simp only at h1 d ⊢; omega
theorem Pd (h : SWO (qe c)) (k : Ee f c G) (N : Nat) (s : N ≤ 300000) (R : List Formula) (ds : List (List (Formula × Nat))) (n : Nat) (a b : Int) (y : 0 < n) (hO : zl c 0 ds) (m : ∀ A ∈ ds, A.length = 20) (o : ∀ x ∈ ds.flatten, G x.1) (j : ∀ x ∈ R, G x) (w : ds.flatten.length + R.length = N) (q : R.length < 20) (ha : a = (ds.flatten.length : Int)) (t : b = ((ds.flatten.length + 20 : Nat) : Int)) :
  ∃ u, nX (N : Int) f n (fm ds ++ R) a b = some (u.map (·.1)) ∧ qn (qe c) u ∧ u.Perm (ds.flatten ++ R.zipIdx ds.flatten.length) := by
 obtain ⟨n, rfl⟩ := aQ (by omega : n ≠ 0)
 rw [nX]
 have hle : ¬ (b ≤ (N : Int)) := by omega
 simp only [hle, cL, aB, aN, pk]
 obtain ⟨u, l, r, g⟩ := NL h k (fm ds) [] (R.zipIdx ds.flatten.length) a (N : Int) (JQ _ _) (fun x d => j x.1 (Hj d)) (by simp only [aC, tU, cV, fB, bV]; omega) (by rw [tU]; exact ha) (by rw [tU, fB]; omega)
 rw [List.zipIdx_map_fst, bO, bO] at l
 have i := g.length_eq
 rw [fB] at i
 have e : fm ds ++ u.map (·.1) = fm (ds ++ [u]) := by simp [fm]
 have hp : (ds ++ [u]).flatten.Perm (ds.flatten ++ R.zipIdx ds.flatten.length) := by
  rw [cW]
  refine bY _ ?_
  simpa using g
 rw [l, aA, e]
 obtain ⟨v, v1, v2, v3⟩ := QR h k N (by omega) N 20 (ds ++ [u]) mR (by omega) (by rw [oY]; omega) (by omega) (by omega) (zl.append.2 ⟨hO, r, fun x d => by have := M9 R ds.flatten.length x (g.mem_iff.1 d); omega, trivial⟩) (fun x d => by
  rw [cW, aO] at d
  rcases d with d | d
  ·exact o x d
  ·simp only [bQ, dI, bO] at d
   exact j x.1 (Hj (g.mem_iff.1 d))) (by rw [hp.length_eq, aC, fB]; omega) (WB.I3 m (by omega))
 exact ⟨v, v1, v2, v3.trans hp⟩
theorem Q2 (h : SWO (qe c)) (w : Ee f c G) (N : Nat) (D : N ≤ 300000) : ∀ (k : Nat) (R : List Formula) (ds : List (List (Formula × Nat))) (n : Nat) (a b : Int), R.length ≤ k → k < n → zl c 0 ds → (∀ A ∈ ds, A.length = 20) → (∀ x ∈ ds.flatten, G x.1) → (∀ x ∈ R, G x) → ds.flatten.length + R.length = N →
  a = (ds.flatten.length : Int) → b = ((ds.flatten.length + 20 : Nat) : Int) →
  ∃ u, nX (N : Int) f n (fm ds ++ R) a b = some (u.map (·.1)) ∧ qn (qe c) u ∧ u.Perm (ds.flatten ++ R.zipIdx ds.flatten.length) := by
 intro k
 induction k with
 | zero =>
  intro R ds n a b hk F hO o q j r ha t
  obtain rfl := aX (Nat.le_zero.1 hk)
  exact Pd h w N D [] ds n a b F hO o q j r (by simp) ha t
 | succ k ih =>
  intro R ds n a b hk F hO o q j r ha t
  by_cases z : R.length < 20
  ·exact Pd h w N D R ds n a b (by omega) hO o q j r z ha t
  obtain ⟨n, rfl⟩ := aQ (by omega : n ≠ 0)
  obtain ⟨R1, R2, rfl, m⟩ := yw (l := R) (n := 20) (by omega)
  rw [aC] at r hk
  rw [nX]
  have hle : b ≤ (N : Int) := by omega
  simp only [hle, cA, aT]
  obtain ⟨u, I, J, s⟩ := NL h w (fm ds) R2 (R1.zipIdx ds.flatten.length) a b (JQ _ _) (fun x d => j x.1 (by simp [Hj d])) (by simp only [aC, tU, cV, fB, bV]; omega) (by rw [tU]; exact ha) (by rw [tU, fB]; omega)
  rw [List.zipIdx_map_fst] at I
  rw [I, aA]
  have g := s.length_eq
  rw [fB, m] at g
  have y : (ds ++ [u]).flatten.length = ds.flatten.length + 20 := by rw [P7, g]
  have L : IntKind.i64.wrap (b + 20) = (((ds ++ [u]).flatten.length + 20 : Nat) : Int) := pn _ (by omega) (by omega)
  have e : fm ds ++ (u.map (·.1) ++ R2) = fm (ds ++ [u]) ++ R2 := by simp [fm]
  rw [e, L]
  obtain ⟨v, v1, v2, v3⟩ := ih R2 (ds ++ [u]) n b _ (by omega) (by omega) (zl.append.2 ⟨hO, J, fun x d => by have := M9 R1 ds.flatten.length x (s.mem_iff.1 d); omega, trivial⟩) (fun A i => by
   rcases aO.1 i with i | i
   ·exact o A i
   ·simp at i; rw [i]; exact g) (fun x d => by
   rw [cW, aO] at d
   rcases d with d | d
   ·exact q x d
   ·simp only [bQ, dI, bO] at d
    exact j x.1 (by simp [Hj (s.mem_iff.1 d)])) (fun x d => j x (by simp [d])) (by omega) (by omega) rfl
  refine ⟨v, v1, v2, v3.trans ?_⟩
  rw [y, cW, List.zipIdx_append, m, aR]
  refine bY _ ?_
  simp only [bQ, dI, bO]
  exact s.append_right _
theorem NZ (h : SWO (qe c)) (g : Ee f c G) (l : List Formula) (d : ∀ x ∈ l, G x) (i : l.length ≤ 300000) : qT l f = some (Mg (qe c) l) := by
 unfold qT tI
 obtain ⟨u, a, j, b⟩ := Q2 h g l.length i l.length l [] mR 0 20 (aW _) (by rw [oY]; omega) trivial (by simp) (by simp) d (by simp) rfl rfl
 simp only [fm, dI, gW, bN, bV] at a b
 rw [a, aA, SF h j b]
end
end Go.Proofs.YtklbhegeiijbjaaGreat
namespace Go.Proofs.YtklbhegeiijbjaaGreat
open Go.RowKit
theorem NW {P : Formula → Prop} (h : ∀ f, (∀ k ∈ f.Kids, P k) → P f) : ∀ f, P f := by
 intro f
 refine Formula.rec (motive_1 := P) (motive_2 := fun b => ∀ k ∈ b, P k) ?_ ?_ ?_ f
 ·intro o k r b ih; exact h _ ih
 ·intro k hk; cases hk
 ·intro k b h1 c x a
  rcases aS.1 a with rfl | a
  ·exact h1
  ·exact c x a
mutual
def mT : Formula → Nat
 | ⟨_, _, _, ks⟩ => 1 + nodesL ks
def nodesL : List Formula → Nat
 | [] => 0
 | k :: ks => mT k + nodesL ks
end
mutual
def uH : Formula → Nat
 | ⟨_, _, _, ks⟩ => deepL ks + 1
def deepL : List Formula → Nat
 | [] => 0
 | k :: ks => max (uH k) (deepL ks)
end
theorem rV (f : Formula) : mT f = 1 + nodesL f.Kids := by cases f; rw [mT]
theorem rr (f : Formula) : uH f = deepL f.Kids + 1 := by cases f; rw [uH]
theorem Aq : ∀ {a : List Formula} {k : Formula}, k ∈ a → mT k ≤ nodesL a
 | x :: a, k, h => by
  rw [nodesL]
  rcases aS.1 h with rfl | h
  ·omega
  ·have := Aq h; omega
theorem yv : ∀ {a : List Formula} {k : Formula}, k ∈ a → uH k ≤ deepL a
 | x :: a, k, h => by
  rw [deepL]
  rcases aS.1 h with rfl | h
  ·omega
  ·have := yv h; omega
theorem CC : ∀ f : Formula, uH f ≤ mT f := by
 refine NW fun f ih => ?_
 rw [rr, rV]
 have : ∀ a : List Formula, (∀ k ∈ a, uH k ≤ mT k) → deepL a ≤ nodesL a := by
  intro a
  induction a with
  | nil => intro _; rw [deepL]; omega
  | cons k a b =>
   intro h
   have := b (fun x c => h x (by simp [c]))
   have := h k (by simp)
   rw [deepL, nodesL]; omega
 have := this f.Kids ih
 omega
theorem yx : ∀ a : List Formula, a.length ≤ nodesL a
 | [] => by rw [nodesL]; simp
 | k :: a => by have := yx a; have := rV k; rw [nodesL, aP]; omega
theorem OW (a : Nat) (hm : a ≤ 4096) (rec : Formula → Int → Option (Int × Int)) : ∀ (b : List Formula), (∀ k ∈ b, ∀ q : Nat, q ≤ 4096 → ∃ n d : Nat, rec k (q : Int) = some ((n : Int), (d : Int)) ∧ 1 ≤ n ∧ n ≤ mT k ∧ d ≤ mT k ∧ (mT k ≤ q → n = mT k ∧ d = uH k) ∧ (q < mT k → q < n)) → ∀ x y : Nat, x + nodesL b ≤ 100000000 →
  ∃ n d : Nat, rC (a : Int) rec b (x : Int) (y : Int) = some ((n : Int), (d : Int)) ∧ x ≤ n ∧ n ≤ x + nodesL b ∧ d ≤ max y (nodesL b) ∧ (x + nodesL b ≤ a → n = x + nodesL b ∧ d = max y (deepL b)) ∧ (a < x + nodesL b → a < n)
 | [], _, x, y, _ => by
  rw [rC, nodesL, deepL]
  exact ⟨x, y, rfl, by omega, by omega, by omega, fun _ => ⟨by omega, by omega⟩, fun h => by omega⟩
 | k :: b, g, x, y, o => by
  rw [nodesL] at o ⊢
  rw [rC, deepL]
  by_cases i : (x : Int) > (a : Int)
  ·simp only [i, cA, aT]
   exact ⟨x, y, rfl, by omega, by omega, by omega, fun _ => by omega, fun h => by omega⟩
  ·simp only [i, cL, aB, aN]
   have s : IntKind.i64.wrap ((a : Int) - (x : Int)) = ((a - x : Nat) : Int) := by rw [nf (by omega) (by omega)]; omega
   obtain ⟨m, d, e, h1, v, w, c, l⟩ := g k (by simp) (a - x) (by omega)
   rw [s, e, aA]
   have t : IntKind.i64.wrap ((x : Int) + (m : Int)) = ((x + m : Nat) : Int) := by rw [nf (by omega) (by omega)]; omega
   have u : (if (d : Int) > (y : Int) then (d : Int) else (y : Int)) = ((max y d : Nat) : Int) := by split <;> omega
   simp only [t, u]
   obtain ⟨n, j, e', g1, g2, g3, g4, g5⟩ := OW a hm rec b (fun z r => g z (by simp [r])) (x + m) (max y d) (by omega)
   refine ⟨n, j, e', by omega, by omega, by omega, fun h => ?_, fun h => ?_⟩
   ·obtain ⟨rfl, rfl⟩ := c (by omega)
    obtain ⟨rfl, rfl⟩ := g4 (by omega)
    exact ⟨by omega, by omega⟩
   ·by_cases hk : a - x < mT k
    ·have := l hk; omega
    ·obtain ⟨rfl, _⟩ := c (by omega)
     exact g5 (by omega)
theorem Q4 : ∀ (n : Nat) (f : Formula), uH f ≤ n → mT f ≤ 50000000 → ∀ q : Nat, q ≤ 4096 → ∃ m d : Nat, qj n f (q : Int) = some ((m : Int), (d : Int)) ∧ 1 ≤ m ∧ m ≤ mT f ∧ d ≤ mT f ∧ (mT f ≤ q → m = mT f ∧ d = uH f) ∧ (q < mT f → q < m) := by
 intro n
 induction n with
 | zero => intro f h; rw [rr] at h; omega
 | succ n ih =>
  intro f g r q a
  rw [rr] at g
  have i := rV f
  rw [qj]
  unfold xz
  obtain ⟨m, d, e, h1, l, o, b, c⟩ := OW q a (qj n) f.Kids (fun k hk q a => ih k (by have := yv hk; omega) (by have := Aq hk; omega) q a) 1 0 (by omega)
  have e' : rC (q : Int) (qj n) f.Kids 1 0 = some ((m : Int), (d : Int)) := e
  rw [e', aA]
  have j : IntKind.i64.wrap ((d : Int) + 1) = ((d + 1 : Nat) : Int) := by rw [nf (by omega) (by omega)]; omega
  simp only [j]
  refine ⟨m, d + 1, rfl, h1, by omega, by omega, fun h => ?_, fun h => c (by omega)⟩
  obtain ⟨rfl, rfl⟩ := b (by omega)
  rw [rr]
  exact ⟨by omega, by omega⟩
theorem Sz (f : Formula) (c : mT f ≤ 50000000) : yX f = some (if mT f ≤ 4096 then ((mT f : Int), (uH f : Int)) else (0, 0)) := by
 unfold yX
 have := CC f
 obtain ⟨m, d, e, h1, g, i, a, b⟩ := Q4 mR f (by rw [oY]; omega) c 4096 (aW _)
 have e' : qj mR f 4096 = some ((m : Int), (d : Int)) := e
 rw [e', aA]
 by_cases h : mT f ≤ 4096
 ·obtain ⟨rfl, rfl⟩ := a h
  have : ¬ ((mT f : Int) > 4096) := by omega
  simp [this, h]
 ·have := b (by omega)
  have : ((m : Int) > 4096) := by omega
  simp [this, h]
def zk : lC := ⟨zS, zS⟩
def He (f : Formula) : Bool := if f.Op = 1 then nQ f.lC && decide (f.Kids.length = 0) && decide (f.K = 0) else if f.Op = 2 ∨ f.Op = 3 then lZ f.lC zk && decide (f.K = 0) else decide (f.Op = 4) && lZ f.lC zk && decide (0 ≤ f.K) && decide (f.K ≤ (f.Kids.length : Int)) && decide (1 ≤ f.Kids.length)
theorem SO (f : Formula) : yW f = some (He f) := by
 unfold yW He
 simp only [wB, aA, pk]
 by_cases h1 : f.Op = 1
 ·simp only [h1, bP, aT]
  cases n : nQ f.lC
  ·simp
  ·by_cases j : f.Kids.length = 0
   ·have : f.Kids = [] := aX j
    by_cases hk : f.K = 0 <;> simp [this, hk]
   ·have : ((f.Kids.length : Int) == 0) = false := by simp; intro h; exact j (by simp [h])
    simp only [aT, aA, this, aB, aN, j, cL, Bool.and_false, kj]
 ·have l : (f.Op == 1) = false := by simpa using h1
  simp only [l, aB, aN, h1]
  by_cases c : f.Op = 2 ∨ f.Op = 3
  ·have g : (if f.Op == 2 then some (f.Op == 2) else some (f.Op == 3)) = some true := by
    rcases c with h | h <;> simp [h]
   simp only [g, aA, aT, c]
   cases d : lZ f.lC ⟨zS, zS⟩ <;> by_cases hk : f.K = 0 <;> simp [zk, d, hk]
  ·have g : (if f.Op == 2 then some (f.Op == 2) else some (f.Op == 3)) = some false := by
    have a : f.Op ≠ 2 := fun h => c (.inl h)
    have b : f.Op ≠ 3 := fun h => c (.inr h)
    simp [a, b]
   simp only [g, aA, aB, aN, c]
   by_cases i : f.Op = 4
   ·simp only [i, bP, aT, aA, cA, fF]
    cases d : lZ f.lC ⟨zS, zS⟩
    ·simp [zk, d]
    ·by_cases c1 : 0 ≤ f.K <;> by_cases c2 : f.K ≤ (f.Kids.length : Int) <;> by_cases k : 1 ≤ f.Kids.length <;> simp [zk, d, c1, c2, k] <;> omega
   ·have m : (f.Op == 4) = false := by simpa using i
    simp [m, i]
mutual
def zc : Formula → Bool
 | ⟨o, n, r, ks⟩ => He ⟨o, n, r, ks⟩ && decide (ks.length ≤ 8) && wellL ks
def wellL : List Formula → Bool
 | [] => true
 | k :: ks => zc k && wellL ks
end
theorem L7 (f : Formula) : zc f = (He f && decide (f.Kids.length ≤ 8) && wellL f.Kids) := by cases f; rw [zc]
theorem Kn : ∀ a : List Formula, wellL a = a.all zc
 | [] => rfl
 | k :: a => by rw [wellL, Kn a]; rfl
theorem LN (f : Formula → Option Bool) : ∀ (l : List Formula) (i : Nat), pe f l i = zo f l i
 | [], i => by rw [pe]; rfl
 | x :: l, i => by
  rw [pe, zo]
  cases f x with
  | none => rfl
  | some b =>
   simp only [aA]
   rw [LN f l (i + 1)]
theorem Hy (f : Formula → Option Bool) (p : Formula → Bool) (l : List Formula) (h : ∀ x ∈ l, f x = some (p x)) : pT l f = some (l.any p) := by
 unfold pT vk
 rw [LN]
 rcases CY f p l 0 h with ⟨e, h1⟩ | ⟨A, x, B, rfl, h1, a, e⟩
 ·rw [e, aA]
  have : l.any p = false := by rw [jk]; intro x b; rw [h1 x b]; simp
  rw [this]; rfl
 ·rw [e, aA]
  have : (A ++ x :: B).any p = true := by simp [a]
  rw [this]
  congr 1
theorem Qy : ∀ (n : Nat) (f : Formula), uH f ≤ n → tM n f = some (zc f) := by
 intro n
 induction n with
 | zero => intro f h; rw [rr] at h; omega
 | succ n ih =>
  intro f h
  rw [rr] at h
  rw [tM]
  unfold xE
  rw [SO, aA, L7, Hy _ (fun k => !zc k) f.Kids (fun k hk => by unfold wz; rw [ih k (by have := yv hk; omega)]; rfl)]
  rw [Kn]
  have e : (!(f.Kids.any fun k => !zc k)) = f.Kids.all zc := by rw [List.all_eq_not_any_not]
  cases He f
  ·rfl
  ·by_cases a : f.Kids.length ≤ 8
   ·have : ((f.Kids.length : Int) ≤ 8) := by omega
    simp [a, this, e]
   ·have : ¬ ((f.Kids.length : Int) ≤ 8) := by omega
    simp [a, this]
def rq (f : Formula) : Bool := decide (mT f ≤ 64) && decide (uH f ≤ 6) && zc f
theorem Bs (f : Formula) (b : mT f ≤ 50000000) : rb f = some (rq f) := by
 unfold rb rq
 have c := CC f
 rw [Sz f b, aA, Qy mR f (by rw [oY]; omega)]
 have h1 := rV f
 by_cases h : mT f ≤ 4096
 ·simp only [h, aT]
  have a : ((mT f : Int) ≥ 1) := by omega
  simp only [a, cA, aT, aA, pk]
  by_cases c1 : mT f ≤ 64 <;> by_cases c2 : uH f ≤ 6
  ·have d1 : ((mT f : Int) ≤ 64) := by omega
   have d2 : ((uH f : Int) ≤ 6) := by omega
   simp [c1, c2, d1, d2]
  ·have d1 : ((mT f : Int) ≤ 64) := by omega
   have d2 : ¬ ((uH f : Int) ≤ 6) := by omega
   simp [c1, c2, d1, d2]
  ·have d1 : ¬ ((mT f : Int) ≤ 64) := by omega
   simp [c1, d1]
  ·have d1 : ¬ ((mT f : Int) ≤ 64) := by omega
   simp [c1, d1]
 ·simp only [h, aN]
  have : ¬ mT f ≤ 64 := by omega
  simp [this]
theorem Formula.ext' {a b : Formula} (h1 : a.Op = b.Op) (c : a.K = b.K) (d : a.lC = b.lC) (g : a.Kids = b.Kids) : a = b := by
 cases a; cases b; simp only at h1 c d g; subst h1 c d g; rfl
theorem P4 (g : Formula × Formula → Option Bool) : ∀ (l m : List Formula), l.length = m.length → (∀ x ∈ l, ∀ y, ∃ b, g (x, y) = some b ∧ (b = true ↔ x = y)) → ∀ (A : List Formula),
  ∃ b, nv (A ++ m) g l A.length = some b ∧ (b = true ↔ l = m)
 | [], m, c, _, A => by
  obtain rfl := aX c.symm
  exact ⟨true, rfl, by simp⟩
 | x :: l, [], c, _, A => by simp at c
 | x :: l, y :: m, c, d, A => by
  rw [nv]
  obtain ⟨b, e, h⟩ := d x (by simp) y
  have i1 : nD (A ++ y :: m) (A.length : Int) = some y := oS _ _ _ _ rfl
  rw [i1, aA, e, aA]
  cases b with
  | false =>
   refine ⟨false, rfl, ?_⟩
   have : x ≠ y := fun a => by have := h.2 a; simp at this
   simp [this]
  | true =>
   have a := h.1 rfl
   obtain ⟨b, i, n⟩ := P4 g l m (by simpa using c) (fun z o => d z (by simp [o])) (A ++ [y])
   simp only [bX, aB, aN]
   have j : A ++ y :: m = (A ++ [y]) ++ m := by simp
   have k : A.length + 1 = (A ++ [y]).length := by simp
   rw [j, k, i]
   exact ⟨b, rfl, by rw [n]; simp [a]⟩
theorem R3 : ∀ (n : Nat) (f : Formula), uH f ≤ n → ∀ g, ∃ b, pZ n f g = some b ∧ (b = true ↔ f = g) := by
 intro n
 induction n with
 | zero => intro f h; rw [rr] at h; omega
 | succ n ih =>
  intro f h g
  rw [rr] at h
  rw [pZ]
  unfold yg
  by_cases h1 : f.Op = g.Op
  ·by_cases a : f.K = g.K
   ·by_cases c : f.lC = g.lC
    ·have i : lZ f.lC g.lC = true := mi.2 c
     simp only [h1, a, i, bP, aT, aA]
     unfold oD
     by_cases d : f.Kids.length = g.Kids.length
     ·have : ((f.Kids.length : Int) != (g.Kids.length : Int)) = false := by simp [d]
      simp only [this, aB, aN]
      obtain ⟨b, e, l⟩ := P4 (fun x => pZ n x.1 x.2) f.Kids g.Kids d (fun x m y => ih x (by have := yv m; omega) y) []
      simp only [bN, bV] at e
      rw [e]
      refine ⟨b, by simp, l.trans ⟨fun hk => Formula.ext' h1 a c hk, fun hk => by rw [hk]⟩⟩
     ·have : ((f.Kids.length : Int) != (g.Kids.length : Int)) = true := by simp; omega
      simp only [this, aT]
      exact ⟨false, rfl, by simp; intro hk; rw [hk] at d; exact d rfl⟩
    ·have i : lZ f.lC g.lC = false := by rw [← iH, mi]; exact c
     simp only [h1, a, i, bP, aT, aA, aB, aN]
     exact ⟨false, rfl, by simp; intro hk; rw [hk] at c; exact c rfl⟩
   ·have k : (f.K == g.K) = false := by simpa using a
    simp only [h1, k, bP, aT, aA, aB, aN]
    exact ⟨false, rfl, by simp; intro hk; rw [hk] at a; exact a rfl⟩
  ·have j : (f.Op == g.Op) = false := by simpa using h1
   simp only [j, aA, aB, aN]
   exact ⟨false, rfl, by simp; intro hk; rw [hk] at h1; exact h1 rfl⟩
end Go.Proofs.YtklbhegeiijbjaaGreat
namespace Go.Proofs.YtklbhegeiijbjaaGreat
open Go.RowKit
mutual
def CV : Formula → List Int
 | ⟨o, k, r, ks⟩ => o :: (if o = 1 then uI r else (if o = 4 then [k] else []) ++ ((ks.length : Int) :: bytesFL ks))
def bytesFL : List Formula → List Int
 | [] => []
 | k :: ks => CV k ++ bytesFL ks
end
theorem OX (f : Formula) : CV f = f.Op :: (if f.Op = 1 then uI f.lC else (if f.Op = 4 then [f.K] else []) ++ ((f.Kids.length : Int) :: bytesFL f.Kids)) := by cases f; rw [CV]
theorem Hr {f : Formula} (h : zc f = true) : f.Kids.length ≤ 8 ∧ wellL f.Kids = true ∧ ((f.Op = 1 ∧ nQ f.lC = true ∧ f.Kids = [] ∧ f.K = 0) ∨ ((f.Op = 2 ∨ f.Op = 3) ∧ f.lC = zk ∧ f.K = 0) ∨ (f.Op = 4 ∧ f.lC = zk ∧ 0 ≤ f.K ∧ f.K ≤ (f.Kids.length : Int) ∧ 1 ≤ f.Kids.length)) := by
 rw [L7] at h
 simp only [bD, cH] at h
 obtain ⟨⟨h1, a⟩, b⟩ := h
 refine ⟨a, b, ?_⟩
 unfold He at h1
 split at h1
 ·rename_i c
  simp only [bD, cH] at h1
  exact .inl ⟨c, h1.1.1, aX h1.1.2, h1.2⟩
 ·split at h1
  ·rename_i c
   simp only [bD, cH, mi] at h1
   exact .inr (.inl ⟨c, h1.1, h1.2⟩)
  ·simp only [bD, cH, mi] at h1
   exact .inr (.inr ⟨h1.1.1.1.1, h1.1.1.1.2, h1.1.1.2, h1.1.2, h1.2⟩)
theorem Tq : ∀ (n : Nat) (f : Formula), uH f ≤ n → zc f = true → ∀ l : List Int, l.length + 40 * mT f ≤ 8000 → rT n l f = some (l ++ CV f) ∧ (CV f).length ≤ 40 * mT f := by
 intro n
 induction n with
 | zero => intro f h; rw [rr] at h; omega
 | succ n ih =>
  intro f t hw l r
  rw [rr] at t
  have u := rV f
  obtain ⟨h1, q, m⟩ := Hr hw
  rw [rT]
  unfold xJ
  have d : 0 ≤ f.Op ∧ f.Op < 128 := by rcases m with h | h | h <;> omega
  rw [Ar d.1 d.2 (by omega), aA, OX]
  have key : ∀ (a : List Formula), (∀ k ∈ a, k ∈ f.Kids) → wellL a = true → ∀ l : List Int, l.length + 40 * nodesL a ≤ 8000 → sH (rT n) a l = some (l ++ bytesFL a) ∧ (bytesFL a).length ≤ 40 * nodesL a := by
   intro a
   induction a with
   | nil => intro _ _ l _; rw [sH, bytesFL]; simp
   | cons k a o =>
    intro hk b l r
    rw [wellL, bD] at b
    rw [nodesL] at r
    obtain ⟨i, w⟩ := ih k (by have := yv (hk k (by simp)); omega) b.1 l (by omega)
    obtain ⟨c, j⟩ := o (fun z v => hk z (by simp [v])) b.2 (l ++ CV k) (by simp; omega)
    rw [sH, i, aA, c, bytesFL, nodesL]
    exact ⟨by simp, by simp; omega⟩
  have hlen : 0 ≤ (f.Kids.length : Int) ∧ (f.Kids.length : Int) < 128 := by omega
  by_cases c1 : f.Op = 1
  ·have s : nQ f.lC = true := by rcases m with h | h | h; exact h.2.1; omega; omega
   have := rk s
   simp only [c1, bP, aT]
   rw [Mj s (by simp; omega), aA]
   exact ⟨by simp, by simp; omega⟩
  ·have i : (f.Op == 1) = false := by simpa using c1
   simp only [i, aB, aN, c1]
   by_cases g : f.Op = 4
   ·have hk : 0 ≤ f.K ∧ f.K < 128 := by rcases m with h | h | h <;> omega
    simp only [g, bP, aT]
    rw [Ar hk.1 hk.2 (by simp; omega)]
    simp only [aA]
    rw [Ar hlen.1 hlen.2 (by simp; omega)]
    simp only [aA]
    obtain ⟨c, j⟩ := key f.Kids (fun k hk => hk) q (l ++ [4] ++ [f.K] ++ [(f.Kids.length : Int)]) (by simp; omega)
    rw [c]
    exact ⟨by simp, by simp; omega⟩
   ·have j : (f.Op == 4) = false := by simpa using g
    simp only [j, aB, aN, g, aA]
    rw [Ar hlen.1 hlen.2 (by simp; omega)]
    simp only [aA]
    obtain ⟨c, x⟩ := key f.Kids (fun k hk => hk) q (l ++ [f.Op] ++ [(f.Kids.length : Int)]) (by simp; omega)
    rw [c]
    exact ⟨by simp, by simp; omega⟩
def HC (f : Formula) : List Int := if rq f then CV f else []
abbrev Gd (f : Formula) : Prop := mT f ≤ 50000000
theorem Ft {f : Formula} (h : rq f = true) : mT f ≤ 64 ∧ uH f ≤ 6 ∧ zc f = true := by
 unfold rq at h
 simp only [bD, cH] at h
 exact ⟨h.1.1, h.1.2, h.2⟩
theorem Tg (f : Formula) (c : Gd f) (l : List Int) (i : l.length ≤ 5000) : yq l f = some (rq f, l ++ HC f) ∧ (HC f).length ≤ 2560 := by
 unfold yq HC
 rw [Bs f c, aA]
 cases h : rq f
 ·simp
 ·obtain ⟨h1, g, b⟩ := Ft h
  obtain ⟨a, d⟩ := Tq mR f (by rw [oY]; omega) b l (by omega)
  simp only [bX, aB, aN, a, aA, aT]
  exact ⟨trivial, by omega⟩
theorem Jl (f : Formula) (b : Gd f) : vp f = some (HC f) := by
 unfold vp
 obtain ⟨a, c⟩ := Tg f b [] (by simp)
 rw [a, aA, pk]
 unfold vY
 simp only [bN]
 rw [Tt (by omega)]
 rfl
def NO (f g : Formula) : Int := An (HC f) (HC g)
theorem ON (f g : Formula) (a : Gd f) (b : Gd g) : vn f g = some (NO f g) := by
 unfold vn yt
 rw [Jl f a, Jl g b]
 rfl
theorem EH (f g : Formula) : qe NO f g = Op.bytesLess (xu (HC f)) (xu (HC g)) := by
 rw [cJ]
 have h : qe NO f g = true ↔ NO f g < 0 := by unfold qe; exact decide_eq_true_iff
 exact h.trans (Ev _ _)
theorem Vv : SWO (qe NO) where
 UZ x := by rw [EH, DH]
 tr x y z h1 a := by rw [EH] at *; exact CM _ _ _ h1 a
 Rx x y z h := by
  rw [EH] at h
  rw [EH, EH]
  rcases E9 (xu (HC x)) (xu (HC y)) with h1 | h1 | h1
  ·exact .inl h1
  ·rw [h1] at h; exact .inr h
  ·exact .inr (CM _ _ _ h1 h)
def DW (l : List Formula) : List Formula := Mg (qe NO) l
theorem La (l : List Formula) (a : ∀ x ∈ l, Gd x) (b : l.length ≤ 300000) : xl l = some (DW l) := by
 unfold xl uB
 rw [om (by simp; omega) (by simp; omega)]
 simp only [aA, bN, pk]
 exact NZ Vv (fun x y c d => ON x y c d) l a b
theorem OY {α : Type} (lt : α → α → Bool) (l : List α) (k : α) : (Im lt l k).Perm (l ++ [k]) := by
 unfold Im
 refine List.perm_middle.trans ((List.Perm.cons _ ?_).trans (iC k l).symm)
 have := List.filter_append_perm (fun x => !lt k x) l
 simpa using this
theorem OZ {α : Type} (lt : α → α → Bool) (l : List α) : (Mg lt l).Perm l := by
 suffices H : ∀ (l a : List α), (l.foldl (Im lt) a).Perm (a ++ l) by have := H l []; rwa [bN] at this
 intro l
 induction l with
 | nil => intro a; simp
 | cons k l ih =>
  intro a
  rw [iU]
  refine (ih _).trans ?_
  have := (OY lt a k).append_right l
  simpa using this
theorem GM (l : List Formula) : (DW l).Perm l := OZ _ l
noncomputable def Ch (a b : Formula) : Bool := @decide (a = b) (Classical.propDecidable _)
theorem R7 {a b : Formula} : Ch a b = true ↔ a = b := by unfold Ch; simp
theorem Sa (a b : Formula) (h : Gd a) : pZ mR a b = some (Ch a b) := by
 have := CC a
 obtain ⟨x, e, c⟩ := R3 mR a (by rw [oY]; omega) b
 rw [e]; congr 1
 rw [cJ, c, R7]
def U3 : Formula := ⟨0, 0, ⟨zS, zS⟩, []⟩
theorem QK (f1 : Formula × Formula → Option Bool) (i : Int) : ∀ (n : Nat) (l : List Formula) (k j : Int), (∀ x ∈ l, ∀ y ∈ l, f1 (x, y) = some (Ch x y)) → oE i f1 n l k j = Bu Ch i n l k j
 | 0, l, k, j, _ => by rw [oE, Bu]
 | n + 1, l, k, j, h => by
  rw [oE, Bu]
  split
  ·cases d : nD (l.drop (Int.toNat i)) j with
   | none => rfl
   | some x =>
    cases g : nD (l.drop (Int.toNat i)) (IntKind.i64.wrap (j - 1)) with
    | none => rfl
    | some y =>
     have c : x ∈ l := List.mem_of_mem_drop (dK (mA d))
     have q : y ∈ l := List.mem_of_mem_drop (dK (mA g))
     simp only [aA, h x c y q]
     cases Ch x y
     ·simp only [eL, aT]
      cases r : nD l k with
      | none => rfl
      | some z =>
       simp only [aA]
       refine QK f1 i n _ _ _ (fun a ha b o => ?_)
       have m : ∀ a ∈ l.set (Int.toNat k) x, a ∈ l := fun a ha => by
        rcases List.mem_or_eq_of_mem_set ha with ha | rfl
        ·exact ha
        ·exact c
       exact h a (m a ha) b (m b o)
     ·simp only [bX, aB, aN, aA]
      exact QK f1 i n _ _ _ h
  ·rfl
theorem Ud (f1 : Formula × Formula → Option Bool) (l : List Formula) (h : ∀ x ∈ l, ∀ y ∈ l, f1 (x, y) = some (Ch x y)) : ∀ (n : Nat) (i : Int), oC l f1 n i = BZ Ch U3 l n i
 | 0, i => by rw [oC, BZ]
 | n + 1, i => by
  rw [oC, BZ]
  split
  ·cases a : nD l i with
   | none => rfl
   | some x =>
    cases b : nD l (IntKind.i64.wrap (i - 1)) with
    | none => rfl
    | some y =>
     have c : x ∈ l := dK (mA a)
     have d : y ∈ l := dK (mA b)
     simp only [aA, h x c y d]
     rw [QK f1 i mR l i 1 h, Ud f1 l h n]
     rfl
  ·rfl
theorem Ot (l : List Formula) (h : ∀ x ∈ l, Gd x) (b : l.length ≤ 300000) : rI l (fun x => pZ mR x.1 x.2) = some (dd Ch l) := by
 rw [← Ip Ch U3 l (by omega)]
 unfold rI H0
 rw [Ud _ l (fun x a y _ => Sa x y (h x a))]
end Go.Proofs.YtklbhegeiijbjaaGreat
namespace Go.Proofs.YtklbhegeiijbjaaGreat
open Go.RowKit
def qZ (op : Int) (f : Formula) : Bool := decide (f.Op = op) && f.Kids.isEmpty
theorem Ic (f : Formula) (op : Int) : vJ f op = some (qZ op f) := by
 unfold vJ qZ
 rw [pk]
 by_cases h : f.Op = op
 ·simp only [h, bP, aT, cA, fF]
  congr 1
  cases hk : f.Kids with
  | nil => rfl
  | cons a l => simp; omega
 ·have e : (f.Op == op) = false := by simpa using h
  simp [e, h]
def wg (op : Int) : List Formula → List Formula
 | [] => []
 | k :: a => (if k.Op = op then k.Kids else [k]) ++ wg op a
theorem Ff (op : Int) : ∀ c : List Formula, nodesL (wg op c) ≤ nodesL c
 | [] => aW _
 | k :: c => by
  have ih := Ff op c
  have e : ∀ a b : List Formula, nodesL (a ++ b) = nodesL a + nodesL b := by
   intro a b
   induction a with
   | nil => rw [bN, nodesL]; omega
   | cons x a d => rw [cC, nodesL, nodesL, d]; omega
  have := rV k
  rw [wg, e, nodesL]
  split
  ·omega
  ·rw [nodesL, nodesL]; omega
theorem JM (op : Int) : ∀ (a acc : List Formula), acc.length + nodesL a ≤ 100000000 → sG op a acc = some (acc ++ wg op a)
 | [], acc, _ => by rw [sG, wg, bO]
 | k :: a, acc, h => by
  rw [nodesL] at h
  have h1 := rV k
  have b := yx k.Kids
  rw [sG, wg]
  by_cases c : k.Op = op
  ·simp only [c, bP, aT]
   rw [om (by omega) (by omega), aA, JM op a _ (by simp; omega), aR]
  ·have e : (k.Op == op) = false := by simpa using c
   simp only [e, aB, aN, c]
   rw [om (by simp; omega) (by simp; omega), aA, JM op a _ (by simp; omega), aR]
noncomputable def xh (op : Int) (a : List Formula) : Formula :=
 if (wg op a).any (qZ (5 - op)) then ⟨5 - op, 0, zk, []⟩ else
  match dd Ch (DW (wg op a)) with
  | [x] => x
  | r => ⟨op, 0, zk, r⟩
theorem Ui {α : Type} (eq : α → α → Bool) (l : List α) : (dd eq l).length ≤ l.length := by
 cases l with
 | nil => exact aW _
 | cons x l =>
  have : ∀ (l : List α) (x : α), (ry eq x l).length ≤ l.length := by
   intro l
   induction l with
   | nil => intro x; exact aW _
   | cons y l ih => intro x; rw [ry]; have := ih y; have := ih x; split <;> simp <;> omega
  have := this l x
  rw [dd, aP, aP]; omega
theorem GK (s : mZ) (op : Int) (g : op = 2 ∨ op = 3) (a : List Formula) (h : nodesL a ≤ 64) : qc s op a = some (xh op a, s) := by
 have h1 := Ff op a
 have i := yx (wg op a)
 have c : ∀ x ∈ wg op a, Gd x := fun x b => by have := Aq b; unfold Gd; omega
 have hw : IntKind.i64.wrap (5 - op) = 5 - op := nf (by omega) (by omega)
 unfold qc B6 xh
 rw [JM op a [] (by simp; omega), aA, bN, hw, Hy _ (qZ (5 - op)) _ (fun x _ => by unfold sQ; rw [Ic, pk]), aA]
 cases j : (wg op a).any (qZ (5 - op))
 ·simp only [aB, aN]
  have hp := GM (wg op a)
  have l := hp.length_eq
  rw [La _ c (by omega), aA, Ot _ (fun x b => c x (hp.mem_iff.1 b)) (by omega), aA]
  have k := Ui Ch (DW (wg op a))
  have d : ¬ (((dd Ch (DW (wg op a))).length : Int) > 64) := by omega
  simp only [d, cL, aB, aN, aA]
  generalize dd Ch (DW (wg op a)) = r
  match r with
  | [] => rfl
  | [x] => rfl
  | x :: y :: r =>
   have : (((x :: y :: r).length : Int) == 1) = false := by simp; omega
   simp only [this, aB, aN]
   rfl
 ·rfl
noncomputable def Ak (k : Int) (a : List Formula) : Formula :=
 let n := k - ((a.filter (qZ 2)).length : Int)
 let l := a.filter fun x => !qZ 2 x && !qZ 3 x
 if n ≤ 0 then ⟨2, 0, zk, []⟩ else if n > (l.length : Int) then ⟨3, 0, zk, []⟩ else if n = (l.length : Int) then xh 2 l else if n = 1 then xh 3 l else ⟨4, n, zk, DW l⟩
theorem Di (p : Formula → Bool) : ∀ a : List Formula, nodesL (a.filter p) ≤ nodesL a
 | [] => aW _
 | k :: a => by
  have := Di p a
  rw [iI]
  split
  ·rw [nodesL, nodesL]; omega
  ·rw [nodesL]; omega
theorem Cq (s : mZ) : ∀ (a acc : List Formula) (k : Int), -1000 ≤ k - (a.length : Int) → k ≤ 1000 → acc.length + a.length ≤ 1000 → nodesL (acc ++ a.filter fun x => !qZ 2 x && !qZ 3 x) ≤ 64 →
  oB s a k acc = some (let n := k - ((a.filter (qZ 2)).length : Int); let l := acc ++ a.filter fun x => !qZ 2 x && !qZ 3 x; if n ≤ 0 then ⟨2, 0, zk, []⟩ else if n > (l.length : Int) then ⟨3, 0, zk, []⟩ else if n = (l.length : Int) then xh 2 l else if n = 1 then xh 3 l else ⟨4, n, zk, DW l⟩, s)
 | [], acc, k, h1, g, h, b => by
  simp only [List.filter_nil, bO, bV] at b ⊢
  rw [oB]
  simp only [Int.ofNat_zero, Int.sub_zero, AQ, Bm, aA, Int.natCast_zero]
  have o := yx acc
  by_cases c1 : k ≤ 0
  ·simp only [c1, cA, aT]; rfl
  ·simp only [c1, cL, aB, aN]
   by_cases c2 : k > (acc.length : Int)
   ·simp only [c2, cA, aT]; rfl
   ·simp only [c2, cL, aB, aN]
    by_cases c : k = (acc.length : Int)
    ·simp only [← c, bP, aT]
     rw [GK s 2 (.inl rfl) acc b, aA]
    ·have i : (k == (acc.length : Int)) = false := by simpa using c
     simp only [i, aB, aN, c]
     by_cases d : k = 1
     ·simp only [d, bP, aT]
      rw [GK s 3 (.inr rfl) acc b, aA]
     ·have j : (k == 1) = false := by simpa using d
      simp only [j, aB, aN, d]
      rw [La acc (fun x m => by have := Aq m; unfold Gd; omega) (by omega)]
      rfl
 | x :: a, acc, k, h1, g, h, b => by
  simp only [aP] at h1 h
  rw [oB, Ic, aA, Ic, aA]
  rw [iI, iI] at *
  cases c2 : qZ 2 x
  ·cases c : qZ 3 x
   ·simp only [c2, c, eL, Bool.and_self, aB, aN, aT] at b ⊢
    rw [om (by simp; omega) (by simp; omega), aA, Cq s a _ k (by omega) g (by simp; omega) (by rw [aR]; exact b)]
    simp only [aR, cC, bN]
   ·simp only [c2, c, eL, bX, Bool.and_false, aB, aN] at b ⊢
    rw [Cq s a _ k (by omega) g (by omega) b]
  ·simp only [c2, bX, kj, aB, aN, aT] at b ⊢
   rw [nf (by omega) (by omega), Cq s a _ (k - 1) (by omega) (by omega) (by omega) b]
   simp only [aP]
   have e : k - 1 - ((a.filter (qZ 2)).length : Int) = k - (((a.filter (qZ 2)).length + 1 : Nat) : Int) := by omega
   rw [e]
theorem Oz (s : mZ) (k : Int) (hk : 0 ≤ k ∧ k ≤ 1000) (a : List Formula) (h : nodesL a ≤ 64) : sS s k a = some (Ak k a, s) := by
 have := yx a
 have := Di (fun x => !qZ 2 x && !qZ 3 x) a
 unfold sS Ak
 rw [Cq s a [] k (by omega) (by omega) (by simp; omega) (by simpa using by omega)]
 rfl
mutual
noncomputable def wI : Formula → Formula
 | ⟨o, k, r, ks⟩ => if o = 1 then ⟨o, k, r, ks⟩ else if o = 4 then Ak k (shapeL ks) else xh o (shapeL ks)
noncomputable def shapeL : List Formula → List Formula
 | [] => []
 | k :: ks => wI k :: shapeL ks
end
theorem GP (f : Formula) : wI f = if f.Op = 1 then f else if f.Op = 4 then Ak f.K (shapeL f.Kids) else xh f.Op (shapeL f.Kids) := by cases f; rw [wI]
theorem HB {a b : List Formula} (h : a.Perm b) : nodesL a = nodesL b := by
 induction h with
 | nil => rfl
 | cons x _ ih => rw [nodesL, nodesL, ih]
 | swap x y l => rw [nodesL, nodesL, nodesL, nodesL]; omega
 | trans _ _ h1 c => rw [h1, c]
theorem FG (eq : Formula → Formula → Bool) : ∀ (l : List Formula) (x : Formula), nodesL (ry eq x l) ≤ nodesL l
 | [], x => aW _
 | y :: l, x => by
  have h1 := FG eq l y
  have a := FG eq l x
  rw [ry]
  split
  ·rw [nodesL]; omega
  ·rw [nodesL, nodesL]; omega
theorem Qx (eq : Formula → Formula → Bool) (l : List Formula) : nodesL (dd eq l) ≤ nodesL l := by
 cases l with
 | nil => exact aW _
 | cons x l => have := FG eq l x; rw [dd, nodesL, nodesL]; omega
theorem Dg (op : Int) (a : List Formula) : mT (xh op a) ≤ 1 + nodesL a := by
 unfold xh
 split
 ·rw [mT, nodesL]; omega
 ·have h1 := Qx Ch (DW (wg op a))
  have b := HB (GM (wg op a))
  have c := Ff op a
  generalize dd Ch (DW (wg op a)) = r at *
  split
  ·rename_i x
   rw [nodesL, nodesL] at h1; omega
  ·rw [mT]; omega
theorem KM (k : Int) (a : List Formula) : mT (Ak k a) ≤ 1 + nodesL a := by
 have h := Di (fun x => !qZ 2 x && !qZ 3 x) a
 unfold Ak
 simp only
 generalize a.filter (fun x => !qZ 2 x && !qZ 3 x) = l at *
 generalize k - ((a.filter (qZ 2)).length : Int) = n
 split
 ·rw [mT, nodesL]; omega
 ·split
  ·rw [mT, nodesL]; omega
  ·split
   ·have := Dg 2 l; omega
   ·split
    ·have := Dg 3 l; omega
    ·have := HB (GM l); rw [mT]; omega
theorem D6 : ∀ f : Formula, mT (wI f) ≤ mT f := by
 refine NW fun f ih => ?_
 have h : ∀ a : List Formula, (∀ k ∈ a, mT (wI k) ≤ mT k) → nodesL (shapeL a) ≤ nodesL a := by
  intro a
  induction a with
  | nil => intro _; rw [shapeL]; exact aW _
  | cons k a b =>
   intro h
   have := b (fun x c => h x (by simp [c]))
   have := h k (by simp)
   rw [shapeL, nodesL, nodesL]; omega
 have h := h f.Kids ih
 rw [GP, rV f]
 split
 ·rw [rV]; omega
 ·split
  ·have := KM f.K (shapeL f.Kids); omega
  ·have := Dg f.Op (shapeL f.Kids); omega
theorem Ll (a : List Formula) : nodesL (shapeL a) ≤ nodesL a := by
 induction a with
 | nil => rw [shapeL]; exact aW _
 | cons k a ih => have := D6 k; rw [shapeL, nodesL, nodesL]; omega
theorem QV : ∀ (n : Nat) (f : Formula), uH f ≤ n → mT f ≤ 64 → zc f = true → ∀ s : mZ, oZ n s f = some (wI f, s) := by
 intro n
 induction n with
 | zero => intro f h; rw [rr] at h; omega
 | succ n ih =>
  intro f r v hw s
  rw [rr] at r
  have t := rV f
  obtain ⟨h1, q, l⟩ := Hr hw
  rw [oZ]
  unfold uw
  rw [GP]
  by_cases c1 : f.Op = 1
  ·simp only [c1, bP, aT]
  ·have m : (f.Op == 1) = false := by simpa using c1
   simp only [m, aB, aN, c1]
   have key : ∀ (a acc : List Formula), (∀ k ∈ a, k ∈ f.Kids) → wellL a = true → nodesL (acc ++ shapeL a) ≤ 64 → nodesL a ≤ 64 → pI (oZ n) f a acc s = some (if f.Op = 4 then Ak f.K (acc ++ shapeL a) else xh f.Op (acc ++ shapeL a), s) := by
    intro a
    induction a with
    | nil =>
     intro acc _ _ d _
     rw [shapeL, bO] at *
     rw [pI]
     by_cases g : f.Op = 4
     ·simp only [g, bP, aT]
      rw [Oz s f.K (by rcases l with h | h | h <;> omega) acc d, aA]
     ·have o : (f.Op == 4) = false := by simpa using g
      simp only [o, aB, aN, g]
      rw [GK s f.Op (by rcases l with h | h | h <;> omega) acc d, aA]
    | cons k a j =>
     intro acc hk b d i
     rw [wellL, bD] at b
     rw [nodesL] at i
     rw [shapeL] at d
     have c := yx (acc ++ wI k :: shapeL a)
     simp only [aC, aP] at c
     rw [pI, ih k (by have := yv (hk k (by simp)); omega) (by omega) b.1 s, aA, om (by simp; omega) (by simp; omega), aA,
      j (acc ++ [wI k]) (fun z u => hk z (by simp [u])) b.2 (by rw [aR]; exact d) (by omega), shapeL]
     simp only [aR, cC, bN]
   have := Ll f.Kids
   have := key f.Kids [] (fun k hk => hk) q (by simpa using by omega) (by omega)
   simpa using this
def Jb : Formula := ⟨0, 0, zk, []⟩
noncomputable def Eb (f : Formula) : Formula × Int := if rq f then (if rq (wI f) then (wI f, 0) else (Jb, 12)) else (Jb, 11)
theorem M3 (f : Formula) (h : Gd f) : zG f = some (Eb f) := by
 unfold zG Eb
 rw [Bs f h, aA]
 cases b : rq f
 ·rfl
 ·obtain ⟨h1, c, a⟩ := Ft b
  have d := D6 f
  simp only [bX, aB, aN, aT]
  rw [QV mR f (by rw [oY]; omega) h1 a, aA, Bs (wI f) (by omega)]
  have e : (((⟨0⟩ : mZ).e) != 0) = false := rfl
  simp only [e, aB, aN, aA]
  cases rq (wI f) <;> rfl
theorem DD {f : Formula} : mT (Eb f).1 ≤ 64 := by
 unfold Eb
 cases h : rq f
 ·exact by simp only [aB, aN, Jb]; rw [mT, nodesL]; omega
 ·obtain ⟨h1, a, b⟩ := Ft h
  have := D6 f
  simp only [aT]
  split
  ·show mT (wI f) ≤ 64; omega
  ·rw [Jb, mT, nodesL]; omega
theorem SC (f g : Formula) (a : mT f ≤ 10000000) (b : mT g ≤ 10000000) : zN f g = some (Eb ⟨2, 0, zk, [f, g]⟩) := by
 unfold zN
 have := M3 ⟨2, 0, zk, [f, g]⟩ (by show mT _ ≤ _; rw [mT, nodesL, nodesL, nodesL]; omega)
 rw [show (⟨2, 0, (⟨zS, zS⟩ : lC), [f, g]⟩ : Formula) = ⟨2, 0, zk, [f, g]⟩ from rfl, this]
 rfl
end Go.Proofs.YtklbhegeiijbjaaGreat
namespace Go.Proofs.YtklbhegeiijbjaaGreat
open Go.RowKit
mutual
def Kv (v : lC → Bool) : Formula → Bool
 | ⟨o, k, r, ks⟩ => if o = 1 then v r else if o = 2 then decide (evN v ks = ks.length) else if o = 3 then decide (0 < evN v ks) else decide (k ≤ (evN v ks : Int))
def evN (v : lC → Bool) : List Formula → Nat
 | [] => 0
 | k :: ks => (if Kv v k then 1 else 0) + evN v ks
end
theorem PE (v : lC → Bool) (f : Formula) : Kv v f = if f.Op = 1 then v f.lC else if f.Op = 2 then decide (evN v f.Kids = f.Kids.length) else if f.Op = 3 then decide (0 < evN v f.Kids) else decide (f.K ≤ (evN v f.Kids : Int)) := by cases f; rw [Kv]
theorem Ge (v : lC → Bool) (f1 : lC → Option Bool) (rec : Formula → (lC → Option Bool) → Option Bool) (f : Formula) : ∀ (a : List Formula) (x : Nat), (∀ k ∈ a, rec k f1 = some (Kv v k)) → x + a.length ≤ 100000000 →
  rB rec f1 f a (x : Int) = some (if f.Op = 2 then decide (x + evN v a = f.Kids.length) else if f.Op = 3 then decide (0 < x + evN v a) else decide (f.K ≤ ((x + evN v a : Nat) : Int)))
 | [], x, _, _ => by
  rw [rB, evN, kZ]
  by_cases c2 : f.Op = 2
  ·simp only [c2, bP, aT]
   congr 1
   rw [cJ, la, cH]; omega
  ·have c : (f.Op == 2) = false := by simpa using c2
   simp only [c, aB, aN, c2]
   by_cases b : f.Op = 3
   ·simp only [b, bP, aT]
    congr 1
    rw [cJ, cH, cH]; omega
   ·have g : (f.Op == 3) = false := by simpa using b
    simp only [g, aB, aN, b]
 | k :: a, x, h, i => by
  rw [aP] at i
  rw [rB, h k (by simp), aA, evN]
  cases Kv v k
  ·simp only [aB, aN]
   rw [Ge v f1 rec f a x (fun z d => h z (by simp [d])) (by omega), gV]
  ·simp only [aT]
   have e : IntKind.i64.wrap ((x : Int) + 1) = ((x + 1 : Nat) : Int) := by rw [nf (by omega) (by omega)]; omega
   rw [e, Ge v f1 rec f a (x + 1) (fun z d => h z (by simp [d])) (by omega)]
   have c : x + 1 + evN v a = x + (1 + evN v a) := by omega
   rw [c]
theorem Pf (v : lC → Bool) (f1 : lC → Option Bool) (g : ∀ r, f1 r = some (v r)) : ∀ (n : Nat) (f : Formula), uH f ≤ n → Gd f → rW n f f1 = some (Kv v f) := by
 intro n
 induction n with
 | zero => intro f h; rw [rr] at h; omega
 | succ n ih =>
  intro f b c
  rw [rr] at b
  have d := rV f
  have i := yx f.Kids
  unfold Gd at c
  rw [rW]
  unfold xB
  rw [PE]
  by_cases c1 : f.Op = 1
  ·simp only [c1, bP, aT, g, aA]
  ·have a : (f.Op == 1) = false := by simpa using c1
   simp only [a, aB, aN, c1]
   have := Ge v f1 (rW n) f f.Kids 0 (fun k hk => ih k (by have := yv hk; omega) (by have := Aq hk; unfold Gd; omega)) (by omega)
   simpa using this
def Bv (v : lC → Bool) (f : Formula) : Bool := rq f && Kv v f
theorem JY (v : lC → Bool) (f1 : lC → Option Bool) (a : ∀ r, f1 r = some (v r)) (f : Formula) (h : Gd f) : uu f f1 = some (Bv v f) := by
 unfold uu Bv
 rw [Bs f h, aA]
 have := CC f
 cases rq f
 ·rfl
 ·unfold Gd at h
  simp only [aT, Pf v f1 a mR f (by rw [oY]; omega) h, aA, fF]
end Go.Proofs.YtklbhegeiijbjaaGreat
namespace Go.Proofs.YtklbhegeiijbjaaGreat
open Go.RowKit
structure PB (p : lF) : Prop where
 xG : p.lX.length ≤ 2000000
 AI : p.ml.length ≤ 2000000
 rel : ∀ x ∈ p.lX, mT x.lL ≤ 10000000
 LQ : ∀ a ∈ p.ml, mT a.lL ≤ 10000000
 M2 : ∀ a ∈ p.ml, a.nn.length ≤ 2000000
theorem H3 (f : mG → Option Bool) : ∀ (l : List mG) (i : Nat), pd f l i = zo f l i
 | [], i => by rw [pd]; rfl
 | x :: l, i => by
  rw [pd, zo]
  cases f x with
  | none => rfl
  | some b =>
   simp only [aA]
   rw [H3 f l (i + 1)]
theorem EX (f : ny → Option Bool) : ∀ (l : List ny) (i : Nat), pQ f l i = zo f l i
 | [], i => by rw [pQ]; rfl
 | x :: l, i => by
  rw [pQ, zo]
  cases f x with
  | none => rfl
  | some b =>
   simp only [aA]
   rw [EX f l (i + 1)]
theorem Ih {α : Type} (f : α → Option Bool) (p : α → Bool) (l : List α) (h : ∀ x ∈ l, f x = some (p x)) : ((zo f l 0).bind fun c => some (decide (c ≥ 0))) = some (l.any p) := by
 rcases CY f p l 0 h with ⟨e, h1⟩ | ⟨A, x, B, rfl, h1, a, e⟩
 ·rw [e, aA]
  have : l.any p = false := by rw [jk]; intro x b; rw [h1 x b]; simp
  rw [this]; rfl
 ·rw [e, aA]
  have : (A ++ x :: B).any p = true := by simp [a]
  rw [this]
  congr 1
theorem OC (f : mG → Option Bool) (p : mG → Bool) (l : List mG) (h : ∀ x ∈ l, f x = some (p x)) : ri l f = some (l.any p) := by
 unfold ri qS
 rw [H3]; exact Ih f p l h
theorem N9 (f : ny → Option Bool) (p : ny → Bool) (l : List ny) (h : ∀ x ∈ l, f x = some (p x)) : sX l f = some (l.any p) := by
 unfold sX qV
 rw [EX]; exact Ih f p l h
def wX (p : lF) (c : lB) : Option mG := p.lX.find? fun x => mC x.Signed.lB c
theorem SV (p : lF) (c : lB) : ∃ z, AH p c = some (match wX p c with | some x => (x, true) | none => (z, false)) := by
 unfold AH qS wX
 rw [H3]
 rcases CY (fun x => yp x c) (fun x => mC x.Signed.lB c) p.lX 0 (fun x _ => rfl) with ⟨e, h1⟩ | ⟨A, x, B, hp, h1, b, e⟩
 ·rw [e, aA, fW.2 (fun x a => by rw [h1 x a]; simp)]
  exact ⟨_, rfl⟩
 ·rw [e, aA, hp, kL, fW.2 (fun x a => by rw [h1 x a]; simp), gZ, b]
  have : ¬ (((0 + A.length : Nat) : Int) < 0) := by omega
  simp only [this, cL, aB, aN]
  rw [oS A x B _ (by omega)]
  exact ⟨x, rfl⟩
def PY : ny := ⟨⟨zS, zS⟩, ⟨0, 0, ⟨zS, zS⟩, []⟩, []⟩
theorem HR (f : ny → Option Bool) : ∀ (n : Nat) (l : List ny) (i j : Int), pH f n l i j = Da f PY n l i j
 | 0, _, _, _ => rfl
 | n + 1, l, i, j => by
  rw [pH, Da]
  simp only [HR f n]
  rfl
def Gp (p : lF) (c : lB) : List ny := p.ml.filter fun a => ov mC a.nn c
theorem QX (p : lF) (hp : PB p) (c : lB) : zT p c = some (Gp p c) := by
 have := hp.AI
 unfold zT qu Gp
 rw [om (by simp; omega) (by simp; omega)]
 simp only [aA, bN, pk]
 have : oP p.ml (fun x => ux x c) = D0 (fun x => ux x c) PY p.ml := by
  unfold oP D0 qV
  simp only [EX, HR]
 rw [this, xC _ (fun a => !ov mC a.nn c) PY _ (by omega) (fun a _ => by unfold ux rL; rw [pk, Fi]; rfl)]
 simp only [fO]
noncomputable def xK : Formula × Int → List Formula → Formula × Int
 | t, [] => t
 | t, g :: l => if t.2 = 0 then xK (Eb ⟨2, 0, zk, [t.1, g]⟩) l else t
theorem MY : ∀ (l : List Formula) (e o k : Int) (r : lC) (a : List Formula), (∀ g ∈ l, mT g ≤ 10000000) → mT ⟨o, k, r, a⟩ ≤ 64 →
  vG l e o k r a = some ((xK (⟨o, k, r, a⟩, e) l).2, (xK (⟨o, k, r, a⟩, e) l).1.Op, (xK (⟨o, k, r, a⟩, e) l).1.K, (xK (⟨o, k, r, a⟩, e) l).1.lC, (xK (⟨o, k, r, a⟩, e) l).1.Kids)
 | [], e, o, k, r, a, _, _ => by rw [vG, xK]
 | g :: l, e, o, k, r, a, h, s => by
  rw [vG, xK]
  by_cases c : e = 0
  ·have b : (e != 0) = false := by simp [c]
   simp only [b, aB, aN, c, aT]
   rw [SC _ g (by omega) (h g (by simp)), aA]
   have i := DD (f := ⟨2, 0, zk, [⟨o, k, r, a⟩, g]⟩)
   generalize Eb ⟨2, 0, zk, [⟨o, k, r, a⟩, g]⟩ = q at *
   obtain ⟨⟨m, k', n, d⟩, e'⟩ := q
   exact MY l e' m k' n d (fun z j => h z (by simp [j])) i
  ·have b : (e != 0) = true := by simp [c]
   simp only [b, aT, c, aN]
noncomputable def Ie (g : Formula) (l : List Formula) : Formula × Int := if (xK (Eb g) l).2 = 0 then xK (Eb g) l else (Jb, (xK (Eb g) l).2)
theorem Su (g : Formula) (l : List Formula) (n : mT g ≤ 10000000) (i : ∀ x ∈ l, mT x ≤ 10000000) : ya (g :: l) = some (Ie g l) := by
 unfold ya Ie
 have d : nD (g :: l) 0 = some g := oS [] g l 0 rfl
 have a : rG (decide (0 ≤ 1) && decide ((1 : Int) ≤ ((g :: l).length : Int))) = some () := by
  rw [aP]
  have : (1 : Int) ≤ ((l.length + 1 : Nat) : Int) := by omega
  simp [rG]; omega
 have j := DD (f := g)
 rw [d, aA, M3 g (by unfold Gd; omega), aA, a, aA]
 generalize Eb g = q at *
 obtain ⟨⟨o, k, r, b⟩, e⟩ := q
 have h : (g :: l).drop (Int.toNat 1) = l := rfl
 rw [h, MY l e o k r b i j, aA]
 generalize xK (⟨o, k, r, b⟩, e) l = t
 obtain ⟨⟨s, k', u, m⟩, e'⟩ := t
 by_cases c : e' = 0
 ·subst c; rfl
 ·have a : (e' != 0) = true := by simp [c]
  simp only [a, aT, c, aN]; rfl
noncomputable def rc (p : lF) (c : lB) : Formula × Int := match wX p c with | none => (Jb, 42) | some x => Ie x.lL ((Gp p c).map (·.lL))
theorem PR : ∀ (l : List ny) (acc : List Formula), acc.length + l.length ≤ 3000000 → wv l acc = ya (acc ++ l.map (·.lL))
 | [], acc, _ => by
  rw [wv, gW, bO]
  cases ya acc <;> rfl
 | a :: l, acc, h => by
  rw [aP] at h
  rw [wv, om (by simp; omega) (by simp; omega), aA, PR l _ (by simp; omega)]
  simp
theorem QW {p : lF} {c : lB} {x : mG} (h : wX p c = some x) : x ∈ p.lX ∧ x.Signed.lB = c := by
 unfold wX at h
 have h1 := fY h
 have a := jG h
 exact ⟨h1, nF.1 a⟩
theorem GO (p : lF) (hp : PB p) (c : lB) : xL p c = some (rc p c) := by
 unfold xL rc
 obtain ⟨z, e⟩ := SV p c
 rw [e, aA]
 cases h : wX p c with
 | none => rfl
 | some x =>
  simp only [bX, aB, aN]
  have d := QW h
  have i : (Gp p c).length ≤ p.ml.length := cQ _ _
  have := hp.AI
  rw [QX p hp c, aA, PR _ _ (by simp; omega)]
  exact Su x.lL _ (hp.rel x d.1) (fun g b => by
   obtain ⟨a, ha, rfl⟩ := bG.1 b
   exact hp.LQ a (bT.1 ha).1)
theorem F3 (p : lF) (c : lB) : mT (rc p c).1 ≤ 64 := by
 have a : mT Jb ≤ 64 := by rw [Jb, mT, nodesL]; omega
 have b : ∀ (l : List Formula) (t : Formula × Int), mT t.1 ≤ 64 → mT (xK t l).1 ≤ 64 := by
  intro l
  induction l with
  | nil => intro t h; exact h
  | cons g l ih =>
   intro t h
   rw [xK]
   split
   ·exact ih _ DD
   ·exact h
 unfold rc
 split
 ·exact a
 ·unfold Ie
  split
  ·exact b _ _ DD
  ·exact a
def vF (F : List lY) (peer : ByteArray) (r : lC) : Bool := ov Cy F ⟨r, peer⟩
noncomputable def KX (p : lF) (v : lC → Bool) (x : mG) : Bool := decide ((rc p x.Signed.lB).2 = 0) && Bv v (rc p x.Signed.lB).1
theorem G4 (p : lF) (hp : PB p) (v : lC → Bool) (m) (a : ∀ r, uZ r m.1 m.2.1 m.2.2.1 m.2.2.2.1 m.2.2.2.2.1 m.2.2.2.2.2.1 m.2.2.2.2.2.2 = some (v r)) : ∀ (l : List mG) (acc : List lB), acc.length + l.length ≤ 1000000000 →
  tH p m l acc = oW (acc ++ (l.filter (KX p v)).map (·.Signed.lB))
 | [], acc, _ => by
  rw [tH, List.filter_nil, gW, bO, pk]
 | x :: l, acc, h => by
  rw [aP] at h
  have b := F3 p x.Signed.lB
  rw [tH, GO p hp, aA, JY v _ a _ (by unfold Gd; omega), iI]
  unfold KX
  by_cases c : (rc p x.Signed.lB).2 = 0
  ·simp only [c, bP, aT, cA, fF, aA]
   cases d : Bv v (rc p x.Signed.lB).1
   ·simp only [aB, aN]
    exact G4 p hp v m a l acc (by omega)
   ·simp only [aT]
    rw [om (by simp; omega) (by simp; omega), aA, G4 p hp v m a l _ (by simp; omega)]
    simp only [bM, aR, cC, bN]
    rfl
  ·have e : ((rc p x.Signed.lB).2 == 0) = false := by simpa using c
   simp only [e, aB, aN, c, cL, kj, aA]
   exact G4 p hp v m a l acc (by omega)
end Go.Proofs.YtklbhegeiijbjaaGreat
