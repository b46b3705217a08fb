/- a part of a proof of GateSafe -/
import Derived.Test.YtklbhegeiijbjaaGreatRtVg
import Derived.Test.YtklbhegeiijbjaaGreatGSMg
set_option linter.all false
namespace Go.Proofs.YtklbhegeiijbjaaGreat
open Go.IntKind renaming wrap → wi0
open Go.RowKit
theorem D0 {c x : Bool} : (if c = true then some x else some false : Option Bool) = some (c && x) := by cases c <;> rfl
theorem RQ {c x : Bool} : (if c = true then some true else some x : Option Bool) = some (c || x) := by cases c <;> rfl
theorem pE {α : Type} (x : Option α) : (x.bind fun y => some y) = x := by cases x <;> rfl
theorem mr {x : Int} (a : -9223372036854775808 ≤ x) (h1 : x ≤ 9223372036854775807) : wi0 .i64 x = x := IntWalk.i64_in _ (by omega)
theorem oy {α : Type} (A : List α) (x : α) (B : List α) (i : Int) (h : i = (A.length : Int)) : mZ (A ++ x :: B) i = some x := by
 subst h; rw [Fg]; simp
theorem oN : mq = 18446744073709551615 + 1 := by rw [wh]
def BV {α : Type} (f1 : α → Option Bool) (z : α) : Nat → List α → Int → Int → Option (List α)
 | 0, _, _, _ => none
 | n + 1, l, i, j => if decide (j < (l.length : Int)) then
   ((mZ l j).bind fun x => (f1 x).bind fun r => if (!r) then (mZ l i).bind fun _ => some (l.set (Int.toNat i) x, wi0 .i64 (i + 1)) else some (l, i) : Option (List α × Int)).bind fun (b, a) => BV f1 z n b a (wi0 .i64 (j + 1))
  else (rO (decide (0 ≤ i) && decide (i ≤ (l.length : Int)))).bind fun _ => (rO (decide (0 ≤ i) && decide (i ≤ ((oZ l (Int.toNat i) z).length : Int)))).bind fun _ => some ((oZ l (Int.toNat i) z).take (Int.toNat i))
theorem Ek {a b : Int} (c : 0 ≤ a) (h1 : a ≤ b) : rO (decide (0 ≤ a) && decide (a ≤ b)) = some () := by simp [rO, c, h1]
theorem JU {α : Type} (f1 : α → Option Bool) (p : α → Bool) (z : α) : ∀ (rest out mid : List α) (n : Nat), rest.length < n → (out ++ mid ++ rest).length < 4611686018427387904 → mid ≠ [] → (∀ x ∈ rest, f1 x = some (p x)) →
  BV f1 z n (out ++ mid ++ rest) (out.length : Int) ((out.length + mid.length : Nat) : Int) = some (out ++ rest.filter fun x => !p x)
 | [], out, mid, 0, h, _, _, _ => by simp at h
 | [], out, mid, n + 1, _, b, hm, _ => by
  rw [BV, aX (by simp)]
  have h1 : out.length ≤ (out ++ mid ++ []).length := by simp
  rw [Ek (by omega) (by omega)]
  simp only [aA]
  rw [Ek (by omega) (by rw [wX _ _ _ (by simpa using h1)]; omega)]
  simp only [aA, dX]
  rw [F4 _ _ _ h1]
  simp
 | x :: rest, out, mid, 0, h, _, _, _ => by simp at h
 | x :: rest, out, mid, n + 1, h, b, hm, c => by
  have hlen : (out ++ mid ++ x :: rest).length = out.length + mid.length + rest.length + 1 := by simp; omega
  rw [hlen] at b
  rw [BV, aZ (by rw [hlen]; simp; omega)]
  rw [oy (out ++ mid) x rest _ (by simp)]
  simp only [aA, c x (by simp)]
  rw [mr (x := ((out.length + mid.length : Nat) : Int) + 1) (by omega) (by omega)]
  have ih := JU f1 p z rest
  cases hp : p x with
  | true =>
   simp only [bU, aB, aK, aA]
   have := ih out (mid ++ [x]) n (by simp at h; omega) (by simp; omega) (by simp) (fun y d => c y (by simp [d]))
   simp only [aQ, cE, bN, aD, aI, bQ] at this ⊢
   rw [show ((out.length + mid.length : Nat) : Int) + 1 = ((out.length + (mid.length + (0 + 1)) : Nat) : Int) by omega, this]
   simp [hp]
  | false =>
   obtain ⟨m, a, rfl⟩ : ∃ m a, mid = m :: a := by cases mid with
    | nil => exact absurd rfl hm
    | cons m a => exact ⟨m, a, rfl⟩
   simp only [fE, aS]
   rw [aQ out (m :: a) (x :: rest), cE]
   rw [oy out m (a ++ x :: rest) _ rfl]
   simp only [aA]
   rw [mr (x := (out.length : Int) + 1) (by omega) (by simp at b; omega)]
   have := ih (out ++ [x]) (a ++ [x]) n (by simp at h; omega) (by simp at b ⊢; omega) (by simp) (fun y d => c y (by simp [d]))
   simp only [aQ, cE, bN, aD, aI, bQ] at this
   have g : (out ++ m :: (a ++ x :: rest)).set (Int.toNat (out.length : Int)) x = out ++ x :: (a ++ x :: rest) := by
    rw [dX, List.set_append_right _ _ (aT _)]; simp
   rw [g]
   simp only [aI] at b ⊢
   rw [show (out.length : Int) + 1 = ((out.length + (0 + 1) : Nat) : Int) by omega, show ((out.length + (a.length + 1) : Nat) : Int) + 1 = ((out.length + (0 + 1) + (a.length + (0 + 1)) : Nat) : Int) by omega, this]
   simp [hp]
def yo {α : Type} (f1 : α → Option Bool) : List α → Nat → Option Int
 | [], _ => some (-1)
 | x :: xs, i => (f1 x).bind fun r => if r then some (i : Int) else yo f1 xs (i + 1)
theorem BT {α : Type} (f1 : α → Option Bool) (p : α → Bool) : ∀ (l : List α) (i : Nat), (∀ x ∈ l, f1 x = some (p x)) →
  (yo f1 l i = some (-1) ∧ ∀ x ∈ l, p x = false) ∨ ∃ A x B, l = A ++ x :: B ∧ (∀ y ∈ A, p y = false) ∧ p x = true ∧ yo f1 l i = some ((i + A.length : Nat) : Int)
 | [], i, _ => .inl ⟨rfl, by simp⟩
 | x :: l, i, h => by
  rw [yo, h x (by simp)]
  simp only [aA]
  cases hp : p x with
  | true => exact .inr ⟨[], x, l, rfl, by simp, hp, by simp⟩
  | false =>
   simp only [aB, aK]
   rcases BT f1 p l (i + 1) (fun y a => h y (by simp [a])) with ⟨h1, b⟩ | ⟨A, y, B, rfl, h1, b, d⟩
   ·exact .inl ⟨h1, by intro y a; rcases aM.1 a with rfl | a; exact hp; exact b y a⟩
   ·refine .inr ⟨x :: A, y, B, rfl, ?_, b, ?_⟩
    ·intro z c; rcases aM.1 c with rfl | c
     ·exact hp
     ·exact h1 z c
    ·rw [d]; simp; omega
def EM {α : Type} (f1 : α → Option Bool) (z : α) (l : List α) : Option (List α) :=
 (yo f1 l 0).bind fun a => if (a == (-1)) then some l else BV f1 z mq l a (wi0 .i64 (a + 1))
theorem DN {α : Type} (f1 : α → Option Bool) (p : α → Bool) (z : α) (l : List α) (c : l.length < 4611686018427387904) (h : ∀ x ∈ l, f1 x = some (p x)) : EM f1 z l = some (l.filter fun x => !p x) := by
 unfold EM
 rcases BT f1 p l 0 h with ⟨h1, b⟩ | ⟨A, x, B, rfl, h1, b, d⟩
 ·rw [h1]
  simp only [aA, bT, aS]
  rw [List.filter_eq_self.2 (fun y a => by simp [b y a])]
 ·rw [d]
  simp only [aA, gp]
  rw [aX (by simp), mr (by omega) (by simp at c; omega)]
  have := JU f1 p z B A [x] mq (by rw [wh]; simp at c; omega) (by simpa using c) (by simp) (fun y a => h y (by simp [a]))
  simp only [aQ, cE, bN, aI, bQ] at this
  rw [show (A.length : Int) + 1 = ((A.length + (0 + 1) : Nat) : Int) by omega, this]
  have g : A.filter (fun x => !p x) = A := List.filter_eq_self.2 (fun y a => by simp [h1 y a])
  rw [List.filter_append, g]
  simp [b]
def qz {α : Type} (eq : α → α → Bool) : α → List α → List α
 | _, [] => []
 | p, y :: ys => if eq y p then qz eq y ys else y :: qz eq y ys
def dd {α : Type} (eq : α → α → Bool) : List α → List α
 | [] => []
 | x :: xs => x :: qz eq x xs
def Ay {α : Type} (eq : α → α → Bool) (i : Int) : Nat → List α → Int → Int → Option (List α × Int)
 | 0, _, _, _ => none
 | n + 1, l, k, j => if decide (j < ((l.length - Int.toNat i : Nat) : Int)) then
   ((mZ (l.drop (Int.toNat i)) j).bind fun x => (mZ (l.drop (Int.toNat i)) (wi0 .i64 (j - 1))).bind fun y => if !(eq x y) then (mZ (l.drop (Int.toNat i)) j).bind fun z => (mZ l k).bind fun _ => some (l.set (Int.toNat k) z, wi0 .i64 (k + 1)) else some (l, k) : Option (List α × Int)).bind fun (a, k') => Ay eq i n a k' (wi0 .i64 (j + 1))
  else some (l, k)
def AZ {α : Type} (eq : α → α → Bool) (z : α) (l : List α) : Nat → Int → Option (List α)
 | 0, _ => none
 | n + 1, i => if decide (i < (l.length : Int)) then (mZ l i).bind fun x => (mZ l (wi0 .i64 (i - 1))).bind fun y => if eq x y then
    (rO (decide (0 ≤ i) && decide (i ≤ (l.length : Int)))).bind fun _ => (Ay eq i mq l i 1).bind fun (a, k) => (rO (decide (0 ≤ k) && decide (k ≤ (a.length : Int)))).bind fun _ => (rO (decide (0 ≤ k) && decide (k ≤ ((oZ a (Int.toNat k) z).length : Int)))).bind fun _ => some ((oZ a (Int.toNat k) z).take (Int.toNat k))
   else AZ eq z l n (wi0 .i64 (i + 1))
  else some l
def Gj {α : Type} (eq : α → α → Bool) (z : α) (l : List α) : Option (List α) := if decide ((l.length : Int) < 2) then some l else AZ eq z l mq 1
theorem Jg {α : Type} (l : List α) (i : Nat) (j : Int) (a : 0 ≤ j) : mZ (l.drop i) j = mZ l ((i : Int) + j) := by
 obtain ⟨m, rfl⟩ : ∃ m : Nat, j = m := ⟨j.toNat, by omega⟩
 rw [show (i : Int) + (m : Int) = ((i + m : Nat) : Int) by omega, Fg, Fg, dY]
theorem GL {α : Type} (eq : α → α → Bool) (i : Nat) : ∀ (rest out mid : List α) (p : α) (n : Nat), rest.length < n → (out ++ (mid ++ [p]) ++ rest).length < 4611686018427387904 → 1 ≤ i → i ≤ out.length →
  ∃ b, Ay eq (i : Int) n (out ++ (mid ++ [p]) ++ rest) (out.length : Int) ((out.length + mid.length + 1 - i : Nat) : Int) = some (b, ((out ++ qz eq p rest).length : Int)) ∧ b.take (out ++ qz eq p rest).length = out ++ qz eq p rest ∧ (out ++ qz eq p rest).length ≤ b.length
 | [], out, mid, p, 0, h, _, _, _ => by simp at h
 | [], out, mid, p, n + 1, h, k, h1, j => by
  rw [Ay, aX (by simp; omega)]
  exact ⟨out ++ (mid ++ [p]) ++ [], by simp [qz], by simp [qz], by simp [qz]⟩
 | x :: rest, out, mid, p, 0, h, _, _, _ => by simp at h
 | x :: rest, out, mid, p, n + 1, h, k, h1, j => by
  have hlen : (out ++ (mid ++ [p]) ++ x :: rest).length = out.length + mid.length + rest.length + 2 := by simp; omega
  rw [hlen] at k
  rw [Ay, aZ (by rw [hlen]; simp; omega)]
  rw [dX, Jg _ _ _ (by omega), oy (out ++ (mid ++ [p])) x rest _ (by simp; omega)]
  simp only [aA]
  rw [mr (x := ((out.length + mid.length + 1 - i : Nat) : Int) - 1) (by omega) (by omega), Jg _ _ _ (by omega)]
  rw [show out ++ (mid ++ [p]) ++ x :: rest = (out ++ mid) ++ p :: (x :: rest) by simp]
  rw [oy (out ++ mid) p (x :: rest) _ (by simp; omega)]
  simp only [aA]
  rw [mr (x := ((out.length + mid.length + 1 - i : Nat) : Int) + 1) (by omega) (by omega)]
  cases hp : eq x p with
  | true =>
   simp only [bU, aB, aK, aA]
   obtain ⟨b, c, d, g⟩ := GL eq i rest out (mid ++ [p]) x n (by simp at h; omega) (by simp; omega) h1 j
   refine ⟨b, ?_, by rw [qz, hp]; exact d, by rw [qz, hp]; exact g⟩
   rw [qz, hp, aZ rfl, ← c]
   congr 1
   ·simp
   ·simp; omega
  | false =>
   simp only [fE, aS]
   obtain ⟨m, a, hm⟩ : ∃ m a, mid ++ [p] = m :: a := by cases mid with
    | nil => exact ⟨p, [], rfl⟩
    | cons m a => exact ⟨m, a ++ [p], rfl⟩
   have o : a.length = mid.length := by have := aY List.length hm; simp at this; omega
   rw [show (out ++ mid) ++ p :: (x :: rest) = out ++ m :: (a ++ x :: rest) by rw [← cE, ← hm]; simp]
   rw [oy out m (a ++ x :: rest) _ rfl]
   simp only [aA]
   rw [mr (x := (out.length : Int) + 1) (by omega) (by omega)]
   have q : (out ++ m :: (a ++ x :: rest)).set (Int.toNat (out.length : Int)) x = (out ++ [x]) ++ (a ++ [x]) ++ rest := by
    rw [dX, List.set_append_right _ _ (aT _)]; simp
   rw [q]
   obtain ⟨b, c, d, g⟩ := GL eq i rest (out ++ [x]) a x n (by simp at h; omega) (by simp; omega) h1 (by simp; omega)
   refine ⟨b, ?_, ?_, ?_⟩
   ·rw [qz, hp, aX (by decide)]
    have l : ((out ++ x :: qz eq x rest).length : Int) = ((out ++ [x] ++ qz eq x rest).length : Int) := by simp
    rw [l, ← c]
    congr 1
    ·simp
    ·simp; omega
   ·rw [qz, hp, aX (by decide)]; simpa using d
   ·rw [qz, hp, aX (by decide)]; simpa using g
theorem Kg {α : Type} (eq : α → α → Bool) (z : α) : ∀ (rest pre : List α) (p : α) (n : Nat), rest.length < n → (pre ++ p :: rest).length < 4611686018427387904 →
  AZ eq z (pre ++ p :: rest) n ((pre.length + 1 : Nat) : Int) = some (pre ++ p :: qz eq p rest)
 | [], pre, p, 0, h, _ => by simp at h
 | [], pre, p, n + 1, h, g => by rw [AZ, aX (by simp)]; simp [qz]
 | x :: rest, pre, p, 0, h, _ => by simp at h
 | x :: rest, pre, p, n + 1, h, g => by
  have hlen : (pre ++ p :: x :: rest).length = pre.length + rest.length + 2 := by simp; omega
  rw [hlen] at g
  rw [AZ, aZ (by rw [hlen]; simp; omega)]
  rw [show pre ++ p :: x :: rest = (pre ++ [p]) ++ x :: rest by simp, oy (pre ++ [p]) x rest _ (by simp)]
  simp only [aA]
  rw [mr (x := ((pre.length + 1 : Nat) : Int) - 1) (by omega) (by omega)]
  rw [show (pre ++ [p]) ++ x :: rest = pre ++ p :: (x :: rest) by simp, oy pre p (x :: rest) _ (by omega)]
  simp only [aA]
  cases hp : eq x p with
  | true =>
   simp only [aS]
   rw [Ek (by omega) (by rw [hlen]; omega)]
   simp only [aA]
   obtain ⟨i, a, d, c⟩ := GL eq (pre.length + 1) rest (pre ++ [p]) [] x mq (by rw [wh]; omega) (by simp; omega) (by omega) (by simp)
   simp only [aQ, cE, bN, aD, aI, bQ] at a d c
   rw [show (pre.length + (0 + 1) + 0 + 1 - (pre.length + 1) : Nat) = 1 by omega] at a
   rw [show ((pre.length + 1 : Nat) : Int) = ((pre.length + (0 + 1) : Nat) : Int) by omega] at *
   have b : Ay eq ((pre.length + (0 + 1) : Nat) : Int) mq (pre ++ p :: x :: rest) ((pre.length + (0 + 1) : Nat) : Int) 1 = _ := a
   rw [b]
   simp only [aA]
   rw [Ek (by omega) (by omega)]
   simp only [aA, dX]
   rw [Ek (by omega) (by rw [wX _ _ _ c]; omega)]
   simp only [aA]
   rw [F4 _ _ _ c, d, qz, hp]
   simp
  | false =>
   simp only [aB, aK]
   rw [mr (x := ((pre.length + 1 : Nat) : Int) + 1) (by omega) (by omega)]
   have := Kg eq z rest (pre ++ [p]) x n (by simp at h; omega) (by simp; omega)
   simp only [aQ, cE, bN, aD, aI, bQ] at this
   rw [show ((pre.length + 1 : Nat) : Int) + 1 = ((pre.length + (0 + 1) + 1 : Nat) : Int) by omega, this, qz, hp]
   simp
theorem GJ {α : Type} (eq : α → α → Bool) (z : α) (l : List α) (a : l.length < 4611686018427387904) : Gj eq z l = some (dd eq l) := by
 unfold Gj
 cases l with
 | nil => rfl
 | cons x xs =>
  cases xs with
  | nil => simp [dd, qz]
  | cons y ys =>
   rw [aX (by simp; omega)]
   have := Kg eq z (y :: ys) [] x mq (by rw [wh]; simp at a ⊢; omega) (by simpa using a)
   simpa [dd] using this
structure Bb {α : Type} (lt : α → α → Prop) (P : α → Prop) : Prop where
 irrefl : ∀ x, P x → ¬ lt x x
 trans : ∀ x y z, P x → P y → P z → lt x y → lt y z → lt x z
 total : ∀ x y, P x → P y → lt x y ∨ x = y ∨ lt y x
def vK {α : Type} (lt : α → α → Prop) (P : α → Prop) (l out : List α) : Prop := out.Pairwise lt ∧ ∀ x, x ∈ out ↔ x ∈ l ∧ P x
theorem vK.unique {α : Type} {lt : α → α → Prop} {P : α → Prop} (H : Bb lt P) : ∀ {l a b : List α}, vK lt P l a → vK lt P l b → a = b := by
 have key : ∀ a b : List α, (∀ x ∈ a, P x) → a.Pairwise lt → b.Pairwise lt → (∀ x, x ∈ a ↔ x ∈ b) → a = b := by
  intro a
  induction a with
  | nil => intro b _ _ _ hm; cases b with
   | nil => rfl
   | cons y ys => exact absurd ((hm y).2 (by simp)) (by simp)
  | cons x xs ih =>
   intro b n ha j hm
   cases b with
   | nil => exact absurd ((hm x).1 (by simp)) (by simp)
   | cons y ys =>
    have o : P y := n y ((hm y).2 (by simp))
    have c : P x := n x (by simp)
    have d := cN.1 ha
    have g := cN.1 j
    have q : x = y := by
     rcases aM.1 ((hm x).1 (by simp)) with h | h
     ·exact h
     ·rcases aM.1 ((hm y).2 (by simp)) with k | k
      ·exact k.symm
      ·exact absurd (H.trans x y x c o c (d.1 y k) (g.1 x h)) (H.irrefl x c)
    subst q
    congr 1
    refine ih ys (fun z i => n z (by simp [i])) d.2 g.2 (fun z => ?_)
    constructor
    ·intro i
     rcases aM.1 ((hm z).1 (by simp [i])) with h | h
     ·subst h; exact absurd (d.1 z i) (H.irrefl z c)
     ·exact h
    ·intro i
     rcases aM.1 ((hm z).2 (by simp [i])) with h | h
     ·subst h; exact absurd (g.1 z i) (H.irrefl z c)
     ·exact h
 intro l a b ha j
 exact key a b (fun x r => ((ha.2 x).1 r).2) ha.1 j.1 (fun x => (ha.2 x).trans (j.2 x).symm)
theorem DO {α : Type} {eq : α → α → Bool} (he : ∀ x y, eq x y = true ↔ x = y) : ∀ (l : List α) (p x : α), x ∈ p :: qz eq p l ↔ x ∈ p :: l
 | [], p, x => by simp [qz]
 | y :: l, p, x => by
  rw [qz]
  split
  ·rename_i h
   have := (he y p).1 h
   subst this
   rw [DO he l y x]; simp
  ·have := DO he l y x
   simp only [aM] at this ⊢
   rw [this]
theorem Rz {α : Type} {eq : α → α → Bool} (he : ∀ x y, eq x y = true ↔ x = y) (l : List α) (x : α) : x ∈ dd eq l ↔ x ∈ l := by
 cases l with
 | nil => simp [dd]
 | cons y l => exact DO he l y x
theorem CA {α : Type} {eq : α → α → Bool} {lt : α → α → Prop} {P : α → Prop} (he : ∀ x y, eq x y = true ↔ x = y) (H : Bb lt P) : ∀ (l : List α) (p : α), (∀ x ∈ p :: l, P x) → (p :: l).Pairwise (fun a b => ¬ lt b a) → (p :: qz eq p l).Pairwise lt
 | [], p, _, _ => by simp [qz]
 | y :: l, p, c, o => by
  have h1 := cN.1 o
  rw [qz]
  split
  ·rename_i h
   have := (he y p).1 h
   subst this
   exact CA he H l y (fun x i => c x (gm _ i)) h1.2
  ·rename_i h
   have ih := CA he H l y (fun x i => c x (gm _ i)) h1.2
   refine cN.2 ⟨fun z n => ?_, ih⟩
   have g : lt p y := by
    rcases H.total p y (c p (by simp)) (c y (by simp)) with d | d | d
    ·exact d
    ·exact absurd ((he y p).2 d.symm) h
    ·exact absurd d (h1.1 y (by simp))
   rcases aM.1 n with rfl | j
   ·exact g
   ·have k : z ∈ y :: l := (DO he l y z).1 n
    exact H.trans p y z (c p (by simp)) (c y (by simp)) (c z (gm _ k)) g ((cN.1 ih).1 z j)
theorem Na {α : Type} {eq : α → α → Bool} {lt : α → α → Prop} {P : α → Prop} (he : ∀ x y, eq x y = true ↔ x = y) (H : Bb lt P) (l : List α) (c : ∀ x ∈ l, P x) (d : l.Pairwise (fun a b => ¬ lt b a)) : (dd eq l).Pairwise lt := by
 cases l with
 | nil => simp [dd]
 | cons y l => exact CA he H l y c d
theorem IL {α : Type} {le : α → α → Bool} {P : α → Prop} (i : ∀ a b c, P a → P b → P c → le a b = true → le b c = true → le a c = true) (h : ∀ a b, P a → P b → (le a b || le b a) = true) (l : List α) (d : ∀ x ∈ l, P x) :
  (l.mergeSort le).Pairwise (fun a b => le a b = true) := by
 have e : l = (l.attachWith P d).map Subtype.val := by simp
 have hm : ((l.attachWith P d).mergeSort fun a b => le a.1 b.1).map Subtype.val = l.mergeSort le := by
  conv => rhs; rw [e]
  exact jE (fun a _ b _ => rfl)
 rw [← hm, gX]
 exact iM (le := fun (a b : {x // P x}) => le a.1 b.1) (fun a b c h1 g => i a.1 b.1 c.1 a.2 b.2 c.2 h1 g) (fun a b => h a.1 b.1 a.2 b.2) _
theorem CO {α : Type} {eq : α → α → Bool} {lt : α → α → Prop} {P : α → Prop} {cf : α × α → Option Int} {l : List α} (he : ∀ x y, eq x y = true ↔ x = y) (H : Bb lt P) (g : ∀ x ∈ l, P x) (D : l.length < 4611686018427387904) (A : ∀ x y, P x → P y → ∃ c, cf (x, y) = some c ∧ (c < 0 ↔ lt x y)) : ∃ s, yL cf l = some s ∧ s.length = l.length ∧ vK lt P l (dd eq s) := by
 have j : ∀ x y, P x → P y → (vg cf x y = true ↔ lt x y) := fun x y i o => by
  obtain ⟨c, h1, n⟩ := A x y i o
  unfold vg
  rw [h1]
  simpa using n
 have d : ∀ x y, P x → P y → (vg cf x y = false ↔ ¬ lt x y) := fun x y i o => by
  rw [← j x y i o]; simp
 have ok : EK cf l := by
  refine ⟨fun x i y o => ?_, fun x i => ?_, fun x i y o z v h1 n => ?_, fun x i y o h1 n => ?_, D⟩
  ·obtain ⟨c, h1, _⟩ := A x y (g x i) (g y o); exact ⟨c, h1⟩
  ·exact (d x x (g x i) (g x i)).2 (H.irrefl x (g x i))
  ·rw [j _ _ (g x i) (g y o)] at h1
   rw [j _ _ (g y o) (g z v)] at n
   rw [j _ _ (g x i) (g z v)]
   exact H.trans x y z (g x i) (g y o) (g z v) h1 n
  ·rw [d _ _ (g x i) (g y o)] at h1
   rw [d _ _ (g y o) (g x i)] at n
   rcases H.total x y (g x i) (g y o) with h | h | h
   ·exact absurd h h1
   ·exact h
   ·exact absurd h n
 refine ⟨_, Pc ok, by simp [uF], ?_, ?_⟩
 ·have k : ∀ x, x ∈ uF cf l ↔ x ∈ l := fun x => by simp [uF]
  refine Na he H _ (fun x i => g x ((k x).1 i)) ?_
  have := IL (le := fun x y => !vg cf y x) (P := P) (fun a b c ha q r h1 n => ?_) (fun a b ha q => ?_) l g
  ·refine (this.imp_of_mem ?_ : _)
   intro a b ha q h
   have t : a ∈ l := (k a).1 ha
   have u : b ∈ l := (k b).1 q
   simp at h
   exact (d b a (g b u) (g a t)).1 h
  ·simp at h1 n ⊢
   rw [d _ _ q ha] at h1
   rw [d _ _ r q] at n
   rw [d _ _ r ha]
   intro w
   rcases H.total a b ha q with h | h | h
   ·exact n (H.trans c a b r ha q w h)
   ·subst h; exact n w
   ·exact h1 h
  ·simp only [gO, gB]
   rw [d _ _ q ha, d _ _ ha q]
   by_cases h : lt b a
   ·right; intro n; exact H.irrefl a ha (H.trans a b a ha q ha n h)
   ·exact .inl h
 ·intro x
  rw [Rz he]
  constructor
  ·intro i
   have : x ∈ l := by simpa [uF] using i
   exact ⟨this, g x this⟩
  ·intro i; simpa [uF] using i.1
theorem Ct : ∀ a : List UInt8, Op.bytesLess a a = false
 | [] => rfl
 | x :: a => by simp [Op.bytesLess, Ct a]
theorem Kd (x y : UInt8) : x < y ∨ x = y ∨ y < x := by
 rcases Nat.lt_trichotomy x.toNat y.toNat with h | h | h
 ·exact .inl h
 ·exact .inr (.inl (UInt8.toNat_inj.1 h))
 ·exact .inr (.inr h)
theorem BJ : ∀ a b c : List UInt8, Op.bytesLess a b = true → Op.bytesLess b c = true → Op.bytesLess a c = true
 | [], [], c, h1, _ => by simp [Op.bytesLess] at h1
 | _ :: _, [], c, h1, _ => by simp [Op.bytesLess] at h1
 | a, _ :: _, [], _, d => by simp [Op.bytesLess] at d
 | [], b :: bs, c :: cs, _, _ => rfl
 | a :: ax, b :: bs, c :: cs, h1, d => by
  simp only [Op.bytesLess, gO, bX, bA, kM] at h1 d ⊢
  rcases h1 with h1 | ⟨rfl, h1⟩
  ·rcases d with d | ⟨rfl, d⟩
   ·exact .inl (UInt8.lt_trans h1 d)
   ·exact .inl h1
  ·rcases d with d | ⟨rfl, d⟩
   ·exact .inl d
   ·exact .inr ⟨rfl, BJ ax bs cs h1 d⟩
theorem DK : ∀ a b : List UInt8, Op.bytesLess a b = true ∨ a = b ∨ Op.bytesLess b a = true
 | [], [] => .inr (.inl rfl)
 | [], _ :: _ => .inl rfl
 | _ :: _, [] => .inr (.inr rfl)
 | a :: ax, b :: bs => by
  simp only [Op.bytesLess, gO, bX, bA, kM, aW]
  rcases Kd a b with h | h | h
  ·exact .inl (.inl h)
  ·subst h
   rcases DK ax bs with h | h | h
   ·exact .inl (.inr ⟨rfl, h⟩)
   ·exact .inr (.inl ⟨rfl, h⟩)
   ·exact .inr (.inr (.inr ⟨rfl, h⟩))
  ·exact .inr (.inr (.inl h))
theorem Dj : ∀ a b : List UInt8, (Lib.compareBytes a b < 0 ↔ Op.bytesLess a b = true)
 | [], [] => by simp [Lib.compareBytes, Op.bytesLess]
 | [], _ :: _ => by simp [Lib.compareBytes, Op.bytesLess]
 | _ :: _, [] => by simp [Lib.compareBytes, Op.bytesLess]
 | a :: ax, b :: bs => by
  simp only [Lib.compareBytes, Op.bytesLess, gO, bX, bA, kM]
  by_cases h : a < b
  ·simp [h]
  ·by_cases d : b < a
   ·have : a ≠ b := by rintro rfl; exact h d
    simp [h, d, this]
   ·have : a = b := by rcases Kd a b with c | c | c; exact absurd c h; exact c; exact absurd c d
    subst this
    simp [h, Dj ax bs]
theorem GI : ∀ a b : List UInt8, (Lib.compareBytes a b = 0 ↔ a = b)
 | [], [] => by simp [Lib.compareBytes]
 | [], _ :: _ => by simp [Lib.compareBytes]
 | _ :: _, [] => by simp [Lib.compareBytes]
 | a :: ax, b :: bs => by
  simp only [Lib.compareBytes, aW]
  by_cases h : a < b
  ·simp only [h, aS]
   constructor
   ·intro h; cases h
   ·rintro ⟨rfl, _⟩; exact absurd h (by simp)
  ·by_cases d : b < a
   ·simp only [h, d, aS, aK]
    constructor
    ·intro h; cases h
    ·rintro ⟨rfl, _⟩; exact absurd d (by simp)
   ·have : a = b := by rcases Kd a b with c | c | c; exact absurd c h; exact c; exact absurd c d
    subst this
    simp [h, GI ax bs]
theorem Af (a b : ByteArray) : sa a b = Op.bytesLess a.data.toList b.data.toList := by unfold sa; rw [gG, gG]
theorem AL {a b : ByteArray} (h : a.data.toList = b.data.toList) : a = b := ky (Array.toList_inj.1 h)
theorem uq (a : ByteArray) : sa a a = false := by rw [Af, Ct]
theorem AU {a b c : ByteArray} (h1 : sa a b = true) (d : sa b c = true) : sa a c = true := by rw [Af] at *; exact BJ _ _ _ h1 d
theorem AP (a b : ByteArray) : sa a b = true ∨ a = b ∨ sa b a = true := by
 rw [Af, Af]
 rcases DK a.data.toList b.data.toList with h | h | h
 ·exact .inl h
 ·exact .inr (.inl (AL h))
 ·exact .inr (.inr h)
theorem Iu {a b : ByteArray} (h : sa a b = true) : sa b a = false := by
 cases c : sa b a with
 | false => rfl
 | true => have := AU h c; rw [uq] at this; cases this
theorem PI (P : ByteArray → Prop) : Bb (fun a b => sa a b = true) P :=
 ⟨fun x _ h => (by rw [uq] at h; cases h), fun x y z _ _ _ => AU, fun x y _ _ => AP x y⟩
def BY (b : UInt8) : Bool := decide (97 ≤ b.toNat) && decide (b.toNat ≤ 122)
def Dt (b : UInt8) : Bool := BY b || (decide (48 ≤ b.toNat) && decide (b.toNat ≤ 57)) || decide (b.toNat = 45)
def oa (s : ByteArray) : Bool := decide (1 ≤ s.size) && decide (s.size ≤ 16) && (match s.data.toList with | [] => false | b :: _ => BY b) && s.data.toList.all Dt
theorem pd {s : ByteArray} (h : oa s = true) : 1 ≤ s.size ∧ s.size ≤ 16 := by
 simp only [oa, bA, bX] at h
 exact h.1.1
theorem Me : ∀ n : Nat, n < 256 → decide (yi (⟨#[97, 98, 99, 100, 101, 102, 103, 104, 105, 106, 107, 108, 109, 110, 111, 112, 113, 114, 115, 116, 117, 118, 119, 120, 121, 122]⟩ : ByteArray) (n : Int) ≥ 0) = BY (UInt8.ofNat n) := by decide +kernel
theorem O9 : ∀ n : Nat, n < 256 → decide (yi (⟨#[97, 98, 99, 100, 101, 102, 103, 104, 105, 106, 107, 108, 109, 110, 111, 112, 113, 114, 115, 116, 117, 118, 119, 120, 121, 122, 48, 49, 50, 51, 52, 53, 54, 55, 56, 57, 45]⟩ : ByteArray) (n : Int) < 0) = !Dt (UInt8.ofNat n) := by decide +kernel
theorem uy (s : ByteArray) : s.size = s.data.toList.length := by rw [dA]; rfl
theorem FO {s : ByteArray} (h : s.size ≤ 16) : Dz s = some (sP s) := by
 unfold Dz; rw [aZ (by unfold maxLen; omega)]
theorem JE : ∀ l : List UInt8, vU (l.map fun b => (b.toNat : Int)) = some (l.all Dt)
 | [] => rfl
 | b :: l => by
  rw [bF, vU]
  simp only [sS, pL, aA]
  have a := O9 b.toNat (jS b)
  rw [a]
  simp only [ku, List.all_cons]
  cases Dt b with
  | true => simp [JE l]
  | false => simp
theorem Is {s : ByteArray} {b : UInt8} {l : List UInt8} (h : s.data.toList = b :: l) : Av s 0 = some b := by
 unfold Av
 rw [aZ (Int.le_refl 0)]
 have a : s.data[0]? = some b := by rw [← dR, h]; rfl
 show s[0]? = some b
 rw [← a]
 rfl
theorem sE (s : ByteArray) : pT s = some (oa s) := by
 unfold pT
 simp only [D0, aA, pE]
 by_cases h1 : 1 ≤ s.size
 ·by_cases a : s.size ≤ 16
  ·rw [aZ (by simp; omega)]
   obtain ⟨b, l, c⟩ : ∃ b l, s.data.toList = b :: l := by
    cases h : s.data.toList with
    | nil => rw [uy, h] at h1; simp at h1
    | cons b l => exact ⟨b, l, rfl⟩
   rw [Is c]
   simp only [aA, sS, pL]
   rw [Me b.toNat (jS b)]
   simp only [ku, oa, h1, a, c, bZ, gE]
   cases BY b with
   | false => simp
   | true =>
    simp only [aS, Cy, FO a, aA, sP]
    rw [JE, c]
    simp
  ·rw [aX (by simp; omega)]
   simp [oa, a]
 ·rw [aX (by simp; omega)]
  simp [oa, h1]
theorem KU {s : ByteArray} {A B : List UInt8} {b : UInt8} (h : s.data.toList = A ++ b :: B) (i : Int) (c : i = (A.length : Int)) : Av s i = some b := by
 subst c
 unfold Av
 rw [aZ (by omega), dX]
 have a : s.data[A.length]? = some b := by rw [← dR, h]; simp
 show s[A.length]? = some b
 rw [← a]
 rfl
theorem EW (s : ByteArray) (v : s.size ≤ 16) : ∀ (B A : List UInt8) (n : Nat), s.data.toList = A ++ B → B.length < n → uH s n (A.length : Int) = some (B.all Dt)
  | [], A, 0, _, h => by simp at h
  | [], A, n + 1, h, _ => by
    have : s.size = A.length := by rw [uy, h]; simp
    rw [uH, aX (by rw [this]; simp)]
    rfl
  | b :: B, A, 0, _, h => by simp at h
  | b :: B, A, n + 1, h, u => by
    have k : s.size = A.length + B.length + 1 := by rw [uy, h]; simp; omega
    rw [uH, aZ (by rw [k]; simp; omega)]
    rw [KU h _ rfl]
    simp only [aA]
    rw [mr (x := (A.length : Int) + 1) (by omega) (by omega)]
    have ih := EW s v B (A ++ [b]) n (by rw [h]; simp) (by simp at u; omega)
    rw [show ((A ++ [b]).length : Int) = (A.length : Int) + 1 by simp] at ih
    simp only [List.all_cons]
    have j : ∀ n : Nat, n < 256 → Dt (UInt8.ofNat n) = !((decide (n < 97) || decide (n > 122)) && (decide (n < 48) || decide (n > 57)) && decide (n ≠ 45)) := by decide +kernel
    have l := j b.toNat (jS b)
    simp only [ku] at l
    rw [l]
    by_cases h1 : b.toNat < 97 <;> by_cases o : b.toNat > 122 <;> by_cases q : b.toNat < 48 <;> by_cases r : b.toNat > 57 <;> by_cases t : b.toNat = 45 <;>
      first
      | omega
      | (have a : ((b.toNat : Int) < 97) = (b.toNat < 97) := by rw [iJ]; omega
         have c : ((b.toNat : Int) > 122) = (b.toNat > 122) := by rw [iJ]; omega
         have d : ((b.toNat : Int) < 48) = (b.toNat < 48) := by rw [iJ]; omega
         have g : ((b.toNat : Int) > 57) = (b.toNat > 57) := by rw [iJ]; omega
         have i : ((b.toNat : Int) != 45) = !decide (b.toNat = 45) := by rw [cU]; simp; omega
         simp [h1, o, q, r, t, a, c, d, g, i, ih])
theorem wk (a : ByteArray) : mK a a = true := nD.2 rfl
theorem QN : zS.size = 0 := rfl
theorem PA {s : ByteArray} : s = zS ↔ s.size = 0 := by
 constructor
 ·rintro rfl; rfl
 ·intro h; exact AL (by rw [uy] at h; rw [eX.1 h]; rfl)
theorem yX (s : ByteArray) : uc s = some (oa s) := by
 unfold uc
 simp only [RQ, aA, pE]
 by_cases g : s.size = 0
 ·have : s = zS := PA.2 g
  subst this
  rw [wk]
  rfl
 ·have o : mK s zS = false := by
   cases h : mK s zS with
   | false => rfl
   | true => exact absurd (PA.1 (nD.1 h)) g
  rw [o]
  simp only [Bool.false_or]
  by_cases i : s.size ≤ 16
  ·rw [aX (by simp; omega)]
   obtain ⟨b, l, k⟩ : ∃ b l, s.data.toList = b :: l := by
    cases h : s.data.toList with
    | nil => rw [uy, h] at g; simp at g
    | cons b l => exact ⟨b, l, rfl⟩
   rw [Is k]
   simp only [aA, RQ]
   have n := EW s i s.data.toList [] mq rfl (by rw [wh, ← uy]; omega)
   simp only [bQ] at n
   rw [show (0 : Int) = ((0 : Nat) : Int) from rfl] at *
   rw [n]
   have j : ((b.toNat : Int) < 97) = (b.toNat < 97) := by rw [iJ]; omega
   have d : ((b.toNat : Int) > 122) = (b.toNat > 122) := by rw [iJ]; omega
   have h1 : 1 ≤ s.size := by omega
   simp only [oa, h1, i, k, BY, bZ, gE, j, d]
   by_cases a : b.toNat < 97
   ·simp [a, show ¬ 97 ≤ b.toNat by omega]
   ·by_cases c : b.toNat > 122
    ·simp [a, c, show ¬ b.toNat ≤ 122 by omega]
    ·simp [a, c, show 97 ≤ b.toNat by omega, show b.toNat ≤ 122 by omega]
  ·rw [aZ (by simp; omega)]
   simp [oa, i]
def np (r : lg) : Bool := oa r.lh && oa r.lp
theorem vj (r : lg) : pU r = some (np r) := by
 unfold pU np
 simp only [sE, aA]
 cases oa r.lh <;> simp
theorem Gu (r : lg) : wW r = some (np r) := by
 unfold wW np
 simp only [yX, aA]
 cases oa r.lh <;> simp
def Aa (a b : lg) : Bool := sa a.lh b.lh || (mK a.lh b.lh && sa a.lp b.lp)
theorem Cf (a b : lg) : zA a b = some (Aa a b) := by
 unfold zA Aa
 cases sa a.lh b.lh <;> cases mK a.lh b.lh <;> simp
theorem Lp {a b : ByteArray} (h : a ≠ b) : mK a b = false := by
 cases c : mK a b with
 | false => rfl
 | true => exact absurd (nD.1 c) h
theorem Bv {a b : lg} : Aa a b = true ↔ sa a.lh b.lh = true ∨ (a.lh = b.lh ∧ sa a.lp b.lp = true) := by
 simp [Aa, nD]
theorem Mm (P : lg → Prop) : Bb (fun a b => Aa a b = true) P := by
 refine ⟨fun x _ h => ?_, fun x y z _ _ _ h1 c => ?_, fun x y _ _ => ?_⟩
 ·rw [Bv] at h
  simp [uq] at h
 ·rw [Bv] at *
  rcases h1 with h1 | ⟨g, h1⟩
  ·rcases c with c | ⟨d, c⟩
   ·exact .inl (AU h1 c)
   ·exact .inl (by rw [← d]; exact h1)
  ·rcases c with c | ⟨d, c⟩
   ·exact .inl (by rw [g]; exact c)
   ·exact .inr ⟨g.trans d, AU h1 c⟩
 ·simp only [Bv]
  rcases AP x.lh y.lh with h | h | h
  ·exact .inl (.inl h)
  ·rcases AP x.lp y.lp with c | c | c
   ·exact .inl (.inr ⟨h, c⟩)
   ·refine .inr (.inl ?_)
    cases x; cases y; simp at h c; simp [h, c]
   ·exact .inr (.inr (.inr ⟨h.symm, c⟩))
  ·exact .inr (.inr (.inl h))
theorem vJ (a b : lg) : ∃ c, oV a b = some c ∧ (c < 0 ↔ Aa a b = true) := by
 unfold oV
 simp only [qS, oO, aA, vN, tQ]
 have h1 : ∀ a b : ByteArray, (qx a b < 0 ↔ sa a b = true) := fun a b => by rw [Af]; exact Dj _ _
 have g : ∀ a b : ByteArray, (qx a b = 0 ↔ a = b) := fun a b => by
  unfold qx; rw [GI]; exact ⟨AL, fun h => by rw [h]⟩
 by_cases e : qx a.lh b.lh = 0
 ·rw [aX (by simp [e])]
  have e' := (g _ _).1 e
  by_cases d : qx a.lp b.lp = 0
  ·rw [aX (by simp [d])]
   refine ⟨0, rfl, ?_⟩
   rw [Bv, e', (g _ _).1 d]
   simp [uq]
  ·rw [aZ (by simp [d])]
   refine ⟨_, rfl, ?_⟩
   rw [Bv, e', h1]
   simp [uq]
 ·rw [aZ (by simp [e])]
  refine ⟨_, rfl, ?_⟩
  rw [Bv, h1]
  have : a.lh ≠ b.lh := fun h => e ((g _ _).2 h)
  simp [this]
def zR : lg := ⟨zS, zS⟩
theorem EI (a b : ByteArray) : mK a b = mK b a := by rw [cU, nD, nD]; exact eq_comm
theorem E5 (a b : lg) : lQ a b = lQ b a := by rw [cU, lO, lO]; exact eq_comm
theorem we (a : lg) : lQ a a = true := lO.2 rfl
def mP (c : lf) : Bool := np c.Head && (
 if c.Kind == 1 then oa c.lM && lQ zR c.B && lQ zR c.C && mK zS c.lN
 else if c.Kind == 2 then np c.B && mK zS c.lM && lQ zR c.C && mK zS c.lN
 else if c.Kind == 3 then np c.B && mK c.B.lh c.Head.lh && oa c.lN && mK zS c.lM && lQ zR c.C
 else if c.Kind == 4 then np c.B && np c.C && Aa c.B c.C && mK zS c.lM && mK zS c.lN
 else false)
theorem vq (c : lf) : tM c = some (mP c) := by
 unfold tM mP
 simp only [vj, sE, aA]
 obtain ⟨k, hk, a⟩ := vJ c.B c.C
 rw [hk]
 have b : decide (k < 0) = Aa c.B c.C := by rw [cU, ← a]; simp
 simp only [aA, b]
 by_cases h1 : c.Kind = 1
 ·cases np c.Head <;> cases oa c.lM <;> simp [h1, nw, we, wk, zR, jT]
 ·by_cases d : c.Kind = 2
  ·cases np c.Head <;> cases np c.B <;> simp [d, nw, we, wk, zR, jT]
  ·by_cases g : c.Kind = 3
   ·cases np c.Head <;> cases np c.B <;> cases mK c.B.lh c.Head.lh <;> cases oa c.lN <;> simp [g, nw, we, wk, zR, jT]
   ·by_cases h : c.Kind = 4
    ·cases np c.Head <;> cases np c.B <;> cases np c.C <;> cases Aa c.B c.C <;> simp [h, nw, we, wk, zR, jT]
    ·simp [h1, d, g, h]
theorem wF (c : lf) : wZ c = some (mP c) := by
 unfold wZ mP
 simp only [Gu, yX, Cf, aA]
 rw [show (⟨zS, zS⟩ : lg) = zR from rfl, E5 c.B zR, E5 c.C zR, EI c.lN zS, EI c.lM zS]
 by_cases h1 : c.Kind = 1
 ·cases np c.Head <;> cases oa c.lM <;> cases lQ zR c.B <;> cases lQ zR c.C <;> simp [h1]
 ·by_cases a : c.Kind = 2
  ·cases np c.Head <;> cases np c.B <;> cases mK zS c.lM <;> cases lQ zR c.C <;> simp [a]
  ·by_cases b : c.Kind = 3
   ·cases np c.Head <;> cases np c.B <;> cases mK zS c.lM <;> cases lQ zR c.C <;> cases mK c.B.lh c.Head.lh <;> simp [b]
   ·by_cases d : c.Kind = 4
    ·cases np c.Head <;> cases np c.B <;> cases mK zS c.lM <;> cases mK zS c.lN <;> cases np c.C <;> simp [d]
    ·cases np c.Head <;> cases np c.B <;> cases mK zS c.lM <;> simp [h1, a, b, d]
theorem ob {α : Type} {b : Nat} {l m : List α} (h : (l.length + m.length) * b ≤ 140737488355328) (a : l.length + m.length ≤ 9223372036854775807) : ol b l m = some (l ++ m) := by
 unfold ol; rw [aZ ⟨h, by unfold maxLen; omega⟩]
theorem GK {l m : List Int} (h : l.length + m.length ≤ 1000000) : ol 1 l m = some (l ++ m) := ob (by omega) (by omega)
def wI (s : ByteArray) : List Int := (s.size : Int) :: sP s
def rC (r : lg) : List Int := wI r.lh ++ wI r.lp
def yP (c : lf) : List Int := if c.Kind = 1 then wI c.lM else if c.Kind = 2 then rC c.B else if c.Kind = 3 then rC c.B ++ wI c.lN else rC c.B ++ rC c.C
def oL (c : lf) : List Int := c.Kind :: (rC c.Head ++ yP c)
theorem tJ (s : ByteArray) : (wI s).length = s.size + 1 := by simp [wI, qG]
theorem oC {r : lg} (h : np r = true) : (rC r).length ≤ 34 := by
 simp only [np, bA] at h
 have h1 := pd h.1
 have a := pd h.2
 simp [rC, tJ]; omega
theorem zi {l : List Int} {n : Int} (a : 0 ≤ n) (h1 : n < 128) (b : l.length ≤ 100000) : pn l n = some (true, l ++ [n]) := by
 have hw : IntKind.u8.wrap n = n := by
  obtain ⟨k, rfl⟩ : ∃ k : Nat, n = k := ⟨n.toNat, by omega⟩
  have : ∀ k : Nat, k < 128 → IntKind.u8.wrap (k : Int) = (k : Int) := by decide +kernel
  exact this k (by omega)
 unfold pn
 rw [aX (by simp; omega), oN, rk, aX (by simp; omega), hw, GK (by simp; omega)]
 rfl
theorem Fy {l : List Int} {s : ByteArray} (h : oa s = true) (a : l.length ≤ 10000) : uO l s = some (true, l ++ wI s) := by
 have h1 := pd h
 unfold uO
 simp only [sE, aA, h, aS, FO h1.2]
 unfold yq
 rw [aX (by rw [qG]; simp; omega)]
 rw [qG, zi (by omega) (by omega) (by omega)]
 simp only [aA]
 rw [GK (by simp [qG]; omega)]
 simp [wI]
theorem Kl {l : List Int} {r : lg} (h : np r = true) (b : l.length ≤ 9000) : rn l r = some (true, l ++ rC r) := by
 have a := h
 simp only [np, bA] at h
 have h1 := pd h.1
 unfold rn
 simp only [vj, aA, a, aS]
 rw [Fy h.1 (by omega)]
 simp only [aA, aS]
 rw [Fy h.2 (by simp [tJ]; omega)]
 simp [rC]
theorem Dm {l : List Int} {r : lg} (h : np r = true) (a : l.length ≤ 1000) : rn l r = some (true, l ++ rC r) := Kl h (by omega)
theorem AG {c : lf} (h : mP c = true) : np c.Head = true := by
 simp only [mP, bA] at h; exact h.1
theorem pp {c : lf} (h : mP c = true) :
  (c.Kind = 1 ∧ oa c.lM = true ∧ c.B = zR ∧ c.C = zR ∧ c.lN = zS) ∨
  (c.Kind = 2 ∧ np c.B = true ∧ c.lM = zS ∧ c.C = zR ∧ c.lN = zS) ∨
  (c.Kind = 3 ∧ np c.B = true ∧ oa c.lN = true ∧ c.B.lh = c.Head.lh ∧ c.lM = zS ∧ c.C = zR) ∨
  (c.Kind = 4 ∧ np c.B = true ∧ np c.C = true ∧ Aa c.B c.C = true ∧ c.lM = zS ∧ c.lN = zS) := by
 simp only [mP, bA] at h
 obtain ⟨_, h⟩ := h
 split at h
 ·rename_i h1
  simp only [bA, lO, nD] at h
  exact .inl ⟨by simpa using h1, h.1.1.1, h.1.1.2.symm, h.1.2.symm, h.2.symm⟩
 ·split at h
  ·rename_i h1
   simp only [bA, lO, nD] at h
   exact .inr (.inl ⟨by simpa using h1, h.1.1.1, h.1.1.2.symm, h.1.2.symm, h.2.symm⟩)
  ·split at h
   ·rename_i h1
    simp only [bA, lO, nD] at h
    exact .inr (.inr (.inl ⟨by simpa using h1, h.1.1.1.1, h.1.1.2, h.1.1.1.2, h.1.2.symm, h.2.symm⟩))
   ·split at h
    ·rename_i h1
     simp only [bA, lO, nD] at h
     exact .inr (.inr (.inr ⟨by simpa using h1, h.1.1.1.1, h.1.1.1.2, h.1.1.2, h.1.2.symm, h.2.symm⟩))
    ·cases h
theorem zw (c : lf) : tL c = some (if mP c then oL c else []) := by
 unfold tL
 rw [vq]
 simp only [aA]
 cases h : mP c with
 | false => simp
 | true =>
  have g := AG h
  have i := oC g
  simp only [bU, aB, aK, aS]
  have hk : 0 ≤ c.Kind ∧ c.Kind < 128 := by rcases pp h with h | h | h | h <;> omega
  rw [zi hk.1 hk.2 (by simp)]
  simp only [aA]
  rw [Dm g (by simp)]
  simp only [aA, uN, uf]
  rcases pp h with ⟨k, h1, _⟩ | ⟨k, h1, _⟩ | ⟨k, h1, a, _⟩ | ⟨k, h1, a, _⟩
  ·have b := pd h1
   simp only [k, bT, aS, Fy h1 (show (([] ++ [(1:Int)]) ++ rC c.Head).length ≤ 10000 by simp; omega), aA]
   rw [GK (by simp [tJ]; omega)]
   simp [oL, yP, k]
  ·have b := oC h1
   simp only [k, show ((2 : Int) == 1) = false from rfl, aB, bT, aS, aK, Dm h1 (show (([] ++ [(2:Int)]) ++ rC c.Head).length ≤ 1000 by simp; omega), aA]
   rw [GK (by simp; omega)]
   simp [oL, yP, k]
  ·have b := oC h1
   have d := pd a
   simp only [k, show ((3 : Int) == 1) = false from rfl, show ((3 : Int) == 2) = false from rfl, aB, bT, aS, aK, Dm h1 (show (([] ++ [(3:Int)]) ++ rC c.Head).length ≤ 1000 by simp; omega), aA]
   rw [Fy a (by simp; omega)]
   simp only [aA]
   rw [GK (by simp [tJ]; omega)]
   simp [oL, yP, k]
  ·have b := oC h1
   have d := oC a
   simp only [k, show ((4 : Int) == 1) = false from rfl, show ((4 : Int) == 2) = false from rfl, show ((4 : Int) == 3) = false from rfl, aB, bT, aS, aK, Dm h1 (show (([] ++ [(4:Int)]) ++ rC c.Head).length ≤ 1000 by simp; omega), aA]
   rw [Dm a (by simp; omega)]
   simp only [aA]
   rw [GK (by simp; omega)]
   simp [oL, yP, k]
def ux (l : List Int) : ByteArray := ⟨(wc l).toArray⟩
theorem xG (l : List Int) : (ux l).data.toList = wc l := rfl
theorem Hw : ∀ (l : List Int) (r : ByteArray), (l.foldl (fun r n => r.push (UInt8.ofNat n.toNat)) r).data.toList = r.data.toList ++ wc l
 | [], r => by simp [wc]
 | x :: l, r => by
  rw [jl, Hw l]
  show ((r.data.push _).toList) ++ _ = _
  simp [wc]
theorem Ah (l : List Int) : xf l = ux l := AL (by unfold xf; rw [Hw]; rfl)
theorem B7 (l : List Int) : (ux l).size = l.length := by rw [uy, xG]; simp [wc]
theorem MA (a b : List Int) : wc (a ++ b) = wc a ++ wc b := by simp [wc]
theorem tO (a b : List Int) (h : a.length + b.length ≤ 1000000) : yV (ux a) (ux b) = some (ux (a ++ b)) := by
 unfold yV
 rw [aX]
 ·congr 1
  refine AL ?_
  rw [xG, MA, ← xG a, ← xG b]
  exact ByteArray.toList_data_append ▸ rfl
 ·rw [B7, B7]
  show ¬ (_ > (9223372036854775807 : Int))
  omega
theorem DZ (s : ByteArray) : ux (sP s) = s := AL (by rw [xG]; simp [wc, sP, gW])
theorem IB {n : Int} (a : 0 ≤ n) (h1 : n < 128) : yj n = some (ux [n]) := by
 have hw : IntKind.u8.wrap n = n := by
  obtain ⟨k, rfl⟩ : ∃ k : Nat, n = k := ⟨n.toNat, by omega⟩
  have : ∀ k : Nat, k < 128 → IntKind.u8.wrap (k : Int) = (k : Int) := by decide +kernel
  exact this k (by omega)
 unfold yj
 rw [oN, yp, aX (by simp; omega), hw, Ah, show zS = ux [] from rfl, tO _ _ (by simp)]
 rfl
theorem Fw {s : ByteArray} (h : oa s = true) : wg s = some (ux (wI s)) := by
 have h1 := pd h
 unfold wg
 rw [IB (by omega) (by omega)]
 simp only [aA]
 have := tO [(s.size : Int)] (sP s) (by rw [qG]; simp; omega)
 rw [DZ] at this
 rw [this]
 simp [wI]
theorem Dv {r : lg} (h : np r = true) : xa r = some (ux (rC r)) := by
 simp only [np, bA] at h
 have h1 := pd h.1
 have a := pd h.2
 unfold xa
 rw [Fw h.1, Fw h.2]
 simp only [aA]
 rw [tO _ _ (by simp [tJ]; omega)]
 rfl
theorem yW (c : lf) : wS c = some (ux (if mP c then oL c else [])) := by
 unfold wS
 rw [wF]
 simp only [aA]
 cases h : mP c with
 | false => rfl
 | true =>
  have g := AG h
  have i := oC g
  simp only [bU, aB, aK, aS]
  have hk : 0 ≤ c.Kind ∧ c.Kind < 128 := by rcases pp h with h | h | h | h <;> omega
  unfold wR
  rw [IB hk.1 hk.2, Dv g]
  simp only [aA]
  rw [tO _ _ (by simp; omega)]
  simp only [aA]
  rcases pp h with ⟨k, h1, _⟩ | ⟨k, h1, _⟩ | ⟨k, h1, a, _⟩ | ⟨k, h1, a, _⟩
  ·have b := pd h1
   simp only [k, bT, aS, Fw h1, aA]
   rw [tO _ _ (by simp [tJ]; omega)]
   simp [oL, yP, k]
  ·have b := oC h1
   simp only [k, show ((2 : Int) == 1) = false from rfl, show ((2 : Int) == 3) = false from rfl, show ((2 : Int) == 4) = false from rfl, aB, aK, Dv h1, aA]
   rw [tO _ _ (by simp; omega)]
   simp [oL, yP, k]
  ·have b := oC h1
   have d := pd a
   simp only [k, show ((3 : Int) == 1) = false from rfl, show ((3 : Int) == 4) = false from rfl, aB, bT, aS, aK, Dv h1, aA]
   rw [tO _ _ (by simp; omega)]
   simp only [aA, Fw a]
   rw [tO _ _ (by simp [tJ]; omega)]
   simp [oL, yP, k]
  ·have b := oC h1
   have d := oC a
   simp only [k, show ((4 : Int) == 1) = false from rfl, show ((4 : Int) == 3) = false from rfl, aB, bT, aS, aK, Dv h1, aA]
   rw [tO _ _ (by simp; omega)]
   simp only [aA, Dv a]
   rw [tO _ _ (by simp; omega)]
   simp [oL, yP, k]
def JD (c : lf) : List UInt8 := wc (if mP c then oL c else [])
def BQ (a b : lf) : Bool := Op.bytesLess (JD a) (JD b)
theorem FE (a b : lf) : ∃ c, uD a b = some c ∧ (c < 0 ↔ BQ a b = true) := by
 unfold uD
 rw [zw, zw]
 exact ⟨_, rfl, Dj _ _⟩
theorem EO (a b : lf) : ∃ c, vp a b = some c ∧ (c < 0 ↔ BQ a b = true) := by
 unfold vp
 rw [yW, yW]
 simp only [aA]
 have h : sa (ux (if mP a then oL a else [])) (ux (if mP b then oL b else [])) = BQ a b := by rw [Af]; rfl
 rw [h]
 cases BQ a b with
 | true => exact ⟨_, rfl, by decide⟩
 | false =>
  simp only [aB, aK, Bool.false_or]
  cases d : mK (ux (if mP a then oL a else [])) (ux (if mP b then oL b else [])) with
  | true => exact ⟨0, by simp, by decide⟩
  | false => exact ⟨1, by simp, by decide⟩
theorem Sm {a b : Int} (ha : 0 ≤ a ∧ a < 256) (c : 0 ≤ b ∧ b < 256) (h : a.toNat.toUInt8 = b.toNat.toUInt8) : a = b := by
 have := aY UInt8.toNat h
 simp only [UInt8.toNat_ofNat', Nat.toUInt8] at this
 simp at this
 omega
theorem H4 : ∀ {a b : List Int}, (∀ x ∈ a, 0 ≤ x ∧ x < 256) → (∀ x ∈ b, 0 ≤ x ∧ x < 256) → wc a = wc b → a = b
 | [], [], _, _, _ => rfl
 | [], _ :: _, _, _, h => by simp [wc] at h
 | _ :: _, [], _, _, h => by simp [wc] at h
 | x :: a, y :: b, ha, d, h => by
  simp only [wc, bF, aW] at h
  rw [Sm (ha x (by simp)) (d y (by simp)) h.1, H4 (fun z c => ha z (by simp [c])) (fun z c => d z (by simp [c])) h.2]
theorem AE {s : ByteArray} (h : oa s = true) : ∀ x ∈ wI s, 0 ≤ x ∧ x < 256 := by
 have h1 := pd h
 intro x a
 rcases aM.1 a with rfl | a
 ·omega
 ·simp only [sP, bD] at a
  obtain ⟨b, _, rfl⟩ := a
  have := jS b
  omega
theorem yr {r : lg} (h : np r = true) : ∀ x ∈ rC r, 0 ≤ x ∧ x < 256 := by
 simp only [np, bA] at h
 intro x a
 rcases aR.1 a with a | a
 ·exact AE h.1 x a
 ·exact AE h.2 x a
theorem Cz {c : lf} (h : mP c = true) : ∀ x ∈ oL c, 0 ≤ x ∧ x < 256 := by
 intro x a
 rcases aM.1 a with rfl | a
 ·rcases pp h with h | h | h | h <;> omega
 ·rcases aR.1 a with a | a
  ·exact yr (AG h) x a
  ·unfold yP at a
   rcases pp h with ⟨k, h1, _⟩ | ⟨k, h1, _⟩ | ⟨k, h1, b, _⟩ | ⟨k, h1, b, _⟩
   ·rw [aZ k] at a; exact AE h1 x a
   ·rw [aX (by omega), aZ k] at a; exact yr h1 x a
   ·rw [aX (by omega), aX (by omega), aZ k] at a
    rcases aR.1 a with a | a
    ·exact yr h1 x a
    ·exact AE b x a
   ·rw [aX (by omega), aX (by omega), aX (by omega)] at a
    rcases aR.1 a with a | a
    ·exact yr h1 x a
    ·exact yr b x a
theorem MV {s t : ByteArray} (h : sP s = sP t) : s = t := by rw [← DZ s, h, DZ]
theorem Ci {s t : ByteArray} {X Y : List Int} (h : wI s ++ X = wI t ++ Y) : s = t ∧ X = Y := by
 simp only [wI, cE, aW] at h
 obtain ⟨h1, a⟩ := h
 have b : (sP s).length = (sP t).length := by rw [qG, qG]; omega
 have := List.append_inj a b
 exact ⟨MV this.1, this.2⟩
theorem AM {a b : lg} {X Y : List Int} (h : rC a ++ X = rC b ++ Y) : a = b ∧ X = Y := by
 simp only [rC, aQ] at h
 obtain ⟨h1, d⟩ := Ci h
 obtain ⟨c, g⟩ := Ci d
 exact ⟨by cases a; cases b; simp at h1 c; simp [h1, c], g⟩
theorem NB {a b : lf} (ha : mP a = true) (s : mP b = true) (h : oL a = oL b) : a = b := by
 simp only [oL, aW] at h
 obtain ⟨hk, q⟩ := h
 obtain ⟨o, h⟩ := AM q
 clear q
 have j : ∀ {X Y : List Int}, X = Y → X ++ [] = Y ++ [] := fun h => by rw [h]
 unfold yP at h
 obtain ⟨z, r, D, w, x, u⟩ := a
 obtain ⟨A, t, E, bb, y, v⟩ := b
 simp only at hk o h
 subst hk o
 rcases pp ha with ⟨k, h1, d, g, c⟩ | ⟨k, h1, d, g, c⟩ | ⟨k, h1, d, g, c, i⟩ | ⟨k, h1, d, g, c, i⟩ <;>
 rcases pp s with ⟨k', g1, g2, g3, g4⟩ | ⟨k', g1, g2, g3, g4⟩ | ⟨k', g1, g2, g3, g4, g5⟩ | ⟨k', g1, g2, g3, g4, g5⟩ <;> simp only at k k' d g c g2 g3 g4 <;> (try omega)
 ·rw [aZ k, aZ k] at h
  simp [Ci (j h), d, g, c, g2, g3, g4]
 ·rw [aX (by omega), aZ k, aX (by omega), aZ k] at h
  simp [AM (j h), d, g, c, g2, g3, g4]
 ·rw [aX (by omega), aX (by omega), aZ k, aX (by omega), aX (by omega), aZ k] at h
  obtain ⟨l, n⟩ := AM h
  simp only at i g5
  simp [l, Ci (j n), c, i, g4, g5]
 ·rw [aX (by omega), aX (by omega), aX (by omega), aX (by omega), aX (by omega), aX (by omega)] at h
  obtain ⟨l, n⟩ := AM h
  simp only at i g5
  simp [l, AM (j n), c, i, g4, g5]
theorem Az : Bb (fun a b => BQ a b = true) (fun c => mP c = true) := by
 refine ⟨fun x _ h => ?_, fun x y z _ _ _ h1 i => BJ _ _ _ h1 i, fun x y d g => ?_⟩
 ·unfold BQ at h; rw [Ct] at h; cases h
 ·rcases DK (JD x) (JD y) with h | h | h
  ·exact .inl h
  ·refine .inr (.inl (NB d g ?_))
   unfold JD at h
   rw [aZ d, aZ g] at h
   exact H4 (Cz d) (Cz g) h
  ·exact .inr (.inr h)
def sK {α : Type} (R : α → Bool) (lt : α → α → Bool) (last : Option α) : List α → Bool → α → Bool × α
 | [], ok, b => (ok, b)
 | x :: xs, ok, b => if R x && last.all (fun y => lt y x) && (!ok || lt x b) then sK R lt last xs true x else sK R lt last xs ok b
def AW {α : Type} (w : Nat) (R : α → Bool) (lt : α → α → Bool) (d : α) (l : List α) : Nat → List α → Option (List α)
 | 0, _ => none
 | n + 1, out => if !(sK R lt out.getLast? l false d).1 then some out else (ol w out [(sK R lt out.getLast? l false d).2]).bind fun o => AW w R lt d l n o
section
variable {α : Type} {R : α → Bool} {lt : α → α → Bool}
theorem E9 (H : Bb (fun a b => lt a b = true) (fun x => R x = true)) (last : Option α) : ∀ (l : List α) (ok : Bool) (b : α), (ok = true → R b = true ∧ last.all (fun y => lt y b) = true) →
  ((sK R lt last l ok b).1 = false → ok = false ∧ ∀ x ∈ l, R x = true → last.all (fun y => lt y x) = false) ∧
  ((sK R lt last l ok b).1 = true → R (sK R lt last l ok b).2 = true ∧ last.all (fun y => lt y (sK R lt last l ok b).2) = true ∧ ((sK R lt last l ok b).2 ∈ l ∨ (ok = true ∧ (sK R lt last l ok b).2 = b)) ∧
   (∀ x ∈ l, R x = true → last.all (fun y => lt y x) = true → lt x (sK R lt last l ok b).2 = false) ∧ (ok = true → lt b (sK R lt last l ok b).2 = false))
 | [], ok, b, j => by
  simp only [sK]
  exact ⟨fun h => ⟨h, by simp⟩, fun h => ⟨(j h).1, (j h).2, .inr ⟨h, trivial⟩, by simp, fun _ => by
   cases n : lt b b with
   | false => rfl
   | true => exact absurd n (H.irrefl b (j h).1)⟩⟩
 | x :: xs, ok, b, j => by
  rw [sK]
  by_cases k : (R x && last.all (fun y => lt y x) && (!ok || lt x b)) = true
  ·rw [aZ k]
   simp only [bA, gO, gB] at k
   obtain ⟨⟨A, t⟩, u⟩ := k
   obtain ⟨h1, s⟩ := E9 H last xs true x (fun _ => ⟨A, t⟩)
   refine ⟨fun h => ?_, fun h => ?_⟩
   ·cases (h1 h).1
   ·obtain ⟨q, a2, a3, a4, a5⟩ := s h
    refine ⟨q, a2, ?_, ?_, ?_⟩
    ·rcases a3 with a3 | ⟨_, a3⟩
     ·exact .inl (by simp [a3])
     ·exact .inl (by rw [a3]; simp)
    ·intro y g c d
     rcases aM.1 g with rfl | g
     ·exact a5 rfl
     ·exact a4 y g c d
    ·intro i
     cases n : lt b (sK R lt last xs true x).2 with
     | false => rfl
     | true =>
      have v : lt x b = true := by rcases u with h | h; rw [i] at h; cases h; exact h
      have := H.trans x b _ A (j i).1 q v n
      simp only [a5 rfl] at this
      cases this
  ·rw [aX k]
   obtain ⟨h1, s⟩ := E9 H last xs ok b j
   refine ⟨fun h => ⟨(h1 h).1, fun y g c => ?_⟩, fun h => ?_⟩
   ·rcases aM.1 g with rfl | g
    ·have i := (h1 h).1
     cases t : last.all (fun z => lt z y) with
     | false => rfl
     | true => exact absurd (by simp [c, t, i]) k
    ·exact (h1 h).2 y g c
   ·obtain ⟨q, a2, a3, a4, a5⟩ := s h
    refine ⟨q, a2, ?_, ?_, a5⟩
    ·rcases a3 with a3 | a3
     ·exact .inl (by simp [a3])
     ·exact .inr a3
    ·intro y g c d
     rcases aM.1 g with rfl | g
     ·cases n : lt y (sK R lt last xs ok b).2 with
      | false => rfl
      | true =>
       cases ok with
       | false => exact absurd (by simp [c, d]) k
       | true =>
        have w : lt y b = false := by
         cases D : lt y b with
         | false => rfl
         | true => exact absurd (by simp [c, d, D]) k
        have r := j rfl
        rcases H.total y b c r.1 with o | o | o
        ·rw [w] at o; cases o
        ·subst o; rw [a5 rfl] at n; cases n
        ·have := H.trans b y _ r.1 c q o n
         simp only [a5 rfl] at this
         cases this
     ·exact a4 y g c d
theorem vA (H : Bb (fun a b => lt a b = true) (fun x => R x = true)) {l : List α} (d : ∀ x ∈ l, R x = true) (h : l.Pairwise (fun a b => lt a b = true)) : l.Nodup := by
 refine h.imp_of_mem (fun {a b} ha g c e => ?_)
 subst e
 exact H.irrefl a (d a ha) c
theorem nK : ∀ {l m : List α}, l.Nodup → (∀ x ∈ l, x ∈ m) → l.length ≤ m.length
 | [], _, _, _ => by simp
 | x :: l, m, d, b => by
  obtain ⟨A, B, rfl⟩ := List.append_of_mem (b x (by simp))
  have a := dH.1 d
  have := nK (l := l) (m := A ++ B) a.2 (fun y c => by
   have := b y (gm _ c)
   simp only [aR, aM] at this ⊢
   rcases this with h | h | h
   ·exact .inl h
   ·subst h; exact absurd c a.1
   ·exact .inr h)
  simp at this ⊢; omega
theorem Cl (H : Bb (fun a b => lt a b = true) (fun x => R x = true)) {w : Nat} (hw : w ≤ 1000) (d : α) (l : List α) (I : l.length ≤ 1000000000) : ∀ (n : Nat) (out : List α), l.length < n + out.length → out.Pairwise (fun a b => lt a b = true) → (∀ x ∈ out, x ∈ l ∧ R x = true) →
  (∀ x ∈ l, R x = true → x ∈ out ∨ out.getLast?.all (fun y => lt y x) = true) → ∃ s, AW w R lt d l n out = some s ∧ vK (fun a b => lt a b = true) (fun x => R x = true) l s
 | 0, out, J, hp, hm, v => by
  exfalso
  have := nK (vA H (fun x c => (hm x c).2) hp) (fun x c => (hm x c).1)
  omega
 | n + 1, out, J, hp, hm, v => by
  rw [AW]
  obtain ⟨h1, F⟩ := E9 H out.getLast? l false d (fun h => by cases h)
  have hlen := nK (vA H (fun x c => (hm x c).2) hp) (fun x c => (hm x c).1)
  cases E : (sK R lt out.getLast? l false d).1 with
  | false =>
   rw [aZ (by simp)]
   refine ⟨out, rfl, hp, fun x => ⟨hm x, fun c => ?_⟩⟩
   rcases v x c.1 c.2 with h | h
   ·exact h
   ·rw [(h1 E).2 x c.1 c.2] at h; cases h
  | true =>
   rw [aX (by simp)]
   obtain ⟨t, a2, a3, a4, _⟩ := F E
   generalize (sK R lt out.getLast? l false d).2 = b at *
   have u : b ∈ l := by rcases a3 with h | ⟨h, _⟩; exact h; cases h
   have q : ∀ y ∈ out, lt y b = true := by
    intro y g
    obtain ⟨A, z, rfl⟩ : ∃ A z, out = A ++ [z] := by
     rcases dS out with h | ⟨A, z, h⟩
     ·subst h; cases g
     ·exact ⟨A, z, by rw [h]; simp⟩
    simp at a2
    rcases aR.1 g with g | g
    ·have D : lt y z = true := (cX.1 hp).2.2 y g z (by simp)
     exact H.trans y z b (hm y (by simp [g])).2 (hm z (by simp)).2 t D a2
    ·simp at g; subst g; exact a2
   have r : (out ++ [b]).Pairwise (fun a b => lt a b = true) := cX.2 ⟨hp, by simp, fun x c y g => by simp at g; subst g; exact q x c⟩
   have k : ∀ x ∈ out ++ [b], x ∈ l ∧ R x = true := fun x c => by
    rcases aR.1 c with c | c
    ·exact hm x c
    ·simp at c; subst c; exact ⟨u, t⟩
   have j := nK (vA H (fun x c => (k x c).2) r) (fun x c => (k x c).1)
   simp at j
   rw [ob (by simp only [aI, bQ]; have : (out.length + (0 + 1)) * w ≤ 1000000000 * 1000 := Nat.mul_le_mul (by omega) hw; omega) (by simp; omega)]
   simp only [aA]
   refine Cl H hw d l I n (out ++ [b]) (by simp; omega) r k (fun x c i => ?_)
   rcases v x c i with h | h
   ·exact .inl (by simp [h])
   ·have G := a4 x c i h
    rcases H.total x b i t with o | o | o
    ·rw [G] at o; cases o
    ·subst o; exact .inl (by simp)
    ·exact .inr (by simp [o])
end
theorem GF {α : Type} (A : List α) (x : α) (a : A.length < 4611686018427387904) : mZ (A ++ [x]) (wi0 .i64 (((A ++ [x]).length : Int) - 1)) = some x := by
 rw [mr (by simp; try omega) (by simp; try omega)]
 rw [oy A x [] _ (by simp; try omega)]
theorem Gv (out : List lf) (k : out.length < 4611686018427387904) : ∀ (l : List lf) (ok : Bool) (b : lf), uA out l ok b = some (sK mP BQ out.getLast? l ok b)
 | [], ok, b => rfl
 | x :: xs, ok, b => by
  rw [uA, sK]
  have cmp : ∀ a b, ∃ c, vp a b = some c ∧ decide (c < 0) = BQ a b := fun a b => by
   obtain ⟨c, h1, j⟩ := EO a b
   exact ⟨c, h1, by rw [cU, ← j]; simp⟩
  rw [wF, Gv out k xs true x, Gv out k xs ok b]
  obtain ⟨c, h1, j⟩ := cmp x b
  rcases dS out with h | ⟨A, z, h⟩
  ·subst h
   simp only [h1, aA, j, bQ, Option.all, List.getLast?_nil]
   generalize BQ x b = p
   cases mP x <;> cases ok <;> cases p <;> simp
  ·have i : out = A ++ [z] := by rw [h]; simp
   obtain ⟨t, r, s⟩ := cmp z x
   have d : out.getLast? = some z := by rw [i]; simp
   have g : mZ out (wi0 .i64 ((out.length : Int) - 1)) = some z := by rw [i]; exact GF A z (by rw [i] at k; simp at k; omega)
   have n : ((out.length : Int) == 0) = false := by rw [i]; simp; omega
   rw [d]
   simp only [n, g, r, h1, aA, j, s, Option.all]
   rcases eU (BQ x b) with hp | hp <;> rcases eU (BQ z x) with o | o <;> rcases eU (mP x) with q | q <;> cases ok <;> simp [hp, o, q]
theorem Ub (a b : ByteArray) : (!(sa a b || mK a b)) = sa b a := by
 rcases AP a b with h | h | h
 ·simp [h, Iu h]
 ·subst h; simp [wk, uq]
 ·have c := Iu h
  have d : mK a b = false := Lp (by rintro rfl; rw [uq] at h; cases h)
  simp [h, c, d]
theorem Nn {s : ByteArray} (h : oa s = true) : mK s zS = false := Lp (fun e => by have := pd h; rw [e, QN] at this; omega)
theorem Gk (out : List ByteArray) (k : out.length < 4611686018427387904) : ∀ (l : List ByteArray) (b : ByteArray),
  ∃ n, uC out l b = some n ∧ (sK oa sa out.getLast? l (!mK b zS) b) = (!mK n zS, n)
 | [], b => ⟨b, rfl, rfl⟩
 | x :: xs, b => by
  rw [uC, sK]
  obtain ⟨v, t, c⟩ := Gk out k xs x
  obtain ⟨w, u, i⟩ := Gk out k xs b
  rw [yX, t, u]
  by_cases g : oa x = true
  ·rw [Nn g] at c
   simp only [fE] at c
   rcases dS out with h | ⟨A, z, h⟩
   ·subst h
    simp only [aA, bQ, Option.all, List.getLast?_nil, g] at *
    rw [c, i]
    generalize sa x b = p
    generalize mK b zS = q
    cases p <;> cases q <;> simp
   ·have j : out = A ++ [z] := by rw [h]; simp
    have a : out.getLast? = some z := by rw [j]; simp
    have d : mZ out (wi0 .i64 ((out.length : Int) - 1)) = some z := by rw [j]; exact GF A z (by rw [j] at k; simp at k; omega)
    have o : ((out.length : Int) == 0) = false := by rw [j]; simp; omega
    rw [a] at c i ⊢
    simp only [o, d, aA, Option.all, Ub, g]
    rw [c, i]
    rcases eU (sa x b) with hp | hp <;> rcases eU (sa z x) with r | r <;> rcases eU (mK b zS) with s | s <;> simp [hp, r, s]
  ·simp only [kI] at g
   rw [g, i]
   simp
theorem Pq (a : List lf) : ∀ (n : Nat) (out s : List lf), AW 136 mP BQ (⟨0, ⟨zS, zS⟩, zS, ⟨zS, zS⟩, ⟨zS, zS⟩, zS⟩ : lf) a n out = some s → s.length < 4611686018427387904 → yc a n out = some s ∧ out.length ≤ s.length
 | 0, out, s, h, _ => by cases h
 | n + 1, out, s, h, g => by
  rw [AW] at h
  rw [yc]
  have key : out.length ≤ s.length → uA out a false (⟨0, ⟨zS, zS⟩, zS, ⟨zS, zS⟩, ⟨zS, zS⟩, zS⟩ : lf) = _ := fun j => Gv out (by omega) a false _
  split at h
  ·rename_i h1
   cases h
   rw [key (aT _)]
   simp only [aA]
   rw [aZ h1]
   exact ⟨rfl, aT _⟩
  ·rename_i h1
   obtain ⟨o, b, c⟩ := bind_some h
   have d := Pq a n o s c g
   have i : out.length + 1 = o.length := by
    unfold ol at b; split at b
    ·cases b; simp
    ·cases b
   rw [key (by omega)]
   simp only [aA]
   rw [aX h1, b]
   exact ⟨d.1, by omega⟩
theorem PL (a : List ByteArray) : ∀ (n : Nat) (out s : List ByteArray), AW 16 oa sa zS a n out = some s → s.length < 4611686018427387904 → yh a n out = some s ∧ out.length ≤ s.length
 | 0, out, s, h, _ => by cases h
 | n + 1, out, s, h, j => by
  rw [AW] at h
  rw [yh]
  have key : out.length ≤ s.length → ∃ c, uC out a zS = some c ∧ sK oa sa out.getLast? a false zS = (!mK c zS, c) := fun l => by
   have := Gk out (by omega) a zS
   rw [wk] at this
   exact this
  split at h
  ·rename_i h1
   cases h
   obtain ⟨c, d, k2⟩ := key (aT _)
   rw [d]
   rw [k2] at h1
   simp only [aA]
   rw [aZ (by simpa using h1)]
   exact ⟨rfl, aT _⟩
  ·rename_i h1
   obtain ⟨o, b, g⟩ := bind_some h
   have i := PL a n o s g j
   have k : out.length + 1 = o.length := by
    unfold ol at b; split at b
    ·cases b; simp
    ·cases b
   obtain ⟨c, d, k2⟩ := key (by omega)
   rw [d]
   rw [k2] at h1 b
   simp only [aA]
   rw [aX (by simpa using h1), b]
   exact ⟨i.1, by omega⟩
abbrev Q0 (l s : List ByteArray) := vK (fun a b => sa a b = true) (fun x => oa x = true) l s
abbrev wY (l s : List lg) := vK (fun a b => Aa a b = true) (fun x => np x = true) l s
abbrev yv (l s : List lf) := vK (fun a b => BQ a b = true) (fun x => mP x = true) l s
theorem vR {α : Type} {lt : α → α → Bool} {R : α → Bool} (H : Bb (fun a b => lt a b = true) (fun x => R x = true)) {l s : List α} (h : vK (fun a b => lt a b = true) (fun x => R x = true) l s) : s.length ≤ l.length :=
 nK (vA H (fun x c => ((h.2 x).1 c).2) h.1) (fun x c => ((h.2 x).1 c).1)
theorem QC (l : List lf) (b : l.length ≤ 1000000000) : ∃ s, F2 l = some s ∧ yv l s := by
 obtain ⟨s, h1, a⟩ := Cl Az (w := 136) (by omega) (⟨0, ⟨zS, zS⟩, zS, ⟨zS, zS⟩, ⟨zS, zS⟩, zS⟩ : lf) l b mq [] (by rw [wh]; omega) (by simp) (by simp) (fun x _ _ => .inr rfl)
 exact ⟨s, (Pq l mq [] s h1 (by have := vR Az a; omega)).1, a⟩
theorem P3 (l : List ByteArray) (b : l.length ≤ 1000000000) : ∃ s, CB l = some s ∧ Q0 l s := by
 obtain ⟨s, h1, a⟩ := Cl (PI (fun x => oa x = true)) (w := 16) (by omega) zS l b mq [] (by rw [wh]; omega) (by simp) (by simp) (fun x _ _ => .inr rfl)
 exact ⟨s, (PL l mq [] s h1 (by have := vR (PI _) a; omega)).1, a⟩
def zC : lf := ⟨0, ⟨zS, zS⟩, zS, ⟨zS, zS⟩, ⟨zS, zS⟩, zS⟩
theorem LA (f : lf → Option Bool) : ∀ (n : Nat) (l : List lf) (i j : Int), oR f n l i j = BV f zC n l i j
 | 0, _, _, _ => rfl
 | n + 1, l, i, j => by
  rw [oR, BV]
  simp only [LA f n]
  rfl
theorem Ie (f : lf → Option Bool) : ∀ (l : List lf) (i : Nat), pR f l i = yo f l i
 | [], _ => rfl
 | x :: l, i => by rw [pR, yo]; simp only [Ie f l]
theorem JN (f : lf → Option Bool) (l : List lf) : qy l f = EM f zC l := by
 unfold qy EM qN
 simp only [Ie, LA]
theorem JV (i : Int) : ∀ (n : Nat) (l : List lf) (k j : Int), pv i n l k j = Ay nw i n l k j
 | 0, _, _, _ => rfl
 | n + 1, l, k, j => by
  rw [pv, Ay]
  simp only [JV i n]
theorem Js (l : List lf) : ∀ (n : Nat) (i : Int), pB l n i = AZ nw zC l n i
 | 0, _ => rfl
 | n + 1, i => by
  rw [pB, AZ]
  simp only [Js l n, JV]
  rfl
theorem O6 (l : List lf) : tT l = Gj nw zC l := by
 unfold tT Gj
 simp only [Js]
theorem LC (f : lg → Option Bool) : ∀ (n : Nat) (l : List lg) (i j : Int), oS f n l i j = BV f zR n l i j
 | 0, _, _, _ => rfl
 | n + 1, l, i, j => by
  rw [oS, BV]
  simp only [LC f n]
  rfl
theorem Lx (f : lg → Option Bool) : ∀ (l : List lg) (i : Nat), pS f l i = yo f l i
 | [], _ => rfl
 | x :: l, i => by rw [pS, yo]; simp only [Lx f l]
theorem O2 (f : lg → Option Bool) (l : List lg) : sd l f = EM f zR l := by
 unfold sd EM uX
 simp only [Lx, LC]
theorem Ke (i : Int) : ∀ (n : Nat) (l : List lg) (k j : Int), pt i n l k j = Ay lQ i n l k j
 | 0, _, _, _ => rfl
 | n + 1, l, k, j => by
  rw [pt, Ay]
  simp only [Ke i n]
theorem Jn (l : List lg) : ∀ (n : Nat) (i : Int), pA l n i = AZ lQ zR l n i
 | 0, _ => rfl
 | n + 1, i => by
  rw [pA, AZ]
  simp only [Jn l n, Ke]
  rfl
theorem ON (l : List lg) : tX l = Gj lQ zR l := by
 unfold tX Gj
 simp only [Jn]
theorem J5 {l : List lf} (a : l.length ≤ 1000000000) : qY l = some l := by
 unfold qY
 rw [ob (by simp; omega) (by simp; omega)]
 simp
theorem SA {l : List lg} (a : l.length ≤ 1000000000) : sM l = some l := by
 unfold sM
 rw [ob (by simp; omega) (by simp; omega)]
 simp
theorem Eu (l : List lf) (d : l.length ≤ 1000000000) : ∃ s, pM l = some s ∧ yv l s := by
 unfold pM
 rw [J5 d]
 simp only [aA]
 rw [JN, DN _ (fun x => !mP x) zC l (by omega) (fun x _ => by simp [yF, vq])]
 simp only [aA, iu]
 have i : (l.filter fun x => mP x).length ≤ l.length := gV _ _
 obtain ⟨s, h1, h, c⟩ := CO (eq := nw) (lt := fun a b => BQ a b = true) (P := fun x => mP x = true) (cf := fun x => uD x.1 x.2) (l := l.filter fun x => mP x) (fun x y => pe) Az (fun x g => (cQ.1 g).2) (by omega) (fun x y _ _ => FE x y)
 rw [h1]
 simp only [aA]
 rw [O6, GJ _ _ _ (by omega)]
 refine ⟨_, rfl, c.1, fun x => ?_⟩
 rw [c.2]
 simp
theorem TJ (l : List lg) (d : l.length ≤ 1000000000) : ∃ s, yg l = some s ∧ wY l s := by
 unfold yg
 rw [SA d]
 simp only [aA]
 rw [O2, DN _ (fun x => !np x) zR l (by omega) (fun x _ => by simp [yK, vj])]
 simp only [aA, iu]
 have i : (l.filter fun x => np x).length ≤ l.length := gV _ _
 obtain ⟨s, h1, h, c⟩ := CO (eq := lQ) (lt := fun a b => Aa a b = true) (P := fun x => np x = true) (cf := fun x => oV x.1 x.2) (l := l.filter fun x => np x) (fun x y => lO) (Mm _) (fun x g => (cQ.1 g).2) (by omega) (fun x y _ _ => vJ x y)
 rw [h1]
 simp only [aA]
 rw [ON, GJ _ _ _ (by omega)]
 refine ⟨_, rfl, c.1, fun x => ?_⟩
 rw [c.2]
 simp
def tt {κ : Type} (a : List κ) : List (κ × Bool) := a.map fun k => (k, true)
def th {κ : Type} (beq : κ → κ → Bool) (a : List κ) (k : κ) : Bool := a.any fun x => beq k x
def ins {κ : Type} (beq : κ → κ → Bool) (a : List κ) (k : κ) : List κ := if th beq a k then a else a ++ [k]
section
variable {κ : Type} {beq : κ → κ → Bool}
theorem xO (b : ∀ {x y}, beq x y = true ↔ x = y) (a : List κ) (k : κ) : th beq a k = true ↔ k ∈ a := by
 simp [th, kJ, b]
theorem NH (a : List κ) : (tt a).length = a.length := by simp [tt]
theorem Om (a : List κ) (k : κ) : ye beq (tt a) k false = th beq a k := by
 unfold ye mL th tt
 induction a with
 | nil => rfl
 | cons x xs ih =>
  simp only [bF, fY, List.any_cons]
  cases h : beq k x with
  | true => simp
  | false => simpa using ih
theorem Ql (l : ∀ {x y}, beq x y = true ↔ x = y) (a : List κ) (k : κ) : pw beq (tt a) k true = tt (ins beq a k) := by
 unfold pw ins
 have n : (tt a).findIdx? (fun p => beq k p.1) = a.findIdx? (fun x => beq k x) := by
  unfold tt; rw [iQ]; rfl
 rw [n]
 cases h : a.findIdx? (fun x => beq k x) with
 | none =>
  rw [iz] at h
  rw [aX]
  ·simp [tt]
  ·intro c
   unfold th at c
   rw [kJ] at c
   obtain ⟨x, o, b⟩ := c
   rw [h x o] at b
   cases b
 | some i =>
  rw [fA] at h
  obtain ⟨g, h1, _⟩ := h
  have e := l.1 h1
  rw [aZ]
  ·simp only [tt]
   apply fN
   intro j
   rw [fZ]
   split
   ·rename_i d
    subst d
    simp [g, e]
   ·rfl
  ·unfold th
   exact kJ.2 ⟨a[i], List.getElem_mem g, h1⟩
end
section
variable {all : List lf} {wants : List lg} {T : List lg} {W : List ByteArray} {R : List lf}
def pH (c : lf) : List lg := if c.Kind = 1 then [] else if c.Kind = 4 then [c.B, c.C] else [c.B]
end
theorem QZ {c : lf} (h : mP c = true) : zx c = some (c.Head :: pH c) := by
 unfold zx
 rw [vq, h]
 simp only [aA, bU, aB, aK]
 have a : c.Kind = 1 ∨ c.Kind = 2 ∨ c.Kind = 3 ∨ c.Kind = 4 := by rcases pp h with h | h | h | h <;> simp [h.1]
 rcases a with k | k | k | k
 ·simp [k, pH]
 ·rw [aZ (by simp [k]), ob (by simp) (by simp)]
  simp [k, pH]
 ·rw [aZ (by simp [k]), ob (by simp) (by simp)]
  simp [k, pH]
 ·rw [aZ (by simp [k]), ob (by simp) (by simp)]
  simp only [aA]
  rw [aZ (by simp [k]), ob (by simp) (by simp)]
  simp [k, pH]
theorem vK.congr {α : Type} {lt : α → α → Prop} {P : α → Prop} {l m s : List α} (h : vK lt P l s) (hm : ∀ x, x ∈ l ↔ x ∈ m) : vK lt P m s := ⟨h.1, fun x => by rw [h.2, hm]⟩
theorem Qt {κ : Type} (a : List κ) : (tt a).map (·.1) = a := by simp [tt, gW]
def xt (c : lf) : Nat := c.Head.lh.size + c.Head.lp.size + c.lM.size + c.B.lh.size + c.B.lp.size + c.C.lh.size + c.C.lp.size + c.lN.size
section
variable {κ γ : Type} {beq : κ → κ → Bool}
theorem sf (a : ∀ {x y}, beq x y = true ↔ x = y) {A B : List (κ × γ)} {k : κ} {x : γ} (b : ∀ p ∈ A, p.1 ≠ k) : mL beq (A ++ (k, x) :: B) k = some x := by
 unfold mL
 rw [kv]
 have : A.find? (fun p => beq k p.1) = none := fV.2 (fun p hp h => b p hp (a.1 h).symm)
 rw [this]
 simp [a.2 (rfl : k = k)]
theorem vT (a : ∀ {x y}, beq x y = true ↔ x = y) {l : List (κ × γ)} {k : κ} (h : ∀ p ∈ l, p.1 ≠ k) : mL beq l k = none := by
 unfold mL
 rw [fV.2 (fun p hp b => h p hp (a.1 b).symm)]
 rfl
theorem yb (a : ∀ {x y}, beq x y = true ↔ x = y) {A B : List (κ × γ)} {k : κ} {x y : γ} (b : ∀ p ∈ A, p.1 ≠ k) : pw beq (A ++ (k, x) :: B) k y = A ++ (k, y) :: B := by
 have h1 : (A ++ (k, x) :: B).findIdx? (fun p => beq k p.1) = some A.length := by
  rw [jh, iz.2 (fun p hp => by
   cases h : beq k p.1 with
   | false => rfl
   | true => exact absurd (a.1 h).symm (b p hp))]
  simp [fU, a.2 (rfl : k = k)]
 rw [sv h1]
 simp
theorem BA (a : ∀ {x y}, beq x y = true ↔ x = y) {l : List (κ × γ)} {k : κ} {y : γ} (h : ∀ p ∈ l, p.1 ≠ k) : pw beq l k y = l ++ [(k, y)] := by
 refine wj (iz.2 (fun p hp => ?_)) y
 cases b : beq k p.1 with
 | false => rfl
 | true => exact absurd (a.1 b).symm (h p hp)
theorem vl (k : κ) : ∀ (l : List (κ × γ)), (∀ p ∈ l, p.1 ≠ k) ∨ ∃ A x B, l = A ++ (k, x) :: B ∧ ∀ p ∈ A, p.1 ≠ k
 | [] => .inl (fun _ h => by cases h)
 | p :: l => by
  by_cases hp : p.1 = k
  ·exact .inr ⟨[], p.2, l, by rw [← hp]; rfl, fun _ h => by cases h⟩
  ·rcases vl k l with h | ⟨A, x, B, rfl, h⟩
   ·exact .inl (fun q a => by rcases aM.1 a with rfl | a; exact hp; exact h q a)
   ·exact .inr ⟨p :: A, x, B, rfl, fun q a => by rcases aM.1 a with rfl | a; exact hp; exact h q a⟩
theorem Gs (a : ∀ {x y}, beq x y = true ↔ x = y) (A B : List (κ × γ)) (k : κ) : mL beq (A ++ B) k = (mL beq A k).or (mL beq B k) := by
 unfold mL
 rw [kv]
 cases A.find? (fun p => beq k p.1) <;> rfl
theorem ze (p : κ × γ) (l : List (κ × γ)) (k : κ) : mL beq (p :: l) k = if beq k p.1 = true then some p.2 else mL beq l k := by
 unfold mL
 rw [fY]
 cases beq k p.1 <;> simp
theorem EQ (a : ∀ {x y}, beq x y = true ↔ x = y) (l : List (κ × γ)) (k k2 : κ) (y : γ) : mL beq (pw beq l k y) k2 = if beq k2 k = true then some y else mL beq l k2 := by
 rcases vl k l with h | ⟨A, x, B, rfl, h⟩
 ·rw [BA a h, Gs a, ze]
  by_cases hk : beq k2 k = true
  ·have := a.1 hk
   subst this
   rw [aZ hk, aZ hk, vT a h]; rfl
  ·rw [aX hk, aX hk]
   show (mL beq l k2).or none = _
   cases mL beq l k2 <;> rfl
 ·rw [yb a h, Gs a, ze, Gs a, ze]
  by_cases hk : beq k2 k = true
  ·have := a.1 hk
   subst this
   rw [aZ hk, aZ hk, vT a h]; rfl
  ·rw [aX hk, aX hk, aX hk]
end
abbrev ql := List (lg × List ByteArray)
def mm (T : ql) : List (lg × List (ByteArray × Bool)) := T.map fun p => (p.1, tt p.2)
def sX (T : ql) (r : lg) : List ByteArray := (mL lQ T r).getD []
def FS (T : ql) : List lF := T.flatMap fun p => p.2.map fun w => (⟨p.1, w⟩ : lF)
def EV (T : ql) (r : lg) (w : ByteArray) : ql := pw lQ T r (sX T r ++ [w])
theorem En (A B : ql) : mm (A ++ B) = mm A ++ mm B := by simp [mm]
theorem Ak {A : ql} {r : lg} (h : ∀ p ∈ A, p.1 ≠ r) : ∀ p ∈ mm A, p.1 ≠ r := by
 intro p hp
 simp only [mm, bD] at hp
 obtain ⟨q, a, rfl⟩ := hp
 exact h q a
theorem P9 (T : ql) (r : lg) : mL lQ (mm T) r = (mL lQ T r).map tt := by
 rcases vl r T with h | ⟨A, x, B, rfl, h⟩
 ·rw [vT lO h, vT lO (Ak h)]; rfl
 ·rw [sf lO h, En]
  exact sf lO (Ak h)
theorem LS (T : ql) (r : lg) : (mL lQ (mm T) r).getD [] = tt (sX T r) := by
 rw [P9, sX]; cases mL lQ T r <;> rfl
theorem Ho (T : ql) (r : lg) (w : ByteArray) : (FS (EV T r w)).Perm (FS T ++ [(⟨r, w⟩ : lF)]) := by
 unfold EV sX
 rcases vl r T with h | ⟨A, x, B, rfl, h⟩
 ·rw [BA lO h, vT lO h]
  simp [FS]
 ·rw [yb lO h, sf lO h]
  simp only [FS, js, iX, jc, cJ, bF, gL, aQ]
  refine cA _ (cA _ ?_)
  exact fW
theorem OL {T : ql} (hk : (T.map (·.1)).Nodup) (r : lg) (w : ByteArray) : ((EV T r w).map (·.1)).Nodup := by
 unfold EV
 rcases vl r T with h | ⟨A, x, B, rfl, h⟩
 ·rw [BA lO h]
  simp only [cJ, bF, gL]
  refine bW.2 ⟨hk, by simp, fun a ha b c e => ?_⟩
  simp at c; subst c; subst e
  obtain ⟨p, hp, e⟩ := bD.1 ha
  exact h p hp e
 ·rw [yb lO h]
  simpa using hk
theorem B3 {T : ql} (hk : (T.map (·.1)).Nodup) (f : lF) : f ∈ FS T ↔ f.lM ∈ sX T f.lg := by
 simp only [FS, kK, bD]
 constructor
 ·rintro ⟨p, hp, w, hw, rfl⟩
  obtain ⟨A, B, rfl⟩ := List.append_of_mem hp
  have a : ∀ q ∈ A, q.1 ≠ p.1 := fun q c e => by
   rw [cJ, bF] at hk
   exact (bW.1 hk).2.2 q.1 (bD.2 ⟨q, c, rfl⟩) p.1 (by simp) e
  rw [sX, show p = (p.1, p.2) from rfl, sf lO a]
  exact hw
 ·intro h
  unfold sX at h
  rcases vl f.lg T with b | ⟨A, x, B, rfl, a⟩
  ·rw [vT lO b] at h; cases h
  ·rw [sf lO a] at h
   exact ⟨(f.lg, x), by simp, f.lM, h, rfl⟩
theorem KI {T : ql} (h : (FS T).Nodup) (r : lg) : (sX T r).Nodup := by
 unfold sX
 rcases vl r T with b | ⟨A, x, B, rfl, a⟩
 ·rw [vT lO b]; simp
 ·rw [sf lO a]
  simp only [FS, js, iX] at h
  have h1 := (bW.1 (bW.1 h).2.1).1
  simp only [List.Nodup, gX] at h1
  exact h1.imp (fun h e => h (by rw [e]))
inductive qa (C : List lf) : lF → Prop
 | mem (c) : c ∈ C → c.Kind = 1 → qa C ⟨c.Head, c.lM⟩
 | inc (c w) : c ∈ C → c.Kind = 2 → qa C ⟨c.B, w⟩ → qa C ⟨c.Head, w⟩
 | G0 (c b w) : c ∈ C → c.Kind = 3 → qa C ⟨c.B, b⟩ → qa C ⟨⟨b, c.lN⟩, w⟩ → qa C ⟨c.Head, w⟩
 | both (c w) : c ∈ C → c.Kind = 4 → qa C ⟨c.B, w⟩ → qa C ⟨c.C, w⟩ → qa C ⟨c.Head, w⟩
theorem qa.mono {C C' : List lf} (h : ∀ c ∈ C, c ∈ C') {f : lF} (i : qa C f) : qa C' f := by
 induction i with
 | mem c a hk => exact .mem c (h c a) hk
 | inc c w a hk _ ih => exact .inc c w (h c a) hk ih
 | G0 c b w a hk _ _ d g => exact .G0 c b w (h c a) hk d g
 | both c w a hk _ _ d g => exact .both c w (h c a) hk d g
def FY (C : List lf) : List lF := (C.map (·.Head)).flatMap fun r => (C.map (·.lM)).map fun w => (⟨r, w⟩ : lF)
theorem DT (C : List lf) : (FY C).length = C.length * C.length := by
 unfold FY
 have : ∀ l : List lg, (l.flatMap fun r => (C.map (·.lM)).map fun w => (⟨r, w⟩ : lF)).length = l.length * C.length := fun l => by
  induction l with
  | nil => simp
  | cons x l ih => simp only [iX, aD, ih, cY, aI, cO]; omega
 rw [this, cY]
theorem QQ {C : List lf} {r : lg} {w : ByteArray} : (⟨r, w⟩ : lF) ∈ FY C ↔ (∃ c ∈ C, c.Head = r) ∧ ∃ c ∈ C, c.lM = w := by
 unfold FY
 simp only [kK, bD, lF.mk.injEq]
 constructor
 ·rintro ⟨g, ⟨c, d, rfl⟩, h, ⟨b, a, rfl⟩, rfl, rfl⟩; exact ⟨⟨c, d, rfl⟩, b, a, rfl⟩
 ·rintro ⟨⟨c, d, rfl⟩, b, a, rfl⟩; exact ⟨_, ⟨c, d, rfl⟩, _, ⟨b, a, rfl⟩, rfl, rfl⟩
theorem qa.KW {C : List lf} {f : lF} (h : qa C f) : ∃ c ∈ C, c.Kind = 1 ∧ c.lM = f.lM := by
 induction h with
 | mem c g hk => exact ⟨c, g, hk, rfl⟩
 | inc c w g hk _ ih => exact ih
 | G0 c b w g hk _ _ a d => exact d
 | both c w g hk _ _ a d => exact a
theorem qa.head {C : List lf} {f : lF} (h : qa C f) : ∃ c ∈ C, c.Head = f.lg := by
 cases h with
 | mem c a hk => exact ⟨c, a, rfl⟩
 | inc c w a hk _ => exact ⟨c, a, rfl⟩
 | G0 c b w a hk _ _ => exact ⟨c, a, rfl⟩
 | both c w a hk _ _ => exact ⟨c, a, rfl⟩
theorem qa.FY {C : List lf} {f : lF} (h : qa C f) : f ∈ FY C := by
 obtain ⟨c, a, _, hw⟩ := h.KW
 exact QQ.2 ⟨h.head, c, a, hw⟩
structure rJ (C : List lf) (T : ql) (td : List lF) (n : Int) : Prop where
 keys : (T.map (·.1)).Nodup
 nd : (FS T).Nodup
 KZ : td.Nodup
 sub : ∀ f ∈ td, f ∈ FS T
 num : n = (FS T).length
 ym : ∀ f ∈ FS T, qa C f
theorem rJ.len {C : List lf} {T : ql} {b : List lF} {n : Int} (h : rJ C T b n) : (FS T).length ≤ C.length * C.length := by
 rw [← DT]; exact nK h.nd (fun f a => (h.ym f a).FY)
theorem rJ.Sq {C : List lf} {T : ql} {a : List lF} {n : Int} (h : rJ C T a n) : a.length ≤ (FS T).length := nK h.KZ h.sub
theorem rJ.mono {C C' : List lf} {T : ql} {a : List lF} {n : Int} (h : rJ C T a n) (b : ∀ c ∈ C, c ∈ C') : rJ C' T a n := ⟨h.keys, h.nd, h.KZ, h.sub, h.num, fun f d => (h.ym f d).mono b⟩
structure AS (T : ql) (td : List lF) (T' : ql) (td' : List lF) : Prop where
 nO : ∀ f ∈ FS T, f ∈ FS T'
 todo : ∀ f ∈ td, f ∈ td'
 new : ∀ f ∈ FS T', f ∈ FS T ∨ f ∈ td'
 fresh : ∀ f ∈ td', f ∈ td ∨ f ∉ FS T
theorem AS.refl (T : ql) (a : List lF) : AS T a T a := ⟨fun _ h => h, fun _ h => h, fun _ h => .inl h, fun _ h => .inl h⟩
theorem AS.trans {T T' T'' : ql} {g d a : List lF} (h : AS T g T' d) (k : AS T' d T'' a) : AS T g T'' a :=
 ⟨fun f b => k.nO f (h.nO f b), fun f b => k.todo f (h.todo f b), fun f b => by
  rcases k.new f b with h1 | h1
  ·rcases h.new f h1 with c | c
   ·exact .inl c
   ·exact .inr (k.todo f c)
  ·exact .inr h1, fun f b => by
  rcases k.fresh f b with h1 | h1
  ·exact h.fresh f h1
  ·exact .inr (fun c => h1 (h.nO f c))⟩
theorem HH {α : Type} (p : α → Bool) : ∀ l : List α, (l.filter p).length + (l.filter fun x => !p x).length = l.length
 | [] => rfl
 | x :: l => by
  have := HH p l
  cases h : p x <;> simp [h] <;> omega
theorem rJ.FX {C C' : List lf} {T T' : ql} {d c : List lF} {n o : Int} (i : rJ C' T' c o) (g : rJ C T d n) (x : AS T d T' c) : c.length + (FS T).length ≤ d.length + (FS T').length := by
 classical
 have h1 : (c.filter fun f => decide (f ∈ FS T)).length ≤ d.length := nK (i.KZ.filter _) (fun f j => by
  have := cQ.1 j
  rcases x.fresh f this.1 with h | h
  ·exact h
  ·exact absurd (by simpa using this.2) h)
 have k : (FS T ++ c.filter fun f => !decide (f ∈ FS T)).length ≤ (FS T').length := nK (bW.2 ⟨g.nd, i.KZ.filter _, fun a ha b l e => by
  subst e
  have := (cQ.1 l).2
  simp [ha] at this⟩) (fun f j => by
  rcases aR.1 j with h | h
  ·exact x.nO f h
  ·exact i.sub f (cQ.1 h).1)
 have q : (c.filter fun f => decide (f ∈ FS T)).length + (c.filter fun f => !decide (f ∈ FS T)).length = c.length := by
  exact HH (fun f => decide (f ∈ FS T)) c
 rw [aD] at k
 omega
def CF (C : List lf) (T : ql) (d : List lF) (b : Option (List (lg × List (ByteArray × Bool)) × List lF × Int)) (Q : ql → Prop) : Prop :=
 ∃ T' a c, b = some (mm T', a, c) ∧ rJ C T' a c ∧ AS T d T' a ∧ Q T'
theorem CF.mono {C : List lf} {T : ql} {d : List lF} {a : Option (List (lg × List (ByteArray × Bool)) × List lF × Int)} {Q Q' : ql → Prop} (h : CF C T d a Q) (j : ∀ T', (∀ f ∈ FS T, f ∈ FS T') → Q T' → Q' T') : CF C T d a Q' := by
 obtain ⟨T', b, k, h1, g, c, i⟩ := h
 exact ⟨T', b, k, h1, g, c, j T' c.nO i⟩
def si (C : List lf) : Prop := C.length ≤ 1000000
theorem si.sq {C : List lf} (h : si C) : C.length * C.length ≤ 1000000000000 := Nat.mul_le_mul h h
theorem uo {T : ql} (hk : (T.map (·.1)).Nodup) (r : lg) (w : ByteArray) : ye mK ((mL lQ (mm T) r).getD []) w false = true ↔ (⟨r, w⟩ : lF) ∈ FS T := by
 rw [LS, Om, xO nD, B3 hk]
theorem De {C : List lf} (z : si C) {T : ql} {j : List lF} {n : Int} (h : rJ C T j n) (cs : List lf) (J : List (lg × List lf)) (ws : List (ByteArray × List lf)) {r : lg} {w : ByteArray} (D : qa C ⟨r, w⟩) :
  CF C T j (pa (mm T) cs J ws j n r w) (fun T' => (⟨r, w⟩ : lF) ∈ FS T') := by
 unfold pa
 have F := z.sq
 have L := h.len
 have G := h.Sq
 by_cases d : (⟨r, w⟩ : lF) ∈ FS T
 ·rw [aZ ((uo h.keys r w).2 d)]
  exact ⟨T, j, n, rfl, h, AS.refl _ _, d⟩
 ·rw [aX (fun u => d ((uo h.keys r w).1 u))]
  have E : rJ C (EV T r w) (j ++ [⟨r, w⟩]) (n + 1) := by
   have hp := Ho T r w
   refine ⟨OL h.keys r w, (hp.nodup_iff).2 (bW.2 ⟨h.nd, by simp, fun a ha b q e => ?_⟩), bW.2 ⟨h.KZ, by simp, fun a ha b q e => ?_⟩, fun f c => hp.mem_iff.2 ?_, ?_, fun f c => ?_⟩
   ·simp at q; subst q; subst e; exact d ha
   ·simp at q; subst q; subst e; exact d (h.sub _ ha)
   ·rcases aR.1 c with c | c
    ·exact cI _ (h.sub f c)
    ·exact eH _ c
   ·rw [hp.length_eq, h.num]; simp
   ·rcases aR.1 (hp.mem_iff.1 c) with c | c
    ·exact h.ym f c
    ·simp at c; subst c; exact D
  have v : ((if (mL lQ (mm T) r).isNone = true then ((D3 lQ (mm T) r []).bind fun l => some l) else some (mm T)) : Option _).bind (fun l => (Gi lQ mK l r w true)) = some (mm (EV T r w)) := by
   unfold EV sX
   rcases vl r T with i | ⟨A, x, B, rfl, t⟩
   ·have s := vT lO (Ak i)
    rw [s, vT lO i, BA lO i, En]
    simp only [jD, aS, D3, s, aA]
    rw [BA lO (Ak i)]
    unfold Gi
    rw [sf lO (Ak i)]
    simp only [dZ]
    rw [yb lO (Ak i)]
    rfl
   ·have k := Ak t
    have y : mL lQ (mm (A ++ (r, x) :: B)) r = some (tt x) := by rw [En]; exact sf lO k
    rw [y, sf lO t, yb lO t]
    simp only [Option.isNone_some, aB, aK, aA, Gi, y, dZ, jc]
    have I : w ∉ x := fun hw => d (by
     rw [B3 h.keys, sX, sf lO t]; exact hw)
    rw [Ql nD]
    rw [show ins mK x w = x ++ [w] from by unfold ins; rw [aX (fun u => I ((xO nD x w).1 u))]]
    rw [En, show mm ((r, x) :: B) = (r, tt x) :: mm B from rfl, yb lO k, En]
    rfl
  refine ⟨EV T r w, j ++ [⟨r, w⟩], n + 1, ?_, E, ⟨fun f c => (Ho T r w).mem_iff.2 (cI _ c), fun f c => cI _ c, fun f c => ?_, fun f c => ?_⟩, (Ho T r w).mem_iff.2 (by simp)⟩
  ·have g := v
   generalize ((if (mL lQ (mm T) r).isNone = true then ((D3 lQ (mm T) r []).bind fun l => some l) else some (mm T)) : Option _) = o at g
   cases o with
   | none => cases g
   | some l =>
    simp only [aA] at g ⊢
    rw [g]
    simp only [aA]
    rw [ob (by simp; omega) (by simp; omega)]
    simp only [aA]
    rw [mr (by rw [h.num]; omega) (by rw [h.num]; omega)]
  ·rcases aR.1 ((Ho T r w).mem_iff.1 c) with h1 | h1
   ·exact .inl h1
   ·exact .inr (eH _ h1)
  ·rcases aR.1 c with h1 | h1
   ·exact .inl h1
   ·simp at h1; subst h1; exact .inr d
theorem AB (l : List ByteArray) (x : ByteArray) : x ∈ vW l ↔ x ∈ l := by unfold vW; simp
def tH (C : List lf) : Prop := ∀ c ∈ C, mP c = true
theorem NR {c : lf} (h : mP c = true) (hk : c.Kind = 1) : c.lM.size ≤ 16 := by
 rcases pp h with h | h | h | h
 ·exact (pd h.2.1).2
 ·exact absurd (hk.symm.trans h.1) (by decide)
 ·exact absurd (hk.symm.trans h.1) (by decide)
 ·exact absurd (hk.symm.trans h.1) (by decide)
theorem Ot {T : ql} (r : lg) (hk : (T.map (·.1)).Nodup) : (sX T r).length ≤ (FS T).length := by
 unfold sX
 rcases vl r T with b | ⟨A, x, B, rfl, a⟩
 ·rw [vT lO b]; simp
 ·rw [sf lO a]
  simp only [FS, js, iX, aD, cY, jc]
  omega
theorem Hs {C : List lf} (a : si C) (b : tH C) {T : ql} {i : List lF} {n : Int} (h : rJ C T i n) (cs : List lf) (j : List (lg × List lf)) (ws : List (ByteArray × List lf)) (q : List lF) (z : Int) (r : lg) :
  rR (mm T) cs j ws q z r = some (vW (sX T r)) := by
 unfold rR pV
 rw [LS]
 simp only [aA, pE]
 have o := Ot r h.keys
 have k := h.len
 have l := a.sq
 unfold GW
 rw [Qt, aZ]
 refine ⟨KI h.nd r, fun p hp => ?_, by rw [NH]; omega⟩
 simp only [tt, bD] at hp
 obtain ⟨w, hw, rfl⟩ := hp
 have g := h.ym ⟨r, w⟩ ((B3 h.keys ⟨r, w⟩).2 hw)
 obtain ⟨c, d, hk, e⟩ := g.KW
 have := NR (b c d) hk
 simp only at e ⊢
 rw [← e]
 unfold maxLen
 omega
theorem Ni {C : List lf} (g : si C) (cs : List lf) (d : List (lg × List lf)) (ws : List (ByteArray × List lf)) (head : lg) : ∀ (l : List ByteArray) {T : ql} {a : List lF} {n : Int}, rJ C T a n → (∀ w ∈ l, qa C ⟨head, w⟩) →
  CF C T a (rh cs d ws head l (mm T) a n) (fun T' => ∀ w ∈ l, (⟨head, w⟩ : lF) ∈ FS T')
 | [], T, a, n, h, _ => ⟨T, a, n, rfl, h, AS.refl _ _, fun _ hw => by cases hw⟩
 | w :: l, T, a, n, h, i => by
  rw [rh]
  obtain ⟨T1, s, t, j, g1, x1, q⟩ := De g h cs d ws (i w (by simp))
  rw [j]
  simp only [aA]
  obtain ⟨T2, c, o, k, g2, x2, r⟩ := Ni g cs d ws head l g1 (fun w hw => i w (by simp [hw]))
  refine ⟨T2, c, o, k, g2, x1.trans x2, fun v b => ?_⟩
  rcases aM.1 b with rfl | b
  ·exact x2.nO _ q
  ·exact r v b
theorem Rg {C : List lf} (b : si C) (d : tH C) {T : ql} {a : List lF} {n : Int} (h : rJ C T a n) (cs : List lf) (c : List (lg × List lf)) (ws : List (ByteArray × List lf)) (r head : lg) (g : ∀ w, (⟨r, w⟩ : lF) ∈ FS T → qa C ⟨head, w⟩) :
  CF C T a (uV (mm T) cs c ws a n r head) (fun T' => ∀ w, (⟨r, w⟩ : lF) ∈ FS T → (⟨head, w⟩ : lF) ∈ FS T') := by
 unfold uV
 rw [Hs b d h]
 simp only [aA]
 refine (Ni b cs c ws head _ h (fun w hw => g w ((B3 h.keys ⟨r, w⟩).2 ((AB _ _).1 hw)))).mono (fun T' _ i w hw => i w ((AB _ _).2 ((B3 h.keys ⟨r, w⟩).1 hw)))
def Fc (c : lf) (f : lF) (T T' : ql) : Prop :=
 (c.Kind = 2 → f.lg = c.B → (⟨c.Head, f.lM⟩ : lF) ∈ FS T') ∧
 (c.Kind = 3 → f.lg = c.B → ∀ w, (⟨⟨f.lM, c.lN⟩, w⟩ : lF) ∈ FS T → (⟨c.Head, w⟩ : lF) ∈ FS T') ∧
 (c.Kind = 4 → (⟨c.B, f.lM⟩ : lF) ∈ FS T → (⟨c.C, f.lM⟩ : lF) ∈ FS T → (⟨c.Head, f.lM⟩ : lF) ∈ FS T')
theorem Fc.mono {c : lf} {f : lF} {T T' T0 T1 : ql} (h : Fc c f T T') (g : ∀ f ∈ FS T0, f ∈ FS T) (h1 : ∀ f ∈ FS T', f ∈ FS T1) : Fc c f T0 T1 :=
 ⟨fun a b => h1 _ (h.1 a b), fun a b w hw => h1 _ (h.2.1 a b w (g _ hw)), fun a b d => h1 _ (h.2.2 a (g _ b) (g _ d))⟩
theorem PN (x : Option (List (lg × List (ByteArray × Bool)) × List lF × Int)) : (x.bind fun r => some (r.1, r.2.1, r.2.2)) = x := by cases x <;> rfl
theorem Nj {C : List lf} (q : si C) (v : tH C) {T : ql} {i : List lF} {n : Int} (h : rJ C T i n) (cs : List lf) (l : List (lg × List lf)) (ws : List (ByteArray × List lf)) {c : lf} (r : c ∈ C) {f : lF} (t : f ∈ FS T) (u : f.lg ∈ pH c) :
  CF C T i (sN (mm T) cs l ws i n c f) (Fc c f T) := by
 unfold sN
 simp only [PN, D0]
 by_cases a : c.Kind = 2
 ·have o : f.lg = c.B := by simpa [pH, a] using u
  rw [aZ (by simp [a])]
  have s : qa C ⟨c.Head, f.lM⟩ := .inc c f.lM r a (by rw [← o]; exact h.ym f t)
  refine (De q h cs l ws s).mono (fun T' _ g => ⟨fun _ _ => g, fun k => absurd (a.symm.trans k) (by decide), fun k => absurd (a.symm.trans k) (by decide)⟩)
 rw [aX (by simp [a])]
 by_cases b : c.Kind = 3
 ·have o : f.lg = c.B := by simpa [pH, b] using u
  rw [aZ (by simp [b])]
  refine (Rg q v h cs l ws ⟨f.lM, c.lN⟩ c.Head (fun w hw => .G0 c f.lM w r b (by rw [← o]; exact h.ym f t) (h.ym _ hw))).mono (fun T' _ g => ⟨fun k => absurd k a, fun _ _ w hw => g w hw, fun k => absurd (b.symm.trans k) (by decide)⟩)
 rw [aX (by simp [b])]
 by_cases j : c.Kind = 4
 ·rw [aZ (by simp [j])]
  simp only [aA]
  by_cases d : (⟨c.B, f.lM⟩ : lF) ∈ FS T ∧ (⟨c.C, f.lM⟩ : lF) ∈ FS T
  ·rw [aZ (by rw [bA, uo h.keys, uo h.keys]; exact d)]
   have s : qa C ⟨c.Head, f.lM⟩ := .both c f.lM r j (h.ym _ d.1) (h.ym _ d.2)
   exact (De q h cs l ws s).mono (fun T' _ g => ⟨fun k => absurd k a, fun k => absurd k b, fun _ _ _ => g⟩)
  ·rw [aX (by rw [bA, uo h.keys, uo h.keys]; exact d)]
   exact ⟨T, i, n, rfl, h, AS.refl _ _, fun k => absurd k a, fun k => absurd k b, fun _ x y => absurd ⟨x, y⟩ d⟩
 ·rw [aX (by simp [j])]
  exact ⟨T, i, n, rfl, h, AS.refl _ _, fun k => absurd k a, fun k => absurd k b, fun k => absurd k j⟩
theorem Ju {C : List lf} (i : si C) (j : tH C) (cs : List lf) (g : List (lg × List lf)) (ws : List (ByteArray × List lf)) {c : lf} (k : c ∈ C) (o : c.B ∈ pH c) : ∀ (l : List ByteArray) {T : ql} {a : List lF} {n : Int}, rJ C T a n → (∀ w ∈ l, (⟨c.B, w⟩ : lF) ∈ FS T) →
  CF C T a (qw cs g ws c l (mm T) a n) (fun T' => ∀ w ∈ l, Fc c ⟨c.B, w⟩ T T')
 | [], T, a, n, h, _ => ⟨T, a, n, rfl, h, AS.refl _ _, fun _ hw => by cases hw⟩
 | w :: l, T, a, n, h, hm => by
  rw [qw]
  obtain ⟨T1, x, y, q, g1, x1, t⟩ := Nj i j h cs g ws k (f := ⟨c.B, w⟩) (hm w (by simp)) o
  rw [q]
  simp only [aA]
  obtain ⟨T2, d, s, r, g2, x2, u⟩ := Ju i j cs g ws k o l g1 (fun w hw => x1.nO _ (hm w (by simp [hw])))
  refine ⟨T2, d, s, r, g2, x1.trans x2, fun v b => ?_⟩
  rcases aM.1 b with rfl | b
  ·exact t.mono (fun _ h => h) x2.nO
  ·exact (u v b).mono x1.nO (fun _ h => h)
def FJ (c : lf) (T : ql) (a : List lF) : Prop :=
 (c.Kind = 1 → (⟨c.Head, c.lM⟩ : lF) ∈ FS T) ∧
 (c.Kind = 2 → ∀ w, (⟨c.B, w⟩ : lF) ∈ FS T → (⟨c.B, w⟩ : lF) ∉ a → (⟨c.Head, w⟩ : lF) ∈ FS T) ∧
 (c.Kind = 3 → ∀ b w, (⟨c.B, b⟩ : lF) ∈ FS T → (⟨c.B, b⟩ : lF) ∉ a → (⟨⟨b, c.lN⟩, w⟩ : lF) ∈ FS T → (⟨⟨b, c.lN⟩, w⟩ : lF) ∉ a → (⟨c.Head, w⟩ : lF) ∈ FS T) ∧
 (c.Kind = 4 → ∀ w, (⟨c.B, w⟩ : lF) ∈ FS T → (⟨c.B, w⟩ : lF) ∉ a → (⟨c.C, w⟩ : lF) ∈ FS T → (⟨c.C, w⟩ : lF) ∉ a → (⟨c.Head, w⟩ : lF) ∈ FS T)
theorem FJ.ext {c : lf} {T T' : ql} {i d : List lF} (h : FJ c T i) (x : AS T i T' d) : FJ c T' d := by
 have nO : ∀ f, f ∈ FS T' → f ∉ d → f ∈ FS T ∧ f ∉ i := fun f n j => by
  rcases x.new f n with h1 | h1
  ·exact ⟨h1, fun l => j (x.todo f l)⟩
  ·exact absurd h1 j
 refine ⟨fun k => x.nO _ (h.1 k), fun k w a b => ?_, fun k b w g a2 a3 a4 => ?_, fun k w g a2 a3 a4 => ?_⟩
 ·exact x.nO _ (h.2.1 k w (nO _ a b).1 (nO _ a b).2)
 ·exact x.nO _ (h.2.2.1 k b w (nO _ g a2).1 (nO _ g a2).2 (nO _ a3 a4).1 (nO _ a3 a4).2)
 ·exact x.nO _ (h.2.2.2 k w (nO _ g a2).1 (nO _ g a2).2 (nO _ a3 a4).1 (nO _ a3 a4).2)
theorem Pm {C : List lf} (l : si C) (t : tH C) {T : ql} {r : List lF} {n : Int} (h : rJ C T r n) (cs : List lf) (s : List (lg × List lf)) (ws : List (ByteArray × List lf)) {c : lf} (u : c ∈ C) :
  ∃ T' d i, tR (mm T) cs s ws r n c = some (mm T', d, i) ∧ rJ C T' d i ∧ AS T r T' d ∧ FJ c T' d := by
 unfold tR
 simp only [PN]
 by_cases h1 : c.Kind = 1
 ·rw [aZ (by simp [h1])]
  obtain ⟨T', d, i, e, g, x, q⟩ := De l h cs s ws (qa.mem c u h1)
  exact ⟨T', d, i, e, g, x, fun _ => q, fun k => absurd (h1.symm.trans k) (by decide), fun k => absurd (h1.symm.trans k) (by decide), fun k => absurd (h1.symm.trans k) (by decide)⟩
 ·rw [aX (by simp [h1]), Hs l t h]
  simp only [aA]
  have z : c.B ∈ pH c := by unfold pH; rw [aX h1]; split <;> simp
  obtain ⟨T', d, i, e, g, x, q⟩ := Ju l t cs s ws u z (vW (sX T c.B)) h (fun w hw => (B3 h.keys ⟨c.B, w⟩).2 ((AB _ _).1 hw))
  have nO : ∀ f, f ∈ FS T' → f ∉ d → f ∈ FS T := fun f v y => by
   rcases x.new f v with h1 | h1
   ·exact h1
   ·exact absurd h1 y
  have o : ∀ w, (⟨c.B, w⟩ : lF) ∈ FS T → Fc c ⟨c.B, w⟩ T T' := fun w hw => q w ((AB _ _).2 ((B3 h.keys ⟨c.B, w⟩).1 hw))
  refine ⟨T', d, i, e, g, x, fun k => absurd k h1, fun k w a b => ?_, fun k b w j a2 a3 a4 => ?_, fun k w j a2 a3 a4 => ?_⟩
  ·exact (o w (nO _ a b)).1 k rfl
  ·exact (o b (nO _ j a2)).2.1 k rfl w (nO _ a3 a4)
  ·exact (o w (nO _ j a2)).2.2 k (nO _ j a2) (nO _ a3 a4)
structure EN (C : List lf) (us : List (lg × List lf)) (ws : List (ByteArray × List lf)) : Prop where
 Oy : ∀ r c, c ∈ (mL lQ us r).getD [] ↔ c ∈ C ∧ r ∈ pH c
 word : ∀ w c, c ∈ (mL mK ws w).getD [] ↔ c ∈ C ∧ c.Kind = 3 ∧ c.lN = w
 R3 : ∀ r, ((mL lQ us r).getD []).length ≤ 2 * C.length
 Sa : ∀ w, ((mL mK ws w).getD []).length ≤ C.length
theorem Ih {C : List lf} (i : si C) (j : tH C) (cs : List lf) (g : List (lg × List lf)) (ws : List (ByteArray × List lf)) {f : lF} : ∀ (l : List lf) {T : ql} {a : List lF} {n : Int}, rJ C T a n → f ∈ FS T → (∀ c ∈ l, c ∈ C ∧ f.lg ∈ pH c) →
  CF C T a (qg cs g ws f l (mm T) a n) (fun T' => ∀ c ∈ l, Fc c f T T')
 | [], T, a, n, h, _, _ => ⟨T, a, n, rfl, h, AS.refl _ _, fun _ hw => by cases hw⟩
 | c :: l, T, a, n, h, k, hm => by
  rw [qg]
  obtain ⟨T1, w, x, o, g1, x1, t⟩ := Nj i j h cs g ws (hm c (by simp)).1 k (hm c (by simp)).2
  rw [o]
  simp only [aA]
  obtain ⟨T2, d, s, q, g2, x2, u⟩ := Ih i j cs g ws l g1 (x1.nO _ k) (fun c r => hm c (by simp [r]))
  refine ⟨T2, d, s, q, g2, x1.trans x2, fun v b => ?_⟩
  rcases aM.1 b with rfl | b
  ·exact t.mono (fun _ h => h) x2.nO
  ·exact (u v b).mono x1.nO (fun _ h => h)
theorem Ev {C : List lf} (o : si C) (w : tH C) (cs : List lf) (j : List (lg × List lf)) (ws : List (ByteArray × List lf)) {f : lF} : ∀ (l : List lf) {T : ql} {g : List lF} {n : Int}, rJ C T g n → f ∈ FS T → (∀ c ∈ l, c ∈ C ∧ c.Kind = 3 ∧ c.lN = f.lg.lp) →
  CF C T g (pf f cs j ws l (mm T) g n) (fun T' => ∀ c ∈ l, (⟨c.B, f.lg.lh⟩ : lF) ∈ FS T → (⟨c.Head, f.lM⟩ : lF) ∈ FS T')
 | [], T, g, n, h, _, _ => ⟨T, g, n, rfl, h, AS.refl _ _, fun _ hw => by cases hw⟩
 | c :: l, T, g, n, h, r, hm => by
  rw [pf]
  have hk := hm c (by simp)
  by_cases i : (⟨c.B, f.lg.lh⟩ : lF) ∈ FS T
  ·rw [aZ ((uo h.keys _ _).2 i)]
   have s : f = ⟨⟨f.lg.lh, c.lN⟩, f.lM⟩ := by rw [hk.2.2]
   have y : qa C ⟨c.Head, f.lM⟩ := .G0 c f.lg.lh f.lM hk.1 hk.2.1 (h.ym _ i) (by rw [← s]; exact h.ym f r)
   obtain ⟨T1, D, E, x, g1, x1, A⟩ := De o h cs j ws y
   rw [x]
   simp only [aA]
   obtain ⟨T2, d, t, k, g2, x2, u⟩ := Ev o w cs j ws l g1 (x1.nO _ r) (fun c q => hm c (by simp [q]))
   refine ⟨T2, d, t, k, g2, x1.trans x2, fun v b a => ?_⟩
   rcases aM.1 b with rfl | b
   ·exact x2.nO _ A
   ·exact u v b (x1.nO _ a)
  ·rw [aX (fun z => i ((uo h.keys _ _).1 z))]
   obtain ⟨T2, d, t, k, g2, x2, u⟩ := Ev o w cs j ws l h r (fun c q => hm c (by simp [q]))
   refine ⟨T2, d, t, k, g2, x2, fun v b a => ?_⟩
   rcases aM.1 b with rfl | b
   ·exact absurd a i
   ·exact u v b a
theorem IC {C : List lf} (E : si C) (F : tH C) {cs : List lf} {A : List (lg × List lf)} {ws : List (ByteArray × List lf)} (u : EN C A ws) : ∀ (m : Nat) {T : ql} {l : List lF} {n : Int}, rJ C T l n → (∀ c ∈ C, FJ c T l) → C.length * C.length + l.length < m + (FS T).length →
  ∃ T' J, oG cs A ws m (mm T) l n = some (mm T', [], J) ∧ rJ C T' [] J ∧ (∀ c ∈ C, FJ c T' []) ∧ (∀ f ∈ FS T, f ∈ FS T')
 | 0, T, l, n, h, _, hm => by have := h.len; omega
 | m + 1, T, [], n, h, q, hm => by
  rw [oG]
  exact ⟨T, n, rfl, h, q, fun _ h => h⟩
 | m + 1, T, f :: l, n, h, q, hm => by
  rw [oG]
  rw [aZ (by simp)]
  have I : f ∈ FS T := h.sub f (by simp)
  have Q := (dH.1 h.KZ)
  simp only [mZ, Int.le_refl, aS, Int.toNat_zero, iL, aA]
  rw [show rO (decide ((0 : Nat) ≤ 1) && decide ((1 : Int) ≤ ((f :: l).length : Int))) = some () by simp [rO]; omega]
  simp only [aA, show Int.toNat 1 = 1 from rfl, List.drop_one, List.tail_cons]
  have G : rJ C T l n := ⟨h.keys, h.nd, Q.2, fun g y => h.sub g (by simp [y]), h.num, h.ym⟩
  obtain ⟨T1, a6, n1, M, g1, x1, Y⟩ := Ih E F cs A ws ((mL lQ A f.lg).getD []) G I (fun c i => (u.Oy _ c).1 i)
  rw [M]
  simp only [aA]
  obtain ⟨T2, r, n2, O, g2, x2, Z⟩ := Ev E F cs A ws ((mL mK ws f.lg.lp).getD []) g1 (x1.nO _ I) (fun c i => (u.word _ c).1 i)
  rw [O]
  simp only [aA]
  have x := x1.trans x2
  have nO : ∀ g, g ∈ FS T2 → g ∉ r → g ∈ FS T ∧ (g = f ∨ g ∉ f :: l) := fun g y z => by
   rcases x.new g y with h1 | h1
   ·refine ⟨h1, ?_⟩
    by_cases he : g = f
    ·exact .inl he
    ·exact .inr (fun t => by
      rcases aM.1 t with t | t
      ·exact he t
      ·exact z (x.todo g t))
   ·exact absurd h1 z
  have d1 : ∀ c ∈ C, f.lg ∈ pH c → Fc c f T T2 := fun c i R => (Y c ((u.Oy _ c).2 ⟨i, R⟩)).mono (fun _ h => h) x2.nO
  have v : ∀ c ∈ C, FJ c T2 r := fun c i => by
   have k := q c i
   refine ⟨fun hk => x.nO _ (k.1 hk), fun hk w a b => ?_, fun hk b w D a2 a3 a4 => ?_, fun hk w D a2 a3 a4 => ?_⟩
   ·obtain ⟨o, d⟩ := nO _ a b
    rcases d with d | d
    ·subst d; exact (d1 c i (by simp [pH, hk])).1 hk rfl
    ·exact x.nO _ (k.2.1 hk w o d)
   ·obtain ⟨o, d⟩ := nO _ D a2
    obtain ⟨s, j⟩ := nO _ a3 a4
    rcases d with d | d
    ·subst d; exact (d1 c i (by simp [pH, hk])).2.1 hk rfl w s
    ·rcases j with j | j
     ·subst j
      exact Z c ((u.word _ c).2 ⟨i, hk, rfl⟩) (x1.nO _ o)
     ·exact x.nO _ (k.2.2.1 hk b w o d s j)
   ·obtain ⟨o, d⟩ := nO _ D a2
    obtain ⟨s, j⟩ := nO _ a3 a4
    rcases d with d | d
    ·subst d; exact (d1 c i (by simp [pH, hk])).2.2 hk o s
    ·rcases j with j | j
     ·subst j; exact (d1 c i (by simp [pH, hk])).2.2 hk o s
     ·exact x.nO _ (k.2.2.2 hk w o d s j)
  have hlen : r.length + (FS T).length ≤ l.length + (FS T2).length := by
   exact g2.FX G x
  obtain ⟨T3, U, P, g3, L, W⟩ := IC E F u m g2 v (by simp only [aI] at hm; omega)
  exact ⟨T3, U, P, g3, L, fun g y => W g (x.nO g y)⟩
theorem LD (c : lf) : ∀ (l : List lf) (i : Nat), ∃ z, rf c l i = some z ∧ (z ≥ 0 ↔ c ∈ l)
 | [], i => ⟨-1, rfl, by simp⟩
 | x :: l, i => by
  rw [rf]
  by_cases h : nw c x = true
  ·rw [aZ h]
   exact ⟨_, rfl, by simp [pe.1 h]⟩
  ·rw [aX h]
   obtain ⟨z, e, b⟩ := LD c l (i + 1)
   refine ⟨z, e, ?_⟩
   rw [b, aM]
   exact ⟨.inr, fun a => a.resolve_left (fun e => h (pe.2 e))⟩
theorem JX (c : lf) (l : List lf) : ∃ b, qM l c = some b ∧ (b = true ↔ c ∈ l) := by
 obtain ⟨z, e, a⟩ := LD c l 0
 refine ⟨decide (z ≥ 0), ?_, by simpa using a⟩
 unfold qM tC xl
 rw [e]
 rfl
theorem Ld (c : lf) (ws : List (ByteArray × List lf)) (C : List lf) (hw : ∀ w, ((mL mK ws w).getD []).length ≤ 2000000) : ∀ (j : List lg) (a : List (lg × List lf)), (∀ r, ((mL lQ a r).getD []).length + j.length ≤ 4000000) →
  ∃ g i, pI c ws C j a = some (C, g, i) ∧ (∀ r x, x ∈ (mL lQ g r).getD [] ↔ x ∈ (mL lQ a r).getD [] ∨ (x = c ∧ r ∈ j)) ∧
   (∀ w x, x ∈ (mL mK i w).getD [] ↔ x ∈ (mL mK ws w).getD [] ∨ (x = c ∧ c.Kind = 3 ∧ w = c.lN)) ∧ (∀ r, ((mL lQ g r).getD []).length ≤ ((mL lQ a r).getD []).length + j.length) ∧
   (∀ w, ((mL mK i w).getD []).length ≤ ((mL mK ws w).getD []).length + 1)
 | [], a, _ => by
  rw [pI]
  by_cases k : c.Kind = 3
  ·rw [aZ (by simp [k])]
   have h := hw c.lN
   rw [ob (by simp; omega) (by simp; omega)]
   simp only [aA]
   refine ⟨a, _, rfl, by simp, fun w x => ?_, by simp, fun w => ?_⟩
   ·rw [EQ nD]
    by_cases hk : mK w c.lN = true
    ·rw [aZ hk, nD.1 hk]; simp [k]
    ·rw [aX hk]
     have : w ≠ c.lN := fun e => hk (nD.2 e)
     simp [this]
   ·rw [EQ nD]
    by_cases hk : mK w c.lN = true
    ·rw [aZ hk, nD.1 hk]; simp
    ·rw [aX hk]; exact jV _
  ·rw [aX (by simp [k])]
   exact ⟨a, ws, rfl, by simp, by simp [k], by simp, by simp⟩
 | b :: j, a, l => by
  rw [pI]
  have h := l b
  simp only [aI] at h
  rw [ob (by simp; omega) (by simp; omega)]
  simp only [aA]
  have d : ∀ r, (mL lQ (pw lQ a b (((mL lQ a b).getD []) ++ [c])) r).getD [] = if lQ r b = true then ((mL lQ a b).getD []) ++ [c] else (mL lQ a r).getD [] := fun r => by
   rw [EQ lO]; by_cases hk : lQ r b = true
   ·rw [aZ hk, aZ hk]; rfl
   ·rw [aX hk, aX hk]
  obtain ⟨g, i, e, n, a2, a3, a4⟩ := Ld c ws C hw j (pw lQ a b (((mL lQ a b).getD []) ++ [c])) (fun r => by
   rw [d r]
   have o := l r
   simp only [aI] at o
   by_cases hk : lQ r b = true
   ·rw [aZ hk]; simp; omega
   ·rw [aX hk]; omega)
  refine ⟨g, i, e, fun r x => ?_, a2, fun r => ?_, a4⟩
  ·rw [n, d]
   by_cases hk : lQ r b = true
   ·rw [aZ hk, lO.1 hk]
    simp only [aR, aM, cH, eY]
    constructor
    ·rintro ((h | h) | h)
     ·exact .inl h
     ·exact .inr ⟨h, .inl trivial⟩
     ·exact .inr ⟨h.1, .inr h.2⟩
    ·rintro (h | h)
     ·exact .inl (.inl h)
     ·exact .inl (.inr h.1)
   ·rw [aX hk]
    have : r ≠ b := fun e => hk (lO.2 e)
    simp [this]
  ·have := a3 r
   rw [d r] at this
   by_cases hk : lQ r b = true
   ·rw [aZ hk] at this; rw [lO.1 hk] at this ⊢; simp at this ⊢; omega
   ·rw [aX hk] at this; simp; omega
theorem Qk {C : List lf} {j : List (lg × List lf)} {ws : List (ByteArray × List lf)} (g : EN C j ws) (s : C.length + 1 ≤ 1000000) {c : lf} (l : mP c = true) (i : List (lg × List (ByteArray × Bool))) (q : List lF) (n : Int) :
  ∃ a b, uu i C j ws q n c = some (C ++ [c], a, b) ∧ EN (C ++ [c]) a b := by
 unfold uu
 rw [ob (by simp; omega) (by simp; omega)]
 simp only [aA, QZ l]
 rw [show rO (decide ((0 : Nat) ≤ 1) && decide ((1 : Int) ≤ ((c.Head :: pH c).length : Int))) = some () by simp [rO]; omega]
 simp only [aA, show Int.toNat 1 = 1 from rfl, List.drop_one, List.tail_cons]
 have o : (pH c).length ≤ 2 := by unfold pH; split; simp; split <;> simp
 obtain ⟨a, b, e, k, a2, a3, a4⟩ := Ld c ws (C ++ [c]) (fun w => by have := g.Sa w; omega) (pH c) j (fun r => by have := g.R3 r; omega)
 refine ⟨a, b, e, fun r x => ?_, fun w x => ?_, fun r => ?_, fun w => ?_⟩
 ·rw [k, g.Oy, aR, bE]
  constructor
  ·rintro (h | h)
   ·exact ⟨.inl h.1, h.2⟩
   ·exact ⟨.inr h.1, by rw [h.1]; exact h.2⟩
  ·rintro ⟨h | h, d⟩
   ·exact .inl ⟨h, d⟩
   ·exact .inr ⟨h, by rw [← h]; exact d⟩
 ·rw [a2, g.word, aR, bE]
  constructor
  ·rintro (h | h)
   ·exact ⟨.inl h.1, h.2⟩
   ·exact ⟨.inr h.1, by rw [h.1]; exact ⟨h.2.1, h.2.2.symm⟩⟩
  ·rintro ⟨h | h, d⟩
   ·exact .inl ⟨h, d⟩
   ·subst h; exact .inr ⟨rfl, d.1, d.2.symm⟩
 ·have := a3 r; have := g.R3 r; simp; omega
 ·have := a4 w; have := g.Sa w; simp; omega
structure MS (C : List lf) (T : ql) (us : List (lg × List lf)) (ws : List (ByteArray × List lf)) (n : Int) : Prop where
 Ep : rJ C T [] n
 cl : ∀ c ∈ C, FJ c T []
 TF : EN C us ws
 right : tH C
theorem MS.all {C : List lf} {T : ql} {j : List (lg × List lf)} {ws : List (ByteArray × List lf)} {n : Int} (h : MS C T j ws n) (f : lF) : f ∈ FS T ↔ qa C f := by
 refine ⟨h.Ep.ym f, fun i => ?_⟩
 induction i with
 | mem c a hk => exact (h.cl c a).1 hk
 | inc c w a hk _ ih => exact (h.cl c a).2.1 hk w ih (by simp)
 | G0 c b w a hk _ _ d g => exact (h.cl c a).2.2.1 hk b w d (by simp) g (by simp)
 | both c w a hk _ _ d g => exact (h.cl c a).2.2.2 hk w d (by simp) g (by simp)
theorem JF (r : Int) (z : 0 ≤ r ∧ r ≤ 1000000000000) : ∀ (l : List lf) {C : List lf} {T : ql} {q : List lF} {A : List (lg × List lf)} {ws : List (ByteArray × List lf)} {n : Int}, rJ C T q n → (∀ c ∈ C, FJ c T q) → EN C A ws → tH C → C.length + l.length ≤ 1000000 →
  ∃ C' T' a d j, pc r l (mm T) C A ws q n = some (j - r, mm T', C', a, d, [], j) ∧ MS C' T' a d j ∧ (∀ c, c ∈ C' ↔ c ∈ C ∨ (c ∈ l ∧ mP c = true)) ∧ C'.length ≤ C.length + l.length ∧ (∀ f ∈ FS T, f ∈ FS T')
 | [], C, T, q, A, ws, n, g, i, u, s, L => by
  rw [pc]
  have U : si C := by unfold si; simp at L; omega
  have a6 := U.sq
  have hlen := g.len
  have a7 := g.Sq
  obtain ⟨T', j, e, F, Y, o⟩ := IC U s u (cs := C) mq g i (by rw [wh]; omega)
  unfold vy
  rw [e]
  simp only [aA]
  have M := F.len
  have W := F.num
  rw [mr (by omega) (by omega)]
  exact ⟨C, T', A, ws, j, rfl, ⟨F, Y, u, s⟩, by simp, by simp, o⟩
 | x :: l, C, T, q, A, ws, n, g, i, u, s, L => by
  rw [pc, vq]
  simp only [aI] at L
  obtain ⟨b, hb, v⟩ := JX x C
  simp only [aA, hb, D0]
  by_cases k : mP x = true ∧ x ∉ C
  ·have I : b = false := by cases b with | false => rfl | true => exact absurd (v.1 rfl) k.2
   rw [k.1, I]
   simp only [fE, Bool.and_self, aS]
   obtain ⟨Q, R, Z, U1⟩ := Qk u (by omega) k.1 (mm T) q n
   rw [Z]
   simp only [aA]
   have G : si (C ++ [x]) := by unfold si; simp; omega
   have t : tH (C ++ [x]) := fun c w => by
    rcases aR.1 w with h | h
    ·exact s c h
    ·simp at h; subst h; exact k.1
   have g1 : rJ (C ++ [x]) T q n := g.mono (fun c w => cI _ w)
   obtain ⟨T2, P, n2, e2, g2, x2, c2⟩ := Pm G t g1 (C ++ [x]) Q R (c := x) (by simp)
   rw [e2]
   simp only [aA]
   have y : ∀ c ∈ C ++ [x], FJ c T2 P := fun c w => by
    rcases aR.1 w with h | h
    ·exact (i c h).ext x2
    ·simp at h; subst h; exact c2
   obtain ⟨C', T', a, d, j, e, m, E, a2, a3⟩ := JF r z l g2 y U1 t (by simp; omega)
   refine ⟨C', T', a, d, j, e, m, fun c => ?_, by simp at a2 ⊢; omega, fun f J => a3 f (x2.nO f J)⟩
   rw [E]
   simp only [aR, aM, cH, eY]
   constructor
   ·rintro ((h | h) | h)
    ·exact .inl h
    ·subst h; exact .inr ⟨.inl rfl, k.1⟩
    ·exact .inr ⟨.inr h.1, h.2⟩
   ·rintro (h | ⟨h | h, D⟩)
    ·exact .inl (.inl h)
    ·exact .inl (.inr h)
    ·exact .inr ⟨h, D⟩
  ·have J : (mP x && !b) = false := by
    cases hr : mP x with
    | false => rfl
    | true =>
     have : x ∈ C := fX fun O => k ⟨hr, O⟩
     rw [v.2 this]; rfl
   rw [J]
   simp only [aB, aK]
   obtain ⟨C', T', a, d, j, e, m, E, a2, a3⟩ := JF r z l g i u s (by omega)
   refine ⟨C', T', a, d, j, e, m, fun c => ?_, by simp; omega, a3⟩
   rw [E, aM]
   constructor
   ·rintro (h | h)
    ·exact .inl h
    ·exact .inr ⟨.inr h.1, h.2⟩
   ·rintro (h | ⟨h | h, D⟩)
    ·exact .inl h
    ·subst h
     exact .inl (fX fun O => k ⟨D, O⟩)
    ·exact .inr ⟨h, D⟩
theorem QT {C : List lf} {T : ql} {g : List (lg × List lf)} {ws : List (ByteArray × List lf)} {n : Int} (h : MS C T g ws n) (l : List lf) (j : C.length + l.length ≤ 1000000) :
  ∃ C' T' a b d, uU (mm T) C g ws [] n l = some (d - n, mm T', C', a, b, [], d) ∧ MS C' T' a b d ∧ (∀ c, c ∈ C' ↔ c ∈ C ∨ (c ∈ l ∧ mP c = true)) ∧ C'.length ≤ C.length + l.length ∧ (∀ f ∈ FS T, f ∈ FS T') := by
 have i : si C := by unfold si; omega
 have h1 := h.Ep.len
 have k := i.sq
 have o := h.Ep.num
 exact JF n ⟨by omega, by omega⟩ l h.Ep h.cl h.TF h.right j
theorem EN.zero : EN [] [] [] := ⟨fun r c => by simp [mL], fun w c => by simp [mL], fun r => by simp [mL], fun w => by simp [mL]⟩
theorem rJ.zero : rJ [] [] [] 0 := ⟨by simp, by simp [FS], by simp, by simp, by simp [FS], by simp [FS]⟩
theorem MS.zero : MS [] [] [] [] 0 := ⟨rJ.zero, fun c a => (by cases a), EN.zero, fun c a => (by cases a)⟩
theorem Mp (l : List lf) (h : l.length ≤ 1000000) : ∃ C T d ws n, wB l = some (mm T, C, d, ws, [], n) ∧ MS C T d ws n ∧ (∀ c, c ∈ C ↔ c ∈ l ∧ mP c = true) ∧ C.length ≤ l.length := by
 unfold wB
 obtain ⟨C', T', a, b, i, e, m, g, a2, a3⟩ := QT MS.zero l (by simpa using h)
 rw [show uU [] [] [] [] [] 0 l = _ from e]
 exact ⟨C', T', a, b, i, rfl, m, by simpa using g, by simpa using a2⟩
theorem qa.congr {C C' : List lf} (h : ∀ c, c ∈ C ↔ c ∈ C') (f : lF) : qa C f ↔ qa C' f := ⟨fun d => d.mono (fun c a => (h c).1 a), fun d => d.mono (fun c a => (h c).2 a)⟩
def zZ (a b : lF) : Bool := Aa a.lg b.lg || (lQ a.lg b.lg && sa a.lM b.lM)
theorem Bu {a b : lF} : zZ a b = true ↔ Aa a.lg b.lg = true ∨ (a.lg = b.lg ∧ sa a.lM b.lM = true) := by simp [zZ, lO]
def DW (_ : lF) : Bool := true
theorem Hp : Bb (fun a b => zZ a b = true) (fun x => DW x = true) := by
 have H := Mm (fun _ => True)
 refine ⟨fun x _ => ?_, fun x y z _ _ _ h1 c => ?_, fun x y _ _ => ?_⟩
 ·rw [Bu]
  rintro (h | ⟨_, h⟩)
  ·exact H.irrefl _ trivial h
  ·rw [uq] at h; cases h
 ·rw [Bu] at *
  rcases h1 with h1 | ⟨g, h1⟩
  ·rcases c with c | ⟨d, c⟩
   ·exact .inl (H.trans _ _ _ trivial trivial trivial h1 c)
   ·exact .inl (by rw [← d]; exact h1)
  ·rcases c with c | ⟨d, c⟩
   ·exact .inl (by rw [g]; exact c)
   ·exact .inr ⟨g.trans d, AU h1 c⟩
 ·simp only [Bu]
  rcases H.total x.lg y.lg trivial trivial with h | h | h
  ·exact .inl (.inl h)
  ·rcases AP x.lM y.lM with c | c | c
   ·exact .inl (.inr ⟨h, c⟩)
   ·refine .inr (.inl ?_)
    cases x; cases y; simp at h c; simp [h, c]
   ·exact .inr (.inr (.inr ⟨h.symm, c⟩))
  ·exact .inr (.inr (.inl h))
theorem Hq (a b : ByteArray) : qx a b = 0 ↔ a = b := by unfold qx; rw [GI]; exact ⟨AL, fun h => by rw [h]⟩
theorem SC (a b : ByteArray) : qx a b < 0 ↔ sa a b = true := by rw [Af]; exact Dj _ _
theorem N8 (a b : lg) : ∃ c, oV a b = some c ∧ (c < 0 ↔ Aa a b = true) ∧ (c = 0 ↔ a = b) := by
 obtain ⟨c, e, h⟩ := vJ a b
 refine ⟨c, e, h, ?_⟩
 unfold oV at e
 simp only [qS, oO, aA, vN, tQ, pE] at e
 by_cases d : qx a.lh b.lh = 0
 ·rw [aX (by simp [d])] at e
  have h1 := (Hq _ _).1 d
  by_cases g : qx a.lp b.lp = 0
  ·rw [aX (by simp [g])] at e
   have i := (Hq _ _).1 g
   cases e
   refine ⟨fun _ => ?_, fun _ => rfl⟩
   cases a; cases b; simp at h1 i; simp [h1, i]
  ·rw [aZ (by simp [g])] at e
   cases e
   exact ⟨fun k => absurd k g, fun k => by rw [k] at g; exact absurd ((Hq _ _).2 rfl) g⟩
 ·rw [aZ (by simp [d])] at e
  cases e
  exact ⟨fun k => absurd k d, fun k => by rw [k] at d; exact absurd ((Hq _ _).2 rfl) d⟩
theorem Ox (a b : lF) : ∃ c, rq a b = some c ∧ (c < 0 ↔ zZ a b = true) := by
 unfold rq
 obtain ⟨c, e, h1, i⟩ := N8 a.lg b.lg
 rw [e]
 simp only [qS, oO, aA, vN, tQ, pE]
 by_cases g : c = 0
 ·rw [aX (by simp [g])]
  have l := i.1 g
  have d : ¬ Aa a.lg b.lg = true := fun j => by have := h1.2 j; omega
  by_cases h : qx a.lM b.lM = 0
  ·rw [aX (by simp [h])]
   refine ⟨0, rfl, ?_⟩
   rw [Bu]
   simp [d, (Hq _ _).1 h, uq]
  ·rw [aZ (by simp [h])]
   refine ⟨_, rfl, ?_⟩
   rw [Bu, SC]
   exact ⟨fun k => .inr ⟨l, k⟩, fun k => k.elim (fun k => absurd k d) (·.2)⟩
 ·rw [aZ (by simp [g])]
  refine ⟨c, rfl, ?_⟩
  rw [Bu, h1]
  have : a.lg ≠ b.lg := fun k => g (i.2 k)
  simp [this]
theorem LQ {α : Type} {eq : α → α → Bool} (he : ∀ x y, eq x y = true ↔ x = y) : ∀ (l : List α) (p : α), (p :: l).Nodup → qz eq p l = l
 | [], p, _ => rfl
 | y :: l, p, h => by
  have h1 := dH.1 h
  rw [qz, aX (fun e => h1.1 (by rw [← (he _ _).1 e]; simp)), LQ he l y h1.2]
theorem S0 {α : Type} {eq : α → α → Bool} (he : ∀ x y, eq x y = true ↔ x = y) : ∀ l : List α, l.Nodup → dd eq l = l
 | [], _ => rfl
 | x :: l, h => by rw [dd, LQ he l x h]
def BC (P : lF → Prop) (s : List lF) : Prop := s.Pairwise (fun a b => zZ a b = true) ∧ ∀ f, f ∈ s ↔ P f
theorem BC.unique {P : lF → Prop} {s t : List lF} (h : BC P s) (k : BC P t) : s = t :=
 vK.unique (l := s) Hp ⟨h.1, fun x => ⟨fun a => ⟨a, rfl⟩, fun a => a.1⟩⟩ ⟨k.1, fun x => by rw [k.2, h.2]; exact ⟨fun a => ⟨a, rfl⟩, fun a => a.1⟩⟩
theorem G5 {l : List lF} (d : l.Nodup) (j : l.length ≤ 1000000000000) : ∃ s, yL (fun (x : lF × lF) => rq x.1 x.2) l = some s ∧ BC (fun f => f ∈ l) s := by
 obtain ⟨s, h1, i, c⟩ := CO (eq := Bx) (lt := fun a b => zZ a b = true) (P := fun x => DW x = true) (cf := fun (x : lF × lF) => rq x.1 x.2) (l := l) (fun x y => AA) Hp (fun _ _ => rfl) (by omega) (fun x y _ _ => Ox x y)
 have g : s.Nodup := by
  have := (Hz h1).2
  rw [this]
  unfold uF
  exact (jr l _).nodup_iff.2 d
 rw [S0 (fun x y => AA) s g] at c
 exact ⟨s, h1, c.1, fun f => by rw [c.2]; exact ⟨fun h => h.1, fun h => ⟨h, rfl⟩⟩⟩
theorem QS (T : ql) : (mm T).flatMap (fun p => p.2.map (fun q => (fun (a : lg) (b : ByteArray) => (⟨a, b⟩ : lF)) p.1 q.1)) = FS T := by
 unfold mm FS tt
 rw [List.flatMap_map]
 congr 1
 funext p
 simp [gW]
theorem O8 {C : List lf} (i : si C) {T : ql} {l : List (lg × List lf)} {ws : List (ByteArray × List lf)} {n : Int} (h : MS C T l ws n) (cs : List lf) (u : List (lg × List lf)) (w : List (ByteArray × List lf)) (k : List lF) (z : Int) :
  ∃ s, xk (mm T) cs u w k z = some s ∧ BC (qa C) s := by
 have j := i.sq
 have hlen := h.Ep.len
 obtain ⟨s, q, g⟩ := G5 h.Ep.nd (by omega)
 have d : BC (qa C) s := ⟨g.1, fun f => (g.2 f).trans (h.all f)⟩
 refine ⟨s, ?_, d⟩
 unfold xk NZ
 rw [QS]
 rw [aZ ⟨by omega, by unfold maxLen; omega⟩]
 simp only [aA, pE]
 refine GO (fun o b => ?_)
 obtain ⟨r, c, a⟩ := G5 ((b.nodup_iff).2 h.Ep.nd) (by rw [b.length_eq]; omega)
 rw [c]
 congr 1
 exact BC.unique ⟨a.1, fun f => (a.2 f).trans (b.mem_iff.trans (h.all f))⟩ d
theorem Po (r : lg) (w : ByteArray) : ∀ l : List lF, ∃ b, yE r w l = some b ∧ (b = true ↔ (⟨r, w⟩ : lF) ∈ l)
 | [] => ⟨false, rfl, by simp⟩
 | x :: l => by
  rw [yE]
  simp only [D0, aA]
  obtain ⟨b, e, d⟩ := Po r w l
  by_cases h : (lQ x.lg r && mK x.lM w) = true
  ·rw [aZ h]
   have a : x = ⟨r, w⟩ := by
    rw [bA, lO, nD] at h
    cases x; simp at h; simp [h]
   exact ⟨true, rfl, by simp [a]⟩
  ·rw [aX h]
   refine ⟨b, e, ?_⟩
   rw [d, aM]
   refine ⟨.inr, fun c => c.resolve_left (fun e => h ?_)⟩
   rw [← e]; simp [we, wk]
theorem Ac (l : List lF) (r : lg) (w : ByteArray) : ∃ b, wG l r w = some b ∧ (b = true ↔ (⟨r, w⟩ : lF) ∈ l) := Po r w l
def xU (l : List lF) (c : lf) (names : List ByteArray) (w : ByteArray) : Prop :=
 (c.Kind = 1 ∧ c.lM = w) ∨ (c.Kind = 2 ∧ (⟨c.B, w⟩ : lF) ∈ l) ∨ (c.Kind = 4 ∧ (⟨c.B, w⟩ : lF) ∈ l ∧ (⟨c.C, w⟩ : lF) ∈ l) ∨
 (c.Kind ≠ 1 ∧ c.Kind ≠ 2 ∧ c.Kind ≠ 4 ∧ ∃ b ∈ names, (⟨c.B, b⟩ : lF) ∈ l ∧ (⟨⟨b, c.lN⟩, w⟩ : lF) ∈ l)
theorem GU (l : List lF) (c : lf) (w : ByteArray) : ∀ names : List ByteArray, ∃ b, xp l c w names = some b ∧ (b = true ↔ ∃ b ∈ names, (⟨c.B, b⟩ : lF) ∈ l ∧ (⟨⟨b, c.lN⟩, w⟩ : lF) ∈ l)
 | [] => ⟨false, rfl, by simp⟩
 | x :: names => by
  rw [xp]
  obtain ⟨g, j, h1⟩ := Ac l c.B x
  obtain ⟨i, k, d⟩ := Ac l ⟨x, c.lN⟩ w
  obtain ⟨b, e, n⟩ := GU l c w names
  rw [j, k, e]
  simp only [aA, D0]
  by_cases h : (g && i) = true
  ·rw [aZ h]
   rw [bA, h1, d] at h
   exact ⟨true, rfl, by simp [h]⟩
  ·rw [aX h]
   rw [bA, h1, d] at h
   refine ⟨b, rfl, ?_⟩
   rw [n]
   constructor
   ·rintro ⟨y, a, q⟩; exact ⟨y, by simp [a], q⟩
   ·rintro ⟨y, a, q⟩
    rcases aM.1 a with rfl | a
    ·exact absurd q h
    ·exact ⟨y, a, q⟩
theorem P6 (l : List lF) (c : lf) (names : List ByteArray) (w : ByteArray) : ∃ b, BU l c names w = some b ∧ (b = true ↔ xU l c names w) := by
 unfold BU xU
 simp only [pE]
 by_cases h1 : c.Kind = 1
 ·rw [aZ (by simp [h1])]; exact ⟨_, rfl, by simp [h1, nD]⟩
 rw [aX (by simp [h1])]
 by_cases a : c.Kind = 2
 ·rw [aZ (by simp [a])]
  obtain ⟨b, e, g⟩ := Ac l c.B w
  exact ⟨b, e, by simp [a, g]⟩
 rw [aX (by simp [a])]
 by_cases d : c.Kind = 4
 ·rw [aZ (by simp [d])]
  obtain ⟨n, j, h⟩ := Ac l c.B w
  obtain ⟨o, k, i⟩ := Ac l c.C w
  rw [j, k]
  simp only [aA, D0]
  exact ⟨_, rfl, by simp [d, h, i]⟩
 rw [aX (by simp [d])]
 obtain ⟨b, e, g⟩ := GU l c w names
 exact ⟨b, e, by rw [g]; simp [h1, a, d]⟩
theorem xU.ym {C : List lf} {l : List lF} (a : ∀ f ∈ l, qa C f) {c : lf} (d : c ∈ C) (hk : c.Kind = 1 ∨ c.Kind = 2 ∨ c.Kind = 3 ∨ c.Kind = 4) {names : List ByteArray} {w : ByteArray} (h : xU l c names w) : qa C ⟨c.Head, w⟩ := by
 rcases h with ⟨k, rfl⟩ | ⟨k, h⟩ | ⟨k, h1, g⟩ | ⟨i, k2, j, b, _, h1, g⟩
 ·exact .mem c d k
 ·exact .inc c w d k (a _ h)
 ·exact .both c w d k (a _ h1) (a _ g)
 ·exact .G0 c b w d (by omega) (a _ h1) (a _ g)
theorem MO {c : lf} (h : mP c = true) : c.Kind = 1 ∨ c.Kind = 2 ∨ c.Kind = 3 ∨ c.Kind = 4 := by rcases pp h with h | h | h | h <;> simp [h.1]
structure EH (C : List lf) (out : List lF) : Prop where
 nd : out.Nodup
 ym : ∀ f ∈ out, qa C f
theorem EH.len {C : List lf} {out : List lF} (h : EH C out) : out.length ≤ C.length * C.length := by
 rw [← DT]; exact nK h.nd (fun f a => (h.ym f a).FY)
theorem GC {C : List lf} (t : si C) (u : tH C) {c : lf} (n : c ∈ C) (names : List ByteArray) : ∀ (l : List ByteArray) (out : List lF) (i : Bool), EH C out →
  ∃ g d, xb c names l out i = some (g, d) ∧ EH C g ∧ (d = true → i = true ∨ out.length < g.length) ∧ (d = false → i = false ∧ g = out ∧ ∀ w ∈ l, xU out c names w → (⟨c.Head, w⟩ : lF) ∈ out) ∧ out.length ≤ g.length
 | [], out, i, h => ⟨out, i, rfl, h, .inl, fun h => ⟨h, rfl, fun _ hw => by cases hw⟩, aT _⟩
 | w :: l, out, i, h => by
  rw [xb]
  obtain ⟨z, F, h1⟩ := Ac out c.Head w
  obtain ⟨E, G, A⟩ := P6 out c names w
  rw [F, G]
  simp only [aA, D0]
  by_cases j : (!z && E) = true
  ·rw [aZ j]
   rw [bA] at j
   have x : (⟨c.Head, w⟩ : lF) ∉ out := fun J => by have := h1.2 J; rw [this] at j; exact absurd j.1 (by decide)
   have M := h.len
   have L := t.sq
   rw [ob (by simp; omega) (by simp; omega)]
   simp only [aA]
   have I : EH C (out ++ [⟨c.Head, w⟩]) := ⟨bW.2 ⟨h.nd, by simp, fun a ha b j e => by simp at j; subst j; subst e; exact x ha⟩, fun f k => by
    rcases aR.1 k with k | k
    ·exact h.ym f k
    ·simp at k; subst k; exact (A.1 j.2).ym h.ym n (MO (u c n))⟩
   obtain ⟨g, d, e, o, a2, a3, a4⟩ := GC t u n names l _ true I
   simp at a4
   exact ⟨g, d, e, o, fun _ => .inr (by omega), fun k => (by cases (a3 k).1), by omega⟩
  ·rw [aX j]
   obtain ⟨g, d, e, o, a2, a3, a4⟩ := GC t u n names l out i h
   refine ⟨g, d, e, o, a2, fun k => ?_, a4⟩
   obtain ⟨q, r, s⟩ := a3 k
   refine ⟨q, r, fun v y D => ?_⟩
   rcases aM.1 y with rfl | y
   ·refine fX fun x => j ?_
    rw [bA, A.2 D]
    cases z with
    | false => exact ⟨rfl, rfl⟩
    | true => exact absurd (h1.1 rfl) x
   ·exact s v y D
theorem Jt {C : List lf} (n : si C) (o : tH C) (names : List ByteArray) : ∀ (l : List lf) (out : List lF) (a : Bool), (∀ c ∈ l, c ∈ C) → EH C out →
  ∃ b g, yN names l out a = some (b, g) ∧ EH C b ∧ (g = true → a = true ∨ out.length < b.length) ∧ (g = false → a = false ∧ b = out ∧ ∀ c ∈ l, ∀ w ∈ names, xU out c names w → (⟨c.Head, w⟩ : lF) ∈ out) ∧ out.length ≤ b.length
 | [], out, a, _, h => ⟨out, a, rfl, h, .inl, fun h => ⟨h, rfl, fun _ hw => by cases hw⟩, aT _⟩
 | c :: l, out, a, q, h => by
  rw [yN]
  obtain ⟨y, c1, v, r, a2, a3, a4⟩ := GC n o (q c (by simp)) names names out a h
  rw [v]
  simp only [aA]
  obtain ⟨z, c2, x, s, t, u, J⟩ := Jt n o names l y c1 (fun d i => q d (by simp [i])) r
  refine ⟨z, c2, x, s, fun j => ?_, fun j => ?_, by omega⟩
  ·rcases t j with h1 | h1
   ·rcases a2 h1 with k | k
    ·exact .inl k
    ·exact .inr (by omega)
   ·exact .inr (by omega)
  ·obtain ⟨A, D, E⟩ := u j
   obtain ⟨F, G, I⟩ := a3 A
   subst G
   refine ⟨F, D, fun d i => ?_⟩
   rcases aM.1 i with rfl | i
   ·exact I
   ·exact E d i
def zF : lF := ⟨⟨zS, zS⟩, zS⟩
theorem Jr (a b : lF) : vM a b = some (zZ a b) := by
 unfold vM zZ
 simp only [Cf, aA, D0, RQ]
def Q8 (a : List lF) (b : Int) (p : Bool × lF) : Prop := (p.1 = false ∧ b = -1) ∨ (p.1 = true ∧ 0 ≤ b ∧ mZ a b = some p.2)
theorem Cg (out a : List lF) (g : out.length < 4611686018427387904) : ∀ (rest A : List lF) (b : Int) (p : Bool × lF), a = A ++ rest → Q8 a b p →
  ∃ c, qT out a rest A.length b = some c ∧ Q8 a c (sK DW zZ out.getLast? rest p.1 p.2)
 | [], A, b, p, ha, i => ⟨b, rfl, i⟩
 | x :: rest, A, b, p, ha, i => by
  rw [qT, sK]
  simp only [DW, gE]
  have h1 : ((if ((out.length : Int) == 0) = true then some true else (mZ out (wi0 .i64 ((out.length : Int) - 1))).bind fun y => (vM y x).bind fun r => some r) : Option Bool) = some (out.getLast?.all fun y => zZ y x) := by
   rcases dS out with h | ⟨B, z, h⟩
   ·subst h; rfl
   ·subst h
    rw [aX (by simp; omega)]
    rw [fG] at g ⊢
    rw [GF B z (by simp at g; omega)]
    simp [Jr]
  have n : ((if decide (b < 0) = true then some true else (mZ a b).bind fun y => (vM x y).bind fun r => some r) : Option Bool) = some (!p.1 || zZ x p.2) := by
   rcases i with ⟨j, k⟩ | ⟨j, k, l⟩
   ·rw [aZ (by simp [k]), j]; rfl
   ·rw [aX (by simpa using k), l, j]
    simp [Jr]
  rw [h1]
  simp only [aA]
  rw [n]
  simp only [aA, D0]
  have o : mZ a (A.length : Int) = some x := by rw [ha]; exact oy A x rest _ rfl
  by_cases d : ((out.getLast?.all fun y => zZ y x) && (!p.1 || zZ x p.2)) = true
  ·rw [aZ d, aZ d]
   have := Cg out a g rest (A ++ [x]) (A.length : Int) (true, x) (by rw [ha]; simp) (.inr ⟨rfl, by simp, o⟩)
   simpa using this
  ·rw [aX d, aX d]
   have := Cg out a g rest (A ++ [x]) b p (by rw [ha]; simp) i
   simpa using this
theorem FN {out a : List lF} (d : out.length < 4611686018427387904) (h : (sK DW zZ out.getLast? a false zF).1 = false) : ∀ FX : List lF, qQ a FX out = some out
 | [] => rfl
 | x :: FX => by
  rw [qQ]
  obtain ⟨b, e, i⟩ := Cg out a d a [] (-1) (false, zF) rfl (.inl ⟨rfl, rfl⟩)
  rw [show qT out a a 0 (-1) = some b from e]
  simp only [aA]
  rcases i with ⟨_, g⟩ | ⟨c, _⟩
  ·rw [aX (by simp [g])]; exact FN d h FX
  ·rw [h] at c; cases c
theorem Il (a : List lF) : ∀ (FX : List lF) (out s : List lF), AW 48 DW zZ zF a (FX.length + 1) out = some s → s.length < 4611686018427387904 → qQ a FX out = some s ∧ out.length ≤ s.length
 | [], out, s, h, i => by
  rw [AW] at h
  cases hp : (sK DW zZ out.getLast? a false zF).1 with
  | false =>
   rw [hp] at h
   simp only [fE, aS] at h
   cases h
   exact ⟨rfl, aT _⟩
  | true =>
   rw [hp] at h
   simp only [bU, aB, aK] at h
   obtain ⟨o, c, h⟩ := bind_some h
   replace h : AW 48 DW zZ zF a 0 o = some s := h
   rw [AW] at h
   cases h
 | x :: FX, out, s, h, i => by
  rw [AW] at h
  cases hp : (sK DW zZ out.getLast? a false zF).1 with
  | false =>
   rw [hp] at h
   simp only [fE, aS] at h
   cases h
   exact ⟨FN i hp _, aT _⟩
  | true =>
   rw [hp] at h
   simp only [bU, aB, aK] at h
   obtain ⟨o, c, h⟩ := bind_some h
   have g := c
   unfold ol at c
   split at c
   case isFalse => cases c
   cases c
   obtain ⟨n, k2⟩ := Il a FX _ s h i
   simp at k2
   rw [qQ]
   obtain ⟨b, e, l⟩ := Cg out a (by omega) a [] (-1) (false, zF) rfl (.inl ⟨rfl, rfl⟩)
   rw [show qT out a a 0 (-1) = some b from e]
   simp only [aA]
   rcases l with ⟨d, _⟩ | ⟨d, j, k⟩
   ·rw [hp] at d; cases d
   ·rw [aZ (by simpa using j), k]
    simp only [aA]
    rw [g]
    exact ⟨n, by omega⟩
theorem N5 (l : List lF) (c : l.length ≤ 1000000000) : ∃ s, Dl l = some s ∧ BC (fun f => f ∈ l) s := by
 obtain ⟨s, h1, a⟩ := Cl Hp (w := 48) (by omega) zF l c (l.length + 1) [] (by simp) (by simp) (fun x b => by cases b) (fun x _ _ => .inr rfl)
 have hlen : s.length ≤ l.length := nK (vA Hp (fun _ _ => rfl) a.1) (fun x b => ((a.2 x).1 b).1)
 exact ⟨s, (Il l l [] s h1 (by omega)).1, a.1, fun f => by rw [a.2]; exact ⟨fun h => h.1, fun h => ⟨h, rfl⟩⟩⟩
theorem Ko : ∀ (l : List lf) (acc : List ByteArray), acc.length + 4 * l.length ≤ 1000000000 → uQ l acc = CB (acc ++ l.flatMap fun c => [c.lM, c.Head.lh, c.B.lh, c.C.lh])
 | [], acc, _ => by rw [uQ]; simp [pE]
 | c :: l, acc, h => by
  rw [uQ]
  simp only [aI] at h
  rw [ob (by simp; omega) (by simp; omega)]
  simp only [aA]
  rw [Ko l _ (by simp; omega)]
  simp
def SM (C : List lf) : Prop := C.length ≤ 30000
theorem SM.small {C : List lf} (h : SM C) : si C := by unfold SM at h; unfold si; omega
theorem SM.sq {C : List lf} (h : SM C) : C.length * C.length ≤ 900000000 := Nat.mul_le_mul h h
theorem Ou {C : List lf} (b : SM C) (g : tH C) : ∃ names, AX C = some names ∧ ∀ c ∈ C, c.Kind = 1 → c.lM ∈ names := by
 have d : C.length ≤ 30000 := b
 unfold AX
 rw [Ko C [] (by simp; omega)]
 obtain ⟨s, e, i⟩ := P3 ([] ++ C.flatMap fun c => [c.lM, c.Head.lh, c.B.lh, c.C.lh]) (by
  have : ∀ l : List lf, (l.flatMap fun c => [c.lM, c.Head.lh, c.B.lh, c.C.lh]).length = 4 * l.length := fun l => by
   induction l with
   | nil => rfl
   | cons x l ih => simp [ih]; omega
  rw [bN, this]; omega)
 refine ⟨s, e, fun c a hk => (i.2 _).2 ⟨?_, ?_⟩⟩
 ·rw [bN]; exact kK.2 ⟨c, a, by simp⟩
 ·rcases pp (g c a) with h | h | h | h
  ·exact h.2.1
  ·exact absurd (hk.symm.trans h.1) (by decide)
  ·exact absurd (hk.symm.trans h.1) (by decide)
  ·exact absurd (hk.symm.trans h.1) (by decide)
theorem L4 {C : List lf} (o : tH C) {names : List ByteArray} (l : ∀ c ∈ C, c.Kind = 1 → c.lM ∈ names) {out : List lF} (h : ∀ c ∈ C, ∀ w ∈ names, xU out c names w → (⟨c.Head, w⟩ : lF) ∈ out) {f : lF} (k : qa C f) : f ∈ out := by
 have hw : ∀ f, qa C f → f.lM ∈ names := fun f k => by
  obtain ⟨c, a, hk, e⟩ := k.KW
  rw [← e]; exact l c a hk
 induction k with
 | mem c a hk => exact h c a _ (l c a hk) (.inl ⟨hk, rfl⟩)
 | inc c w a hk n ih => exact h c a w (hw _ n) (.inr (.inl ⟨hk, ih⟩))
 | G0 c b w a hk d j g i => exact h c a w (hw _ j) (.inr (.inr (.inr ⟨by omega, by omega, by omega, b, hw _ d, g, i⟩)))
 | both c w a hk d j g i => exact h c a w (hw _ d) (.inr (.inr (.inl ⟨hk, g, i⟩)))
theorem JY {C : List lf} (a : SM C) (b : tH C) {names : List ByteArray} (g : ∀ c ∈ C, c.Kind = 1 → c.lM ∈ names) : ∀ (m : Nat) (out : List lF), EH C out → C.length * C.length < m + out.length →
  ∃ s, yH names C m out = some s ∧ BC (qa C) s
 | 0, out, h, hm => by have := h.len; omega
 | m + 1, out, h, hm => by
  rw [yH]
  obtain ⟨o, c, e, i, a2, a3, a4⟩ := Jt a.small b names C out false (fun _ h => h) h
  rw [e]
  simp only [aA, pE]
  cases c with
  | false =>
   simp only [fE, aS]
   obtain ⟨_, j, k⟩ := a3 rfl
   subst j
   have q := h.len
   have n := a.sq
   obtain ⟨s, l, d⟩ := N5 o (by omega)
   exact ⟨s, l, d.1, fun f => (d.2 f).trans ⟨h.ym f, L4 b g k⟩⟩
  | true =>
   simp only [bU, aB, aK]
   rcases a2 rfl with h1 | h1
   ·cases h1
   ·exact JY a b g m o i (by omega)
theorem QA (l : List lf) (q : l.length ≤ 30000) : ∃ C s, Bm l = some s ∧ BC (qa C) s ∧ ∀ c, c ∈ C ↔ c ∈ l ∧ mP c = true := by
 unfold Bm
 obtain ⟨C, e, b⟩ := QC l (by omega)
 have hlen := vR Az b
 have a : SM C := by unfold SM; omega
 have d : tH C := fun c j => ((b.2 c).1 j).2
 obtain ⟨names, g, n⟩ := Ou a d
 rw [e]
 simp only [aA]
 rw [g]
 simp only [aA]
 have o := a.sq
 obtain ⟨s, h, i⟩ := JY a d n mq [] ⟨by simp, fun f k => by cases k⟩ (by rw [wh]; simp; omega)
 exact ⟨C, s, h, i, b.2⟩
theorem PT {P : lF → Prop} {s t : List lF} (h : BC P s) (b : ∀ f, P f → f ∈ t) : s.length ≤ t.length := nK (vA Hp (fun _ _ => rfl) h.1) (fun f a => b f ((h.2 f).1 a))
theorem Qs {C : List lf} {s : List lF} (h : BC (qa C) s) (a : SM C) : s.length ≤ 900000000 := by
 have := PT h (t := FY C) (fun f b => b.FY)
 rw [DT] at this
 have := a.sq
 omega
theorem NE {C : List lf} {T : ql} {c : List (lg × List lf)} {ws : List (ByteArray × List lf)} {n : Int} (h : MS C T c ws n) (cs : List lf) (u : List (lg × List lf)) (w : List (ByteArray × List lf)) (a : List lF) (z : Int) (r : lg) (KW : ByteArray) :
  ∃ b, tb (mm T) cs u w a z r KW = some b ∧ (b = true ↔ qa C ⟨r, KW⟩) :=
 ⟨_, rfl, by rw [uo h.Ep.keys, h.all]⟩
def qA : lg := ⟨⟨#[97]⟩, ⟨#[114]⟩⟩
def qB : lg := ⟨⟨#[98]⟩, ⟨#[115]⟩⟩
def qd : ByteArray := ⟨#[100]⟩
def j1 : lf := ⟨2, qA, zS, qB, ⟨zS, zS⟩, zS⟩
def j2 : lf := ⟨1, qB, qd, ⟨zS, zS⟩, ⟨zS, zS⟩, zS⟩
theorem OJ (n : Nat) (a : n ≤ 1000000000) : tu (n : Int) = some [] := by
 unfold tu
 rw [aX (by simp), mr (x := 0 - 0) (by omega) (by omega), show (n : Int) - (0 - 0) = n by omega, mr (x := (n : Int)) (by omega) (by omega)]
 by_cases h : 0 < n
 ·rw [aZ (by simpa using h)]
  unfold HF
  rw [aZ ⟨by omega, by omega, by unfold maxLen; omega⟩]
  simp [rO]
 ·rw [aX (by simpa using h)]; rfl
theorem Ip (a b : List lf) (h : a.length + b.length ≤ 1000000000) : qI [a, b] = some (a ++ b) := by
 unfold qI
 rw [pJ, mr (by omega) (by omega), aX (by simp), pJ, mr (by omega) (by omega), aX (by simp; omega), pJ]
 rw [show (0 : Int) + (a.length : Int) + (b.length : Int) = ((a.length + b.length : Nat) : Int) by omega, OJ _ h]
 simp only [aA]
 rw [pG, ob (by simp; omega) (by simp; omega)]
 simp only [aA, bN]
 rw [pG, ob (by omega) (by omega)]
 simp only [aA]
 rw [pG]
 rfl
theorem Mr {a b : lg} (h : a ≠ b) : lQ a b = false := by
 cases c : lQ a b with
 | false => rfl
 | true => exact absurd (lO.1 c) h
theorem xU.own {l : List lF} {c : lf} {names : List ByteArray} {w : ByteArray} (h : xU l c names w) : xU l c (l.map (·.lM)) w := by
 rcases h with h | h | h | ⟨d, g, i, b, _, a, j⟩
 ·exact .inl h
 ·exact .inr (.inl h)
 ·exact .inr (.inr (.inl h))
 ·exact .inr (.inr (.inr ⟨d, g, i, b, bD.2 ⟨_, a, rfl⟩, a, j⟩))
theorem xU.subset {a b : List lF} {c : lf} {names : List ByteArray} {w : ByteArray} (h : xU a c names w) (d : ∀ f ∈ a, f ∈ b) : xU b c names w := by
 rcases h with h | h | h | ⟨i, j, k, g, l, n, o⟩
 ·exact .inl h
 ·exact .inr (.inl ⟨h.1, d _ h.2⟩)
 ·exact .inr (.inr (.inl ⟨h.1, d _ h.2.1, d _ h.2.2⟩))
 ·exact .inr (.inr (.inr ⟨i, j, k, g, l, d _ n, d _ o⟩))
def tot {α : Type} (a : List (List α)) : Nat := (a.map List.length).sum
def up (w : ByteArray) (g : ByteArray → Nat) : ByteArray → Nat := fun x => if mK w x = true then g x + 1 else g x
instance decRole : DecidableEq lg := fun a b => decidable_of_iff (lQ a b = true) lO
theorem It (b : List lg) : ∀ (l m A : List lg), A ++ m = b → l.length = m.length → xn b l A.length = some (decide (l = m)) ∧ pZ b l A.length = some (decide (l = m))
 | [], [], A, _, _ => ⟨by rw [xn]; rfl, by rw [pZ]; rfl⟩
 | x :: l, y :: m, A, h, d => by
  have e : mZ b (A.length : Int) = some y := by rw [← h]; exact oy A y m _ rfl
  obtain ⟨c, a2⟩ := It b l m (A ++ [y]) (by simpa using h) (by simpa using d)
  rw [aD] at c a2
  rw [xn, pZ, e]
  simp only [aA]
  by_cases a : x = y
  ·subst a
   rw [we]
   simp only [bU, aB, aK]
   exact ⟨by rw [show A.length + 1 = A.length + [x].length from rfl, c]; simp, by rw [show A.length + 1 = A.length + [x].length from rfl, a2]; simp⟩
  ·rw [Mr a]
   simp [a]
theorem Mz (a b : List lg) : qZ a b = some (decide (a = b)) := by
 unfold qZ
 by_cases h : a.length = b.length
 ·rw [aX (by simp [h])]
  exact (It b a b [] rfl h).2
 ·rw [aZ (by simp; omega)]
  simp; intro e; exact h (by rw [e])
structure Rx (l : List lf) (F : List lF) : Prop where
 len : l.length ≤ 30000
 C : ∃ C : List lf, BC (qa C) F ∧ (∀ c, c ∈ C ↔ c ∈ l ∧ mP c = true) ∧ SM C
 ref : Bm l = some F
theorem RD (l : List lf) (g : l.length ≤ 30000) : ∃ F, Rx l F := by
 obtain ⟨C, F, e, h1, h⟩ := QA l g
 obtain ⟨C1, T, j, ws, n, i, m1, a, d⟩ := Mp l (by omega)
 have b : ∀ c, c ∈ C ↔ c ∈ C1 := fun c => by rw [h, a]
 exact ⟨F, g, ⟨C1, ⟨h1.1, fun f => (h1.2 f).trans (qa.congr b f)⟩, a, by unfold SM; omega⟩, e⟩
theorem Rx.TL {l : List lf} {F : List lF} (h : Rx l F) : F.length ≤ 900000000 := by
 obtain ⟨C, h1, b, a⟩ := h.C
 exact Qs h1 a
def B8 (l : List Int) : Prop := ∀ x ∈ l, 0 ≤ x ∧ x < 256
theorem B8.RX {a b : List Int} (ha : B8 a) (c : B8 b) : B8 (a ++ b) := fun x d => (aR.1 d).elim (ha x) (c x)
theorem PW {a b : List Int} (ha : B8 a) (c : B8 b) : ux a = ux b ↔ a = b :=
 ⟨fun h => H4 ha c (by rw [← xG, ← xG, h]), fun h => by rw [h]⟩
theorem LX {l : List Int} (h : B8 l) : sP (ux l) = l := by
 unfold sP
 rw [xG]
 unfold wc
 rw [fB]
 conv => rhs; rw [← List.map_id l]
 apply iB
 intro x b
 have := h x b
 simp only [Function.comp, id]
 have a : x.toNat.toUInt8.toNat = x.toNat := by rw [Nat.toUInt8_eq, UInt8.toNat_ofNat']; omega
 rw [a]; omega
def J1 (h x : Int) : Int := IntKind.u64.wrap ((IntKind.u64.wrap (BitVec.ofInt (IntKind.bits .u64) h ^^^ BitVec.ofInt (IntKind.bits .u64) (IntKind.u64.wrap x)).toNat) * 1099511628211)
def JS (l : List Int) : Int := l.foldl J1 14695981039346656037
theorem P8 (n : Int) : 0 ≤ IntKind.u64.wrap n ∧ IntKind.u64.wrap n < 18446744073709551616 := by
 simp only [IntKind.wrap, IntKind.bits, IntKind.signed]; constructor
 ·simp; omega
 ·simp; omega
theorem JA (l : List Int) : 0 ≤ JS l ∧ JS l < 18446744073709551616 := by
 have : ∀ (l : List Int) (h : Int), (0 ≤ h ∧ h < 18446744073709551616) → 0 ≤ l.foldl J1 h ∧ l.foldl J1 h < 18446744073709551616 := by
  intro l
  induction l with
  | nil => intro h a; exact a
  | cons x l ih => intro h a; exact ih _ (P8 _)
 exact this l _ (by omega)
theorem Nf : ∀ (l : List Int) (h : Int), xI l h = some (l.foldl J1 h)
 | [], h => rfl
 | x :: l, h => by rw [xI, Nf l]; rfl
theorem Ny : ∀ (a : List (List Int)) (h : Int), xL a h = some (a.flatten.foldl J1 h)
 | [], h => rfl
 | l :: a, h => by rw [xL, Nf, aA, Ny a, bJ, List.foldl_append]
theorem Ru (a : List (List Int)) : ED a = some (JS a.flatten) := Ny a _
theorem II (s : ByteArray) (c : s.size ≤ 10000000) : ∀ (B A : List UInt8) (h : Int) (n : Nat), s.data.toList = A ++ B → B.length < n → vZ s n h (A.length : Int) = some ((B.map fun b => (b.toNat : Int)).foldl J1 h)
 | [], A, h, n + 1, e, _ => by
  have : s.size = A.length := by rw [uy, e]; simp
  rw [vZ, aX (by simp [this])]; rfl
 | b :: B, A, h, n + 1, e, a => by
  have d : s.size = A.length + (B.length + 1) := by rw [uy, e]; simp
  rw [vZ, aZ (by simp; omega), KU e _ rfl, aA, mr (by omega) (by omega)]
  have := II s c B (A ++ [b]) (J1 h (b.toNat : Int)) n (by rw [e]; simp) (by simp only [aI] at a; omega)
  simp only [aD, aI, bQ, gp] at this
  rw [bF, jl, ← this]
  rfl
theorem Q6 {l : List Int} (h : B8 l) (a : l.length ≤ 1000000) : CQ (ux l) = some (JS l) := by
 unfold CQ
 have := II (ux l) (by rw [B7]; omega) (ux l).data.toList [] 14695981039346656037 mq rfl (by rw [← uy, B7, wh]; omega)
 rw [show ((ux l).data.toList.map fun b => (b.toNat : Int)) = l from LX h] at this
 exact this
def NT (H : Int) : List Int := [H / 72057594037927936 % 256, H / 281474976710656 % 256, H / 1099511627776 % 256, H / 4294967296 % 256, H / 16777216 % 256, H / 65536 % 256, H / 256 % 256, H % 256]
theorem TO (H : Int) : B8 (NT H) := by
 intro x a
 simp only [NT, aM, cH, eY] at a
 rcases a with rfl | rfl | rfl | rfl | rfl | rfl | rfl | rfl <;> omega
theorem QL (H : Int) (hH : 0 ≤ H ∧ H < 18446744073709551616) : ((Dw 1 (0 : Int) 8).bind fun l => ud H l 0 l) = some (NT H) := by
 have b : Dw 1 (0 : Int) 8 = some [0, 0, 0, 0, 0, 0, 0, 0] := by unfold Dw; rw [aZ (by simp [maxLen])]; rfl
 rw [b, aA]
 have h : ∀ n : Nat, n ≤ 7 → wi0 .i64 (8 * wi0 .i64 (7 - (n : Int))) = 8 * (7 - (n : Int)) := fun n k => by
  rw [mr (x := 7 - (n : Int)) (by omega) (by omega), mr (by omega) (by omega)]
 have step : ∀ (x : Int) (xs l : List Int) (i : Nat) (d : Int), i ≤ 7 → l.length = 8 → IntKind.u8.wrap (Int.fdiv H (2 ^ min (Int.toNat (8 * (7 - (i : Int)))) (IntKind.bits .u64))) = d → ud H (x :: xs) i l = ud H xs (i + 1) (l.set i d) := by
  intro x xs l i d g j c
  rw [ud, h i g, c]
  have : rO (decide (0 ≤ 8 * (7 - (i : Int)))) = some () := by simp [rO]; omega
  rw [this, aA]
  have : mZ l (i : Int) = some l[i] := by unfold mZ; rw [aZ (by omega)]; simp
  rw [this, aA]
  rfl
 have a : ∀ n : Int, IntKind.u8.wrap n = n % 256 := fun n => by rw [IntKind.wrap_u8]
 have fd : ∀ m : Int, 0 < m → Int.fdiv H m = H / m := fun m hm => Int.fdiv_eq_ediv_of_nonneg _ (by omega)
 rw [step _ _ _ 0 (H / 72057594037927936 % 256) (by omega) rfl (by rw [a, fd _ (by decide)]; rfl)]
 rw [step _ _ _ 1 (H / 281474976710656 % 256) (by omega) rfl (by rw [a, fd _ (by decide)]; rfl)]
 rw [step _ _ _ 2 (H / 1099511627776 % 256) (by omega) rfl (by rw [a, fd _ (by decide)]; rfl)]
 rw [step _ _ _ 3 (H / 4294967296 % 256) (by omega) rfl (by rw [a, fd _ (by decide)]; rfl)]
 rw [step _ _ _ 4 (H / 16777216 % 256) (by omega) rfl (by rw [a, fd _ (by decide)]; rfl)]
 rw [step _ _ _ 5 (H / 65536 % 256) (by omega) rfl (by rw [a, fd _ (by decide)]; rfl)]
 rw [step _ _ _ 6 (H / 256 % 256) (by omega) rfl (by rw [a, fd _ (by decide)]; rfl)]
 rw [step _ _ _ 7 (H % 256) (by omega) rfl (by rw [a, fd _ (by decide)]; simp)]
 rfl
theorem Rs (H : Int) (hH : 0 ≤ H ∧ H < 18446744073709551616) : sn mq H zS 0 = some (ux (NT H)) := by
 have q : ∀ n : Int, 0 ≤ n → IntKind.u8.wrap (Int.tmod n 256) = n % 256 := fun n k => by
  rw [IntKind.wrap_u8, Int.tmod_eq_emod_of_nonneg k]; omega
 have step : ∀ (n : Nat) (x : Int) (l : List Int) (i : Nat), i < 8 → 0 ≤ x ∧ x < 18446744073709551616 → l.length ≤ 100 → sn (n + 1) x (ux l) (i : Int) = sn n (x / 256) (ux (x % 256 :: l)) ((i + 1 : Nat) : Int) := by
  intro n x l i r a s
  rw [sn, aZ (by simp; omega), q x a.1, Ah, tO _ _ (by simp; omega), aA, Int.tdiv_eq_ediv_of_nonneg a.1, IntWalk.u64_in _ (by omega), mr (by omega) (by omega)]
  rfl
 have o : zS = ux [] := AL rfl
 rw [wh, o]
 rw [show (18446744073709551616 : Nat) = 18446744073709551607 + 9 from rfl]
 rw [show (0 : Int) = ((0 : Nat) : Int) from rfl, step _ _ _ 0 (by omega) hH (by simp), step _ _ _ 1 (by omega) (by omega) (by simp), step _ _ _ 2 (by omega) (by omega) (by simp), step _ _ _ 3 (by omega) (by omega) (by simp), step _ _ _ 4 (by omega) (by omega) (by simp), step _ _ _ 5 (by omega) (by omega) (by simp), step _ _ _ 6 (by omega) (by omega) (by simp), step _ _ _ 7 (by omega) (by omega) (by simp)]
 rw [sn, aX (by simp)]
 have b : H / 256 / 256 = H / 65536 := by omega
 have c : H / 65536 / 256 = H / 16777216 := by omega
 have d : H / 16777216 / 256 = H / 4294967296 := by omega
 have g : H / 4294967296 / 256 = H / 1099511627776 := by omega
 have h : H / 1099511627776 / 256 = H / 281474976710656 := by omega
 have j : H / 281474976710656 / 256 = H / 72057594037927936 := by omega
 rw [b, c, d, g, h, j]
 rfl
def xm (k b : List Int) : List Int := NT (JS ((k.length : Int) :: (k ++ (b ++ k))))
theorem I9 (k b : List Int) : B8 (xm k b) := TO _
theorem Ib {k : List Int} (b : List Int) (h : 1 ≤ k.length ∧ k.length ≤ 32) : zL k b = some (xm k b) := by
 have a : tq k = some true := by
  unfold tq
  rw [gJ (show (k.length : Int) ≥ 1 by omega), gJ (show (k.length : Int) ≤ 32 by omega)]; rfl
 unfold zL
 rw [a]
 simp only [aA, bU, aB, aK]
 rw [Ru]
 simp only [aA]
 rw [QL _ (JA _), show IntKind.u8.wrap (k.length : Int) = (k.length : Int) from IntWalk.u8_in _ (by omega)]
 simp [xm]
theorem Qw {k b : List Int} (hk : B8 k) (c : B8 b) (h : 1 ≤ k.length ∧ k.length ≤ 32) (g : b.length ≤ 10000) : BF (ux k) (ux b) = some (ux (xm k b)) := by
 unfold BF
 rw [Ah, B7, show IntKind.u8.wrap (k.length : Int) = (k.length : Int) from IntWalk.u8_in _ (by omega), tO _ _ (by simp only [aI, bQ]; omega)]
 simp only [aA]
 rw [tO _ _ (by simp; omega)]
 simp only [aA]
 rw [tO _ _ (by simp; omega)]
 simp only [aA]
 have a : B8 ([(k.length : Int)] ++ k ++ b ++ k) := ((B8.RX (fun x d => by rw [bE] at d; omega) hk).RX c).RX hk
 rw [Q6 a (by simp; omega), aA, Rs _ (JA _)]
 simp [xm]
def wJ : List ByteArray → List Key → Int
 | _, [] => 0
 | seen, k :: l => if oa k.lM = false then 30 else if k.Key.length < 1 ∨ 32 < k.Key.length then 21 else if th mK seen k.lM = true then 41 else wJ (seen ++ [k.lM]) l
def rl (l : List Key) : List (ByteArray × List Int) := l.map fun k => (k.lM, k.Key)
def zJ (l : List Key) (o : ByteArray) : Option (List Int) := mL mK (rl l) o
theorem Pa (a b : List Key) : rl (a ++ b) = rl a ++ rl b := by simp [rl]
theorem OB (acc : List Key) (w : ByteArray) : (mL mK (rl acc) w).isSome = th mK (acc.map (·.lM)) w := by
 induction acc with
 | nil => rfl
 | cons k l ih =>
  rw [show rl (k :: l) = (k.lM, k.Key) :: rl l from rfl, ze]
  simp only [bF, th, List.any_cons] at ih ⊢
  cases h : mK w k.lM <;> simp [ih]
theorem Np {l : List Int} (h : l.length ≤ 1000000) : uf l = some l := by
 unfold uf
 rw [GK (by simpa using h)]; rfl
theorem TB (k : Key) : (if decide ((k.Key.length : Int) < 1) = true then some true else some (decide ((k.Key.length : Int) > 32)) : Option Bool) = some (decide (k.Key.length < 1 ∨ 32 < k.Key.length)) := by
 rw [Bool.decide_or]
 by_cases h : k.Key.length < 1
 ·rw [aZ (by simp; omega), gJ h, Bool.true_or]
 ·rw [aX (by simp; omega), decide_eq_false h, Bool.false_or]
  congr 1; apply decide_eq_decide.2; omega
theorem G3 : ∀ (l acc : List Key), ve l (rl acc) = some (if wJ (acc.map (·.lM)) l = 0 then (some (⟨rl (acc ++ l)⟩ : oe), 0) else (none, wJ (acc.map (·.lM)) l))
 | [], acc => by rw [ve]; simp [wJ]
 | k :: l, acc => by
  rw [ve, sE, aA]
  unfold wJ
  cases d : oa k.lM
  ·simp
  ·simp only [bU, aB, aK]
   rw [TB, aA]
   by_cases hk : k.Key.length < 1 ∨ 32 < k.Key.length
   ·simp only [hk, bZ, aS]
    rw [aX (by simp), aX (by decide)]
   ·simp only [hk, cD, aB, aK]
    rw [OB]
    cases a : th mK (acc.map (·.lM)) k.lM
    ·simp only [aB, aK]
     rw [Np (by omega), aA]
     have b : ∀ p ∈ rl acc, p.1 ≠ k.lM := by
      intro p hp e
      obtain ⟨q, c, rfl⟩ := bD.1 hp
      have := (xO nD (acc.map (·.lM)) k.lM).2 (bD.2 ⟨q, c, e⟩)
      rw [this] at a; cases a
     unfold D3
     rw [vT nD b, BA nD b]
     simp only [jD, aS, aA]
     have := G3 l (acc ++ [k])
     rw [Pa] at this
     rw [show rl acc ++ [(k.lM, k.Key)] = rl acc ++ rl [k] from rfl, this]
     simp
    ·simp
theorem KX (l : List Key) : zp l = some (if wJ [] l = 0 then (some (⟨rl l⟩ : oe), 0) else (none, wJ [] l)) := G3 l []
theorem LH : ∀ (l : List Key) (seen : List ByteArray), wJ seen l = 0 → ∀ k ∈ l, 1 ≤ k.Key.length ∧ k.Key.length ≤ 32
 | [], _, _, _, hk => by cases hk
 | x :: l, seen, h, k, hk => by
  unfold wJ at h
  split at h
  ·cases h
  split at h
  ·cases h
  split at h
  ·cases h
  rcases aM.1 hk with rfl | hk
  ·omega
  ·exact LH l _ h k hk
theorem Gr : ∀ (l : List Key) (o : ByteArray) (b : List Int), zJ l o = some b → ∃ k ∈ l, k.Key = b
 | [], o, b, h => by cases h
 | x :: l, o, b, h => by
  unfold zJ at h
  rw [show rl (x :: l) = (x.lM, x.Key) :: rl l from rfl, ze] at h
  split at h
  ·cases h; exact ⟨x, by simp, rfl⟩
  ·obtain ⟨k, hk, e⟩ := Gr l o b h
   exact ⟨k, by simp [hk], e⟩
theorem NV (x : Key) (l : List Key) (o : ByteArray) : zJ (x :: l) o = if mK x.lM o = true then some x.Key else zJ l o := by
 unfold zJ
 rw [show rl (x :: l) = (x.lM, x.Key) :: rl l from rfl, ze, EI]
def K8 (l : List Key) : Prop := ∀ k ∈ l, B8 k.Key
theorem Nu {c : lf} (h : mP c = true) : (oL c).length ≤ 200 := by
 unfold oL yP
 rw [aI, aD]
 have d := oC (AG h)
 have a : ∀ s, oa s = true → (wI s).length ≤ 17 := fun s b => by rw [tJ]; have := pd b; omega
 rcases pp h with g | g | g | g <;> simp only [g.1, aS, aK, Int.reduceEq]
 ·have := a c.lM (by simp_all); omega
 ·have : (rC c.B).length ≤ 34 := oC (by simp_all)
  omega
 ·have : (rC c.B).length ≤ 34 := oC (by simp_all)
  have := a c.lN (by simp_all)
  rw [aD]; omega
 ·have : (rC c.B).length ≤ 34 := oC (by simp_all)
  have : (rC c.C).length ≤ 34 := oC (by simp_all)
  rw [aD]; omega
theorem Sh (c : lf) (h : mP c = true) : tL c = some (oL c) := by rw [zw, aZ h]
theorem rB (c : lf) (h : mP c = true) : wR c = some (ux (oL c)) := by
 have := yW c
 unfold wS at this
 rw [wF, h] at this
 simp only [aA, bU, aB, aK, aS] at this
 rw [← this]; cases wR c <;> rfl
structure Mk (ks : List Key) (c : lf) (k : List Int) : Prop where
 ok : wJ [] ks = 0
 rt : mP c = true
 lk : zJ ks c.Head.lh = some k
theorem Mk.len {a : List Key} {c : lf} {k : List Int} (h : Mk a c k) : 1 ≤ k.length ∧ k.length ≤ 32 := by
 obtain ⟨q, b, rfl⟩ := Gr _ _ _ h.lk
 exact LH a [] h.ok q b
theorem Mk.b8 {a : List Key} {c : lf} {k : List Int} (h : Mk a c k) (hk : K8 a) : B8 k := by
 obtain ⟨q, b, rfl⟩ := Gr _ _ _ h.lk
 exact hk q b
theorem Mk.unique {a : List Key} {c : lf} {k k' : List Int} (h : Mk a c k) (b : Mk a c k') : k = k' := by
 have := h.lk; rw [b.lk] at this; cases this; rfl
theorem O1 {a b : List Int} (ha : B8 a) (c : B8 b) : mK (xf a) (xf b) = decide (a = b) := by
 rw [cU, nD, Ah, Ah, PW ha c]; simp
def Sk (a : List Key) (s : Signed) : Prop := ∃ k, Mk a s.lf k ∧ s.Tag = xm k (oL s.lf)
theorem Sy (a : List Key) (c : lf) : tG (some ⟨rl a⟩) c = some (if mP c = true then (match zJ a c.Head.lh with | some k => (k, (0 : Int)) | none => ([], 21)) else ([], 11)) := by
 unfold tG
 rw [aX (by simp), vq]
 simp only [aA]
 cases b : mP c
 ·rfl
 simp only [bU, aB, aK, aS]
 unfold zJ
 cases mL mK (rl a) c.Head.lh <;> rfl
theorem LB (c : lf) : ∀ l : List Key, xR c l = some (match zJ l c.Head.lh with | some k => (ux k, 0) | none => (zS, 21))
 | [] => rfl
 | x :: l => by
  rw [xR, NV, LB c l, Ah]
  split <;> rfl
theorem LL (a : List Key) (g : wJ [] a = 0) (c : lf) : ∃ r, pO (some ⟨rl a⟩) c = some r ∧ ((r.2 ≠ 0 ∧ ∀ k, ¬ Mk a c k) ∨ (r.2 = 0 ∧ ∃ k, Mk a c k ∧ r.1 = ⟨c, xm k (oL c)⟩)) := by
 unfold pO
 rw [Sy]
 simp only [aA]
 cases b : mP c
 ·exact ⟨_, rfl, .inl ⟨by simp, fun k h => by have := h.rt; rw [b] at this; cases this⟩⟩
 simp only [aS]
 cases d : zJ a c.Head.lh with
 | none => exact ⟨_, rfl, .inl ⟨by decide, fun k h => by have := h.lk; rw [d] at this; cases this⟩⟩
 | some k =>
  have hm : Mk a c k := ⟨g, b, d⟩
  simp only [Sh c b, aA, Ib _ hm.len]
  exact ⟨_, rfl, .inr ⟨rfl, k, hm, rfl⟩⟩
theorem O7 (a : List Key) (hk : K8 a) (i : wJ [] a = 0) (s : Signed) (d : B8 s.Tag) : ∃ e, qo (some ⟨rl a⟩) s = some e ∧ D7 a s = some e ∧ (e = 0 ↔ Sk a s) := by
 unfold qo D7 F0
 rw [Sy, wF, LB]
 simp only [aA]
 cases b : mP s.lf
 ·exact ⟨11, rfl, rfl, by simp; rintro ⟨k, h, _⟩; have := h.rt; rw [b] at this; cases this⟩
 simp only [aS, bU, aB, aK, aA]
 cases c : zJ a s.lf.Head.lh with
 | none => exact ⟨21, rfl, rfl, by simp; rintro ⟨k, h, _⟩; have := h.lk; rw [c] at this; cases this⟩
 | some k =>
  have hm : Mk a s.lf k := ⟨i, b, c⟩
  have := Nu b
  have l : yf k (oL s.lf) s.Tag = some (decide (xm k (oL s.lf) = s.Tag)) := by
   unfold yf
   have j : tq k = some true := by
    unfold tq
    have := hm.len
    rw [gJ (show (k.length : Int) ≥ 1 by omega), gJ (show (k.length : Int) ≤ 32 by omega)]; rfl
   rw [j]
   simp only [aA, aS, Ib _ hm.len, yM]
   rw [O1 (I9 _ _) d]
  simp only [Sh _ b, rB _ b, aA, l, Qw (hm.b8 hk) (Cz b) hm.len (show (oL s.lf).length ≤ 10000 by omega)]
  rw [← Ah (xm k _), O1 (I9 _ _) d]
  by_cases he : xm k (oL s.lf) = s.Tag
  ·refine ⟨0, ?_, ?_, by simp; exact ⟨k, hm, he.symm⟩⟩ <;> simp [he]
  ·refine ⟨20, ?_, ?_, ?_⟩
   ·simp [he]
   ·simp [he]
   ·simp; rintro ⟨k', g, e⟩; exact he (by rw [e, hm.unique g])
def S8 (l : List Signed) : Prop := ∀ s ∈ l, B8 s.Tag
theorem RE (s : Signed) (a : B8 s.Tag) : zG s s = some true := by
 unfold zG
 rw [aZ (pe.2 rfl), O1 a a]; simp
theorem BP (b : List lf) (x : lf) : tC b x = some (th nw b x) := by
 obtain ⟨q, e, h⟩ := JX x b
 unfold qM at e
 rw [pE] at e
 rw [e, show q = th nw b x from by rw [cU, h, xO pe]]
structure Ry (l : List lf) (F : List lF) : Prop where
 len : F.length ≤ 900000000
 ref : Bm l = some F
 Su : ∃ m, wB l = some m ∧ xk m.1 m.2.1 m.2.2.1 m.2.2.2.1 m.2.2.2.2.1 m.2.2.2.2.2 = some F ∧ ∀ r w, tb m.1 m.2.1 m.2.2.1 m.2.2.2.1 m.2.2.2.2.1 m.2.2.2.2.2 r w = some (th Bx F ⟨r, w⟩)
 ym : ∀ C : List lf, (∀ c, c ∈ C ↔ c ∈ l ∧ mP c = true) → BC (qa C) F
theorem Ph (l : List lf) (y : l.length ≤ 30000) : ∃ F, Ry l F := by
 obtain ⟨F, h⟩ := RD l y
 refine ⟨F, h.TL, h.ref, ?_, fun C u => ?_⟩
 ·obtain ⟨C, h1, d, t⟩ := h.C
  obtain ⟨C1, T, o, ws, n, q, m1, g, j⟩ := Mp l (by omega)
  have a : ∀ c, c ∈ C1 ↔ c ∈ C := fun c => by rw [d, g]
  have k : BC (qa C1) F := ⟨h1.1, fun f => (h1.2 f).trans (qa.congr a f).symm⟩
  have v : SM C1 := by unfold SM; omega
  refine ⟨_, q, ?_, fun r w => ?_⟩
  ·obtain ⟨F1, s, i⟩ := O8 v.small m1 C1 o ws [] n
   rw [← i.unique k]; exact s
  ·obtain ⟨b, e, x⟩ := NE m1 C1 o ws [] n r w
   rw [e, show b = th Bx F ⟨r, w⟩ from by rw [cU, x, xO AA, k.2]]
 ·obtain ⟨C', h1, d, t⟩ := h.C
  have a : ∀ c, c ∈ C' ↔ c ∈ C := fun c => by rw [d, u]
  exact ⟨h1.1, fun f => (h1.2 f).trans (qa.congr a f)⟩
section
variable {α : Type}
structure SWO (lt : α → α → Bool) : Prop where
 Tk : ∀ x, lt x x = false
 tr : ∀ x y z, lt x y = true → lt y z = true → lt x z = true
 Pu : ∀ x y z, lt x z = true → lt x y = true ∨ lt y z = true
variable {lt : α → α → Bool}
def tl (lt : α → α → Bool) (p q : α × Nat) : Prop := lt p.1 q.1 = true ∨ (lt q.1 p.1 = false ∧ p.2 < q.2)
theorem DH (h : SWO lt) {p q r : α × Nat} (a : tl lt p q) (b : tl lt q r) : tl lt p r := by
 unfold tl at *
 rcases a with a | ⟨a, a2⟩ <;> rcases b with b | ⟨b, d⟩
 ·exact .inl (h.tr _ _ _ a b)
 ·rcases h.Pu _ r.1 _ a with c | c
  ·exact .inl c
  ·rw [b] at c; cases c
 ·rcases h.Pu _ p.1 _ b with c | c
  ·rw [a] at c; cases c
  ·exact .inl c
 ·refine .inr ⟨?_, by omega⟩
  cases e : lt r.1 p.1
  ·rfl
  ·rcases h.Pu _ q.1 _ e with c | c
   ·rw [b] at c; cases c
   ·rw [a] at c; cases c
theorem PZ (h : SWO lt) {p q : α × Nat} (a : tl lt p q) (b : tl lt q p) : False := by
 have c := DH h a b
 rcases c with c | ⟨_, c⟩
 ·rw [h.Tk] at c; cases c
 ·omega
abbrev pD (lt : α → α → Bool) (t : List (α × Nat)) : Prop := t.Pairwise (tl lt)
theorem Hm (h : SWO lt) : ∀ {t u : List (α × Nat)}, pD lt t → pD lt u → t.Perm u → t = u
 | [], u, _, _, hp => by rw [List.nil_perm] at hp; exact hp.symm
 | p :: t, [], _, _, hp => by simp at hp
 | p :: t, q :: u, h1, b, hp => by
  have e : p = q := by
   rcases aM.1 (hp.mem_iff.1 (.head _)) with e | c
   ·exact e
   ·rcases aM.1 (hp.mem_iff.2 (.head _)) with e | a
    ·exact e.symm
    ·exact (PZ h ((cN.1 h1).1 _ a) ((cN.1 b).1 _ c)).elim
  subst e
  rw [Hm h (cN.1 h1).2 (cN.1 b).2 (List.Perm.cons_inv hp)]
def GH (lt : α → α → Bool) (l : List α) (k : α) : List α := l.filter (fun x => !lt k x) ++ k :: l.filter (fun x => lt k x)
def Kf (lt : α → α → Bool) (l : List α) : List α := l.foldl (GH lt) []
def Gg (lt : α → α → Bool) (t : List (α × Nat)) (k : α × Nat) : List (α × Nat) := t.filter (fun x => !lt k.1 x.1) ++ k :: t.filter (fun x => lt k.1 x.1)
theorem OG (t : List (α × Nat)) (k : α × Nat) : (Gg lt t k).map (·.1) = GH lt (t.map (·.1)) k.1 := by
 simp [Gg, GH, List.filter_map, gW]
theorem Og (t : List (α × Nat)) (k : α × Nat) : (Gg lt t k).Perm (t ++ [k]) := by
 unfold Gg
 refine List.perm_middle.trans ?_
 refine (List.Perm.cons _ ?_).trans (ij k t).symm
 have := List.filter_append_perm (fun x : α × Nat => !lt k.1 x.1) t
 simpa using this
theorem Pk (h : SWO lt) {t : List (α × Nat)} {k : α × Nat} (g : pD lt t) (hk : ∀ x ∈ t, x.2 < k.2) : pD lt (Gg lt t k) := by
 unfold Gg pD
 rw [cX, cN]
 refine ⟨g.filter _, ⟨fun x b => ?_, g.filter _⟩, fun x b y c => ?_⟩
 ·exact .inl (cQ.1 b).2
 ·obtain ⟨h1, d⟩ := cQ.1 b
  simp only [gB, ] at d
  have a : tl lt x k := .inr ⟨d, hk x h1⟩
  rcases aM.1 c with rfl | c
  ·exact a
  ·exact DH h a (.inl (cQ.1 c).2)
theorem SK (h : SWO lt) (l : List α) : ∃ t, pD lt t ∧ t.Perm l.zipIdx ∧ t.map (·.1) = Kf lt l := by
 suffices H : ∀ (l r : List α) (t : List (α × Nat)), pD lt t → t.Perm r.zipIdx → ∃ u, pD lt u ∧ u.Perm (r ++ l).zipIdx ∧ u.map (·.1) = l.foldl (GH lt) (t.map (·.1)) by
  obtain ⟨u, h1, c, g⟩ := H l [] [] .nil (by simp)
  exact ⟨u, h1, by simpa using c, g⟩
 intro l
 induction l with
 | nil => intro r t h1 c; exact ⟨t, h1, by simpa using c, rfl⟩
 | cons k l ih =>
  intro r t h1 c
  obtain ⟨u, d, a2, a3⟩ := ih (r ++ [k]) (Gg lt t (k, r.length)) (Pk h h1 (fun x i => by
   obtain ⟨a, b⟩ := x
   have := List.snd_lt_of_mem_zipIdx (c.mem_iff.1 i)
   simpa using this)) ((Og t _).trans (by rw [List.zipIdx_append]; simpa using c.append_right _))
  refine ⟨u, d, by simpa using a2, ?_⟩
  rw [a3, OG]
  rfl
theorem QD (h : SWO lt) {l : List α} {t : List (α × Nat)} (h1 : pD lt t) (b : t.Perm l.zipIdx) : t.map (·.1) = Kf lt l := by
 obtain ⟨u, a, a2, a3⟩ := SK h l
 rw [← a3, Hm h h1 a (b.trans a2.symm)]
end
section
variable {α : Type} {lt : α → α → Bool}
abbrev Lk (lt : α → α → Bool) (A B : List (α × Nat)) : Prop := ∀ A' a b B', A = A' ++ [a] → B = b :: B' → tl lt a b
theorem AR (h : SWO lt) {A B : List (α × Nat)} (j : pD lt A) (k : pD lt B) (l : Lk lt A B) : ∀ a ∈ A, ∀ b ∈ B, tl lt a b := by
 intro a ha b c
 rcases dS A with rfl | ⟨A', z, rfl⟩
 ·cases ha
 cases B with
 | nil => cases c
 | cons y B' =>
  have h1 : tl lt z y := l A' z y B' (by simp) rfl
  have d : a = z ∨ tl lt a z := by
   simp only [fG, aR, bE] at ha
   rcases ha with ha | ha
   ·refine .inr ?_
    simp only [fG, pD, cX] at j
    exact j.2.2 a ha z (by simp)
   ·exact .inl ha
  have g : b = y ∨ tl lt y b := by
   rcases aM.1 c with c | c
   ·exact .inl c
   ·exact .inr ((cN.1 k).1 b c)
  have i : tl lt a y := by
   rcases d with rfl | d
   ·exact h1
   ·exact DH h d h1
  rcases g with rfl | g
  ·exact i
  ·exact DH h i g
theorem Jk (h : SWO lt) {A B : List (α × Nat)} (a : pD lt A) (b : pD lt B) (l : Lk lt A B) : pD lt (A ++ B) :=
 cX.2 ⟨a, b, AR h a b l⟩
theorem pD.left {A B : List (α × Nat)} (h : pD lt (A ++ B)) : pD lt A := (cX.1 h).1
theorem pD.right {A B : List (α × Nat)} (h : pD lt (A ++ B)) : pD lt B := (cX.1 h).2.1
theorem pD.two {A B : List (α × Nat)} (h : pD lt (A ++ B)) : ∀ a ∈ A, ∀ b ∈ B, tl lt a b := (cX.1 h).2.2
theorem HU (h : SWO lt) {A B : List (α × Nat)} {x : α × Nat} (d : pD lt (A ++ B)) (i : Lk lt A [x]) (j : Lk lt [x] B) : pD lt (A ++ x :: B) := by
 have h1 := AR h d.left (iN _ x) i
 have g := AR h (iN _ x) d.right j
 refine cX.2 ⟨d.left, cN.2 ⟨fun b c => g x (by simp) b c, d.right⟩, fun a ha b c => ?_⟩
 rcases aM.1 c with rfl | c
 ·exact h1 a ha _ (by simp)
 ·exact d.two a ha b c
theorem QK (h : SWO lt) {A1 A2 B1 B2 C1 C2 : List (α × Nat)} (d : pD lt (A1 ++ A2)) (g : pD lt (B1 ++ B2)) (j : Lk lt A1 B2) (k : Lk lt B1 A2) (l : C1.Perm (A1 ++ B1)) (n : C2.Perm (A2 ++ B2)) (h1 : pD lt C1) (i : pD lt C2) : pD lt (C1 ++ C2) := by
 have x1 := AR h d.left g.right j
 have x2 := AR h g.left d.right k
 refine cX.2 ⟨h1, i, fun a ha b c => ?_⟩
 rcases aR.1 (l.mem_iff.1 ha) with ha | ha <;> rcases aR.1 (n.mem_iff.1 c) with c | c
 ·exact d.two a ha b c
 ·exact x1 a ha b c
 ·exact x2 a ha b c
 ·exact g.two a ha b c
end
section
variable {α : Type}
theorem Fe (p q : List α) (x y : α) : (p ++ x :: q).set p.length y = p ++ y :: q := by simp
theorem Km (p q : List α) (x y : α) (n : Nat) (h : n = p.length) : (p ++ x :: q).set n y = p ++ y :: q := by subst h; simp
theorem F9 (p m q : List α) (x y : α) : ((p ++ x :: (m ++ y :: q)).set p.length y).set (p.length + 1 + m.length) x = p ++ y :: (m ++ x :: q) := by
 rw [Fe]
 have : p ++ y :: (m ++ y :: q) = (p ++ y :: m) ++ y :: q := by simp
 rw [this, show p.length + 1 + m.length = (p ++ y :: m).length by simp; omega, Fe]
 simp
theorem Nh (p m q : List α) (x y : α) : ((p ++ x :: (m ++ y :: q)).set (p.length + 1 + m.length) x).set p.length y = p ++ y :: (m ++ x :: q) := by
 rw [List.set_comm _ _ (by omega), F9]
theorem xy {l : List α} {n : Nat} (h : n ≤ l.length) : ∃ a b, l = a ++ b ∧ a.length = n := ⟨l.take n, l.drop n, (iZ n l).symm, by simp [h]⟩
end
section
variable {c : Formula → Formula → Int} {G : Formula → Prop} {f : Formula × Formula → Option Int}
theorem MI (x : Formula) : (⟨x.Op, x.K, x.lg, x.Kids⟩ : Formula) = x := by cases x; rfl
abbrev pz (c : Formula → Formula → Int) (x y : Formula) : Bool := decide (c x y < 0)
abbrev CU (f : Formula × Formula → Option Int) (c : Formula → Formula → Int) (G : Formula → Prop) : Prop := ∀ x y, G x → G y → f (x, y) = some (c x y)
theorem TI (v : CU f c G) (pre : List Formula) (x : Formula) (A : G x) : ∀ (k : Nat) (P S : List Formula) (n : Nat) (j a : Int), P.length = k → k < n → (∀ y ∈ P, G y) → (pre ++ (P ++ x :: S)).length ≤ 1000000 → j = ((pre.length + P.length : Nat) : Int) → a = (pre.length : Int) →
  ∃ P1 P2, P = P1 ++ P2 ∧ nt a f n (pre ++ (P ++ x :: S)) j = some (pre ++ (P1 ++ x :: (P2 ++ S))) ∧ (∀ P' z, P1 = P' ++ [z] → pz c x z = false) ∧ (∀ y P', P2 = y :: P' → pz c x y = true) := by
 intro k
 induction k with
 | zero =>
  intro P S n j a hk w d l h ha
  obtain rfl := aV hk
  obtain ⟨n, rfl⟩ := aO (by omega : n ≠ 0)
  refine ⟨[], [], rfl, ?_, by simp, by simp⟩
  rw [nt]
  have : ¬ (j > a) := by rw [h, ha]; simp
  simp [this]
 | succ k ih =>
  intro P S n j a hk w d l h ha
  rcases dS P with rfl | ⟨P', z, rfl⟩
  ·simp at hk
  simp only [fG, aD, aI, bQ] at hk h l d ⊢
  obtain ⟨n, rfl⟩ := aO (by omega : n ≠ 0)
  have i : j > a := by omega
  have o : pre ++ (P' ++ [z] ++ x :: S) = (pre ++ P') ++ z :: x :: S := by simp
  have hw : wi0 .i64 (j - 1) = ((pre.length + P'.length : Nat) : Int) := by rw [mr (by omega) (by omega)]; omega
  have i1 : mZ ((pre ++ P') ++ z :: x :: S) j = some x := by
   rw [show (pre ++ P') ++ z :: x :: S = (pre ++ P' ++ [z]) ++ x :: S by simp]
   exact oy _ _ _ _ (by simp; omega)
  have i2 : mZ ((pre ++ P') ++ z :: x :: S) ((pre.length + P'.length : Nat) : Int) = some z := oy _ _ _ _ (by simp)
  have E : G z := d z (by simp)
  have u : ∀ y ∈ P', G y := fun y D => d y (by simp [D])
  have I : j.toNat = pre.length + P'.length + 1 := by omega
  rw [nt, o]
  simp only [i, bZ, aS, i1, hw, i2, aA, v x z A E]
  by_cases g : c x z < 0
  ·simp only [g, bZ, aS]
   have s1 : ((pre ++ P') ++ z :: x :: S).set j.toNat z = (pre ++ P') ++ z :: z :: S := by
    have := Km (pre ++ P' ++ [z]) S x z j.toNat (by simp; omega)
    simpa only [aQ, gT, cE, bN] using this
   have s2 : ((pre ++ P') ++ z :: z :: S).set (pre.length + P'.length) x = (pre ++ P') ++ x :: z :: S := by
    exact Km (pre ++ P') (z :: S) z x _ (by simp)
   have i3 : mZ ((pre ++ P') ++ z :: z :: S) ((pre.length + P'.length : Nat) : Int) = some z := oy _ _ _ _ (by simp)
   rw [s1, i3, aA, dX, MI, s2]
   have q : (pre ++ P') ++ x :: z :: S = pre ++ (P' ++ x :: (z :: S)) := by simp
   obtain ⟨P1, P2, h1, r, s, t⟩ := ih P' (z :: S) n ((pre.length + P'.length : Nat) : Int) a (by omega) (by omega) u (by simp; omega) rfl ha
   rw [q, r]
   refine ⟨P1, P2 ++ [z], by rw [h1]; simp, by simp, s, ?_⟩
   intro y Q b
   cases P2 with
   | nil =>
    simp only [bN, aW] at b
    rw [← b.1]; simp [pz, g]
   | cons F P2 =>
    simp only [cE, aW] at b
    rw [← b.1]; exact t F P2 rfl
  ·simp only [g, cD, aB, aK]
   refine ⟨P' ++ [z], [], by simp, by simp, ?_, by simp⟩
   intro Q y b
   have := List.append_inj' b rfl
   simp only [aW, dE] at this
   rw [← this.2]; simp [pz, g]
theorem Pt (h : SWO (pz c)) (I : CU f c G) (pre post : List Formula) (a b : Int) (ha : a = (pre.length : Int)) : ∀ (S t : List (Formula × Nat)) (n : Nat) (i : Int),
  S.length < n → pD (pz c) t → (∀ x ∈ t, ∀ y ∈ S, x.2 < y.2) → S.Pairwise (fun x y => x.2 < y.2) → (∀ x ∈ t ++ S, G x.1) → (pre ++ (t.map (·.1) ++ (S.map (·.1) ++ post))).length ≤ 1000000 →
  i = ((pre.length + t.length : Nat) : Int) → b = ((pre.length + t.length + S.length : Nat) : Int) →
  ∃ u, nc b a f n (pre ++ (t.map (·.1) ++ (S.map (·.1) ++ post))) i = some (pre ++ (u.map (·.1) ++ post)) ∧ pD (pz c) u ∧ u.Perm (t ++ S)
 | [], t, n, i, D, E, h1, F, r, A, J, v => by
  obtain ⟨n, rfl⟩ := aO (by simp at D; omega : n ≠ 0)
  rw [nc]
  simp only [bQ] at v
  have : ¬ (i < b) := by omega
  simp only [this, cD, aB, aK]
  exact ⟨t, by simp, E, by simp⟩
 | s :: S, t, n, i, D, E, h1, F, r, A, J, v => by
  simp only [aI] at D v
  obtain ⟨n, rfl⟩ := aO (by omega : n ≠ 0)
  rw [nc]
  have w : i < b := by omega
  simp only [w, bZ, aS]
  have k := A
  simp only [aD, cY, aI] at k
  obtain ⟨P1, P2, O, P, Q, R⟩ := TI I pre s.1 (r s (by simp)) (t.map (·.1)).length (t.map (·.1)) (S.map (·.1) ++ post) mq i a rfl (by rw [oN]; simp; omega)
   (fun y o => by obtain ⟨p, hp, rfl⟩ := bD.1 o; exact r p (by simp [hp])) (by simpa using A) (by simp; omega) ha
  simp only [bF, cE]
  rw [P, aA]
  obtain ⟨t1, t2, rfl, L, M⟩ := List.map_eq_append_iff.1 O
  have hlen : t1.length + t2.length = (t1 ++ t2).length := by simp
  have hw : wi0 .i64 (i + 1) = ((pre.length + (t1 ++ s :: t2).length : Nat) : Int) := by rw [mr (by omega) (by omega)]; simp at J ⊢; omega
  rw [hw]
  have l : pD (pz c) (t1 ++ s :: t2) := HU h E
   (fun A' z b B' j q => by
    simp only [aW] at q
    rw [← q.1]
    refine .inr ⟨Q (A'.map (·.1)) z.1 (by rw [← L, j]; simp), h1 z (by rw [j]; simp) s (by simp)⟩)
   (fun A' z b B' j q => by
    have U : z = s := by
     cases A' with
     | nil => simpa using j.symm
     | cons _ A' => simp at j
    rw [U]
    exact .inl (R b.1 (B'.map (·.1)) (by rw [← M, q]; simp)))
  have g := cN.1 F
  have T : pre ++ (P1 ++ s.1 :: (P2 ++ (S.map (·.1) ++ post))) = pre ++ ((t1 ++ s :: t2).map (·.1) ++ (S.map (·.1) ++ post)) := by rw [← L, ← M]; simp
  rw [T]
  obtain ⟨u, W, Y, Z⟩ := Pt h I pre post a b ha S (t1 ++ s :: t2) n _ (by omega) l
   (fun x d y o => by
    rcases aR.1 d with d | d
    ·exact h1 x (by simp [d]) y (by simp [o])
    ·rcases aM.1 d with rfl | d
     ·exact g.1 y o
     ·exact h1 x (by simp [d]) y (by simp [o]))
   g.2 (fun x d => r x (by
    simp only [aR, aM] at d ⊢
    rcases d with (d | d | d) | d
    ·exact .inl (.inl d)
    ·exact .inr (.inl d)
    ·exact .inl (.inr d)
    ·exact .inr (.inr d))) (by simp at k ⊢; omega) rfl (by simp at v ⊢; omega)
  refine ⟨u, W, Y, Z.trans ?_⟩
  simp only [aQ, cE]
  exact cA t1 (List.perm_middle.symm)
theorem LF (h : SWO (pz c)) (q : CU f c G) (pre post : List Formula) (S : List (Formula × Nat)) (a b : Int) (l : S.Pairwise (fun x y => x.2 < y.2)) (o : ∀ x ∈ S, G x.1) (k : (pre ++ (S.map (·.1) ++ post)).length ≤ 1000000) (ha : a = (pre.length : Int)) (j : b = ((pre.length + S.length : Nat) : Int)) :
  ∃ u, ou (pre ++ (S.map (·.1) ++ post)) a b f = some (pre ++ (u.map (·.1) ++ post)) ∧ pD (pz c) u ∧ u.Perm S := by
 unfold ou
 have g := k
 simp only [aD, cY] at g
 cases S with
 | nil =>
  refine ⟨[], ?_, .nil, .nil⟩
  obtain ⟨n, r⟩ := aO (by rw [oN]; omega : mq ≠ 0)
  rw [r, nc]
  have : ¬ (wi0 .i64 (a + 1) < b) := by rw [mr (by omega) (by omega)]; simp at j; omega
  simp [this]
 | cons s S =>
  simp only [aI] at j g
  have d := cN.1 l
  obtain ⟨u, v, w, z⟩ := Pt h q pre post a b ha S [s] mq (wi0 .i64 (a + 1)) (by rw [oN]; omega) (iN _ _) (fun x i y t => by simp at i; rw [i]; exact d.1 y t) d.2
   (fun x i => o x (by simpa using i)) (by simp at k ⊢; omega) (by rw [mr (by omega) (by omega)]; simp; omega) (by simp; omega)
  exact ⟨u, by simpa using v, w, by simpa using z⟩
end
section
variable {c : Formula → Formula → Int} {G : Formula → Prop} {f : Formula × Formula → Option Int}
theorem oK {x : Int} (n : Nat) (h : x = (n : Int)) (a : n ≤ 4000000) : wi0 .i64 x = (n : Int) := by rw [h, mr (by omega) (by omega)]
theorem Ss (p m q : List Formula) (a b N : Int) : ∀ (k : Nat) (X1 X2 Y1 Y2 : List Formula) (n : Nat) (i : Int), X2.length = k → Y2.length = k → X1.length = Y1.length → k < n → (p ++ (Y1 ++ (X2 ++ (m ++ (X1 ++ (Y2 ++ q)))))).length ≤ 1000000 →
  i = (X1.length : Int) → N = ((X1.length + k : Nat) : Int) → a = (p.length : Int) → b = ((p.length + X1.length + k + m.length : Nat) : Int) →
  nH N b a n (p ++ (Y1 ++ (X2 ++ (m ++ (X1 ++ (Y2 ++ q)))))) i = some (p ++ ((Y1 ++ Y2) ++ (m ++ ((X1 ++ X2) ++ q)))) := by
 intro k
 induction k with
 | zero =>
  intro X1 X2 Y1 Y2 n i h1 c s u l t h ha j
  obtain rfl := aV h1
  obtain rfl := aV c
  obtain ⟨n, rfl⟩ := aO (by omega : n ≠ 0)
  rw [nH]
  have : ¬ (i < N) := by omega
  simp [this]
 | succ k ih =>
  intro X1 X2 Y1 Y2 n i h1 c s u l t h ha j
  cases X2 with
  | nil => simp at h1
  | cons x X2 =>
  cases Y2 with
  | nil => simp at c
  | cons y Y2 =>
  simp only [aI, Nat.add_right_cancel_iff] at h1 c
  obtain ⟨n, rfl⟩ := aO (by omega : n ≠ 0)
  have g := l
  simp only [aD, aI] at g
  have d : i < N := by omega
  have v : wi0 .i64 (b + i) = (((p ++ Y1).length + 1 + (X2 ++ (m ++ X1)).length : Nat) : Int) := oK _ (by simp; omega) (by simp; omega)
  have w : wi0 .i64 (a + i) = ((p ++ Y1).length : Int) := oK _ (by simp; omega) (by simp; omega)
  have z : wi0 .i64 (i + 1) = ((X1 ++ [x]).length : Int) := oK _ (by simp; omega) (by simp; omega)
  have o : p ++ (Y1 ++ (x :: X2 ++ (m ++ (X1 ++ (y :: Y2 ++ q))))) = (p ++ Y1) ++ x :: ((X2 ++ (m ++ X1)) ++ y :: (Y2 ++ q)) := by simp
  have i1 : mZ ((p ++ Y1) ++ x :: ((X2 ++ (m ++ X1)) ++ y :: (Y2 ++ q))) (((p ++ Y1).length + 1 + (X2 ++ (m ++ X1)).length : Nat) : Int) = some y := by
   have := oy ((p ++ Y1) ++ x :: (X2 ++ (m ++ X1))) y (Y2 ++ q) (((p ++ Y1).length + 1 + (X2 ++ (m ++ X1)).length : Nat) : Int) (by simp; omega)
   simpa using this
  have i2 : mZ ((p ++ Y1) ++ x :: ((X2 ++ (m ++ X1)) ++ y :: (Y2 ++ q))) ((p ++ Y1).length : Int) = some x := oy _ _ _ _ rfl
  rw [nH, o]
  simp only [d, bZ, aS, v, w, i1, i2, aA, dX, z]
  have i3 : mZ (((p ++ Y1) ++ x :: ((X2 ++ (m ++ X1)) ++ y :: (Y2 ++ q))).set (p ++ Y1).length y) (((p ++ Y1).length + 1 + (X2 ++ (m ++ X1)).length : Nat) : Int) = some y := by
   rw [Fe]
   have := oy ((p ++ Y1) ++ y :: (X2 ++ (m ++ X1))) y (Y2 ++ q) (((p ++ Y1).length + 1 + (X2 ++ (m ++ X1)).length : Nat) : Int) (by simp; omega)
   simpa using this
  rw [i3, aA, MI, F9]
  have r : (p ++ Y1) ++ y :: ((X2 ++ (m ++ X1)) ++ x :: (Y2 ++ q)) = p ++ ((Y1 ++ [y]) ++ (X2 ++ (m ++ ((X1 ++ [x]) ++ (Y2 ++ q))))) := by simp
  rw [r, ih (X1 ++ [x]) X2 (Y1 ++ [y]) Y2 n _ h1 c (by simp; omega) (by omega) (by simp; omega) rfl (by rw [h]; simp; omega) ha (by rw [j]; simp; omega)]
  simp
theorem LY (p m q X Y : List Formula) (a b N : Int) (h : X.length = Y.length) (d : (p ++ (X ++ (m ++ (Y ++ q)))).length ≤ 1000000) (g : N = (X.length : Int)) (ha : a = (p.length : Int)) (i : b = ((p.length + X.length + m.length : Nat) : Int)) :
  oh (p ++ (X ++ (m ++ (Y ++ q)))) a b N f = some (p ++ (Y ++ (m ++ (X ++ q)))) := by
 unfold oh
 have c := d
 simp only [aD] at c
 have := Ss p m q a b N X.length [] X [] Y mq 0 rfl h.symm rfl (by rw [oN]; omega) (by simpa using d) rfl (by simpa using g) ha (by rw [i]; simp)
 simpa using this
theorem SE (M : Int) : ∀ (k : Nat) (A B p q : List Formula) (n : Nat) (i j : Int), A.length + B.length ≤ k → 0 < A.length → 0 < B.length → k < n → (p ++ (A ++ (B ++ q))).length ≤ 1000000 → i = (A.length : Int) → j = (B.length : Int) → M = ((p.length + A.length : Nat) : Int) →
  nN M f n (p ++ (A ++ (B ++ q))) i j = some (p ++ (B ++ (A ++ q))) := by
 intro k
 induction k with
 | zero => intro A B p q n i j h h1 t; omega
 | succ k ih =>
  intro A B p q n i j h h1 t F w b g u
  obtain ⟨n, rfl⟩ := aO (by omega : n ≠ 0)
  have a := w
  simp only [aD] at a
  rw [nN]
  by_cases he : A.length = B.length
  ·have : (i != j) = false := by rw [b, g, he]; simp
   simp only [this, aB, aK]
   have c : wi0 .i64 (M - i) = (p.length : Int) := oK _ (by omega) (by omega)
   have := LY (f := f) p [] q A B (p.length : Int) M i he (by simpa using w) b rfl (by rw [u]; simp)
   simp only [bN] at this
   rw [c, this]; rfl
  ·have o : (i != j) = true := by rw [b, g]; simp; omega
   simp only [o, aS]
   by_cases v : i > j
   ·simp only [v, bZ, aS]
    obtain ⟨X, Y, rfl, E⟩ := xy (l := A) (n := B.length) (by omega)
    simp only [aD] at b h u a
    have c : wi0 .i64 (M - i) = (p.length : Int) := oK _ (by omega) (by omega)
    have s := LY (f := f) p Y q X B (p.length : Int) M j (by omega) (by simp; omega) (by omega) rfl (by omega)
    have d : p ++ (X ++ Y ++ (B ++ q)) = p ++ (X ++ (Y ++ (B ++ q))) := by simp
    have r : wi0 .i64 (i - j) = (Y.length : Int) := oK _ (by omega) (by omega)
    rw [d, c, s, aA, r]
    have x : p ++ (B ++ (Y ++ (X ++ q))) = (p ++ B) ++ (Y ++ (X ++ q)) := by simp
    rw [x, ih Y X (p ++ B) q n _ j (by omega) (by omega) (by omega) (by omega) (by simp; omega) rfl (by omega) (by simp; omega)]
    simp
   ·simp only [v, cD, aB, aK]
    obtain ⟨Z, V, rfl, y⟩ := xy (l := B) (n := B.length - A.length) (by omega)
    simp only [aD] at g h a y t he
    have c : wi0 .i64 (M - i) = (p.length : Int) := oK _ (by omega) (by omega)
    have z : wi0 .i64 (M + j) = ((p.length + A.length + (Z.length + V.length) : Nat) : Int) := oK _ (by omega) (by omega)
    have D : wi0 .i64 (((p.length + A.length + (Z.length + V.length) : Nat) : Int) - i) = ((p.length + A.length + Z.length : Nat) : Int) := oK _ (by omega) (by omega)
    have s := LY (f := f) p Z q A V (p.length : Int) ((p.length + A.length + Z.length : Nat) : Int) i (by omega) (by simp; omega) b rfl rfl
    have d : p ++ (A ++ (Z ++ V ++ q)) = p ++ (A ++ (Z ++ (V ++ q))) := by simp
    have r : wi0 .i64 (j - i) = (Z.length : Int) := oK _ (by omega) (by omega)
    rw [d, c, z, D, s, aA, r]
    rw [show p ++ (V ++ (Z ++ (A ++ q))) = p ++ (V ++ (Z ++ (A ++ q))) from rfl, ih V Z p (A ++ q) n i _ (by omega) (by omega) (by omega) (by omega) (by simp; omega) (by omega) rfl (by omega)]
    simp
theorem Uf (A B p q : List Formula) (a m b : Int) (h1 : 0 < A.length) (g : 0 < B.length) (d : (p ++ (A ++ (B ++ q))).length ≤ 1000000) (ha : a = (p.length : Int)) (hm : m = ((p.length + A.length : Nat) : Int)) (h : b = ((p.length + A.length + B.length : Nat) : Int)) :
  od (p ++ (A ++ (B ++ q))) a m b f = some (p ++ (B ++ (A ++ q))) := by
 unfold od
 have c := d
 simp only [aD] at c
 rw [oK A.length (by omega) (by omega), oK B.length (by omega) (by omega)]
 exact SE m (A.length + B.length) A B p q mq _ _ (aT _) h1 g (by rw [oN]; omega) d rfl rfl hm
end
section
variable {c : Formula → Formula → Int} {G : Formula → Prop} {f : Formula × Formula → Option Int}
theorem DD {x : Int} (n : Nat) (h : x = (n : Int)) (b : n ≤ 4000000) : wi0 .i64 (Int.fdiv (IntKind.u64.wrap (wi0 .i64 x)) (2 ^ min (Int.toNat 1) (IntKind.bits .u64))) = ((n / 2 : Nat) : Int) := by
 rw [oK n h b]
 have a : IntKind.u64.wrap (n : Int) = (n : Int) := by
  simp only [IntKind.wrap, IntKind.signed, IntKind.bits]
  simp
  omega
 rw [a, show (2 ^ min (Int.toNat 1) (IntKind.bits .u64) : Int) = 2 from by decide, Int.fdiv_eq_ediv_of_nonneg _ (by decide), mr (by omega) (by omega)]
 omega
abbrev Ask (a0 : List Formula) (f : Formula × Formula → Option Int) (p q : Int) (b : Bool) : Prop := ∃ x y r, mZ a0 p = some x ∧ mZ a0 q = some y ∧ f (x, y) = some r ∧ decide (r < 0) = b
theorem TY (a0 : List Formula) (q : Int) (b : Nat → Bool) (c a : Nat) (G : a ≤ 1000000) (v : ∀ h, c ≤ h → h < a → Ask a0 f (h : Int) q (b h)) : ∀ (d n i j : Nat), j - i ≤ d → d < n → c ≤ i → i ≤ j → j ≤ a → (i = c ∨ b (i - 1) = true) → (j = a ∨ b j = false) →
  ∃ t J, c ≤ t ∧ t ≤ a ∧ (t = c ∨ b (t - 1) = true) ∧ (t = a ∨ b t = false) ∧ mU a0 q f n (i : Int) (j : Int) = mU a0 q f (J + 1) (t : Int) (t : Int) := by
 intro d
 induction d with
 | zero =>
  intro n i j h1 I g E k l o
  obtain ⟨n, rfl⟩ := aO (by omega : n ≠ 0)
  obtain rfl : i = j := by omega
  exact ⟨i, n, g, k, l, o, rfl⟩
 | succ d ih =>
  intro n i j h1 I g E k l o
  obtain ⟨n, rfl⟩ := aO (by omega : n ≠ 0)
  by_cases s : i = j
  ·subst s; exact ⟨i, n, g, k, l, o, rfl⟩
  have F := DD (i + j) (x := (i : Int) + (j : Int)) (by omega) (by omega)
  obtain ⟨x, y, r, w, z, A, D⟩ := v ((i + j) / 2) (by omega) (by omega)
  rw [mU]
  have u : ((i : Int) < (j : Int)) := by omega
  simp only [u, bZ, aS, F, w, z, A, D, aA]
  cases hp : b ((i + j) / 2)
  ·simp only [aB, aK]
   exact ih n i ((i + j) / 2) (by omega) (by omega) g (by omega) (by omega) l (.inr hp)
  ·simp only [aS]
   rw [oK ((i + j) / 2 + 1) (by omega) (by omega)]
   exact ih n ((i + j) / 2 + 1) j (by omega) (by omega) (by omega) (by omega) k (.inr (by simpa using hp)) o
theorem Un (a0 : List Formula) (a2 : Int) (b : Nat → Bool) (c a : Nat) (F : a ≤ 1000000) (u : ∀ h, c ≤ h → h < a → Ask a0 f a2 (h : Int) (!b h)) : ∀ (d n i j : Nat), j - i ≤ d → d < n → c ≤ i → i ≤ j → j ≤ a → (i = c ∨ b (i - 1) = true) → (j = a ∨ b j = false) →
  ∃ t I, c ≤ t ∧ t ≤ a ∧ (t = c ∨ b (t - 1) = true) ∧ (t = a ∨ b t = false) ∧ mV a0 a2 f n (i : Int) (j : Int) = mV a0 a2 f (I + 1) (t : Int) (t : Int) := by
 intro d
 induction d with
 | zero =>
  intro n i j h1 G g D k l o
  obtain ⟨n, rfl⟩ := aO (by omega : n ≠ 0)
  obtain rfl : i = j := by omega
  exact ⟨i, n, g, k, l, o, rfl⟩
 | succ d ih =>
  intro n i j h1 G g D k l o
  obtain ⟨n, rfl⟩ := aO (by omega : n ≠ 0)
  by_cases q : i = j
  ·subst q; exact ⟨i, n, g, k, l, o, rfl⟩
  have E := DD (i + j) (x := (i : Int) + (j : Int)) (by omega) (by omega)
  obtain ⟨x, y, r, v, w, z, A⟩ := u ((i + j) / 2) (by omega) (by omega)
  rw [mV]
  have s : ((i : Int) < (j : Int)) := by omega
  simp only [s, bZ, aS, E, v, w, z, A, aA, iu]
  cases hp : b ((i + j) / 2)
  ·simp only [aB, aK]
   exact ih n i ((i + j) / 2) (by omega) (by omega) g (by omega) (by omega) l (.inr hp)
  ·simp only [aS]
   rw [oK ((i + j) / 2 + 1) (by omega) (by omega)]
   exact ih n ((i + j) / 2 + 1) j (by omega) (by omega) (by omega) (by omega) k (.inr (by simpa using hp)) o
theorem Tl (x : Formula) : ∀ (P Q R : List Formula) (n : Nat) (k i : Int), P.length < n → (Q ++ x :: (P ++ R)).length ≤ 1000000 → k = (Q.length : Int) → i = ((Q.length + P.length + 1 : Nat) : Int) → nJ i n (Q ++ x :: (P ++ R)) k = some (Q ++ (P ++ x :: R))
 | [], Q, R, n, k, i, b, c, hk, a => by
  obtain ⟨n, rfl⟩ := aO (by simp at b; omega : n ≠ 0)
  simp only [aD, aI, bQ] at c a
  rw [nJ, oK Q.length (by omega) (by omega)]
  have : ¬ (k < (Q.length : Int)) := by omega
  simp [this]
 | y :: P, Q, R, n, k, i, b, c, hk, a => by
  obtain ⟨n, rfl⟩ := aO (by simp at b; omega : n ≠ 0)
  simp only [aD, aI] at c a b
  have g : Q ++ x :: (y :: P ++ R) = Q ++ x :: ([] ++ y :: (P ++ R)) := rfl
  have h : wi0 .i64 (k + 1) = ((Q.length + 1 + ([] : List Formula).length : Nat) : Int) := oK _ (by simp; omega) (by simp; omega)
  have i1 : mZ (Q ++ x :: ([] ++ y :: (P ++ R))) ((Q.length + 1 + ([] : List Formula).length : Nat) : Int) = some y := by
   have := oy (Q ++ [x]) y (P ++ R) ((Q.length + 1 + ([] : List Formula).length : Nat) : Int) (by simp)
   simpa using this
  have i2 : mZ (Q ++ x :: ([] ++ y :: (P ++ R))) k = some x := oy _ _ _ _ hk
  rw [nJ, oK (Q.length + P.length + 1) (by omega) (by omega), g]
  have d : k < ((Q.length + P.length + 1 : Nat) : Int) := by omega
  have kn : k.toNat = Q.length := by omega
  simp only [d, bZ, aS, h, i1, i2, aA, kn]
  have i3 : mZ ((Q ++ x :: ([] ++ y :: (P ++ R))).set Q.length y) ((Q.length + 1 + ([] : List Formula).length : Nat) : Int) = some y := by
   rw [Fe]
   have := oy (Q ++ [y]) y (P ++ R) ((Q.length + 1 + ([] : List Formula).length : Nat) : Int) (by simp)
   simpa using this
  rw [i3, aA, dX, MI, F9]
  have := Tl x P (Q ++ [y]) R n ((Q.length + 1 + ([] : List Formula).length : Nat) : Int) i (by omega) (by simp; omega) (by simp) (by rw [a]; simp; omega)
  simpa using this
theorem Ug (x : Formula) : ∀ (k : Nat) (S Q R : List Formula) (n : Nat) (j i : Int), S.length = k → k < n → (Q ++ (S ++ x :: R)).length ≤ 1000000 → j = ((Q.length + S.length : Nat) : Int) → i = (Q.length : Int) → nI i n (Q ++ (S ++ x :: R)) j = some (Q ++ x :: (S ++ R)) := by
 intro k
 induction k with
 | zero =>
  intro S Q R n j i hk l g a d
  obtain ⟨n, rfl⟩ := aO (by omega : n ≠ 0)
  obtain rfl := aV hk
  rw [nI]
  simp only [bQ, kL] at a
  have : ¬ (j > i) := by omega
  simp [this]
 | succ k ih =>
  intro S Q R n j i hk l g a d
  obtain ⟨n, rfl⟩ := aO (by omega : n ≠ 0)
  rcases dS S with rfl | ⟨S, z, rfl⟩
  ·simp at hk
  simp only [fG, aD, aI, bQ] at hk a g ⊢
  have h : Q ++ (S ++ [z] ++ x :: R) = (Q ++ S) ++ z :: ([] ++ x :: R) := by simp
  have q : wi0 .i64 (j - 1) = ((Q ++ S).length : Int) := oK _ (by simp; omega) (by simp; omega)
  have b : j = (((Q ++ S).length + 1 + ([] : List Formula).length : Nat) : Int) := by rw [a]; simp; omega
  have i1 : mZ ((Q ++ S) ++ z :: ([] ++ x :: R)) j = some x := by
   have := oy (Q ++ S ++ [z]) x R j (by rw [b]; simp; omega)
   simpa using this
  have i2 : mZ ((Q ++ S) ++ z :: ([] ++ x :: R)) ((Q ++ S).length : Int) = some z := oy _ _ _ _ rfl
  rw [nI, h]
  have c : j > i := by omega
  have o : j.toNat = (Q ++ S).length + 1 + ([] : List Formula).length := by omega
  simp only [c, bZ, aS, q, i1, i2, aA, o]
  have i3 : mZ (((Q ++ S) ++ z :: ([] ++ x :: R)).set ((Q ++ S).length + 1 + ([] : List Formula).length) z) ((Q ++ S).length : Int) = some z := by
   have : ((Q ++ S) ++ z :: ([] ++ x :: R)).set ((Q ++ S).length + 1 + ([] : List Formula).length) z = (Q ++ S) ++ z :: (z :: R) := by
    have := Km (Q ++ S ++ [z]) R x z ((Q ++ S).length + 1 + ([] : List Formula).length) (by simp; omega)
    simpa using this
   rw [this]; exact oy _ _ _ _ rfl
  rw [i3, aA, dX, MI, Nh]
  have := ih S Q (z :: R) n ((Q ++ S).length : Int) i (by omega) (by omega) (by simp; omega) (by simp) d
  simpa using this
end
section
variable {c : Formula → Formula → Int} {G : Formula → Prop} {f : Formula × Formula → Option Int}
theorem Tu (a0 : List Formula) (g a3 a2 : Int) (rec : List Formula → Int → Int → Int → ((Formula × Formula) → Option Int) → Option (List Formula)) (mid m p : Nat) (k : g + a3 = ((2 * mid : Nat) : Int) ∨ g + a3 = ((2 * mid + 1 : Nat) : Int)) (hm : a2 = (m : Int)) (hp : p + 1 = mid + m) (c : Nat → Bool) (o a : Nat) (L : a ≤ 1000000) (O : mid ≤ 1000000) (M : mid + m ≤ 2000000) (hle : a ≤ p + 1) (A : ∀ h, o ≤ h → h < a → Ask a0 f ((p - h : Nat) : Int) (h : Int) (!c h)) : ∀ (d n i j : Nat), j - i ≤ d → d < n → o ≤ i → i ≤ j → j ≤ a → (i = o ∨ c (i - 1) = true) → (j = a ∨ c j = false) →
  ∃ t Q, o ≤ t ∧ t ≤ a ∧ (t = o ∨ c (t - 1) = true) ∧ (t = a ∨ c t = false) ∧ mF a0 g a3 a2 f rec n (i : Int) (j : Int) = mF a0 g a3 a2 f rec (Q + 1) (t : Int) (t : Int) := by
 have b : wi0 .i64 (Int.fdiv (IntKind.u64.wrap (wi0 .i64 (g + a3))) (2 ^ min (Int.toNat 1) (IntKind.bits .u64))) = (mid : Int) := by
  rcases k with h | h
  ·rw [DD _ h (by omega), show 2 * mid / 2 = mid by omega]
  ·rw [DD _ h (by omega), show (2 * mid + 1) / 2 = mid by omega]
 intro d
 induction d with
 | zero =>
  intro n i j h1 P q I s u v
  obtain ⟨n, rfl⟩ := aO (by omega : n ≠ 0)
  obtain rfl : i = j := by omega
  exact ⟨i, n, q, s, u, v, rfl⟩
 | succ d ih =>
  intro n i j h1 P q I s u v
  obtain ⟨n, rfl⟩ := aO (by omega : n ≠ 0)
  by_cases w : i = j
  ·subst w; exact ⟨i, n, q, s, u, v, rfl⟩
  have J := DD (i + j) (x := (i : Int) + (j : Int)) (by omega) (by omega)
  obtain ⟨x, y, r, D, E, F, G⟩ := A ((i + j) / 2) (by omega) (by omega)
  have R : wi0 .i64 ((mid : Int) + a2) = ((mid + m : Nat) : Int) := oK _ (by omega) (by omega)
  have T : wi0 .i64 (((mid + m : Nat) : Int) - 1) = (p : Int) := oK _ (by omega) (by omega)
  have U : wi0 .i64 ((p : Int) - (((i + j) / 2 : Nat) : Int)) = ((p - (i + j) / 2 : Nat) : Int) := oK _ (by omega) (by omega)
  rw [mF]
  have z : ((i : Int) < (j : Int)) := by omega
  simp only [z, bZ, aS, J, b, R, T, U, D, E, F, G, aA, iu]
  cases l : c ((i + j) / 2)
  ·simp only [aB, aK]
   exact ih n i ((i + j) / 2) (by omega) (by omega) q (by omega) (by omega) u (.inr l)
  ·simp only [aS]
   rw [oK ((i + j) / 2 + 1) (by omega) (by omega)]
   exact ih n ((i + j) / 2 + 1) j (by omega) (by omega) (by omega) (by omega) s (.inr (by simpa using l)) v
theorem Sf (a0 : List Formula) (b a3 a2 : Int) (rec : List Formula → Int → Int → Int → ((Formula × Formula) → Option Int) → Option (List Formula)) (mid m t n : Nat) (c : b + a3 = ((2 * mid : Nat) : Int) ∨ b + a3 = ((2 * mid + 1 : Nat) : Int)) (hm : a2 = (m : Int)) (o : mid ≤ 1000000) (k : mid + m ≤ 2000000) (v : t ≤ mid + m) :
  mF a0 b a3 a2 f rec (n + 1) (t : Int) (t : Int) =
   ((if t < m ∧ m < mid + m - t then od a0 (t : Int) a2 ((mid + m - t : Nat) : Int) f else some a0).bind fun l => ((if b < (t : Int) ∧ t < mid then rec l b (t : Int) (mid : Int) f else some l).bind fun l => if mid < mid + m - t ∧ ((mid + m - t : Nat) : Int) < a3 then rec l (mid : Int) ((mid + m - t : Nat) : Int) a3 f else some l)) := by
 have a : wi0 .i64 (Int.fdiv (IntKind.u64.wrap (wi0 .i64 (b + a3))) (2 ^ min (Int.toNat 1) (IntKind.bits .u64))) = (mid : Int) := by
  rcases c with h | h
  ·rw [DD _ h (by omega), show 2 * mid / 2 = mid by omega]
  ·rw [DD _ h (by omega), show (2 * mid + 1) / 2 = mid by omega]
 have s : wi0 .i64 ((mid : Int) + a2) = ((mid + m : Nat) : Int) := oK _ (by omega) (by omega)
 have u : wi0 .i64 (((mid + m : Nat) : Int) - (t : Int)) = ((mid + m - t : Nat) : Int) := oK _ (by omega) (by omega)
 rw [mF]
 simp only [Int.lt_irrefl, cD, aB, aK, a, s, u, pE]
 subst hm
 have d : ((t : Int) < (m : Int)) = (t < m) := by simp
 have g : ((m : Int) < ((mid + m - t : Nat) : Int)) = (m < mid + m - t) := by rw [iJ]; omega
 have i : ((t : Int) < (mid : Int)) = (t < mid) := by simp
 have j : ((mid : Int) < ((mid + m - t : Nat) : Int)) = (mid < mid + m - t) := by rw [iJ]; omega
 simp only [d, g, i, j]
 have key : ∀ (p q : Prop) [Decidable p] [Decidable q] (A B : Option (List Formula)), ((if decide p = true then some (decide q) else some false : Option Bool).bind fun x => if x = true then A else B) = if p ∧ q then A else B := by
  intro p q _ _ A B
  by_cases hp : p <;> by_cases r : q <;> simp [hp, r]
 simp only [key]
theorem MQ (p A q : List Formula) (h : Nat) (b : p.length ≤ h) (h1 : h < p.length + A.length) : ∃ x, A[h - p.length]? = some x ∧ mZ (p ++ (A ++ q)) (h : Int) = some x := by
 obtain ⟨x, a⟩ : ∃ x, A[h - p.length]? = some x := ⟨_, cW (by omega)⟩
 refine ⟨x, a, ?_⟩
 rw [Fg, fT b, iw (by omega), a]
end
section
variable {c : Formula → Formula → Int} {G : Formula → Prop} {f : Formula × Formula → Option Int}
theorem DU {α : Type} {P A' : List α} {z : α} (S : List α) (h : P = A' ++ [z]) : (P ++ S)[P.length - 1]? = some z := by subst h; simp
theorem DJ {α : Type} {S B' : List α} {z : α} (P : List α) (h : S = z :: B') : (P ++ S)[P.length]? = some z := by subst h; simp
theorem zc {A : List (Formula × Nat)} {i : Nat} {z : Formula × Nat} (h : A[i]? = some z) : (A.map (·.1))[i]? = some z.1 := by simp [h]
theorem SV (h : SWO (pz c)) (Q : CU f c G) (x : Formula × Nat) (B : List (Formula × Nat)) (pre post : List Formula) (a m b : Int) (I : pD (pz c) B) (U : ∀ y ∈ B, x.2 < y.2) (w : ∀ y ∈ x :: B, G y.1) (R : (pre ++ x.1 :: (B.map (·.1) ++ post)).length ≤ 400000) (ha : a = (pre.length : Int)) (hm : m = ((pre.length + 1 : Nat) : Int)) (O : b = ((pre.length + 1 + B.length : Nat) : Int)) :
  ∃ u, mU (pre ++ x.1 :: (B.map (·.1) ++ post)) a f mq m b = some (pre ++ (u.map (·.1) ++ post)) ∧ pD (pz c) u ∧ u.Perm (x :: B) := by
 have r := R
 simp only [aD, aI, cY] at r
 let g : Nat → Bool := fun k => match (B.map (·.1))[k - (pre.length + 1)]? with | some y => pz c y x.1 | none => false
 have j : ∀ k, pre.length + 1 ≤ k → k < pre.length + 1 + B.length → Ask (pre ++ x.1 :: (B.map (·.1) ++ post)) f (k : Int) a (g k) := by
  intro k h1 Z
  obtain ⟨y, s, A⟩ := MQ (pre ++ [x.1]) (B.map (·.1)) post k (by simp; omega) (by simp; omega)
  have D : mZ (pre ++ x.1 :: (B.map (·.1) ++ post)) (k : Int) = some y := by simpa using A
  have E : mZ (pre ++ x.1 :: (B.map (·.1) ++ post)) a = some x.1 := oy _ _ _ _ ha
  have W : G y := by
   obtain ⟨q, T, rfl⟩ := bD.1 (dC s)
   exact w q (by simp [T])
  refine ⟨y, x.1, _, D, E, Q y x.1 W (w x (by simp)), ?_⟩
  simp only [aD, aI, bQ] at s
  simp only [g, s]
 obtain ⟨t, n', t1, t2, t3, t4, e⟩ := TY (f := f) _ a g (pre.length + 1) (pre.length + 1 + B.length) (by omega) j B.length mq (pre.length + 1) (pre.length + 1 + B.length) (by omega) (by rw [oN]; omega) (aT _) (by omega) (aT _) (.inl rfl) (.inl rfl)
 rw [hm, O, e, mU]
 simp only [Int.lt_irrefl, cD, aB, aK, pE]
 obtain ⟨P, S, rfl, J⟩ := xy (l := B) (n := t - (pre.length + 1)) (by omega)
 simp only [aD] at r t2 t4
 have F : pre ++ x.1 :: ((P ++ S).map (·.1) ++ post) = pre ++ x.1 :: (P.map (·.1) ++ (S.map (·.1) ++ post)) := by simp
 rw [F, Tl x.1 (P.map (·.1)) pre (S.map (·.1) ++ post) mq a (t : Int) (by rw [oN]; simp; omega) (by simp; omega) ha (by simp; omega)]
 refine ⟨P ++ x :: S, by simp, HU h I ?_ ?_, fS⟩
 ·intro A' z v B' i d
  simp only [aW] at d
  rw [← d.1]
  have L : 0 < P.length := by rw [i]; simp
  have hp : g (t - 1) = true := by
   rcases t3 with t3 | t3
   ·omega
   ·exact t3
  have o := zc (DU S i)
  rw [show P.length - 1 = t - 1 - (pre.length + 1) by omega] at o
  simp only [g, o] at hp
  exact .inl hp
 ·intro A' z v B' i d
  have Y : z = x := by
   cases A' with
   | nil => simpa using i.symm
   | cons _ A' => simp at i
  rw [Y]
  have M : 0 < S.length := by rw [d]; simp
  have hp : g t = false := by
   rcases t4 with t4 | t4
   ·omega
   ·exact t4
  have o := zc (DJ P d)
  rw [J] at o
  simp only [g, o] at hp
  exact .inr ⟨hp, U v (by rw [d]; simp)⟩
theorem Tf (h : SWO (pz c)) (M : CU f c G) (y : Formula × Nat) (A : List (Formula × Nat)) (pre post : List Formula) (a m : Int) (F : pD (pz c) A) (R : ∀ x ∈ A, x.2 < y.2) (s : ∀ x ∈ y :: A, G x.1) (O : (pre ++ (A.map (·.1) ++ y.1 :: post)).length ≤ 400000) (ha : a = (pre.length : Int)) (hm : m = ((pre.length + A.length : Nat) : Int)) :
  ∃ u, mV (pre ++ (A.map (·.1) ++ y.1 :: post)) m f mq a m = some (pre ++ (u.map (·.1) ++ post)) ∧ pD (pz c) u ∧ u.Perm (A ++ [y]) := by
 have o := O
 simp only [aD, aI, cY] at o
 let g : Nat → Bool := fun k => match (A.map (·.1))[k - pre.length]? with | some x => !pz c y.1 x | none => false
 have i : ∀ k, pre.length ≤ k → k < pre.length + A.length → Ask (pre ++ (A.map (·.1) ++ y.1 :: post)) f m (k : Int) (!g k) := by
  intro k h1 W
  obtain ⟨x, r, w⟩ := MQ pre (A.map (·.1)) (y.1 :: post) k h1 (by simp; omega)
  have D : mZ (pre ++ (A.map (·.1) ++ y.1 :: post)) m = some y.1 := by
   have := oy (pre ++ A.map (·.1)) y.1 post m (by rw [hm]; simp)
   simpa using this
  have T : G x := by
   obtain ⟨q, Q, rfl⟩ := bD.1 (dC r)
   exact s q (by simp [Q])
  refine ⟨y.1, x, _, D, w, M y.1 x (s y (by simp)) T, ?_⟩
  simp only [g, r, iu]
 obtain ⟨t, Y, t1, t2, t3, t4, e⟩ := Un (f := f) _ m g pre.length (pre.length + A.length) (by omega) i A.length mq pre.length (pre.length + A.length) (by omega) (by rw [oN]; omega) (aT _) (by omega) (aT _) (.inl rfl) (.inl rfl)
 rw [← hm, ← ha] at e
 rw [e, mV]
 simp only [Int.lt_irrefl, cD, aB, aK, pE]
 obtain ⟨P, S, rfl, I⟩ := xy (l := A) (n := t - pre.length) (by omega)
 simp only [aD] at o t2 t4 hm
 have E : pre ++ ((P ++ S).map (·.1) ++ y.1 :: post) = (pre ++ P.map (·.1)) ++ (S.map (·.1) ++ y.1 :: post) := by simp
 rw [E, Ug y.1 S.length (S.map (·.1)) (pre ++ P.map (·.1)) post mq m (t : Int) (by simp) (by rw [oN]; omega) (by simp; omega) (by rw [hm]; simp; omega) (by simp; omega)]
 refine ⟨P ++ y :: S, by simp, HU h F ?_ ?_, List.perm_middle.trans (ij y (P ++ S)).symm⟩
 ·intro A' z v B' b d
  simp only [aW] at d
  rw [← d.1]
  have J : 0 < P.length := by rw [b]; simp
  have hp : g (t - 1) = true := by
   rcases t3 with t3 | t3
   ·omega
   ·exact t3
  have j := zc (DU S b)
  rw [show P.length - 1 = t - 1 - pre.length by omega] at j
  simp only [g, j, gB] at hp
  exact .inr ⟨hp, R z (by rw [b]; simp)⟩
 ·intro A' z v B' b d
  have U : z = y := by
   cases A' with
   | nil => simpa using b.symm
   | cons _ A' => simp at b
  rw [U]
  have L : 0 < S.length := by rw [d]; simp
  have hp : g t = false := by
   rcases t4 with t4 | t4
   ·omega
   ·exact t4
  have j := zc (DJ P d)
  rw [I] at j
  simp only [g, j, Bool.not_eq_false'] at hp
  exact .inl hp
theorem On {α : Type} {A1 A2 B1 B2 C1 C2 : List α} (a : C1.Perm (A1 ++ B1)) (b : C2.Perm (A2 ++ B2)) : (C1 ++ C2).Perm ((A1 ++ A2) ++ (B1 ++ B2)) := by
 refine (a.append b).trans ?_
 simp only [aQ]
 refine cA A1 ?_
 exact gY B1 A2 B2
def PH (c : Formula → Formula → Int) (A B : List Formula) (a b p q : Nat) : Bool := match A[q - a]?, B[p - q - b]? with | some x, some y => !pz c y x | _, _ => false
theorem Jj {A B : List Formula} {a b p q : Nat} {x y : Formula} (h1 : A[q - a]? = some x) (d : B[p - q - b]? = some y) : PH c A B a b p q = !pz c y x := by simp only [PH, h1, d]
theorem TM (l : CU f c G) (A B : List (Formula × Nat)) (pre post : List Formula) (a p : Nat) (n : a = pre.length + A.length) (h : ∀ x ∈ A ++ B, G x.1) (q : Nat) (s : pre.length ≤ q) (t : q < a) (u : a ≤ p - q) (v : p - q < a + B.length) :
  Ask (pre ++ (A.map (·.1) ++ (B.map (·.1) ++ post))) f ((p - q : Nat) : Int) (q : Int) (!PH c (A.map (·.1)) (B.map (·.1)) pre.length a p q) := by
 obtain ⟨x, g, i⟩ := MQ pre (A.map (·.1)) (B.map (·.1) ++ post) q s (by simp; omega)
 obtain ⟨y, b, j⟩ := MQ (pre ++ A.map (·.1)) (B.map (·.1)) post (p - q) (by simp; omega) (by simp; omega)
 have o : G x := by
  obtain ⟨z, d, rfl⟩ := bD.1 (dC g)
  exact h z (by simp [d])
 have r : G y := by
  obtain ⟨z, d, rfl⟩ := bD.1 (dC b)
  exact h z (by simp [d])
 have k : mZ (pre ++ (A.map (·.1) ++ (B.map (·.1) ++ post))) ((p - q : Nat) : Int) = some y := by simpa using j
 refine ⟨y, x, _, k, i, l y x r o, ?_⟩
 rw [show p - q - (pre ++ A.map (·.1)).length = p - q - a by simp; omega] at b
 rw [Jj g b, iu]
abbrev T5 (c : Formula → Formula → Int) (G : Formula → Prop) (f : Formula × Formula → Option Int) (rec : List Formula → Int → Int → Int → ((Formula × Formula) → Option Int) → Option (List Formula)) (k : Nat) : Prop :=
 ∀ (A B : List (Formula × Nat)) (pre post : List Formula) (a m b : Int), A.length + B.length ≤ k → 0 < A.length → 0 < B.length → pD (pz c) A → pD (pz c) B →
  (∀ x ∈ A, ∀ y ∈ B, x.2 < y.2) → (∀ x ∈ A ++ B, G x.1) → (pre ++ (A.map (·.1) ++ (B.map (·.1) ++ post))).length ≤ 400000 → a = (pre.length : Int) → m = ((pre.length + A.length : Nat) : Int) → b = ((pre.length + A.length + B.length : Nat) : Int) →
  ∃ u, rec (pre ++ (A.map (·.1) ++ (B.map (·.1) ++ post))) a m b f = some (pre ++ (u.map (·.1) ++ post)) ∧ pD (pz c) u ∧ u.Perm (A ++ B)
theorem R7 (h : SWO (pz c)) {rec : List Formula → Int → Int → Int → ((Formula × Formula) → Option Int) → Option (List Formula)} {k : Nat} (ih : T5 c G f rec k) (A1 A2 B1 B2 : List (Formula × Nat)) (pre post : List Formula) (a m b : Int) (mid d t : Nat) (M : d = pre.length + (A1.length + A2.length)) (P : mid = (pre.length + (d + (B1.length + B2.length))) / 2) (J : A1.length = t - pre.length) (L : B1.length = mid - t) (Q : pre.length ≤ t) (R : t ≤ mid) (T : t ≤ d) (hk : A1.length + A2.length + (B1.length + B2.length) ≤ k + 1) (O : 2 ≤ A1.length + A2.length + (B1.length + B2.length)) (o : pD (pz c) (A1 ++ A2)) (q : pD (pz c) (B1 ++ B2)) (I : ∀ x ∈ A1 ++ A2, ∀ y ∈ B1 ++ B2, x.2 < y.2) (F : ∀ x ∈ (A1 ++ A2) ++ (B1 ++ B2), G x.1) (hl : pre.length + (A1.length + A2.length + (B1.length + B2.length + post.length)) ≤ 400000) (ha : a = (pre.length : Int)) (hm : m = (d : Int)) (hb : b = ((d + (B1.length + B2.length) : Nat) : Int)) (U : Lk (pz c) A1 B2) (W : Lk (pz c) B1 A2) :
  ∃ u, ((if t < d ∧ d < mid + d - t then od (pre ++ ((A1 ++ A2).map (·.1) ++ ((B1 ++ B2).map (·.1) ++ post))) (t : Int) m ((mid + d - t : Nat) : Int) f else some (pre ++ ((A1 ++ A2).map (·.1) ++ ((B1 ++ B2).map (·.1) ++ post)))).bind fun l =>
   ((if a < (t : Int) ∧ t < mid then rec l a (t : Int) (mid : Int) f else some l).bind fun l => if mid < mid + d - t ∧ ((mid + d - t : Nat) : Int) < b then rec l (mid : Int) ((mid + d - t : Nat) : Int) b f else some l)) = some (pre ++ (u.map (·.1) ++ post)) ∧ pD (pz c) u ∧ u.Perm ((A1 ++ A2) ++ (B1 ++ B2)) := by
 have Y : (if t < d ∧ d < mid + d - t then od (pre ++ ((A1 ++ A2).map (·.1) ++ ((B1 ++ B2).map (·.1) ++ post))) (t : Int) m ((mid + d - t : Nat) : Int) f else some (pre ++ ((A1 ++ A2).map (·.1) ++ ((B1 ++ B2).map (·.1) ++ post)))) =
   some (pre ++ (A1.map (·.1) ++ (B1.map (·.1) ++ (A2.map (·.1) ++ (B2.map (·.1) ++ post))))) := by
  by_cases i : t < d ∧ d < mid + d - t
  ·rw [aZ i]
   have := Uf (f := f) (A2.map (·.1)) (B1.map (·.1)) (pre ++ A1.map (·.1)) (B2.map (·.1) ++ post) (t : Int) m ((mid + d - t : Nat) : Int) (by simp; omega) (by simp; omega) (by simp; omega) (by simp; omega) (by simp; omega) (by simp; omega)
   simpa using this
  ·rw [aX i]
   have : A2 = [] ∨ B1 = [] := by
    by_cases h1 : A2.length = 0
    ·exact .inl (aV h1)
    ·exact .inr (aV (by omega))
   rcases this with rfl | rfl <;> simp
 rw [Y, aA]
 have Z : ∃ C1, (if a < (t : Int) ∧ t < mid then rec (pre ++ (A1.map (·.1) ++ (B1.map (·.1) ++ (A2.map (·.1) ++ (B2.map (·.1) ++ post))))) a (t : Int) (mid : Int) f else some (pre ++ (A1.map (·.1) ++ (B1.map (·.1) ++ (A2.map (·.1) ++ (B2.map (·.1) ++ post)))))) =
   some (pre ++ (C1.map (·.1) ++ (A2.map (·.1) ++ (B2.map (·.1) ++ post)))) ∧ pD (pz c) C1 ∧ C1.Perm (A1 ++ B1) := by
  by_cases i : a < (t : Int) ∧ t < mid
  ·rw [aZ i]
   exact ih A1 B1 pre (A2.map (·.1) ++ (B2.map (·.1) ++ post)) a t mid (by omega) (by omega) (by omega) o.left q.left (fun x g y A => I x (by simp [g]) y (by simp [A])) (fun x g => F x (by simp at g ⊢; rcases g with g | g <;> simp [g]))
    (by simp; omega) ha (by omega) (by omega)
  ·rw [aX i]
   refine ⟨A1 ++ B1, by simp, Jk h o.left q.left (fun A' x y B' D E => ?_), .refl _⟩
   have g1 : 0 < A1.length := by rw [D]; simp
   have g2 : 0 < B1.length := by rw [E]; simp
   omega
 obtain ⟨C1, r, v, j⟩ := Z
 have s := j.length_eq
 simp only [aD] at s
 rw [r, aA]
 have r3 : ∃ C2, (if mid < mid + d - t ∧ ((mid + d - t : Nat) : Int) < b then rec (pre ++ (C1.map (·.1) ++ (A2.map (·.1) ++ (B2.map (·.1) ++ post)))) (mid : Int) ((mid + d - t : Nat) : Int) b f else some (pre ++ (C1.map (·.1) ++ (A2.map (·.1) ++ (B2.map (·.1) ++ post))))) =
   some ((pre ++ C1.map (·.1)) ++ (C2.map (·.1) ++ post)) ∧ pD (pz c) C2 ∧ C2.Perm (A2 ++ B2) := by
  by_cases i : mid < mid + d - t ∧ ((mid + d - t : Nat) : Int) < b
  ·rw [aZ i]
   have := ih A2 B2 (pre ++ C1.map (·.1)) post mid ((mid + d - t : Nat) : Int) b (by omega) (by omega) (by omega) o.right q.right (fun x g y A => I x (by simp [g]) y (by simp [A])) (fun x g => F x (by simp at g ⊢; rcases g with g | g <;> simp [g]))
    (by simp; omega) (by simp; omega) (by simp; omega) (by simp; omega)
   simpa using this
  ·rw [aX i]
   refine ⟨A2 ++ B2, by simp, Jk h o.right q.right (fun A' x y B' D E => ?_), .refl _⟩
   have g1 : 0 < A2.length := by rw [D]; simp
   have g2 : 0 < B2.length := by rw [E]; simp
   omega
 obtain ⟨C2, w, z, n⟩ := r3
 rw [w]
 exact ⟨C1 ++ C2, by simp, QK h o q U W j n v z, On j n⟩
theorem OC (F : Nat) (E : 1000000 < F) (L : List Formula) (rec : List Formula → Int → Int → Int → ((Formula × Formula) → Option Int) → Option (List Formula)) (pl al g mid c p : Nat) (a b m : Int) (n : Nat → Bool) (u : 0 < al) (v : 0 < g) (z : pl + (al + g) ≤ 400000) (y : mid = (pl + (pl + al + g)) / 2) (w : c = pl + al) (hp : p + 1 = mid + c) (k : a + b = ((2 * mid : Nat) : Int) ∨ a + b = ((2 * mid + 1 : Nat) : Int)) (ha : a = (pl : Int)) (j : m = (c : Int)) (G : b = ((pl + al + g : Nat) : Int)) (h : ∀ q, pl ≤ q → q < c → c ≤ p - q → p - q < c + g → Ask L f ((p - q : Nat) : Int) (q : Int) (!n q)) :
  ∃ t l d o : Nat, (d = pl ∧ o = c ∧ c ≤ mid ∨ d + (pl + al + g) = mid + c ∧ o = mid ∧ mid < c) ∧ d ≤ t ∧ t ≤ o ∧ (t = d ∨ n (t - 1) = true) ∧ (t = o ∨ n t = false) ∧
    ((if decide (m > (mid : Int)) then some (wi0 .i64 (((mid + c : Nat) : Int) - b), (mid : Int)) else some (a, m) : Option (Int × Int)).bind fun x => mF L a b m f rec F x.1 x.2) =
     mF L a b m f rec (l + 1) (t : Int) (t : Int) := by
 by_cases s : mid < c
 ·obtain ⟨d, r⟩ : ∃ d : Nat, d + (pl + al + g) = mid + c := ⟨mid + c - (pl + al + g), by omega⟩
  obtain ⟨t, l, t1, t2, t3, t4, e⟩ := Tu (f := f) L a b m rec mid c p k j hp n d mid (by omega) (by omega) (by omega) (by omega) (fun q A D => h q (by omega) (by omega) (by omega) (by omega))
   (mid - d) F d mid (aT _) (by omega) (aT _) (by omega) (aT _) (.inl rfl) (.inl rfl)
  refine ⟨t, l, d, mid, .inr ⟨r, rfl, s⟩, t1, t2, t3, t4, ?_⟩
  have i : m > (mid : Int) := by omega
  simp only [i, bZ, aS, aA]
  rw [oK d (by omega) (by omega), e]
 ·obtain ⟨t, l, t1, t2, t3, t4, e⟩ := Tu (f := f) L a b m rec mid c p k j hp n pl c (by omega) (by omega) (by omega) (by omega) (fun q A D => h q (by omega) (by omega) (by omega) (by omega))
   (c - pl) F pl c (aT _) (by omega) (aT _) (by omega) (aT _) (.inl rfl) (.inl rfl)
  refine ⟨t, l, pl, c, .inl ⟨rfl, rfl, by omega⟩, t1, t2, t3, t4, ?_⟩
  have i : ¬ (m > (mid : Int)) := by omega
  simp only [i, cD, aB, aK, aA]
  rw [← e, ← ha, ← j]
set_option maxHeartbeats 2000000 in
theorem TQ (h : SWO (pz c)) (Z : CU f c G) : ∀ (k : Nat) (A B : List (Formula × Nat)) (pre post : List Formula) (n : Nat) (a m b : Int), A.length + B.length ≤ k → 0 < A.length → 0 < B.length → k < n → pD (pz c) A → pD (pz c) B →
  (∀ x ∈ A, ∀ y ∈ B, x.2 < y.2) → (∀ x ∈ A ++ B, G x.1) → (pre ++ (A.map (·.1) ++ (B.map (·.1) ++ post))).length ≤ 400000 → a = (pre.length : Int) → m = ((pre.length + A.length : Nat) : Int) → b = ((pre.length + A.length + B.length : Nat) : Int) →
  ∃ u, nh n (pre ++ (A.map (·.1) ++ (B.map (·.1) ++ post))) a m b f = some (pre ++ (u.map (·.1) ++ post)) ∧ pD (pz c) u ∧ u.Perm (A ++ B) := by
 intro k
 induction k with
 | zero => intro A B pre post n a m b h0 h1 h2; omega
 | succ k ih =>
  intro A B pre post n a m b h0 h1 h2 hn hA hB T R hl ha hm M
  obtain ⟨n, rfl⟩ := aO (by omega : n ≠ 0)
  have O := hl
  simp only [aD, cY] at O
  rw [nh]
  unfold qm
  by_cases c1 : A.length = 1
  ·obtain ⟨x, rfl⟩ := List.length_eq_one_iff.1 c1
   have : (wi0 .i64 (m - a) == 1) = true := by rw [oK 1 (by simp at hm; omega) (by omega)]; rfl
   simp only [this, aS]
   obtain ⟨u, u1, u2, u3⟩ := SV h Z x B pre post a m b hB (fun y hy => T x (by simp) y hy) (fun y hy => R y (by simpa using hy)) (by simpa using hl) ha (by simpa using hm) (by simpa using M)
   exact ⟨u, by simpa using u1, u2, by simpa using u3⟩
  have n1 : (wi0 .i64 (m - a) == 1) = false := by rw [oK A.length (by omega) (by omega)]; simp; omega
  simp only [n1, aB, aK]
  by_cases c2 : B.length = 1
  ·obtain ⟨y, rfl⟩ := List.length_eq_one_iff.1 c2
   have : (wi0 .i64 (b - m) == 1) = true := by rw [oK 1 (by simp at M; omega) (by omega)]; rfl
   simp only [this, aS]
   obtain ⟨u, u1, u2, u3⟩ := Tf h Z y A pre post a m hA (fun x U => T x U y (by simp)) (fun x U => R x (by simp at U ⊢; exact U.symm)) (by simpa using hl) ha hm
   exact ⟨u, by simpa using u1, u2, u3⟩
  have n2 : (wi0 .i64 (b - m) == 1) = false := by rw [oK B.length (by omega) (by omega)]; simp; omega
  simp only [n2, aB, aK]
  obtain ⟨F, hF, Y⟩ : ∃ F, F = mq ∧ 1000000 < F := ⟨mq, rfl, by rw [oN]; omega⟩
  rw [← hF]
  obtain ⟨mid, D⟩ : ∃ mid : Nat, mid = (pre.length + (pre.length + A.length + B.length)) / 2 := ⟨_, rfl⟩
  obtain ⟨d, j⟩ : ∃ d : Nat, d = pre.length + A.length := ⟨_, rfl⟩
  obtain ⟨p, hp⟩ : ∃ p : Nat, p + 1 = mid + d := ⟨mid + d - 1, by omega⟩
  have v : a + b = ((2 * mid : Nat) : Int) ∨ a + b = ((2 * mid + 1 : Nat) : Int) := by omega
  have E : wi0 .i64 (Int.fdiv (IntKind.u64.wrap (wi0 .i64 (a + b))) (2 ^ min (Int.toNat 1) (IntKind.bits .u64))) = (mid : Int) := by
   rcases v with h | h
   ·rw [DD _ h (by omega), show 2 * mid / 2 = mid by omega]
   ·rw [DD _ h (by omega), show (2 * mid + 1) / 2 = mid by omega]
  have w : m = (d : Int) := by omega
  have w1 : wi0 .i64 ((mid : Int) + m) = ((mid + d : Nat) : Int) := oK _ (by omega) (by omega)
  obtain ⟨I, o⟩ : ∃ I : Nat → Bool, I = PH c (A.map (·.1)) (B.map (·.1)) pre.length d p := ⟨_, rfl⟩
  have L : ∀ q, pre.length ≤ q → q < d → d ≤ p - q → p - q < d + B.length → Ask (pre ++ (A.map (·.1) ++ (B.map (·.1) ++ post))) f ((p - q : Nat) : Int) (q : Int) (!I q) := fun q g i q3 q4 => by rw [o]; exact TM Z A B pre post d p j R q g i q3 q4
  obtain ⟨t, n', lo, hi, a1, t1, t2, t3, t4, e⟩ := OC (f := f) F Y (pre ++ (A.map (·.1) ++ (B.map (·.1) ++ post))) (nh n) pre.length A.length B.length mid d p a b m I (by omega) (by omega) (by omega) D j hp v ha w M L
  simp only [E, w1]
  rw [e, Sf (f := f) _ a b m _ mid d t n' v w (by omega) (by omega) (by omega)]
  obtain ⟨A1, A2, rfl, J⟩ := xy (l := A) (n := t - pre.length) (by omega)
  obtain ⟨B1, B2, rfl, W⟩ := xy (l := B) (n := mid - t) (by omega)
  simp only [aD] at h0 h1 h2 O t1 t2 t3 t4 a1 hm M j D
  have P : ∀ q x y, ((A1 ++ A2).map (·.1))[q - pre.length]? = some x → ((B1 ++ B2).map (·.1))[p - q - d]? = some y → I q = !pz c y x := fun q x y r s => by rw [o]; exact Jj r s
  have l1 : Lk (pz c) A1 B2 := by
   intro A' z b' B' g i
   have g1 : 0 < A1.length := by rw [g]; simp
   have g2 : 0 < B2.length := by rw [i]; simp
   have Q : I (t - 1) = true := by
    rcases t3 with t3 | t3
    ·omega
    ·exact t3
   have r := zc (DU A2 g)
   have s := zc (DJ B1 i)
   rw [show A1.length - 1 = t - 1 - pre.length by omega] at r
   rw [show B1.length = p - (t - 1) - d by omega] at s
   rw [P _ _ _ r s, gB] at Q
   exact .inr ⟨Q, T z (by rw [g]; simp) b' (by rw [i]; simp)⟩
  have l2 : Lk (pz c) B1 A2 := by
   intro A' z b' B' g i
   have g1 : 0 < B1.length := by rw [g]; simp
   have g2 : 0 < A2.length := by rw [i]; simp
   have Q : I t = false := by
    rcases t4 with t4 | t4
    ·omega
    ·exact t4
   have r := zc (DU B2 g)
   have s := zc (DJ A1 i)
   rw [show B1.length - 1 = p - t - d by omega] at r
   rw [J] at s
   rw [P _ _ _ s r, Bool.not_eq_false'] at Q
   exact .inl Q
  exact R7 h (fun A B pre post a m b g i q3 => ih A B pre post n a m b g i q3 (by omega)) A1 A2 B1 B2 pre post a m b mid d t j (by rw [D]; congr 1; omega) J W (by omega) (by omega) (by omega) (by omega) (by omega) hA hB T R (by omega) ha w (by rw [M]; congr 1; omega) l1 l2
end
section
variable {c : Formula → Formula → Int} {G : Formula → Prop} {f : Formula × Formula → Option Int}
def yn (c : Formula → Formula → Int) : Nat → List (List (Formula × Nat)) → Prop
 | _, [] => True
 | o, A :: bs => pD (pz c) A ∧ (∀ x ∈ A, o ≤ x.2 ∧ x.2 < o + A.length) ∧ yn c (o + A.length) bs
def WB (s : Nat) : List (List (Formula × Nat)) → Prop
 | [] => True
 | A :: bs => A.length ≤ s ∧ (bs ≠ [] → A.length = s) ∧ WB s bs
theorem yn.append : ∀ {ds bs : List (List (Formula × Nat))} {o : Nat}, yn c o (ds ++ bs) ↔ yn c o ds ∧ yn c (o + ds.flatten.length) bs
 | [], bs, o => by simp [yn]
 | A :: ds, bs, o => by
  simp only [cE, yn, yn.append (ds := ds), bJ, aD, and_assoc, fJ]
def fm (bs : List (List (Formula × Nat))) : List Formula := bs.flatten.map (·.1)
theorem Iv (a b : List (List (Formula × Nat))) : fm (a ++ b) = fm a ++ fm b := by simp [fm]
theorem Lw (A : List (Formula × Nat)) (b : List (List (Formula × Nat))) : fm (A :: b) = A.map (·.1) ++ fm b := by simp [fm]
theorem sG (a : List (List (Formula × Nat))) : (fm a).length = a.flatten.length := by unfold fm; rw [cY]
theorem N9 (ds : List (List (Formula × Nat))) (C : List (Formula × Nat)) : (ds ++ [C]).flatten.length = ds.flatten.length + C.length := by rw [cR, aD]; simp only [bJ, dB, bV]
theorem RV (C : List (Formula × Nat)) (bs : List (List (Formula × Nat))) : fm ([C] ++ bs) = C.map (·.1) ++ fm bs := by simp [fm]
theorem FB {R : List Formula} {o : Nat} {x : Formula × Nat} (h : x ∈ R.zipIdx o) : x.1 ∈ R := List.fst_mem_of_mem_zipIdx h
theorem WB.two {s : Nat} {A : List (Formula × Nat)} {bs : List (List (Formula × Nat))} (d : 0 < s) (h : WB s (A :: bs)) (c : s < (A :: bs).flatten.length) : A.length = s ∧ ∃ B a, bs = B :: a ∧ (B.length = s ∨ a = []) ∧ B.length ≤ s ∧ WB s a := by
 cases bs with
 | nil => simp at c; have := h.1; omega
 | cons B a =>
  refine ⟨h.2.1 (by simp), B, a, rfl, ?_, h.2.2.1, h.2.2.2.2⟩
  by_cases b : a = []
  ·exact .inr b
  ·exact .inl (h.2.2.2.1 b)
theorem J6 (h : SWO (pz c)) (u : CU f c G) {ds bs : List (List (Formula × Nat))} {A B : List (Formula × Nat)} (hO : yn c 0 (ds ++ A :: B :: bs)) (s : ∀ x ∈ (ds ++ A :: B :: bs).flatten, G x.1) (i : (fm (ds ++ A :: B :: bs)).length ≤ 400000) (q : 0 < A.length) (r : 0 < B.length) (a m b : Int) (ha : a = (ds.flatten.length : Int)) (hm : m = ((ds.flatten.length + A.length : Nat) : Int)) (t : b = ((ds.flatten.length + A.length + B.length : Nat) : Int)) :
  ∃ C, nh mq (fm (ds ++ A :: B :: bs)) a m b f = some (fm ((ds ++ [C]) ++ bs)) ∧ yn c 0 ((ds ++ [C]) ++ bs) ∧ C.Perm (A ++ B) := by
 obtain ⟨h1, o⟩ := yn.append.1 hO
 obtain ⟨E, l, F, n, v⟩ := o
 have e : fm (ds ++ A :: B :: bs) = fm ds ++ (A.map (·.1) ++ (B.map (·.1) ++ fm bs)) := by rw [Iv, Lw, Lw]
 rw [e] at i ⊢
 have j := i
 simp only [aD, cY, sG] at j
 obtain ⟨C, z, D, k⟩ := TQ h u (A.length + B.length) A B (fm ds) (fm bs) mq a m b (aT _) q r (by rw [oN]; omega) E F (fun x d y w => by have := (l x d).2; have := (n y w).1; omega)
  (fun x d => s x (by
   rw [cR, bJ, bJ, aR, aR, aR]
   rcases aR.1 d with d | d
   ·exact .inr (.inl d)
   ·exact .inr (.inr (.inl d)))) i (by rw [ha, sG]) (by rw [hm, sG]) (by rw [t, sG])
 have g := k.length_eq
 simp only [aD] at g
 refine ⟨C, by rw [z, aQ, Iv, RV], ?_, k⟩
 ·rw [aQ, yn.append]
  refine ⟨h1, D, fun x d => ?_, ?_⟩
  ·rcases aR.1 (k.mem_iff.1 d) with d | d
   ·have := l x d; omega
   ·have := n x d; omega
  ·rw [g, ← fJ]; exact v
theorem Jv {ds bs : List (List (Formula × Nat))} {A B C : List (Formula × Nat)} (h : C.Perm (A ++ B)) : ((ds ++ [C]) ++ bs).flatten.Perm (ds ++ A :: B :: bs).flatten := by
 simp only [cR, bJ, dB, bV, aQ]
 refine cA _ ?_
 rw [← aQ]
 exact h.append_right _
theorem P5 (h : SWO (pz c)) (P : CU f c G) (s : Nat) (R : 0 < s) (T : s ≤ 1000000) (N : Nat) (hN : N ≤ 400000) : ∀ (k : Nat) (bs ds : List (List (Formula × Nat))) (n : Nat) (a b : Int), bs.length ≤ k → k < n → yn c 0 (ds ++ bs) → (∀ x ∈ (ds ++ bs).flatten, G x.1) → (ds ++ bs).flatten.length = N → WB s bs → (∀ A ∈ ds, A.length = 2 * s) →
  a = (ds.flatten.length : Int) → b = ((ds.flatten.length + 2 * s : Nat) : Int) →
  ∃ es r, nL (N : Int) (s : Int) f n (fm (ds ++ bs)) a b = some (fm (es ++ r), (es.flatten.length : Int)) ∧ yn c 0 (es ++ r) ∧ (es ++ r).flatten.Perm (ds ++ bs).flatten ∧ WB s r ∧ r.flatten.length < 2 * s ∧ (∀ A ∈ es, A.length = 2 * s) := by
 intro k
 induction k with
 | zero =>
  intro bs ds n a b hk Q hO t j u l ha M
  obtain ⟨n, rfl⟩ := aO (by omega : n ≠ 0)
  obtain rfl := aV (Nat.le_zero.1 hk)
  simp only [bV] at j
  rw [nL]
  have : ¬ (b ≤ (N : Int)) := by omega
  simp only [this, cD, aB, aK]
  exact ⟨ds, [], by rw [ha], hO, .refl _, trivial, by simp only [dB, bQ]; omega, l⟩
 | succ k ih =>
  intro bs ds n a b hk Q hO t j u l ha M
  obtain ⟨n, rfl⟩ := aO (by omega : n ≠ 0)
  rw [nL]
  by_cases hle : b ≤ (N : Int)
  ·simp only [hle, bZ, aS]
   have d := j
   rw [cR, aD] at d
   cases bs with
   | nil => simp only [dB, bQ] at d; omega
   | cons A bs =>
    obtain ⟨hA, B, i, rfl, o, J, v⟩ := WB.two R u (by omega)
    have L : B.length = s := by
     rcases o with o | rfl
     ·exact o
     ·simp only [bJ, dB, bV, aD] at d; omega
    have Z : wi0 .i64 (a + (s : Int)) = ((ds.flatten.length + A.length : Nat) : Int) := oK _ (by omega) (by omega)
    obtain ⟨C, W, Y, w⟩ := J6 h P hO t (by rw [sG]; omega) (by omega) (by omega) a _ b ha Z (by omega)
    rw [W, aA]
    have q := w.length_eq
    simp only [aD] at q
    have w2 : wi0 .i64 (2 * (s : Int)) = ((2 * s : Nat) : Int) := oK _ (by omega) (by omega)
    have O : (ds ++ [C]).flatten.length = ds.flatten.length + 2 * s := by rw [N9]; omega
    have w3 : wi0 .i64 (b + ((2 * s : Nat) : Int)) = (((ds ++ [C]).flatten.length + 2 * s : Nat) : Int) := oK _ (by omega) (by omega)
    have hp := Jv (ds := ds) (bs := i) w
    rw [w2, w3]
    obtain ⟨es, r, y, z, D, E, F, I⟩ := ih i (ds ++ [C]) n b _ (by simp at hk; omega) (by omega) Y (fun x U => t x (hp.mem_iff.1 U)) (by rw [hp.length_eq, j]) v (fun X g => by
     rcases aR.1 g with g | g
     ·exact l X g
     ·simp at g; rw [g]; omega) (by rw [O]; omega) rfl
    exact ⟨es, r, y, z, D.trans hp, E, F, I⟩
  ·simp only [hle, cD, aB, aK]
   refine ⟨ds, bs, by rw [ha], hO, .refl _, u, ?_, l⟩
   rw [cR, aD] at j
   omega
theorem WB.Hj {t : Nat} : ∀ {es : List (List (Formula × Nat))} {C : List (Formula × Nat)}, (∀ A ∈ es, A.length = t) → C.length ≤ t → WB t (es ++ [C])
 | [], C, _, a => ⟨a, fun h => absurd rfl h, trivial⟩
 | E :: es, C, h, a => ⟨by rw [h E (by simp)]; omega, fun _ => h E (by simp), WB.Hj (fun A b => h A (by simp [b])) a⟩
theorem M8 {s : Nat} {r : List (List (Formula × Nat))} {o : Nat} (b : WB s r) (d : r.flatten.length ≤ s) (hO : yn c o r) : pD (pz c) r.flatten ∧ ∀ x ∈ r.flatten, o ≤ x.2 ∧ x.2 < o + r.flatten.length := by
 cases r with
 | nil => exact ⟨.nil, fun x g => by cases g⟩
 | cons A r =>
  have : r.flatten = [] := by
   by_cases a : r = []
   ·rw [a]; rfl
   ·have := b.2.1 a
    rw [bJ, aD] at d
    exact aV (by omega)
  rw [bJ, this, bV]
  exact ⟨hO.1, hO.2.1⟩
theorem OQ (h : SWO (pz c)) (T : CU f c G) (N : Nat) (hN : N ≤ 400000) : ∀ (k s : Nat) (bs : List (List (Formula × Nat))) (n : Nat), N - s ≤ k → k < n → 0 < s → s ≤ 1000000 → yn c 0 bs → (∀ x ∈ bs.flatten, G x.1) → bs.flatten.length = N → WB s bs →
  ∃ u, nB (N : Int) f n (fm bs) (s : Int) = some (u.map (·.1)) ∧ pD (pz c) u ∧ u.Perm bs.flatten := by
 intro k
 induction k with
 | zero =>
  intro s bs n hk hn F o hO l i b
  obtain ⟨n, rfl⟩ := aO (by omega : n ≠ 0)
  rw [nB]
  have : ¬ ((s : Int) < (N : Int)) := by omega
  simp only [this, cD, aB, aK]
  refine ⟨bs.flatten, rfl, ?_, .refl _⟩
  cases bs with
  | nil => exact .nil
  | cons A bs =>
   have : bs.flatten = [] := by
    by_cases d : bs = []
    ·rw [d]; rfl
    ·have := b.2.1 d
     rw [bJ, aD] at i
     exact aV (by omega)
   rw [bJ, this, bV]
   exact hO.1
 | succ k ih =>
  intro s bs n hk hn F o hO l i b
  by_cases a8 : s < N
  ·obtain ⟨n, rfl⟩ := aO (by omega : n ≠ 0)
   rw [nB]
   have : ((s : Int) < (N : Int)) := by omega
   simp only [this, bZ, aS]
   have w1 : wi0 .i64 (2 * (s : Int)) = ((2 * s : Nat) : Int) := oK _ (by omega) (by omega)
   have w0 : wi0 .i64 ((s : Int) * 2) = ((2 * s : Nat) : Int) := oK _ (by omega) (by omega)
   have a7 : bs.length ≤ 2000000 := by
    have : ∀ {bs : List (List (Formula × Nat))}, WB s bs → bs.length ≤ bs.flatten.length + 1 := by
     intro bs
     induction bs with
     | nil => intro _; simp
     | cons A bs I =>
      intro b
      by_cases d : bs = []
      ·subst d; simp
      ·have := b.2.1 d
       have := I b.2.2
       simp only [aI, bJ, aD]
       omega
    have := this b
    omega
   obtain ⟨es, r, M, O, a, P, Q, R⟩ := P5 h T s F o N hN bs.length bs [] mq 0 ((2 * s : Nat) : Int) (aT _) (by rw [oN]; omega) (by simpa using hO) (by simpa using l) (by simpa using i) b (by simp) rfl (by simp)
   simp only [bN] at M a
   rw [w1, M, aA, w0]
   have j := a.length_eq
   rw [i, cR, aD] at j
   have w2 : wi0 .i64 ((es.flatten.length : Int) + (s : Int)) = ((es.flatten.length + s : Nat) : Int) := oK _ (by omega) (by omega)
   simp only [w2]
   by_cases hm : es.flatten.length + s < N
   ·have : (((es.flatten.length + s : Nat) : Int) < (N : Int)) := by omega
    simp only [this, bZ, aS, pE]
    cases r with
    | nil => simp only [dB, bQ] at j; omega
    | cons A r =>
     obtain ⟨hA, B, Y, rfl, t, a1, a6⟩ := WB.two F P (by omega)
     have E : Y = [] := by
      rcases t with t | t
      ·by_cases hr : Y = []
       ·exact hr
       ·simp only [bJ, aD] at Q; omega
      ·exact t
     subst E
     simp only [bJ, dB, bV, aD] at j Q
     obtain ⟨C, q1, U, W⟩ := J6 h T O (fun x q => l x (a.mem_iff.1 q)) (by rw [sG, a.length_eq]; omega) (by omega) (by omega) (es.flatten.length : Int) ((es.flatten.length + s : Nat) : Int) (N : Int) rfl (by omega) (by omega)
     rw [q1, aA]
     have w := W.length_eq
     simp only [aD] at w
     have hp := (Jv (ds := es) (bs := []) W).trans a
     simp only [bV] at U hp ⊢
     obtain ⟨u, J, L, v⟩ := ih (2 * s) (es ++ [C]) n (by omega) (by omega) (by omega) (by omega) U (fun x q => l x (hp.mem_iff.1 q)) (by rw [hp.length_eq, i]) (WB.Hj R (by omega))
     exact ⟨u, J, L, v.trans hp⟩
   ·have : ¬ (((es.flatten.length + s : Nat) : Int) < (N : Int)) := by omega
    simp only [this, cD, aB, aK, aA]
    obtain ⟨y, z⟩ := yn.append.1 O
    obtain ⟨Z, b2⟩ := M8 P (by omega) z
    have D : fm (es ++ r) = fm (es ++ [r.flatten]) := by simp [fm]
    have g : (es ++ [r.flatten]).flatten = (es ++ r).flatten := by simp
    rw [D]
    obtain ⟨u, J, L, v⟩ := ih (2 * s) (es ++ [r.flatten]) n (by omega) (by omega) (by omega) (by omega) (yn.append.2 ⟨y, Z, b2, trivial⟩) (fun x q => l x (a.mem_iff.1 (by rw [← g]; exact q))) (by rw [g, a.length_eq, i]) (WB.Hj R (by omega))
    exact ⟨u, J, L, by rw [g] at v; exact v.trans a⟩
  ·obtain ⟨n, rfl⟩ := aO (by omega : n ≠ 0)
   rw [nB]
   have : ¬ ((s : Int) < (N : Int)) := by omega
   simp only [this, cD, aB, aK]
   refine ⟨bs.flatten, rfl, ?_, .refl _⟩
   cases bs with
   | nil => exact .nil
   | cons A bs =>
    have : bs.flatten = [] := by
     by_cases d : bs = []
     ·rw [d]; rfl
     ·have := b.2.1 d
      rw [bJ, aD] at i
      exact aV (by omega)
    rw [bJ, this, bV]
    exact hO.1
theorem H2 : ∀ (l : List Formula) (o : Nat), (l.zipIdx o).Pairwise (fun x y => x.2 < y.2)
 | [], o => by simp
 | x :: l, o => by
  rw [kD, cN]
  refine ⟨fun y c => ?_, H2 l (o + 1)⟩
  obtain ⟨a, b⟩ := y
  have := List.le_snd_of_mem_zipIdx c
  simp only at this ⊢; omega
theorem Le (l : List Formula) (o : Nat) : ∀ x ∈ l.zipIdx o, o ≤ x.2 ∧ x.2 < o + l.length := by
 rintro ⟨a, b⟩ c
 have h1 := List.le_snd_of_mem_zipIdx c
 have d := List.snd_lt_add_of_mem_zipIdx c
 simp only at h1 d ⊢; omega
theorem Nt (h : SWO (pz c)) (k : CU f c G) (N : Nat) (t : N ≤ 300000) (R : List Formula) (ds : List (List (Formula × Nat))) (n : Nat) (a b : Int) (z : 0 < n) (hO : yn c 0 ds) (o : ∀ A ∈ ds, A.length = 20) (q : ∀ x ∈ ds.flatten, G x.1) (j : ∀ x ∈ R, G x) (y : ds.flatten.length + R.length = N) (r : R.length < 20) (ha : a = (ds.flatten.length : Int)) (w : b = ((ds.flatten.length + 20 : Nat) : Int)) :
  ∃ u, nC (N : Int) f n (fm ds ++ R) a b = some (u.map (·.1)) ∧ pD (pz c) u ∧ u.Perm (ds.flatten ++ R.zipIdx ds.flatten.length) := by
 obtain ⟨n, rfl⟩ := aO (by omega : n ≠ 0)
 rw [nC]
 have hle : ¬ (b ≤ (N : Int)) := by omega
 simp only [hle, cD, aB, aK, pE]
 obtain ⟨u, l, s, g⟩ := LF h k (fm ds) [] (R.zipIdx ds.flatten.length) a (N : Int) (H2 _ _) (fun x d => j x.1 (FB d)) (by simp only [aD, sG, cY, fI, bQ]; omega) (by rw [sG]; exact ha) (by rw [sG, fI]; omega)
 rw [List.zipIdx_map_fst, bV, bV] at l
 have i := g.length_eq
 rw [fI] at i
 have e : fm ds ++ u.map (·.1) = fm (ds ++ [u]) := by simp [fm]
 have hp : (ds ++ [u]).flatten.Perm (ds.flatten ++ R.zipIdx ds.flatten.length) := by
  rw [cR]
  refine cA _ ?_
  simpa using g
 rw [l, aA, e]
 obtain ⟨v, v1, v2, v3⟩ := OQ h k N (by omega) N 20 (ds ++ [u]) mq (by omega) (by rw [oN]; omega) (by omega) (by omega) (yn.append.2 ⟨hO, s, fun x d => by have := Le R ds.flatten.length x (g.mem_iff.1 d); omega, trivial⟩) (fun x d => by
  rw [cR, aR] at d
  rcases d with d | d
  ·exact q x d
  ·simp only [bJ, dB, bV] at d
   exact j x.1 (FB (g.mem_iff.1 d))) (by rw [hp.length_eq, aD, fI]; omega) (WB.Hj o (by omega))
 exact ⟨v, v1, v2, v3.trans hp⟩
theorem OZ (h : SWO (pz c)) (y : CU f c G) (N : Nat) (E : N ≤ 300000) : ∀ (k : Nat) (R : List Formula) (ds : List (List (Formula × Nat))) (n : Nat) (a b : Int), R.length ≤ k → k < n → yn c 0 ds → (∀ A ∈ ds, A.length = 20) → (∀ x ∈ ds.flatten, G x.1) → (∀ x ∈ R, G x) → ds.flatten.length + R.length = N →
  a = (ds.flatten.length : Int) → b = ((ds.flatten.length + 20 : Nat) : Int) →
  ∃ u, nC (N : Int) f n (fm ds ++ R) a b = some (u.map (·.1)) ∧ pD (pz c) u ∧ u.Perm (ds.flatten ++ R.zipIdx ds.flatten.length) := by
 intro k
 induction k with
 | zero =>
  intro R ds n a b hk F hO q r j s ha w
  obtain rfl := aV (Nat.le_zero.1 hk)
  exact Nt h y N E [] ds n a b F hO q r j s (by simp) ha w
 | succ k ih =>
  intro R ds n a b hk F hO q r j s ha w
  by_cases D : R.length < 20
  ·exact Nt h y N E R ds n a b (by omega) hO q r j s D ha w
  obtain ⟨n, rfl⟩ := aO (by omega : n ≠ 0)
  obtain ⟨R1, R2, rfl, o⟩ := xy (l := R) (n := 20) (by omega)
  rw [aD] at s hk
  rw [nC]
  have hle : b ≤ (N : Int) := by omega
  simp only [hle, bZ, aS]
  obtain ⟨u, I, J, t⟩ := LF h y (fm ds) R2 (R1.zipIdx ds.flatten.length) a b (H2 _ _) (fun x d => j x.1 (by simp [FB d])) (by simp only [aD, sG, cY, fI, bQ]; omega) (by rw [sG]; exact ha) (by rw [sG, fI]; omega)
  rw [List.zipIdx_map_fst] at I
  rw [I, aA]
  have g := t.length_eq
  rw [fI, o] at g
  have z : (ds ++ [u]).flatten.length = ds.flatten.length + 20 := by rw [N9, g]
  have L : wi0 .i64 (b + 20) = (((ds ++ [u]).flatten.length + 20 : Nat) : Int) := oK _ (by omega) (by omega)
  have e : fm ds ++ (u.map (·.1) ++ R2) = fm (ds ++ [u]) ++ R2 := by simp [fm]
  rw [e, L]
  obtain ⟨v, v1, v2, v3⟩ := ih R2 (ds ++ [u]) n b _ (by omega) (by omega) (yn.append.2 ⟨hO, J, fun x d => by have := Le R1 ds.flatten.length x (t.mem_iff.1 d); omega, trivial⟩) (fun A i => by
   rcases aR.1 i with i | i
   ·exact q A i
   ·simp at i; rw [i]; exact g) (fun x d => by
   rw [cR, aR] at d
   rcases d with d | d
   ·exact r x d
   ·simp only [bJ, dB, bV] at d
    exact j x.1 (by simp [FB (t.mem_iff.1 d)])) (fun x d => j x (by simp [d])) (by omega) (by omega) rfl
  refine ⟨v, v1, v2, v3.trans ?_⟩
  rw [z, cR, List.zipIdx_append, o, aQ]
  refine cA _ ?_
  simp only [bJ, dB, bV]
  exact t.append_right _
theorem L5 (h : SWO (pz c)) (g : CU f c G) (l : List Formula) (d : ∀ x ∈ l, G x) (i : l.length ≤ 300000) : pX l f = some (Kf (pz c) l) := by
 unfold pX su
 obtain ⟨u, a, j, b⟩ := OZ h g l.length i l.length l [] mq 0 20 (aT _) (by rw [oN]; omega) trivial (by simp) (by simp) d (by simp) rfl rfl
 simp only [fm, dB, gL, bN, bQ] at a b
 rw [a, aA, QD h j b]
end
theorem LZ {P : Formula → Prop} (h : ∀ f, (∀ k ∈ f.Kids, P k) → P f) : ∀ f, P f := by
 intro f
 refine Formula.rec (motive_1 := P) (motive_2 := fun b => ∀ k ∈ b, P k) ?_ ?_ ?_ f
 ·intro o k r b ih; exact h _ ih
 ·intro k hk; cases hk
 ·intro k b h1 c x a
  rcases aM.1 a with rfl | a
  ·exact h1
  ·exact c x a
mutual
def mB : Formula → Nat
 | ⟨_, _, _, ks⟩ => 1 + nodesL ks
def nodesL : List Formula → Nat
 | [] => 0
 | k :: ks => mB k + nodesL ks
end
mutual
def tV : Formula → Nat
 | ⟨_, _, _, ks⟩ => deepL ks + 1
def deepL : List Formula → Nat
 | [] => 0
 | k :: ks => max (tV k) (deepL ks)
end
theorem sI (f : Formula) : mB f = 1 + nodesL f.Kids := by cases f; rw [mB]
theorem rH (f : Formula) : tV f = deepL f.Kids + 1 := by cases f; rw [tV]
theorem AO : ∀ {a : List Formula} {k : Formula}, k ∈ a → mB k ≤ nodesL a
 | x :: a, k, h => by
  rw [nodesL]
  rcases aM.1 h with rfl | h
  ·omega
  ·have := AO h; omega
theorem yR : ∀ {a : List Formula} {k : Formula}, k ∈ a → tV k ≤ deepL a
 | x :: a, k, h => by
  rw [deepL]
  rcases aM.1 h with rfl | h
  ·omega
  ·have := yR h; omega
theorem Dy : ∀ f : Formula, tV f ≤ mB f := by
 refine LZ fun f ih => ?_
 rw [rH, sI]
 have : ∀ a : List Formula, (∀ k ∈ a, tV k ≤ mB k) → deepL a ≤ nodesL a := by
  intro a
  induction a with
  | nil => intro _; rw [deepL]; omega
  | cons k a b =>
   intro h
   have := b (fun x c => h x (by simp [c]))
   have := h k (by simp)
   rw [deepL, nodesL]; omega
 have := this f.Kids ih
 omega
theorem xz : ∀ a : List Formula, a.length ≤ nodesL a
 | [] => by rw [nodesL]; simp
 | k :: a => by have := xz a; have := sI k; rw [nodesL, aI]; omega
theorem M4 (a : Nat) (hm : a ≤ 4096) (rec : Formula → Int → Option (Int × Int)) : ∀ (b : List Formula), (∀ k ∈ b, ∀ q : Nat, q ≤ 4096 → ∃ n d : Nat, rec k (q : Int) = some ((n : Int), (d : Int)) ∧ 1 ≤ n ∧ n ≤ mB k ∧ d ≤ mB k ∧ (mB k ≤ q → n = mB k ∧ d = tV k) ∧ (q < mB k → q < n)) → ∀ x y : Nat, x + nodesL b ≤ 100000000 →
  ∃ n d : Nat, qE (a : Int) rec b (x : Int) (y : Int) = some ((n : Int), (d : Int)) ∧ x ≤ n ∧ n ≤ x + nodesL b ∧ d ≤ max y (nodesL b) ∧ (x + nodesL b ≤ a → n = x + nodesL b ∧ d = max y (deepL b)) ∧ (a < x + nodesL b → a < n)
 | [], _, x, y, _ => by
  rw [qE, nodesL, deepL]
  exact ⟨x, y, rfl, by omega, by omega, by omega, fun _ => ⟨by omega, by omega⟩, fun h => by omega⟩
 | k :: b, g, x, y, o => by
  rw [nodesL] at o ⊢
  rw [qE, deepL]
  by_cases i : (x : Int) > (a : Int)
  ·simp only [i, bZ, aS]
   exact ⟨x, y, rfl, by omega, by omega, by omega, fun _ => by omega, fun h => by omega⟩
  ·simp only [i, cD, aB, aK]
   have s : wi0 .i64 ((a : Int) - (x : Int)) = ((a - x : Nat) : Int) := by rw [mr (by omega) (by omega)]; omega
   obtain ⟨m, d, e, h1, v, w, c, l⟩ := g k (by simp) (a - x) (by omega)
   rw [s, e, aA]
   have t : wi0 .i64 ((x : Int) + (m : Int)) = ((x + m : Nat) : Int) := by rw [mr (by omega) (by omega)]; omega
   have u : (if (d : Int) > (y : Int) then (d : Int) else (y : Int)) = ((max y d : Nat) : Int) := by split <;> omega
   simp only [t, u]
   obtain ⟨n, j, e', g1, g2, g3, g4, g5⟩ := M4 a hm rec b (fun z r => g z (by simp [r])) (x + m) (max y d) (by omega)
   refine ⟨n, j, e', by omega, by omega, by omega, fun h => ?_, fun h => ?_⟩
   ·obtain ⟨rfl, rfl⟩ := c (by omega)
    obtain ⟨rfl, rfl⟩ := g4 (by omega)
    exact ⟨by omega, by omega⟩
   ·by_cases hk : a - x < mB k
    ·have := l hk; omega
    ·obtain ⟨rfl, _⟩ := c (by omega)
     exact g5 (by omega)
theorem O3 : ∀ (n : Nat) (f : Formula), tV f ≤ n → mB f ≤ 50000000 → ∀ q : Nat, q ≤ 4096 → ∃ m d : Nat, pC n f (q : Int) = some ((m : Int), (d : Int)) ∧ 1 ≤ m ∧ m ≤ mB f ∧ d ≤ mB f ∧ (mB f ≤ q → m = mB f ∧ d = tV f) ∧ (q < mB f → q < m) := by
 intro n
 induction n with
 | zero => intro f h; rw [rH] at h; omega
 | succ n ih =>
  intro f g r q a
  rw [rH] at g
  have i := sI f
  rw [pC]
  unfold wy
  obtain ⟨m, d, e, h1, l, o, b, c⟩ := M4 q a (pC n) f.Kids (fun k hk q a => ih k (by have := yR hk; omega) (by have := AO hk; omega) q a) 1 0 (by omega)
  have e' : qE (q : Int) (pC n) f.Kids 1 0 = some ((m : Int), (d : Int)) := e
  rw [e', aA]
  have j : wi0 .i64 ((d : Int) + 1) = ((d + 1 : Nat) : Int) := by rw [mr (by omega) (by omega)]; omega
  simp only [j]
  refine ⟨m, d + 1, rfl, h1, by omega, by omega, fun h => ?_, fun h => c (by omega)⟩
  obtain ⟨rfl, rfl⟩ := b (by omega)
  rw [rH]
  exact ⟨by omega, by omega⟩
theorem Qu (f : Formula) (c : mB f ≤ 50000000) : ya f = some (if mB f ≤ 4096 then ((mB f : Int), (tV f : Int)) else (0, 0)) := by
 unfold ya
 have := Dy f
 obtain ⟨m, d, e, h1, g, i, a, b⟩ := O3 mq f (by rw [oN]; omega) c 4096 (aT _)
 have e' : pC mq f 4096 = some ((m : Int), (d : Int)) := e
 rw [e', aA]
 by_cases h : mB f ≤ 4096
 ·obtain ⟨rfl, rfl⟩ := a h
  have : ¬ ((mB f : Int) > 4096) := by omega
  simp [this, h]
 ·have := b (by omega)
  have : ((m : Int) > 4096) := by omega
  simp [this, h]
def xH : lg := ⟨zS, zS⟩
def Fv (f : Formula) : Bool := if f.Op = 1 then np f.lg && decide (f.Kids.length = 0) && decide (f.K = 0) else if f.Op = 2 ∨ f.Op = 3 then lQ f.lg xH && decide (f.K = 0) else decide (f.Op = 4) && lQ f.lg xH && decide (0 ≤ f.K) && decide (f.K ≤ (f.Kids.length : Int)) && decide (1 ≤ f.Kids.length)
theorem QM (f : Formula) : xY f = some (Fv f) := by
 unfold xY Fv
 simp only [vj, aA, pE]
 by_cases h1 : f.Op = 1
 ·simp only [h1, bT, aS]
  cases o : np f.lg
  ·simp
  ·by_cases j : f.Kids.length = 0
   ·have : f.Kids = [] := aV j
    by_cases hk : f.K = 0 <;> simp [this, hk]
   ·have : ((f.Kids.length : Int) == 0) = false := by simp; intro h; exact j (by simp [h])
    simp only [aS, aA, this, aB, aK, j, cD, Bool.and_false, jU]
 ·have l : (f.Op == 1) = false := by simpa using h1
  simp only [l, aB, aK, h1]
  by_cases c : f.Op = 2 ∨ f.Op = 3
  ·have g : (if f.Op == 2 then some (f.Op == 2) else some (f.Op == 3)) = some true := by
    rcases c with h | h <;> simp [h]
   simp only [g, aA, aS, c]
   cases d : lQ f.lg ⟨zS, zS⟩ <;> by_cases hk : f.K = 0 <;> simp [xH, d, hk]
  ·have g : (if f.Op == 2 then some (f.Op == 2) else some (f.Op == 3)) = some false := by
    have a : f.Op ≠ 2 := fun h => c (.inl h)
    have b : f.Op ≠ 3 := fun h => c (.inr h)
    simp [a, b]
   simp only [g, aA, aB, aK, c]
   by_cases i : f.Op = 4
   ·simp only [i, bT, aS, aA, bZ, gE]
    cases d : lQ f.lg ⟨zS, zS⟩
    ·simp [xH, d]
    ·by_cases c1 : 0 ≤ f.K <;> by_cases c2 : f.K ≤ (f.Kids.length : Int) <;> by_cases k : 1 ≤ f.Kids.length <;> simp [xH, d, c1, c2, k] <;> omega
   ·have n : (f.Op == 4) = false := by simpa using i
    simp [n, i]
mutual
def yd : Formula → Bool
 | ⟨o, n, r, ks⟩ => Fv ⟨o, n, r, ks⟩ && decide (ks.length ≤ 8) && wellL ks
def wellL : List Formula → Bool
 | [] => true
 | k :: ks => yd k && wellL ks
end
theorem J7 (f : Formula) : yd f = (Fv f && decide (f.Kids.length ≤ 8) && wellL f.Kids) := by cases f; rw [yd]
theorem Iz : ∀ a : List Formula, wellL a = a.all yd
 | [] => rfl
 | k :: a => by rw [wellL, Iz a]; rfl
theorem JQ (f : Formula → Option Bool) : ∀ (l : List Formula) (i : Nat), oF f l i = yo f l i
 | [], i => by rw [oF]; rfl
 | x :: l, i => by
  rw [oF, yo]
  cases f x with
  | none => rfl
  | some b =>
   simp only [aA]
   rw [JQ f l (i + 1)]
theorem FM (f : Formula → Option Bool) (p : Formula → Bool) (l : List Formula) (h : ∀ x ∈ l, f x = some (p x)) : pk l f = some (l.any p) := by
 unfold pk ua
 rw [JQ]
 rcases BT f p l 0 h with ⟨e, h1⟩ | ⟨A, x, B, rfl, h1, a, e⟩
 ·rw [e, aA]
  have : l.any p = false := by rw [kw]; intro x b; rw [h1 x b]; simp
  rw [this]; rfl
 ·rw [e, aA]
  have : (A ++ x :: B).any p = true := by simp [a]
  rw [this]
  congr 1
theorem OA : ∀ (n : Nat) (f : Formula), tV f ≤ n → sD n f = some (yd f) := by
 intro n
 induction n with
 | zero => intro f h; rw [rH] at h; omega
 | succ n ih =>
  intro f h
  rw [rH] at h
  rw [sD]
  unfold wE
  rw [QM, aA, J7, FM _ (fun k => !yd k) f.Kids (fun k hk => by unfold vi; rw [ih k (by have := yR hk; omega)]; rfl)]
  rw [Iz]
  have e : (!(f.Kids.any fun k => !yd k)) = f.Kids.all yd := by rw [List.all_eq_not_any_not]
  cases Fv f
  ·rfl
  ·by_cases a : f.Kids.length ≤ 8
   ·have : ((f.Kids.length : Int) ≤ 8) := by omega
    simp [a, this, e]
   ·have : ¬ ((f.Kids.length : Int) ≤ 8) := by omega
    simp [a, this]
def qO (f : Formula) : Bool := decide (mB f ≤ 64) && decide (tV f ≤ 6) && yd f
theorem Aw (f : Formula) (b : mB f ≤ 50000000) : qj f = some (qO f) := by
 unfold qj qO
 have c := Dy f
 rw [Qu f b, aA, OA mq f (by rw [oN]; omega)]
 have h1 := sI f
 by_cases h : mB f ≤ 4096
 ·simp only [h, aS]
  have a : ((mB f : Int) ≥ 1) := by omega
  simp only [a, bZ, aS, aA, pE]
  by_cases c1 : mB f ≤ 64 <;> by_cases c2 : tV f ≤ 6
  ·have d1 : ((mB f : Int) ≤ 64) := by omega
   have d2 : ((tV f : Int) ≤ 6) := by omega
   simp [c1, c2, d1, d2]
  ·have d1 : ((mB f : Int) ≤ 64) := by omega
   have d2 : ¬ ((tV f : Int) ≤ 6) := by omega
   simp [c1, c2, d1, d2]
  ·have d1 : ¬ ((mB f : Int) ≤ 64) := by omega
   simp [c1, d1]
  ·have d1 : ¬ ((mB f : Int) ≤ 64) := by omega
   simp [c1, d1]
 ·simp only [h, aK]
  have : ¬ mB f ≤ 64 := by omega
  simp [this]
theorem Formula.ext' {a b : Formula} (h1 : a.Op = b.Op) (c : a.K = b.K) (d : a.lg = b.lg) (g : a.Kids = b.Kids) : a = b := by
 cases a; cases b; simp only at h1 c d g; subst h1 c d g; rfl
theorem N6 (g : Formula × Formula → Option Bool) : ∀ (l m : List Formula), l.length = m.length → (∀ x ∈ l, ∀ y, ∃ b, g (x, y) = some b ∧ (b = true ↔ x = y)) → ∀ (A : List Formula),
  ∃ b, mT (A ++ m) g l A.length = some b ∧ (b = true ↔ l = m)
 | [], m, c, _, A => by
  obtain rfl := aV c.symm
  exact ⟨true, rfl, by simp⟩
 | x :: l, [], c, _, A => by simp at c
 | x :: l, y :: m, c, d, A => by
  rw [mT]
  obtain ⟨b, e, h⟩ := d x (by simp) y
  have i1 : mZ (A ++ y :: m) (A.length : Int) = some y := oy _ _ _ _ rfl
  rw [i1, aA, e, aA]
  cases b with
  | false =>
   refine ⟨false, rfl, ?_⟩
   have : x ≠ y := fun a => by have := h.2 a; simp at this
   simp [this]
  | true =>
   have a := h.1 rfl
   obtain ⟨b, i, n⟩ := N6 g l m (by simpa using c) (fun z o => d z (by simp [o])) (A ++ [y])
   simp only [bU, aB, aK]
   have j : A ++ y :: m = (A ++ [y]) ++ m := by simp
   have k : A.length + 1 = (A ++ [y]).length := by simp
   rw [j, k, i]
   exact ⟨b, rfl, by rw [n]; simp [a]⟩
theorem P4 : ∀ (n : Nat) (f : Formula), tV f ≤ n → ∀ g, ∃ b, pu n f g = some b ∧ (b = true ↔ f = g) := by
 intro n
 induction n with
 | zero => intro f h; rw [rH] at h; omega
 | succ n ih =>
  intro f h g
  rw [rH] at h
  rw [pu]
  unfold xj
  by_cases h1 : f.Op = g.Op
  ·by_cases a : f.K = g.K
   ·by_cases c : f.lg = g.lg
    ·have i : lQ f.lg g.lg = true := lO.2 c
     simp only [h1, a, i, bT, aS, aA]
     unfold nW
     by_cases d : f.Kids.length = g.Kids.length
     ·have : ((f.Kids.length : Int) != (g.Kids.length : Int)) = false := by simp [d]
      simp only [this, aB, aK]
      obtain ⟨b, e, l⟩ := N6 (fun x => pu n x.1 x.2) f.Kids g.Kids d (fun x o y => ih x (by have := yR o; omega) y) []
      simp only [bN, bQ] at e
      rw [e]
      refine ⟨b, by simp, l.trans ⟨fun hk => Formula.ext' h1 a c hk, fun hk => by rw [hk]⟩⟩
     ·have : ((f.Kids.length : Int) != (g.Kids.length : Int)) = true := by simp; omega
      simp only [this, aS]
      exact ⟨false, rfl, by simp; intro hk; rw [hk] at d; exact d rfl⟩
    ·have i : lQ f.lg g.lg = false := by rw [← kI, lO]; exact c
     simp only [h1, a, i, bT, aS, aA, aB, aK]
     exact ⟨false, rfl, by simp; intro hk; rw [hk] at c; exact c rfl⟩
   ·have k : (f.K == g.K) = false := by simpa using a
    simp only [h1, k, bT, aS, aA, aB, aK]
    exact ⟨false, rfl, by simp; intro hk; rw [hk] at a; exact a rfl⟩
  ·have j : (f.Op == g.Op) = false := by simpa using h1
   simp only [j, aA, aB, aK]
   exact ⟨false, rfl, by simp; intro hk; rw [hk] at h1; exact h1 rfl⟩
mutual
def BN : Formula → List Int
 | ⟨o, k, r, ks⟩ => o :: (if o = 1 then rC r else (if o = 4 then [k] else []) ++ ((ks.length : Int) :: bytesFL ks))
def bytesFL : List Formula → List Int
 | [] => []
 | k :: ks => BN k ++ bytesFL ks
end
theorem M5 (f : Formula) : BN f = f.Op :: (if f.Op = 1 then rC f.lg else (if f.Op = 4 then [f.K] else []) ++ ((f.Kids.length : Int) :: bytesFL f.Kids)) := by cases f; rw [BN]
theorem FH {f : Formula} (h : yd f = true) : f.Kids.length ≤ 8 ∧ wellL f.Kids = true ∧ ((f.Op = 1 ∧ np f.lg = true ∧ f.Kids = [] ∧ f.K = 0) ∨ ((f.Op = 2 ∨ f.Op = 3) ∧ f.lg = xH ∧ f.K = 0) ∨ (f.Op = 4 ∧ f.lg = xH ∧ 0 ≤ f.K ∧ f.K ≤ (f.Kids.length : Int) ∧ 1 ≤ f.Kids.length)) := by
 rw [J7] at h
 simp only [bA, bX] at h
 obtain ⟨⟨h1, a⟩, b⟩ := h
 refine ⟨a, b, ?_⟩
 unfold Fv at h1
 split at h1
 ·rename_i c
  simp only [bA, bX] at h1
  exact .inl ⟨c, h1.1.1, aV h1.1.2, h1.2⟩
 ·split at h1
  ·rename_i c
   simp only [bA, bX, lO] at h1
   exact .inr (.inl ⟨c, h1.1, h1.2⟩)
  ·simp only [bA, bX, lO] at h1
   exact .inr (.inr ⟨h1.1.1.1.1, h1.1.1.1.2, h1.1.1.2, h1.1.2, h1.2⟩)
theorem Rc : ∀ (n : Nat) (f : Formula), tV f ≤ n → yd f = true → ∀ l : List Int, l.length + 40 * mB f ≤ 8000 → qU n l f = some (l ++ BN f) ∧ (BN f).length ≤ 40 * mB f := by
 intro n
 induction n with
 | zero => intro f h; rw [rH] at h; omega
 | succ n ih =>
  intro f u hw l s
  rw [rH] at u
  have v := sI f
  obtain ⟨h1, r, o⟩ := FH hw
  rw [qU]
  unfold wL
  have d : 0 ≤ f.Op ∧ f.Op < 128 := by rcases o with h | h | h <;> omega
  rw [zi d.1 d.2 (by omega), aA, M5]
  have key : ∀ (a : List Formula), (∀ k ∈ a, k ∈ f.Kids) → wellL a = true → ∀ l : List Int, l.length + 40 * nodesL a ≤ 8000 → rL (qU n) a l = some (l ++ bytesFL a) ∧ (bytesFL a).length ≤ 40 * nodesL a := by
   intro a
   induction a with
   | nil => intro _ _ l _; rw [rL, bytesFL]; simp
   | cons k a q =>
    intro hk b l s
    rw [wellL, bA] at b
    rw [nodesL] at s
    obtain ⟨i, x⟩ := ih k (by have := yR (hk k (by simp)); omega) b.1 l (by omega)
    obtain ⟨c, j⟩ := q (fun z w => hk z (by simp [w])) b.2 (l ++ BN k) (by simp; omega)
    rw [rL, i, aA, c, bytesFL, nodesL]
    exact ⟨by simp, by simp; omega⟩
  have hlen : 0 ≤ (f.Kids.length : Int) ∧ (f.Kids.length : Int) < 128 := by omega
  by_cases c1 : f.Op = 1
  ·have t : np f.lg = true := by rcases o with h | h | h; exact h.2.1; omega; omega
   have := oC t
   simp only [c1, bT, aS]
   rw [Kl t (by simp; omega), aA]
   exact ⟨by simp, by simp; omega⟩
  ·have i : (f.Op == 1) = false := by simpa using c1
   simp only [i, aB, aK, c1]
   by_cases g : f.Op = 4
   ·have hk : 0 ≤ f.K ∧ f.K < 128 := by rcases o with h | h | h <;> omega
    simp only [g, bT, aS]
    rw [zi hk.1 hk.2 (by simp; omega)]
    simp only [aA]
    rw [zi hlen.1 hlen.2 (by simp; omega)]
    simp only [aA]
    obtain ⟨c, j⟩ := key f.Kids (fun k hk => hk) r (l ++ [4] ++ [f.K] ++ [(f.Kids.length : Int)]) (by simp; omega)
    rw [c]
    exact ⟨by simp, by simp; omega⟩
   ·have j : (f.Op == 4) = false := by simpa using g
    simp only [j, aB, aK, g, aA]
    rw [zi hlen.1 hlen.2 (by simp; omega)]
    simp only [aA]
    obtain ⟨c, y⟩ := key f.Kids (fun k hk => hk) r (l ++ [f.Op] ++ [(f.Kids.length : Int)]) (by simp; omega)
    rw [c]
    exact ⟨by simp, by simp; omega⟩
def FU (f : Formula) : List Int := if qO f then BN f else []
abbrev Gd (f : Formula) : Prop := mB f ≤ 50000000
theorem Gw {f : Formula} (h : qO f = true) : mB f ≤ 64 ∧ tV f ≤ 6 ∧ yd f = true := by
 unfold qO at h
 simp only [bA, bX] at h
 exact ⟨h.1.1, h.1.2, h.2⟩
theorem QX (f : Formula) (c : Gd f) (l : List Int) (i : l.length ≤ 5000) : xu l f = some (qO f, l ++ FU f) ∧ (FU f).length ≤ 2560 := by
 unfold xu FU
 rw [Aw f c, aA]
 cases h : qO f
 ·simp
 ·obtain ⟨h1, g, b⟩ := Gw h
  obtain ⟨a, d⟩ := Rc mq f (by rw [oN]; omega) b l (by omega)
  simp only [bU, aB, aK, a, aA, aS]
  exact ⟨trivial, by omega⟩
theorem HD (f : Formula) (b : Gd f) : uk f = some (FU f) := by
 unfold uk
 obtain ⟨a, c⟩ := QX f b [] (by simp)
 rw [a, aA, pE]
 unfold uN
 simp only [bN]
 rw [Np (by omega)]
 rfl
def LP (f g : Formula) : Int := zb (FU f) (FU g)
theorem MU (f g : Formula) (a : Gd f) (b : Gd g) : uj f g = some (LP f g) := by
 unfold uj xw
 rw [HD f a, HD g b]
 rfl
theorem Dq (f g : Formula) : pz LP f g = Op.bytesLess (wc (FU f)) (wc (FU g)) := by
 rw [cU]
 have h : pz LP f g = true ↔ LP f g < 0 := by unfold pz; exact decide_eq_true_iff
 exact h.trans (Dj _ _)
theorem TW : SWO (pz LP) where
 Tk x := by rw [Dq, Ct]
 tr x y z h1 a := by rw [Dq] at *; exact BJ _ _ _ h1 a
 Pu x y z h := by
  rw [Dq] at h
  rw [Dq, Dq]
  rcases DK (wc (FU x)) (wc (FU y)) with h1 | h1 | h1
  ·exact .inl h1
  ·rw [h1] at h; exact .inr h
  ·exact .inr (BJ _ _ _ h1 h)
def CH (l : List Formula) : List Formula := Kf (pz LP) l
theorem Jd (l : List Formula) (a : ∀ x ∈ l, Gd x) (b : l.length ≤ 300000) : vY l = some (CH l) := by
 unfold vY tz
 rw [ob (by simp; omega) (by simp; omega)]
 simp only [aA, bN, pE]
 exact L5 TW (fun x y c d => MU x y c d) l a b
theorem M6 {α : Type} (lt : α → α → Bool) (l : List α) (k : α) : (GH lt l k).Perm (l ++ [k]) := by
 unfold GH
 refine List.perm_middle.trans ((List.Perm.cons _ ?_).trans (ij k l).symm)
 have := List.filter_append_perm (fun x => !lt k x) l
 simpa using this
theorem M7 {α : Type} (lt : α → α → Bool) (l : List α) : (Kf lt l).Perm l := by
 suffices H : ∀ (l a : List α), (l.foldl (GH lt) a).Perm (a ++ l) by have := H l []; rwa [bN] at this
 intro l
 induction l with
 | nil => intro a; simp
 | cons k l ih =>
  intro a
  rw [jl]
  refine (ih _).trans ?_
  have := (M6 lt a k).append_right l
  simpa using this
theorem E2 (l : List Formula) : (CH l).Perm l := M7 _ l
noncomputable def Bi (a b : Formula) : Bool := @decide (a = b) (Classical.propDecidable _)
theorem P7 {a b : Formula} : Bi a b = true ↔ a = b := by unfold Bi; simp
theorem Qc (a b : Formula) (h : Gd a) : pu mq a b = some (Bi a b) := by
 have := Dy a
 obtain ⟨x, e, c⟩ := P4 mq a (by rw [oN]; omega) b
 rw [e]; congr 1
 rw [cU, c, P7]
def To : Formula := ⟨0, 0, ⟨zS, zS⟩, []⟩
theorem OK (f1 : Formula × Formula → Option Bool) (i : Int) : ∀ (n : Nat) (l : List Formula) (k j : Int), (∀ x ∈ l, ∀ y ∈ l, f1 (x, y) = some (Bi x y)) → nX i f1 n l k j = Ay Bi i n l k j
 | 0, l, k, j, _ => by rw [nX, Ay]
 | n + 1, l, k, j, h => by
  rw [nX, Ay]
  split
  ·cases d : mZ (l.drop (Int.toNat i)) j with
   | none => rfl
   | some x =>
    cases g : mZ (l.drop (Int.toNat i)) (wi0 .i64 (j - 1)) with
    | none => rfl
    | some y =>
     have c : x ∈ l := List.mem_of_mem_drop (dC (lU d))
     have q : y ∈ l := List.mem_of_mem_drop (dC (lU g))
     simp only [aA, h x c y q]
     cases Bi x y
     ·simp only [fE, aS]
      cases r : mZ l k with
      | none => rfl
      | some z =>
       simp only [aA]
       refine OK f1 i n _ _ _ (fun a ha b o => ?_)
       have m : ∀ a ∈ l.set (Int.toNat k) x, a ∈ l := fun a ha => by
        rcases List.mem_or_eq_of_mem_set ha with ha | rfl
        ·exact ha
        ·exact c
       exact h a (m a ha) b (m b o)
     ·simp only [bU, aB, aK, aA]
      exact OK f1 i n _ _ _ h
  ·rfl
theorem R9 (f1 : Formula × Formula → Option Bool) (l : List Formula) (h : ∀ x ∈ l, ∀ y ∈ l, f1 (x, y) = some (Bi x y)) : ∀ (n : Nat) (i : Int), nV l f1 n i = AZ Bi To l n i
 | 0, i => by rw [nV, AZ]
 | n + 1, i => by
  rw [nV, AZ]
  split
  ·cases a : mZ l i with
   | none => rfl
   | some x =>
    cases b : mZ l (wi0 .i64 (i - 1)) with
    | none => rfl
    | some y =>
     have c : x ∈ l := dC (lU a)
     have d : y ∈ l := dC (lU b)
     simp only [aA, h x c y d]
     rw [OK f1 i mq l i 1 h, R9 f1 l h n]
     rfl
  ·rfl
theorem ME (l : List Formula) (h : ∀ x ∈ l, Gd x) (b : l.length ≤ 300000) : qJ l (fun x => pu mq x.1 x.2) = some (dd Bi l) := by
 rw [← GJ Bi To l (by omega)]
 unfold qJ Gj
 rw [R9 _ l (fun x a y _ => Qc x y (h x a))]
def qh (op : Int) (f : Formula) : Bool := decide (f.Op = op) && f.Kids.isEmpty
theorem GA (f : Formula) (op : Int) : uB f op = some (qh op f) := by
 unfold uB qh
 rw [pE]
 by_cases h : f.Op = op
 ·simp only [h, bT, aS, bZ, gE]
  congr 1
  cases hk : f.Kids with
  | nil => rfl
  | cons a l => simp; omega
 ·have e : (f.Op == op) = false := by simpa using h
  simp [e, h]
def uR (op : Int) : List Formula → List Formula
 | [] => []
 | k :: a => (if k.Op = op then k.Kids else [k]) ++ uR op a
theorem DP (op : Int) : ∀ c : List Formula, nodesL (uR op c) ≤ nodesL c
 | [] => aT _
 | k :: c => by
  have ih := DP op c
  have e : ∀ a b : List Formula, nodesL (a ++ b) = nodesL a + nodesL b := by
   intro a b
   induction a with
   | nil => rw [bN, nodesL]; omega
   | cons x a d => rw [cE, nodesL, nodesL, d]; omega
  have := sI k
  rw [uR, e, nodesL]
  split
  ·omega
  ·rw [nodesL, nodesL]; omega
theorem HX (op : Int) : ∀ (a acc : List Formula), acc.length + nodesL a ≤ 100000000 → rK op a acc = some (acc ++ uR op a)
 | [], acc, _ => by rw [rK, uR, bV]
 | k :: a, acc, h => by
  rw [nodesL] at h
  have h1 := sI k
  have b := xz k.Kids
  rw [rK, uR]
  by_cases c : k.Op = op
  ·simp only [c, bT, aS]
   rw [ob (by omega) (by omega), aA, HX op a _ (by simp; omega), aQ]
  ·have e : (k.Op == op) = false := by simpa using c
   simp only [e, aB, aK, c]
   rw [ob (by simp; omega) (by simp; omega), aA, HX op a _ (by simp; omega), aQ]
noncomputable def vQ (op : Int) (a : List Formula) : Formula :=
 if (uR op a).any (qh (5 - op)) then ⟨5 - op, 0, xH, []⟩ else
  match dd Bi (CH (uR op a)) with
  | [x] => x
  | r => ⟨op, 0, xH, r⟩
theorem Se {α : Type} (eq : α → α → Bool) (l : List α) : (dd eq l).length ≤ l.length := by
 cases l with
 | nil => exact aT _
 | cons x l =>
  have : ∀ (l : List α) (x : α), (qz eq x l).length ≤ l.length := by
   intro l
   induction l with
   | nil => intro x; exact aT _
   | cons y l ih => intro x; rw [qz]; have := ih y; have := ih x; split <;> simp <;> omega
  have := this l x
  rw [dd, aI, aI]; omega
theorem E1 (s : mu) (op : Int) (g : op = 2 ∨ op = 3) (a : List Formula) (h : nodesL a ≤ 64) : py s op a = some (vQ op a, s) := by
 have h1 := DP op a
 have i := xz (uR op a)
 have c : ∀ x ∈ uR op a, Gd x := fun x b => by have := AO b; unfold Gd; omega
 have hw : wi0 .i64 (5 - op) = 5 - op := mr (by omega) (by omega)
 unfold py Bd vQ
 rw [HX op a [] (by simp; omega), aA, bN, hw, FM _ (qh (5 - op)) _ (fun x _ => by unfold rU; rw [GA, pE]), aA]
 cases j : (uR op a).any (qh (5 - op))
 ·simp only [aB, aK]
  have hp := E2 (uR op a)
  have l := hp.length_eq
  rw [Jd _ c (by omega), aA, ME _ (fun x b => c x (hp.mem_iff.1 b)) (by omega), aA]
  have k := Se Bi (CH (uR op a))
  have d : ¬ (((dd Bi (CH (uR op a))).length : Int) > 64) := by omega
  simp only [d, cD, aB, aK, aA]
  generalize dd Bi (CH (uR op a)) = r
  match r with
  | [] => rfl
  | [x] => rfl
  | x :: y :: r =>
   have : (((x :: y :: r).length : Int) == 1) = false := by simp; omega
   simp only [this, aB, aK]
   rfl
 ·rfl
noncomputable def yZ (k : Int) (a : List Formula) : Formula :=
 let n := k - ((a.filter (qh 2)).length : Int)
 let l := a.filter fun x => !qh 2 x && !qh 3 x
 if n ≤ 0 then ⟨2, 0, xH, []⟩ else if n > (l.length : Int) then ⟨3, 0, xH, []⟩ else if n = (l.length : Int) then vQ 2 l else if n = 1 then vQ 3 l else ⟨4, n, xH, CH l⟩
theorem B0 (p : Formula → Bool) : ∀ a : List Formula, nodesL (a.filter p) ≤ nodesL a
 | [] => aT _
 | k :: a => by
  have := B0 p a
  rw [iv]
  split
  ·rw [nodesL, nodesL]; omega
  ·rw [nodesL]; omega
theorem Br (s : mu) : ∀ (a acc : List Formula) (k : Int), -1000 ≤ k - (a.length : Int) → k ≤ 1000 → acc.length + a.length ≤ 1000 → nodesL (acc ++ a.filter fun x => !qh 2 x && !qh 3 x) ≤ 64 →
  nU s a k acc = some (let n := k - ((a.filter (qh 2)).length : Int); let l := acc ++ a.filter fun x => !qh 2 x && !qh 3 x; if n ≤ 0 then ⟨2, 0, xH, []⟩ else if n > (l.length : Int) then ⟨3, 0, xH, []⟩ else if n = (l.length : Int) then vQ 2 l else if n = 1 then vQ 3 l else ⟨4, n, xH, CH l⟩, s)
 | [], acc, k, h1, g, h, b => by
  simp only [List.filter_nil, bV, bQ] at b ⊢
  rw [nU]
  simp only [Int.ofNat_zero, Int.sub_zero, zH, Ao, aA, Int.natCast_zero]
  have q := xz acc
  by_cases c1 : k ≤ 0
  ·simp only [c1, bZ, aS]; rfl
  ·simp only [c1, cD, aB, aK]
   by_cases c2 : k > (acc.length : Int)
   ·simp only [c2, bZ, aS]; rfl
   ·simp only [c2, cD, aB, aK]
    by_cases c : k = (acc.length : Int)
    ·simp only [← c, bT, aS]
     rw [E1 s 2 (.inl rfl) acc b, aA]
    ·have i : (k == (acc.length : Int)) = false := by simpa using c
     simp only [i, aB, aK, c]
     by_cases d : k = 1
     ·simp only [d, bT, aS]
      rw [E1 s 3 (.inr rfl) acc b, aA]
     ·have j : (k == 1) = false := by simpa using d
      simp only [j, aB, aK, d]
      rw [Jd acc (fun x o => by have := AO o; unfold Gd; omega) (by omega)]
      rfl
 | x :: a, acc, k, h1, g, h, b => by
  simp only [aI] at h1 h
  rw [nU, GA, aA, GA, aA]
  rw [iv, iv] at *
  cases c2 : qh 2 x
  ·cases c : qh 3 x
   ·simp only [c2, c, fE, Bool.and_self, aB, aK, aS] at b ⊢
    rw [ob (by simp; omega) (by simp; omega), aA, Br s a _ k (by omega) g (by simp; omega) (by rw [aQ]; exact b)]
    simp only [aQ, cE, bN]
   ·simp only [c2, c, fE, bU, Bool.and_false, aB, aK] at b ⊢
    rw [Br s a _ k (by omega) g (by omega) b]
  ·simp only [c2, bU, jU, aB, aK, aS] at b ⊢
   rw [mr (by omega) (by omega), Br s a _ (k - 1) (by omega) (by omega) (by omega) b]
   simp only [aI]
   have e : k - 1 - ((a.filter (qh 2)).length : Int) = k - (((a.filter (qh 2)).length + 1 : Nat) : Int) := by omega
   rw [e]
theorem MJ (s : mu) (k : Int) (hk : 0 ≤ k ∧ k ≤ 1000) (a : List Formula) (h : nodesL a ≤ 64) : rW s k a = some (yZ k a, s) := by
 have := xz a
 have := B0 (fun x => !qh 2 x && !qh 3 x) a
 unfold rW yZ
 rw [Br s a [] k (by omega) (by omega) (by simp; omega) (by simpa using by omega)]
 rfl
mutual
noncomputable def vt : Formula → Formula
 | ⟨o, k, r, ks⟩ => if o = 1 then ⟨o, k, r, ks⟩ else if o = 4 then yZ k (shapeL ks) else vQ o (shapeL ks)
noncomputable def shapeL : List Formula → List Formula
 | [] => []
 | k :: ks => vt k :: shapeL ks
end
theorem E3 (f : Formula) : vt f = if f.Op = 1 then f else if f.Op = 4 then yZ f.K (shapeL f.Kids) else vQ f.Op (shapeL f.Kids) := by cases f; rw [vt]
theorem FT {a b : List Formula} (h : a.Perm b) : nodesL a = nodesL b := by
 induction h with
 | nil => rfl
 | cons x _ ih => rw [nodesL, nodesL, ih]
 | swap x y l => rw [nodesL, nodesL, nodesL, nodesL]; omega
 | trans _ _ h1 c => rw [h1, c]
theorem D2 (eq : Formula → Formula → Bool) : ∀ (l : List Formula) (x : Formula), nodesL (qz eq x l) ≤ nodesL l
 | [], x => aT _
 | y :: l, x => by
  have h1 := D2 eq l y
  have a := D2 eq l x
  rw [qz]
  split
  ·rw [nodesL]; omega
  ·rw [nodesL, nodesL]; omega
theorem Oz (eq : Formula → Formula → Bool) (l : List Formula) : nodesL (dd eq l) ≤ nodesL l := by
 cases l with
 | nil => exact aT _
 | cons x l => have := D2 eq l x; rw [dd, nodesL, nodesL]; omega
theorem BZ (op : Int) (a : List Formula) : mB (vQ op a) ≤ 1 + nodesL a := by
 unfold vQ
 split
 ·rw [mB, nodesL]; omega
 ·have h1 := Oz Bi (CH (uR op a))
  have b := FT (E2 (uR op a))
  have c := DP op a
  generalize dd Bi (CH (uR op a)) = r at *
  split
  ·rename_i x
   rw [nodesL, nodesL] at h1; omega
  ·rw [mB]; omega
theorem I1 (k : Int) (a : List Formula) : mB (yZ k a) ≤ 1 + nodesL a := by
 have h := B0 (fun x => !qh 2 x && !qh 3 x) a
 unfold yZ
 simp only
 generalize a.filter (fun x => !qh 2 x && !qh 3 x) = l at *
 generalize k - ((a.filter (qh 2)).length : Int) = n
 split
 ·rw [mB, nodesL]; omega
 ·split
  ·rw [mB, nodesL]; omega
  ·split
   ·have := BZ 2 l; omega
   ·split
    ·have := BZ 3 l; omega
    ·have := FT (E2 l); rw [mB]; omega
theorem CP : ∀ f : Formula, mB (vt f) ≤ mB f := by
 refine LZ fun f ih => ?_
 have h : ∀ a : List Formula, (∀ k ∈ a, mB (vt k) ≤ mB k) → nodesL (shapeL a) ≤ nodesL a := by
  intro a
  induction a with
  | nil => intro _; rw [shapeL]; exact aT _
  | cons k a b =>
   intro h
   have := b (fun x c => h x (by simp [c]))
   have := h k (by simp)
   rw [shapeL, nodesL, nodesL]; omega
 have h := h f.Kids ih
 rw [E3, sI f]
 split
 ·rw [sI]; omega
 ·split
  ·have := I1 f.K (shapeL f.Kids); omega
  ·have := BZ f.Op (shapeL f.Kids); omega
theorem Jp (a : List Formula) : nodesL (shapeL a) ≤ nodesL a := by
 induction a with
 | nil => rw [shapeL]; exact aT _
 | cons k a ih => have := CP k; rw [shapeL, nodesL, nodesL]; omega
theorem OT : ∀ (n : Nat) (f : Formula), tV f ≤ n → mB f ≤ 64 → yd f = true → ∀ s : mu, oA n s f = some (vt f, s) := by
 intro n
 induction n with
 | zero => intro f h; rw [rH] at h; omega
 | succ n ih =>
  intro f t w hw s
  rw [rH] at t
  have u := sI f
  obtain ⟨h1, r, l⟩ := FH hw
  rw [oA]
  unfold tj
  rw [E3]
  by_cases c1 : f.Op = 1
  ·simp only [c1, bT, aS]
  ·have o : (f.Op == 1) = false := by simpa using c1
   simp only [o, aB, aK, c1]
   have key : ∀ (a acc : List Formula), (∀ k ∈ a, k ∈ f.Kids) → wellL a = true → nodesL (acc ++ shapeL a) ≤ 64 → nodesL a ≤ 64 → oX (oA n) f a acc s = some (if f.Op = 4 then yZ f.K (acc ++ shapeL a) else vQ f.Op (acc ++ shapeL a), s) := by
    intro a
    induction a with
    | nil =>
     intro acc _ _ d _
     rw [shapeL, bV] at *
     rw [oX]
     by_cases g : f.Op = 4
     ·simp only [g, bT, aS]
      rw [MJ s f.K (by rcases l with h | h | h <;> omega) acc d, aA]
     ·have q : (f.Op == 4) = false := by simpa using g
      simp only [q, aB, aK, g]
      rw [E1 s f.Op (by rcases l with h | h | h <;> omega) acc d, aA]
    | cons k a j =>
     intro acc hk b d i
     rw [wellL, bA] at b
     rw [nodesL] at i
     rw [shapeL] at d
     have c := xz (acc ++ vt k :: shapeL a)
     simp only [aD, aI] at c
     rw [oX, ih k (by have := yR (hk k (by simp)); omega) (by omega) b.1 s, aA, ob (by simp; omega) (by simp; omega), aA,
      j (acc ++ [vt k]) (fun z v => hk z (by simp [v])) b.2 (by rw [aQ]; exact d) (by omega), shapeL]
     simp only [aQ, cE, bN]
   have := Jp f.Kids
   have := key f.Kids [] (fun k hk => hk) r (by simpa using by omega) (by omega)
   simpa using this
def Ht : Formula := ⟨0, 0, xH, []⟩
noncomputable def CS (f : Formula) : Formula × Int := if qO f then (if qO (vt f) then (vt f, 0) else (Ht, 12)) else (Ht, 11)
theorem La (f : Formula) (h : Gd f) : yx f = some (CS f) := by
 unfold yx CS
 rw [Aw f h, aA]
 cases b : qO f
 ·rfl
 ·obtain ⟨h1, c, a⟩ := Gw b
  have d := CP f
  simp only [bU, aB, aK, aS]
  rw [OT mq f (by rw [oN]; omega) h1 a, aA, Aw (vt f) (by omega)]
  have e : (((⟨0⟩ : mu).e) != 0) = false := rfl
  simp only [e, aB, aK, aA]
  cases qO (vt f) <;> rfl
theorem Cp {f : Formula} : mB (CS f).1 ≤ 64 := by
 unfold CS
 cases h : qO f
 ·exact by simp only [aB, aK, Ht]; rw [mB, nodesL]; omega
 ·obtain ⟨h1, a, b⟩ := Gw h
  have := CP f
  simp only [aS]
  split
  ·show mB (vt f) ≤ 64; omega
  ·rw [Ht, mB, nodesL]; omega
theorem QB (f g : Formula) (a : mB f ≤ 10000000) (b : mB g ≤ 10000000) : yG f g = some (CS ⟨2, 0, xH, [f, g]⟩) := by
 unfold yG
 have := La ⟨2, 0, xH, [f, g]⟩ (by show mB _ ≤ _; rw [mB, nodesL, nodesL, nodesL]; omega)
 rw [show (⟨2, 0, (⟨zS, zS⟩ : lg), [f, g]⟩ : Formula) = ⟨2, 0, xH, [f, g]⟩ from rfl, this]
 rfl
mutual
def DA (v : lg → Bool) : Formula → Bool
 | ⟨o, k, r, ks⟩ => if o = 1 then v r else if o = 2 then decide (evN v ks = ks.length) else if o = 3 then decide (0 < evN v ks) else decide (k ≤ (evN v ks : Int))
def evN (v : lg → Bool) : List Formula → Nat
 | [] => 0
 | k :: ks => (if DA v k then 1 else 0) + evN v ks
end
theorem Hh (v : lg → Bool) (f : Formula) : DA v f = if f.Op = 1 then v f.lg else if f.Op = 2 then decide (evN v f.Kids = f.Kids.length) else if f.Op = 3 then decide (0 < evN v f.Kids) else decide (f.K ≤ (evN v f.Kids : Int)) := by cases f; rw [DA]
theorem NM (v : lg → Bool) : ∀ a : List Formula, evN v a ≤ a.length
 | [] => by rw [evN]; exact aT _
 | k :: a => by have := NM v a; rw [evN, aI]; split <;> omega
theorem Qx {v w : lg → Bool} (h : ∀ r, v r = true → w r = true) : ∀ f : Formula, DA v f = true → DA w f = true := by
 refine LZ fun f ih => ?_
 have key : evN v f.Kids ≤ evN w f.Kids := by
  have : ∀ a : List Formula, (∀ k ∈ a, DA v k = true → DA w k = true) → evN v a ≤ evN w a := by
   intro a
   induction a with
   | nil => intro _; rw [evN, evN]; exact aT _
   | cons k a b =>
    intro hk
    have h1 := b (fun x g => hk x (by simp [g]))
    have c := hk k (by simp)
    rw [evN, evN]
    cases d : DA v k
    ·simp; omega
    ·rw [c d]; simp; omega
  exact this _ ih
 have hle := NM w f.Kids
 rw [Hh, Hh]
 split
 ·exact h _
 ·split
  ·simp only [bX]; omega
  ·split
   ·simp only [bX]; omega
   ·simp only [bX]; omega
theorem Ey (v : lg → Bool) (f1 : lg → Option Bool) (rec : Formula → (lg → Option Bool) → Option Bool) (f : Formula) : ∀ (a : List Formula) (x : Nat), (∀ k ∈ a, rec k f1 = some (DA v k)) → x + a.length ≤ 100000000 →
  qD rec f1 f a (x : Int) = some (if f.Op = 2 then decide (x + evN v a = f.Kids.length) else if f.Op = 3 then decide (0 < x + evN v a) else decide (f.K ≤ ((x + evN v a : Nat) : Int)))
 | [], x, _, _ => by
  rw [qD, evN, kL]
  by_cases c2 : f.Op = 2
  ·simp only [c2, bT, aS]
   congr 1
   rw [cU, kM, bX]; omega
  ·have c : (f.Op == 2) = false := by simpa using c2
   simp only [c, aB, aK, c2]
   by_cases b : f.Op = 3
   ·simp only [b, bT, aS]
    congr 1
    rw [cU, bX, bX]; omega
   ·have g : (f.Op == 3) = false := by simpa using b
    simp only [g, aB, aK, b]
 | k :: a, x, h, i => by
  rw [aI] at i
  rw [qD, h k (by simp), aA, evN]
  cases DA v k
  ·simp only [aB, aK]
   rw [Ey v f1 rec f a x (fun z d => h z (by simp [d])) (by omega), gp]
  ·simp only [aS]
   have e : wi0 .i64 ((x : Int) + 1) = ((x + 1 : Nat) : Int) := by rw [mr (by omega) (by omega)]; omega
   rw [e, Ey v f1 rec f a (x + 1) (fun z d => h z (by simp [d])) (by omega)]
   have c : x + 1 + evN v a = x + (1 + evN v a) := by omega
   rw [c]
theorem Nv (v : lg → Bool) (f1 : lg → Option Bool) (g : ∀ r, f1 r = some (v r)) : ∀ (n : Nat) (f : Formula), tV f ≤ n → Gd f → qW n f f1 = some (DA v f) := by
 intro n
 induction n with
 | zero => intro f h; rw [rH] at h; omega
 | succ n ih =>
  intro f b c
  rw [rH] at b
  have d := sI f
  have i := xz f.Kids
  unfold Gd at c
  rw [qW]
  unfold wC
  rw [Hh]
  by_cases c1 : f.Op = 1
  ·simp only [c1, bT, aS, g, aA]
  ·have a : (f.Op == 1) = false := by simpa using c1
   simp only [a, aB, aK, c1]
   have := Ey v f1 (qW n) f f.Kids 0 (fun k hk => ih k (by have := yR hk; omega) (by have := AO hk; unfold Gd; omega)) (by omega)
   simpa using this
def DF (v : lg → Bool) (f : Formula) : Bool := qO f && DA v f
theorem Ic (v : lg → Bool) (f1 : lg → Option Bool) (a : ∀ r, f1 r = some (v r)) (f : Formula) (h : Gd f) : tf f f1 = some (DF v f) := by
 unfold tf DF
 rw [Aw f h, aA]
 have := Dy f
 cases qO f
 ·rfl
 ·unfold Gd at h
  simp only [aS, Nv v f1 a mq f (by rw [oN]; omega) h, aA, gE]
structure PB (p : lm) : Prop where
 Cs : p.lJ.length ≤ 2000000
 EF : p.mf.length ≤ 2000000
 rel : ∀ x ∈ p.lJ, mB x.ly ≤ 10000000
 MC : ∀ a ∈ p.mf, mB a.ly ≤ 10000000
 Q2 : ∀ a ∈ p.mf, a.ns.length ≤ 2000000
theorem Gn (f : mg → Option Bool) : ∀ (l : List mg) (i : Nat), oE f l i = yo f l i
 | [], i => by rw [oE]; rfl
 | x :: l, i => by
  rw [oE, yo]
  cases f x with
  | none => rfl
  | some b =>
   simp only [aA]
   rw [Gn f l (i + 1)]
theorem F8 (f : nQ → Option Bool) : ∀ (l : List nQ) (i : Nat), pg f l i = yo f l i
 | [], i => by rw [pg]; rfl
 | x :: l, i => by
  rw [pg, yo]
  cases f x with
  | none => rfl
  | some b =>
   simp only [aA]
   rw [F8 f l (i + 1)]
theorem GD {α : Type} (f : α → Option Bool) (p : α → Bool) (l : List α) (h : ∀ x ∈ l, f x = some (p x)) : ((yo f l 0).bind fun c => some (decide (c ≥ 0))) = some (l.any p) := by
 rcases BT f p l 0 h with ⟨e, h1⟩ | ⟨A, x, B, rfl, h1, a, e⟩
 ·rw [e, aA]
  have : l.any p = false := by rw [kw]; intro x b; rw [h1 x b]; simp
  rw [this]; rfl
 ·rw [e, aA]
  have : (A ++ x :: B).any p = true := by simp [a]
  rw [this]
  congr 1
theorem ML (f : mg → Option Bool) (p : mg → Bool) (l : List mg) (h : ∀ x ∈ l, f x = some (p x)) : qu l f = some (l.any p) := by
 unfold qu pW
 rw [Gn]; exact GD f p l h
theorem Mi (f : nQ → Option Bool) (p : nQ → Bool) (l : List nQ) (h : ∀ x ∈ l, f x = some (p x)) : rX l f = some (l.any p) := by
 unfold rX ry
 rw [F8]; exact GD f p l h
def ur (p : lm) (c : lf) : Option mg := p.lJ.find? fun x => nw x.Signed.lf c
theorem QR (p : lm) (c : lf) : ∃ z, zu p c = some (match ur p c with | some x => (x, true) | none => (z, false)) := by
 unfold zu pW ur
 rw [Gn]
 rcases BT (fun x => xq x c) (fun x => nw x.Signed.lf c) p.lJ 0 (fun x _ => rfl) with ⟨e, h1⟩ | ⟨A, x, B, hp, h1, b, e⟩
 ·rw [e, aA, fV.2 (fun x a => by rw [h1 x a]; simp)]
  exact ⟨_, rfl⟩
 ·rw [e, aA, hp, kv, fV.2 (fun x a => by rw [h1 x a]; simp), fY, b]
  have : ¬ (((0 + A.length : Nat) : Int) < 0) := by omega
  simp only [this, cD, aB, aK]
  rw [oy A x B _ (by omega)]
  exact ⟨x, rfl⟩
def Si : nQ := ⟨⟨zS, zS⟩, ⟨0, 0, ⟨zS, zS⟩, []⟩, []⟩
theorem Jl (f : nQ → Option Bool) : ∀ (n : Nat) (l : List nQ) (i j : Int), oW f n l i j = BV f Si n l i j
 | 0, _, _, _ => rfl
 | n + 1, l, i, j => by
  rw [oW, BV]
  simp only [Jl f n]
  rfl
def EG (p : lm) (c : lf) : List nQ := p.mf.filter fun a => th nw a.ns c
theorem OV (p : lm) (hp : PB p) (c : lf) : yI p c = some (EG p c) := by
 have := hp.EF
 unfold yI vn EG
 rw [ob (by simp; omega) (by simp; omega)]
 simp only [aA, bN, pE]
 have : sL p.mf (fun x => tk x c) = EM (fun x => tk x c) Si p.mf := by
  unfold sL EM ry
  simp only [F8, Jl]
 rw [this, DN _ (fun a => !th nw a.ns c) Si _ (by omega) (fun a _ => by unfold tk qM; rw [pE, BP]; rfl)]
 simp only [iu]
noncomputable def wM : Formula × Int → List Formula → Formula × Int
 | t, [] => t
 | t, g :: l => if t.2 = 0 then wM (CS ⟨2, 0, xH, [t.1, g]⟩) l else t
theorem KV : ∀ (l : List Formula) (e o k : Int) (r : lg) (a : List Formula), (∀ g ∈ l, mB g ≤ 10000000) → mB ⟨o, k, r, a⟩ ≤ 64 →
  uz l e o k r a = some ((wM (⟨o, k, r, a⟩, e) l).2, (wM (⟨o, k, r, a⟩, e) l).1.Op, (wM (⟨o, k, r, a⟩, e) l).1.K, (wM (⟨o, k, r, a⟩, e) l).1.lg, (wM (⟨o, k, r, a⟩, e) l).1.Kids)
 | [], e, o, k, r, a, _, _ => by rw [uz, wM]
 | g :: l, e, o, k, r, a, h, t => by
  rw [uz, wM]
  by_cases c : e = 0
  ·have b : (e != 0) = false := by simp [c]
   simp only [b, aB, aK, c, aS]
   rw [QB _ g (by omega) (h g (by simp)), aA]
   have i := Cp (f := ⟨2, 0, xH, [⟨o, k, r, a⟩, g]⟩)
   generalize CS ⟨2, 0, xH, [⟨o, k, r, a⟩, g]⟩ = q at *
   obtain ⟨⟨n, k', s, d⟩, e'⟩ := q
   exact KV l e' n k' s d (fun z j => h z (by simp [j])) i
  ·have b : (e != 0) = true := by simp [c]
   simp only [b, aS, c, aK]
noncomputable def GB (g : Formula) (l : List Formula) : Formula × Int := if (wM (CS g) l).2 = 0 then wM (CS g) l else (Ht, (wM (CS g) l).2)
theorem Qp (g : Formula) (l : List Formula) (s : mB g ≤ 10000000) (i : ∀ x ∈ l, mB x ≤ 10000000) : xc (g :: l) = some (GB g l) := by
 unfold xc GB
 have d : mZ (g :: l) 0 = some g := oy [] g l 0 rfl
 have a : rO (decide (0 ≤ 1) && decide ((1 : Int) ≤ ((g :: l).length : Int))) = some () := by
  rw [aI]
  have : (1 : Int) ≤ ((l.length + 1 : Nat) : Int) := by omega
  simp [rO]; omega
 have j := Cp (f := g)
 rw [d, aA, La g (by unfold Gd; omega), aA, a, aA]
 generalize CS g = q at *
 obtain ⟨⟨o, k, r, b⟩, e⟩ := q
 have h : (g :: l).drop (Int.toNat 1) = l := rfl
 rw [h, KV l e o k r b i j, aA]
 generalize wM (⟨o, k, r, b⟩, e) l = t
 obtain ⟨⟨u, k', v, n⟩, e'⟩ := t
 by_cases c : e' = 0
 ·subst c; rfl
 ·have a : (e' != 0) = true := by simp [c]
  simp only [a, aS, c, aK]; rfl
noncomputable def qP (p : lm) (c : lf) : Formula × Int := match ur p c with | none => (Ht, 42) | some x => GB x.ly ((EG p c).map (·.ly))
theorem N0 : ∀ (l : List nQ) (acc : List Formula), acc.length + l.length ≤ 3000000 → vc l acc = xc (acc ++ l.map (·.ly))
 | [], acc, _ => by
  rw [vc, gL, bV]
  cases xc acc <;> rfl
 | a :: l, acc, h => by
  rw [aI] at h
  rw [vc, ob (by simp; omega) (by simp; omega), aA, N0 l _ (by simp; omega)]
  simp
theorem OU {p : lm} {c : lf} {x : mg} (h : ur p c = some x) : x ∈ p.lJ ∧ x.Signed.lf = c := by
 unfold ur at h
 have h1 := iy h
 have a := kT h
 exact ⟨h1, pe.1 a⟩
theorem Hv (p : lm) (hp : PB p) (c : lf) : wN p c = some (qP p c) := by
 unfold wN qP
 obtain ⟨z, e⟩ := QR p c
 rw [e, aA]
 cases h : ur p c with
 | none => rfl
 | some x =>
  simp only [bU, aB, aK]
  have d := OU h
  have i : (EG p c).length ≤ p.mf.length := gV _ _
  have := hp.EF
  rw [OV p hp c, aA, N0 _ _ (by simp; omega)]
  exact Qp x.ly _ (hp.rel x d.1) (fun g b => by
   obtain ⟨a, ha, rfl⟩ := bD.1 b
   exact hp.MC a (cQ.1 ha).1)
theorem El (p : lm) (c : lf) : mB (qP p c).1 ≤ 64 := by
 have a : mB Ht ≤ 64 := by rw [Ht, mB, nodesL]; omega
 have b : ∀ (l : List Formula) (t : Formula × Int), mB t.1 ≤ 64 → mB (wM t l).1 ≤ 64 := by
  intro l
  induction l with
  | nil => intro t h; exact h
  | cons g l ih =>
   intro t h
   rw [wM]
   split
   ·exact ih _ Cp
   ·exact h
 unfold qP
 split
 ·exact a
 ·unfold GB
  split
  ·exact b _ _ Cp
  ·exact a
def vF (F : List lF) (peer : ByteArray) (r : lg) : Bool := th Bx F ⟨r, peer⟩
noncomputable def Jb (p : lm) (v : lg → Bool) (x : mg) : Bool := decide ((qP p x.Signed.lf).2 = 0) && DF v (qP p x.Signed.lf).1
theorem Ff (p : lm) (hp : PB p) (v : lg → Bool) (m) (a : ∀ r, tU r m.1 m.2.1 m.2.2.1 m.2.2.2.1 m.2.2.2.2.1 m.2.2.2.2.2.1 m.2.2.2.2.2.2 = some (v r)) : ∀ (l : List mg) (acc : List lf), acc.length + l.length ≤ 1000000000 →
  sr p m l acc = pM (acc ++ (l.filter (Jb p v)).map (·.Signed.lf))
 | [], acc, _ => by
  rw [sr, List.filter_nil, gL, bV, pE]
 | x :: l, acc, h => by
  rw [aI] at h
  have b := El p x.Signed.lf
  rw [sr, Hv p hp, aA, Ic v _ a _ (by unfold Gd; omega), iv]
  unfold Jb
  by_cases c : (qP p x.Signed.lf).2 = 0
  ·simp only [c, bT, aS, bZ, gE, aA]
   cases d : DF v (qP p x.Signed.lf).1
   ·simp only [aB, aK]
    exact Ff p hp v m a l acc (by omega)
   ·simp only [aS]
    rw [ob (by simp; omega) (by simp; omega), aA, Ff p hp v m a l _ (by simp; omega)]
    simp only [bF, aQ, cE, bN]
    rfl
  ·have e : ((qP p x.Signed.lf).2 == 0) = false := by simpa using c
   simp only [e, aB, aK, c, cD, jU, aA]
   exact Ff p hp v m a l acc (by omega)
end Go.Proofs.YtklbhegeiijbjaaGreat
