/- a part of a proof of EagerRests -/
import Derived.Test.YtmlncblocfcmiaaGreatRtVe
import Derived.Test.YtmlncblocfcmiaaGreatE9Me
set_option linter.all false
namespace Go.Proofs.YtmlncblocfcmiaaGreat
open Go.RowKit
theorem BA {c x : Bool} : (if c = true then some x else some false : Option Bool) = some (c && x) := by cases c <;> rfl
theorem Ot {c x : Bool} : (if c = true then some true else some x : Option Bool) = some (c || x) := by cases c <;> rfl
theorem og {α : Type} (x : Option α) : (x.bind fun y => some y) = x := by cases x <;> rfl
theorem kN {x : Int} (a : -9223372036854775808 ≤ x) (h1 : x ≤ 9223372036854775807) : IntKind.i64.wrap x = x := IntWalk.i64_in _ (by omega)
theorem mD {α : Type} (A : List α) (x : α) (B : List α) (i : Int) (h : i = (A.length : Int)) : lj (A ++ x :: B) i = some x := by
 subst h; rw [DC]; simp
theorem mU : kC = 18446744073709551615 + 1 := by rw [vt]
def zx {α : Type} (f1 : α → Option Bool) (z : α) : Nat → List α → Int → Int → Option (List α)
 | 0, _, _, _ => none
 | n + 1, l, i, j => if decide (j < (l.length : Int)) then
   ((lj l j).bind fun x => (f1 x).bind fun r => if (!r) then (lj l i).bind fun _ => some (l.set (Int.toNat i) x, IntKind.i64.wrap (i + 1)) else some (l, i) : Option (List α × Int)).bind fun (b, a) => zx f1 z n b a (IntKind.i64.wrap (j + 1))
  else (qj (decide (0 ≤ i) && decide (i ≤ (l.length : Int)))).bind fun _ => (qj (decide (0 ≤ i) && decide (i ≤ ((nh l (Int.toNat i) z).length : Int)))).bind fun _ => some ((nh l (Int.toNat i) z).take (Int.toNat i))
theorem zk {a b : Int} (c : 0 ≤ a) (h1 : a ≤ b) : qj (decide (0 ≤ a) && decide (a ≤ b)) = some () := by simp [qj, c, h1]
theorem H0 {α : Type} (f1 : α → Option Bool) (p : α → Bool) (z : α) : ∀ (rest out mid : List α) (n : Nat), rest.length < n → (out ++ mid ++ rest).length < 4611686018427387904 → mid ≠ [] → (∀ x ∈ rest, f1 x = some (p x)) →
  zx f1 z n (out ++ mid ++ rest) (out.length : Int) ((out.length + mid.length : Nat) : Int) = some (out ++ rest.filter fun x => !p x)
 | [], out, mid, 0, h, _, _, _ => by simp at h
 | [], out, mid, n + 1, _, b, hm, _ => by
  rw [zx, aY (by simp)]
  have h1 : out.length ≤ (out ++ mid ++ []).length := by simp
  rw [zk (by omega) (by omega)]
  simp only [aA]
  rw [zk (by omega) (by rw [uv _ _ _ (by simpa using h1)]; omega)]
  simp only [aA, dL]
  rw [D0 _ _ _ h1]
  simp
 | x :: rest, out, mid, 0, h, _, _, _ => by simp at h
 | x :: rest, out, mid, n + 1, h, b, hm, c => by
  have hlen : (out ++ mid ++ x :: rest).length = out.length + mid.length + rest.length + 1 := by simp; omega
  rw [hlen] at b
  rw [zx, aZ (by rw [hlen]; simp; omega)]
  rw [mD (out ++ mid) x rest _ (by simp)]
  simp only [aA, c x (by simp)]
  rw [kN (x := ((out.length + mid.length : Nat) : Int) + 1) (by omega) (by omega)]
  have ih := H0 f1 p z rest
  cases hp : p x with
  | true =>
   simp only [bW, aB, aM, aA]
   have := ih out (mid ++ [x]) n (by simp at h; omega) (by simp; omega) (by simp) (fun y d => c y (by simp [d]))
   simp only [aN, cA, bO, aD, aO, bU] at this ⊢
   rw [show ((out.length + mid.length : Nat) : Int) + 1 = ((out.length + (mid.length + (0 + 1)) : Nat) : Int) by omega, this]
   simp [hp]
  | false =>
   obtain ⟨m, a, rfl⟩ : ∃ m a, mid = m :: a := by cases mid with
    | nil => exact absurd rfl hm
    | cons m a => exact ⟨m, a, rfl⟩
   simp only [ef, aW]
   rw [aN out (m :: a) (x :: rest), cA]
   rw [mD out m (a ++ x :: rest) _ rfl]
   simp only [aA]
   rw [kN (x := (out.length : Int) + 1) (by omega) (by simp at b; omega)]
   have := ih (out ++ [x]) (a ++ [x]) n (by simp at h; omega) (by simp at b ⊢; omega) (by simp) (fun y d => c y (by simp [d]))
   simp only [aN, cA, bO, aD, aO, bU] at this
   have g : (out ++ m :: (a ++ x :: rest)).set (Int.toNat (out.length : Int)) x = out ++ x :: (a ++ x :: rest) := by
    rw [dL, List.set_append_right _ _ (aV _)]; simp
   rw [g]
   simp only [aO] at b ⊢
   rw [show (out.length : Int) + 1 = ((out.length + (0 + 1) : Nat) : Int) by omega, show ((out.length + (a.length + 1) : Nat) : Int) + 1 = ((out.length + (0 + 1) + (a.length + (0 + 1)) : Nat) : Int) by omega, this]
   simp [hp]
def vV {α : Type} (f1 : α → Option Bool) : List α → Nat → Option Int
 | [], _ => some (-1)
 | x :: xs, i => (f1 x).bind fun r => if r then some (i : Int) else vV f1 xs (i + 1)
theorem zB {α : Type} (f1 : α → Option Bool) (p : α → Bool) : ∀ (l : List α) (i : Nat), (∀ x ∈ l, f1 x = some (p x)) →
  (vV f1 l i = some (-1) ∧ ∀ x ∈ l, p x = false) ∨ ∃ A x B, l = A ++ x :: B ∧ (∀ y ∈ A, p y = false) ∧ p x = true ∧ vV f1 l i = some ((i + A.length : Nat) : Int)
 | [], i, _ => .inl ⟨rfl, by simp⟩
 | x :: l, i, h => by
  rw [vV, h x (by simp)]
  simp only [aA]
  cases hp : p x with
  | true => exact .inr ⟨[], x, l, rfl, by simp, hp, by simp⟩
  | false =>
   simp only [aB, aM]
   rcases zB f1 p l (i + 1) (fun y a => h y (by simp [a])) with ⟨h1, b⟩ | ⟨A, y, B, rfl, h1, b, d⟩
   ·exact .inl ⟨h1, by intro y a; rcases aQ.1 a with rfl | a; exact hp; exact b y a⟩
   ·refine .inr ⟨x :: A, y, B, rfl, ?_, b, ?_⟩
    ·intro z c; rcases aQ.1 c with rfl | c
     ·exact hp
     ·exact h1 z c
    ·rw [d]; simp; omega
def CC {α : Type} (f1 : α → Option Bool) (z : α) (l : List α) : Option (List α) :=
 (vV f1 l 0).bind fun a => if (a == (-1)) then some l else zx f1 z kC l a (IntKind.i64.wrap (a + 1))
theorem BY {α : Type} (f1 : α → Option Bool) (p : α → Bool) (z : α) (l : List α) (c : l.length < 4611686018427387904) (h : ∀ x ∈ l, f1 x = some (p x)) : CC f1 z l = some (l.filter fun x => !p x) := by
 unfold CC
 rcases zB f1 p l 0 h with ⟨h1, b⟩ | ⟨A, x, B, rfl, h1, b, d⟩
 ·rw [h1]
  simp only [aA, bJ, aW]
  rw [List.filter_eq_self.2 (fun y a => by simp [b y a])]
 ·rw [d]
  simp only [aA, fj]
  rw [aY (by simp), kN (by omega) (by simp at c; omega)]
  have := H0 f1 p z B A [x] kC (by rw [vt]; simp at c; omega) (by simpa using c) (by simp) (fun y a => h y (by simp [a]))
  simp only [aN, cA, bO, aO, bU] at this
  rw [show (A.length : Int) + 1 = ((A.length + (0 + 1) : Nat) : Int) by omega, this]
  have g : A.filter (fun x => !p x) = A := List.filter_eq_self.2 (fun y a => by simp [h1 y a])
  rw [List.filter_append, g]
  simp [b]
def oO {α : Type} (eq : α → α → Bool) : α → List α → List α
 | _, [] => []
 | p, y :: ys => if eq y p then oO eq y ys else y :: oO eq y ys
def dd {α : Type} (eq : α → α → Bool) : List α → List α
 | [] => []
 | x :: xs => x :: oO eq x xs
def xH {α : Type} (eq : α → α → Bool) (i : Int) : Nat → List α → Int → Int → Option (List α × Int)
 | 0, _, _, _ => none
 | n + 1, l, k, j => if decide (j < ((l.length - Int.toNat i : Nat) : Int)) then
   ((lj (l.drop (Int.toNat i)) j).bind fun x => (lj (l.drop (Int.toNat i)) (IntKind.i64.wrap (j - 1))).bind fun y => if !(eq x y) then (lj (l.drop (Int.toNat i)) j).bind fun z => (lj l k).bind fun _ => some (l.set (Int.toNat k) z, IntKind.i64.wrap (k + 1)) else some (l, k) : Option (List α × Int)).bind fun (a, k') => xH eq i n a k' (IntKind.i64.wrap (j + 1))
  else some (l, k)
def yz {α : Type} (eq : α → α → Bool) (z : α) (l : List α) : Nat → Int → Option (List α)
 | 0, _ => none
 | n + 1, i => if decide (i < (l.length : Int)) then (lj l i).bind fun x => (lj l (IntKind.i64.wrap (i - 1))).bind fun y => if eq x y then
    (qj (decide (0 ≤ i) && decide (i ≤ (l.length : Int)))).bind fun _ => (xH eq i kC l i 1).bind fun (a, k) => (qj (decide (0 ≤ k) && decide (k ≤ (a.length : Int)))).bind fun _ => (qj (decide (0 ≤ k) && decide (k ≤ ((nh a (Int.toNat k) z).length : Int)))).bind fun _ => some ((nh a (Int.toNat k) z).take (Int.toNat k))
   else yz eq z l n (IntKind.i64.wrap (i + 1))
  else some l
def D9 {α : Type} (eq : α → α → Bool) (z : α) (l : List α) : Option (List α) := if decide ((l.length : Int) < 2) then some l else yz eq z l kC 1
theorem H2 {α : Type} (l : List α) (i : Nat) (j : Int) (a : 0 ≤ j) : lj (l.drop i) j = lj l ((i : Int) + j) := by
 obtain ⟨m, rfl⟩ : ∃ m : Nat, j = m := ⟨j.toNat, by omega⟩
 rw [show (i : Int) + (m : Int) = ((i + m : Nat) : Int) by omega, DC, DC, dO]
theorem En {α : Type} (eq : α → α → Bool) (i : Nat) : ∀ (rest out mid : List α) (p : α) (n : Nat), rest.length < n → (out ++ (mid ++ [p]) ++ rest).length < 4611686018427387904 → 1 ≤ i → i ≤ out.length →
  ∃ b, xH eq (i : Int) n (out ++ (mid ++ [p]) ++ rest) (out.length : Int) ((out.length + mid.length + 1 - i : Nat) : Int) = some (b, ((out ++ oO eq p rest).length : Int)) ∧ b.take (out ++ oO eq p rest).length = out ++ oO eq p rest ∧ (out ++ oO eq p rest).length ≤ b.length
 | [], out, mid, p, 0, h, _, _, _ => by simp at h
 | [], out, mid, p, n + 1, h, k, h1, j => by
  rw [xH, aY (by simp; omega)]
  exact ⟨out ++ (mid ++ [p]) ++ [], by simp [oO], by simp [oO], by simp [oO]⟩
 | x :: rest, out, mid, p, 0, h, _, _, _ => by simp at h
 | x :: rest, out, mid, p, n + 1, h, k, h1, j => by
  have hlen : (out ++ (mid ++ [p]) ++ x :: rest).length = out.length + mid.length + rest.length + 2 := by simp; omega
  rw [hlen] at k
  rw [xH, aZ (by rw [hlen]; simp; omega)]
  rw [dL, H2 _ _ _ (by omega), mD (out ++ (mid ++ [p])) x rest _ (by simp; omega)]
  simp only [aA]
  rw [kN (x := ((out.length + mid.length + 1 - i : Nat) : Int) - 1) (by omega) (by omega), H2 _ _ _ (by omega)]
  rw [show out ++ (mid ++ [p]) ++ x :: rest = (out ++ mid) ++ p :: (x :: rest) by simp]
  rw [mD (out ++ mid) p (x :: rest) _ (by simp; omega)]
  simp only [aA]
  rw [kN (x := ((out.length + mid.length + 1 - i : Nat) : Int) + 1) (by omega) (by omega)]
  cases hp : eq x p with
  | true =>
   simp only [bW, aB, aM, aA]
   obtain ⟨b, c, d, g⟩ := En eq i rest out (mid ++ [p]) x n (by simp at h; omega) (by simp; omega) h1 j
   refine ⟨b, ?_, by rw [oO, hp]; exact d, by rw [oO, hp]; exact g⟩
   rw [oO, hp, aZ rfl, ← c]
   congr 1
   ·simp
   ·simp; omega
  | false =>
   simp only [ef, aW]
   obtain ⟨m, a, hm⟩ : ∃ m a, mid ++ [p] = m :: a := by cases mid with
    | nil => exact ⟨p, [], rfl⟩
    | cons m a => exact ⟨m, a ++ [p], rfl⟩
   have o : a.length = mid.length := by have := aX List.length hm; simp at this; omega
   rw [show (out ++ mid) ++ p :: (x :: rest) = out ++ m :: (a ++ x :: rest) by rw [← cA, ← hm]; simp]
   rw [mD out m (a ++ x :: rest) _ rfl]
   simp only [aA]
   rw [kN (x := (out.length : Int) + 1) (by omega) (by omega)]
   have q : (out ++ m :: (a ++ x :: rest)).set (Int.toNat (out.length : Int)) x = (out ++ [x]) ++ (a ++ [x]) ++ rest := by
    rw [dL, List.set_append_right _ _ (aV _)]; simp
   rw [q]
   obtain ⟨b, c, d, g⟩ := En eq i rest (out ++ [x]) a x n (by simp at h; omega) (by simp; omega) h1 (by simp; omega)
   refine ⟨b, ?_, ?_, ?_⟩
   ·rw [oO, hp, aY (by decide)]
    have l : ((out ++ x :: oO eq x rest).length : Int) = ((out ++ [x] ++ oO eq x rest).length : Int) := by simp
    rw [l, ← c]
    congr 1
    ·simp
    ·simp; omega
   ·rw [oO, hp, aY (by decide)]; simpa using d
   ·rw [oO, hp, aY (by decide)]; simpa using g
theorem Ia {α : Type} (eq : α → α → Bool) (z : α) : ∀ (rest pre : List α) (p : α) (n : Nat), rest.length < n → (pre ++ p :: rest).length < 4611686018427387904 →
  yz eq z (pre ++ p :: rest) n ((pre.length + 1 : Nat) : Int) = some (pre ++ p :: oO eq p rest)
 | [], pre, p, 0, h, _ => by simp at h
 | [], pre, p, n + 1, h, g => by rw [yz, aY (by simp)]; simp [oO]
 | x :: rest, pre, p, 0, h, _ => by simp at h
 | x :: rest, pre, p, n + 1, h, g => by
  have hlen : (pre ++ p :: x :: rest).length = pre.length + rest.length + 2 := by simp; omega
  rw [hlen] at g
  rw [yz, aZ (by rw [hlen]; simp; omega)]
  rw [show pre ++ p :: x :: rest = (pre ++ [p]) ++ x :: rest by simp, mD (pre ++ [p]) x rest _ (by simp)]
  simp only [aA]
  rw [kN (x := ((pre.length + 1 : Nat) : Int) - 1) (by omega) (by omega)]
  rw [show (pre ++ [p]) ++ x :: rest = pre ++ p :: (x :: rest) by simp, mD pre p (x :: rest) _ (by omega)]
  simp only [aA]
  cases hp : eq x p with
  | true =>
   simp only [aW]
   rw [zk (by omega) (by rw [hlen]; omega)]
   simp only [aA]
   obtain ⟨i, a, d, c⟩ := En eq (pre.length + 1) rest (pre ++ [p]) [] x kC (by rw [vt]; omega) (by simp; omega) (by omega) (by simp)
   simp only [aN, cA, bO, aD, aO, bU] at a d c
   rw [show (pre.length + (0 + 1) + 0 + 1 - (pre.length + 1) : Nat) = 1 by omega] at a
   rw [show ((pre.length + 1 : Nat) : Int) = ((pre.length + (0 + 1) : Nat) : Int) by omega] at *
   have b : xH eq ((pre.length + (0 + 1) : Nat) : Int) kC (pre ++ p :: x :: rest) ((pre.length + (0 + 1) : Nat) : Int) 1 = _ := a
   rw [b]
   simp only [aA]
   rw [zk (by omega) (by omega)]
   simp only [aA, dL]
   rw [zk (by omega) (by rw [uv _ _ _ c]; omega)]
   simp only [aA]
   rw [D0 _ _ _ c, d, oO, hp]
   simp
  | false =>
   simp only [aB, aM]
   rw [kN (x := ((pre.length + 1 : Nat) : Int) + 1) (by omega) (by omega)]
   have := Ia eq z rest (pre ++ [p]) x n (by simp at h; omega) (by simp; omega)
   simp only [aN, cA, bO, aD, aO, bU] at this
   rw [show ((pre.length + 1 : Nat) : Int) + 1 = ((pre.length + (0 + 1) + 1 : Nat) : Int) by omega, this, oO, hp]
   simp
theorem Eb {α : Type} (eq : α → α → Bool) (z : α) (l : List α) (a : l.length < 4611686018427387904) : D9 eq z l = some (dd eq l) := by
 unfold D9
 cases l with
 | nil => rfl
 | cons x xs =>
  cases xs with
  | nil => simp [dd, oO]
  | cons y ys =>
   rw [aY (by simp; omega)]
   have := Ia eq z (y :: ys) [] x kC (by rw [vt]; simp at a ⊢; omega) (by simpa using a)
   simpa [dd] using this
structure yp {α : Type} (lt : α → α → Prop) (P : α → Prop) : Prop where
 irrefl : ∀ x, P x → ¬ lt x x
 trans : ∀ x y z, P x → P y → P z → lt x y → lt y z → lt x z
 total : ∀ x y, P x → P y → lt x y ∨ x = y ∨ lt y x
def tw {α : Type} (lt : α → α → Prop) (P : α → Prop) (l out : List α) : Prop := out.Pairwise lt ∧ ∀ x, x ∈ out ↔ x ∈ l ∧ P x
theorem tw.unique {α : Type} {lt : α → α → Prop} {P : α → Prop} (H : yp lt P) : ∀ {l a b : List α}, tw lt P l a → tw lt P l b → a = b := by
 have key : ∀ a b : List α, (∀ x ∈ a, P x) → a.Pairwise lt → b.Pairwise lt → (∀ x, x ∈ a ↔ x ∈ b) → a = b := by
  intro a
  induction a with
  | nil => intro b _ _ _ hm; cases b with
   | nil => rfl
   | cons y ys => exact absurd ((hm y).2 (by simp)) (by simp)
  | cons x xs ih =>
   intro b m ha j hm
   cases b with
   | nil => exact absurd ((hm x).1 (by simp)) (by simp)
   | cons y ys =>
    have n : P y := m y ((hm y).2 (by simp))
    have c : P x := m x (by simp)
    have d := cM.1 ha
    have g := cM.1 j
    have o : x = y := by
     rcases aQ.1 ((hm x).1 (by simp)) with h | h
     ·exact h
     ·rcases aQ.1 ((hm y).2 (by simp)) with k | k
      ·exact k.symm
      ·exact absurd (H.trans x y x c n c (d.1 y k) (g.1 x h)) (H.irrefl x c)
    subst o
    congr 1
    refine ih ys (fun z i => m z (by simp [i])) d.2 g.2 (fun z => ?_)
    constructor
    ·intro i
     rcases aQ.1 ((hm z).1 (by simp [i])) with h | h
     ·subst h; exact absurd (d.1 z i) (H.irrefl z c)
     ·exact h
    ·intro i
     rcases aQ.1 ((hm z).2 (by simp [i])) with h | h
     ·subst h; exact absurd (g.1 z i) (H.irrefl z c)
     ·exact h
 intro l a b ha j
 exact key a b (fun x q => ((ha.2 x).1 q).2) ha.1 j.1 (fun x => (ha.2 x).trans (j.2 x).symm)
theorem B3 {α : Type} {eq : α → α → Bool} (he : ∀ x y, eq x y = true ↔ x = y) : ∀ (l : List α) (p x : α), x ∈ p :: oO eq p l ↔ x ∈ p :: l
 | [], p, x => by simp [oO]
 | y :: l, p, x => by
  rw [oO]
  split
  ·rename_i h
   have := (he y p).1 h
   subst this
   rw [B3 he l y x]; simp
  ·have := B3 he l y x
   simp only [aQ] at this ⊢
   rw [this]
theorem Pt {α : Type} {eq : α → α → Bool} (he : ∀ x y, eq x y = true ↔ x = y) (l : List α) (x : α) : x ∈ dd eq l ↔ x ∈ l := by
 cases l with
 | nil => simp [dd]
 | cons y l => exact B3 he l y x
theorem AD {α : Type} {eq : α → α → Bool} {lt : α → α → Prop} {P : α → Prop} (he : ∀ x y, eq x y = true ↔ x = y) (H : yp lt P) : ∀ (l : List α) (p : α), (∀ x ∈ p :: l, P x) → (p :: l).Pairwise (fun a b => ¬ lt b a) → (p :: oO eq p l).Pairwise lt
 | [], p, _, _ => by simp [oO]
 | y :: l, p, c, n => by
  have h1 := cM.1 n
  rw [oO]
  split
  ·rename_i h
   have := (he y p).1 h
   subst this
   exact AD he H l y (fun x i => c x (eY _ i)) h1.2
  ·rename_i h
   have ih := AD he H l y (fun x i => c x (eY _ i)) h1.2
   refine cM.2 ⟨fun z m => ?_, ih⟩
   have g : lt p y := by
    rcases H.total p y (c p (by simp)) (c y (by simp)) with d | d | d
    ·exact d
    ·exact absurd ((he y p).2 d.symm) h
    ·exact absurd d (h1.1 y (by simp))
   rcases aQ.1 m with rfl | j
   ·exact g
   ·have k : z ∈ y :: l := (B3 he l y z).1 m
    exact H.trans p y z (c p (by simp)) (c y (by simp)) (c z (eY _ k)) g ((cM.1 ih).1 z j)
theorem KU {α : Type} {eq : α → α → Bool} {lt : α → α → Prop} {P : α → Prop} (he : ∀ x y, eq x y = true ↔ x = y) (H : yp lt P) (l : List α) (c : ∀ x ∈ l, P x) (d : l.Pairwise (fun a b => ¬ lt b a)) : (dd eq l).Pairwise lt := by
 cases l with
 | nil => simp [dd]
 | cons y l => exact AD he H l y c d
theorem GH {α : Type} {le : α → α → Bool} {P : α → Prop} (i : ∀ a b c, P a → P b → P c → le a b = true → le b c = true → le a c = true) (h : ∀ a b, P a → P b → (le a b || le b a) = true) (l : List α) (d : ∀ x ∈ l, P x) :
  (l.mergeSort le).Pairwise (fun a b => le a b = true) := by
 have e : l = (l.attachWith P d).map Subtype.val := by simp
 have hm : ((l.attachWith P d).mergeSort fun a b => le a.1 b.1).map Subtype.val = l.mergeSort le := by
  conv => rhs; rw [e]
  exact gV (fun a _ b _ => rfl)
 rw [← hm, eX]
 exact fX (le := fun (a b : {x // P x}) => le a.1 b.1) (fun a b c h1 g => i a.1 b.1 c.1 a.2 b.2 c.2 h1 g) (fun a b => h a.1 b.1 a.2 b.2) _
theorem As {α : Type} {eq : α → α → Bool} {lt : α → α → Prop} {P : α → Prop} {cf : α × α → Option Int} {l : List α} (he : ∀ x y, eq x y = true ↔ x = y) (H : yp lt P) (g : ∀ x ∈ l, P x) (A : l.length < 4611686018427387904) (w : ∀ x y, P x → P y → ∃ c, cf (x, y) = some c ∧ (c < 0 ↔ lt x y)) : ∃ s, wE cf l = some s ∧ s.length = l.length ∧ tw lt P l (dd eq s) := by
 have j : ∀ x y, P x → P y → (tb cf x y = true ↔ lt x y) := fun x y i n => by
  obtain ⟨c, h1, m⟩ := w x y i n
  unfold tb
  rw [h1]
  simpa using m
 have d : ∀ x y, P x → P y → (tb cf x y = false ↔ ¬ lt x y) := fun x y i n => by
  rw [← j x y i n]; simp
 have ok : CR cf l := by
  refine ⟨fun x i y n => ?_, fun x i => ?_, fun x i y n z u h1 m => ?_, fun x i y n h1 m => ?_, A⟩
  ·obtain ⟨c, h1, _⟩ := w x y (g x i) (g y n); exact ⟨c, h1⟩
  ·exact (d x x (g x i) (g x i)).2 (H.irrefl x (g x i))
  ·rw [j _ _ (g x i) (g y n)] at h1
   rw [j _ _ (g y n) (g z u)] at m
   rw [j _ _ (g x i) (g z u)]
   exact H.trans x y z (g x i) (g y n) (g z u) h1 m
  ·rw [d _ _ (g x i) (g y n)] at h1
   rw [d _ _ (g y n) (g x i)] at m
   rcases H.total x y (g x i) (g y n) with h | h | h
   ·exact absurd h h1
   ·exact h
   ·exact absurd h m
 refine ⟨_, MQ ok, by simp [sn], ?_, ?_⟩
 ·have k : ∀ x, x ∈ sn cf l ↔ x ∈ l := fun x => by simp [sn]
  refine KU he H _ (fun x i => g x ((k x).1 i)) ?_
  have := GH (le := fun x y => !tb cf y x) (P := P) (fun a b c ha o q h1 m => ?_) (fun a b ha o => ?_) l g
  ·refine (this.imp_of_mem ?_ : _)
   intro a b ha o h
   have r : a ∈ l := (k a).1 ha
   have t : b ∈ l := (k b).1 o
   simp at h
   exact (d b a (g b t) (g a r)).1 h
  ·simp at h1 m ⊢
   rw [d _ _ o ha] at h1
   rw [d _ _ q o] at m
   rw [d _ _ q ha]
   intro v
   rcases H.total a b ha o with h | h | h
   ·exact m (H.trans c a b q ha o v h)
   ·subst h; exact m v
   ·exact h1 h
  ·simp only [ft, eZ]
   rw [d _ _ o ha, d _ _ ha o]
   by_cases h : lt b a
   ·right; intro m; exact H.irrefl a ha (H.trans a b a ha o ha m h)
   ·exact .inl h
 ·intro x
  rw [Pt he]
  constructor
  ·intro i
   have : x ∈ l := by simpa [sn] using i
   exact ⟨this, g x this⟩
  ·intro i; simpa [sn] using i.1
end Go.Proofs.YtmlncblocfcmiaaGreat
namespace Go.Proofs.YtmlncblocfcmiaaGreat
open Go.RowKit
theorem Ac : ∀ a : List UInt8, Op.bytesLess a a = false
 | [] => rfl
 | x :: a => by simp [Op.bytesLess, Ac a]
theorem Ho (x y : UInt8) : x < y ∨ x = y ∨ y < x := by
 rcases Nat.lt_trichotomy x.toNat y.toNat with h | h | h
 ·exact .inl h
 ·exact .inr (.inl (UInt8.toNat_inj.1 h))
 ·exact .inr (.inr h)
theorem zn : ∀ a b c : List UInt8, Op.bytesLess a b = true → Op.bytesLess b c = true → Op.bytesLess a c = true
 | [], [], c, h1, _ => by simp [Op.bytesLess] at h1
 | _ :: _, [], c, h1, _ => by simp [Op.bytesLess] at h1
 | a, _ :: _, [], _, d => by simp [Op.bytesLess] at d
 | [], b :: bs, c :: cs, _, _ => rfl
 | a :: ax, b :: bs, c :: cs, h1, d => by
  simp only [Op.bytesLess, ft, cI, bA, ji] at h1 d ⊢
  rcases h1 with h1 | ⟨rfl, h1⟩
  ·rcases d with d | ⟨rfl, d⟩
   ·exact .inl (UInt8.lt_trans h1 d)
   ·exact .inl h1
  ·rcases d with d | ⟨rfl, d⟩
   ·exact .inl d
   ·exact .inr ⟨rfl, zn ax bs cs h1 d⟩
theorem BM : ∀ a b : List UInt8, Op.bytesLess a b = true ∨ a = b ∨ Op.bytesLess b a = true
 | [], [] => .inr (.inl rfl)
 | [], _ :: _ => .inl rfl
 | _ :: _, [] => .inr (.inr rfl)
 | a :: ax, b :: bs => by
  simp only [Op.bytesLess, ft, cI, bA, ji, bE]
  rcases Ho a b with h | h | h
  ·exact .inl (.inl h)
  ·subst h
   rcases BM ax bs with h | h | h
   ·exact .inl (.inr ⟨rfl, h⟩)
   ·exact .inr (.inl ⟨rfl, h⟩)
   ·exact .inr (.inr (.inr ⟨rfl, h⟩))
  ·exact .inr (.inr (.inl h))
theorem A4 : ∀ a b : List UInt8, (Lib.compareBytes a b < 0 ↔ Op.bytesLess a b = true)
 | [], [] => by simp [Lib.compareBytes, Op.bytesLess]
 | [], _ :: _ => by simp [Lib.compareBytes, Op.bytesLess]
 | _ :: _, [] => by simp [Lib.compareBytes, Op.bytesLess]
 | a :: ax, b :: bs => by
  simp only [Lib.compareBytes, Op.bytesLess, ft, cI, bA, ji]
  by_cases h : a < b
  ·simp [h]
  ·by_cases d : b < a
   ·have : a ≠ b := by rintro rfl; exact h d
    simp [h, d, this]
   ·have : a = b := by rcases Ho a b with c | c | c; exact absurd c h; exact c; exact absurd c d
    subst this
    simp [h, A4 ax bs]
theorem Et : ∀ a b : List UInt8, (Lib.compareBytes a b = 0 ↔ a = b)
 | [], [] => by simp [Lib.compareBytes]
 | [], _ :: _ => by simp [Lib.compareBytes]
 | _ :: _, [] => by simp [Lib.compareBytes]
 | a :: ax, b :: bs => by
  simp only [Lib.compareBytes, bE]
  by_cases h : a < b
  ·simp only [h, aW]
   constructor
   ·intro h; cases h
   ·rintro ⟨rfl, _⟩; exact absurd h (by simp)
  ·by_cases d : b < a
   ·simp only [h, d, aW, aM]
    constructor
    ·intro h; cases h
    ·rintro ⟨rfl, _⟩; exact absurd d (by simp)
   ·have : a = b := by rcases Ho a b with c | c | c; exact absurd c h; exact c; exact absurd c d
    subst this
    simp [h, Et ax bs]
theorem xJ (a b : ByteArray) : pV a b = Op.bytesLess a.data.toList b.data.toList := by unfold pV; rw [fe, fe]
theorem zj {a b : ByteArray} (h : a.data.toList = b.data.toList) : a = b := iU (Array.toList_inj.1 h)
theorem rU (a : ByteArray) : pV a a = false := by rw [xJ, Ac]
theorem yi {a b c : ByteArray} (h1 : pV a b = true) (d : pV b c = true) : pV a c = true := by rw [xJ] at *; exact zn _ _ _ h1 d
theorem yj (a b : ByteArray) : pV a b = true ∨ a = b ∨ pV b a = true := by
 rw [xJ, xJ]
 rcases BM a.data.toList b.data.toList with h | h | h
 ·exact .inl h
 ·exact .inr (.inl (zj h))
 ·exact .inr (.inr h)
theorem Gu {a b : ByteArray} (h : pV a b = true) : pV b a = false := by
 cases c : pV b a with
 | false => rfl
 | true => have := yi h c; rw [rU] at this; cases this
theorem M3 (P : ByteArray → Prop) : yp (fun a b => pV a b = true) P :=
 ⟨fun x _ h => (by rw [rU] at h; cases h), fun x y z _ _ _ => yi, fun x y _ _ => yj x y⟩
def zg (b : UInt8) : Bool := decide (97 ≤ b.toNat) && decide (b.toNat ≤ 122)
def Bd (b : UInt8) : Bool := zg b || (decide (48 ≤ b.toNat) && decide (b.toNat ≤ 57)) || decide (b.toNat = 45)
def mE (s : ByteArray) : Bool := decide (1 ≤ s.size) && decide (s.size ≤ 16) && (match s.data.toList with | [] => false | b :: _ => zg b) && s.data.toList.all Bd
theorem nM {s : ByteArray} (h : mE s = true) : 1 ≤ s.size ∧ s.size ≤ 16 := by
 simp only [mE, bA, cI] at h
 exact h.1.1
theorem JT : ∀ n : Nat, n < 256 → decide (vq (⟨#[97, 98, 99, 100, 101, 102, 103, 104, 105, 106, 107, 108, 109, 110, 111, 112, 113, 114, 115, 116, 117, 118, 119, 120, 121, 122]⟩ : ByteArray) (n : Int) ≥ 0) = zg (UInt8.ofNat n) := by decide +kernel
theorem MB : ∀ n : Nat, n < 256 → decide (vq (⟨#[97, 98, 99, 100, 101, 102, 103, 104, 105, 106, 107, 108, 109, 110, 111, 112, 113, 114, 115, 116, 117, 118, 119, 120, 121, 122, 48, 49, 50, 51, 52, 53, 54, 55, 56, 57, 45]⟩ : ByteArray) (n : Int) < 0) = !Bd (UInt8.ofNat n) := by decide +kernel
theorem uV (s : ByteArray) : s.size = s.data.toList.length := by rw [dl]; rfl
theorem DT {s : ByteArray} (h : s.size ≤ 16) : Bf s = some (rK s) := by
 unfold Bf; rw [aZ (by unfold maxLen; omega)]
theorem H7 : ∀ l : List UInt8, tN (l.map fun b => (b.toNat : Int)) = some (l.all Bd)
 | [] => rfl
 | b :: l => by
  rw [bH, tN]
  simp only [qD, nT, aA]
  have a := MB b.toNat (iu b)
  rw [a]
  simp only [iQ, List.all_cons]
  cases Bd b with
  | true => simp [H7 l]
  | false => simp
theorem Gl {s : ByteArray} {b : UInt8} {l : List UInt8} (h : s.data.toList = b :: l) : yv s 0 = some b := by
 unfold yv
 rw [aZ (Int.le_refl 0)]
 have a : s.data[0]? = some b := by rw [← dI, h]; rfl
 show s[0]? = some b
 rw [← a]
 rfl
theorem rE (s : ByteArray) : nY s = some (mE s) := by
 unfold nY
 simp only [BA, aA, og]
 by_cases h1 : 1 ≤ s.size
 ·by_cases a : s.size ≤ 16
  ·rw [aZ (by simp; omega)]
   obtain ⟨b, l, c⟩ : ∃ b l, s.data.toList = b :: l := by
    cases h : s.data.toList with
    | nil => rw [uV, h] at h1; simp at h1
    | cons b l => exact ⟨b, l, rfl⟩
   rw [Gl c]
   simp only [aA, qD, nT]
   rw [JT b.toNat (iu b)]
   simp only [iQ, mE, h1, a, c, cH, fb]
   cases zg b with
   | false => simp
   | true =>
    simp only [aW, Ak, DT a, aA, rK]
    rw [H7, c]
    simp
  ·rw [aY (by simp; omega)]
   simp [mE, a]
 ·rw [aY (by simp; omega)]
  simp [mE, h1]
theorem NB {s : ByteArray} {A B : List UInt8} {b : UInt8} (h : s.data.toList = A ++ b :: B) (i : Int) (c : i = (A.length : Int)) : yv s i = some b := by
 subst c
 unfold yv
 rw [aZ (by omega), dL]
 have a : s.data[A.length]? = some b := by rw [← dI, h]; simp
 show s[A.length]? = some b
 rw [← a]
 rfl
theorem CQ (s : ByteArray) (u : s.size ≤ 16) : ∀ (B A : List UInt8) (n : Nat), s.data.toList = A ++ B → B.length < n → sr s n (A.length : Int) = some (B.all Bd)
  | [], A, 0, _, h => by simp at h
  | [], A, n + 1, h, _ => by
    have : s.size = A.length := by rw [uV, h]; simp
    rw [sr, aY (by rw [this]; simp)]
    rfl
  | b :: B, A, 0, _, h => by simp at h
  | b :: B, A, n + 1, h, t => by
    have k : s.size = A.length + B.length + 1 := by rw [uV, h]; simp; omega
    rw [sr, aZ (by rw [k]; simp; omega)]
    rw [NB h _ rfl]
    simp only [aA]
    rw [kN (x := (A.length : Int) + 1) (by omega) (by omega)]
    have ih := CQ s u B (A ++ [b]) n (by rw [h]; simp) (by simp at t; omega)
    rw [show ((A ++ [b]).length : Int) = (A.length : Int) + 1 by simp] at ih
    simp only [List.all_cons]
    have j : ∀ n : Nat, n < 256 → Bd (UInt8.ofNat n) = !((decide (n < 97) || decide (n > 122)) && (decide (n < 48) || decide (n > 57)) && decide (n ≠ 45)) := by decide +kernel
    have l := j b.toNat (iu b)
    simp only [iQ] at l
    rw [l]
    by_cases h1 : b.toNat < 97 <;> by_cases m : b.toNat > 122 <;> by_cases o : b.toNat < 48 <;> by_cases q : b.toNat > 57 <;> by_cases r : b.toNat = 45 <;>
      first
      | omega
      | (have a : ((b.toNat : Int) < 97) = (b.toNat < 97) := by rw [fU]; omega
         have c : ((b.toNat : Int) > 122) = (b.toNat > 122) := by rw [fU]; omega
         have d : ((b.toNat : Int) < 48) = (b.toNat < 48) := by rw [fU]; omega
         have g : ((b.toNat : Int) > 57) = (b.toNat > 57) := by rw [fU]; omega
         have i : ((b.toNat : Int) != 45) = !decide (b.toNat = 45) := by rw [cP]; simp; omega
         simp [h1, m, o, q, r, a, c, d, g, i, ih])
theorem tX (a : ByteArray) : lh a a = true := mc.2 rfl
theorem Nq : zS.size = 0 := rfl
theorem Nh {s : ByteArray} : s = zS ↔ s.size = 0 := by
 constructor
 ·rintro rfl; rfl
 ·intro h; exact zj (by rw [uV] at h; rw [dM.1 h]; rfl)
theorem wH (s : ByteArray) : rI s = some (mE s) := by
 unfold rI
 simp only [Ot, aA, og]
 by_cases g : s.size = 0
 ·have : s = zS := Nh.2 g
  subst this
  rw [tX]
  rfl
 ·have n : lh s zS = false := by
   cases h : lh s zS with
   | false => rfl
   | true => exact absurd (Nh.1 (mc.1 h)) g
  rw [n]
  simp only [Bool.false_or]
  by_cases i : s.size ≤ 16
  ·rw [aY (by simp; omega)]
   obtain ⟨b, l, k⟩ : ∃ b l, s.data.toList = b :: l := by
    cases h : s.data.toList with
    | nil => rw [uV, h] at g; simp at g
    | cons b l => exact ⟨b, l, rfl⟩
   rw [Gl k]
   simp only [aA, Ot]
   have m := CQ s i s.data.toList [] kC rfl (by rw [vt, ← uV]; omega)
   simp only [bU] at m
   rw [show (0 : Int) = ((0 : Nat) : Int) from rfl] at *
   rw [m]
   have j : ((b.toNat : Int) < 97) = (b.toNat < 97) := by rw [fU]; omega
   have d : ((b.toNat : Int) > 122) = (b.toNat > 122) := by rw [fU]; omega
   have h1 : 1 ≤ s.size := by omega
   simp only [mE, h1, i, k, zg, cH, fb, j, d]
   by_cases a : b.toNat < 97
   ·simp [a, show ¬ 97 ≤ b.toNat by omega]
   ·by_cases c : b.toNat > 122
    ·simp [a, c, show ¬ b.toNat ≤ 122 by omega]
    ·simp [a, c, show 97 ≤ b.toNat by omega, show b.toNat ≤ 122 by omega]
  ·rw [aZ (by simp; omega)]
   simp [mE, i]
def lH (r : jB) : Bool := mE r.jF && mE r.jK
theorem sU (r : jB) : ob r = some (lH r) := by
 unfold ob lH
 simp only [rE, aA]
 cases mE r.jF <;> simp
theorem Ea (r : jB) : uy r = some (lH r) := by
 unfold uy lH
 simp only [wH, aA]
 cases mE r.jF <;> simp
def xE (a b : jB) : Bool := pV a.jF b.jF || (lh a.jF b.jF && pV a.jK b.jK)
theorem Ai (a b : jB) : xn a b = some (xE a b) := by
 unfold xn xE
 cases pV a.jF b.jF <;> cases lh a.jF b.jF <;> simp
theorem I5 {a b : ByteArray} (h : a ≠ b) : lh a b = false := by
 cases c : lh a b with
 | false => rfl
 | true => exact absurd (mc.1 c) h
theorem yW {a b : jB} : xE a b = true ↔ pV a.jF b.jF = true ∨ (a.jF = b.jF ∧ pV a.jK b.jK = true) := by
 simp [xE, mc]
theorem JK (P : jB → Prop) : yp (fun a b => xE a b = true) P := by
 refine ⟨fun x _ h => ?_, fun x y z _ _ _ h1 c => ?_, fun x y _ _ => ?_⟩
 ·rw [yW] at h
  simp [rU] at h
 ·rw [yW] at *
  rcases h1 with h1 | ⟨g, h1⟩
  ·rcases c with c | ⟨d, c⟩
   ·exact .inl (yi h1 c)
   ·exact .inl (by rw [← d]; exact h1)
  ·rcases c with c | ⟨d, c⟩
   ·exact .inl (by rw [g]; exact c)
   ·exact .inr ⟨g.trans d, yi h1 c⟩
 ·simp only [yW]
  rcases yj x.jF y.jF with h | h | h
  ·exact .inl (.inl h)
  ·rcases yj x.jK y.jK with c | c | c
   ·exact .inl (.inr ⟨h, c⟩)
   ·refine .inr (.inl ?_)
    cases x; cases y; simp at h c; simp [h, c]
   ·exact .inr (.inr (.inr ⟨h.symm, c⟩))
  ·exact .inr (.inr (.inl h))
theorem tE (a b : jB) : ∃ c, nc a b = some c ∧ (c < 0 ↔ xE a b = true) := by
 unfold nc
 simp only [pa, mV, aA, tK, rn]
 have h1 : ∀ a b : ByteArray, (oN a b < 0 ↔ pV a b = true) := fun a b => by rw [xJ]; exact A4 _ _
 have g : ∀ a b : ByteArray, (oN a b = 0 ↔ a = b) := fun a b => by
  unfold oN; rw [Et]; exact ⟨zj, fun h => by rw [h]⟩
 by_cases e : oN a.jF b.jF = 0
 ·rw [aY (by simp [e])]
  have e' := (g _ _).1 e
  by_cases d : oN a.jK b.jK = 0
  ·rw [aY (by simp [d])]
   refine ⟨0, rfl, ?_⟩
   rw [yW, e', (g _ _).1 d]
   simp [rU]
  ·rw [aZ (by simp [d])]
   refine ⟨_, rfl, ?_⟩
   rw [yW, e', h1]
   simp [rU]
 ·rw [aZ (by simp [e])]
  refine ⟨_, rfl, ?_⟩
  rw [yW, h1]
  have : a.jF ≠ b.jF := fun h => e ((g _ _).2 h)
  simp [this]
def zR : jB := ⟨zS, zS⟩
theorem F4 (a b : ByteArray) : lh a b = lh b a := by rw [cP, mc, mc]; exact eq_comm
theorem Df (a b : jB) : kc a b = kc b a := by rw [cP, jZ, jZ]; exact eq_comm
theorem tP (a : jB) : kc a a = true := jZ.2 rfl
def lz (c : jA) : Bool := lH c.Head && (
 if c.Kind == 1 then mE c.kA && kc zR c.B && kc zR c.C && lh zS c.kz
 else if c.Kind == 2 then lH c.B && lh zS c.kA && kc zR c.C && lh zS c.kz
 else if c.Kind == 3 then lH c.B && lh c.B.jF c.Head.jF && mE c.kz && lh zS c.kA && kc zR c.C
 else if c.Kind == 4 then lH c.B && lH c.C && xE c.B c.C && lh zS c.kA && lh zS c.kz
 else false)
theorem sX (c : jA) : rh c = some (lz c) := by
 unfold rh lz
 simp only [sU, rE, aA]
 obtain ⟨k, hk, a⟩ := tE c.B c.C
 rw [hk]
 have b : decide (k < 0) = xE c.B c.C := by rw [cP, ← a]; simp
 simp only [aA, b]
 by_cases h1 : c.Kind = 1
 ·cases lH c.Head <;> cases mE c.kA <;> simp [h1, kp, tP, tX, zR, iv]
 ·by_cases d : c.Kind = 2
  ·cases lH c.Head <;> cases lH c.B <;> simp [d, kp, tP, tX, zR, iv]
  ·by_cases g : c.Kind = 3
   ·cases lH c.Head <;> cases lH c.B <;> cases lh c.B.jF c.Head.jF <;> cases mE c.kz <;> simp [g, kp, tP, tX, zR, iv]
   ·by_cases h : c.Kind = 4
    ·cases lH c.Head <;> cases lH c.B <;> cases lH c.C <;> cases xE c.B c.C <;> simp [h, kp, tP, tX, zR, iv]
    ·simp [h1, d, g, h]
theorem zw (c : jA) : wB c = some (lz c) := by
 unfold wB lz
 simp only [Ea, wH, Ai, aA]
 rw [show (⟨zS, zS⟩ : jB) = zR from rfl, Df c.B zR, Df c.C zR, F4 c.kz zS, F4 c.kA zS]
 by_cases h1 : c.Kind = 1
 ·cases lH c.Head <;> cases mE c.kA <;> cases kc zR c.B <;> cases kc zR c.C <;> simp [h1]
 ·by_cases a : c.Kind = 2
  ·cases lH c.Head <;> cases lH c.B <;> cases lh zS c.kA <;> cases kc zR c.C <;> simp [a]
  ·by_cases b : c.Kind = 3
   ·cases lH c.Head <;> cases lH c.B <;> cases lh zS c.kA <;> cases kc zR c.C <;> cases lh c.B.jF c.Head.jF <;> simp [b]
   ·by_cases d : c.Kind = 4
    ·cases lH c.Head <;> cases lH c.B <;> cases lh zS c.kA <;> cases lh zS c.kz <;> cases lH c.C <;> simp [d]
    ·cases lH c.Head <;> cases lH c.B <;> cases lh zS c.kA <;> simp [h1, a, b, d]
end Go.Proofs.YtmlncblocfcmiaaGreat
namespace Go.Proofs.YtmlncblocfcmiaaGreat
open Go.RowKit
theorem mJ {α : Type} {b : Nat} {l m : List α} (h : (l.length + m.length) * b ≤ 140737488355328) (a : l.length + m.length ≤ 9223372036854775807) : mG b l m = some (l ++ m) := by
 unfold mG; rw [aZ ⟨h, by unfold maxLen; omega⟩]
theorem Ew {l m : List Int} (h : l.length + m.length ≤ 1000000) : mG 1 l m = some (l ++ m) := mJ (by omega) (by omega)
def uN (s : ByteArray) : List Int := (s.size : Int) :: rK s
def qZ (r : jB) : List Int := uN r.jF ++ uN r.jK
def xi (c : jA) : List Int := if c.Kind = 1 then uN c.kA else if c.Kind = 2 then qZ c.B else if c.Kind = 3 then qZ c.B ++ uN c.kz else qZ c.B ++ qZ c.C
def rN (c : jA) : List Int := c.Kind :: (qZ c.Head ++ xi c)
theorem so (s : ByteArray) : (uN s).length = s.size + 1 := by simp [uN, oT]
theorem oL {r : jB} (h : lH r = true) : (qZ r).length ≤ 34 := by
 simp only [lH, bA] at h
 have h1 := nM h.1
 have a := nM h.2
 simp [qZ, so]; omega
theorem wV {l : List Int} {n : Int} (a : 0 ≤ n) (h1 : n < 128) (b : l.length ≤ 100000) : nx l n = some (true, l ++ [n]) := by
 have hw : IntKind.u8.wrap n = n := by
  obtain ⟨k, rfl⟩ : ∃ k : Nat, n = k := ⟨n.toNat, by omega⟩
  have : ∀ k : Nat, k < 128 → IntKind.u8.wrap (k : Int) = (k : Int) := by decide +kernel
  exact this k (by omega)
 unfold nx
 rw [aY (by simp; omega), mU, pv, aY (by simp; omega), hw, Ew (by simp; omega)]
 rfl
theorem Dl {l : List Int} {s : ByteArray} (h : mE s = true) (a : l.length ≤ 10000) : si l s = some (true, l ++ uN s) := by
 have h1 := nM h
 unfold si
 simp only [rE, aA, h, aW, DT h1.2]
 unfold vR
 rw [aY (by rw [oT]; simp; omega)]
 rw [oT, wV (by omega) (by omega) (by omega)]
 simp only [aA]
 rw [Ew (by simp [oT]; omega)]
 simp [uN]
theorem HC {l : List Int} {r : jB} (h : lH r = true) (b : l.length ≤ 9000) : pq l r = some (true, l ++ qZ r) := by
 have a := h
 simp only [lH, bA] at h
 have h1 := nM h.1
 unfold pq
 simp only [sU, aA, a, aW]
 rw [Dl h.1 (by omega)]
 simp only [aA, aW]
 rw [Dl h.2 (by simp [so]; omega)]
 simp [qZ]
theorem AP {l : List Int} {r : jB} (h : lH r = true) (a : l.length ≤ 1000) : pq l r = some (true, l ++ qZ r) := HC h (by omega)
theorem Am {c : jA} (h : lz c = true) : lH c.Head = true := by
 simp only [lz, bA] at h; exact h.1
theorem oa {c : jA} (h : lz c = true) :
  (c.Kind = 1 ∧ mE c.kA = true ∧ c.B = zR ∧ c.C = zR ∧ c.kz = zS) ∨
  (c.Kind = 2 ∧ lH c.B = true ∧ c.kA = zS ∧ c.C = zR ∧ c.kz = zS) ∨
  (c.Kind = 3 ∧ lH c.B = true ∧ mE c.kz = true ∧ c.B.jF = c.Head.jF ∧ c.kA = zS ∧ c.C = zR) ∨
  (c.Kind = 4 ∧ lH c.B = true ∧ lH c.C = true ∧ xE c.B c.C = true ∧ c.kA = zS ∧ c.kz = zS) := by
 simp only [lz, bA] at h
 obtain ⟨_, h⟩ := h
 split at h
 ·rename_i h1
  simp only [bA, jZ, mc] at h
  exact .inl ⟨by simpa using h1, h.1.1.1, h.1.1.2.symm, h.1.2.symm, h.2.symm⟩
 ·split at h
  ·rename_i h1
   simp only [bA, jZ, mc] at h
   exact .inr (.inl ⟨by simpa using h1, h.1.1.1, h.1.1.2.symm, h.1.2.symm, h.2.symm⟩)
  ·split at h
   ·rename_i h1
    simp only [bA, jZ, mc] at h
    exact .inr (.inr (.inl ⟨by simpa using h1, h.1.1.1.1, h.1.1.2, h.1.1.1.2, h.1.2.symm, h.2.symm⟩))
   ·split at h
    ·rename_i h1
     simp only [bA, jZ, mc] at h
     exact .inr (.inr (.inr ⟨by simpa using h1, h.1.1.1.1, h.1.1.1.2, h.1.1.2, h.1.2.symm, h.2.symm⟩))
    ·cases h
theorem Ah (c : jA) : vc c = some (if lz c then rN c else []) := by
 unfold vc
 rw [sX]
 simp only [aA]
 cases h : lz c with
 | false => simp
 | true =>
  have g := Am h
  have i := oL g
  simp only [bW, aB, aM, aW]
  have hk : 0 ≤ c.Kind ∧ c.Kind < 128 := by rcases oa h with h | h | h | h <;> omega
  rw [wV hk.1 hk.2 (by simp)]
  simp only [aA]
  rw [AP g (by simp)]
  simp only [aA, sy, sJ]
  rcases oa h with ⟨k, h1, _⟩ | ⟨k, h1, _⟩ | ⟨k, h1, a, _⟩ | ⟨k, h1, a, _⟩
  ·have b := nM h1
   simp only [k, bJ, aW, Dl h1 (show (([] ++ [(1:Int)]) ++ qZ c.Head).length ≤ 10000 by simp; omega), aA]
   rw [Ew (by simp [so]; omega)]
   simp [rN, xi, k]
  ·have b := oL h1
   simp only [k, show ((2 : Int) == 1) = false from rfl, aB, bJ, aW, aM, AP h1 (show (([] ++ [(2:Int)]) ++ qZ c.Head).length ≤ 1000 by simp; omega), aA]
   rw [Ew (by simp; omega)]
   simp [rN, xi, k]
  ·have b := oL h1
   have d := nM a
   simp only [k, show ((3 : Int) == 1) = false from rfl, show ((3 : Int) == 2) = false from rfl, aB, bJ, aW, aM, AP h1 (show (([] ++ [(3:Int)]) ++ qZ c.Head).length ≤ 1000 by simp; omega), aA]
   rw [Dl a (by simp; omega)]
   simp only [aA]
   rw [Ew (by simp [so]; omega)]
   simp [rN, xi, k]
  ·have b := oL h1
   have d := oL a
   simp only [k, show ((4 : Int) == 1) = false from rfl, show ((4 : Int) == 2) = false from rfl, show ((4 : Int) == 3) = false from rfl, aB, bJ, aW, aM, AP h1 (show (([] ++ [(4:Int)]) ++ qZ c.Head).length ≤ 1000 by simp; omega), aA]
   rw [AP a (by simp; omega)]
   simp only [aA]
   rw [Ew (by simp; omega)]
   simp [rN, xi, k]
def yH (l : List Int) : ByteArray := ⟨(tU l).toArray⟩
theorem ze (l : List Int) : (yH l).data.toList = tU l := rfl
theorem Fe : ∀ (l : List Int) (r : ByteArray), (l.foldl (fun r n => r.push (UInt8.ofNat n.toNat)) r).data.toList = r.data.toList ++ tU l
 | [], r => by simp [tU]
 | x :: l, r => by
  rw [jm, Fe l]
  show ((r.data.push _).toList) ++ _ = _
  simp [tU]
theorem N3 (l : List Int) : yt l = yH l := zj (by unfold yt; rw [Fe]; rfl)
theorem Hc (l : List Int) : (yH l).size = l.length := by rw [uV, ze]; simp [tU]
theorem Kh (a b : List Int) : tU (a ++ b) = tU a ++ tU b := by simp [tU]
theorem uB (a b : List Int) (h : a.length + b.length ≤ 1000000) : zo (yH a) (yH b) = some (yH (a ++ b)) := by
 unfold zo
 rw [aY]
 ·congr 1
  refine zj ?_
  rw [ze, Kh, ← ze a, ← ze b]
  exact ByteArray.toList_data_append ▸ rfl
 ·rw [Hc, Hc]
  show ¬ (_ > (9223372036854775807 : Int))
  omega
theorem BX (s : ByteArray) : yH (rK s) = s := zj (by rw [ze]; simp [tU, rK, fz])
theorem Ga {n : Int} (a : 0 ≤ n) (h1 : n < 128) : vB n = some (yH [n]) := by
 have hw : IntKind.u8.wrap n = n := by
  obtain ⟨k, rfl⟩ : ∃ k : Nat, n = k := ⟨n.toNat, by omega⟩
  have : ∀ k : Nat, k < 128 → IntKind.u8.wrap (k : Int) = (k : Int) := by decide +kernel
  exact this k (by omega)
 unfold vB
 rw [mU, vW, aY (by simp; omega), hw, N3, show zS = yH [] from rfl, uB _ _ (by simp)]
 rfl
theorem Dy {s : ByteArray} (h : mE s = true) : tG s = some (yH (uN s)) := by
 have h1 := nM h
 unfold tG
 rw [Ga (by omega) (by omega)]
 simp only [aA]
 have := uB [(s.size : Int)] (rK s) (by rw [oT]; simp; omega)
 rw [BX] at this
 rw [this]
 simp [uN]
theorem Bi {r : jB} (h : lH r = true) : uz r = some (yH (qZ r)) := by
 simp only [lH, bA] at h
 have h1 := nM h.1
 have a := nM h.2
 unfold uz
 rw [Dy h.1, Dy h.2]
 simp only [aA]
 rw [uB _ _ (by simp [so]; omega)]
 rfl
theorem zJ (c : jA) : wy c = some (yH (if lz c then rN c else [])) := by
 unfold wy
 rw [zw]
 simp only [aA]
 cases h : lz c with
 | false => rfl
 | true =>
  have g := Am h
  have i := oL g
  simp only [bW, aB, aM, aW]
  have hk : 0 ≤ c.Kind ∧ c.Kind < 128 := by rcases oa h with h | h | h | h <;> omega
  unfold Ca
  rw [Ga hk.1 hk.2, Bi g]
  simp only [aA]
  rw [uB _ _ (by simp; omega)]
  simp only [aA]
  rcases oa h with ⟨k, h1, _⟩ | ⟨k, h1, _⟩ | ⟨k, h1, a, _⟩ | ⟨k, h1, a, _⟩
  ·have b := nM h1
   simp only [k, bJ, aW, Dy h1, aA]
   rw [uB _ _ (by simp [so]; omega)]
   simp [rN, xi, k]
  ·have b := oL h1
   simp only [k, show ((2 : Int) == 1) = false from rfl, show ((2 : Int) == 3) = false from rfl, show ((2 : Int) == 4) = false from rfl, aB, aM, Bi h1, aA]
   rw [uB _ _ (by simp; omega)]
   simp [rN, xi, k]
  ·have b := oL h1
   have d := nM a
   simp only [k, show ((3 : Int) == 1) = false from rfl, show ((3 : Int) == 4) = false from rfl, aB, bJ, aW, aM, Bi h1, aA]
   rw [uB _ _ (by simp; omega)]
   simp only [aA, Dy a]
   rw [uB _ _ (by simp [so]; omega)]
   simp [rN, xi, k]
  ·have b := oL h1
   have d := oL a
   simp only [k, show ((4 : Int) == 1) = false from rfl, show ((4 : Int) == 3) = false from rfl, aB, bJ, aW, aM, Bi h1, aA]
   rw [uB _ _ (by simp; omega)]
   simp only [aA, Bi a]
   rw [uB _ _ (by simp; omega)]
   simp [rN, xi, k]
def He (c : jA) : List UInt8 := tU (if lz c then rN c else [])
def xx (a b : jA) : Bool := Op.bytesLess (He a) (He b)
theorem yJ (a b : jA) : ∃ c, pJ a b = some c ∧ (c < 0 ↔ xx a b = true) := by
 unfold pJ
 rw [Ah, Ah]
 exact ⟨_, rfl, A4 _ _⟩
theorem Cv (a b : jA) : ∃ c, sZ a b = some c ∧ (c < 0 ↔ xx a b = true) := by
 unfold sZ
 rw [zJ, zJ]
 simp only [aA]
 have h : pV (yH (if lz a then rN a else [])) (yH (if lz b then rN b else [])) = xx a b := by rw [xJ]; rfl
 rw [h]
 cases xx a b with
 | true => exact ⟨_, rfl, by decide⟩
 | false =>
  simp only [aB, aM, Bool.false_or]
  cases d : lh (yH (if lz a then rN a else [])) (yH (if lz b then rN b else [])) with
  | true => exact ⟨0, by simp, by decide⟩
  | false => exact ⟨1, by simp, by decide⟩
theorem OJ {a b : Int} (ha : 0 ≤ a ∧ a < 256) (c : 0 ≤ b ∧ b < 256) (h : a.toNat.toUInt8 = b.toNat.toUInt8) : a = b := by
 have := aX UInt8.toNat h
 simp only [UInt8.toNat_ofNat', Nat.toUInt8] at this
 simp at this
 omega
theorem IP : ∀ {a b : List Int}, (∀ x ∈ a, 0 ≤ x ∧ x < 256) → (∀ x ∈ b, 0 ≤ x ∧ x < 256) → tU a = tU b → a = b
 | [], [], _, _, _ => rfl
 | [], _ :: _, _, _, h => by simp [tU] at h
 | _ :: _, [], _, _, h => by simp [tU] at h
 | x :: a, y :: b, ha, d, h => by
  simp only [tU, bH, bE] at h
  rw [OJ (ha x (by simp)) (d y (by simp)) h.1, IP (fun z c => ha z (by simp [c])) (fun z c => d z (by simp [c])) h.2]
theorem yf {s : ByteArray} (h : mE s = true) : ∀ x ∈ uN s, 0 ≤ x ∧ x < 256 := by
 have h1 := nM h
 intro x a
 rcases aQ.1 a with rfl | a
 ·omega
 ·simp only [rK, bB] at a
  obtain ⟨b, _, rfl⟩ := a
  have := iu b
  omega
theorem wc {r : jB} (h : lH r = true) : ∀ x ∈ qZ r, 0 ≤ x ∧ x < 256 := by
 simp only [lH, bA] at h
 intro x a
 rcases aR.1 a with a | a
 ·exact yf h.1 x a
 ·exact yf h.2 x a
theorem DO {c : jA} (h : lz c = true) : ∀ x ∈ rN c, 0 ≤ x ∧ x < 256 := by
 intro x a
 rcases aQ.1 a with rfl | a
 ·rcases oa h with h | h | h | h <;> omega
 ·rcases aR.1 a with a | a
  ·exact wc (Am h) x a
  ·unfold xi at a
   rcases oa h with ⟨k, h1, _⟩ | ⟨k, h1, _⟩ | ⟨k, h1, b, _⟩ | ⟨k, h1, b, _⟩
   ·rw [aZ k] at a; exact yf h1 x a
   ·rw [aY (by omega), aZ k] at a; exact wc h1 x a
   ·rw [aY (by omega), aY (by omega), aZ k] at a
    rcases aR.1 a with a | a
    ·exact wc h1 x a
    ·exact yf b x a
   ·rw [aY (by omega), aY (by omega), aY (by omega)] at a
    rcases aR.1 a with a | a
    ·exact wc h1 x a
    ·exact wc b x a
theorem Jx {s t : ByteArray} (h : rK s = rK t) : s = t := by rw [← BX s, h, BX]
theorem zP {s t : ByteArray} {X Y : List Int} (h : uN s ++ X = uN t ++ Y) : s = t ∧ X = Y := by
 simp only [uN, cA, bE] at h
 obtain ⟨h1, a⟩ := h
 have b : (rK s).length = (rK t).length := by rw [oT, oT]; omega
 have := List.append_inj a b
 exact ⟨Jx this.1, this.2⟩
theorem yo {a b : jB} {X Y : List Int} (h : qZ a ++ X = qZ b ++ Y) : a = b ∧ X = Y := by
 simp only [qZ, aN] at h
 obtain ⟨h1, d⟩ := zP h
 obtain ⟨c, g⟩ := zP d
 exact ⟨by cases a; cases b; simp at h1 c; simp [h1, c], g⟩
theorem Lg {a b : jA} (ha : lz a = true) (r : lz b = true) (h : rN a = rN b) : a = b := by
 simp only [rN, bE] at h
 obtain ⟨hk, o⟩ := h
 obtain ⟨n, h⟩ := yo o
 clear o
 have j : ∀ {X Y : List Int}, X = Y → X ++ [] = Y ++ [] := fun h => by rw [h]
 unfold xi at h
 obtain ⟨y, q, A, v, w, t⟩ := a
 obtain ⟨z, s, D, bb, x, u⟩ := b
 simp only at hk n h
 subst hk n
 rcases oa ha with ⟨k, h1, d, g, c⟩ | ⟨k, h1, d, g, c⟩ | ⟨k, h1, d, g, c, i⟩ | ⟨k, h1, d, g, c, i⟩ <;>
 rcases oa r with ⟨k', g1, g2, g3, g4⟩ | ⟨k', g1, g2, g3, g4⟩ | ⟨k', g1, g2, g3, g4, g5⟩ | ⟨k', g1, g2, g3, g4, g5⟩ <;> simp only at k k' d g c g2 g3 g4 <;> (try omega)
 ·rw [aZ k, aZ k] at h
  simp [zP (j h), d, g, c, g2, g3, g4]
 ·rw [aY (by omega), aZ k, aY (by omega), aZ k] at h
  simp [yo (j h), d, g, c, g2, g3, g4]
 ·rw [aY (by omega), aY (by omega), aZ k, aY (by omega), aY (by omega), aZ k] at h
  obtain ⟨l, m⟩ := yo h
  simp only at i g5
  simp [l, zP (j m), c, i, g4, g5]
 ·rw [aY (by omega), aY (by omega), aY (by omega), aY (by omega), aY (by omega), aY (by omega)] at h
  obtain ⟨l, m⟩ := yo h
  simp only at i g5
  simp [l, yo (j m), c, i, g4, g5]
theorem BK : yp (fun a b => xx a b = true) (fun c => lz c = true) := by
 refine ⟨fun x _ h => ?_, fun x y z _ _ _ h1 i => zn _ _ _ h1 i, fun x y d g => ?_⟩
 ·unfold xx at h; rw [Ac] at h; cases h
 ·rcases BM (He x) (He y) with h | h | h
  ·exact .inl h
  ·refine .inr (.inl (Lg d g ?_))
   unfold He at h
   rw [aZ d, aZ g] at h
   exact IP (DO d) (DO g) h
  ·exact .inr (.inr h)
end Go.Proofs.YtmlncblocfcmiaaGreat
namespace Go.Proofs.YtmlncblocfcmiaaGreat
open Go.RowKit
def qx {α : Type} (R : α → Bool) (lt : α → α → Bool) (last : Option α) : List α → Bool → α → Bool × α
 | [], ok, b => (ok, b)
 | x :: xs, ok, b => if R x && last.all (fun y => lt y x) && (!ok || lt x b) then qx R lt last xs true x else qx R lt last xs ok b
def yA {α : Type} (w : Nat) (R : α → Bool) (lt : α → α → Bool) (d : α) (l : List α) : Nat → List α → Option (List α)
 | 0, _ => none
 | n + 1, out => if !(qx R lt out.getLast? l false d).1 then some out else (mG w out [(qx R lt out.getLast? l false d).2]).bind fun o => yA w R lt d l n o
section
variable {α : Type} {R : α → Bool} {lt : α → α → Bool}
theorem CV (H : yp (fun a b => lt a b = true) (fun x => R x = true)) (last : Option α) : ∀ (l : List α) (ok : Bool) (b : α), (ok = true → R b = true ∧ last.all (fun y => lt y b) = true) →
  ((qx R lt last l ok b).1 = false → ok = false ∧ ∀ x ∈ l, R x = true → last.all (fun y => lt y x) = false) ∧
  ((qx R lt last l ok b).1 = true → R (qx R lt last l ok b).2 = true ∧ last.all (fun y => lt y (qx R lt last l ok b).2) = true ∧ ((qx R lt last l ok b).2 ∈ l ∨ (ok = true ∧ (qx R lt last l ok b).2 = b)) ∧
   (∀ x ∈ l, R x = true → last.all (fun y => lt y x) = true → lt x (qx R lt last l ok b).2 = false) ∧ (ok = true → lt b (qx R lt last l ok b).2 = false))
 | [], ok, b, j => by
  simp only [qx]
  exact ⟨fun h => ⟨h, by simp⟩, fun h => ⟨(j h).1, (j h).2, .inr ⟨h, trivial⟩, by simp, fun _ => by
   cases m : lt b b with
   | false => rfl
   | true => exact absurd m (H.irrefl b (j h).1)⟩⟩
 | x :: xs, ok, b, j => by
  rw [qx]
  by_cases k : (R x && last.all (fun y => lt y x) && (!ok || lt x b)) = true
  ·rw [aZ k]
   simp only [bA, ft, eZ] at k
   obtain ⟨⟨w, s⟩, t⟩ := k
   obtain ⟨h1, r⟩ := CV H last xs true x (fun _ => ⟨w, s⟩)
   refine ⟨fun h => ?_, fun h => ?_⟩
   ·cases (h1 h).1
   ·obtain ⟨o, a2, a3, a4, a5⟩ := r h
    refine ⟨o, a2, ?_, ?_, ?_⟩
    ·rcases a3 with a3 | ⟨_, a3⟩
     ·exact .inl (by simp [a3])
     ·exact .inl (by rw [a3]; simp)
    ·intro y g c d
     rcases aQ.1 g with rfl | g
     ·exact a5 rfl
     ·exact a4 y g c d
    ·intro i
     cases m : lt b (qx R lt last xs true x).2 with
     | false => rfl
     | true =>
      have u : lt x b = true := by rcases t with h | h; rw [i] at h; cases h; exact h
      have := H.trans x b _ w (j i).1 o u m
      simp only [a5 rfl] at this
      cases this
  ·rw [aY k]
   obtain ⟨h1, r⟩ := CV H last xs ok b j
   refine ⟨fun h => ⟨(h1 h).1, fun y g c => ?_⟩, fun h => ?_⟩
   ·rcases aQ.1 g with rfl | g
    ·have i := (h1 h).1
     cases s : last.all (fun z => lt z y) with
     | false => rfl
     | true => exact absurd (by simp [c, s, i]) k
    ·exact (h1 h).2 y g c
   ·obtain ⟨o, a2, a3, a4, a5⟩ := r h
    refine ⟨o, a2, ?_, ?_, a5⟩
    ·rcases a3 with a3 | a3
     ·exact .inl (by simp [a3])
     ·exact .inr a3
    ·intro y g c d
     rcases aQ.1 g with rfl | g
     ·cases m : lt y (qx R lt last xs ok b).2 with
      | false => rfl
      | true =>
       cases ok with
       | false => exact absurd (by simp [c, d]) k
       | true =>
        have v : lt y b = false := by
         cases A : lt y b with
         | false => rfl
         | true => exact absurd (by simp [c, d, A]) k
        have q := j rfl
        rcases H.total y b c q.1 with n | n | n
        ·rw [v] at n; cases n
        ·subst n; rw [a5 rfl] at m; cases m
        ·have := H.trans b y _ q.1 c o n m
         simp only [a5 rfl] at this
         cases this
     ·exact a4 y g c d
theorem te (H : yp (fun a b => lt a b = true) (fun x => R x = true)) {l : List α} (d : ∀ x ∈ l, R x = true) (h : l.Pairwise (fun a b => lt a b = true)) : l.Nodup := by
 refine h.imp_of_mem (fun {a b} ha g c e => ?_)
 subst e
 exact H.irrefl a (d a ha) c
theorem me : ∀ {l m : List α}, l.Nodup → (∀ x ∈ l, x ∈ m) → l.length ≤ m.length
 | [], _, _, _ => by simp
 | x :: l, m, d, b => by
  obtain ⟨A, B, rfl⟩ := List.append_of_mem (b x (by simp))
  have a := dn.1 d
  have := me (l := l) (m := A ++ B) a.2 (fun y c => by
   have := b y (eY _ c)
   simp only [aR, aQ] at this ⊢
   rcases this with h | h | h
   ·exact .inl h
   ·subst h; exact absurd c a.1
   ·exact .inr h)
  simp at this ⊢; omega
theorem zY (H : yp (fun a b => lt a b = true) (fun x => R x = true)) {w : Nat} (hw : w ≤ 1000) (d : α) (l : List α) (I : l.length ≤ 1000000000) : ∀ (n : Nat) (out : List α), l.length < n + out.length → out.Pairwise (fun a b => lt a b = true) → (∀ x ∈ out, x ∈ l ∧ R x = true) →
  (∀ x ∈ l, R x = true → x ∈ out ∨ out.getLast?.all (fun y => lt y x) = true) → ∃ s, yA w R lt d l n out = some s ∧ tw (fun a b => lt a b = true) (fun x => R x = true) l s
 | 0, out, J, hp, hm, u => by
  exfalso
  have := me (te H (fun x c => (hm x c).2) hp) (fun x c => (hm x c).1)
  omega
 | n + 1, out, J, hp, hm, u => by
  rw [yA]
  obtain ⟨h1, F⟩ := CV H out.getLast? l false d (fun h => by cases h)
  have hlen := me (te H (fun x c => (hm x c).2) hp) (fun x c => (hm x c).1)
  cases D : (qx R lt out.getLast? l false d).1 with
  | false =>
   rw [aZ (by simp)]
   refine ⟨out, rfl, hp, fun x => ⟨hm x, fun c => ?_⟩⟩
   rcases u x c.1 c.2 with h | h
   ·exact h
   ·rw [(h1 D).2 x c.1 c.2] at h; cases h
  | true =>
   rw [aY (by simp)]
   obtain ⟨r, a2, a3, a4, _⟩ := F D
   generalize (qx R lt out.getLast? l false d).2 = b at *
   have t : b ∈ l := by rcases a3 with h | ⟨h, _⟩; exact h; cases h
   have o : ∀ y ∈ out, lt y b = true := by
    intro y g
    obtain ⟨A, z, rfl⟩ : ∃ A z, out = A ++ [z] := by
     rcases dv out with h | ⟨A, z, h⟩
     ·subst h; cases g
     ·exact ⟨A, z, by rw [h]; simp⟩
    simp at a2
    rcases aR.1 g with g | g
    ·have v : lt y z = true := (cR.1 hp).2.2 y g z (by simp)
     exact H.trans y z b (hm y (by simp [g])).2 (hm z (by simp)).2 r v a2
    ·simp at g; subst g; exact a2
   have q : (out ++ [b]).Pairwise (fun a b => lt a b = true) := cR.2 ⟨hp, by simp, fun x c y g => by simp at g; subst g; exact o x c⟩
   have k : ∀ x ∈ out ++ [b], x ∈ l ∧ R x = true := fun x c => by
    rcases aR.1 c with c | c
    ·exact hm x c
    ·simp at c; subst c; exact ⟨t, r⟩
   have j := me (te H (fun x c => (k x c).2) q) (fun x c => (k x c).1)
   simp at j
   rw [mJ (by simp only [aO, bU]; have : (out.length + (0 + 1)) * w ≤ 1000000000 * 1000 := Nat.mul_le_mul (by omega) hw; omega) (by simp; omega)]
   simp only [aA]
   refine zY H hw d l I n (out ++ [b]) (by simp; omega) q k (fun x c i => ?_)
   rcases u x c i with h | h
   ·exact .inl (by simp [h])
   ·have G := a4 x c i h
    rcases H.total x b i r with m | m | m
    ·rw [G] at m; cases m
    ·subst m; exact .inl (by simp)
    ·exact .inr (by simp [m])
end
theorem EA {α : Type} (A : List α) (x : α) (a : A.length < 4611686018427387904) : lj (A ++ [x]) (IntKind.i64.wrap (((A ++ [x]).length : Int) - 1)) = some x := by
 rw [kN (by simp; try omega) (by simp; try omega)]
 rw [mD A x [] _ (by simp; try omega)]
theorem D4 (out : List jA) (k : out.length < 4611686018427387904) : ∀ (l : List jA) (ok : Bool) (b : jA), se out l ok b = some (qx lz xx out.getLast? l ok b)
 | [], ok, b => rfl
 | x :: xs, ok, b => by
  rw [se, qx]
  have cmp : ∀ a b, ∃ c, sZ a b = some c ∧ decide (c < 0) = xx a b := fun a b => by
   obtain ⟨c, h1, j⟩ := Cv a b
   exact ⟨c, h1, by rw [cP, ← j]; simp⟩
  rw [zw, D4 out k xs true x, D4 out k xs ok b]
  obtain ⟨c, h1, j⟩ := cmp x b
  rcases dv out with h | ⟨A, z, h⟩
  ·subst h
   simp only [h1, aA, j, bU, Option.all, List.getLast?_nil]
   generalize xx x b = p
   cases lz x <;> cases ok <;> cases p <;> simp
  ·have i : out = A ++ [z] := by rw [h]; simp
   obtain ⟨s, q, r⟩ := cmp z x
   have d : out.getLast? = some z := by rw [i]; simp
   have g : lj out (IntKind.i64.wrap ((out.length : Int) - 1)) = some z := by rw [i]; exact EA A z (by rw [i] at k; simp at k; omega)
   have m : ((out.length : Int) == 0) = false := by rw [i]; simp; omega
   rw [d]
   simp only [m, g, q, h1, aA, j, r, Option.all]
   rcases dX (xx x b) with hp | hp <;> rcases dX (xx z x) with n | n <;> rcases dX (lz x) with o | o <;> cases ok <;> simp [hp, n, o]
theorem QQ (a b : ByteArray) : (!(pV a b || lh a b)) = pV b a := by
 rcases yj a b with h | h | h
 ·simp [h, Gu h]
 ·subst h; simp [tX, rU]
 ·have c := Gu h
  have d : lh a b = false := I5 (by rintro rfl; rw [rU] at h; cases h)
  simp [h, c, d]
theorem LI {s : ByteArray} (h : mE s = true) : lh s zS = false := I5 (fun e => by have := nM h; rw [e, Nq] at this; omega)
theorem D2 (out : List ByteArray) (k : out.length < 4611686018427387904) : ∀ (l : List ByteArray) (b : ByteArray),
  ∃ m, sf out l b = some m ∧ (qx mE pV out.getLast? l (!lh b zS) b) = (!lh m zS, m)
 | [], b => ⟨b, rfl, rfl⟩
 | x :: xs, b => by
  rw [sf, qx]
  obtain ⟨u, s, c⟩ := D2 out k xs x
  obtain ⟨v, t, i⟩ := D2 out k xs b
  rw [wH, s, t]
  by_cases g : mE x = true
  ·rw [LI g] at c
   simp only [ef] at c
   rcases dv out with h | ⟨A, z, h⟩
   ·subst h
    simp only [aA, bU, Option.all, List.getLast?_nil, g] at *
    rw [c, i]
    generalize pV x b = p
    generalize lh b zS = q
    cases p <;> cases q <;> simp
   ·have j : out = A ++ [z] := by rw [h]; simp
    have a : out.getLast? = some z := by rw [j]; simp
    have d : lj out (IntKind.i64.wrap ((out.length : Int) - 1)) = some z := by rw [j]; exact EA A z (by rw [j] at k; simp at k; omega)
    have n : ((out.length : Int) == 0) = false := by rw [j]; simp; omega
    rw [a] at c i ⊢
    simp only [n, d, aA, Option.all, QQ, g]
    rw [c, i]
    rcases dX (pV x b) with hp | hp <;> rcases dX (pV z x) with o | o <;> rcases dX (lh b zS) with r | r <;> simp [hp, o, r]
  ·simp only [je] at g
   rw [g, i]
   simp
theorem Nj (a : List jA) : ∀ (n : Nat) (out s : List jA), yA 136 lz xx (⟨0, ⟨zS, zS⟩, zS, ⟨zS, zS⟩, ⟨zS, zS⟩, zS⟩ : jA) a n out = some s → s.length < 4611686018427387904 → vJ a n out = some s ∧ out.length ≤ s.length
 | 0, out, s, h, _ => by cases h
 | n + 1, out, s, h, g => by
  rw [yA] at h
  rw [vJ]
  have key : out.length ≤ s.length → se out a false (⟨0, ⟨zS, zS⟩, zS, ⟨zS, zS⟩, ⟨zS, zS⟩, zS⟩ : jA) = _ := fun j => D4 out (by omega) a false _
  split at h
  ·rename_i h1
   cases h
   rw [key (aV _)]
   simp only [aA]
   rw [aZ h1]
   exact ⟨rfl, aV _⟩
  ·rename_i h1
   obtain ⟨o, b, c⟩ := bind_some h
   have d := Nj a n o s c g
   have i : out.length + 1 = o.length := by
    unfold mG at b; split at b
    ·cases b; simp
    ·cases b
   rw [key (by omega)]
   simp only [aA]
   rw [aY h1, b]
   exact ⟨d.1, by omega⟩
theorem M9 (a : List ByteArray) : ∀ (n : Nat) (out s : List ByteArray), yA 16 mE pV zS a n out = some s → s.length < 4611686018427387904 → vG a n out = some s ∧ out.length ≤ s.length
 | 0, out, s, h, _ => by cases h
 | n + 1, out, s, h, j => by
  rw [yA] at h
  rw [vG]
  have key : out.length ≤ s.length → ∃ c, sf out a zS = some c ∧ qx mE pV out.getLast? a false zS = (!lh c zS, c) := fun l => by
   have := D2 out (by omega) a zS
   rw [tX] at this
   exact this
  split at h
  ·rename_i h1
   cases h
   obtain ⟨c, d, k2⟩ := key (aV _)
   rw [d]
   rw [k2] at h1
   simp only [aA]
   rw [aZ (by simpa using h1)]
   exact ⟨rfl, aV _⟩
  ·rename_i h1
   obtain ⟨o, b, g⟩ := bind_some h
   have i := M9 a n o s g j
   have k : out.length + 1 = o.length := by
    unfold mG at b; split at b
    ·cases b; simp
    ·cases b
   obtain ⟨c, d, k2⟩ := key (by omega)
   rw [d]
   rw [k2] at h1 b
   simp only [aA]
   rw [aY (by simpa using h1), b]
   exact ⟨i.1, by omega⟩
abbrev OL (l s : List ByteArray) := tw (fun a b => pV a b = true) (fun x => mE x = true) l s
abbrev AX (l s : List jB) := tw (fun a b => xE a b = true) (fun x => lH x = true) l s
abbrev uu (l s : List jA) := tw (fun a b => xx a b = true) (fun x => lz x = true) l s
theorem zl {α : Type} {lt : α → α → Bool} {R : α → Bool} (H : yp (fun a b => lt a b = true) (fun x => R x = true)) {l s : List α} (h : tw (fun a b => lt a b = true) (fun x => R x = true) l s) : s.length ≤ l.length :=
 me (te H (fun x c => ((h.2 x).1 c).2) h.1) (fun x c => ((h.2 x).1 c).1)
theorem NL (l : List jA) (b : l.length ≤ 1000000000) : ∃ s, DN l = some s ∧ uu l s := by
 obtain ⟨s, h1, a⟩ := zY BK (w := 136) (by omega) (⟨0, ⟨zS, zS⟩, zS, ⟨zS, zS⟩, ⟨zS, zS⟩, zS⟩ : jA) l b kC [] (by rw [vt]; omega) (by simp) (by simp) (fun x _ _ => .inr rfl)
 exact ⟨s, (Nj l kC [] s h1 (by have := zl BK a; omega)).1, a⟩
theorem NN (l : List ByteArray) (b : l.length ≤ 1000000000) : ∃ s, AA l = some s ∧ OL l s := by
 obtain ⟨s, h1, a⟩ := zY (M3 (fun x => mE x = true)) (w := 16) (by omega) zS l b kC [] (by rw [vt]; omega) (by simp) (by simp) (fun x _ _ => .inr rfl)
 exact ⟨s, (M9 l kC [] s h1 (by have := zl (M3 _) a; omega)).1, a⟩
end Go.Proofs.YtmlncblocfcmiaaGreat
namespace Go.Proofs.YtmlncblocfcmiaaGreat
open Go.RowKit
def zC : jA := ⟨0, ⟨zS, zS⟩, zS, ⟨zS, zS⟩, ⟨zS, zS⟩, zS⟩
theorem Ja (f : jA → Option Bool) : ∀ (n : Nat) (l : List jA) (i j : Int), mX f n l i j = zx f zC n l i j
 | 0, _, _, _ => rfl
 | n + 1, l, i, j => by
  rw [mX, zx]
  simp only [Ja f n]
  rfl
theorem FF (f : jA → Option Bool) : ∀ (l : List jA) (i : Nat), oe f l i = vV f l i
 | [], _ => rfl
 | x :: l, i => by rw [oe, vV]; simp only [FF f l]
theorem Hn (f : jA → Option Bool) (l : List jA) : oM l f = CC f zC l := by
 unfold oM CC oX
 simp only [FF, Ja]
theorem Il (i : Int) : ∀ (n : Nat) (l : List jA) (k j : Int), nH i n l k j = xH kp i n l k j
 | 0, _, _, _ => rfl
 | n + 1, l, k, j => by
  rw [nH, xH]
  simp only [Il i n]
theorem H6 (l : List jA) : ∀ (n : Nat) (i : Int), nG l n i = yz kp zC l n i
 | 0, _ => rfl
 | n + 1, i => by
  rw [nG, yz]
  simp only [H6 l n, Il]
  rfl
theorem MO (l : List jA) : rF l = D9 kp zC l := by
 unfold rF D9
 simp only [H6]
theorem IR (f : jB → Option Bool) : ∀ (n : Nat) (l : List jB) (i j : Int), mW f n l i j = zx f zR n l i j
 | 0, _, _, _ => rfl
 | n + 1, l, i, j => by
  rw [mW, zx]
  simp only [IR f n]
  rfl
theorem IY (f : jB → Option Bool) : ∀ (l : List jB) (i : Nat), nX f l i = vV f l i
 | [], _ => rfl
 | x :: l, i => by rw [nX, vV]; simp only [IY f l]
theorem MG (f : jB → Option Bool) (l : List jB) : qc l f = CC f zR l := by
 unfold qc CC sH
 simp only [IY, IR]
theorem HL (i : Int) : ∀ (n : Nat) (l : List jB) (k j : Int), nD i n l k j = xH kc i n l k j
 | 0, _, _, _ => rfl
 | n + 1, l, k, j => by
  rw [nD, xH]
  simp only [HL i n]
theorem Hd (l : List jB) : ∀ (n : Nat) (i : Int), nE l n i = yz kc zR l n i
 | 0, _ => rfl
 | n + 1, i => by
  rw [nE, yz]
  simp only [Hd l n, HL]
  rfl
theorem L5 (l : List jB) : rq l = D9 kc zR l := by
 unfold rq D9
 simp only [Hd]
theorem Pj {l : List jA} (a : l.length ≤ 1000000000) : qE l = some l := by
 unfold qE
 rw [mJ (by simp; omega) (by simp; omega)]
 simp
theorem Pq {l : List jB} (a : l.length ≤ 1000000000) : qG l = some l := by
 unfold qG
 rw [mJ (by simp; omega) (by simp; omega)]
 simp
theorem Hu (l : List jA) (d : l.length ≤ 1000000000) : ∃ s, oW l = some s ∧ uu l s := by
 unfold oW
 rw [Pj d]
 simp only [aA]
 rw [Hn, BY _ (fun x => !lz x) zC l (by omega) (fun x _ => by simp [wm, sX])]
 simp only [aA, fJ]
 have i : (l.filter fun x => lz x).length ≤ l.length := dw _ _
 obtain ⟨s, h1, h, c⟩ := As (eq := kp) (lt := fun a b => xx a b = true) (P := fun x => lz x = true) (cf := fun x => pJ x.1 x.2) (l := l.filter fun x => lz x) (fun x y => lK) BK (fun x g => (cV.1 g).2) (by omega) (fun x y _ _ => yJ x y)
 rw [h1]
 simp only [aA]
 rw [MO, Eb _ _ _ (by omega)]
 refine ⟨_, rfl, c.1, fun x => ?_⟩
 rw [c.2]
 simp
theorem OQ (l : List jB) (d : l.length ≤ 1000000000) : ∃ s, sS l = some s ∧ AX l s := by
 unfold sS
 rw [Pq d]
 simp only [aA]
 rw [MG, BY _ (fun x => !lH x) zR l (by omega) (fun x _ => by simp [wv, sU])]
 simp only [aA, fJ]
 have i : (l.filter fun x => lH x).length ≤ l.length := dw _ _
 obtain ⟨s, h1, h, c⟩ := As (eq := kc) (lt := fun a b => xE a b = true) (P := fun x => lH x = true) (cf := fun x => nc x.1 x.2) (l := l.filter fun x => lH x) (fun x y => jZ) (JK _) (fun x g => (cV.1 g).2) (by omega) (fun x y _ _ => tE x y)
 rw [h1]
 simp only [aA]
 rw [L5, Eb _ _ _ (by omega)]
 refine ⟨_, rfl, c.1, fun x => ?_⟩
 rw [c.2]
 simp
end Go.Proofs.YtmlncblocfcmiaaGreat
namespace Go.Proofs.YtmlncblocfcmiaaGreat
open Go.RowKit
def tt {κ : Type} (a : List κ) : List (κ × Bool) := a.map fun k => (k, true)
def mR {κ : Type} (beq : κ → κ → Bool) (a : List κ) (k : κ) : Bool := a.any fun x => beq k x
def ins {κ : Type} (beq : κ → κ → Bool) (a : List κ) (k : κ) : List κ := if mR beq a k then a else a ++ [k]
section
variable {κ : Type} {beq : κ → κ → Bool}
theorem pC (b : ∀ {x y}, beq x y = true ↔ x = y) (a : List κ) (k : κ) : mR beq a k = true ↔ k ∈ a := by
 simp [mR, jf, b]
theorem KR (a : List κ) : (tt a).length = a.length := by simp [tt]
theorem Mi (a : List κ) (k : κ) : uM beq (tt a) k false = mR beq a k := by
 unfold uM lg mR tt
 induction a with
 | nil => rfl
 | cons x xs ih =>
  simp only [bH, fq, List.any_cons]
  cases h : beq k x with
  | true => simp
  | false => simpa using ih
theorem Nv (l : ∀ {x y}, beq x y = true ↔ x = y) (a : List κ) (k : κ) : mS beq (tt a) k true = tt (ins beq a k) := by
 unfold mS ins
 have m : (tt a).findIdx? (fun p => beq k p.1) = a.findIdx? (fun x => beq k x) := by
  unfold tt; rw [gb]; rfl
 rw [m]
 cases h : a.findIdx? (fun x => beq k x) with
 | none =>
  rw [fN] at h
  rw [aY]
  ·simp [tt]
  ·intro c
   unfold mR at c
   rw [jf] at c
   obtain ⟨x, n, b⟩ := c
   rw [h x n] at b
   cases b
 | some i =>
  rw [ec] at h
  obtain ⟨g, h1, _⟩ := h
  have e := l.1 h1
  rw [aZ]
  ·simp only [tt]
   apply ey
   intro j
   rw [eV]
   split
   ·rename_i d
    subst d
    simp [g, e]
   ·rfl
  ·unfold mR
   exact jf.2 ⟨a[i], List.getElem_mem g, h1⟩
end
section
variable {all : List jA} {wants : List jB} {T : List jB} {W : List ByteArray} {R : List jA}
def nR (c : jA) : List jB := if c.Kind = 1 then [] else if c.Kind = 4 then [c.B, c.C] else [c.B]
end
end Go.Proofs.YtmlncblocfcmiaaGreat
namespace Go.Proofs.YtmlncblocfcmiaaGreat
open Go.RowKit
theorem Oz {c : jA} (h : lz c = true) : xk c = some (c.Head :: nR c) := by
 unfold xk
 rw [sX, h]
 simp only [aA, bW, aB, aM]
 have a : c.Kind = 1 ∨ c.Kind = 2 ∨ c.Kind = 3 ∨ c.Kind = 4 := by rcases oa h with h | h | h | h <;> simp [h.1]
 rcases a with k | k | k | k
 ·simp [k, nR]
 ·rw [aZ (by simp [k]), mJ (by simp) (by simp)]
  simp [k, nR]
 ·rw [aZ (by simp [k]), mJ (by simp) (by simp)]
  simp [k, nR]
 ·rw [aZ (by simp [k]), mJ (by simp) (by simp)]
  simp only [aA]
  rw [aZ (by simp [k]), mJ (by simp) (by simp)]
  simp [k, nR]
theorem tw.congr {α : Type} {lt : α → α → Prop} {P : α → Prop} {l m s : List α} (h : tw lt P l s) (hm : ∀ x, x ∈ l ↔ x ∈ m) : tw lt P m s := ⟨h.1, fun x => by rw [h.2, hm]⟩
theorem NV {κ : Type} (a : List κ) : (tt a).map (·.1) = a := by simp [tt, fz]
end Go.Proofs.YtmlncblocfcmiaaGreat
namespace Go.Proofs.YtmlncblocfcmiaaGreat
open Go.RowKit
def wA (c : jA) : Nat := c.Head.jF.size + c.Head.jK.size + c.kA.size + c.B.jF.size + c.B.jK.size + c.C.jF.size + c.C.jK.size + c.kz.size
end Go.Proofs.YtmlncblocfcmiaaGreat
namespace Go.Proofs.YtmlncblocfcmiaaGreat
open Go.RowKit
section
variable {κ γ : Type} {beq : κ → κ → Bool}
theorem pY (a : ∀ {x y}, beq x y = true ↔ x = y) {A B : List (κ × γ)} {k : κ} {x : γ} (b : ∀ p ∈ A, p.1 ≠ k) : lg beq (A ++ (k, x) :: B) k = some x := by
 unfold lg
 rw [iR]
 have : A.find? (fun p => beq k p.1) = none := eQ.2 (fun p hp h => b p hp (a.1 h).symm)
 rw [this]
 simp [a.2 (rfl : k = k)]
theorem uF (a : ∀ {x y}, beq x y = true ↔ x = y) {l : List (κ × γ)} {k : κ} (h : ∀ p ∈ l, p.1 ≠ k) : lg beq l k = none := by
 unfold lg
 rw [eQ.2 (fun p hp b => h p hp (a.1 b).symm)]
 rfl
theorem vL (a : ∀ {x y}, beq x y = true ↔ x = y) {A B : List (κ × γ)} {k : κ} {x y : γ} (b : ∀ p ∈ A, p.1 ≠ k) : mS beq (A ++ (k, x) :: B) k y = A ++ (k, y) :: B := by
 have h1 : (A ++ (k, x) :: B).findIdx? (fun p => beq k p.1) = some A.length := by
  rw [gA, fN.2 (fun p hp => by
   cases h : beq k p.1 with
   | false => rfl
   | true => exact absurd (a.1 h).symm (b p hp))]
  simp [eL, a.2 (rfl : k = k)]
 rw [qe h1]
 simp
theorem AK (a : ∀ {x y}, beq x y = true ↔ x = y) {l : List (κ × γ)} {k : κ} {y : γ} (h : ∀ p ∈ l, p.1 ≠ k) : mS beq l k y = l ++ [(k, y)] := by
 refine tW (fN.2 (fun p hp => ?_)) y
 cases b : beq k p.1 with
 | false => rfl
 | true => exact absurd (a.1 b).symm (h p hp)
theorem sN (k : κ) : ∀ (l : List (κ × γ)), (∀ p ∈ l, p.1 ≠ k) ∨ ∃ A x B, l = A ++ (k, x) :: B ∧ ∀ p ∈ A, p.1 ≠ k
 | [] => .inl (fun _ h => by cases h)
 | p :: l => by
  by_cases hp : p.1 = k
  ·exact .inr ⟨[], p.2, l, by rw [← hp]; rfl, fun _ h => by cases h⟩
  ·rcases sN k l with h | ⟨A, x, B, rfl, h⟩
   ·exact .inl (fun q a => by rcases aQ.1 a with rfl | a; exact hp; exact h q a)
   ·exact .inr ⟨p :: A, x, B, rfl, fun q a => by rcases aQ.1 a with rfl | a; exact hp; exact h q a⟩
theorem D5 (a : ∀ {x y}, beq x y = true ↔ x = y) (A B : List (κ × γ)) (k : κ) : lg beq (A ++ B) k = (lg beq A k).or (lg beq B k) := by
 unfold lg
 rw [iR]
 cases A.find? (fun p => beq k p.1) <;> rfl
theorem zO (p : κ × γ) (l : List (κ × γ)) (k : κ) : lg beq (p :: l) k = if beq k p.1 = true then some p.2 else lg beq l k := by
 unfold lg
 rw [fq]
 cases beq k p.1 <;> simp
theorem zN (a : ∀ {x y}, beq x y = true ↔ x = y) (l : List (κ × γ)) (k k2 : κ) (y : γ) : lg beq (mS beq l k y) k2 = if beq k2 k = true then some y else lg beq l k2 := by
 rcases sN k l with h | ⟨A, x, B, rfl, h⟩
 ·rw [AK a h, D5 a, zO]
  by_cases hk : beq k2 k = true
  ·have := a.1 hk
   subst this
   rw [aZ hk, aZ hk, uF a h]; rfl
  ·rw [aY hk, aY hk]
   show (lg beq l k2).or none = _
   cases lg beq l k2 <;> rfl
 ·rw [vL a h, D5 a, zO, D5 a, zO]
  by_cases hk : beq k2 k = true
  ·have := a.1 hk
   subst this
   rw [aZ hk, aZ hk, uF a h]; rfl
  ·rw [aY hk, aY hk, aY hk]
end
abbrev ox := List (jB × List ByteArray)
def mm (T : ox) : List (jB × List (ByteArray × Bool)) := T.map fun p => (p.1, tt p.2)
def qL (T : ox) (r : jB) : List ByteArray := (lg kc T r).getD []
def FS (T : ox) : List jR := T.flatMap fun p => p.2.map fun w => (⟨p.1, w⟩ : jR)
def CS (T : ox) (r : jB) (w : ByteArray) : ox := mS kc T r (qL T r ++ [w])
theorem De (A B : ox) : mm (A ++ B) = mm A ++ mm B := by simp [mm]
theorem xK {A : ox} {r : jB} (h : ∀ p ∈ A, p.1 ≠ r) : ∀ p ∈ mm A, p.1 ≠ r := by
 intro p hp
 simp only [mm, bB] at hp
 obtain ⟨q, a, rfl⟩ := hp
 exact h q a
theorem NF (T : ox) (r : jB) : lg kc (mm T) r = (lg kc T r).map tt := by
 rcases sN r T with h | ⟨A, x, B, rfl, h⟩
 ·rw [uF jZ h, uF jZ (xK h)]; rfl
 ·rw [pY jZ h, De]
  exact pY jZ (xK h)
theorem Jd (T : ox) (r : jB) : (lg kc (mm T) r).getD [] = tt (qL T r) := by
 rw [NF, qL]; cases lg kc T r <;> rfl
theorem E2 (T : ox) (r : jB) (w : ByteArray) : (FS (CS T r w)).Perm (FS T ++ [(⟨r, w⟩ : jR)]) := by
 unfold CS qL
 rcases sN r T with h | ⟨A, x, B, rfl, h⟩
 ·rw [AK jZ h, uF jZ h]
  simp [FS]
 ·rw [vL jZ h, pY jZ h]
  simp only [FS, gM, gn, fE, cD, bH, fk, aN]
  refine bX _ (bX _ ?_)
  exact eT
theorem Me {T : ox} (hk : (T.map (·.1)).Nodup) (r : jB) (w : ByteArray) : ((CS T r w).map (·.1)).Nodup := by
 unfold CS
 rcases sN r T with h | ⟨A, x, B, rfl, h⟩
 ·rw [AK jZ h]
  simp only [cD, bH, fk]
  refine bV.2 ⟨hk, by simp, fun a ha b c e => ?_⟩
  simp at c; subst c; subst e
  obtain ⟨p, hp, e⟩ := bB.1 ha
  exact h p hp e
 ·rw [vL jZ h]
  simpa using hk
theorem zf {T : ox} (hk : (T.map (·.1)).Nodup) (f : jR) : f ∈ FS T ↔ f.kA ∈ qL T f.jB := by
 simp only [FS, jg, bB]
 constructor
 ·rintro ⟨p, hp, w, hw, rfl⟩
  obtain ⟨A, B, rfl⟩ := List.append_of_mem hp
  have a : ∀ q ∈ A, q.1 ≠ p.1 := fun q c e => by
   rw [cD, bH] at hk
   exact (bV.1 hk).2.2 q.1 (bB.2 ⟨q, c, rfl⟩) p.1 (by simp) e
  rw [qL, show p = (p.1, p.2) from rfl, pY jZ a]
  exact hw
 ·intro h
  unfold qL at h
  rcases sN f.jB T with b | ⟨A, x, B, rfl, a⟩
  ·rw [uF jZ b] at h; cases h
  ·rw [pY jZ a] at h
   exact ⟨(f.jB, x), by simp, f.kA, h, rfl⟩
theorem ID {T : ox} (h : (FS T).Nodup) (r : jB) : (qL T r).Nodup := by
 unfold qL
 rcases sN r T with b | ⟨A, x, B, rfl, a⟩
 ·rw [uF jZ b]; simp
 ·rw [pY jZ a]
  simp only [FS, gM, gn] at h
  have h1 := (bV.1 (bV.1 h).2.1).1
  simp only [List.Nodup, eX] at h1
  exact h1.imp (fun h e => h (by rw [e]))
inductive om (C : List jA) : jR → Prop
 | mem (c) : c ∈ C → c.Kind = 1 → om C ⟨c.Head, c.kA⟩
 | inc (c w) : c ∈ C → c.Kind = 2 → om C ⟨c.B, w⟩ → om C ⟨c.Head, w⟩
 | EW (c b w) : c ∈ C → c.Kind = 3 → om C ⟨c.B, b⟩ → om C ⟨⟨b, c.kz⟩, w⟩ → om C ⟨c.Head, w⟩
 | both (c w) : c ∈ C → c.Kind = 4 → om C ⟨c.B, w⟩ → om C ⟨c.C, w⟩ → om C ⟨c.Head, w⟩
theorem om.mono {C C' : List jA} (h : ∀ c ∈ C, c ∈ C') {f : jR} (i : om C f) : om C' f := by
 induction i with
 | mem c a hk => exact .mem c (h c a) hk
 | inc c w a hk _ ih => exact .inc c w (h c a) hk ih
 | EW c b w a hk _ _ d g => exact .EW c b w (h c a) hk d g
 | both c w a hk _ _ d g => exact .both c w (h c a) hk d g
def DH (C : List jA) : List jR := (C.map (·.Head)).flatMap fun r => (C.map (·.kA)).map fun w => (⟨r, w⟩ : jR)
theorem Bx (C : List jA) : (DH C).length = C.length * C.length := by
 unfold DH
 have : ∀ l : List jB, (l.flatMap fun r => (C.map (·.kA)).map fun w => (⟨r, w⟩ : jR)).length = l.length * C.length := fun l => by
  induction l with
  | nil => simp
  | cons x l ih => simp only [gn, aD, ih, cU, aO, cN]; omega
 rw [this, cU]
theorem NM {C : List jA} {r : jB} {w : ByteArray} : (⟨r, w⟩ : jR) ∈ DH C ↔ (∃ c ∈ C, c.Head = r) ∧ ∃ c ∈ C, c.kA = w := by
 unfold DH
 simp only [jg, bB, jR.mk.injEq]
 constructor
 ·rintro ⟨g, ⟨c, d, rfl⟩, h, ⟨b, a, rfl⟩, rfl, rfl⟩; exact ⟨⟨c, d, rfl⟩, b, a, rfl⟩
 ·rintro ⟨⟨c, d, rfl⟩, b, a, rfl⟩; exact ⟨_, ⟨c, d, rfl⟩, _, ⟨b, a, rfl⟩, rfl, rfl⟩
theorem om.IX {C : List jA} {f : jR} (h : om C f) : ∃ c ∈ C, c.Kind = 1 ∧ c.kA = f.kA := by
 induction h with
 | mem c g hk => exact ⟨c, g, hk, rfl⟩
 | inc c w g hk _ ih => exact ih
 | EW c b w g hk _ _ a d => exact d
 | both c w g hk _ _ a d => exact a
theorem om.head {C : List jA} {f : jR} (h : om C f) : ∃ c ∈ C, c.Head = f.jB := by
 cases h with
 | mem c a hk => exact ⟨c, a, rfl⟩
 | inc c w a hk _ => exact ⟨c, a, rfl⟩
 | EW c b w a hk _ _ => exact ⟨c, a, rfl⟩
 | both c w a hk _ _ => exact ⟨c, a, rfl⟩
theorem om.DH {C : List jA} {f : jR} (h : om C f) : f ∈ DH C := by
 obtain ⟨c, a, _, hw⟩ := h.IX
 exact NM.2 ⟨h.head, c, a, hw⟩
structure pF (C : List jA) (T : ox) (td : List jR) (n : Int) : Prop where
 keys : (T.map (·.1)).Nodup
 nd : (FS T).Nodup
 Jh : td.Nodup
 sub : ∀ f ∈ td, f ∈ FS T
 num : n = (FS T).length
 vO : ∀ f ∈ FS T, om C f
theorem pF.len {C : List jA} {T : ox} {b : List jR} {n : Int} (h : pF C T b n) : (FS T).length ≤ C.length * C.length := by
 rw [← Bx]; exact me h.nd (fun f a => (h.vO f a).DH)
theorem pF.O9 {C : List jA} {T : ox} {a : List jR} {n : Int} (h : pF C T a n) : a.length ≤ (FS T).length := me h.Jh h.sub
theorem pF.mono {C C' : List jA} {T : ox} {a : List jR} {n : Int} (h : pF C T a n) (b : ∀ c ∈ C, c ∈ C') : pF C' T a n := ⟨h.keys, h.nd, h.Jh, h.sub, h.num, fun f d => (h.vO f d).mono b⟩
structure yk (T : ox) (td : List jR) (T' : ox) (td' : List jR) : Prop where
 mh : ∀ f ∈ FS T, f ∈ FS T'
 todo : ∀ f ∈ td, f ∈ td'
 new : ∀ f ∈ FS T', f ∈ FS T ∨ f ∈ td'
 fresh : ∀ f ∈ td', f ∈ td ∨ f ∉ FS T
theorem yk.refl (T : ox) (a : List jR) : yk T a T a := ⟨fun _ h => h, fun _ h => h, fun _ h => .inl h, fun _ h => .inl h⟩
theorem yk.trans {T T' T'' : ox} {g d a : List jR} (h : yk T g T' d) (k : yk T' d T'' a) : yk T g T'' a :=
 ⟨fun f b => k.mh f (h.mh f b), fun f b => k.todo f (h.todo f b), fun f b => by
  rcases k.new f b with h1 | h1
  ·rcases h.new f h1 with c | c
   ·exact .inl c
   ·exact .inr (k.todo f c)
  ·exact .inr h1, fun f b => by
  rcases k.fresh f b with h1 | h1
  ·exact h.fresh f h1
  ·exact .inr (fun c => h1 (h.mh f c))⟩
theorem EL {α : Type} (p : α → Bool) : ∀ l : List α, (l.filter p).length + (l.filter fun x => !p x).length = l.length
 | [] => rfl
 | x :: l => by
  have := EL p l
  cases h : p x <;> simp [h] <;> omega
theorem pF.DX {C C' : List jA} {T T' : ox} {d c : List jR} {n m : Int} (i : pF C' T' c m) (g : pF C T d n) (x : yk T d T' c) : c.length + (FS T).length ≤ d.length + (FS T').length := by
 classical
 have h1 : (c.filter fun f => decide (f ∈ FS T)).length ≤ d.length := me (i.Jh.filter _) (fun f j => by
  have := cV.1 j
  rcases x.fresh f this.1 with h | h
  ·exact h
  ·exact absurd (by simpa using this.2) h)
 have k : (FS T ++ c.filter fun f => !decide (f ∈ FS T)).length ≤ (FS T').length := me (bV.2 ⟨g.nd, i.Jh.filter _, fun a ha b l e => by
  subst e
  have := (cV.1 l).2
  simp [ha] at this⟩) (fun f j => by
  rcases aR.1 j with h | h
  ·exact x.mh f h
  ·exact i.sub f (cV.1 h).1)
 have o : (c.filter fun f => decide (f ∈ FS T)).length + (c.filter fun f => !decide (f ∈ FS T)).length = c.length := by
  exact EL (fun f => decide (f ∈ FS T)) c
 rw [aD] at k
 omega
def Aw (C : List jA) (T : ox) (d : List jR) (b : Option (List (jB × List (ByteArray × Bool)) × List jR × Int)) (Q : ox → Prop) : Prop :=
 ∃ T' a c, b = some (mm T', a, c) ∧ pF C T' a c ∧ yk T d T' a ∧ Q T'
theorem Aw.mono {C : List jA} {T : ox} {d : List jR} {a : Option (List (jB × List (ByteArray × Bool)) × List jR × Int)} {Q Q' : ox → Prop} (h : Aw C T d a Q) (j : ∀ T', (∀ f ∈ FS T, f ∈ FS T') → Q T' → Q' T') : Aw C T d a Q' := by
 obtain ⟨T', b, k, h1, g, c, i⟩ := h
 exact ⟨T', b, k, h1, g, c, j T' c.mh i⟩
def qh (C : List jA) : Prop := C.length ≤ 1000000
theorem qh.sq {C : List jA} (h : qh C) : C.length * C.length ≤ 1000000000000 := Nat.mul_le_mul h h
theorem rW {T : ox} (hk : (T.map (·.1)).Nodup) (r : jB) (w : ByteArray) : uM lh ((lg kc (mm T) r).getD []) w false = true ↔ (⟨r, w⟩ : jR) ∈ FS T := by
 rw [Jd, Mi, pC mc, zf hk]
theorem AV {C : List jA} (y : qh C) {T : ox} {j : List jR} {n : Int} (h : pF C T j n) (cs : List jA) (J : List (jB × List jA)) (ws : List (ByteArray × List jA)) {r : jB} {w : ByteArray} (z : om C ⟨r, w⟩) :
  Aw C T j (nj (mm T) cs J ws j n r w) (fun T' => (⟨r, w⟩ : jR) ∈ FS T') := by
 unfold nj
 have F := y.sq
 have L := h.len
 have G := h.O9
 by_cases d : (⟨r, w⟩ : jR) ∈ FS T
 ·rw [aZ ((rW h.keys r w).2 d)]
  exact ⟨T, j, n, rfl, h, yk.refl _ _, d⟩
 ·rw [aY (fun t => d ((rW h.keys r w).1 t))]
  have D : pF C (CS T r w) (j ++ [⟨r, w⟩]) (n + 1) := by
   have hp := E2 T r w
   refine ⟨Me h.keys r w, (hp.nodup_iff).2 (bV.2 ⟨h.nd, by simp, fun a ha b m e => ?_⟩), bV.2 ⟨h.Jh, by simp, fun a ha b m e => ?_⟩, fun f c => hp.mem_iff.2 ?_, ?_, fun f c => ?_⟩
   ·simp at m; subst m; subst e; exact d ha
   ·simp at m; subst m; subst e; exact d (h.sub _ ha)
   ·rcases aR.1 c with c | c
    ·exact cF _ (h.sub f c)
    ·exact dR _ c
   ·rw [hp.length_eq, h.num]; simp
   ·rcases aR.1 (hp.mem_iff.1 c) with c | c
    ·exact h.vO f c
    ·simp at c; subst c; exact z
  have u : ((if (lg kc (mm T) r).isNone = true then ((EG kc (mm T) r []).bind fun l => some l) else some (mm T)) : Option _).bind (fun l => (Eu kc lh l r w true)) = some (mm (CS T r w)) := by
   unfold CS qL
   rcases sN r T with i | ⟨A, x, B, rfl, s⟩
   ·have q := uF jZ (xK i)
    rw [q, uF jZ i, AK jZ i, De]
    simp only [Option.isNone_none, aW, EG, q, aA]
    rw [AK jZ (xK i)]
    unfold Eu
    rw [pY jZ (xK i)]
    simp only [dP]
    rw [vL jZ (xK i)]
    rfl
   ·have k := xK s
    have v : lg kc (mm (A ++ (r, x) :: B)) r = some (tt x) := by rw [De]; exact pY jZ k
    rw [v, pY jZ s, vL jZ s]
    simp only [Option.isNone_some, aB, aM, aA, Eu, v, dP, fE]
    have I : w ∉ x := fun hw => d (by
     rw [zf h.keys, qL, pY jZ s]; exact hw)
    rw [Nv mc]
    rw [show ins lh x w = x ++ [w] from by unfold ins; rw [aY (fun t => I ((pC mc x w).1 t))]]
    rw [De, show mm ((r, x) :: B) = (r, tt x) :: mm B from rfl, vL jZ k, De]
    rfl
  refine ⟨CS T r w, j ++ [⟨r, w⟩], n + 1, ?_, D, ⟨fun f c => (E2 T r w).mem_iff.2 (cF _ c), fun f c => cF _ c, fun f c => ?_, fun f c => ?_⟩, (E2 T r w).mem_iff.2 (by simp)⟩
  ·have g := u
   generalize ((if (lg kc (mm T) r).isNone = true then ((EG kc (mm T) r []).bind fun l => some l) else some (mm T)) : Option _) = o at g
   cases o with
   | none => cases g
   | some l =>
    simp only [aA] at g ⊢
    rw [g]
    simp only [aA]
    rw [mJ (by simp; omega) (by simp; omega)]
    simp only [aA]
    rw [kN (by rw [h.num]; omega) (by rw [h.num]; omega)]
  ·rcases aR.1 ((E2 T r w).mem_iff.1 c) with h1 | h1
   ·exact .inl h1
   ·exact .inr (dR _ h1)
  ·rcases aR.1 c with h1 | h1
   ·exact .inl h1
   ·simp at h1; subst h1; exact .inr d
end Go.Proofs.YtmlncblocfcmiaaGreat
namespace Go.Proofs.YtmlncblocfcmiaaGreat
open Go.RowKit
theorem ye (l : List ByteArray) (x : ByteArray) : x ∈ tL l ↔ x ∈ l := by unfold tL; simp
def rj (C : List jA) : Prop := ∀ c ∈ C, lz c = true
theorem KE {c : jA} (h : lz c = true) (hk : c.Kind = 1) : c.kA.size ≤ 16 := by
 rcases oa h with h | h | h | h
 ·exact (nM h.2.1).2
 ·exact absurd (hk.symm.trans h.1) (by decide)
 ·exact absurd (hk.symm.trans h.1) (by decide)
 ·exact absurd (hk.symm.trans h.1) (by decide)
theorem MA {T : ox} (r : jB) (hk : (T.map (·.1)).Nodup) : (qL T r).length ≤ (FS T).length := by
 unfold qL
 rcases sN r T with b | ⟨A, x, B, rfl, a⟩
 ·rw [uF jZ b]; simp
 ·rw [pY jZ a]
  simp only [FS, gM, gn, aD, cU, fE]
  omega
theorem Fl {C : List jA} (a : qh C) (b : rj C) {T : ox} {i : List jR} {n : Int} (h : pF C T i n) (cs : List jA) (j : List (jB × List jA)) (ws : List (ByteArray × List jA)) (q : List jR) (z : Int) (r : jB) :
  pL (mm T) cs j ws q z r = some (tL (qL T r)) := by
 unfold pL nZ
 rw [Jd]
 simp only [aA, og]
 have m := MA r h.keys
 have k := h.len
 have l := a.sq
 unfold ES
 rw [NV, aZ]
 refine ⟨ID h.nd r, fun p hp => ?_, by rw [KR]; omega⟩
 simp only [tt, bB] at hp
 obtain ⟨w, hw, rfl⟩ := hp
 have g := h.vO ⟨r, w⟩ ((zf h.keys ⟨r, w⟩).2 hw)
 obtain ⟨c, d, hk, e⟩ := g.IX
 have := KE (b c d) hk
 simp only at e ⊢
 rw [← e]
 unfold maxLen
 omega
theorem Kp {C : List jA} (g : qh C) (cs : List jA) (d : List (jB × List jA)) (ws : List (ByteArray × List jA)) (head : jB) : ∀ (l : List ByteArray) {T : ox} {a : List jR} {n : Int}, pF C T a n → (∀ w ∈ l, om C ⟨head, w⟩) →
  Aw C T a (px cs d ws head l (mm T) a n) (fun T' => ∀ w ∈ l, (⟨head, w⟩ : jR) ∈ FS T')
 | [], T, a, n, h, _ => ⟨T, a, n, rfl, h, yk.refl _ _, fun _ hw => by cases hw⟩
 | w :: l, T, a, n, h, i => by
  rw [px]
  obtain ⟨T1, r, s, j, g1, x1, o⟩ := AV g h cs d ws (i w (by simp))
  rw [j]
  simp only [aA]
  obtain ⟨T2, c, m, k, g2, x2, q⟩ := Kp g cs d ws head l g1 (fun w hw => i w (by simp [hw]))
  refine ⟨T2, c, m, k, g2, x1.trans x2, fun v b => ?_⟩
  rcases aQ.1 b with rfl | b
  ·exact x2.mh _ o
  ·exact q v b
theorem Oq {C : List jA} (b : qh C) (d : rj C) {T : ox} {a : List jR} {n : Int} (h : pF C T a n) (cs : List jA) (c : List (jB × List jA)) (ws : List (ByteArray × List jA)) (r head : jB) (g : ∀ w, (⟨r, w⟩ : jR) ∈ FS T → om C ⟨head, w⟩) :
  Aw C T a (sC (mm T) cs c ws a n r head) (fun T' => ∀ w, (⟨r, w⟩ : jR) ∈ FS T → (⟨head, w⟩ : jR) ∈ FS T') := by
 unfold sC
 rw [Fl b d h]
 simp only [aA]
 refine (Kp b cs c ws head _ h (fun w hw => g w ((zf h.keys ⟨r, w⟩).2 ((ye _ _).1 hw)))).mono (fun T' _ i w hw => i w ((ye _ _).2 ((zf h.keys ⟨r, w⟩).1 hw)))
def Cx (c : jA) (f : jR) (T T' : ox) : Prop :=
 (c.Kind = 2 → f.jB = c.B → (⟨c.Head, f.kA⟩ : jR) ∈ FS T') ∧
 (c.Kind = 3 → f.jB = c.B → ∀ w, (⟨⟨f.kA, c.kz⟩, w⟩ : jR) ∈ FS T → (⟨c.Head, w⟩ : jR) ∈ FS T') ∧
 (c.Kind = 4 → (⟨c.B, f.kA⟩ : jR) ∈ FS T → (⟨c.C, f.kA⟩ : jR) ∈ FS T → (⟨c.Head, f.kA⟩ : jR) ∈ FS T')
theorem Cx.mono {c : jA} {f : jR} {T T' T0 T1 : ox} (h : Cx c f T T') (g : ∀ f ∈ FS T0, f ∈ FS T) (h1 : ∀ f ∈ FS T', f ∈ FS T1) : Cx c f T0 T1 :=
 ⟨fun a b => h1 _ (h.1 a b), fun a b w hw => h1 _ (h.2.1 a b w (g _ hw)), fun a b d => h1 _ (h.2.2 a (g _ b) (g _ d))⟩
theorem M7 (x : Option (List (jB × List (ByteArray × Bool)) × List jR × Int)) : (x.bind fun r => some (r.1, r.2.1, r.2.2)) = x := by cases x <;> rfl
theorem KF {C : List jA} (o : qh C) (u : rj C) {T : ox} {i : List jR} {n : Int} (h : pF C T i n) (cs : List jA) (l : List (jB × List jA)) (ws : List (ByteArray × List jA)) {c : jA} (q : c ∈ C) {f : jR} (s : f ∈ FS T) (t : f.jB ∈ nR c) :
  Aw C T i (qH (mm T) cs l ws i n c f) (Cx c f T) := by
 unfold qH
 simp only [M7, BA]
 by_cases a : c.Kind = 2
 ·have m : f.jB = c.B := by simpa [nR, a] using t
  rw [aZ (by simp [a])]
  have r : om C ⟨c.Head, f.kA⟩ := .inc c f.kA q a (by rw [← m]; exact h.vO f s)
  refine (AV o h cs l ws r).mono (fun T' _ g => ⟨fun _ _ => g, fun k => absurd (a.symm.trans k) (by decide), fun k => absurd (a.symm.trans k) (by decide)⟩)
 rw [aY (by simp [a])]
 by_cases b : c.Kind = 3
 ·have m : f.jB = c.B := by simpa [nR, b] using t
  rw [aZ (by simp [b])]
  refine (Oq o u h cs l ws ⟨f.kA, c.kz⟩ c.Head (fun w hw => .EW c f.kA w q b (by rw [← m]; exact h.vO f s) (h.vO _ hw))).mono (fun T' _ g => ⟨fun k => absurd k a, fun _ _ w hw => g w hw, fun k => absurd (b.symm.trans k) (by decide)⟩)
 rw [aY (by simp [b])]
 by_cases j : c.Kind = 4
 ·rw [aZ (by simp [j])]
  simp only [aA]
  by_cases d : (⟨c.B, f.kA⟩ : jR) ∈ FS T ∧ (⟨c.C, f.kA⟩ : jR) ∈ FS T
  ·rw [aZ (by rw [bA, rW h.keys, rW h.keys]; exact d)]
   have r : om C ⟨c.Head, f.kA⟩ := .both c f.kA q j (h.vO _ d.1) (h.vO _ d.2)
   exact (AV o h cs l ws r).mono (fun T' _ g => ⟨fun k => absurd k a, fun k => absurd k b, fun _ _ _ => g⟩)
  ·rw [aY (by rw [bA, rW h.keys, rW h.keys]; exact d)]
   exact ⟨T, i, n, rfl, h, yk.refl _ _, fun k => absurd k a, fun k => absurd k b, fun _ x y => absurd ⟨x, y⟩ d⟩
 ·rw [aY (by simp [j])]
  exact ⟨T, i, n, rfl, h, yk.refl _ _, fun k => absurd k a, fun k => absurd k b, fun k => absurd k j⟩
theorem HI {C : List jA} (i : qh C) (j : rj C) (cs : List jA) (g : List (jB × List jA)) (ws : List (ByteArray × List jA)) {c : jA} (k : c ∈ C) (m : c.B ∈ nR c) : ∀ (l : List ByteArray) {T : ox} {a : List jR} {n : Int}, pF C T a n → (∀ w ∈ l, (⟨c.B, w⟩ : jR) ∈ FS T) →
  Aw C T a (oK cs g ws c l (mm T) a n) (fun T' => ∀ w ∈ l, Cx c ⟨c.B, w⟩ T T')
 | [], T, a, n, h, _ => ⟨T, a, n, rfl, h, yk.refl _ _, fun _ hw => by cases hw⟩
 | w :: l, T, a, n, h, hm => by
  rw [oK]
  obtain ⟨T1, u, x, o, g1, x1, s⟩ := KF i j h cs g ws k (f := ⟨c.B, w⟩) (hm w (by simp)) m
  rw [o]
  simp only [aA]
  obtain ⟨T2, d, r, q, g2, x2, t⟩ := HI i j cs g ws k m l g1 (fun w hw => x1.mh _ (hm w (by simp [hw])))
  refine ⟨T2, d, r, q, g2, x1.trans x2, fun v b => ?_⟩
  rcases aQ.1 b with rfl | b
  ·exact s.mono (fun _ h => h) x2.mh
  ·exact (t v b).mono x1.mh (fun _ h => h)
def DK (c : jA) (T : ox) (a : List jR) : Prop :=
 (c.Kind = 1 → (⟨c.Head, c.kA⟩ : jR) ∈ FS T) ∧
 (c.Kind = 2 → ∀ w, (⟨c.B, w⟩ : jR) ∈ FS T → (⟨c.B, w⟩ : jR) ∉ a → (⟨c.Head, w⟩ : jR) ∈ FS T) ∧
 (c.Kind = 3 → ∀ b w, (⟨c.B, b⟩ : jR) ∈ FS T → (⟨c.B, b⟩ : jR) ∉ a → (⟨⟨b, c.kz⟩, w⟩ : jR) ∈ FS T → (⟨⟨b, c.kz⟩, w⟩ : jR) ∉ a → (⟨c.Head, w⟩ : jR) ∈ FS T) ∧
 (c.Kind = 4 → ∀ w, (⟨c.B, w⟩ : jR) ∈ FS T → (⟨c.B, w⟩ : jR) ∉ a → (⟨c.C, w⟩ : jR) ∈ FS T → (⟨c.C, w⟩ : jR) ∉ a → (⟨c.Head, w⟩ : jR) ∈ FS T)
theorem DK.ext {c : jA} {T T' : ox} {i d : List jR} (h : DK c T i) (x : yk T i T' d) : DK c T' d := by
 have mh : ∀ f, f ∈ FS T' → f ∉ d → f ∈ FS T ∧ f ∉ i := fun f m j => by
  rcases x.new f m with h1 | h1
  ·exact ⟨h1, fun l => j (x.todo f l)⟩
  ·exact absurd h1 j
 refine ⟨fun k => x.mh _ (h.1 k), fun k w a b => ?_, fun k b w g a2 a3 a4 => ?_, fun k w g a2 a3 a4 => ?_⟩
 ·exact x.mh _ (h.2.1 k w (mh _ a b).1 (mh _ a b).2)
 ·exact x.mh _ (h.2.2.1 k b w (mh _ g a2).1 (mh _ g a2).2 (mh _ a3 a4).1 (mh _ a3 a4).2)
 ·exact x.mh _ (h.2.2.2 k w (mh _ g a2).1 (mh _ g a2).2 (mh _ a3 a4).1 (mh _ a3 a4).2)
theorem MX {C : List jA} (l : qh C) (s : rj C) {T : ox} {o : List jR} {n : Int} (h : pF C T o n) (cs : List jA) (r : List (jB × List jA)) (ws : List (ByteArray × List jA)) {c : jA} (t : c ∈ C) :
  ∃ T' d i, rB (mm T) cs r ws o n c = some (mm T', d, i) ∧ pF C T' d i ∧ yk T o T' d ∧ DK c T' d := by
 unfold rB
 simp only [M7]
 by_cases h1 : c.Kind = 1
 ·rw [aZ (by simp [h1])]
  obtain ⟨T', d, i, e, g, x, q⟩ := AV l h cs r ws (om.mem c t h1)
  exact ⟨T', d, i, e, g, x, fun _ => q, fun k => absurd (h1.symm.trans k) (by decide), fun k => absurd (h1.symm.trans k) (by decide), fun k => absurd (h1.symm.trans k) (by decide)⟩
 ·rw [aY (by simp [h1]), Fl l s h]
  simp only [aA]
  have y : c.B ∈ nR c := by unfold nR; rw [aY h1]; split <;> simp
  obtain ⟨T', d, i, e, g, x, q⟩ := HI l s cs r ws t y (tL (qL T c.B)) h (fun w hw => (zf h.keys ⟨c.B, w⟩).2 ((ye _ _).1 hw))
  have mh : ∀ f, f ∈ FS T' → f ∉ d → f ∈ FS T := fun f u v => by
   rcases x.new f u with h1 | h1
   ·exact h1
   ·exact absurd h1 v
  have m : ∀ w, (⟨c.B, w⟩ : jR) ∈ FS T → Cx c ⟨c.B, w⟩ T T' := fun w hw => q w ((ye _ _).2 ((zf h.keys ⟨c.B, w⟩).1 hw))
  refine ⟨T', d, i, e, g, x, fun k => absurd k h1, fun k w a b => ?_, fun k b w j a2 a3 a4 => ?_, fun k w j a2 a3 a4 => ?_⟩
  ·exact (m w (mh _ a b)).1 k rfl
  ·exact (m b (mh _ j a2)).2.1 k rfl w (mh _ a3 a4)
  ·exact (m w (mh _ j a2)).2.2 k (mh _ j a2) (mh _ a3 a4)
structure Da (C : List jA) (us : List (jB × List jA)) (ws : List (ByteArray × List jA)) : Prop where
 LR : ∀ r c, c ∈ (lg kc us r).getD [] ↔ c ∈ C ∧ r ∈ nR c
 word : ∀ w c, c ∈ (lg lh ws w).getD [] ↔ c ∈ C ∧ c.Kind = 3 ∧ c.kz = w
 OZ : ∀ r, ((lg kc us r).getD []).length ≤ 2 * C.length
 OS : ∀ w, ((lg lh ws w).getD []).length ≤ C.length
theorem Gf {C : List jA} (i : qh C) (j : rj C) (cs : List jA) (g : List (jB × List jA)) (ws : List (ByteArray × List jA)) {f : jR} : ∀ (l : List jA) {T : ox} {a : List jR} {n : Int}, pF C T a n → f ∈ FS T → (∀ c ∈ l, c ∈ C ∧ f.jB ∈ nR c) →
  Aw C T a (oy cs g ws f l (mm T) a n) (fun T' => ∀ c ∈ l, Cx c f T T')
 | [], T, a, n, h, _, _ => ⟨T, a, n, rfl, h, yk.refl _ _, fun _ hw => by cases hw⟩
 | c :: l, T, a, n, h, k, hm => by
  rw [oy]
  obtain ⟨T1, u, w, m, g1, x1, s⟩ := KF i j h cs g ws (hm c (by simp)).1 k (hm c (by simp)).2
  rw [m]
  simp only [aA]
  obtain ⟨T2, d, r, o, g2, x2, t⟩ := Gf i j cs g ws l g1 (x1.mh _ k) (fun c q => hm c (by simp [q]))
  refine ⟨T2, d, r, o, g2, x1.trans x2, fun v b => ?_⟩
  rcases aQ.1 b with rfl | b
  ·exact s.mono (fun _ h => h) x2.mh
  ·exact (t v b).mono x1.mh (fun _ h => h)
theorem Di {C : List jA} (m : qh C) (u : rj C) (cs : List jA) (j : List (jB × List jA)) (ws : List (ByteArray × List jA)) {f : jR} : ∀ (l : List jA) {T : ox} {g : List jR} {n : Int}, pF C T g n → f ∈ FS T → (∀ c ∈ l, c ∈ C ∧ c.Kind = 3 ∧ c.kz = f.jB.jK) →
  Aw C T g (nr f cs j ws l (mm T) g n) (fun T' => ∀ c ∈ l, (⟨c.B, f.jB.jF⟩ : jR) ∈ FS T → (⟨c.Head, f.kA⟩ : jR) ∈ FS T')
 | [], T, g, n, h, _, _ => ⟨T, g, n, rfl, h, yk.refl _ _, fun _ hw => by cases hw⟩
 | c :: l, T, g, n, h, q, hm => by
  rw [nr]
  have hk := hm c (by simp)
  by_cases i : (⟨c.B, f.jB.jF⟩ : jR) ∈ FS T
  ·rw [aZ ((rW h.keys _ _).2 i)]
   have r : f = ⟨⟨f.jB.jF, c.kz⟩, f.kA⟩ := by rw [hk.2.2]
   have x : om C ⟨c.Head, f.kA⟩ := .EW c f.jB.jF f.kA hk.1 hk.2.1 (h.vO _ i) (by rw [← r]; exact h.vO f q)
   obtain ⟨T1, A, D, w, g1, x1, z⟩ := AV m h cs j ws x
   rw [w]
   simp only [aA]
   obtain ⟨T2, d, s, k, g2, x2, t⟩ := Di m u cs j ws l g1 (x1.mh _ q) (fun c o => hm c (by simp [o]))
   refine ⟨T2, d, s, k, g2, x1.trans x2, fun v b a => ?_⟩
   rcases aQ.1 b with rfl | b
   ·exact x2.mh _ z
   ·exact t v b (x1.mh _ a)
  ·rw [aY (fun y => i ((rW h.keys _ _).1 y))]
   obtain ⟨T2, d, s, k, g2, x2, t⟩ := Di m u cs j ws l h q (fun c o => hm c (by simp [o]))
   refine ⟨T2, d, s, k, g2, x2, fun v b a => ?_⟩
   rcases aQ.1 b with rfl | b
   ·exact absurd a i
   ·exact t v b a
theorem Gk {C : List jA} (F : qh C) (G : rj C) {cs : List jA} {A : List (jB × List jA)} {ws : List (ByteArray × List jA)} (u : Da C A ws) : ∀ (m : Nat) {T : ox} {l : List jR} {n : Int}, pF C T l n → (∀ c ∈ C, DK c T l) → C.length * C.length + l.length < m + (FS T).length →
  ∃ T' L, mO cs A ws m (mm T) l n = some (mm T', [], L) ∧ pF C T' [] L ∧ (∀ c ∈ C, DK c T' []) ∧ (∀ f ∈ FS T, f ∈ FS T')
 | 0, T, l, n, h, _, hm => by have := h.len; omega
 | m + 1, T, [], n, h, q, hm => by
  rw [mO]
  exact ⟨T, n, rfl, h, q, fun _ h => h⟩
 | m + 1, T, f :: l, n, h, q, hm => by
  rw [mO]
  rw [aZ (by simp)]
  have J : f ∈ FS T := h.sub f (by simp)
  have R := (dn.1 h.Jh)
  simp only [lj, Int.le_refl, aW, Int.toNat_zero, fW, aA]
  rw [show qj (decide ((0 : Nat) ≤ 1) && decide ((1 : Int) ≤ ((f :: l).length : Int))) = some () by simp [qj]; omega]
  simp only [aA, show Int.toNat 1 = 1 from rfl, List.drop_one, List.tail_cons]
  have I : pF C T l n := ⟨h.keys, h.nd, R.2, fun g y => h.sub g (by simp [y]), h.num, h.vO⟩
  obtain ⟨T1, a6, n1, O, g1, x1, Z⟩ := Gf F G cs A ws ((lg kc A f.jB).getD []) I J (fun c i => (u.LR _ c).1 i)
  rw [O]
  simp only [aA]
  obtain ⟨T2, r, n2, P, g2, x2, q2⟩ := Di F G cs A ws ((lg lh ws f.jB.jK).getD []) g1 (x1.mh _ J) (fun c i => (u.word _ c).1 i)
  rw [P]
  simp only [aA]
  have x := x1.trans x2
  have mh : ∀ g, g ∈ FS T2 → g ∉ r → g ∈ FS T ∧ (g = f ∨ g ∉ f :: l) := fun g y z => by
   rcases x.new g y with h1 | h1
   ·refine ⟨h1, ?_⟩
    by_cases he : g = f
    ·exact .inl he
    ·exact .inr (fun t => by
      rcases aQ.1 t with t | t
      ·exact he t
      ·exact z (x.todo g t))
   ·exact absurd h1 z
  have d1 : ∀ c ∈ C, f.jB ∈ nR c → Cx c f T T2 := fun c i U => (Z c ((u.LR _ c).2 ⟨i, U⟩)).mono (fun _ h => h) x2.mh
  have v : ∀ c ∈ C, DK c T2 r := fun c i => by
   have k := q c i
   refine ⟨fun hk => x.mh _ (k.1 hk), fun hk w a b => ?_, fun hk b w D a2 a3 a4 => ?_, fun hk w D a2 a3 a4 => ?_⟩
   ·obtain ⟨o, d⟩ := mh _ a b
    rcases d with d | d
    ·subst d; exact (d1 c i (by simp [nR, hk])).1 hk rfl
    ·exact x.mh _ (k.2.1 hk w o d)
   ·obtain ⟨o, d⟩ := mh _ D a2
    obtain ⟨s, j⟩ := mh _ a3 a4
    rcases d with d | d
    ·subst d; exact (d1 c i (by simp [nR, hk])).2.1 hk rfl w s
    ·rcases j with j | j
     ·subst j
      exact q2 c ((u.word _ c).2 ⟨i, hk, rfl⟩) (x1.mh _ o)
     ·exact x.mh _ (k.2.2.1 hk b w o d s j)
   ·obtain ⟨o, d⟩ := mh _ D a2
    obtain ⟨s, j⟩ := mh _ a3 a4
    rcases d with d | d
    ·subst d; exact (d1 c i (by simp [nR, hk])).2.2 hk o s
    ·rcases j with j | j
     ·subst j; exact (d1 c i (by simp [nR, hk])).2.2 hk o s
     ·exact x.mh _ (k.2.2.2 hk w o d s j)
  have hlen : r.length + (FS T).length ≤ l.length + (FS T2).length := by
   exact g2.DX I x
  obtain ⟨T3, W, Q, g3, M, Y⟩ := Gk F G u m g2 v (by simp only [aO] at hm; omega)
  exact ⟨T3, W, Q, g3, M, fun g y => Y g (x.mh g y)⟩
end Go.Proofs.YtmlncblocfcmiaaGreat
namespace Go.Proofs.YtmlncblocfcmiaaGreat
open Go.RowKit
theorem Jf (c : jA) : ∀ (l : List jA) (i : Nat), ∃ z, pp c l i = some z ∧ (z ≥ 0 ↔ c ∈ l)
 | [], i => ⟨-1, rfl, by simp⟩
 | x :: l, i => by
  rw [pp]
  by_cases h : kp c x = true
  ·rw [aZ h]
   exact ⟨_, rfl, by simp [lK.1 h]⟩
  ·rw [aY h]
   obtain ⟨z, e, b⟩ := Jf c l (i + 1)
   refine ⟨z, e, ?_⟩
   rw [b, aQ]
   exact ⟨.inr, fun a => a.resolve_left (fun e => h (lK.2 e))⟩
theorem G3 (c : jA) (l : List jA) : ∃ b, rV l c = some b ∧ (b = true ↔ c ∈ l) := by
 obtain ⟨z, e, a⟩ := Jf c l 0
 refine ⟨decide (z ≥ 0), ?_, by simpa using a⟩
 unfold rV ra uI
 rw [e]
 rfl
theorem IV (c : jA) (ws : List (ByteArray × List jA)) (C : List jA) (hw : ∀ w, ((lg lh ws w).getD []).length ≤ 2000000) : ∀ (j : List jB) (a : List (jB × List jA)), (∀ r, ((lg kc a r).getD []).length + j.length ≤ 4000000) →
  ∃ g i, nO c ws C j a = some (C, g, i) ∧ (∀ r x, x ∈ (lg kc g r).getD [] ↔ x ∈ (lg kc a r).getD [] ∨ (x = c ∧ r ∈ j)) ∧
   (∀ w x, x ∈ (lg lh i w).getD [] ↔ x ∈ (lg lh ws w).getD [] ∨ (x = c ∧ c.Kind = 3 ∧ w = c.kz)) ∧ (∀ r, ((lg kc g r).getD []).length ≤ ((lg kc a r).getD []).length + j.length) ∧
   (∀ w, ((lg lh i w).getD []).length ≤ ((lg lh ws w).getD []).length + 1)
 | [], a, _ => by
  rw [nO]
  by_cases k : c.Kind = 3
  ·rw [aZ (by simp [k])]
   have h := hw c.kz
   rw [mJ (by simp; omega) (by simp; omega)]
   simp only [aA]
   refine ⟨a, _, rfl, by simp, fun w x => ?_, by simp, fun w => ?_⟩
   ·rw [zN mc]
    by_cases hk : lh w c.kz = true
    ·rw [aZ hk, mc.1 hk]; simp [k]
    ·rw [aY hk]
     have : w ≠ c.kz := fun e => hk (mc.2 e)
     simp [this]
   ·rw [zN mc]
    by_cases hk : lh w c.kz = true
    ·rw [aZ hk, mc.1 hk]; simp
    ·rw [aY hk]; exact iy _
  ·rw [aY (by simp [k])]
   exact ⟨a, ws, rfl, by simp, by simp [k], by simp, by simp⟩
 | b :: j, a, l => by
  rw [nO]
  have h := l b
  simp only [aO] at h
  rw [mJ (by simp; omega) (by simp; omega)]
  simp only [aA]
  have d : ∀ r, (lg kc (mS kc a b (((lg kc a b).getD []) ++ [c])) r).getD [] = if kc r b = true then ((lg kc a b).getD []) ++ [c] else (lg kc a r).getD [] := fun r => by
   rw [zN jZ]; by_cases hk : kc r b = true
   ·rw [aZ hk, aZ hk]; rfl
   ·rw [aY hk, aY hk]
  obtain ⟨g, i, e, m, a2, a3, a4⟩ := IV c ws C hw j (mS kc a b (((lg kc a b).getD []) ++ [c])) (fun r => by
   rw [d r]
   have n := l r
   simp only [aO] at n
   by_cases hk : kc r b = true
   ·rw [aZ hk]; simp; omega
   ·rw [aY hk]; omega)
  refine ⟨g, i, e, fun r x => ?_, a2, fun r => ?_, a4⟩
  ·rw [m, d]
   by_cases hk : kc r b = true
   ·rw [aZ hk, jZ.1 hk]
    simp only [aR, aQ, dF, fP]
    constructor
    ·rintro ((h | h) | h)
     ·exact .inl h
     ·exact .inr ⟨h, .inl trivial⟩
     ·exact .inr ⟨h.1, .inr h.2⟩
    ·rintro (h | h)
     ·exact .inl (.inl h)
     ·exact .inl (.inr h.1)
   ·rw [aY hk]
    have : r ≠ b := fun e => hk (jZ.2 e)
    simp [this]
  ·have := a3 r
   rw [d r] at this
   by_cases hk : kc r b = true
   ·rw [aZ hk] at this; rw [jZ.1 hk] at this ⊢; simp at this ⊢; omega
   ·rw [aY hk] at this; simp; omega
theorem NE {C : List jA} {j : List (jB × List jA)} {ws : List (ByteArray × List jA)} (g : Da C j ws) (q : C.length + 1 ≤ 1000000) {c : jA} (l : lz c = true) (i : List (jB × List (ByteArray × Bool))) (o : List jR) (n : Int) :
  ∃ a b, rT i C j ws o n c = some (C ++ [c], a, b) ∧ Da (C ++ [c]) a b := by
 unfold rT
 rw [mJ (by simp; omega) (by simp; omega)]
 simp only [aA, Oz l]
 rw [show qj (decide ((0 : Nat) ≤ 1) && decide ((1 : Int) ≤ ((c.Head :: nR c).length : Int))) = some () by simp [qj]; omega]
 simp only [aA, show Int.toNat 1 = 1 from rfl, List.drop_one, List.tail_cons]
 have m : (nR c).length ≤ 2 := by unfold nR; split; simp; split <;> simp
 obtain ⟨a, b, e, k, a2, a3, a4⟩ := IV c ws (C ++ [c]) (fun w => by have := g.OS w; omega) (nR c) j (fun r => by have := g.OZ r; omega)
 refine ⟨a, b, e, fun r x => ?_, fun w x => ?_, fun r => ?_, fun w => ?_⟩
 ·rw [k, g.LR, aR, bM]
  constructor
  ·rintro (h | h)
   ·exact ⟨.inl h.1, h.2⟩
   ·exact ⟨.inr h.1, by rw [h.1]; exact h.2⟩
  ·rintro ⟨h | h, d⟩
   ·exact .inl ⟨h, d⟩
   ·exact .inr ⟨h, by rw [← h]; exact d⟩
 ·rw [a2, g.word, aR, bM]
  constructor
  ·rintro (h | h)
   ·exact ⟨.inl h.1, h.2⟩
   ·exact ⟨.inr h.1, by rw [h.1]; exact ⟨h.2.1, h.2.2.symm⟩⟩
  ·rintro ⟨h | h, d⟩
   ·exact .inl ⟨h, d⟩
   ·subst h; exact .inr ⟨rfl, d.1, d.2.symm⟩
 ·have := a3 r; have := g.OZ r; simp; omega
 ·have := a4 w; have := g.OS w; simp; omega
structure MS (C : List jA) (T : ox) (us : List (jB × List jA)) (ws : List (ByteArray × List jA)) (n : Int) : Prop where
 CF : pF C T [] n
 cl : ∀ c ∈ C, DK c T []
 QG : Da C us ws
 right : rj C
theorem MS.all {C : List jA} {T : ox} {j : List (jB × List jA)} {ws : List (ByteArray × List jA)} {n : Int} (h : MS C T j ws n) (f : jR) : f ∈ FS T ↔ om C f := by
 refine ⟨h.CF.vO f, fun i => ?_⟩
 induction i with
 | mem c a hk => exact (h.cl c a).1 hk
 | inc c w a hk _ ih => exact (h.cl c a).2.1 hk w ih (by simp)
 | EW c b w a hk _ _ d g => exact (h.cl c a).2.2.1 hk b w d (by simp) g (by simp)
 | both c w a hk _ _ d g => exact (h.cl c a).2.2.2 hk w d (by simp) g (by simp)
theorem H8 (r : Int) (z : 0 ≤ r ∧ r ≤ 1000000000000) : ∀ (l : List jA) {C : List jA} {T : ox} {q : List jR} {A : List (jB × List jA)} {ws : List (ByteArray × List jA)} {n : Int}, pF C T q n → (∀ c ∈ C, DK c T q) → Da C A ws → rj C → C.length + l.length ≤ 1000000 →
  ∃ C' T' a d j, nl r l (mm T) C A ws q n = some (j - r, mm T', C', a, d, [], j) ∧ MS C' T' a d j ∧ (∀ c, c ∈ C' ↔ c ∈ C ∨ (c ∈ l ∧ lz c = true)) ∧ C'.length ≤ C.length + l.length ∧ (∀ f ∈ FS T, f ∈ FS T')
 | [], C, T, q, A, ws, n, g, i, u, s, M => by
  rw [nl]
  have W : qh C := by unfold qh; simp at M; omega
  have a6 := W.sq
  have hlen := g.len
  have a7 := g.O9
  obtain ⟨T', j, e, G, Z, o⟩ := Gk W s u (cs := C) kC g i (by rw [vt]; omega)
  unfold tj
  rw [e]
  simp only [aA]
  have O := G.len
  have Y := G.num
  rw [kN (by omega) (by omega)]
  exact ⟨C, T', A, ws, j, rfl, ⟨G, Z, u, s⟩, by simp, by simp, o⟩
 | x :: l, C, T, q, A, ws, n, g, i, u, s, M => by
  rw [nl, sX]
  simp only [aO] at M
  obtain ⟨b, hb, v⟩ := G3 x C
  simp only [aA, hb, BA]
  by_cases k : lz x = true ∧ x ∉ C
  ·have J : b = false := by cases b with | false => rfl | true => exact absurd (v.1 rfl) k.2
   rw [k.1, J]
   simp only [ef, Bool.and_self, aW]
   obtain ⟨R, U, e1, U1⟩ := NE u (by omega) k.1 (mm T) q n
   rw [e1]
   simp only [aA]
   have I : qh (C ++ [x]) := by unfold qh; simp; omega
   have t : rj (C ++ [x]) := fun c w => by
    rcases aR.1 w with h | h
    ·exact s c h
    ·simp at h; subst h; exact k.1
   have g1 : pF (C ++ [x]) T q n := g.mono (fun c w => cF _ w)
   obtain ⟨T2, Q, n2, e2, g2, x2, c2⟩ := MX I t g1 (C ++ [x]) R U (c := x) (by simp)
   rw [e2]
   simp only [aA]
   have y : ∀ c ∈ C ++ [x], DK c T2 Q := fun c w => by
    rcases aR.1 w with h | h
    ·exact (i c h).ext x2
    ·simp at h; subst h; exact c2
   obtain ⟨C', T', a, d, j, e, m, F, a2, a3⟩ := H8 r z l g2 y U1 t (by simp; omega)
   refine ⟨C', T', a, d, j, e, m, fun c => ?_, by simp at a2 ⊢; omega, fun f L => a3 f (x2.mh f L)⟩
   rw [F]
   simp only [aR, aQ, dF, fP]
   constructor
   ·rintro ((h | h) | h)
    ·exact .inl h
    ·subst h; exact .inr ⟨.inl rfl, k.1⟩
    ·exact .inr ⟨.inr h.1, h.2⟩
   ·rintro (h | ⟨h | h, D⟩)
    ·exact .inl (.inl h)
    ·exact .inl (.inr h)
    ·exact .inr ⟨h, D⟩
  ·have L : (lz x && !b) = false := by
    cases hr : lz x with
    | false => rfl
    | true =>
     have : x ∈ C := eU fun P => k ⟨hr, P⟩
     rw [v.2 this]; rfl
   rw [L]
   simp only [aB, aM]
   obtain ⟨C', T', a, d, j, e, m, F, a2, a3⟩ := H8 r z l g i u s (by omega)
   refine ⟨C', T', a, d, j, e, m, fun c => ?_, by simp; omega, a3⟩
   rw [F, aQ]
   constructor
   ·rintro (h | h)
    ·exact .inl h
    ·exact .inr ⟨.inr h.1, h.2⟩
   ·rintro (h | ⟨h | h, D⟩)
    ·exact .inl h
    ·subst h
     exact .inl (eU fun P => k ⟨D, P⟩)
    ·exact .inr ⟨h, D⟩
theorem Ph {C : List jA} {T : ox} {g : List (jB × List jA)} {ws : List (ByteArray × List jA)} {n : Int} (h : MS C T g ws n) (l : List jA) (j : C.length + l.length ≤ 1000000) :
  ∃ C' T' a b d, sE (mm T) C g ws [] n l = some (d - n, mm T', C', a, b, [], d) ∧ MS C' T' a b d ∧ (∀ c, c ∈ C' ↔ c ∈ C ∨ (c ∈ l ∧ lz c = true)) ∧ C'.length ≤ C.length + l.length ∧ (∀ f ∈ FS T, f ∈ FS T') := by
 have i : qh C := by unfold qh; omega
 have h1 := h.CF.len
 have k := i.sq
 have m := h.CF.num
 exact H8 n ⟨by omega, by omega⟩ l h.CF h.cl h.QG h.right j
theorem Da.zero : Da [] [] [] := ⟨fun r c => by simp [lg], fun w c => by simp [lg], fun r => by simp [lg], fun w => by simp [lg]⟩
theorem pF.zero : pF [] [] [] 0 := ⟨by simp, by simp [FS], by simp, by simp, by simp [FS], by simp [FS]⟩
theorem MS.zero : MS [] [] [] [] 0 := ⟨pF.zero, fun c a => (by cases a), Da.zero, fun c a => (by cases a)⟩
theorem Kg (l : List jA) (h : l.length ≤ 1000000) : ∃ C T d ws n, um l = some (mm T, C, d, ws, [], n) ∧ MS C T d ws n ∧ (∀ c, c ∈ C ↔ c ∈ l ∧ lz c = true) ∧ C.length ≤ l.length := by
 unfold um
 obtain ⟨C', T', a, b, i, e, m, g, a2, a3⟩ := Ph MS.zero l (by simpa using h)
 rw [show sE [] [] [] [] [] 0 l = _ from e]
 exact ⟨C', T', a, b, i, rfl, m, by simpa using g, by simpa using a2⟩
theorem om.congr {C C' : List jA} (h : ∀ c, c ∈ C ↔ c ∈ C') (f : jR) : om C f ↔ om C' f := ⟨fun d => d.mono (fun c a => (h c).1 a), fun d => d.mono (fun c a => (h c).2 a)⟩
end Go.Proofs.YtmlncblocfcmiaaGreat
namespace Go.Proofs.YtmlncblocfcmiaaGreat
open Go.RowKit
def xF (a b : jR) : Bool := xE a.jB b.jB || (kc a.jB b.jB && pV a.kA b.kA)
theorem zb {a b : jR} : xF a b = true ↔ xE a.jB b.jB = true ∨ (a.jB = b.jB ∧ pV a.kA b.kA = true) := by simp [xF, jZ]
def BR (_ : jR) : Bool := true
theorem EZ : yp (fun a b => xF a b = true) (fun x => BR x = true) := by
 have H := JK (fun _ => True)
 refine ⟨fun x _ => ?_, fun x y z _ _ _ h1 c => ?_, fun x y _ _ => ?_⟩
 ·rw [zb]
  rintro (h | ⟨_, h⟩)
  ·exact H.irrefl _ trivial h
  ·rw [rU] at h; cases h
 ·rw [zb] at *
  rcases h1 with h1 | ⟨g, h1⟩
  ·rcases c with c | ⟨d, c⟩
   ·exact .inl (H.trans _ _ _ trivial trivial trivial h1 c)
   ·exact .inl (by rw [← d]; exact h1)
  ·rcases c with c | ⟨d, c⟩
   ·exact .inl (by rw [g]; exact c)
   ·exact .inr ⟨g.trans d, yi h1 c⟩
 ·simp only [zb]
  rcases H.total x.jB y.jB trivial trivial with h | h | h
  ·exact .inl (.inl h)
  ·rcases yj x.kA y.kA with c | c | c
   ·exact .inl (.inr ⟨h, c⟩)
   ·refine .inr (.inl ?_)
    cases x; cases y; simp at h c; simp [h, c]
   ·exact .inr (.inr (.inr ⟨h.symm, c⟩))
  ·exact .inr (.inr (.inl h))
theorem E4 (a b : ByteArray) : oN a b = 0 ↔ a = b := by unfold oN; rw [Et]; exact ⟨zj, fun h => by rw [h]⟩
theorem PT (a b : ByteArray) : oN a b < 0 ↔ pV a b = true := by rw [xJ]; exact A4 _ _
theorem KP (a b : jB) : ∃ c, nc a b = some c ∧ (c < 0 ↔ xE a b = true) ∧ (c = 0 ↔ a = b) := by
 obtain ⟨c, e, h⟩ := tE a b
 refine ⟨c, e, h, ?_⟩
 unfold nc at e
 simp only [pa, mV, aA, tK, rn, og] at e
 by_cases d : oN a.jF b.jF = 0
 ·rw [aY (by simp [d])] at e
  have h1 := (E4 _ _).1 d
  by_cases g : oN a.jK b.jK = 0
  ·rw [aY (by simp [g])] at e
   have i := (E4 _ _).1 g
   cases e
   refine ⟨fun _ => ?_, fun _ => rfl⟩
   cases a; cases b; simp at h1 i; simp [h1, i]
  ·rw [aZ (by simp [g])] at e
   cases e
   exact ⟨fun k => absurd k g, fun k => by rw [k] at g; exact absurd ((E4 _ _).2 rfl) g⟩
 ·rw [aZ (by simp [d])] at e
  cases e
  exact ⟨fun k => absurd k d, fun k => by rw [k] at d; exact absurd ((E4 _ _).2 rfl) d⟩
theorem MM (a b : jR) : ∃ c, po a b = some c ∧ (c < 0 ↔ xF a b = true) := by
 unfold po
 obtain ⟨c, e, h1, i⟩ := KP a.jB b.jB
 rw [e]
 simp only [pa, mV, aA, tK, rn, og]
 by_cases g : c = 0
 ·rw [aY (by simp [g])]
  have l := i.1 g
  have d : ¬ xE a.jB b.jB = true := fun j => by have := h1.2 j; omega
  by_cases h : oN a.kA b.kA = 0
  ·rw [aY (by simp [h])]
   refine ⟨0, rfl, ?_⟩
   rw [zb]
   simp [d, (E4 _ _).1 h, rU]
  ·rw [aZ (by simp [h])]
   refine ⟨_, rfl, ?_⟩
   rw [zb, PT]
   exact ⟨fun k => .inr ⟨l, k⟩, fun k => k.elim (fun k => absurd k d) (·.2)⟩
 ·rw [aZ (by simp [g])]
  refine ⟨c, rfl, ?_⟩
  rw [zb, h1]
  have : a.jB ≠ b.jB := fun k => g (i.2 k)
  simp [this]
theorem Je {α : Type} {eq : α → α → Bool} (he : ∀ x y, eq x y = true ↔ x = y) : ∀ (l : List α) (p : α), (p :: l).Nodup → oO eq p l = l
 | [], p, _ => rfl
 | y :: l, p, h => by
  have h1 := dn.1 h
  rw [oO, aY (fun e => h1.1 (by rw [← (he _ _).1 e]; simp)), Je he l y h1.2]
theorem PO {α : Type} {eq : α → α → Bool} (he : ∀ x y, eq x y = true ↔ x = y) : ∀ l : List α, l.Nodup → dd eq l = l
 | [], _ => rfl
 | x :: l, h => by rw [dd, Je he l x h]
def zH (P : jR → Prop) (s : List jR) : Prop := s.Pairwise (fun a b => xF a b = true) ∧ ∀ f, f ∈ s ↔ P f
theorem zH.unique {P : jR → Prop} {s t : List jR} (h : zH P s) (k : zH P t) : s = t :=
 tw.unique (l := s) EZ ⟨h.1, fun x => ⟨fun a => ⟨a, rfl⟩, fun a => a.1⟩⟩ ⟨k.1, fun x => by rw [k.2, h.2]; exact ⟨fun a => ⟨a, rfl⟩, fun a => a.1⟩⟩
theorem Fv {l : List jR} (d : l.Nodup) (j : l.length ≤ 1000000000000) : ∃ s, wE (fun (x : jR × jR) => po x.1 x.2) l = some s ∧ zH (fun f => f ∈ l) s := by
 obtain ⟨s, h1, i, c⟩ := As (eq := yU) (lt := fun a b => xF a b = true) (P := fun x => BR x = true) (cf := fun (x : jR × jR) => po x.1 x.2) (l := l) (fun x y => yb) EZ (fun _ _ => rfl) (by omega) (fun x y _ _ => MM x y)
 have g : s.Nodup := by
  have := (Fj h1).2
  rw [this]
  unfold sn
  exact (gL l _).nodup_iff.2 d
 rw [PO (fun x y => yb) s g] at c
 exact ⟨s, h1, c.1, fun f => by rw [c.2]; exact ⟨fun h => h.1, fun h => ⟨h, rfl⟩⟩⟩
theorem N4 (T : ox) : (mm T).flatMap (fun p => p.2.map (fun q => (fun (a : jB) (b : ByteArray) => (⟨a, b⟩ : jR)) p.1 q.1)) = FS T := by
 unfold mm FS tt
 rw [List.flatMap_map]
 congr 1
 funext p
 simp [fz]
theorem MC {C : List jA} (i : qh C) {T : ox} {l : List (jB × List jA)} {ws : List (ByteArray × List jA)} {n : Int} (h : MS C T l ws n) (cs : List jA) (u : List (jB × List jA)) (w : List (ByteArray × List jA)) (k : List jR) (z : Int) :
  ∃ s, uJ (mm T) cs u w k z = some s ∧ zH (om C) s := by
 have j := i.sq
 have hlen := h.CF.len
 obtain ⟨s, m, g⟩ := Fv h.CF.nd (by omega)
 have d : zH (om C) s := ⟨g.1, fun f => (g.2 f).trans (h.all f)⟩
 refine ⟨s, ?_, d⟩
 unfold uJ Lq
 rw [N4]
 rw [aZ ⟨by omega, by unfold maxLen; omega⟩]
 simp only [aA, og]
 refine EK (fun o b => ?_)
 obtain ⟨q, c, a⟩ := Fv ((b.nodup_iff).2 h.CF.nd) (by rw [b.length_eq]; omega)
 rw [c]
 congr 1
 exact zH.unique ⟨a.1, fun f => (a.2 f).trans (b.mem_iff.trans (h.all f))⟩ d
theorem M8 (r : jB) (w : ByteArray) : ∀ l : List jR, ∃ b, wj r w l = some b ∧ (b = true ↔ (⟨r, w⟩ : jR) ∈ l)
 | [] => ⟨false, rfl, by simp⟩
 | x :: l => by
  rw [wj]
  simp only [BA, aA]
  obtain ⟨b, e, d⟩ := M8 r w l
  by_cases h : (kc x.jB r && lh x.kA w) = true
  ·rw [aZ h]
   have a : x = ⟨r, w⟩ := by
    rw [bA, jZ, mc] at h
    cases x; simp at h; simp [h]
   exact ⟨true, rfl, by simp [a]⟩
  ·rw [aY h]
   refine ⟨b, e, ?_⟩
   rw [d, aQ]
   refine ⟨.inr, fun c => c.resolve_left (fun e => h ?_)⟩
   rw [← e]; simp [tP, tX]
theorem xR (l : List jR) (r : jB) (w : ByteArray) : ∃ b, ub l r w = some b ∧ (b = true ↔ (⟨r, w⟩ : jR) ∈ l) := M8 r w l
def vK (l : List jR) (c : jA) (names : List ByteArray) (w : ByteArray) : Prop :=
 (c.Kind = 1 ∧ c.kA = w) ∨ (c.Kind = 2 ∧ (⟨c.B, w⟩ : jR) ∈ l) ∨ (c.Kind = 4 ∧ (⟨c.B, w⟩ : jR) ∈ l ∧ (⟨c.C, w⟩ : jR) ∈ l) ∨
 (c.Kind ≠ 1 ∧ c.Kind ≠ 2 ∧ c.Kind ≠ 4 ∧ ∃ b ∈ names, (⟨c.B, b⟩ : jR) ∈ l ∧ (⟨⟨b, c.kz⟩, w⟩ : jR) ∈ l)
theorem Fm (l : List jR) (c : jA) (w : ByteArray) : ∀ names : List ByteArray, ∃ b, uS l c w names = some b ∧ (b = true ↔ ∃ b ∈ names, (⟨c.B, b⟩ : jR) ∈ l ∧ (⟨⟨b, c.kz⟩, w⟩ : jR) ∈ l)
 | [] => ⟨false, rfl, by simp⟩
 | x :: names => by
  rw [uS]
  obtain ⟨g, j, h1⟩ := xR l c.B x
  obtain ⟨i, k, d⟩ := xR l ⟨x, c.kz⟩ w
  obtain ⟨b, e, m⟩ := Fm l c w names
  rw [j, k, e]
  simp only [aA, BA]
  by_cases h : (g && i) = true
  ·rw [aZ h]
   rw [bA, h1, d] at h
   exact ⟨true, rfl, by simp [h]⟩
  ·rw [aY h]
   rw [bA, h1, d] at h
   refine ⟨b, rfl, ?_⟩
   rw [m]
   constructor
   ·rintro ⟨y, a, q⟩; exact ⟨y, by simp [a], q⟩
   ·rintro ⟨y, a, q⟩
    rcases aQ.1 a with rfl | a
    ·exact absurd q h
    ·exact ⟨y, a, q⟩
theorem Oc (l : List jR) (c : jA) (names : List ByteArray) (w : ByteArray) : ∃ b, zu l c names w = some b ∧ (b = true ↔ vK l c names w) := by
 unfold zu vK
 simp only [og]
 by_cases h1 : c.Kind = 1
 ·rw [aZ (by simp [h1])]; exact ⟨_, rfl, by simp [h1, mc]⟩
 rw [aY (by simp [h1])]
 by_cases a : c.Kind = 2
 ·rw [aZ (by simp [a])]
  obtain ⟨b, e, g⟩ := xR l c.B w
  exact ⟨b, e, by simp [a, g]⟩
 rw [aY (by simp [a])]
 by_cases d : c.Kind = 4
 ·rw [aZ (by simp [d])]
  obtain ⟨m, j, h⟩ := xR l c.B w
  obtain ⟨n, k, i⟩ := xR l c.C w
  rw [j, k]
  simp only [aA, BA]
  exact ⟨_, rfl, by simp [d, h, i]⟩
 rw [aY (by simp [d])]
 obtain ⟨b, e, g⟩ := Fm l c w names
 exact ⟨b, e, by rw [g]; simp [h1, a, d]⟩
theorem vK.vO {C : List jA} {l : List jR} (a : ∀ f ∈ l, om C f) {c : jA} (d : c ∈ C) (hk : c.Kind = 1 ∨ c.Kind = 2 ∨ c.Kind = 3 ∨ c.Kind = 4) {names : List ByteArray} {w : ByteArray} (h : vK l c names w) : om C ⟨c.Head, w⟩ := by
 rcases h with ⟨k, rfl⟩ | ⟨k, h⟩ | ⟨k, h1, g⟩ | ⟨i, k2, j, b, _, h1, g⟩
 ·exact .mem c d k
 ·exact .inc c w d k (a _ h)
 ·exact .both c w d k (a _ h1) (a _ g)
 ·exact .EW c b w d (by omega) (a _ h1) (a _ g)
theorem Ka {c : jA} (h : lz c = true) : c.Kind = 1 ∨ c.Kind = 2 ∨ c.Kind = 3 ∨ c.Kind = 4 := by rcases oa h with h | h | h | h <;> simp [h.1]
structure Cs (C : List jA) (out : List jR) : Prop where
 nd : out.Nodup
 vO : ∀ f ∈ out, om C f
theorem Cs.len {C : List jA} {out : List jR} (h : Cs C out) : out.length ≤ C.length * C.length := by
 rw [← Bx]; exact me h.nd (fun f a => (h.vO f a).DH)
theorem EF {C : List jA} (s : qh C) (t : rj C) {c : jA} (m : c ∈ C) (names : List ByteArray) : ∀ (l : List ByteArray) (out : List jR) (i : Bool), Cs C out →
  ∃ g d, uw c names l out i = some (g, d) ∧ Cs C g ∧ (d = true → i = true ∨ out.length < g.length) ∧ (d = false → i = false ∧ g = out ∧ ∀ w ∈ l, vK out c names w → (⟨c.Head, w⟩ : jR) ∈ out) ∧ out.length ≤ g.length
 | [], out, i, h => ⟨out, i, rfl, h, .inl, fun h => ⟨h, rfl, fun _ hw => by cases hw⟩, aV _⟩
 | w :: l, out, i, h => by
  rw [uw]
  obtain ⟨y, F, h1⟩ := xR out c.Head w
  obtain ⟨D, G, z⟩ := Oc out c names w
  rw [F, G]
  simp only [aA, BA]
  by_cases j : (!y && D) = true
  ·rw [aZ j]
   rw [bA] at j
   have u : (⟨c.Head, w⟩ : jR) ∉ out := fun J => by have := h1.2 J; rw [this] at j; exact absurd j.1 (by decide)
   have M := h.len
   have L := s.sq
   rw [mJ (by simp; omega) (by simp; omega)]
   simp only [aA]
   have I : Cs C (out ++ [⟨c.Head, w⟩]) := ⟨bV.2 ⟨h.nd, by simp, fun a ha b j e => by simp at j; subst j; subst e; exact u ha⟩, fun f k => by
    rcases aR.1 k with k | k
    ·exact h.vO f k
    ·simp at k; subst k; exact (z.1 j.2).vO h.vO m (Ka (t c m))⟩
   obtain ⟨g, d, e, n, a2, a3, a4⟩ := EF s t m names l _ true I
   simp at a4
   exact ⟨g, d, e, n, fun _ => .inr (by omega), fun k => (by cases (a3 k).1), by omega⟩
  ·rw [aY j]
   obtain ⟨g, d, e, n, a2, a3, a4⟩ := EF s t m names l out i h
   refine ⟨g, d, e, n, a2, fun k => ?_, a4⟩
   obtain ⟨o, q, r⟩ := a3 k
   refine ⟨o, q, fun v x A => ?_⟩
   rcases aQ.1 x with rfl | x
   ·refine eU fun u => j ?_
    rw [bA, z.2 A]
    cases y with
    | false => exact ⟨rfl, rfl⟩
    | true => exact absurd (h1.1 rfl) u
   ·exact r v x A
theorem H4 {C : List jA} (m : qh C) (n : rj C) (names : List ByteArray) : ∀ (l : List jA) (out : List jR) (a : Bool), (∀ c ∈ l, c ∈ C) → Cs C out →
  ∃ b g, wk names l out a = some (b, g) ∧ Cs C b ∧ (g = true → a = true ∨ out.length < b.length) ∧ (g = false → a = false ∧ b = out ∧ ∀ c ∈ l, ∀ w ∈ names, vK out c names w → (⟨c.Head, w⟩ : jR) ∈ out) ∧ out.length ≤ b.length
 | [], out, a, _, h => ⟨out, a, rfl, h, .inl, fun h => ⟨h, rfl, fun _ hw => by cases hw⟩, aV _⟩
 | c :: l, out, a, o, h => by
  rw [wk]
  obtain ⟨x, c1, u, q, a2, a3, a4⟩ := EF m n (o c (by simp)) names names out a h
  rw [u]
  simp only [aA]
  obtain ⟨y, c2, v, r, s, t, J⟩ := H4 m n names l x c1 (fun d i => o d (by simp [i])) q
  refine ⟨y, c2, v, r, fun j => ?_, fun j => ?_, by omega⟩
  ·rcases s j with h1 | h1
   ·rcases a2 h1 with k | k
    ·exact .inl k
    ·exact .inr (by omega)
   ·exact .inr (by omega)
  ·obtain ⟨z, A, D⟩ := t j
   obtain ⟨F, G, I⟩ := a3 z
   subst G
   refine ⟨F, A, fun d i => ?_⟩
   rcases aQ.1 i with rfl | i
   ·exact I
   ·exact D d i
end Go.Proofs.YtmlncblocfcmiaaGreat
namespace Go.Proofs.YtmlncblocfcmiaaGreat
open Go.RowKit
def zF : jR := ⟨⟨zS, zS⟩, zS⟩
theorem Hk (a b : jR) : tM a b = some (xF a b) := by
 unfold tM xF
 simp only [Ai, aA, BA, Ot]
def OA (a : List jR) (b : Int) (p : Bool × jR) : Prop := (p.1 = false ∧ b = -1) ∨ (p.1 = true ∧ 0 ≤ b ∧ lj a b = some p.2)
theorem Ab (out a : List jR) (g : out.length < 4611686018427387904) : ∀ (rest A : List jR) (b : Int) (p : Bool × jR), a = A ++ rest → OA a b p →
  ∃ c, pb out a rest A.length b = some c ∧ OA a c (qx BR xF out.getLast? rest p.1 p.2)
 | [], A, b, p, ha, i => ⟨b, rfl, i⟩
 | x :: rest, A, b, p, ha, i => by
  rw [pb, qx]
  simp only [BR, fb]
  have h1 : ((if ((out.length : Int) == 0) = true then some true else (lj out (IntKind.i64.wrap ((out.length : Int) - 1))).bind fun y => (tM y x).bind fun r => some r) : Option Bool) = some (out.getLast?.all fun y => xF y x) := by
   rcases dv out with h | ⟨B, z, h⟩
   ·subst h; rfl
   ·subst h
    rw [aY (by simp; omega)]
    rw [dU] at g ⊢
    rw [EA B z (by simp at g; omega)]
    simp [Hk]
  have m : ((if decide (b < 0) = true then some true else (lj a b).bind fun y => (tM x y).bind fun r => some r) : Option Bool) = some (!p.1 || xF x p.2) := by
   rcases i with ⟨j, k⟩ | ⟨j, k, l⟩
   ·rw [aZ (by simp [k]), j]; rfl
   ·rw [aY (by simpa using k), l, j]
    simp [Hk]
  rw [h1]
  simp only [aA]
  rw [m]
  simp only [aA, BA]
  have n : lj a (A.length : Int) = some x := by rw [ha]; exact mD A x rest _ rfl
  by_cases d : ((out.getLast?.all fun y => xF y x) && (!p.1 || xF x p.2)) = true
  ·rw [aZ d, aZ d]
   have := Ab out a g rest (A ++ [x]) (A.length : Int) (true, x) (by rw [ha]; simp) (.inr ⟨rfl, by simp, n⟩)
   simpa using this
  ·rw [aY d, aY d]
   have := Ab out a g rest (A ++ [x]) b p (by rw [ha]; simp) i
   simpa using this
theorem DV {out a : List jR} (d : out.length < 4611686018427387904) (h : (qx BR xF out.getLast? a false zF).1 = false) : ∀ DX : List jR, oZ a DX out = some out
 | [] => rfl
 | x :: DX => by
  rw [oZ]
  obtain ⟨b, e, i⟩ := Ab out a d a [] (-1) (false, zF) rfl (.inl ⟨rfl, rfl⟩)
  rw [show pb out a a 0 (-1) = some b from e]
  simp only [aA]
  rcases i with ⟨_, g⟩ | ⟨c, _⟩
  ·rw [aY (by simp [g])]; exact DV d h DX
  ·rw [h] at c; cases c
theorem F9 (a : List jR) : ∀ (DX : List jR) (out s : List jR), yA 48 BR xF zF a (DX.length + 1) out = some s → s.length < 4611686018427387904 → oZ a DX out = some s ∧ out.length ≤ s.length
 | [], out, s, h, i => by
  rw [yA] at h
  cases hp : (qx BR xF out.getLast? a false zF).1 with
  | false =>
   rw [hp] at h
   simp only [ef, aW] at h
   cases h
   exact ⟨rfl, aV _⟩
  | true =>
   rw [hp] at h
   simp only [bW, aB, aM] at h
   obtain ⟨o, c, h⟩ := bind_some h
   replace h : yA 48 BR xF zF a 0 o = some s := h
   rw [yA] at h
   cases h
 | x :: DX, out, s, h, i => by
  rw [yA] at h
  cases hp : (qx BR xF out.getLast? a false zF).1 with
  | false =>
   rw [hp] at h
   simp only [ef, aW] at h
   cases h
   exact ⟨DV i hp _, aV _⟩
  | true =>
   rw [hp] at h
   simp only [bW, aB, aM] at h
   obtain ⟨o, c, h⟩ := bind_some h
   have g := c
   unfold mG at c
   split at c
   case isFalse => cases c
   cases c
   obtain ⟨m, k2⟩ := F9 a DX _ s h i
   simp at k2
   rw [oZ]
   obtain ⟨b, e, l⟩ := Ab out a (by omega) a [] (-1) (false, zF) rfl (.inl ⟨rfl, rfl⟩)
   rw [show pb out a a 0 (-1) = some b from e]
   simp only [aA]
   rcases l with ⟨d, _⟩ | ⟨d, j, k⟩
   ·rw [hp] at d; cases d
   ·rw [aZ (by simpa using j), k]
    simp only [aA]
    rw [g]
    exact ⟨m, by omega⟩
theorem LD (l : List jR) (c : l.length ≤ 1000000000) : ∃ s, AT l = some s ∧ zH (fun f => f ∈ l) s := by
 obtain ⟨s, h1, a⟩ := zY EZ (w := 48) (by omega) zF l c (l.length + 1) [] (by simp) (by simp) (fun x b => by cases b) (fun x _ _ => .inr rfl)
 have hlen : s.length ≤ l.length := me (te EZ (fun _ _ => rfl) a.1) (fun x b => ((a.2 x).1 b).1)
 exact ⟨s, (F9 l l [] s h1 (by omega)).1, a.1, fun f => by rw [a.2]; exact ⟨fun h => h.1, fun h => ⟨h, rfl⟩⟩⟩
theorem HN : ∀ (l : List jA) (acc : List ByteArray), acc.length + 4 * l.length ≤ 1000000000 → sm l acc = AA (acc ++ l.flatMap fun c => [c.kA, c.Head.jF, c.B.jF, c.C.jF])
 | [], acc, _ => by rw [sm]; simp [og]
 | c :: l, acc, h => by
  rw [sm]
  simp only [aO] at h
  rw [mJ (by simp; omega) (by simp; omega)]
  simp only [aA]
  rw [HN l _ (by simp; omega)]
  simp
def SM (C : List jA) : Prop := C.length ≤ 30000
theorem SM.small {C : List jA} (h : SM C) : qh C := by unfold SM at h; unfold qh; omega
theorem SM.sq {C : List jA} (h : SM C) : C.length * C.length ≤ 900000000 := Nat.mul_le_mul h h
theorem Mu {C : List jA} (b : SM C) (g : rj C) : ∃ names, yB C = some names ∧ ∀ c ∈ C, c.Kind = 1 → c.kA ∈ names := by
 have d : C.length ≤ 30000 := b
 unfold yB
 rw [HN C [] (by simp; omega)]
 obtain ⟨s, e, i⟩ := NN ([] ++ C.flatMap fun c => [c.kA, c.Head.jF, c.B.jF, c.C.jF]) (by
  have : ∀ l : List jA, (l.flatMap fun c => [c.kA, c.Head.jF, c.B.jF, c.C.jF]).length = 4 * l.length := fun l => by
   induction l with
   | nil => rfl
   | cons x l ih => simp [ih]; omega
  rw [bO, this]; omega)
 refine ⟨s, e, fun c a hk => (i.2 _).2 ⟨?_, ?_⟩⟩
 ·rw [bO]; exact jg.2 ⟨c, a, by simp⟩
 ·rcases oa (g c a) with h | h | h | h
  ·exact h.2.1
  ·exact absurd (hk.symm.trans h.1) (by decide)
  ·exact absurd (hk.symm.trans h.1) (by decide)
  ·exact absurd (hk.symm.trans h.1) (by decide)
theorem Km {C : List jA} (n : rj C) {names : List ByteArray} (l : ∀ c ∈ C, c.Kind = 1 → c.kA ∈ names) {out : List jR} (h : ∀ c ∈ C, ∀ w ∈ names, vK out c names w → (⟨c.Head, w⟩ : jR) ∈ out) {f : jR} (k : om C f) : f ∈ out := by
 have hw : ∀ f, om C f → f.kA ∈ names := fun f k => by
  obtain ⟨c, a, hk, e⟩ := k.IX
  rw [← e]; exact l c a hk
 induction k with
 | mem c a hk => exact h c a _ (l c a hk) (.inl ⟨hk, rfl⟩)
 | inc c w a hk m ih => exact h c a w (hw _ m) (.inr (.inl ⟨hk, ih⟩))
 | EW c b w a hk d j g i => exact h c a w (hw _ j) (.inr (.inr (.inr ⟨by omega, by omega, by omega, b, hw _ d, g, i⟩)))
 | both c w a hk d j g i => exact h c a w (hw _ d) (.inr (.inr (.inl ⟨hk, g, i⟩)))
theorem Im {C : List jA} (a : SM C) (b : rj C) {names : List ByteArray} (g : ∀ c ∈ C, c.Kind = 1 → c.kA ∈ names) : ∀ (m : Nat) (out : List jR), Cs C out → C.length * C.length < m + out.length →
  ∃ s, wz names C m out = some s ∧ zH (om C) s
 | 0, out, h, hm => by have := h.len; omega
 | m + 1, out, h, hm => by
  rw [wz]
  obtain ⟨o, c, e, i, a2, a3, a4⟩ := H4 a.small b names C out false (fun _ h => h) h
  rw [e]
  simp only [aA, og]
  cases c with
  | false =>
   simp only [ef, aW]
   obtain ⟨_, j, k⟩ := a3 rfl
   subst j
   have q := h.len
   have n := a.sq
   obtain ⟨s, l, d⟩ := LD o (by omega)
   exact ⟨s, l, d.1, fun f => (d.2 f).trans ⟨h.vO f, Km b g k⟩⟩
  | true =>
   simp only [bW, aB, aM]
   rcases a2 rfl with h1 | h1
   ·cases h1
   ·exact Im a b g m o i (by omega)
theorem NC (l : List jA) (o : l.length ≤ 30000) : ∃ C s, yQ l = some s ∧ zH (om C) s ∧ ∀ c, c ∈ C ↔ c ∈ l ∧ lz c = true := by
 unfold yQ
 obtain ⟨C, e, b⟩ := NL l (by omega)
 have hlen := zl BK b
 have a : SM C := by unfold SM; omega
 have d : rj C := fun c j => ((b.2 c).1 j).2
 obtain ⟨names, g, m⟩ := Mu a d
 rw [e]
 simp only [aA]
 rw [g]
 simp only [aA]
 have n := a.sq
 obtain ⟨s, h, i⟩ := Im a d m kC [] ⟨by simp, fun f k => by cases k⟩ (by rw [vt]; simp; omega)
 exact ⟨C, s, h, i, b.2⟩
end Go.Proofs.YtmlncblocfcmiaaGreat
namespace Go.Proofs.YtmlncblocfcmiaaGreat
open Go.RowKit
theorem Ns {P : jR → Prop} {s t : List jR} (h : zH P s) (b : ∀ f, P f → f ∈ t) : s.length ≤ t.length := me (te EZ (fun _ _ => rfl) h.1) (fun f a => b f ((h.2 f).1 a))
theorem Oa {C : List jA} {s : List jR} (h : zH (om C) s) (a : SM C) : s.length ≤ 900000000 := by
 have := Ns h (t := DH C) (fun f b => b.DH)
 rw [Bx] at this
 have := a.sq
 omega
theorem KH {C : List jA} {T : ox} {c : List (jB × List jA)} {ws : List (ByteArray × List jA)} {n : Int} (h : MS C T c ws n) (cs : List jA) (u : List (jB × List jA)) (w : List (ByteArray × List jA)) (a : List jR) (z : Int) (r : jB) (IX : ByteArray) :
  ∃ b, qU (mm T) cs u w a z r IX = some b ∧ (b = true ↔ om C ⟨r, IX⟩) :=
 ⟨_, rfl, by rw [rW h.CF.keys, h.all]⟩
def qA : jB := ⟨⟨#[97]⟩, ⟨#[114]⟩⟩
def qB : jB := ⟨⟨#[98]⟩, ⟨#[115]⟩⟩
def qd : ByteArray := ⟨#[100]⟩
def j1 : jA := ⟨2, qA, zS, qB, ⟨zS, zS⟩, zS⟩
def j2 : jA := ⟨1, qB, qd, ⟨zS, zS⟩, ⟨zS, zS⟩, zS⟩
end Go.Proofs.YtmlncblocfcmiaaGreat
namespace Go.Proofs.YtmlncblocfcmiaaGreat
open Go.RowKit
theorem Mf (n : Nat) (a : n ≤ 1000000000) : rb (n : Int) = some [] := by
 unfold rb
 rw [aY (by simp), kN (x := 0 - 0) (by omega) (by omega), show (n : Int) - (0 - 0) = n by omega, kN (x := (n : Int)) (by omega) (by omega)]
 by_cases h : 0 < n
 ·rw [aZ (by simpa using h)]
  unfold EP
  rw [aZ ⟨by omega, by omega, by unfold maxLen; omega⟩]
  simp [qj]
 ·rw [aY (by simpa using h)]; rfl
theorem Lc (a b : List jA) (h : a.length + b.length ≤ 1000000000) : qa [a, b] = some (a ++ b) := by
 unfold qa
 rw [nP, kN (by omega) (by omega), aY (by simp), nP, kN (by omega) (by omega), aY (by simp; omega), nP]
 rw [show (0 : Int) + (a.length : Int) + (b.length : Int) = ((a.length + b.length : Nat) : Int) by omega, Mf _ h]
 simp only [aA]
 rw [nS, mJ (by simp; omega) (by simp; omega)]
 simp only [aA, bO]
 rw [nS, mJ (by omega) (by omega)]
 simp only [aA]
 rw [nS]
 rfl
end Go.Proofs.YtmlncblocfcmiaaGreat
namespace Go.Proofs.YtmlncblocfcmiaaGreat
open Go.RowKit
theorem JE {a b : jB} (h : a ≠ b) : kc a b = false := by
 cases c : kc a b with
 | false => rfl
 | true => exact absurd (jZ.1 c) h
end Go.Proofs.YtmlncblocfcmiaaGreat
namespace Go.Proofs.YtmlncblocfcmiaaGreat
open Go.RowKit
theorem vK.own {l : List jR} {c : jA} {names : List ByteArray} {w : ByteArray} (h : vK l c names w) : vK l c (l.map (·.kA)) w := by
 rcases h with h | h | h | ⟨d, g, i, b, _, a, j⟩
 ·exact .inl h
 ·exact .inr (.inl h)
 ·exact .inr (.inr (.inl h))
 ·exact .inr (.inr (.inr ⟨d, g, i, b, bB.2 ⟨_, a, rfl⟩, a, j⟩))
theorem vK.subset {a b : List jR} {c : jA} {names : List ByteArray} {w : ByteArray} (h : vK a c names w) (d : ∀ f ∈ a, f ∈ b) : vK b c names w := by
 rcases h with h | h | h | ⟨i, j, k, g, l, m, n⟩
 ·exact .inl h
 ·exact .inr (.inl ⟨h.1, d _ h.2⟩)
 ·exact .inr (.inr (.inl ⟨h.1, d _ h.2.1, d _ h.2.2⟩))
 ·exact .inr (.inr (.inr ⟨i, j, k, g, l, d _ m, d _ n⟩))
end Go.Proofs.YtmlncblocfcmiaaGreat
namespace Go.Proofs.YtmlncblocfcmiaaGreat
open Go.RowKit
def tot {α : Type} (a : List (List α)) : Nat := (a.map List.length).sum
end Go.Proofs.YtmlncblocfcmiaaGreat
namespace Go.Proofs.YtmlncblocfcmiaaGreat
open Go.RowKit
def up (w : ByteArray) (g : ByteArray → Nat) : ByteArray → Nat := fun x => if lh w x = true then g x + 1 else g x
end Go.Proofs.YtmlncblocfcmiaaGreat
namespace Go.Proofs.YtmlncblocfcmiaaGreat
open Go.RowKit
instance decRole : DecidableEq jB := fun a b => decidable_of_iff (kc a b = true) jZ
theorem F3 (b : List jB) : ∀ (l m A : List jB), A ++ m = b → l.length = m.length → uP b l A.length = some (decide (l = m)) ∧ ol b l A.length = some (decide (l = m))
 | [], [], A, _, _ => ⟨by rw [uP]; rfl, by rw [ol]; rfl⟩
 | x :: l, y :: m, A, h, d => by
  have e : lj b (A.length : Int) = some y := by rw [← h]; exact mD A y m _ rfl
  obtain ⟨c, a2⟩ := F3 b l m (A ++ [y]) (by simpa using h) (by simpa using d)
  rw [aD] at c a2
  rw [uP, ol, e]
  simp only [aA]
  by_cases a : x = y
  ·subst a
   rw [tP]
   simp only [bW, aB, aM]
   exact ⟨by rw [show A.length + 1 = A.length + [x].length from rfl, c]; simp, by rw [show A.length + 1 = A.length + [x].length from rfl, a2]; simp⟩
  ·rw [JE a]
   simp [a]
theorem Br (a b : List jB) : nw a b = some (decide (a = b)) := by
 unfold nw
 by_cases h : a.length = b.length
 ·rw [aY (by simp [h])]
  exact (F3 b a b [] rfl h).2
 ·rw [aZ (by simp; omega)]
  simp; intro e; exact h (by rw [e])
structure PD (l : List jA) (F : List jR) : Prop where
 len : l.length ≤ 30000
 C : ∃ C : List jA, zH (om C) F ∧ (∀ c, c ∈ C ↔ c ∈ l ∧ lz c = true) ∧ SM C
 ref : yQ l = some F
theorem Pv (l : List jA) (g : l.length ≤ 30000) : ∃ F, PD l F := by
 obtain ⟨C, F, e, h1, h⟩ := NC l g
 obtain ⟨C1, T, j, ws, n, i, m1, a, d⟩ := Kg l (by omega)
 have b : ∀ c, c ∈ C ↔ c ∈ C1 := fun c => by rw [h, a]
 exact ⟨F, g, ⟨C1, ⟨h1.1, fun f => (h1.2 f).trans (om.congr b f)⟩, a, by unfold SM; omega⟩, e⟩
theorem PD.QB {l : List jA} {F : List jR} (h : PD l F) : F.length ≤ 900000000 := by
 obtain ⟨C, h1, b, a⟩ := h.C
 exact Oa h1 a
end Go.Proofs.YtmlncblocfcmiaaGreat
namespace Go.Proofs.YtmlncblocfcmiaaGreat
open Go.RowKit
def B8 (l : List Int) : Prop := ∀ x ∈ l, 0 ≤ x ∧ x < 256
end Go.Proofs.YtmlncblocfcmiaaGreat
namespace Go.Proofs.YtmlncblocfcmiaaGreat
open Go.RowKit
def JV : List ByteArray → List Key → Int
 | _, [] => 0
 | seen, k :: l => if mE k.kA = false then 30 else if k.Key.length < 1 ∨ 32 < k.Key.length then 21 else if mR lh seen k.kA = true then 41 else JV (seen ++ [k.kA]) l
def My (l : List Key) : List (ByteArray × List Int) := l.map fun k => (k.kA, k.Key)
def MN (l : List Key) (o : ByteArray) : Option (List Int) := lg lh (My l) o
theorem OI {l : List Int} (h : l.length ≤ 1000000) : sJ l = some l := by
 unfold sJ
 rw [Ew (by simpa using h)]; rfl
theorem Jb : ∀ (l : List Key) (seen : List ByteArray), JV seen l = 0 → ∀ k ∈ l, 1 ≤ k.Key.length ∧ k.Key.length ≤ 32
 | [], _, _, _, hk => by cases hk
 | x :: l, seen, h, k, hk => by
  unfold JV at h
  split at h
  ·cases h
  split at h
  ·cases h
  split at h
  ·cases h
  rcases aQ.1 hk with rfl | hk
  ·omega
  ·exact Jb l _ h k hk
theorem Ev : ∀ (l : List Key) (o : ByteArray) (b : List Int), MN l o = some b → ∃ k ∈ l, k.Key = b
 | [], o, b, h => by cases h
 | x :: l, o, b, h => by
  unfold MN at h
  rw [show My (x :: l) = (x.kA, x.Key) :: My l from rfl, zO] at h
  split at h
  ·cases h; exact ⟨x, by simp, rfl⟩
  ·obtain ⟨k, hk, e⟩ := Ev l o b h
   exact ⟨k, by simp [hk], e⟩
def K8 (l : List Key) : Prop := ∀ k ∈ l, B8 k.Key
structure Mk (ks : List Key) (c : jA) (k : List Int) : Prop where
 ok : JV [] ks = 0
 rt : lz c = true
 lk : MN ks c.Head.jF = some k
theorem Mk.len {a : List Key} {c : jA} {k : List Int} (h : Mk a c k) : 1 ≤ k.length ∧ k.length ≤ 32 := by
 obtain ⟨q, b, rfl⟩ := Ev _ _ _ h.lk
 exact Jb a [] h.ok q b
theorem Mk.b8 {a : List Key} {c : jA} {k : List Int} (h : Mk a c k) (hk : K8 a) : B8 k := by
 obtain ⟨q, b, rfl⟩ := Ev _ _ _ h.lk
 exact hk q b
theorem Mk.unique {a : List Key} {c : jA} {k k' : List Int} (h : Mk a c k) (b : Mk a c k') : k = k' := by
 have := h.lk; rw [b.lk] at this; cases this; rfl
end Go.Proofs.YtmlncblocfcmiaaGreat
namespace Go.Proofs.YtmlncblocfcmiaaGreat
open Go.RowKit
def S8 (l : List Signed) : Prop := ∀ s ∈ l, B8 s.Tag
end Go.Proofs.YtmlncblocfcmiaaGreat
namespace Go.Proofs.YtmlncblocfcmiaaGreat
open Go.RowKit
theorem HE (b : List jA) (x : jA) : ra b x = some (mR kp b x) := by
 obtain ⟨q, e, h⟩ := G3 x b
 unfold rV at e
 rw [og] at e
 rw [e, show q = mR kp b x from by rw [cP, h, pC lK]]
structure Pa (l : List jA) (F : List jR) : Prop where
 len : F.length ≤ 900000000
 ref : yQ l = some F
 QS : ∃ m, um l = some m ∧ uJ m.1 m.2.1 m.2.2.1 m.2.2.2.1 m.2.2.2.2.1 m.2.2.2.2.2 = some F ∧ ∀ r w, qU m.1 m.2.1 m.2.2.1 m.2.2.2.1 m.2.2.2.2.1 m.2.2.2.2.2 r w = some (mR yU F ⟨r, w⟩)
 vO : ∀ C : List jA, (∀ c, c ∈ C ↔ c ∈ l ∧ lz c = true) → zH (om C) F
theorem Qp (l : List jA) (x : l.length ≤ 30000) : ∃ F, Pa l F := by
 obtain ⟨F, h⟩ := Pv l x
 refine ⟨F, h.QB, h.ref, ?_, fun C t => ?_⟩
 ·obtain ⟨C, h1, d, s⟩ := h.C
  obtain ⟨C1, T, m, ws, n, o, m1, g, j⟩ := Kg l (by omega)
  have a : ∀ c, c ∈ C1 ↔ c ∈ C := fun c => by rw [d, g]
  have k : zH (om C1) F := ⟨h1.1, fun f => (h1.2 f).trans (om.congr a f).symm⟩
  have u : SM C1 := by unfold SM; omega
  refine ⟨_, o, ?_, fun r w => ?_⟩
  ·obtain ⟨F1, q, i⟩ := MC u.small m1 C1 m ws [] n
   rw [← i.unique k]; exact q
  ·obtain ⟨b, e, v⟩ := KH m1 C1 m ws [] n r w
   rw [e, show b = mR yU F ⟨r, w⟩ from by rw [cP, v, pC yb, k.2]]
 ·obtain ⟨C', h1, d, s⟩ := h.C
  have a : ∀ c, c ∈ C' ↔ c ∈ C := fun c => by rw [d, t]
  exact ⟨h1.1, fun f => (h1.2 f).trans (om.congr a f)⟩
end Go.Proofs.YtmlncblocfcmiaaGreat
namespace Go.Proofs.YtmlncblocfcmiaaGreat
open Go.RowKit
section
variable {α : Type}
structure SWO (lt : α → α → Bool) : Prop where
 Qf : ∀ x, lt x x = false
 tr : ∀ x y z, lt x y = true → lt y z = true → lt x z = true
 Nl : ∀ x y z, lt x z = true → lt x y = true ∨ lt y z = true
variable {lt : α → α → Bool}
def tl (lt : α → α → Bool) (p q : α × Nat) : Prop := lt p.1 q.1 = true ∨ (lt q.1 p.1 = false ∧ p.2 < q.2)
theorem BZ (h : SWO lt) {p q r : α × Nat} (a : tl lt p q) (b : tl lt q r) : tl lt p r := by
 unfold tl at *
 rcases a with a | ⟨a, a2⟩ <;> rcases b with b | ⟨b, d⟩
 ·exact .inl (h.tr _ _ _ a b)
 ·rcases h.Nl _ r.1 _ a with c | c
  ·exact .inl c
  ·rw [b] at c; cases c
 ·rcases h.Nl _ p.1 _ b with c | c
  ·rw [a] at c; cases c
  ·exact .inl c
 ·refine .inr ⟨?_, by omega⟩
  cases e : lt r.1 p.1
  ·rfl
  ·rcases h.Nl _ q.1 _ e with c | c
   ·rw [b] at c; cases c
   ·rw [a] at c; cases c
theorem N0 (h : SWO lt) {p q : α × Nat} (a : tl lt p q) (b : tl lt q p) : False := by
 have c := BZ h a b
 rcases c with c | ⟨_, c⟩
 ·rw [h.Qf] at c; cases c
 ·omega
abbrev nK (lt : α → α → Bool) (t : List (α × Nat)) : Prop := t.Pairwise (tl lt)
theorem Fg (h : SWO lt) : ∀ {t u : List (α × Nat)}, nK lt t → nK lt u → t.Perm u → t = u
 | [], u, _, _, hp => by rw [List.nil_perm] at hp; exact hp.symm
 | p :: t, [], _, _, hp => by simp at hp
 | p :: t, q :: u, h1, b, hp => by
  have e : p = q := by
   rcases aQ.1 (hp.mem_iff.1 (.head _)) with e | c
   ·exact e
   ·rcases aQ.1 (hp.mem_iff.2 (.head _)) with e | a
    ·exact e.symm
    ·exact (N0 h ((cM.1 h1).1 _ a) ((cM.1 b).1 _ c)).elim
  subst e
  rw [Fg h (cM.1 h1).2 (cM.1 b).2 (List.Perm.cons_inv hp)]
def Ee (lt : α → α → Bool) (l : List α) (k : α) : List α := l.filter (fun x => !lt k x) ++ k :: l.filter (fun x => lt k x)
def G5 (lt : α → α → Bool) (l : List α) : List α := l.foldl (Ee lt) []
def Ej (lt : α → α → Bool) (t : List (α × Nat)) (k : α × Nat) : List (α × Nat) := t.filter (fun x => !lt k.1 x.1) ++ k :: t.filter (fun x => lt k.1 x.1)
theorem MP (t : List (α × Nat)) (k : α × Nat) : (Ej lt t k).map (·.1) = Ee lt (t.map (·.1)) k.1 := by
 simp [Ej, Ee, List.filter_map, fz]
theorem Lx (t : List (α × Nat)) (k : α × Nat) : (Ej lt t k).Perm (t ++ [k]) := by
 unfold Ej
 refine List.perm_middle.trans ?_
 refine (List.Perm.cons _ ?_).trans (fD k t).symm
 have := List.filter_append_perm (fun x : α × Nat => !lt k.1 x.1) t
 simpa using this
theorem Mm (h : SWO lt) {t : List (α × Nat)} {k : α × Nat} (g : nK lt t) (hk : ∀ x ∈ t, x.2 < k.2) : nK lt (Ej lt t k) := by
 unfold Ej nK
 rw [cR, cM]
 refine ⟨g.filter _, ⟨fun x b => ?_, g.filter _⟩, fun x b y c => ?_⟩
 ·exact .inl (cV.1 b).2
 ·obtain ⟨h1, d⟩ := cV.1 b
  simp only [eZ, ] at d
  have a : tl lt x k := .inr ⟨d, hk x h1⟩
  rcases aQ.1 c with rfl | c
  ·exact a
  ·exact BZ h a (.inl (cV.1 c).2)
theorem P0 (h : SWO lt) (l : List α) : ∃ t, nK lt t ∧ t.Perm l.zipIdx ∧ t.map (·.1) = G5 lt l := by
 suffices H : ∀ (l r : List α) (t : List (α × Nat)), nK lt t → t.Perm r.zipIdx → ∃ u, nK lt u ∧ u.Perm (r ++ l).zipIdx ∧ u.map (·.1) = l.foldl (Ee lt) (t.map (·.1)) by
  obtain ⟨u, h1, c, g⟩ := H l [] [] .nil (by simp)
  exact ⟨u, h1, by simpa using c, g⟩
 intro l
 induction l with
 | nil => intro r t h1 c; exact ⟨t, h1, by simpa using c, rfl⟩
 | cons k l ih =>
  intro r t h1 c
  obtain ⟨u, d, a2, a3⟩ := ih (r ++ [k]) (Ej lt t (k, r.length)) (Mm h h1 (fun x i => by
   obtain ⟨a, b⟩ := x
   have := List.snd_lt_of_mem_zipIdx (c.mem_iff.1 i)
   simpa using this)) ((Lx t _).trans (by rw [List.zipIdx_append]; simpa using c.append_right _))
  refine ⟨u, d, by simpa using a2, ?_⟩
  rw [a3, MP]
  rfl
theorem Nw (h : SWO lt) {l : List α} {t : List (α × Nat)} (h1 : nK lt t) (b : t.Perm l.zipIdx) : t.map (·.1) = G5 lt l := by
 obtain ⟨u, a, a2, a3⟩ := P0 h l
 rw [← a3, Fg h h1 a (b.trans a2.symm)]
end
end Go.Proofs.YtmlncblocfcmiaaGreat
namespace Go.Proofs.YtmlncblocfcmiaaGreat
open Go.RowKit
section
variable {α : Type} {lt : α → α → Bool}
abbrev Lk (lt : α → α → Bool) (A B : List (α × Nat)) : Prop := ∀ A' a b B', A = A' ++ [a] → B = b :: B' → tl lt a b
theorem yn (h : SWO lt) {A B : List (α × Nat)} (j : nK lt A) (k : nK lt B) (l : Lk lt A B) : ∀ a ∈ A, ∀ b ∈ B, tl lt a b := by
 intro a ha b c
 rcases dv A with rfl | ⟨A', z, rfl⟩
 ·cases ha
 cases B with
 | nil => cases c
 | cons y B' =>
  have h1 : tl lt z y := l A' z y B' (by simp) rfl
  have d : a = z ∨ tl lt a z := by
   simp only [dU, aR, bM] at ha
   rcases ha with ha | ha
   ·refine .inr ?_
    simp only [dU, nK, cR] at j
    exact j.2.2 a ha z (by simp)
   ·exact .inl ha
  have g : b = y ∨ tl lt y b := by
   rcases aQ.1 c with c | c
   ·exact .inl c
   ·exact .inr ((cM.1 k).1 b c)
  have i : tl lt a y := by
   rcases d with rfl | d
   ·exact h1
   ·exact BZ h d h1
  rcases g with rfl | g
  ·exact i
  ·exact BZ h i g
theorem HY (h : SWO lt) {A B : List (α × Nat)} (a : nK lt A) (b : nK lt B) (l : Lk lt A B) : nK lt (A ++ B) :=
 cR.2 ⟨a, b, yn h a b l⟩
theorem nK.left {A B : List (α × Nat)} (h : nK lt (A ++ B)) : nK lt A := (cR.1 h).1
theorem nK.right {A B : List (α × Nat)} (h : nK lt (A ++ B)) : nK lt B := (cR.1 h).2.1
theorem nK.two {A B : List (α × Nat)} (h : nK lt (A ++ B)) : ∀ a ∈ A, ∀ b ∈ B, tl lt a b := (cR.1 h).2.2
theorem FH (h : SWO lt) {A B : List (α × Nat)} {x : α × Nat} (d : nK lt (A ++ B)) (i : Lk lt A [x]) (j : Lk lt [x] B) : nK lt (A ++ x :: B) := by
 have h1 := yn h d.left (fY _ x) i
 have g := yn h (fY _ x) d.right j
 refine cR.2 ⟨d.left, cM.2 ⟨fun b c => g x (by simp) b c, d.right⟩, fun a ha b c => ?_⟩
 rcases aQ.1 c with rfl | c
 ·exact h1 a ha _ (by simp)
 ·exact d.two a ha b c
theorem Ny (h : SWO lt) {A1 A2 B1 B2 C1 C2 : List (α × Nat)} (d : nK lt (A1 ++ A2)) (g : nK lt (B1 ++ B2)) (j : Lk lt A1 B2) (k : Lk lt B1 A2) (l : C1.Perm (A1 ++ B1)) (m : C2.Perm (A2 ++ B2)) (h1 : nK lt C1) (i : nK lt C2) : nK lt (C1 ++ C2) := by
 have x1 := yn h d.left g.right j
 have x2 := yn h g.left d.right k
 refine cR.2 ⟨h1, i, fun a ha b c => ?_⟩
 rcases aR.1 (l.mem_iff.1 ha) with ha | ha <;> rcases aR.1 (m.mem_iff.1 c) with c | c
 ·exact d.two a ha b c
 ·exact x1 a ha b c
 ·exact x2 a ha b c
 ·exact g.two a ha b c
end
section
variable {α : Type}
theorem Du (p q : List α) (x y : α) : (p ++ x :: q).set p.length y = p ++ y :: q := by simp
theorem Hq (p q : List α) (x y : α) (n : Nat) (h : n = p.length) : (p ++ x :: q).set n y = p ++ y :: q := by subst h; simp
theorem Ed (p m q : List α) (x y : α) : ((p ++ x :: (m ++ y :: q)).set p.length y).set (p.length + 1 + m.length) x = p ++ y :: (m ++ x :: q) := by
 rw [Du]
 have : p ++ y :: (m ++ y :: q) = (p ++ y :: m) ++ y :: q := by simp
 rw [this, show p.length + 1 + m.length = (p ++ y :: m).length by simp; omega, Du]
 simp
theorem Lm (p m q : List α) (x y : α) : ((p ++ x :: (m ++ y :: q)).set (p.length + 1 + m.length) x).set p.length y = p ++ y :: (m ++ x :: q) := by
 rw [List.set_comm _ _ (by omega), Ed]
theorem vh {l : List α} {n : Nat} (h : n ≤ l.length) : ∃ a b, l = a ++ b ∧ a.length = n := ⟨l.take n, l.drop n, (gq n l).symm, by simp [h]⟩
end
end Go.Proofs.YtmlncblocfcmiaaGreat
namespace Go.Proofs.YtmlncblocfcmiaaGreat
open Go.RowKit
section
variable {c : Formula → Formula → Int} {G : Formula → Prop} {f : Formula × Formula → Option Int}
theorem J4 (x : Formula) : (⟨x.Op, x.K, x.jB, x.Kids⟩ : Formula) = x := by cases x; rfl
abbrev nB (c : Formula → Formula → Int) (x y : Formula) : Bool := decide (c x y < 0)
abbrev Bl (f : Formula × Formula → Option Int) (c : Formula → Formula → Int) (G : Formula → Prop) : Prop := ∀ x y, G x → G y → f (x, y) = some (c x y)
theorem Qo (u : Bl f c G) (pre : List Formula) (x : Formula) (w : G x) : ∀ (k : Nat) (P S : List Formula) (n : Nat) (j a : Int), P.length = k → k < n → (∀ y ∈ P, G y) → (pre ++ (P ++ x :: S)).length ≤ 1000000 → j = ((pre.length + P.length : Nat) : Int) → a = (pre.length : Int) →
  ∃ P1 P2, P = P1 ++ P2 ∧ lJ a f n (pre ++ (P ++ x :: S)) j = some (pre ++ (P1 ++ x :: (P2 ++ S))) ∧ (∀ P' z, P1 = P' ++ [z] → nB c x z = false) ∧ (∀ y P', P2 = y :: P' → nB c x y = true) := by
 intro k
 induction k with
 | zero =>
  intro P S n j a hk v d l h ha
  obtain rfl := aU hk
  obtain ⟨n, rfl⟩ := aK (by omega : n ≠ 0)
  refine ⟨[], [], rfl, ?_, by simp, by simp⟩
  rw [lJ]
  have : ¬ (j > a) := by rw [h, ha]; simp
  simp [this]
 | succ k ih =>
  intro P S n j a hk v d l h ha
  rcases dv P with rfl | ⟨P', z, rfl⟩
  ·simp at hk
  simp only [dU, aD, aO, bU] at hk h l d ⊢
  obtain ⟨n, rfl⟩ := aK (by omega : n ≠ 0)
  have i : j > a := by omega
  have m : pre ++ (P' ++ [z] ++ x :: S) = (pre ++ P') ++ z :: x :: S := by simp
  have hw : IntKind.i64.wrap (j - 1) = ((pre.length + P'.length : Nat) : Int) := by rw [kN (by omega) (by omega)]; omega
  have i1 : lj ((pre ++ P') ++ z :: x :: S) j = some x := by
   rw [show (pre ++ P') ++ z :: x :: S = (pre ++ P' ++ [z]) ++ x :: S by simp]
   exact mD _ _ _ _ (by simp; omega)
  have i2 : lj ((pre ++ P') ++ z :: x :: S) ((pre.length + P'.length : Nat) : Int) = some z := mD _ _ _ _ (by simp)
  have D : G z := d z (by simp)
  have t : ∀ y ∈ P', G y := fun y A => d y (by simp [A])
  have I : j.toNat = pre.length + P'.length + 1 := by omega
  rw [lJ, m]
  simp only [i, cH, aW, i1, hw, i2, aA, u x z w D]
  by_cases g : c x z < 0
  ·simp only [g, cH, aW]
   have s1 : ((pre ++ P') ++ z :: x :: S).set j.toNat z = (pre ++ P') ++ z :: z :: S := by
    have := Hq (pre ++ P' ++ [z]) S x z j.toNat (by simp; omega)
    simpa only [aN, fx, cA, bO] using this
   have s2 : ((pre ++ P') ++ z :: z :: S).set (pre.length + P'.length) x = (pre ++ P') ++ x :: z :: S := by
    exact Hq (pre ++ P') (z :: S) z x _ (by simp)
   have i3 : lj ((pre ++ P') ++ z :: z :: S) ((pre.length + P'.length : Nat) : Int) = some z := mD _ _ _ _ (by simp)
   rw [s1, i3, aA, dL, J4, s2]
   have o : (pre ++ P') ++ x :: z :: S = pre ++ (P' ++ x :: (z :: S)) := by simp
   obtain ⟨P1, P2, h1, q, r, s⟩ := ih P' (z :: S) n ((pre.length + P'.length : Nat) : Int) a (by omega) (by omega) t (by simp; omega) rfl ha
   rw [o, q]
   refine ⟨P1, P2 ++ [z], by rw [h1]; simp, by simp, r, ?_⟩
   intro y Q b
   cases P2 with
   | nil =>
    simp only [bO, bE] at b
    rw [← b.1]; simp [nB, g]
   | cons F P2 =>
    simp only [cA, bE] at b
    rw [← b.1]; exact s F P2 rfl
  ·simp only [g, cK, aB, aM]
   refine ⟨P' ++ [z], [], by simp, by simp, ?_, by simp⟩
   intro Q y b
   have := List.append_inj' b rfl
   simp only [bE, dY] at this
   rw [← this.2]; simp [nB, g]
theorem Nc (h : SWO (nB c)) (I : Bl f c G) (pre post : List Formula) (a b : Int) (ha : a = (pre.length : Int)) : ∀ (S t : List (Formula × Nat)) (n : Nat) (i : Int),
  S.length < n → nK (nB c) t → (∀ x ∈ t, ∀ y ∈ S, x.2 < y.2) → S.Pairwise (fun x y => x.2 < y.2) → (∀ x ∈ t ++ S, G x.1) → (pre ++ (t.map (·.1) ++ (S.map (·.1) ++ post))).length ≤ 1000000 →
  i = ((pre.length + t.length : Nat) : Int) → b = ((pre.length + t.length + S.length : Nat) : Int) →
  ∃ u, lu b a f n (pre ++ (t.map (·.1) ++ (S.map (·.1) ++ post))) i = some (pre ++ (u.map (·.1) ++ post)) ∧ nK (nB c) u ∧ u.Perm (t ++ S)
 | [], t, n, i, A, D, h1, F, q, w, J, r => by
  obtain ⟨n, rfl⟩ := aK (by simp at A; omega : n ≠ 0)
  rw [lu]
  simp only [bU] at r
  have : ¬ (i < b) := by omega
  simp only [this, cK, aB, aM]
  exact ⟨t, by simp, D, by simp⟩
 | s :: S, t, n, i, A, D, h1, F, q, w, J, r => by
  simp only [aO] at A r
  obtain ⟨n, rfl⟩ := aK (by omega : n ≠ 0)
  rw [lu]
  have v : i < b := by omega
  simp only [v, cH, aW]
  have k := w
  simp only [aD, cU, aO] at k
  obtain ⟨P1, P2, O, P, Q, R⟩ := Qo I pre s.1 (q s (by simp)) (t.map (·.1)).length (t.map (·.1)) (S.map (·.1) ++ post) kC i a rfl (by rw [mU]; simp; omega)
   (fun y m => by obtain ⟨p, hp, rfl⟩ := bB.1 m; exact q p (by simp [hp])) (by simpa using w) (by simp; omega) ha
  simp only [bH, cA]
  rw [P, aA]
  obtain ⟨t1, t2, rfl, L, M⟩ := List.map_eq_append_iff.1 O
  have hlen : t1.length + t2.length = (t1 ++ t2).length := by simp
  have hw : IntKind.i64.wrap (i + 1) = ((pre.length + (t1 ++ s :: t2).length : Nat) : Int) := by rw [kN (by omega) (by omega)]; simp at J ⊢; omega
  rw [hw]
  have l : nK (nB c) (t1 ++ s :: t2) := FH h D
   (fun A' z b B' j o => by
    simp only [bE] at o
    rw [← o.1]
    refine .inr ⟨Q (A'.map (·.1)) z.1 (by rw [← L, j]; simp), h1 z (by rw [j]; simp) s (by simp)⟩)
   (fun A' z b B' j o => by
    have U : z = s := by
     cases A' with
     | nil => simpa using j.symm
     | cons _ A' => simp at j
    rw [U]
    exact .inl (R b.1 (B'.map (·.1)) (by rw [← M, o]; simp)))
  have g := cM.1 F
  have T : pre ++ (P1 ++ s.1 :: (P2 ++ (S.map (·.1) ++ post))) = pre ++ ((t1 ++ s :: t2).map (·.1) ++ (S.map (·.1) ++ post)) := by rw [← L, ← M]; simp
  rw [T]
  obtain ⟨u, W, Y, Z⟩ := Nc h I pre post a b ha S (t1 ++ s :: t2) n _ (by omega) l
   (fun x d y m => by
    rcases aR.1 d with d | d
    ·exact h1 x (by simp [d]) y (by simp [m])
    ·rcases aQ.1 d with rfl | d
     ·exact g.1 y m
     ·exact h1 x (by simp [d]) y (by simp [m]))
   g.2 (fun x d => q x (by
    simp only [aR, aQ] at d ⊢
    rcases d with (d | d | d) | d
    ·exact .inl (.inl d)
    ·exact .inr (.inl d)
    ·exact .inl (.inr d)
    ·exact .inr (.inr d))) (by simp at k ⊢; omega) rfl (by simp at r ⊢; omega)
  refine ⟨u, W, Y, Z.trans ?_⟩
  simp only [aN, cA]
  exact bX t1 (List.perm_middle.symm)
theorem Jl (h : SWO (nB c)) (o : Bl f c G) (pre post : List Formula) (S : List (Formula × Nat)) (a b : Int) (l : S.Pairwise (fun x y => x.2 < y.2)) (m : ∀ x ∈ S, G x.1) (k : (pre ++ (S.map (·.1) ++ post)).length ≤ 1000000) (ha : a = (pre.length : Int)) (j : b = ((pre.length + S.length : Nat) : Int)) :
  ∃ u, mF (pre ++ (S.map (·.1) ++ post)) a b f = some (pre ++ (u.map (·.1) ++ post)) ∧ nK (nB c) u ∧ u.Perm S := by
 unfold mF
 have g := k
 simp only [aD, cU] at g
 cases S with
 | nil =>
  refine ⟨[], ?_, .nil, .nil⟩
  obtain ⟨n, q⟩ := aK (by rw [mU]; omega : kC ≠ 0)
  rw [q, lu]
  have : ¬ (IntKind.i64.wrap (a + 1) < b) := by rw [kN (by omega) (by omega)]; simp at j; omega
  simp [this]
 | cons s S =>
  simp only [aO] at j g
  have d := cM.1 l
  obtain ⟨u, t, v, w⟩ := Nc h o pre post a b ha S [s] kC (IntKind.i64.wrap (a + 1)) (by rw [mU]; omega) (fY _ _) (fun x i y r => by simp at i; rw [i]; exact d.1 y r) d.2
   (fun x i => m x (by simpa using i)) (by simp at k ⊢; omega) (by rw [kN (by omega) (by omega)]; simp; omega) (by simp; omega)
  exact ⟨u, by simpa using t, v, by simpa using w⟩
end
end Go.Proofs.YtmlncblocfcmiaaGreat
namespace Go.Proofs.YtmlncblocfcmiaaGreat
open Go.RowKit
section
variable {c : Formula → Formula → Int} {G : Formula → Prop} {f : Formula × Formula → Option Int}
theorem mT {x : Int} (n : Nat) (h : x = (n : Int)) (a : n ≤ 4000000) : IntKind.i64.wrap x = (n : Int) := by rw [h, kN (by omega) (by omega)]
theorem OP (p m q : List Formula) (a b N : Int) : ∀ (k : Nat) (X1 X2 Y1 Y2 : List Formula) (n : Nat) (i : Int), X2.length = k → Y2.length = k → X1.length = Y1.length → k < n → (p ++ (Y1 ++ (X2 ++ (m ++ (X1 ++ (Y2 ++ q)))))).length ≤ 1000000 →
  i = (X1.length : Int) → N = ((X1.length + k : Nat) : Int) → a = (p.length : Int) → b = ((p.length + X1.length + k + m.length : Nat) : Int) →
  lX N b a n (p ++ (Y1 ++ (X2 ++ (m ++ (X1 ++ (Y2 ++ q)))))) i = some (p ++ ((Y1 ++ Y2) ++ (m ++ ((X1 ++ X2) ++ q)))) := by
 intro k
 induction k with
 | zero =>
  intro X1 X2 Y1 Y2 n i h1 c s u l t h ha j
  obtain rfl := aU h1
  obtain rfl := aU c
  obtain ⟨n, rfl⟩ := aK (by omega : n ≠ 0)
  rw [lX]
  have : ¬ (i < N) := by omega
  simp [this]
 | succ k ih =>
  intro X1 X2 Y1 Y2 n i h1 c s u l t h ha j
  cases X2 with
  | nil => simp at h1
  | cons x X2 =>
  cases Y2 with
  | nil => simp at c
  | cons y Y2 =>
  simp only [aO, Nat.add_right_cancel_iff] at h1 c
  obtain ⟨n, rfl⟩ := aK (by omega : n ≠ 0)
  have g := l
  simp only [aD, aO] at g
  have d : i < N := by omega
  have v : IntKind.i64.wrap (b + i) = (((p ++ Y1).length + 1 + (X2 ++ (m ++ X1)).length : Nat) : Int) := mT _ (by simp; omega) (by simp; omega)
  have w : IntKind.i64.wrap (a + i) = ((p ++ Y1).length : Int) := mT _ (by simp; omega) (by simp; omega)
  have z : IntKind.i64.wrap (i + 1) = ((X1 ++ [x]).length : Int) := mT _ (by simp; omega) (by simp; omega)
  have o : p ++ (Y1 ++ (x :: X2 ++ (m ++ (X1 ++ (y :: Y2 ++ q))))) = (p ++ Y1) ++ x :: ((X2 ++ (m ++ X1)) ++ y :: (Y2 ++ q)) := by simp
  have i1 : lj ((p ++ Y1) ++ x :: ((X2 ++ (m ++ X1)) ++ y :: (Y2 ++ q))) (((p ++ Y1).length + 1 + (X2 ++ (m ++ X1)).length : Nat) : Int) = some y := by
   have := mD ((p ++ Y1) ++ x :: (X2 ++ (m ++ X1))) y (Y2 ++ q) (((p ++ Y1).length + 1 + (X2 ++ (m ++ X1)).length : Nat) : Int) (by simp; omega)
   simpa using this
  have i2 : lj ((p ++ Y1) ++ x :: ((X2 ++ (m ++ X1)) ++ y :: (Y2 ++ q))) ((p ++ Y1).length : Int) = some x := mD _ _ _ _ rfl
  rw [lX, o]
  simp only [d, cH, aW, v, w, i1, i2, aA, dL, z]
  have i3 : lj (((p ++ Y1) ++ x :: ((X2 ++ (m ++ X1)) ++ y :: (Y2 ++ q))).set (p ++ Y1).length y) (((p ++ Y1).length + 1 + (X2 ++ (m ++ X1)).length : Nat) : Int) = some y := by
   rw [Du]
   have := mD ((p ++ Y1) ++ y :: (X2 ++ (m ++ X1))) y (Y2 ++ q) (((p ++ Y1).length + 1 + (X2 ++ (m ++ X1)).length : Nat) : Int) (by simp; omega)
   simpa using this
  rw [i3, aA, J4, Ed]
  have r : (p ++ Y1) ++ y :: ((X2 ++ (m ++ X1)) ++ x :: (Y2 ++ q)) = p ++ ((Y1 ++ [y]) ++ (X2 ++ (m ++ ((X1 ++ [x]) ++ (Y2 ++ q))))) := by simp
  rw [r, ih (X1 ++ [x]) X2 (Y1 ++ [y]) Y2 n _ h1 c (by simp; omega) (by omega) (by simp; omega) rfl (by rw [h]; simp; omega) ha (by rw [j]; simp; omega)]
  simp
theorem J2 (p m q X Y : List Formula) (a b N : Int) (h : X.length = Y.length) (d : (p ++ (X ++ (m ++ (Y ++ q)))).length ≤ 1000000) (g : N = (X.length : Int)) (ha : a = (p.length : Int)) (i : b = ((p.length + X.length + m.length : Nat) : Int)) :
  mA (p ++ (X ++ (m ++ (Y ++ q)))) a b N f = some (p ++ (Y ++ (m ++ (X ++ q)))) := by
 unfold mA
 have c := d
 simp only [aD] at c
 have := OP p m q a b N X.length [] X [] Y kC 0 rfl h.symm rfl (by rw [mU]; omega) (by simpa using d) rfl (by simpa using g) ha (by rw [i]; simp)
 simpa using this
theorem PQ (M : Int) : ∀ (k : Nat) (A B p q : List Formula) (n : Nat) (i j : Int), A.length + B.length ≤ k → 0 < A.length → 0 < B.length → k < n → (p ++ (A ++ (B ++ q))).length ≤ 1000000 → i = (A.length : Int) → j = (B.length : Int) → M = ((p.length + A.length : Nat) : Int) →
  mj M f n (p ++ (A ++ (B ++ q))) i j = some (p ++ (B ++ (A ++ q))) := by
 intro k
 induction k with
 | zero => intro A B p q n i j h h1 r; omega
 | succ k ih =>
  intro A B p q n i j h h1 r F v b g t
  obtain ⟨n, rfl⟩ := aK (by omega : n ≠ 0)
  have a := v
  simp only [aD] at a
  rw [mj]
  by_cases he : A.length = B.length
  ·have : (i != j) = false := by rw [b, g, he]; simp
   simp only [this, aB, aM]
   have c : IntKind.i64.wrap (M - i) = (p.length : Int) := mT _ (by omega) (by omega)
   have := J2 (f := f) p [] q A B (p.length : Int) M i he (by simpa using v) b rfl (by rw [t]; simp)
   simp only [bO] at this
   rw [c, this]; rfl
  ·have m : (i != j) = true := by rw [b, g]; simp; omega
   simp only [m, aW]
   by_cases u : i > j
   ·simp only [u, cH, aW]
    obtain ⟨X, Y, rfl, D⟩ := vh (l := A) (n := B.length) (by omega)
    simp only [aD] at b h t a
    have c : IntKind.i64.wrap (M - i) = (p.length : Int) := mT _ (by omega) (by omega)
    have s := J2 (f := f) p Y q X B (p.length : Int) M j (by omega) (by simp; omega) (by omega) rfl (by omega)
    have d : p ++ (X ++ Y ++ (B ++ q)) = p ++ (X ++ (Y ++ (B ++ q))) := by simp
    have o : IntKind.i64.wrap (i - j) = (Y.length : Int) := mT _ (by omega) (by omega)
    rw [d, c, s, aA, o]
    have w : p ++ (B ++ (Y ++ (X ++ q))) = (p ++ B) ++ (Y ++ (X ++ q)) := by simp
    rw [w, ih Y X (p ++ B) q n _ j (by omega) (by omega) (by omega) (by omega) (by simp; omega) rfl (by omega) (by simp; omega)]
    simp
   ·simp only [u, cK, aB, aM]
    obtain ⟨Z, V, rfl, x⟩ := vh (l := B) (n := B.length - A.length) (by omega)
    simp only [aD] at g h a x r he
    have c : IntKind.i64.wrap (M - i) = (p.length : Int) := mT _ (by omega) (by omega)
    have y : IntKind.i64.wrap (M + j) = ((p.length + A.length + (Z.length + V.length) : Nat) : Int) := mT _ (by omega) (by omega)
    have z : IntKind.i64.wrap (((p.length + A.length + (Z.length + V.length) : Nat) : Int) - i) = ((p.length + A.length + Z.length : Nat) : Int) := mT _ (by omega) (by omega)
    have s := J2 (f := f) p Z q A V (p.length : Int) ((p.length + A.length + Z.length : Nat) : Int) i (by omega) (by simp; omega) b rfl rfl
    have d : p ++ (A ++ (Z ++ V ++ q)) = p ++ (A ++ (Z ++ (V ++ q))) := by simp
    have o : IntKind.i64.wrap (j - i) = (Z.length : Int) := mT _ (by omega) (by omega)
    rw [d, c, y, z, s, aA, o]
    rw [show p ++ (V ++ (Z ++ (A ++ q))) = p ++ (V ++ (Z ++ (A ++ q))) from rfl, ih V Z p (A ++ q) n i _ (by omega) (by omega) (by omega) (by omega) (by simp; omega) (by omega) rfl (by omega)]
    simp
theorem QP (A B p q : List Formula) (a m b : Int) (h1 : 0 < A.length) (g : 0 < B.length) (d : (p ++ (A ++ (B ++ q))).length ≤ 1000000) (ha : a = (p.length : Int)) (hm : m = ((p.length + A.length : Nat) : Int)) (h : b = ((p.length + A.length + B.length : Nat) : Int)) :
  mx (p ++ (A ++ (B ++ q))) a m b f = some (p ++ (B ++ (A ++ q))) := by
 unfold mx
 have c := d
 simp only [aD] at c
 rw [mT A.length (by omega) (by omega), mT B.length (by omega) (by omega)]
 exact PQ m (A.length + B.length) A B p q kC _ _ (aV _) h1 g (by rw [mU]; omega) d rfl rfl hm
end
end Go.Proofs.YtmlncblocfcmiaaGreat
namespace Go.Proofs.YtmlncblocfcmiaaGreat
open Go.RowKit
section
variable {c : Formula → Formula → Int} {G : Formula → Prop} {f : Formula × Formula → Option Int}
theorem Bu {x : Int} (n : Nat) (h : x = (n : Int)) (b : n ≤ 4000000) : IntKind.i64.wrap (Int.fdiv (IntKind.u64.wrap (IntKind.i64.wrap x)) (2 ^ min (Int.toNat 1) (IntKind.bits .u64))) = ((n / 2 : Nat) : Int) := by
 rw [mT n h b]
 have a : IntKind.u64.wrap (n : Int) = (n : Int) := by
  simp only [IntKind.wrap, IntKind.signed, IntKind.bits]
  simp
  omega
 rw [a, show (2 ^ min (Int.toNat 1) (IntKind.bits .u64) : Int) = 2 from by decide, Int.fdiv_eq_ediv_of_nonneg _ (by decide), kN (by omega) (by omega)]
 omega
abbrev Ask (a0 : List Formula) (f : Formula × Formula → Option Int) (p q : Int) (b : Bool) : Prop := ∃ x y r, lj a0 p = some x ∧ lj a0 q = some y ∧ f (x, y) = some r ∧ decide (r < 0) = b
theorem QT (a0 : List Formula) (o : Int) (b : Nat → Bool) (c a : Nat) (G : a ≤ 1000000) (u : ∀ h, c ≤ h → h < a → Ask a0 f (h : Int) o (b h)) : ∀ (d n i j : Nat), j - i ≤ d → d < n → c ≤ i → i ≤ j → j ≤ a → (i = c ∨ b (i - 1) = true) → (j = a ∨ b j = false) →
  ∃ t J, c ≤ t ∧ t ≤ a ∧ (t = c ∨ b (t - 1) = true) ∧ (t = a ∨ b t = false) ∧ lb a0 o f n (i : Int) (j : Int) = lb a0 o f (J + 1) (t : Int) (t : Int) := by
 intro d
 induction d with
 | zero =>
  intro n i j h1 I g D k l m
  obtain ⟨n, rfl⟩ := aK (by omega : n ≠ 0)
  obtain rfl : i = j := by omega
  exact ⟨i, n, g, k, l, m, rfl⟩
 | succ d ih =>
  intro n i j h1 I g D k l m
  obtain ⟨n, rfl⟩ := aK (by omega : n ≠ 0)
  by_cases q : i = j
  ·subst q; exact ⟨i, n, g, k, l, m, rfl⟩
  have F := Bu (i + j) (x := (i : Int) + (j : Int)) (by omega) (by omega)
  obtain ⟨x, y, r, v, w, z, A⟩ := u ((i + j) / 2) (by omega) (by omega)
  rw [lb]
  have s : ((i : Int) < (j : Int)) := by omega
  simp only [s, cH, aW, F, v, w, z, A, aA]
  cases hp : b ((i + j) / 2)
  ·simp only [aB, aM]
   exact ih n i ((i + j) / 2) (by omega) (by omega) g (by omega) (by omega) l (.inr hp)
  ·simp only [aW]
   rw [mT ((i + j) / 2 + 1) (by omega) (by omega)]
   exact ih n ((i + j) / 2 + 1) j (by omega) (by omega) (by omega) (by omega) k (.inr (by simpa using hp)) m
theorem QH (a0 : List Formula) (a2 : Int) (b : Nat → Bool) (c a : Nat) (F : a ≤ 1000000) (s : ∀ h, c ≤ h → h < a → Ask a0 f a2 (h : Int) (!b h)) : ∀ (d n i j : Nat), j - i ≤ d → d < n → c ≤ i → i ≤ j → j ≤ a → (i = c ∨ b (i - 1) = true) → (j = a ∨ b j = false) →
  ∃ t I, c ≤ t ∧ t ≤ a ∧ (t = c ∨ b (t - 1) = true) ∧ (t = a ∨ b t = false) ∧ la a0 a2 f n (i : Int) (j : Int) = la a0 a2 f (I + 1) (t : Int) (t : Int) := by
 intro d
 induction d with
 | zero =>
  intro n i j h1 G g A k l m
  obtain ⟨n, rfl⟩ := aK (by omega : n ≠ 0)
  obtain rfl : i = j := by omega
  exact ⟨i, n, g, k, l, m, rfl⟩
 | succ d ih =>
  intro n i j h1 G g A k l m
  obtain ⟨n, rfl⟩ := aK (by omega : n ≠ 0)
  by_cases o : i = j
  ·subst o; exact ⟨i, n, g, k, l, m, rfl⟩
  have D := Bu (i + j) (x := (i : Int) + (j : Int)) (by omega) (by omega)
  obtain ⟨x, y, r, u, v, w, z⟩ := s ((i + j) / 2) (by omega) (by omega)
  rw [la]
  have q : ((i : Int) < (j : Int)) := by omega
  simp only [q, cH, aW, D, u, v, w, z, aA, fJ]
  cases hp : b ((i + j) / 2)
  ·simp only [aB, aM]
   exact ih n i ((i + j) / 2) (by omega) (by omega) g (by omega) (by omega) l (.inr hp)
  ·simp only [aW]
   rw [mT ((i + j) / 2 + 1) (by omega) (by omega)]
   exact ih n ((i + j) / 2 + 1) j (by omega) (by omega) (by omega) (by omega) k (.inr (by simpa using hp)) m
theorem Qk (x : Formula) : ∀ (P Q R : List Formula) (n : Nat) (k i : Int), P.length < n → (Q ++ x :: (P ++ R)).length ≤ 1000000 → k = (Q.length : Int) → i = ((Q.length + P.length + 1 : Nat) : Int) → lZ i n (Q ++ x :: (P ++ R)) k = some (Q ++ (P ++ x :: R))
 | [], Q, R, n, k, i, b, c, hk, a => by
  obtain ⟨n, rfl⟩ := aK (by simp at b; omega : n ≠ 0)
  simp only [aD, aO, bU] at c a
  rw [lZ, mT Q.length (by omega) (by omega)]
  have : ¬ (k < (Q.length : Int)) := by omega
  simp [this]
 | y :: P, Q, R, n, k, i, b, c, hk, a => by
  obtain ⟨n, rfl⟩ := aK (by simp at b; omega : n ≠ 0)
  simp only [aD, aO] at c a b
  have g : Q ++ x :: (y :: P ++ R) = Q ++ x :: ([] ++ y :: (P ++ R)) := rfl
  have h : IntKind.i64.wrap (k + 1) = ((Q.length + 1 + ([] : List Formula).length : Nat) : Int) := mT _ (by simp; omega) (by simp; omega)
  have i1 : lj (Q ++ x :: ([] ++ y :: (P ++ R))) ((Q.length + 1 + ([] : List Formula).length : Nat) : Int) = some y := by
   have := mD (Q ++ [x]) y (P ++ R) ((Q.length + 1 + ([] : List Formula).length : Nat) : Int) (by simp)
   simpa using this
  have i2 : lj (Q ++ x :: ([] ++ y :: (P ++ R))) k = some x := mD _ _ _ _ hk
  rw [lZ, mT (Q.length + P.length + 1) (by omega) (by omega), g]
  have d : k < ((Q.length + P.length + 1 : Nat) : Int) := by omega
  have kn : k.toNat = Q.length := by omega
  simp only [d, cH, aW, h, i1, i2, aA, kn]
  have i3 : lj ((Q ++ x :: ([] ++ y :: (P ++ R))).set Q.length y) ((Q.length + 1 + ([] : List Formula).length : Nat) : Int) = some y := by
   rw [Du]
   have := mD (Q ++ [y]) y (P ++ R) ((Q.length + 1 + ([] : List Formula).length : Nat) : Int) (by simp)
   simpa using this
  rw [i3, aA, dL, J4, Ed]
  have := Qk x P (Q ++ [y]) R n ((Q.length + 1 + ([] : List Formula).length : Nat) : Int) i (by omega) (by simp; omega) (by simp) (by rw [a]; simp; omega)
  simpa using this
theorem QX (x : Formula) : ∀ (k : Nat) (S Q R : List Formula) (n : Nat) (j i : Int), S.length = k → k < n → (Q ++ (S ++ x :: R)).length ≤ 1000000 → j = ((Q.length + S.length : Nat) : Int) → i = (Q.length : Int) → lY i n (Q ++ (S ++ x :: R)) j = some (Q ++ x :: (S ++ R)) := by
 intro k
 induction k with
 | zero =>
  intro S Q R n j i hk l g a d
  obtain ⟨n, rfl⟩ := aK (by omega : n ≠ 0)
  obtain rfl := aU hk
  rw [lY]
  simp only [bU, jh] at a
  have : ¬ (j > i) := by omega
  simp [this]
 | succ k ih =>
  intro S Q R n j i hk l g a d
  obtain ⟨n, rfl⟩ := aK (by omega : n ≠ 0)
  rcases dv S with rfl | ⟨S, z, rfl⟩
  ·simp at hk
  simp only [dU, aD, aO, bU] at hk a g ⊢
  have h : Q ++ (S ++ [z] ++ x :: R) = (Q ++ S) ++ z :: ([] ++ x :: R) := by simp
  have o : IntKind.i64.wrap (j - 1) = ((Q ++ S).length : Int) := mT _ (by simp; omega) (by simp; omega)
  have b : j = (((Q ++ S).length + 1 + ([] : List Formula).length : Nat) : Int) := by rw [a]; simp; omega
  have i1 : lj ((Q ++ S) ++ z :: ([] ++ x :: R)) j = some x := by
   have := mD (Q ++ S ++ [z]) x R j (by rw [b]; simp; omega)
   simpa using this
  have i2 : lj ((Q ++ S) ++ z :: ([] ++ x :: R)) ((Q ++ S).length : Int) = some z := mD _ _ _ _ rfl
  rw [lY, h]
  have c : j > i := by omega
  have m : j.toNat = (Q ++ S).length + 1 + ([] : List Formula).length := by omega
  simp only [c, cH, aW, o, i1, i2, aA, m]
  have i3 : lj (((Q ++ S) ++ z :: ([] ++ x :: R)).set ((Q ++ S).length + 1 + ([] : List Formula).length) z) ((Q ++ S).length : Int) = some z := by
   have : ((Q ++ S) ++ z :: ([] ++ x :: R)).set ((Q ++ S).length + 1 + ([] : List Formula).length) z = (Q ++ S) ++ z :: (z :: R) := by
    have := Hq (Q ++ S ++ [z]) R x z ((Q ++ S).length + 1 + ([] : List Formula).length) (by simp; omega)
    simpa using this
   rw [this]; exact mD _ _ _ _ rfl
  rw [i3, aA, dL, J4, Lm]
  have := ih S Q (z :: R) n ((Q ++ S).length : Int) i (by omega) (by omega) (by simp; omega) (by simp) d
  simpa using this
end
end Go.Proofs.YtmlncblocfcmiaaGreat
namespace Go.Proofs.YtmlncblocfcmiaaGreat
open Go.RowKit
section
variable {c : Formula → Formula → Int} {G : Formula → Prop} {f : Formula × Formula → Option Int}
theorem Qg (a0 : List Formula) (g a3 a2 : Int) (rec : List Formula → Int → Int → Int → ((Formula × Formula) → Option Int) → Option (List Formula)) (mid m p : Nat) (k : g + a3 = ((2 * mid : Nat) : Int) ∨ g + a3 = ((2 * mid + 1 : Nat) : Int)) (hm : a2 = (m : Int)) (hp : p + 1 = mid + m) (c : Nat → Bool) (o a : Nat) (M : a ≤ 1000000) (P : mid ≤ 1000000) (O : mid + m ≤ 2000000) (hle : a ≤ p + 1) (A : ∀ h, o ≤ h → h < a → Ask a0 f ((p - h : Nat) : Int) (h : Int) (!c h)) : ∀ (d n i j : Nat), j - i ≤ d → d < n → o ≤ i → i ≤ j → j ≤ a → (i = o ∨ c (i - 1) = true) → (j = a ∨ c j = false) →
  ∃ t R, o ≤ t ∧ t ≤ a ∧ (t = o ∨ c (t - 1) = true) ∧ (t = a ∨ c t = false) ∧ kK a0 g a3 a2 f rec n (i : Int) (j : Int) = kK a0 g a3 a2 f rec (R + 1) (t : Int) (t : Int) := by
 have b : IntKind.i64.wrap (Int.fdiv (IntKind.u64.wrap (IntKind.i64.wrap (g + a3))) (2 ^ min (Int.toNat 1) (IntKind.bits .u64))) = (mid : Int) := by
  rcases k with h | h
  ·rw [Bu _ h (by omega), show 2 * mid / 2 = mid by omega]
  ·rw [Bu _ h (by omega), show (2 * mid + 1) / 2 = mid by omega]
 intro d
 induction d with
 | zero =>
  intro n i j h1 Q q J s u v
  obtain ⟨n, rfl⟩ := aK (by omega : n ≠ 0)
  obtain rfl : i = j := by omega
  exact ⟨i, n, q, s, u, v, rfl⟩
 | succ d ih =>
  intro n i j h1 Q q J s u v
  obtain ⟨n, rfl⟩ := aK (by omega : n ≠ 0)
  by_cases w : i = j
  ·subst w; exact ⟨i, n, q, s, u, v, rfl⟩
  have L := Bu (i + j) (x := (i : Int) + (j : Int)) (by omega) (by omega)
  obtain ⟨x, y, r, D, F, G, I⟩ := A ((i + j) / 2) (by omega) (by omega)
  have T : IntKind.i64.wrap ((mid : Int) + a2) = ((mid + m : Nat) : Int) := mT _ (by omega) (by omega)
  have U : IntKind.i64.wrap (((mid + m : Nat) : Int) - 1) = (p : Int) := mT _ (by omega) (by omega)
  have W : IntKind.i64.wrap ((p : Int) - (((i + j) / 2 : Nat) : Int)) = ((p - (i + j) / 2 : Nat) : Int) := mT _ (by omega) (by omega)
  rw [kK]
  have z : ((i : Int) < (j : Int)) := by omega
  simp only [z, cH, aW, L, b, T, U, W, D, F, G, I, aA, fJ]
  cases l : c ((i + j) / 2)
  ·simp only [aB, aM]
   exact ih n i ((i + j) / 2) (by omega) (by omega) q (by omega) (by omega) u (.inr l)
  ·simp only [aW]
   rw [mT ((i + j) / 2 + 1) (by omega) (by omega)]
   exact ih n ((i + j) / 2 + 1) j (by omega) (by omega) (by omega) (by omega) s (.inr (by simpa using l)) v
theorem O0 (a0 : List Formula) (b a3 a2 : Int) (rec : List Formula → Int → Int → Int → ((Formula × Formula) → Option Int) → Option (List Formula)) (mid m t n : Nat) (c : b + a3 = ((2 * mid : Nat) : Int) ∨ b + a3 = ((2 * mid + 1 : Nat) : Int)) (hm : a2 = (m : Int)) (o : mid ≤ 1000000) (k : mid + m ≤ 2000000) (v : t ≤ mid + m) :
  kK a0 b a3 a2 f rec (n + 1) (t : Int) (t : Int) =
   ((if t < m ∧ m < mid + m - t then mx a0 (t : Int) a2 ((mid + m - t : Nat) : Int) f else some a0).bind fun l => ((if b < (t : Int) ∧ t < mid then rec l b (t : Int) (mid : Int) f else some l).bind fun l => if mid < mid + m - t ∧ ((mid + m - t : Nat) : Int) < a3 then rec l (mid : Int) ((mid + m - t : Nat) : Int) a3 f else some l)) := by
 have a : IntKind.i64.wrap (Int.fdiv (IntKind.u64.wrap (IntKind.i64.wrap (b + a3))) (2 ^ min (Int.toNat 1) (IntKind.bits .u64))) = (mid : Int) := by
  rcases c with h | h
  ·rw [Bu _ h (by omega), show 2 * mid / 2 = mid by omega]
  ·rw [Bu _ h (by omega), show (2 * mid + 1) / 2 = mid by omega]
 have s : IntKind.i64.wrap ((mid : Int) + a2) = ((mid + m : Nat) : Int) := mT _ (by omega) (by omega)
 have u : IntKind.i64.wrap (((mid + m : Nat) : Int) - (t : Int)) = ((mid + m - t : Nat) : Int) := mT _ (by omega) (by omega)
 rw [kK]
 simp only [Int.lt_irrefl, cK, aB, aM, a, s, u, og]
 subst hm
 have d : ((t : Int) < (m : Int)) = (t < m) := by simp
 have g : ((m : Int) < ((mid + m - t : Nat) : Int)) = (m < mid + m - t) := by rw [fU]; omega
 have i : ((t : Int) < (mid : Int)) = (t < mid) := by simp
 have j : ((mid : Int) < ((mid + m - t : Nat) : Int)) = (mid < mid + m - t) := by rw [fU]; omega
 simp only [d, g, i, j]
 have key : ∀ (p q : Prop) [Decidable p] [Decidable q] (A B : Option (List Formula)), ((if decide p = true then some (decide q) else some false : Option Bool).bind fun x => if x = true then A else B) = if p ∧ q then A else B := by
  intro p q _ _ A B
  by_cases hp : p <;> by_cases r : q <;> simp [hp, r]
 simp only [key]
theorem Kf (p A q : List Formula) (h : Nat) (b : p.length ≤ h) (h1 : h < p.length + A.length) : ∃ x, A[h - p.length]? = some x ∧ lj (p ++ (A ++ q)) (h : Int) = some x := by
 obtain ⟨x, a⟩ : ∃ x, A[h - p.length]? = some x := ⟨_, cW (by omega)⟩
 refine ⟨x, a, ?_⟩
 rw [DC, eK b, fL (by omega), a]
end
end Go.Proofs.YtmlncblocfcmiaaGreat
namespace Go.Proofs.YtmlncblocfcmiaaGreat
open Go.RowKit
section
variable {c : Formula → Formula → Int} {G : Formula → Prop} {f : Formula × Formula → Option Int}
theorem BH {α : Type} {P A' : List α} {z : α} (S : List α) (h : P = A' ++ [z]) : (P ++ S)[P.length - 1]? = some z := by subst h; simp
theorem Bq {α : Type} {S B' : List α} {z : α} (P : List α) (h : S = z :: B') : (P ++ S)[P.length]? = some z := by subst h; simp
theorem wW {A : List (Formula × Nat)} {i : Nat} {z : Formula × Nat} (h : A[i]? = some z) : (A.map (·.1))[i]? = some z.1 := by simp [h]
theorem PP (h : SWO (nB c)) (R : Bl f c G) (x : Formula × Nat) (B : List (Formula × Nat)) (pre post : List Formula) (a m b : Int) (J : nK (nB c) B) (W : ∀ y ∈ B, x.2 < y.2) (w : ∀ y ∈ x :: B, G y.1) (T : (pre ++ x.1 :: (B.map (·.1) ++ post)).length ≤ 400000) (ha : a = (pre.length : Int)) (hm : m = ((pre.length + 1 : Nat) : Int)) (Q : b = ((pre.length + 1 + B.length : Nat) : Int)) :
  ∃ u, lb (pre ++ x.1 :: (B.map (·.1) ++ post)) a f kC m b = some (pre ++ (u.map (·.1) ++ post)) ∧ nK (nB c) u ∧ u.Perm (x :: B) := by
 have r := T
 simp only [aD, aO, cU] at r
 let g : Nat → Bool := fun k => match (B.map (·.1))[k - (pre.length + 1)]? with | some y => nB c y x.1 | none => false
 have j : ∀ k, pre.length + 1 ≤ k → k < pre.length + 1 + B.length → Ask (pre ++ x.1 :: (B.map (·.1) ++ post)) f (k : Int) a (g k) := by
  intro k h1 h2
  obtain ⟨y, s, A⟩ := Kf (pre ++ [x.1]) (B.map (·.1)) post k (by simp; omega) (by simp; omega)
  have D : lj (pre ++ x.1 :: (B.map (·.1) ++ post)) (k : Int) = some y := by simpa using A
  have F : lj (pre ++ x.1 :: (B.map (·.1) ++ post)) a = some x.1 := mD _ _ _ _ ha
  have Y : G y := by
   obtain ⟨q, U, rfl⟩ := bB.1 (dt s)
   exact w q (by simp [U])
  refine ⟨y, x.1, _, D, F, R y x.1 Y (w x (by simp)), ?_⟩
  simp only [aD, aO, bU] at s
  simp only [g, s]
 obtain ⟨t, n', t1, t2, t3, t4, e⟩ := QT (f := f) _ a g (pre.length + 1) (pre.length + 1 + B.length) (by omega) j B.length kC (pre.length + 1) (pre.length + 1 + B.length) (by omega) (by rw [mU]; omega) (aV _) (by omega) (aV _) (.inl rfl) (.inl rfl)
 rw [hm, Q, e, lb]
 simp only [Int.lt_irrefl, cK, aB, aM, og]
 obtain ⟨P, S, rfl, L⟩ := vh (l := B) (n := t - (pre.length + 1)) (by omega)
 simp only [aD] at r t2 t4
 have I : pre ++ x.1 :: ((P ++ S).map (·.1) ++ post) = pre ++ x.1 :: (P.map (·.1) ++ (S.map (·.1) ++ post)) := by simp
 rw [I, Qk x.1 (P.map (·.1)) pre (S.map (·.1) ++ post) kC a (t : Int) (by rw [mU]; simp; omega) (by simp; omega) ha (by simp; omega)]
 refine ⟨P ++ x :: S, by simp, FH h J ?_ ?_, eJ⟩
 ·intro A' z v B' i d
  simp only [bE] at d
  rw [← d.1]
  have M : 0 < P.length := by rw [i]; simp
  have hp : g (t - 1) = true := by
   rcases t3 with t3 | t3
   ·omega
   ·exact t3
  have o := wW (BH S i)
  rw [show P.length - 1 = t - 1 - (pre.length + 1) by omega] at o
  simp only [g, o] at hp
  exact .inl hp
 ·intro A' z v B' i d
  have Z : z = x := by
   cases A' with
   | nil => simpa using i.symm
   | cons _ A' => simp at i
  rw [Z]
  have O : 0 < S.length := by rw [d]; simp
  have hp : g t = false := by
   rcases t4 with t4 | t4
   ·omega
   ·exact t4
  have o := wW (Bq P d)
  rw [L] at o
  simp only [g, o] at hp
  exact .inr ⟨hp, W v (by rw [d]; simp)⟩
theorem P9 (h : SWO (nB c)) (O : Bl f c G) (y : Formula × Nat) (A : List (Formula × Nat)) (pre post : List Formula) (a m : Int) (I : nK (nB c) A) (T : ∀ x ∈ A, x.2 < y.2) (s : ∀ x ∈ y :: A, G x.1) (Q : (pre ++ (A.map (·.1) ++ y.1 :: post)).length ≤ 400000) (ha : a = (pre.length : Int)) (hm : m = ((pre.length + A.length : Nat) : Int)) :
  ∃ u, la (pre ++ (A.map (·.1) ++ y.1 :: post)) m f kC a m = some (pre ++ (u.map (·.1) ++ post)) ∧ nK (nB c) u ∧ u.Perm (A ++ [y]) := by
 have o := Q
 simp only [aD, aO, cU] at o
 let g : Nat → Bool := fun k => match (A.map (·.1))[k - pre.length]? with | some x => !nB c y.1 x | none => false
 have i : ∀ k, pre.length ≤ k → k < pre.length + A.length → Ask (pre ++ (A.map (·.1) ++ y.1 :: post)) f m (k : Int) (!g k) := by
  intro k h1 Y
  obtain ⟨x, r, w⟩ := Kf pre (A.map (·.1)) (y.1 :: post) k h1 (by simp; omega)
  have D : lj (pre ++ (A.map (·.1) ++ y.1 :: post)) m = some y.1 := by
   have := mD (pre ++ A.map (·.1)) y.1 post m (by rw [hm]; simp)
   simpa using this
  have U : G x := by
   obtain ⟨q, R, rfl⟩ := bB.1 (dt r)
   exact s q (by simp [R])
  refine ⟨y.1, x, _, D, w, O y.1 x (s y (by simp)) U, ?_⟩
  simp only [g, r, fJ]
 obtain ⟨t, Z, t1, t2, t3, t4, e⟩ := QH (f := f) _ m g pre.length (pre.length + A.length) (by omega) i A.length kC pre.length (pre.length + A.length) (by omega) (by rw [mU]; omega) (aV _) (by omega) (aV _) (.inl rfl) (.inl rfl)
 rw [← hm, ← ha] at e
 rw [e, la]
 simp only [Int.lt_irrefl, cK, aB, aM, og]
 obtain ⟨P, S, rfl, J⟩ := vh (l := A) (n := t - pre.length) (by omega)
 simp only [aD] at o t2 t4 hm
 have F : pre ++ ((P ++ S).map (·.1) ++ y.1 :: post) = (pre ++ P.map (·.1)) ++ (S.map (·.1) ++ y.1 :: post) := by simp
 rw [F, QX y.1 S.length (S.map (·.1)) (pre ++ P.map (·.1)) post kC m (t : Int) (by simp) (by rw [mU]; omega) (by simp; omega) (by rw [hm]; simp; omega) (by simp; omega)]
 refine ⟨P ++ y :: S, by simp, FH h I ?_ ?_, List.perm_middle.trans (fD y (P ++ S)).symm⟩
 ·intro A' z v B' b d
  simp only [bE] at d
  rw [← d.1]
  have L : 0 < P.length := by rw [b]; simp
  have hp : g (t - 1) = true := by
   rcases t3 with t3 | t3
   ·omega
   ·exact t3
  have j := wW (BH S b)
  rw [show P.length - 1 = t - 1 - pre.length by omega] at j
  simp only [g, j, eZ] at hp
  exact .inr ⟨hp, T z (by rw [b]; simp)⟩
 ·intro A' z v B' b d
  have W : z = y := by
   cases A' with
   | nil => simpa using b.symm
   | cons _ A' => simp at b
  rw [W]
  have M : 0 < S.length := by rw [d]; simp
  have hp : g t = false := by
   rcases t4 with t4 | t4
   ·omega
   ·exact t4
  have j := wW (Bq P d)
  rw [J] at j
  simp only [g, j, Bool.not_eq_false'] at hp
  exact .inl hp
theorem L6 {α : Type} {A1 A2 B1 B2 C1 C2 : List α} (a : C1.Perm (A1 ++ B1)) (b : C2.Perm (A2 ++ B2)) : (C1 ++ C2).Perm ((A1 ++ A2) ++ (B1 ++ B2)) := by
 refine (a.append b).trans ?_
 simp only [aN]
 refine bX A1 ?_
 exact fA B1 A2 B2
def Na (c : Formula → Formula → Int) (A B : List Formula) (a b p q : Nat) : Bool := match A[q - a]?, B[p - q - b]? with | some x, some y => !nB c y x | _, _ => false
theorem HJ {A B : List Formula} {a b p q : Nat} {x y : Formula} (h1 : A[q - a]? = some x) (d : B[p - q - b]? = some y) : Na c A B a b p q = !nB c y x := by simp only [Na, h1, d]
theorem Qs (l : Bl f c G) (A B : List (Formula × Nat)) (pre post : List Formula) (a p : Nat) (m : a = pre.length + A.length) (h : ∀ x ∈ A ++ B, G x.1) (q : Nat) (r : pre.length ≤ q) (s : q < a) (t : a ≤ p - q) (u : p - q < a + B.length) :
  Ask (pre ++ (A.map (·.1) ++ (B.map (·.1) ++ post))) f ((p - q : Nat) : Int) (q : Int) (!Na c (A.map (·.1)) (B.map (·.1)) pre.length a p q) := by
 obtain ⟨x, g, i⟩ := Kf pre (A.map (·.1)) (B.map (·.1) ++ post) q r (by simp; omega)
 obtain ⟨y, b, j⟩ := Kf (pre ++ A.map (·.1)) (B.map (·.1)) post (p - q) (by simp; omega) (by simp; omega)
 have n : G x := by
  obtain ⟨z, d, rfl⟩ := bB.1 (dt g)
  exact h z (by simp [d])
 have o : G y := by
  obtain ⟨z, d, rfl⟩ := bB.1 (dt b)
  exact h z (by simp [d])
 have k : lj (pre ++ (A.map (·.1) ++ (B.map (·.1) ++ post))) ((p - q : Nat) : Int) = some y := by simpa using j
 refine ⟨y, x, _, k, i, l y x o n, ?_⟩
 rw [show p - q - (pre ++ A.map (·.1)).length = p - q - a by simp; omega] at b
 rw [HJ g b, fJ]
abbrev QU (c : Formula → Formula → Int) (G : Formula → Prop) (f : Formula × Formula → Option Int) (rec : List Formula → Int → Int → Int → ((Formula × Formula) → Option Int) → Option (List Formula)) (k : Nat) : Prop :=
 ∀ (A B : List (Formula × Nat)) (pre post : List Formula) (a m b : Int), A.length + B.length ≤ k → 0 < A.length → 0 < B.length → nK (nB c) A → nK (nB c) B →
  (∀ x ∈ A, ∀ y ∈ B, x.2 < y.2) → (∀ x ∈ A ++ B, G x.1) → (pre ++ (A.map (·.1) ++ (B.map (·.1) ++ post))).length ≤ 400000 → a = (pre.length : Int) → m = ((pre.length + A.length : Nat) : Int) → b = ((pre.length + A.length + B.length : Nat) : Int) →
  ∃ u, rec (pre ++ (A.map (·.1) ++ (B.map (·.1) ++ post))) a m b f = some (pre ++ (u.map (·.1) ++ post)) ∧ nK (nB c) u ∧ u.Perm (A ++ B)
theorem OV (h : SWO (nB c)) {rec : List Formula → Int → Int → Int → ((Formula × Formula) → Option Int) → Option (List Formula)} {k : Nat} (ih : QU c G f rec k) (A1 A2 B1 B2 : List (Formula × Nat)) (pre post : List Formula) (a m b : Int) (mid d t : Nat) (O : d = pre.length + (A1.length + A2.length)) (Q : mid = (pre.length + (d + (B1.length + B2.length))) / 2) (L : A1.length = t - pre.length) (M : B1.length = mid - t) (R : pre.length ≤ t) (T : t ≤ mid) (U : t ≤ d) (hk : A1.length + A2.length + (B1.length + B2.length) ≤ k + 1) (P : 2 ≤ A1.length + A2.length + (B1.length + B2.length)) (o : nK (nB c) (A1 ++ A2)) (q : nK (nB c) (B1 ++ B2)) (J : ∀ x ∈ A1 ++ A2, ∀ y ∈ B1 ++ B2, x.2 < y.2) (I : ∀ x ∈ (A1 ++ A2) ++ (B1 ++ B2), G x.1) (hl : pre.length + (A1.length + A2.length + (B1.length + B2.length + post.length)) ≤ 400000) (ha : a = (pre.length : Int)) (hm : m = (d : Int)) (hb : b = ((d + (B1.length + B2.length) : Nat) : Int)) (W : Lk (nB c) A1 B2) (Y : Lk (nB c) B1 A2) :
  ∃ u, ((if t < d ∧ d < mid + d - t then mx (pre ++ ((A1 ++ A2).map (·.1) ++ ((B1 ++ B2).map (·.1) ++ post))) (t : Int) m ((mid + d - t : Nat) : Int) f else some (pre ++ ((A1 ++ A2).map (·.1) ++ ((B1 ++ B2).map (·.1) ++ post)))).bind fun l =>
   ((if a < (t : Int) ∧ t < mid then rec l a (t : Int) (mid : Int) f else some l).bind fun l => if mid < mid + d - t ∧ ((mid + d - t : Nat) : Int) < b then rec l (mid : Int) ((mid + d - t : Nat) : Int) b f else some l)) = some (pre ++ (u.map (·.1) ++ post)) ∧ nK (nB c) u ∧ u.Perm ((A1 ++ A2) ++ (B1 ++ B2)) := by
 have Z : (if t < d ∧ d < mid + d - t then mx (pre ++ ((A1 ++ A2).map (·.1) ++ ((B1 ++ B2).map (·.1) ++ post))) (t : Int) m ((mid + d - t : Nat) : Int) f else some (pre ++ ((A1 ++ A2).map (·.1) ++ ((B1 ++ B2).map (·.1) ++ post)))) =
   some (pre ++ (A1.map (·.1) ++ (B1.map (·.1) ++ (A2.map (·.1) ++ (B2.map (·.1) ++ post))))) := by
  by_cases i : t < d ∧ d < mid + d - t
  ·rw [aZ i]
   have := QP (f := f) (A2.map (·.1)) (B1.map (·.1)) (pre ++ A1.map (·.1)) (B2.map (·.1) ++ post) (t : Int) m ((mid + d - t : Nat) : Int) (by simp; omega) (by simp; omega) (by simp; omega) (by simp; omega) (by simp; omega) (by simp; omega)
   simpa using this
  ·rw [aY i]
   have : A2 = [] ∨ B1 = [] := by
    by_cases h1 : A2.length = 0
    ·exact .inl (aU h1)
    ·exact .inr (aU (by omega))
   rcases this with rfl | rfl <;> simp
 rw [Z, aA]
 have r2 : ∃ C1, (if a < (t : Int) ∧ t < mid then rec (pre ++ (A1.map (·.1) ++ (B1.map (·.1) ++ (A2.map (·.1) ++ (B2.map (·.1) ++ post))))) a (t : Int) (mid : Int) f else some (pre ++ (A1.map (·.1) ++ (B1.map (·.1) ++ (A2.map (·.1) ++ (B2.map (·.1) ++ post)))))) =
   some (pre ++ (C1.map (·.1) ++ (A2.map (·.1) ++ (B2.map (·.1) ++ post)))) ∧ nK (nB c) C1 ∧ C1.Perm (A1 ++ B1) := by
  by_cases i : a < (t : Int) ∧ t < mid
  ·rw [aZ i]
   exact ih A1 B1 pre (A2.map (·.1) ++ (B2.map (·.1) ++ post)) a t mid (by omega) (by omega) (by omega) o.left q.left (fun x g y A => J x (by simp [g]) y (by simp [A])) (fun x g => I x (by simp at g ⊢; rcases g with g | g <;> simp [g]))
    (by simp; omega) ha (by omega) (by omega)
  ·rw [aY i]
   refine ⟨A1 ++ B1, by simp, HY h o.left q.left (fun A' x y B' D F => ?_), .refl _⟩
   have g1 : 0 < A1.length := by rw [D]; simp
   have g2 : 0 < B1.length := by rw [F]; simp
   omega
 obtain ⟨C1, r, v, j⟩ := r2
 have s := j.length_eq
 simp only [aD] at s
 rw [r, aA]
 have r3 : ∃ C2, (if mid < mid + d - t ∧ ((mid + d - t : Nat) : Int) < b then rec (pre ++ (C1.map (·.1) ++ (A2.map (·.1) ++ (B2.map (·.1) ++ post)))) (mid : Int) ((mid + d - t : Nat) : Int) b f else some (pre ++ (C1.map (·.1) ++ (A2.map (·.1) ++ (B2.map (·.1) ++ post))))) =
   some ((pre ++ C1.map (·.1)) ++ (C2.map (·.1) ++ post)) ∧ nK (nB c) C2 ∧ C2.Perm (A2 ++ B2) := by
  by_cases i : mid < mid + d - t ∧ ((mid + d - t : Nat) : Int) < b
  ·rw [aZ i]
   have := ih A2 B2 (pre ++ C1.map (·.1)) post mid ((mid + d - t : Nat) : Int) b (by omega) (by omega) (by omega) o.right q.right (fun x g y A => J x (by simp [g]) y (by simp [A])) (fun x g => I x (by simp at g ⊢; rcases g with g | g <;> simp [g]))
    (by simp; omega) (by simp; omega) (by simp; omega) (by simp; omega)
   simpa using this
  ·rw [aY i]
   refine ⟨A2 ++ B2, by simp, HY h o.right q.right (fun A' x y B' D F => ?_), .refl _⟩
   have g1 : 0 < A2.length := by rw [D]; simp
   have g2 : 0 < B2.length := by rw [F]; simp
   omega
 obtain ⟨C2, w, z, n⟩ := r3
 rw [w]
 exact ⟨C1 ++ C2, by simp, Ny h o q W Y j n v z, L6 j n⟩
theorem MR (F : Nat) (G : 1000000 < F) (L : List Formula) (rec : List Formula → Int → Int → Int → ((Formula × Formula) → Option Int) → Option (List Formula)) (pl al g mid c p : Nat) (a b m : Int) (n : Nat → Bool) (u : 0 < al) (v : 0 < g) (z : pl + (al + g) ≤ 400000) (y : mid = (pl + (pl + al + g)) / 2) (w : c = pl + al) (hp : p + 1 = mid + c) (k : a + b = ((2 * mid : Nat) : Int) ∨ a + b = ((2 * mid + 1 : Nat) : Int)) (ha : a = (pl : Int)) (j : m = (c : Int)) (I : b = ((pl + al + g : Nat) : Int)) (h : ∀ q, pl ≤ q → q < c → c ≤ p - q → p - q < c + g → Ask L f ((p - q : Nat) : Int) (q : Int) (!n q)) :
  ∃ t l d o : Nat, (d = pl ∧ o = c ∧ c ≤ mid ∨ d + (pl + al + g) = mid + c ∧ o = mid ∧ mid < c) ∧ d ≤ t ∧ t ≤ o ∧ (t = d ∨ n (t - 1) = true) ∧ (t = o ∨ n t = false) ∧
    ((if decide (m > (mid : Int)) then some (IntKind.i64.wrap (((mid + c : Nat) : Int) - b), (mid : Int)) else some (a, m) : Option (Int × Int)).bind fun x => kK L a b m f rec F x.1 x.2) =
     kK L a b m f rec (l + 1) (t : Int) (t : Int) := by
 by_cases s : mid < c
 ·obtain ⟨d, r⟩ : ∃ d : Nat, d + (pl + al + g) = mid + c := ⟨mid + c - (pl + al + g), by omega⟩
  obtain ⟨t, l, t1, t2, t3, t4, e⟩ := Qg (f := f) L a b m rec mid c p k j hp n d mid (by omega) (by omega) (by omega) (by omega) (fun q A D => h q (by omega) (by omega) (by omega) (by omega))
   (mid - d) F d mid (aV _) (by omega) (aV _) (by omega) (aV _) (.inl rfl) (.inl rfl)
  refine ⟨t, l, d, mid, .inr ⟨r, rfl, s⟩, t1, t2, t3, t4, ?_⟩
  have i : m > (mid : Int) := by omega
  simp only [i, cH, aW, aA]
  rw [mT d (by omega) (by omega), e]
 ·obtain ⟨t, l, t1, t2, t3, t4, e⟩ := Qg (f := f) L a b m rec mid c p k j hp n pl c (by omega) (by omega) (by omega) (by omega) (fun q A D => h q (by omega) (by omega) (by omega) (by omega))
   (c - pl) F pl c (aV _) (by omega) (aV _) (by omega) (aV _) (.inl rfl) (.inl rfl)
  refine ⟨t, l, pl, c, .inl ⟨rfl, rfl, by omega⟩, t1, t2, t3, t4, ?_⟩
  have i : ¬ (m > (mid : Int)) := by omega
  simp only [i, cK, aB, aM, aA]
  rw [← e, ← ha, ← j]
set_option maxHeartbeats 2000000 in
theorem Qy (h : SWO (nB c)) (hf : Bl f c G) : ∀ (k : Nat) (A B : List (Formula × Nat)) (pre post : List Formula) (n : Nat) (a m b : Int), A.length + B.length ≤ k → 0 < A.length → 0 < B.length → k < n → nK (nB c) A → nK (nB c) B →
  (∀ x ∈ A, ∀ y ∈ B, x.2 < y.2) → (∀ x ∈ A ++ B, G x.1) → (pre ++ (A.map (·.1) ++ (B.map (·.1) ++ post))).length ≤ 400000 → a = (pre.length : Int) → m = ((pre.length + A.length : Nat) : Int) → b = ((pre.length + A.length + B.length : Nat) : Int) →
  ∃ u, lx n (pre ++ (A.map (·.1) ++ (B.map (·.1) ++ post))) a m b f = some (pre ++ (u.map (·.1) ++ post)) ∧ nK (nB c) u ∧ u.Perm (A ++ B) := by
 intro k
 induction k with
 | zero => intro A B pre post n a m b h0 h1 h2; omega
 | succ k ih =>
  intro A B pre post n a m b h0 h1 h2 hn hA hB U T hl ha hm O
  obtain ⟨n, rfl⟩ := aK (by omega : n ≠ 0)
  have P := hl
  simp only [aD, cU] at P
  rw [lx]
  unfold oB
  by_cases c1 : A.length = 1
  ·obtain ⟨x, rfl⟩ := List.length_eq_one_iff.1 c1
   have : (IntKind.i64.wrap (m - a) == 1) = true := by rw [mT 1 (by simp at hm; omega) (by omega)]; rfl
   simp only [this, aW]
   obtain ⟨u, u1, u2, u3⟩ := PP h hf x B pre post a m b hB (fun y hy => U x (by simp) y hy) (fun y hy => T y (by simpa using hy)) (by simpa using hl) ha (by simpa using hm) (by simpa using O)
   exact ⟨u, by simpa using u1, u2, by simpa using u3⟩
  have n1 : (IntKind.i64.wrap (m - a) == 1) = false := by rw [mT A.length (by omega) (by omega)]; simp; omega
  simp only [n1, aB, aM]
  by_cases c2 : B.length = 1
  ·obtain ⟨y, rfl⟩ := List.length_eq_one_iff.1 c2
   have : (IntKind.i64.wrap (b - m) == 1) = true := by rw [mT 1 (by simp at O; omega) (by omega)]; rfl
   simp only [this, aW]
   obtain ⟨u, u1, u2, u3⟩ := P9 h hf y A pre post a m hA (fun x W => U x W y (by simp)) (fun x W => T x (by simp at W ⊢; exact W.symm)) (by simpa using hl) ha hm
   exact ⟨u, by simpa using u1, u2, u3⟩
  have n2 : (IntKind.i64.wrap (b - m) == 1) = false := by rw [mT B.length (by omega) (by omega)]; simp; omega
  simp only [n2, aB, aM]
  obtain ⟨F, hF, Z⟩ : ∃ F, F = kC ∧ 1000000 < F := ⟨kC, rfl, by rw [mU]; omega⟩
  rw [← hF]
  obtain ⟨mid, D⟩ : ∃ mid : Nat, mid = (pre.length + (pre.length + A.length + B.length)) / 2 := ⟨_, rfl⟩
  obtain ⟨d, j⟩ : ∃ d : Nat, d = pre.length + A.length := ⟨_, rfl⟩
  obtain ⟨p, hp⟩ : ∃ p : Nat, p + 1 = mid + d := ⟨mid + d - 1, by omega⟩
  have v : a + b = ((2 * mid : Nat) : Int) ∨ a + b = ((2 * mid + 1 : Nat) : Int) := by omega
  have I : IntKind.i64.wrap (Int.fdiv (IntKind.u64.wrap (IntKind.i64.wrap (a + b))) (2 ^ min (Int.toNat 1) (IntKind.bits .u64))) = (mid : Int) := by
   rcases v with h | h
   ·rw [Bu _ h (by omega), show 2 * mid / 2 = mid by omega]
   ·rw [Bu _ h (by omega), show (2 * mid + 1) / 2 = mid by omega]
  have w : m = (d : Int) := by omega
  have w1 : IntKind.i64.wrap ((mid : Int) + m) = ((mid + d : Nat) : Int) := mT _ (by omega) (by omega)
  obtain ⟨J, o⟩ : ∃ J : Nat → Bool, J = Na c (A.map (·.1)) (B.map (·.1)) pre.length d p := ⟨_, rfl⟩
  have M : ∀ q, pre.length ≤ q → q < d → d ≤ p - q → p - q < d + B.length → Ask (pre ++ (A.map (·.1) ++ (B.map (·.1) ++ post))) f ((p - q : Nat) : Int) (q : Int) (!J q) := fun q g i q3 q4 => by rw [o]; exact Qs hf A B pre post d p j T q g i q3 q4
  obtain ⟨t, n', lo, hi, a1, t1, t2, t3, t4, e⟩ := MR (f := f) F Z (pre ++ (A.map (·.1) ++ (B.map (·.1) ++ post))) (lx n) pre.length A.length B.length mid d p a b m J (by omega) (by omega) (by omega) D j hp v ha w O M
  simp only [I, w1]
  rw [e, O0 (f := f) _ a b m _ mid d t n' v w (by omega) (by omega) (by omega)]
  obtain ⟨A1, A2, rfl, L⟩ := vh (l := A) (n := t - pre.length) (by omega)
  obtain ⟨B1, B2, rfl, Y⟩ := vh (l := B) (n := mid - t) (by omega)
  simp only [aD] at h0 h1 h2 P t1 t2 t3 t4 a1 hm O j D
  have Q : ∀ q x y, ((A1 ++ A2).map (·.1))[q - pre.length]? = some x → ((B1 ++ B2).map (·.1))[p - q - d]? = some y → J q = !nB c y x := fun q x y r s => by rw [o]; exact HJ r s
  have l1 : Lk (nB c) A1 B2 := by
   intro A' z b' B' g i
   have g1 : 0 < A1.length := by rw [g]; simp
   have g2 : 0 < B2.length := by rw [i]; simp
   have R : J (t - 1) = true := by
    rcases t3 with t3 | t3
    ·omega
    ·exact t3
   have r := wW (BH A2 g)
   have s := wW (Bq B1 i)
   rw [show A1.length - 1 = t - 1 - pre.length by omega] at r
   rw [show B1.length = p - (t - 1) - d by omega] at s
   rw [Q _ _ _ r s, eZ] at R
   exact .inr ⟨R, U z (by rw [g]; simp) b' (by rw [i]; simp)⟩
  have l2 : Lk (nB c) B1 A2 := by
   intro A' z b' B' g i
   have g1 : 0 < B1.length := by rw [g]; simp
   have g2 : 0 < A2.length := by rw [i]; simp
   have R : J t = false := by
    rcases t4 with t4 | t4
    ·omega
    ·exact t4
   have r := wW (BH B2 g)
   have s := wW (Bq A1 i)
   rw [show B1.length - 1 = p - t - d by omega] at r
   rw [L] at s
   rw [Q _ _ _ s r, Bool.not_eq_false'] at R
   exact .inl R
  exact OV h (fun A B pre post a m b g i q3 => ih A B pre post n a m b g i q3 (by omega)) A1 A2 B1 B2 pre post a m b mid d t j (by rw [D]; congr 1; omega) L Y (by omega) (by omega) (by omega) (by omega) (by omega) hA hB U T (by omega) ha w (by rw [O]; congr 1; omega) l1 l2
end
end Go.Proofs.YtmlncblocfcmiaaGreat
namespace Go.Proofs.YtmlncblocfcmiaaGreat
open Go.RowKit
section
variable {c : Formula → Formula → Int} {G : Formula → Prop} {f : Formula × Formula → Option Int}
def vQ (c : Formula → Formula → Int) : Nat → List (List (Formula × Nat)) → Prop
 | _, [] => True
 | o, A :: bs => nK (nB c) A ∧ (∀ x ∈ A, o ≤ x.2 ∧ x.2 < o + A.length) ∧ vQ c (o + A.length) bs
def WB (s : Nat) : List (List (Formula × Nat)) → Prop
 | [] => True
 | A :: bs => A.length ≤ s ∧ (bs ≠ [] → A.length = s) ∧ WB s bs
theorem vQ.append : ∀ {ds bs : List (List (Formula × Nat))} {o : Nat}, vQ c o (ds ++ bs) ↔ vQ c o ds ∧ vQ c (o + ds.flatten.length) bs
 | [], bs, o => by simp [vQ]
 | A :: ds, bs, o => by
  simp only [cA, vQ, vQ.append (ds := ds), bK, aD, and_assoc, ep]
def fm (bs : List (List (Formula × Nat))) : List Formula := bs.flatten.map (·.1)
theorem Gh (a b : List (List (Formula × Nat))) : fm (a ++ b) = fm a ++ fm b := by simp [fm]
theorem IN (A : List (Formula × Nat)) (b : List (List (Formula × Nat))) : fm (A :: b) = A.map (·.1) ++ fm b := by simp [fm]
theorem qt (a : List (List (Formula × Nat))) : (fm a).length = a.flatten.length := by unfold fm; rw [cU]
theorem Lt (ds : List (List (Formula × Nat))) (C : List (Formula × Nat)) : (ds ++ [C]).flatten.length = ds.flatten.length + C.length := by rw [cQ, aD]; simp only [bK, dp, bP]
theorem Px (C : List (Formula × Nat)) (bs : List (List (Formula × Nat))) : fm ([C] ++ bs) = C.map (·.1) ++ fm bs := by simp [fm]
theorem Dw {R : List Formula} {o : Nat} {x : Formula × Nat} (h : x ∈ R.zipIdx o) : x.1 ∈ R := List.fst_mem_of_mem_zipIdx h
theorem WB.two {s : Nat} {A : List (Formula × Nat)} {bs : List (List (Formula × Nat))} (d : 0 < s) (h : WB s (A :: bs)) (c : s < (A :: bs).flatten.length) : A.length = s ∧ ∃ B a, bs = B :: a ∧ (B.length = s ∨ a = []) ∧ B.length ≤ s ∧ WB s a := by
 cases bs with
 | nil => simp at c; have := h.1; omega
 | cons B a =>
  refine ⟨h.2.1 (by simp), B, a, rfl, ?_, h.2.2.1, h.2.2.2.2⟩
  by_cases b : a = []
  ·exact .inr b
  ·exact .inl (h.2.2.2.1 b)
theorem G6 (h : SWO (nB c)) (u : Bl f c G) {ds bs : List (List (Formula × Nat))} {A B : List (Formula × Nat)} (hO : vQ c 0 (ds ++ A :: B :: bs)) (s : ∀ x ∈ (ds ++ A :: B :: bs).flatten, G x.1) (i : (fm (ds ++ A :: B :: bs)).length ≤ 400000) (q : 0 < A.length) (r : 0 < B.length) (a m b : Int) (ha : a = (ds.flatten.length : Int)) (hm : m = ((ds.flatten.length + A.length : Nat) : Int)) (t : b = ((ds.flatten.length + A.length + B.length : Nat) : Int)) :
  ∃ C, lx kC (fm (ds ++ A :: B :: bs)) a m b f = some (fm ((ds ++ [C]) ++ bs)) ∧ vQ c 0 ((ds ++ [C]) ++ bs) ∧ C.Perm (A ++ B) := by
 obtain ⟨h1, o⟩ := vQ.append.1 hO
 obtain ⟨F, l, I, n, v⟩ := o
 have e : fm (ds ++ A :: B :: bs) = fm ds ++ (A.map (·.1) ++ (B.map (·.1) ++ fm bs)) := by rw [Gh, IN, IN]
 rw [e] at i ⊢
 have j := i
 simp only [aD, cU, qt] at j
 obtain ⟨C, z, D, k⟩ := Qy h u (A.length + B.length) A B (fm ds) (fm bs) kC a m b (aV _) q r (by rw [mU]; omega) F I (fun x d y w => by have := (l x d).2; have := (n y w).1; omega)
  (fun x d => s x (by
   rw [cQ, bK, bK, aR, aR, aR]
   rcases aR.1 d with d | d
   ·exact .inr (.inl d)
   ·exact .inr (.inr (.inl d)))) i (by rw [ha, qt]) (by rw [hm, qt]) (by rw [t, qt])
 have g := k.length_eq
 simp only [aD] at g
 refine ⟨C, by rw [z, aN, Gh, Px], ?_, k⟩
 ·rw [aN, vQ.append]
  refine ⟨h1, D, fun x d => ?_, ?_⟩
  ·rcases aR.1 (k.mem_iff.1 d) with d | d
   ·have := l x d; omega
   ·have := n x d; omega
  ·rw [g, ← ep]; exact v
theorem Hy {ds bs : List (List (Formula × Nat))} {A B C : List (Formula × Nat)} (h : C.Perm (A ++ B)) : ((ds ++ [C]) ++ bs).flatten.Perm (ds ++ A :: B :: bs).flatten := by
 simp only [cQ, bK, dp, bP, aN]
 refine bX _ ?_
 rw [← aN]
 exact h.append_right _
theorem N2 (h : SWO (nB c)) (P : Bl f c G) (s : Nat) (R : 0 < s) (T : s ≤ 1000000) (N : Nat) (hN : N ≤ 400000) : ∀ (k : Nat) (bs ds : List (List (Formula × Nat))) (n : Nat) (a b : Int), bs.length ≤ k → k < n → vQ c 0 (ds ++ bs) → (∀ x ∈ (ds ++ bs).flatten, G x.1) → (ds ++ bs).flatten.length = N → WB s bs → (∀ A ∈ ds, A.length = 2 * s) →
  a = (ds.flatten.length : Int) → b = ((ds.flatten.length + 2 * s : Nat) : Int) →
  ∃ es r, mi (N : Int) (s : Int) f n (fm (ds ++ bs)) a b = some (fm (es ++ r), (es.flatten.length : Int)) ∧ vQ c 0 (es ++ r) ∧ (es ++ r).flatten.Perm (ds ++ bs).flatten ∧ WB s r ∧ r.flatten.length < 2 * s ∧ (∀ A ∈ es, A.length = 2 * s) := by
 intro k
 induction k with
 | zero =>
  intro bs ds n a b hk Q hO q j t l ha M
  obtain ⟨n, rfl⟩ := aK (by omega : n ≠ 0)
  obtain rfl := aU (Nat.le_zero.1 hk)
  simp only [bP] at j
  rw [mi]
  have : ¬ (b ≤ (N : Int)) := by omega
  simp only [this, cK, aB, aM]
  exact ⟨ds, [], by rw [ha], hO, .refl _, trivial, by simp only [dp, bU]; omega, l⟩
 | succ k ih =>
  intro bs ds n a b hk Q hO q j t l ha M
  obtain ⟨n, rfl⟩ := aK (by omega : n ≠ 0)
  rw [mi]
  by_cases hle : b ≤ (N : Int)
  ·simp only [hle, cH, aW]
   have d := j
   rw [cQ, aD] at d
   cases bs with
   | nil => simp only [dp, bU] at d; omega
   | cons A bs =>
    obtain ⟨hA, B, i, rfl, m, J, u⟩ := WB.two R t (by omega)
    have L : B.length = s := by
     rcases m with m | rfl
     ·exact m
     ·simp only [bK, dp, bP, aD] at d; omega
    have Z : IntKind.i64.wrap (a + (s : Int)) = ((ds.flatten.length + A.length : Nat) : Int) := mT _ (by omega) (by omega)
    obtain ⟨C, W, Y, v⟩ := G6 h P hO q (by rw [qt]; omega) (by omega) (by omega) a _ b ha Z (by omega)
    rw [W, aA]
    have o := v.length_eq
    simp only [aD] at o
    have w2 : IntKind.i64.wrap (2 * (s : Int)) = ((2 * s : Nat) : Int) := mT _ (by omega) (by omega)
    have O : (ds ++ [C]).flatten.length = ds.flatten.length + 2 * s := by rw [Lt]; omega
    have w3 : IntKind.i64.wrap (b + ((2 * s : Nat) : Int)) = (((ds ++ [C]).flatten.length + 2 * s : Nat) : Int) := mT _ (by omega) (by omega)
    have hp := Hy (ds := ds) (bs := i) v
    rw [w2, w3]
    obtain ⟨es, r, w, y, z, D, F, I⟩ := ih i (ds ++ [C]) n b _ (by simp at hk; omega) (by omega) Y (fun x U => q x (hp.mem_iff.1 U)) (by rw [hp.length_eq, j]) u (fun X g => by
     rcases aR.1 g with g | g
     ·exact l X g
     ·simp at g; rw [g]; omega) (by rw [O]; omega) rfl
    exact ⟨es, r, w, y, z.trans hp, D, F, I⟩
  ·simp only [hle, cK, aB, aM]
   refine ⟨ds, bs, by rw [ha], hO, .refl _, t, ?_, l⟩
   rw [cQ, aD] at j
   omega
theorem WB.EV {t : Nat} : ∀ {es : List (List (Formula × Nat))} {C : List (Formula × Nat)}, (∀ A ∈ es, A.length = t) → C.length ≤ t → WB t (es ++ [C])
 | [], C, _, a => ⟨a, fun h => absurd rfl h, trivial⟩
 | E :: es, C, h, a => ⟨by rw [h E (by simp)]; omega, fun _ => h E (by simp), WB.EV (fun A b => h A (by simp [b])) a⟩
theorem LG {s : Nat} {r : List (List (Formula × Nat))} {o : Nat} (b : WB s r) (d : r.flatten.length ≤ s) (hO : vQ c o r) : nK (nB c) r.flatten ∧ ∀ x ∈ r.flatten, o ≤ x.2 ∧ x.2 < o + r.flatten.length := by
 cases r with
 | nil => exact ⟨.nil, fun x g => by cases g⟩
 | cons A r =>
  have : r.flatten = [] := by
   by_cases a : r = []
   ·rw [a]; rfl
   ·have := b.2.1 a
    rw [bK, aD] at d
    exact aU (by omega)
  rw [bK, this, bP]
  exact ⟨hO.1, hO.2.1⟩
theorem MD (h : SWO (nB c)) (T : Bl f c G) (N : Nat) (hN : N ≤ 400000) : ∀ (k s : Nat) (bs : List (List (Formula × Nat))) (n : Nat), N - s ≤ k → k < n → 0 < s → s ≤ 1000000 → vQ c 0 bs → (∀ x ∈ bs.flatten, G x.1) → bs.flatten.length = N → WB s bs →
  ∃ u, lR (N : Int) f n (fm bs) (s : Int) = some (u.map (·.1)) ∧ nK (nB c) u ∧ u.Perm bs.flatten := by
 intro k
 induction k with
 | zero =>
  intro s bs n hk hn F m hO l i b
  obtain ⟨n, rfl⟩ := aK (by omega : n ≠ 0)
  rw [lR]
  have : ¬ ((s : Int) < (N : Int)) := by omega
  simp only [this, cK, aB, aM]
  refine ⟨bs.flatten, rfl, ?_, .refl _⟩
  cases bs with
  | nil => exact .nil
  | cons A bs =>
   have : bs.flatten = [] := by
    by_cases d : bs = []
    ·rw [d]; rfl
    ·have := b.2.1 d
     rw [bK, aD] at i
     exact aU (by omega)
   rw [bK, this, bP]
   exact hO.1
 | succ k ih =>
  intro s bs n hk hn F m hO l i b
  by_cases a8 : s < N
  ·obtain ⟨n, rfl⟩ := aK (by omega : n ≠ 0)
   rw [lR]
   have : ((s : Int) < (N : Int)) := by omega
   simp only [this, cH, aW]
   have w1 : IntKind.i64.wrap (2 * (s : Int)) = ((2 * s : Nat) : Int) := mT _ (by omega) (by omega)
   have w0 : IntKind.i64.wrap ((s : Int) * 2) = ((2 * s : Nat) : Int) := mT _ (by omega) (by omega)
   have a7 : bs.length ≤ 2000000 := by
    have : ∀ {bs : List (List (Formula × Nat))}, WB s bs → bs.length ≤ bs.flatten.length + 1 := by
     intro bs
     induction bs with
     | nil => intro _; simp
     | cons A bs I =>
      intro b
      by_cases d : bs = []
      ·subst d; simp
      ·have := b.2.1 d
       have := I b.2.2
       simp only [aO, bK, aD]
       omega
    have := this b
    omega
   obtain ⟨es, r, M, O, a, P, Q, R⟩ := N2 h T s F m N hN bs.length bs [] kC 0 ((2 * s : Nat) : Int) (aV _) (by rw [mU]; omega) (by simpa using hO) (by simpa using l) (by simpa using i) b (by simp) rfl (by simp)
   simp only [bO] at M a
   rw [w1, M, aA, w0]
   have j := a.length_eq
   rw [i, cQ, aD] at j
   have w2 : IntKind.i64.wrap ((es.flatten.length : Int) + (s : Int)) = ((es.flatten.length + s : Nat) : Int) := mT _ (by omega) (by omega)
   simp only [w2]
   by_cases hm : es.flatten.length + s < N
   ·have : (((es.flatten.length + s : Nat) : Int) < (N : Int)) := by omega
    simp only [this, cH, aW, og]
    cases r with
    | nil => simp only [dp, bU] at j; omega
    | cons A r =>
     obtain ⟨hA, B, Y, rfl, q, a1, a6⟩ := WB.two F P (by omega)
     have D : Y = [] := by
      rcases q with q | q
      ·by_cases hr : Y = []
       ·exact hr
       ·simp only [bK, aD] at Q; omega
      ·exact q
     subst D
     simp only [bK, dp, bP, aD] at j Q
     obtain ⟨C, q1, U, W⟩ := G6 h T O (fun x o => l x (a.mem_iff.1 o)) (by rw [qt, a.length_eq]; omega) (by omega) (by omega) (es.flatten.length : Int) ((es.flatten.length + s : Nat) : Int) (N : Int) rfl (by omega) (by omega)
     rw [q1, aA]
     have v := W.length_eq
     simp only [aD] at v
     have hp := (Hy (ds := es) (bs := []) W).trans a
     simp only [bP] at U hp ⊢
     obtain ⟨u, J, L, t⟩ := ih (2 * s) (es ++ [C]) n (by omega) (by omega) (by omega) (by omega) U (fun x o => l x (hp.mem_iff.1 o)) (by rw [hp.length_eq, i]) (WB.EV R (by omega))
     exact ⟨u, J, L, t.trans hp⟩
   ·have : ¬ (((es.flatten.length + s : Nat) : Int) < (N : Int)) := by omega
    simp only [this, cK, aB, aM, aA]
    obtain ⟨w, y⟩ := vQ.append.1 O
    obtain ⟨Z, b2⟩ := LG P (by omega) y
    have z : fm (es ++ r) = fm (es ++ [r.flatten]) := by simp [fm]
    have g : (es ++ [r.flatten]).flatten = (es ++ r).flatten := by simp
    rw [z]
    obtain ⟨u, J, L, t⟩ := ih (2 * s) (es ++ [r.flatten]) n (by omega) (by omega) (by omega) (by omega) (vQ.append.2 ⟨w, Z, b2, trivial⟩) (fun x o => l x (a.mem_iff.1 (by rw [← g]; exact o))) (by rw [g, a.length_eq, i]) (WB.EV R (by omega))
    exact ⟨u, J, L, by rw [g] at t; exact t.trans a⟩
  ·obtain ⟨n, rfl⟩ := aK (by omega : n ≠ 0)
   rw [lR]
   have : ¬ ((s : Int) < (N : Int)) := by omega
   simp only [this, cK, aB, aM]
   refine ⟨bs.flatten, rfl, ?_, .refl _⟩
   cases bs with
   | nil => exact .nil
   | cons A bs =>
    have : bs.flatten = [] := by
     by_cases d : bs = []
     ·rw [d]; rfl
     ·have := b.2.1 d
      rw [bK, aD] at i
      exact aU (by omega)
    rw [bK, this, bP]
    exact hO.1
theorem FK : ∀ (l : List Formula) (o : Nat), (l.zipIdx o).Pairwise (fun x y => x.2 < y.2)
 | [], o => by simp
 | x :: l, o => by
  rw [iX, cM]
  refine ⟨fun y c => ?_, FK l (o + 1)⟩
  obtain ⟨a, b⟩ := y
  have := List.le_snd_of_mem_zipIdx c
  simp only at this ⊢; omega
theorem Jn (l : List Formula) (o : Nat) : ∀ x ∈ l.zipIdx o, o ≤ x.2 ∧ x.2 < o + l.length := by
 rintro ⟨a, b⟩ c
 have h1 := List.le_snd_of_mem_zipIdx c
 have d := List.snd_lt_add_of_mem_zipIdx c
 simp only at h1 d ⊢; omega
theorem Lj (h : SWO (nB c)) (k : Bl f c G) (N : Nat) (s : N ≤ 300000) (R : List Formula) (ds : List (List (Formula × Nat))) (n : Nat) (a b : Int) (y : 0 < n) (hO : vQ c 0 ds) (m : ∀ A ∈ ds, A.length = 20) (o : ∀ x ∈ ds.flatten, G x.1) (j : ∀ x ∈ R, G x) (w : ds.flatten.length + R.length = N) (q : R.length < 20) (ha : a = (ds.flatten.length : Int)) (t : b = ((ds.flatten.length + 20 : Nat) : Int)) :
  ∃ u, lT (N : Int) f n (fm ds ++ R) a b = some (u.map (·.1)) ∧ nK (nB c) u ∧ u.Perm (ds.flatten ++ R.zipIdx ds.flatten.length) := by
 obtain ⟨n, rfl⟩ := aK (by omega : n ≠ 0)
 rw [lT]
 have hle : ¬ (b ≤ (N : Int)) := by omega
 simp only [hle, cK, aB, aM, og]
 obtain ⟨u, l, r, g⟩ := Jl h k (fm ds) [] (R.zipIdx ds.flatten.length) a (N : Int) (FK _ _) (fun x d => j x.1 (Dw d)) (by simp only [aD, qt, cU, eo, bU]; omega) (by rw [qt]; exact ha) (by rw [qt, eo]; omega)
 rw [List.zipIdx_map_fst, bP, bP] at l
 have i := g.length_eq
 rw [eo] at i
 have e : fm ds ++ u.map (·.1) = fm (ds ++ [u]) := by simp [fm]
 have hp : (ds ++ [u]).flatten.Perm (ds.flatten ++ R.zipIdx ds.flatten.length) := by
  rw [cQ]
  refine bX _ ?_
  simpa using g
 rw [l, aA, e]
 obtain ⟨v, v1, v2, v3⟩ := MD h k N (by omega) N 20 (ds ++ [u]) kC (by omega) (by rw [mU]; omega) (by omega) (by omega) (vQ.append.2 ⟨hO, r, fun x d => by have := Jn R ds.flatten.length x (g.mem_iff.1 d); omega, trivial⟩) (fun x d => by
  rw [cQ, aR] at d
  rcases d with d | d
  ·exact o x d
  ·simp only [bK, dp, bP] at d
   exact j x.1 (Dw (g.mem_iff.1 d))) (by rw [hp.length_eq, aD, eo]; omega) (WB.EV m (by omega))
 exact ⟨v, v1, v2, v3.trans hp⟩
theorem MW (h : SWO (nB c)) (w : Bl f c G) (N : Nat) (D : N ≤ 300000) : ∀ (k : Nat) (R : List Formula) (ds : List (List (Formula × Nat))) (n : Nat) (a b : Int), R.length ≤ k → k < n → vQ c 0 ds → (∀ A ∈ ds, A.length = 20) → (∀ x ∈ ds.flatten, G x.1) → (∀ x ∈ R, G x) → ds.flatten.length + R.length = N →
  a = (ds.flatten.length : Int) → b = ((ds.flatten.length + 20 : Nat) : Int) →
  ∃ u, lT (N : Int) f n (fm ds ++ R) a b = some (u.map (·.1)) ∧ nK (nB c) u ∧ u.Perm (ds.flatten ++ R.zipIdx ds.flatten.length) := by
 intro k
 induction k with
 | zero =>
  intro R ds n a b hk F hO o q j r ha t
  obtain rfl := aU (Nat.le_zero.1 hk)
  exact Lj h w N D [] ds n a b F hO o q j r (by simp) ha t
 | succ k ih =>
  intro R ds n a b hk F hO o q j r ha t
  by_cases z : R.length < 20
  ·exact Lj h w N D R ds n a b (by omega) hO o q j r z ha t
  obtain ⟨n, rfl⟩ := aK (by omega : n ≠ 0)
  obtain ⟨R1, R2, rfl, m⟩ := vh (l := R) (n := 20) (by omega)
  rw [aD] at r hk
  rw [lT]
  have hle : b ≤ (N : Int) := by omega
  simp only [hle, cH, aW]
  obtain ⟨u, I, J, s⟩ := Jl h w (fm ds) R2 (R1.zipIdx ds.flatten.length) a b (FK _ _) (fun x d => j x.1 (by simp [Dw d])) (by simp only [aD, qt, cU, eo, bU]; omega) (by rw [qt]; exact ha) (by rw [qt, eo]; omega)
  rw [List.zipIdx_map_fst] at I
  rw [I, aA]
  have g := s.length_eq
  rw [eo, m] at g
  have y : (ds ++ [u]).flatten.length = ds.flatten.length + 20 := by rw [Lt, g]
  have L : IntKind.i64.wrap (b + 20) = (((ds ++ [u]).flatten.length + 20 : Nat) : Int) := mT _ (by omega) (by omega)
  have e : fm ds ++ (u.map (·.1) ++ R2) = fm (ds ++ [u]) ++ R2 := by simp [fm]
  rw [e, L]
  obtain ⟨v, v1, v2, v3⟩ := ih R2 (ds ++ [u]) n b _ (by omega) (by omega) (vQ.append.2 ⟨hO, J, fun x d => by have := Jn R1 ds.flatten.length x (s.mem_iff.1 d); omega, trivial⟩) (fun A i => by
   rcases aR.1 i with i | i
   ·exact o A i
   ·simp at i; rw [i]; exact g) (fun x d => by
   rw [cQ, aR] at d
   rcases d with d | d
   ·exact q x d
   ·simp only [bK, dp, bP] at d
    exact j x.1 (by simp [Dw (s.mem_iff.1 d)])) (fun x d => j x (by simp [d])) (by omega) (by omega) rfl
  refine ⟨v, v1, v2, v3.trans ?_⟩
  rw [y, cQ, List.zipIdx_append, m, aN]
  refine bX _ ?_
  simp only [bK, dp, bP]
  exact s.append_right _
theorem J9 (h : SWO (nB c)) (g : Bl f c G) (l : List Formula) (d : ∀ x ∈ l, G x) (i : l.length ≤ 300000) : oh l f = some (G5 (nB c) l) := by
 unfold oh qi
 obtain ⟨u, a, j, b⟩ := MW h g l.length i l.length l [] kC 0 20 (aV _) (by rw [mU]; omega) trivial (by simp) (by simp) d (by simp) rfl rfl
 simp only [fm, dp, fk, bO, bU] at a b
 rw [a, aA, Nw h j b]
end
end Go.Proofs.YtmlncblocfcmiaaGreat
namespace Go.Proofs.YtmlncblocfcmiaaGreat
open Go.RowKit
theorem MV {P : Formula → Prop} (h : ∀ f, (∀ k ∈ f.Kids, P k) → P f) : ∀ f, P f := by
 intro f
 refine Formula.rec (motive_1 := P) (motive_2 := fun b => ∀ k ∈ b, P k) ?_ ?_ ?_ f
 ·intro o k r b ih; exact h _ ih
 ·intro k hk; cases hk
 ·intro k b h1 c x a
  rcases aQ.1 a with rfl | a
  ·exact h1
  ·exact c x a
mutual
def kG : Formula → Nat
 | ⟨_, _, _, ks⟩ => 1 + nodesL ks
def nodesL : List Formula → Nat
 | [] => 0
 | k :: ks => kG k + nodesL ks
end
mutual
def ru : Formula → Nat
 | ⟨_, _, _, ks⟩ => deepL ks + 1
def deepL : List Formula → Nat
 | [] => 0
 | k :: ks => max (ru k) (deepL ks)
end
theorem qu (f : Formula) : kG f = 1 + nodesL f.Kids := by cases f; rw [kG]
theorem pD (f : Formula) : ru f = deepL f.Kids + 1 := by cases f; rw [ru]
theorem yh : ∀ {a : List Formula} {k : Formula}, k ∈ a → kG k ≤ nodesL a
 | x :: a, k, h => by
  rw [nodesL]
  rcases aQ.1 h with rfl | h
  ·omega
  ·have := yh h; omega
theorem wM : ∀ {a : List Formula} {k : Formula}, k ∈ a → ru k ≤ deepL a
 | x :: a, k, h => by
  rw [deepL]
  rcases aQ.1 h with rfl | h
  ·omega
  ·have := wM h; omega
theorem Bb : ∀ f : Formula, ru f ≤ kG f := by
 refine MV fun f ih => ?_
 rw [pD, qu]
 have : ∀ a : List Formula, (∀ k ∈ a, ru k ≤ kG k) → deepL a ≤ nodesL a := by
  intro a
  induction a with
  | nil => intro _; rw [deepL]; omega
  | cons k a b =>
   intro h
   have := b (fun x c => h x (by simp [c]))
   have := h k (by simp)
   rw [deepL, nodesL]; omega
 have := this f.Kids ih
 omega
theorem vl : ∀ a : List Formula, a.length ≤ nodesL a
 | [] => by rw [nodesL]; simp
 | k :: a => by have := vl a; have := qu k; rw [nodesL, aO]; omega
theorem KC (a : Nat) (hm : a ≤ 4096) (rec : Formula → Int → Option (Int × Int)) : ∀ (b : List Formula), (∀ k ∈ b, ∀ q : Nat, q ≤ 4096 → ∃ n d : Nat, rec k (q : Int) = some ((n : Int), (d : Int)) ∧ 1 ≤ n ∧ n ≤ kG k ∧ d ≤ kG k ∧ (kG k ≤ q → n = kG k ∧ d = ru k) ∧ (q < kG k → q < n)) → ∀ x y : Nat, x + nodesL b ≤ 100000000 →
  ∃ n d : Nat, oJ (a : Int) rec b (x : Int) (y : Int) = some ((n : Int), (d : Int)) ∧ x ≤ n ∧ n ≤ x + nodesL b ∧ d ≤ max y (nodesL b) ∧ (x + nodesL b ≤ a → n = x + nodesL b ∧ d = max y (deepL b)) ∧ (a < x + nodesL b → a < n)
 | [], _, x, y, _ => by
  rw [oJ, nodesL, deepL]
  exact ⟨x, y, rfl, by omega, by omega, by omega, fun _ => ⟨by omega, by omega⟩, fun h => by omega⟩
 | k :: b, g, x, y, o => by
  rw [nodesL] at o ⊢
  rw [oJ, deepL]
  by_cases i : (x : Int) > (a : Int)
  ·simp only [i, cH, aW]
   exact ⟨x, y, rfl, by omega, by omega, by omega, fun _ => by omega, fun h => by omega⟩
  ·simp only [i, cK, aB, aM]
   have s : IntKind.i64.wrap ((a : Int) - (x : Int)) = ((a - x : Nat) : Int) := by rw [kN (by omega) (by omega)]; omega
   obtain ⟨m, d, e, h1, v, w, c, l⟩ := g k (by simp) (a - x) (by omega)
   rw [s, e, aA]
   have t : IntKind.i64.wrap ((x : Int) + (m : Int)) = ((x + m : Nat) : Int) := by rw [kN (by omega) (by omega)]; omega
   have u : (if (d : Int) > (y : Int) then (d : Int) else (y : Int)) = ((max y d : Nat) : Int) := by split <;> omega
   simp only [t, u]
   obtain ⟨n, j, e', g1, g2, g3, g4, g5⟩ := KC a hm rec b (fun z r => g z (by simp [r])) (x + m) (max y d) (by omega)
   refine ⟨n, j, e', by omega, by omega, by omega, fun h => ?_, fun h => ?_⟩
   ·obtain ⟨rfl, rfl⟩ := c (by omega)
    obtain ⟨rfl, rfl⟩ := g4 (by omega)
    exact ⟨by omega, by omega⟩
   ·by_cases hk : a - x < kG k
    ·have := l hk; omega
    ·obtain ⟨rfl, _⟩ := c (by omega)
     exact g5 (by omega)
theorem Mb : ∀ (n : Nat) (f : Formula), ru f ≤ n → kG f ≤ 50000000 → ∀ q : Nat, q ≤ 4096 → ∃ m d : Nat, nJ n f (q : Int) = some ((m : Int), (d : Int)) ∧ 1 ≤ m ∧ m ≤ kG f ∧ d ≤ kG f ∧ (kG f ≤ q → m = kG f ∧ d = ru f) ∧ (q < kG f → q < m) := by
 intro n
 induction n with
 | zero => intro f h; rw [pD] at h; omega
 | succ n ih =>
  intro f g r q a
  rw [pD] at g
  have i := qu f
  rw [nJ]
  unfold ue
  obtain ⟨m, d, e, h1, l, o, b, c⟩ := KC q a (nJ n) f.Kids (fun k hk q a => ih k (by have := wM hk; omega) (by have := yh hk; omega) q a) 1 0 (by omega)
  have e' : oJ (q : Int) (nJ n) f.Kids 1 0 = some ((m : Int), (d : Int)) := e
  rw [e', aA]
  have j : IntKind.i64.wrap ((d : Int) + 1) = ((d + 1 : Nat) : Int) := by rw [kN (by omega) (by omega)]; omega
  simp only [j]
  refine ⟨m, d + 1, rfl, h1, by omega, by omega, fun h => ?_, fun h => c (by omega)⟩
  obtain ⟨rfl, rfl⟩ := b (by omega)
  rw [pD]
  exact ⟨by omega, by omega⟩
theorem N7 (f : Formula) (c : kG f ≤ 50000000) : vC f = some (if kG f ≤ 4096 then ((kG f : Int), (ru f : Int)) else (0, 0)) := by
 unfold vC
 have := Bb f
 obtain ⟨m, d, e, h1, g, i, a, b⟩ := Mb kC f (by rw [mU]; omega) c 4096 (aV _)
 have e' : nJ kC f 4096 = some ((m : Int), (d : Int)) := e
 rw [e', aA]
 by_cases h : kG f ≤ 4096
 ·obtain ⟨rfl, rfl⟩ := a h
  have : ¬ ((kG f : Int) > 4096) := by omega
  simp [this, h]
 ·have := b (by omega)
  have : ((m : Int) > 4096) := by omega
  simp [this, h]
def vp : jB := ⟨zS, zS⟩
def DB (f : Formula) : Bool := if f.Op = 1 then lH f.jB && decide (f.Kids.length = 0) && decide (f.K = 0) else if f.Op = 2 ∨ f.Op = 3 then kc f.jB vp && decide (f.K = 0) else decide (f.Op = 4) && kc f.jB vp && decide (0 ≤ f.K) && decide (f.K ≤ (f.Kids.length : Int)) && decide (1 ≤ f.Kids.length)
theorem Nu (f : Formula) : vx f = some (DB f) := by
 unfold vx DB
 simp only [sU, aA, og]
 by_cases h1 : f.Op = 1
 ·simp only [h1, bJ, aW]
  cases n : lH f.jB
  ·simp
  ·by_cases j : f.Kids.length = 0
   ·have : f.Kids = [] := aU j
    by_cases hk : f.K = 0 <;> simp [this, hk]
   ·have : ((f.Kids.length : Int) == 0) = false := by simp; intro h; exact j (by simp [h])
    simp only [aW, aA, this, aB, aM, j, cK, Bool.and_false, iw]
 ·have l : (f.Op == 1) = false := by simpa using h1
  simp only [l, aB, aM, h1]
  by_cases c : f.Op = 2 ∨ f.Op = 3
  ·have g : (if f.Op == 2 then some (f.Op == 2) else some (f.Op == 3)) = some true := by
    rcases c with h | h <;> simp [h]
   simp only [g, aA, aW, c]
   cases d : kc f.jB ⟨zS, zS⟩ <;> by_cases hk : f.K = 0 <;> simp [vp, d, hk]
  ·have g : (if f.Op == 2 then some (f.Op == 2) else some (f.Op == 3)) = some false := by
    have a : f.Op ≠ 2 := fun h => c (.inl h)
    have b : f.Op ≠ 3 := fun h => c (.inr h)
    simp [a, b]
   simp only [g, aA, aB, aM, c]
   by_cases i : f.Op = 4
   ·simp only [i, bJ, aW, aA, cH, fb]
    cases d : kc f.jB ⟨zS, zS⟩
    ·simp [vp, d]
    ·by_cases c1 : 0 ≤ f.K <;> by_cases c2 : f.K ≤ (f.Kids.length : Int) <;> by_cases k : 1 ≤ f.Kids.length <;> simp [vp, d, c1, c2, k] <;> omega
   ·have m : (f.Op == 4) = false := by simpa using i
    simp [m, i]
mutual
def vy : Formula → Bool
 | ⟨o, n, r, ks⟩ => DB ⟨o, n, r, ks⟩ && decide (ks.length ≤ 8) && wellL ks
def wellL : List Formula → Bool
 | [] => true
 | k :: ks => vy k && wellL ks
end
theorem HG (f : Formula) : vy f = (DB f && decide (f.Kids.length ≤ 8) && wellL f.Kids) := by cases f; rw [vy]
theorem F5 : ∀ a : List Formula, wellL a = a.all vy
 | [] => rfl
 | k :: a => by rw [wellL, F5 a]; rfl
theorem HH (f : Formula → Option Bool) : ∀ (l : List Formula) (i : Nat), mN f l i = vV f l i
 | [], i => by rw [mN]; rfl
 | x :: l, i => by
  rw [mN, vV]
  cases f x with
  | none => rfl
  | some b =>
   simp only [aA]
   rw [HH f l (i + 1)]
theorem DY (f : Formula → Option Bool) (p : Formula → Bool) (l : List Formula) (h : ∀ x ∈ l, f x = some (p x)) : nu l f = some (l.any p) := by
 unfold nu rG
 rw [HH]
 rcases zB f p l 0 h with ⟨e, h1⟩ | ⟨A, x, B, rfl, h1, a, e⟩
 ·rw [e, aA]
  have : l.any p = false := by rw [iS]; intro x b; rw [h1 x b]; simp
  rw [this]; rfl
 ·rw [e, aA]
  have : (A ++ x :: B).any p = true := by simp [a]
  rw [this]
  congr 1
theorem Mn : ∀ (n : Nat) (f : Formula), ru f ≤ n → qb n f = some (vy f) := by
 intro n
 induction n with
 | zero => intro f h; rw [pD] at h; omega
 | succ n ih =>
  intro f h
  rw [pD] at h
  rw [qb]
  unfold ul
  rw [Nu, aA, HG, DY _ (fun k => !vy k) f.Kids (fun k hk => by unfold sR; rw [ih k (by have := wM hk; omega)]; rfl)]
  rw [F5]
  have e : (!(f.Kids.any fun k => !vy k)) = f.Kids.all vy := by rw [List.all_eq_not_any_not]
  cases DB f
  ·rfl
  ·by_cases a : f.Kids.length ≤ 8
   ·have : ((f.Kids.length : Int) ≤ 8) := by omega
    simp [a, this, e]
   ·have : ¬ ((f.Kids.length : Int) ≤ 8) := by omega
    simp [a, this]
def oY (f : Formula) : Bool := decide (kG f ≤ 64) && decide (ru f ≤ 6) && vy f
theorem xQ (f : Formula) (b : kG f ≤ 50000000) : ov f = some (oY f) := by
 unfold ov oY
 have c := Bb f
 rw [N7 f b, aA, Mn kC f (by rw [mU]; omega)]
 have h1 := qu f
 by_cases h : kG f ≤ 4096
 ·simp only [h, aW]
  have a : ((kG f : Int) ≥ 1) := by omega
  simp only [a, cH, aW, aA, og]
  by_cases c1 : kG f ≤ 64 <;> by_cases c2 : ru f ≤ 6
  ·have d1 : ((kG f : Int) ≤ 64) := by omega
   have d2 : ((ru f : Int) ≤ 6) := by omega
   simp [c1, c2, d1, d2]
  ·have d1 : ((kG f : Int) ≤ 64) := by omega
   have d2 : ¬ ((ru f : Int) ≤ 6) := by omega
   simp [c1, c2, d1, d2]
  ·have d1 : ¬ ((kG f : Int) ≤ 64) := by omega
   simp [c1, d1]
  ·have d1 : ¬ ((kG f : Int) ≤ 64) := by omega
   simp [c1, d1]
 ·simp only [h, aM]
  have : ¬ kG f ≤ 64 := by omega
  simp [this]
theorem Formula.ext' {a b : Formula} (h1 : a.Op = b.Op) (c : a.K = b.K) (d : a.jB = b.jB) (g : a.Kids = b.Kids) : a = b := by
 cases a; cases b; simp only at h1 c d g; subst h1 c d g; rfl
theorem Lv (g : Formula × Formula → Option Bool) : ∀ (l m : List Formula), l.length = m.length → (∀ x ∈ l, ∀ y, ∃ b, g (x, y) = some b ∧ (b = true ↔ x = y)) → ∀ (A : List Formula),
  ∃ b, kZ (A ++ m) g l A.length = some b ∧ (b = true ↔ l = m)
 | [], m, c, _, A => by
  obtain rfl := aU c.symm
  exact ⟨true, rfl, by simp⟩
 | x :: l, [], c, _, A => by simp at c
 | x :: l, y :: m, c, d, A => by
  rw [kZ]
  obtain ⟨b, e, h⟩ := d x (by simp) y
  have i1 : lj (A ++ y :: m) (A.length : Int) = some y := mD _ _ _ _ rfl
  rw [i1, aA, e, aA]
  cases b with
  | false =>
   refine ⟨false, rfl, ?_⟩
   have : x ≠ y := fun a => by have := h.2 a; simp at this
   simp [this]
  | true =>
   have a := h.1 rfl
   obtain ⟨b, i, n⟩ := Lv g l m (by simpa using c) (fun z o => d z (by simp [o])) (A ++ [y])
   simp only [bW, aB, aM]
   have j : A ++ y :: m = (A ++ [y]) ++ m := by simp
   have k : A.length + 1 = (A ++ [y]).length := by simp
   rw [j, k, i]
   exact ⟨b, rfl, by rw [n]; simp [a]⟩
theorem NZ : ∀ (n : Nat) (f : Formula), ru f ≤ n → ∀ g, ∃ b, nI n f g = some b ∧ (b = true ↔ f = g) := by
 intro n
 induction n with
 | zero => intro f h; rw [pD] at h; omega
 | succ n ih =>
  intro f h g
  rw [pD] at h
  rw [nI]
  unfold uH
  by_cases h1 : f.Op = g.Op
  ·by_cases a : f.K = g.K
   ·by_cases c : f.jB = g.jB
    ·have i : kc f.jB g.jB = true := jZ.2 c
     simp only [h1, a, i, bJ, aW, aA]
     unfold ms
     by_cases d : f.Kids.length = g.Kids.length
     ·have : ((f.Kids.length : Int) != (g.Kids.length : Int)) = false := by simp [d]
      simp only [this, aB, aM]
      obtain ⟨b, e, l⟩ := Lv (fun x => nI n x.1 x.2) f.Kids g.Kids d (fun x m y => ih x (by have := wM m; omega) y) []
      simp only [bO, bU] at e
      rw [e]
      refine ⟨b, by simp, l.trans ⟨fun hk => Formula.ext' h1 a c hk, fun hk => by rw [hk]⟩⟩
     ·have : ((f.Kids.length : Int) != (g.Kids.length : Int)) = true := by simp; omega
      simp only [this, aW]
      exact ⟨false, rfl, by simp; intro hk; rw [hk] at d; exact d rfl⟩
    ·have i : kc f.jB g.jB = false := by rw [← je, jZ]; exact c
     simp only [h1, a, i, bJ, aW, aA, aB, aM]
     exact ⟨false, rfl, by simp; intro hk; rw [hk] at c; exact c rfl⟩
   ·have k : (f.K == g.K) = false := by simpa using a
    simp only [h1, k, bJ, aW, aA, aB, aM]
    exact ⟨false, rfl, by simp; intro hk; rw [hk] at a; exact a rfl⟩
  ·have j : (f.Op == g.Op) = false := by simpa using h1
   simp only [j, aA, aB, aM]
   exact ⟨false, rfl, by simp; intro hk; rw [hk] at h1; exact h1 rfl⟩
end Go.Proofs.YtmlncblocfcmiaaGreat
namespace Go.Proofs.YtmlncblocfcmiaaGreat
open Go.RowKit
mutual
def zG : Formula → List Int
 | ⟨o, k, r, ks⟩ => o :: (if o = 1 then qZ r else (if o = 4 then [k] else []) ++ ((ks.length : Int) :: bytesFL ks))
def bytesFL : List Formula → List Int
 | [] => []
 | k :: ks => zG k ++ bytesFL ks
end
theorem Lw (f : Formula) : zG f = f.Op :: (if f.Op = 1 then qZ f.jB else (if f.Op = 4 then [f.K] else []) ++ ((f.Kids.length : Int) :: bytesFL f.Kids)) := by cases f; rw [zG]
theorem DQ {f : Formula} (h : vy f = true) : f.Kids.length ≤ 8 ∧ wellL f.Kids = true ∧ ((f.Op = 1 ∧ lH f.jB = true ∧ f.Kids = [] ∧ f.K = 0) ∨ ((f.Op = 2 ∨ f.Op = 3) ∧ f.jB = vp ∧ f.K = 0) ∨ (f.Op = 4 ∧ f.jB = vp ∧ 0 ≤ f.K ∧ f.K ≤ (f.Kids.length : Int) ∧ 1 ≤ f.Kids.length)) := by
 rw [HG] at h
 simp only [bA, cI] at h
 obtain ⟨⟨h1, a⟩, b⟩ := h
 refine ⟨a, b, ?_⟩
 unfold DB at h1
 split at h1
 ·rename_i c
  simp only [bA, cI] at h1
  exact .inl ⟨c, h1.1.1, aU h1.1.2, h1.2⟩
 ·split at h1
  ·rename_i c
   simp only [bA, cI, jZ] at h1
   exact .inr (.inl ⟨c, h1.1, h1.2⟩)
  ·simp only [bA, cI, jZ] at h1
   exact .inr (.inr ⟨h1.1.1.1.1, h1.1.1.1.2, h1.1.1.2, h1.1.2, h1.2⟩)
theorem OY : ∀ (n : Nat) (f : Formula), ru f ≤ n → vy f = true → ∀ l : List Int, l.length + 40 * kG f ≤ 8000 → pd n l f = some (l ++ zG f) ∧ (zG f).length ≤ 40 * kG f := by
 intro n
 induction n with
 | zero => intro f h; rw [pD] at h; omega
 | succ n ih =>
  intro f t hw l r
  rw [pD] at t
  have u := qu f
  obtain ⟨h1, q, m⟩ := DQ hw
  rw [pd]
  unfold ui
  have d : 0 ≤ f.Op ∧ f.Op < 128 := by rcases m with h | h | h <;> omega
  rw [wV d.1 d.2 (by omega), aA, Lw]
  have key : ∀ (a : List Formula), (∀ k ∈ a, k ∈ f.Kids) → wellL a = true → ∀ l : List Int, l.length + 40 * nodesL a ≤ 8000 → pI (pd n) a l = some (l ++ bytesFL a) ∧ (bytesFL a).length ≤ 40 * nodesL a := by
   intro a
   induction a with
   | nil => intro _ _ l _; rw [pI, bytesFL]; simp
   | cons k a o =>
    intro hk b l r
    rw [wellL, bA] at b
    rw [nodesL] at r
    obtain ⟨i, w⟩ := ih k (by have := wM (hk k (by simp)); omega) b.1 l (by omega)
    obtain ⟨c, j⟩ := o (fun z v => hk z (by simp [v])) b.2 (l ++ zG k) (by simp; omega)
    rw [pI, i, aA, c, bytesFL, nodesL]
    exact ⟨by simp, by simp; omega⟩
  have hlen : 0 ≤ (f.Kids.length : Int) ∧ (f.Kids.length : Int) < 128 := by omega
  by_cases c1 : f.Op = 1
  ·have s : lH f.jB = true := by rcases m with h | h | h; exact h.2.1; omega; omega
   have := oL s
   simp only [c1, bJ, aW]
   rw [HC s (by simp; omega), aA]
   exact ⟨by simp, by simp; omega⟩
  ·have i : (f.Op == 1) = false := by simpa using c1
   simp only [i, aB, aM, c1]
   by_cases g : f.Op = 4
   ·have hk : 0 ≤ f.K ∧ f.K < 128 := by rcases m with h | h | h <;> omega
    simp only [g, bJ, aW]
    rw [wV hk.1 hk.2 (by simp; omega)]
    simp only [aA]
    rw [wV hlen.1 hlen.2 (by simp; omega)]
    simp only [aA]
    obtain ⟨c, j⟩ := key f.Kids (fun k hk => hk) q (l ++ [4] ++ [f.K] ++ [(f.Kids.length : Int)]) (by simp; omega)
    rw [c]
    exact ⟨by simp, by simp; omega⟩
   ·have j : (f.Op == 4) = false := by simpa using g
    simp only [j, aB, aM, g, aA]
    rw [wV hlen.1 hlen.2 (by simp; omega)]
    simp only [aA]
    obtain ⟨c, x⟩ := key f.Kids (fun k hk => hk) q (l ++ [f.Op] ++ [(f.Kids.length : Int)]) (by simp; omega)
    rw [c]
    exact ⟨by simp, by simp; omega⟩
def DI (f : Formula) : List Int := if oY f then zG f else []
abbrev Gd (f : Formula) : Prop := kG f ≤ 50000000
theorem Eh {f : Formula} (h : oY f = true) : kG f ≤ 64 ∧ ru f ≤ 6 ∧ vy f = true := by
 unfold oY at h
 simp only [bA, cI] at h
 exact ⟨h.1.1, h.1.2, h.2⟩
theorem OU (f : Formula) (c : Gd f) (l : List Int) (i : l.length ≤ 5000) : uQ l f = some (oY f, l ++ DI f) ∧ (DI f).length ≤ 2560 := by
 unfold uQ DI
 rw [xQ f c, aA]
 cases h : oY f
 ·simp
 ·obtain ⟨h1, g, b⟩ := Eh h
  obtain ⟨a, d⟩ := OY kC f (by rw [mU]; omega) b l (by omega)
  simp only [bW, aB, aM, a, aA, aW]
  exact ⟨trivial, by omega⟩
theorem E3 (f : Formula) (b : Gd f) : rJ f = some (DI f) := by
 unfold rJ
 obtain ⟨a, c⟩ := OU f b [] (by simp)
 rw [a, aA, og]
 unfold sy
 simp only [bO]
 rw [OI (by omega)]
 rfl
def II (f g : Formula) : Int := wO (DI f) (DI g)
theorem Jv (f g : Formula) (a : Gd f) (b : Gd g) : rL f g = some (II f g) := by
 unfold rL uT
 rw [E3 f a, E3 g b]
 rfl
theorem Be (f g : Formula) : nB II f g = Op.bytesLess (tU (DI f)) (tU (DI g)) := by
 rw [cP]
 have h : nB II f g = true ↔ II f g < 0 := by unfold nB; exact decide_eq_true_iff
 exact h.trans (A4 _ _)
theorem QA : SWO (nB II) where
 Qf x := by rw [Be, Ac]
 tr x y z h1 a := by rw [Be] at *; exact zn _ _ _ h1 a
 Nl x y z h := by
  rw [Be] at h
  rw [Be, Be]
  rcases BM (tU (DI x)) (tU (DI y)) with h1 | h1 | h1
  ·exact .inl h1
  ·rw [h1] at h; exact .inr h
  ·exact .inr (zn _ _ _ h1 h)
def Ay (l : List Formula) : List Formula := G5 (nB II) l
theorem Ic (l : List Formula) (a : ∀ x ∈ l, Gd x) (b : l.length ≤ 300000) : tH l = some (Ay l) := by
 unfold tH qY
 rw [mJ (by simp; omega) (by simp; omega)]
 simp only [aA, bO, og]
 exact J9 QA (fun x y c d => Jv x y c d) l a b
theorem KS {α : Type} (lt : α → α → Bool) (l : List α) (k : α) : (Ee lt l k).Perm (l ++ [k]) := by
 unfold Ee
 refine List.perm_middle.trans ((List.Perm.cons _ ?_).trans (fD k l).symm)
 have := List.filter_append_perm (fun x => !lt k x) l
 simpa using this
theorem KI {α : Type} (lt : α → α → Bool) (l : List α) : (G5 lt l).Perm l := by
 suffices H : ∀ (l a : List α), (l.foldl (Ee lt) a).Perm (a ++ l) by have := H l []; rwa [bO] at this
 intro l
 induction l with
 | nil => intro a; simp
 | cons k l ih =>
  intro a
  rw [jm]
  refine (ih _).trans ?_
  have := (KS lt a k).append_right l
  simpa using this
theorem Cy (l : List Formula) : (Ay l).Perm l := KI _ l
noncomputable def yG (a b : Formula) : Bool := @decide (a = b) (Classical.propDecidable _)
theorem NA {a b : Formula} : yG a b = true ↔ a = b := by unfold yG; simp
theorem NX (a b : Formula) (h : Gd a) : nI kC a b = some (yG a b) := by
 have := Bb a
 obtain ⟨x, e, c⟩ := NZ kC a (by rw [mU]; omega) b
 rw [e]; congr 1
 rw [cP, c, NA]
def Qn : Formula := ⟨0, 0, ⟨zS, zS⟩, []⟩
theorem LX (f1 : Formula × Formula → Option Bool) (i : Int) : ∀ (n : Nat) (l : List Formula) (k j : Int), (∀ x ∈ l, ∀ y ∈ l, f1 (x, y) = some (yG x y)) → mu i f1 n l k j = xH yG i n l k j
 | 0, l, k, j, _ => by rw [mu, xH]
 | n + 1, l, k, j, h => by
  rw [mu, xH]
  split
  ·cases d : lj (l.drop (Int.toNat i)) j with
   | none => rfl
   | some x =>
    cases g : lj (l.drop (Int.toNat i)) (IntKind.i64.wrap (j - 1)) with
    | none => rfl
    | some y =>
     have c : x ∈ l := List.mem_of_mem_drop (dt (kh d))
     have q : y ∈ l := List.mem_of_mem_drop (dt (kh g))
     simp only [aA, h x c y q]
     cases yG x y
     ·simp only [ef, aW]
      cases r : lj l k with
      | none => rfl
      | some z =>
       simp only [aA]
       refine LX f1 i n _ _ _ (fun a ha b o => ?_)
       have m : ∀ a ∈ l.set (Int.toNat k) x, a ∈ l := fun a ha => by
        rcases List.mem_or_eq_of_mem_set ha with ha | rfl
        ·exact ha
        ·exact c
       exact h a (m a ha) b (m b o)
     ·simp only [bW, aB, aM, aA]
      exact LX f1 i n _ _ _ h
  ·rfl
theorem Pg (f1 : Formula × Formula → Option Bool) (l : List Formula) (h : ∀ x ∈ l, ∀ y ∈ l, f1 (x, y) = some (yG x y)) : ∀ (n : Nat) (i : Int), mr l f1 n i = yz yG Qn l n i
 | 0, i => by rw [mr, yz]
 | n + 1, i => by
  rw [mr, yz]
  split
  ·cases a : lj l i with
   | none => rfl
   | some x =>
    cases b : lj l (IntKind.i64.wrap (i - 1)) with
    | none => rfl
    | some y =>
     have c : x ∈ l := dt (kh a)
     have d : y ∈ l := dt (kh b)
     simp only [aA, h x c y d]
     rw [LX f1 i kC l i 1 h, Pg f1 l h n]
     rfl
  ·rfl
theorem JU (l : List Formula) (h : ∀ x ∈ l, Gd x) (b : l.length ≤ 300000) : oV l (fun x => nI kC x.1 x.2) = some (dd yG l) := by
 rw [← Eb yG Qn l (by omega)]
 unfold oV D9
 rw [Pg _ l (fun x a y _ => NX x y (h x a))]
end Go.Proofs.YtmlncblocfcmiaaGreat
namespace Go.Proofs.YtmlncblocfcmiaaGreat
open Go.RowKit
def oz (op : Int) (f : Formula) : Bool := decide (f.Op = op) && f.Kids.isEmpty
theorem EE (f : Formula) (op : Int) : sd f op = some (oz op f) := by
 unfold sd oz
 rw [og]
 by_cases h : f.Op = op
 ·simp only [h, bJ, aW, cH, fb]
  congr 1
  cases hk : f.Kids with
  | nil => rfl
  | cons a l => simp; omega
 ·have e : (f.Op == op) = false := by simpa using h
  simp [e, h]
def rR (op : Int) : List Formula → List Formula
 | [] => []
 | k :: a => (if k.Op = op then k.Kids else [k]) ++ rR op a
theorem BP (op : Int) : ∀ c : List Formula, nodesL (rR op c) ≤ nodesL c
 | [] => aV _
 | k :: c => by
  have ih := BP op c
  have e : ∀ a b : List Formula, nodesL (a ++ b) = nodesL a + nodesL b := by
   intro a b
   induction a with
   | nil => rw [bO, nodesL]; omega
   | cons x a d => rw [cA, nodesL, nodesL, d]; omega
  have := qu k
  rw [rR, e, nodesL]
  split
  ·omega
  ·rw [nodesL, nodesL]; omega
theorem FO (op : Int) : ∀ (a acc : List Formula), acc.length + nodesL a ≤ 100000000 → pG op a acc = some (acc ++ rR op a)
 | [], acc, _ => by rw [pG, rR, bP]
 | k :: a, acc, h => by
  rw [nodesL] at h
  have h1 := qu k
  have b := vl k.Kids
  rw [pG, rR]
  by_cases c : k.Op = op
  ·simp only [c, bJ, aW]
   rw [mJ (by omega) (by omega), aA, FO op a _ (by simp; omega), aN]
  ·have e : (k.Op == op) = false := by simpa using c
   simp only [e, aB, aM, c]
   rw [mJ (by simp; omega) (by simp; omega), aA, FO op a _ (by simp; omega), aN]
noncomputable def sL (op : Int) (a : List Formula) : Formula :=
 if (rR op a).any (oz (5 - op)) then ⟨5 - op, 0, vp, []⟩ else
  match dd yG (Ay (rR op a)) with
  | [x] => x
  | r => ⟨op, 0, vp, r⟩
theorem O7 {α : Type} (eq : α → α → Bool) (l : List α) : (dd eq l).length ≤ l.length := by
 cases l with
 | nil => exact aV _
 | cons x l =>
  have : ∀ (l : List α) (x : α), (oO eq x l).length ≤ l.length := by
   intro l
   induction l with
   | nil => intro x; exact aV _
   | cons y l ih => intro x; rw [oO]; have := ih y; have := ih x; split <;> simp <;> omega
  have := this l x
  rw [dd, aO, aO]; omega
theorem CE (s : kD) (op : Int) (g : op = 2 ∨ op = 3) (a : List Formula) (h : nodesL a ≤ 64) : nA s op a = some (sL op a, s) := by
 have h1 := BP op a
 have i := vl (rR op a)
 have c : ∀ x ∈ rR op a, Gd x := fun x b => by have := yh b; unfold Gd; omega
 have hw : IntKind.i64.wrap (5 - op) = 5 - op := kN (by omega) (by omega)
 unfold nA yq sL
 rw [FO op a [] (by simp; omega), aA, bO, hw, DY _ (oz (5 - op)) _ (fun x _ => by unfold pR; rw [EE, og]), aA]
 cases j : (rR op a).any (oz (5 - op))
 ·simp only [aB, aM]
  have hp := Cy (rR op a)
  have l := hp.length_eq
  rw [Ic _ c (by omega), aA, JU _ (fun x b => c x (hp.mem_iff.1 b)) (by omega), aA]
  have k := O7 yG (Ay (rR op a))
  have d : ¬ (((dd yG (Ay (rR op a))).length : Int) > 64) := by omega
  simp only [d, cK, aB, aM, aA]
  generalize dd yG (Ay (rR op a)) = r
  match r with
  | [] => rfl
  | [x] => rfl
  | x :: y :: r =>
   have : (((x :: y :: r).length : Int) == 1) = false := by simp; omega
   simp only [this, aB, aM]
   rfl
 ·rfl
noncomputable def wI (k : Int) (a : List Formula) : Formula :=
 let n := k - ((a.filter (oz 2)).length : Int)
 let l := a.filter fun x => !oz 2 x && !oz 3 x
 if n ≤ 0 then ⟨2, 0, vp, []⟩ else if n > (l.length : Int) then ⟨3, 0, vp, []⟩ else if n = (l.length : Int) then sL 2 l else if n = 1 then sL 3 l else ⟨4, n, vp, Ay l⟩
theorem zI (p : Formula → Bool) : ∀ a : List Formula, nodesL (a.filter p) ≤ nodesL a
 | [] => aV _
 | k :: a => by
  have := zI p a
  rw [fK]
  split
  ·rw [nodesL, nodesL]; omega
  ·rw [nodesL]; omega
theorem yR (s : kD) : ∀ (a acc : List Formula) (k : Int), -1000 ≤ k - (a.length : Int) → k ≤ 1000 → acc.length + a.length ≤ 1000 → nodesL (acc ++ a.filter fun x => !oz 2 x && !oz 3 x) ≤ 64 →
  mq s a k acc = some (let n := k - ((a.filter (oz 2)).length : Int); let l := acc ++ a.filter fun x => !oz 2 x && !oz 3 x; if n ≤ 0 then ⟨2, 0, vp, []⟩ else if n > (l.length : Int) then ⟨3, 0, vp, []⟩ else if n = (l.length : Int) then sL 2 l else if n = 1 then sL 3 l else ⟨4, n, vp, Ay l⟩, s)
 | [], acc, k, h1, g, h, b => by
  simp only [List.filter_nil, bP, bU] at b ⊢
  rw [mq]
  simp only [Int.ofNat_zero, Int.sub_zero, xm, xV, aA, Int.natCast_zero]
  have o := vl acc
  by_cases c1 : k ≤ 0
  ·simp only [c1, cH, aW]; rfl
  ·simp only [c1, cK, aB, aM]
   by_cases c2 : k > (acc.length : Int)
   ·simp only [c2, cH, aW]; rfl
   ·simp only [c2, cK, aB, aM]
    by_cases c : k = (acc.length : Int)
    ·simp only [← c, bJ, aW]
     rw [CE s 2 (.inl rfl) acc b, aA]
    ·have i : (k == (acc.length : Int)) = false := by simpa using c
     simp only [i, aB, aM, c]
     by_cases d : k = 1
     ·simp only [d, bJ, aW]
      rw [CE s 3 (.inr rfl) acc b, aA]
     ·have j : (k == 1) = false := by simpa using d
      simp only [j, aB, aM, d]
      rw [Ic acc (fun x m => by have := yh m; unfold Gd; omega) (by omega)]
      rfl
 | x :: a, acc, k, h1, g, h, b => by
  simp only [aO] at h1 h
  rw [mq, EE, aA, EE, aA]
  rw [fK, fK] at *
  cases c2 : oz 2 x
  ·cases c : oz 3 x
   ·simp only [c2, c, ef, Bool.and_self, aB, aM, aW] at b ⊢
    rw [mJ (by simp; omega) (by simp; omega), aA, yR s a _ k (by omega) g (by simp; omega) (by rw [aN]; exact b)]
    simp only [aN, cA, bO]
   ·simp only [c2, c, ef, bW, Bool.and_false, aB, aM] at b ⊢
    rw [yR s a _ k (by omega) g (by omega) b]
  ·simp only [c2, bW, iw, aB, aM, aW] at b ⊢
   rw [kN (by omega) (by omega), yR s a _ (k - 1) (by omega) (by omega) (by omega) b]
   simp only [aO]
   have e : k - 1 - ((a.filter (oz 2)).length : Int) = k - (((a.filter (oz 2)).length + 1 : Nat) : Int) := by omega
   rw [e]
theorem Ke (s : kD) (k : Int) (hk : 0 ≤ k ∧ k ≤ 1000) (a : List Formula) (h : nodesL a ≤ 64) : pQ s k a = some (wI k a, s) := by
 have := vl a
 have := zI (fun x => !oz 2 x && !oz 3 x) a
 unfold pQ wI
 rw [yR s a [] k (by omega) (by omega) (by simp; omega) (by simpa using by omega)]
 rfl
mutual
noncomputable def sT : Formula → Formula
 | ⟨o, k, r, ks⟩ => if o = 1 then ⟨o, k, r, ks⟩ else if o = 4 then wI k (shapeL ks) else sL o (shapeL ks)
noncomputable def shapeL : List Formula → List Formula
 | [] => []
 | k :: ks => sT k :: shapeL ks
end
theorem CD (f : Formula) : sT f = if f.Op = 1 then f else if f.Op = 4 then wI f.K (shapeL f.Kids) else sL f.Op (shapeL f.Kids) := by cases f; rw [sT]
theorem DS {a b : List Formula} (h : a.Perm b) : nodesL a = nodesL b := by
 induction h with
 | nil => rfl
 | cons x _ ih => rw [nodesL, nodesL, ih]
 | swap x y l => rw [nodesL, nodesL, nodesL, nodesL]; omega
 | trans _ _ h1 c => rw [h1, c]
theorem Bw (eq : Formula → Formula → Bool) : ∀ (l : List Formula) (x : Formula), nodesL (oO eq x l) ≤ nodesL l
 | [], x => aV _
 | y :: l, x => by
  have h1 := Bw eq l y
  have a := Bw eq l x
  rw [oO]
  split
  ·rw [nodesL]; omega
  ·rw [nodesL, nodesL]; omega
theorem Mz (eq : Formula → Formula → Bool) (l : List Formula) : nodesL (dd eq l) ≤ nodesL l := by
 cases l with
 | nil => exact aV _
 | cons x l => have := Bw eq l x; rw [dd, nodesL, nodesL]; omega
theorem zh (op : Int) (a : List Formula) : kG (sL op a) ≤ 1 + nodesL a := by
 unfold sL
 split
 ·rw [kG, nodesL]; omega
 ·have h1 := Mz yG (Ay (rR op a))
  have b := DS (Cy (rR op a))
  have c := BP op a
  generalize dd yG (Ay (rR op a)) = r at *
  split
  ·rename_i x
   rw [nodesL, nodesL] at h1; omega
  ·rw [kG]; omega
theorem GQ (k : Int) (a : List Formula) : kG (wI k a) ≤ 1 + nodesL a := by
 have h := zI (fun x => !oz 2 x && !oz 3 x) a
 unfold wI
 simp only
 generalize a.filter (fun x => !oz 2 x && !oz 3 x) = l at *
 generalize k - ((a.filter (oz 2)).length : Int) = n
 split
 ·rw [kG, nodesL]; omega
 ·split
  ·rw [kG, nodesL]; omega
  ·split
   ·have := zh 2 l; omega
   ·split
    ·have := zh 3 l; omega
    ·have := DS (Cy l); rw [kG]; omega
theorem Ax : ∀ f : Formula, kG (sT f) ≤ kG f := by
 refine MV fun f ih => ?_
 have h : ∀ a : List Formula, (∀ k ∈ a, kG (sT k) ≤ kG k) → nodesL (shapeL a) ≤ nodesL a := by
  intro a
  induction a with
  | nil => intro _; rw [shapeL]; exact aV _
  | cons k a b =>
   intro h
   have := b (fun x c => h x (by simp [c]))
   have := h k (by simp)
   rw [shapeL, nodesL, nodesL]; omega
 have h := h f.Kids ih
 rw [CD, qu f]
 split
 ·rw [qu]; omega
 ·split
  ·have := GQ f.K (shapeL f.Kids); omega
  ·have := zh f.Op (shapeL f.Kids); omega
theorem HA (a : List Formula) : nodesL (shapeL a) ≤ nodesL a := by
 induction a with
 | nil => rw [shapeL]; exact aV _
 | cons k a ih => have := Ax k; rw [shapeL, nodesL, nodesL]; omega
theorem LN : ∀ (n : Nat) (f : Formula), ru f ≤ n → kG f ≤ 64 → vy f = true → ∀ s : kD, mK n s f = some (sT f, s) := by
 intro n
 induction n with
 | zero => intro f h; rw [pD] at h; omega
 | succ n ih =>
  intro f r v hw s
  rw [pD] at r
  have t := qu f
  obtain ⟨h1, q, l⟩ := DQ hw
  rw [mK]
  unfold qK
  rw [CD]
  by_cases c1 : f.Op = 1
  ·simp only [c1, bJ, aW]
  ·have m : (f.Op == 1) = false := by simpa using c1
   simp only [m, aB, aM, c1]
   have key : ∀ (a acc : List Formula), (∀ k ∈ a, k ∈ f.Kids) → wellL a = true → nodesL (acc ++ shapeL a) ≤ 64 → nodesL a ≤ 64 → ng (mK n) f a acc s = some (if f.Op = 4 then wI f.K (acc ++ shapeL a) else sL f.Op (acc ++ shapeL a), s) := by
    intro a
    induction a with
    | nil =>
     intro acc _ _ d _
     rw [shapeL, bP] at *
     rw [ng]
     by_cases g : f.Op = 4
     ·simp only [g, bJ, aW]
      rw [Ke s f.K (by rcases l with h | h | h <;> omega) acc d, aA]
     ·have o : (f.Op == 4) = false := by simpa using g
      simp only [o, aB, aM, g]
      rw [CE s f.Op (by rcases l with h | h | h <;> omega) acc d, aA]
    | cons k a j =>
     intro acc hk b d i
     rw [wellL, bA] at b
     rw [nodesL] at i
     rw [shapeL] at d
     have c := vl (acc ++ sT k :: shapeL a)
     simp only [aD, aO] at c
     rw [ng, ih k (by have := wM (hk k (by simp)); omega) (by omega) b.1 s, aA, mJ (by simp; omega) (by simp; omega), aA,
      j (acc ++ [sT k]) (fun z u => hk z (by simp [u])) b.2 (by rw [aN]; exact d) (by omega), shapeL]
     simp only [aN, cA, bO]
   have := HA f.Kids
   have := key f.Kids [] (fun k hk => hk) q (by simpa using by omega) (by omega)
   simpa using this
def EH : Formula := ⟨0, 0, vp, []⟩
noncomputable def AR (f : Formula) : Formula × Int := if oY f then (if oY (sT f) then (sT f, 0) else (EH, 12)) else (EH, 11)
theorem Jr (f : Formula) (h : Gd f) : wi f = some (AR f) := by
 unfold wi AR
 rw [xQ f h, aA]
 cases b : oY f
 ·rfl
 ·obtain ⟨h1, c, a⟩ := Eh b
  have d := Ax f
  simp only [bW, aB, aM, aW]
  rw [LN kC f (by rw [mU]; omega) h1 a, aA, xQ (sT f) (by omega)]
  have e : (((⟨0⟩ : kD).e) != 0) = false := rfl
  simp only [e, aB, aM, aA]
  cases oY (sT f) <;> rfl
theorem zW {f : Formula} : kG (AR f).1 ≤ 64 := by
 unfold AR
 cases h : oY f
 ·exact by simp only [aB, aM, EH]; rw [kG, nodesL]; omega
 ·obtain ⟨h1, a, b⟩ := Eh h
  have := Ax f
  simp only [aW]
  split
  ·show kG (sT f) ≤ 64; omega
  ·rw [EH, kG, nodesL]; omega
theorem Nt (f g : Formula) (a : kG f ≤ 10000000) (b : kG g ≤ 10000000) : wq f g = some (AR ⟨2, 0, vp, [f, g]⟩) := by
 unfold wq
 have := Jr ⟨2, 0, vp, [f, g]⟩ (by show kG _ ≤ _; rw [kG, nodesL, nodesL, nodesL]; omega)
 rw [show (⟨2, 0, (⟨zS, zS⟩ : jB), [f, g]⟩ : Formula) = ⟨2, 0, vp, [f, g]⟩ from rfl, this]
 rfl
end Go.Proofs.YtmlncblocfcmiaaGreat
namespace Go.Proofs.YtmlncblocfcmiaaGreat
open Go.RowKit
mutual
def Ij (v : jB → Bool) : Formula → Bool
 | ⟨o, k, r, ks⟩ => if o = 1 then v r else if o = 2 then decide (evN v ks = ks.length) else if o = 3 then decide (0 < evN v ks) else decide (k ≤ (evN v ks : Int))
def evN (v : jB → Bool) : List Formula → Nat
 | [] => 0
 | k :: ks => (if Ij v k then 1 else 0) + evN v ks
end
theorem KQ (v : jB → Bool) (f : Formula) : Ij v f = if f.Op = 1 then v f.jB else if f.Op = 2 then decide (evN v f.Kids = f.Kids.length) else if f.Op = 3 then decide (0 < evN v f.Kids) else decide (f.K ≤ (evN v f.Kids : Int)) := by cases f; rw [Ij]
theorem CH (v : jB → Bool) (f1 : jB → Option Bool) (rec : Formula → (jB → Option Bool) → Option Bool) (f : Formula) : ∀ (a : List Formula) (x : Nat), (∀ k ∈ a, rec k f1 = some (Ij v k)) → x + a.length ≤ 100000000 →
  oI rec f1 f a (x : Int) = some (if f.Op = 2 then decide (x + evN v a = f.Kids.length) else if f.Op = 3 then decide (0 < x + evN v a) else decide (f.K ≤ ((x + evN v a : Nat) : Int)))
 | [], x, _, _ => by
  rw [oI, evN, jh]
  by_cases c2 : f.Op = 2
  ·simp only [c2, bJ, aW]
   congr 1
   rw [cP, ji, cI]; omega
  ·have c : (f.Op == 2) = false := by simpa using c2
   simp only [c, aB, aM, c2]
   by_cases b : f.Op = 3
   ·simp only [b, bJ, aW]
    congr 1
    rw [cP, cI, cI]; omega
   ·have g : (f.Op == 3) = false := by simpa using b
    simp only [g, aB, aM, b]
 | k :: a, x, h, i => by
  rw [aO] at i
  rw [oI, h k (by simp), aA, evN]
  cases Ij v k
  ·simp only [aB, aM]
   rw [CH v f1 rec f a x (fun z d => h z (by simp [d])) (by omega), fj]
  ·simp only [aW]
   have e : IntKind.i64.wrap ((x : Int) + 1) = ((x + 1 : Nat) : Int) := by rw [kN (by omega) (by omega)]; omega
   rw [e, CH v f1 rec f a (x + 1) (fun z d => h z (by simp [d])) (by omega)]
   have c : x + 1 + evN v a = x + (1 + evN v a) := by omega
   rw [c]
theorem KV (v : jB → Bool) (f1 : jB → Option Bool) (g : ∀ r, f1 r = some (v r)) : ∀ (n : Nat) (f : Formula), ru f ≤ n → Gd f → pe n f f1 = some (Ij v f) := by
 intro n
 induction n with
 | zero => intro f h; rw [pD] at h; omega
 | succ n ih =>
  intro f b c
  rw [pD] at b
  have d := qu f
  have i := vl f.Kids
  unfold Gd at c
  rw [pe]
  unfold uf
  rw [KQ]
  by_cases c1 : f.Op = 1
  ·simp only [c1, bJ, aW, g, aA]
  ·have a : (f.Op == 1) = false := by simpa using c1
   simp only [a, aB, aM, c1]
   have := CH v f1 (pe n) f f.Kids 0 (fun k hk => ih k (by have := wM hk; omega) (by have := yh hk; unfold Gd; omega)) (by omega)
   simpa using this
def Ds (v : jB → Bool) (f : Formula) : Bool := oY f && Ij v f
theorem Ji (v : jB → Bool) (f1 : jB → Option Bool) (a : ∀ r, f1 r = some (v r)) (f : Formula) (h : Gd f) : sa f f1 = some (Ds v f) := by
 unfold sa Ds
 rw [xQ f h, aA]
 have := Bb f
 cases oY f
 ·rfl
 ·unfold Gd at h
  simp only [aW, KV v f1 a kC f (by rw [mU]; omega) h, aA, fb]
end Go.Proofs.YtmlncblocfcmiaaGreat
namespace Go.Proofs.YtmlncblocfcmiaaGreat
open Go.RowKit
structure PB (p : jI) : Prop where
 yO : p.jV.length ≤ 2000000
 Cp : p.kx.length ≤ 2000000
 rel : ∀ x ∈ p.jV, kG x.jL ≤ 10000000
 Js : ∀ a ∈ p.kx, kG a.jL ≤ 10000000
 OO : ∀ a ∈ p.kx, a.lI.length ≤ 2000000
theorem Er (f : kw → Option Bool) : ∀ (l : List kw) (i : Nat), mM f l i = vV f l i
 | [], i => by rw [mM]; rfl
 | x :: l, i => by
  rw [mM, vV]
  cases f x with
  | none => rfl
  | some b =>
   simp only [aA]
   rw [Er f l (i + 1)]
theorem Ep (f : ml → Option Bool) : ∀ (l : List ml) (i : Nat), nn f l i = vV f l i
 | [], i => by rw [nn]; rfl
 | x :: l, i => by
  rw [nn, vV]
  cases f x with
  | none => rfl
  | some b =>
   simp only [aA]
   rw [Ep f l (i + 1)]
theorem ED {α : Type} (f : α → Option Bool) (p : α → Bool) (l : List α) (h : ∀ x ∈ l, f x = some (p x)) : ((vV f l 0).bind fun c => some (decide (c ≥ 0))) = some (l.any p) := by
 rcases zB f p l 0 h with ⟨e, h1⟩ | ⟨A, x, B, rfl, h1, a, e⟩
 ·rw [e, aA]
  have : l.any p = false := by rw [iS]; intro x b; rw [h1 x b]; simp
  rw [this]; rfl
 ·rw [e, aA]
  have : (A ++ x :: B).any p = true := by simp [a]
  rw [this]
  congr 1
theorem Ki (f : kw → Option Bool) (p : kw → Bool) (l : List kw) (h : ∀ x ∈ l, f x = some (p x)) : oG l f = some (l.any p) := by
 unfold oG nW
 rw [Er]; exact ED f p l h
theorem JG (f : ml → Option Bool) (p : ml → Bool) (l : List ml) (h : ∀ x ∈ l, f x = some (p x)) : pP l f = some (l.any p) := by
 unfold pP pk
 rw [Ep]; exact ED f p l h
def tC (p : jI) (c : jA) : Option kw := p.jV.find? fun x => kp x.Signed.jA c
theorem NG (p : jI) (c : jA) : ∃ z, xe p c = some (match tC p c with | some x => (x, true) | none => (z, false)) := by
 unfold xe nW tC
 rw [Er]
 rcases zB (fun x => uR x c) (fun x => kp x.Signed.jA c) p.jV 0 (fun x _ => rfl) with ⟨e, h1⟩ | ⟨A, x, B, hp, h1, b, e⟩
 ·rw [e, aA, eQ.2 (fun x a => by rw [h1 x a]; simp)]
  exact ⟨_, rfl⟩
 ·rw [e, aA, hp, iR, eQ.2 (fun x a => by rw [h1 x a]; simp), fq, b]
  have : ¬ (((0 + A.length : Nat) : Int) < 0) := by omega
  simp only [this, cK, aB, aM]
  rw [mD A x B _ (by omega)]
  exact ⟨x, rfl⟩
def OH : ml := ⟨⟨zS, zS⟩, ⟨0, 0, ⟨zS, zS⟩, []⟩, []⟩
theorem HO (f : ml → Option Bool) : ∀ (n : Nat) (l : List ml) (i j : Int), nf f n l i j = zx f OH n l i j
 | 0, _, _, _ => rfl
 | n + 1, l, i, j => by
  rw [nf, zx]
  simp only [HO f n]
  rfl
def Ct (p : jI) (c : jA) : List ml := p.kx.filter fun a => mR kp a.lI c
theorem LQ (p : jI) (hp : PB p) (c : jA) : wC p c = some (Ct p c) := by
 have := hp.Cp
 unfold wC sQ Ct
 rw [mJ (by simp; omega) (by simp; omega)]
 simp only [aA, bO, og]
 have : qy p.kx (fun x => qS x c) = CC (fun x => qS x c) OH p.kx := by
  unfold qy CC pk
  simp only [Ep, HO]
 rw [this, BY _ (fun a => !mR kp a.lI c) OH _ (by omega) (fun a _ => by unfold qS rV; rw [og, HE]; rfl)]
 simp only [fJ]
noncomputable def uc : Formula × Int → List Formula → Formula × Int
 | t, [] => t
 | t, g :: l => if t.2 = 0 then uc (AR ⟨2, 0, vp, [t.1, g]⟩) l else t
theorem I7 : ∀ (l : List Formula) (e o k : Int) (r : jB) (a : List Formula), (∀ g ∈ l, kG g ≤ 10000000) → kG ⟨o, k, r, a⟩ ≤ 64 →
  sb l e o k r a = some ((uc (⟨o, k, r, a⟩, e) l).2, (uc (⟨o, k, r, a⟩, e) l).1.Op, (uc (⟨o, k, r, a⟩, e) l).1.K, (uc (⟨o, k, r, a⟩, e) l).1.jB, (uc (⟨o, k, r, a⟩, e) l).1.Kids)
 | [], e, o, k, r, a, _, _ => by rw [sb, uc]
 | g :: l, e, o, k, r, a, h, s => by
  rw [sb, uc]
  by_cases c : e = 0
  ·have b : (e != 0) = false := by simp [c]
   simp only [b, aB, aM, c, aW]
   rw [Nt _ g (by omega) (h g (by simp)), aA]
   have i := zW (f := ⟨2, 0, vp, [⟨o, k, r, a⟩, g]⟩)
   generalize AR ⟨2, 0, vp, [⟨o, k, r, a⟩, g]⟩ = q at *
   obtain ⟨⟨m, k', n, d⟩, e'⟩ := q
   exact I7 l e' m k' n d (fun z j => h z (by simp [j])) i
  ·have b : (e != 0) = true := by simp [c]
   simp only [b, aW, c, aM]
noncomputable def Ey (g : Formula) (l : List Formula) : Formula × Int := if (uc (AR g) l).2 = 0 then uc (AR g) l else (EH, (uc (AR g) l).2)
theorem NT (g : Formula) (l : List Formula) (n : kG g ≤ 10000000) (i : ∀ x ∈ l, kG x ≤ 10000000) : uC (g :: l) = some (Ey g l) := by
 unfold uC Ey
 have d : lj (g :: l) 0 = some g := mD [] g l 0 rfl
 have a : qj (decide (0 ≤ 1) && decide ((1 : Int) ≤ ((g :: l).length : Int))) = some () := by
  rw [aO]
  have : (1 : Int) ≤ ((l.length + 1 : Nat) : Int) := by omega
  simp [qj]; omega
 have j := zW (f := g)
 rw [d, aA, Jr g (by unfold Gd; omega), aA, a, aA]
 generalize AR g = q at *
 obtain ⟨⟨o, k, r, b⟩, e⟩ := q
 have h : (g :: l).drop (Int.toNat 1) = l := rfl
 rw [h, I7 l e o k r b i j, aA]
 generalize uc (⟨o, k, r, b⟩, e) l = t
 obtain ⟨⟨s, k', u, m⟩, e'⟩ := t
 by_cases c : e' = 0
 ·subst c; rfl
 ·have a : (e' != 0) = true := by simp [c]
  simp only [a, aW, c, aM]; rfl
noncomputable def pH (p : jI) (c : jA) : Formula × Int := match tC p c with | none => (EH, 42) | some x => Ey x.jL ((Ct p c).map (·.jL))
theorem Kx : ∀ (l : List ml) (acc : List Formula), acc.length + l.length ≤ 3000000 → sK l acc = uC (acc ++ l.map (·.jL))
 | [], acc, _ => by
  rw [sK, fk, bP]
  cases uC acc <;> rfl
 | a :: l, acc, h => by
  rw [aO] at h
  rw [sK, mJ (by simp; omega) (by simp; omega), aA, Kx l _ (by simp; omega)]
  simp
theorem MF {p : jI} {c : jA} {x : kw} (h : tC p c = some x) : x ∈ p.jV ∧ x.Signed.jA = c := by
 unfold tC at h
 have h1 := fM h
 have a := jo h
 exact ⟨h1, lK.1 a⟩
theorem Hs (p : jI) (hp : PB p) (c : jA) : vM p c = some (pH p c) := by
 unfold vM pH
 obtain ⟨z, e⟩ := NG p c
 rw [e, aA]
 cases h : tC p c with
 | none => rfl
 | some x =>
  simp only [bW, aB, aM]
  have d := MF h
  have i : (Ct p c).length ≤ p.kx.length := dw _ _
  have := hp.Cp
  rw [LQ p hp c, aA, Kx _ _ (by simp; omega)]
  exact NT x.jL _ (hp.rel x d.1) (fun g b => by
   obtain ⟨a, ha, rfl⟩ := bB.1 b
   exact hp.Js a (cV.1 ha).1)
theorem Gm (p : jI) (c : jA) : kG (pH p c).1 ≤ 64 := by
 have a : kG EH ≤ 64 := by rw [EH, kG, nodesL]; omega
 have b : ∀ (l : List Formula) (t : Formula × Int), kG t.1 ≤ 64 → kG (uc t l).1 ≤ 64 := by
  intro l
  induction l with
  | nil => intro t h; exact h
  | cons g l ih =>
   intro t h
   rw [uc]
   split
   ·exact ih _ zW
   ·exact h
 unfold pH
 split
 ·exact a
 ·unfold Ey
  split
  ·exact b _ _ zW
  ·exact a
def vF (F : List jR) (peer : ByteArray) (r : jB) : Bool := mR yU F ⟨r, peer⟩
noncomputable def G1 (p : jI) (v : jB → Bool) (x : kw) : Bool := decide ((pH p x.Signed.jA).2 = 0) && Ds v (pH p x.Signed.jA).1
theorem Dp (p : jI) (hp : PB p) (v : jB → Bool) (m) (a : ∀ r, rz r m.1 m.2.1 m.2.2.1 m.2.2.2.1 m.2.2.2.2.1 m.2.2.2.2.2.1 m.2.2.2.2.2.2 = some (v r)) : ∀ (l : List kw) (acc : List jA), acc.length + l.length ≤ 1000000000 →
  pX p m l acc = oW (acc ++ (l.filter (G1 p v)).map (·.Signed.jA))
 | [], acc, _ => by
  rw [pX, List.filter_nil, fk, bP, og]
 | x :: l, acc, h => by
  rw [aO] at h
  have b := Gm p x.Signed.jA
  rw [pX, Hs p hp, aA, Ji v _ a _ (by unfold Gd; omega), fK]
  unfold G1
  by_cases c : (pH p x.Signed.jA).2 = 0
  ·simp only [c, bJ, aW, cH, fb, aA]
   cases d : Ds v (pH p x.Signed.jA).1
   ·simp only [aB, aM]
    exact Dp p hp v m a l acc (by omega)
   ·simp only [aW]
    rw [mJ (by simp; omega) (by simp; omega), aA, Dp p hp v m a l _ (by simp; omega)]
    simp only [bH, aN, cA, bO]
    rfl
  ·have e : ((pH p x.Signed.jA).2 == 0) = false := by simpa using c
   simp only [e, aB, aM, c, cK, iw, aA]
   exact Dp p hp v m a l acc (by omega)
end Go.Proofs.YtmlncblocfcmiaaGreat
namespace Go.Proofs.YtmlncblocfcmiaaGreat
open Go.RowKit
theorem Gs : ∀ (l m A : List jA), l.length = m.length → ∃ b, ph (A ++ m) l A.length = some b ∧ (b = true ↔ l = m)
 | [], m, A, c => by
  obtain rfl := aU c.symm
  exact ⟨true, rfl, by simp⟩
 | x :: l, [], A, c => by simp at c
 | x :: l, y :: m, A, c => by
  have i1 : lj (A ++ y :: m) (A.length : Int) = some y := mD _ _ _ _ rfl
  rw [ph, i1, aA]
  cases d : kp x y with
  | false =>
   refine ⟨false, rfl, ?_⟩
   have : x ≠ y := fun a => by have := lK.2 a; rw [this] at d; cases d
   simp [this]
  | true =>
   have a := lK.1 d
   obtain ⟨b, g, j⟩ := Gs l m (A ++ [y]) (by simpa using c)
   simp only [bW, aB, aM]
   have h : A ++ y :: m = (A ++ [y]) ++ m := by simp
   have i : A.length + 1 = (A ++ [y]).length := by simp
   rw [h, i, g]
   exact ⟨b, rfl, by rw [j]; simp [a]⟩
theorem Lu (l m : List jA) : ∃ b, ou l m = some b ∧ (b = true ↔ l = m) := by
 unfold ou
 by_cases h : l.length = m.length
 ·have : ((l.length : Int) != (m.length : Int)) = false := by simp [h]
  simp only [this, aB, aM]
  exact Gs l m [] h
 ·have : ((l.length : Int) != (m.length : Int)) = true := by simp; omega
  simp only [this, aW]
  exact ⟨false, rfl, by simp; intro hk; rw [hk] at h; exact h rfl⟩
theorem F7 (l : List jA) (g : l.length ≤ 1000000000) : ∃ b, tI l = some b ∧ (b = true ↔ uu l l) := by
 obtain ⟨s, e, h⟩ := Hu l g
 obtain ⟨b, c, d⟩ := Lu s l
 unfold tI
 rw [e, aA, c]
 refine ⟨b, rfl, d.trans ⟨fun a => ?_, fun a => tw.unique BK h a⟩⟩
 rw [a] at h; exact h
def Oj (l : List kw) : Prop := (∀ x ∈ l, x.Signed.Tag.length = 8 ∧ oY x.jL = true) ∧ uu (l.map (·.Signed.jA)) (l.map (·.Signed.jA))
theorem Ge : ∀ (l : List kw) (acc : List jA), acc.length + l.length ≤ 1000000000 → (∀ x ∈ l, kG x.jL ≤ 10000000) →
  ∃ b, qJ l acc = some b ∧ (b = true ↔ (∀ x ∈ l, x.Signed.Tag.length = 8 ∧ oY x.jL = true) ∧ uu (acc ++ l.map (·.Signed.jA)) (acc ++ l.map (·.Signed.jA)))
 | [], acc, h, _ => by
  obtain ⟨b, e, c⟩ := F7 acc (by omega)
  rw [qJ, e]
  exact ⟨b, rfl, by simpa using c⟩
 | x :: l, acc, h, d => by
  rw [aO] at h
  have i := d x (by simp)
  rw [qJ, xQ _ (by omega)]
  simp only [aA]
  by_cases c1 : x.Signed.Tag.length = 8
  ·have a : ((x.Signed.Tag.length : Int) != 8) = false := by simp [c1]
   simp only [a, aB, aM, aA]
   cases c2 : oY x.jL
   ·refine ⟨false, rfl, ?_⟩
    constructor
    ·intro h; cases h
    ·rintro ⟨h1, _⟩
     have := (h1 x (by simp)).2
     rw [c2] at this; cases this
   ·simp only [bW, aB, aM]
    obtain ⟨b, e, c⟩ := Ge l (acc ++ [x.Signed.jA]) (by simp; omega) (fun z g => d z (by simp [g]))
    rw [mJ (by simp; omega) (by simp; omega), aA, e]
    refine ⟨b, rfl, c.trans ?_⟩
    simp only [aN, cA, bO, bH, cC]
    simp only [c1, c2, true_and]
  ·have a : ((x.Signed.Tag.length : Int) != 8) = true := by simp; omega
   simp only [a, aW, aA]
   refine ⟨false, rfl, ?_⟩
   constructor
   ·intro h; cases h
   ·rintro ⟨h1, _⟩
    exact absurd (h1 x (by simp)).1 c1
def Dc : Option jB → List ml → Prop
 | _, [] => True
 | q, a :: l => (∀ z, q = some z → xE z a.jB = true) ∧ Dc (some a.jB) l
def PS (l : List ml) : Prop := (∀ a ∈ l, lH a.jB = true ∧ oY a.jL = true ∧ uu a.lI a.lI) ∧ Dc none l
theorem N5 (A : List ml) (a : ml) (l : List ml) (k : A.length + 1 + l.length ≤ 1000000000) : ∃ b, (((if (decide ((A.length : Int) > 0)) then ((lj (A ++ a :: l) (IntKind.i64.wrap ((A.length : Int) - 1))).bind fun i => ((nc i.jB a.jB).bind fun d => some (decide (d ≥ 0)))) else some false) : Option Bool).bind fun g => some g) = some b ∧ (b = false ↔ ∀ z, A.getLast?.map (·.jB) = some z → xE z a.jB = true) := by
 rw [og]
 rcases dv A with rfl | ⟨B, y, rfl⟩
 ·exact ⟨false, rfl, by simp⟩
 ·have h1 : ((B ++ [y]).length : Int) > 0 := by simp
  simp only [dU] at *
  simp only [h1, cH, aW]
  have hw : IntKind.i64.wrap (((B ++ [y]).length : Int) - 1) = (B.length : Int) := by rw [kN (by simp) (by simp at *; omega)]; simp
  rw [hw, aN]
  rw [show B ++ ([y] ++ a :: l) = B ++ y :: (a :: l) from rfl, mD B y (a :: l) _ rfl, aA]
  obtain ⟨c, e, h⟩ := tE y.jB a.jB
  rw [e, aA]
  refine ⟨_, rfl, ?_⟩
  simp only [List.getLast?_append, List.getLast?_singleton, Option.some_or, dP, gd]
  rw [decide_eq_false_iff_not]
  constructor
  ·rintro j z rfl; exact h.1 (by omega)
  ·intro j; have := h.2 (j _ rfl); omega
theorem HP (all : List ml) : ∀ (l A : List ml), all = A ++ l → all.length ≤ 1000000000 → (∀ a ∈ l, kG a.jL ≤ 10000000 ∧ a.lI.length ≤ 2000000) →
  ∃ b, rA all l A.length = some b ∧ (b = true ↔ (∀ a ∈ l, lH a.jB = true ∧ oY a.jL = true ∧ uu a.lI a.lI) ∧ Dc (A.getLast?.map (·.jB)) l)
 | [], A, _, _, _ => ⟨true, by rw [rA], by simp [Dc]⟩
 | a :: l, A, c, g, k => by
  have ha := k a (by simp)
  have hlen : A.length + 1 + l.length ≤ 1000000000 := by rw [c] at g; simp at g; omega
  obtain ⟨m, d, j⟩ := N5 A a l hlen
  rw [← c] at d
  obtain ⟨n, o, h1⟩ := F7 a.lI (by omega)
  rw [rA, sU, xQ _ (by omega), o]
  simp only [aA] at d ⊢
  rw [d]
  rw [Dc]
  simp only [cC]
  cases c1 : lH a.jB
  ·exact ⟨false, by simp, by simp⟩
  ·cases c2 : oY a.jL
   ·exact ⟨false, by simp, by simp⟩
   ·cases n with
    | false =>
     refine ⟨false, by simp, ?_⟩
     have : ¬ uu a.lI a.lI := fun h => by have := h1.2 h; cases this
     simp [this]
    | true =>
     have s := h1.1 rfl
     cases m with
     | true =>
      refine ⟨false, by simp, ?_⟩
      constructor
      ·intro h; cases h
      ·rintro ⟨_, h, _⟩
       have := j.2 h; cases this
     | false =>
      have i := j.1 rfl
      obtain ⟨b, e, r⟩ := HP all l (A ++ [a]) (by simp [c]) g (fun z i => k z (by simp [i]))
      rw [aD, List.length_singleton] at e
      refine ⟨b, by simpa using e, r.trans ?_⟩
      simp only [List.getLast?_append, List.getLast?_singleton, Option.some_or, dP, s, true_and]
      exact ⟨fun ⟨p, q⟩ => ⟨p, i, q⟩, fun ⟨p, _, q⟩ => ⟨p, q⟩⟩
def G0 (p : jI) : Bool := decide (256 < p.jV.length) || decide (8 < p.kx.length) || p.kx.any fun a => decide (32 < a.lI.length)
theorem Og (p : jI) : xr p = some (G0 p) := by
 unfold xr G0
 rw [JG _ (fun a => decide (32 < a.lI.length)) _ (fun a _ => by unfold uO; congr 1; rw [cP, cI, cI]; omega)]
 by_cases c1 : 256 < p.jV.length
 ·have : ((p.jV.length : Int) > 256) := by omega
  simp [c1, this]
 ·have : ¬ ((p.jV.length : Int) > 256) := by omega
  by_cases c2 : 8 < p.kx.length
  ·have : ((p.kx.length : Int) > 8) := by omega
   simp [c1, c2, *]
  ·have : ¬ ((p.kx.length : Int) > 8) := by omega
   simp [c1, c2, *]
theorem KZ (p : jI) (hp : PB p) : vr p = some (p.jV.all fun x => decide ((pH p x.Signed.jA).2 = 0)) := by
 unfold vr
 rw [Ki _ (fun x => !decide ((pH p x.Signed.jA).2 = 0)) _ (fun x _ => by
  unfold tF
  rw [Hs p hp, aA]
  rfl), aA, List.all_eq_not_any_not]
structure AQ (p : jI) : Prop where
 name : mE p.Name = true
 OF : G0 p = false
 yO : Oj p.jV
 Cp : PS p.kx
 guards : ∀ x ∈ p.jV, (pH p x.Signed.jA).2 = 0
theorem Gj (p : jI) (hp : PB p) : ∃ e, uq p = some e ∧ (e = 0 ↔ AQ p) := by
 have q := hp.yO
 have n := hp.Cp
 obtain ⟨g, l, h1⟩ := Ge p.jV [] (by simp; omega) hp.rel
 obtain ⟨i, m, k⟩ := HP p.kx p.kx [] rfl (by omega) (fun a ha => ⟨hp.Js a ha, hp.OO a ha⟩)
 have b : yx p = some g := l
 have c : zA p.kx = some i := m
 unfold uq
 rw [rE, aA, Og, b, c, KZ p hp]
 simp only [aA]
 cases c1 : mE p.Name
 ·exact ⟨30, rfl, by simp; intro h; have := h.name; rw [c1] at this; cases this⟩
 ·cases c2 : G0 p
  ·cases g with
   | false => exact ⟨11, rfl, by simp; intro h; have := h1.2 h.yO; cases this⟩
   | true =>
    cases i with
    | false => exact ⟨11, rfl, by simp; intro h; have := k.2 h.Cp; cases this⟩
    | true =>
     cases j : p.jV.all fun x => decide ((pH p x.Signed.jA).2 = 0)
     ·refine ⟨11, rfl, iff_of_false (by decide) (fun h => ?_)⟩
      obtain ⟨x, d, o⟩ := List.all_eq_false.1 j
      simp [h.guards x d] at o
     ·exact ⟨0, rfl, by simp; exact ⟨c1, c2, h1.1 rfl, k.1 rfl, fun x d => by simpa using iY.1 j x d⟩⟩
  ·exact ⟨12, rfl, by simp; intro h; have := h.OF; rw [c2] at this; cases this⟩
end Go.Proofs.YtmlncblocfcmiaaGreat
namespace Go.Proofs.YtmlncblocfcmiaaGreat
open Go.RowKit
structure PG (p : jI) : Prop extends PB p where
 QO : ∀ x ∈ p.jV, wA x.Signed.jA ≤ 1000000000
 QJ : ∀ a ∈ p.kx, ∀ c ∈ a.lI, wA c ≤ 1000000000
end Go.Proofs.YtmlncblocfcmiaaGreat
namespace Go.Proofs.YtmlncblocfcmiaaGreat
open Go.RowKit
noncomputable def vD (l : List jA) (peer : ByteArray) (r : jB) : Bool := @decide (om (l.filter lz) ⟨r, peer⟩) (Classical.propDecidable _)
theorem LC (l : List jA) (peer : ByteArray) (r : jB) : vD l peer r = true ↔ om (l.filter lz) ⟨r, peer⟩ := by unfold vD; simp
theorem PK (l : List jA) (h : l.length ≤ 1000000) (peer : ByteArray) : ∃ m, xl l peer = some m ∧ ∀ r, rz r m.1 m.2.1 m.2.2.1 m.2.2.2.1 m.2.2.2.2.1 m.2.2.2.2.2.1 m.2.2.2.2.2.2 = some (vD l peer r) := by
 obtain ⟨C, T, i, ws, n, e, m, d, _⟩ := Kg l h
 unfold xl
 rw [e, aA]
 refine ⟨_, rfl, fun r => ?_⟩
 unfold rz
 rw [og]
 obtain ⟨b, a, g⟩ := KH m C i ws [] n r peer
 rw [a]
 congr 1
 rw [cP, g, LC]
 exact om.congr (fun c => by rw [d, cV]) _
noncomputable def Gc (p : jI) (v : jB → Bool) (c : jA) : Bool := decide ((pH p c).2 = 0) && Ds v (pH p c).1
def nv (s : List jA) : Prop := s.Pairwise (fun a b => xx a b = true) ∧ ∀ c ∈ s, lz c = true
theorem nv.nodup {s : List jA} (h : nv s) : s.Nodup := te BK h.2 h.1
theorem nv.le {s t : List jA} (h : nv s) (a : ∀ c ∈ s, c ∈ t) : s.length ≤ t.length := me h.nodup a
theorem nv.ext {s t : List jA} (h : nv s) (k : nv t) (b : ∀ c, c ∈ s ↔ c ∈ t) : s = t :=
 tw.unique BK (l := t) ⟨h.1, fun x => ⟨fun a => ⟨(b x).1 a, h.2 x a⟩, fun a => (b x).2 a.1⟩⟩ ⟨k.1, fun x => ⟨fun a => ⟨a, k.2 x a⟩, fun a => a.1⟩⟩
theorem nv.eq {s t : List jA} (h : nv s) (k : nv t) (b : ∀ c ∈ s, c ∈ t) (i : t.length ≤ s.length) : s = t := by
 refine h.ext k fun c => ⟨b c, fun d => ?_⟩
 refine eU fun g => ?_
 have := me (l := c :: s) (m := t) (dn.2 ⟨g, h.nodup⟩) (fun x a => by
  rcases aQ.1 a with rfl | a
  ·exact d
  ·exact b x a)
 simp at this; omega
theorem nv.nil : nv [] := ⟨by simp, by simp⟩
theorem nv.filter {s : List jA} (h : nv s) (p : jA → Bool) : nv (s.filter p) := ⟨h.1.filter _, fun c a => h.2 c (cV.1 a).1⟩
def rk (p : jI) (c : jA) : Prop := ∃ x ∈ p.jV, x.Signed.jA = c
def xf (p : jI) (l : List jA) (peer : ByteArray) (c : jA) : Prop := rk p c ∧ lz c = true ∧ Gc p (vD l peer) c = true
theorem FZ {p : jI} {s : List jA} (h : nv s) (b : ∀ c ∈ s, rk p c) : s.length ≤ p.jV.length := by
 have := h.le (t := p.jV.map (·.Signed.jA)) (fun c a => by obtain ⟨x, d, e⟩ := b c a; exact bB.2 ⟨x, d, e⟩)
 simpa using this
theorem Nf (p : jI) (hp : PB p) (l : List jA) (n : l.length ≤ 1000000) (peer : ByteArray) : ∃ s, pn p l peer = some s ∧ nv s ∧ (∀ c, c ∈ s ↔ xf p l peer c) ∧ s.length ≤ p.jV.length := by
 obtain ⟨m, e, o⟩ := PK l n peer
 have := hp.yO
 unfold pn
 rw [e, aA, Dp p hp _ m o p.jV [] (by simp; omega), bO]
 have h1 : (p.jV.filter (G1 p (vD l peer))).length ≤ p.jV.length := dw _ _
 obtain ⟨s, j, a⟩ := Hu ((p.jV.filter (G1 p (vD l peer))).map (·.Signed.jA)) (by simp; omega)
 have i : nv s := ⟨a.1, fun c d => ((a.2 c).1 d).2⟩
 have hm : ∀ c, c ∈ s ↔ xf p l peer c := fun c => by
  rw [a.2, bB]
  constructor
  ·rintro ⟨⟨x, h, rfl⟩, g⟩
   obtain ⟨k, b⟩ := cV.1 h
   exact ⟨⟨x, k, rfl⟩, g, b⟩
  ·rintro ⟨⟨x, h, rfl⟩, g, b⟩
   exact ⟨⟨x, cV.2 ⟨h, b⟩, rfl⟩, g⟩
 exact ⟨s, j, i, hm, FZ i (fun c d => ((hm c).1 d).1)⟩
end Go.Proofs.YtmlncblocfcmiaaGreat
namespace Go.Proofs.YtmlncblocfcmiaaGreat
open Go.RowKit
def vT : Formula := ⟨2, 0, vp, []⟩
def JZ (l : List kw) (d : jA) : Option Formula := (l.find? fun x => kp x.Signed.jA d).map (·.jL)
theorem Lr (n : ByteArray) (l : List kw) (k : List ml) (c : jA) : rk ⟨n, l, k⟩ c ↔ c ∈ l.map (·.Signed.jA) := by
 unfold rk; rw [bB]
theorem Gv (n : ByteArray) (l : List kw) (c : jA) : pH ⟨n, l, []⟩ c = match JZ l c with | none => (EH, 42) | some r => Ey r [] := by
 unfold pH tC JZ Ct
 simp only
 cases l.find? (fun x => kp x.Signed.jA c) <;> rfl
theorem I3 : Ey vT [] = (vT, 0) := by
 have h1 : oY vT = true := by decide +kernel
 have c : sT vT = vT := by
  rw [CD]
  have a : ¬ (vT.Op = 1) := by decide
  have b : ¬ (vT.Op = 4) := by decide
  simp only [a, b, aM]
  rw [show vT.Kids = [] from rfl, shapeL]
  unfold sL
  rw [rR]
  rfl
 have d : AR vT = (vT, 0) := by unfold AR; rw [h1, c, h1]; rfl
 unfold Ey
 rw [d, uc]; rfl
theorem J7 : kG vT ≤ 10000000 := by unfold vT; rw [kG, nodesL]; omega
end Go.Proofs.YtmlncblocfcmiaaGreat
namespace Go.Proofs.YtmlncblocfcmiaaGreat
open Go.RowKit
def sY : jB := ⟨⟨#[120]⟩, ⟨#[121]⟩⟩
def D6 (c : jA) (f : Formula) : kw := ⟨⟨c, List.replicate 8 0⟩, f⟩
theorem I2 (c d : jA) (f : Formula) : JZ [D6 c f] d = if kp c d then some f else none := by
 unfold JZ
 rw [fq, show (D6 c f).Signed.jA = c from rfl]
 cases kp c d <;> rfl
theorem Kw {n : ByteArray} {c d : jA} {f : Formula} : rk ⟨n, [D6 c f], []⟩ d ↔ d = c := by
 rw [Lr]; show d ∈ [c] ↔ _; simp
theorem Mg {n : ByteArray} {c : jA} (a : lz c = true) (l : List jA) (peer : ByteArray) (d : jA) : xf ⟨n, [D6 c vT], []⟩ l peer d ↔ d = c := by
 unfold xf
 rw [Kw]
 constructor
 ·exact fun h => h.1
 ·rintro rfl
  refine ⟨rfl, a, ?_⟩
  unfold Gc
  rw [Gv, I2, aZ (lK.2 rfl)]
  simp only [I3]
  unfold Ds
  rw [show oY vT = true by decide +kernel, KQ]
  rfl
theorem OT {n : ByteArray} {c : jA} {f : Formula} (h : kG f ≤ 10000000) : PB ⟨n, [D6 c f], []⟩ where
 yO := by simp
 Cp := by simp
 rel := fun x a => by obtain rfl := bM.1 a; exact h
 Js := fun x a => by cases a
 OO := fun x a => by cases a
theorem FC {c : jA} (a : lz c = true) : nv [c] := ⟨by simp, fun x b => by obtain rfl := bM.1 b; exact a⟩
theorem HD {s : List jA} {c : jA} (d : nv s) (h1 : ∀ x ∈ s, x = c) (a : c ∈ s) (b : lz c = true) : s = [c] :=
 d.ext (FC b) (fun x => by
  rw [bM]
  exact ⟨h1 x, fun e => by rw [e]; exact a⟩)
end Go.Proofs.YtmlncblocfcmiaaGreat
namespace Go.Proofs.YtmlncblocfcmiaaGreat
open Go.RowKit
theorem PN {l : List jA} {F : List jR} (h : Pa l F) (peer : ByteArray) : vF F peer = vD l peer := by
 funext r
 rw [cP, LC]
 unfold vF
 rw [pC yb, (h.vO (l.filter lz) (fun c => by rw [cV])).2]
end Go.Proofs.YtmlncblocfcmiaaGreat
