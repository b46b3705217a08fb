/- a part of a proof of OutcomeGets -/
import Derived.Test.YtbnbdigcbldfhaaGreatRtTe
import Derived.Test.YtbnbdigcbldfhaaGreatO8Me
set_option linter.all false
namespace Go.Proofs.YtbnbdigcbldfhaaGreat
open Go.IntKind renaming wrap → wi0
open Go.RowKit
theorem yU {c x : Bool} : (if c = true then some x else some false : Option Bool) = some (c && x) := by cases c <;> rfl
theorem Kn {c x : Bool} : (if c = true then some true else some x : Option Bool) = some (c || x) := by cases c <;> rfl
theorem sR {α : Type} (x : Option α) : (x.bind fun y => some y) = x := by cases x <;> rfl
theorem kp {x : Int} (a : -9223372036854775808 ≤ x) (h1 : x ≤ 9223372036854775807) : wi0 .i64 x = x := IntWalk.i64_in _ (by omega)
theorem tX {α : Type} (A : List α) (x : α) (B : List α) (i : Int) (h : i = (A.length : Int)) : kN (A ++ x :: B) i = some x := by
 subst h; rw [Hx]; simp
theorem qv : jX = 18446744073709551615 + 1 := by rw [nG]
def Dv {α : Type} (f1 : α → Option Bool) (z : α) : Nat → List α → Int → Int → Option (List α)
 | 0, _, _, _ => none
 | n + 1, l, i, j => if decide (j < (l.length : Int)) then
   ((kN l j).bind fun x => (f1 x).bind fun r => if (!r) then (kN l i).bind fun _ => some (l.set (Int.toNat i) x, wi0 .i64 (i + 1)) else some (l, i) : Option (List α × Int)).bind fun (c, a) => Dv f1 z n c a (wi0 .i64 (j + 1))
  else (me (decide (0 ≤ i) && decide (i ≤ (l.length : Int)))).bind fun _ => (me (decide (0 ≤ i) && decide (i ≤ ((mM l (Int.toNat i) z).length : Int)))).bind fun _ => some ((mM l (Int.toNat i) z).take (Int.toNat i))
theorem uT {a b : Int} (c : 0 ≤ a) (h1 : a ≤ b) : me (decide (0 ≤ a) && decide (a ≤ b)) = some () := by simp [me, c, h1]
theorem Ki {α : Type} (f1 : α → Option Bool) (p : α → Bool) (z : α) : ∀ (rest out mid : List α) (n : Nat), rest.length < n → (out ++ mid ++ rest).length < 4611686018427387904 → mid ≠ [] → (∀ x ∈ rest, f1 x = some (p x)) →
  Dv f1 z n (out ++ mid ++ rest) (out.length : Int) ((out.length + mid.length : Nat) : Int) = some (out ++ rest.filter fun x => !p x)
 | [], out, mid, 0, h, _, _, _ => by simp at h
 | [], out, mid, n + 1, _, c, hm, _ => by
  rw [Dv, ai (by simp)]
  have h1 : out.length ≤ (out ++ mid ++ []).length := by simp
  rw [uT (by omega) (by omega)]
  simp only [aa]
  rw [uT (by omega) (by rw [uc _ _ _ (by simpa using h1)]; omega)]
  simp only [aa, dj]
  rw [FY _ _ _ h1]
  simp
 | x :: rest, out, mid, 0, h, _, _, _ => by simp at h
 | x :: rest, out, mid, n + 1, h, c, hm, d => by
  have hlen : (out ++ mid ++ x :: rest).length = out.length + mid.length + rest.length + 1 := by simp; omega
  rw [hlen] at c
  rw [Dv, aj (by rw [hlen]; simp; omega)]
  rw [tX (out ++ mid) x rest _ (by simp)]
  simp only [aa, d x (by simp)]
  rw [kp (x := ((out.length + mid.length : Nat) : Int) + 1) (by omega) (by omega)]
  have ih := Ki f1 p z rest
  cases hp : p x with
  | true =>
   simp only [aU, ae, aq, aa]
   have := ih out (mid ++ [x]) n (by simp at h; omega) (by simp; omega) (by simp) (fun y g => d y (by simp [g]))
   simp only [aC, bF, bt, ah, aA, bG] at this ⊢
   rw [show ((out.length + mid.length : Nat) : Int) + 1 = ((out.length + (mid.length + (0 + 1)) : Nat) : Int) by omega, this]
   simp [hp]
  | false =>
   obtain ⟨m, a, rfl⟩ : ∃ m a, mid = m :: a := by cases mid with
    | nil => exact absurd rfl hm
    | cons m a => exact ⟨m, a, rfl⟩
   simp only [bP, aD]
   rw [aC out (m :: a) (x :: rest), bF]
   rw [tX out m (a ++ x :: rest) _ rfl]
   simp only [aa]
   rw [kp (x := (out.length : Int) + 1) (by omega) (by simp at c; omega)]
   have := ih (out ++ [x]) (a ++ [x]) n (by simp at h; omega) (by simp at c ⊢; omega) (by simp) (fun y g => d y (by simp [g]))
   simp only [aC, bF, bt, ah, aA, bG] at this
   have i : (out ++ m :: (a ++ x :: rest)).set (Int.toNat (out.length : Int)) x = out ++ x :: (a ++ x :: rest) := by
    rw [dj, List.set_append_right _ _ (aM _)]; simp
   rw [i]
   simp only [aA] at c ⊢
   rw [show (out.length : Int) + 1 = ((out.length + (0 + 1) : Nat) : Int) by omega, show ((out.length + (a.length + 1) : Nat) : Int) + 1 = ((out.length + (0 + 1) + (a.length + (0 + 1)) : Nat) : Int) by omega, this]
   simp [hp]
def vZ {α : Type} (f1 : α → Option Bool) : List α → Nat → Option Int
 | [], _ => some (-1)
 | x :: xs, i => (f1 x).bind fun r => if r then some (i : Int) else vZ f1 xs (i + 1)
theorem Bf {α : Type} (f1 : α → Option Bool) (p : α → Bool) : ∀ (l : List α) (i : Nat), (∀ x ∈ l, f1 x = some (p x)) →
  (vZ f1 l i = some (-1) ∧ ∀ x ∈ l, p x = false) ∨ ∃ A x B, l = A ++ x :: B ∧ (∀ y ∈ A, p y = false) ∧ p x = true ∧ vZ f1 l i = some ((i + A.length : Nat) : Int)
 | [], i, _ => .inl ⟨rfl, by simp⟩
 | x :: l, i, h => by
  rw [vZ, h x (by simp)]
  simp only [aa]
  cases hp : p x with
  | true => exact .inr ⟨[], x, l, rfl, by simp, hp, by simp⟩
  | false =>
   simp only [ae, aq]
   rcases Bf f1 p l (i + 1) (fun y a => h y (by simp [a])) with ⟨h1, c⟩ | ⟨A, y, B, rfl, h1, c, g⟩
   ·exact .inl ⟨h1, by intro y a; rcases aB.1 a with rfl | a; exact hp; exact c y a⟩
   ·refine .inr ⟨x :: A, y, B, rfl, ?_, c, ?_⟩
    ·intro z d; rcases aB.1 d with rfl | d
     ·exact hp
     ·exact h1 z d
    ·rw [g]; simp; omega
def HH {α : Type} (f1 : α → Option Bool) (z : α) (l : List α) : Option (List α) :=
 (vZ f1 l 0).bind fun a => if (a == (-1)) then some l else Dv f1 z jX l a (wi0 .i64 (a + 1))
theorem JN {α : Type} (f1 : α → Option Bool) (p : α → Bool) (z : α) (l : List α) (d : l.length < 4611686018427387904) (h : ∀ x ∈ l, f1 x = some (p x)) : HH f1 z l = some (l.filter fun x => !p x) := by
 unfold HH
 rcases Bf f1 p l 0 h with ⟨h1, c⟩ | ⟨A, x, B, rfl, h1, c, g⟩
 ·rw [h1]
  simp only [aa, aO, aD]
  rw [List.filter_eq_self.2 (fun y a => by simp [c y a])]
 ·rw [g]
  simp only [aa, bW]
  rw [ai (by simp), kp (by omega) (by simp at d; omega)]
  have := Ki f1 p z B A [x] jX (by rw [nG]; simp at d; omega) (by simpa using d) (by simp) (fun y a => h y (by simp [a]))
  simp only [aC, bF, bt, aA, bG] at this
  rw [show (A.length : Int) + 1 = ((A.length + (0 + 1) : Nat) : Int) by omega, this]
  have i : A.filter (fun x => !p x) = A := List.filter_eq_self.2 (fun y a => by simp [h1 y a])
  rw [List.filter_append, i]
  simp [c]
def pP {α : Type} (eq : α → α → Bool) : α → List α → List α
 | _, [] => []
 | p, y :: ys => if eq y p then pP eq y ys else y :: pP eq y ys
def dd {α : Type} (eq : α → α → Bool) : List α → List α
 | [] => []
 | x :: xs => x :: pP eq x xs
def As {α : Type} (eq : α → α → Bool) (i : Int) : Nat → List α → Int → Int → Option (List α × Int)
 | 0, _, _, _ => none
 | n + 1, l, k, j => if decide (j < ((l.length - Int.toNat i : Nat) : Int)) then
   ((kN (l.drop (Int.toNat i)) j).bind fun x => (kN (l.drop (Int.toNat i)) (wi0 .i64 (j - 1))).bind fun y => if !(eq x y) then (kN (l.drop (Int.toNat i)) j).bind fun z => (kN l k).bind fun _ => some (l.set (Int.toNat k) z, wi0 .i64 (k + 1)) else some (l, k) : Option (List α × Int)).bind fun (a, k') => As eq i n a k' (wi0 .i64 (j + 1))
  else some (l, k)
def A4 {α : Type} (eq : α → α → Bool) (z : α) (l : List α) : Nat → Int → Option (List α)
 | 0, _ => none
 | n + 1, i => if decide (i < (l.length : Int)) then (kN l i).bind fun x => (kN l (wi0 .i64 (i - 1))).bind fun y => if eq x y then
    (me (decide (0 ≤ i) && decide (i ≤ (l.length : Int)))).bind fun _ => (As eq i jX l i 1).bind fun (a, k) => (me (decide (0 ≤ k) && decide (k ≤ (a.length : Int)))).bind fun _ => (me (decide (0 ≤ k) && decide (k ≤ ((mM a (Int.toNat k) z).length : Int)))).bind fun _ => some ((mM a (Int.toNat k) z).take (Int.toNat k))
   else A4 eq z l n (wi0 .i64 (i + 1))
  else some l
def EF {α : Type} (eq : α → α → Bool) (z : α) (l : List α) : Option (List α) := if decide ((l.length : Int) < 2) then some l else A4 eq z l jX 1
theorem Ji {α : Type} (l : List α) (i : Nat) (j : Int) (a : 0 ≤ j) : kN (l.drop i) j = kN l ((i : Int) + j) := by
 obtain ⟨m, rfl⟩ : ∃ m : Nat, j = m := ⟨j.toNat, by omega⟩
 rw [show (i : Int) + (m : Int) = ((i + m : Nat) : Int) by omega, Hx, Hx, cq]
theorem GA {α : Type} (eq : α → α → Bool) (i : Nat) : ∀ (rest out mid : List α) (p : α) (n : Nat), rest.length < n → (out ++ (mid ++ [p]) ++ rest).length < 4611686018427387904 → 1 ≤ i → i ≤ out.length →
  ∃ c, As eq (i : Int) n (out ++ (mid ++ [p]) ++ rest) (out.length : Int) ((out.length + mid.length + 1 - i : Nat) : Int) = some (c, ((out ++ pP eq p rest).length : Int)) ∧ c.take (out ++ pP eq p rest).length = out ++ pP eq p rest ∧ (out ++ pP eq p rest).length ≤ c.length
 | [], out, mid, p, 0, h, _, _, _ => by simp at h
 | [], out, mid, p, n + 1, h, o, h1, k => by
  rw [As, ai (by simp; omega)]
  exact ⟨out ++ (mid ++ [p]) ++ [], by simp [pP], by simp [pP], by simp [pP]⟩
 | x :: rest, out, mid, p, 0, h, _, _, _ => by simp at h
 | x :: rest, out, mid, p, n + 1, h, o, h1, k => by
  have hlen : (out ++ (mid ++ [p]) ++ x :: rest).length = out.length + mid.length + rest.length + 2 := by simp; omega
  rw [hlen] at o
  rw [As, aj (by rw [hlen]; simp; omega)]
  rw [dj, Ji _ _ _ (by omega), tX (out ++ (mid ++ [p])) x rest _ (by simp; omega)]
  simp only [aa]
  rw [kp (x := ((out.length + mid.length + 1 - i : Nat) : Int) - 1) (by omega) (by omega), Ji _ _ _ (by omega)]
  rw [show out ++ (mid ++ [p]) ++ x :: rest = (out ++ mid) ++ p :: (x :: rest) by simp]
  rw [tX (out ++ mid) p (x :: rest) _ (by simp; omega)]
  simp only [aa]
  rw [kp (x := ((out.length + mid.length + 1 - i : Nat) : Int) + 1) (by omega) (by omega)]
  cases hp : eq x p with
  | true =>
   simp only [aU, ae, aq, aa]
   obtain ⟨c, d, g, j⟩ := GA eq i rest out (mid ++ [p]) x n (by simp at h; omega) (by simp; omega) h1 k
   refine ⟨c, ?_, by rw [pP, hp]; exact g, by rw [pP, hp]; exact j⟩
   rw [pP, hp, aj rfl, ← d]
   congr 1
   ·simp
   ·simp; omega
  | false =>
   simp only [bP, aD]
   obtain ⟨m, a, hm⟩ : ∃ m a, mid ++ [p] = m :: a := by cases mid with
    | nil => exact ⟨p, [], rfl⟩
    | cons m a => exact ⟨m, a ++ [p], rfl⟩
   have s : a.length = mid.length := by have := ay List.length hm; simp at this; omega
   rw [show (out ++ mid) ++ p :: (x :: rest) = out ++ m :: (a ++ x :: rest) by rw [← bF, ← hm]; simp]
   rw [tX out m (a ++ x :: rest) _ rfl]
   simp only [aa]
   rw [kp (x := (out.length : Int) + 1) (by omega) (by omega)]
   have t : (out ++ m :: (a ++ x :: rest)).set (Int.toNat (out.length : Int)) x = (out ++ [x]) ++ (a ++ [x]) ++ rest := by
    rw [dj, List.set_append_right _ _ (aM _)]; simp
   rw [t]
   obtain ⟨c, d, g, j⟩ := GA eq i rest (out ++ [x]) a x n (by simp at h; omega) (by simp; omega) h1 (by simp; omega)
   refine ⟨c, ?_, ?_, ?_⟩
   ·rw [pP, hp, ai (by decide)]
    have q : ((out ++ x :: pP eq x rest).length : Int) = ((out ++ [x] ++ pP eq x rest).length : Int) := by simp
    rw [q, ← d]
    congr 1
    ·simp
    ·simp; omega
   ·rw [pP, hp, ai (by decide)]; simpa using g
   ·rw [pP, hp, ai (by decide)]; simpa using j
theorem KK {α : Type} (eq : α → α → Bool) (z : α) : ∀ (rest pre : List α) (p : α) (n : Nat), rest.length < n → (pre ++ p :: rest).length < 4611686018427387904 →
  A4 eq z (pre ++ p :: rest) n ((pre.length + 1 : Nat) : Int) = some (pre ++ p :: pP eq p rest)
 | [], pre, p, 0, h, _ => by simp at h
 | [], pre, p, n + 1, h, i => by rw [A4, ai (by simp)]; simp [pP]
 | x :: rest, pre, p, 0, h, _ => by simp at h
 | x :: rest, pre, p, n + 1, h, i => by
  have hlen : (pre ++ p :: x :: rest).length = pre.length + rest.length + 2 := by simp; omega
  rw [hlen] at i
  rw [A4, aj (by rw [hlen]; simp; omega)]
  rw [show pre ++ p :: x :: rest = (pre ++ [p]) ++ x :: rest by simp, tX (pre ++ [p]) x rest _ (by simp)]
  simp only [aa]
  rw [kp (x := ((pre.length + 1 : Nat) : Int) - 1) (by omega) (by omega)]
  rw [show (pre ++ [p]) ++ x :: rest = pre ++ p :: (x :: rest) by simp, tX pre p (x :: rest) _ (by omega)]
  simp only [aa]
  cases hp : eq x p with
  | true =>
   simp only [aD]
   rw [uT (by omega) (by rw [hlen]; omega)]
   simp only [aa]
   obtain ⟨j, a, g, d⟩ := GA eq (pre.length + 1) rest (pre ++ [p]) [] x jX (by rw [nG]; omega) (by simp; omega) (by omega) (by simp)
   simp only [aC, bF, bt, ah, aA, bG] at a g d
   rw [show (pre.length + (0 + 1) + 0 + 1 - (pre.length + 1) : Nat) = 1 by omega] at a
   rw [show ((pre.length + 1 : Nat) : Int) = ((pre.length + (0 + 1) : Nat) : Int) by omega] at *
   have c : As eq ((pre.length + (0 + 1) : Nat) : Int) jX (pre ++ p :: x :: rest) ((pre.length + (0 + 1) : Nat) : Int) 1 = _ := a
   rw [c]
   simp only [aa]
   rw [uT (by omega) (by omega)]
   simp only [aa, dj]
   rw [uT (by omega) (by rw [uc _ _ _ d]; omega)]
   simp only [aa]
   rw [FY _ _ _ d, g, pP, hp]
   simp
  | false =>
   simp only [ae, aq]
   rw [kp (x := ((pre.length + 1 : Nat) : Int) + 1) (by omega) (by omega)]
   have := KK eq z rest (pre ++ [p]) x n (by simp at h; omega) (by simp; omega)
   simp only [aC, bF, bt, ah, aA, bG] at this
   rw [show ((pre.length + 1 : Nat) : Int) + 1 = ((pre.length + (0 + 1) + 1 : Nat) : Int) by omega, this, pP, hp]
   simp
theorem Gy {α : Type} (eq : α → α → Bool) (z : α) (l : List α) (a : l.length < 4611686018427387904) : EF eq z l = some (dd eq l) := by
 unfold EF
 cases l with
 | nil => rfl
 | cons x xs =>
  cases xs with
  | nil => simp [dd, pP]
  | cons y ys =>
   rw [ai (by simp; omega)]
   have := KK eq z (y :: ys) [] x jX (by rw [nG]; simp at a ⊢; omega) (by simpa using a)
   simpa [dd] using this
structure Am {α : Type} (lt : α → α → Prop) (P : α → Prop) : Prop where
 irrefl : ∀ x, P x → ¬ lt x x
 trans : ∀ x y z, P x → P y → P z → lt x y → lt y z → lt x z
 total : ∀ x y, P x → P y → lt x y ∨ x = y ∨ lt y x
def tO {α : Type} (lt : α → α → Prop) (P : α → Prop) (l out : List α) : Prop := out.Pairwise lt ∧ ∀ x, x ∈ out ↔ x ∈ l ∧ P x
theorem tO.unique {α : Type} {lt : α → α → Prop} {P : α → Prop} (H : Am lt P) : ∀ {l a b : List α}, tO lt P l a → tO lt P l b → a = b := by
 have key : ∀ a b : List α, (∀ x ∈ a, P x) → a.Pairwise lt → b.Pairwise lt → (∀ x, x ∈ a ↔ x ∈ b) → a = b := by
  intro a
  induction a with
  | nil => intro b _ _ _ hm; cases b with
   | nil => rfl
   | cons y ys => exact absurd ((hm y).2 (by simp)) (by simp)
  | cons x xs ih =>
   intro b n j k hm
   cases b with
   | nil => exact absurd ((hm x).1 (by simp)) (by simp)
   | cons y ys =>
    have o : P y := n y ((hm y).2 (by simp))
    have c : P x := n x (by simp)
    have d := dP.1 j
    have g := dP.1 k
    have p : x = y := by
     rcases aB.1 ((hm x).1 (by simp)) with h | h
     ·exact h
     ·rcases aB.1 ((hm y).2 (by simp)) with m | m
      ·exact m.symm
      ·exact absurd (H.trans x y x c o c (d.1 y m) (g.1 x h)) (H.irrefl x c)
    subst p
    congr 1
    refine ih ys (fun z i => n z (by simp [i])) d.2 g.2 (fun z => ?_)
    constructor
    ·intro i
     rcases aB.1 ((hm z).1 (by simp [i])) with h | h
     ·subst h; exact absurd (d.1 z i) (H.irrefl z c)
     ·exact h
    ·intro i
     rcases aB.1 ((hm z).2 (by simp [i])) with h | h
     ·subst h; exact absurd (g.1 z i) (H.irrefl z c)
     ·exact h
 intro l a b j k
 exact key a b (fun x q => ((j.2 x).1 q).2) j.1 k.1 (fun x => (j.2 x).trans (k.2 x).symm)
theorem Ds {α : Type} {eq : α → α → Bool} (he : ∀ x y, eq x y = true ↔ x = y) : ∀ (l : List α) (p x : α), x ∈ p :: pP eq p l ↔ x ∈ p :: l
 | [], p, x => by simp [pP]
 | y :: l, p, x => by
  rw [pP]
  split
  ·rename_i h
   have := (he y p).1 h
   subst this
   rw [Ds he l y x]; simp
  ·have := Ds he l y x
   simp only [aB] at this ⊢
   rw [this]
theorem RT {α : Type} {eq : α → α → Bool} (he : ∀ x y, eq x y = true ↔ x = y) (l : List α) (x : α) : x ∈ dd eq l ↔ x ∈ l := by
 cases l with
 | nil => simp [dd]
 | cons y l => exact Ds he l y x
theorem Ca {α : Type} {eq : α → α → Bool} {lt : α → α → Prop} {P : α → Prop} (he : ∀ x y, eq x y = true ↔ x = y) (H : Am lt P) : ∀ (l : List α) (p : α), (∀ x ∈ p :: l, P x) → (p :: l).Pairwise (fun a b => ¬ lt b a) → (p :: pP eq p l).Pairwise lt
 | [], p, _, _ => by simp [pP]
 | y :: l, p, c, n => by
  have h1 := dP.1 n
  rw [pP]
  split
  ·rename_i h
   have := (he y p).1 h
   subst this
   exact Ca he H l y (fun x i => c x (cI _ i)) h1.2
  ·rename_i h
   have ih := Ca he H l y (fun x i => c x (cI _ i)) h1.2
   refine dP.2 ⟨fun z m => ?_, ih⟩
   have g : lt p y := by
    rcases H.total p y (c p (by simp)) (c y (by simp)) with d | d | d
    ·exact d
    ·exact absurd ((he y p).2 d.symm) h
    ·exact absurd d (h1.1 y (by simp))
   rcases aB.1 m with rfl | j
   ·exact g
   ·have k : z ∈ y :: l := (Ds he l y z).1 m
    exact H.trans p y z (c p (by simp)) (c y (by simp)) (c z (cI _ k)) g ((dP.1 ih).1 z j)
theorem NN {α : Type} {eq : α → α → Bool} {lt : α → α → Prop} {P : α → Prop} (he : ∀ x y, eq x y = true ↔ x = y) (H : Am lt P) (l : List α) (c : ∀ x ∈ l, P x) (d : l.Pairwise (fun a b => ¬ lt b a)) : (dd eq l).Pairwise lt := by
 cases l with
 | nil => simp [dd]
 | cons y l => exact Ca he H l y c d
theorem IC {α : Type} {le : α → α → Bool} {P : α → Prop} (i : ∀ a b c, P a → P b → P c → le a b = true → le b c = true → le a c = true) (h : ∀ a b, P a → P b → (le a b || le b a) = true) (l : List α) (d : ∀ x ∈ l, P x) :
  (l.mergeSort le).Pairwise (fun a b => le a b = true) := by
 have e : l = (l.attachWith P d).map Subtype.val := by simp
 have hm : ((l.attachWith P d).mergeSort fun a b => le a.1 b.1).map Subtype.val = l.mergeSort le := by
  conv => rhs; rw [e]
  exact eQ (fun a _ b _ => rfl)
 rw [← hm, dX]
 exact fi (le := fun (a b : {x // P x}) => le a.1 b.1) (fun a b c h1 g => i a.1 b.1 c.1 a.2 b.2 c.2 h1 g) (fun a b => h a.1 b.1 a.2 b.2) _
theorem zJ {α : Type} {eq : α → α → Bool} {lt : α → α → Prop} {P : α → Prop} {cf : α × α → Option Int} {l : List α} (he : ∀ x y, eq x y = true ↔ x = y) (H : Am lt P) (g : ∀ x ∈ l, P x) (D : l.length < 4611686018427387904) (A : ∀ x y, P x → P y → ∃ c, cf (x, y) = some c ∧ (c < 0 ↔ lt x y)) : ∃ s, w8 cf l = some s ∧ s.length = l.length ∧ tO lt P l (dd eq s) := by
 have j : ∀ x y, P x → P y → (rX cf x y = true ↔ lt x y) := fun x y i n => by
  obtain ⟨c, h1, m⟩ := A x y i n
  unfold rX
  rw [h1]
  simpa using m
 have d : ∀ x y, P x → P y → (rX cf x y = false ↔ ¬ lt x y) := fun x y i n => by
  rw [← j x y i n]; simp
 have ok : ED cf l := by
  refine ⟨fun x i y n => ?_, fun x i => ?_, fun x i y n z v h1 m => ?_, fun x i y n h1 m => ?_, D⟩
  ·obtain ⟨c, h1, _⟩ := A x y (g x i) (g y n); exact ⟨c, h1⟩
  ·exact (d x x (g x i) (g x i)).2 (H.irrefl x (g x i))
  ·rw [j _ _ (g x i) (g y n)] at h1
   rw [j _ _ (g y n) (g z v)] at m
   rw [j _ _ (g x i) (g z v)]
   exact H.trans x y z (g x i) (g y n) (g z v) h1 m
  ·rw [d _ _ (g x i) (g y n)] at h1
   rw [d _ _ (g y n) (g x i)] at m
   rcases H.total x y (g x i) (g y n) with h | h | h
   ·exact absurd h h1
   ·exact h
   ·exact absurd h m
 refine ⟨_, KT ok, by simp [oY], ?_, ?_⟩
 ·have k : ∀ x, x ∈ oY cf l ↔ x ∈ l := fun x => by simp [oY]
  refine NN he H _ (fun x i => g x ((k x).1 i)) ?_
  have := IC (le := fun x y => !rX cf y x) (P := P) (fun a b c o p q h1 m => ?_) (fun a b o p => ?_) l g
  ·refine (this.imp_of_mem ?_ : _)
   intro a b o p h
   have t : a ∈ l := (k a).1 o
   have u : b ∈ l := (k b).1 p
   simp at h
   exact (d b a (g b u) (g a t)).1 h
  ·simp at h1 m ⊢
   rw [d _ _ p o] at h1
   rw [d _ _ q p] at m
   rw [d _ _ q o]
   intro w
   rcases H.total a b o p with h | h | h
   ·exact m (H.trans c a b q o p w h)
   ·subst h; exact m w
   ·exact h1 h
  ·simp only [dz, Bool.not_eq_true']
   rw [d _ _ p o, d _ _ o p]
   by_cases h : lt b a
   ·right; intro m; exact H.irrefl a o (H.trans a b a o p o m h)
   ·exact .inl h
 ·intro x
  rw [RT he]
  constructor
  ·intro i
   have : x ∈ l := by simpa [oY] using i
   exact ⟨this, g x this⟩
  ·intro i; simpa [oY] using i.1
theorem EP : ∀ a : List UInt8, Op.bytesLess a a = false
 | [] => rfl
 | x :: a => by simp [Op.bytesLess, EP a]
theorem KH (x y : UInt8) : x < y ∨ x = y ∨ y < x := by
 rcases Nat.lt_trichotomy x.toNat y.toNat with h | h | h
 ·exact .inl h
 ·exact .inr (.inl (UInt8.toNat_inj.1 h))
 ·exact .inr (.inr h)
theorem F4 : ∀ a b c : List UInt8, Op.bytesLess a b = true → Op.bytesLess b c = true → Op.bytesLess a c = true
 | [], [], c, h1, _ => by simp [Op.bytesLess] at h1
 | _ :: _, [], c, h1, _ => by simp [Op.bytesLess] at h1
 | a, _ :: _, [], _, d => by simp [Op.bytesLess] at d
 | [], b :: g, c :: cs, _, _ => rfl
 | a :: ax, b :: g, c :: cs, h1, d => by
  simp only [Op.bytesLess, dz, bk, az, eP] at h1 d ⊢
  rcases h1 with h1 | ⟨rfl, h1⟩
  ·rcases d with d | ⟨rfl, d⟩
   ·exact .inl (UInt8.lt_trans h1 d)
   ·exact .inl h1
  ·rcases d with d | ⟨rfl, d⟩
   ·exact .inl d
   ·exact .inr ⟨rfl, F4 ax g cs h1 d⟩
theorem F6 : ∀ a b : List UInt8, Op.bytesLess a b = true ∨ a = b ∨ Op.bytesLess b a = true
 | [], [] => .inr (.inl rfl)
 | [], _ :: _ => .inl rfl
 | _ :: _, [] => .inr (.inr rfl)
 | a :: ax, b :: c => by
  simp only [Op.bytesLess, dz, bk, az, eP, bB]
  rcases KH a b with h | h | h
  ·exact .inl (.inl h)
  ·subst h
   rcases F6 ax c with h | h | h
   ·exact .inl (.inr ⟨rfl, h⟩)
   ·exact .inr (.inl ⟨rfl, h⟩)
   ·exact .inr (.inr (.inr ⟨rfl, h⟩))
  ·exact .inr (.inr (.inl h))
theorem Fm : ∀ a b : List UInt8, (Lib.compareBytes a b < 0 ↔ Op.bytesLess a b = true)
 | [], [] => by simp [Lib.compareBytes, Op.bytesLess]
 | [], _ :: _ => by simp [Lib.compareBytes, Op.bytesLess]
 | _ :: _, [] => by simp [Lib.compareBytes, Op.bytesLess]
 | a :: ax, b :: g => by
  simp only [Lib.compareBytes, Op.bytesLess, dz, bk, az, eP]
  by_cases h : a < b
  ·simp [h]
  ·by_cases d : b < a
   ·have : a ≠ b := by rintro rfl; exact h d
    simp [h, d, this]
   ·have : a = b := by rcases KH a b with c | c | c; exact absurd c h; exact c; exact absurd c d
    subst this
    simp [h, Fm ax g]
theorem Gv : ∀ a b : List UInt8, (Lib.compareBytes a b = 0 ↔ a = b)
 | [], [] => by simp [Lib.compareBytes]
 | [], _ :: _ => by simp [Lib.compareBytes]
 | _ :: _, [] => by simp [Lib.compareBytes]
 | a :: ax, b :: g => by
  simp only [Lib.compareBytes, bB]
  by_cases h : a < b
  ·simp only [h, aD]
   constructor
   ·intro h; cases h
   ·rintro ⟨rfl, _⟩; exact absurd h (by simp)
  ·by_cases d : b < a
   ·simp only [h, d, aD, aq]
    constructor
    ·intro h; cases h
    ·rintro ⟨rfl, _⟩; exact absurd d (by simp)
   ·have : a = b := by rcases KH a b with c | c | c; exact absurd c h; exact c; exact absurd c d
    subst this
    simp [h, Gv ax g]
theorem zj (a b : ByteArray) : oQ a b = Op.bytesLess a.data.toList b.data.toList := by unfold oQ; rw [dJ, dJ]
theorem yh {a b : ByteArray} (h : a.data.toList = b.data.toList) : a = b := ij (Array.toList_inj.1 h)
theorem sK (a : ByteArray) : oQ a a = false := by rw [zj, EP]
theorem z6 {a b c : ByteArray} (h1 : oQ a b = true) (d : oQ b c = true) : oQ a c = true := by rw [zj] at *; exact F4 _ _ _ h1 d
theorem zN (a b : ByteArray) : oQ a b = true ∨ a = b ∨ oQ b a = true := by
 rw [zj, zj]
 rcases F6 a.data.toList b.data.toList with h | h | h
 ·exact .inl h
 ·exact .inr (.inl (yh h))
 ·exact .inr (.inr h)
theorem Ij {a b : ByteArray} (h : oQ a b = true) : oQ b a = false := by
 cases c : oQ b a with
 | false => rfl
 | true => have := z6 h c; rw [sK] at this; cases this
theorem Fv (P : ByteArray → Prop) : Am (fun a b => oQ a b = true) P :=
 ⟨fun x _ h => (by rw [sK] at h; cases h), fun x y z _ _ _ => z6, fun x y _ _ => zN x y⟩
def Bh (b : UInt8) : Bool := decide (97 ≤ b.toNat) && decide (b.toNat ≤ 122)
def CV (b : UInt8) : Bool := Bh b || (decide (48 ≤ b.toNat) && decide (b.toNat ≤ 57)) || decide (b.toNat = 45)
def kR (s : ByteArray) : Bool := decide (1 ≤ s.size) && decide (s.size ≤ 16) && (match s.data.toList with | [] => false | b :: _ => Bh b) && s.data.toList.all CV
theorem lB {s : ByteArray} (h : kR s = true) : 1 ≤ s.size ∧ s.size ≤ 16 := by
 simp only [kR, az, bk] at h
 exact h.1.1
theorem MW : ∀ n : Nat, n < 256 → decide (xf (⟨#[97, 98, 99, 100, 101, 102, 103, 104, 105, 106, 107, 108, 109, 110, 111, 112, 113, 114, 115, 116, 117, 118, 119, 120, 121, 122]⟩ : ByteArray) (n : Int) ≥ 0) = Bh (UInt8.ofNat n) := by decide +kernel
theorem Qa : ∀ n : Nat, n < 256 → decide (xf (⟨#[97, 98, 99, 100, 101, 102, 103, 104, 105, 106, 107, 108, 109, 110, 111, 112, 113, 114, 115, 116, 117, 118, 119, 120, 121, 122, 48, 49, 50, 51, 52, 53, 54, 55, 56, 57, 45]⟩ : ByteArray) (n : Int) < 0) = !CV (UInt8.ofNat n) := by decide +kernel
theorem wP (s : ByteArray) : s.size = s.data.toList.length := by rw [bL]; rfl
theorem Cg {s : ByteArray} (h : s.size ≤ 16) : CZ s = some (sE s) := by
 unfold CZ; rw [aj (by unfold maxLen; omega)]
theorem JP : ∀ l : List UInt8, uY (l.map fun b => (b.toNat : Int)) = some (l.all CV)
 | [] => rfl
 | b :: l => by
  rw [aQ, uY]
  simp only [qX, nL, aa]
  have a := Qa b.toNat (gS b)
  rw [a]
  simp only [ig, dI]
  cases CV b with
  | true => simp [JP l]
  | false => simp
theorem Ih {s : ByteArray} {b : UInt8} {l : List UInt8} (h : s.data.toList = b :: l) : yX s 0 = some b := by
 unfold yX
 rw [aj (gX 0)]
 have a : s.data[0]? = some b := by rw [← bT, h]; rfl
 show s[0]? = some b
 rw [← a]
 rfl
theorem qE (s : ByteArray) : oH s = some (kR s) := by
 unfold oH
 simp only [yU, aa, sR]
 by_cases h1 : 1 ≤ s.size
 ·by_cases a : s.size ≤ 16
  ·rw [aj (by simp; omega)]
   obtain ⟨b, l, c⟩ : ∃ b l, s.data.toList = b :: l := by
    cases h : s.data.toList with
    | nil => rw [wP, h] at h1; simp at h1
    | cons b l => exact ⟨b, l, rfl⟩
   rw [Ih c]
   simp only [aa, qX, nL]
   rw [MW b.toNat (gS b)]
   simp only [ig, kR, h1, a, c, cK, cV]
   cases Bh b with
   | false => simp
   | true =>
    simp only [aD, B6, Cg a, aa, sE]
    rw [JP, c]
    simp
  ·rw [ai (by simp; omega)]
   simp [kR, a]
 ·rw [ai (by simp; omega)]
  simp [kR, h1]
theorem Lx {s : ByteArray} {A B : List UInt8} {b : UInt8} (h : s.data.toList = A ++ b :: B) (i : Int) (hi : i = (A.length : Int)) : yX s i = some b := by
 subst hi
 unfold yX
 rw [aj (by omega), dj]
 have a : s.data[A.length]? = some b := by rw [← bT, h]; simp
 show s[A.length]? = some b
 rw [← a]
 rfl
theorem ES (s : ByteArray) (v : s.size ≤ 16) : ∀ (B A : List UInt8) (n : Nat), s.data.toList = A ++ B → B.length < n → pL s n (A.length : Int) = some (B.all CV)
  | [], A, 0, _, h => by simp at h
  | [], A, n + 1, h, _ => by
    have : s.size = A.length := by rw [wP, h]; simp
    rw [pL, ai (by rw [this]; simp)]
    rfl
  | b :: B, A, 0, _, h => by simp at h
  | b :: B, A, n + 1, h, u => by
    have k : s.size = A.length + B.length + 1 := by rw [wP, h]; simp; omega
    rw [pL, aj (by rw [k]; simp; omega)]
    rw [Lx h _ rfl]
    simp only [aa]
    rw [kp (x := (A.length : Int) + 1) (by omega) (by omega)]
    have ih := ES s v B (A ++ [b]) n (by rw [h]; simp) (by simp at u; omega)
    rw [show ((A ++ [b]).length : Int) = (A.length : Int) + 1 by simp] at ih
    simp only [dI]
    have j : ∀ n : Nat, n < 256 → CV (UInt8.ofNat n) = !((decide (n < 97) || decide (n > 122)) && (decide (n < 48) || decide (n > 57)) && decide (n ≠ 45)) := by decide +kernel
    have m := j b.toNat (gS b)
    simp only [ig] at m
    rw [m]
    by_cases h1 : b.toNat < 97 <;> by_cases o : b.toNat > 122 <;> by_cases p : b.toNat < 48 <;> by_cases q : b.toNat > 57 <;> by_cases t : b.toNat = 45 <;>
      first
      | omega
      | (have a : ((b.toNat : Int) < 97) = (b.toNat < 97) := by rw [gT]; omega
         have c : ((b.toNat : Int) > 122) = (b.toNat > 122) := by rw [gT]; omega
         have d : ((b.toNat : Int) < 48) = (b.toNat < 48) := by rw [gT]; omega
         have g : ((b.toNat : Int) > 57) = (b.toNat > 57) := by rw [gT]; omega
         have i : ((b.toNat : Int) != 45) = !decide (b.toNat = 45) := by rw [aK]; simp; omega
         simp [h1, o, p, q, t, a, c, d, g, i, ih])
theorem vj (a : ByteArray) : ke a a = true := kK.2 rfl
theorem Rj : zS.size = 0 := rfl
theorem QB {s : ByteArray} : s = zS ↔ s.size = 0 := by
 constructor
 ·rintro rfl; rfl
 ·intro h; exact yh (by rw [wP] at h; rw [cA.1 h]; rfl)
theorem tz (s : ByteArray) : oP s = some (kR s) := by
 unfold oP
 simp only [Kn, aa, sR]
 by_cases g : s.size = 0
 ·have : s = zS := QB.2 g
  subst this
  rw [vj]
  rfl
 ·have n : ke s zS = false := by
   cases h : ke s zS with
   | false => rfl
   | true => exact absurd (QB.1 (kK.1 h)) g
  rw [n]
  simp only [iE]
  by_cases i : s.size ≤ 16
  ·rw [ai (by simp; omega)]
   obtain ⟨b, l, k⟩ : ∃ b l, s.data.toList = b :: l := by
    cases h : s.data.toList with
    | nil => rw [wP, h] at g; simp at g
    | cons b l => exact ⟨b, l, rfl⟩
   rw [Ih k]
   simp only [aa, Kn]
   have m := ES s i s.data.toList [] jX rfl (by rw [nG, ← wP]; omega)
   simp only [bG] at m
   rw [show (0 : Int) = ((0 : Nat) : Int) from rfl] at *
   rw [m]
   have j : ((b.toNat : Int) < 97) = (b.toNat < 97) := by rw [gT]; omega
   have d : ((b.toNat : Int) > 122) = (b.toNat > 122) := by rw [gT]; omega
   have h1 : 1 ≤ s.size := by omega
   simp only [kR, h1, i, k, Bh, cK, cV, j, d]
   by_cases a : b.toNat < 97
   ·simp [a, show ¬ 97 ≤ b.toNat by omega]
   ·by_cases c : b.toNat > 122
    ·simp [a, c, show ¬ b.toNat ≤ 122 by omega]
    ·simp [a, c, show 97 ≤ b.toNat by omega, show b.toNat ≤ 122 by omega]
  ·rw [aj (by simp; omega)]
   simp [kR, i]
def kB (r : ja) : Bool := kR r.jn && kR r.jK
theorem rY (r : ja) : nS r = some (kB r) := by
 unfold nS kB
 simp only [qE, aa]
 cases kR r.jn <;> simp
theorem xS (r : ja) : qN r = some (kB r) := by
 unfold qN kB
 simp only [tz, aa]
 cases kR r.jn <;> simp
def Ax (a b : ja) : Bool := oQ a.jn b.jn || (ke a.jn b.jn && oQ a.jK b.jK)
theorem BF (a b : ja) : wK a b = some (Ax a b) := by
 unfold wK Ax
 cases oQ a.jn b.jn <;> cases ke a.jn b.jn <;> simp
theorem LY {a b : ByteArray} (h : a ≠ b) : ke a b = false := by
 cases c : ke a b with
 | false => rfl
 | true => exact absurd (kK.1 c) h
theorem AS {a b : ja} : Ax a b = true ↔ oQ a.jn b.jn = true ∨ (a.jn = b.jn ∧ oQ a.jK b.jK = true) := by
 simp [Ax, kK]
theorem I9 (P : ja → Prop) : Am (fun a b => Ax a b = true) P := by
 refine ⟨fun x _ h => ?_, fun x y z _ _ _ h1 c => ?_, fun x y _ _ => ?_⟩
 ·rw [AS] at h
  simp [sK] at h
 ·rw [AS] at *
  rcases h1 with h1 | ⟨g, h1⟩
  ·rcases c with c | ⟨d, c⟩
   ·exact .inl (z6 h1 c)
   ·exact .inl (by rw [← d]; exact h1)
  ·rcases c with c | ⟨d, c⟩
   ·exact .inl (by rw [g]; exact c)
   ·exact .inr ⟨g.trans d, z6 h1 c⟩
 ·simp only [AS]
  rcases zN x.jn y.jn with h | h | h
  ·exact .inl (.inl h)
  ·rcases zN x.jK y.jK with c | c | c
   ·exact .inl (.inr ⟨h, c⟩)
   ·refine .inr (.inl ?_)
    cases x; cases y; simp at h c; simp [h, c]
   ·exact .inr (.inr (.inr ⟨h.symm, c⟩))
  ·exact .inr (.inr (.inl h))
theorem uO (a b : ja) : ∃ c, mq a b = some c ∧ (c < 0 ↔ Ax a b = true) := by
 unfold mq
 simp only [pd, my, aa, tl, sb]
 have h1 : ∀ a b : ByteArray, (oA a b < 0 ↔ oQ a b = true) := fun a b => by rw [zj]; exact Fm _ _
 have g : ∀ a b : ByteArray, (oA a b = 0 ↔ a = b) := fun a b => by
  unfold oA; rw [Gv]; exact ⟨yh, fun h => by rw [h]⟩
 by_cases e : oA a.jn b.jn = 0
 ·rw [ai (by simp [e])]
  have e' := (g _ _).1 e
  by_cases d : oA a.jK b.jK = 0
  ·rw [ai (by simp [d])]
   refine ⟨0, rfl, ?_⟩
   rw [AS, e', (g _ _).1 d]
   simp [sK]
  ·rw [aj (by simp [d])]
   refine ⟨_, rfl, ?_⟩
   rw [AS, e', h1]
   simp [sK]
 ·rw [aj (by simp [e])]
  refine ⟨_, rfl, ?_⟩
  rw [AS, h1]
  have : a.jn ≠ b.jn := fun h => e ((g _ _).2 h)
  simp [this]
def zR : ja := ⟨zS, zS⟩
theorem Ic (a b : ByteArray) : ke a b = ke b a := by rw [aK, kK, kK]; exact iP
theorem E3 (a b : ja) : jt a b = jt b a := by rw [aK, jB, jB]; exact iP
theorem tE (a : ja) : jt a a = true := jB.2 rfl
def kc (c : jb) : Bool := kB c.Head && (
 if c.Kind == 1 then kR c.jL && jt zR c.B && jt zR c.C && ke zS c.kk
 else if c.Kind == 2 then kB c.B && ke zS c.jL && jt zR c.C && ke zS c.kk
 else if c.Kind == 3 then kB c.B && ke c.B.jn c.Head.jn && kR c.kk && ke zS c.jL && jt zR c.C
 else if c.Kind == 4 then kB c.B && kB c.C && Ax c.B c.C && ke zS c.jL && ke zS c.kk
 else false)
theorem oe (c : jb) : nU c = some (kc c) := by
 unfold nU kc
 simp only [rY, qE, aa]
 obtain ⟨k, hk, a⟩ := uO c.B c.C
 rw [hk]
 have d : decide (k < 0) = Ax c.B c.C := by rw [aK, ← a]; simp
 simp only [aa, d]
 by_cases h1 : c.Kind = 1
 ·cases kB c.Head <;> cases kR c.jL <;> simp [h1, mV, tE, vj, zR, gU]
 ·by_cases g : c.Kind = 2
  ·cases kB c.Head <;> cases kB c.B <;> simp [g, mV, tE, vj, zR, gU]
  ·by_cases h : c.Kind = 3
   ·cases kB c.Head <;> cases kB c.B <;> cases ke c.B.jn c.Head.jn <;> cases kR c.kk <;> simp [h, mV, tE, vj, zR, gU]
   ·by_cases i : c.Kind = 4
    ·cases kB c.Head <;> cases kB c.B <;> cases kB c.C <;> cases Ax c.B c.C <;> simp [i, mV, tE, vj, zR, gU]
    ·simp [h1, g, h, i]
theorem rk (c : jb) : pK c = some (kc c) := by
 unfold pK kc
 simp only [xS, tz, BF, aa]
 rw [show (⟨zS, zS⟩ : ja) = zR from rfl, E3 c.B zR, E3 c.C zR, Ic c.kk zS, Ic c.jL zS]
 by_cases h1 : c.Kind = 1
 ·cases kB c.Head <;> cases kR c.jL <;> cases jt zR c.B <;> cases jt zR c.C <;> simp [h1]
 ·by_cases a : c.Kind = 2
  ·cases kB c.Head <;> cases kB c.B <;> cases ke zS c.jL <;> cases jt zR c.C <;> simp [a]
  ·by_cases d : c.Kind = 3
   ·cases kB c.Head <;> cases kB c.B <;> cases ke zS c.jL <;> cases jt zR c.C <;> cases ke c.B.jn c.Head.jn <;> simp [d]
   ·by_cases g : c.Kind = 4
    ·cases kB c.Head <;> cases kB c.B <;> cases ke zS c.jL <;> cases ke zS c.kk <;> cases kB c.C <;> simp [g]
    ·cases kB c.Head <;> cases kB c.B <;> cases ke zS c.jL <;> simp [h1, a, d, g]
theorem lu {α : Type} {b : Nat} {l m : List α} (h : (l.length + m.length) * b ≤ 140737488355328) (a : l.length + m.length ≤ 9223372036854775807) : lj b l m = some (l ++ m) := by
 unfold lj; rw [aj ⟨h, by unfold maxLen; omega⟩]
theorem Ar {l m : List Int} (h : l.length + m.length ≤ 1000000) : lj 1 l m = some (l ++ m) := lu (by omega) (by omega)
def qS (s : ByteArray) : List Int := (s.size : Int) :: sE s
def nf (r : ja) : List Int := qS r.jn ++ qS r.jK
def wz (c : jb) : List Int := if c.Kind = 1 then qS c.jL else if c.Kind = 2 then nf c.B else if c.Kind = 3 then nf c.B ++ qS c.kk else nf c.B ++ nf c.C
def ov (c : jb) : List Int := c.Kind :: (nf c.Head ++ wz c)
theorem nO (s : ByteArray) : (qS s).length = s.size + 1 := by simp [qS, lQ]
theorem lD {r : ja} (h : kB r = true) : (nf r).length ≤ 34 := by
 simp only [kB, az] at h
 have h1 := lB h.1
 have a := lB h.2
 simp [nf, nO]; omega
theorem BT {l : List Int} {n : Int} (a : 0 ≤ n) (h1 : n < 128) (c : l.length ≤ 100000) : kX l n = some (true, l ++ [n]) := by
 have hw : IntKind.u8.wrap n = n := by
  obtain ⟨k, rfl⟩ : ∃ k : Nat, n = k := ⟨n.toNat, by omega⟩
  have : ∀ k : Nat, k < 128 → IntKind.u8.wrap (k : Int) = (k : Int) := by decide +kernel
  exact this k (by omega)
 unfold kX
 rw [ai (by simp; omega), qv, mS, ai (by simp; omega), hw, Ar (by simp; omega)]
 rfl
theorem Fw {l : List Int} {s : ByteArray} (h : kR s = true) (a : l.length ≤ 10000) : pD l s = some (true, l ++ qS s) := by
 have h1 := lB h
 unfold pD
 simp only [qE, aa, h, aD, Cg h1.2]
 unfold uQ
 rw [ai (by rw [lQ]; simp; omega)]
 rw [lQ, BT (by omega) (by omega) (by omega)]
 simp only [aa]
 rw [Ar (by simp [lQ]; omega)]
 simp [qS]
theorem P4 {l : List Int} {r : ja} (h : kB r = true) (c : l.length ≤ 9000) : nm l r = some (true, l ++ nf r) := by
 have a := h
 simp only [kB, az] at h
 have h1 := lB h.1
 unfold nm
 simp only [rY, aa, a, aD]
 rw [Fw h.1 (by omega)]
 simp only [aa, aD]
 rw [Fw h.2 (by simp [nO]; omega)]
 simp [nf]
theorem CS {l : List Int} {r : ja} (h : kB r = true) (a : l.length ≤ 1000) : nm l r = some (true, l ++ nf r) := P4 h (by omega)
theorem xo {c : jb} (h : kc c = true) : kB c.Head = true := by
 simp only [kc, az] at h; exact h.1
theorem lY {c : jb} (h : kc c = true) :
  (c.Kind = 1 ∧ kR c.jL = true ∧ c.B = zR ∧ c.C = zR ∧ c.kk = zS) ∨
  (c.Kind = 2 ∧ kB c.B = true ∧ c.jL = zS ∧ c.C = zR ∧ c.kk = zS) ∨
  (c.Kind = 3 ∧ kB c.B = true ∧ kR c.kk = true ∧ c.B.jn = c.Head.jn ∧ c.jL = zS ∧ c.C = zR) ∨
  (c.Kind = 4 ∧ kB c.B = true ∧ kB c.C = true ∧ Ax c.B c.C = true ∧ c.jL = zS ∧ c.kk = zS) := by
 simp only [kc, az] at h
 obtain ⟨_, h⟩ := h
 split at h
 ·rename_i h1
  simp only [az, jB, kK] at h
  exact .inl ⟨by simpa using h1, h.1.1.1, h.1.1.2.symm, h.1.2.symm, h.2.symm⟩
 ·split at h
  ·rename_i h1
   simp only [az, jB, kK] at h
   exact .inr (.inl ⟨by simpa using h1, h.1.1.1, h.1.1.2.symm, h.1.2.symm, h.2.symm⟩)
  ·split at h
   ·rename_i h1
    simp only [az, jB, kK] at h
    exact .inr (.inr (.inl ⟨by simpa using h1, h.1.1.1.1, h.1.1.2, h.1.1.1.2, h.1.2.symm, h.2.symm⟩))
   ·split at h
    ·rename_i h1
     simp only [az, jB, kK] at h
     exact .inr (.inr (.inr ⟨by simpa using h1, h.1.1.1.1, h.1.1.1.2, h.1.1.2, h.1.2.symm, h.2.symm⟩))
    ·cases h
theorem yr (c : jb) : tC c = some (if kc c then ov c else []) := by
 unfold tC
 rw [oe]
 simp only [aa]
 cases h : kc c with
 | false => simp
 | true =>
  have i := xo h
  have j := lD i
  simp only [aU, ae, aq, aD]
  have hk : 0 ≤ c.Kind ∧ c.Kind < 128 := by rcases lY h with h | h | h | h <;> omega
  rw [BT hk.1 hk.2 (by simp)]
  simp only [aa]
  rw [CS i (by simp)]
  simp only [aa, mT, nW]
  rcases lY h with ⟨k, h1, _⟩ | ⟨k, h1, _⟩ | ⟨k, h1, a, _⟩ | ⟨k, h1, a, _⟩
  ·have d := lB h1
   simp only [k, aO, aD, Fw h1 (show (([] ++ [(1:Int)]) ++ nf c.Head).length ≤ 10000 by simp; omega), aa]
   rw [Ar (by simp [nO]; omega)]
   simp [ov, wz, k]
  ·have d := lD h1
   simp only [k, show ((2 : Int) == 1) = false from rfl, ae, aO, aD, aq, CS h1 (show (([] ++ [(2:Int)]) ++ nf c.Head).length ≤ 1000 by simp; omega), aa]
   rw [Ar (by simp; omega)]
   simp [ov, wz, k]
  ·have d := lD h1
   have g := lB a
   simp only [k, show ((3 : Int) == 1) = false from rfl, show ((3 : Int) == 2) = false from rfl, ae, aO, aD, aq, CS h1 (show (([] ++ [(3:Int)]) ++ nf c.Head).length ≤ 1000 by simp; omega), aa]
   rw [Fw a (by simp; omega)]
   simp only [aa]
   rw [Ar (by simp [nO]; omega)]
   simp [ov, wz, k]
  ·have d := lD h1
   have g := lD a
   simp only [k, show ((4 : Int) == 1) = false from rfl, show ((4 : Int) == 2) = false from rfl, show ((4 : Int) == 3) = false from rfl, ae, aO, aD, aq, CS h1 (show (([] ++ [(4:Int)]) ++ nf c.Head).length ≤ 1000 by simp; omega), aa]
   rw [CS a (by simp; omega)]
   simp only [aa]
   rw [Ar (by simp; omega)]
   simp [ov, wz, k]
def kT (l : List Int) : ByteArray := ⟨(vP l).toArray⟩
theorem uE (l : List Int) : (kT l).data.toList = vP l := rfl
theorem Ho : ∀ (l : List Int) (r : ByteArray), (l.foldl (fun r n => r.push (UInt8.ofNat n.toNat)) r).data.toList = r.data.toList ++ vP l
 | [], r => by simp [vP]
 | x :: l, r => by
  rw [List.foldl_cons, Ho l]
  show ((r.data.push _).toList) ++ _ = _
  simp [vP]
theorem AR (l : List Int) : vY l = kT l := yh (by unfold vY; rw [Ho]; rfl)
theorem xW (l : List Int) : (kT l).size = l.length := by rw [wP, uE]; simp [vP]
theorem Nc (a b : List Int) : vP (a ++ b) = vP a ++ vP b := by simp [vP]
theorem pp (a b : List Int) (h : a.length + b.length ≤ 1000000) : vv (kT a) (kT b) = some (kT (a ++ b)) := by
 unfold vv
 rw [ai]
 ·congr 1
  refine yh ?_
  rw [uE, Nc, ← uE a, ← uE b]
  exact ByteArray.toList_data_append ▸ rfl
 ·rw [xW, xW]
  show ¬ (_ > (9223372036854775807 : Int))
  omega
theorem AM (s : ByteArray) : kT (sE s) = s := yh (by rw [uE]; simp [vP, sE, fp])
theorem EW {n : Int} (a : 0 ≤ n) (h1 : n < 128) : nv n = some (kT [n]) := by
 have hw : IntKind.u8.wrap n = n := by
  obtain ⟨k, rfl⟩ : ∃ k : Nat, n = k := ⟨n.toNat, by omega⟩
  have : ∀ k : Nat, k < 128 → IntKind.u8.wrap (k : Int) = (k : Int) := by decide +kernel
  exact this k (by omega)
 unfold nv
 rw [qv, pj, ai (by simp; omega), hw, AR, show zS = kT [] from rfl, pp _ _ (by simp)]
 rfl
theorem CY {s : ByteArray} (h : kR s = true) : rS s = some (kT (qS s)) := by
 have h1 := lB h
 unfold rS
 rw [EW (by omega) (by omega)]
 simp only [aa]
 have := pp [(s.size : Int)] (sE s) (by rw [lQ]; simp; omega)
 rw [AM] at this
 rw [this]
 simp [qS]
theorem AW {r : ja} (h : kB r = true) : sy r = some (kT (nf r)) := by
 simp only [kB, az] at h
 have h1 := lB h.1
 have a := lB h.2
 unfold sy
 rw [CY h.1, CY h.2]
 simp only [aa]
 rw [pp _ _ (by simp [nO]; omega)]
 rfl
theorem xQ (c : jb) : vH c = some (kT (if kc c then ov c else [])) := by
 unfold vH
 rw [rk]
 simp only [aa]
 cases h : kc c with
 | false => rfl
 | true =>
  have i := xo h
  have j := lD i
  simp only [aU, ae, aq, aD]
  have hk : 0 ≤ c.Kind ∧ c.Kind < 128 := by rcases lY h with h | h | h | h <;> omega
  unfold ua
  rw [EW hk.1 hk.2, AW i]
  simp only [aa]
  rw [pp _ _ (by simp; omega)]
  simp only [aa]
  rcases lY h with ⟨k, h1, _⟩ | ⟨k, h1, _⟩ | ⟨k, h1, a, _⟩ | ⟨k, h1, a, _⟩
  ·have d := lB h1
   simp only [k, aO, aD, CY h1, aa]
   rw [pp _ _ (by simp [nO]; omega)]
   simp [ov, wz, k]
  ·have d := lD h1
   simp only [k, show ((2 : Int) == 1) = false from rfl, show ((2 : Int) == 3) = false from rfl, show ((2 : Int) == 4) = false from rfl, ae, aq, AW h1, aa]
   rw [pp _ _ (by simp; omega)]
   simp [ov, wz, k]
  ·have d := lD h1
   have g := lB a
   simp only [k, show ((3 : Int) == 1) = false from rfl, show ((3 : Int) == 4) = false from rfl, ae, aO, aD, aq, AW h1, aa]
   rw [pp _ _ (by simp; omega)]
   simp only [aa, CY a]
   rw [pp _ _ (by simp [nO]; omega)]
   simp [ov, wz, k]
  ·have d := lD h1
   have g := lD a
   simp only [k, show ((4 : Int) == 1) = false from rfl, show ((4 : Int) == 3) = false from rfl, ae, aO, aD, aq, AW h1, aa]
   rw [pp _ _ (by simp; omega)]
   simp only [aa, AW a]
   rw [pp _ _ (by simp; omega)]
   simp [ov, wz, k]
def JL (c : jb) : List UInt8 := vP (if kc c then ov c else [])
def BU (a b : jb) : Bool := Op.bytesLess (JL a) (JL b)
theorem FE (a b : jb) : ∃ c, tj a b = some c ∧ (c < 0 ↔ BU a b = true) := by
 unfold tj
 rw [yr, yr]
 exact ⟨_, rfl, Fm _ _⟩
theorem EI (a b : jb) : ∃ c, uu a b = some c ∧ (c < 0 ↔ BU a b = true) := by
 unfold uu
 rw [xQ, xQ]
 simp only [aa]
 have h : oQ (kT (if kc a then ov a else [])) (kT (if kc b then ov b else [])) = BU a b := by rw [zj]; rfl
 rw [h]
 cases BU a b with
 | true => exact ⟨_, rfl, by decide⟩
 | false =>
  simp only [ae, aq, iE]
  cases d : ke (kT (if kc a then ov a else [])) (kT (if kc b then ov b else [])) with
  | true => exact ⟨0, by simp, by decide⟩
  | false => exact ⟨1, by simp, by decide⟩
theorem SH {a b : Int} (c : 0 ≤ a ∧ a < 256) (d : 0 ≤ b ∧ b < 256) (h : a.toNat.toUInt8 = b.toNat.toUInt8) : a = b := by
 have := ay UInt8.toNat h
 simp only [UInt8.toNat_ofNat', Nat.toUInt8] at this
 simp at this
 omega
theorem Mq : ∀ {a b : List Int}, (∀ x ∈ a, 0 ≤ x ∧ x < 256) → (∀ x ∈ b, 0 ≤ x ∧ x < 256) → vP a = vP b → a = b
 | [], [], _, _, _ => rfl
 | [], _ :: _, _, _, h => by simp [vP] at h
 | _ :: _, [], _, _, h => by simp [vP] at h
 | x :: a, y :: b, d, g, h => by
  simp only [vP, aQ, bB] at h
  rw [SH (d x (by simp)) (g y (by simp)) h.1, Mq (fun z c => d z (by simp [c])) (fun z c => g z (by simp [c])) h.2]
theorem xn {s : ByteArray} (h : kR s = true) : ∀ x ∈ qS s, 0 ≤ x ∧ x < 256 := by
 have h1 := lB h
 intro x a
 rcases aB.1 a with rfl | a
 ·omega
 ·simp only [sE, aR] at a
  obtain ⟨b, _, rfl⟩ := a
  have := gS b
  omega
theorem vU {r : ja} (h : kB r = true) : ∀ x ∈ nf r, 0 ≤ x ∧ x < 256 := by
 simp only [kB, az] at h
 intro x a
 rcases aI.1 a with a | a
 ·exact xn h.1 x a
 ·exact xn h.2 x a
theorem B7 {c : jb} (h : kc c = true) : ∀ x ∈ ov c, 0 ≤ x ∧ x < 256 := by
 intro x a
 rcases aB.1 a with rfl | a
 ·rcases lY h with h | h | h | h <;> omega
 ·rcases aI.1 a with a | a
  ·exact vU (xo h) x a
  ·unfold wz at a
   rcases lY h with ⟨k, h1, _⟩ | ⟨k, h1, _⟩ | ⟨k, h1, d, _⟩ | ⟨k, h1, d, _⟩
   ·rw [aj k] at a; exact xn h1 x a
   ·rw [ai (by omega), aj k] at a; exact vU h1 x a
   ·rw [ai (by omega), ai (by omega), aj k] at a
    rcases aI.1 a with a | a
    ·exact vU h1 x a
    ·exact xn d x a
   ·rw [ai (by omega), ai (by omega), ai (by omega)] at a
    rcases aI.1 a with a | a
    ·exact vU h1 x a
    ·exact vU d x a
theorem NF {s t : ByteArray} (h : sE s = sE t) : s = t := by rw [← AM s, h, AM]
theorem BJ {s t : ByteArray} {X Y : List Int} (h : qS s ++ X = qS t ++ Y) : s = t ∧ X = Y := by
 simp only [qS, bF, bB] at h
 obtain ⟨h1, a⟩ := h
 have c : (sE s).length = (sE t).length := by rw [lQ, lQ]; omega
 have := List.append_inj a c
 exact ⟨NF this.1, this.2⟩
theorem zM {a b : ja} {X Y : List Int} (h : nf a ++ X = nf b ++ Y) : a = b ∧ X = Y := by
 simp only [nf, aC] at h
 obtain ⟨h1, d⟩ := BJ h
 obtain ⟨c, g⟩ := BJ d
 exact ⟨by cases a; cases b; simp at h1 c; simp [h1, c], g⟩
theorem N5 {a b : jb} (q : kc a = true) (t : kc b = true) (h : ov a = ov b) : a = b := by
 simp only [ov, bB] at h
 obtain ⟨hk, p⟩ := h
 obtain ⟨o, h⟩ := zM p
 clear p
 have j : ∀ {X Y : List Int}, X = Y → X ++ [] = Y ++ [] := fun h => by rw [h]
 unfold wz at h
 obtain ⟨A, s, F, x, y, v⟩ := a
 obtain ⟨D, u, G, bb, z, w⟩ := b
 simp only at hk o h
 subst hk o
 rcases lY q with ⟨k, h1, d, g, c⟩ | ⟨k, h1, d, g, c⟩ | ⟨k, h1, d, g, c, i⟩ | ⟨k, h1, d, g, c, i⟩ <;>
 rcases lY t with ⟨k', g1, g2, g3, g4⟩ | ⟨k', g1, g2, g3, g4⟩ | ⟨k', g1, g2, g3, g4, g5⟩ | ⟨k', g1, g2, g3, g4, g5⟩ <;> simp only at k k' d g c g2 g3 g4 <;> (try omega)
 ·rw [aj k, aj k] at h
  simp [BJ (j h), d, g, c, g2, g3, g4]
 ·rw [ai (by omega), aj k, ai (by omega), aj k] at h
  simp [zM (j h), d, g, c, g2, g3, g4]
 ·rw [ai (by omega), ai (by omega), aj k, ai (by omega), ai (by omega), aj k] at h
  obtain ⟨m, n⟩ := zM h
  simp only at i g5
  simp [m, BJ (j n), c, i, g4, g5]
 ·rw [ai (by omega), ai (by omega), ai (by omega), ai (by omega), ai (by omega), ai (by omega)] at h
  obtain ⟨m, n⟩ := zM h
  simp only at i g5
  simp [m, zM (j n), c, i, g4, g5]
theorem De : Am (fun a b => BU a b = true) (fun c => kc c = true) := by
 refine ⟨fun x _ h => ?_, fun x y z _ _ _ h1 i => F4 _ _ _ h1 i, fun x y d g => ?_⟩
 ·unfold BU at h; rw [EP] at h; cases h
 ·rcases F6 (JL x) (JL y) with h | h | h
  ·exact .inl h
  ·refine .inr (.inl (N5 d g ?_))
   unfold JL at h
   rw [aj d, aj g] at h
   exact Mq (B7 d) (B7 g) h
  ·exact .inr (.inr h)
def qO {α : Type} (R : α → Bool) (lt : α → α → Bool) (last : Option α) : List α → Bool → α → Bool × α
 | [], ok, b => (ok, b)
 | x :: xs, ok, b => if R x && last.all (fun y => lt y x) && (!ok || lt x b) then qO R lt last xs true x else qO R lt last xs ok b
def Ab {α : Type} (w : Nat) (R : α → Bool) (lt : α → α → Bool) (d : α) (l : List α) : Nat → List α → Option (List α)
 | 0, _ => none
 | n + 1, out => if !(qO R lt out.getLast? l false d).1 then some out else (lj w out [(qO R lt out.getLast? l false d).2]).bind fun o => Ab w R lt d l n o
section
variable {α : Type} {R : α → Bool} {lt : α → α → Bool}
theorem E6 (H : Am (fun a b => lt a b = true) (fun x => R x = true)) (last : Option α) : ∀ (l : List α) (ok : Bool) (b : α), (ok = true → R b = true ∧ last.all (fun y => lt y b) = true) →
  ((qO R lt last l ok b).1 = false → ok = false ∧ ∀ x ∈ l, R x = true → last.all (fun y => lt y x) = false) ∧
  ((qO R lt last l ok b).1 = true → R (qO R lt last l ok b).2 = true ∧ last.all (fun y => lt y (qO R lt last l ok b).2) = true ∧ ((qO R lt last l ok b).2 ∈ l ∨ (ok = true ∧ (qO R lt last l ok b).2 = b)) ∧
   (∀ x ∈ l, R x = true → last.all (fun y => lt y x) = true → lt x (qO R lt last l ok b).2 = false) ∧ (ok = true → lt b (qO R lt last l ok b).2 = false))
 | [], ok, b, j => by
  simp only [qO]
  exact ⟨fun h => ⟨h, by simp⟩, fun h => ⟨(j h).1, (j h).2, .inr ⟨h, trivial⟩, by simp, fun _ => by
   cases m : lt b b with
   | false => rfl
   | true => exact absurd m (H.irrefl b (j h).1)⟩⟩
 | x :: xs, ok, b, j => by
  rw [qO]
  by_cases k : (R x && last.all (fun y => lt y x) && (!ok || lt x b)) = true
  ·rw [aj k]
   simp only [az, dz, Bool.not_eq_true'] at k
   obtain ⟨⟨w, s⟩, t⟩ := k
   obtain ⟨h1, q⟩ := E6 H last xs true x (fun _ => ⟨w, s⟩)
   refine ⟨fun h => ?_, fun h => ?_⟩
   ·cases (h1 h).1
   ·obtain ⟨o, a2, a3, a4, a5⟩ := q h
    refine ⟨o, a2, ?_, ?_, ?_⟩
    ·rcases a3 with a3 | ⟨_, a3⟩
     ·exact .inl (by simp [a3])
     ·exact .inl (by rw [a3]; simp)
    ·intro y g c d
     rcases aB.1 g with rfl | g
     ·exact a5 rfl
     ·exact a4 y g c d
    ·intro i
     cases m : lt b (qO R lt last xs true x).2 with
     | false => rfl
     | true =>
      have u : lt x b = true := by rcases t with h | h; rw [i] at h; cases h; exact h
      have := H.trans x b _ w (j i).1 o u m
      simp only [a5 rfl] at this
      cases this
  ·rw [ai k]
   obtain ⟨h1, q⟩ := E6 H last xs ok b j
   refine ⟨fun h => ⟨(h1 h).1, fun y g c => ?_⟩, fun h => ?_⟩
   ·rcases aB.1 g with rfl | g
    ·have i := (h1 h).1
     cases s : last.all (fun z => lt z y) with
     | false => rfl
     | true => exact absurd (by simp [c, s, i]) k
    ·exact (h1 h).2 y g c
   ·obtain ⟨o, a2, a3, a4, a5⟩ := q h
    refine ⟨o, a2, ?_, ?_, a5⟩
    ·rcases a3 with a3 | a3
     ·exact .inl (by simp [a3])
     ·exact .inr a3
    ·intro y g c d
     rcases aB.1 g with rfl | g
     ·cases m : lt y (qO R lt last xs ok b).2 with
      | false => rfl
      | true =>
       cases ok with
       | false => exact absurd (by simp [c, d]) k
       | true =>
        have v : lt y b = false := by
         cases A : lt y b with
         | false => rfl
         | true => exact absurd (by simp [c, d, A]) k
        have p := j rfl
        rcases H.total y b c p.1 with n | n | n
        ·rw [v] at n; cases n
        ·subst n; rw [a5 rfl] at m; cases m
        ·have := H.trans b y _ p.1 c o n m
         simp only [a5 rfl] at this
         cases this
     ·exact a4 y g c d
theorem vW (H : Am (fun a b => lt a b = true) (fun x => R x = true)) {l : List α} (d : ∀ x ∈ l, R x = true) (h : l.Pairwise (fun a b => lt a b = true)) : l.Nodup := by
 refine h.imp_of_mem (fun {a b} g i c e => ?_)
 subst e
 exact H.irrefl a (d a g) c
theorem lh : ∀ {l m : List α}, l.Nodup → (∀ x ∈ l, x ∈ m) → l.length ≤ m.length
 | [], _, _, _ => by simp
 | x :: l, m, g, c => by
  obtain ⟨A, B, rfl⟩ := List.append_of_mem (c x (by simp))
  have a := cu.1 g
  have := lh (l := l) (m := A ++ B) a.2 (fun y d => by
   have := c y (cI _ d)
   simp only [aI, aB] at this ⊢
   rcases this with h | h | h
   ·exact .inl h
   ·subst h; exact absurd d a.1
   ·exact .inr h)
  simp at this ⊢; omega
theorem BQ (H : Am (fun a b => lt a b = true) (fun x => R x = true)) {w : Nat} (hw : w ≤ 1000) (d : α) (l : List α) (I : l.length ≤ 1000000000) : ∀ (n : Nat) (out : List α), l.length < n + out.length → out.Pairwise (fun a b => lt a b = true) → (∀ x ∈ out, x ∈ l ∧ R x = true) →
  (∀ x ∈ l, R x = true → x ∈ out ∨ out.getLast?.all (fun y => lt y x) = true) → ∃ s, Ab w R lt d l n out = some s ∧ tO (fun a b => lt a b = true) (fun x => R x = true) l s
 | 0, out, J, hp, hm, u => by
  exfalso
  have := lh (vW H (fun x c => (hm x c).2) hp) (fun x c => (hm x c).1)
  omega
 | n + 1, out, J, hp, hm, u => by
  rw [Ab]
  obtain ⟨h1, F⟩ := E6 H out.getLast? l false d (fun h => by cases h)
  have hlen := lh (vW H (fun x c => (hm x c).2) hp) (fun x c => (hm x c).1)
  cases D : (qO R lt out.getLast? l false d).1 with
  | false =>
   rw [aj (by simp)]
   refine ⟨out, rfl, hp, fun x => ⟨hm x, fun c => ?_⟩⟩
   rcases u x c.1 c.2 with h | h
   ·exact h
   ·rw [(h1 D).2 x c.1 c.2] at h; cases h
  | true =>
   rw [ai (by simp)]
   obtain ⟨q, a2, a3, a4, _⟩ := F D
   generalize (qO R lt out.getLast? l false d).2 = b at *
   have t : b ∈ l := by rcases a3 with h | ⟨h, _⟩; exact h; cases h
   have o : ∀ y ∈ out, lt y b = true := by
    intro y g
    obtain ⟨A, z, rfl⟩ : ∃ A z, out = A ++ [z] := by
     rcases df out with h | ⟨A, z, h⟩
     ·subst h; cases g
     ·exact ⟨A, z, by rw [h]; simp⟩
    simp at a2
    rcases aI.1 g with g | g
    ·have v : lt y z = true := (gd.1 hp).2.2 y g z (by simp)
     exact H.trans y z b (hm y (by simp [g])).2 (hm z (by simp)).2 q v a2
    ·simp at g; subst g; exact a2
   have p : (out ++ [b]).Pairwise (fun a b => lt a b = true) := gd.2 ⟨hp, by simp, fun x c y g => by simp at g; subst g; exact o x c⟩
   have k : ∀ x ∈ out ++ [b], x ∈ l ∧ R x = true := fun x c => by
    rcases aI.1 c with c | c
    ·exact hm x c
    ·simp at c; subst c; exact ⟨t, q⟩
   have j := lh (vW H (fun x c => (k x c).2) p) (fun x c => (k x c).1)
   simp at j
   rw [lu (by simp only [aA, bG]; have : (out.length + (0 + 1)) * w ≤ 1000000000 * 1000 := eu (by omega) hw; omega) (by simp; omega)]
   simp only [aa]
   refine BQ H hw d l I n (out ++ [b]) (by simp; omega) p k (fun x c i => ?_)
   rcases u x c i with h | h
   ·exact .inl (by simp [h])
   ·have G := a4 x c i h
    rcases H.total x b i q with m | m | m
    ·rw [G] at m; cases m
    ·subst m; exact .inl (by simp)
    ·exact .inr (by simp [m])
end
theorem Gr {α : Type} (A : List α) (x : α) (a : A.length < 4611686018427387904) : kN (A ++ [x]) (wi0 .i64 (((A ++ [x]).length : Int) - 1)) = some x := by
 rw [kp (by simp; try omega) (by simp; try omega)]
 rw [tX A x [] _ (by simp; try omega)]
theorem Gj (out : List jb) (k : out.length < 4611686018427387904) : ∀ (l : List jb) (ok : Bool) (b : jb), tb out l ok b = some (qO kc BU out.getLast? l ok b)
 | [], ok, b => rfl
 | x :: xs, ok, b => by
  rw [tb, qO]
  have cmp : ∀ a b, ∃ c, uu a b = some c ∧ decide (c < 0) = BU a b := fun a b => by
   obtain ⟨c, h1, j⟩ := EI a b
   exact ⟨c, h1, by rw [aK, ← j]; simp⟩
  rw [rk, Gj out k xs true x, Gj out k xs ok b]
  obtain ⟨c, h1, j⟩ := cmp x b
  rcases df out with h | ⟨A, z, h⟩
  ·subst h
   simp only [h1, aa, j, bG, Option.all, List.getLast?_nil]
   generalize BU x b = p
   cases kc x <;> cases ok <;> cases p <;> simp
  ·have i : out = A ++ [z] := by rw [h]; simp
   obtain ⟨t, q, s⟩ := cmp z x
   have d : out.getLast? = some z := by rw [i]; simp
   have g : kN out (wi0 .i64 ((out.length : Int) - 1)) = some z := by rw [i]; exact Gr A z (by rw [i] at k; simp at k; omega)
   have m : ((out.length : Int) == 0) = false := by rw [i]; simp; omega
   rw [d]
   simp only [m, g, q, h1, aa, j, s, Option.all]
   rcases cO (BU x b) with hp | hp <;> rcases cO (BU z x) with n | n <;> rcases cO (kc x) with o | o <;> cases ok <;> simp [hp, n, o]
theorem Uw (a b : ByteArray) : (!(oQ a b || ke a b)) = oQ b a := by
 rcases zN a b with h | h | h
 ·simp [h, Ij h]
 ·subst h; simp [vj, sK]
 ·have c := Ij h
  have d : ke a b = false := LY (by rintro rfl; rw [sK] at h; cases h)
  simp [h, c, d]
theorem NW {s : ByteArray} (h : kR s = true) : ke s zS = false := LY (fun e => by have := lB h; rw [e, Rj] at this; omega)
theorem Ga (out : List ByteArray) (k : out.length < 4611686018427387904) : ∀ (l : List ByteArray) (b : ByteArray),
  ∃ m, th out l b = some m ∧ (qO kR oQ out.getLast? l (!ke b zS) b) = (!ke m zS, m)
 | [], b => ⟨b, rfl, rfl⟩
 | x :: xs, b => by
  rw [th, qO]
  obtain ⟨v, t, c⟩ := Ga out k xs x
  obtain ⟨w, u, i⟩ := Ga out k xs b
  rw [tz, t, u]
  by_cases g : kR x = true
  ·rw [NW g] at c
   simp only [bP] at c
   rcases df out with h | ⟨A, z, h⟩
   ·subst h
    simp only [aa, bG, Option.all, List.getLast?_nil, g] at *
    rw [c, i]
    generalize oQ x b = p
    generalize ke b zS = q
    cases p <;> cases q <;> simp
   ·have j : out = A ++ [z] := by rw [h]; simp
    have a : out.getLast? = some z := by rw [j]; simp
    have d : kN out (wi0 .i64 ((out.length : Int) - 1)) = some z := by rw [j]; exact Gr A z (by rw [j] at k; simp at k; omega)
    have n : ((out.length : Int) == 0) = false := by rw [j]; simp; omega
    rw [a] at c i ⊢
    simp only [n, d, aa, Option.all, Uw, g]
    rw [c, i]
    rcases cO (oQ x b) with hp | hp <;> rcases cO (oQ z x) with o | o <;> rcases cO (ke b zS) with s | s <;> simp [hp, o, s]
  ·simp only [cd] at g
   rw [g, i]
   simp
theorem Qj (a : List jb) : ∀ (n : Nat) (out s : List jb), Ab 136 kc BU (⟨0, ⟨zS, zS⟩, zS, ⟨zS, zS⟩, ⟨zS, zS⟩, zS⟩ : jb) a n out = some s → s.length < 4611686018427387904 → w7 a n out = some s ∧ out.length ≤ s.length
 | 0, out, s, h, _ => by cases h
 | n + 1, out, s, h, i => by
  rw [Ab] at h
  rw [w7]
  have key : out.length ≤ s.length → tb out a false (⟨0, ⟨zS, zS⟩, zS, ⟨zS, zS⟩, ⟨zS, zS⟩, zS⟩ : jb) = _ := fun k => Gj out (by omega) a false _
  split at h
  ·rename_i h1
   cases h
   rw [key (aM _)]
   simp only [aa]
   rw [aj h1]
   exact ⟨rfl, aM _⟩
  ·rename_i h1
   obtain ⟨o, c, d⟩ := bind_some h
   have g := Qj a n o s d i
   have j : out.length + 1 = o.length := by
    unfold lj at c; split at c
    ·cases c; simp
    ·cases c
   rw [key (by omega)]
   simp only [aa]
   rw [ai h1, c]
   exact ⟨g.1, by omega⟩
theorem QI (a : List ByteArray) : ∀ (n : Nat) (out s : List ByteArray), Ab 16 kR oQ zS a n out = some s → s.length < 4611686018427387904 → xe a n out = some s ∧ out.length ≤ s.length
 | 0, out, s, h, _ => by cases h
 | n + 1, out, s, h, k => by
  rw [Ab] at h
  rw [xe]
  have key : out.length ≤ s.length → ∃ d, th out a zS = some d ∧ qO kR oQ out.getLast? a false zS = (!ke d zS, d) := fun p => by
   have := Ga out (by omega) a zS
   rw [vj] at this
   exact this
  split at h
  ·rename_i h1
   cases h
   obtain ⟨d, g, k2⟩ := key (aM _)
   rw [g]
   rw [k2] at h1
   simp only [aa]
   rw [aj (by simpa using h1)]
   exact ⟨rfl, aM _⟩
  ·rename_i h1
   obtain ⟨o, c, i⟩ := bind_some h
   have j := QI a n o s i k
   have m : out.length + 1 = o.length := by
    unfold lj at c; split at c
    ·cases c; simp
    ·cases c
   obtain ⟨d, g, k2⟩ := key (by omega)
   rw [g]
   rw [k2] at h1 c
   simp only [aa]
   rw [ai (by simpa using h1), c]
   exact ⟨j.1, by omega⟩
abbrev A2 (l s : List ByteArray) := tO (fun a b => oQ a b = true) (fun x => kR x = true) l s
abbrev Kt (l s : List ja) := tO (fun a b => Ax a b = true) (fun x => kB x = true) l s
abbrev He (l s : List jb) := tO (fun a b => BU a b = true) (fun x => kc x = true) l s
theorem qt {α : Type} {lt : α → α → Bool} {R : α → Bool} (H : Am (fun a b => lt a b = true) (fun x => R x = true)) {l s : List α} (h : tO (fun a b => lt a b = true) (fun x => R x = true) l s) : s.length ≤ l.length :=
 lh (vW H (fun x c => ((h.2 x).1 c).2) h.1) (fun x c => ((h.2 x).1 c).1)
theorem Rc (l : List jb) (c : l.length ≤ 1000000000) : ∃ s, FX l = some s ∧ He l s := by
 obtain ⟨s, h1, a⟩ := BQ De (w := 136) (by omega) (⟨0, ⟨zS, zS⟩, zS, ⟨zS, zS⟩, ⟨zS, zS⟩, zS⟩ : jb) l c jX [] (by rw [nG]; omega) (by simp) (by simp) (fun x _ _ => .inr rfl)
 exact ⟨s, (Qj l jX [] s h1 (by have := qt De a; omega)).1, a⟩
theorem QR (l : List ByteArray) (c : l.length ≤ 1000000000) : ∃ s, Cc l = some s ∧ A2 l s := by
 obtain ⟨s, h1, a⟩ := BQ (Fv (fun x => kR x = true)) (w := 16) (by omega) zS l c jX [] (by rw [nG]; omega) (by simp) (by simp) (fun x _ _ => .inr rfl)
 exact ⟨s, (QI l jX [] s h1 (by have := qt (Fv _) a; omega)).1, a⟩
def zC : jb := ⟨0, ⟨zS, zS⟩, zS, ⟨zS, zS⟩, ⟨zS, zS⟩, zS⟩
theorem Mo (f : jb → Option Bool) : ∀ (n : Nat) (l : List jb) (i j : Int), mA f n l i j = Dv f zC n l i j
 | 0, _, _, _ => rfl
 | n + 1, l, i, j => by
  rw [mA, Dv]
  simp only [Mo f n]
  rfl
theorem ML (f : jb → Option Bool) : ∀ (l : List jb) (i : Nat), nN f l i = vZ f l i
 | [], _ => rfl
 | x :: l, i => by rw [nN, vZ]; simp only [ML f l]
theorem PF (f : jb → Option Bool) (l : List jb) : qn l f = HH f zC l := by
 unfold qn HH tS
 simp only [ML, Mo]
theorem Ko (i : Int) : ∀ (n : Nat) (l : List jb) (k j : Int), nl i n l k j = As mV i n l k j
 | 0, _, _, _ => rfl
 | n + 1, l, k, j => by
  rw [nl, As]
  simp only [Ko i n]
theorem Jx (l : List jb) : ∀ (n : Nat) (i : Int), nw l n i = A4 mV zC l n i
 | 0, _ => rfl
 | n + 1, i => by
  rw [nw, A4]
  simp only [Jx l n, Ko]
  rfl
theorem P8 (l : List jb) : se l = EF mV zC l := by
 unfold se EF
 simp only [Jx]
theorem Ms (f : ja → Option Bool) : ∀ (n : Nat) (l : List ja) (i j : Int), mB f n l i j = Dv f zR n l i j
 | 0, _, _, _ => rfl
 | n + 1, l, i, j => by
  rw [mB, Dv]
  simp only [Ms f n]
  rfl
theorem Mm (f : ja → Option Bool) : ∀ (l : List ja) (i : Nat), lq f l i = vZ f l i
 | [], _ => rfl
 | x :: l, i => by rw [lq, vZ]; simp only [Mm f l]
theorem P3 (f : ja → Option Bool) (l : List ja) : qf l f = HH f zR l := by
 unfold qf HH nC
 simp only [Mm, Ms]
theorem KI (i : Int) : ∀ (n : Nat) (l : List ja) (k j : Int), nk i n l k j = As jt i n l k j
 | 0, _, _, _ => rfl
 | n + 1, l, k, j => by
  rw [nk, As]
  simp only [KI i n]
theorem Ju (l : List ja) : ∀ (n : Nat) (i : Int), nt l n i = A4 jt zR l n i
 | 0, _ => rfl
 | n + 1, i => by
  rw [nt, A4]
  simp only [Ju l n, KI]
  rfl
theorem PN (l : List ja) : sn l = EF jt zR l := by
 unfold sn EF
 simp only [Ju]
theorem J6 (i : Int) : ∀ (n : Nat) (l : List ByteArray) (k j : Int), mH i n l k j = As ke i n l k j
 | 0, _, _, _ => rfl
 | n + 1, l, k, j => by
  rw [mH, As]
  simp only [J6 i n]
theorem Kx (l : List ByteArray) : ∀ (n : Nat) (i : Int), mG l n i = A4 ke zS l n i
 | 0, _ => rfl
 | n + 1, i => by
  rw [mG, A4]
  simp only [Kx l n, J6]
theorem PD (l : List ByteArray) : oZ l = EF ke zS l := by
 unfold oZ EF
 simp only [Kx]
theorem Sx {l : List jb} (a : l.length ≤ 1000000000) : qV l = some l := by
 unfold qV
 rw [lu (by simp; omega) (by simp; omega)]
 simp
theorem SQ {l : List ja} (a : l.length ≤ 1000000000) : qT l = some l := by
 unfold qT
 rw [lu (by simp; omega) (by simp; omega)]
 simp
theorem TZ (l : List jb) (d : l.length ≤ 1000000000) : ∃ s, yy l = some s ∧ He l s := by
 unfold yy
 rw [Sx d]
 simp only [aa]
 rw [PF, JN _ (fun x => !kc x) zC l (by omega) (fun x _ => by simp [xB, oe])]
 simp only [aa, Bool.not_not]
 have i : (l.filter fun x => kc x).length ≤ l.length := fP _ _
 obtain ⟨s, h1, h, c⟩ := zJ (eq := mV) (lt := fun a b => BU a b = true) (P := fun x => kc x = true) (cf := fun x => tj x.1 x.2) (l := l.filter fun x => kc x) (fun x y => uH) De (fun x g => (db.1 g).2) (by omega) (fun x y _ _ => FE x y)
 rw [h1]
 simp only [aa]
 rw [P8, Gy _ _ _ (by omega)]
 refine ⟨_, rfl, c.1, fun x => ?_⟩
 rw [c.2]
 simp
theorem Uf (l : List ja) (d : l.length ≤ 1000000000) : ∃ s, AG l = some s ∧ Kt l s := by
 unfold AG
 rw [SQ d]
 simp only [aa]
 rw [P3, JN _ (fun x => !kB x) zR l (by omega) (fun x _ => by simp [xH, rY])]
 simp only [aa, Bool.not_not]
 have i : (l.filter fun x => kB x).length ≤ l.length := fP _ _
 obtain ⟨s, h1, h, c⟩ := zJ (eq := jt) (lt := fun a b => Ax a b = true) (P := fun x => kB x = true) (cf := fun x => mq x.1 x.2) (l := l.filter fun x => kB x) (fun x y => jB) (I9 _) (fun x g => (db.1 g).2) (by omega) (fun x y _ _ => uO x y)
 rw [h1]
 simp only [aa]
 rw [PN, Gy _ _ _ (by omega)]
 refine ⟨_, rfl, c.1, fun x => ?_⟩
 rw [c.2]
 simp
theorem No (l : List ByteArray) : np l = oY (fun x => some (if oQ x.1 x.2 then -1 else 0)) l := by
 unfold np oY
 congr 1
 funext x y
 unfold rX
 cases h : oQ y x <;> simp [h]
theorem DG : ∀ (l acc : List ByteArray), acc.length + l.length ≤ 1000000000 → sv l acc = (Fk (acc ++ l.filter kR)).bind fun r => oZ r
 | [], acc, _ => by rw [sv]; simp
 | x :: l, acc, h => by
  rw [sv, qE]
  simp only [aa]
  cases a : kR x with
  | false =>
   simp only [ae, aq]
   rw [DG l acc (by simp at h; omega)]
   simp [a]
  | true =>
   simp only [aD]
   rw [lu (by simp at h ⊢; omega) (by simp at h ⊢; omega)]
   simp only [aa]
   rw [DG l (acc ++ [x]) (by simp at h ⊢; omega)]
   simp [a]
theorem Ru (l : List ByteArray) (g : l.length ≤ 1000000000) : ∃ s, xa l = some s ∧ A2 l s := by
 unfold xa
 rw [DG l [] (by simpa using g)]
 simp only [bt]
 have k : (l.filter kR).length ≤ l.length := fP _ _
 unfold Fk
 rw [aj (by omega)]
 simp only [aa]
 obtain ⟨s, h1, j, c⟩ := zJ (eq := ke) (lt := fun a b => oQ a b = true) (P := fun x => kR x = true) (cf := fun x => some (if oQ x.1 x.2 then -1 else 0)) (l := l.filter kR) (fun x y => kK) (Fv _) (fun x i => (db.1 i).2) (by omega) (fun x y _ _ => ⟨_, rfl, by cases h : oQ x y <;> simp [h]⟩)
 have d := (AJ h1).2
 rw [No, ← d, PD, Gy _ _ _ (by omega)]
 refine ⟨_, rfl, c.1, fun x => ?_⟩
 rw [c.2]
 simp
def tt {κ : Type} (a : List κ) : List (κ × Bool) := a.map fun k => (k, true)
def nq {κ : Type} (beq : κ → κ → Bool) (a : List κ) (k : κ) : Bool := a.any fun x => beq k x
def ins {κ : Type} (beq : κ → κ → Bool) (a : List κ) (k : κ) : List κ := if nq beq a k then a else a ++ [k]
section
variable {κ : Type} {beq : κ → κ → Bool}
theorem nu (c : ∀ {x y}, beq x y = true ↔ x = y) (a : List κ) (k : κ) : nq beq a k = true ↔ k ∈ a := by
 simp [nq, dM, c]
theorem Of (a : List κ) : (tt a).length = a.length := by simp [tt]
theorem Dg (a : List κ) (k : κ) : xb beq (tt a) k false = nq beq a k := by
 unfold xb kx nq tt
 induction a with
 | nil => rfl
 | cons x xs ih =>
  simp only [aQ, iR, List.any_cons]
  cases h : beq k x with
  | true => simp
  | false => simpa using ih
theorem HK (m : ∀ {x y}, beq x y = true ↔ x = y) (a : List κ) (k : κ) : mC beq (tt a) k true = tt (ins beq a k) := by
 unfold mC ins
 have n : (tt a).findIdx? (fun p => beq k p.1) = a.findIdx? (fun x => beq k x) := by
  unfold tt; rw [fq]; rfl
 rw [n]
 cases h : a.findIdx? (fun x => beq k x) with
 | none =>
  rw [eC] at h
  rw [ai]
  ·simp [tt]
  ·intro d
   unfold nq at d
   rw [dM] at d
   obtain ⟨x, o, c⟩ := d
   rw [h x o] at c
   cases c
 | some i =>
  rw [cU] at h
  obtain ⟨hi, h1, _⟩ := h
  have e := m.1 h1
  rw [aj]
  ·simp only [tt]
   apply cz
   intro j
   rw [dB]
   split
   ·rename_i g
    subst g
    simp [hi, e]
   ·rfl
  ·unfold nq
   exact dM.2 ⟨a[i], du hi, h1⟩
end
section
variable {all : List jb} {wants : List ja} {T : List ja} {W : List ByteArray} {R : List jb}
def nD (c : jb) : List ja := if c.Kind = 1 then [] else if c.Kind = 4 then [c.B, c.C] else [c.B]
end
theorem LG (x : jb) : ∀ l : List jb, Cq l x = some (nq mV l x)
 | [] => rfl
 | y :: l => by
  have ih := LG x l
  unfold Cq at ih ⊢
  rw [zm, ih]
  have : mV y x = mV x y := by rw [aK, uH, uH]; exact iP
  rw [this]
  simp only [nq, List.any_cons]
  cases mV x y <;> simp
theorem RA {c : jb} (h : kc c = true) : yt c = some (c.Head :: nD c) := by
 unfold yt
 rw [oe, h]
 simp only [aa, aU, ae, aq]
 have a : c.Kind = 1 ∨ c.Kind = 2 ∨ c.Kind = 3 ∨ c.Kind = 4 := by rcases lY h with h | h | h | h <;> simp [h.1]
 rcases a with k | k | k | k
 ·simp [k, nD]
 ·rw [aj (by simp [k]), lu (by simp) (by simp)]
  simp [k, nD]
 ·rw [aj (by simp [k]), lu (by simp) (by simp)]
  simp [k, nD]
 ·rw [aj (by simp [k]), lu (by simp) (by simp)]
  simp only [aa]
  rw [aj (by simp [k]), lu (by simp) (by simp)]
  simp [k, nD]
theorem tO.congr {α : Type} {lt : α → α → Prop} {P : α → Prop} {l m s : List α} (h : tO lt P l s) (hm : ∀ x, x ∈ l ↔ x ∈ m) : tO lt P m s := ⟨h.1, fun x => by rw [h.2, hm]⟩
theorem Q3 {κ : Type} (a : List κ) : (tt a).map (·.1) = a := by simp [tt, fp]
theorem Kc : ∀ (l : List jb) (n : Int), 0 ≤ n → n ≤ 4000000000000000000 → (∀ c ∈ l, c.Head.jn.size + c.Head.jK.size + c.jL.size + c.B.jn.size + c.B.jK.size + c.C.jn.size + c.C.jK.size + c.kk.size ≤ 1000000000) → n + l.length * 1000000020 ≤ 4000000000000000000 →
  ∃ r, oB l n = some r ∧ n + 20 * l.length ≤ r
 | [], n, _, _, _, _ => ⟨n, rfl, by simp⟩
 | c :: l, n, m, h1, a, i => by
  have h := a c (by simp)
  simp only [aA] at i ⊢
  rw [oB]
  rw [kp (x := 20 + (c.Head.jn.size : Int)) (by omega) (by omega), kp (x := 20 + (c.Head.jn.size : Int) + (c.Head.jK.size : Int)) (by omega) (by omega), kp (x := 20 + (c.Head.jn.size : Int) + (c.Head.jK.size : Int) + (c.jL.size : Int)) (by omega) (by omega), kp (x := 20 + (c.Head.jn.size : Int) + (c.Head.jK.size : Int) + (c.jL.size : Int) + (c.B.jn.size : Int)) (by omega) (by omega), kp (x := 20 + (c.Head.jn.size : Int) + (c.Head.jK.size : Int) + (c.jL.size : Int) + (c.B.jn.size : Int) + (c.B.jK.size : Int)) (by omega) (by omega), kp (x := 20 + (c.Head.jn.size : Int) + (c.Head.jK.size : Int) + (c.jL.size : Int) + (c.B.jn.size : Int) + (c.B.jK.size : Int) + (c.C.jn.size : Int)) (by omega) (by omega), kp (x := 20 + (c.Head.jn.size : Int) + (c.Head.jK.size : Int) + (c.jL.size : Int) + (c.B.jn.size : Int) + (c.B.jK.size : Int) + (c.C.jn.size : Int) + (c.C.jK.size : Int)) (by omega) (by omega), kp (x := 20 + (c.Head.jn.size : Int) + (c.Head.jK.size : Int) + (c.jL.size : Int) + (c.B.jn.size : Int) + (c.B.jK.size : Int) + (c.C.jn.size : Int) + (c.C.jK.size : Int) + (c.kk.size : Int)) (by omega) (by omega), kp (by omega) (by omega)]
  obtain ⟨r, g, k⟩ := Kc l (n + (20 + (c.Head.jn.size : Int) + (c.Head.jK.size : Int) + (c.jL.size : Int) + (c.B.jn.size : Int) + (c.B.jK.size : Int) + (c.C.jn.size : Int) + (c.C.jK.size : Int) + (c.kk.size : Int))) (by omega) (by omega) (fun d j => a d (by simp [j])) (by omega)
  exact ⟨r, g, by omega⟩
def xG (c : jb) : Nat := c.Head.jn.size + c.Head.jK.size + c.jL.size + c.B.jn.size + c.B.jK.size + c.C.jn.size + c.C.jK.size + c.kk.size
theorem Px (l : List jb) (d : l.length ≤ 100000000) (a : ∀ c ∈ l, xG c ≤ 1000000000) : ∃ r, vK l = some r := by
 obtain ⟨r, h, _⟩ := Kc l 0 (by omega) (by omega) a (by omega)
 exact ⟨r, h⟩
section
variable {κ γ : Type} {beq : κ → κ → Bool}
theorem ql (a : ∀ {x y}, beq x y = true ↔ x = y) {A B : List (κ × γ)} {k : κ} {x : γ} (c : ∀ p ∈ A, p.1 ≠ k) : kx beq (A ++ (k, x) :: B) k = some x := by
 unfold kx
 rw [List.find?_append]
 have : A.find? (fun p => beq k p.1) = none := List.find?_eq_none.2 (fun p hp h => c p hp (a.1 h).symm)
 rw [this]
 simp [a.2 (rfl : k = k)]
theorem vV (a : ∀ {x y}, beq x y = true ↔ x = y) {l : List (κ × γ)} {k : κ} (h : ∀ p ∈ l, p.1 ≠ k) : kx beq l k = none := by
 unfold kx
 rw [List.find?_eq_none.2 (fun p hp c => h p hp (a.1 c).symm)]
 rfl
theorem w5 (a : ∀ {x y}, beq x y = true ↔ x = y) {A B : List (κ × γ)} {k : κ} {x y : γ} (c : ∀ p ∈ A, p.1 ≠ k) : mC beq (A ++ (k, x) :: B) k y = A ++ (k, y) :: B := by
 have h1 : (A ++ (k, x) :: B).findIdx? (fun p => beq k p.1) = some A.length := by
  rw [gf, eC.2 (fun p hp => by
   cases h : beq k p.1 with
   | false => rfl
   | true => exact absurd (a.1 h).symm (c p hp))]
  simp [dw, a.2 (rfl : k = k)]
 rw [qu h1]
 simp
theorem C8 (a : ∀ {x y}, beq x y = true ↔ x = y) {l : List (κ × γ)} {k : κ} {y : γ} (h : ∀ p ∈ l, p.1 ≠ k) : mC beq l k y = l ++ [(k, y)] := by
 refine vh (eC.2 (fun p hp => ?_)) y
 cases c : beq k p.1 with
 | false => rfl
 | true => exact absurd (a.1 c).symm (h p hp)
theorem ul (k : κ) : ∀ (l : List (κ × γ)), (∀ p ∈ l, p.1 ≠ k) ∨ ∃ A x B, l = A ++ (k, x) :: B ∧ ∀ p ∈ A, p.1 ≠ k
 | [] => .inl (fun _ h => by cases h)
 | p :: l => by
  by_cases hp : p.1 = k
  ·exact .inr ⟨[], p.2, l, by rw [← hp]; rfl, fun _ h => by cases h⟩
  ·rcases ul k l with h | ⟨A, x, B, rfl, h⟩
   ·exact .inl (fun q a => by rcases aB.1 a with rfl | a; exact hp; exact h q a)
   ·exact .inr ⟨p :: A, x, B, rfl, fun q a => by rcases aB.1 a with rfl | a; exact hp; exact h q a⟩
theorem Gi (a : ∀ {x y}, beq x y = true ↔ x = y) (A B : List (κ × γ)) (k : κ) : kx beq (A ++ B) k = (kx beq A k).or (kx beq B k) := by
 unfold kx
 rw [List.find?_append]
 cases A.find? (fun p => beq k p.1) <;> rfl
theorem BH (p : κ × γ) (l : List (κ × γ)) (k : κ) : kx beq (p :: l) k = if beq k p.1 = true then some p.2 else kx beq l k := by
 unfold kx
 rw [iR]
 cases beq k p.1 <;> simp
theorem EL (a : ∀ {x y}, beq x y = true ↔ x = y) (l : List (κ × γ)) (k k2 : κ) (y : γ) : kx beq (mC beq l k y) k2 = if beq k2 k = true then some y else kx beq l k2 := by
 rcases ul k l with h | ⟨A, x, B, rfl, h⟩
 ·rw [C8 a h, Gi a, BH]
  by_cases hk : beq k2 k = true
  ·have := a.1 hk
   subst this
   rw [aj hk, aj hk, vV a h]; rfl
  ·rw [ai hk, ai hk]
   show (kx beq l k2).or none = _
   cases kx beq l k2 <;> rfl
 ·rw [w5 a h, Gi a, BH, Gi a, BH]
  by_cases hk : beq k2 k = true
  ·have := a.1 hk
   subst this
   rw [aj hk, aj hk, vV a h]; rfl
  ·rw [ai hk, ai hk, ai hk]
end
abbrev oh := List (ja × List ByteArray)
def mm (T : oh) : List (ja × List (ByteArray × Bool)) := T.map fun p => (p.1, tt p.2)
def rh (T : oh) (r : ja) : List ByteArray := (kx jt T r).getD []
def FS (T : oh) : List jd := T.flatMap fun p => p.2.map fun w => (⟨p.1, w⟩ : jd)
def EQ (T : oh) (r : ja) (w : ByteArray) : oh := mC jt T r (rh T r ++ [w])
theorem Ee (A B : oh) : mm (A ++ B) = mm A ++ mm B := by simp [mm]
theorem zo {A : oh} {r : ja} (h : ∀ p ∈ A, p.1 ≠ r) : ∀ p ∈ mm A, p.1 ≠ r := by
 intro p hp
 simp only [mm, aR] at hp
 obtain ⟨q, a, rfl⟩ := hp
 exact h q a
theorem QV (T : oh) (r : ja) : kx jt (mm T) r = (kx jt T r).map tt := by
 rcases ul r T with h | ⟨A, x, B, rfl, h⟩
 ·rw [vV jB h, vV jB (zo h)]; rfl
 ·rw [ql jB h, Ee]
  exact ql jB (zo h)
theorem MJ (T : oh) (r : ja) : (kx jt (mm T) r).getD [] = tt (rh T r) := by
 rw [QV, rh]; cases kx jt T r <;> rfl
theorem Hi (T : oh) (r : ja) (w : ByteArray) : (FS (EQ T r w)).Perm (FS T ++ [(⟨r, w⟩ : jd)]) := by
 unfold EQ rh
 rcases ul r T with h | ⟨A, x, B, rfl, h⟩
 ·rw [C8 jB h, vV jB h]
  simp [FS]
 ·rw [w5 jB h, ql jB h]
  simp only [FS, gq, ec, fR, bi, aQ, dN, aC]
  refine bK _ (bK _ ?_)
  exact cM
theorem PI {T : oh} (hk : (T.map (·.1)).Nodup) (r : ja) (w : ByteArray) : ((EQ T r w).map (·.1)).Nodup := by
 unfold EQ
 rcases ul r T with h | ⟨A, x, B, rfl, h⟩
 ·rw [C8 jB h]
  simp only [bi, aQ, dN]
  refine aS.2 ⟨hk, by simp, fun a d b c e => ?_⟩
  simp at c; subst c; subst e
  obtain ⟨p, hp, e⟩ := aR.1 d
  exact h p hp e
 ·rw [w5 jB h]
  simpa using hk
theorem Bn {T : oh} (hk : (T.map (·.1)).Nodup) (f : jd) : f ∈ FS T ↔ f.jL ∈ rh T f.ja := by
 simp only [FS, fV, aR]
 constructor
 ·rintro ⟨p, hp, w, hw, rfl⟩
  obtain ⟨A, B, rfl⟩ := List.append_of_mem hp
  have a : ∀ q ∈ A, q.1 ≠ p.1 := fun q d e => by
   rw [bi, aQ] at hk
   exact (aS.1 hk).2.2 q.1 (aR.2 ⟨q, d, rfl⟩) p.1 (by simp) e
  rw [rh, show p = (p.1, p.2) from rfl, ql jB a]
  exact hw
 ·intro h
  unfold rh at h
  rcases ul f.ja T with c | ⟨A, x, B, rfl, a⟩
  ·rw [vV jB c] at h; cases h
  ·rw [ql jB a] at h
   exact ⟨(f.ja, x), by simp, f.jL, h, rfl⟩
theorem Ln {T : oh} (h : (FS T).Nodup) (r : ja) : (rh T r).Nodup := by
 unfold rh
 rcases ul r T with c | ⟨A, x, B, rfl, a⟩
 ·rw [vV jB c]; simp
 ·rw [ql jB a]
  simp only [FS, gq, ec] at h
  have h1 := (aS.1 (aS.1 h).2.1).1
  simp only [List.Nodup, dX] at h1
  exact h1.imp (fun h e => h (by rw [e]))
inductive mE (C : List jb) : jd → Prop
 | mem (c) : c ∈ C → c.Kind = 1 → mE C ⟨c.Head, c.jL⟩
 | inc (c w) : c ∈ C → c.Kind = 2 → mE C ⟨c.B, w⟩ → mE C ⟨c.Head, w⟩
 | FM (c b w) : c ∈ C → c.Kind = 3 → mE C ⟨c.B, b⟩ → mE C ⟨⟨b, c.kk⟩, w⟩ → mE C ⟨c.Head, w⟩
 | both (c w) : c ∈ C → c.Kind = 4 → mE C ⟨c.B, w⟩ → mE C ⟨c.C, w⟩ → mE C ⟨c.Head, w⟩
theorem mE.mono {C C' : List jb} (h : ∀ c ∈ C, c ∈ C') {f : jd} (i : mE C f) : mE C' f := by
 induction i with
 | mem c a hk => exact .mem c (h c a) hk
 | inc c w a hk _ ih => exact .inc c w (h c a) hk ih
 | FM c b w a hk _ _ d g => exact .FM c b w (h c a) hk d g
 | both c w a hk _ _ d g => exact .both c w (h c a) hk d g
def BY (C : List jb) : List jd := (C.map (·.Head)).flatMap fun r => (C.map (·.jL)).map fun w => (⟨r, w⟩ : jd)
theorem yK (C : List jb) : (BY C).length = C.length * C.length := by
 unfold BY
 have : ∀ l : List ja, (l.flatMap fun r => (C.map (·.jL)).map fun w => (⟨r, w⟩ : jd)).length = l.length * C.length := fun l => by
  induction l with
  | nil => simp
  | cons x l ih => simp only [ec, ah, ih, cP, aA, bo]; omega
 rw [this, cP]
theorem Rk {C : List jb} {r : ja} {w : ByteArray} : (⟨r, w⟩ : jd) ∈ BY C ↔ (∃ c ∈ C, c.Head = r) ∧ ∃ c ∈ C, c.jL = w := by
 unfold BY
 simp only [fV, aR, jd.mk.injEq]
 constructor
 ·rintro ⟨h, ⟨c, g, rfl⟩, i, ⟨d, a, rfl⟩, rfl, rfl⟩; exact ⟨⟨c, g, rfl⟩, d, a, rfl⟩
 ·rintro ⟨⟨c, g, rfl⟩, d, a, rfl⟩; exact ⟨_, ⟨c, g, rfl⟩, _, ⟨d, a, rfl⟩, rfl, rfl⟩
theorem mE.sS {C : List jb} {f : jd} (h : mE C f) : ∃ c ∈ C, c.Kind = 1 ∧ c.jL = f.jL := by
 induction h with
 | mem c g hk => exact ⟨c, g, hk, rfl⟩
 | inc c w g hk _ ih => exact ih
 | FM c b w g hk _ _ a d => exact d
 | both c w g hk _ _ a d => exact a
theorem mE.head {C : List jb} {f : jd} (h : mE C f) : ∃ c ∈ C, c.Head = f.ja := by
 cases h with
 | mem c a hk => exact ⟨c, a, rfl⟩
 | inc c w a hk _ => exact ⟨c, a, rfl⟩
 | FM c b w a hk _ _ => exact ⟨c, a, rfl⟩
 | both c w a hk _ _ => exact ⟨c, a, rfl⟩
theorem mE.BY {C : List jb} {f : jd} (h : mE C f) : f ∈ BY C := by
 obtain ⟨c, a, _, hw⟩ := h.sS
 exact Rk.2 ⟨h.head, c, a, hw⟩
structure pT (C : List jb) (T : oh) (td : List jd) (n : Int) : Prop where
 keys : (T.map (·.1)).Nodup
 nd : (FS T).Nodup
 LB : td.Nodup
 sub : ∀ f ∈ td, f ∈ FS T
 num : n = (FS T).length
 xh : ∀ f ∈ FS T, mE C f
theorem pT.len {C : List jb} {T : oh} {c : List jd} {n : Int} (h : pT C T c n) : (FS T).length ≤ C.length * C.length := by
 rw [← yK]; exact lh h.nd (fun f a => (h.xh f a).BY)
theorem pT.SI {C : List jb} {T : oh} {a : List jd} {n : Int} (h : pT C T a n) : a.length ≤ (FS T).length := lh h.LB h.sub
theorem pT.mono {C C' : List jb} {T : oh} {a : List jd} {n : Int} (h : pT C T a n) (d : ∀ c ∈ C, c ∈ C') : pT C' T a n := ⟨h.keys, h.nd, h.LB, h.sub, h.num, fun f g => (h.xh f g).mono d⟩
structure zV (T : oh) (td : List jd) (T' : oh) (td' : List jd) : Prop where
 ll : ∀ f ∈ FS T, f ∈ FS T'
 todo : ∀ f ∈ td, f ∈ td'
 new : ∀ f ∈ FS T', f ∈ FS T ∨ f ∈ td'
 fresh : ∀ f ∈ td', f ∈ td ∨ f ∉ FS T
theorem zV.refl (T : oh) (a : List jd) : zV T a T a := ⟨fun _ h => h, fun _ h => h, fun _ h => .inl h, fun _ h => .inl h⟩
theorem zV.trans {T T' T'' : oh} {i g a : List jd} (h : zV T i T' g) (k : zV T' g T'' a) : zV T i T'' a :=
 ⟨fun f c => k.ll f (h.ll f c), fun f c => k.todo f (h.todo f c), fun f c => by
  rcases k.new f c with h1 | h1
  ·rcases h.new f h1 with d | d
   ·exact .inl d
   ·exact .inr (k.todo f d)
  ·exact .inr h1, fun f c => by
  rcases k.fresh f c with h1 | h1
  ·exact h.fresh f h1
  ·exact .inr (fun d => h1 (h.ll f d))⟩
theorem Ht {α : Type} (p : α → Bool) : ∀ l : List α, (l.filter p).length + (l.filter fun x => !p x).length = l.length
 | [] => rfl
 | x :: l => by
  have := Ht p l
  cases h : p x <;> simp [h] <;> omega
theorem pT.FU {C C' : List jb} {T T' : oh} {d c : List jd} {n p : Int} (i : pT C' T' c p) (g : pT C T d n) (x : zV T d T' c) : c.length + (FS T).length ≤ d.length + (FS T').length := by
 classical
 have h1 : (c.filter fun f => decide (f ∈ FS T)).length ≤ d.length := lh (i.LB.filter _) (fun f j => by
  have := db.1 j
  rcases x.fresh f this.1 with h | h
  ·exact h
  ·exact absurd (by simpa using this.2) h)
 have k : (FS T ++ c.filter fun f => !decide (f ∈ FS T)).length ≤ (FS T').length := lh (aS.2 ⟨g.nd, i.LB.filter _, fun a m b o e => by
  subst e
  have := (db.1 o).2
  simp [m] at this⟩) (fun f j => by
  rcases aI.1 j with h | h
  ·exact x.ll f h
  ·exact i.sub f (db.1 h).1)
 have q : (c.filter fun f => decide (f ∈ FS T)).length + (c.filter fun f => !decide (f ∈ FS T)).length = c.length := by
  exact Ht (fun f => decide (f ∈ FS T)) c
 rw [ah] at k
 omega
def Cf (C : List jb) (T : oh) (g : List jd) (c : Option (List (ja × List (ByteArray × Bool)) × List jd × Int)) (Q : oh → Prop) : Prop :=
 ∃ T' a d, c = some (mm T', a, d) ∧ pT C T' a d ∧ zV T g T' a ∧ Q T'
theorem Cf.mono {C : List jb} {T : oh} {g : List jd} {a : Option (List (ja × List (ByteArray × Bool)) × List jd × Int)} {Q Q' : oh → Prop} (h : Cf C T g a Q) (k : ∀ T', (∀ f ∈ FS T, f ∈ FS T') → Q T' → Q' T') : Cf C T g a Q' := by
 obtain ⟨T', c, m, h1, i, d, j⟩ := h
 exact ⟨T', c, m, h1, i, d, k T' d.ll j⟩
def qm (C : List jb) : Prop := C.length ≤ 1000000
theorem qm.sq {C : List jb} (h : qm C) : C.length * C.length ≤ 1000000000000 := eu h h
theorem sJ {T : oh} (hk : (T.map (·.1)).Nodup) (r : ja) (w : ByteArray) : xb ke ((kx jt (mm T) r).getD []) w false = true ↔ (⟨r, w⟩ : jd) ∈ FS T := by
 rw [MJ, Dg, nu kK, Bn hk]
theorem CN {C : List jb} (y : qm C) {T : oh} {j : List jd} {n : Int} (h : pT C T j n) (cs : List jb) (J : List (ja × List jb)) (ws : List (ByteArray × List jb)) {r : ja} {w : ByteArray} (z : mE C ⟨r, w⟩) :
  Cf C T j (mO (mm T) cs J ws j n r w) (fun T' => (⟨r, w⟩ : jd) ∈ FS T') := by
 unfold mO
 have F := y.sq
 have L := h.len
 have G := h.SI
 by_cases d : (⟨r, w⟩ : jd) ∈ FS T
 ·rw [aj ((sJ h.keys r w).2 d)]
  exact ⟨T, j, n, rfl, h, zV.refl _ _, d⟩
 ·rw [ai (fun t => d ((sJ h.keys r w).1 t))]
  have D : pT C (EQ T r w) (j ++ [⟨r, w⟩]) (n + 1) := by
   have hp := Hi T r w
   refine ⟨PI h.keys r w, (hp.nodup_iff).2 (aS.2 ⟨h.nd, by simp, fun a s b m e => ?_⟩), aS.2 ⟨h.LB, by simp, fun a s b m e => ?_⟩, fun f c => hp.mem_iff.2 ?_, ?_, fun f c => ?_⟩
   ·simp at m; subst m; subst e; exact d s
   ·simp at m; subst m; subst e; exact d (h.sub _ s)
   ·rcases aI.1 c with c | c
    ·exact aW _ (h.sub f c)
    ·exact bU _ c
   ·rw [hp.length_eq, h.num]; simp
   ·rcases aI.1 (hp.mem_iff.1 c) with c | c
    ·exact h.xh f c
    ·simp at c; subst c; exact z
  have u : ((if (kx jt (mm T) r).isNone = true then ((Gz jt (mm T) r []).bind fun l => some l) else some (mm T)) : Option _).bind (fun l => (F7 jt ke l r w true)) = some (mm (EQ T r w)) := by
   unfold EQ rh
   rcases ul r T with i | ⟨A, x, B, rfl, q⟩
   ·have p := vV jB (zo i)
    rw [p, vV jB i, C8 jB i, Ee]
    simp only [Option.isNone_none, aD, Gz, p, aa]
    rw [C8 jB (zo i)]
    unfold F7
    rw [ql jB (zo i)]
    simp only [cv]
    rw [w5 jB (zo i)]
    rfl
   ·have k := zo q
    have v : kx jt (mm (A ++ (r, x) :: B)) r = some (tt x) := by rw [Ee]; exact ql jB k
    rw [v, ql jB q, w5 jB q]
    simp only [Option.isNone_some, ae, aq, aa, F7, v, cv, fR]
    have I : w ∉ x := fun hw => d (by
     rw [Bn h.keys, rh, ql jB q]; exact hw)
    rw [HK kK]
    rw [show ins ke x w = x ++ [w] from by unfold ins; rw [ai (fun t => I ((nu kK x w).1 t))]]
    rw [Ee, show mm ((r, x) :: B) = (r, tt x) :: mm B from rfl, w5 jB k, Ee]
    rfl
  refine ⟨EQ T r w, j ++ [⟨r, w⟩], n + 1, ?_, D, ⟨fun f c => (Hi T r w).mem_iff.2 (aW _ c), fun f c => aW _ c, fun f c => ?_, fun f c => ?_⟩, (Hi T r w).mem_iff.2 (by simp)⟩
  ·have g := u
   generalize ((if (kx jt (mm T) r).isNone = true then ((Gz jt (mm T) r []).bind fun l => some l) else some (mm T)) : Option _) = o at g
   cases o with
   | none => cases g
   | some l =>
    simp only [aa] at g ⊢
    rw [g]
    simp only [aa]
    rw [lu (by simp; omega) (by simp; omega)]
    simp only [aa]
    rw [kp (by rw [h.num]; omega) (by rw [h.num]; omega)]
  ·rcases aI.1 ((Hi T r w).mem_iff.1 c) with h1 | h1
   ·exact .inl h1
   ·exact .inr (bU _ h1)
  ·rcases aI.1 c with h1 | h1
   ·exact .inl h1
   ·simp at h1; subst h1; exact .inr d
theorem zB (l : List ByteArray) (x : ByteArray) : x ∈ np l ↔ x ∈ l := by unfold np; simp
def pw (C : List jb) : Prop := ∀ c ∈ C, kc c = true
theorem OB {c : jb} (h : kc c = true) (hk : c.Kind = 1) : c.jL.size ≤ 16 := by
 rcases lY h with h | h | h | h
 ·exact (lB h.2.1).2
 ·exact absurd (hk.symm.trans h.1) (by decide)
 ·exact absurd (hk.symm.trans h.1) (by decide)
 ·exact absurd (hk.symm.trans h.1) (by decide)
theorem Pc {T : oh} (r : ja) (hk : (T.map (·.1)).Nodup) : (rh T r).length ≤ (FS T).length := by
 unfold rh
 rcases ul r T with c | ⟨A, x, B, rfl, a⟩
 ·rw [vV jB c]; simp
 ·rw [ql jB a]
  simp only [FS, gq, ec, ah, cP, fR]
  omega
theorem Hl {C : List jb} (a : qm C) (d : pw C) {T : oh} {j : List jd} {n : Int} (h : pT C T j n) (cs : List jb) (k : List (ja × List jb)) (ws : List (ByteArray × List jb)) (q : List jd) (z : Int) (r : ja) :
  pZ (mm T) cs k ws q z r = some (np (rh T r)) := by
 unfold pZ nV
 rw [MJ]
 simp only [aa, sR]
 have s := Pc r h.keys
 have m := h.len
 have o := a.sq
 unfold GL
 rw [Q3, aj]
 refine ⟨Ln h.nd r, fun p hp => ?_, by rw [Of]; omega⟩
 simp only [tt, aR] at hp
 obtain ⟨w, hw, rfl⟩ := hp
 have i := h.xh ⟨r, w⟩ ((Bn h.keys ⟨r, w⟩).2 hw)
 obtain ⟨c, g, hk, e⟩ := i.sS
 have := OB (d c g) hk
 simp only at e ⊢
 rw [← e]
 unfold maxLen
 omega
theorem NQ {C : List jb} (i : qm C) (cs : List jb) (g : List (ja × List jb)) (ws : List (ByteArray × List jb)) (head : ja) : ∀ (l : List ByteArray) {T : oh} {a : List jd} {n : Int}, pT C T a n → (∀ w ∈ l, mE C ⟨head, w⟩) →
  Cf C T a (px cs g ws head l (mm T) a n) (fun T' => ∀ w ∈ l, (⟨head, w⟩ : jd) ∈ FS T')
 | [], T, a, n, h, _ => ⟨T, a, n, rfl, h, zV.refl _ _, fun _ hw => by cases hw⟩
 | w :: l, T, a, n, h, j => by
  rw [px]
  obtain ⟨T1, s, t, k, g1, x1, p⟩ := CN i h cs g ws (j w (by simp))
  rw [k]
  simp only [aa]
  obtain ⟨T2, d, o, m, g2, x2, q⟩ := NQ i cs g ws head l g1 (fun w hw => j w (by simp [hw]))
  refine ⟨T2, d, o, m, g2, x1.trans x2, fun v c => ?_⟩
  rcases aB.1 c with rfl | c
  ·exact x2.ll _ p
  ·exact q v c
theorem RK {C : List jb} (c : qm C) (g : pw C) {T : oh} {a : List jd} {n : Int} (h : pT C T a n) (cs : List jb) (d : List (ja × List jb)) (ws : List (ByteArray × List jb)) (r head : ja) (i : ∀ w, (⟨r, w⟩ : jd) ∈ FS T → mE C ⟨head, w⟩) :
  Cf C T a (tP (mm T) cs d ws a n r head) (fun T' => ∀ w, (⟨r, w⟩ : jd) ∈ FS T → (⟨head, w⟩ : jd) ∈ FS T') := by
 unfold tP
 rw [Hl c g h]
 simp only [aa]
 refine (NQ c cs d ws head _ h (fun w hw => i w ((Bn h.keys ⟨r, w⟩).2 ((zB _ _).1 hw)))).mono (fun T' _ j w hw => j w ((zB _ _).2 ((Bn h.keys ⟨r, w⟩).1 hw)))
def E9 (c : jb) (f : jd) (T T' : oh) : Prop :=
 (c.Kind = 2 → f.ja = c.B → (⟨c.Head, f.jL⟩ : jd) ∈ FS T') ∧
 (c.Kind = 3 → f.ja = c.B → ∀ w, (⟨⟨f.jL, c.kk⟩, w⟩ : jd) ∈ FS T → (⟨c.Head, w⟩ : jd) ∈ FS T') ∧
 (c.Kind = 4 → (⟨c.B, f.jL⟩ : jd) ∈ FS T → (⟨c.C, f.jL⟩ : jd) ∈ FS T → (⟨c.Head, f.jL⟩ : jd) ∈ FS T')
theorem E9.mono {c : jb} {f : jd} {T T' T0 T1 : oh} (h : E9 c f T T') (g : ∀ f ∈ FS T0, f ∈ FS T) (h1 : ∀ f ∈ FS T', f ∈ FS T1) : E9 c f T0 T1 :=
 ⟨fun a b => h1 _ (h.1 a b), fun a b w hw => h1 _ (h.2.1 a b w (g _ hw)), fun a b d => h1 _ (h.2.2 a (g _ b) (g _ d))⟩
theorem QJ (x : Option (List (ja × List (ByteArray × Bool)) × List jd × Int)) : (x.bind fun r => some (r.1, r.2.1, r.2.2)) = x := by cases x <;> rfl
theorem NS {C : List jb} (q : qm C) (z : pw C) {T : oh} {j : List jd} {n : Int} (h : pT C T j n) (cs : List jb) (o : List (ja × List jb)) (ws : List (ByteArray × List jb)) {c : jb} (s : c ∈ C) {f : jd} (u : f ∈ FS T) (v : f.ja ∈ nD c) :
  Cf C T j (qU (mm T) cs o ws j n c f) (E9 c f T) := by
 unfold qU
 simp only [QJ, yU]
 by_cases a : c.Kind = 2
 ·have p : f.ja = c.B := by simpa [nD, a] using v
  rw [aj (by simp [a])]
  have t : mE C ⟨c.Head, f.jL⟩ := .inc c f.jL s a (by rw [← p]; exact h.xh f u)
  refine (CN q h cs o ws t).mono (fun T' _ i => ⟨fun _ _ => i, fun k => absurd (a.symm.trans k) (by decide), fun k => absurd (a.symm.trans k) (by decide)⟩)
 rw [ai (by simp [a])]
 by_cases d : c.Kind = 3
 ·have p : f.ja = c.B := by simpa [nD, d] using v
  rw [aj (by simp [d])]
  refine (RK q z h cs o ws ⟨f.jL, c.kk⟩ c.Head (fun w hw => .FM c f.jL w s d (by rw [← p]; exact h.xh f u) (h.xh _ hw))).mono (fun T' _ i => ⟨fun k => absurd k a, fun _ _ w hw => i w hw, fun k => absurd (d.symm.trans k) (by decide)⟩)
 rw [ai (by simp [d])]
 by_cases m : c.Kind = 4
 ·rw [aj (by simp [m])]
  simp only [aa]
  by_cases g : (⟨c.B, f.jL⟩ : jd) ∈ FS T ∧ (⟨c.C, f.jL⟩ : jd) ∈ FS T
  ·rw [aj (by rw [az, sJ h.keys, sJ h.keys]; exact g)]
   have t : mE C ⟨c.Head, f.jL⟩ := .both c f.jL s m (h.xh _ g.1) (h.xh _ g.2)
   exact (CN q h cs o ws t).mono (fun T' _ i => ⟨fun k => absurd k a, fun k => absurd k d, fun _ _ _ => i⟩)
  ·rw [ai (by rw [az, sJ h.keys, sJ h.keys]; exact g)]
   exact ⟨T, j, n, rfl, h, zV.refl _ _, fun k => absurd k a, fun k => absurd k d, fun _ x y => absurd ⟨x, y⟩ g⟩
 ·rw [ai (by simp [m])]
  exact ⟨T, j, n, rfl, h, zV.refl _ _, fun k => absurd k a, fun k => absurd k d, fun k => absurd k m⟩
theorem Jz {C : List jb} (j : qm C) (k : pw C) (cs : List jb) (i : List (ja × List jb)) (ws : List (ByteArray × List jb)) {c : jb} (m : c ∈ C) (o : c.B ∈ nD c) : ∀ (l : List ByteArray) {T : oh} {a : List jd} {n : Int}, pT C T a n → (∀ w ∈ l, (⟨c.B, w⟩ : jd) ∈ FS T) →
  Cf C T a (oy cs i ws c l (mm T) a n) (fun T' => ∀ w ∈ l, E9 c ⟨c.B, w⟩ T T')
 | [], T, a, n, h, _ => ⟨T, a, n, rfl, h, zV.refl _ _, fun _ hw => by cases hw⟩
 | w :: l, T, a, n, h, hm => by
  rw [oy]
  obtain ⟨T1, x, y, p, g1, x1, t⟩ := NS j k h cs i ws m (f := ⟨c.B, w⟩) (hm w (by simp)) o
  rw [p]
  simp only [aa]
  obtain ⟨T2, g, s, q, g2, x2, u⟩ := Jz j k cs i ws m o l g1 (fun w hw => x1.ll _ (hm w (by simp [hw])))
  refine ⟨T2, g, s, q, g2, x1.trans x2, fun v d => ?_⟩
  rcases aB.1 d with rfl | d
  ·exact t.mono (fun _ h => h) x2.ll
  ·exact (u v d).mono x1.ll (fun _ h => h)
def FK (c : jb) (T : oh) (a : List jd) : Prop :=
 (c.Kind = 1 → (⟨c.Head, c.jL⟩ : jd) ∈ FS T) ∧
 (c.Kind = 2 → ∀ w, (⟨c.B, w⟩ : jd) ∈ FS T → (⟨c.B, w⟩ : jd) ∉ a → (⟨c.Head, w⟩ : jd) ∈ FS T) ∧
 (c.Kind = 3 → ∀ b w, (⟨c.B, b⟩ : jd) ∈ FS T → (⟨c.B, b⟩ : jd) ∉ a → (⟨⟨b, c.kk⟩, w⟩ : jd) ∈ FS T → (⟨⟨b, c.kk⟩, w⟩ : jd) ∉ a → (⟨c.Head, w⟩ : jd) ∈ FS T) ∧
 (c.Kind = 4 → ∀ w, (⟨c.B, w⟩ : jd) ∈ FS T → (⟨c.B, w⟩ : jd) ∉ a → (⟨c.C, w⟩ : jd) ∈ FS T → (⟨c.C, w⟩ : jd) ∉ a → (⟨c.Head, w⟩ : jd) ∈ FS T)
theorem FK.ext {c : jb} {T T' : oh} {i d : List jd} (h : FK c T i) (x : zV T i T' d) : FK c T' d := by
 have ll : ∀ f, f ∈ FS T' → f ∉ d → f ∈ FS T ∧ f ∉ i := fun f n j => by
  rcases x.new f n with h1 | h1
  ·exact ⟨h1, fun m => j (x.todo f m)⟩
  ·exact absurd h1 j
 refine ⟨fun k => x.ll _ (h.1 k), fun k w a b => ?_, fun k b w g a2 a3 a4 => ?_, fun k w g a2 a3 a4 => ?_⟩
 ·exact x.ll _ (h.2.1 k w (ll _ a b).1 (ll _ a b).2)
 ·exact x.ll _ (h.2.2.1 k b w (ll _ g a2).1 (ll _ g a2).2 (ll _ a3 a4).1 (ll _ a3 a4).2)
 ·exact x.ll _ (h.2.2.2 k w (ll _ g a2).1 (ll _ g a2).2 (ll _ a3 a4).1 (ll _ a3 a4).2)
theorem Qg {C : List jb} (m : qm C) (t : pw C) {T : oh} {p : List jd} {n : Int} (h : pT C T p n) (cs : List jb) (s : List (ja × List jb)) (ws : List (ByteArray × List jb)) {c : jb} (u : c ∈ C) :
  ∃ T' d i, sc (mm T) cs s ws p n c = some (mm T', d, i) ∧ pT C T' d i ∧ zV T p T' d ∧ FK c T' d := by
 unfold sc
 simp only [QJ]
 by_cases h1 : c.Kind = 1
 ·rw [aj (by simp [h1])]
  obtain ⟨T', d, i, e, g, x, q⟩ := CN m h cs s ws (mE.mem c u h1)
  exact ⟨T', d, i, e, g, x, fun _ => q, fun k => absurd (h1.symm.trans k) (by decide), fun k => absurd (h1.symm.trans k) (by decide), fun k => absurd (h1.symm.trans k) (by decide)⟩
 ·rw [ai (by simp [h1]), Hl m t h]
  simp only [aa]
  have z : c.B ∈ nD c := by unfold nD; rw [ai h1]; split <;> simp
  obtain ⟨T', d, i, e, g, x, q⟩ := Jz m t cs s ws u z (np (rh T c.B)) h (fun w hw => (Bn h.keys ⟨c.B, w⟩).2 ((zB _ _).1 hw))
  have ll : ∀ f, f ∈ FS T' → f ∉ d → f ∈ FS T := fun f v y => by
   rcases x.new f v with h1 | h1
   ·exact h1
   ·exact absurd h1 y
  have o : ∀ w, (⟨c.B, w⟩ : jd) ∈ FS T → E9 c ⟨c.B, w⟩ T T' := fun w hw => q w ((zB _ _).2 ((Bn h.keys ⟨c.B, w⟩).1 hw))
  refine ⟨T', d, i, e, g, x, fun k => absurd k h1, fun k w a b => ?_, fun k b w j a2 a3 a4 => ?_, fun k w j a2 a3 a4 => ?_⟩
  ·exact (o w (ll _ a b)).1 k rfl
  ·exact (o b (ll _ j a2)).2.1 k rfl w (ll _ a3 a4)
  ·exact (o w (ll _ j a2)).2.2 k (ll _ j a2) (ll _ a3 a4)
structure EG (C : List jb) (us : List (ja × List jb)) (ws : List (ByteArray × List jb)) : Prop where
 Ps : ∀ r c, c ∈ (kx jt us r).getD [] ↔ c ∈ C ∧ r ∈ nD c
 word : ∀ w c, c ∈ (kx ke ws w).getD [] ↔ c ∈ C ∧ c.Kind = 3 ∧ c.kk = w
 Su : ∀ r, ((kx jt us r).getD []).length ≤ 2 * C.length
 SA : ∀ w, ((kx ke ws w).getD []).length ≤ C.length
theorem H3 {C : List jb} (j : qm C) (k : pw C) (cs : List jb) (i : List (ja × List jb)) (ws : List (ByteArray × List jb)) {f : jd} : ∀ (l : List jb) {T : oh} {a : List jd} {n : Int}, pT C T a n → f ∈ FS T → (∀ c ∈ l, c ∈ C ∧ f.ja ∈ nD c) →
  Cf C T a (ob cs i ws f l (mm T) a n) (fun T' => ∀ c ∈ l, E9 c f T T')
 | [], T, a, n, h, _, _ => ⟨T, a, n, rfl, h, zV.refl _ _, fun _ hw => by cases hw⟩
 | c :: l, T, a, n, h, m, hm => by
  rw [ob]
  obtain ⟨T1, w, x, o, g1, x1, t⟩ := NS j k h cs i ws (hm c (by simp)).1 m (hm c (by simp)).2
  rw [o]
  simp only [aa]
  obtain ⟨T2, g, s, p, g2, x2, u⟩ := H3 j k cs i ws l g1 (x1.ll _ m) (fun c q => hm c (by simp [q]))
  refine ⟨T2, g, s, p, g2, x1.trans x2, fun v d => ?_⟩
  rcases aB.1 d with rfl | d
  ·exact t.mono (fun _ h => h) x2.ll
  ·exact (u v d).mono x1.ll (fun _ h => h)
theorem En {C : List jb} (o : qm C) (w : pw C) (cs : List jb) (k : List (ja × List jb)) (ws : List (ByteArray × List jb)) {f : jd} : ∀ (l : List jb) {T : oh} {i : List jd} {n : Int}, pT C T i n → f ∈ FS T → (∀ c ∈ l, c ∈ C ∧ c.Kind = 3 ∧ c.kk = f.ja.jK) →
  Cf C T i (mU f cs k ws l (mm T) i n) (fun T' => ∀ c ∈ l, (⟨c.B, f.ja.jn⟩ : jd) ∈ FS T → (⟨c.Head, f.jL⟩ : jd) ∈ FS T')
 | [], T, i, n, h, _, _ => ⟨T, i, n, rfl, h, zV.refl _ _, fun _ hw => by cases hw⟩
 | c :: l, T, i, n, h, q, hm => by
  rw [mU]
  have hk := hm c (by simp)
  by_cases j : (⟨c.B, f.ja.jn⟩ : jd) ∈ FS T
  ·rw [aj ((sJ h.keys _ _).2 j)]
   have s : f = ⟨⟨f.ja.jn, c.kk⟩, f.jL⟩ := by rw [hk.2.2]
   have y : mE C ⟨c.Head, f.jL⟩ := .FM c f.ja.jn f.jL hk.1 hk.2.1 (h.xh _ j) (by rw [← s]; exact h.xh f q)
   obtain ⟨T1, D, F, x, g1, x1, A⟩ := CN o h cs k ws y
   rw [x]
   simp only [aa]
   obtain ⟨T2, g, t, m, g2, x2, u⟩ := En o w cs k ws l g1 (x1.ll _ q) (fun c p => hm c (by simp [p]))
   refine ⟨T2, g, t, m, g2, x1.trans x2, fun v d a => ?_⟩
   rcases aB.1 d with rfl | d
   ·exact x2.ll _ A
   ·exact u v d (x1.ll _ a)
  ·rw [ai (fun z => j ((sJ h.keys _ _).1 z))]
   obtain ⟨T2, g, t, m, g2, x2, u⟩ := En o w cs k ws l h q (fun c p => hm c (by simp [p]))
   refine ⟨T2, g, t, m, g2, x2, fun v d a => ?_⟩
   rcases aB.1 d with rfl | d
   ·exact absurd a j
   ·exact u v d a
theorem It {C : List jb} (G : qm C) (I : pw C) {cs : List jb} {D : List (ja × List jb)} {ws : List (ByteArray × List jb)} (v : EG C D ws) : ∀ (m : Nat) {T : oh} {o : List jd} {n : Int}, pT C T o n → (∀ c ∈ C, FK c T o) → C.length * C.length + o.length < m + (FS T).length →
  ∃ T' M, ml cs D ws m (mm T) o n = some (mm T', [], M) ∧ pT C T' [] M ∧ (∀ c ∈ C, FK c T' []) ∧ (∀ f ∈ FS T, f ∈ FS T')
 | 0, T, o, n, h, _, hm => by have := h.len; omega
 | m + 1, T, [], n, h, q, hm => by
  rw [ml]
  exact ⟨T, n, rfl, h, q, fun _ h => h⟩
 | m + 1, T, f :: o, n, h, q, hm => by
  rw [ml]
  rw [aj (by simp)]
  have L : f ∈ FS T := h.sub f (by simp)
  have U := (cu.1 h.LB)
  simp only [kN, gX, aD, Int.toNat_zero, fh, aa]
  rw [show me (decide ((0 : Nat) ≤ 1) && decide ((1 : Int) ≤ ((f :: o).length : Int))) = some () by simp [me]; omega]
  simp only [aa, show Int.toNat 1 = 1 from rfl, List.drop_one, List.tail_cons]
  have J : pT C T o n := ⟨h.keys, h.nd, U.2, fun g z => h.sub g (by simp [z]), h.num, h.xh⟩
  obtain ⟨T1, a6, n1, P, g1, x1, q1⟩ := H3 G I cs D ws ((kx jt D f.ja).getD []) J L (fun c i => (v.Ps _ c).1 i)
  rw [P]
  simp only [aa]
  obtain ⟨T2, s, n2, Q, g2, x2, q2⟩ := En G I cs D ws ((kx ke ws f.ja.jK).getD []) g1 (x1.ll _ L) (fun c i => (v.word _ c).1 i)
  rw [Q]
  simp only [aa]
  have x := x1.trans x2
  have ll : ∀ g, g ∈ FS T2 → g ∉ s → g ∈ FS T ∧ (g = f ∨ g ∉ f :: o) := fun g z A => by
   rcases x.new g z with h1 | h1
   ·refine ⟨h1, ?_⟩
    by_cases he : g = f
    ·exact .inl he
    ·exact .inr (fun u => by
      rcases aB.1 u with u | u
      ·exact he u
      ·exact A (x.todo g u))
   ·exact absurd h1 A
  have d1 : ∀ c ∈ C, f.ja ∈ nD c → E9 c f T T2 := fun c i W => (q1 c ((v.Ps _ c).2 ⟨i, W⟩)).mono (fun _ h => h) x2.ll
  have y : ∀ c ∈ C, FK c T2 s := fun c i => by
   have k := q c i
   refine ⟨fun hk => x.ll _ (k.1 hk), fun hk w a b => ?_, fun hk b w F a2 a3 a4 => ?_, fun hk w F a2 a3 a4 => ?_⟩
   ·obtain ⟨p, d⟩ := ll _ a b
    rcases d with d | d
    ·subst d; exact (d1 c i (by simp [nD, hk])).1 hk rfl
    ·exact x.ll _ (k.2.1 hk w p d)
   ·obtain ⟨p, d⟩ := ll _ F a2
    obtain ⟨t, j⟩ := ll _ a3 a4
    rcases d with d | d
    ·subst d; exact (d1 c i (by simp [nD, hk])).2.1 hk rfl w t
    ·rcases j with j | j
     ·subst j
      exact q2 c ((v.word _ c).2 ⟨i, hk, rfl⟩) (x1.ll _ p)
     ·exact x.ll _ (k.2.2.1 hk b w p d t j)
   ·obtain ⟨p, d⟩ := ll _ F a2
    obtain ⟨t, j⟩ := ll _ a3 a4
    rcases d with d | d
    ·subst d; exact (d1 c i (by simp [nD, hk])).2.2 hk p t
    ·rcases j with j | j
     ·subst j; exact (d1 c i (by simp [nD, hk])).2.2 hk p t
     ·exact x.ll _ (k.2.2.2 hk w p d t j)
  have hlen : s.length + (FS T).length ≤ o.length + (FS T2).length := by
   exact g2.FU J x
  obtain ⟨T3, Y, R, g3, O, Z⟩ := It G I v m g2 y (by simp only [aA] at hm; omega)
  exact ⟨T3, Y, R, g3, O, fun g z => Z g (x.ll g z)⟩
theorem Mw (c : jb) : ∀ (l : List jb) (i : Nat), ∃ z, pt c l i = some z ∧ (z ≥ 0 ↔ c ∈ l)
 | [], i => ⟨-1, rfl, by simp⟩
 | x :: l, i => by
  rw [pt]
  by_cases h : mV c x = true
  ·rw [aj h]
   exact ⟨_, rfl, by simp [uH.1 h]⟩
  ·rw [ai h]
   obtain ⟨z, e, d⟩ := Mw c l (i + 1)
   refine ⟨z, e, ?_⟩
   rw [d, aB]
   exact ⟨.inr, fun a => a.resolve_left (fun e => h (uH.2 e))⟩
theorem Kq (c : jb) (l : List jb) : ∃ b, xd l c = some b ∧ (b = true ↔ c ∈ l) := by
 obtain ⟨z, e, a⟩ := Mw c l 0
 refine ⟨decide (z ≥ 0), ?_, by simpa using a⟩
 unfold xd uF wh
 rw [e]
 rfl
theorem LP (c : jb) (ws : List (ByteArray × List jb)) (C : List jb) (hw : ∀ w, ((kx ke ws w).getD []).length ≤ 2000000) : ∀ (k : List ja) (a : List (ja × List jb)), (∀ r, ((kx jt a r).getD []).length + k.length ≤ 4000000) →
  ∃ i j, nF c ws C k a = some (C, i, j) ∧ (∀ r x, x ∈ (kx jt i r).getD [] ↔ x ∈ (kx jt a r).getD [] ∨ (x = c ∧ r ∈ k)) ∧
   (∀ w x, x ∈ (kx ke j w).getD [] ↔ x ∈ (kx ke ws w).getD [] ∨ (x = c ∧ c.Kind = 3 ∧ w = c.kk)) ∧ (∀ r, ((kx jt i r).getD []).length ≤ ((kx jt a r).getD []).length + k.length) ∧
   (∀ w, ((kx ke j w).getD []).length ≤ ((kx ke ws w).getD []).length + 1)
 | [], a, _ => by
  rw [nF]
  by_cases m : c.Kind = 3
  ·rw [aj (by simp [m])]
   have h := hw c.kk
   rw [lu (by simp; omega) (by simp; omega)]
   simp only [aa]
   refine ⟨a, _, rfl, by simp, fun w x => ?_, by simp, fun w => ?_⟩
   ·rw [EL kK]
    by_cases hk : ke w c.kk = true
    ·rw [aj hk, kK.1 hk]; simp [m]
    ·rw [ai hk]
     have : w ≠ c.kk := fun e => hk (kK.2 e)
     simp [this]
   ·rw [EL kK]
    by_cases hk : ke w c.kk = true
    ·rw [aj hk, kK.1 hk]; simp
    ·rw [ai hk]; exact gV _
  ·rw [ai (by simp [m])]
   exact ⟨a, ws, rfl, by simp, by simp [m], by simp, by simp⟩
 | d :: k, a, n => by
  rw [nF]
  have h := n d
  simp only [aA] at h
  rw [lu (by simp; omega) (by simp; omega)]
  simp only [aa]
  have g : ∀ r, (kx jt (mC jt a d (((kx jt a d).getD []) ++ [c])) r).getD [] = if jt r d = true then ((kx jt a d).getD []) ++ [c] else (kx jt a r).getD [] := fun r => by
   rw [EL jB]; by_cases hk : jt r d = true
   ·rw [aj hk, aj hk]; rfl
   ·rw [ai hk, ai hk]
  obtain ⟨i, j, e, o, a2, a3, a4⟩ := LP c ws C hw k (mC jt a d (((kx jt a d).getD []) ++ [c])) (fun r => by
   rw [g r]
   have p := n r
   simp only [aA] at p
   by_cases hk : jt r d = true
   ·rw [aj hk]; simp; omega
   ·rw [ai hk]; omega)
  refine ⟨i, j, e, fun r x => ?_, a2, fun r => ?_, a4⟩
  ·rw [o, g]
   by_cases hk : jt r d = true
   ·rw [aj hk, jB.1 hk]
    simp only [aI, aB, bZ, er]
    constructor
    ·rintro ((h | h) | h)
     ·exact .inl h
     ·exact .inr ⟨h, .inl trivial⟩
     ·exact .inr ⟨h.1, .inr h.2⟩
    ·rintro (h | h)
     ·exact .inl (.inl h)
     ·exact .inl (.inr h.1)
   ·rw [ai hk]
    have : r ≠ d := fun e => hk (jB.2 e)
    simp [this]
  ·have := a3 r
   rw [g r] at this
   by_cases hk : jt r d = true
   ·rw [aj hk] at this; rw [jB.1 hk] at this ⊢; simp at this ⊢; omega
   ·rw [ai hk] at this; simp; omega
theorem QZ {C : List jb} {k : List (ja × List jb)} {ws : List (ByteArray × List jb)} (j : EG C k ws) (s : C.length + 1 ≤ 1000000) {c : jb} (o : kc c = true) (i : List (ja × List (ByteArray × Bool))) (q : List jd) (n : Int) :
  ∃ a d, sP i C k ws q n c = some (C ++ [c], a, d) ∧ EG (C ++ [c]) a d := by
 unfold sP
 rw [lu (by simp; omega) (by simp; omega)]
 simp only [aa, RA o]
 rw [show me (decide ((0 : Nat) ≤ 1) && decide ((1 : Int) ≤ ((c.Head :: nD c).length : Int))) = some () by simp [me]; omega]
 simp only [aa, show Int.toNat 1 = 1 from rfl, List.drop_one, List.tail_cons]
 have p : (nD c).length ≤ 2 := by unfold nD; split; simp; split <;> simp
 obtain ⟨a, d, e, m, a2, a3, a4⟩ := LP c ws (C ++ [c]) (fun w => by have := j.SA w; omega) (nD c) k (fun r => by have := j.Su r; omega)
 refine ⟨a, d, e, fun r x => ?_, fun w x => ?_, fun r => ?_, fun w => ?_⟩
 ·rw [m, j.Ps, aI, aF]
  constructor
  ·rintro (h | h)
   ·exact ⟨.inl h.1, h.2⟩
   ·exact ⟨.inr h.1, by rw [h.1]; exact h.2⟩
  ·rintro ⟨h | h, g⟩
   ·exact .inl ⟨h, g⟩
   ·exact .inr ⟨h, by rw [← h]; exact g⟩
 ·rw [a2, j.word, aI, aF]
  constructor
  ·rintro (h | h)
   ·exact ⟨.inl h.1, h.2⟩
   ·exact ⟨.inr h.1, by rw [h.1]; exact ⟨h.2.1, h.2.2.symm⟩⟩
  ·rintro ⟨h | h, g⟩
   ·exact .inl ⟨h, g⟩
   ·subst h; exact .inr ⟨rfl, g.1, g.2.symm⟩
 ·have := a3 r; have := j.Su r; simp; omega
 ·have := a4 w; have := j.SA w; simp; omega
structure MS (C : List jb) (T : oh) (us : List (ja × List jb)) (ws : List (ByteArray × List jb)) (n : Int) : Prop where
 Eh : pT C T [] n
 cl : ∀ c ∈ C, FK c T []
 T5 : EG C us ws
 right : pw C
theorem MS.all {C : List jb} {T : oh} {j : List (ja × List jb)} {ws : List (ByteArray × List jb)} {n : Int} (h : MS C T j ws n) (f : jd) : f ∈ FS T ↔ mE C f := by
 refine ⟨h.Eh.xh f, fun i => ?_⟩
 induction i with
 | mem c a hk => exact (h.cl c a).1 hk
 | inc c w a hk _ ih => exact (h.cl c a).2.1 hk w ih (by simp)
 | FM c b w a hk _ _ d g => exact (h.cl c a).2.2.1 hk b w d (by simp) g (by simp)
 | both c w a hk _ _ d g => exact (h.cl c a).2.2.2 hk w d (by simp) g (by simp)
theorem JT (q : Int) (z : 0 ≤ q ∧ q ≤ 1000000000000) : ∀ (l : List jb) {C : List jb} {T : oh} {p : List jd} {A : List (ja × List jb)} {ws : List (ByteArray × List jb)} {n : Int}, pT C T p n → (∀ c ∈ C, FK c T p) → EG C A ws → pw C → C.length + l.length ≤ 1000000 →
  ∃ C' T' a d j, mQ q l (mm T) C A ws p n = some (j - q, mm T', C', a, d, [], j) ∧ MS C' T' a d j ∧ (∀ c, c ∈ C' ↔ c ∈ C ∨ (c ∈ l ∧ kc c = true)) ∧ C'.length ≤ C.length + l.length ∧ (∀ f ∈ FS T, f ∈ FS T')
 | [], C, T, p, A, ws, n, g, i, u, s, M => by
  rw [mQ]
  have W : qm C := by unfold qm; simp at M; omega
  have a6 := W.sq
  have hlen := g.len
  have a7 := g.SI
  obtain ⟨T', j, e, G, Z, o⟩ := It W s u (cs := C) jX g i (by rw [nG]; omega)
  unfold uB
  rw [e]
  simp only [aa]
  have O := G.len
  have Y := G.num
  rw [kp (by omega) (by omega)]
  exact ⟨C, T', A, ws, j, rfl, ⟨G, Z, u, s⟩, by simp, by simp, o⟩
 | x :: l, C, T, p, A, ws, n, g, i, u, s, M => by
  rw [mQ, oe]
  simp only [aA] at M
  obtain ⟨b, hb, v⟩ := Kq x C
  simp only [aa, hb, yU]
  by_cases k : kc x = true ∧ x ∉ C
  ·have J : b = false := by cases b with | false => rfl | true => exact absurd (v.1 rfl) k.2
   rw [k.1, J]
   simp only [bP, Bool.and_self, aD]
   obtain ⟨R, U, e1, U1⟩ := QZ u (by omega) k.1 (mm T) p n
   rw [e1]
   simp only [aa]
   have I : qm (C ++ [x]) := by unfold qm; simp; omega
   have t : pw (C ++ [x]) := fun c w => by
    rcases aI.1 w with h | h
    ·exact s c h
    ·simp at h; subst h; exact k.1
   have g1 : pT (C ++ [x]) T p n := g.mono (fun c w => aW _ w)
   obtain ⟨T2, Q, n2, e2, g2, x2, c2⟩ := Qg I t g1 (C ++ [x]) R U (c := x) (by simp)
   rw [e2]
   simp only [aa]
   have y : ∀ c ∈ C ++ [x], FK c T2 Q := fun c w => by
    rcases aI.1 w with h | h
    ·exact (i c h).ext x2
    ·simp at h; subst h; exact c2
   obtain ⟨C', T', a, d, j, e, m, F, a2, a3⟩ := JT q z l g2 y U1 t (by simp; omega)
   refine ⟨C', T', a, d, j, e, m, fun c => ?_, by simp at a2 ⊢; omega, fun f L => a3 f (x2.ll f L)⟩
   rw [F]
   simp only [aI, aB, bZ, er]
   constructor
   ·rintro ((h | h) | h)
    ·exact .inl h
    ·subst h; exact .inr ⟨.inl rfl, k.1⟩
    ·exact .inr ⟨.inr h.1, h.2⟩
   ·rintro (h | ⟨h | h, D⟩)
    ·exact .inl (.inl h)
    ·exact .inl (.inr h)
    ·exact .inr ⟨h, D⟩
  ·have L : (kc x && !b) = false := by
    cases hr : kc x with
    | false => rfl
    | true =>
     have : x ∈ C := dy fun P => k ⟨hr, P⟩
     rw [v.2 this]; rfl
   rw [L]
   simp only [ae, aq]
   obtain ⟨C', T', a, d, j, e, m, F, a2, a3⟩ := JT q z l g i u s (by omega)
   refine ⟨C', T', a, d, j, e, m, fun c => ?_, by simp; omega, a3⟩
   rw [F, aB]
   constructor
   ·rintro (h | h)
    ·exact .inl h
    ·exact .inr ⟨.inr h.1, h.2⟩
   ·rintro (h | ⟨h | h, D⟩)
    ·exact .inl h
    ·subst h
     exact .inl (dy fun P => k ⟨D, P⟩)
    ·exact .inr ⟨h, D⟩
theorem Rt {C : List jb} {T : oh} {i : List (ja × List jb)} {ws : List (ByteArray × List jb)} {n : Int} (h : MS C T i ws n) (l : List jb) (k : C.length + l.length ≤ 1000000) :
  ∃ C' T' a d g, tN (mm T) C i ws [] n l = some (g - n, mm T', C', a, d, [], g) ∧ MS C' T' a d g ∧ (∀ c, c ∈ C' ↔ c ∈ C ∨ (c ∈ l ∧ kc c = true)) ∧ C'.length ≤ C.length + l.length ∧ (∀ f ∈ FS T, f ∈ FS T') := by
 have j : qm C := by unfold qm; omega
 have h1 := h.Eh.len
 have m := j.sq
 have o := h.Eh.num
 exact JT n ⟨by omega, by omega⟩ l h.Eh h.cl h.T5 h.right k
theorem EG.zero : EG [] [] [] := ⟨fun r c => by simp [kx], fun w c => by simp [kx], fun r => by simp [kx], fun w => by simp [kx]⟩
theorem pT.zero : pT [] [] [] 0 := ⟨by simp, by simp [FS], by simp, by simp, by simp [FS], by simp [FS]⟩
theorem MS.zero : MS [] [] [] [] 0 := ⟨pT.zero, fun c a => (by cases a), EG.zero, fun c a => (by cases a)⟩
theorem Qq (l : List jb) (i : l.length ≤ 1000000) : ∃ C T g ws n, vt l = some (mm T, C, g, ws, [], n) ∧ MS C T g ws n ∧ (∀ c, c ∈ C ↔ c ∈ l ∧ kc c = true) ∧ C.length ≤ l.length := by
 unfold vt
 obtain ⟨C', T', a, d, j, e, m, h, a2, a3⟩ := Rt MS.zero l (by simpa using i)
 rw [show tN [] [] [] [] [] 0 l = _ from e]
 exact ⟨C', T', a, d, j, rfl, m, by simpa using h, by simpa using a2⟩
theorem mE.congr {C C' : List jb} (h : ∀ c, c ∈ C ↔ c ∈ C') (f : jd) : mE C f ↔ mE C' f := ⟨fun d => d.mono (fun c a => (h c).1 a), fun d => d.mono (fun c a => (h c).2 a)⟩
def zf (a b : jd) : Bool := Ax a.ja b.ja || (jt a.ja b.ja && oQ a.jL b.jL)
theorem AO {a b : jd} : zf a b = true ↔ Ax a.ja b.ja = true ∨ (a.ja = b.ja ∧ oQ a.jL b.jL = true) := by simp [zf, jB]
def DD (_ : jd) : Bool := true
theorem Hj : Am (fun a b => zf a b = true) (fun x => DD x = true) := by
 have H := I9 (fun _ => True)
 refine ⟨fun x _ => ?_, fun x y z _ _ _ h1 c => ?_, fun x y _ _ => ?_⟩
 ·rw [AO]
  rintro (h | ⟨_, h⟩)
  ·exact H.irrefl _ trivial h
  ·rw [sK] at h; cases h
 ·rw [AO] at *
  rcases h1 with h1 | ⟨g, h1⟩
  ·rcases c with c | ⟨d, c⟩
   ·exact .inl (H.trans _ _ _ trivial trivial trivial h1 c)
   ·exact .inl (by rw [← d]; exact h1)
  ·rcases c with c | ⟨d, c⟩
   ·exact .inl (by rw [g]; exact c)
   ·exact .inr ⟨g.trans d, z6 h1 c⟩
 ·simp only [AO]
  rcases H.total x.ja y.ja trivial trivial with h | h | h
  ·exact .inl (.inl h)
  ·rcases zN x.jL y.jL with c | c | c
   ·exact .inl (.inr ⟨h, c⟩)
   ·refine .inr (.inl ?_)
    cases x; cases y; simp at h c; simp [h, c]
   ·exact .inr (.inr (.inr ⟨h.symm, c⟩))
  ·exact .inr (.inr (.inl h))
theorem Hk (a b : ByteArray) : oA a b = 0 ↔ a = b := by unfold oA; rw [Gv]; exact ⟨yh, fun h => by rw [h]⟩
theorem SY (a b : ByteArray) : oA a b < 0 ↔ oQ a b = true := by rw [zj]; exact Fm _ _
theorem OT (a b : ja) : ∃ c, mq a b = some c ∧ (c < 0 ↔ Ax a b = true) ∧ (c = 0 ↔ a = b) := by
 obtain ⟨c, e, h⟩ := uO a b
 refine ⟨c, e, h, ?_⟩
 unfold mq at e
 simp only [pd, my, aa, tl, sb, sR] at e
 by_cases d : oA a.jn b.jn = 0
 ·rw [ai (by simp [d])] at e
  have h1 := (Hk _ _).1 d
  by_cases g : oA a.jK b.jK = 0
  ·rw [ai (by simp [g])] at e
   have i := (Hk _ _).1 g
   cases e
   refine ⟨fun _ => ?_, fun _ => rfl⟩
   cases a; cases b; simp at h1 i; simp [h1, i]
  ·rw [aj (by simp [g])] at e
   cases e
   exact ⟨fun k => absurd k g, fun k => by rw [k] at g; exact absurd ((Hk _ _).2 rfl) g⟩
 ·rw [aj (by simp [d])] at e
  cases e
  exact ⟨fun k => absurd k d, fun k => by rw [k] at d; exact absurd ((Hk _ _).2 rfl) d⟩
theorem Pq (a b : jd) : ∃ c, pC a b = some c ∧ (c < 0 ↔ zf a b = true) := by
 unfold pC
 obtain ⟨c, e, h1, i⟩ := OT a.ja b.ja
 rw [e]
 simp only [pd, my, aa, tl, sb, sR]
 by_cases g : c = 0
 ·rw [ai (by simp [g])]
  have m := i.1 g
  have d : ¬ Ax a.ja b.ja = true := fun j => by have := h1.2 j; omega
  by_cases h : oA a.jL b.jL = 0
  ·rw [ai (by simp [h])]
   refine ⟨0, rfl, ?_⟩
   rw [AO]
   simp [d, (Hk _ _).1 h, sK]
  ·rw [aj (by simp [h])]
   refine ⟨_, rfl, ?_⟩
   rw [AO, SY]
   exact ⟨fun k => .inr ⟨m, k⟩, fun k => k.elim (fun k => absurd k d) (·.2)⟩
 ·rw [aj (by simp [g])]
  refine ⟨c, rfl, ?_⟩
  rw [AO, h1]
  have : a.ja ≠ b.ja := fun k => g (i.2 k)
  simp [this]
theorem MH {α : Type} {eq : α → α → Bool} (he : ∀ x y, eq x y = true ↔ x = y) : ∀ (l : List α) (p : α), (p :: l).Nodup → pP eq p l = l
 | [], p, _ => rfl
 | y :: l, p, h => by
  have h1 := cu.1 h
  rw [pP, ai (fun e => h1.1 (by rw [← (he _ _).1 e]; simp)), MH he l y h1.2]
theorem TB {α : Type} {eq : α → α → Bool} (he : ∀ x y, eq x y = true ↔ x = y) : ∀ l : List α, l.Nodup → dd eq l = l
 | [], _ => rfl
 | x :: l, h => by rw [dd, MH he l x h]
def AY (P : jd → Prop) (s : List jd) : Prop := s.Pairwise (fun a b => zf a b = true) ∧ ∀ f, f ∈ s ↔ P f
theorem AY.unique {P : jd → Prop} {s t : List jd} (h : AY P s) (k : AY P t) : s = t :=
 tO.unique (l := s) Hj ⟨h.1, fun x => ⟨fun a => ⟨a, rfl⟩, fun a => a.1⟩⟩ ⟨k.1, fun x => by rw [k.2, h.2]; exact ⟨fun a => ⟨a, rfl⟩, fun a => a.1⟩⟩
theorem GS {l : List jd} (d : l.Nodup) (j : l.length ≤ 1000000000000) : ∃ s, w8 (fun (x : jd × jd) => pC x.1 x.2) l = some s ∧ AY (fun f => f ∈ l) s := by
 obtain ⟨s, h1, i, c⟩ := zJ (eq := lH) (lt := fun a b => zf a b = true) (P := fun x => DD x = true) (cf := fun (x : jd × jd) => pC x.1 x.2) (l := l) (fun x y => lp) Hj (fun _ _ => rfl) (by omega) (fun x y _ _ => Pq x y)
 have g : s.Nodup := by
  have := (AJ h1).2
  rw [this]
  unfold oY
  exact (gp l _).nodup_iff.2 d
 rw [TB (fun x y => lp) s g] at c
 exact ⟨s, h1, c.1, fun f => by rw [c.2]; exact ⟨fun h => h.1, fun h => ⟨h, rfl⟩⟩⟩
theorem Rs (T : oh) : (mm T).flatMap (fun p => p.2.map (fun q => (fun (a : ja) (b : ByteArray) => (⟨a, b⟩ : jd)) p.1 q.1)) = FS T := by
 unfold mm FS tt
 rw [List.flatMap_map]
 congr 1
 funext p
 simp [fp]
theorem P9 {C : List jb} (j : qm C) {T : oh} {p : List (ja × List jb)} {ws : List (ByteArray × List jb)} {n : Int} (h : MS C T p ws n) (cs : List jb) (u : List (ja × List jb)) (w : List (ByteArray × List jb)) (m : List jd) (z : Int) :
  ∃ s, wg (mm T) cs u w m z = some s ∧ AY (mE C) s := by
 have k := j.sq
 have hlen := h.Eh.len
 obtain ⟨s, q, i⟩ := GS h.Eh.nd (by omega)
 have g : AY (mE C) s := ⟨i.1, fun f => (i.2 f).trans (h.all f)⟩
 refine ⟨s, ?_, g⟩
 unfold wg OK
 rw [Rs]
 rw [aj ⟨by omega, by unfold maxLen; omega⟩]
 simp only [aa, sR]
 refine GG (fun o c => ?_)
 obtain ⟨t, d, a⟩ := GS ((c.nodup_iff).2 h.Eh.nd) (by rw [c.length_eq]; omega)
 rw [d]
 congr 1
 exact AY.unique ⟨a.1, fun f => (a.2 f).trans (c.mem_iff.trans (h.all f))⟩ g
theorem Qi (r : ja) (w : ByteArray) : ∀ l : List jd, ∃ b, xx r w l = some b ∧ (b = true ↔ (⟨r, w⟩ : jd) ∈ l)
 | [] => ⟨false, rfl, by simp⟩
 | x :: l => by
  rw [xx]
  simp only [yU, aa]
  obtain ⟨b, e, d⟩ := Qi r w l
  by_cases h : (jt x.ja r && ke x.jL w) = true
  ·rw [aj h]
   have a : x = ⟨r, w⟩ := by
    rw [az, jB, kK] at h
    cases x; simp at h; simp [h]
   exact ⟨true, rfl, by simp [a]⟩
  ·rw [ai h]
   refine ⟨b, e, ?_⟩
   rw [d, aB]
   refine ⟨.inr, fun c => c.resolve_left (fun e => h ?_)⟩
   rw [← e]; simp [tE, vj]
theorem wB (l : List jd) (r : ja) (w : ByteArray) : ∃ b, sN l r w = some b ∧ (b = true ↔ (⟨r, w⟩ : jd) ∈ l) := Qi r w l
def qQ (l : List jd) (c : jb) (names : List ByteArray) (w : ByteArray) : Prop :=
 (c.Kind = 1 ∧ c.jL = w) ∨ (c.Kind = 2 ∧ (⟨c.B, w⟩ : jd) ∈ l) ∨ (c.Kind = 4 ∧ (⟨c.B, w⟩ : jd) ∈ l ∧ (⟨c.C, w⟩ : jd) ∈ l) ∨
 (c.Kind ≠ 1 ∧ c.Kind ≠ 2 ∧ c.Kind ≠ 4 ∧ ∃ b ∈ names, (⟨c.B, b⟩ : jd) ∈ l ∧ (⟨⟨b, c.kk⟩, w⟩ : jd) ∈ l)
theorem GI (l : List jd) (c : jb) (w : ByteArray) : ∀ names : List ByteArray, ∃ b, wo l c w names = some b ∧ (b = true ↔ ∃ b ∈ names, (⟨c.B, b⟩ : jd) ∈ l ∧ (⟨⟨b, c.kk⟩, w⟩ : jd) ∈ l)
 | [] => ⟨false, rfl, by simp⟩
 | x :: names => by
  rw [wo]
  obtain ⟨g, j, h1⟩ := wB l c.B x
  obtain ⟨i, k, d⟩ := wB l ⟨x, c.kk⟩ w
  obtain ⟨b, e, m⟩ := GI l c w names
  rw [j, k, e]
  simp only [aa, yU]
  by_cases h : (g && i) = true
  ·rw [aj h]
   rw [az, h1, d] at h
   exact ⟨true, rfl, by simp [h]⟩
  ·rw [ai h]
   rw [az, h1, d] at h
   refine ⟨b, rfl, ?_⟩
   rw [m]
   constructor
   ·rintro ⟨y, a, q⟩; exact ⟨y, by simp [a], q⟩
   ·rintro ⟨y, a, q⟩
    rcases aB.1 a with rfl | a
    ·exact absurd q h
    ·exact ⟨y, a, q⟩
theorem LQ (l : List jd) (c : jb) (names : List ByteArray) (w : ByteArray) : ∃ b, yH l c names w = some b ∧ (b = true ↔ qQ l c names w) := by
 unfold yH qQ
 simp only [sR]
 by_cases h1 : c.Kind = 1
 ·rw [aj (by simp [h1])]; exact ⟨_, rfl, by simp [h1, kK]⟩
 rw [ai (by simp [h1])]
 by_cases a : c.Kind = 2
 ·rw [aj (by simp [a])]
  obtain ⟨b, e, g⟩ := wB l c.B w
  exact ⟨b, e, by simp [a, g]⟩
 rw [ai (by simp [a])]
 by_cases d : c.Kind = 4
 ·rw [aj (by simp [d])]
  obtain ⟨m, j, h⟩ := wB l c.B w
  obtain ⟨n, k, i⟩ := wB l c.C w
  rw [j, k]
  simp only [aa, yU]
  exact ⟨_, rfl, by simp [d, h, i]⟩
 rw [ai (by simp [d])]
 obtain ⟨b, e, g⟩ := GI l c w names
 exact ⟨b, e, by rw [g]; simp [h1, a, d]⟩
theorem qQ.xh {C : List jb} {l : List jd} (a : ∀ f ∈ l, mE C f) {c : jb} (d : c ∈ C) (hk : c.Kind = 1 ∨ c.Kind = 2 ∨ c.Kind = 3 ∨ c.Kind = 4) {names : List ByteArray} {w : ByteArray} (h : qQ l c names w) : mE C ⟨c.Head, w⟩ := by
 rcases h with ⟨k, rfl⟩ | ⟨k, h⟩ | ⟨k, h1, g⟩ | ⟨i, k2, j, b, _, h1, g⟩
 ·exact .mem c d k
 ·exact .inc c w d k (a _ h)
 ·exact .both c w d k (a _ h1) (a _ g)
 ·exact .FM c b w d (by omega) (a _ h1) (a _ g)
theorem Hn {c : jb} (h : kc c = true) : c.Kind = 1 ∨ c.Kind = 2 ∨ c.Kind = 3 ∨ c.Kind = 4 := by rcases lY h with h | h | h | h <;> simp [h.1]
structure Ey (C : List jb) (out : List jd) : Prop where
 nd : out.Nodup
 xh : ∀ f ∈ out, mE C f
theorem Ey.len {C : List jb} {out : List jd} (h : Ey C out) : out.length ≤ C.length * C.length := by
 rw [← yK]; exact lh h.nd (fun f a => (h.xh f a).BY)
theorem Gn {C : List jb} (s : qm C) (t : pw C) {c : jb} (m : c ∈ C) (names : List ByteArray) : ∀ (l : List ByteArray) (out : List jd) (i : Bool), Ey C out →
  ∃ g d, vT c names l out i = some (g, d) ∧ Ey C g ∧ (d = true → i = true ∨ out.length < g.length) ∧ (d = false → i = false ∧ g = out ∧ ∀ w ∈ l, qQ out c names w → (⟨c.Head, w⟩ : jd) ∈ out) ∧ out.length ≤ g.length
 | [], out, i, h => ⟨out, i, rfl, h, .inl, fun h => ⟨h, rfl, fun _ hw => by cases hw⟩, aM _⟩
 | w :: l, out, i, h => by
  rw [vT]
  obtain ⟨y, F, h1⟩ := wB out c.Head w
  obtain ⟨D, G, z⟩ := LQ out c names w
  rw [F, G]
  simp only [aa, yU]
  by_cases j : (!y && D) = true
  ·rw [aj j]
   rw [az] at j
   have u : (⟨c.Head, w⟩ : jd) ∉ out := fun L => by have := h1.2 L; rw [this] at j; exact absurd j.1 (by decide)
   have O := h.len
   have M := s.sq
   rw [lu (by simp; omega) (by simp; omega)]
   simp only [aa]
   have I : Ey C (out ++ [⟨c.Head, w⟩]) := ⟨aS.2 ⟨h.nd, by simp, fun a J b j e => by simp at j; subst j; subst e; exact u J⟩, fun f k => by
    rcases aI.1 k with k | k
    ·exact h.xh f k
    ·simp at k; subst k; exact (z.1 j.2).xh h.xh m (Hn (t c m))⟩
   obtain ⟨g, d, e, n, a2, a3, a4⟩ := Gn s t m names l _ true I
   simp at a4
   exact ⟨g, d, e, n, fun _ => .inr (by omega), fun k => (by cases (a3 k).1), by omega⟩
  ·rw [ai j]
   obtain ⟨g, d, e, n, a2, a3, a4⟩ := Gn s t m names l out i h
   refine ⟨g, d, e, n, a2, fun k => ?_, a4⟩
   obtain ⟨o, p, q⟩ := a3 k
   refine ⟨o, p, fun v x A => ?_⟩
   rcases aB.1 x with rfl | x
   ·refine dy fun u => j ?_
    rw [az, z.2 A]
    cases y with
    | false => exact ⟨rfl, rfl⟩
    | true => exact absurd (h1.1 rfl) u
   ·exact q v x A
theorem Jy {C : List jb} (n : qm C) (o : pw C) (names : List ByteArray) : ∀ (l : List jb) (out : List jd) (a : Bool), (∀ c ∈ l, c ∈ C) → Ey C out →
  ∃ g i, xJ names l out a = some (g, i) ∧ Ey C g ∧ (i = true → a = true ∨ out.length < g.length) ∧ (i = false → a = false ∧ g = out ∧ ∀ c ∈ l, ∀ w ∈ names, qQ out c names w → (⟨c.Head, w⟩ : jd) ∈ out) ∧ out.length ≤ g.length
 | [], out, a, _, h => ⟨out, a, rfl, h, .inl, fun h => ⟨h, rfl, fun _ hw => by cases hw⟩, aM _⟩
 | c :: l, out, a, p, h => by
  rw [xJ]
  obtain ⟨y, c1, v, q, a2, a3, a4⟩ := Gn n o (p c (by simp)) names names out a h
  rw [v]
  simp only [aa]
  obtain ⟨z, c2, x, s, t, u, L⟩ := Jy n o names l y c1 (fun d j => p d (by simp [j])) q
  refine ⟨z, c2, x, s, fun k => ?_, fun k => ?_, by omega⟩
  ·rcases t k with h1 | h1
   ·rcases a2 h1 with m | m
    ·exact .inl m
    ·exact .inr (by omega)
   ·exact .inr (by omega)
  ·obtain ⟨A, D, F⟩ := u k
   obtain ⟨G, I, J⟩ := a3 A
   subst I
   refine ⟨G, D, fun d j => ?_⟩
   rcases aB.1 j with rfl | j
   ·exact J
   ·exact F d j
def zF : jd := ⟨⟨zS, zS⟩, zS⟩
theorem Jw (a b : jd) : uU a b = some (zf a b) := by
 unfold uU zf
 simp only [BF, aa, yU, Kn]
def RH (a : List jd) (c : Int) (p : Bool × jd) : Prop := (p.1 = false ∧ c = -1) ∨ (p.1 = true ∧ 0 ≤ c ∧ kN a c = some p.2)
theorem BG (out a : List jd) (j : out.length < 4611686018427387904) : ∀ (rest A : List jd) (c : Int) (p : Bool × jd), a = A ++ rest → RH a c p →
  ∃ d, pe out a rest A.length c = some d ∧ RH a d (qO DD zf out.getLast? rest p.1 p.2)
 | [], A, c, p, g, k => ⟨c, rfl, k⟩
 | x :: rest, A, c, p, g, k => by
  rw [pe, qO]
  simp only [DD, cV]
  have h1 : ((if ((out.length : Int) == 0) = true then some true else (kN out (wi0 .i64 ((out.length : Int) - 1))).bind fun y => (uU y x).bind fun r => some r) : Option Bool) = some (out.getLast?.all fun y => zf y x) := by
   rcases df out with h | ⟨B, z, h⟩
   ·subst h; rfl
   ·subst h
    rw [ai (by simp; omega)]
    rw [List.concat_eq_append] at j ⊢
    rw [Gr B z (by simp at j; omega)]
    simp [Jw]
  have q : ((if decide (c < 0) = true then some true else (kN a c).bind fun y => (uU x y).bind fun r => some r) : Option Bool) = some (!p.1 || zf x p.2) := by
   rcases k with ⟨m, n⟩ | ⟨m, n, o⟩
   ·rw [aj (by simp [n]), m]; rfl
   ·rw [ai (by simpa using n), o, m]
    simp [Jw]
  rw [h1]
  simp only [aa]
  rw [q]
  simp only [aa, yU]
  have s : kN a (A.length : Int) = some x := by rw [g]; exact tX A x rest _ rfl
  by_cases i : ((out.getLast?.all fun y => zf y x) && (!p.1 || zf x p.2)) = true
  ·rw [aj i, aj i]
   have := BG out a j rest (A ++ [x]) (A.length : Int) (true, x) (by rw [g]; simp) (.inr ⟨rfl, by simp, s⟩)
   simpa using this
  ·rw [ai i, ai i]
   have := BG out a j rest (A ++ [x]) c p (by rw [g]; simp) k
   simpa using this
theorem FN {out a : List jd} (d : out.length < 4611686018427387904) (h : (qO DD zf out.getLast? a false zF).1 = false) : ∀ FU : List jd, pc a FU out = some out
 | [] => rfl
 | x :: FU => by
  rw [pc]
  obtain ⟨b, e, i⟩ := BG out a d a [] (-1) (false, zF) rfl (.inl ⟨rfl, rfl⟩)
  rw [show pe out a a 0 (-1) = some b from e]
  simp only [aa]
  rcases i with ⟨_, g⟩ | ⟨c, _⟩
  ·rw [ai (by simp [g])]; exact FN d h FU
  ·rw [h] at c; cases c
theorem H9 (a : List jd) : ∀ (FU : List jd) (out s : List jd), Ab 48 DD zf zF a (FU.length + 1) out = some s → s.length < 4611686018427387904 → pc a FU out = some s ∧ out.length ≤ s.length
 | [], out, s, h, i => by
  rw [Ab] at h
  cases hp : (qO DD zf out.getLast? a false zF).1 with
  | false =>
   rw [hp] at h
   simp only [bP, aD] at h
   cases h
   exact ⟨rfl, aM _⟩
  | true =>
   rw [hp] at h
   simp only [aU, ae, aq] at h
   obtain ⟨o, c, h⟩ := bind_some h
   replace h : Ab 48 DD zf zF a 0 o = some s := h
   rw [Ab] at h
   cases h
 | x :: FU, out, s, h, i => by
  rw [Ab] at h
  cases hp : (qO DD zf out.getLast? a false zF).1 with
  | false =>
   rw [hp] at h
   simp only [bP, aD] at h
   cases h
   exact ⟨FN i hp _, aM _⟩
  | true =>
   rw [hp] at h
   simp only [aU, ae, aq] at h
   obtain ⟨o, c, h⟩ := bind_some h
   have g := c
   unfold lj at c
   split at c
   case isFalse => cases c
   cases c
   obtain ⟨n, k2⟩ := H9 a FU _ s h i
   simp at k2
   rw [pc]
   obtain ⟨b, e, m⟩ := BG out a (by omega) a [] (-1) (false, zF) rfl (.inl ⟨rfl, rfl⟩)
   rw [show pe out a a 0 (-1) = some b from e]
   simp only [aa]
   rcases m with ⟨d, _⟩ | ⟨d, j, k⟩
   ·rw [hp] at d; cases d
   ·rw [aj (by simpa using j), k]
    simp only [aa]
    rw [g]
    exact ⟨n, by omega⟩
theorem OS (l : List jd) (d : l.length ≤ 1000000000) : ∃ s, CR l = some s ∧ AY (fun f => f ∈ l) s := by
 obtain ⟨s, h1, a⟩ := BQ Hj (w := 48) (by omega) zF l d (l.length + 1) [] (by simp) (by simp) (fun x c => by cases c) (fun x _ _ => .inr rfl)
 have hlen : s.length ≤ l.length := lh (vW Hj (fun _ _ => rfl) a.1) (fun x c => ((a.2 x).1 c).1)
 exact ⟨s, (H9 l l [] s h1 (by omega)).1, a.1, fun f => by rw [a.2]; exact ⟨fun h => h.1, fun h => ⟨h, rfl⟩⟩⟩
theorem KO : ∀ (l : List jb) (acc : List ByteArray), acc.length + 4 * l.length ≤ 1000000000 → tH l acc = Cc (acc ++ l.flatMap fun c => [c.jL, c.Head.jn, c.B.jn, c.C.jn])
 | [], acc, _ => by rw [tH]; simp [sR]
 | c :: l, acc, h => by
  rw [tH]
  simp only [aA] at h
  rw [lu (by simp; omega) (by simp; omega)]
  simp only [aa]
  rw [KO l _ (by simp; omega)]
  simp
def SM (C : List jb) : Prop := C.length ≤ 30000
theorem SM.small {C : List jb} (h : SM C) : qm C := by unfold SM at h; unfold qm; omega
theorem SM.sq {C : List jb} (h : SM C) : C.length * C.length ≤ 900000000 := eu h h
theorem Pf {C : List jb} (d : SM C) (i : pw C) : ∃ names, Ac C = some names ∧ ∀ c ∈ C, c.Kind = 1 → c.jL ∈ names := by
 have g : C.length ≤ 30000 := d
 unfold Ac
 rw [KO C [] (by simp; omega)]
 obtain ⟨s, e, j⟩ := QR ([] ++ C.flatMap fun c => [c.jL, c.Head.jn, c.B.jn, c.C.jn]) (by
  have : ∀ l : List jb, (l.flatMap fun c => [c.jL, c.Head.jn, c.B.jn, c.C.jn]).length = 4 * l.length := fun l => by
   induction l with
   | nil => rfl
   | cons x l ih => simp [ih]; omega
  rw [bt, this]; omega)
 refine ⟨s, e, fun c a hk => (j.2 _).2 ⟨?_, ?_⟩⟩
 ·rw [bt]; exact fV.2 ⟨c, a, by simp⟩
 ·rcases lY (i c a) with h | h | h | h
  ·exact h.2.1
  ·exact absurd (hk.symm.trans h.1) (by decide)
  ·exact absurd (hk.symm.trans h.1) (by decide)
  ·exact absurd (hk.symm.trans h.1) (by decide)
theorem GM {C : List jb} (o : pw C) {names : List ByteArray} (m : ∀ c ∈ C, c.Kind = 1 → c.jL ∈ names) {out : List jd} (h : ∀ c ∈ C, ∀ w ∈ names, qQ out c names w → (⟨c.Head, w⟩ : jd) ∈ out) {f : jd} (k : mE C f) : f ∈ out := by
 have hw : ∀ f, mE C f → f.jL ∈ names := fun f k => by
  obtain ⟨c, a, hk, e⟩ := k.sS
  rw [← e]; exact m c a hk
 induction k with
 | mem c a hk => exact h c a _ (m c a hk) (.inl ⟨hk, rfl⟩)
 | inc c w a hk n ih => exact h c a w (hw _ n) (.inr (.inl ⟨hk, ih⟩))
 | FM c b w a hk d j g i => exact h c a w (hw _ j) (.inr (.inr (.inr ⟨by omega, by omega, by omega, b, hw _ d, g, i⟩)))
 | both c w a hk d j g i => exact h c a w (hw _ d) (.inr (.inr (.inl ⟨hk, g, i⟩)))
theorem Ks {C : List jb} (a : SM C) (d : pw C) {names : List ByteArray} (i : ∀ c ∈ C, c.Kind = 1 → c.jL ∈ names) : ∀ (m : Nat) (out : List jd), Ey C out → C.length * C.length < m + out.length →
  ∃ s, xC names C m out = some s ∧ AY (mE C) s
 | 0, out, h, hm => by have := h.len; omega
 | m + 1, out, h, hm => by
  rw [xC]
  obtain ⟨o, c, e, j, a2, a3, a4⟩ := Jy a.small d names C out false (fun _ h => h) h
  rw [e]
  simp only [aa, sR]
  cases c with
  | false =>
   simp only [bP, aD]
   obtain ⟨_, k, n⟩ := a3 rfl
   subst k
   have t := h.len
   have q := a.sq
   obtain ⟨s, p, g⟩ := OS o (by omega)
   exact ⟨s, p, g.1, fun f => (g.2 f).trans ⟨h.xh f, GM d i n⟩⟩
  | true =>
   simp only [aU, ae, aq]
   rcases a2 rfl with h1 | h1
   ·cases h1
   ·exact Ks a d i m o j (by omega)
theorem Q8 (l : List jb) (p : l.length ≤ 30000) : ∃ C s, AB l = some s ∧ AY (mE C) s ∧ ∀ c, c ∈ C ↔ c ∈ l ∧ kc c = true := by
 unfold AB
 obtain ⟨C, e, d⟩ := Rc l (by omega)
 have hlen := qt De d
 have a : SM C := by unfold SM; omega
 have g : pw C := fun c k => ((d.2 c).1 k).2
 obtain ⟨names, h, n⟩ := Pf a g
 rw [e]
 simp only [aa]
 rw [h]
 simp only [aa]
 have o := a.sq
 obtain ⟨s, i, j⟩ := Ks a g n jX [] ⟨by simp, fun f m => by cases m⟩ (by rw [nG]; simp; omega)
 exact ⟨C, s, i, j, d.2⟩
theorem QO {P : jd → Prop} {s t : List jd} (h : AY P s) (c : ∀ f, P f → f ∈ t) : s.length ≤ t.length := lh (vW Hj (fun _ _ => rfl) h.1) (fun f a => c f ((h.2 f).1 a))
theorem Q2 {C : List jb} {s : List jd} (h : AY (mE C) s) (a : SM C) : s.length ≤ 900000000 := by
 have := QO h (t := BY C) (fun f c => c.BY)
 rw [yK] at this
 have := a.sq
 omega
theorem RU {C : List jb} {T : oh} {c : List (ja × List jb)} {ws : List (ByteArray × List jb)} {n : Int} (h : MS C T c ws n) (cs : List jb) (u : List (ja × List jb)) (w : List (ByteArray × List jb)) (a : List jd) (z : Int) (r : ja) (sS : ByteArray) :
  ∃ b, rl (mm T) cs u w a z r sS = some b ∧ (b = true ↔ mE C ⟨r, sS⟩) :=
 ⟨_, rfl, by rw [sJ h.Eh.keys, h.all]⟩
def qA : ja := ⟨⟨#[97]⟩, ⟨#[114]⟩⟩
def qB : ja := ⟨⟨#[98]⟩, ⟨#[115]⟩⟩
def qd : ByteArray := ⟨#[100]⟩
def j1 : jb := ⟨2, qA, zS, qB, ⟨zS, zS⟩, zS⟩
def j2 : jb := ⟨1, qB, qd, ⟨zS, zS⟩, ⟨zS, zS⟩, zS⟩
theorem C9 (f : ByteArray → Option Bool) (p : ByteArray → Bool) : ∀ (l : List ByteArray) (i : Nat), (∀ x ∈ l, f x = some (p x)) → ∃ z, nj f l i = some z ∧ (z ≥ 0 ↔ ∃ x ∈ l, p x = true)
 | [], i, _ => ⟨-1, rfl, by simp⟩
 | x :: l, i, h => by
  rw [nj, h x (by simp)]
  simp only [aa]
  cases hp : p x with
  | true => exact ⟨_, rfl, by simp [hp]⟩
  | false =>
   obtain ⟨z, e, c⟩ := C9 f p l (i + 1) (fun y a => h y (by simp [a]))
   exact ⟨z, e, by rw [c]; simp [hp]⟩
def Jn (c : jb) (p : ja × ByteArray → Bool) (names : List ByteArray) (w : ByteArray) : Bool :=
 if c.Kind = 1 then ke c.jL w else if c.Kind = 2 then p (c.B, w) else if c.Kind = 4 then p (c.B, w) && p (c.C, w) else names.any fun b => p (c.B, b) && p (⟨b, c.kk⟩, w)
theorem N0 {f : ja × ByteArray → Option Bool} {p : ja × ByteArray → Bool} (g : ∀ x, f x = some (p x)) (c : jb) (names : List ByteArray) (w : ByteArray) : wV c f names w = some (Jn c p names w) := by
 unfold wV Jn
 simp only [g, aa, yU]
 by_cases h1 : c.Kind = 1
 ·rw [aj (by simp [h1]), aj h1]
 rw [ai (by simp [h1]), ai h1]
 by_cases a : c.Kind = 2
 ·rw [aj (by simp [a]), aj a]
 rw [ai (by simp [a]), ai a]
 by_cases d : c.Kind = 4
 ·rw [aj (by simp [d]), aj d]
 rw [ai (by simp [d]), ai d]
 unfold re sL
 obtain ⟨z, e, h⟩ := C9 (fun x => sF x f c w) (fun b => p (c.B, b) && p (⟨b, c.kk⟩, w)) names 0 (fun x _ => by
  unfold sF
  simp only [g, aa, yU])
 rw [e]
 simp only [aa]
 congr 1
 rw [aK, dM]
 simpa using h
theorem DB {f : ja × ByteArray → Option Bool} {p : ja × ByteArray → Bool} (a : ∀ x, f x = some (p x)) (c : jb) (names : List ByteArray) : ∀ (l : List ByteArray) (acc : List jd), acc.length + l.length ≤ 1000000000 →
  pS c f names l acc = some (acc ++ (l.filter (Jn c p names)).map fun w => (⟨c.Head, w⟩ : jd))
 | [], acc, _ => by rw [pS]; simp
 | x :: l, acc, h => by
  rw [pS, N0 a]
  simp only [aa, aA] at h ⊢
  cases d : Jn c p names x with
  | true =>
   simp only [aD]
   rw [lu (by simp; omega) (by simp; omega)]
   simp only [aa]
   rw [DB a c names l _ (by simp; omega)]
   simp [d]
  | false =>
   simp only [ae, aq]
   rw [DB a c names l acc (by omega)]
   simp [d]
theorem P1 {f : ja × ByteArray → Option Bool} {p : ja × ByteArray → Bool} (a : ∀ x, f x = some (p x)) {c : jb} (g : kc c = true) (l : List ByteArray) (h : l.length ≤ 900000000) :
  ∃ names, A2 l names ∧ tY c f l = some (((if c.Kind = 1 then [c.jL] else names).filter (Jn c p names)).map fun w => (⟨c.Head, w⟩ : jd)) := by
 obtain ⟨s, e, d⟩ := Ru l (by omega)
 refine ⟨s, d, ?_⟩
 have hlen : s.length ≤ l.length := qt (Fv _) d
 unfold tY
 rw [oe, g]
 simp only [aa, aU, ae, aq]
 rw [e]
 simp only [aa]
 by_cases h1 : c.Kind = 1
 ·rw [aj (by simp [h1]), aj h1]
  simp only [aa]
  rw [DB a c s _ [] (by simp)]
  simp
 ·rw [ai (by simp [h1]), ai h1]
  simp only [aa]
  rw [DB a c s _ [] (by simp; omega)]
  simp
theorem LF {c : jb} {p : ja × ByteArray → Bool} {out : List jd} (hp : ∀ r w, p (r, w) = true ↔ (⟨r, w⟩ : jd) ∈ out) (s : List ByteArray) (w : ByteArray) : Jn c p s w = true ↔ qQ out c s w := by
 unfold Jn qQ
 by_cases h1 : c.Kind = 1
 ·rw [aj h1, kK]
  constructor
  ·intro h; exact .inl ⟨h1, h⟩
  ·rintro (h | h | h | h)
   ·exact h.2
   ·exact absurd (h1.symm.trans h.1) (by decide)
   ·exact absurd (h1.symm.trans h.1) (by decide)
   ·exact absurd h1 h.1
 rw [ai h1]
 by_cases a : c.Kind = 2
 ·rw [aj a, hp]
  constructor
  ·intro h; exact .inr (.inl ⟨a, h⟩)
  ·rintro (h | h | h | h)
   ·exact absurd h.1 h1
   ·exact h.2
   ·exact absurd (a.symm.trans h.1) (by decide)
   ·exact absurd a h.2.1
 rw [ai a]
 by_cases d : c.Kind = 4
 ·rw [aj d, az, hp, hp]
  constructor
  ·intro h; exact .inr (.inr (.inl ⟨d, h⟩))
  ·rintro (h | h | h | h)
   ·exact absurd h.1 h1
   ·exact absurd h.1 a
   ·exact h.2
   ·exact absurd d h.2.2.1
 rw [ai d, dM]
 constructor
 ·rintro ⟨b, g, h⟩
  rw [az, hp, hp] at h
  exact .inr (.inr (.inr ⟨h1, a, d, b, g, h⟩))
 ·rintro (h | h | h | h)
  ·exact absurd h.1 h1
  ·exact absurd h.1 a
  ·exact absurd h.1 d
  ·obtain ⟨_, _, _, b, g, h⟩ := h
   exact ⟨b, g, by rw [az, hp, hp]; exact h⟩
theorem PT {C : List jb} {c : jb} (g : c ∈ C) (n : kc c = true) {out : List jd} (d : ∀ f ∈ out, mE C f) {s : List ByteArray} {w : ByteArray} (h : qQ out c s w) : mE C ⟨c.Head, w⟩ := by
 rcases h with ⟨h1, a⟩ | ⟨h1, a⟩ | ⟨h1, a, i⟩ | ⟨h1, a, i, b, _, k, m⟩
 ·subst a; exact .mem c g h1
 ·exact .inc c w g h1 (d _ a)
 ·exact .both c w g h1 (d _ a) (d _ i)
 ·have j : c.Kind = 3 := by
   rcases lY n with h | h | h | h
   ·exact absurd h.1 h1
   ·exact absurd h.1 a
   ·exact h.1
   ·exact absurd h.1 i
  exact .FM c b w g j (d _ k) (d _ m)
theorem NZ {f : ja × ByteArray → Option Bool} {p : ja × ByteArray → Bool} (j : ∀ x, f x = some (p x)) {out : List jd} (hp : ∀ r w, p (r, w) = true ↔ (⟨r, w⟩ : jd) ∈ out) (c : jb) {l s : List ByteArray} (m : l.length ≤ 900000000) (n : A2 l s) :
  ∃ h, tY c f l = some h ∧ (∀ g ∈ h, kc c = true ∧ g.ja = c.Head ∧ qQ out c s g.jL) ∧ (kc c = true → ∀ w ∈ s, qQ out c s w → (⟨c.Head, w⟩ : jd) ∈ h) := by
 by_cases a : kc c = true
 ·obtain ⟨o, i, e⟩ := P1 j a l m
  obtain rfl : o = s := tO.unique (Fv _) i n
  refine ⟨_, e, fun g k => ?_, fun _ w hw d => ?_⟩
  ·obtain ⟨w, hw, rfl⟩ := aR.1 k
   exact ⟨a, rfl, (LF hp _ _).1 (db.1 hw).2⟩
  ·refine aR.2 ⟨w, db.2 ⟨?_, (LF hp _ _).2 d⟩, rfl⟩
   split
   ·rename_i h1
    rcases d with h | h | h | h
    ·rw [h.2]; simp
    ·exact absurd (h1.symm.trans h.1) (by decide)
    ·exact absurd (h1.symm.trans h.1) (by decide)
    ·exact absurd h1 h.1
   ·exact hw
 ·refine ⟨[], ?_, by simp, fun h => absurd h a⟩
  unfold tY
  rw [oe]
  simp only [cd] at a
  rw [a]
  rfl
theorem Nd {c : jb} (a : kc c = true) (hk : c.Kind = 1) : kR c.jL = true := by
 rcases lY a with h | h | h | h
 ·exact h.2.1
 ·exact absurd (hk.symm.trans h.1) (by decide)
 ·exact absurd (hk.symm.trans h.1) (by decide)
 ·exact absurd (hk.symm.trans h.1) (by decide)
def JY {α : Type} (eq : α → α → Bool) (a : α) : List α → Nat → Option Int
 | [], _ => some (-1)
 | x :: xs, i => if eq a x then some (i : Int) else JY eq a xs (i + 1)
theorem Gq {α : Type} {eq : α → α → Bool} (he : ∀ {x y}, eq x y = true ↔ x = y) (a : α) : ∀ (l : List α) (i : Nat), ∃ z, JY eq a l i = some z ∧ (z ≥ 0 ↔ a ∈ l)
 | [], i => ⟨-1, rfl, by simp⟩
 | x :: l, i => by
  rw [JY]
  by_cases h : eq a x = true
  ·rw [aj h]; exact ⟨i, rfl, by simp [he.1 h]⟩
  ·rw [ai h]
   obtain ⟨z, h1, d⟩ := Gq he a l (i + 1)
   have c : a ≠ x := fun e => h (he.2 e)
   exact ⟨z, h1, by rw [d]; simp [c]⟩
theorem OC (a : jd) : ∀ (l : List jd) (i : Nat), pF a l i = JY lH a l i
 | [], i => rfl
 | x :: l, i => by rw [pF, JY, OC a l]
theorem Md (a : jd) : ∀ (l : List jd) (i : Nat), nR a l i = JY lH a l i
 | [], i => rfl
 | x :: l, i => by rw [nR, JY, Md a l]
open Classical in
theorem QK (l : List jd) (f : jd) : pu l f = some (decide (f ∈ l)) := by
 obtain ⟨z, h1, h2⟩ := Gq (eq := lH) lp f l 0
 unfold pu we
 rw [OC, h1]
 simp only [aa]
 congr 1
 rw [aK]; simp [h2]
open Classical in
theorem SF (l : List jd) (f : jd) : pJ l f = some (decide (f ∈ l)) := by
 obtain ⟨z, h1, h2⟩ := Gq (eq := lH) lp f l 0
 unfold pJ tU
 rw [Md, h1]
 simp only [aa]
 congr 1
 rw [aK]; simp [h2]
theorem LR (f : jd → Option Bool) : ∀ (l : List jd) (i : Nat), mK f l i = vZ f l i
 | [], i => rfl
 | x :: l, i => by rw [mK, vZ, LR f l]
theorem Sd (f : jd → Option Bool) (p : jd → Bool) (l : List jd) (h : ∀ x ∈ l, f x = some (p x)) : nZ l f = some (l.any p) := by
 unfold nZ rK
 rw [LR]
 rcases Bf f p l 0 h with ⟨h1, a⟩ | ⟨A, x, B, rfl, h1, a, c⟩
 ·rw [h1]; simp only [aa]; congr 1; rw [aK]; simp; exact a
 ·rw [c]; simp only [aa]; congr 1; rw [aK]
  simp [a]
theorem G8 (l : List jd) (r : ja) (w : ByteArray) : ∃ b, rj l r w = some b ∧ (b = true ↔ (⟨r, w⟩ : jd) ∈ l) := by
 classical
 refine ⟨_, by unfold rj; rw [SF]; rfl, by simp⟩
def Bd (s : jv) (a : List jd) : Prop := kc s.jb = true ∧ s.jd.ja = s.jb.Head ∧ qQ a s.jb (a.map (·.jL)) s.jd.jL
theorem Bd.mono {s : jv} {a b : List jd} (h : Bd s a) (c : ∀ f ∈ a, f ∈ b) : Bd s b := by
 obtain ⟨h1, i, j⟩ := h
 refine ⟨h1, i, ?_⟩
 rcases j with h | h | h | ⟨k, m, n, g, p, d, o⟩
 ·exact .inl h
 ·exact .inr (.inl ⟨h.1, c _ h.2⟩)
 ·exact .inr (.inr (.inl ⟨h.1, c _ h.2.1, c _ h.2.2⟩))
 ·exact .inr (.inr (.inr ⟨k, m, n, g, aR.2 ⟨_, c _ d, rfl⟩, c _ d, c _ o⟩))
theorem Bd.congr {s : jv} {a b : List jd} (d : ∀ f, f ∈ a ↔ f ∈ b) : Bd s a ↔ Bd s b := ⟨fun h => h.mono fun f c => (d f).1 c, fun h => h.mono fun f c => (d f).2 c⟩
open Classical in
noncomputable def Bc (s : jv) (had : List jd) : Bool := decide (Bd s had)
theorem w9 {s : jv} {a : List jd} : Bc s a = true ↔ Bd s a := by unfold Bc; simp
theorem G0 {a b : ja} (h : a ≠ b) : jt a b = false := by
 cases c : jt a b with
 | false => rfl
 | true => exact absurd (jB.1 c) h
theorem Dn (s : jv) (a : List jd) : sh s a = some (Bc s a) := by
 have key : ∀ b, (b = true ↔ Bd s a) → b = Bc s a := fun b h => by rw [aK, h, w9]
 unfold sh
 rw [oe]
 simp only [aa]
 by_cases d : kc s.jb = true
 ·rw [d]
  simp only [aU, ae, aq, aa]
  by_cases i : s.jd.ja = s.jb.Head
  ·rw [i, tE]
   simp only [aU, ae, aq]
   have hk := Hn d
   by_cases h1 : s.jb.Kind = 1
   ·rw [aj (by simpa using h1)]
    congr 1
    refine key _ ?_
    rw [kK]
    constructor
    ·intro h; exact ⟨d, i, .inl ⟨h1, h⟩⟩
    ·rintro ⟨_, _, h | h | h | h⟩
     ·exact h.2
     ·exact absurd (h1.symm.trans h.1) (by decide)
     ·exact absurd (h1.symm.trans h.1) (by decide)
     ·exact absurd h1 h.1
   rw [ai (by simpa using h1)]
   by_cases g : s.jb.Kind = 2
   ·rw [aj (by simpa using g), sR]
    obtain ⟨b, e, k⟩ := G8 a s.jb.B s.jd.jL
    rw [e]; congr 1
    refine key _ ?_
    rw [k]
    constructor
    ·intro h; exact ⟨d, i, .inr (.inl ⟨g, h⟩)⟩
    ·rintro ⟨_, _, h | h | h | h⟩
     ·exact absurd h.1 h1
     ·exact h.2
     ·exact absurd (g.symm.trans h.1) (by decide)
     ·exact absurd g h.2.1
   rw [ai (by simpa using g)]
   by_cases j : s.jb.Kind = 3
   ·rw [aj (by simpa using j), sR]
    unfold wL
    rw [Sd _ (fun f => jt f.ja s.jb.B && Bc ⟨⟨2, ⟨zS, zS⟩, zS, ⟨zS, zS⟩, ⟨zS, zS⟩, zS⟩, ⟨⟨zS, zS⟩, zS⟩⟩ [] || (jt f.ja s.jb.B && nq lH a ⟨⟨f.jL, s.jb.kk⟩, s.jd.jL⟩)) a (fun f o => by
     unfold sf
     obtain ⟨b, e, k⟩ := G8 a ⟨f.jL, s.jb.kk⟩ s.jd.jL
     rw [e]
     simp only [aa, yU]
     congr 1
     have u : Bc ⟨⟨2, ⟨zS, zS⟩, zS, ⟨zS, zS⟩, ⟨zS, zS⟩, zS⟩, ⟨⟨zS, zS⟩, zS⟩⟩ [] = false := by
      cases t : Bc ⟨⟨2, ⟨zS, zS⟩, zS, ⟨zS, zS⟩, ⟨zS, zS⟩, zS⟩, ⟨⟨zS, zS⟩, zS⟩⟩ [] with
      | false => rfl
      | true => exact absurd (w9.1 t).1 (by decide +kernel)
     rw [u, Bool.and_false, iE]
     congr 1
     rw [aK, k, nu lp])]
    simp only [aa]
    congr 1
    refine key _ ?_
    rw [dM]
    have u : Bc ⟨⟨2, ⟨zS, zS⟩, zS, ⟨zS, zS⟩, ⟨zS, zS⟩, zS⟩, ⟨⟨zS, zS⟩, zS⟩⟩ [] = false := by
     cases t : Bc ⟨⟨2, ⟨zS, zS⟩, zS, ⟨zS, zS⟩, ⟨zS, zS⟩, zS⟩, ⟨⟨zS, zS⟩, zS⟩⟩ [] with
     | false => rfl
     | true => exact absurd (w9.1 t).1 (by decide +kernel)
    simp only [u, Bool.and_false, iE, az, jB, nu lp]
    constructor
    ·rintro ⟨f, o, q, p⟩
     refine ⟨d, i, .inr (.inr (.inr ⟨h1, g, fun h => absurd (j.symm.trans h) (by decide), f.jL, aR.2 ⟨f, o, rfl⟩, ?_, p⟩))⟩
     rw [← q]; exact o
    ·rintro ⟨_, _, h | h | h | h⟩
     ·exact absurd h.1 h1
     ·exact absurd h.1 g
     ·exact absurd (j.symm.trans h.1) (by decide)
     ·obtain ⟨_, _, _, b, _, m, n⟩ := h
      exact ⟨_, m, rfl, n⟩
   rw [ai (by simpa using j)]
   have v : s.jb.Kind = 4 := by 
    rcases hk with h | h | h | h
    ·exact absurd h h1
    ·exact absurd h g
    ·exact absurd h j
    ·exact h
   obtain ⟨b, e, k⟩ := G8 a s.jb.B s.jd.jL
   obtain ⟨c, w, x⟩ := G8 a s.jb.C s.jd.jL
   rw [e, w]
   simp only [aa, yU]
   congr 1
   refine key _ ?_
   rw [az, k, x]
   constructor
   ·intro h; exact ⟨d, i, .inr (.inr (.inl ⟨v, h⟩))⟩
   ·rintro ⟨_, _, h | h | h | h⟩
    ·exact absurd h.1 h1
    ·exact absurd h.1 g
    ·exact h.2
    ·exact absurd v h.2.2.1
  ·rw [G0 i]
   simp only [bP, aD]
   congr 1
   exact key _ ⟨fun h => (by cases h), fun h => absurd h.2.1 i⟩
 ·simp only [cd] at d
  rw [d]
  simp only [bP, aD, aa]
  congr 1
  exact key _ ⟨fun h => (by cases h), fun h => by rw [h.1] at d; cases d⟩
theorem G1 : ∀ (l : List jd) (acc : List ByteArray), acc.length + l.length ≤ 1000000000 → tq l acc = some (acc ++ l.map (·.jL))
 | [], acc, _ => by rw [tq]; simp
 | f :: l, acc, h => by
  simp only [aA] at h
  rw [tq, lu (by simp; omega) (by simp; omega)]
  simp only [aa]
  rw [G1 l _ (by simp; omega)]
  simp
theorem IW (s : jv) (a : List jd) (i : a.length ≤ 1000000000) : yG s a = some (Bc s a) := by
 have key : ∀ b, (b = true ↔ Bd s a) → b = Bc s a := fun b h => by rw [aK, h, w9]
 unfold yG
 rw [rk]
 simp only [aa, yU]
 by_cases c : kc s.jb = true
 ·rw [c, cV]
  by_cases d : s.jd.ja = s.jb.Head
  ·rw [d, tE]
   simp only [aD, sR]
   unfold DZ
   rw [G1 a [] (by simpa using i)]
   simp only [aa, bt]
   obtain ⟨b, e, g⟩ := LQ a s.jb (a.map (·.jL)) s.jd.jL
   rw [e]; congr 1
   refine key _ ?_
   rw [g]
   exact ⟨fun h => ⟨c, d, h⟩, fun h => h.2.2⟩
  ·rw [G0 d]
   simp only [ae, aq, aa]
   congr 1
   exact key _ ⟨fun h => (by cases h), fun h => absurd h.2.1 d⟩
 ·simp only [cd] at c
  rw [c]
  simp only [Bool.false_and, ae, aq, aa]
  congr 1
  exact key _ ⟨fun h => (by cases h), fun h => by rw [h.1] at c; cases c⟩
def mc : List jd → List jv → Prop
 | _, [] => True
 | a, s :: l => Bd s a ∧ mc (a ++ [s.jd]) l
theorem mc.mono : ∀ {l : List jv} {a b : List jd}, mc a l → (∀ f ∈ a, f ∈ b) → mc b l
 | [], _, _, _, _ => trivial
 | s :: l, a, b, ⟨h1, g⟩, d => ⟨h1.mono d, mc.mono g (fun f c => by
   rcases aI.1 c with c | c
   ·exact aW _ (d f c)
   ·exact bU _ c)⟩
theorem AE : ∀ (l m : List jv) (a : List jd), mc a (l ++ m) ↔ mc a l ∧ mc (a ++ l.map (·.jd)) m
 | [], m, a => by simp [mc]
 | s :: l, m, a => by
  simp only [bF, mc, AE l m, aQ, aC, bt, and_assoc, de]
open Classical in
noncomputable def Ia (l : List jv) : Bool := decide (mc [] l)
theorem AP {l : List jv} : Ia l = true ↔ mc [] l := by unfold Ia; simp
open Classical in
theorem GV : ∀ (l : List jv) (had : List jd), had.length + l.length ≤ 1000000000 → qI l had = some (decide (mc had l))
 | [], had, _ => by rw [qI]; congr 1; rw [iP, decide_eq_true_iff]; trivial
 | s :: l, had, h => by
  simp only [aA] at h
  rw [qI, Dn]
  simp only [aa]
  cases hf : Bc s had with
  | false =>
   simp only [bP, aD]
   congr 1
   rw [iP, decide_eq_false_iff_not]
   intro hs
   rw [w9.2 hs.1] at hf; cases hf
  | true =>
   simp only [aU, ae, aq]
   rw [lu (by simp; omega) (by simp; omega)]
   simp only [aa]
   rw [GV l _ (by simp; omega)]
   congr 1
   rw [aK]
   simp [mc, w9.1 hf]
theorem NC (l : List jv) (h : l.length ≤ 1000000000) : wZ l = some (Ia l) := by
 unfold wZ; rw [GV l [] (by simpa using h)]; rfl
theorem J0 : ∀ (l : List jv) (acc : List jd), acc.length + l.length ≤ 1000000000 → rp l acc = some (acc ++ l.map (·.jd))
 | [], acc, _ => by rw [rp]; simp
 | f :: l, acc, h => by
  simp only [aA] at h
  rw [rp, lu (by simp; omega) (by simp; omega)]
  simp only [aa]
  rw [J0 l _ (by simp; omega)]
  simp
theorem EE (l : List jv) (h : l.length ≤ 1000000000) : ud l = some (l.map (·.jd)) := by
 unfold ud; rw [J0 l [] (by simpa using h)]; rfl
theorem H6 : ∀ (l : List jv) (acc : List jd), acc.length + l.length ≤ 1000000000 → tJ l acc = some (acc ++ l.map (·.jd))
 | [], acc, _ => by rw [tJ]; simp
 | f :: l, acc, h => by
  simp only [aA] at h
  rw [tJ, lu (by simp; omega) (by simp; omega)]
  simp only [aa]
  rw [H6 l _ (by simp; omega)]
  simp
theorem EN (l : List jv) (h : l.length ≤ 1000000000) : vS l = some (l.map (·.jd)) := by
 unfold vS; rw [H6 l [] (by simpa using h)]; rfl
theorem Dl {α : Type} (A B : List α) : (A ++ B).take (Int.toNat (A.length : Int)) = A := by simp
open Classical in
theorem GC : ∀ (B A : List jv), qL ((A ++ B).map (·.jd)) B A.length = some (decide (mc (A.map (·.jd)) B))
 | [], A => by rw [qL]; congr 1; rw [iP, decide_eq_true_iff]; trivial
 | s :: B, A => by
  rw [qL, uT (by omega) (by simp; omega)]
  simp only [aa]
  rw [← List.map_take, Dl, Dn]
  simp only [aa]
  cases hf : Bc s (A.map (·.jd)) with
  | false =>
   simp only [bP, aD]
   congr 1
   rw [iP, decide_eq_false_iff_not]
   intro hs
   rw [w9.2 hs.1] at hf; cases hf
  | true =>
   simp only [aU, ae, aq]
   have := GC B (A ++ [s])
   simp only [aC, bF, bt, ah, aA, bG, bW] at this
   rw [this]
   congr 1
   rw [aK]
   simp [mc, w9.1 hf]
theorem Hg (l : List jv) (h : l.length ≤ 1000000000) : uX l = some (Ia l) := by
 unfold uX; rw [EE l h]
 exact GC l []
theorem Mp {l : List jv} (a : l.length ≤ 1000000000) : pq l = some l := by
 unfold pq
 rw [lu (by simp; omega) (by simp; omega)]
 rfl
theorem PU {p : Prop} [Decidable p] (h : p) : me (decide p) = some () := by simp [me, h]
theorem JM (A : List jv) (x : jv) (B : List jv) (i : (A ++ x :: B).length ≤ 1000000000) : qk (A ++ x :: B) (A.length : Int) ((A.length : Int) + 1) = some (A ++ B) := by
 have hlen : (A ++ x :: B).length = A.length + (B.length + 1) := by simp
 have a : (A ++ x :: B).take (Int.toNat (A.length : Int)) = A := by simp
 have c : (A ++ x :: B).drop (Int.toNat ((A.length : Int) + 1)) = B := by
  rw [show Int.toNat ((A.length : Int) + 1) = A.length + 1 by omega, List.drop_append]
  simp
 have d : (Ao (A ++ x :: B) (Int.toNat (A.length : Int)) (Int.toNat ((A.length : Int) + 1))) = A ++ B ++ (A ++ x :: B).drop ((A ++ x :: B).length - (Int.toNat ((A.length : Int) + 1) - Int.toNat (A.length : Int))) := by
  unfold Ao; rw [a, c]
 have g : (A ++ B ++ (A ++ x :: B).drop ((A ++ x :: B).length - (Int.toNat ((A.length : Int) + 1) - Int.toNat (A.length : Int)))).length = (A ++ x :: B).length := by
  rw [ah, bY, hlen, ah]; omega
 unfold qk
 rw [PU (by omega)]
 simp only [aa]
 rw [ai (by simp; omega), uT (by omega) (by omega), uT (by omega) (by omega), PU (by omega)]
 simp only [aa]
 rw [a, c, d, g, PU (by simp; omega)]
 simp only [aa]
 congr 1
 unfold mM
 have h : (Int.toNat ((A ++ B).length : Int)) = (A ++ B).length := by omega
 rw [h, fw, fw]
def AI (l : List jv) (i : Nat) : Prop := ∃ j, i ≤ j ∧ j + 1 < l.length ∧ mc [] (l.eraseIdx j)
theorem Ky {α : Type} (l : List α) (i : Nat) (h : i < l.length) : ∃ A x B, l = A ++ x :: B ∧ A.length = i := ⟨l.take i, l[i], l.drop (i + 1), by simp, by simp; omega⟩
theorem Im {α : Type} (A : List α) (x : α) (B : List α) : (A ++ x :: B).eraseIdx A.length = A ++ B := by
 rw [List.eraseIdx_append_of_length_le (aM _)]; simp
theorem AI.step {l : List jv} {i : Nat} (h : i + 1 < l.length) : AI l i ↔ mc [] (l.eraseIdx i) ∨ AI l (i + 1) := by
 constructor
 ·rintro ⟨j, h1, c, a⟩
  rcases Nat.eq_or_lt_of_le h1 with rfl | h1
  ·exact .inl a
  ·exact .inr ⟨j, h1, c, a⟩
 ·rintro (h1 | ⟨j, h1, c, a⟩)
  ·exact ⟨i, aM _, h, h1⟩
  ·exact ⟨j, by omega, c, a⟩
open Classical in
theorem Iz (l : List jv) (hl : l.length ≤ 100000000) : ∀ (n i : Nat), l.length < n + i → i ≤ l.length → rn l n (i : Int) = some (if AI l i then .inl false else .inr ())
 | 0, i, h, hil => by
  omega
 | n + 1, i, h, hil => by
  rw [rn, kp (by omega) (by omega)]
  have hm : (if 0 > (l.length : Int) - 1 then 0 else (l.length : Int) - 1) = ((l.length - 1 : Nat) : Int) := by split <;> omega
  rw [hm]
  by_cases hi : i + 1 < l.length
  ·rw [aj (by simp; omega), Mp (by omega)]
   simp only [aa]
   obtain ⟨A, x, B, rfl, rfl⟩ := Ky l i (by omega)
   rw [kp (by omega) (by omega), JM A x B (by omega)]
   simp only [aa]
   rw [Hg _ (by simp at hl ⊢; omega)]
   simp only [aa]
   rw [AI.step hi, Im]
   cases hs : Ia (A ++ B) with
   | true => simp [AP.1 hs]
   | false =>
    have hn : ¬ mc [] (A ++ B) := fun h => by rw [AP.2 h] at hs; cases hs
    have := Iz _ hl n (A.length + 1) (by omega) (by omega)
    simp only [Int.natCast_add, Int.natCast_one] at this
    simp only [ae, aq, hn, false_or]
    exact this
  ·rw [ai (by simp; omega)]
   have hn : ¬ AI l i := fun ⟨j, h1, h2, _⟩ => by omega
   rw [ai hn]
def CB (l : List jv) : Prop := (l.map (·.jd)).Nodup ∧ mc [] l ∧ ¬ AI l 0
open Classical in
noncomputable def LH (l : List jv) : Bool := decide (CB l)
theorem AN {l : List jv} : LH l = true ↔ CB l := by unfold LH; simp
theorem N7 (l : List jv) (g : (l.map (·.jd)).Nodup) {q : Option (Bool ⊕ Unit)} (i : q = (open Classical in some (if AI l 0 then .inl false else .inr ()))) :
  (if (!Ia l) = true then some false else q.bind fun s => match s with | .inl a => some a | .inr _ => some true) = some (LH l) := by
 subst i
 cases d : Ia l with
 | false =>
  simp only [bP, aD]
  congr 1
  rw [aK, AN]
  exact ⟨fun h => (by cases h), fun h => by rw [AP.2 h.2.1] at d; cases d⟩
 | true =>
  simp only [aU, ae, aq, aa]
  by_cases c : AI l 0
  ·rw [aj c]
   simp only
   congr 1
   rw [aK, AN]
   exact ⟨fun h => (by cases h), fun h => absurd c h.2.2⟩
  ·rw [ai c]
   simp only
   congr 1
   rw [aK, AN]
   exact ⟨fun _ => ⟨g, AP.1 d, c⟩, fun _ => rfl⟩
theorem Iw (l : List jv) (k : l.length ≤ 100000000) : ∀ (B A : List jd), A ++ B = l.map (·.jd) → A.Nodup → ru (A ++ B) l B A.length = some (LH l)
 | [], A, e, g => by
  rw [ru, Hg l (by omega)]
  simp only [aa]
  rw [bp] at e
  exact N7 l (by rw [← e]; exact g) (Iz l k jX 0 (by rw [nG]; omega) (by omega))
 | f :: B, A, e, g => by
  rw [ru, uT (by omega) (by simp; omega)]
  simp only [aa]
  rw [Dl, QK]
  simp only [aa]
  by_cases c : f ∈ A
  ·rw [aj (by simpa using c)]
   congr 1
   rw [aK, AN]
   refine ⟨fun h => (by cases h), fun h => ?_⟩
   have := h.1
   rw [← e] at this
   exact absurd rfl ((aS.1 this).2.2 f c f (by simp))
  ·rw [ai (by simpa using c)]
   have := Iw l k B (A ++ [f]) (by simpa using e) (aS.2 ⟨g, by simp, fun a i b j d => by rw [aF] at j; rw [d, j] at i; exact c i⟩)
   simpa only [aC, bF, bt, ah, aA, bG, bW] using this
theorem Iv (l : List jv) (a : l.length ≤ 100000000) : xw l = some (LH l) := by
 unfold xw
 rw [EE l (by omega)]
 exact Iw l a _ [] rfl (by simp)
theorem QS : ∀ (P S : List jv) (n : Nat), P.length < n → (P ++ S).length ≤ 100000000 → mc [] (P ++ S) →
  ∃ R, nI n (P ++ S) ((P.length : Int) - 1) = some (R ++ S) ∧ R.Sublist P ∧ mc [] (R ++ S) ∧ ∀ R1 x R2, R = R1 ++ x :: R2 → ¬ mc [] (R1 ++ (R2 ++ S)) := by
 intro P
 induction hk : P.length generalizing P with
 | zero =>
  intro S n A q d
  obtain rfl := cA.1 hk
  obtain ⟨m, rfl⟩ : ∃ m, n = m + 1 := ⟨n - 1, by omega⟩
  refine ⟨[], ?_, .slnil, d, fun R1 x R2 h => by simp at h⟩
  rw [nI, ai (by simp)]
 | succ k ih =>
  intro S n A q d
  obtain ⟨m, rfl⟩ : ∃ m, n = m + 1 := ⟨n - 1, by omega⟩
  obtain ⟨P0, x, rfl⟩ : ∃ P0 x, P = P0 ++ [x] := by
   rcases df P with rfl | ⟨L, y, rfl⟩
   ·simp at hk
   ·exact ⟨L, y, by simp⟩
  have o : P0.length = k := by simpa using hk
  subst o
  have w : P0.length + (S.length + 1) ≤ 100000000 := by simp at q; omega
  simp only [aC, bF, bt] at d q ⊢
  rw [nI, aj (by simp), Mp (by omega)]
  simp only [aa]
  rw [show ((P0.length + 1 : Nat) : Int) - 1 = (P0.length : Int) by omega, kp (by omega) (by omega), JM P0 x S (by omega)]
  simp only [aa]
  rw [NC _ (by simp; omega), kp (by omega) (by omega)]
  simp only [aa]
  cases c : Ia (P0 ++ S) with
  | true =>
   simp only [aD, aa]
   obtain ⟨R, e, h1, i, j⟩ := ih P0 rfl S m (by omega) (by simp; omega) (AP.1 c)
   exact ⟨R, e, h1.trans (List.sublist_append_left _ _), i, j⟩
  | false =>
   simp only [ae, aq, aa]
   obtain ⟨R, e, h1, i, j⟩ := ih P0 rfl (x :: S) m (by omega) (by simp; omega) d
   refine ⟨R ++ [x], by rw [e]; simp, eE h1 (.refl _), by simpa using i, fun R1 y R2 t a => ?_⟩
   rcases df R2 with rfl | ⟨R2', z, rfl⟩
   ·-- x g
    have : R = R1 ∧ x = y := by
     have := List.append_inj' (t₁ := [x]) (t₂ := [y]) (by simpa using t) rfl
     exact ⟨this.1, by simpa using this.2⟩
    obtain ⟨rfl, rfl⟩ := this
    simp only [bt] at a
    rw [AE] at d a
    have : mc [] (P0 ++ S) := (AE _ _ _).2 ⟨d.1, a.2.mono (fun f u => by
     simp only [bt] at u ⊢
     exact (h1.map _).subset u)⟩
    rw [AP.2 this] at c; cases c
   ·have p : R ++ [x] = (R1 ++ y :: R2') ++ [z] := by simpa using t
    have := List.append_inj' p rfl
    obtain ⟨v, s⟩ := this
    simp at s; subst s
    exact j R1 y R2' v (by simpa using a)
theorem Pa {R : List jv} {z : jv} (d : ((R ++ [z]).map (·.jd)).Nodup) (g : mc [] (R ++ [z])) (h : ∀ R1 x R2, R = R1 ++ x :: R2 → ¬ mc [] (R1 ++ (R2 ++ [z]))) : CB (R ++ [z]) := by
 refine ⟨d, g, ?_⟩
 rintro ⟨j, _, h1, a⟩
 have c : j < R.length := by simp at h1; omega
 obtain ⟨A, x, B, rfl, rfl⟩ := Ky R j c
 refine h A x B rfl ?_
 have := Im A x (B ++ [z])
 simp only [aC, bF] at a
 rw [this] at a
 exact a
theorem J4 (P : List jv) (z : jv) (h : (P ++ [z]).length ≤ 10000000) (j : ((P ++ [z]).map (·.jd)).Nodup) (k : mc [] (P ++ [z])) :
  ∃ R, uR (P ++ [z]) = some (R ++ [z]) ∧ R.Sublist P ∧ CB (R ++ [z]) := by
 unfold uR
 rw [qv, oR, Iv _ (by omega)]
 simp only [aa]
 cases m : LH (P ++ [z]) with
 | true =>
  simp only [aU, ae, aq]
  exact ⟨P, rfl, .refl _, AN.1 m⟩
 | false =>
  simp only [bP, aD]
  have i : P.length + 1 ≤ 10000000 := by simpa using h
  obtain ⟨R, e, h1, d, g⟩ := QS P [z] jX (by rw [nG]; omega) (by simp; omega) k
  have hi : wi0 .i64 (((P ++ [z]).length : Int) - 2) = (P.length : Int) - 1 := by rw [kp (by simp; omega) (by simp; omega)]; simp; omega
  rw [hi, e]
  simp only [aa]
  have a : (R ++ [z]).Sublist (P ++ [z]) := eE h1 (.refl _)
  have c := Pa ((a.map _).nodup j) d g
  rw [show (18446744073709551615 : Nat) = 18446744073709551614 + 1 from rfl, oR, Iv _ (by have := a.length_le; omega)]
  simp only [aa]
  rw [AN.2 c]
  simp only [aU, ae, aq]
  exact ⟨R, rfl, h1, c⟩
def Bi (l : List jb) : List ByteArray := l.flatMap fun c => [c.jL, c.Head.jn, c.B.jn, c.C.jn]
theorem DI (l : List jb) : (Bi l).length = 4 * l.length := by
 unfold Bi
 induction l with
 | nil => rfl
 | cons x l ih => simp [ih]; omega
theorem H7 : ∀ (l : List jb) (acc : List ByteArray), acc.length + 4 * l.length ≤ 1000000000 → rr l acc = xa (acc ++ Bi l)
 | [], acc, _ => by rw [rr, sR]; simp [Bi]
 | c :: l, acc, h => by
  simp only [aA] at h
  rw [rr, lu (by simp; omega) (by simp; omega)]
  simp only [aa]
  rw [H7 l _ (by simp; omega)]
  simp [Bi]
theorem Ou (l : List jb) (h : l.length ≤ 10000000) : ∃ s, xF l = some s ∧ A2 (Bi l) s ∧ s.length ≤ 4 * l.length := by
 unfold xF
 rw [H7 l [] (by simp; omega)]
 obtain ⟨s, e, a⟩ := Ru ([] ++ Bi l) (by rw [bt, DI]; omega)
 rw [bt] at a
 exact ⟨s, e, a, by rw [← DI]; exact qt (Fv _) a⟩
theorem tO.self {α : Type} {lt : α → α → Prop} {P : α → Prop} {l s : List α} (h : tO lt P l s) : tO lt P s s := ⟨h.1, fun x => ⟨fun a => ⟨a, ((h.2 x).1 a).2⟩, fun a => a.1⟩⟩
theorem qQ.own {l : List jd} {c : jb} {names : List ByteArray} {w : ByteArray} (h : qQ l c names w) : qQ l c (l.map (·.jL)) w := by
 rcases h with h | h | h | ⟨d, g, i, b, _, a, j⟩
 ·exact .inl h
 ·exact .inr (.inl h)
 ·exact .inr (.inr (.inl h))
 ·exact .inr (.inr (.inr ⟨d, g, i, b, aR.2 ⟨_, a, rfl⟩, a, j⟩))
theorem qQ.subset {a b : List jd} {c : jb} {names : List ByteArray} {w : ByteArray} (h : qQ a c names w) (d : ∀ f ∈ a, f ∈ b) : qQ b c names w := by
 rcases h with h | h | h | ⟨i, j, k, g, m, n, o⟩
 ·exact .inl h
 ·exact .inr (.inl ⟨h.1, d _ h.2⟩)
 ·exact .inr (.inr (.inl ⟨h.1, d _ h.2.1, d _ h.2.2⟩))
 ·exact .inr (.inr (.inr ⟨i, j, k, g, m, d _ n, d _ o⟩))
def kP (l : List jv) : List jd := l.map (·.jd)
theorem uA (l m : List jv) : kP (l ++ m) = kP l ++ kP m := by simp [kP]
structure ER (C : List jb) (want : jd) (out : List jv) : Prop where
 st : mc [] out
 nd : (kP out).Nodup
 cr : ∀ s ∈ out, s.jb ∈ C
 dr : ∀ f ∈ kP out, mE C f
 no : want ∉ kP out
theorem ER.len {C : List jb} {want : jd} {out : List jv} (h : ER C want out) : out.length ≤ C.length * C.length := by
 have h1 : (kP out).length ≤ (BY C).length := lh h.nd (fun f a => (h.dr f a).BY)
 rw [yK] at h1
 simpa [kP] using h1
structure Qt (C : List jb) (want : jd) (l : List jv) : Prop where
 st : mc [] l
 nd : (kP l).Nodup
 cr : ∀ s ∈ l, s.jb ∈ C
 dr : mE C want
 len : l.length ≤ C.length * C.length
 last : ∃ P z, l = P ++ [z] ∧ z.jd = want
theorem LD {κ : Type} {beq : κ → κ → Bool} (c : ∀ {x y}, beq x y = true ↔ x = y) {a : List κ} {k : κ} (h : k ∉ a) : ins beq a k = a ++ [k] := by
 unfold ins
 rw [ai]
 intro d; exact h ((nu c a k).1 d)
theorem Gw {C : List jb} (A : SM C) (x : pw C) {c : jb} (u : c ∈ C) (sS : List ByteArray) (want : jd) (j : List jv) : ∀ (p : List jd) (out : List jv), ER C want out → (∀ f ∈ kP j, f ∈ kP out) → (∀ f ∈ p, f.ja = c.Head ∧ qQ (kP j) c sS f.jL) →
  (∃ l, oI c want p out (tt (kP out)) = some (.inl (.inl (l, true))) ∧ Qt C want l) ∨
  (∃ e, oI c want p out (tt (kP out)) = some (.inr (out ++ e, tt (kP (out ++ e)))) ∧ ER C want (out ++ e) ∧ ∀ f ∈ p, f ∈ kP (out ++ e))
 | [], out, h, _, _ => .inr ⟨[], by rw [oI]; simp, by simpa using h, by simp⟩
 | f :: p, out, h, m, F => by
  rw [oI, Dg]
  by_cases k : f ∈ kP out
  ·rw [aj ((nu lp _ _).2 k)]
   rcases Gw A x u sS want j p out h m (fun g d => F g (by simp [d])) with h1 | ⟨e, h1, y, z⟩
   ·exact .inl h1
   ·refine .inr ⟨e, h1, y, fun g d => ?_⟩
    rcases aB.1 d with rfl | d
    ·rw [uA]; exact aW _ k
    ·exact z g d
  ·rw [ai (fun t => k ((nu lp _ _).1 t))]
   have O := h.len
   have M := A.sq
   rw [lu (by simp; omega) (by simp; omega)]
   simp only [aa]
   obtain ⟨J, G⟩ := F f (by simp)
   have o : qQ (kP out) c sS f.jL := G.subset m
   have n : mE C f := by
    have := PT u (x c u) h.dr o
    rw [← J] at this; exact this
   have i : mc [] (out ++ [⟨c, f⟩]) := (AE _ _ _).2 ⟨h.st, ⟨x c u, J, o.own⟩, trivial⟩
   have q : (kP (out ++ [⟨c, f⟩])).Nodup := by
    rw [uA]
    exact aS.2 ⟨h.nd, by simp [kP], fun a I b t D => by
     simp only [kP, aQ, dN, aF] at t
     rw [D, t] at I; exact k I⟩
   have v : ∀ s ∈ out ++ [⟨c, f⟩], s.jb ∈ C := fun s m => by
    rcases aI.1 m with m | m
    ·exact h.cr s m
    ·rw [aF] at m; rw [m]; exact u
   have w : ∀ g ∈ kP (out ++ [⟨c, f⟩]), mE C g := fun g d => by
    rw [uA] at d
    rcases aI.1 d with d | d
    ·exact h.dr g d
    ·simp only [kP, aQ, dN, aF] at d
     rw [d]; exact n
   by_cases hw : f = want
   ·rw [aj (lp.2 hw)]
    refine .inl ⟨_, rfl, i, q, v, by rw [← hw]; exact n, ?_, out, _, rfl, hw⟩
    have h1 : (kP (out ++ [⟨c, f⟩])).length ≤ (BY C).length := lh q (fun g d => (w g d).BY)
    rw [yK] at h1
    simpa [kP] using h1
   ·rw [ai (fun t => hw (lp.1 t)), HK lp, LD lp k]
    have d : ER C want (out ++ [⟨c, f⟩]) := ⟨i, q, v, w, fun k => by
     rw [uA] at k
     rcases aI.1 k with k | k
     ·exact h.no k
     ·simp only [kP, aQ, dN, aF] at k
      exact hw k.symm⟩
    have L : kP out ++ [f] = kP (out ++ [⟨c, f⟩]) := by rw [uA]; rfl
    rw [L]
    rcases Gw A x u sS want j p _ d (fun g d => by rw [uA]; exact aW _ (m g d)) (fun g d => F g (by simp [d])) with h1 | ⟨e, h1, y, z⟩
    ·exact .inl h1
    ·refine .inr ⟨⟨c, f⟩ :: e, by rw [h1]; simp, by simpa using y, fun g d => ?_⟩
     rcases aB.1 d with rfl | d
     ·rw [uA]; exact bU _ (by simp [kP])
     ·have := z g d
      simpa using this
def Kh (sS : List ByteArray) (cs : List jb) (F : List jd) : Prop := ∀ c ∈ cs, ∀ w ∈ sS, qQ F c sS w → (⟨c.Head, w⟩ : jd) ∈ F
theorem JS {C : List jb} (q : SM C) (m : pw C) {sS : List ByteArray} (hw : A2 sS sS) (i : sS.length ≤ 900000000) (want : jd) : ∀ (cs : List jb) (out : List jv), (∀ c ∈ cs, c ∈ C) → ER C want out →
  (∃ l, pM sS want cs out (tt (kP out)) = some (.inl (l, true)) ∧ Qt C want l) ∨
  (∃ e, pM sS want cs out (tt (kP out)) = some (.inr (out ++ e, tt (kP (out ++ e)))) ∧ ER C want (out ++ e) ∧ (e = [] → Kh sS cs (kP out)))
 | [], out, _, h => .inr ⟨[], by rw [pM]; simp, by simpa using h, fun _ c A => by cases A⟩
 | c :: cs, out, d, h => by
  rw [pM]
  obtain ⟨z, v, t, a2⟩ := NZ (f := fun x => tp x.1 x.2 (tt (kP out))) (p := fun x => nq lH (kP out) ⟨x.1, x.2⟩) (fun x => by unfold tp; rw [Dg]) (out := kP out) (fun r w => nu lp _ _) c i hw
  rw [v]
  simp only [aa]
  rcases Gw q m (d c (by simp)) sS want out z out h (fun _ h => h) (fun f D => (t f D).2) with ⟨l, h1, k⟩ | ⟨e, h1, k, o⟩
  ·rw [h1]
   exact .inl ⟨l, rfl, k⟩
  ·rw [h1]
   simp only [aa]
   rcases JS q m hw i want cs _ (fun x F => d x (by simp [F])) k with ⟨l, n, k2⟩ | ⟨y, n, k2, s⟩
   ·exact .inl ⟨l, n, k2⟩
   ·refine .inr ⟨e ++ y, by rw [n]; simp, by simpa using k2, fun he => ?_⟩
    obtain ⟨rfl, rfl⟩ := List.append_eq_nil_iff.1 he
    simp only [bp] at o s
    intro u a w j g
    rcases aB.1 a with rfl | a
    ·exact o _ (a2 (m _ (d _ (by simp))) w j g)
    ·exact s trivial u a w j g
theorem Jg {C : List jb} (k : SM C) (g : pw C) {sS : List ByteArray} (hw : A2 sS sS) (d : sS.length ≤ 900000000) (m : ∀ c ∈ C, c.Kind = 1 → c.jL ∈ sS) (want : jd) : ∀ (n : Nat) (out : List jv) (x : Int), ER C want out → x ≤ out.length → (x = out.length → Kh sS C (kP out)) → ((C.length * C.length : Nat) : Int) < n + x →
  (∃ l, pN sS want C n out x (tt (kP out)) = some (l, true) ∧ Qt C want l) ∨ (pN sS want C n out x (tt (kP out)) = some ([], false) ∧ ¬ mE C want)
 | 0, out, x, h, q, _, p => by
  have := h.len
  omega
 | n + 1, out, x, h, q, i, p => by
  rw [pN]
  by_cases a : x < out.length
  ·rw [aj (by simpa using a)]
   rcases JS k g hw d want C out (fun _ h => h) h with ⟨l, j, k2⟩ | ⟨e, j, k2, s⟩
   ·rw [j]
    exact .inl ⟨l, rfl, k2⟩
   ·rw [j]
    simp only [aa]
    refine Jg k g hw d m want n (out ++ e) out.length k2 (by rw [ah]; omega) (fun he => ?_) (by omega)
    have : e = [] := aX (by simp at he; omega)
    subst this
    rw [bp]
    exact s rfl
  ·rw [ai (by simpa using a)]
   refine .inr ⟨rfl, fun o => h.no ?_⟩
   exact GM g m (i (by omega)) o
theorem Pw (l : List jb) (p : l.length ≤ 30000) (want : jd) : ∃ C, He l C ∧ ((∃ o, vO l want = some (o, true) ∧ Qt C want o) ∨ (vO l want = some ([], false) ∧ ¬ mE C want)) := by
 obtain ⟨C, i, d⟩ := TZ l (by omega)
 obtain ⟨sS, j, hw, n⟩ := Ou l (by omega)
 have k : C.length ≤ l.length := qt De d
 have a : SM C := by unfold SM; omega
 have h : pw C := fun c g => ((d.2 c).1 g).2
 refine ⟨C, d, ?_⟩
 unfold vO
 rw [i, j]
 simp only [aa]
 have m := a.sq
 exact Jg a h hw.self (by omega) (fun c g hk => (hw.2 _).2 ⟨fV.2 ⟨c, ((d.2 c).1 g).1, by simp⟩, Nd (h c g) hk⟩) want jX [] (-1) ⟨trivial, by simp [kP], by simp, by simp [kP], by simp [kP]⟩ (by simp) (by simp) (by rw [nG]; omega)
structure Tx (C : List jb) (want : jd) (l : List jv) : Prop where
 tg : CB l
 cr : ∀ s ∈ l, s.jb ∈ C
 dr : mE C want
 len : l.length ≤ C.length * C.length
 last : ∃ P z, l = P ++ [z] ∧ z.jd = want
theorem Re (l : List jb) (p : l.length ≤ 3000) (want : jd) : ∃ C, He l C ∧ ((∃ o, uV l want = some (o, true) ∧ Tx C want o) ∨ (uV l want = some ([], false) ∧ ¬ mE C want)) := by
 obtain ⟨C, c, h⟩ := Pw l (by omega) want
 refine ⟨C, c, ?_⟩
 have j : C.length ≤ l.length := qt De c
 have m : C.length * C.length ≤ 3000 * 3000 := eu (by omega) (by omega)
 unfold uV
 rcases h with ⟨o, e, g⟩ | ⟨e, g⟩
 ·rw [e]
  simp only [aa, aU, ae, aq]
  obtain ⟨P, z, rfl, n⟩ := g.last
  have hlen := g.len
  obtain ⟨R, d, h1, i⟩ := J4 P z (by omega) g.nd g.st
  rw [d]
  simp only [aa]
  have a : (R ++ [z]).Sublist (P ++ [z]) := eE h1 (.refl _)
  exact .inl ⟨_, rfl, i, fun s k => g.cr s (a.subset k), g.dr, by have := a.length_le; omega, R, z, rfl, n⟩
 ·rw [e]
  exact .inr ⟨rfl, g⟩
def up (w : ByteArray) (g : ByteArray → Nat) : ByteArray → Nat := fun x => if ke w x = true then g x + 1 else g x
def MG : List jv → List jv → List jv
 | [], acc => acc
 | s :: l, acc => if nq lH (kP acc) s.jd then MG l acc else MG l (acc ++ [s])
theorem Gt : ∀ (l acc : List jv), acc.length + l.length ≤ 100000000 → pU l (tt (kP acc)) acc = some (MG l acc)
 | [], acc, _ => by rw [pU]; rfl
 | s :: l, acc, h => by
  simp only [aA] at h
  rw [pU, Dg, MG]
  by_cases a : s.jd ∈ kP acc
  ·rw [(nu lp _ _).2 a]
   simp only [aU, ae, aq, aD]
   exact Gt l acc (by omega)
  ·have c : nq lH (kP acc) s.jd = false := by
    cases d : nq lH (kP acc) s.jd with
    | false => rfl
    | true => exact absurd ((nu lp _ _).1 d) a
   rw [c]
   simp only [bP, aD, ae, aq]
   rw [lu (by simp; omega) (by simp; omega)]
   simp only [aa]
   rw [HK lp, LD lp a, show kP acc ++ [s.jd] = kP (acc ++ [s]) by rw [uA]; rfl]
   exact Gt l _ (by simp; omega)
theorem Tj {b : Bool} (h : b = true) : me b = some () := by simp [me, h]
theorem M1 (n : Nat) (a : n ≤ 1000000000) : rG (n : Int) = some [] := by
 unfold rG
 rw [show wi0 .i64 (0 - 0) = 0 by decide, kp (by omega) (by omega), ai (by simp), Int.sub_zero]
 by_cases h : (n : Int) > 0
 ·rw [aj (by simp; omega)]
  unfold Hs
  rw [aj ⟨by omega, by omega, by unfold maxLen; omega⟩]
  simp only [aa]
  rw [Tj (by simp)]
  simp
 ·rw [ai (by simp; omega)]; simp
def tot {α : Type} (a : List (List α)) : Nat := (a.map List.length).sum
theorem Iu : ∀ (a : List (List jv)) (acc : List jv), acc.length + tot a ≤ 100000000 → nH a acc = some (acc ++ a.flatten)
 | [], acc, _ => by rw [nH]; simp
 | l :: a, acc, h => by
  simp only [tot, aQ, gb] at h
  rw [nH, lu (by omega) (by omega)]
  simp only [aa]
  rw [Iu a _ (by simp only [tot, ah]; omega)]
  simp
theorem Ie (a0 : List (List jv)) (c : tot a0 ≤ 100000000) : ∀ (a : List (List jv)) (n : Nat), n + tot a ≤ 100000000 → nE a0 a (n : Int) = some a0.flatten
 | [], n, h => by
  rw [nE, M1 n (by omega)]
  simp only [aa, sR]
  rw [Iu a0 [] (by simpa using c)]; simp
 | l :: a, n, h => by
  simp only [tot, aQ, gb] at h
  rw [nE, kp (by omega) (by omega), ai (by simp; omega)]
  have := Ie a0 c a (n + l.length) (by simp only [tot]; omega)
  simpa using this
theorem Pd (a0 : List (List jv)) (a : tot a0 ≤ 100000000) : vz a0 = some a0.flatten := Ie a0 a a0 0 (by omega)
theorem HM {α : Type} (a : List (List α)) : a.flatten.length = tot a := by simp [tot, List.length_flatten]
theorem Pk (a : List (List jv)) (c : tot a ≤ 100000000) : xK a = some (MG a.flatten []) := by
 unfold xK
 rw [Pd a c]
 simp only [aa]
 exact Gt _ [] (by rw [HM]; simpa using c)
instance decRole : DecidableEq ja := fun a b => decidable_of_iff (jt a b = true) jB
structure RQ (l : List jb) (F : List jd) : Prop where
 len : l.length ≤ 30000
 C : ∃ C : List jb, AY (mE C) F ∧ (∀ c, c ∈ C ↔ c ∈ l ∧ kc c = true) ∧ SM C
 ref : AB l = some F
theorem RX (l : List jb) (h : l.length ≤ 30000) : ∃ F, RQ l F := by
 obtain ⟨C, F, e, h1, i⟩ := Q8 l h
 obtain ⟨C1, T, k, ws, n, j, m1, a, g⟩ := Qq l (by omega)
 have d : ∀ c, c ∈ C ↔ c ∈ C1 := fun c => by rw [i, a]
 exact ⟨F, h, ⟨C1, ⟨h1.1, fun f => (h1.2 f).trans (mE.congr d f)⟩, a, by unfold SM; omega⟩, e⟩
theorem RQ.Uh {l : List jb} {F : List jd} (h : RQ l F) : F.length ≤ 900000000 := by
 obtain ⟨C, h1, c, a⟩ := h.C
 exact Q2 h1 a
def B8 (l : List Int) : Prop := ∀ x ∈ l, 0 ≤ x ∧ x < 256
def Nw : List ByteArray → List Key → Int
 | _, [] => 0
 | seen, k :: l => if kR k.jL = false then 30 else if k.Key.length < 1 ∨ 32 < k.Key.length then 21 else if nq ke seen k.jL = true then 41 else Nw (seen ++ [k.jL]) l
def PL (l : List Key) : List (ByteArray × List Int) := l.map fun k => (k.jL, k.Key)
def PH (l : List Key) (o : ByteArray) : Option (List Int) := kx ke (PL l) o
theorem JA {l : List Int} (h : l.length ≤ 1000000) : nW l = some l := by
 unfold nW
 rw [Ar (by simpa using h)]; rfl
theorem MD : ∀ (l : List Key) (seen : List ByteArray), Nw seen l = 0 → ∀ k ∈ l, 1 ≤ k.Key.length ∧ k.Key.length ≤ 32
 | [], _, _, _, hk => by cases hk
 | x :: l, seen, h, k, hk => by
  unfold Nw at h
  split at h
  ·cases h
  split at h
  ·cases h
  split at h
  ·cases h
  rcases aB.1 hk with rfl | hk
  ·omega
  ·exact MD l _ h k hk
theorem Gh : ∀ (l : List Key) (o : ByteArray) (b : List Int), PH l o = some b → ∃ k ∈ l, k.Key = b
 | [], o, b, h => by cases h
 | x :: l, o, b, h => by
  unfold PH at h
  rw [show PL (x :: l) = (x.jL, x.Key) :: PL l from rfl, BH] at h
  split at h
  ·cases h; exact ⟨x, by simp, rfl⟩
  ·obtain ⟨k, hk, e⟩ := Gh l o b h
   exact ⟨k, by simp [hk], e⟩
def K8 (l : List Key) : Prop := ∀ k ∈ l, B8 k.Key
theorem BL {c : jb} (h : kc c = true) : (ov c).length ≤ 200 := by
 unfold ov wz
 rw [aA, ah]
 have i := lD (xo h)
 have a : ∀ s, kR s = true → (qS s).length ≤ 17 := fun s d => by rw [nO]; have := lB d; omega
 rcases lY h with g | g | g | g <;> simp only [g.1, aD, aq, Int.reduceEq]
 ·have := a c.jL (by simp_all); omega
 ·have : (nf c.B).length ≤ 34 := lD (by simp_all)
  omega
 ·have : (nf c.B).length ≤ 34 := lD (by simp_all)
  have := a c.kk (by simp_all)
  rw [ah]; omega
 ·have : (nf c.B).length ≤ 34 := lD (by simp_all)
  have : (nf c.C).length ≤ 34 := lD (by simp_all)
  rw [ah]; omega
theorem UC (c : jb) (h : kc c = true) : tC c = some (ov c) := by rw [yr, aj h]
theorem rB (c : jb) (h : kc c = true) : ua c = some (kT (ov c)) := by
 have := xQ c
 unfold vH at this
 rw [rk, h] at this
 simp only [aa, aU, ae, aq, aD] at this
 rw [← this]; cases ua c <;> rfl
structure Mk (ks : List Key) (c : jb) (k : List Int) : Prop where
 ok : Nw [] ks = 0
 rt : kc c = true
 lk : PH ks c.Head.jn = some k
theorem Mk.len {a : List Key} {c : jb} {k : List Int} (h : Mk a c k) : 1 ≤ k.length ∧ k.length ≤ 32 := by
 obtain ⟨q, d, rfl⟩ := Gh _ _ _ h.lk
 exact MD a [] h.ok q d
theorem Mk.b8 {a : List Key} {c : jb} {k : List Int} (h : Mk a c k) (hk : K8 a) : B8 k := by
 obtain ⟨q, d, rfl⟩ := Gh _ _ _ h.lk
 exact hk q d
theorem Mk.unique {a : List Key} {c : jb} {k k' : List Int} (h : Mk a c k) (d : Mk a c k') : k = k' := by
 have := h.lk; rw [d.lk] at this; cases this; rfl
def S8 (l : List Signed) : Prop := ∀ s ∈ l, B8 s.Tag
def wr {α : Type} : Int ⊕ (α × List Int) → Int ⊕ (α × jx)
 | .inl e => .inl e
 | .inr (v, l) => .inr (v, ⟨l, false⟩)
def lb {α β : Type} (x : Int ⊕ (α × List Int)) (f : α → List Int → Int ⊕ (β × List Int)) : Int ⊕ (β × List Int) :=
 match x with
 | .inl e => .inl e
 | .inr (v, l) => f v l
def nz (a : Int) : Nat → Int → List Int → Int ⊕ (Int × List Int)
 | i, n, [] => .inl (if i = 9 then 11 else 10)
 | i, n, c :: l => if i = 9 then .inl 11 else if c = 0 ∧ 0 < i then .inl 11 else
   if c < 128 then (if n + c % 128 * 128 ^ i > a then .inl 12 else .inr (n + c % 128 * 128 ^ i, l)) else nz a (i + 1) (n + c % 128 * 128 ^ i) l
def wi : Int := 9223372036854775807
def zK (a : Int) (l : List Int) : Int ⊕ (List Int × List Int) :=
 lb (nz wi 0 0 l) fun n c => if n > a then .inl 12 else if n > (c.length : Int) then .inl 10 else .inr (c.take n.toNat, c.drop n.toNat)
def qR (l : List Int) : Int ⊕ (ByteArray × List Int) := lb (zK 16 l) fun t a => if kR (kT t) = true then .inr (kT t, a) else .inl 30
def od (l : List Int) : Int ⊕ (ja × List Int) := lb (qR l) fun a c => lb (qR c) fun b d => .inr (⟨a, b⟩, d)
def ym (k : Int) (h : ja) (l : List Int) : Int ⊕ (jb × List Int) :=
 if k = 1 then lb (qR l) fun w a => .inr (⟨k, h, w, zR, zR, zS⟩, a)
 else if k = 2 then lb (od l) fun b a => .inr (⟨k, h, zS, b, zR, zS⟩, a)
 else if k = 3 then lb (od l) fun b a => lb (qR a) fun w d => .inr (⟨k, h, zS, b, zR, w⟩, d)
 else lb (od l) fun b a => lb (od a) fun c d => .inr (⟨k, h, zS, b, c, zS⟩, d)
def zD (l : List Int) : Int ⊕ (jb × List Int) :=
 lb (nz wi 0 0 l) fun k a => if k < 1 ∨ 4 < k then .inl 11 else lb (od a) fun h d => lb (ym k h d) fun c g => if kc c = true then .inr (c, g) else .inl 11
theorem yO (l : List Int) (e : Int) (he : e ≠ 0) : kZ ⟨l, false⟩ e = some (.inl e) := by
 unfold kZ; simp [he]
theorem NV (l : List Int) (i : Int) (hi : 0 ≤ i) : sO ⟨l, false⟩ i = some (match l with
  | [] => .inl (if i = 9 then 11 else 10)
  | c :: t => if i = 9 then .inl 11 else if c = 0 ∧ 0 < i then .inl 11 else .inr (c, ⟨t, false⟩)) := by
 unfold sO
 rw [yO _ 11 (by decide), yO _ 10 (by decide)]
 by_cases a : i = 9
 ·subst a; cases l <;> simp
 ·cases l with
  | nil => simp [a]
  | cons c t =>
   have h1 : ((c :: t).length : Int) ≠ 0 := by simp; omega
   have d : me (decide (0 ≤ (1 : Int)) && decide ((1 : Int) ≤ ((c :: t).length : Int))) = some () := uT (by decide) (by simp; omega)
   have g : kN (c :: t) 0 = some c := tX [] c t 0 rfl
   simp only [eP, a, h1, aq, aa, d, g]
   have h : me (decide (1 ≤ (t.length : Int) + 1)) = some () := by simp [me]; omega
   by_cases j : c = 0 <;> by_cases hp : 0 < i <;> simp [j, hp, yO, h]
theorem TW (c : Int) (a : 0 ≤ c) (h1 : c < 256) : IntKind.u8.wrap (BitVec.ofInt (IntKind.bits .u8) c &&& BitVec.ofInt (IntKind.bits .u8) 127).toNat = c % 128 := by
 obtain ⟨k, rfl⟩ : ∃ k : Nat, c = k := ⟨c.toNat, by omega⟩
 have : ∀ k : Nat, k < 256 → IntKind.u8.wrap (BitVec.ofInt (IntKind.bits .u8) (k : Int) &&& BitVec.ofInt (IntKind.bits .u8) 127).toNat = (k : Int) % 128 := by decide +kernel
 exact this k (by omega)
theorem SX (n m j : Nat) (c : n < 2 ^ j) (hm : m * 2 ^ j + n < 18446744073709551616) : (BitVec.ofInt 64 (n : Int) ||| BitVec.ofInt 64 ((m * 2 ^ j : Nat) : Int)).toNat = n + m * 2 ^ j := by
 have h1 : n < 2 ^ 64 := by omega
 have a : m * 2 ^ j < 2 ^ 64 := by omega
 rw [BitVec.toNat_or, BitVec.ofInt_natCast, BitVec.ofInt_natCast, BitVec.toNat_ofNat, BitVec.toNat_ofNat, Nat.mod_eq_of_lt h1, Nat.mod_eq_of_lt a, Nat.or_comm, ← Nat.shiftLeft_eq, ← Nat.shiftLeft_add_eq_or_of_lt c, iG]
theorem Tl (n c : Int) (i : Nat) (hi : i ≤ 8) (s : 0 ≤ n ∧ n < 128 ^ i) (h : 0 ≤ c ∧ c < 256) : wi0 .i64 (BitVec.ofInt (IntKind.bits .i64) n ||| BitVec.ofInt (IntKind.bits .i64) (wi0 .i64 (wi0 .i64 (IntKind.u8.wrap (BitVec.ofInt (IntKind.bits .u8) c &&& BitVec.ofInt (IntKind.bits .u8) 127).toNat) * 2 ^ min (Int.toNat (wi0 .i64 (7 * (i : Int)))) (IntKind.bits .i64)))).toNat = n + c % 128 * 128 ^ i := by
 rw [TW c h.1 h.2, kp (x := c % 128) (by omega) (by omega), kp (x := 7 * (i : Int)) (by omega) (by omega)]
 have j : min (Int.toNat (7 * (i : Int))) (IntKind.bits .i64) = 7 * i := by simp only [IntKind.bits]; omega
 rw [j]
 obtain ⟨a, rfl⟩ : ∃ a : Nat, n = a := ⟨n.toNat, by omega⟩
 obtain ⟨b, p⟩ : ∃ b : Nat, c % 128 = b := ⟨(c % 128).toNat, by omega⟩
 rw [p]
 have q : b < 128 := by omega
 have g : (128 : Nat) ^ i = 2 ^ (7 * i) := by rw [Nat.pow_mul]
 have k : (128 : Int) ^ i = ((2 ^ (7 * i) : Nat) : Int) := by rw [← g]; simp
 have o : a < 2 ^ (7 * i) := by rw [← g]; have := s.2; exact_mod_cast this
 have d : 2 ^ (7 * i) ≤ 2 ^ 56 := gj (by decide) (by omega)
 have hm : b * 2 ^ (7 * i) + a < 9223372036854775808 := by
  have : (b + 1) * 2 ^ (7 * i) ≤ 128 * 2 ^ 56 := eu (by omega) d
  rw [bo] at this; omega
 have m : ((b : Int) * 2 ^ (7 * i)) = ((b * 2 ^ (7 * i) : Nat) : Int) := by simp
 rw [m, kp (x := ((b * 2 ^ (7 * i) : Nat) : Int)) (by omega) (by omega)]
 show wi0 .i64 ((BitVec.ofInt 64 (a : Int) ||| BitVec.ofInt 64 ((b * 2 ^ (7 * i) : Nat) : Int)).toNat : Int) = _
 rw [SX a b (7 * i) o (by omega), kp (by omega) (by omega), k]
 simp
theorem Jp (n c : Int) (i : Nat) (a : 0 ≤ n ∧ n < 128 ^ i) : 0 ≤ n + c % 128 * 128 ^ i ∧ n + c % 128 * 128 ^ i < 128 ^ (i + 1) := by
 have h1 : 0 ≤ c % 128 ∧ c % 128 < 128 := ⟨by omega, by omega⟩
 have hp : (0 : Int) < 128 ^ i := Int.pow_pos (by decide)
 constructor
 ·have := Int.mul_nonneg h1.1 (iQ hp); omega
 ·rw [Int.pow_succ]
  have : c % 128 * 128 ^ i ≤ 127 * 128 ^ i := fW (by omega) (iQ hp)
  omega
theorem Qu (a : Int) : ∀ (l : List Int) (i : Nat) (n : Int) (k : Nat), B8 l → i ≤ 9 → 0 ≤ n ∧ n < 128 ^ i → l.length < k → mj a k n i l false = some (wr (nz a i n l))
 | [], i, n, k + 1, _, hi, _, _ => by
  rw [mj, NV _ _ (by omega)]
  by_cases g : i = 9 <;> simp [nz, wr, g] <;> omega
 | c :: l, i, n, k + 1, s, hi, t, hk => by
  have u := s c (List.mem_cons_self ..)
  rw [mj, NV _ _ (by omega)]
  unfold nz
  by_cases g : i = 9
  ·subst g; rfl
  ·have m : ¬ ((i : Int) = 9) := by omega
   have q := Tl n c i (by omega) t u
   have hp := Jp n c i t
   have o : me (decide (0 ≤ wi0 .i64 (7 * (i : Int)))) = some () := by rw [kp (by omega) (by omega)]; simp [me]; omega
   have p : wi0 .i64 ((i : Int) + 1) = ((i + 1 : Nat) : Int) := by rw [kp (by omega) (by omega)]; simp
   simp only [g, m, aq, aa]
   by_cases j : c = 0 ∧ 0 < i
   ·have : c = 0 ∧ 0 < (i : Int) := ⟨j.1, by omega⟩
    rw [aj this, aj j]; rfl
   ·have : ¬ (c = 0 ∧ 0 < (i : Int)) := fun h => j ⟨h.1, by omega⟩
    rw [ai this, ai j]
    simp only [q, o, p, aa]
    by_cases d : c < 128
    ·simp only [d, cK, aD]
     by_cases hm : n + c % 128 * 128 ^ i > a
     ·simp only [hm, cK, aD, yO _ 12 (by decide), aa, wr]
     ·simp only [hm, cZ, aq, ae, aa, wr]
    ·simp only [d, cZ, aq, ae]
     exact Qu a l (i + 1) _ k (fun x v => s x (cI _ v)) (by omega) hp (by simp only [aA] at hk; omega)
theorem B8.tail {c : Int} {l : List Int} (h : B8 (c :: l)) : B8 l := fun x a => h x (cI _ a)
theorem B8.drop {l : List Int} (h : B8 l) (n : Nat) : B8 (l.drop n) := fun x a => h x (List.mem_of_mem_drop a)
theorem B8.take {l : List Int} (h : B8 l) (n : Nat) : B8 (l.take n) := fun x a => h x (List.mem_of_mem_take a)
def A6 {α : Type} (l : List Int) (x : Int ⊕ (α × List Int)) : Prop := ∀ v a, x = .inr (v, a) → ∃ k, a = l.drop k
theorem A6.CF {α β : Type} {l : List Int} {x : Int ⊕ (α × List Int)} {f : α → List Int → Int ⊕ (β × List Int)} (h : A6 l x) (c : ∀ v a, A6 a (f v a)) : A6 l (lb x f) := fun v a e => by
 cases x with
 | inl q => cases e
 | inr q =>
  obtain ⟨k, hk⟩ := h q.1 q.2 rfl
  obtain ⟨j, d⟩ := c q.1 q.2 v a e
  exact ⟨k + j, by rw [d, hk, List.drop_drop]⟩
theorem oC (a : Int) : ∀ (l : List Int) (i : Nat) (n : Int), A6 l (nz a i n l)
 | [], i, n => fun v d e => by cases e
 | c :: l, i, n => fun v d e => by
  unfold nz at e
  split at e
  ·cases e
  split at e
  ·cases e
  split at e
  ·split at e
   ·cases e
   ·cases e; exact ⟨1, rfl⟩
  ·obtain ⟨k, hk⟩ := oC a l (i + 1) _ v d e
   exact ⟨k + 1, by rw [hk, List.drop_succ_cons]⟩
theorem Ns (a : Int) (l : List Int) : A6 l (zK a l) := (oC _ _ _ _).CF fun n c v d e => by
 split at e
 ·cases e
 split at e
 ·cases e
 ·cases e; exact ⟨_, rfl⟩
theorem uj (l : List Int) : A6 l (qR l) := (Ns _ _).CF fun t a v c e => by
 split at e
 ·cases e; exact ⟨0, rfl⟩
 ·cases e
theorem pH (l : List Int) : A6 l (od l) := (uj _).CF fun a c => (uj _).CF fun b d v g e => by cases e; exact ⟨0, rfl⟩
theorem Lm (k : Int) (h : ja) (l : List Int) : A6 l (ym k h l) := by
 unfold ym
 split
 ·exact (uj _).CF fun a c v d e => by cases e; exact ⟨0, rfl⟩
 split
 ·exact (pH _).CF fun a c v d e => by cases e; exact ⟨0, rfl⟩
 split
 ·exact (pH _).CF fun a c => (uj _).CF fun b g v d e => by cases e; exact ⟨0, rfl⟩
 ·exact (pH _).CF fun a c => (pH _).CF fun b g v d e => by cases e; exact ⟨0, rfl⟩
theorem Hd (l : List Int) : A6 l (zD l) := (oC _ _ _ _).CF fun k d => by
 split
 ·intro v a e; cases e
 ·exact (pH _).CF fun h g => (Lm _ _ _).CF fun c i v j e => by
   split at e
   ·cases e; exact ⟨0, rfl⟩
   ·cases e
theorem Pp (l : List Int) (a : Int) (c : B8 l) (d : l.length ≤ 1000000) : lA ⟨l, false⟩ a = some (wr (nz a 0 0 l)) := by
 unfold lA sH
 simp only [aa, ae, aq]
 exact Qu a l 0 0 jX c (by omega) (by decide) (by rw [nG]; omega)
theorem Fp (a : Int) : ∀ (l : List Int) (i : Nat) (n v : Int) (d : List Int), 0 ≤ n ∧ n < 128 ^ i → nz a i n l = .inr (v, d) → 0 ≤ v ∧ v ≤ a
 | [], i, n, v, d, _, e => by cases e
 | c :: l, i, n, v, d, g, e => by
  have hp := Jp n c i g
  unfold nz at e
  split at e
  ·cases e
  split at e
  ·cases e
  split at e
  ·split at e
   ·cases e
   ·cases e; exact ⟨hp.1, by omega⟩
  ·exact Fp a l (i + 1) _ v d hp e
theorem Ta (l : List Int) (a : Int) (s : B8 l) (t : l.length ≤ 1000000) : sM ⟨l, false⟩ a = some (wr (zK a l)) := by
 unfold sM sH
 simp only [aa, ae, aq]
 rw [Pp l _ s t]
 unfold zK
 have g := oC wi l 0 0
 have d := Fp wi l 0 0
 have j : nz 9223372036854775807 0 0 l = nz wi 0 0 l := rfl
 rw [j]
 cases i : nz wi 0 0 l with
 | inl e => simp [wr, lb]
 | inr q =>
  obtain ⟨n, c⟩ := q
  obtain ⟨k, hk⟩ := g n c i
  have m := (d n c ⟨by decide, by decide⟩ i).1
  have u : c.length ≤ 1000000 := by rw [hk, bY]; omega
  simp only [aa, wr, lb]
  by_cases h1 : n > a
  ·simp only [h1, cK, aD, yO _ 12 (by decide), aa, wr]
  ·by_cases h : n > (c.length : Int)
   ·simp only [h1, h, cK, cZ, aD, aq, ae, yO _ 10 (by decide), aa, wr]
   ·have o : me (decide (0 ≤ n) && decide (n ≤ (c.length : Int))) = some () := uT m (by omega)
    have p : nW (c.take n.toNat) = some (c.take n.toNat) := JA (by rw [bx]; omega)
    simp only [h1, h, o, p, cZ, aq, ae, aa, wr]
theorem B8.part {α : Type} {l a : List Int} {x : Int ⊕ (α × List Int)} {v : α} (h : B8 l) (c : l.length ≤ 1000000) (hp : A6 l x) (e : x = .inr (v, a)) : B8 a ∧ a.length ≤ 1000000 := by
 obtain ⟨k, hk⟩ := hp v a e
 rw [hk]
 exact ⟨h.drop k, by rw [bY]; omega⟩
theorem Hp (l : List Int) (a : B8 l) (c : l.length ≤ 1000000) : rR ⟨l, false⟩ = some (wr (qR l)) := by
 unfold rR qR
 rw [Ta l _ a c]
 cases g : zK 16 l with
 | inl e => rfl
 | inr q =>
  obtain ⟨t, h⟩ := q
  simp only [aa, wr, lb, AR, qE]
  cases d : kR (kT t) <;> simp [wr, yO]
theorem Fz (l : List Int) (c : B8 l) (d : l.length ≤ 1000000) : qp ⟨l, false⟩ = some (wr (od l)) := by
 unfold qp od
 rw [Hp l c d]
 cases i : qR l with
 | inl e => rfl
 | inr q =>
  obtain ⟨a, g⟩ := q
  obtain ⟨h1, h⟩ := c.part d (uj l) i
  simp only [aa, wr, lb]
  rw [Hp g h1 h]
  cases j : qR g with
  | inl e => rfl
  | inr q => obtain ⟨b, k⟩ := q; rfl
theorem Ts (l : List Int) (x : B8 l) (y : l.length ≤ 1000000) : yN ⟨l, false⟩ = some (wr (zD l)) := by
 unfold yN zD
 rw [Pp l _ x y]
 have D : nz 9223372036854775807 0 0 l = nz wi 0 0 l := rfl
 rw [D]
 cases I : nz wi 0 0 l with
 | inl e => rfl
 | inr q =>
  obtain ⟨k, u⟩ := q
  obtain ⟨h1, v⟩ := x.part y (oC wi l 0 0) I
  simp only [aa, wr, lb]
  by_cases hk : k < 1 ∨ 4 < k
  ·have p : (if decide (k < 1) = true then some true else some (decide (k > 4)) : Option Bool) = some true := by
    by_cases h : k < 1 <;> simp [h]; omega
   rw [p, aj hk]
   simp [yO, wr]
  ·have p : (if decide (k < 1) = true then some true else some (decide (k > 4)) : Option Bool) = some false := by
    rw [ai (by simp; omega)]; simp; omega
   rw [p, ai hk]
   simp only [aa, aq, ae]
   rw [Fz u h1 v]
   cases G : od u with
   | inl e => rfl
   | inr q =>
    obtain ⟨h, d⟩ := q
    obtain ⟨i, j⟩ := h1.part v (pH u) G
    simp only [aa, wr, lb]
    have F : ∀ {A : Type} (K : jb → List Int → Bool → Option A) (X : Int → Option A), True := fun _ _ => trivial
    have fin : ∀ (c : jb) (a : List Int), ((nU c).bind fun n => if (!n) = true then (kZ ⟨a, false⟩ 11).bind fun o => match o with | .inl m => some (Sum.inl m) | .inr z => some (Sum.inr ((⟨0, ⟨zS, zS⟩, zS, ⟨zS, zS⟩, ⟨zS, zS⟩, zS⟩ : jb), (⟨a, false⟩ : jx))) else some (Sum.inr (c, (⟨a, false⟩ : jx)))) = some (wr (if kc c = true then .inr (c, a) else .inl 11)) := fun c a => by
     rw [oe]
     cases kc c <;> simp [yO, wr]
    unfold ym
    by_cases J : k = 1
    ·subst J
     simp only [aO, aD]
     rw [Hp d i j]
     cases qR d with
     | inl e => rfl
     | inr q => obtain ⟨w, a⟩ := q; exact fin _ _
    ·by_cases k2 : k = 2
     ·subst k2
      simp only [Int.reduceBEq, Int.reduceEq, aq, aD, ae]
      rw [Fz d i j]
      cases od d with
      | inl e => rfl
      | inr q => obtain ⟨w, a⟩ := q; exact fin _ _
     ·by_cases L : k = 3
      ·subst L
       simp only [Int.reduceBEq, Int.reduceEq, aq, aD, ae]
       rw [Fz d i j]
       cases g : od d with
       | inl e => rfl
       | inr q =>
        obtain ⟨w, a⟩ := q
        obtain ⟨s, t⟩ := i.part j (pH d) g
        simp only [aa, wr, lb]
        rw [Hp a s t]
        cases qR a with
        | inl e => rfl
        | inr q => obtain ⟨P, O⟩ := q; exact fin _ _
      ·have M : k = 4 := by omega
       subst M
       simp only [Int.reduceBEq, Int.reduceEq, aq, aD, ae]
       rw [Fz d i j]
       cases g : od d with
       | inl e => rfl
       | inr q =>
        obtain ⟨w, a⟩ := q
        obtain ⟨s, t⟩ := i.part j (pH d) g
        simp only [aa, wr, lb]
        rw [Fz a s t]
        cases od a with
        | inl e => rfl
        | inr q => obtain ⟨P, O⟩ := q; exact fin _ _
theorem zu (a k : Int) (l : List Int) (c : 0 ≤ k) (h1 : k < 128) (hm : k ≤ a) : nz a 0 0 (k :: l) = .inr (k, l) := by
 unfold nz
 have e : (0 : Int) + k % 128 * 128 ^ 0 = k := by simp; omega
 rw [e, ai (by decide), ai (by simp), aj h1, ai (by omega)]
theorem Pt (a : Int) (t l : List Int) (h : t.length < 128) (hm : (t.length : Int) ≤ a) : zK a ((t.length : Int) :: (t ++ l)) = .inr (t, l) := by
 unfold zK
 rw [zu _ _ _ (by omega) (by omega) (by unfold wi; omega)]
 simp only [lb]
 rw [ai (by omega), ai (by simp; omega)]
 simp
theorem zZ {s : ByteArray} (h : kR s = true) (l : List Int) : qR (qS s ++ l) = .inr (s, l) := by
 have h1 := lB h
 unfold qR qS
 rw [bF, ← lQ, Pt _ _ _ (by rw [lQ]; omega) (by rw [lQ]; omega)]
 simp only [lb, AM, h, aD]
theorem yc {r : ja} (h : kB r = true) (l : List Int) : od (nf r ++ l) = .inr (r, l) := by
 simp only [kB, az] at h
 unfold od nf
 rw [aC, zZ h.1]
 simp only [lb]
 rw [zZ h.2]
theorem OA {c : jb} (h : kc c = true) (l : List Int) : zD (ov c ++ l) = .inr (c, l) := by
 have a := lY h
 have i : 1 ≤ c.Kind ∧ c.Kind ≤ 4 := by rcases a with g | g | g | g <;> rw [g.1] <;> decide
 have d : ym c.Kind c.Head (wz c ++ l) = .inr (c, l) := by
  obtain ⟨k, j, sS, b, c2, m⟩ := c
  unfold ym wz
  rcases a with g | g | g | g
  ·obtain ⟨rfl, g1, rfl, rfl, rfl⟩ := g
   simp only [aD]
   rw [zZ g1]; rfl
  ·obtain ⟨rfl, g1, rfl, rfl, rfl⟩ := g
   simp only [Int.reduceEq, aq, aD]
   rw [yc g1]; rfl
  ·obtain ⟨rfl, g1, g2, g3, rfl, rfl⟩ := g
   simp only [Int.reduceEq, aq, aD]
   rw [aC, yc g1]
   simp only [lb]
   rw [zZ g2]
  ·obtain ⟨rfl, g1, g2, g3, rfl, rfl⟩ := g
   simp only [Int.reduceEq, aq, aD]
   rw [aC, yc g1]
   simp only [lb]
   rw [yc g2]
 unfold zD ov
 rw [bF, zu _ _ _ (by omega) (by omega) (by unfold wi; omega)]
 simp only [lb]
 rw [ai (by omega), aC, yc (xo h)]
 simp only [lb]
 rw [d]
 simp only [lb, h, aD]
theorem Gf {l : List Int} (h : l.length ≤ 1000000) : mT l = some l := by
 unfold mT; rw [JA h]; rfl
def DQ {α β : Type} (x : Int ⊕ (α × List Int)) (z : β) (v : α → β) (r : Option (β × jr)) : Prop := match x with
 | .inl e => e ≠ 0 ∧ ∃ S, r = some (z, (⟨S, e⟩ : jr))
 | .inr q => r = some (v q.1, (⟨kT q.2, 0⟩ : jr))
theorem Uq (c : Int) (d : 0 ≤ c ∧ c < 256) : ((c.toNat.toUInt8.toNat : Nat) : Int) = c := by
 have a : c.toNat.toUInt8.toNat = c.toNat := by rw [Nat.toUInt8_eq, UInt8.toNat_ofNat']; omega
 rw [a]; omega
theorem Ke (c : Int) (l : List Int) : ke (kT (c :: l)) zS = false := by
 rw [← cd, kK]
 intro h
 have := ay ByteArray.size h
 rw [xW] at this
 have : zS.size = 0 := rfl
 simp_all
theorem Mc : kT [] = zS := rfl
theorem KG (l : List Int) (n : Int) (a : 0 ≤ n) (h1 : n ≤ (l.length : Int)) : DR (kT l) n ((kT l).size : Int) = some (kT (l.drop n.toNat)) := by
 unfold DR
 rw [xW, aj ⟨a, h1, gX _⟩]
 congr 1
 apply yh
 rw [ByteArray.data_extract, Array.toList_extract, uE, uE]
 simp [vP, List.extract_eq_take_drop]
 rw [bN (by simp)]
theorem Pg (l : List Int) (n : Int) (a : 0 ≤ n) (h1 : n ≤ (l.length : Int)) : DR (kT l) 0 n = some (kT (l.take n.toNat)) := by
 unfold DR
 rw [xW, aj ⟨gX _, a, h1⟩]
 congr 1
 apply yh
 rw [ByteArray.data_extract, Array.toList_extract, uE, uE]
 simp [vP, List.extract_eq_take_drop]
theorem HV (a : Int) : ∀ (l : List Int) (i : Nat) (n u : Int) (k : Nat), B8 l → i ≤ 9 → (0 ≤ n ∧ n < 128 ^ i) → (i ≤ 8 → u = 128 ^ i) → l.length < k → DQ (nz a i n l) 0 id (mx a k n u i ⟨kT l, 0⟩)
 | [], i, n, u, k + 1, _, hi, _, _, _ => by
  rw [mx]
  unfold nz
  by_cases o : i = 9
  ·subst o; exact ⟨by simp, _, rfl⟩
  ·have j : ¬ ((i : Int) = 9) := by omega
   refine ⟨by simp [o], kT [], ?_⟩
   simp only [eP, j, o, aq]
   rw [aj (by rw [Mc, kK])]
 | c :: l, i, n, u, k + 1, y, hi, O, hu, hk => by
  have z := y c (List.mem_cons_self ..)
  rw [mx]
  unfold nz
  by_cases o : i = 9
  ·subst o; exact ⟨by decide, _, rfl⟩
  ·have j : ¬ ((i : Int) = 9) := by omega
   have v := hu (by omega)
   have hp := Jp n c i O
   have w : yX (kT (c :: l)) 0 = some c.toNat.toUInt8 := Lx (A := []) (B := vP l) (by rw [uE]; rfl) 0 rfl
   have P : DR (kT (c :: l)) 1 ((kT (c :: l)).size : Int) = some (kT l) := KG (c :: l) 1 (by decide) (by simp; omega)
   have hw : wi0 .i64 ((c.toNat.toUInt8.toNat : Nat) : Int) = c := by rw [Uq c z, kp (by omega) (by omega)]
   have hm : Int.tmod c 128 = c % 128 := Int.tmod_eq_emod_of_nonneg z.1
   have J : (128 : Int) ^ i ≤ 72057594037927936 := by
    have : (128 : Nat) ^ i ≤ 128 ^ 8 := gj (by decide) (by omega)
    have t : (128 : Nat) ^ 8 = 72057594037927936 := by decide
    rw [t] at this
    rw [show (128 : Int) ^ i = ((128 ^ i : Nat) : Int) by simp]
    omega
   have g : (0 : Int) < 128 ^ i := Int.pow_pos (by decide)
   have hmul : c % 128 * 128 ^ i ≤ 127 * 128 ^ i := fW (by omega) (iQ g)
   have M : 0 ≤ c % 128 * 128 ^ i := Int.mul_nonneg (by omega) (iQ g)
   have D : wi0 .i64 (c % 128 * 128 ^ i) = c % 128 * 128 ^ i := kp (by omega) (by omega)
   have F : wi0 .i64 (n + c % 128 * 128 ^ i) = n + c % 128 * 128 ^ i := kp (by omega) (by omega)
   have G : wi0 .i64 ((i : Int) + 1) = ((i + 1 : Nat) : Int) := by rw [kp (by omega) (by omega)]; simp
   have g0 : (¬ ((i : Int) == 9) = true) := by simpa using j
   rw [ai g0, ai o, ai (show ¬ (ke (kT (c :: l)) zS = true) by rw [Ke]; decide)]
   simp only [w, P, aa, hw, hm, v, D, F, G]
   by_cases q : c = 0 ∧ 0 < i
   ·have s : (if (c == 0) = true then some (decide ((i : Int) > 0)) else some false : Option Bool) = some true := by
     rw [aj (by simp [q.1]), decide_eq_true (by omega)]
    rw [s, aj q]
    exact ⟨by decide, _, rfl⟩
   ·have s : (if (c == 0) = true then some (decide ((i : Int) > 0)) else some false : Option Bool) = some false := by
     by_cases m : c = 0
     ·rw [aj (by simp [m]), eO (fun h => q ⟨m, by omega⟩)]
     ·rw [ai (by simpa using m)]
    rw [s, ai q]
    simp only [aa, ae, aq]
    by_cases d : c < 128
    ·simp only [d, cK, aD]
     by_cases p : n + c % 128 * 128 ^ i > a
     ·simp only [p, cK, aD]; exact ⟨by decide, _, rfl⟩
     ·simp only [p, cZ, aq, ae]; rfl
    ·simp only [d, cZ, aq, ae]
     refine HV a l (i + 1) _ _ k (fun x w => y x (cI _ w)) (by omega) hp (fun L => ?_) (by simp only [aA] at hk; omega)
     have I : (128 : Int) ^ i ≤ 562949953421312 := by
      have : (128 : Nat) ^ i ≤ 128 ^ 7 := gj (by decide) (by omega)
      have t : (128 : Nat) ^ 7 = 562949953421312 := by decide
      rw [t] at this
      rw [show (128 : Int) ^ i = ((128 ^ i : Nat) : Int) by simp]
      omega
     rw [Int.pow_succ, kp (by omega) (by omega)]
theorem MB (l : List Int) (a : B8 l) (c : l.length ≤ 1000000) : DQ (nz wi 0 0 l) 0 id (kd ⟨kT l, 0⟩ 9223372036854775807) := by
 unfold kd
 rw [ai (show ¬ (((0 : Int) != 0) = true) by decide)]
 exact HV wi l 0 0 1 jX a (by omega) (by decide) (fun _ => by simp) (by rw [nG]; omega)
theorem Fj (S : ByteArray) (e a : Int) (he : e ≠ 0) : kd ⟨S, e⟩ a = some (0, ⟨S, e⟩) := by
 unfold kd; rw [aj (by simpa using he)]
theorem Pe (S : ByteArray) (e a : Int) (he : e ≠ 0) : mZ ⟨S, e⟩ a = some (zS, ⟨S, e⟩) := by
 unfold mZ; rw [Fj S e _ he, aa, aj (by simpa using he)]
theorem Pj (l : List Int) (a : Int) (t : B8 l) (u : l.length ≤ 1000000) : DQ (zK a l) zS kT (mZ ⟨kT l, 0⟩ a) := by
 unfold mZ zK
 have h := MB l t u
 have i := oC wi l 0 0
 have g := Fp wi l 0 0
 cases d : nz wi 0 0 l with
 | inl e =>
  rw [d] at h
  obtain ⟨he, S, j⟩ := h
  rw [j, aa, aj (by simpa using he)]
  exact ⟨he, S, rfl⟩
 | inr q =>
  obtain ⟨n, c⟩ := q
  rw [d] at h
  have j : kd ⟨kT l, 0⟩ 9223372036854775807 = some (n, (⟨kT c, 0⟩ : jr)) := h
  obtain ⟨k, hk⟩ := i n c d
  have o := (g n c ⟨by decide, by decide⟩ d).1
  rw [j, aa, ai (by simp)]
  simp only [lb, xW]
  by_cases h1 : n > a
  ·simp only [h1, cK, aD]; exact ⟨by decide, _, rfl⟩
  ·by_cases p : n > (c.length : Int)
   ·simp only [h1, p, cK, cZ, aD, aq, ae]; exact ⟨by decide, _, rfl⟩
   ·have s := Pg c n o (by omega)
    have m := KG c n o (by omega)
    rw [xW] at m
    simp only [h1, p, cZ, aq, ae, s, m, aa]; rfl
theorem xT (S : ByteArray) (e : Int) (he : e ≠ 0) : lP ⟨S, e⟩ = some (zS, ⟨S, e⟩) := by
 unfold lP; rw [Pe S e _ he, aa, ai (by simpa using he)]
 simp only [aa, ae, aq]
 rw [aj (by simpa using he)]
theorem Bj (l : List Int) (d : B8 l) (g : l.length ≤ 1000000) : DQ (qR l) zS id (lP ⟨kT l, 0⟩) := by
 unfold lP qR
 have h := Pj l 16 d g
 cases c : zK 16 l with
 | inl e =>
  rw [c] at h
  obtain ⟨he, S, a⟩ := h
  rw [a, aa, ai (by simpa using he)]
  simp only [aa, ae, aq]
  rw [aj (by simpa using he)]
  exact ⟨he, S, rfl⟩
 | inr q =>
  obtain ⟨t, i⟩ := q
  rw [c] at h
  have a : mZ ⟨kT l, 0⟩ 16 = some (kT t, (⟨kT i, 0⟩ : jr)) := h
  rw [a, aa, aj (by rfl), tz]
  simp only [aa, lb]
  cases a : kR (kT t)
  ·simp only [bP, aD, aa, aq, ae]; exact ⟨by decide, _, rfl⟩
  ·simp only [aU, aD, aa, aq, ae]; rfl
abbrev Dd : ja := ⟨zS, zS⟩
theorem A0 (S : ByteArray) (e : Int) (he : e ≠ 0) : lK ⟨S, e⟩ = some (Dd, ⟨S, e⟩) := by
 unfold lK; rw [xT S e he, aa, xT S e he, aa, aj (by simpa using he)]
theorem Df (l : List Int) (j : B8 l) (k : l.length ≤ 1000000) : DQ (od l) Dd id (lK ⟨kT l, 0⟩) := by
 unfold lK od
 have h := Bj l j k
 cases i : qR l with
 | inl e =>
  rw [i] at h
  obtain ⟨he, S, c⟩ := h
  rw [c, aa, xT S e he, aa, aj (by simpa using he)]
  exact ⟨he, S, rfl⟩
 | inr q =>
  obtain ⟨a, g⟩ := q
  rw [i] at h
  have c : lP ⟨kT l, 0⟩ = some (a, (⟨kT g, 0⟩ : jr)) := h
  obtain ⟨h1, n⟩ := j.part k (uj l) i
  have d := Bj g h1 n
  rw [c, aa]
  simp only [lb]
  cases m : qR g with
  | inl e =>
   rw [m] at d
   obtain ⟨he, S, c⟩ := d
   rw [c, aa, aj (by simpa using he)]
   exact ⟨he, S, rfl⟩
  | inr q =>
   obtain ⟨b, o⟩ := q
   rw [m] at d
   have c : lP ⟨kT g, 0⟩ = some (b, (⟨kT o, 0⟩ : jr)) := d
   rw [c, aa, ai (by simp)]; rfl
abbrev RE : jb := ⟨0, (⟨zS, zS⟩ : ja), zS, (⟨zS, zS⟩ : ja), (⟨zS, zS⟩ : ja), zS⟩
noncomputable def Fc (k : Int) (h : ja) (t : jr) : Option (jb × jr) :=
 (if (k == 1) then ((lP t).bind fun d => some ((⟨k, h, d.1, (⟨zS, zS⟩ : ja), (⟨zS, zS⟩ : ja), zS⟩ : jb), d.2)) else (((if (k == 2) then some (k == 2) else (if (k == 3) then some (k == 3) else some (k == 4))) : Option Bool).bind fun m => (if m then ((lK t).bind fun c => (((if (k == 3) then ((lP c.2).bind fun i => some ((⟨k, h, zS, c.1, (⟨zS, zS⟩ : ja), i.1⟩ : jb), i.2)) else some ((⟨k, h, zS, c.1, (⟨zS, zS⟩ : ja), zS⟩ : jb), c.2)) : Option (jb × jr)).bind fun (a, j) => (if (a.Kind == 4) then ((lK j).bind fun g => some ((⟨a.Kind, a.Head, a.jL, a.B, g.1, a.kk⟩ : jb), g.2)) else some (a, j)))) else some ((⟨k, h, zS, (⟨zS, zS⟩ : ja), (⟨zS, zS⟩ : ja), zS⟩ : jb), t))))
theorem Kg (k : Int) (h : ja) (S : ByteArray) (e : Int) (he : e ≠ 0) : ∃ c, Fc k h ⟨S, e⟩ = some (c, ⟨S, e⟩) := by
 unfold Fc
 rw [xT S e he, A0 S e he]
 by_cases h1 : k = 1
 ·exact ⟨_, by rw [aj (by simpa using h1)]; rfl⟩
 rw [ai (by simpa using h1)]
 by_cases j : k = 2
 ·subst j; exact ⟨_, rfl⟩
 by_cases m : k = 3
 ·subst m
  refine ⟨⟨3, h, zS, Dd, Dd, zS⟩, ?_⟩
  show (((lP (⟨S, e⟩ : jr)).bind fun g => some ((⟨3, h, zS, Dd, (⟨zS, zS⟩ : ja), g.1⟩ : jb), g.2) : Option (jb × jr)).bind fun (a, i) => (if (a.Kind == 4) then ((lK i).bind fun d => some ((⟨a.Kind, a.Head, a.jL, a.B, d.1, a.kk⟩ : jb), d.2)) else some (a, i))) = _
  rw [xT S e he]
  rfl
 by_cases n : k = 4
 ·subst n
  refine ⟨⟨4, h, zS, Dd, Dd, zS⟩, ?_⟩
  show ((lK (⟨S, e⟩ : jr)).bind fun d => some ((⟨4, h, zS, Dd, d.1, zS⟩ : jb), d.2)) = _
  rw [A0 S e he]
  rfl
 ·refine ⟨⟨k, h, zS, Dd, Dd, zS⟩, ?_⟩
  rw [ai (show ¬ ((k == 2) = true) by simpa using j), ai (show ¬ ((k == 3) = true) by simpa using m)]
  have : (k == 4) = false := by simpa using n
  rw [this]
  rfl
def Ut (x : Int ⊕ (jb × List Int)) (r : Option (jb × jr)) : Prop := match x with
 | .inl e => e ≠ 0 ∧ ∃ c S, r = some (c, (⟨S, e⟩ : jr))
 | .inr q => r = some (q.1, (⟨kT q.2, 0⟩ : jr))
theorem RY (k : Int) (hk : 1 ≤ k ∧ k ≤ 4) (h : ja) (l : List Int) (t : B8 l) (u : l.length ≤ 1000000) : Ut (ym k h l) (Fc k h ⟨kT l, 0⟩) := by
 unfold Fc ym
 have p := Bj l t u
 have s := Df l t u
 by_cases h1 : k = 1
 ·subst h1
  simp only [aO, aD]
  cases i : qR l with
  | inl e => rw [i] at p; obtain ⟨he, S, d⟩ := p; rw [d]; exact ⟨he, _, S, rfl⟩
  | inr q => rw [i] at p; have d : _ = some _ := p; rw [d]; rfl
 have y : (if (k == 2) = true then some (k == 2) else if (k == 3) = true then some (k == 3) else some (k == 4) : Option Bool) = some true := by
  have : k = 2 ∨ k = 3 ∨ k = 4 := by omega
  rcases this with rfl | rfl | rfl <;> rfl
 rw [ai h1, ai (show ¬ ((k == 1) = true) by simpa using h1), y]
 simp only [aa, aD]
 cases i : od l with
 | inl e =>
  rw [i] at s
  obtain ⟨he, S, d⟩ := s
  rw [d, aa]
  simp only [lb, ite_self]
  simp only [xT S e he, aa]
  by_cases n : k = 3
  ·subst n; exact ⟨he, _, S, rfl⟩
  rw [ai (by simpa using n)]
  simp only [aa]
  by_cases o : k = 4
  ·subst o; simp only [aO, aD, A0 S e he, aa]; exact ⟨he, _, S, rfl⟩
  ·rw [ai (by simpa using o)]; exact ⟨he, _, S, rfl⟩
 | inr q =>
  obtain ⟨b, m⟩ := q
  rw [i] at s
  have d : lK ⟨kT l, 0⟩ = some (b, (⟨kT m, 0⟩ : jr)) := s
  obtain ⟨w, x⟩ := t.part u (pH l) i
  have a := Bj m w x
  have c := Df m w x
  rw [d, aa]
  simp only [lb]
  by_cases v : k = 2
  ·subst v; rfl
  rw [ai v]
  by_cases n : k = 3
  ·subst n
   simp only [aO, aD]
   cases j : qR m with
   | inl e => rw [j] at a; obtain ⟨he, S, g⟩ := a; rw [g]; exact ⟨he, _, S, rfl⟩
   | inr q => rw [j] at a; have g : _ = some _ := a; rw [g]; rfl
  have o : k = 4 := by omega
  subst o
  rw [ai (by decide), ai (by decide)]
  simp only [aa, aO, aD]
  cases j : od m with
  | inl e => rw [j] at c; obtain ⟨he, S, g⟩ := c; rw [g]; exact ⟨he, _, S, rfl⟩
  | inr q => rw [j] at c; have g : _ = some _ := c; rw [g]; rfl
noncomputable def KJ (d : jb) (a : jr) : Option (jb × jr) :=
 (((((if (a.E == 0) then ((pK d).bind fun g => some (!g)) else some false) : Option Bool).bind fun h => (if h then some (⟨a.S, 11⟩ : jr) else some a)) : Option jr).bind fun c => (if (c.E != 0) then some ((⟨0, (⟨zS, zS⟩ : ja), zS, (⟨zS, zS⟩ : ja), (⟨zS, zS⟩ : ja), zS⟩ : jb), c) else some (d, c)))
theorem Jd (c : jb) (S : ByteArray) (e : Int) (he : e ≠ 0) : KJ c ⟨S, e⟩ = some (RE, ⟨S, e⟩) := by
 unfold KJ
 rw [ai (by simpa using he)]
 simp only [aa, ae, aq]
 rw [aj (by simpa using he)]
theorem Tp (c : jb) (S : ByteArray) : KJ c ⟨S, 0⟩ = some (if kc c = true then (c, ⟨S, 0⟩) else (RE, ⟨S, 11⟩)) := by
 unfold KJ
 rw [aj (by rfl), rk]
 cases kc c <;> rfl
theorem GB (a0 : jr) : vG a0 = ((kd a0 9223372036854775807).bind fun a => (((((if (a.2.E == 0) then (((if (decide (a.1 < 1)) then some true else some (decide (a.1 > 4))) : Option Bool).bind fun g => some g) else some false) : Option Bool).bind fun d => (if d then some (⟨a.2.S, 11⟩ : jr) else some a.2)) : Option jr).bind fun h => ((lK h).bind fun c => (Fc a.1 c.1 c.2).bind fun q => KJ q.1 q.2))) := rfl
theorem PP (l : List Int) (t : B8 l) (u : l.length ≤ 1000000) : DQ (zD l) RE id (vG ⟨kT l, 0⟩) := by
 rw [GB]
 unfold zD
 have h := MB l t u
 cases o : nz wi 0 0 l with
 | inl e =>
  rw [o] at h
  obtain ⟨he, S, a⟩ := h
  rw [a, aa, ai (by simpa using he)]
  simp only [aa, ae, aq]
  rw [A0 S e he, aa]
  obtain ⟨c, i⟩ := Kg 0 Dd S e he
  rw [i, aa, Jd _ _ _ he]
  exact ⟨he, S, rfl⟩
 | inr q =>
  obtain ⟨k, g⟩ := q
  rw [o] at h
  have a : kd ⟨kT l, 0⟩ 9223372036854775807 = some (k, (⟨kT g, 0⟩ : jr)) := h
  obtain ⟨h1, s⟩ := t.part u (oC wi l 0 0) o
  rw [a, aa, aj (by rfl)]
  simp only [lb]
  by_cases hk : k < 1 ∨ 4 < k
  ·have n : (if decide (k < 1) = true then some true else some (decide (k > 4)) : Option Bool) = some true := by
    by_cases h : k < 1 <;> simp [h]; omega
   rw [n, aj hk]
   simp only [aa, aD]
   rw [A0 _ 11 (by decide), aa]
   obtain ⟨c, i⟩ := Kg k Dd (kT g) 11 (by decide)
   rw [i, aa, Jd _ _ _ (by decide)]
   exact ⟨by decide, _, rfl⟩
  ·have n : (if decide (k < 1) = true then some true else some (decide (k > 4)) : Option Bool) = some false := by
    rw [ai (by simp; omega)]; simp; omega
   rw [n, ai hk]
   simp only [aa, aq, ae]
   have j := Df g h1 s
   cases p : od g with
   | inl e =>
    rw [p] at j
    obtain ⟨he, S, a⟩ := j
    rw [a, aa]
    obtain ⟨c, i⟩ := Kg k Dd S e he
    rw [i, aa, Jd _ _ _ he]
    exact ⟨he, S, rfl⟩
   | inr q =>
    obtain ⟨b, m⟩ := q
    rw [p] at j
    have a : lK ⟨kT g, 0⟩ = some (b, (⟨kT m, 0⟩ : jr)) := j
    obtain ⟨w, x⟩ := h1.part s (pH g) p
    rw [a, aa]
    simp only
    have d := RY k (by omega) b m w x
    cases v : ym k b m with
    | inl e =>
     rw [v] at d
     obtain ⟨he, c, S, a⟩ := d
     rw [a, aa, Jd _ _ _ he]
     exact ⟨he, S, rfl⟩
    | inr q =>
     obtain ⟨c, y⟩ := q
     rw [v] at d
     have a : Fc k b ⟨kT m, 0⟩ = some (c, (⟨kT y, 0⟩ : jr)) := d
     rw [a, aa, Tp]
     simp only
     cases kc c
     ·exact ⟨by decide, _, rfl⟩
     ·rfl
section
variable {α : Type}
structure SWO (lt : α → α → Bool) : Prop where
 UH : ∀ x, lt x x = false
 tr : ∀ x y z, lt x y = true → lt y z = true → lt x z = true
 UI : ∀ x y z, lt x z = true → lt x y = true ∨ lt y z = true
variable {lt : α → α → Bool}
def Ul (lt : α → α → Bool) (l : List α) (k : α) : List α := l.filter (fun x => !lt k x) ++ k :: l.filter (fun x => lt k x)
def Uk (lt : α → α → Bool) (l : List α) : List α := l.foldl (Ul lt) []
end
section
variable {c : Formula → Formula → Int} {G : Formula → Prop} {f : Formula × Formula → Option Int}
abbrev Uz (c : Formula → Formula → Int) (x y : Formula) : Bool := decide (c x y < 0)
end
section
variable {c : Formula → Formula → Int} {G : Formula → Prop} {f : Formula × Formula → Option Int}
abbrev Ask (a0 : List Formula) (f : Formula × Formula → Option Int) (p q : Int) (b : Bool) : Prop := ∃ x y r, kN a0 p = some x ∧ kN a0 q = some y ∧ f (x, y) = some r ∧ decide (r < 0) = b
end
section
variable {c : Formula → Formula → Int} {G : Formula → Prop} {f : Formula × Formula → Option Int}
def fm (a : List (List (Formula × Nat))) : List Formula := a.flatten.map (·.1)
end
theorem RD {P : Formula → Prop} (h : ∀ f, (∀ k ∈ f.Kids, P k) → P f) : ∀ f, P f := by
 intro f
 refine Formula.rec (motive_1 := P) (motive_2 := fun c => ∀ k ∈ c, P k) ?_ ?_ ?_ f
 ·intro o k r c ih; exact h _ ih
 ·intro k hk; cases hk
 ·intro k c h1 d x a
  rcases aB.1 a with rfl | a
  ·exact h1
  ·exact d x a
mutual
def la : Formula → Nat
 | ⟨_, _, _, ks⟩ => 1 + nodesL ks
def nodesL : List Formula → Nat
 | [] => 0
 | k :: ks => la k + nodesL ks
end
mutual
def nX : Formula → Nat
 | ⟨_, _, _, ks⟩ => deepL ks + 1
def deepL : List Formula → Nat
 | [] => 0
 | k :: ks => max (nX k) (deepL ks)
end
theorem sW (f : Formula) : la f = 1 + nodesL f.Kids := by cases f; rw [la]
theorem nM (f : Formula) : nX f = deepL f.Kids + 1 := by cases f; rw [nX]
theorem wG : ∀ {a : List Formula} {k : Formula}, k ∈ a → la k ≤ nodesL a
 | x :: a, k, h => by
  rw [nodesL]
  rcases aB.1 h with rfl | h
  ·omega
  ·have := wG h; omega
theorem vp : ∀ {a : List Formula} {k : Formula}, k ∈ a → nX k ≤ deepL a
 | x :: a, k, h => by
  rw [deepL]
  rcases aB.1 h with rfl | h
  ·omega
  ·have := vp h; omega
theorem AX : ∀ f : Formula, nX f ≤ la f := by
 refine RD fun f ih => ?_
 rw [nM, sW]
 have : ∀ a : List Formula, (∀ k ∈ a, nX k ≤ la k) → deepL a ≤ nodesL a := by
  intro a
  induction a with
  | nil => intro _; rw [deepL]; omega
  | cons k a c =>
   intro h
   have := c (fun x d => h x (by simp [d]))
   have := h k (by simp)
   rw [deepL, nodesL]; omega
 have := this f.Kids ih
 omega
theorem Ek : ∀ a : List Formula, a.length ≤ nodesL a
 | [] => by rw [nodesL]; simp
 | k :: a => by have := Ek a; have := sW k; rw [nodesL, aA]; omega
theorem NL (a : Nat) (hm : a ≤ 4096) (rec : Formula → Int → Option (Int × Int)) : ∀ (c : List Formula), (∀ k ∈ c, ∀ q : Nat, q ≤ 4096 → ∃ n d : Nat, rec k (q : Int) = some ((n : Int), (d : Int)) ∧ 1 ≤ n ∧ n ≤ la k ∧ d ≤ la k ∧ (la k ≤ q → n = la k ∧ d = nX k) ∧ (q < la k → q < n)) → ∀ x y : Nat, x + nodesL c ≤ 100000000 →
  ∃ n d : Nat, oK (a : Int) rec c (x : Int) (y : Int) = some ((n : Int), (d : Int)) ∧ x ≤ n ∧ n ≤ x + nodesL c ∧ d ≤ max y (nodesL c) ∧ (x + nodesL c ≤ a → n = x + nodesL c ∧ d = max y (deepL c)) ∧ (a < x + nodesL c → a < n)
 | [], _, x, y, _ => by
  rw [oK, nodesL, deepL]
  exact ⟨x, y, rfl, by omega, by omega, by omega, fun _ => ⟨by omega, by omega⟩, fun h => by omega⟩
 | k :: c, i, x, y, s => by
  rw [nodesL] at s ⊢
  rw [oK, deepL]
  by_cases j : (x : Int) > (a : Int)
  ·simp only [j, cK, aD]
   exact ⟨x, y, rfl, by omega, by omega, by omega, fun _ => by omega, fun h => by omega⟩
  ·simp only [j, cZ, ae, aq]
   have u : wi0 .i64 ((a : Int) - (x : Int)) = ((a - x : Nat) : Int) := by rw [kp (by omega) (by omega)]; omega
   obtain ⟨m, d, e, h1, A, D, g, p⟩ := i k (by simp) (a - x) (by omega)
   rw [u, e, aa]
   have v : wi0 .i64 ((x : Int) + (m : Int)) = ((x + m : Nat) : Int) := by rw [kp (by omega) (by omega)]; omega
   have w : (if (d : Int) > (y : Int) then (d : Int) else (y : Int)) = ((max y d : Nat) : Int) := by split <;> omega
   simp only [v, w]
   obtain ⟨n, o, e', g1, g2, g3, g4, g5⟩ := NL a hm rec c (fun z t => i z (by simp [t])) (x + m) (max y d) (by omega)
   refine ⟨n, o, e', by omega, by omega, by omega, fun h => ?_, fun h => ?_⟩
   ·obtain ⟨rfl, rfl⟩ := g (by omega)
    obtain ⟨rfl, rfl⟩ := g4 (by omega)
    exact ⟨by omega, by omega⟩
   ·by_cases hk : a - x < la k
    ·have := p hk; omega
    ·obtain ⟨rfl, _⟩ := g (by omega)
     exact g5 (by omega)
theorem P5 : ∀ (n : Nat) (f : Formula), nX f ≤ n → la f ≤ 50000000 → ∀ q : Nat, q ≤ 4096 → ∃ m d : Nat, nx n f (q : Int) = some ((m : Int), (d : Int)) ∧ 1 ≤ m ∧ m ≤ la f ∧ d ≤ la f ∧ (la f ≤ q → m = la f ∧ d = nX f) ∧ (q < la f → q < m) := by
 intro n
 induction n with
 | zero => intro f h; rw [nM] at h; omega
 | succ n ih =>
  intro f i t q a
  rw [nM] at i
  have j := sW f
  rw [nx]
  unfold vr
  obtain ⟨m, d, e, h1, p, s, c, g⟩ := NL q a (nx n) f.Kids (fun k hk q a => ih k (by have := vp hk; omega) (by have := wG hk; omega) q a) 1 0 (by omega)
  have e' : oK (q : Int) (nx n) f.Kids 1 0 = some ((m : Int), (d : Int)) := e
  rw [e', aa]
  have o : wi0 .i64 ((d : Int) + 1) = ((d + 1 : Nat) : Int) := by rw [kp (by omega) (by omega)]; omega
  simp only [o]
  refine ⟨m, d + 1, rfl, h1, by omega, by omega, fun h => ?_, fun h => g (by omega)⟩
  obtain ⟨rfl, rfl⟩ := c (by omega)
  rw [nM]
  exact ⟨by omega, by omega⟩
theorem Q4 (f : Formula) (g : la f ≤ 50000000) : w4 f = some (if la f ≤ 4096 then ((la f : Int), (nX f : Int)) else (0, 0)) := by
 unfold w4
 have := AX f
 obtain ⟨m, d, e, h1, i, j, a, c⟩ := P5 jX f (by rw [qv]; omega) g 4096 (aM _)
 have e' : nx jX f 4096 = some ((m : Int), (d : Int)) := e
 rw [e', aa]
 by_cases h : la f ≤ 4096
 ·obtain ⟨rfl, rfl⟩ := a h
  have : ¬ ((la f : Int) > 4096) := by omega
  simp [this, h]
 ·have := c (by omega)
  have : ((m : Int) > 4096) := by omega
  simp [this, h]
def yL : ja := ⟨zS, zS⟩
def Fq (f : Formula) : Bool := if f.Op = 1 then kB f.ja && decide (f.Kids.length = 0) && decide (f.K = 0) else if f.Op = 2 ∨ f.Op = 3 then jt f.ja yL && decide (f.K = 0) else decide (f.Op = 4) && jt f.ja yL && decide (0 ≤ f.K) && decide (f.K ≤ (f.Kids.length : Int)) && decide (1 ≤ f.Kids.length)
theorem Ri (f : Formula) : wW f = some (Fq f) := by
 unfold wW Fq
 simp only [rY, aa, sR]
 by_cases h1 : f.Op = 1
 ·simp only [h1, aO, aD]
  cases o : kB f.ja
  ·simp
  ·by_cases j : f.Kids.length = 0
   ·have : f.Kids = [] := aX j
    by_cases hk : f.K = 0 <;> simp [this, hk]
   ·have : ((f.Kids.length : Int) == 0) = false := by simp; intro h; exact j (by simp [h])
    simp only [aD, aa, this, ae, aq, j, cZ, Bool.and_false, Bool.false_and]
 ·have m : (f.Op == 1) = false := by simpa using h1
  simp only [m, ae, aq, h1]
  by_cases c : f.Op = 2 ∨ f.Op = 3
  ·have g : (if f.Op == 2 then some (f.Op == 2) else some (f.Op == 3)) = some true := by
    rcases c with h | h <;> simp [h]
   simp only [g, aa, aD, c]
   cases d : jt f.ja ⟨zS, zS⟩ <;> by_cases hk : f.K = 0 <;> simp [yL, d, hk]
  ·have g : (if f.Op == 2 then some (f.Op == 2) else some (f.Op == 3)) = some false := by
    have a : f.Op ≠ 2 := fun h => c (.inl h)
    have b : f.Op ≠ 3 := fun h => c (.inr h)
    simp [a, b]
   simp only [g, aa, ae, aq, c]
   by_cases i : f.Op = 4
   ·simp only [i, aO, aD, aa, cK, cV]
    cases d : jt f.ja ⟨zS, zS⟩
    ·simp [yL, d]
    ·by_cases c1 : 0 ≤ f.K <;> by_cases c2 : f.K ≤ (f.Kids.length : Int) <;> by_cases k : 1 ≤ f.Kids.length <;> simp [yL, d, c1, c2, k] <;> omega
   ·have n : (f.Op == 4) = false := by simpa using i
    simp [n, i]
mutual
def yI : Formula → Bool
 | ⟨o, n, r, ks⟩ => Fq ⟨o, n, r, ks⟩ && decide (ks.length ≤ 8) && wellL ks
def wellL : List Formula → Bool
 | [] => true
 | k :: ks => yI k && wellL ks
end
theorem Kz (f : Formula) : yI f = (Fq f && decide (f.Kids.length ≤ 8) && wellL f.Kids) := by cases f; rw [yI]
theorem Ir : ∀ a : List Formula, wellL a = a.all yI
 | [] => rfl
 | k :: a => by rw [wellL, Ir a]; rfl
theorem Ka (f : Formula → Option Bool) : ∀ (l : List Formula) (i : Nat), mi f l i = vZ f l i
 | [], i => by rw [mi]; rfl
 | x :: l, i => by
  rw [mi, vZ]
  cases f x with
  | none => rfl
  | some b =>
   simp only [aa]
   rw [Ka f l (i + 1)]
theorem Lg (f : Formula → Option Bool) (p : Formula → Bool) (l : List Formula) (h : ∀ x ∈ l, f x = some (p x)) : mY l f = some (l.any p) := by
 unfold mY sw
 rw [Ka]
 rcases Bf f p l 0 h with ⟨e, h1⟩ | ⟨A, x, B, rfl, h1, a, e⟩
 ·rw [e, aa]
  have : l.any p = false := by rw [List.any_eq_false]; intro x c; rw [h1 x c]; simp
  rw [this]; rfl
 ·rw [e, aa]
  have : (A ++ x :: B).any p = true := by simp [a]
  rw [this]
  congr 1
theorem Pv : ∀ (n : Nat) (f : Formula), nX f ≤ n → qy n f = some (yI f) := by
 intro n
 induction n with
 | zero => intro f h; rw [nM] at h; omega
 | succ n ih =>
  intro f h
  rw [nM] at h
  rw [qy]
  unfold vx
  rw [Ri, aa, Kz, Lg _ (fun k => !yI k) f.Kids (fun k hk => by unfold ui; rw [ih k (by have := vp hk; omega)]; rfl)]
  rw [Ir]
  have e : (!(f.Kids.any fun k => !yI k)) = f.Kids.all yI := by rw [List.all_eq_not_any_not]
  cases Fq f
  ·rfl
  ·by_cases a : f.Kids.length ≤ 8
   ·have : ((f.Kids.length : Int) ≤ 8) := by omega
    simp [a, this, e]
   ·have : ¬ ((f.Kids.length : Int) ≤ 8) := by omega
    simp [a, this]
def yu (f : Formula) : Bool := decide (la f ≤ 64) && decide (nX f ≤ 6) && yI f
theorem KV (f : Formula) (c : la f ≤ 50000000) : po f = some (yu f) := by
 unfold po yu
 have d := AX f
 rw [Q4 f c, aa, Pv jX f (by rw [qv]; omega)]
 have h1 := sW f
 by_cases h : la f ≤ 4096
 ·simp only [h, aD]
  have a : ((la f : Int) ≥ 1) := by omega
  simp only [a, cK, aD, aa, sR]
  by_cases c1 : la f ≤ 64 <;> by_cases c2 : nX f ≤ 6
  ·have d1 : ((la f : Int) ≤ 64) := by omega
   have d2 : ((nX f : Int) ≤ 6) := by omega
   simp [c1, c2, d1, d2]
  ·have d1 : ((la f : Int) ≤ 64) := by omega
   have d2 : ¬ ((nX f : Int) ≤ 6) := by omega
   simp [c1, c2, d1, d2]
  ·have d1 : ¬ ((la f : Int) ≤ 64) := by omega
   simp [c1, d1]
  ·have d1 : ¬ ((la f : Int) ≤ 64) := by omega
   simp [c1, d1]
 ·simp only [h, aq]
  have : ¬ la f ≤ 64 := by omega
  simp [this]
theorem Formula.ext' {a b : Formula} (h1 : a.Op = b.Op) (c : a.K = b.K) (d : a.ja = b.ja) (g : a.Kids = b.Kids) : a = b := by
 cases a; cases b; simp only at h1 c d g; subst h1 c d g; rfl
mutual
def Oh : Formula → List Int
 | ⟨o, k, r, ks⟩ => o :: (if o = 1 then nf r else (if o = 4 then [k] else []) ++ ((ks.length : Int) :: bytesFL ks))
def bytesFL : List Formula → List Int
 | [] => []
 | k :: ks => Oh k ++ bytesFL ks
end
def TP (f : Formula) : List Int := if yu f then Oh f else []
abbrev Gd (f : Formula) : Prop := la f ≤ 50000000
def UE (f g : Formula) : Int := xY (TP f) (TP g)
def RS (l : List Formula) : List Formula := Uk (Uz UE) l
noncomputable def UG (a b : Formula) : Bool := @decide (a = b) (Classical.propDecidable _)
def G7 (op : Int) (f : Formula) : Bool := decide (f.Op = op) && f.Kids.isEmpty
def MQ (op : Int) : List Formula → List Formula
 | [] => []
 | k :: a => (if k.Op = op then k.Kids else [k]) ++ MQ op a
noncomputable def HF (op : Int) (a : List Formula) : Formula :=
 if (MQ op a).any (G7 (5 - op)) then ⟨5 - op, 0, yL, []⟩ else
  match dd UG (RS (MQ op a)) with
  | [x] => x
  | r => ⟨op, 0, yL, r⟩
noncomputable def P7 (k : Int) (a : List Formula) : Formula :=
 let n := k - ((a.filter (G7 2)).length : Int)
 let l := a.filter fun x => !G7 2 x && !G7 3 x
 if n ≤ 0 then ⟨2, 0, yL, []⟩ else if n > (l.length : Int) then ⟨3, 0, yL, []⟩ else if n = (l.length : Int) then HF 2 l else if n = 1 then HF 3 l else ⟨4, n, yL, RS l⟩
mutual
noncomputable def SD : Formula → Formula
 | ⟨o, k, r, ks⟩ => if o = 1 then ⟨o, k, r, ks⟩ else if o = 4 then P7 k (shapeL ks) else HF o (shapeL ks)
noncomputable def shapeL : List Formula → List Formula
 | [] => []
 | k :: ks => SD k :: shapeL ks
end
mutual
def DY (v : ja → Bool) : Formula → Bool
 | ⟨o, k, r, ks⟩ => if o = 1 then v r else if o = 2 then decide (evN v ks = ks.length) else if o = 3 then decide (0 < evN v ks) else decide (k ≤ (evN v ks : Int))
def evN (v : ja → Bool) : List Formula → Nat
 | [] => 0
 | k :: ks => (if DY v k then 1 else 0) + evN v ks
end
theorem Kv (v : ja → Bool) (f : Formula) : DY v f = if f.Op = 1 then v f.ja else if f.Op = 2 then decide (evN v f.Kids = f.Kids.length) else if f.Op = 3 then decide (0 < evN v f.Kids) else decide (f.K ≤ (evN v f.Kids : Int)) := by cases f; rw [DY]
theorem Es (v : ja → Bool) (f1 : ja → Option Bool) (rec : Formula → (ja → Option Bool) → Option Bool) (f : Formula) : ∀ (a : List Formula) (x : Nat), (∀ k ∈ a, rec k f1 = some (DY v k)) → x + a.length ≤ 100000000 →
  oJ rec f1 f a (x : Int) = some (if f.Op = 2 then decide (x + evN v a = f.Kids.length) else if f.Op = 3 then decide (0 < x + evN v a) else decide (f.K ≤ ((x + evN v a : Nat) : Int)))
 | [], x, _, _ => by
  rw [oJ, evN, iH]
  by_cases c2 : f.Op = 2
  ·simp only [c2, aO, aD]
   congr 1
   rw [aK, eP, bk]; omega
  ·have d : (f.Op == 2) = false := by simpa using c2
   simp only [d, ae, aq, c2]
   by_cases c : f.Op = 3
   ·simp only [c, aO, aD]
    congr 1
    rw [aK, bk, bk]; omega
   ·have i : (f.Op == 3) = false := by simpa using c
    simp only [i, ae, aq, c]
 | k :: a, x, h, j => by
  rw [aA] at j
  rw [oJ, h k (by simp), aa, evN]
  cases DY v k
  ·simp only [ae, aq]
   rw [Es v f1 rec f a x (fun z g => h z (by simp [g])) (by omega), bW]
  ·simp only [aD]
   have e : wi0 .i64 ((x : Int) + 1) = ((x + 1 : Nat) : Int) := by rw [kp (by omega) (by omega)]; omega
   rw [e, Es v f1 rec f a (x + 1) (fun z g => h z (by simp [g])) (by omega)]
   have d : x + 1 + evN v a = x + (1 + evN v a) := by omega
   rw [d]
theorem N2 (v : ja → Bool) (f1 : ja → Option Bool) (i : ∀ r, f1 r = some (v r)) : ∀ (n : Nat) (f : Formula), nX f ≤ n → Gd f → pn n f f1 = some (DY v f) := by
 intro n
 induction n with
 | zero => intro f h; rw [nM] at h; omega
 | succ n ih =>
  intro f c d
  rw [nM] at c
  have g := sW f
  have j := Ek f.Kids
  unfold Gd at d
  rw [pn]
  unfold vu
  rw [Kv]
  by_cases c1 : f.Op = 1
  ·simp only [c1, aO, aD, i, aa]
  ·have a : (f.Op == 1) = false := by simpa using c1
   simp only [a, ae, aq, c1]
   have := Es v f1 (pn n) f f.Kids 0 (fun k hk => ih k (by have := vp hk; omega) (by have := wG hk; unfold Gd; omega)) (by omega)
   simpa using this
def BB (v : ja → Bool) (f : Formula) : Bool := yu f && DY v f
theorem MK (v : ja → Bool) (f1 : ja → Option Bool) (a : ∀ r, f1 r = some (v r)) (f : Formula) (h : Gd f) : tf f f1 = some (BB v f) := by
 unfold tf BB
 rw [KV f h, aa]
 have := AX f
 cases yu f
 ·rfl
 ·unfold Gd at h
  simp only [aD, N2 v f1 a jX f (by rw [qv]; omega) h, aa, cV]
structure RR (l : List jb) (F : List jd) : Prop where
 len : F.length ≤ 900000000
 ref : AB l = some F
 UF : ∃ m, vt l = some m ∧ wg m.1 m.2.1 m.2.2.1 m.2.2.2.1 m.2.2.2.2.1 m.2.2.2.2.2 = some F ∧ ∀ r w, rl m.1 m.2.1 m.2.2.1 m.2.2.2.1 m.2.2.2.2.1 m.2.2.2.2.2 r w = some (nq lH F ⟨r, w⟩)
 xh : ∀ C : List jb, (∀ c, c ∈ C ↔ c ∈ l ∧ kc c = true) → AY (mE C) F
theorem Uo (l : List jb) (v : l.length ≤ 30000) : ∃ F, RR l F := by
 obtain ⟨F, h⟩ := RX l v
 refine ⟨F, h.Uh, h.ref, ?_, fun C s => ?_⟩
 ·obtain ⟨C, h1, d, q⟩ := h.C
  obtain ⟨C1, T, m, ws, n, o, m1, g, j⟩ := Qq l (by omega)
  have a : ∀ c, c ∈ C1 ↔ c ∈ C := fun c => by rw [d, g]
  have k : AY (mE C1) F := ⟨h1.1, fun f => (h1.2 f).trans (mE.congr a f).symm⟩
  have t : SM C1 := by unfold SM; omega
  refine ⟨_, o, ?_, fun r w => ?_⟩
  ·obtain ⟨F1, p, i⟩ := P9 t.small m1 C1 m ws [] n
   rw [← i.unique k]; exact p
  ·obtain ⟨b, e, u⟩ := RU m1 C1 m ws [] n r w
   rw [e, show b = nq lH F ⟨r, w⟩ from by rw [aK, u, nu lp, k.2]]
 ·obtain ⟨C', h1, d, q⟩ := h.C
  have a : ∀ c, c ∈ C' ↔ c ∈ C := fun c => by rw [d, s]
  exact ⟨h1.1, fun f => (h1.2 f).trans (mE.congr a f)⟩
theorem KF {α : Type} (f : α → Option Bool) (p : α → Bool) (l : List α) (h : ∀ x ∈ l, f x = some (p x)) : ((vZ f l 0).bind fun d => some (decide (d ≥ 0))) = some (l.any p) := by
 rcases Bf f p l 0 h with ⟨e, h1⟩ | ⟨A, x, B, rfl, h1, a, e⟩
 ·rw [e, aa]
  have : l.any p = false := by rw [List.any_eq_false]; intro x c; rw [h1 x c]; simp
  rw [this]; rfl
 ·rw [e, aa]
  have : (A ++ x :: B).any p = true := by simp [a]
  rw [this]
  congr 1
def vF (F : List jd) (peer : ByteArray) (r : ja) : Bool := nq lH F ⟨r, peer⟩
noncomputable def vD (l : List jb) (peer : ByteArray) (r : ja) : Bool := @decide (mE (l.filter kc) ⟨r, peer⟩) (Classical.propDecidable _)
theorem Sk (l : List jb) (peer : ByteArray) (r : ja) : vD l peer r = true ↔ mE (l.filter kc) ⟨r, peer⟩ := by unfold vD; simp
def sY : ja := ⟨⟨#[120]⟩, ⟨#[121]⟩⟩
def qh (r : ja) : Formula := ⟨1, 0, r, []⟩
theorem LX (v : ja → Bool) (r : ja) : DY v (qh r) = v r := by rw [Kv]; rfl
theorem JF : yu (qh sY) = true := by decide +kernel
theorem SB : ∀ (n : Nat) (f : Formula), nX f ≤ n → Gd f → vA n f = some (la f : Int) := by
 intro n
 induction n with
 | zero => intro f h; rw [nM] at h; omega
 | succ n ih =>
  intro f g i
  rw [nM] at g
  have c := sW f
  unfold Gd at i
  rw [vA]
  unfold zW
  have key : ∀ (a : List Formula) (x : Nat), (∀ k ∈ a, k ∈ f.Kids) → x + nodesL a ≤ 50000000 → tw (vA n) a (x : Int) = some ((x + nodesL a : Nat) : Int) := by
   intro a
   induction a with
   | nil => intro x _ _; rw [tw, nodesL]; rfl
   | cons k a d =>
    intro x hk j
    rw [nodesL] at j
    rw [tw, ih k (by have := vp (hk k (by simp)); omega) (by have := wG (hk k (by simp)); unfold Gd; omega), aa]
    have w : wi0 .i64 ((x : Int) + (la k : Int)) = ((x + la k : Nat) : Int) := by rw [kp (by omega) (by omega)]; omega
    rw [w, d _ (fun z m => hk z (by simp [m])) (by omega), nodesL]
    congr 2; omega
  have := key f.Kids 1 (fun k hk => hk) (by omega)
  rw [c]
  exact this
theorem TL : ∀ (n : Nat) (f : Formula), nX f ≤ n → Gd f → wC n f = some (nX f : Int) := by
 intro n
 induction n with
 | zero => intro f h; rw [nM] at h; omega
 | succ n ih =>
  intro f g i
  rw [nM] at g ⊢
  have j := sW f
  have hle := AX f
  rw [nM] at hle
  unfold Gd at i
  rw [wC]
  unfold Aw
  have key : ∀ (a : List Formula) (x : Nat), (∀ k ∈ a, k ∈ f.Kids) → max x (deepL a) ≤ 50000000 → uk (wC n) a (x : Int) = some ((max x (deepL a) + 1 : Nat) : Int) := by
   intro a
   induction a with
   | nil =>
    intro x _ c
    rw [deepL] at c
    rw [uk, deepL, kp (by omega) (by omega)]
    congr 1; omega
   | cons k a d =>
    intro x hk c
    rw [deepL] at c
    rw [uk, ih k (by have := vp (hk k (by simp)); omega) (by have := wG (hk k (by simp)); unfold Gd; omega), aa]
    have w : (if (nX k : Int) > (x : Int) then (nX k : Int) else (x : Int)) = ((max x (nX k) : Nat) : Int) := by split <;> omega
    rw [w, d _ (fun z m => hk z (by simp [m])) (by omega), deepL]
    congr 2; omega
  have := key f.Kids 0 (fun k hk => hk) (by omega)
  rw [Nat.zero_max] at this
  exact this
theorem SU : ∀ (n : Nat) (f : Formula), nX f ≤ n → wN n f = some (yI f) := by
 intro n
 induction n with
 | zero => intro f h; rw [nM] at h; omega
 | succ n ih =>
  intro f h
  rw [nM] at h
  have key : ∀ j : List Formula, (∀ k ∈ j, k ∈ f.Kids) → ux (wN n) j = some (wellL j) := by
   intro j
   induction j with
   | nil => intro _; rw [ux, wellL]
   | cons k j q =>
    intro hk
    rw [ux, ih k (by have := vp (hk k (by simp)); omega), aa, q (fun z t => hk z (by simp [t])), wellL]
    cases yI k <;> rfl
  have hk := key f.Kids (fun k hk => hk)
  rw [wN]
  unfold Au
  rw [hk, Kz, xS]
  unfold Fq
  simp only [aa]
  by_cases c1 : f.Op = 1
  ·simp only [c1, aO, aD]
   cases u : kB f.ja
   ·simp
   ·by_cases c : f.Kids.length = 0
    ·have e : f.Kids = [] := aX c
     by_cases p : f.K = 0 <;> simp [e, p, wellL]
    ·have : ((f.Kids.length : Int) == 0) = false := by rw [beq_eq_false_iff_ne]; omega
     simp [this, c]
  ·have s : (f.Op == 1) = false := by simpa using c1
   simp only [s, ae, aq, c1]
   by_cases i : f.Op = 2 ∨ f.Op = 3
   ·have m : ¬ f.Op < 1 := by omega
    have a2 : ¬ f.Op > 4 := by omega
    have a3 : f.Op < 4 := by omega
    have a4 : (f.Op == 4) = false := by rw [beq_eq_false_iff_ne]; omega
    simp only [m, a2, a3, a4, i, cZ, cK, ae, aq, aD, aa]
    cases g : jt f.ja ⟨zS, zS⟩
    ·simp [yL, g]
    ·by_cases c : f.Kids.length ≤ 8
     ·have d : ¬ ((f.Kids.length : Int) > 8) := by omega
      by_cases p : f.K = 0 <;> simp [yL, g, c, d, p]
     ·have d : ((f.Kids.length : Int) > 8) := by omega
      simp [yL, g, c, d]
   ·by_cases o : f.Op = 4
    ·have m : ¬ f.Op < 1 := by omega
     have a2 : ¬ f.Op > 4 := by omega
     have a3 : ¬ f.Op < 4 := by omega
     simp only [m, a2, a3, i, cZ, ae, aq, aa]
     simp only [o, aO, aD, cK, cV]
     cases g : jt f.ja ⟨zS, zS⟩
     ·simp [yL, g]
     ·by_cases c : f.Kids.length ≤ 8
      ·have d : ¬ ((f.Kids.length : Int) > 8) := by omega
       by_cases d1 : 1 ≤ f.Kids.length
       ·have g1 : ¬ ((f.Kids.length : Int) < 1) := by omega
        by_cases d2 : 0 ≤ f.K
        ·have g2 : ¬ f.K < 0 := by omega
         by_cases d3 : f.K ≤ (f.Kids.length : Int)
         ·have g3 : ¬ f.K > (f.Kids.length : Int) := by omega
          simp [yL, g, c, d, d1, g1, d2, g2, d3, g3]
         ·have g3 : f.K > (f.Kids.length : Int) := by omega
          simp [yL, g, c, d, d1, g1, d2, g2, d3, g3]
        ·have g2 : f.K < 0 := by omega
         simp [yL, g, c, d, d1, g1, d2, g2]
       ·have g1 : ((f.Kids.length : Int) < 1) := by omega
        simp [yL, g, c, d, d1, g1]
      ·have d : ((f.Kids.length : Int) > 8) := by omega
       simp [yL, g, c, d]
    ·have a : f.Op < 1 ∨ f.Op > 4 := by omega
     rcases a with a | a
     ·simp [a, i, o]
     ·have : ¬ f.Op < 1 := by omega
      simp [a, this, i, o]
theorem SL (f : Formula) (h : Gd f) : Af f = some (yu f) := by
 have c := AX f
 have a := h
 unfold Gd at a
 unfold Af yu
 rw [SB jX f (by rw [qv]; omega) h, TL jX f (by rw [qv]; omega) h, SU jX f (by rw [qv]; omega)]
 simp only [aa]
 by_cases c1 : la f ≤ 64
 ·have d1 : ((la f : Int) ≤ 64) := by omega
  by_cases c2 : nX f ≤ 6
  ·have d2 : ((nX f : Int) ≤ 6) := by omega
   simp [c1, c2, d1, d2]
  ·have d2 : ¬ ((nX f : Int) ≤ 6) := by omega
   simp [c1, c2, d1, d2]
 ·have d1 : ¬ ((la f : Int) ≤ 64) := by omega
  simp [c1, d1]
theorem Ua (l : List ja) (r : ja) : Ce l r = some (nq jt l r) := by
 unfold Ce
 induction l with
 | nil => rfl
 | cons x l ih =>
  rw [zl, ih]
  have e : nq jt (x :: l) r = (jt r x || nq jt l r) := rfl
  have a : jt x r = jt r x := by rw [aK, jB, jB]; exact iP
  rw [e, a]
  cases jt r x <;> rfl
theorem Gb (l : List ja) (rec : Formula → List ja → Option Bool) (f : Formula) (v : ja → Bool) : ∀ (a : List Formula) (x : Nat), (∀ k ∈ a, rec k l = some (DY v k)) → x + a.length ≤ 100000000 →
  si rec l f a (x : Int) = some (if f.Op = 2 then decide (x + evN v a = f.Kids.length) else if f.Op = 3 then decide (0 < x + evN v a) else decide (f.K ≤ ((x + evN v a : Nat) : Int)))
 | [], x, _, _ => by
  rw [si, evN, iH]
  by_cases c2 : f.Op = 2
  ·simp only [c2, aO, aD]
   congr 1
   rw [aK, eP, bk]; omega
  ·have d : (f.Op == 2) = false := by simpa using c2
   simp only [d, ae, aq, c2]
   by_cases c : f.Op = 3
   ·simp only [c, aO, aD]
    congr 1
    rw [aK, bk, bk]; omega
   ·have i : (f.Op == 3) = false := by simpa using c
    simp only [i, ae, aq, c]
    first | done | rfl
 | k :: a, x, h, j => by
  rw [aA] at j
  rw [si, h k (by simp), aa, evN]
  cases DY v k
  ·simp only [ae, aq]
   rw [Gb l rec f v a x (fun z g => h z (by simp [g])) (by omega), bW]
  ·simp only [aD]
   have e : wi0 .i64 ((x : Int) + 1) = ((x + 1 : Nat) : Int) := by rw [kp (by omega) (by omega)]; omega
   rw [e, Gb l rec f v a (x + 1) (fun z g => h z (by simp [g])) (by omega)]
   have d : x + 1 + evN v a = x + (1 + evN v a) := by omega
   rw [d]
theorem Ti (l : List ja) : ∀ (n : Nat) (f : Formula), nX f ≤ n → Gd f → wF n f l = some (DY (nq jt l) f) := by
 intro n
 induction n with
 | zero => intro f h; rw [nM] at h; omega
 | succ n ih =>
  intro f c d
  rw [nM] at c
  have g := sW f
  have i := Ek f.Kids
  unfold Gd at d
  rw [wF]
  unfold Av
  rw [Kv, Ua]
  by_cases c1 : f.Op = 1
  ·simp only [c1, aO, aD, aa]
  ·have a : (f.Op == 1) = false := by simpa using c1
   simp only [a, ae, aq, c1]
   have := Gb l (wF n) f (nq jt l) f.Kids 0 (fun k hk => ih k (by have := vp hk; omega) (by have := wG hk; unfold Gd; omega)) (by omega)
   simpa using this
theorem SV {l : List jb} {F : List jd} (h : RR l F) (peer : ByteArray) : vF F peer = vD l peer := by
 funext r
 rw [aK, Sk]
 unfold vF
 rw [nu lp, (h.xh (l.filter kc) (fun c => by rw [db])).2]
mutual
def Uv : Formula → Nat
 | ⟨_, _, r, ks⟩ => 1 + r.jn.size + r.jK.size + szFL ks
def szFL : List Formula → Nat
 | [] => 0
 | k :: ks => Uv k + szFL ks
end
def Cd : List jb → Nat
 | [] => 0
 | c :: l => 20 + xG c + Cd l
theorem g5 : ∀ (l : List jb) (n : Int), 0 ≤ n → n + (Cd l : Int) ≤ 4000000000000000000 → oB l n = some (n + (Cd l : Int))
 | [], n, _, _ => by rw [oB, Cd]; simp
 | c :: l, n, d, a => by
  have e : xG c = c.Head.jn.size + c.Head.jK.size + c.jL.size + c.B.jn.size + c.B.jK.size + c.C.jn.size + c.C.jK.size + c.kk.size := rfl
  rw [Cd] at a
  rw [oB]
  rw [kp (x := 20 + (c.Head.jn.size : Int)) (by omega) (by omega), kp (x := 20 + (c.Head.jn.size : Int) + (c.Head.jK.size : Int)) (by omega) (by omega), kp (x := 20 + (c.Head.jn.size : Int) + (c.Head.jK.size : Int) + (c.jL.size : Int)) (by omega) (by omega), kp (x := 20 + (c.Head.jn.size : Int) + (c.Head.jK.size : Int) + (c.jL.size : Int) + (c.B.jn.size : Int)) (by omega) (by omega), kp (x := 20 + (c.Head.jn.size : Int) + (c.Head.jK.size : Int) + (c.jL.size : Int) + (c.B.jn.size : Int) + (c.B.jK.size : Int)) (by omega) (by omega), kp (x := 20 + (c.Head.jn.size : Int) + (c.Head.jK.size : Int) + (c.jL.size : Int) + (c.B.jn.size : Int) + (c.B.jK.size : Int) + (c.C.jn.size : Int)) (by omega) (by omega), kp (x := 20 + (c.Head.jn.size : Int) + (c.Head.jK.size : Int) + (c.jL.size : Int) + (c.B.jn.size : Int) + (c.B.jK.size : Int) + (c.C.jn.size : Int) + (c.C.jK.size : Int)) (by omega) (by omega), kp (x := 20 + (c.Head.jn.size : Int) + (c.Head.jK.size : Int) + (c.jL.size : Int) + (c.B.jn.size : Int) + (c.B.jK.size : Int) + (c.C.jn.size : Int) + (c.C.jK.size : Int) + (c.kk.size : Int)) (by omega) (by omega), kp (by omega) (by omega)]
  rw [g5 l _ (by omega) (by omega), Cd]
  congr 1; omega
theorem g6 (s : Signed) (h : xG s.jb + s.Tag.length ≤ 1000000000) : D0 [] [s] = some (20 + (xG s.jb : Int) + (s.Tag.length : Int)) := by
 unfold D0
 rw [xR, vy]
 have := g5 [s.jb] 0 (by omega) (by rw [Cd, Cd]; omega)
 rw [show vK [s.jb] = _ from this, aa, vy, Cd, Cd]
 rw [kp (x := 0 + ((20 + xG s.jb + 0 : Nat) : Int) + (s.Tag.length : Int)) (by omega) (by omega), kp (by omega) (by omega)]
 simp only [aa]
 congr 1; omega
theorem bb {α β γ : Type} (x : Option α) (f : α → Option β) (g : β → Option γ) : (x.bind fun a => (f a).bind g) = (x.bind f).bind g := by cases x <;> rfl
noncomputable def Ur (p : KC) : Bool := (Hm p.jn p.Client p.Formula).getD false
def RB (l : List ot) (i : Int) : Prop := 0 ≤ i ∧ i < l.length
instance (l : List ot) (i : Int) : Decidable (RB l i) := by unfold RB; infer_instance
def R5 (l : List ot) (i : Int) : List ot := if RB l i then l.eraseIdx i.toNat else l
def Qp (p : KC) (e i : Int) : KC :=
 if e = 0 then ⟨⟨p.jn.Name, R5 p.jn.w6 i, p.jn.A8⟩, p.Client, p.Formula, p.RG, p.QH, p.Mn, p.Qo, p.NY, p.Keys⟩
 else if e = 1 then ⟨p.jn, ⟨p.Client.Name, R5 p.Client.w6 i, p.Client.A8⟩, p.Formula, p.RG, p.QH, p.Mn, p.Qo, p.NY, p.Keys⟩
 else p
noncomputable def shr (e : Int) : Nat → KC → KC
 | 0, p => p
 | k + 1, p => shr e k (if Ur (Qp p e k) then Qp p e k else p)
mutual
def FV : Formula → List ja
 | ⟨o, k, r, ks⟩ => if o = 1 then [r] else DJ ks
def DJ : List Formula → List ja
 | [] => []
 | k :: ks => FV k ++ DJ ks
end
theorem Oe (f : Formula) : FV f = if f.Op = 1 then [f.ja] else DJ f.Kids := by cases f; rw [FV]
theorem LN : ∀ f : Formula, (FV f).length ≤ la f := by
 refine RD fun f ih => ?_
 have key : ∀ a : List Formula, (∀ k ∈ a, (FV k).length ≤ la k) → (DJ a).length ≤ nodesL a := by
  intro a
  induction a with
  | nil => intro _; rw [DJ]; simp
  | cons k a c =>
   intro h
   have h1 := h k (by simp)
   have g := c (fun x d => h x (by simp [d]))
   rw [DJ, ah, nodesL]; omega
 have := key _ ih
 rw [Oe, sW]
 split
 ·simp
 ·omega
theorem Oo (rec : Formula → Option (List ja)) : ∀ (a : List Formula) (acc : List ja), (∀ k ∈ a, rec k = some (FV k)) → acc.length + (DJ a).length ≤ 100000000 → pW rec a acc = some (acc ++ DJ a)
 | [], acc, _, _ => by rw [pW, DJ, bp]
 | k :: a, acc, h, c => by
  rw [DJ, ah] at c
  rw [pW, h k (by simp), aa, lu (by omega) (by omega), aa, Oo rec a _ (fun x d => h x (by simp [d])) (by rw [ah]; omega), DJ, aC]
theorem Rw : ∀ (n : Nat) (f : Formula), nX f ≤ n → la f ≤ 10000000 → qi n f = some (FV f) := by
 intro n
 induction n with
 | zero => intro f h; rw [nM] at h; omega
 | succ n ih =>
  intro f c g
  rw [nM] at c
  have d := sW f
  have hlen := LN f
  rw [qi]
  unfold vn
  rw [Oe] at *
  by_cases c1 : f.Op = 1
  ·simp only [c1, aO, aD]
  ·have a : (f.Op == 1) = false := by simpa using c1
   simp only [a, ae, aq, c1] at *
   rw [Oo _ f.Kids [] (fun k hk => ih k (by have := vp hk; omega) (by have := wG hk; omega)) (by simp; omega), bt]
theorem Pm (f : Formula) (h : la f ≤ 10000000) : ∃ r, uv f = some r ∧ Kt (FV f) r ∧ r.length ≤ la f := by
 have h1 := LN f
 obtain ⟨r, e, a⟩ := Uf (FV f) (by omega)
 have := qt (I9 _) a
 refine ⟨r, ?_, a, by omega⟩
 unfold uv
 have := AX f
 rw [Rw jX f (by rw [qv]; omega) h, aa, e]; rfl
theorem UD : uv (qh sY) = some [sY] := by
 obtain ⟨r, e, h, c⟩ := Pm (qh sY) (by decide +kernel)
 rw [e, tO.unique (I9 _) h (⟨by simp, fun x => ⟨fun a => ⟨a, by obtain rfl := aF.1 a; decide +kernel⟩, fun a => a.1⟩⟩ : Kt (FV (qh sY)) [sY])]
theorem SK (l : List ja) (x : ja) : ∃ q, AK l x = some q ∧ (q = true ↔ x ∈ l) := by
 have key : ∀ (l : List ja) (i : Nat), ∃ q : Int, pA x l i = some q ∧ (q ≥ 0 ↔ x ∈ l) := by
  intro l
  induction l with
  | nil => intro i; exact ⟨-1, rfl, by simp⟩
  | cons y l ih =>
   intro i
   rw [pA]
   by_cases h : jt x y = true
   ·rw [aj h]; exact ⟨i, rfl, by rw [jB.1 h]; simp⟩
   ·rw [ai h]
    obtain ⟨q, e, a⟩ := ih (i + 1)
    refine ⟨q, e, a.trans ?_⟩
    have : x ≠ y := fun e => h (jB.2 e)
    simp [this]
 obtain ⟨q, e, a⟩ := key l 0
 unfold AK uC wc
 rw [e]
 exact ⟨decide (q ≥ 0), rfl, by rw [bk, a]⟩
theorem Qv (l : List ja) {b : Bool} (a : b = true ↔ sY ∈ l) : oa (qh sY) l = some b := by
 have d : ∀ r, oG r l = some (nq jt l r) := fun r => by
  obtain ⟨q, e, c⟩ := SK l r
  unfold oG
  rw [sR, e]
  congr 1
  rw [aK, c, nu jB]
 unfold oa
 rw [MK (nq jt l) _ d (qh sY) (by unfold Gd; decide +kernel)]
 unfold BB
 rw [JF, LX]
 simp only [cV, aa]
 congr 1
 rw [aK, a, nu jB]
theorem Qw : (wi0 .i64 (BitVec.ofInt (IntKind.bits .i64) (Int.fdiv (0 : Int) (2 ^ min (Int.toNat ((0 : Nat) : Int)) (IntKind.bits .i64))) &&& BitVec.ofInt (IntKind.bits .i64) 1).toNat) = 0 := by decide +kernel
theorem QD : (wi0 .i64 (BitVec.ofInt (IntKind.bits .i64) (Int.fdiv (1 : Int) (2 ^ min (Int.toNat ((0 : Nat) : Int)) (IntKind.bits .i64))) &&& BitVec.ofInt (IntKind.bits .i64) 1).toNat) = 1 := by decide +kernel
theorem Uc : (wi0 .i64 (BitVec.ofInt (IntKind.bits .i64) ((1 : Nat) : Int) &&& ~~~ BitVec.ofInt (IntKind.bits .i64) (wi0 .i64 (1 * 2 ^ min (Int.toNat ((0 : Nat) : Int)) (IntKind.bits .i64)))).toNat) = 0 := by decide +kernel
theorem Nq : me (decide (0 ≤ ((0 : Nat) : Int))) = some () := by decide +kernel
theorem Th : sA [sY] 0 = some [] := by
 unfold sA
 rw [oN, Nq, aa, Qw, oN]
 rfl
theorem QE : sA [sY] 1 = some [sY] := by
 unfold sA
 rw [oN, Nq, aa, QD]
 simp only [aO, aD]
 rw [lu (by simp) (by simp), aa, oN]
 rfl
theorem Sz : yF (qh sY) [sY] = some [1] := by
 have d : E4 1 false (wi0 .i64 (1 * 2 ^ min (Int.toNat (([sY] : List ja).length : Int)) (IntKind.bits .i64))) = some [false, false] := by
  rw [show (wi0 .i64 (1 * 2 ^ min (Int.toNat (([sY] : List ja).length : Int)) (IntKind.bits .i64))) = 2 by decide +kernel]
  unfold E4
  rw [aj (by decide)]; rfl
 have g : oa (qh sY) [] = some false := Qv [] (by simp)
 have s1 : oa (qh sY) [sY] = some true := Qv [sY] (by simp)
 unfold yF
 rw [show me (decide (0 ≤ (([sY] : List ja).length : Int))) = some () by decide +kernel, aa, d, aa]
 rw [qg, show ((0 : Nat) : Int) = 0 from rfl, Th, aa, g, aa, show kN [false, false] 0 = some false from rfl, aa]
 rw [qC]
 simp only [ae, aq]
 rw [Nq, aa, show ((0 : Nat) : Int) = 0 from rfl]
 have a := Qw
 rw [show ((0 : Nat) : Int) = 0 from rfl] at a
 rw [a]
 simp only [show ((0 : Int) == 1) = false from rfl, ae, aq, aa]
 rw [qC, aa, show kN (([false, false]).set (Int.toNat 0) false) 0 = some false from rfl]
 simp only [aa, ae, aq]
 rw [qg, show ((0 + 1 : Nat) : Int) = 1 from rfl, QE, aa, s1, aa, show kN (([false, false]).set (Int.toNat 0) false) 1 = some false from rfl, aa]
 rw [qC]
 simp only [ae, aq]
 rw [Nq, aa, show ((0 + 1 : Nat) : Int) = 1 from rfl, QD]
 simp only [aO, aD, aa]
 have c := Uc
 rw [show ((1 : Nat) : Int) = 1 from rfl] at c
 rw [c, show kN ((([false, false]).set (Int.toNat 0) false).set (Int.toNat 1) true) 0 = some false from rfl]
 simp only [aa]
 rw [qC, aa, show kN ((([false, false]).set (Int.toNat 0) false).set (Int.toNat 1) true) 1 = some true from rfl]
 simp only [aa, aD, bP]
 rw [lu (by simp) (by simp), aa, qg]
 rfl
theorem Sm : yA (qh sY) = some ([[sY]], 0) := by
 have d : ∃ c, ta [sY] [sY] = some c ∧ c = 0 := by
  obtain ⟨q, e, h⟩ := uO sY sY
  have j : xk 1 1 = some 0 := by decide +kernel
  have k : mq sY sY = some 0 := by decide +kernel
  refine ⟨0, ?_, rfl⟩
  unfold ta
  rw [show (([sY] : List ja).length : Int) = 1 from rfl, j, aa]
  unfold lW
  rw [kM, ai (by decide +kernel), show kN [sY] ((0 : Nat) : Int) = some sY from rfl, aa]
  simp only
  rw [k, aa]
  simp only [dE, ae, aq]
  rw [kM]
  decide +kernel
 obtain ⟨c, i, rfl⟩ := d
 have m : FA (fun (x : (List ja × List ja)) => ta x.1 x.2) [[sY]] = some [[sY]] := by
  unfold FA
  rw [aj (by simp), KT]
  ·simp [oY]
  ·exact {
    is := fun x a y g => by obtain rfl := aF.1 a; obtain rfl := aF.1 g; exact ⟨_, i⟩
    irrefl := fun x a => by obtain rfl := aF.1 a; unfold rX; simp [i]
    trans := fun x a y g z n => by obtain rfl := aF.1 a; obtain rfl := aF.1 g; obtain rfl := aF.1 n; exact fun h _ => h
    total := fun x a y g _ _ => by obtain rfl := aF.1 a; obtain rfl := aF.1 g; rfl
    short := by simp }
 unfold yA
 rw [KV (qh sY) (by decide +kernel), JF, aa]
 simp only [aU, ae, aq]
 rw [UD, aa, ai (by decide), Sz, aa, uq, QE, aa, lu (by simp) (by simp), aa, uq, ai (by decide), bt, m]
 rfl
theorem Rz (f1 : ja → Option Bool) (h : f1 sY = some true) : yx (qh sY) f1 = some ([sY], true) := by
 unfold yx
 rw [Sm, aa]
 simp only [dE, ae, aq, aa]
 rw [wv]
 unfold mF nC
 rw [lq]
 unfold wx
 rw [h]
 simp only [aa, aU, ae, aq]
 rw [lq]
 rfl
open Classical in
noncomputable def oq (C : List jb) : List jd → List jv → Bool
 | _, [] => true
 | A, s :: B => decide (s.jb ∈ C) && Bc s A && oq C (A ++ [s.jd]) B
open Classical in
theorem Cp (C : List jb) : ∀ (B : List jv) (A : List jd), oq C A B = true ↔ (∀ s ∈ B, s.jb ∈ C) ∧ mc A B
 | [], A => by simp [oq, mc]
 | s :: B, A => by
  rw [oq, az, az, Cp C B, w9, bk]
  simp only [mc, aB, forall_eq_or_imp]
  exact ⟨fun ⟨⟨a, b⟩, c, d⟩ => ⟨⟨a, c⟩, b, d⟩, fun ⟨⟨a, c⟩, b, d⟩ => ⟨⟨a, b⟩, c, d⟩⟩
open Classical in
noncomputable def zq (C : List jb) (want : jd) (l : List jv) (ok : Bool) : Int := if ok = true then (if want ∈ kP l then 0 else 42) else 50
theorem OH (l : List jv) (C : List jb) (want : jd) (p : l.length ≤ 100000000) : ∀ (B A : List jv), A ++ B = l → ∃ n : Int, rz C (kP l) want l B A.length = some (n, zq C want l (oq C (kP A) B)) ∧ tD C l want B A.length = some (n, zq C want l (oq C (kP A) B))
 | [], A, e => by
  refine ⟨l.length, ?_, ?_⟩
  ·rw [rz, QK]
   unfold zq oq
   by_cases h : want ∈ kP l <;> simp [h]
  ·rw [tD, EN l (by omega)]
   obtain ⟨b, g, a⟩ := wB (l.map (·.jd)) want.ja want.jL
   simp only [aa]
   rw [g]
   unfold zq oq
   have c : b = true ↔ want ∈ kP l := a
   by_cases h : want ∈ kP l
   ·obtain rfl := c.2 h; simp [h]
   ·obtain rfl : b = false := by rw [← cd, c]; exact h
    simp [h]
 | s :: B, A, e => by
  have u : A.length ≤ 100000000 := by have := ay List.length e; simp at this; omega
  have o : A.length ≤ l.length := by have := ay List.length e; simp at this; omega
  obtain ⟨b, g, a⟩ := Kq s.jb C
  have i : nq mV C s.jb = b := by rw [aK, a, nu uH]
  have t : (kP l).take (Int.toNat (A.length : Int)) = kP A := by rw [← e, uA]; have := Dl (kP A) (kP (s :: B)); simpa [kP] using this
  have j : l.take (Int.toNat (A.length : Int)) = A := by rw [← e]; exact Dl _ _
  rw [rz, tD, g, LG, i, uT (by omega) (by simp [kP]; omega), uT (by omega) (by omega), t, j, EN A (by omega)]
  simp only [aa]
  rw [Dn, IW _ _ (by simp; omega)]
  simp only [aa]
  rw [show A.map (·.jd) = kP A from rfl]
  by_cases d : s.jb ∈ C
  ·obtain rfl := a.2 d
   simp only [aU, ae, aq, aa]
   cases m : Bc s (kP A)
   ·refine ⟨A.length, ?_, ?_⟩ <;> simp [zq, oq, m]
   ·simp only [aU, ae, aq]
    obtain ⟨n, h1, k⟩ := OH l C want p B (A ++ [s]) (by simpa using e)
    have q : oq C (kP A) (s :: B) = oq C (kP (A ++ [s])) B := by rw [oq, m, uA]; simp [d, kP]
    rw [q]
    simp only [ah, aA, bG, bW] at h1 k
    exact ⟨n, h1, k⟩
  ·obtain rfl : b = false := by rw [← cd, a]; exact d
   refine ⟨A.length, ?_, ?_⟩ <;> simp [zq, oq, d]
theorem Jj (l : List jv) (C : List jb) (want : jd) (c : l.length ≤ 100000000) : ∃ n : Int, vJ l C want = some (n, zq C want l (oq C [] l)) ∧ DM l C want = some (n, zq C want l (oq C [] l)) := by
 obtain ⟨n, h1, a⟩ := OH l C want c l [] rfl
 refine ⟨n, ?_, a⟩
 unfold vJ
 rw [EE l (by omega)]
 exact h1
theorem Rr (f : Formula) (l : List ja) (h : Gd f) : oa f l = some (BB (nq jt l) f) := by
 have c : ∀ r, oG r l = some (nq jt l r) := fun r => by
  obtain ⟨q, e, a⟩ := SK l r
  unfold oG
  rw [sR, e]
  congr 1
  rw [aK, a, nu jB]
 unfold oa
 rw [MK (nq jt l) _ c f h, aa]
noncomputable def Gk (o : jI) (C : List jb) (f : Formula) (peer : ByteArray) : Int :=
 if o.State ≠ 1 then 43 else if BB (nq jt o.jM) f = false then 44 else if oq C [] o.jO = false then 50 else if (o.jM.all fun r => nq lH (kP o.jO) ⟨r, peer⟩) = true then 0 else 42
theorem LL (o : jI) (C : List jb) (peer : ByteArray) (d : o.jO.length ≤ 100000000) (hk : oq C [] o.jO = true) : ∀ l : List ja,
  rN o C peer l = some (if (l.all fun r => nq lH (kP o.jO) ⟨r, peer⟩) = true then 0 else 42) ∧ vq o peer l = some (if (l.all fun r => nq lH (kP o.jO) ⟨r, peer⟩) = true then 0 else 42)
 | [] => ⟨rfl, rfl⟩
 | r :: l => by
  obtain ⟨n, h1, _⟩ := Jj o.jO C ⟨r, peer⟩ d
  obtain ⟨i1, i2⟩ := LL o C peer d hk l
  rw [rN, vq, h1, hk, EN o.jO (by omega)]
  obtain ⟨b, g, a⟩ := wB (o.jO.map (·.jd)) r peer
  simp only [aa]
  rw [g]
  have c : nq lH (kP o.jO) ⟨r, peer⟩ = b := by rw [aK, a, nu lp]; rfl
  rw [dI, c]
  by_cases h : (⟨r, peer⟩ : jd) ∈ kP o.jO
  ·obtain rfl : b = true := a.2 h
   simp only [zq, h, aD, dE, ae, aq, aa, aU, cV]
   exact ⟨i1, i2⟩
  ·obtain rfl : b = false := by rw [← cd]; exact fun i => h (a.1 i)
   simp [zq, h]
theorem Fb (o : jI) (C : List jb) (f : Formula) (peer : ByteArray) (h : o.jO.length ≤ 100000000) (d : Gd f) (j : nX f ≤ jX) : mN o C f peer = some (Gk o C f peer) ∧ DK o C f peer = some (Gk o C f peer) := by
 obtain ⟨n, h1, i⟩ := Jj o.jO C ⟨⟨zS, zS⟩, zS⟩ h
 unfold mN DK Gk
 rw [Rr f o.jM d, SL f d, Ti o.jM jX f j d, h1, i]
 by_cases c : o.State = 1
 ·have a : (o.State != 1) = false := by simp [c]
  rw [a, ai (show ¬ (o.State ≠ 1) by simp [c])]
  simp only [ae, aq, aa]
  unfold BB
  cases yu f
  ·simp
  ·cases DY (nq jt o.jM) f
   ·simp
   ·simp only [Bool.and_self, aU, ae, aq, aa]
    cases hk : oq C [] o.jO
    ·simp [zq]
    ·obtain ⟨i1, i2⟩ := LL o C peer h hk o.jM
     have g : (zq C ⟨⟨zS, zS⟩, zS⟩ o.jO true == 50) = false := by
      unfold zq
      simp only [aD]
      split <;> decide
     rw [g]
     simp only [ae, aq, aD, Bool.true_eq_false]
     exact ⟨i1, i2⟩
 ·have a : (o.State != 1) = true := by simp [c]
  rw [a, aj c]
  simp
def rW {α : Type} (f : List Int → Int ⊕ (α × List Int)) : Nat → List Int → Int ⊕ (List α × List Int)
 | 0, l => .inr ([], l)
 | n + 1, l => lb (f l) fun x a => lb (rW f n a) fun xs c => .inr (x :: xs, c)
def uM (l : List Int) : Int ⊕ (jv × List Int) := lb (zD l) fun c a => lb (qR a) fun w d => .inr (⟨c, ⟨c.Head, w⟩⟩, d)
def Cv (a : Int) (l : List Int) : Int ⊕ (List jv × List Int) := lb (nz a 0 0 l) fun n c => rW uM n.toNat c
def EB (l : List Int) : Int ⊕ (jI × List Int) := lb (nz 3 0 0 l) fun st c => lb (nz 99 0 0 c) fun e d => lb (nz 64 0 0 d) fun n g => lb (rW od n.toNat g) fun j h => lb (Cv 256 h) fun a i => .inr (⟨st, e, j, a⟩, i)
def yJ {α : Type} (acc : List α) (x : Int ⊕ (List α × List Int)) : Int ⊕ (List α × List Int) := lb x fun xs l => .inr (acc ++ xs, l)
theorem BK {α : Type} (acc : List α) (f : List Int → Int ⊕ (α × List Int)) (n : Nat) (l a : List Int) (x : α) (h : f l = .inr (x, a)) : yJ acc (rW f (n + 1) l) = yJ (acc ++ [x]) (rW f n a) := by
 unfold yJ
 rw [rW, h]
 simp only [lb]
 cases rW f n a <;> simp
theorem zi {α : Type} (acc : List α) (f : List Int → Int ⊕ (α × List Int)) (n : Nat) (l : List Int) (e : Int) (h : f l = .inl e) : yJ acc (rW f (n + 1) l) = .inl e := by
 unfold yJ; rw [rW, h]; rfl
theorem Du {α : Type} (x : Int ⊕ (List α × List Int)) : yJ [] x = x := by cases x <;> rfl
theorem Fo (i : Nat) (h : i ≤ 1000000) : wi0 .i64 ((i : Int) + 1) = ((i + 1 : Nat) : Int) := by rw [kp (by omega) (by omega)]; simp
theorem I7 (l : List Int) (a : Int) (c : B8 l) (d : l.length ≤ 1000000) : lA ⟨l, false⟩ a = some (wr (nz a 0 0 l)) := Pp l a c d
theorem IB (g : Int × jx) : ∀ (k : Nat) (acc : List jv) (i : Nat) (l : List Int) (n : Nat), ((i + k : Nat) : Int) = g.1 → i + k ≤ 10000 → B8 l → l.length ≤ 1000000 → acc.length + k ≤ 100000 → k < n →
  pO g n acc i l false = some (wr (yJ acc (rW uM k l)))
 | 0, acc, i, l, n + 1, hi, _, _, _, _, _ => by
  rw [pO, ai (by simp; omega)]
  simp [rW, yJ, lb, wr]
 | k + 1, acc, i, l, n + 1, hi, hk, j, m, t, u => by
  rw [pO, aj (by simp; omega), Ts l j m]
  cases a : zD l with
  | inl e => rw [zi acc uM k l e (by unfold uM; rw [a]; rfl)]; rfl
  | inr q =>
   obtain ⟨c, d⟩ := q
   obtain ⟨h1, h⟩ := j.part m (Hd l) a
   simp only [aa, wr]
   rw [Hp d h1 h]
   cases hw : qR d with
   | inl e => rw [zi acc uM k l e (by unfold uM; rw [a]; simp only [lb]; rw [hw])]; rfl
   | inr q =>
    obtain ⟨w, o⟩ := q
    obtain ⟨p, s⟩ := h1.part h (uj d) hw
    simp only [aa, wr]
    rw [lu (by simp; omega) (by simp; omega), aa, Fo i (by omega)]
    rw [BK acc uM k l o (⟨c, ⟨c.Head, w⟩⟩ : jv) (by unfold uM; rw [a]; simp only [lb]; rw [hw])]
    exact IB g k _ (i + 1) o n (by omega) (by omega) p s (by simp; omega) (by omega)
theorem Ft (a : Int) (l : List Int) {v : Int} {c : List Int} (h : nz a 0 0 l = .inr (v, c)) : 0 ≤ v ∧ v ≤ a := Fp a l 0 0 v c ⟨by decide, by decide⟩ h
theorem SG (l : List Int) (a : Int) (c : B8 l) (d : l.length ≤ 1000000) (hm : a ≤ 10000) : xL ⟨l, false⟩ a = some (wr (Cv a l)) := by
 unfold xL Cv
 rw [I7 l a c d]
 cases g : nz a 0 0 l with
 | inl e => rfl
 | inr q =>
  obtain ⟨n, h⟩ := q
  obtain ⟨h1, i⟩ := c.part d (oC a l 0 0) g
  have j := Ft a l g
  simp only [aa, wr]
  rw [show (0 : Int) = ((0 : Nat) : Int) from rfl, IB (n, ⟨h, false⟩) n.toNat [] 0 h jX (by show ((0 + n.toNat : Nat) : Int) = n; omega) (by omega) h1 i (by simp; omega) (by rw [nG]; omega), Du]
  rfl
theorem Ly (d m a : Int × jx) : ∀ (k : Nat) (acc : List ja) (i : Nat) (l : List Int) (n : Nat), ((i + k : Nat) : Int) = d.1 → i + k ≤ 10000 → B8 l → l.length ≤ 1000000 → acc.length + k ≤ 100000 → k < n →
  oD d m a n i acc l false = some (wr (lb (yJ acc (rW od k l)) fun v t => lb (Cv 256 t) fun p u => .inr ((⟨m.1, a.1, v, p⟩ : jI), u)))
 | 0, acc, i, l, n + 1, hi, _, g, h, _, _ => by
  rw [oD, ai (by simp; omega), SG l 256 g h (by decide)]
  simp only [rW, yJ, lb, bp]
  cases Cv 256 l with
  | inl e => rfl
  | inr q => rfl
 | k + 1, acc, i, l, n + 1, hi, hk, g, h, w, x => by
  rw [oD, aj (by simp; omega), Fz l g h]
  cases j : od l with
  | inl e => rw [zi acc od k l e j]; rfl
  | inr q =>
   obtain ⟨c, o⟩ := q
   obtain ⟨h1, s⟩ := g.part h (pH l) j
   simp only [aa, wr]
   rw [lu (by simp; omega) (by simp; omega), aa, Fo i (by omega), BK acc od k l o c j]
   exact Ly d m a k _ (i + 1) o n (by omega) (by omega) h1 s (by simp; omega) (by omega)
theorem Ub (l : List Int) (i : B8 l) (j : l.length ≤ 1000000) : uo ⟨l, false⟩ = some (wr (EB l)) := by
 unfold uo EB
 rw [I7 l 3 i j]
 cases t : nz 3 0 0 l with
 | inl e => rfl
 | inr q =>
  obtain ⟨s, c⟩ := q
  obtain ⟨h1, d⟩ := i.part j (oC 3 l 0 0) t
  simp only [aa, wr, lb]
  rw [I7 c 99 h1 d]
  cases u : nz 99 0 0 c with
  | inl e => rfl
  | inr q =>
   obtain ⟨e, a⟩ := q
   obtain ⟨g, h⟩ := h1.part d (oC 99 c 0 0) u
   simp only [aa, wr, lb]
   rw [I7 a 64 g h]
   cases k : nz 64 0 0 a with
   | inl e => rfl
   | inr q =>
    obtain ⟨n, m⟩ := q
    obtain ⟨o, p⟩ := g.part h (oC 64 a 0 0) k
    have v := Ft 64 a k
    simp only [aa, wr, lb]
    rw [show (0 : Int) = ((0 : Nat) : Int) from rfl, Ly (n, ⟨m, false⟩) (s, ⟨c, false⟩) (e, ⟨a, false⟩) n.toNat [] 0 m jX (by show ((0 + n.toNat : Nat) : Int) = n; omega) (by omega) o p (by simp; omega) (by rw [nG]; omega), Du]
    rfl
abbrev zO : jI := ⟨0, 0, [], []⟩
def FJ (l : List Int) : Int × jI := match EB l with
 | .inl e => (e, zO)
 | .inr (o, a) => (if a.length > 0 then 13 else 0, o)
theorem Om (l : List Int) (c : B8 l) (a : l.length ≤ 1000000) : mX l zO = some (FJ l) := by
 unfold mX tk FJ
 rw [JA a, aa, Ub l c a]
 cases EB l with
 | inl e => rfl
 | inr q => obtain ⟨s, d⟩ := q; rfl
theorem Ss (l : List Int) (a : B8 l) (c : l.length ≤ 1000000) : tV l zO = some (FJ l) := Om l a c
theorem Fa (l : List Int) (a : Int) (c : B8 l) (d : l.length ≤ 1000000) : DQ (nz a 0 0 l) 0 id (kd ⟨kT l, 0⟩ a) := by
 unfold kd
 rw [ai (show ¬ (((0 : Int) != 0) = true) by decide)]
 exact HV a l 0 0 1 jX c (by omega) (by decide) (fun _ => by simp) (by rw [nG]; omega)
theorem GF (a : Int × jr) (n : Nat) (acc : List jv) (i : Int) (S : ByteArray) (e : Int) (he : e ≠ 0) : nJ a (n + 1) acc i ⟨S, e⟩ = some ([], ⟨S, e⟩) := by
 rw [nJ]
 have : (e == 0) = false := by simpa using he
 have c : (if decide (i < a.1) = true then some ((⟨S, e⟩ : jr).E == 0) else some false : Option Bool) = some false := by
  show (if decide (i < a.1) = true then some (e == 0) else some false : Option Bool) = some false
  rw [this, ite_self]
 rw [c]
 simp only [aa, ae, aq]
 rw [aj (by simpa using he)]
theorem OQ (p : Int × jr) : ∀ (k : Nat) (acc : List jv) (i : Nat) (l : List Int) (n : Nat), ((i + k : Nat) : Int) = p.1 → i + k ≤ 10000 → B8 l → l.length ≤ 1000000 → acc.length + k ≤ 100000 → k < n →
  DQ (yJ acc (rW uM k l)) [] id (nJ p n acc i ⟨kT l, 0⟩)
 | 0, acc, i, l, n + 1, hi, _, _, _, _, _ => by
  rw [nJ, ai (by simp; omega)]
  simp [rW, yJ, lb, DQ]
 | k + 1, acc, i, l, n + 1, hi, hk, t, u, y, z => by
  rw [nJ, aj (by simp; omega)]
  simp only [aO, aa, aD]
  have a := PP l t u
  obtain ⟨n, rfl⟩ : ∃ m, n = m + 1 := ⟨n - 1, by omega⟩
  cases h : zD l with
  | inl e =>
   rw [h] at a
   obtain ⟨he, S, g⟩ := a
   rw [zi acc uM k l e (by unfold uM; rw [h]; rfl), g, aa, xT S e he, aa, lu (by simp; omega) (by simp; omega), aa, GF _ _ _ _ _ _ he]
   exact ⟨he, S, rfl⟩
  | inr q =>
   obtain ⟨c, j⟩ := q
   rw [h] at a
   have g : vG ⟨kT l, 0⟩ = some (c, (⟨kT j, 0⟩ : jr)) := a
   obtain ⟨h1, s⟩ := t.part u (Hd l) h
   have d := Bj j h1 s
   rw [g, aa]
   cases hw : qR j with
   | inl e =>
    rw [hw] at d
    obtain ⟨he, S, g⟩ := d
    rw [zi acc uM k l e (by unfold uM; rw [h]; simp only [lb]; rw [hw]), g, aa, lu (by simp; omega) (by simp; omega), aa, GF _ _ _ _ _ _ he]
    exact ⟨he, S, rfl⟩
   | inr q =>
    obtain ⟨w, o⟩ := q
    rw [hw] at d
    have g : lP ⟨kT j, 0⟩ = some (w, (⟨kT o, 0⟩ : jr)) := d
    obtain ⟨v, x⟩ := h1.part s (uj j) hw
    rw [g, aa, lu (by simp; omega) (by simp; omega), aa, Fo i (by omega)]
    rw [BK acc uM k l o (⟨c, ⟨c.Head, w⟩⟩ : jv) (by unfold uM; rw [h]; simp only [lb]; rw [hw])]
    exact OQ p k _ (i + 1) o (n + 1) (by omega) (by omega) v x (by simp; omega) (by omega)
theorem NM (S : ByteArray) (e a : Int) (he : e ≠ 0) : su ⟨S, e⟩ a = some ([], ⟨S, e⟩) := by
 unfold su
 rw [Fj S e _ he, aa, qv, GF _ _ _ _ _ _ he]
theorem OD (l : List Int) (a : Int) (i : B8 l) (j : l.length ≤ 1000000) (hm : a ≤ 10000) : DQ (Cv a l) [] id (su ⟨kT l, 0⟩ a) := by
 unfold su Cv
 have h := Fa l a i j
 cases c : nz a 0 0 l with
 | inl e =>
  rw [c] at h
  obtain ⟨he, S, d⟩ := h
  rw [d, aa, qv, GF _ _ _ _ _ _ he]
  exact ⟨he, S, rfl⟩
 | inr q =>
  obtain ⟨n, g⟩ := q
  rw [c] at h
  have d : kd ⟨kT l, 0⟩ a = some (n, (⟨kT g, 0⟩ : jr)) := h
  obtain ⟨h1, k⟩ := i.part j (oC a l 0 0) c
  have m := Ft a l c
  rw [d, aa]
  have := OQ (n, ⟨kT g, 0⟩) n.toNat [] 0 g jX (by show ((0 + n.toNat : Nat) : Int) = n; omega) (by omega) h1 k (by simp; omega) (by rw [nG]; omega)
  rw [Du] at this
  exact this
theorem HB (a g c : Int × jr) (n : Nat) (acc : List ja) (i : Int) (S : ByteArray) (e : Int) (he : e ≠ 0) : mR a g c (n + 1) i acc ⟨S, e⟩ = some (zO, ⟨S, e⟩) := by
 rw [mR]
 have : (e == 0) = false := by simpa using he
 have d : (if decide (i < a.1) = true then some ((⟨S, e⟩ : jr).E == 0) else some false : Option Bool) = some false := by
  show (if decide (i < a.1) = true then some (e == 0) else some false : Option Bool) = some false
  rw [this, ite_self]
 rw [d]
 simp only [aa, ae, aq]
 rw [NM S e _ he, aa, aj (by simpa using he)]
theorem Mv (j v g : Int × jr) : ∀ (k : Nat) (acc : List ja) (i : Nat) (l : List Int) (n : Nat), ((i + k : Nat) : Int) = j.1 → i + k ≤ 10000 → B8 l → l.length ≤ 1000000 → acc.length + k ≤ 100000 → k < n →
  DQ (lb (yJ acc (rW od k l)) fun A y => lb (Cv 256 y) fun u z => .inr ((⟨v.1, g.1, A, u⟩ : jI), z)) zO id (mR j v g n i acc ⟨kT l, 0⟩)
 | 0, acc, i, l, n + 1, hi, _, s, t, _, _ => by
  rw [mR, ai (by simp; omega)]
  simp only [rW, yJ, lb, bp, aa, ae, aq]
  have h := OD l 256 s t (by decide)
  cases w : Cv 256 l with
  | inl e =>
   rw [w] at h
   obtain ⟨he, S, d⟩ := h
   rw [d, aa, aj (by simpa using he)]
   exact ⟨he, S, rfl⟩
  | inr q =>
   obtain ⟨u, p⟩ := q
   rw [w] at h
   have d : su ⟨kT l, 0⟩ 256 = some (u, (⟨kT p, 0⟩ : jr)) := h
   rw [d, aa, ai (by simp)]
   rfl
 | k + 1, acc, i, l, n + 1, hi, hk, s, t, D, F => by
  rw [mR, aj (by simp; omega)]
  simp only [aO, aa, aD]
  have a := Df l s t
  obtain ⟨n, rfl⟩ : ∃ m, n = m + 1 := ⟨n - 1, by omega⟩
  cases o : od l with
  | inl e =>
   rw [o] at a
   obtain ⟨he, S, d⟩ := a
   rw [zi acc od k l e o, d, aa, lu (by simp; omega) (by simp; omega), aa, HB _ _ _ _ _ _ _ _ he]
   exact ⟨he, S, rfl⟩
  | inr q =>
   obtain ⟨c, p⟩ := q
   rw [o] at a
   have d : lK ⟨kT l, 0⟩ = some (c, (⟨kT p, 0⟩ : jr)) := a
   obtain ⟨h1, x⟩ := s.part t (pH l) o
   rw [d, aa, lu (by simp; omega) (by simp; omega), aa, Fo i (by omega), BK acc od k l p c o]
   exact Mv j v g k _ (i + 1) p (n + 1) (by omega) (by omega) h1 x (by simp; omega) (by omega)
theorem Jr (S : ByteArray) (e : Int) (he : e ≠ 0) (d c : Int × jr) : ((kd ⟨S, e⟩ 64).bind fun a => mR a d c jX 0 [] a.2) = some (zO, ⟨S, e⟩) := by
 rw [Fj S e _ he, aa, qv, HB _ _ _ _ _ _ _ _ he]
theorem Rg (l : List Int) (t : B8 l) (u : l.length ≤ 1000000) : DQ (EB l) zO id (tW ⟨kT l, 0⟩) := by
 unfold tW EB
 have h := Fa l 3 t u
 cases i : nz 3 0 0 l with
 | inl e =>
  rw [i] at h
  obtain ⟨he, S, a⟩ := h
  rw [a, aa]
  simp only
  rw [Fj S e _ he, aa]
  simp only
  rw [Jr S e he]
  exact ⟨he, S, rfl⟩
 | inr q =>
  obtain ⟨s, d⟩ := q
  rw [i] at h
  have a : kd ⟨kT l, 0⟩ 3 = some (s, (⟨kT d, 0⟩ : jr)) := h
  obtain ⟨h1, m⟩ := t.part u (oC 3 l 0 0) i
  rw [a, aa]
  simp only [lb]
  have h := Fa d 99 h1 m
  cases j : nz 99 0 0 d with
  | inl e =>
   rw [j] at h
   obtain ⟨he, S, a⟩ := h
   rw [a, aa]
   simp only
   rw [Jr S e he]
   exact ⟨he, S, rfl⟩
  | inr q =>
   obtain ⟨e, c⟩ := q
   rw [j] at h
   have a : kd ⟨kT d, 0⟩ 99 = some (e, (⟨kT c, 0⟩ : jr)) := h
   obtain ⟨o, p⟩ := h1.part m (oC 99 d 0 0) j
   rw [a, aa]
   simp only
   have h := Fa c 64 o p
   cases g : nz 64 0 0 c with
   | inl e =>
    rw [g] at h
    obtain ⟨he, S, a⟩ := h
    rw [a, aa, qv, HB _ _ _ _ _ _ _ _ he]
    exact ⟨he, S, rfl⟩
   | inr q =>
    obtain ⟨n, k⟩ := q
    rw [g] at h
    have a : kd ⟨kT c, 0⟩ 64 = some (n, (⟨kT k, 0⟩ : jr)) := h
    obtain ⟨v, w⟩ := o.part p (oC 64 c 0 0) g
    have x := Ft 64 c g
    rw [a, aa]
    have := Mv (n, ⟨kT k, 0⟩) (s, ⟨kT d, 0⟩) (e, ⟨kT c, 0⟩) n.toNat [] 0 k jX (by show ((0 + n.toNat : Nat) : Int) = n; omega) (by omega) v w (by simp; omega) (by rw [nG]; omega)
    rw [Du] at this
    exact this
theorem QQ (l : List Int) (g : B8 l) (i : l.length ≤ 1000000) : ∃ t, tW ⟨kT l, 0⟩ = some ((FJ l).2, t) ∧ qY t = some (FJ l).1 := by
 have h := Rg l g i
 unfold FJ
 cases a : EB l with
 | inl e =>
  rw [a] at h
  obtain ⟨he, S, j⟩ := h
  refine ⟨_, j, ?_⟩
  unfold qY
  rw [ai (by simpa using he)]
  simp
 | inr q =>
  obtain ⟨s, d⟩ := q
  rw [a] at h
  refine ⟨_, h, ?_⟩
  unfold qY
  simp only [aO, aD, aa]
  cases d with
  | nil => rw [Mc, show ke zS zS = true from kK.2 rfl]; rfl
  | cons c d => rw [Ke]; simp
end Go.Proofs.YtbnbdigcbldfhaaGreat
