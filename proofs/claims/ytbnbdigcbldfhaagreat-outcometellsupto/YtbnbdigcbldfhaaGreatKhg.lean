/- a part of a proof of OutcomeTells -/
import Derived.Test.YtbnbdigcbldfhaaGreatRtSg
import Derived.Test.YtbnbdigcbldfhaaGreatO6Mg
set_option linter.all false
namespace Go.Proofs.YtbnbdigcbldfhaaGreat
open Go.IntKind renaming wrap → wi0
open Go.RowKit
theorem Bm {c x : Bool} : (if c = true then some x else some false : Option Bool) = some (c && x) := by cases c <;> rfl
theorem Uu {c x : Bool} : (if c = true then some true else some x : Option Bool) = some (c || x) := by cases c <;> rfl
theorem uN {α : Type} (x : Option α) : (x.bind fun y => some y) = x := by cases x <;> rfl
theorem lQ {x : Int} (a : -9223372036854775808 ≤ x) (h1 : x ≤ 9223372036854775807) : wi0 .i64 x = x := IntWalk.i64_in _ (by omega)
theorem sI {α : Type} (A : List α) (x : α) (B : List α) (i : Int) (h : i = (A.length : Int)) : mx (A ++ x :: B) i = some x := by
 subst h; rw [J9]; simp
theorem tM : lC = 18446744073709551615 + 1 := by rw [pp]
def F0 {α : Type} (f1 : α → Option Bool) (z : α) : Nat → List α → Int → Int → Option (List α)
 | 0, _, _, _ => none
 | n + 1, l, i, j => if decide (j < (l.length : Int)) then
   ((mx l j).bind fun x => (f1 x).bind fun r => if (!r) then (mx l i).bind fun _ => some (l.set (Int.toNat i) x, wi0 .i64 (i + 1)) else some (l, i) : Option (List α × Int)).bind fun (c, a) => F0 f1 z n c a (wi0 .i64 (j + 1))
  else (nG (decide (0 ≤ i) && decide (i ≤ (l.length : Int)))).bind fun _ => (nG (decide (0 ≤ i) && decide (i ≤ ((oA l (Int.toNat i) z).length : Int)))).bind fun _ => some ((oA l (Int.toNat i) z).take (Int.toNat i))
theorem wD {a b : Int} (c : 0 ≤ a) (h1 : a ≤ b) : nG (decide (0 ≤ a) && decide (a ≤ b)) = some () := by simp [nG, c, h1]
theorem NM {α : Type} (f1 : α → Option Bool) (p : α → Bool) (z : α) : ∀ (rest out mid : List α) (n : Nat), rest.length < n → (out ++ mid ++ rest).length < 4611686018427387904 → mid ≠ [] → (∀ x ∈ rest, f1 x = some (p x)) →
  F0 f1 z n (out ++ mid ++ rest) (out.length : Int) ((out.length + mid.length : Nat) : Int) = some (out ++ rest.filter fun x => !p x)
 | [], out, mid, 0, h, _, _, _ => by simp at h
 | [], out, mid, n + 1, _, c, hm, _ => by
  rw [F0, aK (by simp)]
  have h1 : out.length ≤ (out ++ mid ++ []).length := by simp
  rw [wD (by omega) (by omega)]
  simp only [aA]
  rw [wD (by omega) (by rw [wv _ _ _ (by simpa using h1)]; omega)]
  simp only [aA, ew]
  rw [Iu _ _ _ h1]
  simp
 | x :: rest, out, mid, 0, h, _, _, _ => by simp at h
 | x :: rest, out, mid, n + 1, h, c, hm, d => by
  have hlen : (out ++ mid ++ x :: rest).length = out.length + mid.length + rest.length + 1 := by simp; omega
  rw [hlen] at c
  rw [F0, aM (by rw [hlen]; simp; omega)]
  rw [sI (out ++ mid) x rest _ (by simp)]
  simp only [aA, d x (by simp)]
  rw [lQ (x := ((out.length + mid.length : Nat) : Int) + 1) (by omega) (by omega)]
  have ih := NM f1 p z rest
  cases hp : p x with
  | true =>
   simp only [bM, aB, aP, aA]
   have := ih out (mid ++ [x]) n (by simp at h; omega) (by simp; omega) (by simp) (fun y g => d y (by simp [g]))
   simp only [aT, cE, bU, aH, aJ, bW] at this ⊢
   rw [show ((out.length + mid.length : Nat) : Int) + 1 = ((out.length + (mid.length + (0 + 1)) : Nat) : Int) by omega, this]
   simp [hp]
  | false =>
   obtain ⟨m, a, rfl⟩ : ∃ m a, mid = m :: a := by cases mid with
    | nil => exact absurd rfl hm
    | cons m a => exact ⟨m, a, rfl⟩
   simp only [cV, bc]
   rw [aT out (m :: a) (x :: rest), cE]
   rw [sI out m (a ++ x :: rest) _ rfl]
   simp only [aA]
   rw [lQ (x := (out.length : Int) + 1) (by omega) (by simp at c; omega)]
   have := ih (out ++ [x]) (a ++ [x]) n (by simp at h; omega) (by simp at c ⊢; omega) (by simp) (fun y g => d y (by simp [g]))
   simp only [aT, cE, bU, aH, aJ, bW] at this
   have i : (out ++ m :: (a ++ x :: rest)).set (Int.toNat (out.length : Int)) x = out ++ x :: (a ++ x :: rest) := by
    rw [ew, List.set_append_right _ _ (bB _)]; simp
   rw [i]
   simp only [aJ] at c ⊢
   rw [show (out.length : Int) + 1 = ((out.length + (0 + 1) : Nat) : Int) by omega, show ((out.length + (a.length + 1) : Nat) : Int) + 1 = ((out.length + (0 + 1) + (a.length + (0 + 1)) : Nat) : Int) by omega, this]
   simp [hp]
def yo {α : Type} (f1 : α → Option Bool) : List α → Nat → Option Int
 | [], _ => some (-1)
 | x :: xs, i => (f1 x).bind fun r => if r then some (i : Int) else yo f1 xs (i + 1)
theorem DD {α : Type} (f1 : α → Option Bool) (p : α → Bool) : ∀ (l : List α) (i : Nat), (∀ x ∈ l, f1 x = some (p x)) →
  (yo f1 l i = some (-1) ∧ ∀ x ∈ l, p x = false) ∨ ∃ A x B, l = A ++ x :: B ∧ (∀ y ∈ A, p y = false) ∧ p x = true ∧ yo f1 l i = some ((i + A.length : Nat) : Int)
 | [], i, _ => .inl ⟨rfl, by simp⟩
 | x :: l, i, h => by
  rw [yo, h x (by simp)]
  simp only [aA]
  cases hp : p x with
  | true => exact .inr ⟨[], x, l, rfl, by simp, hp, by simp⟩
  | false =>
   simp only [aB, aP]
   rcases DD f1 p l (i + 1) (fun y a => h y (by simp [a])) with ⟨h1, c⟩ | ⟨A, y, B, rfl, h1, c, g⟩
   ·exact .inl ⟨h1, by intro y a; rcases aR.1 a with rfl | a; exact hp; exact c y a⟩
   ·refine .inr ⟨x :: A, y, B, rfl, ?_, c, ?_⟩
    ·intro z d; rcases aR.1 d with rfl | d
     ·exact hp
     ·exact h1 z d
    ·rw [g]; simp; omega
def Km {α : Type} (f1 : α → Option Bool) (z : α) (l : List α) : Option (List α) :=
 (yo f1 l 0).bind fun a => if (a == (-1)) then some l else F0 f1 z lC l a (wi0 .i64 (a + 1))
theorem Nj {α : Type} (f1 : α → Option Bool) (p : α → Bool) (z : α) (l : List α) (d : l.length < 4611686018427387904) (h : ∀ x ∈ l, f1 x = some (p x)) : Km f1 z l = some (l.filter fun x => !p x) := by
 unfold Km
 rcases DD f1 p l 0 h with ⟨h1, c⟩ | ⟨A, x, B, rfl, h1, c, g⟩
 ·rw [h1]
  simp only [aA, bY, bc]
  rw [iR.2 (fun y a => by simp [c y a])]
 ·rw [g]
  simp only [aA, df]
  rw [aK (by simp), lQ (by omega) (by simp at d; omega)]
  have := NM f1 p z B A [x] lC (by rw [pp]; simp at d; omega) (by simpa using d) (by simp) (fun y a => h y (by simp [a]))
  simp only [aT, cE, bU, aJ, bW] at this
  rw [show (A.length : Int) + 1 = ((A.length + (0 + 1) : Nat) : Int) by omega, this]
  have i : A.filter (fun x => !p x) = A := iR.2 (fun y a => by simp [h1 y a])
  rw [List.filter_append, i]
  simp [c]
def rI {α : Type} (eq : α → α → Bool) : α → List α → List α
 | _, [] => []
 | p, y :: ys => if eq y p then rI eq y ys else y :: rI eq y ys
def dd {α : Type} (eq : α → α → Bool) : List α → List α
 | [] => []
 | x :: xs => x :: rI eq x xs
def CB {α : Type} (eq : α → α → Bool) (i : Int) : Nat → List α → Int → Int → Option (List α × Int)
 | 0, _, _, _ => none
 | n + 1, l, k, j => if decide (j < ((l.length - Int.toNat i : Nat) : Int)) then
   ((mx (l.drop (Int.toNat i)) j).bind fun x => (mx (l.drop (Int.toNat i)) (wi0 .i64 (j - 1))).bind fun y => if !(eq x y) then (mx (l.drop (Int.toNat i)) j).bind fun z => (mx l k).bind fun _ => some (l.set (Int.toNat k) z, wi0 .i64 (k + 1)) else some (l, k) : Option (List α × Int)).bind fun (a, k') => CB eq i n a k' (wi0 .i64 (j + 1))
  else some (l, k)
def Ds {α : Type} (eq : α → α → Bool) (z : α) (l : List α) : Nat → Int → Option (List α)
 | 0, _ => none
 | n + 1, i => if decide (i < (l.length : Int)) then (mx l i).bind fun x => (mx l (wi0 .i64 (i - 1))).bind fun y => if eq x y then
    (nG (decide (0 ≤ i) && decide (i ≤ (l.length : Int)))).bind fun _ => (CB eq i lC l i 1).bind fun (a, k) => (nG (decide (0 ≤ k) && decide (k ≤ (a.length : Int)))).bind fun _ => (nG (decide (0 ≤ k) && decide (k ≤ ((oA a (Int.toNat k) z).length : Int)))).bind fun _ => some ((oA a (Int.toNat k) z).take (Int.toNat k))
   else Ds eq z l n (wi0 .i64 (i + 1))
  else some l
def Hb {α : Type} (eq : α → α → Bool) (z : α) (l : List α) : Option (List α) := if decide ((l.length : Int) < 2) then some l else Ds eq z l lC 1
theorem MF {α : Type} (l : List α) (i : Nat) (j : Int) (a : 0 ≤ j) : mx (l.drop i) j = mx l ((i : Int) + j) := by
 obtain ⟨m, rfl⟩ : ∃ m : Nat, j = m := ⟨j.toNat, by omega⟩
 rw [show (i : Int) + (m : Int) = ((i + m : Nat) : Int) by omega, J9, J9, dw]
theorem I3 {α : Type} (eq : α → α → Bool) (i : Nat) : ∀ (rest out mid : List α) (p : α) (n : Nat), rest.length < n → (out ++ (mid ++ [p]) ++ rest).length < 4611686018427387904 → 1 ≤ i → i ≤ out.length →
  ∃ c, CB eq (i : Int) n (out ++ (mid ++ [p]) ++ rest) (out.length : Int) ((out.length + mid.length + 1 - i : Nat) : Int) = some (c, ((out ++ rI eq p rest).length : Int)) ∧ c.take (out ++ rI eq p rest).length = out ++ rI eq p rest ∧ (out ++ rI eq p rest).length ≤ c.length
 | [], out, mid, p, 0, h, _, _, _ => by simp at h
 | [], out, mid, p, n + 1, h, o, h1, k => by
  rw [CB, aK (by simp; omega)]
  exact ⟨out ++ (mid ++ [p]) ++ [], by simp [rI], by simp [rI], by simp [rI]⟩
 | x :: rest, out, mid, p, 0, h, _, _, _ => by simp at h
 | x :: rest, out, mid, p, n + 1, h, o, h1, k => by
  have hlen : (out ++ (mid ++ [p]) ++ x :: rest).length = out.length + mid.length + rest.length + 2 := by simp; omega
  rw [hlen] at o
  rw [CB, aM (by rw [hlen]; simp; omega)]
  rw [ew, MF _ _ _ (by omega), sI (out ++ (mid ++ [p])) x rest _ (by simp; omega)]
  simp only [aA]
  rw [lQ (x := ((out.length + mid.length + 1 - i : Nat) : Int) - 1) (by omega) (by omega), MF _ _ _ (by omega)]
  rw [show out ++ (mid ++ [p]) ++ x :: rest = (out ++ mid) ++ p :: (x :: rest) by simp]
  rw [sI (out ++ mid) p (x :: rest) _ (by simp; omega)]
  simp only [aA]
  rw [lQ (x := ((out.length + mid.length + 1 - i : Nat) : Int) + 1) (by omega) (by omega)]
  cases hp : eq x p with
  | true =>
   simp only [bM, aB, aP, aA]
   obtain ⟨c, d, g, j⟩ := I3 eq i rest out (mid ++ [p]) x n (by simp at h; omega) (by simp; omega) h1 k
   refine ⟨c, ?_, by rw [rI, hp]; exact g, by rw [rI, hp]; exact j⟩
   rw [rI, hp, aM rfl, ← d]
   congr 1
   ·simp
   ·simp; omega
  | false =>
   simp only [cV, bc]
   obtain ⟨m, a, hm⟩ : ∃ m a, mid ++ [p] = m :: a := by cases mid with
    | nil => exact ⟨p, [], rfl⟩
    | cons m a => exact ⟨m, a ++ [p], rfl⟩
   have s : a.length = mid.length := by have := aV List.length hm; simp at this; omega
   rw [show (out ++ mid) ++ p :: (x :: rest) = out ++ m :: (a ++ x :: rest) by rw [← cE, ← hm]; simp]
   rw [sI out m (a ++ x :: rest) _ rfl]
   simp only [aA]
   rw [lQ (x := (out.length : Int) + 1) (by omega) (by omega)]
   have t : (out ++ m :: (a ++ x :: rest)).set (Int.toNat (out.length : Int)) x = (out ++ [x]) ++ (a ++ [x]) ++ rest := by
    rw [ew, List.set_append_right _ _ (bB _)]; simp
   rw [t]
   obtain ⟨c, d, g, j⟩ := I3 eq i rest (out ++ [x]) a x n (by simp at h; omega) (by simp; omega) h1 (by simp; omega)
   refine ⟨c, ?_, ?_, ?_⟩
   ·rw [rI, hp, aK (by decide)]
    have q : ((out ++ x :: rI eq x rest).length : Int) = ((out ++ [x] ++ rI eq x rest).length : Int) := by simp
    rw [q, ← d]
    congr 1
    ·simp
    ·simp; omega
   ·rw [rI, hp, aK (by decide)]; simpa using g
   ·rw [rI, hp, aK (by decide)]; simpa using j
theorem N8 {α : Type} (eq : α → α → Bool) (z : α) : ∀ (rest pre : List α) (p : α) (n : Nat), rest.length < n → (pre ++ p :: rest).length < 4611686018427387904 →
  Ds eq z (pre ++ p :: rest) n ((pre.length + 1 : Nat) : Int) = some (pre ++ p :: rI eq p rest)
 | [], pre, p, 0, h, _ => by simp at h
 | [], pre, p, n + 1, h, i => by rw [Ds, aK (by simp)]; simp [rI]
 | x :: rest, pre, p, 0, h, _ => by simp at h
 | x :: rest, pre, p, n + 1, h, i => by
  have hlen : (pre ++ p :: x :: rest).length = pre.length + rest.length + 2 := by simp; omega
  rw [hlen] at i
  rw [Ds, aM (by rw [hlen]; simp; omega)]
  rw [show pre ++ p :: x :: rest = (pre ++ [p]) ++ x :: rest by simp, sI (pre ++ [p]) x rest _ (by simp)]
  simp only [aA]
  rw [lQ (x := ((pre.length + 1 : Nat) : Int) - 1) (by omega) (by omega)]
  rw [show (pre ++ [p]) ++ x :: rest = pre ++ p :: (x :: rest) by simp, sI pre p (x :: rest) _ (by omega)]
  simp only [aA]
  cases hp : eq x p with
  | true =>
   simp only [bc]
   rw [wD (by omega) (by rw [hlen]; omega)]
   simp only [aA]
   obtain ⟨j, a, g, d⟩ := I3 eq (pre.length + 1) rest (pre ++ [p]) [] x lC (by rw [pp]; omega) (by simp; omega) (by omega) (by simp)
   simp only [aT, cE, bU, aH, aJ, bW] at a g d
   rw [show (pre.length + (0 + 1) + 0 + 1 - (pre.length + 1) : Nat) = 1 by omega] at a
   rw [show ((pre.length + 1 : Nat) : Int) = ((pre.length + (0 + 1) : Nat) : Int) by omega] at *
   have c : CB eq ((pre.length + (0 + 1) : Nat) : Int) lC (pre ++ p :: x :: rest) ((pre.length + (0 + 1) : Nat) : Int) 1 = _ := a
   rw [c]
   simp only [aA]
   rw [wD (by omega) (by omega)]
   simp only [aA, ew]
   rw [wD (by omega) (by rw [wv _ _ _ d]; omega)]
   simp only [aA]
   rw [Iu _ _ _ d, g, rI, hp]
   simp
  | false =>
   simp only [aB, aP]
   rw [lQ (x := ((pre.length + 1 : Nat) : Int) + 1) (by omega) (by omega)]
   have := N8 eq z rest (pre ++ [p]) x n (by simp at h; omega) (by simp; omega)
   simp only [aT, cE, bU, aH, aJ, bW] at this
   rw [show ((pre.length + 1 : Nat) : Int) + 1 = ((pre.length + (0 + 1) + 1 : Nat) : Int) by omega, this, rI, hp]
   simp
theorem I0 {α : Type} (eq : α → α → Bool) (z : α) (l : List α) (a : l.length < 4611686018427387904) : Hb eq z l = some (dd eq l) := by
 unfold Hb
 cases l with
 | nil => rfl
 | cons x xs =>
  cases xs with
  | nil => simp [dd, rI]
  | cons y ys =>
   rw [aK (by simp; omega)]
   have := N8 eq z (y :: ys) [] x lC (by rw [pp]; simp at a ⊢; omega) (by simpa using a)
   simpa [dd] using this
structure BD {α : Type} (lt : α → α → Prop) (P : α → Prop) : Prop where
 irrefl : ∀ x, P x → ¬ lt x x
 trans : ∀ x y z, P x → P y → P z → lt x y → lt y z → lt x z
 total : ∀ x y, P x → P y → lt x y ∨ x = y ∨ lt y x
def qP {α : Type} (lt : α → α → Prop) (P : α → Prop) (l out : List α) : Prop := out.Pairwise lt ∧ ∀ x, x ∈ out ↔ x ∈ l ∧ P x
theorem qP.unique {α : Type} {lt : α → α → Prop} {P : α → Prop} (H : BD lt P) : ∀ {l a b : List α}, qP lt P l a → qP lt P l b → a = b := by
 have key : ∀ a b : List α, (∀ x ∈ a, P x) → a.Pairwise lt → b.Pairwise lt → (∀ x, x ∈ a ↔ x ∈ b) → a = b := by
  intro a
  induction a with
  | nil => intro b _ _ _ hm; cases b with
   | nil => rfl
   | cons y ys => exact absurd ((hm y).2 (by simp)) (by simp)
  | cons x xs ih =>
   intro b m ha j hm
   cases b with
   | nil => exact absurd ((hm x).1 (by simp)) (by simp)
   | cons y ys =>
    have n : P y := m y ((hm y).2 (by simp))
    have c : P x := m x (by simp)
    have d := ed.1 ha
    have g := ed.1 j
    have o : x = y := by
     rcases aR.1 ((hm x).1 (by simp)) with h | h
     ·exact h
     ·rcases aR.1 ((hm y).2 (by simp)) with k | k
      ·exact k.symm
      ·exact absurd (H.trans x y x c n c (d.1 y k) (g.1 x h)) (H.irrefl x c)
    subst o
    congr 1
    refine ih ys (fun z i => m z (by simp [i])) d.2 g.2 (fun z => ?_)
    constructor
    ·intro i
     rcases aR.1 ((hm z).1 (by simp [i])) with h | h
     ·subst h; exact absurd (d.1 z i) (H.irrefl z c)
     ·exact h
    ·intro i
     rcases aR.1 ((hm z).2 (by simp [i])) with h | h
     ·subst h; exact absurd (g.1 z i) (H.irrefl z c)
     ·exact h
 intro l a b ha j
 exact key a b (fun x q => ((ha.2 x).1 q).2) ha.1 j.1 (fun x => (ha.2 x).trans (j.2 x).symm)
theorem FR {α : Type} {eq : α → α → Bool} (he : ∀ x y, eq x y = true ↔ x = y) : ∀ (l : List α) (p x : α), x ∈ p :: rI eq p l ↔ x ∈ p :: l
 | [], p, x => by simp [rI]
 | y :: l, p, x => by
  rw [rI]
  split
  ·rename_i h
   have := (he y p).1 h
   subst this
   rw [FR he l y x]; simp
  ·have := FR he l y x
   simp only [aR] at this ⊢
   rw [this]
theorem Wu {α : Type} {eq : α → α → Bool} (he : ∀ x y, eq x y = true ↔ x = y) (l : List α) (x : α) : x ∈ dd eq l ↔ x ∈ l := by
 cases l with
 | nil => simp [dd]
 | cons y l => exact FR he l y x
theorem EI {α : Type} {eq : α → α → Bool} {lt : α → α → Prop} {P : α → Prop} (he : ∀ x y, eq x y = true ↔ x = y) (H : BD lt P) : ∀ (l : List α) (p : α), (∀ x ∈ p :: l, P x) → (p :: l).Pairwise (fun a b => ¬ lt b a) → (p :: rI eq p l).Pairwise lt
 | [], p, _, _ => by simp [rI]
 | y :: l, p, c, n => by
  have h1 := ed.1 n
  rw [rI]
  split
  ·rename_i h
   have := (he y p).1 h
   subst this
   exact EI he H l y (fun x i => c x (dH _ i)) h1.2
  ·rename_i h
   have ih := EI he H l y (fun x i => c x (dH _ i)) h1.2
   refine ed.2 ⟨fun z m => ?_, ih⟩
   have g : lt p y := by
    rcases H.total p y (c p (by simp)) (c y (by simp)) with d | d | d
    ·exact d
    ·exact absurd ((he y p).2 d.symm) h
    ·exact absurd d (h1.1 y (by simp))
   rcases aR.1 m with rfl | j
   ·exact g
   ·have k : z ∈ y :: l := (FR he l y z).1 m
    exact H.trans p y z (c p (by simp)) (c y (by simp)) (c z (dH _ k)) g ((ed.1 ih).1 z j)
theorem Rk {α : Type} {eq : α → α → Bool} {lt : α → α → Prop} {P : α → Prop} (he : ∀ x y, eq x y = true ↔ x = y) (H : BD lt P) (l : List α) (c : ∀ x ∈ l, P x) (d : l.Pairwise (fun a b => ¬ lt b a)) : (dd eq l).Pairwise lt := by
 cases l with
 | nil => simp [dd]
 | cons y l => exact EI he H l y c d
theorem LC {α : Type} {le : α → α → Bool} {P : α → Prop} (i : ∀ a b c, P a → P b → P c → le a b = true → le b c = true → le a c = true) (h : ∀ a b, P a → P b → (le a b || le b a) = true) (l : List α) (d : ∀ x ∈ l, P x) :
  (l.mergeSort le).Pairwise (fun a b => le a b = true) := by
 have e : l = (l.attachWith P d).map Subtype.val := by simp
 have hm : ((l.attachWith P d).mergeSort fun a b => le a.1 b.1).map Subtype.val = l.mergeSort le := by
  conv => rhs; rw [e]
  exact gk (fun a _ b _ => rfl)
 rw [← hm, fF]
 exact gA (le := fun (a b : {x // P x}) => le a.1 b.1) (fun a b c h1 g => i a.1 b.1 c.1 a.2 b.2 c.2 h1 g) (fun a b => h a.1 b.1 a.2 b.2) _
theorem zY {α : Type} {eq : α → α → Bool} {lt : α → α → Prop} {P : α → Prop} {cf : α × α → Option Int} {l : List α} (he : ∀ x y, eq x y = true ↔ x = y) (H : BD lt P) (g : ∀ x ∈ l, P x) (D : l.length < 4611686018427387904) (A : ∀ x y, P x → P y → ∃ c, cf (x, y) = some c ∧ (c < 0 ↔ lt x y)) : ∃ s, yA cf l = some s ∧ s.length = l.length ∧ qP lt P l (dd eq s) := by
 have j : ∀ x y, P x → P y → (uv cf x y = true ↔ lt x y) := fun x y i n => by
  obtain ⟨c, h1, m⟩ := A x y i n
  unfold uv
  rw [h1]
  simpa using m
 have d : ∀ x y, P x → P y → (uv cf x y = false ↔ ¬ lt x y) := fun x y i n => by
  rw [← j x y i n]; simp
 have ok : G6 cf l := by
  refine ⟨fun x i y n => ?_, fun x i => ?_, fun x i y n z v h1 m => ?_, fun x i y n h1 m => ?_, D⟩
  ·obtain ⟨c, h1, _⟩ := A x y (g x i) (g y n); exact ⟨c, h1⟩
  ·exact (d x x (g x i) (g x i)).2 (H.irrefl x (g x i))
  ·rw [j _ _ (g x i) (g y n)] at h1
   rw [j _ _ (g y n) (g z v)] at m
   rw [j _ _ (g x i) (g z v)]
   exact H.trans x y z (g x i) (g y n) (g z v) h1 m
  ·rw [d _ _ (g x i) (g y n)] at h1
   rw [d _ _ (g y n) (g x i)] at m
   rcases H.total x y (g x i) (g y n) with h | h | h
   ·exact absurd h h1
   ·exact h
   ·exact absurd h m
 refine ⟨_, Oj ok, by simp [pQ], ?_, ?_⟩
 ·have k : ∀ x, x ∈ pQ cf l ↔ x ∈ l := fun x => by simp [pQ]
  refine Rk he H _ (fun x i => g x ((k x).1 i)) ?_
  have := LC (le := fun x y => !uv cf y x) (P := P) (fun a b c ha o q h1 m => ?_) (fun a b ha o => ?_) l g
  ·refine (this.imp_of_mem ?_ : _)
   intro a b ha o h
   have t : a ∈ l := (k a).1 ha
   have u : b ∈ l := (k b).1 o
   simp at h
   exact (d b a (g b u) (g a t)).1 h
  ·simp at h1 m ⊢
   rw [d _ _ o ha] at h1
   rw [d _ _ q o] at m
   rw [d _ _ q ha]
   intro w
   rcases H.total a b ha o with h | h | h
   ·exact m (H.trans c a b q ha o w h)
   ·subst h; exact m w
   ·exact h1 h
  ·simp only [dW, jC]
   rw [d _ _ o ha, d _ _ ha o]
   by_cases h : lt b a
   ·right; intro m; exact H.irrefl a ha (H.trans a b a ha o ha m h)
   ·exact .inl h
 ·intro x
  rw [Wu he]
  constructor
  ·intro i
   have : x ∈ l := by simpa [pQ] using i
   exact ⟨this, g x this⟩
  ·intro i; simpa [pQ] using i.1
theorem Ho : ∀ a : List UInt8, Op.bytesLess a a = false
 | [] => rfl
 | x :: a => by simp [Op.bytesLess, Ho a]
theorem N5 (x y : UInt8) : x < y ∨ x = y ∨ y < x := by
 rcases fG x.toNat y.toNat with h | h | h
 ·exact .inl h
 ·exact .inr (.inl (UInt8.toNat_inj.1 h))
 ·exact .inr (.inr h)
theorem IB : ∀ a b c : List UInt8, Op.bytesLess a b = true → Op.bytesLess b c = true → Op.bytesLess a c = true
 | [], [], c, h1, _ => by simp [Op.bytesLess] at h1
 | _ :: _, [], c, h1, _ => by simp [Op.bytesLess] at h1
 | a, _ :: _, [], _, d => by simp [Op.bytesLess] at d
 | [], b :: g, c :: cs, _, _ => rfl
 | a :: ax, b :: g, c :: cs, h1, d => by
  simp only [Op.bytesLess, dW, bV, aU, gj] at h1 d ⊢
  rcases h1 with h1 | ⟨rfl, h1⟩
  ·rcases d with d | ⟨rfl, d⟩
   ·exact .inl (UInt8.lt_trans h1 d)
   ·exact .inl h1
  ·rcases d with d | ⟨rfl, d⟩
   ·exact .inl d
   ·exact .inr ⟨rfl, IB ax g cs h1 d⟩
theorem IC : ∀ a b : List UInt8, Op.bytesLess a b = true ∨ a = b ∨ Op.bytesLess b a = true
 | [], [] => .inr (.inl rfl)
 | [], _ :: _ => .inl rfl
 | _ :: _, [] => .inr (.inr rfl)
 | a :: ax, b :: c => by
  simp only [Op.bytesLess, dW, bV, aU, gj, bL]
  rcases N5 a b with h | h | h
  ·exact .inl (.inl h)
  ·subst h
   rcases IC ax c with h | h | h
   ·exact .inl (.inr ⟨rfl, h⟩)
   ·exact .inr (.inl ⟨rfl, h⟩)
   ·exact .inr (.inr (.inr ⟨rfl, h⟩))
  ·exact .inr (.inr (.inl h))
theorem HT : ∀ a b : List UInt8, (Lib.compareBytes a b < 0 ↔ Op.bytesLess a b = true)
 | [], [] => by simp [Lib.compareBytes, Op.bytesLess]
 | [], _ :: _ => by simp [Lib.compareBytes, Op.bytesLess]
 | _ :: _, [] => by simp [Lib.compareBytes, Op.bytesLess]
 | a :: ax, b :: g => by
  simp only [Lib.compareBytes, Op.bytesLess, dW, bV, aU, gj]
  by_cases h : a < b
  ·simp [h]
  ·by_cases d : b < a
   ·have : a ≠ b := by rintro rfl; exact h d
    simp [h, d, this]
   ·have : a = b := by rcases N5 a b with c | c | c; exact absurd c h; exact c; exact absurd c d
    subst this
    simp [h, HT ax g]
theorem Ge : ∀ a b : List UInt8, (Lib.compareBytes a b = 0 ↔ a = b)
 | [], [] => by simp [Lib.compareBytes]
 | [], _ :: _ => by simp [Lib.compareBytes]
 | _ :: _, [] => by simp [Lib.compareBytes]
 | a :: ax, b :: g => by
  simp only [Lib.compareBytes, bL]
  by_cases h : a < b
  ·simp only [h, bc]
   constructor
   ·intro h; cases h
   ·rintro ⟨rfl, _⟩; exact absurd h (by simp)
  ·by_cases d : b < a
   ·simp only [h, d, bc, aP]
    constructor
    ·intro h; cases h
    ·rintro ⟨rfl, _⟩; exact absurd d (by simp)
   ·have : a = b := by rcases N5 a b with c | c | c; exact absurd c h; exact c; exact absurd c d
    subst this
    simp [h, Ge ax g]
theorem Bw (a b : ByteArray) : qp a b = Op.bytesLess a.data.toList b.data.toList := by unfold qp; rw [eZ, eZ]
theorem BW {a b : ByteArray} (h : a.data.toList = b.data.toList) : a = b := jG (Array.toList_inj.1 h)
theorem vn (a : ByteArray) : qp a a = false := by rw [Bw, Ho]
theorem B9 {a b c : ByteArray} (h1 : qp a b = true) (d : qp b c = true) : qp a c = true := by rw [Bw] at *; exact IB _ _ _ h1 d
theorem BZ (a b : ByteArray) : qp a b = true ∨ a = b ∨ qp b a = true := by
 rw [Bw, Bw]
 rcases IC a.data.toList b.data.toList with h | h | h
 ·exact .inl h
 ·exact .inr (.inl (BW h))
 ·exact .inr (.inr h)
theorem Lg {a b : ByteArray} (h : qp a b = true) : qp b a = false := by
 cases c : qp b a with
 | false => rfl
 | true => have := B9 h c; rw [vn] at this; cases this
theorem HX (P : ByteArray → Prop) : BD (fun a b => qp a b = true) P :=
 ⟨fun x _ h => (by rw [vn] at h; cases h), fun x y z _ _ _ => B9, fun x y _ _ => BZ x y⟩
def DJ (b : UInt8) : Bool := decide (97 ≤ b.toNat) && decide (b.toNat ≤ 122)
def Fy (b : UInt8) : Bool := DJ b || (decide (48 ≤ b.toNat) && decide (b.toNat ≤ 57)) || decide (b.toNat = 45)
def mZ (s : ByteArray) : Bool := decide (1 ≤ s.size) && decide (s.size ≤ 16) && (match s.data.toList with | [] => false | b :: _ => DJ b) && s.data.toList.all Fy
theorem nz {s : ByteArray} (h : mZ s = true) : 1 ≤ s.size ∧ s.size ≤ 16 := by
 simp only [mZ, aU, bV] at h
 exact h.1.1
theorem Qg : ∀ n : Nat, n < 256 → decide (zA (⟨#[97, 98, 99, 100, 101, 102, 103, 104, 105, 106, 107, 108, 109, 110, 111, 112, 113, 114, 115, 116, 117, 118, 119, 120, 121, 122]⟩ : ByteArray) (n : Int) ≥ 0) = DJ (UInt8.ofNat n) := by decide +kernel
theorem TX : ∀ n : Nat, n < 256 → decide (zA (⟨#[97, 98, 99, 100, 101, 102, 103, 104, 105, 106, 107, 108, 109, 110, 111, 112, 113, 114, 115, 116, 117, 118, 119, 120, 121, 122, 48, 49, 50, 51, 52, 53, 54, 55, 56, 57, 45]⟩ : ByteArray) (n : Int) < 0) = !Fy (UInt8.ofNat n) := by decide +kernel
theorem za (s : ByteArray) : s.size = s.data.toList.length := by rw [cU]; rfl
theorem EL {s : ByteArray} (h : s.size ≤ 16) : FB s = some (ve s) := by
 unfold FB; rw [aM (by unfold maxLen; omega)]
theorem Nk : ∀ l : List UInt8, xv (l.map fun b => (b.toNat : Int)) = some (l.all Fy)
 | [] => rfl
 | b :: l => by
  rw [bD, xv]
  simp only [tb, pt, aA]
  have a := TX b.toNat (jq b)
  rw [a]
  simp only [jD, fA]
  cases Fy b with
  | true => simp [Nk l]
  | false => simp
theorem Ld {s : ByteArray} {b : UInt8} {l : List UInt8} (h : s.data.toList = b :: l) : CA s 0 = some b := by
 unfold CA
 rw [aM (Int.le_refl 0)]
 have a : s.data[0]? = some b := by rw [← de, h]; rfl
 show s[0]? = some b
 rw [← a]
 rfl
theorem sF (s : ByteArray) : qi s = some (mZ s) := by
 unfold qi
 simp only [Bm, aA, uN]
 by_cases h1 : 1 ≤ s.size
 ·by_cases a : s.size ≤ 16
  ·rw [aM (by simp; omega)]
   obtain ⟨b, l, c⟩ : ∃ b l, s.data.toList = b :: l := by
    cases h : s.data.toList with
    | nil => rw [za, h] at h1; simp at h1
    | cons b l => exact ⟨b, l, rfl⟩
   rw [Ld c]
   simp only [aA, tb, pt]
   rw [Qg b.toNat (jq b)]
   simp only [jD, mZ, h1, a, c, eE, ek]
   cases DJ b with
   | false => simp
   | true =>
    simp only [bc, EE, EL a, aA, ve]
    rw [Nk, c]
    simp
  ·rw [aK (by simp; omega)]
   simp [mZ, a]
 ·rw [aK (by simp; omega)]
  simp [mZ, h1]
theorem UK {s : ByteArray} {A B : List UInt8} {b : UInt8} (h : s.data.toList = A ++ b :: B) (i : Int) (c : i = (A.length : Int)) : CA s i = some b := by
 subst c
 unfold CA
 rw [aM (by omega), ew]
 have a : s.data[A.length]? = some b := by rw [← de, h]; simp
 show s[A.length]? = some b
 rw [← a]
 rfl
theorem Hs (s : ByteArray) (w : s.size ≤ 16) : ∀ (B A : List UInt8) (n : Nat), s.data.toList = A ++ B → B.length < n → rC s n (A.length : Int) = some (B.all Fy)
  | [], A, 0, _, h => by simp at h
  | [], A, n + 1, h, _ => by
    have : s.size = A.length := by rw [za, h]; simp
    rw [rC, aK (by rw [this]; simp)]
    rfl
  | b :: B, A, 0, _, h => by simp at h
  | b :: B, A, n + 1, h, v => by
    have k : s.size = A.length + B.length + 1 := by rw [za, h]; simp; omega
    rw [rC, aM (by rw [k]; simp; omega)]
    rw [UK h _ rfl]
    simp only [aA]
    rw [lQ (x := (A.length : Int) + 1) (by omega) (by omega)]
    have ih := Hs s w B (A ++ [b]) n (by rw [h]; simp) (by simp at v; omega)
    rw [show ((A ++ [b]).length : Int) = (A.length : Int) + 1 by simp] at ih
    simp only [fA]
    have j : ∀ n : Nat, n < 256 → Fy (UInt8.ofNat n) = !((decide (n < 97) || decide (n > 122)) && (decide (n < 48) || decide (n > 57)) && decide (n ≠ 45)) := by decide +kernel
    have m := j b.toNat (jq b)
    simp only [jD] at m
    rw [m]
    by_cases h1 : b.toNat < 97 <;> by_cases o : b.toNat > 122 <;> by_cases q : b.toNat < 48 <;> by_cases t : b.toNat > 57 <;> by_cases u : b.toNat = 45 <;>
      first
      | omega
      | (have a : ((b.toNat : Int) < 97) = (b.toNat < 97) := by rw [jr]; omega
         have c : ((b.toNat : Int) > 122) = (b.toNat > 122) := by rw [jr]; omega
         have d : ((b.toNat : Int) < 48) = (b.toNat < 48) := by rw [jr]; omega
         have g : ((b.toNat : Int) > 57) = (b.toNat > 57) := by rw [jr]; omega
         have i : ((b.toNat : Int) != 45) = !decide (b.toNat = 45) := by rw [bF]; simp; omega
         simp [h1, o, q, t, u, a, c, d, g, i, ih])
theorem xE (a : ByteArray) : ma a a = true := mM.2 rfl
theorem VC : zS.size = 0 := rfl
theorem Uv {s : ByteArray} : s = zS ↔ s.size = 0 := by
 constructor
 ·rintro rfl; rfl
 ·intro h; exact BW (by rw [za] at h; rw [dF.1 h]; rfl)
theorem AA (s : ByteArray) : sQ s = some (mZ s) := by
 unfold sQ
 simp only [Uu, aA, uN]
 by_cases g : s.size = 0
 ·have : s = zS := Uv.2 g
  subst this
  rw [xE]
  rfl
 ·have n : ma s zS = false := by
   cases h : ma s zS with
   | false => rfl
   | true => exact absurd (Uv.1 (mM.1 h)) g
  rw [n]
  simp only [iG]
  by_cases i : s.size ≤ 16
  ·rw [aK (by simp; omega)]
   obtain ⟨b, l, k⟩ : ∃ b l, s.data.toList = b :: l := by
    cases h : s.data.toList with
    | nil => rw [za, h] at g; simp at g
    | cons b l => exact ⟨b, l, rfl⟩
   rw [Ld k]
   simp only [aA, Uu]
   have m := Hs s i s.data.toList [] lC rfl (by rw [pp, ← za]; omega)
   simp only [bW] at m
   rw [show (0 : Int) = ((0 : Nat) : Int) from rfl] at *
   rw [m]
   have j : ((b.toNat : Int) < 97) = (b.toNat < 97) := by rw [jr]; omega
   have d : ((b.toNat : Int) > 122) = (b.toNat > 122) := by rw [jr]; omega
   have h1 : 1 ≤ s.size := by omega
   simp only [mZ, h1, i, k, DJ, eE, ek, j, d]
   by_cases a : b.toNat < 97
   ·simp [a, show ¬ 97 ≤ b.toNat by omega]
   ·by_cases c : b.toNat > 122
    ·simp [a, c, show ¬ b.toNat ≤ 122 by omega]
    ·simp [a, c, show 97 ≤ b.toNat by omega, show b.toNat ≤ 122 by omega]
  ·rw [aM (by simp; omega)]
   simp [mZ, i]
def ml (r : kw) : Bool := mZ r.kE && mZ r.kT
theorem uz (r : kw) : pA r = some (ml r) := by
 unfold pA ml
 simp only [sF, aA]
 cases mZ r.kE <;> simp
theorem AB (r : kw) : sS r = some (ml r) := by
 unfold sS ml
 simp only [AA, aA]
 cases mZ r.kE <;> simp
def xg (a b : kw) : Bool := qp a.kE b.kE || (ma a.kE b.kE && qp a.kT b.kT)
theorem ux (a b : kw) : qZ a b = some (xg a b) := by
 unfold qZ xg
 cases qp a.kE b.kE <;> cases ma a.kE b.kE <;> simp
theorem Pp {a b : ByteArray} (h : a ≠ b) : ma a b = false := by
 cases c : ma a b with
 | false => rfl
 | true => exact absurd (mM.1 c) h
theorem Dd {a b : kw} : xg a b = true ↔ qp a.kE b.kE = true ∨ (a.kE = b.kE ∧ qp a.kT b.kT = true) := by
 simp [xg, mM]
theorem uy (P : kw → Prop) : BD (fun a b => xg a b = true) P := by
 refine ⟨fun x _ h => ?_, fun x y z _ _ _ h1 c => ?_, fun x y _ _ => ?_⟩
 ·rw [Dd] at h
  simp [vn] at h
 ·rw [Dd] at *
  rcases h1 with h1 | ⟨g, h1⟩
  ·rcases c with c | ⟨d, c⟩
   ·exact .inl (B9 h1 c)
   ·exact .inl (by rw [← d]; exact h1)
  ·rcases c with c | ⟨d, c⟩
   ·exact .inl (by rw [g]; exact c)
   ·exact .inr ⟨g.trans d, B9 h1 c⟩
 ·simp only [Dd]
  rcases BZ x.kE y.kE with h | h | h
  ·exact .inl (.inl h)
  ·rcases BZ x.kT y.kT with c | c | c
   ·exact .inl (.inr ⟨h, c⟩)
   ·refine .inr (.inl ?_)
    cases x; cases y; simp at h c; simp [h, c]
   ·exact .inr (.inr (.inr ⟨h.symm, c⟩))
  ·exact .inr (.inr (.inl h))
theorem vk (a b : kw) : ∃ c, nw a b = some c ∧ (c < 0 ↔ xg a b = true) := by
 unfold nw
 simp only [pN, nC, aA, se, pc]
 have h1 : ∀ a b : ByteArray, (oz a b < 0 ↔ qp a b = true) := fun a b => by rw [Bw]; exact HT _ _
 have g : ∀ a b : ByteArray, (oz a b = 0 ↔ a = b) := fun a b => by
  unfold oz; rw [Ge]; exact ⟨BW, fun h => by rw [h]⟩
 by_cases e : oz a.kE b.kE = 0
 ·rw [aK (by simp [e])]
  have e' := (g _ _).1 e
  by_cases d : oz a.kT b.kT = 0
  ·rw [aK (by simp [d])]
   refine ⟨0, rfl, ?_⟩
   rw [Dd, e', (g _ _).1 d]
   simp [vn]
  ·rw [aM (by simp [d])]
   refine ⟨_, rfl, ?_⟩
   rw [Dd, e', h1]
   simp [vn]
 ·rw [aM (by simp [e])]
  refine ⟨_, rfl, ?_⟩
  rw [Dd, h1]
  have : a.kE ≠ b.kE := fun h => e ((g _ _).2 h)
  simp [this]
def zR : kw := ⟨zS, zS⟩
theorem KZ (a b : ByteArray) : ma a b = ma b a := by rw [bF, mM, mM]; exact kh
theorem HE (a b : kw) : kN a b = kN b a := by rw [bF, kP, kP]; exact kh
theorem vU (a : kw) : kN a a = true := kP.2 rfl
def mf (c : ky) : Bool := ml c.Head && (
 if c.Kind == 1 then mZ c.lx && kN zR c.B && kN zR c.C && ma zS c.lU
 else if c.Kind == 2 then ml c.B && ma zS c.lx && kN zR c.C && ma zS c.lU
 else if c.Kind == 3 then ml c.B && ma c.B.kE c.Head.kE && mZ c.lU && ma zS c.lx && kN zR c.C
 else if c.Kind == 4 then ml c.B && ml c.C && xg c.B c.C && ma zS c.lx && ma zS c.lU
 else false)
theorem pV (c : ky) : pD c = some (mf c) := by
 unfold pD mf
 simp only [uz, sF, aA]
 obtain ⟨k, hk, a⟩ := vk c.B c.C
 rw [hk]
 have d : decide (k < 0) = xg c.B c.C := by rw [bF, ← a]; simp
 simp only [aA, d]
 by_cases h1 : c.Kind = 1
 ·cases ml c.Head <;> cases mZ c.lx <;> simp [h1, oI, vU, xE, zR, js]
 ·by_cases g : c.Kind = 2
  ·cases ml c.Head <;> cases ml c.B <;> simp [g, oI, vU, xE, zR, js]
  ·by_cases h : c.Kind = 3
   ·cases ml c.Head <;> cases ml c.B <;> cases ma c.B.kE c.Head.kE <;> cases mZ c.lU <;> simp [h, oI, vU, xE, zR, js]
   ·by_cases i : c.Kind = 4
    ·cases ml c.Head <;> cases ml c.B <;> cases ml c.C <;> cases xg c.B c.C <;> simp [i, oI, vU, xE, zR, js]
    ·simp [h1, g, h, i]
theorem Az (c : ky) : wy c = some (mf c) := by
 unfold wy mf
 simp only [AB, AA, ux, aA]
 rw [show (⟨zS, zS⟩ : kw) = zR from rfl, HE c.B zR, HE c.C zR, KZ c.lU zS, KZ c.lx zS]
 by_cases h1 : c.Kind = 1
 ·cases ml c.Head <;> cases mZ c.lx <;> cases kN zR c.B <;> cases kN zR c.C <;> simp [h1]
 ·by_cases a : c.Kind = 2
  ·cases ml c.Head <;> cases ml c.B <;> cases ma zS c.lx <;> cases kN zR c.C <;> simp [a]
  ·by_cases d : c.Kind = 3
   ·cases ml c.Head <;> cases ml c.B <;> cases ma zS c.lx <;> cases kN zR c.C <;> cases ma c.B.kE c.Head.kE <;> simp [d]
   ·by_cases g : c.Kind = 4
    ·cases ml c.Head <;> cases ml c.B <;> cases ma zS c.lx <;> cases ma zS c.lU <;> cases ml c.C <;> simp [g]
    ·cases ml c.Head <;> cases ml c.B <;> cases ma zS c.lx <;> simp [h1, a, d, g]
theorem mG {α : Type} {b : Nat} {l m : List α} (h : (l.length + m.length) * b ≤ 140737488355328) (a : l.length + m.length ≤ 9223372036854775807) : mJ b l m = some (l ++ m) := by
 unfold mJ; rw [aM ⟨h, by unfold maxLen; omega⟩]
theorem Cz {l m : List Int} (h : l.length + m.length ≤ 1000000) : mJ 1 l m = some (l ++ m) := mG (by omega) (by omega)
def tY (s : ByteArray) : List Int := (s.size : Int) :: ve s
def pv (r : kw) : List Int := tY r.kE ++ tY r.kT
def yD (c : ky) : List Int := if c.Kind = 1 then tY c.lx else if c.Kind = 2 then pv c.B else if c.Kind = 3 then pv c.B ++ tY c.lU else pv c.B ++ pv c.C
def qM (c : ky) : List Int := c.Kind :: (pv c.Head ++ yD c)
theorem qc (s : ByteArray) : (tY s).length = s.size + 1 := by simp [tY, nD]
theorem nF {r : kw} (h : ml r = true) : (pv r).length ≤ 34 := by
 simp only [ml, aU] at h
 have h1 := nz h.1
 have a := nz h.2
 simp [pv, qc]; omega
theorem El {l : List Int} {n : Int} (a : 0 ≤ n) (h1 : n < 128) (c : l.length ≤ 100000) : mV l n = some (true, l ++ [n]) := by
 have hw : IntKind.u8.wrap n = n := by
  obtain ⟨k, rfl⟩ : ∃ k : Nat, n = k := ⟨n.toNat, by omega⟩
  have : ∀ k : Nat, k < 128 → IntKind.u8.wrap (k : Int) = (k : Int) := by decide +kernel
  exact this k (by omega)
 unfold mV
 rw [aK (by simp; omega), tM, oG, aK (by simp; omega), hw, Cz (by simp; omega)]
 rfl
theorem HY {l : List Int} {s : ByteArray} (h : mZ s = true) (a : l.length ≤ 10000) : rj l s = some (true, l ++ tY s) := by
 have h1 := nz h
 unfold rj
 simp only [sF, aA, h, bc, EL h1.2]
 unfold xm
 rw [aK (by rw [nD]; simp; omega)]
 rw [nD, El (by omega) (by omega) (by omega)]
 simp only [aA]
 rw [Cz (by simp [nD]; omega)]
 simp [tY]
theorem TR {l : List Int} {r : kw} (h : ml r = true) (c : l.length ≤ 9000) : oU l r = some (true, l ++ pv r) := by
 have a := h
 simp only [ml, aU] at h
 have h1 := nz h.1
 unfold oU
 simp only [uz, aA, a, bc]
 rw [HY h.1 (by omega)]
 simp only [aA, bc]
 rw [HY h.2 (by simp [qc]; omega)]
 simp [pv]
theorem Fv {l : List Int} {r : kw} (h : ml r = true) (a : l.length ≤ 1000) : oU l r = some (true, l ++ pv r) := TR h (by omega)
theorem zT {c : ky} (h : mf c = true) : ml c.Head = true := by
 simp only [mf, aU] at h; exact h.1
theorem nL {c : ky} (h : mf c = true) :
  (c.Kind = 1 ∧ mZ c.lx = true ∧ c.B = zR ∧ c.C = zR ∧ c.lU = zS) ∨
  (c.Kind = 2 ∧ ml c.B = true ∧ c.lx = zS ∧ c.C = zR ∧ c.lU = zS) ∨
  (c.Kind = 3 ∧ ml c.B = true ∧ mZ c.lU = true ∧ c.B.kE = c.Head.kE ∧ c.lx = zS ∧ c.C = zR) ∨
  (c.Kind = 4 ∧ ml c.B = true ∧ ml c.C = true ∧ xg c.B c.C = true ∧ c.lx = zS ∧ c.lU = zS) := by
 simp only [mf, aU] at h
 obtain ⟨_, h⟩ := h
 split at h
 ·rename_i h1
  simp only [aU, kP, mM] at h
  exact .inl ⟨by simpa using h1, h.1.1.1, h.1.1.2.symm, h.1.2.symm, h.2.symm⟩
 ·split at h
  ·rename_i h1
   simp only [aU, kP, mM] at h
   exact .inr (.inl ⟨by simpa using h1, h.1.1.1, h.1.1.2.symm, h.1.2.symm, h.2.symm⟩)
  ·split at h
   ·rename_i h1
    simp only [aU, kP, mM] at h
    exact .inr (.inr (.inl ⟨by simpa using h1, h.1.1.1.1, h.1.1.2, h.1.1.1.2, h.1.2.symm, h.2.symm⟩))
   ·split at h
    ·rename_i h1
     simp only [aU, kP, mM] at h
     exact .inr (.inr (.inr ⟨by simpa using h1, h.1.1.1.1, h.1.1.1.2, h.1.1.2, h.1.2.symm, h.2.symm⟩))
    ·cases h
theorem AZ (c : ky) : vT c = some (if mf c then qM c else []) := by
 unfold vT
 rw [pV]
 simp only [aA]
 cases h : mf c with
 | false => simp
 | true =>
  have i := zT h
  have j := nF i
  simp only [bM, aB, aP, bc]
  have hk : 0 ≤ c.Kind ∧ c.Kind < 128 := by rcases nL h with h | h | h | h <;> omega
  rw [El hk.1 hk.2 (by simp)]
  simp only [aA]
  rw [Fv i (by simp)]
  simp only [aA, qk, pG]
  rcases nL h with ⟨k, h1, _⟩ | ⟨k, h1, _⟩ | ⟨k, h1, a, _⟩ | ⟨k, h1, a, _⟩
  ·have d := nz h1
   simp only [k, bY, bc, HY h1 (show (([] ++ [(1:Int)]) ++ pv c.Head).length ≤ 10000 by simp; omega), aA]
   rw [Cz (by simp [qc]; omega)]
   simp [qM, yD, k]
  ·have d := nF h1
   simp only [k, show ((2 : Int) == 1) = false from rfl, aB, bY, bc, aP, Fv h1 (show (([] ++ [(2:Int)]) ++ pv c.Head).length ≤ 1000 by simp; omega), aA]
   rw [Cz (by simp; omega)]
   simp [qM, yD, k]
  ·have d := nF h1
   have g := nz a
   simp only [k, show ((3 : Int) == 1) = false from rfl, show ((3 : Int) == 2) = false from rfl, aB, bY, bc, aP, Fv h1 (show (([] ++ [(3:Int)]) ++ pv c.Head).length ≤ 1000 by simp; omega), aA]
   rw [HY a (by simp; omega)]
   simp only [aA]
   rw [Cz (by simp [qc]; omega)]
   simp [qM, yD, k]
  ·have d := nF h1
   have g := nF a
   simp only [k, show ((4 : Int) == 1) = false from rfl, show ((4 : Int) == 2) = false from rfl, show ((4 : Int) == 3) = false from rfl, aB, bY, bc, aP, Fv h1 (show (([] ++ [(4:Int)]) ++ pv c.Head).length ≤ 1000 by simp; omega), aA]
   rw [Fv a (by simp; omega)]
   simp only [aA]
   rw [Cz (by simp; omega)]
   simp [qM, yD, k]
def AT (l : List Int) : ByteArray := ⟨(zI l).toArray⟩
theorem DG (l : List Int) : (AT l).data.toList = zI l := rfl
theorem JU : ∀ (l : List Int) (r : ByteArray), (l.foldl (fun r n => r.push (UInt8.ofNat n.toNat)) r).data.toList = r.data.toList ++ zI l
 | [], r => by simp [zI]
 | x :: l, r => by
  rw [List.foldl_cons, JU l]
  show ((r.data.push _).toList) ++ _ = _
  simp [zI]
theorem O4 (l : List Int) : Ch l = AT l := BW (by unfold Ch; rw [JU]; rfl)
theorem Oq (l : List Int) : (AT l).size = l.length := by rw [za, DG]; simp [zI]
theorem QC (a b : List Int) : zI (a ++ b) = zI a ++ zI b := by simp [zI]
theorem yj (a b : List Int) (h : a.length + b.length ≤ 1000000) : By (AT a) (AT b) = some (AT (a ++ b)) := by
 unfold By
 rw [aK]
 ·congr 1
  refine BW ?_
  rw [DG, QC, ← DG a, ← DG b]
  exact ByteArray.toList_data_append ▸ rfl
 ·rw [Oq, Oq]
  show ¬ (_ > (9223372036854775807 : Int))
  omega
theorem CT (s : ByteArray) : AT (ve s) = s := BW (by rw [DG]; simp [zI, ve, gE])
theorem Ln {n : Int} (a : 0 ≤ n) (h1 : n < 128) : xA n = some (AT [n]) := by
 have hw : IntKind.u8.wrap n = n := by
  obtain ⟨k, rfl⟩ : ∃ k : Nat, n = k := ⟨n.toNat, by omega⟩
  have : ∀ k : Nat, k < 128 → IntKind.u8.wrap (k : Int) = (k : Int) := by decide +kernel
  exact this k (by omega)
 unfold xA
 rw [tM, vj, aK (by simp; omega), hw, O4, show zS = AT [] from rfl, yj _ _ (by simp)]
 rfl
theorem HW {s : ByteArray} (h : mZ s = true) : vV s = some (AT (tY s)) := by
 have h1 := nz h
 unfold vV
 rw [Ln (by omega) (by omega)]
 simp only [aA]
 have := yj [(s.size : Int)] (ve s) (by rw [nD]; simp; omega)
 rw [CT] at this
 rw [this]
 simp [tY]
theorem Fz {r : kw} (h : ml r = true) : wz r = some (AT (pv r)) := by
 simp only [ml, aU] at h
 have h1 := nz h.1
 have a := nz h.2
 unfold wz
 rw [HW h.1, HW h.2]
 simp only [aA]
 rw [yj _ _ (by simp [qc]; omega)]
 rfl
theorem Dx (c : ky) : xV c = some (AT (if mf c then qM c else [])) := by
 unfold xV
 rw [Az]
 simp only [aA]
 cases h : mf c with
 | false => rfl
 | true =>
  have i := zT h
  have j := nF i
  simp only [bM, aB, aP, bc]
  have hk : 0 ≤ c.Kind ∧ c.Kind < 128 := by rcases nL h with h | h | h | h <;> omega
  unfold Co
  rw [Ln hk.1 hk.2, Fz i]
  simp only [aA]
  rw [yj _ _ (by simp; omega)]
  simp only [aA]
  rcases nL h with ⟨k, h1, _⟩ | ⟨k, h1, _⟩ | ⟨k, h1, a, _⟩ | ⟨k, h1, a, _⟩
  ·have d := nz h1
   simp only [k, bY, bc, HW h1, aA]
   rw [yj _ _ (by simp [qc]; omega)]
   simp [qM, yD, k]
  ·have d := nF h1
   simp only [k, show ((2 : Int) == 1) = false from rfl, show ((2 : Int) == 3) = false from rfl, show ((2 : Int) == 4) = false from rfl, aB, aP, Fz h1, aA]
   rw [yj _ _ (by simp; omega)]
   simp [qM, yD, k]
  ·have d := nF h1
   have g := nz a
   simp only [k, show ((3 : Int) == 1) = false from rfl, show ((3 : Int) == 4) = false from rfl, aB, bY, bc, aP, Fz h1, aA]
   rw [yj _ _ (by simp; omega)]
   simp only [aA, HW a]
   rw [yj _ _ (by simp [qc]; omega)]
   simp [qM, yD, k]
  ·have d := nF h1
   have g := nF a
   simp only [k, show ((4 : Int) == 1) = false from rfl, show ((4 : Int) == 3) = false from rfl, aB, bY, bc, aP, Fz h1, aA]
   rw [yj _ _ (by simp; omega)]
   simp only [aA, Fz a]
   rw [yj _ _ (by simp; omega)]
   simp [qM, yD, k]
def Ng (c : ky) : List UInt8 := zI (if mf c then qM c else [])
def Em (a b : ky) : Bool := Op.bytesLess (Ng a) (Ng b)
theorem H5 (a b : ky) : ∃ c, vH a b = some c ∧ (c < 0 ↔ Em a b = true) := by
 unfold vH
 rw [AZ, AZ]
 exact ⟨_, rfl, HT _ _⟩
theorem He (a b : ky) : ∃ c, uF a b = some c ∧ (c < 0 ↔ Em a b = true) := by
 unfold uF
 rw [Dx, Dx]
 simp only [aA]
 have h : qp (AT (if mf a then qM a else [])) (AT (if mf b then qM b else [])) = Em a b := by rw [Bw]; rfl
 rw [h]
 cases Em a b with
 | true => exact ⟨_, rfl, by decide⟩
 | false =>
  simp only [aB, aP, iG]
  cases d : ma (AT (if mf a then qM a else [])) (AT (if mf b then qM b else [])) with
  | true => exact ⟨0, by simp, by decide⟩
  | false => exact ⟨1, by simp, by decide⟩
theorem Xt {a b : Int} (ha : 0 ≤ a ∧ a < 256) (c : 0 ≤ b ∧ b < 256) (h : a.toNat.toUInt8 = b.toNat.toUInt8) : a = b := by
 have := aV UInt8.toNat h
 simp only [UInt8.toNat_ofNat', Nat.toUInt8] at this
 simp at this
 omega
theorem PI : ∀ {a b : List Int}, (∀ x ∈ a, 0 ≤ x ∧ x < 256) → (∀ x ∈ b, 0 ≤ x ∧ x < 256) → zI a = zI b → a = b
 | [], [], _, _, _ => rfl
 | [], _ :: _, _, _, h => by simp [zI] at h
 | _ :: _, [], _, _, h => by simp [zI] at h
 | x :: a, y :: b, ha, d, h => by
  simp only [zI, bD, bL] at h
  rw [Xt (ha x (by simp)) (d y (by simp)) h.1, PI (fun z c => ha z (by simp [c])) (fun z c => d z (by simp [c])) h.2]
theorem zQ {s : ByteArray} (h : mZ s = true) : ∀ x ∈ tY s, 0 ≤ x ∧ x < 256 := by
 have h1 := nz h
 intro x a
 rcases aR.1 a with rfl | a
 ·omega
 ·simp only [ve, bH] at a
  obtain ⟨b, _, rfl⟩ := a
  have := jq b
  omega
theorem yk {r : kw} (h : ml r = true) : ∀ x ∈ pv r, 0 ≤ x ∧ x < 256 := by
 simp only [ml, aU] at h
 intro x a
 rcases aS.1 a with a | a
 ·exact zQ h.1 x a
 ·exact zQ h.2 x a
theorem EF {c : ky} (h : mf c = true) : ∀ x ∈ qM c, 0 ≤ x ∧ x < 256 := by
 intro x a
 rcases aR.1 a with rfl | a
 ·rcases nL h with h | h | h | h <;> omega
 ·rcases aS.1 a with a | a
  ·exact yk (zT h) x a
  ·unfold yD at a
   rcases nL h with ⟨k, h1, _⟩ | ⟨k, h1, _⟩ | ⟨k, h1, d, _⟩ | ⟨k, h1, d, _⟩
   ·rw [aM k] at a; exact zQ h1 x a
   ·rw [aK (by omega), aM k] at a; exact yk h1 x a
   ·rw [aK (by omega), aK (by omega), aM k] at a
    rcases aS.1 a with a | a
    ·exact yk h1 x a
    ·exact zQ d x a
   ·rw [aK (by omega), aK (by omega), aK (by omega)] at a
    rcases aS.1 a with a | a
    ·exact yk h1 x a
    ·exact yk d x a
theorem Q5 {s t : ByteArray} (h : ve s = ve t) : s = t := by rw [← CT s, h, CT]
theorem Ee {s t : ByteArray} {X Y : List Int} (h : tY s ++ X = tY t ++ Y) : s = t ∧ X = Y := by
 simp only [tY, cE, bL] at h
 obtain ⟨h1, a⟩ := h
 have c : (ve s).length = (ve t).length := by rw [nD, nD]; omega
 have := List.append_inj a c
 exact ⟨Q5 this.1, this.2⟩
theorem BY {a b : kw} {X Y : List Int} (h : pv a ++ X = pv b ++ Y) : a = b ∧ X = Y := by
 simp only [pv, aT] at h
 obtain ⟨h1, d⟩ := Ee h
 obtain ⟨c, g⟩ := Ee d
 exact ⟨by cases a; cases b; simp at h1 c; simp [h1, c], g⟩
theorem RL {a b : ky} (ha : mf a = true) (t : mf b = true) (h : qM a = qM b) : a = b := by
 simp only [qM, bL] at h
 obtain ⟨hk, q⟩ := h
 obtain ⟨o, h⟩ := BY q
 clear q
 have j : ∀ {X Y : List Int}, X = Y → X ++ [] = Y ++ [] := fun h => by rw [h]
 unfold yD at h
 obtain ⟨A, s, G, x, y, v⟩ := a
 obtain ⟨D, u, I, bb, z, w⟩ := b
 simp only at hk o h
 subst hk o
 rcases nL ha with ⟨k, h1, d, g, c⟩ | ⟨k, h1, d, g, c⟩ | ⟨k, h1, d, g, c, i⟩ | ⟨k, h1, d, g, c, i⟩ <;>
 rcases nL t with ⟨k', g1, g2, g3, g4⟩ | ⟨k', g1, g2, g3, g4⟩ | ⟨k', g1, g2, g3, g4, g5⟩ | ⟨k', g1, g2, g3, g4, g5⟩ <;> simp only at k k' d g c g2 g3 g4 <;> (try omega)
 ·rw [aM k, aM k] at h
  simp [Ee (j h), d, g, c, g2, g3, g4]
 ·rw [aK (by omega), aM k, aK (by omega), aM k] at h
  simp [BY (j h), d, g, c, g2, g3, g4]
 ·rw [aK (by omega), aK (by omega), aM k, aK (by omega), aK (by omega), aM k] at h
  obtain ⟨m, n⟩ := BY h
  simp only at i g5
  simp [m, Ee (j n), c, i, g4, g5]
 ·rw [aK (by omega), aK (by omega), aK (by omega), aK (by omega), aK (by omega), aK (by omega)] at h
  obtain ⟨m, n⟩ := BY h
  simp only at i g5
  simp [m, BY (j n), c, i, g4, g5]
theorem D2 : BD (fun a b => Em a b = true) (fun c => mf c = true) := by
 refine ⟨fun x _ h => ?_, fun x y z _ _ _ h1 i => IB _ _ _ h1 i, fun x y d g => ?_⟩
 ·unfold Em at h; rw [Ho] at h; cases h
 ·rcases IC (Ng x) (Ng y) with h | h | h
  ·exact .inl h
  ·refine .inr (.inl (RL d g ?_))
   unfold Ng at h
   rw [aM d, aM g] at h
   exact PI (EF d) (EF g) h
  ·exact .inr (.inr h)
def rW {α : Type} (R : α → Bool) (lt : α → α → Bool) (last : Option α) : List α → Bool → α → Bool × α
 | [], ok, b => (ok, b)
 | x :: xs, ok, b => if R x && last.all (fun y => lt y x) && (!ok || lt x b) then rW R lt last xs true x else rW R lt last xs ok b
def AP {α : Type} (w : Nat) (R : α → Bool) (lt : α → α → Bool) (d : α) (l : List α) : Nat → List α → Option (List α)
 | 0, _ => none
 | n + 1, out => if !(rW R lt out.getLast? l false d).1 then some out else (mJ w out [(rW R lt out.getLast? l false d).2]).bind fun o => AP w R lt d l n o
section
variable {α : Type} {R : α → Bool} {lt : α → α → Bool}
theorem HH (H : BD (fun a b => lt a b = true) (fun x => R x = true)) (last : Option α) : ∀ (l : List α) (ok : Bool) (b : α), (ok = true → R b = true ∧ last.all (fun y => lt y b) = true) →
  ((rW R lt last l ok b).1 = false → ok = false ∧ ∀ x ∈ l, R x = true → last.all (fun y => lt y x) = false) ∧
  ((rW R lt last l ok b).1 = true → R (rW R lt last l ok b).2 = true ∧ last.all (fun y => lt y (rW R lt last l ok b).2) = true ∧ ((rW R lt last l ok b).2 ∈ l ∨ (ok = true ∧ (rW R lt last l ok b).2 = b)) ∧
   (∀ x ∈ l, R x = true → last.all (fun y => lt y x) = true → lt x (rW R lt last l ok b).2 = false) ∧ (ok = true → lt b (rW R lt last l ok b).2 = false))
 | [], ok, b, j => by
  simp only [rW]
  exact ⟨fun h => ⟨h, by simp⟩, fun h => ⟨(j h).1, (j h).2, .inr ⟨h, trivial⟩, by simp, fun _ => by
   cases m : lt b b with
   | false => rfl
   | true => exact absurd m (H.irrefl b (j h).1)⟩⟩
 | x :: xs, ok, b, j => by
  rw [rW]
  by_cases k : (R x && last.all (fun y => lt y x) && (!ok || lt x b)) = true
  ·rw [aM k]
   simp only [aU, dW, jC] at k
   obtain ⟨⟨A, t⟩, u⟩ := k
   obtain ⟨h1, s⟩ := HH H last xs true x (fun _ => ⟨A, t⟩)
   refine ⟨fun h => ?_, fun h => ?_⟩
   ·cases (h1 h).1
   ·obtain ⟨o, a2, a3, a4, a5⟩ := s h
    refine ⟨o, a2, ?_, ?_, ?_⟩
    ·rcases a3 with a3 | ⟨_, a3⟩
     ·exact .inl (by simp [a3])
     ·exact .inl (by rw [a3]; simp)
    ·intro y g c d
     rcases aR.1 g with rfl | g
     ·exact a5 rfl
     ·exact a4 y g c d
    ·intro i
     cases m : lt b (rW R lt last xs true x).2 with
     | false => rfl
     | true =>
      have v : lt x b = true := by rcases u with h | h; rw [i] at h; cases h; exact h
      have := H.trans x b _ A (j i).1 o v m
      simp only [a5 rfl] at this
      cases this
  ·rw [aK k]
   obtain ⟨h1, s⟩ := HH H last xs ok b j
   refine ⟨fun h => ⟨(h1 h).1, fun y g c => ?_⟩, fun h => ?_⟩
   ·rcases aR.1 g with rfl | g
    ·have i := (h1 h).1
     cases t : last.all (fun z => lt z y) with
     | false => rfl
     | true => exact absurd (by simp [c, t, i]) k
    ·exact (h1 h).2 y g c
   ·obtain ⟨o, a2, a3, a4, a5⟩ := s h
    refine ⟨o, a2, ?_, ?_, a5⟩
    ·rcases a3 with a3 | a3
     ·exact .inl (by simp [a3])
     ·exact .inr a3
    ·intro y g c d
     rcases aR.1 g with rfl | g
     ·cases m : lt y (rW R lt last xs ok b).2 with
      | false => rfl
      | true =>
       cases ok with
       | false => exact absurd (by simp [c, d]) k
       | true =>
        have w : lt y b = false := by
         cases D : lt y b with
         | false => rfl
         | true => exact absurd (by simp [c, d, D]) k
        have q := j rfl
        rcases H.total y b c q.1 with n | n | n
        ·rw [w] at n; cases n
        ·subst n; rw [a5 rfl] at m; cases m
        ·have := H.trans b y _ q.1 c o n m
         simp only [a5 rfl] at this
         cases this
     ·exact a4 y g c d
theorem ym (H : BD (fun a b => lt a b = true) (fun x => R x = true)) {l : List α} (d : ∀ x ∈ l, R x = true) (h : l.Pairwise (fun a b => lt a b = true)) : l.Nodup := by
 refine h.imp_of_mem (fun {a b} ha g c e => ?_)
 subst e
 exact H.irrefl a (d a ha) c
theorem mF : ∀ {l m : List α}, l.Nodup → (∀ x ∈ l, x ∈ m) → l.length ≤ m.length
 | [], _, _, _ => by simp
 | x :: l, m, g, c => by
  obtain ⟨A, B, rfl⟩ := jt (c x (by simp))
  have a := cK.1 g
  have := mF (l := l) (m := A ++ B) a.2 (fun y d => by
   have := c y (dH _ d)
   simp only [aS, aR] at this ⊢
   rcases this with h | h | h
   ·exact .inl h
   ·subst h; exact absurd d a.1
   ·exact .inr h)
  simp at this ⊢; omega
theorem B1 (H : BD (fun a b => lt a b = true) (fun x => R x = true)) {w : Nat} (hw : w ≤ 1000) (d : α) (l : List α) (L : l.length ≤ 1000000000) : ∀ (n : Nat) (out : List α), l.length < n + out.length → out.Pairwise (fun a b => lt a b = true) → (∀ x ∈ out, x ∈ l ∧ R x = true) →
  (∀ x ∈ l, R x = true → x ∈ out ∨ out.getLast?.all (fun y => lt y x) = true) → ∃ s, AP w R lt d l n out = some s ∧ qP (fun a b => lt a b = true) (fun x => R x = true) l s
 | 0, out, M, hp, hm, v => by
  exfalso
  have := mF (ym H (fun x c => (hm x c).2) hp) (fun x c => (hm x c).1)
  omega
 | n + 1, out, M, hp, hm, v => by
  rw [AP]
  obtain ⟨h1, I⟩ := HH H out.getLast? l false d (fun h => by cases h)
  have hlen := mF (ym H (fun x c => (hm x c).2) hp) (fun x c => (hm x c).1)
  cases G : (rW R lt out.getLast? l false d).1 with
  | false =>
   rw [aM (by simp)]
   refine ⟨out, rfl, hp, fun x => ⟨hm x, fun c => ?_⟩⟩
   rcases v x c.1 c.2 with h | h
   ·exact h
   ·rw [(h1 G).2 x c.1 c.2] at h; cases h
  | true =>
   rw [aK (by simp)]
   obtain ⟨t, a2, a3, a4, _⟩ := I G
   generalize (rW R lt out.getLast? l false d).2 = b at *
   have u : b ∈ l := by rcases a3 with h | ⟨h, _⟩; exact h; cases h
   have o : ∀ y ∈ out, lt y b = true := by
    intro y g
    obtain ⟨A, z, rfl⟩ : ∃ A z, out = A ++ [z] := by
     rcases dg out with h | ⟨A, z, h⟩
     ·subst h; cases g
     ·exact ⟨A, z, by rw [h]; simp⟩
    simp at a2
    rcases aS.1 g with g | g
    ·have D : lt y z = true := (dv.1 hp).2.2 y g z (by simp)
     exact H.trans y z b (hm y (by simp [g])).2 (hm z (by simp)).2 t D a2
    ·simp at g; subst g; exact a2
   have q : (out ++ [b]).Pairwise (fun a b => lt a b = true) := dv.2 ⟨hp, by simp, fun x c y g => by simp at g; subst g; exact o x c⟩
   have k : ∀ x ∈ out ++ [b], x ∈ l ∧ R x = true := fun x c => by
    rcases aS.1 c with c | c
    ·exact hm x c
    ·simp at c; subst c; exact ⟨u, t⟩
   have j := mF (ym H (fun x c => (k x c).2) q) (fun x c => (k x c).1)
   simp at j
   rw [mG (by simp only [aJ, bW]; have : (out.length + (0 + 1)) * w ≤ 1000000000 * 1000 := fh (by omega) hw; omega) (by simp; omega)]
   simp only [aA]
   refine B1 H hw d l L n (out ++ [b]) (by simp; omega) q k (fun x c i => ?_)
   rcases v x c i with h | h
   ·exact .inl (by simp [h])
   ·have J := a4 x c i h
    rcases H.total x b i t with m | m | m
    ·rw [J] at m; cases m
    ·subst m; exact .inl (by simp)
    ·exact .inr (by simp [m])
end
theorem Ga {α : Type} (A : List α) (x : α) (a : A.length < 4611686018427387904) : mx (A ++ [x]) (wi0 .i64 (((A ++ [x]).length : Int) - 1)) = some x := by
 rw [lQ (by simp; try omega) (by simp; try omega)]
 rw [sI A x [] _ (by simp; try omega)]
theorem IM (out : List ky) (k : out.length < 4611686018427387904) : ∀ (l : List ky) (ok : Bool) (b : ky), tA out l ok b = some (rW mf Em out.getLast? l ok b)
 | [], ok, b => rfl
 | x :: xs, ok, b => by
  rw [tA, rW]
  have cmp : ∀ a b, ∃ c, uF a b = some c ∧ decide (c < 0) = Em a b := fun a b => by
   obtain ⟨c, h1, j⟩ := He a b
   exact ⟨c, h1, by rw [bF, ← j]; simp⟩
  rw [Az, IM out k xs true x, IM out k xs ok b]
  obtain ⟨c, h1, j⟩ := cmp x b
  rcases dg out with h | ⟨A, z, h⟩
  ·subst h
   simp only [h1, aA, j, bW, Option.all, jE]
   generalize Em x b = p
   cases mf x <;> cases ok <;> cases p <;> simp
  ·have i : out = A ++ [z] := by rw [h]; simp
   obtain ⟨t, q, s⟩ := cmp z x
   have d : out.getLast? = some z := by rw [i]; simp
   have g : mx out (wi0 .i64 ((out.length : Int) - 1)) = some z := by rw [i]; exact Ga A z (by rw [i] at k; simp at k; omega)
   have m : ((out.length : Int) == 0) = false := by rw [i]; simp; omega
   rw [d]
   simp only [m, g, q, h1, aA, j, s, Option.all]
   rcases cZ (Em x b) with hp | hp <;> rcases cZ (Em z x) with n | n <;> rcases cZ (mf x) with o | o <;> cases ok <;> simp [hp, n, o]
theorem IU (out : List kw) (g : out.length < 4611686018427387904) : ∀ (l : List kw) (ok : Bool) (b : kw), tf out l ok b = some (rW ml xg out.getLast? l ok b)
 | [], ok, b => rfl
 | x :: xs, ok, b => by
  rw [tf, rW]
  rw [AB, IU out g xs true x, IU out g xs ok b]
  rcases dg out with h | ⟨A, z, h⟩
  ·subst h
   simp only [ux, aA, bW, Option.all, jE]
   generalize xg x b = p
   cases ml x <;> cases ok <;> cases p <;> simp
  ·have d : out = A ++ [z] := by rw [h]; simp
   have a : out.getLast? = some z := by rw [d]; simp
   have c : mx out (wi0 .i64 ((out.length : Int) - 1)) = some z := by rw [d]; exact Ga A z (by rw [d] at g; simp at g; omega)
   have i : ((out.length : Int) == 0) = false := by rw [d]; simp; omega
   rw [a]
   simp only [i, c, ux, aA, Option.all]
   rcases cZ (xg x b) with hp | hp <;> rcases cZ (xg z x) with j | j <;> rcases cZ (ml x) with k | k <;> cases ok <;> simp [hp, j, k]
theorem Y9 (a b : ByteArray) : (!(qp a b || ma a b)) = qp b a := by
 rcases BZ a b with h | h | h
 ·simp [h, Lg h]
 ·subst h; simp [xE, vn]
 ·have c := Lg h
  have d : ma a b = false := Pp (by rintro rfl; rw [vn] at h; cases h)
  simp [h, c, d]
theorem Ry {s : ByteArray} (h : mZ s = true) : ma s zS = false := Pp (fun e => by have := nz h; rw [e, VC] at this; omega)
theorem IG (out : List ByteArray) (k : out.length < 4611686018427387904) : ∀ (l : List ByteArray) (b : ByteArray),
  ∃ m, tJ out l b = some m ∧ (rW mZ qp out.getLast? l (!ma b zS) b) = (!ma m zS, m)
 | [], b => ⟨b, rfl, rfl⟩
 | x :: xs, b => by
  rw [tJ, rW]
  obtain ⟨v, t, c⟩ := IG out k xs x
  obtain ⟨w, u, i⟩ := IG out k xs b
  rw [AA, t, u]
  by_cases g : mZ x = true
  ·rw [Ry g] at c
   simp only [cV] at c
   rcases dg out with h | ⟨A, z, h⟩
   ·subst h
    simp only [aA, bW, Option.all, jE, g] at *
    rw [c, i]
    generalize qp x b = p
    generalize ma b zS = q
    cases p <;> cases q <;> simp
   ·have j : out = A ++ [z] := by rw [h]; simp
    have a : out.getLast? = some z := by rw [j]; simp
    have d : mx out (wi0 .i64 ((out.length : Int) - 1)) = some z := by rw [j]; exact Ga A z (by rw [j] at k; simp at k; omega)
    have n : ((out.length : Int) == 0) = false := by rw [j]; simp; omega
    rw [a] at c i ⊢
    simp only [n, d, aA, Option.all, Y9, g]
    rw [c, i]
    rcases cZ (qp x b) with hp | hp <;> rcases cZ (qp z x) with o | o <;> rcases cZ (ma b zS) with s | s <;> simp [hp, o, s]
  ·simp only [cv] at g
   rw [g, i]
   simp
theorem Ub (a : List ky) : ∀ (n : Nat) (out s : List ky), AP 136 mf Em (⟨0, ⟨zS, zS⟩, zS, ⟨zS, zS⟩, ⟨zS, zS⟩, zS⟩ : ky) a n out = some s → s.length < 4611686018427387904 → vE a n out = some s ∧ out.length ≤ s.length
 | 0, out, s, h, _ => by cases h
 | n + 1, out, s, h, i => by
  rw [AP] at h
  rw [vE]
  have key : out.length ≤ s.length → tA out a false (⟨0, ⟨zS, zS⟩, zS, ⟨zS, zS⟩, ⟨zS, zS⟩, zS⟩ : ky) = _ := fun k => IM out (by omega) a false _
  split at h
  ·rename_i h1
   cases h
   rw [key (bB _)]
   simp only [aA]
   rw [aM h1]
   exact ⟨rfl, bB _⟩
  ·rename_i h1
   obtain ⟨o, c, d⟩ := bind_some h
   have g := Ub a n o s d i
   have j : out.length + 1 = o.length := by
    unfold mJ at c; split at c
    ·cases c; simp
    ·cases c
   rw [key (by omega)]
   simp only [aA]
   rw [aK h1, c]
   exact ⟨g.1, by omega⟩
theorem Ux (a : List kw) : ∀ (n : Nat) (out s : List kw), AP 32 ml xg (⟨zS, zS⟩ : kw) a n out = some s → s.length < 4611686018427387904 → vG a n out = some s ∧ out.length ≤ s.length
 | 0, out, s, h, _ => by cases h
 | n + 1, out, s, h, i => by
  rw [AP] at h
  rw [vG]
  have key : out.length ≤ s.length → tf out a false (⟨zS, zS⟩ : kw) = _ := fun k => IU out (by omega) a false _
  split at h
  ·rename_i h1
   cases h
   rw [key (bB _)]
   simp only [aA]
   rw [aM h1]
   exact ⟨rfl, bB _⟩
  ·rename_i h1
   obtain ⟨o, c, d⟩ := bind_some h
   have g := Ux a n o s d i
   have j : out.length + 1 = o.length := by
    unfold mJ at c; split at c
    ·cases c; simp
    ·cases c
   rw [key (by omega)]
   simp only [aA]
   rw [aK h1, c]
   exact ⟨g.1, by omega⟩
theorem UD (a : List ByteArray) : ∀ (n : Nat) (out s : List ByteArray), AP 16 mZ qp zS a n out = some s → s.length < 4611686018427387904 → vI a n out = some s ∧ out.length ≤ s.length
 | 0, out, s, h, _ => by cases h
 | n + 1, out, s, h, k => by
  rw [AP] at h
  rw [vI]
  have key : out.length ≤ s.length → ∃ d, tJ out a zS = some d ∧ rW mZ qp out.getLast? a false zS = (!ma d zS, d) := fun q => by
   have := IG out (by omega) a zS
   rw [xE] at this
   exact this
  split at h
  ·rename_i h1
   cases h
   obtain ⟨d, g, k2⟩ := key (bB _)
   rw [g]
   rw [k2] at h1
   simp only [aA]
   rw [aM (by simpa using h1)]
   exact ⟨rfl, bB _⟩
  ·rename_i h1
   obtain ⟨o, c, i⟩ := bind_some h
   have j := UD a n o s i k
   have m : out.length + 1 = o.length := by
    unfold mJ at c; split at c
    ·cases c; simp
    ·cases c
   obtain ⟨d, g, k2⟩ := key (by omega)
   rw [g]
   rw [k2] at h1 c
   simp only [aA]
   rw [aK (by simpa using h1), c]
   exact ⟨j.1, by omega⟩
abbrev Dm (l s : List ByteArray) := qP (fun a b => qp a b = true) (fun x => mZ x = true) l s
abbrev B5 (l s : List kw) := qP (fun a b => xg a b = true) (fun x => ml x = true) l s
abbrev JI (l s : List ky) := qP (fun a b => Em a b = true) (fun x => mf x = true) l s
theorem qg {α : Type} {lt : α → α → Bool} {R : α → Bool} (H : BD (fun a b => lt a b = true) (fun x => R x = true)) {l s : List α} (h : qP (fun a b => lt a b = true) (fun x => R x = true) l s) : s.length ≤ l.length :=
 mF (ym H (fun x c => ((h.2 x).1 c).2) h.1) (fun x c => ((h.2 x).1 c).1)
theorem Vt (l : List ky) (c : l.length ≤ 1000000000) : ∃ s, EY l = some s ∧ JI l s := by
 obtain ⟨s, h1, a⟩ := B1 D2 (w := 136) (by omega) (⟨0, ⟨zS, zS⟩, zS, ⟨zS, zS⟩, ⟨zS, zS⟩, zS⟩ : ky) l c lC [] (by rw [pp]; omega) (by simp) (by simp) (fun x _ _ => .inr rfl)
 exact ⟨s, (Ub l lC [] s h1 (by have := qg D2 a; omega)).1, a⟩
theorem UH (l : List kw) (c : l.length ≤ 1000000000) : ∃ s, ET l = some s ∧ B5 l s := by
 obtain ⟨s, h1, a⟩ := B1 (uy (fun x => ml x = true)) (w := 32) (by omega) (⟨zS, zS⟩ : kw) l c lC [] (by rw [pp]; omega) (by simp) (by simp) (fun x _ _ => .inr rfl)
 exact ⟨s, (Ux l lC [] s h1 (by have := qg (uy _) a; omega)).1, a⟩
theorem UT (l : List ByteArray) (c : l.length ≤ 1000000000) : ∃ s, BK l = some s ∧ Dm l s := by
 obtain ⟨s, h1, a⟩ := B1 (HX (fun x => mZ x = true)) (w := 16) (by omega) zS l c lC [] (by rw [pp]; omega) (by simp) (by simp) (fun x _ _ => .inr rfl)
 exact ⟨s, (UD l lC [] s h1 (by have := qg (HX _) a; omega)).1, a⟩
def zC : ky := ⟨0, ⟨zS, zS⟩, zS, ⟨zS, zS⟩, ⟨zS, zS⟩, zS⟩
theorem PF (f : ky → Option Bool) : ∀ (n : Nat) (l : List ky) (i j : Int), nX f n l i j = F0 f zC n l i j
 | 0, _, _, _ => rfl
 | n + 1, l, i, j => by
  rw [nX, F0]
  simp only [PF f n]
  rfl
theorem P5 (f : ky → Option Bool) : ∀ (l : List ky) (i : Nat), pw f l i = yo f l i
 | [], _ => rfl
 | x :: l, i => by rw [pw, yo]; simp only [P5 f l]
theorem Tq (f : ky → Option Bool) (l : List ky) : so l f = Km f zC l := by
 unfold so Km wi
 simp only [P5, PF]
theorem NQ (i : Int) : ∀ (n : Nat) (l : List ky) (k j : Int), oT i n l k j = CB oI i n l k j
 | 0, _, _, _ => rfl
 | n + 1, l, k, j => by
  rw [oT, CB]
  simp only [NQ i n]
theorem MW (l : List ky) : ∀ (n : Nat) (i : Int), oY l n i = Ds oI zC l n i
 | 0, _ => rfl
 | n + 1, i => by
  rw [oY, Ds]
  simp only [MW l n, NQ]
  rfl
theorem TV (l : List ky) : uE l = Hb oI zC l := by
 unfold uE Hb
 simp only [MW]
theorem PL (f : kw → Option Bool) : ∀ (n : Nat) (l : List kw) (i j : Int), nY f n l i j = F0 f zR n l i j
 | 0, _, _, _ => rfl
 | n + 1, l, i, j => by
  rw [nY, F0]
  simp only [PL f n]
  rfl
theorem PC (f : kw → Option Bool) : ∀ (l : List kw) (i : Nat), nk f l i = yo f l i
 | [], _ => rfl
 | x :: l, i => by rw [nk, yo]; simp only [PC f l]
theorem TP (f : kw → Option Bool) (l : List kw) : rZ l f = Km f zR l := by
 unfold rZ Km ph
 simp only [PC, PL]
theorem N6 (i : Int) : ∀ (n : Nat) (l : List kw) (k j : Int), oR i n l k j = CB kN i n l k j
 | 0, _, _, _ => rfl
 | n + 1, l, k, j => by
  rw [oR, CB]
  simp only [N6 i n]
theorem MR (l : List kw) : ∀ (n : Nat) (i : Int), oX l n i = Ds kN zR l n i
 | 0, _ => rfl
 | n + 1, i => by
  rw [oX, Ds]
  simp only [MR l n, N6]
  rfl
theorem Tz (l : List kw) : uP l = Hb kN zR l := by
 unfold uP Hb
 simp only [MR]
theorem ND (i : Int) : ∀ (n : Nat) (l : List ByteArray) (k j : Int), ow i n l k j = CB ma i n l k j
 | 0, _, _, _ => rfl
 | n + 1, l, k, j => by
  rw [ow, CB]
  simp only [ND i n]
theorem NX (l : List ByteArray) : ∀ (n : Nat) (i : Int), ov l n i = Ds ma zS l n i
 | 0, _ => rfl
 | n + 1, i => by
  rw [ov, Ds]
  simp only [NX l n, ND]
theorem To (l : List ByteArray) : qE l = Hb ma zS l := by
 unfold qE Hb
 simp only [NX]
theorem Xe {l : List ky} (a : l.length ≤ 1000000000) : ta l = some l := by
 unfold ta
 rw [mG (by simp; omega) (by simp; omega)]
 simp
theorem XB {l : List kw} (a : l.length ≤ 1000000000) : sW l = some l := by
 unfold sW
 rw [mG (by simp; omega) (by simp; omega)]
 simp
theorem YB (l : List ky) (d : l.length ≤ 1000000000) : ∃ s, Ba l = some s ∧ JI l s := by
 unfold Ba
 rw [Xe d]
 simp only [aA]
 rw [Tq, Nj _ (fun x => !mf x) zC l (by omega) (fun x _ => by simp [Ae, pV])]
 simp only [aA, Bool.not_not]
 have i : (l.filter fun x => mf x).length ≤ l.length := ec _ _
 obtain ⟨s, h1, h, c⟩ := zY (eq := oI) (lt := fun a b => Em a b = true) (P := fun x => mf x = true) (cf := fun x => vH x.1 x.2) (l := l.filter fun x => mf x) (fun x y => xe) D2 (fun x g => (cT.1 g).2) (by omega) (fun x y _ _ => H5 x y)
 rw [h1]
 simp only [aA]
 rw [TV, I0 _ _ _ (by omega)]
 refine ⟨_, rfl, c.1, fun x => ?_⟩
 rw [c.2]
 simp
theorem YS (l : List kw) (d : l.length ≤ 1000000000) : ∃ s, CN l = some s ∧ B5 l s := by
 unfold CN
 rw [XB d]
 simp only [aA]
 rw [TP, Nj _ (fun x => !ml x) zR l (by omega) (fun x _ => by simp [Ao, uz])]
 simp only [aA, Bool.not_not]
 have i : (l.filter fun x => ml x).length ≤ l.length := ec _ _
 obtain ⟨s, h1, h, c⟩ := zY (eq := kN) (lt := fun a b => xg a b = true) (P := fun x => ml x = true) (cf := fun x => nw x.1 x.2) (l := l.filter fun x => ml x) (fun x y => kP) (uy _) (fun x g => (cT.1 g).2) (by omega) (fun x y _ _ => vk x y)
 rw [h1]
 simp only [aA]
 rw [Tz, I0 _ _ _ (by omega)]
 refine ⟨_, rfl, c.1, fun x => ?_⟩
 rw [c.2]
 simp
theorem QQ (l : List ByteArray) : oV l = pQ (fun x => some (if qp x.1 x.2 then -1 else 0)) l := by
 unfold oV pQ
 congr 1
 funext x y
 unfold uv
 cases h : qp y x <;> simp [h]
theorem Gk : ∀ (l acc : List ByteArray), acc.length + l.length ≤ 1000000000 → uS l acc = (HQ (acc ++ l.filter mZ)).bind fun r => qE r
 | [], acc, _ => by rw [uS]; simp
 | x :: l, acc, h => by
  rw [uS, sF]
  simp only [aA]
  cases a : mZ x with
  | false =>
   simp only [aB, aP]
   rw [Gk l acc (by simp at h; omega)]
   simp [a]
  | true =>
   simp only [bc]
   rw [mG (by simp at h ⊢; omega) (by simp at h ⊢; omega)]
   simp only [aA]
   rw [Gk l (acc ++ [x]) (by simp at h ⊢; omega)]
   simp [a]
theorem VR (l : List ByteArray) (g : l.length ≤ 1000000000) : ∃ s, zw l = some s ∧ Dm l s := by
 unfold zw
 rw [Gk l [] (by simpa using g)]
 simp only [bU]
 have k : (l.filter mZ).length ≤ l.length := ec _ _
 unfold HQ
 rw [aM (by omega)]
 simp only [aA]
 obtain ⟨s, h1, j, c⟩ := zY (eq := ma) (lt := fun a b => qp a b = true) (P := fun x => mZ x = true) (cf := fun x => some (if qp x.1 x.2 then -1 else 0)) (l := l.filter mZ) (fun x y => mM) (HX _) (fun x i => (cT.1 i).2) (by omega) (fun x y _ _ => ⟨_, rfl, by cases h : qp x y <;> simp [h]⟩)
 have d := (CQ h1).2
 rw [QQ, ← d, To, I0 _ _ _ (by omega)]
 refine ⟨_, rfl, c.1, fun x => ?_⟩
 rw [c.2]
 simp
def tt {κ : Type} (a : List κ) : List (κ × Bool) := a.map fun k => (k, true)
def nK {κ : Type} (beq : κ → κ → Bool) (a : List κ) (k : κ) : Bool := a.any fun x => beq k x
def ins {κ : Type} (beq : κ → κ → Bool) (a : List κ) (k : κ) : List κ := if nK beq a k then a else a ++ [k]
section
variable {κ : Type} {beq : κ → κ → Bool}
theorem nn (c : ∀ {x y}, beq x y = true ↔ x = y) (a : List κ) (k : κ) : nK beq a k = true ↔ k ∈ a := by
 simp [nK, dN, c]
theorem RR (a : List κ) : (tt a).length = a.length := by simp [tt]
theorem FG (a : List κ) (k : κ) : zx beq (tt a) k false = nK beq a k := by
 unfold zx mi nK tt
 induction a with
 | nil => rfl
 | cons x xs ih =>
  simp only [bD, gf, List.any_cons]
  cases h : beq k x with
  | true => simp
  | false => simpa using ih
theorem Kq (n : ∀ {x y}, beq x y = true ↔ x = y) (a : List κ) (k : κ) : oh beq (tt a) k true = tt (ins beq a k) := by
 unfold oh ins
 have o : (tt a).findIdx? (fun p => beq k p.1) = a.findIdx? (fun x => beq k x) := by
  unfold tt; rw [gF]; rfl
 rw [o]
 cases h : a.findIdx? (fun x => beq k x) with
 | none =>
  rw [fV] at h
  rw [aK]
  ·simp [tt]
  ·intro d
   unfold nK at d
   rw [dN] at d
   obtain ⟨x, q, c⟩ := d
   rw [h x q] at c
   cases c
 | some i =>
  rw [dP] at h
  obtain ⟨m, h1, _⟩ := h
  have e := n.1 h1
  rw [aM]
  ·simp only [tt]
   apply dC
   intro j
   rw [eS]
   split
   ·rename_i g
    subst g
    simp [m, e]
   ·rfl
  ·unfold nK
   exact dN.2 ⟨a[i], dM m, h1⟩
end
section
variable {all : List ky} {wants : List kw} {T : List kw} {W : List ByteArray} {R : List ky}
def pj (c : ky) : List kw := if c.Kind = 1 then [] else if c.Kind = 4 then [c.B, c.C] else [c.B]
end
theorem O3 (x : ky) : ∀ l : List ky, BS l x = some (nK oI l x)
 | [] => rfl
 | y :: l => by
  have ih := O3 x l
  unfold BS at ih ⊢
  rw [zk, ih]
  have : oI y x = oI x y := by rw [bF, xe, xe]; exact kh
  rw [this]
  simp only [nK, List.any_cons]
  cases oI x y <;> simp
theorem VZ {c : ky} (h : mf c = true) : A0 c = some (c.Head :: pj c) := by
 unfold A0
 rw [pV, h]
 simp only [aA, bM, aB, aP]
 have a : c.Kind = 1 ∨ c.Kind = 2 ∨ c.Kind = 3 ∨ c.Kind = 4 := by rcases nL h with h | h | h | h <;> simp [h.1]
 rcases a with k | k | k | k
 ·simp [k, pj]
 ·rw [aM (by simp [k]), mG (by simp) (by simp)]
  simp [k, pj]
 ·rw [aM (by simp [k]), mG (by simp) (by simp)]
  simp [k, pj]
 ·rw [aM (by simp [k]), mG (by simp) (by simp)]
  simp only [aA]
  rw [aM (by simp [k]), mG (by simp) (by simp)]
  simp [k, pj]
theorem qP.congr {α : Type} {lt : α → α → Prop} {P : α → Prop} {l m s : List α} (h : qP lt P l s) (hm : ∀ x, x ∈ l ↔ x ∈ m) : qP lt P m s := ⟨h.1, fun x => by rw [h.2, hm]⟩
theorem Vi {κ : Type} (a : List κ) : (tt a).map (·.1) = a := by simp [tt, gE]
def An (c : ky) : Nat := c.Head.kE.size + c.Head.kT.size + c.lx.size + c.B.kE.size + c.B.kT.size + c.C.kE.size + c.C.kT.size + c.lU.size
section
variable {κ γ : Type} {beq : κ → κ → Bool}
theorem sk (a : ∀ {x y}, beq x y = true ↔ x = y) {A B : List (κ × γ)} {k : κ} {x : γ} (c : ∀ p ∈ A, p.1 ≠ k) : mi beq (A ++ (k, x) :: B) k = some x := by
 unfold mi
 rw [List.find?_append]
 have : A.find? (fun p => beq k p.1) = none := List.find?_eq_none.2 (fun p hp h => c p hp (a.1 h).symm)
 rw [this]
 simp [a.2 (rfl : k = k)]
theorem yl (a : ∀ {x y}, beq x y = true ↔ x = y) {l : List (κ × γ)} {k : κ} (h : ∀ p ∈ l, p.1 ≠ k) : mi beq l k = none := by
 unfold mi
 rw [List.find?_eq_none.2 (fun p hp c => h p hp (a.1 c).symm)]
 rfl
theorem zt (a : ∀ {x y}, beq x y = true ↔ x = y) {A B : List (κ × γ)} {k : κ} {x y : γ} (c : ∀ p ∈ A, p.1 ≠ k) : oh beq (A ++ (k, x) :: B) k y = A ++ (k, y) :: B := by
 have h1 : (A ++ (k, x) :: B).findIdx? (fun p => beq k p.1) = some A.length := by
  rw [iH, fV.2 (fun p hp => by
   cases h : beq k p.1 with
   | false => rfl
   | true => exact absurd (a.1 h).symm (c p hp))]
  simp [eK, a.2 (rfl : k = k)]
 rw [sx h1]
 simp
theorem FD (a : ∀ {x y}, beq x y = true ↔ x = y) {l : List (κ × γ)} {k : κ} {y : γ} (h : ∀ p ∈ l, p.1 ≠ k) : oh beq l k y = l ++ [(k, y)] := by
 refine xD (fV.2 (fun p hp => ?_)) y
 cases c : beq k p.1 with
 | false => rfl
 | true => exact absurd (a.1 c).symm (h p hp)
theorem wK (k : κ) : ∀ (l : List (κ × γ)), (∀ p ∈ l, p.1 ≠ k) ∨ ∃ A x B, l = A ++ (k, x) :: B ∧ ∀ p ∈ A, p.1 ≠ k
 | [] => .inl (fun _ h => by cases h)
 | p :: l => by
  by_cases hp : p.1 = k
  ·exact .inr ⟨[], p.2, l, by rw [← hp]; rfl, fun _ h => by cases h⟩
  ·rcases wK k l with h | ⟨A, x, B, rfl, h⟩
   ·exact .inl (fun q a => by rcases aR.1 a with rfl | a; exact hp; exact h q a)
   ·exact .inr ⟨p :: A, x, B, rfl, fun q a => by rcases aR.1 a with rfl | a; exact hp; exact h q a⟩
theorem IL (a : ∀ {x y}, beq x y = true ↔ x = y) (A B : List (κ × γ)) (k : κ) : mi beq (A ++ B) k = (mi beq A k).or (mi beq B k) := by
 unfold mi
 rw [List.find?_append]
 cases A.find? (fun p => beq k p.1) <;> rfl
theorem Ec (p : κ × γ) (l : List (κ × γ)) (k : κ) : mi beq (p :: l) k = if beq k p.1 = true then some p.2 else mi beq l k := by
 unfold mi
 rw [gf]
 cases beq k p.1 <;> simp
theorem Hj (a : ∀ {x y}, beq x y = true ↔ x = y) (l : List (κ × γ)) (k k2 : κ) (y : γ) : mi beq (oh beq l k y) k2 = if beq k2 k = true then some y else mi beq l k2 := by
 rcases wK k l with h | ⟨A, x, B, rfl, h⟩
 ·rw [FD a h, IL a, Ec]
  by_cases hk : beq k2 k = true
  ·have := a.1 hk
   subst this
   rw [aM hk, aM hk, yl a h]; rfl
  ·rw [aK hk, aK hk]
   show (mi beq l k2).or none = _
   cases mi beq l k2 <;> rfl
 ·rw [zt a h, IL a, Ec, IL a, Ec]
  by_cases hk : beq k2 k = true
  ·have := a.1 hk
   subst this
   rw [aM hk, aM hk, yl a h]; rfl
  ·rw [aK hk, aK hk, aK hk]
end
abbrev pW := List (kw × List ByteArray)
def mm (T : pW) : List (kw × List (ByteArray × Bool)) := T.map fun p => (p.1, tt p.2)
def tu (T : pW) (r : kw) : List ByteArray := (mi kN T r).getD []
def FS (T : pW) : List kB := T.flatMap fun p => p.2.map fun w => (⟨p.1, w⟩ : kB)
def Hq (T : pW) (r : kw) (w : ByteArray) : pW := oh kN T r (tu T r ++ [w])
theorem GL (A B : pW) : mm (A ++ B) = mm A ++ mm B := by simp [mm]
theorem Bx {A : pW} {r : kw} (h : ∀ p ∈ A, p.1 ≠ r) : ∀ p ∈ mm A, p.1 ≠ r := by
 intro p hp
 simp only [mm, bH] at hp
 obtain ⟨q, a, rfl⟩ := hp
 exact h q a
theorem U0 (T : pW) (r : kw) : mi kN (mm T) r = (mi kN T r).map tt := by
 rcases wK r T with h | ⟨A, x, B, rfl, h⟩
 ·rw [yl kP h, yl kP (Bx h)]; rfl
 ·rw [sk kP h, GL]
  exact sk kP (Bx h)
theorem PY (T : pW) (r : kw) : (mi kN (mm T) r).getD [] = tt (tu T r) := by
 rw [U0, tu]; cases mi kN T r <;> rfl
theorem JO (T : pW) (r : kw) (w : ByteArray) : (FS (Hq T r w)).Perm (FS T ++ [(⟨r, w⟩ : kB)]) := by
 unfold Hq tu
 rcases wK r T with h | ⟨A, x, B, rfl, h⟩
 ·rw [FD kP h, yl kP h]
  simp [FS]
 ·rw [zt kP h, sk kP h]
  simp only [FS, iS, fH, iu, ct, bD, fj, aT]
  refine cL _ (cL _ ?_)
  exact dL
theorem Tv {T : pW} (hk : (T.map (·.1)).Nodup) (r : kw) (w : ByteArray) : ((Hq T r w).map (·.1)).Nodup := by
 unfold Hq
 rcases wK r T with h | ⟨A, x, B, rfl, h⟩
 ·rw [FD kP h]
  simp only [ct, bD, fj]
  refine bN.2 ⟨hk, by simp, fun a ha b c e => ?_⟩
  simp at c; subst c; subst e
  obtain ⟨p, hp, e⟩ := bH.1 ha
  exact h p hp e
 ·rw [zt kP h]
  simpa using hk
theorem DP {T : pW} (hk : (T.map (·.1)).Nodup) (f : kB) : f ∈ FS T ↔ f.lx ∈ tu T f.kw := by
 simp only [FS, iA, bH]
 constructor
 ·rintro ⟨p, hp, w, hw, rfl⟩
  obtain ⟨A, B, rfl⟩ := jt hp
  have a : ∀ q ∈ A, q.1 ≠ p.1 := fun q d e => by
   rw [ct, bD] at hk
   exact (bN.1 hk).2.2 q.1 (bH.2 ⟨q, d, rfl⟩) p.1 (by simp) e
  rw [tu, show p = (p.1, p.2) from rfl, sk kP a]
  exact hw
 ·intro h
  unfold tu at h
  rcases wK f.kw T with c | ⟨A, x, B, rfl, a⟩
  ·rw [yl kP c] at h; cases h
  ·rw [sk kP a] at h
   exact ⟨(f.kw, x), by simp, f.lx, h, rfl⟩
theorem OJ {T : pW} (h : (FS T).Nodup) (r : kw) : (tu T r).Nodup := by
 unfold tu
 rcases wK r T with c | ⟨A, x, B, rfl, a⟩
 ·rw [yl kP c]; simp
 ·rw [sk kP a]
  simp only [FS, iS, fH] at h
  have h1 := (bN.1 (bN.1 h).2.1).1
  simp only [List.Nodup, fF] at h1
  exact h1.imp (fun h e => h (by rw [e]))
inductive ol (C : List ky) : kB → Prop
 | mem (c) : c ∈ C → c.Kind = 1 → ol C ⟨c.Head, c.lx⟩
 | inc (c w) : c ∈ C → c.Kind = 2 → ol C ⟨c.B, w⟩ → ol C ⟨c.Head, w⟩
 | Ii (c b w) : c ∈ C → c.Kind = 3 → ol C ⟨c.B, b⟩ → ol C ⟨⟨b, c.lU⟩, w⟩ → ol C ⟨c.Head, w⟩
 | both (c w) : c ∈ C → c.Kind = 4 → ol C ⟨c.B, w⟩ → ol C ⟨c.C, w⟩ → ol C ⟨c.Head, w⟩
theorem ol.mono {C C' : List ky} (h : ∀ c ∈ C, c ∈ C') {f : kB} (i : ol C f) : ol C' f := by
 induction i with
 | mem c a hk => exact .mem c (h c a) hk
 | inc c w a hk _ ih => exact .inc c w (h c a) hk ih
 | Ii c b w a hk _ _ d g => exact .Ii c b w (h c a) hk d g
 | both c w a hk _ _ d g => exact .both c w (h c a) hk d g
def Et (C : List ky) : List kB := (C.map (·.Head)).flatMap fun r => (C.map (·.lx)).map fun w => (⟨r, w⟩ : kB)
theorem Be (C : List ky) : (Et C).length = C.length * C.length := by
 unfold Et
 have : ∀ l : List kw, (l.flatMap fun r => (C.map (·.lx)).map fun w => (⟨r, w⟩ : kB)).length = l.length * C.length := fun l => by
  induction l with
  | nil => simp
  | cons x l ih => simp only [fH, aH, ih, dy, aJ, cA]; omega
 rw [this, dy]
theorem VD {C : List ky} {r : kw} {w : ByteArray} : (⟨r, w⟩ : kB) ∈ Et C ↔ (∃ c ∈ C, c.Head = r) ∧ ∃ c ∈ C, c.lx = w := by
 unfold Et
 simp only [iA, bH, kB.mk.injEq]
 constructor
 ·rintro ⟨h, ⟨c, g, rfl⟩, i, ⟨d, a, rfl⟩, rfl, rfl⟩; exact ⟨⟨c, g, rfl⟩, d, a, rfl⟩
 ·rintro ⟨⟨c, g, rfl⟩, d, a, rfl⟩; exact ⟨_, ⟨c, g, rfl⟩, _, ⟨d, a, rfl⟩, rfl, rfl⟩
theorem ol.vw {C : List ky} {f : kB} (h : ol C f) : ∃ c ∈ C, c.Kind = 1 ∧ c.lx = f.lx := by
 induction h with
 | mem c g hk => exact ⟨c, g, hk, rfl⟩
 | inc c w g hk _ ih => exact ih
 | Ii c b w g hk _ _ a d => exact d
 | both c w g hk _ _ a d => exact a
theorem ol.head {C : List ky} {f : kB} (h : ol C f) : ∃ c ∈ C, c.Head = f.kw := by
 cases h with
 | mem c a hk => exact ⟨c, a, rfl⟩
 | inc c w a hk _ => exact ⟨c, a, rfl⟩
 | Ii c b w a hk _ _ => exact ⟨c, a, rfl⟩
 | both c w a hk _ _ => exact ⟨c, a, rfl⟩
theorem ol.Et {C : List ky} {f : kB} (h : ol C f) : f ∈ Et C := by
 obtain ⟨c, a, _, hw⟩ := h.vw
 exact VD.2 ⟨h.head, c, a, hw⟩
structure rL (C : List ky) (T : pW) (td : List kB) (n : Int) : Prop where
 keys : (T.map (·.1)).Nodup
 nd : (FS T).Nodup
 OX : td.Nodup
 sub : ∀ f ∈ td, f ∈ FS T
 num : n = (FS T).length
 zG : ∀ f ∈ FS T, ol C f
theorem rL.len {C : List ky} {T : pW} {c : List kB} {n : Int} (h : rL C T c n) : (FS T).length ≤ C.length * C.length := by
 rw [← Be]; exact mF h.nd (fun f a => (h.zG f a).Et)
theorem rL.Xv {C : List ky} {T : pW} {a : List kB} {n : Int} (h : rL C T a n) : a.length ≤ (FS T).length := mF h.OX h.sub
theorem rL.mono {C C' : List ky} {T : pW} {a : List kB} {n : Int} (h : rL C T a n) (d : ∀ c ∈ C, c ∈ C') : rL C' T a n := ⟨h.keys, h.nd, h.OX, h.sub, h.num, fun f g => (h.zG f g).mono d⟩
structure B4 (T : pW) (td : List kB) (T' : pW) (td' : List kB) : Prop where
 na : ∀ f ∈ FS T, f ∈ FS T'
 todo : ∀ f ∈ td, f ∈ td'
 new : ∀ f ∈ FS T', f ∈ FS T ∨ f ∈ td'
 fresh : ∀ f ∈ td', f ∈ td ∨ f ∉ FS T
theorem B4.refl (T : pW) (a : List kB) : B4 T a T a := ⟨fun _ h => h, fun _ h => h, fun _ h => .inl h, fun _ h => .inl h⟩
theorem B4.trans {T T' T'' : pW} {i g a : List kB} (h : B4 T i T' g) (k : B4 T' g T'' a) : B4 T i T'' a :=
 ⟨fun f c => k.na f (h.na f c), fun f c => k.todo f (h.todo f c), fun f c => by
  rcases k.new f c with h1 | h1
  ·rcases h.new f h1 with d | d
   ·exact .inl d
   ·exact .inr (k.todo f d)
  ·exact .inr h1, fun f c => by
  rcases k.fresh f c with h1 | h1
  ·exact h.fresh f h1
  ·exact .inr (fun d => h1 (h.na f d))⟩
theorem J4 {α : Type} (p : α → Bool) : ∀ l : List α, (l.filter p).length + (l.filter fun x => !p x).length = l.length
 | [] => rfl
 | x :: l => by
  have := J4 p l
  cases h : p x <;> simp [h] <;> omega
theorem rL.Ir {C C' : List ky} {T T' : pW} {d c : List kB} {n o : Int} (i : rL C' T' c o) (g : rL C T d n) (x : B4 T d T' c) : c.length + (FS T).length ≤ d.length + (FS T').length := by
 classical
 have h1 : (c.filter fun f => decide (f ∈ FS T)).length ≤ d.length := mF (i.OX.filter _) (fun f j => by
  have := cT.1 j
  rcases x.fresh f this.1 with h | h
  ·exact h
  ·exact absurd (by simpa using this.2) h)
 have k : (FS T ++ c.filter fun f => !decide (f ∈ FS T)).length ≤ (FS T').length := mF (bN.2 ⟨g.nd, i.OX.filter _, fun a ha b m e => by
  subst e
  have := (cT.1 m).2
  simp [ha] at this⟩) (fun f j => by
  rcases aS.1 j with h | h
  ·exact x.na f h
  ·exact i.sub f (cT.1 h).1)
 have q : (c.filter fun f => decide (f ∈ FS T)).length + (c.filter fun f => !decide (f ∈ FS T)).length = c.length := by
  exact J4 (fun f => decide (f ∈ FS T)) c
 rw [aH] at k
 omega
def EK (C : List ky) (T : pW) (g : List kB) (c : Option (List (kw × List (ByteArray × Bool)) × List kB × Int)) (Q : pW → Prop) : Prop :=
 ∃ T' a d, c = some (mm T', a, d) ∧ rL C T' a d ∧ B4 T g T' a ∧ Q T'
theorem EK.mono {C : List ky} {T : pW} {g : List kB} {a : Option (List (kw × List (ByteArray × Bool)) × List kB × Int)} {Q Q' : pW → Prop} (h : EK C T g a Q) (k : ∀ T', (∀ f ∈ FS T, f ∈ FS T') → Q T' → Q' T') : EK C T g a Q' := by
 obtain ⟨T', c, m, h1, i, d, j⟩ := h
 exact ⟨T', c, m, h1, i, d, k T' d.na j⟩
def sn (C : List ky) : Prop := C.length ≤ 1000000
theorem sn.sq {C : List ky} (h : sn C) : C.length * C.length ≤ 1000000000000 := fh h h
theorem vm {T : pW} (hk : (T.map (·.1)).Nodup) (r : kw) (w : ByteArray) : zx ma ((mi kN (mm T) r).getD []) w false = true ↔ (⟨r, w⟩ : kB) ∈ FS T := by
 rw [PY, FG, nn mM, DP hk]
theorem Fk {C : List ky} (y : sn C) {T : pW} {j : List kB} {n : Int} (h : rL C T j n) (cs : List ky) (L : List (kw × List ky)) (ws : List (ByteArray × List ky)) {r : kw} {w : ByteArray} (z : ol C ⟨r, w⟩) :
  EK C T j (oC (mm T) cs L ws j n r w) (fun T' => (⟨r, w⟩ : kB) ∈ FS T') := by
 unfold oC
 have G := y.sq
 have M := h.len
 have I := h.Xv
 by_cases d : (⟨r, w⟩ : kB) ∈ FS T
 ·rw [aM ((vm h.keys r w).2 d)]
  exact ⟨T, j, n, rfl, h, B4.refl _ _, d⟩
 ·rw [aK (fun t => d ((vm h.keys r w).1 t))]
  have D : rL C (Hq T r w) (j ++ [⟨r, w⟩]) (n + 1) := by
   have hp := JO T r w
   refine ⟨Tv h.keys r w, (hp.nodup_iff).2 (bN.2 ⟨h.nd, by simp, fun a ha b m e => ?_⟩), bN.2 ⟨h.OX, by simp, fun a ha b m e => ?_⟩, fun f c => hp.mem_iff.2 ?_, ?_, fun f c => ?_⟩
   ·simp at m; subst m; subst e; exact d ha
   ·simp at m; subst m; subst e; exact d (h.sub _ ha)
   ·rcases aS.1 c with c | c
    ·exact bI _ (h.sub f c)
    ·exact cD _ c
   ·rw [hp.length_eq, h.num]; simp
   ·rcases aS.1 (hp.mem_iff.1 c) with c | c
    ·exact h.zG f c
    ·simp at c; subst c; exact z
  have u : ((if (mi kN (mm T) r).isNone = true then ((I2 kN (mm T) r []).bind fun l => some l) else some (mm T)) : Option _).bind (fun l => (IE kN ma l r w true)) = some (mm (Hq T r w)) := by
   unfold Hq tu
   rcases wK r T with i | ⟨A, x, B, rfl, s⟩
   ·have q := yl kP (Bx i)
    rw [q, yl kP i, FD kP i, GL]
    simp only [Option.isNone_none, bc, I2, q, aA]
    rw [FD kP (Bx i)]
    unfold IE
    rw [sk kP (Bx i)]
    simp only [dz]
    rw [zt kP (Bx i)]
    rfl
   ·have k := Bx s
    have v : mi kN (mm (A ++ (r, x) :: B)) r = some (tt x) := by rw [GL]; exact sk kP k
    rw [v, sk kP s, zt kP s]
    simp only [Option.isNone_some, aB, aP, aA, IE, v, dz, iu]
    have J : w ∉ x := fun hw => d (by
     rw [DP h.keys, tu, sk kP s]; exact hw)
    rw [Kq mM]
    rw [show ins ma x w = x ++ [w] from by unfold ins; rw [aK (fun t => J ((nn mM x w).1 t))]]
    rw [GL, show mm ((r, x) :: B) = (r, tt x) :: mm B from rfl, zt kP k, GL]
    rfl
  refine ⟨Hq T r w, j ++ [⟨r, w⟩], n + 1, ?_, D, ⟨fun f c => (JO T r w).mem_iff.2 (bI _ c), fun f c => bI _ c, fun f c => ?_, fun f c => ?_⟩, (JO T r w).mem_iff.2 (by simp)⟩
  ·have g := u
   generalize ((if (mi kN (mm T) r).isNone = true then ((I2 kN (mm T) r []).bind fun l => some l) else some (mm T)) : Option _) = o at g
   cases o with
   | none => cases g
   | some l =>
    simp only [aA] at g ⊢
    rw [g]
    simp only [aA]
    rw [mG (by simp; omega) (by simp; omega)]
    simp only [aA]
    rw [lQ (by rw [h.num]; omega) (by rw [h.num]; omega)]
  ·rcases aS.1 ((JO T r w).mem_iff.1 c) with h1 | h1
   ·exact .inl h1
   ·exact .inr (cD _ h1)
  ·rcases aS.1 c with h1 | h1
   ·exact .inl h1
   ·simp at h1; subst h1; exact .inr d
theorem BM (l : List ByteArray) (x : ByteArray) : x ∈ oV l ↔ x ∈ l := by unfold oV; simp
def qU (C : List ky) : Prop := ∀ c ∈ C, mf c = true
theorem Sg {c : ky} (h : mf c = true) (hk : c.Kind = 1) : c.lx.size ≤ 16 := by
 rcases nL h with h | h | h | h
 ·exact (nz h.2.1).2
 ·exact absurd (hk.symm.trans h.1) (by decide)
 ·exact absurd (hk.symm.trans h.1) (by decide)
 ·exact absurd (hk.symm.trans h.1) (by decide)
theorem SX {T : pW} (r : kw) (hk : (T.map (·.1)).Nodup) : (tu T r).length ≤ (FS T).length := by
 unfold tu
 rcases wK r T with c | ⟨A, x, B, rfl, a⟩
 ·rw [yl kP c]; simp
 ·rw [sk kP a]
  simp only [FS, iS, fH, aH, dy, iu]
  omega
theorem JR {C : List ky} (a : sn C) (d : qU C) {T : pW} {j : List kB} {n : Int} (h : rL C T j n) (cs : List ky) (k : List (kw × List ky)) (ws : List (ByteArray × List ky)) (q : List kB) (z : Int) (r : kw) :
  rT (mm T) cs k ws q z r = some (oV (tu T r)) := by
 unfold rT pE
 rw [PY]
 simp only [aA, uN]
 have s := SX r h.keys
 have m := h.len
 have o := a.sq
 unfold Jf
 rw [Vi, aM]
 refine ⟨OJ h.nd r, fun p hp => ?_, by rw [RR]; omega⟩
 simp only [tt, bH] at hp
 obtain ⟨w, hw, rfl⟩ := hp
 have i := h.zG ⟨r, w⟩ ((DP h.keys ⟨r, w⟩).2 hw)
 obtain ⟨c, g, hk, e⟩ := i.vw
 have := Sg (d c g) hk
 simp only at e ⊢
 rw [← e]
 unfold maxLen
 omega
theorem Rr {C : List ky} (i : sn C) (cs : List ky) (g : List (kw × List ky)) (ws : List (ByteArray × List ky)) (head : kw) : ∀ (l : List ByteArray) {T : pW} {a : List kB} {n : Int}, rL C T a n → (∀ w ∈ l, ol C ⟨head, w⟩) →
  EK C T a (qW cs g ws head l (mm T) a n) (fun T' => ∀ w ∈ l, (⟨head, w⟩ : kB) ∈ FS T')
 | [], T, a, n, h, _ => ⟨T, a, n, rfl, h, B4.refl _ _, fun _ hw => by cases hw⟩
 | w :: l, T, a, n, h, j => by
  rw [qW]
  obtain ⟨T1, t, u, k, g1, x1, q⟩ := Fk i h cs g ws (j w (by simp))
  rw [k]
  simp only [aA]
  obtain ⟨T2, d, o, m, g2, x2, s⟩ := Rr i cs g ws head l g1 (fun w hw => j w (by simp [hw]))
  refine ⟨T2, d, o, m, g2, x1.trans x2, fun v c => ?_⟩
  rcases aR.1 c with rfl | c
  ·exact x2.na _ q
  ·exact s v c
theorem Wc {C : List ky} (c : sn C) (g : qU C) {T : pW} {a : List kB} {n : Int} (h : rL C T a n) (cs : List ky) (d : List (kw × List ky)) (ws : List (ByteArray × List ky)) (r head : kw) (i : ∀ w, (⟨r, w⟩ : kB) ∈ FS T → ol C ⟨head, w⟩) :
  EK C T a (we (mm T) cs d ws a n r head) (fun T' => ∀ w, (⟨r, w⟩ : kB) ∈ FS T → (⟨head, w⟩ : kB) ∈ FS T') := by
 unfold we
 rw [JR c g h]
 simp only [aA]
 refine (Rr c cs d ws head _ h (fun w hw => i w ((DP h.keys ⟨r, w⟩).2 ((BM _ _).1 hw)))).mono (fun T' _ j w hw => j w ((BM _ _).2 ((DP h.keys ⟨r, w⟩).1 hw)))
def HJ (c : ky) (f : kB) (T T' : pW) : Prop :=
 (c.Kind = 2 → f.kw = c.B → (⟨c.Head, f.lx⟩ : kB) ∈ FS T') ∧
 (c.Kind = 3 → f.kw = c.B → ∀ w, (⟨⟨f.lx, c.lU⟩, w⟩ : kB) ∈ FS T → (⟨c.Head, w⟩ : kB) ∈ FS T') ∧
 (c.Kind = 4 → (⟨c.B, f.lx⟩ : kB) ∈ FS T → (⟨c.C, f.lx⟩ : kB) ∈ FS T → (⟨c.Head, f.lx⟩ : kB) ∈ FS T')
theorem HJ.mono {c : ky} {f : kB} {T T' T0 T1 : pW} (h : HJ c f T T') (g : ∀ f ∈ FS T0, f ∈ FS T) (h1 : ∀ f ∈ FS T', f ∈ FS T1) : HJ c f T0 T1 :=
 ⟨fun a b => h1 _ (h.1 a b), fun a b w hw => h1 _ (h.2.1 a b w (g _ hw)), fun a b d => h1 _ (h.2.2 a (g _ b) (g _ d))⟩
theorem UE (x : Option (List (kw × List (ByteArray × Bool)) × List kB × Int)) : (x.bind fun r => some (r.1, r.2.1, r.2.2)) = x := by cases x <;> rfl
theorem Rt {C : List ky} (s : sn C) (A : qU C) {T : pW} {j : List kB} {n : Int} (h : rL C T j n) (cs : List ky) (o : List (kw × List ky)) (ws : List (ByteArray × List ky)) {c : ky} (t : c ∈ C) {f : kB} (v : f ∈ FS T) (z : f.kw ∈ pj c) :
  EK C T j (sZ (mm T) cs o ws j n c f) (HJ c f T) := by
 unfold sZ
 simp only [UE, Bm]
 by_cases a : c.Kind = 2
 ·have q : f.kw = c.B := by simpa [pj, a] using z
  rw [aM (by simp [a])]
  have u : ol C ⟨c.Head, f.lx⟩ := .inc c f.lx t a (by rw [← q]; exact h.zG f v)
  refine (Fk s h cs o ws u).mono (fun T' _ i => ⟨fun _ _ => i, fun k => absurd (a.symm.trans k) (by decide), fun k => absurd (a.symm.trans k) (by decide)⟩)
 rw [aK (by simp [a])]
 by_cases d : c.Kind = 3
 ·have q : f.kw = c.B := by simpa [pj, d] using z
  rw [aM (by simp [d])]
  refine (Wc s A h cs o ws ⟨f.lx, c.lU⟩ c.Head (fun w hw => .Ii c f.lx w t d (by rw [← q]; exact h.zG f v) (h.zG _ hw))).mono (fun T' _ i => ⟨fun k => absurd k a, fun _ _ w hw => i w hw, fun k => absurd (d.symm.trans k) (by decide)⟩)
 rw [aK (by simp [d])]
 by_cases m : c.Kind = 4
 ·rw [aM (by simp [m])]
  simp only [aA]
  by_cases g : (⟨c.B, f.lx⟩ : kB) ∈ FS T ∧ (⟨c.C, f.lx⟩ : kB) ∈ FS T
  ·rw [aM (by rw [aU, vm h.keys, vm h.keys]; exact g)]
   have u : ol C ⟨c.Head, f.lx⟩ := .both c f.lx t m (h.zG _ g.1) (h.zG _ g.2)
   exact (Fk s h cs o ws u).mono (fun T' _ i => ⟨fun k => absurd k a, fun k => absurd k d, fun _ _ _ => i⟩)
  ·rw [aK (by rw [aU, vm h.keys, vm h.keys]; exact g)]
   exact ⟨T, j, n, rfl, h, B4.refl _ _, fun k => absurd k a, fun k => absurd k d, fun _ x y => absurd ⟨x, y⟩ g⟩
 ·rw [aK (by simp [m])]
  exact ⟨T, j, n, rfl, h, B4.refl _ _, fun k => absurd k a, fun k => absurd k d, fun k => absurd k m⟩
theorem M0 {C : List ky} (j : sn C) (k : qU C) (cs : List ky) (i : List (kw × List ky)) (ws : List (ByteArray × List ky)) {c : ky} (m : c ∈ C) (o : c.B ∈ pj c) : ∀ (l : List ByteArray) {T : pW} {a : List kB} {n : Int}, rL C T a n → (∀ w ∈ l, (⟨c.B, w⟩ : kB) ∈ FS T) →
  EK C T a (qa cs i ws c l (mm T) a n) (fun T' => ∀ w ∈ l, HJ c ⟨c.B, w⟩ T T')
 | [], T, a, n, h, _ => ⟨T, a, n, rfl, h, B4.refl _ _, fun _ hw => by cases hw⟩
 | w :: l, T, a, n, h, hm => by
  rw [qa]
  obtain ⟨T1, y, z, q, g1, x1, u⟩ := Rt j k h cs i ws m (f := ⟨c.B, w⟩) (hm w (by simp)) o
  rw [q]
  simp only [aA]
  obtain ⟨T2, g, t, s, g2, x2, x⟩ := M0 j k cs i ws m o l g1 (fun w hw => x1.na _ (hm w (by simp [hw])))
  refine ⟨T2, g, t, s, g2, x1.trans x2, fun v d => ?_⟩
  rcases aR.1 d with rfl | d
  ·exact u.mono (fun _ h => h) x2.na
  ·exact (x v d).mono x1.na (fun _ h => h)
def Ic (c : ky) (T : pW) (a : List kB) : Prop :=
 (c.Kind = 1 → (⟨c.Head, c.lx⟩ : kB) ∈ FS T) ∧
 (c.Kind = 2 → ∀ w, (⟨c.B, w⟩ : kB) ∈ FS T → (⟨c.B, w⟩ : kB) ∉ a → (⟨c.Head, w⟩ : kB) ∈ FS T) ∧
 (c.Kind = 3 → ∀ b w, (⟨c.B, b⟩ : kB) ∈ FS T → (⟨c.B, b⟩ : kB) ∉ a → (⟨⟨b, c.lU⟩, w⟩ : kB) ∈ FS T → (⟨⟨b, c.lU⟩, w⟩ : kB) ∉ a → (⟨c.Head, w⟩ : kB) ∈ FS T) ∧
 (c.Kind = 4 → ∀ w, (⟨c.B, w⟩ : kB) ∈ FS T → (⟨c.B, w⟩ : kB) ∉ a → (⟨c.C, w⟩ : kB) ∈ FS T → (⟨c.C, w⟩ : kB) ∉ a → (⟨c.Head, w⟩ : kB) ∈ FS T)
theorem Ic.ext {c : ky} {T T' : pW} {i d : List kB} (h : Ic c T i) (x : B4 T i T' d) : Ic c T' d := by
 have na : ∀ f, f ∈ FS T' → f ∉ d → f ∈ FS T ∧ f ∉ i := fun f n j => by
  rcases x.new f n with h1 | h1
  ·exact ⟨h1, fun m => j (x.todo f m)⟩
  ·exact absurd h1 j
 refine ⟨fun k => x.na _ (h.1 k), fun k w a b => ?_, fun k b w g a2 a3 a4 => ?_, fun k w g a2 a3 a4 => ?_⟩
 ·exact x.na _ (h.2.1 k w (na _ a b).1 (na _ a b).2)
 ·exact x.na _ (h.2.2.1 k b w (na _ g a2).1 (na _ g a2).2 (na _ a3 a4).1 (na _ a3 a4).2)
 ·exact x.na _ (h.2.2.2 k w (na _ g a2).1 (na _ g a2).2 (na _ a3 a4).1 (na _ a3 a4).2)
theorem T6 {C : List ky} (m : sn C) (u : qU C) {T : pW} {s : List kB} {n : Int} (h : rL C T s n) (cs : List ky) (t : List (kw × List ky)) (ws : List (ByteArray × List ky)) {c : ky} (v : c ∈ C) :
  ∃ T' d i, uC (mm T) cs t ws s n c = some (mm T', d, i) ∧ rL C T' d i ∧ B4 T s T' d ∧ Ic c T' d := by
 unfold uC
 simp only [UE]
 by_cases h1 : c.Kind = 1
 ·rw [aM (by simp [h1])]
  obtain ⟨T', d, i, e, g, x, q⟩ := Fk m h cs t ws (ol.mem c v h1)
  exact ⟨T', d, i, e, g, x, fun _ => q, fun k => absurd (h1.symm.trans k) (by decide), fun k => absurd (h1.symm.trans k) (by decide), fun k => absurd (h1.symm.trans k) (by decide)⟩
 ·rw [aK (by simp [h1]), JR m u h]
  simp only [aA]
  have A : c.B ∈ pj c := by unfold pj; rw [aK h1]; split <;> simp
  obtain ⟨T', d, i, e, g, x, q⟩ := M0 m u cs t ws v A (oV (tu T c.B)) h (fun w hw => (DP h.keys ⟨c.B, w⟩).2 ((BM _ _).1 hw))
  have na : ∀ f, f ∈ FS T' → f ∉ d → f ∈ FS T := fun f y z => by
   rcases x.new f y with h1 | h1
   ·exact h1
   ·exact absurd h1 z
  have o : ∀ w, (⟨c.B, w⟩ : kB) ∈ FS T → HJ c ⟨c.B, w⟩ T T' := fun w hw => q w ((BM _ _).2 ((DP h.keys ⟨c.B, w⟩).1 hw))
  refine ⟨T', d, i, e, g, x, fun k => absurd k h1, fun k w a b => ?_, fun k b w j a2 a3 a4 => ?_, fun k w j a2 a3 a4 => ?_⟩
  ·exact (o w (na _ a b)).1 k rfl
  ·exact (o b (na _ j a2)).2.1 k rfl w (na _ a3 a4)
  ·exact (o w (na _ j a2)).2.2 k (na _ j a2) (na _ a3 a4)
structure Hc (C : List ky) (us : List (kw × List ky)) (ws : List (ByteArray × List ky)) : Prop where
 Td : ∀ r c, c ∈ (mi kN us r).getD [] ↔ c ∈ C ∧ r ∈ pj c
 word : ∀ w c, c ∈ (mi ma ws w).getD [] ↔ c ∈ C ∧ c.Kind = 3 ∧ c.lU = w
 Xb : ∀ r, ((mi kN us r).getD []).length ≤ 2 * C.length
 Xj : ∀ w, ((mi ma ws w).getD []).length ≤ C.length
theorem KO {C : List ky} (j : sn C) (k : qU C) (cs : List ky) (i : List (kw × List ky)) (ws : List (ByteArray × List ky)) {f : kB} : ∀ (l : List ky) {T : pW} {a : List kB} {n : Int}, rL C T a n → f ∈ FS T → (∀ c ∈ l, c ∈ C ∧ f.kw ∈ pj c) →
  EK C T a (pT cs i ws f l (mm T) a n) (fun T' => ∀ c ∈ l, HJ c f T T')
 | [], T, a, n, h, _, _ => ⟨T, a, n, rfl, h, B4.refl _ _, fun _ hw => by cases hw⟩
 | c :: l, T, a, n, h, m, hm => by
  rw [pT]
  obtain ⟨T1, x, y, o, g1, x1, u⟩ := Rt j k h cs i ws (hm c (by simp)).1 m (hm c (by simp)).2
  rw [o]
  simp only [aA]
  obtain ⟨T2, g, t, q, g2, x2, w⟩ := KO j k cs i ws l g1 (x1.na _ m) (fun c s => hm c (by simp [s]))
  refine ⟨T2, g, t, q, g2, x1.trans x2, fun v d => ?_⟩
  rcases aR.1 d with rfl | d
  ·exact u.mono (fun _ h => h) x2.na
  ·exact (w v d).mono x1.na (fun _ h => h)
theorem GP {C : List ky} (o : sn C) (x : qU C) (cs : List ky) (k : List (kw × List ky)) (ws : List (ByteArray × List ky)) {f : kB} : ∀ (l : List ky) {T : pW} {i : List kB} {n : Int}, rL C T i n → f ∈ FS T → (∀ c ∈ l, c ∈ C ∧ c.Kind = 3 ∧ c.lU = f.kw.kT) →
  EK C T i (oH f cs k ws l (mm T) i n) (fun T' => ∀ c ∈ l, (⟨c.B, f.kw.kE⟩ : kB) ∈ FS T → (⟨c.Head, f.lx⟩ : kB) ∈ FS T')
 | [], T, i, n, h, _, _ => ⟨T, i, n, rfl, h, B4.refl _ _, fun _ hw => by cases hw⟩
 | c :: l, T, i, n, h, s, hm => by
  rw [oH]
  have hk := hm c (by simp)
  by_cases j : (⟨c.B, f.kw.kE⟩ : kB) ∈ FS T
  ·rw [aM ((vm h.keys _ _).2 j)]
   have t : f = ⟨⟨f.kw.kE, c.lU⟩, f.lx⟩ := by rw [hk.2.2]
   have z : ol C ⟨c.Head, f.lx⟩ := .Ii c f.kw.kE f.lx hk.1 hk.2.1 (h.zG _ j) (by rw [← t]; exact h.zG f s)
   obtain ⟨T1, G, I, y, g1, x1, D⟩ := Fk o h cs k ws z
   rw [y]
   simp only [aA]
   obtain ⟨T2, g, u, m, g2, x2, w⟩ := GP o x cs k ws l g1 (x1.na _ s) (fun c q => hm c (by simp [q]))
   refine ⟨T2, g, u, m, g2, x1.trans x2, fun v d a => ?_⟩
   rcases aR.1 d with rfl | d
   ·exact x2.na _ D
   ·exact w v d (x1.na _ a)
  ·rw [aK (fun A => j ((vm h.keys _ _).1 A))]
   obtain ⟨T2, g, u, m, g2, x2, w⟩ := GP o x cs k ws l h s (fun c q => hm c (by simp [q]))
   refine ⟨T2, g, u, m, g2, x2, fun v d a => ?_⟩
   rcases aR.1 d with rfl | d
   ·exact absurd a j
   ·exact w v d a
theorem Lp {C : List ky} (J : sn C) (L : qU C) {cs : List ky} {G : List (kw × List ky)} {ws : List (ByteArray × List ky)} (y : Hc C G ws) : ∀ (m : Nat) {T : pW} {o : List kB} {n : Int}, rL C T o n → (∀ c ∈ C, Ic c T o) → C.length * C.length + o.length < m + (FS T).length →
  ∃ T' P, nP cs G ws m (mm T) o n = some (mm T', [], P) ∧ rL C T' [] P ∧ (∀ c ∈ C, Ic c T' []) ∧ (∀ f ∈ FS T, f ∈ FS T')
 | 0, T, o, n, h, _, hm => by have := h.len; omega
 | m + 1, T, [], n, h, s, hm => by
  rw [nP]
  exact ⟨T, n, rfl, h, s, fun _ h => h⟩
 | m + 1, T, f :: o, n, h, s, hm => by
  rw [nP]
  rw [aM (by simp)]
  have O : f ∈ FS T := h.sub f (by simp)
  have Y := (cK.1 h.OX)
  simp only [mx, Int.le_refl, bc, Int.toNat_zero, gz, aA]
  rw [show nG (decide ((0 : Nat) ≤ 1) && decide ((1 : Int) ≤ ((f :: o).length : Int))) = some () by simp [nG]; omega]
  simp only [aA, show Int.toNat 1 = 1 from rfl, List.drop_one, List.tail_cons]
  have M : rL C T o n := ⟨h.keys, h.nd, Y.2, fun g A => h.sub g (by simp [A]), h.num, h.zG⟩
  obtain ⟨T1, a6, n1, R, g1, x1, q1⟩ := KO J L cs G ws ((mi kN G f.kw).getD []) M O (fun c i => (y.Td _ c).1 i)
  rw [R]
  simp only [aA]
  obtain ⟨T2, t, n2, U, g2, x2, q2⟩ := GP J L cs G ws ((mi ma ws f.kw.kT).getD []) g1 (x1.na _ O) (fun c i => (y.word _ c).1 i)
  rw [U]
  simp only [aA]
  have x := x1.trans x2
  have na : ∀ g, g ∈ FS T2 → g ∉ t → g ∈ FS T ∧ (g = f ∨ g ∉ f :: o) := fun g A D => by
   rcases x.new g A with h1 | h1
   ·refine ⟨h1, ?_⟩
    by_cases he : g = f
    ·exact .inl he
    ·exact .inr (fun v => by
      rcases aR.1 v with v | v
      ·exact he v
      ·exact D (x.todo g v))
   ·exact absurd h1 D
  have d1 : ∀ c ∈ C, f.kw ∈ pj c → HJ c f T T2 := fun c i Z => (q1 c ((y.Td _ c).2 ⟨i, Z⟩)).mono (fun _ h => h) x2.na
  have z : ∀ c ∈ C, Ic c T2 t := fun c i => by
   have k := s c i
   refine ⟨fun hk => x.na _ (k.1 hk), fun hk w a b => ?_, fun hk b w I a2 a3 a4 => ?_, fun hk w I a2 a3 a4 => ?_⟩
   ·obtain ⟨q, d⟩ := na _ a b
    rcases d with d | d
    ·subst d; exact (d1 c i (by simp [pj, hk])).1 hk rfl
    ·exact x.na _ (k.2.1 hk w q d)
   ·obtain ⟨q, d⟩ := na _ I a2
    obtain ⟨u, j⟩ := na _ a3 a4
    rcases d with d | d
    ·subst d; exact (d1 c i (by simp [pj, hk])).2.1 hk rfl w u
    ·rcases j with j | j
     ·subst j
      exact q2 c ((y.word _ c).2 ⟨i, hk, rfl⟩) (x1.na _ q)
     ·exact x.na _ (k.2.2.1 hk b w q d u j)
   ·obtain ⟨q, d⟩ := na _ I a2
    obtain ⟨u, j⟩ := na _ a3 a4
    rcases d with d | d
    ·subst d; exact (d1 c i (by simp [pj, hk])).2.2 hk q u
    ·rcases j with j | j
     ·subst j; exact (d1 c i (by simp [pj, hk])).2.2 hk q u
     ·exact x.na _ (k.2.2.2 hk w q d u j)
  have hlen : t.length + (FS T).length ≤ o.length + (FS T2).length := by
   exact g2.Ir M x
  obtain ⟨T3, n3, W, g3, Q, o3⟩ := Lp J L y m g2 z (by simp only [aJ] at hm; omega)
  exact ⟨T3, n3, W, g3, Q, fun g A => o3 g (x.na g A)⟩
theorem PN (c : ky) : ∀ (l : List ky) (i : Nat), ∃ z, qS c l i = some z ∧ (z ≥ 0 ↔ c ∈ l)
 | [], i => ⟨-1, rfl, by simp⟩
 | x :: l, i => by
  rw [qS]
  by_cases h : oI c x = true
  ·rw [aM h]
   exact ⟨_, rfl, by simp [xe.1 h]⟩
  ·rw [aK h]
   obtain ⟨z, e, d⟩ := PN c l (i + 1)
   refine ⟨z, e, ?_⟩
   rw [d, aR]
   exact ⟨.inr, fun a => a.resolve_left (fun e => h (xe.2 e))⟩
theorem NS (c : ky) (l : List ky) : ∃ b, zz l c = some b ∧ (b = true ↔ c ∈ l) := by
 obtain ⟨z, e, a⟩ := PN c l 0
 refine ⟨decide (z ≥ 0), ?_, by simpa using a⟩
 unfold zz xc yt
 rw [e]
 rfl
theorem O9 (c : ky) (ws : List (ByteArray × List ky)) (C : List ky) (hw : ∀ w, ((mi ma ws w).getD []).length ≤ 2000000) : ∀ (k : List kw) (a : List (kw × List ky)), (∀ r, ((mi kN a r).getD []).length + k.length ≤ 4000000) →
  ∃ i j, po c ws C k a = some (C, i, j) ∧ (∀ r x, x ∈ (mi kN i r).getD [] ↔ x ∈ (mi kN a r).getD [] ∨ (x = c ∧ r ∈ k)) ∧
   (∀ w x, x ∈ (mi ma j w).getD [] ↔ x ∈ (mi ma ws w).getD [] ∨ (x = c ∧ c.Kind = 3 ∧ w = c.lU)) ∧ (∀ r, ((mi kN i r).getD []).length ≤ ((mi kN a r).getD []).length + k.length) ∧
   (∀ w, ((mi ma j w).getD []).length ≤ ((mi ma ws w).getD []).length + 1)
 | [], a, _ => by
  rw [po]
  by_cases m : c.Kind = 3
  ·rw [aM (by simp [m])]
   have h := hw c.lU
   rw [mG (by simp; omega) (by simp; omega)]
   simp only [aA]
   refine ⟨a, _, rfl, by simp, fun w x => ?_, by simp, fun w => ?_⟩
   ·rw [Hj mM]
    by_cases hk : ma w c.lU = true
    ·rw [aM hk, mM.1 hk]; simp [m]
    ·rw [aK hk]
     have : w ≠ c.lU := fun e => hk (mM.2 e)
     simp [this]
   ·rw [Hj mM]
    by_cases hk : ma w c.lU = true
    ·rw [aM hk, mM.1 hk]; simp
    ·rw [aK hk]; exact jv _
  ·rw [aK (by simp [m])]
   exact ⟨a, ws, rfl, by simp, by simp [m], by simp, by simp⟩
 | d :: k, a, n => by
  rw [po]
  have h := n d
  simp only [aJ] at h
  rw [mG (by simp; omega) (by simp; omega)]
  simp only [aA]
  have g : ∀ r, (mi kN (oh kN a d (((mi kN a d).getD []) ++ [c])) r).getD [] = if kN r d = true then ((mi kN a d).getD []) ++ [c] else (mi kN a r).getD [] := fun r => by
   rw [Hj kP]; by_cases hk : kN r d = true
   ·rw [aM hk, aM hk]; rfl
   ·rw [aK hk, aK hk]
  obtain ⟨i, j, e, o, a2, a3, a4⟩ := O9 c ws C hw k (oh kN a d (((mi kN a d).getD []) ++ [c])) (fun r => by
   rw [g r]
   have q := n r
   simp only [aJ] at q
   by_cases hk : kN r d = true
   ·rw [aM hk]; simp; omega
   ·rw [aK hk]; omega)
  refine ⟨i, j, e, fun r x => ?_, a2, fun r => ?_, a4⟩
  ·rw [o, g]
   by_cases hk : kN r d = true
   ·rw [aM hk, kP.1 hk]
    simp only [aS, aR, di, fw]
    constructor
    ·rintro ((h | h) | h)
     ·exact .inl h
     ·exact .inr ⟨h, .inl trivial⟩
     ·exact .inr ⟨h.1, .inr h.2⟩
    ·rintro (h | h)
     ·exact .inl (.inl h)
     ·exact .inl (.inr h.1)
   ·rw [aK hk]
    have : r ≠ d := fun e => hk (kP.2 e)
    simp [this]
  ·have := a3 r
   rw [g r] at this
   by_cases hk : kN r d = true
   ·rw [aM hk] at this; rw [kP.1 hk] at this ⊢; simp at this ⊢; omega
   ·rw [aK hk] at this; simp; omega
theorem U8 {C : List ky} {k : List (kw × List ky)} {ws : List (ByteArray × List ky)} (j : Hc C k ws) (t : C.length + 1 ≤ 1000000) {c : ky} (o : mf c = true) (i : List (kw × List (ByteArray × Bool))) (s : List kB) (n : Int) :
  ∃ a d, vt i C k ws s n c = some (C ++ [c], a, d) ∧ Hc (C ++ [c]) a d := by
 unfold vt
 rw [mG (by simp; omega) (by simp; omega)]
 simp only [aA, VZ o]
 rw [show nG (decide ((0 : Nat) ≤ 1) && decide ((1 : Int) ≤ ((c.Head :: pj c).length : Int))) = some () by simp [nG]; omega]
 simp only [aA, show Int.toNat 1 = 1 from rfl, List.drop_one, List.tail_cons]
 have q : (pj c).length ≤ 2 := by unfold pj; split; simp; split <;> simp
 obtain ⟨a, d, e, m, a2, a3, a4⟩ := O9 c ws (C ++ [c]) (fun w => by have := j.Xj w; omega) (pj c) k (fun r => by have := j.Xb r; omega)
 refine ⟨a, d, e, fun r x => ?_, fun w x => ?_, fun r => ?_, fun w => ?_⟩
 ·rw [m, j.Td, aS, aO]
  constructor
  ·rintro (h | h)
   ·exact ⟨.inl h.1, h.2⟩
   ·exact ⟨.inr h.1, by rw [h.1]; exact h.2⟩
  ·rintro ⟨h | h, g⟩
   ·exact .inl ⟨h, g⟩
   ·exact .inr ⟨h, by rw [← h]; exact g⟩
 ·rw [a2, j.word, aS, aO]
  constructor
  ·rintro (h | h)
   ·exact ⟨.inl h.1, h.2⟩
   ·exact ⟨.inr h.1, by rw [h.1]; exact ⟨h.2.1, h.2.2.symm⟩⟩
  ·rintro ⟨h | h, g⟩
   ·exact .inl ⟨h, g⟩
   ·subst h; exact .inr ⟨rfl, g.1, g.2.symm⟩
 ·have := a3 r; have := j.Xb r; simp; omega
 ·have := a4 w; have := j.Xj w; simp; omega
structure MS (C : List ky) (T : pW) (us : List (kw × List ky)) (ws : List (ByteArray × List ky)) (n : Int) : Prop where
 sT : rL C T [] n
 cl : ∀ c ∈ C, Ic c T []
 YJ : Hc C us ws
 right : qU C
theorem MS.all {C : List ky} {T : pW} {j : List (kw × List ky)} {ws : List (ByteArray × List ky)} {n : Int} (h : MS C T j ws n) (f : kB) : f ∈ FS T ↔ ol C f := by
 refine ⟨h.sT.zG f, fun i => ?_⟩
 induction i with
 | mem c a hk => exact (h.cl c a).1 hk
 | inc c w a hk _ ih => exact (h.cl c a).2.1 hk w ih (by simp)
 | Ii c b w a hk _ _ d g => exact (h.cl c a).2.2.1 hk b w d (by simp) g (by simp)
 | both c w a hk _ _ d g => exact (h.cl c a).2.2.2 hk w d (by simp) g (by simp)
theorem Np (s : Int) (A : 0 ≤ s ∧ s ≤ 1000000000000) : ∀ (l : List ky) {C : List ky} {T : pW} {q : List kB} {D : List (kw × List ky)} {ws : List (ByteArray × List ky)} {n : Int}, rL C T q n → (∀ c ∈ C, Ic c T q) → Hc C D ws → qU C → C.length + l.length ≤ 1000000 →
  ∃ C' T' a d j, oF s l (mm T) C D ws q n = some (j - s, mm T', C', a, d, [], j) ∧ MS C' T' a d j ∧ (∀ c, c ∈ C' ↔ c ∈ C ∨ (c ∈ l ∧ mf c = true)) ∧ C'.length ≤ C.length + l.length ∧ (∀ f ∈ FS T, f ∈ FS T')
 | [], C, T, q, D, ws, n, g, i, v, t, P => by
  rw [oF]
  have Z : sn C := by unfold sn; simp at P; omega
  have a7 := Z.sq
  have hlen := g.len
  have a8 := g.Xv
  obtain ⟨T', j, e, J, c', o⟩ := Lp Z t v (cs := C) lC g i (by rw [pp]; omega)
  unfold wY
  rw [e]
  simp only [aA]
  have Q := J.len
  have a6 := J.num
  rw [lQ (by omega) (by omega)]
  exact ⟨C, T', D, ws, j, rfl, ⟨J, c', v, t⟩, by simp, by simp, o⟩
 | x :: l, C, T, q, D, ws, n, g, i, v, t, P => by
  rw [oF, pV]
  simp only [aJ] at P
  obtain ⟨b, hb, w⟩ := NS x C
  simp only [aA, hb, Bm]
  by_cases k : mf x = true ∧ x ∉ C
  ·have M : b = false := by cases b with | false => rfl | true => exact absurd (w.1 rfl) k.2
   rw [k.1, M]
   simp only [cV, Bool.and_self, bc]
   obtain ⟨W, Y, e1, U1⟩ := U8 v (by omega) k.1 (mm T) q n
   rw [e1]
   simp only [aA]
   have L : sn (C ++ [x]) := by unfold sn; simp; omega
   have u : qU (C ++ [x]) := fun c y => by
    rcases aS.1 y with h | h
    ·exact t c h
    ·simp at h; subst h; exact k.1
   have g1 : rL (C ++ [x]) T q n := g.mono (fun c y => bI _ y)
   obtain ⟨T2, U, n2, e2, g2, x2, c2⟩ := T6 L u g1 (C ++ [x]) W Y (c := x) (by simp)
   rw [e2]
   simp only [aA]
   have z : ∀ c ∈ C ++ [x], Ic c T2 U := fun c y => by
    rcases aS.1 y with h | h
    ·exact (i c h).ext x2
    ·simp at h; subst h; exact c2
   obtain ⟨C', T', a, d, j, e, m, I, a2, a3⟩ := Np s A l g2 z U1 u (by simp; omega)
   refine ⟨C', T', a, d, j, e, m, fun c => ?_, by simp at a2 ⊢; omega, fun f O => a3 f (x2.na f O)⟩
   rw [I]
   simp only [aS, aR, di, fw]
   constructor
   ·rintro ((h | h) | h)
    ·exact .inl h
    ·subst h; exact .inr ⟨.inl rfl, k.1⟩
    ·exact .inr ⟨.inr h.1, h.2⟩
   ·rintro (h | ⟨h | h, G⟩)
    ·exact .inl (.inl h)
    ·exact .inl (.inr h)
    ·exact .inr ⟨h, G⟩
  ·have O : (mf x && !b) = false := by
    cases hr : mf x with
    | false => rfl
    | true =>
     have : x ∈ C := dX fun R => k ⟨hr, R⟩
     rw [w.2 this]; rfl
   rw [O]
   simp only [aB, aP]
   obtain ⟨C', T', a, d, j, e, m, I, a2, a3⟩ := Np s A l g i v t (by omega)
   refine ⟨C', T', a, d, j, e, m, fun c => ?_, by simp; omega, a3⟩
   rw [I, aR]
   constructor
   ·rintro (h | h)
    ·exact .inl h
    ·exact .inr ⟨.inr h.1, h.2⟩
   ·rintro (h | ⟨h | h, G⟩)
    ·exact .inl h
    ·subst h
     exact .inl (dX fun R => k ⟨G, R⟩)
    ·exact .inr ⟨h, G⟩
theorem VN {C : List ky} {T : pW} {i : List (kw × List ky)} {ws : List (ByteArray × List ky)} {n : Int} (h : MS C T i ws n) (l : List ky) (k : C.length + l.length ≤ 1000000) :
  ∃ C' T' a d g, wc (mm T) C i ws [] n l = some (g - n, mm T', C', a, d, [], g) ∧ MS C' T' a d g ∧ (∀ c, c ∈ C' ↔ c ∈ C ∨ (c ∈ l ∧ mf c = true)) ∧ C'.length ≤ C.length + l.length ∧ (∀ f ∈ FS T, f ∈ FS T') := by
 have j : sn C := by unfold sn; omega
 have h1 := h.sT.len
 have m := j.sq
 have o := h.sT.num
 exact Np n ⟨by omega, by omega⟩ l h.sT h.cl h.YJ h.right k
theorem Hc.zero : Hc [] [] [] := ⟨fun r c => by simp [mi], fun w c => by simp [mi], fun r => by simp [mi], fun w => by simp [mi]⟩
theorem rL.zero : rL [] [] [] 0 := ⟨by simp, by simp [FS], by simp, by simp, by simp [FS], by simp [FS]⟩
theorem MS.zero : MS [] [] [] [] 0 := ⟨rL.zero, fun c a => (by cases a), Hc.zero, fun c a => (by cases a)⟩
theorem Uk (l : List ky) (i : l.length ≤ 1000000) : ∃ C T g ws n, xL l = some (mm T, C, g, ws, [], n) ∧ MS C T g ws n ∧ (∀ c, c ∈ C ↔ c ∈ l ∧ mf c = true) ∧ C.length ≤ l.length := by
 unfold xL
 obtain ⟨C', T', a, d, j, e, m, h, a2, a3⟩ := VN MS.zero l (by simpa using i)
 rw [show wc [] [] [] [] [] 0 l = _ from e]
 exact ⟨C', T', a, d, j, rfl, m, by simpa using h, by simpa using a2⟩
theorem ol.congr {C C' : List ky} (h : ∀ c, c ∈ C ↔ c ∈ C') (f : kB) : ol C f ↔ ol C' f := ⟨fun d => d.mono (fun c a => (h c).1 a), fun d => d.mono (fun c a => (h c).2 a)⟩
def Bt (a b : kB) : Bool := xg a.kw b.kw || (kN a.kw b.kw && qp a.lx b.lx)
theorem CZ {a b : kB} : Bt a b = true ↔ xg a.kw b.kw = true ∨ (a.kw = b.kw ∧ qp a.lx b.lx = true) := by simp [Bt, kP]
def Gb (_ : kB) : Bool := true
theorem JP : BD (fun a b => Bt a b = true) (fun x => Gb x = true) := by
 have H := uy (fun _ => True)
 refine ⟨fun x _ => ?_, fun x y z _ _ _ h1 c => ?_, fun x y _ _ => ?_⟩
 ·rw [CZ]
  rintro (h | ⟨_, h⟩)
  ·exact H.irrefl _ trivial h
  ·rw [vn] at h; cases h
 ·rw [CZ] at *
  rcases h1 with h1 | ⟨g, h1⟩
  ·rcases c with c | ⟨d, c⟩
   ·exact .inl (H.trans _ _ _ trivial trivial trivial h1 c)
   ·exact .inl (by rw [← d]; exact h1)
  ·rcases c with c | ⟨d, c⟩
   ·exact .inl (by rw [g]; exact c)
   ·exact .inr ⟨g.trans d, B9 h1 c⟩
 ·simp only [CZ]
  rcases H.total x.kw y.kw trivial trivial with h | h | h
  ·exact .inl (.inl h)
  ·rcases BZ x.lx y.lx with c | c | c
   ·exact .inl (.inr ⟨h, c⟩)
   ·refine .inr (.inl ?_)
    cases x; cases y; simp at h c; simp [h, c]
   ·exact .inr (.inr (.inr ⟨h.symm, c⟩))
  ·exact .inr (.inr (.inl h))
theorem JQ (a b : ByteArray) : oz a b = 0 ↔ a = b := by unfold oz; rw [Ge]; exact ⟨BW, fun h => by rw [h]⟩
theorem XK (a b : ByteArray) : oz a b < 0 ↔ qp a b = true := by rw [Bw]; exact HT _ _
theorem SB (a b : kw) : ∃ c, nw a b = some c ∧ (c < 0 ↔ xg a b = true) ∧ (c = 0 ↔ a = b) := by
 obtain ⟨c, e, h⟩ := vk a b
 refine ⟨c, e, h, ?_⟩
 unfold nw at e
 simp only [pN, nC, aA, se, pc, uN] at e
 by_cases d : oz a.kE b.kE = 0
 ·rw [aK (by simp [d])] at e
  have h1 := (JQ _ _).1 d
  by_cases g : oz a.kT b.kT = 0
  ·rw [aK (by simp [g])] at e
   have i := (JQ _ _).1 g
   cases e
   refine ⟨fun _ => ?_, fun _ => rfl⟩
   cases a; cases b; simp at h1 i; simp [h1, i]
  ·rw [aM (by simp [g])] at e
   cases e
   exact ⟨fun k => absurd k g, fun k => by rw [k] at g; exact absurd ((JQ _ _).2 rfl) g⟩
 ·rw [aM (by simp [d])] at e
  cases e
  exact ⟨fun k => absurd k d, fun k => by rw [k] at d; exact absurd ((JQ _ _).2 rfl) d⟩
theorem Tc (a b : kB) : ∃ c, rh a b = some c ∧ (c < 0 ↔ Bt a b = true) := by
 unfold rh
 obtain ⟨c, e, h1, i⟩ := SB a.kw b.kw
 rw [e]
 simp only [pN, nC, aA, se, pc, uN]
 by_cases g : c = 0
 ·rw [aK (by simp [g])]
  have m := i.1 g
  have d : ¬ xg a.kw b.kw = true := fun j => by have := h1.2 j; omega
  by_cases h : oz a.lx b.lx = 0
  ·rw [aK (by simp [h])]
   refine ⟨0, rfl, ?_⟩
   rw [CZ]
   simp [d, (JQ _ _).1 h, vn]
  ·rw [aM (by simp [h])]
   refine ⟨_, rfl, ?_⟩
   rw [CZ, XK]
   exact ⟨fun k => .inr ⟨m, k⟩, fun k => k.elim (fun k => absurd k d) (·.2)⟩
 ·rw [aM (by simp [g])]
  refine ⟨c, rfl, ?_⟩
  rw [CZ, h1]
  have : a.kw ≠ b.kw := fun k => g (i.2 k)
  simp [this]
theorem PU {α : Type} {eq : α → α → Bool} (he : ∀ x y, eq x y = true ↔ x = y) : ∀ (l : List α) (p : α), (p :: l).Nodup → rI eq p l = l
 | [], p, _ => rfl
 | y :: l, p, h => by
  have h1 := cK.1 h
  rw [rI, aK (fun e => h1.1 (by rw [← (he _ _).1 e]; simp)), PU he l y h1.2]
theorem Uw {α : Type} {eq : α → α → Bool} (he : ∀ x y, eq x y = true ↔ x = y) : ∀ l : List α, l.Nodup → dd eq l = l
 | [], _ => rfl
 | x :: l, h => by rw [dd, PU he l x h]
def Di (P : kB → Prop) (s : List kB) : Prop := s.Pairwise (fun a b => Bt a b = true) ∧ ∀ f, f ∈ s ↔ P f
theorem Di.unique {P : kB → Prop} {s t : List kB} (h : Di P s) (k : Di P t) : s = t :=
 qP.unique (l := s) JP ⟨h.1, fun x => ⟨fun a => ⟨a, rfl⟩, fun a => a.1⟩⟩ ⟨k.1, fun x => by rw [k.2, h.2]; exact ⟨fun a => ⟨a, rfl⟩, fun a => a.1⟩⟩
theorem Jm {l : List kB} (d : l.Nodup) (j : l.length ≤ 1000000000000) : ∃ s, yA (fun (x : kB × kB) => rh x.1 x.2) l = some s ∧ Di (fun f => f ∈ l) s := by
 obtain ⟨s, h1, i, c⟩ := zY (eq := nq) (lt := fun a b => Bt a b = true) (P := fun x => Gb x = true) (cf := fun (x : kB × kB) => rh x.1 x.2) (l := l) (fun x y => mH) JP (fun _ _ => rfl) (by omega) (fun x y _ _ => Tc x y)
 have g : s.Nodup := by
  have := (CQ h1).2
  rw [this]
  unfold pQ
  exact (fZ l _).nodup_iff.2 d
 rw [Uw (fun x y => mH) s g] at c
 exact ⟨s, h1, c.1, fun f => by rw [c.2]; exact ⟨fun h => h.1, fun h => ⟨h, rfl⟩⟩⟩
theorem VM (T : pW) : (mm T).flatMap (fun p => p.2.map (fun q => (fun (a : kw) (b : ByteArray) => (⟨a, b⟩ : kB)) p.1 q.1)) = FS T := by
 unfold mm FS tt
 rw [List.flatMap_map]
 congr 1
 funext p
 simp [gE]
theorem TW {C : List ky} (j : sn C) {T : pW} {q : List (kw × List ky)} {ws : List (ByteArray × List ky)} {n : Int} (h : MS C T q ws n) (cs : List ky) (u : List (kw × List ky)) (w : List (ByteArray × List ky)) (m : List kB) (z : Int) :
  ∃ s, yr (mm T) cs u w m z = some s ∧ Di (ol C) s := by
 have k := j.sq
 have hlen := h.sT.len
 obtain ⟨s, t, i⟩ := Jm h.sT.nd (by omega)
 have g : Di (ol C) s := ⟨i.1, fun f => (i.2 f).trans (h.all f)⟩
 refine ⟨s, ?_, g⟩
 unfold yr Sp
 rw [VM]
 rw [aM ⟨by omega, by unfold maxLen; omega⟩]
 simp only [aA, uN]
 refine I9 (fun o c => ?_)
 obtain ⟨v, d, a⟩ := Jm ((c.nodup_iff).2 h.sT.nd) (by rw [c.length_eq]; omega)
 rw [d]
 congr 1
 exact Di.unique ⟨a.1, fun f => (a.2 f).trans (c.mem_iff.trans (h.all f))⟩ g
theorem T9 (r : kw) (w : ByteArray) : ∀ l : List kB, ∃ b, xT r w l = some b ∧ (b = true ↔ (⟨r, w⟩ : kB) ∈ l)
 | [] => ⟨false, rfl, by simp⟩
 | x :: l => by
  rw [xT]
  simp only [Bm, aA]
  obtain ⟨b, e, d⟩ := T9 r w l
  by_cases h : (kN x.kw r && ma x.lx w) = true
  ·rw [aM h]
   have a : x = ⟨r, w⟩ := by
    rw [aU, kP, mM] at h
    cases x; simp at h; simp [h]
   exact ⟨true, rfl, by simp [a]⟩
  ·rw [aK h]
   refine ⟨b, e, ?_⟩
   rw [d, aR]
   refine ⟨.inr, fun c => c.resolve_left (fun e => h ?_)⟩
   rw [← e]; simp [vU, xE]
theorem yF (l : List kB) (r : kw) (w : ByteArray) : ∃ b, tW l r w = some b ∧ (b = true ↔ (⟨r, w⟩ : kB) ∈ l) := T9 r w l
def sV (l : List kB) (c : ky) (names : List ByteArray) (w : ByteArray) : Prop :=
 (c.Kind = 1 ∧ c.lx = w) ∨ (c.Kind = 2 ∧ (⟨c.B, w⟩ : kB) ∈ l) ∨ (c.Kind = 4 ∧ (⟨c.B, w⟩ : kB) ∈ l ∧ (⟨c.C, w⟩ : kB) ∈ l) ∨
 (c.Kind ≠ 1 ∧ c.Kind ≠ 2 ∧ c.Kind ≠ 4 ∧ ∃ b ∈ names, (⟨c.B, b⟩ : kB) ∈ l ∧ (⟨⟨b, c.lU⟩, w⟩ : kB) ∈ l)
theorem Jb (l : List kB) (c : ky) (w : ByteArray) : ∀ names : List ByteArray, ∃ b, wH l c w names = some b ∧ (b = true ↔ ∃ b ∈ names, (⟨c.B, b⟩ : kB) ∈ l ∧ (⟨⟨b, c.lU⟩, w⟩ : kB) ∈ l)
 | [] => ⟨false, rfl, by simp⟩
 | x :: names => by
  rw [wH]
  obtain ⟨g, j, h1⟩ := yF l c.B x
  obtain ⟨i, k, d⟩ := yF l ⟨x, c.lU⟩ w
  obtain ⟨b, e, m⟩ := Jb l c w names
  rw [j, k, e]
  simp only [aA, Bm]
  by_cases h : (g && i) = true
  ·rw [aM h]
   rw [aU, h1, d] at h
   exact ⟨true, rfl, by simp [h]⟩
  ·rw [aK h]
   rw [aU, h1, d] at h
   refine ⟨b, rfl, ?_⟩
   rw [m]
   constructor
   ·rintro ⟨y, a, q⟩; exact ⟨y, by simp [a], q⟩
   ·rintro ⟨y, a, q⟩
    rcases aR.1 a with rfl | a
    ·exact absurd q h
    ·exact ⟨y, a, q⟩
theorem Pa (l : List kB) (c : ky) (names : List ByteArray) (w : ByteArray) : ∃ b, yO l c names w = some b ∧ (b = true ↔ sV l c names w) := by
 unfold yO sV
 simp only [uN]
 by_cases h1 : c.Kind = 1
 ·rw [aM (by simp [h1])]; exact ⟨_, rfl, by simp [h1, mM]⟩
 rw [aK (by simp [h1])]
 by_cases a : c.Kind = 2
 ·rw [aM (by simp [a])]
  obtain ⟨b, e, g⟩ := yF l c.B w
  exact ⟨b, e, by simp [a, g]⟩
 rw [aK (by simp [a])]
 by_cases d : c.Kind = 4
 ·rw [aM (by simp [d])]
  obtain ⟨m, j, h⟩ := yF l c.B w
  obtain ⟨n, k, i⟩ := yF l c.C w
  rw [j, k]
  simp only [aA, Bm]
  exact ⟨_, rfl, by simp [d, h, i]⟩
 rw [aK (by simp [d])]
 obtain ⟨b, e, g⟩ := Jb l c w names
 exact ⟨b, e, by rw [g]; simp [h1, a, d]⟩
theorem sV.zG {C : List ky} {l : List kB} (a : ∀ f ∈ l, ol C f) {c : ky} (d : c ∈ C) (hk : c.Kind = 1 ∨ c.Kind = 2 ∨ c.Kind = 3 ∨ c.Kind = 4) {names : List ByteArray} {w : ByteArray} (h : sV l c names w) : ol C ⟨c.Head, w⟩ := by
 rcases h with ⟨k, rfl⟩ | ⟨k, h⟩ | ⟨k, h1, g⟩ | ⟨i, k2, j, b, _, h1, g⟩
 ·exact .mem c d k
 ·exact .inc c w d k (a _ h)
 ·exact .both c w d k (a _ h1) (a _ g)
 ·exact .Ii c b w d (by omega) (a _ h1) (a _ g)
theorem JT {c : ky} (h : mf c = true) : c.Kind = 1 ∨ c.Kind = 2 ∨ c.Kind = 3 ∨ c.Kind = 4 := by rcases nL h with h | h | h | h <;> simp [h.1]
structure GZ (C : List ky) (out : List kB) : Prop where
 nd : out.Nodup
 zG : ∀ f ∈ out, ol C f
theorem GZ.len {C : List ky} {out : List kB} (h : GZ C out) : out.length ≤ C.length * C.length := by
 rw [← Be]; exact mF h.nd (fun f a => (h.zG f a).Et)
theorem IQ {C : List ky} (t : sn C) (u : qU C) {c : ky} (m : c ∈ C) (names : List ByteArray) : ∀ (l : List ByteArray) (out : List kB) (i : Bool), GZ C out →
  ∃ g d, wB c names l out i = some (g, d) ∧ GZ C g ∧ (d = true → i = true ∨ out.length < g.length) ∧ (d = false → i = false ∧ g = out ∧ ∀ w ∈ l, sV out c names w → (⟨c.Head, w⟩ : kB) ∈ out) ∧ out.length ≤ g.length
 | [], out, i, h => ⟨out, i, rfl, h, .inl, fun h => ⟨h, rfl, fun _ hw => by cases hw⟩, bB _⟩
 | w :: l, out, i, h => by
  rw [wB]
  obtain ⟨z, I, h1⟩ := yF out c.Head w
  obtain ⟨G, J, A⟩ := Pa out c names w
  rw [I, J]
  simp only [aA, Bm]
  by_cases j : (!z && G) = true
  ·rw [aM j]
   rw [aU] at j
   have x : (⟨c.Head, w⟩ : kB) ∉ out := fun M => by have := h1.2 M; rw [this] at j; exact absurd j.1 (by decide)
   have P := h.len
   have O := t.sq
   rw [mG (by simp; omega) (by simp; omega)]
   simp only [aA]
   have L : GZ C (out ++ [⟨c.Head, w⟩]) := ⟨bN.2 ⟨h.nd, by simp, fun a ha b j e => by simp at j; subst j; subst e; exact x ha⟩, fun f k => by
    rcases aS.1 k with k | k
    ·exact h.zG f k
    ·simp at k; subst k; exact (A.1 j.2).zG h.zG m (JT (u c m))⟩
   obtain ⟨g, d, e, n, a2, a3, a4⟩ := IQ t u m names l _ true L
   simp at a4
   exact ⟨g, d, e, n, fun _ => .inr (by omega), fun k => (by cases (a3 k).1), by omega⟩
  ·rw [aK j]
   obtain ⟨g, d, e, n, a2, a3, a4⟩ := IQ t u m names l out i h
   refine ⟨g, d, e, n, a2, fun k => ?_, a4⟩
   obtain ⟨o, q, s⟩ := a3 k
   refine ⟨o, q, fun v y D => ?_⟩
   rcases aR.1 y with rfl | y
   ·refine dX fun x => j ?_
    rw [aU, A.2 D]
    cases z with
    | false => exact ⟨rfl, rfl⟩
    | true => exact absurd (h1.1 rfl) x
   ·exact s v y D
theorem MX {C : List ky} (n : sn C) (o : qU C) (names : List ByteArray) : ∀ (l : List ky) (out : List kB) (a : Bool), (∀ c ∈ l, c ∈ C) → GZ C out →
  ∃ g i, yi names l out a = some (g, i) ∧ GZ C g ∧ (i = true → a = true ∨ out.length < g.length) ∧ (i = false → a = false ∧ g = out ∧ ∀ c ∈ l, ∀ w ∈ names, sV out c names w → (⟨c.Head, w⟩ : kB) ∈ out) ∧ out.length ≤ g.length
 | [], out, a, _, h => ⟨out, a, rfl, h, .inl, fun h => ⟨h, rfl, fun _ hw => by cases hw⟩, bB _⟩
 | c :: l, out, a, q, h => by
  rw [yi]
  obtain ⟨z, c1, x, s, a2, a3, a4⟩ := IQ n o (q c (by simp)) names names out a h
  rw [x]
  simp only [aA]
  obtain ⟨A, c2, y, t, u, v, O⟩ := MX n o names l z c1 (fun d j => q d (by simp [j])) s
  refine ⟨A, c2, y, t, fun k => ?_, fun k => ?_, by omega⟩
  ·rcases u k with h1 | h1
   ·rcases a2 h1 with m | m
    ·exact .inl m
    ·exact .inr (by omega)
   ·exact .inr (by omega)
  ·obtain ⟨D, G, I⟩ := v k
   obtain ⟨J, L, M⟩ := a3 D
   subst L
   refine ⟨J, G, fun d j => ?_⟩
   rcases aR.1 j with rfl | j
   ·exact M
   ·exact I d j
def zF : kB := ⟨⟨zS, zS⟩, zS⟩
theorem MV (a b : kB) : vK a b = some (Bt a b) := by
 unfold vK Bt
 simp only [ux, aA, Bm, Uu]
def V6 (a : List kB) (c : Int) (p : Bool × kB) : Prop := (p.1 = false ∧ c = -1) ∨ (p.1 = true ∧ 0 ≤ c ∧ mx a c = some p.2)
theorem Eb (out a : List kB) (i : out.length < 4611686018427387904) : ∀ (rest A : List kB) (c : Int) (p : Bool × kB), a = A ++ rest → V6 a c p →
  ∃ d, pO out a rest A.length c = some d ∧ V6 a d (rW Gb Bt out.getLast? rest p.1 p.2)
 | [], A, c, p, ha, j => ⟨c, rfl, j⟩
 | x :: rest, A, c, p, ha, j => by
  rw [pO, rW]
  simp only [Gb, ek]
  have h1 : ((if ((out.length : Int) == 0) = true then some true else (mx out (wi0 .i64 ((out.length : Int) - 1))).bind fun y => (vK y x).bind fun r => some r) : Option Bool) = some (out.getLast?.all fun y => Bt y x) := by
   rcases dg out with h | ⟨B, z, h⟩
   ·subst h; rfl
   ·subst h
    rw [aK (by simp; omega)]
    rw [iq] at i ⊢
    rw [Ga B z (by simp at i; omega)]
    simp [MV]
  have o : ((if decide (c < 0) = true then some true else (mx a c).bind fun y => (vK x y).bind fun r => some r) : Option Bool) = some (!p.1 || Bt x p.2) := by
   rcases j with ⟨k, m⟩ | ⟨k, m, n⟩
   ·rw [aM (by simp [m]), k]; rfl
   ·rw [aK (by simpa using m), n, k]
    simp [MV]
  rw [h1]
  simp only [aA]
  rw [o]
  simp only [aA, Bm]
  have q : mx a (A.length : Int) = some x := by rw [ha]; exact sI A x rest _ rfl
  by_cases g : ((out.getLast?.all fun y => Bt y x) && (!p.1 || Bt x p.2)) = true
  ·rw [aM g, aM g]
   have := Eb out a i rest (A ++ [x]) (A.length : Int) (true, x) (by rw [ha]; simp) (.inr ⟨rfl, by simp, q⟩)
   simpa using this
  ·rw [aK g, aK g]
   have := Eb out a i rest (A ++ [x]) c p (by rw [ha]; simp) j
   simpa using this
theorem Il {out a : List kB} (d : out.length < 4611686018427387904) (h : (rW Gb Bt out.getLast? a false zF).1 = false) : ∀ Ir : List kB, pM a Ir out = some out
 | [] => rfl
 | x :: Ir => by
  rw [pM]
  obtain ⟨b, e, i⟩ := Eb out a d a [] (-1) (false, zF) rfl (.inl ⟨rfl, rfl⟩)
  rw [show pO out a a 0 (-1) = some b from e]
  simp only [aA]
  rcases i with ⟨_, g⟩ | ⟨c, _⟩
  ·rw [aK (by simp [g])]; exact Il d h Ir
  ·rw [h] at c; cases c
theorem KV (a : List kB) : ∀ (Ir : List kB) (out s : List kB), AP 48 Gb Bt zF a (Ir.length + 1) out = some s → s.length < 4611686018427387904 → pM a Ir out = some s ∧ out.length ≤ s.length
 | [], out, s, h, i => by
  rw [AP] at h
  cases hp : (rW Gb Bt out.getLast? a false zF).1 with
  | false =>
   rw [hp] at h
   simp only [cV, bc] at h
   cases h
   exact ⟨rfl, bB _⟩
  | true =>
   rw [hp] at h
   simp only [bM, aB, aP] at h
   obtain ⟨o, c, h⟩ := bind_some h
   replace h : AP 48 Gb Bt zF a 0 o = some s := h
   rw [AP] at h
   cases h
 | x :: Ir, out, s, h, i => by
  rw [AP] at h
  cases hp : (rW Gb Bt out.getLast? a false zF).1 with
  | false =>
   rw [hp] at h
   simp only [cV, bc] at h
   cases h
   exact ⟨Il i hp _, bB _⟩
  | true =>
   rw [hp] at h
   simp only [bM, aB, aP] at h
   obtain ⟨o, c, h⟩ := bind_some h
   have g := c
   unfold mJ at c
   split at c
   case isFalse => cases c
   cases c
   obtain ⟨n, k2⟩ := KV a Ir _ s h i
   simp at k2
   rw [pM]
   obtain ⟨b, e, m⟩ := Eb out a (by omega) a [] (-1) (false, zF) rfl (.inl ⟨rfl, rfl⟩)
   rw [show pO out a a 0 (-1) = some b from e]
   simp only [aA]
   rcases m with ⟨d, _⟩ | ⟨d, j, k⟩
   ·rw [hp] at d; cases d
   ·rw [aM (by simpa using j), k]
    simp only [aA]
    rw [g]
    exact ⟨n, by omega⟩
theorem SA (l : List kB) (d : l.length ≤ 1000000000) : ∃ s, BC l = some s ∧ Di (fun f => f ∈ l) s := by
 obtain ⟨s, h1, a⟩ := B1 JP (w := 48) (by omega) zF l d (l.length + 1) [] (by simp) (by simp) (fun x c => by cases c) (fun x _ _ => .inr rfl)
 have hlen : s.length ≤ l.length := mF (ym JP (fun _ _ => rfl) a.1) (fun x c => ((a.2 x).1 c).1)
 exact ⟨s, (KV l l [] s h1 (by omega)).1, a.1, fun f => by rw [a.2]; exact ⟨fun h => h.1, fun h => ⟨h, rfl⟩⟩⟩
theorem Oe : ∀ (l : List ky) (acc : List ByteArray), acc.length + 4 * l.length ≤ 1000000000 → tQ l acc = BK (acc ++ l.flatMap fun c => [c.lx, c.Head.kE, c.B.kE, c.C.kE])
 | [], acc, _ => by rw [tQ]; simp [uN]
 | c :: l, acc, h => by
  rw [tQ]
  simp only [aJ] at h
  rw [mG (by simp; omega) (by simp; omega)]
  simp only [aA]
  rw [Oe l _ (by simp; omega)]
  simp
def SM (C : List ky) : Prop := C.length ≤ 30000
theorem SM.small {C : List ky} (h : SM C) : sn C := by unfold SM at h; unfold sn; omega
theorem SM.sq {C : List ky} (h : SM C) : C.length * C.length ≤ 900000000 := fh h h
theorem SZ {C : List ky} (d : SM C) (i : qU C) : ∃ names, Aa C = some names ∧ ∀ c ∈ C, c.Kind = 1 → c.lx ∈ names := by
 have g : C.length ≤ 30000 := d
 unfold Aa
 rw [Oe C [] (by simp; omega)]
 obtain ⟨s, e, j⟩ := UT ([] ++ C.flatMap fun c => [c.lx, c.Head.kE, c.B.kE, c.C.kE]) (by
  have : ∀ l : List ky, (l.flatMap fun c => [c.lx, c.Head.kE, c.B.kE, c.C.kE]).length = 4 * l.length := fun l => by
   induction l with
   | nil => rfl
   | cons x l ih => simp [ih]; omega
  rw [bU, this]; omega)
 refine ⟨s, e, fun c a hk => (j.2 _).2 ⟨?_, ?_⟩⟩
 ·rw [bU]; exact iA.2 ⟨c, a, by simp⟩
 ·rcases nL (i c a) with h | h | h | h
  ·exact h.2.1
  ·exact absurd (hk.symm.trans h.1) (by decide)
  ·exact absurd (hk.symm.trans h.1) (by decide)
  ·exact absurd (hk.symm.trans h.1) (by decide)
theorem Jg {C : List ky} (o : qU C) {names : List ByteArray} (m : ∀ c ∈ C, c.Kind = 1 → c.lx ∈ names) {out : List kB} (h : ∀ c ∈ C, ∀ w ∈ names, sV out c names w → (⟨c.Head, w⟩ : kB) ∈ out) {f : kB} (k : ol C f) : f ∈ out := by
 have hw : ∀ f, ol C f → f.lx ∈ names := fun f k => by
  obtain ⟨c, a, hk, e⟩ := k.vw
  rw [← e]; exact m c a hk
 induction k with
 | mem c a hk => exact h c a _ (m c a hk) (.inl ⟨hk, rfl⟩)
 | inc c w a hk n ih => exact h c a w (hw _ n) (.inr (.inl ⟨hk, ih⟩))
 | Ii c b w a hk d j g i => exact h c a w (hw _ j) (.inr (.inr (.inr ⟨by omega, by omega, by omega, b, hw _ d, g, i⟩)))
 | both c w a hk d j g i => exact h c a w (hw _ d) (.inr (.inr (.inl ⟨hk, g, i⟩)))
theorem NT {C : List ky} (a : SM C) (d : qU C) {names : List ByteArray} (i : ∀ c ∈ C, c.Kind = 1 → c.lx ∈ names) : ∀ (m : Nat) (out : List kB), GZ C out → C.length * C.length < m + out.length →
  ∃ s, wu names C m out = some s ∧ Di (ol C) s
 | 0, out, h, hm => by have := h.len; omega
 | m + 1, out, h, hm => by
  rw [wu]
  obtain ⟨o, c, e, j, a2, a3, a4⟩ := MX a.small d names C out false (fun _ h => h) h
  rw [e]
  simp only [aA, uN]
  cases c with
  | false =>
   simp only [cV, bc]
   obtain ⟨_, k, n⟩ := a3 rfl
   subst k
   have u := h.len
   have t := a.sq
   obtain ⟨s, q, g⟩ := SA o (by omega)
   exact ⟨s, q, g.1, fun f => (g.2 f).trans ⟨h.zG f, Jg d i n⟩⟩
  | true =>
   simp only [bM, aB, aP]
   rcases a2 rfl with h1 | h1
   ·cases h1
   ·exact NT a d i m o j (by omega)
theorem Vr (l : List ky) (q : l.length ≤ 30000) : ∃ C s, zh l = some s ∧ Di (ol C) s ∧ ∀ c, c ∈ C ↔ c ∈ l ∧ mf c = true := by
 unfold zh
 obtain ⟨C, e, d⟩ := Vt l (by omega)
 have hlen := qg D2 d
 have a : SM C := by unfold SM; omega
 have g : qU C := fun c k => ((d.2 c).1 k).2
 obtain ⟨names, h, n⟩ := SZ a g
 rw [e]
 simp only [aA]
 rw [h]
 simp only [aA]
 have o := a.sq
 obtain ⟨s, i, j⟩ := NT a g n lC [] ⟨by simp, fun f m => by cases m⟩ (by rw [pp]; simp; omega)
 exact ⟨C, s, i, j, d.2⟩
theorem EG (w : ByteArray) : ∀ (l : List kB) (acc : List kw), acc.length + l.length ≤ 1000000000 → rF w l acc = some (acc ++ (l.filter fun f => ma f.lx w).map (·.kw))
 | [], acc, _ => by rw [rF]; simp
 | x :: l, acc, h => by
  rw [rF]
  simp only [aJ] at h
  by_cases a : ma x.lx w = true
  ·rw [aM a, mG (by simp; omega) (by simp; omega)]
   simp only [aA]
   rw [EG w l _ (by simp; omega)]
   simp [a]
  ·rw [aK a, EG w l acc (by omega)]
   simp [a]
theorem UP {P : kB → Prop} {s t : List kB} (h : Di P s) (c : ∀ f, P f → f ∈ t) : s.length ≤ t.length := mF (ym JP (fun _ _ => rfl) h.1) (fun f a => c f ((h.2 f).1 a))
theorem Vh {C : List ky} {s : List kB} (h : Di (ol C) s) (a : SM C) : s.length ≤ 900000000 := by
 have := UP h (t := Et C) (fun f c => c.Et)
 rw [Be] at this
 have := a.sq
 omega
theorem Wv {C : List ky} {T : pW} {c : List (kw × List ky)} {ws : List (ByteArray × List ky)} {n : Int} (h : MS C T c ws n) (cs : List ky) (u : List (kw × List ky)) (w : List (ByteArray × List ky)) (a : List kB) (z : Int) (r : kw) (vw : ByteArray) :
  ∃ b, tB (mm T) cs u w a z r vw = some b ∧ (b = true ↔ ol C ⟨r, vw⟩) :=
 ⟨_, rfl, by rw [vm h.sT.keys, h.all]⟩
def qA : kw := ⟨⟨#[97]⟩, ⟨#[114]⟩⟩
def qB : kw := ⟨⟨#[98]⟩, ⟨#[115]⟩⟩
def qd : ByteArray := ⟨#[100]⟩
def j1 : ky := ⟨2, qA, zS, qB, ⟨zS, zS⟩, zS⟩
def j2 : ky := ⟨1, qB, qd, ⟨zS, zS⟩, ⟨zS, zS⟩, zS⟩
theorem FE (f : ByteArray → Option Bool) (p : ByteArray → Bool) : ∀ (l : List ByteArray) (i : Nat), (∀ x ∈ l, f x = some (p x)) → ∃ z, oP f l i = some z ∧ (z ≥ 0 ↔ ∃ x ∈ l, p x = true)
 | [], i, _ => ⟨-1, rfl, by simp⟩
 | x :: l, i, h => by
  rw [oP, h x (by simp)]
  simp only [aA]
  cases hp : p x with
  | true => exact ⟨_, rfl, by simp [hp]⟩
  | false =>
   obtain ⟨z, e, c⟩ := FE f p l (i + 1) (fun y a => h y (by simp [a]))
   exact ⟨z, e, by rw [c]; simp [hp]⟩
def MN (c : ky) (p : kw × ByteArray → Bool) (names : List ByteArray) (w : ByteArray) : Bool :=
 if c.Kind = 1 then ma c.lx w else if c.Kind = 2 then p (c.B, w) else if c.Kind = 4 then p (c.B, w) && p (c.C, w) else names.any fun b => p (c.B, b) && p (⟨b, c.lU⟩, w)
theorem RE {f : kw × ByteArray → Option Bool} {p : kw × ByteArray → Bool} (g : ∀ x, f x = some (p x)) (c : ky) (names : List ByteArray) (w : ByteArray) : zm c f names w = some (MN c p names w) := by
 unfold zm MN
 simp only [g, aA, Bm]
 by_cases h1 : c.Kind = 1
 ·rw [aM (by simp [h1]), aM h1]
 rw [aK (by simp [h1]), aK h1]
 by_cases a : c.Kind = 2
 ·rw [aM (by simp [a]), aM a]
 rw [aK (by simp [a]), aK a]
 by_cases d : c.Kind = 4
 ·rw [aM (by simp [d]), aM d]
 rw [aK (by simp [d]), aK d]
 unfold tp vp
 obtain ⟨z, e, h⟩ := FE (fun x => vg x f c w) (fun b => p (c.B, b) && p (⟨b, c.lU⟩, w)) names 0 (fun x _ => by
  unfold vg
  simp only [g, aA, Bm])
 rw [e]
 simp only [aA]
 congr 1
 rw [bF, dN]
 simpa using h
theorem F8 {f : kw × ByteArray → Option Bool} {p : kw × ByteArray → Bool} (a : ∀ x, f x = some (p x)) (c : ky) (names : List ByteArray) : ∀ (l : List ByteArray) (acc : List kB), acc.length + l.length ≤ 1000000000 →
  rK c f names l acc = some (acc ++ (l.filter (MN c p names)).map fun w => (⟨c.Head, w⟩ : kB))
 | [], acc, _ => by rw [rK]; simp
 | x :: l, acc, h => by
  rw [rK, RE a]
  simp only [aA, aJ] at h ⊢
  cases d : MN c p names x with
  | true =>
   simp only [bc]
   rw [mG (by simp; omega) (by simp; omega)]
   simp only [aA]
   rw [F8 a c names l _ (by simp; omega)]
   simp [d]
  | false =>
   simp only [aB, aP]
   rw [F8 a c names l acc (by omega)]
   simp [d]
theorem TN {f : kw × ByteArray → Option Bool} {p : kw × ByteArray → Bool} (a : ∀ x, f x = some (p x)) {c : ky} (g : mf c = true) (l : List ByteArray) (h : l.length ≤ 900000000) :
  ∃ names, Dm l names ∧ wo c f l = some (((if c.Kind = 1 then [c.lx] else names).filter (MN c p names)).map fun w => (⟨c.Head, w⟩ : kB)) := by
 obtain ⟨s, e, d⟩ := VR l (by omega)
 refine ⟨s, d, ?_⟩
 have hlen : s.length ≤ l.length := qg (HX _) d
 unfold wo
 rw [pV, g]
 simp only [aA, bM, aB, aP]
 rw [e]
 simp only [aA]
 by_cases h1 : c.Kind = 1
 ·rw [aM (by simp [h1]), aM h1]
  simp only [aA]
  rw [F8 a c s _ [] (by simp)]
  simp
 ·rw [aK (by simp [h1]), aK h1]
  simp only [aA]
  rw [F8 a c s _ [] (by simp; omega)]
  simp
theorem O1 {c : ky} {p : kw × ByteArray → Bool} {out : List kB} (hp : ∀ r w, p (r, w) = true ↔ (⟨r, w⟩ : kB) ∈ out) (s : List ByteArray) (w : ByteArray) : MN c p s w = true ↔ sV out c s w := by
 unfold MN sV
 by_cases h1 : c.Kind = 1
 ·rw [aM h1, mM]
  constructor
  ·intro h; exact .inl ⟨h1, h⟩
  ·rintro (h | h | h | h)
   ·exact h.2
   ·exact absurd (h1.symm.trans h.1) (by decide)
   ·exact absurd (h1.symm.trans h.1) (by decide)
   ·exact absurd h1 h.1
 rw [aK h1]
 by_cases a : c.Kind = 2
 ·rw [aM a, hp]
  constructor
  ·intro h; exact .inr (.inl ⟨a, h⟩)
  ·rintro (h | h | h | h)
   ·exact absurd h.1 h1
   ·exact h.2
   ·exact absurd (a.symm.trans h.1) (by decide)
   ·exact absurd a h.2.1
 rw [aK a]
 by_cases d : c.Kind = 4
 ·rw [aM d, aU, hp, hp]
  constructor
  ·intro h; exact .inr (.inr (.inl ⟨d, h⟩))
  ·rintro (h | h | h | h)
   ·exact absurd h.1 h1
   ·exact absurd h.1 a
   ·exact h.2
   ·exact absurd d h.2.2.1
 rw [aK d, dN]
 constructor
 ·rintro ⟨b, g, h⟩
  rw [aU, hp, hp] at h
  exact .inr (.inr (.inr ⟨h1, a, d, b, g, h⟩))
 ·rintro (h | h | h | h)
  ·exact absurd h.1 h1
  ·exact absurd h.1 a
  ·exact absurd h.1 d
  ·obtain ⟨_, _, _, b, g, h⟩ := h
   exact ⟨b, g, by rw [aU, hp, hp]; exact h⟩
theorem TG {C : List ky} {c : ky} (g : c ∈ C) (n : mf c = true) {out : List kB} (d : ∀ f ∈ out, ol C f) {s : List ByteArray} {w : ByteArray} (h : sV out c s w) : ol C ⟨c.Head, w⟩ := by
 rcases h with ⟨h1, a⟩ | ⟨h1, a⟩ | ⟨h1, a, i⟩ | ⟨h1, a, i, b, _, k, m⟩
 ·subst a; exact .mem c g h1
 ·exact .inc c w g h1 (d _ a)
 ·exact .both c w g h1 (d _ a) (d _ i)
 ·have j : c.Kind = 3 := by
   rcases nL n with h | h | h | h
   ·exact absurd h.1 h1
   ·exact absurd h.1 a
   ·exact h.1
   ·exact absurd h.1 i
  exact .Ii c b w g j (d _ k) (d _ m)
theorem RD {f : kw × ByteArray → Option Bool} {p : kw × ByteArray → Bool} (j : ∀ x, f x = some (p x)) {out : List kB} (hp : ∀ r w, p (r, w) = true ↔ (⟨r, w⟩ : kB) ∈ out) (c : ky) {l s : List ByteArray} (m : l.length ≤ 900000000) (n : Dm l s) :
  ∃ h, wo c f l = some h ∧ (∀ g ∈ h, mf c = true ∧ g.kw = c.Head ∧ sV out c s g.lx) ∧ (mf c = true → ∀ w ∈ s, sV out c s w → (⟨c.Head, w⟩ : kB) ∈ h) := by
 by_cases a : mf c = true
 ·obtain ⟨o, i, e⟩ := TN j a l m
  obtain rfl : o = s := qP.unique (HX _) i n
  refine ⟨_, e, fun g k => ?_, fun _ w hw d => ?_⟩
  ·obtain ⟨w, hw, rfl⟩ := bH.1 k
   exact ⟨a, rfl, (O1 hp _ _).1 (cT.1 hw).2⟩
  ·refine bH.2 ⟨w, cT.2 ⟨?_, (O1 hp _ _).2 d⟩, rfl⟩
   split
   ·rename_i h1
    rcases d with h | h | h | h
    ·rw [h.2]; simp
    ·exact absurd (h1.symm.trans h.1) (by decide)
    ·exact absurd (h1.symm.trans h.1) (by decide)
    ·exact absurd h1 h.1
   ·exact hw
 ·refine ⟨[], ?_, by simp, fun h => absurd h a⟩
  unfold wo
  rw [pV]
  simp only [cv] at a
  rw [a]
  rfl
theorem QD {c : ky} (a : mf c = true) (hk : c.Kind = 1) : mZ c.lx = true := by
 rcases nL a with h | h | h | h
 ·exact h.2.1
 ·exact absurd (hk.symm.trans h.1) (by decide)
 ·exact absurd (hk.symm.trans h.1) (by decide)
 ·exact absurd (hk.symm.trans h.1) (by decide)
def Nu {α : Type} (eq : α → α → Bool) (a : α) : List α → Nat → Option Int
 | [], _ => some (-1)
 | x :: xs, i => if eq a x then some (i : Int) else Nu eq a xs (i + 1)
theorem IS {α : Type} {eq : α → α → Bool} (he : ∀ {x y}, eq x y = true ↔ x = y) (a : α) : ∀ (l : List α) (i : Nat), ∃ z, Nu eq a l i = some z ∧ (z ≥ 0 ↔ a ∈ l)
 | [], i => ⟨-1, rfl, by simp⟩
 | x :: l, i => by
  rw [Nu]
  by_cases h : eq a x = true
  ·rw [aM h]; exact ⟨i, rfl, by simp [he.1 h]⟩
  ·rw [aK h]
   obtain ⟨z, h1, d⟩ := IS he a l (i + 1)
   have c : a ≠ x := fun e => h (he.2 e)
   exact ⟨z, h1, by rw [d]; simp [c]⟩
theorem Si (a : kB) : ∀ (l : List kB) (i : Nat), rn a l i = Nu nq a l i
 | [], i => rfl
 | x :: l, i => by rw [rn, Nu, Si a l]
theorem Pt (a : kB) : ∀ (l : List kB) (i : Nat), pz a l i = Nu nq a l i
 | [], i => rfl
 | x :: l, i => by rw [pz, Nu, Pt a l]
open Classical in
theorem UF (l : List kB) (f : kB) : qT l f = some (decide (f ∈ l)) := by
 obtain ⟨z, h1, h2⟩ := IS (eq := nq) mH f l 0
 unfold qT yq
 rw [Si, h1]
 simp only [aA]
 congr 1
 rw [bF]; simp [h2]
open Classical in
theorem Xq (l : List kB) (f : kB) : ry l f = some (decide (f ∈ l)) := by
 obtain ⟨z, h1, h2⟩ := IS (eq := nq) mH f l 0
 unfold ry wk
 rw [Pt, h1]
 simp only [aA]
 congr 1
 rw [bF]; simp [h2]
theorem Pc (f : kB → Option Bool) : ∀ (l : List kB) (i : Nat), ox f l i = yo f l i
 | [], i => rfl
 | x :: l, i => by rw [ox, yo, Pc f l]
theorem WT (f : kB → Option Bool) (p : kB → Bool) (l : List kB) (h : ∀ x ∈ l, f x = some (p x)) : pR l f = some (l.any p) := by
 unfold pR ue
 rw [Pc]
 rcases DD f p l 0 h with ⟨h1, a⟩ | ⟨A, x, B, rfl, h1, a, c⟩
 ·rw [h1]; simp only [aA]; congr 1; rw [bF]; simp; exact a
 ·rw [c]; simp only [aA]; congr 1; rw [bF]
  simp [a]
theorem JD (l : List kB) (r : kw) (w : ByteArray) : ∃ b, tw l r w = some b ∧ (b = true ↔ (⟨r, w⟩ : kB) ∈ l) := by
 classical
 refine ⟨_, by unfold tw; rw [Xq]; rfl, by simp⟩
def DC (s : kV) (a : List kB) : Prop := mf s.ky = true ∧ s.kB.kw = s.ky.Head ∧ sV a s.ky (a.map (·.lx)) s.kB.lx
theorem DC.mono {s : kV} {a b : List kB} (h : DC s a) (c : ∀ f ∈ a, f ∈ b) : DC s b := by
 obtain ⟨h1, i, j⟩ := h
 refine ⟨h1, i, ?_⟩
 rcases j with h | h | h | ⟨k, m, n, g, q, d, o⟩
 ·exact .inl h
 ·exact .inr (.inl ⟨h.1, c _ h.2⟩)
 ·exact .inr (.inr (.inl ⟨h.1, c _ h.2.1, c _ h.2.2⟩))
 ·exact .inr (.inr (.inr ⟨k, m, n, g, bH.2 ⟨_, c _ d, rfl⟩, c _ d, c _ o⟩))
theorem DC.congr {s : kV} {a b : List kB} (d : ∀ f, f ∈ a ↔ f ∈ b) : DC s a ↔ DC s b := ⟨fun h => h.mono fun f c => (d f).1 c, fun h => h.mono fun f c => (d f).2 c⟩
open Classical in
noncomputable def Dz (s : kV) (had : List kB) : Bool := decide (DC s had)
theorem zu {s : kV} {a : List kB} : Dz s a = true ↔ DC s a := by unfold Dz; simp
theorem Jt {a b : kw} (h : a ≠ b) : kN a b = false := by
 cases c : kN a b with
 | false => rfl
 | true => exact absurd (kP.1 c) h
theorem FQ (s : kV) (a : List kB) : uK s a = some (Dz s a) := by
 have key : ∀ b, (b = true ↔ DC s a) → b = Dz s a := fun b h => by rw [bF, h, zu]
 unfold uK
 rw [pV]
 simp only [aA]
 by_cases d : mf s.ky = true
 ·rw [d]
  simp only [bM, aB, aP, aA]
  by_cases i : s.kB.kw = s.ky.Head
  ·rw [i, vU]
   simp only [bM, aB, aP]
   have hk := JT d
   by_cases h1 : s.ky.Kind = 1
   ·rw [aM (by simpa using h1)]
    congr 1
    refine key _ ?_
    rw [mM]
    constructor
    ·intro h; exact ⟨d, i, .inl ⟨h1, h⟩⟩
    ·rintro ⟨_, _, h | h | h | h⟩
     ·exact h.2
     ·exact absurd (h1.symm.trans h.1) (by decide)
     ·exact absurd (h1.symm.trans h.1) (by decide)
     ·exact absurd h1 h.1
   rw [aK (by simpa using h1)]
   by_cases g : s.ky.Kind = 2
   ·rw [aM (by simpa using g), uN]
    obtain ⟨b, e, k⟩ := JD a s.ky.B s.kB.lx
    rw [e]; congr 1
    refine key _ ?_
    rw [k]
    constructor
    ·intro h; exact ⟨d, i, .inr (.inl ⟨g, h⟩)⟩
    ·rintro ⟨_, _, h | h | h | h⟩
     ·exact absurd h.1 h1
     ·exact h.2
     ·exact absurd (g.symm.trans h.1) (by decide)
     ·exact absurd g h.2.1
   rw [aK (by simpa using g)]
   by_cases j : s.ky.Kind = 3
   ·rw [aM (by simpa using j), uN]
    unfold yQ
    rw [WT _ (fun f => kN f.kw s.ky.B && Dz ⟨⟨2, ⟨zS, zS⟩, zS, ⟨zS, zS⟩, ⟨zS, zS⟩, zS⟩, ⟨⟨zS, zS⟩, zS⟩⟩ [] || (kN f.kw s.ky.B && nK nq a ⟨⟨f.lx, s.ky.lU⟩, s.kB.lx⟩)) a (fun f o => by
     unfold uJ
     obtain ⟨b, e, k⟩ := JD a ⟨f.lx, s.ky.lU⟩ s.kB.lx
     rw [e]
     simp only [aA, Bm]
     congr 1
     have v : Dz ⟨⟨2, ⟨zS, zS⟩, zS, ⟨zS, zS⟩, ⟨zS, zS⟩, zS⟩, ⟨⟨zS, zS⟩, zS⟩⟩ [] = false := by
      cases u : Dz ⟨⟨2, ⟨zS, zS⟩, zS, ⟨zS, zS⟩, ⟨zS, zS⟩, zS⟩, ⟨⟨zS, zS⟩, zS⟩⟩ [] with
      | false => rfl
      | true => exact absurd (zu.1 u).1 (by decide +kernel)
     rw [v, Bool.and_false, iG]
     congr 1
     rw [bF, k, nn mH])]
    simp only [aA]
    congr 1
    refine key _ ?_
    rw [dN]
    have v : Dz ⟨⟨2, ⟨zS, zS⟩, zS, ⟨zS, zS⟩, ⟨zS, zS⟩, zS⟩, ⟨⟨zS, zS⟩, zS⟩⟩ [] = false := by
     cases u : Dz ⟨⟨2, ⟨zS, zS⟩, zS, ⟨zS, zS⟩, ⟨zS, zS⟩, zS⟩, ⟨⟨zS, zS⟩, zS⟩⟩ [] with
     | false => rfl
     | true => exact absurd (zu.1 u).1 (by decide +kernel)
    simp only [v, Bool.and_false, iG, aU, kP, nn mH]
    constructor
    ·rintro ⟨f, o, t, q⟩
     refine ⟨d, i, .inr (.inr (.inr ⟨h1, g, fun h => absurd (j.symm.trans h) (by decide), f.lx, bH.2 ⟨f, o, rfl⟩, ?_, q⟩))⟩
     rw [← t]; exact o
    ·rintro ⟨_, _, h | h | h | h⟩
     ·exact absurd h.1 h1
     ·exact absurd h.1 g
     ·exact absurd (j.symm.trans h.1) (by decide)
     ·obtain ⟨_, _, _, b, _, m, n⟩ := h
      exact ⟨_, m, rfl, n⟩
   rw [aK (by simpa using j)]
   have w : s.ky.Kind = 4 := by 
    rcases hk with h | h | h | h
    ·exact absurd h h1
    ·exact absurd h g
    ·exact absurd h j
    ·exact h
   obtain ⟨b, e, k⟩ := JD a s.ky.B s.kB.lx
   obtain ⟨c, x, y⟩ := JD a s.ky.C s.kB.lx
   rw [e, x]
   simp only [aA, Bm]
   congr 1
   refine key _ ?_
   rw [aU, k, y]
   constructor
   ·intro h; exact ⟨d, i, .inr (.inr (.inl ⟨w, h⟩))⟩
   ·rintro ⟨_, _, h | h | h | h⟩
    ·exact absurd h.1 h1
    ·exact absurd h.1 g
    ·exact h.2
    ·exact absurd w h.2.2.1
  ·rw [Jt i]
   simp only [cV, bc]
   congr 1
   exact key _ ⟨fun h => (by cases h), fun h => absurd h.2.1 i⟩
 ·simp only [cv] at d
  rw [d]
  simp only [cV, bc, aA]
  congr 1
  exact key _ ⟨fun h => (by cases h), fun h => by rw [h.1] at d; cases d⟩
theorem Ju : ∀ (l : List kB) (acc : List ByteArray), acc.length + l.length ≤ 1000000000 → tz l acc = some (acc ++ l.map (·.lx))
 | [], acc, _ => by rw [tz]; simp
 | f :: l, acc, h => by
  simp only [aJ] at h
  rw [tz, mG (by simp; omega) (by simp; omega)]
  simp only [aA]
  rw [Ju l _ (by simp; omega)]
  simp
theorem Mc (s : kV) (a : List kB) (i : a.length ≤ 1000000000) : yy s a = some (Dz s a) := by
 have key : ∀ b, (b = true ↔ DC s a) → b = Dz s a := fun b h => by rw [bF, h, zu]
 unfold yy
 rw [Az]
 simp only [aA, Bm]
 by_cases c : mf s.ky = true
 ·rw [c, ek]
  by_cases d : s.kB.kw = s.ky.Head
  ·rw [d, vU]
   simp only [bc, uN]
   unfold Cy
   rw [Ju a [] (by simpa using i)]
   simp only [aA, bU]
   obtain ⟨b, e, g⟩ := Pa a s.ky (a.map (·.lx)) s.kB.lx
   rw [e]; congr 1
   refine key _ ?_
   rw [g]
   exact ⟨fun h => ⟨c, d, h⟩, fun h => h.2.2⟩
  ·rw [Jt d]
   simp only [aB, aP, aA]
   congr 1
   exact key _ ⟨fun h => (by cases h), fun h => absurd h.2.1 d⟩
 ·simp only [cv] at c
  rw [c]
  simp only [Bool.false_and, aB, aP, aA]
  congr 1
  exact key _ ⟨fun h => (by cases h), fun h => by rw [h.1] at c; cases c⟩
def nl : List kB → List kV → Prop
 | _, [] => True
 | a, s :: l => DC s a ∧ nl (a ++ [s.kB]) l
theorem nl.mono : ∀ {l : List kV} {a b : List kB}, nl a l → (∀ f ∈ a, f ∈ b) → nl b l
 | [], _, _, _, _ => trivial
 | s :: l, a, b, ⟨h1, g⟩, d => ⟨h1.mono d, nl.mono g (fun f c => by
   rcases aS.1 c with c | c
   ·exact bI _ (d f c)
   ·exact cD _ c)⟩
theorem A2 : ∀ (l m : List kV) (a : List kB), nl a (l ++ m) ↔ nl a l ∧ nl (a ++ l.map (·.kB)) m
 | [], m, a => by simp [nl]
 | s :: l, m, a => by
  simp only [cE, nl, A2 l m, bD, aT, bU, and_assoc, db]
open Classical in
noncomputable def KX (l : List kV) : Bool := decide (nl [] l)
theorem C9 {l : List kV} : KX l = true ↔ nl [] l := by unfold KX; simp
open Classical in
theorem Jo : ∀ (l : List kV) (had : List kB), had.length + l.length ≤ 1000000000 → sJ l had = some (decide (nl had l))
 | [], had, _ => by rw [sJ]; congr 1; rw [kh, decide_eq_true_iff]; trivial
 | s :: l, had, h => by
  simp only [aJ] at h
  rw [sJ, FQ]
  simp only [aA]
  cases hf : Dz s had with
  | false =>
   simp only [cV, bc]
   congr 1
   rw [kh, decide_eq_false_iff_not]
   intro hs
   rw [zu.2 hs.1] at hf; cases hf
  | true =>
   simp only [bM, aB, aP]
   rw [mG (by simp; omega) (by simp; omega)]
   simp only [aA]
   rw [Jo l _ (by simp; omega)]
   congr 1
   rw [bF]
   simp [nl, zu.1 hf]
theorem Q0 (l : List kV) (h : l.length ≤ 1000000000) : zq l = some (KX l) := by
 unfold zq; rw [Jo l [] (by simpa using h)]; rfl
theorem Nx : ∀ (l : List kV) (acc : List kB), acc.length + l.length ≤ 1000000000 → tF l acc = some (acc ++ l.map (·.kB))
 | [], acc, _ => by rw [tF]; simp
 | f :: l, acc, h => by
  simp only [aJ] at h
  rw [tF, mG (by simp; omega) (by simp; omega)]
  simp only [aA]
  rw [Nx l _ (by simp; omega)]
  simp
theorem G8 (l : List kV) (h : l.length ≤ 1000000000) : wx l = some (l.map (·.kB)) := by
 unfold wx; rw [Nx l [] (by simpa using h)]; rfl
theorem KQ : ∀ (l : List kV) (acc : List kB), acc.length + l.length ≤ 1000000000 → tR l acc = some (acc ++ l.map (·.kB))
 | [], acc, _ => by rw [tR]; simp
 | f :: l, acc, h => by
  simp only [aJ] at h
  rw [tR, mG (by simp; omega) (by simp; omega)]
  simp only [aA]
  rw [KQ l _ (by simp; omega)]
  simp
theorem Hm (l : List kV) (h : l.length ≤ 1000000000) : wA l = some (l.map (·.kB)) := by
 unfold wA; rw [KQ l [] (by simpa using h)]; rfl
theorem FN {α : Type} (A B : List α) : (A ++ B).take (Int.toNat (A.length : Int)) = A := by simp
open Classical in
theorem I7 : ∀ (B A : List kV), sN ((A ++ B).map (·.kB)) B A.length = some (decide (nl (A.map (·.kB)) B))
 | [], A => by rw [sN]; congr 1; rw [kh, decide_eq_true_iff]; trivial
 | s :: B, A => by
  rw [sN, wD (by omega) (by simp; omega)]
  simp only [aA]
  rw [← List.map_take, FN, FQ]
  simp only [aA]
  cases hf : Dz s (A.map (·.kB)) with
  | false =>
   simp only [cV, bc]
   congr 1
   rw [kh, decide_eq_false_iff_not]
   intro hs
   rw [zu.2 hs.1] at hf; cases hf
  | true =>
   simp only [bM, aB, aP]
   have := I7 B (A ++ [s])
   simp only [aT, cE, bU, aH, aJ, bW, df] at this
   rw [this]
   congr 1
   rw [bF]
   simp [nl, zu.1 hf]
theorem JL (l : List kV) (h : l.length ≤ 1000000000) : xr l = some (KX l) := by
 unfold xr; rw [G8 l h]
 exact I7 l []
theorem PH {l : List kV} (a : l.length ≤ 1000000000) : qQ l = some l := by
 unfold qQ
 rw [mG (by simp; omega) (by simp; omega)]
 rfl
theorem TH {p : Prop} [Decidable p] (h : p) : nG (decide p) = some () := by simp [nG, h]
theorem Ni (A : List kV) (x : kV) (B : List kV) (i : (A ++ x :: B).length ≤ 1000000000) : si (A ++ x :: B) (A.length : Int) ((A.length : Int) + 1) = some (A ++ B) := by
 have hlen : (A ++ x :: B).length = A.length + (B.length + 1) := by simp
 have a : (A ++ x :: B).take (Int.toNat (A.length : Int)) = A := by simp
 have c : (A ++ x :: B).drop (Int.toNat ((A.length : Int) + 1)) = B := by
  rw [show Int.toNat ((A.length : Int) + 1) = A.length + 1 by omega, List.drop_append]
  simp
 have d : (Cv (A ++ x :: B) (Int.toNat (A.length : Int)) (Int.toNat ((A.length : Int) + 1))) = A ++ B ++ (A ++ x :: B).drop ((A ++ x :: B).length - (Int.toNat ((A.length : Int) + 1) - Int.toNat (A.length : Int))) := by
  unfold Cv; rw [a, c]
 have g : (A ++ B ++ (A ++ x :: B).drop ((A ++ x :: B).length - (Int.toNat ((A.length : Int) + 1) - Int.toNat (A.length : Int)))).length = (A ++ x :: B).length := by
  rw [aH, dn, hlen, aH]; omega
 unfold si
 rw [TH (by omega)]
 simp only [aA]
 rw [aK (by simp; omega), wD (by omega) (by omega), wD (by omega) (by omega), TH (by omega)]
 simp only [aA]
 rw [a, c, d, g, TH (by simp; omega)]
 simp only [aA]
 congr 1
 unfold oA
 have h : (Int.toNat ((A ++ B).length : Int)) = (A ++ B).length := by omega
 rw [h, gI, gI]
def CP (l : List kV) (i : Nat) : Prop := ∃ j, i ≤ j ∧ j + 1 < l.length ∧ nl [] (l.eraseIdx j)
theorem NZ {α : Type} (l : List α) (i : Nat) (h : i < l.length) : ∃ A x B, l = A ++ x :: B ∧ A.length = i := ⟨l.take i, l[i], l.drop (i + 1), by simp, by simp; omega⟩
theorem Lj {α : Type} (A : List α) (x : α) (B : List α) : (A ++ x :: B).eraseIdx A.length = A ++ B := by
 rw [List.eraseIdx_append_of_length_le (bB _)]; simp
theorem CP.step {l : List kV} {i : Nat} (h : i + 1 < l.length) : CP l i ↔ nl [] (l.eraseIdx i) ∨ CP l (i + 1) := by
 constructor
 ·rintro ⟨j, h1, c, a⟩
  rcases Nat.eq_or_lt_of_le h1 with rfl | h1
  ·exact .inl a
  ·exact .inr ⟨j, h1, c, a⟩
 ·rintro (h1 | ⟨j, h1, c, a⟩)
  ·exact ⟨i, bB _, h, h1⟩
  ·exact ⟨j, by omega, c, a⟩
open Classical in
theorem Lx (l : List kV) (hl : l.length ≤ 100000000) : ∀ (n i : Nat), l.length < n + i → i ≤ l.length → tC l n (i : Int) = some (if CP l i then .inl false else .inr ())
 | 0, i, h, hil => by
  omega
 | n + 1, i, h, hil => by
  rw [tC, lQ (by omega) (by omega)]
  have hm : (if 0 > (l.length : Int) - 1 then 0 else (l.length : Int) - 1) = ((l.length - 1 : Nat) : Int) := by split <;> omega
  rw [hm]
  by_cases hi : i + 1 < l.length
  ·rw [aM (by simp; omega), PH (by omega)]
   simp only [aA]
   obtain ⟨A, x, B, rfl, rfl⟩ := NZ l i (by omega)
   rw [lQ (by omega) (by omega), Ni A x B (by omega)]
   simp only [aA]
   rw [JL _ (by simp at hl ⊢; omega)]
   simp only [aA]
   rw [CP.step hi, Lj]
   cases hs : KX (A ++ B) with
   | true => simp [C9.1 hs]
   | false =>
    have hn : ¬ nl [] (A ++ B) := fun h => by rw [C9.2 h] at hs; cases hs
    have := Lx _ hl n (A.length + 1) (by omega) (by omega)
    simp only [Int.natCast_add, Int.natCast_one] at this
    simp only [aB, aP, hn, false_or]
    exact this
  ·rw [aK (by simp; omega)]
   have hn : ¬ CP l i := fun ⟨j, h1, h2, _⟩ => by omega
   rw [aK hn]
def Dq (l : List kV) : Prop := (l.map (·.kB)).Nodup ∧ nl [] l ∧ ¬ CP l 0
open Classical in
noncomputable def O5 (l : List kV) : Bool := decide (Dq l)
theorem CX {l : List kV} : O5 l = true ↔ Dq l := by unfold O5; simp
theorem RN (l : List kV) (g : (l.map (·.kB)).Nodup) {q : Option (Bool ⊕ Unit)} (i : q = (open Classical in some (if CP l 0 then .inl false else .inr ()))) :
  (if (!KX l) = true then some false else q.bind fun s => match s with | .inl a => some a | .inr _ => some true) = some (O5 l) := by
 subst i
 cases d : KX l with
 | false =>
  simp only [cV, bc]
  congr 1
  rw [bF, CX]
  exact ⟨fun h => (by cases h), fun h => by rw [C9.2 h.2.1] at d; cases d⟩
 | true =>
  simp only [bM, aB, aP, aA]
  by_cases c : CP l 0
  ·rw [aM c]
   simp only
   congr 1
   rw [bF, CX]
   exact ⟨fun h => (by cases h), fun h => absurd c h.2.2⟩
  ·rw [aK c]
   simp only
   congr 1
   rw [bF, CX]
   exact ⟨fun _ => ⟨g, C9.1 d, c⟩, fun _ => rfl⟩
theorem Lt (l : List kV) (j : l.length ≤ 100000000) : ∀ (B A : List kB), A ++ B = l.map (·.kB) → A.Nodup → tN (A ++ B) l B A.length = some (O5 l)
 | [], A, e, g => by
  rw [tN, JL l (by omega)]
  simp only [aA]
  rw [cu] at e
  exact RN l (by rw [← e]; exact g) (Lx l j lC 0 (by rw [pp]; omega) (by omega))
 | f :: B, A, e, g => by
  rw [tN, wD (by omega) (by simp; omega)]
  simp only [aA]
  rw [FN, UF]
  simp only [aA]
  by_cases c : f ∈ A
  ·rw [aM (by simpa using c)]
   congr 1
   rw [bF, CX]
   refine ⟨fun h => (by cases h), fun h => ?_⟩
   have := h.1
   rw [← e] at this
   exact absurd rfl ((bN.1 this).2.2 f c f (by simp))
  ·rw [aK (by simpa using c)]
   have := Lt l j B (A ++ [f]) (by simpa using e) (bN.2 ⟨g, by simp, fun a ha b i d => by rw [aO] at i; rw [d, i] at ha; exact c ha⟩)
   simpa only [aT, cE, bU, aH, aJ, bW, df] using this
theorem Ls (l : List kV) (a : l.length ≤ 100000000) : Ab l = some (O5 l) := by
 unfold Ab
 rw [G8 l (by omega)]
 exact Lt l a _ [] rfl (by simp)
theorem UU : ∀ (P S : List kV) (n : Nat), P.length < n → (P ++ S).length ≤ 100000000 → nl [] (P ++ S) →
  ∃ R, pr n (P ++ S) ((P.length : Int) - 1) = some (R ++ S) ∧ R.Sublist P ∧ nl [] (R ++ S) ∧ ∀ R1 x R2, R = R1 ++ x :: R2 → ¬ nl [] (R1 ++ (R2 ++ S)) := by
 intro P
 induction hk : P.length generalizing P with
 | zero =>
  intro S n D s d
  obtain rfl := dF.1 hk
  obtain ⟨m, rfl⟩ : ∃ m, n = m + 1 := ⟨n - 1, by omega⟩
  refine ⟨[], ?_, .slnil, d, fun R1 x R2 h => by simp at h⟩
  rw [pr, aK (by simp)]
 | succ k ih =>
  intro S n D s d
  obtain ⟨m, rfl⟩ : ∃ m, n = m + 1 := ⟨n - 1, by omega⟩
  obtain ⟨P0, x, rfl⟩ : ∃ P0 x, P = P0 ++ [x] := by
   rcases dg P with rfl | ⟨L, y, rfl⟩
   ·simp at hk
   ·exact ⟨L, y, by simp⟩
  have o : P0.length = k := by simpa using hk
  subst o
  have A : P0.length + (S.length + 1) ≤ 100000000 := by simp at s; omega
  simp only [aT, cE, bU] at d s ⊢
  rw [pr, aM (by simp), PH (by omega)]
  simp only [aA]
  rw [show ((P0.length + 1 : Nat) : Int) - 1 = (P0.length : Int) by omega, lQ (by omega) (by omega), Ni P0 x S (by omega)]
  simp only [aA]
  rw [Q0 _ (by simp; omega), lQ (by omega) (by omega)]
  simp only [aA]
  cases c : KX (P0 ++ S) with
  | true =>
   simp only [bc, aA]
   obtain ⟨R, e, h1, i, j⟩ := ih P0 rfl S m (by omega) (by simp; omega) (C9.1 c)
   exact ⟨R, e, h1.trans (List.sublist_append_left _ _), i, j⟩
  | false =>
   simp only [aB, aP, aA]
   obtain ⟨R, e, h1, i, j⟩ := ih P0 rfl (x :: S) m (by omega) (by simp; omega) d
   refine ⟨R ++ [x], by rw [e]; simp, fW h1 (.refl _), by simpa using i, fun R1 y R2 u a => ?_⟩
   rcases dg R2 with rfl | ⟨R2', z, rfl⟩
   ·-- x g
    have : R = R1 ∧ x = y := by
     have := List.append_inj' (t₁ := [x]) (t₂ := [y]) (by simpa using u) rfl
     exact ⟨this.1, by simpa using this.2⟩
    obtain ⟨rfl, rfl⟩ := this
    simp only [bU] at a
    rw [A2] at d a
    have : nl [] (P0 ++ S) := (A2 _ _ _).2 ⟨d.1, a.2.mono (fun f v => by
     simp only [bU] at v ⊢
     exact (h1.map _).subset v)⟩
    rw [C9.2 this] at c; cases c
   ·have q : R ++ [x] = (R1 ++ y :: R2') ++ [z] := by simpa using u
    have := List.append_inj' q rfl
    obtain ⟨w, t⟩ := this
    simp at t; subst t
    exact j R1 y R2' w (by simpa using a)
theorem SV {R : List kV} {z : kV} (d : ((R ++ [z]).map (·.kB)).Nodup) (g : nl [] (R ++ [z])) (h : ∀ R1 x R2, R = R1 ++ x :: R2 → ¬ nl [] (R1 ++ (R2 ++ [z]))) : Dq (R ++ [z]) := by
 refine ⟨d, g, ?_⟩
 rintro ⟨j, _, h1, a⟩
 have c : j < R.length := by simp at h1; omega
 obtain ⟨A, x, B, rfl, rfl⟩ := NZ R j c
 refine h A x B rfl ?_
 have := Lj A x (B ++ [z])
 simp only [aT, cE] at a
 rw [this] at a
 exact a
theorem NB (P : List kV) (z : kV) (i : (P ++ [z]).length ≤ 10000000) (k : ((P ++ [z]).map (·.kB)).Nodup) (m : nl [] (P ++ [z])) :
  ∃ R, xn (P ++ [z]) = some (R ++ [z]) ∧ R.Sublist P ∧ Dq (R ++ [z]) := by
 unfold xn
 rw [tM, qt, Ls _ (by omega)]
 simp only [aA]
 cases n : O5 (P ++ [z]) with
 | true =>
  simp only [bM, aB, aP]
  exact ⟨P, rfl, .refl _, CX.1 n⟩
 | false =>
  simp only [cV, bc]
  have j : P.length + 1 ≤ 10000000 := by simpa using i
  obtain ⟨R, e, h1, d, g⟩ := UU P [z] lC (by rw [pp]; omega) (by simp; omega) m
  have h : wi0 .i64 (((P ++ [z]).length : Int) - 2) = (P.length : Int) - 1 := by rw [lQ (by simp; omega) (by simp; omega)]; simp; omega
  rw [h, e]
  simp only [aA]
  have a : (R ++ [z]).Sublist (P ++ [z]) := fW h1 (.refl _)
  have c := SV ((a.map _).nodup k) d g
  rw [show (18446744073709551615 : Nat) = 18446744073709551614 + 1 from rfl, qt, Ls _ (by have := a.length_le; omega)]
  simp only [aA]
  rw [CX.2 c]
  simp only [bM, aB, aP]
  exact ⟨R, rfl, h1, c⟩
def DK (l : List ky) : List ByteArray := l.flatMap fun c => [c.lx, c.Head.kE, c.B.kE, c.C.kE]
theorem Gl (l : List ky) : (DK l).length = 4 * l.length := by
 unfold DK
 induction l with
 | nil => rfl
 | cons x l ih => simp [ih]; omega
theorem KT : ∀ (l : List ky) (acc : List ByteArray), acc.length + 4 * l.length ≤ 1000000000 → tI l acc = zw (acc ++ DK l)
 | [], acc, _ => by rw [tI, uN]; simp [DK]
 | c :: l, acc, h => by
  simp only [aJ] at h
  rw [tI, mG (by simp; omega) (by simp; omega)]
  simp only [aA]
  rw [KT l _ (by simp; omega)]
  simp [DK]
theorem R3 (l : List ky) (h : l.length ≤ 10000000) : ∃ s, Am l = some s ∧ Dm (DK l) s ∧ s.length ≤ 4 * l.length := by
 unfold Am
 rw [KT l [] (by simp; omega)]
 obtain ⟨s, e, a⟩ := VR ([] ++ DK l) (by rw [bU, Gl]; omega)
 rw [bU] at a
 exact ⟨s, e, a, by rw [← Gl]; exact qg (HX _) a⟩
theorem qP.self {α : Type} {lt : α → α → Prop} {P : α → Prop} {l s : List α} (h : qP lt P l s) : qP lt P s s := ⟨h.1, fun x => ⟨fun a => ⟨a, ((h.2 x).1 a).2⟩, fun a => a.1⟩⟩
theorem sV.own {l : List kB} {c : ky} {names : List ByteArray} {w : ByteArray} (h : sV l c names w) : sV l c (l.map (·.lx)) w := by
 rcases h with h | h | h | ⟨d, g, i, b, _, a, j⟩
 ·exact .inl h
 ·exact .inr (.inl h)
 ·exact .inr (.inr (.inl h))
 ·exact .inr (.inr (.inr ⟨d, g, i, b, bH.2 ⟨_, a, rfl⟩, a, j⟩))
theorem sV.subset {a b : List kB} {c : ky} {names : List ByteArray} {w : ByteArray} (h : sV a c names w) (d : ∀ f ∈ a, f ∈ b) : sV b c names w := by
 rcases h with h | h | h | ⟨i, j, k, g, m, n, o⟩
 ·exact .inl h
 ·exact .inr (.inl ⟨h.1, d _ h.2⟩)
 ·exact .inr (.inr (.inl ⟨h.1, d _ h.2.1, d _ h.2.2⟩))
 ·exact .inr (.inr (.inr ⟨i, j, k, g, m, d _ n, d _ o⟩))
def mo (l : List kV) : List kB := l.map (·.kB)
theorem qH (l m : List kV) : mo (l ++ m) = mo l ++ mo m := by simp [mo]
structure Hr (C : List ky) (want : kB) (out : List kV) : Prop where
 st : nl [] out
 nd : (mo out).Nodup
 cr : ∀ s ∈ out, s.ky ∈ C
 dr : ∀ f ∈ mo out, ol C f
 no : want ∉ mo out
theorem Hr.len {C : List ky} {want : kB} {out : List kV} (h : Hr C want out) : out.length ≤ C.length * C.length := by
 have h1 : (mo out).length ≤ (Et C).length := mF h.nd (fun f a => (h.dr f a).Et)
 rw [Be] at h1
 simpa [mo] using h1
structure Ul (C : List ky) (want : kB) (l : List kV) : Prop where
 st : nl [] l
 nd : (mo l).Nodup
 cr : ∀ s ∈ l, s.ky ∈ C
 dr : ol C want
 len : l.length ≤ C.length * C.length
 last : ∃ P z, l = P ++ [z] ∧ z.kB = want
theorem OZ {κ : Type} {beq : κ → κ → Bool} (c : ∀ {x y}, beq x y = true ↔ x = y) {a : List κ} {k : κ} (h : k ∉ a) : ins beq a k = a ++ [k] := by
 unfold ins
 rw [aK]
 intro d; exact h ((nn c a k).1 d)
theorem IX {C : List ky} (D : SM C) (y : qU C) {c : ky} (v : c ∈ C) (vw : List ByteArray) (want : kB) (j : List kV) : ∀ (q : List kB) (out : List kV), Hr C want out → (∀ f ∈ mo j, f ∈ mo out) → (∀ f ∈ q, f.kw = c.Head ∧ sV (mo j) c vw f.lx) →
  (∃ l, qj c want q out (tt (mo out)) = some (.inl (.inl (l, true))) ∧ Ul C want l) ∨
  (∃ e, qj c want q out (tt (mo out)) = some (.inr (out ++ e, tt (mo (out ++ e)))) ∧ Hr C want (out ++ e) ∧ ∀ f ∈ q, f ∈ mo (out ++ e))
 | [], out, h, _, _ => .inr ⟨[], by rw [qj]; simp, by simpa using h, by simp⟩
 | f :: q, out, h, m, I => by
  rw [qj, FG]
  by_cases k : f ∈ mo out
  ·rw [aM ((nn mH _ _).2 k)]
   rcases IX D y v vw want j q out h m (fun g d => I g (by simp [d])) with h1 | ⟨e, h1, z, A⟩
   ·exact .inl h1
   ·refine .inr ⟨e, h1, z, fun g d => ?_⟩
    rcases aR.1 d with rfl | d
    ·rw [qH]; exact bI _ k
    ·exact A g d
  ·rw [aK (fun u => k ((nn mH _ _).1 u))]
   have P := h.len
   have O := D.sq
   rw [mG (by simp; omega) (by simp; omega)]
   simp only [aA]
   obtain ⟨L, J⟩ := I f (by simp)
   have o : sV (mo out) c vw f.lx := J.subset m
   have n : ol C f := by
    have := TG v (y c v) h.dr o
    rw [← L] at this; exact this
   have i : nl [] (out ++ [⟨c, f⟩]) := (A2 _ _ _).2 ⟨h.st, ⟨y c v, L, o.own⟩, trivial⟩
   have t : (mo (out ++ [⟨c, f⟩])).Nodup := by
    rw [qH]
    exact bN.2 ⟨h.nd, by simp [mo], fun a ha b u G => by
     simp only [mo, bD, fj, aO] at u
     rw [G, u] at ha; exact k ha⟩
   have w : ∀ s ∈ out ++ [⟨c, f⟩], s.ky ∈ C := fun s m => by
    rcases aS.1 m with m | m
    ·exact h.cr s m
    ·rw [aO] at m; rw [m]; exact v
   have x : ∀ g ∈ mo (out ++ [⟨c, f⟩]), ol C g := fun g d => by
    rw [qH] at d
    rcases aS.1 d with d | d
    ·exact h.dr g d
    ·simp only [mo, bD, fj, aO] at d
     rw [d]; exact n
   by_cases hw : f = want
   ·rw [aM (mH.2 hw)]
    refine .inl ⟨_, rfl, i, t, w, by rw [← hw]; exact n, ?_, out, _, rfl, hw⟩
    have h1 : (mo (out ++ [⟨c, f⟩])).length ≤ (Et C).length := mF t (fun g d => (x g d).Et)
    rw [Be] at h1
    simpa [mo] using h1
   ·rw [aK (fun u => hw (mH.1 u)), Kq mH, OZ mH k]
    have d : Hr C want (out ++ [⟨c, f⟩]) := ⟨i, t, w, x, fun k => by
     rw [qH] at k
     rcases aS.1 k with k | k
     ·exact h.no k
     ·simp only [mo, bD, fj, aO] at k
      exact hw k.symm⟩
    have M : mo out ++ [f] = mo (out ++ [⟨c, f⟩]) := by rw [qH]; rfl
    rw [M]
    rcases IX D y v vw want j q _ d (fun g d => by rw [qH]; exact bI _ (m g d)) (fun g d => I g (by simp [d])) with h1 | ⟨e, h1, z, A⟩
    ·exact .inl h1
    ·refine .inr ⟨⟨c, f⟩ :: e, by rw [h1]; simp, by simpa using z, fun g d => ?_⟩
     rcases aR.1 d with rfl | d
     ·rw [qH]; exact cD _ (by simp [mo])
     ·have := A g d
      simpa using this
def NL (vw : List ByteArray) (cs : List ky) (F : List kB) : Prop := ∀ c ∈ cs, ∀ w ∈ vw, sV F c vw w → (⟨c.Head, w⟩ : kB) ∈ F
theorem No {C : List ky} (q : SM C) (m : qU C) {vw : List ByteArray} (hw : Dm vw vw) (i : vw.length ≤ 900000000) (want : kB) : ∀ (cs : List ky) (out : List kV), (∀ c ∈ cs, c ∈ C) → Hr C want out →
  (∃ l, rD vw want cs out (tt (mo out)) = some (.inl (l, true)) ∧ Ul C want l) ∨
  (∃ e, rD vw want cs out (tt (mo out)) = some (.inr (out ++ e, tt (mo (out ++ e)))) ∧ Hr C want (out ++ e) ∧ (e = [] → NL vw cs (mo out)))
 | [], out, _, h => .inr ⟨[], by rw [rD]; simp, by simpa using h, fun _ c A => by cases A⟩
 | c :: cs, out, d, h => by
  rw [rD]
  obtain ⟨z, v, t, a2⟩ := RD (f := fun x => vN x.1 x.2 (tt (mo out))) (p := fun x => nK nq (mo out) ⟨x.1, x.2⟩) (fun x => by unfold vN; rw [FG]) (out := mo out) (fun r w => nn mH _ _) c i hw
  rw [v]
  simp only [aA]
  rcases IX q m (d c (by simp)) vw want out z out h (fun _ h => h) (fun f D => (t f D).2) with ⟨l, h1, k⟩ | ⟨e, h1, k, o⟩
  ·rw [h1]
   exact .inl ⟨l, rfl, k⟩
  ·rw [h1]
   simp only [aA]
   rcases No q m hw i want cs _ (fun x G => d x (by simp [G])) k with ⟨l, n, k2⟩ | ⟨y, n, k2, s⟩
   ·exact .inl ⟨l, n, k2⟩
   ·refine .inr ⟨e ++ y, by rw [n]; simp, by simpa using k2, fun he => ?_⟩
    obtain ⟨rfl, rfl⟩ := List.append_eq_nil_iff.1 he
    simp only [cu] at o s
    intro u a w j g
    rcases aR.1 a with rfl | a
    ·exact o _ (a2 (m _ (d _ (by simp))) w j g)
    ·exact s trivial u a w j g
theorem MD {C : List ky} (k : SM C) (g : qU C) {vw : List ByteArray} (hw : Dm vw vw) (d : vw.length ≤ 900000000) (m : ∀ c ∈ C, c.Kind = 1 → c.lx ∈ vw) (want : kB) : ∀ (n : Nat) (out : List kV) (x : Int), Hr C want out → x ≤ out.length → (x = out.length → NL vw C (mo out)) → ((C.length * C.length : Nat) : Int) < n + x →
  (∃ l, rG vw want C n out x (tt (mo out)) = some (l, true) ∧ Ul C want l) ∨ (rG vw want C n out x (tt (mo out)) = some ([], false) ∧ ¬ ol C want)
 | 0, out, x, h, s, _, q => by
  have := h.len
  omega
 | n + 1, out, x, h, s, i, q => by
  rw [rG]
  by_cases a : x < out.length
  ·rw [aM (by simpa using a)]
   rcases No k g hw d want C out (fun _ h => h) h with ⟨l, j, k2⟩ | ⟨e, j, k2, t⟩
   ·rw [j]
    exact .inl ⟨l, rfl, k2⟩
   ·rw [j]
    simp only [aA]
    refine MD k g hw d m want n (out ++ e) out.length k2 (by rw [aH]; omega) (fun he => ?_) (by omega)
    have : e = [] := bR (by simp at he; omega)
    subst this
    rw [cu]
    exact t rfl
  ·rw [aK (by simpa using a)]
   refine .inr ⟨rfl, fun o => h.no ?_⟩
   exact Jg g m (i (by omega)) o
theorem Ti (l : List ky) (q : l.length ≤ 30000) (want : kB) : ∃ C, JI l C ∧ ((∃ o, yf l want = some (o, true) ∧ Ul C want o) ∨ (yf l want = some ([], false) ∧ ¬ ol C want)) := by
 obtain ⟨C, i, d⟩ := YB l (by omega)
 obtain ⟨vw, j, hw, n⟩ := R3 l (by omega)
 have k : C.length ≤ l.length := qg D2 d
 have a : SM C := by unfold SM; omega
 have h : qU C := fun c g => ((d.2 c).1 g).2
 refine ⟨C, d, ?_⟩
 unfold yf
 rw [i, j]
 simp only [aA]
 have m := a.sq
 exact MD a h hw.self (by omega) (fun c g hk => (hw.2 _).2 ⟨iA.2 ⟨c, ((d.2 c).1 g).1, by simp⟩, QD (h c g) hk⟩) want lC [] (-1) ⟨trivial, by simp [mo], by simp, by simp [mo], by simp [mo]⟩ (by simp) (by simp) (by rw [pp]; omega)
structure QK (C : List ky) (want : kB) (l : List kV) : Prop where
 tg : Dq l
 cr : ∀ s ∈ l, s.ky ∈ C
 dr : ol C want
 len : l.length ≤ C.length * C.length
 last : ∃ P z, l = P ++ [z] ∧ z.kB = want
theorem PQ (l : List ky) (q : l.length ≤ 3000) (want : kB) : ∃ C, JI l C ∧ ((∃ o, vM l want = some (o, true) ∧ QK C want o) ∨ (vM l want = some ([], false) ∧ ¬ ol C want)) := by
 obtain ⟨C, c, h⟩ := Ti l (by omega) want
 refine ⟨C, c, ?_⟩
 have j : C.length ≤ l.length := qg D2 c
 have m : C.length * C.length ≤ 3000 * 3000 := fh (by omega) (by omega)
 unfold vM
 rcases h with ⟨o, e, g⟩ | ⟨e, g⟩
 ·rw [e]
  simp only [aA, bM, aB, aP]
  obtain ⟨P, z, rfl, n⟩ := g.last
  have hlen := g.len
  obtain ⟨R, d, h1, i⟩ := NB P z (by omega) g.nd g.st
  rw [d]
  simp only [aA]
  have a : (R ++ [z]).Sublist (P ++ [z]) := fW h1 (.refl _)
  exact .inl ⟨_, rfl, i, fun s k => g.cr s (a.subset k), g.dr, by have := a.length_le; omega, R, z, rfl, n⟩
 ·rw [e]
  exact .inr ⟨rfl, g⟩
def xG : List kV → List kV → List kV
 | [], acc => acc
 | s :: l, acc => if nK nq (mo acc) s.kB then xG l acc else xG l (acc ++ [s])
theorem PP : ∀ (l m acc : List kV), xG (l ++ m) acc = xG m (xG l acc)
 | [], m, acc => rfl
 | s :: l, m, acc => by
  simp only [cE, xG]
  split <;> exact PP l m _
theorem FI : ∀ (l acc : List kV), (xG l acc).length ≤ acc.length + l.length
 | [], acc => by simp [xG]
 | s :: l, acc => by
  rw [xG]
  split
  ·have := FI l acc; simp; omega
  ·have := FI l (acc ++ [s]); simp at this ⊢; omega
theorem IV : ∀ (l acc : List kV), acc.length + l.length ≤ 100000000 → rM l (tt (mo acc)) acc = some (xG l acc)
 | [], acc, _ => by rw [rM]; rfl
 | s :: l, acc, h => by
  simp only [aJ] at h
  rw [rM, FG, xG]
  by_cases a : s.kB ∈ mo acc
  ·rw [(nn mH _ _).2 a]
   simp only [bM, aB, aP, bc]
   exact IV l acc (by omega)
  ·have c : nK nq (mo acc) s.kB = false := by
    cases d : nK nq (mo acc) s.kB with
    | false => rfl
    | true => exact absurd ((nn mH _ _).1 d) a
   rw [c]
   simp only [cV, bc, aB, aP]
   rw [mG (by simp; omega) (by simp; omega)]
   simp only [aA]
   rw [Kq mH, OZ mH a, show mo acc ++ [s.kB] = mo (acc ++ [s]) by rw [qH]; rfl]
   exact IV l _ (by simp; omega)
theorem XX {b : Bool} (h : b = true) : nG b = some () := by simp [nG, h]
theorem Ql (n : Nat) (a : n ≤ 1000000000) : tX (n : Int) = some [] := by
 unfold tX
 rw [show wi0 .i64 (0 - 0) = 0 by decide, lQ (by omega) (by omega), aK (by simp), Int.sub_zero]
 by_cases h : (n : Int) > 0
 ·rw [aM (by simp; omega)]
  unfold J1
  rw [aM ⟨by omega, by omega, by unfold maxLen; omega⟩]
  simp only [aA]
  rw [XX (by simp)]
  simp
 ·rw [aK (by simp; omega)]; simp
def tot {α : Type} (a : List (List α)) : Nat := (a.map List.length).sum
theorem Lr : ∀ (a : List (List kV)) (acc : List kV), acc.length + tot a ≤ 100000000 → pq a acc = some (acc ++ a.flatten)
 | [], acc, _ => by rw [pq]; simp
 | l :: a, acc, h => by
  simp only [tot, bD, ep] at h
  rw [pq, mG (by omega) (by omega)]
  simp only [aA]
  rw [Lr a _ (by simp only [tot, aH]; omega)]
  simp
theorem La (a0 : List (List kV)) (c : tot a0 ≤ 100000000) : ∀ (a : List (List kV)) (n : Nat), n + tot a ≤ 100000000 → pk a0 a (n : Int) = some a0.flatten
 | [], n, h => by
  rw [pk, Ql n (by omega)]
  simp only [aA, uN]
  rw [Lr a0 [] (by simpa using c)]; simp
 | l :: a, n, h => by
  simp only [tot, bD, ep] at h
  rw [pk, lQ (by omega) (by omega), aK (by simp; omega)]
  have := La a0 c a (n + l.length) (by simp only [tot]; omega)
  simpa using this
theorem SY (a0 : List (List kV)) (a : tot a0 ≤ 100000000) : xR a0 = some a0.flatten := La a0 a a0 0 (by omega)
theorem Kv {α : Type} (a : List (List α)) : a.flatten.length = tot a := by simp [tot, List.length_flatten]
theorem MY (a : List (List kV)) (c : tot a ≤ 100000000) : Ar a = some (xG a.flatten []) := by
 unfold Ar
 rw [SY a c]
 simp only [aA]
 exact IV _ [] (by rw [Kv]; simpa using c)
theorem QK.Vv {C : List ky} {want : kB} {o : List kV} (g : QK C want o) : want ∈ mo o := by
 obtain ⟨P, z, rfl, a⟩ := g.last
 rw [qH]; exact cD _ (by simp [mo, a])
theorem CL : ∀ (l acc : List kV) (F : List kB), nl F l → (∀ f ∈ F, f ∈ mo acc) → nl [] acc → nl [] (xG l acc)
 | [], acc, F, _, _, h => h
 | s :: l, acc, F, d, c, h => by
  rw [xG]
  split
  ·rename_i g
   exact CL l acc (F ++ [s.kB]) d.2 (fun f a => by
    rcases aS.1 a with a | a
    ·exact c f a
    ·rw [aO] at a; rw [a]; exact (nn mH _ _).1 g) h
  ·exact CL l (acc ++ [s]) (F ++ [s.kB]) d.2 (fun f a => by
    rw [qH]
    rcases aS.1 a with a | a
    ·exact bI _ (c f a)
    ·exact cD _ a) ((A2 _ _ _).2 ⟨h, d.1.mono c, trivial⟩)
theorem Kj : ∀ (l acc : List kV) (s : kV), s ∈ xG l acc → s ∈ l ∨ s ∈ acc
 | [], acc, s, h => .inr h
 | x :: l, acc, s, h => by
  rw [xG] at h
  split at h
  ·exact (Kj l acc s h).imp (.tail _) id
  ·rcases Kj l _ s h with h | h
   ·exact .inl (.tail _ h)
   ·rcases aS.1 h with h | h
    ·exact .inr h
    ·rw [aO] at h; rw [h]; exact .inl (by simp)
section
variable {α : Type}
structure SWO (lt : α → α → Bool) : Prop where
 Zn : ∀ x, lt x x = false
 tr : ∀ x y z, lt x y = true → lt y z = true → lt x z = true
 Zo : ∀ x y z, lt x z = true → lt x y = true ∨ lt y z = true
variable {lt : α → α → Bool}
def YZ (lt : α → α → Bool) (l : List α) (k : α) : List α := l.filter (fun x => !lt k x) ++ k :: l.filter (fun x => lt k x)
def YY (lt : α → α → Bool) (l : List α) : List α := l.foldl (YZ lt) []
end
section
variable {c : Formula → Formula → Int} {G : Formula → Prop} {f : Formula × Formula → Option Int}
abbrev Zc (c : Formula → Formula → Int) (x y : Formula) : Bool := decide (c x y < 0)
end
section
variable {c : Formula → Formula → Int} {G : Formula → Prop} {f : Formula × Formula → Option Int}
abbrev Ask (a0 : List Formula) (f : Formula × Formula → Option Int) (p q : Int) (b : Bool) : Prop := ∃ x y r, mx a0 p = some x ∧ mx a0 q = some y ∧ f (x, y) = some r ∧ decide (r < 0) = b
end
section
variable {c : Formula → Formula → Int} {G : Formula → Prop} {f : Formula × Formula → Option Int}
def fm (a : List (List (Formula × Nat))) : List Formula := a.flatten.map (·.1)
end
theorem Qc {P : Formula → Prop} (h : ∀ f, (∀ k ∈ f.Kids, P k) → P f) : ∀ f, P f := by
 intro f
 refine Formula.rec (motive_1 := P) (motive_2 := fun c => ∀ k ∈ c, P k) ?_ ?_ ?_ f
 ·intro o k r c ih; exact h _ ih
 ·intro k hk; cases hk
 ·intro k c h1 d x a
  rcases aR.1 a with rfl | a
  ·exact h1
  ·exact d x a
mutual
def mz : Formula → Nat
 | ⟨_, _, _, ks⟩ => 1 + nodesL ks
def nodesL : List Formula → Nat
 | [] => 0
 | k :: ks => mz k + nodesL ks
end
mutual
def pu : Formula → Nat
 | ⟨_, _, _, ks⟩ => deepL ks + 1
def deepL : List Formula → Nat
 | [] => 0
 | k :: ks => max (pu k) (deepL ks)
end
theorem sR (f : Formula) : mz f = 1 + nodesL f.Kids := by cases f; rw [mz]
theorem nV (f : Formula) : pu f = deepL f.Kids + 1 := by cases f; rw [pu]
theorem xC : ∀ {a : List Formula} {k : Formula}, k ∈ a → mz k ≤ nodesL a
 | x :: a, k, h => by
  rw [nodesL]
  rcases aR.1 h with rfl | h
  ·omega
  ·have := xC h; omega
theorem wX : ∀ {a : List Formula} {k : Formula}, k ∈ a → pu k ≤ deepL a
 | x :: a, k, h => by
  rw [deepL]
  rcases aR.1 h with rfl | h
  ·omega
  ·have := wX h; omega
theorem xz : ∀ f : Formula, pu f ≤ mz f := by
 refine Qc fun f ih => ?_
 rw [nV, sR]
 have : ∀ a : List Formula, (∀ k ∈ a, pu k ≤ mz k) → deepL a ≤ nodesL a := by
  intro a
  induction a with
  | nil => intro _; rw [deepL]; omega
  | cons k a c =>
   intro h
   have := c (fun x d => h x (by simp [d]))
   have := h k (by simp)
   rw [deepL, nodesL]; omega
 have := this f.Kids ih
 omega
theorem GO : ∀ a : List Formula, a.length ≤ nodesL a
 | [] => by rw [nodesL]; simp
 | k :: a => by have := GO a; have := sR k; rw [nodesL, aJ]; omega
theorem Rh (a : Nat) (hm : a ≤ 4096) (rec : Formula → Int → Option (Int × Int)) : ∀ (c : List Formula), (∀ k ∈ c, ∀ q : Nat, q ≤ 4096 → ∃ n d : Nat, rec k (q : Int) = some ((n : Int), (d : Int)) ∧ 1 ≤ n ∧ n ≤ mz k ∧ d ≤ mz k ∧ (mz k ≤ q → n = mz k ∧ d = pu k) ∧ (q < mz k → q < n)) → ∀ x y : Nat, x + nodesL c ≤ 100000000 →
  ∃ n d : Nat, qm (a : Int) rec c (x : Int) (y : Int) = some ((n : Int), (d : Int)) ∧ x ≤ n ∧ n ≤ x + nodesL c ∧ d ≤ max y (nodesL c) ∧ (x + nodesL c ≤ a → n = x + nodesL c ∧ d = max y (deepL c)) ∧ (a < x + nodesL c → a < n)
 | [], _, x, y, _ => by
  rw [qm, nodesL, deepL]
  exact ⟨x, y, rfl, by omega, by omega, by omega, fun _ => ⟨by omega, by omega⟩, fun h => by omega⟩
 | k :: c, i, x, y, t => by
  rw [nodesL] at t ⊢
  rw [qm, deepL]
  by_cases j : (x : Int) > (a : Int)
  ·simp only [j, eE, bc]
   exact ⟨x, y, rfl, by omega, by omega, by omega, fun _ => by omega, fun h => by omega⟩
  ·simp only [j, ft, aB, aP]
   have v : wi0 .i64 ((a : Int) - (x : Int)) = ((a - x : Nat) : Int) := by rw [lQ (by omega) (by omega)]; omega
   obtain ⟨m, d, e, h1, D, G, g, s⟩ := i k (by simp) (a - x) (by omega)
   rw [v, e, aA]
   have w : wi0 .i64 ((x : Int) + (m : Int)) = ((x + m : Nat) : Int) := by rw [lQ (by omega) (by omega)]; omega
   have A : (if (d : Int) > (y : Int) then (d : Int) else (y : Int)) = ((max y d : Nat) : Int) := by split <;> omega
   simp only [w, A]
   obtain ⟨n, o, e', g1, g2, g3, g4, g5⟩ := Rh a hm rec c (fun z u => i z (by simp [u])) (x + m) (max y d) (by omega)
   refine ⟨n, o, e', by omega, by omega, by omega, fun h => ?_, fun h => ?_⟩
   ·obtain ⟨rfl, rfl⟩ := g (by omega)
    obtain ⟨rfl, rfl⟩ := g4 (by omega)
    exact ⟨by omega, by omega⟩
   ·by_cases hk : a - x < mz k
    ·have := s hk; omega
    ·obtain ⟨rfl, _⟩ := g (by omega)
     exact g5 (by omega)
theorem TS : ∀ (n : Nat) (f : Formula), pu f ≤ n → mz f ≤ 50000000 → ∀ q : Nat, q ≤ 4096 → ∃ m d : Nat, pa n f (q : Int) = some ((m : Int), (d : Int)) ∧ 1 ≤ m ∧ m ≤ mz f ∧ d ≤ mz f ∧ (mz f ≤ q → m = mz f ∧ d = pu f) ∧ (q < mz f → q < m) := by
 intro n
 induction n with
 | zero => intro f h; rw [nV] at h; omega
 | succ n ih =>
  intro f i u q a
  rw [nV] at i
  have j := sR f
  rw [pa]
  unfold xJ
  obtain ⟨m, d, e, h1, s, t, c, g⟩ := Rh q a (pa n) f.Kids (fun k hk q a => ih k (by have := wX hk; omega) (by have := xC hk; omega) q a) 1 0 (by omega)
  have e' : qm (q : Int) (pa n) f.Kids 1 0 = some ((m : Int), (d : Int)) := e
  rw [e', aA]
  have o : wi0 .i64 ((d : Int) + 1) = ((d + 1 : Nat) : Int) := by rw [lQ (by omega) (by omega)]; omega
  simp only [o]
  refine ⟨m, d + 1, rfl, h1, by omega, by omega, fun h => ?_, fun h => g (by omega)⟩
  obtain ⟨rfl, rfl⟩ := c (by omega)
  rw [nV]
  exact ⟨by omega, by omega⟩
theorem Vj (f : Formula) (g : mz f ≤ 50000000) : zr f = some (if mz f ≤ 4096 then ((mz f : Int), (pu f : Int)) else (0, 0)) := by
 unfold zr
 have := xz f
 obtain ⟨m, d, e, h1, i, j, a, c⟩ := TS lC f (by rw [tM]; omega) g 4096 (bB _)
 have e' : pa lC f 4096 = some ((m : Int), (d : Int)) := e
 rw [e', aA]
 by_cases h : mz f ≤ 4096
 ·obtain ⟨rfl, rfl⟩ := a h
  have : ¬ ((mz f : Int) > 4096) := by omega
  simp [this, h]
 ·have := c (by omega)
  have : ((m : Int) > 4096) := by omega
  simp [this, h]
def Bf : kw := ⟨zS, zS⟩
def HU (f : Formula) : Bool := if f.Op = 1 then ml f.kw && decide (f.Kids.length = 0) && decide (f.K = 0) else if f.Op = 2 ∨ f.Op = 3 then kN f.kw Bf && decide (f.K = 0) else decide (f.Op = 4) && kN f.kw Bf && decide (0 ≤ f.K) && decide (f.K ≤ (f.Kids.length : Int)) && decide (1 ≤ f.Kids.length)
theorem Vy (f : Formula) : zn f = some (HU f) := by
 unfold zn HU
 simp only [uz, aA, uN]
 by_cases h1 : f.Op = 1
 ·simp only [h1, bY, bc]
  cases o : ml f.kw
  ·simp
  ·by_cases j : f.Kids.length = 0
   ·have : f.Kids = [] := bR j
    by_cases hk : f.K = 0 <;> simp [this, hk]
   ·have : ((f.Kids.length : Int) == 0) = false := by simp; intro h; exact j (by simp [h])
    simp only [bc, aA, this, aB, aP, j, ft, Bool.and_false, Bool.false_and]
 ·have m : (f.Op == 1) = false := by simpa using h1
  simp only [m, aB, aP, h1]
  by_cases c : f.Op = 2 ∨ f.Op = 3
  ·have g : (if f.Op == 2 then some (f.Op == 2) else some (f.Op == 3)) = some true := by
    rcases c with h | h <;> simp [h]
   simp only [g, aA, bc, c]
   cases d : kN f.kw ⟨zS, zS⟩ <;> by_cases hk : f.K = 0 <;> simp [Bf, d, hk]
  ·have g : (if f.Op == 2 then some (f.Op == 2) else some (f.Op == 3)) = some false := by
    have a : f.Op ≠ 2 := fun h => c (.inl h)
    have b : f.Op ≠ 3 := fun h => c (.inr h)
    simp [a, b]
   simp only [g, aA, aB, aP, c]
   by_cases i : f.Op = 4
   ·simp only [i, bY, bc, aA, eE, ek]
    cases d : kN f.kw ⟨zS, zS⟩
    ·simp [Bf, d]
    ·by_cases c1 : 0 ≤ f.K <;> by_cases c2 : f.K ≤ (f.Kids.length : Int) <;> by_cases k : 1 ≤ f.Kids.length <;> simp [Bf, d, c1, c2, k] <;> omega
   ·have n : (f.Op == 4) = false := by simpa using i
    simp [n, i]
mutual
def Bd : Formula → Bool
 | ⟨o, n, r, ks⟩ => HU ⟨o, n, r, ks⟩ && decide (ks.length ≤ 8) && wellL ks
def wellL : List Formula → Bool
 | [] => true
 | k :: ks => Bd k && wellL ks
end
theorem N0 (f : Formula) : Bd f = (HU f && decide (f.Kids.length ≤ 8) && wellL f.Kids) := by cases f; rw [Bd]
theorem Lm : ∀ a : List Formula, wellL a = a.all Bd
 | [] => rfl
 | k :: a => by rw [wellL, Lm a]; rfl
theorem NG (f : Formula → Option Bool) : ∀ (l : List Formula) (i : Nat), nM f l i = yo f l i
 | [], i => by rw [nM]; rfl
 | x :: l, i => by
  rw [nM, yo]
  cases f x with
  | none => rfl
  | some b =>
   simp only [aA]
   rw [NG f l (i + 1)]
theorem OC (f : Formula → Option Bool) (p : Formula → Bool) (l : List Formula) (h : ∀ x ∈ l, f x = some (p x)) : oK l f = some (l.any p) := by
 unfold oK uT
 rw [NG]
 rcases DD f p l 0 h with ⟨e, h1⟩ | ⟨A, x, B, rfl, h1, a, e⟩
 ·rw [e, aA]
  have : l.any p = false := by rw [List.any_eq_false]; intro x c; rw [h1 x c]; simp
  rw [this]; rfl
 ·rw [e, aA]
  have : (A ++ x :: B).any p = true := by simp [a]
  rw [this]
  congr 1
theorem Th : ∀ (n : Nat) (f : Formula), pu f ≤ n → sC n f = some (Bd f) := by
 intro n
 induction n with
 | zero => intro f h; rw [nV] at h; omega
 | succ n ih =>
  intro f h
  rw [nV] at h
  rw [sC]
  unfold xN
  rw [Vy, aA, N0, OC _ (fun k => !Bd k) f.Kids (fun k hk => by unfold wG; rw [ih k (by have := wX hk; omega)]; rfl)]
  rw [Lm]
  have e : (!(f.Kids.any fun k => !Bd k)) = f.Kids.all Bd := by rw [List.all_eq_not_any_not]
  cases HU f
  ·rfl
  ·by_cases a : f.Kids.length ≤ 8
   ·have : ((f.Kids.length : Int) ≤ 8) := by omega
    simp [a, this, e]
   ·have : ¬ ((f.Kids.length : Int) ≤ 8) := by omega
    simp [a, this]
def uZ (f : Formula) : Bool := decide (mz f ≤ 64) && decide (pu f ≤ 6) && Bd f
theorem Gi (f : Formula) (c : mz f ≤ 50000000) : qO f = some (uZ f) := by
 unfold qO uZ
 have d := xz f
 rw [Vj f c, aA, Th lC f (by rw [tM]; omega)]
 have h1 := sR f
 by_cases h : mz f ≤ 4096
 ·simp only [h, bc]
  have a : ((mz f : Int) ≥ 1) := by omega
  simp only [a, eE, bc, aA, uN]
  by_cases c1 : mz f ≤ 64 <;> by_cases c2 : pu f ≤ 6
  ·have d1 : ((mz f : Int) ≤ 64) := by omega
   have d2 : ((pu f : Int) ≤ 6) := by omega
   simp [c1, c2, d1, d2]
  ·have d1 : ((mz f : Int) ≤ 64) := by omega
   have d2 : ¬ ((pu f : Int) ≤ 6) := by omega
   simp [c1, c2, d1, d2]
  ·have d1 : ¬ ((mz f : Int) ≤ 64) := by omega
   simp [c1, d1]
  ·have d1 : ¬ ((mz f : Int) ≤ 64) := by omega
   simp [c1, d1]
 ·simp only [h, aP]
  have : ¬ mz f ≤ 64 := by omega
  simp [this]
theorem Formula.ext' {a b : Formula} (h1 : a.Op = b.Op) (c : a.K = b.K) (d : a.kw = b.kw) (g : a.Kids = b.Kids) : a = b := by
 cases a; cases b; simp only at h1 c d g; subst h1 c d g; rfl
def up (w : ByteArray) (g : ByteArray → Nat) : ByteArray → Nat := fun x => if ma w x = true then g x + 1 else g x
theorem V5 (F : List kB) (w : ByteArray) (a : F.length ≤ 1000000000) : xS F w = some ((F.filter fun f => ma f.lx w).map (·.kw)) := by
 unfold xS
 rw [EG w F [] (by simp; omega)]
 simp
instance decRole : DecidableEq kw := fun a b => decidable_of_iff (kN a b = true) kP
def Jw (F : List kB) (w : ByteArray) : List kw := (F.filter fun f => ma f.lx w).map (·.kw)
structure Wq (l : List ky) (F : List kB) : Prop where
 len : l.length ≤ 30000
 C : ∃ C : List ky, Di (ol C) F ∧ (∀ c, c ∈ C ↔ c ∈ l ∧ mf c = true) ∧ SM C
 ref : zh l = some F
theorem WB (l : List ky) (h : l.length ≤ 30000) : ∃ F, Wq l F := by
 obtain ⟨C, F, e, h1, i⟩ := Vr l h
 obtain ⟨C1, T, k, ws, n, j, m1, a, g⟩ := Uk l (by omega)
 have d : ∀ c, c ∈ C ↔ c ∈ C1 := fun c => by rw [i, a]
 exact ⟨F, h, ⟨C1, ⟨h1.1, fun f => (h1.2 f).trans (ol.congr d f)⟩, a, by unfold SM; omega⟩, e⟩
theorem Wq.YT {l : List ky} {F : List kB} (h : Wq l F) : F.length ≤ 900000000 := by
 obtain ⟨C, h1, c, a⟩ := h.C
 exact Vh h1 a
def B8 (l : List Int) : Prop := ∀ x ∈ l, 0 ≤ x ∧ x < 256
def QV : List ByteArray → List Key → Int
 | _, [] => 0
 | seen, k :: l => if mZ k.lx = false then 30 else if k.Key.length < 1 ∨ 32 < k.Key.length then 21 else if nK ma seen k.lx = true then 41 else QV (seen ++ [k.lx]) l
def Tx (l : List Key) : List (ByteArray × List Int) := l.map fun k => (k.lx, k.Key)
def Tt (l : List Key) (o : ByteArray) : Option (List Int) := mi ma (Tx l) o
theorem M1 {l : List Int} (h : l.length ≤ 1000000) : pG l = some l := by
 unfold pG
 rw [Cz (by simpa using h)]; rfl
theorem PS : ∀ (l : List Key) (seen : List ByteArray), QV seen l = 0 → ∀ k ∈ l, 1 ≤ k.Key.length ∧ k.Key.length ≤ 32
 | [], _, _, _, hk => by cases hk
 | x :: l, seen, h, k, hk => by
  unfold QV at h
  split at h
  ·cases h
  split at h
  ·cases h
  split at h
  ·cases h
  rcases aR.1 hk with rfl | hk
  ·omega
  ·exact PS l _ h k hk
theorem IK : ∀ (l : List Key) (o : ByteArray) (b : List Int), Tt l o = some b → ∃ k ∈ l, k.Key = b
 | [], o, b, h => by cases h
 | x :: l, o, b, h => by
  unfold Tt at h
  rw [show Tx (x :: l) = (x.lx, x.Key) :: Tx l from rfl, Ec] at h
  split at h
  ·cases h; exact ⟨x, by simp, rfl⟩
  ·obtain ⟨k, hk, e⟩ := IK l o b h
   exact ⟨k, by simp [hk], e⟩
def K8 (l : List Key) : Prop := ∀ k ∈ l, B8 k.Key
theorem G1 {c : ky} (h : mf c = true) : (qM c).length ≤ 200 := by
 unfold qM yD
 rw [aJ, aH]
 have i := nF (zT h)
 have a : ∀ s, mZ s = true → (tY s).length ≤ 17 := fun s d => by rw [qc]; have := nz d; omega
 rcases nL h with g | g | g | g <;> simp only [g.1, bc, aP, Int.reduceEq]
 ·have := a c.lx (by simp_all); omega
 ·have : (pv c.B).length ≤ 34 := nF (by simp_all)
  omega
 ·have : (pv c.B).length ≤ 34 := nF (by simp_all)
  have := a c.lU (by simp_all)
  rw [aH]; omega
 ·have : (pv c.B).length ≤ 34 := nF (by simp_all)
  have : (pv c.C).length ≤ 34 := nF (by simp_all)
  rw [aH]; omega
theorem Zg (c : ky) (h : mf c = true) : vT c = some (qM c) := by rw [AZ, aM h]
structure Mk (ks : List Key) (c : ky) (k : List Int) : Prop where
 ok : QV [] ks = 0
 rt : mf c = true
 lk : Tt ks c.Head.kE = some k
theorem Mk.len {a : List Key} {c : ky} {k : List Int} (h : Mk a c k) : 1 ≤ k.length ∧ k.length ≤ 32 := by
 obtain ⟨q, d, rfl⟩ := IK _ _ _ h.lk
 exact PS a [] h.ok q d
theorem Mk.b8 {a : List Key} {c : ky} {k : List Int} (h : Mk a c k) (hk : K8 a) : B8 k := by
 obtain ⟨q, d, rfl⟩ := IK _ _ _ h.lk
 exact hk q d
theorem Mk.unique {a : List Key} {c : ky} {k k' : List Int} (h : Mk a c k) (d : Mk a c k') : k = k' := by
 have := h.lk; rw [d.lk] at this; cases this; rfl
mutual
def RT : Formula → List Int
 | ⟨o, k, r, ks⟩ => o :: (if o = 1 then pv r else (if o = 4 then [k] else []) ++ ((ks.length : Int) :: bytesFL ks))
def bytesFL : List Formula → List Int
 | [] => []
 | k :: ks => RT k ++ bytesFL ks
end
def Ys (f : Formula) : List Int := if uZ f then RT f else []
abbrev Gd (f : Formula) : Prop := mz f ≤ 50000000
def Zj (f g : Formula) : Int := AH (Ys f) (Ys g)
def Ws (l : List Formula) : List Formula := YY (Zc Zj) l
noncomputable def Zl (a b : Formula) : Bool := @decide (a = b) (Classical.propDecidable _)
def JC (op : Int) (f : Formula) : Bool := decide (f.Op = op) && f.Kids.isEmpty
def Qd (op : Int) : List Formula → List Formula
 | [] => []
 | k :: a => (if k.Op = op then k.Kids else [k]) ++ Qd op a
noncomputable def Ki (op : Int) (a : List Formula) : Formula :=
 if (Qd op a).any (JC (5 - op)) then ⟨5 - op, 0, Bf, []⟩ else
  match dd Zl (Ws (Qd op a)) with
  | [x] => x
  | r => ⟨op, 0, Bf, r⟩
noncomputable def TU (k : Int) (a : List Formula) : Formula :=
 let n := k - ((a.filter (JC 2)).length : Int)
 let l := a.filter fun x => !JC 2 x && !JC 3 x
 if n ≤ 0 then ⟨2, 0, Bf, []⟩ else if n > (l.length : Int) then ⟨3, 0, Bf, []⟩ else if n = (l.length : Int) then Ki 2 l else if n = 1 then Ki 3 l else ⟨4, n, Bf, Ws l⟩
mutual
noncomputable def Xo : Formula → Formula
 | ⟨o, k, r, ks⟩ => if o = 1 then ⟨o, k, r, ks⟩ else if o = 4 then TU k (shapeL ks) else Ki o (shapeL ks)
noncomputable def shapeL : List Formula → List Formula
 | [] => []
 | k :: ks => Xo k :: shapeL ks
end
mutual
def Bj (v : kw → Bool) : Formula → Bool
 | ⟨o, k, r, ks⟩ => if o = 1 then v r else if o = 2 then decide (evN v ks = ks.length) else if o = 3 then decide (0 < evN v ks) else decide (k ≤ (evN v ks : Int))
def evN (v : kw → Bool) : List Formula → Nat
 | [] => 0
 | k :: ks => (if Bj v k then 1 else 0) + evN v ks
end
theorem Hw (v : kw → Bool) (f : Formula) : Bj v f = if f.Op = 1 then v f.kw else if f.Op = 2 then decide (evN v f.Kids = f.Kids.length) else if f.Op = 3 then decide (0 < evN v f.Kids) else decide (f.K ≤ (evN v f.Kids : Int)) := by cases f; rw [Bj]
theorem R4 (v : kw → Bool) : ∀ a : List Formula, evN v a ≤ a.length
 | [] => by rw [evN]; exact bB _
 | k :: a => by have := R4 v a; rw [evN, aJ]; split <;> omega
theorem Vm {v w : kw → Bool} (h : ∀ r, v r = true → w r = true) : ∀ f : Formula, Bj v f = true → Bj w f = true := by
 refine Qc fun f ih => ?_
 have key : evN v f.Kids ≤ evN w f.Kids := by
  have : ∀ a : List Formula, (∀ k ∈ a, Bj v k = true → Bj w k = true) → evN v a ≤ evN w a := by
   intro a
   induction a with
   | nil => intro _; rw [evN, evN]; exact bB _
   | cons k a c =>
    intro hk
    have h1 := c (fun x i => hk x (by simp [i]))
    have d := hk k (by simp)
    rw [evN, evN]
    cases g : Bj v k
    ·simp; omega
    ·rw [d g]; simp; omega
  exact this _ ih
 have hle := R4 w f.Kids
 rw [Hw, Hw]
 split
 ·exact h _
 ·split
  ·simp only [bV]; omega
  ·split
   ·simp only [bV]; omega
   ·simp only [bV]; omega
theorem GV (v : kw → Bool) (f1 : kw → Option Bool) (rec : Formula → (kw → Option Bool) → Option Bool) (f : Formula) : ∀ (a : List Formula) (x : Nat), (∀ k ∈ a, rec k f1 = some (Bj v k)) → x + a.length ≤ 100000000 →
  ql rec f1 f a (x : Int) = some (if f.Op = 2 then decide (x + evN v a = f.Kids.length) else if f.Op = 3 then decide (0 < x + evN v a) else decide (f.K ≤ ((x + evN v a : Nat) : Int)))
 | [], x, _, _ => by
  rw [ql, evN, jV]
  by_cases c2 : f.Op = 2
  ·simp only [c2, bY, bc]
   congr 1
   rw [bF, gj, bV]; omega
  ·have d : (f.Op == 2) = false := by simpa using c2
   simp only [d, aB, aP, c2]
   by_cases c : f.Op = 3
   ·simp only [c, bY, bc]
    congr 1
    rw [bF, bV, bV]; omega
   ·have i : (f.Op == 3) = false := by simpa using c
    simp only [i, aB, aP, c]
 | k :: a, x, h, j => by
  rw [aJ] at j
  rw [ql, h k (by simp), aA, evN]
  cases Bj v k
  ·simp only [aB, aP]
   rw [GV v f1 rec f a x (fun z g => h z (by simp [g])) (by omega), df]
  ·simp only [bc]
   have e : wi0 .i64 ((x : Int) + 1) = ((x + 1 : Nat) : Int) := by rw [lQ (by omega) (by omega)]; omega
   rw [e, GV v f1 rec f a (x + 1) (fun z g => h z (by simp [g])) (by omega)]
   have d : x + 1 + evN v a = x + (1 + evN v a) := by omega
   rw [d]
theorem RG (v : kw → Bool) (f1 : kw → Option Bool) (i : ∀ r, f1 r = some (v r)) : ∀ (n : Nat) (f : Formula), pu f ≤ n → Gd f → qN n f f1 = some (Bj v f) := by
 intro n
 induction n with
 | zero => intro f h; rw [nV] at h; omega
 | succ n ih =>
  intro f c d
  rw [nV] at c
  have g := sR f
  have j := GO f.Kids
  unfold Gd at d
  rw [qN]
  unfold xM
  rw [Hw]
  by_cases c1 : f.Op = 1
  ·simp only [c1, bY, bc, i, aA]
  ·have a : (f.Op == 1) = false := by simpa using c1
   simp only [a, aB, aP, c1]
   have := GV v f1 (qN n) f f.Kids 0 (fun k hk => ih k (by have := wX hk; omega) (by have := xC hk; unfold Gd; omega)) (by omega)
   simpa using this
def Ac (v : kw → Bool) (f : Formula) : Bool := uZ f && Bj v f
theorem P3 (v : kw → Bool) (f1 : kw → Option Bool) (a : ∀ r, f1 r = some (v r)) (f : Formula) (h : Gd f) : vC f f1 = some (Ac v f) := by
 unfold vC Ac
 rw [Gi f h, aA]
 have := xz f
 cases uZ f
 ·rfl
 ·unfold Gd at h
  simp only [bc, RG v f1 a lC f (by rw [tM]; omega) h, aA, ek]
def S8 (l : List Signed) : Prop := ∀ s ∈ l, B8 s.Tag
structure Wr (l : List ky) (F : List kB) : Prop where
 len : F.length ≤ 900000000
 ref : zh l = some F
 Zk : ∃ m, xL l = some m ∧ yr m.1 m.2.1 m.2.2.1 m.2.2.2.1 m.2.2.2.2.1 m.2.2.2.2.2 = some F ∧ ∀ r w, tB m.1 m.2.1 m.2.2.1 m.2.2.2.1 m.2.2.2.2.1 m.2.2.2.2.2 r w = some (nK nq F ⟨r, w⟩)
 zG : ∀ C : List ky, (∀ c, c ∈ C ↔ c ∈ l ∧ mf c = true) → Di (ol C) F
theorem Xz (l : List ky) (x : l.length ≤ 30000) : ∃ F, Wr l F := by
 obtain ⟨F, h⟩ := WB l x
 refine ⟨F, h.YT, h.ref, ?_, fun C t => ?_⟩
 ·obtain ⟨C, h1, d, s⟩ := h.C
  obtain ⟨C1, T, m, ws, n, o, m1, g, j⟩ := Uk l (by omega)
  have a : ∀ c, c ∈ C1 ↔ c ∈ C := fun c => by rw [d, g]
  have k : Di (ol C1) F := ⟨h1.1, fun f => (h1.2 f).trans (ol.congr a f).symm⟩
  have u : SM C1 := by unfold SM; omega
  refine ⟨_, o, ?_, fun r w => ?_⟩
  ·obtain ⟨F1, q, i⟩ := TW u.small m1 C1 m ws [] n
   rw [← i.unique k]; exact q
  ·obtain ⟨b, e, v⟩ := Wv m1 C1 m ws [] n r w
   rw [e, show b = nK nq F ⟨r, w⟩ from by rw [bF, v, nn mH, k.2]]
 ·obtain ⟨C', h1, d, s⟩ := h.C
  have a : ∀ c, c ∈ C' ↔ c ∈ C := fun c => by rw [d, t]
  exact ⟨h1.1, fun f => (h1.2 f).trans (ol.congr a f)⟩
structure PB (p : lR) : Prop where
 X7 : p.nr.length ≤ 2000000
 YG : p.oq.length ≤ 2000000
 rel : ∀ x ∈ p.nr, mz x.lo ≤ 10000000
 YP : ∀ a ∈ p.oq, mz a.lo ≤ 10000000
 Y4 : ∀ a ∈ p.oq, a.qv.length ≤ 2000000
theorem N4 {α : Type} (f : α → Option Bool) (p : α → Bool) (l : List α) (h : ∀ x ∈ l, f x = some (p x)) : ((yo f l 0).bind fun d => some (decide (d ≥ 0))) = some (l.any p) := by
 rcases DD f p l 0 h with ⟨e, h1⟩ | ⟨A, x, B, rfl, h1, a, e⟩
 ·rw [e, aA]
  have : l.any p = false := by rw [List.any_eq_false]; intro x c; rw [h1 x c]; simp
  rw [this]; rfl
 ·rw [e, aA]
  have : (A ++ x :: B).any p = true := by simp [a]
  rw [this]
  congr 1
def vF (F : List kB) (peer : ByteArray) (r : kw) : Bool := nK nq F ⟨r, peer⟩
theorem US : ∀ (n : Nat) (l : List Formula), deepL l < n → ∃ r, nU n l = some r := by
 intro n
 induction n with
 | zero => intro l h; omega
 | succ n ih =>
  intro l h
  rw [nU]
  unfold wF
  generalize (0 : Int) = x
  induction l generalizing x with
  | nil => exact ⟨x, by rw [qf]⟩
  | cons k l a =>
   rw [deepL] at h
   have := nV k
   obtain ⟨r, e⟩ := ih k.Kids (by omega)
   rw [qf, e, aA]
   exact a (by omega) _
theorem Q6 (f : Formula) (h : Gd f) : ∃ r, nU lC [f] = some r := by
 unfold Gd at h
 have := xz f
 exact US lC [f] (by rw [deepL, deepL, tM]; omega)
structure PG (p : lR) : Prop extends PB p where
 Y3 : ∀ x ∈ p.nr, An x.Signed.ky ≤ 1000000000
 Zd : ∀ a ∈ p.oq, ∀ c ∈ a.qv, An c ≤ 1000000000
noncomputable def vD (l : List ky) (peer : ByteArray) (r : kw) : Bool := @decide (ol (l.filter mf) ⟨r, peer⟩) (Classical.propDecidable _)
theorem WX (l : List ky) (peer : ByteArray) (r : kw) : vD l peer r = true ↔ ol (l.filter mf) ⟨r, peer⟩ := by unfold vD; simp
def sY : kw := ⟨⟨#[120]⟩, ⟨#[121]⟩⟩
def sa (r : kw) : Formula := ⟨1, 0, r, []⟩
theorem Pm (v : kw → Bool) (r : kw) : Bj v (sa r) = v r := by rw [Hw]; rfl
theorem M7 : uZ (sa sY) = true := by decide +kernel
theorem Xk : ∀ (n : Nat) (f : Formula), pu f ≤ n → Gd f → sO n f = some (mz f : Int) := by
 intro n
 induction n with
 | zero => intro f h; rw [nV] at h; omega
 | succ n ih =>
  intro f g i
  rw [nV] at g
  have c := sR f
  unfold Gd at i
  rw [sO]
  unfold yP
  have key : ∀ (a : List Formula) (x : Nat), (∀ k ∈ a, k ∈ f.Kids) → x + nodesL a ≤ 50000000 → tD (sO n) a (x : Int) = some ((x + nodesL a : Nat) : Int) := by
   intro a
   induction a with
   | nil => intro x _ _; rw [tD, nodesL]; rfl
   | cons k a d =>
    intro x hk j
    rw [nodesL] at j
    rw [tD, ih k (by have := wX (hk k (by simp)); omega) (by have := xC (hk k (by simp)); unfold Gd; omega), aA]
    have w : wi0 .i64 ((x : Int) + (mz k : Int)) = ((x + mz k : Nat) : Int) := by rw [lQ (by omega) (by omega)]; omega
    rw [w, d _ (fun z m => hk z (by simp [m])) (by omega), nodesL]
    congr 2; omega
  have := key f.Kids 1 (fun k hk => hk) (by omega)
  rw [c]
  exact this
theorem Yl : ∀ (n : Nat) (f : Formula), pu f ≤ n → Gd f → ud n f = some (pu f : Int) := by
 intro n
 induction n with
 | zero => intro f h; rw [nV] at h; omega
 | succ n ih =>
  intro f g i
  rw [nV] at g ⊢
  have j := sR f
  have hle := xz f
  rw [nV] at hle
  unfold Gd at i
  rw [ud]
  unfold zM
  have key : ∀ (a : List Formula) (x : Nat), (∀ k ∈ a, k ∈ f.Kids) → max x (deepL a) ≤ 50000000 → uA (ud n) a (x : Int) = some ((max x (deepL a) + 1 : Nat) : Int) := by
   intro a
   induction a with
   | nil =>
    intro x _ c
    rw [deepL] at c
    rw [uA, deepL, lQ (by omega) (by omega)]
    congr 1; omega
   | cons k a d =>
    intro x hk c
    rw [deepL] at c
    rw [uA, ih k (by have := wX (hk k (by simp)); omega) (by have := xC (hk k (by simp)); unfold Gd; omega), aA]
    have w : (if (pu k : Int) > (x : Int) then (pu k : Int) else (x : Int)) = ((max x (pu k) : Nat) : Int) := by split <;> omega
    rw [w, d _ (fun z m => hk z (by simp [m])) (by omega), deepL]
    congr 2; omega
  have := key f.Kids 0 (fun k hk => hk) (by omega)
  rw [Nat.zero_max] at this
  exact this
theorem XG : ∀ (n : Nat) (f : Formula), pu f ≤ n → ur n f = some (Bd f) := by
 intro n
 induction n with
 | zero => intro f h; rw [nV] at h; omega
 | succ n ih =>
  intro f h
  rw [nV] at h
  have key : ∀ j : List Formula, (∀ k ∈ j, k ∈ f.Kids) → uM (ur n) j = some (wellL j) := by
   intro j
   induction j with
   | nil => intro _; rw [uM, wellL]
   | cons k j s =>
    intro hk
    rw [uM, ih k (by have := wX (hk k (by simp)); omega), aA, s (fun z u => hk z (by simp [u])), wellL]
    cases Bd k <;> rfl
  have hk := key f.Kids (fun k hk => hk)
  rw [ur]
  unfold zJ
  rw [hk, N0, AB]
  unfold HU
  simp only [aA]
  by_cases c1 : f.Op = 1
  ·simp only [c1, bY, bc]
   cases v : ml f.kw
   ·simp
   ·by_cases c : f.Kids.length = 0
    ·have e : f.Kids = [] := bR c
     by_cases q : f.K = 0 <;> simp [e, q, wellL]
    ·have : ((f.Kids.length : Int) == 0) = false := by rw [beq_eq_false_iff_ne]; omega
     simp [this, c]
  ·have t : (f.Op == 1) = false := by simpa using c1
   simp only [t, aB, aP, c1]
   by_cases i : f.Op = 2 ∨ f.Op = 3
   ·have m : ¬ f.Op < 1 := by omega
    have a2 : ¬ f.Op > 4 := by omega
    have a3 : f.Op < 4 := by omega
    have a4 : (f.Op == 4) = false := by rw [beq_eq_false_iff_ne]; omega
    simp only [m, a2, a3, a4, i, ft, eE, aB, aP, bc, aA]
    cases g : kN f.kw ⟨zS, zS⟩
    ·simp [Bf, g]
    ·by_cases c : f.Kids.length ≤ 8
     ·have d : ¬ ((f.Kids.length : Int) > 8) := by omega
      by_cases q : f.K = 0 <;> simp [Bf, g, c, d, q]
     ·have d : ((f.Kids.length : Int) > 8) := by omega
      simp [Bf, g, c, d]
   ·by_cases o : f.Op = 4
    ·have m : ¬ f.Op < 1 := by omega
     have a2 : ¬ f.Op > 4 := by omega
     have a3 : ¬ f.Op < 4 := by omega
     simp only [m, a2, a3, i, ft, aB, aP, aA]
     simp only [o, bY, bc, eE, ek]
     cases g : kN f.kw ⟨zS, zS⟩
     ·simp [Bf, g]
     ·by_cases c : f.Kids.length ≤ 8
      ·have d : ¬ ((f.Kids.length : Int) > 8) := by omega
       by_cases d1 : 1 ≤ f.Kids.length
       ·have g1 : ¬ ((f.Kids.length : Int) < 1) := by omega
        by_cases d2 : 0 ≤ f.K
        ·have g2 : ¬ f.K < 0 := by omega
         by_cases d3 : f.K ≤ (f.Kids.length : Int)
         ·have g3 : ¬ f.K > (f.Kids.length : Int) := by omega
          simp [Bf, g, c, d, d1, g1, d2, g2, d3, g3]
         ·have g3 : f.K > (f.Kids.length : Int) := by omega
          simp [Bf, g, c, d, d1, g1, d2, g2, d3, g3]
        ·have g2 : f.K < 0 := by omega
         simp [Bf, g, c, d, d1, g1, d2, g2]
       ·have g1 : ((f.Kids.length : Int) < 1) := by omega
        simp [Bf, g, c, d, d1, g1]
      ·have d : ((f.Kids.length : Int) > 8) := by omega
       simp [Bf, g, c, d]
    ·have a : f.Op < 1 ∨ f.Op > 4 := by omega
     rcases a with a | a
     ·simp [a, i, o]
     ·have : ¬ f.Op < 1 := by omega
      simp [a, this, i, o]
theorem Oh (f : Formula) (h : Gd f) : xU f = some (uZ f) := by
 have c := xz f
 have a := h
 unfold Gd at a
 unfold xU uZ
 rw [Xk lC f (by rw [tM]; omega) h, Yl lC f (by rw [tM]; omega) h, XG lC f (by rw [tM]; omega)]
 simp only [aA]
 by_cases c1 : mz f ≤ 64
 ·have d1 : ((mz f : Int) ≤ 64) := by omega
  by_cases c2 : pu f ≤ 6
  ·have d2 : ((pu f : Int) ≤ 6) := by omega
   simp [c1, c2, d1, d2]
  ·have d2 : ¬ ((pu f : Int) ≤ 6) := by omega
   simp [c1, c2, d1, d2]
 ·have d1 : ¬ ((mz f : Int) ≤ 64) := by omega
  simp [c1, d1]
theorem WJ (l : List kw) (r : kw) : zP l r = some (nK kN l r) := by
 unfold zP
 induction l with
 | nil => rfl
 | cons x l ih =>
  rw [zj, ih]
  have e : nK kN (x :: l) r = (kN r x || nK kN l r) := rfl
  have a : kN x r = kN r x := by rw [bF, kP, kP]; exact kh
  rw [e, a]
  cases kN r x <;> rfl
theorem IH (l : List kw) (rec : Formula → List kw → Option Bool) (f : Formula) (v : kw → Bool) : ∀ (a : List Formula) (x : Nat), (∀ k ∈ a, rec k l = some (Bj v k)) → x + a.length ≤ 100000000 →
  sD rec l f a (x : Int) = some (if f.Op = 2 then decide (x + evN v a = f.Kids.length) else if f.Op = 3 then decide (0 < x + evN v a) else decide (f.K ≤ ((x + evN v a : Nat) : Int)))
 | [], x, _, _ => by
  rw [sD, evN, jV]
  by_cases c2 : f.Op = 2
  ·simp only [c2, bY, bc]
   congr 1
   rw [bF, gj, bV]; omega
  ·have d : (f.Op == 2) = false := by simpa using c2
   simp only [d, aB, aP, c2]
   by_cases c : f.Op = 3
   ·simp only [c, bY, bc]
    congr 1
    rw [bF, bV, bV]; omega
   ·have i : (f.Op == 3) = false := by simpa using c
    simp only [i, aB, aP, c]
    first | done | rfl
 | k :: a, x, h, j => by
  rw [aJ] at j
  rw [sD, h k (by simp), aA, evN]
  cases Bj v k
  ·simp only [aB, aP]
   rw [IH l rec f v a x (fun z g => h z (by simp [g])) (by omega), df]
  ·simp only [bc]
   have e : wi0 .i64 ((x : Int) + 1) = ((x + 1 : Nat) : Int) := by rw [lQ (by omega) (by omega)]; omega
   rw [e, IH l rec f v a (x + 1) (fun z g => h z (by simp [g])) (by omega)]
   have d : x + 1 + evN v a = x + (1 + evN v a) := by omega
   rw [d]
theorem Ui (l : List kw) : ∀ (n : Nat) (f : Formula), pu f ≤ n → Gd f → sd n f l = some (Bj (nK kN l) f) := by
 intro n
 induction n with
 | zero => intro f h; rw [nV] at h; omega
 | succ n ih =>
  intro f c d
  rw [nV] at c
  have g := sR f
  have i := GO f.Kids
  unfold Gd at d
  rw [sd]
  unfold zL
  rw [Hw, WJ]
  by_cases c1 : f.Op = 1
  ·simp only [c1, bY, bc, aA]
  ·have a : (f.Op == 1) = false := by simpa using c1
   simp only [a, aB, aP, c1]
   have := IH l (sd n) f (nK kN l) f.Kids 0 (fun k hk => ih k (by have := wX hk; omega) (by have := xC hk; unfold Gd; omega)) (by omega)
   simpa using this
theorem SL (F : List kB) (w : ByteArray) : nK kN (Jw F w) = vF F w := by
 funext r
 unfold vF Jw
 rw [bF, nn kP, nn mH, bH]
 constructor
 ·rintro ⟨f, c, rfl⟩
  obtain ⟨h1, a⟩ := cT.1 c
  have := mM.1 a
  rw [← this]; exact h1
 ·intro h
  exact ⟨⟨r, w⟩, cT.2 ⟨h, mM.2 rfl⟩, rfl⟩
theorem Ua {l : List ky} {F : List kB} (h : Wr l F) (peer : ByteArray) : vF F peer = vD l peer := by
 funext r
 rw [bF, WX]
 unfold vF
 rw [nn mH, (h.zG (l.filter mf) (fun c => by rw [cT])).2]
mutual
def B3 : Formula → Nat
 | ⟨_, _, r, ks⟩ => 1 + r.kE.size + r.kT.size + szFL ks
def szFL : List Formula → Nat
 | [] => 0
 | k :: ks => B3 k + szFL ks
end
theorem NY (f : Formula) : B3 f = 1 + f.kw.kE.size + f.kw.kT.size + szFL f.Kids := by cases f; rw [B3]
theorem Ep : ∀ f : Formula, mz f ≤ B3 f := by
 refine Qc fun f ih => ?_
 have : ∀ a : List Formula, (∀ k ∈ a, mz k ≤ B3 k) → nodesL a ≤ szFL a := by
  intro a
  induction a with
  | nil => intro _; rw [nodesL]; omega
  | cons k a c =>
   intro h
   have := c (fun x d => h x (by simp [d]))
   have := h k (by simp)
   rw [nodesL, szFL]; omega
 have := this f.Kids ih
 rw [sR, NY]; omega
def xp : List ky → Nat
 | [] => 0
 | c :: l => 20 + An c + xp l
theorem g5 : ∀ (l : List ky) (n : Int), 0 ≤ n → n + (xp l : Int) ≤ 4000000000000000000 → tk l n = some (n + (xp l : Int))
 | [], n, _, _ => by rw [tk, xp]; simp
 | c :: l, n, d, a => by
  have e : An c = c.Head.kE.size + c.Head.kT.size + c.lx.size + c.B.kE.size + c.B.kT.size + c.C.kE.size + c.C.kT.size + c.lU.size := rfl
  rw [xp] at a
  rw [tk]
  rw [lQ (x := 20 + (c.Head.kE.size : Int)) (by omega) (by omega), lQ (x := 20 + (c.Head.kE.size : Int) + (c.Head.kT.size : Int)) (by omega) (by omega), lQ (x := 20 + (c.Head.kE.size : Int) + (c.Head.kT.size : Int) + (c.lx.size : Int)) (by omega) (by omega), lQ (x := 20 + (c.Head.kE.size : Int) + (c.Head.kT.size : Int) + (c.lx.size : Int) + (c.B.kE.size : Int)) (by omega) (by omega), lQ (x := 20 + (c.Head.kE.size : Int) + (c.Head.kT.size : Int) + (c.lx.size : Int) + (c.B.kE.size : Int) + (c.B.kT.size : Int)) (by omega) (by omega), lQ (x := 20 + (c.Head.kE.size : Int) + (c.Head.kT.size : Int) + (c.lx.size : Int) + (c.B.kE.size : Int) + (c.B.kT.size : Int) + (c.C.kE.size : Int)) (by omega) (by omega), lQ (x := 20 + (c.Head.kE.size : Int) + (c.Head.kT.size : Int) + (c.lx.size : Int) + (c.B.kE.size : Int) + (c.B.kT.size : Int) + (c.C.kE.size : Int) + (c.C.kT.size : Int)) (by omega) (by omega), lQ (x := 20 + (c.Head.kE.size : Int) + (c.Head.kT.size : Int) + (c.lx.size : Int) + (c.B.kE.size : Int) + (c.B.kT.size : Int) + (c.C.kE.size : Int) + (c.C.kT.size : Int) + (c.lU.size : Int)) (by omega) (by omega), lQ (by omega) (by omega)]
  rw [g5 l _ (by omega) (by omega), xp]
  congr 1; omega
theorem Zh : ∀ (n : Nat) (l : List Formula), deepL l < n → szFL l ≤ 1000000000000 → ∃ r : Int, nU n l = some r ∧ 0 ≤ r ∧ r ≤ (szFL l : Int) := by
 intro n
 induction n with
 | zero => intro l h; omega
 | succ n ih =>
  intro l h g
  rw [nU]
  unfold wF
  have key : ∀ (l : List Formula) (x : Int), deepL l < n + 1 → 0 ≤ x → x + (szFL l : Int) ≤ 1000000000000 → ∃ r : Int, qf (nU n) l x = some r ∧ 0 ≤ r ∧ r ≤ x + (szFL l : Int) := by
   intro l
   induction l with
   | nil => intro x _ i _; exact ⟨x, by rw [qf], i, by rw [szFL]; simp⟩
   | cons k l c =>
    intro x h i g
    rw [deepL] at h
    rw [szFL] at g
    have hk := NY k
    have := nV k
    obtain ⟨r, e, h1, j⟩ := ih k.Kids (by omega) (by omega)
    rw [qf, e, aA]
    have q : 0 ≤ Int.tdiv ((k.kw.kE.size : Int) + (k.kw.kT.size : Int)) 16 ∧ Int.tdiv ((k.kw.kE.size : Int) + (k.kw.kT.size : Int)) 16 ≤ (k.kw.kE.size : Int) + (k.kw.kT.size : Int) := by
     rw [Int.tdiv_eq_ediv_of_nonneg (by omega)]
     omega
    rw [lQ (x := (k.kw.kE.size : Int) + (k.kw.kT.size : Int)) (by omega) (by omega)]
    generalize Int.tdiv ((k.kw.kE.size : Int) + (k.kw.kT.size : Int)) 16 = d at *
    rw [lQ (x := d) (by omega) (by omega), lQ (x := 1 + d) (by omega) (by omega), lQ (x := 1 + d + r) (by omega) (by omega), lQ (x := x + (1 + d + r)) (by omega) (by omega)]
    obtain ⟨o, e', a, m⟩ := c (x + (1 + d + r)) (by omega) (by omega) (by omega)
    exact ⟨o, e', a, by rw [szFL]; omega⟩
  obtain ⟨r, e, h1, j⟩ := key l 0 h (by omega) (by omega)
  exact ⟨r, e, h1, by omega⟩
theorem Ph (f : Formula) (h : B3 f ≤ 50000000) : ∃ r : Int, nU lC [f] = some r ∧ 0 ≤ r ∧ r ≤ (B3 f : Int) := by
 have h1 := Ep f
 have c := xz f
 obtain ⟨r, e, a, b⟩ := Zh lC [f] (by rw [deepL, deepL, tM]; omega) (by rw [szFL, szFL]; omega)
 refine ⟨r, e, a, ?_⟩
 rw [szFL, szFL] at b; omega
theorem g6 (s : Signed) (h : An s.ky + s.Tag.length ≤ 1000000000) : Aq [] [s] = some (20 + (An s.ky : Int) + (s.Tag.length : Int)) := by
 unfold Aq
 rw [xP, vQ]
 have := g5 [s.ky] 0 (by omega) (by rw [xp, xp]; omega)
 rw [show ru [s.ky] = _ from this, aA, vQ, xp, xp]
 rw [lQ (x := 0 + ((20 + An s.ky + 0 : Nat) : Int) + (s.Tag.length : Int)) (by omega) (by omega), lQ (by omega) (by omega)]
 simp only [aA]
 congr 1; omega
def EJ : List nS → Nat
 | [] => 0
 | x :: l => 20 + An x.Signed.ky + x.Signed.Tag.length + 20 * B3 x.lo + EJ l
def Dl : List vd → Nat
 | [] => 0
 | a :: l => a.kw.kE.size + a.kw.kT.size + 20 * B3 a.lo + xp a.qv + Dl l
def M9 (p : lR) : Nat := p.Name.size + EJ p.nr + Dl p.oq
theorem SE : ∀ (l : List vd) (x : Int), 0 ≤ x → x + (Dl l : Int) ≤ 1000000000 → ∃ r : Int, tG l x = some r ∧ x ≤ r ∧ r ≤ x + (Dl l : Int)
 | [], x, _, _ => ⟨x, by rw [tG], by omega, by rw [Dl]; omega⟩
 | a :: l, x, i, h => by
  rw [Dl] at h
  obtain ⟨r, e, h1, j⟩ := Ph a.lo (by omega)
  have c := g5 a.qv 0 (by omega) (by omega)
  rw [tG, e, aA, show ru a.qv = _ from c, aA]
  rw [lQ (x := (a.kw.kE.size : Int) + (a.kw.kT.size : Int)) (by omega) (by omega), lQ (x := 20 * r) (by omega) (by omega), lQ (x := (a.kw.kE.size : Int) + (a.kw.kT.size : Int) + 20 * r) (by omega) (by omega), lQ (x := (a.kw.kE.size : Int) + (a.kw.kT.size : Int) + 20 * r + (0 + (xp a.qv : Int))) (by omega) (by omega), lQ (by omega) (by omega)]
  obtain ⟨d, e', g, a2⟩ := SE l (x + ((a.kw.kE.size : Int) + (a.kw.kT.size : Int) + 20 * r + (0 + (xp a.qv : Int)))) (by omega) (by omega)
  exact ⟨d, e', by omega, by rw [Dl]; omega⟩
theorem Y8 (p : lR) (d : M9 p ≤ 1000000000) : ∃ r : Int, Ap p = some r ∧ 20 * (p.nr.length : Int) ≤ r ∧ r ≤ (M9 p : Int) := by
 unfold M9 at d
 have key : ∀ (l : List nS) (x : Int), 0 ≤ x → x + (EJ l : Int) + (Dl p.oq : Int) ≤ 1000000000 → ∃ r : Int, tm p l x = some r ∧ x + 20 * (l.length : Int) ≤ r ∧ r ≤ x + (EJ l : Int) + (Dl p.oq : Int) := by
  intro l
  induction l with
  | nil =>
   intro x c h
   rw [EJ] at h
   obtain ⟨r, e, a, b⟩ := SE p.oq x c (by omega)
   exact ⟨r, by rw [tm, e]; rfl, by simp; omega, by rw [EJ]; omega⟩
  | cons y l ih =>
   intro x c h
   rw [EJ] at h
   obtain ⟨r, e, h1, i⟩ := Ph y.lo (by omega)
   rw [tm, g6 y.Signed (by omega)]
   simp only [aA]
   rw [e, aA]
   rw [lQ (x := 20 * r) (by omega) (by omega), lQ (x := 20 + (An y.Signed.ky : Int) + (y.Signed.Tag.length : Int) + 20 * r) (by omega) (by omega), lQ (by omega) (by omega)]
   obtain ⟨g, e', a, b⟩ := ih (x + (20 + (An y.Signed.ky : Int) + (y.Signed.Tag.length : Int) + 20 * r)) (by omega) (by omega)
   exact ⟨g, e', by rw [aJ]; omega, by rw [EJ]; omega⟩
 obtain ⟨r, e, a, b⟩ := key p.nr (p.Name.size : Int) (by omega) (by omega)
 unfold Ap
 exact ⟨r, e, by omega, by unfold M9; omega⟩
theorem bb {α β γ : Type} (x : Option α) (f : α → Option β) (g : β → Option γ) : (x.bind fun a => (f a).bind g) = (x.bind f).bind g := by cases x <;> rfl
noncomputable def Y5 (p : N2) : Bool := (JS p.kE p.Client p.Formula).getD false
def V1 (l : List nS) (i : Int) : Prop := 0 ≤ i ∧ i < l.length
instance (l : List nS) (i : Int) : Decidable (V1 l i) := by unfold V1; infer_instance
def WM (l : List nS) (i : Int) : List nS := if V1 l i then l.eraseIdx i.toNat else l
def Uj (p : N2) (e i : Int) : N2 :=
 if e = 0 then ⟨⟨p.kE.Name, WM p.kE.nr i, p.kE.oq⟩, p.Client, p.Formula, p.V4, p.UC, p.PD, p.Ug, p.RC, p.Keys⟩
 else if e = 1 then ⟨p.kE, ⟨p.Client.Name, WM p.Client.nr i, p.Client.oq⟩, p.Formula, p.V4, p.UC, p.PD, p.Ug, p.RC, p.Keys⟩
 else p
noncomputable def shr (e : Int) : Nat → N2 → N2
 | 0, p => p
 | k + 1, p => shr e k (if Y5 (Uj p e k) then Uj p e k else p)
def xo : List kw → Nat
 | [] => 0
 | r :: l => 5 + r.kE.size + r.kT.size + xo l
theorem RH : ∀ (l : List kw) (x : Int), 0 ≤ x → x + (xo l : Int) ≤ 4000000000000000000 → tK l x = some (x + (xo l : Int))
 | [], x, _, _ => by rw [tK, xo]; simp
 | r :: l, x, a, h => by
  rw [xo] at h
  rw [tK, lQ (x := 5 + (r.kE.size : Int)) (by omega) (by omega), lQ (x := 5 + (r.kE.size : Int) + (r.kT.size : Int)) (by omega) (by omega), lQ (by omega) (by omega), RH l _ (by omega) (by omega), xo]
  congr 1; omega
theorem Rg (a b : List kw) : xo (a ++ b) = xo a + xo b := by
 induction a with
 | nil => simp [xo]
 | cons r a ih => rw [cE, xo, xo, ih]; omega
theorem II : ∀ l : List ky, 20 * l.length ≤ xp l
 | [] => by simp
 | c :: l => by have := II l; rw [xp, aJ]; omega
structure SQ (s : tH) : Prop where
 p : PG s.lR
 go : M9 s.lR ≤ 1000000000
 acc : xp s.lH ≤ 1000000000
 sh : xp s.Shown ≤ 1000000000
 wl : s.mA.length ≤ 10000000
 al : s.qz.length ≤ 10000000
 Yp : xo s.mA ≤ 1000000000
 ask : xo s.qz ≤ 1000000000
 peer : s.og.size ≤ 1000000000
theorem Yq (s : tH) (h : SQ s) : ∃ r : Int, Ak s = some r ∧ 20 * (s.lR.nr.length : Int) ≤ r ∧ 20 * (s.lH.length : Int) ≤ r := by
 have h1 := h.go
 have k := h.acc
 have m := h.sh
 have n := h.wl
 have o := h.al
 have q := h.Yp
 have t := h.ask
 have u := h.peer
 obtain ⟨a, c, i, j⟩ := Y8 s.lR h1
 have d := g5 s.lH 0 (by omega) (by omega)
 have g := g5 s.Shown 0 (by omega) (by omega)
 have c1 := II s.lH
 have c2 := II s.Shown
 unfold Ak
 rw [c, aA, show ru s.lH = _ from d, aA, show ru s.Shown = _ from g, aA]
 rw [mG (by simp; omega) (by simp; omega), aA, bU, mG (by omega) (by omega), aA]
 rw [lQ (x := a + (s.og.size : Int)) (by omega) (by omega), lQ (x := a + (s.og.size : Int) + (0 + (xp s.lH : Int))) (by omega) (by omega), lQ (by omega) (by omega)]
 rw [RH _ _ (by omega) (by rw [Rg]; omega)]
 exact ⟨_, rfl, by omega, by omega⟩
mutual
def Ca : Formula → List kw
 | ⟨o, k, r, ks⟩ => if o = 1 then [r] else BX ks
def BX : List Formula → List kw
 | [] => []
 | k :: ks => Ca k ++ BX ks
end
theorem Nv (f : Formula) : Ca f = if f.Op = 1 then [f.kw] else BX f.Kids := by cases f; rw [Ca]
theorem HL : ∀ f : Formula, (Ca f).length ≤ mz f := by
 refine Qc fun f ih => ?_
 have key : ∀ a : List Formula, (∀ k ∈ a, (Ca k).length ≤ mz k) → (BX a).length ≤ nodesL a := by
  intro a
  induction a with
  | nil => intro _; rw [BX]; simp
  | cons k a c =>
   intro h
   have h1 := h k (by simp)
   have g := c (fun x d => h x (by simp [d]))
   rw [BX, aH, nodesL]; omega
 have := key _ ih
 rw [Nv, sR]
 split
 ·simp
 ·omega
theorem RZ (rec : Formula → Option (List kw)) : ∀ (a : List Formula) (acc : List kw), (∀ k ∈ a, rec k = some (Ca k)) → acc.length + (BX a).length ≤ 100000000 → rN rec a acc = some (acc ++ BX a)
 | [], acc, _, _ => by rw [rN, BX, cu]
 | k :: a, acc, h, c => by
  rw [BX, aH] at c
  rw [rN, h k (by simp), aA, mG (by omega) (by omega), aA, RZ rec a _ (fun x d => h x (by simp [d])) (by rw [aH]; omega), BX, aT]
theorem VS : ∀ (n : Nat) (f : Formula), pu f ≤ n → mz f ≤ 10000000 → sc n f = some (Ca f) := by
 intro n
 induction n with
 | zero => intro f h; rw [nV] at h; omega
 | succ n ih =>
  intro f c g
  rw [nV] at c
  have d := sR f
  have hlen := HL f
  rw [sc]
  unfold xI
  rw [Nv] at *
  by_cases c1 : f.Op = 1
  ·simp only [c1, bY, bc]
  ·have a : (f.Op == 1) = false := by simpa using c1
   simp only [a, aB, aP, c1] at *
   rw [RZ _ f.Kids [] (fun k hk => ih k (by have := wX hk; omega) (by have := xC hk; omega)) (by simp; omega), bU]
theorem MZ (f : Formula) (h : mz f ≤ 10000000) : ∃ r, uH f = some r ∧ B5 (Ca f) r ∧ r.length ≤ mz f := by
 have h1 := HL f
 obtain ⟨r, e, a⟩ := YS (Ca f) (by omega)
 have := qg (uy _) a
 refine ⟨r, ?_, a, by omega⟩
 unfold uH
 have := xz f
 rw [VS lC f (by rw [tM]; omega) h, aA, e]; rfl
theorem Zi : uH (sa sY) = some [sY] := by
 obtain ⟨r, e, h, c⟩ := MZ (sa sY) (by decide +kernel)
 rw [e, qP.unique (uy _) h (⟨by simp, fun x => ⟨fun a => ⟨a, by obtain rfl := aO.1 a; decide +kernel⟩, fun a => a.1⟩⟩ : B5 (Ca (sa sY)) [sY])]
theorem Xx (l : List kw) (x : kw) : ∃ q, CR l x = some q ∧ (q = true ↔ x ∈ l) := by
 have key : ∀ (l : List kw) (i : Nat), ∃ q : Int, rc x l i = some q ∧ (q ≥ 0 ↔ x ∈ l) := by
  intro l
  induction l with
  | nil => intro i; exact ⟨-1, rfl, by simp⟩
  | cons y l ih =>
   intro i
   rw [rc]
   by_cases h : kN x y = true
   ·rw [aM h]; exact ⟨i, rfl, by rw [kP.1 h]; simp⟩
   ·rw [aK h]
    obtain ⟨q, e, a⟩ := ih (i + 1)
    refine ⟨q, e, a.trans ?_⟩
    have : x ≠ y := fun e => h (kP.2 e)
    simp [this]
 obtain ⟨q, e, a⟩ := key l 0
 unfold CR wZ yp
 rw [e]
 exact ⟨decide (q ≥ 0), rfl, by rw [bV, a]⟩
theorem Uo (l : List kw) {b : Bool} (a : b = true ↔ sY ∈ l) : oy (sa sY) l = some b := by
 have d : ∀ r, qh r l = some (nK kN l r) := fun r => by
  obtain ⟨q, e, c⟩ := Xx l r
  unfold qh
  rw [uN, e]
  congr 1
  rw [bF, c, nn kP]
 unfold oy
 rw [P3 (nK kN l) _ d (sa sY) (by unfold Gd; decide +kernel)]
 unfold Ac
 rw [M7, Pm]
 simp only [ek, aA]
 congr 1
 rw [bF, a, nn kP]
theorem Up : (wi0 .i64 (BitVec.ofInt (IntKind.bits .i64) (Int.fdiv (0 : Int) (2 ^ min (Int.toNat ((0 : Nat) : Int)) (IntKind.bits .i64))) &&& BitVec.ofInt (IntKind.bits .i64) 1).toNat) = 0 := by decide +kernel
theorem Uy : (wi0 .i64 (BitVec.ofInt (IntKind.bits .i64) (Int.fdiv (1 : Int) (2 ^ min (Int.toNat ((0 : Nat) : Int)) (IntKind.bits .i64))) &&& BitVec.ofInt (IntKind.bits .i64) 1).toNat) = 1 := by decide +kernel
theorem YQ : (wi0 .i64 (BitVec.ofInt (IntKind.bits .i64) ((1 : Nat) : Int) &&& ~~~ BitVec.ofInt (IntKind.bits .i64) (wi0 .i64 (1 * 2 ^ min (Int.toNat ((0 : Nat) : Int)) (IntKind.bits .i64)))).toNat) = 0 := by decide +kernel
theorem QS : nG (decide (0 ≤ ((0 : Nat) : Int))) = some () := by decide +kernel
theorem XW : rz [sY] 0 = some [] := by
 unfold rz
 rw [nW, QS, aA, Up, nW]
 rfl
theorem Uz : rz [sY] 1 = some [sY] := by
 unfold rz
 rw [nW, QS, aA, Uy]
 simp only [bY, bc]
 rw [mG (by simp) (by simp), aA, nW]
 rfl
theorem Xh : xu (sa sY) [sY] = some [1] := by
 have d : FA 1 false (wi0 .i64 (1 * 2 ^ min (Int.toNat (([sY] : List kw).length : Int)) (IntKind.bits .i64))) = some [false, false] := by
  rw [show (wi0 .i64 (1 * 2 ^ min (Int.toNat (([sY] : List kw).length : Int)) (IntKind.bits .i64))) = 2 by decide +kernel]
  unfold FA
  rw [aM (by decide)]; rfl
 have g : oy (sa sY) [] = some false := Uo [] (by simp)
 have s1 : oy (sa sY) [sY] = some true := Uo [sY] (by simp)
 unfold xu
 rw [show nG (decide (0 ≤ (([sY] : List kw).length : Int))) = some () by decide +kernel, aA, d, aA]
 rw [oZ, show ((0 : Nat) : Int) = 0 from rfl, XW, aA, g, aA, show mx [false, false] 0 = some false from rfl, aA]
 rw [pe]
 simp only [aB, aP]
 rw [QS, aA, show ((0 : Nat) : Int) = 0 from rfl]
 have a := Up
 rw [show ((0 : Nat) : Int) = 0 from rfl] at a
 rw [a]
 simp only [show ((0 : Int) == 1) = false from rfl, aB, aP, aA]
 rw [pe, aA, show mx (([false, false]).set (Int.toNat 0) false) 0 = some false from rfl]
 simp only [aA, aB, aP]
 rw [oZ, show ((0 + 1 : Nat) : Int) = 1 from rfl, Uz, aA, s1, aA, show mx (([false, false]).set (Int.toNat 0) false) 1 = some false from rfl, aA]
 rw [pe]
 simp only [aB, aP]
 rw [QS, aA, show ((0 + 1 : Nat) : Int) = 1 from rfl, Uy]
 simp only [bY, bc, aA]
 have c := YQ
 rw [show ((1 : Nat) : Int) = 1 from rfl] at c
 rw [c, show mx ((([false, false]).set (Int.toNat 0) false).set (Int.toNat 1) true) 0 = some false from rfl]
 simp only [aA]
 rw [pe, aA, show mx ((([false, false]).set (Int.toNat 0) false).set (Int.toNat 1) true) 1 = some true from rfl]
 simp only [aA, bc, cV]
 rw [mG (by simp) (by simp), aA, oZ]
 rfl
theorem WZ : sw (sa sY) = some ([[sY]], 0) := by
 have d : ∃ c, oS [sY] [sY] = some c ∧ c = 0 := by
  obtain ⟨q, e, h⟩ := vk sY sY
  have j : uY 1 1 = some 0 := by decide +kernel
  have k : nw sY sY = some 0 := by decide +kernel
  refine ⟨0, ?_, rfl⟩
  unfold oS
  rw [show (([sY] : List kw).length : Int) = 1 from rfl, j, aA]
  unfold nj
  rw [lF, aK (by decide +kernel), show mx [sY] ((0 : Nat) : Int) = some sY from rfl, aA]
  simp only
  rw [k, aA]
  simp only [dR, aB, aP]
  rw [lF]
  decide +kernel
 obtain ⟨c, i, rfl⟩ := d
 have m : EC (fun (x : (List kw × List kw)) => oS x.1 x.2) [[sY]] = some [[sY]] := by
  unfold EC
  rw [aM (by simp), Oj]
  ·simp [pQ]
  ·exact {
    is := fun x a y g => by obtain rfl := aO.1 a; obtain rfl := aO.1 g; exact ⟨_, i⟩
    irrefl := fun x a => by obtain rfl := aO.1 a; unfold uv; simp [i]
    trans := fun x a y g z n => by obtain rfl := aO.1 a; obtain rfl := aO.1 g; obtain rfl := aO.1 n; exact fun h _ => h
    total := fun x a y g _ _ => by obtain rfl := aO.1 a; obtain rfl := aO.1 g; rfl
    short := by simp }
 unfold sw
 rw [Gi (sa sY) (by decide +kernel), M7, aA]
 simp only [bM, aB, aP]
 rw [Zi, aA, aK (by decide), Xh, aA, pU, Uz, aA, mG (by simp) (by simp), aA, pU, aK (by decide), bU, m]
 rfl
theorem VY (f1 : kw → Option Bool) (h : f1 sY = some true) : yN (sa sY) f1 = some ([sY], true) := by
 unfold yN
 rw [WZ, aA]
 simp only [dR, aB, aP, aA]
 rw [uG]
 unfold ou ph
 rw [nk]
 unfold wR
 rw [h]
 simp only [aA, bM, aB, aP]
 rw [nk]
 rfl
open Classical in
noncomputable def pn (C : List ky) : List kB → List kV → Bool
 | _, [] => true
 | A, s :: B => decide (s.ky ∈ C) && Dz s A && pn C (A ++ [s.kB]) B
open Classical in
theorem BR (C : List ky) : ∀ (B : List kV) (A : List kB), pn C A B = true ↔ (∀ s ∈ B, s.ky ∈ C) ∧ nl A B
 | [], A => by simp [pn, nl]
 | s :: B, A => by
  rw [pn, aU, aU, BR C B, zu, bV]
  simp only [nl, aR, forall_eq_or_imp]
  exact ⟨fun ⟨⟨a, b⟩, c, d⟩ => ⟨⟨a, c⟩, b, d⟩, fun ⟨⟨a, c⟩, b, d⟩ => ⟨⟨a, b⟩, c, d⟩⟩
open Classical in
noncomputable def BA (C : List ky) (want : kB) (l : List kV) (ok : Bool) : Int := if ok = true then (if want ∈ mo l then 0 else 42) else 50
theorem Sk (l : List kV) (C : List ky) (want : kB) (q : l.length ≤ 100000000) : ∀ (B A : List kV), A ++ B = l → ∃ n : Int, tP C (mo l) want l B A.length = some (n, BA C want l (pn C (mo A) B)) ∧ tL C l want B A.length = some (n, BA C want l (pn C (mo A) B))
 | [], A, e => by
  refine ⟨l.length, ?_, ?_⟩
  ·rw [tP, UF]
   unfold BA pn
   by_cases h : want ∈ mo l <;> simp [h]
  ·rw [tL, Hm l (by omega)]
   obtain ⟨b, g, a⟩ := yF (l.map (·.kB)) want.kw want.lx
   simp only [aA]
   rw [g]
   unfold BA pn
   have c : b = true ↔ want ∈ mo l := a
   by_cases h : want ∈ mo l
   ·obtain rfl := c.2 h; simp [h]
   ·obtain rfl : b = false := by rw [← cv, c]; exact h
    simp [h]
 | s :: B, A, e => by
  have v : A.length ≤ 100000000 := by have := aV List.length e; simp at this; omega
  have o : A.length ≤ l.length := by have := aV List.length e; simp at this; omega
  obtain ⟨b, g, a⟩ := NS s.ky C
  have i : nK oI C s.ky = b := by rw [bF, a, nn xe]
  have u : (mo l).take (Int.toNat (A.length : Int)) = mo A := by rw [← e, qH]; have := FN (mo A) (mo (s :: B)); simpa [mo] using this
  have j : l.take (Int.toNat (A.length : Int)) = A := by rw [← e]; exact FN _ _
  rw [tP, tL, g, O3, i, wD (by omega) (by simp [mo]; omega), wD (by omega) (by omega), u, j, Hm A (by omega)]
  simp only [aA]
  rw [FQ, Mc _ _ (by simp; omega)]
  simp only [aA]
  rw [show A.map (·.kB) = mo A from rfl]
  by_cases d : s.ky ∈ C
  ·obtain rfl := a.2 d
   simp only [bM, aB, aP, aA]
   cases m : Dz s (mo A)
   ·refine ⟨A.length, ?_, ?_⟩ <;> simp [BA, pn, m]
   ·simp only [bM, aB, aP]
    obtain ⟨n, h1, k⟩ := Sk l C want q B (A ++ [s]) (by simpa using e)
    have t : pn C (mo A) (s :: B) = pn C (mo (A ++ [s])) B := by rw [pn, m, qH]; simp [d, mo]
    rw [t]
    simp only [aH, aJ, bW, df] at h1 k
    exact ⟨n, h1, k⟩
  ·obtain rfl : b = false := by rw [← cv, a]; exact d
   refine ⟨A.length, ?_, ?_⟩ <;> simp [BA, pn, d]
theorem MH (l : List kV) (C : List ky) (want : kB) (c : l.length ≤ 100000000) : ∃ n : Int, xX l C want = some (n, BA C want l (pn C [] l)) ∧ Cp l C want = some (n, BA C want l (pn C [] l)) := by
 obtain ⟨n, h1, a⟩ := Sk l C want c l [] rfl
 refine ⟨n, ?_, a⟩
 unfold xX
 rw [G8 l (by omega)]
 exact h1
theorem P4 (f : Formula) (l : List kw) (h : Gd f) : oy f l = some (Ac (nK kN l) f) := by
 have c : ∀ r, qh r l = some (nK kN l r) := fun r => by
  obtain ⟨q, e, a⟩ := Xx l r
  unfold qh
  rw [uN, e]
  congr 1
  rw [bF, a, nn kP]
 unfold oy
 rw [P3 (nK kN l) _ c f h, aA]
noncomputable def F4 (o : lZ) (C : List ky) (f : Formula) (peer : ByteArray) : Int :=
 if o.State ≠ 1 then 43 else if Ac (nK kN o.lP) f = false then 44 else if pn C [] o.lX = false then 50 else if (o.lP.all fun r => nK nq (mo o.lX) ⟨r, peer⟩) = true then 0 else 42
theorem O7 (o : lZ) (C : List ky) (peer : ByteArray) (d : o.lX.length ≤ 100000000) (hk : pn C [] o.lX = true) : ∀ l : List kw,
  uh o C peer l = some (if (l.all fun r => nK nq (mo o.lX) ⟨r, peer⟩) = true then 0 else 42) ∧ vL o peer l = some (if (l.all fun r => nK nq (mo o.lX) ⟨r, peer⟩) = true then 0 else 42)
 | [] => ⟨rfl, rfl⟩
 | r :: l => by
  obtain ⟨n, h1, _⟩ := MH o.lX C ⟨r, peer⟩ d
  obtain ⟨i1, i2⟩ := O7 o C peer d hk l
  rw [uh, vL, h1, hk, Hm o.lX (by omega)]
  obtain ⟨b, g, a⟩ := yF (o.lX.map (·.kB)) r peer
  simp only [aA]
  rw [g]
  have c : nK nq (mo o.lX) ⟨r, peer⟩ = b := by rw [bF, a, nn mH]; rfl
  rw [fA, c]
  by_cases h : (⟨r, peer⟩ : kB) ∈ mo o.lX
  ·obtain rfl : b = true := a.2 h
   simp only [BA, h, bc, dR, aB, aP, aA, bM, ek]
   exact ⟨i1, i2⟩
  ·obtain rfl : b = false := by rw [← cv]; exact fun i => h (a.1 i)
   simp [BA, h]
theorem E9 (o : lZ) (C : List ky) (f : Formula) (peer : ByteArray) (h : o.lX.length ≤ 100000000) (d : Gd f) (j : pu f ≤ lC) : oB o C f peer = some (F4 o C f peer) ∧ Ad o C f peer = some (F4 o C f peer) := by
 obtain ⟨n, h1, i⟩ := MH o.lX C ⟨⟨zS, zS⟩, zS⟩ h
 unfold oB Ad F4
 rw [P4 f o.lP d, Oh f d, Ui o.lP lC f j d, h1, i]
 by_cases c : o.State = 1
 ·have a : (o.State != 1) = false := by simp [c]
  rw [a, aK (show ¬ (o.State ≠ 1) by simp [c])]
  simp only [aB, aP, aA]
  unfold Ac
  cases uZ f
  ·simp
  ·cases Bj (nK kN o.lP) f
   ·simp
   ·simp only [Bool.and_self, bM, aB, aP, aA]
    cases hk : pn C [] o.lX
    ·simp [BA]
    ·obtain ⟨i1, i2⟩ := O7 o C peer h hk o.lP
     have g : (BA C ⟨⟨zS, zS⟩, zS⟩ o.lX true == 50) = false := by
      unfold BA
      simp only [bc]
      split <;> decide
     rw [g]
     simp only [aB, aP, bc, Bool.true_eq_false]
     exact ⟨i1, i2⟩
 ·have a : (o.State != 1) = true := by simp [c]
  rw [a, aM c]
  simp
def nE : List kw → Nat → List kw
 | [], _ => []
 | a :: l, b => if b % 2 = 1 then a :: nE l (b / 2) else nE l (b / 2)
theorem yG : ∀ (l : List kw) (b : Nat), (nE l b).Sublist l
 | [], b => .slnil
 | a :: l, b => by
  rw [nE]; split
  ·exact (yG l _).cons_cons a
  ·exact (yG l _).cons a
theorem Qm {S l : List kw} (h : S.Sublist l) : ∃ b, b < 2 ^ l.length ∧ nE l b = S := by
 induction h with
 | slnil => exact ⟨0, by decide, rfl⟩
 | @cons d g a h ih =>
  obtain ⟨b, h1, c⟩ := ih
  refine ⟨2 * b, by rw [aJ, ib]; omega, ?_⟩
  rw [nE, aK (by omega), show 2 * b / 2 = b by omega, c]
 | @cons_cons d g a h ih =>
  obtain ⟨b, h1, c⟩ := ih
  refine ⟨2 * b + 1, by rw [aJ, ib]; omega, ?_⟩
  rw [nE, aM (by omega), show (2 * b + 1) / 2 = b by omega, c]
theorem Hl : ∀ (l : List kw), l.Nodup → ∀ b c, b < 2 ^ l.length → c < 2 ^ l.length → nE l b = nE l c → b = c
 | [], _, b, c, i, j, _ => by simp at i j; omega
 | a :: l, d, b, c, i, j, h => by
  rw [cK] at d
  rw [aJ, ib] at i j
  rw [nE, nE] at h
  by_cases h1 : b % 2 = 1 <;> by_cases g : c % 2 = 1
  ·rw [aM h1, aM g] at h
   have := Hl l d.2 (b / 2) (c / 2) (by omega) (by omega) (List.cons.inj h).2
   omega
  ·rw [aM h1, aK g] at h
   exact absurd ((yG l (c / 2)).subset (by rw [← h]; simp)) d.1
  ·rw [aK h1, aM g] at h
   exact absurd ((yG l (b / 2)).subset (by rw [h]; simp)) d.1
  ·rw [aK h1, aK g] at h
   have := Hl l d.2 (b / 2) (c / 2) (by omega) (by omega) h
   omega
theorem GQ : ∀ (l : List kw) (b : Nat) (x : kw), x ∈ nE l b ↔ ∃ j, l[j]? = some x ∧ b.testBit j = true
 | [], b, x => by simp [nE]
 | a :: l, b, x => by
  have ih := GQ l (b / 2) x
  have g : (b % 2 = 1) ↔ b.testBit 0 = true := by rw [fS]; simp
  rw [nE]
  constructor
  ·intro h
   by_cases d : b % 2 = 1
   ·rw [aM d, aR] at h
    rcases h with rfl | h
    ·exact ⟨0, rfl, g.1 d⟩
    ·obtain ⟨j, h1, c⟩ := ih.1 h
     exact ⟨j + 1, h1, by rw [eH]; exact c⟩
   ·rw [aK d] at h
    obtain ⟨j, h1, c⟩ := ih.1 h
    exact ⟨j + 1, h1, by rw [eH]; exact c⟩
  ·rintro ⟨j, h1, c⟩
   cases j with
   | zero => rw [aM (g.2 c)]; simp at h1; rw [h1]; simp
   | succ j =>
    rw [eH] at c
    have := ih.2 ⟨j, h1, c⟩
    split
    ·exact dH _ this
    ·exact this
theorem G4 {l : List kw} {a : kw} (h : a ∉ l) : l.filter (fun x => !kN x a) = l := by
 rw [iR]
 intro x c
 have : kN x a = false := by rw [← cv, kP]; rintro rfl; exact h c
 rw [this]; rfl
theorem Im : ∀ (l : List kw) (i b k : Nat) (a : kw), l.Nodup → l[i]? = some a → (∀ j, k.testBit j = (b.testBit j && decide (i ≠ j))) → nE l k = (nE l b).filter (fun x => !kN x a)
 | [], i, b, k, a, _, h, _ => by simp at h
 | x :: l, 0, b, k, a, c, h, hk => by
  rw [cK] at c
  obtain rfl : x = a := by simpa using h
  have e : k / 2 = b / 2 := Nat.eq_of_testBit_eq fun j => by rw [← eH, ← eH, hk]; simp
  have d : ¬ k % 2 = 1 := by have := hk 0; rw [fS, fS] at this; simpa using this
  have o : x ∉ nE l (b / 2) := fun hm => c.1 ((yG l _).subset hm)
  rw [nE, aK d, e, nE]
  split
  ·rw [fi, kP.2 rfl]
   exact (G4 o).symm
  ·exact (G4 o).symm
 | x :: l, i + 1, b, k, a, c, h, hk => by
  rw [cK] at c
  have n : l[i]? = some a := by simpa using h
  have m : x ≠ a := fun e => c.1 (e ▸ iI n)
  have ih := Im l i (b / 2) (k / 2) a c.2 n (fun j => by rw [← eH, ← eH, hk]; simp)
  have d : (k % 2 = 1) ↔ (b % 2 = 1) := by have := hk 0; rw [fS, fS] at this; simpa using this
  rw [nE, nE, ih]
  by_cases g : b % 2 = 1
  ·rw [aM (d.2 g), aM g, fi]
   have : kN x a = false := by rw [← cv, kP]; exact m
   rw [this]; rfl
  ·rw [aK (fun h => g (d.1 h)), aK g]
theorem Mr {x : Nat} (h : x < 9223372036854775808) : wi0 .i64 (x : Int) = (x : Int) := lQ (by omega) (by omega)
theorem YW (x : Nat) (h : x < 4611686018427387904) : (wi0 .i64 (BitVec.ofInt (IntKind.bits .i64) (x : Int) &&& BitVec.ofInt (IntKind.bits .i64) 1).toNat) = ((x % 2 : Nat) : Int) := by
 have e : (BitVec.ofInt (IntKind.bits .i64) (x : Int) &&& BitVec.ofInt (IntKind.bits .i64) 1).toNat = x % 2 := by
  show (BitVec.ofInt 64 (x : Int) &&& BitVec.ofInt 64 ((1 : Nat) : Int)).toNat = x % 2
  rw [eu, eu, BitVec.toNat_and, fu, fu, fT (by omega), fT (by decide), Nat.and_one_is_mod]
 rw [e, Mr (by omega)]
theorem X2 (b i : Nat) (a : i ≤ 60) : Int.fdiv (b : Int) (2 ^ min (Int.toNat (i : Int)) (IntKind.bits .i64)) = ((b / 2 ^ i : Nat) : Int) := by
 have e : min (Int.toNat (i : Int)) (IntKind.bits .i64) = i := by simp only [IntKind.bits]; omega
 rw [e, show ((2 : Int) ^ i) = ((2 ^ i : Nat) : Int) by simp, Int.fdiv_eq_ediv_of_nonneg _ (aD _)]
 simp
theorem O8 (b i : Nat) (a : b < 4611686018427387904) (c : i ≤ 60) : ((wi0 .i64 (BitVec.ofInt (IntKind.bits .i64) (Int.fdiv (b : Int) (2 ^ min (Int.toNat (i : Int)) (IntKind.bits .i64))) &&& BitVec.ofInt (IntKind.bits .i64) 1).toNat) == 1) = b.testBit i := by
 rw [X2 b i c, YW _ (Nat.lt_of_le_of_lt (Nat.div_le_self _ _) a), ic]
 rw [bF]
 simp only [gj, bV]
 omega
theorem Qi (i : Nat) : nG (decide (0 ≤ ((i : Nat) : Int))) = some () := by simp [nG]
theorem Hf (b : Nat) (c : b < 4611686018427387904) : ∀ (l : List kw) (i : Nat) (acc : List kw), i + l.length ≤ 60 → acc.length + l.length ≤ 100000 → nW (b : Int) l i acc = some (acc ++ nE l (b / 2 ^ i))
 | [], i, acc, _, _ => by rw [nW]; simp [nE]
 | a :: l, i, acc, d, ha => by
  simp only [aJ] at d ha
  rw [nW, Qi, aA, O8 b i c (by omega), nE, ic]
  have e : b / 2 ^ i / 2 = b / 2 ^ (i + 1) := by rw [ib, Nat.div_div_eq_div_mul]
  rw [e]
  by_cases h : b / 2 ^ i % 2 = 1
  ·rw [aM (by simpa using h), aM h, mG (by simp; omega) (by simp; omega), aA, Hf b c l (i + 1) _ (by omega) (by simp; omega)]
   simp
  ·rw [aK (by simpa using h), aK h, Hf b c l (i + 1) acc (by omega) (by omega)]
theorem Lc (l : List kw) (b : Nat) (a : b < 4611686018427387904) (c : l.length ≤ 60) : rz l (b : Int) = some (nE l b) := by
 unfold rz
 rw [Hf b a l 0 [] (by omega) (by simp; omega)]
 simp
def Eu (b i : Nat) : Nat := (BitVec.ofNat 64 b &&& ~~~BitVec.ofNat 64 (2 ^ i)).toNat
theorem Pd (b i : Nat) (a : b < 2 ^ 62) (d : i < 62) (j : Nat) : (Eu b i).testBit j = (b.testBit j && decide (i ≠ j)) := by
 unfold Eu
 rw [BitVec.testBit_toNat, BitVec.getLsbD_and, BitVec.getLsbD_not, BitVec.getLsbD_ofNat, BitVec.getLsbD_ofNat, Nat.testBit_two_pow]
 by_cases c : j < 64
 ·simp [c]
 ·have : b.testBit j = false := Nat.testBit_lt_two_pow (cO a (ev (by decide) (by omega)))
  simp [this]
theorem Rx (b i : Nat) (a : b < 2 ^ 62) : Eu b i ≤ b := by
 unfold Eu
 rw [BitVec.toNat_and, fu, fT (by omega)]
 exact Nat.and_le_left
theorem VP (b i : Nat) (c : b < 2 ^ 62) (d : i < 62) (h : b.testBit i = true) : Eu b i < b := by
 have h1 := Rx b i c
 have a := Pd b i c d i
 have : Eu b i ≠ b := fun e => by rw [e, h] at a; simp at a
 omega
theorem YC (b i : Nat) (c : b < 2 ^ 62) (d : i < 62) : (wi0 .i64 (BitVec.ofInt (IntKind.bits .i64) (b : Int) &&& ~~~ BitVec.ofInt (IntKind.bits .i64) (wi0 .i64 (1 * 2 ^ min (Int.toNat (i : Int)) (IntKind.bits .i64)))).toNat) = (Eu b i : Int) := by
 have e : min (Int.toNat (i : Int)) (IntKind.bits .i64) = i := by simp only [IntKind.bits]; omega
 have g : 2 ^ i < 2 ^ 62 := Nat.pow_lt_pow_right (by decide) d
 rw [e, Int.one_mul, show ((2 : Int) ^ i) = ((2 ^ i : Nat) : Int) by simp, Mr (x := 2 ^ i) (by omega)]
 have a : (BitVec.ofInt (IntKind.bits .i64) (b : Int) &&& ~~~ BitVec.ofInt (IntKind.bits .i64) ((2 ^ i : Nat) : Int)).toNat = Eu b i := by
  show (BitVec.ofInt 64 (b : Int) &&& ~~~ BitVec.ofInt 64 ((2 ^ i : Nat) : Int)).toNat = Eu b i
  rw [eu, eu]; rfl
 rw [a, Mr (by have := Rx b i c; omega)]
def CV (G : Nat → Bool) (b : Nat) : List kw → Nat → Bool
 | [], _ => false
 | _ :: xs, i => (b.testBit i && G (Eu b i)) || CV G b xs (i + 1)
theorem P9 {α : Type} {l : List α} {k : Nat} {x : α} (h : l[k]? = some x) : mx l (k : Int) = some x := by
 unfold mx; rw [aM (by omega)]; simpa using h
theorem FW (G : Nat → Bool) (b : Nat) (g : Bool) (d : List Bool) (k : b < 2 ^ 60) (j : ∀ c, c < b → (d.set b g)[c]? = some (G c)) : ∀ (xs : List kw) (i : Nat) (acc : Bool), i + xs.length ≤ 60 → pe b d g xs i acc = some (acc || CV G b xs i)
 | [], i, acc, _ => by rw [pe]; simp [CV]
 | a :: xs, i, acc, m => by
  simp only [aJ] at m
  have h : b < 2 ^ 62 := cO k (by decide)
  rw [pe]
  cases acc
  ·simp only [aB, aP]
   rw [Qi, aA, O8 b i (by omega) (by omega), CV]
   cases n : b.testBit i
   ·simp only [aB, aP, aA]
    rw [FW G b g d k j xs (i + 1) false (by omega)]
    simp
   ·simp only [bc, aA]
    rw [YC b i h (by omega), show (Int.toNat (b : Int)) = b by simp, P9 (j _ (VP b i h (by omega) n))]
    simp only [aA]
    rw [FW G b g d k j xs (i + 1) _ (by omega)]
    simp
  ·simp only [bc, aA]
   rw [FW G b g d k j xs (i + 1) true (by omega)]
   simp
def DE (A : List kw) (G : Nat → Bool) (b : Nat) : Bool := G b && !CV G b A 0
theorem IY (A : List kw) (f : Formula) (G : Nat → Bool) (n : A.length ≤ 12) (k : ∀ b, b < 2 ^ 12 → oy f (nE A b) = some (G b)) : ∀ (es : List Bool) (i : Nat) (a : List Bool) (out : List Int), a.length = i + es.length → i + es.length ≤ 2 ^ 12 → out.length + es.length ≤ 100000 →
  (∀ c, c < i → a[c]? = some (G c)) → oZ A f es i a out = some (out ++ ((List.range' i es.length).filter (DE A G)).map (fun b : Nat => (b : Int)))
 | [], i, a, out, _, _, _, _ => by rw [oZ]; simp
 | e :: es, i, a, out, ha, s, t, q => by
  simp only [aJ] at ha s t
  rw [oZ, Lc A i (by omega) (by omega), aA, k i (by omega), aA]
  have h1 : ∃ y, a[i]? = some y := ⟨a[i], cj (by omega)⟩
  obtain ⟨y, u⟩ := h1
  rw [P9 u, aA]
  have j : ∀ c, c < i → (a.set i (G i))[c]? = some (G c) := fun c h => by rw [List.getElem?_set_ne (by omega)]; exact q c h
  rw [FW G i (G i) a (by omega) j A 0 false (by omega), aA, show (Int.toNat (i : Int)) = i by simp]
  have d : (a.set i (G i))[i]? = some (G i) := List.getElem?_set_self (by omega)
  rw [P9 d, aA]
  have g : ∀ c, c < i + 1 → (a.set i (G i))[c]? = some (G c) := fun c h => by
   rcases iU c i with m | m
   ·exact j c m
   ·obtain rfl : c = i := by omega
    exact d
  have o : (if G i = true then some (!(false || CV G i A 0)) else some false : Option Bool) = some (DE A G i) := by
   unfold DE
   cases G i <;> simp
  rw [o, aA, aJ, List.range'_succ, fi]
  cases DE A G i
  ·simp only [aB, aP]
   exact IY A f G n k es (i + 1) _ out (by simp; omega) (by omega) (by omega) g
  ·simp only [bc]
   rw [mG (by simp; omega) (by simp; omega), aA, IY A f G n k es (i + 1) _ _ (by simp; omega) (by omega) (by simp; omega) g]
   simp
theorem TE (A : List kw) (f : Formula) (G : Nat → Bool) (a : A.length ≤ 12) (g : ∀ b, b < 2 ^ 12 → oy f (nE A b) = some (G b)) : xu f A = some (((List.range (2 ^ A.length)).filter (DE A G)).map (fun b : Nat => (b : Int))) := by
 obtain ⟨N, d, hp⟩ : ∃ N, 2 ^ A.length = N ∧ N ≤ 4096 := ⟨_, rfl, ev (by decide) a⟩
 have e : min (Int.toNat (A.length : Int)) (IntKind.bits .i64) = A.length := by simp only [IntKind.bits]; omega
 unfold xu
 rw [Qi, aA, e, Int.one_mul, show ((2 : Int) ^ A.length) = (N : Int) by rw [← d]; simp, Mr (x := N) (by omega), d]
 unfold FA
 rw [aM ⟨by omega, by omega, by unfold maxLen; omega⟩, aA, IY A f G a g _ 0 _ [] (by simp) (by simp; omega) (by simp; omega) (fun c h => by omega)]
 simp [List.range_eq_range']
theorem Lz (G : Nat → Bool) (b : Nat) : ∀ (xs : List kw) (i : Nat), CV G b xs i = true ↔ ∃ j, i ≤ j ∧ j < i + xs.length ∧ b.testBit j = true ∧ G (Eu b j) = true
 | [], i => by simp [CV]; omega
 | a :: xs, i => by
  rw [CV, dW, aU, Lz G b xs (i + 1)]
  simp only [aJ]
  constructor
  ·rintro (⟨h1, d⟩ | ⟨j, h1, d, c⟩)
   ·exact ⟨i, by omega, by omega, h1, d⟩
   ·exact ⟨j, by omega, by omega, c⟩
  ·rintro ⟨j, h1, d, c⟩
   by_cases h : j = i
   ·subst h; exact .inl c
   ·exact .inr ⟨j, by omega, by omega, c⟩
def wr {α : Type} : Int ⊕ (α × List Int) → Int ⊕ (α × kZ)
 | .inl e => .inl e
 | .inr (v, l) => .inr (v, ⟨l, false⟩)
def nB {α β : Type} (x : Int ⊕ (α × List Int)) (f : α → List Int → Int ⊕ (β × List Int)) : Int ⊕ (β × List Int) :=
 match x with
 | .inl e => .inl e
 | .inr (v, l) => f v l
def sy (a : Int) : Nat → Int → List Int → Int ⊕ (Int × List Int)
 | i, n, [] => .inl (if i = 9 then 11 else 10)
 | i, n, c :: l => if i = 9 then .inl 11 else if c = 0 ∧ 0 < i then .inl 11 else
   if c < 128 then (if n + c % 128 * 128 ^ i > a then .inl 12 else .inr (n + c % 128 * 128 ^ i, l)) else sy a (i + 1) (n + c % 128 * 128 ^ i) l
def DT : Int := 9223372036854775807
def Gh (a : Int) (l : List Int) : Int ⊕ (List Int × List Int) :=
 nB (sy DT 0 0 l) fun n c => if n > a then .inl 12 else if n > (c.length : Int) then .inl 10 else .inr (c.take n.toNat, c.drop n.toNat)
def xO (l : List Int) : Int ⊕ (ByteArray × List Int) := nB (Gh 16 l) fun t a => if mZ (AT t) = true then .inr (AT t, a) else .inl 30
def uI (l : List Int) : Int ⊕ (kw × List Int) := nB (xO l) fun a c => nB (xO c) fun b d => .inr (⟨a, b⟩, d)
def Fa (k : Int) (h : kw) (l : List Int) : Int ⊕ (ky × List Int) :=
 if k = 1 then nB (xO l) fun w a => .inr (⟨k, h, w, zR, zR, zS⟩, a)
 else if k = 2 then nB (uI l) fun b a => .inr (⟨k, h, zS, b, zR, zS⟩, a)
 else if k = 3 then nB (uI l) fun b a => nB (xO a) fun w d => .inr (⟨k, h, zS, b, zR, w⟩, d)
 else nB (uI l) fun b a => nB (uI a) fun c d => .inr (⟨k, h, zS, b, c, zS⟩, d)
def FO (l : List Int) : Int ⊕ (ky × List Int) :=
 nB (sy DT 0 0 l) fun k a => if k < 1 ∨ 4 < k then .inl 11 else nB (uI a) fun h d => nB (Fa k h d) fun c g => if mf c = true then .inr (c, g) else .inl 11
theorem Bi (l : List Int) (e : Int) (he : e ≠ 0) : mX ⟨l, false⟩ e = some (.inl e) := by
 unfold mX; simp [he]
theorem Rw (l : List Int) (i : Int) (k : 0 ≤ i) : vr ⟨l, false⟩ i = some (match l with
  | [] => .inl (if i = 9 then 11 else 10)
  | c :: t => if i = 9 then .inl 11 else if c = 0 ∧ 0 < i then .inl 11 else .inr (c, ⟨t, false⟩)) := by
 unfold vr
 rw [Bi _ 11 (by decide), Bi _ 10 (by decide)]
 by_cases a : i = 9
 ·subst a; cases l <;> simp
 ·cases l with
  | nil => simp [a]
  | cons c t =>
   have h1 : ((c :: t).length : Int) ≠ 0 := by simp; omega
   have d : nG (decide (0 ≤ (1 : Int)) && decide ((1 : Int) ≤ ((c :: t).length : Int))) = some () := wD (by decide) (by simp; omega)
   have g : mx (c :: t) 0 = some c := sI [] c t 0 rfl
   simp only [gj, a, h1, aP, aA, d, g]
   have h : nG (decide (1 ≤ (t.length : Int) + 1)) = some () := by simp [nG]; omega
   by_cases j : c = 0 <;> by_cases hp : 0 < i <;> simp [j, hp, Bi, h]
theorem Yz (c : Int) (a : 0 ≤ c) (h1 : c < 256) : IntKind.u8.wrap (BitVec.ofInt (IntKind.bits .u8) c &&& BitVec.ofInt (IntKind.bits .u8) 127).toNat = c % 128 := by
 obtain ⟨k, rfl⟩ : ∃ k : Nat, c = k := ⟨c.toNat, by omega⟩
 have : ∀ k : Nat, k < 256 → IntKind.u8.wrap (BitVec.ofInt (IntKind.bits .u8) (k : Int) &&& BitVec.ofInt (IntKind.bits .u8) 127).toNat = (k : Int) % 128 := by decide +kernel
 exact this k (by omega)
theorem XJ (n m j : Nat) (c : n < 2 ^ j) (hm : m * 2 ^ j + n < 18446744073709551616) : (BitVec.ofInt 64 (n : Int) ||| BitVec.ofInt 64 ((m * 2 ^ j : Nat) : Int)).toNat = n + m * 2 ^ j := by
 have h1 : n < 2 ^ 64 := by omega
 have a : m * 2 ^ j < 2 ^ 64 := by omega
 rw [BitVec.toNat_or, eu, eu, fu, fu, fT h1, fT a, Nat.or_comm, ← Nat.shiftLeft_eq, ← Nat.shiftLeft_add_eq_or_of_lt c, jU]
theorem XY (n c : Int) (i : Nat) (t : i ≤ 8) (s : 0 ≤ n ∧ n < 128 ^ i) (h : 0 ≤ c ∧ c < 256) : wi0 .i64 (BitVec.ofInt (IntKind.bits .i64) n ||| BitVec.ofInt (IntKind.bits .i64) (wi0 .i64 (wi0 .i64 (IntKind.u8.wrap (BitVec.ofInt (IntKind.bits .u8) c &&& BitVec.ofInt (IntKind.bits .u8) 127).toNat) * 2 ^ min (Int.toNat (wi0 .i64 (7 * (i : Int)))) (IntKind.bits .i64)))).toNat = n + c % 128 * 128 ^ i := by
 rw [Yz c h.1 h.2, lQ (x := c % 128) (by omega) (by omega), lQ (x := 7 * (i : Int)) (by omega) (by omega)]
 have j : min (Int.toNat (7 * (i : Int))) (IntKind.bits .i64) = 7 * i := by simp only [IntKind.bits]; omega
 rw [j]
 obtain ⟨a, rfl⟩ : ∃ a : Nat, n = a := ⟨n.toNat, by omega⟩
 obtain ⟨b, o⟩ : ∃ b : Nat, c % 128 = b := ⟨(c % 128).toNat, by omega⟩
 rw [o]
 have q : b < 128 := by omega
 have g : (128 : Nat) ^ i = 2 ^ (7 * i) := by rw [Nat.pow_mul]
 have k : (128 : Int) ^ i = ((2 ^ (7 * i) : Nat) : Int) := by rw [← g]; simp
 have ha : a < 2 ^ (7 * i) := by rw [← g]; have := s.2; exact_mod_cast this
 have d : 2 ^ (7 * i) ≤ 2 ^ 56 := ev (by decide) (by omega)
 have hm : b * 2 ^ (7 * i) + a < 9223372036854775808 := by
  have : (b + 1) * 2 ^ (7 * i) ≤ 128 * 2 ^ 56 := fh (by omega) d
  rw [cA] at this; omega
 have m : ((b : Int) * 2 ^ (7 * i)) = ((b * 2 ^ (7 * i) : Nat) : Int) := by simp
 rw [m, lQ (x := ((b * 2 ^ (7 * i) : Nat) : Int)) (by omega) (by omega)]
 show wi0 .i64 ((BitVec.ofInt 64 (a : Int) ||| BitVec.ofInt 64 ((b * 2 ^ (7 * i) : Nat) : Int)).toNat : Int) = _
 rw [XJ a b (7 * i) ha (by omega), lQ (by omega) (by omega), k]
 simp
theorem Ro (n c : Int) (i : Nat) (a : 0 ≤ n ∧ n < 128 ^ i) : 0 ≤ n + c % 128 * 128 ^ i ∧ n + c % 128 * 128 ^ i < 128 ^ (i + 1) := by
 have h1 : 0 ≤ c % 128 ∧ c % 128 < 128 := ⟨by omega, by omega⟩
 have hp : (0 : Int) < 128 ^ i := Int.pow_pos (by decide)
 constructor
 ·have := Int.mul_nonneg h1.1 (Int.le_of_lt hp); omega
 ·rw [Int.pow_succ]
  have : c % 128 * 128 ^ i ≤ 127 * 128 ^ i := Int.mul_le_mul_of_nonneg_right (by omega) (Int.le_of_lt hp)
  omega
theorem Un (a : Int) : ∀ (l : List Int) (i : Nat) (n : Int) (k : Nat), B8 l → i ≤ 9 → 0 ≤ n ∧ n < 128 ^ i → l.length < k → nO a k n i l false = some (wr (sy a i n l))
 | [], i, n, k + 1, _, w, _, _ => by
  rw [nO, Rw _ _ (by omega)]
  by_cases g : i = 9 <;> simp [sy, wr, g] <;> omega
 | c :: l, i, n, k + 1, t, w, u, hk => by
  have v := t c (List.mem_cons_self ..)
  rw [nO, Rw _ _ (by omega)]
  unfold sy
  by_cases g : i = 9
  ·subst g; rfl
  ·have m : ¬ ((i : Int) = 9) := by omega
   have s := XY n c i (by omega) u v
   have hp := Ro n c i u
   have o : nG (decide (0 ≤ wi0 .i64 (7 * (i : Int)))) = some () := by rw [lQ (by omega) (by omega)]; simp [nG]; omega
   have q : wi0 .i64 ((i : Int) + 1) = ((i + 1 : Nat) : Int) := by rw [lQ (by omega) (by omega)]; simp
   simp only [g, m, aP, aA]
   by_cases j : c = 0 ∧ 0 < i
   ·have : c = 0 ∧ 0 < (i : Int) := ⟨j.1, by omega⟩
    rw [aM this, aM j]; rfl
   ·have : ¬ (c = 0 ∧ 0 < (i : Int)) := fun h => j ⟨h.1, by omega⟩
    rw [aK this, aK j]
    simp only [s, o, q, aA]
    by_cases d : c < 128
    ·simp only [d, eE, bc]
     by_cases hm : n + c % 128 * 128 ^ i > a
     ·simp only [hm, eE, bc, Bi _ 12 (by decide), aA, wr]
     ·simp only [hm, ft, aP, aB, aA, wr]
    ·simp only [d, ft, aP, aB]
     exact Un a l (i + 1) _ k (fun x y => t x (dH _ y)) (by omega) hp (by simp only [aJ] at hk; omega)
theorem B8.tail {c : Int} {l : List Int} (h : B8 (c :: l)) : B8 l := fun x a => h x (dH _ a)
theorem B8.drop {l : List Int} (h : B8 l) (n : Nat) : B8 (l.drop n) := fun x a => h x (List.mem_of_mem_drop a)
theorem B8.take {l : List Int} (h : B8 l) (n : Nat) : B8 (l.take n) := fun x a => h x (iM a)
def Dt {α : Type} (l : List Int) (x : Int ⊕ (α × List Int)) : Prop := ∀ v a, x = .inr (v, a) → ∃ k, a = l.drop k
theorem Dt.Fe {α β : Type} {l : List Int} {x : Int ⊕ (α × List Int)} {f : α → List Int → Int ⊕ (β × List Int)} (h : Dt l x) (c : ∀ v a, Dt a (f v a)) : Dt l (nB x f) := fun v a e => by
 cases x with
 | inl q => cases e
 | inr q =>
  obtain ⟨k, hk⟩ := h q.1 q.2 rfl
  obtain ⟨j, d⟩ := c q.1 q.2 v a e
  exact ⟨k + j, by rw [d, hk, List.drop_drop]⟩
theorem wI (a : Int) : ∀ (l : List Int) (i : Nat) (n : Int), Dt l (sy a i n l)
 | [], i, n => fun v d e => by cases e
 | c :: l, i, n => fun v d e => by
  unfold sy at e
  split at e
  ·cases e
  split at e
  ·cases e
  split at e
  ·split at e
   ·cases e
   ·cases e; exact ⟨1, rfl⟩
  ·obtain ⟨k, hk⟩ := wI a l (i + 1) _ v d e
   exact ⟨k + 1, by rw [hk, List.drop_succ_cons]⟩
theorem QT (a : Int) (l : List Int) : Dt l (Gh a l) := (wI _ _ _ _).Fe fun n c v d e => by
 split at e
 ·cases e
 split at e
 ·cases e
 ·cases e; exact ⟨_, rfl⟩
theorem zi (l : List Int) : Dt l (xO l) := (QT _ _).Fe fun t a v c e => by
 split at e
 ·cases e; exact ⟨0, rfl⟩
 ·cases e
theorem vl (l : List Int) : Dt l (uI l) := (zi _).Fe fun a c => (zi _).Fe fun b d v g e => by cases e; exact ⟨0, rfl⟩
theorem OI (k : Int) (h : kw) (l : List Int) : Dt l (Fa k h l) := by
 unfold Fa
 split
 ·exact (zi _).Fe fun a c v d e => by cases e; exact ⟨0, rfl⟩
 split
 ·exact (vl _).Fe fun a c v d e => by cases e; exact ⟨0, rfl⟩
 split
 ·exact (vl _).Fe fun a c => (zi _).Fe fun b g v d e => by cases e; exact ⟨0, rfl⟩
 ·exact (vl _).Fe fun a c => (vl _).Fe fun b g v d e => by cases e; exact ⟨0, rfl⟩
theorem QO (l : List Int) : Dt l (FO l) := (wI _ _ _ _).Fe fun k d => by
 split
 ·intro v a e; cases e
 ·exact (vl _).Fe fun h g => (OI _ _ _).Fe fun c i v j e => by
   split at e
   ·cases e; exact ⟨0, rfl⟩
   ·cases e
theorem Ta (l : List Int) (a : Int) (c : B8 l) (d : l.length ≤ 1000000) : ns ⟨l, false⟩ a = some (wr (sy a 0 0 l)) := by
 unfold ns vi
 simp only [aA, aB, aP]
 exact Un a l 0 0 lC c (by omega) (by decide) (by rw [pp]; omega)
theorem Ky (a : Int) : ∀ (l : List Int) (i : Nat) (n v : Int) (d : List Int), 0 ≤ n ∧ n < 128 ^ i → sy a i n l = .inr (v, d) → 0 ≤ v ∧ v ≤ a
 | [], i, n, v, d, _, e => by cases e
 | c :: l, i, n, v, d, g, e => by
  have hp := Ro n c i g
  unfold sy at e
  split at e
  ·cases e
  split at e
  ·cases e
  split at e
  ·split at e
   ·cases e
   ·cases e; exact ⟨hp.1, by omega⟩
  ·exact Ky a l (i + 1) _ v d hp e
theorem XP (l : List Int) (a : Int) (t : B8 l) (u : l.length ≤ 1000000) : vq ⟨l, false⟩ a = some (wr (Gh a l)) := by
 unfold vq vi
 simp only [aA, aB, aP]
 rw [Ta l _ t u]
 unfold Gh
 have g := wI DT l 0 0
 have d := Ky DT l 0 0
 have j : sy 9223372036854775807 0 0 l = sy DT 0 0 l := rfl
 rw [j]
 cases i : sy DT 0 0 l with
 | inl e => simp [wr, nB]
 | inr q =>
  obtain ⟨n, c⟩ := q
  obtain ⟨k, hk⟩ := g n c i
  have m := (d n c ⟨by decide, by decide⟩ i).1
  have v : c.length ≤ 1000000 := by rw [hk, dn]; omega
  simp only [aA, wr, nB]
  by_cases h1 : n > a
  ·simp only [h1, eE, bc, Bi _ 12 (by decide), aA, wr]
  ·by_cases h : n > (c.length : Int)
   ·simp only [h1, h, eE, ft, bc, aP, aB, Bi _ 10 (by decide), aA, wr]
   ·have o : nG (decide (0 ≤ n) && decide (n ≤ (c.length : Int))) = some () := wD m (by omega)
    have s : pG (c.take n.toNat) = some (c.take n.toNat) := M1 (by rw [cy]; omega)
    simp only [h1, h, o, s, ft, aP, aB, aA, wr]
theorem B8.part {α : Type} {l a : List Int} {x : Int ⊕ (α × List Int)} {v : α} (h : B8 l) (c : l.length ≤ 1000000) (hp : Dt l x) (e : x = .inr (v, a)) : B8 a ∧ a.length ≤ 1000000 := by
 obtain ⟨k, hk⟩ := hp v a e
 rw [hk]
 exact ⟨h.drop k, by rw [dn]; omega⟩
theorem JX (l : List Int) (a : B8 l) (c : l.length ≤ 1000000) : uk ⟨l, false⟩ = some (wr (xO l)) := by
 unfold uk xO
 rw [XP l _ a c]
 cases g : Gh 16 l with
 | inl e => rfl
 | inr q =>
  obtain ⟨t, h⟩ := q
  simp only [aA, wr, nB, O4, sF]
  cases d : mZ (AT t) <;> simp [wr, Bi]
theorem H0 (l : List Int) (c : B8 l) (d : l.length ≤ 1000000) : sv ⟨l, false⟩ = some (wr (uI l)) := by
 unfold sv uI
 rw [JX l c d]
 cases i : xO l with
 | inl e => rfl
 | inr q =>
  obtain ⟨a, g⟩ := q
  obtain ⟨h1, h⟩ := c.part d (zi l) i
  simp only [aA, wr, nB]
  rw [JX g h1 h]
  cases j : xO g with
  | inl e => rfl
  | inr q => obtain ⟨b, k⟩ := q; rfl
theorem X3 (l : List Int) (y : B8 l) (z : l.length ≤ 1000000) : Bh ⟨l, false⟩ = some (wr (FO l)) := by
 unfold Bh FO
 rw [Ta l _ y z]
 have G : sy 9223372036854775807 0 0 l = sy DT 0 0 l := rfl
 rw [G]
 cases L : sy DT 0 0 l with
 | inl e => rfl
 | inr q =>
  obtain ⟨k, v⟩ := q
  obtain ⟨h1, x⟩ := y.part z (wI DT l 0 0) L
  simp only [aA, wr, nB]
  by_cases hk : k < 1 ∨ 4 < k
  ·have s : (if decide (k < 1) = true then some true else some (decide (k > 4)) : Option Bool) = some true := by
    by_cases h : k < 1 <;> simp [h]; omega
   rw [s, aM hk]
   simp [Bi, wr]
  ·have s : (if decide (k < 1) = true then some true else some (decide (k > 4)) : Option Bool) = some false := by
    rw [aK (by simp; omega)]; simp; omega
   rw [s, aK hk]
   simp only [aA, aP, aB]
   rw [H0 v h1 x]
   cases J : uI v with
   | inl e => rfl
   | inr q =>
    obtain ⟨h, d⟩ := q
    obtain ⟨i, j⟩ := h1.part x (vl v) J
    simp only [aA, wr, nB]
    have I : ∀ {A : Type} (K : ky → List Int → Bool → Option A) (X : Int → Option A), True := fun _ _ => trivial
    have fin : ∀ (c : ky) (a : List Int), ((pD c).bind fun n => if (!n) = true then (mX ⟨a, false⟩ 11).bind fun o => match o with | .inl m => some (Sum.inl m) | .inr D => some (Sum.inr ((⟨0, ⟨zS, zS⟩, zS, ⟨zS, zS⟩, ⟨zS, zS⟩, zS⟩ : ky), (⟨a, false⟩ : kZ))) else some (Sum.inr (c, (⟨a, false⟩ : kZ)))) = some (wr (if mf c = true then .inr (c, a) else .inl 11)) := fun c a => by
     rw [pV]
     cases mf c <;> simp [Bi, wr]
    unfold Fa
    by_cases M : k = 1
    ·subst M
     simp only [bY, bc]
     rw [JX d i j]
     cases xO d with
     | inl e => rfl
     | inr q => obtain ⟨w, a⟩ := q; exact fin _ _
    ·by_cases k2 : k = 2
     ·subst k2
      simp only [Int.reduceBEq, Int.reduceEq, aP, bc, aB]
      rw [H0 d i j]
      cases uI d with
      | inl e => rfl
      | inr q => obtain ⟨w, a⟩ := q; exact fin _ _
     ·by_cases O : k = 3
      ·subst O
       simp only [Int.reduceBEq, Int.reduceEq, aP, bc, aB]
       rw [H0 d i j]
       cases g : uI d with
       | inl e => rfl
       | inr q =>
        obtain ⟨w, a⟩ := q
        obtain ⟨t, u⟩ := i.part j (vl d) g
        simp only [aA, wr, nB]
        rw [JX a t u]
        cases xO a with
        | inl e => rfl
        | inr q => obtain ⟨R, Q⟩ := q; exact fin _ _
      ·have P : k = 4 := by omega
       subst P
       simp only [Int.reduceBEq, Int.reduceEq, aP, bc, aB]
       rw [H0 d i j]
       cases g : uI d with
       | inl e => rfl
       | inr q =>
        obtain ⟨w, a⟩ := q
        obtain ⟨t, u⟩ := i.part j (vl d) g
        simp only [aA, wr, nB]
        rw [H0 a t u]
        cases uI a with
        | inl e => rfl
        | inr q => obtain ⟨R, Q⟩ := q; exact fin _ _
theorem BF (a k : Int) (l : List Int) (c : 0 ≤ k) (h1 : k < 128) (hm : k ≤ a) : sy a 0 0 (k :: l) = .inr (k, l) := by
 unfold sy
 have e : (0 : Int) + k % 128 * 128 ^ 0 = k := by simp; omega
 rw [e, aK (by decide), aK (by simp), aM h1, aK (by omega)]
theorem Te (a : Int) (t l : List Int) (h : t.length < 128) (hm : (t.length : Int) ≤ a) : Gh a ((t.length : Int) :: (t ++ l)) = .inr (t, l) := by
 unfold Gh
 rw [BF _ _ _ (by omega) (by omega) (by unfold DT; omega)]
 simp only [nB]
 rw [aK (by omega), aK (by simp; omega)]
 simp
theorem B7 {s : ByteArray} (h : mZ s = true) (l : List Int) : xO (tY s ++ l) = .inr (s, l) := by
 have h1 := nz h
 unfold xO tY
 rw [cE, ← nD, Te _ _ _ (by rw [nD]; omega) (by rw [nD]; omega)]
 simp only [nB, CT, h, bc]
theorem AK {r : kw} (h : ml r = true) (l : List Int) : uI (pv r ++ l) = .inr (r, l) := by
 simp only [ml, aU] at h
 unfold uI pv
 rw [aT, B7 h.1]
 simp only [nB]
 rw [B7 h.2]
theorem Sf {c : ky} (h : mf c = true) (l : List Int) : FO (qM c ++ l) = .inr (c, l) := by
 have a := nL h
 have i : 1 ≤ c.Kind ∧ c.Kind ≤ 4 := by rcases a with g | g | g | g <;> rw [g.1] <;> decide
 have d : Fa c.Kind c.Head (yD c ++ l) = .inr (c, l) := by
  obtain ⟨k, j, vw, b, c2, m⟩ := c
  unfold Fa yD
  rcases a with g | g | g | g
  ·obtain ⟨rfl, g1, rfl, rfl, rfl⟩ := g
   simp only [bc]
   rw [B7 g1]; rfl
  ·obtain ⟨rfl, g1, rfl, rfl, rfl⟩ := g
   simp only [Int.reduceEq, aP, bc]
   rw [AK g1]; rfl
  ·obtain ⟨rfl, g1, g2, g3, rfl, rfl⟩ := g
   simp only [Int.reduceEq, aP, bc]
   rw [aT, AK g1]
   simp only [nB]
   rw [B7 g2]
  ·obtain ⟨rfl, g1, g2, g3, rfl, rfl⟩ := g
   simp only [Int.reduceEq, aP, bc]
   rw [aT, AK g1]
   simp only [nB]
   rw [AK g2]
 unfold FO qM
 rw [cE, BF _ _ _ (by omega) (by omega) (by unfold DT; omega)]
 simp only [nB]
 rw [aK (by omega), aT, AK (zT h)]
 simp only [nB]
 rw [d]
 simp only [nB, h, bc]
theorem NP {l : List Int} (h : l.length ≤ 1000000) : qk l = some l := by
 unfold qk; rw [M1 h]; rfl
def xi {α : Type} (f : List Int → Int ⊕ (α × List Int)) : Nat → List Int → Int ⊕ (List α × List Int)
 | 0, l => .inr ([], l)
 | n + 1, l => nB (f l) fun x a => nB (xi f n a) fun xs c => .inr (x :: xs, c)
def CM (l : List Int) : Int ⊕ (kV × List Int) := nB (FO l) fun c a => nB (xO a) fun w d => .inr (⟨c, ⟨c.Head, w⟩⟩, d)
def KI (a : Int) (l : List Int) : Int ⊕ (List kV × List Int) := nB (sy a 0 0 l) fun n c => xi CM n.toNat c
def Nh (l : List Int) : Int ⊕ (lZ × List Int) := nB (sy 3 0 0 l) fun st c => nB (sy 99 0 0 c) fun e d => nB (sy 64 0 0 d) fun n g => nB (xi uI n.toNat g) fun j h => nB (KI 256 h) fun a i => .inr (⟨st, e, j, a⟩, i)
def EV {α : Type} (acc : List α) (x : Int ⊕ (List α × List Int)) : Int ⊕ (List α × List Int) := nB x fun xs l => .inr (acc ++ xs, l)
theorem KW {α : Type} (acc : List α) (f : List Int → Int ⊕ (α × List Int)) (n : Nat) (l a : List Int) (x : α) (h : f l = .inr (x, a)) : EV acc (xi f (n + 1) l) = EV (acc ++ [x]) (xi f n a) := by
 unfold EV
 rw [xi, h]
 simp only [nB]
 cases xi f n a <;> simp
theorem Iz {α : Type} (acc : List α) (f : List Int → Int ⊕ (α × List Int)) (n : Nat) (l : List Int) (e : Int) (h : f l = .inl e) : EV acc (xi f (n + 1) l) = .inl e := by
 unfold EV; rw [xi, h]; rfl
theorem NI {α : Type} (x : Int ⊕ (List α × List Int)) : EV [] x = x := by cases x <;> rfl
theorem Py (i : Nat) (h : i ≤ 1000000) : wi0 .i64 ((i : Int) + 1) = ((i + 1 : Nat) : Int) := by rw [lQ (by omega) (by omega)]; simp
theorem Ms (l : List Int) (a : Int) (c : B8 l) (d : l.length ≤ 1000000) : ns ⟨l, false⟩ a = some (wr (sy a 0 0 l)) := Ta l a c d
theorem LA (g : Int × kZ) : ∀ (k : Nat) (acc : List kV) (i : Nat) (l : List Int) (n : Nat), ((i + k : Nat) : Int) = g.1 → i + k ≤ 10000 → B8 l → l.length ≤ 1000000 → acc.length + k ≤ 100000 → k < n →
  rH g n acc i l false = some (wr (EV acc (xi CM k l)))
 | 0, acc, i, l, n + 1, u, _, _, _, _, _ => by
  rw [rH, aK (by simp; omega)]
  simp [xi, EV, nB, wr]
 | k + 1, acc, i, l, n + 1, u, hk, j, m, ha, v => by
  rw [rH, aM (by simp; omega), X3 l j m]
  cases a : FO l with
  | inl e => rw [Iz acc CM k l e (by unfold CM; rw [a]; rfl)]; rfl
  | inr q =>
   obtain ⟨c, d⟩ := q
   obtain ⟨h1, h⟩ := j.part m (QO l) a
   simp only [aA, wr]
   rw [JX d h1 h]
   cases hw : xO d with
   | inl e => rw [Iz acc CM k l e (by unfold CM; rw [a]; simp only [nB]; rw [hw])]; rfl
   | inr q =>
    obtain ⟨w, o⟩ := q
    obtain ⟨s, t⟩ := h1.part h (zi d) hw
    simp only [aA, wr]
    rw [mG (by simp; omega) (by simp; omega), aA, Py i (by omega)]
    rw [KW acc CM k l o (⟨c, ⟨c.Head, w⟩⟩ : kV) (by unfold CM; rw [a]; simp only [nB]; rw [hw])]
    exact LA g k _ (i + 1) o n (by omega) (by omega) s t (by simp; omega) (by omega)
theorem PO (a : Int) (l : List Int) {v : Int} {c : List Int} (h : sy a 0 0 l = .inr (v, c)) : 0 ≤ v ∧ v ≤ a := Ky a l 0 0 v c ⟨by decide, by decide⟩ h
theorem Xs (l : List Int) (a : Int) (c : B8 l) (d : l.length ≤ 1000000) (hm : a ≤ 10000) : As ⟨l, false⟩ a = some (wr (KI a l)) := by
 unfold As KI
 rw [Ms l a c d]
 cases g : sy a 0 0 l with
 | inl e => rfl
 | inr q =>
  obtain ⟨n, h⟩ := q
  obtain ⟨h1, i⟩ := c.part d (wI a l 0 0) g
  have j := PO a l g
  simp only [aA, wr]
  rw [show (0 : Int) = ((0 : Nat) : Int) from rfl, LA (n, ⟨h, false⟩) n.toNat [] 0 h lC (by show ((0 + n.toNat : Nat) : Int) = n; omega) (by omega) h1 i (by simp; omega) (by rw [pp]; omega), NI]
  rfl
theorem OU (d m a : Int × kZ) : ∀ (k : Nat) (acc : List kw) (i : Nat) (l : List Int) (n : Nat), ((i + k : Nat) : Int) = d.1 → i + k ≤ 10000 → B8 l → l.length ≤ 1000000 → acc.length + k ≤ 100000 → k < n →
  qe d m a n i acc l false = some (wr (nB (EV acc (xi uI k l)) fun x v => nB (KI 256 v) fun s w => .inr ((⟨m.1, a.1, x, s⟩ : lZ), w)))
 | 0, acc, i, l, n + 1, u, _, g, h, _, _ => by
  rw [qe, aK (by simp; omega), Xs l 256 g h (by decide)]
  simp only [xi, EV, nB, cu]
  cases KI 256 l with
  | inl e => rfl
  | inr q => rfl
 | k + 1, acc, i, l, n + 1, u, hk, g, h, ha, y => by
  rw [qe, aM (by simp; omega), H0 l g h]
  cases j : uI l with
  | inl e => rw [Iz acc uI k l e j]; rfl
  | inr q =>
   obtain ⟨c, o⟩ := q
   obtain ⟨h1, t⟩ := g.part h (vl l) j
   simp only [aA, wr]
   rw [mG (by simp; omega) (by simp; omega), aA, Py i (by omega), KW acc uI k l o c j]
   exact OU d m a k _ (i + 1) o n (by omega) (by omega) h1 t (by simp; omega) (by omega)
theorem YO (l : List Int) (i : B8 l) (j : l.length ≤ 1000000) : wP ⟨l, false⟩ = some (wr (Nh l)) := by
 unfold wP Nh
 rw [Ms l 3 i j]
 cases u : sy 3 0 0 l with
 | inl e => rfl
 | inr q =>
  obtain ⟨s, c⟩ := q
  obtain ⟨h1, d⟩ := i.part j (wI 3 l 0 0) u
  simp only [aA, wr, nB]
  rw [Ms c 99 h1 d]
  cases v : sy 99 0 0 c with
  | inl e => rfl
  | inr q =>
   obtain ⟨e, a⟩ := q
   obtain ⟨g, h⟩ := h1.part d (wI 99 c 0 0) v
   simp only [aA, wr, nB]
   rw [Ms a 64 g h]
   cases k : sy 64 0 0 a with
   | inl e => rfl
   | inr q =>
    obtain ⟨n, m⟩ := q
    obtain ⟨o, t⟩ := g.part h (wI 64 a 0 0) k
    have w := PO 64 a k
    simp only [aA, wr, nB]
    rw [show (0 : Int) = ((0 : Nat) : Int) from rfl, OU (n, ⟨m, false⟩) (s, ⟨c, false⟩) (e, ⟨a, false⟩) n.toNat [] 0 m lC (by show ((0 + n.toNat : Nat) : Int) = n; omega) (by omega) o t (by simp; omega) (by rw [pp]; omega), NI]
    rfl
abbrev zO : lZ := ⟨0, 0, [], []⟩
def Rj (l : List Int) : Int × lZ := match Nh l with
 | .inl e => (e, zO)
 | .inr (o, a) => (if a.length > 0 then 13 else 0, o)
theorem WK (l : List Int) (c : B8 l) (a : l.length ≤ 1000000) : xf l zO = some (Rj l) := by
 unfold xf yH Rj
 rw [M1 a, aA, YO l c a]
 cases Nh l with
 | inl e => rfl
 | inr q => obtain ⟨s, d⟩ := q; rfl
theorem Xa (l : List Int) (a : B8 l) (c : l.length ≤ 1000000) : wm l zO = some (Rj l) := WK l a c
end Go.Proofs.YtbnbdigcbldfhaaGreat
