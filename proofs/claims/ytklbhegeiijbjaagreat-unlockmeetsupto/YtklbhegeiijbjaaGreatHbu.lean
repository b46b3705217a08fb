/- a part of a proof of UnlockMeets -/
import Derived.Test.YtklbhegeiijbjaaGreatRtTu
import Derived.Test.YtklbhegeiijbjaaGreatUMMu
set_option linter.all false
namespace Go.Proofs.YtklbhegeiijbjaaGreat
open Go.IntKind renaming wrap → wi0
open Go.RowKit
theorem zT {c x : Bool} : (if c = true then some x else some false : Option Bool) = some (c && x) := by cases c <;> rfl
theorem RN {c x : Bool} : (if c = true then some true else some x : Option Bool) = some (c || x) := by cases c <;> rfl
theorem oY {α : Type} (x : Option α) : (x.bind fun y => some y) = x := by cases x <;> rfl
theorem lG {x : Int} (a : -9223372036854775808 ≤ x) (h1 : x ≤ 9223372036854775807) : wi0 .i64 x = x := IntWalk.i64_in _ (by omega)
theorem nI {α : Type} (A : List α) (x : α) (B : List α) (i : Int) (h : i = (A.length : Int)) : lN (A ++ x :: B) i = some x := by
 subst h; rw [Fa]; simp
theorem nt : kT = 18446744073709551615 + 1 := by rw [tW]
def Bv {α : Type} (f1 : α → Option Bool) (z : α) : Nat → List α → Int → Int → Option (List α)
 | 0, _, _, _ => none
 | n + 1, l, i, j => if decide (j < (l.length : Int)) then
   ((lN l j).bind fun x => (f1 x).bind fun r => if (!r) then (lN l i).bind fun _ => some (l.set (Int.toNat i) x, wi0 .i64 (i + 1)) else some (l, i) : Option (List α × Int)).bind fun (b, a) => Bv f1 z n b a (wi0 .i64 (j + 1))
  else (ot (decide (0 ≤ i) && decide (i ≤ (l.length : Int)))).bind fun _ => (ot (decide (0 ≤ i) && decide (i ≤ ((nD l (Int.toNat i) z).length : Int)))).bind fun _ => some ((nD l (Int.toNat i) z).take (Int.toNat i))
theorem yT {a b : Int} (c : 0 ≤ a) (h1 : a ≤ b) : ot (decide (0 ≤ a) && decide (a ≤ b)) = some () := by simp [ot, c, h1]
theorem JZ {α : Type} (f1 : α → Option Bool) (p : α → Bool) (z : α) : ∀ (rest out mid : List α) (n : Nat), rest.length < n → (out ++ mid ++ rest).length < 4611686018427387904 → mid ≠ [] → (∀ x ∈ rest, f1 x = some (p x)) →
  Bv f1 z n (out ++ mid ++ rest) (out.length : Int) ((out.length + mid.length : Nat) : Int) = some (out ++ rest.filter fun x => !p x)
 | [], out, mid, 0, h, _, _, _ => by simp at h
 | [], out, mid, n + 1, _, b, hm, _ => by
  rw [Bv, aU (by simp)]
  have h1 : out.length ≤ (out ++ mid ++ []).length := by simp
  rw [yT (by omega) (by omega)]
  simp only [aA]
  rw [yT (by omega) (by rw [uL _ _ _ (by simpa using h1)]; omega)]
  simp only [aA, dI]
  rw [FX _ _ _ h1]
  simp
 | x :: rest, out, mid, 0, h, _, _, _ => by simp at h
 | x :: rest, out, mid, n + 1, h, b, hm, c => by
  have hlen : (out ++ mid ++ x :: rest).length = out.length + mid.length + rest.length + 1 := by simp; omega
  rw [hlen] at b
  rw [Bv, aV (by rw [hlen]; simp; omega)]
  rw [nI (out ++ mid) x rest _ (by simp)]
  simp only [aA, c x (by simp)]
  rw [lG (x := ((out.length + mid.length : Nat) : Int) + 1) (by omega) (by omega)]
  have ih := JZ f1 p z rest
  cases hp : p x with
  | true =>
   simp only [bV, aB, aN, aA]
   have := ih out (mid ++ [x]) n (by simp at h; omega) (by simp; omega) (by simp) (fun y d => c y (by simp [d]))
   simp only [aK, bW, bJ, aC, aJ, bP] at this ⊢
   rw [show ((out.length + mid.length : Nat) : Int) + 1 = ((out.length + (mid.length + (0 + 1)) : Nat) : Int) by omega, this]
   simp [hp]
  | false =>
   obtain ⟨m, a, rfl⟩ : ∃ m a, mid = m :: a := by cases mid with
    | nil => exact absurd rfl hm
    | cons m a => exact ⟨m, a, rfl⟩
   simp only [cV, aZ]
   rw [aK out (m :: a) (x :: rest), bW]
   rw [nI out m (a ++ x :: rest) _ rfl]
   simp only [aA]
   rw [lG (x := (out.length : Int) + 1) (by omega) (by simp at b; omega)]
   have := ih (out ++ [x]) (a ++ [x]) n (by simp at h; omega) (by simp at b ⊢; omega) (by simp) (fun y d => c y (by simp [d]))
   simp only [aK, bW, bJ, aC, aJ, bP] at this
   have g : (out ++ m :: (a ++ x :: rest)).set (Int.toNat (out.length : Int)) x = out ++ x :: (a ++ x :: rest) := by
    rw [dI, List.set_append_right _ _ (aS _)]; simp
   rw [g]
   simp only [aJ] at b ⊢
   rw [show (out.length : Int) + 1 = ((out.length + (0 + 1) : Nat) : Int) by omega, show ((out.length + (a.length + 1) : Nat) : Int) + 1 = ((out.length + (0 + 1) + (a.length + (0 + 1)) : Nat) : Int) by omega, this]
   simp [hp]
def xg {α : Type} (f1 : α → Option Bool) : List α → Nat → Option Int
 | [], _ => some (-1)
 | x :: xs, i => (f1 x).bind fun r => if r then some (i : Int) else xg f1 xs (i + 1)
theorem Bt {α : Type} (f1 : α → Option Bool) (p : α → Bool) : ∀ (l : List α) (i : Nat), (∀ x ∈ l, f1 x = some (p x)) →
  (xg f1 l i = some (-1) ∧ ∀ x ∈ l, p x = false) ∨ ∃ A x B, l = A ++ x :: B ∧ (∀ y ∈ A, p y = false) ∧ p x = true ∧ xg f1 l i = some ((i + A.length : Nat) : Int)
 | [], i, _ => .inl ⟨rfl, by simp⟩
 | x :: l, i, h => by
  rw [xg, h x (by simp)]
  simp only [aA]
  cases hp : p x with
  | true => exact .inr ⟨[], x, l, rfl, by simp, hp, by simp⟩
  | false =>
   simp only [aB, aN]
   rcases Bt f1 p l (i + 1) (fun y a => h y (by simp [a])) with ⟨h1, b⟩ | ⟨A, y, B, rfl, h1, b, d⟩
   ·exact .inl ⟨h1, by intro y a; rcases aO.1 a with rfl | a; exact hp; exact b y a⟩
   ·refine .inr ⟨x :: A, y, B, rfl, ?_, b, ?_⟩
    ·intro z c; rcases aO.1 c with rfl | c
     ·exact hp
     ·exact h1 z c
    ·rw [d]; simp; omega
def EG {α : Type} (f1 : α → Option Bool) (z : α) (l : List α) : Option (List α) :=
 (xg f1 l 0).bind fun a => if (a == (-1)) then some l else Bv f1 z kT l a (wi0 .i64 (a + 1))
theorem F6 {α : Type} (f1 : α → Option Bool) (p : α → Bool) (z : α) (l : List α) (c : l.length < 4611686018427387904) (h : ∀ x ∈ l, f1 x = some (p x)) : EG f1 z l = some (l.filter fun x => !p x) := by
 unfold EG
 rcases Bt f1 p l 0 h with ⟨h1, b⟩ | ⟨A, x, B, rfl, h1, b, d⟩
 ·rw [h1]
  simp only [aA, bN, aZ]
  rw [List.filter_eq_self.2 (fun y a => by simp [b y a])]
 ·rw [d]
  simp only [aA, dZ]
  rw [aU (by simp), lG (by omega) (by simp at c; omega)]
  have := JZ f1 p z B A [x] kT (by rw [tW]; simp at c; omega) (by simpa using c) (by simp) (fun y a => h y (by simp [a]))
  simp only [aK, bW, bJ, aJ, bP] at this
  rw [show (A.length : Int) + 1 = ((A.length + (0 + 1) : Nat) : Int) by omega, this]
  have g : A.filter (fun x => !p x) = A := List.filter_eq_self.2 (fun y a => by simp [h1 y a])
  rw [List.filter_append, g]
  simp [b]
def pF {α : Type} (eq : α → α → Bool) : α → List α → List α
 | _, [] => []
 | p, y :: ys => if eq y p then pF eq y ys else y :: pF eq y ys
def dd {α : Type} (eq : α → α → Bool) : List α → List α
 | [] => []
 | x :: xs => x :: pF eq x xs
def yI {α : Type} (eq : α → α → Bool) (i : Int) : Nat → List α → Int → Int → Option (List α × Int)
 | 0, _, _, _ => none
 | n + 1, l, k, j => if decide (j < ((l.length - Int.toNat i : Nat) : Int)) then
   ((lN (l.drop (Int.toNat i)) j).bind fun x => (lN (l.drop (Int.toNat i)) (wi0 .i64 (j - 1))).bind fun y => if !(eq x y) then (lN (l.drop (Int.toNat i)) j).bind fun z => (lN l k).bind fun _ => some (l.set (Int.toNat k) z, wi0 .i64 (k + 1)) else some (l, k) : Option (List α × Int)).bind fun (a, k') => yI eq i n a k' (wi0 .i64 (j + 1))
  else some (l, k)
def yV {α : Type} (eq : α → α → Bool) (z : α) (l : List α) : Nat → Int → Option (List α)
 | 0, _ => none
 | n + 1, i => if decide (i < (l.length : Int)) then (lN l i).bind fun x => (lN l (wi0 .i64 (i - 1))).bind fun y => if eq x y then
    (ot (decide (0 ≤ i) && decide (i ≤ (l.length : Int)))).bind fun _ => (yI eq i kT l i 1).bind fun (a, k) => (ot (decide (0 ≤ k) && decide (k ≤ (a.length : Int)))).bind fun _ => (ot (decide (0 ≤ k) && decide (k ≤ ((nD a (Int.toNat k) z).length : Int)))).bind fun _ => some ((nD a (Int.toNat k) z).take (Int.toNat k))
   else yV eq z l n (wi0 .i64 (i + 1))
  else some l
def DD {α : Type} (eq : α → α → Bool) (z : α) (l : List α) : Option (List α) := if decide ((l.length : Int) < 2) then some l else yV eq z l kT 1
theorem Jg {α : Type} (l : List α) (i : Nat) (j : Int) (a : 0 ≤ j) : lN (l.drop i) j = lN l ((i : Int) + j) := by
 obtain ⟨m, rfl⟩ : ∃ m : Nat, j = m := ⟨j.toNat, by omega⟩
 rw [show (i : Int) + (m : Int) = ((i + m : Nat) : Int) by omega, Fa, Fa, dK]
theorem Gx {α : Type} (eq : α → α → Bool) (i : Nat) : ∀ (rest out mid : List α) (p : α) (n : Nat), rest.length < n → (out ++ (mid ++ [p]) ++ rest).length < 4611686018427387904 → 1 ≤ i → i ≤ out.length →
  ∃ b, yI eq (i : Int) n (out ++ (mid ++ [p]) ++ rest) (out.length : Int) ((out.length + mid.length + 1 - i : Nat) : Int) = some (b, ((out ++ pF eq p rest).length : Int)) ∧ b.take (out ++ pF eq p rest).length = out ++ pF eq p rest ∧ (out ++ pF eq p rest).length ≤ b.length
 | [], out, mid, p, 0, h, _, _, _ => by simp at h
 | [], out, mid, p, n + 1, h, k, h1, j => by
  rw [yI, aU (by simp; omega)]
  exact ⟨out ++ (mid ++ [p]) ++ [], by simp [pF], by simp [pF], by simp [pF]⟩
 | x :: rest, out, mid, p, 0, h, _, _, _ => by simp at h
 | x :: rest, out, mid, p, n + 1, h, k, h1, j => by
  have hlen : (out ++ (mid ++ [p]) ++ x :: rest).length = out.length + mid.length + rest.length + 2 := by simp; omega
  rw [hlen] at k
  rw [yI, aV (by rw [hlen]; simp; omega)]
  rw [dI, Jg _ _ _ (by omega), nI (out ++ (mid ++ [p])) x rest _ (by simp; omega)]
  simp only [aA]
  rw [lG (x := ((out.length + mid.length + 1 - i : Nat) : Int) - 1) (by omega) (by omega), Jg _ _ _ (by omega)]
  rw [show out ++ (mid ++ [p]) ++ x :: rest = (out ++ mid) ++ p :: (x :: rest) by simp]
  rw [nI (out ++ mid) p (x :: rest) _ (by simp; omega)]
  simp only [aA]
  rw [lG (x := ((out.length + mid.length + 1 - i : Nat) : Int) + 1) (by omega) (by omega)]
  cases hp : eq x p with
  | true =>
   simp only [bV, aB, aN, aA]
   obtain ⟨b, c, d, g⟩ := Gx eq i rest out (mid ++ [p]) x n (by simp at h; omega) (by simp; omega) h1 j
   refine ⟨b, ?_, by rw [pF, hp]; exact d, by rw [pF, hp]; exact g⟩
   rw [pF, hp, aV rfl, ← c]
   congr 1
   ·simp
   ·simp; omega
  | false =>
   simp only [cV, aZ]
   obtain ⟨m, a, hm⟩ : ∃ m a, mid ++ [p] = m :: a := by cases mid with
    | nil => exact ⟨p, [], rfl⟩
    | cons m a => exact ⟨m, a ++ [p], rfl⟩
   have o : a.length = mid.length := by have := aR List.length hm; simp at this; omega
   rw [show (out ++ mid) ++ p :: (x :: rest) = out ++ m :: (a ++ x :: rest) by rw [← bW, ← hm]; simp]
   rw [nI out m (a ++ x :: rest) _ rfl]
   simp only [aA]
   rw [lG (x := (out.length : Int) + 1) (by omega) (by omega)]
   have q : (out ++ m :: (a ++ x :: rest)).set (Int.toNat (out.length : Int)) x = (out ++ [x]) ++ (a ++ [x]) ++ rest := by
    rw [dI, List.set_append_right _ _ (aS _)]; simp
   rw [q]
   obtain ⟨b, c, d, g⟩ := Gx eq i rest (out ++ [x]) a x n (by simp at h; omega) (by simp; omega) h1 (by simp; omega)
   refine ⟨b, ?_, ?_, ?_⟩
   ·rw [pF, hp, aU (by decide)]
    have l : ((out ++ x :: pF eq x rest).length : Int) = ((out ++ [x] ++ pF eq x rest).length : Int) := by simp
    rw [l, ← c]
    congr 1
    ·simp
    ·simp; omega
   ·rw [pF, hp, aU (by decide)]; simpa using d
   ·rw [pF, hp, aU (by decide)]; simpa using g
theorem Km {α : Type} (eq : α → α → Bool) (z : α) : ∀ (rest pre : List α) (p : α) (n : Nat), rest.length < n → (pre ++ p :: rest).length < 4611686018427387904 →
  yV eq z (pre ++ p :: rest) n ((pre.length + 1 : Nat) : Int) = some (pre ++ p :: pF eq p rest)
 | [], pre, p, 0, h, _ => by simp at h
 | [], pre, p, n + 1, h, g => by rw [yV, aU (by simp)]; simp [pF]
 | x :: rest, pre, p, 0, h, _ => by simp at h
 | x :: rest, pre, p, n + 1, h, g => by
  have hlen : (pre ++ p :: x :: rest).length = pre.length + rest.length + 2 := by simp; omega
  rw [hlen] at g
  rw [yV, aV (by rw [hlen]; simp; omega)]
  rw [show pre ++ p :: x :: rest = (pre ++ [p]) ++ x :: rest by simp, nI (pre ++ [p]) x rest _ (by simp)]
  simp only [aA]
  rw [lG (x := ((pre.length + 1 : Nat) : Int) - 1) (by omega) (by omega)]
  rw [show (pre ++ [p]) ++ x :: rest = pre ++ p :: (x :: rest) by simp, nI pre p (x :: rest) _ (by omega)]
  simp only [aA]
  cases hp : eq x p with
  | true =>
   simp only [aZ]
   rw [yT (by omega) (by rw [hlen]; omega)]
   simp only [aA]
   obtain ⟨i, a, d, c⟩ := Gx eq (pre.length + 1) rest (pre ++ [p]) [] x kT (by rw [tW]; omega) (by simp; omega) (by omega) (by simp)
   simp only [aK, bW, bJ, aC, aJ, bP] at a d c
   rw [show (pre.length + (0 + 1) + 0 + 1 - (pre.length + 1) : Nat) = 1 by omega] at a
   rw [show ((pre.length + 1 : Nat) : Int) = ((pre.length + (0 + 1) : Nat) : Int) by omega] at *
   have b : yI eq ((pre.length + (0 + 1) : Nat) : Int) kT (pre ++ p :: x :: rest) ((pre.length + (0 + 1) : Nat) : Int) 1 = _ := a
   rw [b]
   simp only [aA]
   rw [yT (by omega) (by omega)]
   simp only [aA, dI]
   rw [yT (by omega) (by rw [uL _ _ _ c]; omega)]
   simp only [aA]
   rw [FX _ _ _ c, d, pF, hp]
   simp
  | false =>
   simp only [aB, aN]
   rw [lG (x := ((pre.length + 1 : Nat) : Int) + 1) (by omega) (by omega)]
   have := Km eq z rest (pre ++ [p]) x n (by simp at h; omega) (by simp; omega)
   simp only [aK, bW, bJ, aC, aJ, bP] at this
   rw [show ((pre.length + 1 : Nat) : Int) + 1 = ((pre.length + (0 + 1) + 1 : Nat) : Int) by omega, this, pF, hp]
   simp
theorem DS {α : Type} (eq : α → α → Bool) (z : α) (l : List α) (a : l.length < 4611686018427387904) : DD eq z l = some (dd eq l) := by
 unfold DD
 cases l with
 | nil => rfl
 | cons x xs =>
  cases xs with
  | nil => simp [dd, pF]
  | cons y ys =>
   rw [aU (by simp; omega)]
   have := Km eq z (y :: ys) [] x kT (by rw [tW]; simp at a ⊢; omega) (by simpa using a)
   simpa [dd] using this
structure Ax {α : Type} (lt : α → α → Prop) (P : α → Prop) : Prop where
 irrefl : ∀ x, P x → ¬ lt x x
 trans : ∀ x y z, P x → P y → P z → lt x y → lt y z → lt x z
 total : ∀ x y, P x → P y → lt x y ∨ x = y ∨ lt y x
def tM {α : Type} (lt : α → α → Prop) (P : α → Prop) (l out : List α) : Prop := out.Pairwise lt ∧ ∀ x, x ∈ out ↔ x ∈ l ∧ P x
theorem tM.unique {α : Type} {lt : α → α → Prop} {P : α → Prop} (H : Ax lt P) : ∀ {l a b : List α}, tM lt P l a → tM lt P l b → a = b := by
 have key : ∀ a b : List α, (∀ x ∈ a, P x) → a.Pairwise lt → b.Pairwise lt → (∀ x, x ∈ a ↔ x ∈ b) → a = b := by
  intro a
  induction a with
  | nil => intro b _ _ _ hm; cases b with
   | nil => rfl
   | cons y ys => exact absurd ((hm y).2 (by simp)) (by simp)
  | cons x xs ih =>
   intro b m ha j hm
   cases b with
   | nil => exact absurd ((hm x).1 (by simp)) (by simp)
   | cons y ys =>
    have n : P y := m y ((hm y).2 (by simp))
    have c : P x := m x (by simp)
    have d := cO.1 ha
    have g := cO.1 j
    have o : x = y := by
     rcases aO.1 ((hm x).1 (by simp)) with h | h
     ·exact h
     ·rcases aO.1 ((hm y).2 (by simp)) with k | k
      ·exact k.symm
      ·exact absurd (H.trans x y x c n c (d.1 y k) (g.1 x h)) (H.irrefl x c)
    subst o
    congr 1
    refine ih ys (fun z i => m z (by simp [i])) d.2 g.2 (fun z => ?_)
    constructor
    ·intro i
     rcases aO.1 ((hm z).1 (by simp [i])) with h | h
     ·subst h; exact absurd (d.1 z i) (H.irrefl z c)
     ·exact h
    ·intro i
     rcases aO.1 ((hm z).2 (by simp [i])) with h | h
     ·subst h; exact absurd (g.1 z i) (H.irrefl z c)
     ·exact h
 intro l a b ha j
 exact key a b (fun x p => ((ha.2 x).1 p).2) ha.1 j.1 (fun x => (ha.2 x).trans (j.2 x).symm)
theorem DC {α : Type} {eq : α → α → Bool} (he : ∀ x y, eq x y = true ↔ x = y) : ∀ (l : List α) (p x : α), x ∈ p :: pF eq p l ↔ x ∈ p :: l
 | [], p, x => by simp [pF]
 | y :: l, p, x => by
  rw [pF]
  split
  ·rename_i h
   have := (he y p).1 h
   subst this
   rw [DC he l y x]; simp
  ·have := DC he l y x
   simp only [aO] at this ⊢
   rw [this]
theorem Ru {α : Type} {eq : α → α → Bool} (he : ∀ x y, eq x y = true ↔ x = y) (l : List α) (x : α) : x ∈ dd eq l ↔ x ∈ l := by
 cases l with
 | nil => simp [dd]
 | cons y l => exact DC he l y x
theorem Cm {α : Type} {eq : α → α → Bool} {lt : α → α → Prop} {P : α → Prop} (he : ∀ x y, eq x y = true ↔ x = y) (H : Ax lt P) : ∀ (l : List α) (p : α), (∀ x ∈ p :: l, P x) → (p :: l).Pairwise (fun a b => ¬ lt b a) → (p :: pF eq p l).Pairwise lt
 | [], p, _, _ => by simp [pF]
 | y :: l, p, c, n => by
  have h1 := cO.1 n
  rw [pF]
  split
  ·rename_i h
   have := (he y p).1 h
   subst this
   exact Cm he H l y (fun x i => c x (fe _ i)) h1.2
  ·rename_i h
   have ih := Cm he H l y (fun x i => c x (fe _ i)) h1.2
   refine cO.2 ⟨fun z m => ?_, ih⟩
   have g : lt p y := by
    rcases H.total p y (c p (by simp)) (c y (by simp)) with d | d | d
    ·exact d
    ·exact absurd ((he y p).2 d.symm) h
    ·exact absurd d (h1.1 y (by simp))
   rcases aO.1 m with rfl | j
   ·exact g
   ·have k : z ∈ y :: l := (DC he l y z).1 m
    exact H.trans p y z (c p (by simp)) (c y (by simp)) (c z (fe _ k)) g ((cO.1 ih).1 z j)
theorem M6 {α : Type} {eq : α → α → Bool} {lt : α → α → Prop} {P : α → Prop} (he : ∀ x y, eq x y = true ↔ x = y) (H : Ax lt P) (l : List α) (c : ∀ x ∈ l, P x) (d : l.Pairwise (fun a b => ¬ lt b a)) : (dd eq l).Pairwise lt := by
 cases l with
 | nil => simp [dd]
 | cons y l => exact Cm he H l y c d
theorem II {α : Type} {le : α → α → Bool} {P : α → Prop} (i : ∀ a b c, P a → P b → P c → le a b = true → le b c = true → le a c = true) (h : ∀ a b, P a → P b → (le a b || le b a) = true) (l : List α) (d : ∀ x ∈ l, P x) :
  (l.mergeSort le).Pairwise (fun a b => le a b = true) := by
 have e : l = (l.attachWith P d).map Subtype.val := by simp
 have hm : ((l.attachWith P d).mergeSort fun a b => le a.1 b.1).map Subtype.val = l.mergeSort le := by
  conv => rhs; rw [e]
  exact gi (fun a _ b _ => rfl)
 rw [← hm, fF]
 exact gB (le := fun (a b : {x // P x}) => le a.1 b.1) (fun a b c h1 g => i a.1 b.1 c.1 a.2 b.2 c.2 h1 g) (fun a b => h a.1 b.1 a.2 b.2) _
theorem Ac {α : Type} {eq : α → α → Bool} {lt : α → α → Prop} {P : α → Prop} {cf : α × α → Option Int} {l : List α} (he : ∀ x y, eq x y = true ↔ x = y) (H : Ax lt P) (g : ∀ x ∈ l, P x) (w : l.length < 4611686018427387904) (v : ∀ x y, P x → P y → ∃ c, cf (x, y) = some c ∧ (c < 0 ↔ lt x y)) : ∃ s, xF cf l = some s ∧ s.length = l.length ∧ tM lt P l (dd eq s) := by
 have j : ∀ x y, P x → P y → (sN cf x y = true ↔ lt x y) := fun x y i n => by
  obtain ⟨c, h1, m⟩ := v x y i n
  unfold sN
  rw [h1]
  simpa using m
 have d : ∀ x y, P x → P y → (sN cf x y = false ↔ ¬ lt x y) := fun x y i n => by
  rw [← j x y i n]; simp
 have ok : ED cf l := by
  refine ⟨fun x i y n => ?_, fun x i => ?_, fun x i y n z t h1 m => ?_, fun x i y n h1 m => ?_, w⟩
  ·obtain ⟨c, h1, _⟩ := v x y (g x i) (g y n); exact ⟨c, h1⟩
  ·exact (d x x (g x i) (g x i)).2 (H.irrefl x (g x i))
  ·rw [j _ _ (g x i) (g y n)] at h1
   rw [j _ _ (g y n) (g z t)] at m
   rw [j _ _ (g x i) (g z t)]
   exact H.trans x y z (g x i) (g y n) (g z t) h1 m
  ·rw [d _ _ (g x i) (g y n)] at h1
   rw [d _ _ (g y n) (g x i)] at m
   rcases H.total x y (g x i) (g y n) with h | h | h
   ·exact absurd h h1
   ·exact h
   ·exact absurd h m
 refine ⟨_, Ku ok, by simp [pR], ?_, ?_⟩
 ·have k : ∀ x, x ∈ pR cf l ↔ x ∈ l := fun x => by simp [pR]
  refine M6 he H _ (fun x i => g x ((k x).1 i)) ?_
  have := II (le := fun x y => !sN cf y x) (P := P) (fun a b c ha o p h1 m => ?_) (fun a b ha o => ?_) l g
  ·refine (this.imp_of_mem ?_ : _)
   intro a b ha o h
   have q : a ∈ l := (k a).1 ha
   have r : b ∈ l := (k b).1 o
   simp at h
   exact (d b a (g b r) (g a q)).1 h
  ·simp at h1 m ⊢
   rw [d _ _ o ha] at h1
   rw [d _ _ p o] at m
   rw [d _ _ p ha]
   intro u
   rcases H.total a b ha o with h | h | h
   ·exact m (H.trans c a b p ha o u h)
   ·subst h; exact m u
   ·exact h1 h
  ·simp only [fw, fH]
   rw [d _ _ o ha, d _ _ ha o]
   by_cases h : lt b a
   ·right; intro m; exact H.irrefl a ha (H.trans a b a ha o ha m h)
   ·exact .inl h
 ·intro x
  rw [Ru he]
  constructor
  ·intro i
   have : x ∈ l := by simpa [pR] using i
   exact ⟨this, g x this⟩
  ·intro i; simpa [pR] using i.1
theorem Ca : ∀ a : List UInt8, Op.bytesLess a a = false
 | [] => rfl
 | x :: a => by simp [Op.bytesLess, Ca a]
theorem Ki (x y : UInt8) : x < y ∨ x = y ∨ y < x := by
 rcases Nat.lt_trichotomy x.toNat y.toNat with h | h | h
 ·exact .inl h
 ·exact .inr (.inl (UInt8.toNat_inj.1 h))
 ·exact .inr (.inr h)
theorem Bi : ∀ a b c : List UInt8, Op.bytesLess a b = true → Op.bytesLess b c = true → Op.bytesLess a c = true
 | [], [], c, h1, _ => by simp [Op.bytesLess] at h1
 | _ :: _, [], c, h1, _ => by simp [Op.bytesLess] at h1
 | a, _ :: _, [], _, d => by simp [Op.bytesLess] at d
 | [], b :: bs, c :: cs, _, _ => rfl
 | a :: ax, b :: bs, c :: cs, h1, d => by
  simp only [Op.bytesLess, fw, cH, bn, jL] at h1 d ⊢
  rcases h1 with h1 | ⟨rfl, h1⟩
  ·rcases d with d | ⟨rfl, d⟩
   ·exact .inl (UInt8.lt_trans h1 d)
   ·exact .inl h1
  ·rcases d with d | ⟨rfl, d⟩
   ·exact .inl d
   ·exact .inr ⟨rfl, Bi ax bs cs h1 d⟩
theorem Dz : ∀ a b : List UInt8, Op.bytesLess a b = true ∨ a = b ∨ Op.bytesLess b a = true
 | [], [] => .inr (.inl rfl)
 | [], _ :: _ => .inl rfl
 | _ :: _, [] => .inr (.inr rfl)
 | a :: ax, b :: bs => by
  simp only [Op.bytesLess, fw, cH, bn, jL, bO]
  rcases Ki a b with h | h | h
  ·exact .inl (.inl h)
  ·subst h
   rcases Dz ax bs with h | h | h
   ·exact .inl (.inr ⟨rfl, h⟩)
   ·exact .inr (.inl ⟨rfl, h⟩)
   ·exact .inr (.inr (.inr ⟨rfl, h⟩))
  ·exact .inr (.inr (.inl h))
theorem CU : ∀ a b : List UInt8, (Lib.compareBytes a b < 0 ↔ Op.bytesLess a b = true)
 | [], [] => by simp [Lib.compareBytes, Op.bytesLess]
 | [], _ :: _ => by simp [Lib.compareBytes, Op.bytesLess]
 | _ :: _, [] => by simp [Lib.compareBytes, Op.bytesLess]
 | a :: ax, b :: bs => by
  simp only [Lib.compareBytes, Op.bytesLess, fw, cH, bn, jL]
  by_cases h : a < b
  ·simp [h]
  ·by_cases d : b < a
   ·have : a ≠ b := by rintro rfl; exact h d
    simp [h, d, this]
   ·have : a = b := by rcases Ki a b with c | c | c; exact absurd c h; exact c; exact absurd c d
    subst this
    simp [h, CU ax bs]
theorem Gr : ∀ a b : List UInt8, (Lib.compareBytes a b = 0 ↔ a = b)
 | [], [] => by simp [Lib.compareBytes]
 | [], _ :: _ => by simp [Lib.compareBytes]
 | _ :: _, [] => by simp [Lib.compareBytes]
 | a :: ax, b :: bs => by
  simp only [Lib.compareBytes, bO]
  by_cases h : a < b
  ·simp only [h, aZ]
   constructor
   ·intro h; cases h
   ·rintro ⟨rfl, _⟩; exact absurd h (by simp)
  ·by_cases d : b < a
   ·simp only [h, d, aZ, aN]
    constructor
    ·intro h; cases h
    ·rintro ⟨rfl, _⟩; exact absurd d (by simp)
   ·have : a = b := by rcases Ki a b with c | c | c; exact absurd c h; exact c; exact absurd c d
    subst this
    simp [h, Gr ax bs]
theorem zB (a b : ByteArray) : pV a b = Op.bytesLess a.data.toList b.data.toList := by unfold pV; rw [fk, fk]
theorem Bd {a b : ByteArray} (h : a.data.toList = b.data.toList) : a = b := js (Array.toList_inj.1 h)
theorem tI (a : ByteArray) : pV a a = false := by rw [zB, Ca]
theorem Am {a b c : ByteArray} (h1 : pV a b = true) (d : pV b c = true) : pV a c = true := by rw [zB] at *; exact Bi _ _ _ h1 d
theorem Ae (a b : ByteArray) : pV a b = true ∨ a = b ∨ pV b a = true := by
 rw [zB, zB]
 rcases Dz a.data.toList b.data.toList with h | h | h
 ·exact .inl h
 ·exact .inr (.inl (Bd h))
 ·exact .inr (.inr h)
theorem Ip {a b : ByteArray} (h : pV a b = true) : pV b a = false := by
 cases c : pV b a with
 | false => rfl
 | true => have := Am h c; rw [tI] at this; cases this
theorem Fo (P : ByteArray → Prop) : Ax (fun a b => pV a b = true) P :=
 ⟨fun x _ h => (by rw [tI] at h; cases h), fun x y z _ _ _ => Am, fun x y _ _ => Ae x y⟩
def Bz (b : UInt8) : Bool := decide (97 ≤ b.toNat) && decide (b.toNat ≤ 122)
def Df (b : UInt8) : Bool := Bz b || (decide (48 ≤ b.toNat) && decide (b.toNat ≤ 57)) || decide (b.toNat = 45)
def nl (s : ByteArray) : Bool := decide (1 ≤ s.size) && decide (s.size ≤ 16) && (match s.data.toList with | [] => false | b :: _ => Bz b) && s.data.toList.all Df
theorem oL {s : ByteArray} (h : nl s = true) : 1 ≤ s.size ∧ s.size ≤ 16 := by
 simp only [nl, bn, cH] at h
 exact h.1.1
theorem Mb : ∀ n : Nat, n < 256 → decide (xK (⟨#[97, 98, 99, 100, 101, 102, 103, 104, 105, 106, 107, 108, 109, 110, 111, 112, 113, 114, 115, 116, 117, 118, 119, 120, 121, 122]⟩ : ByteArray) (n : Int) ≥ 0) = Bz (UInt8.ofNat n) := by decide +kernel
theorem Pq : ∀ n : Nat, n < 256 → decide (xK (⟨#[97, 98, 99, 100, 101, 102, 103, 104, 105, 106, 107, 108, 109, 110, 111, 112, 113, 114, 115, 116, 117, 118, 119, 120, 121, 122, 48, 49, 50, 51, 52, 53, 54, 55, 56, 57, 45]⟩ : ByteArray) (n : Int) < 0) = !Df (UInt8.ofNat n) := by decide +kernel
theorem xl (s : ByteArray) : s.size = s.data.toList.length := by rw [dl]; rfl
theorem FM {s : ByteArray} (h : s.size ≤ 16) : Dh s = some (tC s) := by
 unfold Dh; rw [aV (by unfold maxLen; omega)]
theorem JG : ∀ l : List UInt8, vv (l.map fun b => (b.toNat : Int)) = some (l.all Df)
 | [] => rfl
 | b :: l => by
  rw [bH, vv]
  simp only [rX, oW, aA]
  have a := Pq b.toNat (jf b)
  rw [a]
  simp only [jq, List.all_cons]
  cases Df b with
  | true => simp [JG l]
  | false => simp
theorem Io {s : ByteArray} {b : UInt8} {l : List UInt8} (h : s.data.toList = b :: l) : AB s 0 = some b := by
 unfold AB
 rw [aV (Int.le_refl 0)]
 have a : s.data[0]? = some b := by rw [← du, h]; rfl
 show s[0]? = some b
 rw [← a]
 rfl
theorem wW (s : ByteArray) : rB s = some (nl s) := by
 unfold rB
 simp only [zT, aA, oY]
 by_cases h1 : 1 ≤ s.size
 ·by_cases a : s.size ≤ 16
  ·rw [aV (by simp; omega)]
   obtain ⟨b, l, c⟩ : ∃ b l, s.data.toList = b :: l := by
    cases h : s.data.toList with
    | nil => rw [xl, h] at h1; simp at h1
    | cons b l => exact ⟨b, l, rfl⟩
   rw [Io c]
   simp only [aA, rX, oW]
   rw [Mb b.toNat (jf b)]
   simp only [jq, nl, h1, a, c, cT, ey]
   cases Bz b with
   | false => simp
   | true =>
    simp only [aZ, Ck, FM a, aA, tC]
    rw [JG, c]
    simp
  ·rw [aU (by simp; omega)]
   simp [nl, a]
 ·rw [aU (by simp; omega)]
  simp [nl, h1]
theorem P4 {s : ByteArray} {A B : List UInt8} {b : UInt8} (h : s.data.toList = A ++ b :: B) (i : Int) (c : i = (A.length : Int)) : AB s i = some b := by
 subst c
 unfold AB
 rw [aV (by omega), dI]
 have a : s.data[A.length]? = some b := by rw [← du, h]; simp
 show s[A.length]? = some b
 rw [← a]
 rfl
theorem EP (s : ByteArray) (t : s.size ≤ 16) : ∀ (B A : List UInt8) (n : Nat), s.data.toList = A ++ B → B.length < n → tY s n (A.length : Int) = some (B.all Df)
  | [], A, 0, _, h => by simp at h
  | [], A, n + 1, h, _ => by
    have : s.size = A.length := by rw [xl, h]; simp
    rw [tY, aU (by rw [this]; simp)]
    rfl
  | b :: B, A, 0, _, h => by simp at h
  | b :: B, A, n + 1, h, r => by
    have k : s.size = A.length + B.length + 1 := by rw [xl, h]; simp; omega
    rw [tY, aV (by rw [k]; simp; omega)]
    rw [P4 h _ rfl]
    simp only [aA]
    rw [lG (x := (A.length : Int) + 1) (by omega) (by omega)]
    have ih := EP s t B (A ++ [b]) n (by rw [h]; simp) (by simp at r; omega)
    rw [show ((A ++ [b]).length : Int) = (A.length : Int) + 1 by simp] at ih
    simp only [List.all_cons]
    have j : ∀ n : Nat, n < 256 → Df (UInt8.ofNat n) = !((decide (n < 97) || decide (n > 122)) && (decide (n < 48) || decide (n > 57)) && decide (n ≠ 45)) := by decide +kernel
    have l := j b.toNat (jf b)
    simp only [jq] at l
    rw [l]
    by_cases h1 : b.toNat < 97 <;> by_cases m : b.toNat > 122 <;> by_cases o : b.toNat < 48 <;> by_cases p : b.toNat > 57 <;> by_cases q : b.toNat = 45 <;>
      first
      | omega
      | (have a : ((b.toNat : Int) < 97) = (b.toNat < 97) := by rw [gx]; omega
         have c : ((b.toNat : Int) > 122) = (b.toNat > 122) := by rw [gx]; omega
         have d : ((b.toNat : Int) < 48) = (b.toNat < 48) := by rw [gx]; omega
         have g : ((b.toNat : Int) > 57) = (b.toNat > 57) := by rw [gx]; omega
         have i : ((b.toNat : Int) != 45) = !decide (b.toNat = 45) := by rw [bR]; simp; omega
         simp [h1, m, o, p, q, a, c, d, g, i, ih])
theorem vJ (a : ByteArray) : lK a a = true := mJ.2 rfl
theorem QS : zS.size = 0 := rfl
theorem PP {s : ByteArray} : s = zS ↔ s.size = 0 := by
 constructor
 ·rintro rfl; rfl
 ·intro h; exact Bd (by rw [xl] at h; rw [ee.1 h]; rfl)
theorem yE (s : ByteArray) : tj s = some (nl s) := by
 unfold tj
 simp only [RN, aA, oY]
 by_cases g : s.size = 0
 ·have : s = zS := PP.2 g
  subst this
  rw [vJ]
  rfl
 ·have n : lK s zS = false := by
   cases h : lK s zS with
   | false => rfl
   | true => exact absurd (PP.1 (mJ.1 h)) g
  rw [n]
  simp only [jF]
  by_cases i : s.size ≤ 16
  ·rw [aU (by simp; omega)]
   obtain ⟨b, l, k⟩ : ∃ b l, s.data.toList = b :: l := by
    cases h : s.data.toList with
    | nil => rw [xl, h] at g; simp at g
    | cons b l => exact ⟨b, l, rfl⟩
   rw [Io k]
   simp only [aA, RN]
   have m := EP s i s.data.toList [] kT rfl (by rw [tW, ← xl]; omega)
   simp only [bP] at m
   rw [show (0 : Int) = ((0 : Nat) : Int) from rfl] at *
   rw [m]
   have j : ((b.toNat : Int) < 97) = (b.toNat < 97) := by rw [gx]; omega
   have d : ((b.toNat : Int) > 122) = (b.toNat > 122) := by rw [gx]; omega
   have h1 : 1 ≤ s.size := by omega
   simp only [nl, h1, i, k, Bz, cT, ey, j, d]
   by_cases a : b.toNat < 97
   ·simp [a, show ¬ 97 ≤ b.toNat by omega]
   ·by_cases c : b.toNat > 122
    ·simp [a, c, show ¬ b.toNat ≤ 122 by omega]
    ·simp [a, c, show 97 ≤ b.toNat by omega, show b.toNat ≤ 122 by omega]
  ·rw [aV (by simp; omega)]
   simp [nl, i]
def mz (r : kd) : Bool := nl r.kj && nl r.kq
theorem wP (r : kd) : pH r = some (mz r) := by
 unfold pH mz
 simp only [wW, aA]
 cases nl r.kj <;> simp
theorem Ge (r : kd) : wk r = some (mz r) := by
 unfold wk mz
 simp only [yE, aA]
 cases nl r.kj <;> simp
def AH (a b : kd) : Bool := pV a.kj b.kj || (lK a.kj b.kj && pV a.kq b.kq)
theorem BR (a b : kd) : ze a b = some (AH a b) := by
 unfold ze AH
 cases pV a.kj b.kj <;> cases lK a.kj b.kj <;> simp
theorem Ll {a b : ByteArray} (h : a ≠ b) : lK a b = false := by
 cases c : lK a b with
 | false => rfl
 | true => exact absurd (mJ.1 c) h
theorem A5 {a b : kd} : AH a b = true ↔ pV a.kj b.kj = true ∨ (a.kj = b.kj ∧ pV a.kq b.kq = true) := by
 simp [AH, mJ]
theorem I3 (P : kd → Prop) : Ax (fun a b => AH a b = true) P := by
 refine ⟨fun x _ h => ?_, fun x y z _ _ _ h1 c => ?_, fun x y _ _ => ?_⟩
 ·rw [A5] at h
  simp [tI] at h
 ·rw [A5] at *
  rcases h1 with h1 | ⟨g, h1⟩
  ·rcases c with c | ⟨d, c⟩
   ·exact .inl (Am h1 c)
   ·exact .inl (by rw [← d]; exact h1)
  ·rcases c with c | ⟨d, c⟩
   ·exact .inl (by rw [g]; exact c)
   ·exact .inr ⟨g.trans d, Am h1 c⟩
 ·simp only [A5]
  rcases Ae x.kj y.kj with h | h | h
  ·exact .inl (.inl h)
  ·rcases Ae x.kq y.kq with c | c | c
   ·exact .inl (.inr ⟨h, c⟩)
   ·refine .inr (.inl ?_)
    cases x; cases y; simp at h c; simp [h, c]
   ·exact .inr (.inr (.inr ⟨h.symm, c⟩))
  ·exact .inr (.inr (.inl h))
theorem vk (a b : kd) : ∃ c, nK a b = some c ∧ (c < 0 ↔ AH a b = true) := by
 unfold nK
 simp only [qa, nO, aA, ua, sQ]
 have h1 : ∀ a b : ByteArray, (pD a b < 0 ↔ pV a b = true) := fun a b => by rw [zB]; exact CU _ _
 have g : ∀ a b : ByteArray, (pD a b = 0 ↔ a = b) := fun a b => by
  unfold pD; rw [Gr]; exact ⟨Bd, fun h => by rw [h]⟩
 by_cases e : pD a.kj b.kj = 0
 ·rw [aU (by simp [e])]
  have e' := (g _ _).1 e
  by_cases d : pD a.kq b.kq = 0
  ·rw [aU (by simp [d])]
   refine ⟨0, rfl, ?_⟩
   rw [A5, e', (g _ _).1 d]
   simp [tI]
  ·rw [aV (by simp [d])]
   refine ⟨_, rfl, ?_⟩
   rw [A5, e', h1]
   simp [tI]
 ·rw [aV (by simp [e])]
  refine ⟨_, rfl, ?_⟩
  rw [A5, h1]
  have : a.kj ≠ b.kj := fun h => e ((g _ _).2 h)
  simp [this]
def zR : kd := ⟨zS, zS⟩
theorem Ij (a b : ByteArray) : lK a b = lK b a := by rw [bR, mJ, mJ]; exact eq_comm
theorem EZ (a b : kd) : kG a b = kG b a := by rw [bR, kE, kE]; exact eq_comm
theorem vx (a : kd) : kG a a = true := kE.2 rfl
def lI (c : ke) : Bool := mz c.Head && (
 if c.Kind == 1 then nl c.kR && kG zR c.B && kG zR c.C && lK zS c.lj
 else if c.Kind == 2 then mz c.B && lK zS c.kR && kG zR c.C && lK zS c.lj
 else if c.Kind == 3 then mz c.B && lK c.B.kj c.Head.kj && nl c.lj && lK zS c.kR && kG zR c.C
 else if c.Kind == 4 then mz c.B && mz c.C && AH c.B c.C && lK zS c.kR && lK zS c.lj
 else false)
theorem rD (c : ke) : rC c = some (lI c) := by
 unfold rC lI
 simp only [wP, wW, aA]
 obtain ⟨k, hk, a⟩ := vk c.B c.C
 rw [hk]
 have b : decide (k < 0) = AH c.B c.C := by rw [bR, ← a]; simp
 simp only [aA, b]
 by_cases h1 : c.Kind = 1
 ·cases mz c.Head <;> cases nl c.kR <;> simp [h1, nr, vx, vJ, zR, jg]
 ·by_cases d : c.Kind = 2
  ·cases mz c.Head <;> cases mz c.B <;> simp [d, nr, vx, vJ, zR, jg]
  ·by_cases g : c.Kind = 3
   ·cases mz c.Head <;> cases mz c.B <;> cases lK c.B.kj c.Head.kj <;> cases nl c.lj <;> simp [g, nr, vx, vJ, zR, jg]
   ·by_cases h : c.Kind = 4
    ·cases mz c.Head <;> cases mz c.B <;> cases mz c.C <;> cases AH c.B c.C <;> simp [h, nr, vx, vJ, zR, jg]
    ·simp [h1, d, g, h]
theorem Bo (c : ke) : yr c = some (lI c) := by
 unfold yr lI
 simp only [Ge, yE, BR, aA]
 rw [show (⟨zS, zS⟩ : kd) = zR from rfl, EZ c.B zR, EZ c.C zR, Ij c.lj zS, Ij c.kR zS]
 by_cases h1 : c.Kind = 1
 ·cases mz c.Head <;> cases nl c.kR <;> cases kG zR c.B <;> cases kG zR c.C <;> simp [h1]
 ·by_cases a : c.Kind = 2
  ·cases mz c.Head <;> cases mz c.B <;> cases lK zS c.kR <;> cases kG zR c.C <;> simp [a]
  ·by_cases b : c.Kind = 3
   ·cases mz c.Head <;> cases mz c.B <;> cases lK zS c.kR <;> cases kG zR c.C <;> cases lK c.B.kj c.Head.kj <;> simp [b]
   ·by_cases d : c.Kind = 4
    ·cases mz c.Head <;> cases mz c.B <;> cases lK zS c.kR <;> cases lK zS c.lj <;> cases mz c.C <;> simp [d]
    ·cases mz c.Head <;> cases mz c.B <;> cases lK zS c.kR <;> simp [h1, a, b, d]
theorem mT {α : Type} {b : Nat} {l m : List α} (h : (l.length + m.length) * b ≤ 140737488355328) (a : l.length + m.length ≤ 9223372036854775807) : mZ b l m = some (l ++ m) := by
 unfold mZ; rw [aV ⟨h, by unfold maxLen; omega⟩]
theorem Gt {l m : List Int} (h : l.length + m.length ≤ 1000000) : mZ 1 l m = some (l ++ m) := mT (by omega) (by omega)
def wU (s : ByteArray) : List Int := (s.size : Int) :: tC s
def sI (r : kd) : List Int := wU r.kj ++ wU r.kq
def zq (c : ke) : List Int := if c.Kind = 1 then wU c.kR else if c.Kind = 2 then sI c.B else if c.Kind = 3 then sI c.B ++ wU c.lj else sI c.B ++ sI c.C
def tK (c : ke) : List Int := c.Kind :: (sI c.Head ++ zq c)
theorem ue (s : ByteArray) : (wU s).length = s.size + 1 := by simp [wU, pM]
theorem py {r : kd} (h : mz r = true) : (sI r).length ≤ 34 := by
 simp only [mz, bn] at h
 have h1 := oL h.1
 have a := oL h.2
 simp [sI, ue]; omega
theorem yP {l : List Int} {n : Int} (a : 0 ≤ n) (h1 : n < 128) (b : l.length ≤ 100000) : ox l n = some (true, l ++ [n]) := by
 have hw : IntKind.u8.wrap n = n := by
  obtain ⟨k, rfl⟩ : ∃ k : Nat, n = k := ⟨n.toNat, by omega⟩
  have : ∀ k : Nat, k < 128 → IntKind.u8.wrap (k : Int) = (k : Int) := by decide +kernel
  exact this k (by omega)
 unfold ox
 rw [aU (by simp; omega), nt, qx, aU (by simp; omega), hw, Gt (by simp; omega)]
 rfl
theorem Fp {l : List Int} {s : ByteArray} (h : nl s = true) (a : l.length ≤ 10000) : uu l s = some (true, l ++ wU s) := by
 have h1 := oL h
 unfold uu
 simp only [wW, aA, h, aZ, FM h1.2]
 unfold xT
 rw [aU (by rw [pM]; simp; omega)]
 rw [pM, yP (by omega) (by omega) (by omega)]
 simp only [aA]
 rw [Gt (by simp [pM]; omega)]
 simp [wU]
theorem Kn {l : List Int} {r : kd} (h : mz r = true) (b : l.length ≤ 9000) : qy l r = some (true, l ++ sI r) := by
 have a := h
 simp only [mz, bn] at h
 have h1 := oL h.1
 unfold qy
 simp only [wP, aA, a, aZ]
 rw [Fp h.1 (by omega)]
 simp only [aA, aZ]
 rw [Fp h.2 (by simp [ue]; omega)]
 simp [sI]
theorem Da {l : List Int} {r : kd} (h : mz r = true) (a : l.length ≤ 1000) : qy l r = some (true, l ++ sI r) := Kn h (by omega)
theorem Cw {c : ke} (h : lI c = true) : mz c.Head = true := by
 simp only [lI, bn] at h; exact h.1
theorem oa {c : ke} (h : lI c = true) :
  (c.Kind = 1 ∧ nl c.kR = true ∧ c.B = zR ∧ c.C = zR ∧ c.lj = zS) ∨
  (c.Kind = 2 ∧ mz c.B = true ∧ c.kR = zS ∧ c.C = zR ∧ c.lj = zS) ∨
  (c.Kind = 3 ∧ mz c.B = true ∧ nl c.lj = true ∧ c.B.kj = c.Head.kj ∧ c.kR = zS ∧ c.C = zR) ∨
  (c.Kind = 4 ∧ mz c.B = true ∧ mz c.C = true ∧ AH c.B c.C = true ∧ c.kR = zS ∧ c.lj = zS) := by
 simp only [lI, bn] at h
 obtain ⟨_, h⟩ := h
 split at h
 ·rename_i h1
  simp only [bn, kE, mJ] at h
  exact .inl ⟨by simpa using h1, h.1.1.1, h.1.1.2.symm, h.1.2.symm, h.2.symm⟩
 ·split at h
  ·rename_i h1
   simp only [bn, kE, mJ] at h
   exact .inr (.inl ⟨by simpa using h1, h.1.1.1, h.1.1.2.symm, h.1.2.symm, h.2.symm⟩)
  ·split at h
   ·rename_i h1
    simp only [bn, kE, mJ] at h
    exact .inr (.inr (.inl ⟨by simpa using h1, h.1.1.1.1, h.1.1.2, h.1.1.1.2, h.1.2.symm, h.2.symm⟩))
   ·split at h
    ·rename_i h1
     simp only [bn, kE, mJ] at h
     exact .inr (.inr (.inr ⟨by simpa using h1, h.1.1.1.1, h.1.1.1.2, h.1.1.2, h.1.2.symm, h.2.symm⟩))
    ·cases h
theorem BY (c : ke) : xh c = some (if lI c then tK c else []) := by
 unfold xh
 rw [rD]
 simp only [aA]
 cases h : lI c with
 | false => simp
 | true =>
  have g := Cw h
  have i := py g
  simp only [bV, aB, aN, aZ]
  have hk : 0 ≤ c.Kind ∧ c.Kind < 128 := by rcases oa h with h | h | h | h <;> omega
  rw [yP hk.1 hk.2 (by simp)]
  simp only [aA]
  rw [Da g (by simp)]
  simp only [aA, uq, uM]
  rcases oa h with ⟨k, h1, _⟩ | ⟨k, h1, _⟩ | ⟨k, h1, a, _⟩ | ⟨k, h1, a, _⟩
  ·have b := oL h1
   simp only [k, bN, aZ, Fp h1 (show (([] ++ [(1:Int)]) ++ sI c.Head).length ≤ 10000 by simp; omega), aA]
   rw [Gt (by simp [ue]; omega)]
   simp [tK, zq, k]
  ·have b := py h1
   simp only [k, show ((2 : Int) == 1) = false from rfl, aB, bN, aZ, aN, Da h1 (show (([] ++ [(2:Int)]) ++ sI c.Head).length ≤ 1000 by simp; omega), aA]
   rw [Gt (by simp; omega)]
   simp [tK, zq, k]
  ·have b := py h1
   have d := oL a
   simp only [k, show ((3 : Int) == 1) = false from rfl, show ((3 : Int) == 2) = false from rfl, aB, bN, aZ, aN, Da h1 (show (([] ++ [(3:Int)]) ++ sI c.Head).length ≤ 1000 by simp; omega), aA]
   rw [Fp a (by simp; omega)]
   simp only [aA]
   rw [Gt (by simp [ue]; omega)]
   simp [tK, zq, k]
  ·have b := py h1
   have d := py a
   simp only [k, show ((4 : Int) == 1) = false from rfl, show ((4 : Int) == 2) = false from rfl, show ((4 : Int) == 3) = false from rfl, aB, bN, aZ, aN, Da h1 (show (([] ++ [(4:Int)]) ++ sI c.Head).length ≤ 1000 by simp; omega), aA]
   rw [Da a (by simp; omega)]
   simp only [aA]
   rw [Gt (by simp; omega)]
   simp [tK, zq, k]
def AF (l : List Int) : ByteArray := ⟨(vL l).toArray⟩
theorem Bx (l : List Int) : (AF l).data.toList = vL l := rfl
theorem Hq : ∀ (l : List Int) (r : ByteArray), (l.foldl (fun r n => r.push (UInt8.ofNat n.toNat)) r).data.toList = r.data.toList ++ vL l
 | [], r => by simp [vL]
 | x :: l, r => by
  rw [jQ, Hq l]
  show ((r.data.push _).toList) ++ _ = _
  simp [vL]
theorem Qg (l : List Int) : LU l = AF l := Bd (by unfold LU; rw [Hq]; rfl)
theorem Kz (l : List Int) : (AF l).size = l.length := by rw [xl, Bx]; simp [vL]
theorem Mq (a b : List Int) : vL (a ++ b) = vL a ++ vL b := by simp [vL]
theorem wz (a b : List Int) (h : a.length + b.length ≤ 1000000) : Bl (AF a) (AF b) = some (AF (a ++ b)) := by
 unfold Bl
 rw [aU]
 ·congr 1
  refine Bd ?_
  rw [Bx, Mq, ← Bx a, ← Bx b]
  exact ByteArray.toList_data_append ▸ rfl
 ·rw [Kz, Kz]
  show ¬ (_ > (9223372036854775807 : Int))
  omega
theorem DV (s : ByteArray) : AF (tC s) = s := Bd (by rw [Bx]; simp [vL, tC, fE])
theorem Iv {n : Int} (a : 0 ≤ n) (h1 : n < 128) : xL n = some (AF [n]) := by
 have hw : IntKind.u8.wrap n = n := by
  obtain ⟨k, rfl⟩ : ∃ k : Nat, n = k := ⟨n.toNat, by omega⟩
  have : ∀ k : Nat, k < 128 → IntKind.u8.wrap (k : Int) = (k : Int) := by decide +kernel
  exact this k (by omega)
 unfold xL
 rw [nt, xS, aU (by simp; omega), hw, Qg, show zS = AF [] from rfl, wz _ _ (by simp)]
 rfl
theorem Fm {s : ByteArray} (h : nl s = true) : vz s = some (AF (wU s)) := by
 have h1 := oL h
 unfold vz
 rw [Iv (by omega) (by omega)]
 simp only [aA]
 have := wz [(s.size : Int)] (tC s) (by rw [pM]; simp; omega)
 rw [DV] at this
 rw [this]
 simp [wU]
theorem Dg {r : kd} (h : mz r = true) : wu r = some (AF (sI r)) := by
 simp only [mz, bn] at h
 have h1 := oL h.1
 have a := oL h.2
 unfold wu
 rw [Fm h.1, Fm h.2]
 simp only [aA]
 rw [wz _ _ (by simp [ue]; omega)]
 rfl
theorem Bm (c : ke) : yi c = some (AF (if lI c then tK c else [])) := by
 unfold yi
 rw [Bo]
 simp only [aA]
 cases h : lI c with
 | false => rfl
 | true =>
  have g := Cw h
  have i := py g
  simp only [bV, aB, aN, aZ]
  have hk : 0 ≤ c.Kind ∧ c.Kind < 128 := by rcases oa h with h | h | h | h <;> omega
  unfold D2
  rw [Iv hk.1 hk.2, Dg g]
  simp only [aA]
  rw [wz _ _ (by simp; omega)]
  simp only [aA]
  rcases oa h with ⟨k, h1, _⟩ | ⟨k, h1, _⟩ | ⟨k, h1, a, _⟩ | ⟨k, h1, a, _⟩
  ·have b := oL h1
   simp only [k, bN, aZ, Fm h1, aA]
   rw [wz _ _ (by simp [ue]; omega)]
   simp [tK, zq, k]
  ·have b := py h1
   simp only [k, show ((2 : Int) == 1) = false from rfl, show ((2 : Int) == 3) = false from rfl, show ((2 : Int) == 4) = false from rfl, aB, aN, Dg h1, aA]
   rw [wz _ _ (by simp; omega)]
   simp [tK, zq, k]
  ·have b := py h1
   have d := oL a
   simp only [k, show ((3 : Int) == 1) = false from rfl, show ((3 : Int) == 4) = false from rfl, aB, bN, aZ, aN, Dg h1, aA]
   rw [wz _ _ (by simp; omega)]
   simp only [aA, Fm a]
   rw [wz _ _ (by simp [ue]; omega)]
   simp [tK, zq, k]
  ·have b := py h1
   have d := py a
   simp only [k, show ((4 : Int) == 1) = false from rfl, show ((4 : Int) == 3) = false from rfl, aB, bN, aZ, aN, Dg h1, aA]
   rw [wz _ _ (by simp; omega)]
   simp only [aA, Dg a]
   rw [wz _ _ (by simp; omega)]
   simp [tK, zq, k]
def JD (c : ke) : List UInt8 := vL (if lI c then tK c else [])
def Br (a b : ke) : Bool := Op.bytesLess (JD a) (JD b)
theorem Fz (a b : ke) : ∃ c, tX a b = some c ∧ (c < 0 ↔ Br a b = true) := by
 unfold tX
 rw [BY, BY]
 exact ⟨_, rfl, CU _ _⟩
theorem EI (a b : ke) : ∃ c, uT a b = some c ∧ (c < 0 ↔ Br a b = true) := by
 unfold uT
 rw [Bm, Bm]
 simp only [aA]
 have h : pV (AF (if lI a then tK a else [])) (AF (if lI b then tK b else [])) = Br a b := by rw [zB]; rfl
 rw [h]
 cases Br a b with
 | true => exact ⟨_, rfl, by decide⟩
 | false =>
  simp only [aB, aN, jF]
  cases d : lK (AF (if lI a then tK a else [])) (AF (if lI b then tK b else [])) with
  | true => exact ⟨0, by simp, by decide⟩
  | false => exact ⟨1, by simp, by decide⟩
theorem Sg {a b : Int} (ha : 0 ≤ a ∧ a < 256) (c : 0 ≤ b ∧ b < 256) (h : a.toNat.toUInt8 = b.toNat.toUInt8) : a = b := by
 have := aR UInt8.toNat h
 simp only [UInt8.toNat_ofNat', Nat.toUInt8] at this
 simp at this
 omega
theorem Ly : ∀ {a b : List Int}, (∀ x ∈ a, 0 ≤ x ∧ x < 256) → (∀ x ∈ b, 0 ≤ x ∧ x < 256) → vL a = vL b → a = b
 | [], [], _, _, _ => rfl
 | [], _ :: _, _, _, h => by simp [vL] at h
 | _ :: _, [], _, _, h => by simp [vL] at h
 | x :: a, y :: b, ha, d, h => by
  simp only [vL, bH, bO] at h
  rw [Sg (ha x (by simp)) (d y (by simp)) h.1, Ly (fun z c => ha z (by simp [c])) (fun z c => d z (by simp [c])) h.2]
theorem zZ {s : ByteArray} (h : nl s = true) : ∀ x ∈ wU s, 0 ≤ x ∧ x < 256 := by
 have h1 := oL h
 intro x a
 rcases aO.1 a with rfl | a
 ·omega
 ·simp only [tC, bG] at a
  obtain ⟨b, _, rfl⟩ := a
  have := jf b
  omega
theorem xW {r : kd} (h : mz r = true) : ∀ x ∈ sI r, 0 ≤ x ∧ x < 256 := by
 simp only [mz, bn] at h
 intro x a
 rcases aQ.1 a with a | a
 ·exact zZ h.1 x a
 ·exact zZ h.2 x a
theorem FE {c : ke} (h : lI c = true) : ∀ x ∈ tK c, 0 ≤ x ∧ x < 256 := by
 intro x a
 rcases aO.1 a with rfl | a
 ·rcases oa h with h | h | h | h <;> omega
 ·rcases aQ.1 a with a | a
  ·exact xW (Cw h) x a
  ·unfold zq at a
   rcases oa h with ⟨k, h1, _⟩ | ⟨k, h1, _⟩ | ⟨k, h1, b, _⟩ | ⟨k, h1, b, _⟩
   ·rw [aV k] at a; exact zZ h1 x a
   ·rw [aU (by omega), aV k] at a; exact xW h1 x a
   ·rw [aU (by omega), aU (by omega), aV k] at a
    rcases aQ.1 a with a | a
    ·exact xW h1 x a
    ·exact zZ b x a
   ·rw [aU (by omega), aU (by omega), aU (by omega)] at a
    rcases aQ.1 a with a | a
    ·exact xW h1 x a
    ·exact xW b x a
theorem MQ {s t : ByteArray} (h : tC s = tC t) : s = t := by rw [← DV s, h, DV]
theorem BW {s t : ByteArray} {X Y : List Int} (h : wU s ++ X = wU t ++ Y) : s = t ∧ X = Y := by
 simp only [wU, bW, bO] at h
 obtain ⟨h1, a⟩ := h
 have b : (tC s).length = (tC t).length := by rw [pM, pM]; omega
 have := List.append_inj a b
 exact ⟨MQ this.1, this.2⟩
theorem Ad {a b : kd} {X Y : List Int} (h : sI a ++ X = sI b ++ Y) : a = b ∧ X = Y := by
 simp only [sI, aK] at h
 obtain ⟨h1, d⟩ := BW h
 obtain ⟨c, g⟩ := BW d
 exact ⟨by cases a; cases b; simp at h1 c; simp [h1, c], g⟩
theorem Ns {a b : ke} (ha : lI a = true) (q : lI b = true) (h : tK a = tK b) : a = b := by
 simp only [tK, bO] at h
 obtain ⟨hk, o⟩ := h
 obtain ⟨n, h⟩ := Ad o
 clear o
 have j : ∀ {X Y : List Int}, X = Y → X ++ [] = Y ++ [] := fun h => by rw [h]
 unfold zq at h
 obtain ⟨x, p, z, u, v, s⟩ := a
 obtain ⟨y, r, A, bb, w, t⟩ := b
 simp only at hk n h
 subst hk n
 rcases oa ha with ⟨k, h1, d, g, c⟩ | ⟨k, h1, d, g, c⟩ | ⟨k, h1, d, g, c, i⟩ | ⟨k, h1, d, g, c, i⟩ <;>
 rcases oa q with ⟨k', g1, g2, g3, g4⟩ | ⟨k', g1, g2, g3, g4⟩ | ⟨k', g1, g2, g3, g4, g5⟩ | ⟨k', g1, g2, g3, g4, g5⟩ <;> simp only at k k' d g c g2 g3 g4 <;> (try omega)
 ·rw [aV k, aV k] at h
  simp [BW (j h), d, g, c, g2, g3, g4]
 ·rw [aU (by omega), aV k, aU (by omega), aV k] at h
  simp [Ad (j h), d, g, c, g2, g3, g4]
 ·rw [aU (by omega), aU (by omega), aV k, aU (by omega), aU (by omega), aV k] at h
  obtain ⟨l, m⟩ := Ad h
  simp only at i g5
  simp [l, BW (j m), c, i, g4, g5]
 ·rw [aU (by omega), aU (by omega), aU (by omega), aU (by omega), aU (by omega), aU (by omega)] at h
  obtain ⟨l, m⟩ := Ad h
  simp only at i g5
  simp [l, Ad (j m), c, i, g4, g5]
theorem AM : Ax (fun a b => Br a b = true) (fun c => lI c = true) := by
 refine ⟨fun x _ h => ?_, fun x y z _ _ _ h1 i => Bi _ _ _ h1 i, fun x y d g => ?_⟩
 ·unfold Br at h; rw [Ca] at h; cases h
 ·rcases Dz (JD x) (JD y) with h | h | h
  ·exact .inl h
  ·refine .inr (.inl (Ns d g ?_))
   unfold JD at h
   rw [aV d, aV g] at h
   exact Ly (FE d) (FE g) h
  ·exact .inr (.inr h)
def rK {α : Type} (R : α → Bool) (lt : α → α → Bool) (last : Option α) : List α → Bool → α → Bool × α
 | [], ok, b => (ok, b)
 | x :: xs, ok, b => if R x && last.all (fun y => lt y x) && (!ok || lt x b) then rK R lt last xs true x else rK R lt last xs ok b
def Ap {α : Type} (w : Nat) (R : α → Bool) (lt : α → α → Bool) (d : α) (l : List α) : Nat → List α → Option (List α)
 | 0, _ => none
 | n + 1, out => if !(rK R lt out.getLast? l false d).1 then some out else (mZ w out [(rK R lt out.getLast? l false d).2]).bind fun o => Ap w R lt d l n o
section
variable {α : Type} {R : α → Bool} {lt : α → α → Bool}
theorem E1 (H : Ax (fun a b => lt a b = true) (fun x => R x = true)) (last : Option α) : ∀ (l : List α) (ok : Bool) (b : α), (ok = true → R b = true ∧ last.all (fun y => lt y b) = true) →
  ((rK R lt last l ok b).1 = false → ok = false ∧ ∀ x ∈ l, R x = true → last.all (fun y => lt y x) = false) ∧
  ((rK R lt last l ok b).1 = true → R (rK R lt last l ok b).2 = true ∧ last.all (fun y => lt y (rK R lt last l ok b).2) = true ∧ ((rK R lt last l ok b).2 ∈ l ∨ (ok = true ∧ (rK R lt last l ok b).2 = b)) ∧
   (∀ x ∈ l, R x = true → last.all (fun y => lt y x) = true → lt x (rK R lt last l ok b).2 = false) ∧ (ok = true → lt b (rK R lt last l ok b).2 = false))
 | [], ok, b, j => by
  simp only [rK]
  exact ⟨fun h => ⟨h, by simp⟩, fun h => ⟨(j h).1, (j h).2, .inr ⟨h, trivial⟩, by simp, fun _ => by
   cases m : lt b b with
   | false => rfl
   | true => exact absurd m (H.irrefl b (j h).1)⟩⟩
 | x :: xs, ok, b, j => by
  rw [rK]
  by_cases k : (R x && last.all (fun y => lt y x) && (!ok || lt x b)) = true
  ·rw [aV k]
   simp only [bn, fw, fH] at k
   obtain ⟨⟨v, r⟩, s⟩ := k
   obtain ⟨h1, q⟩ := E1 H last xs true x (fun _ => ⟨v, r⟩)
   refine ⟨fun h => ?_, fun h => ?_⟩
   ·cases (h1 h).1
   ·obtain ⟨o, a2, a3, a4, a5⟩ := q h
    refine ⟨o, a2, ?_, ?_, ?_⟩
    ·rcases a3 with a3 | ⟨_, a3⟩
     ·exact .inl (by simp [a3])
     ·exact .inl (by rw [a3]; simp)
    ·intro y g c d
     rcases aO.1 g with rfl | g
     ·exact a5 rfl
     ·exact a4 y g c d
    ·intro i
     cases m : lt b (rK R lt last xs true x).2 with
     | false => rfl
     | true =>
      have t : lt x b = true := by rcases s with h | h; rw [i] at h; cases h; exact h
      have := H.trans x b _ v (j i).1 o t m
      simp only [a5 rfl] at this
      cases this
  ·rw [aU k]
   obtain ⟨h1, q⟩ := E1 H last xs ok b j
   refine ⟨fun h => ⟨(h1 h).1, fun y g c => ?_⟩, fun h => ?_⟩
   ·rcases aO.1 g with rfl | g
    ·have i := (h1 h).1
     cases r : last.all (fun z => lt z y) with
     | false => rfl
     | true => exact absurd (by simp [c, r, i]) k
    ·exact (h1 h).2 y g c
   ·obtain ⟨o, a2, a3, a4, a5⟩ := q h
    refine ⟨o, a2, ?_, ?_, a5⟩
    ·rcases a3 with a3 | a3
     ·exact .inl (by simp [a3])
     ·exact .inr a3
    ·intro y g c d
     rcases aO.1 g with rfl | g
     ·cases m : lt y (rK R lt last xs ok b).2 with
      | false => rfl
      | true =>
       cases ok with
       | false => exact absurd (by simp [c, d]) k
       | true =>
        have u : lt y b = false := by
         cases w : lt y b with
         | false => rfl
         | true => exact absurd (by simp [c, d, w]) k
        have p := j rfl
        rcases H.total y b c p.1 with n | n | n
        ·rw [u] at n; cases n
        ·subst n; rw [a5 rfl] at m; cases m
        ·have := H.trans b y _ p.1 c o n m
         simp only [a5 rfl] at this
         cases this
     ·exact a4 y g c d
theorem vc (H : Ax (fun a b => lt a b = true) (fun x => R x = true)) {l : List α} (d : ∀ x ∈ l, R x = true) (h : l.Pairwise (fun a b => lt a b = true)) : l.Nodup := by
 refine h.imp_of_mem (fun {a b} ha g c e => ?_)
 subst e
 exact H.irrefl a (d a ha) c
theorem mA : ∀ {l m : List α}, l.Nodup → (∀ x ∈ l, x ∈ m) → l.length ≤ m.length
 | [], _, _, _ => by simp
 | x :: l, m, d, b => by
  obtain ⟨A, B, rfl⟩ := List.append_of_mem (b x (by simp))
  have a := dF.1 d
  have := mA (l := l) (m := A ++ B) a.2 (fun y c => by
   have := b y (fe _ c)
   simp only [aQ, aO] at this ⊢
   rcases this with h | h | h
   ·exact .inl h
   ·subst h; exact absurd c a.1
   ·exact .inr h)
  simp at this ⊢; omega
theorem B3 (H : Ax (fun a b => lt a b = true) (fun x => R x = true)) {w : Nat} (hw : w ≤ 1000) (d : α) (l : List α) (F : l.length ≤ 1000000000) : ∀ (n : Nat) (out : List α), l.length < n + out.length → out.Pairwise (fun a b => lt a b = true) → (∀ x ∈ out, x ∈ l ∧ R x = true) →
  (∀ x ∈ l, R x = true → x ∈ out ∨ out.getLast?.all (fun y => lt y x) = true) → ∃ s, Ap w R lt d l n out = some s ∧ tM (fun a b => lt a b = true) (fun x => R x = true) l s
 | 0, out, G, hp, hm, t => by
  exfalso
  have := mA (vc H (fun x c => (hm x c).2) hp) (fun x c => (hm x c).1)
  omega
 | n + 1, out, G, hp, hm, t => by
  rw [Ap]
  obtain ⟨h1, D⟩ := E1 H out.getLast? l false d (fun h => by cases h)
  have hlen := mA (vc H (fun x c => (hm x c).2) hp) (fun x c => (hm x c).1)
  cases v : (rK R lt out.getLast? l false d).1 with
  | false =>
   rw [aV (by simp)]
   refine ⟨out, rfl, hp, fun x => ⟨hm x, fun c => ?_⟩⟩
   rcases t x c.1 c.2 with h | h
   ·exact h
   ·rw [(h1 v).2 x c.1 c.2] at h; cases h
  | true =>
   rw [aU (by simp)]
   obtain ⟨q, a2, a3, a4, _⟩ := D v
   generalize (rK R lt out.getLast? l false d).2 = b at *
   have r : b ∈ l := by rcases a3 with h | ⟨h, _⟩; exact h; cases h
   have o : ∀ y ∈ out, lt y b = true := by
    intro y g
    obtain ⟨A, z, rfl⟩ : ∃ A z, out = A ++ [z] := by
     rcases dD out with h | ⟨A, z, h⟩
     ·subst h; cases g
     ·exact ⟨A, z, by rw [h]; simp⟩
    simp at a2
    rcases aQ.1 g with g | g
    ·have u : lt y z = true := (dm.1 hp).2.2 y g z (by simp)
     exact H.trans y z b (hm y (by simp [g])).2 (hm z (by simp)).2 q u a2
    ·simp at g; subst g; exact a2
   have p : (out ++ [b]).Pairwise (fun a b => lt a b = true) := dm.2 ⟨hp, by simp, fun x c y g => by simp at g; subst g; exact o x c⟩
   have k : ∀ x ∈ out ++ [b], x ∈ l ∧ R x = true := fun x c => by
    rcases aQ.1 c with c | c
    ·exact hm x c
    ·simp at c; subst c; exact ⟨r, q⟩
   have j := mA (vc H (fun x c => (k x c).2) p) (fun x c => (k x c).1)
   simp at j
   rw [mT (by simp only [aJ, bP]; have : (out.length + (0 + 1)) * w ≤ 1000000000 * 1000 := gZ (by omega) hw; omega) (by simp; omega)]
   simp only [aA]
   refine B3 H hw d l F n (out ++ [b]) (by simp; omega) p k (fun x c i => ?_)
   rcases t x c i with h | h
   ·exact .inl (by simp [h])
   ·have E := a4 x c i h
    rcases H.total x b i q with m | m | m
    ·rw [E] at m; cases m
    ·subst m; exact .inl (by simp)
    ·exact .inr (by simp [m])
end
theorem Gm {α : Type} (A : List α) (x : α) (a : A.length < 4611686018427387904) : lN (A ++ [x]) (wi0 .i64 (((A ++ [x]).length : Int) - 1)) = some x := by
 rw [lG (by simp; try omega) (by simp; try omega)]
 rw [nI A x [] _ (by simp; try omega)]
theorem Gf (out : List ke) (k : out.length < 4611686018427387904) : ∀ (l : List ke) (ok : Bool) (b : ke), tT out l ok b = some (rK lI Br out.getLast? l ok b)
 | [], ok, b => rfl
 | x :: xs, ok, b => by
  rw [tT, rK]
  have cmp : ∀ a b, ∃ c, uT a b = some c ∧ decide (c < 0) = Br a b := fun a b => by
   obtain ⟨c, h1, j⟩ := EI a b
   exact ⟨c, h1, by rw [bR, ← j]; simp⟩
  rw [Bo, Gf out k xs true x, Gf out k xs ok b]
  obtain ⟨c, h1, j⟩ := cmp x b
  rcases dD out with h | ⟨A, z, h⟩
  ·subst h
   simp only [h1, aA, j, bP, Option.all, List.getLast?_nil]
   generalize Br x b = p
   cases lI x <;> cases ok <;> cases p <;> simp
  ·have i : out = A ++ [z] := by rw [h]; simp
   obtain ⟨s, q, r⟩ := cmp z x
   have d : out.getLast? = some z := by rw [i]; simp
   have g : lN out (wi0 .i64 ((out.length : Int) - 1)) = some z := by rw [i]; exact Gm A z (by rw [i] at k; simp at k; omega)
   have m : ((out.length : Int) == 0) = false := by rw [i]; simp; omega
   rw [d]
   simp only [m, g, q, h1, aA, j, r, Option.all]
   rcases dY (Br x b) with hp | hp <;> rcases dY (Br z x) with n | n <;> rcases dY (lI x) with o | o <;> cases ok <;> simp [hp, n, o]
theorem TS (a b : ByteArray) : (!(pV a b || lK a b)) = pV b a := by
 rcases Ae a b with h | h | h
 ·simp [h, Ip h]
 ·subst h; simp [vJ, tI]
 ·have c := Ip h
  have d : lK a b = false := Ll (by rintro rfl; rw [tI] at h; cases h)
  simp [h, c, d]
theorem Nf {s : ByteArray} (h : nl s = true) : lK s zS = false := Ll (fun e => by have := oL h; rw [e, QS] at this; omega)
theorem F9 (out : List ByteArray) (k : out.length < 4611686018427387904) : ∀ (l : List ByteArray) (b : ByteArray),
  ∃ m, tV out l b = some m ∧ (rK nl pV out.getLast? l (!lK b zS) b) = (!lK m zS, m)
 | [], b => ⟨b, rfl, rfl⟩
 | x :: xs, b => by
  rw [tV, rK]
  obtain ⟨u, s, c⟩ := F9 out k xs x
  obtain ⟨v, t, i⟩ := F9 out k xs b
  rw [yE, s, t]
  by_cases g : nl x = true
  ·rw [Nf g] at c
   simp only [cV] at c
   rcases dD out with h | ⟨A, z, h⟩
   ·subst h
    simp only [aA, bP, Option.all, List.getLast?_nil, g] at *
    rw [c, i]
    generalize pV x b = p
    generalize lK b zS = q
    cases p <;> cases q <;> simp
   ·have j : out = A ++ [z] := by rw [h]; simp
    have a : out.getLast? = some z := by rw [j]; simp
    have d : lN out (wi0 .i64 ((out.length : Int) - 1)) = some z := by rw [j]; exact Gm A z (by rw [j] at k; simp at k; omega)
    have n : ((out.length : Int) == 0) = false := by rw [j]; simp; omega
    rw [a] at c i ⊢
    simp only [n, d, aA, Option.all, TS, g]
    rw [c, i]
    rcases dY (pV x b) with hp | hp <;> rcases dY (pV z x) with o | o <;> rcases dY (lK b zS) with r | r <;> simp [hp, o, r]
  ·simp only [fq] at g
   rw [g, i]
   simp
theorem PC (a : List ke) : ∀ (n : Nat) (out s : List ke), Ap 136 lI Br (⟨0, ⟨zS, zS⟩, zS, ⟨zS, zS⟩, ⟨zS, zS⟩, zS⟩ : ke) a n out = some s → s.length < 4611686018427387904 → xD a n out = some s ∧ out.length ≤ s.length
 | 0, out, s, h, _ => by cases h
 | n + 1, out, s, h, g => by
  rw [Ap] at h
  rw [xD]
  have key : out.length ≤ s.length → tT out a false (⟨0, ⟨zS, zS⟩, zS, ⟨zS, zS⟩, ⟨zS, zS⟩, zS⟩ : ke) = _ := fun j => Gf out (by omega) a false _
  split at h
  ·rename_i h1
   cases h
   rw [key (aS _)]
   simp only [aA]
   rw [aV h1]
   exact ⟨rfl, aS _⟩
  ·rename_i h1
   obtain ⟨o, b, c⟩ := bind_some h
   have d := PC a n o s c g
   have i : out.length + 1 = o.length := by
    unfold mZ at b; split at b
    ·cases b; simp
    ·cases b
   rw [key (by omega)]
   simp only [aA]
   rw [aU h1, b]
   exact ⟨d.1, by omega⟩
theorem PW (a : List ByteArray) : ∀ (n : Nat) (out s : List ByteArray), Ap 16 nl pV zS a n out = some s → s.length < 4611686018427387904 → xJ a n out = some s ∧ out.length ≤ s.length
 | 0, out, s, h, _ => by cases h
 | n + 1, out, s, h, j => by
  rw [Ap] at h
  rw [xJ]
  have key : out.length ≤ s.length → ∃ c, tV out a zS = some c ∧ rK nl pV out.getLast? a false zS = (!lK c zS, c) := fun l => by
   have := F9 out (by omega) a zS
   rw [vJ] at this
   exact this
  split at h
  ·rename_i h1
   cases h
   obtain ⟨c, d, k2⟩ := key (aS _)
   rw [d]
   rw [k2] at h1
   simp only [aA]
   rw [aV (by simpa using h1)]
   exact ⟨rfl, aS _⟩
  ·rename_i h1
   obtain ⟨o, b, g⟩ := bind_some h
   have i := PW a n o s g j
   have k : out.length + 1 = o.length := by
    unfold mZ at b; split at b
    ·cases b; simp
    ·cases b
   obtain ⟨c, d, k2⟩ := key (by omega)
   rw [d]
   rw [k2] at h1 b
   simp only [aA]
   rw [aU (by simpa using h1), b]
   exact ⟨i.1, by omega⟩
abbrev Bg (l s : List ByteArray) := tM (fun a b => pV a b = true) (fun x => nl x = true) l s
abbrev J5 (l s : List kd) := tM (fun a b => AH a b = true) (fun x => mz x = true) l s
abbrev Hc (l s : List ke) := tM (fun a b => Br a b = true) (fun x => lI x = true) l s
theorem ru {α : Type} {lt : α → α → Bool} {R : α → Bool} (H : Ax (fun a b => lt a b = true) (fun x => R x = true)) {l s : List α} (h : tM (fun a b => lt a b = true) (fun x => R x = true) l s) : s.length ≤ l.length :=
 mA (vc H (fun x c => ((h.2 x).1 c).2) h.1) (fun x c => ((h.2 x).1 c).1)
theorem QI (l : List ke) (b : l.length ≤ 1000000000) : ∃ s, FW l = some s ∧ Hc l s := by
 obtain ⟨s, h1, a⟩ := B3 AM (w := 136) (by omega) (⟨0, ⟨zS, zS⟩, zS, ⟨zS, zS⟩, ⟨zS, zS⟩, zS⟩ : ke) l b kT [] (by rw [tW]; omega) (by simp) (by simp) (fun x _ _ => .inr rfl)
 exact ⟨s, (PC l kT [] s h1 (by have := ru AM a; omega)).1, a⟩
theorem Qh (l : List ByteArray) (b : l.length ≤ 1000000000) : ∃ s, Co l = some s ∧ Bg l s := by
 obtain ⟨s, h1, a⟩ := B3 (Fo (fun x => nl x = true)) (w := 16) (by omega) zS l b kT [] (by rw [tW]; omega) (by simp) (by simp) (fun x _ _ => .inr rfl)
 exact ⟨s, (PW l kT [] s h1 (by have := ru (Fo _) a; omega)).1, a⟩
def zC : ke := ⟨0, ⟨zS, zS⟩, zS, ⟨zS, zS⟩, ⟨zS, zS⟩, zS⟩
theorem Lw (f : ke → Option Bool) : ∀ (n : Nat) (l : List ke) (i j : Int), nP f n l i j = Bv f zC n l i j
 | 0, _, _, _ => rfl
 | n + 1, l, i, j => by
  rw [nP, Bv]
  simp only [Lw f n]
  rfl
theorem LR (f : ke → Option Bool) : ∀ (l : List ke) (i : Nat), pa f l i = xg f l i
 | [], _ => rfl
 | x :: l, i => by rw [pa, xg]; simp only [LR f l]
theorem OT (f : ke → Option Bool) (l : List ke) : rp l f = EG f zC l := by
 unfold rp EG uD
 simp only [LR, Lw]
theorem J0 (i : Int) : ∀ (n : Nat) (l : List ke) (k j : Int), oD i n l k j = yI nr i n l k j
 | 0, _, _, _ => rfl
 | n + 1, l, k, j => by
  rw [oD, yI]
  simp only [J0 i n]
theorem Ju (l : List ke) : ∀ (n : Nat) (i : Int), oJ l n i = yV nr zC l n i
 | 0, _ => rfl
 | n + 1, i => by
  rw [oJ, yV]
  simp only [Ju l n, J0]
  rfl
theorem Po (l : List ke) : sT l = DD nr zC l := by
 unfold sT DD
 simp only [Ju]
theorem Lz (f : kd → Option Bool) : ∀ (n : Nat) (l : List kd) (i j : Int), nQ f n l i j = Bv f zR n l i j
 | 0, _, _, _ => rfl
 | n + 1, l, i, j => by
  rw [nQ, Bv]
  simp only [Lz f n]
  rfl
theorem Lt (f : kd → Option Bool) : ∀ (l : List kd) (i : Nat), nA f l i = xg f l i
 | [], _ => rfl
 | x :: l, i => by rw [nA, xg]; simp only [Lt f l]
theorem Ph (f : kd → Option Bool) (l : List kd) : rh l f = EG f zR l := by
 unfold rh EG pU
 simp only [Lt, Lz]
theorem Kj (i : Int) : ∀ (n : Nat) (l : List kd) (k j : Int), oB i n l k j = yI kG i n l k j
 | 0, _, _, _ => rfl
 | n + 1, l, k, j => by
  rw [oB, yI]
  simp only [Kj i n]
theorem Jq (l : List kd) : ∀ (n : Nat) (i : Int), oI l n i = yV kG zR l n i
 | 0, _ => rfl
 | n + 1, i => by
  rw [oI, yV]
  simp only [Jq l n, Kj]
  rfl
theorem O1 (l : List kd) : tb l = DD kG zR l := by
 unfold tb DD
 simp only [Jq]
theorem JT (i : Int) : ∀ (n : Nat) (l : List ByteArray) (k j : Int), nY i n l k j = yI lK i n l k j
 | 0, _, _, _ => rfl
 | n + 1, l, k, j => by
  rw [nY, yI]
  simp only [JT i n]
theorem J9 (l : List ByteArray) : ∀ (n : Nat) (i : Int), nW l n i = yV lK zS l n i
 | 0, _ => rfl
 | n + 1, i => by
  rw [nW, yV]
  simp only [J9 l n, JT]
theorem OP (l : List ByteArray) : pS l = DD lK zS l := by
 unfold pS DD
 simp only [J9]
theorem RV {l : List ke} (a : l.length ≤ 1000000000) : rV l = some l := by
 unfold rV
 rw [mT (by simp; omega) (by simp; omega)]
 simp
theorem Sm {l : List kd} (a : l.length ≤ 1000000000) : rO l = some l := by
 unfold rO
 rw [mT (by simp; omega) (by simp; omega)]
 simp
theorem Q6 (l : List ke) (d : l.length ≤ 1000000000) : ∃ s, xx l = some s ∧ Hc l s := by
 unfold xx
 rw [RV d]
 simp only [aA]
 rw [OT, F6 _ (fun x => !lI x) zC l (by omega) (fun x _ => by simp [yj, rD])]
 simp only [aA, fR]
 have i : (l.filter fun x => lI x).length ≤ l.length := eY _ _
 obtain ⟨s, h1, h, c⟩ := Ac (eq := nr) (lt := fun a b => Br a b = true) (P := fun x => lI x = true) (cf := fun x => tX x.1 x.2) (l := l.filter fun x => lI x) (fun x y => re) AM (fun x g => (cM.1 g).2) (by omega) (fun x y _ _ => Fz x y)
 rw [h1]
 simp only [aA]
 rw [Po, DS _ _ _ (by omega)]
 refine ⟨_, rfl, c.1, fun x => ?_⟩
 rw [c.2]
 simp
theorem Tz (l : List kd) (d : l.length ≤ 1000000000) : ∃ s, AR l = some s ∧ J5 l s := by
 unfold AR
 rw [Sm d]
 simp only [aA]
 rw [Ph, F6 _ (fun x => !mz x) zR l (by omega) (fun x _ => by simp [yp, wP])]
 simp only [aA, fR]
 have i : (l.filter fun x => mz x).length ≤ l.length := eY _ _
 obtain ⟨s, h1, h, c⟩ := Ac (eq := kG) (lt := fun a b => AH a b = true) (P := fun x => mz x = true) (cf := fun x => nK x.1 x.2) (l := l.filter fun x => mz x) (fun x y => kE) (I3 _) (fun x g => (cM.1 g).2) (by omega) (fun x y _ _ => vk x y)
 rw [h1]
 simp only [aA]
 rw [O1, DS _ _ _ (by omega)]
 refine ⟨_, rfl, c.1, fun x => ?_⟩
 rw [c.2]
 simp
theorem MA (l : List ByteArray) : oF l = pR (fun x => some (if pV x.1 x.2 then -1 else 0)) l := by
 unfold oF pR
 congr 1
 funext x y
 unfold sN
 cases h : pV y x <;> simp [h]
theorem DY : ∀ (l acc : List ByteArray), acc.length + l.length ≤ 1000000000 → tf l acc = (Fh (acc ++ l.filter nl)).bind fun r => pS r
 | [], acc, _ => by rw [tf]; simp
 | x :: l, acc, h => by
  rw [tf, wW]
  simp only [aA]
  cases a : nl x with
  | false =>
   simp only [aB, aN]
   rw [DY l acc (by simp at h; omega)]
   simp [a]
  | true =>
   simp only [aZ]
   rw [mT (by simp at h ⊢; omega) (by simp at h ⊢; omega)]
   simp only [aA]
   rw [DY l (acc ++ [x]) (by simp at h ⊢; omega)]
   simp [a]
theorem QY (l : List ByteArray) (g : l.length ≤ 1000000000) : ∃ s, xG l = some s ∧ Bg l s := by
 unfold xG
 rw [DY l [] (by simpa using g)]
 simp only [bJ]
 have k : (l.filter nl).length ≤ l.length := eY _ _
 unfold Fh
 rw [aV (by omega)]
 simp only [aA]
 obtain ⟨s, h1, j, c⟩ := Ac (eq := lK) (lt := fun a b => pV a b = true) (P := fun x => nl x = true) (cf := fun x => some (if pV x.1 x.2 then -1 else 0)) (l := l.filter nl) (fun x y => mJ) (Fo _) (fun x i => (cM.1 i).2) (by omega) (fun x y _ _ => ⟨_, rfl, by cases h : pV x y <;> simp [h]⟩)
 have d := (AW h1).2
 rw [MA, ← d, OP, DS _ _ _ (by omega)]
 refine ⟨_, rfl, c.1, fun x => ?_⟩
 rw [c.2]
 simp
theorem IG (b : List ke) : ∀ (A l : List ke), uS (A ++ l) l A.length = some true
 | A, [] => rfl
 | A, x :: l => by
  rw [uS, nI A x l _ rfl]
  simp only [aA]
  rw [re.2 rfl]
  simp only [bV, aB, aN]
  have := IG b (A ++ [x]) l
  simpa using this
theorem I8 (l : List ke) : uh l l = some true := by
 unfold uh
 rw [aU (by simp)]
 exact IG [] [] l
def tt {κ : Type} (a : List κ) : List (κ × Bool) := a.map fun k => (k, true)
def ur {κ : Type} (beq : κ → κ → Bool) (a : List κ) (k : κ) : Bool := a.any fun x => beq k x
def ins {κ : Type} (beq : κ → κ → Bool) (a : List κ) (k : κ) : List κ := if ur beq a k then a else a ++ [k]
section
variable {κ : Type} {beq : κ → κ → Bool}
theorem qL (b : ∀ {x y}, beq x y = true ↔ x = y) (a : List κ) (k : κ) : ur beq a k = true ↔ k ∈ a := by
 simp [ur, ft, b]
theorem NB (a : List κ) : (tt a).length = a.length := by simp [tt]
theorem Ds (a : List κ) (k : κ) : xH beq (tt a) k false = ur beq a k := by
 unfold xH lU ur tt
 induction a with
 | nil => rfl
 | cons x xs ih =>
  simp only [bH, gf, List.any_cons]
  cases h : beq k x with
  | true => simp
  | false => simpa using ih
theorem HR (l : ∀ {x y}, beq x y = true ↔ x = y) (a : List κ) (k : κ) : nR beq (tt a) k true = tt (ins beq a k) := by
 unfold nR ins
 have m : (tt a).findIdx? (fun p => beq k p.1) = a.findIdx? (fun x => beq k x) := by
  unfold tt; rw [gH]; rfl
 rw [m]
 cases h : a.findIdx? (fun x => beq k x) with
 | none =>
  rw [fU] at h
  rw [aU]
  ·simp [tt]
  ·intro c
   unfold ur at c
   rw [ft] at c
   obtain ⟨x, n, b⟩ := c
   rw [h x n] at b
   cases b
 | some i =>
  rw [ei] at h
  obtain ⟨g, h1, _⟩ := h
  have e := l.1 h1
  rw [aV]
  ·simp only [tt]
   apply dQ
   intro j
   rw [fc]
   split
   ·rename_i d
    subst d
    simp [g, e]
   ·rfl
  ·unfold ur
   exact ft.2 ⟨a[i], eP g, h1⟩
end
section
variable {all : List ke} {wants : List kd} {T : List kd} {W : List ByteArray} {R : List ke}
def oQ (c : ke) : List kd := if c.Kind = 1 then [] else if c.Kind = 4 then [c.B, c.C] else [c.B]
end
theorem Q2 {c : ke} (h : lI c = true) : za c = some (c.Head :: oQ c) := by
 unfold za
 rw [rD, h]
 simp only [aA, bV, aB, aN]
 have a : c.Kind = 1 ∨ c.Kind = 2 ∨ c.Kind = 3 ∨ c.Kind = 4 := by rcases oa h with h | h | h | h <;> simp [h.1]
 rcases a with k | k | k | k
 ·simp [k, oQ]
 ·rw [aV (by simp [k]), mT (by simp) (by simp)]
  simp [k, oQ]
 ·rw [aV (by simp [k]), mT (by simp) (by simp)]
  simp [k, oQ]
 ·rw [aV (by simp [k]), mT (by simp) (by simp)]
  simp only [aA]
  rw [aV (by simp [k]), mT (by simp) (by simp)]
  simp [k, oQ]
theorem tM.congr {α : Type} {lt : α → α → Prop} {P : α → Prop} {l m s : List α} (h : tM lt P l s) (hm : ∀ x, x ∈ l ↔ x ∈ m) : tM lt P m s := ⟨h.1, fun x => by rw [h.2, hm]⟩
theorem QC {κ : Type} (a : List κ) : (tt a).map (·.1) = a := by simp [tt, fE]
def yo (c : ke) : Nat := c.Head.kj.size + c.Head.kq.size + c.kR.size + c.B.kj.size + c.B.kq.size + c.C.kj.size + c.C.kq.size + c.lj.size
section
variable {κ γ : Type} {beq : κ → κ → Bool}
theorem rl (a : ∀ {x y}, beq x y = true ↔ x = y) {A B : List (κ × γ)} {k : κ} {x : γ} (b : ∀ p ∈ A, p.1 ≠ k) : lU beq (A ++ (k, x) :: B) k = some x := by
 unfold lU
 rw [jr]
 have : A.find? (fun p => beq k p.1) = none := gy.2 (fun p hp h => b p hp (a.1 h).symm)
 rw [this]
 simp [a.2 (rfl : k = k)]
theorem wH (a : ∀ {x y}, beq x y = true ↔ x = y) {l : List (κ × γ)} {k : κ} (h : ∀ p ∈ l, p.1 ≠ k) : lU beq l k = none := by
 unfold lU
 rw [gy.2 (fun p hp b => h p hp (a.1 b).symm)]
 rfl
theorem xC (a : ∀ {x y}, beq x y = true ↔ x = y) {A B : List (κ × γ)} {k : κ} {x y : γ} (b : ∀ p ∈ A, p.1 ≠ k) : nR beq (A ++ (k, x) :: B) k y = A ++ (k, y) :: B := by
 have h1 : (A ++ (k, x) :: B).findIdx? (fun p => beq k p.1) = some A.length := by
  rw [iE, fU.2 (fun p hp => by
   cases h : beq k p.1 with
   | false => rfl
   | true => exact absurd (a.1 h).symm (b p hp))]
  simp [eT, a.2 (rfl : k = k)]
 rw [rA h1]
 simp
theorem Dl (a : ∀ {x y}, beq x y = true ↔ x = y) {l : List (κ × γ)} {k : κ} {y : γ} (h : ∀ p ∈ l, p.1 ≠ k) : nR beq l k y = l ++ [(k, y)] := by
 refine vH (fU.2 (fun p hp => ?_)) y
 cases b : beq k p.1 with
 | false => rfl
 | true => exact absurd (a.1 b).symm (h p hp)
theorem uP (k : κ) : ∀ (l : List (κ × γ)), (∀ p ∈ l, p.1 ≠ k) ∨ ∃ A x B, l = A ++ (k, x) :: B ∧ ∀ p ∈ A, p.1 ≠ k
 | [] => .inl (fun _ h => by cases h)
 | p :: l => by
  by_cases hp : p.1 = k
  ·exact .inr ⟨[], p.2, l, by rw [← hp]; rfl, fun _ h => by cases h⟩
  ·rcases uP k l with h | ⟨A, x, B, rfl, h⟩
   ·exact .inl (fun q a => by rcases aO.1 a with rfl | a; exact hp; exact h q a)
   ·exact .inr ⟨p :: A, x, B, rfl, fun q a => by rcases aO.1 a with rfl | a; exact hp; exact h q a⟩
theorem Gc (a : ∀ {x y}, beq x y = true ↔ x = y) (A B : List (κ × γ)) (k : κ) : lU beq (A ++ B) k = (lU beq A k).or (lU beq B k) := by
 unfold lU
 rw [jr]
 cases A.find? (fun p => beq k p.1) <;> rfl
theorem BU (p : κ × γ) (l : List (κ × γ)) (k : κ) : lU beq (p :: l) k = if beq k p.1 = true then some p.2 else lU beq l k := by
 unfold lU
 rw [gf]
 cases beq k p.1 <;> simp
theorem EJ (a : ∀ {x y}, beq x y = true ↔ x = y) (l : List (κ × γ)) (k k2 : κ) (y : γ) : lU beq (nR beq l k y) k2 = if beq k2 k = true then some y else lU beq l k2 := by
 rcases uP k l with h | ⟨A, x, B, rfl, h⟩
 ·rw [Dl a h, Gc a, BU]
  by_cases hk : beq k2 k = true
  ·have := a.1 hk
   subst this
   rw [aV hk, aV hk, wH a h]; rfl
  ·rw [aU hk, aU hk]
   show (lU beq l k2).or none = _
   cases lU beq l k2 <;> rfl
 ·rw [xC a h, Gc a, BU, Gc a, BU]
  by_cases hk : beq k2 k = true
  ·have := a.1 hk
   subst this
   rw [aV hk, aV hk, wH a h]; rfl
  ·rw [aU hk, aU hk, aU hk]
end
abbrev pv := List (kd × List ByteArray)
def mm (T : pv) : List (kd × List (ByteArray × Bool)) := T.map fun p => (p.1, tt p.2)
def sc (T : pv) (r : kd) : List ByteArray := (lU kG T r).getD []
def FS (T : pv) : List kk := T.flatMap fun p => p.2.map fun w => (⟨p.1, w⟩ : kk)
def EM (T : pv) (r : kd) (w : ByteArray) : pv := nR kG T r (sc T r ++ [w])
theorem Eo (A B : pv) : mm (A ++ B) = mm A ++ mm B := by simp [mm]
theorem zG {A : pv} {r : kd} (h : ∀ p ∈ A, p.1 ≠ r) : ∀ p ∈ mm A, p.1 ≠ r := by
 intro p hp
 simp only [mm, bG] at hp
 obtain ⟨q, a, rfl⟩ := hp
 exact h q a
theorem Qn (T : pv) (r : kd) : lU kG (mm T) r = (lU kG T r).map tt := by
 rcases uP r T with h | ⟨A, x, B, rfl, h⟩
 ·rw [wH kE h, wH kE (zG h)]; rfl
 ·rw [rl kE h, Eo]
  exact rl kE (zG h)
theorem LN (T : pv) (r : kd) : (lU kG (mm T) r).getD [] = tt (sc T r) := by
 rw [Qn, sc]; cases lU kG T r <;> rfl
theorem Hk (T : pv) (r : kd) (w : ByteArray) : (FS (EM T r w)).Perm (FS T ++ [(⟨r, w⟩ : kk)]) := by
 unfold EM sc
 rcases uP r T with h | ⟨A, x, B, rfl, h⟩
 ·rw [Dl kE h, wH kE h]
  simp [FS]
 ·rw [xC kE h, rl kE h]
  simp only [FS, iM, ib, ir, cC, bH, ev, aK]
  refine cA _ (cA _ ?_)
  exact eW
theorem OY {T : pv} (hk : (T.map (·.1)).Nodup) (r : kd) (w : ByteArray) : ((EM T r w).map (·.1)).Nodup := by
 unfold EM
 rcases uP r T with h | ⟨A, x, B, rfl, h⟩
 ·rw [Dl kE h]
  simp only [cC, bH, ev]
  refine bU.2 ⟨hk, by simp, fun a ha b c e => ?_⟩
  simp at c; subst c; subst e
  obtain ⟨p, hp, e⟩ := bG.1 ha
  exact h p hp e
 ·rw [xC kE h]
  simpa using hk
theorem BE {T : pv} (hk : (T.map (·.1)).Nodup) (f : kk) : f ∈ FS T ↔ f.kR ∈ sc T f.kd := by
 simp only [FS, iw, bG]
 constructor
 ·rintro ⟨p, hp, w, hw, rfl⟩
  obtain ⟨A, B, rfl⟩ := List.append_of_mem hp
  have a : ∀ q ∈ A, q.1 ≠ p.1 := fun q c e => by
   rw [cC, bH] at hk
   exact (bU.1 hk).2.2 q.1 (bG.2 ⟨q, c, rfl⟩) p.1 (by simp) e
  rw [sc, show p = (p.1, p.2) from rfl, rl kE a]
  exact hw
 ·intro h
  unfold sc at h
  rcases uP f.kd T with b | ⟨A, x, B, rfl, a⟩
  ·rw [wH kE b] at h; cases h
  ·rw [rl kE a] at h
   exact ⟨(f.kd, x), by simp, f.kR, h, rfl⟩
theorem KF {T : pv} (h : (FS T).Nodup) (r : kd) : (sc T r).Nodup := by
 unfold sc
 rcases uP r T with b | ⟨A, x, B, rfl, a⟩
 ·rw [wH kE b]; simp
 ·rw [rl kE a]
  simp only [FS, iM, ib] at h
  have h1 := (bU.1 (bU.1 h).2.1).1
  simp only [List.Nodup, fF] at h1
  exact h1.imp (fun h e => h (by rw [e]))
inductive nU (C : List ke) : kk → Prop
 | mem (c) : c ∈ C → c.Kind = 1 → nU C ⟨c.Head, c.kR⟩
 | inc (c w) : c ∈ C → c.Kind = 2 → nU C ⟨c.B, w⟩ → nU C ⟨c.Head, w⟩
 | FI (c b w) : c ∈ C → c.Kind = 3 → nU C ⟨c.B, b⟩ → nU C ⟨⟨b, c.lj⟩, w⟩ → nU C ⟨c.Head, w⟩
 | both (c w) : c ∈ C → c.Kind = 4 → nU C ⟨c.B, w⟩ → nU C ⟨c.C, w⟩ → nU C ⟨c.Head, w⟩
theorem nU.mono {C C' : List ke} (h : ∀ c ∈ C, c ∈ C') {f : kk} (i : nU C f) : nU C' f := by
 induction i with
 | mem c a hk => exact .mem c (h c a) hk
 | inc c w a hk _ ih => exact .inc c w (h c a) hk ih
 | FI c b w a hk _ _ d g => exact .FI c b w (h c a) hk d g
 | both c w a hk _ _ d g => exact .both c w (h c a) hk d g
def Ce (C : List ke) : List kk := (C.map (·.Head)).flatMap fun r => (C.map (·.kR)).map fun w => (⟨r, w⟩ : kk)
theorem zn (C : List ke) : (Ce C).length = C.length * C.length := by
 unfold Ce
 have : ∀ l : List kd, (l.flatMap fun r => (C.map (·.kR)).map fun w => (⟨r, w⟩ : kk)).length = l.length * C.length := fun l => by
  induction l with
  | nil => simp
  | cons x l ih => simp only [ib, aC, ih, cR, aJ, cL]; omega
 rw [this, cR]
theorem QT {C : List ke} {r : kd} {w : ByteArray} : (⟨r, w⟩ : kk) ∈ Ce C ↔ (∃ c ∈ C, c.Head = r) ∧ ∃ c ∈ C, c.kR = w := by
 unfold Ce
 simp only [iw, bG, kk.mk.injEq]
 constructor
 ·rintro ⟨g, ⟨c, d, rfl⟩, h, ⟨b, a, rfl⟩, rfl, rfl⟩; exact ⟨⟨c, d, rfl⟩, b, a, rfl⟩
 ·rintro ⟨⟨c, d, rfl⟩, b, a, rfl⟩; exact ⟨_, ⟨c, d, rfl⟩, _, ⟨b, a, rfl⟩, rfl, rfl⟩
theorem nU.tZ {C : List ke} {f : kk} (h : nU C f) : ∃ c ∈ C, c.Kind = 1 ∧ c.kR = f.kR := by
 induction h with
 | mem c g hk => exact ⟨c, g, hk, rfl⟩
 | inc c w g hk _ ih => exact ih
 | FI c b w g hk _ _ a d => exact d
 | both c w g hk _ _ a d => exact a
theorem nU.head {C : List ke} {f : kk} (h : nU C f) : ∃ c ∈ C, c.Head = f.kd := by
 cases h with
 | mem c a hk => exact ⟨c, a, rfl⟩
 | inc c w a hk _ => exact ⟨c, a, rfl⟩
 | FI c b w a hk _ _ => exact ⟨c, a, rfl⟩
 | both c w a hk _ _ => exact ⟨c, a, rfl⟩
theorem nU.Ce {C : List ke} {f : kk} (h : nU C f) : f ∈ Ce C := by
 obtain ⟨c, a, _, hw⟩ := h.tZ
 exact QT.2 ⟨h.head, c, a, hw⟩
structure qK (C : List ke) (T : pv) (td : List kk) (n : Int) : Prop where
 keys : (T.map (·.1)).Nodup
 nd : (FS T).Nodup
 KS : td.Nodup
 sub : ∀ f ∈ td, f ∈ FS T
 num : n = (FS T).length
 xO : ∀ f ∈ FS T, nU C f
theorem qK.len {C : List ke} {T : pv} {b : List kk} {n : Int} (h : qK C T b n) : (FS T).length ≤ C.length * C.length := by
 rw [← zn]; exact mA h.nd (fun f a => (h.xO f a).Ce)
theorem qK.Sh {C : List ke} {T : pv} {a : List kk} {n : Int} (h : qK C T a n) : a.length ≤ (FS T).length := mA h.KS h.sub
theorem qK.mono {C C' : List ke} {T : pv} {a : List kk} {n : Int} (h : qK C T a n) (b : ∀ c ∈ C, c ∈ C') : qK C' T a n := ⟨h.keys, h.nd, h.KS, h.sub, h.num, fun f d => (h.xO f d).mono b⟩
structure Ak (T : pv) (td : List kk) (T' : pv) (td' : List kk) : Prop where
 mR : ∀ f ∈ FS T, f ∈ FS T'
 todo : ∀ f ∈ td, f ∈ td'
 new : ∀ f ∈ FS T', f ∈ FS T ∨ f ∈ td'
 fresh : ∀ f ∈ td', f ∈ td ∨ f ∉ FS T
theorem Ak.refl (T : pv) (a : List kk) : Ak T a T a := ⟨fun _ h => h, fun _ h => h, fun _ h => .inl h, fun _ h => .inl h⟩
theorem Ak.trans {T T' T'' : pv} {g d a : List kk} (h : Ak T g T' d) (k : Ak T' d T'' a) : Ak T g T'' a :=
 ⟨fun f b => k.mR f (h.mR f b), fun f b => k.todo f (h.todo f b), fun f b => by
  rcases k.new f b with h1 | h1
  ·rcases h.new f h1 with c | c
   ·exact .inl c
   ·exact .inr (k.todo f c)
  ·exact .inr h1, fun f b => by
  rcases k.fresh f b with h1 | h1
  ·exact h.fresh f h1
  ·exact .inr (fun c => h1 (h.mR f c))⟩
theorem Hy {α : Type} (p : α → Bool) : ∀ l : List α, (l.filter p).length + (l.filter fun x => !p x).length = l.length
 | [] => rfl
 | x :: l => by
  have := Hy p l
  cases h : p x <;> simp [h] <;> omega
theorem qK.FT {C C' : List ke} {T T' : pv} {d c : List kk} {n m : Int} (i : qK C' T' c m) (g : qK C T d n) (x : Ak T d T' c) : c.length + (FS T).length ≤ d.length + (FS T').length := by
 classical
 have h1 : (c.filter fun f => decide (f ∈ FS T)).length ≤ d.length := mA (i.KS.filter _) (fun f j => by
  have := cM.1 j
  rcases x.fresh f this.1 with h | h
  ·exact h
  ·exact absurd (by simpa using this.2) h)
 have k : (FS T ++ c.filter fun f => !decide (f ∈ FS T)).length ≤ (FS T').length := mA (bU.2 ⟨g.nd, i.KS.filter _, fun a ha b l e => by
  subst e
  have := (cM.1 l).2
  simp [ha] at this⟩) (fun f j => by
  rcases aQ.1 j with h | h
  ·exact x.mR f h
  ·exact i.sub f (cM.1 h).1)
 have o : (c.filter fun f => decide (f ∈ FS T)).length + (c.filter fun f => !decide (f ∈ FS T)).length = c.length := by
  exact Hy (fun f => decide (f ∈ FS T)) c
 rw [aC] at k
 omega
def Ct (C : List ke) (T : pv) (d : List kk) (b : Option (List (kd × List (ByteArray × Bool)) × List kk × Int)) (Q : pv → Prop) : Prop :=
 ∃ T' a c, b = some (mm T', a, c) ∧ qK C T' a c ∧ Ak T d T' a ∧ Q T'
theorem Ct.mono {C : List ke} {T : pv} {d : List kk} {a : Option (List (kd × List (ByteArray × Bool)) × List kk × Int)} {Q Q' : pv → Prop} (h : Ct C T d a Q) (j : ∀ T', (∀ f ∈ FS T, f ∈ FS T') → Q T' → Q' T') : Ct C T d a Q' := by
 obtain ⟨T', b, k, h1, g, c, i⟩ := h
 exact ⟨T', b, k, h1, g, c, j T' c.mR i⟩
def rn (C : List ke) : Prop := C.length ≤ 1000000
theorem rn.sq {C : List ke} (h : rn C) : C.length * C.length ≤ 1000000000000 := gZ h h
theorem tH {T : pv} (hk : (T.map (·.1)).Nodup) (r : kd) (w : ByteArray) : xH lK ((lU kG (mm T) r).getD []) w false = true ↔ (⟨r, w⟩ : kk) ∈ FS T := by
 rw [LN, Ds, qL mJ, BE hk]
theorem CS {C : List ke} (v : rn C) {T : pv} {j : List kk} {n : Int} (h : qK C T j n) (cs : List ke) (G : List (kd × List ke)) (ws : List (ByteArray × List ke)) {r : kd} {w : ByteArray} (y : nU C ⟨r, w⟩) :
  Ct C T j (oe (mm T) cs G ws j n r w) (fun T' => (⟨r, w⟩ : kk) ∈ FS T') := by
 unfold oe
 have D := v.sq
 have I := h.len
 have E := h.Sh
 by_cases d : (⟨r, w⟩ : kk) ∈ FS T
 ·rw [aV ((tH h.keys r w).2 d)]
  exact ⟨T, j, n, rfl, h, Ak.refl _ _, d⟩
 ·rw [aU (fun s => d ((tH h.keys r w).1 s))]
  have z : qK C (EM T r w) (j ++ [⟨r, w⟩]) (n + 1) := by
   have hp := Hk T r w
   refine ⟨OY h.keys r w, (hp.nodup_iff).2 (bU.2 ⟨h.nd, by simp, fun a ha b m e => ?_⟩), bU.2 ⟨h.KS, by simp, fun a ha b m e => ?_⟩, fun f c => hp.mem_iff.2 ?_, ?_, fun f c => ?_⟩
   ·simp at m; subst m; subst e; exact d ha
   ·simp at m; subst m; subst e; exact d (h.sub _ ha)
   ·rcases aQ.1 c with c | c
    ·exact bX _ (h.sub f c)
    ·exact dC _ c
   ·rw [hp.length_eq, h.num]; simp
   ·rcases aQ.1 (hp.mem_iff.1 c) with c | c
    ·exact h.xO f c
    ·simp at c; subst c; exact y
  have t : ((if (lU kG (mm T) r).isNone = true then ((Gv kG (mm T) r []).bind fun l => some l) else some (mm T)) : Option _).bind (fun l => (F8 kG lK l r w true)) = some (mm (EM T r w)) := by
   unfold EM sc
   rcases uP r T with i | ⟨A, x, B, rfl, q⟩
   ·have p := wH kE (zG i)
    rw [p, wH kE i, Dl kE i, Eo]
    simp only [Option.isNone_none, aZ, Gv, p, aA]
    rw [Dl kE (zG i)]
    unfold F8
    rw [rl kE (zG i)]
    simp only [dN]
    rw [xC kE (zG i)]
    rfl
   ·have k := zG q
    have u : lU kG (mm (A ++ (r, x) :: B)) r = some (tt x) := by rw [Eo]; exact rl kE k
    rw [u, rl kE q, xC kE q]
    simp only [Option.isNone_some, aB, aN, aA, F8, u, dN, ir]
    have F : w ∉ x := fun hw => d (by
     rw [BE h.keys, sc, rl kE q]; exact hw)
    rw [HR mJ]
    rw [show ins lK x w = x ++ [w] from by unfold ins; rw [aU (fun s => F ((qL mJ x w).1 s))]]
    rw [Eo, show mm ((r, x) :: B) = (r, tt x) :: mm B from rfl, xC kE k, Eo]
    rfl
  refine ⟨EM T r w, j ++ [⟨r, w⟩], n + 1, ?_, z, ⟨fun f c => (Hk T r w).mem_iff.2 (bX _ c), fun f c => bX _ c, fun f c => ?_, fun f c => ?_⟩, (Hk T r w).mem_iff.2 (by simp)⟩
  ·have g := t
   generalize ((if (lU kG (mm T) r).isNone = true then ((Gv kG (mm T) r []).bind fun l => some l) else some (mm T)) : Option _) = o at g
   cases o with
   | none => cases g
   | some l =>
    simp only [aA] at g ⊢
    rw [g]
    simp only [aA]
    rw [mT (by simp; omega) (by simp; omega)]
    simp only [aA]
    rw [lG (by rw [h.num]; omega) (by rw [h.num]; omega)]
  ·rcases aQ.1 ((Hk T r w).mem_iff.1 c) with h1 | h1
   ·exact .inl h1
   ·exact .inr (dC _ h1)
  ·rcases aQ.1 c with h1 | h1
   ·exact .inl h1
   ·simp at h1; subst h1; exact .inr d
theorem zX (l : List ByteArray) (x : ByteArray) : x ∈ oF l ↔ x ∈ l := by unfold oF; simp
def qp (C : List ke) : Prop := ∀ c ∈ C, lI c = true
theorem NO {c : ke} (h : lI c = true) (hk : c.Kind = 1) : c.kR.size ≤ 16 := by
 rcases oa h with h | h | h | h
 ·exact (oL h.2.1).2
 ·exact absurd (hk.symm.trans h.1) (by decide)
 ·exact absurd (hk.symm.trans h.1) (by decide)
 ·exact absurd (hk.symm.trans h.1) (by decide)
theorem Ox {T : pv} (r : kd) (hk : (T.map (·.1)).Nodup) : (sc T r).length ≤ (FS T).length := by
 unfold sc
 rcases uP r T with b | ⟨A, x, B, rfl, a⟩
 ·rw [wH kE b]; simp
 ·rw [rl kE a]
  simp only [FS, iM, ib, aC, cR, ir]
  omega
theorem Hn {C : List ke} (a : rn C) (b : qp C) {T : pv} {i : List kk} {n : Int} (h : qK C T i n) (cs : List ke) (j : List (kd × List ke)) (ws : List (ByteArray × List ke)) (q : List kk) (z : Int) (r : kd) :
  qS (mm T) cs j ws q z r = some (oF (sc T r)) := by
 unfold qS pd
 rw [LN]
 simp only [aA, oY]
 have m := Ox r h.keys
 have k := h.len
 have l := a.sq
 unfold GK
 rw [QC, aV]
 refine ⟨KF h.nd r, fun p hp => ?_, by rw [NB]; omega⟩
 simp only [tt, bG] at hp
 obtain ⟨w, hw, rfl⟩ := hp
 have g := h.xO ⟨r, w⟩ ((BE h.keys ⟨r, w⟩).2 hw)
 obtain ⟨c, d, hk, e⟩ := g.tZ
 have := NO (b c d) hk
 simp only at e ⊢
 rw [← e]
 unfold maxLen
 omega
theorem M9 {C : List ke} (g : rn C) (cs : List ke) (d : List (kd × List ke)) (ws : List (ByteArray × List ke)) (head : kd) : ∀ (l : List ByteArray) {T : pv} {a : List kk} {n : Int}, qK C T a n → (∀ w ∈ l, nU C ⟨head, w⟩) →
  Ct C T a (qt cs d ws head l (mm T) a n) (fun T' => ∀ w ∈ l, (⟨head, w⟩ : kk) ∈ FS T')
 | [], T, a, n, h, _ => ⟨T, a, n, rfl, h, Ak.refl _ _, fun _ hw => by cases hw⟩
 | w :: l, T, a, n, h, i => by
  rw [qt]
  obtain ⟨T1, q, r, j, g1, x1, o⟩ := CS g h cs d ws (i w (by simp))
  rw [j]
  simp only [aA]
  obtain ⟨T2, c, m, k, g2, x2, p⟩ := M9 g cs d ws head l g1 (fun w hw => i w (by simp [hw]))
  refine ⟨T2, c, m, k, g2, x1.trans x2, fun v b => ?_⟩
  rcases aO.1 b with rfl | b
  ·exact x2.mR _ o
  ·exact p v b
theorem Rh {C : List ke} (b : rn C) (d : qp C) {T : pv} {a : List kk} {n : Int} (h : qK C T a n) (cs : List ke) (c : List (kd × List ke)) (ws : List (ByteArray × List ke)) (r head : kd) (g : ∀ w, (⟨r, w⟩ : kk) ∈ FS T → nU C ⟨head, w⟩) :
  Ct C T a (uC (mm T) cs c ws a n r head) (fun T' => ∀ w, (⟨r, w⟩ : kk) ∈ FS T → (⟨head, w⟩ : kk) ∈ FS T') := by
 unfold uC
 rw [Hn b d h]
 simp only [aA]
 refine (M9 b cs c ws head _ h (fun w hw => g w ((BE h.keys ⟨r, w⟩).2 ((zX _ _).1 hw)))).mono (fun T' _ i w hw => i w ((zX _ _).2 ((BE h.keys ⟨r, w⟩).1 hw)))
def E4 (c : ke) (f : kk) (T T' : pv) : Prop :=
 (c.Kind = 2 → f.kd = c.B → (⟨c.Head, f.kR⟩ : kk) ∈ FS T') ∧
 (c.Kind = 3 → f.kd = c.B → ∀ w, (⟨⟨f.kR, c.lj⟩, w⟩ : kk) ∈ FS T → (⟨c.Head, w⟩ : kk) ∈ FS T') ∧
 (c.Kind = 4 → (⟨c.B, f.kR⟩ : kk) ∈ FS T → (⟨c.C, f.kR⟩ : kk) ∈ FS T → (⟨c.Head, f.kR⟩ : kk) ∈ FS T')
theorem E4.mono {c : ke} {f : kk} {T T' T0 T1 : pv} (h : E4 c f T T') (g : ∀ f ∈ FS T0, f ∈ FS T) (h1 : ∀ f ∈ FS T', f ∈ FS T1) : E4 c f T0 T1 :=
 ⟨fun a b => h1 _ (h.1 a b), fun a b w hw => h1 _ (h.2.1 a b w (g _ hw)), fun a b d => h1 _ (h.2.2 a (g _ b) (g _ d))⟩
theorem PY (x : Option (List (kd × List (ByteArray × Bool)) × List kk × Int)) : (x.bind fun r => some (r.1, r.2.1, r.2.2)) = x := by cases x <;> rfl
theorem Nc {C : List ke} (o : rn C) (t : qp C) {T : pv} {i : List kk} {n : Int} (h : qK C T i n) (cs : List ke) (l : List (kd × List ke)) (ws : List (ByteArray × List ke)) {c : ke} (p : c ∈ C) {f : kk} (r : f ∈ FS T) (s : f.kd ∈ oQ c) :
  Ct C T i (rS (mm T) cs l ws i n c f) (E4 c f T) := by
 unfold rS
 simp only [PY, zT]
 by_cases a : c.Kind = 2
 ·have m : f.kd = c.B := by simpa [oQ, a] using s
  rw [aV (by simp [a])]
  have q : nU C ⟨c.Head, f.kR⟩ := .inc c f.kR p a (by rw [← m]; exact h.xO f r)
  refine (CS o h cs l ws q).mono (fun T' _ g => ⟨fun _ _ => g, fun k => absurd (a.symm.trans k) (by decide), fun k => absurd (a.symm.trans k) (by decide)⟩)
 rw [aU (by simp [a])]
 by_cases b : c.Kind = 3
 ·have m : f.kd = c.B := by simpa [oQ, b] using s
  rw [aV (by simp [b])]
  refine (Rh o t h cs l ws ⟨f.kR, c.lj⟩ c.Head (fun w hw => .FI c f.kR w p b (by rw [← m]; exact h.xO f r) (h.xO _ hw))).mono (fun T' _ g => ⟨fun k => absurd k a, fun _ _ w hw => g w hw, fun k => absurd (b.symm.trans k) (by decide)⟩)
 rw [aU (by simp [b])]
 by_cases j : c.Kind = 4
 ·rw [aV (by simp [j])]
  simp only [aA]
  by_cases d : (⟨c.B, f.kR⟩ : kk) ∈ FS T ∧ (⟨c.C, f.kR⟩ : kk) ∈ FS T
  ·rw [aV (by rw [bn, tH h.keys, tH h.keys]; exact d)]
   have q : nU C ⟨c.Head, f.kR⟩ := .both c f.kR p j (h.xO _ d.1) (h.xO _ d.2)
   exact (CS o h cs l ws q).mono (fun T' _ g => ⟨fun k => absurd k a, fun k => absurd k b, fun _ _ _ => g⟩)
  ·rw [aU (by rw [bn, tH h.keys, tH h.keys]; exact d)]
   exact ⟨T, i, n, rfl, h, Ak.refl _ _, fun k => absurd k a, fun k => absurd k b, fun _ x y => absurd ⟨x, y⟩ d⟩
 ·rw [aU (by simp [j])]
  exact ⟨T, i, n, rfl, h, Ak.refl _ _, fun k => absurd k a, fun k => absurd k b, fun k => absurd k j⟩
theorem Jw {C : List ke} (i : rn C) (j : qp C) (cs : List ke) (g : List (kd × List ke)) (ws : List (ByteArray × List ke)) {c : ke} (k : c ∈ C) (m : c.B ∈ oQ c) : ∀ (l : List ByteArray) {T : pv} {a : List kk} {n : Int}, qK C T a n → (∀ w ∈ l, (⟨c.B, w⟩ : kk) ∈ FS T) →
  Ct C T a (pC cs g ws c l (mm T) a n) (fun T' => ∀ w ∈ l, E4 c ⟨c.B, w⟩ T T')
 | [], T, a, n, h, _ => ⟨T, a, n, rfl, h, Ak.refl _ _, fun _ hw => by cases hw⟩
 | w :: l, T, a, n, h, hm => by
  rw [pC]
  obtain ⟨T1, t, u, o, g1, x1, r⟩ := Nc i j h cs g ws k (f := ⟨c.B, w⟩) (hm w (by simp)) m
  rw [o]
  simp only [aA]
  obtain ⟨T2, d, q, p, g2, x2, s⟩ := Jw i j cs g ws k m l g1 (fun w hw => x1.mR _ (hm w (by simp [hw])))
  refine ⟨T2, d, q, p, g2, x1.trans x2, fun v b => ?_⟩
  rcases aO.1 b with rfl | b
  ·exact r.mono (fun _ h => h) x2.mR
  ·exact (s v b).mono x1.mR (fun _ h => h)
def FF (c : ke) (T : pv) (a : List kk) : Prop :=
 (c.Kind = 1 → (⟨c.Head, c.kR⟩ : kk) ∈ FS T) ∧
 (c.Kind = 2 → ∀ w, (⟨c.B, w⟩ : kk) ∈ FS T → (⟨c.B, w⟩ : kk) ∉ a → (⟨c.Head, w⟩ : kk) ∈ FS T) ∧
 (c.Kind = 3 → ∀ b w, (⟨c.B, b⟩ : kk) ∈ FS T → (⟨c.B, b⟩ : kk) ∉ a → (⟨⟨b, c.lj⟩, w⟩ : kk) ∈ FS T → (⟨⟨b, c.lj⟩, w⟩ : kk) ∉ a → (⟨c.Head, w⟩ : kk) ∈ FS T) ∧
 (c.Kind = 4 → ∀ w, (⟨c.B, w⟩ : kk) ∈ FS T → (⟨c.B, w⟩ : kk) ∉ a → (⟨c.C, w⟩ : kk) ∈ FS T → (⟨c.C, w⟩ : kk) ∉ a → (⟨c.Head, w⟩ : kk) ∈ FS T)
theorem FF.ext {c : ke} {T T' : pv} {i d : List kk} (h : FF c T i) (x : Ak T i T' d) : FF c T' d := by
 have mR : ∀ f, f ∈ FS T' → f ∉ d → f ∈ FS T ∧ f ∉ i := fun f m j => by
  rcases x.new f m with h1 | h1
  ·exact ⟨h1, fun l => j (x.todo f l)⟩
  ·exact absurd h1 j
 refine ⟨fun k => x.mR _ (h.1 k), fun k w a b => ?_, fun k b w g a2 a3 a4 => ?_, fun k w g a2 a3 a4 => ?_⟩
 ·exact x.mR _ (h.2.1 k w (mR _ a b).1 (mR _ a b).2)
 ·exact x.mR _ (h.2.2.1 k b w (mR _ g a2).1 (mR _ g a2).2 (mR _ a3 a4).1 (mR _ a3 a4).2)
 ·exact x.mR _ (h.2.2.2 k w (mR _ g a2).1 (mR _ g a2).2 (mR _ a3 a4).1 (mR _ a3 a4).2)
theorem Px {C : List ke} (l : rn C) (r : qp C) {T : pv} {o : List kk} {n : Int} (h : qK C T o n) (cs : List ke) (p : List (kd × List ke)) (ws : List (ByteArray × List ke)) {c : ke} (s : c ∈ C) :
  ∃ T' d i, sR (mm T) cs p ws o n c = some (mm T', d, i) ∧ qK C T' d i ∧ Ak T o T' d ∧ FF c T' d := by
 unfold sR
 simp only [PY]
 by_cases h1 : c.Kind = 1
 ·rw [aV (by simp [h1])]
  obtain ⟨T', d, i, e, g, x, q⟩ := CS l h cs p ws (nU.mem c s h1)
  exact ⟨T', d, i, e, g, x, fun _ => q, fun k => absurd (h1.symm.trans k) (by decide), fun k => absurd (h1.symm.trans k) (by decide), fun k => absurd (h1.symm.trans k) (by decide)⟩
 ·rw [aU (by simp [h1]), Hn l r h]
  simp only [aA]
  have v : c.B ∈ oQ c := by unfold oQ; rw [aU h1]; split <;> simp
  obtain ⟨T', d, i, e, g, x, q⟩ := Jw l r cs p ws s v (oF (sc T c.B)) h (fun w hw => (BE h.keys ⟨c.B, w⟩).2 ((zX _ _).1 hw))
  have mR : ∀ f, f ∈ FS T' → f ∉ d → f ∈ FS T := fun f t u => by
   rcases x.new f t with h1 | h1
   ·exact h1
   ·exact absurd h1 u
  have m : ∀ w, (⟨c.B, w⟩ : kk) ∈ FS T → E4 c ⟨c.B, w⟩ T T' := fun w hw => q w ((zX _ _).2 ((BE h.keys ⟨c.B, w⟩).1 hw))
  refine ⟨T', d, i, e, g, x, fun k => absurd k h1, fun k w a b => ?_, fun k b w j a2 a3 a4 => ?_, fun k w j a2 a3 a4 => ?_⟩
  ·exact (m w (mR _ a b)).1 k rfl
  ·exact (m b (mR _ j a2)).2.1 k rfl w (mR _ a3 a4)
  ·exact (m w (mR _ j a2)).2.2 k (mR _ j a2) (mR _ a3 a4)
structure EH (C : List ke) (us : List (kd × List ke)) (ws : List (ByteArray × List ke)) : Prop where
 OG : ∀ r c, c ∈ (lU kG us r).getD [] ↔ c ∈ C ∧ r ∈ oQ c
 word : ∀ w c, c ∈ (lU lK ws w).getD [] ↔ c ∈ C ∧ c.Kind = 3 ∧ c.lj = w
 RS : ∀ r, ((lU kG us r).getD []).length ≤ 2 * C.length
 R0 : ∀ w, ((lU lK ws w).getD []).length ≤ C.length
theorem H9 {C : List ke} (i : rn C) (j : qp C) (cs : List ke) (g : List (kd × List ke)) (ws : List (ByteArray × List ke)) {f : kk} : ∀ (l : List ke) {T : pv} {a : List kk} {n : Int}, qK C T a n → f ∈ FS T → (∀ c ∈ l, c ∈ C ∧ f.kd ∈ oQ c) →
  Ct C T a (pp cs g ws f l (mm T) a n) (fun T' => ∀ c ∈ l, E4 c f T T')
 | [], T, a, n, h, _, _ => ⟨T, a, n, rfl, h, Ak.refl _ _, fun _ hw => by cases hw⟩
 | c :: l, T, a, n, h, k, hm => by
  rw [pp]
  obtain ⟨T1, t, u, m, g1, x1, r⟩ := Nc i j h cs g ws (hm c (by simp)).1 k (hm c (by simp)).2
  rw [m]
  simp only [aA]
  obtain ⟨T2, d, q, o, g2, x2, s⟩ := H9 i j cs g ws l g1 (x1.mR _ k) (fun c p => hm c (by simp [p]))
  refine ⟨T2, d, q, o, g2, x1.trans x2, fun v b => ?_⟩
  rcases aO.1 b with rfl | b
  ·exact r.mono (fun _ h => h) x2.mR
  ·exact (s v b).mono x1.mR (fun _ h => h)
theorem Eu {C : List ke} (m : rn C) (t : qp C) (cs : List ke) (j : List (kd × List ke)) (ws : List (ByteArray × List ke)) {f : kk} : ∀ (l : List ke) {T : pv} {g : List kk} {n : Int}, qK C T g n → f ∈ FS T → (∀ c ∈ l, c ∈ C ∧ c.Kind = 3 ∧ c.lj = f.kd.kq) →
  Ct C T g (om f cs j ws l (mm T) g n) (fun T' => ∀ c ∈ l, (⟨c.B, f.kd.kj⟩ : kk) ∈ FS T → (⟨c.Head, f.kR⟩ : kk) ∈ FS T')
 | [], T, g, n, h, _, _ => ⟨T, g, n, rfl, h, Ak.refl _ _, fun _ hw => by cases hw⟩
 | c :: l, T, g, n, h, p, hm => by
  rw [om]
  have hk := hm c (by simp)
  by_cases i : (⟨c.B, f.kd.kj⟩ : kk) ∈ FS T
  ·rw [aV ((tH h.keys _ _).2 i)]
   have q : f = ⟨⟨f.kd.kj, c.lj⟩, f.kR⟩ := by rw [hk.2.2]
   have w : nU C ⟨c.Head, f.kR⟩ := .FI c f.kd.kj f.kR hk.1 hk.2.1 (h.xO _ i) (by rw [← q]; exact h.xO f p)
   obtain ⟨T1, z, A, u, g1, x1, y⟩ := CS m h cs j ws w
   rw [u]
   simp only [aA]
   obtain ⟨T2, d, r, k, g2, x2, s⟩ := Eu m t cs j ws l g1 (x1.mR _ p) (fun c o => hm c (by simp [o]))
   refine ⟨T2, d, r, k, g2, x1.trans x2, fun v b a => ?_⟩
   rcases aO.1 b with rfl | b
   ·exact x2.mR _ y
   ·exact s v b (x1.mR _ a)
  ·rw [aU (fun x => i ((tH h.keys _ _).1 x))]
   obtain ⟨T2, d, r, k, g2, x2, s⟩ := Eu m t cs j ws l h p (fun c o => hm c (by simp [o]))
   refine ⟨T2, d, r, k, g2, x2, fun v b a => ?_⟩
   rcases aO.1 b with rfl | b
   ·exact absurd a i
   ·exact s v b a
theorem Iw {C : List ke} (D : rn C) (E : qp C) {cs : List ke} {z : List (kd × List ke)} {ws : List (ByteArray × List ke)} (t : EH C z ws) : ∀ (m : Nat) {T : pv} {l : List kk} {n : Int}, qK C T l n → (∀ c ∈ C, FF c T l) → C.length * C.length + l.length < m + (FS T).length →
  ∃ T' I, nH cs z ws m (mm T) l n = some (mm T', [], I) ∧ qK C T' [] I ∧ (∀ c ∈ C, FF c T' []) ∧ (∀ f ∈ FS T, f ∈ FS T')
 | 0, T, l, n, h, _, hm => by have := h.len; omega
 | m + 1, T, [], n, h, p, hm => by
  rw [nH]
  exact ⟨T, n, rfl, h, p, fun _ h => h⟩
 | m + 1, T, f :: l, n, h, p, hm => by
  rw [nH]
  rw [aV (by simp)]
  have G : f ∈ FS T := h.sub f (by simp)
  have P := (dF.1 h.KS)
  simp only [lN, Int.le_refl, aZ, Int.toNat_zero, gA, aA]
  rw [show ot (decide ((0 : Nat) ≤ 1) && decide ((1 : Int) ≤ ((f :: l).length : Int))) = some () by simp [ot]; omega]
  simp only [aA, show Int.toNat 1 = 1 from rfl, List.drop_one, List.tail_cons]
  have F : qK C T l n := ⟨h.keys, h.nd, P.2, fun g v => h.sub g (by simp [v]), h.num, h.xO⟩
  obtain ⟨T1, Z, n1, L, g1, x1, W⟩ := H9 D E cs z ws ((lU kG z f.kd).getD []) F G (fun c i => (t.OG _ c).1 i)
  rw [L]
  simp only [aA]
  obtain ⟨T2, q, n2, M, g2, x2, Y⟩ := Eu D E cs z ws ((lU lK ws f.kd.kq).getD []) g1 (x1.mR _ G) (fun c i => (t.word _ c).1 i)
  rw [M]
  simp only [aA]
  have x := x1.trans x2
  have mR : ∀ g, g ∈ FS T2 → g ∉ q → g ∈ FS T ∧ (g = f ∨ g ∉ f :: l) := fun g v y => by
   rcases x.new g v with h1 | h1
   ·refine ⟨h1, ?_⟩
    by_cases he : g = f
    ·exact .inl he
    ·exact .inr (fun s => by
      rcases aO.1 s with s | s
      ·exact he s
      ·exact y (x.todo g s))
   ·exact absurd h1 y
  have d1 : ∀ c ∈ C, f.kd ∈ oQ c → E4 c f T T2 := fun c i Q => (W c ((t.OG _ c).2 ⟨i, Q⟩)).mono (fun _ h => h) x2.mR
  have u : ∀ c ∈ C, FF c T2 q := fun c i => by
   have k := p c i
   refine ⟨fun hk => x.mR _ (k.1 hk), fun hk w a b => ?_, fun hk b w A a2 a3 a4 => ?_, fun hk w A a2 a3 a4 => ?_⟩
   ·obtain ⟨o, d⟩ := mR _ a b
    rcases d with d | d
    ·subst d; exact (d1 c i (by simp [oQ, hk])).1 hk rfl
    ·exact x.mR _ (k.2.1 hk w o d)
   ·obtain ⟨o, d⟩ := mR _ A a2
    obtain ⟨r, j⟩ := mR _ a3 a4
    rcases d with d | d
    ·subst d; exact (d1 c i (by simp [oQ, hk])).2.1 hk rfl w r
    ·rcases j with j | j
     ·subst j
      exact Y c ((t.word _ c).2 ⟨i, hk, rfl⟩) (x1.mR _ o)
     ·exact x.mR _ (k.2.2.1 hk b w o d r j)
   ·obtain ⟨o, d⟩ := mR _ A a2
    obtain ⟨r, j⟩ := mR _ a3 a4
    rcases d with d | d
    ·subst d; exact (d1 c i (by simp [oQ, hk])).2.2 hk o r
    ·rcases j with j | j
     ·subst j; exact (d1 c i (by simp [oQ, hk])).2.2 hk o r
     ·exact x.mR _ (k.2.2.2 hk w o d r j)
  have hlen : q.length + (FS T).length ≤ l.length + (FS T2).length := by
   exact g2.FT F x
  obtain ⟨T3, R, O, g3, J, U⟩ := Iw D E t m g2 u (by simp only [aJ] at hm; omega)
  exact ⟨T3, R, O, g3, J, fun g v => U g (x.mR g v)⟩
theorem LA (c : ke) : ∀ (l : List ke) (i : Nat), ∃ z, qo c l i = some z ∧ (z ≥ 0 ↔ c ∈ l)
 | [], i => ⟨-1, rfl, by simp⟩
 | x :: l, i => by
  rw [qo]
  by_cases h : nr c x = true
  ·rw [aV h]
   exact ⟨_, rfl, by simp [re.1 h]⟩
  ·rw [aU h]
   obtain ⟨z, e, b⟩ := LA c l (i + 1)
   refine ⟨z, e, ?_⟩
   rw [b, aO]
   exact ⟨.inr, fun a => a.resolve_left (fun e => h (re.2 e))⟩
theorem J3 (c : ke) (l : List ke) : ∃ b, wc l c = some b ∧ (b = true ↔ c ∈ l) := by
 obtain ⟨z, e, a⟩ := LA c l 0
 refine ⟨decide (z ≥ 0), ?_, by simpa using a⟩
 unfold wc sF wN
 rw [e]
 rfl
theorem Lc (c : ke) (ws : List (ByteArray × List ke)) (C : List ke) (hw : ∀ w, ((lU lK ws w).getD []).length ≤ 2000000) : ∀ (j : List kd) (a : List (kd × List ke)), (∀ r, ((lU kG a r).getD []).length + j.length ≤ 4000000) →
  ∃ g i, oS c ws C j a = some (C, g, i) ∧ (∀ r x, x ∈ (lU kG g r).getD [] ↔ x ∈ (lU kG a r).getD [] ∨ (x = c ∧ r ∈ j)) ∧
   (∀ w x, x ∈ (lU lK i w).getD [] ↔ x ∈ (lU lK ws w).getD [] ∨ (x = c ∧ c.Kind = 3 ∧ w = c.lj)) ∧ (∀ r, ((lU kG g r).getD []).length ≤ ((lU kG a r).getD []).length + j.length) ∧
   (∀ w, ((lU lK i w).getD []).length ≤ ((lU lK ws w).getD []).length + 1)
 | [], a, _ => by
  rw [oS]
  by_cases k : c.Kind = 3
  ·rw [aV (by simp [k])]
   have h := hw c.lj
   rw [mT (by simp; omega) (by simp; omega)]
   simp only [aA]
   refine ⟨a, _, rfl, by simp, fun w x => ?_, by simp, fun w => ?_⟩
   ·rw [EJ mJ]
    by_cases hk : lK w c.lj = true
    ·rw [aV hk, mJ.1 hk]; simp [k]
    ·rw [aU hk]
     have : w ≠ c.lj := fun e => hk (mJ.2 e)
     simp [this]
   ·rw [EJ mJ]
    by_cases hk : lK w c.lj = true
    ·rw [aV hk, mJ.1 hk]; simp
    ·rw [aU hk]; exact jj _
  ·rw [aU (by simp [k])]
   exact ⟨a, ws, rfl, by simp, by simp [k], by simp, by simp⟩
 | b :: j, a, l => by
  rw [oS]
  have h := l b
  simp only [aJ] at h
  rw [mT (by simp; omega) (by simp; omega)]
  simp only [aA]
  have d : ∀ r, (lU kG (nR kG a b (((lU kG a b).getD []) ++ [c])) r).getD [] = if kG r b = true then ((lU kG a b).getD []) ++ [c] else (lU kG a r).getD [] := fun r => by
   rw [EJ kE]; by_cases hk : kG r b = true
   ·rw [aV hk, aV hk]; rfl
   ·rw [aU hk, aU hk]
  obtain ⟨g, i, e, m, a2, a3, a4⟩ := Lc c ws C hw j (nR kG a b (((lU kG a b).getD []) ++ [c])) (fun r => by
   rw [d r]
   have n := l r
   simp only [aJ] at n
   by_cases hk : kG r b = true
   ·rw [aV hk]; simp; omega
   ·rw [aU hk]; omega)
  refine ⟨g, i, e, fun r x => ?_, a2, fun r => ?_, a4⟩
  ·rw [m, d]
   by_cases hk : kG r b = true
   ·rw [aV hk, kE.1 hk]
    simp only [aQ, aO, dG, fL]
    constructor
    ·rintro ((h | h) | h)
     ·exact .inl h
     ·exact .inr ⟨h, .inl trivial⟩
     ·exact .inr ⟨h.1, .inr h.2⟩
    ·rintro (h | h)
     ·exact .inl (.inl h)
     ·exact .inl (.inr h.1)
   ·rw [aU hk]
    have : r ≠ b := fun e => hk (kE.2 e)
    simp [this]
  ·have := a3 r
   rw [d r] at this
   by_cases hk : kG r b = true
   ·rw [aV hk] at this; rw [kE.1 hk] at this ⊢; simp at this ⊢; omega
   ·rw [aU hk] at this; simp; omega
theorem Qv {C : List ke} {j : List (kd × List ke)} {ws : List (ByteArray × List ke)} (g : EH C j ws) (p : C.length + 1 ≤ 1000000) {c : ke} (l : lI c = true) (i : List (kd × List (ByteArray × Bool))) (o : List kk) (n : Int) :
  ∃ a b, tL i C j ws o n c = some (C ++ [c], a, b) ∧ EH (C ++ [c]) a b := by
 unfold tL
 rw [mT (by simp; omega) (by simp; omega)]
 simp only [aA, Q2 l]
 rw [show ot (decide ((0 : Nat) ≤ 1) && decide ((1 : Int) ≤ ((c.Head :: oQ c).length : Int))) = some () by simp [ot]; omega]
 simp only [aA, show Int.toNat 1 = 1 from rfl, List.drop_one, List.tail_cons]
 have m : (oQ c).length ≤ 2 := by unfold oQ; split; simp; split <;> simp
 obtain ⟨a, b, e, k, a2, a3, a4⟩ := Lc c ws (C ++ [c]) (fun w => by have := g.R0 w; omega) (oQ c) j (fun r => by have := g.RS r; omega)
 refine ⟨a, b, e, fun r x => ?_, fun w x => ?_, fun r => ?_, fun w => ?_⟩
 ·rw [k, g.OG, aQ, aW]
  constructor
  ·rintro (h | h)
   ·exact ⟨.inl h.1, h.2⟩
   ·exact ⟨.inr h.1, by rw [h.1]; exact h.2⟩
  ·rintro ⟨h | h, d⟩
   ·exact .inl ⟨h, d⟩
   ·exact .inr ⟨h, by rw [← h]; exact d⟩
 ·rw [a2, g.word, aQ, aW]
  constructor
  ·rintro (h | h)
   ·exact ⟨.inl h.1, h.2⟩
   ·exact ⟨.inr h.1, by rw [h.1]; exact ⟨h.2.1, h.2.2.symm⟩⟩
  ·rintro ⟨h | h, d⟩
   ·exact .inl ⟨h, d⟩
   ·subst h; exact .inr ⟨rfl, d.1, d.2.symm⟩
 ·have := a3 r; have := g.RS r; simp; omega
 ·have := a4 w; have := g.R0 w; simp; omega
structure MS (C : List ke) (T : pv) (us : List (kd × List ke)) (ws : List (ByteArray × List ke)) (n : Int) : Prop where
 Er : qK C T [] n
 cl : ∀ c ∈ C, FF c T []
 Tu : EH C us ws
 right : qp C
theorem MS.all {C : List ke} {T : pv} {j : List (kd × List ke)} {ws : List (ByteArray × List ke)} {n : Int} (h : MS C T j ws n) (f : kk) : f ∈ FS T ↔ nU C f := by
 refine ⟨h.Er.xO f, fun i => ?_⟩
 induction i with
 | mem c a hk => exact (h.cl c a).1 hk
 | inc c w a hk _ ih => exact (h.cl c a).2.1 hk w ih (by simp)
 | FI c b w a hk _ _ d g => exact (h.cl c a).2.2.1 hk b w d (by simp) g (by simp)
 | both c w a hk _ _ d g => exact (h.cl c a).2.2.2 hk w d (by simp) g (by simp)
theorem JJ (q : Int) (y : 0 ≤ q ∧ q ≤ 1000000000000) : ∀ (l : List ke) {C : List ke} {T : pv} {p : List kk} {z : List (kd × List ke)} {ws : List (ByteArray × List ke)} {n : Int}, qK C T p n → (∀ c ∈ C, FF c T p) → EH C z ws → qp C → C.length + l.length ≤ 1000000 →
  ∃ C' T' a d j, oh q l (mm T) C z ws p n = some (j - q, mm T', C', a, d, [], j) ∧ MS C' T' a d j ∧ (∀ c, c ∈ C' ↔ c ∈ C ∨ (c ∈ l ∧ lI c = true)) ∧ C'.length ≤ C.length + l.length ∧ (∀ f ∈ FS T, f ∈ FS T')
 | [], C, T, p, z, ws, n, g, i, t, r, J => by
  rw [oh]
  have R : rn C := by unfold rn; simp at J; omega
  have a6 := R.sq
  have hlen := g.len
  have a7 := g.Sh
  obtain ⟨T', j, e, E, W, o⟩ := Iw R r t (cs := C) kT g i (by rw [tW]; omega)
  unfold uY
  rw [e]
  simp only [aA]
  have L := E.len
  have U := E.num
  rw [lG (by omega) (by omega)]
  exact ⟨C, T', z, ws, j, rfl, ⟨E, W, t, r⟩, by simp, by simp, o⟩
 | x :: l, C, T, p, z, ws, n, g, i, t, r, J => by
  rw [oh, rD]
  simp only [aJ] at J
  obtain ⟨b, hb, u⟩ := J3 x C
  simp only [aA, hb, zT]
  by_cases k : lI x = true ∧ x ∉ C
  ·have G : b = false := by cases b with | false => rfl | true => exact absurd (u.1 rfl) k.2
   rw [k.1, G]
   simp only [cV, Bool.and_self, aZ]
   obtain ⟨P, Q, Y, U1⟩ := Qv t (by omega) k.1 (mm T) p n
   rw [Y]
   simp only [aA]
   have F : rn (C ++ [x]) := by unfold rn; simp; omega
   have s : qp (C ++ [x]) := fun c v => by
    rcases aQ.1 v with h | h
    ·exact r c h
    ·simp at h; subst h; exact k.1
   have g1 : qK (C ++ [x]) T p n := g.mono (fun c v => bX _ v)
   obtain ⟨T2, O, n2, Z, g2, x2, c2⟩ := Px F s g1 (C ++ [x]) P Q (c := x) (by simp)
   rw [Z]
   simp only [aA]
   have w : ∀ c ∈ C ++ [x], FF c T2 O := fun c v => by
    rcases aQ.1 v with h | h
    ·exact (i c h).ext x2
    ·simp at h; subst h; exact c2
   obtain ⟨C', T', a, d, j, e, m, D, a2, a3⟩ := JJ q y l g2 w U1 s (by simp; omega)
   refine ⟨C', T', a, d, j, e, m, fun c => ?_, by simp at a2 ⊢; omega, fun f I => a3 f (x2.mR f I)⟩
   rw [D]
   simp only [aQ, aO, dG, fL]
   constructor
   ·rintro ((h | h) | h)
    ·exact .inl h
    ·subst h; exact .inr ⟨.inl rfl, k.1⟩
    ·exact .inr ⟨.inr h.1, h.2⟩
   ·rintro (h | ⟨h | h, A⟩)
    ·exact .inl (.inl h)
    ·exact .inl (.inr h)
    ·exact .inr ⟨h, A⟩
  ·have I : (lI x && !b) = false := by
    cases hr : lI x with
    | false => rfl
    | true =>
     have : x ∈ C := ep fun M => k ⟨hr, M⟩
     rw [u.2 this]; rfl
   rw [I]
   simp only [aB, aN]
   obtain ⟨C', T', a, d, j, e, m, D, a2, a3⟩ := JJ q y l g i t r (by omega)
   refine ⟨C', T', a, d, j, e, m, fun c => ?_, by simp; omega, a3⟩
   rw [D, aO]
   constructor
   ·rintro (h | h)
    ·exact .inl h
    ·exact .inr ⟨.inr h.1, h.2⟩
   ·rintro (h | ⟨h | h, A⟩)
    ·exact .inl h
    ·subst h
     exact .inl (ep fun M => k ⟨A, M⟩)
    ·exact .inr ⟨h, A⟩
theorem QW {C : List ke} {T : pv} {g : List (kd × List ke)} {ws : List (ByteArray × List ke)} {n : Int} (h : MS C T g ws n) (l : List ke) (j : C.length + l.length ≤ 1000000) :
  ∃ C' T' a b d, uB (mm T) C g ws [] n l = some (d - n, mm T', C', a, b, [], d) ∧ MS C' T' a b d ∧ (∀ c, c ∈ C' ↔ c ∈ C ∨ (c ∈ l ∧ lI c = true)) ∧ C'.length ≤ C.length + l.length ∧ (∀ f ∈ FS T, f ∈ FS T') := by
 have i : rn C := by unfold rn; omega
 have h1 := h.Er.len
 have k := i.sq
 have m := h.Er.num
 exact JJ n ⟨by omega, by omega⟩ l h.Er h.cl h.Tu h.right j
theorem EH.zero : EH [] [] [] := ⟨fun r c => by simp [lU], fun w c => by simp [lU], fun r => by simp [lU], fun w => by simp [lU]⟩
theorem qK.zero : qK [] [] [] 0 := ⟨by simp, by simp [FS], by simp, by simp, by simp [FS], by simp [FS]⟩
theorem MS.zero : MS [] [] [] [] 0 := ⟨qK.zero, fun c a => (by cases a), EH.zero, fun c a => (by cases a)⟩
theorem Mi (l : List ke) (h : l.length ≤ 1000000) : ∃ C T d ws n, xr l = some (mm T, C, d, ws, [], n) ∧ MS C T d ws n ∧ (∀ c, c ∈ C ↔ c ∈ l ∧ lI c = true) ∧ C.length ≤ l.length := by
 unfold xr
 obtain ⟨C', T', a, b, i, e, m, g, a2, a3⟩ := QW MS.zero l (by simpa using h)
 rw [show uB [] [] [] [] [] 0 l = _ from e]
 exact ⟨C', T', a, b, i, rfl, m, by simpa using g, by simpa using a2⟩
theorem nU.congr {C C' : List ke} (h : ∀ c, c ∈ C ↔ c ∈ C') (f : kk) : nU C f ↔ nU C' f := ⟨fun d => d.mono (fun c a => (h c).1 a), fun d => d.mono (fun c a => (h c).2 a)⟩
def zu (a b : kk) : Bool := AH a.kd b.kd || (kG a.kd b.kd && pV a.kR b.kR)
theorem AZ {a b : kk} : zu a b = true ↔ AH a.kd b.kd = true ∨ (a.kd = b.kd ∧ pV a.kR b.kR = true) := by simp [zu, kE]
def DQ (_ : kk) : Bool := true
theorem Hl : Ax (fun a b => zu a b = true) (fun x => DQ x = true) := by
 have H := I3 (fun _ => True)
 refine ⟨fun x _ => ?_, fun x y z _ _ _ h1 c => ?_, fun x y _ _ => ?_⟩
 ·rw [AZ]
  rintro (h | ⟨_, h⟩)
  ·exact H.irrefl _ trivial h
  ·rw [tI] at h; cases h
 ·rw [AZ] at *
  rcases h1 with h1 | ⟨g, h1⟩
  ·rcases c with c | ⟨d, c⟩
   ·exact .inl (H.trans _ _ _ trivial trivial trivial h1 c)
   ·exact .inl (by rw [← d]; exact h1)
  ·rcases c with c | ⟨d, c⟩
   ·exact .inl (by rw [g]; exact c)
   ·exact .inr ⟨g.trans d, Am h1 c⟩
 ·simp only [AZ]
  rcases H.total x.kd y.kd trivial trivial with h | h | h
  ·exact .inl (.inl h)
  ·rcases Ae x.kR y.kR with c | c | c
   ·exact .inl (.inr ⟨h, c⟩)
   ·refine .inr (.inl ?_)
    cases x; cases y; simp at h c; simp [h, c]
   ·exact .inr (.inr (.inr ⟨h.symm, c⟩))
  ·exact .inr (.inr (.inl h))
theorem Hm (a b : ByteArray) : pD a b = 0 ↔ a = b := by unfold pD; rw [Gr]; exact ⟨Bd, fun h => by rw [h]⟩
theorem Su (a b : ByteArray) : pD a b < 0 ↔ pV a b = true := by rw [zB]; exact CU _ _
theorem N7 (a b : kd) : ∃ c, nK a b = some c ∧ (c < 0 ↔ AH a b = true) ∧ (c = 0 ↔ a = b) := by
 obtain ⟨c, e, h⟩ := vk a b
 refine ⟨c, e, h, ?_⟩
 unfold nK at e
 simp only [qa, nO, aA, ua, sQ, oY] at e
 by_cases d : pD a.kj b.kj = 0
 ·rw [aU (by simp [d])] at e
  have h1 := (Hm _ _).1 d
  by_cases g : pD a.kq b.kq = 0
  ·rw [aU (by simp [g])] at e
   have i := (Hm _ _).1 g
   cases e
   refine ⟨fun _ => ?_, fun _ => rfl⟩
   cases a; cases b; simp at h1 i; simp [h1, i]
  ·rw [aV (by simp [g])] at e
   cases e
   exact ⟨fun k => absurd k g, fun k => by rw [k] at g; exact absurd ((Hm _ _).2 rfl) g⟩
 ·rw [aV (by simp [d])] at e
  cases e
  exact ⟨fun k => absurd k d, fun k => by rw [k] at d; exact absurd ((Hm _ _).2 rfl) d⟩
theorem OF (a b : kk) : ∃ c, qz a b = some c ∧ (c < 0 ↔ zu a b = true) := by
 unfold qz
 obtain ⟨c, e, h1, i⟩ := N7 a.kd b.kd
 rw [e]
 simp only [qa, nO, aA, ua, sQ, oY]
 by_cases g : c = 0
 ·rw [aU (by simp [g])]
  have l := i.1 g
  have d : ¬ AH a.kd b.kd = true := fun j => by have := h1.2 j; omega
  by_cases h : pD a.kR b.kR = 0
  ·rw [aU (by simp [h])]
   refine ⟨0, rfl, ?_⟩
   rw [AZ]
   simp [d, (Hm _ _).1 h, tI]
  ·rw [aV (by simp [h])]
   refine ⟨_, rfl, ?_⟩
   rw [AZ, Su]
   exact ⟨fun k => .inr ⟨l, k⟩, fun k => k.elim (fun k => absurd k d) (·.2)⟩
 ·rw [aV (by simp [g])]
  refine ⟨c, rfl, ?_⟩
  rw [AZ, h1]
  have : a.kd ≠ b.kd := fun k => g (i.2 k)
  simp [this]
theorem LI {α : Type} {eq : α → α → Bool} (he : ∀ x y, eq x y = true ↔ x = y) : ∀ (l : List α) (p : α), (p :: l).Nodup → pF eq p l = l
 | [], p, _ => rfl
 | y :: l, p, h => by
  have h1 := dF.1 h
  rw [pF, aU (fun e => h1.1 (by rw [← (he _ _).1 e]; simp)), LI he l y h1.2]
theorem SS {α : Type} {eq : α → α → Bool} (he : ∀ x y, eq x y = true ↔ x = y) : ∀ l : List α, l.Nodup → dd eq l = l
 | [], _ => rfl
 | x :: l, h => by rw [dd, LI he l x h]
def Bb (P : kk → Prop) (s : List kk) : Prop := s.Pairwise (fun a b => zu a b = true) ∧ ∀ f, f ∈ s ↔ P f
theorem Bb.unique {P : kk → Prop} {s t : List kk} (h : Bb P s) (k : Bb P t) : s = t :=
 tM.unique (l := s) Hl ⟨h.1, fun x => ⟨fun a => ⟨a, rfl⟩, fun a => a.1⟩⟩ ⟨k.1, fun x => by rw [k.2, h.2]; exact ⟨fun a => ⟨a, rfl⟩, fun a => a.1⟩⟩
theorem GS {l : List kk} (d : l.Nodup) (j : l.length ≤ 1000000000000) : ∃ s, xF (fun (x : kk × kk) => qz x.1 x.2) l = some s ∧ Bb (fun f => f ∈ l) s := by
 obtain ⟨s, h1, i, c⟩ := Ac (eq := nJ) (lt := fun a b => zu a b = true) (P := fun x => DQ x = true) (cf := fun (x : kk × kk) => qz x.1 x.2) (l := l) (fun x y => nj) Hl (fun _ _ => rfl) (by omega) (fun x y _ _ => OF x y)
 have g : s.Nodup := by
  have := (AW h1).2
  rw [this]
  unfold pR
  exact (iL l _).nodup_iff.2 d
 rw [SS (fun x y => nj) s g] at c
 exact ⟨s, h1, c.1, fun f => by rw [c.2]; exact ⟨fun h => h.1, fun h => ⟨h, rfl⟩⟩⟩
theorem QV (T : pv) : (mm T).flatMap (fun p => p.2.map (fun q => (fun (a : kd) (b : ByteArray) => (⟨a, b⟩ : kk)) p.1 q.1)) = FS T := by
 unfold mm FS tt
 rw [List.flatMap_map]
 congr 1
 funext p
 simp [fE]
theorem Pp {C : List ke} (i : rn C) {T : pv} {l : List (kd × List ke)} {ws : List (ByteArray × List ke)} {n : Int} (h : MS C T l ws n) (cs : List ke) (u : List (kd × List ke)) (w : List (ByteArray × List ke)) (k : List kk) (z : Int) :
  ∃ s, wM (mm T) cs u w k z = some s ∧ Bb (nU C) s := by
 have j := i.sq
 have hlen := h.Er.len
 obtain ⟨s, m, g⟩ := GS h.Er.nd (by omega)
 have d : Bb (nU C) s := ⟨g.1, fun f => (g.2 f).trans (h.all f)⟩
 refine ⟨s, ?_, d⟩
 unfold wM NX
 rw [QV]
 rw [aV ⟨by omega, by unfold maxLen; omega⟩]
 simp only [aA, oY]
 refine GC (fun o b => ?_)
 obtain ⟨p, c, a⟩ := GS ((b.nodup_iff).2 h.Er.nd) (by rw [b.length_eq]; omega)
 rw [c]
 congr 1
 exact Bb.unique ⟨a.1, fun f => (a.2 f).trans (b.mem_iff.trans (h.all f))⟩ d
theorem Py (r : kd) (w : ByteArray) : ∀ l : List kk, ∃ b, yg r w l = some b ∧ (b = true ↔ (⟨r, w⟩ : kk) ∈ l)
 | [] => ⟨false, rfl, by simp⟩
 | x :: l => by
  rw [yg]
  simp only [zT, aA]
  obtain ⟨b, e, d⟩ := Py r w l
  by_cases h : (kG x.kd r && lK x.kR w) = true
  ·rw [aV h]
   have a : x = ⟨r, w⟩ := by
    rw [bn, kE, mJ] at h
    cases x; simp at h; simp [h]
   exact ⟨true, rfl, by simp [a]⟩
  ·rw [aU h]
   refine ⟨b, e, ?_⟩
   rw [d, aO]
   refine ⟨.inr, fun c => c.resolve_left (fun e => h ?_)⟩
   rw [← e]; simp [vx, vJ]
theorem zx (l : List kk) (r : kd) (w : ByteArray) : ∃ b, vU l r w = some b ∧ (b = true ↔ (⟨r, w⟩ : kk) ∈ l) := Py r w l
def rM (l : List kk) (c : ke) (names : List ByteArray) (w : ByteArray) : Prop :=
 (c.Kind = 1 ∧ c.kR = w) ∨ (c.Kind = 2 ∧ (⟨c.B, w⟩ : kk) ∈ l) ∨ (c.Kind = 4 ∧ (⟨c.B, w⟩ : kk) ∈ l ∧ (⟨c.C, w⟩ : kk) ∈ l) ∨
 (c.Kind ≠ 1 ∧ c.Kind ≠ 2 ∧ c.Kind ≠ 4 ∧ ∃ b ∈ names, (⟨c.B, b⟩ : kk) ∈ l ∧ (⟨⟨b, c.lj⟩, w⟩ : kk) ∈ l)
theorem GF (l : List kk) (c : ke) (w : ByteArray) : ∀ names : List ByteArray, ∃ b, wO l c w names = some b ∧ (b = true ↔ ∃ b ∈ names, (⟨c.B, b⟩ : kk) ∈ l ∧ (⟨⟨b, c.lj⟩, w⟩ : kk) ∈ l)
 | [] => ⟨false, rfl, by simp⟩
 | x :: names => by
  rw [wO]
  obtain ⟨g, j, h1⟩ := zx l c.B x
  obtain ⟨i, k, d⟩ := zx l ⟨x, c.lj⟩ w
  obtain ⟨b, e, m⟩ := GF l c w names
  rw [j, k, e]
  simp only [aA, zT]
  by_cases h : (g && i) = true
  ·rw [aV h]
   rw [bn, h1, d] at h
   exact ⟨true, rfl, by simp [h]⟩
  ·rw [aU h]
   rw [bn, h1, d] at h
   refine ⟨b, rfl, ?_⟩
   rw [m]
   constructor
   ·rintro ⟨y, a, q⟩; exact ⟨y, by simp [a], q⟩
   ·rintro ⟨y, a, q⟩
    rcases aO.1 a with rfl | a
    ·exact absurd q h
    ·exact ⟨y, a, q⟩
theorem Ql (l : List kk) (c : ke) (names : List ByteArray) (w : ByteArray) : ∃ b, Bu l c names w = some b ∧ (b = true ↔ rM l c names w) := by
 unfold Bu rM
 simp only [oY]
 by_cases h1 : c.Kind = 1
 ·rw [aV (by simp [h1])]; exact ⟨_, rfl, by simp [h1, mJ]⟩
 rw [aU (by simp [h1])]
 by_cases a : c.Kind = 2
 ·rw [aV (by simp [a])]
  obtain ⟨b, e, g⟩ := zx l c.B w
  exact ⟨b, e, by simp [a, g]⟩
 rw [aU (by simp [a])]
 by_cases d : c.Kind = 4
 ·rw [aV (by simp [d])]
  obtain ⟨m, j, h⟩ := zx l c.B w
  obtain ⟨n, k, i⟩ := zx l c.C w
  rw [j, k]
  simp only [aA, zT]
  exact ⟨_, rfl, by simp [d, h, i]⟩
 rw [aU (by simp [d])]
 obtain ⟨b, e, g⟩ := GF l c w names
 exact ⟨b, e, by rw [g]; simp [h1, a, d]⟩
theorem rM.xO {C : List ke} {l : List kk} (a : ∀ f ∈ l, nU C f) {c : ke} (d : c ∈ C) (hk : c.Kind = 1 ∨ c.Kind = 2 ∨ c.Kind = 3 ∨ c.Kind = 4) {names : List ByteArray} {w : ByteArray} (h : rM l c names w) : nU C ⟨c.Head, w⟩ := by
 rcases h with ⟨k, rfl⟩ | ⟨k, h⟩ | ⟨k, h1, g⟩ | ⟨i, k2, j, b, _, h1, g⟩
 ·exact .mem c d k
 ·exact .inc c w d k (a _ h)
 ·exact .both c w d k (a _ h1) (a _ g)
 ·exact .FI c b w d (by omega) (a _ h1) (a _ g)
theorem Hp {c : ke} (h : lI c = true) : c.Kind = 1 ∨ c.Kind = 2 ∨ c.Kind = 3 ∨ c.Kind = 4 := by rcases oa h with h | h | h | h <;> simp [h.1]
structure EC (C : List ke) (out : List kk) : Prop where
 nd : out.Nodup
 xO : ∀ f ∈ out, nU C f
theorem EC.len {C : List ke} {out : List kk} (h : EC C out) : out.length ≤ C.length * C.length := by
 rw [← zn]; exact mA h.nd (fun f a => (h.xO f a).Ce)
theorem Gj {C : List ke} (r : rn C) (s : qp C) {c : ke} (m : c ∈ C) (names : List ByteArray) : ∀ (l : List ByteArray) (out : List kk) (i : Bool), EC C out →
  ∃ g d, wx c names l out i = some (g, d) ∧ EC C g ∧ (d = true → i = true ∨ out.length < g.length) ∧ (d = false → i = false ∧ g = out ∧ ∀ w ∈ l, rM out c names w → (⟨c.Head, w⟩ : kk) ∈ out) ∧ out.length ≤ g.length
 | [], out, i, h => ⟨out, i, rfl, h, .inl, fun h => ⟨h, rfl, fun _ hw => by cases hw⟩, aS _⟩
 | w :: l, out, i, h => by
  rw [wx]
  obtain ⟨x, D, h1⟩ := zx out c.Head w
  obtain ⟨A, E, y⟩ := Ql out c names w
  rw [D, E]
  simp only [aA, zT]
  by_cases j : (!x && A) = true
  ·rw [aV j]
   rw [bn] at j
   have t : (⟨c.Head, w⟩ : kk) ∉ out := fun G => by have := h1.2 G; rw [this] at j; exact absurd j.1 (by decide)
   have J := h.len
   have I := r.sq
   rw [mT (by simp; omega) (by simp; omega)]
   simp only [aA]
   have F : EC C (out ++ [⟨c.Head, w⟩]) := ⟨bU.2 ⟨h.nd, by simp, fun a ha b j e => by simp at j; subst j; subst e; exact t ha⟩, fun f k => by
    rcases aQ.1 k with k | k
    ·exact h.xO f k
    ·simp at k; subst k; exact (y.1 j.2).xO h.xO m (Hp (s c m))⟩
   obtain ⟨g, d, e, n, a2, a3, a4⟩ := Gj r s m names l _ true F
   simp at a4
   exact ⟨g, d, e, n, fun _ => .inr (by omega), fun k => (by cases (a3 k).1), by omega⟩
  ·rw [aU j]
   obtain ⟨g, d, e, n, a2, a3, a4⟩ := Gj r s m names l out i h
   refine ⟨g, d, e, n, a2, fun k => ?_, a4⟩
   obtain ⟨o, p, q⟩ := a3 k
   refine ⟨o, p, fun v u z => ?_⟩
   rcases aO.1 u with rfl | u
   ·refine ep fun t => j ?_
    rw [bn, y.2 z]
    cases x with
    | false => exact ⟨rfl, rfl⟩
    | true => exact absurd (h1.1 rfl) t
   ·exact q v u z
theorem Jv {C : List ke} (m : rn C) (n : qp C) (names : List ByteArray) : ∀ (l : List ke) (out : List kk) (a : Bool), (∀ c ∈ l, c ∈ C) → EC C out →
  ∃ b g, yu names l out a = some (b, g) ∧ EC C b ∧ (g = true → a = true ∨ out.length < b.length) ∧ (g = false → a = false ∧ b = out ∧ ∀ c ∈ l, ∀ w ∈ names, rM out c names w → (⟨c.Head, w⟩ : kk) ∈ out) ∧ out.length ≤ b.length
 | [], out, a, _, h => ⟨out, a, rfl, h, .inl, fun h => ⟨h, rfl, fun _ hw => by cases hw⟩, aS _⟩
 | c :: l, out, a, o, h => by
  rw [yu]
  obtain ⟨v, c1, t, p, a2, a3, a4⟩ := Gj m n (o c (by simp)) names names out a h
  rw [t]
  simp only [aA]
  obtain ⟨x, c2, u, q, r, s, G⟩ := Jv m n names l v c1 (fun d i => o d (by simp [i])) p
  refine ⟨x, c2, u, q, fun j => ?_, fun j => ?_, by omega⟩
  ·rcases r j with h1 | h1
   ·rcases a2 h1 with k | k
    ·exact .inl k
    ·exact .inr (by omega)
   ·exact .inr (by omega)
  ·obtain ⟨y, z, A⟩ := s j
   obtain ⟨D, E, F⟩ := a3 y
   subst E
   refine ⟨D, z, fun d i => ?_⟩
   rcases aO.1 i with rfl | i
   ·exact F
   ·exact A d i
def zF : kk := ⟨⟨zS, zS⟩, zS⟩
theorem Jt (a b : kk) : vo a b = some (zu a b) := by
 unfold vo zu
 simp only [BR, aA, zT, RN]
def Q9 (a : List kk) (b : Int) (p : Bool × kk) : Prop := (p.1 = false ∧ b = -1) ∨ (p.1 = true ∧ 0 ≤ b ∧ lN a b = some p.2)
theorem BT (out a : List kk) (g : out.length < 4611686018427387904) : ∀ (rest A : List kk) (b : Int) (p : Bool × kk), a = A ++ rest → Q9 a b p →
  ∃ c, qb out a rest A.length b = some c ∧ Q9 a c (rK DQ zu out.getLast? rest p.1 p.2)
 | [], A, b, p, ha, i => ⟨b, rfl, i⟩
 | x :: rest, A, b, p, ha, i => by
  rw [qb, rK]
  simp only [DQ, ey]
  have h1 : ((if ((out.length : Int) == 0) = true then some true else (lN out (wi0 .i64 ((out.length : Int) - 1))).bind fun y => (vo y x).bind fun r => some r) : Option Bool) = some (out.getLast?.all fun y => zu y x) := by
   rcases dD out with h | ⟨B, z, h⟩
   ·subst h; rfl
   ·subst h
    rw [aU (by simp; omega)]
    rw [eZ] at g ⊢
    rw [Gm B z (by simp at g; omega)]
    simp [Jt]
  have m : ((if decide (b < 0) = true then some true else (lN a b).bind fun y => (vo x y).bind fun r => some r) : Option Bool) = some (!p.1 || zu x p.2) := by
   rcases i with ⟨j, k⟩ | ⟨j, k, l⟩
   ·rw [aV (by simp [k]), j]; rfl
   ·rw [aU (by simpa using k), l, j]
    simp [Jt]
  rw [h1]
  simp only [aA]
  rw [m]
  simp only [aA, zT]
  have n : lN a (A.length : Int) = some x := by rw [ha]; exact nI A x rest _ rfl
  by_cases d : ((out.getLast?.all fun y => zu y x) && (!p.1 || zu x p.2)) = true
  ·rw [aV d, aV d]
   have := BT out a g rest (A ++ [x]) (A.length : Int) (true, x) (by rw [ha]; simp) (.inr ⟨rfl, by simp, n⟩)
   simpa using this
  ·rw [aU d, aU d]
   have := BT out a g rest (A ++ [x]) b p (by rw [ha]; simp) i
   simpa using this
theorem FL {out a : List kk} (d : out.length < 4611686018427387904) (h : (rK DQ zu out.getLast? a false zF).1 = false) : ∀ FT : List kk, pX a FT out = some out
 | [] => rfl
 | x :: FT => by
  rw [pX]
  obtain ⟨b, e, i⟩ := BT out a d a [] (-1) (false, zF) rfl (.inl ⟨rfl, rfl⟩)
  rw [show qb out a a 0 (-1) = some b from e]
  simp only [aA]
  rcases i with ⟨_, g⟩ | ⟨c, _⟩
  ·rw [aU (by simp [g])]; exact FL d h FT
  ·rw [h] at c; cases c
theorem Ie (a : List kk) : ∀ (FT : List kk) (out s : List kk), Ap 48 DQ zu zF a (FT.length + 1) out = some s → s.length < 4611686018427387904 → pX a FT out = some s ∧ out.length ≤ s.length
 | [], out, s, h, i => by
  rw [Ap] at h
  cases hp : (rK DQ zu out.getLast? a false zF).1 with
  | false =>
   rw [hp] at h
   simp only [cV, aZ] at h
   cases h
   exact ⟨rfl, aS _⟩
  | true =>
   rw [hp] at h
   simp only [bV, aB, aN] at h
   obtain ⟨o, c, h⟩ := bind_some h
   replace h : Ap 48 DQ zu zF a 0 o = some s := h
   rw [Ap] at h
   cases h
 | x :: FT, out, s, h, i => by
  rw [Ap] at h
  cases hp : (rK DQ zu out.getLast? a false zF).1 with
  | false =>
   rw [hp] at h
   simp only [cV, aZ] at h
   cases h
   exact ⟨FL i hp _, aS _⟩
  | true =>
   rw [hp] at h
   simp only [bV, aB, aN] at h
   obtain ⟨o, c, h⟩ := bind_some h
   have g := c
   unfold mZ at c
   split at c
   case isFalse => cases c
   cases c
   obtain ⟨m, k2⟩ := Ie a FT _ s h i
   simp at k2
   rw [pX]
   obtain ⟨b, e, l⟩ := BT out a (by omega) a [] (-1) (false, zF) rfl (.inl ⟨rfl, rfl⟩)
   rw [show qb out a a 0 (-1) = some b from e]
   simp only [aA]
   rcases l with ⟨d, _⟩ | ⟨d, j, k⟩
   ·rw [hp] at d; cases d
   ·rw [aV (by simpa using j), k]
    simp only [aA]
    rw [g]
    exact ⟨m, by omega⟩
theorem N4 (l : List kk) (c : l.length ≤ 1000000000) : ∃ s, CY l = some s ∧ Bb (fun f => f ∈ l) s := by
 obtain ⟨s, h1, a⟩ := B3 Hl (w := 48) (by omega) zF l c (l.length + 1) [] (by simp) (by simp) (fun x b => by cases b) (fun x _ _ => .inr rfl)
 have hlen : s.length ≤ l.length := mA (vc Hl (fun _ _ => rfl) a.1) (fun x b => ((a.2 x).1 b).1)
 exact ⟨s, (Ie l l [] s h1 (by omega)).1, a.1, fun f => by rw [a.2]; exact ⟨fun h => h.1, fun h => ⟨h, rfl⟩⟩⟩
theorem Kp : ∀ (l : List ke) (acc : List ByteArray), acc.length + 4 * l.length ≤ 1000000000 → uy l acc = Co (acc ++ l.flatMap fun c => [c.kR, c.Head.kj, c.B.kj, c.C.kj])
 | [], acc, _ => by rw [uy]; simp [oY]
 | c :: l, acc, h => by
  rw [uy]
  simp only [aJ] at h
  rw [mT (by simp; omega) (by simp; omega)]
  simp only [aA]
  rw [Kp l _ (by simp; omega)]
  simp
def SM (C : List ke) : Prop := C.length ≤ 30000
theorem SM.small {C : List ke} (h : SM C) : rn C := by unfold SM at h; unfold rn; omega
theorem SM.sq {C : List ke} (h : SM C) : C.length * C.length ≤ 900000000 := gZ h h
theorem Oz {C : List ke} (b : SM C) (g : qp C) : ∃ names, Aq C = some names ∧ ∀ c ∈ C, c.Kind = 1 → c.kR ∈ names := by
 have d : C.length ≤ 30000 := b
 unfold Aq
 rw [Kp C [] (by simp; omega)]
 obtain ⟨s, e, i⟩ := Qh ([] ++ C.flatMap fun c => [c.kR, c.Head.kj, c.B.kj, c.C.kj]) (by
  have : ∀ l : List ke, (l.flatMap fun c => [c.kR, c.Head.kj, c.B.kj, c.C.kj]).length = 4 * l.length := fun l => by
   induction l with
   | nil => rfl
   | cons x l ih => simp [ih]; omega
  rw [bJ, this]; omega)
 refine ⟨s, e, fun c a hk => (i.2 _).2 ⟨?_, ?_⟩⟩
 ·rw [bJ]; exact iw.2 ⟨c, a, by simp⟩
 ·rcases oa (g c a) with h | h | h | h
  ·exact h.2.1
  ·exact absurd (hk.symm.trans h.1) (by decide)
  ·exact absurd (hk.symm.trans h.1) (by decide)
  ·exact absurd (hk.symm.trans h.1) (by decide)
theorem GL {C : List ke} (n : qp C) {names : List ByteArray} (l : ∀ c ∈ C, c.Kind = 1 → c.kR ∈ names) {out : List kk} (h : ∀ c ∈ C, ∀ w ∈ names, rM out c names w → (⟨c.Head, w⟩ : kk) ∈ out) {f : kk} (k : nU C f) : f ∈ out := by
 have hw : ∀ f, nU C f → f.kR ∈ names := fun f k => by
  obtain ⟨c, a, hk, e⟩ := k.tZ
  rw [← e]; exact l c a hk
 induction k with
 | mem c a hk => exact h c a _ (l c a hk) (.inl ⟨hk, rfl⟩)
 | inc c w a hk m ih => exact h c a w (hw _ m) (.inr (.inl ⟨hk, ih⟩))
 | FI c b w a hk d j g i => exact h c a w (hw _ j) (.inr (.inr (.inr ⟨by omega, by omega, by omega, b, hw _ d, g, i⟩)))
 | both c w a hk d j g i => exact h c a w (hw _ d) (.inr (.inr (.inl ⟨hk, g, i⟩)))
theorem J4 {C : List ke} (a : SM C) (b : qp C) {names : List ByteArray} (g : ∀ c ∈ C, c.Kind = 1 → c.kR ∈ names) : ∀ (m : Nat) (out : List kk), EC C out → C.length * C.length < m + out.length →
  ∃ s, yl names C m out = some s ∧ Bb (nU C) s
 | 0, out, h, hm => by have := h.len; omega
 | m + 1, out, h, hm => by
  rw [yl]
  obtain ⟨o, c, e, i, a2, a3, a4⟩ := Jv a.small b names C out false (fun _ h => h) h
  rw [e]
  simp only [aA, oY]
  cases c with
  | false =>
   simp only [cV, aZ]
   obtain ⟨_, j, k⟩ := a3 rfl
   subst j
   have p := h.len
   have n := a.sq
   obtain ⟨s, l, d⟩ := N4 o (by omega)
   exact ⟨s, l, d.1, fun f => (d.2 f).trans ⟨h.xO f, GL b g k⟩⟩
  | true =>
   simp only [bV, aB, aN]
   rcases a2 rfl with h1 | h1
   ·cases h1
   ·exact J4 a b g m o i (by omega)
theorem QG (l : List ke) (o : l.length ≤ 30000) : ∃ C s, AN l = some s ∧ Bb (nU C) s ∧ ∀ c, c ∈ C ↔ c ∈ l ∧ lI c = true := by
 unfold AN
 obtain ⟨C, e, b⟩ := QI l (by omega)
 have hlen := ru AM b
 have a : SM C := by unfold SM; omega
 have d : qp C := fun c j => ((b.2 c).1 j).2
 obtain ⟨names, g, m⟩ := Oz a d
 rw [e]
 simp only [aA]
 rw [g]
 simp only [aA]
 have n := a.sq
 obtain ⟨s, h, i⟩ := J4 a d m kT [] ⟨by simp, fun f k => by cases k⟩ (by rw [tW]; simp; omega)
 exact ⟨C, s, h, i, b.2⟩
theorem Qa {P : kk → Prop} {s t : List kk} (h : Bb P s) (b : ∀ f, P f → f ∈ t) : s.length ≤ t.length := mA (vc Hl (fun _ _ => rfl) h.1) (fun f a => b f ((h.2 f).1 a))
theorem QB {C : List ke} {s : List kk} (h : Bb (nU C) s) (a : SM C) : s.length ≤ 900000000 := by
 have := Qa h (t := Ce C) (fun f b => b.Ce)
 rw [zn] at this
 have := a.sq
 omega
theorem Nu {C : List ke} {T : pv} {c : List (kd × List ke)} {ws : List (ByteArray × List ke)} {n : Int} (h : MS C T c ws n) (cs : List ke) (u : List (kd × List ke)) (w : List (ByteArray × List ke)) (a : List kk) (z : Int) (r : kd) (tZ : ByteArray) :
  ∃ b, um (mm T) cs u w a z r tZ = some b ∧ (b = true ↔ nU C ⟨r, tZ⟩) :=
 ⟨_, rfl, by rw [tH h.Er.keys, h.all]⟩
def qA : kd := ⟨⟨#[97]⟩, ⟨#[114]⟩⟩
def qB : kd := ⟨⟨#[98]⟩, ⟨#[115]⟩⟩
def qd : ByteArray := ⟨#[100]⟩
def j1 : ke := ⟨2, qA, zS, qB, ⟨zS, zS⟩, zS⟩
def j2 : ke := ⟨1, qB, qd, ⟨zS, zS⟩, ⟨zS, zS⟩, zS⟩
def fA : kk := ⟨qA, qd⟩
theorem Dm (f : ByteArray → Option Bool) (p : ByteArray → Bool) : ∀ (l : List ByteArray) (i : Nat), (∀ x ∈ l, f x = some (p x)) → ∃ z, oz f l i = some z ∧ (z ≥ 0 ↔ ∃ x ∈ l, p x = true)
 | [], i, _ => ⟨-1, rfl, by simp⟩
 | x :: l, i, h => by
  rw [oz, h x (by simp)]
  simp only [aA]
  cases hp : p x with
  | true => exact ⟨_, rfl, by simp [hp]⟩
  | false =>
   obtain ⟨z, e, b⟩ := Dm f p l (i + 1) (fun y a => h y (by simp [a]))
   exact ⟨z, e, by rw [b]; simp [hp]⟩
def Jj (c : ke) (p : kd × ByteArray → Bool) (names : List ByteArray) (w : ByteArray) : Bool :=
 if c.Kind = 1 then lK c.kR w else if c.Kind = 2 then p (c.B, w) else if c.Kind = 4 then p (c.B, w) && p (c.C, w) else names.any fun b => p (c.B, b) && p (⟨b, c.lj⟩, w)
theorem Nl {f : kd × ByteArray → Option Bool} {p : kd × ByteArray → Bool} (g : ∀ x, f x = some (p x)) (c : ke) (names : List ByteArray) (w : ByteArray) : xv c f names w = some (Jj c p names w) := by
 unfold xv Jj
 simp only [g, aA, zT]
 by_cases h1 : c.Kind = 1
 ·rw [aV (by simp [h1]), aV h1]
 rw [aU (by simp [h1]), aU h1]
 by_cases a : c.Kind = 2
 ·rw [aV (by simp [a]), aV a]
 rw [aU (by simp [a]), aU a]
 by_cases d : c.Kind = 4
 ·rw [aV (by simp [d]), aV d]
 rw [aU (by simp [d]), aU d]
 unfold sb tJ
 obtain ⟨z, e, h⟩ := Dm (fun x => tD x f c w) (fun b => p (c.B, b) && p (⟨b, c.lj⟩, w)) names 0 (fun x _ => by
  unfold tD
  simp only [g, aA, zT])
 rw [e]
 simp only [aA]
 congr 1
 rw [bR, ft]
 simpa using h
theorem DO {f : kd × ByteArray → Option Bool} {p : kd × ByteArray → Bool} (a : ∀ x, f x = some (p x)) (c : ke) (names : List ByteArray) : ∀ (l : List ByteArray) (acc : List kk), acc.length + l.length ≤ 1000000000 →
  qJ c f names l acc = some (acc ++ (l.filter (Jj c p names)).map fun w => (⟨c.Head, w⟩ : kk))
 | [], acc, _ => by rw [qJ]; simp
 | x :: l, acc, h => by
  rw [qJ, Nl a]
  simp only [aA, aJ] at h ⊢
  cases b : Jj c p names x with
  | true =>
   simp only [aZ]
   rw [mT (by simp; omega) (by simp; omega)]
   simp only [aA]
   rw [DO a c names l _ (by simp; omega)]
   simp [b]
  | false =>
   simp only [aB, aN]
   rw [DO a c names l acc (by omega)]
   simp [b]
theorem Pe {f : kd × ByteArray → Option Bool} {p : kd × ByteArray → Bool} (a : ∀ x, f x = some (p x)) {c : ke} (d : lI c = true) (l : List ByteArray) (g : l.length ≤ 900000000) :
  ∃ names, Bg l names ∧ uH c f l = some (((if c.Kind = 1 then [c.kR] else names).filter (Jj c p names)).map fun w => (⟨c.Head, w⟩ : kk)) := by
 obtain ⟨s, e, b⟩ := QY l (by omega)
 refine ⟨s, b, ?_⟩
 have hlen : s.length ≤ l.length := ru (Fo _) b
 unfold uH
 rw [rD, d]
 simp only [aA, bV, aB, aN]
 rw [e]
 simp only [aA]
 by_cases h1 : c.Kind = 1
 ·rw [aV (by simp [h1]), aV h1]
  simp only [aA]
  rw [DO a c s _ [] (by simp)]
  simp
 ·rw [aU (by simp [h1]), aU h1]
  simp only [aA]
  rw [DO a c s _ [] (by simp; omega)]
  simp
theorem KW {c : ke} {p : kd × ByteArray → Bool} {out : List kk} (hp : ∀ r w, p (r, w) = true ↔ (⟨r, w⟩ : kk) ∈ out) (s : List ByteArray) (w : ByteArray) : Jj c p s w = true ↔ rM out c s w := by
 unfold Jj rM
 by_cases h1 : c.Kind = 1
 ·rw [aV h1, mJ]
  constructor
  ·intro h; exact .inl ⟨h1, h⟩
  ·rintro (h | h | h | h)
   ·exact h.2
   ·exact absurd (h1.symm.trans h.1) (by decide)
   ·exact absurd (h1.symm.trans h.1) (by decide)
   ·exact absurd h1 h.1
 rw [aU h1]
 by_cases a : c.Kind = 2
 ·rw [aV a, hp]
  constructor
  ·intro h; exact .inr (.inl ⟨a, h⟩)
  ·rintro (h | h | h | h)
   ·exact absurd h.1 h1
   ·exact h.2
   ·exact absurd (a.symm.trans h.1) (by decide)
   ·exact absurd a h.2.1
 rw [aU a]
 by_cases d : c.Kind = 4
 ·rw [aV d, bn, hp, hp]
  constructor
  ·intro h; exact .inr (.inr (.inl ⟨d, h⟩))
  ·rintro (h | h | h | h)
   ·exact absurd h.1 h1
   ·exact absurd h.1 a
   ·exact h.2
   ·exact absurd d h.2.2.1
 rw [aU d, ft]
 constructor
 ·rintro ⟨b, g, h⟩
  rw [bn, hp, hp] at h
  exact .inr (.inr (.inr ⟨h1, a, d, b, g, h⟩))
 ·rintro (h | h | h | h)
  ·exact absurd h.1 h1
  ·exact absurd h.1 a
  ·exact absurd h.1 d
  ·obtain ⟨_, _, _, b, g, h⟩ := h
   exact ⟨b, g, by rw [bn, hp, hp]; exact h⟩
theorem O6 {C : List ke} {c : ke} (g : c ∈ C) (m : lI c = true) {out : List kk} (d : ∀ f ∈ out, nU C f) {s : List ByteArray} {w : ByteArray} (h : rM out c s w) : nU C ⟨c.Head, w⟩ := by
 rcases h with ⟨h1, a⟩ | ⟨h1, a⟩ | ⟨h1, a, i⟩ | ⟨h1, a, i, b, _, k, l⟩
 ·subst a; exact .mem c g h1
 ·exact .inc c w g h1 (d _ a)
 ·exact .both c w g h1 (d _ a) (d _ i)
 ·have j : c.Kind = 3 := by
   rcases oa m with h | h | h | h
   ·exact absurd h.1 h1
   ·exact absurd h.1 a
   ·exact h.1
   ·exact absurd h.1 i
  exact .FI c b w g j (d _ k) (d _ l)
theorem Nk {f : kd × ByteArray → Option Bool} {p : kd × ByteArray → Bool} (i : ∀ x, f x = some (p x)) {out : List kk} (hp : ∀ r w, p (r, w) = true ↔ (⟨r, w⟩ : kk) ∈ out) (c : ke) {l s : List ByteArray} (k : l.length ≤ 900000000) (m : Bg l s) :
  ∃ h, uH c f l = some h ∧ (∀ g ∈ h, lI c = true ∧ g.kd = c.Head ∧ rM out c s g.kR) ∧ (lI c = true → ∀ w ∈ s, rM out c s w → (⟨c.Head, w⟩ : kk) ∈ h) := by
 by_cases a : lI c = true
 ·obtain ⟨n, d, e⟩ := Pe i a l k
  obtain rfl : n = s := tM.unique (Fo _) d m
  refine ⟨_, e, fun g j => ?_, fun _ w hw b => ?_⟩
  ·obtain ⟨w, hw, rfl⟩ := bG.1 j
   exact ⟨a, rfl, (KW hp _ _).1 (cM.1 hw).2⟩
  ·refine bG.2 ⟨w, cM.2 ⟨?_, (KW hp _ _).2 b⟩, rfl⟩
   split
   ·rename_i h1
    rcases b with h | h | h | h
    ·rw [h.2]; simp
    ·exact absurd (h1.symm.trans h.1) (by decide)
    ·exact absurd (h1.symm.trans h.1) (by decide)
    ·exact absurd h1 h.1
   ·exact hw
 ·refine ⟨[], ?_, by simp, fun h => absurd h a⟩
  unfold uH
  rw [rD]
  simp only [fq] at a
  rw [a]
  rfl
theorem Mr {c : ke} (a : lI c = true) (hk : c.Kind = 1) : nl c.kR = true := by
 rcases oa a with h | h | h | h
 ·exact h.2.1
 ·exact absurd (hk.symm.trans h.1) (by decide)
 ·exact absurd (hk.symm.trans h.1) (by decide)
 ·exact absurd (hk.symm.trans h.1) (by decide)
def JM {α : Type} (eq : α → α → Bool) (a : α) : List α → Nat → Option Int
 | [], _ => some (-1)
 | x :: xs, i => if eq a x then some (i : Int) else JM eq a xs (i + 1)
theorem Gl {α : Type} {eq : α → α → Bool} (he : ∀ {x y}, eq x y = true ↔ x = y) (a : α) : ∀ (l : List α) (i : Nat), ∃ z, JM eq a l i = some z ∧ (z ≥ 0 ↔ a ∈ l)
 | [], i => ⟨-1, rfl, by simp⟩
 | x :: l, i => by
  rw [JM]
  by_cases h : eq a x = true
  ·rw [aV h]; exact ⟨i, rfl, by simp [he.1 h]⟩
  ·rw [aU h]
   obtain ⟨z, h1, c⟩ := Gl he a l (i + 1)
   have b : a ≠ x := fun e => h (he.2 e)
   exact ⟨z, h1, by rw [c]; simp [b]⟩
theorem NP (a : kk) : ∀ (l : List kk) (i : Nat), qD a l i = JM nJ a l i
 | [], i => rfl
 | x :: l, i => by rw [qD, JM, NP a l]
theorem Ln (a : kk) : ∀ (l : List kk) (i : Nat), pc a l i = JM nJ a l i
 | [], i => rfl
 | x :: l, i => by rw [pc, JM, Ln a l]
open Classical in
theorem Ta (l : List kk) (f : kk) : sw l f = some (decide (f ∈ l)) := by
 obtain ⟨z, h1, h2⟩ := Gl (eq := nJ) nj f l 0
 unfold sw wL
 rw [NP, h1]
 simp only [aA]
 congr 1
 rw [bR]; simp [h2]
open Classical in
theorem Se (l : List kk) (f : kk) : qF l f = some (decide (f ∈ l)) := by
 obtain ⟨z, h1, h2⟩ := Gl (eq := nJ) nj f l 0
 unfold qF uF
 rw [Ln, h1]
 simp only [aA]
 congr 1
 rw [bR]; simp [h2]
theorem Ld (f : kk → Option Bool) : ∀ (l : List kk) (i : Nat), nZ f l i = xg f l i
 | [], i => rfl
 | x :: l, i => by rw [nZ, xg, Ld f l]
theorem RL (f : kk → Option Bool) (p : kk → Bool) (l : List kk) (h : ∀ x ∈ l, f x = some (p x)) : po l f = some (l.any p) := by
 unfold po sJ
 rw [Ld]
 rcases Bt f p l 0 h with ⟨h1, a⟩ | ⟨A, x, B, rfl, h1, a, b⟩
 ·rw [h1]; simp only [aA]; congr 1; rw [bR]; simp; exact a
 ·rw [b]; simp only [aA]; congr 1; rw [bR]
  simp [a]
theorem G6 (l : List kk) (r : kd) (w : ByteArray) : ∃ b, sd l r w = some b ∧ (b = true ↔ (⟨r, w⟩ : kk) ∈ l) := by
 classical
 refine ⟨_, by unfold sd; rw [Se]; rfl, by simp⟩
def CB (s : kW) (a : List kk) : Prop := lI s.ke = true ∧ s.kk.kd = s.ke.Head ∧ rM a s.ke (a.map (·.kR)) s.kk.kR
theorem CB.mono {s : kW} {a b : List kk} (h : CB s a) (c : ∀ f ∈ a, f ∈ b) : CB s b := by
 obtain ⟨h1, i, j⟩ := h
 refine ⟨h1, i, ?_⟩
 rcases j with h | h | h | ⟨k, l, m, g, o, d, n⟩
 ·exact .inl h
 ·exact .inr (.inl ⟨h.1, c _ h.2⟩)
 ·exact .inr (.inr (.inl ⟨h.1, c _ h.2.1, c _ h.2.2⟩))
 ·exact .inr (.inr (.inr ⟨k, l, m, g, bG.2 ⟨_, c _ d, rfl⟩, c _ d, c _ n⟩))
theorem CB.congr {s : kW} {a b : List kk} (d : ∀ f, f ∈ a ↔ f ∈ b) : CB s a ↔ CB s b := ⟨fun h => h.mono fun f c => (d f).1 c, fun h => h.mono fun f c => (d f).2 c⟩
open Classical in
noncomputable def EF (s : kW) (had : List kk) : Bool := decide (CB s had)
theorem zN {s : kW} {a : List kk} : EF s a = true ↔ CB s a := by unfold EF; simp
theorem Mm {a b : kd} (h : a ≠ b) : kG a b = false := by
 cases c : kG a b with
 | false => rfl
 | true => exact absurd (kE.1 c) h
theorem GZ (s : kW) (a : List kk) : uV s a = some (EF s a) := by
 have key : ∀ b, (b = true ↔ CB s a) → b = EF s a := fun b h => by rw [bR, h, zN]
 unfold uV
 rw [rD]
 simp only [aA]
 by_cases d : lI s.ke = true
 ·rw [d]
  simp only [bV, aB, aN, aA]
  by_cases i : s.kk.kd = s.ke.Head
  ·rw [i, vx]
   simp only [bV, aB, aN]
   have hk := Hp d
   by_cases h1 : s.ke.Kind = 1
   ·rw [aV (by simpa using h1)]
    congr 1
    refine key _ ?_
    rw [mJ]
    constructor
    ·intro h; exact ⟨d, i, .inl ⟨h1, h⟩⟩
    ·rintro ⟨_, _, h | h | h | h⟩
     ·exact h.2
     ·exact absurd (h1.symm.trans h.1) (by decide)
     ·exact absurd (h1.symm.trans h.1) (by decide)
     ·exact absurd h1 h.1
   rw [aU (by simpa using h1)]
   by_cases g : s.ke.Kind = 2
   ·rw [aV (by simpa using g), oY]
    obtain ⟨b, e, k⟩ := G6 a s.ke.B s.kk.kR
    rw [e]; congr 1
    refine key _ ?_
    rw [k]
    constructor
    ·intro h; exact ⟨d, i, .inr (.inl ⟨g, h⟩)⟩
    ·rintro ⟨_, _, h | h | h | h⟩
     ·exact absurd h.1 h1
     ·exact h.2
     ·exact absurd (g.symm.trans h.1) (by decide)
     ·exact absurd g h.2.1
   rw [aU (by simpa using g)]
   by_cases j : s.ke.Kind = 3
   ·rw [aV (by simpa using j), oY]
    unfold xi
    rw [RL _ (fun f => kG f.kd s.ke.B && EF ⟨⟨2, ⟨zS, zS⟩, zS, ⟨zS, zS⟩, ⟨zS, zS⟩, zS⟩, ⟨⟨zS, zS⟩, zS⟩⟩ [] || (kG f.kd s.ke.B && ur nJ a ⟨⟨f.kR, s.ke.lj⟩, s.kk.kR⟩)) a (fun f n => by
     unfold sX
     obtain ⟨b, e, k⟩ := G6 a ⟨f.kR, s.ke.lj⟩ s.kk.kR
     rw [e]
     simp only [aA, zT]
     congr 1
     have r : EF ⟨⟨2, ⟨zS, zS⟩, zS, ⟨zS, zS⟩, ⟨zS, zS⟩, zS⟩, ⟨⟨zS, zS⟩, zS⟩⟩ [] = false := by
      cases q : EF ⟨⟨2, ⟨zS, zS⟩, zS, ⟨zS, zS⟩, ⟨zS, zS⟩, zS⟩, ⟨⟨zS, zS⟩, zS⟩⟩ [] with
      | false => rfl
      | true => exact absurd (zN.1 q).1 (by decide +kernel)
     rw [r, jh, jF]
     congr 1
     rw [bR, k, qL nj])]
    simp only [aA]
    congr 1
    refine key _ ?_
    rw [ft]
    have r : EF ⟨⟨2, ⟨zS, zS⟩, zS, ⟨zS, zS⟩, ⟨zS, zS⟩, zS⟩, ⟨⟨zS, zS⟩, zS⟩⟩ [] = false := by
     cases q : EF ⟨⟨2, ⟨zS, zS⟩, zS, ⟨zS, zS⟩, ⟨zS, zS⟩, zS⟩, ⟨⟨zS, zS⟩, zS⟩⟩ [] with
     | false => rfl
     | true => exact absurd (zN.1 q).1 (by decide +kernel)
    simp only [r, jh, jF, bn, kE, qL nj]
    constructor
    ·rintro ⟨f, n, p, o⟩
     refine ⟨d, i, .inr (.inr (.inr ⟨h1, g, fun h => absurd (j.symm.trans h) (by decide), f.kR, bG.2 ⟨f, n, rfl⟩, ?_, o⟩))⟩
     rw [← p]; exact n
    ·rintro ⟨_, _, h | h | h | h⟩
     ·exact absurd h.1 h1
     ·exact absurd h.1 g
     ·exact absurd (j.symm.trans h.1) (by decide)
     ·obtain ⟨_, _, _, b, _, l, m⟩ := h
      exact ⟨_, l, rfl, m⟩
   rw [aU (by simpa using j)]
   have t : s.ke.Kind = 4 := by 
    rcases hk with h | h | h | h
    ·exact absurd h h1
    ·exact absurd h g
    ·exact absurd h j
    ·exact h
   obtain ⟨b, e, k⟩ := G6 a s.ke.B s.kk.kR
   obtain ⟨c, u, v⟩ := G6 a s.ke.C s.kk.kR
   rw [e, u]
   simp only [aA, zT]
   congr 1
   refine key _ ?_
   rw [bn, k, v]
   constructor
   ·intro h; exact ⟨d, i, .inr (.inr (.inl ⟨t, h⟩))⟩
   ·rintro ⟨_, _, h | h | h | h⟩
    ·exact absurd h.1 h1
    ·exact absurd h.1 g
    ·exact h.2
    ·exact absurd t h.2.2.1
  ·rw [Mm i]
   simp only [cV, aZ]
   congr 1
   exact key _ ⟨fun h => (by cases h), fun h => absurd h.2.1 i⟩
 ·simp only [fq] at d
  rw [d]
  simp only [cV, aZ, aA]
  congr 1
  exact key _ ⟨fun h => (by cases h), fun h => by rw [h.1] at d; cases d⟩
def nS : List kk → List kW → Prop
 | _, [] => True
 | a, s :: l => CB s a ∧ nS (a ++ [s.kk]) l
theorem nS.mono : ∀ {l : List kW} {a b : List kk}, nS a l → (∀ f ∈ a, f ∈ b) → nS b l
 | [], _, _, _, _ => trivial
 | s :: l, a, b, ⟨h1, g⟩, d => ⟨h1.mono d, nS.mono g (fun f c => by
   rcases aQ.1 c with c | c
   ·exact bX _ (d f c)
   ·exact dC _ c)⟩
theorem AO : ∀ (l m : List kW) (a : List kk), nS a (l ++ m) ↔ nS a l ∧ nS (a ++ l.map (·.kk)) m
 | [], m, a => by simp [nS]
 | s :: l, m, a => by
  simp only [bW, nS, AO l m, bH, aK, bJ, and_assoc, eV]
open Classical in
noncomputable def Ih (l : List kW) : Bool := decide (nS [] l)
theorem A0 {l : List kW} : Ih l = true ↔ nS [] l := by unfold Ih; simp
open Classical in
theorem GV : ∀ (l : List kW) (had : List kk), had.length + l.length ≤ 1000000000 → rG l had = some (decide (nS had l))
 | [], had, _ => by rw [rG]; congr 1; rw [eq_comm, ji]; trivial
 | s :: l, had, h => by
  simp only [aJ] at h
  rw [rG, GZ]
  simp only [aA]
  cases hf : EF s had with
  | false =>
   simp only [cV, aZ]
   congr 1
   rw [eq_comm, decide_eq_false_iff_not]
   intro hs
   rw [zN.2 hs.1] at hf; cases hf
  | true =>
   simp only [bV, aB, aN]
   rw [mT (by simp; omega) (by simp; omega)]
   simp only [aA]
   rw [GV l _ (by simp; omega)]
   congr 1
   rw [bR]
   simp [nS, zN.1 hf]
theorem MP (l : List kW) (h : l.length ≤ 1000000000) : xA l = some (Ih l) := by
 unfold xA; rw [GV l [] (by simpa using h)]; rfl
theorem JO : ∀ (l : List kW) (acc : List kk), acc.length + l.length ≤ 1000000000 → sh l acc = some (acc ++ l.map (·.kk))
 | [], acc, _ => by rw [sh]; simp
 | f :: l, acc, h => by
  simp only [aJ] at h
  rw [sh, mT (by simp; omega) (by simp; omega)]
  simp only [aA]
  rw [JO l _ (by simp; omega)]
  simp
theorem Il (l : List kW) (h : l.length ≤ 1000000000) : wm l = some (l.map (·.kk)) := by
 unfold wm; rw [JO l [] (by simpa using h)]; rfl
theorem Jx {α : Type} (A B : List α) : (A ++ B).take (Int.toNat (A.length : Int)) = A := by simp
open Classical in
theorem Gz : ∀ (B A : List kW), rI ((A ++ B).map (·.kk)) B A.length = some (decide (nS (A.map (·.kk)) B))
 | [], A => by rw [rI]; congr 1; rw [eq_comm, ji]; trivial
 | s :: B, A => by
  rw [rI, yT (by omega) (by simp; omega)]
  simp only [aA]
  rw [← List.map_take, Jx, GZ]
  simp only [aA]
  cases hf : EF s (A.map (·.kk)) with
  | false =>
   simp only [cV, aZ]
   congr 1
   rw [eq_comm, decide_eq_false_iff_not]
   intro hs
   rw [zN.2 hs.1] at hf; cases hf
  | true =>
   simp only [bV, aB, aN]
   have := Gz B (A ++ [s])
   simp only [aK, bW, bJ, aC, aJ, bP, dZ] at this
   rw [this]
   congr 1
   rw [bR]
   simp [nS, zN.1 hf]
theorem He (l : List kW) (h : l.length ≤ 1000000000) : vu l = some (Ih l) := by
 unfold vu; rw [Il l h]
 exact Gz l []
theorem Lx {l : List kW} (a : l.length ≤ 1000000000) : qn l = some l := by
 unfold qn
 rw [mT (by simp; omega) (by simp; omega)]
 rfl
theorem O9 {p : Prop} [Decidable p] (h : p) : ot (decide p) = some () := by simp [ot, h]
theorem JE (A : List kW) (x : kW) (B : List kW) (g : (A ++ x :: B).length ≤ 1000000000) : rk (A ++ x :: B) (A.length : Int) ((A.length : Int) + 1) = some (A ++ B) := by
 have hlen : (A ++ x :: B).length = A.length + (B.length + 1) := by simp
 have a : (A ++ x :: B).take (Int.toNat (A.length : Int)) = A := by simp
 have b : (A ++ x :: B).drop (Int.toNat ((A.length : Int) + 1)) = B := by
  rw [show Int.toNat ((A.length : Int) + 1) = A.length + 1 by omega, List.drop_append]
  simp
 have c : (Ay (A ++ x :: B) (Int.toNat (A.length : Int)) (Int.toNat ((A.length : Int) + 1))) = A ++ B ++ (A ++ x :: B).drop ((A ++ x :: B).length - (Int.toNat ((A.length : Int) + 1) - Int.toNat (A.length : Int))) := by
  unfold Ay; rw [a, b]
 have d : (A ++ B ++ (A ++ x :: B).drop ((A ++ x :: B).length - (Int.toNat ((A.length : Int) + 1) - Int.toNat (A.length : Int)))).length = (A ++ x :: B).length := by
  rw [aC, dT, hlen, aC]; omega
 unfold rk
 rw [O9 (by omega)]
 simp only [aA]
 rw [aU (by simp; omega), yT (by omega) (by omega), yT (by omega) (by omega), O9 (by omega)]
 simp only [aA]
 rw [a, b, c, d, O9 (by simp; omega)]
 simp only [aA]
 congr 1
 unfold nD
 have h : (Int.toNat ((A ++ B).length : Int)) = (A ++ B).length := by omega
 rw [h, gK, gK]
def AU (l : List kW) (i : Nat) : Prop := ∃ j, i ≤ j ∧ j + 1 < l.length ∧ nS [] (l.eraseIdx j)
theorem Kc {α : Type} (l : List α) (i : Nat) (h : i < l.length) : ∃ A x B, l = A ++ x :: B ∧ A.length = i := ⟨l.take i, l[i], l.drop (i + 1), by simp, by simp; omega⟩
theorem Ir {α : Type} (A : List α) (x : α) (B : List α) : (A ++ x :: B).eraseIdx A.length = A ++ B := by
 rw [List.eraseIdx_append_of_length_le (aS _)]; simp
theorem AU.step {l : List kW} {i : Nat} (h : i + 1 < l.length) : AU l i ↔ nS [] (l.eraseIdx i) ∨ AU l (i + 1) := by
 constructor
 ·rintro ⟨j, h1, b, a⟩
  rcases Nat.eq_or_lt_of_le h1 with rfl | h1
  ·exact .inl a
  ·exact .inr ⟨j, h1, b, a⟩
 ·rintro (h1 | ⟨j, h1, b, a⟩)
  ·exact ⟨i, aS _, h, h1⟩
  ·exact ⟨j, by omega, b, a⟩
open Classical in
theorem ID (l : List kW) (hl : l.length ≤ 100000000) : ∀ (n i : Nat), l.length < n + i → i ≤ l.length → sf l n (i : Int) = some (if AU l i then .inl false else .inr ())
 | 0, i, h, hil => by
  omega
 | n + 1, i, h, hil => by
  rw [sf, lG (by omega) (by omega)]
  have hm : (if 0 > (l.length : Int) - 1 then 0 else (l.length : Int) - 1) = ((l.length - 1 : Nat) : Int) := by split <;> omega
  rw [hm]
  by_cases hi : i + 1 < l.length
  ·rw [aV (by simp; omega), Lx (by omega)]
   simp only [aA]
   obtain ⟨A, x, B, rfl, rfl⟩ := Kc l i (by omega)
   rw [lG (by omega) (by omega), JE A x B (by omega)]
   simp only [aA]
   rw [He _ (by simp at hl ⊢; omega)]
   simp only [aA]
   rw [AU.step hi, Ir]
   cases hs : Ih (A ++ B) with
   | true => simp [A0.1 hs]
   | false =>
    have hn : ¬ nS [] (A ++ B) := fun h => by rw [A0.2 h] at hs; cases hs
    have := ID _ hl n (A.length + 1) (by omega) (by omega)
    simp only [Int.natCast_add, Int.natCast_one] at this
    simp only [aB, aN, hn, false_or]
    exact this
  ·rw [aU (by simp; omega)]
   have hn : ¬ AU l i := fun ⟨j, h1, h2, _⟩ => by omega
   rw [aU hn]
def Et (l : List kW) : Prop := (l.map (·.kk)).Nodup ∧ nS [] l ∧ ¬ AU l 0
open Classical in
noncomputable def KY (l : List kW) : Bool := decide (Et l)
theorem AY {l : List kW} : KY l = true ↔ Et l := by unfold KY; simp
theorem Nt (l : List kW) (d : (l.map (·.kk)).Nodup) {q : Option (Bool ⊕ Unit)} (g : q = (open Classical in some (if AU l 0 then .inl false else .inr ()))) :
  (if (!Ih l) = true then some false else q.bind fun s => match s with | .inl a => some a | .inr _ => some true) = some (KY l) := by
 subst g
 cases c : Ih l with
 | false =>
  simp only [cV, aZ]
  congr 1
  rw [bR, AY]
  exact ⟨fun h => (by cases h), fun h => by rw [A0.2 h.2.1] at c; cases c⟩
 | true =>
  simp only [bV, aB, aN, aA]
  by_cases b : AU l 0
  ·rw [aV b]
   simp only
   congr 1
   rw [bR, AY]
   exact ⟨fun h => (by cases h), fun h => absurd b h.2.2⟩
  ·rw [aU b]
   simp only
   congr 1
   rw [bR, AY]
   exact ⟨fun _ => ⟨d, A0.1 c, b⟩, fun _ => rfl⟩
theorem IA (l : List kW) (j : l.length ≤ 100000000) : ∀ (B A : List kk), A ++ B = l.map (·.kk) → A.Nodup → so (A ++ B) l B A.length = some (KY l)
 | [], A, e, g => by
  rw [so, He l (by omega)]
  simp only [aA]
  rw [bE] at e
  exact Nt l (by rw [← e]; exact g) (ID l j kT 0 (by rw [tW]; omega) (by omega))
 | f :: B, A, e, g => by
  rw [so, yT (by omega) (by simp; omega)]
  simp only [aA]
  rw [Jx, Ta]
  simp only [aA]
  by_cases c : f ∈ A
  ·rw [aV (by simpa using c)]
   congr 1
   rw [bR, AY]
   refine ⟨fun h => (by cases h), fun h => ?_⟩
   have := h.1
   rw [← e] at this
   exact absurd rfl ((bU.1 this).2.2 f c f (by simp))
  ·rw [aU (by simpa using c)]
   have := IA l j B (A ++ [f]) (by simpa using e) (bU.2 ⟨g, by simp, fun a ha b i d => by rw [aW] at i; rw [d, i] at ha; exact c ha⟩)
   simpa only [aK, bW, bJ, aC, aJ, bP, dZ] using this
theorem Iz (l : List kW) (a : l.length ≤ 100000000) : yf l = some (KY l) := by
 unfold yf
 rw [Il l (by omega)]
 exact IA l a _ [] rfl (by simp)
theorem Qj : ∀ (P S : List kW) (n : Nat), P.length < n → (P ++ S).length ≤ 100000000 → nS [] (P ++ S) →
  ∃ R, oV n (P ++ S) ((P.length : Int) - 1) = some (R ++ S) ∧ R.Sublist P ∧ nS [] (R ++ S) ∧ ∀ R1 x R2, R = R1 ++ x :: R2 → ¬ nS [] (R1 ++ (R2 ++ S)) := by
 intro P
 induction hk : P.length generalizing P with
 | zero =>
  intro S n u o c
  obtain rfl := ee.1 hk
  obtain ⟨m, rfl⟩ : ∃ m, n = m + 1 := ⟨n - 1, by omega⟩
  refine ⟨[], ?_, .slnil, c, fun R1 x R2 h => by simp at h⟩
  rw [oV, aU (by simp)]
 | succ k ih =>
  intro S n u o c
  obtain ⟨m, rfl⟩ : ∃ m, n = m + 1 := ⟨n - 1, by omega⟩
  obtain ⟨P0, x, rfl⟩ : ∃ P0 x, P = P0 ++ [x] := by
   rcases dD P with rfl | ⟨L, y, rfl⟩
   ·simp at hk
   ·exact ⟨L, y, by simp⟩
  have j : P0.length = k := by simpa using hk
  subst j
  have t : P0.length + (S.length + 1) ≤ 100000000 := by simp at o; omega
  simp only [aK, bW, bJ] at c o ⊢
  rw [oV, aV (by simp), Lx (by omega)]
  simp only [aA]
  rw [show ((P0.length + 1 : Nat) : Int) - 1 = (P0.length : Int) by omega, lG (by omega) (by omega), JE P0 x S (by omega)]
  simp only [aA]
  rw [MP _ (by simp; omega), lG (by omega) (by omega)]
  simp only [aA]
  cases b : Ih (P0 ++ S) with
  | true =>
   simp only [aZ, aA]
   obtain ⟨R, e, h1, g, i⟩ := ih P0 rfl S m (by omega) (by simp; omega) (A0.1 b)
   exact ⟨R, e, h1.trans (List.sublist_append_left _ _), g, i⟩
  | false =>
   simp only [aB, aN, aA]
   obtain ⟨R, e, h1, g, i⟩ := ih P0 rfl (x :: S) m (by omega) (by simp; omega) c
   refine ⟨R ++ [x], by rw [e]; simp, fV h1 (.refl _), by simpa using g, fun R1 y R2 q a => ?_⟩
   rcases dD R2 with rfl | ⟨R2', z, rfl⟩
   ·-- x d
    have : R = R1 ∧ x = y := by
     have := jJ (t₁ := [x]) (t₂ := [y]) (by simpa using q) rfl
     exact ⟨this.1, by simpa using this.2⟩
    obtain ⟨rfl, rfl⟩ := this
    simp only [bJ] at a
    rw [AO] at c a
    have : nS [] (P0 ++ S) := (AO _ _ _).2 ⟨c.1, a.2.mono (fun f r => by
     simp only [bJ] at r ⊢
     exact (h1.map _).subset r)⟩
    rw [A0.2 this] at b; cases b
   ·have l : R ++ [x] = (R1 ++ y :: R2') ++ [z] := by simpa using q
    have := jJ l rfl
    obtain ⟨s, p⟩ := this
    simp at p; subst p
    exact i R1 y R2' s (by simpa using a)
theorem Ow {R : List kW} {z : kW} (c : ((R ++ [z]).map (·.kk)).Nodup) (d : nS [] (R ++ [z])) (h : ∀ R1 x R2, R = R1 ++ x :: R2 → ¬ nS [] (R1 ++ (R2 ++ [z]))) : Et (R ++ [z]) := by
 refine ⟨c, d, ?_⟩
 rintro ⟨j, _, h1, a⟩
 have b : j < R.length := by simp at h1; omega
 obtain ⟨A, x, B, rfl, rfl⟩ := Kc R j b
 refine h A x B rfl ?_
 have := Ir A x (B ++ [z])
 simp only [aK, bW] at a
 rw [this] at a
 exact a
theorem JR (P : List kW) (z : kW) (h : (P ++ [z]).length ≤ 10000000) (j : ((P ++ [z]).map (·.kk)).Nodup) (k : nS [] (P ++ [z])) :
  ∃ R, vl (P ++ [z]) = some (R ++ [z]) ∧ R.Sublist P ∧ Et (R ++ [z]) := by
 unfold vl
 rw [nt, pP, Iz _ (by omega)]
 simp only [aA]
 cases l : KY (P ++ [z]) with
 | true =>
  simp only [bV, aB, aN]
  exact ⟨P, rfl, .refl _, AY.1 l⟩
 | false =>
  simp only [cV, aZ]
  have i : P.length + 1 ≤ 10000000 := by simpa using h
  obtain ⟨R, e, h1, c, d⟩ := Qj P [z] kT (by rw [tW]; omega) (by simp; omega) k
  have g : wi0 .i64 (((P ++ [z]).length : Int) - 2) = (P.length : Int) - 1 := by rw [lG (by simp; omega) (by simp; omega)]; simp; omega
  rw [g, e]
  simp only [aA]
  have a : (R ++ [z]).Sublist (P ++ [z]) := fV h1 (.refl _)
  have b := Ow ((a.map _).nodup j) c d
  rw [show (18446744073709551615 : Nat) = 18446744073709551614 + 1 from rfl, pP, Iz _ (by have := a.length_le; omega)]
  simp only [aA]
  rw [AY.2 b]
  simp only [bV, aB, aN]
  exact ⟨R, rfl, h1, b⟩
def BA (l : List ke) : List ByteArray := l.flatMap fun c => [c.kR, c.Head.kj, c.B.kj, c.C.kj]
theorem DZ (l : List ke) : (BA l).length = 4 * l.length := by
 unfold BA
 induction l with
 | nil => rfl
 | cons x l ih => simp [ih]; omega
theorem Ib : ∀ (l : List ke) (acc : List ByteArray), acc.length + 4 * l.length ≤ 1000000000 → sk l acc = xG (acc ++ BA l)
 | [], acc, _ => by rw [sk, oY]; simp [BA]
 | c :: l, acc, h => by
  simp only [aJ] at h
  rw [sk, mT (by simp; omega) (by simp; omega)]
  simp only [aA]
  rw [Ib l _ (by simp; omega)]
  simp [BA]
theorem NJ (l : List ke) (h : l.length ≤ 10000000) : ∃ s, yn l = some s ∧ Bg (BA l) s ∧ s.length ≤ 4 * l.length := by
 unfold yn
 rw [Ib l [] (by simp; omega)]
 obtain ⟨s, e, a⟩ := QY ([] ++ BA l) (by rw [bJ, DZ]; omega)
 rw [bJ] at a
 exact ⟨s, e, a, by rw [← DZ]; exact ru (Fo _) a⟩
theorem tM.self {α : Type} {lt : α → α → Prop} {P : α → Prop} {l s : List α} (h : tM lt P l s) : tM lt P s s := ⟨h.1, fun x => ⟨fun a => ⟨a, ((h.2 x).1 a).2⟩, fun a => a.1⟩⟩
theorem rM.own {l : List kk} {c : ke} {names : List ByteArray} {w : ByteArray} (h : rM l c names w) : rM l c (l.map (·.kR)) w := by
 rcases h with h | h | h | ⟨d, g, i, b, _, a, j⟩
 ·exact .inl h
 ·exact .inr (.inl h)
 ·exact .inr (.inr (.inl h))
 ·exact .inr (.inr (.inr ⟨d, g, i, b, bG.2 ⟨_, a, rfl⟩, a, j⟩))
theorem rM.subset {a b : List kk} {c : ke} {names : List ByteArray} {w : ByteArray} (h : rM a c names w) (d : ∀ f ∈ a, f ∈ b) : rM b c names w := by
 rcases h with h | h | h | ⟨i, j, k, g, l, m, n⟩
 ·exact .inl h
 ·exact .inr (.inl ⟨h.1, d _ h.2⟩)
 ·exact .inr (.inr (.inl ⟨h.1, d _ h.2.1, d _ h.2.2⟩))
 ·exact .inr (.inr (.inr ⟨i, j, k, g, l, d _ m, d _ n⟩))
def nB (l : List kW) : List kk := l.map (·.kk)
theorem wZ (l m : List kW) : nB (l ++ m) = nB l ++ nB m := by simp [nB]
structure EO (C : List ke) (want : kk) (out : List kW) : Prop where
 st : nS [] out
 nd : (nB out).Nodup
 cr : ∀ s ∈ out, s.ke ∈ C
 dr : ∀ f ∈ nB out, nU C f
 no : want ∉ nB out
theorem EO.len {C : List ke} {want : kk} {out : List kW} (h : EO C want out) : out.length ≤ C.length * C.length := by
 have h1 : (nB out).length ≤ (Ce C).length := mA h.nd (fun f a => (h.dr f a).Ce)
 rw [zn] at h1
 simpa [nB] using h1
structure PM (C : List ke) (want : kk) (l : List kW) : Prop where
 st : nS [] l
 nd : (nB l).Nodup
 cr : ∀ s ∈ l, s.ke ∈ C
 dr : nU C want
 len : l.length ≤ C.length * C.length
 last : ∃ P z, l = P ++ [z] ∧ z.kk = want
theorem KT {κ : Type} {beq : κ → κ → Bool} (b : ∀ {x y}, beq x y = true ↔ x = y) {a : List κ} {k : κ} (h : k ∉ a) : ins beq a k = a ++ [k] := by
 unfold ins
 rw [aU]
 intro c; exact h ((qL b a k).1 c)
theorem Gs {C : List ke} (z : SM C) (w : qp C) {c : ke} (t : c ∈ C) (tZ : List ByteArray) (want : kk) (j : List kW) : ∀ (p : List kk) (out : List kW), EO C want out → (∀ f ∈ nB j, f ∈ nB out) → (∀ f ∈ p, f.kd = c.Head ∧ rM (nB j) c tZ f.kR) →
  (∃ l, pG c want p out (tt (nB out)) = some (.inl (.inl (l, true))) ∧ PM C want l) ∨
  (∃ e, pG c want p out (tt (nB out)) = some (.inr (out ++ e, tt (nB (out ++ e)))) ∧ EO C want (out ++ e) ∧ ∀ f ∈ p, f ∈ nB (out ++ e))
 | [], out, h, _, _ => .inr ⟨[], by rw [pG]; simp, by simpa using h, by simp⟩
 | f :: p, out, h, m, D => by
  rw [pG, Ds]
  by_cases k : f ∈ nB out
  ·rw [aV ((qL nj _ _).2 k)]
   rcases Gs z w t tZ want j p out h m (fun g d => D g (by simp [d])) with h1 | ⟨e, h1, x, y⟩
   ·exact .inl h1
   ·refine .inr ⟨e, h1, x, fun g d => ?_⟩
    rcases aO.1 d with rfl | d
    ·rw [wZ]; exact bX _ k
    ·exact y g d
  ·rw [aU (fun r => k ((qL nj _ _).1 r))]
   have J := h.len
   have I := z.sq
   rw [mT (by simp; omega) (by simp; omega)]
   simp only [aA]
   obtain ⟨F, E⟩ := D f (by simp)
   have o : rM (nB out) c tZ f.kR := E.subset m
   have n : nU C f := by
    have := O6 t (w c t) h.dr o
    rw [← F] at this; exact this
   have i : nS [] (out ++ [⟨c, f⟩]) := (AO _ _ _).2 ⟨h.st, ⟨w c t, F, o.own⟩, trivial⟩
   have q : (nB (out ++ [⟨c, f⟩])).Nodup := by
    rw [wZ]
    exact bU.2 ⟨h.nd, by simp [nB], fun a ha b r A => by
     simp only [nB, bH, ev, aW] at r
     rw [A, r] at ha; exact k ha⟩
   have u : ∀ s ∈ out ++ [⟨c, f⟩], s.ke ∈ C := fun s m => by
    rcases aQ.1 m with m | m
    ·exact h.cr s m
    ·rw [aW] at m; rw [m]; exact t
   have v : ∀ g ∈ nB (out ++ [⟨c, f⟩]), nU C g := fun g d => by
    rw [wZ] at d
    rcases aQ.1 d with d | d
    ·exact h.dr g d
    ·simp only [nB, bH, ev, aW] at d
     rw [d]; exact n
   by_cases hw : f = want
   ·rw [aV (nj.2 hw)]
    refine .inl ⟨_, rfl, i, q, u, by rw [← hw]; exact n, ?_, out, _, rfl, hw⟩
    have h1 : (nB (out ++ [⟨c, f⟩])).length ≤ (Ce C).length := mA q (fun g d => (v g d).Ce)
    rw [zn] at h1
    simpa [nB] using h1
   ·rw [aU (fun r => hw (nj.1 r)), HR nj, KT nj k]
    have d : EO C want (out ++ [⟨c, f⟩]) := ⟨i, q, u, v, fun k => by
     rw [wZ] at k
     rcases aQ.1 k with k | k
     ·exact h.no k
     ·simp only [nB, bH, ev, aW] at k
      exact hw k.symm⟩
    have G : nB out ++ [f] = nB (out ++ [⟨c, f⟩]) := by rw [wZ]; rfl
    rw [G]
    rcases Gs z w t tZ want j p _ d (fun g d => by rw [wZ]; exact bX _ (m g d)) (fun g d => D g (by simp [d])) with h1 | ⟨e, h1, x, y⟩
    ·exact .inl h1
    ·refine .inr ⟨⟨c, f⟩ :: e, by rw [h1]; simp, by simpa using x, fun g d => ?_⟩
     rcases aO.1 d with rfl | d
     ·rw [wZ]; exact dC _ (by simp [nB])
     ·have := y g d
      simpa using this
def JY (tZ : List ByteArray) (cs : List ke) (F : List kk) : Prop := ∀ c ∈ cs, ∀ w ∈ tZ, rM F c tZ w → (⟨c.Head, w⟩ : kk) ∈ F
theorem JI {C : List ke} (o : SM C) (k : qp C) {tZ : List ByteArray} (hw : Bg tZ tZ) (g : tZ.length ≤ 900000000) (want : kk) : ∀ (cs : List ke) (out : List kW), (∀ c ∈ cs, c ∈ C) → EO C want out →
  (∃ l, qG tZ want cs out (tt (nB out)) = some (.inl (l, true)) ∧ PM C want l) ∨
  (∃ e, qG tZ want cs out (tt (nB out)) = some (.inr (out ++ e, tt (nB (out ++ e)))) ∧ EO C want (out ++ e) ∧ (e = [] → JY tZ cs (nB out)))
 | [], out, _, h => .inr ⟨[], by rw [qG]; simp, by simpa using h, fun _ c z => by cases z⟩
 | c :: cs, out, b, h => by
  rw [qG]
  obtain ⟨y, u, s, a2⟩ := Nk (f := fun x => ud x.1 x.2 (tt (nB out))) (p := fun x => ur nJ (nB out) ⟨x.1, x.2⟩) (fun x => by unfold ud; rw [Ds]) (out := nB out) (fun r w => qL nj _ _) c g hw
  rw [u]
  simp only [aA]
  rcases Gs o k (b c (by simp)) tZ want out y out h (fun _ h => h) (fun f A => (s f A).2) with ⟨l, h1, j⟩ | ⟨e, h1, j, n⟩
  ·rw [h1]
   exact .inl ⟨l, rfl, j⟩
  ·rw [h1]
   simp only [aA]
   rcases JI o k hw g want cs _ (fun x D => b x (by simp [D])) j with ⟨l, m, k2⟩ | ⟨v, m, k2, q⟩
   ·exact .inl ⟨l, m, k2⟩
   ·refine .inr ⟨e ++ v, by rw [m]; simp, by simpa using k2, fun he => ?_⟩
    obtain ⟨rfl, rfl⟩ := List.append_eq_nil_iff.1 he
    simp only [bE] at n q
    intro t a w i d
    rcases aO.1 a with rfl | a
    ·exact n _ (a2 (k _ (b _ (by simp))) w i d)
    ·exact q trivial t a w i d
theorem Je {C : List ke} (j : SM C) (d : qp C) {tZ : List ByteArray} (hw : Bg tZ tZ) (b : tZ.length ≤ 900000000) (k : ∀ c ∈ C, c.Kind = 1 → c.kR ∈ tZ) (want : kk) : ∀ (n : Nat) (out : List kW) (x : Int), EO C want out → x ≤ out.length → (x = out.length → JY tZ C (nB out)) → ((C.length * C.length : Nat) : Int) < n + x →
  (∃ l, qI tZ want C n out x (tt (nB out)) = some (l, true) ∧ PM C want l) ∨ (qI tZ want C n out x (tt (nB out)) = some ([], false) ∧ ¬ nU C want)
 | 0, out, x, h, p, _, o => by
  have := h.len
  omega
 | n + 1, out, x, h, p, g, o => by
  rw [qI]
  by_cases a : x < out.length
  ·rw [aV (by simpa using a)]
   rcases JI j d hw b want C out (fun _ h => h) h with ⟨l, i, k2⟩ | ⟨e, i, k2, q⟩
   ·rw [i]
    exact .inl ⟨l, rfl, k2⟩
   ·rw [i]
    simp only [aA]
    refine Je j d hw b k want n (out ++ e) out.length k2 (by rw [aC]; omega) (fun he => ?_) (by omega)
    have : e = [] := aP (by simp at he; omega)
    subst this
    rw [bE]
    exact q rfl
  ·rw [aU (by simpa using a)]
   refine .inr ⟨rfl, fun m => h.no ?_⟩
   exact GL d k (g (by omega)) m
theorem OK (l : List ke) (n : l.length ≤ 30000) (want : kk) : ∃ C, Hc l C ∧ ((∃ o, wq l want = some (o, true) ∧ PM C want o) ∨ (wq l want = some ([], false) ∧ ¬ nU C want)) := by
 obtain ⟨C, h, b⟩ := Q6 l (by omega)
 obtain ⟨tZ, i, hw, m⟩ := NJ l (by omega)
 have j : C.length ≤ l.length := ru AM b
 have a : SM C := by unfold SM; omega
 have g : qp C := fun c d => ((b.2 c).1 d).2
 refine ⟨C, b, ?_⟩
 unfold wq
 rw [h, i]
 simp only [aA]
 have k := a.sq
 exact Je a g hw.self (by omega) (fun c d hk => (hw.2 _).2 ⟨iw.2 ⟨c, ((b.2 c).1 d).1, by simp⟩, Mr (g c d) hk⟩) want kT [] (-1) ⟨trivial, by simp [nB], by simp, by simp [nB], by simp [nB]⟩ (by simp) (by simp) (by rw [tW]; omega)
structure SL (C : List ke) (want : kk) (l : List kW) : Prop where
 tg : Et l
 cr : ∀ s ∈ l, s.ke ∈ C
 dr : nU C want
 len : l.length ≤ C.length * C.length
 last : ∃ P z, l = P ++ [z] ∧ z.kk = want
theorem QL (l : List ke) (n : l.length ≤ 3000) (want : kk) : ∃ C, Hc l C ∧ ((∃ o, vq l want = some (o, true) ∧ SL C want o) ∨ (vq l want = some ([], false) ∧ ¬ nU C want)) := by
 obtain ⟨C, b, h⟩ := OK l (by omega) want
 refine ⟨C, b, ?_⟩
 have i : C.length ≤ l.length := ru AM b
 have k : C.length * C.length ≤ 3000 * 3000 := gZ (by omega) (by omega)
 unfold vq
 rcases h with ⟨o, e, g⟩ | ⟨e, g⟩
 ·rw [e]
  simp only [aA, bV, aB, aN]
  obtain ⟨P, z, rfl, m⟩ := g.last
  have hlen := g.len
  obtain ⟨R, c, h1, d⟩ := JR P z (by omega) g.nd g.st
  rw [c]
  simp only [aA]
  have a : (R ++ [z]).Sublist (P ++ [z]) := fV h1 (.refl _)
  exact .inl ⟨_, rfl, d, fun s j => g.cr s (a.subset j), g.dr, by have := a.length_le; omega, R, z, rfl, m⟩
 ·rw [e]
  exact .inr ⟨rfl, g⟩
def LG : List kW → List kW → List kW
 | [], acc => acc
 | s :: l, acc => if ur nJ (nB acc) s.kk then LG l acc else LG l (acc ++ [s])
theorem Gq : ∀ (l acc : List kW), acc.length + l.length ≤ 100000000 → qM l (tt (nB acc)) acc = some (LG l acc)
 | [], acc, _ => by rw [qM]; rfl
 | s :: l, acc, h => by
  simp only [aJ] at h
  rw [qM, Ds, LG]
  by_cases a : s.kk ∈ nB acc
  ·rw [(qL nj _ _).2 a]
   simp only [bV, aB, aN, aZ]
   exact Gq l acc (by omega)
  ·have b : ur nJ (nB acc) s.kk = false := by
    cases c : ur nJ (nB acc) s.kk with
    | false => rfl
    | true => exact absurd ((qL nj _ _).1 c) a
   rw [b]
   simp only [cV, aZ, aB, aN]
   rw [mT (by simp; omega) (by simp; omega)]
   simp only [aA]
   rw [HR nj, KT nj a, show nB acc ++ [s.kk] = nB (acc ++ [s]) by rw [wZ]; rfl]
   exact Gq l _ (by simp; omega)
theorem SE {b : Bool} (h : b = true) : ot b = some () := by simp [ot, h]
theorem Mg (n : Nat) (a : n ≤ 1000000000) : sE (n : Int) = some [] := by
 unfold sE
 rw [show wi0 .i64 (0 - 0) = 0 by decide, lG (by omega) (by omega), aU (by simp), Int.sub_zero]
 by_cases h : (n : Int) > 0
 ·rw [aV (by simp; omega)]
  unfold Hw
  rw [aV ⟨by omega, by omega, by unfold maxLen; omega⟩]
  simp only [aA]
  rw [SE (by simp)]
  simp
 ·rw [aU (by simp; omega)]; simp
def tot {α : Type} (a : List (List α)) : Nat := (a.map List.length).sum
theorem Ix : ∀ (a : List (List kW)) (acc : List kW), acc.length + tot a ≤ 100000000 → oU a acc = some (acc ++ a.flatten)
 | [], acc, _ => by rw [oU]; simp
 | l :: a, acc, h => by
  simp only [tot, bH, eA] at h
  rw [oU, mT (by omega) (by omega)]
  simp only [aA]
  rw [Ix a _ (by simp only [tot, aC]; omega)]
  simp
theorem Ik (a0 : List (List kW)) (b : tot a0 ≤ 100000000) : ∀ (a : List (List kW)) (n : Nat), n + tot a ≤ 100000000 → oR a0 a (n : Int) = some a0.flatten
 | [], n, h => by
  rw [oR, Mg n (by omega)]
  simp only [aA, oY]
  rw [Ix a0 [] (by simpa using b)]; simp
 | l :: a, n, h => by
  simp only [tot, bH, eA] at h
  rw [oR, lG (by omega) (by omega), aU (by simp; omega)]
  have := Ik a0 b a (n + l.length) (by simp only [tot]; omega)
  simpa using this
theorem Oy (a0 : List (List kW)) (a : tot a0 ≤ 100000000) : vZ a0 = some a0.flatten := Ik a0 a a0 0 (by omega)
theorem HW {α : Type} (a : List (List α)) : a.flatten.length = tot a := by simp [tot, List.length_flatten]
theorem OA (a : List (List kW)) (b : tot a ≤ 100000000) : yw a = some (LG a.flatten []) := by
 unfold yw
 rw [Oy a b]
 simp only [aA]
 exact Gq _ [] (by rw [HW]; simpa using b)
def up (w : ByteArray) (g : ByteArray → Nat) : ByteArray → Nat := fun x => if lK w x = true then g x + 1 else g x
instance decRole : DecidableEq kd := fun a b => decidable_of_iff (kG a b = true) kE
structure Rs (l : List ke) (F : List kk) : Prop where
 len : l.length ≤ 30000
 C : ∃ C : List ke, Bb (nU C) F ∧ (∀ c, c ∈ C ↔ c ∈ l ∧ lI c = true) ∧ SM C
 ref : AN l = some F
theorem Rz (l : List ke) (g : l.length ≤ 30000) : ∃ F, Rs l F := by
 obtain ⟨C, F, e, h1, h⟩ := QG l g
 obtain ⟨C1, T, j, ws, n, i, m1, a, d⟩ := Mi l (by omega)
 have b : ∀ c, c ∈ C ↔ c ∈ C1 := fun c => by rw [h, a]
 exact ⟨F, g, ⟨C1, ⟨h1.1, fun f => (h1.2 f).trans (nU.congr b f)⟩, a, by unfold SM; omega⟩, e⟩
theorem Rs.TA {l : List ke} {F : List kk} (h : Rs l F) : F.length ≤ 900000000 := by
 obtain ⟨C, h1, b, a⟩ := h.C
 exact QB h1 a
def B8 (l : List Int) : Prop := ∀ x ∈ l, 0 ≤ x ∧ x < 256
def MG : List ByteArray → List Key → Int
 | _, [] => 0
 | seen, k :: l => if nl k.kR = false then 30 else if k.Key.length < 1 ∨ 32 < k.Key.length then 21 else if ur lK seen k.kR = true then 41 else MG (seen ++ [k.kR]) l
def OZ (l : List Key) : List (ByteArray × List Int) := l.map fun k => (k.kR, k.Key)
def OV (l : List Key) (o : ByteArray) : Option (List Int) := lU lK (OZ l) o
theorem Rg {l : List Int} (h : l.length ≤ 1000000) : uM l = some l := by
 unfold uM
 rw [Gt (by simpa using h)]; rfl
theorem LF : ∀ (l : List Key) (seen : List ByteArray), MG seen l = 0 → ∀ k ∈ l, 1 ≤ k.Key.length ∧ k.Key.length ≤ 32
 | [], _, _, _, hk => by cases hk
 | x :: l, seen, h, k, hk => by
  unfold MG at h
  split at h
  ·cases h
  split at h
  ·cases h
  split at h
  ·cases h
  rcases aO.1 hk with rfl | hk
  ·omega
  ·exact LF l _ h k hk
theorem Gb : ∀ (l : List Key) (o : ByteArray) (b : List Int), OV l o = some b → ∃ k ∈ l, k.Key = b
 | [], o, b, h => by cases h
 | x :: l, o, b, h => by
  unfold OV at h
  rw [show OZ (x :: l) = (x.kR, x.Key) :: OZ l from rfl, BU] at h
  split at h
  ·cases h; exact ⟨x, by simp, rfl⟩
  ·obtain ⟨k, hk, e⟩ := Gb l o b h
   exact ⟨k, by simp [hk], e⟩
def K8 (l : List Key) : Prop := ∀ k ∈ l, B8 k.Key
structure Mk (ks : List Key) (c : ke) (k : List Int) : Prop where
 ok : MG [] ks = 0
 rt : lI c = true
 lk : OV ks c.Head.kj = some k
theorem Mk.len {a : List Key} {c : ke} {k : List Int} (h : Mk a c k) : 1 ≤ k.length ∧ k.length ≤ 32 := by
 obtain ⟨q, b, rfl⟩ := Gb _ _ _ h.lk
 exact LF a [] h.ok q b
theorem Mk.b8 {a : List Key} {c : ke} {k : List Int} (h : Mk a c k) (hk : K8 a) : B8 k := by
 obtain ⟨q, b, rfl⟩ := Gb _ _ _ h.lk
 exact hk q b
theorem Mk.unique {a : List Key} {c : ke} {k k' : List Int} (h : Mk a c k) (b : Mk a c k') : k = k' := by
 have := h.lk; rw [b.lk] at this; cases this; rfl
def S8 (l : List Signed) : Prop := ∀ s ∈ l, B8 s.Tag
theorem OU (b : List ke) (x : ke) : sF b x = some (ur nr b x) := by
 obtain ⟨q, e, h⟩ := J3 x b
 unfold wc at e
 rw [oY] at e
 rw [e, show q = ur nr b x from by rw [bR, h, qL re]]
structure Rt (l : List ke) (F : List kk) : Prop where
 len : F.length ≤ 900000000
 ref : AN l = some F
 T6 : ∃ m, xr l = some m ∧ wM m.1 m.2.1 m.2.2.1 m.2.2.2.1 m.2.2.2.2.1 m.2.2.2.2.2 = some F ∧ ∀ r w, um m.1 m.2.1 m.2.2.1 m.2.2.2.1 m.2.2.2.2.1 m.2.2.2.2.2 r w = some (ur nJ F ⟨r, w⟩)
 xO : ∀ C : List ke, (∀ c, c ∈ C ↔ c ∈ l ∧ lI c = true) → Bb (nU C) F
theorem TJ (l : List ke) (v : l.length ≤ 30000) : ∃ F, Rt l F := by
 obtain ⟨F, h⟩ := Rz l v
 refine ⟨F, h.TA, h.ref, ?_, fun C s => ?_⟩
 ·obtain ⟨C, h1, d, q⟩ := h.C
  obtain ⟨C1, T, m, ws, n, o, m1, g, j⟩ := Mi l (by omega)
  have a : ∀ c, c ∈ C1 ↔ c ∈ C := fun c => by rw [d, g]
  have k : Bb (nU C1) F := ⟨h1.1, fun f => (h1.2 f).trans (nU.congr a f).symm⟩
  have t : SM C1 := by unfold SM; omega
  refine ⟨_, o, ?_, fun r w => ?_⟩
  ·obtain ⟨F1, p, i⟩ := Pp t.small m1 C1 m ws [] n
   rw [← i.unique k]; exact p
  ·obtain ⟨b, e, u⟩ := Nu m1 C1 m ws [] n r w
   rw [e, show b = ur nJ F ⟨r, w⟩ from by rw [bR, u, qL nj, k.2]]
 ·obtain ⟨C', h1, d, q⟩ := h.C
  have a : ∀ c, c ∈ C' ↔ c ∈ C := fun c => by rw [d, s]
  exact ⟨h1.1, fun f => (h1.2 f).trans (nU.congr a f)⟩
section
variable {α : Type}
structure SWO (lt : α → α → Bool) : Prop where
 Td : ∀ x, lt x x = false
 tr : ∀ x y z, lt x y = true → lt y z = true → lt x z = true
 PF : ∀ x y z, lt x z = true → lt x y = true ∨ lt y z = true
variable {lt : α → α → Bool}
def tl (lt : α → α → Bool) (p q : α × Nat) : Prop := lt p.1 q.1 = true ∨ (lt q.1 p.1 = false ∧ p.2 < q.2)
theorem Dw (h : SWO lt) {p q r : α × Nat} (a : tl lt p q) (b : tl lt q r) : tl lt p r := by
 unfold tl at *
 rcases a with a | ⟨a, a2⟩ <;> rcases b with b | ⟨b, d⟩
 ·exact .inl (h.tr _ _ _ a b)
 ·rcases h.PF _ r.1 _ a with c | c
  ·exact .inl c
  ·rw [b] at c; cases c
 ·rcases h.PF _ p.1 _ b with c | c
  ·rw [a] at c; cases c
  ·exact .inl c
 ·refine .inr ⟨?_, by omega⟩
  cases e : lt r.1 p.1
  ·rfl
  ·rcases h.PF _ q.1 _ e with c | c
   ·rw [b] at c; cases c
   ·rw [a] at c; cases c
theorem Qf (h : SWO lt) {p q : α × Nat} (a : tl lt p q) (b : tl lt q p) : False := by
 have c := Dw h a b
 rcases c with c | ⟨_, c⟩
 ·rw [h.Td] at c; cases c
 ·omega
abbrev oN (lt : α → α → Bool) (t : List (α × Nat)) : Prop := t.Pairwise (tl lt)
theorem Hj (h : SWO lt) : ∀ {t u : List (α × Nat)}, oN lt t → oN lt u → t.Perm u → t = u
 | [], u, _, _, hp => by rw [List.nil_perm] at hp; exact hp.symm
 | p :: t, [], _, _, hp => by simp at hp
 | p :: t, q :: u, h1, b, hp => by
  have e : p = q := by
   rcases aO.1 (hp.mem_iff.1 (.head _)) with e | c
   ·exact e
   ·rcases aO.1 (hp.mem_iff.2 (.head _)) with e | a
    ·exact e.symm
    ·exact (Qf h ((cO.1 h1).1 _ a) ((cO.1 b).1 _ c)).elim
  subst e
  rw [Hj h (cO.1 h1).2 (cO.1 b).2 (List.Perm.cons_inv hp)]
def Gp (lt : α → α → Bool) (l : List α) (k : α) : List α := l.filter (fun x => !lt k x) ++ k :: l.filter (fun x => lt k x)
def Kl (lt : α → α → Bool) (l : List α) : List α := l.foldl (Gp lt) []
def F5 (lt : α → α → Bool) (t : List (α × Nat)) (k : α × Nat) : List (α × Nat) := t.filter (fun x => !lt k.1 x.1) ++ k :: t.filter (fun x => lt k.1 x.1)
theorem OR (t : List (α × Nat)) (k : α × Nat) : (F5 lt t k).map (·.1) = Gp lt (t.map (·.1)) k.1 := by
 simp [F5, Gp, List.filter_map, fE]
theorem Oj (t : List (α × Nat)) (k : α × Nat) : (F5 lt t k).Perm (t ++ [k]) := by
 unfold F5
 refine List.perm_middle.trans ?_
 refine (List.Perm.cons _ ?_).trans (fN k t).symm
 have := List.filter_append_perm (fun x : α × Nat => !lt k.1 x.1) t
 simpa using this
theorem Pw (h : SWO lt) {t : List (α × Nat)} {k : α × Nat} (g : oN lt t) (hk : ∀ x ∈ t, x.2 < k.2) : oN lt (F5 lt t k) := by
 unfold F5 oN
 rw [dm, cO]
 refine ⟨g.filter _, ⟨fun x b => ?_, g.filter _⟩, fun x b y c => ?_⟩
 ·exact .inl (cM.1 b).2
 ·obtain ⟨h1, d⟩ := cM.1 b
  simp only [fH, ] at d
  have a : tl lt x k := .inr ⟨d, hk x h1⟩
  rcases aO.1 c with rfl | c
  ·exact a
  ·exact Dw h a (.inl (cM.1 c).2)
theorem SG (h : SWO lt) (l : List α) : ∃ t, oN lt t ∧ t.Perm l.zipIdx ∧ t.map (·.1) = Kl lt l := by
 suffices H : ∀ (l r : List α) (t : List (α × Nat)), oN lt t → t.Perm r.zipIdx → ∃ u, oN lt u ∧ u.Perm (r ++ l).zipIdx ∧ u.map (·.1) = l.foldl (Gp lt) (t.map (·.1)) by
  obtain ⟨u, h1, c, g⟩ := H l [] [] .nil (by simp)
  exact ⟨u, h1, by simpa using c, g⟩
 intro l
 induction l with
 | nil => intro r t h1 c; exact ⟨t, h1, by simpa using c, rfl⟩
 | cons k l ih =>
  intro r t h1 c
  obtain ⟨u, d, a2, a3⟩ := ih (r ++ [k]) (F5 lt t (k, r.length)) (Pw h h1 (fun x i => by
   obtain ⟨a, b⟩ := x
   have := List.snd_lt_of_mem_zipIdx (c.mem_iff.1 i)
   simpa using this)) ((Oj t _).trans (by rw [List.zipIdx_append]; simpa using c.append_right _))
  refine ⟨u, d, by simpa using a2, ?_⟩
  rw [a3, OR]
  rfl
theorem QJ (h : SWO lt) {l : List α} {t : List (α × Nat)} (h1 : oN lt t) (b : t.Perm l.zipIdx) : t.map (·.1) = Kl lt l := by
 obtain ⟨u, a, a2, a3⟩ := SG h l
 rw [← a3, Hj h h1 a (b.trans a2.symm)]
end
section
variable {α : Type} {lt : α → α → Bool}
abbrev Lk (lt : α → α → Bool) (A B : List (α × Nat)) : Prop := ∀ A' a b B', A = A' ++ [a] → B = b :: B' → tl lt a b
theorem Aj (h : SWO lt) {A B : List (α × Nat)} (j : oN lt A) (k : oN lt B) (l : Lk lt A B) : ∀ a ∈ A, ∀ b ∈ B, tl lt a b := by
 intro a ha b c
 rcases dD A with rfl | ⟨A', z, rfl⟩
 ·cases ha
 cases B with
 | nil => cases c
 | cons y B' =>
  have h1 : tl lt z y := l A' z y B' (by simp) rfl
  have d : a = z ∨ tl lt a z := by
   simp only [eZ, aQ, aW] at ha
   rcases ha with ha | ha
   ·refine .inr ?_
    simp only [eZ, oN, dm] at j
    exact j.2.2 a ha z (by simp)
   ·exact .inl ha
  have g : b = y ∨ tl lt y b := by
   rcases aO.1 c with c | c
   ·exact .inl c
   ·exact .inr ((cO.1 k).1 b c)
  have i : tl lt a y := by
   rcases d with rfl | d
   ·exact h1
   ·exact Dw h d h1
  rcases g with rfl | g
  ·exact i
  ·exact Dw h i g
theorem Jm (h : SWO lt) {A B : List (α × Nat)} (a : oN lt A) (b : oN lt B) (l : Lk lt A B) : oN lt (A ++ B) :=
 dm.2 ⟨a, b, Aj h a b l⟩
theorem oN.left {A B : List (α × Nat)} (h : oN lt (A ++ B)) : oN lt A := (dm.1 h).1
theorem oN.right {A B : List (α × Nat)} (h : oN lt (A ++ B)) : oN lt B := (dm.1 h).2.1
theorem oN.two {A B : List (α × Nat)} (h : oN lt (A ++ B)) : ∀ a ∈ A, ∀ b ∈ B, tl lt a b := (dm.1 h).2.2
theorem HM (h : SWO lt) {A B : List (α × Nat)} {x : α × Nat} (d : oN lt (A ++ B)) (i : Lk lt A [x]) (j : Lk lt [x] B) : oN lt (A ++ x :: B) := by
 have h1 := Aj h d.left (gE _ x) i
 have g := Aj h (gE _ x) d.right j
 refine dm.2 ⟨d.left, cO.2 ⟨fun b c => g x (by simp) b c, d.right⟩, fun a ha b c => ?_⟩
 rcases aO.1 c with rfl | c
 ·exact h1 a ha _ (by simp)
 ·exact d.two a ha b c
theorem QP (h : SWO lt) {A1 A2 B1 B2 C1 C2 : List (α × Nat)} (d : oN lt (A1 ++ A2)) (g : oN lt (B1 ++ B2)) (j : Lk lt A1 B2) (k : Lk lt B1 A2) (l : C1.Perm (A1 ++ B1)) (m : C2.Perm (A2 ++ B2)) (h1 : oN lt C1) (i : oN lt C2) : oN lt (C1 ++ C2) := by
 have x1 := Aj h d.left g.right j
 have x2 := Aj h g.left d.right k
 refine dm.2 ⟨h1, i, fun a ha b c => ?_⟩
 rcases aQ.1 (l.mem_iff.1 ha) with ha | ha <;> rcases aQ.1 (m.mem_iff.1 c) with c | c
 ·exact d.two a ha b c
 ·exact x1 a ha b c
 ·exact x2 a ha b c
 ·exact g.two a ha b c
end
section
variable {α : Type}
theorem E7 (p q : List α) (x y : α) : (p ++ x :: q).set p.length y = p ++ y :: q := by simp
theorem Ko (p q : List α) (x y : α) (n : Nat) (h : n = p.length) : (p ++ x :: q).set n y = p ++ y :: q := by subst h; simp
theorem F2 (p m q : List α) (x y : α) : ((p ++ x :: (m ++ y :: q)).set p.length y).set (p.length + 1 + m.length) x = p ++ y :: (m ++ x :: q) := by
 rw [E7]
 have : p ++ y :: (m ++ y :: q) = (p ++ y :: m) ++ y :: q := by simp
 rw [this, show p.length + 1 + m.length = (p ++ y :: m).length by simp; omega, E7]
 simp
theorem M8 (p m q : List α) (x y : α) : ((p ++ x :: (m ++ y :: q)).set (p.length + 1 + m.length) x).set p.length y = p ++ y :: (m ++ x :: q) := by
 rw [List.set_comm _ _ (by omega), F2]
theorem xb {l : List α} {n : Nat} (h : n ≤ l.length) : ∃ a b, l = a ++ b ∧ a.length = n := ⟨l.take n, l.drop n, (eX n l).symm, by simp [h]⟩
end
section
variable {c : Formula → Formula → Int} {G : Formula → Prop} {f : Formula × Formula → Option Int}
theorem Mz (x : Formula) : (⟨x.Op, x.K, x.kd, x.Kids⟩ : Formula) = x := by cases x; rfl
abbrev oH (c : Formula → Formula → Int) (x y : Formula) : Bool := decide (c x y < 0)
abbrev CL (f : Formula × Formula → Option Int) (c : Formula → Formula → Int) (G : Formula → Prop) : Prop := ∀ x y, G x → G y → f (x, y) = some (c x y)
theorem Ty (t : CL f c G) (pre : List Formula) (x : Formula) (v : G x) : ∀ (k : Nat) (P S : List Formula) (n : Nat) (j a : Int), P.length = k → k < n → (∀ y ∈ P, G y) → (pre ++ (P ++ x :: S)).length ≤ 1000000 → j = ((pre.length + P.length : Nat) : Int) → a = (pre.length : Int) →
  ∃ P1 P2, P = P1 ++ P2 ∧ mw a f n (pre ++ (P ++ x :: S)) j = some (pre ++ (P1 ++ x :: (P2 ++ S))) ∧ (∀ P' z, P1 = P' ++ [z] → oH c x z = false) ∧ (∀ y P', P2 = y :: P' → oH c x y = true) := by
 intro k
 induction k with
 | zero =>
  intro P S n j a hk u d l h ha
  obtain rfl := aP hk
  obtain ⟨n, rfl⟩ := aM (by omega : n ≠ 0)
  refine ⟨[], [], rfl, ?_, by simp, by simp⟩
  rw [mw]
  have : ¬ (j > a) := by rw [h, ha]; simp
  simp [this]
 | succ k ih =>
  intro P S n j a hk u d l h ha
  rcases dD P with rfl | ⟨P', z, rfl⟩
  ·simp at hk
  simp only [eZ, aC, aJ, bP] at hk h l d ⊢
  obtain ⟨n, rfl⟩ := aM (by omega : n ≠ 0)
  have i : j > a := by omega
  have m : pre ++ (P' ++ [z] ++ x :: S) = (pre ++ P') ++ z :: x :: S := by simp
  have hw : wi0 .i64 (j - 1) = ((pre.length + P'.length : Nat) : Int) := by rw [lG (by omega) (by omega)]; omega
  have i1 : lN ((pre ++ P') ++ z :: x :: S) j = some x := by
   rw [show (pre ++ P') ++ z :: x :: S = (pre ++ P' ++ [z]) ++ x :: S by simp]
   exact nI _ _ _ _ (by simp; omega)
  have i2 : lN ((pre ++ P') ++ z :: x :: S) ((pre.length + P'.length : Nat) : Int) = some z := nI _ _ _ _ (by simp)
  have A : G z := d z (by simp)
  have s : ∀ y ∈ P', G y := fun y w => d y (by simp [w])
  have E : j.toNat = pre.length + P'.length + 1 := by omega
  rw [mw, m]
  simp only [i, cT, aZ, i1, hw, i2, aA, t x z v A]
  by_cases g : c x z < 0
  ·simp only [g, cT, aZ]
   have s1 : ((pre ++ P') ++ z :: x :: S).set j.toNat z = (pre ++ P') ++ z :: z :: S := by
    have := Ko (pre ++ P' ++ [z]) S x z j.toNat (by simp; omega)
    simpa only [aK, eV, bW, bJ] using this
   have s2 : ((pre ++ P') ++ z :: z :: S).set (pre.length + P'.length) x = (pre ++ P') ++ x :: z :: S := by
    exact Ko (pre ++ P') (z :: S) z x _ (by simp)
   have i3 : lN ((pre ++ P') ++ z :: z :: S) ((pre.length + P'.length : Nat) : Int) = some z := nI _ _ _ _ (by simp)
   rw [s1, i3, aA, dI, Mz, s2]
   have o : (pre ++ P') ++ x :: z :: S = pre ++ (P' ++ x :: (z :: S)) := by simp
   obtain ⟨P1, P2, h1, p, q, r⟩ := ih P' (z :: S) n ((pre.length + P'.length : Nat) : Int) a (by omega) (by omega) s (by simp; omega) rfl ha
   rw [o, p]
   refine ⟨P1, P2 ++ [z], by rw [h1]; simp, by simp, q, ?_⟩
   intro y Q b
   cases P2 with
   | nil =>
    simp only [bJ, bO] at b
    rw [← b.1]; simp [oH, g]
   | cons D P2 =>
    simp only [bW, bO] at b
    rw [← b.1]; exact r D P2 rfl
  ·simp only [g, cX, aB, aN]
   refine ⟨P' ++ [z], [], by simp, by simp, ?_, by simp⟩
   intro Q y b
   have := jJ b rfl
   simp only [bO, er] at this
   rw [← this.2]; simp [oH, g]
theorem PE (h : SWO (oH c)) (F : CL f c G) (pre post : List Formula) (a b : Int) (ha : a = (pre.length : Int)) : ∀ (S t : List (Formula × Nat)) (n : Nat) (i : Int),
  S.length < n → oN (oH c) t → (∀ x ∈ t, ∀ y ∈ S, x.2 < y.2) → S.Pairwise (fun x y => x.2 < y.2) → (∀ x ∈ t ++ S, G x.1) → (pre ++ (t.map (·.1) ++ (S.map (·.1) ++ post))).length ≤ 1000000 →
  i = ((pre.length + t.length : Nat) : Int) → b = ((pre.length + t.length + S.length : Nat) : Int) →
  ∃ u, mf b a f n (pre ++ (t.map (·.1) ++ (S.map (·.1) ++ post))) i = some (pre ++ (u.map (·.1) ++ post)) ∧ oN (oH c) u ∧ u.Perm (t ++ S)
 | [], t, n, i, A, D, h1, E, q, w, I, r => by
  obtain ⟨n, rfl⟩ := aM (by simp at A; omega : n ≠ 0)
  rw [mf]
  simp only [bP] at r
  have : ¬ (i < b) := by omega
  simp only [this, cX, aB, aN]
  exact ⟨t, by simp, D, by simp⟩
 | s :: S, t, n, i, A, D, h1, E, q, w, I, r => by
  simp only [aJ] at A r
  obtain ⟨n, rfl⟩ := aM (by omega : n ≠ 0)
  rw [mf]
  have v : i < b := by omega
  simp only [v, cT, aZ]
  have k := w
  simp only [aC, cR, aJ] at k
  obtain ⟨P1, P2, M, O, P, Q⟩ := Ty F pre s.1 (q s (by simp)) (t.map (·.1)).length (t.map (·.1)) (S.map (·.1) ++ post) kT i a rfl (by rw [nt]; simp; omega)
   (fun y m => by obtain ⟨p, hp, rfl⟩ := bG.1 m; exact q p (by simp [hp])) (by simpa using w) (by simp; omega) ha
  simp only [bH, bW]
  rw [O, aA]
  obtain ⟨t1, t2, rfl, J, L⟩ := List.map_eq_append_iff.1 M
  have hlen : t1.length + t2.length = (t1 ++ t2).length := by simp
  have hw : wi0 .i64 (i + 1) = ((pre.length + (t1 ++ s :: t2).length : Nat) : Int) := by rw [lG (by omega) (by omega)]; simp at I ⊢; omega
  rw [hw]
  have l : oN (oH c) (t1 ++ s :: t2) := HM h D
   (fun A' z b B' j o => by
    simp only [bO] at o
    rw [← o.1]
    refine .inr ⟨P (A'.map (·.1)) z.1 (by rw [← J, j]; simp), h1 z (by rw [j]; simp) s (by simp)⟩)
   (fun A' z b B' j o => by
    have T : z = s := by
     cases A' with
     | nil => simpa using j.symm
     | cons _ A' => simp at j
    rw [T]
    exact .inl (Q b.1 (B'.map (·.1)) (by rw [← L, o]; simp)))
  have g := cO.1 E
  have R : pre ++ (P1 ++ s.1 :: (P2 ++ (S.map (·.1) ++ post))) = pre ++ ((t1 ++ s :: t2).map (·.1) ++ (S.map (·.1) ++ post)) := by rw [← J, ← L]; simp
  rw [R]
  obtain ⟨u, U, W, Y⟩ := PE h F pre post a b ha S (t1 ++ s :: t2) n _ (by omega) l
   (fun x d y m => by
    rcases aQ.1 d with d | d
    ·exact h1 x (by simp [d]) y (by simp [m])
    ·rcases aO.1 d with rfl | d
     ·exact g.1 y m
     ·exact h1 x (by simp [d]) y (by simp [m]))
   g.2 (fun x d => q x (by
    simp only [aQ, aO] at d ⊢
    rcases d with (d | d | d) | d
    ·exact .inl (.inl d)
    ·exact .inr (.inl d)
    ·exact .inl (.inr d)
    ·exact .inr (.inr d))) (by simp at k ⊢; omega) rfl (by simp at r ⊢; omega)
  refine ⟨u, U, W, Y.trans ?_⟩
  simp only [aK, bW]
  exact cA t1 (List.perm_middle.symm)
theorem LB (h : SWO (oH c)) (o : CL f c G) (pre post : List Formula) (S : List (Formula × Nat)) (a b : Int) (l : S.Pairwise (fun x y => x.2 < y.2)) (m : ∀ x ∈ S, G x.1) (k : (pre ++ (S.map (·.1) ++ post)).length ≤ 1000000) (ha : a = (pre.length : Int)) (j : b = ((pre.length + S.length : Nat) : Int)) :
  ∃ u, nq (pre ++ (S.map (·.1) ++ post)) a b f = some (pre ++ (u.map (·.1) ++ post)) ∧ oN (oH c) u ∧ u.Perm S := by
 unfold nq
 have g := k
 simp only [aC, cR] at g
 cases S with
 | nil =>
  refine ⟨[], ?_, .nil, .nil⟩
  obtain ⟨n, p⟩ := aM (by rw [nt]; omega : kT ≠ 0)
  rw [p, mf]
  have : ¬ (wi0 .i64 (a + 1) < b) := by rw [lG (by omega) (by omega)]; simp at j; omega
  simp [this]
 | cons s S =>
  simp only [aJ] at j g
  have d := cO.1 l
  obtain ⟨u, r, t, v⟩ := PE h o pre post a b ha S [s] kT (wi0 .i64 (a + 1)) (by rw [nt]; omega) (gE _ _) (fun x i y q => by simp at i; rw [i]; exact d.1 y q) d.2
   (fun x i => m x (by simpa using i)) (by simp at k ⊢; omega) (by rw [lG (by omega) (by omega)]; simp; omega) (by simp; omega)
  exact ⟨u, by simpa using r, t, by simpa using v⟩
end
section
variable {c : Formula → Formula → Int} {G : Formula → Prop} {f : Formula × Formula → Option Int}
theorem nL {x : Int} (n : Nat) (h : x = (n : Int)) (a : n ≤ 4000000) : wi0 .i64 x = (n : Int) := by rw [h, lG (by omega) (by omega)]
theorem Si (p m q : List Formula) (a b N : Int) : ∀ (k : Nat) (X1 X2 Y1 Y2 : List Formula) (n : Nat) (i : Int), X2.length = k → Y2.length = k → X1.length = Y1.length → k < n → (p ++ (Y1 ++ (X2 ++ (m ++ (X1 ++ (Y2 ++ q)))))).length ≤ 1000000 →
  i = (X1.length : Int) → N = ((X1.length + k : Nat) : Int) → a = (p.length : Int) → b = ((p.length + X1.length + k + m.length : Nat) : Int) →
  mF N b a n (p ++ (Y1 ++ (X2 ++ (m ++ (X1 ++ (Y2 ++ q)))))) i = some (p ++ ((Y1 ++ Y2) ++ (m ++ ((X1 ++ X2) ++ q)))) := by
 intro k
 induction k with
 | zero =>
  intro X1 X2 Y1 Y2 n i h1 c s u l t h ha j
  obtain rfl := aP h1
  obtain rfl := aP c
  obtain ⟨n, rfl⟩ := aM (by omega : n ≠ 0)
  rw [mF]
  have : ¬ (i < N) := by omega
  simp [this]
 | succ k ih =>
  intro X1 X2 Y1 Y2 n i h1 c s u l t h ha j
  cases X2 with
  | nil => simp at h1
  | cons x X2 =>
  cases Y2 with
  | nil => simp at c
  | cons y Y2 =>
  simp only [aJ, Nat.add_right_cancel_iff] at h1 c
  obtain ⟨n, rfl⟩ := aM (by omega : n ≠ 0)
  have g := l
  simp only [aC, aJ] at g
  have d : i < N := by omega
  have v : wi0 .i64 (b + i) = (((p ++ Y1).length + 1 + (X2 ++ (m ++ X1)).length : Nat) : Int) := nL _ (by simp; omega) (by simp; omega)
  have w : wi0 .i64 (a + i) = ((p ++ Y1).length : Int) := nL _ (by simp; omega) (by simp; omega)
  have z : wi0 .i64 (i + 1) = ((X1 ++ [x]).length : Int) := nL _ (by simp; omega) (by simp; omega)
  have o : p ++ (Y1 ++ (x :: X2 ++ (m ++ (X1 ++ (y :: Y2 ++ q))))) = (p ++ Y1) ++ x :: ((X2 ++ (m ++ X1)) ++ y :: (Y2 ++ q)) := by simp
  have i1 : lN ((p ++ Y1) ++ x :: ((X2 ++ (m ++ X1)) ++ y :: (Y2 ++ q))) (((p ++ Y1).length + 1 + (X2 ++ (m ++ X1)).length : Nat) : Int) = some y := by
   have := nI ((p ++ Y1) ++ x :: (X2 ++ (m ++ X1))) y (Y2 ++ q) (((p ++ Y1).length + 1 + (X2 ++ (m ++ X1)).length : Nat) : Int) (by simp; omega)
   simpa using this
  have i2 : lN ((p ++ Y1) ++ x :: ((X2 ++ (m ++ X1)) ++ y :: (Y2 ++ q))) ((p ++ Y1).length : Int) = some x := nI _ _ _ _ rfl
  rw [mF, o]
  simp only [d, cT, aZ, v, w, i1, i2, aA, dI, z]
  have i3 : lN (((p ++ Y1) ++ x :: ((X2 ++ (m ++ X1)) ++ y :: (Y2 ++ q))).set (p ++ Y1).length y) (((p ++ Y1).length + 1 + (X2 ++ (m ++ X1)).length : Nat) : Int) = some y := by
   rw [E7]
   have := nI ((p ++ Y1) ++ y :: (X2 ++ (m ++ X1))) y (Y2 ++ q) (((p ++ Y1).length + 1 + (X2 ++ (m ++ X1)).length : Nat) : Int) (by simp; omega)
   simpa using this
  rw [i3, aA, Mz, F2]
  have r : (p ++ Y1) ++ y :: ((X2 ++ (m ++ X1)) ++ x :: (Y2 ++ q)) = p ++ ((Y1 ++ [y]) ++ (X2 ++ (m ++ ((X1 ++ [x]) ++ (Y2 ++ q))))) := by simp
  rw [r, ih (X1 ++ [x]) X2 (Y1 ++ [y]) Y2 n _ h1 c (by simp; omega) (by omega) (by simp; omega) rfl (by rw [h]; simp; omega) ha (by rw [j]; simp; omega)]
  simp
theorem LZ (p m q X Y : List Formula) (a b N : Int) (h : X.length = Y.length) (d : (p ++ (X ++ (m ++ (Y ++ q)))).length ≤ 1000000) (g : N = (X.length : Int)) (ha : a = (p.length : Int)) (i : b = ((p.length + X.length + m.length : Nat) : Int)) :
  nk (p ++ (X ++ (m ++ (Y ++ q)))) a b N f = some (p ++ (Y ++ (m ++ (X ++ q)))) := by
 unfold nk
 have c := d
 simp only [aC] at c
 have := Si p m q a b N X.length [] X [] Y kT 0 rfl h.symm rfl (by rw [nt]; omega) (by simpa using d) rfl (by simpa using g) ha (by rw [i]; simp)
 simpa using this
theorem Sw (M : Int) : ∀ (k : Nat) (A B p q : List Formula) (n : Nat) (i j : Int), A.length + B.length ≤ k → 0 < A.length → 0 < B.length → k < n → (p ++ (A ++ (B ++ q))).length ≤ 1000000 → i = (A.length : Int) → j = (B.length : Int) → M = ((p.length + A.length : Nat) : Int) →
  mQ M f n (p ++ (A ++ (B ++ q))) i j = some (p ++ (B ++ (A ++ q))) := by
 intro k
 induction k with
 | zero => intro A B p q n i j h h1 r; omega
 | succ k ih =>
  intro A B p q n i j h h1 r E v b g t
  obtain ⟨n, rfl⟩ := aM (by omega : n ≠ 0)
  have a := v
  simp only [aC] at a
  rw [mQ]
  by_cases he : A.length = B.length
  ·have : (i != j) = false := by rw [b, g, he]; simp
   simp only [this, aB, aN]
   have c : wi0 .i64 (M - i) = (p.length : Int) := nL _ (by omega) (by omega)
   have := LZ (f := f) p [] q A B (p.length : Int) M i he (by simpa using v) b rfl (by rw [t]; simp)
   simp only [bJ] at this
   rw [c, this]; rfl
  ·have m : (i != j) = true := by rw [b, g]; simp; omega
   simp only [m, aZ]
   by_cases u : i > j
   ·simp only [u, cT, aZ]
    obtain ⟨X, Y, rfl, D⟩ := xb (l := A) (n := B.length) (by omega)
    simp only [aC] at b h t a
    have c : wi0 .i64 (M - i) = (p.length : Int) := nL _ (by omega) (by omega)
    have s := LZ (f := f) p Y q X B (p.length : Int) M j (by omega) (by simp; omega) (by omega) rfl (by omega)
    have d : p ++ (X ++ Y ++ (B ++ q)) = p ++ (X ++ (Y ++ (B ++ q))) := by simp
    have o : wi0 .i64 (i - j) = (Y.length : Int) := nL _ (by omega) (by omega)
    rw [d, c, s, aA, o]
    have w : p ++ (B ++ (Y ++ (X ++ q))) = (p ++ B) ++ (Y ++ (X ++ q)) := by simp
    rw [w, ih Y X (p ++ B) q n _ j (by omega) (by omega) (by omega) (by omega) (by simp; omega) rfl (by omega) (by simp; omega)]
    simp
   ·simp only [u, cX, aB, aN]
    obtain ⟨Z, V, rfl, x⟩ := xb (l := B) (n := B.length - A.length) (by omega)
    simp only [aC] at g h a x r he
    have c : wi0 .i64 (M - i) = (p.length : Int) := nL _ (by omega) (by omega)
    have y : wi0 .i64 (M + j) = ((p.length + A.length + (Z.length + V.length) : Nat) : Int) := nL _ (by omega) (by omega)
    have z : wi0 .i64 (((p.length + A.length + (Z.length + V.length) : Nat) : Int) - i) = ((p.length + A.length + Z.length : Nat) : Int) := nL _ (by omega) (by omega)
    have s := LZ (f := f) p Z q A V (p.length : Int) ((p.length + A.length + Z.length : Nat) : Int) i (by omega) (by simp; omega) b rfl rfl
    have d : p ++ (A ++ (Z ++ V ++ q)) = p ++ (A ++ (Z ++ (V ++ q))) := by simp
    have o : wi0 .i64 (j - i) = (Z.length : Int) := nL _ (by omega) (by omega)
    rw [d, c, y, z, s, aA, o]
    rw [show p ++ (V ++ (Z ++ (A ++ q))) = p ++ (V ++ (Z ++ (A ++ q))) from rfl, ih V Z p (A ++ q) n i _ (by omega) (by omega) (by omega) (by omega) (by simp; omega) (by omega) rfl (by omega)]
    simp
theorem TU (A B p q : List Formula) (a m b : Int) (h1 : 0 < A.length) (g : 0 < B.length) (d : (p ++ (A ++ (B ++ q))).length ≤ 1000000) (ha : a = (p.length : Int)) (hm : m = ((p.length + A.length : Nat) : Int)) (h : b = ((p.length + A.length + B.length : Nat) : Int)) :
  na (p ++ (A ++ (B ++ q))) a m b f = some (p ++ (B ++ (A ++ q))) := by
 unfold na
 have c := d
 simp only [aC] at c
 rw [nL A.length (by omega) (by omega), nL B.length (by omega) (by omega)]
 exact Sw m (A.length + B.length) A B p q kT _ _ (aS _) h1 g (by rw [nt]; omega) d rfl rfl hm
end
section
variable {c : Formula → Formula → Int} {G : Formula → Prop} {f : Formula × Formula → Option Int}
theorem Dp {x : Int} (n : Nat) (h : x = (n : Int)) (b : n ≤ 4000000) : wi0 .i64 (Int.fdiv (IntKind.u64.wrap (wi0 .i64 x)) (2 ^ min (Int.toNat 1) (IntKind.bits .u64))) = ((n / 2 : Nat) : Int) := by
 rw [nL n h b]
 have a : IntKind.u64.wrap (n : Int) = (n : Int) := by
  simp only [IntKind.wrap, IntKind.signed, IntKind.bits]
  simp
  omega
 rw [a, show (2 ^ min (Int.toNat 1) (IntKind.bits .u64) : Int) = 2 from by decide, Int.fdiv_eq_ediv_of_nonneg _ (by decide), lG (by omega) (by omega)]
 omega
abbrev Ask (a0 : List Formula) (f : Formula × Formula → Option Int) (p q : Int) (b : Bool) : Prop := ∃ x y r, lN a0 p = some x ∧ lN a0 q = some y ∧ f (x, y) = some r ∧ decide (r < 0) = b
theorem TN (a0 : List Formula) (o : Int) (b : Nat → Bool) (c a : Nat) (E : a ≤ 1000000) (s : ∀ h, c ≤ h → h < a → Ask a0 f (h : Int) o (b h)) : ∀ (d n i j : Nat), j - i ≤ d → d < n → c ≤ i → i ≤ j → j ≤ a → (i = c ∨ b (i - 1) = true) → (j = a ∨ b j = false) →
  ∃ t G, c ≤ t ∧ t ≤ a ∧ (t = c ∨ b (t - 1) = true) ∧ (t = a ∨ b t = false) ∧ lP a0 o f n (i : Int) (j : Int) = lP a0 o f (G + 1) (t : Int) (t : Int) := by
 intro d
 induction d with
 | zero =>
  intro n i j h1 F g A k l m
  obtain ⟨n, rfl⟩ := aM (by omega : n ≠ 0)
  obtain rfl : i = j := by omega
  exact ⟨i, n, g, k, l, m, rfl⟩
 | succ d ih =>
  intro n i j h1 F g A k l m
  obtain ⟨n, rfl⟩ := aM (by omega : n ≠ 0)
  by_cases p : i = j
  ·subst p; exact ⟨i, n, g, k, l, m, rfl⟩
  have D := Dp (i + j) (x := (i : Int) + (j : Int)) (by omega) (by omega)
  obtain ⟨x, y, r, u, v, w, z⟩ := s ((i + j) / 2) (by omega) (by omega)
  rw [lP]
  have q : ((i : Int) < (j : Int)) := by omega
  simp only [q, cT, aZ, D, u, v, w, z, aA]
  cases hp : b ((i + j) / 2)
  ·simp only [aB, aN]
   exact ih n i ((i + j) / 2) (by omega) (by omega) g (by omega) (by omega) l (.inr hp)
  ·simp only [aZ]
   rw [nL ((i + j) / 2 + 1) (by omega) (by omega)]
   exact ih n ((i + j) / 2 + 1) j (by omega) (by omega) (by omega) (by omega) k (.inr (by simpa using hp)) m
theorem T8 (a0 : List Formula) (a2 : Int) (b : Nat → Bool) (c a : Nat) (D : a ≤ 1000000) (q : ∀ h, c ≤ h → h < a → Ask a0 f a2 (h : Int) (!b h)) : ∀ (d n i j : Nat), j - i ≤ d → d < n → c ≤ i → i ≤ j → j ≤ a → (i = c ∨ b (i - 1) = true) → (j = a ∨ b j = false) →
  ∃ t F, c ≤ t ∧ t ≤ a ∧ (t = c ∨ b (t - 1) = true) ∧ (t = a ∨ b t = false) ∧ lQ a0 a2 f n (i : Int) (j : Int) = lQ a0 a2 f (F + 1) (t : Int) (t : Int) := by
 intro d
 induction d with
 | zero =>
  intro n i j h1 E g z k l m
  obtain ⟨n, rfl⟩ := aM (by omega : n ≠ 0)
  obtain rfl : i = j := by omega
  exact ⟨i, n, g, k, l, m, rfl⟩
 | succ d ih =>
  intro n i j h1 E g z k l m
  obtain ⟨n, rfl⟩ := aM (by omega : n ≠ 0)
  by_cases o : i = j
  ·subst o; exact ⟨i, n, g, k, l, m, rfl⟩
  have A := Dp (i + j) (x := (i : Int) + (j : Int)) (by omega) (by omega)
  obtain ⟨x, y, r, s, u, v, w⟩ := q ((i + j) / 2) (by omega) (by omega)
  rw [lQ]
  have p : ((i : Int) < (j : Int)) := by omega
  simp only [p, cT, aZ, A, s, u, v, w, aA, fR]
  cases hp : b ((i + j) / 2)
  ·simp only [aB, aN]
   exact ih n i ((i + j) / 2) (by omega) (by omega) g (by omega) (by omega) l (.inr hp)
  ·simp only [aZ]
   rw [nL ((i + j) / 2 + 1) (by omega) (by omega)]
   exact ih n ((i + j) / 2 + 1) j (by omega) (by omega) (by omega) (by omega) k (.inr (by simpa using hp)) m
theorem Tf (x : Formula) : ∀ (P Q R : List Formula) (n : Nat) (k i : Int), P.length < n → (Q ++ x :: (P ++ R)).length ≤ 1000000 → k = (Q.length : Int) → i = ((Q.length + P.length + 1 : Nat) : Int) → mM i n (Q ++ x :: (P ++ R)) k = some (Q ++ (P ++ x :: R))
 | [], Q, R, n, k, i, b, c, hk, a => by
  obtain ⟨n, rfl⟩ := aM (by simp at b; omega : n ≠ 0)
  simp only [aC, aJ, bP] at c a
  rw [mM, nL Q.length (by omega) (by omega)]
  have : ¬ (k < (Q.length : Int)) := by omega
  simp [this]
 | y :: P, Q, R, n, k, i, b, c, hk, a => by
  obtain ⟨n, rfl⟩ := aM (by simp at b; omega : n ≠ 0)
  simp only [aC, aJ] at c a b
  have g : Q ++ x :: (y :: P ++ R) = Q ++ x :: ([] ++ y :: (P ++ R)) := rfl
  have h : wi0 .i64 (k + 1) = ((Q.length + 1 + ([] : List Formula).length : Nat) : Int) := nL _ (by simp; omega) (by simp; omega)
  have i1 : lN (Q ++ x :: ([] ++ y :: (P ++ R))) ((Q.length + 1 + ([] : List Formula).length : Nat) : Int) = some y := by
   have := nI (Q ++ [x]) y (P ++ R) ((Q.length + 1 + ([] : List Formula).length : Nat) : Int) (by simp)
   simpa using this
  have i2 : lN (Q ++ x :: ([] ++ y :: (P ++ R))) k = some x := nI _ _ _ _ hk
  rw [mM, nL (Q.length + P.length + 1) (by omega) (by omega), g]
  have d : k < ((Q.length + P.length + 1 : Nat) : Int) := by omega
  have kn : k.toNat = Q.length := by omega
  simp only [d, cT, aZ, h, i1, i2, aA, kn]
  have i3 : lN ((Q ++ x :: ([] ++ y :: (P ++ R))).set Q.length y) ((Q.length + 1 + ([] : List Formula).length : Nat) : Int) = some y := by
   rw [E7]
   have := nI (Q ++ [y]) y (P ++ R) ((Q.length + 1 + ([] : List Formula).length : Nat) : Int) (by simp)
   simpa using this
  rw [i3, aA, dI, Mz, F2]
  have := Tf x P (Q ++ [y]) R n ((Q.length + 1 + ([] : List Formula).length : Nat) : Int) i (by omega) (by simp; omega) (by simp) (by rw [a]; simp; omega)
  simpa using this
theorem TV (x : Formula) : ∀ (k : Nat) (S Q R : List Formula) (n : Nat) (j i : Int), S.length = k → k < n → (Q ++ (S ++ x :: R)).length ≤ 1000000 → j = ((Q.length + S.length : Nat) : Int) → i = (Q.length : Int) → mL i n (Q ++ (S ++ x :: R)) j = some (Q ++ x :: (S ++ R)) := by
 intro k
 induction k with
 | zero =>
  intro S Q R n j i hk l g a d
  obtain ⟨n, rfl⟩ := aM (by omega : n ≠ 0)
  obtain rfl := aP hk
  rw [mL]
  simp only [bP, jK] at a
  have : ¬ (j > i) := by omega
  simp [this]
 | succ k ih =>
  intro S Q R n j i hk l g a d
  obtain ⟨n, rfl⟩ := aM (by omega : n ≠ 0)
  rcases dD S with rfl | ⟨S, z, rfl⟩
  ·simp at hk
  simp only [eZ, aC, aJ, bP] at hk a g ⊢
  have h : Q ++ (S ++ [z] ++ x :: R) = (Q ++ S) ++ z :: ([] ++ x :: R) := by simp
  have o : wi0 .i64 (j - 1) = ((Q ++ S).length : Int) := nL _ (by simp; omega) (by simp; omega)
  have b : j = (((Q ++ S).length + 1 + ([] : List Formula).length : Nat) : Int) := by rw [a]; simp; omega
  have i1 : lN ((Q ++ S) ++ z :: ([] ++ x :: R)) j = some x := by
   have := nI (Q ++ S ++ [z]) x R j (by rw [b]; simp; omega)
   simpa using this
  have i2 : lN ((Q ++ S) ++ z :: ([] ++ x :: R)) ((Q ++ S).length : Int) = some z := nI _ _ _ _ rfl
  rw [mL, h]
  have c : j > i := by omega
  have m : j.toNat = (Q ++ S).length + 1 + ([] : List Formula).length := by omega
  simp only [c, cT, aZ, o, i1, i2, aA, m]
  have i3 : lN (((Q ++ S) ++ z :: ([] ++ x :: R)).set ((Q ++ S).length + 1 + ([] : List Formula).length) z) ((Q ++ S).length : Int) = some z := by
   have : ((Q ++ S) ++ z :: ([] ++ x :: R)).set ((Q ++ S).length + 1 + ([] : List Formula).length) z = (Q ++ S) ++ z :: (z :: R) := by
    have := Ko (Q ++ S ++ [z]) R x z ((Q ++ S).length + 1 + ([] : List Formula).length) (by simp; omega)
    simpa using this
   rw [this]; exact nI _ _ _ _ rfl
  rw [i3, aA, dI, Mz, M8]
  have := ih S Q (z :: R) n ((Q ++ S).length : Int) i (by omega) (by omega) (by simp; omega) (by simp) d
  simpa using this
end
section
variable {c : Formula → Formula → Int} {G : Formula → Prop} {f : Formula × Formula → Option Int}
theorem To (a0 : List Formula) (g a3 a2 : Int) (rec : List Formula → Int → Int → Int → ((Formula × Formula) → Option Int) → Option (List Formula)) (mid m p : Nat) (k : g + a3 = ((2 * mid : Nat) : Int) ∨ g + a3 = ((2 * mid + 1 : Nat) : Int)) (hm : a2 = (m : Int)) (hp : p + 1 = mid + m) (c : Nat → Bool) (o a : Nat) (L : a ≤ 1000000) (O : mid ≤ 1000000) (M : mid + m ≤ 2000000) (hle : a ≤ p + 1) (A : ∀ h, o ≤ h → h < a → Ask a0 f ((p - h : Nat) : Int) (h : Int) (!c h)) : ∀ (d n i j : Nat), j - i ≤ d → d < n → o ≤ i → i ≤ j → j ≤ a → (i = o ∨ c (i - 1) = true) → (j = a ∨ c j = false) →
  ∃ t Q, o ≤ t ∧ t ≤ a ∧ (t = o ∨ c (t - 1) = true) ∧ (t = a ∨ c t = false) ∧ lz a0 g a3 a2 f rec n (i : Int) (j : Int) = lz a0 g a3 a2 f rec (Q + 1) (t : Int) (t : Int) := by
 have b : wi0 .i64 (Int.fdiv (IntKind.u64.wrap (wi0 .i64 (g + a3))) (2 ^ min (Int.toNat 1) (IntKind.bits .u64))) = (mid : Int) := by
  rcases k with h | h
  ·rw [Dp _ h (by omega), show 2 * mid / 2 = mid by omega]
  ·rw [Dp _ h (by omega), show (2 * mid + 1) / 2 = mid by omega]
 intro d
 induction d with
 | zero =>
  intro n i j h1 P q I s u v
  obtain ⟨n, rfl⟩ := aM (by omega : n ≠ 0)
  obtain rfl : i = j := by omega
  exact ⟨i, n, q, s, u, v, rfl⟩
 | succ d ih =>
  intro n i j h1 P q I s u v
  obtain ⟨n, rfl⟩ := aM (by omega : n ≠ 0)
  by_cases w : i = j
  ·subst w; exact ⟨i, n, q, s, u, v, rfl⟩
  have J := Dp (i + j) (x := (i : Int) + (j : Int)) (by omega) (by omega)
  obtain ⟨x, y, r, D, E, F, G⟩ := A ((i + j) / 2) (by omega) (by omega)
  have R : wi0 .i64 ((mid : Int) + a2) = ((mid + m : Nat) : Int) := nL _ (by omega) (by omega)
  have T : wi0 .i64 (((mid + m : Nat) : Int) - 1) = (p : Int) := nL _ (by omega) (by omega)
  have U : wi0 .i64 ((p : Int) - (((i + j) / 2 : Nat) : Int)) = ((p - (i + j) / 2 : Nat) : Int) := nL _ (by omega) (by omega)
  rw [lz]
  have z : ((i : Int) < (j : Int)) := by omega
  simp only [z, cT, aZ, J, b, R, T, U, D, E, F, G, aA, fR]
  cases l : c ((i + j) / 2)
  ·simp only [aB, aN]
   exact ih n i ((i + j) / 2) (by omega) (by omega) q (by omega) (by omega) u (.inr l)
  ·simp only [aZ]
   rw [nL ((i + j) / 2 + 1) (by omega) (by omega)]
   exact ih n ((i + j) / 2 + 1) j (by omega) (by omega) (by omega) (by omega) s (.inr (by simpa using l)) v
theorem Sa (a0 : List Formula) (b a3 a2 : Int) (rec : List Formula → Int → Int → Int → ((Formula × Formula) → Option Int) → Option (List Formula)) (mid m t n : Nat) (c : b + a3 = ((2 * mid : Nat) : Int) ∨ b + a3 = ((2 * mid + 1 : Nat) : Int)) (hm : a2 = (m : Int)) (o : mid ≤ 1000000) (k : mid + m ≤ 2000000) (v : t ≤ mid + m) :
  lz a0 b a3 a2 f rec (n + 1) (t : Int) (t : Int) =
   ((if t < m ∧ m < mid + m - t then na a0 (t : Int) a2 ((mid + m - t : Nat) : Int) f else some a0).bind fun l => ((if b < (t : Int) ∧ t < mid then rec l b (t : Int) (mid : Int) f else some l).bind fun l => if mid < mid + m - t ∧ ((mid + m - t : Nat) : Int) < a3 then rec l (mid : Int) ((mid + m - t : Nat) : Int) a3 f else some l)) := by
 have a : wi0 .i64 (Int.fdiv (IntKind.u64.wrap (wi0 .i64 (b + a3))) (2 ^ min (Int.toNat 1) (IntKind.bits .u64))) = (mid : Int) := by
  rcases c with h | h
  ·rw [Dp _ h (by omega), show 2 * mid / 2 = mid by omega]
  ·rw [Dp _ h (by omega), show (2 * mid + 1) / 2 = mid by omega]
 have s : wi0 .i64 ((mid : Int) + a2) = ((mid + m : Nat) : Int) := nL _ (by omega) (by omega)
 have u : wi0 .i64 (((mid + m : Nat) : Int) - (t : Int)) = ((mid + m - t : Nat) : Int) := nL _ (by omega) (by omega)
 rw [lz]
 simp only [Int.lt_irrefl, cX, aB, aN, a, s, u, oY]
 subst hm
 have d : ((t : Int) < (m : Int)) = (t < m) := by simp
 have g : ((m : Int) < ((mid + m - t : Nat) : Int)) = (m < mid + m - t) := by rw [gx]; omega
 have i : ((t : Int) < (mid : Int)) = (t < mid) := by simp
 have j : ((mid : Int) < ((mid + m - t : Nat) : Int)) = (mid < mid + m - t) := by rw [gx]; omega
 simp only [d, g, i, j]
 have key : ∀ (p q : Prop) [Decidable p] [Decidable q] (A B : Option (List Formula)), ((if decide p = true then some (decide q) else some false : Option Bool).bind fun x => if x = true then A else B) = if p ∧ q then A else B := by
  intro p q _ _ A B
  by_cases hp : p <;> by_cases r : q <;> simp [hp, r]
 simp only [key]
theorem MM (p A q : List Formula) (h : Nat) (b : p.length ≤ h) (h1 : h < p.length + A.length) : ∃ x, A[h - p.length]? = some x ∧ lN (p ++ (A ++ q)) (h : Int) = some x := by
 obtain ⟨x, a⟩ : ∃ x, A[h - p.length]? = some x := ⟨_, cF (by omega)⟩
 refine ⟨x, a, ?_⟩
 rw [Fa, eS b, fS (by omega), a]
end
section
variable {c : Formula → Formula → Int} {G : Formula → Prop} {f : Formula × Formula → Option Int}
theorem DM {α : Type} {P A' : List α} {z : α} (S : List α) (h : P = A' ++ [z]) : (P ++ S)[P.length - 1]? = some z := by subst h; simp
theorem Dy {α : Type} {S B' : List α} {z : α} (P : List α) (h : S = z :: B') : (P ++ S)[P.length]? = some z := by subst h; simp
theorem yL {A : List (Formula × Nat)} {i : Nat} {z : Formula × Nat} (h : A[i]? = some z) : (A.map (·.1))[i]? = some z.1 := by simp [h]
theorem SO (h : SWO (oH c)) (O : CL f c G) (x : Formula × Nat) (B : List (Formula × Nat)) (pre post : List Formula) (a m b : Int) (F : oN (oH c) B) (T : ∀ y ∈ B, x.2 < y.2) (v : ∀ y ∈ x :: B, G y.1) (Q : (pre ++ x.1 :: (B.map (·.1) ++ post)).length ≤ 400000) (ha : a = (pre.length : Int)) (hm : m = ((pre.length + 1 : Nat) : Int)) (M : b = ((pre.length + 1 + B.length : Nat) : Int)) :
  ∃ u, lP (pre ++ x.1 :: (B.map (·.1) ++ post)) a f kT m b = some (pre ++ (u.map (·.1) ++ post)) ∧ oN (oH c) u ∧ u.Perm (x :: B) := by
 have p := Q
 simp only [aC, aJ, cR] at p
 let g : Nat → Bool := fun k => match (B.map (·.1))[k - (pre.length + 1)]? with | some y => oH c y x.1 | none => false
 have j : ∀ k, pre.length + 1 ≤ k → k < pre.length + 1 + B.length → Ask (pre ++ x.1 :: (B.map (·.1) ++ post)) f (k : Int) a (g k) := by
  intro k h1 Y
  obtain ⟨y, r, w⟩ := MM (pre ++ [x.1]) (B.map (·.1)) post k (by simp; omega) (by simp; omega)
  have A : lN (pre ++ x.1 :: (B.map (·.1) ++ post)) (k : Int) = some y := by simpa using w
  have D : lN (pre ++ x.1 :: (B.map (·.1) ++ post)) a = some x.1 := nI _ _ _ _ ha
  have U : G y := by
   obtain ⟨q, R, rfl⟩ := bG.1 (dy r)
   exact v q (by simp [R])
  refine ⟨y, x.1, _, A, D, O y x.1 U (v x (by simp)), ?_⟩
  simp only [aC, aJ, bP] at r
  simp only [g, r]
 obtain ⟨t, Z, t1, t2, t3, t4, e⟩ := TN (f := f) _ a g (pre.length + 1) (pre.length + 1 + B.length) (by omega) j B.length kT (pre.length + 1) (pre.length + 1 + B.length) (by omega) (by rw [nt]; omega) (aS _) (by omega) (aS _) (.inl rfl) (.inl rfl)
 rw [hm, M, e, lP]
 simp only [Int.lt_irrefl, cX, aB, aN, oY]
 obtain ⟨P, S, rfl, I⟩ := xb (l := B) (n := t - (pre.length + 1)) (by omega)
 simp only [aC] at p t2 t4
 have E : pre ++ x.1 :: ((P ++ S).map (·.1) ++ post) = pre ++ x.1 :: (P.map (·.1) ++ (S.map (·.1) ++ post)) := by simp
 rw [E, Tf x.1 (P.map (·.1)) pre (S.map (·.1) ++ post) kT a (t : Int) (by rw [nt]; simp; omega) (by simp; omega) ha (by simp; omega)]
 refine ⟨P ++ x :: S, by simp, HM h F ?_ ?_, eL⟩
 ·intro A' z s B' i d
  simp only [bO] at d
  rw [← d.1]
  have J : 0 < P.length := by rw [i]; simp
  have hp : g (t - 1) = true := by
   rcases t3 with t3 | t3
   ·omega
   ·exact t3
  have o := yL (DM S i)
  rw [show P.length - 1 = t - 1 - (pre.length + 1) by omega] at o
  simp only [g, o] at hp
  exact .inl hp
 ·intro A' z s B' i d
  have W : z = x := by
   cases A' with
   | nil => simpa using i.symm
   | cons _ A' => simp at i
  rw [W]
  have L : 0 < S.length := by rw [d]; simp
  have hp : g t = false := by
   rcases t4 with t4 | t4
   ·omega
   ·exact t4
  have o := yL (Dy P d)
  rw [I] at o
  simp only [g, o] at hp
  exact .inr ⟨hp, T s (by rw [d]; simp)⟩
theorem SZ (h : SWO (oH c)) (L : CL f c G) (y : Formula × Nat) (A : List (Formula × Nat)) (pre post : List Formula) (a m : Int) (E : oN (oH c) A) (Q : ∀ x ∈ A, x.2 < y.2) (r : ∀ x ∈ y :: A, G x.1) (M : (pre ++ (A.map (·.1) ++ y.1 :: post)).length ≤ 400000) (ha : a = (pre.length : Int)) (hm : m = ((pre.length + A.length : Nat) : Int)) :
  ∃ u, lQ (pre ++ (A.map (·.1) ++ y.1 :: post)) m f kT a m = some (pre ++ (u.map (·.1) ++ post)) ∧ oN (oH c) u ∧ u.Perm (A ++ [y]) := by
 have o := M
 simp only [aC, aJ, cR] at o
 let g : Nat → Bool := fun k => match (A.map (·.1))[k - pre.length]? with | some x => !oH c y.1 x | none => false
 have i : ∀ k, pre.length ≤ k → k < pre.length + A.length → Ask (pre ++ (A.map (·.1) ++ y.1 :: post)) f m (k : Int) (!g k) := by
  intro k h1 U
  obtain ⟨x, p, v⟩ := MM pre (A.map (·.1)) (y.1 :: post) k h1 (by simp; omega)
  have w : lN (pre ++ (A.map (·.1) ++ y.1 :: post)) m = some y.1 := by
   have := nI (pre ++ A.map (·.1)) y.1 post m (by rw [hm]; simp)
   simpa using this
  have R : G x := by
   obtain ⟨q, O, rfl⟩ := bG.1 (dy p)
   exact r q (by simp [O])
  refine ⟨y.1, x, _, w, v, L y.1 x (r y (by simp)) R, ?_⟩
  simp only [g, p, fR]
 obtain ⟨t, W, t1, t2, t3, t4, e⟩ := T8 (f := f) _ m g pre.length (pre.length + A.length) (by omega) i A.length kT pre.length (pre.length + A.length) (by omega) (by rw [nt]; omega) (aS _) (by omega) (aS _) (.inl rfl) (.inl rfl)
 rw [← hm, ← ha] at e
 rw [e, lQ]
 simp only [Int.lt_irrefl, cX, aB, aN, oY]
 obtain ⟨P, S, rfl, F⟩ := xb (l := A) (n := t - pre.length) (by omega)
 simp only [aC] at o t2 t4 hm
 have D : pre ++ ((P ++ S).map (·.1) ++ y.1 :: post) = (pre ++ P.map (·.1)) ++ (S.map (·.1) ++ y.1 :: post) := by simp
 rw [D, TV y.1 S.length (S.map (·.1)) (pre ++ P.map (·.1)) post kT m (t : Int) (by simp) (by rw [nt]; omega) (by simp; omega) (by rw [hm]; simp; omega) (by simp; omega)]
 refine ⟨P ++ y :: S, by simp, HM h E ?_ ?_, List.perm_middle.trans (fN y (P ++ S)).symm⟩
 ·intro A' z s B' b d
  simp only [bO] at d
  rw [← d.1]
  have I : 0 < P.length := by rw [b]; simp
  have hp : g (t - 1) = true := by
   rcases t3 with t3 | t3
   ·omega
   ·exact t3
  have j := yL (DM S b)
  rw [show P.length - 1 = t - 1 - pre.length by omega] at j
  simp only [g, j, fH] at hp
  exact .inr ⟨hp, Q z (by rw [b]; simp)⟩
 ·intro A' z s B' b d
  have T : z = y := by
   cases A' with
   | nil => simpa using b.symm
   | cons _ A' => simp at b
  rw [T]
  have J : 0 < S.length := by rw [d]; simp
  have hp : g t = false := by
   rcases t4 with t4 | t4
   ·omega
   ·exact t4
  have j := yL (Dy P d)
  rw [F] at j
  simp only [g, j, Bool.not_eq_false'] at hp
  exact .inl hp
theorem Oq {α : Type} {A1 A2 B1 B2 C1 C2 : List α} (a : C1.Perm (A1 ++ B1)) (b : C2.Perm (A2 ++ B2)) : (C1 ++ C2).Perm ((A1 ++ A2) ++ (B1 ++ B2)) := by
 refine (a.append b).trans ?_
 simp only [aK]
 refine cA A1 ?_
 exact fG B1 A2 B2
def PU (c : Formula → Formula → Int) (A B : List Formula) (a b p q : Nat) : Bool := match A[q - a]?, B[p - q - b]? with | some x, some y => !oH c y x | _, _ => false
theorem Ji {A B : List Formula} {a b p q : Nat} {x y : Formula} (h1 : A[q - a]? = some x) (d : B[p - q - b]? = some y) : PU c A B a b p q = !oH c y x := by simp only [PU, h1, d]
theorem TB (l : CL f c G) (A B : List (Formula × Nat)) (pre post : List Formula) (a p : Nat) (m : a = pre.length + A.length) (h : ∀ x ∈ A ++ B, G x.1) (q : Nat) (r : pre.length ≤ q) (s : q < a) (t : a ≤ p - q) (u : p - q < a + B.length) :
  Ask (pre ++ (A.map (·.1) ++ (B.map (·.1) ++ post))) f ((p - q : Nat) : Int) (q : Int) (!PU c (A.map (·.1)) (B.map (·.1)) pre.length a p q) := by
 obtain ⟨x, g, i⟩ := MM pre (A.map (·.1)) (B.map (·.1) ++ post) q r (by simp; omega)
 obtain ⟨y, b, j⟩ := MM (pre ++ A.map (·.1)) (B.map (·.1)) post (p - q) (by simp; omega) (by simp; omega)
 have n : G x := by
  obtain ⟨z, d, rfl⟩ := bG.1 (dy g)
  exact h z (by simp [d])
 have o : G y := by
  obtain ⟨z, d, rfl⟩ := bG.1 (dy b)
  exact h z (by simp [d])
 have k : lN (pre ++ (A.map (·.1) ++ (B.map (·.1) ++ post))) ((p - q : Nat) : Int) = some y := by simpa using j
 refine ⟨y, x, _, k, i, l y x o n, ?_⟩
 rw [show p - q - (pre ++ A.map (·.1)).length = p - q - a by simp; omega] at b
 rw [Ji g b, fR]
abbrev TQ (c : Formula → Formula → Int) (G : Formula → Prop) (f : Formula × Formula → Option Int) (rec : List Formula → Int → Int → Int → ((Formula × Formula) → Option Int) → Option (List Formula)) (k : Nat) : Prop :=
 ∀ (A B : List (Formula × Nat)) (pre post : List Formula) (a m b : Int), A.length + B.length ≤ k → 0 < A.length → 0 < B.length → oN (oH c) A → oN (oH c) B →
  (∀ x ∈ A, ∀ y ∈ B, x.2 < y.2) → (∀ x ∈ A ++ B, G x.1) → (pre ++ (A.map (·.1) ++ (B.map (·.1) ++ post))).length ≤ 400000 → a = (pre.length : Int) → m = ((pre.length + A.length : Nat) : Int) → b = ((pre.length + A.length + B.length : Nat) : Int) →
  ∃ u, rec (pre ++ (A.map (·.1) ++ (B.map (·.1) ++ post))) a m b f = some (pre ++ (u.map (·.1) ++ post)) ∧ oN (oH c) u ∧ u.Perm (A ++ B)
theorem RX (h : SWO (oH c)) {rec : List Formula → Int → Int → Int → ((Formula × Formula) → Option Int) → Option (List Formula)} {k : Nat} (ih : TQ c G f rec k) (A1 A2 B1 B2 : List (Formula × Nat)) (pre post : List Formula) (a m b : Int) (mid d t : Nat) (L : d = pre.length + (A1.length + A2.length)) (O : mid = (pre.length + (d + (B1.length + B2.length))) / 2) (I : A1.length = t - pre.length) (J : B1.length = mid - t) (P : pre.length ≤ t) (Q : t ≤ mid) (R : t ≤ d) (hk : A1.length + A2.length + (B1.length + B2.length) ≤ k + 1) (M : 2 ≤ A1.length + A2.length + (B1.length + B2.length)) (o : oN (oH c) (A1 ++ A2)) (p : oN (oH c) (B1 ++ B2)) (F : ∀ x ∈ A1 ++ A2, ∀ y ∈ B1 ++ B2, x.2 < y.2) (E : ∀ x ∈ (A1 ++ A2) ++ (B1 ++ B2), G x.1) (hl : pre.length + (A1.length + A2.length + (B1.length + B2.length + post.length)) ≤ 400000) (ha : a = (pre.length : Int)) (hm : m = (d : Int)) (hb : b = ((d + (B1.length + B2.length) : Nat) : Int)) (T : Lk (oH c) A1 B2) (U : Lk (oH c) B1 A2) :
  ∃ u, ((if t < d ∧ d < mid + d - t then na (pre ++ ((A1 ++ A2).map (·.1) ++ ((B1 ++ B2).map (·.1) ++ post))) (t : Int) m ((mid + d - t : Nat) : Int) f else some (pre ++ ((A1 ++ A2).map (·.1) ++ ((B1 ++ B2).map (·.1) ++ post)))).bind fun l =>
   ((if a < (t : Int) ∧ t < mid then rec l a (t : Int) (mid : Int) f else some l).bind fun l => if mid < mid + d - t ∧ ((mid + d - t : Nat) : Int) < b then rec l (mid : Int) ((mid + d - t : Nat) : Int) b f else some l)) = some (pre ++ (u.map (·.1) ++ post)) ∧ oN (oH c) u ∧ u.Perm ((A1 ++ A2) ++ (B1 ++ B2)) := by
 have W : (if t < d ∧ d < mid + d - t then na (pre ++ ((A1 ++ A2).map (·.1) ++ ((B1 ++ B2).map (·.1) ++ post))) (t : Int) m ((mid + d - t : Nat) : Int) f else some (pre ++ ((A1 ++ A2).map (·.1) ++ ((B1 ++ B2).map (·.1) ++ post)))) =
   some (pre ++ (A1.map (·.1) ++ (B1.map (·.1) ++ (A2.map (·.1) ++ (B2.map (·.1) ++ post))))) := by
  by_cases i : t < d ∧ d < mid + d - t
  ·rw [aV i]
   have := TU (f := f) (A2.map (·.1)) (B1.map (·.1)) (pre ++ A1.map (·.1)) (B2.map (·.1) ++ post) (t : Int) m ((mid + d - t : Nat) : Int) (by simp; omega) (by simp; omega) (by simp; omega) (by simp; omega) (by simp; omega) (by simp; omega)
   simpa using this
  ·rw [aU i]
   have : A2 = [] ∨ B1 = [] := by
    by_cases h1 : A2.length = 0
    ·exact .inl (aP h1)
    ·exact .inr (aP (by omega))
   rcases this with rfl | rfl <;> simp
 rw [W, aA]
 have Y : ∃ C1, (if a < (t : Int) ∧ t < mid then rec (pre ++ (A1.map (·.1) ++ (B1.map (·.1) ++ (A2.map (·.1) ++ (B2.map (·.1) ++ post))))) a (t : Int) (mid : Int) f else some (pre ++ (A1.map (·.1) ++ (B1.map (·.1) ++ (A2.map (·.1) ++ (B2.map (·.1) ++ post)))))) =
   some (pre ++ (C1.map (·.1) ++ (A2.map (·.1) ++ (B2.map (·.1) ++ post)))) ∧ oN (oH c) C1 ∧ C1.Perm (A1 ++ B1) := by
  by_cases i : a < (t : Int) ∧ t < mid
  ·rw [aV i]
   exact ih A1 B1 pre (A2.map (·.1) ++ (B2.map (·.1) ++ post)) a t mid (by omega) (by omega) (by omega) o.left p.left (fun x g y z => F x (by simp [g]) y (by simp [z])) (fun x g => E x (by simp at g ⊢; rcases g with g | g <;> simp [g]))
    (by simp; omega) ha (by omega) (by omega)
  ·rw [aU i]
   refine ⟨A1 ++ B1, by simp, Jm h o.left p.left (fun A' x y B' A D => ?_), .refl _⟩
   have g1 : 0 < A1.length := by rw [A]; simp
   have g2 : 0 < B1.length := by rw [D]; simp
   omega
 obtain ⟨C1, q, s, j⟩ := Y
 have r := j.length_eq
 simp only [aC] at r
 rw [q, aA]
 have Z : ∃ C2, (if mid < mid + d - t ∧ ((mid + d - t : Nat) : Int) < b then rec (pre ++ (C1.map (·.1) ++ (A2.map (·.1) ++ (B2.map (·.1) ++ post)))) (mid : Int) ((mid + d - t : Nat) : Int) b f else some (pre ++ (C1.map (·.1) ++ (A2.map (·.1) ++ (B2.map (·.1) ++ post))))) =
   some ((pre ++ C1.map (·.1)) ++ (C2.map (·.1) ++ post)) ∧ oN (oH c) C2 ∧ C2.Perm (A2 ++ B2) := by
  by_cases i : mid < mid + d - t ∧ ((mid + d - t : Nat) : Int) < b
  ·rw [aV i]
   have := ih A2 B2 (pre ++ C1.map (·.1)) post mid ((mid + d - t : Nat) : Int) b (by omega) (by omega) (by omega) o.right p.right (fun x g y z => F x (by simp [g]) y (by simp [z])) (fun x g => E x (by simp at g ⊢; rcases g with g | g <;> simp [g]))
    (by simp; omega) (by simp; omega) (by simp; omega) (by simp; omega)
   simpa using this
  ·rw [aU i]
   refine ⟨A2 ++ B2, by simp, Jm h o.right p.right (fun A' x y B' A D => ?_), .refl _⟩
   have g1 : 0 < A2.length := by rw [A]; simp
   have g2 : 0 < B2.length := by rw [D]; simp
   omega
 obtain ⟨C2, v, w, n⟩ := Z
 rw [v]
 exact ⟨C1 ++ C2, by simp, QP h o p T U j n s w, Oq j n⟩
theorem OL (F : Nat) (G : 1000000 < F) (L : List Formula) (rec : List Formula → Int → Int → Int → ((Formula × Formula) → Option Int) → Option (List Formula)) (pl g h mid c p : Nat) (a b m : Int) (o : Nat → Bool) (v : 0 < g) (w : 0 < h) (A : pl + (g + h) ≤ 400000) (z : mid = (pl + (pl + g + h)) / 2) (y : c = pl + g) (hp : p + 1 = mid + c) (l : a + b = ((2 * mid : Nat) : Int) ∨ a + b = ((2 * mid + 1 : Nat) : Int)) (ha : a = (pl : Int)) (k : m = (c : Int)) (I : b = ((pl + g + h : Nat) : Int)) (i : ∀ q, pl ≤ q → q < c → c ≤ p - q → p - q < c + h → Ask L f ((p - q : Nat) : Int) (q : Int) (!o q)) :
  ∃ t n d r : Nat, (d = pl ∧ r = c ∧ c ≤ mid ∨ d + (pl + g + h) = mid + c ∧ r = mid ∧ mid < c) ∧ d ≤ t ∧ t ≤ r ∧ (t = d ∨ o (t - 1) = true) ∧ (t = r ∨ o t = false) ∧
    ((if decide (m > (mid : Int)) then some (wi0 .i64 (((mid + c : Nat) : Int) - b), (mid : Int)) else some (a, m) : Option (Int × Int)).bind fun x => lz L a b m f rec F x.1 x.2) =
     lz L a b m f rec (n + 1) (t : Int) (t : Int) := by
 by_cases u : mid < c
 ·obtain ⟨d, s⟩ : ∃ d : Nat, d + (pl + g + h) = mid + c := ⟨mid + c - (pl + g + h), by omega⟩
  obtain ⟨t, n, t1, t2, t3, t4, e⟩ := To (f := f) L a b m rec mid c p l k hp o d mid (by omega) (by omega) (by omega) (by omega) (fun q D E => i q (by omega) (by omega) (by omega) (by omega))
   (mid - d) F d mid (aS _) (by omega) (aS _) (by omega) (aS _) (.inl rfl) (.inl rfl)
  refine ⟨t, n, d, mid, .inr ⟨s, rfl, u⟩, t1, t2, t3, t4, ?_⟩
  have j : m > (mid : Int) := by omega
  simp only [j, cT, aZ, aA]
  rw [nL d (by omega) (by omega), e]
 ·obtain ⟨t, n, t1, t2, t3, t4, e⟩ := To (f := f) L a b m rec mid c p l k hp o pl c (by omega) (by omega) (by omega) (by omega) (fun q D E => i q (by omega) (by omega) (by omega) (by omega))
   (c - pl) F pl c (aS _) (by omega) (aS _) (by omega) (aS _) (.inl rfl) (.inl rfl)
  refine ⟨t, n, pl, c, .inl ⟨rfl, rfl, by omega⟩, t1, t2, t3, t4, ?_⟩
  have j : ¬ (m > (mid : Int)) := by omega
  simp only [j, cX, aB, aN, aA]
  rw [← e, ← ha, ← k]
set_option maxHeartbeats 2000000 in
theorem TE (h : SWO (oH c)) (Z : CL f c G) : ∀ (k : Nat) (A B : List (Formula × Nat)) (pre post : List Formula) (n : Nat) (a m b : Int), A.length + B.length ≤ k → 0 < A.length → 0 < B.length → k < n → oN (oH c) A → oN (oH c) B →
  (∀ x ∈ A, ∀ y ∈ B, x.2 < y.2) → (∀ x ∈ A ++ B, G x.1) → (pre ++ (A.map (·.1) ++ (B.map (·.1) ++ post))).length ≤ 400000 → a = (pre.length : Int) → m = ((pre.length + A.length : Nat) : Int) → b = ((pre.length + A.length + B.length : Nat) : Int) →
  ∃ u, mg n (pre ++ (A.map (·.1) ++ (B.map (·.1) ++ post))) a m b f = some (pre ++ (u.map (·.1) ++ post)) ∧ oN (oH c) u ∧ u.Perm (A ++ B) := by
 intro k
 induction k with
 | zero => intro A B pre post n a m b h0 h1 h2; omega
 | succ k ih =>
  intro A B pre post n a m b h0 h1 h2 hn hA hB T R hl ha hm M
  obtain ⟨n, rfl⟩ := aM (by omega : n ≠ 0)
  have O := hl
  simp only [aC, cR] at O
  rw [mg]
  unfold pw
  by_cases c1 : A.length = 1
  ·obtain ⟨x, rfl⟩ := List.length_eq_one_iff.1 c1
   have : (wi0 .i64 (m - a) == 1) = true := by rw [nL 1 (by simp at hm; omega) (by omega)]; rfl
   simp only [this, aZ]
   obtain ⟨u, u1, u2, u3⟩ := SO h Z x B pre post a m b hB (fun y hy => T x (by simp) y hy) (fun y hy => R y (by simpa using hy)) (by simpa using hl) ha (by simpa using hm) (by simpa using M)
   exact ⟨u, by simpa using u1, u2, by simpa using u3⟩
  have n1 : (wi0 .i64 (m - a) == 1) = false := by rw [nL A.length (by omega) (by omega)]; simp; omega
  simp only [n1, aB, aN]
  by_cases c2 : B.length = 1
  ·obtain ⟨y, rfl⟩ := List.length_eq_one_iff.1 c2
   have : (wi0 .i64 (b - m) == 1) = true := by rw [nL 1 (by simp at M; omega) (by omega)]; rfl
   simp only [this, aZ]
   obtain ⟨u, u1, u2, u3⟩ := SZ h Z y A pre post a m hA (fun x U => T x U y (by simp)) (fun x U => R x (by simp at U ⊢; exact U.symm)) (by simpa using hl) ha hm
   exact ⟨u, by simpa using u1, u2, u3⟩
  have n2 : (wi0 .i64 (b - m) == 1) = false := by rw [nL B.length (by omega) (by omega)]; simp; omega
  simp only [n2, aB, aN]
  obtain ⟨F, hF, Y⟩ : ∃ F, F = kT ∧ 1000000 < F := ⟨kT, rfl, by rw [nt]; omega⟩
  rw [← hF]
  obtain ⟨mid, D⟩ : ∃ mid : Nat, mid = (pre.length + (pre.length + A.length + B.length)) / 2 := ⟨_, rfl⟩
  obtain ⟨d, j⟩ : ∃ d : Nat, d = pre.length + A.length := ⟨_, rfl⟩
  obtain ⟨p, hp⟩ : ∃ p : Nat, p + 1 = mid + d := ⟨mid + d - 1, by omega⟩
  have v : a + b = ((2 * mid : Nat) : Int) ∨ a + b = ((2 * mid + 1 : Nat) : Int) := by omega
  have E : wi0 .i64 (Int.fdiv (IntKind.u64.wrap (wi0 .i64 (a + b))) (2 ^ min (Int.toNat 1) (IntKind.bits .u64))) = (mid : Int) := by
   rcases v with h | h
   ·rw [Dp _ h (by omega), show 2 * mid / 2 = mid by omega]
   ·rw [Dp _ h (by omega), show (2 * mid + 1) / 2 = mid by omega]
  have w : m = (d : Int) := by omega
  have w1 : wi0 .i64 ((mid : Int) + m) = ((mid + d : Nat) : Int) := nL _ (by omega) (by omega)
  obtain ⟨I, o⟩ : ∃ I : Nat → Bool, I = PU c (A.map (·.1)) (B.map (·.1)) pre.length d p := ⟨_, rfl⟩
  have L : ∀ q, pre.length ≤ q → q < d → d ≤ p - q → p - q < d + B.length → Ask (pre ++ (A.map (·.1) ++ (B.map (·.1) ++ post))) f ((p - q : Nat) : Int) (q : Int) (!I q) := fun q g i q3 q4 => by rw [o]; exact TB Z A B pre post d p j R q g i q3 q4
  obtain ⟨t, n', lo, hi, a1, t1, t2, t3, t4, e⟩ := OL (f := f) F Y (pre ++ (A.map (·.1) ++ (B.map (·.1) ++ post))) (mg n) pre.length A.length B.length mid d p a b m I (by omega) (by omega) (by omega) D j hp v ha w M L
  simp only [E, w1]
  rw [e, Sa (f := f) _ a b m _ mid d t n' v w (by omega) (by omega) (by omega)]
  obtain ⟨A1, A2, rfl, J⟩ := xb (l := A) (n := t - pre.length) (by omega)
  obtain ⟨B1, B2, rfl, W⟩ := xb (l := B) (n := mid - t) (by omega)
  simp only [aC] at h0 h1 h2 O t1 t2 t3 t4 a1 hm M j D
  have P : ∀ q x y, ((A1 ++ A2).map (·.1))[q - pre.length]? = some x → ((B1 ++ B2).map (·.1))[p - q - d]? = some y → I q = !oH c y x := fun q x y r s => by rw [o]; exact Ji r s
  have l1 : Lk (oH c) A1 B2 := by
   intro A' z b' B' g i
   have g1 : 0 < A1.length := by rw [g]; simp
   have g2 : 0 < B2.length := by rw [i]; simp
   have Q : I (t - 1) = true := by
    rcases t3 with t3 | t3
    ·omega
    ·exact t3
   have r := yL (DM A2 g)
   have s := yL (Dy B1 i)
   rw [show A1.length - 1 = t - 1 - pre.length by omega] at r
   rw [show B1.length = p - (t - 1) - d by omega] at s
   rw [P _ _ _ r s, fH] at Q
   exact .inr ⟨Q, T z (by rw [g]; simp) b' (by rw [i]; simp)⟩
  have l2 : Lk (oH c) B1 A2 := by
   intro A' z b' B' g i
   have g1 : 0 < B1.length := by rw [g]; simp
   have g2 : 0 < A2.length := by rw [i]; simp
   have Q : I t = false := by
    rcases t4 with t4 | t4
    ·omega
    ·exact t4
   have r := yL (DM B2 g)
   have s := yL (Dy A1 i)
   rw [show B1.length - 1 = p - t - d by omega] at r
   rw [J] at s
   rw [P _ _ _ s r, Bool.not_eq_false'] at Q
   exact .inl Q
  exact RX h (fun A B pre post a m b g i q3 => ih A B pre post n a m b g i q3 (by omega)) A1 A2 B1 B2 pre post a m b mid d t j (by rw [D]; congr 1; omega) J W (by omega) (by omega) (by omega) (by omega) (by omega) hA hB T R (by omega) ha w (by rw [M]; congr 1; omega) l1 l2
end
section
variable {c : Formula → Formula → Int} {G : Formula → Prop} {f : Formula × Formula → Option Int}
def xP (c : Formula → Formula → Int) : Nat → List (List (Formula × Nat)) → Prop
 | _, [] => True
 | o, A :: bs => oN (oH c) A ∧ (∀ x ∈ A, o ≤ x.2 ∧ x.2 < o + A.length) ∧ xP c (o + A.length) bs
def WB (s : Nat) : List (List (Formula × Nat)) → Prop
 | [] => True
 | A :: bs => A.length ≤ s ∧ (bs ≠ [] → A.length = s) ∧ WB s bs
theorem xP.append : ∀ {ds bs : List (List (Formula × Nat))} {o : Nat}, xP c o (ds ++ bs) ↔ xP c o ds ∧ xP c (o + ds.flatten.length) bs
 | [], bs, o => by simp [xP]
 | A :: ds, bs, o => by
  simp only [bW, xP, xP.append (ds := ds), bM, aC, and_assoc, eu]
def fm (bs : List (List (Formula × Nat))) : List Formula := bs.flatten.map (·.1)
theorem Iq (a b : List (List (Formula × Nat))) : fm (a ++ b) = fm a ++ fm b := by simp [fm]
theorem Ls (A : List (Formula × Nat)) (b : List (List (Formula × Nat))) : fm (A :: b) = A.map (·.1) ++ fm b := by simp [fm]
theorem rJ (a : List (List (Formula × Nat))) : (fm a).length = a.flatten.length := by unfold fm; rw [cR]
theorem N9 (ds : List (List (Formula × Nat))) (C : List (Formula × Nat)) : (ds ++ [C]).flatten.length = ds.flatten.length + C.length := by rw [cQ, aC]; simp only [bM, dw, bE]
theorem RP (C : List (Formula × Nat)) (bs : List (List (Formula × Nat))) : fm ([C] ++ bs) = C.map (·.1) ++ fm bs := by simp [fm]
theorem Fu {R : List Formula} {o : Nat} {x : Formula × Nat} (h : x ∈ R.zipIdx o) : x.1 ∈ R := List.fst_mem_of_mem_zipIdx h
theorem WB.two {s : Nat} {A : List (Formula × Nat)} {bs : List (List (Formula × Nat))} (d : 0 < s) (h : WB s (A :: bs)) (c : s < (A :: bs).flatten.length) : A.length = s ∧ ∃ B a, bs = B :: a ∧ (B.length = s ∨ a = []) ∧ B.length ≤ s ∧ WB s a := by
 cases bs with
 | nil => simp at c; have := h.1; omega
 | cons B a =>
  refine ⟨h.2.1 (by simp), B, a, rfl, ?_, h.2.2.1, h.2.2.2.2⟩
  by_cases b : a = []
  ·exact .inr b
  ·exact .inl (h.2.2.2.1 b)
theorem Kd (h : SWO (oH c)) (t : CL f c G) {ds bs : List (List (Formula × Nat))} {A B : List (Formula × Nat)} (hO : xP c 0 (ds ++ A :: B :: bs)) (r : ∀ x ∈ (ds ++ A :: B :: bs).flatten, G x.1) (i : (fm (ds ++ A :: B :: bs)).length ≤ 400000) (p : 0 < A.length) (q : 0 < B.length) (a m b : Int) (ha : a = (ds.flatten.length : Int)) (hm : m = ((ds.flatten.length + A.length : Nat) : Int)) (s : b = ((ds.flatten.length + A.length + B.length : Nat) : Int)) :
  ∃ C, mg kT (fm (ds ++ A :: B :: bs)) a m b f = some (fm ((ds ++ [C]) ++ bs)) ∧ xP c 0 ((ds ++ [C]) ++ bs) ∧ C.Perm (A ++ B) := by
 obtain ⟨h1, o⟩ := xP.append.1 hO
 obtain ⟨D, l, E, n, u⟩ := o
 have e : fm (ds ++ A :: B :: bs) = fm ds ++ (A.map (·.1) ++ (B.map (·.1) ++ fm bs)) := by rw [Iq, Ls, Ls]
 rw [e] at i ⊢
 have j := i
 simp only [aC, cR, rJ] at j
 obtain ⟨C, w, z, k⟩ := TE h t (A.length + B.length) A B (fm ds) (fm bs) kT a m b (aS _) p q (by rw [nt]; omega) D E (fun x d y v => by have := (l x d).2; have := (n y v).1; omega)
  (fun x d => r x (by
   rw [cQ, bM, bM, aQ, aQ, aQ]
   rcases aQ.1 d with d | d
   ·exact .inr (.inl d)
   ·exact .inr (.inr (.inl d)))) i (by rw [ha, rJ]) (by rw [hm, rJ]) (by rw [s, rJ])
 have g := k.length_eq
 simp only [aC] at g
 refine ⟨C, by rw [w, aK, Iq, RP], ?_, k⟩
 ·rw [aK, xP.append]
  refine ⟨h1, z, fun x d => ?_, ?_⟩
  ·rcases aQ.1 (k.mem_iff.1 d) with d | d
   ·have := l x d; omega
   ·have := n x d; omega
  ·rw [g, ← eu]; exact u
theorem Jy {ds bs : List (List (Formula × Nat))} {A B C : List (Formula × Nat)} (h : C.Perm (A ++ B)) : ((ds ++ [C]) ++ bs).flatten.Perm (ds ++ A :: B :: bs).flatten := by
 simp only [cQ, bM, dw, bE, aK]
 refine cA _ ?_
 rw [← aK]
 exact h.append_right _
theorem Qk (h : SWO (oH c)) (M : CL f c G) (s : Nat) (P : 0 < s) (Q : s ≤ 1000000) (N : Nat) (hN : N ≤ 400000) : ∀ (k : Nat) (bs ds : List (List (Formula × Nat))) (n : Nat) (a b : Int), bs.length ≤ k → k < n → xP c 0 (ds ++ bs) → (∀ x ∈ (ds ++ bs).flatten, G x.1) → (ds ++ bs).flatten.length = N → WB s bs → (∀ A ∈ ds, A.length = 2 * s) →
  a = (ds.flatten.length : Int) → b = ((ds.flatten.length + 2 * s : Nat) : Int) →
  ∃ es r, mP (N : Int) (s : Int) f n (fm (ds ++ bs)) a b = some (fm (es ++ r), (es.flatten.length : Int)) ∧ xP c 0 (es ++ r) ∧ (es ++ r).flatten.Perm (ds ++ bs).flatten ∧ WB s r ∧ r.flatten.length < 2 * s ∧ (∀ A ∈ es, A.length = 2 * s) := by
 intro k
 induction k with
 | zero =>
  intro bs ds n a b hk O hO p j q l ha J
  obtain ⟨n, rfl⟩ := aM (by omega : n ≠ 0)
  obtain rfl := aP (Nat.le_zero.1 hk)
  simp only [bE] at j
  rw [mP]
  have : ¬ (b ≤ (N : Int)) := by omega
  simp only [this, cX, aB, aN]
  exact ⟨ds, [], by rw [ha], hO, .refl _, trivial, by simp only [dw, bP]; omega, l⟩
 | succ k ih =>
  intro bs ds n a b hk O hO p j q l ha J
  obtain ⟨n, rfl⟩ := aM (by omega : n ≠ 0)
  rw [mP]
  by_cases hle : b ≤ (N : Int)
  ·simp only [hle, cT, aZ]
   have d := j
   rw [cQ, aC] at d
   cases bs with
   | nil => simp only [dw, bP] at d; omega
   | cons A bs =>
    obtain ⟨hA, B, i, rfl, m, F, t⟩ := WB.two P q (by omega)
    have I : B.length = s := by
     rcases m with m | rfl
     ·exact m
     ·simp only [bM, dw, bE, aC] at d; omega
    have W : wi0 .i64 (a + (s : Int)) = ((ds.flatten.length + A.length : Nat) : Int) := nL _ (by omega) (by omega)
    obtain ⟨C, T, U, u⟩ := Kd h M hO p (by rw [rJ]; omega) (by omega) (by omega) a _ b ha W (by omega)
    rw [T, aA]
    have o := u.length_eq
    simp only [aC] at o
    have Y : wi0 .i64 (2 * (s : Int)) = ((2 * s : Nat) : Int) := nL _ (by omega) (by omega)
    have L : (ds ++ [C]).flatten.length = ds.flatten.length + 2 * s := by rw [N9]; omega
    have Z : wi0 .i64 (b + ((2 * s : Nat) : Int)) = (((ds ++ [C]).flatten.length + 2 * s : Nat) : Int) := nL _ (by omega) (by omega)
    have hp := Jy (ds := ds) (bs := i) u
    rw [Y, Z]
    obtain ⟨es, r, v, w, y, z, D, E⟩ := ih i (ds ++ [C]) n b _ (by simp at hk; omega) (by omega) U (fun x R => p x (hp.mem_iff.1 R)) (by rw [hp.length_eq, j]) t (fun X g => by
     rcases aQ.1 g with g | g
     ·exact l X g
     ·simp at g; rw [g]; omega) (by rw [L]; omega) rfl
    exact ⟨es, r, v, w, y.trans hp, z, D, E⟩
  ·simp only [hle, cX, aB, aN]
   refine ⟨ds, bs, by rw [ha], hO, .refl _, q, ?_, l⟩
   rw [cQ, aC] at j
   omega
theorem WB.Hf {t : Nat} : ∀ {es : List (List (Formula × Nat))} {C : List (Formula × Nat)}, (∀ A ∈ es, A.length = t) → C.length ≤ t → WB t (es ++ [C])
 | [], C, _, a => ⟨a, fun h => absurd rfl h, trivial⟩
 | E :: es, C, h, a => ⟨by rw [h E (by simp)]; omega, fun _ => h E (by simp), WB.Hf (fun A b => h A (by simp [b])) a⟩
theorem M4 {s : Nat} {r : List (List (Formula × Nat))} {o : Nat} (b : WB s r) (d : r.flatten.length ≤ s) (hO : xP c o r) : oN (oH c) r.flatten ∧ ∀ x ∈ r.flatten, o ≤ x.2 ∧ x.2 < o + r.flatten.length := by
 cases r with
 | nil => exact ⟨.nil, fun x g => by cases g⟩
 | cons A r =>
  have : r.flatten = [] := by
   by_cases a : r = []
   ·rw [a]; rfl
   ·have := b.2.1 a
    rw [bM, aC] at d
    exact aP (by omega)
  rw [bM, this, bE]
  exact ⟨hO.1, hO.2.1⟩
theorem O3 (h : SWO (oH c)) (Q : CL f c G) (N : Nat) (hN : N ≤ 400000) : ∀ (k s : Nat) (bs : List (List (Formula × Nat))) (n : Nat), N - s ≤ k → k < n → 0 < s → s ≤ 1000000 → xP c 0 bs → (∀ x ∈ bs.flatten, G x.1) → bs.flatten.length = N → WB s bs →
  ∃ u, mC (N : Int) f n (fm bs) (s : Int) = some (u.map (·.1)) ∧ oN (oH c) u ∧ u.Perm bs.flatten := by
 intro k
 induction k with
 | zero =>
  intro s bs n hk hn D m hO l i b
  obtain ⟨n, rfl⟩ := aM (by omega : n ≠ 0)
  rw [mC]
  have : ¬ ((s : Int) < (N : Int)) := by omega
  simp only [this, cX, aB, aN]
  refine ⟨bs.flatten, rfl, ?_, .refl _⟩
  cases bs with
  | nil => exact .nil
  | cons A bs =>
   have : bs.flatten = [] := by
    by_cases d : bs = []
    ·rw [d]; rfl
    ·have := b.2.1 d
     rw [bM, aC] at i
     exact aP (by omega)
   rw [bM, this, bE]
   exact hO.1
 | succ k ih =>
  intro s bs n hk hn D m hO l i b
  by_cases a7 : s < N
  ·obtain ⟨n, rfl⟩ := aM (by omega : n ≠ 0)
   rw [mC]
   have : ((s : Int) < (N : Int)) := by omega
   simp only [this, cT, aZ]
   have w1 : wi0 .i64 (2 * (s : Int)) = ((2 * s : Nat) : Int) := nL _ (by omega) (by omega)
   have w0 : wi0 .i64 ((s : Int) * 2) = ((2 * s : Nat) : Int) := nL _ (by omega) (by omega)
   have a6 : bs.length ≤ 2000000 := by
    have : ∀ {bs : List (List (Formula × Nat))}, WB s bs → bs.length ≤ bs.flatten.length + 1 := by
     intro bs
     induction bs with
     | nil => intro _; simp
     | cons A bs E =>
      intro b
      by_cases d : bs = []
      ·subst d; simp
      ·have := b.2.1 d
       have := E b.2.2
       simp only [aJ, bM, aC]
       omega
    have := this b
    omega
   obtain ⟨es, r, J, L, a, M, O, P⟩ := Qk h Q s D m N hN bs.length bs [] kT 0 ((2 * s : Nat) : Int) (aS _) (by rw [nt]; omega) (by simpa using hO) (by simpa using l) (by simpa using i) b (by simp) rfl (by simp)
   simp only [bJ] at J a
   rw [w1, J, aA, w0]
   have j := a.length_eq
   rw [i, cQ, aC] at j
   have w2 : wi0 .i64 ((es.flatten.length : Int) + (s : Int)) = ((es.flatten.length + s : Nat) : Int) := nL _ (by omega) (by omega)
   simp only [w2]
   by_cases hm : es.flatten.length + s < N
   ·have : (((es.flatten.length + s : Nat) : Int) < (N : Int)) := by omega
    simp only [this, cT, aZ, oY]
    cases r with
    | nil => simp only [dw, bP] at j; omega
    | cons A r =>
     obtain ⟨hA, B, U, rfl, p, Z, a1⟩ := WB.two D M (by omega)
     have z : U = [] := by
      rcases p with p | p
      ·by_cases hr : U = []
       ·exact hr
       ·simp only [bM, aC] at O; omega
      ·exact p
     subst z
     simp only [bM, dw, bE, aC] at j O
     obtain ⟨C, q1, R, T⟩ := Kd h Q L (fun x o => l x (a.mem_iff.1 o)) (by rw [rJ, a.length_eq]; omega) (by omega) (by omega) (es.flatten.length : Int) ((es.flatten.length + s : Nat) : Int) (N : Int) rfl (by omega) (by omega)
     rw [q1, aA]
     have t := T.length_eq
     simp only [aC] at t
     have hp := (Jy (ds := es) (bs := []) T).trans a
     simp only [bE] at R hp ⊢
     obtain ⟨u, F, I, q⟩ := ih (2 * s) (es ++ [C]) n (by omega) (by omega) (by omega) (by omega) R (fun x o => l x (hp.mem_iff.1 o)) (by rw [hp.length_eq, i]) (WB.Hf P (by omega))
     exact ⟨u, F, I, q.trans hp⟩
   ·have : ¬ (((es.flatten.length + s : Nat) : Int) < (N : Int)) := by omega
    simp only [this, cX, aB, aN, aA]
    obtain ⟨v, w⟩ := xP.append.1 L
    obtain ⟨W, Y⟩ := M4 M (by omega) w
    have y : fm (es ++ r) = fm (es ++ [r.flatten]) := by simp [fm]
    have g : (es ++ [r.flatten]).flatten = (es ++ r).flatten := by simp
    rw [y]
    obtain ⟨u, F, I, q⟩ := ih (2 * s) (es ++ [r.flatten]) n (by omega) (by omega) (by omega) (by omega) (xP.append.2 ⟨v, W, Y, trivial⟩) (fun x o => l x (a.mem_iff.1 (by rw [← g]; exact o))) (by rw [g, a.length_eq, i]) (WB.Hf P (by omega))
    exact ⟨u, F, I, by rw [g] at q; exact q.trans a⟩
  ·obtain ⟨n, rfl⟩ := aM (by omega : n ≠ 0)
   rw [mC]
   have : ¬ ((s : Int) < (N : Int)) := by omega
   simp only [this, cX, aB, aN]
   refine ⟨bs.flatten, rfl, ?_, .refl _⟩
   cases bs with
   | nil => exact .nil
   | cons A bs =>
    have : bs.flatten = [] := by
     by_cases d : bs = []
     ·rw [d]; rfl
     ·have := b.2.1 d
      rw [bM, aC] at i
      exact aP (by omega)
    rw [bM, this, bE]
    exact hO.1
theorem HV : ∀ (l : List Formula) (o : Nat), (l.zipIdx o).Pairwise (fun x y => x.2 < y.2)
 | [], o => by simp
 | x :: l, o => by
  rw [jG, cO]
  refine ⟨fun y c => ?_, HV l (o + 1)⟩
  obtain ⟨a, b⟩ := y
  have := List.le_snd_of_mem_zipIdx c
  simp only at this ⊢; omega
theorem Le (l : List Formula) (o : Nat) : ∀ x ∈ l.zipIdx o, o ≤ x.2 ∧ x.2 < o + l.length := by
 rintro ⟨a, b⟩ c
 have h1 := List.le_snd_of_mem_zipIdx c
 have d := List.snd_lt_add_of_mem_zipIdx c
 simp only at h1 d ⊢; omega
theorem Nj (h : SWO (oH c)) (k : CL f c G) (N : Nat) (r : N ≤ 300000) (R : List Formula) (ds : List (List (Formula × Nat))) (n : Nat) (a b : Int) (w : 0 < n) (hO : xP c 0 ds) (m : ∀ A ∈ ds, A.length = 20) (o : ∀ x ∈ ds.flatten, G x.1) (j : ∀ x ∈ R, G x) (t : ds.flatten.length + R.length = N) (p : R.length < 20) (ha : a = (ds.flatten.length : Int)) (s : b = ((ds.flatten.length + 20 : Nat) : Int)) :
  ∃ u, mD (N : Int) f n (fm ds ++ R) a b = some (u.map (·.1)) ∧ oN (oH c) u ∧ u.Perm (ds.flatten ++ R.zipIdx ds.flatten.length) := by
 obtain ⟨n, rfl⟩ := aM (by omega : n ≠ 0)
 rw [mD]
 have hle : ¬ (b ≤ (N : Int)) := by omega
 simp only [hle, cX, aB, aN, oY]
 obtain ⟨u, l, q, g⟩ := LB h k (fm ds) [] (R.zipIdx ds.flatten.length) a (N : Int) (HV _ _) (fun x d => j x.1 (Fu d)) (by simp only [aC, rJ, cR, et, bP]; omega) (by rw [rJ]; exact ha) (by rw [rJ, et]; omega)
 rw [List.zipIdx_map_fst, bE, bE] at l
 have i := g.length_eq
 rw [et] at i
 have e : fm ds ++ u.map (·.1) = fm (ds ++ [u]) := by simp [fm]
 have hp : (ds ++ [u]).flatten.Perm (ds.flatten ++ R.zipIdx ds.flatten.length) := by
  rw [cQ]
  refine cA _ ?_
  simpa using g
 rw [l, aA, e]
 obtain ⟨v, v1, v2, v3⟩ := O3 h k N (by omega) N 20 (ds ++ [u]) kT (by omega) (by rw [nt]; omega) (by omega) (by omega) (xP.append.2 ⟨hO, q, fun x d => by have := Le R ds.flatten.length x (g.mem_iff.1 d); omega, trivial⟩) (fun x d => by
  rw [cQ, aQ] at d
  rcases d with d | d
  ·exact o x d
  ·simp only [bM, dw, bE] at d
   exact j x.1 (Fu (g.mem_iff.1 d))) (by rw [hp.length_eq, aC, et]; omega) (WB.Hf m (by omega))
 exact ⟨v, v1, v2, v3.trans hp⟩
theorem Pg (h : SWO (oH c)) (t : CL f c G) (N : Nat) (z : N ≤ 300000) : ∀ (k : Nat) (R : List Formula) (ds : List (List (Formula × Nat))) (n : Nat) (a b : Int), R.length ≤ k → k < n → xP c 0 ds → (∀ A ∈ ds, A.length = 20) → (∀ x ∈ ds.flatten, G x.1) → (∀ x ∈ R, G x) → ds.flatten.length + R.length = N →
  a = (ds.flatten.length : Int) → b = ((ds.flatten.length + 20 : Nat) : Int) →
  ∃ u, mD (N : Int) f n (fm ds ++ R) a b = some (u.map (·.1)) ∧ oN (oH c) u ∧ u.Perm (ds.flatten ++ R.zipIdx ds.flatten.length) := by
 intro k
 induction k with
 | zero =>
  intro R ds n a b hk D hO o p j q ha s
  obtain rfl := aP (Nat.le_zero.1 hk)
  exact Nj h t N z [] ds n a b D hO o p j q (by simp) ha s
 | succ k ih =>
  intro R ds n a b hk D hO o p j q ha s
  by_cases y : R.length < 20
  ·exact Nj h t N z R ds n a b (by omega) hO o p j q y ha s
  obtain ⟨n, rfl⟩ := aM (by omega : n ≠ 0)
  obtain ⟨R1, R2, rfl, m⟩ := xb (l := R) (n := 20) (by omega)
  rw [aC] at q hk
  rw [mD]
  have hle : b ≤ (N : Int) := by omega
  simp only [hle, cT, aZ]
  obtain ⟨u, E, F, r⟩ := LB h t (fm ds) R2 (R1.zipIdx ds.flatten.length) a b (HV _ _) (fun x d => j x.1 (by simp [Fu d])) (by simp only [aC, rJ, cR, et, bP]; omega) (by rw [rJ]; exact ha) (by rw [rJ, et]; omega)
  rw [List.zipIdx_map_fst] at E
  rw [E, aA]
  have g := r.length_eq
  rw [et, m] at g
  have w : (ds ++ [u]).flatten.length = ds.flatten.length + 20 := by rw [N9, g]
  have I : wi0 .i64 (b + 20) = (((ds ++ [u]).flatten.length + 20 : Nat) : Int) := nL _ (by omega) (by omega)
  have e : fm ds ++ (u.map (·.1) ++ R2) = fm (ds ++ [u]) ++ R2 := by simp [fm]
  rw [e, I]
  obtain ⟨v, v1, v2, v3⟩ := ih R2 (ds ++ [u]) n b _ (by omega) (by omega) (xP.append.2 ⟨hO, F, fun x d => by have := Le R1 ds.flatten.length x (r.mem_iff.1 d); omega, trivial⟩) (fun A i => by
   rcases aQ.1 i with i | i
   ·exact o A i
   ·simp at i; rw [i]; exact g) (fun x d => by
   rw [cQ, aQ] at d
   rcases d with d | d
   ·exact p x d
   ·simp only [bM, dw, bE] at d
    exact j x.1 (by simp [Fu (r.mem_iff.1 d)])) (fun x d => j x (by simp [d])) (by omega) (by omega) rfl
  refine ⟨v, v1, v2, v3.trans ?_⟩
  rw [w, cQ, List.zipIdx_append, m, aK]
  refine cA _ ?_
  simp only [bM, dw, bE]
  exact r.append_right _
theorem L4 (h : SWO (oH c)) (g : CL f c G) (l : List Formula) (d : ∀ x ∈ l, G x) (i : l.length ≤ 300000) : pg l f = some (Kl (oH c) l) := by
 unfold pg rz
 obtain ⟨u, a, j, b⟩ := Pg h g l.length i l.length l [] kT 0 20 (aS _) (by rw [nt]; omega) trivial (by simp) (by simp) d (by simp) rfl rfl
 simp only [fm, dw, ev, bJ, bP] at a b
 rw [a, aA, QJ h j b]
end
theorem Jl {P : Formula → Prop} (h : ∀ f, (∀ k ∈ f.Kids, P k) → P f) : ∀ f, P f := by
 intro f
 refine Formula.rec (motive_1 := P) (motive_2 := fun b => ∀ k ∈ b, P k) ?_ ?_ ?_ f
 ·intro o k r b ih; exact h _ ih
 ·intro k hk; cases hk
 ·intro k b h1 c x a
  rcases aO.1 a with rfl | a
  ·exact h1
  ·exact c x a
mutual
def lf : Formula → Nat
 | ⟨_, _, _, ks⟩ => 1 + nodesL ks
def nodesL : List Formula → Nat
 | [] => 0
 | k :: ks => lf k + nodesL ks
end
mutual
def sH : Formula → Nat
 | ⟨_, _, _, ks⟩ => deepL ks + 1
def deepL : List Formula → Nat
 | [] => 0
 | k :: ks => max (sH k) (deepL ks)
end
theorem qi (f : Formula) : lf f = 1 + nodesL f.Kids := by cases f; rw [lf]
theorem pE (f : Formula) : sH f = deepL f.Kids + 1 := by cases f; rw [sH]
theorem yO : ∀ {a : List Formula} {k : Formula}, k ∈ a → lf k ≤ nodesL a
 | x :: a, k, h => by
  rw [nodesL]
  rcases aO.1 h with rfl | h
  ·omega
  ·have := yO h; omega
theorem xa : ∀ {a : List Formula} {k : Formula}, k ∈ a → sH k ≤ deepL a
 | x :: a, k, h => by
  rw [deepL]
  rcases aO.1 h with rfl | h
  ·omega
  ·have := xa h; omega
theorem A8 : ∀ f : Formula, sH f ≤ lf f := by
 refine Jl fun f ih => ?_
 rw [pE, qi]
 have : ∀ a : List Formula, (∀ k ∈ a, sH k ≤ lf k) → deepL a ≤ nodesL a := by
  intro a
  induction a with
  | nil => intro _; rw [deepL]; omega
  | cons k a b =>
   intro h
   have := b (fun x c => h x (by simp [c]))
   have := h k (by simp)
   rw [deepL, nodesL]; omega
 have := this f.Kids ih
 omega
theorem xc : ∀ a : List Formula, a.length ≤ nodesL a
 | [] => by rw [nodesL]; simp
 | k :: a => by have := xc a; have := qi k; rw [nodesL, aJ]; omega
theorem M0 (a : Nat) (hm : a ≤ 4096) (rec : Formula → Int → Option (Int × Int)) : ∀ (b : List Formula), (∀ k ∈ b, ∀ q : Nat, q ≤ 4096 → ∃ n d : Nat, rec k (q : Int) = some ((n : Int), (d : Int)) ∧ 1 ≤ n ∧ n ≤ lf k ∧ d ≤ lf k ∧ (lf k ≤ q → n = lf k ∧ d = sH k) ∧ (q < lf k → q < n)) → ∀ x y : Nat, x + nodesL b ≤ 100000000 →
  ∃ n d : Nat, pJ (a : Int) rec b (x : Int) (y : Int) = some ((n : Int), (d : Int)) ∧ x ≤ n ∧ n ≤ x + nodesL b ∧ d ≤ max y (nodesL b) ∧ (x + nodesL b ≤ a → n = x + nodesL b ∧ d = max y (deepL b)) ∧ (a < x + nodesL b → a < n)
 | [], _, x, y, _ => by
  rw [pJ, nodesL, deepL]
  exact ⟨x, y, rfl, by omega, by omega, by omega, fun _ => ⟨by omega, by omega⟩, fun h => by omega⟩
 | k :: b, g, x, y, o => by
  rw [nodesL] at o ⊢
  rw [pJ, deepL]
  by_cases i : (x : Int) > (a : Int)
  ·simp only [i, cT, aZ]
   exact ⟨x, y, rfl, by omega, by omega, by omega, fun _ => by omega, fun h => by omega⟩
  ·simp only [i, cX, aB, aN]
   have r : wi0 .i64 ((a : Int) - (x : Int)) = ((a - x : Nat) : Int) := by rw [lG (by omega) (by omega)]; omega
   obtain ⟨m, d, e, h1, u, v, c, l⟩ := g k (by simp) (a - x) (by omega)
   rw [r, e, aA]
   have s : wi0 .i64 ((x : Int) + (m : Int)) = ((x + m : Nat) : Int) := by rw [lG (by omega) (by omega)]; omega
   have t : (if (d : Int) > (y : Int) then (d : Int) else (y : Int)) = ((max y d : Nat) : Int) := by split <;> omega
   simp only [s, t]
   obtain ⟨n, j, e', g1, g2, g3, g4, g5⟩ := M0 a hm rec b (fun z p => g z (by simp [p])) (x + m) (max y d) (by omega)
   refine ⟨n, j, e', by omega, by omega, by omega, fun h => ?_, fun h => ?_⟩
   ·obtain ⟨rfl, rfl⟩ := c (by omega)
    obtain ⟨rfl, rfl⟩ := g4 (by omega)
    exact ⟨by omega, by omega⟩
   ·by_cases hk : a - x < lf k
    ·have := l hk; omega
    ·obtain ⟨rfl, _⟩ := c (by omega)
     exact g5 (by omega)
theorem Pj : ∀ (n : Nat) (f : Formula), sH f ≤ n → lf f ≤ 50000000 → ∀ q : Nat, q ≤ 4096 → ∃ m d : Nat, oK n f (q : Int) = some ((m : Int), (d : Int)) ∧ 1 ≤ m ∧ m ≤ lf f ∧ d ≤ lf f ∧ (lf f ≤ q → m = lf f ∧ d = sH f) ∧ (q < lf f → q < m) := by
 intro n
 induction n with
 | zero => intro f h; rw [pE] at h; omega
 | succ n ih =>
  intro f g p q a
  rw [pE] at g
  have i := qi f
  rw [oK]
  unfold vQ
  obtain ⟨m, d, e, h1, l, o, b, c⟩ := M0 q a (oK n) f.Kids (fun k hk q a => ih k (by have := xa hk; omega) (by have := yO hk; omega) q a) 1 0 (by omega)
  have e' : pJ (q : Int) (oK n) f.Kids 1 0 = some ((m : Int), (d : Int)) := e
  rw [e', aA]
  have j : wi0 .i64 ((d : Int) + 1) = ((d + 1 : Nat) : Int) := by rw [lG (by omega) (by omega)]; omega
  simp only [j]
  refine ⟨m, d + 1, rfl, h1, by omega, by omega, fun h => ?_, fun h => c (by omega)⟩
  obtain ⟨rfl, rfl⟩ := b (by omega)
  rw [pE]
  exact ⟨by omega, by omega⟩
theorem QD (f : Formula) (c : lf f ≤ 50000000) : xB f = some (if lf f ≤ 4096 then ((lf f : Int), (sH f : Int)) else (0, 0)) := by
 unfold xB
 have := A8 f
 obtain ⟨m, d, e, h1, g, i, a, b⟩ := Pj kT f (by rw [nt]; omega) c 4096 (aS _)
 have e' : oK kT f 4096 = some ((m : Int), (d : Int)) := e
 rw [e', aA]
 by_cases h : lf f ≤ 4096
 ·obtain ⟨rfl, rfl⟩ := a h
  have : ¬ ((lf f : Int) > 4096) := by omega
  simp [this, h]
 ·have := b (by omega)
  have : ((m : Int) > 4096) := by omega
  simp [this, h]
def xj : kd := ⟨zS, zS⟩
def Fl (f : Formula) : Bool := if f.Op = 1 then mz f.kd && decide (f.Kids.length = 0) && decide (f.K = 0) else if f.Op = 2 ∨ f.Op = 3 then kG f.kd xj && decide (f.K = 0) else decide (f.Op = 4) && kG f.kd xj && decide (0 ≤ f.K) && decide (f.K ≤ (f.Kids.length : Int)) && decide (1 ≤ f.Kids.length)
theorem QQ (f : Formula) : xw f = some (Fl f) := by
 unfold xw Fl
 simp only [wP, aA, oY]
 by_cases h1 : f.Op = 1
 ·simp only [h1, bN, aZ]
  cases n : mz f.kd
  ·simp
  ·by_cases j : f.Kids.length = 0
   ·have : f.Kids = [] := aP j
    by_cases hk : f.K = 0 <;> simp [this, hk]
   ·have : ((f.Kids.length : Int) == 0) = false := by simp; intro h; exact j (by simp [h])
    simp only [aZ, aA, this, aB, aN, j, cX, jh, Bool.false_and]
 ·have l : (f.Op == 1) = false := by simpa using h1
  simp only [l, aB, aN, h1]
  by_cases c : f.Op = 2 ∨ f.Op = 3
  ·have g : (if f.Op == 2 then some (f.Op == 2) else some (f.Op == 3)) = some true := by
    rcases c with h | h <;> simp [h]
   simp only [g, aA, aZ, c]
   cases d : kG f.kd ⟨zS, zS⟩ <;> by_cases hk : f.K = 0 <;> simp [xj, d, hk]
  ·have g : (if f.Op == 2 then some (f.Op == 2) else some (f.Op == 3)) = some false := by
    have a : f.Op ≠ 2 := fun h => c (.inl h)
    have b : f.Op ≠ 3 := fun h => c (.inr h)
    simp [a, b]
   simp only [g, aA, aB, aN, c]
   by_cases i : f.Op = 4
   ·simp only [i, bN, aZ, aA, cT, ey]
    cases d : kG f.kd ⟨zS, zS⟩
    ·simp [xj, d]
    ·by_cases c1 : 0 ≤ f.K <;> by_cases c2 : f.K ≤ (f.Kids.length : Int) <;> by_cases k : 1 ≤ f.Kids.length <;> simp [xj, d, c1, c2, k] <;> omega
   ·have m : (f.Op == 4) = false := by simpa using i
    simp [m, i]
mutual
def xE : Formula → Bool
 | ⟨o, n, r, ks⟩ => Fl ⟨o, n, r, ks⟩ && decide (ks.length ≤ 8) && wellL ks
def wellL : List Formula → Bool
 | [] => true
 | k :: ks => xE k && wellL ks
end
theorem Ke (f : Formula) : xE f = (Fl f && decide (f.Kids.length ≤ 8) && wellL f.Kids) := by cases f; rw [xE]
theorem It : ∀ a : List Formula, wellL a = a.all xE
 | [] => rfl
 | k :: a => by rw [wellL, It a]; rfl
theorem JU (f : Formula → Option Bool) : ∀ (l : List Formula) (i : Nat), nF f l i = xg f l i
 | [], i => by rw [nF]; rfl
 | x :: l, i => by
  rw [nF, xg]
  cases f x with
  | none => rfl
  | some b =>
   simp only [aA]
   rw [JU f l (i + 1)]
theorem FK (f : Formula → Option Bool) (p : Formula → Bool) (l : List Formula) (h : ∀ x ∈ l, f x = some (p x)) : ov l f = some (l.any p) := by
 unfold ov th
 rw [JU]
 rcases Bt f p l 0 h with ⟨e, h1⟩ | ⟨A, x, B, rfl, h1, a, e⟩
 ·rw [e, aA]
  have : l.any p = false := by rw [List.any_eq_false]; intro x b; rw [h1 x b]; simp
  rw [this]; rfl
 ·rw [e, aA]
  have : (A ++ x :: B).any p = true := by simp [a]
  rw [this]
  congr 1
theorem OJ : ∀ (n : Nat) (f : Formula), sH f ≤ n → rE n f = some (xE f) := by
 intro n
 induction n with
 | zero => intro f h; rw [pE] at h; omega
 | succ n ih =>
  intro f h
  rw [pE] at h
  rw [rE]
  unfold vT
  rw [QQ, aA, Ke, FK _ (fun k => !xE k) f.Kids (fun k hk => by unfold uO; rw [ih k (by have := xa hk; omega)]; rfl)]
  rw [It]
  have e : (!(f.Kids.any fun k => !xE k)) = f.Kids.all xE := by rw [List.all_eq_not_any_not]
  cases Fl f
  ·rfl
  ·by_cases a : f.Kids.length ≤ 8
   ·have : ((f.Kids.length : Int) ≤ 8) := by omega
    simp [a, this, e]
   ·have : ¬ ((f.Kids.length : Int) ≤ 8) := by omega
    simp [a, this]
def qu (f : Formula) : Bool := decide (lf f ≤ 64) && decide (sH f ≤ 6) && xE f
theorem BH (f : Formula) (b : lf f ≤ 50000000) : ql f = some (qu f) := by
 unfold ql qu
 have c := A8 f
 rw [QD f b, aA, OJ kT f (by rw [nt]; omega)]
 have h1 := qi f
 by_cases h : lf f ≤ 4096
 ·simp only [h, aZ]
  have a : ((lf f : Int) ≥ 1) := by omega
  simp only [a, cT, aZ, aA, oY]
  by_cases c1 : lf f ≤ 64 <;> by_cases c2 : sH f ≤ 6
  ·have d1 : ((lf f : Int) ≤ 64) := by omega
   have d2 : ((sH f : Int) ≤ 6) := by omega
   simp [c1, c2, d1, d2]
  ·have d1 : ((lf f : Int) ≤ 64) := by omega
   have d2 : ¬ ((sH f : Int) ≤ 6) := by omega
   simp [c1, c2, d1, d2]
  ·have d1 : ¬ ((lf f : Int) ≤ 64) := by omega
   simp [c1, d1]
  ·have d1 : ¬ ((lf f : Int) ≤ 64) := by omega
   simp [c1, d1]
 ·simp only [h, aN]
  have : ¬ lf f ≤ 64 := by omega
  simp [this]
theorem Formula.ext' {a b : Formula} (h1 : a.Op = b.Op) (c : a.K = b.K) (d : a.kd = b.kd) (g : a.Kids = b.Kids) : a = b := by
 cases a; cases b; simp only at h1 c d g; subst h1 c d g; rfl
theorem N5 (g : Formula × Formula → Option Bool) : ∀ (l m : List Formula), l.length = m.length → (∀ x ∈ l, ∀ y, ∃ b, g (x, y) = some b ∧ (b = true ↔ x = y)) → ∀ (A : List Formula),
  ∃ b, lL (A ++ m) g l A.length = some b ∧ (b = true ↔ l = m)
 | [], m, c, _, A => by
  obtain rfl := aP c.symm
  exact ⟨true, rfl, by simp⟩
 | x :: l, [], c, _, A => by simp at c
 | x :: l, y :: m, c, d, A => by
  rw [lL]
  obtain ⟨b, e, h⟩ := d x (by simp) y
  have i1 : lN (A ++ y :: m) (A.length : Int) = some y := nI _ _ _ _ rfl
  rw [i1, aA, e, aA]
  cases b with
  | false =>
   refine ⟨false, rfl, ?_⟩
   have : x ≠ y := fun a => by have := h.2 a; simp at this
   simp [this]
  | true =>
   have a := h.1 rfl
   obtain ⟨b, i, n⟩ := N5 g l m (by simpa using c) (fun z o => d z (by simp [o])) (A ++ [y])
   simp only [bV, aB, aN]
   have j : A ++ y :: m = (A ++ [y]) ++ m := by simp
   have k : A.length + 1 = (A ++ [y]).length := by simp
   rw [j, k, i]
   exact ⟨b, rfl, by rw [n]; simp [a]⟩
theorem Qi : ∀ (n : Nat) (f : Formula), sH f ≤ n → ∀ g, ∃ b, oC n f g = some b ∧ (b = true ↔ f = g) := by
 intro n
 induction n with
 | zero => intro f h; rw [pE] at h; omega
 | succ n ih =>
  intro f h g
  rw [pE] at h
  rw [oC]
  unfold wK
  by_cases h1 : f.Op = g.Op
  ·by_cases a : f.K = g.K
   ·by_cases c : f.kd = g.kd
    ·have i : kG f.kd g.kd = true := kE.2 c
     simp only [h1, a, i, bN, aZ, aA]
     unfold mW
     by_cases d : f.Kids.length = g.Kids.length
     ·have : ((f.Kids.length : Int) != (g.Kids.length : Int)) = false := by simp [d]
      simp only [this, aB, aN]
      obtain ⟨b, e, l⟩ := N5 (fun x => oC n x.1 x.2) f.Kids g.Kids d (fun x m y => ih x (by have := xa m; omega) y) []
      simp only [bJ, bP] at e
      rw [e]
      refine ⟨b, by simp, l.trans ⟨fun hk => Formula.ext' h1 a c hk, fun hk => by rw [hk]⟩⟩
     ·have : ((f.Kids.length : Int) != (g.Kids.length : Int)) = true := by simp; omega
      simp only [this, aZ]
      exact ⟨false, rfl, by simp; intro hk; rw [hk] at d; exact d rfl⟩
    ·have i : kG f.kd g.kd = false := by rw [← fq, kE]; exact c
     simp only [h1, a, i, bN, aZ, aA, aB, aN]
     exact ⟨false, rfl, by simp; intro hk; rw [hk] at c; exact c rfl⟩
   ·have k : (f.K == g.K) = false := by simpa using a
    simp only [h1, k, bN, aZ, aA, aB, aN]
    exact ⟨false, rfl, by simp; intro hk; rw [hk] at a; exact a rfl⟩
  ·have j : (f.Op == g.Op) = false := by simpa using h1
   simp only [j, aA, aB, aN]
   exact ⟨false, rfl, by simp; intro hk; rw [hk] at h1; exact h1 rfl⟩
mutual
def Bq : Formula → List Int
 | ⟨o, k, r, ks⟩ => o :: (if o = 1 then sI r else (if o = 4 then [k] else []) ++ ((ks.length : Int) :: bytesFL ks))
def bytesFL : List Formula → List Int
 | [] => []
 | k :: ks => Bq k ++ bytesFL ks
end
theorem M1 (f : Formula) : Bq f = f.Op :: (if f.Op = 1 then sI f.kd else (if f.Op = 4 then [f.K] else []) ++ ((f.Kids.length : Int) :: bytesFL f.Kids)) := by cases f; rw [Bq]
theorem FD {f : Formula} (h : xE f = true) : f.Kids.length ≤ 8 ∧ wellL f.Kids = true ∧ ((f.Op = 1 ∧ mz f.kd = true ∧ f.Kids = [] ∧ f.K = 0) ∨ ((f.Op = 2 ∨ f.Op = 3) ∧ f.kd = xj ∧ f.K = 0) ∨ (f.Op = 4 ∧ f.kd = xj ∧ 0 ≤ f.K ∧ f.K ≤ (f.Kids.length : Int) ∧ 1 ≤ f.Kids.length)) := by
 rw [Ke] at h
 simp only [bn, cH] at h
 obtain ⟨⟨h1, a⟩, b⟩ := h
 refine ⟨a, b, ?_⟩
 unfold Fl at h1
 split at h1
 ·rename_i c
  simp only [bn, cH] at h1
  exact .inl ⟨c, h1.1.1, aP h1.1.2, h1.2⟩
 ·split at h1
  ·rename_i c
   simp only [bn, cH, kE] at h1
   exact .inr (.inl ⟨c, h1.1, h1.2⟩)
  ·simp only [bn, cH, kE] at h1
   exact .inr (.inr ⟨h1.1.1.1.1, h1.1.1.1.2, h1.1.1.2, h1.1.2, h1.2⟩)
theorem Re : ∀ (n : Nat) (f : Formula), sH f ≤ n → xE f = true → ∀ l : List Int, l.length + 40 * lf f ≤ 8000 → qg n l f = some (l ++ Bq f) ∧ (Bq f).length ≤ 40 * lf f := by
 intro n
 induction n with
 | zero => intro f h; rw [pE] at h; omega
 | succ n ih =>
  intro f s hw l q
  rw [pE] at s
  have t := qi f
  obtain ⟨h1, p, m⟩ := FD hw
  rw [qg]
  unfold vY
  have d : 0 ≤ f.Op ∧ f.Op < 128 := by rcases m with h | h | h <;> omega
  rw [yP d.1 d.2 (by omega), aA, M1]
  have key : ∀ (a : List Formula), (∀ k ∈ a, k ∈ f.Kids) → wellL a = true → ∀ l : List Int, l.length + 40 * nodesL a ≤ 8000 → qO (qg n) a l = some (l ++ bytesFL a) ∧ (bytesFL a).length ≤ 40 * nodesL a := by
   intro a
   induction a with
   | nil => intro _ _ l _; rw [qO, bytesFL]; simp
   | cons k a o =>
    intro hk b l q
    rw [wellL, bn] at b
    rw [nodesL] at q
    obtain ⟨i, v⟩ := ih k (by have := xa (hk k (by simp)); omega) b.1 l (by omega)
    obtain ⟨c, j⟩ := o (fun z u => hk z (by simp [u])) b.2 (l ++ Bq k) (by simp; omega)
    rw [qO, i, aA, c, bytesFL, nodesL]
    exact ⟨by simp, by simp; omega⟩
  have hlen : 0 ≤ (f.Kids.length : Int) ∧ (f.Kids.length : Int) < 128 := by omega
  by_cases c1 : f.Op = 1
  ·have r : mz f.kd = true := by rcases m with h | h | h; exact h.2.1; omega; omega
   have := py r
   simp only [c1, bN, aZ]
   rw [Kn r (by simp; omega), aA]
   exact ⟨by simp, by simp; omega⟩
  ·have i : (f.Op == 1) = false := by simpa using c1
   simp only [i, aB, aN, c1]
   by_cases g : f.Op = 4
   ·have hk : 0 ≤ f.K ∧ f.K < 128 := by rcases m with h | h | h <;> omega
    simp only [g, bN, aZ]
    rw [yP hk.1 hk.2 (by simp; omega)]
    simp only [aA]
    rw [yP hlen.1 hlen.2 (by simp; omega)]
    simp only [aA]
    obtain ⟨c, j⟩ := key f.Kids (fun k hk => hk) p (l ++ [4] ++ [f.K] ++ [(f.Kids.length : Int)]) (by simp; omega)
    rw [c]
    exact ⟨by simp, by simp; omega⟩
   ·have j : (f.Op == 4) = false := by simpa using g
    simp only [j, aB, aN, g, aA]
    rw [yP hlen.1 hlen.2 (by simp; omega)]
    simp only [aA]
    obtain ⟨c, w⟩ := key f.Kids (fun k hk => hk) p (l ++ [f.Op] ++ [(f.Kids.length : Int)]) (by simp; omega)
    rw [c]
    exact ⟨by simp, by simp; omega⟩
def FP (f : Formula) : List Int := if qu f then Bq f else []
abbrev Gd (f : Formula) : Prop := lf f ≤ 50000000
theorem Gg {f : Formula} (h : qu f = true) : lf f ≤ 64 ∧ sH f ≤ 6 ∧ xE f = true := by
 unfold qu at h
 simp only [bn, cH] at h
 exact ⟨h.1.1, h.1.2, h.2⟩
theorem Q0 (f : Formula) (c : Gd f) (l : List Int) (i : l.length ≤ 5000) : wS l f = some (qu f, l ++ FP f) ∧ (FP f).length ≤ 2560 := by
 unfold wS FP
 rw [BH f c, aA]
 cases h : qu f
 ·simp
 ·obtain ⟨h1, g, b⟩ := Gg h
  obtain ⟨a, d⟩ := Re kT f (by rw [nt]; omega) b l (by omega)
  simp only [bV, aB, aN, a, aA, aZ]
  exact ⟨trivial, by omega⟩
theorem Hv (f : Formula) (b : Gd f) : tE f = some (FP f) := by
 unfold tE
 obtain ⟨a, c⟩ := Q0 f b [] (by simp)
 rw [a, aA, oY]
 unfold uq
 simp only [bJ]
 rw [Rg (by omega)]
 rfl
def LH (f g : Formula) : Int := yK (FP f) (FP g)
theorem MO (f g : Formula) (a : Gd f) (b : Gd g) : tw f g = some (LH f g) := by
 unfold tw wX
 rw [Hv f a, Hv g b]
 rfl
theorem Dd (f g : Formula) : oH LH f g = Op.bytesLess (vL (FP f)) (vL (FP g)) := by
 rw [bR]
 have h : oH LH f g = true ↔ LH f g < 0 := by unfold oH; exact ji
 exact h.trans (CU _ _)
theorem TK : SWO (oH LH) where
 Td x := by rw [Dd, Ca]
 tr x y z h1 a := by rw [Dd] at *; exact Bi _ _ _ h1 a
 PF x y z h := by
  rw [Dd] at h
  rw [Dd, Dd]
  rcases Dz (vL (FP x)) (vL (FP y)) with h1 | h1 | h1
  ·exact .inl h1
  ·rw [h1] at h; exact .inr h
  ·exact .inr (Bi _ _ _ h1 h)
def Cv (l : List Formula) : List Formula := Kl (oH LH) l
theorem Jc (l : List Formula) (a : ∀ x ∈ l, Gd x) (b : l.length ≤ 300000) : vw l = some (Cv l) := by
 unfold vw sD
 rw [mT (by simp; omega) (by simp; omega)]
 simp only [aA, bJ, oY]
 exact L4 TK (fun x y c d => MO x y c d) l a b
theorem M2 {α : Type} (lt : α → α → Bool) (l : List α) (k : α) : (Gp lt l k).Perm (l ++ [k]) := by
 unfold Gp
 refine List.perm_middle.trans ((List.Perm.cons _ ?_).trans (fN k l).symm)
 have := List.filter_append_perm (fun x => !lt k x) l
 simpa using this
theorem M3 {α : Type} (lt : α → α → Bool) (l : List α) : (Kl lt l).Perm l := by
 suffices H : ∀ (l a : List α), (l.foldl (Gp lt) a).Perm (a ++ l) by have := H l []; rwa [bJ] at this
 intro l
 induction l with
 | nil => intro a; simp
 | cons k l ih =>
  intro a
  rw [jQ]
  refine (ih _).trans ?_
  have := (M2 lt a k).append_right l
  simpa using this
theorem EW (l : List Formula) : (Cv l).Perm l := M3 _ l
noncomputable def AK (a b : Formula) : Bool := @decide (a = b) (Classical.propDecidable _)
theorem Qm {a b : Formula} : AK a b = true ↔ a = b := by unfold AK; simp
theorem Qp (a b : Formula) (h : Gd a) : oC kT a b = some (AK a b) := by
 have := A8 a
 obtain ⟨x, e, c⟩ := Qi kT a (by rw [nt]; omega) b
 rw [e]; congr 1
 rw [bR, c, Qm]
def Tg : Formula := ⟨0, 0, ⟨zS, zS⟩, []⟩
theorem OW (f1 : Formula × Formula → Option Bool) (i : Int) : ∀ (n : Nat) (l : List Formula) (k j : Int), (∀ x ∈ l, ∀ y ∈ l, f1 (x, y) = some (AK x y)) → mX i f1 n l k j = yI AK i n l k j
 | 0, l, k, j, _ => by rw [mX, yI]
 | n + 1, l, k, j, h => by
  rw [mX, yI]
  split
  ·cases d : lN (l.drop (Int.toNat i)) j with
   | none => rfl
   | some x =>
    cases g : lN (l.drop (Int.toNat i)) (wi0 .i64 (j - 1)) with
    | none => rfl
    | some y =>
     have c : x ∈ l := List.mem_of_mem_drop (dy (kF d))
     have p : y ∈ l := List.mem_of_mem_drop (dy (kF g))
     simp only [aA, h x c y p]
     cases AK x y
     ·simp only [cV, aZ]
      cases q : lN l k with
      | none => rfl
      | some z =>
       simp only [aA]
       refine OW f1 i n _ _ _ (fun a ha b o => ?_)
       have m : ∀ a ∈ l.set (Int.toNat k) x, a ∈ l := fun a ha => by
        rcases List.mem_or_eq_of_mem_set ha with ha | rfl
        ·exact ha
        ·exact c
       exact h a (m a ha) b (m b o)
     ·simp only [bV, aB, aN, aA]
      exact OW f1 i n _ _ _ h
  ·rfl
theorem RY (f1 : Formula × Formula → Option Bool) (l : List Formula) (h : ∀ x ∈ l, ∀ y ∈ l, f1 (x, y) = some (AK x y)) : ∀ (n : Nat) (i : Int), mV l f1 n i = yV AK Tg l n i
 | 0, i => by rw [mV, yV]
 | n + 1, i => by
  rw [mV, yV]
  split
  ·cases a : lN l i with
   | none => rfl
   | some x =>
    cases b : lN l (wi0 .i64 (i - 1)) with
    | none => rfl
    | some y =>
     have c : x ∈ l := dy (kF a)
     have d : y ∈ l := dy (kF b)
     simp only [aA, h x c y d]
     rw [OW f1 i kT l i 1 h, RY f1 l h n]
     rfl
  ·rfl
theorem Mu (l : List Formula) (h : ∀ x ∈ l, Gd x) (b : l.length ≤ 300000) : pQ l (fun x => oC kT x.1 x.2) = some (dd AK l) := by
 rw [← DS AK Tg l (by omega)]
 unfold pQ DD
 rw [RY _ l (fun x a y _ => Qp x y (h x a))]
end Go.Proofs.YtklbhegeiijbjaaGreat
