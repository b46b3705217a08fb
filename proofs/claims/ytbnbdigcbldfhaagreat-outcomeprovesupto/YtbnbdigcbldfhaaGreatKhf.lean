/- a part of a proof of OutcomeProves -/
import Derived.Test.YtbnbdigcbldfhaaGreatRtSf
import Derived.Test.YtbnbdigcbldfhaaGreatO9Mf
set_option linter.all false
namespace Go.Proofs.YtbnbdigcbldfhaaGreat
open Go.IntKind renaming wrap → wi0
open Go.RowKit
theorem Bs {c x : Bool} : (if c = true then some x else some false : Option Bool) = some (c && x) := by cases c <;> rfl
theorem UR {c x : Bool} : (if c = true then some true else some x : Option Bool) = some (c || x) := by cases c <;> rfl
theorem ud {α : Type} (x : Option α) : (x.bind fun y => some y) = x := by cases x <;> rfl
theorem lC {x : Int} (a : -9223372036854775808 ≤ x) (h1 : x ≤ 9223372036854775807) : wi0 .i64 x = x := IntWalk.i64_in _ (by omega)
theorem sT {α : Type} (A : List α) (x : α) (B : List α) (i : Int) (h : i = (A.length : Int)) : mC (A ++ x :: B) i = some x := by
 subst h; rw [Kt]; simp
theorem tN : lE = 18446744073709551615 + 1 := by rw [pe]
def Ga {α : Type} (f1 : α → Option Bool) (z : α) : Nat → List α → Int → Int → Option (List α)
 | 0, _, _, _ => none
 | n + 1, l, i, j => if decide (j < (l.length : Int)) then
   ((mC l j).bind fun x => (f1 x).bind fun r => if (!r) then (mC l i).bind fun _ => some (l.set (Int.toNat i) x, wi0 .i64 (i + 1)) else some (l, i) : Option (List α × Int)).bind fun (c, a) => Ga f1 z n c a (wi0 .i64 (j + 1))
  else (nM (decide (0 ≤ i) && decide (i ≤ (l.length : Int)))).bind fun _ => (nM (decide (0 ≤ i) && decide (i ≤ ((oI l (Int.toNat i) z).length : Int)))).bind fun _ => some ((oI l (Int.toNat i) z).take (Int.toNat i))
theorem wJ {a b : Int} (c : 0 ≤ a) (h1 : a ≤ b) : nM (decide (0 ≤ a) && decide (a ≤ b)) = some () := by simp [nM, c, h1]
theorem N1 {α : Type} (f1 : α → Option Bool) (p : α → Bool) (z : α) : ∀ (rest out mid : List α) (n : Nat), rest.length < n → (out ++ mid ++ rest).length < 4611686018427387904 → mid ≠ [] → (∀ x ∈ rest, f1 x = some (p x)) →
  Ga f1 z n (out ++ mid ++ rest) (out.length : Int) ((out.length + mid.length : Nat) : Int) = some (out ++ rest.filter fun x => !p x)
 | [], out, mid, 0, h, _, _, _ => by simp at h
 | [], out, mid, n + 1, _, c, hm, _ => by
  rw [Ga, aJ (by simp)]
  have h1 : out.length ≤ (out ++ mid ++ []).length := by simp
  rw [wJ (by omega) (by omega)]
  simp only [aA]
  rw [wJ (by omega) (by rw [wD _ _ _ (by simpa using h1)]; omega)]
  simp only [aA, eu]
  rw [IM _ _ _ h1]
  simp
 | x :: rest, out, mid, 0, h, _, _, _ => by simp at h
 | x :: rest, out, mid, n + 1, h, c, hm, d => by
  have hlen : (out ++ mid ++ x :: rest).length = out.length + mid.length + rest.length + 1 := by simp; omega
  rw [hlen] at c
  rw [Ga, aK (by rw [hlen]; simp; omega)]
  rw [sT (out ++ mid) x rest _ (by simp)]
  simp only [aA, d x (by simp)]
  rw [lC (x := ((out.length + mid.length : Nat) : Int) + 1) (by omega) (by omega)]
  have ih := N1 f1 p z rest
  cases hp : p x with
  | true =>
   simp only [bW, aB, aS, aA]
   have := ih out (mid ++ [x]) n (by simp at h; omega) (by simp; omega) (by simp) (fun y g => d y (by simp [g]))
   simp only [aV, cF, bV, aI, aH, bX] at this ⊢
   rw [show ((out.length + mid.length : Nat) : Int) + 1 = ((out.length + (mid.length + (0 + 1)) : Nat) : Int) by omega, this]
   simp [hp]
  | false =>
   obtain ⟨m, a, rfl⟩ : ∃ m a, mid = m :: a := by cases mid with
    | nil => exact absurd rfl hm
    | cons m a => exact ⟨m, a, rfl⟩
   simp only [cT, bA]
   rw [aV out (m :: a) (x :: rest), cF]
   rw [sT out m (a ++ x :: rest) _ rfl]
   simp only [aA]
   rw [lC (x := (out.length : Int) + 1) (by omega) (by simp at c; omega)]
   have := ih (out ++ [x]) (a ++ [x]) n (by simp at h; omega) (by simp at c ⊢; omega) (by simp) (fun y g => d y (by simp [g]))
   simp only [aV, cF, bV, aI, aH, bX] at this
   have i : (out ++ m :: (a ++ x :: rest)).set (Int.toNat (out.length : Int)) x = out ++ x :: (a ++ x :: rest) := by
    rw [eu, List.set_append_right _ _ (bD _)]; simp
   rw [i]
   simp only [aH] at c ⊢
   rw [show (out.length : Int) + 1 = ((out.length + (0 + 1) : Nat) : Int) by omega, show ((out.length + (a.length + 1) : Nat) : Int) + 1 = ((out.length + (0 + 1) + (a.length + (0 + 1)) : Nat) : Int) by omega, this]
   simp [hp]
def yt {α : Type} (f1 : α → Option Bool) : List α → Nat → Option Int
 | [], _ => some (-1)
 | x :: xs, i => (f1 x).bind fun r => if r then some (i : Int) else yt f1 xs (i + 1)
theorem DE {α : Type} (f1 : α → Option Bool) (p : α → Bool) : ∀ (l : List α) (i : Nat), (∀ x ∈ l, f1 x = some (p x)) →
  (yt f1 l i = some (-1) ∧ ∀ x ∈ l, p x = false) ∨ ∃ A x B, l = A ++ x :: B ∧ (∀ y ∈ A, p y = false) ∧ p x = true ∧ yt f1 l i = some ((i + A.length : Nat) : Int)
 | [], i, _ => .inl ⟨rfl, by simp⟩
 | x :: l, i, h => by
  rw [yt, h x (by simp)]
  simp only [aA]
  cases hp : p x with
  | true => exact .inr ⟨[], x, l, rfl, by simp, hp, by simp⟩
  | false =>
   simp only [aB, aS]
   rcases DE f1 p l (i + 1) (fun y a => h y (by simp [a])) with ⟨h1, c⟩ | ⟨A, y, B, rfl, h1, c, g⟩
   ·exact .inl ⟨h1, by intro y a; rcases aQ.1 a with rfl | a; exact hp; exact c y a⟩
   ·refine .inr ⟨x :: A, y, B, rfl, ?_, c, ?_⟩
    ·intro z d; rcases aQ.1 d with rfl | d
     ·exact hp
     ·exact h1 z d
    ·rw [g]; simp; omega
def KC {α : Type} (f1 : α → Option Bool) (z : α) (l : List α) : Option (List α) :=
 (yt f1 l 0).bind fun a => if (a == (-1)) then some l else Ga f1 z lE l a (wi0 .i64 (a + 1))
theorem NB {α : Type} (f1 : α → Option Bool) (p : α → Bool) (z : α) (l : List α) (d : l.length < 4611686018427387904) (h : ∀ x ∈ l, f1 x = some (p x)) : KC f1 z l = some (l.filter fun x => !p x) := by
 unfold KC
 rcases DE f1 p l 0 h with ⟨h1, c⟩ | ⟨A, x, B, rfl, h1, c, g⟩
 ·rw [h1]
  simp only [aA, bY, bA]
  rw [iT.2 (fun y a => by simp [c y a])]
 ·rw [g]
  simp only [aA, dg]
  rw [aJ (by simp), lC (by omega) (by simp at d; omega)]
  have := N1 f1 p z B A [x] lE (by rw [pe]; simp at d; omega) (by simpa using d) (by simp) (fun y a => h y (by simp [a]))
  simp only [aV, cF, bV, aH, bX] at this
  rw [show (A.length : Int) + 1 = ((A.length + (0 + 1) : Nat) : Int) by omega, this]
  have i : A.filter (fun x => !p x) = A := iT.2 (fun y a => by simp [h1 y a])
  rw [List.filter_append, i]
  simp [c]
def rR {α : Type} (eq : α → α → Bool) : α → List α → List α
 | _, [] => []
 | p, y :: ys => if eq y p then rR eq y ys else y :: rR eq y ys
def dd {α : Type} (eq : α → α → Bool) : List α → List α
 | [] => []
 | x :: xs => x :: rR eq x xs
def CC {α : Type} (eq : α → α → Bool) (i : Int) : Nat → List α → Int → Int → Option (List α × Int)
 | 0, _, _, _ => none
 | n + 1, l, k, j => if decide (j < ((l.length - Int.toNat i : Nat) : Int)) then
   ((mC (l.drop (Int.toNat i)) j).bind fun x => (mC (l.drop (Int.toNat i)) (wi0 .i64 (j - 1))).bind fun y => if !(eq x y) then (mC (l.drop (Int.toNat i)) j).bind fun z => (mC l k).bind fun _ => some (l.set (Int.toNat k) z, wi0 .i64 (k + 1)) else some (l, k) : Option (List α × Int)).bind fun (a, k') => CC eq i n a k' (wi0 .i64 (j + 1))
  else some (l, k)
def Du {α : Type} (eq : α → α → Bool) (z : α) (l : List α) : Nat → Int → Option (List α)
 | 0, _ => none
 | n + 1, i => if decide (i < (l.length : Int)) then (mC l i).bind fun x => (mC l (wi0 .i64 (i - 1))).bind fun y => if eq x y then
    (nM (decide (0 ≤ i) && decide (i ≤ (l.length : Int)))).bind fun _ => (CC eq i lE l i 1).bind fun (a, k) => (nM (decide (0 ≤ k) && decide (k ≤ (a.length : Int)))).bind fun _ => (nM (decide (0 ≤ k) && decide (k ≤ ((oI a (Int.toNat k) z).length : Int)))).bind fun _ => some ((oI a (Int.toNat k) z).take (Int.toNat k))
   else Du eq z l n (wi0 .i64 (i + 1))
  else some l
def Ht {α : Type} (eq : α → α → Bool) (z : α) (l : List α) : Option (List α) := if decide ((l.length : Int) < 2) then some l else Du eq z l lE 1
theorem MV {α : Type} (l : List α) (i : Nat) (j : Int) (a : 0 ≤ j) : mC (l.drop i) j = mC l ((i : Int) + j) := by
 obtain ⟨m, rfl⟩ : ∃ m : Nat, j = m := ⟨j.toNat, by omega⟩
 rw [show (i : Int) + (m : Int) = ((i + m : Nat) : Int) by omega, Kt, Kt, dz]
theorem Jn {α : Type} (eq : α → α → Bool) (i : Nat) : ∀ (rest out mid : List α) (p : α) (n : Nat), rest.length < n → (out ++ (mid ++ [p]) ++ rest).length < 4611686018427387904 → 1 ≤ i → i ≤ out.length →
  ∃ c, CC eq (i : Int) n (out ++ (mid ++ [p]) ++ rest) (out.length : Int) ((out.length + mid.length + 1 - i : Nat) : Int) = some (c, ((out ++ rR eq p rest).length : Int)) ∧ c.take (out ++ rR eq p rest).length = out ++ rR eq p rest ∧ (out ++ rR eq p rest).length ≤ c.length
 | [], out, mid, p, 0, h, _, _, _ => by simp at h
 | [], out, mid, p, n + 1, h, o, h1, k => by
  rw [CC, aJ (by simp; omega)]
  exact ⟨out ++ (mid ++ [p]) ++ [], by simp [rR], by simp [rR], by simp [rR]⟩
 | x :: rest, out, mid, p, 0, h, _, _, _ => by simp at h
 | x :: rest, out, mid, p, n + 1, h, o, h1, k => by
  have hlen : (out ++ (mid ++ [p]) ++ x :: rest).length = out.length + mid.length + rest.length + 2 := by simp; omega
  rw [hlen] at o
  rw [CC, aK (by rw [hlen]; simp; omega)]
  rw [eu, MV _ _ _ (by omega), sT (out ++ (mid ++ [p])) x rest _ (by simp; omega)]
  simp only [aA]
  rw [lC (x := ((out.length + mid.length + 1 - i : Nat) : Int) - 1) (by omega) (by omega), MV _ _ _ (by omega)]
  rw [show out ++ (mid ++ [p]) ++ x :: rest = (out ++ mid) ++ p :: (x :: rest) by simp]
  rw [sT (out ++ mid) p (x :: rest) _ (by simp; omega)]
  simp only [aA]
  rw [lC (x := ((out.length + mid.length + 1 - i : Nat) : Int) + 1) (by omega) (by omega)]
  cases hp : eq x p with
  | true =>
   simp only [bW, aB, aS, aA]
   obtain ⟨c, d, g, j⟩ := Jn eq i rest out (mid ++ [p]) x n (by simp at h; omega) (by simp; omega) h1 k
   refine ⟨c, ?_, by rw [rR, hp]; exact g, by rw [rR, hp]; exact j⟩
   rw [rR, hp, aK rfl, ← d]
   congr 1
   ·simp
   ·simp; omega
  | false =>
   simp only [cT, bA]
   obtain ⟨m, a, hm⟩ : ∃ m a, mid ++ [p] = m :: a := by cases mid with
    | nil => exact ⟨p, [], rfl⟩
    | cons m a => exact ⟨m, a ++ [p], rfl⟩
   have s : a.length = mid.length := by have := aU List.length hm; simp at this; omega
   rw [show (out ++ mid) ++ p :: (x :: rest) = out ++ m :: (a ++ x :: rest) by rw [← cF, ← hm]; simp]
   rw [sT out m (a ++ x :: rest) _ rfl]
   simp only [aA]
   rw [lC (x := (out.length : Int) + 1) (by omega) (by omega)]
   have t : (out ++ m :: (a ++ x :: rest)).set (Int.toNat (out.length : Int)) x = (out ++ [x]) ++ (a ++ [x]) ++ rest := by
    rw [eu, List.set_append_right _ _ (bD _)]; simp
   rw [t]
   obtain ⟨c, d, g, j⟩ := Jn eq i rest (out ++ [x]) a x n (by simp at h; omega) (by simp; omega) h1 (by simp; omega)
   refine ⟨c, ?_, ?_, ?_⟩
   ·rw [rR, hp, aJ (by decide)]
    have q : ((out ++ x :: rR eq x rest).length : Int) = ((out ++ [x] ++ rR eq x rest).length : Int) := by simp
    rw [q, ← d]
    congr 1
    ·simp
    ·simp; omega
   ·rw [rR, hp, aJ (by decide)]; simpa using g
   ·rw [rR, hp, aJ (by decide)]; simpa using j
theorem Ou {α : Type} (eq : α → α → Bool) (z : α) : ∀ (rest pre : List α) (p : α) (n : Nat), rest.length < n → (pre ++ p :: rest).length < 4611686018427387904 →
  Du eq z (pre ++ p :: rest) n ((pre.length + 1 : Nat) : Int) = some (pre ++ p :: rR eq p rest)
 | [], pre, p, 0, h, _ => by simp at h
 | [], pre, p, n + 1, h, i => by rw [Du, aJ (by simp)]; simp [rR]
 | x :: rest, pre, p, 0, h, _ => by simp at h
 | x :: rest, pre, p, n + 1, h, i => by
  have hlen : (pre ++ p :: x :: rest).length = pre.length + rest.length + 2 := by simp; omega
  rw [hlen] at i
  rw [Du, aK (by rw [hlen]; simp; omega)]
  rw [show pre ++ p :: x :: rest = (pre ++ [p]) ++ x :: rest by simp, sT (pre ++ [p]) x rest _ (by simp)]
  simp only [aA]
  rw [lC (x := ((pre.length + 1 : Nat) : Int) - 1) (by omega) (by omega)]
  rw [show (pre ++ [p]) ++ x :: rest = pre ++ p :: (x :: rest) by simp, sT pre p (x :: rest) _ (by omega)]
  simp only [aA]
  cases hp : eq x p with
  | true =>
   simp only [bA]
   rw [wJ (by omega) (by rw [hlen]; omega)]
   simp only [aA]
   obtain ⟨j, a, g, d⟩ := Jn eq (pre.length + 1) rest (pre ++ [p]) [] x lE (by rw [pe]; omega) (by simp; omega) (by omega) (by simp)
   simp only [aV, cF, bV, aI, aH, bX] at a g d
   rw [show (pre.length + (0 + 1) + 0 + 1 - (pre.length + 1) : Nat) = 1 by omega] at a
   rw [show ((pre.length + 1 : Nat) : Int) = ((pre.length + (0 + 1) : Nat) : Int) by omega] at *
   have c : CC eq ((pre.length + (0 + 1) : Nat) : Int) lE (pre ++ p :: x :: rest) ((pre.length + (0 + 1) : Nat) : Int) 1 = _ := a
   rw [c]
   simp only [aA]
   rw [wJ (by omega) (by omega)]
   simp only [aA, eu]
   rw [wJ (by omega) (by rw [wD _ _ _ d]; omega)]
   simp only [aA]
   rw [IM _ _ _ d, g, rR, hp]
   simp
  | false =>
   simp only [aB, aS]
   rw [lC (x := ((pre.length + 1 : Nat) : Int) + 1) (by omega) (by omega)]
   have := Ou eq z rest (pre ++ [p]) x n (by simp at h; omega) (by simp; omega)
   simp only [aV, cF, bV, aI, aH, bX] at this
   rw [show ((pre.length + 1 : Nat) : Int) + 1 = ((pre.length + (0 + 1) + 1 : Nat) : Int) by omega, this, rR, hp]
   simp
theorem Jl {α : Type} (eq : α → α → Bool) (z : α) (l : List α) (a : l.length < 4611686018427387904) : Ht eq z l = some (dd eq l) := by
 unfold Ht
 cases l with
 | nil => rfl
 | cons x xs =>
  cases xs with
  | nil => simp [dd, rR]
  | cons y ys =>
   rw [aJ (by simp; omega)]
   have := Ou eq z (y :: ys) [] x lE (by rw [pe]; simp at a ⊢; omega) (by simpa using a)
   simpa [dd] using this
structure BN {α : Type} (lt : α → α → Prop) (P : α → Prop) : Prop where
 irrefl : ∀ x, P x → ¬ lt x x
 trans : ∀ x y z, P x → P y → P z → lt x y → lt y z → lt x z
 total : ∀ x y, P x → P y → lt x y ∨ x = y ∨ lt y x
def qJ {α : Type} (lt : α → α → Prop) (P : α → Prop) (l out : List α) : Prop := out.Pairwise lt ∧ ∀ x, x ∈ out ↔ x ∈ l ∧ P x
theorem qJ.unique {α : Type} {lt : α → α → Prop} {P : α → Prop} (H : BN lt P) : ∀ {l a b : List α}, qJ lt P l a → qJ lt P l b → a = b := by
 have key : ∀ a b : List α, (∀ x ∈ a, P x) → a.Pairwise lt → b.Pairwise lt → (∀ x, x ∈ a ↔ x ∈ b) → a = b := by
  intro a
  induction a with
  | nil => intro b _ _ _ hm; cases b with
   | nil => rfl
   | cons y ys => exact absurd ((hm y).2 (by simp)) (by simp)
  | cons x xs ih =>
   intro b m ha j hm
   cases b with
   | nil => exact absurd ((hm x).1 (by simp)) (by simp)
   | cons y ys =>
    have n : P y := m y ((hm y).2 (by simp))
    have c : P x := m x (by simp)
    have d := dX.1 ha
    have g := dX.1 j
    have o : x = y := by
     rcases aQ.1 ((hm x).1 (by simp)) with h | h
     ·exact h
     ·rcases aQ.1 ((hm y).2 (by simp)) with k | k
      ·exact k.symm
      ·exact absurd (H.trans x y x c n c (d.1 y k) (g.1 x h)) (H.irrefl x c)
    subst o
    congr 1
    refine ih ys (fun z i => m z (by simp [i])) d.2 g.2 (fun z => ?_)
    constructor
    ·intro i
     rcases aQ.1 ((hm z).1 (by simp [i])) with h | h
     ·subst h; exact absurd (d.1 z i) (H.irrefl z c)
     ·exact h
    ·intro i
     rcases aQ.1 ((hm z).2 (by simp [i])) with h | h
     ·subst h; exact absurd (g.1 z i) (H.irrefl z c)
     ·exact h
 intro l a b ha j
 exact key a b (fun x q => ((ha.2 x).1 q).2) ha.1 j.1 (fun x => (ha.2 x).trans (j.2 x).symm)
theorem F2 {α : Type} {eq : α → α → Bool} (he : ∀ x y, eq x y = true ↔ x = y) : ∀ (l : List α) (p x : α), x ∈ p :: rR eq p l ↔ x ∈ p :: l
 | [], p, x => by simp [rR]
 | y :: l, p, x => by
  rw [rR]
  split
  ·rename_i h
   have := (he y p).1 h
   subst this
   rw [F2 he l y x]; simp
  ·have := F2 he l y x
   simp only [aQ] at this ⊢
   rw [this]
theorem WW {α : Type} {eq : α → α → Bool} (he : ∀ x y, eq x y = true ↔ x = y) (l : List α) (x : α) : x ∈ dd eq l ↔ x ∈ l := by
 cases l with
 | nil => simp [dd]
 | cons y l => exact F2 he l y x
theorem EN {α : Type} {eq : α → α → Bool} {lt : α → α → Prop} {P : α → Prop} (he : ∀ x y, eq x y = true ↔ x = y) (H : BN lt P) : ∀ (l : List α) (p : α), (∀ x ∈ p :: l, P x) → (p :: l).Pairwise (fun a b => ¬ lt b a) → (p :: rR eq p l).Pairwise lt
 | [], p, _, _ => by simp [rR]
 | y :: l, p, c, n => by
  have h1 := dX.1 n
  rw [rR]
  split
  ·rename_i h
   have := (he y p).1 h
   subst this
   exact EN he H l y (fun x i => c x (dJ _ i)) h1.2
  ·rename_i h
   have ih := EN he H l y (fun x i => c x (dJ _ i)) h1.2
   refine dX.2 ⟨fun z m => ?_, ih⟩
   have g : lt p y := by
    rcases H.total p y (c p (by simp)) (c y (by simp)) with d | d | d
    ·exact d
    ·exact absurd ((he y p).2 d.symm) h
    ·exact absurd d (h1.1 y (by simp))
   rcases aQ.1 m with rfl | j
   ·exact g
   ·have k : z ∈ y :: l := (F2 he l y z).1 m
    exact H.trans p y z (c p (by simp)) (c y (by simp)) (c z (dJ _ k)) g ((dX.1 ih).1 z j)
theorem RG {α : Type} {eq : α → α → Bool} {lt : α → α → Prop} {P : α → Prop} (he : ∀ x y, eq x y = true ↔ x = y) (H : BN lt P) (l : List α) (c : ∀ x ∈ l, P x) (d : l.Pairwise (fun a b => ¬ lt b a)) : (dd eq l).Pairwise lt := by
 cases l with
 | nil => simp [dd]
 | cons y l => exact EN he H l y c d
theorem LZ {α : Type} {le : α → α → Bool} {P : α → Prop} (i : ∀ a b c, P a → P b → P c → le a b = true → le b c = true → le a c = true) (h : ∀ a b, P a → P b → (le a b || le b a) = true) (l : List α) (d : ∀ x ∈ l, P x) :
  (l.mergeSort le).Pairwise (fun a b => le a b = true) := by
 have e : l = (l.attachWith P d).map Subtype.val := by simp
 have hm : ((l.attachWith P d).mergeSort fun a b => le a.1 b.1).map Subtype.val = l.mergeSort le := by
  conv => rhs; rw [e]
  exact gh (fun a _ b _ => rfl)
 rw [← hm, fG]
 exact gx (le := fun (a b : {x // P x}) => le a.1 b.1) (fun a b c h1 g => i a.1 b.1 c.1 a.2 b.2 c.2 h1 g) (fun a b => h a.1 b.1 a.2 b.2) _
theorem Ai {α : Type} {eq : α → α → Bool} {lt : α → α → Prop} {P : α → Prop} {cf : α × α → Option Int} {l : List α} (he : ∀ x y, eq x y = true ↔ x = y) (H : BN lt P) (g : ∀ x ∈ l, P x) (D : l.length < 4611686018427387904) (A : ∀ x y, P x → P y → ∃ c, cf (x, y) = some c ∧ (c < 0 ↔ lt x y)) : ∃ s, yF cf l = some s ∧ s.length = l.length ∧ qJ lt P l (dd eq s) := by
 have j : ∀ x y, P x → P y → (uy cf x y = true ↔ lt x y) := fun x y i n => by
  obtain ⟨c, h1, m⟩ := A x y i n
  unfold uy
  rw [h1]
  simpa using m
 have d : ∀ x y, P x → P y → (uy cf x y = false ↔ ¬ lt x y) := fun x y i n => by
  rw [← j x y i n]; simp
 have ok : Ho cf l := by
  refine ⟨fun x i y n => ?_, fun x i => ?_, fun x i y n z v h1 m => ?_, fun x i y n h1 m => ?_, D⟩
  ·obtain ⟨c, h1, _⟩ := A x y (g x i) (g y n); exact ⟨c, h1⟩
  ·exact (d x x (g x i) (g x i)).2 (H.irrefl x (g x i))
  ·rw [j _ _ (g x i) (g y n)] at h1
   rw [j _ _ (g y n) (g z v)] at m
   rw [j _ _ (g x i) (g z v)]
   exact H.trans x y z (g x i) (g y n) (g z v) h1 m
  ·rw [d _ _ (g x i) (g y n)] at h1
   rw [d _ _ (g y n) (g x i)] at m
   rcases H.total x y (g x i) (g y n) with h | h | h
   ·exact absurd h h1
   ·exact h
   ·exact absurd h m
 refine ⟨_, OD ok, by simp [pS], ?_, ?_⟩
 ·have k : ∀ x, x ∈ pS cf l ↔ x ∈ l := fun x => by simp [pS]
  refine RG he H _ (fun x i => g x ((k x).1 i)) ?_
  have := LZ (le := fun x y => !uy cf y x) (P := P) (fun a b c ha o q h1 m => ?_) (fun a b ha o => ?_) l g
  ·refine (this.imp_of_mem ?_ : _)
   intro a b ha o h
   have t : a ∈ l := (k a).1 ha
   have u : b ∈ l := (k b).1 o
   simp at h
   exact (d b a (g b u) (g a t)).1 h
  ·simp at h1 m ⊢
   rw [d _ _ o ha] at h1
   rw [d _ _ q o] at m
   rw [d _ _ q ha]
   intro w
   rcases H.total a b ha o with h | h | h
   ·exact m (H.trans c a b q ha o w h)
   ·subst h; exact m w
   ·exact h1 h
  ·simp only [dU, jG]
   rw [d _ _ o ha, d _ _ ha o]
   by_cases h : lt b a
   ·right; intro m; exact H.irrefl a ha (H.trans a b a ha o ha m h)
   ·exact .inl h
 ·intro x
  rw [WW he]
  constructor
  ·intro i
   have : x ∈ l := by simpa [pS] using i
   exact ⟨this, g x this⟩
  ·intro i; simpa [pS] using i.1
theorem HH : ∀ a : List UInt8, Op.bytesLess a a = false
 | [] => rfl
 | x :: a => by simp [Op.bytesLess, HH a]
theorem Oo (x y : UInt8) : x < y ∨ x = y ∨ y < x := by
 rcases fH x.toNat y.toNat with h | h | h
 ·exact .inl h
 ·exact .inr (.inl (UInt8.toNat_inj.1 h))
 ·exact .inr (.inr h)
theorem IU : ∀ a b c : List UInt8, Op.bytesLess a b = true → Op.bytesLess b c = true → Op.bytesLess a c = true
 | [], [], c, h1, _ => by simp [Op.bytesLess] at h1
 | _ :: _, [], c, h1, _ => by simp [Op.bytesLess] at h1
 | a, _ :: _, [], _, d => by simp [Op.bytesLess] at d
 | [], b :: g, c :: cs, _, _ => rfl
 | a :: ax, b :: g, c :: cs, h1, d => by
  simp only [Op.bytesLess, dU, bK, aP, gf] at h1 d ⊢
  rcases h1 with h1 | ⟨rfl, h1⟩
  ·rcases d with d | ⟨rfl, d⟩
   ·exact .inl (UInt8.lt_trans h1 d)
   ·exact .inl h1
  ·rcases d with d | ⟨rfl, d⟩
   ·exact .inl d
   ·exact .inr ⟨rfl, IU ax g cs h1 d⟩
theorem IW : ∀ a b : List UInt8, Op.bytesLess a b = true ∨ a = b ∨ Op.bytesLess b a = true
 | [], [] => .inr (.inl rfl)
 | [], _ :: _ => .inl rfl
 | _ :: _, [] => .inr (.inr rfl)
 | a :: ax, b :: c => by
  simp only [Op.bytesLess, dU, bK, aP, gf, bG]
  rcases Oo a b with h | h | h
  ·exact .inl (.inl h)
  ·subst h
   rcases IW ax c with h | h | h
   ·exact .inl (.inr ⟨rfl, h⟩)
   ·exact .inr (.inl ⟨rfl, h⟩)
   ·exact .inr (.inr (.inr ⟨rfl, h⟩))
  ·exact .inr (.inr (.inl h))
theorem Ig : ∀ a b : List UInt8, (Lib.compareBytes a b < 0 ↔ Op.bytesLess a b = true)
 | [], [] => by simp [Lib.compareBytes, Op.bytesLess]
 | [], _ :: _ => by simp [Lib.compareBytes, Op.bytesLess]
 | _ :: _, [] => by simp [Lib.compareBytes, Op.bytesLess]
 | a :: ax, b :: g => by
  simp only [Lib.compareBytes, Op.bytesLess, dU, bK, aP, gf]
  by_cases h : a < b
  ·simp [h]
  ·by_cases d : b < a
   ·have : a ≠ b := by rintro rfl; exact h d
    simp [h, d, this]
   ·have : a = b := by rcases Oo a b with c | c | c; exact absurd c h; exact c; exact absurd c d
    subst this
    simp [h, Ig ax g]
theorem Gm : ∀ a b : List UInt8, (Lib.compareBytes a b = 0 ↔ a = b)
 | [], [] => by simp [Lib.compareBytes]
 | [], _ :: _ => by simp [Lib.compareBytes]
 | _ :: _, [] => by simp [Lib.compareBytes]
 | a :: ax, b :: g => by
  simp only [Lib.compareBytes, bG]
  by_cases h : a < b
  ·simp only [h, bA]
   constructor
   ·intro h; cases h
   ·rintro ⟨rfl, _⟩; exact absurd h (by simp)
  ·by_cases d : b < a
   ·simp only [h, d, bA, aS]
    constructor
    ·intro h; cases h
    ·rintro ⟨rfl, _⟩; exact absurd d (by simp)
   ·have : a = b := by rcases Oo a b with c | c | c; exact absurd c h; exact c; exact absurd c d
    subst this
    simp [h, Gm ax g]
theorem BC (a b : ByteArray) : qz a b = Op.bytesLess a.data.toList b.data.toList := by unfold qz; rw [fc, fc]
theorem B3 {a b : ByteArray} (h : a.data.toList = b.data.toList) : a = b := jK (Array.toList_inj.1 h)
theorem vr (a : ByteArray) : qz a a = false := by rw [BC, HH]
theorem Cf {a b c : ByteArray} (h1 : qz a b = true) (d : qz b c = true) : qz a c = true := by rw [BC] at *; exact IU _ _ _ h1 d
theorem B5 (a b : ByteArray) : qz a b = true ∨ a = b ∨ qz b a = true := by
 rw [BC, BC]
 rcases IW a.data.toList b.data.toList with h | h | h
 ·exact .inl h
 ·exact .inr (.inl (B3 h))
 ·exact .inr (.inr h)
theorem Ly {a b : ByteArray} (h : qz a b = true) : qz b a = false := by
 cases c : qz b a with
 | false => rfl
 | true => have := Cf h c; rw [vr] at this; cases this
theorem Ij (P : ByteArray → Prop) : BN (fun a b => qz a b = true) P :=
 ⟨fun x _ h => (by rw [vr] at h; cases h), fun x y z _ _ _ => Cf, fun x y _ _ => B5 x y⟩
def DM (b : UInt8) : Bool := decide (97 ≤ b.toNat) && decide (b.toNat ≤ 122)
def FG (b : UInt8) : Bool := DM b || (decide (48 ≤ b.toNat) && decide (b.toNat ≤ 57)) || decide (b.toNat = 45)
def nf (s : ByteArray) : Bool := decide (1 ≤ s.size) && decide (s.size ≤ 16) && (match s.data.toList with | [] => false | b :: _ => DM b) && s.data.toList.all FG
theorem nD {s : ByteArray} (h : nf s = true) : 1 ≤ s.size ∧ s.size ≤ 16 := by
 simp only [nf, aP, bK] at h
 exact h.1.1
theorem QB : ∀ n : Nat, n < 256 → decide (zJ (⟨#[97, 98, 99, 100, 101, 102, 103, 104, 105, 106, 107, 108, 109, 110, 111, 112, 113, 114, 115, 116, 117, 118, 119, 120, 121, 122]⟩ : ByteArray) (n : Int) ≥ 0) = DM (UInt8.ofNat n) := by decide +kernel
theorem Un : ∀ n : Nat, n < 256 → decide (zJ (⟨#[97, 98, 99, 100, 101, 102, 103, 104, 105, 106, 107, 108, 109, 110, 111, 112, 113, 114, 115, 116, 117, 118, 119, 120, 121, 122, 48, 49, 50, 51, 52, 53, 54, 55, 56, 57, 45]⟩ : ByteArray) (n : Int) < 0) = !FG (UInt8.ofNat n) := by decide +kernel
theorem ze (s : ByteArray) : s.size = s.data.toList.length := by rw [cR]; rfl
theorem EQ {s : ByteArray} (h : s.size ≤ 16) : FK s = some (vg s) := by
 unfold FK; rw [aK (by unfold maxLen; omega)]
theorem NC : ∀ l : List UInt8, xB (l.map fun b => (b.toNat : Int)) = some (l.all FG)
 | [] => rfl
 | b :: l => by
  rw [bE, xB]
  simp only [tm, py, aA]
  have a := Un b.toNat (jt b)
  rw [a]
  simp only [jH, fB]
  cases FG b with
  | true => simp [NC l]
  | false => simp
theorem Lw {s : ByteArray} {b : UInt8} {l : List UInt8} (h : s.data.toList = b :: l) : CB s 0 = some b := by
 unfold CB
 rw [aK (Int.le_refl 0)]
 have a : s.data[0]? = some b := by rw [← df, h]; rfl
 show s[0]? = some b
 rw [← a]
 rfl
theorem sQ (s : ByteArray) : qm s = some (nf s) := by
 unfold qm
 simp only [Bs, aA, ud]
 by_cases h1 : 1 ≤ s.size
 ·by_cases a : s.size ≤ 16
  ·rw [aK (by simp; omega)]
   obtain ⟨b, l, c⟩ : ∃ b l, s.data.toList = b :: l := by
    cases h : s.data.toList with
    | nil => rw [ze, h] at h1; simp at h1
    | cons b l => exact ⟨b, l, rfl⟩
   rw [Lw c]
   simp only [aA, tm, py]
   rw [QB b.toNat (jt b)]
   simp only [jH, nf, h1, a, c, eE, ed]
   cases DM b with
   | false => simp
   | true =>
    simp only [bA, EJ, EQ a, aA, vg]
    rw [NC, c]
    simp
  ·rw [aJ (by simp; omega)]
   simp [nf, a]
 ·rw [aJ (by simp; omega)]
  simp [nf, h1]
theorem Va {s : ByteArray} {A B : List UInt8} {b : UInt8} (h : s.data.toList = A ++ b :: B) (i : Int) (c : i = (A.length : Int)) : CB s i = some b := by
 subst c
 unfold CB
 rw [aK (by omega), eu]
 have a : s.data[A.length]? = some b := by rw [← df, h]; simp
 show s[A.length]? = some b
 rw [← a]
 rfl
theorem HL (s : ByteArray) (w : s.size ≤ 16) : ∀ (B A : List UInt8) (n : Nat), s.data.toList = A ++ B → B.length < n → rJ s n (A.length : Int) = some (B.all FG)
  | [], A, 0, _, h => by simp at h
  | [], A, n + 1, h, _ => by
    have : s.size = A.length := by rw [ze, h]; simp
    rw [rJ, aJ (by rw [this]; simp)]
    rfl
  | b :: B, A, 0, _, h => by simp at h
  | b :: B, A, n + 1, h, v => by
    have k : s.size = A.length + B.length + 1 := by rw [ze, h]; simp; omega
    rw [rJ, aK (by rw [k]; simp; omega)]
    rw [Va h _ rfl]
    simp only [aA]
    rw [lC (x := (A.length : Int) + 1) (by omega) (by omega)]
    have ih := HL s w B (A ++ [b]) n (by rw [h]; simp) (by simp at v; omega)
    rw [show ((A ++ [b]).length : Int) = (A.length : Int) + 1 by simp] at ih
    simp only [fB]
    have j : ∀ n : Nat, n < 256 → FG (UInt8.ofNat n) = !((decide (n < 97) || decide (n > 122)) && (decide (n < 48) || decide (n > 57)) && decide (n ≠ 45)) := by decide +kernel
    have m := j b.toNat (jt b)
    simp only [jH] at m
    rw [m]
    by_cases h1 : b.toNat < 97 <;> by_cases o : b.toNat > 122 <;> by_cases q : b.toNat < 48 <;> by_cases t : b.toNat > 57 <;> by_cases u : b.toNat = 45 <;>
      first
      | omega
      | (have a : ((b.toNat : Int) < 97) = (b.toNat < 97) := by rw [ju]; omega
         have c : ((b.toNat : Int) > 122) = (b.toNat > 122) := by rw [ju]; omega
         have d : ((b.toNat : Int) < 48) = (b.toNat < 48) := by rw [ju]; omega
         have g : ((b.toNat : Int) > 57) = (b.toNat > 57) := by rw [ju]; omega
         have i : ((b.toNat : Int) != 45) = !decide (b.toNat = 45) := by rw [bH]; simp; omega
         simp [h1, o, q, t, u, a, c, d, g, i, ih])
theorem xI (a : ByteArray) : mh a a = true := mO.2 rfl
theorem V4 : zS.size = 0 := rfl
theorem US {s : ByteArray} : s = zS ↔ s.size = 0 := by
 constructor
 ·rintro rfl; rfl
 ·intro h; exact B3 (by rw [ze] at h; rw [dH.1 h]; rfl)
theorem AK (s : ByteArray) : tb s = some (nf s) := by
 unfold tb
 simp only [UR, aA, ud]
 by_cases g : s.size = 0
 ·have : s = zS := US.2 g
  subst this
  rw [xI]
  rfl
 ·have n : mh s zS = false := by
   cases h : mh s zS with
   | false => rfl
   | true => exact absurd (US.1 (mO.1 h)) g
  rw [n]
  simp only [iF]
  by_cases i : s.size ≤ 16
  ·rw [aJ (by simp; omega)]
   obtain ⟨b, l, k⟩ : ∃ b l, s.data.toList = b :: l := by
    cases h : s.data.toList with
    | nil => rw [ze, h] at g; simp at g
    | cons b l => exact ⟨b, l, rfl⟩
   rw [Lw k]
   simp only [aA, UR]
   have m := HL s i s.data.toList [] lE rfl (by rw [pe, ← ze]; omega)
   simp only [bX] at m
   rw [show (0 : Int) = ((0 : Nat) : Int) from rfl] at *
   rw [m]
   have j : ((b.toNat : Int) < 97) = (b.toNat < 97) := by rw [ju]; omega
   have d : ((b.toNat : Int) > 122) = (b.toNat > 122) := by rw [ju]; omega
   have h1 : 1 ≤ s.size := by omega
   simp only [nf, h1, i, k, DM, eE, ed, j, d]
   by_cases a : b.toNat < 97
   ·simp [a, show ¬ 97 ≤ b.toNat by omega]
   ·by_cases c : b.toNat > 122
    ·simp [a, c, show ¬ b.toNat ≤ 122 by omega]
    ·simp [a, c, show 97 ≤ b.toNat by omega, show b.toNat ≤ 122 by omega]
  ·rw [aK (by simp; omega)]
   simp [nf, i]
def ml (r : kA) : Bool := nf r.kI && nf r.kU
theorem uA (r : kA) : pF r = some (ml r) := by
 unfold pF ml
 simp only [sQ, aA]
 cases nf r.kI <;> simp
theorem AL (r : kA) : tf r = some (ml r) := by
 unfold tf ml
 simp only [AK, aA]
 cases nf r.kI <;> simp
def xl (a b : kA) : Bool := qz a.kI b.kI || (mh a.kI b.kI && qz a.kU b.kU)
theorem uz (a b : kA) : rq a b = some (xl a b) := by
 unfold rq xl
 cases qz a.kI b.kI <;> cases mh a.kI b.kI <;> simp
theorem PK {a b : ByteArray} (h : a ≠ b) : mh a b = false := by
 cases c : mh a b with
 | false => rfl
 | true => exact absurd (mO.1 c) h
theorem Dg {a b : kA} : xl a b = true ↔ qz a.kI b.kI = true ∨ (a.kI = b.kI ∧ qz a.kU b.kU = true) := by
 simp [xl, mO]
theorem tU (P : kA → Prop) : BN (fun a b => xl a b = true) P := by
 refine ⟨fun x _ h => ?_, fun x y z _ _ _ h1 c => ?_, fun x y _ _ => ?_⟩
 ·rw [Dg] at h
  simp [vr] at h
 ·rw [Dg] at *
  rcases h1 with h1 | ⟨g, h1⟩
  ·rcases c with c | ⟨d, c⟩
   ·exact .inl (Cf h1 c)
   ·exact .inl (by rw [← d]; exact h1)
  ·rcases c with c | ⟨d, c⟩
   ·exact .inl (by rw [g]; exact c)
   ·exact .inr ⟨g.trans d, Cf h1 c⟩
 ·simp only [Dg]
  rcases B5 x.kI y.kI with h | h | h
  ·exact .inl (.inl h)
  ·rcases B5 x.kU y.kU with c | c | c
   ·exact .inl (.inr ⟨h, c⟩)
   ·refine .inr (.inl ?_)
    cases x; cases y; simp at h c; simp [h, c]
   ·exact .inr (.inr (.inr ⟨h.symm, c⟩))
  ·exact .inr (.inr (.inl h))
theorem vm (a b : kA) : ∃ c, nB a b = some c ∧ (c < 0 ↔ xl a b = true) := by
 unfold nB
 simp only [pQ, nI, aA, sv, pk]
 have h1 : ∀ a b : ByteArray, (oH a b < 0 ↔ qz a b = true) := fun a b => by rw [BC]; exact Ig _ _
 have g : ∀ a b : ByteArray, (oH a b = 0 ↔ a = b) := fun a b => by
  unfold oH; rw [Gm]; exact ⟨B3, fun h => by rw [h]⟩
 by_cases e : oH a.kI b.kI = 0
 ·rw [aJ (by simp [e])]
  have e' := (g _ _).1 e
  by_cases d : oH a.kU b.kU = 0
  ·rw [aJ (by simp [d])]
   refine ⟨0, rfl, ?_⟩
   rw [Dg, e', (g _ _).1 d]
   simp [vr]
  ·rw [aK (by simp [d])]
   refine ⟨_, rfl, ?_⟩
   rw [Dg, e', h1]
   simp [vr]
 ·rw [aK (by simp [e])]
  refine ⟨_, rfl, ?_⟩
  rw [Dg, h1]
  have : a.kI ≠ b.kI := fun h => e ((g _ _).2 h)
  simp [this]
def zR : kA := ⟨zS, zS⟩
theorem Ls (a b : ByteArray) : mh a b = mh b a := by rw [bH, mO, mO]; exact km
theorem HV (a b : kA) : kQ a b = kQ b a := by rw [bH, kP, kP]; exact km
theorem vX (a : kA) : kQ a a = true := kP.2 rfl
def mf (c : kB) : Bool := ml c.Head && (
 if c.Kind == 1 then nf c.ly && kQ zR c.B && kQ zR c.C && mh zS c.lU
 else if c.Kind == 2 then ml c.B && mh zS c.ly && kQ zR c.C && mh zS c.lU
 else if c.Kind == 3 then ml c.B && mh c.B.kI c.Head.kI && nf c.lU && mh zS c.ly && kQ zR c.C
 else if c.Kind == 4 then ml c.B && ml c.C && xl c.B c.C && mh zS c.ly && mh zS c.lU
 else false)
theorem pZ (c : kB) : pI c = some (mf c) := by
 unfold pI mf
 simp only [uA, sQ, aA]
 obtain ⟨k, hk, a⟩ := vm c.B c.C
 rw [hk]
 have d : decide (k < 0) = xl c.B c.C := by rw [bH, ← a]; simp
 simp only [aA, d]
 by_cases h1 : c.Kind = 1
 ·cases ml c.Head <;> cases nf c.ly <;> simp [h1, oP, vX, xI, zR, jv]
 ·by_cases g : c.Kind = 2
  ·cases ml c.Head <;> cases ml c.B <;> simp [g, oP, vX, xI, zR, jv]
  ·by_cases h : c.Kind = 3
   ·cases ml c.Head <;> cases ml c.B <;> cases mh c.B.kI c.Head.kI <;> cases nf c.lU <;> simp [h, oP, vX, xI, zR, jv]
   ·by_cases i : c.Kind = 4
    ·cases ml c.Head <;> cases ml c.B <;> cases ml c.C <;> cases xl c.B c.C <;> simp [i, oP, vX, xI, zR, jv]
    ·simp [h1, g, h, i]
theorem AJ (c : kB) : wF c = some (mf c) := by
 unfold wF mf
 simp only [AL, AK, uz, aA]
 rw [show (⟨zS, zS⟩ : kA) = zR from rfl, HV c.B zR, HV c.C zR, Ls c.lU zS, Ls c.ly zS]
 by_cases h1 : c.Kind = 1
 ·cases ml c.Head <;> cases nf c.ly <;> cases kQ zR c.B <;> cases kQ zR c.C <;> simp [h1]
 ·by_cases a : c.Kind = 2
  ·cases ml c.Head <;> cases ml c.B <;> cases mh zS c.ly <;> cases kQ zR c.C <;> simp [a]
  ·by_cases d : c.Kind = 3
   ·cases ml c.Head <;> cases ml c.B <;> cases mh zS c.ly <;> cases kQ zR c.C <;> cases mh c.B.kI c.Head.kI <;> simp [d]
   ·by_cases g : c.Kind = 4
    ·cases ml c.Head <;> cases ml c.B <;> cases mh zS c.ly <;> cases mh zS c.lU <;> cases ml c.C <;> simp [g]
    ·cases ml c.Head <;> cases ml c.B <;> cases mh zS c.ly <;> simp [h1, a, d, g]
theorem mK {α : Type} {b : Nat} {l m : List α} (h : (l.length + m.length) * b ≤ 140737488355328) (a : l.length + m.length ≤ 9223372036854775807) : mM b l m = some (l ++ m) := by
 unfold mM; rw [aK ⟨h, by unfold maxLen; omega⟩]
theorem CA {l m : List Int} (h : l.length + m.length ≤ 1000000) : mM 1 l m = some (l ++ m) := mK (by omega) (by omega)
def ua (s : ByteArray) : List Int := (s.size : Int) :: vg s
def pA (r : kA) : List Int := ua r.kI ++ ua r.kU
def yH (c : kB) : List Int := if c.Kind = 1 then ua c.ly else if c.Kind = 2 then pA c.B else if c.Kind = 3 then pA c.B ++ ua c.lU else pA c.B ++ pA c.C
def qT (c : kB) : List Int := c.Kind :: (pA c.Head ++ yH c)
theorem qg (s : ByteArray) : (ua s).length = s.size + 1 := by simp [ua, nJ]
theorem nL {r : kA} (h : ml r = true) : (pA r).length ≤ 34 := by
 simp only [ml, aP] at h
 have h1 := nD h.1
 have a := nD h.2
 simp [pA, qg]; omega
theorem Er {l : List Int} {n : Int} (a : 0 ≤ n) (h1 : n < 128) (c : l.length ≤ 100000) : mZ l n = some (true, l ++ [n]) := by
 have hw : IntKind.u8.wrap n = n := by
  obtain ⟨k, rfl⟩ : ∃ k : Nat, n = k := ⟨n.toNat, by omega⟩
  have : ∀ k : Nat, k < 128 → IntKind.u8.wrap (k : Int) = (k : Int) := by decide +kernel
  exact this k (by omega)
 unfold mZ
 rw [aJ (by simp; omega), tN, oN, aJ (by simp; omega), hw, CA (by simp; omega)]
 rfl
theorem Ik {l : List Int} {s : ByteArray} (h : nf s = true) (a : l.length ≤ 10000) : rA l s = some (true, l ++ ua s) := by
 have h1 := nD h
 unfold rA
 simp only [sQ, aA, h, bA, EQ h1.2]
 unfold xt
 rw [aJ (by rw [nJ]; simp; omega)]
 rw [nJ, Er (by omega) (by omega) (by omega)]
 simp only [aA]
 rw [CA (by simp [nJ]; omega)]
 simp [ua]
theorem Uh {l : List Int} {r : kA} (h : ml r = true) (c : l.length ≤ 9000) : pc l r = some (true, l ++ pA r) := by
 have a := h
 simp only [ml, aP] at h
 have h1 := nD h.1
 unfold pc
 simp only [uA, aA, a, bA]
 rw [Ik h.1 (by omega)]
 simp only [aA, bA]
 rw [Ik h.2 (by simp [qg]; omega)]
 simp [pA]
theorem FD {l : List Int} {r : kA} (h : ml r = true) (a : l.length ≤ 1000) : pc l r = some (true, l ++ pA r) := Uh h (by omega)
theorem Aa {c : kB} (h : mf c = true) : ml c.Head = true := by
 simp only [mf, aP] at h; exact h.1
theorem nP {c : kB} (h : mf c = true) :
  (c.Kind = 1 ∧ nf c.ly = true ∧ c.B = zR ∧ c.C = zR ∧ c.lU = zS) ∨
  (c.Kind = 2 ∧ ml c.B = true ∧ c.ly = zS ∧ c.C = zR ∧ c.lU = zS) ∨
  (c.Kind = 3 ∧ ml c.B = true ∧ nf c.lU = true ∧ c.B.kI = c.Head.kI ∧ c.ly = zS ∧ c.C = zR) ∨
  (c.Kind = 4 ∧ ml c.B = true ∧ ml c.C = true ∧ xl c.B c.C = true ∧ c.ly = zS ∧ c.lU = zS) := by
 simp only [mf, aP] at h
 obtain ⟨_, h⟩ := h
 split at h
 ·rename_i h1
  simp only [aP, kP, mO] at h
  exact .inl ⟨by simpa using h1, h.1.1.1, h.1.1.2.symm, h.1.2.symm, h.2.symm⟩
 ·split at h
  ·rename_i h1
   simp only [aP, kP, mO] at h
   exact .inr (.inl ⟨by simpa using h1, h.1.1.1, h.1.1.2.symm, h.1.2.symm, h.2.symm⟩)
  ·split at h
   ·rename_i h1
    simp only [aP, kP, mO] at h
    exact .inr (.inr (.inl ⟨by simpa using h1, h.1.1.1.1, h.1.1.2, h.1.1.1.2, h.1.2.symm, h.2.symm⟩))
   ·split at h
    ·rename_i h1
     simp only [aP, kP, mO] at h
     exact .inr (.inr (.inr ⟨by simpa using h1, h.1.1.1.1, h.1.1.1.2, h.1.1.2, h.1.2.symm, h.2.symm⟩))
    ·cases h
theorem Bc (c : kB) : vV c = some (if mf c then qT c else []) := by
 unfold vV
 rw [pZ]
 simp only [aA]
 cases h : mf c with
 | false => simp
 | true =>
  have i := Aa h
  have j := nL i
  simp only [bW, aB, aS, bA]
  have hk : 0 ≤ c.Kind ∧ c.Kind < 128 := by rcases nP h with h | h | h | h <;> omega
  rw [Er hk.1 hk.2 (by simp)]
  simp only [aA]
  rw [FD i (by simp)]
  simp only [aA, qo, pL]
  rcases nP h with ⟨k, h1, _⟩ | ⟨k, h1, _⟩ | ⟨k, h1, a, _⟩ | ⟨k, h1, a, _⟩
  ·have d := nD h1
   simp only [k, bY, bA, Ik h1 (show (([] ++ [(1:Int)]) ++ pA c.Head).length ≤ 10000 by simp; omega), aA]
   rw [CA (by simp [qg]; omega)]
   simp [qT, yH, k]
  ·have d := nL h1
   simp only [k, show ((2 : Int) == 1) = false from rfl, aB, bY, bA, aS, FD h1 (show (([] ++ [(2:Int)]) ++ pA c.Head).length ≤ 1000 by simp; omega), aA]
   rw [CA (by simp; omega)]
   simp [qT, yH, k]
  ·have d := nL h1
   have g := nD a
   simp only [k, show ((3 : Int) == 1) = false from rfl, show ((3 : Int) == 2) = false from rfl, aB, bY, bA, aS, FD h1 (show (([] ++ [(3:Int)]) ++ pA c.Head).length ≤ 1000 by simp; omega), aA]
   rw [Ik a (by simp; omega)]
   simp only [aA]
   rw [CA (by simp [qg]; omega)]
   simp [qT, yH, k]
  ·have d := nL h1
   have g := nL a
   simp only [k, show ((4 : Int) == 1) = false from rfl, show ((4 : Int) == 2) = false from rfl, show ((4 : Int) == 3) = false from rfl, aB, bY, bA, aS, FD h1 (show (([] ++ [(4:Int)]) ++ pA c.Head).length ≤ 1000 by simp; omega), aA]
   rw [FD a (by simp; omega)]
   simp only [aA]
   rw [CA (by simp; omega)]
   simp [qT, yH, k]
def A4 (l : List Int) : ByteArray := ⟨(zP l).toArray⟩
theorem DH (l : List Int) : (A4 l).data.toList = zP l := rfl
theorem Ka : ∀ (l : List Int) (r : ByteArray), (l.foldl (fun r n => r.push (UInt8.ofNat n.toNat)) r).data.toList = r.data.toList ++ zP l
 | [], r => by simp [zP]
 | x :: l, r => by
  rw [List.foldl_cons, Ka l]
  show ((r.data.push _).toList) ++ _ = _
  simp [zP]
theorem Pm (l : List Int) : Cl l = A4 l := B3 (by unfold Cl; rw [Ka]; rfl)
theorem OH (l : List Int) : (A4 l).size = l.length := by rw [ze, DH]; simp [zP]
theorem QV (a b : List Int) : zP (a ++ b) = zP a ++ zP b := by simp [zP]
theorem yn (a b : List Int) (h : a.length + b.length ≤ 1000000) : BG (A4 a) (A4 b) = some (A4 (a ++ b)) := by
 unfold BG
 rw [aJ]
 ·congr 1
  refine B3 ?_
  rw [DH, QV, ← DH a, ← DH b]
  exact ByteArray.toList_data_append ▸ rfl
 ·rw [OH, OH]
  show ¬ (_ > (9223372036854775807 : Int))
  omega
theorem CV (s : ByteArray) : A4 (vg s) = s := B3 (by rw [DH]; simp [zP, vg, gB])
theorem LG {n : Int} (a : 0 ≤ n) (h1 : n < 128) : xE n = some (A4 [n]) := by
 have hw : IntKind.u8.wrap n = n := by
  obtain ⟨k, rfl⟩ : ∃ k : Nat, n = k := ⟨n.toNat, by omega⟩
  have : ∀ k : Nat, k < 128 → IntKind.u8.wrap (k : Int) = (k : Int) := by decide +kernel
  exact this k (by omega)
 unfold xE
 rw [tN, vl, aJ (by simp; omega), hw, Pm, show zS = A4 [] from rfl, yn _ _ (by simp)]
 rfl
theorem Ii {s : ByteArray} (h : nf s = true) : vY s = some (A4 (ua s)) := by
 have h1 := nD h
 unfold vY
 rw [LG (by omega) (by omega)]
 simp only [aA]
 have := yn [(s.size : Int)] (vg s) (by rw [nJ]; simp; omega)
 rw [CV] at this
 rw [this]
 simp [ua]
theorem FH {r : kA} (h : ml r = true) : wG r = some (A4 (pA r)) := by
 simp only [ml, aP] at h
 have h1 := nD h.1
 have a := nD h.2
 unfold wG
 rw [Ii h.1, Ii h.2]
 simp only [aA]
 rw [yn _ _ (by simp [qg]; omega)]
 rfl
theorem Dz (c : kB) : xZ c = some (A4 (if mf c then qT c else [])) := by
 unfold xZ
 rw [AJ]
 simp only [aA]
 cases h : mf c with
 | false => rfl
 | true =>
  have i := Aa h
  have j := nL i
  simp only [bW, aB, aS, bA]
  have hk : 0 ≤ c.Kind ∧ c.Kind < 128 := by rcases nP h with h | h | h | h <;> omega
  unfold Cs
  rw [LG hk.1 hk.2, FH i]
  simp only [aA]
  rw [yn _ _ (by simp; omega)]
  simp only [aA]
  rcases nP h with ⟨k, h1, _⟩ | ⟨k, h1, _⟩ | ⟨k, h1, a, _⟩ | ⟨k, h1, a, _⟩
  ·have d := nD h1
   simp only [k, bY, bA, Ii h1, aA]
   rw [yn _ _ (by simp [qg]; omega)]
   simp [qT, yH, k]
  ·have d := nL h1
   simp only [k, show ((2 : Int) == 1) = false from rfl, show ((2 : Int) == 3) = false from rfl, show ((2 : Int) == 4) = false from rfl, aB, aS, FH h1, aA]
   rw [yn _ _ (by simp; omega)]
   simp [qT, yH, k]
  ·have d := nL h1
   have g := nD a
   simp only [k, show ((3 : Int) == 1) = false from rfl, show ((3 : Int) == 4) = false from rfl, aB, bY, bA, aS, FH h1, aA]
   rw [yn _ _ (by simp; omega)]
   simp only [aA, Ii a]
   rw [yn _ _ (by simp [qg]; omega)]
   simp [qT, yH, k]
  ·have d := nL h1
   have g := nL a
   simp only [k, show ((4 : Int) == 1) = false from rfl, show ((4 : Int) == 3) = false from rfl, aB, bY, bA, aS, FH h1, aA]
   rw [yn _ _ (by simp; omega)]
   simp only [aA, FH a]
   rw [yn _ _ (by simp; omega)]
   simp [qT, yH, k]
def Nx (c : kB) : List UInt8 := zP (if mf c then qT c else [])
def Es (a b : kB) : Bool := Op.bytesLess (Nx a) (Nx b)
theorem Ir (a b : kB) : ∃ c, vJ a b = some c ∧ (c < 0 ↔ Es a b = true) := by
 unfold vJ
 rw [Bc, Bc]
 exact ⟨_, rfl, Ig _ _⟩
theorem Hw (a b : kB) : ∃ c, uK a b = some c ∧ (c < 0 ↔ Es a b = true) := by
 unfold uK
 rw [Dz, Dz]
 simp only [aA]
 have h : qz (A4 (if mf a then qT a else [])) (A4 (if mf b then qT b else [])) = Es a b := by rw [BC]; rfl
 rw [h]
 cases Es a b with
 | true => exact ⟨_, rfl, by decide⟩
 | false =>
  simp only [aB, aS, iF]
  cases d : mh (A4 (if mf a then qT a else [])) (A4 (if mf b then qT b else [])) with
  | true => exact ⟨0, by simp, by decide⟩
  | false => exact ⟨1, by simp, by decide⟩
theorem XX {a b : Int} (ha : 0 ≤ a ∧ a < 256) (c : 0 ≤ b ∧ b < 256) (h : a.toNat.toUInt8 = b.toNat.toUInt8) : a = b := by
 have := aU UInt8.toNat h
 simp only [UInt8.toNat_ofNat', Nat.toUInt8] at this
 simp at this
 omega
theorem P6 : ∀ {a b : List Int}, (∀ x ∈ a, 0 ≤ x ∧ x < 256) → (∀ x ∈ b, 0 ≤ x ∧ x < 256) → zP a = zP b → a = b
 | [], [], _, _, _ => rfl
 | [], _ :: _, _, _, h => by simp [zP] at h
 | _ :: _, [], _, _, h => by simp [zP] at h
 | x :: a, y :: b, ha, d, h => by
  simp only [zP, bE, bG] at h
  rw [XX (ha x (by simp)) (d y (by simp)) h.1, P6 (fun z c => ha z (by simp [c])) (fun z c => d z (by simp [c])) h.2]
theorem zZ {s : ByteArray} (h : nf s = true) : ∀ x ∈ ua s, 0 ≤ x ∧ x < 256 := by
 have h1 := nD h
 intro x a
 rcases aQ.1 a with rfl | a
 ·omega
 ·simp only [vg, bI] at a
  obtain ⟨b, _, rfl⟩ := a
  have := jt b
  omega
theorem yo {r : kA} (h : ml r = true) : ∀ x ∈ pA r, 0 ≤ x ∧ x < 256 := by
 simp only [ml, aP] at h
 intro x a
 rcases aR.1 a with a | a
 ·exact zZ h.1 x a
 ·exact zZ h.2 x a
theorem EK {c : kB} (h : mf c = true) : ∀ x ∈ qT c, 0 ≤ x ∧ x < 256 := by
 intro x a
 rcases aQ.1 a with rfl | a
 ·rcases nP h with h | h | h | h <;> omega
 ·rcases aR.1 a with a | a
  ·exact yo (Aa h) x a
  ·unfold yH at a
   rcases nP h with ⟨k, h1, _⟩ | ⟨k, h1, _⟩ | ⟨k, h1, d, _⟩ | ⟨k, h1, d, _⟩
   ·rw [aK k] at a; exact zZ h1 x a
   ·rw [aJ (by omega), aK k] at a; exact yo h1 x a
   ·rw [aJ (by omega), aJ (by omega), aK k] at a
    rcases aR.1 a with a | a
    ·exact yo h1 x a
    ·exact zZ d x a
   ·rw [aJ (by omega), aJ (by omega), aJ (by omega)] at a
    rcases aR.1 a with a | a
    ·exact yo h1 x a
    ·exact yo d x a
theorem Ru {s t : ByteArray} (h : vg s = vg t) : s = t := by rw [← CV s, h, CV]
theorem Ek {s t : ByteArray} {X Y : List Int} (h : ua s ++ X = ua t ++ Y) : s = t ∧ X = Y := by
 simp only [ua, cF, bG] at h
 obtain ⟨h1, a⟩ := h
 have c : (vg s).length = (vg t).length := by rw [nJ, nJ]; omega
 have := List.append_inj a c
 exact ⟨Ru this.1, this.2⟩
theorem B4 {a b : kA} {X Y : List Int} (h : pA a ++ X = pA b ++ Y) : a = b ∧ X = Y := by
 simp only [pA, aV] at h
 obtain ⟨h1, d⟩ := Ek h
 obtain ⟨c, g⟩ := Ek d
 exact ⟨by cases a; cases b; simp at h1 c; simp [h1, c], g⟩
theorem R3 {a b : kB} (ha : mf a = true) (t : mf b = true) (h : qT a = qT b) : a = b := by
 simp only [qT, bG] at h
 obtain ⟨hk, q⟩ := h
 obtain ⟨o, h⟩ := B4 q
 clear q
 have j : ∀ {X Y : List Int}, X = Y → X ++ [] = Y ++ [] := fun h => by rw [h]
 unfold yH at h
 obtain ⟨A, s, E, x, y, v⟩ := a
 obtain ⟨D, u, G, bb, z, w⟩ := b
 simp only at hk o h
 subst hk o
 rcases nP ha with ⟨k, h1, d, g, c⟩ | ⟨k, h1, d, g, c⟩ | ⟨k, h1, d, g, c, i⟩ | ⟨k, h1, d, g, c, i⟩ <;>
 rcases nP t with ⟨k', g1, g2, g3, g4⟩ | ⟨k', g1, g2, g3, g4⟩ | ⟨k', g1, g2, g3, g4, g5⟩ | ⟨k', g1, g2, g3, g4, g5⟩ <;> simp only at k k' d g c g2 g3 g4 <;> (try omega)
 ·rw [aK k, aK k] at h
  simp [Ek (j h), d, g, c, g2, g3, g4]
 ·rw [aJ (by omega), aK k, aJ (by omega), aK k] at h
  simp [B4 (j h), d, g, c, g2, g3, g4]
 ·rw [aJ (by omega), aJ (by omega), aK k, aJ (by omega), aJ (by omega), aK k] at h
  obtain ⟨m, n⟩ := B4 h
  simp only at i g5
  simp [m, Ek (j n), c, i, g4, g5]
 ·rw [aJ (by omega), aJ (by omega), aJ (by omega), aJ (by omega), aJ (by omega), aJ (by omega)] at h
  obtain ⟨m, n⟩ := B4 h
  simp only at i g5
  simp [m, B4 (j n), c, i, g4, g5]
theorem D7 : BN (fun a b => Es a b = true) (fun c => mf c = true) := by
 refine ⟨fun x _ h => ?_, fun x y z _ _ _ h1 i => IU _ _ _ h1 i, fun x y d g => ?_⟩
 ·unfold Es at h; rw [HH] at h; cases h
 ·rcases IW (Nx x) (Nx y) with h | h | h
  ·exact .inl h
  ·refine .inr (.inl (R3 d g ?_))
   unfold Nx at h
   rw [aK d, aK g] at h
   exact P6 (EK d) (EK g) h
  ·exact .inr (.inr h)
def sk {α : Type} (R : α → Bool) (lt : α → α → Bool) (last : Option α) : List α → Bool → α → Bool × α
 | [], ok, b => (ok, b)
 | x :: xs, ok, b => if R x && last.all (fun y => lt y x) && (!ok || lt x b) then sk R lt last xs true x else sk R lt last xs ok b
def AY {α : Type} (w : Nat) (R : α → Bool) (lt : α → α → Bool) (d : α) (l : List α) : Nat → List α → Option (List α)
 | 0, _ => none
 | n + 1, out => if !(sk R lt out.getLast? l false d).1 then some out else (mM w out [(sk R lt out.getLast? l false d).2]).bind fun o => AY w R lt d l n o
section
variable {α : Type} {R : α → Bool} {lt : α → α → Bool}
theorem HY (H : BN (fun a b => lt a b = true) (fun x => R x = true)) (last : Option α) : ∀ (l : List α) (ok : Bool) (b : α), (ok = true → R b = true ∧ last.all (fun y => lt y b) = true) →
  ((sk R lt last l ok b).1 = false → ok = false ∧ ∀ x ∈ l, R x = true → last.all (fun y => lt y x) = false) ∧
  ((sk R lt last l ok b).1 = true → R (sk R lt last l ok b).2 = true ∧ last.all (fun y => lt y (sk R lt last l ok b).2) = true ∧ ((sk R lt last l ok b).2 ∈ l ∨ (ok = true ∧ (sk R lt last l ok b).2 = b)) ∧
   (∀ x ∈ l, R x = true → last.all (fun y => lt y x) = true → lt x (sk R lt last l ok b).2 = false) ∧ (ok = true → lt b (sk R lt last l ok b).2 = false))
 | [], ok, b, j => by
  simp only [sk]
  exact ⟨fun h => ⟨h, by simp⟩, fun h => ⟨(j h).1, (j h).2, .inr ⟨h, trivial⟩, by simp, fun _ => by
   cases m : lt b b with
   | false => rfl
   | true => exact absurd m (H.irrefl b (j h).1)⟩⟩
 | x :: xs, ok, b, j => by
  rw [sk]
  by_cases k : (R x && last.all (fun y => lt y x) && (!ok || lt x b)) = true
  ·rw [aK k]
   simp only [aP, dU, jG] at k
   obtain ⟨⟨A, t⟩, u⟩ := k
   obtain ⟨h1, s⟩ := HY H last xs true x (fun _ => ⟨A, t⟩)
   refine ⟨fun h => ?_, fun h => ?_⟩
   ·cases (h1 h).1
   ·obtain ⟨o, a2, a3, a4, a5⟩ := s h
    refine ⟨o, a2, ?_, ?_, ?_⟩
    ·rcases a3 with a3 | ⟨_, a3⟩
     ·exact .inl (by simp [a3])
     ·exact .inl (by rw [a3]; simp)
    ·intro y g c d
     rcases aQ.1 g with rfl | g
     ·exact a5 rfl
     ·exact a4 y g c d
    ·intro i
     cases m : lt b (sk R lt last xs true x).2 with
     | false => rfl
     | true =>
      have v : lt x b = true := by rcases u with h | h; rw [i] at h; cases h; exact h
      have := H.trans x b _ A (j i).1 o v m
      simp only [a5 rfl] at this
      cases this
  ·rw [aJ k]
   obtain ⟨h1, s⟩ := HY H last xs ok b j
   refine ⟨fun h => ⟨(h1 h).1, fun y g c => ?_⟩, fun h => ?_⟩
   ·rcases aQ.1 g with rfl | g
    ·have i := (h1 h).1
     cases t : last.all (fun z => lt z y) with
     | false => rfl
     | true => exact absurd (by simp [c, t, i]) k
    ·exact (h1 h).2 y g c
   ·obtain ⟨o, a2, a3, a4, a5⟩ := s h
    refine ⟨o, a2, ?_, ?_, a5⟩
    ·rcases a3 with a3 | a3
     ·exact .inl (by simp [a3])
     ·exact .inr a3
    ·intro y g c d
     rcases aQ.1 g with rfl | g
     ·cases m : lt y (sk R lt last xs ok b).2 with
      | false => rfl
      | true =>
       cases ok with
       | false => exact absurd (by simp [c, d]) k
       | true =>
        have w : lt y b = false := by
         cases D : lt y b with
         | false => rfl
         | true => exact absurd (by simp [c, d, D]) k
        have q := j rfl
        rcases H.total y b c q.1 with n | n | n
        ·rw [w] at n; cases n
        ·subst n; rw [a5 rfl] at m; cases m
        ·have := H.trans b y _ q.1 c o n m
         simp only [a5 rfl] at this
         cases this
     ·exact a4 y g c d
theorem yq (H : BN (fun a b => lt a b = true) (fun x => R x = true)) {l : List α} (d : ∀ x ∈ l, R x = true) (h : l.Pairwise (fun a b => lt a b = true)) : l.Nodup := by
 refine h.imp_of_mem (fun {a b} ha g c e => ?_)
 subst e
 exact H.irrefl a (d a ha) c
theorem mI : ∀ {l m : List α}, l.Nodup → (∀ x ∈ l, x ∈ m) → l.length ≤ m.length
 | [], _, _, _ => by simp
 | x :: l, m, g, c => by
  obtain ⟨A, B, rfl⟩ := jw (c x (by simp))
  have a := cL.1 g
  have := mI (l := l) (m := A ++ B) a.2 (fun y d => by
   have := c y (dJ _ d)
   simp only [aR, aQ] at this ⊢
   rcases this with h | h | h
   ·exact .inl h
   ·subst h; exact absurd d a.1
   ·exact .inr h)
  simp at this ⊢; omega
theorem B7 (H : BN (fun a b => lt a b = true) (fun x => R x = true)) {w : Nat} (hw : w ≤ 1000) (d : α) (l : List α) (J : l.length ≤ 1000000000) : ∀ (n : Nat) (out : List α), l.length < n + out.length → out.Pairwise (fun a b => lt a b = true) → (∀ x ∈ out, x ∈ l ∧ R x = true) →
  (∀ x ∈ l, R x = true → x ∈ out ∨ out.getLast?.all (fun y => lt y x) = true) → ∃ s, AY w R lt d l n out = some s ∧ qJ (fun a b => lt a b = true) (fun x => R x = true) l s
 | 0, out, L, hp, hm, v => by
  exfalso
  have := mI (yq H (fun x c => (hm x c).2) hp) (fun x c => (hm x c).1)
  omega
 | n + 1, out, L, hp, hm, v => by
  rw [AY]
  obtain ⟨h1, G⟩ := HY H out.getLast? l false d (fun h => by cases h)
  have hlen := mI (yq H (fun x c => (hm x c).2) hp) (fun x c => (hm x c).1)
  cases E : (sk R lt out.getLast? l false d).1 with
  | false =>
   rw [aK (by simp)]
   refine ⟨out, rfl, hp, fun x => ⟨hm x, fun c => ?_⟩⟩
   rcases v x c.1 c.2 with h | h
   ·exact h
   ·rw [(h1 E).2 x c.1 c.2] at h; cases h
  | true =>
   rw [aJ (by simp)]
   obtain ⟨t, a2, a3, a4, _⟩ := G E
   generalize (sk R lt out.getLast? l false d).2 = b at *
   have u : b ∈ l := by rcases a3 with h | ⟨h, _⟩; exact h; cases h
   have o : ∀ y ∈ out, lt y b = true := by
    intro y g
    obtain ⟨A, z, rfl⟩ : ∃ A z, out = A ++ [z] := by
     rcases dh out with h | ⟨A, z, h⟩
     ·subst h; cases g
     ·exact ⟨A, z, by rw [h]; simp⟩
    simp at a2
    rcases aR.1 g with g | g
    ·have D : lt y z = true := (dy.1 hp).2.2 y g z (by simp)
     exact H.trans y z b (hm y (by simp [g])).2 (hm z (by simp)).2 t D a2
    ·simp at g; subst g; exact a2
   have q : (out ++ [b]).Pairwise (fun a b => lt a b = true) := dy.2 ⟨hp, by simp, fun x c y g => by simp at g; subst g; exact o x c⟩
   have k : ∀ x ∈ out ++ [b], x ∈ l ∧ R x = true := fun x c => by
    rcases aR.1 c with c | c
    ·exact hm x c
    ·simp at c; subst c; exact ⟨u, t⟩
   have j := mI (yq H (fun x c => (k x c).2) q) (fun x c => (k x c).1)
   simp at j
   rw [mK (by simp only [aH, bX]; have : (out.length + (0 + 1)) * w ≤ 1000000000 * 1000 := fj (by omega) hw; omega) (by simp; omega)]
   simp only [aA]
   refine B7 H hw d l J n (out ++ [b]) (by simp; omega) q k (fun x c i => ?_)
   rcases v x c i with h | h
   ·exact .inl (by simp [h])
   ·have I := a4 x c i h
    rcases H.total x b i t with m | m | m
    ·rw [I] at m; cases m
    ·subst m; exact .inl (by simp)
    ·exact .inr (by simp [m])
end
theorem Gk {α : Type} (A : List α) (x : α) (a : A.length < 4611686018427387904) : mC (A ++ [x]) (wi0 .i64 (((A ++ [x]).length : Int) - 1)) = some x := by
 rw [lC (by simp; try omega) (by simp; try omega)]
 rw [sT A x [] _ (by simp; try omega)]
theorem I8 (out : List kB) (k : out.length < 4611686018427387904) : ∀ (l : List kB) (ok : Bool) (b : kB), tF out l ok b = some (sk mf Es out.getLast? l ok b)
 | [], ok, b => rfl
 | x :: xs, ok, b => by
  rw [tF, sk]
  have cmp : ∀ a b, ∃ c, uK a b = some c ∧ decide (c < 0) = Es a b := fun a b => by
   obtain ⟨c, h1, j⟩ := Hw a b
   exact ⟨c, h1, by rw [bH, ← j]; simp⟩
  rw [AJ, I8 out k xs true x, I8 out k xs ok b]
  obtain ⟨c, h1, j⟩ := cmp x b
  rcases dh out with h | ⟨A, z, h⟩
  ·subst h
   simp only [h1, aA, j, bX, Option.all, jI]
   generalize Es x b = p
   cases mf x <;> cases ok <;> cases p <;> simp
  ·have i : out = A ++ [z] := by rw [h]; simp
   obtain ⟨t, q, s⟩ := cmp z x
   have d : out.getLast? = some z := by rw [i]; simp
   have g : mC out (wi0 .i64 ((out.length : Int) - 1)) = some z := by rw [i]; exact Gk A z (by rw [i] at k; simp at k; omega)
   have m : ((out.length : Int) == 0) = false := by rw [i]; simp; omega
   rw [d]
   simp only [m, g, q, h1, aA, j, s, Option.all]
   rcases cZ (Es x b) with hp | hp <;> rcases cZ (Es z x) with n | n <;> rcases cZ (mf x) with o | o <;> cases ok <;> simp [hp, n, o]
theorem Jf (out : List kA) (g : out.length < 4611686018427387904) : ∀ (l : List kA) (ok : Bool) (b : kA), tq out l ok b = some (sk ml xl out.getLast? l ok b)
 | [], ok, b => rfl
 | x :: xs, ok, b => by
  rw [tq, sk]
  rw [AL, Jf out g xs true x, Jf out g xs ok b]
  rcases dh out with h | ⟨A, z, h⟩
  ·subst h
   simp only [uz, aA, bX, Option.all, jI]
   generalize xl x b = p
   cases ml x <;> cases ok <;> cases p <;> simp
  ·have d : out = A ++ [z] := by rw [h]; simp
   have a : out.getLast? = some z := by rw [d]; simp
   have c : mC out (wi0 .i64 ((out.length : Int) - 1)) = some z := by rw [d]; exact Gk A z (by rw [d] at g; simp at g; omega)
   have i : ((out.length : Int) == 0) = false := by rw [d]; simp; omega
   rw [a]
   simp only [i, c, uz, aA, Option.all]
   rcases cZ (xl x b) with hp | hp <;> rcases cZ (xl z x) with j | j <;> rcases cZ (ml x) with k | k <;> cases ok <;> simp [hp, j, k]
theorem ZD (a b : ByteArray) : (!(qz a b || mh a b)) = qz b a := by
 rcases B5 a b with h | h | h
 ·simp [h, Ly h]
 ·subst h; simp [xI, vr]
 ·have c := Ly h
  have d : mh a b = false := PK (by rintro rfl; rw [vr] at h; cases h)
  simp [h, c, d]
theorem RP {s : ByteArray} (h : nf s = true) : mh s zS = false := PK (fun e => by have := nD h; rw [e, V4] at this; omega)
theorem I0 (out : List ByteArray) (k : out.length < 4611686018427387904) : ∀ (l : List ByteArray) (b : ByteArray),
  ∃ m, tL out l b = some m ∧ (sk nf qz out.getLast? l (!mh b zS) b) = (!mh m zS, m)
 | [], b => ⟨b, rfl, rfl⟩
 | x :: xs, b => by
  rw [tL, sk]
  obtain ⟨v, t, c⟩ := I0 out k xs x
  obtain ⟨w, u, i⟩ := I0 out k xs b
  rw [AK, t, u]
  by_cases g : nf x = true
  ·rw [RP g] at c
   simp only [cT] at c
   rcases dh out with h | ⟨A, z, h⟩
   ·subst h
    simp only [aA, bX, Option.all, jI, g] at *
    rw [c, i]
    generalize qz x b = p
    generalize mh b zS = q
    cases p <;> cases q <;> simp
   ·have j : out = A ++ [z] := by rw [h]; simp
    have a : out.getLast? = some z := by rw [j]; simp
    have d : mC out (wi0 .i64 ((out.length : Int) - 1)) = some z := by rw [j]; exact Gk A z (by rw [j] at k; simp at k; omega)
    have n : ((out.length : Int) == 0) = false := by rw [j]; simp; omega
    rw [a] at c i ⊢
    simp only [n, d, aA, Option.all, ZD, g]
    rw [c, i]
    rcases cZ (qz x b) with hp | hp <;> rcases cZ (qz z x) with o | o <;> rcases cZ (mh b zS) with s | s <;> simp [hp, o, s]
  ·simp only [cv] at g
   rw [g, i]
   simp
theorem Uz (a : List kB) : ∀ (n : Nat) (out s : List kB), AY 136 mf Es (⟨0, ⟨zS, zS⟩, zS, ⟨zS, zS⟩, ⟨zS, zS⟩, zS⟩ : kB) a n out = some s → s.length < 4611686018427387904 → vH a n out = some s ∧ out.length ≤ s.length
 | 0, out, s, h, _ => by cases h
 | n + 1, out, s, h, i => by
  rw [AY] at h
  rw [vH]
  have key : out.length ≤ s.length → tF out a false (⟨0, ⟨zS, zS⟩, zS, ⟨zS, zS⟩, ⟨zS, zS⟩, zS⟩ : kB) = _ := fun k => I8 out (by omega) a false _
  split at h
  ·rename_i h1
   cases h
   rw [key (bD _)]
   simp only [aA]
   rw [aK h1]
   exact ⟨rfl, bD _⟩
  ·rename_i h1
   obtain ⟨o, c, d⟩ := bind_some h
   have g := Uz a n o s d i
   have j : out.length + 1 = o.length := by
    unfold mM at c; split at c
    ·cases c; simp
    ·cases c
   rw [key (by omega)]
   simp only [aA]
   rw [aJ h1, c]
   exact ⟨g.1, by omega⟩
theorem UU (a : List kA) : ∀ (n : Nat) (out s : List kA), AY 32 ml xl (⟨zS, zS⟩ : kA) a n out = some s → s.length < 4611686018427387904 → vI a n out = some s ∧ out.length ≤ s.length
 | 0, out, s, h, _ => by cases h
 | n + 1, out, s, h, i => by
  rw [AY] at h
  rw [vI]
  have key : out.length ≤ s.length → tq out a false (⟨zS, zS⟩ : kA) = _ := fun k => Jf out (by omega) a false _
  split at h
  ·rename_i h1
   cases h
   rw [key (bD _)]
   simp only [aA]
   rw [aK h1]
   exact ⟨rfl, bD _⟩
  ·rename_i h1
   obtain ⟨o, c, d⟩ := bind_some h
   have g := UU a n o s d i
   have j : out.length + 1 = o.length := by
    unfold mM at c; split at c
    ·cases c; simp
    ·cases c
   rw [key (by omega)]
   simp only [aA]
   rw [aJ h1, c]
   exact ⟨g.1, by omega⟩
theorem U3 (a : List ByteArray) : ∀ (n : Nat) (out s : List ByteArray), AY 16 nf qz zS a n out = some s → s.length < 4611686018427387904 → vK a n out = some s ∧ out.length ≤ s.length
 | 0, out, s, h, _ => by cases h
 | n + 1, out, s, h, k => by
  rw [AY] at h
  rw [vK]
  have key : out.length ≤ s.length → ∃ d, tL out a zS = some d ∧ sk nf qz out.getLast? a false zS = (!mh d zS, d) := fun q => by
   have := I0 out (by omega) a zS
   rw [xI] at this
   exact this
  split at h
  ·rename_i h1
   cases h
   obtain ⟨d, g, k2⟩ := key (bD _)
   rw [g]
   rw [k2] at h1
   simp only [aA]
   rw [aK (by simpa using h1)]
   exact ⟨rfl, bD _⟩
  ·rename_i h1
   obtain ⟨o, c, i⟩ := bind_some h
   have j := U3 a n o s i k
   have m : out.length + 1 = o.length := by
    unfold mM at c; split at c
    ·cases c; simp
    ·cases c
   obtain ⟨d, g, k2⟩ := key (by omega)
   rw [g]
   rw [k2] at h1 c
   simp only [aA]
   rw [aJ (by simpa using h1), c]
   exact ⟨j.1, by omega⟩
abbrev Dp (l s : List ByteArray) := qJ (fun a b => qz a b = true) (fun x => nf x = true) l s
abbrev Ac (l s : List kA) := qJ (fun a b => xl a b = true) (fun x => ml x = true) l s
abbrev J1 (l s : List kB) := qJ (fun a b => Es a b = true) (fun x => mf x = true) l s
theorem qj {α : Type} {lt : α → α → Bool} {R : α → Bool} (H : BN (fun a b => lt a b = true) (fun x => R x = true)) {l s : List α} (h : qJ (fun a b => lt a b = true) (fun x => R x = true) l s) : s.length ≤ l.length :=
 mI (yq H (fun x c => ((h.2 x).1 c).2) h.1) (fun x c => ((h.2 x).1 c).1)
theorem VW (l : List kB) (c : l.length ≤ 1000000000) : ∃ s, E7 l = some s ∧ J1 l s := by
 obtain ⟨s, h1, a⟩ := B7 D7 (w := 136) (by omega) (⟨0, ⟨zS, zS⟩, zS, ⟨zS, zS⟩, ⟨zS, zS⟩, zS⟩ : kB) l c lE [] (by rw [pe]; omega) (by simp) (by simp) (fun x _ _ => .inr rfl)
 exact ⟨s, (Uz l lE [] s h1 (by have := qj D7 a; omega)).1, a⟩
theorem U7 (l : List kA) (c : l.length ≤ 1000000000) : ∃ s, EY l = some s ∧ Ac l s := by
 obtain ⟨s, h1, a⟩ := B7 (tU (fun x => ml x = true)) (w := 32) (by omega) (⟨zS, zS⟩ : kA) l c lE [] (by rw [pe]; omega) (by simp) (by simp) (fun x _ _ => .inr rfl)
 exact ⟨s, (UU l lE [] s h1 (by have := qj (tU _) a; omega)).1, a⟩
theorem Vk (l : List ByteArray) (c : l.length ≤ 1000000000) : ∃ s, BU l = some s ∧ Dp l s := by
 obtain ⟨s, h1, a⟩ := B7 (Ij (fun x => nf x = true)) (w := 16) (by omega) zS l c lE [] (by rw [pe]; omega) (by simp) (by simp) (fun x _ _ => .inr rfl)
 exact ⟨s, (U3 l lE [] s h1 (by have := qj (Ij _) a; omega)).1, a⟩
def zC : kB := ⟨0, ⟨zS, zS⟩, zS, ⟨zS, zS⟩, ⟨zS, zS⟩, zS⟩
theorem P4 (f : kB → Option Bool) : ∀ (n : Nat) (l : List kB) (i j : Int), oh f n l i j = Ga f zC n l i j
 | 0, _, _, _ => rfl
 | n + 1, l, i, j => by
  rw [oh, Ga]
  simp only [P4 f n]
  rfl
theorem Qp (f : kB → Option Bool) : ∀ (l : List kB) (i : Nat), pB f l i = yt f l i
 | [], _ => rfl
 | x :: l, i => by rw [pB, yt]; simp only [Qp f l]
theorem TL (f : kB → Option Bool) (l : List kB) : sC l f = KC f zC l := by
 unfold sC KC wo
 simp only [Qp, P4]
theorem N5 (i : Int) : ∀ (n : Nat) (l : List kB) (k j : Int), pa i n l k j = CC oP i n l k j
 | 0, _, _, _ => rfl
 | n + 1, l, k, j => by
  rw [pa, CC]
  simp only [N5 i n]
theorem Nc (l : List kB) : ∀ (n : Nat) (i : Int), pg l n i = Du oP zC l n i
 | 0, _ => rfl
 | n + 1, i => by
  rw [pg, Du]
  simp only [Nc l n, N5]
  rfl
theorem Ul (l : List kB) : uG l = Ht oP zC l := by
 unfold uG Ht
 simp only [Nc]
theorem P7 (f : kA → Option Bool) : ∀ (n : Nat) (l : List kA) (i j : Int), ol f n l i j = Ga f zR n l i j
 | 0, _, _, _ => rfl
 | n + 1, l, i, j => by
  rw [ol, Ga]
  simp only [P7 f n]
  rfl
theorem PY (f : kA → Option Bool) : ∀ (l : List kA) (i : Nat), nl f l i = yt f l i
 | [], _ => rfl
 | x :: l, i => by rw [nl, yt]; simp only [PY f l]
theorem Uf (f : kA → Option Bool) (l : List kA) : so l f = KC f zR l := by
 unfold so KC pq
 simp only [PY, P7]
theorem Oq (i : Int) : ∀ (n : Nat) (l : List kA) (k j : Int), oY i n l k j = CC kQ i n l k j
 | 0, _, _, _ => rfl
 | n + 1, l, k, j => by
  rw [oY, CC]
  simp only [Oq i n]
theorem M7 (l : List kA) : ∀ (n : Nat) (i : Int), pf l n i = Du kQ zR l n i
 | 0, _ => rfl
 | n + 1, i => by
  rw [pf, Du]
  simp only [M7 l n, Oq]
  rfl
theorem TT (l : List kA) : uS l = Ht kQ zR l := by
 unfold uS Ht
 simp only [M7]
theorem NS (i : Int) : ∀ (n : Nat) (l : List ByteArray) (k j : Int), oC i n l k j = CC mh i n l k j
 | 0, _, _, _ => rfl
 | n + 1, l, k, j => by
  rw [oC, CC]
  simp only [NS i n]
theorem Of (l : List ByteArray) : ∀ (n : Nat) (i : Int), oB l n i = Du mh zS l n i
 | 0, _ => rfl
 | n + 1, i => by
  rw [oB, Du]
  simp only [Of l n, NS]
theorem TJ (l : List ByteArray) : qK l = Ht mh zS l := by
 unfold qK Ht
 simp only [Of]
theorem XI {l : List kB} (a : l.length ≤ 1000000000) : tl l = some l := by
 unfold tl
 rw [mK (by simp; omega) (by simp; omega)]
 simp
theorem X5 {l : List kA} (a : l.length ≤ 1000000000) : tj l = some l := by
 unfold tj
 rw [mK (by simp; omega) (by simp; omega)]
 simp
theorem Y6 (l : List kB) (d : l.length ≤ 1000000000) : ∃ s, Bi l = some s ∧ J1 l s := by
 unfold Bi
 rw [XI d]
 simp only [aA]
 rw [TL, NB _ (fun x => !mf x) zC l (by omega) (fun x _ => by simp [Ap, pZ])]
 simp only [aA, Bool.not_not]
 have i : (l.filter fun x => mf x).length ≤ l.length := dW _ _
 obtain ⟨s, h1, h, c⟩ := Ai (eq := oP) (lt := fun a b => Es a b = true) (P := fun x => mf x = true) (cf := fun x => vJ x.1 x.2) (l := l.filter fun x => mf x) (fun x y => xj) D7 (fun x g => (cJ.1 g).2) (by omega) (fun x y _ _ => Ir x y)
 rw [h1]
 simp only [aA]
 rw [Ul, Jl _ _ _ (by omega)]
 refine ⟨_, rfl, c.1, fun x => ?_⟩
 rw [c.2]
 simp
theorem Zl (l : List kA) (d : l.length ≤ 1000000000) : ∃ s, CO l = some s ∧ Ac l s := by
 unfold CO
 rw [X5 d]
 simp only [aA]
 rw [Uf, NB _ (fun x => !ml x) zR l (by omega) (fun x _ => by simp [Ay, uA])]
 simp only [aA, Bool.not_not]
 have i : (l.filter fun x => ml x).length ≤ l.length := dW _ _
 obtain ⟨s, h1, h, c⟩ := Ai (eq := kQ) (lt := fun a b => xl a b = true) (P := fun x => ml x = true) (cf := fun x => nB x.1 x.2) (l := l.filter fun x => ml x) (fun x y => kP) (tU _) (fun x g => (cJ.1 g).2) (by omega) (fun x y _ _ => vm x y)
 rw [h1]
 simp only [aA]
 rw [TT, Jl _ _ _ (by omega)]
 refine ⟨_, rfl, c.1, fun x => ?_⟩
 rw [c.2]
 simp
theorem Q9 (l : List ByteArray) : pd l = pS (fun x => some (if qz x.1 x.2 then -1 else 0)) l := by
 unfold pd pS
 congr 1
 funext x y
 unfold uy
 cases h : qz y x <;> simp [h]
theorem Gu : ∀ (l acc : List ByteArray), acc.length + l.length ≤ 1000000000 → uV l acc = (Ib (acc ++ l.filter nf)).bind fun r => qK r
 | [], acc, _ => by rw [uV]; simp
 | x :: l, acc, h => by
  rw [uV, sQ]
  simp only [aA]
  cases a : nf x with
  | false =>
   simp only [aB, aS]
   rw [Gu l acc (by simp at h; omega)]
   simp [a]
  | true =>
   simp only [bA]
   rw [mK (by simp at h ⊢; omega) (by simp at h ⊢; omega)]
   simp only [aA]
   rw [Gu l (acc ++ [x]) (by simp at h ⊢; omega)]
   simp [a]
theorem Wp (l : List ByteArray) (g : l.length ≤ 1000000000) : ∃ s, zB l = some s ∧ Dp l s := by
 unfold zB
 rw [Gu l [] (by simpa using g)]
 simp only [bV]
 have k : (l.filter nf).length ≤ l.length := dW _ _
 unfold Ib
 rw [aK (by omega)]
 simp only [aA]
 obtain ⟨s, h1, j, c⟩ := Ai (eq := mh) (lt := fun a b => qz a b = true) (P := fun x => nf x = true) (cf := fun x => some (if qz x.1 x.2 then -1 else 0)) (l := l.filter nf) (fun x y => mO) (Ij _) (fun x i => (cJ.1 i).2) (by omega) (fun x y _ _ => ⟨_, rfl, by cases h : qz x y <;> simp [h]⟩)
 have d := (CS h1).2
 rw [Q9, ← d, TJ, Jl _ _ _ (by omega)]
 refine ⟨_, rfl, c.1, fun x => ?_⟩
 rw [c.2]
 simp
def tt {κ : Type} (a : List κ) : List (κ × Bool) := a.map fun k => (k, true)
def nO {κ : Type} (beq : κ → κ → Bool) (a : List κ) (k : κ) : Bool := a.any fun x => beq k x
def ins {κ : Type} (beq : κ → κ → Bool) (a : List κ) (k : κ) : List κ := if nO beq a k then a else a ++ [k]
section
variable {κ : Type} {beq : κ → κ → Bool}
theorem ni (c : ∀ {x y}, beq x y = true ↔ x = y) (a : List κ) (k : κ) : nO beq a k = true ↔ k ∈ a := by
 simp [nO, dR, c]
theorem Sd (a : List κ) : (tt a).length = a.length := by simp [tt]
theorem FQ (a : List κ) (k : κ) : zD beq (tt a) k false = nO beq a k := by
 unfold zD mo nO tt
 induction a with
 | nil => rfl
 | cons x xs ih =>
  simp only [bE, iN, List.any_cons]
  cases h : beq k x with
  | true => simp
  | false => simpa using ih
theorem KF (n : ∀ {x y}, beq x y = true ↔ x = y) (a : List κ) (k : κ) : ow beq (tt a) k true = tt (ins beq a k) := by
 unfold ow ins
 have o : (tt a).findIdx? (fun p => beq k p.1) = a.findIdx? (fun x => beq k x) := by
  unfold tt; rw [gC]; rfl
 rw [o]
 cases h : a.findIdx? (fun x => beq k x) with
 | none =>
  rw [fV] at h
  rw [aJ]
  ·simp [tt]
  ·intro d
   unfold nO at d
   rw [dR] at d
   obtain ⟨x, q, c⟩ := d
   rw [h x q] at c
   cases c
 | some i =>
  rw [dS] at h
  obtain ⟨m, h1, _⟩ := h
  have e := n.1 h1
  rw [aK]
  ·simp only [tt]
   apply dG
   intro j
   rw [eU]
   split
   ·rename_i g
    subst g
    simp [m, e]
   ·rfl
  ·unfold nO
   exact dR.2 ⟨a[i], dP m, h1⟩
end
section
variable {all : List kB} {wants : List kA} {T : List kA} {W : List ByteArray} {R : List kB}
def pr (c : kB) : List kA := if c.Kind = 1 then [] else if c.Kind = 4 then [c.B, c.C] else [c.B]
end
theorem Pk (x : kB) : ∀ l : List kB, EZ l x = some (nO oP l x)
 | [] => rfl
 | y :: l => by
  have ih := Pk x l
  unfold EZ at ih ⊢
  rw [BE, ih]
  have : oP y x = oP x y := by rw [bH, xj, xj]; exact km
  rw [this]
  simp only [nO, List.any_cons]
  cases oP x y <;> simp
theorem Ww {c : kB} (h : mf c = true) : Bd c = some (c.Head :: pr c) := by
 unfold Bd
 rw [pZ, h]
 simp only [aA, bW, aB, aS]
 have a : c.Kind = 1 ∨ c.Kind = 2 ∨ c.Kind = 3 ∨ c.Kind = 4 := by rcases nP h with h | h | h | h <;> simp [h.1]
 rcases a with k | k | k | k
 ·simp [k, pr]
 ·rw [aK (by simp [k]), mK (by simp) (by simp)]
  simp [k, pr]
 ·rw [aK (by simp [k]), mK (by simp) (by simp)]
  simp [k, pr]
 ·rw [aK (by simp [k]), mK (by simp) (by simp)]
  simp only [aA]
  rw [aK (by simp [k]), mK (by simp) (by simp)]
  simp [k, pr]
theorem qJ.congr {α : Type} {lt : α → α → Prop} {P : α → Prop} {l m s : List α} (h : qJ lt P l s) (hm : ∀ x, x ∈ l ↔ x ∈ m) : qJ lt P m s := ⟨h.1, fun x => by rw [h.2, hm]⟩
theorem VL {κ : Type} (a : List κ) : (tt a).map (·.1) = a := by simp [tt, gB]
theorem I1 : ∀ (l : List kB) (n : Int), 0 ≤ n → n ≤ 4000000000000000000 → (∀ c ∈ l, c.Head.kI.size + c.Head.kU.size + c.ly.size + c.B.kI.size + c.B.kU.size + c.C.kI.size + c.C.kU.size + c.lU.size ≤ 1000000000) → n + l.length * 1000000020 ≤ 4000000000000000000 →
  ∃ r, oM l n = some r ∧ n + 20 * l.length ≤ r
 | [], n, _, _, _, _ => ⟨n, rfl, by simp⟩
 | c :: l, n, m, h1, a, i => by
  have h := a c (by simp)
  simp only [aH] at i ⊢
  rw [oM]
  rw [lC (x := 20 + (c.Head.kI.size : Int)) (by omega) (by omega), lC (x := 20 + (c.Head.kI.size : Int) + (c.Head.kU.size : Int)) (by omega) (by omega), lC (x := 20 + (c.Head.kI.size : Int) + (c.Head.kU.size : Int) + (c.ly.size : Int)) (by omega) (by omega), lC (x := 20 + (c.Head.kI.size : Int) + (c.Head.kU.size : Int) + (c.ly.size : Int) + (c.B.kI.size : Int)) (by omega) (by omega), lC (x := 20 + (c.Head.kI.size : Int) + (c.Head.kU.size : Int) + (c.ly.size : Int) + (c.B.kI.size : Int) + (c.B.kU.size : Int)) (by omega) (by omega), lC (x := 20 + (c.Head.kI.size : Int) + (c.Head.kU.size : Int) + (c.ly.size : Int) + (c.B.kI.size : Int) + (c.B.kU.size : Int) + (c.C.kI.size : Int)) (by omega) (by omega), lC (x := 20 + (c.Head.kI.size : Int) + (c.Head.kU.size : Int) + (c.ly.size : Int) + (c.B.kI.size : Int) + (c.B.kU.size : Int) + (c.C.kI.size : Int) + (c.C.kU.size : Int)) (by omega) (by omega), lC (x := 20 + (c.Head.kI.size : Int) + (c.Head.kU.size : Int) + (c.ly.size : Int) + (c.B.kI.size : Int) + (c.B.kU.size : Int) + (c.C.kI.size : Int) + (c.C.kU.size : Int) + (c.lU.size : Int)) (by omega) (by omega), lC (by omega) (by omega)]
  obtain ⟨r, g, k⟩ := I1 l (n + (20 + (c.Head.kI.size : Int) + (c.Head.kU.size : Int) + (c.ly.size : Int) + (c.B.kI.size : Int) + (c.B.kU.size : Int) + (c.C.kI.size : Int) + (c.C.kU.size : Int) + (c.lU.size : Int))) (by omega) (by omega) (fun d j => a d (by simp [j])) (by omega)
  exact ⟨r, g, by omega⟩
def uI (c : kB) : Nat := c.Head.kI.size + c.Head.kU.size + c.ly.size + c.B.kI.size + c.B.kU.size + c.C.kI.size + c.C.kU.size + c.lU.size
theorem TD (l : List kB) (d : l.length ≤ 100000000) (a : ∀ c ∈ l, uI c ≤ 1000000000) : ∃ r, oz l = some r := by
 obtain ⟨r, h, _⟩ := I1 l 0 (by omega) (by omega) a (by omega)
 exact ⟨r, h⟩
section
variable {κ γ : Type} {beq : κ → κ → Bool}
theorem sy (a : ∀ {x y}, beq x y = true ↔ x = y) {A B : List (κ × γ)} {k : κ} {x : γ} (c : ∀ p ∈ A, p.1 ≠ k) : mo beq (A ++ (k, x) :: B) k = some x := by
 unfold mo
 rw [List.find?_append]
 have : A.find? (fun p => beq k p.1) = none := jx.2 (fun p hp h => c p hp (a.1 h).symm)
 rw [this]
 simp [a.2 (rfl : k = k)]
theorem yp (a : ∀ {x y}, beq x y = true ↔ x = y) {l : List (κ × γ)} {k : κ} (h : ∀ p ∈ l, p.1 ≠ k) : mo beq l k = none := by
 unfold mo
 rw [jx.2 (fun p hp c => h p hp (a.1 c).symm)]
 rfl
theorem zz (a : ∀ {x y}, beq x y = true ↔ x = y) {A B : List (κ × γ)} {k : κ} {x y : γ} (c : ∀ p ∈ A, p.1 ≠ k) : ow beq (A ++ (k, x) :: B) k y = A ++ (k, y) :: B := by
 have h1 : (A ++ (k, x) :: B).findIdx? (fun p => beq k p.1) = some A.length := by
  rw [iG, fV.2 (fun p hp => by
   cases h : beq k p.1 with
   | false => rfl
   | true => exact absurd (a.1 h).symm (c p hp))]
  simp [eO, a.2 (rfl : k = k)]
 rw [sH h1]
 simp
theorem FN (a : ∀ {x y}, beq x y = true ↔ x = y) {l : List (κ × γ)} {k : κ} {y : γ} (h : ∀ p ∈ l, p.1 ≠ k) : ow beq l k y = l ++ [(k, y)] := by
 refine xH (fV.2 (fun p hp => ?_)) y
 cases c : beq k p.1 with
 | false => rfl
 | true => exact absurd (a.1 c).symm (h p hp)
theorem wQ (k : κ) : ∀ (l : List (κ × γ)), (∀ p ∈ l, p.1 ≠ k) ∨ ∃ A x B, l = A ++ (k, x) :: B ∧ ∀ p ∈ A, p.1 ≠ k
 | [] => .inl (fun _ h => by cases h)
 | p :: l => by
  by_cases hp : p.1 = k
  ·exact .inr ⟨[], p.2, l, by rw [← hp]; rfl, fun _ h => by cases h⟩
  ·rcases wQ k l with h | ⟨A, x, B, rfl, h⟩
   ·exact .inl (fun q a => by rcases aQ.1 a with rfl | a; exact hp; exact h q a)
   ·exact .inr ⟨p :: A, x, B, rfl, fun q a => by rcases aQ.1 a with rfl | a; exact hp; exact h q a⟩
theorem I7 (a : ∀ {x y}, beq x y = true ↔ x = y) (A B : List (κ × γ)) (k : κ) : mo beq (A ++ B) k = (mo beq A k).or (mo beq B k) := by
 unfold mo
 rw [List.find?_append]
 cases A.find? (fun p => beq k p.1) <;> rfl
theorem Ei (p : κ × γ) (l : List (κ × γ)) (k : κ) : mo beq (p :: l) k = if beq k p.1 = true then some p.2 else mo beq l k := by
 unfold mo
 rw [iN]
 cases beq k p.1 <;> simp
theorem HB (a : ∀ {x y}, beq x y = true ↔ x = y) (l : List (κ × γ)) (k k2 : κ) (y : γ) : mo beq (ow beq l k y) k2 = if beq k2 k = true then some y else mo beq l k2 := by
 rcases wQ k l with h | ⟨A, x, B, rfl, h⟩
 ·rw [FN a h, I7 a, Ei]
  by_cases hk : beq k2 k = true
  ·have := a.1 hk
   subst this
   rw [aK hk, aK hk, yp a h]; rfl
  ·rw [aJ hk, aJ hk]
   show (mo beq l k2).or none = _
   cases mo beq l k2 <;> rfl
 ·rw [zz a h, I7 a, Ei, I7 a, Ei]
  by_cases hk : beq k2 k = true
  ·have := a.1 hk
   subst this
   rw [aK hk, aK hk, yp a h]; rfl
  ·rw [aJ hk, aJ hk, aJ hk]
end
abbrev qa := List (kA × List ByteArray)
def mm (T : qa) : List (kA × List (ByteArray × Bool)) := T.map fun p => (p.1, tt p.2)
def tD (T : qa) (r : kA) : List ByteArray := (mo kQ T r).getD []
def FS (T : qa) : List kF := T.flatMap fun p => p.2.map fun w => (⟨p.1, w⟩ : kF)
def HJ (T : qa) (r : kA) (w : ByteArray) : qa := ow kQ T r (tD T r ++ [w])
theorem G0 (A B : qa) : mm (A ++ B) = mm A ++ mm B := by simp [mm]
theorem BF {A : qa} {r : kA} (h : ∀ p ∈ A, p.1 ≠ r) : ∀ p ∈ mm A, p.1 ≠ r := by
 intro p hp
 simp only [mm, bI] at hp
 obtain ⟨q, a, rfl⟩ := hp
 exact h q a
theorem Vs (T : qa) (r : kA) : mo kQ (mm T) r = (mo kQ T r).map tt := by
 rcases wQ r T with h | ⟨A, x, B, rfl, h⟩
 ·rw [yp kP h, yp kP (BF h)]; rfl
 ·rw [sy kP h, G0]
  exact sy kP (BF h)
theorem Ql (T : qa) (r : kA) : (mo kQ (mm T) r).getD [] = tt (tD T r) := by
 rw [Vs, tD]; cases mo kQ T r <;> rfl
theorem J5 (T : qa) (r : kA) (w : ByteArray) : (FS (HJ T r w)).Perm (FS T ++ [(⟨r, w⟩ : kF)]) := by
 unfold HJ tD
 rcases wQ r T with h | ⟨A, x, B, rfl, h⟩
 ·rw [FN kP h, yp kP h]
  simp [FS]
 ·rw [zz kP h, sy kP h]
  simp only [FS, iU, fI, ir, cq, bE, fp, aV]
  refine cM _ (cM _ ?_)
  exact dM
theorem TP {T : qa} (hk : (T.map (·.1)).Nodup) (r : kA) (w : ByteArray) : ((HJ T r w).map (·.1)).Nodup := by
 unfold HJ
 rcases wQ r T with h | ⟨A, x, B, rfl, h⟩
 ·rw [FN kP h]
  simp only [cq, bE, fp]
  refine bO.2 ⟨hk, by simp, fun a ha b c e => ?_⟩
  simp at c; subst c; subst e
  obtain ⟨p, hp, e⟩ := bI.1 ha
  exact h p hp e
 ·rw [zz kP h]
  simpa using hk
theorem DS {T : qa} (hk : (T.map (·.1)).Nodup) (f : kF) : f ∈ FS T ↔ f.ly ∈ tD T f.kA := by
 simp only [FS, iy, bI]
 constructor
 ·rintro ⟨p, hp, w, hw, rfl⟩
  obtain ⟨A, B, rfl⟩ := jw hp
  have a : ∀ q ∈ A, q.1 ≠ p.1 := fun q d e => by
   rw [cq, bE] at hk
   exact (bO.1 hk).2.2 q.1 (bI.2 ⟨q, d, rfl⟩) p.1 (by simp) e
  rw [tD, show p = (p.1, p.2) from rfl, sy kP a]
  exact hw
 ·intro h
  unfold tD at h
  rcases wQ f.kA T with c | ⟨A, x, B, rfl, a⟩
  ·rw [yp kP c] at h; cases h
  ·rw [sy kP a] at h
   exact ⟨(f.kA, x), by simp, f.ly, h, rfl⟩
theorem OY {T : qa} (h : (FS T).Nodup) (r : kA) : (tD T r).Nodup := by
 unfold tD
 rcases wQ r T with c | ⟨A, x, B, rfl, a⟩
 ·rw [yp kP c]; simp
 ·rw [sy kP a]
  simp only [FS, iU, fI] at h
  have h1 := (bO.1 (bO.1 h).2.1).1
  simp only [List.Nodup, fG] at h1
  exact h1.imp (fun h e => h (by rw [e]))
inductive nY (C : List kB) : kF → Prop
 | mem (c) : c ∈ C → c.Kind = 1 → nY C ⟨c.Head, c.ly⟩
 | inc (c w) : c ∈ C → c.Kind = 2 → nY C ⟨c.B, w⟩ → nY C ⟨c.Head, w⟩
 | IB (c b w) : c ∈ C → c.Kind = 3 → nY C ⟨c.B, b⟩ → nY C ⟨⟨b, c.lU⟩, w⟩ → nY C ⟨c.Head, w⟩
 | both (c w) : c ∈ C → c.Kind = 4 → nY C ⟨c.B, w⟩ → nY C ⟨c.C, w⟩ → nY C ⟨c.Head, w⟩
theorem nY.mono {C C' : List kB} (h : ∀ c ∈ C, c ∈ C') {f : kF} (i : nY C f) : nY C' f := by
 induction i with
 | mem c a hk => exact .mem c (h c a) hk
 | inc c w a hk _ ih => exact .inc c w (h c a) hk ih
 | IB c b w a hk _ _ d g => exact .IB c b w (h c a) hk d g
 | both c w a hk _ _ d g => exact .both c w (h c a) hk d g
def Ez (C : List kB) : List kF := (C.map (·.Head)).flatMap fun r => (C.map (·.ly)).map fun w => (⟨r, w⟩ : kF)
theorem Bm (C : List kB) : (Ez C).length = C.length * C.length := by
 unfold Ez
 have : ∀ l : List kA, (l.flatMap fun r => (C.map (·.ly)).map fun w => (⟨r, w⟩ : kF)).length = l.length * C.length := fun l => by
  induction l with
  | nil => simp
  | cons x l ih => simp only [fI, aI, ih, dB, aH, cC]; omega
 rw [this, dB]
theorem V6 {C : List kB} {r : kA} {w : ByteArray} : (⟨r, w⟩ : kF) ∈ Ez C ↔ (∃ c ∈ C, c.Head = r) ∧ ∃ c ∈ C, c.ly = w := by
 unfold Ez
 simp only [iy, bI, kF.mk.injEq]
 constructor
 ·rintro ⟨h, ⟨c, g, rfl⟩, i, ⟨d, a, rfl⟩, rfl, rfl⟩; exact ⟨⟨c, g, rfl⟩, d, a, rfl⟩
 ·rintro ⟨⟨c, g, rfl⟩, d, a, rfl⟩; exact ⟨_, ⟨c, g, rfl⟩, _, ⟨d, a, rfl⟩, rfl, rfl⟩
theorem nY.vz {C : List kB} {f : kF} (h : nY C f) : ∃ c ∈ C, c.Kind = 1 ∧ c.ly = f.ly := by
 induction h with
 | mem c g hk => exact ⟨c, g, hk, rfl⟩
 | inc c w g hk _ ih => exact ih
 | IB c b w g hk _ _ a d => exact d
 | both c w g hk _ _ a d => exact a
theorem nY.head {C : List kB} {f : kF} (h : nY C f) : ∃ c ∈ C, c.Head = f.kA := by
 cases h with
 | mem c a hk => exact ⟨c, a, rfl⟩
 | inc c w a hk _ => exact ⟨c, a, rfl⟩
 | IB c b w a hk _ _ => exact ⟨c, a, rfl⟩
 | both c w a hk _ _ => exact ⟨c, a, rfl⟩
theorem nY.Ez {C : List kB} {f : kF} (h : nY C f) : f ∈ Ez C := by
 obtain ⟨c, a, _, hw⟩ := h.vz
 exact V6.2 ⟨h.head, c, a, hw⟩
structure rU (C : List kB) (T : qa) (td : List kF) (n : Int) : Prop where
 keys : (T.map (·.1)).Nodup
 nd : (FS T).Nodup
 Pe : td.Nodup
 sub : ∀ f ∈ td, f ∈ FS T
 num : n = (FS T).length
 yR : ∀ f ∈ FS T, nY C f
theorem rU.len {C : List kB} {T : qa} {c : List kF} {n : Int} (h : rU C T c n) : (FS T).length ≤ C.length * C.length := by
 rw [← Bm]; exact mI h.nd (fun f a => (h.yR f a).Ez)
theorem rU.XY {C : List kB} {T : qa} {a : List kF} {n : Int} (h : rU C T a n) : a.length ≤ (FS T).length := mI h.Pe h.sub
theorem rU.mono {C C' : List kB} {T : qa} {a : List kF} {n : Int} (h : rU C T a n) (d : ∀ c ∈ C, c ∈ C') : rU C' T a n := ⟨h.keys, h.nd, h.Pe, h.sub, h.num, fun f g => (h.yR f g).mono d⟩
structure Cc (T : qa) (td : List kF) (T' : qa) (td' : List kF) : Prop where
 ng : ∀ f ∈ FS T, f ∈ FS T'
 todo : ∀ f ∈ td, f ∈ td'
 new : ∀ f ∈ FS T', f ∈ FS T ∨ f ∈ td'
 fresh : ∀ f ∈ td', f ∈ td ∨ f ∉ FS T
theorem Cc.refl (T : qa) (a : List kF) : Cc T a T a := ⟨fun _ h => h, fun _ h => h, fun _ h => .inl h, fun _ h => .inl h⟩
theorem Cc.trans {T T' T'' : qa} {i g a : List kF} (h : Cc T i T' g) (k : Cc T' g T'' a) : Cc T i T'' a :=
 ⟨fun f c => k.ng f (h.ng f c), fun f c => k.todo f (h.todo f c), fun f c => by
  rcases k.new f c with h1 | h1
  ·rcases h.new f h1 with d | d
   ·exact .inl d
   ·exact .inr (k.todo f d)
  ·exact .inr h1, fun f c => by
  rcases k.fresh f c with h1 | h1
  ·exact h.fresh f h1
  ·exact .inr (fun d => h1 (h.ng f d))⟩
theorem Kl {α : Type} (p : α → Bool) : ∀ l : List α, (l.filter p).length + (l.filter fun x => !p x).length = l.length
 | [] => rfl
 | x :: l => by
  have := Kl p l
  cases h : p x <;> simp [h] <;> omega
theorem rU.IK {C C' : List kB} {T T' : qa} {d c : List kF} {n o : Int} (i : rU C' T' c o) (g : rU C T d n) (x : Cc T d T' c) : c.length + (FS T).length ≤ d.length + (FS T').length := by
 classical
 have h1 : (c.filter fun f => decide (f ∈ FS T)).length ≤ d.length := mI (i.Pe.filter _) (fun f j => by
  have := cJ.1 j
  rcases x.fresh f this.1 with h | h
  ·exact h
  ·exact absurd (by simpa using this.2) h)
 have k : (FS T ++ c.filter fun f => !decide (f ∈ FS T)).length ≤ (FS T').length := mI (bO.2 ⟨g.nd, i.Pe.filter _, fun a ha b m e => by
  subst e
  have := (cJ.1 m).2
  simp [ha] at this⟩) (fun f j => by
  rcases aR.1 j with h | h
  ·exact x.ng f h
  ·exact i.sub f (cJ.1 h).1)
 have q : (c.filter fun f => decide (f ∈ FS T)).length + (c.filter fun f => !decide (f ∈ FS T)).length = c.length := by
  exact Kl (fun f => decide (f ∈ FS T)) c
 rw [aI] at k
 omega
def EP (C : List kB) (T : qa) (g : List kF) (c : Option (List (kA × List (ByteArray × Bool)) × List kF × Int)) (Q : qa → Prop) : Prop :=
 ∃ T' a d, c = some (mm T', a, d) ∧ rU C T' a d ∧ Cc T g T' a ∧ Q T'
theorem EP.mono {C : List kB} {T : qa} {g : List kF} {a : Option (List (kA × List (ByteArray × Bool)) × List kF × Int)} {Q Q' : qa → Prop} (h : EP C T g a Q) (k : ∀ T', (∀ f ∈ FS T, f ∈ FS T') → Q T' → Q' T') : EP C T g a Q' := by
 obtain ⟨T', c, m, h1, i, d, j⟩ := h
 exact ⟨T', c, m, h1, i, d, k T' d.ng j⟩
def sB (C : List kB) : Prop := C.length ≤ 1000000
theorem sB.sq {C : List kB} (h : sB C) : C.length * C.length ≤ 1000000000000 := fj h h
theorem vq {T : qa} (hk : (T.map (·.1)).Nodup) (r : kA) (w : ByteArray) : zD mh ((mo kQ (mm T) r).getD []) w false = true ↔ (⟨r, w⟩ : kF) ∈ FS T := by
 rw [Ql, FQ, ni mO, DS hk]
theorem Fu {C : List kB} (y : sB C) {T : qa} {j : List kF} {n : Int} (h : rU C T j n) (cs : List kB) (J : List (kA × List kB)) (ws : List (ByteArray × List kB)) {r : kA} {w : ByteArray} (z : nY C ⟨r, w⟩) :
  EP C T j (oJ (mm T) cs J ws j n r w) (fun T' => (⟨r, w⟩ : kF) ∈ FS T') := by
 unfold oJ
 have E := y.sq
 have L := h.len
 have G := h.XY
 by_cases d : (⟨r, w⟩ : kF) ∈ FS T
 ·rw [aK ((vq h.keys r w).2 d)]
  exact ⟨T, j, n, rfl, h, Cc.refl _ _, d⟩
 ·rw [aJ (fun t => d ((vq h.keys r w).1 t))]
  have D : rU C (HJ T r w) (j ++ [⟨r, w⟩]) (n + 1) := by
   have hp := J5 T r w
   refine ⟨TP h.keys r w, (hp.nodup_iff).2 (bO.2 ⟨h.nd, by simp, fun a ha b m e => ?_⟩), bO.2 ⟨h.Pe, by simp, fun a ha b m e => ?_⟩, fun f c => hp.mem_iff.2 ?_, ?_, fun f c => ?_⟩
   ·simp at m; subst m; subst e; exact d ha
   ·simp at m; subst m; subst e; exact d (h.sub _ ha)
   ·rcases aR.1 c with c | c
    ·exact bF _ (h.sub f c)
    ·exact cy _ c
   ·rw [hp.length_eq, h.num]; simp
   ·rcases aR.1 (hp.mem_iff.1 c) with c | c
    ·exact h.yR f c
    ·simp at c; subst c; exact z
  have u : ((if (mo kQ (mm T) r).isNone = true then ((Jm kQ (mm T) r []).bind fun l => some l) else some (mm T)) : Option _).bind (fun l => (IY kQ mh l r w true)) = some (mm (HJ T r w)) := by
   unfold HJ tD
   rcases wQ r T with i | ⟨A, x, B, rfl, s⟩
   ·have q := yp kP (BF i)
    rw [q, yp kP i, FN kP i, G0]
    simp only [Option.isNone_none, bA, Jm, q, aA]
    rw [FN kP (BF i)]
    unfold IY
    rw [sy kP (BF i)]
    simp only [dC]
    rw [zz kP (BF i)]
    rfl
   ·have k := BF s
    have v : mo kQ (mm (A ++ (r, x) :: B)) r = some (tt x) := by rw [G0]; exact sy kP k
    rw [v, sy kP s, zz kP s]
    simp only [Option.isNone_some, aB, aS, aA, IY, v, dC, ir]
    have I : w ∉ x := fun hw => d (by
     rw [DS h.keys, tD, sy kP s]; exact hw)
    rw [KF mO]
    rw [show ins mh x w = x ++ [w] from by unfold ins; rw [aJ (fun t => I ((ni mO x w).1 t))]]
    rw [G0, show mm ((r, x) :: B) = (r, tt x) :: mm B from rfl, zz kP k, G0]
    rfl
  refine ⟨HJ T r w, j ++ [⟨r, w⟩], n + 1, ?_, D, ⟨fun f c => (J5 T r w).mem_iff.2 (bF _ c), fun f c => bF _ c, fun f c => ?_, fun f c => ?_⟩, (J5 T r w).mem_iff.2 (by simp)⟩
  ·have g := u
   generalize ((if (mo kQ (mm T) r).isNone = true then ((Jm kQ (mm T) r []).bind fun l => some l) else some (mm T)) : Option _) = o at g
   cases o with
   | none => cases g
   | some l =>
    simp only [aA] at g ⊢
    rw [g]
    simp only [aA]
    rw [mK (by simp; omega) (by simp; omega)]
    simp only [aA]
    rw [lC (by rw [h.num]; omega) (by rw [h.num]; omega)]
  ·rcases aR.1 ((J5 T r w).mem_iff.1 c) with h1 | h1
   ·exact .inl h1
   ·exact .inr (cy _ h1)
  ·rcases aR.1 c with h1 | h1
   ·exact .inl h1
   ·simp at h1; subst h1; exact .inr d
theorem BW (l : List ByteArray) (x : ByteArray) : x ∈ pd l ↔ x ∈ l := by unfold pd; simp
def rh (C : List kB) : Prop := ∀ c ∈ C, mf c = true
theorem SA {c : kB} (h : mf c = true) (hk : c.Kind = 1) : c.ly.size ≤ 16 := by
 rcases nP h with h | h | h | h
 ·exact (nD h.2.1).2
 ·exact absurd (hk.symm.trans h.1) (by decide)
 ·exact absurd (hk.symm.trans h.1) (by decide)
 ·exact absurd (hk.symm.trans h.1) (by decide)
theorem To {T : qa} (r : kA) (hk : (T.map (·.1)).Nodup) : (tD T r).length ≤ (FS T).length := by
 unfold tD
 rcases wQ r T with c | ⟨A, x, B, rfl, a⟩
 ·rw [yp kP c]; simp
 ·rw [sy kP a]
  simp only [FS, iU, fI, aI, dB, ir]
  omega
theorem J8 {C : List kB} (a : sB C) (d : rh C) {T : qa} {j : List kF} {n : Int} (h : rU C T j n) (cs : List kB) (k : List (kA × List kB)) (ws : List (ByteArray × List kB)) (q : List kF) (z : Int) (r : kA) :
  sd (mm T) cs k ws q z r = some (pd (tD T r)) := by
 unfold sd pJ
 rw [Ql]
 simp only [aA, ud]
 have s := To r h.keys
 have m := h.len
 have o := a.sq
 unfold Jz
 rw [VL, aK]
 refine ⟨OY h.nd r, fun p hp => ?_, by rw [Sd]; omega⟩
 simp only [tt, bI] at hp
 obtain ⟨w, hw, rfl⟩ := hp
 have i := h.yR ⟨r, w⟩ ((DS h.keys ⟨r, w⟩).2 hw)
 obtain ⟨c, g, hk, e⟩ := i.vz
 have := SA (d c g) hk
 simp only at e ⊢
 rw [← e]
 unfold maxLen
 omega
theorem RJ {C : List kB} (i : sB C) (cs : List kB) (g : List (kA × List kB)) (ws : List (ByteArray × List kB)) (head : kA) : ∀ (l : List ByteArray) {T : qa} {a : List kF} {n : Int}, rU C T a n → (∀ w ∈ l, nY C ⟨head, w⟩) →
  EP C T a (rk cs g ws head l (mm T) a n) (fun T' => ∀ w ∈ l, (⟨head, w⟩ : kF) ∈ FS T')
 | [], T, a, n, h, _ => ⟨T, a, n, rfl, h, Cc.refl _ _, fun _ hw => by cases hw⟩
 | w :: l, T, a, n, h, j => by
  rw [rk]
  obtain ⟨T1, t, u, k, g1, x1, q⟩ := Fu i h cs g ws (j w (by simp))
  rw [k]
  simp only [aA]
  obtain ⟨T2, d, o, m, g2, x2, s⟩ := RJ i cs g ws head l g1 (fun w hw => j w (by simp [hw]))
  refine ⟨T2, d, o, m, g2, x1.trans x2, fun v c => ?_⟩
  rcases aQ.1 c with rfl | c
  ·exact x2.ng _ q
  ·exact s v c
theorem WI {C : List kB} (c : sB C) (g : rh C) {T : qa} {a : List kF} {n : Int} (h : rU C T a n) (cs : List kB) (d : List (kA × List kB)) (ws : List (ByteArray × List kB)) (r head : kA) (i : ∀ w, (⟨r, w⟩ : kF) ∈ FS T → nY C ⟨head, w⟩) :
  EP C T a (wj (mm T) cs d ws a n r head) (fun T' => ∀ w, (⟨r, w⟩ : kF) ∈ FS T → (⟨head, w⟩ : kF) ∈ FS T') := by
 unfold wj
 rw [J8 c g h]
 simp only [aA]
 refine (RJ c cs d ws head _ h (fun w hw => i w ((DS h.keys ⟨r, w⟩).2 ((BW _ _).1 hw)))).mono (fun T' _ j w hw => j w ((BW _ _).2 ((DS h.keys ⟨r, w⟩).1 hw)))
def H3 (c : kB) (f : kF) (T T' : qa) : Prop :=
 (c.Kind = 2 → f.kA = c.B → (⟨c.Head, f.ly⟩ : kF) ∈ FS T') ∧
 (c.Kind = 3 → f.kA = c.B → ∀ w, (⟨⟨f.ly, c.lU⟩, w⟩ : kF) ∈ FS T → (⟨c.Head, w⟩ : kF) ∈ FS T') ∧
 (c.Kind = 4 → (⟨c.B, f.ly⟩ : kF) ∈ FS T → (⟨c.C, f.ly⟩ : kF) ∈ FS T → (⟨c.Head, f.ly⟩ : kF) ∈ FS T')
theorem H3.mono {c : kB} {f : kF} {T T' T0 T1 : qa} (h : H3 c f T T') (g : ∀ f ∈ FS T0, f ∈ FS T) (h1 : ∀ f ∈ FS T', f ∈ FS T1) : H3 c f T0 T1 :=
 ⟨fun a b => h1 _ (h.1 a b), fun a b w hw => h1 _ (h.2.1 a b w (g _ hw)), fun a b d => h1 _ (h.2.2 a (g _ b) (g _ d))⟩
theorem U4 (x : Option (List (kA × List (ByteArray × Bool)) × List kF × Int)) : (x.bind fun r => some (r.1, r.2.1, r.2.2)) = x := by cases x <;> rfl
theorem RL {C : List kB} (s : sB C) (A : rh C) {T : qa} {j : List kF} {n : Int} (h : rU C T j n) (cs : List kB) (o : List (kA × List kB)) (ws : List (ByteArray × List kB)) {c : kB} (t : c ∈ C) {f : kF} (v : f ∈ FS T) (z : f.kA ∈ pr c) :
  EP C T j (tk (mm T) cs o ws j n c f) (H3 c f T) := by
 unfold tk
 simp only [U4, Bs]
 by_cases a : c.Kind = 2
 ·have q : f.kA = c.B := by simpa [pr, a] using z
  rw [aK (by simp [a])]
  have u : nY C ⟨c.Head, f.ly⟩ := .inc c f.ly t a (by rw [← q]; exact h.yR f v)
  refine (Fu s h cs o ws u).mono (fun T' _ i => ⟨fun _ _ => i, fun k => absurd (a.symm.trans k) (by decide), fun k => absurd (a.symm.trans k) (by decide)⟩)
 rw [aJ (by simp [a])]
 by_cases d : c.Kind = 3
 ·have q : f.kA = c.B := by simpa [pr, d] using z
  rw [aK (by simp [d])]
  refine (WI s A h cs o ws ⟨f.ly, c.lU⟩ c.Head (fun w hw => .IB c f.ly w t d (by rw [← q]; exact h.yR f v) (h.yR _ hw))).mono (fun T' _ i => ⟨fun k => absurd k a, fun _ _ w hw => i w hw, fun k => absurd (d.symm.trans k) (by decide)⟩)
 rw [aJ (by simp [d])]
 by_cases m : c.Kind = 4
 ·rw [aK (by simp [m])]
  simp only [aA]
  by_cases g : (⟨c.B, f.ly⟩ : kF) ∈ FS T ∧ (⟨c.C, f.ly⟩ : kF) ∈ FS T
  ·rw [aK (by rw [aP, vq h.keys, vq h.keys]; exact g)]
   have u : nY C ⟨c.Head, f.ly⟩ := .both c f.ly t m (h.yR _ g.1) (h.yR _ g.2)
   exact (Fu s h cs o ws u).mono (fun T' _ i => ⟨fun k => absurd k a, fun k => absurd k d, fun _ _ _ => i⟩)
  ·rw [aJ (by rw [aP, vq h.keys, vq h.keys]; exact g)]
   exact ⟨T, j, n, rfl, h, Cc.refl _ _, fun k => absurd k a, fun k => absurd k d, fun _ x y => absurd ⟨x, y⟩ g⟩
 ·rw [aJ (by simp [m])]
  exact ⟨T, j, n, rfl, h, Cc.refl _ _, fun k => absurd k a, fun k => absurd k d, fun k => absurd k m⟩
theorem Ng {C : List kB} (j : sB C) (k : rh C) (cs : List kB) (i : List (kA × List kB)) (ws : List (ByteArray × List kB)) {c : kB} (m : c ∈ C) (o : c.B ∈ pr c) : ∀ (l : List ByteArray) {T : qa} {a : List kF} {n : Int}, rU C T a n → (∀ w ∈ l, (⟨c.B, w⟩ : kF) ∈ FS T) →
  EP C T a (qe cs i ws c l (mm T) a n) (fun T' => ∀ w ∈ l, H3 c ⟨c.B, w⟩ T T')
 | [], T, a, n, h, _ => ⟨T, a, n, rfl, h, Cc.refl _ _, fun _ hw => by cases hw⟩
 | w :: l, T, a, n, h, hm => by
  rw [qe]
  obtain ⟨T1, y, z, q, g1, x1, u⟩ := RL j k h cs i ws m (f := ⟨c.B, w⟩) (hm w (by simp)) o
  rw [q]
  simp only [aA]
  obtain ⟨T2, g, t, s, g2, x2, x⟩ := Ng j k cs i ws m o l g1 (fun w hw => x1.ng _ (hm w (by simp [hw])))
  refine ⟨T2, g, t, s, g2, x1.trans x2, fun v d => ?_⟩
  rcases aQ.1 d with rfl | d
  ·exact u.mono (fun _ h => h) x2.ng
  ·exact (x v d).mono x1.ng (fun _ h => h)
def Ix (c : kB) (T : qa) (a : List kF) : Prop :=
 (c.Kind = 1 → (⟨c.Head, c.ly⟩ : kF) ∈ FS T) ∧
 (c.Kind = 2 → ∀ w, (⟨c.B, w⟩ : kF) ∈ FS T → (⟨c.B, w⟩ : kF) ∉ a → (⟨c.Head, w⟩ : kF) ∈ FS T) ∧
 (c.Kind = 3 → ∀ b w, (⟨c.B, b⟩ : kF) ∈ FS T → (⟨c.B, b⟩ : kF) ∉ a → (⟨⟨b, c.lU⟩, w⟩ : kF) ∈ FS T → (⟨⟨b, c.lU⟩, w⟩ : kF) ∉ a → (⟨c.Head, w⟩ : kF) ∈ FS T) ∧
 (c.Kind = 4 → ∀ w, (⟨c.B, w⟩ : kF) ∈ FS T → (⟨c.B, w⟩ : kF) ∉ a → (⟨c.C, w⟩ : kF) ∈ FS T → (⟨c.C, w⟩ : kF) ∉ a → (⟨c.Head, w⟩ : kF) ∈ FS T)
theorem Ix.ext {c : kB} {T T' : qa} {i d : List kF} (h : Ix c T i) (x : Cc T i T' d) : Ix c T' d := by
 have ng : ∀ f, f ∈ FS T' → f ∉ d → f ∈ FS T ∧ f ∉ i := fun f n j => by
  rcases x.new f n with h1 | h1
  ·exact ⟨h1, fun m => j (x.todo f m)⟩
  ·exact absurd h1 j
 refine ⟨fun k => x.ng _ (h.1 k), fun k w a b => ?_, fun k b w g a2 a3 a4 => ?_, fun k w g a2 a3 a4 => ?_⟩
 ·exact x.ng _ (h.2.1 k w (ng _ a b).1 (ng _ a b).2)
 ·exact x.ng _ (h.2.2.1 k b w (ng _ g a2).1 (ng _ g a2).2 (ng _ a3 a4).1 (ng _ a3 a4).2)
 ·exact x.ng _ (h.2.2.2 k w (ng _ g a2).1 (ng _ g a2).2 (ng _ a3 a4).1 (ng _ a3 a4).2)
theorem Uv {C : List kB} (m : sB C) (u : rh C) {T : qa} {s : List kF} {n : Int} (h : rU C T s n) (cs : List kB) (t : List (kA × List kB)) (ws : List (ByteArray × List kB)) {c : kB} (v : c ∈ C) :
  ∃ T' d i, uE (mm T) cs t ws s n c = some (mm T', d, i) ∧ rU C T' d i ∧ Cc T s T' d ∧ Ix c T' d := by
 unfold uE
 simp only [U4]
 by_cases h1 : c.Kind = 1
 ·rw [aK (by simp [h1])]
  obtain ⟨T', d, i, e, g, x, q⟩ := Fu m h cs t ws (nY.mem c v h1)
  exact ⟨T', d, i, e, g, x, fun _ => q, fun k => absurd (h1.symm.trans k) (by decide), fun k => absurd (h1.symm.trans k) (by decide), fun k => absurd (h1.symm.trans k) (by decide)⟩
 ·rw [aJ (by simp [h1]), J8 m u h]
  simp only [aA]
  have A : c.B ∈ pr c := by unfold pr; rw [aJ h1]; split <;> simp
  obtain ⟨T', d, i, e, g, x, q⟩ := Ng m u cs t ws v A (pd (tD T c.B)) h (fun w hw => (DS h.keys ⟨c.B, w⟩).2 ((BW _ _).1 hw))
  have ng : ∀ f, f ∈ FS T' → f ∉ d → f ∈ FS T := fun f y z => by
   rcases x.new f y with h1 | h1
   ·exact h1
   ·exact absurd h1 z
  have o : ∀ w, (⟨c.B, w⟩ : kF) ∈ FS T → H3 c ⟨c.B, w⟩ T T' := fun w hw => q w ((BW _ _).2 ((DS h.keys ⟨c.B, w⟩).1 hw))
  refine ⟨T', d, i, e, g, x, fun k => absurd k h1, fun k w a b => ?_, fun k b w j a2 a3 a4 => ?_, fun k w j a2 a3 a4 => ?_⟩
  ·exact (o w (ng _ a b)).1 k rfl
  ·exact (o b (ng _ j a2)).2.1 k rfl w (ng _ a3 a4)
  ·exact (o w (ng _ j a2)).2.2 k (ng _ j a2) (ng _ a3 a4)
structure Hu (C : List kB) (us : List (kA × List kB)) (ws : List (ByteArray × List kB)) : Prop where
 Tx : ∀ r c, c ∈ (mo kQ us r).getD [] ↔ c ∈ C ∧ r ∈ pr c
 word : ∀ w c, c ∈ (mo mh ws w).getD [] ↔ c ∈ C ∧ c.Kind = 3 ∧ c.lU = w
 XD : ∀ r, ((mo kQ us r).getD []).length ≤ 2 * C.length
 XM : ∀ w, ((mo mh ws w).getD []).length ≤ C.length
theorem Lg {C : List kB} (j : sB C) (k : rh C) (cs : List kB) (i : List (kA × List kB)) (ws : List (ByteArray × List kB)) {f : kF} : ∀ (l : List kB) {T : qa} {a : List kF} {n : Int}, rU C T a n → f ∈ FS T → (∀ c ∈ l, c ∈ C ∧ f.kA ∈ pr c) →
  EP C T a (pV cs i ws f l (mm T) a n) (fun T' => ∀ c ∈ l, H3 c f T T')
 | [], T, a, n, h, _, _ => ⟨T, a, n, rfl, h, Cc.refl _ _, fun _ hw => by cases hw⟩
 | c :: l, T, a, n, h, m, hm => by
  rw [pV]
  obtain ⟨T1, x, y, o, g1, x1, u⟩ := RL j k h cs i ws (hm c (by simp)).1 m (hm c (by simp)).2
  rw [o]
  simp only [aA]
  obtain ⟨T2, g, t, q, g2, x2, w⟩ := Lg j k cs i ws l g1 (x1.ng _ m) (fun c s => hm c (by simp [s]))
  refine ⟨T2, g, t, q, g2, x1.trans x2, fun v d => ?_⟩
  rcases aQ.1 d with rfl | d
  ·exact u.mono (fun _ h => h) x2.ng
  ·exact (w v d).mono x1.ng (fun _ h => h)
theorem G5 {C : List kB} (o : sB C) (x : rh C) (cs : List kB) (k : List (kA × List kB)) (ws : List (ByteArray × List kB)) {f : kF} : ∀ (l : List kB) {T : qa} {i : List kF} {n : Int}, rU C T i n → f ∈ FS T → (∀ c ∈ l, c ∈ C ∧ c.Kind = 3 ∧ c.lU = f.kA.kU) →
  EP C T i (oO f cs k ws l (mm T) i n) (fun T' => ∀ c ∈ l, (⟨c.B, f.kA.kI⟩ : kF) ∈ FS T → (⟨c.Head, f.ly⟩ : kF) ∈ FS T')
 | [], T, i, n, h, _, _ => ⟨T, i, n, rfl, h, Cc.refl _ _, fun _ hw => by cases hw⟩
 | c :: l, T, i, n, h, s, hm => by
  rw [oO]
  have hk := hm c (by simp)
  by_cases j : (⟨c.B, f.kA.kI⟩ : kF) ∈ FS T
  ·rw [aK ((vq h.keys _ _).2 j)]
   have t : f = ⟨⟨f.kA.kI, c.lU⟩, f.ly⟩ := by rw [hk.2.2]
   have z : nY C ⟨c.Head, f.ly⟩ := .IB c f.kA.kI f.ly hk.1 hk.2.1 (h.yR _ j) (by rw [← t]; exact h.yR f s)
   obtain ⟨T1, E, G, y, g1, x1, D⟩ := Fu o h cs k ws z
   rw [y]
   simp only [aA]
   obtain ⟨T2, g, u, m, g2, x2, w⟩ := G5 o x cs k ws l g1 (x1.ng _ s) (fun c q => hm c (by simp [q]))
   refine ⟨T2, g, u, m, g2, x1.trans x2, fun v d a => ?_⟩
   rcases aQ.1 d with rfl | d
   ·exact x2.ng _ D
   ·exact w v d (x1.ng _ a)
  ·rw [aJ (fun A => j ((vq h.keys _ _).1 A))]
   obtain ⟨T2, g, u, m, g2, x2, w⟩ := G5 o x cs k ws l h s (fun c q => hm c (by simp [q]))
   refine ⟨T2, g, u, m, g2, x2, fun v d a => ?_⟩
   rcases aQ.1 d with rfl | d
   ·exact absurd a j
   ·exact w v d a
theorem LH {C : List kB} (I : sB C) (J : rh C) {cs : List kB} {E : List (kA × List kB)} {ws : List (ByteArray × List kB)} (y : Hu C E ws) : ∀ (m : Nat) {T : qa} {o : List kF} {n : Int}, rU C T o n → (∀ c ∈ C, Ix c T o) → C.length * C.length + o.length < m + (FS T).length →
  ∃ T' P, nV cs E ws m (mm T) o n = some (mm T', [], P) ∧ rU C T' [] P ∧ (∀ c ∈ C, Ix c T' []) ∧ (∀ f ∈ FS T, f ∈ FS T')
 | 0, T, o, n, h, _, hm => by have := h.len; omega
 | m + 1, T, [], n, h, s, hm => by
  rw [nV]
  exact ⟨T, n, rfl, h, s, fun _ h => h⟩
 | m + 1, T, f :: o, n, h, s, hm => by
  rw [nV]
  rw [aK (by simp)]
  have M : f ∈ FS T := h.sub f (by simp)
  have Y := (cL.1 h.Pe)
  simp only [mC, Int.le_refl, bA, Int.toNat_zero, gw, aA]
  rw [show nM (decide ((0 : Nat) ≤ 1) && decide ((1 : Int) ≤ ((f :: o).length : Int))) = some () by simp [nM]; omega]
  simp only [aA, show Int.toNat 1 = 1 from rfl, List.drop_one, List.tail_cons]
  have L : rU C T o n := ⟨h.keys, h.nd, Y.2, fun g A => h.sub g (by simp [A]), h.num, h.yR⟩
  obtain ⟨T1, a6, n1, R, g1, x1, q1⟩ := Lg I J cs E ws ((mo kQ E f.kA).getD []) L M (fun c i => (y.Tx _ c).1 i)
  rw [R]
  simp only [aA]
  obtain ⟨T2, t, n2, U, g2, x2, q2⟩ := G5 I J cs E ws ((mo mh ws f.kA.kU).getD []) g1 (x1.ng _ M) (fun c i => (y.word _ c).1 i)
  rw [U]
  simp only [aA]
  have x := x1.trans x2
  have ng : ∀ g, g ∈ FS T2 → g ∉ t → g ∈ FS T ∧ (g = f ∨ g ∉ f :: o) := fun g A D => by
   rcases x.new g A with h1 | h1
   ·refine ⟨h1, ?_⟩
    by_cases he : g = f
    ·exact .inl he
    ·exact .inr (fun v => by
      rcases aQ.1 v with v | v
      ·exact he v
      ·exact D (x.todo g v))
   ·exact absurd h1 D
  have d1 : ∀ c ∈ C, f.kA ∈ pr c → H3 c f T T2 := fun c i Z => (q1 c ((y.Tx _ c).2 ⟨i, Z⟩)).mono (fun _ h => h) x2.ng
  have z : ∀ c ∈ C, Ix c T2 t := fun c i => by
   have k := s c i
   refine ⟨fun hk => x.ng _ (k.1 hk), fun hk w a b => ?_, fun hk b w G a2 a3 a4 => ?_, fun hk w G a2 a3 a4 => ?_⟩
   ·obtain ⟨q, d⟩ := ng _ a b
    rcases d with d | d
    ·subst d; exact (d1 c i (by simp [pr, hk])).1 hk rfl
    ·exact x.ng _ (k.2.1 hk w q d)
   ·obtain ⟨q, d⟩ := ng _ G a2
    obtain ⟨u, j⟩ := ng _ a3 a4
    rcases d with d | d
    ·subst d; exact (d1 c i (by simp [pr, hk])).2.1 hk rfl w u
    ·rcases j with j | j
     ·subst j
      exact q2 c ((y.word _ c).2 ⟨i, hk, rfl⟩) (x1.ng _ q)
     ·exact x.ng _ (k.2.2.1 hk b w q d u j)
   ·obtain ⟨q, d⟩ := ng _ G a2
    obtain ⟨u, j⟩ := ng _ a3 a4
    rcases d with d | d
    ·subst d; exact (d1 c i (by simp [pr, hk])).2.2 hk q u
    ·rcases j with j | j
     ·subst j; exact (d1 c i (by simp [pr, hk])).2.2 hk q u
     ·exact x.ng _ (k.2.2.2 hk w q d u j)
  have hlen : t.length + (FS T).length ≤ o.length + (FS T2).length := by
   exact g2.IK L x
  obtain ⟨T3, n3, W, g3, Q, o3⟩ := LH I J y m g2 z (by simp only [aH] at hm; omega)
  exact ⟨T3, n3, W, g3, Q, fun g A => o3 g (x.ng g A)⟩
theorem P9 (c : kB) : ∀ (l : List kB) (i : Nat), ∃ z, ra c l i = some z ∧ (z ≥ 0 ↔ c ∈ l)
 | [], i => ⟨-1, rfl, by simp⟩
 | x :: l, i => by
  rw [ra]
  by_cases h : oP c x = true
  ·rw [aK h]
   exact ⟨_, rfl, by simp [xj.1 h]⟩
  ·rw [aJ h]
   obtain ⟨z, e, d⟩ := P9 c l (i + 1)
   refine ⟨z, e, ?_⟩
   rw [d, aQ]
   exact ⟨.inr, fun a => a.resolve_left (fun e => h (xj.2 e))⟩
theorem N7 (c : kB) (l : List kB) : ∃ b, zI l c = some b ∧ (b = true ↔ c ∈ l) := by
 obtain ⟨z, e, a⟩ := P9 c l 0
 refine ⟨decide (z ≥ 0), ?_, by simpa using a⟩
 unfold zI xh yx
 rw [e]
 rfl
theorem Pt (c : kB) (ws : List (ByteArray × List kB)) (C : List kB) (hw : ∀ w, ((mo mh ws w).getD []).length ≤ 2000000) : ∀ (k : List kA) (a : List (kA × List kB)), (∀ r, ((mo kQ a r).getD []).length + k.length ≤ 4000000) →
  ∃ i j, pv c ws C k a = some (C, i, j) ∧ (∀ r x, x ∈ (mo kQ i r).getD [] ↔ x ∈ (mo kQ a r).getD [] ∨ (x = c ∧ r ∈ k)) ∧
   (∀ w x, x ∈ (mo mh j w).getD [] ↔ x ∈ (mo mh ws w).getD [] ∨ (x = c ∧ c.Kind = 3 ∧ w = c.lU)) ∧ (∀ r, ((mo kQ i r).getD []).length ≤ ((mo kQ a r).getD []).length + k.length) ∧
   (∀ w, ((mo mh j w).getD []).length ≤ ((mo mh ws w).getD []).length + 1)
 | [], a, _ => by
  rw [pv]
  by_cases m : c.Kind = 3
  ·rw [aK (by simp [m])]
   have h := hw c.lU
   rw [mK (by simp; omega) (by simp; omega)]
   simp only [aA]
   refine ⟨a, _, rfl, by simp, fun w x => ?_, by simp, fun w => ?_⟩
   ·rw [HB mO]
    by_cases hk : mh w c.lU = true
    ·rw [aK hk, mO.1 hk]; simp [m]
    ·rw [aJ hk]
     have : w ≠ c.lU := fun e => hk (mO.2 e)
     simp [this]
   ·rw [HB mO]
    by_cases hk : mh w c.lU = true
    ·rw [aK hk, mO.1 hk]; simp
    ·rw [aJ hk]; exact jz _
  ·rw [aJ (by simp [m])]
   exact ⟨a, ws, rfl, by simp, by simp [m], by simp, by simp⟩
 | d :: k, a, n => by
  rw [pv]
  have h := n d
  simp only [aH] at h
  rw [mK (by simp; omega) (by simp; omega)]
  simp only [aA]
  have g : ∀ r, (mo kQ (ow kQ a d (((mo kQ a d).getD []) ++ [c])) r).getD [] = if kQ r d = true then ((mo kQ a d).getD []) ++ [c] else (mo kQ a r).getD [] := fun r => by
   rw [HB kP]; by_cases hk : kQ r d = true
   ·rw [aK hk, aK hk]; rfl
   ·rw [aJ hk, aJ hk]
  obtain ⟨i, j, e, o, a2, a3, a4⟩ := Pt c ws C hw k (ow kQ a d (((mo kQ a d).getD []) ++ [c])) (fun r => by
   rw [g r]
   have q := n r
   simp only [aH] at q
   by_cases hk : kQ r d = true
   ·rw [aK hk]; simp; omega
   ·rw [aJ hk]; omega)
  refine ⟨i, j, e, fun r x => ?_, a2, fun r => ?_, a4⟩
  ·rw [o, g]
   by_cases hk : kQ r d = true
   ·rw [aK hk, kP.1 hk]
    simp only [aR, aQ, da, fh]
    constructor
    ·rintro ((h | h) | h)
     ·exact .inl h
     ·exact .inr ⟨h, .inl trivial⟩
     ·exact .inr ⟨h.1, .inr h.2⟩
    ·rintro (h | h)
     ·exact .inl (.inl h)
     ·exact .inl (.inr h.1)
   ·rw [aJ hk]
    have : r ≠ d := fun e => hk (kP.2 e)
    simp [this]
  ·have := a3 r
   rw [g r] at this
   by_cases hk : kQ r d = true
   ·rw [aK hk] at this; rw [kP.1 hk] at this ⊢; simp at this ⊢; omega
   ·rw [aJ hk] at this; simp; omega
theorem Vz {C : List kB} {k : List (kA × List kB)} {ws : List (ByteArray × List kB)} (j : Hu C k ws) (t : C.length + 1 ≤ 1000000) {c : kB} (o : mf c = true) (i : List (kA × List (ByteArray × Bool))) (s : List kF) (n : Int) :
  ∃ a d, vx i C k ws s n c = some (C ++ [c], a, d) ∧ Hu (C ++ [c]) a d := by
 unfold vx
 rw [mK (by simp; omega) (by simp; omega)]
 simp only [aA, Ww o]
 rw [show nM (decide ((0 : Nat) ≤ 1) && decide ((1 : Int) ≤ ((c.Head :: pr c).length : Int))) = some () by simp [nM]; omega]
 simp only [aA, show Int.toNat 1 = 1 from rfl, List.drop_one, List.tail_cons]
 have q : (pr c).length ≤ 2 := by unfold pr; split; simp; split <;> simp
 obtain ⟨a, d, e, m, a2, a3, a4⟩ := Pt c ws (C ++ [c]) (fun w => by have := j.XM w; omega) (pr c) k (fun r => by have := j.XD r; omega)
 refine ⟨a, d, e, fun r x => ?_, fun w x => ?_, fun r => ?_, fun w => ?_⟩
 ·rw [m, j.Tx, aR, aN]
  constructor
  ·rintro (h | h)
   ·exact ⟨.inl h.1, h.2⟩
   ·exact ⟨.inr h.1, by rw [h.1]; exact h.2⟩
  ·rintro ⟨h | h, g⟩
   ·exact .inl ⟨h, g⟩
   ·exact .inr ⟨h, by rw [← h]; exact g⟩
 ·rw [a2, j.word, aR, aN]
  constructor
  ·rintro (h | h)
   ·exact ⟨.inl h.1, h.2⟩
   ·exact ⟨.inr h.1, by rw [h.1]; exact ⟨h.2.1, h.2.2.symm⟩⟩
  ·rintro ⟨h | h, g⟩
   ·exact .inl ⟨h, g⟩
   ·subst h; exact .inr ⟨rfl, g.1, g.2.symm⟩
 ·have := a3 r; have := j.XD r; simp; omega
 ·have := a4 w; have := j.XM w; simp; omega
structure MS (C : List kB) (T : qa) (us : List (kA × List kB)) (ws : List (ByteArray × List kB)) (n : Int) : Prop where
 sf : rU C T [] n
 cl : ∀ c ∈ C, Ix c T []
 Zc : Hu C us ws
 right : rh C
theorem MS.all {C : List kB} {T : qa} {j : List (kA × List kB)} {ws : List (ByteArray × List kB)} {n : Int} (h : MS C T j ws n) (f : kF) : f ∈ FS T ↔ nY C f := by
 refine ⟨h.sf.yR f, fun i => ?_⟩
 induction i with
 | mem c a hk => exact (h.cl c a).1 hk
 | inc c w a hk _ ih => exact (h.cl c a).2.1 hk w ih (by simp)
 | IB c b w a hk _ _ d g => exact (h.cl c a).2.2.1 hk b w d (by simp) g (by simp)
 | both c w a hk _ _ d g => exact (h.cl c a).2.2.2 hk w d (by simp) g (by simp)
theorem NG (s : Int) (A : 0 ≤ s ∧ s ≤ 1000000000000) : ∀ (l : List kB) {C : List kB} {T : qa} {q : List kF} {D : List (kA × List kB)} {ws : List (ByteArray × List kB)} {n : Int}, rU C T q n → (∀ c ∈ C, Ix c T q) → Hu C D ws → rh C → C.length + l.length ≤ 1000000 →
  ∃ C' T' a d j, oL s l (mm T) C D ws q n = some (j - s, mm T', C', a, d, [], j) ∧ MS C' T' a d j ∧ (∀ c, c ∈ C' ↔ c ∈ C ∨ (c ∈ l ∧ mf c = true)) ∧ C'.length ≤ C.length + l.length ∧ (∀ f ∈ FS T, f ∈ FS T')
 | [], C, T, q, D, ws, n, g, i, v, t, P => by
  rw [oL]
  have Z : sB C := by unfold sB; simp at P; omega
  have a7 := Z.sq
  have hlen := g.len
  have a8 := g.XY
  obtain ⟨T', j, e, I, c', o⟩ := LH Z t v (cs := C) lE g i (by rw [pe]; omega)
  unfold xe
  rw [e]
  simp only [aA]
  have Q := I.len
  have a6 := I.num
  rw [lC (by omega) (by omega)]
  exact ⟨C, T', D, ws, j, rfl, ⟨I, c', v, t⟩, by simp, by simp, o⟩
 | x :: l, C, T, q, D, ws, n, g, i, v, t, P => by
  rw [oL, pZ]
  simp only [aH] at P
  obtain ⟨b, hb, w⟩ := N7 x C
  simp only [aA, hb, Bs]
  by_cases k : mf x = true ∧ x ∉ C
  ·have L : b = false := by cases b with | false => rfl | true => exact absurd (w.1 rfl) k.2
   rw [k.1, L]
   simp only [cT, Bool.and_self, bA]
   obtain ⟨W, Y, e1, U1⟩ := Vz v (by omega) k.1 (mm T) q n
   rw [e1]
   simp only [aA]
   have J : sB (C ++ [x]) := by unfold sB; simp; omega
   have u : rh (C ++ [x]) := fun c y => by
    rcases aR.1 y with h | h
    ·exact t c h
    ·simp at h; subst h; exact k.1
   have g1 : rU (C ++ [x]) T q n := g.mono (fun c y => bF _ y)
   obtain ⟨T2, U, n2, e2, g2, x2, c2⟩ := Uv J u g1 (C ++ [x]) W Y (c := x) (by simp)
   rw [e2]
   simp only [aA]
   have z : ∀ c ∈ C ++ [x], Ix c T2 U := fun c y => by
    rcases aR.1 y with h | h
    ·exact (i c h).ext x2
    ·simp at h; subst h; exact c2
   obtain ⟨C', T', a, d, j, e, m, G, a2, a3⟩ := NG s A l g2 z U1 u (by simp; omega)
   refine ⟨C', T', a, d, j, e, m, fun c => ?_, by simp at a2 ⊢; omega, fun f M => a3 f (x2.ng f M)⟩
   rw [G]
   simp only [aR, aQ, da, fh]
   constructor
   ·rintro ((h | h) | h)
    ·exact .inl h
    ·subst h; exact .inr ⟨.inl rfl, k.1⟩
    ·exact .inr ⟨.inr h.1, h.2⟩
   ·rintro (h | ⟨h | h, E⟩)
    ·exact .inl (.inl h)
    ·exact .inl (.inr h)
    ·exact .inr ⟨h, E⟩
  ·have M : (mf x && !b) = false := by
    cases hr : mf x with
    | false => rfl
    | true =>
     have : x ∈ C := dV fun R => k ⟨hr, R⟩
     rw [w.2 this]; rfl
   rw [M]
   simp only [aB, aS]
   obtain ⟨C', T', a, d, j, e, m, G, a2, a3⟩ := NG s A l g i v t (by omega)
   refine ⟨C', T', a, d, j, e, m, fun c => ?_, by simp; omega, a3⟩
   rw [G, aQ]
   constructor
   ·rintro (h | h)
    ·exact .inl h
    ·exact .inr ⟨.inr h.1, h.2⟩
   ·rintro (h | ⟨h | h, E⟩)
    ·exact .inl h
    ·subst h
     exact .inl (dV fun R => k ⟨E, R⟩)
    ·exact .inr ⟨h, E⟩
theorem Wl {C : List kB} {T : qa} {i : List (kA × List kB)} {ws : List (ByteArray × List kB)} {n : Int} (h : MS C T i ws n) (l : List kB) (k : C.length + l.length ≤ 1000000) :
  ∃ C' T' a d g, wi (mm T) C i ws [] n l = some (g - n, mm T', C', a, d, [], g) ∧ MS C' T' a d g ∧ (∀ c, c ∈ C' ↔ c ∈ C ∨ (c ∈ l ∧ mf c = true)) ∧ C'.length ≤ C.length + l.length ∧ (∀ f ∈ FS T, f ∈ FS T') := by
 have j : sB C := by unfold sB; omega
 have h1 := h.sf.len
 have m := j.sq
 have o := h.sf.num
 exact NG n ⟨by omega, by omega⟩ l h.sf h.cl h.Zc h.right k
theorem Hu.zero : Hu [] [] [] := ⟨fun r c => by simp [mo], fun w c => by simp [mo], fun r => by simp [mo], fun w => by simp [mo]⟩
theorem rU.zero : rU [] [] [] 0 := ⟨by simp, by simp [FS], by simp, by simp, by simp [FS], by simp [FS]⟩
theorem MS.zero : MS [] [] [] [] 0 := ⟨rU.zero, fun c a => (by cases a), Hu.zero, fun c a => (by cases a)⟩
theorem UH (l : List kB) (i : l.length ≤ 1000000) : ∃ C T g ws n, vp l = some (mm T, C, g, ws, [], n) ∧ MS C T g ws n ∧ (∀ c, c ∈ C ↔ c ∈ l ∧ mf c = true) ∧ C.length ≤ l.length := by
 unfold vp
 obtain ⟨C', T', a, d, j, e, m, h, a2, a3⟩ := Wl MS.zero l (by simpa using i)
 rw [show wi [] [] [] [] [] 0 l = _ from e]
 exact ⟨C', T', a, d, j, rfl, m, by simpa using h, by simpa using a2⟩
theorem nY.congr {C C' : List kB} (h : ∀ c, c ∈ C ↔ c ∈ C') (f : kF) : nY C f ↔ nY C' f := ⟨fun d => d.mono (fun c a => (h c).1 a), fun d => d.mono (fun c a => (h c).2 a)⟩
def Bz (a b : kF) : Bool := xl a.kA b.kA || (kQ a.kA b.kA && qz a.ly b.ly)
theorem C9 {a b : kF} : Bz a b = true ↔ xl a.kA b.kA = true ∨ (a.kA = b.kA ∧ qz a.ly b.ly = true) := by simp [Bz, kP]
def Gl (_ : kF) : Bool := true
theorem J6 : BN (fun a b => Bz a b = true) (fun x => Gl x = true) := by
 have H := tU (fun _ => True)
 refine ⟨fun x _ => ?_, fun x y z _ _ _ h1 c => ?_, fun x y _ _ => ?_⟩
 ·rw [C9]
  rintro (h | ⟨_, h⟩)
  ·exact H.irrefl _ trivial h
  ·rw [vr] at h; cases h
 ·rw [C9] at *
  rcases h1 with h1 | ⟨g, h1⟩
  ·rcases c with c | ⟨d, c⟩
   ·exact .inl (H.trans _ _ _ trivial trivial trivial h1 c)
   ·exact .inl (by rw [← d]; exact h1)
  ·rcases c with c | ⟨d, c⟩
   ·exact .inl (by rw [g]; exact c)
   ·exact .inr ⟨g.trans d, Cf h1 c⟩
 ·simp only [C9]
  rcases H.total x.kA y.kA trivial trivial with h | h | h
  ·exact .inl (.inl h)
  ·rcases B5 x.ly y.ly with c | c | c
   ·exact .inl (.inr ⟨h, c⟩)
   ·refine .inr (.inl ?_)
    cases x; cases y; simp at h c; simp [h, c]
   ·exact .inr (.inr (.inr ⟨h.symm, c⟩))
  ·exact .inr (.inr (.inl h))
theorem J7 (a b : ByteArray) : oH a b = 0 ↔ a = b := by unfold oH; rw [Gm]; exact ⟨B3, fun h => by rw [h]⟩
theorem Ya (a b : ByteArray) : oH a b < 0 ↔ qz a b = true := by rw [BC]; exact Ig _ _
theorem SU (a b : kA) : ∃ c, nB a b = some c ∧ (c < 0 ↔ xl a b = true) ∧ (c = 0 ↔ a = b) := by
 obtain ⟨c, e, h⟩ := vm a b
 refine ⟨c, e, h, ?_⟩
 unfold nB at e
 simp only [pQ, nI, aA, sv, pk, ud] at e
 by_cases d : oH a.kI b.kI = 0
 ·rw [aJ (by simp [d])] at e
  have h1 := (J7 _ _).1 d
  by_cases g : oH a.kU b.kU = 0
  ·rw [aJ (by simp [g])] at e
   have i := (J7 _ _).1 g
   cases e
   refine ⟨fun _ => ?_, fun _ => rfl⟩
   cases a; cases b; simp at h1 i; simp [h1, i]
  ·rw [aK (by simp [g])] at e
   cases e
   exact ⟨fun k => absurd k g, fun k => by rw [k] at g; exact absurd ((J7 _ _).2 rfl) g⟩
 ·rw [aK (by simp [d])] at e
  cases e
  exact ⟨fun k => absurd k d, fun k => by rw [k] at d; exact absurd ((J7 _ _).2 rfl) d⟩
theorem Tw (a b : kF) : ∃ c, rz a b = some c ∧ (c < 0 ↔ Bz a b = true) := by
 unfold rz
 obtain ⟨c, e, h1, i⟩ := SU a.kA b.kA
 rw [e]
 simp only [pQ, nI, aA, sv, pk, ud]
 by_cases g : c = 0
 ·rw [aJ (by simp [g])]
  have m := i.1 g
  have d : ¬ xl a.kA b.kA = true := fun j => by have := h1.2 j; omega
  by_cases h : oH a.ly b.ly = 0
  ·rw [aJ (by simp [h])]
   refine ⟨0, rfl, ?_⟩
   rw [C9]
   simp [d, (J7 _ _).1 h, vr]
  ·rw [aK (by simp [h])]
   refine ⟨_, rfl, ?_⟩
   rw [C9, Ya]
   exact ⟨fun k => .inr ⟨m, k⟩, fun k => k.elim (fun k => absurd k d) (·.2)⟩
 ·rw [aK (by simp [g])]
  refine ⟨c, rfl, ?_⟩
  rw [C9, h1]
  have : a.kA ≠ b.kA := fun k => g (i.2 k)
  simp [this]
theorem Qi {α : Type} {eq : α → α → Bool} (he : ∀ x y, eq x y = true ↔ x = y) : ∀ (l : List α) (p : α), (p :: l).Nodup → rR eq p l = l
 | [], p, _ => rfl
 | y :: l, p, h => by
  have h1 := cL.1 h
  rw [rR, aJ (fun e => h1.1 (by rw [← (he _ _).1 e]; simp)), Qi he l y h1.2]
theorem UT {α : Type} {eq : α → α → Bool} (he : ∀ x y, eq x y = true ↔ x = y) : ∀ l : List α, l.Nodup → dd eq l = l
 | [], _ => rfl
 | x :: l, h => by rw [dd, Qi he l x h]
def Dl (P : kF → Prop) (s : List kF) : Prop := s.Pairwise (fun a b => Bz a b = true) ∧ ∀ f, f ∈ s ↔ P f
theorem Dl.unique {P : kF → Prop} {s t : List kF} (h : Dl P s) (k : Dl P t) : s = t :=
 qJ.unique (l := s) J6 ⟨h.1, fun x => ⟨fun a => ⟨a, rfl⟩, fun a => a.1⟩⟩ ⟨k.1, fun x => by rw [k.2, h.2]; exact ⟨fun a => ⟨a, rfl⟩, fun a => a.1⟩⟩
theorem JG {l : List kF} (d : l.Nodup) (j : l.length ≤ 1000000000000) : ∃ s, yF (fun (x : kF × kF) => rz x.1 x.2) l = some s ∧ Dl (fun f => f ∈ l) s := by
 obtain ⟨s, h1, i, c⟩ := Ai (eq := nq) (lt := fun a b => Bz a b = true) (P := fun x => Gl x = true) (cf := fun (x : kF × kF) => rz x.1 x.2) (l := l) (fun x y => mL) J6 (fun _ _ => rfl) (by omega) (fun x y _ _ => Tw x y)
 have g : s.Nodup := by
  have := (CS h1).2
  rw [this]
  unfold pS
  exact (fZ l _).nodup_iff.2 d
 rw [UT (fun x y => mL) s g] at c
 exact ⟨s, h1, c.1, fun f => by rw [c.2]; exact ⟨fun h => h.1, fun h => ⟨h, rfl⟩⟩⟩
theorem Wk (T : qa) : (mm T).flatMap (fun p => p.2.map (fun q => (fun (a : kA) (b : ByteArray) => (⟨a, b⟩ : kF)) p.1 q.1)) = FS T := by
 unfold mm FS tt
 rw [List.flatMap_map]
 congr 1
 funext p
 simp [gB]
theorem Um {C : List kB} (j : sB C) {T : qa} {q : List (kA × List kB)} {ws : List (ByteArray × List kB)} {n : Int} (h : MS C T q ws n) (cs : List kB) (u : List (kA × List kB)) (w : List (ByteArray × List kB)) (m : List kF) (z : Int) :
  ∃ s, yw (mm T) cs u w m z = some s ∧ Dl (nY C) s := by
 have k := j.sq
 have hlen := h.sf.len
 obtain ⟨s, t, i⟩ := JG h.sf.nd (by omega)
 have g : Dl (nY C) s := ⟨i.1, fun f => (i.2 f).trans (h.all f)⟩
 refine ⟨s, ?_, g⟩
 unfold yw SH
 rw [Wk]
 rw [aK ⟨by omega, by unfold maxLen; omega⟩]
 simp only [aA, ud]
 refine Jt (fun o c => ?_)
 obtain ⟨v, d, a⟩ := JG ((c.nodup_iff).2 h.sf.nd) (by rw [c.length_eq]; omega)
 rw [d]
 congr 1
 exact Dl.unique ⟨a.1, fun f => (a.2 f).trans (c.mem_iff.trans (h.all f))⟩ g
theorem Uy (r : kA) (w : ByteArray) : ∀ l : List kF, ∃ b, xX r w l = some b ∧ (b = true ↔ (⟨r, w⟩ : kF) ∈ l)
 | [] => ⟨false, rfl, by simp⟩
 | x :: l => by
  rw [xX]
  simp only [Bs, aA]
  obtain ⟨b, e, d⟩ := Uy r w l
  by_cases h : (kQ x.kA r && mh x.ly w) = true
  ·rw [aK h]
   have a : x = ⟨r, w⟩ := by
    rw [aP, kP, mO] at h
    cases x; simp at h; simp [h]
   exact ⟨true, rfl, by simp [a]⟩
  ·rw [aJ h]
   refine ⟨b, e, ?_⟩
   rw [d, aQ]
   refine ⟨.inr, fun c => c.resolve_left (fun e => h ?_)⟩
   rw [← e]; simp [vX, xI]
theorem yJ (l : List kF) (r : kA) (w : ByteArray) : ∃ b, tY l r w = some b ∧ (b = true ↔ (⟨r, w⟩ : kF) ∈ l) := Uy r w l
def sA (l : List kF) (c : kB) (names : List ByteArray) (w : ByteArray) : Prop :=
 (c.Kind = 1 ∧ c.ly = w) ∨ (c.Kind = 2 ∧ (⟨c.B, w⟩ : kF) ∈ l) ∨ (c.Kind = 4 ∧ (⟨c.B, w⟩ : kF) ∈ l ∧ (⟨c.C, w⟩ : kF) ∈ l) ∨
 (c.Kind ≠ 1 ∧ c.Kind ≠ 2 ∧ c.Kind ≠ 4 ∧ ∃ b ∈ names, (⟨c.B, b⟩ : kF) ∈ l ∧ (⟨⟨b, c.lU⟩, w⟩ : kF) ∈ l)
theorem Jw (l : List kF) (c : kB) (w : ByteArray) : ∀ names : List ByteArray, ∃ b, wN l c w names = some b ∧ (b = true ↔ ∃ b ∈ names, (⟨c.B, b⟩ : kF) ∈ l ∧ (⟨⟨b, c.lU⟩, w⟩ : kF) ∈ l)
 | [] => ⟨false, rfl, by simp⟩
 | x :: names => by
  rw [wN]
  obtain ⟨g, j, h1⟩ := yJ l c.B x
  obtain ⟨i, k, d⟩ := yJ l ⟨x, c.lU⟩ w
  obtain ⟨b, e, m⟩ := Jw l c w names
  rw [j, k, e]
  simp only [aA, Bs]
  by_cases h : (g && i) = true
  ·rw [aK h]
   rw [aP, h1, d] at h
   exact ⟨true, rfl, by simp [h]⟩
  ·rw [aJ h]
   rw [aP, h1, d] at h
   refine ⟨b, rfl, ?_⟩
   rw [m]
   constructor
   ·rintro ⟨y, a, q⟩; exact ⟨y, by simp [a], q⟩
   ·rintro ⟨y, a, q⟩
    rcases aQ.1 a with rfl | a
    ·exact absurd q h
    ·exact ⟨y, a, q⟩
theorem Pu (l : List kF) (c : kB) (names : List ByteArray) (w : ByteArray) : ∃ b, yV l c names w = some b ∧ (b = true ↔ sA l c names w) := by
 unfold yV sA
 simp only [ud]
 by_cases h1 : c.Kind = 1
 ·rw [aK (by simp [h1])]; exact ⟨_, rfl, by simp [h1, mO]⟩
 rw [aJ (by simp [h1])]
 by_cases a : c.Kind = 2
 ·rw [aK (by simp [a])]
  obtain ⟨b, e, g⟩ := yJ l c.B w
  exact ⟨b, e, by simp [a, g]⟩
 rw [aJ (by simp [a])]
 by_cases d : c.Kind = 4
 ·rw [aK (by simp [d])]
  obtain ⟨m, j, h⟩ := yJ l c.B w
  obtain ⟨n, k, i⟩ := yJ l c.C w
  rw [j, k]
  simp only [aA, Bs]
  exact ⟨_, rfl, by simp [d, h, i]⟩
 rw [aJ (by simp [d])]
 obtain ⟨b, e, g⟩ := Jw l c w names
 exact ⟨b, e, by rw [g]; simp [h1, a, d]⟩
theorem sA.yR {C : List kB} {l : List kF} (a : ∀ f ∈ l, nY C f) {c : kB} (d : c ∈ C) (hk : c.Kind = 1 ∨ c.Kind = 2 ∨ c.Kind = 3 ∨ c.Kind = 4) {names : List ByteArray} {w : ByteArray} (h : sA l c names w) : nY C ⟨c.Head, w⟩ := by
 rcases h with ⟨k, rfl⟩ | ⟨k, h⟩ | ⟨k, h1, g⟩ | ⟨i, k2, j, b, _, h1, g⟩
 ·exact .mem c d k
 ·exact .inc c w d k (a _ h)
 ·exact .both c w d k (a _ h1) (a _ g)
 ·exact .IB c b w d (by omega) (a _ h1) (a _ g)
theorem Gh {c : kB} (h : mf c = true) : c.Kind = 1 ∨ c.Kind = 2 ∨ c.Kind = 3 ∨ c.Kind = 4 := by rcases nP h with h | h | h | h <;> simp [h.1]
structure Hh (C : List kB) (out : List kF) : Prop where
 nd : out.Nodup
 yR : ∀ f ∈ out, nY C f
theorem Hh.len {C : List kB} {out : List kF} (h : Hh C out) : out.length ≤ C.length * C.length := by
 rw [← Bm]; exact mI h.nd (fun f a => (h.yR f a).Ez)
theorem Jb {C : List kB} (t : sB C) (u : rh C) {c : kB} (m : c ∈ C) (names : List ByteArray) : ∀ (l : List ByteArray) (out : List kF) (i : Bool), Hh C out →
  ∃ g d, wI c names l out i = some (g, d) ∧ Hh C g ∧ (d = true → i = true ∨ out.length < g.length) ∧ (d = false → i = false ∧ g = out ∧ ∀ w ∈ l, sA out c names w → (⟨c.Head, w⟩ : kF) ∈ out) ∧ out.length ≤ g.length
 | [], out, i, h => ⟨out, i, rfl, h, .inl, fun h => ⟨h, rfl, fun _ hw => by cases hw⟩, bD _⟩
 | w :: l, out, i, h => by
  rw [wI]
  obtain ⟨z, G, h1⟩ := yJ out c.Head w
  obtain ⟨E, I, A⟩ := Pu out c names w
  rw [G, I]
  simp only [aA, Bs]
  by_cases j : (!z && E) = true
  ·rw [aK j]
   rw [aP] at j
   have x : (⟨c.Head, w⟩ : kF) ∉ out := fun L => by have := h1.2 L; rw [this] at j; exact absurd j.1 (by decide)
   have P := h.len
   have M := t.sq
   rw [mK (by simp; omega) (by simp; omega)]
   simp only [aA]
   have J : Hh C (out ++ [⟨c.Head, w⟩]) := ⟨bO.2 ⟨h.nd, by simp, fun a ha b j e => by simp at j; subst j; subst e; exact x ha⟩, fun f k => by
    rcases aR.1 k with k | k
    ·exact h.yR f k
    ·simp at k; subst k; exact (A.1 j.2).yR h.yR m (Gh (u c m))⟩
   obtain ⟨g, d, e, n, a2, a3, a4⟩ := Jb t u m names l _ true J
   simp at a4
   exact ⟨g, d, e, n, fun _ => .inr (by omega), fun k => (by cases (a3 k).1), by omega⟩
  ·rw [aJ j]
   obtain ⟨g, d, e, n, a2, a3, a4⟩ := Jb t u m names l out i h
   refine ⟨g, d, e, n, a2, fun k => ?_, a4⟩
   obtain ⟨o, q, s⟩ := a3 k
   refine ⟨o, q, fun v y D => ?_⟩
   rcases aQ.1 y with rfl | y
   ·refine dV fun x => j ?_
    rw [aP, A.2 D]
    cases z with
    | false => exact ⟨rfl, rfl⟩
    | true => exact absurd (h1.1 rfl) x
   ·exact s v y D
theorem Nd {C : List kB} (n : sB C) (o : rh C) (names : List ByteArray) : ∀ (l : List kB) (out : List kF) (a : Bool), (∀ c ∈ l, c ∈ C) → Hh C out →
  ∃ g i, ym names l out a = some (g, i) ∧ Hh C g ∧ (i = true → a = true ∨ out.length < g.length) ∧ (i = false → a = false ∧ g = out ∧ ∀ c ∈ l, ∀ w ∈ names, sA out c names w → (⟨c.Head, w⟩ : kF) ∈ out) ∧ out.length ≤ g.length
 | [], out, a, _, h => ⟨out, a, rfl, h, .inl, fun h => ⟨h, rfl, fun _ hw => by cases hw⟩, bD _⟩
 | c :: l, out, a, q, h => by
  rw [ym]
  obtain ⟨z, c1, x, s, a2, a3, a4⟩ := Jb n o (q c (by simp)) names names out a h
  rw [x]
  simp only [aA]
  obtain ⟨A, c2, y, t, u, v, M⟩ := Nd n o names l z c1 (fun d j => q d (by simp [j])) s
  refine ⟨A, c2, y, t, fun k => ?_, fun k => ?_, by omega⟩
  ·rcases u k with h1 | h1
   ·rcases a2 h1 with m | m
    ·exact .inl m
    ·exact .inr (by omega)
   ·exact .inr (by omega)
  ·obtain ⟨D, E, G⟩ := v k
   obtain ⟨I, J, L⟩ := a3 D
   subst J
   refine ⟨I, E, fun d j => ?_⟩
   rcases aQ.1 j with rfl | j
   ·exact L
   ·exact G d j
def zF : kF := ⟨⟨zS, zS⟩, zS⟩
theorem Na (a b : kF) : vL a b = some (Bz a b) := by
 unfold vL Bz
 simp only [uz, aA, Bs, UR]
def WD (a : List kF) (c : Int) (p : Bool × kF) : Prop := (p.1 = false ∧ c = -1) ∨ (p.1 = true ∧ 0 ≤ c ∧ mC a c = some p.2)
theorem Eh (out a : List kF) (i : out.length < 4611686018427387904) : ∀ (rest A : List kF) (c : Int) (p : Bool × kF), a = A ++ rest → WD a c p →
  ∃ d, pR out a rest A.length c = some d ∧ WD a d (sk Gl Bz out.getLast? rest p.1 p.2)
 | [], A, c, p, ha, j => ⟨c, rfl, j⟩
 | x :: rest, A, c, p, ha, j => by
  rw [pR, sk]
  simp only [Gl, ed]
  have h1 : ((if ((out.length : Int) == 0) = true then some true else (mC out (wi0 .i64 ((out.length : Int) - 1))).bind fun y => (vL y x).bind fun r => some r) : Option Bool) = some (out.getLast?.all fun y => Bz y x) := by
   rcases dh out with h | ⟨B, z, h⟩
   ·subst h; rfl
   ·subst h
    rw [aJ (by simp; omega)]
    rw [ij] at i ⊢
    rw [Gk B z (by simp at i; omega)]
    simp [Na]
  have o : ((if decide (c < 0) = true then some true else (mC a c).bind fun y => (vL x y).bind fun r => some r) : Option Bool) = some (!p.1 || Bz x p.2) := by
   rcases j with ⟨k, m⟩ | ⟨k, m, n⟩
   ·rw [aK (by simp [m]), k]; rfl
   ·rw [aJ (by simpa using m), n, k]
    simp [Na]
  rw [h1]
  simp only [aA]
  rw [o]
  simp only [aA, Bs]
  have q : mC a (A.length : Int) = some x := by rw [ha]; exact sT A x rest _ rfl
  by_cases g : ((out.getLast?.all fun y => Bz y x) && (!p.1 || Bz x p.2)) = true
  ·rw [aK g, aK g]
   have := Eh out a i rest (A ++ [x]) (A.length : Int) (true, x) (by rw [ha]; simp) (.inr ⟨rfl, by simp, q⟩)
   simpa using this
  ·rw [aJ g, aJ g]
   have := Eh out a i rest (A ++ [x]) c p (by rw [ha]; simp) j
   simpa using this
theorem IE {out a : List kF} (d : out.length < 4611686018427387904) (h : (sk Gl Bz out.getLast? a false zF).1 = false) : ∀ IK : List kF, pP a IK out = some out
 | [] => rfl
 | x :: IK => by
  rw [pP]
  obtain ⟨b, e, i⟩ := Eh out a d a [] (-1) (false, zF) rfl (.inl ⟨rfl, rfl⟩)
  rw [show pR out a a 0 (-1) = some b from e]
  simp only [aA]
  rcases i with ⟨_, g⟩ | ⟨c, _⟩
  ·rw [aJ (by simp [g])]; exact IE d h IK
  ·rw [h] at c; cases c
theorem Ln (a : List kF) : ∀ (IK : List kF) (out s : List kF), AY 48 Gl Bz zF a (IK.length + 1) out = some s → s.length < 4611686018427387904 → pP a IK out = some s ∧ out.length ≤ s.length
 | [], out, s, h, i => by
  rw [AY] at h
  cases hp : (sk Gl Bz out.getLast? a false zF).1 with
  | false =>
   rw [hp] at h
   simp only [cT, bA] at h
   cases h
   exact ⟨rfl, bD _⟩
  | true =>
   rw [hp] at h
   simp only [bW, aB, aS] at h
   obtain ⟨o, c, h⟩ := bind_some h
   replace h : AY 48 Gl Bz zF a 0 o = some s := h
   rw [AY] at h
   cases h
 | x :: IK, out, s, h, i => by
  rw [AY] at h
  cases hp : (sk Gl Bz out.getLast? a false zF).1 with
  | false =>
   rw [hp] at h
   simp only [cT, bA] at h
   cases h
   exact ⟨IE i hp _, bD _⟩
  | true =>
   rw [hp] at h
   simp only [bW, aB, aS] at h
   obtain ⟨o, c, h⟩ := bind_some h
   have g := c
   unfold mM at c
   split at c
   case isFalse => cases c
   cases c
   obtain ⟨n, k2⟩ := Ln a IK _ s h i
   simp at k2
   rw [pP]
   obtain ⟨b, e, m⟩ := Eh out a (by omega) a [] (-1) (false, zF) rfl (.inl ⟨rfl, rfl⟩)
   rw [show pR out a a 0 (-1) = some b from e]
   simp only [aA]
   rcases m with ⟨d, _⟩ | ⟨d, j, k⟩
   ·rw [hp] at d; cases d
   ·rw [aK (by simpa using j), k]
    simp only [aA]
    rw [g]
    exact ⟨n, by omega⟩
theorem SS (l : List kF) (d : l.length ≤ 1000000000) : ∃ s, BL l = some s ∧ Dl (fun f => f ∈ l) s := by
 obtain ⟨s, h1, a⟩ := B7 J6 (w := 48) (by omega) zF l d (l.length + 1) [] (by simp) (by simp) (fun x c => by cases c) (fun x _ _ => .inr rfl)
 have hlen : s.length ≤ l.length := mI (yq J6 (fun _ _ => rfl) a.1) (fun x c => ((a.2 x).1 c).1)
 exact ⟨s, (Ln l l [] s h1 (by omega)).1, a.1, fun f => by rw [a.2]; exact ⟨fun h => h.1, fun h => ⟨h, rfl⟩⟩⟩
theorem Oz : ∀ (l : List kB) (acc : List ByteArray), acc.length + 4 * l.length ≤ 1000000000 → tR l acc = BU (acc ++ l.flatMap fun c => [c.ly, c.Head.kI, c.B.kI, c.C.kI])
 | [], acc, _ => by rw [tR]; simp [ud]
 | c :: l, acc, h => by
  rw [tR]
  simp only [aH] at h
  rw [mK (by simp; omega) (by simp; omega)]
  simp only [aA]
  rw [Oz l _ (by simp; omega)]
  simp
def SM (C : List kB) : Prop := C.length ≤ 30000
theorem SM.small {C : List kB} (h : SM C) : sB C := by unfold SM at h; unfold sB; omega
theorem SM.sq {C : List kB} (h : SM C) : C.length * C.length ≤ 900000000 := fj h h
theorem Tq {C : List kB} (d : SM C) (i : rh C) : ∃ names, Am C = some names ∧ ∀ c ∈ C, c.Kind = 1 → c.ly ∈ names := by
 have g : C.length ≤ 30000 := d
 unfold Am
 rw [Oz C [] (by simp; omega)]
 obtain ⟨s, e, j⟩ := Vk ([] ++ C.flatMap fun c => [c.ly, c.Head.kI, c.B.kI, c.C.kI]) (by
  have : ∀ l : List kB, (l.flatMap fun c => [c.ly, c.Head.kI, c.B.kI, c.C.kI]).length = 4 * l.length := fun l => by
   induction l with
   | nil => rfl
   | cons x l ih => simp [ih]; omega
  rw [bV, this]; omega)
 refine ⟨s, e, fun c a hk => (j.2 _).2 ⟨?_, ?_⟩⟩
 ·rw [bV]; exact iy.2 ⟨c, a, by simp⟩
 ·rcases nP (i c a) with h | h | h | h
  ·exact h.2.1
  ·exact absurd (hk.symm.trans h.1) (by decide)
  ·exact absurd (hk.symm.trans h.1) (by decide)
  ·exact absurd (hk.symm.trans h.1) (by decide)
theorem JA {C : List kB} (o : rh C) {names : List ByteArray} (m : ∀ c ∈ C, c.Kind = 1 → c.ly ∈ names) {out : List kF} (h : ∀ c ∈ C, ∀ w ∈ names, sA out c names w → (⟨c.Head, w⟩ : kF) ∈ out) {f : kF} (k : nY C f) : f ∈ out := by
 have hw : ∀ f, nY C f → f.ly ∈ names := fun f k => by
  obtain ⟨c, a, hk, e⟩ := k.vz
  rw [← e]; exact m c a hk
 induction k with
 | mem c a hk => exact h c a _ (m c a hk) (.inl ⟨hk, rfl⟩)
 | inc c w a hk n ih => exact h c a w (hw _ n) (.inr (.inl ⟨hk, ih⟩))
 | IB c b w a hk d j g i => exact h c a w (hw _ j) (.inr (.inr (.inr ⟨by omega, by omega, by omega, b, hw _ d, g, i⟩)))
 | both c w a hk d j g i => exact h c a w (hw _ d) (.inr (.inr (.inl ⟨hk, g, i⟩)))
theorem N8 {C : List kB} (a : SM C) (d : rh C) {names : List ByteArray} (i : ∀ c ∈ C, c.Kind = 1 → c.ly ∈ names) : ∀ (m : Nat) (out : List kF), Hh C out → C.length * C.length < m + out.length →
  ∃ s, wB names C m out = some s ∧ Dl (nY C) s
 | 0, out, h, hm => by have := h.len; omega
 | m + 1, out, h, hm => by
  rw [wB]
  obtain ⟨o, c, e, j, a2, a3, a4⟩ := Nd a.small d names C out false (fun _ h => h) h
  rw [e]
  simp only [aA, ud]
  cases c with
  | false =>
   simp only [cT, bA]
   obtain ⟨_, k, n⟩ := a3 rfl
   subst k
   have u := h.len
   have t := a.sq
   obtain ⟨s, q, g⟩ := SS o (by omega)
   exact ⟨s, q, g.1, fun f => (g.2 f).trans ⟨h.yR f, JA d i n⟩⟩
  | true =>
   simp only [bW, aB, aS]
   rcases a2 rfl with h1 | h1
   ·cases h1
   ·exact N8 a d i m o j (by omega)
theorem VU (l : List kB) (q : l.length ≤ 30000) : ∃ C s, zn l = some s ∧ Dl (nY C) s ∧ ∀ c, c ∈ C ↔ c ∈ l ∧ mf c = true := by
 unfold zn
 obtain ⟨C, e, d⟩ := VW l (by omega)
 have hlen := qj D7 d
 have a : SM C := by unfold SM; omega
 have g : rh C := fun c k => ((d.2 c).1 k).2
 obtain ⟨names, h, n⟩ := Tq a g
 rw [e]
 simp only [aA]
 rw [h]
 simp only [aA]
 have o := a.sq
 obtain ⟨s, i, j⟩ := N8 a g n lE [] ⟨by simp, fun f m => by cases m⟩ (by rw [pe]; simp; omega)
 exact ⟨C, s, i, j, d.2⟩
theorem EL (w : ByteArray) : ∀ (l : List kF) (acc : List kA), acc.length + l.length ≤ 1000000000 → rL w l acc = some (acc ++ (l.filter fun f => mh f.ly w).map (·.kA))
 | [], acc, _ => by rw [rL]; simp
 | x :: l, acc, h => by
  rw [rL]
  simp only [aH] at h
  by_cases a : mh x.ly w = true
  ·rw [aK a, mK (by simp; omega) (by simp; omega)]
   simp only [aA]
   rw [EL w l _ (by simp; omega)]
   simp [a]
  ·rw [aJ a, EL w l acc (by omega)]
   simp [a]
theorem Vf {P : kF → Prop} {s t : List kF} (h : Dl P s) (c : ∀ f, P f → f ∈ t) : s.length ≤ t.length := mI (yq J6 (fun _ _ => rfl) h.1) (fun f a => c f ((h.2 f).1 a))
theorem VK {C : List kB} {s : List kF} (h : Dl (nY C) s) (a : SM C) : s.length ≤ 900000000 := by
 have := Vf h (t := Ez C) (fun f c => c.Ez)
 rw [Bm] at this
 have := a.sq
 omega
theorem WY {C : List kB} {T : qa} {c : List (kA × List kB)} {ws : List (ByteArray × List kB)} {n : Int} (h : MS C T c ws n) (cs : List kB) (u : List (kA × List kB)) (w : List (ByteArray × List kB)) (a : List kF) (z : Int) (r : kA) (vz : ByteArray) :
  ∃ b, rN (mm T) cs u w a z r vz = some b ∧ (b = true ↔ nY C ⟨r, vz⟩) :=
 ⟨_, rfl, by rw [vq h.sf.keys, h.all]⟩
def qA : kA := ⟨⟨#[97]⟩, ⟨#[114]⟩⟩
def qB : kA := ⟨⟨#[98]⟩, ⟨#[115]⟩⟩
def qd : ByteArray := ⟨#[100]⟩
def j1 : kB := ⟨2, qA, zS, qB, ⟨zS, zS⟩, zS⟩
def j2 : kB := ⟨1, qB, qd, ⟨zS, zS⟩, ⟨zS, zS⟩, zS⟩
theorem FO (f : ByteArray → Option Bool) (p : ByteArray → Bool) : ∀ (l : List ByteArray) (i : Nat), (∀ x ∈ l, f x = some (p x)) → ∃ z, oW f l i = some z ∧ (z ≥ 0 ↔ ∃ x ∈ l, p x = true)
 | [], i, _ => ⟨-1, rfl, by simp⟩
 | x :: l, i, h => by
  rw [oW, h x (by simp)]
  simp only [aA]
  cases hp : p x with
  | true => exact ⟨_, rfl, by simp [hp]⟩
  | false =>
   obtain ⟨z, e, c⟩ := FO f p l (i + 1) (fun y a => h y (by simp [a]))
   exact ⟨z, e, by rw [c]; simp [hp]⟩
theorem Od : ∀ (l : List kB) (n r : Int), 0 ≤ n → (∀ c ∈ l, uI c ≤ 1000000000) → n + l.length * 1000000020 ≤ 4000000000000000000 → oM l n = some r → r ≤ n + l.length * 1000000020
 | [], n, r, i, a, g, h => by cases h; simp
 | c :: l, n, r, i, a, g, h => by
  have k := a c (by simp)
  unfold uI at k
  simp only [aH] at g ⊢
  rw [oM] at h
  rw [lC (x := 20 + (c.Head.kI.size : Int)) (by omega) (by omega), lC (x := 20 + (c.Head.kI.size : Int) + (c.Head.kU.size : Int)) (by omega) (by omega), lC (x := 20 + (c.Head.kI.size : Int) + (c.Head.kU.size : Int) + (c.ly.size : Int)) (by omega) (by omega), lC (x := 20 + (c.Head.kI.size : Int) + (c.Head.kU.size : Int) + (c.ly.size : Int) + (c.B.kI.size : Int)) (by omega) (by omega), lC (x := 20 + (c.Head.kI.size : Int) + (c.Head.kU.size : Int) + (c.ly.size : Int) + (c.B.kI.size : Int) + (c.B.kU.size : Int)) (by omega) (by omega), lC (x := 20 + (c.Head.kI.size : Int) + (c.Head.kU.size : Int) + (c.ly.size : Int) + (c.B.kI.size : Int) + (c.B.kU.size : Int) + (c.C.kI.size : Int)) (by omega) (by omega), lC (x := 20 + (c.Head.kI.size : Int) + (c.Head.kU.size : Int) + (c.ly.size : Int) + (c.B.kI.size : Int) + (c.B.kU.size : Int) + (c.C.kI.size : Int) + (c.C.kU.size : Int)) (by omega) (by omega), lC (x := 20 + (c.Head.kI.size : Int) + (c.Head.kU.size : Int) + (c.ly.size : Int) + (c.B.kI.size : Int) + (c.B.kU.size : Int) + (c.C.kI.size : Int) + (c.C.kU.size : Int) + (c.lU.size : Int)) (by omega) (by omega), lC (by omega) (by omega)] at h
  have := Od l _ r (by omega) (fun d j => a d (by simp [j])) (by omega) h
  omega
theorem Rh (l : List kB) (d : l.length ≤ 10000000) (a : ∀ c ∈ l, uI c ≤ 1000000000) : ∃ r, oz l = some r ∧ 20 * (l.length : Int) ≤ r ∧ r ≤ 100000000000000000 := by
 obtain ⟨r, h, h1⟩ := I1 l 0 (by omega) (by omega) a (by omega)
 exact ⟨r, h, by omega, by have := Od l 0 r (by omega) a (by omega) h; omega⟩
def M2 (c : kB) (p : kA × ByteArray → Bool) (names : List ByteArray) (w : ByteArray) : Bool :=
 if c.Kind = 1 then mh c.ly w else if c.Kind = 2 then p (c.B, w) else if c.Kind = 4 then p (c.B, w) && p (c.C, w) else names.any fun b => p (c.B, b) && p (⟨b, c.lU⟩, w)
theorem RU {f : kA × ByteArray → Option Bool} {p : kA × ByteArray → Bool} (g : ∀ x, f x = some (p x)) (c : kB) (names : List ByteArray) (w : ByteArray) : zr c f names w = some (M2 c p names w) := by
 unfold zr M2
 simp only [g, aA, Bs]
 by_cases h1 : c.Kind = 1
 ·rw [aK (by simp [h1]), aK h1]
 rw [aJ (by simp [h1]), aJ h1]
 by_cases a : c.Kind = 2
 ·rw [aK (by simp [a]), aK a]
 rw [aJ (by simp [a]), aJ a]
 by_cases d : c.Kind = 4
 ·rw [aK (by simp [d]), aK d]
 rw [aJ (by simp [d]), aJ d]
 unfold tB vu
 obtain ⟨z, e, h⟩ := FO (fun x => vh x f c w) (fun b => p (c.B, b) && p (⟨b, c.lU⟩, w)) names 0 (fun x _ => by
  unfold vh
  simp only [g, aA, Bs])
 rw [e]
 simp only [aA]
 congr 1
 rw [bH, dR]
 simpa using h
theorem Gi {f : kA × ByteArray → Option Bool} {p : kA × ByteArray → Bool} (a : ∀ x, f x = some (p x)) (c : kB) (names : List ByteArray) : ∀ (l : List ByteArray) (acc : List kF), acc.length + l.length ≤ 1000000000 →
  rT c f names l acc = some (acc ++ (l.filter (M2 c p names)).map fun w => (⟨c.Head, w⟩ : kF))
 | [], acc, _ => by rw [rT]; simp
 | x :: l, acc, h => by
  rw [rT, RU a]
  simp only [aA, aH] at h ⊢
  cases d : M2 c p names x with
  | true =>
   simp only [bA]
   rw [mK (by simp; omega) (by simp; omega)]
   simp only [aA]
   rw [Gi a c names l _ (by simp; omega)]
   simp [d]
  | false =>
   simp only [aB, aS]
   rw [Gi a c names l acc (by omega)]
   simp [d]
theorem Ud {f : kA × ByteArray → Option Bool} {p : kA × ByteArray → Bool} (a : ∀ x, f x = some (p x)) {c : kB} (g : mf c = true) (l : List ByteArray) (h : l.length ≤ 900000000) :
  ∃ names, Dp l names ∧ wy c f l = some (((if c.Kind = 1 then [c.ly] else names).filter (M2 c p names)).map fun w => (⟨c.Head, w⟩ : kF)) := by
 obtain ⟨s, e, d⟩ := Wp l (by omega)
 refine ⟨s, d, ?_⟩
 have hlen : s.length ≤ l.length := qj (Ij _) d
 unfold wy
 rw [pZ, g]
 simp only [aA, bW, aB, aS]
 rw [e]
 simp only [aA]
 by_cases h1 : c.Kind = 1
 ·rw [aK (by simp [h1]), aK h1]
  simp only [aA]
  rw [Gi a c s _ [] (by simp)]
  simp
 ·rw [aJ (by simp [h1]), aJ h1]
  simp only [aA]
  rw [Gi a c s _ [] (by simp; omega)]
  simp
theorem Ph {c : kB} {p : kA × ByteArray → Bool} {out : List kF} (hp : ∀ r w, p (r, w) = true ↔ (⟨r, w⟩ : kF) ∈ out) (s : List ByteArray) (w : ByteArray) : M2 c p s w = true ↔ sA out c s w := by
 unfold M2 sA
 by_cases h1 : c.Kind = 1
 ·rw [aK h1, mO]
  constructor
  ·intro h; exact .inl ⟨h1, h⟩
  ·rintro (h | h | h | h)
   ·exact h.2
   ·exact absurd (h1.symm.trans h.1) (by decide)
   ·exact absurd (h1.symm.trans h.1) (by decide)
   ·exact absurd h1 h.1
 rw [aJ h1]
 by_cases a : c.Kind = 2
 ·rw [aK a, hp]
  constructor
  ·intro h; exact .inr (.inl ⟨a, h⟩)
  ·rintro (h | h | h | h)
   ·exact absurd h.1 h1
   ·exact h.2
   ·exact absurd (a.symm.trans h.1) (by decide)
   ·exact absurd a h.2.1
 rw [aJ a]
 by_cases d : c.Kind = 4
 ·rw [aK d, aP, hp, hp]
  constructor
  ·intro h; exact .inr (.inr (.inl ⟨d, h⟩))
  ·rintro (h | h | h | h)
   ·exact absurd h.1 h1
   ·exact absurd h.1 a
   ·exact h.2
   ·exact absurd d h.2.2.1
 rw [aJ d, dR]
 constructor
 ·rintro ⟨b, g, h⟩
  rw [aP, hp, hp] at h
  exact .inr (.inr (.inr ⟨h1, a, d, b, g, h⟩))
 ·rintro (h | h | h | h)
  ·exact absurd h.1 h1
  ·exact absurd h.1 a
  ·exact absurd h.1 d
  ·obtain ⟨_, _, _, b, g, h⟩ := h
   exact ⟨b, g, by rw [aP, hp, hp]; exact h⟩
theorem T5 {C : List kB} {c : kB} (g : c ∈ C) (n : mf c = true) {out : List kF} (d : ∀ f ∈ out, nY C f) {s : List ByteArray} {w : ByteArray} (h : sA out c s w) : nY C ⟨c.Head, w⟩ := by
 rcases h with ⟨h1, a⟩ | ⟨h1, a⟩ | ⟨h1, a, i⟩ | ⟨h1, a, i, b, _, k, m⟩
 ·subst a; exact .mem c g h1
 ·exact .inc c w g h1 (d _ a)
 ·exact .both c w g h1 (d _ a) (d _ i)
 ·have j : c.Kind = 3 := by
   rcases nP n with h | h | h | h
   ·exact absurd h.1 h1
   ·exact absurd h.1 a
   ·exact h.1
   ·exact absurd h.1 i
  exact .IB c b w g j (d _ k) (d _ m)
theorem RT {f : kA × ByteArray → Option Bool} {p : kA × ByteArray → Bool} (j : ∀ x, f x = some (p x)) {out : List kF} (hp : ∀ r w, p (r, w) = true ↔ (⟨r, w⟩ : kF) ∈ out) (c : kB) {l s : List ByteArray} (m : l.length ≤ 900000000) (n : Dp l s) :
  ∃ h, wy c f l = some h ∧ (∀ g ∈ h, mf c = true ∧ g.kA = c.Head ∧ sA out c s g.ly) ∧ (mf c = true → ∀ w ∈ s, sA out c s w → (⟨c.Head, w⟩ : kF) ∈ h) := by
 by_cases a : mf c = true
 ·obtain ⟨o, i, e⟩ := Ud j a l m
  obtain rfl : o = s := qJ.unique (Ij _) i n
  refine ⟨_, e, fun g k => ?_, fun _ w hw d => ?_⟩
  ·obtain ⟨w, hw, rfl⟩ := bI.1 k
   exact ⟨a, rfl, (Ph hp _ _).1 (cJ.1 hw).2⟩
  ·refine bI.2 ⟨w, cJ.2 ⟨?_, (Ph hp _ _).2 d⟩, rfl⟩
   split
   ·rename_i h1
    rcases d with h | h | h | h
    ·rw [h.2]; simp
    ·exact absurd (h1.symm.trans h.1) (by decide)
    ·exact absurd (h1.symm.trans h.1) (by decide)
    ·exact absurd h1 h.1
   ·exact hw
 ·refine ⟨[], ?_, by simp, fun h => absurd h a⟩
  unfold wy
  rw [pZ]
  simp only [cv] at a
  rw [a]
  rfl
theorem QW {c : kB} (a : mf c = true) (hk : c.Kind = 1) : nf c.ly = true := by
 rcases nP a with h | h | h | h
 ·exact h.2.1
 ·exact absurd (hk.symm.trans h.1) (by decide)
 ·exact absurd (hk.symm.trans h.1) (by decide)
 ·exact absurd (hk.symm.trans h.1) (by decide)
def NK {α : Type} (eq : α → α → Bool) (a : α) : List α → Nat → Option Int
 | [], _ => some (-1)
 | x :: xs, i => if eq a x then some (i : Int) else NK eq a xs (i + 1)
theorem Jd {α : Type} {eq : α → α → Bool} (he : ∀ {x y}, eq x y = true ↔ x = y) (a : α) : ∀ (l : List α) (i : Nat), ∃ z, NK eq a l i = some z ∧ (z ≥ 0 ↔ a ∈ l)
 | [], i => ⟨-1, rfl, by simp⟩
 | x :: l, i => by
  rw [NK]
  by_cases h : eq a x = true
  ·rw [aK h]; exact ⟨i, rfl, by simp [he.1 h]⟩
  ·rw [aJ h]
   obtain ⟨z, h1, d⟩ := Jd he a l (i + 1)
   have c : a ≠ x := fun e => h (he.2 e)
   exact ⟨z, h1, by rw [d]; simp [c]⟩
theorem SC (a : kF) : ∀ (l : List kF) (i : Nat), rC a l i = NK nq a l i
 | [], i => rfl
 | x :: l, i => by rw [rC, NK, SC a l]
theorem PP (a : kF) : ∀ (l : List kF) (i : Nat), pE a l i = NK nq a l i
 | [], i => rfl
 | x :: l, i => by rw [pE, NK, PP a l]
open Classical in
theorem U5 (l : List kF) (f : kF) : re l f = some (decide (f ∈ l)) := by
 obtain ⟨z, h1, h2⟩ := Jd (eq := nq) mL f l 0
 unfold re yv
 rw [SC, h1]
 simp only [aA]
 congr 1
 rw [bH]; simp [h2]
open Classical in
theorem XT (l : List kF) (f : kF) : rF l f = some (decide (f ∈ l)) := by
 obtain ⟨z, h1, h2⟩ := Jd (eq := nq) mL f l 0
 unfold rF wu
 rw [PP, h1]
 simp only [aA]
 congr 1
 rw [bH]; simp [h2]
theorem Pv (f : kF → Option Bool) : ∀ (l : List kF) (i : Nat), oE f l i = yt f l i
 | [], i => rfl
 | x :: l, i => by rw [oE, yt, Pv f l]
theorem Xt (f : kF → Option Bool) (p : kF → Bool) (l : List kF) (h : ∀ x ∈ l, f x = some (p x)) : pT l f = some (l.any p) := by
 unfold pT ui
 rw [Pv]
 rcases DE f p l 0 h with ⟨h1, a⟩ | ⟨A, x, B, rfl, h1, a, c⟩
 ·rw [h1]; simp only [aA]; congr 1; rw [bH]; simp; exact a
 ·rw [c]; simp only [aA]; congr 1; rw [bH]
  simp [a]
theorem JW (l : List kF) (r : kA) (w : ByteArray) : ∃ b, tE l r w = some b ∧ (b = true ↔ (⟨r, w⟩ : kF) ∈ l) := by
 classical
 refine ⟨_, by unfold tE; rw [XT]; rfl, by simp⟩
def DD (s : kY) (a : List kF) : Prop := mf s.kB = true ∧ s.kF.kA = s.kB.Head ∧ sA a s.kB (a.map (·.ly)) s.kF.ly
theorem DD.mono {s : kY} {a b : List kF} (h : DD s a) (c : ∀ f ∈ a, f ∈ b) : DD s b := by
 obtain ⟨h1, i, j⟩ := h
 refine ⟨h1, i, ?_⟩
 rcases j with h | h | h | ⟨k, m, n, g, q, d, o⟩
 ·exact .inl h
 ·exact .inr (.inl ⟨h.1, c _ h.2⟩)
 ·exact .inr (.inr (.inl ⟨h.1, c _ h.2.1, c _ h.2.2⟩))
 ·exact .inr (.inr (.inr ⟨k, m, n, g, bI.2 ⟨_, c _ d, rfl⟩, c _ d, c _ o⟩))
theorem DD.congr {s : kY} {a b : List kF} (d : ∀ f, f ∈ a ↔ f ∈ b) : DD s a ↔ DD s b := ⟨fun h => h.mono fun f c => (d f).1 c, fun h => h.mono fun f c => (d f).2 c⟩
open Classical in
noncomputable def DB (s : kY) (had : List kF) : Bool := decide (DD s had)
theorem zA {s : kY} {a : List kF} : DB s a = true ↔ DD s a := by unfold DB; simp
theorem JN {a b : kA} (h : a ≠ b) : kQ a b = false := by
 cases c : kQ a b with
 | false => rfl
 | true => exact absurd (kP.1 c) h
theorem F0 (s : kY) (a : List kF) : uP s a = some (DB s a) := by
 have key : ∀ b, (b = true ↔ DD s a) → b = DB s a := fun b h => by rw [bH, h, zA]
 unfold uP
 rw [pZ]
 simp only [aA]
 by_cases d : mf s.kB = true
 ·rw [d]
  simp only [bW, aB, aS, aA]
  by_cases i : s.kF.kA = s.kB.Head
  ·rw [i, vX]
   simp only [bW, aB, aS]
   have hk := Gh d
   by_cases h1 : s.kB.Kind = 1
   ·rw [aK (by simpa using h1)]
    congr 1
    refine key _ ?_
    rw [mO]
    constructor
    ·intro h; exact ⟨d, i, .inl ⟨h1, h⟩⟩
    ·rintro ⟨_, _, h | h | h | h⟩
     ·exact h.2
     ·exact absurd (h1.symm.trans h.1) (by decide)
     ·exact absurd (h1.symm.trans h.1) (by decide)
     ·exact absurd h1 h.1
   rw [aJ (by simpa using h1)]
   by_cases g : s.kB.Kind = 2
   ·rw [aK (by simpa using g), ud]
    obtain ⟨b, e, k⟩ := JW a s.kB.B s.kF.ly
    rw [e]; congr 1
    refine key _ ?_
    rw [k]
    constructor
    ·intro h; exact ⟨d, i, .inr (.inl ⟨g, h⟩)⟩
    ·rintro ⟨_, _, h | h | h | h⟩
     ·exact absurd h.1 h1
     ·exact h.2
     ·exact absurd (g.symm.trans h.1) (by decide)
     ·exact absurd g h.2.1
   rw [aJ (by simpa using g)]
   by_cases j : s.kB.Kind = 3
   ·rw [aK (by simpa using j), ud]
    unfold yY
    rw [Xt _ (fun f => kQ f.kA s.kB.B && DB ⟨⟨2, ⟨zS, zS⟩, zS, ⟨zS, zS⟩, ⟨zS, zS⟩, zS⟩, ⟨⟨zS, zS⟩, zS⟩⟩ [] || (kQ f.kA s.kB.B && nO nq a ⟨⟨f.ly, s.kB.lU⟩, s.kF.ly⟩)) a (fun f o => by
     unfold uO
     obtain ⟨b, e, k⟩ := JW a ⟨f.ly, s.kB.lU⟩ s.kF.ly
     rw [e]
     simp only [aA, Bs]
     congr 1
     have v : DB ⟨⟨2, ⟨zS, zS⟩, zS, ⟨zS, zS⟩, ⟨zS, zS⟩, zS⟩, ⟨⟨zS, zS⟩, zS⟩⟩ [] = false := by
      cases u : DB ⟨⟨2, ⟨zS, zS⟩, zS, ⟨zS, zS⟩, ⟨zS, zS⟩, zS⟩, ⟨⟨zS, zS⟩, zS⟩⟩ [] with
      | false => rfl
      | true => exact absurd (zA.1 u).1 (by decide +kernel)
     rw [v, Bool.and_false, iF]
     congr 1
     rw [bH, k, ni mL])]
    simp only [aA]
    congr 1
    refine key _ ?_
    rw [dR]
    have v : DB ⟨⟨2, ⟨zS, zS⟩, zS, ⟨zS, zS⟩, ⟨zS, zS⟩, zS⟩, ⟨⟨zS, zS⟩, zS⟩⟩ [] = false := by
     cases u : DB ⟨⟨2, ⟨zS, zS⟩, zS, ⟨zS, zS⟩, ⟨zS, zS⟩, zS⟩, ⟨⟨zS, zS⟩, zS⟩⟩ [] with
     | false => rfl
     | true => exact absurd (zA.1 u).1 (by decide +kernel)
    simp only [v, Bool.and_false, iF, aP, kP, ni mL]
    constructor
    ·rintro ⟨f, o, t, q⟩
     refine ⟨d, i, .inr (.inr (.inr ⟨h1, g, fun h => absurd (j.symm.trans h) (by decide), f.ly, bI.2 ⟨f, o, rfl⟩, ?_, q⟩))⟩
     rw [← t]; exact o
    ·rintro ⟨_, _, h | h | h | h⟩
     ·exact absurd h.1 h1
     ·exact absurd h.1 g
     ·exact absurd (j.symm.trans h.1) (by decide)
     ·obtain ⟨_, _, _, b, _, m, n⟩ := h
      exact ⟨_, m, rfl, n⟩
   rw [aJ (by simpa using j)]
   have w : s.kB.Kind = 4 := by 
    rcases hk with h | h | h | h
    ·exact absurd h h1
    ·exact absurd h g
    ·exact absurd h j
    ·exact h
   obtain ⟨b, e, k⟩ := JW a s.kB.B s.kF.ly
   obtain ⟨c, x, y⟩ := JW a s.kB.C s.kF.ly
   rw [e, x]
   simp only [aA, Bs]
   congr 1
   refine key _ ?_
   rw [aP, k, y]
   constructor
   ·intro h; exact ⟨d, i, .inr (.inr (.inl ⟨w, h⟩))⟩
   ·rintro ⟨_, _, h | h | h | h⟩
    ·exact absurd h.1 h1
    ·exact absurd h.1 g
    ·exact h.2
    ·exact absurd w h.2.2.1
  ·rw [JN i]
   simp only [cT, bA]
   congr 1
   exact key _ ⟨fun h => (by cases h), fun h => absurd h.2.1 i⟩
 ·simp only [cv] at d
  rw [d]
  simp only [cT, bA, aA]
  congr 1
  exact key _ ⟨fun h => (by cases h), fun h => by rw [h.1] at d; cases d⟩
theorem JO : ∀ (l : List kF) (acc : List ByteArray), acc.length + l.length ≤ 1000000000 → vP l acc = some (acc ++ l.map (·.ly))
 | [], acc, _ => by rw [vP]; simp
 | f :: l, acc, h => by
  simp only [aH] at h
  rw [vP, mK (by simp; omega) (by simp; omega)]
  simp only [aA]
  rw [JO l _ (by simp; omega)]
  simp
theorem Mu (s : kY) (a : List kF) (i : a.length ≤ 1000000000) : Bl s a = some (DB s a) := by
 have key : ∀ b, (b = true ↔ DD s a) → b = DB s a := fun b h => by rw [bH, h, zA]
 unfold Bl
 rw [AJ]
 simp only [aA, Bs]
 by_cases c : mf s.kB = true
 ·rw [c, ed]
  by_cases d : s.kF.kA = s.kB.Head
  ·rw [d, vX]
   simp only [bA, ud]
   unfold GN
   rw [JO a [] (by simpa using i)]
   simp only [aA, bV]
   obtain ⟨b, e, g⟩ := Pu a s.kB (a.map (·.ly)) s.kF.ly
   rw [e]; congr 1
   refine key _ ?_
   rw [g]
   exact ⟨fun h => ⟨c, d, h⟩, fun h => h.2.2⟩
  ·rw [JN d]
   simp only [aB, aS, aA]
   congr 1
   exact key _ ⟨fun h => (by cases h), fun h => absurd h.2.1 d⟩
 ·simp only [cv] at c
  rw [c]
  simp only [Bool.false_and, aB, aS, aA]
  congr 1
  exact key _ ⟨fun h => (by cases h), fun h => by rw [h.1] at c; cases c⟩
def nc : List kF → List kY → Prop
 | _, [] => True
 | a, s :: l => DD s a ∧ nc (a ++ [s.kF]) l
theorem nc.mono : ∀ {l : List kY} {a b : List kF}, nc a l → (∀ f ∈ a, f ∈ b) → nc b l
 | [], _, _, _, _ => trivial
 | s :: l, a, b, ⟨h1, g⟩, d => ⟨h1.mono d, nc.mono g (fun f c => by
   rcases aR.1 c with c | c
   ·exact bF _ (d f c)
   ·exact cy _ c)⟩
theorem Be : ∀ (l m : List kY) (a : List kF), nc a (l ++ m) ↔ nc a l ∧ nc (a ++ l.map (·.kF)) m
 | [], m, a => by simp [nc]
 | s :: l, m, a => by
  simp only [cF, nc, Be l m, bE, aV, bV, and_assoc, de]
open Classical in
noncomputable def Lq (l : List kY) : Bool := decide (nc [] l)
theorem Da {l : List kY} : Lq l = true ↔ nc [] l := by unfold Lq; simp
open Classical in
theorem JI : ∀ (l : List kY) (had : List kF), had.length + l.length ≤ 1000000000 → sU l had = some (decide (nc had l))
 | [], had, _ => by rw [sU]; congr 1; rw [km, decide_eq_true_iff]; trivial
 | s :: l, had, h => by
  simp only [aH] at h
  rw [sU, F0]
  simp only [aA]
  cases hf : DB s had with
  | false =>
   simp only [cT, bA]
   congr 1
   rw [km, decide_eq_false_iff_not]
   intro hs
   rw [zA.2 hs.1] at hf; cases hf
  | true =>
   simp only [bW, aB, aS]
   rw [mK (by simp; omega) (by simp; omega)]
   simp only [aA]
   rw [JI l _ (by simp; omega)]
   congr 1
   rw [bH]
   simp [nc, zA.1 hf]
theorem Rq (l : List kY) (h : l.length ≤ 1000000000) : zx l = some (Lq l) := by
 unfold zx; rw [JI l [] (by simpa using h)]; rfl
theorem NN : ∀ (l : List kY) (acc : List kF), acc.length + l.length ≤ 1000000000 → tI l acc = some (acc ++ l.map (·.kF))
 | [], acc, _ => by rw [tI]; simp
 | f :: l, acc, h => by
  simp only [aH] at h
  rw [tI, mK (by simp; omega) (by simp; omega)]
  simp only [aA]
  rw [NN l _ (by simp; omega)]
  simp
theorem Hq (l : List kY) (h : l.length ≤ 1000000000) : wE l = some (l.map (·.kF)) := by
 unfold wE; rw [NN l [] (by simpa using h)]; rfl
theorem Li : ∀ (l : List kY) (acc : List kF), acc.length + l.length ≤ 1000000000 → we l acc = some (acc ++ l.map (·.kF))
 | [], acc, _ => by rw [we]; simp
 | f :: l, acc, h => by
  simp only [aH] at h
  rw [we, mK (by simp; omega) (by simp; omega)]
  simp only [aA]
  rw [Li l _ (by simp; omega)]
  simp
theorem HE (l : List kY) (h : l.length ≤ 1000000000) : yl l = some (l.map (·.kF)) := by
 unfold yl; rw [Li l [] (by simpa using h)]; rfl
theorem FX {α : Type} (A B : List α) : (A ++ B).take (Int.toNat (A.length : Int)) = A := by simp
open Classical in
theorem Jr : ∀ (B A : List kY), sZ ((A ++ B).map (·.kF)) B A.length = some (decide (nc (A.map (·.kF)) B))
 | [], A => by rw [sZ]; congr 1; rw [km, decide_eq_true_iff]; trivial
 | s :: B, A => by
  rw [sZ, wJ (by omega) (by simp; omega)]
  simp only [aA]
  rw [← List.map_take, FX, F0]
  simp only [aA]
  cases hf : DB s (A.map (·.kF)) with
  | false =>
   simp only [cT, bA]
   congr 1
   rw [km, decide_eq_false_iff_not]
   intro hs
   rw [zA.2 hs.1] at hf; cases hf
  | true =>
   simp only [bW, aB, aS]
   have := Jr B (A ++ [s])
   simp only [aV, cF, bV, aI, aH, bX, dg] at this
   rw [this]
   congr 1
   rw [bH]
   simp [nc, zA.1 hf]
theorem J3 (l : List kY) (h : l.length ≤ 1000000000) : xy l = some (Lq l) := by
 unfold xy; rw [Hq l h]
 exact Jr l []
theorem P5 {l : List kY} (a : l.length ≤ 1000000000) : qX l = some l := by
 unfold qX
 rw [mK (by simp; omega) (by simp; omega)]
 rfl
theorem T7 {p : Prop} [Decidable p] (h : p) : nM (decide p) = some () := by simp [nM, h]
theorem NA (A : List kY) (x : kY) (B : List kY) (i : (A ++ x :: B).length ≤ 1000000000) : sx (A ++ x :: B) (A.length : Int) ((A.length : Int) + 1) = some (A ++ B) := by
 have hlen : (A ++ x :: B).length = A.length + (B.length + 1) := by simp
 have a : (A ++ x :: B).take (Int.toNat (A.length : Int)) = A := by simp
 have c : (A ++ x :: B).drop (Int.toNat ((A.length : Int) + 1)) = B := by
  rw [show Int.toNat ((A.length : Int) + 1) = A.length + 1 by omega, List.drop_append]
  simp
 have d : (Cx (A ++ x :: B) (Int.toNat (A.length : Int)) (Int.toNat ((A.length : Int) + 1))) = A ++ B ++ (A ++ x :: B).drop ((A ++ x :: B).length - (Int.toNat ((A.length : Int) + 1) - Int.toNat (A.length : Int))) := by
  unfold Cx; rw [a, c]
 have g : (A ++ B ++ (A ++ x :: B).drop ((A ++ x :: B).length - (Int.toNat ((A.length : Int) + 1) - Int.toNat (A.length : Int)))).length = (A ++ x :: B).length := by
  rw [aI, dt, hlen, aI]; omega
 unfold sx
 rw [T7 (by omega)]
 simp only [aA]
 rw [aJ (by simp; omega), wJ (by omega) (by omega), wJ (by omega) (by omega), T7 (by omega)]
 simp only [aA]
 rw [a, c, d, g, T7 (by simp; omega)]
 simp only [aA]
 congr 1
 unfold oI
 have h : (Int.toNat ((A ++ B).length : Int)) = (A ++ B).length := by omega
 rw [h, gF, gF]
def CR (l : List kY) (i : Nat) : Prop := ∃ j, i ≤ j ∧ j + 1 < l.length ∧ nc [] (l.eraseIdx j)
theorem Oh {α : Type} (l : List α) (i : Nat) (h : i < l.length) : ∃ A x B, l = A ++ x :: B ∧ A.length = i := ⟨l.take i, l[i], l.drop (i + 1), by simp, by simp; omega⟩
theorem LC {α : Type} (A : List α) (x : α) (B : List α) : (A ++ x :: B).eraseIdx A.length = A ++ B := by
 rw [List.eraseIdx_append_of_length_le (bD _)]; simp
theorem CR.step {l : List kY} {i : Nat} (h : i + 1 < l.length) : CR l i ↔ nc [] (l.eraseIdx i) ∨ CR l (i + 1) := by
 constructor
 ·rintro ⟨j, h1, c, a⟩
  rcases Nat.eq_or_lt_of_le h1 with rfl | h1
  ·exact .inl a
  ·exact .inr ⟨j, h1, c, a⟩
 ·rintro (h1 | ⟨j, h1, c, a⟩)
  ·exact ⟨i, bD _, h, h1⟩
  ·exact ⟨j, by omega, c, a⟩
open Classical in
theorem LS (l : List kY) (hl : l.length ≤ 100000000) : ∀ (n i : Nat), l.length < n + i → i ≤ l.length → tG l n (i : Int) = some (if CR l i then .inl false else .inr ())
 | 0, i, h, hil => by
  omega
 | n + 1, i, h, hil => by
  rw [tG, lC (by omega) (by omega)]
  have hm : (if 0 > (l.length : Int) - 1 then 0 else (l.length : Int) - 1) = ((l.length - 1 : Nat) : Int) := by split <;> omega
  rw [hm]
  by_cases hi : i + 1 < l.length
  ·rw [aK (by simp; omega), P5 (by omega)]
   simp only [aA]
   obtain ⟨A, x, B, rfl, rfl⟩ := Oh l i (by omega)
   rw [lC (by omega) (by omega), NA A x B (by omega)]
   simp only [aA]
   rw [J3 _ (by simp at hl ⊢; omega)]
   simp only [aA]
   rw [CR.step hi, LC]
   cases hs : Lq (A ++ B) with
   | true => simp [Da.1 hs]
   | false =>
    have hn : ¬ nc [] (A ++ B) := fun h => by rw [Da.2 h] at hs; cases hs
    have := LS _ hl n (A.length + 1) (by omega) (by omega)
    simp only [Int.natCast_add, Int.natCast_one] at this
    simp only [aB, aS, hn, false_or]
    exact this
  ·rw [aJ (by simp; omega)]
   have hn : ¬ CR l i := fun ⟨j, h1, h2, _⟩ => by omega
   rw [aJ hn]
def Dt (l : List kY) : Prop := (l.map (·.kF)).Nodup ∧ nc [] l ∧ ¬ CR l 0
open Classical in
noncomputable def Pn (l : List kY) : Bool := decide (Dt l)
theorem CZ {l : List kY} : Pn l = true ↔ Dt l := by unfold Pn; simp
theorem R5 (l : List kY) (g : (l.map (·.kF)).Nodup) {q : Option (Bool ⊕ Unit)} (i : q = (open Classical in some (if CR l 0 then .inl false else .inr ()))) :
  (if (!Lq l) = true then some false else q.bind fun s => match s with | .inl a => some a | .inr _ => some true) = some (Pn l) := by
 subst i
 cases d : Lq l with
 | false =>
  simp only [cT, bA]
  congr 1
  rw [bH, CZ]
  exact ⟨fun h => (by cases h), fun h => by rw [Da.2 h.2.1] at d; cases d⟩
 | true =>
  simp only [bW, aB, aS, aA]
  by_cases c : CR l 0
  ·rw [aK c]
   simp only
   congr 1
   rw [bH, CZ]
   exact ⟨fun h => (by cases h), fun h => absurd c h.2.2⟩
  ·rw [aJ c]
   simp only
   congr 1
   rw [bH, CZ]
   exact ⟨fun _ => ⟨g, Da.1 d, c⟩, fun _ => rfl⟩
theorem LN (l : List kY) (j : l.length ≤ 100000000) : ∀ (B A : List kF), A ++ B = l.map (·.kF) → A.Nodup → tO (A ++ B) l B A.length = some (Pn l)
 | [], A, e, g => by
  rw [tO, J3 l (by omega)]
  simp only [aA]
  rw [ct] at e
  exact R5 l (by rw [← e]; exact g) (LS l j lE 0 (by rw [pe]; omega) (by omega))
 | f :: B, A, e, g => by
  rw [tO, wJ (by omega) (by simp; omega)]
  simp only [aA]
  rw [FX, U5]
  simp only [aA]
  by_cases c : f ∈ A
  ·rw [aK (by simpa using c)]
   congr 1
   rw [bH, CZ]
   refine ⟨fun h => (by cases h), fun h => ?_⟩
   have := h.1
   rw [← e] at this
   exact absurd rfl ((bO.1 this).2.2 f c f (by simp))
  ·rw [aJ (by simpa using c)]
   have := LN l j B (A ++ [f]) (by simpa using e) (bO.2 ⟨g, by simp, fun a ha b i d => by rw [aN] at i; rw [d, i] at ha; exact c ha⟩)
   simpa only [aV, cF, bV, aI, aH, bX, dg] using this
theorem LL (l : List kY) (a : l.length ≤ 100000000) : An l = some (Pn l) := by
 unfold An
 rw [Hq l (by omega)]
 exact LN l a _ [] rfl (by simp)
theorem Vl : ∀ (P S : List kY) (n : Nat), P.length < n → (P ++ S).length ≤ 100000000 → nc [] (P ++ S) →
  ∃ R, px n (P ++ S) ((P.length : Int) - 1) = some (R ++ S) ∧ R.Sublist P ∧ nc [] (R ++ S) ∧ ∀ R1 x R2, R = R1 ++ x :: R2 → ¬ nc [] (R1 ++ (R2 ++ S)) := by
 intro P
 induction hk : P.length generalizing P with
 | zero =>
  intro S n D s d
  obtain rfl := dH.1 hk
  obtain ⟨m, rfl⟩ : ∃ m, n = m + 1 := ⟨n - 1, by omega⟩
  refine ⟨[], ?_, .slnil, d, fun R1 x R2 h => by simp at h⟩
  rw [px, aJ (by simp)]
 | succ k ih =>
  intro S n D s d
  obtain ⟨m, rfl⟩ : ∃ m, n = m + 1 := ⟨n - 1, by omega⟩
  obtain ⟨P0, x, rfl⟩ : ∃ P0 x, P = P0 ++ [x] := by
   rcases dh P with rfl | ⟨L, y, rfl⟩
   ·simp at hk
   ·exact ⟨L, y, by simp⟩
  have o : P0.length = k := by simpa using hk
  subst o
  have A : P0.length + (S.length + 1) ≤ 100000000 := by simp at s; omega
  simp only [aV, cF, bV] at d s ⊢
  rw [px, aK (by simp), P5 (by omega)]
  simp only [aA]
  rw [show ((P0.length + 1 : Nat) : Int) - 1 = (P0.length : Int) by omega, lC (by omega) (by omega), NA P0 x S (by omega)]
  simp only [aA]
  rw [Rq _ (by simp; omega), lC (by omega) (by omega)]
  simp only [aA]
  cases c : Lq (P0 ++ S) with
  | true =>
   simp only [bA, aA]
   obtain ⟨R, e, h1, i, j⟩ := ih P0 rfl S m (by omega) (by simp; omega) (Da.1 c)
   exact ⟨R, e, h1.trans (List.sublist_append_left _ _), i, j⟩
  | false =>
   simp only [aB, aS, aA]
   obtain ⟨R, e, h1, i, j⟩ := ih P0 rfl (x :: S) m (by omega) (by simp; omega) d
   refine ⟨R ++ [x], by rw [e]; simp, fW h1 (.refl _), by simpa using i, fun R1 y R2 u a => ?_⟩
   rcases dh R2 with rfl | ⟨R2', z, rfl⟩
   ·-- x g
    have : R = R1 ∧ x = y := by
     have := List.append_inj' (t₁ := [x]) (t₂ := [y]) (by simpa using u) rfl
     exact ⟨this.1, by simpa using this.2⟩
    obtain ⟨rfl, rfl⟩ := this
    simp only [bV] at a
    rw [Be] at d a
    have : nc [] (P0 ++ S) := (Be _ _ _).2 ⟨d.1, a.2.mono (fun f v => by
     simp only [bV] at v ⊢
     exact (h1.map _).subset v)⟩
    rw [Da.2 this] at c; cases c
   ·have q : R ++ [x] = (R1 ++ y :: R2') ++ [z] := by simpa using u
    have := List.append_inj' q rfl
    obtain ⟨w, t⟩ := this
    simp at t; subst t
    exact j R1 y R2' w (by simpa using a)
theorem Tm {R : List kY} {z : kY} (d : ((R ++ [z]).map (·.kF)).Nodup) (g : nc [] (R ++ [z])) (h : ∀ R1 x R2, R = R1 ++ x :: R2 → ¬ nc [] (R1 ++ (R2 ++ [z]))) : Dt (R ++ [z]) := by
 refine ⟨d, g, ?_⟩
 rintro ⟨j, _, h1, a⟩
 have c : j < R.length := by simp at h1; omega
 obtain ⟨A, x, B, rfl, rfl⟩ := Oh R j c
 refine h A x B rfl ?_
 have := LC A x (B ++ [z])
 simp only [aV, cF] at a
 rw [this] at a
 exact a
theorem NQ (P : List kY) (z : kY) (i : (P ++ [z]).length ≤ 10000000) (k : ((P ++ [z]).map (·.kF)).Nodup) (m : nc [] (P ++ [z])) :
  ∃ R, xu (P ++ [z]) = some (R ++ [z]) ∧ R.Sublist P ∧ Dt (R ++ [z]) := by
 unfold xu
 rw [tN, qC, LL _ (by omega)]
 simp only [aA]
 cases n : Pn (P ++ [z]) with
 | true =>
  simp only [bW, aB, aS]
  exact ⟨P, rfl, .refl _, CZ.1 n⟩
 | false =>
  simp only [cT, bA]
  have j : P.length + 1 ≤ 10000000 := by simpa using i
  obtain ⟨R, e, h1, d, g⟩ := Vl P [z] lE (by rw [pe]; omega) (by simp; omega) m
  have h : wi0 .i64 (((P ++ [z]).length : Int) - 2) = (P.length : Int) - 1 := by rw [lC (by simp; omega) (by simp; omega)]; simp; omega
  rw [h, e]
  simp only [aA]
  have a : (R ++ [z]).Sublist (P ++ [z]) := fW h1 (.refl _)
  have c := Tm ((a.map _).nodup k) d g
  rw [show (18446744073709551615 : Nat) = 18446744073709551614 + 1 from rfl, qC, LL _ (by have := a.length_le; omega)]
  simp only [aA]
  rw [CZ.2 c]
  simp only [bW, aB, aS]
  exact ⟨R, rfl, h1, c⟩
def DN (l : List kB) : List ByteArray := l.flatMap fun c => [c.ly, c.Head.kI, c.B.kI, c.C.kI]
theorem Gv (l : List kB) : (DN l).length = 4 * l.length := by
 unfold DN
 induction l with
 | nil => rfl
 | cons x l ih => simp [ih]; omega
theorem Ll : ∀ (l : List kB) (acc : List ByteArray), acc.length + 4 * l.length ≤ 1000000000 → tK l acc = zB (acc ++ DN l)
 | [], acc, _ => by rw [tK, ud]; simp [DN]
 | c :: l, acc, h => by
  simp only [aH] at h
  rw [tK, mK (by simp; omega) (by simp; omega)]
  simp only [aA]
  rw [Ll l _ (by simp; omega)]
  simp [DN]
theorem Sp (l : List kB) (h : l.length ≤ 10000000) : ∃ s, Ax l = some s ∧ Dp (DN l) s ∧ s.length ≤ 4 * l.length := by
 unfold Ax
 rw [Ll l [] (by simp; omega)]
 obtain ⟨s, e, a⟩ := Wp ([] ++ DN l) (by rw [bV, Gv]; omega)
 rw [bV] at a
 exact ⟨s, e, a, by rw [← Gv]; exact qj (Ij _) a⟩
theorem qJ.self {α : Type} {lt : α → α → Prop} {P : α → Prop} {l s : List α} (h : qJ lt P l s) : qJ lt P s s := ⟨h.1, fun x => ⟨fun a => ⟨a, ((h.2 x).1 a).2⟩, fun a => a.1⟩⟩
theorem sA.own {l : List kF} {c : kB} {names : List ByteArray} {w : ByteArray} (h : sA l c names w) : sA l c (l.map (·.ly)) w := by
 rcases h with h | h | h | ⟨d, g, i, b, _, a, j⟩
 ·exact .inl h
 ·exact .inr (.inl h)
 ·exact .inr (.inr (.inl h))
 ·exact .inr (.inr (.inr ⟨d, g, i, b, bI.2 ⟨_, a, rfl⟩, a, j⟩))
theorem sA.subset {a b : List kF} {c : kB} {names : List ByteArray} {w : ByteArray} (h : sA a c names w) (d : ∀ f ∈ a, f ∈ b) : sA b c names w := by
 rcases h with h | h | h | ⟨i, j, k, g, m, n, o⟩
 ·exact .inl h
 ·exact .inr (.inl ⟨h.1, d _ h.2⟩)
 ·exact .inr (.inr (.inl ⟨h.1, d _ h.2.1, d _ h.2.2⟩))
 ·exact .inr (.inr (.inr ⟨i, j, k, g, m, d _ n, d _ o⟩))
def mr (l : List kY) : List kF := l.map (·.kF)
theorem qN (l m : List kY) : mr (l ++ m) = mr l ++ mr m := by simp [mr]
structure HK (C : List kB) (want : kF) (out : List kY) : Prop where
 st : nc [] out
 nd : (mr out).Nodup
 cr : ∀ s ∈ out, s.kB ∈ C
 dr : ∀ f ∈ mr out, nY C f
 no : want ∉ mr out
theorem HK.len {C : List kB} {want : kF} {out : List kY} (h : HK C want out) : out.length ≤ C.length * C.length := by
 have h1 : (mr out).length ≤ (Ez C).length := mI h.nd (fun f a => (h.dr f a).Ez)
 rw [Bm] at h1
 simpa [mr] using h1
structure UI (C : List kB) (want : kF) (l : List kY) : Prop where
 st : nc [] l
 nd : (mr l).Nodup
 cr : ∀ s ∈ l, s.kB ∈ C
 dr : nY C want
 len : l.length ≤ C.length * C.length
 last : ∃ P z, l = P ++ [z] ∧ z.kF = want
theorem Pg {κ : Type} {beq : κ → κ → Bool} (c : ∀ {x y}, beq x y = true ↔ x = y) {a : List κ} {k : κ} (h : k ∉ a) : ins beq a k = a ++ [k] := by
 unfold ins
 rw [aJ]
 intro d; exact h ((ni c a k).1 d)
theorem Ji {C : List kB} (D : SM C) (y : rh C) {c : kB} (v : c ∈ C) (vz : List ByteArray) (want : kF) (j : List kY) : ∀ (q : List kF) (out : List kY), HK C want out → (∀ f ∈ mr j, f ∈ mr out) → (∀ f ∈ q, f.kA = c.Head ∧ sA (mr j) c vz f.ly) →
  (∃ l, qn c want q out (tt (mr out)) = some (.inl (.inl (l, true))) ∧ UI C want l) ∨
  (∃ e, qn c want q out (tt (mr out)) = some (.inr (out ++ e, tt (mr (out ++ e)))) ∧ HK C want (out ++ e) ∧ ∀ f ∈ q, f ∈ mr (out ++ e))
 | [], out, h, _, _ => .inr ⟨[], by rw [qn]; simp, by simpa using h, by simp⟩
 | f :: q, out, h, m, G => by
  rw [qn, FQ]
  by_cases k : f ∈ mr out
  ·rw [aK ((ni mL _ _).2 k)]
   rcases Ji D y v vz want j q out h m (fun g d => G g (by simp [d])) with h1 | ⟨e, h1, z, A⟩
   ·exact .inl h1
   ·refine .inr ⟨e, h1, z, fun g d => ?_⟩
    rcases aQ.1 d with rfl | d
    ·rw [qN]; exact bF _ k
    ·exact A g d
  ·rw [aJ (fun u => k ((ni mL _ _).1 u))]
   have P := h.len
   have M := D.sq
   rw [mK (by simp; omega) (by simp; omega)]
   simp only [aA]
   obtain ⟨J, I⟩ := G f (by simp)
   have o : sA (mr out) c vz f.ly := I.subset m
   have n : nY C f := by
    have := T5 v (y c v) h.dr o
    rw [← J] at this; exact this
   have i : nc [] (out ++ [⟨c, f⟩]) := (Be _ _ _).2 ⟨h.st, ⟨y c v, J, o.own⟩, trivial⟩
   have t : (mr (out ++ [⟨c, f⟩])).Nodup := by
    rw [qN]
    exact bO.2 ⟨h.nd, by simp [mr], fun a ha b u E => by
     simp only [mr, bE, fp, aN] at u
     rw [E, u] at ha; exact k ha⟩
   have w : ∀ s ∈ out ++ [⟨c, f⟩], s.kB ∈ C := fun s m => by
    rcases aR.1 m with m | m
    ·exact h.cr s m
    ·rw [aN] at m; rw [m]; exact v
   have x : ∀ g ∈ mr (out ++ [⟨c, f⟩]), nY C g := fun g d => by
    rw [qN] at d
    rcases aR.1 d with d | d
    ·exact h.dr g d
    ·simp only [mr, bE, fp, aN] at d
     rw [d]; exact n
   by_cases hw : f = want
   ·rw [aK (mL.2 hw)]
    refine .inl ⟨_, rfl, i, t, w, by rw [← hw]; exact n, ?_, out, _, rfl, hw⟩
    have h1 : (mr (out ++ [⟨c, f⟩])).length ≤ (Ez C).length := mI t (fun g d => (x g d).Ez)
    rw [Bm] at h1
    simpa [mr] using h1
   ·rw [aJ (fun u => hw (mL.1 u)), KF mL, Pg mL k]
    have d : HK C want (out ++ [⟨c, f⟩]) := ⟨i, t, w, x, fun k => by
     rw [qN] at k
     rcases aR.1 k with k | k
     ·exact h.no k
     ·simp only [mr, bE, fp, aN] at k
      exact hw k.symm⟩
    have L : mr out ++ [f] = mr (out ++ [⟨c, f⟩]) := by rw [qN]; rfl
    rw [L]
    rcases Ji D y v vz want j q _ d (fun g d => by rw [qN]; exact bF _ (m g d)) (fun g d => G g (by simp [d])) with h1 | ⟨e, h1, z, A⟩
    ·exact .inl h1
    ·refine .inr ⟨⟨c, f⟩ :: e, by rw [h1]; simp, by simpa using z, fun g d => ?_⟩
     rcases aQ.1 d with rfl | d
     ·rw [qN]; exact cy _ (by simp [mr])
     ·have := A g d
      simpa using this
def N0 (vz : List ByteArray) (cs : List kB) (F : List kF) : Prop := ∀ c ∈ cs, ∀ w ∈ vz, sA F c vz w → (⟨c.Head, w⟩ : kF) ∈ F
theorem NF {C : List kB} (q : SM C) (m : rh C) {vz : List ByteArray} (hw : Dp vz vz) (i : vz.length ≤ 900000000) (want : kF) : ∀ (cs : List kB) (out : List kY), (∀ c ∈ cs, c ∈ C) → HK C want out →
  (∃ l, rK vz want cs out (tt (mr out)) = some (.inl (l, true)) ∧ UI C want l) ∨
  (∃ e, rK vz want cs out (tt (mr out)) = some (.inr (out ++ e, tt (mr (out ++ e)))) ∧ HK C want (out ++ e) ∧ (e = [] → N0 vz cs (mr out)))
 | [], out, _, h => .inr ⟨[], by rw [rK]; simp, by simpa using h, fun _ c A => by cases A⟩
 | c :: cs, out, d, h => by
  rw [rK]
  obtain ⟨z, v, t, a2⟩ := RT (f := fun x => vO x.1 x.2 (tt (mr out))) (p := fun x => nO nq (mr out) ⟨x.1, x.2⟩) (fun x => by unfold vO; rw [FQ]) (out := mr out) (fun r w => ni mL _ _) c i hw
  rw [v]
  simp only [aA]
  rcases Ji q m (d c (by simp)) vz want out z out h (fun _ h => h) (fun f D => (t f D).2) with ⟨l, h1, k⟩ | ⟨e, h1, k, o⟩
  ·rw [h1]
   exact .inl ⟨l, rfl, k⟩
  ·rw [h1]
   simp only [aA]
   rcases NF q m hw i want cs _ (fun x E => d x (by simp [E])) k with ⟨l, n, k2⟩ | ⟨y, n, k2, s⟩
   ·exact .inl ⟨l, n, k2⟩
   ·refine .inr ⟨e ++ y, by rw [n]; simp, by simpa using k2, fun he => ?_⟩
    obtain ⟨rfl, rfl⟩ := List.append_eq_nil_iff.1 he
    simp only [ct] at o s
    intro u a w j g
    rcases aQ.1 a with rfl | a
    ·exact o _ (a2 (m _ (d _ (by simp))) w j g)
    ·exact s trivial u a w j g
theorem MT {C : List kB} (k : SM C) (g : rh C) {vz : List ByteArray} (hw : Dp vz vz) (d : vz.length ≤ 900000000) (m : ∀ c ∈ C, c.Kind = 1 → c.ly ∈ vz) (want : kF) : ∀ (n : Nat) (out : List kY) (x : Int), HK C want out → x ≤ out.length → (x = out.length → N0 vz C (mr out)) → ((C.length * C.length : Nat) : Int) < n + x →
  (∃ l, rM vz want C n out x (tt (mr out)) = some (l, true) ∧ UI C want l) ∨ (rM vz want C n out x (tt (mr out)) = some ([], false) ∧ ¬ nY C want)
 | 0, out, x, h, s, _, q => by
  have := h.len
  omega
 | n + 1, out, x, h, s, i, q => by
  rw [rM]
  by_cases a : x < out.length
  ·rw [aK (by simpa using a)]
   rcases NF k g hw d want C out (fun _ h => h) h with ⟨l, j, k2⟩ | ⟨e, j, k2, t⟩
   ·rw [j]
    exact .inl ⟨l, rfl, k2⟩
   ·rw [j]
    simp only [aA]
    refine MT k g hw d m want n (out ++ e) out.length k2 (by rw [aI]; omega) (fun he => ?_) (by omega)
    have : e = [] := bP (by simp at he; omega)
    subst this
    rw [ct]
    exact t rfl
  ·rw [aJ (by simpa using a)]
   refine .inr ⟨rfl, fun o => h.no ?_⟩
   exact JA g m (i (by omega)) o
theorem TC (l : List kB) (q : l.length ≤ 30000) (want : kF) : ∃ C, J1 l C ∧ ((∃ o, yi l want = some (o, true) ∧ UI C want o) ∨ (yi l want = some ([], false) ∧ ¬ nY C want)) := by
 obtain ⟨C, i, d⟩ := Y6 l (by omega)
 obtain ⟨vz, j, hw, n⟩ := Sp l (by omega)
 have k : C.length ≤ l.length := qj D7 d
 have a : SM C := by unfold SM; omega
 have h : rh C := fun c g => ((d.2 c).1 g).2
 refine ⟨C, d, ?_⟩
 unfold yi
 rw [i, j]
 simp only [aA]
 have m := a.sq
 exact MT a h hw.self (by omega) (fun c g hk => (hw.2 _).2 ⟨iy.2 ⟨c, ((d.2 c).1 g).1, by simp⟩, QW (h c g) hk⟩) want lE [] (-1) ⟨trivial, by simp [mr], by simp, by simp [mr], by simp [mr]⟩ (by simp) (by simp) (by rw [pe]; omega)
structure Q3 (C : List kB) (want : kF) (l : List kY) : Prop where
 tg : Dt l
 cr : ∀ s ∈ l, s.kB ∈ C
 dr : nY C want
 len : l.length ≤ C.length * C.length
 last : ∃ P z, l = P ++ [z] ∧ z.kF = want
theorem Qd (l : List kB) (q : l.length ≤ 3000) (want : kF) : ∃ C, J1 l C ∧ ((∃ o, vM l want = some (o, true) ∧ Q3 C want o) ∨ (vM l want = some ([], false) ∧ ¬ nY C want)) := by
 obtain ⟨C, c, h⟩ := TC l (by omega) want
 refine ⟨C, c, ?_⟩
 have j : C.length ≤ l.length := qj D7 c
 have m : C.length * C.length ≤ 3000 * 3000 := fj (by omega) (by omega)
 unfold vM
 rcases h with ⟨o, e, g⟩ | ⟨e, g⟩
 ·rw [e]
  simp only [aA, bW, aB, aS]
  obtain ⟨P, z, rfl, n⟩ := g.last
  have hlen := g.len
  obtain ⟨R, d, h1, i⟩ := NQ P z (by omega) g.nd g.st
  rw [d]
  simp only [aA]
  have a : (R ++ [z]).Sublist (P ++ [z]) := fW h1 (.refl _)
  exact .inl ⟨_, rfl, i, fun s k => g.cr s (a.subset k), g.dr, by have := a.length_le; omega, R, z, rfl, n⟩
 ·rw [e]
  exact .inr ⟨rfl, g⟩
def xJ : List kY → List kY → List kY
 | [], acc => acc
 | s :: l, acc => if nO nq (mr acc) s.kF then xJ l acc else xJ l (acc ++ [s])
theorem Qc : ∀ (l m acc : List kY), xJ (l ++ m) acc = xJ m (xJ l acc)
 | [], m, acc => rfl
 | s :: l, m, acc => by
  simp only [cF, xJ]
  split <;> exact Qc l m _
theorem FT : ∀ (l acc : List kY), (xJ l acc).length ≤ acc.length + l.length
 | [], acc => by simp [xJ]
 | s :: l, acc => by
  rw [xJ]
  split
  ·have := FT l acc; simp; omega
  ·have := FT l (acc ++ [s]); simp at this ⊢; omega
theorem Jg : ∀ (l acc : List kY), acc.length + l.length ≤ 100000000 → rV l (tt (mr acc)) acc = some (xJ l acc)
 | [], acc, _ => by rw [rV]; rfl
 | s :: l, acc, h => by
  simp only [aH] at h
  rw [rV, FQ, xJ]
  by_cases a : s.kF ∈ mr acc
  ·rw [(ni mL _ _).2 a]
   simp only [bW, aB, aS, bA]
   exact Jg l acc (by omega)
  ·have c : nO nq (mr acc) s.kF = false := by
    cases d : nO nq (mr acc) s.kF with
    | false => rfl
    | true => exact absurd ((ni mL _ _).1 d) a
   rw [c]
   simp only [cT, bA, aB, aS]
   rw [mK (by simp; omega) (by simp; omega)]
   simp only [aA]
   rw [KF mL, Pg mL a, show mr acc ++ [s.kF] = mr (acc ++ [s]) by rw [qN]; rfl]
   exact Jg l _ (by simp; omega)
theorem Yo {b : Bool} (h : b = true) : nM b = some () := by simp [nM, h]
theorem QH (n : Nat) (a : n ≤ 1000000000) : tZ (n : Int) = some [] := by
 unfold tZ
 rw [show wi0 .i64 (0 - 0) = 0 by decide, lC (by omega) (by omega), aJ (by simp), Int.sub_zero]
 by_cases h : (n : Int) > 0
 ·rw [aK (by simp; omega)]
  unfold Ki
  rw [aK ⟨by omega, by omega, by unfold maxLen; omega⟩]
  simp only [aA]
  rw [Yo (by simp)]
  simp
 ·rw [aJ (by simp; omega)]; simp
def tot {α : Type} (a : List (List α)) : Nat := (a.map List.length).sum
theorem LI : ∀ (a : List (List kY)) (acc : List kY), acc.length + tot a ≤ 100000000 → pw a acc = some (acc ++ a.flatten)
 | [], acc, _ => by rw [pw]; simp
 | l :: a, acc, h => by
  simp only [tot, bE, ee] at h
  rw [pw, mK (by omega) (by omega)]
  simp only [aA]
  rw [LI a _ (by simp only [tot, aI]; omega)]
  simp
theorem Lt (a0 : List (List kY)) (c : tot a0 ≤ 100000000) : ∀ (a : List (List kY)) (n : Nat), n + tot a ≤ 100000000 → pt a0 a (n : Int) = some a0.flatten
 | [], n, h => by
  rw [pt, QH n (by omega)]
  simp only [aA, ud]
  rw [LI a0 [] (by simpa using c)]; simp
 | l :: a, n, h => by
  simp only [tot, bE, ee] at h
  rw [pt, lC (by omega) (by omega), aJ (by simp; omega)]
  have := Lt a0 c a (n + l.length) (by simp only [tot]; omega)
  simpa using this
theorem Tp (a0 : List (List kY)) (a : tot a0 ≤ 100000000) : xV a0 = some a0.flatten := Lt a0 a a0 0 (by omega)
theorem KI {α : Type} (a : List (List α)) : a.flatten.length = tot a := by simp [tot, List.length_flatten]
theorem Nf (a : List (List kY)) (c : tot a ≤ 100000000) : AB a = some (xJ a.flatten []) := by
 unfold AB
 rw [Tp a c]
 simp only [aA]
 exact Jg _ [] (by rw [KI]; simpa using c)
theorem Q3.VX {C : List kB} {want : kF} {o : List kY} (g : Q3 C want o) : want ∈ mr o := by
 obtain ⟨P, z, rfl, a⟩ := g.last
 rw [qN]; exact cy _ (by simp [mr, a])
theorem CM : ∀ (l acc : List kY) (F : List kF), nc F l → (∀ f ∈ F, f ∈ mr acc) → nc [] acc → nc [] (xJ l acc)
 | [], acc, F, _, _, h => h
 | s :: l, acc, F, d, c, h => by
  rw [xJ]
  split
  ·rename_i g
   exact CM l acc (F ++ [s.kF]) d.2 (fun f a => by
    rcases aR.1 a with a | a
    ·exact c f a
    ·rw [aN] at a; rw [a]; exact (ni mL _ _).1 g) h
  ·exact CM l (acc ++ [s]) (F ++ [s.kF]) d.2 (fun f a => by
    rw [qN]
    rcases aR.1 a with a | a
    ·exact bF _ (c f a)
    ·exact cy _ a) ((Be _ _ _).2 ⟨h, d.1.mono c, trivial⟩)
theorem KA : ∀ (l acc : List kY) (s : kY), s ∈ xJ l acc → s ∈ l ∨ s ∈ acc
 | [], acc, s, h => .inr h
 | x :: l, acc, s, h => by
  rw [xJ] at h
  split at h
  ·exact (KA l acc s h).imp (.tail _) id
  ·rcases KA l _ s h with h | h
   ·exact .inl (.tail _ h)
   ·rcases aR.1 h with h | h
    ·exact .inr h
    ·rw [aN] at h; rw [h]; exact .inl (by simp)
section
variable {α : Type}
structure SWO (lt : α → α → Bool) : Prop where
 ZQ : ∀ x, lt x x = false
 tr : ∀ x y z, lt x y = true → lt y z = true → lt x z = true
 ZR : ∀ x y z, lt x z = true → lt x y = true ∨ lt y z = true
variable {lt : α → α → Bool}
def Zs (lt : α → α → Bool) (l : List α) (k : α) : List α := l.filter (fun x => !lt k x) ++ k :: l.filter (fun x => lt k x)
def Zr (lt : α → α → Bool) (l : List α) : List α := l.foldl (Zs lt) []
end
section
variable {c : Formula → Formula → Int} {G : Formula → Prop} {f : Formula × Formula → Option Int}
abbrev ZG (c : Formula → Formula → Int) (x y : Formula) : Bool := decide (c x y < 0)
end
section
variable {c : Formula → Formula → Int} {G : Formula → Prop} {f : Formula × Formula → Option Int}
abbrev Ask (a0 : List Formula) (f : Formula × Formula → Option Int) (p q : Int) (b : Bool) : Prop := ∃ x y r, mC a0 p = some x ∧ mC a0 q = some y ∧ f (x, y) = some r ∧ decide (r < 0) = b
end
section
variable {c : Formula → Formula → Int} {G : Formula → Prop} {f : Formula × Formula → Option Int}
def fm (a : List (List (Formula × Nat))) : List Formula := a.flatten.map (·.1)
end
theorem Ko {P : Formula → Prop} (h : ∀ f, (∀ k ∈ f.Kids, P k) → P f) : ∀ f, P f := by
 intro f
 refine Formula.rec (motive_1 := P) (motive_2 := fun c => ∀ k ∈ c, P k) ?_ ?_ ?_ f
 ·intro o k r c ih; exact h _ ih
 ·intro k hk; cases hk
 ·intro k c h1 d x a
  rcases aQ.1 a with rfl | a
  ·exact h1
  ·exact d x a
mutual
def mB : Formula → Nat
 | ⟨_, _, _, ks⟩ => 1 + nodesL ks
def nodesL : List Formula → Nat
 | [] => 0
 | k :: ks => mB k + nodesL ks
end
mutual
def oS : Formula → Nat
 | ⟨_, _, _, ks⟩ => deepL ks + 1
def deepL : List Formula → Nat
 | [] => 0
 | k :: ks => max (oS k) (deepL ks)
end
theorem te (f : Formula) : mB f = 1 + nodesL f.Kids := by cases f; rw [mB]
theorem oe (f : Formula) : oS f = deepL f.Kids + 1 := by cases f; rw [oS]
theorem xG : ∀ {a : List Formula} {k : Formula}, k ∈ a → mB k ≤ nodesL a
 | x :: a, k, h => by
  rw [nodesL]
  rcases aQ.1 h with rfl | h
  ·omega
  ·have := xG h; omega
theorem xc : ∀ {a : List Formula} {k : Formula}, k ∈ a → oS k ≤ deepL a
 | x :: a, k, h => by
  rw [deepL]
  rcases aQ.1 h with rfl | h
  ·omega
  ·have := xc h; omega
theorem wH : ∀ f : Formula, oS f ≤ mB f := by
 refine Ko fun f ih => ?_
 rw [oe, te]
 have : ∀ a : List Formula, (∀ k ∈ a, oS k ≤ mB k) → deepL a ≤ nodesL a := by
  intro a
  induction a with
  | nil => intro _; rw [deepL]; omega
  | cons k a c =>
   intro h
   have := c (fun x d => h x (by simp [d]))
   have := h k (by simp)
   rw [deepL, nodesL]; omega
 have := this f.Kids ih
 omega
theorem G3 : ∀ a : List Formula, a.length ≤ nodesL a
 | [] => by rw [nodesL]; simp
 | k :: a => by have := G3 a; have := te k; rw [nodesL, aH]; omega
theorem RE (a : Nat) (hm : a ≤ 4096) (rec : Formula → Int → Option (Int × Int)) : ∀ (c : List Formula), (∀ k ∈ c, ∀ q : Nat, q ≤ 4096 → ∃ n d : Nat, rec k (q : Int) = some ((n : Int), (d : Int)) ∧ 1 ≤ n ∧ n ≤ mB k ∧ d ≤ mB k ∧ (mB k ≤ q → n = mB k ∧ d = oS k) ∧ (q < mB k → q < n)) → ∀ x y : Nat, x + nodesL c ≤ 100000000 →
  ∃ n d : Nat, qt (a : Int) rec c (x : Int) (y : Int) = some ((n : Int), (d : Int)) ∧ x ≤ n ∧ n ≤ x + nodesL c ∧ d ≤ max y (nodesL c) ∧ (x + nodesL c ≤ a → n = x + nodesL c ∧ d = max y (deepL c)) ∧ (a < x + nodesL c → a < n)
 | [], _, x, y, _ => by
  rw [qt, nodesL, deepL]
  exact ⟨x, y, rfl, by omega, by omega, by omega, fun _ => ⟨by omega, by omega⟩, fun h => by omega⟩
 | k :: c, i, x, y, t => by
  rw [nodesL] at t ⊢
  rw [qt, deepL]
  by_cases j : (x : Int) > (a : Int)
  ·simp only [j, eE, bA]
   exact ⟨x, y, rfl, by omega, by omega, by omega, fun _ => by omega, fun h => by omega⟩
  ·simp only [j, fw, aB, aS]
   have v : wi0 .i64 ((a : Int) - (x : Int)) = ((a - x : Nat) : Int) := by rw [lC (by omega) (by omega)]; omega
   obtain ⟨m, d, e, h1, D, E, g, s⟩ := i k (by simp) (a - x) (by omega)
   rw [v, e, aA]
   have w : wi0 .i64 ((x : Int) + (m : Int)) = ((x + m : Nat) : Int) := by rw [lC (by omega) (by omega)]; omega
   have A : (if (d : Int) > (y : Int) then (d : Int) else (y : Int)) = ((max y d : Nat) : Int) := by split <;> omega
   simp only [w, A]
   obtain ⟨n, o, e', g1, g2, g3, g4, g5⟩ := RE a hm rec c (fun z u => i z (by simp [u])) (x + m) (max y d) (by omega)
   refine ⟨n, o, e', by omega, by omega, by omega, fun h => ?_, fun h => ?_⟩
   ·obtain ⟨rfl, rfl⟩ := g (by omega)
    obtain ⟨rfl, rfl⟩ := g4 (by omega)
    exact ⟨by omega, by omega⟩
   ·by_cases hk : a - x < mB k
    ·have := s hk; omega
    ·obtain ⟨rfl, _⟩ := g (by omega)
     exact g5 (by omega)
theorem Ui : ∀ (n : Nat) (f : Formula), oS f ≤ n → mB f ≤ 50000000 → ∀ q : Nat, q ≤ 4096 → ∃ m d : Nat, pj n f (q : Int) = some ((m : Int), (d : Int)) ∧ 1 ≤ m ∧ m ≤ mB f ∧ d ≤ mB f ∧ (mB f ≤ q → m = mB f ∧ d = oS f) ∧ (q < mB f → q < m) := by
 intro n
 induction n with
 | zero => intro f h; rw [oe] at h; omega
 | succ n ih =>
  intro f i u q a
  rw [oe] at i
  have j := te f
  rw [pj]
  unfold xO
  obtain ⟨m, d, e, h1, s, t, c, g⟩ := RE q a (pj n) f.Kids (fun k hk q a => ih k (by have := xc hk; omega) (by have := xG hk; omega) q a) 1 0 (by omega)
  have e' : qt (q : Int) (pj n) f.Kids 1 0 = some ((m : Int), (d : Int)) := e
  rw [e', aA]
  have o : wi0 .i64 ((d : Int) + 1) = ((d + 1 : Nat) : Int) := by rw [lC (by omega) (by omega)]; omega
  simp only [o]
  refine ⟨m, d + 1, rfl, h1, by omega, by omega, fun h => ?_, fun h => g (by omega)⟩
  obtain ⟨rfl, rfl⟩ := c (by omega)
  rw [oe]
  exact ⟨by omega, by omega⟩
theorem VM (f : Formula) (g : mB f ≤ 50000000) : zy f = some (if mB f ≤ 4096 then ((mB f : Int), (oS f : Int)) else (0, 0)) := by
 unfold zy
 have := wH f
 obtain ⟨m, d, e, h1, i, j, a, c⟩ := Ui lE f (by rw [tN]; omega) g 4096 (bD _)
 have e' : pj lE f 4096 = some ((m : Int), (d : Int)) := e
 rw [e', aA]
 by_cases h : mB f ≤ 4096
 ·obtain ⟨rfl, rfl⟩ := a h
  have : ¬ ((mB f : Int) > 4096) := by omega
  simp [this, h]
 ·have := c (by omega)
  have : ((m : Int) > 4096) := by omega
  simp [this, h]
def Ae : kA := ⟨zS, zS⟩
def Ge (f : Formula) : Bool := if f.Op = 1 then ml f.kA && decide (f.Kids.length = 0) && decide (f.K = 0) else if f.Op = 2 ∨ f.Op = 3 then kQ f.kA Ae && decide (f.K = 0) else decide (f.Op = 4) && kQ f.kA Ae && decide (0 ≤ f.K) && decide (f.K ≤ (f.Kids.length : Int)) && decide (1 ≤ f.Kids.length)
theorem V2 (f : Formula) : zt f = some (Ge f) := by
 unfold zt Ge
 simp only [uA, aA, ud]
 by_cases h1 : f.Op = 1
 ·simp only [h1, bY, bA]
  cases o : ml f.kA
  ·simp
  ·by_cases j : f.Kids.length = 0
   ·have : f.Kids = [] := bP j
    by_cases hk : f.K = 0 <;> simp [this, hk]
   ·have : ((f.Kids.length : Int) == 0) = false := by simp; intro h; exact j (by simp [h])
    simp only [bA, aA, this, aB, aS, j, fw, Bool.and_false, Bool.false_and]
 ·have m : (f.Op == 1) = false := by simpa using h1
  simp only [m, aB, aS, h1]
  by_cases c : f.Op = 2 ∨ f.Op = 3
  ·have g : (if f.Op == 2 then some (f.Op == 2) else some (f.Op == 3)) = some true := by
    rcases c with h | h <;> simp [h]
   simp only [g, aA, bA, c]
   cases d : kQ f.kA ⟨zS, zS⟩ <;> by_cases hk : f.K = 0 <;> simp [Ae, d, hk]
  ·have g : (if f.Op == 2 then some (f.Op == 2) else some (f.Op == 3)) = some false := by
    have a : f.Op ≠ 2 := fun h => c (.inl h)
    have b : f.Op ≠ 3 := fun h => c (.inr h)
    simp [a, b]
   simp only [g, aA, aB, aS, c]
   by_cases i : f.Op = 4
   ·simp only [i, bY, bA, aA, eE, ed]
    cases d : kQ f.kA ⟨zS, zS⟩
    ·simp [Ae, d]
    ·by_cases c1 : 0 ≤ f.K <;> by_cases c2 : f.K ≤ (f.Kids.length : Int) <;> by_cases k : 1 ≤ f.Kids.length <;> simp [Ae, d, c1, c2, k] <;> omega
   ·have n : (f.Op == 4) = false := by simpa using i
    simp [n, i]
mutual
def yE : Formula → Bool
 | ⟨o, n, r, ks⟩ => Ge ⟨o, n, r, ks⟩ && decide (ks.length ≤ 8) && wellL ks
def wellL : List Formula → Bool
 | [] => true
 | k :: ks => yE k && wellL ks
end
theorem Ja (f : Formula) : yE f = (Ge f && decide (f.Kids.length ≤ 8) && wellL f.Kids) := by cases f; rw [yE]
theorem HQ : ∀ a : List Formula, wellL a = a.all yE
 | [] => rfl
 | k :: a => by rw [wellL, HQ a]; rfl
theorem NV (f : Formula → Option Bool) : ∀ (l : List Formula) (i : Nat), nS f l i = yt f l i
 | [], i => by rw [nS]; rfl
 | x :: l, i => by
  rw [nS, yt]
  cases f x with
  | none => rfl
  | some b =>
   simp only [aA]
   rw [NV f l (i + 1)]
theorem OR (f : Formula → Option Bool) (p : Formula → Bool) (l : List Formula) (h : ∀ x ∈ l, f x = some (p x)) : oQ l f = some (l.any p) := by
 unfold oQ uW
 rw [NV]
 rcases DE f p l 0 h with ⟨e, h1⟩ | ⟨A, x, B, rfl, h1, a, e⟩
 ·rw [e, aA]
  have : l.any p = false := by rw [List.any_eq_false]; intro x c; rw [h1 x c]; simp
  rw [this]; rfl
 ·rw [e, aA]
  have : (A ++ x :: B).any p = true := by simp [a]
  rw [this]
  congr 1
theorem TB : ∀ (n : Nat) (f : Formula), oS f ≤ n → sN n f = some (yE f) := by
 intro n
 induction n with
 | zero => intro f h; rw [oe] at h; omega
 | succ n ih =>
  intro f h
  rw [oe] at h
  rw [sN]
  unfold xR
  rw [V2, aA, Ja, OR _ (fun k => !yE k) f.Kids (fun k hk => by unfold wM; rw [ih k (by have := xc hk; omega)]; rfl)]
  rw [HQ]
  have e : (!(f.Kids.any fun k => !yE k)) = f.Kids.all yE := by rw [List.all_eq_not_any_not]
  cases Ge f
  ·rfl
  ·by_cases a : f.Kids.length ≤ 8
   ·have : ((f.Kids.length : Int) ≤ 8) := by omega
    simp [a, this, e]
   ·have : ¬ ((f.Kids.length : Int) ≤ 8) := by omega
    simp [a, this]
def rn (f : Formula) : Bool := decide (mB f ≤ 64) && decide (oS f ≤ 6) && yE f
theorem Gs (f : Formula) (c : mB f ≤ 50000000) : qV f = some (rn f) := by
 unfold qV rn
 have d := wH f
 rw [VM f c, aA, TB lE f (by rw [tN]; omega)]
 have h1 := te f
 by_cases h : mB f ≤ 4096
 ·simp only [h, bA]
  have a : ((mB f : Int) ≥ 1) := by omega
  simp only [a, eE, bA, aA, ud]
  by_cases c1 : mB f ≤ 64 <;> by_cases c2 : oS f ≤ 6
  ·have d1 : ((mB f : Int) ≤ 64) := by omega
   have d2 : ((oS f : Int) ≤ 6) := by omega
   simp [c1, c2, d1, d2]
  ·have d1 : ((mB f : Int) ≤ 64) := by omega
   have d2 : ¬ ((oS f : Int) ≤ 6) := by omega
   simp [c1, c2, d1, d2]
  ·have d1 : ¬ ((mB f : Int) ≤ 64) := by omega
   simp [c1, d1]
  ·have d1 : ¬ ((mB f : Int) ≤ 64) := by omega
   simp [c1, d1]
 ·simp only [h, aS]
  have : ¬ mB f ≤ 64 := by omega
  simp [this]
theorem Formula.ext' {a b : Formula} (h1 : a.Op = b.Op) (c : a.K = b.K) (d : a.kA = b.kA) (g : a.Kids = b.Kids) : a = b := by
 cases a; cases b; simp only at h1 c d g; subst h1 c d g; rfl
def up (w : ByteArray) (g : ByteArray → Nat) : ByteArray → Nat := fun x => if mh w x = true then g x + 1 else g x
theorem WC (F : List kF) (w : ByteArray) (a : F.length ≤ 1000000000) : xW F w = some ((F.filter fun f => mh f.ly w).map (·.kA)) := by
 unfold xW
 rw [EL w F [] (by simp; omega)]
 simp
instance decRole : DecidableEq kA := fun a b => decidable_of_iff (kQ a b = true) kP
def JQ (F : List kF) (w : ByteArray) : List kA := (F.filter fun f => mh f.ly w).map (·.kA)
structure WR (l : List kB) (F : List kF) : Prop where
 len : l.length ≤ 30000
 C : ∃ C : List kB, Dl (nY C) F ∧ (∀ c, c ∈ C ↔ c ∈ l ∧ mf c = true) ∧ SM C
 ref : zn l = some F
theorem Xc (l : List kB) (h : l.length ≤ 30000) : ∃ F, WR l F := by
 obtain ⟨C, F, e, h1, i⟩ := VU l h
 obtain ⟨C1, T, k, ws, n, j, m1, a, g⟩ := UH l (by omega)
 have d : ∀ c, c ∈ C ↔ c ∈ C1 := fun c => by rw [i, a]
 exact ⟨F, h, ⟨C1, ⟨h1.1, fun f => (h1.2 f).trans (nY.congr d f)⟩, a, by unfold SM; omega⟩, e⟩
theorem WR.Zm {l : List kB} {F : List kF} (h : WR l F) : F.length ≤ 900000000 := by
 obtain ⟨C, h1, c, a⟩ := h.C
 exact VK h1 a
def B8 (l : List Int) : Prop := ∀ x ∈ l, 0 ≤ x ∧ x < 256
def Ri : List ByteArray → List Key → Int
 | _, [] => 0
 | seen, k :: l => if nf k.ly = false then 30 else if k.Key.length < 1 ∨ 32 < k.Key.length then 21 else if nO mh seen k.ly = true then 41 else Ri (seen ++ [k.ly]) l
def TR (l : List Key) : List (ByteArray × List Int) := l.map fun k => (k.ly, k.Key)
def TN (l : List Key) (o : ByteArray) : Option (List Int) := mo mh (TR l) o
theorem Nh {l : List Int} (h : l.length ≤ 1000000) : pL l = some l := by
 unfold pL
 rw [CA (by simpa using h)]; rfl
theorem Qf : ∀ (l : List Key) (seen : List ByteArray), Ri seen l = 0 → ∀ k ∈ l, 1 ≤ k.Key.length ∧ k.Key.length ≤ 32
 | [], _, _, _, hk => by cases hk
 | x :: l, seen, h, k, hk => by
  unfold Ri at h
  split at h
  ·cases h
  split at h
  ·cases h
  split at h
  ·cases h
  rcases aQ.1 hk with rfl | hk
  ·omega
  ·exact Qf l _ h k hk
theorem I6 : ∀ (l : List Key) (o : ByteArray) (b : List Int), TN l o = some b → ∃ k ∈ l, k.Key = b
 | [], o, b, h => by cases h
 | x :: l, o, b, h => by
  unfold TN at h
  rw [show TR (x :: l) = (x.ly, x.Key) :: TR l from rfl, Ei] at h
  split at h
  ·cases h; exact ⟨x, by simp, rfl⟩
  ·obtain ⟨k, hk, e⟩ := I6 l o b h
   exact ⟨k, by simp [hk], e⟩
def K8 (l : List Key) : Prop := ∀ k ∈ l, B8 k.Key
theorem Hj {c : kB} (h : mf c = true) : (qT c).length ≤ 200 := by
 unfold qT yH
 rw [aH, aI]
 have i := nL (Aa h)
 have a : ∀ s, nf s = true → (ua s).length ≤ 17 := fun s d => by rw [qg]; have := nD d; omega
 rcases nP h with g | g | g | g <;> simp only [g.1, bA, aS, Int.reduceEq]
 ·have := a c.ly (by simp_all); omega
 ·have : (pA c.B).length ≤ 34 := nL (by simp_all)
  omega
 ·have : (pA c.B).length ≤ 34 := nL (by simp_all)
  have := a c.lU (by simp_all)
  rw [aI]; omega
 ·have : (pA c.B).length ≤ 34 := nL (by simp_all)
  have : (pA c.C).length ≤ 34 := nL (by simp_all)
  rw [aI]; omega
theorem ZK (c : kB) (h : mf c = true) : vV c = some (qT c) := by rw [Bc, aK h]
structure Mk (ks : List Key) (c : kB) (k : List Int) : Prop where
 ok : Ri [] ks = 0
 rt : mf c = true
 lk : TN ks c.Head.kI = some k
theorem Mk.len {a : List Key} {c : kB} {k : List Int} (h : Mk a c k) : 1 ≤ k.length ∧ k.length ≤ 32 := by
 obtain ⟨q, d, rfl⟩ := I6 _ _ _ h.lk
 exact Qf a [] h.ok q d
theorem Mk.b8 {a : List Key} {c : kB} {k : List Int} (h : Mk a c k) (hk : K8 a) : B8 k := by
 obtain ⟨q, d, rfl⟩ := I6 _ _ _ h.lk
 exact hk q d
theorem Mk.unique {a : List Key} {c : kB} {k k' : List Int} (h : Mk a c k) (d : Mk a c k') : k = k' := by
 have := h.lk; rw [d.lk] at this; cases this; rfl
mutual
def Sf : Formula → List Int
 | ⟨o, k, r, ks⟩ => o :: (if o = 1 then pA r else (if o = 4 then [k] else []) ++ ((ks.length : Int) :: bytesFL ks))
def bytesFL : List Formula → List Int
 | [] => []
 | k :: ks => Sf k ++ bytesFL ks
end
theorem OI {f : Formula} (h : yE f = true) : f.Kids.length ≤ 8 ∧ wellL f.Kids = true ∧ ((f.Op = 1 ∧ ml f.kA = true ∧ f.Kids = [] ∧ f.K = 0) ∨ ((f.Op = 2 ∨ f.Op = 3) ∧ f.kA = Ae ∧ f.K = 0) ∨ (f.Op = 4 ∧ f.kA = Ae ∧ 0 ≤ f.K ∧ f.K ≤ (f.Kids.length : Int) ∧ 1 ≤ f.Kids.length)) := by
 rw [Ja] at h
 simp only [aP, bK] at h
 obtain ⟨⟨h1, a⟩, d⟩ := h
 refine ⟨a, d, ?_⟩
 unfold Ge at h1
 split at h1
 ·rename_i c
  simp only [aP, bK] at h1
  exact .inl ⟨c, h1.1.1, bP h1.1.2, h1.2⟩
 ·split at h1
  ·rename_i c
   simp only [aP, bK, kP] at h1
   exact .inr (.inl ⟨c, h1.1, h1.2⟩)
  ·simp only [aP, bK, kP] at h1
   exact .inr (.inr ⟨h1.1.1.1.1, h1.1.1.1.2, h1.1.1.2, h1.1.2, h1.2⟩)
def YW (f : Formula) : List Int := if rn f then Sf f else []
abbrev Gd (f : Formula) : Prop := mB f ≤ 50000000
theorem TV {f : Formula} (h : rn f = true) : mB f ≤ 64 ∧ oS f ≤ 6 ∧ yE f = true := by
 unfold rn at h
 simp only [aP, bK] at h
 exact ⟨h.1.1, h.1.2, h.2⟩
def ZN (f g : Formula) : Int := AR (YW f) (YW g)
def WT (l : List Formula) : List Formula := Zr (ZG ZN) l
noncomputable def ZO (a b : Formula) : Bool := @decide (a = b) (Classical.propDecidable _)
def JV (op : Int) (f : Formula) : Bool := decide (f.Op = op) && f.Kids.isEmpty
def Qx (op : Int) : List Formula → List Formula
 | [] => []
 | k :: a => (if k.Op = op then k.Kids else [k]) ++ Qx op a
noncomputable def Kz (op : Int) (a : List Formula) : Formula :=
 if (Qx op a).any (JV (5 - op)) then ⟨5 - op, 0, Ae, []⟩ else
  match dd ZO (WT (Qx op a)) with
  | [x] => x
  | r => ⟨op, 0, Ae, r⟩
noncomputable def Uk (k : Int) (a : List Formula) : Formula :=
 let n := k - ((a.filter (JV 2)).length : Int)
 let l := a.filter fun x => !JV 2 x && !JV 3 x
 if n ≤ 0 then ⟨2, 0, Ae, []⟩ else if n > (l.length : Int) then ⟨3, 0, Ae, []⟩ else if n = (l.length : Int) then Kz 2 l else if n = 1 then Kz 3 l else ⟨4, n, Ae, WT l⟩
mutual
noncomputable def XR : Formula → Formula
 | ⟨o, k, r, ks⟩ => if o = 1 then ⟨o, k, r, ks⟩ else if o = 4 then Uk k (shapeL ks) else Kz o (shapeL ks)
noncomputable def shapeL : List Formula → List Formula
 | [] => []
 | k :: ks => XR k :: shapeL ks
end
mutual
def xL (v : kA → Bool) : Formula → Bool
 | ⟨o, k, r, ks⟩ => if o = 1 then v r else if o = 2 then decide (evN v ks = ks.length) else if o = 3 then decide (0 < evN v ks) else decide (k ≤ (evN v ks : Int))
def evN (v : kA → Bool) : List Formula → Nat
 | [] => 0
 | k :: ks => (if xL v k then 1 else 0) + evN v ks
end
theorem DG (v : kA → Bool) (f : Formula) : xL v f = if f.Op = 1 then v f.kA else if f.Op = 2 then decide (evN v f.Kids = f.Kids.length) else if f.Op = 3 then decide (0 < evN v f.Kids) else decide (f.K ≤ (evN v f.Kids : Int)) := by cases f; rw [xL]
theorem Sq (v : kA → Bool) : ∀ a : List Formula, evN v a ≤ a.length
 | [] => by rw [evN]; exact bD _
 | k :: a => by have := Sq v a; rw [evN, aH]; split <;> omega
theorem P3 {v w : kA → Bool} (h : ∀ r, v r = true → w r = true) : ∀ f : Formula, xL v f = true → xL w f = true := by
 refine Ko fun f ih => ?_
 have key : evN v f.Kids ≤ evN w f.Kids := by
  have : ∀ a : List Formula, (∀ k ∈ a, xL v k = true → xL w k = true) → evN v a ≤ evN w a := by
   intro a
   induction a with
   | nil => intro _; rw [evN, evN]; exact bD _
   | cons k a c =>
    intro hk
    have h1 := c (fun x i => hk x (by simp [i]))
    have d := hk k (by simp)
    rw [evN, evN]
    cases g : xL v k
    ·simp; omega
    ·rw [d g]; simp; omega
  exact this _ ih
 have hle := Sq w f.Kids
 rw [DG, DG]
 split
 ·exact h _
 ·split
  ·simp only [bK]; omega
  ·split
   ·simp only [bK]; omega
   ·simp only [bK]; omega
theorem Hb (v : kA → Bool) (f1 : kA → Option Bool) (rec : Formula → (kA → Option Bool) → Option Bool) (f : Formula) : ∀ (a : List Formula) (x : Nat), (∀ k ∈ a, rec k f1 = some (xL v k)) → x + a.length ≤ 100000000 →
  qp rec f1 f a (x : Int) = some (if f.Op = 2 then decide (x + evN v a = f.Kids.length) else if f.Op = 3 then decide (0 < x + evN v a) else decide (f.K ≤ ((x + evN v a : Nat) : Int)))
 | [], x, _, _ => by
  rw [qp, evN, jZ]
  by_cases c2 : f.Op = 2
  ·simp only [c2, bY, bA]
   congr 1
   rw [bH, gf, bK]; omega
  ·have d : (f.Op == 2) = false := by simpa using c2
   simp only [d, aB, aS, c2]
   by_cases c : f.Op = 3
   ·simp only [c, bY, bA]
    congr 1
    rw [bH, bK, bK]; omega
   ·have i : (f.Op == 3) = false := by simpa using c
    simp only [i, aB, aS, c]
 | k :: a, x, h, j => by
  rw [aH] at j
  rw [qp, h k (by simp), aA, evN]
  cases xL v k
  ·simp only [aB, aS]
   rw [Hb v f1 rec f a x (fun z g => h z (by simp [g])) (by omega), dg]
  ·simp only [bA]
   have e : wi0 .i64 ((x : Int) + 1) = ((x + 1 : Nat) : Int) := by rw [lC (by omega) (by omega)]; omega
   rw [e, Hb v f1 rec f a (x + 1) (fun z g => h z (by simp [g])) (by omega)]
   have d : x + 1 + evN v a = x + (1 + evN v a) := by omega
   rw [d]
theorem RW (v : kA → Bool) (f1 : kA → Option Bool) (i : ∀ r, f1 r = some (v r)) : ∀ (n : Nat) (f : Formula), oS f ≤ n → Gd f → qU n f f1 = some (xL v f) := by
 intro n
 induction n with
 | zero => intro f h; rw [oe] at h; omega
 | succ n ih =>
  intro f c d
  rw [oe] at c
  have g := te f
  have j := G3 f.Kids
  unfold Gd at d
  rw [qU]
  unfold xQ
  rw [DG]
  by_cases c1 : f.Op = 1
  ·simp only [c1, bY, bA, i, aA]
  ·have a : (f.Op == 1) = false := by simpa using c1
   simp only [a, aB, aS, c1]
   have := Hb v f1 (qU n) f f.Kids 0 (fun k hk => ih k (by have := xc hk; omega) (by have := xG hk; unfold Gd; omega)) (by omega)
   simpa using this
def yz (v : kA → Bool) (f : Formula) : Bool := rn f && xL v f
theorem Lb (v : kA → Bool) (f1 : kA → Option Bool) (a : ∀ r, f1 r = some (v r)) (f : Formula) (h : Gd f) : sb f f1 = some (yz v f) := by
 unfold sb yz
 rw [Gs f h, aA]
 have := wH f
 cases rn f
 ·rfl
 ·unfold Gd at h
  simp only [bA, RW v f1 a lE f (by rw [tN]; omega) h, aA, ed]
def S8 (l : List Signed) : Prop := ∀ s ∈ l, B8 s.Tag
structure WS (l : List kB) (F : List kF) : Prop where
 len : F.length ≤ 900000000
 ref : zn l = some F
 Y2 : ∃ m, vp l = some m ∧ yw m.1 m.2.1 m.2.2.1 m.2.2.2.1 m.2.2.2.2.1 m.2.2.2.2.2 = some F ∧ ∀ r w, rN m.1 m.2.1 m.2.2.1 m.2.2.2.1 m.2.2.2.2.1 m.2.2.2.2.2 r w = some (nO nq F ⟨r, w⟩)
 yR : ∀ C : List kB, (∀ c, c ∈ C ↔ c ∈ l ∧ mf c = true) → Dl (nY C) F
theorem Ur (l : List kB) (x : l.length ≤ 30000) : ∃ F, WS l F := by
 obtain ⟨F, h⟩ := Xc l x
 refine ⟨F, h.Zm, h.ref, ?_, fun C t => ?_⟩
 ·obtain ⟨C, h1, d, s⟩ := h.C
  obtain ⟨C1, T, m, ws, n, o, m1, g, j⟩ := UH l (by omega)
  have a : ∀ c, c ∈ C1 ↔ c ∈ C := fun c => by rw [d, g]
  have k : Dl (nY C1) F := ⟨h1.1, fun f => (h1.2 f).trans (nY.congr a f).symm⟩
  have u : SM C1 := by unfold SM; omega
  refine ⟨_, o, ?_, fun r w => ?_⟩
  ·obtain ⟨F1, q, i⟩ := Um u.small m1 C1 m ws [] n
   rw [← i.unique k]; exact q
  ·obtain ⟨b, e, v⟩ := WY m1 C1 m ws [] n r w
   rw [e, show b = nO nq F ⟨r, w⟩ from by rw [bH, v, ni mL, k.2]]
 ·obtain ⟨C', h1, d, s⟩ := h.C
  have a : ∀ c, c ∈ C' ↔ c ∈ C := fun c => by rw [d, t]
  exact ⟨h1.1, fun f => (h1.2 f).trans (nY.congr a f)⟩
structure PB (p : mg) : Prop where
 YA : p.mY.length ≤ 2000000
 Za : p.oX.length ≤ 2000000
 rel : ∀ x ∈ p.mY, mB x.lp ≤ 10000000
 Zi : ∀ a ∈ p.oX, mB a.lp ≤ 10000000
 Zy : ∀ a ∈ p.oX, a.qE.length ≤ 2000000
theorem On {α : Type} (f : α → Option Bool) (p : α → Bool) (l : List α) (h : ∀ x ∈ l, f x = some (p x)) : ((yt f l 0).bind fun d => some (decide (d ≥ 0))) = some (l.any p) := by
 rcases DE f p l 0 h with ⟨e, h1⟩ | ⟨A, x, B, rfl, h1, a, e⟩
 ·rw [e, aA]
  have : l.any p = false := by rw [List.any_eq_false]; intro x c; rw [h1 x c]; simp
  rw [this]; rfl
 ·rw [e, aA]
  have : (A ++ x :: B).any p = true := by simp [a]
  rw [this]
  congr 1
def vF (F : List kF) (peer : ByteArray) (r : kA) : Bool := nO nq F ⟨r, peer⟩
theorem Jv (t : List kB) : ∀ (l : List kY) (a : List kF), nc a l → (∀ f ∈ a, nY t f) → (∀ s ∈ l, s.kB ∈ t) → ∀ s ∈ l, nY t s.kF
 | [], _, _, _, _, _, h => by cases h
 | z :: l, a, ⟨⟨h1, m, n⟩, g⟩, j, i, s, c => by
  have k : nY t z.kF := by
   have := sA.yR j (i z (by simp)) (Gh h1) n
   rw [← m] at this
   exact this
  rcases aQ.1 c with rfl | c
  ·exact k
  ·exact Jv t l _ g (fun f d => by
    rcases aR.1 d with d | d
    ·exact j f d
    ·rw [aN] at d; rw [d]; exact k) (fun s g => i s (by simp [g])) s c
theorem Vj : ∀ (n : Nat) (l : List Formula), deepL l < n → ∃ r, oa n l = some r := by
 intro n
 induction n with
 | zero => intro l h; omega
 | succ n ih =>
  intro l h
  rw [oa]
  unfold wK
  generalize (0 : Int) = x
  induction l generalizing x with
  | nil => exact ⟨x, by rw [qi]⟩
  | cons k l a =>
   rw [deepL] at h
   have := oe k
   obtain ⟨r, e⟩ := ih k.Kids (by omega)
   rw [qi, e, aA]
   exact a (by omega) _
theorem Rw (f : Formula) (h : Gd f) : ∃ r, oa lE [f] = some r := by
 unfold Gd at h
 have := wH f
 exact Vj lE [f] (by rw [deepL, deepL, tN]; omega)
structure PG (p : mg) : Prop extends PB p where
 Zx : ∀ x ∈ p.mY, uI x.Signed.kB ≤ 1000000000
 ZH : ∀ a ∈ p.oX, ∀ c ∈ a.qE, uI c ≤ 1000000000
noncomputable def vD (l : List kB) (peer : ByteArray) (r : kA) : Bool := @decide (nY (l.filter mf) ⟨r, peer⟩) (Classical.propDecidable _)
theorem Xz (l : List kB) (peer : ByteArray) (r : kA) : vD l peer r = true ↔ nY (l.filter mf) ⟨r, peer⟩ := by unfold vD; simp
def sY : kA := ⟨⟨#[120]⟩, ⟨#[121]⟩⟩
def sr (r : kA) : Formula := ⟨1, 0, r, []⟩
theorem PF (v : kA → Bool) (r : kA) : xL v (sr r) = v r := by rw [DG]; rfl
theorem Np : rn (sr sY) = true := by decide +kernel
theorem XN : ∀ (n : Nat) (f : Formula), oS f ≤ n → Gd f → ta n f = some (mB f : Int) := by
 intro n
 induction n with
 | zero => intro f h; rw [oe] at h; omega
 | succ n ih =>
  intro f g i
  rw [oe] at g
  have c := te f
  unfold Gd at i
  rw [ta]
  unfold yX
  have key : ∀ (a : List Formula) (x : Nat), (∀ k ∈ a, k ∈ f.Kids) → x + nodesL a ≤ 50000000 → tH (ta n) a (x : Int) = some ((x + nodesL a : Nat) : Int) := by
   intro a
   induction a with
   | nil => intro x _ _; rw [tH, nodesL]; rfl
   | cons k a d =>
    intro x hk j
    rw [nodesL] at j
    rw [tH, ih k (by have := xc (hk k (by simp)); omega) (by have := xG (hk k (by simp)); unfold Gd; omega), aA]
    have w : wi0 .i64 ((x : Int) + (mB k : Int)) = ((x + mB k : Nat) : Int) := by rw [lC (by omega) (by omega)]; omega
    rw [w, d _ (fun z m => hk z (by simp [m])) (by omega), nodesL]
    congr 2; omega
  have := key f.Kids 1 (fun k hk => hk) (by omega)
  rw [c]
  exact this
theorem YP : ∀ (n : Nat) (f : Formula), oS f ≤ n → Gd f → uh n f = some (oS f : Int) := by
 intro n
 induction n with
 | zero => intro f h; rw [oe] at h; omega
 | succ n ih =>
  intro f g i
  rw [oe] at g ⊢
  have j := te f
  have hle := wH f
  rw [oe] at hle
  unfold Gd at i
  rw [uh]
  unfold zW
  have key : ∀ (a : List Formula) (x : Nat), (∀ k ∈ a, k ∈ f.Kids) → max x (deepL a) ≤ 50000000 → uB (uh n) a (x : Int) = some ((max x (deepL a) + 1 : Nat) : Int) := by
   intro a
   induction a with
   | nil =>
    intro x _ c
    rw [deepL] at c
    rw [uB, deepL, lC (by omega) (by omega)]
    congr 1; omega
   | cons k a d =>
    intro x hk c
    rw [deepL] at c
    rw [uB, ih k (by have := xc (hk k (by simp)); omega) (by have := xG (hk k (by simp)); unfold Gd; omega), aA]
    have w : (if (oS k : Int) > (x : Int) then (oS k : Int) else (x : Int)) = ((max x (oS k) : Nat) : Int) := by split <;> omega
    rw [w, d _ (fun z m => hk z (by simp [m])) (by omega), deepL]
    congr 2; omega
  have := key f.Kids 0 (fun k hk => hk) (by omega)
  rw [Nat.zero_max] at this
  exact this
theorem X8 : ∀ (n : Nat) (f : Formula), oS f ≤ n → uw n f = some (yE f) := by
 intro n
 induction n with
 | zero => intro f h; rw [oe] at h; omega
 | succ n ih =>
  intro f h
  rw [oe] at h
  have key : ∀ j : List Formula, (∀ k ∈ j, k ∈ f.Kids) → uQ (uw n) j = some (wellL j) := by
   intro j
   induction j with
   | nil => intro _; rw [uQ, wellL]
   | cons k j s =>
    intro hk
    rw [uQ, ih k (by have := xc (hk k (by simp)); omega), aA, s (fun z u => hk z (by simp [u])), wellL]
    cases yE k <;> rfl
  have hk := key f.Kids (fun k hk => hk)
  rw [uw]
  unfold zQ
  rw [hk, Ja, AL]
  unfold Ge
  simp only [aA]
  by_cases c1 : f.Op = 1
  ·simp only [c1, bY, bA]
   cases v : ml f.kA
   ·simp
   ·by_cases c : f.Kids.length = 0
    ·have e : f.Kids = [] := bP c
     by_cases q : f.K = 0 <;> simp [e, q, wellL]
    ·have : ((f.Kids.length : Int) == 0) = false := by rw [beq_eq_false_iff_ne]; omega
     simp [this, c]
  ·have t : (f.Op == 1) = false := by simpa using c1
   simp only [t, aB, aS, c1]
   by_cases i : f.Op = 2 ∨ f.Op = 3
   ·have m : ¬ f.Op < 1 := by omega
    have a2 : ¬ f.Op > 4 := by omega
    have a3 : f.Op < 4 := by omega
    have a4 : (f.Op == 4) = false := by rw [beq_eq_false_iff_ne]; omega
    simp only [m, a2, a3, a4, i, fw, eE, aB, aS, bA, aA]
    cases g : kQ f.kA ⟨zS, zS⟩
    ·simp [Ae, g]
    ·by_cases c : f.Kids.length ≤ 8
     ·have d : ¬ ((f.Kids.length : Int) > 8) := by omega
      by_cases q : f.K = 0 <;> simp [Ae, g, c, d, q]
     ·have d : ((f.Kids.length : Int) > 8) := by omega
      simp [Ae, g, c, d]
   ·by_cases o : f.Op = 4
    ·have m : ¬ f.Op < 1 := by omega
     have a2 : ¬ f.Op > 4 := by omega
     have a3 : ¬ f.Op < 4 := by omega
     simp only [m, a2, a3, i, fw, aB, aS, aA]
     simp only [o, bY, bA, eE, ed]
     cases g : kQ f.kA ⟨zS, zS⟩
     ·simp [Ae, g]
     ·by_cases c : f.Kids.length ≤ 8
      ·have d : ¬ ((f.Kids.length : Int) > 8) := by omega
       by_cases d1 : 1 ≤ f.Kids.length
       ·have g1 : ¬ ((f.Kids.length : Int) < 1) := by omega
        by_cases d2 : 0 ≤ f.K
        ·have g2 : ¬ f.K < 0 := by omega
         by_cases d3 : f.K ≤ (f.Kids.length : Int)
         ·have g3 : ¬ f.K > (f.Kids.length : Int) := by omega
          simp [Ae, g, c, d, d1, g1, d2, g2, d3, g3]
         ·have g3 : f.K > (f.Kids.length : Int) := by omega
          simp [Ae, g, c, d, d1, g1, d2, g2, d3, g3]
        ·have g2 : f.K < 0 := by omega
         simp [Ae, g, c, d, d1, g1, d2, g2]
       ·have g1 : ((f.Kids.length : Int) < 1) := by omega
        simp [Ae, g, c, d, d1, g1]
      ·have d : ((f.Kids.length : Int) > 8) := by omega
       simp [Ae, g, c, d]
    ·have a : f.Op < 1 ∨ f.Op > 4 := by omega
     rcases a with a | a
     ·simp [a, i, o]
     ·have : ¬ f.Op < 1 := by omega
      simp [a, this, i, o]
theorem SX (f : Formula) (h : Gd f) : xY f = some (rn f) := by
 have c := wH f
 have a := h
 unfold Gd at a
 unfold xY rn
 rw [XN lE f (by rw [tN]; omega) h, YP lE f (by rw [tN]; omega) h, X8 lE f (by rw [tN]; omega)]
 simp only [aA]
 by_cases c1 : mB f ≤ 64
 ·have d1 : ((mB f : Int) ≤ 64) := by omega
  by_cases c2 : oS f ≤ 6
  ·have d2 : ((oS f : Int) ≤ 6) := by omega
   simp [c1, c2, d1, d2]
  ·have d2 : ¬ ((oS f : Int) ≤ 6) := by omega
   simp [c1, c2, d1, d2]
 ·have d1 : ¬ ((mB f : Int) ≤ 64) := by omega
  simp [c1, d1]
theorem Xk (l : List kA) (r : kA) : zY l r = some (nO kQ l r) := by
 unfold zY
 induction l with
 | nil => rfl
 | cons x l ih =>
  rw [zq, ih]
  have e : nO kQ (x :: l) r = (kQ r x || nO kQ l r) := rfl
  have a : kQ x r = kQ r x := by rw [bH, kP, kP]; exact km
  rw [e, a]
  cases kQ r x <;> rfl
theorem I2 (l : List kA) (rec : Formula → List kA → Option Bool) (f : Formula) (v : kA → Bool) : ∀ (a : List Formula) (x : Nat), (∀ k ∈ a, rec k l = some (xL v k)) → x + a.length ≤ 100000000 →
  sO rec l f a (x : Int) = some (if f.Op = 2 then decide (x + evN v a = f.Kids.length) else if f.Op = 3 then decide (0 < x + evN v a) else decide (f.K ≤ ((x + evN v a : Nat) : Int)))
 | [], x, _, _ => by
  rw [sO, evN, jZ]
  by_cases c2 : f.Op = 2
  ·simp only [c2, bY, bA]
   congr 1
   rw [bH, gf, bK]; omega
  ·have d : (f.Op == 2) = false := by simpa using c2
   simp only [d, aB, aS, c2]
   by_cases c : f.Op = 3
   ·simp only [c, bY, bA]
    congr 1
    rw [bH, bK, bK]; omega
   ·have i : (f.Op == 3) = false := by simpa using c
    simp only [i, aB, aS, c]
    first | done | rfl
 | k :: a, x, h, j => by
  rw [aH] at j
  rw [sO, h k (by simp), aA, evN]
  cases xL v k
  ·simp only [aB, aS]
   rw [I2 l rec f v a x (fun z g => h z (by simp [g])) (by omega), dg]
  ·simp only [bA]
   have e : wi0 .i64 ((x : Int) + 1) = ((x + 1 : Nat) : Int) := by rw [lC (by omega) (by omega)]; omega
   rw [e, I2 l rec f v a (x + 1) (fun z g => h z (by simp [g])) (by omega)]
   have d : x + 1 + evN v a = x + (1 + evN v a) := by omega
   rw [d]
theorem QF (l : List kA) : ∀ (n : Nat) (f : Formula), oS f ≤ n → Gd f → rf n f l = some (xL (nO kQ l) f) := by
 intro n
 induction n with
 | zero => intro f h; rw [oe] at h; omega
 | succ n ih =>
  intro f c d
  rw [oe] at c
  have g := te f
  have i := G3 f.Kids
  unfold Gd at d
  rw [rf]
  unfold zV
  rw [DG, Xk]
  by_cases c1 : f.Op = 1
  ·simp only [c1, bY, bA, aA]
  ·have a : (f.Op == 1) = false := by simpa using c1
   simp only [a, aB, aS, c1]
   have := I2 l (rf n) f (nO kQ l) f.Kids 0 (fun k hk => ih k (by have := xc hk; omega) (by have := xG hk; unfold Gd; omega)) (by omega)
   simpa using this
theorem Tf (F : List kF) (w : ByteArray) : nO kQ (JQ F w) = vF F w := by
 funext r
 unfold vF JQ
 rw [bH, ni kP, ni mL, bI]
 constructor
 ·rintro ⟨f, c, rfl⟩
  obtain ⟨h1, a⟩ := cJ.1 c
  have := mO.1 a
  rw [← this]; exact h1
 ·intro h
  exact ⟨⟨r, w⟩, cJ.2 ⟨h, mO.2 rfl⟩, rfl⟩
theorem Qt {l : List kB} {F : List kF} (h : WS l F) (peer : ByteArray) : vF F peer = vD l peer := by
 funext r
 rw [bH, Xz]
 unfold vF
 rw [ni mL, (h.yR (l.filter mf) (fun c => by rw [cJ])).2]
mutual
def Ca : Formula → Nat
 | ⟨_, _, r, ks⟩ => 1 + r.kI.size + r.kU.size + szFL ks
def szFL : List Formula → Nat
 | [] => 0
 | k :: ks => Ca k + szFL ks
end
theorem Og (f : Formula) : Ca f = 1 + f.kA.kI.size + f.kA.kU.size + szFL f.Kids := by cases f; rw [Ca]
theorem Ev : ∀ f : Formula, mB f ≤ Ca f := by
 refine Ko fun f ih => ?_
 have : ∀ a : List Formula, (∀ k ∈ a, mB k ≤ Ca k) → nodesL a ≤ szFL a := by
  intro a
  induction a with
  | nil => intro _; rw [nodesL]; omega
  | cons k a c =>
   intro h
   have := c (fun x d => h x (by simp [d]))
   have := h k (by simp)
   rw [nodesL, szFL]; omega
 have := this f.Kids ih
 rw [te, Og]; omega
def xw : List kB → Nat
 | [] => 0
 | c :: l => 20 + uI c + xw l
theorem g5 : ∀ (l : List kB) (n : Int), 0 ≤ n → n + (xw l : Int) ≤ 4000000000000000000 → oM l n = some (n + (xw l : Int))
 | [], n, _, _ => by rw [oM, xw]; simp
 | c :: l, n, d, a => by
  have e : uI c = c.Head.kI.size + c.Head.kU.size + c.ly.size + c.B.kI.size + c.B.kU.size + c.C.kI.size + c.C.kU.size + c.lU.size := rfl
  rw [xw] at a
  rw [oM]
  rw [lC (x := 20 + (c.Head.kI.size : Int)) (by omega) (by omega), lC (x := 20 + (c.Head.kI.size : Int) + (c.Head.kU.size : Int)) (by omega) (by omega), lC (x := 20 + (c.Head.kI.size : Int) + (c.Head.kU.size : Int) + (c.ly.size : Int)) (by omega) (by omega), lC (x := 20 + (c.Head.kI.size : Int) + (c.Head.kU.size : Int) + (c.ly.size : Int) + (c.B.kI.size : Int)) (by omega) (by omega), lC (x := 20 + (c.Head.kI.size : Int) + (c.Head.kU.size : Int) + (c.ly.size : Int) + (c.B.kI.size : Int) + (c.B.kU.size : Int)) (by omega) (by omega), lC (x := 20 + (c.Head.kI.size : Int) + (c.Head.kU.size : Int) + (c.ly.size : Int) + (c.B.kI.size : Int) + (c.B.kU.size : Int) + (c.C.kI.size : Int)) (by omega) (by omega), lC (x := 20 + (c.Head.kI.size : Int) + (c.Head.kU.size : Int) + (c.ly.size : Int) + (c.B.kI.size : Int) + (c.B.kU.size : Int) + (c.C.kI.size : Int) + (c.C.kU.size : Int)) (by omega) (by omega), lC (x := 20 + (c.Head.kI.size : Int) + (c.Head.kU.size : Int) + (c.ly.size : Int) + (c.B.kI.size : Int) + (c.B.kU.size : Int) + (c.C.kI.size : Int) + (c.C.kU.size : Int) + (c.lU.size : Int)) (by omega) (by omega), lC (by omega) (by omega)]
  rw [g5 l _ (by omega) (by omega), xw]
  congr 1; omega
theorem ZL : ∀ (n : Nat) (l : List Formula), deepL l < n → szFL l ≤ 1000000000000 → ∃ r : Int, oa n l = some r ∧ 0 ≤ r ∧ r ≤ (szFL l : Int) := by
 intro n
 induction n with
 | zero => intro l h; omega
 | succ n ih =>
  intro l h g
  rw [oa]
  unfold wK
  have key : ∀ (l : List Formula) (x : Int), deepL l < n + 1 → 0 ≤ x → x + (szFL l : Int) ≤ 1000000000000 → ∃ r : Int, qi (oa n) l x = some r ∧ 0 ≤ r ∧ r ≤ x + (szFL l : Int) := by
   intro l
   induction l with
   | nil => intro x _ i _; exact ⟨x, by rw [qi], i, by rw [szFL]; simp⟩
   | cons k l c =>
    intro x h i g
    rw [deepL] at h
    rw [szFL] at g
    have hk := Og k
    have := oe k
    obtain ⟨r, e, h1, j⟩ := ih k.Kids (by omega) (by omega)
    rw [qi, e, aA]
    have q : 0 ≤ Int.tdiv ((k.kA.kI.size : Int) + (k.kA.kU.size : Int)) 16 ∧ Int.tdiv ((k.kA.kI.size : Int) + (k.kA.kU.size : Int)) 16 ≤ (k.kA.kI.size : Int) + (k.kA.kU.size : Int) := by
     rw [Int.tdiv_eq_ediv_of_nonneg (by omega)]
     omega
    rw [lC (x := (k.kA.kI.size : Int) + (k.kA.kU.size : Int)) (by omega) (by omega)]
    generalize Int.tdiv ((k.kA.kI.size : Int) + (k.kA.kU.size : Int)) 16 = d at *
    rw [lC (x := d) (by omega) (by omega), lC (x := 1 + d) (by omega) (by omega), lC (x := 1 + d + r) (by omega) (by omega), lC (x := x + (1 + d + r)) (by omega) (by omega)]
    obtain ⟨o, e', a, m⟩ := c (x + (1 + d + r)) (by omega) (by omega) (by omega)
    exact ⟨o, e', a, by rw [szFL]; omega⟩
  obtain ⟨r, e, h1, j⟩ := key l 0 h (by omega) (by omega)
  exact ⟨r, e, h1, by omega⟩
theorem PA (f : Formula) (h : Ca f ≤ 50000000) : ∃ r : Int, oa lE [f] = some r ∧ 0 ≤ r ∧ r ≤ (Ca f : Int) := by
 have h1 := Ev f
 have c := wH f
 obtain ⟨r, e, a, b⟩ := ZL lE [f] (by rw [deepL, deepL, tN]; omega) (by rw [szFL, szFL]; omega)
 refine ⟨r, e, a, ?_⟩
 rw [szFL, szFL] at b; omega
theorem g6 (s : Signed) (h : uI s.kB + s.Tag.length ≤ 1000000000) : AA [] [s] = some (20 + (uI s.kB : Int) + (s.Tag.length : Int)) := by
 unfold AA
 rw [xT, vR]
 have := g5 [s.kB] 0 (by omega) (by rw [xw, xw]; omega)
 rw [show oz [s.kB] = _ from this, aA, vR, xw, xw]
 rw [lC (x := 0 + ((20 + uI s.kB + 0 : Nat) : Int) + (s.Tag.length : Int)) (by omega) (by omega), lC (by omega) (by omega)]
 simp only [aA]
 congr 1; omega
def EO : List nR → Nat
 | [] => 0
 | x :: l => 20 + uI x.Signed.kB + x.Signed.Tag.length + 20 * Ca x.lp + EO l
def Dn : List uJ → Nat
 | [] => 0
 | a :: l => a.kA.kI.size + a.kA.kU.size + 20 * Ca a.lp + xw a.qE + Dn l
def Ns (p : mg) : Nat := p.Name.size + EO p.mY + Dn p.oX
theorem SZ : ∀ (l : List uJ) (x : Int), 0 ≤ x → x + (Dn l : Int) ≤ 1000000000 → ∃ r : Int, tJ l x = some r ∧ x ≤ r ∧ r ≤ x + (Dn l : Int)
 | [], x, _, _ => ⟨x, by rw [tJ], by omega, by rw [Dn]; omega⟩
 | a :: l, x, i, h => by
  rw [Dn] at h
  obtain ⟨r, e, h1, j⟩ := PA a.lp (by omega)
  have c := g5 a.qE 0 (by omega) (by omega)
  rw [tJ, e, aA, show oz a.qE = _ from c, aA]
  rw [lC (x := (a.kA.kI.size : Int) + (a.kA.kU.size : Int)) (by omega) (by omega), lC (x := 20 * r) (by omega) (by omega), lC (x := (a.kA.kI.size : Int) + (a.kA.kU.size : Int) + 20 * r) (by omega) (by omega), lC (x := (a.kA.kI.size : Int) + (a.kA.kU.size : Int) + 20 * r + (0 + (xw a.qE : Int))) (by omega) (by omega), lC (by omega) (by omega)]
  obtain ⟨d, e', g, a2⟩ := SZ l (x + ((a.kA.kI.size : Int) + (a.kA.kU.size : Int) + 20 * r + (0 + (xw a.qE : Int)))) (by omega) (by omega)
  exact ⟨d, e', by omega, by rw [Dn]; omega⟩
theorem ZC (p : mg) (d : Ns p ≤ 1000000000) : ∃ r : Int, Az p = some r ∧ 20 * (p.mY.length : Int) ≤ r ∧ r ≤ (Ns p : Int) := by
 unfold Ns at d
 have key : ∀ (l : List nR) (x : Int), 0 ≤ x → x + (EO l : Int) + (Dn p.oX : Int) ≤ 1000000000 → ∃ r : Int, tA p l x = some r ∧ x + 20 * (l.length : Int) ≤ r ∧ r ≤ x + (EO l : Int) + (Dn p.oX : Int) := by
  intro l
  induction l with
  | nil =>
   intro x c h
   rw [EO] at h
   obtain ⟨r, e, a, b⟩ := SZ p.oX x c (by omega)
   exact ⟨r, by rw [tA, e]; rfl, by simp; omega, by rw [EO]; omega⟩
  | cons y l ih =>
   intro x c h
   rw [EO] at h
   obtain ⟨r, e, h1, i⟩ := PA y.lp (by omega)
   rw [tA, g6 y.Signed (by omega)]
   simp only [aA]
   rw [e, aA]
   rw [lC (x := 20 * r) (by omega) (by omega), lC (x := 20 + (uI y.Signed.kB : Int) + (y.Signed.Tag.length : Int) + 20 * r) (by omega) (by omega), lC (by omega) (by omega)]
   obtain ⟨g, e', a, b⟩ := ih (x + (20 + (uI y.Signed.kB : Int) + (y.Signed.Tag.length : Int) + 20 * r)) (by omega) (by omega)
   exact ⟨g, e', by rw [aH]; omega, by rw [EO]; omega⟩
 obtain ⟨r, e, a, b⟩ := key p.mY (p.Name.size : Int) (by omega) (by omega)
 unfold Az
 exact ⟨r, e, by omega, by unfold Ns; omega⟩
theorem bb {α β γ : Type} (x : Option α) (f : α → Option β) (g : β → Option γ) : (x.bind fun a => (f a).bind g) = (x.bind f).bind g := by cases x <;> rfl
noncomputable def Zz (p : Oj) : Bool := (J9 p.kI p.Client p.Formula).getD false
def Wy (l : List nR) (i : Int) : Prop := 0 ≤ i ∧ i < l.length
instance (l : List nR) (i : Int) : Decidable (Wy l i) := by unfold Wy; infer_instance
def Xo (l : List nR) (i : Int) : List nR := if Wy l i then l.eraseIdx i.toNat else l
def UG (p : Oj) (e i : Int) : Oj :=
 if e = 0 then ⟨⟨p.kI.Name, Xo p.kI.mY i, p.kI.oX⟩, p.Client, p.Formula, p.WB, p.U2, p.PZ, p.UE, p.RS, p.Keys⟩
 else if e = 1 then ⟨p.kI, ⟨p.Client.Name, Xo p.Client.mY i, p.Client.oX⟩, p.Formula, p.WB, p.U2, p.PZ, p.UE, p.RS, p.Keys⟩
 else p
noncomputable def shr (e : Int) : Nat → Oj → Oj
 | 0, p => p
 | k + 1, p => shr e k (if Zz (UG p e k) then UG p e k else p)
def xv : List kA → Nat
 | [] => 0
 | r :: l => 5 + r.kI.size + r.kU.size + xv l
theorem RX : ∀ (l : List kA) (x : Int), 0 ≤ x → x + (xv l : Int) ≤ 4000000000000000000 → tM l x = some (x + (xv l : Int))
 | [], x, _, _ => by rw [tM, xv]; simp
 | r :: l, x, a, h => by
  rw [xv] at h
  rw [tM, lC (x := 5 + (r.kI.size : Int)) (by omega) (by omega), lC (x := 5 + (r.kI.size : Int) + (r.kU.size : Int)) (by omega) (by omega), lC (by omega) (by omega), RX l _ (by omega) (by omega), xv]
  congr 1; omega
theorem RD (a b : List kA) : xv (a ++ b) = xv a + xv b := by
 induction a with
 | nil => simp [xv]
 | cons r a ih => rw [cF, xv, xv, ih]; omega
theorem I3 : ∀ l : List kB, 20 * l.length ≤ xw l
 | [] => by simp
 | c :: l => by have := I3 l; rw [xw, aH]; omega
structure SQ (s : ur) : Prop where
 p : PG s.mg
 go : Ns s.mg ≤ 1000000000
 acc : xw s.lL ≤ 1000000000
 sh : xw s.Shown ≤ 1000000000
 wl : s.mG.length ≤ 10000000
 al : s.sI.length ≤ 10000000
 YT : xv s.mG ≤ 1000000000
 ask : xv s.sI ≤ 1000000000
 peer : s.od.size ≤ 1000000000
theorem YU (s : ur) (h : SQ s) : ∃ r : Int, Au s = some r ∧ 20 * (s.mg.mY.length : Int) ≤ r ∧ 20 * (s.lL.length : Int) ≤ r := by
 have h1 := h.go
 have k := h.acc
 have m := h.sh
 have n := h.wl
 have o := h.al
 have q := h.YT
 have t := h.ask
 have u := h.peer
 obtain ⟨a, c, i, j⟩ := ZC s.mg h1
 have d := g5 s.lL 0 (by omega) (by omega)
 have g := g5 s.Shown 0 (by omega) (by omega)
 have c1 := I3 s.lL
 have c2 := I3 s.Shown
 unfold Au
 rw [c, aA, show oz s.lL = _ from d, aA, show oz s.Shown = _ from g, aA]
 rw [mK (by simp; omega) (by simp; omega), aA, bV, mK (by omega) (by omega), aA]
 rw [lC (x := a + (s.od.size : Int)) (by omega) (by omega), lC (x := a + (s.od.size : Int) + (0 + (xw s.lL : Int))) (by omega) (by omega), lC (by omega) (by omega)]
 rw [RX _ _ (by omega) (by rw [RD]; omega)]
 exact ⟨_, rfl, by omega, by omega⟩
mutual
def zb : Formula → List kA
 | ⟨o, k, r, ks⟩ => if o = 1 then [r] else zM ks
def zM : List Formula → List kA
 | [] => []
 | k :: ks => zb k ++ zM ks
end
theorem Hv (f : Formula) : zb f = if f.Op = 1 then [f.kA] else zM f.Kids := by cases f; rw [zb]
theorem H6 : ∀ f : Formula, (zb f).length ≤ mB f := by
 refine Ko fun f ih => ?_
 have key : ∀ a : List Formula, (∀ k ∈ a, (zb k).length ≤ mB k) → (zM a).length ≤ nodesL a := by
  intro a
  induction a with
  | nil => intro _; rw [zM]; simp
  | cons k a c =>
   intro h
   have h1 := h k (by simp)
   have g := c (fun x d => h x (by simp [d]))
   rw [zM, aI, nodesL]; omega
 have := key _ ih
 rw [Hv, te]
 split
 ·simp
 ·omega
theorem Sk (rec : Formula → Option (List kA)) : ∀ (a : List Formula) (acc : List kA), (∀ k ∈ a, rec k = some (zb k)) → acc.length + (zM a).length ≤ 100000000 → rW rec a acc = some (acc ++ zM a)
 | [], acc, _, _ => by rw [rW, zM, ct]
 | k :: a, acc, h, c => by
  rw [zM, aI] at c
  rw [rW, h k (by simp), aA, mK (by omega) (by omega), aA, Sk rec a _ (fun x d => h x (by simp [d])) (by rw [aI]; omega), zM, aV]
theorem Wq : ∀ (n : Nat) (f : Formula), oS f ≤ n → mB f ≤ 10000000 → su n f = some (zb f) := by
 intro n
 induction n with
 | zero => intro f h; rw [oe] at h; omega
 | succ n ih =>
  intro f c g
  rw [oe] at c
  have d := te f
  have hlen := H6 f
  rw [su]
  unfold xM
  rw [Hv] at *
  by_cases c1 : f.Op = 1
  ·simp only [c1, bY, bA]
  ·have a : (f.Op == 1) = false := by simpa using c1
   simp only [a, aB, aS, c1] at *
   rw [Sk _ f.Kids [] (fun k hk => ih k (by have := xc hk; omega) (by have := xG hk; omega)) (by simp; omega), bV]
theorem IV (f : Formula) (h : mB f ≤ 10000000) : ∃ r, uM f = some r ∧ Ac (zb f) r ∧ r.length ≤ mB f := by
 have h1 := H6 f
 obtain ⟨r, e, a⟩ := Zl (zb f) (by omega)
 have := qj (tU _) a
 refine ⟨r, ?_, a, by omega⟩
 unfold uM
 have := wH f
 rw [Wq lE f (by rw [tN]; omega) h, aA, e]; rfl
theorem ZM : uM (sr sY) = some [sY] := by
 obtain ⟨r, e, h, c⟩ := IV (sr sY) (by decide +kernel)
 rw [e, qJ.unique (tU _) h (⟨by simp, fun x => ⟨fun a => ⟨a, by obtain rfl := aN.1 a; decide +kernel⟩, fun a => a.1⟩⟩ : Ac (zb (sr sY)) [sY])]
theorem X1 (l : List kA) (x : kA) : ∃ q, CT l x = some q ∧ (q = true ↔ x ∈ l) := by
 have key : ∀ (l : List kA) (i : Nat), ∃ q : Int, ru x l i = some q ∧ (q ≥ 0 ↔ x ∈ l) := by
  intro l
  induction l with
  | nil => intro i; exact ⟨-1, rfl, by simp⟩
  | cons y l ih =>
   intro i
   rw [ru]
   by_cases h : kQ x y = true
   ·rw [aK h]; exact ⟨i, rfl, by rw [kP.1 h]; simp⟩
   ·rw [aJ h]
    obtain ⟨q, e, a⟩ := ih (i + 1)
    refine ⟨q, e, a.trans ?_⟩
    have : x ≠ y := fun e => h (kP.2 e)
    simp [this]
 obtain ⟨q, e, a⟩ := key l 0
 unfold CT xf yu
 rw [e]
 exact ⟨decide (q ≥ 0), rfl, by rw [bK, a]⟩
theorem UL (l : List kA) {b : Bool} (a : b = true ↔ sY ∈ l) : oG (sr sY) l = some b := by
 have d : ∀ r, ql r l = some (nO kQ l r) := fun r => by
  obtain ⟨q, e, c⟩ := X1 l r
  unfold ql
  rw [ud, e]
  congr 1
  rw [bH, c, ni kP]
 unfold oG
 rw [Lb (nO kQ l) _ d (sr sY) (by unfold Gd; decide +kernel)]
 unfold yz
 rw [Np, PF]
 simp only [ed, aA]
 congr 1
 rw [bH, a, ni kP]
theorem UM : (wi0 .i64 (BitVec.ofInt (IntKind.bits .i64) (Int.fdiv (0 : Int) (2 ^ min (Int.toNat ((0 : Nat) : Int)) (IntKind.bits .i64))) &&& BitVec.ofInt (IntKind.bits .i64) 1).toNat) = 0 := by decide +kernel
theorem UW : (wi0 .i64 (BitVec.ofInt (IntKind.bits .i64) (Int.fdiv (1 : Int) (2 ^ min (Int.toNat ((0 : Nat) : Int)) (IntKind.bits .i64))) &&& BitVec.ofInt (IntKind.bits .i64) 1).toNat) = 1 := by decide +kernel
theorem Zj : (wi0 .i64 (BitVec.ofInt (IntKind.bits .i64) ((1 : Nat) : Int) &&& ~~~ BitVec.ofInt (IntKind.bits .i64) (wi0 .i64 (1 * 2 ^ min (Int.toNat ((0 : Nat) : Int)) (IntKind.bits .i64)))).toNat) = 0 := by decide +kernel
theorem Re : nM (decide (0 ≤ ((0 : Nat) : Int))) = some () := by decide +kernel
theorem Yn : rG [sY] 0 = some [] := by
 unfold rG
 rw [og, Re, aA, UM, og]
 rfl
theorem UX : rG [sY] 1 = some [sY] := by
 unfold rG
 rw [og, Re, aA, UW]
 simp only [bY, bA]
 rw [mK (by simp) (by simp), aA, og]
 rfl
theorem XK : xA (sr sY) [sY] = some [1] := by
 have d : FI 1 false (wi0 .i64 (1 * 2 ^ min (Int.toNat (([sY] : List kA).length : Int)) (IntKind.bits .i64))) = some [false, false] := by
  rw [show (wi0 .i64 (1 * 2 ^ min (Int.toNat (([sY] : List kA).length : Int)) (IntKind.bits .i64))) = 2 by decide +kernel]
  unfold FI
  rw [aK (by decide)]; rfl
 have g : oG (sr sY) [] = some false := UL [] (by simp)
 have s1 : oG (sr sY) [sY] = some true := UL [sY] (by simp)
 unfold xA
 rw [show nM (decide (0 ≤ (([sY] : List kA).length : Int))) = some () by decide +kernel, aA, d, aA]
 rw [ph, show ((0 : Nat) : Int) = 0 from rfl, Yn, aA, g, aA, show mC [false, false] 0 = some false from rfl, aA]
 rw [po]
 simp only [aB, aS]
 rw [Re, aA, show ((0 : Nat) : Int) = 0 from rfl]
 have a := UM
 rw [show ((0 : Nat) : Int) = 0 from rfl] at a
 rw [a]
 simp only [show ((0 : Int) == 1) = false from rfl, aB, aS, aA]
 rw [po, aA, show mC (([false, false]).set (Int.toNat 0) false) 0 = some false from rfl]
 simp only [aA, aB, aS]
 rw [ph, show ((0 + 1 : Nat) : Int) = 1 from rfl, UX, aA, s1, aA, show mC (([false, false]).set (Int.toNat 0) false) 1 = some false from rfl, aA]
 rw [po]
 simp only [aB, aS]
 rw [Re, aA, show ((0 + 1 : Nat) : Int) = 1 from rfl, UW]
 simp only [bY, bA, aA]
 have c := Zj
 rw [show ((1 : Nat) : Int) = 1 from rfl] at c
 rw [c, show mC ((([false, false]).set (Int.toNat 0) false).set (Int.toNat 1) true) 0 = some false from rfl]
 simp only [aA]
 rw [po, aA, show mC ((([false, false]).set (Int.toNat 0) false).set (Int.toNat 1) true) 1 = some true from rfl]
 simp only [aA, bA, cT]
 rw [mK (by simp) (by simp), aA, ph]
 rfl
theorem XA : sG (sr sY) = some ([[sY]], 0) := by
 have d : ∃ c, oZ [sY] [sY] = some c ∧ c = 0 := by
  obtain ⟨q, e, h⟩ := vm sY sY
  have j : vd 1 1 = some 0 := by decide +kernel
  have k : nB sY sY = some 0 := by decide +kernel
  refine ⟨0, ?_, rfl⟩
  unfold oZ
  rw [show (([sY] : List kA).length : Int) = 1 from rfl, j, aA]
  unfold nk
  rw [lH, aJ (by decide +kernel), show mC [sY] ((0 : Nat) : Int) = some sY from rfl, aA]
  simp only
  rw [k, aA]
  simp only [ev, aB, aS]
  rw [lH]
  decide +kernel
 obtain ⟨c, i, rfl⟩ := d
 have m : EG (fun (x : (List kA × List kA)) => oZ x.1 x.2) [[sY]] = some [[sY]] := by
  unfold EG
  rw [aK (by simp), OD]
  ·simp [pS]
  ·exact {
    is := fun x a y g => by obtain rfl := aN.1 a; obtain rfl := aN.1 g; exact ⟨_, i⟩
    irrefl := fun x a => by obtain rfl := aN.1 a; unfold uy; simp [i]
    trans := fun x a y g z n => by obtain rfl := aN.1 a; obtain rfl := aN.1 g; obtain rfl := aN.1 n; exact fun h _ => h
    total := fun x a y g _ _ => by obtain rfl := aN.1 a; obtain rfl := aN.1 g; rfl
    short := by simp }
 unfold sG
 rw [Gs (sr sY) (by decide +kernel), Np, aA]
 simp only [bW, aB, aS]
 rw [ZM, aA, aJ (by decide), XK, aA, pX, UX, aA, mK (by simp) (by simp), aA, pX, aJ (by decide), bV, m]
 rfl
theorem Wv (f1 : kA → Option Bool) (h : f1 sY = some true) : yQ (sr sY) f1 = some ([sY], true) := by
 unfold yQ
 rw [XA, aA]
 simp only [ev, aB, aS, aA]
 rw [uL]
 unfold oA pq
 rw [nl]
 unfold wX
 rw [h]
 simp only [aA, bW, aB, aS]
 rw [nl]
 rfl
open Classical in
noncomputable def pu (C : List kB) : List kF → List kY → Bool
 | _, [] => true
 | A, s :: B => decide (s.kB ∈ C) && DB s A && pu C (A ++ [s.kF]) B
open Classical in
theorem Ab (C : List kB) : ∀ (B : List kY) (A : List kF), pu C A B = true ↔ (∀ s ∈ B, s.kB ∈ C) ∧ nc A B
 | [], A => by simp [pu, nc]
 | s :: B, A => by
  rw [pu, aP, aP, Ab C B, zA, bK]
  simp only [nc, aQ, forall_eq_or_imp]
  exact ⟨fun ⟨⟨a, b⟩, c, d⟩ => ⟨⟨a, c⟩, b, d⟩, fun ⟨⟨a, c⟩, b, d⟩ => ⟨⟨a, b⟩, c, d⟩⟩
open Classical in
noncomputable def BJ (C : List kB) (want : kF) (l : List kY) (ok : Bool) : Int := if ok = true then (if want ∈ mr l then 0 else 42) else 50
theorem SF (l : List kY) (C : List kB) (want : kF) (q : l.length ≤ 100000000) : ∀ (B A : List kY), A ++ B = l → ∃ n : Int, tQ C (mr l) want l B A.length = some (n, BJ C want l (pu C (mr A) B)) ∧ vW C l want B A.length = some (n, BJ C want l (pu C (mr A) B))
 | [], A, e => by
  refine ⟨l.length, ?_, ?_⟩
  ·rw [tQ, U5]
   unfold BJ pu
   by_cases h : want ∈ mr l <;> simp [h]
  ·rw [vW, HE l (by omega)]
   obtain ⟨b, g, a⟩ := yJ (l.map (·.kF)) want.kA want.ly
   simp only [aA]
   rw [g]
   unfold BJ pu
   have c : b = true ↔ want ∈ mr l := a
   by_cases h : want ∈ mr l
   ·obtain rfl := c.2 h; simp [h]
   ·obtain rfl : b = false := by rw [← cv, c]; exact h
    simp [h]
 | s :: B, A, e => by
  have v : A.length ≤ 100000000 := by have := aU List.length e; simp at this; omega
  have o : A.length ≤ l.length := by have := aU List.length e; simp at this; omega
  obtain ⟨b, g, a⟩ := N7 s.kB C
  have i : nO oP C s.kB = b := by rw [bH, a, ni xj]
  have u : (mr l).take (Int.toNat (A.length : Int)) = mr A := by rw [← e, qN]; have := FX (mr A) (mr (s :: B)); simpa [mr] using this
  have j : l.take (Int.toNat (A.length : Int)) = A := by rw [← e]; exact FX _ _
  rw [tQ, vW, g, Pk, i, wJ (by omega) (by simp [mr]; omega), wJ (by omega) (by omega), u, j, HE A (by omega)]
  simp only [aA]
  rw [F0, Mu _ _ (by simp; omega)]
  simp only [aA]
  rw [show A.map (·.kF) = mr A from rfl]
  by_cases d : s.kB ∈ C
  ·obtain rfl := a.2 d
   simp only [bW, aB, aS, aA]
   cases m : DB s (mr A)
   ·refine ⟨A.length, ?_, ?_⟩ <;> simp [BJ, pu, m]
   ·simp only [bW, aB, aS]
    obtain ⟨n, h1, k⟩ := SF l C want q B (A ++ [s]) (by simpa using e)
    have t : pu C (mr A) (s :: B) = pu C (mr (A ++ [s])) B := by rw [pu, m, qN]; simp [d, mr]
    rw [t]
    simp only [aI, aH, bX, dg] at h1 k
    exact ⟨n, h1, k⟩
  ·obtain rfl : b = false := by rw [← cv, a]; exact d
   refine ⟨A.length, ?_, ?_⟩ <;> simp [BJ, pu, d]
theorem MX (l : List kY) (C : List kB) (want : kF) (c : l.length ≤ 100000000) : ∃ n : Int, yc l C want = some (n, BJ C want l (pu C [] l)) ∧ Gz l C want = some (n, BJ C want l (pu C [] l)) := by
 obtain ⟨n, h1, a⟩ := SF l C want c l [] rfl
 refine ⟨n, ?_, a⟩
 unfold yc
 rw [Hq l (by omega)]
 exact h1
theorem Qo (f : Formula) (l : List kA) (h : Gd f) : oG f l = some (yz (nO kQ l) f) := by
 have c : ∀ r, ql r l = some (nO kQ l r) := fun r => by
  obtain ⟨q, e, a⟩ := X1 l r
  unfold ql
  rw [ud, e]
  congr 1
  rw [bH, a, ni kP]
 unfold oG
 rw [Lb (nO kQ l) _ c f h, aA]
noncomputable def DI (o : lX) (C : List kB) (f : Formula) (peer : ByteArray) : Int :=
 if o.State ≠ 1 then 43 else if yz (nO kQ o.lV) f = false then 44 else if pu C [] o.lW = false then 50 else if (o.lV.all fun r => nO nq (mr o.lW) ⟨r, peer⟩) = true then 0 else 42
theorem Pq (o : lX) (C : List kB) (peer : ByteArray) (d : o.lW.length ≤ 100000000) (hk : pu C [] o.lW = true) : ∀ l : List kA,
  ul o C peer l = some (if (l.all fun r => nO nq (mr o.lW) ⟨r, peer⟩) = true then 0 else 42) ∧ xN o peer l = some (if (l.all fun r => nO nq (mr o.lW) ⟨r, peer⟩) = true then 0 else 42)
 | [] => ⟨rfl, rfl⟩
 | r :: l => by
  obtain ⟨n, h1, _⟩ := MX o.lW C ⟨r, peer⟩ d
  obtain ⟨i1, i2⟩ := Pq o C peer d hk l
  rw [ul, xN, h1, hk, HE o.lW (by omega)]
  obtain ⟨b, g, a⟩ := yJ (o.lW.map (·.kF)) r peer
  simp only [aA]
  rw [g]
  have c : nO nq (mr o.lW) ⟨r, peer⟩ = b := by rw [bH, a, ni mL]; rfl
  rw [fB, c]
  by_cases h : (⟨r, peer⟩ : kF) ∈ mr o.lW
  ·obtain rfl : b = true := a.2 h
   simp only [BJ, h, bA, ev, aB, aS, aA, bW, ed]
   exact ⟨i1, i2⟩
  ·obtain rfl : b = false := by rw [← cv]; exact fun i => h (a.1 i)
   simp [BJ, h]
theorem Dd (o : lX) (C : List kB) (f : Formula) (peer : ByteArray) (h : o.lW.length ≤ 100000000) (d : Gd f) (j : oS f ≤ lE) : nv o C f peer = some (DI o C f peer) ∧ Gx o C f peer = some (DI o C f peer) := by
 obtain ⟨n, h1, i⟩ := MX o.lW C ⟨⟨zS, zS⟩, zS⟩ h
 unfold nv Gx DI
 rw [Qo f o.lV d, SX f d, QF o.lV lE f j d, h1, i]
 by_cases c : o.State = 1
 ·have a : (o.State != 1) = false := by simp [c]
  rw [a, aJ (show ¬ (o.State ≠ 1) by simp [c])]
  simp only [aB, aS, aA]
  unfold yz
  cases rn f
  ·simp
  ·cases xL (nO kQ o.lV) f
   ·simp
   ·simp only [Bool.and_self, bW, aB, aS, aA]
    cases hk : pu C [] o.lW
    ·simp [BJ]
    ·obtain ⟨i1, i2⟩ := Pq o C peer h hk o.lV
     have g : (BJ C ⟨⟨zS, zS⟩, zS⟩ o.lW true == 50) = false := by
      unfold BJ
      simp only [bA]
      split <;> decide
     rw [g]
     simp only [aB, aS, bA, Bool.true_eq_false]
     exact ⟨i1, i2⟩
 ·have a : (o.State != 1) = true := by simp [c]
  rw [a, aK c]
  simp
def nK : List kA → Nat → List kA
 | [], _ => []
 | a :: l, b => if b % 2 = 1 then a :: nK l (b / 2) else nK l (b / 2)
theorem yK : ∀ (l : List kA) (b : Nat), (nK l b).Sublist l
 | [], b => .slnil
 | a :: l, b => by
  rw [nK]; split
  ·exact (yK l _).cons_cons a
  ·exact (yK l _).cons a
theorem QI {S l : List kA} (h : S.Sublist l) : ∃ b, b < 2 ^ l.length ∧ nK l b = S := by
 induction h with
 | slnil => exact ⟨0, by decide, rfl⟩
 | @cons d g a h ih =>
  obtain ⟨b, h1, c⟩ := ih
  refine ⟨2 * b, by rw [aH, ia]; omega, ?_⟩
  rw [nK, aJ (by omega), show 2 * b / 2 = b by omega, c]
 | @cons_cons d g a h ih =>
  obtain ⟨b, h1, c⟩ := ih
  refine ⟨2 * b + 1, by rw [aH, ia]; omega, ?_⟩
  rw [nK, aK (by omega), show (2 * b + 1) / 2 = b by omega, c]
theorem HD : ∀ (l : List kA), l.Nodup → ∀ b c, b < 2 ^ l.length → c < 2 ^ l.length → nK l b = nK l c → b = c
 | [], _, b, c, i, j, _ => by simp at i j; omega
 | a :: l, d, b, c, i, j, h => by
  rw [cL] at d
  rw [aH, ia] at i j
  rw [nK, nK] at h
  by_cases h1 : b % 2 = 1 <;> by_cases g : c % 2 = 1
  ·rw [aK h1, aK g] at h
   have := HD l d.2 (b / 2) (c / 2) (by omega) (by omega) (List.cons.inj h).2
   omega
  ·rw [aK h1, aJ g] at h
   exact absurd ((yK l (c / 2)).subset (by rw [← h]; simp)) d.1
  ·rw [aJ h1, aK g] at h
   exact absurd ((yK l (b / 2)).subset (by rw [h]; simp)) d.1
  ·rw [aJ h1, aJ g] at h
   have := HD l d.2 (b / 2) (c / 2) (by omega) (by omega) h
   omega
theorem G6 : ∀ (l : List kA) (b : Nat) (x : kA), x ∈ nK l b ↔ ∃ j, l[j]? = some x ∧ b.testBit j = true
 | [], b, x => by simp [nK]
 | a :: l, b, x => by
  have ih := G6 l (b / 2) x
  have g : (b % 2 = 1) ↔ b.testBit 0 = true := by rw [fS]; simp
  rw [nK]
  constructor
  ·intro h
   by_cases d : b % 2 = 1
   ·rw [aK d, aQ] at h
    rcases h with rfl | h
    ·exact ⟨0, rfl, g.1 d⟩
    ·obtain ⟨j, h1, c⟩ := ih.1 h
     exact ⟨j + 1, h1, by rw [eH]; exact c⟩
   ·rw [aJ d] at h
    obtain ⟨j, h1, c⟩ := ih.1 h
    exact ⟨j + 1, h1, by rw [eH]; exact c⟩
  ·rintro ⟨j, h1, c⟩
   cases j with
   | zero => rw [aK (g.2 c)]; simp at h1; rw [h1]; simp
   | succ j =>
    rw [eH] at c
    have := ih.2 ⟨j, h1, c⟩
    split
    ·exact dJ _ this
    ·exact this
theorem Hm {l : List kA} {a : kA} (h : a ∉ l) : l.filter (fun x => !kQ x a) = l := by
 rw [iT]
 intro x c
 have : kQ x a = false := by rw [← cv, kP]; rintro rfl; exact h c
 rw [this]; rfl
theorem IF : ∀ (l : List kA) (i b k : Nat) (a : kA), l.Nodup → l[i]? = some a → (∀ j, k.testBit j = (b.testBit j && decide (i ≠ j))) → nK l k = (nK l b).filter (fun x => !kQ x a)
 | [], i, b, k, a, _, h, _ => by simp at h
 | x :: l, 0, b, k, a, c, h, hk => by
  rw [cL] at c
  obtain rfl : x = a := by simpa using h
  have e : k / 2 = b / 2 := Nat.eq_of_testBit_eq fun j => by rw [← eH, ← eH, hk]; simp
  have d : ¬ k % 2 = 1 := by have := hk 0; rw [fS, fS] at this; simpa using this
  have o : x ∉ nK l (b / 2) := fun hm => c.1 ((yK l _).subset hm)
  rw [nK, aJ d, e, nK]
  split
  ·rw [fl, kP.2 rfl]
   exact (Hm o).symm
  ·exact (Hm o).symm
 | x :: l, i + 1, b, k, a, c, h, hk => by
  rw [cL] at c
  have n : l[i]? = some a := by simpa using h
  have m : x ≠ a := fun e => c.1 (e ▸ iH n)
  have ih := IF l i (b / 2) (k / 2) a c.2 n (fun j => by rw [← eH, ← eH, hk]; simp)
  have d : (k % 2 = 1) ↔ (b % 2 = 1) := by have := hk 0; rw [fS, fS] at this; simpa using this
  rw [nK, nK, ih]
  by_cases g : b % 2 = 1
  ·rw [aK (d.2 g), aK g, fl]
   have : kQ x a = false := by rw [← cv, kP]; exact m
   rw [this]; rfl
  ·rw [aJ (fun h => g (d.1 h)), aJ g]
theorem MH {x : Nat} (h : x < 9223372036854775808) : wi0 .i64 (x : Int) = (x : Int) := lC (by omega) (by omega)
theorem Zq (x : Nat) (h : x < 4611686018427387904) : (wi0 .i64 (BitVec.ofInt (IntKind.bits .i64) (x : Int) &&& BitVec.ofInt (IntKind.bits .i64) 1).toNat) = ((x % 2 : Nat) : Int) := by
 have e : (BitVec.ofInt (IntKind.bits .i64) (x : Int) &&& BitVec.ofInt (IntKind.bits .i64) 1).toNat = x % 2 := by
  show (BitVec.ofInt 64 (x : Int) &&& BitVec.ofInt 64 ((1 : Nat) : Int)).toNat = x % 2
  rw [ep, ep, BitVec.toNat_and, fx, fx, fT (by omega), fT (by decide), Nat.and_one_is_mod]
 rw [e, MH (by omega)]
theorem Yv (b i : Nat) (a : i ≤ 60) : Int.fdiv (b : Int) (2 ^ min (Int.toNat (i : Int)) (IntKind.bits .i64)) = ((b / 2 ^ i : Nat) : Int) := by
 have e : min (Int.toNat (i : Int)) (IntKind.bits .i64) = i := by simp only [IntKind.bits]; omega
 rw [e, show ((2 : Int) ^ i) = ((2 ^ i : Nat) : Int) by simp, Int.fdiv_eq_ediv_of_nonneg _ (aD _)]
 simp
theorem Ps (b i : Nat) (a : b < 4611686018427387904) (c : i ≤ 60) : ((wi0 .i64 (BitVec.ofInt (IntKind.bits .i64) (Int.fdiv (b : Int) (2 ^ min (Int.toNat (i : Int)) (IntKind.bits .i64))) &&& BitVec.ofInt (IntKind.bits .i64) 1).toNat) == 1) = b.testBit i := by
 rw [Yv b i c, Zq _ (Nat.lt_of_le_of_lt (Nat.div_le_self _ _) a), ib]
 rw [bH]
 simp only [gf, bK]
 omega
theorem QD (i : Nat) : nM (decide (0 ≤ ((i : Nat) : Int))) = some () := by simp [nM]
theorem Hx (b : Nat) (c : b < 4611686018427387904) : ∀ (l : List kA) (i : Nat) (acc : List kA), i + l.length ≤ 60 → acc.length + l.length ≤ 100000 → og (b : Int) l i acc = some (acc ++ nK l (b / 2 ^ i))
 | [], i, acc, _, _ => by rw [og]; simp [nK]
 | a :: l, i, acc, d, ha => by
  simp only [aH] at d ha
  rw [og, QD, aA, Ps b i c (by omega), nK, ib]
  have e : b / 2 ^ i / 2 = b / 2 ^ (i + 1) := by rw [ia, Nat.div_div_eq_div_mul]
  rw [e]
  by_cases h : b / 2 ^ i % 2 = 1
  ·rw [aK (by simpa using h), aK h, mK (by simp; omega) (by simp; omega), aA, Hx b c l (i + 1) _ (by omega) (by simp; omega)]
   simp
  ·rw [aJ (by simpa using h), aJ h, Hx b c l (i + 1) acc (by omega) (by omega)]
theorem Lv (l : List kA) (b : Nat) (a : b < 4611686018427387904) (c : l.length ≤ 60) : rG l (b : Int) = some (nK l b) := by
 unfold rG
 rw [Hx b a l 0 [] (by omega) (by simp; omega)]
 simp
def EA (b i : Nat) : Nat := (BitVec.ofNat 64 b &&& ~~~BitVec.ofNat 64 (2 ^ i)).toNat
theorem Pw (b i : Nat) (a : b < 2 ^ 62) (d : i < 62) (j : Nat) : (EA b i).testBit j = (b.testBit j && decide (i ≠ j)) := by
 unfold EA
 rw [BitVec.testBit_toNat, BitVec.getLsbD_and, BitVec.getLsbD_not, BitVec.getLsbD_ofNat, BitVec.getLsbD_ofNat, Nat.testBit_two_pow]
 by_cases c : j < 64
 ·simp [c]
 ·have : b.testBit j = false := Nat.testBit_lt_two_pow (cO a (et (by decide) (by omega)))
  simp [this]
theorem RO (b i : Nat) (a : b < 2 ^ 62) : EA b i ≤ b := by
 unfold EA
 rw [BitVec.toNat_and, fx, fT (by omega)]
 exact Nat.and_le_left
theorem Wo (b i : Nat) (c : b < 2 ^ 62) (d : i < 62) (h : b.testBit i = true) : EA b i < b := by
 have h1 := RO b i c
 have a := Pw b i c d i
 have : EA b i ≠ b := fun e => by rw [e, h] at a; simp at a
 omega
theorem Y7 (b i : Nat) (c : b < 2 ^ 62) (d : i < 62) : (wi0 .i64 (BitVec.ofInt (IntKind.bits .i64) (b : Int) &&& ~~~ BitVec.ofInt (IntKind.bits .i64) (wi0 .i64 (1 * 2 ^ min (Int.toNat (i : Int)) (IntKind.bits .i64)))).toNat) = (EA b i : Int) := by
 have e : min (Int.toNat (i : Int)) (IntKind.bits .i64) = i := by simp only [IntKind.bits]; omega
 have g : 2 ^ i < 2 ^ 62 := Nat.pow_lt_pow_right (by decide) d
 rw [e, Int.one_mul, show ((2 : Int) ^ i) = ((2 ^ i : Nat) : Int) by simp, MH (x := 2 ^ i) (by omega)]
 have a : (BitVec.ofInt (IntKind.bits .i64) (b : Int) &&& ~~~ BitVec.ofInt (IntKind.bits .i64) ((2 ^ i : Nat) : Int)).toNat = EA b i := by
  show (BitVec.ofInt 64 (b : Int) &&& ~~~ BitVec.ofInt 64 ((2 ^ i : Nat) : Int)).toNat = EA b i
  rw [ep, ep]; rfl
 rw [a, MH (by have := RO b i c; omega)]
def CY (G : Nat → Bool) (b : Nat) : List kA → Nat → Bool
 | [], _ => false
 | _ :: xs, i => (b.testBit i && G (EA b i)) || CY G b xs (i + 1)
theorem Qv {α : Type} {l : List α} {k : Nat} {x : α} (h : l[k]? = some x) : mC l (k : Int) = some x := by
 unfold mC; rw [aK (by omega)]; simpa using h
theorem F5 (G : Nat → Bool) (b : Nat) (g : Bool) (d : List Bool) (k : b < 2 ^ 60) (j : ∀ c, c < b → (d.set b g)[c]? = some (G c)) : ∀ (xs : List kA) (i : Nat) (acc : Bool), i + xs.length ≤ 60 → po b d g xs i acc = some (acc || CY G b xs i)
 | [], i, acc, _ => by rw [po]; simp [CY]
 | a :: xs, i, acc, m => by
  simp only [aH] at m
  have h : b < 2 ^ 62 := cO k (by decide)
  rw [po]
  cases acc
  ·simp only [aB, aS]
   rw [QD, aA, Ps b i (by omega) (by omega), CY]
   cases n : b.testBit i
   ·simp only [aB, aS, aA]
    rw [F5 G b g d k j xs (i + 1) false (by omega)]
    simp
   ·simp only [bA, aA]
    rw [Y7 b i h (by omega), show (Int.toNat (b : Int)) = b by simp, Qv (j _ (Wo b i h (by omega) n))]
    simp only [aA]
    rw [F5 G b g d k j xs (i + 1) _ (by omega)]
    simp
  ·simp only [bA, aA]
   rw [F5 G b g d k j xs (i + 1) true (by omega)]
   simp
def DF (A : List kA) (G : Nat → Bool) (b : Nat) : Bool := G b && !CY G b A 0
theorem Jj (A : List kA) (f : Formula) (G : Nat → Bool) (n : A.length ≤ 12) (k : ∀ b, b < 2 ^ 12 → oG f (nK A b) = some (G b)) : ∀ (es : List Bool) (i : Nat) (a : List Bool) (out : List Int), a.length = i + es.length → i + es.length ≤ 2 ^ 12 → out.length + es.length ≤ 100000 →
  (∀ c, c < i → a[c]? = some (G c)) → ph A f es i a out = some (out ++ ((List.range' i es.length).filter (DF A G)).map (fun b : Nat => (b : Int)))
 | [], i, a, out, _, _, _, _ => by rw [ph]; simp
 | e :: es, i, a, out, ha, s, t, q => by
  simp only [aH] at ha s t
  rw [ph, Lv A i (by omega) (by omega), aA, k i (by omega), aA]
  have h1 : ∃ y, a[i]? = some y := ⟨a[i], cj (by omega)⟩
  obtain ⟨y, u⟩ := h1
  rw [Qv u, aA]
  have j : ∀ c, c < i → (a.set i (G i))[c]? = some (G c) := fun c h => by rw [List.getElem?_set_ne (by omega)]; exact q c h
  rw [F5 G i (G i) a (by omega) j A 0 false (by omega), aA, show (Int.toNat (i : Int)) = i by simp]
  have d : (a.set i (G i))[i]? = some (G i) := List.getElem?_set_self (by omega)
  rw [Qv d, aA]
  have g : ∀ c, c < i + 1 → (a.set i (G i))[c]? = some (G c) := fun c h => by
   rcases iW c i with m | m
   ·exact j c m
   ·obtain rfl : c = i := by omega
    exact d
  have o : (if G i = true then some (!(false || CY G i A 0)) else some false : Option Bool) = some (DF A G i) := by
   unfold DF
   cases G i <;> simp
  rw [o, aA, aH, List.range'_succ, fl]
  cases DF A G i
  ·simp only [aB, aS]
   exact Jj A f G n k es (i + 1) _ out (by simp; omega) (by omega) (by omega) g
  ·simp only [bA]
   rw [mK (by simp; omega) (by simp; omega), aA, Jj A f G n k es (i + 1) _ _ (by simp; omega) (by omega) (by simp; omega) g]
   simp
theorem TZ (A : List kA) (f : Formula) (G : Nat → Bool) (a : A.length ≤ 12) (g : ∀ b, b < 2 ^ 12 → oG f (nK A b) = some (G b)) : xA f A = some (((List.range (2 ^ A.length)).filter (DF A G)).map (fun b : Nat => (b : Int))) := by
 obtain ⟨N, d, hp⟩ : ∃ N, 2 ^ A.length = N ∧ N ≤ 4096 := ⟨_, rfl, et (by decide) a⟩
 have e : min (Int.toNat (A.length : Int)) (IntKind.bits .i64) = A.length := by simp only [IntKind.bits]; omega
 unfold xA
 rw [QD, aA, e, Int.one_mul, show ((2 : Int) ^ A.length) = (N : Int) by rw [← d]; simp, MH (x := N) (by omega), d]
 unfold FI
 rw [aK ⟨by omega, by omega, by unfold maxLen; omega⟩, aA, Jj A f G a g _ 0 _ [] (by simp) (by simp; omega) (by simp; omega) (fun c h => by omega)]
 simp [List.range_eq_range']
theorem LV (G : Nat → Bool) (b : Nat) : ∀ (xs : List kA) (i : Nat), CY G b xs i = true ↔ ∃ j, i ≤ j ∧ j < i + xs.length ∧ b.testBit j = true ∧ G (EA b j) = true
 | [], i => by simp [CY]; omega
 | a :: xs, i => by
  rw [CY, dU, aP, LV G b xs (i + 1)]
  simp only [aH]
  constructor
  ·rintro (⟨h1, d⟩ | ⟨j, h1, d, c⟩)
   ·exact ⟨i, by omega, by omega, h1, d⟩
   ·exact ⟨j, by omega, by omega, c⟩
  ·rintro ⟨j, h1, d, c⟩
   by_cases h : j = i
   ·subst h; exact .inl c
   ·exact .inr ⟨j, by omega, by omega, c⟩
def wr {α : Type} : Int ⊕ (α × List Int) → Int ⊕ (α × lc)
 | .inl e => .inl e
 | .inr (v, l) => .inr (v, ⟨l, false⟩)
def nG {α β : Type} (x : Int ⊕ (α × List Int)) (f : α → List Int → Int ⊕ (β × List Int)) : Int ⊕ (β × List Int) :=
 match x with
 | .inl e => .inl e
 | .inr (v, l) => f v l
def sJ (a : Int) : Nat → Int → List Int → Int ⊕ (Int × List Int)
 | i, n, [] => .inl (if i = 9 then 11 else 10)
 | i, n, c :: l => if i = 9 then .inl 11 else if c = 0 ∧ 0 < i then .inl 11 else
   if c < 128 then (if n + c % 128 * 128 ^ i > a then .inl 12 else .inr (n + c % 128 * 128 ^ i, l)) else sJ a (i + 1) (n + c % 128 * 128 ^ i) l
def DY : Int := 9223372036854775807
def Gr (a : Int) (l : List Int) : Int ⊕ (List Int × List Int) :=
 nG (sJ DY 0 0 l) fun n c => if n > a then .inl 12 else if n > (c.length : Int) then .inl 10 else .inr (c.take n.toNat, c.drop n.toNat)
def xS (l : List Int) : Int ⊕ (ByteArray × List Int) := nG (Gr 16 l) fun t a => if nf (A4 t) = true then .inr (A4 t, a) else .inl 30
def uN (l : List Int) : Int ⊕ (kA × List Int) := nG (xS l) fun a c => nG (xS c) fun b d => .inr (⟨a, b⟩, d)
def Fh (k : Int) (h : kA) (l : List Int) : Int ⊕ (kB × List Int) :=
 if k = 1 then nG (xS l) fun w a => .inr (⟨k, h, w, zR, zR, zS⟩, a)
 else if k = 2 then nG (uN l) fun b a => .inr (⟨k, h, zS, b, zR, zS⟩, a)
 else if k = 3 then nG (uN l) fun b a => nG (xS a) fun w d => .inr (⟨k, h, zS, b, zR, w⟩, d)
 else nG (uN l) fun b a => nG (uN a) fun c d => .inr (⟨k, h, zS, b, c, zS⟩, d)
def FY (l : List Int) : Int ⊕ (kB × List Int) :=
 nG (sJ DY 0 0 l) fun k a => if k < 1 ∨ 4 < k then .inl 11 else nG (uN a) fun h d => nG (Fh k h d) fun c g => if mf c = true then .inr (c, g) else .inl 11
theorem Bp (l : List Int) (e : Int) (he : e ≠ 0) : na ⟨l, false⟩ e = some (.inl e) := by
 unfold na; simp [he]
theorem RN (l : List Int) (i : Int) (k : 0 ≤ i) : vw ⟨l, false⟩ i = some (match l with
  | [] => .inl (if i = 9 then 11 else 10)
  | c :: t => if i = 9 then .inl 11 else if c = 0 ∧ 0 < i then .inl 11 else .inr (c, ⟨t, false⟩)) := by
 unfold vw
 rw [Bp _ 11 (by decide), Bp _ 10 (by decide)]
 by_cases a : i = 9
 ·subst a; cases l <;> simp
 ·cases l with
  | nil => simp [a]
  | cons c t =>
   have h1 : ((c :: t).length : Int) ≠ 0 := by simp; omega
   have d : nM (decide (0 ≤ (1 : Int)) && decide ((1 : Int) ≤ ((c :: t).length : Int))) = some () := wJ (by decide) (by simp; omega)
   have g : mC (c :: t) 0 = some c := sT [] c t 0 rfl
   simp only [gf, a, h1, aS, aA, d, g]
   have h : nM (decide (1 ≤ (t.length : Int) + 1)) = some () := by simp [nM]; omega
   by_cases j : c = 0 <;> by_cases hp : 0 < i <;> simp [j, hp, Bp, h]
theorem Y4 (c : Int) (a : 0 ≤ c) (h1 : c < 256) : IntKind.u8.wrap (BitVec.ofInt (IntKind.bits .u8) c &&& BitVec.ofInt (IntKind.bits .u8) 127).toNat = c % 128 := by
 obtain ⟨k, rfl⟩ : ∃ k : Nat, c = k := ⟨c.toNat, by omega⟩
 have : ∀ k : Nat, k < 256 → IntKind.u8.wrap (BitVec.ofInt (IntKind.bits .u8) (k : Int) &&& BitVec.ofInt (IntKind.bits .u8) 127).toNat = (k : Int) % 128 := by decide +kernel
 exact this k (by omega)
theorem X9 (n m j : Nat) (c : n < 2 ^ j) (hm : m * 2 ^ j + n < 18446744073709551616) : (BitVec.ofInt 64 (n : Int) ||| BitVec.ofInt 64 ((m * 2 ^ j : Nat) : Int)).toNat = n + m * 2 ^ j := by
 have h1 : n < 2 ^ 64 := by omega
 have a : m * 2 ^ j < 2 ^ 64 := by omega
 rw [BitVec.toNat_or, ep, ep, fx, fx, fT h1, fT a, Nat.or_comm, ← Nat.shiftLeft_eq, ← Nat.shiftLeft_add_eq_or_of_lt c, jY]
theorem Yq (n c : Int) (i : Nat) (t : i ≤ 8) (s : 0 ≤ n ∧ n < 128 ^ i) (h : 0 ≤ c ∧ c < 256) : wi0 .i64 (BitVec.ofInt (IntKind.bits .i64) n ||| BitVec.ofInt (IntKind.bits .i64) (wi0 .i64 (wi0 .i64 (IntKind.u8.wrap (BitVec.ofInt (IntKind.bits .u8) c &&& BitVec.ofInt (IntKind.bits .u8) 127).toNat) * 2 ^ min (Int.toNat (wi0 .i64 (7 * (i : Int)))) (IntKind.bits .i64)))).toNat = n + c % 128 * 128 ^ i := by
 rw [Y4 c h.1 h.2, lC (x := c % 128) (by omega) (by omega), lC (x := 7 * (i : Int)) (by omega) (by omega)]
 have j : min (Int.toNat (7 * (i : Int))) (IntKind.bits .i64) = 7 * i := by simp only [IntKind.bits]; omega
 rw [j]
 obtain ⟨a, rfl⟩ : ∃ a : Nat, n = a := ⟨n.toNat, by omega⟩
 obtain ⟨b, o⟩ : ∃ b : Nat, c % 128 = b := ⟨(c % 128).toNat, by omega⟩
 rw [o]
 have q : b < 128 := by omega
 have g : (128 : Nat) ^ i = 2 ^ (7 * i) := by rw [Nat.pow_mul]
 have k : (128 : Int) ^ i = ((2 ^ (7 * i) : Nat) : Int) := by rw [← g]; simp
 have ha : a < 2 ^ (7 * i) := by rw [← g]; have := s.2; exact_mod_cast this
 have d : 2 ^ (7 * i) ≤ 2 ^ 56 := et (by decide) (by omega)
 have hm : b * 2 ^ (7 * i) + a < 9223372036854775808 := by
  have : (b + 1) * 2 ^ (7 * i) ≤ 128 * 2 ^ 56 := fj (by omega) d
  rw [cC] at this; omega
 have m : ((b : Int) * 2 ^ (7 * i)) = ((b * 2 ^ (7 * i) : Nat) : Int) := by simp
 rw [m, lC (x := ((b * 2 ^ (7 * i) : Nat) : Int)) (by omega) (by omega)]
 show wi0 .i64 ((BitVec.ofInt 64 (a : Int) ||| BitVec.ofInt 64 ((b * 2 ^ (7 * i) : Nat) : Int)).toNat : Int) = _
 rw [X9 a b (7 * i) ha (by omega), lC (by omega) (by omega), k]
 simp
theorem RH (n c : Int) (i : Nat) (a : 0 ≤ n ∧ n < 128 ^ i) : 0 ≤ n + c % 128 * 128 ^ i ∧ n + c % 128 * 128 ^ i < 128 ^ (i + 1) := by
 have h1 : 0 ≤ c % 128 ∧ c % 128 < 128 := ⟨by omega, by omega⟩
 have hp : (0 : Int) < 128 ^ i := Int.pow_pos (by decide)
 constructor
 ·have := Int.mul_nonneg h1.1 (Int.le_of_lt hp); omega
 ·rw [Int.pow_succ]
  have : c % 128 * 128 ^ i ≤ 127 * 128 ^ i := Int.mul_le_mul_of_nonneg_right (by omega) (Int.le_of_lt hp)
  omega
theorem UK (a : Int) : ∀ (l : List Int) (i : Nat) (n : Int) (k : Nat), B8 l → i ≤ 9 → 0 ≤ n ∧ n < 128 ^ i → l.length < k → nU a k n i l false = some (wr (sJ a i n l))
 | [], i, n, k + 1, _, w, _, _ => by
  rw [nU, RN _ _ (by omega)]
  by_cases g : i = 9 <;> simp [sJ, wr, g] <;> omega
 | c :: l, i, n, k + 1, t, w, u, hk => by
  have v := t c (List.mem_cons_self ..)
  rw [nU, RN _ _ (by omega)]
  unfold sJ
  by_cases g : i = 9
  ·subst g; rfl
  ·have m : ¬ ((i : Int) = 9) := by omega
   have s := Yq n c i (by omega) u v
   have hp := RH n c i u
   have o : nM (decide (0 ≤ wi0 .i64 (7 * (i : Int)))) = some () := by rw [lC (by omega) (by omega)]; simp [nM]; omega
   have q : wi0 .i64 ((i : Int) + 1) = ((i + 1 : Nat) : Int) := by rw [lC (by omega) (by omega)]; simp
   simp only [g, m, aS, aA]
   by_cases j : c = 0 ∧ 0 < i
   ·have : c = 0 ∧ 0 < (i : Int) := ⟨j.1, by omega⟩
    rw [aK this, aK j]; rfl
   ·have : ¬ (c = 0 ∧ 0 < (i : Int)) := fun h => j ⟨h.1, by omega⟩
    rw [aJ this, aJ j]
    simp only [s, o, q, aA]
    by_cases d : c < 128
    ·simp only [d, eE, bA]
     by_cases hm : n + c % 128 * 128 ^ i > a
     ·simp only [hm, eE, bA, Bp _ 12 (by decide), aA, wr]
     ·simp only [hm, fw, aS, aB, aA, wr]
    ·simp only [d, fw, aS, aB]
     exact UK a l (i + 1) _ k (fun x y => t x (dJ _ y)) (by omega) hp (by simp only [aH] at hk; omega)
theorem B8.tail {c : Int} {l : List Int} (h : B8 (c :: l)) : B8 l := fun x a => h x (dJ _ a)
theorem B8.drop {l : List Int} (h : B8 l) (n : Nat) : B8 (l.drop n) := fun x a => h x (List.mem_of_mem_drop a)
theorem B8.take {l : List Int} (h : B8 l) (n : Nat) : B8 (l.take n) := fun x a => h x (iL a)
def Dv {α : Type} (l : List Int) (x : Int ⊕ (α × List Int)) : Prop := ∀ v a, x = .inr (v, a) → ∃ k, a = l.drop k
theorem Dv.Fk {α β : Type} {l : List Int} {x : Int ⊕ (α × List Int)} {f : α → List Int → Int ⊕ (β × List Int)} (h : Dv l x) (c : ∀ v a, Dv a (f v a)) : Dv l (nG x f) := fun v a e => by
 cases x with
 | inl q => cases e
 | inr q =>
  obtain ⟨k, hk⟩ := h q.1 q.2 rfl
  obtain ⟨j, d⟩ := c q.1 q.2 v a e
  exact ⟨k + j, by rw [d, hk, List.drop_drop]⟩
theorem wO (a : Int) : ∀ (l : List Int) (i : Nat) (n : Int), Dv l (sJ a i n l)
 | [], i, n => fun v d e => by cases e
 | c :: l, i, n => fun v d e => by
  unfold sJ at e
  split at e
  ·cases e
  split at e
  ·cases e
  split at e
  ·split at e
   ·cases e
   ·cases e; exact ⟨1, rfl⟩
  ·obtain ⟨k, hk⟩ := wO a l (i + 1) _ v d e
   exact ⟨k + 1, by rw [hk, List.drop_succ_cons]⟩
theorem Rf (a : Int) (l : List Int) : Dv l (Gr a l) := (wO _ _ _ _).Fk fun n c v d e => by
 split at e
 ·cases e
 split at e
 ·cases e
 ·cases e; exact ⟨_, rfl⟩
theorem zo (l : List Int) : Dv l (xS l) := (Rf _ _).Fk fun t a v c e => by
 split at e
 ·cases e; exact ⟨0, rfl⟩
 ·cases e
theorem vn (l : List Int) : Dv l (uN l) := (zo _).Fk fun a c => (zo _).Fk fun b d v g e => by cases e; exact ⟨0, rfl⟩
theorem OX (k : Int) (h : kA) (l : List Int) : Dv l (Fh k h l) := by
 unfold Fh
 split
 ·exact (zo _).Fk fun a c v d e => by cases e; exact ⟨0, rfl⟩
 split
 ·exact (vn _).Fk fun a c v d e => by cases e; exact ⟨0, rfl⟩
 split
 ·exact (vn _).Fk fun a c => (zo _).Fk fun b g v d e => by cases e; exact ⟨0, rfl⟩
 ·exact (vn _).Fk fun a c => (vn _).Fk fun b g v d e => by cases e; exact ⟨0, rfl⟩
theorem Q7 (l : List Int) : Dv l (FY l) := (wO _ _ _ _).Fk fun k d => by
 split
 ·intro v a e; cases e
 ·exact (vn _).Fk fun h g => (OX _ _ _).Fk fun c i v j e => by
   split at e
   ·cases e; exact ⟨0, rfl⟩
   ·cases e
theorem Tv (l : List Int) (a : Int) (c : B8 l) (d : l.length ≤ 1000000) : nt ⟨l, false⟩ a = some (wr (sJ a 0 0 l)) := by
 unfold nt vk
 simp only [aA, aB, aS]
 exact UK a l 0 0 lE c (by omega) (by decide) (by rw [pe]; omega)
theorem KM (a : Int) : ∀ (l : List Int) (i : Nat) (n v : Int) (d : List Int), 0 ≤ n ∧ n < 128 ^ i → sJ a i n l = .inr (v, d) → 0 ≤ v ∧ v ≤ a
 | [], i, n, v, d, _, e => by cases e
 | c :: l, i, n, v, d, g, e => by
  have hp := RH n c i g
  unfold sJ at e
  split at e
  ·cases e
  split at e
  ·cases e
  split at e
  ·split at e
   ·cases e
   ·cases e; exact ⟨hp.1, by omega⟩
  ·exact KM a l (i + 1) _ v d hp e
theorem Yf (l : List Int) (a : Int) (t : B8 l) (u : l.length ≤ 1000000) : vv ⟨l, false⟩ a = some (wr (Gr a l)) := by
 unfold vv vk
 simp only [aA, aB, aS]
 rw [Tv l _ t u]
 unfold Gr
 have g := wO DY l 0 0
 have d := KM DY l 0 0
 have j : sJ 9223372036854775807 0 0 l = sJ DY 0 0 l := rfl
 rw [j]
 cases i : sJ DY 0 0 l with
 | inl e => simp [wr, nG]
 | inr q =>
  obtain ⟨n, c⟩ := q
  obtain ⟨k, hk⟩ := g n c i
  have m := (d n c ⟨by decide, by decide⟩ i).1
  have v : c.length ≤ 1000000 := by rw [hk, dt]; omega
  simp only [aA, wr, nG]
  by_cases h1 : n > a
  ·simp only [h1, eE, bA, Bp _ 12 (by decide), aA, wr]
  ·by_cases h : n > (c.length : Int)
   ·simp only [h1, h, eE, fw, bA, aS, aB, Bp _ 10 (by decide), aA, wr]
   ·have o : nM (decide (0 ≤ n) && decide (n ≤ (c.length : Int))) = some () := wJ m (by omega)
    have s : pL (c.take n.toNat) = some (c.take n.toNat) := Nh (by rw [cz]; omega)
    simp only [h1, h, o, s, fw, aS, aB, aA, wr]
theorem B8.part {α : Type} {l a : List Int} {x : Int ⊕ (α × List Int)} {v : α} (h : B8 l) (c : l.length ≤ 1000000) (hp : Dv l x) (e : x = .inr (v, a)) : B8 a ∧ a.length ≤ 1000000 := by
 obtain ⟨k, hk⟩ := hp v a e
 rw [hk]
 exact ⟨h.drop k, by rw [dt]; omega⟩
theorem Kf (l : List Int) (a : B8 l) (c : l.length ≤ 1000000) : uq ⟨l, false⟩ = some (wr (xS l)) := by
 unfold uq xS
 rw [Yf l _ a c]
 cases g : Gr 16 l with
 | inl e => rfl
 | inr q =>
  obtain ⟨t, h⟩ := q
  simp only [aA, wr, nG, Pm, sQ]
  cases d : nf (A4 t) <;> simp [wr, Bp]
theorem Im (l : List Int) (c : B8 l) (d : l.length ≤ 1000000) : sF ⟨l, false⟩ = some (wr (uN l)) := by
 unfold sF uN
 rw [Kf l c d]
 cases i : xS l with
 | inl e => rfl
 | inr q =>
  obtain ⟨a, g⟩ := q
  obtain ⟨h1, h⟩ := c.part d (zo l) i
  simp only [aA, wr, nG]
  rw [Kf g h1 h]
  cases j : xS g with
  | inl e => rfl
  | inr q => obtain ⟨b, k⟩ := q; rfl
theorem Yw (l : List Int) (y : B8 l) (z : l.length ≤ 1000000) : Bo ⟨l, false⟩ = some (wr (FY l)) := by
 unfold Bo FY
 rw [Tv l _ y z]
 have E : sJ 9223372036854775807 0 0 l = sJ DY 0 0 l := rfl
 rw [E]
 cases J : sJ DY 0 0 l with
 | inl e => rfl
 | inr q =>
  obtain ⟨k, v⟩ := q
  obtain ⟨h1, x⟩ := y.part z (wO DY l 0 0) J
  simp only [aA, wr, nG]
  by_cases hk : k < 1 ∨ 4 < k
  ·have s : (if decide (k < 1) = true then some true else some (decide (k > 4)) : Option Bool) = some true := by
    by_cases h : k < 1 <;> simp [h]; omega
   rw [s, aK hk]
   simp [Bp, wr]
  ·have s : (if decide (k < 1) = true then some true else some (decide (k > 4)) : Option Bool) = some false := by
    rw [aJ (by simp; omega)]; simp; omega
   rw [s, aJ hk]
   simp only [aA, aS, aB]
   rw [Im v h1 x]
   cases I : uN v with
   | inl e => rfl
   | inr q =>
    obtain ⟨h, d⟩ := q
    obtain ⟨i, j⟩ := h1.part x (vn v) I
    simp only [aA, wr, nG]
    have G : ∀ {A : Type} (K : kB → List Int → Bool → Option A) (X : Int → Option A), True := fun _ _ => trivial
    have fin : ∀ (c : kB) (a : List Int), ((pI c).bind fun n => if (!n) = true then (na ⟨a, false⟩ 11).bind fun o => match o with | .inl m => some (Sum.inl m) | .inr D => some (Sum.inr ((⟨0, ⟨zS, zS⟩, zS, ⟨zS, zS⟩, ⟨zS, zS⟩, zS⟩ : kB), (⟨a, false⟩ : lc))) else some (Sum.inr (c, (⟨a, false⟩ : lc)))) = some (wr (if mf c = true then .inr (c, a) else .inl 11)) := fun c a => by
     rw [pZ]
     cases mf c <;> simp [Bp, wr]
    unfold Fh
    by_cases L : k = 1
    ·subst L
     simp only [bY, bA]
     rw [Kf d i j]
     cases xS d with
     | inl e => rfl
     | inr q => obtain ⟨w, a⟩ := q; exact fin _ _
    ·by_cases k2 : k = 2
     ·subst k2
      simp only [Int.reduceBEq, Int.reduceEq, aS, bA, aB]
      rw [Im d i j]
      cases uN d with
      | inl e => rfl
      | inr q => obtain ⟨w, a⟩ := q; exact fin _ _
     ·by_cases M : k = 3
      ·subst M
       simp only [Int.reduceBEq, Int.reduceEq, aS, bA, aB]
       rw [Im d i j]
       cases g : uN d with
       | inl e => rfl
       | inr q =>
        obtain ⟨w, a⟩ := q
        obtain ⟨t, u⟩ := i.part j (vn d) g
        simp only [aA, wr, nG]
        rw [Kf a t u]
        cases xS a with
        | inl e => rfl
        | inr q => obtain ⟨R, Q⟩ := q; exact fin _ _
      ·have P : k = 4 := by omega
       subst P
       simp only [Int.reduceBEq, Int.reduceEq, aS, bA, aB]
       rw [Im d i j]
       cases g : uN d with
       | inl e => rfl
       | inr q =>
        obtain ⟨w, a⟩ := q
        obtain ⟨t, u⟩ := i.part j (vn d) g
        simp only [aA, wr, nG]
        rw [Im a t u]
        cases uN a with
        | inl e => rfl
        | inr q => obtain ⟨R, Q⟩ := q; exact fin _ _
theorem BP (a k : Int) (l : List Int) (c : 0 ≤ k) (h1 : k < 128) (hm : k ≤ a) : sJ a 0 0 (k :: l) = .inr (k, l) := by
 unfold sJ
 have e : (0 : Int) + k % 128 * 128 ^ 0 = k := by simp; omega
 rw [e, aJ (by decide), aJ (by simp), aK h1, aJ (by omega)]
theorem Ty (a : Int) (t l : List Int) (h : t.length < 128) (hm : (t.length : Int) ≤ a) : Gr a ((t.length : Int) :: (t ++ l)) = .inr (t, l) := by
 unfold Gr
 rw [BP _ _ _ (by omega) (by omega) (by unfold DY; omega)]
 simp only [nG]
 rw [aJ (by omega), aJ (by simp; omega)]
 simp
theorem Ce {s : ByteArray} (h : nf s = true) (l : List Int) : xS (ua s ++ l) = .inr (s, l) := by
 have h1 := nD h
 unfold xS ua
 rw [cF, ← nJ, Ty _ _ _ (by rw [nJ]; omega) (by rw [nJ]; omega)]
 simp only [nG, CV, h, bA]
theorem AT {r : kA} (h : ml r = true) (l : List Int) : uN (pA r ++ l) = .inr (r, l) := by
 simp only [ml, aP] at h
 unfold uN pA
 rw [aV, Ce h.1]
 simp only [nG]
 rw [Ce h.2]
theorem Sz {c : kB} (h : mf c = true) (l : List Int) : FY (qT c ++ l) = .inr (c, l) := by
 have a := nP h
 have i : 1 ≤ c.Kind ∧ c.Kind ≤ 4 := by rcases a with g | g | g | g <;> rw [g.1] <;> decide
 have d : Fh c.Kind c.Head (yH c ++ l) = .inr (c, l) := by
  obtain ⟨k, j, vz, b, c2, m⟩ := c
  unfold Fh yH
  rcases a with g | g | g | g
  ·obtain ⟨rfl, g1, rfl, rfl, rfl⟩ := g
   simp only [bA]
   rw [Ce g1]; rfl
  ·obtain ⟨rfl, g1, rfl, rfl, rfl⟩ := g
   simp only [Int.reduceEq, aS, bA]
   rw [AT g1]; rfl
  ·obtain ⟨rfl, g1, g2, g3, rfl, rfl⟩ := g
   simp only [Int.reduceEq, aS, bA]
   rw [aV, AT g1]
   simp only [nG]
   rw [Ce g2]
  ·obtain ⟨rfl, g1, g2, g3, rfl, rfl⟩ := g
   simp only [Int.reduceEq, aS, bA]
   rw [aV, AT g1]
   simp only [nG]
   rw [AT g2]
 unfold FY qT
 rw [cF, BP _ _ _ (by omega) (by omega) (by unfold DY; omega)]
 simp only [nG]
 rw [aJ (by omega), aV, AT (Aa h)]
 simp only [nG]
 rw [d]
 simp only [nG, h, bA]
theorem N4 {l : List Int} (h : l.length ≤ 1000000) : qo l = some l := by
 unfold qo; rw [Nh h]; rfl
def xn {α : Type} (f : List Int → Int ⊕ (α × List Int)) : Nat → List Int → Int ⊕ (List α × List Int)
 | 0, l => .inr ([], l)
 | n + 1, l => nG (f l) fun x a => nG (xn f n a) fun xs c => .inr (x :: xs, c)
def CN (l : List Int) : Int ⊕ (kY × List Int) := nG (FY l) fun c a => nG (xS a) fun w d => .inr (⟨c, ⟨c.Head, w⟩⟩, d)
def KY (a : Int) (l : List Int) : Int ⊕ (List kY × List Int) := nG (sJ a 0 0 l) fun n c => xn CN n.toNat c
def Ny (l : List Int) : Int ⊕ (lX × List Int) := nG (sJ 3 0 0 l) fun st c => nG (sJ 99 0 0 c) fun e d => nG (sJ 64 0 0 d) fun n g => nG (xn uN n.toNat g) fun j h => nG (KY 256 h) fun a i => .inr (⟨st, e, j, a⟩, i)
def E3 {α : Type} (acc : List α) (x : Int ⊕ (List α × List Int)) : Int ⊕ (List α × List Int) := nG x fun xs l => .inr (acc ++ xs, l)
theorem Lp {α : Type} (acc : List α) (f : List Int → Int ⊕ (α × List Int)) (n : Nat) (l a : List Int) (x : α) (h : f l = .inr (x, a)) : E3 acc (xn f (n + 1) l) = E3 (acc ++ [x]) (xn f n a) := by
 unfold E3
 rw [xn, h]
 simp only [nG]
 cases xn f n a <;> simp
theorem IS {α : Type} (acc : List α) (f : List Int → Int ⊕ (α × List Int)) (n : Nat) (l : List Int) (e : Int) (h : f l = .inl e) : E3 acc (xn f (n + 1) l) = .inl e := by
 unfold E3; rw [xn, h]; rfl
theorem NX {α : Type} (x : Int ⊕ (List α × List Int)) : E3 [] x = x := by cases x <;> rfl
theorem PU (i : Nat) (h : i ≤ 1000000) : wi0 .i64 ((i : Int) + 1) = ((i + 1 : Nat) : Int) := by rw [lC (by omega) (by omega)]; simp
theorem MI (l : List Int) (a : Int) (c : B8 l) (d : l.length ≤ 1000000) : nt ⟨l, false⟩ a = some (wr (sJ a 0 0 l)) := Tv l a c d
theorem LX (g : Int × lc) : ∀ (k : Nat) (acc : List kY) (i : Nat) (l : List Int) (n : Nat), ((i + k : Nat) : Int) = g.1 → i + k ≤ 10000 → B8 l → l.length ≤ 1000000 → acc.length + k ≤ 100000 → k < n →
  rO g n acc i l false = some (wr (E3 acc (xn CN k l)))
 | 0, acc, i, l, n + 1, u, _, _, _, _, _ => by
  rw [rO, aJ (by simp; omega)]
  simp [xn, E3, nG, wr]
 | k + 1, acc, i, l, n + 1, u, hk, j, m, ha, v => by
  rw [rO, aK (by simp; omega), Yw l j m]
  cases a : FY l with
  | inl e => rw [IS acc CN k l e (by unfold CN; rw [a]; rfl)]; rfl
  | inr q =>
   obtain ⟨c, d⟩ := q
   obtain ⟨h1, h⟩ := j.part m (Q7 l) a
   simp only [aA, wr]
   rw [Kf d h1 h]
   cases hw : xS d with
   | inl e => rw [IS acc CN k l e (by unfold CN; rw [a]; simp only [nG]; rw [hw])]; rfl
   | inr q =>
    obtain ⟨w, o⟩ := q
    obtain ⟨s, t⟩ := h1.part h (zo d) hw
    simp only [aA, wr]
    rw [mK (by simp; omega) (by simp; omega), aA, PU i (by omega)]
    rw [Lp acc CN k l o (⟨c, ⟨c.Head, w⟩⟩ : kY) (by unfold CN; rw [a]; simp only [nG]; rw [hw])]
    exact LX g k _ (i + 1) o n (by omega) (by omega) s t (by simp; omega) (by omega)
theorem Qa (a : Int) (l : List Int) {v : Int} {c : List Int} (h : sJ a 0 0 l = .inr (v, c)) : 0 ≤ v ∧ v ≤ a := KM a l 0 0 v c ⟨by decide, by decide⟩ h
theorem XW (l : List Int) (a : Int) (c : B8 l) (d : l.length ≤ 1000000) (hm : a ≤ 10000) : AD ⟨l, false⟩ a = some (wr (KY a l)) := by
 unfold AD KY
 rw [MI l a c d]
 cases g : sJ a 0 0 l with
 | inl e => rfl
 | inr q =>
  obtain ⟨n, h⟩ := q
  obtain ⟨h1, i⟩ := c.part d (wO a l 0 0) g
  have j := Qa a l g
  simp only [aA, wr]
  rw [show (0 : Int) = ((0 : Nat) : Int) from rfl, LX (n, ⟨h, false⟩) n.toNat [] 0 h lE (by show ((0 + n.toNat : Nat) : Int) = n; omega) (by omega) h1 i (by simp; omega) (by rw [pe]; omega), NX]
  rfl
theorem Pa (d m a : Int × lc) : ∀ (k : Nat) (acc : List kA) (i : Nat) (l : List Int) (n : Nat), ((i + k : Nat) : Int) = d.1 → i + k ≤ 10000 → B8 l → l.length ≤ 1000000 → acc.length + k ≤ 100000 → k < n →
  qh d m a n i acc l false = some (wr (nG (E3 acc (xn uN k l)) fun x v => nG (KY 256 v) fun s w => .inr ((⟨m.1, a.1, x, s⟩ : lX), w)))
 | 0, acc, i, l, n + 1, u, _, g, h, _, _ => by
  rw [qh, aJ (by simp; omega), XW l 256 g h (by decide)]
  simp only [xn, E3, nG, ct]
  cases KY 256 l with
  | inl e => rfl
  | inr q => rfl
 | k + 1, acc, i, l, n + 1, u, hk, g, h, ha, y => by
  rw [qh, aK (by simp; omega), Im l g h]
  cases j : uN l with
  | inl e => rw [IS acc uN k l e j]; rfl
  | inr q =>
   obtain ⟨c, o⟩ := q
   obtain ⟨h1, t⟩ := g.part h (vn l) j
   simp only [aA, wr]
   rw [mK (by simp; omega) (by simp; omega), aA, PU i (by omega), Lp acc uN k l o c j]
   exact Pa d m a k _ (i + 1) o n (by omega) (by omega) h1 t (by simp; omega) (by omega)
theorem Zh (l : List Int) (i : B8 l) (j : l.length ≤ 1000000) : wU ⟨l, false⟩ = some (wr (Ny l)) := by
 unfold wU Ny
 rw [MI l 3 i j]
 cases u : sJ 3 0 0 l with
 | inl e => rfl
 | inr q =>
  obtain ⟨s, c⟩ := q
  obtain ⟨h1, d⟩ := i.part j (wO 3 l 0 0) u
  simp only [aA, wr, nG]
  rw [MI c 99 h1 d]
  cases v : sJ 99 0 0 c with
  | inl e => rfl
  | inr q =>
   obtain ⟨e, a⟩ := q
   obtain ⟨g, h⟩ := h1.part d (wO 99 c 0 0) v
   simp only [aA, wr, nG]
   rw [MI a 64 g h]
   cases k : sJ 64 0 0 a with
   | inl e => rfl
   | inr q =>
    obtain ⟨n, m⟩ := q
    obtain ⟨o, t⟩ := g.part h (wO 64 a 0 0) k
    have w := Qa 64 a k
    simp only [aA, wr, nG]
    rw [show (0 : Int) = ((0 : Nat) : Int) from rfl, Pa (n, ⟨m, false⟩) (s, ⟨c, false⟩) (e, ⟨a, false⟩) n.toNat [] 0 m lE (by show ((0 + n.toNat : Nat) : Int) = n; omega) (by omega) o t (by simp; omega) (by rw [pe]; omega), NX]
    rfl
abbrev zO : lX := ⟨0, 0, [], []⟩
def RF (l : List Int) : Int × lX := match Ny l with
 | .inl e => (e, zO)
 | .inr (o, a) => (if a.length > 0 then 13 else 0, o)
theorem Xl (l : List Int) (c : B8 l) (a : l.length ≤ 1000000) : xk l zO = some (RF l) := by
 unfold xk yL RF
 rw [Nh a, aA, Zh l c a]
 cases Ny l with
 | inl e => rfl
 | inr q => obtain ⟨s, d⟩ := q; rfl
theorem XC (l : List Int) (a : B8 l) (c : l.length ≤ 1000000) : wx l zO = some (RF l) := Xl l a c
end Go.Proofs.YtbnbdigcbldfhaaGreat
