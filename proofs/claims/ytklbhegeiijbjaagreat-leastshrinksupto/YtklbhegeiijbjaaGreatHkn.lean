/- a part of a proof of LeastShrinks -/
import Derived.Test.YtklbhegeiijbjaaGreatRtUn
import Derived.Test.YtklbhegeiijbjaaGreatN4Mn
set_option linter.all false
namespace Go.Proofs.YtklbhegeiijbjaaGreat
open Go.RowKit
theorem D9 {c x : Bool} : (if c = true then some x else some false : Option Bool) = some (c && x) := by cases c <;> rfl
theorem R0 {c x : Bool} : (if c = true then some true else some x : Option Bool) = some (c || x) := by cases c <;> rfl
theorem pV {α : Type} (x : Option α) : (x.bind fun y => some y) = x := by cases x <;> rfl
theorem me {x : Int} (a : -9223372036854775808 ≤ x) (h1 : x ≤ 9223372036854775807) : IntKind.i64.wrap x = x := IntWalk.i64_in _ (by omega)
theorem nR {α : Type} (A : List α) (x : α) (B : List α) (i : Int) (h : i = (A.length : Int)) : mQ (A ++ x :: B) i = some x := by
 subst h; rw [Fv]; simp
theorem nh : lB = 18446744073709551615 + 1 := by rw [yd]
def DU {α : Type} (f1 : α → Option Bool) (z : α) : Nat → List α → Int → Int → Option (List α)
 | 0, _, _, _ => none
 | n + 1, l, i, j => if decide (j < (l.length : Int)) then
   ((mQ l j).bind fun x => (f1 x).bind fun r => if (!r) then (mQ l i).bind fun _ => some (l.set (Int.toNat i) x, IntKind.i64.wrap (i + 1)) else some (l, i) : Option (List α × Int)).bind fun (b, a) => DU f1 z n b a (IntKind.i64.wrap (j + 1))
  else (rb (decide (0 ≤ i) && decide (i ≤ (l.length : Int)))).bind fun _ => (rb (decide (0 ≤ i) && decide (i ≤ ((ph l (Int.toNat i) z).length : Int)))).bind fun _ => some ((ph l (Int.toNat i) z).take (Int.toNat i))
theorem BG {a b : Int} (d : 0 ≤ a) (h1 : a ≤ b) : rb (decide (0 ≤ a) && decide (a ≤ b)) = some () := by simp [rb, d, h1]
theorem J9 {α : Type} (f1 : α → Option Bool) (p : α → Bool) (z : α) : ∀ (rest out mid : List α) (n : Nat), rest.length < n → (out ++ mid ++ rest).length < 4611686018427387904 → mid ≠ [] → (∀ x ∈ rest, f1 x = some (p x)) →
  DU f1 z n (out ++ mid ++ rest) (out.length : Int) ((out.length + mid.length : Nat) : Int) = some (out ++ rest.filter fun x => !p x)
 | [], out, mid, 0, h, _, _, _ => by simp at h
 | [], out, mid, n + 1, _, b, hm, _ => by
  rw [DU, bA (by simp)]
  have h1 : out.length ≤ (out ++ mid ++ []).length := by simp
  rw [BG (by omega) (by omega)]
  simp only [aA]
  rw [BG (by omega) (by rw [vh _ _ _ (by simpa using h1)]; omega)]
  simp only [aA, dO]
  rw [Ga _ _ _ h1]
  simp
 | x :: rest, out, mid, 0, h, _, _, _ => by simp at h
 | x :: rest, out, mid, n + 1, h, b, hm, d => by
  have hlen : (out ++ mid ++ x :: rest).length = out.length + mid.length + rest.length + 1 := by simp; omega
  rw [hlen] at b
  rw [DU, aY (by rw [hlen]; simp; omega)]
  rw [nR (out ++ mid) x rest _ (by simp)]
  simp only [aA, d x (by simp)]
  rw [me (x := ((out.length + mid.length : Nat) : Int) + 1) (by omega) (by omega)]
  have ih := J9 f1 p z rest
  cases hp : p x with
  | true =>
   simp only [cA, aB, aG, aA]
   have := ih out (mid ++ [x]) n (by simp at h; omega) (by simp; omega) (by simp) (fun y g => d y (by simp [g]))
   simp only [aN, bX, bI, aF, aJ, bU] at this ⊢
   rw [show ((out.length + mid.length : Nat) : Int) + 1 = ((out.length + (mid.length + (0 + 1)) : Nat) : Int) by omega, this]
   simp [hp]
  | false =>
   obtain ⟨m, a, rfl⟩ : ∃ m a, mid = m :: a := by cases mid with
    | nil => exact absurd rfl hm
    | cons m a => exact ⟨m, a, rfl⟩
   simp only [dA, aM]
   rw [aN out (m :: a) (x :: rest), bX]
   rw [nR out m (a ++ x :: rest) _ rfl]
   simp only [aA]
   rw [me (x := (out.length : Int) + 1) (by omega) (by simp at b; omega)]
   have := ih (out ++ [x]) (a ++ [x]) n (by simp at h; omega) (by simp at b ⊢; omega) (by simp) (fun y g => d y (by simp [g]))
   simp only [aN, bX, bI, aF, aJ, bU] at this
   have i : (out ++ m :: (a ++ x :: rest)).set (Int.toNat (out.length : Int)) x = out ++ x :: (a ++ x :: rest) := by
    rw [dO, List.set_append_right _ _ (aZ _)]; simp
   rw [i]
   simp only [aJ] at b ⊢
   rw [show (out.length : Int) + 1 = ((out.length + (0 + 1) : Nat) : Int) by omega, show ((out.length + (a.length + 1) : Nat) : Int) + 1 = ((out.length + (0 + 1) + (a.length + (0 + 1)) : Nat) : Int) by omega, this]
   simp [hp]
def Ah {α : Type} (f1 : α → Option Bool) : List α → Nat → Option Int
 | [], _ => some (-1)
 | x :: xs, i => (f1 x).bind fun r => if r then some (i : Int) else Ah f1 xs (i + 1)
theorem DS {α : Type} (f1 : α → Option Bool) (p : α → Bool) : ∀ (l : List α) (i : Nat), (∀ x ∈ l, f1 x = some (p x)) →
  (Ah f1 l i = some (-1) ∧ ∀ x ∈ l, p x = false) ∨ ∃ A x B, l = A ++ x :: B ∧ (∀ y ∈ A, p y = false) ∧ p x = true ∧ Ah f1 l i = some ((i + A.length : Nat) : Int)
 | [], i, _ => .inl ⟨rfl, by simp⟩
 | x :: l, i, h => by
  rw [Ah, h x (by simp)]
  simp only [aA]
  cases hp : p x with
  | true => exact .inr ⟨[], x, l, rfl, by simp, hp, by simp⟩
  | false =>
   simp only [aB, aG]
   rcases DS f1 p l (i + 1) (fun y a => h y (by simp [a])) with ⟨h1, b⟩ | ⟨A, y, B, rfl, h1, b, g⟩
   ·exact .inl ⟨h1, by intro y a; rcases aQ.1 a with rfl | a; exact hp; exact b y a⟩
   ·refine .inr ⟨x :: A, y, B, rfl, ?_, b, ?_⟩
    ·intro z d; rcases aQ.1 d with rfl | d
     ·exact hp
     ·exact h1 z d
    ·rw [g]; simp; omega
def Ia {α : Type} (f1 : α → Option Bool) (z : α) (l : List α) : Option (List α) :=
 (Ah f1 l 0).bind fun a => if (a == (-1)) then some l else DU f1 z lB l a (IntKind.i64.wrap (a + 1))
theorem JU {α : Type} (f1 : α → Option Bool) (p : α → Bool) (z : α) (l : List α) (d : l.length < 4611686018427387904) (h : ∀ x ∈ l, f1 x = some (p x)) : Ia f1 z l = some (l.filter fun x => !p x) := by
 unfold Ia
 rcases DS f1 p l 0 h with ⟨h1, b⟩ | ⟨A, x, B, rfl, h1, b, g⟩
 ·rw [h1]
  simp only [aA, bD, aM]
  rw [iL.2 (fun y a => by simp [b y a])]
 ·rw [g]
  simp only [aA, fN]
  rw [bA (by simp), me (by omega) (by simp at d; omega)]
  have := J9 f1 p z B A [x] lB (by rw [yd]; simp at d; omega) (by simpa using d) (by simp) (fun y a => h y (by simp [a]))
  simp only [aN, bX, bI, aJ, bU] at this
  rw [show (A.length : Int) + 1 = ((A.length + (0 + 1) : Nat) : Int) by omega, this]
  have i : A.filter (fun x => !p x) = A := iL.2 (fun y a => by simp [h1 y a])
  rw [jL, i]
  simp [b]
def oa {α : Type} (eq : α → α → Bool) : α → List α → List α
 | _, [] => []
 | p, y :: ys => if eq y p then oa eq y ys else y :: oa eq y ys
def dd {α : Type} (eq : α → α → Bool) : List α → List α
 | [] => []
 | x :: xs => x :: oa eq x xs
def Ca {α : Type} (eq : α → α → Bool) (i : Int) : Nat → List α → Int → Int → Option (List α × Int)
 | 0, _, _, _ => none
 | n + 1, l, k, j => if decide (j < ((l.length - Int.toNat i : Nat) : Int)) then
   ((mQ (l.drop (Int.toNat i)) j).bind fun x => (mQ (l.drop (Int.toNat i)) (IntKind.i64.wrap (j - 1))).bind fun y => if !(eq x y) then (mQ (l.drop (Int.toNat i)) j).bind fun z => (mQ l k).bind fun _ => some (l.set (Int.toNat k) z, IntKind.i64.wrap (k + 1)) else some (l, k) : Option (List α × Int)).bind fun (a, k') => Ca eq i n a k' (IntKind.i64.wrap (j + 1))
  else some (l, k)
def CF {α : Type} (eq : α → α → Bool) (z : α) (l : List α) : Nat → Int → Option (List α)
 | 0, _ => none
 | n + 1, i => if decide (i < (l.length : Int)) then (mQ l i).bind fun x => (mQ l (IntKind.i64.wrap (i - 1))).bind fun y => if eq x y then
    (rb (decide (0 ≤ i) && decide (i ≤ (l.length : Int)))).bind fun _ => (Ca eq i lB l i 1).bind fun (a, k) => (rb (decide (0 ≤ k) && decide (k ≤ (a.length : Int)))).bind fun _ => (rb (decide (0 ≤ k) && decide (k ≤ ((ph a (Int.toNat k) z).length : Int)))).bind fun _ => some ((ph a (Int.toNat k) z).take (Int.toNat k))
   else CF eq z l n (IntKind.i64.wrap (i + 1))
  else some l
def J1 {α : Type} (eq : α → α → Bool) (z : α) (l : List α) : Option (List α) := if decide ((l.length : Int) < 2) then some l else CF eq z l lB 1
theorem Jz {α : Type} (l : List α) (i : Nat) (j : Int) (a : 0 ≤ j) : mQ (l.drop i) j = mQ l ((i : Int) + j) := by
 obtain ⟨m, rfl⟩ : ∃ m : Nat, j = m := ⟨j.toNat, by omega⟩
 rw [show (i : Int) + (m : Int) = ((i + m : Nat) : Int) by omega, Fv, Fv, dX]
theorem GJ {α : Type} (eq : α → α → Bool) (i : Nat) : ∀ (rest out mid : List α) (p : α) (n : Nat), rest.length < n → (out ++ (mid ++ [p]) ++ rest).length < 4611686018427387904 → 1 ≤ i → i ≤ out.length →
  ∃ b, Ca eq (i : Int) n (out ++ (mid ++ [p]) ++ rest) (out.length : Int) ((out.length + mid.length + 1 - i : Nat) : Int) = some (b, ((out ++ oa eq p rest).length : Int)) ∧ b.take (out ++ oa eq p rest).length = out ++ oa eq p rest ∧ (out ++ oa eq p rest).length ≤ b.length
 | [], out, mid, p, 0, h, _, _, _ => by simp at h
 | [], out, mid, p, n + 1, h, l, h1, k => by
  rw [Ca, bA (by simp; omega)]
  exact ⟨out ++ (mid ++ [p]) ++ [], by simp [oa], by simp [oa], by simp [oa]⟩
 | x :: rest, out, mid, p, 0, h, _, _, _ => by simp at h
 | x :: rest, out, mid, p, n + 1, h, l, h1, k => by
  have hlen : (out ++ (mid ++ [p]) ++ x :: rest).length = out.length + mid.length + rest.length + 2 := by simp; omega
  rw [hlen] at l
  rw [Ca, aY (by rw [hlen]; simp; omega)]
  rw [dO, Jz _ _ _ (by omega), nR (out ++ (mid ++ [p])) x rest _ (by simp; omega)]
  simp only [aA]
  rw [me (x := ((out.length + mid.length + 1 - i : Nat) : Int) - 1) (by omega) (by omega), Jz _ _ _ (by omega)]
  rw [show out ++ (mid ++ [p]) ++ x :: rest = (out ++ mid) ++ p :: (x :: rest) by simp]
  rw [nR (out ++ mid) p (x :: rest) _ (by simp; omega)]
  simp only [aA]
  rw [me (x := ((out.length + mid.length + 1 - i : Nat) : Int) + 1) (by omega) (by omega)]
  cases hp : eq x p with
  | true =>
   simp only [cA, aB, aG, aA]
   obtain ⟨b, d, g, j⟩ := GJ eq i rest out (mid ++ [p]) x n (by simp at h; omega) (by simp; omega) h1 k
   refine ⟨b, ?_, by rw [oa, hp]; exact g, by rw [oa, hp]; exact j⟩
   rw [oa, hp, aY rfl, ← d]
   congr 1
   ·simp
   ·simp; omega
  | false =>
   simp only [dA, aM]
   obtain ⟨m, a, hm⟩ : ∃ m a, mid ++ [p] = m :: a := by cases mid with
    | nil => exact ⟨p, [], rfl⟩
    | cons m a => exact ⟨m, a ++ [p], rfl⟩
   have r : a.length = mid.length := by have := bM List.length hm; simp at this; omega
   rw [show (out ++ mid) ++ p :: (x :: rest) = out ++ m :: (a ++ x :: rest) by rw [← bX, ← hm]; simp]
   rw [nR out m (a ++ x :: rest) _ rfl]
   simp only [aA]
   rw [me (x := (out.length : Int) + 1) (by omega) (by omega)]
   have s : (out ++ m :: (a ++ x :: rest)).set (Int.toNat (out.length : Int)) x = (out ++ [x]) ++ (a ++ [x]) ++ rest := by
    rw [dO, List.set_append_right _ _ (aZ _)]; simp
   rw [s]
   obtain ⟨b, d, g, j⟩ := GJ eq i rest (out ++ [x]) a x n (by simp at h; omega) (by simp; omega) h1 (by simp; omega)
   refine ⟨b, ?_, ?_, ?_⟩
   ·rw [oa, hp, bA (by decide)]
    have q : ((out ++ x :: oa eq x rest).length : Int) = ((out ++ [x] ++ oa eq x rest).length : Int) := by simp
    rw [q, ← d]
    congr 1
    ·simp
    ·simp; omega
   ·rw [oa, hp, bA (by decide)]; simpa using g
   ·rw [oa, hp, bA (by decide)]; simpa using j
theorem Kz {α : Type} (eq : α → α → Bool) (z : α) : ∀ (rest pre : List α) (p : α) (n : Nat), rest.length < n → (pre ++ p :: rest).length < 4611686018427387904 →
  CF eq z (pre ++ p :: rest) n ((pre.length + 1 : Nat) : Int) = some (pre ++ p :: oa eq p rest)
 | [], pre, p, 0, h, _ => by simp at h
 | [], pre, p, n + 1, h, i => by rw [CF, bA (by simp)]; simp [oa]
 | x :: rest, pre, p, 0, h, _ => by simp at h
 | x :: rest, pre, p, n + 1, h, i => by
  have hlen : (pre ++ p :: x :: rest).length = pre.length + rest.length + 2 := by simp; omega
  rw [hlen] at i
  rw [CF, aY (by rw [hlen]; simp; omega)]
  rw [show pre ++ p :: x :: rest = (pre ++ [p]) ++ x :: rest by simp, nR (pre ++ [p]) x rest _ (by simp)]
  simp only [aA]
  rw [me (x := ((pre.length + 1 : Nat) : Int) - 1) (by omega) (by omega)]
  rw [show (pre ++ [p]) ++ x :: rest = pre ++ p :: (x :: rest) by simp, nR pre p (x :: rest) _ (by omega)]
  simp only [aA]
  cases hp : eq x p with
  | true =>
   simp only [aM]
   rw [BG (by omega) (by rw [hlen]; omega)]
   simp only [aA]
   obtain ⟨j, a, g, d⟩ := GJ eq (pre.length + 1) rest (pre ++ [p]) [] x lB (by rw [yd]; omega) (by simp; omega) (by omega) (by simp)
   simp only [aN, bX, bI, aF, aJ, bU] at a g d
   rw [show (pre.length + (0 + 1) + 0 + 1 - (pre.length + 1) : Nat) = 1 by omega] at a
   rw [show ((pre.length + 1 : Nat) : Int) = ((pre.length + (0 + 1) : Nat) : Int) by omega] at *
   have b : Ca eq ((pre.length + (0 + 1) : Nat) : Int) lB (pre ++ p :: x :: rest) ((pre.length + (0 + 1) : Nat) : Int) 1 = _ := a
   rw [b]
   simp only [aA]
   rw [BG (by omega) (by omega)]
   simp only [aA, dO]
   rw [BG (by omega) (by rw [vh _ _ _ d]; omega)]
   simp only [aA]
   rw [Ga _ _ _ d, g, oa, hp]
   simp
  | false =>
   simp only [aB, aG]
   rw [me (x := ((pre.length + 1 : Nat) : Int) + 1) (by omega) (by omega)]
   have := Kz eq z rest (pre ++ [p]) x n (by simp at h; omega) (by simp; omega)
   simp only [aN, bX, bI, aF, aJ, bU] at this
   rw [show ((pre.length + 1 : Nat) : Int) + 1 = ((pre.length + (0 + 1) + 1 : Nat) : Int) by omega, this, oa, hp]
   simp
theorem KI {α : Type} (eq : α → α → Bool) (z : α) (l : List α) (a : l.length < 4611686018427387904) : J1 eq z l = some (dd eq l) := by
 unfold J1
 cases l with
 | nil => rfl
 | cons x xs =>
  cases xs with
  | nil => simp [dd, oa]
  | cons y ys =>
   rw [bA (by simp; omega)]
   have := Kz eq z (y :: ys) [] x lB (by rw [yd]; simp at a ⊢; omega) (by simpa using a)
   simpa [dd] using this
structure Bh {α : Type} (lt : α → α → Prop) (P : α → Prop) : Prop where
 irrefl : ∀ x, P x → ¬ lt x x
 trans : ∀ x y z, P x → P y → P z → lt x y → lt y z → lt x z
 total : ∀ x y, P x → P y → lt x y ∨ x = y ∨ lt y x
def xn {α : Type} (lt : α → α → Prop) (P : α → Prop) (l out : List α) : Prop := out.Pairwise lt ∧ ∀ x, x ∈ out ↔ x ∈ l ∧ P x
theorem xn.unique {α : Type} {lt : α → α → Prop} {P : α → Prop} (H : Bh lt P) : ∀ {l a b : List α}, xn lt P l a → xn lt P l b → a = b := by
 have key : ∀ a b : List α, (∀ x ∈ a, P x) → a.Pairwise lt → b.Pairwise lt → (∀ x, x ∈ a ↔ x ∈ b) → a = b := by
  intro a
  induction a with
  | nil => intro b _ _ _ hm; cases b with
   | nil => rfl
   | cons y ys => exact absurd ((hm y).2 (by simp)) (by simp)
  | cons x xs ih =>
   intro b n ha k hm
   cases b with
   | nil => exact absurd ((hm x).1 (by simp)) (by simp)
   | cons y ys =>
    have p : P y := n y ((hm y).2 (by simp))
    have d : P x := n x (by simp)
    have g := cN.1 ha
    have i := cN.1 k
    have q : x = y := by
     rcases aQ.1 ((hm x).1 (by simp)) with h | h
     ·exact h
     ·rcases aQ.1 ((hm y).2 (by simp)) with m | m
      ·exact m.symm
      ·exact absurd (H.trans x y x d p d (g.1 y m) (i.1 x h)) (H.irrefl x d)
    subst q
    congr 1
    refine ih ys (fun z j => n z (by simp [j])) g.2 i.2 (fun z => ?_)
    constructor
    ·intro j
     rcases aQ.1 ((hm z).1 (by simp [j])) with h | h
     ·subst h; exact absurd (g.1 z j) (H.irrefl z d)
     ·exact h
    ·intro j
     rcases aQ.1 ((hm z).2 (by simp [j])) with h | h
     ·subst h; exact absurd (i.1 z j) (H.irrefl z d)
     ·exact h
 intro l a b ha k
 exact key a b (fun x r => ((ha.2 x).1 r).2) ha.1 k.1 (fun x => (ha.2 x).trans (k.2 x).symm)
theorem DN {α : Type} {eq : α → α → Bool} (he : ∀ x y, eq x y = true ↔ x = y) : ∀ (l : List α) (p x : α), x ∈ p :: oa eq p l ↔ x ∈ p :: l
 | [], p, x => by simp [oa]
 | y :: l, p, x => by
  rw [oa]
  split
  ·rename_i h
   have := (he y p).1 h
   subst this
   rw [DN he l y x]; simp
  ·have := DN he l y x
   simp only [aQ] at this ⊢
   rw [this]
theorem JY {α : Type} {eq : α → α → Bool} (he : ∀ x y, eq x y = true ↔ x = y) (l : List α) (x : α) : x ∈ dd eq l ↔ x ∈ l := by
 cases l with
 | nil => simp [dd]
 | cons y l => exact DN he l y x
theorem CG {α : Type} {eq : α → α → Bool} {lt : α → α → Prop} {P : α → Prop} (he : ∀ x y, eq x y = true ↔ x = y) (H : Bh lt P) : ∀ (l : List α) (p : α), (∀ x ∈ p :: l, P x) → (p :: l).Pairwise (fun a b => ¬ lt b a) → (p :: oa eq p l).Pairwise lt
 | [], p, _, _ => by simp [oa]
 | y :: l, p, d, q => by
  have h1 := cN.1 q
  rw [oa]
  split
  ·rename_i h
   have := (he y p).1 h
   subst this
   exact CG he H l y (fun x j => d x (gE _ j)) h1.2
  ·rename_i h
   have ih := CG he H l y (fun x j => d x (gE _ j)) h1.2
   refine cN.2 ⟨fun z n => ?_, ih⟩
   have i : lt p y := by
    rcases H.total p y (d p (by simp)) (d y (by simp)) with g | g | g
    ·exact g
    ·exact absurd ((he y p).2 g.symm) h
    ·exact absurd g (h1.1 y (by simp))
   rcases aQ.1 n with rfl | k
   ·exact i
   ·have m : z ∈ y :: l := (DN he l y z).1 n
    exact H.trans p y z (d p (by simp)) (d y (by simp)) (d z (gE _ m)) i ((cN.1 ih).1 z k)
theorem Np {α : Type} {eq : α → α → Bool} {lt : α → α → Prop} {P : α → Prop} (he : ∀ x y, eq x y = true ↔ x = y) (H : Bh lt P) (l : List α) (d : ∀ x ∈ l, P x) (g : l.Pairwise (fun a b => ¬ lt b a)) : (dd eq l).Pairwise lt := by
 cases l with
 | nil => simp [dd]
 | cons y l => exact CG he H l y d g
theorem I3 {α : Type} {le : α → α → Bool} {P : α → Prop} (i : ∀ a b c, P a → P b → P c → le a b = true → le b c = true → le a c = true) (h : ∀ a b, P a → P b → (le a b || le b a) = true) (l : List α) (d : ∀ x ∈ l, P x) :
  (l.mergeSort le).Pairwise (fun a b => le a b = true) := by
 have e : l = (l.attachWith P d).map Subtype.val := by simp
 have hm : ((l.attachWith P d).mergeSort fun a b => le a.1 b.1).map Subtype.val = l.mergeSort le := by
  conv => rhs; rw [e]
  exact jJ (fun a _ b _ => rfl)
 rw [← hm, gY]
 exact iZ (le := fun (a b : {x // P x}) => le a.1 b.1) (fun a b c h1 g => i a.1 b.1 c.1 a.2 b.2 c.2 h1 g) (fun a b => h a.1 b.1 a.2 b.2) _
theorem F9 {α : Type} {eq : α → α → Bool} {lt : α → α → Prop} {P : α → Prop} {cf : α × α → Option Int} {l : List α} (he : ∀ x y, eq x y = true ↔ x = y) (H : Bh lt P) (g : ∀ x ∈ l, P x) (A : l.length < 4611686018427387904) (w : ∀ x y, P x → P y → ∃ c, cf (x, y) = some c ∧ (c < 0 ↔ lt x y)) : ∃ s, AF cf l = some s ∧ s.length = l.length ∧ xn lt P l (dd eq s) := by
 have j : ∀ x y, P x → P y → (vn cf x y = true ↔ lt x y) := fun x y i n => by
  obtain ⟨c, h1, m⟩ := w x y i n
  unfold vn
  rw [h1]
  simpa using m
 have d : ∀ x y, P x → P y → (vn cf x y = false ↔ ¬ lt x y) := fun x y i n => by
  rw [← j x y i n]; simp
 have ok : EQ cf l := by
  refine ⟨fun x i y n => ?_, fun x i => ?_, fun x i y n z u h1 m => ?_, fun x i y n h1 m => ?_, A⟩
  ·obtain ⟨c, h1, _⟩ := w x y (g x i) (g y n); exact ⟨c, h1⟩
  ·exact (d x x (g x i) (g x i)).2 (H.irrefl x (g x i))
  ·rw [j _ _ (g x i) (g y n)] at h1
   rw [j _ _ (g y n) (g z u)] at m
   rw [j _ _ (g x i) (g z u)]
   exact H.trans x y z (g x i) (g y n) (g z u) h1 m
  ·rw [d _ _ (g x i) (g y n)] at h1
   rw [d _ _ (g y n) (g x i)] at m
   rcases H.total x y (g x i) (g y n) with h | h | h
   ·exact absurd h h1
   ·exact h
   ·exact absurd h m
 refine ⟨_, PD ok, by simp [uF], ?_, ?_⟩
 ·have k : ∀ x, x ∈ uF cf l ↔ x ∈ l := fun x => by simp [uF]
  refine Np he H _ (fun x i => g x ((k x).1 i)) ?_
  have := I3 (le := fun x y => !vn cf y x) (P := P) (fun a b c ha p q h1 m => ?_) (fun a b ha p => ?_) l g
  ·refine (this.imp_of_mem ?_ : _)
   intro a b ha p h
   have r : a ∈ l := (k a).1 ha
   have t : b ∈ l := (k b).1 p
   simp at h
   exact (d b a (g b t) (g a r)).1 h
  ·simp at h1 m ⊢
   rw [d _ _ p ha] at h1
   rw [d _ _ q p] at m
   rw [d _ _ q ha]
   intro v
   rcases H.total a b ha p with h | h | h
   ·exact m (H.trans c a b q ha p v h)
   ·subst h; exact m v
   ·exact h1 h
  ·simp only [gS, iy]
   rw [d _ _ p ha, d _ _ ha p]
   by_cases h : lt b a
   ·right; intro m; exact H.irrefl a ha (H.trans a b a ha p ha m h)
   ·exact .inl h
 ·intro x
  rw [JY he]
  constructor
  ·intro i
   have : x ∈ l := by simpa [uF] using i
   exact ⟨this, g x this⟩
  ·intro i; simpa [uF] using i.1
end Go.Proofs.YtklbhegeiijbjaaGreat
namespace Go.Proofs.YtklbhegeiijbjaaGreat
open Go.RowKit
theorem wg : ∀ a : List UInt8, Op.bytesLess a a = false
 | [] => rfl
 | x :: a => by simp [Op.bytesLess, wg a]
theorem Kw (x y : UInt8) : x < y ∨ x = y ∨ y < x := by
 rcases Nat.lt_trichotomy x.toNat y.toNat with h | h | h
 ·exact .inl h
 ·exact .inr (.inl (UInt8.toNat_inj.1 h))
 ·exact .inr (.inr h)
theorem yX : ∀ a b c : List UInt8, Op.bytesLess a b = true → Op.bytesLess b c = true → Op.bytesLess a c = true
 | [], [], c, h1, _ => by simp [Op.bytesLess] at h1
 | _ :: _, [], c, h1, _ => by simp [Op.bytesLess] at h1
 | a, _ :: _, [], _, d => by simp [Op.bytesLess] at d
 | [], b :: bs, c :: cs, _, _ => rfl
 | a :: ax, b :: bs, c :: cs, h1, d => by
  simp only [Op.bytesLess, gS, bK, bH, iV] at h1 d ⊢
  rcases h1 with h1 | ⟨rfl, h1⟩
  ·rcases d with d | ⟨rfl, d⟩
   ·exact .inl (UInt8.lt_trans h1 d)
   ·exact .inl h1
  ·rcases d with d | ⟨rfl, d⟩
   ·exact .inl d
   ·exact .inr ⟨rfl, yX ax bs cs h1 d⟩
theorem BM : ∀ a b : List UInt8, Op.bytesLess a b = true ∨ a = b ∨ Op.bytesLess b a = true
 | [], [] => .inr (.inl rfl)
 | [], _ :: _ => .inl rfl
 | _ :: _, [] => .inr (.inr rfl)
 | a :: ax, b :: bs => by
  simp only [Op.bytesLess, gS, bK, bH, iV, bE]
  rcases Kw a b with h | h | h
  ·exact .inl (.inl h)
  ·subst h
   rcases BM ax bs with h | h | h
   ·exact .inl (.inr ⟨rfl, h⟩)
   ·exact .inr (.inl ⟨rfl, h⟩)
   ·exact .inr (.inr (.inr ⟨rfl, h⟩))
  ·exact .inr (.inr (.inl h))
theorem Dn : ∀ a b : List UInt8, (Lib.compareBytes a b < 0 ↔ Op.bytesLess a b = true)
 | [], [] => by simp [Lib.compareBytes, Op.bytesLess]
 | [], _ :: _ => by simp [Lib.compareBytes, Op.bytesLess]
 | _ :: _, [] => by simp [Lib.compareBytes, Op.bytesLess]
 | a :: ax, b :: bs => by
  simp only [Lib.compareBytes, Op.bytesLess, gS, bK, bH, iV]
  by_cases h : a < b
  ·simp [h]
  ·by_cases g : b < a
   ·have : a ≠ b := by rintro rfl; exact h g
    simp [h, g, this]
   ·have : a = b := by rcases Kw a b with d | d | d; exact absurd d h; exact d; exact absurd d g
    subst this
    simp [h, Dn ax bs]
theorem GF : ∀ a b : List UInt8, (Lib.compareBytes a b = 0 ↔ a = b)
 | [], [] => by simp [Lib.compareBytes]
 | [], _ :: _ => by simp [Lib.compareBytes]
 | _ :: _, [] => by simp [Lib.compareBytes]
 | a :: ax, b :: bs => by
  simp only [Lib.compareBytes, bE]
  by_cases h : a < b
  ·simp only [h, aM]
   constructor
   ·intro h; cases h
   ·rintro ⟨rfl, _⟩; exact absurd h (by simp)
  ·by_cases g : b < a
   ·simp only [h, g, aM, aG]
    constructor
    ·intro h; cases h
    ·rintro ⟨rfl, _⟩; exact absurd g (by simp)
   ·have : a = b := by rcases Kw a b with d | d | d; exact absurd d h; exact d; exact absurd d g
    subst this
    simp [h, GF ax bs]
theorem zg (a b : ByteArray) : rj a b = Op.bytesLess a.data.toList b.data.toList := by unfold rj; rw [gK, gK]
theorem AL {a b : ByteArray} (h : a.data.toList = b.data.toList) : a = b := jW (Array.toList_inj.1 h)
theorem uk (a : ByteArray) : rj a a = false := by rw [zg, wg]
theorem AY {a b c : ByteArray} (h1 : rj a b = true) (d : rj b c = true) : rj a c = true := by rw [zg] at *; exact yX _ _ _ h1 d
theorem AP (a b : ByteArray) : rj a b = true ∨ a = b ∨ rj b a = true := by
 rw [zg, zg]
 rcases BM a.data.toList b.data.toList with h | h | h
 ·exact .inl h
 ·exact .inr (.inl (AL h))
 ·exact .inr (.inr h)
theorem IT {a b : ByteArray} (h : rj a b = true) : rj b a = false := by
 cases d : rj b a with
 | false => rfl
 | true => have := AY h d; rw [uk] at this; cases this
theorem Qc (P : ByteArray → Prop) : Bh (fun a b => rj a b = true) P :=
 ⟨fun x _ h => (by rw [uk] at h; cases h), fun x y z _ _ _ => AY, fun x y _ _ => AP x y⟩
def BW (b : UInt8) : Bool := decide (97 ≤ b.toNat) && decide (b.toNat ≤ 122)
def Dv (b : UInt8) : Bool := BW b || (decide (48 ≤ b.toNat) && decide (b.toNat ≤ 57)) || decide (b.toNat = 45)
def oJ (s : ByteArray) : Bool := decide (1 ≤ s.size) && decide (s.size ≤ 16) && (match s.data.toList with | [] => false | b :: _ => BW b) && s.data.toList.all Dv
theorem pv {s : ByteArray} (h : oJ s = true) : 1 ≤ s.size ∧ s.size ≤ 16 := by
 simp only [oJ, bH, bK] at h
 exact h.1.1
theorem Mz : ∀ n : Nat, n < 256 → decide (yh (⟨#[97, 98, 99, 100, 101, 102, 103, 104, 105, 106, 107, 108, 109, 110, 111, 112, 113, 114, 115, 116, 117, 118, 119, 120, 121, 122]⟩ : ByteArray) (n : Int) ≥ 0) = BW (UInt8.ofNat n) := by decide +kernel
theorem PC : ∀ n : Nat, n < 256 → decide (yh (⟨#[97, 98, 99, 100, 101, 102, 103, 104, 105, 106, 107, 108, 109, 110, 111, 112, 113, 114, 115, 116, 117, 118, 119, 120, 121, 122, 48, 49, 50, 51, 52, 53, 54, 55, 56, 57, 45]⟩ : ByteArray) (n : Int) < 0) = !Dv (UInt8.ofNat n) := by decide +kernel
theorem xL (s : ByteArray) : s.size = s.data.toList.length := by rw [dH]; rfl
theorem F0 {s : ByteArray} (h : s.size ≤ 16) : Dw s = some (uf s) := by
 unfold Dw; rw [aY (by unfold maxLen; omega)]
theorem JV : ∀ l : List UInt8, vT (l.map fun b => (b.toNat : Int)) = some (l.all Dv)
 | [] => rfl
 | b :: l => by
  rw [bP, vT]
  simp only [sL, pB, aA]
  have a := PC b.toNat (jM b)
  rw [a]
  simp only [jU, jt]
  cases Dv b with
  | true => simp [JV l]
  | false => simp
theorem IR {s : ByteArray} {b : UInt8} {l : List UInt8} (h : s.data.toList = b :: l) : Bj s 0 = some b := by
 unfold Bj
 rw [aY (Int.le_refl 0)]
 have a : s.data[0]? = some b := by rw [← dT, h]; rfl
 show s[0]? = some b
 rw [← a]
 rfl
theorem zV (s : ByteArray) : tF s = some (oJ s) := by
 unfold tF
 simp only [D9, aA, pV]
 by_cases h1 : 1 ≤ s.size
 ·by_cases a : s.size ≤ 16
  ·rw [aY (by simp; omega)]
   obtain ⟨b, l, d⟩ : ∃ b l, s.data.toList = b :: l := by
    cases h : s.data.toList with
    | nil => rw [xL, h] at h1; simp at h1
    | cons b l => exact ⟨b, l, rfl⟩
   rw [IR d]
   simp only [aA, sL, pB]
   rw [Mz b.toNat (jM b)]
   simp only [jU, oJ, h1, a, d, bZ, eO]
   cases BW b with
   | false => simp
   | true =>
    simp only [aM, CD, F0 a, aA, uf]
    rw [JV, d]
    simp
  ·rw [bA (by simp; omega)]
   simp [oJ, a]
 ·rw [bA (by simp; omega)]
  simp [oJ, h1]
theorem Qk {s : ByteArray} {A B : List UInt8} {b : UInt8} (h : s.data.toList = A ++ b :: B) (i : Int) (d : i = (A.length : Int)) : Bj s i = some b := by
 subst d
 unfold Bj
 rw [aY (by omega), dO]
 have a : s.data[A.length]? = some b := by rw [← dT, h]; simp
 show s[A.length]? = some b
 rw [← a]
 rfl
theorem E1 (s : ByteArray) (v : s.size ≤ 16) : ∀ (B A : List UInt8) (n : Nat), s.data.toList = A ++ B → B.length < n → rr s n (A.length : Int) = some (B.all Dv)
  | [], A, 0, _, h => by simp at h
  | [], A, n + 1, h, _ => by
    have : s.size = A.length := by rw [xL, h]; simp
    rw [rr, bA (by rw [this]; simp)]
    rfl
  | b :: B, A, 0, _, h => by simp at h
  | b :: B, A, n + 1, h, u => by
    have l : s.size = A.length + B.length + 1 := by rw [xL, h]; simp; omega
    rw [rr, aY (by rw [l]; simp; omega)]
    rw [Qk h _ rfl]
    simp only [aA]
    rw [me (x := (A.length : Int) + 1) (by omega) (by omega)]
    have ih := E1 s v B (A ++ [b]) n (by rw [h]; simp) (by simp at u; omega)
    rw [show ((A ++ [b]).length : Int) = (A.length : Int) + 1 by simp] at ih
    simp only [jt]
    have k : ∀ n : Nat, n < 256 → Dv (UInt8.ofNat n) = !((decide (n < 97) || decide (n > 122)) && (decide (n < 48) || decide (n > 57)) && decide (n ≠ 45)) := by decide +kernel
    have m := k b.toNat (jM b)
    simp only [jU] at m
    rw [m]
    by_cases h1 : b.toNat < 97 <;> by_cases p : b.toNat > 122 <;> by_cases q : b.toNat < 48 <;> by_cases r : b.toNat > 57 <;> by_cases t : b.toNat = 45 <;>
      first
      | omega
      | (have a : ((b.toNat : Int) < 97) = (b.toNat < 97) := by rw [iW]; omega
         have d : ((b.toNat : Int) > 122) = (b.toNat > 122) := by rw [iW]; omega
         have g : ((b.toNat : Int) < 48) = (b.toNat < 48) := by rw [iW]; omega
         have i : ((b.toNat : Int) > 57) = (b.toNat > 57) := by rw [iW]; omega
         have j : ((b.toNat : Int) != 45) = !decide (b.toNat = 45) := by rw [bT]; simp; omega
         simp [h1, p, q, r, t, a, d, g, i, j, ih])
theorem wh (a : ByteArray) : mu a a = true := nm.2 rfl
theorem Rc : zS.size = 0 := rfl
theorem P6 {s : ByteArray} : s = zS ↔ s.size = 0 := by
 constructor
 ·rintro rfl; rfl
 ·intro h; exact AL (by rw [xL] at h; rw [eZ.1 h]; rfl)
theorem za (s : ByteArray) : sn s = some (oJ s) := by
 unfold sn
 simp only [R0, aA, pV]
 by_cases g : s.size = 0
 ·have : s = zS := P6.2 g
  subst this
  rw [wh]
  rfl
 ·have n : mu s zS = false := by
   cases h : mu s zS with
   | false => rfl
   | true => exact absurd (P6.1 (nm.1 h)) g
  rw [n]
  simp only [Bool.false_or]
  by_cases i : s.size ≤ 16
  ·rw [bA (by simp; omega)]
   obtain ⟨b, l, k⟩ : ∃ b l, s.data.toList = b :: l := by
    cases h : s.data.toList with
    | nil => rw [xL, h] at g; simp at g
    | cons b l => exact ⟨b, l, rfl⟩
   rw [IR k]
   simp only [aA, R0]
   have m := E1 s i s.data.toList [] lB rfl (by rw [yd, ← xL]; omega)
   simp only [bU] at m
   rw [show (0 : Int) = ((0 : Nat) : Int) from rfl] at *
   rw [m]
   have j : ((b.toNat : Int) < 97) = (b.toNat < 97) := by rw [iW]; omega
   have d : ((b.toNat : Int) > 122) = (b.toNat > 122) := by rw [iW]; omega
   have h1 : 1 ≤ s.size := by omega
   simp only [oJ, h1, i, k, BW, bZ, eO, j, d]
   by_cases a : b.toNat < 97
   ·simp [a, show ¬ 97 ≤ b.toNat by omega]
   ·by_cases c : b.toNat > 122
    ·simp [a, c, show ¬ b.toNat ≤ 122 by omega]
    ·simp [a, c, show 97 ≤ b.toNat by omega, show b.toNat ≤ 122 by omega]
  ·rw [aY (by simp; omega)]
   simp [oJ, i]
def nv (r : kC) : Bool := oJ r.kD && oJ r.kJ
theorem zA (r : kC) : re r = some (nv r) := by
 unfold re nv
 simp only [zV, aA]
 cases oJ r.kD <;> simp
theorem BT (r : kC) : tW r = some (nv r) := by
 unfold tW nv
 simp only [za, aA]
 cases oJ r.kD <;> simp
def Cv (a b : kC) : Bool := rj a.kD b.kD || (mu a.kD b.kD && rj a.kJ b.kJ)
theorem Cf (a b : kC) : xB a b = some (Cv a b) := by
 unfold xB Cv
 cases rj a.kD b.kD <;> cases mu a.kD b.kD <;> simp
theorem LB {a b : ByteArray} (h : a ≠ b) : mu a b = false := by
 cases d : mu a b with
 | false => rfl
 | true => exact absurd (nm.1 d) h
theorem By {a b : kC} : Cv a b = true ↔ rj a.kD b.kD = true ∨ (a.kD = b.kD ∧ rj a.kJ b.kJ = true) := by
 simp [Cv, nm]
theorem SQ (P : kC → Prop) : Bh (fun a b => Cv a b = true) P := by
 refine ⟨fun x _ h => ?_, fun x y z _ _ _ h1 d => ?_, fun x y _ _ => ?_⟩
 ·rw [By] at h
  simp [uk] at h
 ·rw [By] at *
  rcases h1 with h1 | ⟨i, h1⟩
  ·rcases d with d | ⟨g, d⟩
   ·exact .inl (AY h1 d)
   ·exact .inl (by rw [← g]; exact h1)
  ·rcases d with d | ⟨g, d⟩
   ·exact .inl (by rw [i]; exact d)
   ·exact .inr ⟨i.trans g, AY h1 d⟩
 ·simp only [By]
  rcases AP x.kD y.kD with h | h | h
  ·exact .inl (.inl h)
  ·rcases AP x.kJ y.kJ with d | d | d
   ·exact .inl (.inr ⟨h, d⟩)
   ·refine .inr (.inl ?_)
    cases x; cases y; simp at h d; simp [h, d]
   ·exact .inr (.inr (.inr ⟨h.symm, d⟩))
  ·exact .inr (.inr (.inl h))
theorem Bm (a b : kC) : ∃ c, sW a b = some c ∧ (c < 0 ↔ Cv a b = true) := by
 unfold sW
 simp only [qC, oK, aA, vM, tJ]
 have h1 : ∀ a b : ByteArray, (qi a b < 0 ↔ rj a b = true) := fun a b => by rw [zg]; exact Dn _ _
 have g : ∀ a b : ByteArray, (qi a b = 0 ↔ a = b) := fun a b => by
  unfold qi; rw [GF]; exact ⟨AL, fun h => by rw [h]⟩
 by_cases e : qi a.kD b.kD = 0
 ·rw [bA (by simp [e])]
  have e' := (g _ _).1 e
  by_cases d : qi a.kJ b.kJ = 0
  ·rw [bA (by simp [d])]
   refine ⟨0, rfl, ?_⟩
   rw [By, e', (g _ _).1 d]
   simp [uk]
  ·rw [aY (by simp [d])]
   refine ⟨_, rfl, ?_⟩
   rw [By, e', h1]
   simp [uk]
 ·rw [aY (by simp [e])]
  refine ⟨_, rfl, ?_⟩
  rw [By, h1]
  have : a.kD ≠ b.kD := fun h => e ((g _ _).2 h)
  simp [this]
def zR : kC := ⟨zS, zS⟩
theorem IK (a b : ByteArray) : mu a b = mu b a := by rw [bT, nm, nm]; exact eq_comm
theorem Ff (a b : kC) : lu a b = lu b a := by rw [bT, lx, lx]; exact eq_comm
theorem xH (a : kC) : lu a a = true := lx.2 rfl
def mR (c : kE) : Bool := nv c.Head && (
 if c.Kind == 1 then oJ c.lZ && lu zR c.B && lu zR c.C && mu zS c.mc
 else if c.Kind == 2 then nv c.B && mu zS c.lZ && lu zR c.C && mu zS c.mc
 else if c.Kind == 3 then nv c.B && mu c.B.kD c.Head.kD && oJ c.mc && mu zS c.lZ && lu zR c.C
 else if c.Kind == 4 then nv c.B && nv c.C && Cv c.B c.C && mu zS c.lZ && mu zS c.mc
 else false)
theorem xl (c : kE) : uO c = some (mR c) := by
 unfold uO mR
 simp only [zA, zV, aA]
 obtain ⟨k, hk, a⟩ := Bm c.B c.C
 rw [hk]
 have b : decide (k < 0) = Cv c.B c.C := by rw [bT, ← a]; simp
 simp only [aA, b]
 by_cases h1 : c.Kind = 1
 ·cases nv c.Head <;> cases oJ c.lZ <;> simp [h1, nc, xH, wh, zR, jj]
 ·by_cases d : c.Kind = 2
  ·cases nv c.Head <;> cases nv c.B <;> simp [d, nc, xH, wh, zR, jj]
  ·by_cases g : c.Kind = 3
   ·cases nv c.Head <;> cases nv c.B <;> cases mu c.B.kD c.Head.kD <;> cases oJ c.mc <;> simp [g, nc, xH, wh, zR, jj]
   ·by_cases h : c.Kind = 4
    ·cases nv c.Head <;> cases nv c.B <;> cases nv c.C <;> cases Cv c.B c.C <;> simp [h, nc, xH, wh, zR, jj]
    ·simp [h1, d, g, h]
theorem BP (c : kE) : wM c = some (mR c) := by
 unfold wM mR
 simp only [BT, za, Cf, aA]
 rw [show (⟨zS, zS⟩ : kC) = zR from rfl, Ff c.B zR, Ff c.C zR, IK c.mc zS, IK c.lZ zS]
 by_cases h1 : c.Kind = 1
 ·cases nv c.Head <;> cases oJ c.lZ <;> cases lu zR c.B <;> cases lu zR c.C <;> simp [h1]
 ·by_cases a : c.Kind = 2
  ·cases nv c.Head <;> cases nv c.B <;> cases mu zS c.lZ <;> cases lu zR c.C <;> simp [a]
  ·by_cases b : c.Kind = 3
   ·cases nv c.Head <;> cases nv c.B <;> cases mu zS c.lZ <;> cases lu zR c.C <;> cases mu c.B.kD c.Head.kD <;> simp [b]
   ·by_cases d : c.Kind = 4
    ·cases nv c.Head <;> cases nv c.B <;> cases mu zS c.lZ <;> cases mu zS c.mc <;> cases nv c.C <;> simp [d]
    ·cases nv c.Head <;> cases nv c.B <;> cases mu zS c.lZ <;> simp [h1, a, b, d]
end Go.Proofs.YtklbhegeiijbjaaGreat
namespace Go.Proofs.YtklbhegeiijbjaaGreat
open Go.RowKit
theorem nU {α : Type} {b : Nat} {l m : List α} (h : (l.length + m.length) * b ≤ 140737488355328) (a : l.length + m.length ≤ 9223372036854775807) : nJ b l m = some (l ++ m) := by
 unfold nJ; rw [aY ⟨h, by unfold maxLen; omega⟩]
theorem GG {l m : List Int} (h : l.length + m.length ≤ 1000000) : nJ 1 l m = some (l ++ m) := nU (by omega) (by omega)
def xk (s : ByteArray) : List Int := (s.size : Int) :: uf s
def tp (r : kC) : List Int := xk r.kD ++ xk r.kJ
def zW (c : kE) : List Int := if c.Kind = 1 then xk c.lZ else if c.Kind = 2 then tp c.B else if c.Kind = 3 then tp c.B ++ xk c.mc else tp c.B ++ tp c.C
def um (c : kE) : List Int := c.Kind :: (tp c.Head ++ zW c)
theorem uJ (s : ByteArray) : (xk s).length = s.size + 1 := by simp [xk, qn]
theorem pE {r : kC} (h : nv r = true) : (tp r).length ≤ 34 := by
 simp only [nv, bH] at h
 have h1 := pv h.1
 have a := pv h.2
 simp [tp, uJ]; omega
theorem zi {l : List Int} {n : Int} (a : 0 ≤ n) (h1 : n < 128) (b : l.length ≤ 100000) : pe l n = some (true, l ++ [n]) := by
 have hw : IntKind.u8.wrap n = n := by
  obtain ⟨k, rfl⟩ : ∃ k : Nat, n = k := ⟨n.toNat, by omega⟩
  have : ∀ k : Nat, k < 128 → IntKind.u8.wrap (k : Int) = (k : Int) := by decide +kernel
  exact this k (by omega)
 unfold pe
 rw [bA (by simp; omega), nh, ra, bA (by simp; omega), hw, GG (by simp; omega)]
 rfl
theorem FE {l : List Int} {s : ByteArray} (h : oJ s = true) (a : l.length ≤ 10000) : uN l s = some (true, l ++ xk s) := by
 have h1 := pv h
 unfold uN
 simp only [zV, aA, h, aM, F0 h1.2]
 unfold yu
 rw [bA (by rw [qn]; simp; omega)]
 rw [qn, zi (by omega) (by omega) (by omega)]
 simp only [aA]
 rw [GG (by simp [qn]; omega)]
 simp [xk]
theorem KB {l : List Int} {r : kC} (h : nv r = true) (b : l.length ≤ 9000) : rc l r = some (true, l ++ tp r) := by
 have a := h
 simp only [nv, bH] at h
 have h1 := pv h.1
 unfold rc
 simp only [zA, aA, a, aM]
 rw [FE h.1 (by omega)]
 simp only [aA, aM]
 rw [FE h.2 (by simp [uJ]; omega)]
 simp [tp]
theorem Dt {l : List Int} {r : kC} (h : nv r = true) (a : l.length ≤ 1000) : rc l r = some (true, l ++ tp r) := KB h (by omega)
theorem CQ {c : kE} (h : mR c = true) : nv c.Head = true := by
 simp only [mR, bH] at h; exact h.1
theorem pD {c : kE} (h : mR c = true) :
  (c.Kind = 1 ∧ oJ c.lZ = true ∧ c.B = zR ∧ c.C = zR ∧ c.mc = zS) ∨
  (c.Kind = 2 ∧ nv c.B = true ∧ c.lZ = zS ∧ c.C = zR ∧ c.mc = zS) ∨
  (c.Kind = 3 ∧ nv c.B = true ∧ oJ c.mc = true ∧ c.B.kD = c.Head.kD ∧ c.lZ = zS ∧ c.C = zR) ∨
  (c.Kind = 4 ∧ nv c.B = true ∧ nv c.C = true ∧ Cv c.B c.C = true ∧ c.lZ = zS ∧ c.mc = zS) := by
 simp only [mR, bH] at h
 obtain ⟨_, h⟩ := h
 split at h
 ·rename_i h1
  simp only [bH, lx, nm] at h
  exact .inl ⟨by simpa using h1, h.1.1.1, h.1.1.2.symm, h.1.2.symm, h.2.symm⟩
 ·split at h
  ·rename_i h1
   simp only [bH, lx, nm] at h
   exact .inr (.inl ⟨by simpa using h1, h.1.1.1, h.1.1.2.symm, h.1.2.symm, h.2.symm⟩)
  ·split at h
   ·rename_i h1
    simp only [bH, lx, nm] at h
    exact .inr (.inr (.inl ⟨by simpa using h1, h.1.1.1.1, h.1.1.2, h.1.1.1.2, h.1.2.symm, h.2.symm⟩))
   ·split at h
    ·rename_i h1
     simp only [bH, lx, nm] at h
     exact .inr (.inr (.inr ⟨by simpa using h1, h.1.1.1.1, h.1.1.1.2, h.1.1.2, h.1.2.symm, h.2.symm⟩))
    ·cases h
theorem Cl (c : kE) : xF c = some (if mR c then um c else []) := by
 unfold xF
 rw [xl]
 simp only [aA]
 cases h : mR c with
 | false => simp
 | true =>
  have g := CQ h
  have i := pE g
  simp only [cA, aB, aG, aM]
  have hk : 0 ≤ c.Kind ∧ c.Kind < 128 := by rcases pD h with h | h | h | h <;> omega
  rw [zi hk.1 hk.2 (by simp)]
  simp only [aA]
  rw [Dt g (by simp)]
  simp only [aA, uM, vl]
  rcases pD h with ⟨k, h1, _⟩ | ⟨k, h1, _⟩ | ⟨k, h1, a, _⟩ | ⟨k, h1, a, _⟩
  ·have b := pv h1
   simp only [k, bD, aM, FE h1 (show (([] ++ [(1:Int)]) ++ tp c.Head).length ≤ 10000 by simp; omega), aA]
   rw [GG (by simp [uJ]; omega)]
   simp [um, zW, k]
  ·have b := pE h1
   simp only [k, show ((2 : Int) == 1) = false from rfl, aB, bD, aM, aG, Dt h1 (show (([] ++ [(2:Int)]) ++ tp c.Head).length ≤ 1000 by simp; omega), aA]
   rw [GG (by simp; omega)]
   simp [um, zW, k]
  ·have b := pE h1
   have d := pv a
   simp only [k, show ((3 : Int) == 1) = false from rfl, show ((3 : Int) == 2) = false from rfl, aB, bD, aM, aG, Dt h1 (show (([] ++ [(3:Int)]) ++ tp c.Head).length ≤ 1000 by simp; omega), aA]
   rw [FE a (by simp; omega)]
   simp only [aA]
   rw [GG (by simp [uJ]; omega)]
   simp [um, zW, k]
  ·have b := pE h1
   have d := pE a
   simp only [k, show ((4 : Int) == 1) = false from rfl, show ((4 : Int) == 2) = false from rfl, show ((4 : Int) == 3) = false from rfl, aB, bD, aM, aG, Dt h1 (show (([] ++ [(4:Int)]) ++ tp c.Head).length ≤ 1000 by simp; omega), aA]
   rw [Dt a (by simp; omega)]
   simp only [aA]
   rw [GG (by simp; omega)]
   simp [um, zW, k]
def xe (l : List Int) : ByteArray := ⟨(uZ l).toArray⟩
theorem vE (l : List Int) : (xe l).data.toList = uZ l := rfl
theorem HB : ∀ (l : List Int) (r : ByteArray), (l.foldl (fun r n => r.push (UInt8.ofNat n.toNat)) r).data.toList = r.data.toList ++ uZ l
 | [], r => by simp [uZ]
 | x :: l, r => by
  rw [iS, HB l]
  show ((r.data.push _).toList) ++ _ = _
  simp [uZ]
theorem Qv (l : List Int) : CB l = xe l := AL (by unfold CB; rw [HB]; rfl)
theorem KL (l : List Int) : (xe l).size = l.length := by rw [xL, vE]; simp [uZ]
theorem MP (a b : List Int) : uZ (a ++ b) = uZ a ++ uZ b := by simp [uZ]
theorem sM (a b : List Int) (h : a.length + b.length ≤ 1000000) : xz (xe a) (xe b) = some (xe (a ++ b)) := by
 unfold xz
 rw [bA]
 ·congr 1
  refine AL ?_
  rw [vE, MP, ← vE a, ← vE b]
  exact ByteArray.toList_data_append ▸ rfl
 ·rw [KL, KL]
  show ¬ (_ > (9223372036854775807 : Int))
  omega
theorem D8 (s : ByteArray) : xe (uf s) = s := AL (by rw [vE]; simp [uZ, uf, gW])
theorem zl {n : Int} (a : 0 ≤ n) (h1 : n < 128) : rG n = some (xe [n]) := by
 have hw : IntKind.u8.wrap n = n := by
  obtain ⟨k, rfl⟩ : ∃ k : Nat, n = k := ⟨n.toNat, by omega⟩
  have : ∀ k : Nat, k < 128 → IntKind.u8.wrap (k : Int) = (k : Int) := by decide +kernel
  exact this k (by omega)
 unfold rG
 rw [nh, ui, bA (by simp; omega), hw, Qv, show zS = xe [] from rfl, sM _ _ (by simp)]
 rfl
theorem FD {s : ByteArray} (h : oJ s = true) : uR s = some (xe (xk s)) := by
 have h1 := pv h
 unfold uR
 rw [zl (by omega) (by omega)]
 simp only [aA]
 have := sM [(s.size : Int)] (uf s) (by rw [qn]; simp; omega)
 rw [D8] at this
 rw [this]
 simp [xk]
theorem BC {r : kC} (h : nv r = true) : tY r = some (xe (tp r)) := by
 simp only [nv, bH] at h
 have h1 := pv h.1
 have a := pv h.2
 unfold tY
 rw [FD h.1, FD h.2]
 simp only [aA]
 rw [sM _ _ (by simp [uJ]; omega)]
 rfl
theorem BN (c : kE) : wD c = some (xe (if mR c then um c else [])) := by
 unfold wD
 rw [BP]
 simp only [aA]
 cases h : mR c with
 | false => rfl
 | true =>
  have g := CQ h
  have i := pE g
  simp only [cA, aB, aG, aM]
  have hk : 0 ≤ c.Kind ∧ c.Kind < 128 := by rcases pD h with h | h | h | h <;> omega
  unfold Bb
  rw [zl hk.1 hk.2, BC g]
  simp only [aA]
  rw [sM _ _ (by simp; omega)]
  simp only [aA]
  rcases pD h with ⟨k, h1, _⟩ | ⟨k, h1, _⟩ | ⟨k, h1, a, _⟩ | ⟨k, h1, a, _⟩
  ·have b := pv h1
   simp only [k, bD, aM, FD h1, aA]
   rw [sM _ _ (by simp [uJ]; omega)]
   simp [um, zW, k]
  ·have b := pE h1
   simp only [k, show ((2 : Int) == 1) = false from rfl, show ((2 : Int) == 3) = false from rfl, show ((2 : Int) == 4) = false from rfl, aB, aG, BC h1, aA]
   rw [sM _ _ (by simp; omega)]
   simp [um, zW, k]
  ·have b := pE h1
   have d := pv a
   simp only [k, show ((3 : Int) == 1) = false from rfl, show ((3 : Int) == 4) = false from rfl, aB, bD, aM, aG, BC h1, aA]
   rw [sM _ _ (by simp; omega)]
   simp only [aA, FD a]
   rw [sM _ _ (by simp [uJ]; omega)]
   simp [um, zW, k]
  ·have b := pE h1
   have d := pE a
   simp only [k, show ((4 : Int) == 1) = false from rfl, show ((4 : Int) == 3) = false from rfl, aB, bD, aM, aG, BC h1, aA]
   rw [sM _ _ (by simp; omega)]
   simp only [aA, BC a]
   rw [sM _ _ (by simp; omega)]
   simp [um, zW, k]
def JT (c : kE) : List UInt8 := uZ (if mR c then um c else [])
def BR (a b : kE) : Bool := Op.bytesLess (JT a) (JT b)
theorem FL (a b : kE) : ∃ c, uC a b = some c ∧ (c < 0 ↔ BR a b = true) := by
 unfold uC
 rw [Cl, Cl]
 exact ⟨_, rfl, Dn _ _⟩
theorem ET (a b : kE) : ∃ c, tO a b = some c ∧ (c < 0 ↔ BR a b = true) := by
 unfold tO
 rw [BN, BN]
 simp only [aA]
 have h : rj (xe (if mR a then um a else [])) (xe (if mR b then um b else [])) = BR a b := by rw [zg]; rfl
 rw [h]
 cases BR a b with
 | true => exact ⟨_, rfl, by decide⟩
 | false =>
  simp only [aB, aG, Bool.false_or]
  cases d : mu (xe (if mR a then um a else [])) (xe (if mR b then um b else [])) with
  | true => exact ⟨0, by simp, by decide⟩
  | false => exact ⟨1, by simp, by decide⟩
theorem Sw {a b : Int} (ha : 0 ≤ a ∧ a < 256) (d : 0 ≤ b ∧ b < 256) (h : a.toNat.toUInt8 = b.toNat.toUInt8) : a = b := by
 have := bM UInt8.toNat h
 simp only [UInt8.toNat_ofNat', Nat.toUInt8] at this
 simp at this
 omega
theorem LS : ∀ {a b : List Int}, (∀ x ∈ a, 0 ≤ x ∧ x < 256) → (∀ x ∈ b, 0 ≤ x ∧ x < 256) → uZ a = uZ b → a = b
 | [], [], _, _, _ => rfl
 | [], _ :: _, _, _, h => by simp [uZ] at h
 | _ :: _, [], _, _, h => by simp [uZ] at h
 | x :: a, y :: b, ha, g, h => by
  simp only [uZ, bP, bE] at h
  rw [Sw (ha x (by simp)) (g y (by simp)) h.1, LS (fun z d => ha z (by simp [d])) (fun z d => g z (by simp [d])) h.2]
theorem Ay {s : ByteArray} (h : oJ s = true) : ∀ x ∈ xk s, 0 ≤ x ∧ x < 256 := by
 have h1 := pv h
 intro x a
 rcases aQ.1 a with rfl | a
 ·omega
 ·simp only [uf, bO] at a
  obtain ⟨b, _, rfl⟩ := a
  have := jM b
  omega
theorem yx {r : kC} (h : nv r = true) : ∀ x ∈ tp r, 0 ≤ x ∧ x < 256 := by
 simp only [nv, bH] at h
 intro x a
 rcases aV.1 a with a | a
 ·exact Ay h.1 x a
 ·exact Ay h.2 x a
theorem FQ {c : kE} (h : mR c = true) : ∀ x ∈ um c, 0 ≤ x ∧ x < 256 := by
 intro x a
 rcases aQ.1 a with rfl | a
 ·rcases pD h with h | h | h | h <;> omega
 ·rcases aV.1 a with a | a
  ·exact yx (CQ h) x a
  ·unfold zW at a
   rcases pD h with ⟨k, h1, _⟩ | ⟨k, h1, _⟩ | ⟨k, h1, b, _⟩ | ⟨k, h1, b, _⟩
   ·rw [aY k] at a; exact Ay h1 x a
   ·rw [bA (by omega), aY k] at a; exact yx h1 x a
   ·rw [bA (by omega), bA (by omega), aY k] at a
    rcases aV.1 a with a | a
    ·exact yx h1 x a
    ·exact Ay b x a
   ·rw [bA (by omega), bA (by omega), bA (by omega)] at a
    rcases aV.1 a with a | a
    ·exact yx h1 x a
    ·exact yx b x a
theorem Nf {s t : ByteArray} (h : uf s = uf t) : s = t := by rw [← D8 s, h, D8]
theorem Cj {s t : ByteArray} {X Y : List Int} (h : xk s ++ X = xk t ++ Y) : s = t ∧ X = Y := by
 simp only [xk, bX, bE] at h
 obtain ⟨h1, a⟩ := h
 have b : (uf s).length = (uf t).length := by rw [qn, qn]; omega
 have := List.append_inj a b
 exact ⟨Nf this.1, this.2⟩
theorem AN {a b : kC} {X Y : List Int} (h : tp a ++ X = tp b ++ Y) : a = b ∧ X = Y := by
 simp only [tp, aN] at h
 obtain ⟨h1, g⟩ := Cj h
 obtain ⟨d, i⟩ := Cj g
 exact ⟨by cases a; cases b; simp at h1 d; simp [h1, d], i⟩
theorem NO {a b : kE} (ha : mR a = true) (s : mR b = true) (h : um a = um b) : a = b := by
 simp only [um, bE] at h
 obtain ⟨hk, q⟩ := h
 obtain ⟨p, h⟩ := AN q
 clear q
 have l : ∀ {X Y : List Int}, X = Y → X ++ [] = Y ++ [] := fun h => by rw [h]
 unfold zW at h
 obtain ⟨z, r, D, w, x, u⟩ := a
 obtain ⟨A, t, E, bb, y, v⟩ := b
 simp only at hk p h
 subst hk p
 rcases pD ha with ⟨k, h1, g, i, d⟩ | ⟨k, h1, g, i, d⟩ | ⟨k, h1, g, i, d, j⟩ | ⟨k, h1, g, i, d, j⟩ <;>
 rcases pD s with ⟨k', g1, g2, g3, g4⟩ | ⟨k', g1, g2, g3, g4⟩ | ⟨k', g1, g2, g3, g4, g5⟩ | ⟨k', g1, g2, g3, g4, g5⟩ <;> simp only at k k' g i d g2 g3 g4 <;> (try omega)
 ·rw [aY k, aY k] at h
  simp [Cj (l h), g, i, d, g2, g3, g4]
 ·rw [bA (by omega), aY k, bA (by omega), aY k] at h
  simp [AN (l h), g, i, d, g2, g3, g4]
 ·rw [bA (by omega), bA (by omega), aY k, bA (by omega), bA (by omega), aY k] at h
  obtain ⟨m, n⟩ := AN h
  simp only at j g5
  simp [m, Cj (l n), d, j, g4, g5]
 ·rw [bA (by omega), bA (by omega), bA (by omega), bA (by omega), bA (by omega), bA (by omega)] at h
  obtain ⟨m, n⟩ := AN h
  simp only at j g5
  simp [m, AN (l n), d, j, g4, g5]
theorem DB : Bh (fun a b => BR a b = true) (fun c => mR c = true) := by
 refine ⟨fun x _ h => ?_, fun x y z _ _ _ h1 i => yX _ _ _ h1 i, fun x y d g => ?_⟩
 ·unfold BR at h; rw [wg] at h; cases h
 ·rcases BM (JT x) (JT y) with h | h | h
  ·exact .inl h
  ·refine .inr (.inl (NO d g ?_))
   unfold JT at h
   rw [aY d, aY g] at h
   exact LS (FQ d) (FQ g) h
  ·exact .inr (.inr h)
end Go.Proofs.YtklbhegeiijbjaaGreat
namespace Go.Proofs.YtklbhegeiijbjaaGreat
open Go.RowKit
def su {α : Type} (R : α → Bool) (lt : α → α → Bool) (last : Option α) : List α → Bool → α → Bool × α
 | [], ok, b => (ok, b)
 | x :: xs, ok, b => if R x && last.all (fun y => lt y x) && (!ok || lt x b) then su R lt last xs true x else su R lt last xs ok b
def A0 {α : Type} (w : Nat) (R : α → Bool) (lt : α → α → Bool) (d : α) (l : List α) : Nat → List α → Option (List α)
 | 0, _ => none
 | n + 1, out => if !(su R lt out.getLast? l false d).1 then some out else (nJ w out [(su R lt out.getLast? l false d).2]).bind fun o => A0 w R lt d l n o
section
variable {α : Type} {R : α → Bool} {lt : α → α → Bool}
theorem Fi (H : Bh (fun a b => lt a b = true) (fun x => R x = true)) (last : Option α) : ∀ (l : List α) (ok : Bool) (b : α), (ok = true → R b = true ∧ last.all (fun y => lt y b) = true) →
  ((su R lt last l ok b).1 = false → ok = false ∧ ∀ x ∈ l, R x = true → last.all (fun y => lt y x) = false) ∧
  ((su R lt last l ok b).1 = true → R (su R lt last l ok b).2 = true ∧ last.all (fun y => lt y (su R lt last l ok b).2) = true ∧ ((su R lt last l ok b).2 ∈ l ∨ (ok = true ∧ (su R lt last l ok b).2 = b)) ∧
   (∀ x ∈ l, R x = true → last.all (fun y => lt y x) = true → lt x (su R lt last l ok b).2 = false) ∧ (ok = true → lt b (su R lt last l ok b).2 = false))
 | [], ok, b, k => by
  simp only [su]
  exact ⟨fun h => ⟨h, by simp⟩, fun h => ⟨(k h).1, (k h).2, .inr ⟨h, trivial⟩, by simp, fun _ => by
   cases n : lt b b with
   | false => rfl
   | true => exact absurd n (H.irrefl b (k h).1)⟩⟩
 | x :: xs, ok, b, k => by
  rw [su]
  by_cases m : (R x && last.all (fun y => lt y x) && (!ok || lt x b)) = true
  ·rw [aY m]
   simp only [bH, gS, iy] at m
   obtain ⟨⟨A, t⟩, u⟩ := m
   obtain ⟨h1, s⟩ := Fi H last xs true x (fun _ => ⟨A, t⟩)
   refine ⟨fun h => ?_, fun h => ?_⟩
   ·cases (h1 h).1
   ·obtain ⟨q, a2, a3, a4, a5⟩ := s h
    refine ⟨q, a2, ?_, ?_, ?_⟩
    ·rcases a3 with a3 | ⟨_, a3⟩
     ·exact .inl (by simp [a3])
     ·exact .inl (by rw [a3]; simp)
    ·intro y i d g
     rcases aQ.1 i with rfl | i
     ·exact a5 rfl
     ·exact a4 y i d g
    ·intro j
     cases n : lt b (su R lt last xs true x).2 with
     | false => rfl
     | true =>
      have v : lt x b = true := by rcases u with h | h; rw [j] at h; cases h; exact h
      have := H.trans x b _ A (k j).1 q v n
      simp only [a5 rfl] at this
      cases this
  ·rw [bA m]
   obtain ⟨h1, s⟩ := Fi H last xs ok b k
   refine ⟨fun h => ⟨(h1 h).1, fun y i d => ?_⟩, fun h => ?_⟩
   ·rcases aQ.1 i with rfl | i
    ·have j := (h1 h).1
     cases t : last.all (fun z => lt z y) with
     | false => rfl
     | true => exact absurd (by simp [d, t, j]) m
    ·exact (h1 h).2 y i d
   ·obtain ⟨q, a2, a3, a4, a5⟩ := s h
    refine ⟨q, a2, ?_, ?_, a5⟩
    ·rcases a3 with a3 | a3
     ·exact .inl (by simp [a3])
     ·exact .inr a3
    ·intro y i d g
     rcases aQ.1 i with rfl | i
     ·cases n : lt y (su R lt last xs ok b).2 with
      | false => rfl
      | true =>
       cases ok with
       | false => exact absurd (by simp [d, g]) m
       | true =>
        have w : lt y b = false := by
         cases D : lt y b with
         | false => rfl
         | true => exact absurd (by simp [d, g, D]) m
        have r := k rfl
        rcases H.total y b d r.1 with p | p | p
        ·rw [w] at p; cases p
        ·subst p; rw [a5 rfl] at n; cases n
        ·have := H.trans b y _ r.1 d q p n
         simp only [a5 rfl] at this
         cases this
     ·exact a4 y i d g
theorem vG (H : Bh (fun a b => lt a b = true) (fun x => R x = true)) {l : List α} (g : ∀ x ∈ l, R x = true) (h : l.Pairwise (fun a b => lt a b = true)) : l.Nodup := by
 refine h.imp_of_mem (fun {a b} ha i d e => ?_)
 subst e
 exact H.irrefl a (g a ha) d
theorem nk : ∀ {l m : List α}, l.Nodup → (∀ x ∈ l, x ∈ m) → l.length ≤ m.length
 | [], _, _, _ => by simp
 | x :: l, m, g, b => by
  obtain ⟨A, B, rfl⟩ := List.append_of_mem (b x (by simp))
  have a := eA.1 g
  have := nk (l := l) (m := A ++ B) a.2 (fun y d => by
   have := b y (gE _ d)
   simp only [aV, aQ] at this ⊢
   rcases this with h | h | h
   ·exact .inl h
   ·subst h; exact absurd d a.1
   ·exact .inr h)
  simp at this ⊢; omega
theorem Cq (H : Bh (fun a b => lt a b = true) (fun x => R x = true)) {w : Nat} (hw : w ≤ 1000) (d : α) (l : List α) (I : l.length ≤ 1000000000) : ∀ (n : Nat) (out : List α), l.length < n + out.length → out.Pairwise (fun a b => lt a b = true) → (∀ x ∈ out, x ∈ l ∧ R x = true) →
  (∀ x ∈ l, R x = true → x ∈ out ∨ out.getLast?.all (fun y => lt y x) = true) → ∃ s, A0 w R lt d l n out = some s ∧ xn (fun a b => lt a b = true) (fun x => R x = true) l s
 | 0, out, J, hp, hm, v => by
  exfalso
  have := nk (vG H (fun x g => (hm x g).2) hp) (fun x g => (hm x g).1)
  omega
 | n + 1, out, J, hp, hm, v => by
  rw [A0]
  obtain ⟨h1, F⟩ := Fi H out.getLast? l false d (fun h => by cases h)
  have hlen := nk (vG H (fun x g => (hm x g).2) hp) (fun x g => (hm x g).1)
  cases E : (su R lt out.getLast? l false d).1 with
  | false =>
   rw [aY (by simp)]
   refine ⟨out, rfl, hp, fun x => ⟨hm x, fun g => ?_⟩⟩
   rcases v x g.1 g.2 with h | h
   ·exact h
   ·rw [(h1 E).2 x g.1 g.2] at h; cases h
  | true =>
   rw [bA (by simp)]
   obtain ⟨t, a2, a3, a4, _⟩ := F E
   generalize (su R lt out.getLast? l false d).2 = b at *
   have u : b ∈ l := by rcases a3 with h | ⟨h, _⟩; exact h; cases h
   have q : ∀ y ∈ out, lt y b = true := by
    intro y i
    obtain ⟨A, z, rfl⟩ : ∃ A z, out = A ++ [z] := by
     rcases dG out with h | ⟨A, z, h⟩
     ·subst h; cases i
     ·exact ⟨A, z, by rw [h]; simp⟩
    simp at a2
    rcases aV.1 i with i | i
    ·have D : lt y z = true := (cZ.1 hp).2.2 y i z (by simp)
     exact H.trans y z b (hm y (by simp [i])).2 (hm z (by simp)).2 t D a2
    ·simp at i; subst i; exact a2
   have r : (out ++ [b]).Pairwise (fun a b => lt a b = true) := cZ.2 ⟨hp, by simp, fun x g y i => by simp at i; subst i; exact q x g⟩
   have m : ∀ x ∈ out ++ [b], x ∈ l ∧ R x = true := fun x g => by
    rcases aV.1 g with g | g
    ·exact hm x g
    ·simp at g; subst g; exact ⟨u, t⟩
   have k := nk (vG H (fun x g => (m x g).2) r) (fun x g => (m x g).1)
   simp at k
   rw [nU (by simp only [aJ, bU]; have : (out.length + (0 + 1)) * w ≤ 1000000000 * 1000 := Nat.mul_le_mul (by omega) hw; omega) (by simp; omega)]
   simp only [aA]
   refine Cq H hw d l I n (out ++ [b]) (by simp; omega) r m (fun x g j => ?_)
   rcases v x g j with h | h
   ·exact .inl (by simp [h])
   ·have G := a4 x g j h
    rcases H.total x b j t with p | p | p
    ·rw [G] at p; cases p
    ·subst p; exact .inl (by simp)
    ·exact .inr (by simp [p])
end
theorem GB {α : Type} (A : List α) (x : α) (a : A.length < 4611686018427387904) : mQ (A ++ [x]) (IntKind.i64.wrap (((A ++ [x]).length : Int) - 1)) = some x := by
 rw [me (by simp; try omega) (by simp; try omega)]
 rw [nR A x [] _ (by simp; try omega)]
theorem Gw (out : List kE) (k : out.length < 4611686018427387904) : ∀ (l : List kE) (ok : Bool) (b : kE), sQ out l ok b = some (su mR BR out.getLast? l ok b)
 | [], ok, b => rfl
 | x :: xs, ok, b => by
  rw [sQ, su]
  have cmp : ∀ a b, ∃ c, tO a b = some c ∧ decide (c < 0) = BR a b := fun a b => by
   obtain ⟨c, h1, j⟩ := ET a b
   exact ⟨c, h1, by rw [bT, ← j]; simp⟩
  rw [BP, Gw out k xs true x, Gw out k xs ok b]
  obtain ⟨c, h1, j⟩ := cmp x b
  rcases dG out with h | ⟨A, z, h⟩
  ·subst h
   simp only [h1, aA, j, bU, Option.all, List.getLast?_nil]
   generalize BR x b = p
   cases mR x <;> cases ok <;> cases p <;> simp
  ·have i : out = A ++ [z] := by rw [h]; simp
   obtain ⟨t, r, s⟩ := cmp z x
   have d : out.getLast? = some z := by rw [i]; simp
   have g : mQ out (IntKind.i64.wrap ((out.length : Int) - 1)) = some z := by rw [i]; exact GB A z (by rw [i] at k; simp at k; omega)
   have m : ((out.length : Int) == 0) = false := by rw [i]; simp; omega
   rw [d]
   simp only [m, g, r, h1, aA, j, s, Option.all]
   rcases eW (BR x b) with hp | hp <;> rcases eW (BR z x) with n | n <;> rcases eW (mR x) with q | q <;> cases ok <;> simp [hp, n, q]
theorem Uk (a b : ByteArray) : (!(rj a b || mu a b)) = rj b a := by
 rcases AP a b with h | h | h
 ·simp [h, IT h]
 ·subst h; simp [wh, uk]
 ·have d := IT h
  have g : mu a b = false := LB (by rintro rfl; rw [uk] at h; cases h)
  simp [h, d, g]
theorem ND {s : ByteArray} (h : oJ s = true) : mu s zS = false := LB (fun e => by have := pv h; rw [e, Rc] at this; omega)
theorem Gq (out : List ByteArray) (m : out.length < 4611686018427387904) : ∀ (l : List ByteArray) (b : ByteArray),
  ∃ n, sX out l b = some n ∧ (su oJ rj out.getLast? l (!mu b zS) b) = (!mu n zS, n)
 | [], b => ⟨b, rfl, rfl⟩
 | x :: xs, b => by
  rw [sX, su]
  obtain ⟨w, u, d⟩ := Gq out m xs x
  obtain ⟨y, v, j⟩ := Gq out m xs b
  rw [za, u, v]
  by_cases i : oJ x = true
  ·rw [ND i] at d
   simp only [dA] at d
   rcases dG out with h | ⟨A, z, h⟩
   ·subst h
    simp only [aA, bU, Option.all, List.getLast?_nil, i] at *
    rw [d, j]
    generalize rj x b = p
    generalize mu b zS = q
    cases p <;> cases q <;> simp
   ·have k : out = A ++ [z] := by rw [h]; simp
    have a : out.getLast? = some z := by rw [k]; simp
    have g : mQ out (IntKind.i64.wrap ((out.length : Int) - 1)) = some z := by rw [k]; exact GB A z (by rw [k] at m; simp at m; omega)
    have r : ((out.length : Int) == 0) = false := by rw [k]; simp; omega
    rw [a] at d j ⊢
    simp only [r, g, aA, Option.all, Uk, i]
    rw [d, j]
    rcases eW (rj x b) with hp | hp <;> rcases eW (rj z x) with s | s <;> rcases eW (mu b zS) with t | t <;> simp [hp, s, t]
  ·simp only [fT] at i
   rw [i, j]
   simp
theorem PR (a : List kE) : ∀ (n : Nat) (out s : List kE), A0 136 mR BR (⟨0, ⟨zS, zS⟩, zS, ⟨zS, zS⟩, ⟨zS, zS⟩, zS⟩ : kE) a n out = some s → s.length < 4611686018427387904 → uB a n out = some s ∧ out.length ≤ s.length
 | 0, out, s, h, _ => by cases h
 | n + 1, out, s, h, i => by
  rw [A0] at h
  rw [uB]
  have key : out.length ≤ s.length → sQ out a false (⟨0, ⟨zS, zS⟩, zS, ⟨zS, zS⟩, ⟨zS, zS⟩, zS⟩ : kE) = _ := fun k => Gw out (by omega) a false _
  split at h
  ·rename_i h1
   cases h
   rw [key (aZ _)]
   simp only [aA]
   rw [aY h1]
   exact ⟨rfl, aZ _⟩
  ·rename_i h1
   obtain ⟨o, b, d⟩ := bind_some h
   have g := PR a n o s d i
   have j : out.length + 1 = o.length := by
    unfold nJ at b; split at b
    ·cases b; simp
    ·cases b
   rw [key (by omega)]
   simp only [aA]
   rw [bA h1, b]
   exact ⟨g.1, by omega⟩
theorem Qd (a : List ByteArray) : ∀ (n : Nat) (out s : List ByteArray), A0 16 oJ rj zS a n out = some s → s.length < 4611686018427387904 → uD a n out = some s ∧ out.length ≤ s.length
 | 0, out, s, h, _ => by cases h
 | n + 1, out, s, h, l => by
  rw [A0] at h
  rw [uD]
  have key : out.length ≤ s.length → ∃ d, sX out a zS = some d ∧ su oJ rj out.getLast? a false zS = (!mu d zS, d) := fun p => by
   have := Gq out (by omega) a zS
   rw [wh] at this
   exact this
  split at h
  ·rename_i h1
   cases h
   obtain ⟨d, g, i⟩ := key (aZ _)
   rw [g]
   rw [i] at h1
   simp only [aA]
   rw [aY (by simpa using h1)]
   exact ⟨rfl, aZ _⟩
  ·rename_i h1
   obtain ⟨o, b, j⟩ := bind_some h
   have k := Qd a n o s j l
   have m : out.length + 1 = o.length := by
    unfold nJ at b; split at b
    ·cases b; simp
    ·cases b
   obtain ⟨d, g, i⟩ := key (by omega)
   rw [g]
   rw [i] at h1 b
   simp only [aA]
   rw [bA (by simpa using h1), b]
   exact ⟨k.1, by omega⟩
abbrev Ru (l s : List ByteArray) := xn (fun a b => rj a b = true) (fun x => oJ x = true) l s
abbrev Kg (l s : List kE) := xn (fun a b => BR a b = true) (fun x => mR x = true) l s
theorem BQ {α : Type} {lt : α → α → Bool} {R : α → Bool} (H : Bh (fun a b => lt a b = true) (fun x => R x = true)) {l s : List α} (h : xn (fun a b => lt a b = true) (fun x => R x = true) l s) : s.length ≤ l.length :=
 nk (vG H (fun x d => ((h.2 x).1 d).2) h.1) (fun x d => ((h.2 x).1 d).1)
theorem LV (l : List kE) (b : l.length ≤ 1000000000) : ∃ s, yG l = some s ∧ Kg l s := by
 obtain ⟨s, h1, a⟩ := Cq DB (w := 136) (by omega) (⟨0, ⟨zS, zS⟩, zS, ⟨zS, zS⟩, ⟨zS, zS⟩, zS⟩ : kE) l b lB [] (by rw [yd]; omega) (by simp) (by simp) (fun x _ _ => .inr rfl)
 exact ⟨s, (PR l lB [] s h1 (by have := BQ DB a; omega)).1, a⟩
theorem Qw (l : List ByteArray) (b : l.length ≤ 1000000000) : ∃ s, Au l = some s ∧ Ru l s := by
 obtain ⟨s, h1, a⟩ := Cq (Qc (fun x => oJ x = true)) (w := 16) (by omega) zS l b lB [] (by rw [yd]; omega) (by simp) (by simp) (fun x _ _ => .inr rfl)
 exact ⟨s, (Qd l lB [] s h1 (by have := BQ (Qc _) a; omega)).1, a⟩
end Go.Proofs.YtklbhegeiijbjaaGreat
namespace Go.Proofs.YtklbhegeiijbjaaGreat
open Go.RowKit
def zC : kE := ⟨0, ⟨zS, zS⟩, zS, ⟨zS, zS⟩, ⟨zS, zS⟩, zS⟩
theorem LP (f : kE → Option Bool) : ∀ (n : Nat) (l : List kE) (i j : Int), oL f n l i j = DU f zC n l i j
 | 0, _, _, _ => rfl
 | n + 1, l, i, j => by
  rw [oL, DU]
  simp only [LP f n]
  rfl
theorem Mg (f : kE → Option Bool) : ∀ (l : List kE) (i : Nat), pF f l i = Ah f l i
 | [], _ => rfl
 | x :: l, i => by rw [pF, Ah]; simp only [Mg f l]
theorem O5 (f : kE → Option Bool) (l : List kE) : rX l f = Ia f zC l := by
 unfold rX Ia vc
 simp only [Mg, LP]
theorem Ka (i : Int) : ∀ (n : Nat) (l : List kE) (k j : Int), pj i n l k j = Ca nc i n l k j
 | 0, _, _, _ => rfl
 | n + 1, l, k, j => by
  rw [pj, Ca]
  simp only [Ka i n]
theorem JM (l : List kE) : ∀ (n : Nat) (i : Int), pq l n i = CF nc zC l n i
 | 0, _ => rfl
 | n + 1, i => by
  rw [pq, CF]
  simp only [JM l n, Ka]
  rfl
theorem Py (l : List kE) : tM l = J1 nc zC l := by
 unfold tM J1
 simp only [JM]
theorem Sf {l : List kE} (a : l.length ≤ 1000000000) : sK l = some l := by
 unfold sK
 rw [nU (by simp; omega) (by simp; omega)]
 simp
theorem Rz (l : List kE) (g : l.length ≤ 1000000000) : ∃ s, zI l = some s ∧ Kg l s := by
 unfold zI
 rw [Sf g]
 simp only [aA]
 rw [O5, JU _ (fun x => !mR x) zC l (by omega) (fun x _ => by simp [yN, xl])]
 simp only [aA, jk]
 have j : (l.filter fun x => mR x).length ≤ l.length := fY _ _
 obtain ⟨s, h1, i, d⟩ := F9 (eq := nc) (lt := fun a b => BR a b = true) (P := fun x => mR x = true) (cf := fun x => uC x.1 x.2) (l := l.filter fun x => mR x) (fun x y => ol) DB (fun x h => (cH.1 h).2) (by omega) (fun x y _ _ => FL x y)
 rw [h1]
 simp only [aA]
 rw [Py, KI _ _ _ (by omega)]
 refine ⟨_, rfl, d.1, fun x => ?_⟩
 rw [d.2]
 simp
theorem I2 (b : List kE) : ∀ (A l : List kE), qO (A ++ l) l A.length = some true
 | A, [] => rfl
 | A, x :: l => by
  rw [qO, nR A x l _ rfl]
  simp only [aA]
  rw [ol.2 rfl]
  simp only [cA, aB, aG]
  have := I2 b (A ++ [x]) l
  simpa using this
theorem Tm (l : List kE) : rW l l = some true := by
 unfold rW
 rw [bA (by simp)]
 exact I2 [] [] l
end Go.Proofs.YtklbhegeiijbjaaGreat
namespace Go.Proofs.YtklbhegeiijbjaaGreat
open Go.RowKit
def tt {κ : Type} (ks : List κ) : List (κ × Bool) := ks.map fun k => (k, true)
def sv {κ : Type} (beq : κ → κ → Bool) (ks : List κ) (k : κ) : Bool := ks.any fun x => beq k x
def ins {κ : Type} (beq : κ → κ → Bool) (ks : List κ) (k : κ) : List κ := if sv beq ks k then ks else ks ++ [k]
section
variable {κ : Type} {beq : κ → κ → Bool}
theorem tg (a : ∀ {x y}, beq x y = true ↔ x = y) (ks : List κ) (k : κ) : sv beq ks k = true ↔ k ∈ ks := by
 simp [sv, fA, a]
theorem NU (ks : List κ) : (tt ks).length = ks.length := by simp [tt]
theorem OL (ks : List κ) (k : κ) : AG beq (tt ks) k false = sv beq ks k := by
 unfold AG mG sv tt
 induction ks with
 | nil => rfl
 | cons x xs ih =>
  simp only [bP, gP, iP]
  cases h : beq k x with
  | true => simp
  | false => simpa using ih
theorem QN (l : ∀ {x y}, beq x y = true ↔ x = y) (ks : List κ) (k : κ) : pk beq (tt ks) k true = tt (ins beq ks k) := by
 unfold pk ins
 have m : (tt ks).findIdx? (fun p => beq k p.1) = ks.findIdx? (fun x => beq k x) := by
  unfold tt; rw [jd]; rfl
 rw [m]
 cases h : ks.findIdx? (fun x => beq k x) with
 | none =>
  rw [iK] at h
  rw [bA]
  ·simp [tt]
  ·intro b
   unfold sv at b
   rw [fA] at b
   obtain ⟨x, n, a⟩ := b
   rw [h x n] at a
   cases a
 | some i =>
  rw [fB] at h
  obtain ⟨g, h1, _⟩ := h
  have e := l.1 h1
  rw [aY]
  ·simp only [tt]
   apply fL
   intro j
   rw [gC]
   split
   ·rename_i d
    subst d
    simp [g, e]
   ·rfl
  ·unfold sv
   exact fA.2 ⟨ks[i], List.getElem_mem g, h1⟩
end
section
variable {all : List kE} {wants : List kC} {T : List kC} {W : List ByteArray} {R : List kE}
def px (c : kE) : List kC := if c.Kind = 1 then [] else if c.Kind = 4 then [c.B, c.C] else [c.B]
end
theorem Lu (x : kE) : ∀ l : List kE, AE l x = some (sv nc l x)
 | [] => rfl
 | y :: l => by
  have ih := Lu x l
  unfold AE at ih ⊢
  rw [xT, ih]
  have : nc y x = nc x y := by rw [bT, ol, ol]; exact eq_comm
  rw [this]
  simp only [sv, iP]
  cases nc x y <;> simp
end Go.Proofs.YtklbhegeiijbjaaGreat
namespace Go.Proofs.YtklbhegeiijbjaaGreat
open Go.RowKit
theorem Rt {c : kE} (h : mR c = true) : zB c = some (c.Head :: px c) := by
 unfold zB
 rw [xl, h]
 simp only [aA, cA, aB, aG]
 have a : c.Kind = 1 ∨ c.Kind = 2 ∨ c.Kind = 3 ∨ c.Kind = 4 := by rcases pD h with h | h | h | h <;> simp [h.1]
 rcases a with k | k | k | k
 ·simp [k, px]
 ·rw [aY (by simp [k]), nU (by simp) (by simp)]
  simp [k, px]
 ·rw [aY (by simp [k]), nU (by simp) (by simp)]
  simp [k, px]
 ·rw [aY (by simp [k]), nU (by simp) (by simp)]
  simp only [aA]
  rw [aY (by simp [k]), nU (by simp) (by simp)]
  simp [k, px]
theorem xn.congr {α : Type} {lt : α → α → Prop} {P : α → Prop} {l m s : List α} (h : xn lt P l s) (hm : ∀ x, x ∈ l ↔ x ∈ m) : xn lt P m s := ⟨h.1, fun x => by rw [h.2, hm]⟩
theorem QU {κ : Type} (ks : List κ) : (tt ks).map (·.1) = ks := by simp [tt, gW]
end Go.Proofs.YtklbhegeiijbjaaGreat
namespace Go.Proofs.YtklbhegeiijbjaaGreat
open Go.RowKit
def yR (c : kE) : Nat := c.Head.kD.size + c.Head.kJ.size + c.lZ.size + c.B.kD.size + c.B.kJ.size + c.C.kD.size + c.C.kJ.size + c.mc.size
end Go.Proofs.YtklbhegeiijbjaaGreat
namespace Go.Proofs.YtklbhegeiijbjaaGreat
open Go.RowKit
section
variable {κ γ : Type} {beq : κ → κ → Bool}
theorem rU (a : ∀ {x y}, beq x y = true ↔ x = y) {A B : List (κ × γ)} {k : κ} {x : γ} (b : ∀ p ∈ A, p.1 ≠ k) : mG beq (A ++ (k, x) :: B) k = some x := by
 unfold mG
 rw [jV]
 have : A.find? (fun p => beq k p.1) = none := iX.2 (fun p hp h => b p hp (a.1 h).symm)
 rw [this]
 simp [a.2 (rfl : k = k)]
theorem wV (a : ∀ {x y}, beq x y = true ↔ x = y) {l : List (κ × γ)} {k : κ} (h : ∀ p ∈ l, p.1 ≠ k) : mG beq l k = none := by
 unfold mG
 rw [iX.2 (fun p hp b => h p hp (a.1 b).symm)]
 rfl
theorem yb (a : ∀ {x y}, beq x y = true ↔ x = y) {A B : List (κ × γ)} {k : κ} {x y : γ} (b : ∀ p ∈ A, p.1 ≠ k) : pk beq (A ++ (k, x) :: B) k y = A ++ (k, y) :: B := by
 have h1 : (A ++ (k, x) :: B).findIdx? (fun p => beq k p.1) = some A.length := by
  rw [ju, iK.2 (fun p hp => by
   cases h : beq k p.1 with
   | false => rfl
   | true => exact absurd (a.1 h).symm (b p hp))]
  simp [fV, a.2 (rfl : k = k)]
 rw [sb h1]
 simp
theorem Dy (a : ∀ {x y}, beq x y = true ↔ x = y) {l : List (κ × γ)} {k : κ} {y : γ} (h : ∀ p ∈ l, p.1 ≠ k) : pk beq l k y = l ++ [(k, y)] := by
 refine wc (iK.2 (fun p hp => ?_)) y
 cases b : beq k p.1 with
 | false => rfl
 | true => exact absurd (a.1 b).symm (h p hp)
theorem vr (k : κ) : ∀ (l : List (κ × γ)), (∀ p ∈ l, p.1 ≠ k) ∨ ∃ A x B, l = A ++ (k, x) :: B ∧ ∀ p ∈ A, p.1 ≠ k
 | [] => .inl (fun _ h => by cases h)
 | p :: l => by
  by_cases hp : p.1 = k
  ·exact .inr ⟨[], p.2, l, by rw [← hp]; rfl, fun _ h => by cases h⟩
  ·rcases vr k l with h | ⟨A, x, B, rfl, h⟩
   ·exact .inl (fun q a => by rcases aQ.1 a with rfl | a; exact hp; exact h q a)
   ·exact .inr ⟨p :: A, x, B, rfl, fun q a => by rcases aQ.1 a with rfl | a; exact hp; exact h q a⟩
theorem Gv (a : ∀ {x y}, beq x y = true ↔ x = y) (A B : List (κ × γ)) (k : κ) : mG beq (A ++ B) k = (mG beq A k).or (mG beq B k) := by
 unfold mG
 rw [jV]
 cases A.find? (fun p => beq k p.1) <;> rfl
theorem Ch (p : κ × γ) (l : List (κ × γ)) (k : κ) : mG beq (p :: l) k = if beq k p.1 = true then some p.2 else mG beq l k := by
 unfold mG
 rw [gP]
 cases beq k p.1 <;> simp
theorem EV (a : ∀ {x y}, beq x y = true ↔ x = y) (l : List (κ × γ)) (k b : κ) (y : γ) : mG beq (pk beq l k y) b = if beq b k = true then some y else mG beq l b := by
 rcases vr k l with h | ⟨A, x, B, rfl, h⟩
 ·rw [Dy a h, Gv a, Ch]
  by_cases hk : beq b k = true
  ·have := a.1 hk
   subst this
   rw [aY hk, aY hk, wV a h]; rfl
  ·rw [bA hk, bA hk]
   show (mG beq l b).or none = _
   cases mG beq l b <;> rfl
 ·rw [yb a h, Gv a, Ch, Gv a, Ch]
  by_cases hk : beq b k = true
  ·have := a.1 hk
   subst this
   rw [aY hk, aY hk, wV a h]; rfl
  ·rw [bA hk, bA hk, bA hk]
end
abbrev pW := List (kC × List ByteArray)
def mm (T : pW) : List (kC × List (ByteArray × Bool)) := T.map fun p => (p.1, tt p.2)
def sP (T : pW) (r : kC) : List ByteArray := (mG lu T r).getD []
def FS (T : pW) : List kZ := T.flatMap fun p => p.2.map fun w => (⟨p.1, w⟩ : kZ)
def E0 (T : pW) (r : kC) (w : ByteArray) : pW := pk lu T r (sP T r ++ [w])
theorem Ev (A B : pW) : mm (A ++ B) = mm A ++ mm B := by simp [mm]
theorem Ai {A : pW} {r : kC} (h : ∀ p ∈ A, p.1 ≠ r) : ∀ p ∈ mm A, p.1 ≠ r := by
 intro p hp
 simp only [mm, bO] at hp
 obtain ⟨q, a, rfl⟩ := hp
 exact h q a
theorem QD (T : pW) (r : kC) : mG lu (mm T) r = (mG lu T r).map tt := by
 rcases vr r T with h | ⟨A, x, B, rfl, h⟩
 ·rw [wV lx h, wV lx (Ai h)]; rfl
 ·rw [rU lx h, Ev]
  exact rU lx (Ai h)
theorem Md (T : pW) (r : kC) : (mG lu (mm T) r).getD [] = tt (sP T r) := by
 rw [QD, sP]; cases mG lu T r <;> rfl
theorem Ht (T : pW) (r : kC) (w : ByteArray) : (FS (E0 T r w)).Perm (FS T ++ [(⟨r, w⟩ : kZ)]) := by
 unfold E0 sP
 rcases vr r T with h | ⟨A, x, B, rfl, h⟩
 ·rw [Dy lx h, wV lx h]
  simp [FS]
 ·rw [yb lx h, rU lx h]
  simp only [FS, jE, jl, jr, cL, bP, gF, aN]
  refine cJ _ (cJ _ ?_)
  exact fW
theorem O9 {T : pW} (hk : (T.map (·.1)).Nodup) (r : kC) (w : ByteArray) : ((E0 T r w).map (·.1)).Nodup := by
 unfold E0
 rcases vr r T with h | ⟨A, x, B, rfl, h⟩
 ·rw [Dy lx h]
  simp only [cL, bP, gF]
  refine cF.2 ⟨hk, by simp, fun a ha b d e => ?_⟩
  simp at d; subst d; subst e
  obtain ⟨p, hp, e⟩ := bO.1 ha
  exact h p hp e
 ·rw [yb lx h]
  simpa using hk
theorem B5 {T : pW} (hk : (T.map (·.1)).Nodup) (f : kZ) : f ∈ FS T ↔ f.lZ ∈ sP T f.kC := by
 simp only [FS, kf, bO]
 constructor
 ·rintro ⟨p, hp, w, hw, rfl⟩
  obtain ⟨A, B, rfl⟩ := List.append_of_mem hp
  have a : ∀ q ∈ A, q.1 ≠ p.1 := fun q d e => by
   rw [cL, bP] at hk
   exact (cF.1 hk).2.2 q.1 (bO.2 ⟨q, d, rfl⟩) p.1 (by simp) e
  rw [sP, show p = (p.1, p.2) from rfl, rU lx a]
  exact hw
 ·intro h
  unfold sP at h
  rcases vr f.kC T with b | ⟨A, x, B, rfl, a⟩
  ·rw [wV lx b] at h; cases h
  ·rw [rU lx a] at h
   exact ⟨(f.kC, x), by simp, f.lZ, h, rfl⟩
theorem KV {T : pW} (h : (FS T).Nodup) (r : kC) : (sP T r).Nodup := by
 unfold sP
 rcases vr r T with b | ⟨A, x, B, rfl, a⟩
 ·rw [wV lx b]; simp
 ·rw [rU lx a]
  simp only [FS, jE, jl] at h
  have h1 := (cF.1 (cF.1 h).2.1).1
  simp only [List.Nodup, gY] at h1
  exact h1.imp (fun h e => h (by rw [e]))
inductive pN (C : List kE) : kZ → Prop
 | mem (c) : c ∈ C → c.Kind = 1 → pN C ⟨c.Head, c.lZ⟩
 | inc (c w) : c ∈ C → c.Kind = 2 → pN C ⟨c.B, w⟩ → pN C ⟨c.Head, w⟩
 | FV (c b w) : c ∈ C → c.Kind = 3 → pN C ⟨c.B, b⟩ → pN C ⟨⟨b, c.mc⟩, w⟩ → pN C ⟨c.Head, w⟩
 | both (c w) : c ∈ C → c.Kind = 4 → pN C ⟨c.B, w⟩ → pN C ⟨c.C, w⟩ → pN C ⟨c.Head, w⟩
theorem pN.mono {C C' : List kE} (h : ∀ c ∈ C, c ∈ C') {f : kZ} (i : pN C f) : pN C' f := by
 induction i with
 | mem c a hk => exact .mem c (h c a) hk
 | inc c w a hk _ ih => exact .inc c w (h c a) hk ih
 | FV c b w a hk _ _ d g => exact .FV c b w (h c a) hk d g
 | both c w a hk _ _ d g => exact .both c w (h c a) hk d g
def F7 (C : List kE) : List kZ := (C.map (·.Head)).flatMap fun r => (C.map (·.lZ)).map fun w => (⟨r, w⟩ : kZ)
theorem DY (C : List kE) : (F7 C).length = C.length * C.length := by
 unfold F7
 have : ∀ l : List kC, (l.flatMap fun r => (C.map (·.lZ)).map fun w => (⟨r, w⟩ : kZ)).length = l.length * C.length := fun l => by
  induction l with
  | nil => simp
  | cons x l ih => simp only [jl, aF, ih, dC, aJ, cP]; omega
 rw [this, dC]
theorem Rg {C : List kE} {r : kC} {w : ByteArray} : (⟨r, w⟩ : kZ) ∈ F7 C ↔ (∃ c ∈ C, c.Head = r) ∧ ∃ c ∈ C, c.lZ = w := by
 unfold F7
 simp only [kf, bO, kZ.mk.injEq]
 constructor
 ·rintro ⟨g, ⟨c, d, rfl⟩, h, ⟨b, a, rfl⟩, rfl, rfl⟩; exact ⟨⟨c, d, rfl⟩, b, a, rfl⟩
 ·rintro ⟨⟨c, d, rfl⟩, b, a, rfl⟩; exact ⟨_, ⟨c, d, rfl⟩, _, ⟨b, a, rfl⟩, rfl, rfl⟩
theorem pN.Ll {C : List kE} {f : kZ} (h : pN C f) : ∃ c ∈ C, c.Kind = 1 ∧ c.lZ = f.lZ := by
 induction h with
 | mem c g hk => exact ⟨c, g, hk, rfl⟩
 | inc c w g hk _ ih => exact ih
 | FV c b w g hk _ _ a d => exact d
 | both c w g hk _ _ a d => exact a
theorem pN.head {C : List kE} {f : kZ} (h : pN C f) : ∃ c ∈ C, c.Head = f.kC := by
 cases h with
 | mem c a hk => exact ⟨c, a, rfl⟩
 | inc c w a hk _ => exact ⟨c, a, rfl⟩
 | FV c b w a hk _ _ => exact ⟨c, a, rfl⟩
 | both c w a hk _ _ => exact ⟨c, a, rfl⟩
theorem pN.F7 {C : List kE} {f : kZ} (h : pN C f) : f ∈ F7 C := by
 obtain ⟨c, a, _, hw⟩ := h.Ll
 exact Rg.2 ⟨h.head, c, a, hw⟩
structure rA (C : List kE) (T : pW) (td : List kZ) (n : Int) : Prop where
 keys : (T.map (·.1)).Nodup
 nd : (FS T).Nodup
 Lp : td.Nodup
 sub : ∀ f ∈ td, f ∈ FS T
 num : n = (FS T).length
 xC : ∀ f ∈ FS T, pN C f
theorem rA.len {C : List kE} {T : pW} {b : List kZ} {n : Int} (h : rA C T b n) : (FS T).length ≤ C.length * C.length := by
 rw [← DY]; exact nk h.nd (fun f a => (h.xC f a).F7)
theorem rA.Sx {C : List kE} {T : pW} {a : List kZ} {n : Int} (h : rA C T a n) : a.length ≤ (FS T).length := nk h.Lp h.sub
theorem rA.mono {C C' : List kE} {T : pW} {a : List kZ} {n : Int} (h : rA C T a n) (b : ∀ c ∈ C, c ∈ C') : rA C' T a n := ⟨h.keys, h.nd, h.Lp, h.sub, h.num, fun f d => (h.xC f d).mono b⟩
structure AU (T : pW) (td : List kZ) (T' : pW) (td' : List kZ) : Prop where
 nI : ∀ f ∈ FS T, f ∈ FS T'
 todo : ∀ f ∈ td, f ∈ td'
 new : ∀ f ∈ FS T', f ∈ FS T ∨ f ∈ td'
 fresh : ∀ f ∈ td', f ∈ td ∨ f ∉ FS T
theorem AU.refl (T : pW) (a : List kZ) : AU T a T a := ⟨fun _ h => h, fun _ h => h, fun _ h => .inl h, fun _ h => .inl h⟩
theorem AU.trans {T T' T'' : pW} {i g a : List kZ} (h : AU T i T' g) (k : AU T' g T'' a) : AU T i T'' a :=
 ⟨fun f b => k.nI f (h.nI f b), fun f b => k.todo f (h.todo f b), fun f b => by
  rcases k.new f b with h1 | h1
  ·rcases h.new f h1 with d | d
   ·exact .inl d
   ·exact .inr (k.todo f d)
  ·exact .inr h1, fun f b => by
  rcases k.fresh f b with h1 | h1
  ·exact h.fresh f h1
  ·exact .inr (fun d => h1 (h.nI f d))⟩
theorem HN {α : Type} (p : α → Bool) : ∀ l : List α, (l.filter p).length + (l.filter fun x => !p x).length = l.length
 | [] => rfl
 | x :: l => by
  have := HN p l
  cases h : p x <;> simp [h] <;> omega
theorem rA.F5 {C C' : List kE} {T T' : pW} {i d : List kZ} {n p : Int} (j : rA C' T' d p) (g : rA C T i n) (x : AU T i T' d) : d.length + (FS T).length ≤ i.length + (FS T').length := by
 classical
 have h1 : (d.filter fun f => decide (f ∈ FS T)).length ≤ i.length := nk (j.Lp.filter _) (fun f k => by
  have := cH.1 k
  rcases x.fresh f this.1 with h | h
  ·exact h
  ·exact absurd (by simpa using this.2) h)
 have l : (FS T ++ d.filter fun f => !decide (f ∈ FS T)).length ≤ (FS T').length := nk (cF.2 ⟨g.nd, j.Lp.filter _, fun a ha b m e => by
  subst e
  have := (cH.1 m).2
  simp [ha] at this⟩) (fun f k => by
  rcases aV.1 k with h | h
  ·exact x.nI f h
  ·exact j.sub f (cH.1 h).1)
 have q : (d.filter fun f => decide (f ∈ FS T)).length + (d.filter fun f => !decide (f ∈ FS T)).length = d.length := by
  exact HN (fun f => decide (f ∈ FS T)) d
 rw [aF] at l
 omega
def CN (C : List kE) (T : pW) (g : List kZ) (b : Option (List (kC × List (ByteArray × Bool)) × List kZ × Int)) (Q : pW → Prop) : Prop :=
 ∃ T' a d, b = some (mm T', a, d) ∧ rA C T' a d ∧ AU T g T' a ∧ Q T'
theorem CN.mono {C : List kE} {T : pW} {g : List kZ} {a : Option (List (kC × List (ByteArray × Bool)) × List kZ × Int)} {Q Q' : pW → Prop} (h : CN C T g a Q) (k : ∀ T', (∀ f ∈ FS T, f ∈ FS T') → Q T' → Q' T') : CN C T g a Q' := by
 obtain ⟨T', b, l, h1, i, d, j⟩ := h
 exact ⟨T', b, l, h1, i, d, k T' d.nI j⟩
def rV (C : List kE) : Prop := C.length ≤ 1000000
theorem rV.sq {C : List kE} (h : rV C) : C.length * C.length ≤ 1000000000000 := Nat.mul_le_mul h h
theorem uj {T : pW} (hk : (T.map (·.1)).Nodup) (r : kC) (w : ByteArray) : AG mu ((mG lu (mm T) r).getD []) w false = true ↔ (⟨r, w⟩ : kZ) ∈ FS T := by
 rw [Md, OL, tg nm, B5 hk]
theorem Dj {C : List kE} (y : rV C) {T : pW} {k : List kZ} {n : Int} (h : rA C T k n) (cs : List kE) (I : List (kC × List kE)) (ws : List (ByteArray × List kE)) {r : kC} {w : ByteArray} (z : pN C ⟨r, w⟩) :
  CN C T k (oT (mm T) cs I ws k n r w) (fun T' => (⟨r, w⟩ : kZ) ∈ FS T') := by
 unfold oT
 have E := y.sq
 have J := h.len
 have F := h.Sx
 by_cases g : (⟨r, w⟩ : kZ) ∈ FS T
 ·rw [aY ((uj h.keys r w).2 g)]
  exact ⟨T, k, n, rfl, h, AU.refl _ _, g⟩
 ·rw [bA (fun t => g ((uj h.keys r w).1 t))]
  have D : rA C (E0 T r w) (k ++ [⟨r, w⟩]) (n + 1) := by
   have hp := Ht T r w
   refine ⟨O9 h.keys r w, (hp.nodup_iff).2 (cF.2 ⟨h.nd, by simp, fun a ha b p e => ?_⟩), cF.2 ⟨h.Lp, by simp, fun a ha b p e => ?_⟩, fun f d => hp.mem_iff.2 ?_, ?_, fun f d => ?_⟩
   ·simp at p; subst p; subst e; exact g ha
   ·simp at p; subst p; subst e; exact g (h.sub _ ha)
   ·rcases aV.1 d with d | d
    ·exact cO _ (h.sub f d)
    ·exact eV _ d
   ·rw [hp.length_eq, h.num]; simp
   ·rcases aV.1 (hp.mem_iff.1 d) with d | d
    ·exact h.xC f d
    ·simp at d; subst d; exact z
  have u : ((if (mG lu (mm T) r).isNone = true then ((GI lu (mm T) r []).bind fun l => some l) else some (mm T)) : Option _).bind (fun l => (Gp lu mu l r w true)) = some (mm (E0 T r w)) := by
   unfold E0 sP
   rcases vr r T with j | ⟨A, x, B, rfl, s⟩
   ·have q := wV lx (Ai j)
    rw [q, wV lx j, Dy lx j, Ev]
    simp only [Option.isNone_none, aM, GI, q, aA]
    rw [Dy lx (Ai j)]
    unfold Gp
    rw [rU lx (Ai j)]
    simp only [fD]
    rw [yb lx (Ai j)]
    rfl
   ·have m := Ai s
    have v : mG lu (mm (A ++ (r, x) :: B)) r = some (tt x) := by rw [Ev]; exact rU lx m
    rw [v, rU lx s, yb lx s]
    simp only [Option.isNone_some, aB, aG, aA, Gp, v, fD, jr]
    have G : w ∉ x := fun hw => g (by
     rw [B5 h.keys, sP, rU lx s]; exact hw)
    rw [QN nm]
    rw [show ins mu x w = x ++ [w] from by unfold ins; rw [bA (fun t => G ((tg nm x w).1 t))]]
    rw [Ev, show mm ((r, x) :: B) = (r, tt x) :: mm B from rfl, yb lx m, Ev]
    rfl
  refine ⟨E0 T r w, k ++ [⟨r, w⟩], n + 1, ?_, D, ⟨fun f d => (Ht T r w).mem_iff.2 (cO _ d), fun f d => cO _ d, fun f d => ?_, fun f d => ?_⟩, (Ht T r w).mem_iff.2 (by simp)⟩
  ·have i := u
   generalize ((if (mG lu (mm T) r).isNone = true then ((GI lu (mm T) r []).bind fun l => some l) else some (mm T)) : Option _) = o at i
   cases o with
   | none => cases i
   | some l =>
    simp only [aA] at i ⊢
    rw [i]
    simp only [aA]
    rw [nU (by simp; omega) (by simp; omega)]
    simp only [aA]
    rw [me (by rw [h.num]; omega) (by rw [h.num]; omega)]
  ·rcases aV.1 ((Ht T r w).mem_iff.1 d) with h1 | h1
   ·exact .inl h1
   ·exact .inr (eV _ h1)
  ·rcases aV.1 d with h1 | h1
   ·exact .inl h1
   ·simp at h1; subst h1; exact .inr g
end Go.Proofs.YtklbhegeiijbjaaGreat
namespace Go.Proofs.YtklbhegeiijbjaaGreat
open Go.RowKit
theorem Aw (l : List ByteArray) (x : ByteArray) : x ∈ vU l ↔ x ∈ l := by unfold vU; simp
def tC (C : List kE) : Prop := ∀ c ∈ C, mR c = true
theorem N8 {c : kE} (h : mR c = true) (hk : c.Kind = 1) : c.lZ.size ≤ 16 := by
 rcases pD h with h | h | h | h
 ·exact (pv h.2.1).2
 ·exact absurd (hk.symm.trans h.1) (by decide)
 ·exact absurd (hk.symm.trans h.1) (by decide)
 ·exact absurd (hk.symm.trans h.1) (by decide)
theorem OR {T : pW} (r : kC) (hk : (T.map (·.1)).Nodup) : (sP T r).length ≤ (FS T).length := by
 unfold sP
 rcases vr r T with b | ⟨A, x, B, rfl, a⟩
 ·rw [wV lx b]; simp
 ·rw [rU lx a]
  simp only [FS, jE, jl, aF, dC, jr]
  omega
theorem Hy {C : List kE} (a : rV C) (b : tC C) {T : pW} {i : List kZ} {n : Int} (h : rA C T i n) (cs : List kE) (j : List (kC × List kE)) (ws : List (ByteArray × List kE)) (q : List kZ) (z : Int) (r : kC) :
  rF (mm T) cs j ws q z r = some (vU (sP T r)) := by
 unfold rF pG
 rw [Md]
 simp only [aA, pV]
 have m := OR r h.keys
 have k := h.len
 have l := a.sq
 unfold GR
 rw [QU, aY]
 refine ⟨KV h.nd r, fun p hp => ?_, by rw [NU]; omega⟩
 simp only [tt, bO] at hp
 obtain ⟨w, hw, rfl⟩ := hp
 have g := h.xC ⟨r, w⟩ ((B5 h.keys ⟨r, w⟩).2 hw)
 obtain ⟨c, d, hk, e⟩ := g.Ll
 have := N8 (b c d) hk
 simp only at e ⊢
 rw [← e]
 unfold maxLen
 omega
theorem Nv {C : List kE} (i : rV C) (cs : List kE) (g : List (kC × List kE)) (ws : List (ByteArray × List kE)) (head : kC) : ∀ (l : List ByteArray) {T : pW} {a : List kZ} {n : Int}, rA C T a n → (∀ w ∈ l, pN C ⟨head, w⟩) →
  CN C T a (qZ cs g ws head l (mm T) a n) (fun T' => ∀ w ∈ l, (⟨head, w⟩ : kZ) ∈ FS T')
 | [], T, a, n, h, _ => ⟨T, a, n, rfl, h, AU.refl _ _, fun _ hw => by cases hw⟩
 | w :: l, T, a, n, h, j => by
  rw [qZ]
  obtain ⟨T1, s, t, k, g1, x1, q⟩ := Dj i h cs g ws (j w (by simp))
  rw [k]
  simp only [aA]
  obtain ⟨T2, d, p, m, g2, x2, r⟩ := Nv i cs g ws head l g1 (fun w hw => j w (by simp [hw]))
  refine ⟨T2, d, p, m, g2, x1.trans x2, fun v b => ?_⟩
  rcases aQ.1 b with rfl | b
  ·exact x2.nI _ q
  ·exact r v b
theorem RE {C : List kE} (b : rV C) (g : tC C) {T : pW} {a : List kZ} {n : Int} (h : rA C T a n) (cs : List kE) (d : List (kC × List kE)) (ws : List (ByteArray × List kE)) (r head : kC) (i : ∀ w, (⟨r, w⟩ : kZ) ∈ FS T → pN C ⟨head, w⟩) :
  CN C T a (uX (mm T) cs d ws a n r head) (fun T' => ∀ w, (⟨r, w⟩ : kZ) ∈ FS T → (⟨head, w⟩ : kZ) ∈ FS T') := by
 unfold uX
 rw [Hy b g h]
 simp only [aA]
 refine (Nv b cs d ws head _ h (fun w hw => i w ((B5 h.keys ⟨r, w⟩).2 ((Aw _ _).1 hw)))).mono (fun T' _ j w hw => j w ((Aw _ _).2 ((B5 h.keys ⟨r, w⟩).1 hw)))
def Fp (c : kE) (f : kZ) (T T' : pW) : Prop :=
 (c.Kind = 2 → f.kC = c.B → (⟨c.Head, f.lZ⟩ : kZ) ∈ FS T') ∧
 (c.Kind = 3 → f.kC = c.B → ∀ w, (⟨⟨f.lZ, c.mc⟩, w⟩ : kZ) ∈ FS T → (⟨c.Head, w⟩ : kZ) ∈ FS T') ∧
 (c.Kind = 4 → (⟨c.B, f.lZ⟩ : kZ) ∈ FS T → (⟨c.C, f.lZ⟩ : kZ) ∈ FS T → (⟨c.Head, f.lZ⟩ : kZ) ∈ FS T')
theorem Fp.mono {c : kE} {f : kZ} {T T' T0 T1 : pW} (h : Fp c f T T') (g : ∀ f ∈ FS T0, f ∈ FS T) (h1 : ∀ f ∈ FS T', f ∈ FS T1) : Fp c f T0 T1 :=
 ⟨fun a b => h1 _ (h.1 a b), fun a b w hw => h1 _ (h.2.1 a b w (g _ hw)), fun a b d => h1 _ (h.2.2 a (g _ b) (g _ d))⟩
theorem Qe (x : Option (List (kC × List (ByteArray × Bool)) × List kZ × Int)) : (x.bind fun r => some (r.1, r.2.1, r.2.2)) = x := by cases x <;> rfl
theorem Ny {C : List kE} (p : rV C) (u : tC C) {T : pW} {i : List kZ} {n : Int} (h : rA C T i n) (cs : List kE) (l : List (kC × List kE)) (ws : List (ByteArray × List kE)) {c : kE} (q : c ∈ C) {f : kZ} (s : f ∈ FS T) (t : f.kC ∈ px c) :
  CN C T i (sG (mm T) cs l ws i n c f) (Fp c f T) := by
 unfold sG
 simp only [Qe, D9]
 by_cases a : c.Kind = 2
 ·have m : f.kC = c.B := by simpa [px, a] using t
  rw [aY (by simp [a])]
  have r : pN C ⟨c.Head, f.lZ⟩ := .inc c f.lZ q a (by rw [← m]; exact h.xC f s)
  refine (Dj p h cs l ws r).mono (fun T' _ g => ⟨fun _ _ => g, fun k => absurd (a.symm.trans k) (by decide), fun k => absurd (a.symm.trans k) (by decide)⟩)
 rw [bA (by simp [a])]
 by_cases b : c.Kind = 3
 ·have m : f.kC = c.B := by simpa [px, b] using t
  rw [aY (by simp [b])]
  refine (RE p u h cs l ws ⟨f.lZ, c.mc⟩ c.Head (fun w hw => .FV c f.lZ w q b (by rw [← m]; exact h.xC f s) (h.xC _ hw))).mono (fun T' _ g => ⟨fun k => absurd k a, fun _ _ w hw => g w hw, fun k => absurd (b.symm.trans k) (by decide)⟩)
 rw [bA (by simp [b])]
 by_cases j : c.Kind = 4
 ·rw [aY (by simp [j])]
  simp only [aA]
  by_cases d : (⟨c.B, f.lZ⟩ : kZ) ∈ FS T ∧ (⟨c.C, f.lZ⟩ : kZ) ∈ FS T
  ·rw [aY (by rw [bH, uj h.keys, uj h.keys]; exact d)]
   have r : pN C ⟨c.Head, f.lZ⟩ := .both c f.lZ q j (h.xC _ d.1) (h.xC _ d.2)
   exact (Dj p h cs l ws r).mono (fun T' _ g => ⟨fun k => absurd k a, fun k => absurd k b, fun _ _ _ => g⟩)
  ·rw [bA (by rw [bH, uj h.keys, uj h.keys]; exact d)]
   exact ⟨T, i, n, rfl, h, AU.refl _ _, fun k => absurd k a, fun k => absurd k b, fun _ x y => absurd ⟨x, y⟩ d⟩
 ·rw [bA (by simp [j])]
  exact ⟨T, i, n, rfl, h, AU.refl _ _, fun k => absurd k a, fun k => absurd k b, fun k => absurd k j⟩
theorem JO {C : List kE} (i : rV C) (j : tC C) (cs : List kE) (g : List (kC × List kE)) (ws : List (ByteArray × List kE)) {c : kE} (k : c ∈ C) (m : c.B ∈ px c) : ∀ (l : List ByteArray) {T : pW} {a : List kZ} {n : Int}, rA C T a n → (∀ w ∈ l, (⟨c.B, w⟩ : kZ) ∈ FS T) →
  CN C T a (qf cs g ws c l (mm T) a n) (fun T' => ∀ w ∈ l, Fp c ⟨c.B, w⟩ T T')
 | [], T, a, n, h, _ => ⟨T, a, n, rfl, h, AU.refl _ _, fun _ hw => by cases hw⟩
 | w :: l, T, a, n, h, hm => by
  rw [qf]
  obtain ⟨T1, u, x, p, g1, x1, s⟩ := Ny i j h cs g ws k (f := ⟨c.B, w⟩) (hm w (by simp)) m
  rw [p]
  simp only [aA]
  obtain ⟨T2, d, r, q, g2, x2, t⟩ := JO i j cs g ws k m l g1 (fun w hw => x1.nI _ (hm w (by simp [hw])))
  refine ⟨T2, d, r, q, g2, x1.trans x2, fun v b => ?_⟩
  rcases aQ.1 b with rfl | b
  ·exact s.mono (fun _ h => h) x2.nI
  ·exact (t v b).mono x1.nI (fun _ h => h)
def FT (c : kE) (T : pW) (a : List kZ) : Prop :=
 (c.Kind = 1 → (⟨c.Head, c.lZ⟩ : kZ) ∈ FS T) ∧
 (c.Kind = 2 → ∀ w, (⟨c.B, w⟩ : kZ) ∈ FS T → (⟨c.B, w⟩ : kZ) ∉ a → (⟨c.Head, w⟩ : kZ) ∈ FS T) ∧
 (c.Kind = 3 → ∀ b w, (⟨c.B, b⟩ : kZ) ∈ FS T → (⟨c.B, b⟩ : kZ) ∉ a → (⟨⟨b, c.mc⟩, w⟩ : kZ) ∈ FS T → (⟨⟨b, c.mc⟩, w⟩ : kZ) ∉ a → (⟨c.Head, w⟩ : kZ) ∈ FS T) ∧
 (c.Kind = 4 → ∀ w, (⟨c.B, w⟩ : kZ) ∈ FS T → (⟨c.B, w⟩ : kZ) ∉ a → (⟨c.C, w⟩ : kZ) ∈ FS T → (⟨c.C, w⟩ : kZ) ∉ a → (⟨c.Head, w⟩ : kZ) ∈ FS T)
theorem FT.ext {c : kE} {T T' : pW} {i d : List kZ} (h : FT c T i) (x : AU T i T' d) : FT c T' d := by
 have nI : ∀ f, f ∈ FS T' → f ∉ d → f ∈ FS T ∧ f ∉ i := fun f m j => by
  rcases x.new f m with h1 | h1
  ·exact ⟨h1, fun l => j (x.todo f l)⟩
  ·exact absurd h1 j
 refine ⟨fun k => x.nI _ (h.1 k), fun k w a b => ?_, fun k b w g a2 a3 a4 => ?_, fun k w g a2 a3 a4 => ?_⟩
 ·exact x.nI _ (h.2.1 k w (nI _ a b).1 (nI _ a b).2)
 ·exact x.nI _ (h.2.2.1 k b w (nI _ g a2).1 (nI _ g a2).2 (nI _ a3 a4).1 (nI _ a3 a4).2)
 ·exact x.nI _ (h.2.2.2 k w (nI _ g a2).1 (nI _ g a2).2 (nI _ a3 a4).1 (nI _ a3 a4).2)
theorem PN {C : List kE} (l : rV C) (s : tC C) {T : pW} {p : List kZ} {n : Int} (h : rA C T p n) (cs : List kE) (r : List (kC × List kE)) (ws : List (ByteArray × List kE)) {c : kE} (t : c ∈ C) :
  ∃ T' d i, tK (mm T) cs r ws p n c = some (mm T', d, i) ∧ rA C T' d i ∧ AU T p T' d ∧ FT c T' d := by
 unfold tK
 simp only [Qe]
 by_cases h1 : c.Kind = 1
 ·rw [aY (by simp [h1])]
  obtain ⟨T', d, i, e, g, x, q⟩ := Dj l h cs r ws (pN.mem c t h1)
  exact ⟨T', d, i, e, g, x, fun _ => q, fun k => absurd (h1.symm.trans k) (by decide), fun k => absurd (h1.symm.trans k) (by decide), fun k => absurd (h1.symm.trans k) (by decide)⟩
 ·rw [bA (by simp [h1]), Hy l s h]
  simp only [aA]
  have y : c.B ∈ px c := by unfold px; rw [bA h1]; split <;> simp
  obtain ⟨T', d, i, e, g, x, q⟩ := JO l s cs r ws t y (vU (sP T c.B)) h (fun w hw => (B5 h.keys ⟨c.B, w⟩).2 ((Aw _ _).1 hw))
  have nI : ∀ f, f ∈ FS T' → f ∉ d → f ∈ FS T := fun f u v => by
   rcases x.new f u with h1 | h1
   ·exact h1
   ·exact absurd h1 v
  have m : ∀ w, (⟨c.B, w⟩ : kZ) ∈ FS T → Fp c ⟨c.B, w⟩ T T' := fun w hw => q w ((Aw _ _).2 ((B5 h.keys ⟨c.B, w⟩).1 hw))
  refine ⟨T', d, i, e, g, x, fun k => absurd k h1, fun k w a b => ?_, fun k b w j a2 a3 a4 => ?_, fun k w j a2 a3 a4 => ?_⟩
  ·exact (m w (nI _ a b)).1 k rfl
  ·exact (m b (nI _ j a2)).2.1 k rfl w (nI _ a3 a4)
  ·exact (m w (nI _ j a2)).2.2 k (nI _ j a2) (nI _ a3 a4)
structure ES (C : List kE) (us : List (kC × List kE)) (ws : List (ByteArray × List kE)) : Prop where
 OW : ∀ r c, c ∈ (mG lu us r).getD [] ↔ c ∈ C ∧ r ∈ px c
 word : ∀ w c, c ∈ (mG mu ws w).getD [] ↔ c ∈ C ∧ c.Kind = 3 ∧ c.mc = w
 Sc : ∀ r, ((mG lu us r).getD []).length ≤ 2 * C.length
 Sj : ∀ w, ((mG mu ws w).getD []).length ≤ C.length
theorem Iz {C : List kE} (i : rV C) (j : tC C) (cs : List kE) (g : List (kC × List kE)) (ws : List (ByteArray × List kE)) {f : kZ} : ∀ (l : List kE) {T : pW} {a : List kZ} {n : Int}, rA C T a n → f ∈ FS T → (∀ c ∈ l, c ∈ C ∧ f.kC ∈ px c) →
  CN C T a (pT cs g ws f l (mm T) a n) (fun T' => ∀ c ∈ l, Fp c f T T')
 | [], T, a, n, h, _, _ => ⟨T, a, n, rfl, h, AU.refl _ _, fun _ hw => by cases hw⟩
 | c :: l, T, a, n, h, k, hm => by
  rw [pT]
  obtain ⟨T1, u, w, m, g1, x1, s⟩ := Ny i j h cs g ws (hm c (by simp)).1 k (hm c (by simp)).2
  rw [m]
  simp only [aA]
  obtain ⟨T2, d, r, p, g2, x2, t⟩ := Iz i j cs g ws l g1 (x1.nI _ k) (fun c q => hm c (by simp [q]))
  refine ⟨T2, d, r, p, g2, x1.trans x2, fun v b => ?_⟩
  rcases aQ.1 b with rfl | b
  ·exact s.mono (fun _ h => h) x2.nI
  ·exact (t v b).mono x1.nI (fun _ h => h)
theorem EE {C : List kE} (m : rV C) (u : tC C) (cs : List kE) (j : List (kC × List kE)) (ws : List (ByteArray × List kE)) {f : kZ} : ∀ (l : List kE) {T : pW} {g : List kZ} {n : Int}, rA C T g n → f ∈ FS T → (∀ c ∈ l, c ∈ C ∧ c.Kind = 3 ∧ c.mc = f.kC.kJ) →
  CN C T g (oZ f cs j ws l (mm T) g n) (fun T' => ∀ c ∈ l, (⟨c.B, f.kC.kD⟩ : kZ) ∈ FS T → (⟨c.Head, f.lZ⟩ : kZ) ∈ FS T')
 | [], T, g, n, h, _, _ => ⟨T, g, n, rfl, h, AU.refl _ _, fun _ hw => by cases hw⟩
 | c :: l, T, g, n, h, q, hm => by
  rw [oZ]
  have hk := hm c (by simp)
  by_cases i : (⟨c.B, f.kC.kD⟩ : kZ) ∈ FS T
  ·rw [aY ((uj h.keys _ _).2 i)]
   have r : f = ⟨⟨f.kC.kD, c.mc⟩, f.lZ⟩ := by rw [hk.2.2]
   have x : pN C ⟨c.Head, f.lZ⟩ := .FV c f.kC.kD f.lZ hk.1 hk.2.1 (h.xC _ i) (by rw [← r]; exact h.xC f q)
   obtain ⟨T1, A, D, w, g1, x1, z⟩ := Dj m h cs j ws x
   rw [w]
   simp only [aA]
   obtain ⟨T2, d, s, k, g2, x2, t⟩ := EE m u cs j ws l g1 (x1.nI _ q) (fun c p => hm c (by simp [p]))
   refine ⟨T2, d, s, k, g2, x1.trans x2, fun v b a => ?_⟩
   rcases aQ.1 b with rfl | b
   ·exact x2.nI _ z
   ·exact t v b (x1.nI _ a)
  ·rw [bA (fun y => i ((uj h.keys _ _).1 y))]
   obtain ⟨T2, d, s, k, g2, x2, t⟩ := EE m u cs j ws l h q (fun c p => hm c (by simp [p]))
   refine ⟨T2, d, s, k, g2, x2, fun v b a => ?_⟩
   rcases aQ.1 b with rfl | b
   ·exact absurd a i
   ·exact t v b a
theorem IX {C : List kE} (E : rV C) (F : tC C) {cs : List kE} {A : List (kC × List kE)} {ws : List (ByteArray × List kE)} (u : ES C A ws) : ∀ (m : Nat) {T : pW} {l : List kZ} {n : Int}, rA C T l n → (∀ c ∈ C, FT c T l) → C.length * C.length + l.length < m + (FS T).length →
  ∃ T' J, oy cs A ws m (mm T) l n = some (mm T', [], J) ∧ rA C T' [] J ∧ (∀ c ∈ C, FT c T' []) ∧ (∀ f ∈ FS T, f ∈ FS T')
 | 0, T, l, n, h, _, hm => by have := h.len; omega
 | m + 1, T, [], n, h, q, hm => by
  rw [oy]
  exact ⟨T, n, rfl, h, q, fun _ h => h⟩
 | m + 1, T, f :: l, n, h, q, hm => by
  rw [oy]
  rw [aY (by simp)]
  have I : f ∈ FS T := h.sub f (by simp)
  have Q := (eA.1 h.Lp)
  simp only [mQ, Int.le_refl, aM, Int.toNat_zero, iY, aA]
  rw [show rb (decide ((0 : Nat) ≤ 1) && decide ((1 : Int) ≤ ((f :: l).length : Int))) = some () by simp [rb]; omega]
  simp only [aA, show Int.toNat 1 = 1 from rfl, List.drop_one, List.tail_cons]
  have G : rA C T l n := ⟨h.keys, h.nd, Q.2, fun g y => h.sub g (by simp [y]), h.num, h.xC⟩
  obtain ⟨T1, a6, n1, M, g1, x1, Y⟩ := Iz E F cs A ws ((mG lu A f.kC).getD []) G I (fun c i => (u.OW _ c).1 i)
  rw [M]
  simp only [aA]
  obtain ⟨T2, r, n2, O, g2, x2, Z⟩ := EE E F cs A ws ((mG mu ws f.kC.kJ).getD []) g1 (x1.nI _ I) (fun c i => (u.word _ c).1 i)
  rw [O]
  simp only [aA]
  have x := x1.trans x2
  have nI : ∀ g, g ∈ FS T2 → g ∉ r → g ∈ FS T ∧ (g = f ∨ g ∉ f :: l) := fun g y z => by
   rcases x.new g y with h1 | h1
   ·refine ⟨h1, ?_⟩
    by_cases he : g = f
    ·exact .inl he
    ·exact .inr (fun t => by
      rcases aQ.1 t with t | t
      ·exact he t
      ·exact z (x.todo g t))
   ·exact absurd h1 z
  have d1 : ∀ c ∈ C, f.kC ∈ px c → Fp c f T T2 := fun c i R => (Y c ((u.OW _ c).2 ⟨i, R⟩)).mono (fun _ h => h) x2.nI
  have v : ∀ c ∈ C, FT c T2 r := fun c i => by
   have k := q c i
   refine ⟨fun hk => x.nI _ (k.1 hk), fun hk w a b => ?_, fun hk b w D a2 a3 a4 => ?_, fun hk w D a2 a3 a4 => ?_⟩
   ·obtain ⟨p, d⟩ := nI _ a b
    rcases d with d | d
    ·subst d; exact (d1 c i (by simp [px, hk])).1 hk rfl
    ·exact x.nI _ (k.2.1 hk w p d)
   ·obtain ⟨p, d⟩ := nI _ D a2
    obtain ⟨s, j⟩ := nI _ a3 a4
    rcases d with d | d
    ·subst d; exact (d1 c i (by simp [px, hk])).2.1 hk rfl w s
    ·rcases j with j | j
     ·subst j
      exact Z c ((u.word _ c).2 ⟨i, hk, rfl⟩) (x1.nI _ p)
     ·exact x.nI _ (k.2.2.1 hk b w p d s j)
   ·obtain ⟨p, d⟩ := nI _ D a2
    obtain ⟨s, j⟩ := nI _ a3 a4
    rcases d with d | d
    ·subst d; exact (d1 c i (by simp [px, hk])).2.2 hk p s
    ·rcases j with j | j
     ·subst j; exact (d1 c i (by simp [px, hk])).2.2 hk p s
     ·exact x.nI _ (k.2.2.2 hk w p d s j)
  have hlen : r.length + (FS T).length ≤ l.length + (FS T2).length := by
   exact g2.F5 G x
  obtain ⟨T3, U, P, g3, L, W⟩ := IX E F u m g2 v (by simp only [aJ] at hm; omega)
  exact ⟨T3, U, P, g3, L, fun g y => W g (x.nI g y)⟩
end Go.Proofs.YtklbhegeiijbjaaGreat
namespace Go.Proofs.YtklbhegeiijbjaaGreat
open Go.RowKit
theorem LX (c : kE) : ∀ (l : List kE) (i : Nat), ∃ z, qY c l i = some z ∧ (z ≥ 0 ↔ c ∈ l)
 | [], i => ⟨-1, rfl, by simp⟩
 | x :: l, i => by
  rw [qY]
  by_cases h : nc c x = true
  ·rw [aY h]
   exact ⟨_, rfl, by simp [ol.1 h]⟩
  ·rw [bA h]
   obtain ⟨z, e, b⟩ := LX c l (i + 1)
   refine ⟨z, e, ?_⟩
   rw [b, aQ]
   exact ⟨.inr, fun a => a.resolve_left (fun e => h (ol.2 e))⟩
theorem Ke (c : kE) (l : List kE) : ∃ b, wA l c = some b ∧ (b = true ↔ c ∈ l) := by
 obtain ⟨z, e, a⟩ := LX c l 0
 refine ⟨decide (z ≥ 0), ?_, by simpa using a⟩
 unfold wA tk xc
 rw [e]
 rfl
theorem Lw (c : kE) (ws : List (ByteArray × List kE)) (C : List kE) (hw : ∀ w, ((mG mu ws w).getD []).length ≤ 2000000) : ∀ (j : List kC) (a : List (kC × List kE)), (∀ r, ((mG lu a r).getD []).length + j.length ≤ 4000000) →
  ∃ g i, py c ws C j a = some (C, g, i) ∧ (∀ r x, x ∈ (mG lu g r).getD [] ↔ x ∈ (mG lu a r).getD [] ∨ (x = c ∧ r ∈ j)) ∧
   (∀ w x, x ∈ (mG mu i w).getD [] ↔ x ∈ (mG mu ws w).getD [] ∨ (x = c ∧ c.Kind = 3 ∧ w = c.mc)) ∧ (∀ r, ((mG lu g r).getD []).length ≤ ((mG lu a r).getD []).length + j.length) ∧
   (∀ w, ((mG mu i w).getD []).length ≤ ((mG mu ws w).getD []).length + 1)
 | [], a, _ => by
  rw [py]
  by_cases k : c.Kind = 3
  ·rw [aY (by simp [k])]
   have h := hw c.mc
   rw [nU (by simp; omega) (by simp; omega)]
   simp only [aA]
   refine ⟨a, _, rfl, by simp, fun w x => ?_, by simp, fun w => ?_⟩
   ·rw [EV nm]
    by_cases hk : mu w c.mc = true
    ·rw [aY hk, nm.1 hk]; simp [k]
    ·rw [bA hk]
     have : w ≠ c.mc := fun e => hk (nm.2 e)
     simp [this]
   ·rw [EV nm]
    by_cases hk : mu w c.mc = true
    ·rw [aY hk, nm.1 hk]; simp
    ·rw [bA hk]; exact jN _
  ·rw [bA (by simp [k])]
   exact ⟨a, ws, rfl, by simp, by simp [k], by simp, by simp⟩
 | b :: j, a, l => by
  rw [py]
  have h := l b
  simp only [aJ] at h
  rw [nU (by simp; omega) (by simp; omega)]
  simp only [aA]
  have d : ∀ r, (mG lu (pk lu a b (((mG lu a b).getD []) ++ [c])) r).getD [] = if lu r b = true then ((mG lu a b).getD []) ++ [c] else (mG lu a r).getD [] := fun r => by
   rw [EV lx]; by_cases hk : lu r b = true
   ·rw [aY hk, aY hk]; rfl
   ·rw [bA hk, bA hk]
  obtain ⟨g, i, e, m, a2, a3, a4⟩ := Lw c ws C hw j (pk lu a b (((mG lu a b).getD []) ++ [c])) (fun r => by
   rw [d r]
   have n := l r
   simp only [aJ] at n
   by_cases hk : lu r b = true
   ·rw [aY hk]; simp; omega
   ·rw [bA hk]; omega)
  refine ⟨g, i, e, fun r x => ?_, a2, fun r => ?_, a4⟩
  ·rw [m, d]
   by_cases hk : lu r b = true
   ·rw [aY hk, lx.1 hk]
    simp only [aV, aQ, dL, gQ]
    constructor
    ·rintro ((h | h) | h)
     ·exact .inl h
     ·exact .inr ⟨h, .inl trivial⟩
     ·exact .inr ⟨h.1, .inr h.2⟩
    ·rintro (h | h)
     ·exact .inl (.inl h)
     ·exact .inl (.inr h.1)
   ·rw [bA hk]
    have : r ≠ b := fun e => hk (lx.2 e)
    simp [this]
  ·have := a3 r
   rw [d r] at this
   by_cases hk : lu r b = true
   ·rw [aY hk] at this; rw [lx.1 hk] at this ⊢; simp at this ⊢; omega
   ·rw [bA hk] at this; simp; omega
theorem QM {C : List kE} {j : List (kC × List kE)} {ws : List (ByteArray × List kE)} (g : ES C j ws) (q : C.length + 1 ≤ 1000000) {c : kE} (l : mR c = true) (i : List (kC × List (ByteArray × Bool))) (p : List kZ) (n : Int) :
  ∃ a b, ur i C j ws p n c = some (C ++ [c], a, b) ∧ ES (C ++ [c]) a b := by
 unfold ur
 rw [nU (by simp; omega) (by simp; omega)]
 simp only [aA, Rt l]
 rw [show rb (decide ((0 : Nat) ≤ 1) && decide ((1 : Int) ≤ ((c.Head :: px c).length : Int))) = some () by simp [rb]; omega]
 simp only [aA, show Int.toNat 1 = 1 from rfl, List.drop_one, List.tail_cons]
 have m : (px c).length ≤ 2 := by unfold px; split; simp; split <;> simp
 obtain ⟨a, b, e, k, a2, a3, a4⟩ := Lw c ws (C ++ [c]) (fun w => by have := g.Sj w; omega) (px c) j (fun r => by have := g.Sc r; omega)
 refine ⟨a, b, e, fun r x => ?_, fun w x => ?_, fun r => ?_, fun w => ?_⟩
 ·rw [k, g.OW, aV, cM]
  constructor
  ·rintro (h | h)
   ·exact ⟨.inl h.1, h.2⟩
   ·exact ⟨.inr h.1, by rw [h.1]; exact h.2⟩
  ·rintro ⟨h | h, d⟩
   ·exact .inl ⟨h, d⟩
   ·exact .inr ⟨h, by rw [← h]; exact d⟩
 ·rw [a2, g.word, aV, cM]
  constructor
  ·rintro (h | h)
   ·exact ⟨.inl h.1, h.2⟩
   ·exact ⟨.inr h.1, by rw [h.1]; exact ⟨h.2.1, h.2.2.symm⟩⟩
  ·rintro ⟨h | h, d⟩
   ·exact .inl ⟨h, d⟩
   ·subst h; exact .inr ⟨rfl, d.1, d.2.symm⟩
 ·have := a3 r; have := g.Sc r; simp; omega
 ·have := a4 w; have := g.Sj w; simp; omega
structure MS (C : List kE) (T : pW) (us : List (kC × List kE)) (ws : List (ByteArray × List kE)) (n : Int) : Prop where
 Ez : rA C T [] n
 cl : ∀ c ∈ C, FT c T []
 TQ : ES C us ws
 right : tC C
theorem MS.all {C : List kE} {T : pW} {j : List (kC × List kE)} {ws : List (ByteArray × List kE)} {n : Int} (h : MS C T j ws n) (f : kZ) : f ∈ FS T ↔ pN C f := by
 refine ⟨h.Ez.xC f, fun i => ?_⟩
 induction i with
 | mem c a hk => exact (h.cl c a).1 hk
 | inc c w a hk _ ih => exact (h.cl c a).2.1 hk w ih (by simp)
 | FV c b w a hk _ _ d g => exact (h.cl c a).2.2.1 hk b w d (by simp) g (by simp)
 | both c w a hk _ _ d g => exact (h.cl c a).2.2.2 hk w d (by simp) g (by simp)
theorem JZ (q : Int) (y : 0 ≤ q ∧ q ≤ 1000000000000) : ∀ (l : List kE) {C : List kE} {T : pW} {p : List kZ} {z : List (kC × List kE)} {ws : List (ByteArray × List kE)} {n : Int}, rA C T p n → (∀ c ∈ C, FT c T p) → ES C z ws → tC C → C.length + l.length ≤ 1000000 →
  ∃ C' T' a d j, oX q l (mm T) C z ws p n = some (j - q, mm T', C', a, d, [], j) ∧ MS C' T' a d j ∧ (∀ c, c ∈ C' ↔ c ∈ C ∨ (c ∈ l ∧ mR c = true)) ∧ C'.length ≤ C.length + l.length ∧ (∀ f ∈ FS T, f ∈ FS T')
 | [], C, T, p, z, ws, n, g, i, t, r, J => by
  rw [oX]
  have R : rV C := by unfold rV; simp at J; omega
  have a6 := R.sq
  have hlen := g.len
  have a7 := g.Sx
  obtain ⟨T', j, e, E, W, o⟩ := IX R r t (cs := C) lB g i (by rw [yd]; omega)
  unfold vB
  rw [e]
  simp only [aA]
  have L := E.len
  have U := E.num
  rw [me (by omega) (by omega)]
  exact ⟨C, T', z, ws, j, rfl, ⟨E, W, t, r⟩, by simp, by simp, o⟩
 | x :: l, C, T, p, z, ws, n, g, i, t, r, J => by
  rw [oX, xl]
  simp only [aJ] at J
  obtain ⟨b, hb, u⟩ := Ke x C
  simp only [aA, hb, D9]
  by_cases k : mR x = true ∧ x ∉ C
  ·have G : b = false := by cases b with | false => rfl | true => exact absurd (u.1 rfl) k.2
   rw [k.1, G]
   simp only [dA, jZ, aM]
   obtain ⟨P, Q, Y, U1⟩ := QM t (by omega) k.1 (mm T) p n
   rw [Y]
   simp only [aA]
   have F : rV (C ++ [x]) := by unfold rV; simp; omega
   have s : tC (C ++ [x]) := fun c v => by
    rcases aV.1 v with h | h
    ·exact r c h
    ·simp at h; subst h; exact k.1
   have g1 : rA (C ++ [x]) T p n := g.mono (fun c v => cO _ v)
   obtain ⟨T2, O, n2, Z, g2, x2, c2⟩ := PN F s g1 (C ++ [x]) P Q (c := x) (by simp)
   rw [Z]
   simp only [aA]
   have w : ∀ c ∈ C ++ [x], FT c T2 O := fun c v => by
    rcases aV.1 v with h | h
    ·exact (i c h).ext x2
    ·simp at h; subst h; exact c2
   obtain ⟨C', T', a, d, j, e, m, D, a2, a3⟩ := JZ q y l g2 w U1 s (by simp; omega)
   refine ⟨C', T', a, d, j, e, m, fun c => ?_, by simp at a2 ⊢; omega, fun f I => a3 f (x2.nI f I)⟩
   rw [D]
   simp only [aV, aQ, dL, gQ]
   constructor
   ·rintro ((h | h) | h)
    ·exact .inl h
    ·subst h; exact .inr ⟨.inl rfl, k.1⟩
    ·exact .inr ⟨.inr h.1, h.2⟩
   ·rintro (h | ⟨h | h, A⟩)
    ·exact .inl (.inl h)
    ·exact .inl (.inr h)
    ·exact .inr ⟨h, A⟩
  ·have I : (mR x && !b) = false := by
    cases hr : mR x with
    | false => rfl
    | true =>
     have : x ∈ C := fZ fun M => k ⟨hr, M⟩
     rw [u.2 this]; rfl
   rw [I]
   simp only [aB, aG]
   obtain ⟨C', T', a, d, j, e, m, D, a2, a3⟩ := JZ q y l g i t r (by omega)
   refine ⟨C', T', a, d, j, e, m, fun c => ?_, by simp; omega, a3⟩
   rw [D, aQ]
   constructor
   ·rintro (h | h)
    ·exact .inl h
    ·exact .inr ⟨.inr h.1, h.2⟩
   ·rintro (h | ⟨h | h, A⟩)
    ·exact .inl h
    ·subst h
     exact .inl (fZ fun M => k ⟨A, M⟩)
    ·exact .inr ⟨h, A⟩
theorem Rk {C : List kE} {T : pW} {g : List (kC × List kE)} {ws : List (ByteArray × List kE)} {n : Int} (h : MS C T g ws n) (l : List kE) (j : C.length + l.length ≤ 1000000) :
  ∃ C' T' a b d, uW (mm T) C g ws [] n l = some (d - n, mm T', C', a, b, [], d) ∧ MS C' T' a b d ∧ (∀ c, c ∈ C' ↔ c ∈ C ∨ (c ∈ l ∧ mR c = true)) ∧ C'.length ≤ C.length + l.length ∧ (∀ f ∈ FS T, f ∈ FS T') := by
 have i : rV C := by unfold rV; omega
 have h1 := h.Ez.len
 have k := i.sq
 have m := h.Ez.num
 exact JZ n ⟨by omega, by omega⟩ l h.Ez h.cl h.TQ h.right j
theorem ES.zero : ES [] [] [] := ⟨fun r c => by simp [mG], fun w c => by simp [mG], fun r => by simp [mG], fun w => by simp [mG]⟩
theorem rA.zero : rA [] [] [] 0 := ⟨by simp, by simp [FS], by simp, by simp, by simp [FS], by simp [FS]⟩
theorem MS.zero : MS [] [] [] [] 0 := ⟨rA.zero, fun c a => (by cases a), ES.zero, fun c a => (by cases a)⟩
theorem MG (l : List kE) (h : l.length ≤ 1000000) : ∃ C T d ws n, xQ l = some (mm T, C, d, ws, [], n) ∧ MS C T d ws n ∧ (∀ c, c ∈ C ↔ c ∈ l ∧ mR c = true) ∧ C.length ≤ l.length := by
 unfold xQ
 obtain ⟨C', T', a, b, i, e, m, g, a2, a3⟩ := Rk MS.zero l (by simpa using h)
 rw [show uW [] [] [] [] [] 0 l = _ from e]
 exact ⟨C', T', a, b, i, rfl, m, by simpa using g, by simpa using a2⟩
theorem pN.congr {C C' : List kE} (h : ∀ c, c ∈ C ↔ c ∈ C') (f : kZ) : pN C f ↔ pN C' f := ⟨fun d => d.mono (fun c a => (h c).1 a), fun d => d.mono (fun c a => (h c).2 a)⟩
end Go.Proofs.YtklbhegeiijbjaaGreat
namespace Go.Proofs.YtklbhegeiijbjaaGreat
open Go.RowKit
def zZ (a b : kZ) : Bool := Cv a.kC b.kC || (lu a.kC b.kC && rj a.lZ b.lZ)
theorem Bv {a b : kZ} : zZ a b = true ↔ Cv a.kC b.kC = true ∨ (a.kC = b.kC ∧ rj a.lZ b.lZ = true) := by simp [zZ, lx]
def D4 (_ : kZ) : Bool := true
theorem Hv : Bh (fun a b => zZ a b = true) (fun x => D4 x = true) := by
 have H := SQ (fun _ => True)
 refine ⟨fun x _ => ?_, fun x y z _ _ _ h1 d => ?_, fun x y _ _ => ?_⟩
 ·rw [Bv]
  rintro (h | ⟨_, h⟩)
  ·exact H.irrefl _ trivial h
  ·rw [uk] at h; cases h
 ·rw [Bv] at *
  rcases h1 with h1 | ⟨i, h1⟩
  ·rcases d with d | ⟨g, d⟩
   ·exact .inl (H.trans _ _ _ trivial trivial trivial h1 d)
   ·exact .inl (by rw [← g]; exact h1)
  ·rcases d with d | ⟨g, d⟩
   ·exact .inl (by rw [i]; exact d)
   ·exact .inr ⟨i.trans g, AY h1 d⟩
 ·simp only [Bv]
  rcases H.total x.kC y.kC trivial trivial with h | h | h
  ·exact .inl (.inl h)
  ·rcases AP x.lZ y.lZ with d | d | d
   ·exact .inl (.inr ⟨h, d⟩)
   ·refine .inr (.inl ?_)
    cases x; cases y; simp at h d; simp [h, d]
   ·exact .inr (.inr (.inr ⟨h.symm, d⟩))
  ·exact .inr (.inr (.inl h))
theorem Hx (a b : ByteArray) : qi a b = 0 ↔ a = b := by unfold qi; rw [GF]; exact ⟨AL, fun h => by rw [h]⟩
theorem SH (a b : ByteArray) : qi a b < 0 ↔ rj a b = true := by rw [zg]; exact Dn _ _
theorem Oy (a b : kC) : ∃ c, sW a b = some c ∧ (c < 0 ↔ Cv a b = true) ∧ (c = 0 ↔ a = b) := by
 obtain ⟨c, e, h⟩ := Bm a b
 refine ⟨c, e, h, ?_⟩
 unfold sW at e
 simp only [qC, oK, aA, vM, tJ, pV] at e
 by_cases d : qi a.kD b.kD = 0
 ·rw [bA (by simp [d])] at e
  have h1 := (Hx _ _).1 d
  by_cases g : qi a.kJ b.kJ = 0
  ·rw [bA (by simp [g])] at e
   have i := (Hx _ _).1 g
   cases e
   refine ⟨fun _ => ?_, fun _ => rfl⟩
   cases a; cases b; simp at h1 i; simp [h1, i]
  ·rw [aY (by simp [g])] at e
   cases e
   exact ⟨fun k => absurd k g, fun k => by rw [k] at g; exact absurd ((Hx _ _).2 rfl) g⟩
 ·rw [aY (by simp [d])] at e
  cases e
  exact ⟨fun k => absurd k d, fun k => by rw [k] at d; exact absurd ((Hx _ _).2 rfl) d⟩
theorem OV (a b : kZ) : ∃ c, rf a b = some c ∧ (c < 0 ↔ zZ a b = true) := by
 unfold rf
 obtain ⟨c, e, h1, i⟩ := Oy a.kC b.kC
 rw [e]
 simp only [qC, oK, aA, vM, tJ, pV]
 by_cases g : c = 0
 ·rw [bA (by simp [g])]
  have l := i.1 g
  have d : ¬ Cv a.kC b.kC = true := fun j => by have := h1.2 j; omega
  by_cases h : qi a.lZ b.lZ = 0
  ·rw [bA (by simp [h])]
   refine ⟨0, rfl, ?_⟩
   rw [Bv]
   simp [d, (Hx _ _).1 h, uk]
  ·rw [aY (by simp [h])]
   refine ⟨_, rfl, ?_⟩
   rw [Bv, SH]
   exact ⟨fun k => .inr ⟨l, k⟩, fun k => k.elim (fun k => absurd k d) (·.2)⟩
 ·rw [aY (by simp [g])]
  refine ⟨c, rfl, ?_⟩
  rw [Bv, h1]
  have : a.kC ≠ b.kC := fun k => g (i.2 k)
  simp [this]
theorem Mb {α : Type} {eq : α → α → Bool} (he : ∀ x y, eq x y = true ↔ x = y) : ∀ (l : List α) (p : α), (p :: l).Nodup → oa eq p l = l
 | [], p, _ => rfl
 | y :: l, p, h => by
  have h1 := eA.1 h
  rw [oa, bA (fun e => h1.1 (by rw [← (he _ _).1 e]; simp)), Mb he l y h1.2]
theorem Tg {α : Type} {eq : α → α → Bool} (he : ∀ x y, eq x y = true ↔ x = y) : ∀ l : List α, l.Nodup → dd eq l = l
 | [], _ => rfl
 | x :: l, h => by rw [dd, Mb he l x h]
def BF (P : kZ → Prop) (s : List kZ) : Prop := s.Pairwise (fun a b => zZ a b = true) ∧ ∀ f, f ∈ s ↔ P f
theorem BF.unique {P : kZ → Prop} {s t : List kZ} (h : BF P s) (k : BF P t) : s = t :=
 xn.unique (l := s) Hv ⟨h.1, fun x => ⟨fun a => ⟨a, rfl⟩, fun a => a.1⟩⟩ ⟨k.1, fun x => by rw [k.2, h.2]; exact ⟨fun a => ⟨a, rfl⟩, fun a => a.1⟩⟩
theorem G4 {l : List kZ} (g : l.Nodup) (k : l.length ≤ 1000000000000) : ∃ s, AF (fun (x : kZ × kZ) => rf x.1 x.2) l = some s ∧ BF (fun f => f ∈ l) s := by
 obtain ⟨s, h1, j, d⟩ := F9 (eq := Bz) (lt := fun a b => zZ a b = true) (P := fun x => D4 x = true) (cf := fun (x : kZ × kZ) => rf x.1 x.2) (l := l) (fun x y => wR) Hv (fun _ _ => rfl) (by omega) (fun x y _ _ => OV x y)
 have i : s.Nodup := by
  have := (HF h1).2
  rw [this]
  unfold uF
  exact (jD l _).nodup_iff.2 g
 rw [Tg (fun x y => wR) s i] at d
 exact ⟨s, h1, d.1, fun f => by rw [d.2]; exact ⟨fun h => h.1, fun h => ⟨h, rfl⟩⟩⟩
theorem Rj (T : pW) : (mm T).flatMap (fun p => p.2.map (fun q => (fun (a : kC) (b : ByteArray) => (⟨a, b⟩ : kZ)) p.1 q.1)) = FS T := by
 unfold mm FS tt
 rw [List.flatMap_map]
 congr 1
 funext p
 simp [gW]
theorem PA {C : List kE} (j : rV C) {T : pW} {m : List (kC × List kE)} {ws : List (ByteArray × List kE)} {n : Int} (h : MS C T m ws n) (cs : List kE) (u : List (kC × List kE)) (w : List (ByteArray × List kE)) (l : List kZ) (z : Int) :
  ∃ s, xb (mm T) cs u w l z = some s ∧ BF (pN C) s := by
 have k := j.sq
 have hlen := h.Ez.len
 obtain ⟨s, p, i⟩ := G4 h.Ez.nd (by omega)
 have g : BF (pN C) s := ⟨i.1, fun f => (i.2 f).trans (h.all f)⟩
 refine ⟨s, ?_, g⟩
 unfold xb Oh
 rw [Rj]
 rw [aY ⟨by omega, by unfold maxLen; omega⟩]
 simp only [aA, pV]
 refine GM (fun o b => ?_)
 obtain ⟨q, d, a⟩ := G4 ((b.nodup_iff).2 h.Ez.nd) (by rw [b.length_eq]; omega)
 rw [d]
 congr 1
 exact BF.unique ⟨a.1, fun f => (a.2 f).trans (b.mem_iff.trans (h.all f))⟩ g
theorem PO (r : kC) (w : ByteArray) : ∀ l : List kZ, ∃ b, wB r w l = some b ∧ (b = true ↔ (⟨r, w⟩ : kZ) ∈ l)
 | [] => ⟨false, rfl, by simp⟩
 | x :: l => by
  rw [wB]
  simp only [D9, aA]
  obtain ⟨b, e, g⟩ := PO r w l
  by_cases h : (lu x.kC r && mu x.lZ w) = true
  ·rw [aY h]
   have a : x = ⟨r, w⟩ := by
    rw [bH, lx, nm] at h
    cases x; simp at h; simp [h]
   exact ⟨true, rfl, by simp [a]⟩
  ·rw [bA h]
   refine ⟨b, e, ?_⟩
   rw [g, aQ]
   refine ⟨.inr, fun d => d.resolve_left (fun e => h ?_)⟩
   rw [← e]; simp [xH, wh]
theorem Ac (l : List kZ) (r : kC) (w : ByteArray) : ∃ b, vt l r w = some b ∧ (b = true ↔ (⟨r, w⟩ : kZ) ∈ l) := PO r w l
def xR (l : List kZ) (c : kE) (names : List ByteArray) (w : ByteArray) : Prop :=
 (c.Kind = 1 ∧ c.lZ = w) ∨ (c.Kind = 2 ∧ (⟨c.B, w⟩ : kZ) ∈ l) ∨ (c.Kind = 4 ∧ (⟨c.B, w⟩ : kZ) ∈ l ∧ (⟨c.C, w⟩ : kZ) ∈ l) ∨
 (c.Kind ≠ 1 ∧ c.Kind ≠ 2 ∧ c.Kind ≠ 4 ∧ ∃ b ∈ names, (⟨c.B, b⟩ : kZ) ∈ l ∧ (⟨⟨b, c.mc⟩, w⟩ : kZ) ∈ l)
theorem GO (l : List kZ) (c : kE) (w : ByteArray) : ∀ names : List ByteArray, ∃ b, vp l c w names = some b ∧ (b = true ↔ ∃ b ∈ names, (⟨c.B, b⟩ : kZ) ∈ l ∧ (⟨⟨b, c.mc⟩, w⟩ : kZ) ∈ l)
 | [] => ⟨false, rfl, by simp⟩
 | x :: names => by
  rw [vp]
  obtain ⟨g, j, h1⟩ := Ac l c.B x
  obtain ⟨i, k, d⟩ := Ac l ⟨x, c.mc⟩ w
  obtain ⟨b, e, m⟩ := GO l c w names
  rw [j, k, e]
  simp only [aA, D9]
  by_cases h : (g && i) = true
  ·rw [aY h]
   rw [bH, h1, d] at h
   exact ⟨true, rfl, by simp [h]⟩
  ·rw [bA h]
   rw [bH, h1, d] at h
   refine ⟨b, rfl, ?_⟩
   rw [m]
   constructor
   ·rintro ⟨y, a, q⟩; exact ⟨y, by simp [a], q⟩
   ·rintro ⟨y, a, q⟩
    rcases aQ.1 a with rfl | a
    ·exact absurd q h
    ·exact ⟨y, a, q⟩
theorem QA (l : List kZ) (c : kE) (names : List ByteArray) (w : ByteArray) : ∃ b, zM l c names w = some b ∧ (b = true ↔ xR l c names w) := by
 unfold zM xR
 simp only [pV]
 by_cases h1 : c.Kind = 1
 ·rw [aY (by simp [h1])]; exact ⟨_, rfl, by simp [h1, nm]⟩
 rw [bA (by simp [h1])]
 by_cases a : c.Kind = 2
 ·rw [aY (by simp [a])]
  obtain ⟨b, e, g⟩ := Ac l c.B w
  exact ⟨b, e, by simp [a, g]⟩
 rw [bA (by simp [a])]
 by_cases d : c.Kind = 4
 ·rw [aY (by simp [d])]
  obtain ⟨m, j, h⟩ := Ac l c.B w
  obtain ⟨n, k, i⟩ := Ac l c.C w
  rw [j, k]
  simp only [aA, D9]
  exact ⟨_, rfl, by simp [d, h, i]⟩
 rw [bA (by simp [d])]
 obtain ⟨b, e, g⟩ := GO l c w names
 exact ⟨b, e, by rw [g]; simp [h1, a, d]⟩
theorem xR.xC {C : List kE} {l : List kZ} (a : ∀ f ∈ l, pN C f) {c : kE} (d : c ∈ C) (hk : c.Kind = 1 ∨ c.Kind = 2 ∨ c.Kind = 3 ∨ c.Kind = 4) {names : List ByteArray} {w : ByteArray} (h : xR l c names w) : pN C ⟨c.Head, w⟩ := by
 rcases h with ⟨k, rfl⟩ | ⟨k, h⟩ | ⟨k, h1, g⟩ | ⟨i, j, m, b, _, h1, g⟩
 ·exact .mem c d k
 ·exact .inc c w d k (a _ h)
 ·exact .both c w d k (a _ h1) (a _ g)
 ·exact .FV c b w d (by omega) (a _ h1) (a _ g)
theorem M7 {c : kE} (h : mR c = true) : c.Kind = 1 ∨ c.Kind = 2 ∨ c.Kind = 3 ∨ c.Kind = 4 := by rcases pD h with h | h | h | h <;> simp [h.1]
structure EO (C : List kE) (out : List kZ) : Prop where
 nd : out.Nodup
 xC : ∀ f ∈ out, pN C f
theorem EO.len {C : List kE} {out : List kZ} (h : EO C out) : out.length ≤ C.length * C.length := by
 rw [← DY]; exact nk h.nd (fun f a => (h.xC f a).F7)
theorem GA {C : List kE} (s : rV C) (t : tC C) {c : kE} (m : c ∈ C) (names : List ByteArray) : ∀ (l : List ByteArray) (out : List kZ) (i : Bool), EO C out →
  ∃ g d, vk c names l out i = some (g, d) ∧ EO C g ∧ (d = true → i = true ∨ out.length < g.length) ∧ (d = false → i = false ∧ g = out ∧ ∀ w ∈ l, xR out c names w → (⟨c.Head, w⟩ : kZ) ∈ out) ∧ out.length ≤ g.length
 | [], out, i, h => ⟨out, i, rfl, h, .inl, fun h => ⟨h, rfl, fun _ hw => by cases hw⟩, aZ _⟩
 | w :: l, out, i, h => by
  rw [vk]
  obtain ⟨y, E, h1⟩ := Ac out c.Head w
  obtain ⟨D, F, z⟩ := QA out c names w
  rw [E, F]
  simp only [aA, D9]
  by_cases j : (!y && D) = true
  ·rw [aY j]
   rw [bH] at j
   have u : (⟨c.Head, w⟩ : kZ) ∉ out := fun I => by have := h1.2 I; rw [this] at j; exact absurd j.1 (by decide)
   have L := h.len
   have J := s.sq
   rw [nU (by simp; omega) (by simp; omega)]
   simp only [aA]
   have G : EO C (out ++ [⟨c.Head, w⟩]) := ⟨cF.2 ⟨h.nd, by simp, fun a ha b j e => by simp at j; subst j; subst e; exact u ha⟩, fun f k => by
    rcases aV.1 k with k | k
    ·exact h.xC f k
    ·simp at k; subst k; exact (z.1 j.2).xC h.xC m (M7 (t c m))⟩
   obtain ⟨g, d, e, n, a2, a3, a4⟩ := GA s t m names l _ true G
   simp at a4
   exact ⟨g, d, e, n, fun _ => .inr (by omega), fun k => (by cases (a3 k).1), by omega⟩
  ·rw [bA j]
   obtain ⟨g, d, e, n, a2, a3, a4⟩ := GA s t m names l out i h
   refine ⟨g, d, e, n, a2, fun k => ?_, a4⟩
   obtain ⟨p, q, r⟩ := a3 k
   refine ⟨p, q, fun v x A => ?_⟩
   rcases aQ.1 x with rfl | x
   ·refine fZ fun u => j ?_
    rw [bH, z.2 A]
    cases y with
    | false => exact ⟨rfl, rfl⟩
    | true => exact absurd (h1.1 rfl) u
   ·exact r v x A
theorem JN {C : List kE} (m : rV C) (n : tC C) (names : List ByteArray) : ∀ (l : List kE) (out : List kZ) (a : Bool), (∀ c ∈ l, c ∈ C) → EO C out →
  ∃ b g, wO names l out a = some (b, g) ∧ EO C b ∧ (g = true → a = true ∨ out.length < b.length) ∧ (g = false → a = false ∧ b = out ∧ ∀ c ∈ l, ∀ w ∈ names, xR out c names w → (⟨c.Head, w⟩ : kZ) ∈ out) ∧ out.length ≤ b.length
 | [], out, a, _, h => ⟨out, a, rfl, h, .inl, fun h => ⟨h, rfl, fun _ hw => by cases hw⟩, aZ _⟩
 | c :: l, out, a, p, h => by
  rw [wO]
  obtain ⟨x, c1, u, q, a2, a3, a4⟩ := GA m n (p c (by simp)) names names out a h
  rw [u]
  simp only [aA]
  obtain ⟨y, c2, v, r, s, t, I⟩ := JN m n names l x c1 (fun d i => p d (by simp [i])) q
  refine ⟨y, c2, v, r, fun j => ?_, fun j => ?_, by omega⟩
  ·rcases s j with h1 | h1
   ·rcases a2 h1 with k | k
    ·exact .inl k
    ·exact .inr (by omega)
   ·exact .inr (by omega)
  ·obtain ⟨z, A, D⟩ := t j
   obtain ⟨E, F, G⟩ := a3 z
   subst F
   refine ⟨E, A, fun d i => ?_⟩
   rcases aQ.1 i with rfl | i
   ·exact G
   ·exact D d i
end Go.Proofs.YtklbhegeiijbjaaGreat
namespace Go.Proofs.YtklbhegeiijbjaaGreat
open Go.RowKit
def zF : kZ := ⟨⟨zS, zS⟩, zS⟩
theorem JL (a b : kZ) : uG a b = some (zZ a b) := by
 unfold uG zZ
 simp only [Cf, aA, D9, R0]
def RA (a : List kZ) (b : Int) (p : Bool × kZ) : Prop := (p.1 = false ∧ b = -1) ∨ (p.1 = true ∧ 0 ≤ b ∧ mQ a b = some p.2)
theorem Cg (out a : List kZ) (i : out.length < 4611686018427387904) : ∀ (rest A : List kZ) (b : Int) (p : Bool × kZ), a = A ++ rest → RA a b p →
  ∃ d, pO out a rest A.length b = some d ∧ RA a d (su D4 zZ out.getLast? rest p.1 p.2)
 | [], A, b, p, ha, j => ⟨b, rfl, j⟩
 | x :: rest, A, b, p, ha, j => by
  rw [pO, su]
  simp only [D4, eO]
  have h1 : ((if ((out.length : Int) == 0) = true then some true else (mQ out (IntKind.i64.wrap ((out.length : Int) - 1))).bind fun y => (uG y x).bind fun r => some r) : Option Bool) = some (out.getLast?.all fun y => zZ y x) := by
   rcases dG out with h | ⟨B, z, h⟩
   ·subst h; rfl
   ·subst h
    rw [bA (by simp; omega)]
    rw [eF] at i ⊢
    rw [GB B z (by simp at i; omega)]
    simp [JL]
  have n : ((if decide (b < 0) = true then some true else (mQ a b).bind fun y => (uG x y).bind fun r => some r) : Option Bool) = some (!p.1 || zZ x p.2) := by
   rcases j with ⟨k, l⟩ | ⟨k, l, m⟩
   ·rw [aY (by simp [l]), k]; rfl
   ·rw [bA (by simpa using l), m, k]
    simp [JL]
  rw [h1]
  simp only [aA]
  rw [n]
  simp only [aA, D9]
  have q : mQ a (A.length : Int) = some x := by rw [ha]; exact nR A x rest _ rfl
  by_cases g : ((out.getLast?.all fun y => zZ y x) && (!p.1 || zZ x p.2)) = true
  ·rw [aY g, aY g]
   have := Cg out a i rest (A ++ [x]) (A.length : Int) (true, x) (by rw [ha]; simp) (.inr ⟨rfl, by simp, q⟩)
   simpa using this
  ·rw [bA g, bA g]
   have := Cg out a i rest (A ++ [x]) b p (by rw [ha]; simp) j
   simpa using this
theorem FZ {out a : List kZ} (g : out.length < 4611686018427387904) (h : (su D4 zZ out.getLast? a false zF).1 = false) : ∀ F5 : List kZ, pL a F5 out = some out
 | [] => rfl
 | x :: F5 => by
  rw [pL]
  obtain ⟨b, e, j⟩ := Cg out a g a [] (-1) (false, zF) rfl (.inl ⟨rfl, rfl⟩)
  rw [show pO out a a 0 (-1) = some b from e]
  simp only [aA]
  rcases j with ⟨_, i⟩ | ⟨d, _⟩
  ·rw [bA (by simp [i])]; exact FZ g h F5
  ·rw [h] at d; cases d
theorem IF (a : List kZ) : ∀ (F5 : List kZ) (out s : List kZ), A0 48 D4 zZ zF a (F5.length + 1) out = some s → s.length < 4611686018427387904 → pL a F5 out = some s ∧ out.length ≤ s.length
 | [], out, s, h, j => by
  rw [A0] at h
  cases hp : (su D4 zZ out.getLast? a false zF).1 with
  | false =>
   rw [hp] at h
   simp only [dA, aM] at h
   cases h
   exact ⟨rfl, aZ _⟩
  | true =>
   rw [hp] at h
   simp only [cA, aB, aG] at h
   obtain ⟨o, d, h⟩ := bind_some h
   replace h : A0 48 D4 zZ zF a 0 o = some s := h
   rw [A0] at h
   cases h
 | x :: F5, out, s, h, j => by
  rw [A0] at h
  cases hp : (su D4 zZ out.getLast? a false zF).1 with
  | false =>
   rw [hp] at h
   simp only [dA, aM] at h
   cases h
   exact ⟨FZ j hp _, aZ _⟩
  | true =>
   rw [hp] at h
   simp only [cA, aB, aG] at h
   obtain ⟨o, d, h⟩ := bind_some h
   have i := d
   unfold nJ at d
   split at d
   case isFalse => cases d
   cases d
   obtain ⟨n, p⟩ := IF a F5 _ s h j
   simp at p
   rw [pL]
   obtain ⟨b, e, m⟩ := Cg out a (by omega) a [] (-1) (false, zF) rfl (.inl ⟨rfl, rfl⟩)
   rw [show pO out a a 0 (-1) = some b from e]
   simp only [aA]
   rcases m with ⟨g, _⟩ | ⟨g, k, l⟩
   ·rw [hp] at g; cases g
   ·rw [aY (by simpa using k), l]
    simp only [aA]
    rw [i]
    exact ⟨n, by omega⟩
theorem Ot (l : List kZ) (d : l.length ≤ 1000000000) : ∃ s, Am l = some s ∧ BF (fun f => f ∈ l) s := by
 obtain ⟨s, h1, a⟩ := Cq Hv (w := 48) (by omega) zF l d (l.length + 1) [] (by simp) (by simp) (fun x b => by cases b) (fun x _ _ => .inr rfl)
 have hlen : s.length ≤ l.length := nk (vG Hv (fun _ _ => rfl) a.1) (fun x b => ((a.2 x).1 b).1)
 exact ⟨s, (IF l l [] s h1 (by omega)).1, a.1, fun f => by rw [a.2]; exact ⟨fun h => h.1, fun h => ⟨h, rfl⟩⟩⟩
theorem KE : ∀ (l : List kE) (acc : List ByteArray), acc.length + 4 * l.length ≤ 1000000000 → te l acc = Au (acc ++ l.flatMap fun c => [c.lZ, c.Head.kD, c.B.kD, c.C.kD])
 | [], acc, _ => by rw [te]; simp [pV]
 | c :: l, acc, h => by
  rw [te]
  simp only [aJ] at h
  rw [nU (by simp; omega) (by simp; omega)]
  simp only [aA]
  rw [KE l _ (by simp; omega)]
  simp
def SM (C : List kE) : Prop := C.length ≤ 30000
theorem SM.small {C : List kE} (h : SM C) : rV C := by unfold SM at h; unfold rV; omega
theorem SM.sq {C : List kE} (h : SM C) : C.length * C.length ≤ 900000000 := Nat.mul_le_mul h h
theorem OS {C : List kE} (b : SM C) (g : tC C) : ∃ names, yJ C = some names ∧ ∀ c ∈ C, c.Kind = 1 → c.lZ ∈ names := by
 have d : C.length ≤ 30000 := b
 unfold yJ
 rw [KE C [] (by simp; omega)]
 obtain ⟨s, e, i⟩ := Qw ([] ++ C.flatMap fun c => [c.lZ, c.Head.kD, c.B.kD, c.C.kD]) (by
  have : ∀ l : List kE, (l.flatMap fun c => [c.lZ, c.Head.kD, c.B.kD, c.C.kD]).length = 4 * l.length := fun l => by
   induction l with
   | nil => rfl
   | cons x l ih => simp [ih]; omega
  rw [bI, this]; omega)
 refine ⟨s, e, fun c a hk => (i.2 _).2 ⟨?_, ?_⟩⟩
 ·rw [bI]; exact kf.2 ⟨c, a, by simp⟩
 ·rcases pD (g c a) with h | h | h | h
  ·exact h.2.1
  ·exact absurd (hk.symm.trans h.1) (by decide)
  ·exact absurd (hk.symm.trans h.1) (by decide)
  ·exact absurd (hk.symm.trans h.1) (by decide)
theorem Ms {C : List kE} (n : tC C) {names : List ByteArray} (l : ∀ c ∈ C, c.Kind = 1 → c.lZ ∈ names) {out : List kZ} (h : ∀ c ∈ C, ∀ w ∈ names, xR out c names w → (⟨c.Head, w⟩ : kZ) ∈ out) {f : kZ} (k : pN C f) : f ∈ out := by
 have hw : ∀ f, pN C f → f.lZ ∈ names := fun f k => by
  obtain ⟨c, a, hk, e⟩ := k.Ll
  rw [← e]; exact l c a hk
 induction k with
 | mem c a hk => exact h c a _ (l c a hk) (.inl ⟨hk, rfl⟩)
 | inc c w a hk m ih => exact h c a w (hw _ m) (.inr (.inl ⟨hk, ih⟩))
 | FV c b w a hk d j g i => exact h c a w (hw _ j) (.inr (.inr (.inr ⟨by omega, by omega, by omega, b, hw _ d, g, i⟩)))
 | both c w a hk d j g i => exact h c a w (hw _ d) (.inr (.inr (.inl ⟨hk, g, i⟩)))
theorem Kf {C : List kE} (a : SM C) (b : tC C) {names : List ByteArray} (g : ∀ c ∈ C, c.Kind = 1 → c.lZ ∈ names) : ∀ (m : Nat) (out : List kZ), EO C out → C.length * C.length < m + out.length →
  ∃ s, vg names C m out = some s ∧ BF (pN C) s
 | 0, out, h, hm => by have := h.len; omega
 | m + 1, out, h, hm => by
  rw [vg]
  obtain ⟨o, c, e, i, a2, a3, a4⟩ := JN a.small b names C out false (fun _ h => h) h
  rw [e]
  simp only [aA, pV]
  cases c with
  | false =>
   simp only [dA, aM]
   obtain ⟨_, j, k⟩ := a3 rfl
   subst j
   have p := h.len
   have n := a.sq
   obtain ⟨s, l, d⟩ := Ot o (by omega)
   exact ⟨s, l, d.1, fun f => (d.2 f).trans ⟨h.xC f, Ms b g k⟩⟩
  | true =>
   simp only [cA, aB, aG]
   rcases a2 rfl with h1 | h1
   ·cases h1
   ·exact Kf a b g m o i (by omega)
theorem QZ (l : List kE) (p : l.length ≤ 30000) : ∃ C s, wj l = some s ∧ BF (pN C) s ∧ ∀ c, c ∈ C ↔ c ∈ l ∧ mR c = true := by
 unfold wj
 obtain ⟨C, e, b⟩ := LV l (by omega)
 have hlen := BQ DB b
 have a : SM C := by unfold SM; omega
 have d : tC C := fun c j => ((b.2 c).1 j).2
 obtain ⟨names, g, m⟩ := OS a d
 rw [e]
 simp only [aA]
 rw [g]
 simp only [aA]
 have n := a.sq
 obtain ⟨s, h, i⟩ := Kf a d m lB [] ⟨by simp, fun f k => by cases k⟩ (by rw [yd]; simp; omega)
 exact ⟨C, s, h, i, b.2⟩
theorem CE (w : ByteArray) : ∀ (l : List kZ) (acc : List kC), acc.length + l.length ≤ 1000000000 → ry w l acc = some (acc ++ (l.filter fun f => mu f.lZ w).map (·.kC))
 | [], acc, _ => by rw [ry]; simp
 | x :: l, acc, h => by
  rw [ry]
  simp only [aJ] at h
  by_cases a : mu x.lZ w = true
  ·rw [aY a, nU (by simp; omega) (by simp; omega)]
   simp only [aA]
   rw [CE w l _ (by simp; omega)]
   simp [a]
  ·rw [bA a, CE w l acc (by omega)]
   simp [a]
end Go.Proofs.YtklbhegeiijbjaaGreat
namespace Go.Proofs.YtklbhegeiijbjaaGreat
open Go.RowKit
theorem Qq {P : kZ → Prop} {s t : List kZ} (h : BF P s) (b : ∀ f, P f → f ∈ t) : s.length ≤ t.length := nk (vG Hv (fun _ _ => rfl) h.1) (fun f a => b f ((h.2 f).1 a))
theorem QT {C : List kE} {s : List kZ} (h : BF (pN C) s) (a : SM C) : s.length ≤ 900000000 := by
 have := Qq h (t := F7 C) (fun f b => b.F7)
 rw [DY] at this
 have := a.sq
 omega
theorem NS {C : List kE} {T : pW} {d : List (kC × List kE)} {ws : List (ByteArray × List kE)} {n : Int} (h : MS C T d ws n) (cs : List kE) (u : List (kC × List kE)) (w : List (ByteArray × List kE)) (a : List kZ) (z : Int) (r : kC) (Ll : ByteArray) :
  ∃ b, uL (mm T) cs u w a z r Ll = some b ∧ (b = true ↔ pN C ⟨r, Ll⟩) :=
 ⟨_, rfl, by rw [uj h.Ez.keys, h.all]⟩
def qA : kC := ⟨⟨#[97]⟩, ⟨#[114]⟩⟩
def qB : kC := ⟨⟨#[98]⟩, ⟨#[115]⟩⟩
def qd : ByteArray := ⟨#[100]⟩
def j1 : kE := ⟨2, qA, zS, qB, ⟨zS, zS⟩, zS⟩
def j2 : kE := ⟨1, qB, qd, ⟨zS, zS⟩, ⟨zS, zS⟩, zS⟩
end Go.Proofs.YtklbhegeiijbjaaGreat
namespace Go.Proofs.YtklbhegeiijbjaaGreat
open Go.RowKit
theorem xR.own {l : List kZ} {c : kE} {names : List ByteArray} {w : ByteArray} (h : xR l c names w) : xR l c (l.map (·.lZ)) w := by
 rcases h with h | h | h | ⟨d, g, i, b, _, a, j⟩
 ·exact .inl h
 ·exact .inr (.inl h)
 ·exact .inr (.inr (.inl h))
 ·exact .inr (.inr (.inr ⟨d, g, i, b, bO.2 ⟨_, a, rfl⟩, a, j⟩))
theorem xR.subset {a b : List kZ} {c : kE} {names : List ByteArray} {w : ByteArray} (h : xR a c names w) (d : ∀ f ∈ a, f ∈ b) : xR b c names w := by
 rcases h with h | h | h | ⟨i, j, k, g, l, m, n⟩
 ·exact .inl h
 ·exact .inr (.inl ⟨h.1, d _ h.2⟩)
 ·exact .inr (.inr (.inl ⟨h.1, d _ h.2.1, d _ h.2.2⟩))
 ·exact .inr (.inr (.inr ⟨i, j, k, g, l, d _ m, d _ n⟩))
end Go.Proofs.YtklbhegeiijbjaaGreat
namespace Go.Proofs.YtklbhegeiijbjaaGreat
open Go.RowKit
def tot {α : Type} (a : List (List α)) : Nat := (a.map List.length).sum
end Go.Proofs.YtklbhegeiijbjaaGreat
namespace Go.Proofs.YtklbhegeiijbjaaGreat
open Go.RowKit
def up (w : ByteArray) (g : ByteArray → Nat) : ByteArray → Nat := fun x => if mu w x = true then g x + 1 else g x
end Go.Proofs.YtklbhegeiijbjaaGreat
namespace Go.Proofs.YtklbhegeiijbjaaGreat
open Go.RowKit
theorem Nw (F : List kZ) (w : ByteArray) (a : F.length ≤ 1000000000) : tR F w = some ((F.filter fun f => mu f.lZ w).map (·.kC)) := by
 unfold tR
 rw [CE w F [] (by simp; omega)]
 simp
end Go.Proofs.YtklbhegeiijbjaaGreat
namespace Go.Proofs.YtklbhegeiijbjaaGreat
open Go.RowKit
instance decRole : DecidableEq kC := fun a b => decidable_of_iff (lu a b = true) lx
def Hc (F : List kZ) (w : ByteArray) : List kC := (F.filter fun f => mu f.lZ w).map (·.kC)
structure RP (l : List kE) (F : List kZ) : Prop where
 len : l.length ≤ 30000
 C : ∃ C : List kE, BF (pN C) F ∧ (∀ c, c ∈ C ↔ c ∈ l ∧ mR c = true) ∧ SM C
 ref : wj l = some F
theorem RS (l : List kE) (g : l.length ≤ 30000) : ∃ F, RP l F := by
 obtain ⟨C, F, e, h1, h⟩ := QZ l g
 obtain ⟨C1, T, j, ws, n, i, m1, a, d⟩ := MG l (by omega)
 have b : ∀ c, c ∈ C ↔ c ∈ C1 := fun c => by rw [h, a]
 exact ⟨F, g, ⟨C1, ⟨h1.1, fun f => (h1.2 f).trans (pN.congr b f)⟩, a, by unfold SM; omega⟩, e⟩
theorem RP.TW {l : List kE} {F : List kZ} (h : RP l F) : F.length ≤ 900000000 := by
 obtain ⟨C, h1, b, a⟩ := h.C
 exact QT h1 a
end Go.Proofs.YtklbhegeiijbjaaGreat
namespace Go.Proofs.YtklbhegeiijbjaaGreat
open Go.RowKit
def B8 (l : List Int) : Prop := ∀ x ∈ l, 0 ≤ x ∧ x < 256
end Go.Proofs.YtklbhegeiijbjaaGreat
namespace Go.Proofs.YtklbhegeiijbjaaGreat
open Go.RowKit
def M1 : List ByteArray → List Key → Int
 | _, [] => 0
 | seen, k :: l => if oJ k.lZ = false then 30 else if k.Key.length < 1 ∨ 32 < k.Key.length then 21 else if sv mu seen k.lZ = true then 41 else M1 (seen ++ [k.lZ]) l
def Pa (l : List Key) : List (ByteArray × List Int) := l.map fun k => (k.lZ, k.Key)
def O7 (l : List Key) (o : ByteArray) : Option (List Int) := mG mu (Pa l) o
theorem RD {l : List Int} (h : l.length ≤ 1000000) : vl l = some l := by
 unfold vl
 rw [GG (by simpa using h)]; rfl
theorem L5 : ∀ (l : List Key) (seen : List ByteArray), M1 seen l = 0 → ∀ k ∈ l, 1 ≤ k.Key.length ∧ k.Key.length ≤ 32
 | [], _, _, _, hk => by cases hk
 | x :: l, seen, h, k, hk => by
  unfold M1 at h
  split at h
  ·cases h
  split at h
  ·cases h
  split at h
  ·cases h
  rcases aQ.1 hk with rfl | hk
  ·omega
  ·exact L5 l _ h k hk
theorem Gu : ∀ (l : List Key) (o : ByteArray) (b : List Int), O7 l o = some b → ∃ k ∈ l, k.Key = b
 | [], o, b, h => by cases h
 | x :: l, o, b, h => by
  unfold O7 at h
  rw [show Pa (x :: l) = (x.lZ, x.Key) :: Pa l from rfl, Ch] at h
  split at h
  ·cases h; exact ⟨x, by simp, rfl⟩
  ·obtain ⟨k, hk, e⟩ := Gu l o b h
   exact ⟨k, by simp [hk], e⟩
def K8 (l : List Key) : Prop := ∀ k ∈ l, B8 k.Key
structure Mk (ks : List Key) (c : kE) (k : List Int) : Prop where
 ok : M1 [] ks = 0
 rt : mR c = true
 lk : O7 ks c.Head.kD = some k
theorem Mk.len {ks : List Key} {c : kE} {k : List Int} (h : Mk ks c k) : 1 ≤ k.length ∧ k.length ≤ 32 := by
 obtain ⟨q, a, rfl⟩ := Gu _ _ _ h.lk
 exact L5 ks [] h.ok q a
theorem Mk.b8 {ks : List Key} {c : kE} {k : List Int} (h : Mk ks c k) (hk : K8 ks) : B8 k := by
 obtain ⟨q, a, rfl⟩ := Gu _ _ _ h.lk
 exact hk q a
theorem Mk.unique {ks : List Key} {c : kE} {k k' : List Int} (h : Mk ks c k) (a : Mk ks c k') : k = k' := by
 have := h.lk; rw [a.lk] at this; cases this; rfl
end Go.Proofs.YtklbhegeiijbjaaGreat
namespace Go.Proofs.YtklbhegeiijbjaaGreat
open Go.RowKit
def S8 (l : List Signed) : Prop := ∀ s ∈ l, B8 s.Tag
end Go.Proofs.YtklbhegeiijbjaaGreat
namespace Go.Proofs.YtklbhegeiijbjaaGreat
open Go.RowKit
theorem O6 (b : List kE) (x : kE) : tk b x = some (sv nc b x) := by
 obtain ⟨q, e, h⟩ := Ke x b
 unfold wA at e
 rw [pV] at e
 rw [e, show q = sv nc b x from by rw [bT, h, tg ol]]
structure JW (l : List kE) (F : List kZ) : Prop where
 len : F.length ≤ 900000000
 ref : wj l = some F
 TK : ∃ m, xQ l = some m ∧ xb m.1 m.2.1 m.2.2.1 m.2.2.2.1 m.2.2.2.2.1 m.2.2.2.2.2 = some F ∧ ∀ r w, uL m.1 m.2.1 m.2.2.1 m.2.2.2.1 m.2.2.2.2.1 m.2.2.2.2.2 r w = some (sv Bz F ⟨r, w⟩)
 xC : ∀ C : List kE, (∀ c, c ∈ C ↔ c ∈ l ∧ mR c = true) → BF (pN C) F
theorem SC (l : List kE) (x : l.length ≤ 30000) : ∃ F, JW l F := by
 obtain ⟨F, h⟩ := RS l x
 refine ⟨F, h.TW, h.ref, ?_, fun C t => ?_⟩
 ·obtain ⟨C, h1, d, s⟩ := h.C
  obtain ⟨C1, T, m, ws, n, p, m1, g, j⟩ := MG l (by omega)
  have a : ∀ c, c ∈ C1 ↔ c ∈ C := fun c => by rw [d, g]
  have k : BF (pN C1) F := ⟨h1.1, fun f => (h1.2 f).trans (pN.congr a f).symm⟩
  have u : SM C1 := by unfold SM; omega
  refine ⟨_, p, ?_, fun r w => ?_⟩
  ·obtain ⟨F1, q, i⟩ := PA u.small m1 C1 m ws [] n
   rw [← i.unique k]; exact q
  ·obtain ⟨b, e, v⟩ := NS m1 C1 m ws [] n r w
   rw [e, show b = sv Bz F ⟨r, w⟩ from by rw [bT, v, tg wR, k.2]]
 ·obtain ⟨C', h1, d, s⟩ := h.C
  have a : ∀ c, c ∈ C' ↔ c ∈ C := fun c => by rw [d, t]
  exact ⟨h1.1, fun f => (h1.2 f).trans (pN.congr a f)⟩
end Go.Proofs.YtklbhegeiijbjaaGreat
namespace Go.Proofs.YtklbhegeiijbjaaGreat
open Go.RowKit
section
variable {α : Type}
structure SWO (lt : α → α → Bool) : Prop where
 PS : ∀ x, lt x x = false
 tr : ∀ x y z, lt x y = true → lt y z = true → lt x z = true
 Nx : ∀ x y z, lt x z = true → lt x y = true ∨ lt y z = true
variable {lt : α → α → Bool}
theorem SWO.asym (h : SWO lt) {x y : α} (a : lt x y = true) : lt y x = false := by
 cases e : lt y x
 ·rfl
 ·have := h.tr _ _ _ a e; rw [h.PS] at this; cases this
def tl (lt : α → α → Bool) (p q : α × Nat) : Prop := lt p.1 q.1 = true ∨ (lt q.1 p.1 = false ∧ p.2 < q.2)
theorem DI (h : SWO lt) {p q r : α × Nat} (a : tl lt p q) (b : tl lt q r) : tl lt p r := by
 unfold tl at *
 rcases a with a | ⟨a, a2⟩ <;> rcases b with b | ⟨b, d⟩
 ·exact .inl (h.tr _ _ _ a b)
 ·rcases h.Nx _ r.1 _ a with c | c
  ·exact .inl c
  ·rw [b] at c; cases c
 ·rcases h.Nx _ p.1 _ b with c | c
  ·rw [a] at c; cases c
  ·exact .inl c
 ·refine .inr ⟨?_, by omega⟩
  cases e : lt r.1 p.1
  ·rfl
  ·rcases h.Nx _ q.1 _ e with c | c
   ·rw [b] at c; cases c
   ·rw [a] at c; cases c
theorem Qu (h : SWO lt) {p q : α × Nat} (a : tl lt p q) (b : tl lt q p) : False := by
 have c := DI h a b
 rcases c with c | ⟨_, c⟩
 ·rw [h.PS] at c; cases c
 ·omega
abbrev pw (lt : α → α → Bool) (t : List (α × Nat)) : Prop := t.Pairwise (tl lt)
theorem Hs (h : SWO lt) : ∀ {t u : List (α × Nat)}, pw lt t → pw lt u → t.Perm u → t = u
 | [], u, _, _, hp => by rw [List.nil_perm] at hp; exact hp.symm
 | p :: t, [], _, _, hp => by simp at hp
 | p :: t, q :: u, h1, b, hp => by
  have e : p = q := by
   rcases aQ.1 (hp.mem_iff.1 (.head _)) with e | d
   ·exact e
   ·rcases aQ.1 (hp.mem_iff.2 (.head _)) with e | a
    ·exact e.symm
    ·exact (Qu h ((cN.1 h1).1 _ a) ((cN.1 b).1 _ d)).elim
  subst e
  rw [Hs h (cN.1 h1).2 (cN.1 b).2 (List.Perm.cons_inv hp)]
def B3 (lt : α → α → Bool) (l : List α) (k : α) : List α := l.filter (fun x => !lt k x) ++ k :: l.filter (fun x => lt k x)
def Kx (lt : α → α → Bool) (l : List α) : List α := l.foldl (B3 lt) []
def Gn (lt : α → α → Bool) (t : List (α × Nat)) (k : α × Nat) : List (α × Nat) := t.filter (fun x => !lt k.1 x.1) ++ k :: t.filter (fun x => lt k.1 x.1)
theorem O4 (t : List (α × Nat)) (k : α × Nat) : (Gn lt t k).map (·.1) = B3 lt (t.map (·.1)) k.1 := by
 simp [Gn, B3, List.filter_map, gW]
theorem OH (t : List (α × Nat)) (k : α × Nat) : (Gn lt t k).Perm (t ++ [k]) := by
 unfold Gn
 refine List.perm_middle.trans ?_
 refine (List.Perm.cons _ ?_).trans (iE k t).symm
 have := List.filter_append_perm (fun x : α × Nat => !lt k.1 x.1) t
 simpa using this
theorem PI (h : SWO lt) {t : List (α × Nat)} {k : α × Nat} (i : pw lt t) (hk : ∀ x ∈ t, x.2 < k.2) : pw lt (Gn lt t k) := by
 unfold Gn pw
 rw [cZ, cN]
 refine ⟨i.filter _, ⟨fun x b => ?_, i.filter _⟩, fun x b y d => ?_⟩
 ·exact .inl (cH.1 b).2
 ·obtain ⟨h1, g⟩ := cH.1 b
  simp only [iy, ] at g
  have a : tl lt x k := .inr ⟨g, hk x h1⟩
  rcases aQ.1 d with rfl | d
  ·exact a
  ·exact DI h a (.inl (cH.1 d).2)
theorem SS (h : SWO lt) (l : List α) : ∃ t, pw lt t ∧ t.Perm l.zipIdx ∧ t.map (·.1) = Kx lt l := by
 suffices H : ∀ (l r : List α) (t : List (α × Nat)), pw lt t → t.Perm r.zipIdx → ∃ u, pw lt u ∧ u.Perm (r ++ l).zipIdx ∧ u.map (·.1) = l.foldl (B3 lt) (t.map (·.1)) by
  obtain ⟨u, h1, d, i⟩ := H l [] [] .nil (by simp)
  exact ⟨u, h1, by simpa using d, i⟩
 intro l
 induction l with
 | nil => intro r t h1 d; exact ⟨t, h1, by simpa using d, rfl⟩
 | cons k l ih =>
  intro r t h1 d
  obtain ⟨u, g, a2, a3⟩ := ih (r ++ [k]) (Gn lt t (k, r.length)) (PI h h1 (fun x j => by
   obtain ⟨a, b⟩ := x
   have := List.snd_lt_of_mem_zipIdx (d.mem_iff.1 j)
   simpa using this)) ((OH t _).trans (by rw [List.zipIdx_append]; simpa using d.append_right _))
  refine ⟨u, g, by simpa using a2, ?_⟩
  rw [a3, O4]
  rfl
theorem Q1 (h : SWO lt) {l : List α} {t : List (α × Nat)} (h1 : pw lt t) (b : t.Perm l.zipIdx) : t.map (·.1) = Kx lt l := by
 obtain ⟨u, a, a2, a3⟩ := SS h l
 rw [← a3, Hs h h1 a (b.trans a2.symm)]
end
end Go.Proofs.YtklbhegeiijbjaaGreat
namespace Go.Proofs.YtklbhegeiijbjaaGreat
open Go.RowKit
section
variable {α : Type} {lt : α → α → Bool}
abbrev Lk (lt : α → α → Bool) (A B : List (α × Nat)) : Prop := ∀ A' a b B', A = A' ++ [a] → B = b :: B' → tl lt a b
theorem AT (h : SWO lt) {A B : List (α × Nat)} (k : pw lt A) (m : pw lt B) (l : Lk lt A B) : ∀ a ∈ A, ∀ b ∈ B, tl lt a b := by
 intro a ha b d
 rcases dG A with rfl | ⟨A', z, rfl⟩
 ·cases ha
 cases B with
 | nil => cases d
 | cons y B' =>
  have h1 : tl lt z y := l A' z y B' (by simp) rfl
  have g : a = z ∨ tl lt a z := by
   simp only [eF, aV, cM] at ha
   rcases ha with ha | ha
   ·refine .inr ?_
    simp only [eF, pw, cZ] at k
    exact k.2.2 a ha z (by simp)
   ·exact .inl ha
  have i : b = y ∨ tl lt y b := by
   rcases aQ.1 d with d | d
   ·exact .inl d
   ·exact .inr ((cN.1 m).1 b d)
  have j : tl lt a y := by
   rcases g with rfl | g
   ·exact h1
   ·exact DI h g h1
  rcases i with rfl | i
  ·exact j
  ·exact DI h j i
theorem JF (h : SWO lt) {A B : List (α × Nat)} (a : pw lt A) (b : pw lt B) (l : Lk lt A B) : pw lt (A ++ B) :=
 cZ.2 ⟨a, b, AT h a b l⟩
theorem pw.left {A B : List (α × Nat)} (h : pw lt (A ++ B)) : pw lt A := (cZ.1 h).1
theorem pw.right {A B : List (α × Nat)} (h : pw lt (A ++ B)) : pw lt B := (cZ.1 h).2.1
theorem pw.two {A B : List (α × Nat)} (h : pw lt (A ++ B)) : ∀ a ∈ A, ∀ b ∈ B, tl lt a b := (cZ.1 h).2.2
theorem H9 (h : SWO lt) {A B : List (α × Nat)} {x : α × Nat} (g : pw lt (A ++ B)) (j : Lk lt A [x]) (k : Lk lt [x] B) : pw lt (A ++ x :: B) := by
 have h1 := AT h g.left (ja _ x) j
 have i := AT h (ja _ x) g.right k
 refine cZ.2 ⟨g.left, cN.2 ⟨fun b d => i x (by simp) b d, g.right⟩, fun a ha b d => ?_⟩
 rcases aQ.1 d with rfl | d
 ·exact h1 a ha _ (by simp)
 ·exact g.two a ha b d
theorem Q6 (h : SWO lt) {A1 A2 B1 B2 C1 C2 : List (α × Nat)} (g : pw lt (A1 ++ A2)) (i : pw lt (B1 ++ B2)) (k : Lk lt A1 B2) (l : Lk lt B1 A2) (m : C1.Perm (A1 ++ B1)) (n : C2.Perm (A2 ++ B2)) (h1 : pw lt C1) (j : pw lt C2) : pw lt (C1 ++ C2) := by
 have x1 := AT h g.left i.right k
 have x2 := AT h i.left g.right l
 refine cZ.2 ⟨h1, j, fun a ha b d => ?_⟩
 rcases aV.1 (m.mem_iff.1 ha) with ha | ha <;> rcases aV.1 (n.mem_iff.1 d) with d | d
 ·exact g.two a ha b d
 ·exact x1 a ha b d
 ·exact x2 a ha b d
 ·exact i.two a ha b d
end
section
variable {α : Type}
theorem Fu (p q : List α) (x y : α) : (p ++ x :: q).set p.length y = p ++ y :: q := by simp
theorem KD (p q : List α) (x y : α) (n : Nat) (h : n = p.length) : (p ++ x :: q).set n y = p ++ y :: q := by subst h; simp
theorem Gf (p m q : List α) (x y : α) : ((p ++ x :: (m ++ y :: q)).set p.length y).set (p.length + 1 + m.length) x = p ++ y :: (m ++ x :: q) := by
 rw [Fu]
 have : p ++ y :: (m ++ y :: q) = (p ++ y :: m) ++ y :: q := by simp
 rw [this, show p.length + 1 + m.length = (p ++ y :: m).length by simp; omega, Fu]
 simp
theorem Nt (p m q : List α) (x y : α) : ((p ++ x :: (m ++ y :: q)).set (p.length + 1 + m.length) x).set p.length y = p ++ y :: (m ++ x :: q) := by
 rw [List.set_comm _ _ (by omega), Gf]
theorem xv {l : List α} {n : Nat} (h : n ≤ l.length) : ∃ a b, l = a ++ b ∧ a.length = n := ⟨l.take n, l.drop n, (fX n l).symm, by simp [h]⟩
end
end Go.Proofs.YtklbhegeiijbjaaGreat
namespace Go.Proofs.YtklbhegeiijbjaaGreat
open Go.RowKit
section
variable {c : Formula → Formula → Int} {G : Formula → Prop} {f : Formula × Formula → Option Int}
theorem MY (x : Formula) : (⟨x.Op, x.K, x.kC, x.Kids⟩ : Formula) = x := by cases x; rfl
abbrev oE (c : Formula → Formula → Int) (x y : Formula) : Bool := decide (c x y < 0)
abbrev De (f : Formula × Formula → Option Int) (c : Formula → Formula → Int) (G : Formula → Prop) : Prop := ∀ x y, G x → G y → f (x, y) = some (c x y)
theorem TU (u : De f c G) (pre : List Formula) (x : Formula) (w : G x) : ∀ (k : Nat) (P S : List Formula) (n : Nat) (j a : Int), P.length = k → k < n → (∀ y ∈ P, G y) → (pre ++ (P ++ x :: S)).length ≤ 1000000 → j = ((pre.length + P.length : Nat) : Int) → a = (pre.length : Int) →
  ∃ P1 P2, P = P1 ++ P2 ∧ mX a f n (pre ++ (P ++ x :: S)) j = some (pre ++ (P1 ++ x :: (P2 ++ S))) ∧ (∀ P' z, P1 = P' ++ [z] → oE c x z = false) ∧ (∀ y P', P2 = y :: P' → oE c x y = true) := by
 intro k
 induction k with
 | zero =>
  intro P S n j a hk v d l h ha
  obtain rfl := aU hk
  obtain ⟨n, rfl⟩ := aS (by omega : n ≠ 0)
  refine ⟨[], [], rfl, ?_, by simp, by simp⟩
  rw [mX]
  have : ¬ (j > a) := by rw [h, ha]; simp
  simp [this]
 | succ k ih =>
  intro P S n j a hk v d l h ha
  rcases dG P with rfl | ⟨P', z, rfl⟩
  ·simp at hk
  simp only [eF, aF, aJ, bU] at hk h l d ⊢
  obtain ⟨n, rfl⟩ := aS (by omega : n ≠ 0)
  have i : j > a := by omega
  have m : pre ++ (P' ++ [z] ++ x :: S) = (pre ++ P') ++ z :: x :: S := by simp
  have hw : IntKind.i64.wrap (j - 1) = ((pre.length + P'.length : Nat) : Int) := by rw [me (by omega) (by omega)]; omega
  have i1 : mQ ((pre ++ P') ++ z :: x :: S) j = some x := by
   rw [show (pre ++ P') ++ z :: x :: S = (pre ++ P' ++ [z]) ++ x :: S by simp]
   exact nR _ _ _ _ (by simp; omega)
  have i2 : mQ ((pre ++ P') ++ z :: x :: S) ((pre.length + P'.length : Nat) : Int) = some z := nR _ _ _ _ (by simp)
  have D : G z := d z (by simp)
  have t : ∀ y ∈ P', G y := fun y A => d y (by simp [A])
  have F : j.toNat = pre.length + P'.length + 1 := by omega
  rw [mX, m]
  simp only [i, bZ, aM, i1, hw, i2, aA, u x z w D]
  by_cases g : c x z < 0
  ·simp only [g, bZ, aM]
   have s1 : ((pre ++ P') ++ z :: x :: S).set j.toNat z = (pre ++ P') ++ z :: z :: S := by
    have := KD (pre ++ P' ++ [z]) S x z j.toNat (by simp; omega)
    simpa only [aN, jm, bX, bI] using this
   have s2 : ((pre ++ P') ++ z :: z :: S).set (pre.length + P'.length) x = (pre ++ P') ++ x :: z :: S := by
    exact KD (pre ++ P') (z :: S) z x _ (by simp)
   have i3 : mQ ((pre ++ P') ++ z :: z :: S) ((pre.length + P'.length : Nat) : Int) = some z := nR _ _ _ _ (by simp)
   rw [s1, i3, aA, dO, MY, s2]
   have p : (pre ++ P') ++ x :: z :: S = pre ++ (P' ++ x :: (z :: S)) := by simp
   obtain ⟨P1, P2, h1, q, r, s⟩ := ih P' (z :: S) n ((pre.length + P'.length : Nat) : Int) a (by omega) (by omega) t (by simp; omega) rfl ha
   rw [p, q]
   refine ⟨P1, P2 ++ [z], by rw [h1]; simp, by simp, r, ?_⟩
   intro y Q b
   cases P2 with
   | nil =>
    simp only [bI, bE] at b
    rw [← b.1]; simp [oE, g]
   | cons E P2 =>
    simp only [bX, bE] at b
    rw [← b.1]; exact s E P2 rfl
  ·simp only [g, cC, aB, aG]
   refine ⟨P' ++ [z], [], by simp, by simp, ?_, by simp⟩
   intro Q y b
   have := List.append_inj' b rfl
   simp only [bE, dS] at this
   rw [← this.2]; simp [oE, g]
theorem PY (h : SWO (oE c)) (I : De f c G) (pre post : List Formula) (a b : Int) (ha : a = (pre.length : Int)) : ∀ (S t : List (Formula × Nat)) (n : Nat) (i : Int),
  S.length < n → pw (oE c) t → (∀ x ∈ t, ∀ y ∈ S, x.2 < y.2) → S.Pairwise (fun x y => x.2 < y.2) → (∀ x ∈ t ++ S, G x.1) → (pre ++ (t.map (·.1) ++ (S.map (·.1) ++ post))).length ≤ 1000000 →
  i = ((pre.length + t.length : Nat) : Int) → b = ((pre.length + t.length + S.length : Nat) : Int) →
  ∃ u, mM b a f n (pre ++ (t.map (·.1) ++ (S.map (·.1) ++ post))) i = some (pre ++ (u.map (·.1) ++ post)) ∧ pw (oE c) u ∧ u.Perm (t ++ S)
 | [], t, n, i, D, E, h1, F, r, A, J, v => by
  obtain ⟨n, rfl⟩ := aS (by simp at D; omega : n ≠ 0)
  rw [mM]
  simp only [bU] at v
  have : ¬ (i < b) := by omega
  simp only [this, cC, aB, aG]
  exact ⟨t, by simp, E, by simp⟩
 | s :: S, t, n, i, D, E, h1, F, r, A, J, v => by
  simp only [aJ] at D v
  obtain ⟨n, rfl⟩ := aS (by omega : n ≠ 0)
  rw [mM]
  have w : i < b := by omega
  simp only [w, bZ, aM]
  have k := A
  simp only [aF, dC, aJ] at k
  obtain ⟨P1, P2, O, P, Q, R⟩ := TU I pre s.1 (r s (by simp)) (t.map (·.1)).length (t.map (·.1)) (S.map (·.1) ++ post) lB i a rfl (by rw [nh]; simp; omega)
   (fun y m => by obtain ⟨p, hp, rfl⟩ := bO.1 m; exact r p (by simp [hp])) (by simpa using A) (by simp; omega) ha
  simp only [bP, bX]
  rw [P, aA]
  obtain ⟨t1, t2, rfl, L, M⟩ := List.map_eq_append_iff.1 O
  have hlen : t1.length + t2.length = (t1 ++ t2).length := by simp
  have hw : IntKind.i64.wrap (i + 1) = ((pre.length + (t1 ++ s :: t2).length : Nat) : Int) := by rw [me (by omega) (by omega)]; simp at J ⊢; omega
  rw [hw]
  have l : pw (oE c) (t1 ++ s :: t2) := H9 h E
   (fun A' z b B' j q => by
    simp only [bE] at q
    rw [← q.1]
    refine .inr ⟨Q (A'.map (·.1)) z.1 (by rw [← L, j]; simp), h1 z (by rw [j]; simp) s (by simp)⟩)
   (fun A' z b B' j q => by
    have U : z = s := by
     cases A' with
     | nil => simpa using j.symm
     | cons _ A' => simp at j
    rw [U]
    exact .inl (R b.1 (B'.map (·.1)) (by rw [← M, q]; simp)))
  have g := cN.1 F
  have T : pre ++ (P1 ++ s.1 :: (P2 ++ (S.map (·.1) ++ post))) = pre ++ ((t1 ++ s :: t2).map (·.1) ++ (S.map (·.1) ++ post)) := by rw [← L, ← M]; simp
  rw [T]
  obtain ⟨u, W, Y, Z⟩ := PY h I pre post a b ha S (t1 ++ s :: t2) n _ (by omega) l
   (fun x d y m => by
    rcases aV.1 d with d | d
    ·exact h1 x (by simp [d]) y (by simp [m])
    ·rcases aQ.1 d with rfl | d
     ·exact g.1 y m
     ·exact h1 x (by simp [d]) y (by simp [m]))
   g.2 (fun x d => r x (by
    simp only [aV, aQ] at d ⊢
    rcases d with (d | d | d) | d
    ·exact .inl (.inl d)
    ·exact .inr (.inl d)
    ·exact .inl (.inr d)
    ·exact .inr (.inr d))) (by simp at k ⊢; omega) rfl (by simp at v ⊢; omega)
  refine ⟨u, W, Y, Z.trans ?_⟩
  simp only [aN, bX]
  exact cJ t1 (List.perm_middle.symm)
theorem LZ (h : SWO (oE c)) (p : De f c G) (pre post : List Formula) (S : List (Formula × Nat)) (a b : Int) (l : S.Pairwise (fun x y => x.2 < y.2)) (m : ∀ x ∈ S, G x.1) (k : (pre ++ (S.map (·.1) ++ post)).length ≤ 1000000) (ha : a = (pre.length : Int)) (j : b = ((pre.length + S.length : Nat) : Int)) :
  ∃ u, oe (pre ++ (S.map (·.1) ++ post)) a b f = some (pre ++ (u.map (·.1) ++ post)) ∧ pw (oE c) u ∧ u.Perm S := by
 unfold oe
 have g := k
 simp only [aF, dC] at g
 cases S with
 | nil =>
  refine ⟨[], ?_, .nil, .nil⟩
  obtain ⟨n, q⟩ := aS (by rw [nh]; omega : lB ≠ 0)
  rw [q, mM]
  have : ¬ (IntKind.i64.wrap (a + 1) < b) := by rw [me (by omega) (by omega)]; simp at j; omega
  simp [this]
 | cons s S =>
  simp only [aJ] at j g
  have d := cN.1 l
  obtain ⟨u, t, v, w⟩ := PY h p pre post a b ha S [s] lB (IntKind.i64.wrap (a + 1)) (by rw [nh]; omega) (ja _ _) (fun x i y r => by simp at i; rw [i]; exact d.1 y r) d.2
   (fun x i => m x (by simpa using i)) (by simp at k ⊢; omega) (by rw [me (by omega) (by omega)]; simp; omega) (by simp; omega)
  exact ⟨u, by simpa using t, v, by simpa using w⟩
end
end Go.Proofs.YtklbhegeiijbjaaGreat
namespace Go.Proofs.YtklbhegeiijbjaaGreat
open Go.RowKit
section
variable {c : Formula → Formula → Int} {G : Formula → Prop} {f : Formula × Formula → Option Int}
theorem oD {x : Int} (n : Nat) (h : x = (n : Int)) (a : n ≤ 4000000) : IntKind.i64.wrap x = (n : Int) := by rw [h, me (by omega) (by omega)]
theorem Sy (p m q : List Formula) (a b N : Int) : ∀ (k : Nat) (X1 X2 Y1 Y2 : List Formula) (n : Nat) (i : Int), X2.length = k → Y2.length = k → X1.length = Y1.length → k < n → (p ++ (Y1 ++ (X2 ++ (m ++ (X1 ++ (Y2 ++ q)))))).length ≤ 1000000 →
  i = (X1.length : Int) → N = ((X1.length + k : Nat) : Int) → a = (p.length : Int) → b = ((p.length + X1.length + k + m.length : Nat) : Int) →
  nw N b a n (p ++ (Y1 ++ (X2 ++ (m ++ (X1 ++ (Y2 ++ q)))))) i = some (p ++ ((Y1 ++ Y2) ++ (m ++ ((X1 ++ X2) ++ q)))) := by
 intro k
 induction k with
 | zero =>
  intro X1 X2 Y1 Y2 n i h1 d u w r v j ha l
  obtain rfl := aU h1
  obtain rfl := aU d
  obtain ⟨n, rfl⟩ := aS (by omega : n ≠ 0)
  rw [nw]
  have : ¬ (i < N) := by omega
  simp [this]
 | succ k ih =>
  intro X1 X2 Y1 Y2 n i h1 d u w r v j ha l
  cases X2 with
  | nil => simp at h1
  | cons x X2 =>
  cases Y2 with
  | nil => simp at d
  | cons y Y2 =>
  simp only [aJ, Nat.add_right_cancel_iff] at h1 d
  obtain ⟨n, rfl⟩ := aS (by omega : n ≠ 0)
  have h := r
  simp only [aF, aJ] at h
  have g : i < N := by omega
  have z : IntKind.i64.wrap (b + i) = (((p ++ Y1).length + 1 + (X2 ++ (m ++ X1)).length : Nat) : Int) := oD _ (by simp; omega) (by simp; omega)
  have A : IntKind.i64.wrap (a + i) = ((p ++ Y1).length : Int) := oD _ (by simp; omega) (by simp; omega)
  have D : IntKind.i64.wrap (i + 1) = ((X1 ++ [x]).length : Int) := oD _ (by simp; omega) (by simp; omega)
  have s : p ++ (Y1 ++ (x :: X2 ++ (m ++ (X1 ++ (y :: Y2 ++ q))))) = (p ++ Y1) ++ x :: ((X2 ++ (m ++ X1)) ++ y :: (Y2 ++ q)) := by simp
  have i1 : mQ ((p ++ Y1) ++ x :: ((X2 ++ (m ++ X1)) ++ y :: (Y2 ++ q))) (((p ++ Y1).length + 1 + (X2 ++ (m ++ X1)).length : Nat) : Int) = some y := by
   have := nR ((p ++ Y1) ++ x :: (X2 ++ (m ++ X1))) y (Y2 ++ q) (((p ++ Y1).length + 1 + (X2 ++ (m ++ X1)).length : Nat) : Int) (by simp; omega)
   simpa using this
  have i2 : mQ ((p ++ Y1) ++ x :: ((X2 ++ (m ++ X1)) ++ y :: (Y2 ++ q))) ((p ++ Y1).length : Int) = some x := nR _ _ _ _ rfl
  rw [nw, s]
  simp only [g, bZ, aM, z, A, i1, i2, aA, dO, D]
  have i3 : mQ (((p ++ Y1) ++ x :: ((X2 ++ (m ++ X1)) ++ y :: (Y2 ++ q))).set (p ++ Y1).length y) (((p ++ Y1).length + 1 + (X2 ++ (m ++ X1)).length : Nat) : Int) = some y := by
   rw [Fu]
   have := nR ((p ++ Y1) ++ y :: (X2 ++ (m ++ X1))) y (Y2 ++ q) (((p ++ Y1).length + 1 + (X2 ++ (m ++ X1)).length : Nat) : Int) (by simp; omega)
   simpa using this
  rw [i3, aA, MY, Gf]
  have t : (p ++ Y1) ++ y :: ((X2 ++ (m ++ X1)) ++ x :: (Y2 ++ q)) = p ++ ((Y1 ++ [y]) ++ (X2 ++ (m ++ ((X1 ++ [x]) ++ (Y2 ++ q))))) := by simp
  rw [t, ih (X1 ++ [x]) X2 (Y1 ++ [y]) Y2 n _ h1 d (by simp; omega) (by omega) (by simp; omega) rfl (by rw [j]; simp; omega) ha (by rw [l]; simp; omega)]
  simp
theorem Mq (p m q X Y : List Formula) (a b N : Int) (h : X.length = Y.length) (g : (p ++ (X ++ (m ++ (Y ++ q)))).length ≤ 1000000) (i : N = (X.length : Int)) (ha : a = (p.length : Int)) (j : b = ((p.length + X.length + m.length : Nat) : Int)) :
  nX (p ++ (X ++ (m ++ (Y ++ q)))) a b N f = some (p ++ (Y ++ (m ++ (X ++ q)))) := by
 unfold nX
 have d := g
 simp only [aF] at d
 have := Sy p m q a b N X.length [] X [] Y lB 0 rfl h.symm rfl (by rw [nh]; omega) (by simpa using g) rfl (by simpa using i) ha (by rw [j]; simp)
 simpa using this
theorem SJ (M : Int) : ∀ (k : Nat) (A B p q : List Formula) (n : Nat) (i j : Int), A.length + B.length ≤ k → 0 < A.length → 0 < B.length → k < n → (p ++ (A ++ (B ++ q))).length ≤ 1000000 → i = (A.length : Int) → j = (B.length : Int) → M = ((p.length + A.length : Nat) : Int) →
  nH M f n (p ++ (A ++ (B ++ q))) i j = some (p ++ (B ++ (A ++ q))) := by
 intro k
 induction k with
 | zero => intro A B p q n i j h h1 u; omega
 | succ k ih =>
  intro A B p q n i j h h1 u G x b m v
  obtain ⟨n, rfl⟩ := aS (by omega : n ≠ 0)
  have a := x
  simp only [aF] at a
  rw [nH]
  by_cases he : A.length = B.length
  ·have : (i != j) = false := by rw [b, m, he]; simp
   simp only [this, aB, aG]
   have d : IntKind.i64.wrap (M - i) = (p.length : Int) := oD _ (by omega) (by omega)
   have := Mq (f := f) p [] q A B (p.length : Int) M i he (by simpa using x) b rfl (by rw [v]; simp)
   simp only [bI] at this
   rw [d, this]; rfl
  ·have r : (i != j) = true := by rw [b, m]; simp; omega
   simp only [r, aM]
   by_cases w : i > j
   ·simp only [w, bZ, aM]
    obtain ⟨X, Y, rfl, F⟩ := xv (l := A) (n := B.length) (by omega)
    simp only [aF] at b h v a
    have d : IntKind.i64.wrap (M - i) = (p.length : Int) := oD _ (by omega) (by omega)
    have s := Mq (f := f) p Y q X B (p.length : Int) M j (by omega) (by simp; omega) (by omega) rfl (by omega)
    have g : p ++ (X ++ Y ++ (B ++ q)) = p ++ (X ++ (Y ++ (B ++ q))) := by simp
    have t : IntKind.i64.wrap (i - j) = (Y.length : Int) := oD _ (by omega) (by omega)
    rw [g, d, s, aA, t]
    have y : p ++ (B ++ (Y ++ (X ++ q))) = (p ++ B) ++ (Y ++ (X ++ q)) := by simp
    rw [y, ih Y X (p ++ B) q n _ j (by omega) (by omega) (by omega) (by omega) (by simp; omega) rfl (by omega) (by simp; omega)]
    simp
   ·simp only [w, cC, aB, aG]
    obtain ⟨Z, V, rfl, z⟩ := xv (l := B) (n := B.length - A.length) (by omega)
    simp only [aF] at m h a z u he
    have d : IntKind.i64.wrap (M - i) = (p.length : Int) := oD _ (by omega) (by omega)
    have D : IntKind.i64.wrap (M + j) = ((p.length + A.length + (Z.length + V.length) : Nat) : Int) := oD _ (by omega) (by omega)
    have E : IntKind.i64.wrap (((p.length + A.length + (Z.length + V.length) : Nat) : Int) - i) = ((p.length + A.length + Z.length : Nat) : Int) := oD _ (by omega) (by omega)
    have s := Mq (f := f) p Z q A V (p.length : Int) ((p.length + A.length + Z.length : Nat) : Int) i (by omega) (by simp; omega) b rfl rfl
    have g : p ++ (A ++ (Z ++ V ++ q)) = p ++ (A ++ (Z ++ (V ++ q))) := by simp
    have t : IntKind.i64.wrap (j - i) = (Z.length : Int) := oD _ (by omega) (by omega)
    rw [g, d, D, E, s, aA, t]
    rw [show p ++ (V ++ (Z ++ (A ++ q))) = p ++ (V ++ (Z ++ (A ++ q))) from rfl, ih V Z p (A ++ q) n i _ (by omega) (by omega) (by omega) (by omega) (by simp; omega) (by omega) rfl (by omega)]
    simp
theorem Un (A B p q : List Formula) (a m b : Int) (h1 : 0 < A.length) (h : 0 < B.length) (g : (p ++ (A ++ (B ++ q))).length ≤ 1000000) (ha : a = (p.length : Int)) (hm : m = ((p.length + A.length : Nat) : Int)) (i : b = ((p.length + A.length + B.length : Nat) : Int)) :
  nT (p ++ (A ++ (B ++ q))) a m b f = some (p ++ (B ++ (A ++ q))) := by
 unfold nT
 have d := g
 simp only [aF] at d
 rw [oD A.length (by omega) (by omega), oD B.length (by omega) (by omega)]
 exact SJ m (A.length + B.length) A B p q lB _ _ (aZ _) h1 h (by rw [nh]; omega) g rfl rfl hm
end
end Go.Proofs.YtklbhegeiijbjaaGreat
namespace Go.Proofs.YtklbhegeiijbjaaGreat
open Go.RowKit
section
variable {c : Formula → Formula → Int} {G : Formula → Prop} {f : Formula × Formula → Option Int}
theorem DC {x : Int} (n : Nat) (h : x = (n : Int)) (b : n ≤ 4000000) : IntKind.i64.wrap (Int.fdiv (IntKind.u64.wrap (IntKind.i64.wrap x)) (2 ^ min (Int.toNat 1) (IntKind.bits .u64))) = ((n / 2 : Nat) : Int) := by
 rw [oD n h b]
 have a : IntKind.u64.wrap (n : Int) = (n : Int) := by
  simp only [IntKind.wrap, IntKind.signed, IntKind.bits]
  simp
  omega
 rw [a, show (2 ^ min (Int.toNat 1) (IntKind.bits .u64) : Int) = 2 from by decide, Int.fdiv_eq_ediv_of_nonneg _ (by decide), me (by omega) (by omega)]
 omega
abbrev Ask (a0 : List Formula) (f : Formula × Formula → Option Int) (p q : Int) (b : Bool) : Prop := ∃ x y r, mQ a0 p = some x ∧ mQ a0 q = some y ∧ f (x, y) = some r ∧ decide (r < 0) = b
theorem Ud (a0 : List Formula) (p : Int) (b : Nat → Bool) (lo a : Nat) (F : a ≤ 1000000) (u : ∀ h, lo ≤ h → h < a → Ask a0 f (h : Int) p (b h)) : ∀ (d n i j : Nat), j - i ≤ d → d < n → lo ≤ i → i ≤ j → j ≤ a → (i = lo ∨ b (i - 1) = true) → (j = a ∨ b j = false) →
  ∃ t I, lo ≤ t ∧ t ≤ a ∧ (t = lo ∨ b (t - 1) = true) ∧ (t = a ∨ b t = false) ∧ mD a0 p f n (i : Int) (j : Int) = mD a0 p f (I + 1) (t : Int) (t : Int) := by
 intro d
 induction d with
 | zero =>
  intro n i j h1 G g D k l m
  obtain ⟨n, rfl⟩ := aS (by omega : n ≠ 0)
  obtain rfl : i = j := by omega
  exact ⟨i, n, g, k, l, m, rfl⟩
 | succ d ih =>
  intro n i j h1 G g D k l m
  obtain ⟨n, rfl⟩ := aS (by omega : n ≠ 0)
  by_cases q : i = j
  ·subst q; exact ⟨i, n, g, k, l, m, rfl⟩
  have E := DC (i + j) (x := (i : Int) + (j : Int)) (by omega) (by omega)
  obtain ⟨x, y, r, v, w, z, A⟩ := u ((i + j) / 2) (by omega) (by omega)
  rw [mD]
  have s : ((i : Int) < (j : Int)) := by omega
  simp only [s, bZ, aM, E, v, w, z, A, aA]
  cases hp : b ((i + j) / 2)
  ·simp only [aB, aG]
   exact ih n i ((i + j) / 2) (by omega) (by omega) g (by omega) (by omega) l (.inr hp)
  ·simp only [aM]
   rw [oD ((i + j) / 2 + 1) (by omega) (by omega)]
   exact ih n ((i + j) / 2 + 1) j (by omega) (by omega) (by omega) (by omega) k (.inr (by simpa using hp)) m
theorem Uv (a0 : List Formula) (a2 : Int) (b : Nat → Bool) (lo a : Nat) (E : a ≤ 1000000) (s : ∀ h, lo ≤ h → h < a → Ask a0 f a2 (h : Int) (!b h)) : ∀ (d n i j : Nat), j - i ≤ d → d < n → lo ≤ i → i ≤ j → j ≤ a → (i = lo ∨ b (i - 1) = true) → (j = a ∨ b j = false) →
  ∃ t G, lo ≤ t ∧ t ≤ a ∧ (t = lo ∨ b (t - 1) = true) ∧ (t = a ∨ b t = false) ∧ mF a0 a2 f n (i : Int) (j : Int) = mF a0 a2 f (G + 1) (t : Int) (t : Int) := by
 intro d
 induction d with
 | zero =>
  intro n i j h1 F g A k l m
  obtain ⟨n, rfl⟩ := aS (by omega : n ≠ 0)
  obtain rfl : i = j := by omega
  exact ⟨i, n, g, k, l, m, rfl⟩
 | succ d ih =>
  intro n i j h1 F g A k l m
  obtain ⟨n, rfl⟩ := aS (by omega : n ≠ 0)
  by_cases p : i = j
  ·subst p; exact ⟨i, n, g, k, l, m, rfl⟩
  have D := DC (i + j) (x := (i : Int) + (j : Int)) (by omega) (by omega)
  obtain ⟨x, y, r, u, v, w, z⟩ := s ((i + j) / 2) (by omega) (by omega)
  rw [mF]
  have q : ((i : Int) < (j : Int)) := by omega
  simp only [q, bZ, aM, D, u, v, w, z, aA, jk]
  cases hp : b ((i + j) / 2)
  ·simp only [aB, aG]
   exact ih n i ((i + j) / 2) (by omega) (by omega) g (by omega) (by omega) l (.inr hp)
  ·simp only [aM]
   rw [oD ((i + j) / 2 + 1) (by omega) (by omega)]
   exact ih n ((i + j) / 2 + 1) j (by omega) (by omega) (by omega) (by omega) k (.inr (by simpa using hp)) m
theorem Tt (x : Formula) : ∀ (P Q R : List Formula) (n : Nat) (k i : Int), P.length < n → (Q ++ x :: (P ++ R)).length ≤ 1000000 → k = (Q.length : Int) → i = ((Q.length + P.length + 1 : Nat) : Int) → nA i n (Q ++ x :: (P ++ R)) k = some (Q ++ (P ++ x :: R))
 | [], Q, R, n, k, i, b, d, hk, a => by
  obtain ⟨n, rfl⟩ := aS (by simp at b; omega : n ≠ 0)
  simp only [aF, aJ, bU] at d a
  rw [nA, oD Q.length (by omega) (by omega)]
  have : ¬ (k < (Q.length : Int)) := by omega
  simp [this]
 | y :: P, Q, R, n, k, i, b, d, hk, a => by
  obtain ⟨n, rfl⟩ := aS (by simp at b; omega : n ≠ 0)
  simp only [aF, aJ] at d a b
  have h : Q ++ x :: (y :: P ++ R) = Q ++ x :: ([] ++ y :: (P ++ R)) := rfl
  have j : IntKind.i64.wrap (k + 1) = ((Q.length + 1 + ([] : List Formula).length : Nat) : Int) := oD _ (by simp; omega) (by simp; omega)
  have i1 : mQ (Q ++ x :: ([] ++ y :: (P ++ R))) ((Q.length + 1 + ([] : List Formula).length : Nat) : Int) = some y := by
   have := nR (Q ++ [x]) y (P ++ R) ((Q.length + 1 + ([] : List Formula).length : Nat) : Int) (by simp)
   simpa using this
  have i2 : mQ (Q ++ x :: ([] ++ y :: (P ++ R))) k = some x := nR _ _ _ _ hk
  rw [nA, oD (Q.length + P.length + 1) (by omega) (by omega), h]
  have g : k < ((Q.length + P.length + 1 : Nat) : Int) := by omega
  have kn : k.toNat = Q.length := by omega
  simp only [g, bZ, aM, j, i1, i2, aA, kn]
  have i3 : mQ ((Q ++ x :: ([] ++ y :: (P ++ R))).set Q.length y) ((Q.length + 1 + ([] : List Formula).length : Nat) : Int) = some y := by
   rw [Fu]
   have := nR (Q ++ [y]) y (P ++ R) ((Q.length + 1 + ([] : List Formula).length : Nat) : Int) (by simp)
   simpa using this
  rw [i3, aA, dO, MY, Gf]
  have := Tt x P (Q ++ [y]) R n ((Q.length + 1 + ([] : List Formula).length : Nat) : Int) i (by omega) (by simp; omega) (by simp) (by rw [a]; simp; omega)
  simpa using this
theorem Uo (x : Formula) : ∀ (k : Nat) (S Q R : List Formula) (n : Nat) (j i : Int), S.length = k → k < n → (Q ++ (S ++ x :: R)).length ≤ 1000000 → j = ((Q.length + S.length : Nat) : Int) → i = (Q.length : Int) → nz i n (Q ++ (S ++ x :: R)) j = some (Q ++ x :: (S ++ R)) := by
 intro k
 induction k with
 | zero =>
  intro S Q R n j i hk m h a g
  obtain ⟨n, rfl⟩ := aS (by omega : n ≠ 0)
  obtain rfl := aU hk
  rw [nz]
  simp only [bU, je] at a
  have : ¬ (j > i) := by omega
  simp [this]
 | succ k ih =>
  intro S Q R n j i hk m h a g
  obtain ⟨n, rfl⟩ := aS (by omega : n ≠ 0)
  rcases dG S with rfl | ⟨S, z, rfl⟩
  ·simp at hk
  simp only [eF, aF, aJ, bU] at hk a h ⊢
  have l : Q ++ (S ++ [z] ++ x :: R) = (Q ++ S) ++ z :: ([] ++ x :: R) := by simp
  have q : IntKind.i64.wrap (j - 1) = ((Q ++ S).length : Int) := oD _ (by simp; omega) (by simp; omega)
  have b : j = (((Q ++ S).length + 1 + ([] : List Formula).length : Nat) : Int) := by rw [a]; simp; omega
  have i1 : mQ ((Q ++ S) ++ z :: ([] ++ x :: R)) j = some x := by
   have := nR (Q ++ S ++ [z]) x R j (by rw [b]; simp; omega)
   simpa using this
  have i2 : mQ ((Q ++ S) ++ z :: ([] ++ x :: R)) ((Q ++ S).length : Int) = some z := nR _ _ _ _ rfl
  rw [nz, l]
  have d : j > i := by omega
  have p : j.toNat = (Q ++ S).length + 1 + ([] : List Formula).length := by omega
  simp only [d, bZ, aM, q, i1, i2, aA, p]
  have i3 : mQ (((Q ++ S) ++ z :: ([] ++ x :: R)).set ((Q ++ S).length + 1 + ([] : List Formula).length) z) ((Q ++ S).length : Int) = some z := by
   have : ((Q ++ S) ++ z :: ([] ++ x :: R)).set ((Q ++ S).length + 1 + ([] : List Formula).length) z = (Q ++ S) ++ z :: (z :: R) := by
    have := KD (Q ++ S ++ [z]) R x z ((Q ++ S).length + 1 + ([] : List Formula).length) (by simp; omega)
    simpa using this
   rw [this]; exact nR _ _ _ _ rfl
  rw [i3, aA, dO, MY, Nt]
  have := ih S Q (z :: R) n ((Q ++ S).length : Int) i (by omega) (by omega) (by simp; omega) (by simp) g
  simpa using this
end
end Go.Proofs.YtklbhegeiijbjaaGreat
namespace Go.Proofs.YtklbhegeiijbjaaGreat
open Go.RowKit
section
variable {c : Formula → Formula → Int} {G : Formula → Prop} {f : Formula × Formula → Option Int}
theorem TH (a0 : List Formula) (k a3 a2 : Int) (rec : List Formula → Int → Int → Int → ((Formula × Formula) → Option Int) → Option (List Formula)) (mid m p : Nat) (l : k + a3 = ((2 * mid : Nat) : Int) ∨ k + a3 = ((2 * mid + 1 : Nat) : Int)) (hm : a2 = (m : Int)) (hp : p + 1 = mid + m) (g : Nat → Bool) (lo a : Nat) (M : a ≤ 1000000) (P : mid ≤ 1000000) (O : mid + m ≤ 2000000) (hle : a ≤ p + 1) (D : ∀ h, lo ≤ h → h < a → Ask a0 f ((p - h : Nat) : Int) (h : Int) (!g h)) : ∀ (d n i j : Nat), j - i ≤ d → d < n → lo ≤ i → i ≤ j → j ≤ a → (i = lo ∨ g (i - 1) = true) → (j = a ∨ g j = false) →
  ∃ t R, lo ≤ t ∧ t ≤ a ∧ (t = lo ∨ g (t - 1) = true) ∧ (t = a ∨ g t = false) ∧ mn a0 k a3 a2 f rec n (i : Int) (j : Int) = mn a0 k a3 a2 f rec (R + 1) (t : Int) (t : Int) := by
 have b : IntKind.i64.wrap (Int.fdiv (IntKind.u64.wrap (IntKind.i64.wrap (k + a3))) (2 ^ min (Int.toNat 1) (IntKind.bits .u64))) = (mid : Int) := by
  rcases l with h | h
  ·rw [DC _ h (by omega), show 2 * mid / 2 = mid by omega]
  ·rw [DC _ h (by omega), show (2 * mid + 1) / 2 = mid by omega]
 intro d
 induction d with
 | zero =>
  intro n i j h1 Q s J u v w
  obtain ⟨n, rfl⟩ := aS (by omega : n ≠ 0)
  obtain rfl : i = j := by omega
  exact ⟨i, n, s, u, v, w, rfl⟩
 | succ d ih =>
  intro n i j h1 Q s J u v w
  obtain ⟨n, rfl⟩ := aS (by omega : n ≠ 0)
  by_cases z : i = j
  ·subst z; exact ⟨i, n, s, u, v, w, rfl⟩
  have L := DC (i + j) (x := (i : Int) + (j : Int)) (by omega) (by omega)
  obtain ⟨x, y, r, E, F, G, I⟩ := D ((i + j) / 2) (by omega) (by omega)
  have T : IntKind.i64.wrap ((mid : Int) + a2) = ((mid + m : Nat) : Int) := oD _ (by omega) (by omega)
  have U : IntKind.i64.wrap (((mid + m : Nat) : Int) - 1) = (p : Int) := oD _ (by omega) (by omega)
  have W : IntKind.i64.wrap ((p : Int) - (((i + j) / 2 : Nat) : Int)) = ((p - (i + j) / 2 : Nat) : Int) := oD _ (by omega) (by omega)
  rw [mn]
  have A : ((i : Int) < (j : Int)) := by omega
  simp only [A, bZ, aM, L, b, T, U, W, E, F, G, I, aA, jk]
  cases q : g ((i + j) / 2)
  ·simp only [aB, aG]
   exact ih n i ((i + j) / 2) (by omega) (by omega) s (by omega) (by omega) v (.inr q)
  ·simp only [aM]
   rw [oD ((i + j) / 2 + 1) (by omega) (by omega)]
   exact ih n ((i + j) / 2 + 1) j (by omega) (by omega) (by omega) (by omega) u (.inr (by simpa using q)) w
theorem Sq (a0 : List Formula) (b a3 a2 : Int) (rec : List Formula → Int → Int → Int → ((Formula × Formula) → Option Int) → Option (List Formula)) (mid m t n : Nat) (d : b + a3 = ((2 * mid : Nat) : Int) ∨ b + a3 = ((2 * mid + 1 : Nat) : Int)) (hm : a2 = (m : Int)) (s : mid ≤ 1000000) (r : mid + m ≤ 2000000) (y : t ≤ mid + m) :
  mn a0 b a3 a2 f rec (n + 1) (t : Int) (t : Int) =
   ((if t < m ∧ m < mid + m - t then nT a0 (t : Int) a2 ((mid + m - t : Nat) : Int) f else some a0).bind fun l => ((if b < (t : Int) ∧ t < mid then rec l b (t : Int) (mid : Int) f else some l).bind fun l => if mid < mid + m - t ∧ ((mid + m - t : Nat) : Int) < a3 then rec l (mid : Int) ((mid + m - t : Nat) : Int) a3 f else some l)) := by
 have a : IntKind.i64.wrap (Int.fdiv (IntKind.u64.wrap (IntKind.i64.wrap (b + a3))) (2 ^ min (Int.toNat 1) (IntKind.bits .u64))) = (mid : Int) := by
  rcases d with h | h
  ·rw [DC _ h (by omega), show 2 * mid / 2 = mid by omega]
  ·rw [DC _ h (by omega), show (2 * mid + 1) / 2 = mid by omega]
 have v : IntKind.i64.wrap ((mid : Int) + a2) = ((mid + m : Nat) : Int) := oD _ (by omega) (by omega)
 have w : IntKind.i64.wrap (((mid + m : Nat) : Int) - (t : Int)) = ((mid + m - t : Nat) : Int) := oD _ (by omega) (by omega)
 rw [mn]
 simp only [Int.lt_irrefl, cC, aB, aG, a, v, w, pV]
 subst hm
 have g : ((t : Int) < (m : Int)) = (t < m) := by simp
 have i : ((m : Int) < ((mid + m - t : Nat) : Int)) = (m < mid + m - t) := by rw [iW]; omega
 have j : ((t : Int) < (mid : Int)) = (t < mid) := by simp
 have k : ((mid : Int) < ((mid + m - t : Nat) : Int)) = (mid < mid + m - t) := by rw [iW]; omega
 simp only [g, i, j, k]
 have key : ∀ (p q : Prop) [Decidable p] [Decidable q] (A B : Option (List Formula)), ((if decide p = true then some (decide q) else some false : Option Bool).bind fun x => if x = true then A else B) = if p ∧ q then A else B := by
  intro p q _ _ A B
  by_cases hp : p <;> by_cases u : q <;> simp [hp, u]
 simp only [key]
theorem Na (p A q : List Formula) (h : Nat) (b : p.length ≤ h) (h1 : h < p.length + A.length) : ∃ x, A[h - p.length]? = some x ∧ mQ (p ++ (A ++ q)) (h : Int) = some x := by
 obtain ⟨x, a⟩ : ∃ x, A[h - p.length]? = some x := ⟨_, dB (by omega)⟩
 refine ⟨x, a, ?_⟩
 rw [Fv, fU b, iJ (by omega), a]
end
end Go.Proofs.YtklbhegeiijbjaaGreat
namespace Go.Proofs.YtklbhegeiijbjaaGreat
open Go.RowKit
section
variable {c : Formula → Formula → Int} {G : Formula → Prop} {f : Formula × Formula → Option Int}
theorem D1 {α : Type} {P A' : List α} {z : α} (S : List α) (h : P = A' ++ [z]) : (P ++ S)[P.length - 1]? = some z := by subst h; simp
theorem DK {α : Type} {S B' : List α} {z : α} (P : List α) (h : S = z :: B') : (P ++ S)[P.length]? = some z := by subst h; simp
theorem zf {A : List (Formula × Nat)} {i : Nat} {z : Formula × Nat} (h : A[i]? = some z) : (A.map (·.1))[i]? = some z.1 := by simp [h]
theorem Te (h : SWO (oE c)) (Q : De f c G) (x : Formula × Nat) (B : List (Formula × Nat)) (pre post : List Formula) (a m b : Int) (I : pw (oE c) B) (U : ∀ y ∈ B, x.2 < y.2) (w : ∀ y ∈ x :: B, G y.1) (R : (pre ++ x.1 :: (B.map (·.1) ++ post)).length ≤ 400000) (ha : a = (pre.length : Int)) (hm : m = ((pre.length + 1 : Nat) : Int)) (O : b = ((pre.length + 1 + B.length : Nat) : Int)) :
  ∃ u, mD (pre ++ x.1 :: (B.map (·.1) ++ post)) a f lB m b = some (pre ++ (u.map (·.1) ++ post)) ∧ pw (oE c) u ∧ u.Perm (x :: B) := by
 have r := R
 simp only [aF, aJ, dC] at r
 let g : Nat → Bool := fun k => match (B.map (·.1))[k - (pre.length + 1)]? with | some y => oE c y x.1 | none => false
 have j : ∀ k, pre.length + 1 ≤ k → k < pre.length + 1 + B.length → Ask (pre ++ x.1 :: (B.map (·.1) ++ post)) f (k : Int) a (g k) := by
  intro k h1 Z
  obtain ⟨y, s, A⟩ := Na (pre ++ [x.1]) (B.map (·.1)) post k (by simp; omega) (by simp; omega)
  have D : mQ (pre ++ x.1 :: (B.map (·.1) ++ post)) (k : Int) = some y := by simpa using A
  have E : mQ (pre ++ x.1 :: (B.map (·.1) ++ post)) a = some x.1 := nR _ _ _ _ ha
  have W : G y := by
   obtain ⟨q, T, rfl⟩ := bO.1 (dP s)
   exact w q (by simp [T])
  refine ⟨y, x.1, _, D, E, Q y x.1 W (w x (by simp)), ?_⟩
  simp only [aF, aJ, bU] at s
  simp only [g, s]
 obtain ⟨t, n', t1, t2, t3, t4, e⟩ := Ud (f := f) _ a g (pre.length + 1) (pre.length + 1 + B.length) (by omega) j B.length lB (pre.length + 1) (pre.length + 1 + B.length) (by omega) (by rw [nh]; omega) (aZ _) (by omega) (aZ _) (.inl rfl) (.inl rfl)
 rw [hm, O, e, mD]
 simp only [Int.lt_irrefl, cC, aB, aG, pV]
 obtain ⟨P, S, rfl, J⟩ := xv (l := B) (n := t - (pre.length + 1)) (by omega)
 simp only [aF] at r t2 t4
 have F : pre ++ x.1 :: ((P ++ S).map (·.1) ++ post) = pre ++ x.1 :: (P.map (·.1) ++ (S.map (·.1) ++ post)) := by simp
 rw [F, Tt x.1 (P.map (·.1)) pre (S.map (·.1) ++ post) lB a (t : Int) (by rw [nh]; simp; omega) (by simp; omega) ha (by simp; omega)]
 refine ⟨P ++ x :: S, by simp, H9 h I ?_ ?_, gL⟩
 ·intro A' z v B' i d
  simp only [bE] at d
  rw [← d.1]
  have L : 0 < P.length := by rw [i]; simp
  have hp : g (t - 1) = true := by
   rcases t3 with t3 | t3
   ·omega
   ·exact t3
  have p := zf (D1 S i)
  rw [show P.length - 1 = t - 1 - (pre.length + 1) by omega] at p
  simp only [g, p] at hp
  exact .inl hp
 ·intro A' z v B' i d
  have Y : z = x := by
   cases A' with
   | nil => simpa using i.symm
   | cons _ A' => simp at i
  rw [Y]
  have M : 0 < S.length := by rw [d]; simp
  have hp : g t = false := by
   rcases t4 with t4 | t4
   ·omega
   ·exact t4
  have p := zf (DK P d)
  rw [J] at p
  simp only [g, p] at hp
  exact .inr ⟨hp, U v (by rw [d]; simp)⟩
theorem To (h : SWO (oE c)) (M : De f c G) (y : Formula × Nat) (A : List (Formula × Nat)) (pre post : List Formula) (a m : Int) (F : pw (oE c) A) (R : ∀ x ∈ A, x.2 < y.2) (s : ∀ x ∈ y :: A, G x.1) (O : (pre ++ (A.map (·.1) ++ y.1 :: post)).length ≤ 400000) (ha : a = (pre.length : Int)) (hm : m = ((pre.length + A.length : Nat) : Int)) :
  ∃ u, mF (pre ++ (A.map (·.1) ++ y.1 :: post)) m f lB a m = some (pre ++ (u.map (·.1) ++ post)) ∧ pw (oE c) u ∧ u.Perm (A ++ [y]) := by
 have p := O
 simp only [aF, aJ, dC] at p
 let g : Nat → Bool := fun k => match (A.map (·.1))[k - pre.length]? with | some x => !oE c y.1 x | none => false
 have i : ∀ k, pre.length ≤ k → k < pre.length + A.length → Ask (pre ++ (A.map (·.1) ++ y.1 :: post)) f m (k : Int) (!g k) := by
  intro k h1 W
  obtain ⟨x, r, w⟩ := Na pre (A.map (·.1)) (y.1 :: post) k h1 (by simp; omega)
  have D : mQ (pre ++ (A.map (·.1) ++ y.1 :: post)) m = some y.1 := by
   have := nR (pre ++ A.map (·.1)) y.1 post m (by rw [hm]; simp)
   simpa using this
  have T : G x := by
   obtain ⟨q, Q, rfl⟩ := bO.1 (dP r)
   exact s q (by simp [Q])
  refine ⟨y.1, x, _, D, w, M y.1 x (s y (by simp)) T, ?_⟩
  simp only [g, r, jk]
 obtain ⟨t, Y, t1, t2, t3, t4, e⟩ := Uv (f := f) _ m g pre.length (pre.length + A.length) (by omega) i A.length lB pre.length (pre.length + A.length) (by omega) (by rw [nh]; omega) (aZ _) (by omega) (aZ _) (.inl rfl) (.inl rfl)
 rw [← hm, ← ha] at e
 rw [e, mF]
 simp only [Int.lt_irrefl, cC, aB, aG, pV]
 obtain ⟨P, S, rfl, I⟩ := xv (l := A) (n := t - pre.length) (by omega)
 simp only [aF] at p t2 t4 hm
 have E : pre ++ ((P ++ S).map (·.1) ++ y.1 :: post) = (pre ++ P.map (·.1)) ++ (S.map (·.1) ++ y.1 :: post) := by simp
 rw [E, Uo y.1 S.length (S.map (·.1)) (pre ++ P.map (·.1)) post lB m (t : Int) (by simp) (by rw [nh]; omega) (by simp; omega) (by rw [hm]; simp; omega) (by simp; omega)]
 refine ⟨P ++ y :: S, by simp, H9 h F ?_ ?_, List.perm_middle.trans (iE y (P ++ S)).symm⟩
 ·intro A' z v B' b d
  simp only [bE] at d
  rw [← d.1]
  have J : 0 < P.length := by rw [b]; simp
  have hp : g (t - 1) = true := by
   rcases t3 with t3 | t3
   ·omega
   ·exact t3
  have j := zf (D1 S b)
  rw [show P.length - 1 = t - 1 - pre.length by omega] at j
  simp only [g, j, iy] at hp
  exact .inr ⟨hp, R z (by rw [b]; simp)⟩
 ·intro A' z v B' b d
  have U : z = y := by
   cases A' with
   | nil => simpa using b.symm
   | cons _ A' => simp at b
  rw [U]
  have L : 0 < S.length := by rw [d]; simp
  have hp : g t = false := by
   rcases t4 with t4 | t4
   ·omega
   ·exact t4
  have j := zf (DK P d)
  rw [I] at j
  simp only [g, j, Bool.not_eq_false'] at hp
  exact .inl hp
theorem OM {α : Type} {A1 A2 B1 B2 C1 C2 : List α} (a : C1.Perm (A1 ++ B1)) (b : C2.Perm (A2 ++ B2)) : (C1 ++ C2).Perm ((A1 ++ A2) ++ (B1 ++ B2)) := by
 refine (a.append b).trans ?_
 simp only [aN]
 refine cJ A1 ?_
 exact iw B1 A2 B2
def Qa (c : Formula → Formula → Int) (A B : List Formula) (a b p q : Nat) : Bool := match A[q - a]?, B[p - q - b]? with | some x, some y => !oE c y x | _, _ => false
theorem JD {A B : List Formula} {a b p q : Nat} {x y : Formula} (h1 : A[q - a]? = some x) (d : B[p - q - b]? = some y) : Qa c A B a b p q = !oE c y x := by simp only [Qa, h1, d]
theorem TX (l : De f c G) (A B : List (Formula × Nat)) (pre post : List Formula) (a p : Nat) (m : a = pre.length + A.length) (h : ∀ x ∈ A ++ B, G x.1) (q : Nat) (s : pre.length ≤ q) (t : q < a) (u : a ≤ p - q) (v : p - q < a + B.length) :
  Ask (pre ++ (A.map (·.1) ++ (B.map (·.1) ++ post))) f ((p - q : Nat) : Int) (q : Int) (!Qa c (A.map (·.1)) (B.map (·.1)) pre.length a p q) := by
 obtain ⟨x, g, i⟩ := Na pre (A.map (·.1)) (B.map (·.1) ++ post) q s (by simp; omega)
 obtain ⟨y, b, j⟩ := Na (pre ++ A.map (·.1)) (B.map (·.1)) post (p - q) (by simp; omega) (by simp; omega)
 have n : G x := by
  obtain ⟨z, d, rfl⟩ := bO.1 (dP g)
  exact h z (by simp [d])
 have r : G y := by
  obtain ⟨z, d, rfl⟩ := bO.1 (dP b)
  exact h z (by simp [d])
 have k : mQ (pre ++ (A.map (·.1) ++ (B.map (·.1) ++ post))) ((p - q : Nat) : Int) = some y := by simpa using j
 refine ⟨y, x, _, k, i, l y x r n, ?_⟩
 rw [show p - q - (pre ++ A.map (·.1)).length = p - q - a by simp; omega] at b
 rw [JD g b, jk]
abbrev Uf (c : Formula → Formula → Int) (G : Formula → Prop) (f : Formula × Formula → Option Int) (rec : List Formula → Int → Int → Int → ((Formula × Formula) → Option Int) → Option (List Formula)) (k : Nat) : Prop :=
 ∀ (A B : List (Formula × Nat)) (pre post : List Formula) (a m b : Int), A.length + B.length ≤ k → 0 < A.length → 0 < B.length → pw (oE c) A → pw (oE c) B →
  (∀ x ∈ A, ∀ y ∈ B, x.2 < y.2) → (∀ x ∈ A ++ B, G x.1) → (pre ++ (A.map (·.1) ++ (B.map (·.1) ++ post))).length ≤ 400000 → a = (pre.length : Int) → m = ((pre.length + A.length : Nat) : Int) → b = ((pre.length + A.length + B.length : Nat) : Int) →
  ∃ u, rec (pre ++ (A.map (·.1) ++ (B.map (·.1) ++ post))) a m b f = some (pre ++ (u.map (·.1) ++ post)) ∧ pw (oE c) u ∧ u.Perm (A ++ B)
theorem Sh (h : SWO (oE c)) {rec : List Formula → Int → Int → Int → ((Formula × Formula) → Option Int) → Option (List Formula)} {k : Nat} (ih : Uf c G f rec k) (A1 A2 B1 B2 : List (Formula × Nat)) (pre post : List Formula) (a m b : Int) (mid d t : Nat) (M : d = pre.length + (A1.length + A2.length)) (P : mid = (pre.length + (d + (B1.length + B2.length))) / 2) (J : A1.length = t - pre.length) (L : B1.length = mid - t) (Q : pre.length ≤ t) (R : t ≤ mid) (T : t ≤ d) (hk : A1.length + A2.length + (B1.length + B2.length) ≤ k + 1) (O : 2 ≤ A1.length + A2.length + (B1.length + B2.length)) (p : pw (oE c) (A1 ++ A2)) (q : pw (oE c) (B1 ++ B2)) (I : ∀ x ∈ A1 ++ A2, ∀ y ∈ B1 ++ B2, x.2 < y.2) (F : ∀ x ∈ (A1 ++ A2) ++ (B1 ++ B2), G x.1) (hl : pre.length + (A1.length + A2.length + (B1.length + B2.length + post.length)) ≤ 400000) (ha : a = (pre.length : Int)) (hm : m = (d : Int)) (hb : b = ((d + (B1.length + B2.length) : Nat) : Int)) (U : Lk (oE c) A1 B2) (W : Lk (oE c) B1 A2) :
  ∃ u, ((if t < d ∧ d < mid + d - t then nT (pre ++ ((A1 ++ A2).map (·.1) ++ ((B1 ++ B2).map (·.1) ++ post))) (t : Int) m ((mid + d - t : Nat) : Int) f else some (pre ++ ((A1 ++ A2).map (·.1) ++ ((B1 ++ B2).map (·.1) ++ post)))).bind fun l =>
   ((if a < (t : Int) ∧ t < mid then rec l a (t : Int) (mid : Int) f else some l).bind fun l => if mid < mid + d - t ∧ ((mid + d - t : Nat) : Int) < b then rec l (mid : Int) ((mid + d - t : Nat) : Int) b f else some l)) = some (pre ++ (u.map (·.1) ++ post)) ∧ pw (oE c) u ∧ u.Perm ((A1 ++ A2) ++ (B1 ++ B2)) := by
 have Y : (if t < d ∧ d < mid + d - t then nT (pre ++ ((A1 ++ A2).map (·.1) ++ ((B1 ++ B2).map (·.1) ++ post))) (t : Int) m ((mid + d - t : Nat) : Int) f else some (pre ++ ((A1 ++ A2).map (·.1) ++ ((B1 ++ B2).map (·.1) ++ post)))) =
   some (pre ++ (A1.map (·.1) ++ (B1.map (·.1) ++ (A2.map (·.1) ++ (B2.map (·.1) ++ post))))) := by
  by_cases i : t < d ∧ d < mid + d - t
  ·rw [aY i]
   have := Un (f := f) (A2.map (·.1)) (B1.map (·.1)) (pre ++ A1.map (·.1)) (B2.map (·.1) ++ post) (t : Int) m ((mid + d - t : Nat) : Int) (by simp; omega) (by simp; omega) (by simp; omega) (by simp; omega) (by simp; omega) (by simp; omega)
   simpa using this
  ·rw [bA i]
   have : A2 = [] ∨ B1 = [] := by
    by_cases h1 : A2.length = 0
    ·exact .inl (aU h1)
    ·exact .inr (aU (by omega))
   rcases this with rfl | rfl <;> simp
 rw [Y, aA]
 have Z : ∃ C1, (if a < (t : Int) ∧ t < mid then rec (pre ++ (A1.map (·.1) ++ (B1.map (·.1) ++ (A2.map (·.1) ++ (B2.map (·.1) ++ post))))) a (t : Int) (mid : Int) f else some (pre ++ (A1.map (·.1) ++ (B1.map (·.1) ++ (A2.map (·.1) ++ (B2.map (·.1) ++ post)))))) =
   some (pre ++ (C1.map (·.1) ++ (A2.map (·.1) ++ (B2.map (·.1) ++ post)))) ∧ pw (oE c) C1 ∧ C1.Perm (A1 ++ B1) := by
  by_cases i : a < (t : Int) ∧ t < mid
  ·rw [aY i]
   exact ih A1 B1 pre (A2.map (·.1) ++ (B2.map (·.1) ++ post)) a t mid (by omega) (by omega) (by omega) p.left q.left (fun x g y A => I x (by simp [g]) y (by simp [A])) (fun x g => F x (by simp at g ⊢; rcases g with g | g <;> simp [g]))
    (by simp; omega) ha (by omega) (by omega)
  ·rw [bA i]
   refine ⟨A1 ++ B1, by simp, JF h p.left q.left (fun A' x y B' D E => ?_), .refl _⟩
   have g1 : 0 < A1.length := by rw [D]; simp
   have g2 : 0 < B1.length := by rw [E]; simp
   omega
 obtain ⟨C1, r, v, j⟩ := Z
 have s := j.length_eq
 simp only [aF] at s
 rw [r, aA]
 have r3 : ∃ C2, (if mid < mid + d - t ∧ ((mid + d - t : Nat) : Int) < b then rec (pre ++ (C1.map (·.1) ++ (A2.map (·.1) ++ (B2.map (·.1) ++ post)))) (mid : Int) ((mid + d - t : Nat) : Int) b f else some (pre ++ (C1.map (·.1) ++ (A2.map (·.1) ++ (B2.map (·.1) ++ post))))) =
   some ((pre ++ C1.map (·.1)) ++ (C2.map (·.1) ++ post)) ∧ pw (oE c) C2 ∧ C2.Perm (A2 ++ B2) := by
  by_cases i : mid < mid + d - t ∧ ((mid + d - t : Nat) : Int) < b
  ·rw [aY i]
   have := ih A2 B2 (pre ++ C1.map (·.1)) post mid ((mid + d - t : Nat) : Int) b (by omega) (by omega) (by omega) p.right q.right (fun x g y A => I x (by simp [g]) y (by simp [A])) (fun x g => F x (by simp at g ⊢; rcases g with g | g <;> simp [g]))
    (by simp; omega) (by simp; omega) (by simp; omega) (by simp; omega)
   simpa using this
  ·rw [bA i]
   refine ⟨A2 ++ B2, by simp, JF h p.right q.right (fun A' x y B' D E => ?_), .refl _⟩
   have g1 : 0 < A2.length := by rw [D]; simp
   have g2 : 0 < B2.length := by rw [E]; simp
   omega
 obtain ⟨C2, w, z, n⟩ := r3
 rw [w]
 exact ⟨C1 ++ C2, by simp, Q6 h p q U W j n v z, OM j n⟩
theorem O0 (F : Nat) (I : 1000000 < F) (L : List Formula) (rec : List Formula → Int → Int → Int → ((Formula × Formula) → Option Int) → Option (List Formula)) (pl g h mid d p : Nat) (a b m : Int) (r : Nat → Bool) (w : 0 < g) (y : 0 < h) (D : pl + (g + h) ≤ 400000) (A : mid = (pl + (pl + g + h)) / 2) (z : d = pl + g) (hp : p + 1 = mid + d) (l : a + b = ((2 * mid : Nat) : Int) ∨ a + b = ((2 * mid + 1 : Nat) : Int)) (ha : a = (pl : Int)) (k : m = (d : Int)) (J : b = ((pl + g + h : Nat) : Int)) (i : ∀ q, pl ≤ q → q < d → d ≤ p - q → p - q < d + h → Ask L f ((p - q : Nat) : Int) (q : Int) (!r q)) :
  ∃ t n lo s : Nat, (lo = pl ∧ s = d ∧ d ≤ mid ∨ lo + (pl + g + h) = mid + d ∧ s = mid ∧ mid < d) ∧ lo ≤ t ∧ t ≤ s ∧ (t = lo ∨ r (t - 1) = true) ∧ (t = s ∨ r t = false) ∧
    ((if decide (m > (mid : Int)) then some (IntKind.i64.wrap (((mid + d : Nat) : Int) - b), (mid : Int)) else some (a, m) : Option (Int × Int)).bind fun x => mn L a b m f rec F x.1 x.2) =
     mn L a b m f rec (n + 1) (t : Int) (t : Int) := by
 by_cases v : mid < d
 ·obtain ⟨lo, u⟩ : ∃ lo : Nat, lo + (pl + g + h) = mid + d := ⟨mid + d - (pl + g + h), by omega⟩
  obtain ⟨t, n, t1, t2, t3, t4, e⟩ := TH (f := f) L a b m rec mid d p l k hp r lo mid (by omega) (by omega) (by omega) (by omega) (fun q E G => i q (by omega) (by omega) (by omega) (by omega))
   (mid - lo) F lo mid (aZ _) (by omega) (aZ _) (by omega) (aZ _) (.inl rfl) (.inl rfl)
  refine ⟨t, n, lo, mid, .inr ⟨u, rfl, v⟩, t1, t2, t3, t4, ?_⟩
  have j : m > (mid : Int) := by omega
  simp only [j, bZ, aM, aA]
  rw [oD lo (by omega) (by omega), e]
 ·obtain ⟨t, n, t1, t2, t3, t4, e⟩ := TH (f := f) L a b m rec mid d p l k hp r pl d (by omega) (by omega) (by omega) (by omega) (fun q E G => i q (by omega) (by omega) (by omega) (by omega))
   (d - pl) F pl d (aZ _) (by omega) (aZ _) (by omega) (aZ _) (.inl rfl) (.inl rfl)
  refine ⟨t, n, pl, d, .inl ⟨rfl, rfl, by omega⟩, t1, t2, t3, t4, ?_⟩
  have j : ¬ (m > (mid : Int)) := by omega
  simp only [j, cC, aB, aG, aA]
  rw [← e, ← ha, ← k]
set_option maxHeartbeats 2000000 in
theorem T4 (h : SWO (oE c)) (hf : De f c G) : ∀ (k : Nat) (A B : List (Formula × Nat)) (pre post : List Formula) (n : Nat) (a m b : Int), A.length + B.length ≤ k → 0 < A.length → 0 < B.length → k < n → pw (oE c) A → pw (oE c) B →
  (∀ x ∈ A, ∀ y ∈ B, x.2 < y.2) → (∀ x ∈ A ++ B, G x.1) → (pre ++ (A.map (·.1) ++ (B.map (·.1) ++ post))).length ≤ 400000 → a = (pre.length : Int) → m = ((pre.length + A.length : Nat) : Int) → b = ((pre.length + A.length + B.length : Nat) : Int) →
  ∃ u, mO n (pre ++ (A.map (·.1) ++ (B.map (·.1) ++ post))) a m b f = some (pre ++ (u.map (·.1) ++ post)) ∧ pw (oE c) u ∧ u.Perm (A ++ B) := by
 intro k
 induction k with
 | zero => intro A B pre post n a m b h0 h1 h2; omega
 | succ k ih =>
  intro A B pre post n a m b h0 h1 h2 hn hA hB U T hl ha hm O
  obtain ⟨n, rfl⟩ := aS (by omega : n ≠ 0)
  have P := hl
  simp only [aF, dC] at P
  rw [mO]
  unfold pX
  by_cases c1 : A.length = 1
  ·obtain ⟨x, rfl⟩ := List.length_eq_one_iff.1 c1
   have : (IntKind.i64.wrap (m - a) == 1) = true := by rw [oD 1 (by simp at hm; omega) (by omega)]; rfl
   simp only [this, aM]
   obtain ⟨u, u1, u2, u3⟩ := Te h hf x B pre post a m b hB (fun y hy => U x (by simp) y hy) (fun y hy => T y (by simpa using hy)) (by simpa using hl) ha (by simpa using hm) (by simpa using O)
   exact ⟨u, by simpa using u1, u2, by simpa using u3⟩
  have n1 : (IntKind.i64.wrap (m - a) == 1) = false := by rw [oD A.length (by omega) (by omega)]; simp; omega
  simp only [n1, aB, aG]
  by_cases c2 : B.length = 1
  ·obtain ⟨y, rfl⟩ := List.length_eq_one_iff.1 c2
   have : (IntKind.i64.wrap (b - m) == 1) = true := by rw [oD 1 (by simp at O; omega) (by omega)]; rfl
   simp only [this, aM]
   obtain ⟨u, u1, u2, u3⟩ := To h hf y A pre post a m hA (fun x W => U x W y (by simp)) (fun x W => T x (by simp at W ⊢; exact W.symm)) (by simpa using hl) ha hm
   exact ⟨u, by simpa using u1, u2, u3⟩
  have n2 : (IntKind.i64.wrap (b - m) == 1) = false := by rw [oD B.length (by omega) (by omega)]; simp; omega
  simp only [n2, aB, aG]
  obtain ⟨F, hF, Z⟩ : ∃ F, F = lB ∧ 1000000 < F := ⟨lB, rfl, by rw [nh]; omega⟩
  rw [← hF]
  obtain ⟨mid, E⟩ : ∃ mid : Nat, mid = (pre.length + (pre.length + A.length + B.length)) / 2 := ⟨_, rfl⟩
  obtain ⟨d, j⟩ : ∃ d : Nat, d = pre.length + A.length := ⟨_, rfl⟩
  obtain ⟨p, hp⟩ : ∃ p : Nat, p + 1 = mid + d := ⟨mid + d - 1, by omega⟩
  have w : a + b = ((2 * mid : Nat) : Int) ∨ a + b = ((2 * mid + 1 : Nat) : Int) := by omega
  have I : IntKind.i64.wrap (Int.fdiv (IntKind.u64.wrap (IntKind.i64.wrap (a + b))) (2 ^ min (Int.toNat 1) (IntKind.bits .u64))) = (mid : Int) := by
   rcases w with h | h
   ·rw [DC _ h (by omega), show 2 * mid / 2 = mid by omega]
   ·rw [DC _ h (by omega), show (2 * mid + 1) / 2 = mid by omega]
  have D : m = (d : Int) := by omega
  have w1 : IntKind.i64.wrap ((mid : Int) + m) = ((mid + d : Nat) : Int) := oD _ (by omega) (by omega)
  obtain ⟨J, r⟩ : ∃ J : Nat → Bool, J = Qa c (A.map (·.1)) (B.map (·.1)) pre.length d p := ⟨_, rfl⟩
  have M : ∀ q, pre.length ≤ q → q < d → d ≤ p - q → p - q < d + B.length → Ask (pre ++ (A.map (·.1) ++ (B.map (·.1) ++ post))) f ((p - q : Nat) : Int) (q : Int) (!J q) := fun q g i q3 q4 => by rw [r]; exact TX hf A B pre post d p j T q g i q3 q4
  obtain ⟨t, n', lo, hi, a1, t1, t2, t3, t4, e⟩ := O0 (f := f) F Z (pre ++ (A.map (·.1) ++ (B.map (·.1) ++ post))) (mO n) pre.length A.length B.length mid d p a b m J (by omega) (by omega) (by omega) E j hp w ha D O M
  simp only [I, w1]
  rw [e, Sq (f := f) _ a b m _ mid d t n' w D (by omega) (by omega) (by omega)]
  obtain ⟨A1, A2, rfl, L⟩ := xv (l := A) (n := t - pre.length) (by omega)
  obtain ⟨B1, B2, rfl, Y⟩ := xv (l := B) (n := mid - t) (by omega)
  simp only [aF] at h0 h1 h2 P t1 t2 t3 t4 a1 hm O j E
  have Q : ∀ q x y, ((A1 ++ A2).map (·.1))[q - pre.length]? = some x → ((B1 ++ B2).map (·.1))[p - q - d]? = some y → J q = !oE c y x := fun q x y s v => by rw [r]; exact JD s v
  have l1 : Lk (oE c) A1 B2 := by
   intro A' z b' B' g i
   have g1 : 0 < A1.length := by rw [g]; simp
   have g2 : 0 < B2.length := by rw [i]; simp
   have R : J (t - 1) = true := by
    rcases t3 with t3 | t3
    ·omega
    ·exact t3
   have s := zf (D1 A2 g)
   have v := zf (DK B1 i)
   rw [show A1.length - 1 = t - 1 - pre.length by omega] at s
   rw [show B1.length = p - (t - 1) - d by omega] at v
   rw [Q _ _ _ s v, iy] at R
   exact .inr ⟨R, U z (by rw [g]; simp) b' (by rw [i]; simp)⟩
  have l2 : Lk (oE c) B1 A2 := by
   intro A' z b' B' g i
   have g1 : 0 < B1.length := by rw [g]; simp
   have g2 : 0 < A2.length := by rw [i]; simp
   have R : J t = false := by
    rcases t4 with t4 | t4
    ·omega
    ·exact t4
   have s := zf (D1 B2 g)
   have v := zf (DK A1 i)
   rw [show B1.length - 1 = p - t - d by omega] at s
   rw [L] at v
   rw [Q _ _ _ v s, Bool.not_eq_false'] at R
   exact .inl R
  exact Sh h (fun A B pre post a m b g i q3 => ih A B pre post n a m b g i q3 (by omega)) A1 A2 B1 B2 pre post a m b mid d t j (by rw [E]; congr 1; omega) L Y (by omega) (by omega) (by omega) (by omega) (by omega) hA hB U T (by omega) ha D (by rw [O]; congr 1; omega) l1 l2
end
end Go.Proofs.YtklbhegeiijbjaaGreat
namespace Go.Proofs.YtklbhegeiijbjaaGreat
open Go.RowKit
section
variable {c : Formula → Formula → Int} {G : Formula → Prop} {f : Formula × Formula → Option Int}
def ym (c : Formula → Formula → Int) : Nat → List (List (Formula × Nat)) → Prop
 | _, [] => True
 | o, A :: bs => pw (oE c) A ∧ (∀ x ∈ A, o ≤ x.2 ∧ x.2 < o + A.length) ∧ ym c (o + A.length) bs
def WB (s : Nat) : List (List (Formula × Nat)) → Prop
 | [] => True
 | A :: bs => A.length ≤ s ∧ (bs ≠ [] → A.length = s) ∧ WB s bs
theorem ym.append : ∀ {ds bs : List (List (Formula × Nat))} {o : Nat}, ym c o (ds ++ bs) ↔ ym c o ds ∧ ym c (o + ds.flatten.length) bs
 | [], bs, o => by simp [ym]
 | A :: ds, bs, o => by
  simp only [bX, ym, ym.append (ds := ds), bR, aF, and_assoc, fH]
def fm (bs : List (List (Formula × Nat))) : List Formula := bs.flatten.map (·.1)
theorem IU (a b : List (List (Formula × Nat))) : fm (a ++ b) = fm a ++ fm b := by simp [fm]
theorem LH (A : List (Formula × Nat)) (b : List (List (Formula × Nat))) : fm (A :: b) = A.map (·.1) ++ fm b := by simp [fm]
theorem sm (a : List (List (Formula × Nat))) : (fm a).length = a.flatten.length := by unfold fm; rw [dC]
theorem OB (ds : List (List (Formula × Nat))) (C : List (Formula × Nat)) : (ds ++ [C]).flatten.length = ds.flatten.length + C.length := by rw [cT, aF]; simp only [bR, dK, bJ]
theorem R7 (C : List (Formula × Nat)) (bs : List (List (Formula × Nat))) : fm ([C] ++ bs) = C.map (·.1) ++ fm bs := by simp [fm]
theorem FH {R : List Formula} {o : Nat} {x : Formula × Nat} (h : x ∈ R.zipIdx o) : x.1 ∈ R := List.fst_mem_of_mem_zipIdx h
theorem WB.two {s : Nat} {A : List (Formula × Nat)} {bs : List (List (Formula × Nat))} (g : 0 < s) (h : WB s (A :: bs)) (d : s < (A :: bs).flatten.length) : A.length = s ∧ ∃ B a, bs = B :: a ∧ (B.length = s ∨ a = []) ∧ B.length ≤ s ∧ WB s a := by
 cases bs with
 | nil => simp at d; have := h.1; omega
 | cons B a =>
  refine ⟨h.2.1 (by simp), B, a, rfl, ?_, h.2.2.1, h.2.2.2.2⟩
  by_cases b : a = []
  ·exact .inr b
  ·exact .inl (h.2.2.2.1 b)
theorem Kp (h : SWO (oE c)) (u : De f c G) {ds bs : List (List (Formula × Nat))} {A B : List (Formula × Nat)} (hO : ym c 0 (ds ++ A :: B :: bs)) (s : ∀ x ∈ (ds ++ A :: B :: bs).flatten, G x.1) (i : (fm (ds ++ A :: B :: bs)).length ≤ 400000) (q : 0 < A.length) (r : 0 < B.length) (a m b : Int) (ha : a = (ds.flatten.length : Int)) (hm : m = ((ds.flatten.length + A.length : Nat) : Int)) (t : b = ((ds.flatten.length + A.length + B.length : Nat) : Int)) :
  ∃ C, mO lB (fm (ds ++ A :: B :: bs)) a m b f = some (fm ((ds ++ [C]) ++ bs)) ∧ ym c 0 ((ds ++ [C]) ++ bs) ∧ C.Perm (A ++ B) := by
 obtain ⟨h1, p⟩ := ym.append.1 hO
 obtain ⟨E, l, F, n, v⟩ := p
 have e : fm (ds ++ A :: B :: bs) = fm ds ++ (A.map (·.1) ++ (B.map (·.1) ++ fm bs)) := by rw [IU, LH, LH]
 rw [e] at i ⊢
 have j := i
 simp only [aF, dC, sm] at j
 obtain ⟨C, z, D, k⟩ := T4 h u (A.length + B.length) A B (fm ds) (fm bs) lB a m b (aZ _) q r (by rw [nh]; omega) E F (fun x d y w => by have := (l x d).2; have := (n y w).1; omega)
  (fun x d => s x (by
   rw [cT, bR, bR, aV, aV, aV]
   rcases aV.1 d with d | d
   ·exact .inr (.inl d)
   ·exact .inr (.inr (.inl d)))) i (by rw [ha, sm]) (by rw [hm, sm]) (by rw [t, sm])
 have g := k.length_eq
 simp only [aF] at g
 refine ⟨C, by rw [z, aN, IU, R7], ?_, k⟩
 ·rw [aN, ym.append]
  refine ⟨h1, D, fun x d => ?_, ?_⟩
  ·rcases aV.1 (k.mem_iff.1 d) with d | d
   ·have := l x d; omega
   ·have := n x d; omega
  ·rw [g, ← fH]; exact v
theorem JP {ds bs : List (List (Formula × Nat))} {A B C : List (Formula × Nat)} (h : C.Perm (A ++ B)) : ((ds ++ [C]) ++ bs).flatten.Perm (ds ++ A :: B :: bs).flatten := by
 simp only [cT, bR, dK, bJ, aN]
 refine cJ _ ?_
 rw [← aN]
 exact h.append_right _
theorem Qy (h : SWO (oE c)) (O : De f c G) (s : Nat) (Q : 0 < s) (R : s ≤ 1000000) (N : Nat) (hN : N ≤ 400000) : ∀ (k : Nat) (bs ds : List (List (Formula × Nat))) (n : Nat) (a b : Int), bs.length ≤ k → k < n → ym c 0 (ds ++ bs) → (∀ x ∈ (ds ++ bs).flatten, G x.1) → (ds ++ bs).flatten.length = N → WB s bs → (∀ A ∈ ds, A.length = 2 * s) →
  a = (ds.flatten.length : Int) → b = ((ds.flatten.length + 2 * s : Nat) : Int) →
  ∃ es r, nG (N : Int) (s : Int) f n (fm (ds ++ bs)) a b = some (fm (es ++ r), (es.flatten.length : Int)) ∧ ym c 0 (es ++ r) ∧ (es ++ r).flatten.Perm (ds ++ bs).flatten ∧ WB s r ∧ r.flatten.length < 2 * s ∧ (∀ A ∈ es, A.length = 2 * s) := by
 intro k
 induction k with
 | zero =>
  intro bs ds n a b hk P hO q j t l ha L
  obtain ⟨n, rfl⟩ := aS (by omega : n ≠ 0)
  obtain rfl := aU (Nat.le_zero.1 hk)
  simp only [bJ] at j
  rw [nG]
  have : ¬ (b ≤ (N : Int)) := by omega
  simp only [this, cC, aB, aG]
  exact ⟨ds, [], by rw [ha], hO, .refl _, trivial, by simp only [dK, bU]; omega, l⟩
 | succ k ih =>
  intro bs ds n a b hk P hO q j t l ha L
  obtain ⟨n, rfl⟩ := aS (by omega : n ≠ 0)
  rw [nG]
  by_cases hle : b ≤ (N : Int)
  ·simp only [hle, bZ, aM]
   have d := j
   rw [cT, aF] at d
   cases bs with
   | nil => simp only [dK, bU] at d; omega
   | cons A bs =>
    obtain ⟨hA, B, i, rfl, m, I, u⟩ := WB.two Q t (by omega)
    have J : B.length = s := by
     rcases m with m | rfl
     ·exact m
     ·simp only [bR, dK, bJ, aF] at d; omega
    have Y : IntKind.i64.wrap (a + (s : Int)) = ((ds.flatten.length + A.length : Nat) : Int) := oD _ (by omega) (by omega)
    obtain ⟨C, U, W, v⟩ := Kp h O hO q (by rw [sm]; omega) (by omega) (by omega) a _ b ha Y (by omega)
    rw [U, aA]
    have p := v.length_eq
    simp only [aF] at p
    have Z : IntKind.i64.wrap (2 * (s : Int)) = ((2 * s : Nat) : Int) := oD _ (by omega) (by omega)
    have M : (ds ++ [C]).flatten.length = ds.flatten.length + 2 * s := by rw [OB]; omega
    have w3 : IntKind.i64.wrap (b + ((2 * s : Nat) : Int)) = (((ds ++ [C]).flatten.length + 2 * s : Nat) : Int) := oD _ (by omega) (by omega)
    have hp := JP (ds := ds) (bs := i) v
    rw [Z, w3]
    obtain ⟨es, r, w, y, z, D, E, F⟩ := ih i (ds ++ [C]) n b _ (by simp at hk; omega) (by omega) W (fun x T => q x (hp.mem_iff.1 T)) (by rw [hp.length_eq, j]) u (fun X g => by
     rcases aV.1 g with g | g
     ·exact l X g
     ·simp at g; rw [g]; omega) (by rw [M]; omega) rfl
    exact ⟨es, r, w, y, z.trans hp, D, E, F⟩
  ·simp only [hle, cC, aB, aG]
   refine ⟨ds, bs, by rw [ha], hO, .refl _, t, ?_, l⟩
   rw [cT, aF] at j
   omega
theorem WB.Ho {t : Nat} : ∀ {es : List (List (Formula × Nat))} {C : List (Formula × Nat)}, (∀ A ∈ es, A.length = t) → C.length ≤ t → WB t (es ++ [C])
 | [], C, _, a => ⟨a, fun h => absurd rfl h, trivial⟩
 | E :: es, C, h, a => ⟨by rw [h E (by simp)]; omega, fun _ => h E (by simp), WB.Ho (fun A b => h A (by simp [b])) a⟩
theorem Nn {s : Nat} {r : List (List (Formula × Nat))} {o : Nat} (b : WB s r) (d : r.flatten.length ≤ s) (hO : ym c o r) : pw (oE c) r.flatten ∧ ∀ x ∈ r.flatten, o ≤ x.2 ∧ x.2 < o + r.flatten.length := by
 cases r with
 | nil => exact ⟨.nil, fun x g => by cases g⟩
 | cons A r =>
  have : r.flatten = [] := by
   by_cases a : r = []
   ·rw [a]; rfl
   ·have := b.2.1 a
    rw [bR, aF] at d
    exact aU (by omega)
  rw [bR, this, bJ]
  exact ⟨hO.1, hO.2.1⟩
theorem Pf (h : SWO (oE c)) (R : De f c G) (N : Nat) (hN : N ≤ 400000) : ∀ (k s : Nat) (bs : List (List (Formula × Nat))) (n : Nat), N - s ≤ k → k < n → 0 < s → s ≤ 1000000 → ym c 0 bs → (∀ x ∈ bs.flatten, G x.1) → bs.flatten.length = N → WB s bs →
  ∃ u, nr (N : Int) f n (fm bs) (s : Int) = some (u.map (·.1)) ∧ pw (oE c) u ∧ u.Perm bs.flatten := by
 intro k
 induction k with
 | zero =>
  intro s bs n hk hn E m hO l i b
  obtain ⟨n, rfl⟩ := aS (by omega : n ≠ 0)
  rw [nr]
  have : ¬ ((s : Int) < (N : Int)) := by omega
  simp only [this, cC, aB, aG]
  refine ⟨bs.flatten, rfl, ?_, .refl _⟩
  cases bs with
  | nil => exact .nil
  | cons A bs =>
   have : bs.flatten = [] := by
    by_cases d : bs = []
    ·rw [d]; rfl
    ·have := b.2.1 d
     rw [bR, aF] at i
     exact aU (by omega)
   rw [bR, this, bJ]
   exact hO.1
 | succ k ih =>
  intro s bs n hk hn E m hO l i b
  by_cases a8 : s < N
  ·obtain ⟨n, rfl⟩ := aS (by omega : n ≠ 0)
   rw [nr]
   have : ((s : Int) < (N : Int)) := by omega
   simp only [this, bZ, aM]
   have w1 : IntKind.i64.wrap (2 * (s : Int)) = ((2 * s : Nat) : Int) := oD _ (by omega) (by omega)
   have w0 : IntKind.i64.wrap ((s : Int) * 2) = ((2 * s : Nat) : Int) := oD _ (by omega) (by omega)
   have a7 : bs.length ≤ 2000000 := by
    have : ∀ {bs : List (List (Formula × Nat))}, WB s bs → bs.length ≤ bs.flatten.length + 1 := by
     intro bs
     induction bs with
     | nil => intro _; simp
     | cons A bs F =>
      intro b
      by_cases d : bs = []
      ·subst d; simp
      ·have := b.2.1 d
       have := F b.2.2
       simp only [aJ, bR, aF]
       omega
    have := this b
    omega
   obtain ⟨es, r, L, M, a, O, P, Q⟩ := Qy h R s E m N hN bs.length bs [] lB 0 ((2 * s : Nat) : Int) (aZ _) (by rw [nh]; omega) (by simpa using hO) (by simpa using l) (by simpa using i) b (by simp) rfl (by simp)
   simp only [bI] at L a
   rw [w1, L, aA, w0]
   have j := a.length_eq
   rw [i, cT, aF] at j
   have w2 : IntKind.i64.wrap ((es.flatten.length : Int) + (s : Int)) = ((es.flatten.length + s : Nat) : Int) := oD _ (by omega) (by omega)
   simp only [w2]
   by_cases hm : es.flatten.length + s < N
   ·have : (((es.flatten.length + s : Nat) : Int) < (N : Int)) := by omega
    simp only [this, bZ, aM, pV]
    cases r with
    | nil => simp only [dK, bU] at j; omega
    | cons A r =>
     obtain ⟨hA, B, W, rfl, q, a1, a6⟩ := WB.two E O (by omega)
     have D : W = [] := by
      rcases q with q | q
      ·by_cases hr : W = []
       ·exact hr
       ·simp only [bR, aF] at P; omega
      ·exact q
     subst D
     simp only [bR, dK, bJ, aF] at j P
     obtain ⟨C, q1, T, U⟩ := Kp h R M (fun x p => l x (a.mem_iff.1 p)) (by rw [sm, a.length_eq]; omega) (by omega) (by omega) (es.flatten.length : Int) ((es.flatten.length + s : Nat) : Int) (N : Int) rfl (by omega) (by omega)
     rw [q1, aA]
     have v := U.length_eq
     simp only [aF] at v
     have hp := (JP (ds := es) (bs := []) U).trans a
     simp only [bJ] at T hp ⊢
     obtain ⟨u, I, J, t⟩ := ih (2 * s) (es ++ [C]) n (by omega) (by omega) (by omega) (by omega) T (fun x p => l x (hp.mem_iff.1 p)) (by rw [hp.length_eq, i]) (WB.Ho Q (by omega))
     exact ⟨u, I, J, t.trans hp⟩
   ·have : ¬ (((es.flatten.length + s : Nat) : Int) < (N : Int)) := by omega
    simp only [this, cC, aB, aG, aA]
    obtain ⟨w, y⟩ := ym.append.1 M
    obtain ⟨Y, Z⟩ := Nn O (by omega) y
    have z : fm (es ++ r) = fm (es ++ [r.flatten]) := by simp [fm]
    have g : (es ++ [r.flatten]).flatten = (es ++ r).flatten := by simp
    rw [z]
    obtain ⟨u, I, J, t⟩ := ih (2 * s) (es ++ [r.flatten]) n (by omega) (by omega) (by omega) (by omega) (ym.append.2 ⟨w, Y, Z, trivial⟩) (fun x p => l x (a.mem_iff.1 (by rw [← g]; exact p))) (by rw [g, a.length_eq, i]) (WB.Ho Q (by omega))
    exact ⟨u, I, J, by rw [g] at t; exact t.trans a⟩
  ·obtain ⟨n, rfl⟩ := aS (by omega : n ≠ 0)
   rw [nr]
   have : ¬ ((s : Int) < (N : Int)) := by omega
   simp only [this, cC, aB, aG]
   refine ⟨bs.flatten, rfl, ?_, .refl _⟩
   cases bs with
   | nil => exact .nil
   | cons A bs =>
    have : bs.flatten = [] := by
     by_cases d : bs = []
     ·rw [d]; rfl
     ·have := b.2.1 d
      rw [bR, aF] at i
      exact aU (by omega)
    rw [bR, this, bJ]
    exact hO.1
theorem Ij : ∀ (l : List Formula) (o : Nat), (l.zipIdx o).Pairwise (fun x y => x.2 < y.2)
 | [], o => by simp
 | x :: l, o => by
  rw [kc, cN]
  refine ⟨fun y d => ?_, Ij l (o + 1)⟩
  obtain ⟨a, b⟩ := y
  have := List.le_snd_of_mem_zipIdx d
  simp only at this ⊢; omega
theorem Lx (l : List Formula) (o : Nat) : ∀ x ∈ l.zipIdx o, o ≤ x.2 ∧ x.2 < o + l.length := by
 rintro ⟨a, b⟩ d
 have h1 := List.le_snd_of_mem_zipIdx d
 have g := List.snd_lt_add_of_mem_zipIdx d
 simp only at h1 g ⊢; omega
theorem NJ (h : SWO (oE c)) (k : De f c G) (N : Nat) (s : N ≤ 300000) (R : List Formula) (ds : List (List (Formula × Nat))) (n : Nat) (a b : Int) (y : 0 < n) (hO : ym c 0 ds) (m : ∀ A ∈ ds, A.length = 20) (p : ∀ x ∈ ds.flatten, G x.1) (j : ∀ x ∈ R, G x) (w : ds.flatten.length + R.length = N) (q : R.length < 20) (ha : a = (ds.flatten.length : Int)) (t : b = ((ds.flatten.length + 20 : Nat) : Int)) :
  ∃ u, nt (N : Int) f n (fm ds ++ R) a b = some (u.map (·.1)) ∧ pw (oE c) u ∧ u.Perm (ds.flatten ++ R.zipIdx ds.flatten.length) := by
 obtain ⟨n, rfl⟩ := aS (by omega : n ≠ 0)
 rw [nt]
 have hle : ¬ (b ≤ (N : Int)) := by omega
 simp only [hle, cC, aB, aG, pV]
 obtain ⟨u, l, r, g⟩ := LZ h k (fm ds) [] (R.zipIdx ds.flatten.length) a (N : Int) (Ij _ _) (fun x d => j x.1 (FH d)) (by simp only [aF, sm, dC, fG, bU]; omega) (by rw [sm]; exact ha) (by rw [sm, fG]; omega)
 rw [List.zipIdx_map_fst, bJ, bJ] at l
 have i := g.length_eq
 rw [fG] at i
 have e : fm ds ++ u.map (·.1) = fm (ds ++ [u]) := by simp [fm]
 have hp : (ds ++ [u]).flatten.Perm (ds.flatten ++ R.zipIdx ds.flatten.length) := by
  rw [cT]
  refine cJ _ ?_
  simpa using g
 rw [l, aA, e]
 obtain ⟨v, v1, v2, v3⟩ := Pf h k N (by omega) N 20 (ds ++ [u]) lB (by omega) (by rw [nh]; omega) (by omega) (by omega) (ym.append.2 ⟨hO, r, fun x d => by have := Lx R ds.flatten.length x (g.mem_iff.1 d); omega, trivial⟩) (fun x d => by
  rw [cT, aV] at d
  rcases d with d | d
  ·exact p x d
  ·simp only [bR, dK, bJ] at d
   exact j x.1 (FH (g.mem_iff.1 d))) (by rw [hp.length_eq, aF, fG]; omega) (WB.Ho m (by omega))
 exact ⟨v, v1, v2, v3.trans hp⟩
theorem Pq (h : SWO (oE c)) (w : De f c G) (N : Nat) (D : N ≤ 300000) : ∀ (k : Nat) (R : List Formula) (ds : List (List (Formula × Nat))) (n : Nat) (a b : Int), R.length ≤ k → k < n → ym c 0 ds → (∀ A ∈ ds, A.length = 20) → (∀ x ∈ ds.flatten, G x.1) → (∀ x ∈ R, G x) → ds.flatten.length + R.length = N →
  a = (ds.flatten.length : Int) → b = ((ds.flatten.length + 20 : Nat) : Int) →
  ∃ u, nt (N : Int) f n (fm ds ++ R) a b = some (u.map (·.1)) ∧ pw (oE c) u ∧ u.Perm (ds.flatten ++ R.zipIdx ds.flatten.length) := by
 intro k
 induction k with
 | zero =>
  intro R ds n a b hk E hO p q j r ha t
  obtain rfl := aU (Nat.le_zero.1 hk)
  exact NJ h w N D [] ds n a b E hO p q j r (by simp) ha t
 | succ k ih =>
  intro R ds n a b hk E hO p q j r ha t
  by_cases z : R.length < 20
  ·exact NJ h w N D R ds n a b (by omega) hO p q j r z ha t
  obtain ⟨n, rfl⟩ := aS (by omega : n ≠ 0)
  obtain ⟨R1, R2, rfl, m⟩ := xv (l := R) (n := 20) (by omega)
  rw [aF] at r hk
  rw [nt]
  have hle : b ≤ (N : Int) := by omega
  simp only [hle, bZ, aM]
  obtain ⟨u, F, I, s⟩ := LZ h w (fm ds) R2 (R1.zipIdx ds.flatten.length) a b (Ij _ _) (fun x d => j x.1 (by simp [FH d])) (by simp only [aF, sm, dC, fG, bU]; omega) (by rw [sm]; exact ha) (by rw [sm, fG]; omega)
  rw [List.zipIdx_map_fst] at F
  rw [F, aA]
  have g := s.length_eq
  rw [fG, m] at g
  have y : (ds ++ [u]).flatten.length = ds.flatten.length + 20 := by rw [OB, g]
  have J : IntKind.i64.wrap (b + 20) = (((ds ++ [u]).flatten.length + 20 : Nat) : Int) := oD _ (by omega) (by omega)
  have e : fm ds ++ (u.map (·.1) ++ R2) = fm (ds ++ [u]) ++ R2 := by simp [fm]
  rw [e, J]
  obtain ⟨v, v1, v2, v3⟩ := ih R2 (ds ++ [u]) n b _ (by omega) (by omega) (ym.append.2 ⟨hO, I, fun x d => by have := Lx R1 ds.flatten.length x (s.mem_iff.1 d); omega, trivial⟩) (fun A i => by
   rcases aV.1 i with i | i
   ·exact p A i
   ·simp at i; rw [i]; exact g) (fun x d => by
   rw [cT, aV] at d
   rcases d with d | d
   ·exact q x d
   ·simp only [bR, dK, bJ] at d
    exact j x.1 (by simp [FH (s.mem_iff.1 d)])) (fun x d => j x (by simp [d])) (by omega) (by omega) rfl
  refine ⟨v, v1, v2, v3.trans ?_⟩
  rw [y, cT, List.zipIdx_append, m, aN]
  refine cJ _ ?_
  simp only [bR, dK, bJ]
  exact s.append_right _
theorem Mu (h : SWO (oE c)) (g : De f c G) (l : List Formula) (d : ∀ x ∈ l, G x) (i : l.length ≤ 300000) : pI l f = some (Kx (oE c) l) := by
 unfold pI sa
 obtain ⟨u, a, j, b⟩ := Pq h g l.length i l.length l [] lB 0 20 (aZ _) (by rw [nh]; omega) trivial (by simp) (by simp) d (by simp) rfl rfl
 simp only [fm, dK, gF, bI, bU] at a b
 rw [a, aA, Q1 h j b]
end
end Go.Proofs.YtklbhegeiijbjaaGreat
namespace Go.Proofs.YtklbhegeiijbjaaGreat
open Go.RowKit
theorem JE {P : Formula → Prop} (h : ∀ f, (∀ k ∈ f.Kids, P k) → P f) : ∀ f, P f := by
 intro f
 refine Formula.rec (motive_1 := P) (motive_2 := fun ks => ∀ k ∈ ks, P k) ?_ ?_ ?_ f
 ·intro o k r ks ih; exact h _ ih
 ·intro k hk; cases hk
 ·intro k ks h1 b x a
  rcases aQ.1 a with rfl | a
  ·exact h1
  ·exact b x a
mutual
def lY : Formula → Nat
 | ⟨_, _, _, ks⟩ => 1 + nodesL ks
def nodesL : List Formula → Nat
 | [] => 0
 | k :: ks => lY k + nodesL ks
end
mutual
def oV : Formula → Nat
 | ⟨_, _, _, ks⟩ => deepL ks + 1
def deepL : List Formula → Nat
 | [] => 0
 | k :: ks => max (oV k) (deepL ks)
end
theorem pd (f : Formula) : lY f = 1 + nodesL f.Kids := by cases f; rw [lY]
theorem nQ (f : Formula) : oV f = deepL f.Kids + 1 := by cases f; rw [oV]
theorem uw : ∀ {ks : List Formula} {k : Formula}, k ∈ ks → lY k ≤ nodesL ks
 | x :: ks, k, h => by
  rw [nodesL]
  rcases aQ.1 h with rfl | h
  ·omega
  ·have := uw h; omega
theorem rR : ∀ {ks : List Formula} {k : Formula}, k ∈ ks → oV k ≤ deepL ks
 | x :: ks, k, h => by
  rw [deepL]
  rcases aQ.1 h with rfl | h
  ·omega
  ·have := rR h; omega
theorem wZ : ∀ f : Formula, oV f ≤ lY f := by
 refine JE fun f ih => ?_
 rw [nQ, pd]
 have : ∀ ks : List Formula, (∀ k ∈ ks, oV k ≤ lY k) → deepL ks ≤ nodesL ks := by
  intro ks
  induction ks with
  | nil => intro _; rw [deepL]; omega
  | cons k ks a =>
   intro h
   have := a (fun x b => h x (by simp [b]))
   have := h k (by simp)
   rw [deepL, nodesL]; omega
 have := this f.Kids ih
 omega
theorem qM : ∀ ks : List Formula, ks.length ≤ nodesL ks
 | [] => by rw [nodesL]; simp
 | k :: ks => by have := qM ks; have := pd k; rw [nodesL, aJ]; omega
theorem Nj (a : Nat) (hm : a ≤ 4096) (rec : Formula → Int → Option (Int × Int)) : ∀ (ks : List Formula), (∀ k ∈ ks, ∀ q : Nat, q ≤ 4096 → ∃ n d : Nat, rec k (q : Int) = some ((n : Int), (d : Int)) ∧ 1 ≤ n ∧ n ≤ lY k ∧ d ≤ lY k ∧ (lY k ≤ q → n = lY k ∧ d = oV k) ∧ (q < lY k → q < n)) → ∀ x y : Nat, x + nodesL ks ≤ 100000000 →
  ∃ n d : Nat, ql (a : Int) rec ks (x : Int) (y : Int) = some ((n : Int), (d : Int)) ∧ x ≤ n ∧ n ≤ x + nodesL ks ∧ d ≤ max y (nodesL ks) ∧ (x + nodesL ks ≤ a → n = x + nodesL ks ∧ d = max y (deepL ks)) ∧ (a < x + nodesL ks → a < n)
 | [], _, x, y, _ => by
  rw [ql, nodesL, deepL]
  exact ⟨x, y, rfl, by omega, by omega, by omega, fun _ => ⟨by omega, by omega⟩, fun h => by omega⟩
 | k :: ks, g, x, y, p => by
  rw [nodesL] at p ⊢
  rw [ql, deepL]
  by_cases i : (x : Int) > (a : Int)
  ·simp only [i, bZ, aM]
   exact ⟨x, y, rfl, by omega, by omega, by omega, fun _ => by omega, fun h => by omega⟩
  ·simp only [i, cC, aB, aG]
   have s : IntKind.i64.wrap ((a : Int) - (x : Int)) = ((a - x : Nat) : Int) := by rw [me (by omega) (by omega)]; omega
   obtain ⟨m, d, e, h1, v, w, b, l⟩ := g k (by simp) (a - x) (by omega)
   rw [s, e, aA]
   have t : IntKind.i64.wrap ((x : Int) + (m : Int)) = ((x + m : Nat) : Int) := by rw [me (by omega) (by omega)]; omega
   have u : (if (d : Int) > (y : Int) then (d : Int) else (y : Int)) = ((max y d : Nat) : Int) := by split <;> omega
   simp only [t, u]
   obtain ⟨n, j, e', g1, g2, g3, g4, g5⟩ := Nj a hm rec ks (fun z r => g z (by simp [r])) (x + m) (max y d) (by omega)
   refine ⟨n, j, e', by omega, by omega, by omega, fun h => ?_, fun h => ?_⟩
   ·obtain ⟨rfl, rfl⟩ := b (by omega)
    obtain ⟨rfl, rfl⟩ := g4 (by omega)
    exact ⟨by omega, by omega⟩
   ·by_cases hk : a - x < lY k
    ·have := l hk; omega
    ·obtain ⟨rfl, _⟩ := b (by omega)
     exact g5 (by omega)
theorem Pu : ∀ (n : Nat) (f : Formula), oV f ≤ n → lY f ≤ 50000000 → ∀ q : Nat, q ≤ 4096 → ∃ m d : Nat, pt n f (q : Int) = some ((m : Int), (d : Int)) ∧ 1 ≤ m ∧ m ≤ lY f ∧ d ≤ lY f ∧ (lY f ≤ q → m = lY f ∧ d = oV f) ∧ (q < lY f → q < m) := by
 intro n
 induction n with
 | zero => intro f h; rw [nQ] at h; omega
 | succ n ih =>
  intro f i s q a
  rw [nQ] at i
  have j := pd f
  rw [pt]
  unfold wk
  obtain ⟨m, d, e, h1, p, r, b, g⟩ := Nj q a (pt n) f.Kids (fun k hk q a => ih k (by have := rR hk; omega) (by have := uw hk; omega) q a) 1 0 (by omega)
  have e' : ql (q : Int) (pt n) f.Kids 1 0 = some ((m : Int), (d : Int)) := e
  rw [e', aA]
  have l : IntKind.i64.wrap ((d : Int) + 1) = ((d + 1 : Nat) : Int) := by rw [me (by omega) (by omega)]; omega
  simp only [l]
  refine ⟨m, d + 1, rfl, h1, by omega, by omega, fun h => ?_, fun h => g (by omega)⟩
  obtain ⟨rfl, rfl⟩ := b (by omega)
  rw [nQ]
  exact ⟨by omega, by omega⟩
theorem QW (f : Formula) (g : lY f ≤ 50000000) : xZ f = some (if lY f ≤ 4096 then ((lY f : Int), (oV f : Int)) else (0, 0)) := by
 unfold xZ
 have := wZ f
 obtain ⟨m, d, e, h1, i, j, a, b⟩ := Pu lB f (by rw [nh]; omega) g 4096 (aZ _)
 have e' : pt lB f 4096 = some ((m : Int), (d : Int)) := e
 rw [e', aA]
 by_cases h : lY f ≤ 4096
 ·obtain ⟨rfl, rfl⟩ := a h
  have : ¬ ((lY f : Int) > 4096) := by omega
  simp [this, h]
 ·have := b (by omega)
  have : ((m : Int) > 4096) := by omega
  simp [this, h]
def qP : kC := ⟨zS, zS⟩
def DZ (f : Formula) : Bool := if f.Op = 1 then nv f.kC && decide (f.Kids.length = 0) && decide (f.K = 0) else if f.Op = 2 ∨ f.Op = 3 then lu f.kC qP && decide (f.K = 0) else decide (f.Op = 4) && lu f.kC qP && decide (0 ≤ f.K) && decide (f.K ≤ (f.Kids.length : Int)) && decide (1 ≤ f.Kids.length)
theorem Q8 (f : Formula) : xY f = some (DZ f) := by
 unfold xY DZ
 simp only [zA, aA, pV]
 by_cases h1 : f.Op = 1
 ·simp only [h1, bD, aM]
  cases p : nv f.kC
  ·simp
  ·by_cases k : f.Kids.length = 0
   ·have : f.Kids = [] := aU k
    by_cases hk : f.K = 0 <;> simp [this, hk]
   ·have : ((f.Kids.length : Int) == 0) = false := by simp; intro h; exact k (by simp [h])
    simp only [aM, aA, this, aB, aG, k, cC, Bool.and_false, iF]
 ·have m : (f.Op == 1) = false := by simpa using h1
  simp only [m, aB, aG, h1]
  by_cases d : f.Op = 2 ∨ f.Op = 3
  ·have i : (if f.Op == 2 then some (f.Op == 2) else some (f.Op == 3)) = some true := by
    rcases d with h | h <;> simp [h]
   simp only [i, aA, aM, d]
   cases g : lu f.kC ⟨zS, zS⟩ <;> by_cases hk : f.K = 0 <;> simp [qP, g, hk]
  ·have i : (if f.Op == 2 then some (f.Op == 2) else some (f.Op == 3)) = some false := by
    have a : f.Op ≠ 2 := fun h => d (.inl h)
    have b : f.Op ≠ 3 := fun h => d (.inr h)
    simp [a, b]
   simp only [i, aA, aB, aG, d]
   by_cases j : f.Op = 4
   ·simp only [j, bD, aM, aA, bZ, eO]
    cases g : lu f.kC ⟨zS, zS⟩
    ·simp [qP, g]
    ·by_cases c1 : 0 ≤ f.K <;> by_cases c2 : f.K ≤ (f.Kids.length : Int) <;> by_cases l : 1 ≤ f.Kids.length <;> simp [qP, g, c1, c2, l] <;> omega
   ·have n : (f.Op == 4) = false := by simpa using j
    simp [n, j]
mutual
def uq : Formula → Bool
 | ⟨o, n, r, ks⟩ => DZ ⟨o, n, r, ks⟩ && decide (ks.length ≤ 8) && wellL ks
def wellL : List Formula → Bool
 | [] => true
 | k :: ks => uq k && wellL ks
end
theorem Gz (f : Formula) : uq f = (DZ f && decide (f.Kids.length ≤ 8) && wellL f.Kids) := by cases f; rw [uq]
theorem Fa : ∀ ks : List Formula, wellL ks = ks.all uq
 | [] => rfl
 | k :: ks => by rw [wellL, Fa ks]; rfl
theorem J7 (f : Formula → Option Bool) : ∀ (l : List Formula) (i : Nat), ow f l i = Ah f l i
 | [], i => by rw [ow]; rfl
 | x :: l, i => by
  rw [ow, Ah]
  cases f x with
  | none => rfl
  | some b =>
   simp only [aA]
   rw [J7 f l (i + 1)]
theorem FX (f : Formula → Option Bool) (p : Formula → Bool) (l : List Formula) (h : ∀ x ∈ l, f x = some (p x)) : pc l f = some (l.any p) := by
 unfold pc tV
 rw [J7]
 rcases DS f p l 0 h with ⟨e, h1⟩ | ⟨A, x, B, rfl, h1, a, e⟩
 ·rw [e, aA]
  have : l.any p = false := by rw [List.any_eq_false]; intro x b; rw [h1 x b]; simp
  rw [this]; rfl
 ·rw [e, aA]
  have : (A ++ x :: B).any p = true := by simp [a]
  rw [this]
  congr 1
theorem OY : ∀ (n : Nat) (f : Formula), oV f ≤ n → sh n f = some (uq f) := by
 intro n
 induction n with
 | zero => intro f h; rw [nQ] at h; omega
 | succ n ih =>
  intro f h
  rw [nQ] at h
  rw [sh]
  unfold wo
  rw [Q8, aA, Gz, FX _ (fun k => !uq k) f.Kids (fun k hk => by unfold vo; rw [ih k (by have := rR hk; omega)]; rfl)]
  rw [Fa]
  have e : (!(f.Kids.any fun k => !uq k)) = f.Kids.all uq := by rw [List.all_eq_not_any_not]
  cases DZ f
  ·rfl
  ·by_cases a : f.Kids.length ≤ 8
   ·have : ((f.Kids.length : Int) ≤ 8) := by omega
    simp [a, this, e]
   ·have : ¬ ((f.Kids.length : Int) ≤ 8) := by omega
    simp [a, this]
def oM (f : Formula) : Bool := decide (lY f ≤ 64) && decide (oV f ≤ 6) && uq f
theorem Eb (f : Formula) (b : lY f ≤ 50000000) : sf f = some (oM f) := by
 unfold sf oM
 have d := wZ f
 rw [QW f b, aA, OY lB f (by rw [nh]; omega)]
 have h1 := pd f
 by_cases h : lY f ≤ 4096
 ·simp only [h, aM]
  have a : ((lY f : Int) ≥ 1) := by omega
  simp only [a, bZ, aM, aA, pV]
  by_cases c1 : lY f ≤ 64 <;> by_cases c2 : oV f ≤ 6
  ·have d1 : ((lY f : Int) ≤ 64) := by omega
   have d2 : ((oV f : Int) ≤ 6) := by omega
   simp [c1, c2, d1, d2]
  ·have d1 : ((lY f : Int) ≤ 64) := by omega
   have d2 : ¬ ((oV f : Int) ≤ 6) := by omega
   simp [c1, c2, d1, d2]
  ·have d1 : ¬ ((lY f : Int) ≤ 64) := by omega
   simp [c1, d1]
  ·have d1 : ¬ ((lY f : Int) ≤ 64) := by omega
   simp [c1, d1]
 ·simp only [h, aG]
  have : ¬ lY f ≤ 64 := by omega
  simp [this]
theorem Formula.ext' {a b : Formula} (h1 : a.Op = b.Op) (d : a.K = b.K) (g : a.kC = b.kC) (h : a.Kids = b.Kids) : a = b := by
 cases a; cases b; simp only at h1 d g h; subst h1 d g h; rfl
theorem Ou (g : Formula × Formula → Option Bool) : ∀ (l m : List Formula), l.length = m.length → (∀ x ∈ l, ∀ y, ∃ b, g (x, y) = some b ∧ (b = true ↔ x = y)) → ∀ (A : List Formula),
  ∃ b, mC (A ++ m) g l A.length = some b ∧ (b = true ↔ l = m)
 | [], m, d, _, A => by
  obtain rfl := aU d.symm
  exact ⟨true, rfl, by simp⟩
 | x :: l, [], d, _, A => by simp at d
 | x :: l, y :: m, d, i, A => by
  rw [mC]
  obtain ⟨b, e, h⟩ := i x (by simp) y
  have i1 : mQ (A ++ y :: m) (A.length : Int) = some y := nR _ _ _ _ rfl
  rw [i1, aA, e, aA]
  cases b with
  | false =>
   refine ⟨false, rfl, ?_⟩
   have : x ≠ y := fun a => by have := h.2 a; simp at this
   simp [this]
  | true =>
   have a := h.1 rfl
   obtain ⟨b, j, p⟩ := Ou g l m (by simpa using d) (fun z q => i z (by simp [q])) (A ++ [y])
   simp only [cA, aB, aG]
   have k : A ++ y :: m = (A ++ [y]) ++ m := by simp
   have n : A.length + 1 = (A ++ [y]).length := by simp
   rw [k, n, j]
   exact ⟨b, rfl, by rw [p]; simp [a]⟩
theorem Qx : ∀ (n : Nat) (f : Formula), oV f ≤ n → ∀ g, ∃ b, pg n f g = some b ∧ (b = true ↔ f = g) := by
 intro n
 induction n with
 | zero => intro f h; rw [nQ] at h; omega
 | succ n ih =>
  intro f h g
  rw [nQ] at h
  rw [pg]
  unfold xa
  by_cases h1 : f.Op = g.Op
  ·by_cases a : f.K = g.K
   ·by_cases d : f.kC = g.kC
    ·have j : lu f.kC g.kC = true := lx.2 d
     simp only [h1, a, j, bD, aM, aA]
     unfold nO
     by_cases i : f.Kids.length = g.Kids.length
     ·have : ((f.Kids.length : Int) != (g.Kids.length : Int)) = false := by simp [i]
      simp only [this, aB, aG]
      obtain ⟨b, e, m⟩ := Ou (fun x => pg n x.1 x.2) f.Kids g.Kids i (fun x p y => ih x (by have := rR p; omega) y) []
      simp only [bI, bU] at e
      rw [e]
      refine ⟨b, by simp, m.trans ⟨fun hk => Formula.ext' h1 a d hk, fun hk => by rw [hk]⟩⟩
     ·have : ((f.Kids.length : Int) != (g.Kids.length : Int)) = true := by simp; omega
      simp only [this, aM]
      exact ⟨false, rfl, by simp; intro hk; rw [hk] at i; exact i rfl⟩
    ·have j : lu f.kC g.kC = false := by rw [← fT, lx]; exact d
     simp only [h1, a, j, bD, aM, aA, aB, aG]
     exact ⟨false, rfl, by simp; intro hk; rw [hk] at d; exact d rfl⟩
   ·have l : (f.K == g.K) = false := by simpa using a
    simp only [h1, l, bD, aM, aA, aB, aG]
    exact ⟨false, rfl, by simp; intro hk; rw [hk] at a; exact a rfl⟩
  ·have k : (f.Op == g.Op) = false := by simpa using h1
   simp only [k, aA, aB, aG]
   exact ⟨false, rfl, by simp; intro hk; rw [hk] at h1; exact h1 rfl⟩
end Go.Proofs.YtklbhegeiijbjaaGreat
namespace Go.Proofs.YtklbhegeiijbjaaGreat
open Go.RowKit
mutual
def zK : Formula → List Int
 | ⟨o, k, r, ks⟩ => o :: (if o = 1 then tp r else (if o = 4 then [k] else []) ++ ((ks.length : Int) :: bytesFL ks))
def bytesFL : List Formula → List Int
 | [] => []
 | k :: ks => zK k ++ bytesFL ks
end
theorem Ix (f : Formula) : zK f = f.Op :: (if f.Op = 1 then tp f.kC else (if f.Op = 4 then [f.K] else []) ++ ((f.Kids.length : Int) :: bytesFL f.Kids)) := by cases f; rw [zK]
theorem yv {f : Formula} (h : uq f = true) : f.Kids.length ≤ 8 ∧ wellL f.Kids = true ∧ ((f.Op = 1 ∧ nv f.kC = true ∧ f.Kids = [] ∧ f.K = 0) ∨ ((f.Op = 2 ∨ f.Op = 3) ∧ f.kC = qP ∧ f.K = 0) ∨ (f.Op = 4 ∧ f.kC = qP ∧ 0 ≤ f.K ∧ f.K ≤ (f.Kids.length : Int) ∧ 1 ≤ f.Kids.length)) := by
 rw [Gz] at h
 simp only [bH, bK] at h
 obtain ⟨⟨h1, a⟩, b⟩ := h
 refine ⟨a, b, ?_⟩
 unfold DZ at h1
 split at h1
 ·rename_i c
  simp only [bH, bK] at h1
  exact .inl ⟨c, h1.1.1, aU h1.1.2, h1.2⟩
 ·split at h1
  ·rename_i c
   simp only [bH, bK, lx] at h1
   exact .inr (.inl ⟨c, h1.1, h1.2⟩)
  ·simp only [bH, bK, lx] at h1
   exact .inr (.inr ⟨h1.1.1.1.1, h1.1.1.1.2, h1.1.1.2, h1.1.2, h1.2⟩)
theorem NC : ∀ (n : Nat) (f : Formula), oV f ≤ n → uq f = true → ∀ l : List Int, l.length + 40 * lY f ≤ 8000 → qN n l f = some (l ++ zK f) ∧ (zK f).length ≤ 40 * lY f := by
 intro n
 induction n with
 | zero => intro f h; rw [nQ] at h; omega
 | succ n ih =>
  intro f t hw l r
  rw [nQ] at t
  have u := pd f
  obtain ⟨h1, q, m⟩ := yv hw
  rw [qN]
  unfold wz
  have d : 0 ≤ f.Op ∧ f.Op < 128 := by rcases m with h | h | h <;> omega
  rw [zi d.1 d.2 (by omega), aA, Ix]
  have key : ∀ (ks : List Formula), (∀ k ∈ ks, k ∈ f.Kids) → wellL ks = true → ∀ l : List Int, l.length + 40 * nodesL ks ≤ 8000 → rC (qN n) ks l = some (l ++ bytesFL ks) ∧ (bytesFL ks).length ≤ 40 * nodesL ks := by
   intro ks
   induction ks with
   | nil => intro _ _ l _; rw [rC, bytesFL]; simp
   | cons k ks p =>
    intro hk a l r
    rw [wellL, bH] at a
    rw [nodesL] at r
    obtain ⟨i, w⟩ := ih k (by have := rR (hk k (by simp)); omega) a.1 l (by omega)
    obtain ⟨b, j⟩ := p (fun z v => hk z (by simp [v])) a.2 (l ++ zK k) (by simp; omega)
    rw [rC, i, aA, b, bytesFL, nodesL]
    exact ⟨by simp, by simp; omega⟩
  have hlen : 0 ≤ (f.Kids.length : Int) ∧ (f.Kids.length : Int) < 128 := by omega
  by_cases c1 : f.Op = 1
  ·have s : nv f.kC = true := by rcases m with h | h | h; exact h.2.1; omega; omega
   have := pE s
   simp only [c1, bD, aM]
   rw [KB s (by simp; omega), aA]
   exact ⟨by simp, by simp; omega⟩
  ·have i : (f.Op == 1) = false := by simpa using c1
   simp only [i, aB, aG, c1]
   by_cases g : f.Op = 4
   ·have hk : 0 ≤ f.K ∧ f.K < 128 := by rcases m with h | h | h <;> omega
    simp only [g, bD, aM]
    rw [zi hk.1 hk.2 (by simp; omega)]
    simp only [aA]
    rw [zi hlen.1 hlen.2 (by simp; omega)]
    simp only [aA]
    obtain ⟨b, j⟩ := key f.Kids (fun k hk => hk) q (l ++ [4] ++ [f.K] ++ [(f.Kids.length : Int)]) (by simp; omega)
    rw [b]
    exact ⟨by simp, by simp; omega⟩
   ·have j : (f.Op == 4) = false := by simpa using g
    simp only [j, aB, aG, g, aA]
    rw [zi hlen.1 hlen.2 (by simp; omega)]
    simp only [aA]
    obtain ⟨b, x⟩ := key f.Kids (fun k hk => hk) q (l ++ [f.Op] ++ [(f.Kids.length : Int)]) (by simp; omega)
    rw [b]
    exact ⟨by simp, by simp; omega⟩
def zk (f : Formula) : List Int := if oM f then zK f else []
abbrev Gd (f : Formula) : Prop := lY f ≤ 50000000
theorem An {f : Formula} (h : oM f = true) : lY f ≤ 64 ∧ oV f ≤ 6 ∧ uq f = true := by
 unfold oM at h
 simp only [bH, bK] at h
 exact ⟨h.1.1, h.1.2, h.2⟩
theorem Rs (f : Formula) (d : Gd f) (l : List Int) (j : l.length ≤ 5000) : xi l f = some (oM f, l ++ zk f) ∧ (zk f).length ≤ 2560 := by
 unfold xi zk
 rw [Eb f d, aA]
 cases h : oM f
 ·simp
 ·obtain ⟨h1, i, b⟩ := An h
  obtain ⟨a, g⟩ := NC lB f (by rw [nh]; omega) b l (by omega)
  simp only [cA, aB, aG, a, aA, aM]
  exact ⟨trivial, by omega⟩
theorem HJ (f : Formula) (b : Gd f) : uh f = some (zk f) := by
 unfold uh
 obtain ⟨a, d⟩ := Rs f b [] (by simp)
 rw [a, aA, pV]
 unfold uM
 simp only [bI]
 rw [RD (by omega)]
 rfl
def B6 (f g : Formula) : Int := ze (zk f) (zk g)
theorem Nd (f g : Formula) (a : Gd f) (b : Gd g) : uc f g = some (B6 f g) := by
 unfold uc xq
 rw [HJ f a, HJ g b]
 rfl
theorem BB (f g : Formula) : oE B6 f g = Op.bytesLess (uZ (zk f)) (uZ (zk g)) := by
 rw [bT]
 have h : oE B6 f g = true ↔ B6 f g < 0 := by unfold oE; exact decide_eq_true_iff
 exact h.trans (Dn _ _)
theorem Iv : SWO (oE B6) where
 PS x := by rw [BB, wg]
 tr x y z h1 a := by rw [BB] at *; exact yX _ _ _ h1 a
 Nx x y z h := by
  rw [BB] at h
  rw [BB, BB]
  rcases BM (uZ (zk x)) (uZ (zk y)) with h1 | h1 | h1
  ·exact .inl h1
  ·rw [h1] at h; exact .inr h
  ·exact .inr (yX _ _ _ h1 h)
def vO (l : List Formula) : List Formula := Kx (oE B6) l
theorem Jw (l : List Formula) (a : ∀ x ∈ l, Gd x) (b : l.length ≤ 300000) : vW l = some (vO l) := by
 unfold vW tj
 rw [nU (by simp; omega) (by simp; omega)]
 simp only [aA, bI, pV]
 exact Mu Iv (fun x y d g => Nd x y d g) l a b
theorem Nk {α : Type} (lt : α → α → Bool) (l : List α) (k : α) : (B3 lt l k).Perm (l ++ [k]) := by
 unfold B3
 refine List.perm_middle.trans ((List.Perm.cons _ ?_).trans (iE k l).symm)
 have := List.filter_append_perm (fun x => !lt k x) l
 simpa using this
theorem Nl {α : Type} (lt : α → α → Bool) (l : List α) : (Kx lt l).Perm l := by
 suffices H : ∀ (l a : List α), (l.foldl (B3 lt) a).Perm (a ++ l) by have := H l []; rwa [bI] at this
 intro l
 induction l with
 | nil => intro a; simp
 | cons k l ih =>
  intro a
  rw [iS]
  refine (ih _).trans ?_
  have := (Nk lt a k).append_right l
  simpa using this
theorem zm (l : List Formula) : (vO l).Perm l := Nl _ l
noncomputable def rk (a b : Formula) : Bool := @decide (a = b) (Classical.propDecidable _)
theorem Af {a b : Formula} : rk a b = true ↔ a = b := by unfold rk; simp
theorem QF (a b : Formula) (h : Gd a) : pg lB a b = some (rk a b) := by
 have := wZ a
 obtain ⟨x, e, d⟩ := Qx lB a (by rw [nh]; omega) b
 rw [e]; congr 1
 rw [bT, d, Af]
def Tx : Formula := ⟨0, 0, ⟨zS, zS⟩, []⟩
theorem O8 (f1 : Formula × Formula → Option Bool) (i : Int) : ∀ (n : Nat) (l : List Formula) (k j : Int), (∀ x ∈ l, ∀ y ∈ l, f1 (x, y) = some (rk x y)) → nP i f1 n l k j = Ca rk i n l k j
 | 0, l, k, j, _ => by rw [nP, Ca]
 | n + 1, l, k, j, h => by
  rw [nP, Ca]
  split
  ·cases g : mQ (l.drop (Int.toNat i)) j with
   | none => rfl
   | some x =>
    cases p : mQ (l.drop (Int.toNat i)) (IntKind.i64.wrap (j - 1)) with
    | none => rfl
    | some y =>
     have d : x ∈ l := List.mem_of_mem_drop (dP (lM g))
     have r : y ∈ l := List.mem_of_mem_drop (dP (lM p))
     simp only [aA, h x d y r]
     cases rk x y
     ·simp only [dA, aM]
      cases s : mQ l k with
      | none => rfl
      | some z =>
       simp only [aA]
       refine O8 f1 i n _ _ _ (fun a ha b q => ?_)
       have m : ∀ a ∈ l.set (Int.toNat k) x, a ∈ l := fun a ha => by
        rcases List.mem_or_eq_of_mem_set ha with ha | rfl
        ·exact ha
        ·exact d
       exact h a (m a ha) b (m b q)
     ·simp only [cA, aB, aG, aA]
      exact O8 f1 i n _ _ _ h
  ·rfl
theorem Si (f1 : Formula × Formula → Option Bool) (l : List Formula) (h : ∀ x ∈ l, ∀ y ∈ l, f1 (x, y) = some (rk x y)) : ∀ (n : Nat) (i : Int), nN l f1 n i = CF rk Tx l n i
 | 0, i => by rw [nN, CF]
 | n + 1, i => by
  rw [nN, CF]
  split
  ·cases a : mQ l i with
   | none => rfl
   | some x =>
    cases b : mQ l (IntKind.i64.wrap (i - 1)) with
    | none => rfl
    | some y =>
     have d : x ∈ l := dP (lM a)
     have g : y ∈ l := dP (lM b)
     simp only [aA, h x d y g]
     rw [O8 f1 i lB l i 1 h, Si f1 l h n]
     rfl
  ·rfl
theorem MR (l : List Formula) (h : ∀ x ∈ l, Gd x) (b : l.length ≤ 300000) : qv l (fun x => pg lB x.1 x.2) = some (dd rk l) := by
 rw [← KI rk Tx l (by omega)]
 unfold qv J1
 rw [Si _ l (fun x a y _ => QF x y (h x a))]
end Go.Proofs.YtklbhegeiijbjaaGreat
namespace Go.Proofs.YtklbhegeiijbjaaGreat
open Go.RowKit
def mL (op : Int) (f : Formula) : Bool := decide (f.Op = op) && f.Kids.isEmpty
theorem D0 (f : Formula) (op : Int) : uz f op = some (mL op f) := by
 unfold uz mL
 rw [pV]
 by_cases h : f.Op = op
 ·simp only [h, bD, aM, bZ, eO]
  congr 1
  cases hk : f.Kids with
  | nil => rfl
  | cons a l => simp; omega
 ·have e : (f.Op == op) = false := by simpa using h
  simp [e, h]
def oY (op : Int) : List Formula → List Formula
 | [] => []
 | k :: ks => (if k.Op = op then k.Kids else [k]) ++ oY op ks
theorem DO (op : Int) : ∀ ks : List Formula, nodesL (oY op ks) ≤ nodesL ks
 | [] => aZ _
 | k :: ks => by
  have ih := DO op ks
  have e : ∀ a b : List Formula, nodesL (a ++ b) = nodesL a + nodesL b := by
   intro a b
   induction a with
   | nil => rw [bI, nodesL]; omega
   | cons x a d => rw [bX, nodesL, nodesL, d]; omega
  have := pd k
  rw [oY, e, nodesL]
  split
  ·omega
  ·rw [nodesL, nodesL]; omega
theorem Ib (op : Int) : ∀ (ks acc : List Formula), acc.length + nodesL ks ≤ 100000000 → rB op ks acc = some (acc ++ oY op ks)
 | [], acc, _ => by rw [rB, oY, bJ]
 | k :: ks, acc, h => by
  rw [nodesL] at h
  have h1 := pd k
  have a := qM k.Kids
  rw [rB, oY]
  by_cases c : k.Op = op
  ·simp only [c, bD, aM]
   rw [nU (by omega) (by omega), aA, Ib op ks _ (by simp; omega), aN]
  ·have e : (k.Op == op) = false := by simpa using c
   simp only [e, aB, aG, c]
   rw [nU (by simp; omega) (by simp; omega), aA, Ib op ks _ (by simp; omega), aN]
noncomputable def pY (op : Int) (ks : List Formula) : Formula :=
 if (oY op ks).any (mL (5 - op)) then ⟨5 - op, 0, qP, []⟩ else
  match dd rk (vO (oY op ks)) with
  | [x] => x
  | r => ⟨op, 0, qP, r⟩
theorem Ky {α : Type} (eq : α → α → Bool) (l : List α) : (dd eq l).length ≤ l.length := by
 cases l with
 | nil => exact aZ _
 | cons x l =>
  have : ∀ (l : List α) (x : α), (oa eq x l).length ≤ l.length := by
   intro l
   induction l with
   | nil => intro x; exact aZ _
   | cons y l ih => intro x; rw [oa]; have := ih y; have := ih x; split <;> simp <;> omega
  have := this l x
  rw [dd, aJ, aJ]; omega
theorem E8 (s : mg) (op : Int) (g : op = 2 ∨ op = 3) (ks : List Formula) (h : nodesL ks ≤ 64) : pp s op ks = some (pY op ks, s) := by
 have h1 := DO op ks
 have i := qM (oY op ks)
 have b : ∀ x ∈ oY op ks, Gd x := fun x a => by have := uw a; unfold Gd; omega
 have hw : IntKind.i64.wrap (5 - op) = 5 - op := me (by omega) (by omega)
 unfold pp Bi pY
 rw [Ib op ks [] (by simp; omega), aA, bI, hw, FX _ (mL (5 - op)) _ (fun x _ => by unfold rI; rw [D0, pV]), aA]
 cases j : (oY op ks).any (mL (5 - op))
 ·simp only [aB, aG]
  have hp := zm (oY op ks)
  have l := hp.length_eq
  rw [Jw _ b (by omega), aA, MR _ (fun x a => b x (hp.mem_iff.1 a)) (by omega), aA]
  have k := Ky rk (vO (oY op ks))
  have d : ¬ (((dd rk (vO (oY op ks))).length : Int) > 64) := by omega
  simp only [d, cC, aB, aG, aA]
  generalize dd rk (vO (oY op ks)) = r
  match r with
  | [] => rfl
  | [x] => rfl
  | x :: y :: r =>
   have : (((x :: y :: r).length : Int) == 1) = false := by simp; omega
   simp only [this, aB, aG]
   rfl
 ·rfl
noncomputable def ub (k : Int) (ks : List Formula) : Formula :=
 let n := k - ((ks.filter (mL 2)).length : Int)
 let l := ks.filter fun x => !mL 2 x && !mL 3 x
 if n ≤ 0 then ⟨2, 0, qP, []⟩ else if n > (l.length : Int) then ⟨3, 0, qP, []⟩ else if n = (l.length : Int) then pY 2 l else if n = 1 then pY 3 l else ⟨4, n, qP, vO l⟩
theorem zT (p : Formula → Bool) : ∀ ks : List Formula, nodesL (ks.filter p) ≤ nodesL ks
 | [] => aZ _
 | k :: ks => by
  have := zT p ks
  rw [eC]
  split
  ·rw [nodesL, nodesL]; omega
  ·rw [nodesL]; omega
theorem Br (s : mg) : ∀ (ks acc : List Formula) (k : Int), -1000 ≤ k - (ks.length : Int) → k ≤ 1000 → acc.length + ks.length ≤ 1000 → nodesL (acc ++ ks.filter fun x => !mL 2 x && !mL 3 x) ≤ 64 →
  nL s ks k acc = some (let n := k - ((ks.filter (mL 2)).length : Int); let l := acc ++ ks.filter fun x => !mL 2 x && !mL 3 x; if n ≤ 0 then ⟨2, 0, qP, []⟩ else if n > (l.length : Int) then ⟨3, 0, qP, []⟩ else if n = (l.length : Int) then pY 2 l else if n = 1 then pY 3 l else ⟨4, n, qP, vO l⟩, s)
 | [], acc, k, h1, g, h, a => by
  simp only [jA, bJ, bU] at a ⊢
  rw [nL]
  simp only [Int.ofNat_zero, Int.sub_zero, zL, Al, aA, Int.natCast_zero]
  have p := qM acc
  by_cases c1 : k ≤ 0
  ·simp only [c1, bZ, aM]; rfl
  ·simp only [c1, cC, aB, aG]
   by_cases c2 : k > (acc.length : Int)
   ·simp only [c2, bZ, aM]; rfl
   ·simp only [c2, cC, aB, aG]
    by_cases b : k = (acc.length : Int)
    ·simp only [← b, bD, aM]
     rw [E8 s 2 (.inl rfl) acc a, aA]
    ·have i : (k == (acc.length : Int)) = false := by simpa using b
     simp only [i, aB, aG, b]
     by_cases d : k = 1
     ·simp only [d, bD, aM]
      rw [E8 s 3 (.inr rfl) acc a, aA]
     ·have j : (k == 1) = false := by simpa using d
      simp only [j, aB, aG, d]
      rw [Jw acc (fun x m => by have := uw m; unfold Gd; omega) (by omega)]
      rfl
 | x :: ks, acc, k, h1, g, h, a => by
  simp only [aJ] at h1 h
  rw [nL, D0, aA, D0, aA]
  rw [eC, eC] at *
  cases c2 : mL 2 x
  ·cases b : mL 3 x
   ·simp only [c2, b, dA, jZ, aB, aG, aM] at a ⊢
    rw [nU (by simp; omega) (by simp; omega), aA, Br s ks _ k (by omega) g (by simp; omega) (by rw [aN]; exact a)]
    simp only [aN, bX, bI]
   ·simp only [c2, b, dA, cA, Bool.and_false, aB, aG] at a ⊢
    rw [Br s ks _ k (by omega) g (by omega) a]
  ·simp only [c2, cA, iF, aB, aG, aM] at a ⊢
   rw [me (by omega) (by omega), Br s ks _ (k - 1) (by omega) (by omega) (by omega) a]
   simp only [aJ]
   have e : k - 1 - ((ks.filter (mL 2)).length : Int) = k - (((ks.filter (mL 2)).length + 1 : Nat) : Int) := by omega
   rw [e]
theorem MZ (s : mg) (k : Int) (hk : 0 ≤ k ∧ k ≤ 1000) (ks : List Formula) (h : nodesL ks ≤ 64) : rJ s k ks = some (ub k ks, s) := by
 have := qM ks
 have := zT (fun x => !mL 2 x && !mL 3 x) ks
 unfold rJ ub
 rw [Br s ks [] k (by omega) (by omega) (by simp; omega) (by simpa using by omega)]
 rfl
mutual
noncomputable def qx : Formula → Formula
 | ⟨o, k, r, ks⟩ => if o = 1 then ⟨o, k, r, ks⟩ else if o = 4 then ub k (shapeL ks) else pY o (shapeL ks)
noncomputable def shapeL : List Formula → List Formula
 | [] => []
 | k :: ks => qx k :: shapeL ks
end
theorem AX (f : Formula) : qx f = if f.Op = 1 then f else if f.Op = 4 then ub f.K (shapeL f.Kids) else pY f.Op (shapeL f.Kids) := by cases f; rw [qx]
theorem F2 {a b : List Formula} (h : a.Perm b) : nodesL a = nodesL b := by
 induction h with
 | nil => rfl
 | cons x _ ih => rw [nodesL, nodesL, ih]
 | swap x y l => rw [nodesL, nodesL, nodesL, nodesL]; omega
 | trans _ _ h1 d => rw [h1, d]
theorem Ea (eq : Formula → Formula → Bool) : ∀ (l : List Formula) (x : Formula), nodesL (oa eq x l) ≤ nodesL l
 | [], x => aZ _
 | y :: l, x => by
  have h1 := Ea eq l y
  have a := Ea eq l x
  rw [oa]
  split
  ·rw [nodesL]; omega
  ·rw [nodesL, nodesL]; omega
theorem OX (eq : Formula → Formula → Bool) (l : List Formula) : nodesL (dd eq l) ≤ nodesL l := by
 cases l with
 | nil => exact aZ _
 | cons x l => have := Ea eq l x; rw [dd, nodesL, nodesL]; omega
theorem BY (op : Int) (ks : List Formula) : lY (pY op ks) ≤ 1 + nodesL ks := by
 unfold pY
 split
 ·rw [lY, nodesL]; omega
 ·have h1 := OX rk (vO (oY op ks))
  have a := F2 (zm (oY op ks))
  have b := DO op ks
  generalize dd rk (vO (oY op ks)) = r at *
  split
  ·rename_i x
   rw [nodesL, nodesL] at h1; omega
  ·rw [lY]; omega
theorem Jg (k : Int) (ks : List Formula) : lY (ub k ks) ≤ 1 + nodesL ks := by
 have h := zT (fun x => !mL 2 x && !mL 3 x) ks
 unfold ub
 simp only
 generalize ks.filter (fun x => !mL 2 x && !mL 3 x) = l at *
 generalize k - ((ks.filter (mL 2)).length : Int) = n
 split
 ·rw [lY, nodesL]; omega
 ·split
  ·rw [lY, nodesL]; omega
  ·split
   ·have := BY 2 l; omega
   ·split
    ·have := BY 3 l; omega
    ·have := F2 (zm l); rw [lY]; omega
theorem AI : ∀ f : Formula, lY (qx f) ≤ lY f := by
 refine JE fun f ih => ?_
 have h : ∀ ks : List Formula, (∀ k ∈ ks, lY (qx k) ≤ lY k) → nodesL (shapeL ks) ≤ nodesL ks := by
  intro ks
  induction ks with
  | nil => intro _; rw [shapeL]; exact aZ _
  | cons k ks a =>
   intro h
   have := a (fun x b => h x (by simp [b]))
   have := h k (by simp)
   rw [shapeL, nodesL, nodesL]; omega
 have h := h f.Kids ih
 rw [AX, pd f]
 split
 ·rw [pd]; omega
 ·split
  ·have := Jg f.K (shapeL f.Kids); omega
  ·have := BY f.Op (shapeL f.Kids); omega
theorem ED (ks : List Formula) : nodesL (shapeL ks) ≤ nodesL ks := by
 induction ks with
 | nil => rw [shapeL]; exact aZ _
 | cons k ks ih => have := AI k; rw [shapeL, nodesL, nodesL]; omega
theorem Pj : ∀ (n : Nat) (f : Formula), oV f ≤ n → lY f ≤ 64 → uq f = true → ∀ s : mg, oq n s f = some (qx f, s) := by
 intro n
 induction n with
 | zero => intro f h; rw [nQ] at h; omega
 | succ n ih =>
  intro f r v hw s
  rw [nQ] at r
  have t := pd f
  obtain ⟨h1, q, l⟩ := yv hw
  rw [oq]
  unfold tb
  rw [AX]
  by_cases c1 : f.Op = 1
  ·simp only [c1, bD, aM]
  ·have m : (f.Op == 1) = false := by simpa using c1
   simp only [m, aB, aG, c1]
   have key : ∀ (ks acc : List Formula), (∀ k ∈ ks, k ∈ f.Kids) → wellL ks = true → nodesL (acc ++ shapeL ks) ≤ 64 → nodesL ks ≤ 64 → oR (oq n) f ks acc s = some (if f.Op = 4 then ub f.K (acc ++ shapeL ks) else pY f.Op (acc ++ shapeL ks), s) := by
    intro ks
    induction ks with
    | nil =>
     intro acc _ _ d _
     rw [shapeL, bJ] at *
     rw [oR]
     by_cases g : f.Op = 4
     ·simp only [g, bD, aM]
      rw [MZ s f.K (by rcases l with h | h | h <;> omega) acc d, aA]
     ·have p : (f.Op == 4) = false := by simpa using g
      simp only [p, aB, aG, g]
      rw [E8 s f.Op (by rcases l with h | h | h <;> omega) acc d, aA]
    | cons k ks j =>
     intro acc hk a d i
     rw [wellL, bH] at a
     rw [nodesL] at i
     rw [shapeL] at d
     have b := qM (acc ++ qx k :: shapeL ks)
     simp only [aF, aJ] at b
     rw [oR, ih k (by have := rR (hk k (by simp)); omega) (by omega) a.1 s, aA, nU (by simp; omega) (by simp; omega), aA,
      j (acc ++ [qx k]) (fun z u => hk z (by simp [u])) a.2 (by rw [aN]; exact d) (by omega), shapeL]
     simp only [aN, bX, bI]
   have := ED f.Kids
   have := key f.Kids [] (fun k hk => hk) q (by simpa using by omega) (by omega)
   simpa using this
def F8 : Formula := ⟨0, 0, qP, []⟩
noncomputable def yi (f : Formula) : Formula × Int := if oM f then (if oM (qx f) then (qx f, 0) else (F8, 12)) else (F8, 11)
theorem Lt (f : Formula) (h : Gd f) : yF f = some (yi f) := by
 unfold yF yi
 rw [Eb f h, aA]
 cases b : oM f
 ·rfl
 ·obtain ⟨h1, d, a⟩ := An b
  have g := AI f
  simp only [cA, aB, aG, aM]
  rw [Pj lB f (by rw [nh]; omega) h1 a, aA, Eb (qx f) (by omega)]
  have e : (((⟨0⟩ : mg).e) != 0) = false := rfl
  simp only [e, aB, aG, aA]
  cases oM (qx f) <;> rfl
theorem zj {f : Formula} : lY (yi f).1 ≤ 64 := by
 unfold yi
 cases h : oM f
 ·exact by simp only [aB, aG, F8]; rw [lY, nodesL]; omega
 ·obtain ⟨h1, a, b⟩ := An h
  have := AI f
  simp only [aM]
  split
  ·show lY (qx f) ≤ 64; omega
  ·rw [F8, lY, nodesL]; omega
theorem Q0 (f g : Formula) (a : lY f ≤ 10000000) (b : lY g ≤ 10000000) : yO f g = some (yi ⟨2, 0, qP, [f, g]⟩) := by
 unfold yO
 have := Lt ⟨2, 0, qP, [f, g]⟩ (by show lY _ ≤ _; rw [lY, nodesL, nodesL, nodesL]; omega)
 rw [show (⟨2, 0, (⟨zS, zS⟩ : kC), [f, g]⟩ : Formula) = ⟨2, 0, qP, [f, g]⟩ from rfl, this]
 rfl
end Go.Proofs.YtklbhegeiijbjaaGreat
namespace Go.Proofs.YtklbhegeiijbjaaGreat
open Go.RowKit
mutual
def qS (v : kC → Bool) : Formula → Bool
 | ⟨o, k, r, ks⟩ => if o = 1 then v r else if o = 2 then decide (evN v ks = ks.length) else if o = 3 then decide (0 < evN v ks) else decide (k ≤ (evN v ks : Int))
def evN (v : kC → Bool) : List Formula → Nat
 | [] => 0
 | k :: ks => (if qS v k then 1 else 0) + evN v ks
end
theorem wL (v : kC → Bool) (f : Formula) : qS v f = if f.Op = 1 then v f.kC else if f.Op = 2 then decide (evN v f.Kids = f.Kids.length) else if f.Op = 3 then decide (0 < evN v f.Kids) else decide (f.K ≤ (evN v f.Kids : Int)) := by cases f; rw [qS]
theorem Hi (v : kC → Bool) : ∀ ks : List Formula, evN v ks ≤ ks.length
 | [] => by rw [evN]; exact aZ _
 | k :: ks => by have := Hi v ks; rw [evN, aJ]; split <;> omega
theorem HR (v : kC → Bool) : ∀ ks : List Formula, evN v ks = ks.length ↔ ∀ k ∈ ks, qS v k = true
 | [] => by rw [evN]; simp
 | k :: ks => by
  have h1 := Hi v ks
  have a := HR v ks
  rw [evN, aJ]
  simp only [jv, ← a]
  cases qS v k <;> simp <;> omega
theorem HT (v : kC → Bool) : ∀ ks : List Formula, 0 < evN v ks ↔ ∃ k ∈ ks, qS v k = true
 | [] => by rw [evN]; simp
 | k :: ks => by
  have a := HT v ks
  rw [evN]
  simp only [aQ, exists_eq_or_imp, ← a]
  cases qS v k <;> simp <;> omega
theorem Hu (v : kC → Bool) (ks : List Formula) : evN v ks = (ks.filter (qS v)).length := by
 induction ks with
 | nil => rw [evN]; rfl
 | cons k ks ih => rw [evN, ih, eC]; cases qS v k <;> simp <;> omega
theorem Pt (v : kC → Bool) {a b : List Formula} (h : a.Perm b) : evN v a = evN v b := by
 rw [Hu, Hu]; exact (h.filter _).length_eq
theorem QX {v w : kC → Bool} (h : ∀ r, v r = true → w r = true) : ∀ f : Formula, qS v f = true → qS w f = true := by
 refine JE fun f ih => ?_
 have key : evN v f.Kids ≤ evN w f.Kids := by
  have : ∀ ks : List Formula, (∀ k ∈ ks, qS v k = true → qS w k = true) → evN v ks ≤ evN w ks := by
   intro ks
   induction ks with
   | nil => intro _; rw [evN, evN]; exact aZ _
   | cons k ks a =>
    intro hk
    have h1 := a (fun x g => hk x (by simp [g]))
    have b := hk k (by simp)
    rw [evN, evN]
    cases d : qS v k
    ·simp; omega
    ·rw [b d]; simp; omega
  exact this _ ih
 have hle := Hi w f.Kids
 rw [wL, wL]
 split
 ·exact h _
 ·split
  ·simp only [bK]; omega
  ·split
   ·simp only [bK]; omega
   ·simp only [bK]; omega
theorem EG (v : kC → Bool) (f1 : kC → Option Bool) (rec : Formula → (kC → Option Bool) → Option Bool) (f : Formula) : ∀ (ks : List Formula) (x : Nat), (∀ k ∈ ks, rec k f1 = some (qS v k)) → x + ks.length ≤ 100000000 →
  qk rec f1 f ks (x : Int) = some (if f.Op = 2 then decide (x + evN v ks = f.Kids.length) else if f.Op = 3 then decide (0 < x + evN v ks) else decide (f.K ≤ ((x + evN v ks : Nat) : Int)))
 | [], x, _, _ => by
  rw [qk, evN, je]
  by_cases c2 : f.Op = 2
  ·simp only [c2, bD, aM]
   congr 1
   rw [bT, iV, bK]; omega
  ·have b : (f.Op == 2) = false := by simpa using c2
   simp only [b, aB, aG, c2]
   by_cases a : f.Op = 3
   ·simp only [a, bD, aM]
    congr 1
    rw [bT, bK, bK]; omega
   ·have g : (f.Op == 3) = false := by simpa using a
    simp only [g, aB, aG, a]
 | k :: ks, x, h, i => by
  rw [aJ] at i
  rw [qk, h k (by simp), aA, evN]
  cases qS v k
  ·simp only [aB, aG]
   rw [EG v f1 rec f ks x (fun z d => h z (by simp [d])) (by omega), fN]
  ·simp only [aM]
   have e : IntKind.i64.wrap ((x : Int) + 1) = ((x + 1 : Nat) : Int) := by rw [me (by omega) (by omega)]; omega
   rw [e, EG v f1 rec f ks (x + 1) (fun z d => h z (by simp [d])) (by omega)]
   have b : x + 1 + evN v ks = x + (1 + evN v ks) := by omega
   rw [b]
theorem NL (v : kC → Bool) (f1 : kC → Option Bool) (i : ∀ r, f1 r = some (v r)) : ∀ (n : Nat) (f : Formula), oV f ≤ n → Gd f → qQ n f f1 = some (qS v f) := by
 intro n
 induction n with
 | zero => intro f h; rw [nQ] at h; omega
 | succ n ih =>
  intro f b d
  rw [nQ] at b
  have g := pd f
  have j := qM f.Kids
  unfold Gd at d
  rw [qQ]
  unfold wm
  rw [wL]
  by_cases c1 : f.Op = 1
  ·simp only [c1, bD, aM, i, aA]
  ·have a : (f.Op == 1) = false := by simpa using c1
   simp only [a, aB, aG, c1]
   have := EG v f1 (qQ n) f f.Kids 0 (fun k hk => ih k (by have := rR hk; omega) (by have := uw hk; unfold Gd; omega)) (by omega)
   simpa using this
def xP (v : kC → Bool) (f : Formula) : Bool := oM f && qS v f
theorem Mf (v : kC → Bool) (f1 : kC → Option Bool) (a : ∀ r, f1 r = some (v r)) (f : Formula) (h : Gd f) : vV f f1 = some (xP v f) := by
 unfold vV xP
 rw [Eb f h, aA]
 have := wZ f
 cases oM f
 ·rfl
 ·unfold Gd at h
  simp only [aM, NL v f1 a lB f (by rw [nh]; omega) h, aA, eO]
theorem G8 (op : Int) (f : Formula) : mL op f = true ↔ f.Op = op ∧ f.Kids = [] := by
 unfold mL; simp
theorem IB (v : kC → Bool) {f : Formula} (h : mL 2 f = true) : qS v f = true := by
 obtain ⟨h1, a⟩ := (G8 2 f).1 h
 rw [wL, h1, a, evN]; rfl
theorem IP (v : kC → Bool) {f : Formula} (h : mL 3 f = true) : qS v f = false := by
 obtain ⟨h1, a⟩ := (G8 3 f).1 h
 rw [wL, h1, a, evN]; rfl
def uV (v : kC → Bool) (ks : List Formula) : Bool := ks.all (qS v)
def vw (v : kC → Bool) (ks : List Formula) : Bool := ks.any (qS v)
theorem Lr (v : kC → Bool) (k : Int) (r : kC) (ks : List Formula) : qS v ⟨2, k, r, ks⟩ = uV v ks := by
 rw [wL, bT]; simp [uV, HR]
theorem Om (v : kC → Bool) (k : Int) (r : kC) (ks : List Formula) : qS v ⟨3, k, r, ks⟩ = vw v ks := by
 rw [wL, bT]; simp [vw, HT]
theorem JK (v : kC → Bool) : ∀ ks : List Formula, uV v (oY 2 ks) = uV v ks
 | [] => rfl
 | k :: ks => by
  have ih := JK v ks
  unfold uV at ih ⊢
  rw [oY, List.all_append, ih, jt]
  congr 1
  split
  ·rename_i h
   obtain ⟨o, n, r, l⟩ := k
   simp only at h; subst h
   exact (Lr v n r l).symm
  ·simp
theorem JC (v : kC → Bool) : ∀ ks : List Formula, vw v (oY 3 ks) = vw v ks
 | [] => rfl
 | k :: ks => by
  have ih := JC v ks
  unfold vw at ih ⊢
  rw [oY, List.any_append, ih, iP]
  congr 1
  split
  ·rename_i h
   obtain ⟨o, n, r, l⟩ := k
   simp only at h; subst h
   exact (Om v n r l).symm
  ·simp
theorem NP (l : List Formula) (x : Formula) : x ∈ dd rk (vO l) ↔ x ∈ l := by
 rw [JY (fun _ _ => Af), (zm l).mem_iff]
theorem Oa {v : kC → Bool} {a b : List Formula} (h : ∀ x, x ∈ a ↔ x ∈ b) : uV v a = uV v b := by
 unfold uV; rw [bT, gM, gM]
 exact ⟨fun q x d => q x ((h x).2 d), fun q x d => q x ((h x).1 d)⟩
theorem NV {v : kC → Bool} {a b : List Formula} (h : ∀ x, x ∈ a ↔ x ∈ b) : vw v a = vw v b := by
 unfold vw; rw [bT, fA, fA]
 exact ⟨fun ⟨x, d, q⟩ => ⟨x, (h x).1 d, q⟩, fun ⟨x, d, q⟩ => ⟨x, (h x).2 d, q⟩⟩
theorem Hz (v : kC → Bool) (ks : List Formula) : qS v (pY 2 ks) = uV v ks := by
 rw [← JK]
 unfold pY
 split
 ·rename_i h
  rw [show (5 - 2 : Int) = 3 from rfl, Om]
  obtain ⟨x, a, he⟩ := fA.1 h
  have : uV v (oY 2 ks) = false := by
   unfold uV; rw [List.all_eq_false]; exact ⟨x, a, by rw [IP v he]; simp⟩
  rw [this]; rfl
 ·rw [← Oa (NP (oY 2 ks))]
  generalize dd rk (vO (oY 2 ks)) = r
  split
  ·simp [uV]
  ·exact Lr v 0 qP r
theorem Hq (v : kC → Bool) (ks : List Formula) : qS v (pY 3 ks) = vw v ks := by
 rw [← JC]
 unfold pY
 split
 ·rename_i h
  rw [show (5 - 3 : Int) = 2 from rfl, Lr]
  obtain ⟨x, a, he⟩ := fA.1 h
  have : vw v (oY 3 ks) = true := by
   unfold vw; rw [fA]; exact ⟨x, a, IB v he⟩
  rw [this]; rfl
 ·rw [← NV (NP (oY 3 ks))]
  generalize dd rk (vO (oY 3 ks)) = r
  split
  ·simp [vw]
  ·exact Om v 0 qP r
theorem IW (v : kC → Bool) : ∀ ks : List Formula, evN v ks = (ks.filter (mL 2)).length + evN v (ks.filter fun x => !mL 2 x && !mL 3 x)
 | [] => rfl
 | k :: ks => by
  have ih := IW v ks
  rw [evN, eC, eC, ih]
  cases a : mL 2 k
  ·cases b : mL 3 k
   ·simp only [dA, jZ, aB, aG, aM]
    rw [evN]; omega
   ·rw [IP v b]; simp
  ·rw [IB v a]; simp; omega
theorem M4 (v : kC → Bool) (k : Int) (ks : List Formula) : qS v (ub k ks) = decide (k ≤ (evN v ks : Int)) := by
 have b := IW v ks
 unfold ub
 simp only
 generalize a : ks.filter (fun x => !mL 2 x && !mL 3 x) = l at *
 generalize (ks.filter (mL 2)).length = m at *
 have hle := Hi v l
 have ha := HR v l
 have hp := HT v l
 split
 ·rw [Lr]; simp [uV]; omega
 ·split
  ·rw [Om]; simp [vw]; omega
  ·split
   ·rw [Hz, bT, bK]
    unfold uV
    rw [gM, ← ha]; omega
   ·split
    ·rw [Hq, bT, bK]
     unfold vw
     rw [fA, ← hp]; omega
    ·rw [wL]
     simp only [Pt v (zm l)]
     have : ¬ ((4 : Int) = 1) := by omega
     have : ¬ ((4 : Int) = 2) := by omega
     have : ¬ ((4 : Int) = 3) := by omega
     simp only [*, aG]
     rw [bT, bK, bK]; omega
theorem O1 (v : kC → Bool) : ∀ f : Formula, uq f = true → qS v (qx f) = qS v f := by
 refine JE fun f ih hw => ?_
 obtain ⟨h1, g, i⟩ := yv hw
 rw [Fa, gM] at g
 have key : ∀ ks : List Formula, (∀ k ∈ ks, qS v (qx k) = qS v k) → evN v (shapeL ks) = evN v ks ∧ uV v (shapeL ks) = uV v ks ∧ vw v (shapeL ks) = vw v ks := by
  intro ks
  induction ks with
  | nil => intro _; rw [shapeL]; exact ⟨rfl, rfl, rfl⟩
  | cons k ks d =>
   intro hk
   obtain ⟨a, b, c⟩ := d (fun x j => hk x (by simp [j]))
   have h := hk k (by simp)
   unfold uV vw at *
   rw [shapeL, evN, evN, a, h, jt, jt, iP, iP, b, c, h]
   exact ⟨rfl, rfl, rfl⟩
 obtain ⟨a, b, c⟩ := key f.Kids (fun k hk => ih k hk (g k hk))
 obtain ⟨o, n, r, l⟩ := f
 simp only at *
 rw [AX]
 simp only
 rcases i with h | h | h
 ·simp only [h.1, aM]
 ·rcases h.1 with h | h
  ·subst h
   rw [Lr]
   exact (Hz v _).trans b
  ·subst h
   rw [Om]
   exact (Hq v _).trans c
 ·obtain ⟨h, _⟩ := h
  subst h
  rw [wL v ⟨4, n, r, l⟩]
  exact (M4 v n _).trans (by rw [a]; rfl)
theorem NB {f g : Formula} (h : yi f = (g, 0)) : oM f = true ∧ oM g = true ∧ ∀ v, qS v g = qS v f := by
 unfold yi at h
 cases a : oM f
 ·rw [a] at h; simp at h
 ·rw [a] at h
  simp only [aM] at h
  cases b : oM (qx f)
  ·rw [b] at h; simp at h
  ·rw [b] at h
   simp only [aM, Prod.mk.injEq] at h
   obtain ⟨rfl, _⟩ := h
   exact ⟨rfl, b, fun v => O1 v f (An a).2.2⟩
end Go.Proofs.YtklbhegeiijbjaaGreat
namespace Go.Proofs.YtklbhegeiijbjaaGreat
open Go.RowKit
structure PB (p : lI) : Prop where
 DR : p.kO.length ≤ 2000000
 H2 : p.lg.length ≤ 2000000
 rel : ∀ x ∈ p.kO, lY x.kH ≤ 10000000
 Gs : ∀ a ∈ p.lg, lY a.kH ≤ 10000000
 PV : ∀ a ∈ p.lg, a.na.length ≤ 2000000
theorem J8 (f : ll → Option Bool) : ∀ (l : List ll) (i : Nat), ov f l i = Ah f l i
 | [], i => by rw [ov]; rfl
 | x :: l, i => by
  rw [ov, Ah]
  cases f x with
  | none => rfl
  | some b =>
   simp only [aA]
   rw [J8 f l (i + 1)]
theorem JB (f : nE → Option Bool) : ∀ (l : List nE) (i : Nat), pa f l i = Ah f l i
 | [], i => by rw [pa]; rfl
 | x :: l, i => by
  rw [pa, Ah]
  cases f x with
  | none => rfl
  | some b =>
   simp only [aA]
   rw [JB f l (i + 1)]
def AD (p : lI) (c : kE) : Option ll := p.kO.find? fun x => nc x.Signed.kE c
theorem Rh (p : lI) (c : kE) : ∃ z, zy p c = some (match AD p c with | some x => (x, true) | none => (z, false)) := by
 unfold zy tZ AD
 rw [J8]
 rcases DS (fun x => xh x c) (fun x => nc x.Signed.kE c) p.kO 0 (fun x _ => rfl) with ⟨e, h1⟩ | ⟨A, x, B, hp, h1, b, e⟩
 ·rw [e, aA, iX.2 (fun x a => by rw [h1 x a]; simp)]
  exact ⟨_, rfl⟩
 ·rw [e, aA, hp, jV, iX.2 (fun x a => by rw [h1 x a]; simp), gP, b]
  have : ¬ (((0 + A.length : Nat) : Int) < 0) := by omega
  simp only [this, cC, aB, aG]
  rw [nR A x B _ (by omega)]
  exact ⟨x, rfl⟩
def Su : nE := ⟨⟨zS, zS⟩, ⟨0, 0, ⟨zS, zS⟩, []⟩, []⟩
theorem JH (f : nE → Option Bool) : ∀ (n : Nat) (l : List nE) (i j : Int), oQ f n l i j = DU f Su n l i j
 | 0, _, _, _ => rfl
 | n + 1, l, i, j => by
  rw [oQ, DU]
  simp only [JH f n]
  rfl
def zz (p : lI) (c : kE) : List nE := p.lg.filter fun a => sv nc a.na c
theorem Pm (p : lI) (hp : PB p) (c : kE) : yQ p c = some (zz p c) := by
 have := hp.H2
 unfold yQ vu zz
 rw [nU (by simp; omega) (by simp; omega)]
 simp only [aA, bI, pV]
 have : sC p.lg (fun x => tf x c) = Ia (fun x => tf x c) Su p.lg := by
  unfold sC Ia vH
  simp only [JB, JH]
 rw [this, JU _ (fun a => !sv nc a.na c) Su _ (by omega) (fun a _ => by unfold tf wA; rw [pV, O6]; rfl)]
 simp only [jk]
noncomputable def qa : Formula × Int → List Formula → Formula × Int
 | t, [] => t
 | t, g :: l => if t.2 = 0 then qa (yi ⟨2, 0, qP, [t.1, g]⟩) l else t
theorem Lj : ∀ (l : List Formula) (e o k : Int) (r : kC) (ks : List Formula), (∀ g ∈ l, lY g ≤ 10000000) → lY ⟨o, k, r, ks⟩ ≤ 64 →
  ux l e o k r ks = some ((qa (⟨o, k, r, ks⟩, e) l).2, (qa (⟨o, k, r, ks⟩, e) l).1.Op, (qa (⟨o, k, r, ks⟩, e) l).1.K, (qa (⟨o, k, r, ks⟩, e) l).1.kC, (qa (⟨o, k, r, ks⟩, e) l).1.Kids)
 | [], e, o, k, r, ks, _, _ => by rw [ux, qa]
 | g :: l, e, o, k, r, ks, h, n => by
  rw [ux, qa]
  by_cases c : e = 0
  ·have a : (e != 0) = false := by simp [c]
   simp only [a, aB, aG, c, aM]
   rw [Q0 _ g (by omega) (h g (by simp)), aA]
   have d := zj (f := ⟨2, 0, qP, [⟨o, k, r, ks⟩, g]⟩)
   generalize yi ⟨2, 0, qP, [⟨o, k, r, ks⟩, g]⟩ = q at *
   obtain ⟨⟨j, k', m, b⟩, e'⟩ := q
   exact Lj l e' j k' m b (fun z i => h z (by simp [i])) d
  ·have a : (e != 0) = true := by simp [c]
   simp only [a, aM, c, aG]
noncomputable def CX (g : Formula) (l : List Formula) : Formula × Int := if (qa (yi g) l).2 = 0 then qa (yi g) l else (F8, (qa (yi g) l).2)
theorem QQ (g : Formula) (l : List Formula) (m : lY g ≤ 10000000) (h : ∀ x ∈ l, lY x ≤ 10000000) : wT (g :: l) = some (CX g l) := by
 unfold wT CX
 have b : mQ (g :: l) 0 = some g := nR [] g l 0 rfl
 have a : rb (decide (0 ≤ 1) && decide ((1 : Int) ≤ ((g :: l).length : Int))) = some () := by
  rw [aJ]
  have : (1 : Int) ≤ ((l.length + 1 : Nat) : Int) := by omega
  simp [rb]; omega
 have i := zj (f := g)
 rw [b, aA, Lt g (by unfold Gd; omega), aA, a, aA]
 generalize yi g = q at *
 obtain ⟨⟨o, k, r, ks⟩, e⟩ := q
 have d : (g :: l).drop (Int.toNat 1) = l := rfl
 rw [d, Lj l e o k r ks h i, aA]
 generalize qa (⟨o, k, r, ks⟩, e) l = t
 obtain ⟨⟨n, k', p, j⟩, e'⟩ := t
 by_cases c : e' = 0
 ·subst c; rfl
 ·have a : (e' != 0) = true := by simp [c]
  simp only [a, aM, c, aG]; rfl
noncomputable def qm (p : lI) (c : kE) : Formula × Int := match AD p c with | none => (F8, 42) | some x => CX x.kH ((zz p c).map (·.kH))
theorem Oi : ∀ (l : List nE) (acc : List Formula), acc.length + l.length ≤ 3000000 → ve l acc = wT (acc ++ l.map (·.kH))
 | [], acc, _ => by
  rw [ve, gF, bJ]
  cases wT acc <;> rfl
 | a :: l, acc, h => by
  rw [aJ] at h
  rw [ve, nU (by simp; omega) (by simp; omega), aA, Oi l _ (by simp; omega)]
  simp
theorem Pk {p : lI} {c : kE} {x : ll} (h : AD p c = some x) : x ∈ p.kO ∧ x.Signed.kE = c := by
 unfold AD at h
 have h1 := List.mem_of_find?_eq_some h
 have a := List.find?_some h
 exact ⟨h1, ol.1 a⟩
theorem Sk (p : lI) (hp : PB p) (c : kE) : Bs p c = some (qm p c) := by
 unfold Bs qm
 obtain ⟨z, e⟩ := Rh p c
 rw [e, aA]
 cases h : AD p c with
 | none => rfl
 | some x =>
  simp only [cA, aB, aG]
  have d := Pk h
  have i : (zz p c).length ≤ p.lg.length := fY _ _
  have := hp.H2
  rw [Pm p hp c, aA, Oi _ _ (by simp; omega)]
  exact QQ x.kH _ (hp.rel x d.1) (fun g b => by
   obtain ⟨a, ha, rfl⟩ := bO.1 b
   exact hp.Gs a (cH.1 ha).1)
theorem Iw (p : lI) (c : kE) : lY (qm p c).1 ≤ 64 := by
 have a : lY F8 ≤ 64 := by rw [F8, lY, nodesL]; omega
 have b : ∀ (l : List Formula) (t : Formula × Int), lY t.1 ≤ 64 → lY (qa t l).1 ≤ 64 := by
  intro l
  induction l with
  | nil => intro t h; exact h
  | cons g l ih =>
   intro t h
   rw [qa]
   split
   ·exact ih _ zj
   ·exact h
 unfold qm
 split
 ·exact a
 ·unfold CX
  split
  ·exact b _ _ zj
  ·exact a
theorem Kd : ∀ (l : List Formula) (f : Formula) (e : Int), (qa (f, e) l).2 = 0 → e = 0 ∧ (oM f = true → oM (qa (f, e) l).1 = true ∧ ∀ v, qS v (qa (f, e) l).1 = (qS v f && l.all (qS v)))
 | [], f, e, h => by rw [qa] at *; exact ⟨h, fun j => ⟨j, fun v => by simp⟩⟩
 | g :: l, f, e, h => by
  rw [qa] at *
  by_cases c : e = 0
  ·simp only [c, aM] at h ⊢
   cases a : yi ⟨2, 0, qP, [f, g]⟩ with
   | mk q e' =>
    rw [a] at h
    obtain ⟨h1, i⟩ := Kd l q e' h
    subst h1
    obtain ⟨k, a2, a3⟩ := NB a
    obtain ⟨b, d⟩ := i a2
    refine ⟨trivial, fun _ => ⟨b, fun v => ?_⟩⟩
    rw [d v, a3 v, Lr]
    simp [uV, jj]
  ·simp only [c, aG] at h
theorem NH {p : lI} {c : kE} (h : (qm p c).2 = 0) : oM (qm p c).1 = true ∧ ∃ x, AD p c = some x ∧ ∀ v, qS v (qm p c).1 = (qS v x.kH && (zz p c).all fun a => qS v a.kH) := by
 unfold qm at *
 cases g : AD p c with
 | none => rw [g] at h; simp at h
 | some x =>
  rw [g] at h
  simp only at h ⊢
  unfold CX at *
  by_cases b : (qa (yi x.kH) ((zz p c).map (·.kH))).2 = 0
  ·simp only [b, aM] at h ⊢
   cases d : yi x.kH with
   | mk q e =>
    rw [d] at b
    obtain ⟨h1, k⟩ := Kd _ q e b
    subst h1
    obtain ⟨l, a2, a3⟩ := NB d
    obtain ⟨i, j⟩ := k a2
    refine ⟨i, x, rfl, fun v => ?_⟩
    rw [j v, a3 v, List.all_map]
    rfl
  ·simp only [b, aG] at h
def vF (F : List kZ) (peer : ByteArray) (r : kC) : Bool := sv Bz F ⟨r, peer⟩
theorem QH {l : List kE} {F : List kZ} (h : JW l F) (peer : ByteArray) : ∃ m, vR l peer = some m ∧ ∀ r, qR r m.1 m.2.1 m.2.2.1 m.2.2.2.1 m.2.2.2.2.1 m.2.2.2.2.2.1 m.2.2.2.2.2.2 = some (vF F peer r) := by
 obtain ⟨m, e, _, a⟩ := h.TK
 unfold vR
 rw [e, aA]
 refine ⟨_, rfl, fun r => ?_⟩
 unfold qR
 rw [pV]
 exact a r peer
noncomputable def AH (p : lI) (v : kC → Bool) (x : ll) : Bool := decide ((qm p x.Signed.kE).2 = 0) && xP v (qm p x.Signed.kE).1
theorem Dc (p : lI) (hp : PB p) (v : kC → Bool) (m) (a : ∀ r, qR r m.1 m.2.1 m.2.2.1 m.2.2.2.1 m.2.2.2.2.1 m.2.2.2.2.2.1 m.2.2.2.2.2.2 = some (v r)) : ∀ (l : List ll) (acc : List kE), acc.length + l.length ≤ 1000000000 →
  rZ p m l acc = zI (acc ++ (l.filter (AH p v)).map (·.Signed.kE))
 | [], acc, _ => by
  rw [rZ, jA, gF, bJ, pV]
 | x :: l, acc, h => by
  rw [aJ] at h
  have b := Iw p x.Signed.kE
  rw [rZ, Sk p hp, aA, Mf v _ a _ (by unfold Gd; omega), eC]
  unfold AH
  by_cases c : (qm p x.Signed.kE).2 = 0
  ·simp only [c, bD, aM, bZ, eO, aA]
   cases d : xP v (qm p x.Signed.kE).1
   ·simp only [aB, aG]
    exact Dc p hp v m a l acc (by omega)
   ·simp only [aM]
    rw [nU (by simp; omega) (by simp; omega), aA, Dc p hp v m a l _ (by simp; omega)]
    simp only [bP, aN, bX, bI]
    rfl
  ·have e : ((qm p x.Signed.kE).2 == 0) = false := by simpa using c
   simp only [e, aB, aG, c, cC, iF, aA]
   exact Dc p hp v m a l acc (by omega)
theorem Qt (p : lI) (hp : PB p) {l : List kE} {F : List kZ} (h : JW l F) (peer : ByteArray) : ∃ s, tD p l peer = some s ∧ Kg ((p.kO.filter (AH p (vF F peer))).map (·.Signed.kE)) s := by
 obtain ⟨m, e, a⟩ := QH h peer
 have := hp.DR
 unfold tD
 rw [e, aA, Dc p hp _ m a p.kO [] (by simp; omega), bI]
 have h1 : (p.kO.filter (AH p (vF F peer))).length ≤ p.kO.length := fY _ _
 exact Rz _ (by simp; omega)
end Go.Proofs.YtklbhegeiijbjaaGreat
namespace Go.Proofs.YtklbhegeiijbjaaGreat
open Go.RowKit
structure PG (p : lI) : Prop extends PB p where
 Ub : ∀ x ∈ p.kO, yR x.Signed.kE ≤ 1000000000
 Up : ∀ a ∈ p.lg, ∀ c ∈ a.na, yR c ≤ 1000000000
end Go.Proofs.YtklbhegeiijbjaaGreat
namespace Go.Proofs.YtklbhegeiijbjaaGreat
open Go.RowKit
def gA : kC := ⟨⟨#[97]⟩, ⟨#[114]⟩⟩
def gB : kC := ⟨⟨#[98]⟩, ⟨#[115]⟩⟩
def gX : kC := ⟨⟨#[120]⟩, ⟨#[121]⟩⟩
def Ua : Formula := ⟨1, 0, gA, []⟩
def Ug : Formula := ⟨1, 0, gB, []⟩
def gc : kE := ⟨1, gX, ⟨#[109, 101]⟩, ⟨zS, zS⟩, ⟨zS, zS⟩, zS⟩
def gx : ll := ⟨⟨gc, List.replicate 8 0⟩, Ug⟩
def gk : nE := ⟨gX, Ua, [gc]⟩
def gp : lI := ⟨⟨#[109, 101]⟩, [gx], [gk]⟩
def ME : ByteArray := ⟨#[121, 111, 117]⟩
def gm (r : kC) : kE := ⟨1, r, ME, ⟨zS, zS⟩, ⟨zS, zS⟩, zS⟩
theorem gv {l : List kE} {F : List kZ} (h : JW l F) (d : ∀ c ∈ l, c.Kind = 1) (r : kC) : vF F ME r = true ↔ ∃ c ∈ l, mR c = true ∧ c.Head = r ∧ c.lZ = ME := by
 unfold vF
 rw [tg wR, (h.xC (l.filter mR) (fun c => by rw [cH])).2]
 constructor
 ·intro g
  generalize j : (⟨r, ME⟩ : kZ) = f at g
  cases g with
  | mem c a hk =>
   rw [cH] at a
   injection j with h1 i
   exact ⟨c, a.1, a.2, h1.symm, i.symm⟩
  | inc c w a hk _ => rw [d c (cH.1 a).1] at hk; exact absurd hk (by decide)
  | FV c b w a hk _ _ => rw [d c (cH.1 a).1] at hk; exact absurd hk (by decide)
  | both c w a hk _ _ => rw [d c (cH.1 a).1] at hk; exact absurd hk (by decide)
 ·rintro ⟨c, a, k, rfl, hw⟩
  rw [← hw]
  exact .mem c (cH.2 ⟨a, k⟩) (d c a)
end Go.Proofs.YtklbhegeiijbjaaGreat
namespace Go.Proofs.YtklbhegeiijbjaaGreat
open Go.RowKit
noncomputable def vD (l : List kE) (peer : ByteArray) (r : kC) : Bool := @decide (pN (l.filter mR) ⟨r, peer⟩) (Classical.propDecidable _)
theorem E4 (l : List kE) (peer : ByteArray) (r : kC) : vD l peer r = true ↔ pN (l.filter mR) ⟨r, peer⟩ := by unfold vD; simp
theorem Qn {l m : List kE} (h : ∀ c ∈ l, c ∈ m) (peer : ByteArray) (r : kC) (b : vD l peer r = true) : vD m peer r = true := by
 rw [E4] at *
 exact b.mono (fun c a => by rw [cH] at *; exact ⟨h c a.1, a.2⟩)
theorem SX (l : List kE) (h : l.length ≤ 1000000) (peer : ByteArray) : ∃ m, vR l peer = some m ∧ ∀ r, qR r m.1 m.2.1 m.2.2.1 m.2.2.2.1 m.2.2.2.2.1 m.2.2.2.2.2.1 m.2.2.2.2.2.2 = some (vD l peer r) := by
 obtain ⟨C, T, i, ws, n, e, m, d, _⟩ := MG l h
 unfold vR
 rw [e, aA]
 refine ⟨_, rfl, fun r => ?_⟩
 unfold qR
 rw [pV]
 obtain ⟨b, a, g⟩ := NS m C i ws [] n r peer
 rw [a]
 congr 1
 rw [bT, g, E4]
 exact pN.congr (fun c => by rw [d, cH]) _
noncomputable def No (p : lI) (v : kC → Bool) (c : kE) : Bool := decide ((qm p c).2 = 0) && xP v (qm p c).1
theorem OU {p : lI} {v w : kC → Bool} (h : ∀ r, v r = true → w r = true) (c : kE) (a : No p v c = true) : No p w c = true := by
 unfold No xP at *
 simp only [bH, bK] at *
 exact ⟨a.1, a.2.1, QX h _ a.2.2⟩
def qK (s : List kE) : Prop := s.Pairwise (fun a b => BR a b = true) ∧ ∀ c ∈ s, mR c = true
theorem qK.nodup {s : List kE} (h : qK s) : s.Nodup := vG DB h.2 h.1
theorem qK.le {s t : List kE} (h : qK s) (a : ∀ c ∈ s, c ∈ t) : s.length ≤ t.length := nk h.nodup a
theorem qK.ext {s t : List kE} (h : qK s) (k : qK t) (b : ∀ c, c ∈ s ↔ c ∈ t) : s = t :=
 xn.unique DB (l := t) ⟨h.1, fun x => ⟨fun a => ⟨(b x).1 a, h.2 x a⟩, fun a => (b x).2 a.1⟩⟩ ⟨k.1, fun x => ⟨fun a => ⟨a, k.2 x a⟩, fun a => a.1⟩⟩
theorem qK.eq {s t : List kE} (h : qK s) (k : qK t) (b : ∀ c ∈ s, c ∈ t) (i : t.length ≤ s.length) : s = t := by
 refine h.ext k fun c => ⟨b c, fun d => ?_⟩
 refine fZ fun g => ?_
 have := nk (l := c :: s) (m := t) (eA.2 ⟨g, h.nodup⟩) (fun x a => by
  rcases aQ.1 a with rfl | a
  ·exact d
  ·exact b x a)
 simp at this; omega
theorem qK.nil : qK [] := ⟨by simp, by simp⟩
theorem qK.filter {s : List kE} (h : qK s) (p : kE → Bool) : qK (s.filter p) := ⟨h.1.filter _, fun c a => h.2 c (cH.1 a).1⟩
def Eu (p : lI) (c : kE) : Prop := ∃ x ∈ p.kO, x.Signed.kE = c
def ud (p : lI) (l : List kE) (peer : ByteArray) (c : kE) : Prop := Eu p c ∧ mR c = true ∧ No p (vD l peer) c = true
theorem wY {p : lI} {l m : List kE} (h : ∀ c ∈ l, c ∈ m) {peer : ByteArray} {c : kE} (a : ud p l peer c) : ud p m peer c := ⟨a.1, a.2.1, OU (Qn h peer) c a.2.2⟩
theorem zh {p : lI} {s : List kE} (h : qK s) (b : ∀ c ∈ s, Eu p c) : s.length ≤ p.kO.length := by
 have := h.le (t := p.kO.map (·.Signed.kE)) (fun c a => by obtain ⟨x, d, e⟩ := b c a; exact bO.2 ⟨x, d, e⟩)
 simpa using this
theorem Jn (p : lI) (hp : PB p) (l : List kE) (n : l.length ≤ 1000000) (peer : ByteArray) : ∃ s, tD p l peer = some s ∧ qK s ∧ (∀ c, c ∈ s ↔ ud p l peer c) ∧ s.length ≤ p.kO.length := by
 obtain ⟨m, e, q⟩ := SX l n peer
 have := hp.DR
 unfold tD
 rw [e, aA, Dc p hp _ m q p.kO [] (by simp; omega), bI]
 have h1 : (p.kO.filter (AH p (vD l peer))).length ≤ p.kO.length := fY _ _
 obtain ⟨s, j, a⟩ := Rz ((p.kO.filter (AH p (vD l peer))).map (·.Signed.kE)) (by simp; omega)
 have i : qK s := ⟨a.1, fun c d => ((a.2 c).1 d).2⟩
 have hm : ∀ c, c ∈ s ↔ ud p l peer c := fun c => by
  rw [a.2, bO]
  constructor
  ·rintro ⟨⟨x, h, rfl⟩, g⟩
   obtain ⟨k, b⟩ := cH.1 h
   exact ⟨⟨x, k, rfl⟩, g, b⟩
  ·rintro ⟨⟨x, h, rfl⟩, g, b⟩
   exact ⟨⟨x, cH.2 ⟨h, b⟩, rfl⟩, g⟩
 exact ⟨s, j, i, hm, zh i (fun c d => ((hm c).1 d).1)⟩
structure NK (a b : lI) (x y : List kE) : Prop where
 sx : qK x
 sy : qK y
 fx : ∀ c, c ∈ x ↔ ud a y b.Name c
 fy : ∀ c, c ∈ y ↔ ud b x a.Name c
 least : ∀ X Y : List kE, (∀ c, ud a Y b.Name c → c ∈ X) → (∀ c, ud b X a.Name c → c ∈ Y) → (∀ c ∈ x, c ∈ X) ∧ (∀ c ∈ y, c ∈ Y)
theorem NK.ly {a b : lI} {x y : List kE} (h : NK a b x y) : y.length ≤ b.kO.length := zh h.sy (fun c d => ((h.fy c).1 d).1)
theorem IL (a b : lI) (ha : PB a) (u : PB b) (F : a.kO.length ≤ 600000) (G : b.kO.length ≤ 600000) : ∀ (n : Nat) (x y : List kE) (i : Int), qK x → qK y → (∀ c ∈ x, ud a y b.Name c) → (∀ c ∈ y, ud b x a.Name c) →
  (∀ X Y : List kE, (∀ c, ud a Y b.Name c → c ∈ X) → (∀ c, ud b X a.Name c → c ∈ Y) → (∀ c ∈ x, c ∈ X) ∧ (∀ c ∈ y, c ∈ Y)) → a.kO.length + b.kO.length < n + x.length + y.length →
  ∃ v w j, qp a b n x y i = some (v, w, j) ∧ NK a b v w
 | 0, x, y, i, sx, sy, g, k, hm, E => by
  have h1 := zh sx (fun c d => (g c d).1)
  have D := zh sy (fun c d => (k c d).1)
  omega
 | n + 1, x, y, i, sx, sy, g, k, hm, E => by
  have h1 := zh sx (fun c d => (g c d).1)
  have D := zh sy (fun c d => (k c d).1)
  obtain ⟨p, z, sp, mp, M⟩ := Jn a ha y (by omega) b.Name
  obtain ⟨q, A, sq, l, O⟩ := Jn b u x (by omega) a.Name
  have m : ∀ c ∈ x, c ∈ p := fun c d => (mp c).2 (g c d)
  have r : ∀ c ∈ y, c ∈ q := fun c d => (l c).2 (k c d)
  have J := sx.le m
  have L := sy.le r
  rw [qp, z, aA, A, aA]
  by_cases c1 : p.length = x.length ∧ q.length = y.length
  ·have e : ((if ((p.length : Int) == (x.length : Int)) then some ((q.length : Int) == (y.length : Int)) else some false) : Option Bool) = some true := by
    rw [c1.1, c1.2]; simp
   rw [e]
   simp only [aA, aM]
   obtain rfl := sx.eq sp m (by omega)
   obtain rfl := sy.eq sq r (by omega)
   exact ⟨_, _, _, rfl, sx, sy, mp, l, hm⟩
  ·have e : ((if ((p.length : Int) == (x.length : Int)) then some ((q.length : Int) == (y.length : Int)) else some false) : Option Bool) = some false := by
    by_cases c2 : p.length = x.length
    ·have I : ¬ q.length = y.length := fun h => c1 ⟨c2, h⟩
     simp [c2]; omega
    ·have : ¬ ((p.length : Int) = (x.length : Int)) := by omega
     simp [this]
   rw [e]
   simp only [aA, aB, aG]
   refine IL a b ha u F G n p q _ sp sq (fun c d => wY r ((mp c).1 d)) (fun c d => wY m ((l c).1 d)) (fun X Y s t => ?_) (by omega)
   obtain ⟨g1, g2⟩ := hm X Y s t
   exact ⟨fun c d => s c (wY g2 ((mp c).1 d)), fun c d => t c (wY g1 ((l c).1 d))⟩
theorem Ns (a b : lI) (ha : PB a) (d : PB b) (g : a.kO.length ≤ 600000) (h : b.kO.length ≤ 600000) : ∃ x y j, wS a b = some (x, y, j) ∧ NK a b x y :=
 IL a b ha d g h lB [] [] 0 qK.nil qK.nil (by simp) (by simp) (fun _ _ _ _ => by simp) (by rw [nh]; simp; omega)
end Go.Proofs.YtklbhegeiijbjaaGreat
namespace Go.Proofs.YtklbhegeiijbjaaGreat
open Go.RowKit
def tU : Formula := ⟨2, 0, qP, []⟩
def Mv (l : List ll) (d : kE) : Option Formula := (l.find? fun x => nc x.Signed.kE d).map (·.kH)
theorem Oe (n : ByteArray) (l : List ll) (k : List nE) (c : kE) : Eu ⟨n, l, k⟩ c ↔ c ∈ l.map (·.Signed.kE) := by
 unfold Eu; rw [bO]
theorem N7 (n : ByteArray) (l : List ll) (c : kE) : qm ⟨n, l, []⟩ c = match Mv l c with | none => (F8, 42) | some r => CX r [] := by
 unfold qm AD Mv zz
 simp only
 cases l.find? (fun x => nc x.Signed.kE c) <;> rfl
theorem Qs : CX tU [] = (tU, 0) := by
 have h1 : oM tU = true := by decide +kernel
 have d : qx tU = tU := by
  rw [AX]
  have a : ¬ (tU.Op = 1) := by decide
  have b : ¬ (tU.Op = 4) := by decide
  simp only [a, b, aG]
  rw [show tU.Kids = [] from rfl, shapeL]
  unfold pY
  rw [oY]
  rfl
 have g : yi tU = (tU, 0) := by unfold yi; rw [h1, d, h1]; rfl
 unfold CX
 rw [g, qa]; rfl
theorem Mo : lY tU ≤ 10000000 := by unfold tU; rw [lY, nodesL]; omega
structure PP (p : mw) : Prop where
 o : PG p.kD
 c : PG p.Client
 lo : p.kD.kO.length ≤ 600000
 lc : p.Client.kO.length ≤ 600000
 f : lY p.Formula ≤ 10000000
end Go.Proofs.YtklbhegeiijbjaaGreat
namespace Go.Proofs.YtklbhegeiijbjaaGreat
open Go.RowKit
def Rx : ByteArray := ⟨#[111, 119, 110]⟩
def M3 : ByteArray := ⟨#[99, 108, 105]⟩
def sY : kC := ⟨⟨#[120]⟩, ⟨#[121]⟩⟩
def sZ : kC := ⟨⟨#[120]⟩, ⟨#[122]⟩⟩
def sc : kE := ⟨1, sY, M3, ⟨zS, zS⟩, ⟨zS, zS⟩, zS⟩
def GN (r : kC) : Formula := ⟨1, 0, r, []⟩
def B9 (c : kE) (f : Formula) : ll := ⟨⟨c, List.replicate 8 0⟩, f⟩
theorem Tv : mR sc = true := by decide +kernel
theorem QE (v : kC → Bool) (r : kC) : qS v (GN r) = v r := by rw [wL]; rfl
theorem Sa {c : kE} (a : mR c = true) (hk : c.Kind = 1) {l : List kE} (h : c ∈ l) : vD l c.lZ c.Head = true := by
 rw [E4]
 exact .mem c (cH.2 ⟨h, a⟩) hk
theorem RJ : oM (GN sY) = true := by decide +kernel
end Go.Proofs.YtklbhegeiijbjaaGreat
