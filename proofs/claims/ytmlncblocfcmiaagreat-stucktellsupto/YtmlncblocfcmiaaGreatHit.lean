/- a part of a proof of StuckTells -/
import Derived.Test.YtmlncblocfcmiaaGreatRtXt
import Derived.Test.YtmlncblocfcmiaaGreatS1Mt
set_option linter.all false
namespace Go.Proofs.YtmlncblocfcmiaaGreat
open Go.RowKit
theorem CD {c x : Bool} : (if c = true then some x else some false : Option Bool) = some (c && x) := by cases c <;> rfl
theorem Qn {c x : Bool} : (if c = true then some true else some x : Option Bool) = some (c || x) := by cases c <;> rfl
theorem nA {α : Type} (x : Option α) : (x.bind fun y => some y) = x := by cases x <;> rfl
theorem kG {x : Int} (a : -9223372036854775808 ≤ x) (h1 : x ≤ 9223372036854775807) : IntKind.i64.wrap x = x := IntWalk.i64_in _ (by omega)
theorem mJ {α : Type} (A : List α) (x : α) (B : List α) (i : Int) (h : i = (A.length : Int)) : lE (A ++ x :: B) i = some x := by
 subst h; rw [EF]; simp
theorem mc : jY = 18446744073709551615 + 1 := by rw [wQ]
def Cy {α : Type} (f1 : α → Option Bool) (z : α) : Nat → List α → Int → Int → Option (List α)
 | 0, _, _, _ => none
 | n + 1, l, i, j => if decide (j < (l.length : Int)) then
   ((lE l j).bind fun x => (f1 x).bind fun r => if (!r) then (lE l i).bind fun _ => some (l.set (Int.toNat i) x, IntKind.i64.wrap (i + 1)) else some (l, i) : Option (List α × Int)).bind fun (b, a) => Cy f1 z n b a (IntKind.i64.wrap (j + 1))
  else (rV (decide (0 ≤ i) && decide (i ≤ (l.length : Int)))).bind fun _ => (rV (decide (0 ≤ i) && decide (i ≤ ((oz l (Int.toNat i) z).length : Int)))).bind fun _ => some ((oz l (Int.toNat i) z).take (Int.toNat i))
theorem D4 {a b : Int} (d : 0 ≤ a) (h1 : a ≤ b) : rV (decide (0 ≤ a) && decide (a ≤ b)) = some () := by simp [rV, d, h1]
theorem IU {α : Type} (f1 : α → Option Bool) (p : α → Bool) (z : α) : ∀ (rest out mid : List α) (n : Nat), rest.length < n → (out ++ mid ++ rest).length < 4611686018427387904 → mid ≠ [] → (∀ x ∈ rest, f1 x = some (p x)) →
  Cy f1 z n (out ++ mid ++ rest) (out.length : Int) ((out.length + mid.length : Nat) : Int) = some (out ++ rest.filter fun x => !p x)
 | [], out, mid, 0, h, _, _, _ => by simp at h
 | [], out, mid, n + 1, _, b, hm, _ => by
  rw [Cy, bI (by simp)]
  have h1 : out.length ≤ (out ++ mid ++ []).length := by simp
  rw [D4 (by omega) (by omega)]
  simp only [aA]
  rw [D4 (by omega) (by rw [vw _ _ _ (by simpa using h1)]; omega)]
  simp only [aA, dJ]
  rw [E3 _ _ _ h1]
  simp
 | x :: rest, out, mid, 0, h, _, _, _ => by simp at h
 | x :: rest, out, mid, n + 1, h, b, hm, d => by
  have hlen : (out ++ mid ++ x :: rest).length = out.length + mid.length + rest.length + 1 := by simp; omega
  rw [hlen] at b
  rw [Cy, bD (by rw [hlen]; simp; omega)]
  rw [mJ (out ++ mid) x rest _ (by simp)]
  simp only [aA, d x (by simp)]
  rw [kG (x := ((out.length + mid.length : Nat) : Int) + 1) (by omega) (by omega)]
  have ih := IU f1 p z rest
  cases hp : p x with
  | true =>
   simp only [cK, aC, aK, aA]
   have := ih out (mid ++ [x]) n (by simp at h; omega) (by simp; omega) (by simp) (fun y g => d y (by simp [g]))
   simp only [aP, bR, aZ, aF, aO, bW] at this ⊢
   rw [show ((out.length + mid.length : Nat) : Int) + 1 = ((out.length + (mid.length + (0 + 1)) : Nat) : Int) by omega, this]
   simp [hp]
  | false =>
   obtain ⟨m, a, rfl⟩ : ∃ m a, mid = m :: a := by cases mid with
    | nil => exact absurd rfl hm
    | cons m a => exact ⟨m, a, rfl⟩
   simp only [dK, aT]
   rw [aP out (m :: a) (x :: rest), bR]
   rw [mJ out m (a ++ x :: rest) _ rfl]
   simp only [aA]
   rw [kG (x := (out.length : Int) + 1) (by omega) (by simp at b; omega)]
   have := ih (out ++ [x]) (a ++ [x]) n (by simp at h; omega) (by simp at b ⊢; omega) (by simp) (fun y g => d y (by simp [g]))
   simp only [aP, bR, aZ, aF, aO, bW] at this
   have i : (out ++ m :: (a ++ x :: rest)).set (Int.toNat (out.length : Int)) x = out ++ x :: (a ++ x :: rest) := by
    rw [dJ, gQ _ _ (aY _)]; simp
   rw [i]
   simp only [aO] at b ⊢
   rw [show (out.length : Int) + 1 = ((out.length + (0 + 1) : Nat) : Int) by omega, show ((out.length + (a.length + 1) : Nat) : Int) + 1 = ((out.length + (0 + 1) + (a.length + (0 + 1)) : Nat) : Int) by omega, this]
   simp [hp]
def yW {α : Type} (f1 : α → Option Bool) : List α → Nat → Option Int
 | [], _ => some (-1)
 | x :: xs, i => (f1 x).bind fun r => if r then some (i : Int) else yW f1 xs (i + 1)
theorem za {α : Type} (f1 : α → Option Bool) (p : α → Bool) : ∀ (l : List α) (i : Nat), (∀ x ∈ l, f1 x = some (p x)) →
  (yW f1 l i = some (-1) ∧ ∀ x ∈ l, p x = false) ∨ ∃ A x B, l = A ++ x :: B ∧ (∀ y ∈ A, p y = false) ∧ p x = true ∧ yW f1 l i = some ((i + A.length : Nat) : Int)
 | [], i, _ => .inl ⟨rfl, by simp⟩
 | x :: l, i, h => by
  rw [yW, h x (by simp)]
  simp only [aA]
  cases hp : p x with
  | true => exact .inr ⟨[], x, l, rfl, by simp, hp, by simp⟩
  | false =>
   simp only [aC, aK]
   rcases za f1 p l (i + 1) (fun y a => h y (by simp [a])) with ⟨h1, b⟩ | ⟨A, y, B, rfl, h1, b, g⟩
   ·exact .inl ⟨h1, by intro y a; rcases aR.1 a with rfl | a; exact hp; exact b y a⟩
   ·refine .inr ⟨x :: A, y, B, rfl, ?_, b, ?_⟩
    ·intro z d; rcases aR.1 d with rfl | d
     ·exact hp
     ·exact h1 z d
    ·rw [g]; simp; omega
def Hi {α : Type} (f1 : α → Option Bool) (z : α) (l : List α) : Option (List α) :=
 (yW f1 l 0).bind fun a => if (a == (-1)) then some l else Cy f1 z jY l a (IntKind.i64.wrap (a + 1))
theorem CR {α : Type} (f1 : α → Option Bool) (p : α → Bool) (z : α) (l : List α) (d : l.length < 4611686018427387904) (h : ∀ x ∈ l, f1 x = some (p x)) : Hi f1 z l = some (l.filter fun x => !p x) := by
 unfold Hi
 rcases za f1 p l 0 h with ⟨h1, b⟩ | ⟨A, x, B, rfl, h1, b, g⟩
 ·rw [h1]
  simp only [aA, aW, aT]
  rw [gn.2 (fun y a => by simp [b y a])]
 ·rw [g]
  simp only [aA, fe]
  rw [bI (by simp), kG (by omega) (by simp at d; omega)]
  have := IU f1 p z B A [x] jY (by rw [wQ]; simp at d; omega) (by simpa using d) (by simp) (fun y a => h y (by simp [a]))
  simp only [aP, bR, aZ, aO, bW] at this
  rw [show (A.length : Int) + 1 = ((A.length + (0 + 1) : Nat) : Int) by omega, this]
  have i : A.filter (fun x => !p x) = A := gn.2 (fun y a => by simp [h1 y a])
  rw [iE, i]
  simp [b]
def mP {α : Type} (eq : α → α → Bool) : α → List α → List α
 | _, [] => []
 | p, y :: ys => if eq y p then mP eq y ys else y :: mP eq y ys
def dd {α : Type} (eq : α → α → Bool) : List α → List α
 | [] => []
 | x :: xs => x :: mP eq x xs
def AX {α : Type} (eq : α → α → Bool) (i : Int) : Nat → List α → Int → Int → Option (List α × Int)
 | 0, _, _, _ => none
 | n + 1, l, k, j => if decide (j < ((l.length - Int.toNat i : Nat) : Int)) then
   ((lE (l.drop (Int.toNat i)) j).bind fun x => (lE (l.drop (Int.toNat i)) (IntKind.i64.wrap (j - 1))).bind fun y => if !(eq x y) then (lE (l.drop (Int.toNat i)) j).bind fun z => (lE l k).bind fun _ => some (l.set (Int.toNat k) z, IntKind.i64.wrap (k + 1)) else some (l, k) : Option (List α × Int)).bind fun (a, k') => AX eq i n a k' (IntKind.i64.wrap (j + 1))
  else some (l, k)
def BI {α : Type} (eq : α → α → Bool) (z : α) (l : List α) : Nat → Int → Option (List α)
 | 0, _ => none
 | n + 1, i => if decide (i < (l.length : Int)) then (lE l i).bind fun x => (lE l (IntKind.i64.wrap (i - 1))).bind fun y => if eq x y then
    (rV (decide (0 ≤ i) && decide (i ≤ (l.length : Int)))).bind fun _ => (AX eq i jY l i 1).bind fun (a, k) => (rV (decide (0 ≤ k) && decide (k ≤ (a.length : Int)))).bind fun _ => (rV (decide (0 ≤ k) && decide (k ≤ ((oz a (Int.toNat k) z).length : Int)))).bind fun _ => some ((oz a (Int.toNat k) z).take (Int.toNat k))
   else BI eq z l n (IntKind.i64.wrap (i + 1))
  else some l
def Iw {α : Type} (eq : α → α → Bool) (z : α) (l : List α) : Option (List α) := if decide ((l.length : Int) < 2) then some l else BI eq z l jY 1
theorem IR {α : Type} (l : List α) (i : Nat) (j : Int) (a : 0 ≤ j) : lE (l.drop i) j = lE l ((i : Int) + j) := by
 obtain ⟨m, rfl⟩ : ∃ m : Nat, j = m := ⟨j.toNat, by omega⟩
 rw [show (i : Int) + (m : Int) = ((i + m : Nat) : Int) by omega, EF, EF, dM]
theorem Fp {α : Type} (eq : α → α → Bool) (i : Nat) : ∀ (rest out mid : List α) (p : α) (n : Nat), rest.length < n → (out ++ (mid ++ [p]) ++ rest).length < 4611686018427387904 → 1 ≤ i → i ≤ out.length →
  ∃ b, AX eq (i : Int) n (out ++ (mid ++ [p]) ++ rest) (out.length : Int) ((out.length + mid.length + 1 - i : Nat) : Int) = some (b, ((out ++ mP eq p rest).length : Int)) ∧ b.take (out ++ mP eq p rest).length = out ++ mP eq p rest ∧ (out ++ mP eq p rest).length ≤ b.length
 | [], out, mid, p, 0, h, _, _, _ => by simp at h
 | [], out, mid, p, n + 1, h, l, h1, k => by
  rw [AX, bI (by simp; omega)]
  exact ⟨out ++ (mid ++ [p]) ++ [], by simp [mP], by simp [mP], by simp [mP]⟩
 | x :: rest, out, mid, p, 0, h, _, _, _ => by simp at h
 | x :: rest, out, mid, p, n + 1, h, l, h1, k => by
  have hlen : (out ++ (mid ++ [p]) ++ x :: rest).length = out.length + mid.length + rest.length + 2 := by simp; omega
  rw [hlen] at l
  rw [AX, bD (by rw [hlen]; simp; omega)]
  rw [dJ, IR _ _ _ (by omega), mJ (out ++ (mid ++ [p])) x rest _ (by simp; omega)]
  simp only [aA]
  rw [kG (x := ((out.length + mid.length + 1 - i : Nat) : Int) - 1) (by omega) (by omega), IR _ _ _ (by omega)]
  rw [show out ++ (mid ++ [p]) ++ x :: rest = (out ++ mid) ++ p :: (x :: rest) by simp]
  rw [mJ (out ++ mid) p (x :: rest) _ (by simp; omega)]
  simp only [aA]
  rw [kG (x := ((out.length + mid.length + 1 - i : Nat) : Int) + 1) (by omega) (by omega)]
  cases hp : eq x p with
  | true =>
   simp only [cK, aC, aK, aA]
   obtain ⟨b, d, g, j⟩ := Fp eq i rest out (mid ++ [p]) x n (by simp at h; omega) (by simp; omega) h1 k
   refine ⟨b, ?_, by rw [mP, hp]; exact g, by rw [mP, hp]; exact j⟩
   rw [mP, hp, bD rfl, ← d]
   congr 1
   ·simp
   ·simp; omega
  | false =>
   simp only [dK, aT]
   obtain ⟨m, a, hm⟩ : ∃ m a, mid ++ [p] = m :: a := by cases mid with
    | nil => exact ⟨p, [], rfl⟩
    | cons m a => exact ⟨m, a ++ [p], rfl⟩
   have r : a.length = mid.length := by have := bN List.length hm; simp at this; omega
   rw [show (out ++ mid) ++ p :: (x :: rest) = out ++ m :: (a ++ x :: rest) by rw [← bR, ← hm]; simp]
   rw [mJ out m (a ++ x :: rest) _ rfl]
   simp only [aA]
   rw [kG (x := (out.length : Int) + 1) (by omega) (by omega)]
   have s : (out ++ m :: (a ++ x :: rest)).set (Int.toNat (out.length : Int)) x = (out ++ [x]) ++ (a ++ [x]) ++ rest := by
    rw [dJ, gQ _ _ (aY _)]; simp
   rw [s]
   obtain ⟨b, d, g, j⟩ := Fp eq i rest (out ++ [x]) a x n (by simp at h; omega) (by simp; omega) h1 (by simp; omega)
   refine ⟨b, ?_, ?_, ?_⟩
   ·rw [mP, hp, bI (by decide)]
    have q : ((out ++ x :: mP eq x rest).length : Int) = ((out ++ [x] ++ mP eq x rest).length : Int) := by simp
    rw [q, ← d]
    congr 1
    ·simp
    ·simp; omega
   ·rw [mP, hp, bI (by decide)]; simpa using g
   ·rw [mP, hp, bI (by decide)]; simpa using j
theorem Jd {α : Type} (eq : α → α → Bool) (z : α) : ∀ (rest pre : List α) (p : α) (n : Nat), rest.length < n → (pre ++ p :: rest).length < 4611686018427387904 →
  BI eq z (pre ++ p :: rest) n ((pre.length + 1 : Nat) : Int) = some (pre ++ p :: mP eq p rest)
 | [], pre, p, 0, h, _ => by simp at h
 | [], pre, p, n + 1, h, i => by rw [BI, bI (by simp)]; simp [mP]
 | x :: rest, pre, p, 0, h, _ => by simp at h
 | x :: rest, pre, p, n + 1, h, i => by
  have hlen : (pre ++ p :: x :: rest).length = pre.length + rest.length + 2 := by simp; omega
  rw [hlen] at i
  rw [BI, bD (by rw [hlen]; simp; omega)]
  rw [show pre ++ p :: x :: rest = (pre ++ [p]) ++ x :: rest by simp, mJ (pre ++ [p]) x rest _ (by simp)]
  simp only [aA]
  rw [kG (x := ((pre.length + 1 : Nat) : Int) - 1) (by omega) (by omega)]
  rw [show (pre ++ [p]) ++ x :: rest = pre ++ p :: (x :: rest) by simp, mJ pre p (x :: rest) _ (by omega)]
  simp only [aA]
  cases hp : eq x p with
  | true =>
   simp only [aT]
   rw [D4 (by omega) (by rw [hlen]; omega)]
   simp only [aA]
   obtain ⟨j, a, g, d⟩ := Fp eq (pre.length + 1) rest (pre ++ [p]) [] x jY (by rw [wQ]; omega) (by simp; omega) (by omega) (by simp)
   simp only [aP, bR, aZ, aF, aO, bW] at a g d
   rw [show (pre.length + (0 + 1) + 0 + 1 - (pre.length + 1) : Nat) = 1 by omega] at a
   rw [show ((pre.length + 1 : Nat) : Int) = ((pre.length + (0 + 1) : Nat) : Int) by omega] at *
   have b : AX eq ((pre.length + (0 + 1) : Nat) : Int) jY (pre ++ p :: x :: rest) ((pre.length + (0 + 1) : Nat) : Int) 1 = _ := a
   rw [b]
   simp only [aA]
   rw [D4 (by omega) (by omega)]
   simp only [aA, dJ]
   rw [D4 (by omega) (by rw [vw _ _ _ d]; omega)]
   simp only [aA]
   rw [E3 _ _ _ d, g, mP, hp]
   simp
  | false =>
   simp only [aC, aK]
   rw [kG (x := ((pre.length + 1 : Nat) : Int) + 1) (by omega) (by omega)]
   have := Jd eq z rest (pre ++ [p]) x n (by simp at h; omega) (by simp; omega)
   simp only [aP, bR, aZ, aF, aO, bW] at this
   rw [show ((pre.length + 1 : Nat) : Int) + 1 = ((pre.length + (0 + 1) + 1 : Nat) : Int) by omega, this, mP, hp]
   simp
theorem I1 {α : Type} (eq : α → α → Bool) (z : α) (l : List α) (a : l.length < 4611686018427387904) : Iw eq z l = some (dd eq l) := by
 unfold Iw
 cases l with
 | nil => rfl
 | cons x xs =>
  cases xs with
  | nil => simp [dd, mP]
  | cons y ys =>
   rw [bI (by simp; omega)]
   have := Jd eq z (y :: ys) [] x jY (by rw [wQ]; simp at a ⊢; omega) (by simpa using a)
   simpa [dd] using this
structure zU {α : Type} (lt : α → α → Prop) (P : α → Prop) : Prop where
 irrefl : ∀ x, P x → ¬ lt x x
 trans : ∀ x y z, P x → P y → P z → lt x y → lt y z → lt x z
 total : ∀ x y, P x → P y → lt x y ∨ x = y ∨ lt y x
def uW {α : Type} (lt : α → α → Prop) (P : α → Prop) (l out : List α) : Prop := out.Pairwise lt ∧ ∀ x, x ∈ out ↔ x ∈ l ∧ P x
theorem uW.unique {α : Type} {lt : α → α → Prop} {P : α → Prop} (H : zU lt P) : ∀ {l a b : List α}, uW lt P l a → uW lt P l b → a = b := by
 have key : ∀ a b : List α, (∀ x ∈ a, P x) → a.Pairwise lt → b.Pairwise lt → (∀ x, x ∈ a ↔ x ∈ b) → a = b := by
  intro a
  induction a with
  | nil => intro b _ _ _ hm; cases b with
   | nil => rfl
   | cons y ys => exact absurd ((hm y).2 (by simp)) (by simp)
  | cons x xs ih =>
   intro b n ha k hm
   cases b with
   | nil => exact absurd ((hm x).1 (by simp)) (by simp)
   | cons y ys =>
    have p : P y := n y ((hm y).2 (by simp))
    have d : P x := n x (by simp)
    have g := cI.1 ha
    have i := cI.1 k
    have q : x = y := by
     rcases aR.1 ((hm x).1 (by simp)) with h | h
     ·exact h
     ·rcases aR.1 ((hm y).2 (by simp)) with m | m
      ·exact m.symm
      ·exact absurd (H.trans x y x d p d (g.1 y m) (i.1 x h)) (H.irrefl x d)
    subst q
    congr 1
    refine ih ys (fun z j => n z (by simp [j])) g.2 i.2 (fun z => ?_)
    constructor
    ·intro j
     rcases aR.1 ((hm z).1 (by simp [j])) with h | h
     ·subst h; exact absurd (g.1 z j) (H.irrefl z d)
     ·exact h
    ·intro j
     rcases aR.1 ((hm z).2 (by simp [j])) with h | h
     ·subst h; exact absurd (i.1 z j) (H.irrefl z d)
     ·exact h
 intro l a b ha k
 exact key a b (fun x r => ((ha.2 x).1 r).2) ha.1 k.1 (fun x => (ha.2 x).trans (k.2 x).symm)
theorem Ce {α : Type} {eq : α → α → Bool} (he : ∀ x y, eq x y = true ↔ x = y) : ∀ (l : List α) (p x : α), x ∈ p :: mP eq p l ↔ x ∈ p :: l
 | [], p, x => by simp [mP]
 | y :: l, p, x => by
  rw [mP]
  split
  ·rename_i h
   have := (he y p).1 h
   subst this
   rw [Ce he l y x]; simp
  ·have := Ce he l y x
   simp only [aR] at this ⊢
   rw [this]
theorem I4 {α : Type} {eq : α → α → Bool} (he : ∀ x y, eq x y = true ↔ x = y) (l : List α) (x : α) : x ∈ dd eq l ↔ x ∈ l := by
 cases l with
 | nil => simp [dd]
 | cons y l => exact Ce he l y x
theorem Bz {α : Type} {eq : α → α → Bool} {lt : α → α → Prop} {P : α → Prop} (he : ∀ x y, eq x y = true ↔ x = y) (H : zU lt P) : ∀ (l : List α) (p : α), (∀ x ∈ p :: l, P x) → (p :: l).Pairwise (fun a b => ¬ lt b a) → (p :: mP eq p l).Pairwise lt
 | [], p, _, _ => by simp [mP]
 | y :: l, p, d, q => by
  have h1 := cI.1 q
  rw [mP]
  split
  ·rename_i h
   have := (he y p).1 h
   subst this
   exact Bz he H l y (fun x j => d x (fz _ j)) h1.2
  ·rename_i h
   have ih := Bz he H l y (fun x j => d x (fz _ j)) h1.2
   refine cI.2 ⟨fun z n => ?_, ih⟩
   have i : lt p y := by
    rcases H.total p y (d p (by simp)) (d y (by simp)) with g | g | g
    ·exact g
    ·exact absurd ((he y p).2 g.symm) h
    ·exact absurd g (h1.1 y (by simp))
   rcases aR.1 n with rfl | k
   ·exact i
   ·have m : z ∈ y :: l := (Ce he l y z).1 n
    exact H.trans p y z (d p (by simp)) (d y (by simp)) (d z (fz _ m)) i ((cI.1 ih).1 z k)
theorem Mo {α : Type} {eq : α → α → Bool} {lt : α → α → Prop} {P : α → Prop} (he : ∀ x y, eq x y = true ↔ x = y) (H : zU lt P) (l : List α) (d : ∀ x ∈ l, P x) (g : l.Pairwise (fun a b => ¬ lt b a)) : (dd eq l).Pairwise lt := by
 cases l with
 | nil => simp [dd]
 | cons y l => exact Bz he H l y d g
theorem H6 {α : Type} {le : α → α → Bool} {P : α → Prop} (i : ∀ a b c, P a → P b → P c → le a b = true → le b c = true → le a c = true) (h : ∀ a b, P a → P b → (le a b || le b a) = true) (l : List α) (d : ∀ x ∈ l, P x) :
  (l.mergeSort le).Pairwise (fun a b => le a b = true) := by
 have e : l = (l.attachWith P d).map Subtype.val := by simp
 have hm : ((l.attachWith P d).mergeSort fun a b => le a.1 b.1).map Subtype.val = l.mergeSort le := by
  conv => rhs; rw [e]
  exact iD (fun a _ b _ => rfl)
 rw [← hm, fW]
 exact gB (le := fun (a b : {x // P x}) => le a.1 b.1) (fun a b c h1 g => i a.1 b.1 c.1 a.2 b.2 c.2 h1 g) (fun a b => h a.1 b.1 a.2 b.2) _
theorem EO {α : Type} {eq : α → α → Bool} {lt : α → α → Prop} {P : α → Prop} {cf : α × α → Option Int} {l : List α} (he : ∀ x y, eq x y = true ↔ x = y) (H : zU lt P) (g : ∀ x ∈ l, P x) (A : l.length < 4611686018427387904) (w : ∀ x y, P x → P y → ∃ c, cf (x, y) = some c ∧ (c < 0 ↔ lt x y)) : ∃ s, zp cf l = some s ∧ s.length = l.length ∧ uW lt P l (dd eq s) := by
 have j : ∀ x y, P x → P y → (ul cf x y = true ↔ lt x y) := fun x y i n => by
  obtain ⟨c, h1, m⟩ := w x y i n
  unfold ul
  rw [h1]
  simpa using m
 have d : ∀ x y, P x → P y → (ul cf x y = false ↔ ¬ lt x y) := fun x y i n => by
  rw [← j x y i n]; simp
 have ok : DC cf l := by
  refine ⟨fun x i y n => ?_, fun x i => ?_, fun x i y n z u h1 m => ?_, fun x i y n h1 m => ?_, A⟩
  ·obtain ⟨c, h1, _⟩ := w x y (g x i) (g y n); exact ⟨c, h1⟩
  ·exact (d x x (g x i) (g x i)).2 (H.irrefl x (g x i))
  ·rw [j _ _ (g x i) (g y n)] at h1
   rw [j _ _ (g y n) (g z u)] at m
   rw [j _ _ (g x i) (g z u)]
   exact H.trans x y z (g x i) (g y n) (g z u) h1 m
  ·rw [d _ _ (g x i) (g y n)] at h1
   rw [d _ _ (g y n) (g x i)] at m
   rcases H.total x y (g x i) (g y n) with h | h | h
   ·exact absurd h h1
   ·exact h
   ·exact absurd h m
 refine ⟨_, Nc ok, by simp [tD], ?_, ?_⟩
 ·have k : ∀ x, x ∈ tD cf l ↔ x ∈ l := fun x => by simp [tD]
  refine Mo he H _ (fun x i => g x ((k x).1 i)) ?_
  have := H6 (le := fun x y => !ul cf y x) (P := P) (fun a b c ha p q h1 m => ?_) (fun a b ha p => ?_) l g
  ·refine (this.imp_of_mem ?_ : _)
   intro a b ha p h
   have r : a ∈ l := (k a).1 ha
   have t : b ∈ l := (k b).1 p
   simp at h
   exact (d b a (g b t) (g a r)).1 h
  ·simp at h1 m ⊢
   rw [d _ _ p ha] at h1
   rw [d _ _ q p] at m
   rw [d _ _ q ha]
   intro v
   rcases H.total a b ha p with h | h | h
   ·exact m (H.trans c a b q ha p v h)
   ·subst h; exact m v
   ·exact h1 h
  ·simp only [fQ, fZ]
   rw [d _ _ p ha, d _ _ ha p]
   by_cases h : lt b a
   ·right; intro m; exact H.irrefl a ha (H.trans a b a ha p ha m h)
   ·exact .inl h
 ·intro x
  rw [I4 he]
  constructor
  ·intro i
   have : x ∈ l := by simpa [tD] using i
   exact ⟨this, g x this⟩
  ·intro i; simpa [tD] using i.1
end Go.Proofs.YtmlncblocfcmiaaGreat
namespace Go.Proofs.YtmlncblocfcmiaaGreat
open Go.RowKit
theorem uS : ∀ a : List UInt8, Op.bytesLess a a = false
 | [] => rfl
 | x :: a => by simp [Op.bytesLess, uS a]
theorem IY (x y : UInt8) : x < y ∨ x = y ∨ y < x := by
 rcases Nat.lt_trichotomy x.toNat y.toNat with h | h | h
 ·exact .inl h
 ·exact .inr (.inl (UInt8.toNat_inj.1 h))
 ·exact .inr (.inr h)
theorem xS : ∀ a b c : List UInt8, Op.bytesLess a b = true → Op.bytesLess b c = true → Op.bytesLess a c = true
 | [], [], c, h1, _ => by simp [Op.bytesLess] at h1
 | _ :: _, [], c, h1, _ => by simp [Op.bytesLess] at h1
 | a, _ :: _, [], _, d => by simp [Op.bytesLess] at d
 | [], b :: bs, c :: cs, _, _ => rfl
 | a :: ax, b :: bs, c :: cs, h1, d => by
  simp only [Op.bytesLess, fQ, bO, bF, gb] at h1 d ⊢
  rcases h1 with h1 | ⟨rfl, h1⟩
  ·rcases d with d | ⟨rfl, d⟩
   ·exact .inl (UInt8.lt_trans h1 d)
   ·exact .inl h1
  ·rcases d with d | ⟨rfl, d⟩
   ·exact .inl d
   ·exact .inr ⟨rfl, xS ax bs cs h1 d⟩
theorem AP : ∀ a b : List UInt8, Op.bytesLess a b = true ∨ a = b ∨ Op.bytesLess b a = true
 | [], [] => .inr (.inl rfl)
 | [], _ :: _ => .inl rfl
 | _ :: _, [] => .inr (.inr rfl)
 | a :: ax, b :: bs => by
  simp only [Op.bytesLess, fQ, bO, bF, gb, bA]
  rcases IY a b with h | h | h
  ·exact .inl (.inl h)
  ·subst h
   rcases AP ax bs with h | h | h
   ·exact .inl (.inr ⟨rfl, h⟩)
   ·exact .inr (.inl ⟨rfl, h⟩)
   ·exact .inr (.inr (.inr ⟨rfl, h⟩))
  ·exact .inr (.inr (.inl h))
theorem BQ : ∀ a b : List UInt8, (Lib.compareBytes a b < 0 ↔ Op.bytesLess a b = true)
 | [], [] => by simp [Lib.compareBytes, Op.bytesLess]
 | [], _ :: _ => by simp [Lib.compareBytes, Op.bytesLess]
 | _ :: _, [] => by simp [Lib.compareBytes, Op.bytesLess]
 | a :: ax, b :: bs => by
  simp only [Lib.compareBytes, Op.bytesLess, fQ, bO, bF, gb]
  by_cases h : a < b
  ·simp [h]
  ·by_cases g : b < a
   ·have : a ≠ b := by rintro rfl; exact h g
    simp [h, g, this]
   ·have : a = b := by rcases IY a b with d | d | d; exact absurd d h; exact d; exact absurd d g
    subst this
    simp [h, BQ ax bs]
theorem E9 : ∀ a b : List UInt8, (Lib.compareBytes a b = 0 ↔ a = b)
 | [], [] => by simp [Lib.compareBytes]
 | [], _ :: _ => by simp [Lib.compareBytes]
 | _ :: _, [] => by simp [Lib.compareBytes]
 | a :: ax, b :: bs => by
  simp only [Lib.compareBytes, bA]
  by_cases h : a < b
  ·simp only [h, aT]
   constructor
   ·intro h; cases h
   ·rintro ⟨rfl, _⟩; exact absurd h (by simp)
  ·by_cases g : b < a
   ·simp only [h, g, aT, aK]
    constructor
    ·intro h; cases h
    ·rintro ⟨rfl, _⟩; exact absurd g (by simp)
   ·have : a = b := by rcases IY a b with d | d | d; exact absurd d h; exact d; exact absurd d g
    subst this
    simp [h, E9 ax bs]
theorem xV (a b : ByteArray) : pI a b = Op.bytesLess a.data.toList b.data.toList := by unfold pI; rw [fF, fF]
theorem zy {a b : ByteArray} (h : a.data.toList = b.data.toList) : a = b := iN (Array.toList_inj.1 h)
theorem sS (a : ByteArray) : pI a a = false := by rw [xV, uS]
theorem zD {a b c : ByteArray} (h1 : pI a b = true) (d : pI b c = true) : pI a c = true := by rw [xV] at *; exact xS _ _ _ h1 d
theorem zH (a b : ByteArray) : pI a b = true ∨ a = b ∨ pI b a = true := by
 rw [xV, xV]
 rcases AP a.data.toList b.data.toList with h | h | h
 ·exact .inl h
 ·exact .inr (.inl (zy h))
 ·exact .inr (.inr h)
theorem Hq {a b : ByteArray} (h : pI a b = true) : pI b a = false := by
 cases d : pI b a with
 | false => rfl
 | true => have := zD h d; rw [sS] at this; cases this
theorem Oi (P : ByteArray → Prop) : zU (fun a b => pI a b = true) P :=
 ⟨fun x _ h => (by rw [sS] at h; cases h), fun x y z _ _ _ => zD, fun x y _ _ => zH x y⟩
def AR (b : UInt8) : Bool := decide (97 ≤ b.toNat) && decide (b.toNat ≤ 122)
def B6 (b : UInt8) : Bool := AR b || (decide (48 ≤ b.toNat) && decide (b.toNat ≤ 57)) || decide (b.toNat = 45)
def nr (s : ByteArray) : Bool := decide (1 ≤ s.size) && decide (s.size ≤ 16) && (match s.data.toList with | [] => false | b :: _ => AR b) && s.data.toList.all B6
theorem od {s : ByteArray} (h : nr s = true) : 1 ≤ s.size ∧ s.size ≤ 16 := by
 simp only [nr, bF, bO] at h
 exact h.1.1
theorem Lc : ∀ n : Nat, n < 256 → decide (wJ (⟨#[97, 98, 99, 100, 101, 102, 103, 104, 105, 106, 107, 108, 109, 110, 111, 112, 113, 114, 115, 116, 117, 118, 119, 120, 121, 122]⟩ : ByteArray) (n : Int) ≥ 0) = AR (UInt8.ofNat n) := by decide +kernel
theorem Nk : ∀ n : Nat, n < 256 → decide (wJ (⟨#[97, 98, 99, 100, 101, 102, 103, 104, 105, 106, 107, 108, 109, 110, 111, 112, 113, 114, 115, 116, 117, 118, 119, 120, 121, 122, 48, 49, 50, 51, 52, 53, 54, 55, 56, 57, 45]⟩ : ByteArray) (n : Int) < 0) = !B6 (UInt8.ofNat n) := by decide +kernel
theorem wI (s : ByteArray) : s.size = s.data.toList.length := by rw [dO]; rfl
theorem EZ {s : ByteArray} (h : s.size ≤ 16) : B7 s = some (sL s) := by
 unfold B7; rw [bD (by unfold maxLen; omega)]
theorem Jx : ∀ l : List UInt8, uM (l.map fun b => (b.toNat : Int)) = some (l.all B6)
 | [] => rfl
 | b :: l => by
  rw [bP, uM]
  simp only [ra, ot, aA]
  have a := Nk b.toNat (iF b)
  rw [a]
  simp only [iK, gW]
  cases B6 b with
  | true => simp [Jx l]
  | false => simp
theorem Hu {s : ByteArray} {b : UInt8} {l : List UInt8} (h : s.data.toList = b :: l) : zN s 0 = some b := by
 unfold zN
 rw [bD (Int.le_refl 0)]
 have a : s.data[0]? = some b := by rw [← ek, h]; rfl
 show s[0]? = some b
 rw [← a]
 rfl
theorem ym (s : ByteArray) : rM s = some (nr s) := by
 unfold rM
 simp only [CD, aA, nA]
 by_cases h1 : 1 ≤ s.size
 ·by_cases a : s.size ≤ 16
  ·rw [bD (by simp; omega)]
   obtain ⟨b, l, d⟩ : ∃ b l, s.data.toList = b :: l := by
    cases h : s.data.toList with
    | nil => rw [wI, h] at h1; simp at h1
    | cons b l => exact ⟨b, l, rfl⟩
   rw [Hu d]
   simp only [aA, ra, ot]
   rw [Lc b.toNat (iF b)]
   simp only [iK, nr, h1, a, d, cA, ej]
   cases AR b with
   | false => simp
   | true =>
    simp only [aT, BM, EZ a, aA, sL]
    rw [Jx, d]
    simp
  ·rw [bI (by simp; omega)]
   simp [nr, a]
 ·rw [bI (by simp; omega)]
  simp [nr, h1]
theorem O7 {s : ByteArray} {A B : List UInt8} {b : UInt8} (h : s.data.toList = A ++ b :: B) (i : Int) (d : i = (A.length : Int)) : zN s i = some b := by
 subst d
 unfold zN
 rw [bD (by omega), dJ]
 have a : s.data[A.length]? = some b := by rw [← ek, h]; simp
 show s[A.length]? = some b
 rw [← a]
 rfl
theorem DU (s : ByteArray) (v : s.size ≤ 16) : ∀ (B A : List UInt8) (n : Nat), s.data.toList = A ++ B → B.length < n → pT s n (A.length : Int) = some (B.all B6)
  | [], A, 0, _, h => by simp at h
  | [], A, n + 1, h, _ => by
    have : s.size = A.length := by rw [wI, h]; simp
    rw [pT, bI (by rw [this]; simp)]
    rfl
  | b :: B, A, 0, _, h => by simp at h
  | b :: B, A, n + 1, h, u => by
    have l : s.size = A.length + B.length + 1 := by rw [wI, h]; simp; omega
    rw [pT, bD (by rw [l]; simp; omega)]
    rw [O7 h _ rfl]
    simp only [aA]
    rw [kG (x := (A.length : Int) + 1) (by omega) (by omega)]
    have ih := DU s v B (A ++ [b]) n (by rw [h]; simp) (by simp at u; omega)
    rw [show ((A ++ [b]).length : Int) = (A.length : Int) + 1 by simp] at ih
    simp only [gW]
    have k : ∀ n : Nat, n < 256 → B6 (UInt8.ofNat n) = !((decide (n < 97) || decide (n > 122)) && (decide (n < 48) || decide (n > 57)) && decide (n ≠ 45)) := by decide +kernel
    have m := k b.toNat (iF b)
    simp only [iK] at m
    rw [m]
    by_cases h1 : b.toNat < 97 <;> by_cases p : b.toNat > 122 <;> by_cases q : b.toNat < 48 <;> by_cases r : b.toNat > 57 <;> by_cases t : b.toNat = 45 <;>
      first
      | omega
      | (have a : ((b.toNat : Int) < 97) = (b.toNat < 97) := by rw [gx]; omega
         have d : ((b.toNat : Int) > 122) = (b.toNat > 122) := by rw [gx]; omega
         have g : ((b.toNat : Int) < 48) = (b.toNat < 48) := by rw [gx]; omega
         have i : ((b.toNat : Int) > 57) = (b.toNat > 57) := by rw [gx]; omega
         have j : ((b.toNat : Int) != 45) = !decide (b.toNat = 45) := by rw [bU]; simp; omega
         simp [h1, p, q, r, t, a, d, g, i, j, ih])
theorem uT (a : ByteArray) : kQ a a = true := lZ.2 rfl
theorem Ow : zS.size = 0 := rfl
theorem N9 {s : ByteArray} : s = zS ↔ s.size = 0 := by
 constructor
 ·rintro rfl; rfl
 ·intro h; exact zy (by rw [wI] at h; rw [eG.1 h]; rfl)
theorem xN (s : ByteArray) : qR s = some (nr s) := by
 unfold qR
 simp only [Qn, aA, nA]
 by_cases g : s.size = 0
 ·have : s = zS := N9.2 g
  subst this
  rw [uT]
  rfl
 ·have n : kQ s zS = false := by
   cases h : kQ s zS with
   | false => rfl
   | true => exact absurd (N9.1 (lZ.1 h)) g
  rw [n]
  simp only [Bool.false_or]
  by_cases i : s.size ≤ 16
  ·rw [bI (by simp; omega)]
   obtain ⟨b, l, k⟩ : ∃ b l, s.data.toList = b :: l := by
    cases h : s.data.toList with
    | nil => rw [wI, h] at g; simp at g
    | cons b l => exact ⟨b, l, rfl⟩
   rw [Hu k]
   simp only [aA, Qn]
   have m := DU s i s.data.toList [] jY rfl (by rw [wQ, ← wI]; omega)
   simp only [bW] at m
   rw [show (0 : Int) = ((0 : Nat) : Int) from rfl] at *
   rw [m]
   have j : ((b.toNat : Int) < 97) = (b.toNat < 97) := by rw [gx]; omega
   have d : ((b.toNat : Int) > 122) = (b.toNat > 122) := by rw [gx]; omega
   have h1 : 1 ≤ s.size := by omega
   simp only [nr, h1, i, k, AR, cA, ej, j, d]
   by_cases a : b.toNat < 97
   ·simp [a, show ¬ 97 ≤ b.toNat by omega]
   ·by_cases c : b.toNat > 122
    ·simp [a, c, show ¬ b.toNat ≤ 122 by omega]
    ·simp [a, c, show 97 ≤ b.toNat by omega, show b.toNat ≤ 122 by omega]
  ·rw [bD (by simp; omega)]
   simp [nr, i]
def lV (r : jq) : Bool := nr r.js && nr r.jy
theorem yx (r : jq) : pG r = some (lV r) := by
 unfold pG lV
 simp only [ym, aA]
 cases nr r.js <;> simp
theorem AQ (r : jq) : su r = some (lV r) := by
 unfold su lV
 simp only [xN, aA]
 cases nr r.js <;> simp
def Bn (a b : jq) : Bool := pI a.js b.js || (kQ a.js b.js && pI a.jy b.jy)
theorem A4 (a b : jq) : wz a b = some (Bn a b) := by
 unfold wz Bn
 cases pI a.js b.js <;> cases kQ a.js b.js <;> simp
theorem Kf {a b : ByteArray} (h : a ≠ b) : kQ a b = false := by
 cases d : kQ a b with
 | false => rfl
 | true => exact absurd (lZ.1 d) h
theorem An {a b : jq} : Bn a b = true ↔ pI a.js b.js = true ∨ (a.js = b.js ∧ pI a.jy b.jy = true) := by
 simp [Bn, lZ]
theorem QL (P : jq → Prop) : zU (fun a b => Bn a b = true) P := by
 refine ⟨fun x _ h => ?_, fun x y z _ _ _ h1 d => ?_, fun x y _ _ => ?_⟩
 ·rw [An] at h
  simp [sS] at h
 ·rw [An] at *
  rcases h1 with h1 | ⟨i, h1⟩
  ·rcases d with d | ⟨g, d⟩
   ·exact .inl (zD h1 d)
   ·exact .inl (by rw [← g]; exact h1)
  ·rcases d with d | ⟨g, d⟩
   ·exact .inl (by rw [i]; exact d)
   ·exact .inr ⟨i.trans g, zD h1 d⟩
 ·simp only [An]
  rcases zH x.js y.js with h | h | h
  ·exact .inl (.inl h)
  ·rcases zH x.jy y.jy with d | d | d
   ·exact .inl (.inr ⟨h, d⟩)
   ·refine .inr (.inl ?_)
    cases x; cases y; simp at h d; simp [h, d]
   ·exact .inr (.inr (.inr ⟨h.symm, d⟩))
  ·exact .inr (.inr (.inl h))
theorem Aa (a b : jq) : ∃ c, rl a b = some c ∧ (c < 0 ↔ Bn a b = true) := by
 unfold rl
 simp only [pn, nt, aA, uN, sk]
 have h1 : ∀ a b : ByteArray, (oX a b < 0 ↔ pI a b = true) := fun a b => by rw [xV]; exact BQ _ _
 have g : ∀ a b : ByteArray, (oX a b = 0 ↔ a = b) := fun a b => by
  unfold oX; rw [E9]; exact ⟨zy, fun h => by rw [h]⟩
 by_cases e : oX a.js b.js = 0
 ·rw [bI (by simp [e])]
  have e' := (g _ _).1 e
  by_cases d : oX a.jy b.jy = 0
  ·rw [bI (by simp [d])]
   refine ⟨0, rfl, ?_⟩
   rw [An, e', (g _ _).1 d]
   simp [sS]
  ·rw [bD (by simp [d])]
   refine ⟨_, rfl, ?_⟩
   rw [An, e', h1]
   simp [sS]
 ·rw [bD (by simp [e])]
  refine ⟨_, rfl, ?_⟩
  rw [An, h1]
  have : a.js ≠ b.js := fun h => e ((g _ _).2 h)
  simp [this]
def zR : jq := ⟨zS, zS⟩
theorem Hw (a b : ByteArray) : kQ a b = kQ b a := by rw [bU, lZ, lZ]; exact eq_comm
theorem DS (a b : jq) : jP a b = jP b a := by rw [bU, jQ, jQ]; exact eq_comm
theorem wx (a : jq) : jP a a = true := jQ.2 rfl
def lC (c : jr) : Bool := lV c.Head && (
 if c.Kind == 1 then nr c.ky && jP zR c.B && jP zR c.C && kQ zS c.kF
 else if c.Kind == 2 then lV c.B && kQ zS c.ky && jP zR c.C && kQ zS c.kF
 else if c.Kind == 3 then lV c.B && kQ c.B.js c.Head.js && nr c.kF && kQ zS c.ky && jP zR c.C
 else if c.Kind == 4 then lV c.B && lV c.C && Bn c.B c.C && kQ zS c.ky && kQ zS c.kF
 else false)
theorem wg (c : jr) : tM c = some (lC c) := by
 unfold tM lC
 simp only [yx, ym, aA]
 obtain ⟨k, hk, a⟩ := Aa c.B c.C
 rw [hk]
 have b : decide (k < 0) = Bn c.B c.C := by rw [bU, ← a]; simp
 simp only [aA, b]
 by_cases h1 : c.Kind = 1
 ·cases lV c.Head <;> cases nr c.ky <;> simp [h1, kh, wx, uT, zR, gM]
 ·by_cases d : c.Kind = 2
  ·cases lV c.Head <;> cases lV c.B <;> simp [d, kh, wx, uT, zR, gM]
  ·by_cases g : c.Kind = 3
   ·cases lV c.Head <;> cases lV c.B <;> cases kQ c.B.js c.Head.js <;> cases nr c.kF <;> simp [g, kh, wx, uT, zR, gM]
   ·by_cases h : c.Kind = 4
    ·cases lV c.Head <;> cases lV c.B <;> cases lV c.C <;> cases Bn c.B c.C <;> simp [h, kh, wx, uT, zR, gM]
    ·simp [h1, d, g, h]
theorem Az (c : jr) : vu c = some (lC c) := by
 unfold vu lC
 simp only [AQ, xN, A4, aA]
 rw [show (⟨zS, zS⟩ : jq) = zR from rfl, DS c.B zR, DS c.C zR, Hw c.kF zS, Hw c.ky zS]
 by_cases h1 : c.Kind = 1
 ·cases lV c.Head <;> cases nr c.ky <;> cases jP zR c.B <;> cases jP zR c.C <;> simp [h1]
 ·by_cases a : c.Kind = 2
  ·cases lV c.Head <;> cases lV c.B <;> cases kQ zS c.ky <;> cases jP zR c.C <;> simp [a]
  ·by_cases b : c.Kind = 3
   ·cases lV c.Head <;> cases lV c.B <;> cases kQ zS c.ky <;> cases jP zR c.C <;> cases kQ c.B.js c.Head.js <;> simp [b]
   ·by_cases d : c.Kind = 4
    ·cases lV c.Head <;> cases lV c.B <;> cases kQ zS c.ky <;> cases kQ zS c.kF <;> cases lV c.C <;> simp [d]
    ·cases lV c.Head <;> cases lV c.B <;> cases kQ zS c.ky <;> simp [h1, a, b, d]
end Go.Proofs.YtmlncblocfcmiaaGreat
namespace Go.Proofs.YtmlncblocfcmiaaGreat
open Go.RowKit
theorem mA {α : Type} {b : Nat} {l m : List α} (h : (l.length + m.length) * b ≤ 140737488355328) (a : l.length + m.length ≤ 9223372036854775807) : mu b l m = some (l ++ m) := by
 unfold mu; rw [bD ⟨h, by unfold maxLen; omega⟩]
theorem FB {l m : List Int} (h : l.length + m.length ≤ 1000000) : mu 1 l m = some (l ++ m) := mA (by omega) (by omega)
def wj (s : ByteArray) : List Int := (s.size : Int) :: sL s
def rF (r : jq) : List Int := wj r.js ++ wj r.jy
def yt (c : jr) : List Int := if c.Kind = 1 then wj c.ky else if c.Kind = 2 then rF c.B else if c.Kind = 3 then rF c.B ++ wj c.kF else rF c.B ++ rF c.C
def sW (c : jr) : List Int := c.Kind :: (rF c.Head ++ yt c)
theorem tI (s : ByteArray) : (wj s).length = s.size + 1 := by simp [wj, pb]
theorem oy {r : jq} (h : lV r = true) : (rF r).length ≤ 34 := by
 simp only [lV, bF] at h
 have h1 := od h.1
 have a := od h.2
 simp [rF, tI]; omega
theorem ya {l : List Int} {n : Int} (a : 0 ≤ n) (h1 : n < 128) (b : l.length ≤ 100000) : nR l n = some (true, l ++ [n]) := by
 have hw : IntKind.u8.wrap n = n := by
  obtain ⟨k, rfl⟩ : ∃ k : Nat, n = k := ⟨n.toNat, by omega⟩
  have : ∀ k : Nat, k < 128 → IntKind.u8.wrap (k : Int) = (k : Int) := by decide +kernel
  exact this k (by omega)
 unfold nR
 rw [bI (by simp; omega), mc, pN, bI (by simp; omega), hw, FB (by simp; omega)]
 rfl
theorem EC {l : List Int} {s : ByteArray} (h : nr s = true) (a : l.length ≤ 10000) : tK l s = some (true, l ++ wj s) := by
 have h1 := od h
 unfold tK
 simp only [ym, aA, h, aT, EZ h1.2]
 unfold xg
 rw [bI (by rw [pb]; simp; omega)]
 rw [pb, ya (by omega) (by omega) (by omega)]
 simp only [aA]
 rw [FB (by simp [pb]; omega)]
 simp [wj]
theorem IZ {l : List Int} {r : jq} (h : lV r = true) (b : l.length ≤ 9000) : pB l r = some (true, l ++ rF r) := by
 have a := h
 simp only [lV, bF] at h
 have h1 := od h.1
 unfold pB
 simp only [yx, aA, a, aT]
 rw [EC h.1 (by omega)]
 simp only [aA, aT]
 rw [EC h.2 (by simp [tI]; omega)]
 simp [rF]
theorem B0 {l : List Int} {r : jq} (h : lV r = true) (a : l.length ≤ 1000) : pB l r = some (true, l ++ rF r) := IZ h (by omega)
theorem BD {c : jr} (h : lC c = true) : lV c.Head = true := by
 simp only [lC, bF] at h; exact h.1
theorem oB {c : jr} (h : lC c = true) :
  (c.Kind = 1 ∧ nr c.ky = true ∧ c.B = zR ∧ c.C = zR ∧ c.kF = zS) ∨
  (c.Kind = 2 ∧ lV c.B = true ∧ c.ky = zS ∧ c.C = zR ∧ c.kF = zS) ∨
  (c.Kind = 3 ∧ lV c.B = true ∧ nr c.kF = true ∧ c.B.js = c.Head.js ∧ c.ky = zS ∧ c.C = zR) ∨
  (c.Kind = 4 ∧ lV c.B = true ∧ lV c.C = true ∧ Bn c.B c.C = true ∧ c.ky = zS ∧ c.kF = zS) := by
 simp only [lC, bF] at h
 obtain ⟨_, h⟩ := h
 split at h
 ·rename_i h1
  simp only [bF, jQ, lZ] at h
  exact .inl ⟨by simpa using h1, h.1.1.1, h.1.1.2.symm, h.1.2.symm, h.2.symm⟩
 ·split at h
  ·rename_i h1
   simp only [bF, jQ, lZ] at h
   exact .inr (.inl ⟨by simpa using h1, h.1.1.1, h.1.1.2.symm, h.1.2.symm, h.2.symm⟩)
  ·split at h
   ·rename_i h1
    simp only [bF, jQ, lZ] at h
    exact .inr (.inr (.inl ⟨by simpa using h1, h.1.1.1.1, h.1.1.2, h.1.1.1.2, h.1.2.symm, h.2.symm⟩))
   ·split at h
    ·rename_i h1
     simp only [bF, jQ, lZ] at h
     exact .inr (.inr (.inr ⟨by simpa using h1, h.1.1.1.1, h.1.1.1.2, h.1.1.2, h.1.2.symm, h.2.symm⟩))
    ·cases h
theorem Bs (c : jr) : wG c = some (if lC c then sW c else []) := by
 unfold wG
 rw [wg]
 simp only [aA]
 cases h : lC c with
 | false => simp
 | true =>
  have g := BD h
  have i := oy g
  simp only [cK, aC, aK, aT]
  have hk : 0 ≤ c.Kind ∧ c.Kind < 128 := by rcases oB h with h | h | h | h <;> omega
  rw [ya hk.1 hk.2 (by simp)]
  simp only [aA]
  rw [B0 g (by simp)]
  simp only [aA, tw, tY]
  rcases oB h with ⟨k, h1, _⟩ | ⟨k, h1, _⟩ | ⟨k, h1, a, _⟩ | ⟨k, h1, a, _⟩
  ·have b := od h1
   simp only [k, aW, aT, EC h1 (show (([] ++ [(1:Int)]) ++ rF c.Head).length ≤ 10000 by simp; omega), aA]
   rw [FB (by simp [tI]; omega)]
   simp [sW, yt, k]
  ·have b := oy h1
   simp only [k, show ((2 : Int) == 1) = false from rfl, aC, aW, aT, aK, B0 h1 (show (([] ++ [(2:Int)]) ++ rF c.Head).length ≤ 1000 by simp; omega), aA]
   rw [FB (by simp; omega)]
   simp [sW, yt, k]
  ·have b := oy h1
   have d := od a
   simp only [k, show ((3 : Int) == 1) = false from rfl, show ((3 : Int) == 2) = false from rfl, aC, aW, aT, aK, B0 h1 (show (([] ++ [(3:Int)]) ++ rF c.Head).length ≤ 1000 by simp; omega), aA]
   rw [EC a (by simp; omega)]
   simp only [aA]
   rw [FB (by simp [tI]; omega)]
   simp [sW, yt, k]
  ·have b := oy h1
   have d := oy a
   simp only [k, show ((4 : Int) == 1) = false from rfl, show ((4 : Int) == 2) = false from rfl, show ((4 : Int) == 3) = false from rfl, aC, aW, aT, aK, B0 h1 (show (([] ++ [(4:Int)]) ++ rF c.Head).length ≤ 1000 by simp; omega), aA]
   rw [B0 a (by simp; omega)]
   simp only [aA]
   rw [FB (by simp; omega)]
   simp [sW, yt, k]
def vV (l : List Int) : ByteArray := ⟨(tS l).toArray⟩
theorem ur (l : List Int) : (vV l).data.toList = tS l := rfl
theorem FP : ∀ (l : List Int) (r : ByteArray), (l.foldl (fun r n => r.push (UInt8.ofNat n.toNat)) r).data.toList = r.data.toList ++ tS l
 | [], r => by simp [tS]
 | x :: l, r => by
  rw [gv, FP l]
  show ((r.data.push _).toList) ++ _ = _
  simp [tS]
theorem Pf (l : List Int) : DJ l = vV l := zy (by unfold DJ; rw [FP]; rfl)
theorem ID (l : List Int) : (vV l).size = l.length := by rw [wI, ur]; simp [tS]
theorem KC (a b : List Int) : tS (a ++ b) = tS a ++ tS b := by simp [tS]
theorem rh (a b : List Int) (h : a.length + b.length ≤ 1000000) : wo (vV a) (vV b) = some (vV (a ++ b)) := by
 unfold wo
 rw [bI]
 ·congr 1
  refine zy ?_
  rw [ur, KC, ← ur a, ← ur b]
  exact ByteArray.toList_data_append ▸ rfl
 ·rw [ID, ID]
  show ¬ (_ > (9223372036854775807 : Int))
  omega
theorem Cg (s : ByteArray) : vV (sL s) = s := zy (by rw [ur]; simp [tS, sL, fV])
theorem xZ {n : Int} (a : 0 ≤ n) (h1 : n < 128) : qg n = some (vV [n]) := by
 have hw : IntKind.u8.wrap n = n := by
  obtain ⟨k, rfl⟩ : ∃ k : Nat, n = k := ⟨n.toNat, by omega⟩
  have : ∀ k : Nat, k < 128 → IntKind.u8.wrap (k : Int) = (k : Int) := by decide +kernel
  exact this k (by omega)
 unfold qg
 rw [mc, sM, bI (by simp; omega), hw, Pf, show zS = vV [] from rfl, rh _ _ (by simp)]
 rfl
theorem EG {s : ByteArray} (h : nr s = true) : tG s = some (vV (wj s)) := by
 have h1 := od h
 unfold tG
 rw [xZ (by omega) (by omega)]
 simp only [aA]
 have := rh [(s.size : Int)] (sL s) (by rw [pb]; simp; omega)
 rw [Cg] at this
 rw [this]
 simp [wj]
theorem Av {r : jq} (h : lV r = true) : sw r = some (vV (rF r)) := by
 simp only [lV, bF] at h
 have h1 := od h.1
 have a := od h.2
 unfold sw
 rw [EG h.1, EG h.2]
 simp only [aA]
 rw [rh _ _ (by simp [tI]; omega)]
 rfl
theorem AI (c : jr) : vE c = some (vV (if lC c then sW c else [])) := by
 unfold vE
 rw [Az]
 simp only [aA]
 cases h : lC c with
 | false => rfl
 | true =>
  have g := BD h
  have i := oy g
  simp only [cK, aC, aK, aT]
  have hk : 0 ≤ c.Kind ∧ c.Kind < 128 := by rcases oB h with h | h | h | h <;> omega
  unfold zO
  rw [xZ hk.1 hk.2, Av g]
  simp only [aA]
  rw [rh _ _ (by simp; omega)]
  simp only [aA]
  rcases oB h with ⟨k, h1, _⟩ | ⟨k, h1, _⟩ | ⟨k, h1, a, _⟩ | ⟨k, h1, a, _⟩
  ·have b := od h1
   simp only [k, aW, aT, EG h1, aA]
   rw [rh _ _ (by simp [tI]; omega)]
   simp [sW, yt, k]
  ·have b := oy h1
   simp only [k, show ((2 : Int) == 1) = false from rfl, show ((2 : Int) == 3) = false from rfl, show ((2 : Int) == 4) = false from rfl, aC, aK, Av h1, aA]
   rw [rh _ _ (by simp; omega)]
   simp [sW, yt, k]
  ·have b := oy h1
   have d := od a
   simp only [k, show ((3 : Int) == 1) = false from rfl, show ((3 : Int) == 4) = false from rfl, aC, aW, aT, aK, Av h1, aA]
   rw [rh _ _ (by simp; omega)]
   simp only [aA, EG a]
   rw [rh _ _ (by simp [tI]; omega)]
   simp [sW, yt, k]
  ·have b := oy h1
   have d := oy a
   simp only [k, show ((4 : Int) == 1) = false from rfl, show ((4 : Int) == 3) = false from rfl, aC, aW, aT, aK, Av h1, aA]
   rw [rh _ _ (by simp; omega)]
   simp only [aA, Av a]
   rw [rh _ _ (by simp; omega)]
   simp [sW, yt, k]
def Iz (c : jr) : List UInt8 := tS (if lC c then sW c else [])
def AA (a b : jr) : Bool := Op.bytesLess (Iz a) (Iz b)
theorem EL (a b : jr) : ∃ c, th a b = some c ∧ (c < 0 ↔ AA a b = true) := by
 unfold th
 rw [Bs, Bs]
 exact ⟨_, rfl, BQ _ _⟩
theorem DT (a b : jr) : ∃ c, si a b = some c ∧ (c < 0 ↔ AA a b = true) := by
 unfold si
 rw [AI, AI]
 simp only [aA]
 have h : pI (vV (if lC a then sW a else [])) (vV (if lC b then sW b else [])) = AA a b := by rw [xV]; rfl
 rw [h]
 cases AA a b with
 | true => exact ⟨_, rfl, by decide⟩
 | false =>
  simp only [aC, aK, Bool.false_or]
  cases d : kQ (vV (if lC a then sW a else [])) (vV (if lC b then sW b else [])) with
  | true => exact ⟨0, by simp, by decide⟩
  | false => exact ⟨1, by simp, by decide⟩
theorem PS {a b : Int} (ha : 0 ≤ a ∧ a < 256) (d : 0 ≤ b ∧ b < 256) (h : a.toNat.toUInt8 = b.toNat.toUInt8) : a = b := by
 have := bN UInt8.toNat h
 simp only [UInt8.toNat_ofNat', Nat.toUInt8] at this
 simp at this
 omega
theorem JY : ∀ {a b : List Int}, (∀ x ∈ a, 0 ≤ x ∧ x < 256) → (∀ x ∈ b, 0 ≤ x ∧ x < 256) → tS a = tS b → a = b
 | [], [], _, _, _ => rfl
 | [], _ :: _, _, _, h => by simp [tS] at h
 | _ :: _, [], _, _, h => by simp [tS] at h
 | x :: a, y :: b, ha, g, h => by
  simp only [tS, bP, bA] at h
  rw [PS (ha x (by simp)) (g y (by simp)) h.1, JY (fun z d => ha z (by simp [d])) (fun z d => g z (by simp [d])) h.2]
theorem zq {s : ByteArray} (h : nr s = true) : ∀ x ∈ wj s, 0 ≤ x ∧ x < 256 := by
 have h1 := od h
 intro x a
 rcases aR.1 a with rfl | a
 ·omega
 ·simp only [sL, bL] at a
  obtain ⟨b, _, rfl⟩ := a
  have := iF b
  omega
theorem xu {r : jq} (h : lV r = true) : ∀ x ∈ rF r, 0 ≤ x ∧ x < 256 := by
 simp only [lV, bF] at h
 intro x a
 rcases aV.1 a with a | a
 ·exact zq h.1 x a
 ·exact zq h.2 x a
theorem EQ {c : jr} (h : lC c = true) : ∀ x ∈ sW c, 0 ≤ x ∧ x < 256 := by
 intro x a
 rcases aR.1 a with rfl | a
 ·rcases oB h with h | h | h | h <;> omega
 ·rcases aV.1 a with a | a
  ·exact xu (BD h) x a
  ·unfold yt at a
   rcases oB h with ⟨k, h1, _⟩ | ⟨k, h1, _⟩ | ⟨k, h1, b, _⟩ | ⟨k, h1, b, _⟩
   ·rw [bD k] at a; exact zq h1 x a
   ·rw [bI (by omega), bD k] at a; exact xu h1 x a
   ·rw [bI (by omega), bI (by omega), bD k] at a
    rcases aV.1 a with a | a
    ·exact xu h1 x a
    ·exact zq b x a
   ·rw [bI (by omega), bI (by omega), bI (by omega)] at a
    rcases aV.1 a with a | a
    ·exact xu h1 x a
    ·exact xu b x a
theorem Ln {s t : ByteArray} (h : sL s = sL t) : s = t := by rw [← Cg s, h, Cg]
theorem Bt {s t : ByteArray} {X Y : List Int} (h : wj s ++ X = wj t ++ Y) : s = t ∧ X = Y := by
 simp only [wj, bR, bA] at h
 obtain ⟨h1, a⟩ := h
 have b : (sL s).length = (sL t).length := by rw [pb, pb]; omega
 have := List.append_inj a b
 exact ⟨Ln this.1, this.2⟩
theorem zA {a b : jq} {X Y : List Int} (h : rF a ++ X = rF b ++ Y) : a = b ∧ X = Y := by
 simp only [rF, aP] at h
 obtain ⟨h1, g⟩ := Bt h
 obtain ⟨d, i⟩ := Bt g
 exact ⟨by cases a; cases b; simp at h1 d; simp [h1, d], i⟩
theorem Md {a b : jr} (ha : lC a = true) (s : lC b = true) (h : sW a = sW b) : a = b := by
 simp only [sW, bA] at h
 obtain ⟨hk, q⟩ := h
 obtain ⟨p, h⟩ := zA q
 clear q
 have l : ∀ {X Y : List Int}, X = Y → X ++ [] = Y ++ [] := fun h => by rw [h]
 unfold yt at h
 obtain ⟨A, r, E, w, y, u⟩ := a
 obtain ⟨D, t, F, x, z, v⟩ := b
 simp only at hk p h
 subst hk p
 rcases oB ha with ⟨k, h1, g, i, d⟩ | ⟨k, h1, g, i, d⟩ | ⟨k, h1, g, i, d, j⟩ | ⟨k, h1, g, i, d, j⟩ <;>
 rcases oB s with ⟨k', g1, g2, g3, g4⟩ | ⟨k', g1, g2, g3, g4⟩ | ⟨k', g1, g2, g3, g4, g5⟩ | ⟨k', g1, g2, g3, g4, g5⟩ <;> simp only at k k' g i d g2 g3 g4 <;> (try omega)
 ·rw [bD k, bD k] at h
  simp [Bt (l h), g, i, d, g2, g3, g4]
 ·rw [bI (by omega), bD k, bI (by omega), bD k] at h
  simp [zA (l h), g, i, d, g2, g3, g4]
 ·rw [bI (by omega), bI (by omega), bD k, bI (by omega), bI (by omega), bD k] at h
  obtain ⟨m, n⟩ := zA h
  simp only at j g5
  simp [m, Bt (l n), d, j, g4, g5]
 ·rw [bI (by omega), bI (by omega), bI (by omega), bI (by omega), bI (by omega), bI (by omega)] at h
  obtain ⟨m, n⟩ := zA h
  simp only at j g5
  simp [m, zA (l n), d, j, g4, g5]
theorem Bl : zU (fun a b => AA a b = true) (fun c => lC c = true) := by
 refine ⟨fun x _ h => ?_, fun x y z _ _ _ h1 i => xS _ _ _ h1 i, fun x y d g => ?_⟩
 ·unfold AA at h; rw [uS] at h; cases h
 ·rcases AP (Iz x) (Iz y) with h | h | h
  ·exact .inl h
  ·refine .inr (.inl (Md d g ?_))
   unfold Iz at h
   rw [bD d, bD g] at h
   exact JY (EQ d) (EQ g) h
  ·exact .inr (.inr h)
end Go.Proofs.YtmlncblocfcmiaaGreat
namespace Go.Proofs.YtmlncblocfcmiaaGreat
open Go.RowKit
def qW {α : Type} (R : α → Bool) (lt : α → α → Bool) (last : Option α) : List α → Bool → α → Bool × α
 | [], ok, b => (ok, b)
 | x :: xs, ok, b => if R x && last.all (fun y => lt y x) && (!ok || lt x b) then qW R lt last xs true x else qW R lt last xs ok b
def zJ {α : Type} (w : Nat) (R : α → Bool) (lt : α → α → Bool) (d : α) (l : List α) : Nat → List α → Option (List α)
 | 0, _ => none
 | n + 1, out => if !(qW R lt out.getLast? l false d).1 then some out else (mu w out [(qW R lt out.getLast? l false d).2]).bind fun o => zJ w R lt d l n o
section
variable {α : Type} {R : α → Bool} {lt : α → α → Bool}
theorem D2 (H : zU (fun a b => lt a b = true) (fun x => R x = true)) (last : Option α) : ∀ (l : List α) (ok : Bool) (b : α), (ok = true → R b = true ∧ last.all (fun y => lt y b) = true) →
  ((qW R lt last l ok b).1 = false → ok = false ∧ ∀ x ∈ l, R x = true → last.all (fun y => lt y x) = false) ∧
  ((qW R lt last l ok b).1 = true → R (qW R lt last l ok b).2 = true ∧ last.all (fun y => lt y (qW R lt last l ok b).2) = true ∧ ((qW R lt last l ok b).2 ∈ l ∨ (ok = true ∧ (qW R lt last l ok b).2 = b)) ∧
   (∀ x ∈ l, R x = true → last.all (fun y => lt y x) = true → lt x (qW R lt last l ok b).2 = false) ∧ (ok = true → lt b (qW R lt last l ok b).2 = false))
 | [], ok, b, k => by
  simp only [qW]
  exact ⟨fun h => ⟨h, by simp⟩, fun h => ⟨(k h).1, (k h).2, .inr ⟨h, trivial⟩, by simp, fun _ => by
   cases n : lt b b with
   | false => rfl
   | true => exact absurd n (H.irrefl b (k h).1)⟩⟩
 | x :: xs, ok, b, k => by
  rw [qW]
  by_cases m : (R x && last.all (fun y => lt y x) && (!ok || lt x b)) = true
  ·rw [bD m]
   simp only [bF, fQ, fZ] at m
   obtain ⟨⟨A, t⟩, u⟩ := m
   obtain ⟨h1, s⟩ := D2 H last xs true x (fun _ => ⟨A, t⟩)
   refine ⟨fun h => ?_, fun h => ?_⟩
   ·cases (h1 h).1
   ·obtain ⟨q, a2, a3, a4, a5⟩ := s h
    refine ⟨q, a2, ?_, ?_, ?_⟩
    ·rcases a3 with a3 | ⟨_, a3⟩
     ·exact .inl (by simp [a3])
     ·exact .inl (by rw [a3]; simp)
    ·intro y i d g
     rcases aR.1 i with rfl | i
     ·exact a5 rfl
     ·exact a4 y i d g
    ·intro j
     cases n : lt b (qW R lt last xs true x).2 with
     | false => rfl
     | true =>
      have v : lt x b = true := by rcases u with h | h; rw [j] at h; cases h; exact h
      have := H.trans x b _ A (k j).1 q v n
      simp only [a5 rfl] at this
      cases this
  ·rw [bI m]
   obtain ⟨h1, s⟩ := D2 H last xs ok b k
   refine ⟨fun h => ⟨(h1 h).1, fun y i d => ?_⟩, fun h => ?_⟩
   ·rcases aR.1 i with rfl | i
    ·have j := (h1 h).1
     cases t : last.all (fun z => lt z y) with
     | false => rfl
     | true => exact absurd (by simp [d, t, j]) m
    ·exact (h1 h).2 y i d
   ·obtain ⟨q, a2, a3, a4, a5⟩ := s h
    refine ⟨q, a2, ?_, ?_, a5⟩
    ·rcases a3 with a3 | a3
     ·exact .inl (by simp [a3])
     ·exact .inr a3
    ·intro y i d g
     rcases aR.1 i with rfl | i
     ·cases n : lt y (qW R lt last xs ok b).2 with
      | false => rfl
      | true =>
       cases ok with
       | false => exact absurd (by simp [d, g]) m
       | true =>
        have w : lt y b = false := by
         cases D : lt y b with
         | false => rfl
         | true => exact absurd (by simp [d, g, D]) m
        have r := k rfl
        rcases H.total y b d r.1 with p | p | p
        ·rw [w] at p; cases p
        ·subst p; rw [a5 rfl] at n; cases n
        ·have := H.trans b y _ r.1 d q p n
         simp only [a5 rfl] at this
         cases this
     ·exact a4 y i d g
theorem uw (H : zU (fun a b => lt a b = true) (fun x => R x = true)) {l : List α} (g : ∀ x ∈ l, R x = true) (h : l.Pairwise (fun a b => lt a b = true)) : l.Nodup := by
 refine h.imp_of_mem (fun {a b} ha i d e => ?_)
 subst e
 exact H.irrefl a (g a ha) d
theorem mi : ∀ {l m : List α}, l.Nodup → (∀ x ∈ l, x ∈ m) → l.length ≤ m.length
 | [], _, _, _ => by simp
 | x :: l, m, g, b => by
  obtain ⟨A, B, rfl⟩ := List.append_of_mem (b x (by simp))
  have a := dY.1 g
  have := mi (l := l) (m := A ++ B) a.2 (fun y d => by
   have := b y (fz _ d)
   simp only [aV, aR] at this ⊢
   rcases this with h | h | h
   ·exact .inl h
   ·subst h; exact absurd d a.1
   ·exact .inr h)
  simp at this ⊢; omega
theorem A0 (H : zU (fun a b => lt a b = true) (fun x => R x = true)) {w : Nat} (hw : w ≤ 1000) (d : α) (l : List α) (I : l.length ≤ 1000000000) : ∀ (n : Nat) (out : List α), l.length < n + out.length → out.Pairwise (fun a b => lt a b = true) → (∀ x ∈ out, x ∈ l ∧ R x = true) →
  (∀ x ∈ l, R x = true → x ∈ out ∨ out.getLast?.all (fun y => lt y x) = true) → ∃ s, zJ w R lt d l n out = some s ∧ uW (fun a b => lt a b = true) (fun x => R x = true) l s
 | 0, out, J, hp, hm, v => by
  exfalso
  have := mi (uw H (fun x g => (hm x g).2) hp) (fun x g => (hm x g).1)
  omega
 | n + 1, out, J, hp, hm, v => by
  rw [zJ]
  obtain ⟨h1, F⟩ := D2 H out.getLast? l false d (fun h => by cases h)
  have hlen := mi (uw H (fun x g => (hm x g).2) hp) (fun x g => (hm x g).1)
  cases E : (qW R lt out.getLast? l false d).1 with
  | false =>
   rw [bD (by simp)]
   refine ⟨out, rfl, hp, fun x => ⟨hm x, fun g => ?_⟩⟩
   rcases v x g.1 g.2 with h | h
   ·exact h
   ·rw [(h1 E).2 x g.1 g.2] at h; cases h
  | true =>
   rw [bI (by simp)]
   obtain ⟨t, a2, a3, a4, _⟩ := F E
   generalize (qW R lt out.getLast? l false d).2 = b at *
   have u : b ∈ l := by rcases a3 with h | ⟨h, _⟩; exact h; cases h
   have q : ∀ y ∈ out, lt y b = true := by
    intro y i
    obtain ⟨A, z, rfl⟩ : ∃ A z, out = A ++ [z] := by
     rcases dD out with h | ⟨A, z, h⟩
     ·subst h; cases i
     ·exact ⟨A, z, by rw [h]; simp⟩
    simp at a2
    rcases aV.1 i with i | i
    ·have D : lt y z = true := (cV.1 hp).2.2 y i z (by simp)
     exact H.trans y z b (hm y (by simp [i])).2 (hm z (by simp)).2 t D a2
    ·simp at i; subst i; exact a2
   have r : (out ++ [b]).Pairwise (fun a b => lt a b = true) := cV.2 ⟨hp, by simp, fun x g y i => by simp at i; subst i; exact q x g⟩
   have m : ∀ x ∈ out ++ [b], x ∈ l ∧ R x = true := fun x g => by
    rcases aV.1 g with g | g
    ·exact hm x g
    ·simp at g; subst g; exact ⟨u, t⟩
   have k := mi (uw H (fun x g => (m x g).2) r) (fun x g => (m x g).1)
   simp at k
   rw [mA (by simp only [aO, bW]; have : (out.length + (0 + 1)) * w ≤ 1000000000 * 1000 := Nat.mul_le_mul (by omega) hw; omega) (by simp; omega)]
   simp only [aA]
   refine A0 H hw d l I n (out ++ [b]) (by simp; omega) r m (fun x g j => ?_)
   rcases v x g j with h | h
   ·exact .inl (by simp [h])
   ·have G := a4 x g j h
    rcases H.total x b j t with p | p | p
    ·rw [G] at p; cases p
    ·subst p; exact .inl (by simp)
    ·exact .inr (by simp [p])
end
theorem Fe {α : Type} (A : List α) (x : α) (a : A.length < 4611686018427387904) : lE (A ++ [x]) (IntKind.i64.wrap (((A ++ [x]).length : Int) - 1)) = some x := by
 rw [kG (by simp; try omega) (by simp; try omega)]
 rw [mJ A x [] _ (by simp; try omega)]
theorem FI (out : List jr) (k : out.length < 4611686018427387904) : ∀ (l : List jr) (ok : Bool) (b : jr), rz out l ok b = some (qW lC AA out.getLast? l ok b)
 | [], ok, b => rfl
 | x :: xs, ok, b => by
  rw [rz, qW]
  have cmp : ∀ a b, ∃ c, si a b = some c ∧ decide (c < 0) = AA a b := fun a b => by
   obtain ⟨c, h1, j⟩ := DT a b
   exact ⟨c, h1, by rw [bU, ← j]; simp⟩
  rw [Az, FI out k xs true x, FI out k xs ok b]
  obtain ⟨c, h1, j⟩ := cmp x b
  rcases dD out with h | ⟨A, z, h⟩
  ·subst h
   simp only [h1, aA, j, bW, Option.all, List.getLast?_nil]
   generalize AA x b = p
   cases lC x <;> cases ok <;> cases p <;> simp
  ·have i : out = A ++ [z] := by rw [h]; simp
   obtain ⟨t, r, s⟩ := cmp z x
   have d : out.getLast? = some z := by rw [i]; simp
   have g : lE out (IntKind.i64.wrap ((out.length : Int) - 1)) = some z := by rw [i]; exact Fe A z (by rw [i] at k; simp at k; omega)
   have m : ((out.length : Int) == 0) = false := by rw [i]; simp; omega
   rw [d]
   simp only [m, g, r, h1, aA, j, s, Option.all]
   rcases eC (AA x b) with hp | hp <;> rcases eC (AA z x) with n | n <;> rcases eC (lC x) with q | q <;> cases ok <;> simp [hp, n, q]
theorem R7 (a b : ByteArray) : (!(pI a b || kQ a b)) = pI b a := by
 rcases zH a b with h | h | h
 ·simp [h, Hq h]
 ·subst h; simp [uT, sS]
 ·have d := Hq h
  have g : kQ a b = false := Kf (by rintro rfl; rw [sS] at h; cases h)
  simp [h, d, g]
theorem MT {s : ByteArray} (h : nr s = true) : kQ s zS = false := Kf (fun e => by have := od h; rw [e, Ow] at this; omega)
theorem Fh (out : List ByteArray) (m : out.length < 4611686018427387904) : ∀ (l : List ByteArray) (b : ByteArray),
  ∃ n, re out l b = some n ∧ (qW nr pI out.getLast? l (!kQ b zS) b) = (!kQ n zS, n)
 | [], b => ⟨b, rfl, rfl⟩
 | x :: xs, b => by
  rw [re, qW]
  obtain ⟨w, u, d⟩ := Fh out m xs x
  obtain ⟨y, v, j⟩ := Fh out m xs b
  rw [xN, u, v]
  by_cases i : nr x = true
  ·rw [MT i] at d
   simp only [dK] at d
   rcases dD out with h | ⟨A, z, h⟩
   ·subst h
    simp only [aA, bW, Option.all, List.getLast?_nil, i] at *
    rw [d, j]
    generalize pI x b = p
    generalize kQ b zS = q
    cases p <;> cases q <;> simp
   ·have k : out = A ++ [z] := by rw [h]; simp
    have a : out.getLast? = some z := by rw [k]; simp
    have g : lE out (IntKind.i64.wrap ((out.length : Int) - 1)) = some z := by rw [k]; exact Fe A z (by rw [k] at m; simp at m; omega)
    have r : ((out.length : Int) == 0) = false := by rw [k]; simp; omega
    rw [a] at d j ⊢
    simp only [r, g, aA, Option.all, R7, i]
    rw [d, j]
    rcases eC (pI x b) with hp | hp <;> rcases eC (pI z x) with s | s <;> rcases eC (kQ b zS) with t | t <;> simp [hp, s, t]
  ·simp only [fL] at i
   rw [i, j]
   simp
theorem Oc (a : List jr) : ∀ (n : Nat) (out s : List jr), zJ 136 lC AA (⟨0, ⟨zS, zS⟩, zS, ⟨zS, zS⟩, ⟨zS, zS⟩, zS⟩ : jr) a n out = some s → s.length < 4611686018427387904 → tm a n out = some s ∧ out.length ≤ s.length
 | 0, out, s, h, _ => by cases h
 | n + 1, out, s, h, i => by
  rw [zJ] at h
  rw [tm]
  have key : out.length ≤ s.length → rz out a false (⟨0, ⟨zS, zS⟩, zS, ⟨zS, zS⟩, ⟨zS, zS⟩, zS⟩ : jr) = _ := fun k => FI out (by omega) a false _
  split at h
  ·rename_i h1
   cases h
   rw [key (aY _)]
   simp only [aA]
   rw [bD h1]
   exact ⟨rfl, aY _⟩
  ·rename_i h1
   obtain ⟨o, b, d⟩ := bind_some h
   have g := Oc a n o s d i
   have j : out.length + 1 = o.length := by
    unfold mu at b; split at b
    ·cases b; simp
    ·cases b
   rw [key (by omega)]
   simp only [aA]
   rw [bI h1, b]
   exact ⟨g.1, by omega⟩
theorem Od (a : List ByteArray) : ∀ (n : Nat) (out s : List ByteArray), zJ 16 nr pI zS a n out = some s → s.length < 4611686018427387904 → tp a n out = some s ∧ out.length ≤ s.length
 | 0, out, s, h, _ => by cases h
 | n + 1, out, s, h, l => by
  rw [zJ] at h
  rw [tp]
  have key : out.length ≤ s.length → ∃ d, re out a zS = some d ∧ qW nr pI out.getLast? a false zS = (!kQ d zS, d) := fun p => by
   have := Fh out (by omega) a zS
   rw [uT] at this
   exact this
  split at h
  ·rename_i h1
   cases h
   obtain ⟨d, g, i⟩ := key (aY _)
   rw [g]
   rw [i] at h1
   simp only [aA]
   rw [bD (by simpa using h1)]
   exact ⟨rfl, aY _⟩
  ·rename_i h1
   obtain ⟨o, b, j⟩ := bind_some h
   have k := Od a n o s j l
   have m : out.length + 1 = o.length := by
    unfold mu at b; split at b
    ·cases b; simp
    ·cases b
   obtain ⟨d, g, i⟩ := key (by omega)
   rw [g]
   rw [i] at h1 b
   simp only [aA]
   rw [bI (by simpa using h1), b]
   exact ⟨k.1, by omega⟩
abbrev QG (l s : List ByteArray) := uW (fun a b => pI a b = true) (fun x => nr x = true) l s
abbrev Is (l s : List jr) := uW (fun a b => AA a b = true) (fun x => lC x = true) l s
theorem Aw {α : Type} {lt : α → α → Bool} {R : α → Bool} (H : zU (fun a b => lt a b = true) (fun x => R x = true)) {l s : List α} (h : uW (fun a b => lt a b = true) (fun x => R x = true) l s) : s.length ≤ l.length :=
 mi (uw H (fun x d => ((h.2 x).1 d).2) h.1) (fun x d => ((h.2 x).1 d).1)
theorem G9 (l : List jr) (b : l.length ≤ 1000000000) : ∃ s, uz l = some s ∧ Is l s := by
 obtain ⟨s, h1, a⟩ := A0 Bl (w := 136) (by omega) (⟨0, ⟨zS, zS⟩, zS, ⟨zS, zS⟩, ⟨zS, zS⟩, zS⟩ : jr) l b jY [] (by rw [wQ]; omega) (by simp) (by simp) (fun x _ _ => .inr rfl)
 exact ⟨s, (Oc l jY [] s h1 (by have := Aw Bl a; omega)).1, a⟩
theorem Pq (l : List ByteArray) (b : l.length ≤ 1000000000) : ∃ s, zm l = some s ∧ QG l s := by
 obtain ⟨s, h1, a⟩ := A0 (Oi (fun x => nr x = true)) (w := 16) (by omega) zS l b jY [] (by rw [wQ]; omega) (by simp) (by simp) (fun x _ _ => .inr rfl)
 exact ⟨s, (Od l jY [] s h1 (by have := Aw (Oi _) a; omega)).1, a⟩
end Go.Proofs.YtmlncblocfcmiaaGreat
namespace Go.Proofs.YtmlncblocfcmiaaGreat
open Go.RowKit
def zC : jr := ⟨0, ⟨zS, zS⟩, zS, ⟨zS, zS⟩, ⟨zS, zS⟩, zS⟩
theorem Kp (f : jr → Option Bool) : ∀ (n : Nat) (l : List jr) (i j : Int), nw f n l i j = Cy f zC n l i j
 | 0, _, _, _ => rfl
 | n + 1, l, i, j => by
  rw [nw, Cy]
  simp only [Kp f n]
  rfl
theorem JV (f : jr → Option Bool) : ∀ (l : List jr) (i : Nat), oA f l i = yW f l i
 | [], _ => rfl
 | x :: l, i => by rw [oA, yW]; simp only [JV f l]
theorem Fu (f : jr → Option Bool) (l : List jr) : nX l f = Hi f zC l := by
 unfold nX Hi tU
 simp only [JV, Kp]
theorem Jh (i : Int) : ∀ (n : Nat) (l : List jr) (k j : Int), nZ i n l k j = AX kh i n l k j
 | 0, _, _, _ => rfl
 | n + 1, l, k, j => by
  rw [nZ, AX]
  simp only [Jh i n]
theorem IS (l : List jr) : ∀ (n : Nat) (i : Int), nW l n i = BI kh zC l n i
 | 0, _ => rfl
 | n + 1, i => by
  rw [nW, BI]
  simp only [IS l n, Jh]
  rfl
theorem Na (l : List jr) : rZ l = Iw kh zC l := by
 unfold rZ Iw
 simp only [IS]
theorem Ji {l : List jr} (a : l.length ≤ 1000000000) : oI l = some l := by
 unfold oI
 rw [mA (by simp; omega) (by simp; omega)]
 simp
theorem Li (l : List jr) (g : l.length ≤ 1000000000) : ∃ s, uh l = some s ∧ Is l s := by
 unfold uh
 rw [Ji g]
 simp only [aA]
 rw [Fu, CR _ (fun x => !lC x) zC l (by omega) (fun x _ => by simp [xF, wg])]
 simp only [aA, gk]
 have j : (l.filter fun x => lC x).length ≤ l.length := cY _ _
 obtain ⟨s, h1, i, d⟩ := EO (eq := kh) (lt := fun a b => AA a b = true) (P := fun x => lC x = true) (cf := fun x => th x.1 x.2) (l := l.filter fun x => lC x) (fun x y => mz) Bl (fun x h => (cM.1 h).2) (by omega) (fun x y _ _ => EL x y)
 rw [h1]
 simp only [aA]
 rw [Na, I1 _ _ _ (by omega)]
 refine ⟨_, rfl, d.1, fun x => ?_⟩
 rw [d.2]
 simp
theorem HM (b : List jr) : ∀ (A l : List jr), px (A ++ l) l A.length = some true
 | A, [] => rfl
 | A, x :: l => by
  rw [px, mJ A x l _ rfl]
  simp only [aA]
  rw [mz.2 rfl]
  simp only [cK, aC, aK]
  have := HM b (A ++ [x]) l
  simpa using this
theorem Im (l : List jr) : nv l l = some true := by
 unfold nv
 rw [bI (by simp)]
 exact HM [] [] l
end Go.Proofs.YtmlncblocfcmiaaGreat
namespace Go.Proofs.YtmlncblocfcmiaaGreat
open Go.RowKit
def tt {κ : Type} (ks : List κ) : List (κ × Bool) := ks.map fun k => (k, true)
def mr {κ : Type} (beq : κ → κ → Bool) (ks : List κ) (k : κ) : Bool := ks.any fun x => beq k x
def ins {κ : Type} (beq : κ → κ → Bool) (ks : List κ) (k : κ) : List κ := if mr beq ks k then ks else ks ++ [k]
section
variable {κ : Type} {beq : κ → κ → Bool}
theorem sD (a : ∀ {x y}, beq x y = true ↔ x = y) (ks : List κ) (k : κ) : mr beq ks k = true ↔ k ∈ ks := by
 simp [mr, eJ, a]
theorem L6 (ks : List κ) : (tt ks).length = ks.length := by simp [tt]
theorem Nj (ks : List κ) (k : κ) : zc beq (tt ks) k false = mr beq ks k := by
 unfold zc kV mr tt
 induction ks with
 | nil => rfl
 | cons x xs ih =>
  simp only [bP, fP, gq]
  cases h : beq k x with
  | true => simp
  | false => simpa using ih
theorem OZ (l : ∀ {x y}, beq x y = true ↔ x = y) (ks : List κ) (k : κ) : nU beq (tt ks) k true = tt (ins beq ks k) := by
 unfold nU ins
 have m : (tt ks).findIdx? (fun p => beq k p.1) = ks.findIdx? (fun x => beq k x) := by
  unfold tt; rw [gF]; rfl
 rw [m]
 cases h : ks.findIdx? (fun x => beq k x) with
 | none =>
  rw [gm] at h
  rw [bI]
  ·simp [tt]
  ·intro b
   unfold mr at b
   rw [eJ] at b
   obtain ⟨x, n, a⟩ := b
   rw [h x n] at a
   cases a
 | some i =>
  rw [eK] at h
  obtain ⟨g, h1, _⟩ := h
  have e := l.1 h1
  rw [bD]
  ·simp only [tt]
   apply eO
   intro j
   rw [fu]
   split
   ·rename_i d
    subst d
    simp [g, e]
   ·rfl
  ·unfold mr
   exact eJ.2 ⟨ks[i], List.getElem_mem g, h1⟩
end
section
variable {all : List jr} {wants : List jq} {T : List jq} {W : List ByteArray} {R : List jr}
def oh (c : jr) : List jq := if c.Kind = 1 then [] else if c.Kind = 4 then [c.B, c.C] else [c.B]
end
theorem Er (x : jr) : ∀ l : List jr, vN l x = some (mr kh l x)
 | [] => rfl
 | y :: l => by
  have ih := Er x l
  unfold vN at ih ⊢
  rw [wS, ih]
  have : kh y x = kh x y := by rw [bU, mz, mz]; exact eq_comm
  rw [this]
  simp only [mr, gq]
  cases kh x y <;> simp
end Go.Proofs.YtmlncblocfcmiaaGreat
namespace Go.Proofs.YtmlncblocfcmiaaGreat
open Go.RowKit
theorem Qj {c : jr} (h : lC c = true) : yv c = some (c.Head :: oh c) := by
 unfold yv
 rw [wg, h]
 simp only [aA, cK, aC, aK]
 have a : c.Kind = 1 ∨ c.Kind = 2 ∨ c.Kind = 3 ∨ c.Kind = 4 := by rcases oB h with h | h | h | h <;> simp [h.1]
 rcases a with k | k | k | k
 ·simp [k, oh]
 ·rw [bD (by simp [k]), mA (by simp) (by simp)]
  simp [k, oh]
 ·rw [bD (by simp [k]), mA (by simp) (by simp)]
  simp [k, oh]
 ·rw [bD (by simp [k]), mA (by simp) (by simp)]
  simp only [aA]
  rw [bD (by simp [k]), mA (by simp) (by simp)]
  simp [k, oh]
theorem uW.congr {α : Type} {lt : α → α → Prop} {P : α → Prop} {l m s : List α} (h : uW lt P l s) (hm : ∀ x, x ∈ l ↔ x ∈ m) : uW lt P m s := ⟨h.1, fun x => by rw [h.2, hm]⟩
theorem O8 {κ : Type} (ks : List κ) : (tt ks).map (·.1) = ks := by simp [tt, fV]
end Go.Proofs.YtmlncblocfcmiaaGreat
namespace Go.Proofs.YtmlncblocfcmiaaGreat
open Go.RowKit
def xA (c : jr) : Nat := c.Head.js.size + c.Head.jy.size + c.ky.size + c.B.js.size + c.B.jy.size + c.C.js.size + c.C.jy.size + c.kF.size
end Go.Proofs.YtmlncblocfcmiaaGreat
namespace Go.Proofs.YtmlncblocfcmiaaGreat
open Go.RowKit
section
variable {κ γ : Type} {beq : κ → κ → Bool}
theorem qL (a : ∀ {x y}, beq x y = true ↔ x = y) {A B : List (κ × γ)} {k : κ} {x : γ} (b : ∀ p ∈ A, p.1 ≠ k) : kV beq (A ++ (k, x) :: B) k = some x := by
 unfold kV
 rw [iL]
 have : A.find? (fun p => beq k p.1) = none := gy.2 (fun p hp h => b p hp (a.1 h).symm)
 rw [this]
 simp [a.2 (rfl : k = k)]
theorem vK (a : ∀ {x y}, beq x y = true ↔ x = y) {l : List (κ × γ)} {k : κ} (h : ∀ p ∈ l, p.1 ≠ k) : kV beq l k = none := by
 unfold kV
 rw [gy.2 (fun p hp b => h p hp (a.1 b).symm)]
 rfl
theorem wW (a : ∀ {x y}, beq x y = true ↔ x = y) {A B : List (κ × γ)} {k : κ} {x y : γ} (b : ∀ p ∈ A, p.1 ≠ k) : nU beq (A ++ (k, x) :: B) k y = A ++ (k, y) :: B := by
 have h1 : (A ++ (k, x) :: B).findIdx? (fun p => beq k p.1) = some A.length := by
  rw [gY, gm.2 (fun p hp => by
   cases h : beq k p.1 with
   | false => rfl
   | true => exact absurd (a.1 h).symm (b p hp))]
  simp [fl, a.2 (rfl : k = k)]
 rw [qG h1]
 simp
theorem BX (a : ∀ {x y}, beq x y = true ↔ x = y) {l : List (κ × γ)} {k : κ} {y : γ} (h : ∀ p ∈ l, p.1 ≠ k) : nU beq l k y = l ++ [(k, y)] := by
 refine uR (gm.2 (fun p hp => ?_)) y
 cases b : beq k p.1 with
 | false => rfl
 | true => exact absurd (a.1 b).symm (h p hp)
theorem ud (k : κ) : ∀ (l : List (κ × γ)), (∀ p ∈ l, p.1 ≠ k) ∨ ∃ A x B, l = A ++ (k, x) :: B ∧ ∀ p ∈ A, p.1 ≠ k
 | [] => .inl (fun _ h => by cases h)
 | p :: l => by
  by_cases hp : p.1 = k
  ·exact .inr ⟨[], p.2, l, by rw [← hp]; rfl, fun _ h => by cases h⟩
  ·rcases ud k l with h | ⟨A, x, B, rfl, h⟩
   ·exact .inl (fun q a => by rcases aR.1 a with rfl | a; exact hp; exact h q a)
   ·exact .inr ⟨p :: A, x, B, rfl, fun q a => by rcases aR.1 a with rfl | a; exact hp; exact h q a⟩
theorem FD (a : ∀ {x y}, beq x y = true ↔ x = y) (A B : List (κ × γ)) (k : κ) : kV beq (A ++ B) k = (kV beq A k).or (kV beq B k) := by
 unfold kV
 rw [iL]
 cases A.find? (fun p => beq k p.1) <;> rfl
theorem Bp (p : κ × γ) (l : List (κ × γ)) (k : κ) : kV beq (p :: l) k = if beq k p.1 = true then some p.2 else kV beq l k := by
 unfold kV
 rw [fP]
 cases beq k p.1 <;> simp
theorem DW (a : ∀ {x y}, beq x y = true ↔ x = y) (l : List (κ × γ)) (k b : κ) (y : γ) : kV beq (nU beq l k y) b = if beq b k = true then some y else kV beq l b := by
 rcases ud k l with h | ⟨A, x, B, rfl, h⟩
 ·rw [BX a h, FD a, Bp]
  by_cases hk : beq b k = true
  ·have := a.1 hk
   subst this
   rw [bD hk, bD hk, vK a h]; rfl
  ·rw [bI hk, bI hk]
   show (kV beq l b).or none = _
   cases kV beq l b <;> rfl
 ·rw [wW a h, FD a, Bp, FD a, Bp]
  by_cases hk : beq b k = true
  ·have := a.1 hk
   subst this
   rw [bD hk, bD hk, vK a h]; rfl
  ·rw [bI hk, bI hk, bI hk]
end
abbrev oJ := List (jq × List ByteArray)
def mm (T : oJ) : List (jq × List (ByteArray × Bool)) := T.map fun p => (p.1, tt p.2)
def rA (T : oJ) (r : jq) : List ByteArray := (kV jP T r).getD []
def FS (T : oJ) : List jJ := T.flatMap fun p => p.2.map fun w => (⟨p.1, w⟩ : jJ)
def DQ (T : oJ) (r : jq) (w : ByteArray) : oJ := nU jP T r (rA T r ++ [w])
theorem DK (A B : oJ) : mm (A ++ B) = mm A ++ mm B := by simp [mm]
theorem yT {A : oJ} {r : jq} (h : ∀ p ∈ A, p.1 ≠ r) : ∀ p ∈ mm A, p.1 ≠ r := by
 intro p hp
 simp only [mm, bL] at hp
 obtain ⟨q, a, rfl⟩ := hp
 exact h q a
theorem Oz (T : oJ) (r : jq) : kV jP (mm T) r = (kV jP T r).map tt := by
 rcases ud r T with h | ⟨A, x, B, rfl, h⟩
 ·rw [vK jQ h, vK jQ (yT h)]; rfl
 ·rw [qL jQ h, DK]
  exact qL jQ (yT h)
theorem J7 (T : oJ) (r : jq) : (kV jP (mm T) r).getD [] = tt (rA T r) := by
 rw [Oz, rA]; cases kV jP T r <;> rfl
theorem Gh (T : oJ) (r : jq) (w : ByteArray) : (FS (DQ T r w)).Perm (FS T ++ [(⟨r, w⟩ : jJ)]) := by
 unfold DQ rA
 rcases ud r T with h | ⟨A, x, B, rfl, h⟩
 ·rw [BX jQ h, vK jQ h]
  simp [FS]
 ·rw [wW jQ h, qL jQ h]
  simp only [FS, iu, gN, gT, cL, bP, eW, aP]
  refine cE _ (cE _ ?_)
  exact fp
theorem NT {T : oJ} (hk : (T.map (·.1)).Nodup) (r : jq) (w : ByteArray) : ((DQ T r w).map (·.1)).Nodup := by
 unfold DQ
 rcases ud r T with h | ⟨A, x, B, rfl, h⟩
 ·rw [BX jQ h]
  simp only [cL, bP, eW]
  refine bY.2 ⟨hk, by simp, fun a ha b d e => ?_⟩
  simp at d; subst d; subst e
  obtain ⟨p, hp, e⟩ := bL.1 ha
  exact h p hp e
 ·rw [wW jQ h]
  simpa using hk
theorem Ay {T : oJ} (hk : (T.map (·.1)).Nodup) (f : jJ) : f ∈ FS T ↔ f.ky ∈ rA T f.jq := by
 simp only [FS, iY, bL]
 constructor
 ·rintro ⟨p, hp, w, hw, rfl⟩
  obtain ⟨A, B, rfl⟩ := List.append_of_mem hp
  have a : ∀ q ∈ A, q.1 ≠ p.1 := fun q d e => by
   rw [cL, bP] at hk
   exact (bY.1 hk).2.2 q.1 (bL.2 ⟨q, d, rfl⟩) p.1 (by simp) e
  rw [rA, show p = (p.1, p.2) from rfl, qL jQ a]
  exact hw
 ·intro h
  unfold rA at h
  rcases ud f.jq T with b | ⟨A, x, B, rfl, a⟩
  ·rw [vK jQ b] at h; cases h
  ·rw [qL jQ a] at h
   exact ⟨(f.jq, x), by simp, f.ky, h, rfl⟩
theorem JI {T : oJ} (h : (FS T).Nodup) (r : jq) : (rA T r).Nodup := by
 unfold rA
 rcases ud r T with b | ⟨A, x, B, rfl, a⟩
 ·rw [vK jQ b]; simp
 ·rw [qL jQ a]
  simp only [FS, iu, gN] at h
  have h1 := (bY.1 (bY.1 h).2.1).1
  simp only [List.Nodup, fW] at h1
  exact h1.imp (fun h e => h (by rw [e]))
inductive oG (C : List jr) : jJ → Prop
 | mem (c) : c ∈ C → c.Kind = 1 → oG C ⟨c.Head, c.ky⟩
 | inc (c w) : c ∈ C → c.Kind = 2 → oG C ⟨c.B, w⟩ → oG C ⟨c.Head, w⟩
 | Gq (c b w) : c ∈ C → c.Kind = 3 → oG C ⟨c.B, b⟩ → oG C ⟨⟨b, c.kF⟩, w⟩ → oG C ⟨c.Head, w⟩
 | both (c w) : c ∈ C → c.Kind = 4 → oG C ⟨c.B, w⟩ → oG C ⟨c.C, w⟩ → oG C ⟨c.Head, w⟩
theorem oG.mono {C C' : List jr} (h : ∀ c ∈ C, c ∈ C') {f : jJ} (i : oG C f) : oG C' f := by
 induction i with
 | mem c a hk => exact .mem c (h c a) hk
 | inc c w a hk _ ih => exact .inc c w (h c a) hk ih
 | Gq c b w a hk _ _ d g => exact .Gq c b w (h c a) hk d g
 | both c w a hk _ _ d g => exact .both c w (h c a) hk d g
def ES (C : List jr) : List jJ := (C.map (·.Head)).flatMap fun r => (C.map (·.ky)).map fun w => (⟨r, w⟩ : jJ)
theorem Cx (C : List jr) : (ES C).length = C.length * C.length := by
 unfold ES
 have : ∀ l : List jq, (l.flatMap fun r => (C.map (·.ky)).map fun w => (⟨r, w⟩ : jJ)).length = l.length * C.length := fun l => by
  induction l with
  | nil => simp
  | cons x l ih => simp only [gN, aF, ih, dA, aO, cR]; omega
 rw [this, dA]
theorem O4 {C : List jr} {r : jq} {w : ByteArray} : (⟨r, w⟩ : jJ) ∈ ES C ↔ (∃ c ∈ C, c.Head = r) ∧ ∃ c ∈ C, c.ky = w := by
 unfold ES
 simp only [iY, bL, jJ.mk.injEq]
 constructor
 ·rintro ⟨g, ⟨c, d, rfl⟩, h, ⟨b, a, rfl⟩, rfl, rfl⟩; exact ⟨⟨c, d, rfl⟩, b, a, rfl⟩
 ·rintro ⟨⟨c, d, rfl⟩, b, a, rfl⟩; exact ⟨_, ⟨c, d, rfl⟩, _, ⟨b, a, rfl⟩, rfl, rfl⟩
theorem oG.Km {C : List jr} {f : jJ} (h : oG C f) : ∃ c ∈ C, c.Kind = 1 ∧ c.ky = f.ky := by
 induction h with
 | mem c g hk => exact ⟨c, g, hk, rfl⟩
 | inc c w g hk _ ih => exact ih
 | Gq c b w g hk _ _ a d => exact d
 | both c w g hk _ _ a d => exact a
theorem oG.head {C : List jr} {f : jJ} (h : oG C f) : ∃ c ∈ C, c.Head = f.jq := by
 cases h with
 | mem c a hk => exact ⟨c, a, rfl⟩
 | inc c w a hk _ => exact ⟨c, a, rfl⟩
 | Gq c b w a hk _ _ => exact ⟨c, a, rfl⟩
 | both c w a hk _ _ => exact ⟨c, a, rfl⟩
theorem oG.ES {C : List jr} {f : jJ} (h : oG C f) : f ∈ ES C := by
 obtain ⟨c, a, _, hw⟩ := h.Km
 exact O4.2 ⟨h.head, c, a, hw⟩
structure pX (C : List jr) (T : oJ) (td : List jJ) (n : Int) : Prop where
 keys : (T.map (·.1)).Nodup
 nd : (FS T).Nodup
 Kd : td.Nodup
 sub : ∀ f ∈ td, f ∈ FS T
 num : n = (FS T).length
 xx : ∀ f ∈ FS T, oG C f
theorem pX.len {C : List jr} {T : oJ} {b : List jJ} {n : Int} (h : pX C T b n) : (FS T).length ≤ C.length * C.length := by
 rw [← Cx]; exact mi h.nd (fun f a => (h.xx f a).ES)
theorem pX.PT {C : List jr} {T : oJ} {a : List jJ} {n : Int} (h : pX C T a n) : a.length ≤ (FS T).length := mi h.Kd h.sub
theorem pX.mono {C C' : List jr} {T : oJ} {a : List jJ} {n : Int} (h : pX C T a n) (b : ∀ c ∈ C, c ∈ C') : pX C' T a n := ⟨h.keys, h.nd, h.Kd, h.sub, h.num, fun f d => (h.xx f d).mono b⟩
structure zG (T : oJ) (td : List jJ) (T' : oJ) (td' : List jJ) : Prop where
 mo : ∀ f ∈ FS T, f ∈ FS T'
 todo : ∀ f ∈ td, f ∈ td'
 new : ∀ f ∈ FS T', f ∈ FS T ∨ f ∈ td'
 fresh : ∀ f ∈ td', f ∈ td ∨ f ∉ FS T
theorem zG.refl (T : oJ) (a : List jJ) : zG T a T a := ⟨fun _ h => h, fun _ h => h, fun _ h => .inl h, fun _ h => .inl h⟩
theorem zG.trans {T T' T'' : oJ} {i g a : List jJ} (h : zG T i T' g) (k : zG T' g T'' a) : zG T i T'' a :=
 ⟨fun f b => k.mo f (h.mo f b), fun f b => k.todo f (h.todo f b), fun f b => by
  rcases k.new f b with h1 | h1
  ·rcases h.new f h1 with d | d
   ·exact .inl d
   ·exact .inr (k.todo f d)
  ·exact .inr h1, fun f b => by
  rcases k.fresh f b with h1 | h1
  ·exact h.fresh f h1
  ·exact .inr (fun d => h1 (h.mo f d))⟩
theorem GA {α : Type} (p : α → Bool) : ∀ l : List α, (l.filter p).length + (l.filter fun x => !p x).length = l.length
 | [] => rfl
 | x :: l => by
  have := GA p l
  cases h : p x <;> simp [h] <;> omega
theorem pX.EX {C C' : List jr} {T T' : oJ} {i d : List jJ} {n p : Int} (j : pX C' T' d p) (g : pX C T i n) (x : zG T i T' d) : d.length + (FS T).length ≤ i.length + (FS T').length := by
 classical
 have h1 : (d.filter fun f => decide (f ∈ FS T)).length ≤ i.length := mi (j.Kd.filter _) (fun f k => by
  have := cM.1 k
  rcases x.fresh f this.1 with h | h
  ·exact h
  ·exact absurd (by simpa using this.2) h)
 have l : (FS T ++ d.filter fun f => !decide (f ∈ FS T)).length ≤ (FS T').length := mi (bY.2 ⟨g.nd, j.Kd.filter _, fun a ha b m e => by
  subst e
  have := (cM.1 m).2
  simp [ha] at this⟩) (fun f k => by
  rcases aV.1 k with h | h
  ·exact x.mo f h
  ·exact j.sub f (cM.1 h).1)
 have q : (d.filter fun f => decide (f ∈ FS T)).length + (d.filter fun f => !decide (f ∈ FS T)).length = d.length := by
  exact GA (fun f => decide (f ∈ FS T)) d
 rw [aF] at l
 omega
def Bx (C : List jr) (T : oJ) (g : List jJ) (b : Option (List (jq × List (ByteArray × Bool)) × List jJ × Int)) (Q : oJ → Prop) : Prop :=
 ∃ T' a d, b = some (mm T', a, d) ∧ pX C T' a d ∧ zG T g T' a ∧ Q T'
theorem Bx.mono {C : List jr} {T : oJ} {g : List jJ} {a : Option (List (jq × List (ByteArray × Bool)) × List jJ × Int)} {Q Q' : oJ → Prop} (h : Bx C T g a Q) (k : ∀ T', (∀ f ∈ FS T, f ∈ FS T') → Q T' → Q' T') : Bx C T g a Q' := by
 obtain ⟨T', b, l, h1, i, d, j⟩ := h
 exact ⟨T', b, l, h1, i, d, k T' d.mo j⟩
def qv (C : List jr) : Prop := C.length ≤ 1000000
theorem qv.sq {C : List jr} (h : qv C) : C.length * C.length ≤ 1000000000000 := Nat.mul_le_mul h h
theorem sT {T : oJ} (hk : (T.map (·.1)).Nodup) (r : jq) (w : ByteArray) : zc kQ ((kV jP (mm T) r).getD []) w false = true ↔ (⟨r, w⟩ : jJ) ∈ FS T := by
 rw [J7, Nj, sD lZ, Ay hk]
theorem BU {C : List jr} (y : qv C) {T : oJ} {k : List jJ} {n : Int} (h : pX C T k n) (cs : List jr) (us : List (jq × List jr)) (ws : List (ByteArray × List jr)) {r : jq} {w : ByteArray} (z : oG C ⟨r, w⟩) :
  Bx C T k (nF (mm T) cs us ws k n r w) (fun T' => (⟨r, w⟩ : jJ) ∈ FS T') := by
 unfold nF
 have E := y.sq
 have I := h.len
 have F := h.PT
 by_cases g : (⟨r, w⟩ : jJ) ∈ FS T
 ·rw [bD ((sT h.keys r w).2 g)]
  exact ⟨T, k, n, rfl, h, zG.refl _ _, g⟩
 ·rw [bI (fun t => g ((sT h.keys r w).1 t))]
  have D : pX C (DQ T r w) (k ++ [⟨r, w⟩]) (n + 1) := by
   have hp := Gh T r w
   refine ⟨NT h.keys r w, (hp.nodup_iff).2 (bY.2 ⟨h.nd, by simp, fun a ha b p e => ?_⟩), bY.2 ⟨h.Kd, by simp, fun a ha b p e => ?_⟩, fun f d => hp.mem_iff.2 ?_, ?_, fun f d => ?_⟩
   ·simp at p; subst p; subst e; exact g ha
   ·simp at p; subst p; subst e; exact g (h.sub _ ha)
   ·rcases aV.1 d with d | d
    ·exact cJ _ (h.sub f d)
    ·exact ez _ d
   ·rw [hp.length_eq, h.num]; simp
   ·rcases aV.1 (hp.mem_iff.1 d) with d | d
    ·exact h.xx f d
    ·simp at d; subst d; exact z
  have u : ((if (kV jP (mm T) r).isNone = true then ((Fo jP (mm T) r []).bind fun l => some l) else some (mm T)) : Option _).bind (fun l => (FF jP kQ l r w true)) = some (mm (DQ T r w)) := by
   unfold DQ rA
   rcases ud r T with j | ⟨A, x, B, rfl, s⟩
   ·have q := vK jQ (yT j)
    rw [q, vK jQ j, BX jQ j, DK]
    simp only [Option.isNone_none, aT, Fo, q, aA]
    rw [BX jQ (yT j)]
    unfold FF
    rw [qL jQ (yT j)]
    simp only [eE]
    rw [wW jQ (yT j)]
    rfl
   ·have m := yT s
    have v : kV jP (mm (A ++ (r, x) :: B)) r = some (tt x) := by rw [DK]; exact qL jQ m
    rw [v, qL jQ s, wW jQ s]
    simp only [Option.isNone_some, aC, aK, aA, FF, v, eE, gT]
    have G : w ∉ x := fun hw => g (by
     rw [Ay h.keys, rA, qL jQ s]; exact hw)
    rw [OZ lZ]
    rw [show ins kQ x w = x ++ [w] from by unfold ins; rw [bI (fun t => G ((sD lZ x w).1 t))]]
    rw [DK, show mm ((r, x) :: B) = (r, tt x) :: mm B from rfl, wW jQ m, DK]
    rfl
  refine ⟨DQ T r w, k ++ [⟨r, w⟩], n + 1, ?_, D, ⟨fun f d => (Gh T r w).mem_iff.2 (cJ _ d), fun f d => cJ _ d, fun f d => ?_, fun f d => ?_⟩, (Gh T r w).mem_iff.2 (by simp)⟩
  ·have i := u
   generalize ((if (kV jP (mm T) r).isNone = true then ((Fo jP (mm T) r []).bind fun l => some l) else some (mm T)) : Option _) = o at i
   cases o with
   | none => cases i
   | some l =>
    simp only [aA] at i ⊢
    rw [i]
    simp only [aA]
    rw [mA (by simp; omega) (by simp; omega)]
    simp only [aA]
    rw [kG (by rw [h.num]; omega) (by rw [h.num]; omega)]
  ·rcases aV.1 ((Gh T r w).mem_iff.1 d) with h1 | h1
   ·exact .inl h1
   ·exact .inr (ez _ h1)
  ·rcases aV.1 d with h1 | h1
   ·exact .inl h1
   ·simp at h1; subst h1; exact .inr g
end Go.Proofs.YtmlncblocfcmiaaGreat
namespace Go.Proofs.YtmlncblocfcmiaaGreat
open Go.RowKit
theorem zf (l : List ByteArray) (x : ByteArray) : x ∈ uP l ↔ x ∈ l := by unfold uP; simp
def rU (C : List jr) : Prop := ∀ c ∈ C, lC c = true
theorem Mx {c : jr} (h : lC c = true) (hk : c.Kind = 1) : c.ky.size ≤ 16 := by
 rcases oB h with h | h | h | h
 ·exact (od h.2.1).2
 ·exact absurd (hk.symm.trans h.1) (by decide)
 ·exact absurd (hk.symm.trans h.1) (by decide)
 ·exact absurd (hk.symm.trans h.1) (by decide)
theorem No {T : oJ} (r : jq) (hk : (T.map (·.1)).Nodup) : (rA T r).length ≤ (FS T).length := by
 unfold rA
 rcases ud r T with b | ⟨A, x, B, rfl, a⟩
 ·rw [vK jQ b]; simp
 ·rw [qL jQ a]
  simp only [FS, iu, gN, aF, dA, gT]
  omega
theorem F4 {C : List jr} (a : qv C) (b : rU C) {T : oJ} {i : List jJ} {n : Int} (h : pX C T i n) (cs : List jr) (us : List (jq × List jr)) (ws : List (ByteArray × List jr)) (q : List jJ) (z : Int) (r : jq) :
  qi (mm T) cs us ws q z r = some (uP (rA T r)) := by
 unfold qi ov
 rw [J7]
 simp only [aA, nA]
 have l := No r h.keys
 have j := h.len
 have k := a.sq
 unfold Gb
 rw [O8, bD]
 refine ⟨JI h.nd r, fun p hp => ?_, by rw [L6]; omega⟩
 simp only [tt, bL] at hp
 obtain ⟨w, hw, rfl⟩ := hp
 have g := h.xx ⟨r, w⟩ ((Ay h.keys ⟨r, w⟩).2 hw)
 obtain ⟨c, d, hk, e⟩ := g.Km
 have := Mx (b c d) hk
 simp only at e ⊢
 rw [← e]
 unfold maxLen
 omega
theorem MB {C : List jr} (g : qv C) (cs : List jr) (us : List (jq × List jr)) (ws : List (ByteArray × List jr)) (head : jq) : ∀ (l : List ByteArray) {T : oJ} {a : List jJ} {n : Int}, pX C T a n → (∀ w ∈ l, oG C ⟨head, w⟩) →
  Bx C T a (pK cs us ws head l (mm T) a n) (fun T' => ∀ w ∈ l, (⟨head, w⟩ : jJ) ∈ FS T')
 | [], T, a, n, h, _ => ⟨T, a, n, rfl, h, zG.refl _ _, fun _ hw => by cases hw⟩
 | w :: l, T, a, n, h, i => by
  rw [pK]
  obtain ⟨T1, r, s, j, g1, x1, p⟩ := BU g h cs us ws (i w (by simp))
  rw [j]
  simp only [aA]
  obtain ⟨T2, d, m, k, g2, x2, q⟩ := MB g cs us ws head l g1 (fun w hw => i w (by simp [hw]))
  refine ⟨T2, d, m, k, g2, x1.trans x2, fun v b => ?_⟩
  rcases aR.1 b with rfl | b
  ·exact x2.mo _ p
  ·exact q v b
theorem Qu {C : List jr} (b : qv C) (d : rU C) {T : oJ} {a : List jJ} {n : Int} (h : pX C T a n) (cs : List jr) (us : List (jq × List jr)) (ws : List (ByteArray × List jr)) (r head : jq) (g : ∀ w, (⟨r, w⟩ : jJ) ∈ FS T → oG C ⟨head, w⟩) :
  Bx C T a (tO (mm T) cs us ws a n r head) (fun T' => ∀ w, (⟨r, w⟩ : jJ) ∈ FS T → (⟨head, w⟩ : jJ) ∈ FS T') := by
 unfold tO
 rw [F4 b d h]
 simp only [aA]
 refine (MB b cs us ws head _ h (fun w hw => g w ((Ay h.keys ⟨r, w⟩).2 ((zf _ _).1 hw)))).mono (fun T' _ i w hw => i w ((zf _ _).2 ((Ay h.keys ⟨r, w⟩).1 hw)))
def En (c : jr) (f : jJ) (T T' : oJ) : Prop :=
 (c.Kind = 2 → f.jq = c.B → (⟨c.Head, f.ky⟩ : jJ) ∈ FS T') ∧
 (c.Kind = 3 → f.jq = c.B → ∀ w, (⟨⟨f.ky, c.kF⟩, w⟩ : jJ) ∈ FS T → (⟨c.Head, w⟩ : jJ) ∈ FS T') ∧
 (c.Kind = 4 → (⟨c.B, f.ky⟩ : jJ) ∈ FS T → (⟨c.C, f.ky⟩ : jJ) ∈ FS T → (⟨c.Head, f.ky⟩ : jJ) ∈ FS T')
theorem En.mono {c : jr} {f : jJ} {T T' T0 T1 : oJ} (h : En c f T T') (g : ∀ f ∈ FS T0, f ∈ FS T) (h1 : ∀ f ∈ FS T', f ∈ FS T1) : En c f T0 T1 :=
 ⟨fun a b => h1 _ (h.1 a b), fun a b w hw => h1 _ (h.2.1 a b w (g _ hw)), fun a b d => h1 _ (h.2.2 a (g _ b) (g _ d))⟩
theorem Oa (x : Option (List (jq × List (ByteArray × Bool)) × List jJ × Int)) : (x.bind fun r => some (r.1, r.2.1, r.2.2)) = x := by cases x <;> rfl
theorem MU {C : List jr} (m : qv C) (t : rU C) {T : oJ} {i : List jJ} {n : Int} (h : pX C T i n) (cs : List jr) (us : List (jq × List jr)) (ws : List (ByteArray × List jr)) {c : jr} (p : c ∈ C) {f : jJ} (r : f ∈ FS T) (s : f.jq ∈ oh c) :
  Bx C T i (rc (mm T) cs us ws i n c f) (En c f T) := by
 unfold rc
 simp only [Oa, CD]
 by_cases a : c.Kind = 2
 ·have l : f.jq = c.B := by simpa [oh, a] using s
  rw [bD (by simp [a])]
  have q : oG C ⟨c.Head, f.ky⟩ := .inc c f.ky p a (by rw [← l]; exact h.xx f r)
  refine (BU m h cs us ws q).mono (fun T' _ g => ⟨fun _ _ => g, fun k => absurd (a.symm.trans k) (by decide), fun k => absurd (a.symm.trans k) (by decide)⟩)
 rw [bI (by simp [a])]
 by_cases b : c.Kind = 3
 ·have l : f.jq = c.B := by simpa [oh, b] using s
  rw [bD (by simp [b])]
  refine (Qu m t h cs us ws ⟨f.ky, c.kF⟩ c.Head (fun w hw => .Gq c f.ky w p b (by rw [← l]; exact h.xx f r) (h.xx _ hw))).mono (fun T' _ g => ⟨fun k => absurd k a, fun _ _ w hw => g w hw, fun k => absurd (b.symm.trans k) (by decide)⟩)
 rw [bI (by simp [b])]
 by_cases j : c.Kind = 4
 ·rw [bD (by simp [j])]
  simp only [aA]
  by_cases d : (⟨c.B, f.ky⟩ : jJ) ∈ FS T ∧ (⟨c.C, f.ky⟩ : jJ) ∈ FS T
  ·rw [bD (by rw [bF, sT h.keys, sT h.keys]; exact d)]
   have q : oG C ⟨c.Head, f.ky⟩ := .both c f.ky p j (h.xx _ d.1) (h.xx _ d.2)
   exact (BU m h cs us ws q).mono (fun T' _ g => ⟨fun k => absurd k a, fun k => absurd k b, fun _ _ _ => g⟩)
  ·rw [bI (by rw [bF, sT h.keys, sT h.keys]; exact d)]
   exact ⟨T, i, n, rfl, h, zG.refl _ _, fun k => absurd k a, fun k => absurd k b, fun _ x y => absurd ⟨x, y⟩ d⟩
 ·rw [bI (by simp [j])]
  exact ⟨T, i, n, rfl, h, zG.refl _ _, fun k => absurd k a, fun k => absurd k b, fun k => absurd k j⟩
theorem IF {C : List jr} (g : qv C) (i : rU C) (cs : List jr) (us : List (jq × List jr)) (ws : List (ByteArray × List jr)) {c : jr} (j : c ∈ C) (k : c.B ∈ oh c) : ∀ (l : List ByteArray) {T : oJ} {a : List jJ} {n : Int}, pX C T a n → (∀ w ∈ l, (⟨c.B, w⟩ : jJ) ∈ FS T) →
  Bx C T a (oV cs us ws c l (mm T) a n) (fun T' => ∀ w ∈ l, En c ⟨c.B, w⟩ T T')
 | [], T, a, n, h, _ => ⟨T, a, n, rfl, h, zG.refl _ _, fun _ hw => by cases hw⟩
 | w :: l, T, a, n, h, hm => by
  rw [oV]
  obtain ⟨T1, t, u, m, g1, x1, r⟩ := MU g i h cs us ws j (f := ⟨c.B, w⟩) (hm w (by simp)) k
  rw [m]
  simp only [aA]
  obtain ⟨T2, d, q, p, g2, x2, s⟩ := IF g i cs us ws j k l g1 (fun w hw => x1.mo _ (hm w (by simp [hw])))
  refine ⟨T2, d, q, p, g2, x1.trans x2, fun v b => ?_⟩
  rcases aR.1 b with rfl | b
  ·exact r.mono (fun _ h => h) x2.mo
  ·exact (s v b).mono x1.mo (fun _ h => h)
def ET (c : jr) (T : oJ) (a : List jJ) : Prop :=
 (c.Kind = 1 → (⟨c.Head, c.ky⟩ : jJ) ∈ FS T) ∧
 (c.Kind = 2 → ∀ w, (⟨c.B, w⟩ : jJ) ∈ FS T → (⟨c.B, w⟩ : jJ) ∉ a → (⟨c.Head, w⟩ : jJ) ∈ FS T) ∧
 (c.Kind = 3 → ∀ b w, (⟨c.B, b⟩ : jJ) ∈ FS T → (⟨c.B, b⟩ : jJ) ∉ a → (⟨⟨b, c.kF⟩, w⟩ : jJ) ∈ FS T → (⟨⟨b, c.kF⟩, w⟩ : jJ) ∉ a → (⟨c.Head, w⟩ : jJ) ∈ FS T) ∧
 (c.Kind = 4 → ∀ w, (⟨c.B, w⟩ : jJ) ∈ FS T → (⟨c.B, w⟩ : jJ) ∉ a → (⟨c.C, w⟩ : jJ) ∈ FS T → (⟨c.C, w⟩ : jJ) ∉ a → (⟨c.Head, w⟩ : jJ) ∈ FS T)
theorem ET.ext {c : jr} {T T' : oJ} {i d : List jJ} (h : ET c T i) (x : zG T i T' d) : ET c T' d := by
 have mo : ∀ f, f ∈ FS T' → f ∉ d → f ∈ FS T ∧ f ∉ i := fun f m j => by
  rcases x.new f m with h1 | h1
  ·exact ⟨h1, fun l => j (x.todo f l)⟩
  ·exact absurd h1 j
 refine ⟨fun k => x.mo _ (h.1 k), fun k w a b => ?_, fun k b w g a2 a3 a4 => ?_, fun k w g a2 a3 a4 => ?_⟩
 ·exact x.mo _ (h.2.1 k w (mo _ a b).1 (mo _ a b).2)
 ·exact x.mo _ (h.2.2.1 k b w (mo _ g a2).1 (mo _ g a2).2 (mo _ a3 a4).1 (mo _ a3 a4).2)
 ·exact x.mo _ (h.2.2.2 k w (mo _ g a2).1 (mo _ g a2).2 (mo _ a3 a4).1 (mo _ a3 a4).2)
theorem NX {C : List jr} (l : qv C) (r : rU C) {T : oJ} {p : List jJ} {n : Int} (h : pX C T p n) (cs : List jr) (us : List (jq × List jr)) (ws : List (ByteArray × List jr)) {c : jr} (s : c ∈ C) :
  ∃ T' d i, rX (mm T) cs us ws p n c = some (mm T', d, i) ∧ pX C T' d i ∧ zG T p T' d ∧ ET c T' d := by
 unfold rX
 simp only [Oa]
 by_cases h1 : c.Kind = 1
 ·rw [bD (by simp [h1])]
  obtain ⟨T', d, i, e, g, x, q⟩ := BU l h cs us ws (oG.mem c s h1)
  exact ⟨T', d, i, e, g, x, fun _ => q, fun k => absurd (h1.symm.trans k) (by decide), fun k => absurd (h1.symm.trans k) (by decide), fun k => absurd (h1.symm.trans k) (by decide)⟩
 ·rw [bI (by simp [h1]), F4 l r h]
  simp only [aA]
  have v : c.B ∈ oh c := by unfold oh; rw [bI h1]; split <;> simp
  obtain ⟨T', d, i, e, g, x, q⟩ := IF l r cs us ws s v (uP (rA T c.B)) h (fun w hw => (Ay h.keys ⟨c.B, w⟩).2 ((zf _ _).1 hw))
  have mo : ∀ f, f ∈ FS T' → f ∉ d → f ∈ FS T := fun f t u => by
   rcases x.new f t with h1 | h1
   ·exact h1
   ·exact absurd h1 u
  have m : ∀ w, (⟨c.B, w⟩ : jJ) ∈ FS T → En c ⟨c.B, w⟩ T T' := fun w hw => q w ((zf _ _).2 ((Ay h.keys ⟨c.B, w⟩).1 hw))
  refine ⟨T', d, i, e, g, x, fun k => absurd k h1, fun k w a b => ?_, fun k b w j a2 a3 a4 => ?_, fun k w j a2 a3 a4 => ?_⟩
  ·exact (m w (mo _ a b)).1 k rfl
  ·exact (m b (mo _ j a2)).2.1 k rfl w (mo _ a3 a4)
  ·exact (m w (mo _ j a2)).2.2 k (mo _ j a2) (mo _ a3 a4)
structure DH (C : List jr) (us : List (jq × List jr)) (ws : List (ByteArray × List jr)) : Prop where
 Nw : ∀ r c, c ∈ (kV jP us r).getD [] ↔ c ∈ C ∧ r ∈ oh c
 word : ∀ w c, c ∈ (kV kQ ws w).getD [] ↔ c ∈ C ∧ c.Kind = 3 ∧ c.kF = w
 PR : ∀ r, ((kV jP us r).getD []).length ≤ 2 * C.length
 P8 : ∀ w, ((kV kQ ws w).getD []).length ≤ C.length
theorem HN {C : List jr} (g : qv C) (i : rU C) (cs : List jr) (us : List (jq × List jr)) (ws : List (ByteArray × List jr)) {f : jJ} : ∀ (l : List jr) {T : oJ} {a : List jJ} {n : Int}, pX C T a n → f ∈ FS T → (∀ c ∈ l, c ∈ C ∧ f.jq ∈ oh c) →
  Bx C T a (oK cs us ws f l (mm T) a n) (fun T' => ∀ c ∈ l, En c f T T')
 | [], T, a, n, h, _, _ => ⟨T, a, n, rfl, h, zG.refl _ _, fun _ hw => by cases hw⟩
 | c :: l, T, a, n, h, j, hm => by
  rw [oK]
  obtain ⟨T1, t, u, k, g1, x1, r⟩ := MU g i h cs us ws (hm c (by simp)).1 j (hm c (by simp)).2
  rw [k]
  simp only [aA]
  obtain ⟨T2, d, q, m, g2, x2, s⟩ := HN g i cs us ws l g1 (x1.mo _ j) (fun c p => hm c (by simp [p]))
  refine ⟨T2, d, q, m, g2, x1.trans x2, fun v b => ?_⟩
  rcases aR.1 b with rfl | b
  ·exact r.mono (fun _ h => h) x2.mo
  ·exact (s v b).mono x1.mo (fun _ h => h)
theorem D7 {C : List jr} (k : qv C) (t : rU C) (cs : List jr) (us : List (jq × List jr)) (ws : List (ByteArray × List jr)) {f : jJ} : ∀ (l : List jr) {T : oJ} {g : List jJ} {n : Int}, pX C T g n → f ∈ FS T → (∀ c ∈ l, c ∈ C ∧ c.Kind = 3 ∧ c.kF = f.jq.jy) →
  Bx C T g (nM f cs us ws l (mm T) g n) (fun T' => ∀ c ∈ l, (⟨c.B, f.jq.js⟩ : jJ) ∈ FS T → (⟨c.Head, f.ky⟩ : jJ) ∈ FS T')
 | [], T, g, n, h, _, _ => ⟨T, g, n, rfl, h, zG.refl _ _, fun _ hw => by cases hw⟩
 | c :: l, T, g, n, h, p, hm => by
  rw [nM]
  have hk := hm c (by simp)
  by_cases i : (⟨c.B, f.jq.js⟩ : jJ) ∈ FS T
  ·rw [bD ((sT h.keys _ _).2 i)]
   have q : f = ⟨⟨f.jq.js, c.kF⟩, f.ky⟩ := by rw [hk.2.2]
   have w : oG C ⟨c.Head, f.ky⟩ := .Gq c f.jq.js f.ky hk.1 hk.2.1 (h.xx _ i) (by rw [← q]; exact h.xx f p)
   obtain ⟨T1, z, A, u, g1, x1, y⟩ := BU k h cs us ws w
   rw [u]
   simp only [aA]
   obtain ⟨T2, d, r, j, g2, x2, s⟩ := D7 k t cs us ws l g1 (x1.mo _ p) (fun c m => hm c (by simp [m]))
   refine ⟨T2, d, r, j, g2, x1.trans x2, fun v b a => ?_⟩
   rcases aR.1 b with rfl | b
   ·exact x2.mo _ y
   ·exact s v b (x1.mo _ a)
  ·rw [bI (fun x => i ((sT h.keys _ _).1 x))]
   obtain ⟨T2, d, r, j, g2, x2, s⟩ := D7 k t cs us ws l h p (fun c m => hm c (by simp [m]))
   refine ⟨T2, d, r, j, g2, x2, fun v b a => ?_⟩
   rcases aR.1 b with rfl | b
   ·exact absurd a i
   ·exact s v b a
theorem Hv {C : List jr} (D : qv C) (E : rU C) {cs : List jr} {us : List (jq × List jr)} {ws : List (ByteArray × List jr)} (u : DH C us ws) : ∀ (m : Nat) {T : oJ} {l : List jJ} {n : Int}, pX C T l n → (∀ c ∈ C, ET c T l) → C.length * C.length + l.length < m + (FS T).length →
  ∃ T' I, nk cs us ws m (mm T) l n = some (mm T', [], I) ∧ pX C T' [] I ∧ (∀ c ∈ C, ET c T' []) ∧ (∀ f ∈ FS T, f ∈ FS T')
 | 0, T, l, n, h, _, hm => by have := h.len; omega
 | m + 1, T, [], n, h, q, hm => by
  rw [nk]
  exact ⟨T, n, rfl, h, q, fun _ h => h⟩
 | m + 1, T, f :: l, n, h, q, hm => by
  rw [nk]
  rw [bD (by simp)]
  have G : f ∈ FS T := h.sub f (by simp)
  have P := (dY.1 h.Kd)
  simp only [lE, Int.le_refl, aT, Int.toNat_zero, gA, aA]
  rw [show rV (decide ((0 : Nat) ≤ 1) && decide ((1 : Int) ≤ ((f :: l).length : Int))) = some () by simp [rV]; omega]
  simp only [aA, show Int.toNat 1 = 1 from rfl, List.drop_one, List.tail_cons]
  have F : pX C T l n := ⟨h.keys, h.nd, P.2, fun g y => h.sub g (by simp [y]), h.num, h.xx⟩
  obtain ⟨T1, Z, n1, L, g1, x1, W⟩ := HN D E cs us ws ((kV jP us f.jq).getD []) F G (fun c i => (u.Nw _ c).1 i)
  rw [L]
  simp only [aA]
  obtain ⟨T2, r, n2, M, g2, x2, Y⟩ := D7 D E cs us ws ((kV kQ ws f.jq.jy).getD []) g1 (x1.mo _ G) (fun c i => (u.word _ c).1 i)
  rw [M]
  simp only [aA]
  have x := x1.trans x2
  have mo : ∀ g, g ∈ FS T2 → g ∉ r → g ∈ FS T ∧ (g = f ∨ g ∉ f :: l) := fun g y z => by
   rcases x.new g y with h1 | h1
   ·refine ⟨h1, ?_⟩
    by_cases he : g = f
    ·exact .inl he
    ·exact .inr (fun t => by
      rcases aR.1 t with t | t
      ·exact he t
      ·exact z (x.todo g t))
   ·exact absurd h1 z
  have d1 : ∀ c ∈ C, f.jq ∈ oh c → En c f T T2 := fun c i Q => (W c ((u.Nw _ c).2 ⟨i, Q⟩)).mono (fun _ h => h) x2.mo
  have v : ∀ c ∈ C, ET c T2 r := fun c i => by
   have k := q c i
   refine ⟨fun hk => x.mo _ (k.1 hk), fun hk w a b => ?_, fun hk b w A a2 a3 a4 => ?_, fun hk w A a2 a3 a4 => ?_⟩
   ·obtain ⟨p, d⟩ := mo _ a b
    rcases d with d | d
    ·subst d; exact (d1 c i (by simp [oh, hk])).1 hk rfl
    ·exact x.mo _ (k.2.1 hk w p d)
   ·obtain ⟨p, d⟩ := mo _ A a2
    obtain ⟨s, j⟩ := mo _ a3 a4
    rcases d with d | d
    ·subst d; exact (d1 c i (by simp [oh, hk])).2.1 hk rfl w s
    ·rcases j with j | j
     ·subst j
      exact Y c ((u.word _ c).2 ⟨i, hk, rfl⟩) (x1.mo _ p)
     ·exact x.mo _ (k.2.2.1 hk b w p d s j)
   ·obtain ⟨p, d⟩ := mo _ A a2
    obtain ⟨s, j⟩ := mo _ a3 a4
    rcases d with d | d
    ·subst d; exact (d1 c i (by simp [oh, hk])).2.2 hk p s
    ·rcases j with j | j
     ·subst j; exact (d1 c i (by simp [oh, hk])).2.2 hk p s
     ·exact x.mo _ (k.2.2.2 hk w p d s j)
  have hlen : r.length + (FS T).length ≤ l.length + (FS T2).length := by
   exact g2.EX F x
  obtain ⟨T3, R, O, g3, J, U⟩ := Hv D E u m g2 v (by simp only [aO] at hm; omega)
  exact ⟨T3, R, O, g3, J, fun g y => U g (x.mo g y)⟩
end Go.Proofs.YtmlncblocfcmiaaGreat
namespace Go.Proofs.YtmlncblocfcmiaaGreat
open Go.RowKit
theorem Kl (c : jr) : ∀ (l : List jr) (i : Nat), ∃ z, pO c l i = some z ∧ (z ≥ 0 ↔ c ∈ l)
 | [], i => ⟨-1, rfl, by simp⟩
 | x :: l, i => by
  rw [pO]
  by_cases h : kh c x = true
  ·rw [bD h]
   exact ⟨_, rfl, by simp [mz.1 h]⟩
  ·rw [bI h]
   obtain ⟨z, e, b⟩ := Kl c l (i + 1)
   refine ⟨z, e, ?_⟩
   rw [b, aR]
   exact ⟨.inr, fun a => a.resolve_left (fun e => h (mz.2 e))⟩
theorem IV (c : jr) (l : List jr) : ∃ b, qK l c = some b ∧ (b = true ↔ c ∈ l) := by
 obtain ⟨z, e, a⟩ := Kl c l 0
 refine ⟨decide (z ≥ 0), ?_, by simpa using a⟩
 unfold qK rI vP
 rw [e]
 rfl
theorem Kj (c : jr) (ws : List (ByteArray × List jr)) (C : List jr) (hw : ∀ w, ((kV kQ ws w).getD []).length ≤ 2000000) : ∀ (i : List jq) (us : List (jq × List jr)), (∀ r, ((kV jP us r).getD []).length + i.length ≤ 4000000) →
  ∃ d g, og c ws C i us = some (C, d, g) ∧ (∀ r x, x ∈ (kV jP d r).getD [] ↔ x ∈ (kV jP us r).getD [] ∨ (x = c ∧ r ∈ i)) ∧
   (∀ w x, x ∈ (kV kQ g w).getD [] ↔ x ∈ (kV kQ ws w).getD [] ∨ (x = c ∧ c.Kind = 3 ∧ w = c.kF)) ∧ (∀ r, ((kV jP d r).getD []).length ≤ ((kV jP us r).getD []).length + i.length) ∧
   (∀ w, ((kV kQ g w).getD []).length ≤ ((kV kQ ws w).getD []).length + 1)
 | [], us, _ => by
  rw [og]
  by_cases j : c.Kind = 3
  ·rw [bD (by simp [j])]
   have h := hw c.kF
   rw [mA (by simp; omega) (by simp; omega)]
   simp only [aA]
   refine ⟨us, _, rfl, by simp, fun w x => ?_, by simp, fun w => ?_⟩
   ·rw [DW lZ]
    by_cases hk : kQ w c.kF = true
    ·rw [bD hk, lZ.1 hk]; simp [j]
    ·rw [bI hk]
     have : w ≠ c.kF := fun e => hk (lZ.2 e)
     simp [this]
   ·rw [DW lZ]
    by_cases hk : kQ w c.kF = true
    ·rw [bD hk, lZ.1 hk]; simp
    ·rw [bI hk]; exact iG _
  ·rw [bI (by simp [j])]
   exact ⟨us, ws, rfl, by simp, by simp [j], by simp, by simp⟩
 | a :: i, us, k => by
  rw [og]
  have h := k a
  simp only [aO] at h
  rw [mA (by simp; omega) (by simp; omega)]
  simp only [aA]
  have b : ∀ r, (kV jP (nU jP us a (((kV jP us a).getD []) ++ [c])) r).getD [] = if jP r a = true then ((kV jP us a).getD []) ++ [c] else (kV jP us r).getD [] := fun r => by
   rw [DW jQ]; by_cases hk : jP r a = true
   ·rw [bD hk, bD hk]; rfl
   ·rw [bI hk, bI hk]
  obtain ⟨d, g, e, l, a2, a3, a4⟩ := Kj c ws C hw i (nU jP us a (((kV jP us a).getD []) ++ [c])) (fun r => by
   rw [b r]
   have m := k r
   simp only [aO] at m
   by_cases hk : jP r a = true
   ·rw [bD hk]; simp; omega
   ·rw [bI hk]; omega)
  refine ⟨d, g, e, fun r x => ?_, a2, fun r => ?_, a4⟩
  ·rw [l, b]
   by_cases hk : jP r a = true
   ·rw [bD hk, jQ.1 hk]
    simp only [aV, aR, dR, gd]
    constructor
    ·rintro ((h | h) | h)
     ·exact .inl h
     ·exact .inr ⟨h, .inl trivial⟩
     ·exact .inr ⟨h.1, .inr h.2⟩
    ·rintro (h | h)
     ·exact .inl (.inl h)
     ·exact .inl (.inr h.1)
   ·rw [bI hk]
    have : r ≠ a := fun e => hk (jQ.2 e)
    simp [this]
  ·have := a3 r
   rw [b r] at this
   by_cases hk : jP r a = true
   ·rw [bD hk] at this; rw [jQ.1 hk] at this ⊢; simp at this ⊢; omega
   ·rw [bI hk] at this; simp; omega
theorem O1 {C : List jr} {us : List (jq × List jr)} {ws : List (ByteArray × List jr)} (g : DH C us ws) (p : C.length + 1 ≤ 1000000) {c : jr} (k : lC c = true) (i : List (jq × List (ByteArray × Bool))) (m : List jJ) (n : Int) :
  ∃ a b, sR i C us ws m n c = some (C ++ [c], a, b) ∧ DH (C ++ [c]) a b := by
 unfold sR
 rw [mA (by simp; omega) (by simp; omega)]
 simp only [aA, Qj k]
 rw [show rV (decide ((0 : Nat) ≤ 1) && decide ((1 : Int) ≤ ((c.Head :: oh c).length : Int))) = some () by simp [rV]; omega]
 simp only [aA, show Int.toNat 1 = 1 from rfl, List.drop_one, List.tail_cons]
 have l : (oh c).length ≤ 2 := by unfold oh; split; simp; split <;> simp
 obtain ⟨a, b, e, j, a2, a3, a4⟩ := Kj c ws (C ++ [c]) (fun w => by have := g.P8 w; omega) (oh c) us (fun r => by have := g.PR r; omega)
 refine ⟨a, b, e, fun r x => ?_, fun w x => ?_, fun r => ?_, fun w => ?_⟩
 ·rw [j, g.Nw, aV, bX]
  constructor
  ·rintro (h | h)
   ·exact ⟨.inl h.1, h.2⟩
   ·exact ⟨.inr h.1, by rw [h.1]; exact h.2⟩
  ·rintro ⟨h | h, d⟩
   ·exact .inl ⟨h, d⟩
   ·exact .inr ⟨h, by rw [← h]; exact d⟩
 ·rw [a2, g.word, aV, bX]
  constructor
  ·rintro (h | h)
   ·exact ⟨.inl h.1, h.2⟩
   ·exact ⟨.inr h.1, by rw [h.1]; exact ⟨h.2.1, h.2.2.symm⟩⟩
  ·rintro ⟨h | h, d⟩
   ·exact .inl ⟨h, d⟩
   ·subst h; exact .inr ⟨rfl, d.1, d.2.symm⟩
 ·have := a3 r; have := g.PR r; simp; omega
 ·have := a4 w; have := g.P8 w; simp; omega
structure MS (C : List jr) (T : oJ) (us : List (jq × List jr)) (ws : List (ByteArray × List jr)) (n : Int) : Prop where
 Dq : pX C T [] n
 cl : ∀ c ∈ C, ET c T []
 RE : DH C us ws
 right : rU C
theorem MS.all {C : List jr} {T : oJ} {us : List (jq × List jr)} {ws : List (ByteArray × List jr)} {n : Int} (h : MS C T us ws n) (f : jJ) : f ∈ FS T ↔ oG C f := by
 refine ⟨h.Dq.xx f, fun i => ?_⟩
 induction i with
 | mem c a hk => exact (h.cl c a).1 hk
 | inc c w a hk _ ih => exact (h.cl c a).2.1 hk w ih (by simp)
 | Gq c b w a hk _ _ d g => exact (h.cl c a).2.2.1 hk b w d (by simp) g (by simp)
 | both c w a hk _ _ d g => exact (h.cl c a).2.2.2 hk w d (by simp) g (by simp)
theorem Jp (q : Int) (y : 0 ≤ q ∧ q ≤ 1000000000000) : ∀ (l : List jr) {C : List jr} {T : oJ} {p : List jJ} {us : List (jq × List jr)} {ws : List (ByteArray × List jr)} {n : Int}, pX C T p n → (∀ c ∈ C, ET c T p) → DH C us ws → rU C → C.length + l.length ≤ 1000000 →
  ∃ C' T' a d j, nJ q l (mm T) C us ws p n = some (j - q, mm T', C', a, d, [], j) ∧ MS C' T' a d j ∧ (∀ c, c ∈ C' ↔ c ∈ C ∨ (c ∈ l ∧ lC c = true)) ∧ C'.length ≤ C.length + l.length ∧ (∀ f ∈ FS T, f ∈ FS T')
 | [], C, T, p, us, ws, n, g, i, t, r, I => by
  rw [nJ]
  have Q : qv C := by unfold qv; simp at I; omega
  have a6 := Q.sq
  have hlen := g.len
  have a7 := g.PT
  obtain ⟨T', j, e, D, U, o⟩ := Hv Q r t (cs := C) jY g i (by rw [wQ]; omega)
  unfold uv
  rw [e]
  simp only [aA]
  have J := D.len
  have R := D.num
  rw [kG (by omega) (by omega)]
  exact ⟨C, T', us, ws, j, rfl, ⟨D, U, t, r⟩, by simp, by simp, o⟩
 | x :: l, C, T, p, us, ws, n, g, i, t, r, I => by
  rw [nJ, wg]
  simp only [aO] at I
  obtain ⟨b, Z, u⟩ := IV x C
  simp only [aA, Z, CD]
  by_cases k : lC x = true ∧ x ∉ C
  ·have F : b = false := by cases b with | false => rfl | true => exact absurd (u.1 rfl) k.2
   rw [k.1, F]
   simp only [dK, iR, aT]
   obtain ⟨O, P, W, U1⟩ := O1 t (by omega) k.1 (mm T) p n
   rw [W]
   simp only [aA]
   have E : qv (C ++ [x]) := by unfold qv; simp; omega
   have s : rU (C ++ [x]) := fun c v => by
    rcases aV.1 v with h | h
    ·exact r c h
    ·simp at h; subst h; exact k.1
   have g1 : pX (C ++ [x]) T p n := g.mono (fun c v => cJ _ v)
   obtain ⟨T2, M, n2, Y, g2, x2, c2⟩ := NX E s g1 (C ++ [x]) O P (c := x) (by simp)
   rw [Y]
   simp only [aA]
   have w : ∀ c ∈ C ++ [x], ET c T2 M := fun c v => by
    rcases aV.1 v with h | h
    ·exact (i c h).ext x2
    ·simp at h; subst h; exact c2
   obtain ⟨C', T', a, d, j, e, m, A, a2, a3⟩ := Jp q y l g2 w U1 s (by simp; omega)
   refine ⟨C', T', a, d, j, e, m, fun c => ?_, by simp at a2 ⊢; omega, fun f G => a3 f (x2.mo f G)⟩
   rw [A]
   simp only [aV, aR, dR, gd]
   constructor
   ·rintro ((h | h) | h)
    ·exact .inl h
    ·subst h; exact .inr ⟨.inl rfl, k.1⟩
    ·exact .inr ⟨.inr h.1, h.2⟩
   ·rintro (h | ⟨h | h, z⟩)
    ·exact .inl (.inl h)
    ·exact .inl (.inr h)
    ·exact .inr ⟨h, z⟩
  ·have G : (lC x && !b) = false := by
    cases hr : lC x with
    | false => rfl
    | true =>
     have : x ∈ C := ft fun L => k ⟨hr, L⟩
     rw [u.2 this]; rfl
   rw [G]
   simp only [aC, aK]
   obtain ⟨C', T', a, d, j, e, m, A, a2, a3⟩ := Jp q y l g i t r (by omega)
   refine ⟨C', T', a, d, j, e, m, fun c => ?_, by simp; omega, a3⟩
   rw [A, aR]
   constructor
   ·rintro (h | h)
    ·exact .inl h
    ·exact .inr ⟨.inr h.1, h.2⟩
   ·rintro (h | ⟨h | h, z⟩)
    ·exact .inl h
    ·subst h
     exact .inl (ft fun L => k ⟨z, L⟩)
    ·exact .inr ⟨h, z⟩
theorem QD {C : List jr} {T : oJ} {us : List (jq × List jr)} {ws : List (ByteArray × List jr)} {n : Int} (h : MS C T us ws n) (l : List jr) (i : C.length + l.length ≤ 1000000) :
  ∃ C' T' a b d, tP (mm T) C us ws [] n l = some (d - n, mm T', C', a, b, [], d) ∧ MS C' T' a b d ∧ (∀ c, c ∈ C' ↔ c ∈ C ∨ (c ∈ l ∧ lC c = true)) ∧ C'.length ≤ C.length + l.length ∧ (∀ f ∈ FS T, f ∈ FS T') := by
 have g : qv C := by unfold qv; omega
 have h1 := h.Dq.len
 have j := g.sq
 have k := h.Dq.num
 exact Jp n ⟨by omega, by omega⟩ l h.Dq h.cl h.RE h.right i
theorem DH.zero : DH [] [] [] := ⟨fun r c => by simp [kV], fun w c => by simp [kV], fun r => by simp [kV], fun w => by simp [kV]⟩
theorem pX.zero : pX [] [] [] 0 := ⟨by simp, by simp [FS], by simp, by simp, by simp [FS], by simp [FS]⟩
theorem MS.zero : MS [] [] [] [] 0 := ⟨pX.zero, fun c a => (by cases a), DH.zero, fun c a => (by cases a)⟩
theorem Lr (l : List jr) (g : l.length ≤ 1000000) : ∃ C T us ws n, yC l = some (mm T, C, us, ws, [], n) ∧ MS C T us ws n ∧ (∀ c, c ∈ C ↔ c ∈ l ∧ lC c = true) ∧ C.length ≤ l.length := by
 unfold yC
 obtain ⟨C', T', a, b, h, e, m, d, a2, a3⟩ := QD MS.zero l (by simpa using g)
 rw [show tP [] [] [] [] [] 0 l = _ from e]
 exact ⟨C', T', a, b, h, rfl, m, by simpa using d, by simpa using a2⟩
theorem oG.congr {C C' : List jr} (h : ∀ c, c ∈ C ↔ c ∈ C') (f : jJ) : oG C f ↔ oG C' f := ⟨fun d => d.mono (fun c a => (h c).1 a), fun d => d.mono (fun c a => (h c).2 a)⟩
end Go.Proofs.YtmlncblocfcmiaaGreat
namespace Go.Proofs.YtmlncblocfcmiaaGreat
open Go.RowKit
def yL (a b : jJ) : Bool := Bn a.jq b.jq || (jP a.jq b.jq && pI a.ky b.ky)
theorem Am {a b : jJ} : yL a b = true ↔ Bn a.jq b.jq = true ∨ (a.jq = b.jq ∧ pI a.ky b.ky = true) := by simp [yL, jQ]
def Cp (_ : jJ) : Bool := true
theorem GB : zU (fun a b => yL a b = true) (fun x => Cp x = true) := by
 have H := QL (fun _ => True)
 refine ⟨fun x _ => ?_, fun x y z _ _ _ h1 d => ?_, fun x y _ _ => ?_⟩
 ·rw [Am]
  rintro (h | ⟨_, h⟩)
  ·exact H.irrefl _ trivial h
  ·rw [sS] at h; cases h
 ·rw [Am] at *
  rcases h1 with h1 | ⟨i, h1⟩
  ·rcases d with d | ⟨g, d⟩
   ·exact .inl (H.trans _ _ _ trivial trivial trivial h1 d)
   ·exact .inl (by rw [← g]; exact h1)
  ·rcases d with d | ⟨g, d⟩
   ·exact .inl (by rw [i]; exact d)
   ·exact .inr ⟨i.trans g, zD h1 d⟩
 ·simp only [Am]
  rcases H.total x.jq y.jq trivial trivial with h | h | h
  ·exact .inl (.inl h)
  ·rcases zH x.ky y.ky with d | d | d
   ·exact .inl (.inr ⟨h, d⟩)
   ·refine .inr (.inl ?_)
    cases x; cases y; simp at h d; simp [h, d]
   ·exact .inr (.inr (.inr ⟨h.symm, d⟩))
  ·exact .inr (.inr (.inl h))
theorem GK (a b : ByteArray) : oX a b = 0 ↔ a = b := by unfold oX; rw [E9]; exact ⟨zy, fun h => by rw [h]⟩
theorem Q2 (a b : ByteArray) : oX a b < 0 ↔ pI a b = true := by rw [xV]; exact BQ _ _
theorem LG (a b : jq) : ∃ c, rl a b = some c ∧ (c < 0 ↔ Bn a b = true) ∧ (c = 0 ↔ a = b) := by
 obtain ⟨c, e, h⟩ := Aa a b
 refine ⟨c, e, h, ?_⟩
 unfold rl at e
 simp only [pn, nt, aA, uN, sk, nA] at e
 by_cases d : oX a.js b.js = 0
 ·rw [bI (by simp [d])] at e
  have h1 := (GK _ _).1 d
  by_cases g : oX a.jy b.jy = 0
  ·rw [bI (by simp [g])] at e
   have i := (GK _ _).1 g
   cases e
   refine ⟨fun _ => ?_, fun _ => rfl⟩
   cases a; cases b; simp at h1 i; simp [h1, i]
  ·rw [bD (by simp [g])] at e
   cases e
   exact ⟨fun k => absurd k g, fun k => by rw [k] at g; exact absurd ((GK _ _).2 rfl) g⟩
 ·rw [bD (by simp [d])] at e
  cases e
  exact ⟨fun k => absurd k d, fun k => by rw [k] at d; exact absurd ((GK _ _).2 rfl) d⟩
theorem N3 (a b : jJ) : ∃ c, pJ a b = some c ∧ (c < 0 ↔ yL a b = true) := by
 unfold pJ
 obtain ⟨c, e, h1, i⟩ := LG a.jq b.jq
 rw [e]
 simp only [pn, nt, aA, uN, sk, nA]
 by_cases g : c = 0
 ·rw [bI (by simp [g])]
  have l := i.1 g
  have d : ¬ Bn a.jq b.jq = true := fun j => by have := h1.2 j; omega
  by_cases h : oX a.ky b.ky = 0
  ·rw [bI (by simp [h])]
   refine ⟨0, rfl, ?_⟩
   rw [Am]
   simp [d, (GK _ _).1 h, sS]
  ·rw [bD (by simp [h])]
   refine ⟨_, rfl, ?_⟩
   rw [Am, Q2]
   exact ⟨fun k => .inr ⟨l, k⟩, fun k => k.elim (fun k => absurd k d) (·.2)⟩
 ·rw [bD (by simp [g])]
  refine ⟨c, rfl, ?_⟩
  rw [Am, h1]
  have : a.jq ≠ b.jq := fun k => g (i.2 k)
  simp [this]
theorem J4 {α : Type} {eq : α → α → Bool} (he : ∀ x y, eq x y = true ↔ x = y) : ∀ (l : List α) (p : α), (p :: l).Nodup → mP eq p l = l
 | [], p, _ => rfl
 | y :: l, p, h => by
  have h1 := dY.1 h
  rw [mP, bI (fun e => h1.1 (by rw [← (he _ _).1 e]; simp)), J4 he l y h1.2]
theorem QQ {α : Type} {eq : α → α → Bool} (he : ∀ x y, eq x y = true ↔ x = y) : ∀ l : List α, l.Nodup → dd eq l = l
 | [], _ => rfl
 | x :: l, h => by rw [dd, J4 he l x h]
def AH (P : jJ → Prop) (s : List jJ) : Prop := s.Pairwise (fun a b => yL a b = true) ∧ ∀ f, f ∈ s ↔ P f
theorem AH.unique {P : jJ → Prop} {s t : List jJ} (h : AH P s) (k : AH P t) : s = t :=
 uW.unique (l := s) GB ⟨h.1, fun x => ⟨fun a => ⟨a, rfl⟩, fun a => a.1⟩⟩ ⟨k.1, fun x => by rw [k.2, h.2]; exact ⟨fun a => ⟨a, rfl⟩, fun a => a.1⟩⟩
theorem Gi {l : List jJ} (g : l.Nodup) (k : l.length ≤ 1000000000000) : ∃ s, zp (fun (x : jJ × jJ) => pJ x.1 x.2) l = some s ∧ AH (fun f => f ∈ l) s := by
 obtain ⟨s, h1, j, d⟩ := EO (eq := Ao) (lt := fun a b => yL a b = true) (P := fun x => Cp x = true) (cf := fun (x : jJ × jJ) => pJ x.1 x.2) (l := l) (fun x y => zj) GB (fun _ _ => rfl) (by omega) (fun x y _ _ => N3 x y)
 have i : s.Nodup := by
  have := (FY h1).2
  rw [this]
  unfold tD
  exact (ir l _).nodup_iff.2 g
 rw [QQ (fun x y => zj) s i] at d
 exact ⟨s, h1, d.1, fun f => by rw [d.2]; exact ⟨fun h => h.1, fun h => ⟨h, rfl⟩⟩⟩
theorem ON (T : oJ) : (mm T).flatMap (fun p => p.2.map (fun q => (fun (a : jq) (b : ByteArray) => (⟨a, b⟩ : jJ)) p.1 q.1)) = FS T := by
 unfold mm FS tt
 rw [List.flatMap_map]
 congr 1
 funext p
 simp [fV]
theorem N6 {C : List jr} (j : qv C) {T : oJ} {us : List (jq × List jr)} {ws : List (ByteArray × List jr)} {n : Int} (h : MS C T us ws n) (cs : List jr) (u : List (jq × List jr)) (w : List (ByteArray × List jr)) (l : List jJ) (z : Int) :
  ∃ s, vS (mm T) cs u w l z = some s ∧ AH (oG C) s := by
 have k := j.sq
 have hlen := h.Dq.len
 obtain ⟨s, m, i⟩ := Gi h.Dq.nd (by omega)
 have g : AH (oG C) s := ⟨i.1, fun f => (i.2 f).trans (h.all f)⟩
 refine ⟨s, ?_, g⟩
 unfold vS ME
 rw [ON]
 rw [bD ⟨by omega, by unfold maxLen; omega⟩]
 simp only [aA, nA]
 refine FJ (fun o b => ?_)
 obtain ⟨p, d, a⟩ := Gi ((b.nodup_iff).2 h.Dq.nd) (by rw [b.length_eq]; omega)
 rw [d]
 congr 1
 exact AH.unique ⟨a.1, fun f => (a.2 f).trans (b.mem_iff.trans (h.all f))⟩ g
theorem Ov (r : jq) (w : ByteArray) : ∀ l : List jJ, ∃ b, vx r w l = some b ∧ (b = true ↔ (⟨r, w⟩ : jJ) ∈ l)
 | [] => ⟨false, rfl, by simp⟩
 | x :: l => by
  rw [vx]
  simp only [CD, aA]
  obtain ⟨b, e, g⟩ := Ov r w l
  by_cases h : (jP x.jq r && kQ x.ky w) = true
  ·rw [bD h]
   have a : x = ⟨r, w⟩ := by
    rw [bF, jQ, lZ] at h
    cases x; simp at h; simp [h]
   exact ⟨true, rfl, by simp [a]⟩
  ·rw [bI h]
   refine ⟨b, e, ?_⟩
   rw [g, aR]
   refine ⟨.inr, fun d => d.resolve_left (fun e => h ?_)⟩
   rw [← e]; simp [wx, uT]
theorem yX (l : List jJ) (r : jq) (w : ByteArray) : ∃ b, uo l r w = some b ∧ (b = true ↔ (⟨r, w⟩ : jJ) ∈ l) := Ov r w l
def wP (l : List jJ) (c : jr) (names : List ByteArray) (w : ByteArray) : Prop :=
 (c.Kind = 1 ∧ c.ky = w) ∨ (c.Kind = 2 ∧ (⟨c.B, w⟩ : jJ) ∈ l) ∨ (c.Kind = 4 ∧ (⟨c.B, w⟩ : jJ) ∈ l ∧ (⟨c.C, w⟩ : jJ) ∈ l) ∨
 (c.Kind ≠ 1 ∧ c.Kind ≠ 2 ∧ c.Kind ≠ 4 ∧ ∃ b ∈ names, (⟨c.B, b⟩ : jJ) ∈ l ∧ (⟨⟨b, c.kF⟩, w⟩ : jJ) ∈ l)
theorem GJ (l : List jJ) (c : jr) (w : ByteArray) : ∀ names : List ByteArray, ∃ b, uq l c w names = some b ∧ (b = true ↔ ∃ b ∈ names, (⟨c.B, b⟩ : jJ) ∈ l ∧ (⟨⟨b, c.kF⟩, w⟩ : jJ) ∈ l)
 | [] => ⟨false, rfl, by simp⟩
 | x :: names => by
  rw [uq]
  obtain ⟨g, j, h1⟩ := yX l c.B x
  obtain ⟨i, k, d⟩ := yX l ⟨x, c.kF⟩ w
  obtain ⟨b, e, m⟩ := GJ l c w names
  rw [j, k, e]
  simp only [aA, CD]
  by_cases h : (g && i) = true
  ·rw [bD h]
   rw [bF, h1, d] at h
   exact ⟨true, rfl, by simp [h]⟩
  ·rw [bI h]
   rw [bF, h1, d] at h
   refine ⟨b, rfl, ?_⟩
   rw [m]
   constructor
   ·rintro ⟨y, a, q⟩; exact ⟨y, by simp [a], q⟩
   ·rintro ⟨y, a, q⟩
    rcases aR.1 a with rfl | a
    ·exact absurd q h
    ·exact ⟨y, a, q⟩
theorem O2 (l : List jJ) (c : jr) (names : List ByteArray) (w : ByteArray) : ∃ b, yG l c names w = some b ∧ (b = true ↔ wP l c names w) := by
 unfold yG wP
 simp only [nA]
 by_cases h1 : c.Kind = 1
 ·rw [bD (by simp [h1])]; exact ⟨_, rfl, by simp [h1, lZ]⟩
 rw [bI (by simp [h1])]
 by_cases a : c.Kind = 2
 ·rw [bD (by simp [a])]
  obtain ⟨b, e, g⟩ := yX l c.B w
  exact ⟨b, e, by simp [a, g]⟩
 rw [bI (by simp [a])]
 by_cases d : c.Kind = 4
 ·rw [bD (by simp [d])]
  obtain ⟨m, j, h⟩ := yX l c.B w
  obtain ⟨n, k, i⟩ := yX l c.C w
  rw [j, k]
  simp only [aA, CD]
  exact ⟨_, rfl, by simp [d, h, i]⟩
 rw [bI (by simp [d])]
 obtain ⟨b, e, g⟩ := GJ l c w names
 exact ⟨b, e, by rw [g]; simp [h1, a, d]⟩
theorem wP.xx {C : List jr} {l : List jJ} (a : ∀ f ∈ l, oG C f) {c : jr} (d : c ∈ C) (hk : c.Kind = 1 ∨ c.Kind = 2 ∨ c.Kind = 3 ∨ c.Kind = 4) {names : List ByteArray} {w : ByteArray} (h : wP l c names w) : oG C ⟨c.Head, w⟩ := by
 rcases h with ⟨k, rfl⟩ | ⟨k, h⟩ | ⟨k, h1, g⟩ | ⟨i, j, m, b, _, h1, g⟩
 ·exact .mem c d k
 ·exact .inc c w d k (a _ h)
 ·exact .both c w d k (a _ h1) (a _ g)
 ·exact .Gq c b w d (by omega) (a _ h1) (a _ g)
theorem Lh {c : jr} (h : lC c = true) : c.Kind = 1 ∨ c.Kind = 2 ∨ c.Kind = 3 ∨ c.Kind = 4 := by rcases oB h with h | h | h | h <;> simp [h.1]
structure DR (C : List jr) (out : List jJ) : Prop where
 nd : out.Nodup
 xx : ∀ f ∈ out, oG C f
theorem DR.len {C : List jr} {out : List jJ} (h : DR C out) : out.length ≤ C.length * C.length := by
 rw [← Cx]; exact mi h.nd (fun f a => (h.xx f a).ES)
theorem FA {C : List jr} (s : qv C) (t : rU C) {c : jr} (m : c ∈ C) (names : List ByteArray) : ∀ (l : List ByteArray) (out : List jJ) (i : Bool), DR C out →
  ∃ g d, tW c names l out i = some (g, d) ∧ DR C g ∧ (d = true → i = true ∨ out.length < g.length) ∧ (d = false → i = false ∧ g = out ∧ ∀ w ∈ l, wP out c names w → (⟨c.Head, w⟩ : jJ) ∈ out) ∧ out.length ≤ g.length
 | [], out, i, h => ⟨out, i, rfl, h, .inl, fun h => ⟨h, rfl, fun _ hw => by cases hw⟩, aY _⟩
 | w :: l, out, i, h => by
  rw [tW]
  obtain ⟨y, E, h1⟩ := yX out c.Head w
  obtain ⟨D, F, z⟩ := O2 out c names w
  rw [E, F]
  simp only [aA, CD]
  by_cases j : (!y && D) = true
  ·rw [bD j]
   rw [bF] at j
   have u : (⟨c.Head, w⟩ : jJ) ∉ out := fun I => by have := h1.2 I; rw [this] at j; exact absurd j.1 (by decide)
   have L := h.len
   have J := s.sq
   rw [mA (by simp; omega) (by simp; omega)]
   simp only [aA]
   have G : DR C (out ++ [⟨c.Head, w⟩]) := ⟨bY.2 ⟨h.nd, by simp, fun a ha b j e => by simp at j; subst j; subst e; exact u ha⟩, fun f k => by
    rcases aV.1 k with k | k
    ·exact h.xx f k
    ·simp at k; subst k; exact (z.1 j.2).xx h.xx m (Lh (t c m))⟩
   obtain ⟨g, d, e, n, a2, a3, a4⟩ := FA s t m names l _ true G
   simp at a4
   exact ⟨g, d, e, n, fun _ => .inr (by omega), fun k => (by cases (a3 k).1), by omega⟩
  ·rw [bI j]
   obtain ⟨g, d, e, n, a2, a3, a4⟩ := FA s t m names l out i h
   refine ⟨g, d, e, n, a2, fun k => ?_, a4⟩
   obtain ⟨p, q, r⟩ := a3 k
   refine ⟨p, q, fun v x A => ?_⟩
   rcases aR.1 x with rfl | x
   ·refine ft fun u => j ?_
    rw [bF, z.2 A]
    cases y with
    | false => exact ⟨rfl, rfl⟩
    | true => exact absurd (h1.1 rfl) u
   ·exact r v x A
theorem Iy {C : List jr} (m : qv C) (n : rU C) (names : List ByteArray) : ∀ (l : List jr) (out : List jJ) (a : Bool), (∀ c ∈ l, c ∈ C) → DR C out →
  ∃ b g, vm names l out a = some (b, g) ∧ DR C b ∧ (g = true → a = true ∨ out.length < b.length) ∧ (g = false → a = false ∧ b = out ∧ ∀ c ∈ l, ∀ w ∈ names, wP out c names w → (⟨c.Head, w⟩ : jJ) ∈ out) ∧ out.length ≤ b.length
 | [], out, a, _, h => ⟨out, a, rfl, h, .inl, fun h => ⟨h, rfl, fun _ hw => by cases hw⟩, aY _⟩
 | c :: l, out, a, p, h => by
  rw [vm]
  obtain ⟨x, c1, u, q, a2, a3, a4⟩ := FA m n (p c (by simp)) names names out a h
  rw [u]
  simp only [aA]
  obtain ⟨y, c2, v, r, s, t, I⟩ := Iy m n names l x c1 (fun d i => p d (by simp [i])) q
  refine ⟨y, c2, v, r, fun j => ?_, fun j => ?_, by omega⟩
  ·rcases s j with h1 | h1
   ·rcases a2 h1 with k | k
    ·exact .inl k
    ·exact .inr (by omega)
   ·exact .inr (by omega)
  ·obtain ⟨z, A, D⟩ := t j
   obtain ⟨E, F, G⟩ := a3 z
   subst F
   refine ⟨E, A, fun d i => ?_⟩
   rcases aR.1 i with rfl | i
   ·exact G
   ·exact D d i
end Go.Proofs.YtmlncblocfcmiaaGreat
namespace Go.Proofs.YtmlncblocfcmiaaGreat
open Go.RowKit
def zF : jJ := ⟨⟨zS, zS⟩, zS⟩
theorem JA (a b : jJ) : tu a b = some (yL a b) := by
 unfold tu yL
 simp only [A4, aA, CD, Qn]
def Qf (a : List jJ) (b : Int) (p : Bool × jJ) : Prop := (p.1 = false ∧ b = -1) ∨ (p.1 = true ∧ 0 ≤ b ∧ lE a b = some p.2)
theorem Bi (out a : List jJ) (i : out.length < 4611686018427387904) : ∀ (rest A : List jJ) (b : Int) (p : Bool × jJ), a = A ++ rest → Qf a b p →
  ∃ d, oH out a rest A.length b = some d ∧ Qf a d (qW Cp yL out.getLast? rest p.1 p.2)
 | [], A, b, p, ha, j => ⟨b, rfl, j⟩
 | x :: rest, A, b, p, ha, j => by
  rw [oH, qW]
  simp only [Cp, ej]
  have h1 : ((if ((out.length : Int) == 0) = true then some true else (lE out (IntKind.i64.wrap ((out.length : Int) - 1))).bind fun y => (tu y x).bind fun r => some r) : Option Bool) = some (out.getLast?.all fun y => yL y x) := by
   rcases dD out with h | ⟨B, z, h⟩
   ·subst h; rfl
   ·subst h
    rw [bI (by simp; omega)]
    rw [eo] at i ⊢
    rw [Fe B z (by simp at i; omega)]
    simp [JA]
  have n : ((if decide (b < 0) = true then some true else (lE a b).bind fun y => (tu x y).bind fun r => some r) : Option Bool) = some (!p.1 || yL x p.2) := by
   rcases j with ⟨k, l⟩ | ⟨k, l, m⟩
   ·rw [bD (by simp [l]), k]; rfl
   ·rw [bI (by simpa using l), m, k]
    simp [JA]
  rw [h1]
  simp only [aA]
  rw [n]
  simp only [aA, CD]
  have q : lE a (A.length : Int) = some x := by rw [ha]; exact mJ A x rest _ rfl
  by_cases g : ((out.getLast?.all fun y => yL y x) && (!p.1 || yL x p.2)) = true
  ·rw [bD g, bD g]
   have := Bi out a i rest (A ++ [x]) (A.length : Int) (true, x) (by rw [ha]; simp) (.inr ⟨rfl, by simp, q⟩)
   simpa using this
  ·rw [bI g, bI g]
   have := Bi out a i rest (A ++ [x]) b p (by rw [ha]; simp) j
   simpa using this
theorem EY {out a : List jJ} (g : out.length < 4611686018427387904) (h : (qW Cp yL out.getLast? a false zF).1 = false) : ∀ EX : List jJ, oE a EX out = some out
 | [] => rfl
 | x :: EX => by
  rw [oE]
  obtain ⟨b, e, j⟩ := Bi out a g a [] (-1) (false, zF) rfl (.inl ⟨rfl, rfl⟩)
  rw [show oH out a a 0 (-1) = some b from e]
  simp only [aA]
  rcases j with ⟨_, i⟩ | ⟨d, _⟩
  ·rw [bI (by simp [i])]; exact EY g h EX
  ·rw [h] at d; cases d
theorem Hs (a : List jJ) : ∀ (EX : List jJ) (out s : List jJ), zJ 48 Cp yL zF a (EX.length + 1) out = some s → s.length < 4611686018427387904 → oE a EX out = some s ∧ out.length ≤ s.length
 | [], out, s, h, j => by
  rw [zJ] at h
  cases hp : (qW Cp yL out.getLast? a false zF).1 with
  | false =>
   rw [hp] at h
   simp only [dK, aT] at h
   cases h
   exact ⟨rfl, aY _⟩
  | true =>
   rw [hp] at h
   simp only [cK, aC, aK] at h
   obtain ⟨o, d, h⟩ := bind_some h
   replace h : zJ 48 Cp yL zF a 0 o = some s := h
   rw [zJ] at h
   cases h
 | x :: EX, out, s, h, j => by
  rw [zJ] at h
  cases hp : (qW Cp yL out.getLast? a false zF).1 with
  | false =>
   rw [hp] at h
   simp only [dK, aT] at h
   cases h
   exact ⟨EY j hp _, aY _⟩
  | true =>
   rw [hp] at h
   simp only [cK, aC, aK] at h
   obtain ⟨o, d, h⟩ := bind_some h
   have i := d
   unfold mu at d
   split at d
   case isFalse => cases d
   cases d
   obtain ⟨n, p⟩ := Hs a EX _ s h j
   simp at p
   rw [oE]
   obtain ⟨b, e, m⟩ := Bi out a (by omega) a [] (-1) (false, zF) rfl (.inl ⟨rfl, rfl⟩)
   rw [show oH out a a 0 (-1) = some b from e]
   simp only [aA]
   rcases m with ⟨g, _⟩ | ⟨g, k, l⟩
   ·rw [hp] at g; cases g
   ·rw [bD (by simpa using k), l]
    simp only [aA]
    rw [i]
    exact ⟨n, by omega⟩
theorem Mb (l : List jJ) (d : l.length ≤ 1000000000) : ∃ s, yQ l = some s ∧ AH (fun f => f ∈ l) s := by
 obtain ⟨s, h1, a⟩ := A0 GB (w := 48) (by omega) zF l d (l.length + 1) [] (by simp) (by simp) (fun x b => by cases b) (fun x _ _ => .inr rfl)
 have hlen : s.length ≤ l.length := mi (uw GB (fun _ _ => rfl) a.1) (fun x b => ((a.2 x).1 b).1)
 exact ⟨s, (Hs l l [] s h1 (by omega)).1, a.1, fun f => by rw [a.2]; exact ⟨fun h => h.1, fun h => ⟨h, rfl⟩⟩⟩
theorem I9 : ∀ (l : List jr) (acc : List ByteArray), acc.length + 4 * l.length ≤ 1000000000 → rp l acc = zm (acc ++ l.flatMap fun c => [c.ky, c.Head.js, c.B.js, c.C.js])
 | [], acc, _ => by rw [rp]; simp [nA]
 | c :: l, acc, h => by
  rw [rp]
  simp only [aO] at h
  rw [mA (by simp; omega) (by simp; omega)]
  simp only [aA]
  rw [I9 l _ (by simp; omega)]
  simp
def SM (C : List jr) : Prop := C.length ≤ 30000
theorem SM.small {C : List jr} (h : SM C) : qv C := by unfold SM at h; unfold qv; omega
theorem SM.sq {C : List jr} (h : SM C) : C.length * C.length ≤ 900000000 := Nat.mul_le_mul h h
theorem NC {C : List jr} (b : SM C) (g : rU C) : ∃ names, xJ C = some names ∧ ∀ c ∈ C, c.Kind = 1 → c.ky ∈ names := by
 have d : C.length ≤ 30000 := b
 unfold xJ
 rw [I9 C [] (by simp; omega)]
 obtain ⟨s, e, i⟩ := Pq ([] ++ C.flatMap fun c => [c.ky, c.Head.js, c.B.js, c.C.js]) (by
  have : ∀ l : List jr, (l.flatMap fun c => [c.ky, c.Head.js, c.B.js, c.C.js]).length = 4 * l.length := fun l => by
   induction l with
   | nil => rfl
   | cons x l ih => simp [ih]; omega
  rw [aZ, this]; omega)
 refine ⟨s, e, fun c a hk => (i.2 _).2 ⟨?_, ?_⟩⟩
 ·rw [aZ]; exact iY.2 ⟨c, a, by simp⟩
 ·rcases oB (g c a) with h | h | h | h
  ·exact h.2.1
  ·exact absurd (hk.symm.trans h.1) (by decide)
  ·exact absurd (hk.symm.trans h.1) (by decide)
  ·exact absurd (hk.symm.trans h.1) (by decide)
theorem Lg {C : List jr} (n : rU C) {names : List ByteArray} (l : ∀ c ∈ C, c.Kind = 1 → c.ky ∈ names) {out : List jJ} (h : ∀ c ∈ C, ∀ w ∈ names, wP out c names w → (⟨c.Head, w⟩ : jJ) ∈ out) {f : jJ} (k : oG C f) : f ∈ out := by
 have hw : ∀ f, oG C f → f.ky ∈ names := fun f k => by
  obtain ⟨c, a, hk, e⟩ := k.Km
  rw [← e]; exact l c a hk
 induction k with
 | mem c a hk => exact h c a _ (l c a hk) (.inl ⟨hk, rfl⟩)
 | inc c w a hk m ih => exact h c a w (hw _ m) (.inr (.inl ⟨hk, ih⟩))
 | Gq c b w a hk d j g i => exact h c a w (hw _ j) (.inr (.inr (.inr ⟨by omega, by omega, by omega, b, hw _ d, g, i⟩)))
 | both c w a hk d j g i => exact h c a w (hw _ d) (.inr (.inr (.inl ⟨hk, g, i⟩)))
theorem Jr {C : List jr} (a : SM C) (b : rU C) {names : List ByteArray} (g : ∀ c ∈ C, c.Kind = 1 → c.ky ∈ names) : ∀ (m : Nat) (out : List jJ), DR C out → C.length * C.length < m + out.length →
  ∃ s, tX names C m out = some s ∧ AH (oG C) s
 | 0, out, h, hm => by have := h.len; omega
 | m + 1, out, h, hm => by
  rw [tX]
  obtain ⟨o, c, e, i, a2, a3, a4⟩ := Iy a.small b names C out false (fun _ h => h) h
  rw [e]
  simp only [aA, nA]
  cases c with
  | false =>
   simp only [dK, aT]
   obtain ⟨_, j, k⟩ := a3 rfl
   subst j
   have p := h.len
   have n := a.sq
   obtain ⟨s, l, d⟩ := Mb o (by omega)
   exact ⟨s, l, d.1, fun f => (d.2 f).trans ⟨h.xx f, Lg b g k⟩⟩
  | true =>
   simp only [cK, aC, aK]
   rcases a2 rfl with h1 | h1
   ·cases h1
   ·exact Jr a b g m o i (by omega)
theorem Pp (l : List jr) (p : l.length ≤ 30000) : ∃ C s, wZ l = some s ∧ AH (oG C) s ∧ ∀ c, c ∈ C ↔ c ∈ l ∧ lC c = true := by
 unfold wZ
 obtain ⟨C, e, b⟩ := G9 l (by omega)
 have hlen := Aw Bl b
 have a : SM C := by unfold SM; omega
 have d : rU C := fun c j => ((b.2 c).1 j).2
 obtain ⟨names, g, m⟩ := NC a d
 rw [e]
 simp only [aA]
 rw [g]
 simp only [aA]
 have n := a.sq
 obtain ⟨s, h, i⟩ := Jr a d m jY [] ⟨by simp, fun f k => by cases k⟩ (by rw [wQ]; simp; omega)
 exact ⟨C, s, h, i, b.2⟩
theorem Bu (w : ByteArray) : ∀ (l : List jJ) (acc : List jq), acc.length + l.length ≤ 1000000000 → pW w l acc = some (acc ++ (l.filter fun f => kQ f.ky w).map (·.jq))
 | [], acc, _ => by rw [pW]; simp
 | x :: l, acc, h => by
  rw [pW]
  simp only [aO] at h
  by_cases a : kQ x.ky w = true
  ·rw [bD a, mA (by simp; omega) (by simp; omega)]
   simp only [aA]
   rw [Bu w l _ (by simp; omega)]
   simp [a]
  ·rw [bI a, Bu w l acc (by omega)]
   simp [a]
end Go.Proofs.YtmlncblocfcmiaaGreat
namespace Go.Proofs.YtmlncblocfcmiaaGreat
open Go.RowKit
theorem Po {P : jJ → Prop} {s t : List jJ} (h : AH P s) (b : ∀ f, P f → f ∈ t) : s.length ≤ t.length := mi (uw GB (fun _ _ => rfl) h.1) (fun f a => b f ((h.2 f).1 a))
theorem OD {C : List jr} {s : List jJ} (h : AH (oG C) s) (a : SM C) : s.length ≤ 900000000 := by
 have := Po h (t := ES C) (fun f b => b.ES)
 rw [Cx] at this
 have := a.sq
 omega
theorem MZ {C : List jr} {T : oJ} {us : List (jq × List jr)} {ws : List (ByteArray × List jr)} {n : Int} (h : MS C T us ws n) (cs : List jr) (u : List (jq × List jr)) (w : List (ByteArray × List jr)) (a : List jJ) (z : Int) (r : jq) (Km : ByteArray) :
  ∃ b, vj (mm T) cs u w a z r Km = some b ∧ (b = true ↔ oG C ⟨r, Km⟩) :=
 ⟨_, rfl, by rw [sT h.Dq.keys, h.all]⟩
def qA : jq := ⟨⟨#[97]⟩, ⟨#[114]⟩⟩
def qB : jq := ⟨⟨#[98]⟩, ⟨#[115]⟩⟩
def qd : ByteArray := ⟨#[100]⟩
def j1 : jr := ⟨2, qA, zS, qB, ⟨zS, zS⟩, zS⟩
def j2 : jr := ⟨1, qB, qd, ⟨zS, zS⟩, ⟨zS, zS⟩, zS⟩
end Go.Proofs.YtmlncblocfcmiaaGreat
namespace Go.Proofs.YtmlncblocfcmiaaGreat
open Go.RowKit
theorem wP.own {l : List jJ} {c : jr} {names : List ByteArray} {w : ByteArray} (h : wP l c names w) : wP l c (l.map (·.ky)) w := by
 rcases h with h | h | h | ⟨d, g, i, b, _, a, j⟩
 ·exact .inl h
 ·exact .inr (.inl h)
 ·exact .inr (.inr (.inl h))
 ·exact .inr (.inr (.inr ⟨d, g, i, b, bL.2 ⟨_, a, rfl⟩, a, j⟩))
theorem wP.subset {a b : List jJ} {c : jr} {names : List ByteArray} {w : ByteArray} (h : wP a c names w) (d : ∀ f ∈ a, f ∈ b) : wP b c names w := by
 rcases h with h | h | h | ⟨i, j, k, g, l, m, n⟩
 ·exact .inl h
 ·exact .inr (.inl ⟨h.1, d _ h.2⟩)
 ·exact .inr (.inr (.inl ⟨h.1, d _ h.2.1, d _ h.2.2⟩))
 ·exact .inr (.inr (.inr ⟨i, j, k, g, l, d _ m, d _ n⟩))
end Go.Proofs.YtmlncblocfcmiaaGreat
namespace Go.Proofs.YtmlncblocfcmiaaGreat
open Go.RowKit
def tot {α : Type} (a : List (List α)) : Nat := (a.map List.length).sum
end Go.Proofs.YtmlncblocfcmiaaGreat
namespace Go.Proofs.YtmlncblocfcmiaaGreat
open Go.RowKit
def up (w : ByteArray) (g : ByteArray → Nat) : ByteArray → Nat := fun x => if kQ w x = true then g x + 1 else g x
end Go.Proofs.YtmlncblocfcmiaaGreat
namespace Go.Proofs.YtmlncblocfcmiaaGreat
open Go.RowKit
theorem Pw (F : List jJ) (w : ByteArray) (a : F.length ≤ 1000000000) : vG F w = some ((F.filter fun f => kQ f.ky w).map (·.jq)) := by
 unfold vG
 rw [Bu w F [] (by simp; omega)]
 simp
end Go.Proofs.YtmlncblocfcmiaaGreat
namespace Go.Proofs.YtmlncblocfcmiaaGreat
open Go.RowKit
instance decRole : DecidableEq jq := fun a b => decidable_of_iff (jP a b = true) jQ
def IA (F : List jJ) (w : ByteArray) : List jq := (F.filter fun f => kQ f.ky w).map (·.jq)
structure PH (l : List jr) (F : List jJ) : Prop where
 len : l.length ≤ 30000
 C : ∃ C : List jr, AH (oG C) F ∧ (∀ c, c ∈ C ↔ c ∈ l ∧ lC c = true) ∧ SM C
 ref : wZ l = some F
theorem PL (l : List jr) (g : l.length ≤ 30000) : ∃ F, PH l F := by
 obtain ⟨C, F, e, h1, h⟩ := Pp l g
 obtain ⟨C1, T, us, ws, n, i, m1, a, d⟩ := Lr l (by omega)
 have b : ∀ c, c ∈ C ↔ c ∈ C1 := fun c => by rw [h, a]
 exact ⟨F, g, ⟨C1, ⟨h1.1, fun f => (h1.2 f).trans (oG.congr b f)⟩, a, by unfold SM; omega⟩, e⟩
theorem PH.RT {l : List jr} {F : List jJ} (h : PH l F) : F.length ≤ 900000000 := by
 obtain ⟨C, h1, b, a⟩ := h.C
 exact OD h1 a
end Go.Proofs.YtmlncblocfcmiaaGreat
namespace Go.Proofs.YtmlncblocfcmiaaGreat
open Go.RowKit
def B8 (l : List Int) : Prop := ∀ x ∈ l, 0 ≤ x ∧ x < 256
end Go.Proofs.YtmlncblocfcmiaaGreat
namespace Go.Proofs.YtmlncblocfcmiaaGreat
open Go.RowKit
def Lb : List ByteArray → List Key → Int
 | _, [] => 0
 | seen, k :: l => if nr k.ky = false then 30 else if k.Key.length < 1 ∨ 32 < k.Key.length then 21 else if mr kQ seen k.ky = true then 41 else Lb (seen ++ [k.ky]) l
def M8 (l : List Key) : List (ByteArray × List Int) := l.map fun k => (k.ky, k.Key)
def Ns (l : List Key) (o : ByteArray) : Option (List Int) := kV kQ (M8 l) o
theorem PV {l : List Int} (h : l.length ≤ 1000000) : tY l = some l := by
 unfold tY
 rw [FB (by simpa using h)]; rfl
theorem Kq : ∀ (l : List Key) (seen : List ByteArray), Lb seen l = 0 → ∀ k ∈ l, 1 ≤ k.Key.length ∧ k.Key.length ≤ 32
 | [], _, _, _, hk => by cases hk
 | x :: l, seen, h, k, hk => by
  unfold Lb at h
  split at h
  ·cases h
  split at h
  ·cases h
  split at h
  ·cases h
  rcases aR.1 hk with rfl | hk
  ·omega
  ·exact Kq l _ h k hk
theorem Fq : ∀ (l : List Key) (o : ByteArray) (b : List Int), Ns l o = some b → ∃ k ∈ l, k.Key = b
 | [], o, b, h => by cases h
 | x :: l, o, b, h => by
  unfold Ns at h
  rw [show M8 (x :: l) = (x.ky, x.Key) :: M8 l from rfl, Bp] at h
  split at h
  ·cases h; exact ⟨x, by simp, rfl⟩
  ·obtain ⟨k, hk, e⟩ := Fq l o b h
   exact ⟨k, by simp [hk], e⟩
def K8 (l : List Key) : Prop := ∀ k ∈ l, B8 k.Key
structure Mk (ks : List Key) (c : jr) (k : List Int) : Prop where
 ok : Lb [] ks = 0
 rt : lC c = true
 lk : Ns ks c.Head.js = some k
theorem Mk.len {ks : List Key} {c : jr} {k : List Int} (h : Mk ks c k) : 1 ≤ k.length ∧ k.length ≤ 32 := by
 obtain ⟨q, a, rfl⟩ := Fq _ _ _ h.lk
 exact Kq ks [] h.ok q a
theorem Mk.b8 {ks : List Key} {c : jr} {k : List Int} (h : Mk ks c k) (hk : K8 ks) : B8 k := by
 obtain ⟨q, a, rfl⟩ := Fq _ _ _ h.lk
 exact hk q a
theorem Mk.unique {ks : List Key} {c : jr} {k k' : List Int} (h : Mk ks c k) (a : Mk ks c k') : k = k' := by
 have := h.lk; rw [a.lk] at this; cases this; rfl
end Go.Proofs.YtmlncblocfcmiaaGreat
namespace Go.Proofs.YtmlncblocfcmiaaGreat
open Go.RowKit
def S8 (l : List Signed) : Prop := ∀ s ∈ l, B8 s.Tag
end Go.Proofs.YtmlncblocfcmiaaGreat
namespace Go.Proofs.YtmlncblocfcmiaaGreat
open Go.RowKit
theorem Fi (b : List jr) (x : jr) : rI b x = some (mr kh b x) := by
 obtain ⟨q, e, h⟩ := IV x b
 unfold qK at e
 rw [nA] at e
 rw [e, show q = mr kh b x from by rw [bU, h, sD mz]]
structure N5 (l : List jr) (F : List jJ) : Prop where
 len : F.length ≤ 900000000
 ref : wZ l = some F
 RV : ∃ m, yC l = some m ∧ vS m.1 m.2.1 m.2.2.1 m.2.2.2.1 m.2.2.2.2.1 m.2.2.2.2.2 = some F ∧ ∀ r w, vj m.1 m.2.1 m.2.2.1 m.2.2.2.1 m.2.2.2.2.1 m.2.2.2.2.2 r w = some (mr Ao F ⟨r, w⟩)
 xx : ∀ C : List jr, (∀ c, c ∈ C ↔ c ∈ l ∧ lC c = true) → AH (oG C) F
theorem RI (l : List jr) (v : l.length ≤ 30000) : ∃ F, N5 l F := by
 obtain ⟨F, h⟩ := PL l v
 refine ⟨F, h.RT, h.ref, ?_, fun C s => ?_⟩
 ·obtain ⟨C, h1, d, q⟩ := h.C
  obtain ⟨C1, T, us, ws, n, m, m1, g, j⟩ := Lr l (by omega)
  have a : ∀ c, c ∈ C1 ↔ c ∈ C := fun c => by rw [d, g]
  have k : AH (oG C1) F := ⟨h1.1, fun f => (h1.2 f).trans (oG.congr a f).symm⟩
  have t : SM C1 := by unfold SM; omega
  refine ⟨_, m, ?_, fun r w => ?_⟩
  ·obtain ⟨F1, p, i⟩ := N6 t.small m1 C1 us ws [] n
   rw [← i.unique k]; exact p
  ·obtain ⟨b, e, u⟩ := MZ m1 C1 us ws [] n r w
   rw [e, show b = mr Ao F ⟨r, w⟩ from by rw [bU, u, sD zj, k.2]]
 ·obtain ⟨C', h1, d, q⟩ := h.C
  have a : ∀ c, c ∈ C' ↔ c ∈ C := fun c => by rw [d, s]
  exact ⟨h1.1, fun f => (h1.2 f).trans (oG.congr a f)⟩
end Go.Proofs.YtmlncblocfcmiaaGreat
namespace Go.Proofs.YtmlncblocfcmiaaGreat
open Go.RowKit
section
variable {α : Type}
structure SWO (lt : α → α → Bool) : Prop where
 Oo : ∀ x, lt x x = false
 tr : ∀ x y z, lt x y = true → lt y z = true → lt x z = true
 Mn : ∀ x y z, lt x z = true → lt x y = true ∨ lt y z = true
variable {lt : α → α → Bool}
theorem SWO.asym (h : SWO lt) {x y : α} (a : lt x y = true) : lt y x = false := by
 cases e : lt y x
 ·rfl
 ·have := h.tr _ _ _ a e; rw [h.Oo] at this; cases this
def tl (lt : α → α → Bool) (p q : α × Nat) : Prop := lt p.1 q.1 = true ∨ (lt q.1 p.1 = false ∧ p.2 < q.2)
theorem Cw (h : SWO lt) {p q r : α × Nat} (a : tl lt p q) (b : tl lt q r) : tl lt p r := by
 unfold tl at *
 rcases a with a | ⟨a, a2⟩ <;> rcases b with b | ⟨b, d⟩
 ·exact .inl (h.tr _ _ _ a b)
 ·rcases h.Mn _ r.1 _ a with c | c
  ·exact .inl c
  ·rw [b] at c; cases c
 ·rcases h.Mn _ p.1 _ b with c | c
  ·rw [a] at c; cases c
  ·exact .inl c
 ·refine .inr ⟨?_, by omega⟩
  cases e : lt r.1 p.1
  ·rfl
  ·rcases h.Mn _ q.1 _ e with c | c
   ·rw [b] at c; cases c
   ·rw [a] at c; cases c
theorem Pg (h : SWO lt) {p q : α × Nat} (a : tl lt p q) (b : tl lt q p) : False := by
 have c := Cw h a b
 rcases c with c | ⟨_, c⟩
 ·rw [h.Oo] at c; cases c
 ·omega
abbrev ob (lt : α → α → Bool) (t : List (α × Nat)) : Prop := t.Pairwise (tl lt)
theorem FZ (h : SWO lt) : ∀ {t u : List (α × Nat)}, ob lt t → ob lt u → t.Perm u → t = u
 | [], u, _, _, hp => by rw [List.nil_perm] at hp; exact hp.symm
 | p :: t, [], _, _, hp => by simp at hp
 | p :: t, q :: u, h1, b, hp => by
  have e : p = q := by
   rcases aR.1 (hp.mem_iff.1 (.head _)) with e | d
   ·exact e
   ·rcases aR.1 (hp.mem_iff.2 (.head _)) with e | a
    ·exact e.symm
    ·exact (Pg h ((cI.1 h1).1 _ a) ((cI.1 b).1 _ d)).elim
  subst e
  rw [FZ h (cI.1 h1).2 (cI.1 b).2 (List.Perm.cons_inv hp)]
def Ax (lt : α → α → Bool) (l : List α) (k : α) : List α := l.filter (fun x => !lt k x) ++ k :: l.filter (fun x => lt k x)
def IL (lt : α → α → Bool) (l : List α) : List α := l.foldl (Ax lt) []
def Fa (lt : α → α → Bool) (t : List (α × Nat)) (k : α × Nat) : List (α × Nat) := t.filter (fun x => !lt k.1 x.1) ++ k :: t.filter (fun x => lt k.1 x.1)
theorem Ny (t : List (α × Nat)) (k : α × Nat) : (Fa lt t k).map (·.1) = Ax lt (t.map (·.1)) k.1 := by
 simp [Fa, Ax, List.filter_map, fV]
theorem LU (t : List (α × Nat)) (k : α × Nat) : (Fa lt t k).Perm (t ++ [k]) := by
 unfold Fa
 refine List.perm_middle.trans ?_
 refine (List.Perm.cons _ ?_).trans (gh k t).symm
 have := List.filter_append_perm (fun x : α × Nat => !lt k.1 x.1) t
 simpa using this
theorem Nl (h : SWO lt) {t : List (α × Nat)} {k : α × Nat} (i : ob lt t) (hk : ∀ x ∈ t, x.2 < k.2) : ob lt (Fa lt t k) := by
 unfold Fa ob
 rw [cV, cI]
 refine ⟨i.filter _, ⟨fun x b => ?_, i.filter _⟩, fun x b y d => ?_⟩
 ·exact .inl (cM.1 b).2
 ·obtain ⟨h1, g⟩ := cM.1 b
  simp only [fZ, ] at g
  have a : tl lt x k := .inr ⟨g, hk x h1⟩
  rcases aR.1 d with rfl | d
  ·exact a
  ·exact Cw h a (.inl (cM.1 d).2)
theorem Q4 (h : SWO lt) (l : List α) : ∃ t, ob lt t ∧ t.Perm l.zipIdx ∧ t.map (·.1) = IL lt l := by
 suffices H : ∀ (l r : List α) (t : List (α × Nat)), ob lt t → t.Perm r.zipIdx → ∃ u, ob lt u ∧ u.Perm (r ++ l).zipIdx ∧ u.map (·.1) = l.foldl (Ax lt) (t.map (·.1)) by
  obtain ⟨u, h1, d, i⟩ := H l [] [] .nil (by simp)
  exact ⟨u, h1, by simpa using d, i⟩
 intro l
 induction l with
 | nil => intro r t h1 d; exact ⟨t, h1, by simpa using d, rfl⟩
 | cons k l ih =>
  intro r t h1 d
  obtain ⟨u, g, a2, a3⟩ := ih (r ++ [k]) (Fa lt t (k, r.length)) (Nl h h1 (fun x j => by
   obtain ⟨a, b⟩ := x
   have := List.snd_lt_of_mem_zipIdx (d.mem_iff.1 j)
   simpa using this)) ((LU t _).trans (by rw [List.zipIdx_append]; simpa using d.append_right _))
  refine ⟨u, g, by simpa using a2, ?_⟩
  rw [a3, Ny]
  rfl
theorem Pt (h : SWO lt) {l : List α} {t : List (α × Nat)} (h1 : ob lt t) (b : t.Perm l.zipIdx) : t.map (·.1) = IL lt l := by
 obtain ⟨u, a, a2, a3⟩ := Q4 h l
 rw [← a3, FZ h h1 a (b.trans a2.symm)]
end
end Go.Proofs.YtmlncblocfcmiaaGreat
namespace Go.Proofs.YtmlncblocfcmiaaGreat
open Go.RowKit
section
variable {α : Type} {lt : α → α → Bool}
abbrev Lk (lt : α → α → Bool) (A B : List (α × Nat)) : Prop := ∀ A' a b B', A = A' ++ [a] → B = b :: B' → tl lt a b
theorem zw (h : SWO lt) {A B : List (α × Nat)} (k : ob lt A) (m : ob lt B) (l : Lk lt A B) : ∀ a ∈ A, ∀ b ∈ B, tl lt a b := by
 intro a ha b d
 rcases dD A with rfl | ⟨A', z, rfl⟩
 ·cases ha
 cases B with
 | nil => cases d
 | cons y B' =>
  have h1 : tl lt z y := l A' z y B' (by simp) rfl
  have g : a = z ∨ tl lt a z := by
   simp only [eo, aV, bX] at ha
   rcases ha with ha | ha
   ·refine .inr ?_
    simp only [eo, ob, cV] at k
    exact k.2.2 a ha z (by simp)
   ·exact .inl ha
  have i : b = y ∨ tl lt y b := by
   rcases aR.1 d with d | d
   ·exact .inl d
   ·exact .inr ((cI.1 m).1 b d)
  have j : tl lt a y := by
   rcases g with rfl | g
   ·exact h1
   ·exact Cw h g h1
  rcases i with rfl | i
  ·exact j
  ·exact Cw h j i
theorem I5 (h : SWO lt) {A B : List (α × Nat)} (a : ob lt A) (b : ob lt B) (l : Lk lt A B) : ob lt (A ++ B) :=
 cV.2 ⟨a, b, zw h a b l⟩
theorem ob.left {A B : List (α × Nat)} (h : ob lt (A ++ B)) : ob lt A := (cV.1 h).1
theorem ob.right {A B : List (α × Nat)} (h : ob lt (A ++ B)) : ob lt B := (cV.1 h).2.1
theorem ob.two {A B : List (α × Nat)} (h : ob lt (A ++ B)) : ∀ a ∈ A, ∀ b ∈ B, tl lt a b := (cV.1 h).2.2
theorem Hl (h : SWO lt) {A B : List (α × Nat)} {x : α × Nat} (g : ob lt (A ++ B)) (j : Lk lt A [x]) (k : Lk lt [x] B) : ob lt (A ++ x :: B) := by
 have h1 := zw h g.left (gC _ x) j
 have i := zw h (gC _ x) g.right k
 refine cV.2 ⟨g.left, cI.2 ⟨fun b d => i x (by simp) b d, g.right⟩, fun a ha b d => ?_⟩
 rcases aR.1 d with rfl | d
 ·exact h1 a ha _ (by simp)
 ·exact g.two a ha b d
theorem O5 (h : SWO lt) {A1 A2 B1 B2 C1 C2 : List (α × Nat)} (g : ob lt (A1 ++ A2)) (i : ob lt (B1 ++ B2)) (k : Lk lt A1 B2) (l : Lk lt B1 A2) (m : C1.Perm (A1 ++ B1)) (n : C2.Perm (A2 ++ B2)) (h1 : ob lt C1) (j : ob lt C2) : ob lt (C1 ++ C2) := by
 have x1 := zw h g.left i.right k
 have x2 := zw h i.left g.right l
 refine cV.2 ⟨h1, j, fun a ha b d => ?_⟩
 rcases aV.1 (m.mem_iff.1 ha) with ha | ha <;> rcases aV.1 (n.mem_iff.1 d) with d | d
 ·exact g.two a ha b d
 ·exact x1 a ha b d
 ·exact x2 a ha b d
 ·exact i.two a ha b d
end
section
variable {α : Type}
theorem Eu (p q : List α) (x y : α) : (p ++ x :: q).set p.length y = p ++ y :: q := by simp
theorem Jt (p q : List α) (x y : α) (n : Nat) (h : n = p.length) : (p ++ x :: q).set n y = p ++ y :: q := by subst h; simp
theorem FC (p m q : List α) (x y : α) : ((p ++ x :: (m ++ y :: q)).set p.length y).set (p.length + 1 + m.length) x = p ++ y :: (m ++ x :: q) := by
 rw [Eu]
 have : p ++ y :: (m ++ y :: q) = (p ++ y :: m) ++ y :: q := by simp
 rw [this, show p.length + 1 + m.length = (p ++ y :: m).length by simp; omega, Eu]
 simp
theorem Mu (p m q : List α) (x y : α) : ((p ++ x :: (m ++ y :: q)).set (p.length + 1 + m.length) x).set p.length y = p ++ y :: (m ++ x :: q) := by
 rw [List.set_comm _ _ (by omega), FC]
theorem wF {l : List α} {n : Nat} (h : n ≤ l.length) : ∃ a b, l = a ++ b ∧ a.length = n := ⟨l.take n, l.drop n, (fq n l).symm, by simp [h]⟩
end
end Go.Proofs.YtmlncblocfcmiaaGreat
namespace Go.Proofs.YtmlncblocfcmiaaGreat
open Go.RowKit
section
variable {c : Formula → Formula → Int} {G : Formula → Prop} {f : Formula × Formula → Option Int}
theorem KR (x : Formula) : (⟨x.Op, x.K, x.jq, x.Kids⟩ : Formula) = x := by cases x; rfl
abbrev nq (c : Formula → Formula → Int) (x y : Formula) : Bool := decide (c x y < 0)
abbrev B3 (f : Formula × Formula → Option Int) (c : Formula → Formula → Int) (G : Formula → Prop) : Prop := ∀ x y, G x → G y → f (x, y) = some (c x y)
theorem RK (u : B3 f c G) (pre : List Formula) (x : Formula) (w : G x) : ∀ (k : Nat) (P S : List Formula) (n : Nat) (j a : Int), P.length = k → k < n → (∀ y ∈ P, G y) → (pre ++ (P ++ x :: S)).length ≤ 1000000 → j = ((pre.length + P.length : Nat) : Int) → a = (pre.length : Int) →
  ∃ P1 P2, P = P1 ++ P2 ∧ lH a f n (pre ++ (P ++ x :: S)) j = some (pre ++ (P1 ++ x :: (P2 ++ S))) ∧ (∀ P' z, P1 = P' ++ [z] → nq c x z = false) ∧ (∀ y P', P2 = y :: P' → nq c x y = true) := by
 intro k
 induction k with
 | zero =>
  intro P S n j a hk v d l h ha
  obtain rfl := aU hk
  obtain ⟨n, rfl⟩ := aS (by omega : n ≠ 0)
  refine ⟨[], [], rfl, ?_, by simp, by simp⟩
  rw [lH]
  have : ¬ (j > a) := by rw [h, ha]; simp
  simp [this]
 | succ k ih =>
  intro P S n j a hk v d l h ha
  rcases dD P with rfl | ⟨P', z, rfl⟩
  ·simp at hk
  simp only [eo, aF, aO, bW] at hk h l d ⊢
  obtain ⟨n, rfl⟩ := aS (by omega : n ≠ 0)
  have i : j > a := by omega
  have m : pre ++ (P' ++ [z] ++ x :: S) = (pre ++ P') ++ z :: x :: S := by simp
  have hw : IntKind.i64.wrap (j - 1) = ((pre.length + P'.length : Nat) : Int) := by rw [kG (by omega) (by omega)]; omega
  have i1 : lE ((pre ++ P') ++ z :: x :: S) j = some x := by
   rw [show (pre ++ P') ++ z :: x :: S = (pre ++ P' ++ [z]) ++ x :: S by simp]
   exact mJ _ _ _ _ (by simp; omega)
  have i2 : lE ((pre ++ P') ++ z :: x :: S) ((pre.length + P'.length : Nat) : Int) = some z := mJ _ _ _ _ (by simp)
  have D : G z := d z (by simp)
  have t : ∀ y ∈ P', G y := fun y A => d y (by simp [A])
  have F : j.toNat = pre.length + P'.length + 1 := by omega
  rw [lH, m]
  simp only [i, cA, aT, i1, hw, i2, aA, u x z w D]
  by_cases g : c x z < 0
  ·simp only [g, cA, aT]
   have s1 : ((pre ++ P') ++ z :: x :: S).set j.toNat z = (pre ++ P') ++ z :: z :: S := by
    have := Jt (pre ++ P' ++ [z]) S x z j.toNat (by simp; omega)
    simpa only [aP, gO, bR, aZ] using this
   have s2 : ((pre ++ P') ++ z :: z :: S).set (pre.length + P'.length) x = (pre ++ P') ++ x :: z :: S := by
    exact Jt (pre ++ P') (z :: S) z x _ (by simp)
   have i3 : lE ((pre ++ P') ++ z :: z :: S) ((pre.length + P'.length : Nat) : Int) = some z := mJ _ _ _ _ (by simp)
   rw [s1, i3, aA, dJ, KR, s2]
   have p : (pre ++ P') ++ x :: z :: S = pre ++ (P' ++ x :: (z :: S)) := by simp
   obtain ⟨P1, P2, h1, q, r, s⟩ := ih P' (z :: S) n ((pre.length + P'.length : Nat) : Int) a (by omega) (by omega) t (by simp; omega) rfl ha
   rw [p, q]
   refine ⟨P1, P2 ++ [z], by rw [h1]; simp, by simp, r, ?_⟩
   intro y Q b
   cases P2 with
   | nil =>
    simp only [aZ, bA] at b
    rw [← b.1]; simp [nq, g]
   | cons E P2 =>
    simp only [bR, bA] at b
    rw [← b.1]; exact s E P2 rfl
  ·simp only [g, cD, aC, aK]
   refine ⟨P' ++ [z], [], by simp, by simp, ?_, by simp⟩
   intro Q y b
   have := List.append_inj' b rfl
   simp only [bA, dN] at this
   rw [← this.2]; simp [nq, g]
theorem Oe (h : SWO (nq c)) (I : B3 f c G) (pre post : List Formula) (a b : Int) (ha : a = (pre.length : Int)) : ∀ (S t : List (Formula × Nat)) (n : Nat) (i : Int),
  S.length < n → ob (nq c) t → (∀ x ∈ t, ∀ y ∈ S, x.2 < y.2) → S.Pairwise (fun x y => x.2 < y.2) → (∀ x ∈ t ++ S, G x.1) → (pre ++ (t.map (·.1) ++ (S.map (·.1) ++ post))).length ≤ 1000000 →
  i = ((pre.length + t.length : Nat) : Int) → b = ((pre.length + t.length + S.length : Nat) : Int) →
  ∃ u, lm b a f n (pre ++ (t.map (·.1) ++ (S.map (·.1) ++ post))) i = some (pre ++ (u.map (·.1) ++ post)) ∧ ob (nq c) u ∧ u.Perm (t ++ S)
 | [], t, n, i, D, E, h1, F, r, A, J, v => by
  obtain ⟨n, rfl⟩ := aS (by simp at D; omega : n ≠ 0)
  rw [lm]
  simp only [bW] at v
  have : ¬ (i < b) := by omega
  simp only [this, cD, aC, aK]
  exact ⟨t, by simp, E, by simp⟩
 | s :: S, t, n, i, D, E, h1, F, r, A, J, v => by
  simp only [aO] at D v
  obtain ⟨n, rfl⟩ := aS (by omega : n ≠ 0)
  rw [lm]
  have w : i < b := by omega
  simp only [w, cA, aT]
  have k := A
  simp only [aF, dA, aO] at k
  obtain ⟨P1, P2, O, P, Q, R⟩ := RK I pre s.1 (r s (by simp)) (t.map (·.1)).length (t.map (·.1)) (S.map (·.1) ++ post) jY i a rfl (by rw [mc]; simp; omega)
   (fun y m => by obtain ⟨p, hp, rfl⟩ := bL.1 m; exact r p (by simp [hp])) (by simpa using A) (by simp; omega) ha
  simp only [bP, bR]
  rw [P, aA]
  obtain ⟨t1, t2, rfl, L, M⟩ := List.map_eq_append_iff.1 O
  have hlen : t1.length + t2.length = (t1 ++ t2).length := by simp
  have hw : IntKind.i64.wrap (i + 1) = ((pre.length + (t1 ++ s :: t2).length : Nat) : Int) := by rw [kG (by omega) (by omega)]; simp at J ⊢; omega
  rw [hw]
  have l : ob (nq c) (t1 ++ s :: t2) := Hl h E
   (fun A' z b B' j q => by
    simp only [bA] at q
    rw [← q.1]
    refine .inr ⟨Q (A'.map (·.1)) z.1 (by rw [← L, j]; simp), h1 z (by rw [j]; simp) s (by simp)⟩)
   (fun A' z b B' j q => by
    have U : z = s := by
     cases A' with
     | nil => simpa using j.symm
     | cons _ A' => simp at j
    rw [U]
    exact .inl (R b.1 (B'.map (·.1)) (by rw [← M, q]; simp)))
  have g := cI.1 F
  have T : pre ++ (P1 ++ s.1 :: (P2 ++ (S.map (·.1) ++ post))) = pre ++ ((t1 ++ s :: t2).map (·.1) ++ (S.map (·.1) ++ post)) := by rw [← L, ← M]; simp
  rw [T]
  obtain ⟨u, W, Y, Z⟩ := Oe h I pre post a b ha S (t1 ++ s :: t2) n _ (by omega) l
   (fun x d y m => by
    rcases aV.1 d with d | d
    ·exact h1 x (by simp [d]) y (by simp [m])
    ·rcases aR.1 d with rfl | d
     ·exact g.1 y m
     ·exact h1 x (by simp [d]) y (by simp [m]))
   g.2 (fun x d => r x (by
    simp only [aV, aR] at d ⊢
    rcases d with (d | d | d) | d
    ·exact .inl (.inl d)
    ·exact .inr (.inl d)
    ·exact .inl (.inr d)
    ·exact .inr (.inr d))) (by simp at k ⊢; omega) rfl (by simp at v ⊢; omega)
  refine ⟨u, W, Y, Z.trans ?_⟩
  simp only [aP, bR]
  exact cE t1 (List.perm_middle.symm)
theorem Ki (h : SWO (nq c)) (p : B3 f c G) (pre post : List Formula) (S : List (Formula × Nat)) (a b : Int) (l : S.Pairwise (fun x y => x.2 < y.2)) (m : ∀ x ∈ S, G x.1) (k : (pre ++ (S.map (·.1) ++ post)).length ≤ 1000000) (ha : a = (pre.length : Int)) (j : b = ((pre.length + S.length : Nat) : Int)) :
  ∃ u, mV (pre ++ (S.map (·.1) ++ post)) a b f = some (pre ++ (u.map (·.1) ++ post)) ∧ ob (nq c) u ∧ u.Perm S := by
 unfold mV
 have g := k
 simp only [aF, dA] at g
 cases S with
 | nil =>
  refine ⟨[], ?_, .nil, .nil⟩
  obtain ⟨n, q⟩ := aS (by rw [mc]; omega : jY ≠ 0)
  rw [q, lm]
  have : ¬ (IntKind.i64.wrap (a + 1) < b) := by rw [kG (by omega) (by omega)]; simp at j; omega
  simp [this]
 | cons s S =>
  simp only [aO] at j g
  have d := cI.1 l
  obtain ⟨u, t, v, w⟩ := Oe h p pre post a b ha S [s] jY (IntKind.i64.wrap (a + 1)) (by rw [mc]; omega) (gC _ _) (fun x i y r => by simp at i; rw [i]; exact d.1 y r) d.2
   (fun x i => m x (by simpa using i)) (by simp at k ⊢; omega) (by rw [kG (by omega) (by omega)]; simp; omega) (by simp; omega)
  exact ⟨u, by simpa using t, v, by simpa using w⟩
end
end Go.Proofs.YtmlncblocfcmiaaGreat
namespace Go.Proofs.YtmlncblocfcmiaaGreat
open Go.RowKit
section
variable {c : Formula → Formula → Int} {G : Formula → Prop} {f : Formula × Formula → Option Int}
theorem np {x : Int} (n : Nat) (h : x = (n : Int)) (a : n ≤ 4000000) : IntKind.i64.wrap x = (n : Int) := by rw [h, kG (by omega) (by omega)]
theorem PM (p m q : List Formula) (a b N : Int) : ∀ (k : Nat) (X1 X2 Y1 Y2 : List Formula) (n : Nat) (i : Int), X2.length = k → Y2.length = k → X1.length = Y1.length → k < n → (p ++ (Y1 ++ (X2 ++ (m ++ (X1 ++ (Y2 ++ q)))))).length ≤ 1000000 →
  i = (X1.length : Int) → N = ((X1.length + k : Nat) : Int) → a = (p.length : Int) → b = ((p.length + X1.length + k + m.length : Nat) : Int) →
  lU N b a n (p ++ (Y1 ++ (X2 ++ (m ++ (X1 ++ (Y2 ++ q)))))) i = some (p ++ ((Y1 ++ Y2) ++ (m ++ ((X1 ++ X2) ++ q)))) := by
 intro k
 induction k with
 | zero =>
  intro X1 X2 Y1 Y2 n i h1 d u w r v j ha l
  obtain rfl := aU h1
  obtain rfl := aU d
  obtain ⟨n, rfl⟩ := aS (by omega : n ≠ 0)
  rw [lU]
  have : ¬ (i < N) := by omega
  simp [this]
 | succ k ih =>
  intro X1 X2 Y1 Y2 n i h1 d u w r v j ha l
  cases X2 with
  | nil => simp at h1
  | cons x X2 =>
  cases Y2 with
  | nil => simp at d
  | cons y Y2 =>
  simp only [aO, Nat.add_right_cancel_iff] at h1 d
  obtain ⟨n, rfl⟩ := aS (by omega : n ≠ 0)
  have h := r
  simp only [aF, aO] at h
  have g : i < N := by omega
  have z : IntKind.i64.wrap (b + i) = (((p ++ Y1).length + 1 + (X2 ++ (m ++ X1)).length : Nat) : Int) := np _ (by simp; omega) (by simp; omega)
  have A : IntKind.i64.wrap (a + i) = ((p ++ Y1).length : Int) := np _ (by simp; omega) (by simp; omega)
  have D : IntKind.i64.wrap (i + 1) = ((X1 ++ [x]).length : Int) := np _ (by simp; omega) (by simp; omega)
  have s : p ++ (Y1 ++ (x :: X2 ++ (m ++ (X1 ++ (y :: Y2 ++ q))))) = (p ++ Y1) ++ x :: ((X2 ++ (m ++ X1)) ++ y :: (Y2 ++ q)) := by simp
  have i1 : lE ((p ++ Y1) ++ x :: ((X2 ++ (m ++ X1)) ++ y :: (Y2 ++ q))) (((p ++ Y1).length + 1 + (X2 ++ (m ++ X1)).length : Nat) : Int) = some y := by
   have := mJ ((p ++ Y1) ++ x :: (X2 ++ (m ++ X1))) y (Y2 ++ q) (((p ++ Y1).length + 1 + (X2 ++ (m ++ X1)).length : Nat) : Int) (by simp; omega)
   simpa using this
  have i2 : lE ((p ++ Y1) ++ x :: ((X2 ++ (m ++ X1)) ++ y :: (Y2 ++ q))) ((p ++ Y1).length : Int) = some x := mJ _ _ _ _ rfl
  rw [lU, s]
  simp only [g, cA, aT, z, A, i1, i2, aA, dJ, D]
  have i3 : lE (((p ++ Y1) ++ x :: ((X2 ++ (m ++ X1)) ++ y :: (Y2 ++ q))).set (p ++ Y1).length y) (((p ++ Y1).length + 1 + (X2 ++ (m ++ X1)).length : Nat) : Int) = some y := by
   rw [Eu]
   have := mJ ((p ++ Y1) ++ y :: (X2 ++ (m ++ X1))) y (Y2 ++ q) (((p ++ Y1).length + 1 + (X2 ++ (m ++ X1)).length : Nat) : Int) (by simp; omega)
   simpa using this
  rw [i3, aA, KR, FC]
  have t : (p ++ Y1) ++ y :: ((X2 ++ (m ++ X1)) ++ x :: (Y2 ++ q)) = p ++ ((Y1 ++ [y]) ++ (X2 ++ (m ++ ((X1 ++ [x]) ++ (Y2 ++ q))))) := by simp
  rw [t, ih (X1 ++ [x]) X2 (Y1 ++ [y]) Y2 n _ h1 d (by simp; omega) (by omega) (by simp; omega) rfl (by rw [j]; simp; omega) ha (by rw [l]; simp; omega)]
  simp
theorem Ll (p m q X Y : List Formula) (a b N : Int) (h : X.length = Y.length) (g : (p ++ (X ++ (m ++ (Y ++ q)))).length ≤ 1000000) (i : N = (X.length : Int)) (ha : a = (p.length : Int)) (j : b = ((p.length + X.length + m.length : Nat) : Int)) :
  mM (p ++ (X ++ (m ++ (Y ++ q)))) a b N f = some (p ++ (Y ++ (m ++ (X ++ q)))) := by
 unfold mM
 have d := g
 simp only [aF] at d
 have := PM p m q a b N X.length [] X [] Y jY 0 rfl h.symm rfl (by rw [mc]; omega) (by simpa using g) rfl (by simpa using i) ha (by rw [j]; simp)
 simpa using this
theorem QK (M : Int) : ∀ (k : Nat) (A B p q : List Formula) (n : Nat) (i j : Int), A.length + B.length ≤ k → 0 < A.length → 0 < B.length → k < n → (p ++ (A ++ (B ++ q))).length ≤ 1000000 → i = (A.length : Int) → j = (B.length : Int) → M = ((p.length + A.length : Nat) : Int) →
  ml M f n (p ++ (A ++ (B ++ q))) i j = some (p ++ (B ++ (A ++ q))) := by
 intro k
 induction k with
 | zero => intro A B p q n i j h h1 u; omega
 | succ k ih =>
  intro A B p q n i j h h1 u G x b m v
  obtain ⟨n, rfl⟩ := aS (by omega : n ≠ 0)
  have a := x
  simp only [aF] at a
  rw [ml]
  by_cases he : A.length = B.length
  ·have : (i != j) = false := by rw [b, m, he]; simp
   simp only [this, aC, aK]
   have d : IntKind.i64.wrap (M - i) = (p.length : Int) := np _ (by omega) (by omega)
   have := Ll (f := f) p [] q A B (p.length : Int) M i he (by simpa using x) b rfl (by rw [v]; simp)
   simp only [aZ] at this
   rw [d, this]; rfl
  ·have r : (i != j) = true := by rw [b, m]; simp; omega
   simp only [r, aT]
   by_cases w : i > j
   ·simp only [w, cA, aT]
    obtain ⟨X, Y, rfl, F⟩ := wF (l := A) (n := B.length) (by omega)
    simp only [aF] at b h v a
    have d : IntKind.i64.wrap (M - i) = (p.length : Int) := np _ (by omega) (by omega)
    have s := Ll (f := f) p Y q X B (p.length : Int) M j (by omega) (by simp; omega) (by omega) rfl (by omega)
    have g : p ++ (X ++ Y ++ (B ++ q)) = p ++ (X ++ (Y ++ (B ++ q))) := by simp
    have t : IntKind.i64.wrap (i - j) = (Y.length : Int) := np _ (by omega) (by omega)
    rw [g, d, s, aA, t]
    have y : p ++ (B ++ (Y ++ (X ++ q))) = (p ++ B) ++ (Y ++ (X ++ q)) := by simp
    rw [y, ih Y X (p ++ B) q n _ j (by omega) (by omega) (by omega) (by omega) (by simp; omega) rfl (by omega) (by simp; omega)]
    simp
   ·simp only [w, cD, aC, aK]
    obtain ⟨Z, V, rfl, z⟩ := wF (l := B) (n := B.length - A.length) (by omega)
    simp only [aF] at m h a z u he
    have d : IntKind.i64.wrap (M - i) = (p.length : Int) := np _ (by omega) (by omega)
    have D : IntKind.i64.wrap (M + j) = ((p.length + A.length + (Z.length + V.length) : Nat) : Int) := np _ (by omega) (by omega)
    have E : IntKind.i64.wrap (((p.length + A.length + (Z.length + V.length) : Nat) : Int) - i) = ((p.length + A.length + Z.length : Nat) : Int) := np _ (by omega) (by omega)
    have s := Ll (f := f) p Z q A V (p.length : Int) ((p.length + A.length + Z.length : Nat) : Int) i (by omega) (by simp; omega) b rfl rfl
    have g : p ++ (A ++ (Z ++ V ++ q)) = p ++ (A ++ (Z ++ (V ++ q))) := by simp
    have t : IntKind.i64.wrap (j - i) = (Z.length : Int) := np _ (by omega) (by omega)
    rw [g, d, D, E, s, aA, t]
    rw [show p ++ (V ++ (Z ++ (A ++ q))) = p ++ (V ++ (Z ++ (A ++ q))) from rfl, ih V Z p (A ++ q) n i _ (by omega) (by omega) (by omega) (by omega) (by simp; omega) (by omega) rfl (by omega)]
    simp
theorem RY (A B p q : List Formula) (a m b : Int) (h1 : 0 < A.length) (h : 0 < B.length) (g : (p ++ (A ++ (B ++ q))).length ≤ 1000000) (ha : a = (p.length : Int)) (hm : m = ((p.length + A.length : Nat) : Int)) (i : b = ((p.length + A.length + B.length : Nat) : Int)) :
  mH (p ++ (A ++ (B ++ q))) a m b f = some (p ++ (B ++ (A ++ q))) := by
 unfold mH
 have d := g
 simp only [aF] at d
 rw [np A.length (by omega) (by omega), np B.length (by omega) (by omega)]
 exact QK m (A.length + B.length) A B p q jY _ _ (aY _) h1 h (by rw [mc]; omega) g rfl rfl hm
end
end Go.Proofs.YtmlncblocfcmiaaGreat
namespace Go.Proofs.YtmlncblocfcmiaaGreat
open Go.RowKit
section
variable {c : Formula → Formula → Int} {G : Formula → Prop} {f : Formula × Formula → Option Int}
theorem Cs {x : Int} (n : Nat) (h : x = (n : Int)) (b : n ≤ 4000000) : IntKind.i64.wrap (Int.fdiv (IntKind.u64.wrap (IntKind.i64.wrap x)) (2 ^ min (Int.toNat 1) (IntKind.bits .u64))) = ((n / 2 : Nat) : Int) := by
 rw [np n h b]
 have a : IntKind.u64.wrap (n : Int) = (n : Int) := by
  simp only [IntKind.wrap, IntKind.signed, IntKind.bits]
  simp
  omega
 rw [a, show (2 ^ min (Int.toNat 1) (IntKind.bits .u64) : Int) = 2 from by decide, Int.fdiv_eq_ediv_of_nonneg _ (by decide), kG (by omega) (by omega)]
 omega
abbrev Ask (a0 : List Formula) (f : Formula × Formula → Option Int) (p q : Int) (b : Bool) : Prop := ∃ x y r, lE a0 p = some x ∧ lE a0 q = some y ∧ f (x, y) = some r ∧ decide (r < 0) = b
theorem Sa (a0 : List Formula) (p : Int) (b : Nat → Bool) (lo a : Nat) (F : a ≤ 1000000) (u : ∀ h, lo ≤ h → h < a → Ask a0 f (h : Int) p (b h)) : ∀ (d n i j : Nat), j - i ≤ d → d < n → lo ≤ i → i ≤ j → j ≤ a → (i = lo ∨ b (i - 1) = true) → (j = a ∨ b j = false) →
  ∃ t I, lo ≤ t ∧ t ≤ a ∧ (t = lo ∨ b (t - 1) = true) ∧ (t = a ∨ b t = false) ∧ kT a0 p f n (i : Int) (j : Int) = kT a0 p f (I + 1) (t : Int) (t : Int) := by
 intro d
 induction d with
 | zero =>
  intro n i j h1 G g D k l m
  obtain ⟨n, rfl⟩ := aS (by omega : n ≠ 0)
  obtain rfl : i = j := by omega
  exact ⟨i, n, g, k, l, m, rfl⟩
 | succ d ih =>
  intro n i j h1 G g D k l m
  obtain ⟨n, rfl⟩ := aS (by omega : n ≠ 0)
  by_cases q : i = j
  ·subst q; exact ⟨i, n, g, k, l, m, rfl⟩
  have E := Cs (i + j) (x := (i : Int) + (j : Int)) (by omega) (by omega)
  obtain ⟨x, y, r, v, w, z, A⟩ := u ((i + j) / 2) (by omega) (by omega)
  rw [kT]
  have s : ((i : Int) < (j : Int)) := by omega
  simp only [s, cA, aT, E, v, w, z, A, aA]
  cases hp : b ((i + j) / 2)
  ·simp only [aC, aK]
   exact ih n i ((i + j) / 2) (by omega) (by omega) g (by omega) (by omega) l (.inr hp)
  ·simp only [aT]
   rw [np ((i + j) / 2 + 1) (by omega) (by omega)]
   exact ih n ((i + j) / 2 + 1) j (by omega) (by omega) (by omega) (by omega) k (.inr (by simpa using hp)) m
theorem Sd (a0 : List Formula) (a2 : Int) (b : Nat → Bool) (lo a : Nat) (E : a ≤ 1000000) (s : ∀ h, lo ≤ h → h < a → Ask a0 f a2 (h : Int) (!b h)) : ∀ (d n i j : Nat), j - i ≤ d → d < n → lo ≤ i → i ≤ j → j ≤ a → (i = lo ∨ b (i - 1) = true) → (j = a ∨ b j = false) →
  ∃ t G, lo ≤ t ∧ t ≤ a ∧ (t = lo ∨ b (t - 1) = true) ∧ (t = a ∨ b t = false) ∧ kU a0 a2 f n (i : Int) (j : Int) = kU a0 a2 f (G + 1) (t : Int) (t : Int) := by
 intro d
 induction d with
 | zero =>
  intro n i j h1 F g A k l m
  obtain ⟨n, rfl⟩ := aS (by omega : n ≠ 0)
  obtain rfl : i = j := by omega
  exact ⟨i, n, g, k, l, m, rfl⟩
 | succ d ih =>
  intro n i j h1 F g A k l m
  obtain ⟨n, rfl⟩ := aS (by omega : n ≠ 0)
  by_cases p : i = j
  ·subst p; exact ⟨i, n, g, k, l, m, rfl⟩
  have D := Cs (i + j) (x := (i : Int) + (j : Int)) (by omega) (by omega)
  obtain ⟨x, y, r, u, v, w, z⟩ := s ((i + j) / 2) (by omega) (by omega)
  rw [kU]
  have q : ((i : Int) < (j : Int)) := by omega
  simp only [q, cA, aT, D, u, v, w, z, aA, gk]
  cases hp : b ((i + j) / 2)
  ·simp only [aC, aK]
   exact ih n i ((i + j) / 2) (by omega) (by omega) g (by omega) (by omega) l (.inr hp)
  ·simp only [aT]
   rw [np ((i + j) / 2 + 1) (by omega) (by omega)]
   exact ih n ((i + j) / 2 + 1) j (by omega) (by omega) (by omega) (by omega) k (.inr (by simpa using hp)) m
theorem Rw (x : Formula) : ∀ (P Q R : List Formula) (n : Nat) (k i : Int), P.length < n → (Q ++ x :: (P ++ R)).length ≤ 1000000 → k = (Q.length : Int) → i = ((Q.length + P.length + 1 : Nat) : Int) → lX i n (Q ++ x :: (P ++ R)) k = some (Q ++ (P ++ x :: R))
 | [], Q, R, n, k, i, b, d, hk, a => by
  obtain ⟨n, rfl⟩ := aS (by simp at b; omega : n ≠ 0)
  simp only [aF, aO, bW] at d a
  rw [lX, np Q.length (by omega) (by omega)]
  have : ¬ (k < (Q.length : Int)) := by omega
  simp [this]
 | y :: P, Q, R, n, k, i, b, d, hk, a => by
  obtain ⟨n, rfl⟩ := aS (by simp at b; omega : n ≠ 0)
  simp only [aF, aO] at d a b
  have h : Q ++ x :: (y :: P ++ R) = Q ++ x :: ([] ++ y :: (P ++ R)) := rfl
  have j : IntKind.i64.wrap (k + 1) = ((Q.length + 1 + ([] : List Formula).length : Nat) : Int) := np _ (by simp; omega) (by simp; omega)
  have i1 : lE (Q ++ x :: ([] ++ y :: (P ++ R))) ((Q.length + 1 + ([] : List Formula).length : Nat) : Int) = some y := by
   have := mJ (Q ++ [x]) y (P ++ R) ((Q.length + 1 + ([] : List Formula).length : Nat) : Int) (by simp)
   simpa using this
  have i2 : lE (Q ++ x :: ([] ++ y :: (P ++ R))) k = some x := mJ _ _ _ _ hk
  rw [lX, np (Q.length + P.length + 1) (by omega) (by omega), h]
  have g : k < ((Q.length + P.length + 1 : Nat) : Int) := by omega
  have kn : k.toNat = Q.length := by omega
  simp only [g, cA, aT, j, i1, i2, aA, kn]
  have i3 : lE ((Q ++ x :: ([] ++ y :: (P ++ R))).set Q.length y) ((Q.length + 1 + ([] : List Formula).length : Nat) : Int) = some y := by
   rw [Eu]
   have := mJ (Q ++ [y]) y (P ++ R) ((Q.length + 1 + ([] : List Formula).length : Nat) : Int) (by simp)
   simpa using this
  rw [i3, aA, dJ, KR, FC]
  have := Rw x P (Q ++ [y]) R n ((Q.length + 1 + ([] : List Formula).length : Nat) : Int) i (by omega) (by simp; omega) (by simp) (by rw [a]; simp; omega)
  simpa using this
theorem Sg (x : Formula) : ∀ (k : Nat) (S Q R : List Formula) (n : Nat) (j i : Int), S.length = k → k < n → (Q ++ (S ++ x :: R)).length ≤ 1000000 → j = ((Q.length + S.length : Nat) : Int) → i = (Q.length : Int) → lY i n (Q ++ (S ++ x :: R)) j = some (Q ++ x :: (S ++ R)) := by
 intro k
 induction k with
 | zero =>
  intro S Q R n j i hk m h a g
  obtain ⟨n, rfl⟩ := aS (by omega : n ≠ 0)
  obtain rfl := aU hk
  rw [lY]
  simp only [bW, gG] at a
  have : ¬ (j > i) := by omega
  simp [this]
 | succ k ih =>
  intro S Q R n j i hk m h a g
  obtain ⟨n, rfl⟩ := aS (by omega : n ≠ 0)
  rcases dD S with rfl | ⟨S, z, rfl⟩
  ·simp at hk
  simp only [eo, aF, aO, bW] at hk a h ⊢
  have l : Q ++ (S ++ [z] ++ x :: R) = (Q ++ S) ++ z :: ([] ++ x :: R) := by simp
  have q : IntKind.i64.wrap (j - 1) = ((Q ++ S).length : Int) := np _ (by simp; omega) (by simp; omega)
  have b : j = (((Q ++ S).length + 1 + ([] : List Formula).length : Nat) : Int) := by rw [a]; simp; omega
  have i1 : lE ((Q ++ S) ++ z :: ([] ++ x :: R)) j = some x := by
   have := mJ (Q ++ S ++ [z]) x R j (by rw [b]; simp; omega)
   simpa using this
  have i2 : lE ((Q ++ S) ++ z :: ([] ++ x :: R)) ((Q ++ S).length : Int) = some z := mJ _ _ _ _ rfl
  rw [lY, l]
  have d : j > i := by omega
  have p : j.toNat = (Q ++ S).length + 1 + ([] : List Formula).length := by omega
  simp only [d, cA, aT, q, i1, i2, aA, p]
  have i3 : lE (((Q ++ S) ++ z :: ([] ++ x :: R)).set ((Q ++ S).length + 1 + ([] : List Formula).length) z) ((Q ++ S).length : Int) = some z := by
   have : ((Q ++ S) ++ z :: ([] ++ x :: R)).set ((Q ++ S).length + 1 + ([] : List Formula).length) z = (Q ++ S) ++ z :: (z :: R) := by
    have := Jt (Q ++ S ++ [z]) R x z ((Q ++ S).length + 1 + ([] : List Formula).length) (by simp; omega)
    simpa using this
   rw [this]; exact mJ _ _ _ _ rfl
  rw [i3, aA, dJ, KR, Mu]
  have := ih S Q (z :: R) n ((Q ++ S).length : Int) i (by omega) (by omega) (by simp; omega) (by simp) g
  simpa using this
end
end Go.Proofs.YtmlncblocfcmiaaGreat
namespace Go.Proofs.YtmlncblocfcmiaaGreat
open Go.RowKit
section
variable {c : Formula → Formula → Int} {G : Formula → Prop} {f : Formula × Formula → Option Int}
theorem RA (a0 : List Formula) (k a3 a2 : Int) (rec : List Formula → Int → Int → Int → ((Formula × Formula) → Option Int) → Option (List Formula)) (mid m p : Nat) (l : k + a3 = ((2 * mid : Nat) : Int) ∨ k + a3 = ((2 * mid + 1 : Nat) : Int)) (hm : a2 = (m : Int)) (hp : p + 1 = mid + m) (g : Nat → Bool) (lo a : Nat) (M : a ≤ 1000000) (P : mid ≤ 1000000) (O : mid + m ≤ 2000000) (hle : a ≤ p + 1) (D : ∀ h, lo ≤ h → h < a → Ask a0 f ((p - h : Nat) : Int) (h : Int) (!g h)) : ∀ (d n i j : Nat), j - i ≤ d → d < n → lo ≤ i → i ≤ j → j ≤ a → (i = lo ∨ g (i - 1) = true) → (j = a ∨ g j = false) →
  ∃ t R, lo ≤ t ∧ t ≤ a ∧ (t = lo ∨ g (t - 1) = true) ∧ (t = a ∨ g t = false) ∧ kH a0 k a3 a2 f rec n (i : Int) (j : Int) = kH a0 k a3 a2 f rec (R + 1) (t : Int) (t : Int) := by
 have b : IntKind.i64.wrap (Int.fdiv (IntKind.u64.wrap (IntKind.i64.wrap (k + a3))) (2 ^ min (Int.toNat 1) (IntKind.bits .u64))) = (mid : Int) := by
  rcases l with h | h
  ·rw [Cs _ h (by omega), show 2 * mid / 2 = mid by omega]
  ·rw [Cs _ h (by omega), show (2 * mid + 1) / 2 = mid by omega]
 intro d
 induction d with
 | zero =>
  intro n i j h1 Q s J u v w
  obtain ⟨n, rfl⟩ := aS (by omega : n ≠ 0)
  obtain rfl : i = j := by omega
  exact ⟨i, n, s, u, v, w, rfl⟩
 | succ d ih =>
  intro n i j h1 Q s J u v w
  obtain ⟨n, rfl⟩ := aS (by omega : n ≠ 0)
  by_cases z : i = j
  ·subst z; exact ⟨i, n, s, u, v, w, rfl⟩
  have L := Cs (i + j) (x := (i : Int) + (j : Int)) (by omega) (by omega)
  obtain ⟨x, y, r, E, F, G, I⟩ := D ((i + j) / 2) (by omega) (by omega)
  have T : IntKind.i64.wrap ((mid : Int) + a2) = ((mid + m : Nat) : Int) := np _ (by omega) (by omega)
  have U : IntKind.i64.wrap (((mid + m : Nat) : Int) - 1) = (p : Int) := np _ (by omega) (by omega)
  have W : IntKind.i64.wrap ((p : Int) - (((i + j) / 2 : Nat) : Int)) = ((p - (i + j) / 2 : Nat) : Int) := np _ (by omega) (by omega)
  rw [kH]
  have A : ((i : Int) < (j : Int)) := by omega
  simp only [A, cA, aT, L, b, T, U, W, E, F, G, I, aA, gk]
  cases q : g ((i + j) / 2)
  ·simp only [aC, aK]
   exact ih n i ((i + j) / 2) (by omega) (by omega) s (by omega) (by omega) v (.inr q)
  ·simp only [aT]
   rw [np ((i + j) / 2 + 1) (by omega) (by omega)]
   exact ih n ((i + j) / 2 + 1) j (by omega) (by omega) (by omega) (by omega) u (.inr (by simpa using q)) w
theorem P5 (a0 : List Formula) (b a3 a2 : Int) (rec : List Formula → Int → Int → Int → ((Formula × Formula) → Option Int) → Option (List Formula)) (mid m t n : Nat) (d : b + a3 = ((2 * mid : Nat) : Int) ∨ b + a3 = ((2 * mid + 1 : Nat) : Int)) (hm : a2 = (m : Int)) (s : mid ≤ 1000000) (r : mid + m ≤ 2000000) (y : t ≤ mid + m) :
  kH a0 b a3 a2 f rec (n + 1) (t : Int) (t : Int) =
   ((if t < m ∧ m < mid + m - t then mH a0 (t : Int) a2 ((mid + m - t : Nat) : Int) f else some a0).bind fun l => ((if b < (t : Int) ∧ t < mid then rec l b (t : Int) (mid : Int) f else some l).bind fun l => if mid < mid + m - t ∧ ((mid + m - t : Nat) : Int) < a3 then rec l (mid : Int) ((mid + m - t : Nat) : Int) a3 f else some l)) := by
 have a : IntKind.i64.wrap (Int.fdiv (IntKind.u64.wrap (IntKind.i64.wrap (b + a3))) (2 ^ min (Int.toNat 1) (IntKind.bits .u64))) = (mid : Int) := by
  rcases d with h | h
  ·rw [Cs _ h (by omega), show 2 * mid / 2 = mid by omega]
  ·rw [Cs _ h (by omega), show (2 * mid + 1) / 2 = mid by omega]
 have v : IntKind.i64.wrap ((mid : Int) + a2) = ((mid + m : Nat) : Int) := np _ (by omega) (by omega)
 have w : IntKind.i64.wrap (((mid + m : Nat) : Int) - (t : Int)) = ((mid + m - t : Nat) : Int) := np _ (by omega) (by omega)
 rw [kH]
 simp only [Int.lt_irrefl, cD, aC, aK, a, v, w, nA]
 subst hm
 have g : ((t : Int) < (m : Int)) = (t < m) := by simp
 have i : ((m : Int) < ((mid + m - t : Nat) : Int)) = (m < mid + m - t) := by rw [gx]; omega
 have j : ((t : Int) < (mid : Int)) = (t < mid) := by simp
 have k : ((mid : Int) < ((mid + m - t : Nat) : Int)) = (mid < mid + m - t) := by rw [gx]; omega
 simp only [g, i, j, k]
 have key : ∀ (p q : Prop) [Decidable p] [Decidable q] (A B : Option (List Formula)), ((if decide p = true then some (decide q) else some false : Option Bool).bind fun x => if x = true then A else B) = if p ∧ q then A else B := by
  intro p q _ _ A B
  by_cases hp : p <;> by_cases u : q <;> simp [hp, u]
 simp only [key]
theorem LA (p A q : List Formula) (h : Nat) (b : p.length ≤ h) (h1 : h < p.length + A.length) : ∃ x, A[h - p.length]? = some x ∧ lE (p ++ (A ++ q)) (h : Int) = some x := by
 obtain ⟨x, a⟩ : ∃ x, A[h - p.length]? = some x := ⟨_, cN (by omega)⟩
 refine ⟨x, a, ?_⟩
 rw [EF, fk b, gl (by omega), a]
end
end Go.Proofs.YtmlncblocfcmiaaGreat
namespace Go.Proofs.YtmlncblocfcmiaaGreat
open Go.RowKit
section
variable {c : Formula → Formula → Int} {G : Formula → Prop} {f : Formula × Formula → Option Int}
theorem Cm {α : Type} {P A' : List α} {z : α} (S : List α) (h : P = A' ++ [z]) : (P ++ S)[P.length - 1]? = some z := by subst h; simp
theorem CQ {α : Type} {S B' : List α} {z : α} (P : List α) (h : S = z :: B') : (P ++ S)[P.length]? = some z := by subst h; simp
theorem xW {A : List (Formula × Nat)} {i : Nat} {z : Formula × Nat} (h : A[i]? = some z) : (A.map (·.1))[i]? = some z.1 := by simp [h]
theorem QR (h : SWO (nq c)) (Q : B3 f c G) (x : Formula × Nat) (B : List (Formula × Nat)) (pre post : List Formula) (a m b : Int) (I : ob (nq c) B) (U : ∀ y ∈ B, x.2 < y.2) (w : ∀ y ∈ x :: B, G y.1) (R : (pre ++ x.1 :: (B.map (·.1) ++ post)).length ≤ 400000) (ha : a = (pre.length : Int)) (hm : m = ((pre.length + 1 : Nat) : Int)) (O : b = ((pre.length + 1 + B.length : Nat) : Int)) :
  ∃ u, kT (pre ++ x.1 :: (B.map (·.1) ++ post)) a f jY m b = some (pre ++ (u.map (·.1) ++ post)) ∧ ob (nq c) u ∧ u.Perm (x :: B) := by
 have r := R
 simp only [aF, aO, dA] at r
 let g : Nat → Bool := fun k => match (B.map (·.1))[k - (pre.length + 1)]? with | some y => nq c y x.1 | none => false
 have j : ∀ k, pre.length + 1 ≤ k → k < pre.length + 1 + B.length → Ask (pre ++ x.1 :: (B.map (·.1) ++ post)) f (k : Int) a (g k) := by
  intro k h1 Z
  obtain ⟨y, s, A⟩ := LA (pre ++ [x.1]) (B.map (·.1)) post k (by simp; omega) (by simp; omega)
  have D : lE (pre ++ x.1 :: (B.map (·.1) ++ post)) (k : Int) = some y := by simpa using A
  have E : lE (pre ++ x.1 :: (B.map (·.1) ++ post)) a = some x.1 := mJ _ _ _ _ ha
  have W : G y := by
   obtain ⟨q, T, rfl⟩ := bL.1 (dI s)
   exact w q (by simp [T])
  refine ⟨y, x.1, _, D, E, Q y x.1 W (w x (by simp)), ?_⟩
  simp only [aF, aO, bW] at s
  simp only [g, s]
 obtain ⟨t, n', t1, t2, t3, t4, e⟩ := Sa (f := f) _ a g (pre.length + 1) (pre.length + 1 + B.length) (by omega) j B.length jY (pre.length + 1) (pre.length + 1 + B.length) (by omega) (by rw [mc]; omega) (aY _) (by omega) (aY _) (.inl rfl) (.inl rfl)
 rw [hm, O, e, kT]
 simp only [Int.lt_irrefl, cD, aC, aK, nA]
 obtain ⟨P, S, rfl, J⟩ := wF (l := B) (n := t - (pre.length + 1)) (by omega)
 simp only [aF] at r t2 t4
 have F : pre ++ x.1 :: ((P ++ S).map (·.1) ++ post) = pre ++ x.1 :: (P.map (·.1) ++ (S.map (·.1) ++ post)) := by simp
 rw [F, Rw x.1 (P.map (·.1)) pre (S.map (·.1) ++ post) jY a (t : Int) (by rw [mc]; simp; omega) (by simp; omega) ha (by simp; omega)]
 refine ⟨P ++ x :: S, by simp, Hl h I ?_ ?_, fH⟩
 ·intro A' z v B' i d
  simp only [bA] at d
  rw [← d.1]
  have L : 0 < P.length := by rw [i]; simp
  have hp : g (t - 1) = true := by
   rcases t3 with t3 | t3
   ·omega
   ·exact t3
  have p := xW (Cm S i)
  rw [show P.length - 1 = t - 1 - (pre.length + 1) by omega] at p
  simp only [g, p] at hp
  exact .inl hp
 ·intro A' z v B' i d
  have Y : z = x := by
   cases A' with
   | nil => simpa using i.symm
   | cons _ A' => simp at i
  rw [Y]
  have M : 0 < S.length := by rw [d]; simp
  have hp : g t = false := by
   rcases t4 with t4 | t4
   ·omega
   ·exact t4
  have p := xW (CQ P d)
  rw [J] at p
  simp only [g, p] at hp
  exact .inr ⟨hp, U v (by rw [d]; simp)⟩
theorem Q5 (h : SWO (nq c)) (M : B3 f c G) (y : Formula × Nat) (A : List (Formula × Nat)) (pre post : List Formula) (a m : Int) (F : ob (nq c) A) (R : ∀ x ∈ A, x.2 < y.2) (s : ∀ x ∈ y :: A, G x.1) (O : (pre ++ (A.map (·.1) ++ y.1 :: post)).length ≤ 400000) (ha : a = (pre.length : Int)) (hm : m = ((pre.length + A.length : Nat) : Int)) :
  ∃ u, kU (pre ++ (A.map (·.1) ++ y.1 :: post)) m f jY a m = some (pre ++ (u.map (·.1) ++ post)) ∧ ob (nq c) u ∧ u.Perm (A ++ [y]) := by
 have p := O
 simp only [aF, aO, dA] at p
 let g : Nat → Bool := fun k => match (A.map (·.1))[k - pre.length]? with | some x => !nq c y.1 x | none => false
 have i : ∀ k, pre.length ≤ k → k < pre.length + A.length → Ask (pre ++ (A.map (·.1) ++ y.1 :: post)) f m (k : Int) (!g k) := by
  intro k h1 W
  obtain ⟨x, r, w⟩ := LA pre (A.map (·.1)) (y.1 :: post) k h1 (by simp; omega)
  have D : lE (pre ++ (A.map (·.1) ++ y.1 :: post)) m = some y.1 := by
   have := mJ (pre ++ A.map (·.1)) y.1 post m (by rw [hm]; simp)
   simpa using this
  have T : G x := by
   obtain ⟨q, Q, rfl⟩ := bL.1 (dI r)
   exact s q (by simp [Q])
  refine ⟨y.1, x, _, D, w, M y.1 x (s y (by simp)) T, ?_⟩
  simp only [g, r, gk]
 obtain ⟨t, Y, t1, t2, t3, t4, e⟩ := Sd (f := f) _ m g pre.length (pre.length + A.length) (by omega) i A.length jY pre.length (pre.length + A.length) (by omega) (by rw [mc]; omega) (aY _) (by omega) (aY _) (.inl rfl) (.inl rfl)
 rw [← hm, ← ha] at e
 rw [e, kU]
 simp only [Int.lt_irrefl, cD, aC, aK, nA]
 obtain ⟨P, S, rfl, I⟩ := wF (l := A) (n := t - pre.length) (by omega)
 simp only [aF] at p t2 t4 hm
 have E : pre ++ ((P ++ S).map (·.1) ++ y.1 :: post) = (pre ++ P.map (·.1)) ++ (S.map (·.1) ++ y.1 :: post) := by simp
 rw [E, Sg y.1 S.length (S.map (·.1)) (pre ++ P.map (·.1)) post jY m (t : Int) (by simp) (by rw [mc]; omega) (by simp; omega) (by rw [hm]; simp; omega) (by simp; omega)]
 refine ⟨P ++ y :: S, by simp, Hl h F ?_ ?_, List.perm_middle.trans (gh y (P ++ S)).symm⟩
 ·intro A' z v B' b d
  simp only [bA] at d
  rw [← d.1]
  have J : 0 < P.length := by rw [b]; simp
  have hp : g (t - 1) = true := by
   rcases t3 with t3 | t3
   ·omega
   ·exact t3
  have j := xW (Cm S b)
  rw [show P.length - 1 = t - 1 - pre.length by omega] at j
  simp only [g, j, fZ] at hp
  exact .inr ⟨hp, R z (by rw [b]; simp)⟩
 ·intro A' z v B' b d
  have U : z = y := by
   cases A' with
   | nil => simpa using b.symm
   | cons _ A' => simp at b
  rw [U]
  have L : 0 < S.length := by rw [d]; simp
  have hp : g t = false := by
   rcases t4 with t4 | t4
   ·omega
   ·exact t4
  have j := xW (CQ P d)
  rw [I] at j
  simp only [g, j, Bool.not_eq_false'] at hp
  exact .inl hp
theorem NU {α : Type} {A1 A2 B1 B2 C1 C2 : List α} (a : C1.Perm (A1 ++ B1)) (b : C2.Perm (A2 ++ B2)) : (C1 ++ C2).Perm ((A1 ++ A2) ++ (B1 ++ B2)) := by
 refine (a.append b).trans ?_
 simp only [aP]
 refine cE A1 ?_
 exact fY B1 A2 B2
def N7 (c : Formula → Formula → Int) (A B : List Formula) (a b p q : Nat) : Bool := match A[q - a]?, B[p - q - b]? with | some x, some y => !nq c y x | _, _ => false
theorem Iq {A B : List Formula} {a b p q : Nat} {x y : Formula} (h1 : A[q - a]? = some x) (d : B[p - q - b]? = some y) : N7 c A B a b p q = !nq c y x := by simp only [N7, h1, d]
theorem RN (l : B3 f c G) (A B : List (Formula × Nat)) (pre post : List Formula) (a p : Nat) (m : a = pre.length + A.length) (h : ∀ x ∈ A ++ B, G x.1) (q : Nat) (s : pre.length ≤ q) (t : q < a) (u : a ≤ p - q) (v : p - q < a + B.length) :
  Ask (pre ++ (A.map (·.1) ++ (B.map (·.1) ++ post))) f ((p - q : Nat) : Int) (q : Int) (!N7 c (A.map (·.1)) (B.map (·.1)) pre.length a p q) := by
 obtain ⟨x, g, i⟩ := LA pre (A.map (·.1)) (B.map (·.1) ++ post) q s (by simp; omega)
 obtain ⟨y, b, j⟩ := LA (pre ++ A.map (·.1)) (B.map (·.1)) post (p - q) (by simp; omega) (by simp; omega)
 have n : G x := by
  obtain ⟨z, d, rfl⟩ := bL.1 (dI g)
  exact h z (by simp [d])
 have r : G y := by
  obtain ⟨z, d, rfl⟩ := bL.1 (dI b)
  exact h z (by simp [d])
 have k : lE (pre ++ (A.map (·.1) ++ (B.map (·.1) ++ post))) ((p - q : Nat) : Int) = some y := by simpa using j
 refine ⟨y, x, _, k, i, l y x r n, ?_⟩
 rw [show p - q - (pre ++ A.map (·.1)).length = p - q - a by simp; omega] at b
 rw [Iq g b, gk]
abbrev R5 (c : Formula → Formula → Int) (G : Formula → Prop) (f : Formula × Formula → Option Int) (rec : List Formula → Int → Int → Int → ((Formula × Formula) → Option Int) → Option (List Formula)) (k : Nat) : Prop :=
 ∀ (A B : List (Formula × Nat)) (pre post : List Formula) (a m b : Int), A.length + B.length ≤ k → 0 < A.length → 0 < B.length → ob (nq c) A → ob (nq c) B →
  (∀ x ∈ A, ∀ y ∈ B, x.2 < y.2) → (∀ x ∈ A ++ B, G x.1) → (pre ++ (A.map (·.1) ++ (B.map (·.1) ++ post))).length ≤ 400000 → a = (pre.length : Int) → m = ((pre.length + A.length : Nat) : Int) → b = ((pre.length + A.length + B.length : Nat) : Int) →
  ∃ u, rec (pre ++ (A.map (·.1) ++ (B.map (·.1) ++ post))) a m b f = some (pre ++ (u.map (·.1) ++ post)) ∧ ob (nq c) u ∧ u.Perm (A ++ B)
theorem QB (h : SWO (nq c)) {rec : List Formula → Int → Int → Int → ((Formula × Formula) → Option Int) → Option (List Formula)} {k : Nat} (ih : R5 c G f rec k) (A1 A2 B1 B2 : List (Formula × Nat)) (pre post : List Formula) (a m b : Int) (mid d t : Nat) (M : d = pre.length + (A1.length + A2.length)) (P : mid = (pre.length + (d + (B1.length + B2.length))) / 2) (J : A1.length = t - pre.length) (L : B1.length = mid - t) (Q : pre.length ≤ t) (R : t ≤ mid) (T : t ≤ d) (hk : A1.length + A2.length + (B1.length + B2.length) ≤ k + 1) (O : 2 ≤ A1.length + A2.length + (B1.length + B2.length)) (p : ob (nq c) (A1 ++ A2)) (q : ob (nq c) (B1 ++ B2)) (I : ∀ x ∈ A1 ++ A2, ∀ y ∈ B1 ++ B2, x.2 < y.2) (F : ∀ x ∈ (A1 ++ A2) ++ (B1 ++ B2), G x.1) (hl : pre.length + (A1.length + A2.length + (B1.length + B2.length + post.length)) ≤ 400000) (ha : a = (pre.length : Int)) (hm : m = (d : Int)) (hb : b = ((d + (B1.length + B2.length) : Nat) : Int)) (U : Lk (nq c) A1 B2) (W : Lk (nq c) B1 A2) :
  ∃ u, ((if t < d ∧ d < mid + d - t then mH (pre ++ ((A1 ++ A2).map (·.1) ++ ((B1 ++ B2).map (·.1) ++ post))) (t : Int) m ((mid + d - t : Nat) : Int) f else some (pre ++ ((A1 ++ A2).map (·.1) ++ ((B1 ++ B2).map (·.1) ++ post)))).bind fun l =>
   ((if a < (t : Int) ∧ t < mid then rec l a (t : Int) (mid : Int) f else some l).bind fun l => if mid < mid + d - t ∧ ((mid + d - t : Nat) : Int) < b then rec l (mid : Int) ((mid + d - t : Nat) : Int) b f else some l)) = some (pre ++ (u.map (·.1) ++ post)) ∧ ob (nq c) u ∧ u.Perm ((A1 ++ A2) ++ (B1 ++ B2)) := by
 have Y : (if t < d ∧ d < mid + d - t then mH (pre ++ ((A1 ++ A2).map (·.1) ++ ((B1 ++ B2).map (·.1) ++ post))) (t : Int) m ((mid + d - t : Nat) : Int) f else some (pre ++ ((A1 ++ A2).map (·.1) ++ ((B1 ++ B2).map (·.1) ++ post)))) =
   some (pre ++ (A1.map (·.1) ++ (B1.map (·.1) ++ (A2.map (·.1) ++ (B2.map (·.1) ++ post))))) := by
  by_cases i : t < d ∧ d < mid + d - t
  ·rw [bD i]
   have := RY (f := f) (A2.map (·.1)) (B1.map (·.1)) (pre ++ A1.map (·.1)) (B2.map (·.1) ++ post) (t : Int) m ((mid + d - t : Nat) : Int) (by simp; omega) (by simp; omega) (by simp; omega) (by simp; omega) (by simp; omega) (by simp; omega)
   simpa using this
  ·rw [bI i]
   have : A2 = [] ∨ B1 = [] := by
    by_cases h1 : A2.length = 0
    ·exact .inl (aU h1)
    ·exact .inr (aU (by omega))
   rcases this with rfl | rfl <;> simp
 rw [Y, aA]
 have Z : ∃ C1, (if a < (t : Int) ∧ t < mid then rec (pre ++ (A1.map (·.1) ++ (B1.map (·.1) ++ (A2.map (·.1) ++ (B2.map (·.1) ++ post))))) a (t : Int) (mid : Int) f else some (pre ++ (A1.map (·.1) ++ (B1.map (·.1) ++ (A2.map (·.1) ++ (B2.map (·.1) ++ post)))))) =
   some (pre ++ (C1.map (·.1) ++ (A2.map (·.1) ++ (B2.map (·.1) ++ post)))) ∧ ob (nq c) C1 ∧ C1.Perm (A1 ++ B1) := by
  by_cases i : a < (t : Int) ∧ t < mid
  ·rw [bD i]
   exact ih A1 B1 pre (A2.map (·.1) ++ (B2.map (·.1) ++ post)) a t mid (by omega) (by omega) (by omega) p.left q.left (fun x g y A => I x (by simp [g]) y (by simp [A])) (fun x g => F x (by simp at g ⊢; rcases g with g | g <;> simp [g]))
    (by simp; omega) ha (by omega) (by omega)
  ·rw [bI i]
   refine ⟨A1 ++ B1, by simp, I5 h p.left q.left (fun A' x y B' D E => ?_), .refl _⟩
   have g1 : 0 < A1.length := by rw [D]; simp
   have g2 : 0 < B1.length := by rw [E]; simp
   omega
 obtain ⟨C1, r, v, j⟩ := Z
 have s := j.length_eq
 simp only [aF] at s
 rw [r, aA]
 have r3 : ∃ C2, (if mid < mid + d - t ∧ ((mid + d - t : Nat) : Int) < b then rec (pre ++ (C1.map (·.1) ++ (A2.map (·.1) ++ (B2.map (·.1) ++ post)))) (mid : Int) ((mid + d - t : Nat) : Int) b f else some (pre ++ (C1.map (·.1) ++ (A2.map (·.1) ++ (B2.map (·.1) ++ post))))) =
   some ((pre ++ C1.map (·.1)) ++ (C2.map (·.1) ++ post)) ∧ ob (nq c) C2 ∧ C2.Perm (A2 ++ B2) := by
  by_cases i : mid < mid + d - t ∧ ((mid + d - t : Nat) : Int) < b
  ·rw [bD i]
   have := ih A2 B2 (pre ++ C1.map (·.1)) post mid ((mid + d - t : Nat) : Int) b (by omega) (by omega) (by omega) p.right q.right (fun x g y A => I x (by simp [g]) y (by simp [A])) (fun x g => F x (by simp at g ⊢; rcases g with g | g <;> simp [g]))
    (by simp; omega) (by simp; omega) (by simp; omega) (by simp; omega)
   simpa using this
  ·rw [bI i]
   refine ⟨A2 ++ B2, by simp, I5 h p.right q.right (fun A' x y B' D E => ?_), .refl _⟩
   have g1 : 0 < A2.length := by rw [D]; simp
   have g2 : 0 < B2.length := by rw [E]; simp
   omega
 obtain ⟨C2, w, z, n⟩ := r3
 rw [w]
 exact ⟨C1 ++ C2, by simp, O5 h p q U W j n v z, NU j n⟩
theorem NE (F : Nat) (I : 1000000 < F) (L : List Formula) (rec : List Formula → Int → Int → Int → ((Formula × Formula) → Option Int) → Option (List Formula)) (pl g h mid d p : Nat) (a b m : Int) (r : Nat → Bool) (w : 0 < g) (y : 0 < h) (D : pl + (g + h) ≤ 400000) (A : mid = (pl + (pl + g + h)) / 2) (z : d = pl + g) (hp : p + 1 = mid + d) (l : a + b = ((2 * mid : Nat) : Int) ∨ a + b = ((2 * mid + 1 : Nat) : Int)) (ha : a = (pl : Int)) (k : m = (d : Int)) (J : b = ((pl + g + h : Nat) : Int)) (i : ∀ q, pl ≤ q → q < d → d ≤ p - q → p - q < d + h → Ask L f ((p - q : Nat) : Int) (q : Int) (!r q)) :
  ∃ t n lo s : Nat, (lo = pl ∧ s = d ∧ d ≤ mid ∨ lo + (pl + g + h) = mid + d ∧ s = mid ∧ mid < d) ∧ lo ≤ t ∧ t ≤ s ∧ (t = lo ∨ r (t - 1) = true) ∧ (t = s ∨ r t = false) ∧
    ((if decide (m > (mid : Int)) then some (IntKind.i64.wrap (((mid + d : Nat) : Int) - b), (mid : Int)) else some (a, m) : Option (Int × Int)).bind fun x => kH L a b m f rec F x.1 x.2) =
     kH L a b m f rec (n + 1) (t : Int) (t : Int) := by
 by_cases v : mid < d
 ·obtain ⟨lo, u⟩ : ∃ lo : Nat, lo + (pl + g + h) = mid + d := ⟨mid + d - (pl + g + h), by omega⟩
  obtain ⟨t, n, t1, t2, t3, t4, e⟩ := RA (f := f) L a b m rec mid d p l k hp r lo mid (by omega) (by omega) (by omega) (by omega) (fun q E G => i q (by omega) (by omega) (by omega) (by omega))
   (mid - lo) F lo mid (aY _) (by omega) (aY _) (by omega) (aY _) (.inl rfl) (.inl rfl)
  refine ⟨t, n, lo, mid, .inr ⟨u, rfl, v⟩, t1, t2, t3, t4, ?_⟩
  have j : m > (mid : Int) := by omega
  simp only [j, cA, aT, aA]
  rw [np lo (by omega) (by omega), e]
 ·obtain ⟨t, n, t1, t2, t3, t4, e⟩ := RA (f := f) L a b m rec mid d p l k hp r pl d (by omega) (by omega) (by omega) (by omega) (fun q E G => i q (by omega) (by omega) (by omega) (by omega))
   (d - pl) F pl d (aY _) (by omega) (aY _) (by omega) (aY _) (.inl rfl) (.inl rfl)
  refine ⟨t, n, pl, d, .inl ⟨rfl, rfl, by omega⟩, t1, t2, t3, t4, ?_⟩
  have j : ¬ (m > (mid : Int)) := by omega
  simp only [j, cD, aC, aK, aA]
  rw [← e, ← ha, ← k]
set_option maxHeartbeats 2000000 in
theorem RD (h : SWO (nq c)) (hf : B3 f c G) : ∀ (k : Nat) (A B : List (Formula × Nat)) (pre post : List Formula) (n : Nat) (a m b : Int), A.length + B.length ≤ k → 0 < A.length → 0 < B.length → k < n → ob (nq c) A → ob (nq c) B →
  (∀ x ∈ A, ∀ y ∈ B, x.2 < y.2) → (∀ x ∈ A ++ B, G x.1) → (pre ++ (A.map (·.1) ++ (B.map (·.1) ++ post))).length ≤ 400000 → a = (pre.length : Int) → m = ((pre.length + A.length : Nat) : Int) → b = ((pre.length + A.length + B.length : Nat) : Int) →
  ∃ u, lA n (pre ++ (A.map (·.1) ++ (B.map (·.1) ++ post))) a m b f = some (pre ++ (u.map (·.1) ++ post)) ∧ ob (nq c) u ∧ u.Perm (A ++ B) := by
 intro k
 induction k with
 | zero => intro A B pre post n a m b h0 h1 h2; omega
 | succ k ih =>
  intro A B pre post n a m b h0 h1 h2 hn hA hB U T hl ha hm O
  obtain ⟨n, rfl⟩ := aS (by omega : n ≠ 0)
  have P := hl
  simp only [aF, dA] at P
  rw [lA]
  unfold oN
  by_cases c1 : A.length = 1
  ·obtain ⟨x, rfl⟩ := List.length_eq_one_iff.1 c1
   have : (IntKind.i64.wrap (m - a) == 1) = true := by rw [np 1 (by simp at hm; omega) (by omega)]; rfl
   simp only [this, aT]
   obtain ⟨u, u1, u2, u3⟩ := QR h hf x B pre post a m b hB (fun y hy => U x (by simp) y hy) (fun y hy => T y (by simpa using hy)) (by simpa using hl) ha (by simpa using hm) (by simpa using O)
   exact ⟨u, by simpa using u1, u2, by simpa using u3⟩
  have n1 : (IntKind.i64.wrap (m - a) == 1) = false := by rw [np A.length (by omega) (by omega)]; simp; omega
  simp only [n1, aC, aK]
  by_cases c2 : B.length = 1
  ·obtain ⟨y, rfl⟩ := List.length_eq_one_iff.1 c2
   have : (IntKind.i64.wrap (b - m) == 1) = true := by rw [np 1 (by simp at O; omega) (by omega)]; rfl
   simp only [this, aT]
   obtain ⟨u, u1, u2, u3⟩ := Q5 h hf y A pre post a m hA (fun x W => U x W y (by simp)) (fun x W => T x (by simp at W ⊢; exact W.symm)) (by simpa using hl) ha hm
   exact ⟨u, by simpa using u1, u2, u3⟩
  have n2 : (IntKind.i64.wrap (b - m) == 1) = false := by rw [np B.length (by omega) (by omega)]; simp; omega
  simp only [n2, aC, aK]
  obtain ⟨F, hF, Z⟩ : ∃ F, F = jY ∧ 1000000 < F := ⟨jY, rfl, by rw [mc]; omega⟩
  rw [← hF]
  obtain ⟨mid, E⟩ : ∃ mid : Nat, mid = (pre.length + (pre.length + A.length + B.length)) / 2 := ⟨_, rfl⟩
  obtain ⟨d, j⟩ : ∃ d : Nat, d = pre.length + A.length := ⟨_, rfl⟩
  obtain ⟨p, hp⟩ : ∃ p : Nat, p + 1 = mid + d := ⟨mid + d - 1, by omega⟩
  have w : a + b = ((2 * mid : Nat) : Int) ∨ a + b = ((2 * mid + 1 : Nat) : Int) := by omega
  have I : IntKind.i64.wrap (Int.fdiv (IntKind.u64.wrap (IntKind.i64.wrap (a + b))) (2 ^ min (Int.toNat 1) (IntKind.bits .u64))) = (mid : Int) := by
   rcases w with h | h
   ·rw [Cs _ h (by omega), show 2 * mid / 2 = mid by omega]
   ·rw [Cs _ h (by omega), show (2 * mid + 1) / 2 = mid by omega]
  have D : m = (d : Int) := by omega
  have w1 : IntKind.i64.wrap ((mid : Int) + m) = ((mid + d : Nat) : Int) := np _ (by omega) (by omega)
  obtain ⟨J, r⟩ : ∃ J : Nat → Bool, J = N7 c (A.map (·.1)) (B.map (·.1)) pre.length d p := ⟨_, rfl⟩
  have M : ∀ q, pre.length ≤ q → q < d → d ≤ p - q → p - q < d + B.length → Ask (pre ++ (A.map (·.1) ++ (B.map (·.1) ++ post))) f ((p - q : Nat) : Int) (q : Int) (!J q) := fun q g i q3 q4 => by rw [r]; exact RN hf A B pre post d p j T q g i q3 q4
  obtain ⟨t, n', lo, hi, a1, t1, t2, t3, t4, e⟩ := NE (f := f) F Z (pre ++ (A.map (·.1) ++ (B.map (·.1) ++ post))) (lA n) pre.length A.length B.length mid d p a b m J (by omega) (by omega) (by omega) E j hp w ha D O M
  simp only [I, w1]
  rw [e, P5 (f := f) _ a b m _ mid d t n' w D (by omega) (by omega) (by omega)]
  obtain ⟨A1, A2, rfl, L⟩ := wF (l := A) (n := t - pre.length) (by omega)
  obtain ⟨B1, B2, rfl, Y⟩ := wF (l := B) (n := mid - t) (by omega)
  simp only [aF] at h0 h1 h2 P t1 t2 t3 t4 a1 hm O j E
  have Q : ∀ q x y, ((A1 ++ A2).map (·.1))[q - pre.length]? = some x → ((B1 ++ B2).map (·.1))[p - q - d]? = some y → J q = !nq c y x := fun q x y s v => by rw [r]; exact Iq s v
  have l1 : Lk (nq c) A1 B2 := by
   intro A' z b' B' g i
   have g1 : 0 < A1.length := by rw [g]; simp
   have g2 : 0 < B2.length := by rw [i]; simp
   have R : J (t - 1) = true := by
    rcases t3 with t3 | t3
    ·omega
    ·exact t3
   have s := xW (Cm A2 g)
   have v := xW (CQ B1 i)
   rw [show A1.length - 1 = t - 1 - pre.length by omega] at s
   rw [show B1.length = p - (t - 1) - d by omega] at v
   rw [Q _ _ _ s v, fZ] at R
   exact .inr ⟨R, U z (by rw [g]; simp) b' (by rw [i]; simp)⟩
  have l2 : Lk (nq c) B1 A2 := by
   intro A' z b' B' g i
   have g1 : 0 < B1.length := by rw [g]; simp
   have g2 : 0 < A2.length := by rw [i]; simp
   have R : J t = false := by
    rcases t4 with t4 | t4
    ·omega
    ·exact t4
   have s := xW (Cm B2 g)
   have v := xW (CQ A1 i)
   rw [show B1.length - 1 = p - t - d by omega] at s
   rw [L] at v
   rw [Q _ _ _ v s, Bool.not_eq_false'] at R
   exact .inl R
  exact QB h (fun A B pre post a m b g i q3 => ih A B pre post n a m b g i q3 (by omega)) A1 A2 B1 B2 pre post a m b mid d t j (by rw [E]; congr 1; omega) L Y (by omega) (by omega) (by omega) (by omega) (by omega) hA hB U T (by omega) ha D (by rw [O]; congr 1; omega) l1 l2
end
end Go.Proofs.YtmlncblocfcmiaaGreat
namespace Go.Proofs.YtmlncblocfcmiaaGreat
open Go.RowKit
section
variable {c : Formula → Formula → Int} {G : Formula → Prop} {f : Formula × Formula → Option Int}
def xc (c : Formula → Formula → Int) : Nat → List (List (Formula × Nat)) → Prop
 | _, [] => True
 | o, A :: bs => ob (nq c) A ∧ (∀ x ∈ A, o ≤ x.2 ∧ x.2 < o + A.length) ∧ xc c (o + A.length) bs
def WB (s : Nat) : List (List (Formula × Nat)) → Prop
 | [] => True
 | A :: bs => A.length ≤ s ∧ (bs ≠ [] → A.length = s) ∧ WB s bs
theorem xc.append : ∀ {ds bs : List (List (Formula × Nat))} {o : Nat}, xc c o (ds ++ bs) ↔ xc c o ds ∧ xc c (o + ds.flatten.length) bs
 | [], bs, o => by simp [xc]
 | A :: ds, bs, o => by
  simp only [bR, xc, xc.append (ds := ds), bQ, aF, and_assoc, ev]
def fm (bs : List (List (Formula × Nat))) : List Formula := bs.flatten.map (·.1)
theorem HL (a b : List (List (Formula × Nat))) : fm (a ++ b) = fm a ++ fm b := by simp [fm]
theorem Kt (A : List (Formula × Nat)) (b : List (List (Formula × Nat))) : fm (A :: b) = A.map (·.1) ++ fm b := by simp [fm]
theorem qV (a : List (List (Formula × Nat))) : (fm a).length = a.flatten.length := by unfold fm; rw [dA]
theorem LY (ds : List (List (Formula × Nat))) (C : List (Formula × Nat)) : (ds ++ [C]).flatten.length = ds.flatten.length + C.length := by rw [cT, aF]; simp only [bQ, dG, bH]
theorem Qy (C : List (Formula × Nat)) (bs : List (List (Formula × Nat))) : fm ([C] ++ bs) = C.map (·.1) ++ fm bs := by simp [fm]
theorem Es {R : List Formula} {o : Nat} {x : Formula × Nat} (h : x ∈ R.zipIdx o) : x.1 ∈ R := List.fst_mem_of_mem_zipIdx h
theorem WB.two {s : Nat} {A : List (Formula × Nat)} {bs : List (List (Formula × Nat))} (g : 0 < s) (h : WB s (A :: bs)) (d : s < (A :: bs).flatten.length) : A.length = s ∧ ∃ B a, bs = B :: a ∧ (B.length = s ∨ a = []) ∧ B.length ≤ s ∧ WB s a := by
 cases bs with
 | nil => simp at d; have := h.1; omega
 | cons B a =>
  refine ⟨h.2.1 (by simp), B, a, rfl, ?_, h.2.2.1, h.2.2.2.2⟩
  by_cases b : a = []
  ·exact .inr b
  ·exact .inl (h.2.2.2.1 b)
theorem Je (h : SWO (nq c)) (u : B3 f c G) {ds bs : List (List (Formula × Nat))} {A B : List (Formula × Nat)} (hO : xc c 0 (ds ++ A :: B :: bs)) (s : ∀ x ∈ (ds ++ A :: B :: bs).flatten, G x.1) (i : (fm (ds ++ A :: B :: bs)).length ≤ 400000) (q : 0 < A.length) (r : 0 < B.length) (a m b : Int) (ha : a = (ds.flatten.length : Int)) (hm : m = ((ds.flatten.length + A.length : Nat) : Int)) (t : b = ((ds.flatten.length + A.length + B.length : Nat) : Int)) :
  ∃ C, lA jY (fm (ds ++ A :: B :: bs)) a m b f = some (fm ((ds ++ [C]) ++ bs)) ∧ xc c 0 ((ds ++ [C]) ++ bs) ∧ C.Perm (A ++ B) := by
 obtain ⟨h1, p⟩ := xc.append.1 hO
 obtain ⟨E, l, F, n, v⟩ := p
 have e : fm (ds ++ A :: B :: bs) = fm ds ++ (A.map (·.1) ++ (B.map (·.1) ++ fm bs)) := by rw [HL, Kt, Kt]
 rw [e] at i ⊢
 have j := i
 simp only [aF, dA, qV] at j
 obtain ⟨C, z, D, k⟩ := RD h u (A.length + B.length) A B (fm ds) (fm bs) jY a m b (aY _) q r (by rw [mc]; omega) E F (fun x d y w => by have := (l x d).2; have := (n y w).1; omega)
  (fun x d => s x (by
   rw [cT, bQ, bQ, aV, aV, aV]
   rcases aV.1 d with d | d
   ·exact .inr (.inl d)
   ·exact .inr (.inr (.inl d)))) i (by rw [ha, qV]) (by rw [hm, qV]) (by rw [t, qV])
 have g := k.length_eq
 simp only [aF] at g
 refine ⟨C, by rw [z, aP, HL, Qy], ?_, k⟩
 ·rw [aP, xc.append]
  refine ⟨h1, D, fun x d => ?_, ?_⟩
  ·rcases aV.1 (k.mem_iff.1 d) with d | d
   ·have := l x d; omega
   ·have := n x d; omega
  ·rw [g, ← ev]; exact v
theorem Jz {ds bs : List (List (Formula × Nat))} {A B C : List (Formula × Nat)} (h : C.Perm (A ++ B)) : ((ds ++ [C]) ++ bs).flatten.Perm (ds ++ A :: B :: bs).flatten := by
 simp only [cT, bQ, dG, bH, aP]
 refine cE _ ?_
 rw [← aP]
 exact h.append_right _
theorem O6 (h : SWO (nq c)) (O : B3 f c G) (s : Nat) (Q : 0 < s) (R : s ≤ 1000000) (N : Nat) (hN : N ≤ 400000) : ∀ (k : Nat) (bs ds : List (List (Formula × Nat))) (n : Nat) (a b : Int), bs.length ≤ k → k < n → xc c 0 (ds ++ bs) → (∀ x ∈ (ds ++ bs).flatten, G x.1) → (ds ++ bs).flatten.length = N → WB s bs → (∀ A ∈ ds, A.length = 2 * s) →
  a = (ds.flatten.length : Int) → b = ((ds.flatten.length + 2 * s : Nat) : Int) →
  ∃ es r, mn (N : Int) (s : Int) f n (fm (ds ++ bs)) a b = some (fm (es ++ r), (es.flatten.length : Int)) ∧ xc c 0 (es ++ r) ∧ (es ++ r).flatten.Perm (ds ++ bs).flatten ∧ WB s r ∧ r.flatten.length < 2 * s ∧ (∀ A ∈ es, A.length = 2 * s) := by
 intro k
 induction k with
 | zero =>
  intro bs ds n a b hk P hO q j t l ha L
  obtain ⟨n, rfl⟩ := aS (by omega : n ≠ 0)
  obtain rfl := aU (Nat.le_zero.1 hk)
  simp only [bH] at j
  rw [mn]
  have : ¬ (b ≤ (N : Int)) := by omega
  simp only [this, cD, aC, aK]
  exact ⟨ds, [], by rw [ha], hO, .refl _, trivial, by simp only [dG, bW]; omega, l⟩
 | succ k ih =>
  intro bs ds n a b hk P hO q j t l ha L
  obtain ⟨n, rfl⟩ := aS (by omega : n ≠ 0)
  rw [mn]
  by_cases hle : b ≤ (N : Int)
  ·simp only [hle, cA, aT]
   have d := j
   rw [cT, aF] at d
   cases bs with
   | nil => simp only [dG, bW] at d; omega
   | cons A bs =>
    obtain ⟨hA, B, i, rfl, m, I, u⟩ := WB.two Q t (by omega)
    have J : B.length = s := by
     rcases m with m | rfl
     ·exact m
     ·simp only [bQ, dG, bH, aF] at d; omega
    have Y : IntKind.i64.wrap (a + (s : Int)) = ((ds.flatten.length + A.length : Nat) : Int) := np _ (by omega) (by omega)
    obtain ⟨C, U, W, v⟩ := Je h O hO q (by rw [qV]; omega) (by omega) (by omega) a _ b ha Y (by omega)
    rw [U, aA]
    have p := v.length_eq
    simp only [aF] at p
    have Z : IntKind.i64.wrap (2 * (s : Int)) = ((2 * s : Nat) : Int) := np _ (by omega) (by omega)
    have M : (ds ++ [C]).flatten.length = ds.flatten.length + 2 * s := by rw [LY]; omega
    have w3 : IntKind.i64.wrap (b + ((2 * s : Nat) : Int)) = (((ds ++ [C]).flatten.length + 2 * s : Nat) : Int) := np _ (by omega) (by omega)
    have hp := Jz (ds := ds) (bs := i) v
    rw [Z, w3]
    obtain ⟨es, r, w, y, z, D, E, F⟩ := ih i (ds ++ [C]) n b _ (by simp at hk; omega) (by omega) W (fun x T => q x (hp.mem_iff.1 T)) (by rw [hp.length_eq, j]) u (fun X g => by
     rcases aV.1 g with g | g
     ·exact l X g
     ·simp at g; rw [g]; omega) (by rw [M]; omega) rfl
    exact ⟨es, r, w, y, z.trans hp, D, E, F⟩
  ·simp only [hle, cD, aC, aK]
   refine ⟨ds, bs, by rw [ha], hO, .refl _, t, ?_, l⟩
   rw [cT, aF] at j
   omega
theorem WB.FU {t : Nat} : ∀ {es : List (List (Formula × Nat))} {C : List (Formula × Nat)}, (∀ A ∈ es, A.length = t) → C.length ≤ t → WB t (es ++ [C])
 | [], C, _, a => ⟨a, fun h => absurd rfl h, trivial⟩
 | E :: es, C, h, a => ⟨by rw [h E (by simp)]; omega, fun _ => h E (by simp), WB.FU (fun A b => h A (by simp [b])) a⟩
theorem LB {s : Nat} {r : List (List (Formula × Nat))} {o : Nat} (b : WB s r) (d : r.flatten.length ≤ s) (hO : xc c o r) : ob (nq c) r.flatten ∧ ∀ x ∈ r.flatten, o ≤ x.2 ∧ x.2 < o + r.flatten.length := by
 cases r with
 | nil => exact ⟨.nil, fun x g => by cases g⟩
 | cons A r =>
  have : r.flatten = [] := by
   by_cases a : r = []
   ·rw [a]; rfl
   ·have := b.2.1 a
    rw [bQ, aF] at d
    exact aU (by omega)
  rw [bQ, this, bH]
  exact ⟨hO.1, hO.2.1⟩
theorem NS (h : SWO (nq c)) (R : B3 f c G) (N : Nat) (hN : N ≤ 400000) : ∀ (k s : Nat) (bs : List (List (Formula × Nat))) (n : Nat), N - s ≤ k → k < n → 0 < s → s ≤ 1000000 → xc c 0 bs → (∀ x ∈ bs.flatten, G x.1) → bs.flatten.length = N → WB s bs →
  ∃ u, lN (N : Int) f n (fm bs) (s : Int) = some (u.map (·.1)) ∧ ob (nq c) u ∧ u.Perm bs.flatten := by
 intro k
 induction k with
 | zero =>
  intro s bs n hk hn E m hO l i b
  obtain ⟨n, rfl⟩ := aS (by omega : n ≠ 0)
  rw [lN]
  have : ¬ ((s : Int) < (N : Int)) := by omega
  simp only [this, cD, aC, aK]
  refine ⟨bs.flatten, rfl, ?_, .refl _⟩
  cases bs with
  | nil => exact .nil
  | cons A bs =>
   have : bs.flatten = [] := by
    by_cases d : bs = []
    ·rw [d]; rfl
    ·have := b.2.1 d
     rw [bQ, aF] at i
     exact aU (by omega)
   rw [bQ, this, bH]
   exact hO.1
 | succ k ih =>
  intro s bs n hk hn E m hO l i b
  by_cases a8 : s < N
  ·obtain ⟨n, rfl⟩ := aS (by omega : n ≠ 0)
   rw [lN]
   have : ((s : Int) < (N : Int)) := by omega
   simp only [this, cA, aT]
   have w1 : IntKind.i64.wrap (2 * (s : Int)) = ((2 * s : Nat) : Int) := np _ (by omega) (by omega)
   have w0 : IntKind.i64.wrap ((s : Int) * 2) = ((2 * s : Nat) : Int) := np _ (by omega) (by omega)
   have a7 : bs.length ≤ 2000000 := by
    have : ∀ {bs : List (List (Formula × Nat))}, WB s bs → bs.length ≤ bs.flatten.length + 1 := by
     intro bs
     induction bs with
     | nil => intro _; simp
     | cons A bs F =>
      intro b
      by_cases d : bs = []
      ·subst d; simp
      ·have := b.2.1 d
       have := F b.2.2
       simp only [aO, bQ, aF]
       omega
    have := this b
    omega
   obtain ⟨es, r, L, M, a, O, P, Q⟩ := O6 h R s E m N hN bs.length bs [] jY 0 ((2 * s : Nat) : Int) (aY _) (by rw [mc]; omega) (by simpa using hO) (by simpa using l) (by simpa using i) b (by simp) rfl (by simp)
   simp only [aZ] at L a
   rw [w1, L, aA, w0]
   have j := a.length_eq
   rw [i, cT, aF] at j
   have w2 : IntKind.i64.wrap ((es.flatten.length : Int) + (s : Int)) = ((es.flatten.length + s : Nat) : Int) := np _ (by omega) (by omega)
   simp only [w2]
   by_cases hm : es.flatten.length + s < N
   ·have : (((es.flatten.length + s : Nat) : Int) < (N : Int)) := by omega
    simp only [this, cA, aT, nA]
    cases r with
    | nil => simp only [dG, bW] at j; omega
    | cons A r =>
     obtain ⟨hA, B, W, rfl, q, a1, a6⟩ := WB.two E O (by omega)
     have D : W = [] := by
      rcases q with q | q
      ·by_cases hr : W = []
       ·exact hr
       ·simp only [bQ, aF] at P; omega
      ·exact q
     subst D
     simp only [bQ, dG, bH, aF] at j P
     obtain ⟨C, q1, T, U⟩ := Je h R M (fun x p => l x (a.mem_iff.1 p)) (by rw [qV, a.length_eq]; omega) (by omega) (by omega) (es.flatten.length : Int) ((es.flatten.length + s : Nat) : Int) (N : Int) rfl (by omega) (by omega)
     rw [q1, aA]
     have v := U.length_eq
     simp only [aF] at v
     have hp := (Jz (ds := es) (bs := []) U).trans a
     simp only [bH] at T hp ⊢
     obtain ⟨u, I, J, t⟩ := ih (2 * s) (es ++ [C]) n (by omega) (by omega) (by omega) (by omega) T (fun x p => l x (hp.mem_iff.1 p)) (by rw [hp.length_eq, i]) (WB.FU Q (by omega))
     exact ⟨u, I, J, t.trans hp⟩
   ·have : ¬ (((es.flatten.length + s : Nat) : Int) < (N : Int)) := by omega
    simp only [this, cD, aC, aK, aA]
    obtain ⟨w, y⟩ := xc.append.1 M
    obtain ⟨Y, Z⟩ := LB O (by omega) y
    have z : fm (es ++ r) = fm (es ++ [r.flatten]) := by simp [fm]
    have g : (es ++ [r.flatten]).flatten = (es ++ r).flatten := by simp
    rw [z]
    obtain ⟨u, I, J, t⟩ := ih (2 * s) (es ++ [r.flatten]) n (by omega) (by omega) (by omega) (by omega) (xc.append.2 ⟨w, Y, Z, trivial⟩) (fun x p => l x (a.mem_iff.1 (by rw [← g]; exact p))) (by rw [g, a.length_eq, i]) (WB.FU Q (by omega))
    exact ⟨u, I, J, by rw [g] at t; exact t.trans a⟩
  ·obtain ⟨n, rfl⟩ := aS (by omega : n ≠ 0)
   rw [lN]
   have : ¬ ((s : Int) < (N : Int)) := by omega
   simp only [this, cD, aC, aK]
   refine ⟨bs.flatten, rfl, ?_, .refl _⟩
   cases bs with
   | nil => exact .nil
   | cons A bs =>
    have : bs.flatten = [] := by
     by_cases d : bs = []
     ·rw [d]; rfl
     ·have := b.2.1 d
      rw [bQ, aF] at i
      exact aU (by omega)
    rw [bQ, this, bH]
    exact hO.1
theorem GX : ∀ (l : List Formula) (o : Nat), (l.zipIdx o).Pairwise (fun x y => x.2 < y.2)
 | [], o => by simp
 | x :: l, o => by
  rw [iT, cI]
  refine ⟨fun y d => ?_, GX l (o + 1)⟩
  obtain ⟨a, b⟩ := y
  have := List.le_snd_of_mem_zipIdx d
  simp only at this ⊢; omega
theorem Kx (l : List Formula) (o : Nat) : ∀ x ∈ l.zipIdx o, o ≤ x.2 ∧ x.2 < o + l.length := by
 rintro ⟨a, b⟩ d
 have h1 := List.le_snd_of_mem_zipIdx d
 have g := List.snd_lt_add_of_mem_zipIdx d
 simp only at h1 g ⊢; omega
theorem Me (h : SWO (nq c)) (k : B3 f c G) (N : Nat) (s : N ≤ 300000) (R : List Formula) (ds : List (List (Formula × Nat))) (n : Nat) (a b : Int) (y : 0 < n) (hO : xc c 0 ds) (m : ∀ A ∈ ds, A.length = 20) (p : ∀ x ∈ ds.flatten, G x.1) (j : ∀ x ∈ R, G x) (w : ds.flatten.length + R.length = N) (q : R.length < 20) (ha : a = (ds.flatten.length : Int)) (t : b = ((ds.flatten.length + 20 : Nat) : Int)) :
  ∃ u, lO (N : Int) f n (fm ds ++ R) a b = some (u.map (·.1)) ∧ ob (nq c) u ∧ u.Perm (ds.flatten ++ R.zipIdx ds.flatten.length) := by
 obtain ⟨n, rfl⟩ := aS (by omega : n ≠ 0)
 rw [lO]
 have hle : ¬ (b ≤ (N : Int)) := by omega
 simp only [hle, cD, aC, aK, nA]
 obtain ⟨u, l, r, g⟩ := Ki h k (fm ds) [] (R.zipIdx ds.flatten.length) a (N : Int) (GX _ _) (fun x d => j x.1 (Es d)) (by simp only [aF, qV, dA, eV, bW]; omega) (by rw [qV]; exact ha) (by rw [qV, eV]; omega)
 rw [List.zipIdx_map_fst, bH, bH] at l
 have i := g.length_eq
 rw [eV] at i
 have e : fm ds ++ u.map (·.1) = fm (ds ++ [u]) := by simp [fm]
 have hp : (ds ++ [u]).flatten.Perm (ds.flatten ++ R.zipIdx ds.flatten.length) := by
  rw [cT]
  refine cE _ ?_
  simpa using g
 rw [l, aA, e]
 obtain ⟨v, v1, v2, v3⟩ := NS h k N (by omega) N 20 (ds ++ [u]) jY (by omega) (by rw [mc]; omega) (by omega) (by omega) (xc.append.2 ⟨hO, r, fun x d => by have := Kx R ds.flatten.length x (g.mem_iff.1 d); omega, trivial⟩) (fun x d => by
  rw [cT, aV] at d
  rcases d with d | d
  ·exact p x d
  ·simp only [bQ, dG, bH] at d
   exact j x.1 (Es (g.mem_iff.1 d))) (by rw [hp.length_eq, aF, eV]; omega) (WB.FU m (by omega))
 exact ⟨v, v1, v2, v3.trans hp⟩
theorem NH (h : SWO (nq c)) (w : B3 f c G) (N : Nat) (D : N ≤ 300000) : ∀ (k : Nat) (R : List Formula) (ds : List (List (Formula × Nat))) (n : Nat) (a b : Int), R.length ≤ k → k < n → xc c 0 ds → (∀ A ∈ ds, A.length = 20) → (∀ x ∈ ds.flatten, G x.1) → (∀ x ∈ R, G x) → ds.flatten.length + R.length = N →
  a = (ds.flatten.length : Int) → b = ((ds.flatten.length + 20 : Nat) : Int) →
  ∃ u, lO (N : Int) f n (fm ds ++ R) a b = some (u.map (·.1)) ∧ ob (nq c) u ∧ u.Perm (ds.flatten ++ R.zipIdx ds.flatten.length) := by
 intro k
 induction k with
 | zero =>
  intro R ds n a b hk E hO p q j r ha t
  obtain rfl := aU (Nat.le_zero.1 hk)
  exact Me h w N D [] ds n a b E hO p q j r (by simp) ha t
 | succ k ih =>
  intro R ds n a b hk E hO p q j r ha t
  by_cases z : R.length < 20
  ·exact Me h w N D R ds n a b (by omega) hO p q j r z ha t
  obtain ⟨n, rfl⟩ := aS (by omega : n ≠ 0)
  obtain ⟨R1, R2, rfl, m⟩ := wF (l := R) (n := 20) (by omega)
  rw [aF] at r hk
  rw [lO]
  have hle : b ≤ (N : Int) := by omega
  simp only [hle, cA, aT]
  obtain ⟨u, F, I, s⟩ := Ki h w (fm ds) R2 (R1.zipIdx ds.flatten.length) a b (GX _ _) (fun x d => j x.1 (by simp [Es d])) (by simp only [aF, qV, dA, eV, bW]; omega) (by rw [qV]; exact ha) (by rw [qV, eV]; omega)
  rw [List.zipIdx_map_fst] at F
  rw [F, aA]
  have g := s.length_eq
  rw [eV, m] at g
  have y : (ds ++ [u]).flatten.length = ds.flatten.length + 20 := by rw [LY, g]
  have J : IntKind.i64.wrap (b + 20) = (((ds ++ [u]).flatten.length + 20 : Nat) : Int) := np _ (by omega) (by omega)
  have e : fm ds ++ (u.map (·.1) ++ R2) = fm (ds ++ [u]) ++ R2 := by simp [fm]
  rw [e, J]
  obtain ⟨v, v1, v2, v3⟩ := ih R2 (ds ++ [u]) n b _ (by omega) (by omega) (xc.append.2 ⟨hO, I, fun x d => by have := Kx R1 ds.flatten.length x (s.mem_iff.1 d); omega, trivial⟩) (fun A i => by
   rcases aV.1 i with i | i
   ·exact p A i
   ·simp at i; rw [i]; exact g) (fun x d => by
   rw [cT, aV] at d
   rcases d with d | d
   ·exact q x d
   ·simp only [bQ, dG, bH] at d
    exact j x.1 (by simp [Es (s.mem_iff.1 d)])) (fun x d => j x (by simp [d])) (by omega) (by omega) rfl
  refine ⟨v, v1, v2, v3.trans ?_⟩
  rw [y, cT, List.zipIdx_append, m, aP]
  refine cE _ ?_
  simp only [bQ, dG, bH]
  exact s.append_right _
theorem KO (h : SWO (nq c)) (g : B3 f c G) (l : List Formula) (d : ∀ x ∈ l, G x) (i : l.length ≤ 300000) : oC l f = some (IL (nq c) l) := by
 unfold oC qD
 obtain ⟨u, a, j, b⟩ := NH h g l.length i l.length l [] jY 0 20 (aY _) (by rw [mc]; omega) trivial (by simp) (by simp) d (by simp) rfl rfl
 simp only [fm, dG, eW, aZ, bW] at a b
 rw [a, aA, Pt h j b]
end
end Go.Proofs.YtmlncblocfcmiaaGreat
namespace Go.Proofs.YtmlncblocfcmiaaGreat
open Go.RowKit
theorem IM {P : Formula → Prop} (h : ∀ f, (∀ k ∈ f.Kids, P k) → P f) : ∀ f, P f := by
 intro f
 refine Formula.rec (motive_1 := P) (motive_2 := fun ks => ∀ k ∈ ks, P k) ?_ ?_ ?_ f
 ·intro o k r ks ih; exact h _ ih
 ·intro k hk; cases hk
 ·intro k ks h1 b x a
  rcases aR.1 a with rfl | a
  ·exact h1
  ·exact b x a
mutual
def kv : Formula → Nat
 | ⟨_, _, _, ks⟩ => 1 + nodesL ks
def nodesL : List Formula → Nat
 | [] => 0
 | k :: ks => kv k + nodesL ks
end
mutual
def nG : Formula → Nat
 | ⟨_, _, _, ks⟩ => deepL ks + 1
def deepL : List Formula → Nat
 | [] => 0
 | k :: ks => max (nG k) (deepL ks)
end
theorem nP (f : Formula) : kv f = 1 + nodesL f.Kids := by cases f; rw [kv]
theorem mE (f : Formula) : nG f = deepL f.Kids + 1 := by cases f; rw [nG]
theorem tb : ∀ {ks : List Formula} {k : Formula}, k ∈ ks → kv k ≤ nodesL ks
 | x :: ks, k, h => by
  rw [nodesL]
  rcases aR.1 h with rfl | h
  ·omega
  ·have := tb h; omega
theorem qw : ∀ {ks : List Formula} {k : Formula}, k ∈ ks → nG k ≤ deepL ks
 | x :: ks, k, h => by
  rw [deepL]
  rcases aR.1 h with rfl | h
  ·omega
  ·have := qw h; omega
theorem wL : ∀ f : Formula, nG f ≤ kv f := by
 refine IM fun f ih => ?_
 rw [mE, nP]
 have : ∀ ks : List Formula, (∀ k ∈ ks, nG k ≤ kv k) → deepL ks ≤ nodesL ks := by
  intro ks
  induction ks with
  | nil => intro _; rw [deepL]; omega
  | cons k ks a =>
   intro h
   have := a (fun x b => h x (by simp [b]))
   have := h k (by simp)
   rw [deepL, nodesL]; omega
 have := this f.Kids ih
 omega
theorem pz : ∀ ks : List Formula, ks.length ≤ nodesL ks
 | [] => by rw [nodesL]; simp
 | k :: ks => by have := pz ks; have := nP k; rw [nodesL, aO]; omega
theorem MD (yO : Nat) (hm : yO ≤ 4096) (rec : Formula → Int → Option (Int × Int)) : ∀ (ks : List Formula), (∀ k ∈ ks, ∀ q : Nat, q ≤ 4096 → ∃ n d : Nat, rec k (q : Int) = some ((n : Int), (d : Int)) ∧ 1 ≤ n ∧ n ≤ kv k ∧ d ≤ kv k ∧ (kv k ≤ q → n = kv k ∧ d = nG k) ∧ (q < kv k → q < n)) → ∀ x y : Nat, x + nodesL ks ≤ 100000000 →
  ∃ n d : Nat, oW (yO : Int) rec ks (x : Int) (y : Int) = some ((n : Int), (d : Int)) ∧ x ≤ n ∧ n ≤ x + nodesL ks ∧ d ≤ max y (nodesL ks) ∧ (x + nodesL ks ≤ yO → n = x + nodesL ks ∧ d = max y (deepL ks)) ∧ (yO < x + nodesL ks → yO < n)
 | [], _, x, y, _ => by
  rw [oW, nodesL, deepL]
  exact ⟨x, y, rfl, by omega, by omega, by omega, fun _ => ⟨by omega, by omega⟩, fun h => by omega⟩
 | k :: ks, b, x, y, l => by
  rw [nodesL] at l ⊢
  rw [oW, deepL]
  by_cases g : (x : Int) > (yO : Int)
  ·simp only [g, cA, aT]
   exact ⟨x, y, rfl, by omega, by omega, by omega, fun _ => by omega, fun h => by omega⟩
  ·simp only [g, cD, aC, aK]
   have r : IntKind.i64.wrap ((yO : Int) - (x : Int)) = ((yO - x : Nat) : Int) := by rw [kG (by omega) (by omega)]; omega
   obtain ⟨m, d, e, h1, u, v, a, j⟩ := b k (by simp) (yO - x) (by omega)
   rw [r, e, aA]
   have s : IntKind.i64.wrap ((x : Int) + (m : Int)) = ((x + m : Nat) : Int) := by rw [kG (by omega) (by omega)]; omega
   have t : (if (d : Int) > (y : Int) then (d : Int) else (y : Int)) = ((max y d : Nat) : Int) := by split <;> omega
   simp only [s, t]
   obtain ⟨n, i, e', g1, g2, g3, g4, g5⟩ := MD yO hm rec ks (fun z p => b z (by simp [p])) (x + m) (max y d) (by omega)
   refine ⟨n, i, e', by omega, by omega, by omega, fun h => ?_, fun h => ?_⟩
   ·obtain ⟨rfl, rfl⟩ := a (by omega)
    obtain ⟨rfl, rfl⟩ := g4 (by omega)
    exact ⟨by omega, by omega⟩
   ·by_cases hk : yO - x < kv k
    ·have := j hk; omega
    ·obtain ⟨rfl, _⟩ := a (by omega)
     exact g5 (by omega)
theorem NI : ∀ (n : Nat) (f : Formula), nG f ≤ n → kv f ≤ 50000000 → ∀ q : Nat, q ≤ 4096 → ∃ m d : Nat, oa n f (q : Int) = some ((m : Int), (d : Int)) ∧ 1 ≤ m ∧ m ≤ kv f ∧ d ≤ kv f ∧ (kv f ≤ q → m = kv f ∧ d = nG f) ∧ (q < kv f → q < m) := by
 intro n
 induction n with
 | zero => intro f h; rw [mE] at h; omega
 | succ n ih =>
  intro f i s q a
  rw [mE] at i
  have j := nP f
  rw [oa]
  unfold uZ
  obtain ⟨m, d, e, h1, p, r, b, g⟩ := MD q a (oa n) f.Kids (fun k hk q a => ih k (by have := qw hk; omega) (by have := tb hk; omega) q a) 1 0 (by omega)
  have e' : oW (q : Int) (oa n) f.Kids 1 0 = some ((m : Int), (d : Int)) := e
  rw [e', aA]
  have l : IntKind.i64.wrap ((d : Int) + 1) = ((d + 1 : Nat) : Int) := by rw [kG (by omega) (by omega)]; omega
  simp only [l]
  refine ⟨m, d + 1, rfl, h1, by omega, by omega, fun h => ?_, fun h => g (by omega)⟩
  obtain ⟨rfl, rfl⟩ := b (by omega)
  rw [mE]
  exact ⟨by omega, by omega⟩
theorem OE (f : Formula) (g : kv f ≤ 50000000) : wN f = some (if kv f ≤ 4096 then ((kv f : Int), (nG f : Int)) else (0, 0)) := by
 unfold wN
 have := wL f
 obtain ⟨m, d, e, h1, i, j, a, b⟩ := NI jY f (by rw [mc]; omega) g 4096 (aY _)
 have e' : oa jY f 4096 = some ((m : Int), (d : Int)) := e
 rw [e', aA]
 by_cases h : kv f ≤ 4096
 ·obtain ⟨rfl, rfl⟩ := a h
  have : ¬ ((kv f : Int) > 4096) := by omega
  simp [this, h]
 ·have := b (by omega)
  have : ((m : Int) > 4096) := by omega
  simp [this, h]
def pu : jq := ⟨zS, zS⟩
def CL (f : Formula) : Bool := if f.Op = 1 then lV f.jq && decide (f.Kids.length = 0) && decide (f.K = 0) else if f.Op = 2 ∨ f.Op = 3 then jP f.jq pu && decide (f.K = 0) else decide (f.Op = 4) && jP f.jq pu && decide (0 ≤ f.K) && decide (f.K ≤ (f.Kids.length : Int)) && decide (1 ≤ f.Kids.length)
theorem OO (f : Formula) : wR f = some (CL f) := by
 unfold wR CL
 simp only [yx, aA, nA]
 by_cases h1 : f.Op = 1
 ·simp only [h1, aW, aT]
  cases p : lV f.jq
  ·simp
  ·by_cases k : f.Kids.length = 0
   ·have : f.Kids = [] := aU k
    by_cases hk : f.K = 0 <;> simp [this, hk]
   ·have : ((f.Kids.length : Int) == 0) = false := by simp; intro h; exact k (by simp [h])
    simp only [aT, aA, this, aC, aK, k, cD, Bool.and_false, gi]
 ·have m : (f.Op == 1) = false := by simpa using h1
  simp only [m, aC, aK, h1]
  by_cases d : f.Op = 2 ∨ f.Op = 3
  ·have i : (if f.Op == 2 then some (f.Op == 2) else some (f.Op == 3)) = some true := by
    rcases d with h | h <;> simp [h]
   simp only [i, aA, aT, d]
   cases g : jP f.jq ⟨zS, zS⟩ <;> by_cases hk : f.K = 0 <;> simp [pu, g, hk]
  ·have i : (if f.Op == 2 then some (f.Op == 2) else some (f.Op == 3)) = some false := by
    have a : f.Op ≠ 2 := fun h => d (.inl h)
    have b : f.Op ≠ 3 := fun h => d (.inr h)
    simp [a, b]
   simp only [i, aA, aC, aK, d]
   by_cases j : f.Op = 4
   ·simp only [j, aW, aT, aA, cA, ej]
    cases g : jP f.jq ⟨zS, zS⟩
    ·simp [pu, g]
    ·by_cases c1 : 0 ≤ f.K <;> by_cases c2 : f.K ≤ (f.Kids.length : Int) <;> by_cases l : 1 ≤ f.Kids.length <;> simp [pu, g, c1, c2, l] <;> omega
   ·have n : (f.Op == 4) = false := by simpa using j
    simp [n, j]
mutual
def sV : Formula → Bool
 | ⟨o, n, r, ks⟩ => CL ⟨o, n, r, ks⟩ && decide (ks.length ≤ 8) && wellL ks
def wellL : List Formula → Bool
 | [] => true
 | k :: ks => sV k && wellL ks
end
theorem Fb (f : Formula) : sV f = (CL f && decide (f.Kids.length ≤ 8) && wellL f.Kids) := by cases f; rw [sV]
theorem Dz : ∀ ks : List Formula, wellL ks = ks.all sV
 | [] => rfl
 | k :: ks => by rw [wellL, Dz ks]; rfl
theorem IX (f : Formula → Option Bool) : ∀ (l : List Formula) (i : Nat), nh f l i = yW f l i
 | [], i => by rw [nh]; rfl
 | x :: l, i => by
  rw [nh, yW]
  cases f x with
  | none => rfl
  | some b =>
   simp only [aA]
   rw [IX f l (i + 1)]
theorem E4 (f : Formula → Option Bool) (p : Formula → Bool) (l : List Formula) (h : ∀ x ∈ l, f x = some (p x)) : nO l f = some (l.any p) := by
 unfold nO sH
 rw [IX]
 rcases za f p l 0 h with ⟨e, h1⟩ | ⟨A, x, B, rfl, h1, a, e⟩
 ·rw [e, aA]
  have : l.any p = false := by rw [List.any_eq_false]; intro x b; rw [h1 x b]; simp
  rw [this]; rfl
 ·rw [e, aA]
  have : (A ++ x :: B).any p = true := by simp [a]
  rw [this]
  congr 1
theorem NO : ∀ (n : Nat) (f : Formula), nG f ≤ n → qC n f = some (sV f) := by
 intro n
 induction n with
 | zero => intro f h; rw [mE] at h; omega
 | succ n ih =>
  intro f h
  rw [mE] at h
  rw [qC]
  unfold vk
  rw [OO, aA, Fb, E4 _ (fun k => !sV k) f.Kids (fun k hk => by unfold ub; rw [ih k (by have := qw hk; omega)]; rfl)]
  rw [Dz]
  have e : (!(f.Kids.any fun k => !sV k)) = f.Kids.all sV := by rw [List.all_eq_not_any_not]
  cases CL f
  ·rfl
  ·by_cases a : f.Kids.length ≤ 8
   ·have : ((f.Kids.length : Int) ≤ 8) := by omega
    simp [a, this, e]
   ·have : ¬ ((f.Kids.length : Int) ≤ 8) := by omega
    simp [a, this]
def nl (f : Formula) : Bool := decide (kv f ≤ 64) && decide (nG f ≤ 6) && sV f
theorem CO (f : Formula) (b : kv f ≤ 50000000) : qz f = some (nl f) := by
 unfold qz nl
 have d := wL f
 rw [OE f b, aA, NO jY f (by rw [mc]; omega)]
 have h1 := nP f
 by_cases h : kv f ≤ 4096
 ·simp only [h, aT]
  have a : ((kv f : Int) ≥ 1) := by omega
  simp only [a, cA, aT, aA, nA]
  by_cases c1 : kv f ≤ 64 <;> by_cases c2 : nG f ≤ 6
  ·have d1 : ((kv f : Int) ≤ 64) := by omega
   have d2 : ((nG f : Int) ≤ 6) := by omega
   simp [c1, c2, d1, d2]
  ·have d1 : ((kv f : Int) ≤ 64) := by omega
   have d2 : ¬ ((nG f : Int) ≤ 6) := by omega
   simp [c1, c2, d1, d2]
  ·have d1 : ¬ ((kv f : Int) ≤ 64) := by omega
   simp [c1, d1]
  ·have d1 : ¬ ((kv f : Int) ≤ 64) := by omega
   simp [c1, d1]
 ·simp only [h, aK]
  have : ¬ kv f ≤ 64 := by omega
  simp [this]
theorem Formula.ext' {a b : Formula} (h1 : a.Op = b.Op) (d : a.K = b.K) (g : a.jq = b.jq) (h : a.Kids = b.Kids) : a = b := by
 cases a; cases b; simp only at h1 d g h; subst h1 d g h; rfl
theorem LF (g : Formula × Formula → Option Bool) : ∀ (l m : List Formula), l.length = m.length → (∀ x ∈ l, ∀ y, ∃ b, g (x, y) = some b ∧ (b = true ↔ x = y)) → ∀ (A : List Formula),
  ∃ b, kR (A ++ m) g l A.length = some b ∧ (b = true ↔ l = m)
 | [], m, d, _, A => by
  obtain rfl := aU d.symm
  exact ⟨true, rfl, by simp⟩
 | x :: l, [], d, _, A => by simp at d
 | x :: l, y :: m, d, i, A => by
  rw [kR]
  obtain ⟨b, e, h⟩ := i x (by simp) y
  have i1 : lE (A ++ y :: m) (A.length : Int) = some y := mJ _ _ _ _ rfl
  rw [i1, aA, e, aA]
  cases b with
  | false =>
   refine ⟨false, rfl, ?_⟩
   have : x ≠ y := fun a => by have := h.2 a; simp at this
   simp [this]
  | true =>
   have a := h.1 rfl
   obtain ⟨b, j, p⟩ := LF g l m (by simpa using d) (fun z q => i z (by simp [q])) (A ++ [y])
   simp only [cK, aC, aK]
   have k : A ++ y :: m = (A ++ [y]) ++ m := by simp
   have n : A.length + 1 = (A ++ [y]).length := by simp
   rw [k, n, j]
   exact ⟨b, rfl, by rw [p]; simp [a]⟩
theorem Pk : ∀ (n : Nat) (f : Formula), nG f ≤ n → ∀ g, ∃ b, nV n f g = some b ∧ (b = true ↔ f = g) := by
 intro n
 induction n with
 | zero => intro f h; rw [mE] at h; omega
 | succ n ih =>
  intro f h g
  rw [mE] at h
  rw [nV]
  unfold vQ
  by_cases h1 : f.Op = g.Op
  ·by_cases a : f.K = g.K
   ·by_cases d : f.jq = g.jq
    ·have j : jP f.jq g.jq = true := jQ.2 d
     simp only [h1, a, j, aW, aT, aA]
     unfold mC
     by_cases i : f.Kids.length = g.Kids.length
     ·have : ((f.Kids.length : Int) != (g.Kids.length : Int)) = false := by simp [i]
      simp only [this, aC, aK]
      obtain ⟨b, e, m⟩ := LF (fun x => nV n x.1 x.2) f.Kids g.Kids i (fun x p y => ih x (by have := qw p; omega) y) []
      simp only [aZ, bW] at e
      rw [e]
      refine ⟨b, by simp, m.trans ⟨fun hk => Formula.ext' h1 a d hk, fun hk => by rw [hk]⟩⟩
     ·have : ((f.Kids.length : Int) != (g.Kids.length : Int)) = true := by simp; omega
      simp only [this, aT]
      exact ⟨false, rfl, by simp; intro hk; rw [hk] at i; exact i rfl⟩
    ·have j : jP f.jq g.jq = false := by rw [← fL, jQ]; exact d
     simp only [h1, a, j, aW, aT, aA, aC, aK]
     exact ⟨false, rfl, by simp; intro hk; rw [hk] at d; exact d rfl⟩
   ·have l : (f.K == g.K) = false := by simpa using a
    simp only [h1, l, aW, aT, aA, aC, aK]
    exact ⟨false, rfl, by simp; intro hk; rw [hk] at a; exact a rfl⟩
  ·have k : (f.Op == g.Op) = false := by simpa using h1
   simp only [k, aA, aC, aK]
   exact ⟨false, rfl, by simp; intro hk; rw [hk] at h1; exact h1 rfl⟩
end Go.Proofs.YtmlncblocfcmiaaGreat
namespace Go.Proofs.YtmlncblocfcmiaaGreat
open Go.RowKit
mutual
def yl : Formula → List Int
 | ⟨o, k, r, ks⟩ => o :: (if o = 1 then rF r else (if o = 4 then [k] else []) ++ ((ks.length : Int) :: bytesFL ks))
def bytesFL : List Formula → List Int
 | [] => []
 | k :: ks => yl k ++ bytesFL ks
end
theorem Hr (f : Formula) : yl f = f.Op :: (if f.Op = 1 then rF f.jq else (if f.Op = 4 then [f.K] else []) ++ ((f.Kids.length : Int) :: bytesFL f.Kids)) := by cases f; rw [yl]
theorem xn {f : Formula} (h : sV f = true) : f.Kids.length ≤ 8 ∧ wellL f.Kids = true ∧ ((f.Op = 1 ∧ lV f.jq = true ∧ f.Kids = [] ∧ f.K = 0) ∨ ((f.Op = 2 ∨ f.Op = 3) ∧ f.jq = pu ∧ f.K = 0) ∨ (f.Op = 4 ∧ f.jq = pu ∧ 0 ≤ f.K ∧ f.K ≤ (f.Kids.length : Int) ∧ 1 ≤ f.Kids.length)) := by
 rw [Fb] at h
 simp only [bF, bO] at h
 obtain ⟨⟨h1, a⟩, b⟩ := h
 refine ⟨a, b, ?_⟩
 unfold CL at h1
 split at h1
 ·rename_i c
  simp only [bF, bO] at h1
  exact .inl ⟨c, h1.1.1, aU h1.1.2, h1.2⟩
 ·split at h1
  ·rename_i c
   simp only [bF, bO, jQ] at h1
   exact .inr (.inl ⟨c, h1.1, h1.2⟩)
  ·simp only [bF, bO, jQ] at h1
   exact .inr (.inr ⟨h1.1.1.1.1, h1.1.1.1.2, h1.1.1.2, h1.1.2, h1.2⟩)
theorem MO : ∀ (n : Nat) (f : Formula), nG f ≤ n → sV f = true → ∀ l : List Int, l.length + 40 * kv f ≤ 8000 → pq n l f = some (l ++ yl f) ∧ (yl f).length ≤ 40 * kv f := by
 intro n
 induction n with
 | zero => intro f h; rw [mE] at h; omega
 | succ n ih =>
  intro f t hw l r
  rw [mE] at t
  have u := nP f
  obtain ⟨h1, q, m⟩ := xn hw
  rw [pq]
  unfold ve
  have d : 0 ≤ f.Op ∧ f.Op < 128 := by rcases m with h | h | h <;> omega
  rw [ya d.1 d.2 (by omega), aA, Hr]
  have key : ∀ (ks : List Formula), (∀ k ∈ ks, k ∈ f.Kids) → wellL ks = true → ∀ l : List Int, l.length + 40 * nodesL ks ≤ 8000 → qe (pq n) ks l = some (l ++ bytesFL ks) ∧ (bytesFL ks).length ≤ 40 * nodesL ks := by
   intro ks
   induction ks with
   | nil => intro _ _ l _; rw [qe, bytesFL]; simp
   | cons k ks p =>
    intro hk a l r
    rw [wellL, bF] at a
    rw [nodesL] at r
    obtain ⟨i, w⟩ := ih k (by have := qw (hk k (by simp)); omega) a.1 l (by omega)
    obtain ⟨b, j⟩ := p (fun z v => hk z (by simp [v])) a.2 (l ++ yl k) (by simp; omega)
    rw [qe, i, aA, b, bytesFL, nodesL]
    exact ⟨by simp, by simp; omega⟩
  have hlen : 0 ≤ (f.Kids.length : Int) ∧ (f.Kids.length : Int) < 128 := by omega
  by_cases c1 : f.Op = 1
  ·have s : lV f.jq = true := by rcases m with h | h | h; exact h.2.1; omega; omega
   have := oy s
   simp only [c1, aW, aT]
   rw [IZ s (by simp; omega), aA]
   exact ⟨by simp, by simp; omega⟩
  ·have i : (f.Op == 1) = false := by simpa using c1
   simp only [i, aC, aK, c1]
   by_cases g : f.Op = 4
   ·have hk : 0 ≤ f.K ∧ f.K < 128 := by rcases m with h | h | h <;> omega
    simp only [g, aW, aT]
    rw [ya hk.1 hk.2 (by simp; omega)]
    simp only [aA]
    rw [ya hlen.1 hlen.2 (by simp; omega)]
    simp only [aA]
    obtain ⟨b, j⟩ := key f.Kids (fun k hk => hk) q (l ++ [4] ++ [f.K] ++ [(f.Kids.length : Int)]) (by simp; omega)
    rw [b]
    exact ⟨by simp, by simp; omega⟩
   ·have j : (f.Op == 4) = false := by simpa using g
    simp only [j, aC, aK, g, aA]
    rw [ya hlen.1 hlen.2 (by simp; omega)]
    simp only [aA]
    obtain ⟨b, x⟩ := key f.Kids (fun k hk => hk) q (l ++ [f.Op] ++ [(f.Kids.length : Int)]) (by simp; omega)
    rw [b]
    exact ⟨by simp, by simp; omega⟩
def xY (f : Formula) : List Int := if nl f then yl f else []
abbrev Gd (f : Formula) : Prop := kv f ≤ 50000000
theorem yM {f : Formula} (h : nl f = true) : kv f ≤ 64 ∧ nG f ≤ 6 ∧ sV f = true := by
 unfold nl at h
 simp only [bF, bO] at h
 exact ⟨h.1.1, h.1.2, h.2⟩
theorem PN (f : Formula) (d : Gd f) (l : List Int) (j : l.length ≤ 5000) : wh l f = some (nl f, l ++ xY f) ∧ (xY f).length ≤ 2560 := by
 unfold wh xY
 rw [CO f d, aA]
 cases h : nl f
 ·simp
 ·obtain ⟨h1, i, b⟩ := yM h
  obtain ⟨a, g⟩ := MO jY f (by rw [mc]; omega) b l (by omega)
  simp only [cK, aC, aK, a, aA, aT]
  exact ⟨trivial, by omega⟩
theorem F2 (f : Formula) (b : Gd f) : sK f = some (xY f) := by
 unfold sK
 obtain ⟨a, d⟩ := PN f b [] (by simp)
 rw [a, aA, nA]
 unfold tw
 simp only [aZ]
 rw [PV (by omega)]
 rfl
def AV (f g : Formula) : Int := xU (xY f) (xY g)
theorem La (f g : Formula) (a : Gd f) (b : Gd g) : sQ f g = some (AV f g) := by
 unfold sQ vU
 rw [F2 f a, F2 g b]
 rfl
theorem As (f g : Formula) : nq AV f g = Op.bytesLess (tS (xY f)) (tS (xY g)) := by
 rw [bU]
 have h : nq AV f g = true ↔ AV f g < 0 := by unfold nq; exact decide_eq_true_iff
 exact h.trans (BQ _ _)
theorem GP : SWO (nq AV) where
 Oo x := by rw [As, uS]
 tr x y z h1 a := by rw [As] at *; exact xS _ _ _ h1 a
 Mn x y z h := by
  rw [As] at h
  rw [As, As]
  rcases AP (tS (xY x)) (tS (xY y)) with h1 | h1 | h1
  ·exact .inl h1
  ·rw [h1] at h; exact .inr h
  ·exact .inr (xS _ _ _ h1 h)
def uK (l : List Formula) : List Formula := IL (nq AV) l
theorem Iu (l : List Formula) (a : ∀ x ∈ l, Gd x) (b : l.length ≤ 300000) : uJ l = some (uK l) := by
 unfold uJ rJ
 rw [mA (by simp; omega) (by simp; omega)]
 simp only [aA, aZ, nA]
 exact KO GP (fun x y d g => La x y d g) l a b
theorem MN {α : Type} (lt : α → α → Bool) (l : List α) (k : α) : (Ax lt l k).Perm (l ++ [k]) := by
 unfold Ax
 refine List.perm_middle.trans ((List.Perm.cons _ ?_).trans (gh k l).symm)
 have := List.filter_append_perm (fun x => !lt k x) l
 simpa using this
theorem MX {α : Type} (lt : α → α → Bool) (l : List α) : (IL lt l).Perm l := by
 suffices H : ∀ (l a : List α), (l.foldl (Ax lt) a).Perm (a ++ l) by have := H l []; rwa [aZ] at this
 intro l
 induction l with
 | nil => intro a; simp
 | cons k l ih =>
  intro a
  rw [gv]
  refine (ih _).trans ?_
  have := (MN lt a k).append_right l
  simpa using this
theorem xT (l : List Formula) : (uK l).Perm l := MX _ l
noncomputable def pR (a b : Formula) : Bool := @decide (a = b) (Classical.propDecidable _)
theorem Ar {a b : Formula} : pR a b = true ↔ a = b := by unfold pR; simp
theorem Ph (a b : Formula) (h : Gd a) : nV jY a b = some (pR a b) := by
 have := wL a
 obtain ⟨x, e, d⟩ := Pk jY a (by rw [mc]; omega) b
 rw [e]; congr 1
 rw [bU, d, Ar]
def Ro : Formula := ⟨0, 0, ⟨zS, zS⟩, []⟩
theorem Nn (f1 : Formula × Formula → Option Bool) (i : Int) : ∀ (n : Nat) (l : List Formula) (k j : Int), (∀ x ∈ l, ∀ y ∈ l, f1 (x, y) = some (pR x y)) → mF i f1 n l k j = AX pR i n l k j
 | 0, l, k, j, _ => by rw [mF, AX]
 | n + 1, l, k, j, h => by
  rw [mF, AX]
  split
  ·cases g : lE (l.drop (Int.toNat i)) j with
   | none => rfl
   | some x =>
    cases p : lE (l.drop (Int.toNat i)) (IntKind.i64.wrap (j - 1)) with
    | none => rfl
    | some y =>
     have d : x ∈ l := List.mem_of_mem_drop (dI (ki g))
     have r : y ∈ l := List.mem_of_mem_drop (dI (ki p))
     simp only [aA, h x d y r]
     cases pR x y
     ·simp only [dK, aT]
      cases s : lE l k with
      | none => rfl
      | some z =>
       simp only [aA]
       refine Nn f1 i n _ _ _ (fun a ha b q => ?_)
       have m : ∀ a ∈ l.set (Int.toNat k) x, a ∈ l := fun a ha => by
        rcases List.mem_or_eq_of_mem_set ha with ha | rfl
        ·exact ha
        ·exact d
       exact h a (m a ha) b (m b q)
     ·simp only [cK, aC, aK, aA]
      exact Nn f1 i n _ _ _ h
  ·rfl
theorem QE (f1 : Formula × Formula → Option Bool) (l : List Formula) (h : ∀ x ∈ l, ∀ y ∈ l, f1 (x, y) = some (pR x y)) : ∀ (n : Nat) (i : Int), mD l f1 n i = BI pR Ro l n i
 | 0, i => by rw [mD, BI]
 | n + 1, i => by
  rw [mD, BI]
  split
  ·cases a : lE l i with
   | none => rfl
   | some x =>
    cases b : lE l (IntKind.i64.wrap (i - 1)) with
    | none => rfl
    | some y =>
     have d : x ∈ l := dI (ki a)
     have g : y ∈ l := dI (ki b)
     simp only [aA, h x d y g]
     rw [Nn f1 i jY l i 1 h, QE f1 l h n]
     rfl
  ·rfl
theorem Lq (l : List Formula) (h : ∀ x ∈ l, Gd x) (b : l.length ≤ 300000) : ph l (fun x => nV jY x.1 x.2) = some (dd pR l) := by
 rw [← I1 pR Ro l (by omega)]
 unfold ph Iw
 rw [QE _ l (fun x a y _ => Ph x y (h x a))]
end Go.Proofs.YtmlncblocfcmiaaGreat
namespace Go.Proofs.YtmlncblocfcmiaaGreat
open Go.RowKit
def lj (op : Int) (f : Formula) : Bool := decide (f.Op = op) && f.Kids.isEmpty
theorem CP (f : Formula) (op : Int) : tk f op = some (lj op f) := by
 unfold tk lj
 rw [nA]
 by_cases h : f.Op = op
 ·simp only [h, aW, aT, cA, ej]
  congr 1
  cases hk : f.Kids with
  | nil => rfl
  | cons a l => simp; omega
 ·have e : (f.Op == op) = false := by simpa using h
  simp [e, h]
def nK (op : Int) : List Formula → List Formula
 | [] => []
 | k :: ks => (if k.Op = op then k.Kids else [k]) ++ nK op ks
theorem CG (op : Int) : ∀ ks : List Formula, nodesL (nK op ks) ≤ nodesL ks
 | [] => aY _
 | k :: ks => by
  have ih := CG op ks
  have e : ∀ a b : List Formula, nodesL (a ++ b) = nodesL a + nodesL b := by
   intro a b
   induction a with
   | nil => rw [aZ, nodesL]; omega
   | cons x a d => rw [bR, nodesL, nodesL, d]; omega
  have := nP k
  rw [nK, e, nodesL]
  split
  ·omega
  ·rw [nodesL, nodesL]; omega
theorem GS (op : Int) : ∀ (ks acc : List Formula), acc.length + nodesL ks ≤ 100000000 → pZ op ks acc = some (acc ++ nK op ks)
 | [], acc, _ => by rw [pZ, nK, bH]
 | k :: ks, acc, h => by
  rw [nodesL] at h
  have h1 := nP k
  have a := pz k.Kids
  rw [pZ, nK]
  by_cases c : k.Op = op
  ·simp only [c, aW, aT]
   rw [mA (by omega) (by omega), aA, GS op ks _ (by simp; omega), aP]
  ·have e : (k.Op == op) = false := by simpa using c
   simp only [e, aC, aK, c]
   rw [mA (by simp; omega) (by simp; omega), aA, GS op ks _ (by simp; omega), aP]
noncomputable def oO (op : Int) (ks : List Formula) : Formula :=
 if (nK op ks).any (lj (5 - op)) then ⟨5 - op, 0, pu, []⟩ else
  match dd pR (uK (nK op ks)) with
  | [x] => x
  | r => ⟨op, 0, pu, r⟩
theorem IB {α : Type} (eq : α → α → Bool) (l : List α) : (dd eq l).length ≤ l.length := by
 cases l with
 | nil => exact aY _
 | cons x l =>
  have : ∀ (l : List α) (x : α), (mP eq x l).length ≤ l.length := by
   intro l
   induction l with
   | nil => intro x; exact aY _
   | cons y l ih => intro x; rw [mP]; have := ih y; have := ih x; split <;> simp <;> omega
  have := this l x
  rw [dd, aO, aO]; omega
theorem DX (s : kC) (op : Int) (g : op = 2 ∨ op = 3) (ks : List Formula) (h : nodesL ks ≤ 64) : nT s op ks = some (oO op ks, s) := by
 have h1 := CG op ks
 have i := pz (nK op ks)
 have b : ∀ x ∈ nK op ks, Gd x := fun x a => by have := tb a; unfold Gd; omega
 have hw : IntKind.i64.wrap (5 - op) = 5 - op := kG (by omega) (by omega)
 unfold nT zQ oO
 rw [GS op ks [] (by simp; omega), aA, aZ, hw, E4 _ (lj (5 - op)) _ (fun x _ => by unfold ql; rw [CP, nA]), aA]
 cases j : (nK op ks).any (lj (5 - op))
 ·simp only [aC, aK]
  have hp := xT (nK op ks)
  have l := hp.length_eq
  rw [Iu _ b (by omega), aA, Lq _ (fun x a => b x (hp.mem_iff.1 a)) (by omega), aA]
  have k := IB pR (uK (nK op ks))
  have d : ¬ (((dd pR (uK (nK op ks))).length : Int) > 64) := by omega
  simp only [d, cD, aC, aK, aA]
  generalize dd pR (uK (nK op ks)) = r
  match r with
  | [] => rfl
  | [x] => rfl
  | x :: y :: r =>
   have : (((x :: y :: r).length : Int) == 1) = false := by simp; omega
   simp only [this, aC, aK]
   rfl
 ·rfl
noncomputable def sJ (k : Int) (ks : List Formula) : Formula :=
 let n := k - ((ks.filter (lj 2)).length : Int)
 let l := ks.filter fun x => !lj 2 x && !lj 3 x
 if n ≤ 0 then ⟨2, 0, pu, []⟩ else if n > (l.length : Int) then ⟨3, 0, pu, []⟩ else if n = (l.length : Int) then oO 2 l else if n = 1 then oO 3 l else ⟨4, n, pu, uK l⟩
theorem yi (p : Formula → Bool) : ∀ ks : List Formula, nodesL (ks.filter p) ≤ nodesL ks
 | [] => aY _
 | k :: ks => by
  have := yi p ks
  rw [dH]
  split
  ·rw [nodesL, nodesL]; omega
  ·rw [nodesL]; omega
theorem Aj (s : kC) : ∀ (ks acc : List Formula) (k : Int), -1000 ≤ k - (ks.length : Int) → k ≤ 1000 → acc.length + ks.length ≤ 1000 → nodesL (acc ++ ks.filter fun x => !lj 2 x && !lj 3 x) ≤ 64 →
  mB s ks k acc = some (let n := k - ((ks.filter (lj 2)).length : Int); let l := acc ++ ks.filter fun x => !lj 2 x && !lj 3 x; if n ≤ 0 then ⟨2, 0, pu, []⟩ else if n > (l.length : Int) then ⟨3, 0, pu, []⟩ else if n = (l.length : Int) then oO 2 l else if n = 1 then oO 3 l else ⟨4, n, pu, uK l⟩, s)
 | [], acc, k, h1, g, h, a => by
  simp only [fR, bH, bW] at a ⊢
  rw [mB]
  simp only [Int.ofNat_zero, Int.sub_zero, yA, yN, aA, Int.natCast_zero]
  have p := pz acc
  by_cases c1 : k ≤ 0
  ·simp only [c1, cA, aT]; rfl
  ·simp only [c1, cD, aC, aK]
   by_cases c2 : k > (acc.length : Int)
   ·simp only [c2, cA, aT]; rfl
   ·simp only [c2, cD, aC, aK]
    by_cases b : k = (acc.length : Int)
    ·simp only [← b, aW, aT]
     rw [DX s 2 (.inl rfl) acc a, aA]
    ·have i : (k == (acc.length : Int)) = false := by simpa using b
     simp only [i, aC, aK, b]
     by_cases d : k = 1
     ·simp only [d, aW, aT]
      rw [DX s 3 (.inr rfl) acc a, aA]
     ·have j : (k == 1) = false := by simpa using d
      simp only [j, aC, aK, d]
      rw [Iu acc (fun x m => by have := tb m; unfold Gd; omega) (by omega)]
      rfl
 | x :: ks, acc, k, h1, g, h, a => by
  simp only [aO] at h1 h
  rw [mB, CP, aA, CP, aA]
  rw [dH, dH] at *
  cases c2 : lj 2 x
  ·cases b : lj 3 x
   ·simp only [c2, b, dK, iR, aC, aK, aT] at a ⊢
    rw [mA (by simp; omega) (by simp; omega), aA, Aj s ks _ k (by omega) g (by simp; omega) (by rw [aP]; exact a)]
    simp only [aP, bR, aZ]
   ·simp only [c2, b, dK, cK, Bool.and_false, aC, aK] at a ⊢
    rw [Aj s ks _ k (by omega) g (by omega) a]
  ·simp only [c2, cK, gi, aC, aK, aT] at a ⊢
   rw [kG (by omega) (by omega), Aj s ks _ (k - 1) (by omega) (by omega) (by omega) a]
   simp only [aO]
   have e : k - 1 - ((ks.filter (lj 2)).length : Int) = k - (((ks.filter (lj 2)).length + 1 : Nat) : Int) := by omega
   rw [e]
theorem Lu (s : kC) (k : Int) (hk : 0 ≤ k ∧ k ≤ 1000) (ks : List Formula) (h : nodesL ks ≤ 64) : qk s k ks = some (sJ k ks, s) := by
 have := pz ks
 have := yi (fun x => !lj 2 x && !lj 3 x) ks
 unfold qk sJ
 rw [Aj s ks [] k (by omega) (by omega) (by simp; omega) (by simpa using by omega)]
 rfl
mutual
noncomputable def oS : Formula → Formula
 | ⟨o, k, r, ks⟩ => if o = 1 then ⟨o, k, r, ks⟩ else if o = 4 then sJ k (shapeL ks) else oO o (shapeL ks)
noncomputable def shapeL : List Formula → List Formula
 | [] => []
 | k :: ks => oS k :: shapeL ks
end
theorem yc (f : Formula) : oS f = if f.Op = 1 then f else if f.Op = 4 then sJ f.K (shapeL f.Kids) else oO f.Op (shapeL f.Kids) := by cases f; rw [oS]
theorem ER {a b : List Formula} (h : a.Perm b) : nodesL a = nodesL b := by
 induction h with
 | nil => rfl
 | cons x _ ih => rw [nodesL, nodesL, ih]
 | swap x y l => rw [nodesL, nodesL, nodesL, nodesL]; omega
 | trans _ _ h1 d => rw [h1, d]
theorem CN (eq : Formula → Formula → Bool) : ∀ (l : List Formula) (x : Formula), nodesL (mP eq x l) ≤ nodesL l
 | [], x => aY _
 | y :: l, x => by
  have h1 := CN eq l y
  have a := CN eq l x
  rw [mP]
  split
  ·rw [nodesL]; omega
  ·rw [nodesL, nodesL]; omega
theorem Ni (eq : Formula → Formula → Bool) (l : List Formula) : nodesL (dd eq l) ≤ nodesL l := by
 cases l with
 | nil => exact aY _
 | cons x l => have := CN eq l x; rw [dd, nodesL, nodesL]; omega
theorem AJ (op : Int) (ks : List Formula) : kv (oO op ks) ≤ 1 + nodesL ks := by
 unfold oO
 split
 ·rw [kv, nodesL]; omega
 ·have h1 := Ni pR (uK (nK op ks))
  have a := ER (xT (nK op ks))
  have b := CG op ks
  generalize dd pR (uK (nK op ks)) = r at *
  split
  ·rename_i x
   rw [nodesL, nodesL] at h1; omega
  ·rw [kv]; omega
theorem H4 (k : Int) (ks : List Formula) : kv (sJ k ks) ≤ 1 + nodesL ks := by
 have h := yi (fun x => !lj 2 x && !lj 3 x) ks
 unfold sJ
 simp only
 generalize ks.filter (fun x => !lj 2 x && !lj 3 x) = l at *
 generalize k - ((ks.filter (lj 2)).length : Int) = n
 split
 ·rw [kv, nodesL]; omega
 ·split
  ·rw [kv, nodesL]; omega
  ·split
   ·have := AJ 2 l; omega
   ·split
    ·have := AJ 3 l; omega
    ·have := ER (xT l); rw [kv]; omega
theorem zh : ∀ f : Formula, kv (oS f) ≤ kv f := by
 refine IM fun f ih => ?_
 have h : ∀ ks : List Formula, (∀ k ∈ ks, kv (oS k) ≤ kv k) → nodesL (shapeL ks) ≤ nodesL ks := by
  intro ks
  induction ks with
  | nil => intro _; rw [shapeL]; exact aY _
  | cons k ks a =>
   intro h
   have := a (fun x b => h x (by simp [b]))
   have := h k (by simp)
   rw [shapeL, nodesL, nodesL]; omega
 have h := h f.Kids ih
 rw [yc, nP f]
 split
 ·rw [nP]; omega
 ·split
  ·have := H4 f.K (shapeL f.Kids); omega
  ·have := AJ f.Op (shapeL f.Kids); omega
theorem Dm (ks : List Formula) : nodesL (shapeL ks) ≤ nodesL ks := by
 induction ks with
 | nil => rw [shapeL]; exact aY _
 | cons k ks ih => have := zh k; rw [shapeL, nodesL, nodesL]; omega
theorem NP : ∀ (n : Nat) (f : Formula), nG f ≤ n → kv f ≤ 64 → sV f = true → ∀ s : kC, nc n s f = some (oS f, s) := by
 intro n
 induction n with
 | zero => intro f h; rw [mE] at h; omega
 | succ n ih =>
  intro f r v hw s
  rw [mE] at r
  have t := nP f
  obtain ⟨h1, q, l⟩ := xn hw
  rw [nc]
  unfold ry
  rw [yc]
  by_cases c1 : f.Op = 1
  ·simp only [c1, aW, aT]
  ·have m : (f.Op == 1) = false := by simpa using c1
   simp only [m, aC, aK, c1]
   have key : ∀ (ks acc : List Formula), (∀ k ∈ ks, k ∈ f.Kids) → wellL ks = true → nodesL (acc ++ shapeL ks) ≤ 64 → nodesL ks ≤ 64 → nC (nc n) f ks acc s = some (if f.Op = 4 then sJ f.K (acc ++ shapeL ks) else oO f.Op (acc ++ shapeL ks), s) := by
    intro ks
    induction ks with
    | nil =>
     intro acc _ _ d _
     rw [shapeL, bH] at *
     rw [nC]
     by_cases g : f.Op = 4
     ·simp only [g, aW, aT]
      rw [Lu s f.K (by rcases l with h | h | h <;> omega) acc d, aA]
     ·have p : (f.Op == 4) = false := by simpa using g
      simp only [p, aC, aK, g]
      rw [DX s f.Op (by rcases l with h | h | h <;> omega) acc d, aA]
    | cons k ks j =>
     intro acc hk a d i
     rw [wellL, bF] at a
     rw [nodesL] at i
     rw [shapeL] at d
     have b := pz (acc ++ oS k :: shapeL ks)
     simp only [aF, aO] at b
     rw [nC, ih k (by have := qw (hk k (by simp)); omega) (by omega) a.1 s, aA, mA (by simp; omega) (by simp; omega), aA,
      j (acc ++ [oS k]) (fun z u => hk z (by simp [u])) a.2 (by rw [aP]; exact d) (by omega), shapeL]
     simp only [aP, bR, aZ]
   have := Dm f.Kids
   have := key f.Kids [] (fun k hk => hk) q (by simpa using by omega) (by omega)
   simpa using this
def EU : Formula := ⟨0, 0, pu, []⟩
noncomputable def wc (f : Formula) : Formula × Int := if nl f then (if nl (oS f) then (oS f, 0) else (EU, 12)) else (EU, 11)
theorem JT (f : Formula) (h : Gd f) : xr f = some (wc f) := by
 unfold xr wc
 rw [CO f h, aA]
 cases b : nl f
 ·rfl
 ·obtain ⟨h1, d, a⟩ := yM b
  have g := zh f
  simp only [cK, aC, aK, aT]
  rw [NP jY f (by rw [mc]; omega) h1 a, aA, CO (oS f) (by omega)]
  have e : (((⟨0⟩ : kC).e) != 0) = false := rfl
  simp only [e, aC, aK, aA]
  cases nl (oS f) <;> rfl
theorem yb {f : Formula} : kv (wc f).1 ≤ 64 := by
 unfold wc
 cases h : nl f
 ·exact by simp only [aC, aK, EU]; rw [kv, nodesL]; omega
 ·obtain ⟨h1, a, b⟩ := yM h
  have := zh f
  simp only [aT]
  split
  ·show kv (oS f) ≤ 64; omega
  ·rw [EU, kv, nodesL]; omega
theorem O3 (f g : Formula) (a : kv f ≤ 10000000) (b : kv g ≤ 10000000) : xH f g = some (wc ⟨2, 0, pu, [f, g]⟩) := by
 unfold xH
 have := JT ⟨2, 0, pu, [f, g]⟩ (by show kv _ ≤ _; rw [kv, nodesL, nodesL, nodesL]; omega)
 rw [show (⟨2, 0, (⟨zS, zS⟩ : jq), [f, g]⟩ : Formula) = ⟨2, 0, pu, [f, g]⟩ from rfl, this]
 rfl
end Go.Proofs.YtmlncblocfcmiaaGreat
namespace Go.Proofs.YtmlncblocfcmiaaGreat
open Go.RowKit
mutual
def pt (v : jq → Bool) : Formula → Bool
 | ⟨o, k, r, ks⟩ => if o = 1 then v r else if o = 2 then decide (evN v ks = ks.length) else if o = 3 then decide (0 < evN v ks) else decide (k ≤ (evN v ks : Int))
def evN (v : jq → Bool) : List Formula → Nat
 | [] => 0
 | k :: ks => (if pt v k then 1 else 0) + evN v ks
end
theorem vv (v : jq → Bool) (f : Formula) : pt v f = if f.Op = 1 then v f.jq else if f.Op = 2 then decide (evN v f.Kids = f.Kids.length) else if f.Op = 3 then decide (0 < evN v f.Kids) else decide (f.K ≤ (evN v f.Kids : Int)) := by cases f; rw [pt]
theorem Gk (v : jq → Bool) : ∀ ks : List Formula, evN v ks ≤ ks.length
 | [] => by rw [evN]; exact aY _
 | k :: ks => by have := Gk v ks; rw [evN, aO]; split <;> omega
theorem GU (v : jq → Bool) : ∀ ks : List Formula, evN v ks = ks.length ↔ ∀ k ∈ ks, pt v k = true
 | [] => by rw [evN]; simp
 | k :: ks => by
  have h1 := Gk v ks
  have a := GU v ks
  rw [evN, aO]
  simp only [ib, ← a]
  cases pt v k <;> simp <;> omega
theorem Hc (v : jq → Bool) : ∀ ks : List Formula, 0 < evN v ks ↔ ∃ k ∈ ks, pt v k = true
 | [] => by rw [evN]; simp
 | k :: ks => by
  have a := Hc v ks
  rw [evN]
  simp only [aR, exists_eq_or_imp, ← a]
  cases pt v k <;> simp <;> omega
theorem Gz (v : jq → Bool) (ks : List Formula) : evN v ks = (ks.filter (pt v)).length := by
 induction ks with
 | nil => rw [evN]; rfl
 | cons k ks ih => rw [evN, ih, dH]; cases pt v k <;> simp <;> omega
theorem NG (v : jq → Bool) {a b : List Formula} (h : a.Perm b) : evN v a = evN v b := by
 rw [Gz, Gz]; exact (h.filter _).length_eq
theorem OW {v w : jq → Bool} (h : ∀ r, v r = true → w r = true) : ∀ f : Formula, pt v f = true → pt w f = true := by
 refine IM fun f ih => ?_
 have key : evN v f.Kids ≤ evN w f.Kids := by
  have : ∀ ks : List Formula, (∀ k ∈ ks, pt v k = true → pt w k = true) → evN v ks ≤ evN w ks := by
   intro ks
   induction ks with
   | nil => intro _; rw [evN, evN]; exact aY _
   | cons k ks a =>
    intro hk
    have h1 := a (fun x g => hk x (by simp [g]))
    have b := hk k (by simp)
    rw [evN, evN]
    cases d : pt v k
    ·simp; omega
    ·rw [b d]; simp; omega
  exact this _ ih
 have hle := Gk w f.Kids
 rw [vv, vv]
 split
 ·exact h _
 ·split
  ·simp only [bO]; omega
  ·split
   ·simp only [bO]; omega
   ·simp only [bO]; omega
theorem Dx (v : jq → Bool) (f1 : jq → Option Bool) (rec : Formula → (jq → Option Bool) → Option Bool) (f : Formula) : ∀ (ks : List Formula) (x : Nat), (∀ k ∈ ks, rec k f1 = some (pt v k)) → x + ks.length ≤ 100000000 →
  oR rec f1 f ks (x : Int) = some (if f.Op = 2 then decide (x + evN v ks = f.Kids.length) else if f.Op = 3 then decide (0 < x + evN v ks) else decide (f.K ≤ ((x + evN v ks : Nat) : Int)))
 | [], x, _, _ => by
  rw [oR, evN, gG]
  by_cases c2 : f.Op = 2
  ·simp only [c2, aW, aT]
   congr 1
   rw [bU, gb, bO]; omega
  ·have b : (f.Op == 2) = false := by simpa using c2
   simp only [b, aC, aK, c2]
   by_cases a : f.Op = 3
   ·simp only [a, aW, aT]
    congr 1
    rw [bU, bO, bO]; omega
   ·have g : (f.Op == 3) = false := by simpa using a
    simp only [g, aC, aK, a]
 | k :: ks, x, h, i => by
  rw [aO] at i
  rw [oR, h k (by simp), aA, evN]
  cases pt v k
  ·simp only [aC, aK]
   rw [Dx v f1 rec f ks x (fun z d => h z (by simp [d])) (by omega), fe]
  ·simp only [aT]
   have e : IntKind.i64.wrap ((x : Int) + 1) = ((x + 1 : Nat) : Int) := by rw [kG (by omega) (by omega)]; omega
   rw [e, Dx v f1 rec f ks (x + 1) (fun z d => h z (by simp [d])) (by omega)]
   have b : x + 1 + evN v ks = x + (1 + evN v ks) := by omega
   rw [b]
theorem MR (v : jq → Bool) (f1 : jq → Option Bool) (i : ∀ r, f1 r = some (v r)) : ∀ (n : Nat) (f : Formula), nG f ≤ n → Gd f → pw n f f1 = some (pt v f) := by
 intro n
 induction n with
 | zero => intro f h; rw [mE] at h; omega
 | succ n ih =>
  intro f b d
  rw [mE] at b
  have g := nP f
  have j := pz f.Kids
  unfold Gd at d
  rw [pw]
  unfold vi
  rw [vv]
  by_cases c1 : f.Op = 1
  ·simp only [c1, aW, aT, i, aA]
  ·have a : (f.Op == 1) = false := by simpa using c1
   simp only [a, aC, aK, c1]
   have := Dx v f1 (pw n) f f.Kids 0 (fun k hk => ih k (by have := qw hk; omega) (by have := tb hk; unfold Gd; omega)) (by omega)
   simpa using this
def zl (v : jq → Bool) (f : Formula) : Bool := nl f && pt v f
theorem OQ (v : jq → Bool) (f1 : jq → Option Bool) (a : ∀ r, f1 r = some (v r)) (f : Formula) (h : Gd f) : wV f f1 = some (zl v f) := by
 unfold wV zl
 rw [CO f h, aA]
 have := wL f
 cases nl f
 ·rfl
 ·unfold Gd at h
  simp only [aT, MR v f1 a jY f (by rw [mc]; omega) h, aA, ej]
theorem FV (op : Int) (f : Formula) : lj op f = true ↔ f.Op = op ∧ f.Kids = [] := by
 unfold lj; simp
theorem HB (v : jq → Bool) {f : Formula} (h : lj 2 f = true) : pt v f = true := by
 obtain ⟨h1, a⟩ := (FV 2 f).1 h
 rw [vv, h1, a, evN]; rfl
theorem Hp (v : jq → Bool) {f : Formula} (h : lj 3 f = true) : pt v f = false := by
 obtain ⟨h1, a⟩ := (FV 3 f).1 h
 rw [vv, h1, a, evN]; rfl
def tQ (v : jq → Bool) (ks : List Formula) : Bool := ks.all (pt v)
def ue (v : jq → Bool) (ks : List Formula) : Bool := ks.any (pt v)
theorem JU (v : jq → Bool) (k : Int) (r : jq) (ks : List Formula) : pt v ⟨2, k, r, ks⟩ = tQ v ks := by
 rw [vv, bU]; simp [tQ, GU]
theorem MW (v : jq → Bool) (k : Int) (r : jq) (ks : List Formula) : pt v ⟨3, k, r, ks⟩ = ue v ks := by
 rw [vv, bU]; simp [ue, Hc]
theorem Iv (v : jq → Bool) : ∀ ks : List Formula, tQ v (nK 2 ks) = tQ v ks
 | [] => rfl
 | k :: ks => by
  have ih := Iv v ks
  unfold tQ at ih ⊢
  rw [nK, List.all_append, ih, gW]
  congr 1
  split
  ·rename_i h
   obtain ⟨o, n, r, l⟩ := k
   simp only at h; subst h
   exact (JU v n r l).symm
  ·simp
theorem IT (v : jq → Bool) : ∀ ks : List Formula, ue v (nK 3 ks) = ue v ks
 | [] => rfl
 | k :: ks => by
  have ih := IT v ks
  unfold ue at ih ⊢
  rw [nK, List.any_append, ih, gq]
  congr 1
  split
  ·rename_i h
   obtain ⟨o, n, r, l⟩ := k
   simp only at h; subst h
   exact (MW v n r l).symm
  ·simp
theorem M0 (l : List Formula) (x : Formula) : x ∈ dd pR (uK l) ↔ x ∈ l := by
 rw [I4 (fun _ _ => Ar), (xT l).mem_iff]
theorem Ms {v : jq → Bool} {a b : List Formula} (h : ∀ x, x ∈ a ↔ x ∈ b) : tQ v a = tQ v b := by
 unfold tQ; rw [bU, fJ, fJ]
 exact ⟨fun q x d => q x ((h x).2 d), fun q x d => q x ((h x).1 d)⟩
theorem LD {v : jq → Bool} {a b : List Formula} (h : ∀ x, x ∈ a ↔ x ∈ b) : ue v a = ue v b := by
 unfold ue; rw [bU, eJ, eJ]
 exact ⟨fun ⟨x, d, q⟩ => ⟨x, (h x).1 d, q⟩, fun ⟨x, d, q⟩ => ⟨x, (h x).2 d, q⟩⟩
theorem Gx (v : jq → Bool) (ks : List Formula) : pt v (oO 2 ks) = tQ v ks := by
 rw [← Iv]
 unfold oO
 split
 ·rename_i h
  rw [show (5 - 2 : Int) = 3 from rfl, MW]
  obtain ⟨x, a, he⟩ := eJ.1 h
  have : tQ v (nK 2 ks) = false := by
   unfold tQ; rw [List.all_eq_false]; exact ⟨x, a, by rw [Hp v he]; simp⟩
  rw [this]; rfl
 ·rw [← Ms (M0 (nK 2 ks))]
  generalize dd pR (uK (nK 2 ks)) = r
  split
  ·simp [tQ]
  ·exact JU v 0 pu r
theorem Gy (v : jq → Bool) (ks : List Formula) : pt v (oO 3 ks) = ue v ks := by
 rw [← IT]
 unfold oO
 split
 ·rename_i h
  rw [show (5 - 3 : Int) = 2 from rfl, JU]
  obtain ⟨x, a, he⟩ := eJ.1 h
  have : ue v (nK 3 ks) = true := by
   unfold ue; rw [eJ]; exact ⟨x, a, HB v he⟩
  rw [this]; rfl
 ·rw [← LD (M0 (nK 3 ks))]
  generalize dd pR (uK (nK 3 ks)) = r
  split
  ·simp [ue]
  ·exact MW v 0 pu r
theorem HO (v : jq → Bool) : ∀ ks : List Formula, evN v ks = (ks.filter (lj 2)).length + evN v (ks.filter fun x => !lj 2 x && !lj 3 x)
 | [] => rfl
 | k :: ks => by
  have ih := HO v ks
  rw [evN, dH, dH, ih]
  cases a : lj 2 k
  ·cases b : lj 3 k
   ·simp only [dK, iR, aC, aK, aT]
    rw [evN]; omega
   ·rw [Hp v b]; simp
  ·rw [HB v a]; simp; omega
theorem KI (v : jq → Bool) (k : Int) (ks : List Formula) : pt v (sJ k ks) = decide (k ≤ (evN v ks : Int)) := by
 have b := HO v ks
 unfold sJ
 simp only
 generalize a : ks.filter (fun x => !lj 2 x && !lj 3 x) = l at *
 generalize (ks.filter (lj 2)).length = m at *
 have hle := Gk v l
 have ha := GU v l
 have hp := Hc v l
 split
 ·rw [JU]; simp [tQ]; omega
 ·split
  ·rw [MW]; simp [ue]; omega
  ·split
   ·rw [Gx, bU, bO]
    unfold tQ
    rw [fJ, ← ha]; omega
   ·split
    ·rw [Gy, bU, bO]
     unfold ue
     rw [eJ, ← hp]; omega
    ·rw [vv]
     simp only [NG v (xT l)]
     have : ¬ ((4 : Int) = 1) := by omega
     have : ¬ ((4 : Int) = 2) := by omega
     have : ¬ ((4 : Int) = 3) := by omega
     simp only [*, aK]
     rw [bU, bO, bO]; omega
theorem M2 (v : jq → Bool) : ∀ f : Formula, sV f = true → pt v (oS f) = pt v f := by
 refine IM fun f ih hw => ?_
 obtain ⟨h1, g, i⟩ := xn hw
 rw [Dz, fJ] at g
 have key : ∀ ks : List Formula, (∀ k ∈ ks, pt v (oS k) = pt v k) → evN v (shapeL ks) = evN v ks ∧ tQ v (shapeL ks) = tQ v ks ∧ ue v (shapeL ks) = ue v ks := by
  intro ks
  induction ks with
  | nil => intro _; rw [shapeL]; exact ⟨rfl, rfl, rfl⟩
  | cons k ks d =>
   intro hk
   obtain ⟨a, b, c⟩ := d (fun x j => hk x (by simp [j]))
   have h := hk k (by simp)
   unfold tQ ue at *
   rw [shapeL, evN, evN, a, h, gW, gW, gq, gq, b, c, h]
   exact ⟨rfl, rfl, rfl⟩
 obtain ⟨a, b, c⟩ := key f.Kids (fun k hk => ih k hk (g k hk))
 obtain ⟨o, n, r, l⟩ := f
 simp only at *
 rw [yc]
 simp only
 rcases i with h | h | h
 ·simp only [h.1, aT]
 ·rcases h.1 with h | h
  ·subst h
   rw [JU]
   exact (Gx v _).trans b
  ·subst h
   rw [MW]
   exact (Gy v _).trans c
 ·obtain ⟨h, _⟩ := h
  subst h
  rw [vv v ⟨4, n, r, l⟩]
  exact (KI v n _).trans (by rw [a]; rfl)
theorem L4 {f g : Formula} (h : wc f = (g, 0)) : nl f = true ∧ nl g = true ∧ ∀ v, pt v g = pt v f := by
 unfold wc at h
 cases a : nl f
 ·rw [a] at h; simp at h
 ·rw [a] at h
  simp only [aT] at h
  cases b : nl (oS f)
  ·rw [b] at h; simp at h
  ·rw [b] at h
   simp only [aT, Prod.mk.injEq] at h
   obtain ⟨rfl, _⟩ := h
   exact ⟨rfl, b, fun v => M2 v f (yM a).2.2⟩
end Go.Proofs.YtmlncblocfcmiaaGreat
namespace Go.Proofs.YtmlncblocfcmiaaGreat
open Go.RowKit
structure PB (p : kI) : Prop where
 FQ : p.jH.length ≤ 2000000
 Ly : p.ke.length ≤ 2000000
 rel : ∀ x ∈ p.jH, kv x.jx ≤ 10000000
 KQ : ∀ a ∈ p.ke, kv a.jx ≤ 10000000
 Rk : ∀ a ∈ p.ke, a.ms.length ≤ 2000000
theorem CE (f : kz → Option Bool) : ∀ (l : List kz) (i : Nat), ng f l i = yW f l i
 | [], i => by rw [ng]; rfl
 | x :: l, i => by
  rw [ng, yW]
  cases f x with
  | none => rfl
  | some b =>
   simp only [aA]
   rw [CE f l (i + 1)]
theorem Jw (f : oe → Option Bool) : ∀ (l : List oe) (i : Nat), nL f l i = yW f l i
 | [], i => by rw [nL]; rfl
 | x :: l, i => by
  rw [nL, yW]
  cases f x with
  | none => rfl
  | some b =>
   simp only [aA]
   rw [Jw f l (i + 1)]
def zk (p : kI) (c : jr) : Option kz := p.jH.find? fun x => kh x.Signed.jr c
theorem Pm (p : kI) (c : jr) : ∃ z, yg p c = some (match zk p c with | some x => (x, true) | none => (z, false)) := by
 unfold yg mL zk
 rw [CE]
 rcases za (fun x => vX x c) (fun x => kh x.Signed.jr c) p.jH 0 (fun x _ => rfl) with ⟨e, h1⟩ | ⟨A, x, B, hp, h1, b, e⟩
 ·rw [e, aA, gy.2 (fun x a => by rw [h1 x a]; simp)]
  exact ⟨_, rfl⟩
 ·rw [e, aA, hp, iL, gy.2 (fun x a => by rw [h1 x a]; simp), fP, b]
  have : ¬ (((0 + A.length : Nat) : Int) < 0) := by omega
  simp only [this, cD, aC, aK]
  rw [mJ A x B _ (by omega)]
  exact ⟨x, rfl⟩
def PW : oe := ⟨⟨zS, zS⟩, ⟨0, 0, ⟨zS, zS⟩, []⟩, []⟩
theorem I6 (f : oe → Option Bool) : ∀ (n : Nat) (l : List oe) (i j : Int), nE f n l i j = Cy f PW n l i j
 | 0, _, _, _ => rfl
 | n + 1, l, i, j => by
  rw [nE, Cy]
  simp only [I6 f n]
  rfl
def yk (p : kI) (c : jr) : List oe := p.ke.filter fun a => mr kh a.ms c
theorem Nv (p : kI) (hp : PB p) (c : jr) : xz p c = some (yk p c) := by
 have := hp.Ly
 unfold xz um yk
 rw [mA (by simp; omega) (by simp; omega)]
 simp only [aA, aZ, nA]
 have : qZ p.ke (fun x => rj x c) = Hi (fun x => rj x c) PW p.ke := by
  unfold qZ Hi uy
  simp only [Jw, I6]
 rw [this, CR _ (fun a => !mr kh a.ms c) PW _ (by omega) (fun a _ => by unfold rj qK; rw [nA, Fi]; rfl)]
 simp only [gk]
noncomputable def oM : Formula × Int → List Formula → Formula × Int
 | t, [] => t
 | t, g :: l => if t.2 = 0 then oM (wc ⟨2, 0, pu, [t.1, g]⟩) l else t
theorem Kg : ∀ (l : List Formula) (e o k : Int) (r : jq) (ks : List Formula), (∀ g ∈ l, kv g ≤ 10000000) → kv ⟨o, k, r, ks⟩ ≤ 64 →
  tj l e o k r ks = some ((oM (⟨o, k, r, ks⟩, e) l).2, (oM (⟨o, k, r, ks⟩, e) l).1.Op, (oM (⟨o, k, r, ks⟩, e) l).1.K, (oM (⟨o, k, r, ks⟩, e) l).1.jq, (oM (⟨o, k, r, ks⟩, e) l).1.Kids)
 | [], e, o, k, r, ks, _, _ => by rw [tj, oM]
 | g :: l, e, o, k, r, ks, h, n => by
  rw [tj, oM]
  by_cases c : e = 0
  ·have a : (e != 0) = false := by simp [c]
   simp only [a, aC, aK, c, aT]
   rw [O3 _ g (by omega) (h g (by simp)), aA]
   have d := yb (f := ⟨2, 0, pu, [⟨o, k, r, ks⟩, g]⟩)
   generalize wc ⟨2, 0, pu, [⟨o, k, r, ks⟩, g]⟩ = q at *
   obtain ⟨⟨j, k', m, b⟩, e'⟩ := q
   exact Kg l e' j k' m b (fun z i => h z (by simp [i])) d
  ·have a : (e != 0) = true := by simp [c]
   simp only [a, aT, c, aK]
noncomputable def zX (g : Formula) (l : List Formula) : Formula × Int := if (oM (wc g) l).2 = 0 then oM (wc g) l else (EU, (oM (wc g) l).2)
theorem OX (g : Formula) (l : List Formula) (m : kv g ≤ 10000000) (h : ∀ x ∈ l, kv x ≤ 10000000) : vL (g :: l) = some (zX g l) := by
 unfold vL zX
 have b : lE (g :: l) 0 = some g := mJ [] g l 0 rfl
 have a : rV (decide (0 ≤ 1) && decide ((1 : Int) ≤ ((g :: l).length : Int))) = some () := by
  rw [aO]
  have : (1 : Int) ≤ ((l.length + 1 : Nat) : Int) := by omega
  simp [rV]; omega
 have i := yb (f := g)
 rw [b, aA, JT g (by unfold Gd; omega), aA, a, aA]
 generalize wc g = q at *
 obtain ⟨⟨o, k, r, ks⟩, e⟩ := q
 have d : (g :: l).drop (Int.toNat 1) = l := rfl
 rw [d, Kg l e o k r ks h i, aA]
 generalize oM (⟨o, k, r, ks⟩, e) l = t
 obtain ⟨⟨n, k', p, j⟩, e'⟩ := t
 by_cases c : e' = 0
 ·subst c; rfl
 ·have a : (e' != 0) = true := by simp [c]
  simp only [a, aT, c, aK]; rfl
noncomputable def oT (p : kI) (c : jr) : Formula × Int := match zk p c with | none => (EU, 42) | some x => zX x.jx ((yk p c).map (·.jx))
theorem Mi : ∀ (l : List oe) (acc : List Formula), acc.length + l.length ≤ 3000000 → tZ l acc = vL (acc ++ l.map (·.jx))
 | [], acc, _ => by
  rw [tZ, eW, bH]
  cases vL acc <;> rfl
 | a :: l, acc, h => by
  rw [aO] at h
  rw [tZ, mA (by simp; omega) (by simp; omega), aA, Mi l _ (by simp; omega)]
  simp
theorem Nh {p : kI} {c : jr} {x : kz} (h : zk p c = some x) : x ∈ p.jH ∧ x.Signed.jr = c := by
 unfold zk at h
 have h1 := List.mem_of_find?_eq_some h
 have a := List.find?_some h
 exact ⟨h1, mz.1 a⟩
theorem PF (p : kI) (hp : PB p) (c : jr) : Ah p c = some (oT p c) := by
 unfold Ah oT
 obtain ⟨z, e⟩ := Pm p c
 rw [e, aA]
 cases h : zk p c with
 | none => rfl
 | some x =>
  simp only [cK, aC, aK]
  have d := Nh h
  have i : (yk p c).length ≤ p.ke.length := cY _ _
  have := hp.Ly
  rw [Nv p hp c, aA, Mi _ _ (by simp; omega)]
  exact OX x.jx _ (hp.rel x d.1) (fun g b => by
   obtain ⟨a, ha, rfl⟩ := bL.1 b
   exact hp.KQ a (cM.1 ha).1)
theorem Ht (p : kI) (c : jr) : kv (oT p c).1 ≤ 64 := by
 have a : kv EU ≤ 64 := by rw [EU, kv, nodesL]; omega
 have b : ∀ (l : List Formula) (t : Formula × Int), kv t.1 ≤ 64 → kv (oM t l).1 ≤ 64 := by
  intro l
  induction l with
  | nil => intro t h; exact h
  | cons g l ih =>
   intro t h
   rw [oM]
   split
   ·exact ih _ yb
   ·exact h
 unfold oT
 split
 ·exact a
 ·unfold zX
  split
  ·exact b _ _ yb
  ·exact a
theorem Jc : ∀ (l : List Formula) (f : Formula) (e : Int), (oM (f, e) l).2 = 0 → e = 0 ∧ (nl f = true → nl (oM (f, e) l).1 = true ∧ ∀ v, pt v (oM (f, e) l).1 = (pt v f && l.all (pt v)))
 | [], f, e, h => by rw [oM] at *; exact ⟨h, fun j => ⟨j, fun v => by simp⟩⟩
 | g :: l, f, e, h => by
  rw [oM] at *
  by_cases c : e = 0
  ·simp only [c, aT] at h ⊢
   cases a : wc ⟨2, 0, pu, [f, g]⟩ with
   | mk q e' =>
    rw [a] at h
    obtain ⟨h1, i⟩ := Jc l q e' h
    subst h1
    obtain ⟨k, a2, a3⟩ := L4 a
    obtain ⟨b, d⟩ := i a2
    refine ⟨trivial, fun _ => ⟨b, fun v => ?_⟩⟩
    rw [d v, a3 v, JU]
    simp [tQ, gM]
  ·simp only [c, aK] at h
theorem LV {p : kI} {c : jr} (h : (oT p c).2 = 0) : nl (oT p c).1 = true ∧ ∃ x, zk p c = some x ∧ ∀ v, pt v (oT p c).1 = (pt v x.jx && (yk p c).all fun a => pt v a.jx) := by
 unfold oT at *
 cases g : zk p c with
 | none => rw [g] at h; simp at h
 | some x =>
  rw [g] at h
  simp only at h ⊢
  unfold zX at *
  by_cases b : (oM (wc x.jx) ((yk p c).map (·.jx))).2 = 0
  ·simp only [b, aT] at h ⊢
   cases d : wc x.jx with
   | mk q e =>
    rw [d] at b
    obtain ⟨h1, k⟩ := Jc _ q e b
    subst h1
    obtain ⟨l, a2, a3⟩ := L4 d
    obtain ⟨i, j⟩ := k a2
    refine ⟨i, x, rfl, fun v => ?_⟩
    rw [j v, a3 v, List.all_map]
    rfl
  ·simp only [b, aK] at h
def vF (F : List jJ) (peer : ByteArray) (r : jq) : Bool := mr Ao F ⟨r, peer⟩
theorem OA {l : List jr} {F : List jJ} (h : N5 l F) (peer : ByteArray) : ∃ m, uL l peer = some m ∧ ∀ r, py r m.1 m.2.1 m.2.2.1 m.2.2.2.1 m.2.2.2.2.1 m.2.2.2.2.2.1 m.2.2.2.2.2.2 = some (vF F peer r) := by
 obtain ⟨m, e, _, a⟩ := h.RV
 unfold uL
 rw [e, aA]
 refine ⟨_, rfl, fun r => ?_⟩
 unfold py
 rw [nA]
 exact a r peer
noncomputable def zn (p : kI) (v : jq → Bool) (x : kz) : Bool := decide ((oT p x.Signed.jr).2 = 0) && zl v (oT p x.Signed.jr).1
theorem BZ (p : kI) (hp : PB p) (v : jq → Bool) (m) (a : ∀ r, py r m.1 m.2.1 m.2.2.1 m.2.2.2.1 m.2.2.2.2.1 m.2.2.2.2.2.1 m.2.2.2.2.2.2 = some (v r)) : ∀ (l : List kz) (acc : List jr), acc.length + l.length ≤ 1000000000 →
  qH p m l acc = uh (acc ++ (l.filter (zn p v)).map (·.Signed.jr))
 | [], acc, _ => by
  rw [qH, fR, eW, bH, nA]
 | x :: l, acc, h => by
  rw [aO] at h
  have b := Ht p x.Signed.jr
  rw [qH, PF p hp, aA, OQ v _ a _ (by unfold Gd; omega), dH]
  unfold zn
  by_cases c : (oT p x.Signed.jr).2 = 0
  ·simp only [c, aW, aT, cA, ej, aA]
   cases d : zl v (oT p x.Signed.jr).1
   ·simp only [aC, aK]
    exact BZ p hp v m a l acc (by omega)
   ·simp only [aT]
    rw [mA (by simp; omega) (by simp; omega), aA, BZ p hp v m a l _ (by simp; omega)]
    simp only [bP, aP, bR, aZ]
    rfl
  ·have e : ((oT p x.Signed.jr).2 == 0) = false := by simpa using c
   simp only [e, aC, aK, c, cD, gi, aA]
   exact BZ p hp v m a l acc (by omega)
theorem Oy (p : kI) (hp : PB p) {l : List jr} {F : List jJ} (h : N5 l F) (peer : ByteArray) : ∃ s, pH p l peer = some s ∧ Is ((p.jH.filter (zn p (vF F peer))).map (·.Signed.jr)) s := by
 obtain ⟨m, e, a⟩ := OA h peer
 have := hp.FQ
 unfold pH
 rw [e, aA, BZ p hp _ m a p.jH [] (by simp; omega), aZ]
 have h1 : (p.jH.filter (zn p (vF F peer))).length ≤ p.jH.length := cY _ _
 exact Li _ (by simp; omega)
end Go.Proofs.YtmlncblocfcmiaaGreat
namespace Go.Proofs.YtmlncblocfcmiaaGreat
open Go.RowKit
structure PG (p : kI) : Prop extends PB p where
 Sc : ∀ x ∈ p.jH, xA x.Signed.jr ≤ 1000000000
 R9 : ∀ a ∈ p.ke, ∀ c ∈ a.ms, xA c ≤ 1000000000
end Go.Proofs.YtmlncblocfcmiaaGreat
namespace Go.Proofs.YtmlncblocfcmiaaGreat
open Go.RowKit
def gX : jq := ⟨⟨#[120]⟩, ⟨#[121]⟩⟩
def gc : jr := ⟨1, gX, ⟨#[109, 101]⟩, ⟨zS, zS⟩, ⟨zS, zS⟩, zS⟩
theorem QH {f : Formula} (h : f.Op = 1) : oS f = f := by rw [yc, bD h]
end Go.Proofs.YtmlncblocfcmiaaGreat
namespace Go.Proofs.YtmlncblocfcmiaaGreat
open Go.RowKit
noncomputable def vD (l : List jr) (peer : ByteArray) (r : jq) : Bool := @decide (oG (l.filter lC) ⟨r, peer⟩) (Classical.propDecidable _)
theorem Gw (l : List jr) (peer : ByteArray) (r : jq) : vD l peer r = true ↔ oG (l.filter lC) ⟨r, peer⟩ := by unfold vD; simp
theorem OV {l m : List jr} (h : ∀ c ∈ l, c ∈ m) (peer : ByteArray) (r : jq) (b : vD l peer r = true) : vD m peer r = true := by
 rw [Gw] at *
 exact b.mono (fun c a => by rw [cM] at *; exact ⟨h c a.1, a.2⟩)
theorem Q9 (l : List jr) (h : l.length ≤ 1000000) (peer : ByteArray) : ∃ m, uL l peer = some m ∧ ∀ r, py r m.1 m.2.1 m.2.2.1 m.2.2.2.1 m.2.2.2.2.1 m.2.2.2.2.2.1 m.2.2.2.2.2.2 = some (vD l peer r) := by
 obtain ⟨C, T, us, ws, n, e, m, d, _⟩ := Lr l h
 unfold uL
 rw [e, aA]
 refine ⟨_, rfl, fun r => ?_⟩
 unfold py
 rw [nA]
 obtain ⟨b, a, g⟩ := MZ m C us ws [] n r peer
 rw [a]
 congr 1
 rw [bU, g, Gw]
 exact oG.congr (fun c => by rw [d, cM]) _
noncomputable def Jj (p : kI) (v : jq → Bool) (c : jr) : Bool := decide ((oT p c).2 = 0) && zl v (oT p c).1
theorem NZ {p : kI} {v w : jq → Bool} (h : ∀ r, v r = true → w r = true) (c : jr) (a : Jj p v c = true) : Jj p w c = true := by
 unfold Jj zl at *
 simp only [bF, bO] at *
 exact ⟨a.1, a.2.1, OW h _ a.2.2⟩
def nI (s : List jr) : Prop := s.Pairwise (fun a b => AA a b = true) ∧ ∀ c ∈ s, lC c = true
theorem nI.nodup {s : List jr} (h : nI s) : s.Nodup := uw Bl h.2 h.1
theorem nI.le {s t : List jr} (h : nI s) (a : ∀ c ∈ s, c ∈ t) : s.length ≤ t.length := mi h.nodup a
theorem nI.ext {s t : List jr} (h : nI s) (k : nI t) (b : ∀ c, c ∈ s ↔ c ∈ t) : s = t :=
 uW.unique Bl (l := t) ⟨h.1, fun x => ⟨fun a => ⟨(b x).1 a, h.2 x a⟩, fun a => (b x).2 a.1⟩⟩ ⟨k.1, fun x => ⟨fun a => ⟨a, k.2 x a⟩, fun a => a.1⟩⟩
theorem nI.eq {s t : List jr} (h : nI s) (k : nI t) (b : ∀ c ∈ s, c ∈ t) (i : t.length ≤ s.length) : s = t := by
 refine h.ext k fun c => ⟨b c, fun d => ?_⟩
 refine ft fun g => ?_
 have := mi (l := c :: s) (m := t) (dY.2 ⟨g, h.nodup⟩) (fun x a => by
  rcases aR.1 a with rfl | a
  ·exact d
  ·exact b x a)
 simp at this; omega
theorem nI.nil : nI [] := ⟨by simp, by simp⟩
theorem nI.filter {s : List jr} (h : nI s) (p : jr → Bool) : nI (s.filter p) := ⟨h.1.filter _, fun c a => h.2 c (cM.1 a).1⟩
def zu (p : kI) (c : jr) : Prop := ∃ x ∈ p.jH, x.Signed.jr = c
def nN (p : kI) (l : List jr) (peer : ByteArray) (c : jr) : Prop := zu p c ∧ lC c = true ∧ Jj p (vD l peer) c = true
theorem tf {p : kI} {l m : List jr} (h : ∀ c ∈ l, c ∈ m) {peer : ByteArray} {c : jr} (a : nN p l peer c) : nN p m peer c := ⟨a.1, a.2.1, NZ (OV h peer) c a.2.2⟩
theorem rr {p : kI} {s : List jr} (h : nI s) (b : ∀ c ∈ s, zu p c) : s.length ≤ p.jH.length := by
 have := h.le (t := p.jH.map (·.Signed.jr)) (fun c a => by obtain ⟨x, d, e⟩ := b c a; exact bL.2 ⟨x, d, e⟩)
 simpa using this
theorem Bq (p : kI) (hp : PB p) (l : List jr) (n : l.length ≤ 1000000) (peer : ByteArray) : ∃ s, pH p l peer = some s ∧ nI s ∧ (∀ c, c ∈ s ↔ nN p l peer c) ∧ s.length ≤ p.jH.length := by
 obtain ⟨m, e, q⟩ := Q9 l n peer
 have := hp.FQ
 unfold pH
 rw [e, aA, BZ p hp _ m q p.jH [] (by simp; omega), aZ]
 have h1 : (p.jH.filter (zn p (vD l peer))).length ≤ p.jH.length := cY _ _
 obtain ⟨s, j, a⟩ := Li ((p.jH.filter (zn p (vD l peer))).map (·.Signed.jr)) (by simp; omega)
 have i : nI s := ⟨a.1, fun c d => ((a.2 c).1 d).2⟩
 have hm : ∀ c, c ∈ s ↔ nN p l peer c := fun c => by
  rw [a.2, bL]
  constructor
  ·rintro ⟨⟨x, h, rfl⟩, g⟩
   obtain ⟨k, b⟩ := cM.1 h
   exact ⟨⟨x, k, rfl⟩, g, b⟩
  ·rintro ⟨⟨x, h, rfl⟩, g, b⟩
   exact ⟨⟨x, cM.2 ⟨h, b⟩, rfl⟩, g⟩
 exact ⟨s, j, i, hm, rr i (fun c d => ((hm c).1 d).1)⟩
structure Ip (a b : kI) (x y : List jr) : Prop where
 sx : nI x
 sy : nI y
 fx : ∀ c, c ∈ x ↔ nN a y b.Name c
 fy : ∀ c, c ∈ y ↔ nN b x a.Name c
 least : ∀ X Y : List jr, (∀ c, nN a Y b.Name c → c ∈ X) → (∀ c, nN b X a.Name c → c ∈ Y) → (∀ c ∈ x, c ∈ X) ∧ (∀ c ∈ y, c ∈ Y)
theorem Ip.lx {a b : kI} {x y : List jr} (h : Ip a b x y) : x.length ≤ a.jH.length := rr h.sx (fun c d => ((h.fx c).1 d).1)
theorem Ip.ly {a b : kI} {x y : List jr} (h : Ip a b x y) : y.length ≤ b.jH.length := rr h.sy (fun c d => ((h.fy c).1 d).1)
theorem HP (a b : kI) (ha : PB a) (u : PB b) (la : a.jH.length ≤ 600000) (lb : b.jH.length ≤ 600000) : ∀ (n : Nat) (x y : List jr) (i : Int), nI x → nI y → (∀ c ∈ x, nN a y b.Name c) → (∀ c ∈ y, nN b x a.Name c) →
  (∀ X Y : List jr, (∀ c, nN a Y b.Name c → c ∈ X) → (∀ c, nN b X a.Name c → c ∈ Y) → (∀ c ∈ x, c ∈ X) ∧ (∀ c ∈ y, c ∈ Y)) → a.jH.length + b.jH.length < n + x.length + y.length →
  ∃ v w j, pj a b n x y i = some (v, w, j) ∧ Ip a b v w
 | 0, x, y, i, sx, sy, g, k, hm, E => by
  have h1 := rr sx (fun c d => (g c d).1)
  have D := rr sy (fun c d => (k c d).1)
  omega
 | n + 1, x, y, i, sx, sy, g, k, hm, E => by
  have h1 := rr sx (fun c d => (g c d).1)
  have D := rr sy (fun c d => (k c d).1)
  obtain ⟨p, z, sp, mp, J⟩ := Bq a ha y (by omega) b.Name
  obtain ⟨q, A, sq, l, L⟩ := Bq b u x (by omega) a.Name
  have m : ∀ c ∈ x, c ∈ p := fun c d => (mp c).2 (g c d)
  have r : ∀ c ∈ y, c ∈ q := fun c d => (l c).2 (k c d)
  have G := sx.le m
  have I := sy.le r
  rw [pj, z, aA, A, aA]
  by_cases c1 : p.length = x.length ∧ q.length = y.length
  ·have e : ((if ((p.length : Int) == (x.length : Int)) then some ((q.length : Int) == (y.length : Int)) else some false) : Option Bool) = some true := by
    rw [c1.1, c1.2]; simp
   rw [e]
   simp only [aA, aT]
   obtain rfl := sx.eq sp m (by omega)
   obtain rfl := sy.eq sq r (by omega)
   exact ⟨_, _, _, rfl, sx, sy, mp, l, hm⟩
  ·have e : ((if ((p.length : Int) == (x.length : Int)) then some ((q.length : Int) == (y.length : Int)) else some false) : Option Bool) = some false := by
    by_cases c2 : p.length = x.length
    ·have F : ¬ q.length = y.length := fun h => c1 ⟨c2, h⟩
     simp [c2]; omega
    ·have : ¬ ((p.length : Int) = (x.length : Int)) := by omega
     simp [this]
   rw [e]
   simp only [aA, aC, aK]
   refine HP a b ha u la lb n p q _ sp sq (fun c d => tf r ((mp c).1 d)) (fun c d => tf m ((l c).1 d)) (fun X Y s t => ?_) (by omega)
   obtain ⟨g1, g2⟩ := hm X Y s t
   exact ⟨fun c d => s c (tf g2 ((mp c).1 d)), fun c d => t c (tf g1 ((l c).1 d))⟩
theorem MY (a b : kI) (ha : PB a) (d : PB b) (la : a.jH.length ≤ 600000) (lb : b.jH.length ≤ 600000) : ∃ x y j, xt a b = some (x, y, j) ∧ Ip a b x y :=
 HP a b ha d la lb jY [] [] 0 nI.nil nI.nil (by simp) (by simp) (fun _ _ _ _ => by simp) (by rw [mc]; simp; omega)
theorem Cu (a b : List jr) (ha : a.length ≤ 1000000) : wH a b = some (a.filter (mr kh b)) := by
 unfold wH
 rw [Ji (by omega)]
 simp only [aA, nA]
 rw [Fu, CR _ (fun c => !mr kh b c) zC a (by omega) (fun c _ => by unfold wi qK; rw [nA, Fi]; rfl)]
 simp only [gk]
theorem Hy (a b : List jr) (ha : a.length ≤ 1000000) : vo a b = some (a.filter fun c => !mr kh b c) := by
 unfold vo
 rw [Ji (by omega)]
 simp only [aA, nA]
 rw [Fu, CR _ (fun c => mr kh b c) zC a (by omega) (fun c _ => by unfold uX qK; rw [nA, nA, Fi])]
theorem EE (p : kI) (hp : p.jH.length ≤ 600000) : ∃ s, uu p = some s ∧ nI s ∧ ∀ c, c ∈ s ↔ zu p c ∧ lC c = true := by
 have h1 : ∀ (l : List kz) (acc : List jr), acc.length + l.length ≤ 1000000000 → pg l acc = uh (acc ++ l.map (·.Signed.jr)) := by
  intro l
  induction l with
  | nil => intro acc _; rw [pg, eW, bH, nA]
  | cons x l ih =>
   intro acc h
   rw [aO] at h
   rw [pg, mA (by simp; omega) (by simp; omega), aA, ih _ (by simp; omega)]
   simp
 unfold uu
 rw [h1 _ _ (by simp; omega), aZ]
 obtain ⟨s, e, h⟩ := Li (p.jH.map (·.Signed.jr)) (by simp; omega)
 refine ⟨s, e, ⟨h.1, fun c a => ((h.2 c).1 a).2⟩, fun c => ?_⟩
 rw [h.2, bL]
 exact Iff.rfl
structure Fg (p : nf) (a b : List jr) : Prop where
 sa : nI a
 sb : nI b
 fa : ∀ c ∈ a, nN p.js b p.Client.Name c
 fb : ∀ c ∈ b, nN p.Client a p.js.Name c
 yO : ∀ X Y : List jr, nI X → nI Y → (∀ c ∈ X, nN p.js Y p.Client.Name c) → (∀ c ∈ Y, nN p.Client X p.js.Name c) → (∀ c ∈ X, c ∈ a) ∧ (∀ c ∈ Y, c ∈ b)
theorem Gg {α : Type} (p : α → Bool) (l : List α) (h : (l.filter p).length = l.length) : ∀ x ∈ l, p x = true := by
 have := gp (l := l) (p := p)
 have e := this.eq_of_length h
 intro x a
 rw [← e] at a
 exact (cM.1 a).2
theorem Jb (p : nf) (ha : PB p.js) (k : PB p.Client) (la : p.js.jH.length ≤ 600000) (lb : p.Client.jH.length ≤ 600000) : ∀ (n : Nat) (x y : List jr), nI x → nI y → x.length ≤ 600000 → y.length ≤ 600000 →
  (∀ X Y : List jr, nI X → nI Y → (∀ c ∈ X, nN p.js Y p.Client.Name c) → (∀ c ∈ Y, nN p.Client X p.js.Name c) → (∀ c ∈ X, c ∈ x) ∧ (∀ c ∈ Y, c ∈ y)) → x.length + y.length < n →
  ∃ a b, om p n x y = some (a, b) ∧ Fg p a b
 | 0, x, y, sx, sy, lx, ly, hm, t => by omega
 | n + 1, x, y, sx, sy, lx, ly, hm, t => by
  obtain ⟨f, q, E, l, A⟩ := Bq p.js ha y (by omega) p.Client.Name
  obtain ⟨g, r, sg, m, D⟩ := Bq p.Client k x (by omega) p.js.Name
  have w := cY (mr kh f) x
  have z := cY (mr kh g) y
  rw [om, q, aA, Cu x f (by omega), aA, r, aA, Cu y g (by omega), aA]
  by_cases c1 : (x.filter (mr kh f)).length = x.length ∧ (y.filter (mr kh g)).length = y.length
  ·have e : ((if (((x.filter (mr kh f)).length : Int) == (x.length : Int)) then some (((y.filter (mr kh g)).length : Int) == (y.length : Int)) else some false) : Option Bool) = some true := by
    rw [c1.1, c1.2]; simp
   rw [e]
   simp only [aA, aT]
   have h1 := Gg _ _ c1.1
   have s := Gg _ _ c1.2
   exact ⟨x, y, rfl, sx, sy, fun c d => (l c).1 ((sD mz f c).1 (h1 c d)), fun c d => (m c).1 ((sD mz g c).1 (s c d)), hm⟩
  ·have e : ((if (((x.filter (mr kh f)).length : Int) == (x.length : Int)) then some (((y.filter (mr kh g)).length : Int) == (y.length : Int)) else some false) : Option Bool) = some false := by
    by_cases c2 : (x.filter (mr kh f)).length = x.length
    ·have v : ¬ (y.filter (mr kh g)).length = y.length := fun h => c1 ⟨c2, h⟩
     rw [c2]
     simp only [aW, aT]
     congr 1
     rw [eY]; omega
    ·have : (((x.filter (mr kh f)).length : Int) == (x.length : Int)) = false := by rw [eY]; omega
     simp only [this, aC, aK]
   rw [e]
   simp only [aA, aC, aK]
   refine Jb p ha k la lb n _ _ (sx.filter _) (sy.filter _) (by omega) (by omega) (fun X Y u sY i j => ?_) (by omega)
   obtain ⟨g1, g2⟩ := hm X Y u sY i j
   refine ⟨fun c d => cM.2 ⟨g1 c d, ?_⟩, fun c d => cM.2 ⟨g2 c d, ?_⟩⟩
   ·rw [sD mz, l]; exact tf g2 (i c d)
   ·rw [sD mz, m]; exact tf g1 (j c d)
theorem NB (p : nf) (ha : PB p.js) (m : PB p.Client) (la : p.js.jH.length ≤ 600000) (lb : p.Client.jH.length ≤ 600000) : ∃ a b, pc p = some (a, b) ∧ Fg p a b := by
 obtain ⟨x, i, sx, g⟩ := EE p.js la
 obtain ⟨y, j, sy, h⟩ := EE p.Client lb
 have q := rr sx (fun c d => ((g c).1 d).1)
 have r := rr sy (fun c d => ((h c).1 d).1)
 unfold pc
 rw [i, aA, j, aA]
 exact Jb p ha m la lb jY x y sx sy (by omega) (by omega) (fun X Y n sY k l => ⟨fun c d => (g c).2 ⟨(k c d).1, n.2 c d⟩, fun c d => (h c).2 ⟨(l c d).1, sY.2 c d⟩⟩) (by rw [mc]; omega)
theorem Fg.la {p : nf} {a b : List jr} (h : Fg p a b) : a.length ≤ p.js.jH.length := rr h.sa (fun c d => (h.fa c d).1)
theorem Fg.lb {p : nf} {a b : List jr} (h : Fg p a b) : b.length ≤ p.Client.jH.length := rr h.sb (fun c d => (h.fb c d).1)
theorem Cq (p : nf) (ha : PB p.js) (i : PB p.Client) (la : p.js.jH.length ≤ 600000) (lb : p.Client.jH.length ≤ 600000) : ∃ a b x y j, pc p = some (a, b) ∧ Fg p a b ∧ xt p.js p.Client = some (x, y, j) ∧ Ip p.js p.Client x y ∧ qS p = some (a.filter fun c => !mr kh x c, b.filter fun c => !mr kh y c) := by
 obtain ⟨a, b, g, d⟩ := NB p ha i la lb
 obtain ⟨x, y, j, h, k⟩ := MY p.js p.Client ha i la lb
 have h1 := d.la
 have l := d.lb
 refine ⟨a, b, x, y, j, g, d, h, k, ?_⟩
 unfold qS
 rw [g, aA, h, aA]
 simp only
 rw [Hy a x (by omega), aA, Hy b y (by omega), aA]
end Go.Proofs.YtmlncblocfcmiaaGreat
