/- a part of a proof of WeighTells -/
import Derived.Test.YtbnbdigcbldfhaaGreatRtYh
import Derived.Test.YtbnbdigcbldfhaaGreatW3Mh
import Derived.Test.YtbnbdigcbldfhaaGreatRows
import Derived.WalkKit
import Derived.ProofKit
import Derived.OpenShut
import Derived.JoinedCond
import Derived.Deep.Slices
import Derived.Carry
import Derived.ChangeArms
import Derived.ChangeSame
import Derived.Test.YtbnbdigcbldfhaaGreatW3W2h
set_option linter.all false
namespace Go.Proofs.YtbnbdigcbldfhaaGreat
open Go.IntKind renaming wrap → wi0
open Go.Proofs.Tryz renaming prog → pg0
open Go.RowKit
theorem sF {c x : Bool} : (if c = true then some x else some false : Option Bool) = some (c && x) := by cases c <;> rfl
theorem EB {c x : Bool} : (if c = true then some true else some x : Option Bool) = some (c || x) := by cases c <;> rfl
theorem uB {α : Type} (x : Option α) : (x.bind fun y => some y) = x := by cases x <;> rfl
theorem ja {x : Int} (a : -9223372036854775808 ≤ x) (h1 : x ≤ 9223372036854775807) : wi0 .i64 x = x := IntWalk.i64_in _ (by omega)
theorem oX {α : Type} (A : List α) (x : α) (B : List α) (i : Int) (h : i = (A.length : Int)) : jK (A ++ x :: B) i = some x := by
 subst h; rw [xQ]; simp
theorem ul : jj = 18446744073709551615 + 1 := by rw [oZ]
def wA {α : Type} (f1 : α → Option Bool) (z : α) : Nat → List α → Int → Int → Option (List α)
 | 0, _, _, _ => none
 | n + 1, l, i, j => if decide (j < (l.length : Int)) then
   ((jK l j).bind fun x => (f1 x).bind fun r => if (!r) then (jK l i).bind fun _ => some (l.set (Int.toNat i) x, wi0 .i64 (i + 1)) else some (l, i) : Option (List α × Int)).bind fun (b, a) => wA f1 z n b a (wi0 .i64 (j + 1))
  else (nY (decide (0 ≤ i) && decide (i ≤ (l.length : Int)))).bind fun _ => (nY (decide (0 ≤ i) && decide (i ≤ ((lI l (Int.toNat i) z).length : Int)))).bind fun _ => some ((lI l (Int.toNat i) z).take (Int.toNat i))
theorem uR {a b : Int} (c : 0 ≤ a) (h1 : a ≤ b) : nY (decide (0 ≤ a) && decide (a ≤ b)) = some () := by simp [nY, c, h1]
theorem zj {α : Type} (f1 : α → Option Bool) (p : α → Bool) (z : α) : ∀ (rest out mid : List α) (n : Nat), rest.length < n → (out ++ mid ++ rest).length < 4611686018427387904 → mid ≠ [] → (∀ x ∈ rest, f1 x = some (p x)) →
  wA f1 z n (out ++ mid ++ rest) (out.length : Int) ((out.length + mid.length : Nat) : Int) = some (out ++ rest.filter fun x => !p x)
 | [], out, mid, 0, h, _, _, _ => by simp at h
 | [], out, mid, n + 1, _, b, hm, _ => by
  rw [wA, al (by simp)]
  have h1 : out.length ≤ (out ++ mid ++ []).length := by simp
  rw [uR (by omega) (by omega)]
  simp only [aa]
  rw [uR (by omega) (by rw [oN _ _ _ (by simpa using h1)]; omega)]
  simp only [aa, dg]
  rw [wk _ _ _ h1]
  simp
 | x :: rest, out, mid, 0, h, _, _, _ => by simp at h
 | x :: rest, out, mid, n + 1, h, b, hm, c => by
  have hlen : (out ++ mid ++ x :: rest).length = out.length + mid.length + rest.length + 1 := by simp; omega
  rw [hlen] at b
  rw [wA, ar (by rw [hlen]; simp; omega)]
  rw [oX (out ++ mid) x rest _ (by simp)]
  simp only [aa, c x (by simp)]
  rw [ja (x := ((out.length + mid.length : Nat) : Int) + 1) (by omega) (by omega)]
  have ih := zj f1 p z rest
  cases hp : p x with
  | true =>
   simp only [bQ, ap, bf, aa]
   have := ih out (mid ++ [x]) n (by simp at h; omega) (by simp; omega) (by simp) (fun y d => c y (by simp [d]))
   simp only [ay, bZ, bw, an, aB, bH] at this ⊢
   rw [show ((out.length + mid.length : Nat) : Int) + 1 = ((out.length + (mid.length + (0 + 1)) : Nat) : Int) by omega, this]
   simp [hp]
  | false =>
   obtain ⟨m, a, rfl⟩ : ∃ m a, mid = m :: a := by cases mid with
    | nil => exact absurd rfl hm
    | cons m a => exact ⟨m, a, rfl⟩
   simp only [cT, bi]
   rw [ay out (m :: a) (x :: rest), bZ]
   rw [oX out m (a ++ x :: rest) _ rfl]
   simp only [aa]
   rw [ja (x := (out.length : Int) + 1) (by omega) (by simp at b; omega)]
   have := ih (out ++ [x]) (a ++ [x]) n (by simp at h; omega) (by simp at b ⊢; omega) (by simp) (fun y d => c y (by simp [d]))
   simp only [ay, bZ, bw, an, aB, bH] at this
   have g : (out ++ m :: (a ++ x :: rest)).set (Int.toNat (out.length : Int)) x = out ++ x :: (a ++ x :: rest) := by
    rw [dg, List.set_append_right _ _ (aJ _)]; simp
   rw [g]
   simp only [aB] at b ⊢
   rw [show (out.length : Int) + 1 = ((out.length + (0 + 1) : Nat) : Int) by omega, show ((out.length + (a.length + 1) : Nat) : Int) + 1 = ((out.length + (0 + 1) + (a.length + (0 + 1)) : Nat) : Int) by omega, this]
   simp [hp]
def wI {α : Type} (f1 : α → Option Bool) : List α → Nat → Option Int
 | [], _ => some (-1)
 | x :: xs, i => (f1 x).bind fun r => if r then some (i : Int) else wI f1 xs (i + 1)
theorem zl {α : Type} (f1 : α → Option Bool) (p : α → Bool) : ∀ (l : List α) (i : Nat), (∀ x ∈ l, f1 x = some (p x)) →
  (wI f1 l i = some (-1) ∧ ∀ x ∈ l, p x = false) ∨ ∃ A x B, l = A ++ x :: B ∧ (∀ y ∈ A, p y = false) ∧ p x = true ∧ wI f1 l i = some ((i + A.length : Nat) : Int)
 | [], i, _ => .inl ⟨rfl, by simp⟩
 | x :: l, i, h => by
  rw [wI, h x (by simp)]
  simp only [aa]
  cases hp : p x with
  | true => exact .inr ⟨[], x, l, rfl, by simp, hp, by simp⟩
  | false =>
   simp only [ap, bf]
   rcases zl f1 p l (i + 1) (fun y a => h y (by simp [a])) with ⟨h1, b⟩ | ⟨A, y, B, rfl, h1, b, d⟩
   ·exact .inl ⟨h1, by intro y a; rcases ak.1 a with rfl | a; exact hp; exact b y a⟩
   ·refine .inr ⟨x :: A, y, B, rfl, ?_, b, ?_⟩
    ·intro z c; rcases ak.1 c with rfl | c
     ·exact hp
     ·exact h1 z c
    ·rw [d]; simp; omega
def BI {α : Type} (f1 : α → Option Bool) (z : α) (l : List α) : Option (List α) :=
 (wI f1 l 0).bind fun a => if (a == (-1)) then some l else wA f1 z jj l a (wi0 .i64 (a + 1))
theorem Dc {α : Type} (f1 : α → Option Bool) (p : α → Bool) (z : α) (l : List α) (c : l.length < 4611686018427387904) (h : ∀ x ∈ l, f1 x = some (p x)) : BI f1 z l = some (l.filter fun x => !p x) := by
 unfold BI
 rcases zl f1 p l 0 h with ⟨h1, b⟩ | ⟨A, x, B, rfl, h1, b, d⟩
 ·rw [h1]
  simp only [aa, bY, bi]
  rw [dl.2 (fun y a => by simp [b y a])]
 ·rw [d]
  simp only [aa, dI]
  rw [al (by simp), ja (by omega) (by simp at c; omega)]
  have := zj f1 p z B A [x] jj (by rw [oZ]; simp at c; omega) (by simpa using c) (by simp) (fun y a => h y (by simp [a]))
  simp only [ay, bZ, bw, aB, bH] at this
  rw [show (A.length : Int) + 1 = ((A.length + (0 + 1) : Nat) : Int) by omega, this]
  have g : A.filter (fun x => !p x) = A := dl.2 (fun y a => by simp [h1 y a])
  rw [eT, g]
  simp [b]
def lQ {α : Type} (eq : α → α → Bool) : α → List α → List α
 | _, [] => []
 | p, y :: a => if eq y p then lQ eq y a else y :: lQ eq y a
def dd {α : Type} (eq : α → α → Bool) : List α → List α
 | [] => []
 | x :: xs => x :: lQ eq x xs
def tD {α : Type} (eq : α → α → Bool) (i : Int) : Nat → List α → Int → Int → Option (List α × Int)
 | 0, _, _, _ => none
 | n + 1, l, k, j => if decide (j < ((l.length - Int.toNat i : Nat) : Int)) then
   ((jK (l.drop (Int.toNat i)) j).bind fun x => (jK (l.drop (Int.toNat i)) (wi0 .i64 (j - 1))).bind fun y => if !(eq x y) then (jK (l.drop (Int.toNat i)) j).bind fun z => (jK l k).bind fun _ => some (l.set (Int.toNat k) z, wi0 .i64 (k + 1)) else some (l, k) : Option (List α × Int)).bind fun (a, k') => tD eq i n a k' (wi0 .i64 (j + 1))
  else some (l, k)
def uj {α : Type} (eq : α → α → Bool) (z : α) (l : List α) : Nat → Int → Option (List α)
 | 0, _ => none
 | n + 1, i => if decide (i < (l.length : Int)) then (jK l i).bind fun x => (jK l (wi0 .i64 (i - 1))).bind fun y => if eq x y then
    (nY (decide (0 ≤ i) && decide (i ≤ (l.length : Int)))).bind fun _ => (tD eq i jj l i 1).bind fun (a, k) => (nY (decide (0 ≤ k) && decide (k ≤ (a.length : Int)))).bind fun _ => (nY (decide (0 ≤ k) && decide (k ≤ ((lI a (Int.toNat k) z).length : Int)))).bind fun _ => some ((lI a (Int.toNat k) z).take (Int.toNat k))
   else uj eq z l n (wi0 .i64 (i + 1))
  else some l
def ye {α : Type} (eq : α → α → Bool) (z : α) (l : List α) : Option (List α) := if decide ((l.length : Int) < 2) then some l else uj eq z l jj 1
theorem zh {α : Type} (l : List α) (i : Nat) (j : Int) (a : 0 ≤ j) : jK (l.drop i) j = jK l ((i : Int) + j) := by
 obtain ⟨m, rfl⟩ : ∃ m : Nat, j = m := ⟨j.toNat, by omega⟩
 rw [show (i : Int) + (m : Int) = ((i + m : Nat) : Int) by omega, xQ, xQ, cj]
theorem wW {α : Type} (eq : α → α → Bool) (i : Nat) : ∀ (rest out mid : List α) (p : α) (n : Nat), rest.length < n → (out ++ (mid ++ [p]) ++ rest).length < 4611686018427387904 → 1 ≤ i → i ≤ out.length →
  ∃ b, tD eq (i : Int) n (out ++ (mid ++ [p]) ++ rest) (out.length : Int) ((out.length + mid.length + 1 - i : Nat) : Int) = some (b, ((out ++ lQ eq p rest).length : Int)) ∧ b.take (out ++ lQ eq p rest).length = out ++ lQ eq p rest ∧ (out ++ lQ eq p rest).length ≤ b.length
 | [], out, mid, p, 0, h, _, _, _ => by simp at h
 | [], out, mid, p, n + 1, h, k, h1, j => by
  rw [tD, al (by simp; omega)]
  exact ⟨out ++ (mid ++ [p]) ++ [], by simp [lQ], by simp [lQ], by simp [lQ]⟩
 | x :: rest, out, mid, p, 0, h, _, _, _ => by simp at h
 | x :: rest, out, mid, p, n + 1, h, k, h1, j => by
  have hlen : (out ++ (mid ++ [p]) ++ x :: rest).length = out.length + mid.length + rest.length + 2 := by simp; omega
  rw [hlen] at k
  rw [tD, ar (by rw [hlen]; simp; omega)]
  rw [dg, zh _ _ _ (by omega), oX (out ++ (mid ++ [p])) x rest _ (by simp; omega)]
  simp only [aa]
  rw [ja (x := ((out.length + mid.length + 1 - i : Nat) : Int) - 1) (by omega) (by omega), zh _ _ _ (by omega)]
  rw [show out ++ (mid ++ [p]) ++ x :: rest = (out ++ mid) ++ p :: (x :: rest) by simp]
  rw [oX (out ++ mid) p (x :: rest) _ (by simp; omega)]
  simp only [aa]
  rw [ja (x := ((out.length + mid.length + 1 - i : Nat) : Int) + 1) (by omega) (by omega)]
  cases hp : eq x p with
  | true =>
   simp only [bQ, ap, bf, aa]
   obtain ⟨b, c, d, g⟩ := wW eq i rest out (mid ++ [p]) x n (by simp at h; omega) (by simp; omega) h1 j
   refine ⟨b, ?_, by rw [lQ, hp]; exact d, by rw [lQ, hp]; exact g⟩
   rw [lQ, hp, ar rfl, ← c]
   congr 1
   ·simp
   ·simp; omega
  | false =>
   simp only [cT, bi]
   obtain ⟨m, a, hm⟩ : ∃ m a, mid ++ [p] = m :: a := by cases mid with
    | nil => exact ⟨p, [], rfl⟩
    | cons m a => exact ⟨m, a ++ [p], rfl⟩
   have o : a.length = mid.length := by have := aw List.length hm; simp at this; omega
   rw [show (out ++ mid) ++ p :: (x :: rest) = out ++ m :: (a ++ x :: rest) by rw [← bZ, ← hm]; simp]
   rw [oX out m (a ++ x :: rest) _ rfl]
   simp only [aa]
   rw [ja (x := (out.length : Int) + 1) (by omega) (by omega)]
   have q : (out ++ m :: (a ++ x :: rest)).set (Int.toNat (out.length : Int)) x = (out ++ [x]) ++ (a ++ [x]) ++ rest := by
    rw [dg, List.set_append_right _ _ (aJ _)]; simp
   rw [q]
   obtain ⟨b, c, d, g⟩ := wW eq i rest (out ++ [x]) a x n (by simp at h; omega) (by simp; omega) h1 (by simp; omega)
   refine ⟨b, ?_, ?_, ?_⟩
   ·rw [lQ, hp, al (by decide)]
    have l : ((out ++ x :: lQ eq x rest).length : Int) = ((out ++ [x] ++ lQ eq x rest).length : Int) := by simp
    rw [l, ← c]
    congr 1
    ·simp
    ·simp; omega
   ·rw [lQ, hp, al (by decide)]; simpa using d
   ·rw [lQ, hp, al (by decide)]; simpa using g
theorem zQ {α : Type} (eq : α → α → Bool) (z : α) : ∀ (rest pre : List α) (p : α) (n : Nat), rest.length < n → (pre ++ p :: rest).length < 4611686018427387904 →
  uj eq z (pre ++ p :: rest) n ((pre.length + 1 : Nat) : Int) = some (pre ++ p :: lQ eq p rest)
 | [], pre, p, 0, h, _ => by simp at h
 | [], pre, p, n + 1, h, g => by rw [uj, al (by simp)]; simp [lQ]
 | x :: rest, pre, p, 0, h, _ => by simp at h
 | x :: rest, pre, p, n + 1, h, g => by
  have hlen : (pre ++ p :: x :: rest).length = pre.length + rest.length + 2 := by simp; omega
  rw [hlen] at g
  rw [uj, ar (by rw [hlen]; simp; omega)]
  rw [show pre ++ p :: x :: rest = (pre ++ [p]) ++ x :: rest by simp, oX (pre ++ [p]) x rest _ (by simp)]
  simp only [aa]
  rw [ja (x := ((pre.length + 1 : Nat) : Int) - 1) (by omega) (by omega)]
  rw [show (pre ++ [p]) ++ x :: rest = pre ++ p :: (x :: rest) by simp, oX pre p (x :: rest) _ (by omega)]
  simp only [aa]
  cases hp : eq x p with
  | true =>
   simp only [bi]
   rw [uR (by omega) (by rw [hlen]; omega)]
   simp only [aa]
   obtain ⟨i, a, d, c⟩ := wW eq (pre.length + 1) rest (pre ++ [p]) [] x jj (by rw [oZ]; omega) (by simp; omega) (by omega) (by simp)
   simp only [ay, bZ, bw, an, aB, bH] at a d c
   rw [show (pre.length + (0 + 1) + 0 + 1 - (pre.length + 1) : Nat) = 1 by omega] at a
   rw [show ((pre.length + 1 : Nat) : Int) = ((pre.length + (0 + 1) : Nat) : Int) by omega] at *
   have b : tD eq ((pre.length + (0 + 1) : Nat) : Int) jj (pre ++ p :: x :: rest) ((pre.length + (0 + 1) : Nat) : Int) 1 = _ := a
   rw [b]
   simp only [aa]
   rw [uR (by omega) (by omega)]
   simp only [aa, dg]
   rw [uR (by omega) (by rw [oN _ _ _ c]; omega)]
   simp only [aa]
   rw [wk _ _ _ c, d, lQ, hp]
   simp
  | false =>
   simp only [ap, bf]
   rw [ja (x := ((pre.length + 1 : Nat) : Int) + 1) (by omega) (by omega)]
   have := zQ eq z rest (pre ++ [p]) x n (by simp at h; omega) (by simp; omega)
   simp only [ay, bZ, bw, an, aB, bH] at this
   rw [show ((pre.length + 1 : Nat) : Int) + 1 = ((pre.length + (0 + 1) + 1 : Nat) : Int) by omega, this, lQ, hp]
   simp
theorem Ab {α : Type} (eq : α → α → Bool) (z : α) (l : List α) (a : l.length < 4611686018427387904) : ye eq z l = some (dd eq l) := by
 unfold ye
 cases l with
 | nil => rfl
 | cons x xs =>
  cases xs with
  | nil => simp [dd, lQ]
  | cons y b =>
   rw [al (by simp; omega)]
   have := zQ eq z (y :: b) [] x jj (by rw [oZ]; simp at a ⊢; omega) (by simpa using a)
   simpa [dd] using this
structure rG {α : Type} (lt : α → α → Prop) (P : α → Prop) : Prop where
 irrefl : ∀ x, P x → ¬ lt x x
 trans : ∀ x y z, P x → P y → P z → lt x y → lt y z → lt x z
 total : ∀ x y, P x → P y → lt x y ∨ x = y ∨ lt y x
def lZ {α : Type} (lt : α → α → Prop) (P : α → Prop) (l out : List α) : Prop := out.Pairwise lt ∧ ∀ x, x ∈ out ↔ x ∈ l ∧ P x
theorem lZ.unique {α : Type} {lt : α → α → Prop} {P : α → Prop} (H : rG lt P) : ∀ {l a b : List α}, lZ lt P l a → lZ lt P l b → a = b := by
 have key : ∀ a b : List α, (∀ x ∈ a, P x) → a.Pairwise lt → b.Pairwise lt → (∀ x, x ∈ a ↔ x ∈ b) → a = b := by
  intro a
  induction a with
  | nil => intro b _ _ _ hm; cases b with
   | nil => rfl
   | cons y q => exact absurd ((hm y).2 (by simp)) (by simp)
  | cons x xs ih =>
   intro b n j k hm
   cases b with
   | nil => exact absurd ((hm x).1 (by simp)) (by simp)
   | cons y q =>
    have o : P y := n y ((hm y).2 (by simp))
    have c : P x := n x (by simp)
    have d := bT.1 j
    have g := bT.1 k
    have p : x = y := by
     rcases ak.1 ((hm x).1 (by simp)) with h | h
     ·exact h
     ·rcases ak.1 ((hm y).2 (by simp)) with m | m
      ·exact m.symm
      ·exact absurd (H.trans x y x c o c (d.1 y m) (g.1 x h)) (H.irrefl x c)
    subst p
    congr 1
    refine ih q (fun z i => n z (by simp [i])) d.2 g.2 (fun z => ?_)
    constructor
    ·intro i
     rcases ak.1 ((hm z).1 (by simp [i])) with h | h
     ·subst h; exact absurd (d.1 z i) (H.irrefl z c)
     ·exact h
    ·intro i
     rcases ak.1 ((hm z).2 (by simp [i])) with h | h
     ·subst h; exact absurd (g.1 z i) (H.irrefl z c)
     ·exact h
 intro l a b j k
 exact key a b (fun x r => ((j.2 x).1 r).2) j.1 k.1 (fun x => (j.2 x).trans (k.2 x).symm)
theorem uD {α : Type} {eq : α → α → Bool} (he : ∀ x y, eq x y = true ↔ x = y) : ∀ (l : List α) (p x : α), x ∈ p :: lQ eq p l ↔ x ∈ p :: l
 | [], p, x => by simp [lQ]
 | y :: l, p, x => by
  rw [lQ]
  split
  ·rename_i h
   have := (he y p).1 h
   subst this
   rw [uD he l y x]; simp
  ·have := uD he l y x
   simp only [ak] at this ⊢
   rw [this]
theorem E8 {α : Type} {eq : α → α → Bool} (he : ∀ x y, eq x y = true ↔ x = y) (l : List α) (x : α) : x ∈ dd eq l ↔ x ∈ l := by
 cases l with
 | nil => simp [dd]
 | cons y l => exact uD he l y x
theorem tl {α : Type} {eq : α → α → Bool} {lt : α → α → Prop} {P : α → Prop} (he : ∀ x y, eq x y = true ↔ x = y) (H : rG lt P) : ∀ (l : List α) (p : α), (∀ x ∈ p :: l, P x) → (p :: l).Pairwise (fun a b => ¬ lt b a) → (p :: lQ eq p l).Pairwise lt
 | [], p, _, _ => by simp [lQ]
 | y :: l, p, c, n => by
  have h1 := bT.1 n
  rw [lQ]
  split
  ·rename_i h
   have := (he y p).1 h
   subst this
   exact tl he H l y (fun x i => c x (cL _ i)) h1.2
  ·rename_i h
   have ih := tl he H l y (fun x i => c x (cL _ i)) h1.2
   refine bT.2 ⟨fun z m => ?_, ih⟩
   have g : lt p y := by
    rcases H.total p y (c p (by simp)) (c y (by simp)) with d | d | d
    ·exact d
    ·exact absurd ((he y p).2 d.symm) h
    ·exact absurd d (h1.1 y (by simp))
   rcases ak.1 m with rfl | j
   ·exact g
   ·have k : z ∈ y :: l := (uD he l y z).1 m
    exact H.trans p y z (c p (by simp)) (c y (by simp)) (c z (cL _ k)) g ((bT.1 ih).1 z j)
theorem BV {α : Type} {eq : α → α → Bool} {lt : α → α → Prop} {P : α → Prop} (he : ∀ x y, eq x y = true ↔ x = y) (H : rG lt P) (l : List α) (c : ∀ x ∈ l, P x) (d : l.Pairwise (fun a b => ¬ lt b a)) : (dd eq l).Pairwise lt := by
 cases l with
 | nil => simp [dd]
 | cons y l => exact tl he H l y c d
theorem rD {α : Type} {le : α → α → Bool} {P : α → Prop} (i : ∀ a b c, P a → P b → P c → le a b = true → le b c = true → le a c = true) (h : ∀ a b, P a → P b → (le a b || le b a) = true) (l : List α) (d : ∀ x ∈ l, P x) :
  (l.mergeSort le).Pairwise (fun a b => le a b = true) := by
 have e : l = (l.attachWith P d).map Subtype.val := by simp
 have hm : ((l.attachWith P d).mergeSort fun a b => le a.1 b.1).map Subtype.val = l.mergeSort le := by
  conv => rhs; rw [e]
  exact eU (fun a _ b _ => rfl)
 rw [← hm, ct]
 exact ed (le := fun (a b : {x // P x}) => le a.1 b.1) (fun a b c h1 g => i a.1 b.1 c.1 a.2 b.2 c.2 h1 g) (fun a b => h a.1 b.1 a.2 b.2) _
theorem wi {α : Type} {eq : α → α → Bool} {lt : α → α → Prop} {P : α → Prop} {cf : α × α → Option Int} {l : List α} (he : ∀ x y, eq x y = true ↔ x = y) (H : rG lt P) (g : ∀ x ∈ l, P x) (A : l.length < 4611686018427387904) (w : ∀ x y, P x → P y → ∃ c, cf (x, y) = some c ∧ (c < 0 ↔ lt x y)) : ∃ s, qy cf l = some s ∧ s.length = l.length ∧ lZ lt P l (dd eq s) := by
 have j : ∀ x y, P x → P y → (mx cf x y = true ↔ lt x y) := fun x y i n => by
  obtain ⟨c, h1, m⟩ := w x y i n
  unfold mx
  rw [h1]
  simpa using m
 have d : ∀ x y, P x → P y → (mx cf x y = false ↔ ¬ lt x y) := fun x y i n => by
  rw [← j x y i n]; simp
 have ok : tR cf l := by
  refine ⟨fun x i y n => ?_, fun x i => ?_, fun x i y n z u h1 m => ?_, fun x i y n h1 m => ?_, A⟩
  ·obtain ⟨c, h1, _⟩ := w x y (g x i) (g y n); exact ⟨c, h1⟩
  ·exact (d x x (g x i) (g x i)).2 (H.irrefl x (g x i))
  ·rw [j _ _ (g x i) (g y n)] at h1
   rw [j _ _ (g y n) (g z u)] at m
   rw [j _ _ (g x i) (g z u)]
   exact H.trans x y z (g x i) (g y n) (g z u) h1 m
  ·rw [d _ _ (g x i) (g y n)] at h1
   rw [d _ _ (g y n) (g x i)] at m
   rcases H.total x y (g x i) (g y n) with h | h | h
   ·exact absurd h h1
   ·exact h
   ·exact absurd h m
 refine ⟨_, Ad ok, by simp [lE], ?_, ?_⟩
 ·have k : ∀ x, x ∈ lE cf l ↔ x ∈ l := fun x => by simp [lE]
  refine BV he H _ (fun x i => g x ((k x).1 i)) ?_
  have := rD (le := fun x y => !mx cf y x) (P := P) (fun a b c o p q h1 m => ?_) (fun a b o p => ?_) l g
  ·refine (this.imp_of_mem ?_ : _)
   intro a b o p h
   have r : a ∈ l := (k a).1 o
   have t : b ∈ l := (k b).1 p
   simp at h
   exact (d b a (g b t) (g a r)).1 h
  ·simp at h1 m ⊢
   rw [d _ _ p o] at h1
   rw [d _ _ q p] at m
   rw [d _ _ q o]
   intro v
   rcases H.total a b o p with h | h | h
   ·exact m (H.trans c a b q o p v h)
   ·subst h; exact m v
   ·exact h1 h
  ·simp only [dv, cN]
   rw [d _ _ p o, d _ _ o p]
   by_cases h : lt b a
   ·right; intro m; exact H.irrefl a o (H.trans a b a o p o m h)
   ·exact .inl h
 ·intro x
  rw [E8 he]
  constructor
  ·intro i
   have : x ∈ l := by simpa [lE] using i
   exact ⟨this, g x this⟩
  ·intro i; simpa [lE] using i.1
theorem uY : ∀ a : List UInt8, Op.bytesLess a a = false
 | [] => rfl
 | x :: a => by simp [Op.bytesLess, uY a]
theorem zN (x y : UInt8) : x < y ∨ x = y ∨ y < x := by
 rcases Nat.lt_trichotomy x.toNat y.toNat with h | h | h
 ·exact .inl h
 ·exact .inr (.inl (UInt8.toNat_inj.1 h))
 ·exact .inr (.inr h)
theorem wC : ∀ a b c : List UInt8, Op.bytesLess a b = true → Op.bytesLess b c = true → Op.bytesLess a c = true
 | [], [], c, h1, _ => by simp [Op.bytesLess] at h1
 | _ :: _, [], c, h1, _ => by simp [Op.bytesLess] at h1
 | a, _ :: _, [], _, d => by simp [Op.bytesLess] at d
 | [], b :: g, c :: cs, _, _ => rfl
 | a :: ax, b :: g, c :: cs, h1, d => by
  simp only [Op.bytesLess, dv, df, aD, fT] at h1 d ⊢
  rcases h1 with h1 | ⟨rfl, h1⟩
  ·rcases d with d | ⟨rfl, d⟩
   ·exact .inl (UInt8.lt_trans h1 d)
   ·exact .inl h1
  ·rcases d with d | ⟨rfl, d⟩
   ·exact .inl d
   ·exact .inr ⟨rfl, wC ax g cs h1 d⟩
theorem wK : ∀ a b : List UInt8, Op.bytesLess a b = true ∨ a = b ∨ Op.bytesLess b a = true
 | [], [] => .inr (.inl rfl)
 | [], _ :: _ => .inl rfl
 | _ :: _, [] => .inr (.inr rfl)
 | a :: ax, b :: c => by
  simp only [Op.bytesLess, dv, df, aD, fT, cD]
  rcases zN a b with h | h | h
  ·exact .inl (.inl h)
  ·subst h
   rcases wK ax c with h | h | h
   ·exact .inl (.inr ⟨rfl, h⟩)
   ·exact .inr (.inl ⟨rfl, h⟩)
   ·exact .inr (.inr (.inr ⟨rfl, h⟩))
  ·exact .inr (.inr (.inl h))
theorem xK : ∀ a b : List UInt8, (Lib.compareBytes a b < 0 ↔ Op.bytesLess a b = true)
 | [], [] => by simp [Lib.compareBytes, Op.bytesLess]
 | [], _ :: _ => by simp [Lib.compareBytes, Op.bytesLess]
 | _ :: _, [] => by simp [Lib.compareBytes, Op.bytesLess]
 | a :: ax, b :: g => by
  simp only [Lib.compareBytes, Op.bytesLess, dv, df, aD, fT]
  by_cases h : a < b
  ·simp [h]
  ·by_cases d : b < a
   ·have : a ≠ b := by rintro rfl; exact h d
    simp [h, d, this]
   ·have : a = b := by rcases zN a b with c | c | c; exact absurd c h; exact c; exact absurd c d
    subst this
    simp [h, xK ax g]
theorem z7 : ∀ a b : List UInt8, (Lib.compareBytes a b = 0 ↔ a = b)
 | [], [] => by simp [Lib.compareBytes]
 | [], _ :: _ => by simp [Lib.compareBytes]
 | _ :: _, [] => by simp [Lib.compareBytes]
 | a :: ax, b :: g => by
  simp only [Lib.compareBytes, cD]
  by_cases h : a < b
  ·simp only [h, bi]
   constructor
   ·intro h; cases h
   ·rintro ⟨rfl, _⟩; exact absurd h (by simp)
  ·by_cases d : b < a
   ·simp only [h, d, bi, bf]
    constructor
    ·intro h; cases h
    ·rintro ⟨rfl, _⟩; exact absurd d (by simp)
   ·have : a = b := by rcases zN a b with c | c | c; exact absurd c h; exact c; exact absurd c d
    subst this
    simp [h, z7 ax g]
theorem sf (a b : ByteArray) : kL a b = Op.bytesLess a.data.toList b.data.toList := by unfold kL; rw [dj, dj]
theorem tH {a b : ByteArray} (h : a.data.toList = b.data.toList) : a = b := fM (Array.toList_inj.1 h)
theorem mU (a : ByteArray) : kL a a = false := by rw [sf, uY]
theorem qm {a b c : ByteArray} (h1 : kL a b = true) (d : kL b c = true) : kL a c = true := by rw [sf] at *; exact wC _ _ _ h1 d
theorem nR (a b : ByteArray) : kL a b = true ∨ a = b ∨ kL b a = true := by
 rw [sf, sf]
 rcases wK a.data.toList b.data.toList with h | h | h
 ·exact .inl h
 ·exact .inr (.inl (tH h))
 ·exact .inr (.inr h)
theorem rj {a b : ByteArray} (h : kL a b = true) : kL b a = false := by
 cases c : kL b a with
 | false => rfl
 | true => have := qm h c; rw [mU] at this; cases this
theorem sa (P : ByteArray → Prop) : rG (fun a b => kL a b = true) P :=
 ⟨fun x _ h => (by rw [mU] at h; cases h), fun x y z _ _ _ => qm, fun x y _ _ => nR x y⟩
def sx (b : UInt8) : Bool := decide (97 ≤ b.toNat) && decide (b.toNat ≤ 122)
def tM (b : UInt8) : Bool := sx b || (decide (48 ≤ b.toNat) && decide (b.toNat ≤ 57)) || decide (b.toNat = 45)
def jb (s : ByteArray) : Bool := decide (1 ≤ s.size) && decide (s.size ≤ 16) && (match s.data.toList with | [] => false | b :: _ => sx b) && s.data.toList.all tM
theorem jS {s : ByteArray} (h : jb s = true) : 1 ≤ s.size ∧ s.size ≤ 16 := by
 simp only [jb, aD, df] at h
 exact h.1.1
theorem Bk : ∀ n : Nat, n < 256 → decide (pF (⟨#[97, 98, 99, 100, 101, 102, 103, 104, 105, 106, 107, 108, 109, 110, 111, 112, 113, 114, 115, 116, 117, 118, 119, 120, 121, 122]⟩ : ByteArray) (n : Int) ≥ 0) = sx (UInt8.ofNat n) := by decide +kernel
theorem Di : ∀ n : Nat, n < 256 → decide (pF (⟨#[97, 98, 99, 100, 101, 102, 103, 104, 105, 106, 107, 108, 109, 110, 111, 112, 113, 114, 115, 116, 117, 118, 119, 120, 121, 122, 48, 49, 50, 51, 52, 53, 54, 55, 56, 57, 45]⟩ : ByteArray) (n : Int) < 0) = !tM (UInt8.ofNat n) := by decide +kernel
theorem pz (s : ByteArray) : s.size = s.data.toList.length := by rw [cn]; rfl
theorem wh {s : ByteArray} (h : s.size ≤ 16) : tQ s = some (mO s) := by
 unfold tQ; rw [ar (by unfold maxLen; omega)]
theorem z1 : ∀ l : List UInt8, om (l.map fun b => (b.toNat : Int)) = some (l.all tM)
 | [] => rfl
 | b :: l => by
  rw [aN, om]
  simp only [mf, kd, aa]
  have a := Di b.toNat (fj b)
  rw [a]
  simp only [fJ, List.all_cons]
  cases tM b with
  | true => simp [z1 l]
  | false => simp
theorem yE {s : ByteArray} {b : UInt8} {l : List UInt8} (h : s.data.toList = b :: l) : rM s 0 = some b := by
 unfold rM
 rw [ar (Int.le_refl 0)]
 have a : s.data[0]? = some b := by rw [← bp, h]; rfl
 show s[0]? = some b
 rw [← a]
 rfl
theorem pn (s : ByteArray) : lG s = some (jb s) := by
 unfold lG
 simp only [sF, aa, uB]
 by_cases h1 : 1 ≤ s.size
 ·by_cases a : s.size ≤ 16
  ·rw [ar (by simp; omega)]
   obtain ⟨b, l, c⟩ : ∃ b l, s.data.toList = b :: l := by
    cases h : s.data.toList with
    | nil => rw [pz, h] at h1; simp at h1
    | cons b l => exact ⟨b, l, rfl⟩
   rw [yE c]
   simp only [aa, mf, kd]
   rw [Bk b.toNat (fj b)]
   simp only [fJ, jb, h1, a, c, decide_true, dX]
   cases sx b with
   | false => simp
   | true =>
    simp only [bi, tj, wh a, aa, mO]
    rw [z1, c]
    simp
  ·rw [al (by simp; omega)]
   simp [jb, a]
 ·rw [al (by simp; omega)]
  simp [jb, h1]
theorem DQ {s : ByteArray} {A B : List UInt8} {b : UInt8} (h : s.data.toList = A ++ b :: B) (i : Int) (c : i = (A.length : Int)) : rM s i = some b := by
 subst c
 unfold rM
 rw [ar (by omega), dg]
 have a : s.data[A.length]? = some b := by rw [← bp, h]; simp
 show s[A.length]? = some b
 rw [← a]
 rfl
theorem vc (s : ByteArray) (t : s.size ≤ 16) : ∀ (B A : List UInt8) (n : Nat), s.data.toList = A ++ B → B.length < n → lm s n (A.length : Int) = some (B.all tM)
  | [], A, 0, _, h => by simp at h
  | [], A, n + 1, h, _ => by
    have : s.size = A.length := by rw [pz, h]; simp
    rw [lm, al (by rw [this]; simp)]
    rfl
  | b :: B, A, 0, _, h => by simp at h
  | b :: B, A, n + 1, h, r => by
    have k : s.size = A.length + B.length + 1 := by rw [pz, h]; simp; omega
    rw [lm, ar (by rw [k]; simp; omega)]
    rw [DQ h _ rfl]
    simp only [aa]
    rw [ja (x := (A.length : Int) + 1) (by omega) (by omega)]
    have ih := vc s t B (A ++ [b]) n (by rw [h]; simp) (by simp at r; omega)
    rw [show ((A ++ [b]).length : Int) = (A.length : Int) + 1 by simp] at ih
    simp only [List.all_cons]
    have j : ∀ n : Nat, n < 256 → tM (UInt8.ofNat n) = !((decide (n < 97) || decide (n > 122)) && (decide (n < 48) || decide (n > 57)) && decide (n ≠ 45)) := by decide +kernel
    have l := j b.toNat (fj b)
    simp only [fJ] at l
    rw [l]
    by_cases h1 : b.toNat < 97 <;> by_cases m : b.toNat > 122 <;> by_cases o : b.toNat < 48 <;> by_cases p : b.toNat > 57 <;> by_cases q : b.toNat = 45 <;>
      first
      | omega
      | (have a : ((b.toNat : Int) < 97) = (b.toNat < 97) := by rw [fk]; omega
         have c : ((b.toNat : Int) > 122) = (b.toNat > 122) := by rw [fk]; omega
         have d : ((b.toNat : Int) < 48) = (b.toNat < 48) := by rw [fk]; omega
         have g : ((b.toNat : Int) > 57) = (b.toNat > 57) := by rw [fk]; omega
         have i : ((b.toNat : Int) != 45) = !decide (b.toNat = 45) := by rw [bI]; simp; omega
         simp [h1, m, o, p, q, a, c, d, g, i, ih])
theorem oC (a : ByteArray) : gX a a = true := iE.2 rfl
theorem Eh : zS.size = 0 := rfl
theorem DE {s : ByteArray} : s = zS ↔ s.size = 0 := by
 constructor
 ·rintro rfl; rfl
 ·intro h; exact tH (by rw [pz] at h; rw [bl.1 h]; rfl)
theorem qk (s : ByteArray) : lV s = some (jb s) := by
 unfold lV
 simp only [EB, aa, uB]
 by_cases g : s.size = 0
 ·have : s = zS := DE.2 g
  subst this
  rw [oC]
  rfl
 ·have n : gX s zS = false := by
   cases h : gX s zS with
   | false => rfl
   | true => exact absurd (DE.1 (iE.1 h)) g
  rw [n]
  simp only [Bool.false_or]
  by_cases i : s.size ≤ 16
  ·rw [al (by simp; omega)]
   obtain ⟨b, l, k⟩ : ∃ b l, s.data.toList = b :: l := by
    cases h : s.data.toList with
    | nil => rw [pz, h] at g; simp at g
    | cons b l => exact ⟨b, l, rfl⟩
   rw [yE k]
   simp only [aa, EB]
   have m := vc s i s.data.toList [] jj rfl (by rw [oZ, ← pz]; omega)
   simp only [bH] at m
   rw [show (0 : Int) = ((0 : Nat) : Int) from rfl] at *
   rw [m]
   have j : ((b.toNat : Int) < 97) = (b.toNat < 97) := by rw [fk]; omega
   have d : ((b.toNat : Int) > 122) = (b.toNat > 122) := by rw [fk]; omega
   have h1 : 1 ≤ s.size := by omega
   simp only [jb, h1, i, k, sx, decide_true, dX, j, d]
   by_cases a : b.toNat < 97
   ·simp [a, show ¬ 97 ≤ b.toNat by omega]
   ·by_cases c : b.toNat > 122
    ·simp [a, c, show ¬ b.toNat ≤ 122 by omega]
    ·simp [a, c, show 97 ≤ b.toNat by omega, show b.toNat ≤ 122 by omega]
  ·rw [ar (by simp; omega)]
   simp [jb, i]
def iA (r : gl) : Bool := jb r.gF && jb r.gY
theorem sW (r : gl) : lH r = some (iA r) := by
 unfold lH iA
 simp only [pn, aa]
 cases jb r.gF <;> simp
theorem sr (r : gl) : mM r = some (iA r) := by
 unfold mM iA
 simp only [qk, aa]
 cases jb r.gF <;> simp
def nZ (a b : gl) : Bool := kL a.gF b.gF || (gX a.gF b.gF && kL a.gY b.gY)
theorem pj (a b : gl) : nv a b = some (nZ a b) := by
 unfold nv nZ
 cases kL a.gF b.gF <;> cases gX a.gF b.gF <;> simp
theorem A1 {a b : ByteArray} (h : a ≠ b) : gX a b = false := by
 cases c : gX a b with
 | false => rfl
 | true => exact absurd (iE.1 c) h
theorem sh {a b : gl} : nZ a b = true ↔ kL a.gF b.gF = true ∨ (a.gF = b.gF ∧ kL a.gY b.gY = true) := by
 simp [nZ, iE]
theorem uv (P : gl → Prop) : rG (fun a b => nZ a b = true) P := by
 refine ⟨fun x _ h => ?_, fun x y z _ _ _ h1 c => ?_, fun x y _ _ => ?_⟩
 ·rw [sh] at h
  simp [mU] at h
 ·rw [sh] at *
  rcases h1 with h1 | ⟨g, h1⟩
  ·rcases c with c | ⟨d, c⟩
   ·exact .inl (qm h1 c)
   ·exact .inl (by rw [← d]; exact h1)
  ·rcases c with c | ⟨d, c⟩
   ·exact .inl (by rw [g]; exact c)
   ·exact .inr ⟨g.trans d, qm h1 c⟩
 ·simp only [sh]
  rcases nR x.gF y.gF with h | h | h
  ·exact .inl (.inl h)
  ·rcases nR x.gY y.gY with c | c | c
   ·exact .inl (.inr ⟨h, c⟩)
   ·refine .inr (.inl ?_)
    cases x; cases y; simp at h c; simp [h, c]
   ·exact .inr (.inr (.inr ⟨h.symm, c⟩))
  ·exact .inr (.inr (.inl h))
theorem rT (a b : gl) : ∃ c, ou a b = some c ∧ (c < 0 ↔ nZ a b = true) := by
 unfold ou
 simp only [ob, lx, aa, su, po]
 have h1 : ∀ a b : ByteArray, (nP a b < 0 ↔ kL a b = true) := fun a b => by rw [sf]; exact xK _ _
 have g : ∀ a b : ByteArray, (nP a b = 0 ↔ a = b) := fun a b => by
  unfold nP; rw [z7]; exact ⟨tH, fun h => by rw [h]⟩
 by_cases e : nP a.gF b.gF = 0
 ·rw [al (by simp [e])]
  have e' := (g _ _).1 e
  by_cases d : nP a.gY b.gY = 0
  ·rw [al (by simp [d])]
   refine ⟨0, rfl, ?_⟩
   rw [sh, e', (g _ _).1 d]
   simp [mU]
  ·rw [ar (by simp [d])]
   refine ⟨_, rfl, ?_⟩
   rw [sh, e', h1]
   simp [mU]
 ·rw [ar (by simp [e])]
  refine ⟨_, rfl, ?_⟩
  rw [sh, h1]
  have : a.gF ≠ b.gF := fun h => e ((g _ _).2 h)
  simp [this]
def zR : gl := ⟨zS, zS⟩
theorem yB (a b : ByteArray) : gX a b = gX b a := by rw [bI, iE, iE]; exact eq_comm
theorem vo (a b : gl) : gz a b = gz b a := by rw [bI, gB, gB]; exact eq_comm
theorem ow (a : gl) : gz a a = true := gB.2 rfl
def ib (c : gm) : Bool := iA c.Head && (
 if c.Kind == 1 then jb c.gP && gz zR c.B && gz zR c.C && gX zS c.gZ
 else if c.Kind == 2 then iA c.B && gX zS c.gP && gz zR c.C && gX zS c.gZ
 else if c.Kind == 3 then iA c.B && gX c.B.gF c.Head.gF && jb c.gZ && gX zS c.gP && gz zR c.C
 else if c.Kind == 4 then iA c.B && iA c.C && nZ c.B c.C && gX zS c.gP && gX zS c.gZ
 else false)
theorem nO (c : gm) : mC c = some (ib c) := by
 unfold mC ib
 simp only [sW, pn, aa]
 obtain ⟨k, hk, a⟩ := rT c.B c.C
 rw [hk]
 have b : decide (k < 0) = nZ c.B c.C := by rw [bI, ← a]; simp
 simp only [aa, b]
 by_cases h1 : c.Kind = 1
 ·cases iA c.Head <;> cases jb c.gP <;> simp [h1, lU, ow, oC, zR, fl]
 ·by_cases d : c.Kind = 2
  ·cases iA c.Head <;> cases iA c.B <;> simp [d, lU, ow, oC, zR, fl]
  ·by_cases g : c.Kind = 3
   ·cases iA c.Head <;> cases iA c.B <;> cases gX c.B.gF c.Head.gF <;> cases jb c.gZ <;> simp [g, lU, ow, oC, zR, fl]
   ·by_cases h : c.Kind = 4
    ·cases iA c.Head <;> cases iA c.B <;> cases iA c.C <;> cases nZ c.B c.C <;> simp [h, lU, ow, oC, zR, fl]
    ·simp [h1, d, g, h]
theorem qj (c : gm) : nF c = some (ib c) := by
 unfold nF ib
 simp only [sr, qk, pj, aa]
 rw [show (⟨zS, zS⟩ : gl) = zR from rfl, vo c.B zR, vo c.C zR, yB c.gZ zS, yB c.gP zS]
 by_cases h1 : c.Kind = 1
 ·cases iA c.Head <;> cases jb c.gP <;> cases gz zR c.B <;> cases gz zR c.C <;> simp [h1]
 ·by_cases a : c.Kind = 2
  ·cases iA c.Head <;> cases iA c.B <;> cases gX zS c.gP <;> cases gz zR c.C <;> simp [a]
  ·by_cases b : c.Kind = 3
   ·cases iA c.Head <;> cases iA c.B <;> cases gX zS c.gP <;> cases gz zR c.C <;> cases gX c.B.gF c.Head.gF <;> simp [b]
   ·by_cases d : c.Kind = 4
    ·cases iA c.Head <;> cases iA c.B <;> cases gX zS c.gP <;> cases gX zS c.gZ <;> cases iA c.C <;> simp [d]
    ·cases iA c.Head <;> cases iA c.B <;> cases gX zS c.gP <;> simp [h1, a, b, d]
theorem jl {α : Type} {b : Nat} {l m : List α} (h : (l.length + m.length) * b ≤ 140737488355328) (a : l.length + m.length ≤ 9223372036854775807) : jh b l m = some (l ++ m) := by
 unfold jh; rw [ar ⟨h, by unfold maxLen; omega⟩]
theorem yc {l m : List Int} (h : l.length + m.length ≤ 1000000) : jh 1 l m = some (l ++ m) := jl (by omega) (by omega)
def pk (s : ByteArray) : List Int := (s.size : Int) :: mO s
def mV (r : gl) : List Int := pk r.gF ++ pk r.gY
def qH (c : gm) : List Int := if c.Kind = 1 then pk c.gP else if c.Kind = 2 then mV c.B else if c.Kind = 3 then mV c.B ++ pk c.gZ else mV c.B ++ mV c.C
def mY (c : gm) : List Int := c.Kind :: (mV c.Head ++ qH c)
theorem ns (s : ByteArray) : (pk s).length = s.size + 1 := by simp [pk, kO]
theorem lc {r : gl} (h : iA r = true) : (mV r).length ≤ 34 := by
 simp only [iA, aD] at h
 have h1 := jS h.1
 have a := jS h.2
 simp [mV, ns]; omega
theorem yF {l : List Int} {n : Int} (a : 0 ≤ n) (h1 : n < 128) (b : l.length ≤ 100000) : mc l n = some (true, l ++ [n]) := by
 have hw : IntKind.u8.wrap n = n := by
  obtain ⟨k, rfl⟩ : ∃ k : Nat, n = k := ⟨n.toNat, by omega⟩
  have : ∀ k : Nat, k < 128 → IntKind.u8.wrap (k : Int) = (k : Int) := by decide +kernel
  exact this k (by omega)
 unfold mc
 rw [al (by simp; omega), ul, la, al (by simp; omega), hw, yc (by simp; omega)]
 rfl
theorem vO {l : List Int} {s : ByteArray} (h : jb s = true) (a : l.length ≤ 10000) : nm l s = some (true, l ++ pk s) := by
 have h1 := jS h
 unfold nm
 simp only [pn, aa, h, bi, wh h1.2]
 unfold pM
 rw [al (by rw [kO]; simp; omega)]
 rw [kO, yF (by omega) (by omega) (by omega)]
 simp only [aa]
 rw [yc (by simp [kO]; omega)]
 simp [pk]
theorem De {l : List Int} {r : gl} (h : iA r = true) (b : l.length ≤ 9000) : lF l r = some (true, l ++ mV r) := by
 have a := h
 simp only [iA, aD] at h
 have h1 := jS h.1
 unfold lF
 simp only [sW, aa, a, bi]
 rw [vO h.1 (by omega)]
 simp only [aa, bi]
 rw [vO h.2 (by simp [ns]; omega)]
 simp [mV]
theorem tJ {l : List Int} {r : gl} (h : iA r = true) (a : l.length ≤ 1000) : lF l r = some (true, l ++ mV r) := De h (by omega)
theorem tw {c : gm} (h : ib c = true) : iA c.Head = true := by
 simp only [ib, aD] at h; exact h.1
theorem jG {c : gm} (h : ib c = true) :
  (c.Kind = 1 ∧ jb c.gP = true ∧ c.B = zR ∧ c.C = zR ∧ c.gZ = zS) ∨
  (c.Kind = 2 ∧ iA c.B = true ∧ c.gP = zS ∧ c.C = zR ∧ c.gZ = zS) ∨
  (c.Kind = 3 ∧ iA c.B = true ∧ jb c.gZ = true ∧ c.B.gF = c.Head.gF ∧ c.gP = zS ∧ c.C = zR) ∨
  (c.Kind = 4 ∧ iA c.B = true ∧ iA c.C = true ∧ nZ c.B c.C = true ∧ c.gP = zS ∧ c.gZ = zS) := by
 simp only [ib, aD] at h
 obtain ⟨_, h⟩ := h
 split at h
 ·rename_i h1
  simp only [aD, gB, iE] at h
  exact .inl ⟨by simpa using h1, h.1.1.1, h.1.1.2.symm, h.1.2.symm, h.2.symm⟩
 ·split at h
  ·rename_i h1
   simp only [aD, gB, iE] at h
   exact .inr (.inl ⟨by simpa using h1, h.1.1.1, h.1.1.2.symm, h.1.2.symm, h.2.symm⟩)
  ·split at h
   ·rename_i h1
    simp only [aD, gB, iE] at h
    exact .inr (.inr (.inl ⟨by simpa using h1, h.1.1.1.1, h.1.1.2, h.1.1.1.2, h.1.2.symm, h.2.symm⟩))
   ·split at h
    ·rename_i h1
     simp only [aD, gB, iE] at h
     exact .inr (.inr (.inr ⟨by simpa using h1, h.1.1.1.1, h.1.1.1.2, h.1.1.2, h.1.2.symm, h.2.symm⟩))
    ·cases h
theorem sX (c : gm) : pr c = some (if ib c then mY c else []) := by
 unfold pr
 rw [nO]
 simp only [aa]
 cases h : ib c with
 | false => simp
 | true =>
  have g := tw h
  have i := lc g
  simp only [bQ, ap, bf, bi]
  have hk : 0 ≤ c.Kind ∧ c.Kind < 128 := by rcases jG h with h | h | h | h <;> omega
  rw [yF hk.1 hk.2 (by simp)]
  simp only [aa]
  rw [tJ g (by simp)]
  simp only [aa, qe, qa]
  rcases jG h with ⟨k, h1, _⟩ | ⟨k, h1, _⟩ | ⟨k, h1, a, _⟩ | ⟨k, h1, a, _⟩
  ·have b := jS h1
   simp only [k, bY, bi, vO h1 (show (([] ++ [(1:Int)]) ++ mV c.Head).length ≤ 10000 by simp; omega), aa]
   rw [yc (by simp [ns]; omega)]
   simp [mY, qH, k]
  ·have b := lc h1
   simp only [k, show ((2 : Int) == 1) = false from rfl, ap, bY, bi, bf, tJ h1 (show (([] ++ [(2:Int)]) ++ mV c.Head).length ≤ 1000 by simp; omega), aa]
   rw [yc (by simp; omega)]
   simp [mY, qH, k]
  ·have b := lc h1
   have d := jS a
   simp only [k, show ((3 : Int) == 1) = false from rfl, show ((3 : Int) == 2) = false from rfl, ap, bY, bi, bf, tJ h1 (show (([] ++ [(3:Int)]) ++ mV c.Head).length ≤ 1000 by simp; omega), aa]
   rw [vO a (by simp; omega)]
   simp only [aa]
   rw [yc (by simp [ns]; omega)]
   simp [mY, qH, k]
  ·have b := lc h1
   have d := lc a
   simp only [k, show ((4 : Int) == 1) = false from rfl, show ((4 : Int) == 2) = false from rfl, show ((4 : Int) == 3) = false from rfl, ap, bY, bi, bf, tJ h1 (show (([] ++ [(4:Int)]) ++ mV c.Head).length ≤ 1000 by simp; omega), aa]
   rw [tJ a (by simp; omega)]
   simp only [aa]
   rw [yc (by simp; omega)]
   simp [mY, qH, k]
def rO (l : List Int) : ByteArray := ⟨(pH l).toArray⟩
theorem sw (l : List Int) : (rO l).data.toList = pH l := rfl
theorem xw : ∀ (l : List Int) (r : ByteArray), (l.foldl (fun r n => r.push (UInt8.ofNat n.toNat)) r).data.toList = r.data.toList ++ pH l
 | [], r => by simp [pH]
 | x :: l, r => by
  rw [cZ, xw l]
  show ((r.data.push _).toList) ++ _ = _
  simp [pH]
theorem D6 (l : List Int) : uQ l = rO l := tH (by unfold uQ; rw [xw]; rfl)
theorem Ai (l : List Int) : (rO l).size = l.length := by rw [pz, sw]; simp [pH]
theorem BO (a b : List Int) : pH (a ++ b) = pH a ++ pH b := by simp [pH]
theorem oY (a b : List Int) (h : a.length + b.length ≤ 1000000) : qS (rO a) (rO b) = some (rO (a ++ b)) := by
 unfold qS
 rw [al]
 ·congr 1
  refine tH ?_
  rw [sw, BO, ← sw a, ← sw b]
  exact ByteArray.toList_data_append ▸ rfl
 ·rw [Ai, Ai]
  show ¬ (_ > (9223372036854775807 : Int))
  omega
theorem uC (s : ByteArray) : rO (mO s) = s := tH (by rw [sw]; simp [pH, mO, db])
theorem yt {n : Int} (a : 0 ≤ n) (h1 : n < 128) : oz n = some (rO [n]) := by
 have hw : IntKind.u8.wrap n = n := by
  obtain ⟨k, rfl⟩ : ∃ k : Nat, n = k := ⟨n.toNat, by omega⟩
  have : ∀ k : Nat, k < 128 → IntKind.u8.wrap (k : Int) = (k : Int) := by decide +kernel
  exact this k (by omega)
 unfold oz
 rw [ul, mQ, al (by simp; omega), hw, D6, show zS = rO [] from rfl, oY _ _ (by simp)]
 rfl
theorem vM {s : ByteArray} (h : jb s = true) : nq s = some (rO (pk s)) := by
 have h1 := jS h
 unfold nq
 rw [yt (by omega) (by omega)]
 simp only [aa]
 have := oY [(s.size : Int)] (mO s) (by rw [kO]; simp; omega)
 rw [uC] at this
 rw [this]
 simp [pk]
theorem tO {r : gl} (h : iA r = true) : nG r = some (rO (mV r)) := by
 simp only [iA, aD] at h
 have h1 := jS h.1
 have a := jS h.2
 unfold nG
 rw [vM h.1, vM h.2]
 simp only [aa]
 rw [oY _ _ (by simp [ns]; omega)]
 rfl
theorem sE (c : gm) : oQ c = some (rO (if ib c then mY c else [])) := by
 unfold oQ
 rw [qj]
 simp only [aa]
 cases h : ib c with
 | false => rfl
 | true =>
  have g := tw h
  have i := lc g
  simp only [bQ, ap, bf, bi]
  have hk : 0 ≤ c.Kind ∧ c.Kind < 128 := by rcases jG h with h | h | h | h <;> omega
  unfold rH
  rw [yt hk.1 hk.2, tO g]
  simp only [aa]
  rw [oY _ _ (by simp; omega)]
  simp only [aa]
  rcases jG h with ⟨k, h1, _⟩ | ⟨k, h1, _⟩ | ⟨k, h1, a, _⟩ | ⟨k, h1, a, _⟩
  ·have b := jS h1
   simp only [k, bY, bi, vM h1, aa]
   rw [oY _ _ (by simp [ns]; omega)]
   simp [mY, qH, k]
  ·have b := lc h1
   simp only [k, show ((2 : Int) == 1) = false from rfl, show ((2 : Int) == 3) = false from rfl, show ((2 : Int) == 4) = false from rfl, ap, bf, tO h1, aa]
   rw [oY _ _ (by simp; omega)]
   simp [mY, qH, k]
  ·have b := lc h1
   have d := jS a
   simp only [k, show ((3 : Int) == 1) = false from rfl, show ((3 : Int) == 4) = false from rfl, ap, bY, bi, bf, tO h1, aa]
   rw [oY _ _ (by simp; omega)]
   simp only [aa, vM a]
   rw [oY _ _ (by simp [ns]; omega)]
   simp [mY, qH, k]
  ·have b := lc h1
   have d := lc a
   simp only [k, show ((4 : Int) == 1) = false from rfl, show ((4 : Int) == 3) = false from rfl, ap, bY, bi, bf, tO h1, aa]
   rw [oY _ _ (by simp; omega)]
   simp only [aa, tO a]
   rw [oY _ _ (by simp; omega)]
   simp [mY, qH, k]
def zW (c : gm) : List UInt8 := pH (if ib c then mY c else [])
def sH (a b : gm) : Bool := Op.bytesLess (zW a) (zW b)
theorem vT (a b : gm) : ∃ c, ni a b = some c ∧ (c < 0 ↔ sH a b = true) := by
 unfold ni
 rw [sX, sX]
 exact ⟨_, rfl, xK _ _⟩
theorem vB (a b : gm) : ∃ c, mF a b = some c ∧ (c < 0 ↔ sH a b = true) := by
 unfold mF
 rw [sE, sE]
 simp only [aa]
 have h : kL (rO (if ib a then mY a else [])) (rO (if ib b then mY b else [])) = sH a b := by rw [sf]; rfl
 rw [h]
 cases sH a b with
 | true => exact ⟨_, rfl, by decide⟩
 | false =>
  simp only [ap, bf, Bool.false_or]
  cases d : gX (rO (if ib a then mY a else [])) (rO (if ib b then mY b else [])) with
  | true => exact ⟨0, by simp, by decide⟩
  | false => exact ⟨1, by simp, by decide⟩
theorem E5 {a b : Int} (c : 0 ≤ a ∧ a < 256) (d : 0 ≤ b ∧ b < 256) (h : a.toNat.toUInt8 = b.toNat.toUInt8) : a = b := by
 have := aw UInt8.toNat h
 simp only [UInt8.toNat_ofNat', Nat.toUInt8] at this
 simp at this
 omega
theorem AR : ∀ {a b : List Int}, (∀ x ∈ a, 0 ≤ x ∧ x < 256) → (∀ x ∈ b, 0 ≤ x ∧ x < 256) → pH a = pH b → a = b
 | [], [], _, _, _ => rfl
 | [], _ :: _, _, _, h => by simp [pH] at h
 | _ :: _, [], _, _, h => by simp [pH] at h
 | x :: a, y :: b, d, g, h => by
  simp only [pH, aN, cD] at h
  rw [E5 (d x (by simp)) (g y (by simp)) h.1, AR (fun z c => d z (by simp [c])) (fun z c => g z (by simp [c])) h.2]
theorem rc {s : ByteArray} (h : jb s = true) : ∀ x ∈ pk s, 0 ≤ x ∧ x < 256 := by
 have h1 := jS h
 intro x a
 rcases ak.1 a with rfl | a
 ·omega
 ·simp only [mO, aK] at a
  obtain ⟨b, _, rfl⟩ := a
  have := fj b
  omega
theorem pO {r : gl} (h : iA r = true) : ∀ x ∈ mV r, 0 ≤ x ∧ x < 256 := by
 simp only [iA, aD] at h
 intro x a
 rcases aI.1 a with a | a
 ·exact rc h.1 x a
 ·exact rc h.2 x a
theorem vX {c : gm} (h : ib c = true) : ∀ x ∈ mY c, 0 ≤ x ∧ x < 256 := by
 intro x a
 rcases ak.1 a with rfl | a
 ·rcases jG h with h | h | h | h <;> omega
 ·rcases aI.1 a with a | a
  ·exact pO (tw h) x a
  ·unfold qH at a
   rcases jG h with ⟨k, h1, _⟩ | ⟨k, h1, _⟩ | ⟨k, h1, b, _⟩ | ⟨k, h1, b, _⟩
   ·rw [ar k] at a; exact rc h1 x a
   ·rw [al (by omega), ar k] at a; exact pO h1 x a
   ·rw [al (by omega), al (by omega), ar k] at a
    rcases aI.1 a with a | a
    ·exact pO h1 x a
    ·exact rc b x a
   ·rw [al (by omega), al (by omega), al (by omega)] at a
    rcases aI.1 a with a | a
    ·exact pO h1 x a
    ·exact pO b x a
theorem BF {s t : ByteArray} (h : mO s = mO t) : s = t := by rw [← uC s, h, uC]
theorem sV {s t : ByteArray} {X Y : List Int} (h : pk s ++ X = pk t ++ Y) : s = t ∧ X = Y := by
 simp only [pk, bZ, cD] at h
 obtain ⟨h1, a⟩ := h
 have b : (mO s).length = (mO t).length := by rw [kO, kO]; omega
 have := List.append_inj a b
 exact ⟨BF this.1, this.2⟩
theorem ru {a b : gl} {X Y : List Int} (h : mV a ++ X = mV b ++ Y) : a = b ∧ X = Y := by
 simp only [mV, ay] at h
 obtain ⟨h1, d⟩ := sV h
 obtain ⟨c, g⟩ := sV d
 exact ⟨by cases a; cases b; simp at h1 c; simp [h1, c], g⟩
theorem Cm {a b : gm} (p : ib a = true) (r : ib b = true) (h : mY a = mY b) : a = b := by
 simp only [mY, cD] at h
 obtain ⟨hk, o⟩ := h
 obtain ⟨n, h⟩ := ru o
 clear o
 have j : ∀ {X Y : List Int}, X = Y → X ++ [] = Y ++ [] := fun h => by rw [h]
 unfold qH at h
 obtain ⟨A, q, G, v, x, t⟩ := a
 obtain ⟨E, s, I, w, y, u⟩ := b
 simp only at hk n h
 subst hk n
 rcases jG p with ⟨k, h1, d, g, c⟩ | ⟨k, h1, d, g, c⟩ | ⟨k, h1, d, g, c, i⟩ | ⟨k, h1, d, g, c, i⟩ <;>
 rcases jG r with ⟨k', g1, g2, g3, g4⟩ | ⟨k', g1, g2, g3, g4⟩ | ⟨k', g1, g2, g3, g4, g5⟩ | ⟨k', g1, g2, g3, g4, g5⟩ <;> simp only at k k' d g c g2 g3 g4 <;> (try omega)
 ·rw [ar k, ar k] at h
  simp [sV (j h), d, g, c, g2, g3, g4]
 ·rw [al (by omega), ar k, al (by omega), ar k] at h
  simp [ru (j h), d, g, c, g2, g3, g4]
 ·rw [al (by omega), al (by omega), ar k, al (by omega), al (by omega), ar k] at h
  obtain ⟨l, m⟩ := ru h
  simp only at i g5
  simp [l, sV (j m), c, i, g4, g5]
 ·rw [al (by omega), al (by omega), al (by omega), al (by omega), al (by omega), al (by omega)] at h
  obtain ⟨l, m⟩ := ru h
  simp only at i g5
  simp [l, ru (j m), c, i, g4, g5]
theorem qt : rG (fun a b => sH a b = true) (fun c => ib c = true) := by
 refine ⟨fun x _ h => ?_, fun x y z _ _ _ h1 i => wC _ _ _ h1 i, fun x y d g => ?_⟩
 ·unfold sH at h; rw [uY] at h; cases h
 ·rcases wK (zW x) (zW y) with h | h | h
  ·exact .inl h
  ·refine .inr (.inl (Cm d g ?_))
   unfold zW at h
   rw [ar d, ar g] at h
   exact AR (vX d) (vX g) h
  ·exact .inr (.inr h)
def lA {α : Type} (R : α → Bool) (lt : α → α → Bool) (last : Option α) : List α → Bool → α → Bool × α
 | [], ok, b => (ok, b)
 | x :: xs, ok, b => if R x && last.all (fun y => lt y x) && (!ok || lt x b) then lA R lt last xs true x else lA R lt last xs ok b
def qu {α : Type} (w : Nat) (R : α → Bool) (lt : α → α → Bool) (d : α) (l : List α) : Nat → List α → Option (List α)
 | 0, _ => none
 | n + 1, out => if !(lA R lt out.getLast? l false d).1 then some out else (jh w out [(lA R lt out.getLast? l false d).2]).bind fun o => qu w R lt d l n o
section
variable {α : Type} {R : α → Bool} {lt : α → α → Bool}
theorem vx (H : rG (fun a b => lt a b = true) (fun x => R x = true)) (last : Option α) : ∀ (l : List α) (ok : Bool) (b : α), (ok = true → R b = true ∧ last.all (fun y => lt y b) = true) →
  ((lA R lt last l ok b).1 = false → ok = false ∧ ∀ x ∈ l, R x = true → last.all (fun y => lt y x) = false) ∧
  ((lA R lt last l ok b).1 = true → R (lA R lt last l ok b).2 = true ∧ last.all (fun y => lt y (lA R lt last l ok b).2) = true ∧ ((lA R lt last l ok b).2 ∈ l ∨ (ok = true ∧ (lA R lt last l ok b).2 = b)) ∧
   (∀ x ∈ l, R x = true → last.all (fun y => lt y x) = true → lt x (lA R lt last l ok b).2 = false) ∧ (ok = true → lt b (lA R lt last l ok b).2 = false))
 | [], ok, b, j => by
  simp only [lA]
  exact ⟨fun h => ⟨h, by simp⟩, fun h => ⟨(j h).1, (j h).2, .inr ⟨h, trivial⟩, by simp, fun _ => by
   cases m : lt b b with
   | false => rfl
   | true => exact absurd m (H.irrefl b (j h).1)⟩⟩
 | x :: xs, ok, b, j => by
  rw [lA]
  by_cases k : (R x && last.all (fun y => lt y x) && (!ok || lt x b)) = true
  ·rw [ar k]
   simp only [aD, dv, cN] at k
   obtain ⟨⟨v, r⟩, s⟩ := k
   obtain ⟨h1, q⟩ := vx H last xs true x (fun _ => ⟨v, r⟩)
   refine ⟨fun h => ?_, fun h => ?_⟩
   ·cases (h1 h).1
   ·obtain ⟨o, a2, a3, a4, a5⟩ := q h
    refine ⟨o, a2, ?_, ?_, ?_⟩
    ·rcases a3 with a3 | ⟨_, a3⟩
     ·exact .inl (by simp [a3])
     ·exact .inl (by rw [a3]; simp)
    ·intro y g c d
     rcases ak.1 g with rfl | g
     ·exact a5 rfl
     ·exact a4 y g c d
    ·intro i
     cases m : lt b (lA R lt last xs true x).2 with
     | false => rfl
     | true =>
      have t : lt x b = true := by rcases s with h | h; rw [i] at h; cases h; exact h
      have := H.trans x b _ v (j i).1 o t m
      simp only [a5 rfl] at this
      cases this
  ·rw [al k]
   obtain ⟨h1, q⟩ := vx H last xs ok b j
   refine ⟨fun h => ⟨(h1 h).1, fun y g c => ?_⟩, fun h => ?_⟩
   ·rcases ak.1 g with rfl | g
    ·have i := (h1 h).1
     cases r : last.all (fun z => lt z y) with
     | false => rfl
     | true => exact absurd (by simp [c, r, i]) k
    ·exact (h1 h).2 y g c
   ·obtain ⟨o, a2, a3, a4, a5⟩ := q h
    refine ⟨o, a2, ?_, ?_, a5⟩
    ·rcases a3 with a3 | a3
     ·exact .inl (by simp [a3])
     ·exact .inr a3
    ·intro y g c d
     rcases ak.1 g with rfl | g
     ·cases m : lt y (lA R lt last xs ok b).2 with
      | false => rfl
      | true =>
       cases ok with
       | false => exact absurd (by simp [c, d]) k
       | true =>
        have u : lt y b = false := by
         cases w : lt y b with
         | false => rfl
         | true => exact absurd (by simp [c, d, w]) k
        have p := j rfl
        rcases H.total y b c p.1 with n | n | n
        ·rw [u] at n; cases n
        ·subst n; rw [a5 rfl] at m; cases m
        ·have := H.trans b y _ p.1 c o n m
         simp only [a5 rfl] at this
         cases this
     ·exact a4 y g c d
theorem nX (H : rG (fun a b => lt a b = true) (fun x => R x = true)) {l : List α} (d : ∀ x ∈ l, R x = true) (h : l.Pairwise (fun a b => lt a b = true)) : l.Nodup := by
 refine h.imp_of_mem (fun {a b} g i c e => ?_)
 subst e
 exact H.irrefl a (d a g) c
theorem iO : ∀ {l m : List α}, l.Nodup → (∀ x ∈ l, x ∈ m) → l.length ≤ m.length
 | [], _, _, _ => by simp
 | x :: l, m, d, b => by
  obtain ⟨A, B, rfl⟩ := du (b x (by simp))
  have a := bV.1 d
  have := iO (l := l) (m := A ++ B) a.2 (fun y c => by
   have := b y (cL _ c)
   simp only [aI, ak] at this ⊢
   rcases this with h | h | h
   ·exact .inl h
   ·subst h; exact absurd c a.1
   ·exact .inr h)
  simp at this ⊢; omega
theorem rA (H : rG (fun a b => lt a b = true) (fun x => R x = true)) {w : Nat} (hw : w ≤ 1000) (d : α) (l : List α) (I : l.length ≤ 1000000000) : ∀ (n : Nat) (out : List α), l.length < n + out.length → out.Pairwise (fun a b => lt a b = true) → (∀ x ∈ out, x ∈ l ∧ R x = true) →
  (∀ x ∈ l, R x = true → x ∈ out ∨ out.getLast?.all (fun y => lt y x) = true) → ∃ s, qu w R lt d l n out = some s ∧ lZ (fun a b => lt a b = true) (fun x => R x = true) l s
 | 0, out, J, hp, hm, t => by
  exfalso
  have := iO (nX H (fun x c => (hm x c).2) hp) (fun x c => (hm x c).1)
  omega
 | n + 1, out, J, hp, hm, t => by
  rw [qu]
  obtain ⟨h1, E⟩ := vx H out.getLast? l false d (fun h => by cases h)
  have hlen := iO (nX H (fun x c => (hm x c).2) hp) (fun x c => (hm x c).1)
  cases v : (lA R lt out.getLast? l false d).1 with
  | false =>
   rw [ar (by simp)]
   refine ⟨out, rfl, hp, fun x => ⟨hm x, fun c => ?_⟩⟩
   rcases t x c.1 c.2 with h | h
   ·exact h
   ·rw [(h1 v).2 x c.1 c.2] at h; cases h
  | true =>
   rw [al (by simp)]
   obtain ⟨q, a2, a3, a4, _⟩ := E v
   generalize (lA R lt out.getLast? l false d).2 = b at *
   have r : b ∈ l := by rcases a3 with h | ⟨h, _⟩; exact h; cases h
   have o : ∀ y ∈ out, lt y b = true := by
    intro y g
    obtain ⟨A, z, rfl⟩ : ∃ A z, out = A ++ [z] := by
     rcases cV out with h | ⟨A, z, h⟩
     ·subst h; cases g
     ·exact ⟨A, z, by rw [h]; simp⟩
    simp at a2
    rcases aI.1 g with g | g
    ·have u : lt y z = true := (dD.1 hp).2.2 y g z (by simp)
     exact H.trans y z b (hm y (by simp [g])).2 (hm z (by simp)).2 q u a2
    ·simp at g; subst g; exact a2
   have p : (out ++ [b]).Pairwise (fun a b => lt a b = true) := dD.2 ⟨hp, by simp, fun x c y g => by simp at g; subst g; exact o x c⟩
   have k : ∀ x ∈ out ++ [b], x ∈ l ∧ R x = true := fun x c => by
    rcases aI.1 c with c | c
    ·exact hm x c
    ·simp at c; subst c; exact ⟨r, q⟩
   have j := iO (nX H (fun x c => (k x c).2) p) (fun x c => (k x c).1)
   simp at j
   rw [jl (by simp only [aB, bH]; have : (out.length + (0 + 1)) * w ≤ 1000000000 * 1000 := dH (by omega) hw; omega) (by simp; omega)]
   simp only [aa]
   refine rA H hw d l I n (out ++ [b]) (by simp; omega) p k (fun x c i => ?_)
   rcases t x c i with h | h
   ·exact .inl (by simp [h])
   ·have G := a4 x c i h
    rcases H.total x b i q with m | m | m
    ·rw [G] at m; cases m
    ·subst m; exact .inl (by simp)
    ·exact .inr (by simp [m])
end
theorem ux {α : Type} (A : List α) (x : α) (a : A.length < 4611686018427387904) : jK (A ++ [x]) (wi0 .i64 (((A ++ [x]).length : Int) - 1)) = some x := by
 rw [ja (by simp; try omega) (by simp; try omega)]
 rw [oX A x [] _ (by simp; try omega)]
theorem wB (out : List gm) (k : out.length < 4611686018427387904) : ∀ (l : List gm) (ok : Bool) (b : gm), mr out l ok b = some (lA ib sH out.getLast? l ok b)
 | [], ok, b => rfl
 | x :: xs, ok, b => by
  rw [mr, lA]
  have cmp : ∀ a b, ∃ c, mF a b = some c ∧ decide (c < 0) = sH a b := fun a b => by
   obtain ⟨c, h1, j⟩ := vB a b
   exact ⟨c, h1, by rw [bI, ← j]; simp⟩
  rw [qj, wB out k xs true x, wB out k xs ok b]
  obtain ⟨c, h1, j⟩ := cmp x b
  rcases cV out with h | ⟨A, z, h⟩
  ·subst h
   simp only [h1, aa, j, bH, Option.all, fK]
   generalize sH x b = p
   cases ib x <;> cases ok <;> cases p <;> simp
  ·have i : out = A ++ [z] := by rw [h]; simp
   obtain ⟨s, q, r⟩ := cmp z x
   have d : out.getLast? = some z := by rw [i]; simp
   have g : jK out (wi0 .i64 ((out.length : Int) - 1)) = some z := by rw [i]; exact ux A z (by rw [i] at k; simp at k; omega)
   have m : ((out.length : Int) == 0) = false := by rw [i]; simp; omega
   rw [d]
   simp only [m, g, q, h1, aa, j, r, Option.all]
   rcases bu (sH x b) with hp | hp <;> rcases bu (sH z x) with n | n <;> rcases bu (ib x) with o | o <;> cases ok <;> simp [hp, n, o]
theorem wN (out : List gl) (g : out.length < 4611686018427387904) : ∀ (l : List gl) (ok : Bool) (b : gl), mh out l ok b = some (lA iA nZ out.getLast? l ok b)
 | [], ok, b => rfl
 | x :: xs, ok, b => by
  rw [mh, lA]
  rw [sr, wN out g xs true x, wN out g xs ok b]
  rcases cV out with h | ⟨A, z, h⟩
  ·subst h
   simp only [pj, aa, bH, Option.all, fK]
   generalize nZ x b = p
   cases iA x <;> cases ok <;> cases p <;> simp
  ·have d : out = A ++ [z] := by rw [h]; simp
   have a : out.getLast? = some z := by rw [d]; simp
   have c : jK out (wi0 .i64 ((out.length : Int) - 1)) = some z := by rw [d]; exact ux A z (by rw [d] at g; simp at g; omega)
   have i : ((out.length : Int) == 0) = false := by rw [d]; simp; omega
   rw [a]
   simp only [i, c, pj, aa, Option.all]
   rcases bu (nZ x b) with hp | hp <;> rcases bu (nZ z x) with j | j <;> rcases bu (iA x) with k | k <;> cases ok <;> simp [hp, j, k]
theorem FY (a b : ByteArray) : (!(kL a b || gX a b)) = kL b a := by
 rcases nR a b with h | h | h
 ·simp [h, rj h]
 ·subst h; simp [oC, mU]
 ·have c := rj h
  have d : gX a b = false := A1 (by rintro rfl; rw [mU] at h; cases h)
  simp [h, c, d]
theorem Ca {s : ByteArray} (h : jb s = true) : gX s zS = false := A1 (fun e => by have := jS h; rw [e, Eh] at this; omega)
theorem wX (out : List ByteArray) (k : out.length < 4611686018427387904) : ∀ (l : List ByteArray) (b : ByteArray),
  ∃ m, mj out l b = some m ∧ (lA jb kL out.getLast? l (!gX b zS) b) = (!gX m zS, m)
 | [], b => ⟨b, rfl, rfl⟩
 | x :: xs, b => by
  rw [mj, lA]
  obtain ⟨u, s, c⟩ := wX out k xs x
  obtain ⟨v, t, i⟩ := wX out k xs b
  rw [qk, s, t]
  by_cases g : jb x = true
  ·rw [Ca g] at c
   simp only [cT] at c
   rcases cV out with h | ⟨A, z, h⟩
   ·subst h
    simp only [aa, bH, Option.all, fK, g] at *
    rw [c, i]
    generalize kL x b = p
    generalize gX b zS = q
    cases p <;> cases q <;> simp
   ·have j : out = A ++ [z] := by rw [h]; simp
    have a : out.getLast? = some z := by rw [j]; simp
    have d : jK out (wi0 .i64 ((out.length : Int) - 1)) = some z := by rw [j]; exact ux A z (by rw [j] at k; simp at k; omega)
    have n : ((out.length : Int) == 0) = false := by rw [j]; simp; omega
    rw [a] at c i ⊢
    simp only [n, d, aa, Option.all, FY, g]
    rw [c, i]
    rcases bu (kL x b) with hp | hp <;> rcases bu (kL z x) with o | o <;> rcases bu (gX b zS) with r | r <;> simp [hp, o, r]
  ·simp only [Bool.not_eq_true] at g
   rw [g, i]
   simp
theorem DB (a : List gm) : ∀ (n : Nat) (out s : List gm), qu 136 ib sH (⟨0, ⟨zS, zS⟩, zS, ⟨zS, zS⟩, ⟨zS, zS⟩, zS⟩ : gm) a n out = some s → s.length < 4611686018427387904 → nf a n out = some s ∧ out.length ≤ s.length
 | 0, out, s, h, _ => by cases h
 | n + 1, out, s, h, g => by
  rw [qu] at h
  rw [nf]
  have key : out.length ≤ s.length → mr out a false (⟨0, ⟨zS, zS⟩, zS, ⟨zS, zS⟩, ⟨zS, zS⟩, zS⟩ : gm) = _ := fun j => wB out (by omega) a false _
  split at h
  ·rename_i h1
   cases h
   rw [key (aJ _)]
   simp only [aa]
   rw [ar h1]
   exact ⟨rfl, aJ _⟩
  ·rename_i h1
   obtain ⟨o, b, c⟩ := bind_some h
   have d := DB a n o s c g
   have i : out.length + 1 = o.length := by
    unfold jh at b; split at b
    ·cases b; simp
    ·cases b
   rw [key (by omega)]
   simp only [aa]
   rw [al h1, b]
   exact ⟨d.1, by omega⟩
theorem DG (a : List gl) : ∀ (n : Nat) (out s : List gl), qu 32 iA nZ (⟨zS, zS⟩ : gl) a n out = some s → s.length < 4611686018427387904 → nh a n out = some s ∧ out.length ≤ s.length
 | 0, out, s, h, _ => by cases h
 | n + 1, out, s, h, g => by
  rw [qu] at h
  rw [nh]
  have key : out.length ≤ s.length → mh out a false (⟨zS, zS⟩ : gl) = _ := fun j => wN out (by omega) a false _
  split at h
  ·rename_i h1
   cases h
   rw [key (aJ _)]
   simp only [aa]
   rw [ar h1]
   exact ⟨rfl, aJ _⟩
  ·rename_i h1
   obtain ⟨o, b, c⟩ := bind_some h
   have d := DG a n o s c g
   have i : out.length + 1 = o.length := by
    unfold jh at b; split at b
    ·cases b; simp
    ·cases b
   rw [key (by omega)]
   simp only [aa]
   rw [al h1, b]
   exact ⟨d.1, by omega⟩
theorem DK (a : List ByteArray) : ∀ (n : Nat) (out s : List ByteArray), qu 16 jb kL zS a n out = some s → s.length < 4611686018427387904 → nj a n out = some s ∧ out.length ≤ s.length
 | 0, out, s, h, _ => by cases h
 | n + 1, out, s, h, k => by
  rw [qu] at h
  rw [nj]
  have key : out.length ≤ s.length → ∃ c, mj out a zS = some c ∧ lA jb kL out.getLast? a false zS = (!gX c zS, c) := fun m => by
   have := wX out (by omega) a zS
   rw [oC] at this
   exact this
  split at h
  ·rename_i h1
   cases h
   obtain ⟨c, d, g⟩ := key (aJ _)
   rw [d]
   rw [g] at h1
   simp only [aa]
   rw [ar (by simpa using h1)]
   exact ⟨rfl, aJ _⟩
  ·rename_i h1
   obtain ⟨o, b, i⟩ := bind_some h
   have j := DK a n o s i k
   have l : out.length + 1 = o.length := by
    unfold jh at b; split at b
    ·cases b; simp
    ·cases b
   obtain ⟨c, d, g⟩ := key (by omega)
   rw [d]
   rw [g] at h1 b
   simp only [aa]
   rw [al (by simpa using h1), b]
   exact ⟨j.1, by omega⟩
abbrev xf (l s : List ByteArray) := lZ (fun a b => kL a b = true) (fun x => jb x = true) l s
abbrev EF (l s : List gl) := lZ (fun a b => nZ a b = true) (fun x => iA x = true) l s
abbrev tI (l s : List gm) := lZ (fun a b => sH a b = true) (fun x => ib x = true) l s
theorem lP {α : Type} {lt : α → α → Bool} {R : α → Bool} (H : rG (fun a b => lt a b = true) (fun x => R x = true)) {l s : List α} (h : lZ (fun a b => lt a b = true) (fun x => R x = true) l s) : s.length ≤ l.length :=
 iO (nX H (fun x c => ((h.2 x).1 c).2) h.1) (fun x c => ((h.2 x).1 c).1)
theorem xU (l : List gm) (b : l.length ≤ 1000000000) : ∃ s, lD l = some s ∧ tI l s := by
 obtain ⟨s, h1, a⟩ := rA qt (w := 136) (by omega) (⟨0, ⟨zS, zS⟩, zS, ⟨zS, zS⟩, ⟨zS, zS⟩, zS⟩ : gm) l b jj [] (by rw [oZ]; omega) (by simp) (by simp) (fun x _ _ => .inr rfl)
 exact ⟨s, (DB l jj [] s h1 (by have := lP qt a; omega)).1, a⟩
theorem DO (l : List gl) (b : l.length ≤ 1000000000) : ∃ s, tg l = some s ∧ EF l s := by
 obtain ⟨s, h1, a⟩ := rA (uv (fun x => iA x = true)) (w := 32) (by omega) (⟨zS, zS⟩ : gl) l b jj [] (by rw [oZ]; omega) (by simp) (by simp) (fun x _ _ => .inr rfl)
 exact ⟨s, (DG l jj [] s h1 (by have := lP (uv _) a; omega)).1, a⟩
theorem AT (l : List ByteArray) (b : l.length ≤ 1000000000) : ∃ s, qY l = some s ∧ xf l s := by
 obtain ⟨s, h1, a⟩ := rA (sa (fun x => jb x = true)) (w := 16) (by omega) zS l b jj [] (by rw [oZ]; omega) (by simp) (by simp) (fun x _ _ => .inr rfl)
 exact ⟨s, (DK l jj [] s h1 (by have := lP (sa _) a; omega)).1, a⟩
def zC : gm := ⟨0, ⟨zS, zS⟩, zS, ⟨zS, zS⟩, ⟨zS, zS⟩, zS⟩
theorem AO (f : gm → Option Bool) : ∀ (n : Nat) (l : List gm) (i j : Int), jy f n l i j = wA f zC n l i j
 | 0, _, _, _ => rfl
 | n + 1, l, i, j => by
  rw [jy, wA]
  simp only [AO f n]
  rfl
theorem A6 (f : gm → Option Bool) : ∀ (l : List gm) (i : Nat), ki f l i = wI f l i
 | [], _ => rfl
 | x :: l, i => by rw [ki, wI]; simp only [A6 f l]
theorem Dt (f : gm → Option Bool) (l : List gm) : lJ l f = BI f zC l := by
 unfold lJ BI nz
 simp only [A6, AO]
theorem zn (i : Int) : ∀ (n : Nat) (l : List gm) (k j : Int), jQ i n l k j = tD lU i n l k j
 | 0, _, _, _ => rfl
 | n + 1, l, k, j => by
  rw [jQ, tD]
  simp only [zn i n]
theorem zz (l : List gm) : ∀ (n : Nat) (i : Int), jR l n i = uj lU zC l n i
 | 0, _ => rfl
 | n + 1, i => by
  rw [jR, uj]
  simp only [zz l n, zn]
  rfl
theorem Dh (l : List gm) : mK l = ye lU zC l := by
 unfold mK ye
 simp only [zz]
theorem Ah (i : Int) : ∀ (n : Nat) (l : List ByteArray) (k j : Int), jF i n l k j = tD gX i n l k j
 | 0, _, _, _ => rfl
 | n + 1, l, k, j => by
  rw [jF, tD]
  simp only [Ah i n]
theorem zG (l : List ByteArray) : ∀ (n : Nat) (i : Int), jE l n i = uj gX zS l n i
 | 0, _ => rfl
 | n + 1, i => by
  rw [jE, uj]
  simp only [zG l n, Ah]
theorem Dn (l : List ByteArray) : kR l = ye gX zS l := by
 unfold kR ye
 simp only [zG]
theorem EQ {l : List gm} (a : l.length ≤ 1000000000) : ma l = some l := by
 unfold ma
 rw [jl (by simp; omega) (by simp; omega)]
 simp
theorem EH (l : List gm) (d : l.length ≤ 1000000000) : ∃ s, mX l = some s ∧ tI l s := by
 unfold mX
 rw [EQ d]
 simp only [aa]
 rw [Dt, Dc _ (fun x => !ib x) zC l (by omega) (fun x _ => by simp [pY, nO])]
 simp only [aa, Bool.not_not]
 have i : (l.filter fun x => ib x).length ≤ l.length := List.length_filter_le _ _
 obtain ⟨s, h1, h, c⟩ := wi (eq := lU) (lt := fun a b => sH a b = true) (P := fun x => ib x = true) (cf := fun x => ni x.1 x.2) (l := l.filter fun x => ib x) (fun x y => tq) qt (fun x g => (cx.1 g).2) (by omega) (fun x y _ _ => vT x y)
 rw [h1]
 simp only [aa]
 rw [Dh, Ab _ _ _ (by omega)]
 refine ⟨_, rfl, c.1, fun x => ?_⟩
 rw [c.2]
 simp
theorem Be (l : List ByteArray) : iN l = lE (fun x => some (if kL x.1 x.2 then -1 else 0)) l := by
 unfold iN lE
 congr 1
 funext x y
 unfold mx
 cases h : kL y x <;> simp [h]
theorem uE : ∀ (l acc : List ByteArray), acc.length + l.length ≤ 1000000000 → mN l acc = (vQ (acc ++ l.filter jb)).bind fun r => kR r
 | [], acc, _ => by rw [mN]; simp
 | x :: l, acc, h => by
  rw [mN, pn]
  simp only [aa]
  cases a : jb x with
  | false =>
   simp only [ap, bf]
   rw [uE l acc (by simp at h; omega)]
   simp [a]
  | true =>
   simp only [bi]
   rw [jl (by simp at h ⊢; omega) (by simp at h ⊢; omega)]
   simp only [aa]
   rw [uE l (acc ++ [x]) (by simp at h ⊢; omega)]
   simp [a]
theorem Et (l : List ByteArray) (g : l.length ≤ 1000000000) : ∃ s, pC l = some s ∧ xf l s := by
 unfold pC
 rw [uE l [] (by simpa using g)]
 simp only [bw]
 have k : (l.filter jb).length ≤ l.length := List.length_filter_le _ _
 unfold vQ
 rw [ar (by omega)]
 simp only [aa]
 obtain ⟨s, h1, j, c⟩ := wi (eq := gX) (lt := fun a b => kL a b = true) (P := fun x => jb x = true) (cf := fun x => some (if kL x.1 x.2 then -1 else 0)) (l := l.filter jb) (fun x y => iE) (sa _) (fun x i => (cx.1 i).2) (by omega) (fun x y _ _ => ⟨_, rfl, by cases h : kL x y <;> simp [h]⟩)
 have d := (xA h1).2
 rw [Be, ← d, Dn, Ab _ _ _ (by omega)]
 refine ⟨_, rfl, c.1, fun x => ?_⟩
 rw [c.2]
 simp
theorem yC : ∀ (A l : List gl), nN (A ++ l) l A.length = some true
 | A, [] => rfl
 | A, x :: l => by
  rw [nN, oX A x l _ rfl]
  simp only [aa]
  rw [gB.2 rfl]
  simp only [bQ, ap, bf]
  have := yC (A ++ [x]) l
  simpa using this
theorem Fp (l : List gl) : qF l l = some true := by
 unfold qF
 rw [al (by simp)]
 exact yC [] l
def tt {κ : Type} (a : List κ) : List (κ × Bool) := a.map fun k => (k, true)
def nA {κ : Type} (beq : κ → κ → Bool) (a : List κ) (k : κ) : Bool := a.any fun x => beq k x
def ins {κ : Type} (beq : κ → κ → Bool) (a : List κ) (k : κ) : List κ := if nA beq a k then a else a ++ [k]
section
variable {κ : Type} {beq : κ → κ → Bool}
theorem lN (b : ∀ {x y}, beq x y = true ↔ x = y) (a : List κ) (k : κ) : nA beq a k = true ↔ k ∈ a := by
 simp [nA, dO, b]
theorem vI (b : ∀ {x y}, beq x y = true ↔ x = y) (a : List κ) (k x : κ) : x ∈ ins beq a k ↔ x ∈ a ∨ x = k := by
 unfold ins
 split
 ·rename_i h
  have := (lN b a k).1 h
  exact ⟨.inl, fun h => by rcases h with h | rfl; exact h; exact this⟩
 ·simp
theorem vC (i : ∀ {x y}, beq x y = true ↔ x = y) {d : List κ} (h : d.Nodup) (k : κ) : (ins beq d k).Nodup := by
 unfold ins
 split
 ·exact h
 ·rename_i hk
  have : k ∉ d := fun hm => hk ((lN i d k).2 hm)
  exact aF.2 ⟨h, by simp, fun a g b c => by simp at c; subst c; intro e; subst e; exact this g⟩
theorem BL (a : List κ) (k : κ) : (ins beq a k).length ≤ a.length + 1 ∧ a.length ≤ (ins beq a k).length := by
 unfold ins; split <;> simp
theorem CE (a : List κ) : (tt a).length = a.length := by simp [tt]
theorem CM (a : List κ) (k : κ) : iW beq (tt a) k false = nA beq a k := by
 unfold iW gQ nA tt
 induction a with
 | nil => rfl
 | cons x xs ih =>
  simp only [aN, fY, List.any_cons]
  cases h : beq k x with
  | true => simp
  | false => simpa using ih
theorem DP (l : ∀ {x y}, beq x y = true ↔ x = y) (a : List κ) (k : κ) : iQ beq (tt a) k true = tt (ins beq a k) := by
 unfold iQ ins
 have m : (tt a).findIdx? (fun p => beq k p.1) = a.findIdx? (fun x => beq k x) := by
  unfold tt; rw [ei]; rfl
 rw [m]
 cases h : a.findIdx? (fun x => beq k x) with
 | none =>
  rw [dQ] at h
  rw [al]
  ·simp [tt]
  ·intro c
   unfold nA at c
   rw [dO] at c
   obtain ⟨x, n, b⟩ := c
   rw [h x n] at b
   cases b
 | some i =>
  rw [bF] at h
  obtain ⟨g, h1, _⟩ := h
  have e := l.1 h1
  rw [ar]
  ·simp only [tt]
   apply cC
   intro j
   rw [da]
   split
   ·rename_i d
    subst d
    simp [g, e]
   ·rfl
  ·unfold nA
   exact dO.2 ⟨a[i], List.getElem_mem g, h1⟩
end
section
variable {all : List gm} {wants : List gl} {T : List gl} {W : List ByteArray} {R : List gm}
def iJ (c : gm) : List gl := if c.Kind = 1 then [] else if c.Kind = 4 then [c.B, c.C] else [c.B]
end
theorem BX {c : gm} (h : ib c = true) : pw c = some (c.Head :: iJ c) := by
 unfold pw
 rw [nO, h]
 simp only [aa, bQ, ap, bf]
 have a : c.Kind = 1 ∨ c.Kind = 2 ∨ c.Kind = 3 ∨ c.Kind = 4 := by rcases jG h with h | h | h | h <;> simp [h.1]
 rcases a with k | k | k | k
 ·simp [k, iJ]
 ·rw [ar (by simp [k]), jl (by simp) (by simp)]
  simp [k, iJ]
 ·rw [ar (by simp [k]), jl (by simp) (by simp)]
  simp [k, iJ]
 ·rw [ar (by simp [k]), jl (by simp) (by simp)]
  simp only [aa]
  rw [ar (by simp [k]), jl (by simp) (by simp)]
  simp [k, iJ]
theorem uF : ∀ (a T : List gl) (r : gl), r ∈ a.foldl (ins gz) T ↔ r ∈ T ∨ r ∈ a
 | [], T, r => by simp
 | x :: a, T, r => by
  rw [cZ, uF a, vI gB]
  simp [or_assoc]
theorem sk : ∀ (a T : List gl), (a.foldl (ins gz) T).length ≤ T.length + a.length
 | [], T => by simp
 | x :: a, T => by
  have h1 := sk a (ins gz T x)
  have b := (BL (beq := gz) T x).1
  simp only [cZ, aB]
  omega
theorem lZ.congr {α : Type} {lt : α → α → Prop} {P : α → Prop} {l m s : List α} (h : lZ lt P l s) (hm : ∀ x, x ∈ l ↔ x ∈ m) : lZ lt P m s := ⟨h.1, fun x => by rw [h.2, hm]⟩
theorem DV {κ : Type} (a : List κ) : (tt a).map (·.1) = a := by simp [tt, db]
theorem zc : ∀ (l : List gm) (n : Int), 0 ≤ n → n ≤ 4000000000000000000 → (∀ c ∈ l, c.Head.gF.size + c.Head.gY.size + c.gP.size + c.B.gF.size + c.B.gY.size + c.C.gF.size + c.C.gY.size + c.gZ.size ≤ 1000000000) → n + l.length * 1000000020 ≤ 4000000000000000000 →
  ∃ r, lu l n = some r ∧ n + 20 * l.length ≤ r
 | [], n, _, _, _, _ => ⟨n, rfl, by simp⟩
 | c :: l, n, k, h1, a, g => by
  have h := a c (by simp)
  simp only [aB] at g ⊢
  rw [lu]
  rw [ja (x := 20 + (c.Head.gF.size : Int)) (by omega) (by omega), ja (x := 20 + (c.Head.gF.size : Int) + (c.Head.gY.size : Int)) (by omega) (by omega), ja (x := 20 + (c.Head.gF.size : Int) + (c.Head.gY.size : Int) + (c.gP.size : Int)) (by omega) (by omega), ja (x := 20 + (c.Head.gF.size : Int) + (c.Head.gY.size : Int) + (c.gP.size : Int) + (c.B.gF.size : Int)) (by omega) (by omega), ja (x := 20 + (c.Head.gF.size : Int) + (c.Head.gY.size : Int) + (c.gP.size : Int) + (c.B.gF.size : Int) + (c.B.gY.size : Int)) (by omega) (by omega), ja (x := 20 + (c.Head.gF.size : Int) + (c.Head.gY.size : Int) + (c.gP.size : Int) + (c.B.gF.size : Int) + (c.B.gY.size : Int) + (c.C.gF.size : Int)) (by omega) (by omega), ja (x := 20 + (c.Head.gF.size : Int) + (c.Head.gY.size : Int) + (c.gP.size : Int) + (c.B.gF.size : Int) + (c.B.gY.size : Int) + (c.C.gF.size : Int) + (c.C.gY.size : Int)) (by omega) (by omega), ja (x := 20 + (c.Head.gF.size : Int) + (c.Head.gY.size : Int) + (c.gP.size : Int) + (c.B.gF.size : Int) + (c.B.gY.size : Int) + (c.C.gF.size : Int) + (c.C.gY.size : Int) + (c.gZ.size : Int)) (by omega) (by omega), ja (by omega) (by omega)]
  obtain ⟨r, b, j⟩ := zc l (n + (20 + (c.Head.gF.size : Int) + (c.Head.gY.size : Int) + (c.gP.size : Int) + (c.B.gF.size : Int) + (c.B.gY.size : Int) + (c.C.gF.size : Int) + (c.C.gY.size : Int) + (c.gZ.size : Int))) (by omega) (by omega) (fun d i => a d (by simp [i])) (by omega)
  exact ⟨r, b, by omega⟩
def ui (c : gm) : Nat := c.Head.gF.size + c.Head.gY.size + c.gP.size + c.B.gF.size + c.B.gY.size + c.C.gF.size + c.C.gY.size + c.gZ.size
section
variable {κ γ : Type} {beq : κ → κ → Bool}
theorem lj (a : ∀ {x y}, beq x y = true ↔ x = y) {A B : List (κ × γ)} {k : κ} {x : γ} (b : ∀ p ∈ A, p.1 ≠ k) : gQ beq (A ++ (k, x) :: B) k = some x := by
 unfold gQ
 rw [List.find?_append]
 have : A.find? (fun p => beq k p.1) = none := List.find?_eq_none.2 (fun p hp h => b p hp (a.1 h).symm)
 rw [this]
 simp [a.2 (rfl : k = k)]
theorem og (a : ∀ {x y}, beq x y = true ↔ x = y) {l : List (κ × γ)} {k : κ} (h : ∀ p ∈ l, p.1 ≠ k) : gQ beq l k = none := by
 unfold gQ
 rw [List.find?_eq_none.2 (fun p hp b => h p hp (a.1 b).symm)]
 rfl
theorem oG (a : ∀ {x y}, beq x y = true ↔ x = y) {A B : List (κ × γ)} {k : κ} {x y : γ} (b : ∀ p ∈ A, p.1 ≠ k) : iQ beq (A ++ (k, x) :: B) k y = A ++ (k, y) :: B := by
 have h1 : (A ++ (k, x) :: B).findIdx? (fun p => beq k p.1) = some A.length := by
  rw [de, dQ.2 (fun p hp => by
   cases h : beq k p.1 with
   | false => rfl
   | true => exact absurd (a.1 h).symm (b p hp))]
  simp [cz, a.2 (rfl : k = k)]
 rw [ky h1]
 simp
theorem qU (a : ∀ {x y}, beq x y = true ↔ x = y) {l : List (κ × γ)} {k : κ} {y : γ} (h : ∀ p ∈ l, p.1 ≠ k) : iQ beq l k y = l ++ [(k, y)] := by
 refine na (dQ.2 (fun p hp => ?_)) y
 cases b : beq k p.1 with
 | false => rfl
 | true => exact absurd (a.1 b).symm (h p hp)
theorem nc (k : κ) : ∀ (l : List (κ × γ)), (∀ p ∈ l, p.1 ≠ k) ∨ ∃ A x B, l = A ++ (k, x) :: B ∧ ∀ p ∈ A, p.1 ≠ k
 | [] => .inl (fun _ h => by cases h)
 | p :: l => by
  by_cases hp : p.1 = k
  ·exact .inr ⟨[], p.2, l, by rw [← hp]; rfl, fun _ h => by cases h⟩
  ·rcases nc k l with h | ⟨A, x, B, rfl, h⟩
   ·exact .inl (fun q a => by rcases ak.1 a with rfl | a; exact hp; exact h q a)
   ·exact .inr ⟨p :: A, x, B, rfl, fun q a => by rcases ak.1 a with rfl | a; exact hp; exact h q a⟩
theorem wz (a : ∀ {x y}, beq x y = true ↔ x = y) (A B : List (κ × γ)) (k : κ) : gQ beq (A ++ B) k = (gQ beq A k).or (gQ beq B k) := by
 unfold gQ
 rw [List.find?_append]
 cases A.find? (fun p => beq k p.1) <;> rfl
theorem sS (p : κ × γ) (l : List (κ × γ)) (k : κ) : gQ beq (p :: l) k = if beq k p.1 = true then some p.2 else gQ beq l k := by
 unfold gQ
 rw [fY]
 cases beq k p.1 <;> simp
theorem uV (a : ∀ {x y}, beq x y = true ↔ x = y) (l : List (κ × γ)) (k b : κ) (y : γ) : gQ beq (iQ beq l k y) b = if beq b k = true then some y else gQ beq l b := by
 rcases nc k l with h | ⟨A, x, B, rfl, h⟩
 ·rw [qU a h, wz a, sS]
  by_cases hk : beq b k = true
  ·have := a.1 hk
   subst this
   rw [ar hk, ar hk, og a h]; rfl
  ·rw [al hk, al hk]
   show (gQ beq l b).or none = _
   cases gQ beq l b <;> rfl
 ·rw [oG a h, wz a, sS, wz a, sS]
  by_cases hk : beq b k = true
  ·have := a.1 hk
   subst this
   rw [ar hk, ar hk, og a h]; rfl
  ·rw [al hk, al hk, al hk]
end
abbrev kM := List (gl × List ByteArray)
def mm (T : kM) : List (gl × List (ByteArray × Bool)) := T.map fun p => (p.1, tt p.2)
def jY (T : kM) (r : gl) : List ByteArray := (gQ gz T r).getD []
def FS (T : kM) : List gr := T.flatMap fun p => p.2.map fun w => (⟨p.1, w⟩ : gr)
def uZ (T : kM) (r : gl) (w : ByteArray) : kM := iQ gz T r (jY T r ++ [w])
theorem uU (A B : kM) : mm (A ++ B) = mm A ++ mm B := by simp [mm]
theorem qR {A : kM} {r : gl} (h : ∀ p ∈ A, p.1 ≠ r) : ∀ p ∈ mm A, p.1 ≠ r := by
 intro p hp
 simp only [mm, aK] at hp
 obtain ⟨q, a, rfl⟩ := hp
 exact h q a
theorem Ee (T : kM) (r : gl) : gQ gz (mm T) r = (gQ gz T r).map tt := by
 rcases nc r T with h | ⟨A, x, B, rfl, h⟩
 ·rw [og gB h, og gB (qR h)]; rfl
 ·rw [lj gB h, uU]
  exact lj gB (qR h)
theorem A4 (T : kM) (r : gl) : (gQ gz (mm T) r).getD [] = tt (jY T r) := by
 rw [Ee, jY]; cases gQ gz T r <;> rfl
theorem xr (T : kM) (r : gl) (w : ByteArray) : (FS (uZ T r w)).Perm (FS T ++ [(⟨r, w⟩ : gr)]) := by
 unfold uZ jY
 rcases nc r T with h | ⟨A, x, B, rfl, h⟩
 ·rw [qU gB h, og gB h]
  simp [FS]
 ·rw [oG gB h, lj gB h]
  simp only [FS, eH, cv, dJ, aP, aN, eL, ay]
  refine aY _ (aY _ ?_)
  exact cH
theorem CK {T : kM} (hk : (T.map (·.1)).Nodup) (r : gl) (w : ByteArray) : ((uZ T r w).map (·.1)).Nodup := by
 unfold uZ
 rcases nc r T with h | ⟨A, x, B, rfl, h⟩
 ·rw [qU gB h]
  simp only [aP, aN, eL]
  refine aF.2 ⟨hk, by simp, fun a d b c e => ?_⟩
  simp at c; subst c; subst e
  obtain ⟨p, hp, e⟩ := aK.1 d
  exact h p hp e
 ·rw [oG gB h]
  simpa using hk
theorem pR {T : kM} (hk : (T.map (·.1)).Nodup) (f : gr) : f ∈ FS T ↔ f.gP ∈ jY T f.gl := by
 simp only [FS, dP, aK]
 constructor
 ·rintro ⟨p, hp, w, hw, rfl⟩
  obtain ⟨A, B, rfl⟩ := du hp
  have a : ∀ q ∈ A, q.1 ≠ p.1 := fun q c e => by
   rw [aP, aN] at hk
   exact (aF.1 hk).2.2 q.1 (aK.2 ⟨q, c, rfl⟩) p.1 (by simp) e
  rw [jY, show p = (p.1, p.2) from rfl, lj gB a]
  exact hw
 ·intro h
  unfold jY at h
  rcases nc f.gl T with b | ⟨A, x, B, rfl, a⟩
  ·rw [og gB b] at h; cases h
  ·rw [lj gB a] at h
   exact ⟨(f.gl, x), by simp, f.gP, h, rfl⟩
theorem tu {T : kM} (h : (FS T).Nodup) (r : gl) : (jY T r).Nodup := by
 unfold jY
 rcases nc r T with b | ⟨A, x, B, rfl, a⟩
 ·rw [og gB b]; simp
 ·rw [lj gB a]
  simp only [FS, eH, cv] at h
  have h1 := (aF.1 (aF.1 h).2.1).1
  simp only [List.Nodup, ct] at h1
  exact h1.imp (fun h e => h (by rw [e]))
inductive kl (C : List gm) : gr → Prop
 | mem (c) : c ∈ C → c.Kind = 1 → kl C ⟨c.Head, c.gP⟩
 | inc (c w) : c ∈ C → c.Kind = 2 → kl C ⟨c.B, w⟩ → kl C ⟨c.Head, w⟩
 | vi (c b w) : c ∈ C → c.Kind = 3 → kl C ⟨c.B, b⟩ → kl C ⟨⟨b, c.gZ⟩, w⟩ → kl C ⟨c.Head, w⟩
 | both (c w) : c ∈ C → c.Kind = 4 → kl C ⟨c.B, w⟩ → kl C ⟨c.C, w⟩ → kl C ⟨c.Head, w⟩
theorem kl.mono {C C' : List gm} (h : ∀ c ∈ C, c ∈ C') {f : gr} (i : kl C f) : kl C' f := by
 induction i with
 | mem c a hk => exact .mem c (h c a) hk
 | inc c w a hk _ ih => exact .inc c w (h c a) hk ih
 | vi c b w a hk _ _ d g => exact .vi c b w (h c a) hk d g
 | both c w a hk _ _ d g => exact .both c w (h c a) hk d g
def vk (C : List gm) : List gr := (C.map (·.Head)).flatMap fun r => (C.map (·.gP)).map fun w => (⟨r, w⟩ : gr)
theorem rW (C : List gm) : (vk C).length = C.length * C.length := by
 unfold vk
 have : ∀ l : List gl, (l.flatMap fun r => (C.map (·.gP)).map fun w => (⟨r, w⟩ : gr)).length = l.length * C.length := fun l => by
  induction l with
  | nil => simp
  | cons x l ih => simp only [cv, an, ih, bN, aB, aZ]; omega
 rw [this, bN]
theorem Ei {C : List gm} {r : gl} {w : ByteArray} : (⟨r, w⟩ : gr) ∈ vk C ↔ (∃ c ∈ C, c.Head = r) ∧ ∃ c ∈ C, c.gP = w := by
 unfold vk
 simp only [dP, aK, gr.mk.injEq]
 constructor
 ·rintro ⟨g, ⟨c, d, rfl⟩, h, ⟨b, a, rfl⟩, rfl, rfl⟩; exact ⟨⟨c, d, rfl⟩, b, a, rfl⟩
 ·rintro ⟨⟨c, d, rfl⟩, b, a, rfl⟩; exact ⟨_, ⟨c, d, rfl⟩, _, ⟨b, a, rfl⟩, rfl, rfl⟩
theorem kl.AG {C : List gm} {f : gr} (h : kl C f) : ∃ c ∈ C, c.Kind = 1 ∧ c.gP = f.gP := by
 induction h with
 | mem c g hk => exact ⟨c, g, hk, rfl⟩
 | inc c w g hk _ ih => exact ih
 | vi c b w g hk _ _ a d => exact d
 | both c w g hk _ _ a d => exact a
theorem kl.head {C : List gm} {f : gr} (h : kl C f) : ∃ c ∈ C, c.Head = f.gl := by
 cases h with
 | mem c a hk => exact ⟨c, a, rfl⟩
 | inc c w a hk _ => exact ⟨c, a, rfl⟩
 | vi c b w a hk _ _ => exact ⟨c, a, rfl⟩
 | both c w a hk _ _ => exact ⟨c, a, rfl⟩
theorem kl.vk {C : List gm} {f : gr} (h : kl C f) : f ∈ vk C := by
 obtain ⟨c, a, _, hw⟩ := h.AG
 exact Ei.2 ⟨h.head, c, a, hw⟩
structure lq (C : List gm) (T : kM) (td : List gr) (n : Int) : Prop where
 keys : (T.map (·.1)).Nodup
 nd : (FS T).Nodup
 AK : td.Nodup
 sub : ∀ f ∈ td, f ∈ FS T
 num : n = (FS T).length
 pK : ∀ f ∈ FS T, kl C f
theorem lq.len {C : List gm} {T : kM} {b : List gr} {n : Int} (h : lq C T b n) : (FS T).length ≤ C.length * C.length := by
 rw [← rW]; exact iO h.nd (fun f a => (h.pK f a).vk)
theorem lq.E6 {C : List gm} {T : kM} {a : List gr} {n : Int} (h : lq C T a n) : a.length ≤ (FS T).length := iO h.AK h.sub
theorem lq.mono {C C' : List gm} {T : kM} {a : List gr} {n : Int} (h : lq C T a n) (b : ∀ c ∈ C, c ∈ C') : lq C' T a n := ⟨h.keys, h.nd, h.AK, h.sub, h.num, fun f d => (h.pK f d).mono b⟩
structure rn (T : kM) (td : List gr) (T' : kM) (td' : List gr) : Prop where
 iM : ∀ f ∈ FS T, f ∈ FS T'
 todo : ∀ f ∈ td, f ∈ td'
 new : ∀ f ∈ FS T', f ∈ FS T ∨ f ∈ td'
 fresh : ∀ f ∈ td', f ∈ td ∨ f ∉ FS T
theorem rn.refl (T : kM) (a : List gr) : rn T a T a := ⟨fun _ h => h, fun _ h => h, fun _ h => .inl h, fun _ h => .inl h⟩
theorem rn.trans {T T' T'' : kM} {g d a : List gr} (h : rn T g T' d) (k : rn T' d T'' a) : rn T g T'' a :=
 ⟨fun f b => k.iM f (h.iM f b), fun f b => k.todo f (h.todo f b), fun f b => by
  rcases k.new f b with h1 | h1
  ·rcases h.new f h1 with c | c
   ·exact .inl c
   ·exact .inr (k.todo f c)
  ·exact .inr h1, fun f b => by
  rcases k.fresh f b with h1 | h1
  ·exact h.fresh f h1
  ·exact .inr (fun c => h1 (h.iM f c))⟩
theorem xG {α : Type} (p : α → Bool) : ∀ l : List α, (l.filter p).length + (l.filter fun x => !p x).length = l.length
 | [] => rfl
 | x :: l => by
  have := xG p l
  cases h : p x <;> simp [h] <;> omega
theorem lq.wc {C C' : List gm} {T T' : kM} {d c : List gr} {n m : Int} (g' : lq C' T' c m) (g : lq C T d n) (x : rn T d T' c) : c.length + (FS T).length ≤ d.length + (FS T').length := by
 classical
 have h1 : (c.filter fun f => decide (f ∈ FS T)).length ≤ d.length := iO (g'.AK.filter _) (fun f i => by
  have := cx.1 i
  rcases x.fresh f this.1 with h | h
  ·exact h
  ·exact absurd (by simpa using this.2) h)
 have j : (FS T ++ c.filter fun f => !decide (f ∈ FS T)).length ≤ (FS T').length := iO (aF.2 ⟨g.nd, g'.AK.filter _, fun a k b l e => by
  subst e
  have := (cx.1 l).2
  simp [k] at this⟩) (fun f i => by
  rcases aI.1 i with h | h
  ·exact x.iM f h
  ·exact g'.sub f (cx.1 h).1)
 have o : (c.filter fun f => decide (f ∈ FS T)).length + (c.filter fun f => !decide (f ∈ FS T)).length = c.length := by
  exact xG (fun f => decide (f ∈ FS T)) c
 rw [an] at j
 omega
def tp (C : List gm) (T : kM) (d : List gr) (b : Option (List (gl × List (ByteArray × Bool)) × List gr × Int)) (Q : kM → Prop) : Prop :=
 ∃ T' a c, b = some (mm T', a, c) ∧ lq C T' a c ∧ rn T d T' a ∧ Q T'
theorem tp.mono {C : List gm} {T : kM} {d : List gr} {a : Option (List (gl × List (ByteArray × Bool)) × List gr × Int)} {Q Q' : kM → Prop} (h : tp C T d a Q) (j : ∀ T', (∀ f ∈ FS T, f ∈ FS T') → Q T' → Q' T') : tp C T d a Q' := by
 obtain ⟨T', b, k, h1, g, c, i⟩ := h
 exact ⟨T', b, k, h1, g, c, j T' c.iM i⟩
def lX (C : List gm) : Prop := C.length ≤ 1000000
theorem lX.sq {C : List gm} (h : lX C) : C.length * C.length ≤ 1000000000000 := dH h h
theorem nT {T : kM} (hk : (T.map (·.1)).Nodup) (r : gl) (w : ByteArray) : iW gX ((gQ gz (mm T) r).getD []) w false = true ↔ (⟨r, w⟩ : gr) ∈ FS T := by
 rw [A4, CM, lN iE, pR hk]
theorem tU {C : List gm} (y : lX C) {T : kM} {j : List gr} {n : Int} (h : lq C T j n) (cs : List gm) (L : List (gl × List gm)) (ws : List (ByteArray × List gm)) {r : gl} {w : ByteArray} (E : kl C ⟨r, w⟩) :
  tp C T j (jJ (mm T) cs L ws j n r w) (fun T' => (⟨r, w⟩ : gr) ∈ FS T') := by
 unfold jJ
 have I := y.sq
 have M := h.len
 have J := h.E6
 by_cases d : (⟨r, w⟩ : gr) ∈ FS T
 ·rw [ar ((nT h.keys r w).2 d)]
  exact ⟨T, j, n, rfl, h, rn.refl _ _, d⟩
 ·rw [al (fun t => d ((nT h.keys r w).1 t))]
  have G : lq C (uZ T r w) (j ++ [⟨r, w⟩]) (n + 1) := by
   have hp := xr T r w
   refine ⟨CK h.keys r w, (hp.nodup_iff).2 (aF.2 ⟨h.nd, by simp, fun a s b m e => ?_⟩), aF.2 ⟨h.AK, by simp, fun a s b m e => ?_⟩, fun f c => hp.mem_iff.2 ?_, ?_, fun f c => ?_⟩
   ·simp at m; subst m; subst e; exact d s
   ·simp at m; subst m; subst e; exact d (h.sub _ s)
   ·rcases aI.1 c with c | c
    ·exact aS _ (h.sub f c)
    ·exact bB _ c
   ·rw [hp.length_eq, h.num]; simp
   ·rcases aI.1 (hp.mem_iff.1 c) with c | c
    ·exact h.pK f c
    ·simp at c; subst c; exact E
  have u : ((if (gQ gz (mm T) r).isNone = true then ((wV gz (mm T) r []).bind fun l => some l) else some (mm T)) : Option _).bind (fun l => (wR gz gX l r w true)) = some (mm (uZ T r w)) := by
   unfold uZ jY
   rcases nc r T with i | ⟨A, x, B, rfl, q⟩
   ·have p := og gB (qR i)
    rw [p, og gB i, qU gB i, uU]
    simp only [Option.isNone_none, bi, wV, p, aa]
    rw [qU gB (qR i)]
    unfold wR
    rw [lj gB (qR i)]
    simp only [bJ]
    rw [oG gB (qR i)]
    rfl
   ·have k := qR q
    have v : gQ gz (mm (A ++ (r, x) :: B)) r = some (tt x) := by rw [uU]; exact lj gB k
    rw [v, lj gB q, oG gB q]
    simp only [Option.isNone_some, ap, bf, aa, wR, v, bJ, dJ]
    have K : w ∉ x := fun hw => d (by
     rw [pR h.keys, jY, lj gB q]; exact hw)
    rw [DP iE]
    rw [show ins gX x w = x ++ [w] from by unfold ins; rw [al (fun t => K ((lN iE x w).1 t))]]
    rw [uU, show mm ((r, x) :: B) = (r, tt x) :: mm B from rfl, oG gB k, uU]
    rfl
  refine ⟨uZ T r w, j ++ [⟨r, w⟩], n + 1, ?_, G, ⟨fun f c => (xr T r w).mem_iff.2 (aS _ c), fun f c => aS _ c, fun f c => ?_, fun f c => ?_⟩, (xr T r w).mem_iff.2 (by simp)⟩
  ·have g := u
   generalize ((if (gQ gz (mm T) r).isNone = true then ((wV gz (mm T) r []).bind fun l => some l) else some (mm T)) : Option _) = o at g
   cases o with
   | none => cases g
   | some l =>
    simp only [aa] at g ⊢
    rw [g]
    simp only [aa]
    rw [jl (by simp; omega) (by simp; omega)]
    simp only [aa]
    rw [ja (by rw [h.num]; omega) (by rw [h.num]; omega)]
  ·rcases aI.1 ((xr T r w).mem_iff.1 c) with h1 | h1
   ·exact .inl h1
   ·exact .inr (bB _ h1)
  ·rcases aI.1 c with h1 | h1
   ·exact .inl h1
   ·simp at h1; subst h1; exact .inr d
theorem pa (l : List ByteArray) (x : ByteArray) : x ∈ iN l ↔ x ∈ l := by unfold iN; simp
def mD (C : List gm) : Prop := ∀ c ∈ C, ib c = true
theorem B1 {c : gm} (h : ib c = true) (hk : c.Kind = 1) : c.gP.size ≤ 16 := by
 rcases jG h with h | h | h | h
 ·exact (jS h.2.1).2
 ·exact absurd (hk.symm.trans h.1) (by decide)
 ·exact absurd (hk.symm.trans h.1) (by decide)
 ·exact absurd (hk.symm.trans h.1) (by decide)
theorem CR {T : kM} (r : gl) (hk : (T.map (·.1)).Nodup) : (jY T r).length ≤ (FS T).length := by
 unfold jY
 rcases nc r T with b | ⟨A, x, B, rfl, a⟩
 ·rw [og gB b]; simp
 ·rw [lj gB a]
  simp only [FS, eH, cv, an, bN, dJ]
  omega
theorem uu {C : List gm} (a : lX C) (b : mD C) {T : kM} {i : List gr} {n : Int} (h : lq C T i n) (cs : List gm) (j : List (gl × List gm)) (ws : List (ByteArray × List gm)) (q : List gr) (z : Int) (r : gl) :
  iS (mm T) cs j ws q z r = some (iN (jY T r)) := by
 unfold iS kj
 rw [A4]
 simp only [aa, uB]
 have m := CR r h.keys
 have k := h.len
 have l := a.sq
 unfold xj
 rw [DV, ar]
 refine ⟨tu h.nd r, fun p hp => ?_, by rw [CE]; omega⟩
 simp only [tt, aK] at hp
 obtain ⟨w, hw, rfl⟩ := hp
 have g := h.pK ⟨r, w⟩ ((pR h.keys ⟨r, w⟩).2 hw)
 obtain ⟨c, d, hk, e⟩ := g.AG
 have := B1 (b c d) hk
 simp only at e ⊢
 rw [← e]
 unfold maxLen
 omega
theorem B5 {C : List gm} (g : lX C) (cs : List gm) (d : List (gl × List gm)) (ws : List (ByteArray × List gm)) (head : gl) : ∀ (l : List ByteArray) {T : kM} {a : List gr} {n : Int}, lq C T a n → (∀ w ∈ l, kl C ⟨head, w⟩) →
  tp C T a (lh cs d ws head l (mm T) a n) (fun T' => ∀ w ∈ l, (⟨head, w⟩ : gr) ∈ FS T')
 | [], T, a, n, h, _ => ⟨T, a, n, rfl, h, rn.refl _ _, fun _ hw => by cases hw⟩
 | w :: l, T, a, n, h, i => by
  rw [lh]
  obtain ⟨T1, q, r, j, g1, x1, o⟩ := tU g h cs d ws (i w (by simp))
  rw [j]
  simp only [aa]
  obtain ⟨T2, c, m, k, g2, x2, p⟩ := B5 g cs d ws head l g1 (fun w hw => i w (by simp [hw]))
  refine ⟨T2, c, m, k, g2, x1.trans x2, fun v b => ?_⟩
  rcases ak.1 b with rfl | b
  ·exact x2.iM _ o
  ·exact p v b
theorem ER {C : List gm} (b : lX C) (d : mD C) {T : kM} {a : List gr} {n : Int} (h : lq C T a n) (cs : List gm) (c : List (gl × List gm)) (ws : List (ByteArray × List gm)) (r head : gl) (g : ∀ w, (⟨r, w⟩ : gr) ∈ FS T → kl C ⟨head, w⟩) :
  tp C T a (ny (mm T) cs c ws a n r head) (fun T' => ∀ w, (⟨r, w⟩ : gr) ∈ FS T → (⟨head, w⟩ : gr) ∈ FS T') := by
 unfold ny
 rw [uu b d h]
 simp only [aa]
 refine (B5 b cs c ws head _ h (fun w hw => g w ((pR h.keys ⟨r, w⟩).2 ((pa _ _).1 hw)))).mono (fun T' _ i w hw => i w ((pa _ _).2 ((pR h.keys ⟨r, w⟩).1 hw)))
def vD (c : gm) (f : gr) (T T' : kM) : Prop :=
 (c.Kind = 2 → f.gl = c.B → (⟨c.Head, f.gP⟩ : gr) ∈ FS T') ∧
 (c.Kind = 3 → f.gl = c.B → ∀ w, (⟨⟨f.gP, c.gZ⟩, w⟩ : gr) ∈ FS T → (⟨c.Head, w⟩ : gr) ∈ FS T') ∧
 (c.Kind = 4 → (⟨c.B, f.gP⟩ : gr) ∈ FS T → (⟨c.C, f.gP⟩ : gr) ∈ FS T → (⟨c.Head, f.gP⟩ : gr) ∈ FS T')
theorem vD.mono {c : gm} {f : gr} {T T' T0 T1 : kM} (h : vD c f T T') (g : ∀ f ∈ FS T0, f ∈ FS T) (h1 : ∀ f ∈ FS T', f ∈ FS T1) : vD c f T0 T1 :=
 ⟨fun a b => h1 _ (h.1 a b), fun a b w hw => h1 _ (h.2.1 a b w (g _ hw)), fun a b d => h1 _ (h.2.2 a (g _ b) (g _ d))⟩
theorem DL (x : Option (List (gl × List (ByteArray × Bool)) × List gr × Int)) : (x.bind fun r => some (r.1, r.2.1, r.2.2)) = x := by cases x <;> rfl
theorem B7 {C : List gm} (o : lX C) (t : mD C) {T : kM} {i : List gr} {n : Int} (h : lq C T i n) (cs : List gm) (l : List (gl × List gm)) (ws : List (ByteArray × List gm)) {c : gm} (p : c ∈ C) {f : gr} (r : f ∈ FS T) (s : f.gl ∈ iJ c) :
  tp C T i (me (mm T) cs l ws i n c f) (vD c f T) := by
 unfold me
 simp only [DL, sF]
 by_cases a : c.Kind = 2
 ·have m : f.gl = c.B := by simpa [iJ, a] using s
  rw [ar (by simp [a])]
  have q : kl C ⟨c.Head, f.gP⟩ := .inc c f.gP p a (by rw [← m]; exact h.pK f r)
  refine (tU o h cs l ws q).mono (fun T' _ g => ⟨fun _ _ => g, fun k => absurd (a.symm.trans k) (by decide), fun k => absurd (a.symm.trans k) (by decide)⟩)
 rw [al (by simp [a])]
 by_cases b : c.Kind = 3
 ·have m : f.gl = c.B := by simpa [iJ, b] using s
  rw [ar (by simp [b])]
  refine (ER o t h cs l ws ⟨f.gP, c.gZ⟩ c.Head (fun w hw => .vi c f.gP w p b (by rw [← m]; exact h.pK f r) (h.pK _ hw))).mono (fun T' _ g => ⟨fun k => absurd k a, fun _ _ w hw => g w hw, fun k => absurd (b.symm.trans k) (by decide)⟩)
 rw [al (by simp [b])]
 by_cases j : c.Kind = 4
 ·rw [ar (by simp [j])]
  simp only [aa]
  by_cases d : (⟨c.B, f.gP⟩ : gr) ∈ FS T ∧ (⟨c.C, f.gP⟩ : gr) ∈ FS T
  ·rw [ar (by rw [aD, nT h.keys, nT h.keys]; exact d)]
   have q : kl C ⟨c.Head, f.gP⟩ := .both c f.gP p j (h.pK _ d.1) (h.pK _ d.2)
   exact (tU o h cs l ws q).mono (fun T' _ g => ⟨fun k => absurd k a, fun k => absurd k b, fun _ _ _ => g⟩)
  ·rw [al (by rw [aD, nT h.keys, nT h.keys]; exact d)]
   exact ⟨T, i, n, rfl, h, rn.refl _ _, fun k => absurd k a, fun k => absurd k b, fun _ x y => absurd ⟨x, y⟩ d⟩
 ·rw [al (by simp [j])]
  exact ⟨T, i, n, rfl, h, rn.refl _ _, fun k => absurd k a, fun k => absurd k b, fun k => absurd k j⟩
theorem zH {C : List gm} (i : lX C) (j : mD C) (cs : List gm) (g : List (gl × List gm)) (ws : List (ByteArray × List gm)) {c : gm} (k : c ∈ C) (m : c.B ∈ iJ c) : ∀ (l : List ByteArray) {T : kM} {a : List gr} {n : Int}, lq C T a n → (∀ w ∈ l, (⟨c.B, w⟩ : gr) ∈ FS T) →
  tp C T a (kH cs g ws c l (mm T) a n) (fun T' => ∀ w ∈ l, vD c ⟨c.B, w⟩ T T')
 | [], T, a, n, h, _ => ⟨T, a, n, rfl, h, rn.refl _ _, fun _ hw => by cases hw⟩
 | w :: l, T, a, n, h, hm => by
  rw [kH]
  obtain ⟨T1, t, u, o, g1, x1, r⟩ := B7 i j h cs g ws k (f := ⟨c.B, w⟩) (hm w (by simp)) m
  rw [o]
  simp only [aa]
  obtain ⟨T2, d, q, p, g2, x2, s⟩ := zH i j cs g ws k m l g1 (fun w hw => x1.iM _ (hm w (by simp [hw])))
  refine ⟨T2, d, q, p, g2, x1.trans x2, fun v b => ?_⟩
  rcases ak.1 b with rfl | b
  ·exact r.mono (fun _ h => h) x2.iM
  ·exact (s v b).mono x1.iM (fun _ h => h)
def vY (c : gm) (T : kM) (a : List gr) : Prop :=
 (c.Kind = 1 → (⟨c.Head, c.gP⟩ : gr) ∈ FS T) ∧
 (c.Kind = 2 → ∀ w, (⟨c.B, w⟩ : gr) ∈ FS T → (⟨c.B, w⟩ : gr) ∉ a → (⟨c.Head, w⟩ : gr) ∈ FS T) ∧
 (c.Kind = 3 → ∀ b w, (⟨c.B, b⟩ : gr) ∈ FS T → (⟨c.B, b⟩ : gr) ∉ a → (⟨⟨b, c.gZ⟩, w⟩ : gr) ∈ FS T → (⟨⟨b, c.gZ⟩, w⟩ : gr) ∉ a → (⟨c.Head, w⟩ : gr) ∈ FS T) ∧
 (c.Kind = 4 → ∀ w, (⟨c.B, w⟩ : gr) ∈ FS T → (⟨c.B, w⟩ : gr) ∉ a → (⟨c.C, w⟩ : gr) ∈ FS T → (⟨c.C, w⟩ : gr) ∉ a → (⟨c.Head, w⟩ : gr) ∈ FS T)
theorem vY.ext {c : gm} {T T' : kM} {i d : List gr} (h : vY c T i) (x : rn T i T' d) : vY c T' d := by
 have iM : ∀ f, f ∈ FS T' → f ∉ d → f ∈ FS T ∧ f ∉ i := fun f m j => by
  rcases x.new f m with h1 | h1
  ·exact ⟨h1, fun l => j (x.todo f l)⟩
  ·exact absurd h1 j
 refine ⟨fun k => x.iM _ (h.1 k), fun k w a b => ?_, fun k b w g a2 a3 a4 => ?_, fun k w g a2 a3 a4 => ?_⟩
 ·exact x.iM _ (h.2.1 k w (iM _ a b).1 (iM _ a b).2)
 ·exact x.iM _ (h.2.2.1 k b w (iM _ g a2).1 (iM _ g a2).2 (iM _ a3 a4).1 (iM _ a3 a4).2)
 ·exact x.iM _ (h.2.2.2 k w (iM _ g a2).1 (iM _ g a2).2 (iM _ a3 a4).1 (iM _ a3 a4).2)
theorem Du {C : List gm} (l : lX C) (r : mD C) {T : kM} {o : List gr} {n : Int} (h : lq C T o n) (cs : List gm) (p : List (gl × List gm)) (ws : List (ByteArray × List gm)) {c : gm} (s : c ∈ C) :
  ∃ T' d i, mJ (mm T) cs p ws o n c = some (mm T', d, i) ∧ lq C T' d i ∧ rn T o T' d ∧ vY c T' d := by
 unfold mJ
 simp only [DL]
 by_cases h1 : c.Kind = 1
 ·rw [ar (by simp [h1])]
  obtain ⟨T', d, i, e, g, x, q⟩ := tU l h cs p ws (kl.mem c s h1)
  exact ⟨T', d, i, e, g, x, fun _ => q, fun k => absurd (h1.symm.trans k) (by decide), fun k => absurd (h1.symm.trans k) (by decide), fun k => absurd (h1.symm.trans k) (by decide)⟩
 ·rw [al (by simp [h1]), uu l r h]
  simp only [aa]
  have v : c.B ∈ iJ c := by unfold iJ; rw [al h1]; split <;> simp
  obtain ⟨T', d, i, e, g, x, q⟩ := zH l r cs p ws s v (iN (jY T c.B)) h (fun w hw => (pR h.keys ⟨c.B, w⟩).2 ((pa _ _).1 hw))
  have iM : ∀ f, f ∈ FS T' → f ∉ d → f ∈ FS T := fun f t u => by
   rcases x.new f t with h1 | h1
   ·exact h1
   ·exact absurd h1 u
  have m : ∀ w, (⟨c.B, w⟩ : gr) ∈ FS T → vD c ⟨c.B, w⟩ T T' := fun w hw => q w ((pa _ _).2 ((pR h.keys ⟨c.B, w⟩).1 hw))
  refine ⟨T', d, i, e, g, x, fun k => absurd k h1, fun k w a b => ?_, fun k b w j a2 a3 a4 => ?_, fun k w j a2 a3 a4 => ?_⟩
  ·exact (m w (iM _ a b)).1 k rfl
  ·exact (m b (iM _ j a2)).2.1 k rfl w (iM _ a3 a4)
  ·exact (m w (iM _ j a2)).2.2 k (iM _ j a2) (iM _ a3 a4)
structure vz (C : List gm) (us : List (gl × List gm)) (ws : List (ByteArray × List gm)) : Prop where
 C5 : ∀ r c, c ∈ (gQ gz us r).getD [] ↔ c ∈ C ∧ r ∈ iJ c
 word : ∀ w c, c ∈ (gQ gX ws w).getD [] ↔ c ∈ C ∧ c.Kind = 3 ∧ c.gZ = w
 EN : ∀ r, ((gQ gz us r).getD []).length ≤ 2 * C.length
 EW : ∀ w, ((gQ gX ws w).getD []).length ≤ C.length
theorem yk {C : List gm} (i : lX C) (j : mD C) (cs : List gm) (g : List (gl × List gm)) (ws : List (ByteArray × List gm)) {f : gr} : ∀ (l : List gm) {T : kM} {a : List gr} {n : Int}, lq C T a n → f ∈ FS T → (∀ c ∈ l, c ∈ C ∧ f.gl ∈ iJ c) →
  tp C T a (kB cs g ws f l (mm T) a n) (fun T' => ∀ c ∈ l, vD c f T T')
 | [], T, a, n, h, _, _ => ⟨T, a, n, rfl, h, rn.refl _ _, fun _ hw => by cases hw⟩
 | c :: l, T, a, n, h, k, hm => by
  rw [kB]
  obtain ⟨T1, t, u, m, g1, x1, r⟩ := B7 i j h cs g ws (hm c (by simp)).1 k (hm c (by simp)).2
  rw [m]
  simp only [aa]
  obtain ⟨T2, d, q, o, g2, x2, s⟩ := yk i j cs g ws l g1 (x1.iM _ k) (fun c p => hm c (by simp [p]))
  refine ⟨T2, d, q, o, g2, x1.trans x2, fun v b => ?_⟩
  rcases ak.1 b with rfl | b
  ·exact r.mono (fun _ h => h) x2.iM
  ·exact (s v b).mono x1.iM (fun _ h => h)
theorem ve {C : List gm} (m : lX C) (t : mD C) (cs : List gm) (j : List (gl × List gm)) (ws : List (ByteArray × List gm)) {f : gr} : ∀ (l : List gm) {T : kM} {g : List gr} {n : Int}, lq C T g n → f ∈ FS T → (∀ c ∈ l, c ∈ C ∧ c.Kind = 3 ∧ c.gZ = f.gl.gY) →
  tp C T g (jN f cs j ws l (mm T) g n) (fun T' => ∀ c ∈ l, (⟨c.B, f.gl.gF⟩ : gr) ∈ FS T → (⟨c.Head, f.gP⟩ : gr) ∈ FS T')
 | [], T, g, n, h, _, _ => ⟨T, g, n, rfl, h, rn.refl _ _, fun _ hw => by cases hw⟩
 | c :: l, T, g, n, h, p, hm => by
  rw [jN]
  have hk := hm c (by simp)
  by_cases i : (⟨c.B, f.gl.gF⟩ : gr) ∈ FS T
  ·rw [ar ((nT h.keys _ _).2 i)]
   have q : f = ⟨⟨f.gl.gF, c.gZ⟩, f.gP⟩ := by rw [hk.2.2]
   have w : kl C ⟨c.Head, f.gP⟩ := .vi c f.gl.gF f.gP hk.1 hk.2.1 (h.pK _ i) (by rw [← q]; exact h.pK f p)
   obtain ⟨T1, A, E, u, g1, x1, y⟩ := tU m h cs j ws w
   rw [u]
   simp only [aa]
   obtain ⟨T2, d, r, k, g2, x2, s⟩ := ve m t cs j ws l g1 (x1.iM _ p) (fun c o => hm c (by simp [o]))
   refine ⟨T2, d, r, k, g2, x1.trans x2, fun v b a => ?_⟩
   rcases ak.1 b with rfl | b
   ·exact x2.iM _ y
   ·exact s v b (x1.iM _ a)
  ·rw [al (fun x => i ((nT h.keys _ _).1 x))]
   obtain ⟨T2, d, r, k, g2, x2, s⟩ := ve m t cs j ws l h p (fun c o => hm c (by simp [o]))
   refine ⟨T2, d, r, k, g2, x2, fun v b a => ?_⟩
   rcases ak.1 b with rfl | b
   ·exact absurd a i
   ·exact s v b a
theorem yw {C : List gm} (G : lX C) (I : mD C) {cs : List gm} {A : List (gl × List gm)} {ws : List (ByteArray × List gm)} (t : vz C A ws) : ∀ (m : Nat) {T : kM} {l : List gr} {n : Int}, lq C T l n → (∀ c ∈ C, vY c T l) → C.length * C.length + l.length < m + (FS T).length →
  ∃ T' L, jm cs A ws m (mm T) l n = some (mm T', [], L) ∧ lq C T' [] L ∧ (∀ c ∈ C, vY c T' []) ∧ (∀ f ∈ FS T, f ∈ FS T')
 | 0, T, l, n, h, _, hm => by have := h.len; omega
 | m + 1, T, [], n, h, p, hm => by
  rw [jm]
  exact ⟨T, n, rfl, h, p, fun _ h => h⟩
 | m + 1, T, f :: l, n, h, p, hm => by
  rw [jm]
  rw [ar (by simp)]
  have K : f ∈ FS T := h.sub f (by simp)
  have R := (bV.1 h.AK)
  simp only [jK, Int.le_refl, bi, Int.toNat_zero, ec, aa]
  rw [show nY (decide ((0 : Nat) ≤ 1) && decide ((1 : Int) ≤ ((f :: l).length : Int))) = some () by simp [nY]; omega]
  simp only [aa, show Int.toNat 1 = 1 from rfl, List.drop_one, List.tail_cons]
  have J : lq C T l n := ⟨h.keys, h.nd, R.2, fun g v => h.sub g (by simp [v]), h.num, h.pK⟩
  obtain ⟨T1, a6, n1, O, g1, x1, Z⟩ := yk G I cs A ws ((gQ gz A f.gl).getD []) J K (fun c i => (t.C5 _ c).1 i)
  rw [O]
  simp only [aa]
  obtain ⟨T2, q, n2, P, g2, x2, q2⟩ := ve G I cs A ws ((gQ gX ws f.gl.gY).getD []) g1 (x1.iM _ K) (fun c i => (t.word _ c).1 i)
  rw [P]
  simp only [aa]
  have x := x1.trans x2
  have iM : ∀ g, g ∈ FS T2 → g ∉ q → g ∈ FS T ∧ (g = f ∨ g ∉ f :: l) := fun g v y => by
   rcases x.new g v with h1 | h1
   ·refine ⟨h1, ?_⟩
    by_cases he : g = f
    ·exact .inl he
    ·exact .inr (fun s => by
      rcases ak.1 s with s | s
      ·exact he s
      ·exact y (x.todo g s))
   ·exact absurd h1 y
  have d1 : ∀ c ∈ C, f.gl ∈ iJ c → vD c f T T2 := fun c i U => (Z c ((t.C5 _ c).2 ⟨i, U⟩)).mono (fun _ h => h) x2.iM
  have u : ∀ c ∈ C, vY c T2 q := fun c i => by
   have k := p c i
   refine ⟨fun hk => x.iM _ (k.1 hk), fun hk w a b => ?_, fun hk b w E a2 a3 a4 => ?_, fun hk w E a2 a3 a4 => ?_⟩
   ·obtain ⟨o, d⟩ := iM _ a b
    rcases d with d | d
    ·subst d; exact (d1 c i (by simp [iJ, hk])).1 hk rfl
    ·exact x.iM _ (k.2.1 hk w o d)
   ·obtain ⟨o, d⟩ := iM _ E a2
    obtain ⟨r, j⟩ := iM _ a3 a4
    rcases d with d | d
    ·subst d; exact (d1 c i (by simp [iJ, hk])).2.1 hk rfl w r
    ·rcases j with j | j
     ·subst j
      exact q2 c ((t.word _ c).2 ⟨i, hk, rfl⟩) (x1.iM _ o)
     ·exact x.iM _ (k.2.2.1 hk b w o d r j)
   ·obtain ⟨o, d⟩ := iM _ E a2
    obtain ⟨r, j⟩ := iM _ a3 a4
    rcases d with d | d
    ·subst d; exact (d1 c i (by simp [iJ, hk])).2.2 hk o r
    ·rcases j with j | j
     ·subst j; exact (d1 c i (by simp [iJ, hk])).2.2 hk o r
     ·exact x.iM _ (k.2.2.2 hk w o d r j)
  have hlen : q.length + (FS T).length ≤ l.length + (FS T2).length := by
   exact g2.wc J x
  obtain ⟨T3, W, Q, g3, M, Y⟩ := yw G I t m g2 u (by simp only [aB] at hm; omega)
  exact ⟨T3, W, Q, g3, M, fun g v => Y g (x.iM g v)⟩
theorem AU (c : gm) : ∀ (l : List gm) (i : Nat), ∃ z, lb c l i = some z ∧ (z ≥ 0 ↔ c ∈ l)
 | [], i => ⟨-1, rfl, by simp⟩
 | x :: l, i => by
  rw [lb]
  by_cases h : lU c x = true
  ·rw [ar h]
   exact ⟨_, rfl, by simp [tq.1 h]⟩
  ·rw [al h]
   obtain ⟨z, e, b⟩ := AU c l (i + 1)
   refine ⟨z, e, ?_⟩
   rw [b, ak]
   exact ⟨.inr, fun a => a.resolve_left (fun e => h (tq.2 e))⟩
theorem CO (c : gm) (l : List gm) : ∃ b, sc l c = some b ∧ (b = true ↔ c ∈ l) := by
 obtain ⟨z, e, a⟩ := AU c l 0
 refine ⟨decide (z ≥ 0), ?_, by simpa using a⟩
 unfold sc nW pc
 rw [e]
 rfl
theorem AV (c : gm) (ws : List (ByteArray × List gm)) (C : List gm) (hw : ∀ w, ((gQ gX ws w).getD []).length ≤ 2000000) : ∀ (j : List gl) (a : List (gl × List gm)), (∀ r, ((gQ gz a r).getD []).length + j.length ≤ 4000000) →
  ∃ g i, jX c ws C j a = some (C, g, i) ∧ (∀ r x, x ∈ (gQ gz g r).getD [] ↔ x ∈ (gQ gz a r).getD [] ∨ (x = c ∧ r ∈ j)) ∧
   (∀ w x, x ∈ (gQ gX i w).getD [] ↔ x ∈ (gQ gX ws w).getD [] ∨ (x = c ∧ c.Kind = 3 ∧ w = c.gZ)) ∧ (∀ r, ((gQ gz g r).getD []).length ≤ ((gQ gz a r).getD []).length + j.length) ∧
   (∀ w, ((gQ gX i w).getD []).length ≤ ((gQ gX ws w).getD []).length + 1)
 | [], a, _ => by
  rw [jX]
  by_cases k : c.Kind = 3
  ·rw [ar (by simp [k])]
   have h := hw c.gZ
   rw [jl (by simp; omega) (by simp; omega)]
   simp only [aa]
   refine ⟨a, _, rfl, by simp, fun w x => ?_, by simp, fun w => ?_⟩
   ·rw [uV iE]
    by_cases hk : gX w c.gZ = true
    ·rw [ar hk, iE.1 hk]; simp [k]
    ·rw [al hk]
     have : w ≠ c.gZ := fun e => hk (iE.2 e)
     simp [this]
   ·rw [uV iE]
    by_cases hk : gX w c.gZ = true
    ·rw [ar hk, iE.1 hk]; simp
    ·rw [al hk]; exact fp _
  ·rw [al (by simp [k])]
   exact ⟨a, ws, rfl, by simp, by simp [k], by simp, by simp⟩
 | b :: j, a, l => by
  rw [jX]
  have h := l b
  simp only [aB] at h
  rw [jl (by simp; omega) (by simp; omega)]
  simp only [aa]
  have d : ∀ r, (gQ gz (iQ gz a b (((gQ gz a b).getD []) ++ [c])) r).getD [] = if gz r b = true then ((gQ gz a b).getD []) ++ [c] else (gQ gz a r).getD [] := fun r => by
   rw [uV gB]; by_cases hk : gz r b = true
   ·rw [ar hk, ar hk]; rfl
   ·rw [al hk, al hk]
  obtain ⟨g, i, e, m, a2, a3, a4⟩ := AV c ws C hw j (iQ gz a b (((gQ gz a b).getD []) ++ [c])) (fun r => by
   rw [d r]
   have n := l r
   simp only [aB] at n
   by_cases hk : gz r b = true
   ·rw [ar hk]; simp; omega
   ·rw [al hk]; omega)
  refine ⟨g, i, e, fun r x => ?_, a2, fun r => ?_, a4⟩
  ·rw [m, d]
   by_cases hk : gz r b = true
   ·rw [ar hk, gB.1 hk]
    simp only [aI, ak, cc, dV]
    constructor
    ·rintro ((h | h) | h)
     ·exact .inl h
     ·exact .inr ⟨h, .inl trivial⟩
     ·exact .inr ⟨h.1, .inr h.2⟩
    ·rintro (h | h)
     ·exact .inl (.inl h)
     ·exact .inl (.inr h.1)
   ·rw [al hk]
    have : r ≠ b := fun e => hk (gB.2 e)
    simp [this]
  ·have := a3 r
   rw [d r] at this
   by_cases hk : gz r b = true
   ·rw [ar hk] at this; rw [gB.1 hk] at this ⊢; simp at this ⊢; omega
   ·rw [al hk] at this; simp; omega
theorem Eo {C : List gm} {j : List (gl × List gm)} {ws : List (ByteArray × List gm)} (g : vz C j ws) (p : C.length + 1 ≤ 1000000) {c : gm} (l : ib c = true) (i : List (gl × List (ByteArray × Bool))) (o : List gr) (n : Int) :
  ∃ a b, mT i C j ws o n c = some (C ++ [c], a, b) ∧ vz (C ++ [c]) a b := by
 unfold mT
 rw [jl (by simp; omega) (by simp; omega)]
 simp only [aa, BX l]
 rw [show nY (decide ((0 : Nat) ≤ 1) && decide ((1 : Int) ≤ ((c.Head :: iJ c).length : Int))) = some () by simp [nY]; omega]
 simp only [aa, show Int.toNat 1 = 1 from rfl, List.drop_one, List.tail_cons]
 have m : (iJ c).length ≤ 2 := by unfold iJ; split; simp; split <;> simp
 obtain ⟨a, b, e, k, a2, a3, a4⟩ := AV c ws (C ++ [c]) (fun w => by have := g.EW w; omega) (iJ c) j (fun r => by have := g.EN r; omega)
 refine ⟨a, b, e, fun r x => ?_, fun w x => ?_, fun r => ?_, fun w => ?_⟩
 ·rw [k, g.C5, aI, aA]
  constructor
  ·rintro (h | h)
   ·exact ⟨.inl h.1, h.2⟩
   ·exact ⟨.inr h.1, by rw [h.1]; exact h.2⟩
  ·rintro ⟨h | h, d⟩
   ·exact .inl ⟨h, d⟩
   ·exact .inr ⟨h, by rw [← h]; exact d⟩
 ·rw [a2, g.word, aI, aA]
  constructor
  ·rintro (h | h)
   ·exact ⟨.inl h.1, h.2⟩
   ·exact ⟨.inr h.1, by rw [h.1]; exact ⟨h.2.1, h.2.2.symm⟩⟩
  ·rintro ⟨h | h, d⟩
   ·exact .inl ⟨h, d⟩
   ·subst h; exact .inr ⟨rfl, d.1, d.2.symm⟩
 ·have := a3 r; have := g.EN r; simp; omega
 ·have := a4 w; have := g.EW w; simp; omega
structure MS (C : List gm) (T : kM) (us : List (gl × List gm)) (ws : List (ByteArray × List gm)) (n : Int) : Prop where
 th : lq C T [] n
 cl : ∀ c ∈ C, vY c T []
 FR : vz C us ws
 right : mD C
theorem MS.all {C : List gm} {T : kM} {j : List (gl × List gm)} {ws : List (ByteArray × List gm)} {n : Int} (h : MS C T j ws n) (f : gr) : f ∈ FS T ↔ kl C f := by
 refine ⟨h.th.pK f, fun i => ?_⟩
 induction i with
 | mem c a hk => exact (h.cl c a).1 hk
 | inc c w a hk _ ih => exact (h.cl c a).2.1 hk w ih (by simp)
 | vi c b w a hk _ _ d g => exact (h.cl c a).2.2.1 hk b w d (by simp) g (by simp)
 | both c w a hk _ _ d g => exact (h.cl c a).2.2.2 hk w d (by simp) g (by simp)
theorem Ac (q : Int) (y : 0 ≤ q ∧ q ≤ 1000000000000) : ∀ (l : List gm) {C : List gm} {T : kM} {p : List gr} {A : List (gl × List gm)} {ws : List (ByteArray × List gm)} {n : Int}, lq C T p n → (∀ c ∈ C, vY c T p) → vz C A ws → mD C → C.length + l.length ≤ 1000000 →
  ∃ C' T' a d j, jL q l (mm T) C A ws p n = some (j - q, mm T', C', a, d, [], j) ∧ MS C' T' a d j ∧ (∀ c, c ∈ C' ↔ c ∈ C ∨ (c ∈ l ∧ ib c = true)) ∧ C'.length ≤ C.length + l.length ∧ (∀ f ∈ FS T, f ∈ FS T')
 | [], C, T, p, A, ws, n, g, i, t, r, L => by
  rw [jL]
  have U : lX C := by unfold lX; simp at L; omega
  have a6 := U.sq
  have hlen := g.len
  have a7 := g.E6
  obtain ⟨T', j, e, g', Y, o⟩ := yw U r t (cs := C) jj g i (by rw [oZ]; omega)
  unfold nV
  rw [e]
  simp only [aa]
  have M := g'.len
  have W := g'.num
  rw [ja (by omega) (by omega)]
  exact ⟨C, T', A, ws, j, rfl, ⟨g', Y, t, r⟩, by simp, by simp, o⟩
 | x :: l, C, T, p, A, ws, n, g, i, t, r, L => by
  rw [jL, nO]
  simp only [aB] at L
  obtain ⟨b, hb, u⟩ := CO x C
  simp only [aa, hb, sF]
  by_cases k : ib x = true ∧ x ∉ C
  ·have J : b = false := by cases b with | false => rfl | true => exact absurd (u.1 rfl) k.2
   rw [k.1, J]
   simp only [cT, Bool.and_self, bi]
   obtain ⟨Q, R, Z, U1⟩ := Eo t (by omega) k.1 (mm T) p n
   rw [Z]
   simp only [aa]
   have I : lX (C ++ [x]) := by unfold lX; simp; omega
   have s : mD (C ++ [x]) := fun c v => by
    rcases aI.1 v with h | h
    ·exact r c h
    ·simp at h; subst h; exact k.1
   have g1 : lq (C ++ [x]) T p n := g.mono (fun c v => aS _ v)
   obtain ⟨T2, P, n2, e2, g2, x2, c2⟩ := Du I s g1 (C ++ [x]) Q R (c := x) (by simp)
   rw [e2]
   simp only [aa]
   have w : ∀ c ∈ C ++ [x], vY c T2 P := fun c v => by
    rcases aI.1 v with h | h
    ·exact (i c h).ext x2
    ·simp at h; subst h; exact c2
   obtain ⟨C', T', a, d, j, e, m, G, a2, a3⟩ := Ac q y l g2 w U1 s (by simp; omega)
   refine ⟨C', T', a, d, j, e, m, fun c => ?_, by simp at a2 ⊢; omega, fun f K => a3 f (x2.iM f K)⟩
   rw [G]
   simp only [aI, ak, cc, dV]
   constructor
   ·rintro ((h | h) | h)
    ·exact .inl h
    ·subst h; exact .inr ⟨.inl rfl, k.1⟩
    ·exact .inr ⟨.inr h.1, h.2⟩
   ·rintro (h | ⟨h | h, E⟩)
    ·exact .inl (.inl h)
    ·exact .inl (.inr h)
    ·exact .inr ⟨h, E⟩
  ·have K : (ib x && !b) = false := by
    cases hr : ib x with
    | false => rfl
    | true =>
     have : x ∈ C := cY fun O => k ⟨hr, O⟩
     rw [u.2 this]; rfl
   rw [K]
   simp only [ap, bf]
   obtain ⟨C', T', a, d, j, e, m, G, a2, a3⟩ := Ac q y l g i t r (by omega)
   refine ⟨C', T', a, d, j, e, m, fun c => ?_, by simp; omega, a3⟩
   rw [G, ak]
   constructor
   ·rintro (h | h)
    ·exact .inl h
    ·exact .inr ⟨.inr h.1, h.2⟩
   ·rintro (h | ⟨h | h, E⟩)
    ·exact .inl h
    ·subst h
     exact .inl (cY fun O => k ⟨E, O⟩)
    ·exact .inr ⟨h, E⟩
theorem Es {C : List gm} {T : kM} {g : List (gl × List gm)} {ws : List (ByteArray × List gm)} {n : Int} (h : MS C T g ws n) (l : List gm) (j : C.length + l.length ≤ 1000000) :
  ∃ C' T' a b d, nx (mm T) C g ws [] n l = some (d - n, mm T', C', a, b, [], d) ∧ MS C' T' a b d ∧ (∀ c, c ∈ C' ↔ c ∈ C ∨ (c ∈ l ∧ ib c = true)) ∧ C'.length ≤ C.length + l.length ∧ (∀ f ∈ FS T, f ∈ FS T') := by
 have i : lX C := by unfold lX; omega
 have h1 := h.th.len
 have k := i.sq
 have m := h.th.num
 exact Ac n ⟨by omega, by omega⟩ l h.th h.cl h.FR h.right j
theorem vz.zero : vz [] [] [] := ⟨fun r c => by simp [gQ], fun w c => by simp [gQ], fun r => by simp [gQ], fun w => by simp [gQ]⟩
theorem lq.zero : lq [] [] [] 0 := ⟨by simp, by simp [FS], by simp, by simp, by simp [FS], by simp [FS]⟩
theorem MS.zero : MS [] [] [] [] 0 := ⟨lq.zero, fun c a => (by cases a), vz.zero, fun c a => (by cases a)⟩
theorem Fy (l : List gm) (h : l.length ≤ 1000000) : ∃ C T d ws n, rX l = some (mm T, C, d, ws, [], n) ∧ MS C T d ws n ∧ (∀ c, c ∈ C ↔ c ∈ l ∧ ib c = true) ∧ C.length ≤ l.length := by
 unfold rX
 obtain ⟨C', T', a, b, i, e, m, g, a2, a3⟩ := Es MS.zero l (by simpa using h)
 rw [show nx [] [] [] [] [] 0 l = _ from e]
 exact ⟨C', T', a, b, i, rfl, m, by simpa using g, by simpa using a2⟩
theorem kl.congr {C C' : List gm} (h : ∀ c, c ∈ C ↔ c ∈ C') (f : gr) : kl C f ↔ kl C' f := ⟨fun d => d.mono (fun c a => (h c).1 a), fun d => d.mono (fun c a => (h c).2 a)⟩
def rN (a b : gr) : Bool := nZ a.gl b.gl || (gz a.gl b.gl && kL a.gP b.gP)
theorem vF {a b : gr} : rN a b = true ↔ nZ a.gl b.gl = true ∨ (a.gl = b.gl ∧ kL a.gP b.gP = true) := by simp [rN, gB]
def vr (_ : gr) : Bool := true
theorem y6 : rG (fun a b => rN a b = true) (fun x => vr x = true) := by
 have H := uv (fun _ => True)
 refine ⟨fun x _ => ?_, fun x y z _ _ _ h1 c => ?_, fun x y _ _ => ?_⟩
 ·rw [vF]
  rintro (h | ⟨_, h⟩)
  ·exact H.irrefl _ trivial h
  ·rw [mU] at h; cases h
 ·rw [vF] at *
  rcases h1 with h1 | ⟨g, h1⟩
  ·rcases c with c | ⟨d, c⟩
   ·exact .inl (H.trans _ _ _ trivial trivial trivial h1 c)
   ·exact .inl (by rw [← d]; exact h1)
  ·rcases c with c | ⟨d, c⟩
   ·exact .inl (by rw [g]; exact c)
   ·exact .inr ⟨g.trans d, qm h1 c⟩
 ·simp only [vF]
  rcases H.total x.gl y.gl trivial trivial with h | h | h
  ·exact .inl (.inl h)
  ·rcases nR x.gP y.gP with c | c | c
   ·exact .inl (.inr ⟨h, c⟩)
   ·refine .inr (.inl ?_)
    cases x; cases y; simp at h c; simp [h, c]
   ·exact .inr (.inr (.inr ⟨h.symm, c⟩))
  ·exact .inr (.inr (.inl h))
def vW (P : gr → Prop) (s : List gr) : Prop := s.Pairwise (fun a b => rN a b = true) ∧ ∀ f, f ∈ s ↔ P f
theorem vW.unique {P : gr → Prop} {s t : List gr} (h : vW P s) (k : vW P t) : s = t :=
 lZ.unique (l := s) y6 ⟨h.1, fun x => ⟨fun a => ⟨a, rfl⟩, fun a => a.1⟩⟩ ⟨k.1, fun x => by rw [k.2, h.2]; exact ⟨fun a => ⟨a, rfl⟩, fun a => a.1⟩⟩
theorem Dx (r : gl) (w : ByteArray) : ∀ l : List gr, ∃ b, oO r w l = some b ∧ (b = true ↔ (⟨r, w⟩ : gr) ∈ l)
 | [] => ⟨false, rfl, by simp⟩
 | x :: l => by
  rw [oO]
  simp only [sF, aa]
  obtain ⟨b, e, d⟩ := Dx r w l
  by_cases h : (gz x.gl r && gX x.gP w) = true
  ·rw [ar h]
   have a : x = ⟨r, w⟩ := by
    rw [aD, gB, iE] at h
    cases x; simp at h; simp [h]
   exact ⟨true, rfl, by simp [a]⟩
  ·rw [al h]
   refine ⟨b, e, ?_⟩
   rw [d, ak]
   refine ⟨.inr, fun c => c.resolve_left (fun e => h ?_)⟩
   rw [← e]; simp [ow, oC]
theorem qb (l : List gr) (r : gl) (w : ByteArray) : ∃ b, lO l r w = some b ∧ (b = true ↔ (⟨r, w⟩ : gr) ∈ l) := Dx r w l
def mz (l : List gr) (c : gm) (names : List ByteArray) (w : ByteArray) : Prop :=
 (c.Kind = 1 ∧ c.gP = w) ∨ (c.Kind = 2 ∧ (⟨c.B, w⟩ : gr) ∈ l) ∨ (c.Kind = 4 ∧ (⟨c.B, w⟩ : gr) ∈ l ∧ (⟨c.C, w⟩ : gr) ∈ l) ∨
 (c.Kind ≠ 1 ∧ c.Kind ≠ 2 ∧ c.Kind ≠ 4 ∧ ∃ b ∈ names, (⟨c.B, b⟩ : gr) ∈ l ∧ (⟨⟨b, c.gZ⟩, w⟩ : gr) ∈ l)
theorem xe (l : List gr) (c : gm) (w : ByteArray) : ∀ names : List ByteArray, ∃ b, nQ l c w names = some b ∧ (b = true ↔ ∃ b ∈ names, (⟨c.B, b⟩ : gr) ∈ l ∧ (⟨⟨b, c.gZ⟩, w⟩ : gr) ∈ l)
 | [] => ⟨false, rfl, by simp⟩
 | x :: names => by
  rw [nQ]
  obtain ⟨g, j, h1⟩ := qb l c.B x
  obtain ⟨i, k, d⟩ := qb l ⟨x, c.gZ⟩ w
  obtain ⟨b, e, m⟩ := xe l c w names
  rw [j, k, e]
  simp only [aa, sF]
  by_cases h : (g && i) = true
  ·rw [ar h]
   rw [aD, h1, d] at h
   exact ⟨true, rfl, by simp [h]⟩
  ·rw [al h]
   rw [aD, h1, d] at h
   refine ⟨b, rfl, ?_⟩
   rw [m]
   constructor
   ·rintro ⟨y, a, q⟩; exact ⟨y, by simp [a], q⟩
   ·rintro ⟨y, a, q⟩
    rcases ak.1 a with rfl | a
    ·exact absurd q h
    ·exact ⟨y, a, q⟩
theorem AW (l : List gr) (c : gm) (names : List ByteArray) (w : ByteArray) : ∃ b, oq l c names w = some b ∧ (b = true ↔ mz l c names w) := by
 unfold oq mz
 simp only [uB]
 by_cases h1 : c.Kind = 1
 ·rw [ar (by simp [h1])]; exact ⟨_, rfl, by simp [h1, iE]⟩
 rw [al (by simp [h1])]
 by_cases a : c.Kind = 2
 ·rw [ar (by simp [a])]
  obtain ⟨b, e, g⟩ := qb l c.B w
  exact ⟨b, e, by simp [a, g]⟩
 rw [al (by simp [a])]
 by_cases d : c.Kind = 4
 ·rw [ar (by simp [d])]
  obtain ⟨m, j, h⟩ := qb l c.B w
  obtain ⟨n, k, i⟩ := qb l c.C w
  rw [j, k]
  simp only [aa, sF]
  exact ⟨_, rfl, by simp [d, h, i]⟩
 rw [al (by simp [d])]
 obtain ⟨b, e, g⟩ := xe l c w names
 exact ⟨b, e, by rw [g]; simp [h1, a, d]⟩
theorem mz.pK {C : List gm} {l : List gr} (a : ∀ f ∈ l, kl C f) {c : gm} (d : c ∈ C) (hk : c.Kind = 1 ∨ c.Kind = 2 ∨ c.Kind = 3 ∨ c.Kind = 4) {names : List ByteArray} {w : ByteArray} (h : mz l c names w) : kl C ⟨c.Head, w⟩ := by
 rcases h with ⟨k, rfl⟩ | ⟨k, h⟩ | ⟨k, h1, g⟩ | ⟨i, j, m, b, _, h1, g⟩
 ·exact .mem c d k
 ·exact .inc c w d k (a _ h)
 ·exact .both c w d k (a _ h1) (a _ g)
 ·exact .vi c b w d (by omega) (a _ h1) (a _ g)
theorem xu {c : gm} (h : ib c = true) : c.Kind = 1 ∨ c.Kind = 2 ∨ c.Kind = 3 ∨ c.Kind = 4 := by rcases jG h with h | h | h | h <;> simp [h.1]
structure vp (C : List gm) (out : List gr) : Prop where
 nd : out.Nodup
 pK : ∀ f ∈ out, kl C f
theorem vp.len {C : List gm} {out : List gr} (h : vp C out) : out.length ≤ C.length * C.length := by
 rw [← rW]; exact iO h.nd (fun f a => (h.pK f a).vk)
theorem wG {C : List gm} (r : lX C) (s : mD C) {c : gm} (m : c ∈ C) (names : List ByteArray) : ∀ (l : List ByteArray) (out : List gr) (i : Bool), vp C out →
  ∃ g d, nK c names l out i = some (g, d) ∧ vp C g ∧ (d = true → i = true ∨ out.length < g.length) ∧ (d = false → i = false ∧ g = out ∧ ∀ w ∈ l, mz out c names w → (⟨c.Head, w⟩ : gr) ∈ out) ∧ out.length ≤ g.length
 | [], out, i, h => ⟨out, i, rfl, h, .inl, fun h => ⟨h, rfl, fun _ hw => by cases hw⟩, aJ _⟩
 | w :: l, out, i, h => by
  rw [nK]
  obtain ⟨x, G, h1⟩ := qb out c.Head w
  obtain ⟨E, I, y⟩ := AW out c names w
  rw [G, I]
  simp only [aa, sF]
  by_cases j : (!x && E) = true
  ·rw [ar j]
   rw [aD] at j
   have t : (⟨c.Head, w⟩ : gr) ∉ out := fun L => by have := h1.2 L; rw [this] at j; exact absurd j.1 (by decide)
   have O := h.len
   have M := r.sq
   rw [jl (by simp; omega) (by simp; omega)]
   simp only [aa]
   have J : vp C (out ++ [⟨c.Head, w⟩]) := ⟨aF.2 ⟨h.nd, by simp, fun a K b j e => by simp at j; subst j; subst e; exact t K⟩, fun f k => by
    rcases aI.1 k with k | k
    ·exact h.pK f k
    ·simp at k; subst k; exact (y.1 j.2).pK h.pK m (xu (s c m))⟩
   obtain ⟨g, d, e, n, a2, a3, a4⟩ := wG r s m names l _ true J
   simp at a4
   exact ⟨g, d, e, n, fun _ => .inr (by omega), fun k => (by cases (a3 k).1), by omega⟩
  ·rw [al j]
   obtain ⟨g, d, e, n, a2, a3, a4⟩ := wG r s m names l out i h
   refine ⟨g, d, e, n, a2, fun k => ?_, a4⟩
   obtain ⟨o, p, q⟩ := a3 k
   refine ⟨o, p, fun v u A => ?_⟩
   rcases ak.1 u with rfl | u
   ·refine cY fun t => j ?_
    rw [aD, y.2 A]
    cases x with
    | false => exact ⟨rfl, rfl⟩
    | true => exact absurd (h1.1 rfl) t
   ·exact q v u A
theorem zA {C : List gm} (m : lX C) (n : mD C) (names : List ByteArray) : ∀ (l : List gm) (out : List gr) (a : Bool), (∀ c ∈ l, c ∈ C) → vp C out →
  ∃ b g, oS names l out a = some (b, g) ∧ vp C b ∧ (g = true → a = true ∨ out.length < b.length) ∧ (g = false → a = false ∧ b = out ∧ ∀ c ∈ l, ∀ w ∈ names, mz out c names w → (⟨c.Head, w⟩ : gr) ∈ out) ∧ out.length ≤ b.length
 | [], out, a, _, h => ⟨out, a, rfl, h, .inl, fun h => ⟨h, rfl, fun _ hw => by cases hw⟩, aJ _⟩
 | c :: l, out, a, o, h => by
  rw [oS]
  obtain ⟨v, c1, t, p, a2, a3, a4⟩ := wG m n (o c (by simp)) names names out a h
  rw [t]
  simp only [aa]
  obtain ⟨x, c2, u, q, r, s, K⟩ := zA m n names l v c1 (fun d i => o d (by simp [i])) p
  refine ⟨x, c2, u, q, fun j => ?_, fun j => ?_, by omega⟩
  ·rcases r j with h1 | h1
   ·rcases a2 h1 with k | k
    ·exact .inl k
    ·exact .inr (by omega)
   ·exact .inr (by omega)
  ·obtain ⟨y, A, E⟩ := s j
   obtain ⟨G, I, J⟩ := a3 y
   subst I
   refine ⟨G, A, fun d i => ?_⟩
   rcases ak.1 i with rfl | i
   ·exact J
   ·exact E d i
def zF : gr := ⟨⟨zS, zS⟩, zS⟩
theorem zx (a b : gr) : nk a b = some (rN a b) := by
 unfold nk rN
 simp only [pj, aa, sF, EB]
def EJ (a : List gr) (b : Int) (p : Bool × gr) : Prop := (p.1 = false ∧ b = -1) ∨ (p.1 = true ∧ 0 ≤ b ∧ jK a b = some p.2)
theorem sR (out a : List gr) (i : out.length < 4611686018427387904) : ∀ (rest A : List gr) (b : Int) (p : Bool × gr), a = A ++ rest → EJ a b p →
  ∃ c, kv out a rest A.length b = some c ∧ EJ a c (lA vr rN out.getLast? rest p.1 p.2)
 | [], A, b, p, d, j => ⟨b, rfl, j⟩
 | x :: rest, A, b, p, d, j => by
  rw [kv, lA]
  simp only [vr, dX]
  have h1 : ((if ((out.length : Int) == 0) = true then some true else (jK out (wi0 .i64 ((out.length : Int) - 1))).bind fun y => (nk y x).bind fun r => some r) : Option Bool) = some (out.getLast?.all fun y => rN y x) := by
   rcases cV out with h | ⟨B, z, h⟩
   ·subst h; rfl
   ·subst h
    rw [al (by simp; omega)]
    rw [List.concat_eq_append] at i ⊢
    rw [ux B z (by simp at i; omega)]
    simp [zx]
  have n : ((if decide (b < 0) = true then some true else (jK a b).bind fun y => (nk x y).bind fun r => some r) : Option Bool) = some (!p.1 || rN x p.2) := by
   rcases j with ⟨k, l⟩ | ⟨k, l, m⟩
   ·rw [ar (by simp [l]), k]; rfl
   ·rw [al (by simpa using l), m, k]
    simp [zx]
  rw [h1]
  simp only [aa]
  rw [n]
  simp only [aa, sF]
  have o : jK a (A.length : Int) = some x := by rw [d]; exact oX A x rest _ rfl
  by_cases g : ((out.getLast?.all fun y => rN y x) && (!p.1 || rN x p.2)) = true
  ·rw [ar g, ar g]
   have := sR out a i rest (A ++ [x]) (A.length : Int) (true, x) (by rw [d]; simp) (.inr ⟨rfl, by simp, o⟩)
   simpa using this
  ·rw [al g, al g]
   have := sR out a i rest (A ++ [x]) b p (by rw [d]; simp) j
   simpa using this
theorem wg {out a : List gr} (d : out.length < 4611686018427387904) (h : (lA vr rN out.getLast? a false zF).1 = false) : ∀ wc : List gr, kq a wc out = some out
 | [] => rfl
 | x :: wc => by
  rw [kq]
  obtain ⟨b, e, i⟩ := sR out a d a [] (-1) (false, zF) rfl (.inl ⟨rfl, rfl⟩)
  rw [show kv out a a 0 (-1) = some b from e]
  simp only [aa]
  rcases i with ⟨_, g⟩ | ⟨c, _⟩
  ·rw [al (by simp [g])]; exact wg d h wc
  ·rw [h] at c; cases c
theorem yq (a : List gr) : ∀ (wc : List gr) (out s : List gr), qu 48 vr rN zF a (wc.length + 1) out = some s → s.length < 4611686018427387904 → kq a wc out = some s ∧ out.length ≤ s.length
 | [], out, s, h, i => by
  rw [qu] at h
  cases hp : (lA vr rN out.getLast? a false zF).1 with
  | false =>
   rw [hp] at h
   simp only [cT, bi] at h
   cases h
   exact ⟨rfl, aJ _⟩
  | true =>
   rw [hp] at h
   simp only [bQ, ap, bf] at h
   obtain ⟨o, c, h⟩ := bind_some h
   replace h : qu 48 vr rN zF a 0 o = some s := h
   rw [qu] at h
   cases h
 | x :: wc, out, s, h, i => by
  rw [qu] at h
  cases hp : (lA vr rN out.getLast? a false zF).1 with
  | false =>
   rw [hp] at h
   simp only [cT, bi] at h
   cases h
   exact ⟨wg i hp _, aJ _⟩
  | true =>
   rw [hp] at h
   simp only [bQ, ap, bf] at h
   obtain ⟨o, c, h⟩ := bind_some h
   have g := c
   unfold jh at c
   split at c
   case isFalse => cases c
   cases c
   obtain ⟨m, n⟩ := yq a wc _ s h i
   simp at n
   rw [kq]
   obtain ⟨b, e, l⟩ := sR out a (by omega) a [] (-1) (false, zF) rfl (.inl ⟨rfl, rfl⟩)
   rw [show kv out a a 0 (-1) = some b from e]
   simp only [aa]
   rcases l with ⟨d, _⟩ | ⟨d, j, k⟩
   ·rw [hp] at d; cases d
   ·rw [ar (by simpa using j), k]
    simp only [aa]
    rw [g]
    exact ⟨m, by omega⟩
theorem Ck (l : List gr) (c : l.length ≤ 1000000000) : ∃ s, qO l = some s ∧ vW (fun f => f ∈ l) s := by
 obtain ⟨s, h1, a⟩ := rA y6 (w := 48) (by omega) zF l c (l.length + 1) [] (by simp) (by simp) (fun x b => by cases b) (fun x _ _ => .inr rfl)
 have hlen : s.length ≤ l.length := iO (nX y6 (fun _ _ => rfl) a.1) (fun x b => ((a.2 x).1 b).1)
 exact ⟨s, (yq l l [] s h1 (by omega)).1, a.1, fun f => by rw [a.2]; exact ⟨fun h => h.1, fun h => ⟨h, rfl⟩⟩⟩
theorem wS : ∀ (l : List gm) (acc : List ByteArray), acc.length + 4 * l.length ≤ 1000000000 → mq l acc = qY (acc ++ l.flatMap fun c => [c.gP, c.Head.gF, c.B.gF, c.C.gF])
 | [], acc, _ => by rw [mq]; simp [uB]
 | c :: l, acc, h => by
  rw [mq]
  simp only [aB] at h
  rw [jl (by simp; omega) (by simp; omega)]
  simp only [aa]
  rw [wS l _ (by simp; omega)]
  simp
def SM (C : List gm) : Prop := C.length ≤ 30000
theorem SM.small {C : List gm} (h : SM C) : lX C := by unfold SM at h; unfold lX; omega
theorem SM.sq {C : List gm} (h : SM C) : C.length * C.length ≤ 900000000 := dH h h
theorem CU {C : List gm} (b : SM C) (g : mD C) : ∃ names, nE C = some names ∧ ∀ c ∈ C, c.Kind = 1 → c.gP ∈ names := by
 have d : C.length ≤ 30000 := b
 unfold nE
 rw [wS C [] (by simp; omega)]
 obtain ⟨s, e, i⟩ := AT ([] ++ C.flatMap fun c => [c.gP, c.Head.gF, c.B.gF, c.C.gF]) (by
  have : ∀ l : List gm, (l.flatMap fun c => [c.gP, c.Head.gF, c.B.gF, c.C.gF]).length = 4 * l.length := fun l => by
   induction l with
   | nil => rfl
   | cons x l ih => simp [ih]; omega
  rw [bw, this]; omega)
 refine ⟨s, e, fun c a hk => (i.2 _).2 ⟨?_, ?_⟩⟩
 ·rw [bw]; exact dP.2 ⟨c, a, by simp⟩
 ·rcases jG (g c a) with h | h | h | h
  ·exact h.2.1
  ·exact absurd (hk.symm.trans h.1) (by decide)
  ·exact absurd (hk.symm.trans h.1) (by decide)
  ·exact absurd (hk.symm.trans h.1) (by decide)
theorem Bg {C : List gm} (n : mD C) {names : List ByteArray} (l : ∀ c ∈ C, c.Kind = 1 → c.gP ∈ names) {out : List gr} (h : ∀ c ∈ C, ∀ w ∈ names, mz out c names w → (⟨c.Head, w⟩ : gr) ∈ out) {f : gr} (k : kl C f) : f ∈ out := by
 have hw : ∀ f, kl C f → f.gP ∈ names := fun f k => by
  obtain ⟨c, a, hk, e⟩ := k.AG
  rw [← e]; exact l c a hk
 induction k with
 | mem c a hk => exact h c a _ (l c a hk) (.inl ⟨hk, rfl⟩)
 | inc c w a hk m ih => exact h c a w (hw _ m) (.inr (.inl ⟨hk, ih⟩))
 | vi c b w a hk d j g i => exact h c a w (hw _ j) (.inr (.inr (.inr ⟨by omega, by omega, by omega, b, hw _ d, g, i⟩)))
 | both c w a hk d j g i => exact h c a w (hw _ d) (.inr (.inr (.inl ⟨hk, g, i⟩)))
theorem zq {C : List gm} (a : SM C) (b : mD C) {names : List ByteArray} (g : ∀ c ∈ C, c.Kind = 1 → c.gP ∈ names) : ∀ (m : Nat) (out : List gr), vp C out → C.length * C.length < m + out.length →
  ∃ s, nJ names C m out = some s ∧ vW (kl C) s
 | 0, out, h, hm => by have := h.len; omega
 | m + 1, out, h, hm => by
  rw [nJ]
  obtain ⟨o, c, e, i, a2, a3, a4⟩ := zA a.small b names C out false (fun _ h => h) h
  rw [e]
  simp only [aa, uB]
  cases c with
  | false =>
   simp only [cT, bi]
   obtain ⟨_, j, k⟩ := a3 rfl
   subst j
   have p := h.len
   have n := a.sq
   obtain ⟨s, l, d⟩ := Ck o (by omega)
   exact ⟨s, l, d.1, fun f => (d.2 f).trans ⟨h.pK f, Bg b g k⟩⟩
  | true =>
   simp only [bQ, ap, bf]
   rcases a2 rfl with h1 | h1
   ·cases h1
   ·exact zq a b g m o i (by omega)
theorem D5 (l : List gm) (o : l.length ≤ 30000) : ∃ C s, rV l = some s ∧ vW (kl C) s ∧ ∀ c, c ∈ C ↔ c ∈ l ∧ ib c = true := by
 unfold rV
 obtain ⟨C, e, b⟩ := xU l (by omega)
 have hlen := lP qt b
 have a : SM C := by unfold SM; omega
 have d : mD C := fun c j => ((b.2 c).1 j).2
 obtain ⟨names, g, m⟩ := CU a d
 rw [e]
 simp only [aa]
 rw [g]
 simp only [aa]
 have n := a.sq
 obtain ⟨s, h, i⟩ := zq a d m jj [] ⟨by simp, fun f k => by cases k⟩ (by rw [oZ]; simp; omega)
 exact ⟨C, s, h, i, b.2⟩
theorem rC (r : gl) : ∀ (l : List gr) (acc : List ByteArray), acc.length + l.length ≤ 1000000000 → kJ r l acc = some (acc ++ (l.filter fun f => gz f.gl r).map (·.gP))
 | [], acc, _ => by rw [kJ]; simp
 | x :: l, acc, h => by
  rw [kJ]
  simp only [aB] at h
  by_cases a : gz x.gl r = true
  ·rw [ar a, jl (by simp; omega) (by simp; omega)]
   simp only [aa]
   rw [rC r l _ (by simp; omega)]
   simp [a]
  ·rw [al a, rC r l acc (by omega)]
   simp [a]
theorem BE {l : List ByteArray} (g : l.Nodup) : (iN l).Pairwise (fun a b => kL a b = true) := by
 have h1 : (iN l).Pairwise (fun a b => (!kL b a) = true) := rD (P := fun _ => True) (fun a b c _ _ _ h1 d => by
   simp only [cN] at *
   rcases nR a b with h | h | h
   ·rcases nR b c with k | k | k
    ·exact rj (qm h k)
    ·subst k; exact h1
    ·rw [d] at k; cases k
   ·subst h; exact d
   ·rw [h1] at h; cases h) (fun a b _ _ => by
   rcases nR a b with h | h | h
   ·simp [rj h]
   ·subst h; simp [mU]
   ·simp [rj h]) l (fun _ _ => trivial)
 have d : (iN l).Nodup := by unfold iN; exact (dn l _).nodup_iff.2 g
 refine (h1.and d).imp (fun {a b} h => ?_)
 rcases nR a b with k | k | k
 ·exact k
 ·exact absurd k h.2
 ·have := h.1; rw [k] at this; cases this
theorem Aj {C : List gm} {T : kM} {p : List (gl × List gm)} {ws : List (ByteArray × List gm)} {n : Int} (h : MS C T p ws n) {s : List gr} (g : vW (kl C) s) (m : s.length ≤ 1000000000) (r : gl) : mG s r = some (iN (jY T r)) := by
 unfold mG
 rw [rC r s [] (by simpa using m)]
 congr 1
 rw [bw]
 refine lZ.unique (l := iN (jY T r)) (sa (fun _ => True)) ⟨?_, fun x => ?_⟩ ⟨BE (tu h.th.nd r), fun x => by simp⟩
 ·rw [ct]
  refine (List.Pairwise.filter _ g.1).imp_of_mem (fun {a b} i j c => ?_)
  have h1 := (cx.1 i).2
  have d := (cx.1 j).2
  rw [gB] at h1 d
  rw [vF, h1, d] at c
  rcases c with c | c
  ·exact absurd c ((uv (fun _ => True)).irrefl _ trivial)
  ·exact c.2
 ·rw [pa, aK]
  constructor
  ·rintro ⟨f, k, rfl⟩
   obtain ⟨h1, d⟩ := cx.1 k
   rw [gB] at d
   refine ⟨?_, trivial⟩
   have := (pR h.th.keys f).1 ((h.all f).2 ((g.2 f).1 h1))
   rw [d] at this
   exact this
  ·rintro ⟨o, _⟩
   exact ⟨⟨r, x⟩, cx.2 ⟨(g.2 _).2 ((h.all _).1 ((pR h.th.keys ⟨r, x⟩).2 o)), ow _⟩, rfl⟩
theorem DW {P : gr → Prop} {s t : List gr} (h : vW P s) (b : ∀ f, P f → f ∈ t) : s.length ≤ t.length := iO (nX y6 (fun _ _ => rfl) h.1) (fun f a => b f ((h.2 f).1 a))
theorem DU {C : List gm} {s : List gr} (h : vW (kl C) s) (a : SM C) : s.length ≤ 900000000 := by
 have := DW h (t := vk C) (fun f b => b.vk)
 rw [rW] at this
 have := a.sq
 omega
def qA : gl := ⟨⟨#[97]⟩, ⟨#[114]⟩⟩
def qB : gl := ⟨⟨#[98]⟩, ⟨#[115]⟩⟩
def qd : ByteArray := ⟨#[100]⟩
def j1 : gm := ⟨2, qA, zS, qB, ⟨zS, zS⟩, zS⟩
def j2 : gm := ⟨1, qB, qd, ⟨zS, zS⟩, ⟨zS, zS⟩, zS⟩
theorem F5 : ib j1 = true := by decide +kernel
theorem FH : ib j2 = true := by decide +kernel
theorem FD : qA ≠ qB := fun e => by have := (gB (x := qA) (y := qB)).2 e; revert this; decide +kernel
def fA : gr := ⟨qA, qd⟩
def fB : gr := ⟨qB, qd⟩
theorem CQ {C : List gm} (h : ∀ c, c ∈ C ↔ c = j1 ∨ c = j2) (f : gr) : kl C f ↔ f = fA ∨ f = fB := by
 have d : kl C fB := kl.mem j2 ((h j2).2 (.inr rfl)) rfl
 constructor
 ·intro g
  induction g with
  | mem c a hk =>
   rcases (h c).1 a with rfl | rfl
   ·exact absurd hk (by decide)
   ·exact .inr rfl
  | inc c w a hk _ ih =>
   rcases (h c).1 a with rfl | rfl
   ·rcases ih with ih | ih
    ·exact absurd (aw gr.gl ih) (fun e => FD e.symm)
    ·have := aw gr.gP ih
     simp only at this
     subst this
     exact .inl rfl
   ·exact absurd hk (by decide)
  | vi c b w a hk _ _ _ _ => rcases (h c).1 a with rfl | rfl <;> exact absurd hk (by decide)
  | both c w a hk _ _ _ _ => rcases (h c).1 a with rfl | rfl <;> exact absurd hk (by decide)
 ·rintro (rfl | rfl)
  ·exact kl.inc j1 qd ((h j1).2 (.inl rfl)) rfl d
  ·exact d
theorem FG : fA ≠ fB := fun e => FD (aw gr.gl e)
theorem tW (f : ByteArray → Option Bool) (p : ByteArray → Bool) : ∀ (l : List ByteArray) (i : Nat), (∀ x ∈ l, f x = some (p x)) → ∃ z, jP f l i = some z ∧ (z ≥ 0 ↔ ∃ x ∈ l, p x = true)
 | [], i, _ => ⟨-1, rfl, by simp⟩
 | x :: l, i, h => by
  rw [jP, h x (by simp)]
  simp only [aa]
  cases hp : p x with
  | true => exact ⟨_, rfl, by simp [hp]⟩
  | false =>
   obtain ⟨z, e, b⟩ := tW f p l (i + 1) (fun y a => h y (by simp [a]))
   exact ⟨z, e, by rw [b]; simp [hp]⟩
theorem zB : ∀ (l : List gm) (n r : Int), 0 ≤ n → (∀ c ∈ l, ui c ≤ 1000000000) → n + l.length * 1000000020 ≤ 4000000000000000000 → lu l n = some r → r ≤ n + l.length * 1000000020
 | [], n, r, g, a, b, h => by cases h; simp
 | c :: l, n, r, g, a, b, h => by
  have j := a c (by simp)
  unfold ui at j
  simp only [aB] at b ⊢
  rw [lu] at h
  rw [ja (x := 20 + (c.Head.gF.size : Int)) (by omega) (by omega), ja (x := 20 + (c.Head.gF.size : Int) + (c.Head.gY.size : Int)) (by omega) (by omega), ja (x := 20 + (c.Head.gF.size : Int) + (c.Head.gY.size : Int) + (c.gP.size : Int)) (by omega) (by omega), ja (x := 20 + (c.Head.gF.size : Int) + (c.Head.gY.size : Int) + (c.gP.size : Int) + (c.B.gF.size : Int)) (by omega) (by omega), ja (x := 20 + (c.Head.gF.size : Int) + (c.Head.gY.size : Int) + (c.gP.size : Int) + (c.B.gF.size : Int) + (c.B.gY.size : Int)) (by omega) (by omega), ja (x := 20 + (c.Head.gF.size : Int) + (c.Head.gY.size : Int) + (c.gP.size : Int) + (c.B.gF.size : Int) + (c.B.gY.size : Int) + (c.C.gF.size : Int)) (by omega) (by omega), ja (x := 20 + (c.Head.gF.size : Int) + (c.Head.gY.size : Int) + (c.gP.size : Int) + (c.B.gF.size : Int) + (c.B.gY.size : Int) + (c.C.gF.size : Int) + (c.C.gY.size : Int)) (by omega) (by omega), ja (x := 20 + (c.Head.gF.size : Int) + (c.Head.gY.size : Int) + (c.gP.size : Int) + (c.B.gF.size : Int) + (c.B.gY.size : Int) + (c.C.gF.size : Int) + (c.C.gY.size : Int) + (c.gZ.size : Int)) (by omega) (by omega), ja (by omega) (by omega)] at h
  have := zB l _ r (by omega) (fun d i => a d (by simp [i])) (by omega) h
  omega
theorem Bm (l : List gm) (b : l.length ≤ 10000000) (a : ∀ c ∈ l, ui c ≤ 1000000000) : ∃ r, rI l = some r ∧ 20 * (l.length : Int) ≤ r ∧ r ≤ 100000000000000000 := by
 obtain ⟨r, h, h1⟩ := zc l 0 (by omega) (by omega) a (by omega)
 exact ⟨r, h, by omega, by have := zB l 0 r (by omega) a (by omega) h; omega⟩
def ym (c : gm) (p : gl × ByteArray → Bool) (names : List ByteArray) (w : ByteArray) : Bool :=
 if c.Kind = 1 then gX c.gP w else if c.Kind = 2 then p (c.B, w) else if c.Kind = 4 then p (c.B, w) && p (c.C, w) else names.any fun b => p (c.B, b) && p (⟨b, c.gZ⟩, w)
theorem Cf {f : gl × ByteArray → Option Bool} {p : gl × ByteArray → Bool} (g : ∀ x, f x = some (p x)) (c : gm) (names : List ByteArray) (w : ByteArray) : pD c f names w = some (ym c p names w) := by
 unfold pD ym
 simp only [g, aa, sF]
 by_cases h1 : c.Kind = 1
 ·rw [ar (by simp [h1]), ar h1]
 rw [al (by simp [h1]), al h1]
 by_cases a : c.Kind = 2
 ·rw [ar (by simp [a]), ar a]
 rw [al (by simp [a]), al a]
 by_cases d : c.Kind = 4
 ·rw [ar (by simp [d]), ar d]
 rw [al (by simp [d]), al d]
 unfold mn mW
 obtain ⟨z, e, h⟩ := tW (fun x => mP x f c w) (fun b => p (c.B, b) && p (⟨b, c.gZ⟩, w)) names 0 (fun x _ => by
  unfold mP
  simp only [g, aa, sF])
 rw [e]
 simp only [aa]
 congr 1
 rw [bI, dO]
 simpa using h
theorem uw {f : gl × ByteArray → Option Bool} {p : gl × ByteArray → Bool} (a : ∀ x, f x = some (p x)) (c : gm) (names : List ByteArray) : ∀ (l : List ByteArray) (acc : List gr), acc.length + l.length ≤ 1000000000 →
  lo c f names l acc = some (acc ++ (l.filter (ym c p names)).map fun w => (⟨c.Head, w⟩ : gr))
 | [], acc, _ => by rw [lo]; simp
 | x :: l, acc, h => by
  rw [lo, Cf a]
  simp only [aa, aB] at h ⊢
  cases b : ym c p names x with
  | true =>
   simp only [bi]
   rw [jl (by simp; omega) (by simp; omega)]
   simp only [aa]
   rw [uw a c names l _ (by simp; omega)]
   simp [b]
  | false =>
   simp only [ap, bf]
   rw [uw a c names l acc (by omega)]
   simp [b]
theorem C7 {f : gl × ByteArray → Option Bool} {p : gl × ByteArray → Bool} (a : ∀ x, f x = some (p x)) {c : gm} (d : ib c = true) (l : List ByteArray) (g : l.length ≤ 900000000) :
  ∃ names, xf l names ∧ pT c f l = some (((if c.Kind = 1 then [c.gP] else names).filter (ym c p names)).map fun w => (⟨c.Head, w⟩ : gr)) := by
 obtain ⟨s, e, b⟩ := Et l (by omega)
 refine ⟨s, b, ?_⟩
 have hlen : s.length ≤ l.length := lP (sa _) b
 unfold pT
 rw [nO, d]
 simp only [aa, bQ, ap, bf]
 rw [e]
 simp only [aa]
 by_cases h1 : c.Kind = 1
 ·rw [ar (by simp [h1]), ar h1]
  simp only [aa]
  rw [uw a c s _ [] (by simp)]
  simp
 ·rw [al (by simp [h1]), al h1]
  simp only [aa]
  rw [uw a c s _ [] (by simp; omega)]
  simp
theorem D0 {c : gm} {p : gl × ByteArray → Bool} {out : List gr} (hp : ∀ r w, p (r, w) = true ↔ (⟨r, w⟩ : gr) ∈ out) (s : List ByteArray) (w : ByteArray) : ym c p s w = true ↔ mz out c s w := by
 unfold ym mz
 by_cases h1 : c.Kind = 1
 ·rw [ar h1, iE]
  constructor
  ·intro h; exact .inl ⟨h1, h⟩
  ·rintro (h | h | h | h)
   ·exact h.2
   ·exact absurd (h1.symm.trans h.1) (by decide)
   ·exact absurd (h1.symm.trans h.1) (by decide)
   ·exact absurd h1 h.1
 rw [al h1]
 by_cases a : c.Kind = 2
 ·rw [ar a, hp]
  constructor
  ·intro h; exact .inr (.inl ⟨a, h⟩)
  ·rintro (h | h | h | h)
   ·exact absurd h.1 h1
   ·exact h.2
   ·exact absurd (a.symm.trans h.1) (by decide)
   ·exact absurd a h.2.1
 rw [al a]
 by_cases d : c.Kind = 4
 ·rw [ar d, aD, hp, hp]
  constructor
  ·intro h; exact .inr (.inr (.inl ⟨d, h⟩))
  ·rintro (h | h | h | h)
   ·exact absurd h.1 h1
   ·exact absurd h.1 a
   ·exact h.2
   ·exact absurd d h.2.2.1
 rw [al d, dO]
 constructor
 ·rintro ⟨b, g, h⟩
  rw [aD, hp, hp] at h
  exact .inr (.inr (.inr ⟨h1, a, d, b, g, h⟩))
 ·rintro (h | h | h | h)
  ·exact absurd h.1 h1
  ·exact absurd h.1 a
  ·exact absurd h.1 d
  ·obtain ⟨_, _, _, b, g, h⟩ := h
   exact ⟨b, g, by rw [aD, hp, hp]; exact h⟩
theorem zy {C : List gm} {c : gm} (g : c ∈ C) (m : ib c = true) {out : List gr} (d : ∀ f ∈ out, kl C f) {s : List ByteArray} {w : ByteArray} (h : mz out c s w) : kl C ⟨c.Head, w⟩ := by
 rcases h with ⟨h1, a⟩ | ⟨h1, a⟩ | ⟨h1, a, i⟩ | ⟨h1, a, i, b, _, k, l⟩
 ·subst a; exact .mem c g h1
 ·exact .inc c w g h1 (d _ a)
 ·exact .both c w g h1 (d _ a) (d _ i)
 ·have j : c.Kind = 3 := by
   rcases jG m with h | h | h | h
   ·exact absurd h.1 h1
   ·exact absurd h.1 a
   ·exact h.1
   ·exact absurd h.1 i
  exact .vi c b w g j (d _ k) (d _ l)
theorem BP {c : gm} (a : ib c = true) (hk : c.Kind = 1) : jb c.gP = true := by
 rcases jG a with h | h | h | h
 ·exact h.2.1
 ·exact absurd (hk.symm.trans h.1) (by decide)
 ·exact absurd (hk.symm.trans h.1) (by decide)
 ·exact absurd (hk.symm.trans h.1) (by decide)
theorem mz.own {l : List gr} {c : gm} {names : List ByteArray} {w : ByteArray} (h : mz l c names w) : mz l c (l.map (·.gP)) w := by
 rcases h with h | h | h | ⟨d, g, i, b, _, a, j⟩
 ·exact .inl h
 ·exact .inr (.inl h)
 ·exact .inr (.inr (.inl h))
 ·exact .inr (.inr (.inr ⟨d, g, i, b, aK.2 ⟨_, a, rfl⟩, a, j⟩))
theorem mz.subset {a b : List gr} {c : gm} {names : List ByteArray} {w : ByteArray} (h : mz a c names w) (d : ∀ f ∈ a, f ∈ b) : mz b c names w := by
 rcases h with h | h | h | ⟨i, j, k, g, l, m, n⟩
 ·exact .inl h
 ·exact .inr (.inl ⟨h.1, d _ h.2⟩)
 ·exact .inr (.inr (.inl ⟨h.1, d _ h.2.1, d _ h.2.2⟩))
 ·exact .inr (.inr (.inr ⟨i, j, k, g, l, d _ m, d _ n⟩))
def tot {α : Type} (a : List (List α)) : Nat := (a.map List.length).sum
section
variable {κ γ : Type} [DecidableEq κ] {beq : κ → κ → Bool}
def kh (K : List κ) (g : κ → γ) : List (κ × γ) := K.map fun r => (r, g r)
theorem pE {K : List κ} {g g' : κ → γ} (h : ∀ r ∈ K, g r = g' r) : kh K g = kh K g' := eG fun r a => by rw [h r a]
theorem wx (a : ∀ {x y}, beq x y = true ↔ x = y) (K : List κ) (g : κ → γ) (x : κ) : gQ beq (kh K g) x = if x ∈ K then some (g x) else none := by
 induction K with
 | nil => rfl
 | cons k K ih =>
  show gQ beq ((k, g k) :: kh K g) x = _
  rw [sS, ih]
  by_cases h : x = k
  ·subst h; simp [a]
  ·have : ¬ beq x k = true := fun e => h (a.1 e)
   simp [this, h]
theorem wH (c : ∀ {x y}, beq x y = true ↔ x = y) {K : List κ} (k : K.Nodup) (g : κ → γ) (x : κ) (v : γ) : iQ beq (kh K g) x v = kh (ins beq K x) (fun r => if r = x then v else g r) := by
 by_cases d : x ∈ K
 ·obtain ⟨A, B, rfl⟩ := du d
  have j : ∀ r ∈ A, r ≠ x := fun r a e => by
   subst e
   exact (aF.1 k).2.2 r a r (by simp) rfl
  have m : ∀ r ∈ B, r ≠ x := fun r a e => by
   subst e
   exact (bV.1 (aF.1 k).2.1).1 a
  have l : kh (A ++ x :: B) g = kh A g ++ (x, g x) :: kh B g := by simp [kh]
  rw [l, oG c (fun p hp => by obtain ⟨r, a, rfl⟩ := aK.1 hp; exact j r a)]
  rw [ins, ar ((lN c _ _).2 d)]
  have i : kh (A ++ x :: B) (fun r => if r = x then v else g r) = kh A (fun r => if r = x then v else g r) ++ (x, v) :: kh B (fun r => if r = x then v else g r) := by simp [kh]
  rw [i, pE (K := A) (g' := g) (fun r a => al (j r a)), pE (K := B) (g' := g) (fun r a => al (m r a))]
 ·have b : ∀ r ∈ K, r ≠ x := fun r a e => d (e ▸ a)
  rw [qU c (fun p hp => by obtain ⟨r, a, rfl⟩ := aK.1 hp; exact b r a)]
  rw [ins, al (fun h => d ((lN c _ _).1 h))]
  have i : kh (K ++ [x]) (fun r => if r = x then v else g r) = kh K (fun r => if r = x then v else g r) ++ [(x, v)] := by simp [kh]
  rw [i, pE (K := K) (g' := g) (fun r a => al (b r a))]
end
instance : DecidableEq gl := fun a b => decidable_of_iff (gz a b = true) gB
def jf (l : List gl) (r : gl) : Nat := l.countP fun x => gz x r
def nS (s : List gm) : List gl := s.flatMap iJ
def li (s : List gm) : List gl := s.map (·.Head)
def pg (h n sz : gl → Nat) (r : gl) : gx := ⟨r, h r, n r, sz r⟩
def up (h : gl → Nat) (x : gl) : gl → Nat := fun r => if r = x then h r + 1 else h r
structure sO (K : List gl) (h n : gl → Nat) (m : Nat) : Prop where
 nd : K.Nodup
 z : ∀ r, r ∉ K → h r = 0 ∧ n r = 0
 le : ∀ r, h r ≤ m ∧ n r ≤ m
theorem sO.get {K : List gl} {h n : gl → Nat} {m : Nat} (H : sO K h n m) (sz : gl → Nat) (x : gl) : (iW gz (kh K (pg h n sz)) x (⟨(⟨zS, zS⟩ : gl), 0, 0, 0⟩ : gx)).ke = h x ∧ (iW gz (kh K (pg h n sz)) x (⟨(⟨zS, zS⟩ : gl), 0, 0, 0⟩ : gx)).jg = n x := by
 unfold iW
 rw [wx gB]
 by_cases a : x ∈ K
 ·rw [ar a]; exact ⟨rfl, rfl⟩
 ·rw [al a]
  obtain ⟨h1, b⟩ := H.z x a
  rw [h1, b]; exact ⟨rfl, rfl⟩
theorem sO.F9 {K : List gl} {h n : gl → Nat} {m : Nat} (H : sO K h n m) (x : gl) : sO (ins gz K x) (up h x) n (m + 1) := by
 refine ⟨vC gB H.nd x, fun r a => ?_, fun r => ?_⟩
 ·rw [vI gB, not_or] at a
  rw [up, al a.2]; exact H.z r a.1
 ·have := H.le r
  unfold up
  split <;> omega
theorem sO.F0 {K : List gl} {h n : gl → Nat} {m : Nat} (H : sO K h n m) (x : gl) : sO (ins gz K x) h (up n x) (m + 1) := by
 refine ⟨vC gB H.nd x, fun r a => ?_, fun r => ?_⟩
 ·rw [vI gB, not_or] at a
  rw [up, al a.2]; exact H.z r a.1
 ·have := H.le r
  unfold up
  split <;> omega
theorem ql {a : Nat} (h : a ≤ 1000000000) : wi0 .i64 ((a : Int) + 1) = ((a + 1 : Nat) : Int) := by
 rw [ja (by omega) (by omega)]; omega
section
variable {R10 : (List (gl × (List (ByteArray × Bool)))) × (List gm) × (List (gl × (List gm))) × (List (ByteArray × (List gm))) × (List gr) × Int} {sz : gl → Nat}
theorem EK (c : ∀ r, ∃ q, iS R10.1 R10.2.1 R10.2.2.1 R10.2.2.2.1 R10.2.2.2.2.1 R10.2.2.2.2.2 r = some q ∧ q.length = sz r) : ∀ (a : List gl) (i : Nat) {K : List gl} {h n : gl → Nat} {m : Nat}, 1 ≤ i → sO K h n m → m + a.length ≤ 1000000000 →
  jW R10 a i (kh K (pg h n sz)) = some (kh (a.foldl (ins gz) K) (pg h (fun r => n r + jf a r) sz)) ∧ sO (a.foldl (ins gz) K) h (fun r => n r + jf a r) (m + a.length)
 | [], i, K, h, n, m, g, H, hm => ⟨by rw [jW]; rfl, H⟩
 | x :: a, i, K, h, n, m, g, H, hm => by
  obtain ⟨q, l, j⟩ := c x
  obtain ⟨g1, g2⟩ := H.get sz x
  have H1 := H.F0 x
  obtain ⟨e, H2⟩ := EK c a (i + 1) (by omega) H1 (by simp at hm; omega)
  have k : (fun r => up n x r + jf a r) = fun r => n r + jf (x :: a) r := by
   funext r
   unfold up jf
   rw [cm]
   by_cases b : r = x
   ·subst b; simp only [bi, gB]; omega
   ·have : ¬ gz x r = true := fun e => b (gB.1 e).symm
    simp [b, this]
  rw [k] at e H2
  refine ⟨?_, by rw [cZ]; have := H2; rwa [show m + 1 + a.length = m + (x :: a).length by simp; omega] at this⟩
  rw [jW]
  have d : ((i : Int) == 0) = false := by simp; omega
  rw [d]
  simp only [ap, bf, aa, l, g1, g2]
  rw [wH gB H.nd, cZ, ← e]
  congr 1
  refine pE fun r _ => ?_
  have hle := (H.le x).2
  by_cases b : r = x
  ·subst b
   rw [ar rfl, ql (by simp at hm; omega)]
   simp [pg, up, j]
  ·rw [al b]; simp [pg, up, b]
theorem F2 (b : ∀ r, ∃ q, iS R10.1 R10.2.1 R10.2.2.1 R10.2.2.2.1 R10.2.2.2.2.1 R10.2.2.2.2.2 r = some q ∧ q.length = sz r) (x : gl) (a : List gl) {K : List gl} {h n : gl → Nat} {m : Nat} (H : sO K h n m) (hm : m + 1 + a.length ≤ 1000000000) :
  jW R10 (x :: a) 0 (kh K (pg h n sz)) = some (kh ((x :: a).foldl (ins gz) K) (pg (up h x) (fun r => n r + jf a r) sz)) ∧ sO ((x :: a).foldl (ins gz) K) (up h x) (fun r => n r + jf a r) (m + 1 + a.length) := by
 obtain ⟨q, g, d⟩ := b x
 obtain ⟨g1, g2⟩ := H.get sz x
 have H1 := H.F9 x
 obtain ⟨e, H2⟩ := EK b a 1 (by omega) H1 (by omega)
 refine ⟨?_, H2⟩
 rw [jW]
 simp only [Int.natCast_zero, Int.cast_ofNat_Int, bY, bi, aa, g, g1, g2]
 rw [wH gB H.nd, cZ, ← e]
 congr 1
 refine pE fun r _ => ?_
 have hle := (H.le x).1
 by_cases c : r = x
 ·subst c
  rw [ar rfl, ql (by omega)]
  simp [pg, up, d]
 ·rw [al c]; simp [pg, up, c]
def lL (c : gm) : List gl := c.Head :: iJ c
theorem vq (c : gm) : (iJ c).length ≤ 2 := by unfold iJ; split <;> (try split) <;> simp
theorem FJ (a : ∀ r, ∃ q, iS R10.1 R10.2.1 R10.2.2.1 R10.2.2.2.1 R10.2.2.2.2.1 R10.2.2.2.2.2 r = some q ∧ q.length = sz r) : ∀ (xs : List gm) {K : List gl} {h n : gl → Nat} {m : Nat}, (∀ c ∈ xs, ib c = true) → sO K h n m → m + 3 * xs.length ≤ 1000000000 →
  ∃ K' g, kK R10 xs (kh K (pg h n sz)) = kK R10 [] (kh K' (pg (fun r => h r + jf (li xs) r) (fun r => n r + jf (nS xs) r) sz)) ∧ (∀ r, r ∈ K' ↔ r ∈ K ∨ ∃ c ∈ xs, r ∈ lL c) ∧ sO K' (fun r => h r + jf (li xs) r) (fun r => n r + jf (nS xs) r) g ∧ K'.length ≤ K.length + 3 * xs.length
 | [], K, h, n, m, b, H, hm => ⟨K, m, rfl, fun r => by simp, H, by simp⟩
 | c :: xs, K, h, n, m, b, H, hm => by
  have p := vq c
  simp only [aB] at hm
  obtain ⟨e, H1⟩ := F2 a c.Head (iJ c) H (by omega)
  obtain ⟨K', g, i, hk, H2, l⟩ := FJ a xs (fun c j => b c (.tail _ j)) H1 (by omega)
  have k : (fun r => up h c.Head r + jf (li xs) r) = fun r => h r + jf (li (c :: xs)) r := by
   funext r
   unfold up jf li
   rw [aN, cm]
   by_cases d : r = c.Head
   ·subst d; simp only [bi, gB]; omega
   ·have : ¬ gz c.Head r = true := fun e => d (gB.1 e).symm
    simp [d, this]
  have o : (fun r => n r + jf (iJ c) r + jf (nS xs) r) = fun r => n r + jf (nS (c :: xs)) r := by
   funext r
   unfold jf nS
   rw [cv, List.countP_append]; omega
  rw [k, o] at i H2
  refine ⟨K', g, ?_, fun r => ?_, H2, ?_⟩
  ·conv => lhs; rw [kK]
   rw [BX (b c (.head _)), aa]
   rw [show c.Head :: iJ c = c.Head :: iJ c from rfl, e, aa, i]
  ·rw [hk, uF]
   simp [lL, or_assoc]
  ·have := sk (c.Head :: iJ c) K
   simp only [aB] at this ⊢
   omega
end
theorem yx {lt : gx → gx → Prop} (c : ∀ x, ¬ lt x x) (has : ∀ x y z, lt x y → lt y z → lt x z) : ∀ {a b : List gx}, a.Perm b → a.Pairwise lt → b.Pairwise lt → a = b
 | [], b, h, _, _ => (List.nil_perm.1 h).symm
 | x :: a, b, h, j, k => by
  cases b with
  | nil => exact absurd (List.perm_nil.1 h) (by simp)
  | cons y b =>
   have g : x = y := by
    have d : x ∈ y :: b := h.mem_iff.1 (.head _)
    have i : y ∈ x :: a := h.mem_iff.2 (.head _)
    rcases ak.1 d with e | d
    ·exact e
    rcases ak.1 i with e | i
    ·exact e.symm
    exact absurd (has _ _ _ ((bT.1 j).1 y i) ((bT.1 k).1 x d)) (c _)
   subst g
   rw [yx c has ((List.perm_cons x).1 h) (bT.1 j).2 (bT.1 k).2]
theorem DZ {K S : List gl} (A : K.Nodup) (E : S.Pairwise (fun a b => nZ a b = true)) (hm : ∀ r, r ∈ K ↔ r ∈ S) (h n sz : gl → Nat) (J : K.length ≤ 1000000000) :
  vN 56 (fun (x : (gx × gx)) => iR x.1 x.2) (kh K (pg h n sz)) = some (S.map (pg h n sz)) := by
 unfold vN
 rw [ar (by simp only [kh, bN]; exact ⟨by omega, bk J (by decide)⟩)]
 refine wZ fun o k => ?_
 have l : (kh K (pg h n sz)).map (·.2) = K.map (pg h n sz) := by simp [kh, db]
 rw [l] at k
 have j : ∀ x y : gx, ∃ c, iR x y = some c ∧ (c < 0 ↔ nZ x.gl y.gl = true) := fun x y => by
  obtain ⟨c, e, s⟩ := rT x.gl y.gl
  exact ⟨c, by rw [iR, e]; rfl, s⟩
 have m : ∀ x ∈ o, x = pg h n sz x.gl := fun x v => by
  obtain ⟨r, _, rfl⟩ := aK.1 (k.mem_iff.1 v); rfl
 have g := uv (fun _ => True)
 have d : ∀ x y : gx, mx (fun (x : (gx × gx)) => iR x.1 x.2) x y = nZ x.gl y.gl := fun x y => by
  obtain ⟨c, e, s⟩ := j x y
  unfold mx
  simp only [e]
  rw [bI, ← s]; simp
 have ok : tR (fun (x : (gx × gx)) => iR x.1 x.2) o := by
  refine ⟨fun x _ y _ => ?_, fun x _ => ?_, fun x _ y _ z _ => ?_, fun x v y L h1 i => ?_, by rw [k.length_eq]; simp; omega⟩
  ·obtain ⟨c, e, _⟩ := j x y; exact ⟨c, e⟩
  ·rw [d, dA]; exact g.irrefl _ trivial
  ·rw [d, d, d]; exact g.trans _ _ _ trivial trivial trivial
  ·rw [d] at h1 i
   rcases g.total x.gl y.gl trivial trivial with h | h | h
   ·rw [h1] at h; cases h
   ·rw [m x v, m y L, h]
   ·rw [i] at h; cases h
 rw [Ad ok]
 congr 1
 have hp : (lE (fun (x : (gx × gx)) => iR x.1 x.2) o).Perm o := dn _ _
 have p : K.Perm S := (List.perm_ext_iff_of_nodup A (E.imp (fun {a b} h e => by subst e; exact g.irrefl a trivial h))).2 hm
 refine yx (lt := fun a b => nZ a.gl b.gl = true) (fun x => g.irrefl _ trivial) (fun x y z => g.trans _ _ _ trivial trivial trivial) (hp.trans (k.trans (p.map _))) ?_ (by rw [ct]; exact E)
 have t : (lE (fun (x : (gx × gx)) => iR x.1 x.2) o).Nodup := by
  rw [(hp.trans k).nodup_iff, List.Nodup, ct]
  exact A.imp (fun {a b} q e => q (aw gx.gl e))
 have u : (lE (fun (x : (gx × gx)) => iR x.1 x.2) o).Pairwise (fun a b => (!mx (fun (x : (gx × gx)) => iR x.1 x.2) b a) = true) := by
  refine rD (P := fun _ => True) (fun a b c _ _ _ h1 i => ?_) (fun a b _ _ => ?_) o (fun _ _ => trivial)
  ·rw [d] at h1 i ⊢
   rw [cN, dA] at h1 i ⊢
   intro w
   rcases g.total b.gl c.gl trivial trivial with h | h | h
   ·exact h1 (g.trans _ _ _ trivial trivial trivial h w)
   ·rw [h] at h1; exact h1 w
   ·exact i h
  ·rw [d, d]
   cases h1 : nZ b.gl a.gl with
   | false => simp
   | true =>
    cases i : nZ a.gl b.gl with
    | false => simp
    | true => exact absurd (g.trans _ _ _ trivial trivial trivial h1 i) (g.irrefl _ trivial)
 refine (u.and t).imp_of_mem (fun {a b} G I h => ?_)
 rw [d, cN, dA] at h
 rcases g.total a.gl b.gl trivial trivial with h1 | h1 | h1
 ·exact h1
 ·refine absurd ?_ h.2
  rw [m a (hp.mem_iff.1 G), m b (hp.mem_iff.1 I), h1]
 ·exact absurd h1 h.1
theorem CX {c : gm} (h : ib c = true) : pU c = some (lL c) := by
 unfold pU lL iJ
 rw [qj, h]
 simp only [aa, bQ, ap, bf]
 by_cases h1 : c.Kind = 1
 ·simp [h1]
 ·by_cases a : c.Kind = 4
  ·simp [a]
  ·simp [h1, a]
theorem DF (r : gl) (d : gx) : ∀ (xs : List gm) (h n : Nat), (∀ c ∈ xs, ib c = true) → h + xs.length ≤ 1000000000 → n + 2 * xs.length ≤ 1000000000 →
  jV r xs (⟨d.gl, (h : Int), (n : Int), d.oI⟩ : gx) = some (⟨d.gl, ((h + jf (li xs) r : Nat) : Int), ((n + jf (nS xs) r : Nat) : Int), d.oI⟩ : gx)
 | [], h, n, _, _, _ => by rw [jV]; rfl
 | c :: xs, h, n, k, w, x => by
  simp only [aB] at w x
  have hk := xu (k c (.head _))
  have s : jf (li (c :: xs)) r = jf (li xs) r + (if gz c.Head r = true then 1 else 0) := by
   unfold jf li
   rw [aN, cm]
  have t : jf (nS (c :: xs)) r = jf (iJ c) r + jf (nS xs) r := by
   unfold jf nS
   rw [cv, List.countP_append]
  have u : jf (iJ c) r = (if (decide (c.Kind > 1) && gz c.B r) = true then 1 else 0) + (if ((c.Kind == 4) && gz c.C r) = true then 1 else 0) := by
   unfold jf iJ
   by_cases h1 : c.Kind = 1
   ·simp [h1]
   ·by_cases j : c.Kind = 4
    ·rw [al h1, ar j, cm, cm, List.countP_nil]
     simp [j]; omega
    ·have : c.Kind > 1 := by omega
     rw [al h1, al j, cm, List.countP_nil]
     simp [this, j]
  rw [jV]
  have key : ∀ (g i : Nat), g ≤ h + 1 → i ≤ n + 2 → jV r xs (⟨d.gl, (g : Int), (i : Int), d.oI⟩ : gx) = some (⟨d.gl, ((g + jf (li xs) r : Nat) : Int), ((i + jf (nS xs) r : Nat) : Int), d.oI⟩ : gx) := fun g i a b => DF r d xs g i (fun c v => k c (.tail _ v)) (by omega) (by omega)
  rw [s, t, u]
  have w1 : wi0 .i64 ((h : Int) + 1) = ((h + 1 : Nat) : Int) := ql (by omega)
  have w2 : wi0 .i64 ((n : Int) + 1) = ((n + 1 : Nat) : Int) := ql (by omega)
  have y : wi0 .i64 (((n + 1 : Nat) : Int) + 1) = ((n + 2 : Nat) : Int) := ql (by omega)
  generalize gz c.Head r = q
  generalize decide (c.Kind > 1) = l
  generalize (c.Kind == 4) = m
  generalize gz c.B r = o
  generalize gz c.C r = p
  cases q <;> cases l <;> cases m <;> cases o <;> cases p <;> simp only [ap, bf, bi, aa, w1, w2, y, Bool.and_true, Bool.and_false, dX, Bool.false_and, Bool.and_self] <;> rw [key _ _ (by omega) (by omega)] <;> congr 3 <;> omega
theorem Dz {F : List gr} {s : List gm} {sz : gl → Nat} (g : ∀ c ∈ s, ib c = true) (j : s.length ≤ 100000000) (a : ∀ r, ∃ q, mG F r = some q ∧ q.length = sz r) : ∀ (b : List gl) (acc : List gx), acc.length + b.length ≤ 1000000000 →
  ly F s b acc = some (acc ++ b.map (pg (jf (li s)) (jf (nS s)) sz))
 | [], acc, _ => by rw [ly]; simp
 | r :: b, acc, h => by
  simp only [aB] at h
  obtain ⟨q, i, d⟩ := a r
  rw [ly, i]
  simp only [aa]
  rw [show (⟨r, 0, 0, (q.length : Int)⟩ : gx) = ⟨(⟨r, 0, 0, (q.length : Int)⟩ : gx).gl, ((0 : Nat) : Int), ((0 : Nat) : Int), (⟨r, 0, 0, (q.length : Int)⟩ : gx).oI⟩ from rfl, DF r _ s 0 0 g (by omega) (by omega)]
  simp only [aa, dI]
  rw [jl (by simp; omega) (by simp; omega), aa, Dz g j a b _ (by simp; omega), ay, d]
  rfl
theorem DJ {F : List gr} {s : List gm} : ∀ (xs : List gm) (acc : List gl), (∀ c ∈ xs, ib c = true) → acc.length + 3 * xs.length ≤ 1000000000 → kG F s xs acc = kG F s [] (acc ++ xs.flatMap lL)
 | [], acc, _, _ => by simp
 | c :: xs, acc, a, d => by
  simp only [aB] at d
  have g := vq c
  have h : (lL c).length ≤ 3 := by simp [lL]; omega
  conv => lhs; rw [kG]
  rw [CX (a c (.head _)), aa, jl (by omega) (by omega), aa, DJ xs _ (fun c b => a c (.tail _ b)) (by simp; omega), ay, cv]
theorem Au {c : gm} (h : ib c = true) : ∀ r ∈ lL c, iA r = true := by
 unfold ib at h
 rw [aD] at h
 obtain ⟨i, h⟩ := h
 intro r a
 rcases ak.1 a with rfl | a
 ·exact i
 unfold iJ at a
 by_cases h1 : c.Kind = 1
 ·simp [h1] at a
 ·by_cases b : c.Kind = 4
  ·simp [b] at a h
   rcases a with rfl | rfl
   ·exact h.1.1.1.1
   ·exact h.1.1.1.2
  ·rw [al h1, al b, aA] at a
   subst a
   by_cases d : c.Kind = 2
   ·simp [d] at h; exact h.1.1.1
   ·by_cases g : c.Kind = 3
    ·simp [g] at h; exact h.1.1.1.1
    ·simp [h1, d, g, b] at h
theorem xq : ∀ s : List gm, (s.flatMap lL).length ≤ 3 * s.length
 | [] => by simp
 | c :: s => by
  have h1 := vq c
  have a := xq s
  have b : (lL c).length = 1 + (iJ c).length := by simp [lL]; omega
  rw [cv, an, aB]
  omega
structure F4 (l : List gm) (s : List gm) (S : List gl) (sz : gl → Nat) : Prop where
 set : tI l s
 FK : S.Pairwise (fun a b => nZ a b = true)
 mem : ∀ r, r ∈ S ↔ ∃ c ∈ s, r ∈ lL c
 size : ∀ r, ∃ L : List ByteArray, L.Nodup ∧ sz r = L.length ∧ ∀ w, w ∈ L ↔ kl s ⟨r, w⟩
def qI (s : List gm) (S : List gl) (sz : gl → Nat) : List gx := S.map (pg (jf (li s)) (jf (nS s)) sz)
theorem uy (l : List gm) (Y : l.length ≤ 30000) : ∃ s S sz, F4 l s S sz ∧ s.length ≤ l.length ∧ S.length ≤ 3 * l.length ∧ jT l = some (qI s S sz) ∧ mL l = some (qI s S sz) ∧ mX l = some s ∧ lD l = some s := by
 obtain ⟨s, J, j⟩ := EH l (by omega)
 obtain ⟨s2, L, G⟩ := xU l (by omega)
 obtain rfl : s2 = s := lZ.unique qt G j
 obtain ⟨C, T, I, ws, n, O, m1, d, y⟩ := Fy l (by omega)
 obtain ⟨C2, F, P, g, p⟩ := D5 l Y
 have x : ∀ c, c ∈ C2 ↔ c ∈ C := fun c => by rw [d, p]
 have M : vW (kl C) F := ⟨g.1, fun f => (g.2 f).trans (kl.congr x f)⟩
 have i : SM C := by unfold SM; omega
 have a1 := DU M i
 have k : ∀ c ∈ s2, ib c = true := fun c v => ((j.2 c).1 v).2
 have b : s2.length ≤ l.length := lP qt j
 have A : ∀ r, ∃ q, iS (mm T) C I ws [] n r = some q ∧ q.length = (iN (jY T r)).length := fun r => ⟨_, uu i.small m1.right m1.th C I ws [] n r, rfl⟩
 have E : ∀ r, ∃ q, mG F r = some q ∧ q.length = (iN (jY T r)).length := fun r => ⟨_, Aj m1 M (by omega) r, rfl⟩
 have W : (s2.flatMap lL).length ≤ 3 * s2.length := by
  exact xq s2
 obtain ⟨S, Q, o⟩ := DO (s2.flatMap lL) (by omega)
 have a : ∀ r, r ∈ S ↔ ∃ c ∈ s2, r ∈ lL c := fun r => by
  rw [o.2, dP]
  exact ⟨fun h => h.1, fun h => ⟨h, let ⟨c, v, Z⟩ := h; Au (k c v) r Z⟩⟩
 have u : S.length ≤ 3 * l.length := bk (lP (uv _) o) (by omega)
 refine ⟨s2, S, fun r => (iN (jY T r)).length, ⟨j, o.1, a, fun r => ⟨iN (jY T r), (dR (by unfold iN; exact dn _ _)).2 (tu m1.th.nd r), rfl, fun w => by
  rw [pa, ← pR (f := ⟨r, w⟩) m1.th.keys, m1.all]
  exact kl.congr (fun c => by rw [d, j.2]) _⟩⟩, b, u, ?_, ?_, J, L⟩
 ·unfold jT
  rw [J, aa, O, aa]
  obtain ⟨K', m', R, U, H, t⟩ := FJ (R10 := (mm T, C, I, ws, [], n)) A s2 (K := []) (h := fun _ => 0) (n := fun _ => 0) (m := 0) k ⟨by simp, fun r _ => ⟨rfl, rfl⟩, fun r => ⟨aJ _, aJ _⟩⟩ (by omega)
  rw [show ([] : List (gl × gx)) = kh [] (pg (fun _ => 0) (fun _ => 0) fun r => (iN (jY T r)).length) from rfl, R, kK, jr, aa]
  rw [DZ H.nd o.1 (fun r => by rw [U, a]; simp) _ _ _ (by simp at t; omega), aa]
  simp only [dI]
  rfl
 ·unfold mL
  rw [L, aa, P, aa, DJ s2 [] k (by simp; omega), bw, kG, Q, aa, Dz k (by omega) E S [] (by simp; omega)]
  rfl
def uh : List gx → gx → gx
 | [], b => b
 | x :: xs, b => if x.jg > b.jg then uh xs x else uh xs b
theorem xM : ∀ (xs : List gx) (b : gx), kW xs b = some (uh xs b, true)
 | [], b => rfl
 | x :: xs, b => by
  rw [kW, uh]
  by_cases h : x.jg > b.jg
  ·rw [ar (by simpa using h), ar h, xM]
  ·rw [al (by simpa using h), al h, xM]
theorem xS (l : List gm) : ∀ (B A : List gx) (b : gx), A ≠ [] → ∃ k, iT (A ++ B) l B A.length b = iT (A ++ B) l [] k (uh B b)
 | [], A, b, _ => ⟨_, rfl⟩
 | x :: B, A, b, g => by
  have a : jK (A ++ x :: B) ((A.length : Nat) : Int) = some x := by simp [jK]
  have d : ((A.length : Int) == 0) = false := by
   have : A.length ≠ 0 := fun e => g (bl.1 e)
   simp; omega
  obtain ⟨k, e⟩ := xS l B (A ++ [x]) x (by simp)
  obtain ⟨i, c⟩ := xS l B (A ++ [x]) b (by simp)
  simp only [ay, dx, an, cW] at e c
  conv => enter [1, k]; lhs; rw [iT]
  simp only [a, aa, d, pV.2 rfl, bQ, ap, bf, uh]
  by_cases h : x.jg > b.jg
  ·simp only [h, decide_true, bi]; exact ⟨k, e⟩
  ·simp only [h, decide_false, ap, bf]; exact ⟨i, c⟩
def nl (s : List gm) (r : gl) : Bool := s.all fun c => !(gz c.Head r) || c.Kind == 1
def rK (s : List gm) (w : gx) : Bool := decide (w.ke > 0) && (w.jg == 0) && nl s w.gl
theorem AN (w : gx) : ∀ (xs : List gm) (b : Bool), kY w xs b = some (b && nl xs w.gl)
 | [], b => by rw [kY]; simp [nl]
 | c :: xs, b => by
  rw [kY]
  have e : nl (c :: xs) w.gl = ((!(gz c.Head w.gl) || c.Kind == 1) && nl xs w.gl) := rfl
  rw [e]
  cases b <;> cases gz c.Head w.gl <;> cases (c.Kind == 1) <;> simp [AN]
theorem xP (l s : List gm) (a : lD l = some s) : ∀ (ws : List gx) (acc : List gl), acc.length + ws.length ≤ 1000000000 → kw l ws acc = some (acc ++ (ws.filter (rK s)).map (·.gl))
 | [], acc, _ => by rw [kw]; simp
 | w :: ws, acc, c => by
  simp only [aB] at c
  rw [kw, a]
  simp only [aa, AN, dX]
  rw [cR]
  have e : rK s w = (decide (w.ke > 0) && (w.jg == 0) && nl s w.gl) := rfl
  have b : (jh 32 acc [w.gl]) = some (acc ++ [w.gl]) := jl (by simp; omega) (by simp; omega)
  have i1 := xP l s a ws (acc ++ [w.gl]) (by simp; omega)
  have i2 := xP l s a ws acc (by omega)
  rw [e]
  cases decide (w.ke > 0) <;> cases (w.jg == 0) <;> cases nl s w.gl <;> simp [b, i1, i2]
def pI (s : List gm) (r : gl) : Nat := s.countP fun c => gz c.Head r && (c.Kind == 1)
theorem Fm (s : List gm) (r : gl) : pI s r ≤ jf (li s) r := by
 unfold pI jf li
 rw [List.countP_map]
 exact List.countP_mono_left fun c _ h => by simp at h ⊢; exact h.1
theorem Ae (r : gl) : ∀ s : List gm, (pI s r = jf (li s) r) ↔ nl s r = true
 | [] => by simp [pI, jf, li, nl]
 | c :: s => by
  have h1 := Fm s r
  have ih := Ae r s
  have a : pI (c :: s) r = pI s r + (if (gz c.Head r && (c.Kind == 1)) = true then 1 else 0) := by unfold pI; rw [cm]
  have b : jf (li (c :: s)) r = jf (li s) r + (if gz c.Head r = true then 1 else 0) := by unfold jf li; rw [aN, cm]
  have d : nl (c :: s) r = ((!(gz c.Head r) || c.Kind == 1) && nl s r) := rfl
  rw [a, b, d]
  cases gz c.Head r <;> cases (c.Kind == 1) <;> simp <;> first | exact ih | omega
theorem zO (l : List gm) : ∀ (xs : List gm) (K : List gl) (f : gl → Nat) (m : Nat), K.Nodup → (∀ r, r ∉ K → f r = 0) → (∀ r, f r ≤ m) → m + xs.length ≤ 1000000000 →
  ∃ K' : List gl, (∀ r, r ∉ K' → f r + pI xs r = 0) ∧ jv l xs (kh K (fun r => (f r : Int))) = jv l [] (kh K' (fun r => ((f r + pI xs r : Nat) : Int)))
 | [], K, f, m, d, b, _, _ => ⟨K, fun r a => by simp [b r a, pI], rfl⟩
 | c :: xs, K, f, m, d, b, hm, j => by
  simp only [aB] at j
  by_cases hk : c.Kind = 1
  ·obtain ⟨K', h1, g⟩ := zO l xs (ins gz K c.Head) (up f c.Head) (m + 1) (vC gB d c.Head) (fun r a => by
    rw [vI gB, not_or] at a
    rw [up, al a.2]; exact b r a.1) (fun r => by have := hm r; unfold up; split <;> omega) (by omega)
   have e : ∀ r, up f c.Head r + pI xs r = f r + pI (c :: xs) r := fun r => by
    unfold up pI
    rw [cm]
    by_cases a : r = c.Head
    ·subst a; simp [hk, gB.2]; omega
    ·have : ¬ gz c.Head r = true := fun e => a (gB.1 e).symm
     simp [a, this]
   refine ⟨K', fun r a => by rw [← e]; exact h1 r a, ?_⟩
   conv => lhs; rw [jv]
   rw [ar (by simp [hk])]
   have i : iW gz (kh K (fun r => (f r : Int))) c.Head 0 = f c.Head := by
    unfold iW
    rw [wx gB]
    by_cases h : c.Head ∈ K
    ·rw [ar h]; rfl
    ·rw [al h, b _ h]; rfl
   have k := hm c.Head
   rw [i, ql (by omega), wH gB d]
   rw [show (kh (ins gz K c.Head) fun r => if r = c.Head then ((f c.Head + 1 : Nat) : Int) else (f r : Int)) = kh (ins gz K c.Head) (fun r => ((up f c.Head r : Nat) : Int)) from pE fun r _ => by
    unfold up; by_cases h : r = c.Head <;> simp [h], g]
   rw [show (fun r => ((up f c.Head r + pI xs r : Nat) : Int)) = fun r => ((f r + pI (c :: xs) r : Nat) : Int) from funext fun r => by rw [e]]
  ·obtain ⟨K', h1, g⟩ := zO l xs K f m d b hm (by omega)
   have e : ∀ r, pI (c :: xs) r = pI xs r := fun r => by
    unfold pI
    rw [cm]; simp [hk]
   refine ⟨K', fun r a => by rw [e]; exact h1 r a, ?_⟩
   conv => lhs; rw [jv]
   rw [al (by simp [hk]), g]
   simp only [e]
theorem zP (s : List gm) {K : List gl} {f : gl → Nat} (b : ∀ r, f r = pI s r) (c : ∀ r, r ∉ K → f r = 0) : ∀ (ws : List gx) (acc : List gl), (∀ w ∈ ws, w.ke = (jf (li s) w.gl : Nat)) → acc.length + ws.length ≤ 1000000000 →
  kx (kh K (fun r => (f r : Int))) ws acc = some (acc ++ (ws.filter (rK s)).map (·.gl))
 | [], acc, _, _ => by rw [kx]; simp
 | w :: ws, acc, hw, i => by
  simp only [aB] at i
  have g : iW gz (kh K (fun r => (f r : Int))) w.gl 0 = pI s w.gl := by
   unfold iW
   rw [wx gB, ← b]
   by_cases h : w.gl ∈ K
   ·rw [ar h]; rfl
   ·rw [al h, c _ h]; rfl
  have hp : ((pI s w.gl : Int) == w.ke) = nl s w.gl := by
   rw [hw w (.head _), bI, ← Ae, fT]; exact Int.ofNat_inj
  rw [kx, g, hp]
  rw [cR]
  have e : rK s w = (decide (w.ke > 0) && (w.jg == 0) && nl s w.gl) := rfl
  have d : (jh 32 acc [w.gl]) = some (acc ++ [w.gl]) := jl (by simp; omega) (by simp; omega)
  have i1 := zP s b c ws (acc ++ [w.gl]) (fun w a => hw w (.tail _ a)) (by simp; omega)
  have i2 := zP s b c ws acc (fun w a => hw w (.tail _ a)) (by omega)
  rw [e]
  cases decide (w.ke > 0) <;> cases (w.jg == 0) <;> cases nl s w.gl <;> simp [d, i1, i2]
theorem zk (l : List gm) {s : List gm} {S : List gl} {sz : gl → Nat} (b : mX l = some s) (d : s.length ≤ 30000) (c : S.length ≤ 100000) (hw : jT l = some (qI s S sz)) : kI l = some (((qI s S sz).filter (rK s)).map (·.gl)) := by
 unfold kI
 rw [b, aa]
 obtain ⟨K', h1, a⟩ := zO l s [] (fun _ => 0) 0 (by simp) (fun _ _ => rfl) (fun _ => aJ _) (by omega)
 rw [show ([] : List (gl × Int)) = kh [] (fun r => (((fun _ => 0) r : Nat) : Int)) from rfl, a, jv, hw, aa]
 rw [zP s (f := fun r => 0 + pI s r) (fun r => by omega) h1 (qI s S sz) [] (fun w hw => by obtain ⟨r, _, rfl⟩ := aK.1 hw; rfl) (by simp [qI]; omega)]
 rfl
theorem DY (l : List gm) {s : List gm} {S : List gl} {sz : gl → Nat} (a : lD l = some s) (b : S.length ≤ 100000) (hw : mL l = some (qI s S sz)) : oK l = some (((qI s S sz).filter (rK s)).map (·.gl)) := by
 unfold oK
 rw [hw, aa, xP l s a _ [] (by simp [qI]; omega)]
 rfl
theorem Dj {α : Type} {b : Bool} (h : b = true) (k : Unit → Option α) : (nY b).bind k = k () := by subst h; rfl
def xl : List gx → gx × Bool
 | [] => ((⟨(⟨zS, zS⟩ : gl), 0, 0, 0⟩ : gx), false)
 | x :: xs => (uh xs x, true)
theorem AZ (l : List gm) {ws : List gx} (hw : jT l = some ws) (b : ws.length ≤ 1000000000) : nr l = some (xl ws) := by
 unfold nr
 rw [hw, aa]
 cases ws with
 | nil => rfl
 | cons x xs =>
  have a : (((x :: xs).length : Int) == 0) = false := by simp; omega
  rw [a]
  simp only [ap, bf]
  rw [show jK (x :: xs) 0 = some x from rfl, aa]
  refine (Dj (by simp; omega) _).trans (xM xs x)
theorem xn (t : oP = some true) (l : List gm) (w : l.length ≤ 10000000) (r : ∀ c ∈ l, ui c ≤ 1000000000) : nL l = some true := by
 unfold nL
 rw [t]
 simp only [aa, bQ, ap, bf]
 obtain ⟨g, u, v, _⟩ := Bm l w r
 rw [u]
 simp only [aa]
 by_cases d : g > 1200
 ·rw [ar (by simpa using d)]
 ·rw [al (by simpa using d)]
  have n : l.length ≤ 60 := by omega
  obtain ⟨s, S, sz, E, y, q, h, j, o, p⟩ := uy l (by omega)
  rw [h, j]
  simp only [aa, bne_self_eq_false, ap, bf]
  have i : (qI s S sz).length ≤ 1000000000 := by simp [qI]; omega
  have m := AZ l h i
  have a : ∀ k b, b = (xl (qI s S sz)).1 → iT (qI s S sz) l [] k b = some true := by
   rintro k b rfl
   rw [iT, m]
   simp only [aa, pV.2 rfl, bi]
   rw [zk l o (by omega) (by omega) h, DY l p (by omega) j]
   have : ((xl (qI s S sz)).2 == decide (((qI s S sz).length : Int) > 0)) = true := by
    cases qI s S sz with
    | nil => rfl
    | cons x xs => simp [xl]
   rw [this]
   simp only [aa, bi]
   rw [Fp]
   rfl
  generalize A : qI s S sz = ws at a m ⊢
  cases ws with
  | nil => exact a _ _ rfl
  | cons x xs =>
   rw [iT]
   rw [show jK (x :: xs) ((0 : Nat) : Int) = some x from rfl]
   simp only [aa, pV.2 rfl, bQ, ap, bf]
   obtain ⟨k, e⟩ := xS l xs [x] x (by simp)
   simp only [Int.natCast_zero, Int.cast_ofNat_Int, bY, bi, aa]
   rw [show (0 + 1 : Nat) = [x].length from rfl]
   exact e.trans (a _ _ rfl)
open Classical in
noncomputable def rL (had : List gr) (c : gm) (N : List ByteArray) (w : ByteArray) : Bool := decide (mz had c N w)
theorem so {a : List gr} {c : gm} {N : List ByteArray} {w : ByteArray} : rL a c N w = true ↔ mz a c N w := by unfold rL; simp
noncomputable def pL (b : List gr) (N : List ByteArray) (c : gm) : List ByteArray → List gr → List gr
 | [], a => a
 | w :: ws, a => pL b N c ws (if (rL b c N w && !(nA iU b ⟨c.Head, w⟩) && !(nA iU a ⟨c.Head, w⟩)) = true then a ++ [⟨c.Head, w⟩] else a)
noncomputable def nC (b : List gr) (N : List ByteArray) : List gm → List gr → List gr
 | [], a => a
 | c :: cs, a => nC b N cs (pL b N c N a)
theorem CA (F : List gr) (r : gl) (w : ByteArray) : lO F r w = some (nA iU F ⟨r, w⟩) := by
 obtain ⟨b, e, a⟩ := qb F r w
 rw [e]
 congr 1
 rw [bI, a, lN kN]
theorem Dk (a : List gr) (c : gm) (N : List ByteArray) (w : ByteArray) : oq a c N w = some (rL a c N w) := by
 obtain ⟨b, e, d⟩ := AW a c N w
 rw [e]
 congr 1
 rw [bI, d, so]
theorem wT (b : List gr) (N : List ByteArray) (c : gm) : ∀ (ws : List ByteArray) (a : List gr), (pL b N c ws a).length ≤ a.length + ws.length
 | [], a => aJ _
 | w :: ws, a => by
  rw [pL]
  refine bk (wT b N c ws _) ?_
  split <;> simp <;> omega
theorem xc (b : List gr) (N : List ByteArray) (c : gm) : ∀ (ws : List ByteArray) (a : List gr), a.length + ws.length ≤ 1000000000 → mR b c N ws a = some (pL b N c ws a)
 | [], a, _ => rfl
 | w :: ws, a, g => by
  simp only [aB] at g
  rw [mR, pL, Dk, CA, CA]
  have d : jh 48 a [(⟨c.Head, w⟩ : gr)] = some (a ++ [⟨c.Head, w⟩]) := jl (by simp; omega) (by simp; omega)
  have i1 := xc b N c ws (a ++ [⟨c.Head, w⟩]) (by simp; omega)
  have i2 := xc b N c ws a (by omega)
  cases rL b c N w <;> cases nA iU b ⟨c.Head, w⟩ <;> cases nA iU a ⟨c.Head, w⟩ <;> simp [d, i1, i2]
theorem DC (b : List gr) (N : List ByteArray) : ∀ (cs : List gm) (a : List gr), a.length + cs.length * N.length ≤ 1000000000 → kU b N cs a = some (nC b N cs a)
 | [], a, _ => rfl
 | c :: cs, a, d => by
  simp only [aB, aZ, ft] at d
  have h1 := wT b N c N a
  rw [kU, xc b N c N a (by omega), aa, DC b N cs _ (by omega), nC]
def oH (rd : Int) (l : List gr) : List (gr × Int) := l.map fun f => (f, rd)
theorem yr {H : List (gr × Int)} {f : gr} : (gQ iU H f).isSome = nA iU (H.map (·.1)) f := by
 rw [bI, lN kN]
 rcases nc f H with h | ⟨A, x, B, rfl, a⟩
 ·rw [og kN h]
  simp only [Option.isSome_none, ap, aK, false_iff]
  rintro ⟨p, hp, e⟩
  exact h p hp e
 ·rw [lj kN a]; simp
theorem DN (rd : Int) (b : List gr) (N : List ByteArray) (c : gm) {H : List (gr × Int)} (hH : H.map (·.1) = b) {br : ByteArray → Bool} (d : ∀ w, br w = rL b c N w) : ∀ (ws : List ByteArray) (a : List gr),
  ms rd ((ws.filter br).map fun w => (⟨c.Head, w⟩ : gr)) (H ++ oH rd a) = some (H ++ oH rd (pL b N c ws a))
 | [], a => rfl
 | w :: ws, a => by
  have hk : (H ++ oH rd a).map (·.1) = b ++ a := by rw [aP, hH]; simp [oH, db]
  have i1 := DN rd b N c hH d ws
  rw [cR, pL, d]
  cases h1 : rL b c N w with
  | false => simp [i1]
  | true =>
   simp only [bi, aN, dX]
   rw [ms, yr, hk]
   have e : nA iU (b ++ a) ⟨c.Head, w⟩ = (nA iU b ⟨c.Head, w⟩ || nA iU a ⟨c.Head, w⟩) := by simp [nA]
   rw [e]
   cases h : nA iU b ⟨c.Head, w⟩ with
   | true => simp [i1]
   | false =>
    cases i : nA iU a ⟨c.Head, w⟩ with
    | true => simp [i1]
    | false =>
     simp only [Bool.or_self, cT, Bool.and_self, bi]
     rw [qU kN (fun p hp g => by
      have : nA iU (b ++ a) ⟨c.Head, w⟩ = true := (lN kN _ _).2 (by rw [← hk, ← g]; exact aK.2 ⟨p, hp, rfl⟩)
      rw [e, h, i] at this; cases this), ay]
     rw [show oH rd a ++ [((⟨c.Head, w⟩ : gr), rd)] = oH rd (a ++ [⟨c.Head, w⟩]) by simp [oH]]
     exact i1 _
theorem te (b : List gr) (N : List ByteArray) (c : gm) : ∀ (ws : List ByteArray) (a : List gr), pL b N c (ws.filter (rL b c N)) a = pL b N c ws a
 | [], a => rfl
 | w :: ws, a => by
  rw [cR, pL]
  cases h : rL b c N w with
  | false => simp [te]
  | true => simp only [bi, pL, h]; rw [te]
theorem BN {N : List ByteArray} (b : N.Nodup) {a : ByteArray} (g : a ∈ N) {p : ByteArray → Bool} (hp : ∀ w, p w = true ↔ w = a) : N.filter p = [a] := by
 obtain ⟨A, B, rfl⟩ := du g
 have c : ∀ w ∈ A, ¬ p w = true := fun w hw e => by
  have := (hp w).1 e; subst this
  exact (aF.1 b).2.2 w hw w (by simp) rfl
 have d : ∀ w ∈ B, ¬ p w = true := fun w hw e => by
  have := (hp w).1 e; subst this
  exact (bV.1 (aF.1 b).2.1).1 hw
 rw [eT, cR, ar ((hp a).2 rfl), List.filter_eq_nil_iff.2 c, List.filter_eq_nil_iff.2 d]; rfl
structure zb (s : List gm) (N : List ByteArray) : Prop where
 right : ∀ c ∈ s, ib c = true
 names : xf N N
 AG : ∀ c ∈ s, c.Kind = 1 → c.gP ∈ N
 len : N.length ≤ 900000000
theorem Dy {s : List gm} {N : List ByteArray} (i : zb s N) (rd : Int) (b : List gr) {H : List (gr × Int)} (hH : H.map (·.1) = b) : ∀ (cs : List gm) (a : List gr), (∀ c ∈ cs, c ∈ s) →
  nw H N rd cs (H ++ oH rd a) = some (H ++ oH rd (nC b N cs a))
 | [], a, _ => rfl
 | c :: cs, a, k => by
  have d := k c (.head _)
  have m := i.right c d
  have hp : ∀ r w, (gQ iU H (⟨r, w⟩ : gr)).isSome = true ↔ (⟨r, w⟩ : gr) ∈ b := fun r w => by rw [yr, hH, lN kN]
  obtain ⟨names, j, e⟩ := C7 (f := fun (x : (gl × ByteArray)) => oJ x.1 x.2 H) (p := fun x => (gQ iU H (⟨x.1, x.2⟩ : gr)).isSome) (fun x => rfl) m N i.len
  obtain rfl : names = N := lZ.unique (sa _) j i.names
  have l : ∀ w, ym c (fun x => (gQ iU H (⟨x.1, x.2⟩ : gr)).isSome) names w = rL b c names w := fun w => by
   rw [bI, so]
   exact D0 (fun r w => hp r w) names w
  rw [nw, e, aa, DN rd b names c hH l, aa, Dy i rd b hH cs _ (fun c h => k c (.tail _ h)), nC]
  congr 4
  by_cases h1 : c.Kind = 1
  ·rw [ar h1]
   have g : ∀ w, rL b c names w = true ↔ w = c.gP := fun w => by
    rw [so]
    unfold mz
    constructor
    ·rintro (h | h | h | h)
     ·exact h.2.symm
     ·exact absurd (h1.symm.trans h.1) (by decide)
     ·exact absurd (h1.symm.trans h.1) (by decide)
     ·exact absurd h1 h.1
    ·intro h; exact .inl ⟨h1, h.symm⟩
   rw [← te b names c names a, BN (nX (sa _) (fun x n => ((j.2 x).1 n).2) j.1) (i.AG c d h1) g]
  ·rw [al h1]
def rR : Nat → List (List gr) → List (gr × Int)
 | _, [] => []
 | i, a :: b => oH i a ++ rR (i + 1) b
theorem A5 : ∀ (i : Nat) (c : List (List gr)) (b : List gr), rR i (c ++ [b]) = rR i c ++ oH ((i + c.length : Nat) : Int) b
 | i, [], b => by simp [rR]
 | i, a :: c, b => by
  rw [bZ, rR, rR, A5 (i + 1) c b, ay, aB, show i + 1 + c.length = i + (c.length + 1) by omega]
theorem wJ : ∀ (i : Nat) (b : List (List gr)), (rR i b).map (·.1) = b.flatten
 | i, [] => rfl
 | i, a :: b => by rw [rR, aP, wJ, bP]; simp [oH, db]
theorem vh (g : List gr) (N : List ByteArray) (c : gm) : ∀ (ws : List ByteArray) (d : List gr), (g ++ d).Nodup → (g ++ pL g N c ws d).Nodup ∧ ∀ f, f ∈ pL g N c ws d ↔ f ∈ d ∨ ∃ w ∈ ws, f = ⟨c.Head, w⟩ ∧ mz g c N w ∧ f ∉ g
 | [], d, h => ⟨h, fun f => by simp [pL]⟩
 | w :: ws, d, h => by
  rw [pL]
  by_cases m : (rL g c N w && !(nA iU g ⟨c.Head, w⟩) && !(nA iU d ⟨c.Head, w⟩)) = true
  ·rw [ar m]
   simp only [aD, cN, so] at m
   obtain ⟨⟨h1, p⟩, q⟩ := m
   have k : (⟨c.Head, w⟩ : gr) ∉ g := fun hm => by rw [(lN kN _ _).2 hm] at p; cases p
   have n : (⟨c.Head, w⟩ : gr) ∉ d := fun hm => by rw [(lN kN _ _).2 hm] at q; cases q
   have o : (g ++ (d ++ [(⟨c.Head, w⟩ : gr)])).Nodup := by
    rw [← ay, aF]
    refine ⟨h, by simp, fun a l b r e => ?_⟩
    rw [aA] at r
    subst r e
    rcases aI.1 l with l | l
    ·exact k l
    ·exact n l
   obtain ⟨g1, g2⟩ := vh g N c ws _ o
   refine ⟨g1, fun f => ?_⟩
   rw [g2, aI, aA]
   constructor
   ·rintro ((h | h) | ⟨j, i, h⟩)
    ·exact .inl h
    ·subst h; exact .inr ⟨w, .head _, rfl, h1, k⟩
    ·exact .inr ⟨j, .tail _ i, h⟩
   ·rintro (h | ⟨j, i, h⟩)
    ·exact .inl (.inl h)
    ·rcases ak.1 i with rfl | i
     ·exact .inl (.inr h.1)
     ·exact .inr ⟨j, i, h⟩
  ·rw [al m]
   obtain ⟨g1, g2⟩ := vh g N c ws _ h
   refine ⟨g1, fun f => ?_⟩
   rw [g2]
   constructor
   ·rintro (h | ⟨j, i, h⟩)
    ·exact .inl h
    ·exact .inr ⟨j, .tail _ i, h⟩
   ·rintro (h | ⟨j, i, h⟩)
    ·exact .inl h
    ·rcases ak.1 i with rfl | i
     ·obtain ⟨rfl, t, s⟩ := h
      refine .inl ?_
      refine cY fun hm => m ?_
      simp only [aD, cN, so]
      refine ⟨⟨t, ?_⟩, ?_⟩
      ·rw [dA]; exact fun e => s ((lN kN _ _).1 e)
      ·rw [dA]; exact fun e => hm ((lN kN _ _).1 e)
     ·exact .inr ⟨j, i, h⟩
theorem qn (b : List gr) (N : List ByteArray) : ∀ (cs : List gm) (a : List gr), (b ++ a).Nodup → (b ++ nC b N cs a).Nodup ∧ ∀ f, f ∈ nC b N cs a ↔ f ∈ a ∨ ∃ c ∈ cs, ∃ w ∈ N, f = ⟨c.Head, w⟩ ∧ mz b c N w ∧ f ∉ b
 | [], a, h => ⟨h, fun f => by simp [nC]⟩
 | c :: cs, a, h => by
  obtain ⟨i, a2⟩ := vh b N c N a h
  obtain ⟨j, k⟩ := qn b N cs _ i
  rw [nC]
  refine ⟨j, fun f => ?_⟩
  rw [k, a2]
  constructor
  ·rintro ((h | ⟨w, h⟩) | ⟨g, d, h⟩)
   ·exact .inl h
   ·exact .inr ⟨c, .head _, w, h⟩
   ·exact .inr ⟨g, .tail _ d, h⟩
  ·rintro (h | ⟨g, d, h⟩)
   ·exact .inl (.inl h)
   ·rcases ak.1 d with rfl | d
    ·exact .inl (.inr h)
    ·exact .inr ⟨g, d, h⟩
inductive ov (s : List gm) (N : List ByteArray) : List (List gr) → Prop where
 | nil : ov s N []
 | snoc {Ls : List (List gr)} : ov s N Ls → nC Ls.flatten N s [] ≠ [] → ov s N (Ls ++ [nC Ls.flatten N s []])
theorem ov.nd {s : List gm} {N : List ByteArray} {a : List (List gr)} (h : ov s N a) : a.flatten.Nodup := by
 induction h with
 | nil => simp
 | @snoc a _ _ ih =>
  have := (qn a.flatten N s [] (by simpa using ih)).1
  simpa using this
theorem ov.pK {s : List gm} {N : List ByteArray} (j : zb s N) {b : List (List gr)} (h : ov s N b) : ∀ f ∈ b.flatten, kl s f := by
 induction h with
 | nil => simp
 | @snoc b i _ ih =>
  intro f a
  rw [dm, aI] at a
  rcases a with a | a
  ·exact ih f a
  ·simp only [bP, eu, aX] at a
   rcases ((qn b.flatten N s [] (by simpa using i.nd)).2 f).1 a with h | ⟨c, g, w, hw, rfl, d, _⟩
   ·cases h
   ·exact zy g (j.right c g) ih d
theorem ov.len {s : List gm} {N : List ByteArray} (d : zb s N) {a : List (List gr)} (h : ov s N a) : a.length ≤ a.flatten.length ∧ a.flatten.length ≤ s.length * s.length := by
 refine ⟨?_, ?_⟩
 ·induction h with
  | nil => simp
  | @snoc a _ b ih =>
   have : (nC a.flatten N s []).length ≠ 0 := fun e => b (bl.1 e)
   simp only [an, cW, dm, bP, eu, aX]
   omega
 ·rw [← rW s]
  exact iO h.nd (fun f c => (h.pK d f c).vk)
theorem xm {s : List gm} {N : List ByteArray} (k : zb s N) (d : s.length ≤ 30000) (o : s.length * N.length ≤ 900000000) : ∀ (n : Nat) (a : List (List gr)), ov s N a → s.length * s.length < n + a.flatten.length →
  ∃ Lf, ov s N Lf ∧ nC Lf.flatten N s [] = [] ∧ mg N s n (rR 0 a) (a.length : Int) = some (rR 0 Lf, (Lf.length : Int)) ∧ jA N s n a.flatten a = some Lf
 | 0, a, g, p => by have := (g.len k).2; omega
 | n + 1, a, g, p => by
  obtain ⟨t, u⟩ := g.len k
  have r : s.length * s.length ≤ 900000000 := dH d d
  have l := Dy k (a.length : Int) a.flatten (H := rR 0 a) (wJ 0 a) s [] (fun c h => h)
  have m := DC a.flatten N s [] (by simp; omega)
  rw [show oH (a.length : Int) [] = [] from rfl, aX] at l
  have hk : (rR 0 a).length = a.flatten.length := by rw [← wJ 0 a, bN]
  rw [mg, jA, l, m]
  simp only [aa]
  by_cases j : nC a.flatten N s [] = []
  ·refine ⟨a, g, j, ?_, ?_⟩
   ·rw [j]; simp [oH]
   ·rw [j]; simp
  ·have q : (nC a.flatten N s []).length ≠ 0 := fun e => j (bl.1 e)
   have i := ov.snoc g j
   obtain ⟨m1, m2⟩ := i.len k
   have b : (a ++ [nC a.flatten N s []]).flatten = a.flatten ++ nC a.flatten N s [] := by simp
   rw [b, an] at m1 m2
   obtain ⟨Lf, g1, g2, g3, g4⟩ := xm k d o n _ i (by rw [b, an]; omega)
   refine ⟨Lf, g1, g2, ?_, ?_⟩
   ·rw [al (by simp [oH, hk]; omega)]
    rw [ql (by omega), ← g3, A5, dI, an, cW]
   ·rw [al (by simp; omega)]
    rw [jl (by simp only [an, cW] at *; omega) (by simp only [an, cW] at *; omega), aa, jl (by omega) (by omega), aa, ← b]
    exact g4
def ud (s : List gm) : List ByteArray := s.flatMap fun c => [c.gP, c.Head.gF, c.B.gF, c.C.gF]
theorem zf : ∀ s : List gm, (ud s).length = 4 * s.length
 | [] => rfl
 | c :: s => by
  have := zf s
  unfold ud at this ⊢
  rw [cv, an, this]; simp; omega
theorem yH : ∀ (s : List gm) (acc : List ByteArray), acc.length + 4 * s.length ≤ 1000000000 → mo s acc = pC (acc ++ ud s)
 | [], acc, _ => by rw [mo]; simp [ud, uB]
 | c :: s, acc, h => by
  simp only [aB] at h
  rw [mo, jl (by simp; omega) (by simp; omega), aa, yH s _ (by simp; omega)]
  simp [ud]
structure FW (l s : List gm) (N : List ByteArray) (Lf : List (List gr)) : Prop where
 set : tI l s
 Gb : zb s N
 rounds : ov s N Lf
 closed : nC Lf.flatten N s [] = []
theorem Da (l : List gm) (w : l.length ≤ 10000) : ∃ s N Lf, FW l s N Lf ∧ s.length ≤ l.length ∧ N.length ≤ 4 * s.length ∧ nI l = some (rR 0 Lf, (Lf.length : Int)) ∧ pG l = some Lf ∧ lD l = some s ∧
  pG l = jA N s jj [] [] := by
 obtain ⟨s, p, d⟩ := EH l (by omega)
 obtain ⟨s2, k, i⟩ := xU l (by omega)
 obtain rfl : s2 = s := lZ.unique qt i d
 have j : s2.length ≤ l.length := lP qt d
 have v := zf s2
 obtain ⟨N, q, a⟩ := Et (ud s2) (by omega)
 obtain ⟨N2, r, g⟩ := AT (ud s2) (by omega)
 obtain rfl : N2 = N := lZ.unique (sa _) g a
 have t : N2.length ≤ (ud s2).length := lP (sa _) a
 have n : ∀ c ∈ s2, ib c = true := fun c b => ((d.2 c).1 b).2
 have o : zb s2 N2 := ⟨n, ⟨a.1, fun x => ⟨fun h => ⟨h, ((a.2 x).1 h).2⟩, fun h => h.1⟩⟩, fun c b hk => (a.2 _).2 ⟨dP.2 ⟨c, b, by simp⟩, BP (n c b) hk⟩, by omega⟩
 have hmul : s2.length * N2.length ≤ 900000000 := bk (dH (show s2.length ≤ 10000 by omega) (show N2.length ≤ 40000 by omega)) (by decide)
 have u : s2.length * s2.length ≤ 100000000 := dH (show s2.length ≤ 10000 by omega) (show s2.length ≤ 10000 by omega)
 obtain ⟨Lf, g1, g2, g3, g4⟩ := xm o (by omega) hmul jj [] .nil (by rw [ul]; simp; omega)
 have m : pG l = jA N2 s2 jj [] [] := by
  unfold pG nE
  rw [k, aa, wS s2 [] (by simp; omega), bw, show (s2.flatMap fun c => [c.gP, c.Head.gF, c.B.gF, c.C.gF]) = ud s2 from rfl, r, aa]
 refine ⟨s2, N2, Lf, ⟨d, o, g1, g2⟩, j, by omega, ?_, m.trans g4, k, m⟩
 unfold nI rE
 rw [p, aa, aa, yH s2 [] (by simp; omega), bw, q, aa]
 exact g3
theorem zK {α : Type} {l : List α} {a : α} (b : l.Nodup) (h : ∀ x, x ∈ l ↔ x = a) : l = [a] := by
 cases l with
 | nil => exact absurd ((h a).2 rfl) (by simp)
 | cons x l =>
  have c := (h x).1 (.head _)
  subst c
  cases l with
  | nil => rfl
  | cons y l =>
   have d := (h y).1 (.tail _ (.head _))
   subst d
   exact absurd b (by simp)
theorem ED : tI [j1, j2] [j2, j1] := by
  refine ⟨by have : sH j2 j1 = true := by decide +kernel
             simp [this], fun c => ?_⟩
  constructor
  · intro h
    rcases ak.1 h with rfl | h
    · exact ⟨by simp, FH⟩
    · rw [aA] at h; subst h; exact ⟨by simp, F5⟩
  · rintro ⟨h, _⟩
    rcases ak.1 h with rfl | h
    · simp
    · rw [aA] at h; subst h; simp
theorem FL : tI [j2] [j2] := ⟨by simp, fun c => ⟨fun h => ⟨h, by rw [aA] at h; subst h; exact FH⟩, fun h => h.1⟩⟩
theorem Fk {N : List ByteArray} (n : zb [j2, j1] N) (r : N.length ≤ 100000) (k : Nat) : jA N [j2, j1] (k + 3) [] [] = some [[fB], [fA]] := by
 have p : qd ∈ N := n.AG j2 (by simp) rfl
 have x := n.len
 have t : nC [] N [j2, j1] [] = [fB] := by
  obtain ⟨a, b⟩ := qn [] N [j2, j1] [] (by simp)
  refine zK (by simpa using a) (fun f => ?_)
  rw [b]
  constructor
  ·rintro (h | ⟨c, j, w, hw, rfl, i, _⟩)
   ·cases h
   ·rcases i with h | h | h | h
    ·rcases ak.1 j with rfl | j
     ·rw [← h.2]; rfl
     ·rw [aA] at j; subst j; exact absurd h.1 (by decide)
    ·cases h.2
    ·cases h.2.1
    ·obtain ⟨_, _, _, b, _, h, _⟩ := h; cases h
  ·rintro rfl
   exact .inr ⟨j2, by simp, qd, p, rfl, .inl ⟨rfl, rfl⟩, by simp⟩
 have u : nC [fB] N [j2, j1] [] = [fA] := by
  obtain ⟨a, b⟩ := qn [fB] N [j2, j1] [] (by simp)
  refine zK (aF.1 a).2.1 (fun f => ?_)
  rw [b]
  constructor
  ·rintro (h | ⟨c, j, w, hw, rfl, i, m⟩)
   ·cases h
   ·rcases ak.1 j with rfl | j
    ·rcases i with h | h | h | h
     ·exact absurd (aA.2 (by rw [← h.2]; rfl)) m
     ·exact absurd h.1 (by decide)
     ·exact absurd h.1 (by decide)
     ·exact absurd rfl h.1
    ·rw [aA] at j; subst j
     rcases i with h | h | h | h
     ·exact absurd h.1 (by decide)
     ·have := aw gr.gP (aA.1 h.2)
      simp only at this
      subst this; rfl
     ·exact absurd h.1 (by decide)
     ·exact absurd rfl h.2.1
  ·rintro rfl
   exact .inr ⟨j1, by simp, qd, p, rfl, .inr (.inl ⟨rfl, aA.2 rfl⟩), fun h => FG (aA.1 h)⟩
 have v : nC [fB, fA] N [j2, j1] [] = [] := by
  obtain ⟨a, b⟩ := qn [fB, fA] N [j2, j1] [] (by simpa using fun e => FG e.symm)
  refine List.eq_nil_iff_forall_not_mem.2 (fun f s => ?_)
  rcases (b f).1 s with h | ⟨c, j, w, hw, rfl, i, m⟩
  ·cases h
  ·have l : kl [j2, j1] ⟨c.Head, w⟩ := zy j (n.right c j) (fun g q => by
    rw [CQ (fun c => by simp [or_comm])]
    simp only [ak, cc, dV] at q
    exact q.symm) i
   rw [CQ (fun c => by simp [or_comm])] at l
   exact m (by simp only [ak, cc, dV]; exact l.symm)
 have o : ∀ d, kU d N [j2, j1] [] = some (nC d N [j2, j1] []) := fun d => by
  have h1 := wT d N j2 N []
  rw [kU, xc d N j2 N [] (by simp; omega), aa, kU]
  simp only [bH] at h1
  rw [xc d N j1 N _ (by omega)]; rfl
 rw [jA, o, t]
 simp only [aa]
 rw [al (by decide), jl (by decide) (by decide), aa, jl (by decide) (by decide), aa, jA, show ([] ++ [fB] : List gr) = [fB] from rfl, o, u]
 simp only [aa]
 rw [al (by decide), jl (by decide) (by decide), aa, jl (by decide) (by decide), aa, jA, show ([fB] ++ [fA] : List gr) = [fB, fA] from rfl, o, v]
 rfl
theorem Cg {S T : List gl} (c : S.Pairwise (fun a b => nZ a b = true)) (d : T.Pairwise (fun a b => nZ a b = true)) (h : ∀ r, r ∈ S ↔ r ∈ T) : S = T :=
 lZ.unique (l := T) (P := fun _ => True) (uv (fun _ => True)) ⟨c, fun x => by rw [h]; simp⟩ ⟨d, fun x => by simp⟩
theorem w2 : ∃ sz : gl → Nat, jT [j1, j2] = some [(⟨qA, 1, 0, 1⟩ : gx), (⟨qB, 1, 1, 1⟩ : gx)] ∧ kI [j1, j2] = some [] := by
 obtain ⟨s, S, sz, g, p, n, l, q, m, t⟩ := uy [j1, j2] (by decide)
 obtain rfl : s = [j2, j1] := lZ.unique qt g.set ED
 have k : nZ qA qB = true := by decide +kernel
 obtain rfl : S = [qA, qB] := Cg g.FK (by simp [k]) (fun r => by
  rw [g.mem]
  constructor
  ·rintro ⟨c, i, a⟩
   rcases ak.1 i with rfl | i
   ·have : lL j2 = [qB] := rfl
    rw [this, aA] at a; subst a; simp
   ·rw [aA] at i; subst i
    have : lL j1 = [qA, qB] := rfl
    rwa [this] at a
  ·intro a
   exact ⟨j1, by simp, by have : lL j1 = [qA, qB] := rfl; rwa [this]⟩)
 have b : ∀ r, r = qA ∨ r = qB → sz r = 1 := fun r a => by
  obtain ⟨L, o, h1, j⟩ := g.size r
  have : L = [qd] := zK o (fun w => by
   rw [j, CQ (fun c => by simp [or_comm])]
   constructor
   ·rintro (h | h) <;> exact aw gr.gP h
   ·rintro rfl
    rcases a with rfl | rfl
    ·exact .inl rfl
    ·exact .inr rfl)
  rw [h1, this]; rfl
 have d : qI [j2, j1] [qA, qB] sz = [(⟨qA, 1, 0, 1⟩ : gx), (⟨qB, 1, 1, 1⟩ : gx)] := by
  unfold qI
  simp only [aN, eL, pg, b qA (.inl rfl), b qB (.inr rfl)]
  rw [show jf (li [j2, j1]) qA = 1 by decide +kernel, show jf (nS [j2, j1]) qA = 0 by decide +kernel, show jf (li [j2, j1]) qB = 1 by decide +kernel, show jf (nS [j2, j1]) qB = 1 by decide +kernel]
  rfl
 refine ⟨sz, by rw [l, d], ?_⟩
 rw [zk [j1, j2] m (by decide) (by decide) l, d]
 rw [show ([(⟨qA, 1, 0, 1⟩ : gx), (⟨qB, 1, 1, 1⟩ : gx)].filter (rK [j2, j1])) = [] by
  have h1 : rK [j2, j1] (⟨qA, 1, 0, 1⟩ : gx) = false := by decide +kernel
  have j : rK [j2, j1] (⟨qB, 1, 1, 1⟩ : gx) = false := by decide +kernel
  simp [h1, j]]
 rfl
theorem w1 : ∃ q, kI [j2] = some [q] := by
 obtain ⟨s, S, sz, a, g, d, b, h, c, i⟩ := uy [j2] (by decide)
 obtain rfl : s = [j2] := lZ.unique qt a.set FL
 obtain rfl : S = [qB] := Cg a.FK (by simp) (fun r => by
  rw [a.mem]
  have : lL j2 = [qB] := rfl
  simp [this])
 refine ⟨qB, ?_⟩
 rw [zk [j2] c (by decide) (by decide) b]
 have h1 : rK [j2] (pg (jf (li [j2])) (jf (nS [j2])) sz qB) = true := by
  unfold rK pg
  rw [show jf (li [j2]) qB = 1 by decide +kernel, show jf (nS [j2]) qB = 0 by decide +kernel]
  have : nl [j2] qB = true := by decide +kernel
  simp [this]
 show some (([pg (jf (li [j2])) (jf (nS [j2])) sz qB].filter (rK [j2])).map (·.gl)) = some [qB]
 rw [cR, ar h1]; rfl
theorem FX : nI [j1, j2] = some (rR 0 [[fB], [fA]], 2) := by
 obtain ⟨s, N, Lf, hO, h, a, c, b, _, d⟩ := Da [j1, j2] (by decide)
 obtain rfl : s = [j2, j1] := lZ.unique qt hO.set ED
 have g := Fk hO.Gb (by simp at a; omega) 18446744073709551613
 rw [d, ul, show 18446744073709551615 + 1 = 18446744073709551613 + 3 from rfl, g] at b
 obtain rfl := gb b
 rw [c]; rfl
theorem Eb : oP = some true := by
 obtain ⟨_, a, b⟩ := w2
 obtain ⟨q, c⟩ := w1
 unfold oP
 rw [show (⟨2, (⟨(⟨#[97]⟩ : ByteArray), (⟨#[114]⟩ : ByteArray)⟩ : gl), zS, (⟨(⟨#[98]⟩ : ByteArray), (⟨#[115]⟩ : ByteArray)⟩ : gl), (⟨zS, zS⟩ : gl), zS⟩ : gm) = j1 from rfl, show (⟨1, (⟨(⟨#[98]⟩ : ByteArray), (⟨#[115]⟩ : ByteArray)⟩ : gl), (⟨#[100]⟩ : ByteArray), (⟨zS, zS⟩ : gl), (⟨zS, zS⟩ : gl), zS⟩ : gm) = j2 from rfl]
 rw [show (⟨(⟨(⟨#[97]⟩ : ByteArray), (⟨#[114]⟩ : ByteArray)⟩ : gl), (⟨#[100]⟩ : ByteArray)⟩ : gr) = fA from rfl]
 rw [show ([j1, j2].drop (Int.toNat 1)) = [j2] from rfl]
 rw [a, AZ [j1, j2] a (by decide)]
 unfold sB sA
 rw [FX, b, c]
 simp only [aa]
 rw [show iW iU (rR 0 [[fB], [fA]]) fA 0 = 1 by decide +kernel, show (gQ iU (rR 0 [[fB], [fA]]) fA).isSome = true by decide +kernel]
 rw [show jK [(⟨qA, 1, 0, 1⟩ : gx), (⟨qB, 1, 1, 1⟩ : gx)] 1 = some (⟨qB, 1, 1, 1⟩ : gx) from rfl]
 rw [show xl [(⟨qA, 1, 0, 1⟩ : gx), (⟨qB, 1, 1, 1⟩ : gx)] = ((⟨qB, 1, 1, 1⟩ : gx), true) by rfl]
 rw [ar (by decide), aa, show pp (⟨qB, 1, 1, 1⟩ : gx) (⟨(⟨(⟨#[98]⟩ : ByteArray), (⟨#[115]⟩ : ByteArray)⟩ : gl), 1, 1, 1⟩ : gx) = true from pV.2 rfl, show gz (⟨qB, 1, 1, 1⟩ : gx).gl (⟨(⟨#[98]⟩ : ByteArray), (⟨#[115]⟩ : ByteArray)⟩ : gl) = true from gB.2 rfl]
 rfl
end Go.Proofs.YtbnbdigcbldfhaaGreat
namespace Go.Proofs.YtbnbdigcbldfhaaGreat.Lf
open Go.ChangeShapes Go.WideShapes Go.ChangeAt Go.RowKit
open Go.Proofs.YtbnbdigcbldfhaaGreat (Rows.uptoBulk Rows.uptoBulkAll Rows.uptoSmall)
theorem Fc {H : Type} (d : DataW H) : 1 ≤ Rows.uptoBulk d := by
 cases d with
 | lit l => cases l <;> simp [Rows.uptoBulk]
 | nil => simp [Rows.uptoBulk]
 | ptr d => simp [Rows.uptoBulk]
 | slice a spare => simp [Rows.uptoBulk]
 | agg parts => simp [Rows.uptoBulk]
 | iface t d => simp [Rows.uptoBulk]
 | map entries => simp [Rows.uptoBulk]
 | held h => simp [Rows.uptoBulk]
def xE {α : Type} (P : Program) (t : TypeId) (enc : α → List Value) (sz : α → Nat) : Prop :=
 ∀ (H : Type) (b : TypeId × Value → H) (W : World) (base : Nat) (sp : Nat → Bool) (c : Bool) (fuel : Nat) (cs : List Value) (x : DataW H × List MemPlace),
  DataW.trod b P W base sp c fuel t cs = some x → ∃ a : α, cs = enc a ∧ sz a ≤ Rows.uptoBulk x.1
theorem Bj {P : Program} {t : TypeId} (a : P.underlying t = some .string) : xE P t (fun s : ByteArray => [.string s]) (fun s => s.size) := by
 intro H b W base sp c fuel cs x h
 obtain ⟨s, rfl, rfl, _⟩ := DataW.trod_string a h
 refine ⟨s, rfl, ?_⟩
 have e : s.data.toList.length = s.size := by rw [cn]; rfl
 simp [Rows.uptoBulk, e]
theorem DT {P : Program} {t : TypeId} {k : IntKind} (a : P.underlying t = some (.int k)) : xE P t (fun n : Int => [.int k n]) (fun _ => 0) := by
 intro H b W base sp c fuel cs x h
 obtain ⟨n, rfl, rfl, _⟩ := DataW.trod_int a h
 exact ⟨n, rfl, eC _⟩
theorem Ea {α : Type} {n : Nat} {p : Nat → α → Prop} (h : ∀ i, i < n → ∃ x, p i x) : ∃ l : List α, l.length = n ∧ ∀ i x, l[i]? = some x → p i x := by
 induction n with
 | zero => exact ⟨[], rfl, by simp⟩
 | succ n ih =>
  obtain ⟨l, h1, c⟩ := ih fun i b => h i (by omega)
  obtain ⟨x, g⟩ := h n (by omega)
  refine ⟨l ++ [x], by simp [h1], fun i y a => ?_⟩
  by_cases b : i < l.length
  ·rw [List.getElem?_append_left b] at a
   exact c i y a
  ·rw [dC (by omega)] at a
   have : i - l.length = 0 := by
    cases d : i - l.length with
    | zero => rfl
    | succ m => rw [d] at a; simp at a
   rw [this] at a
   have e : i = n := by omega
   simp at a
   subst a; rw [e]; exact g
theorem Af {W : World} {a : Addr} {v : Value} (h : W.cell? a = some v) : ∃ cs T fr, W.heap[a.block]? = some (.cells cs T fr) ∧ a.spot = none ∧ cs[a.off]? = some v := by
 unfold World.cell? at h
 split at h
 ·rename_i c T fr d
  by_cases b : a.spot.isSome
  ·simp [b] at h
  ·simp only [b] at h
   exact ⟨c, T, fr, d, by simpa using b, by simpa using h⟩
 ·cases h
theorem Ex.below {dd : Bool} {W W' : World} (h : Ex dd W W') : Below W.heap.size W W' := ⟨h.os, h.tape, h.output, h.size, h.iM⟩
theorem uH {H : Type} {k : TypeId × Value → H} {P : Program} (m : laidOutB P = true) {W W' : World} {b : Nat → Bool} :
  ∀ {g : List TypeId} {vs : List Value} {i : List (DataW H)} {c : List MemPlace}, (∀ t ∈ g, P.readableRec t = true ∧ t < P.types.size) →
   DataW.TrodAll k P W 0 (fun _ => true) true g vs i c → (∀ p ∈ c, W.sameAt W' p) → (∀ p ∈ c, b p.block = true) → DataW.TrodAll k P W' 0 b true g vs i c
 | [], _, _, _, _, h, _, _ => by
  obtain ⟨rfl, rfl, rfl⟩ := trodAll_nil h
  exact trodAll_mk0
 | t :: g, _, _, _, j, h, h1, l => by
  obtain ⟨v, vs, d, i, p, q, rfl, rfl, rfl, n, o⟩ := trodAll_cons h
  exact trodAll_cons_mk (WideElems.Trod_stays m (j t (by simp)).1 (j t (by simp)).2 n (fun x a => h1 x (by simp [a])) (fun x a => l x (by simp [a])))
   (uH m (fun u hu => j u (by simp [hu])) o (fun x a => h1 x (by simp [a])) (fun x a => l x (by simp [a])))
theorem Bf {H : Type} {enc : TypeId × Value → H} {P : Program} (M : laidOutB P = true) {f : Func} {s : ChangeSpec} {apart fresh handsOn again : Bool} {W W' : World} {args : Array Value} {v : Value} {a gs : List (DataW H)} {before : List MemPlace} (Q : ∀ t ∈ f.params.toList, P.readableRec t = true ∧ t < P.types.size) (m : s.vars = []) (o : DataW.Whole enc P f.params.toList s.vars apart W args.toList a gs before) {dd : Bool} (G : Ex dd W W') (c : ∀ (b : Nat) (sp : Nat → Bool) (L : Bool), DataW.TrodAll enc P W' b sp L f.resultTypes.toList (v.resultList f.resultTypes.size) (s.fn H (a ++ gs)).results []) (d : (s.fn H (a ++ gs)).args = a) (h : (s.fn H (a ++ gs)).vars = []) (A : ∀ (j : Nat) (t : TypeId) (r : Value), f.resultTypes[j]? = some t → (v.resultList f.resultTypes.size)[j]? = some r → Value.okWide P W' .any 0 t r) :
  s.post enc P f apart fresh handsOn again W args v W' := by
 have g := o.lt
 have hold : ∀ p ∈ before, (fun b => decide (b < W.heap.size)) p.block = true := fun p hp => by simpa using g p hp
 have y := Ex.below G
 have u := o
 obtain ⟨p, q, J, I, k, R, O⟩ := o
 rw [m] at I
 obtain ⟨rfl, rfl⟩ := trodVars_none I
 rw [aX] at k
 subst k
 have l : ∀ sp : Nat → Bool, (∀ p ∈ before, sp p.block = true) → DataW.TrodAll enc P W' 0 sp true f.params.toList args.toList (s.fn H (a ++ [])).args before := fun sp E => by
  rw [d]
  exact uH M Q J (fun x G => y.same (g x G)) E
 have n : ∀ sp : Nat → Bool, DataW.TrodVars enc P W' sp s.vars (s.fn H (a ++ [])).vars [] := fun sp => by
  rw [h, m]; rfl
 refine ⟨a, [], before, [], before, [], u, c _ _ _, l _ hold, n _, World.keptBut_mono (fun p hp => ⟨hp, ?_⟩) (y.frame (· ∈ before)), fun _ => ?_⟩
 ·exact Or.inr (Or.inl hp)
 ·refine ⟨A, _, _, ([] ++ before) ++ [], ⟨[] ++ before, [], trodAll_append (l _ (fun _ _ => rfl)) (c _ _ _), n _, rfl, ?_, ?_⟩, ?_⟩
  ·intro b off hp
   have i : MemPlace.cell b off ∈ before := by simpa using hp
   rw [World.frozen?_of_block (w := W) (y.block b (g _ i))]
   exact R b off i
  ·intro K
   simpa using O K
  ·intro p hp _
   simpa using hp
end Go.Proofs.YtbnbdigcbldfhaaGreat.Lf
namespace Go.Proofs.YtbnbdigcbldfhaaGreat.Lf
open Go.ChangeShapes Go.WideShapes Go.ChangeAt Go.RowKit
open Go.Proofs.YtbnbdigcbldfhaaGreat (Rows.uptoBulk Rows.uptoBulkAll Rows.uptoSmall)
def Fg {α : Type} (P : Program) (t : TypeId) (R : pJ α) (sz : α → Nat) : Prop :=
 ∀ (H : Type) (b : TypeId × Value → H) (W : World) (base : Nat) (sp : Nat → Bool) (c : Bool) (fuel : Nat) (cs : List Value) (x : DataW H × List MemPlace),
  DataW.trod b P W base sp c fuel t cs = some x → ∃ a : α, R (hp W) cs a ∧ sz a ≤ Rows.uptoBulk x.1
theorem xE.rel {α : Type} {P : Program} {t : TypeId} {enc : α → List Value} {sz : α → Nat} (h : xE P t enc sz) : Fg P t (Pl enc) sz := fun H a W base sp b fuel cs x c => h H a W base sp b fuel cs x c
end Go.Proofs.YtbnbdigcbldfhaaGreat.Lf
namespace Go.Proofs.YtbnbdigcbldfhaaGreat.Lf
open Go.ChangeShapes Go.WideShapes Go.ChangeAt Go.RowKit
open Go.Proofs.YtbnbdigcbldfhaaGreat (Rows.uptoBulk Rows.uptoBulkAll Rows.uptoSmall)
theorem wq {H : Type} : ∀ l : List (DataW H), Rows.uptoBulkAll l = (l.map Rows.uptoBulk).sum
 | [] => by simp [Rows.uptoBulkAll]
 | d :: l => by simp [Rows.uptoBulkAll, wq l]
theorem CC {α : Type} (g : α → Nat) : ∀ (n : Nat) (f : Nat → Nat) {l : List α}, l.length = n → (∀ i x, l[i]? = some x → g x ≤ f i) → (l.map g).sum ≤ ((List.range n).map f).sum
 | 0, f, l, b, h => by
  obtain rfl := bl.1 b
  simp
 | n + 1, f, [], b, h => by cases b
 | n + 1, f, a :: l, b, h => by
  rw [List.range_succ_eq_map, aN, aN, fN, fN, cO]
  have h1 := h 0 a rfl
  have d := CC g n (f ∘ Nat.succ) (l := l) (by simpa using b) (fun i x c => h (i + 1) x (by simpa using c))
  omega
def xi {α : Type} (sz : α → Nat) (l : List α) : Nat := (l.map fun a => max 1 (sz a)).sum
theorem AP {α : Type} (sz : α → Nat) : ∀ l : List α, l.length ≤ xi sz l
 | [] => aJ _
 | a :: l => by have := AP sz l; simp only [xi, aN, fN, aB] at this ⊢; omega
theorem Cs {α : Type} {sz : α → Nat} : ∀ {l : List α} {a : α}, a ∈ l → sz a ≤ xi sz l
 | b :: l, a, h => by
  simp only [xi, aN, fN]
  rcases ak.1 h with rfl | h
  ·omega
  ·have := Cs (sz := sz) h; simp only [xi] at this; omega
theorem As {α : Type} {P : Program} {t e : TypeId} {k : Nat} {R : pJ α} {sz : α → Nat} (hk : P.cellsOf e = k) (K : 0 < k) (ht : P.underlying t = some (.slice e)) {H : Type} {U : TypeId × Value → H} {W : World} {base : Nat} {sp : Nat → Bool} {held : Bool} {fuel : Nat} {cs : List Value} {x : DataW H × List MemPlace} (hd : ∀ (fuel : Nat) (cs : List Value) (y : DataW H × List MemPlace), DataW.trod U P W base sp held fuel e cs = some y → SizeOf.sizeOf y.1 < SizeOf.sizeOf x.1 → ∃ a : α, R (hp W) cs a ∧ sz a ≤ Rows.uptoBulk y.1) (hf : DataW.trod U P W base sp held fuel t cs = some x) :
  ∃ v l, cs = [v] ∧ Sl R k (hp W) v l ∧ xi sz l ≤ Rows.uptoBulk x.1 := by
 rcases Go.Deep.open_slice ht hf with ⟨rfl, rfl⟩ | ⟨a, ln, cp, m, n, D, Q, rfl, hb, hl, hm, M, rfl, I⟩
 ·exact ⟨_, [], rfl, ⟨none, 0, rfl, aJ _, eC _, fun h => absurd h (Nat.lt_irrefl _)⟩, eC _⟩
 ·have ad : ln ≤ m := by rw [M]; split <;> omega
  have hB : ((List.range ln).map fun i => Rows.uptoBulk (D i)).sum ≤ Rows.uptoBulk (DataW.slice ((List.range ln).map D) ((List.range (m - ln)).map fun j => D (ln + j))) := by
   simp only [Rows.uptoBulk]
   rw [wq, cO]
   have e : ((List.range ln).map fun i => Rows.uptoBulk (D i)) = (List.range ln).map (Rows.uptoBulk ∘ D) := rfl
   rw [e]
   omega
  have hS : ∀ i, i < ln → SizeOf.sizeOf (D i) < SizeOf.sizeOf (DataW.slice ((List.range ln).map D) ((List.range (m - ln)).map fun j => D (ln + j))) := fun i J => by
   have := List.sizeOf_lt_of_mem (aK.2 ⟨i, List.mem_range.2 J, rfl⟩ : D i ∈ (List.range ln).map D)
   rw [DataW.slice.sizeOf_spec]; omega
  simp only at hd ⊢
  generalize Rows.uptoBulk (DataW.slice ((List.range ln).map D) ((List.range (m - ln)).map fun j => D (ln + j))) = B at hB
  obtain ⟨l, L, q⟩ := Ea (α := α) (n := ln) (p := fun i x => ∃ b, W.cells? base (a.add (i * k)) k = some b ∧ R (hp W) b x ∧ sz x ≤ Rows.uptoBulk (D i)) fun i J => by
   obtain ⟨b, h1, w⟩ := I i (by omega)
   obtain ⟨x, hR, A⟩ := hd _ _ _ w (hS i J)
   rw [hk] at h1
   exact ⟨x, b, h1, hR, A⟩
  subst L
  refine ⟨_, l, rfl, ⟨some a, cp, rfl, hl, hm, fun h0 => ?_⟩, ?_⟩
  ·have c : ∀ i x, l[i]? = some x → ∃ b, R (hp W) b x ∧ b.length = k ∧ ∀ j, j < k → W.cell? ((a.add (i * k)).add j) = b[j]? := fun i x r =>
    let ⟨b, h1, w, _⟩ := q i x r
    let ⟨_, A, Y⟩ := World.cells?_some h1
    ⟨b, w, A, Y⟩
   obtain ⟨a6, _, Y, h5⟩ := c 0 l[0] (by simp [h0])
   have E := h5 0 K
   rw [Nat.zero_mul, bX (by omega)] at E
   have e0 : (a.add 0).add 0 = a := rfl
   rw [e0] at E
   obtain ⟨cs, T, fr, G, Z, _⟩ := Af E
   obtain ⟨s, u, a1⟩ := a
   simp only at G Z
   subst Z
   refine ⟨s, u, cs, T, fr, rfl, G, fun i x r => ?_⟩
   obtain ⟨b, gR, g1, g2⟩ := c i x r
   refine ⟨b, g1, gR, fun j y hy => ?_⟩
   have hj : j < k := by
    rw [← g1]
    exact (aC.1 hy).1
   have h9 := g2 j hj
   rw [Go.Deep.add_add, hy] at h9
   obtain ⟨O, T', a7, d, a8, g⟩ := Af h9
   have o : (Addr.add ⟨s, u, none⟩ (i * k + j)).block = s ∧ (Addr.add ⟨s, u, none⟩ (i * k + j)).off = u + (i * k + j) := by
    unfold Addr.add
    split
    ·rename_i hz
     rw [hz]; exact ⟨rfl, rfl⟩
    ·exact ⟨rfl, rfl⟩
   rw [o.1, G] at d
   cases d
   rw [o.2, ← dh] at g
   exact g
  ·refine bk (CC _ _ _ rfl fun i x r => ?_) hB
   exact Nat.max_le.2 ⟨Fc _, (q i x r).elim fun _ h => h.2.2⟩
theorem Am {α : Type} {P : Program} {t e : TypeId} {k : Nat} {R : pJ α} {sz : α → Nat} (hk : P.cellsOf e = k) (a : 0 < k) (c : Fg P e R sz) (g : P.underlying t = some (.slice e)) {H : Type} {b : TypeId × Value → H} {W : World} {base : Nat} {sp : Nat → Bool} {held : Bool} {fuel : Nat} {cs : List Value} {x : DataW H × List MemPlace} (d : DataW.trod b P W base sp held fuel t cs = some x) :
  ∃ v l, cs = [v] ∧ Sl R k (hp W) v l ∧ xi sz l ≤ Rows.uptoBulk x.1 := As hk a g (fun _ _ _ h _ => c _ _ _ _ _ _ _ _ _ h) d
theorem Ao {α H : Type} {j : TypeId × Value → H} {P : Program} {t e : TypeId} {k : Nat} {enc : α → List Value} {sz : α → Nat} (hk : P.cellsOf e = k) (b : 0 < k) (p : xE P e enc sz) (g : P.underlying t = some (.slice e)) {W : World} {base i : Nat} {r : Reach} {sp : Nat → Bool} {held : Bool} {v : Value} {d : DataW H} {s : List MemPlace} (a : Value.okWide P W r i t v) (h : DataW.Trod j P W base sp held t v d s) :
  ∃ l : List α, Sl (Pl enc) k (hp W) v l ∧ xi sz l ≤ Rows.uptoBulk d := by
 obtain ⟨A, ln, c, rfl⟩ := okWide_slice g a
 obtain ⟨fuel, q⟩ := h
 obtain ⟨u, l, h1, m, n⟩ := Am hk b p.rel g q
 have o : (Value.slice A ln c).cells.toList = [Value.slice A ln c] := rfl
 rw [o] at h1
 cases h1
 exact ⟨l, m, n⟩
end Go.Proofs.YtbnbdigcbldfhaaGreat.Lf
namespace Go.Proofs.YtbnbdigcbldfhaaGreat.Lf
open Go.ChangeShapes Go.WideShapes Go.ChangeAt Go.RowKit
open Go.Proofs.YtbnbdigcbldfhaaGreat (Rows.uptoBulk Rows.uptoBulkAll Rows.uptoSmall)
def F3 {α : Type} (R : pJ α) (Q : α → Prop) : pJ α := fun μ a x => R μ a x ∧ Q x
theorem Sl.all {α : Type} {R : pJ α} {Q : α → Prop} {k : Nat} {μ : gT} {v : Value} {l : List α} (h : Sl (F3 R Q) k μ v l) : Sl R k μ v l ∧ ∀ x ∈ l, Q x := by
 obtain ⟨A, c, rfl, h1, j, r⟩ := h
 cases l with
 | nil => exact ⟨⟨A, c, rfl, h1, j, fun h => absurd h (by simp)⟩, by simp⟩
 | cons a l =>
  obtain ⟨b, o, cs, T, fr, e, s, m⟩ := r (by simp)
  refine ⟨⟨A, c, rfl, h1, j, fun _ => ⟨b, o, cs, T, fr, e, s, fun i x g => ?_⟩⟩, fun x g => ?_⟩
  ·obtain ⟨q, n, d, p⟩ := m i x g
   exact ⟨q, n, d.1, p⟩
  ·obtain ⟨i, t⟩ := List.mem_iff_getElem?.1 g
   obtain ⟨q, n, d, p⟩ := m i x t
   exact d.2
end Go.Proofs.YtbnbdigcbldfhaaGreat.Lf
namespace Go.Proofs.YtbnbdigcbldfhaaGreat
open Go.IntKind renaming wrap → wi0
open Go.Proofs.Tryz renaming prog → pg0
set_option maxRecDepth 10000
open Go.ChangeShapes Go.WideShapes Go.ChangeAt Go.RowKit
open Go.Proofs.YtbnbdigcbldfhaaGreat Go.Proofs.YtbnbdigcbldfhaaGreat.Lf
theorem FV : xE pg0 3 (fun n : Int => [.int .i64 n]) (fun _ => 0) := DT Tryz.underlying3
theorem EZ : Tryz.prog.cellsOf 3 = 1 := by kernel_rfl
theorem Bb : xE pg0 9 (fun s : ByteArray => [.string s]) (fun s => s.size) := Bj Tryz.underlying9
theorem BW : Tryz.prog.cellsOf 9 = 1 := by kernel_rfl
theorem AF : Tryz.prog.cellsOf 28 = 2 := by kernel_rfl
theorem EL {α : Type} {l : List α} (h : l.length = 2) : ∃ a0 a, l = [a0, a] := by
 match l, h with
 | [a0, a], _ => exact ⟨a0, a, rfl⟩
def tZ (x : gl) : Nat := x.gF.size + x.gY.size
theorem Br : xE pg0 28 gn tZ := by
 intro H d W base sp i fuel cs x h
 obtain ⟨xs, n, _, rfl, m, hlen, j⟩ := DataW.trod_struct Tryz.underlying28 h
 obtain ⟨p, q, rfl⟩ := EL hlen
 obtain ⟨a, c1, rfl⟩ := EL (m.trans AF)
 have g : DataW.trod d pg0 W base sp i n 9 (([a, c1].drop 0).take (Tryz.prog.cellsOf 9)) = some p := j 0 _ rfl
 have h1 : DataW.trod d pg0 W base sp i n 9 (([a, c1].drop 1).take (Tryz.prog.cellsOf 9)) = some q := j 1 _ rfl
 simp only [BW, List.drop, List.take] at g h1
 obtain ⟨o, b, k⟩ := Bb _ _ _ _ _ _ _ _ _ g
 obtain ⟨s1, c, l⟩ := Bb _ _ _ _ _ _ _ _ _ h1
 simp only [cD, and_true] at b c
 obtain rfl := b
 obtain rfl := c
 refine ⟨⟨o, s1⟩, rfl, ?_⟩
 simp only [List.map, Rows.uptoBulk, Rows.uptoBulkAll, tZ] at k l ⊢
 omega
theorem zJ : Tryz.prog.cellsOf 108 = 9 := by kernel_rfl
theorem FM {α : Type} {l : List α} (h : l.length = 6) : ∃ a0 a a2 a3 a4 a5, l = [a0, a, a2, a3, a4, a5] := by
 match l, h with
 | [a0, a, a2, a3, a4, a5], _ => exact ⟨a0, a, a2, a3, a4, a5, rfl⟩
theorem FP {α : Type} {l : List α} (h : l.length = 9) : ∃ a0 a a2 a3 a4 a5 b c d, l = [a0, a, a2, a3, a4, a5, b, c, d] := by
 match l, h with
 | [a0, a, a2, a3, a4, a5, b, c, d], _ => exact ⟨a0, a, a2, a3, a4, a5, b, c, d, rfl⟩
def sy (x : gm) : Nat := tZ x.Head + x.gP.size + tZ x.B + tZ x.C + x.gZ.size
theorem EI : xE pg0 108 gp sy := by
 intro H k W base sp l fuel cs x h
 obtain ⟨xs, n, _, rfl, M, hlen, m⟩ := DataW.trod_struct Tryz.underlying108 h
 obtain ⟨T, U, Y, Z, y4, y5, rfl⟩ := FM hlen
 obtain ⟨a, c1, c2, b, c, d, g, i, j, rfl⟩ := FP (M.trans zJ)
 have u : DataW.trod k pg0 W base sp l n 3 (([a, c1, c2, b, c, d, g, i, j].drop 0).take (Tryz.prog.cellsOf 3)) = some T := m 0 _ rfl
 have h1 : DataW.trod k pg0 W base sp l n 28 (([a, c1, c2, b, c, d, g, i, j].drop 1).take (Tryz.prog.cellsOf 28)) = some U := m 1 _ rfl
 have v : DataW.trod k pg0 W base sp l n 9 (([a, c1, c2, b, c, d, g, i, j].drop 3).take (Tryz.prog.cellsOf 9)) = some Y := m 2 _ rfl
 have w : DataW.trod k pg0 W base sp l n 28 (([a, c1, c2, b, c, d, g, i, j].drop 4).take (Tryz.prog.cellsOf 28)) = some Z := m 3 _ rfl
 have y : DataW.trod k pg0 W base sp l n 28 (([a, c1, c2, b, c, d, g, i, j].drop 6).take (Tryz.prog.cellsOf 28)) = some y4 := m 4 _ rfl
 have A : DataW.trod k pg0 W base sp l n 9 (([a, c1, c2, b, c, d, g, i, j].drop 8).take (Tryz.prog.cellsOf 9)) = some y5 := m 5 _ rfl
 simp only [AF, EZ, BW, List.drop, List.take] at u h1 v w y A
 obtain ⟨O, o, E⟩ := FV _ _ _ _ _ _ _ _ _ u
 obtain ⟨s1, p, G⟩ := Br _ _ _ _ _ _ _ _ _ h1
 obtain ⟨s2, q, I⟩ := Bb _ _ _ _ _ _ _ _ _ v
 obtain ⟨P, r, J⟩ := Br _ _ _ _ _ _ _ _ _ w
 obtain ⟨Q, s, K⟩ := Br _ _ _ _ _ _ _ _ _ y
 obtain ⟨R, t, L⟩ := Bb _ _ _ _ _ _ _ _ _ A
 simp only [gn, cD, and_true] at o p q r s t
 obtain rfl := o
 obtain ⟨rfl, rfl⟩ := p
 obtain rfl := q
 obtain ⟨rfl, rfl⟩ := r
 obtain ⟨rfl, rfl⟩ := s
 obtain rfl := t
 refine ⟨⟨O, s1, s2, P, Q, R⟩, rfl, ?_⟩
 simp only [List.map, Rows.uptoBulk, Rows.uptoBulkAll, sy] at E G I J K L ⊢
 omega
theorem FO : Tryz.prog.readableRec 22 = true ∧ 22 < Tryz.prog.types.size := ⟨by kernel_rfl, fL (by kernel_rfl)⟩
theorem Ds (c : gm) : ui c = sy c := by unfold ui sy tZ; omega
theorem ze (l : List gm) (h : xi sy l ≤ 1048576) : l.length ≤ 10000000 ∧ ∀ c ∈ l, ui c ≤ 1000000000 := by
 have := AP sy l
 refine ⟨by omega, fun c a => ?_⟩
 have := Cs (sz := sy) a
 rw [Ds]; omega
theorem own : ownKnob Tryz.prog.godebug = none := by kernel_rfl
theorem C3 : laidOutB pg0 = true := by kernel_rfl
theorem CS (H : Type) (enc : TypeId × Value → H) (W : World) (base : Nat) (args : Array Value) (b gs : List (DataW H)) (before : List MemPlace) (a : ∀ (j : Nat) t v, Tryz.f3.params[j]? = some t → args[j]? = some v → Value.okWide pg0 W .any base t v) (l : DataW.Whole enc pg0 Tryz.f3.params.toList Rows.weighTellsSpec.vars false W args.toList b gs before) (hk : Rows.uptoSmall H (b ++ gs) = true) :
  Calls pg0 3 args W fun e W' => ∃ v, e = .returned v ∧ Rows.weighTellsSpec.post enc pg0 Tryz.f3 false true false false W args v W' := by
 have d := l
 obtain ⟨p, q, c, s, rfl, u, x⟩ := l
 have i : DataW.TrodAll enc pg0 W 0 (fun _ => true) true Tryz.f3.params.toList args.toList b p := c
 have y : ∀ t ∈ Tryz.f3.params.toList, Tryz.prog.readableRec t = true ∧ t < Tryz.prog.types.size := by
  rw [Tryz.params3]
  intro t m
  simp only [ak, cc, dV] at m
  subst m
  exact FO
 rw [Tryz.params3] at i a
 obtain ⟨v0, I, d0, n, J, K, g, rfl, rfl, o, G⟩ := trodAll_cons i
 obtain ⟨rfl, rfl, rfl⟩ := trodAll_nil G
 obtain rfl : args = #[v0] := by cases args; simp_all
 obtain ⟨rfl, rfl⟩ := trodVars_none s
 have E := a 0 22 v0 rfl rfl
 obtain ⟨a0, h, z0⟩ := Ao (k := 9) zJ (by decide) EI Tryz.underlying22 E o
 have r : Rows.uptoBulkAll ([d0] ++ []) ≤ 1048576 := fL hk
 simp only [aX, Rows.uptoBulkAll] at r
 have hm : nL a0 = some true := xn Eb _ (ze _ (by omega)).1 (ze _ (by omega)).2
 have w := vt v0 a0 true W h hm
 refine bG w fun e W' ⟨he, A⟩ => ?_
 subst he
 exact ⟨_, rfl, Bf C3 y rfl d A (fun _ _ _ => trodAll_cons_mk (shut_bool Tryz.underlying4 _) trodAll_mk0) rfl rfl (ok_one (by kernel_rfl) rfl (okWide_bool_mk Tryz.underlying4 _))⟩
set_option maxRecDepth 100000 in
theorem EG (os : Os) (started : os.Started) (H : Type) (enc : TypeId × Value → H) (F : Stop.Interp) :
  ReturnsInHanded {} Tryz.checked os 3 .any ((Rows.OpenSpec.upto Rows.weighTellsSpec).pre6 enc pg0 Tryz.f3 Rows.weighTellsUptoRow.domain false) (((Rows.OpenSpec.upto Rows.weighTellsSpec).at F).post enc pg0 Tryz.f3 false true false false) := by
 refine returnsInHanded_of_cond (C := Tryz.checked) (s := Rows.OpenSpec.upto Rows.weighTellsSpec) (k := Rows.uptoSmall) rfl own started (by kernel_rfl) Tryz.func3
  (OpenSpec.witness (enc := enc) (C := Tryz.checked) (s := Rows.OpenSpec.upto Rows.weighTellsSpec) (k := Rows.uptoSmall) rfl false ⟨#[], #[.slice none 0 0], []⟩ 8 (by kernel_rfl) (by kernel_rfl) (by kernel_rfl)
   (x := ([.nil], [], [])) (by kernel_rfl) rfl (by kernel_rfl)) ?_
 intro W base args b gs before a c _ hk _
 exact CS H enc W base args b gs before a c hk
theorem Fl {a b : Bool} (c : a = true) (d : b = true) : (a && b) = true := by rw [c, d]; rfl
set_option maxHeartbeats 40000000 in
theorem DS : joinedFacts Tryz.checked.prog 3 Tryz.f3 (Rows.OpenSpec.upto Rows.weighTellsSpec).bare Rows.weighTellsUptoRow = true := by
 unfold joinedFacts
 repeat' with_reducible refine Fl ?_ ?_
 all_goals as_aux_lemma => kernel_rfl
theorem proved : Rows.WeighTellsUptoSaid :=
 OpenClaim.holds_of_cond 3 Tryz.f3 rfl rfl rfl rfl rfl rfl rfl ⟨rfl, rfl, rfl, rfl, rfl⟩ rfl rfl rfl rfl rfl (by kernel_rfl) Tryz.func3 DS
  (fL (by kernel_rfl)) (by unfold Func.isWrapper; first | (rw [ar (by decide +kernel)]; kernel_rfl) | (rw [al (by decide +kernel)]; exact ⟨rfl, rfl⟩))
  (fun os started H enc _ F => EG os started H enc F)
end Go.Proofs.YtbnbdigcbldfhaaGreat
