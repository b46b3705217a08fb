/- a part of a proof of WeighHolds -/
import Derived.Test.YtbnbdigcbldfhaaGreatRtWj
import Derived.Test.YtbnbdigcbldfhaaGreatW5Mj
import Derived.Test.YtbnbdigcbldfhaaGreatRows
import Derived.WalkKit
import Derived.ProofKit
import Derived.OpenShut
import Derived.JoinedCond
import Derived.Deep.Slices
import Derived.Carry
import Derived.ChangeArms
import Derived.ChangeSame
import Derived.Test.YtbnbdigcbldfhaaGreatW5W2j
set_option linter.all false
namespace Go.Proofs.YtbnbdigcbldfhaaGreat
open Go.IntKind renaming wrap → wi0
open Go.Proofs.Tryz renaming prog → pg0
open Go.RowKit
theorem sw {c x : Bool} : (if c = true then some x else some false : Option Bool) = some (c && x) := by cases c <;> rfl
theorem Fx {c x : Bool} : (if c = true then some true else some x : Option Bool) = some (c || x) := by cases c <;> rfl
theorem sF {α : Type} (x : Option α) : (x.bind fun y => some y) = x := by cases x <;> rfl
theorem jb {x : Int} (a : -9223372036854775808 ≤ x) (h1 : x ≤ 9223372036854775807) : wi0 .i64 x = x := IntWalk.i64_in _ (by omega)
theorem qC {α : Type} (A : List α) (x : α) (B : List α) (i : Int) (h : i = (A.length : Int)) : kM (A ++ x :: B) i = some x := by
 subst h; rw [zo]; simp
theorem tM : jq = 18446744073709551615 + 1 := by rw [oa]
def xX {α : Type} (f1 : α → Option Bool) (z : α) : Nat → List α → Int → Int → Option (List α)
 | 0, _, _, _ => none
 | n + 1, l, i, j => if decide (j < (l.length : Int)) then
   ((kM l j).bind fun x => (f1 x).bind fun r => if (!r) then (kM l i).bind fun _ => some (l.set (Int.toNat i) x, wi0 .i64 (i + 1)) else some (l, i) : Option (List α × Int)).bind fun (b, a) => xX f1 z n b a (wi0 .i64 (j + 1))
  else (mK (decide (0 ≤ i) && decide (i ≤ (l.length : Int)))).bind fun _ => (mK (decide (0 ≤ i) && decide (i ≤ ((lR l (Int.toNat i) z).length : Int)))).bind fun _ => some ((lR l (Int.toNat i) z).take (Int.toNat i))
theorem rO {a b : Int} (c : 0 ≤ a) (h1 : a ≤ b) : mK (decide (0 ≤ a) && decide (a ≤ b)) = some () := by simp [mK, c, h1]
theorem AZ {α : Type} (f1 : α → Option Bool) (p : α → Bool) (z : α) : ∀ (rest out mid : List α) (n : Nat), rest.length < n → (out ++ mid ++ rest).length < 4611686018427387904 → mid ≠ [] → (∀ x ∈ rest, f1 x = some (p x)) →
  xX f1 z n (out ++ mid ++ rest) (out.length : Int) ((out.length + mid.length : Nat) : Int) = some (out ++ rest.filter fun x => !p x)
 | [], out, mid, 0, h, _, _, _ => by simp at h
 | [], out, mid, n + 1, _, b, hm, _ => by
  rw [xX, ak (by simp)]
  have h1 : out.length ≤ (out ++ mid ++ []).length := by simp
  rw [rO (by omega) (by omega)]
  simp only [aa]
  rw [rO (by omega) (by rw [oF _ _ _ (by simpa using h1)]; omega)]
  simp only [aa, cY]
  rw [xM _ _ _ h1]
  simp
 | x :: rest, out, mid, 0, h, _, _, _ => by simp at h
 | x :: rest, out, mid, n + 1, h, b, hm, c => by
  have hlen : (out ++ mid ++ x :: rest).length = out.length + mid.length + rest.length + 1 := by simp; omega
  rw [hlen] at b
  rw [xX, an (by rw [hlen]; simp; omega)]
  rw [qC (out ++ mid) x rest _ (by simp)]
  simp only [aa, c x (by simp)]
  rw [jb (x := ((out.length + mid.length : Nat) : Int) + 1) (by omega) (by omega)]
  have ih := AZ f1 p z rest
  cases hp : p x with
  | true =>
   simp only [bn, ai, aY, aa]
   have := ih out (mid ++ [x]) n (by simp at h; omega) (by simp; omega) (by simp) (fun y d => c y (by simp [d]))
   simp only [ar, bt, aU, ag, aq, bA] at this ⊢
   rw [show ((out.length + mid.length : Nat) : Int) + 1 = ((out.length + (mid.length + (0 + 1)) : Nat) : Int) by omega, this]
   simp [hp]
  | false =>
   obtain ⟨m, a, rfl⟩ : ∃ m a, mid = m :: a := by cases mid with
    | nil => exact absurd rfl hm
    | cons m a => exact ⟨m, a, rfl⟩
   simp only [bT, bj]
   rw [ar out (m :: a) (x :: rest), bt]
   rw [qC out m (a ++ x :: rest) _ rfl]
   simp only [aa]
   rw [jb (x := (out.length : Int) + 1) (by omega) (by simp at b; omega)]
   have := ih (out ++ [x]) (a ++ [x]) n (by simp at h; omega) (by simp at b ⊢; omega) (by simp) (fun y d => c y (by simp [d]))
   simp only [ar, bt, aU, ag, aq, bA] at this
   have g : (out ++ m :: (a ++ x :: rest)).set (Int.toNat (out.length : Int)) x = out ++ x :: (a ++ x :: rest) := by
    rw [cY, List.set_append_right _ _ (aJ _)]; simp
   rw [g]
   simp only [aq] at b ⊢
   rw [show (out.length : Int) + 1 = ((out.length + (0 + 1) : Nat) : Int) by omega, show ((out.length + (a.length + 1) : Nat) : Int) + 1 = ((out.length + (0 + 1) + (a.length + (0 + 1)) : Nat) : Int) by omega, this]
   simp [hp]
def vH {α : Type} (f1 : α → Option Bool) : List α → Nat → Option Int
 | [], _ => some (-1)
 | x :: xs, i => (f1 x).bind fun r => if r then some (i : Int) else vH f1 xs (i + 1)
theorem xU {α : Type} (f1 : α → Option Bool) (p : α → Bool) : ∀ (l : List α) (i : Nat), (∀ x ∈ l, f1 x = some (p x)) →
  (vH f1 l i = some (-1) ∧ ∀ x ∈ l, p x = false) ∨ ∃ A x B, l = A ++ x :: B ∧ (∀ y ∈ A, p y = false) ∧ p x = true ∧ vH f1 l i = some ((i + A.length : Nat) : Int)
 | [], i, _ => .inl ⟨rfl, by simp⟩
 | x :: l, i, h => by
  rw [vH, h x (by simp)]
  simp only [aa]
  cases hp : p x with
  | true => exact .inr ⟨[], x, l, rfl, by simp, hp, by simp⟩
  | false =>
   simp only [ai, aY]
   rcases xU f1 p l (i + 1) (fun y a => h y (by simp [a])) with ⟨h1, b⟩ | ⟨A, y, B, rfl, h1, b, d⟩
   ·exact .inl ⟨h1, by intro y a; rcases aj.1 a with rfl | a; exact hp; exact b y a⟩
   ·refine .inr ⟨x :: A, y, B, rfl, ?_, b, ?_⟩
    ·intro z c; rcases aj.1 c with rfl | c
     ·exact hp
     ·exact h1 z c
    ·rw [d]; simp; omega
def Dw {α : Type} (f1 : α → Option Bool) (z : α) (l : List α) : Option (List α) :=
 (vH f1 l 0).bind fun a => if (a == (-1)) then some l else xX f1 z jq l a (wi0 .i64 (a + 1))
theorem E6 {α : Type} (f1 : α → Option Bool) (p : α → Bool) (z : α) (l : List α) (c : l.length < 4611686018427387904) (h : ∀ x ∈ l, f1 x = some (p x)) : Dw f1 z l = some (l.filter fun x => !p x) := by
 unfold Dw
 rcases xU f1 p l 0 h with ⟨h1, b⟩ | ⟨A, x, B, rfl, h1, b, d⟩
 ·rw [h1]
  simp only [aa, cg, bj]
  rw [dA.2 (fun y a => by simp [b y a])]
 ·rw [d]
  simp only [aa, cJ]
  rw [ak (by simp), jb (by omega) (by simp at c; omega)]
  have := AZ f1 p z B A [x] jq (by rw [oa]; simp at c; omega) (by simpa using c) (by simp) (fun y a => h y (by simp [a]))
  simp only [ar, bt, aU, aq, bA] at this
  rw [show (A.length : Int) + 1 = ((A.length + (0 + 1) : Nat) : Int) by omega, this]
  have g : A.filter (fun x => !p x) = A := dA.2 (fun y a => by simp [h1 y a])
  rw [fi, g]
  simp [b]
def mF {α : Type} (eq : α → α → Bool) : α → List α → List α
 | _, [] => []
 | p, y :: a => if eq y p then mF eq y a else y :: mF eq y a
def dd {α : Type} (eq : α → α → Bool) : List α → List α
 | [] => []
 | x :: xs => x :: mF eq x xs
def uW {α : Type} (eq : α → α → Bool) (i : Int) : Nat → List α → Int → Int → Option (List α × Int)
 | 0, _, _, _ => none
 | n + 1, l, k, j => if decide (j < ((l.length - Int.toNat i : Nat) : Int)) then
   ((kM (l.drop (Int.toNat i)) j).bind fun x => (kM (l.drop (Int.toNat i)) (wi0 .i64 (j - 1))).bind fun y => if !(eq x y) then (kM (l.drop (Int.toNat i)) j).bind fun z => (kM l k).bind fun _ => some (l.set (Int.toNat k) z, wi0 .i64 (k + 1)) else some (l, k) : Option (List α × Int)).bind fun (a, k') => uW eq i n a k' (wi0 .i64 (j + 1))
  else some (l, k)
def vA {α : Type} (eq : α → α → Bool) (z : α) (l : List α) : Nat → Int → Option (List α)
 | 0, _ => none
 | n + 1, i => if decide (i < (l.length : Int)) then (kM l i).bind fun x => (kM l (wi0 .i64 (i - 1))).bind fun y => if eq x y then
    (mK (decide (0 ≤ i) && decide (i ≤ (l.length : Int)))).bind fun _ => (uW eq i jq l i 1).bind fun (a, k) => (mK (decide (0 ≤ k) && decide (k ≤ (a.length : Int)))).bind fun _ => (mK (decide (0 ≤ k) && decide (k ≤ ((lR a (Int.toNat k) z).length : Int)))).bind fun _ => some ((lR a (Int.toNat k) z).take (Int.toNat k))
   else vA eq z l n (wi0 .i64 (i + 1))
  else some l
def zH {α : Type} (eq : α → α → Bool) (z : α) (l : List α) : Option (List α) := if decide ((l.length : Int) < 2) then some l else vA eq z l jq 1
theorem AW {α : Type} (l : List α) (i : Nat) (j : Int) (a : 0 ≤ j) : kM (l.drop i) j = kM l ((i : Int) + j) := by
 obtain ⟨m, rfl⟩ : ∃ m : Nat, j = m := ⟨j.toNat, by omega⟩
 rw [show (i : Int) + (m : Int) = ((i + m : Nat) : Int) by omega, zo, zo, bX]
theorem yw {α : Type} (eq : α → α → Bool) (i : Nat) : ∀ (rest out mid : List α) (p : α) (n : Nat), rest.length < n → (out ++ (mid ++ [p]) ++ rest).length < 4611686018427387904 → 1 ≤ i → i ≤ out.length →
  ∃ b, uW eq (i : Int) n (out ++ (mid ++ [p]) ++ rest) (out.length : Int) ((out.length + mid.length + 1 - i : Nat) : Int) = some (b, ((out ++ mF eq p rest).length : Int)) ∧ b.take (out ++ mF eq p rest).length = out ++ mF eq p rest ∧ (out ++ mF eq p rest).length ≤ b.length
 | [], out, mid, p, 0, h, _, _, _ => by simp at h
 | [], out, mid, p, n + 1, h, k, h1, j => by
  rw [uW, ak (by simp; omega)]
  exact ⟨out ++ (mid ++ [p]) ++ [], by simp [mF], by simp [mF], by simp [mF]⟩
 | x :: rest, out, mid, p, 0, h, _, _, _ => by simp at h
 | x :: rest, out, mid, p, n + 1, h, k, h1, j => by
  have hlen : (out ++ (mid ++ [p]) ++ x :: rest).length = out.length + mid.length + rest.length + 2 := by simp; omega
  rw [hlen] at k
  rw [uW, an (by rw [hlen]; simp; omega)]
  rw [cY, AW _ _ _ (by omega), qC (out ++ (mid ++ [p])) x rest _ (by simp; omega)]
  simp only [aa]
  rw [jb (x := ((out.length + mid.length + 1 - i : Nat) : Int) - 1) (by omega) (by omega), AW _ _ _ (by omega)]
  rw [show out ++ (mid ++ [p]) ++ x :: rest = (out ++ mid) ++ p :: (x :: rest) by simp]
  rw [qC (out ++ mid) p (x :: rest) _ (by simp; omega)]
  simp only [aa]
  rw [jb (x := ((out.length + mid.length + 1 - i : Nat) : Int) + 1) (by omega) (by omega)]
  cases hp : eq x p with
  | true =>
   simp only [bn, ai, aY, aa]
   obtain ⟨b, c, d, g⟩ := yw eq i rest out (mid ++ [p]) x n (by simp at h; omega) (by simp; omega) h1 j
   refine ⟨b, ?_, by rw [mF, hp]; exact d, by rw [mF, hp]; exact g⟩
   rw [mF, hp, an rfl, ← c]
   congr 1
   ·simp
   ·simp; omega
  | false =>
   simp only [bT, bj]
   obtain ⟨m, a, hm⟩ : ∃ m a, mid ++ [p] = m :: a := by cases mid with
    | nil => exact ⟨p, [], rfl⟩
    | cons m a => exact ⟨m, a ++ [p], rfl⟩
   have o : a.length = mid.length := by have := ay List.length hm; simp at this; omega
   rw [show (out ++ mid) ++ p :: (x :: rest) = out ++ m :: (a ++ x :: rest) by rw [← bt, ← hm]; simp]
   rw [qC out m (a ++ x :: rest) _ rfl]
   simp only [aa]
   rw [jb (x := (out.length : Int) + 1) (by omega) (by omega)]
   have q : (out ++ m :: (a ++ x :: rest)).set (Int.toNat (out.length : Int)) x = (out ++ [x]) ++ (a ++ [x]) ++ rest := by
    rw [cY, List.set_append_right _ _ (aJ _)]; simp
   rw [q]
   obtain ⟨b, c, d, g⟩ := yw eq i rest (out ++ [x]) a x n (by simp at h; omega) (by simp; omega) h1 (by simp; omega)
   refine ⟨b, ?_, ?_, ?_⟩
   ·rw [mF, hp, ak (by decide)]
    have l : ((out ++ x :: mF eq x rest).length : Int) = ((out ++ [x] ++ mF eq x rest).length : Int) := by simp
    rw [l, ← c]
    congr 1
    ·simp
    ·simp; omega
   ·rw [mF, hp, ak (by decide)]; simpa using d
   ·rw [mF, hp, ak (by decide)]; simpa using g
theorem Bq {α : Type} (eq : α → α → Bool) (z : α) : ∀ (rest pre : List α) (p : α) (n : Nat), rest.length < n → (pre ++ p :: rest).length < 4611686018427387904 →
  vA eq z (pre ++ p :: rest) n ((pre.length + 1 : Nat) : Int) = some (pre ++ p :: mF eq p rest)
 | [], pre, p, 0, h, _ => by simp at h
 | [], pre, p, n + 1, h, g => by rw [vA, ak (by simp)]; simp [mF]
 | x :: rest, pre, p, 0, h, _ => by simp at h
 | x :: rest, pre, p, n + 1, h, g => by
  have hlen : (pre ++ p :: x :: rest).length = pre.length + rest.length + 2 := by simp; omega
  rw [hlen] at g
  rw [vA, an (by rw [hlen]; simp; omega)]
  rw [show pre ++ p :: x :: rest = (pre ++ [p]) ++ x :: rest by simp, qC (pre ++ [p]) x rest _ (by simp)]
  simp only [aa]
  rw [jb (x := ((pre.length + 1 : Nat) : Int) - 1) (by omega) (by omega)]
  rw [show (pre ++ [p]) ++ x :: rest = pre ++ p :: (x :: rest) by simp, qC pre p (x :: rest) _ (by omega)]
  simp only [aa]
  cases hp : eq x p with
  | true =>
   simp only [bj]
   rw [rO (by omega) (by rw [hlen]; omega)]
   simp only [aa]
   obtain ⟨i, a, d, c⟩ := yw eq (pre.length + 1) rest (pre ++ [p]) [] x jq (by rw [oa]; omega) (by simp; omega) (by omega) (by simp)
   simp only [ar, bt, aU, ag, aq, bA] at a d c
   rw [show (pre.length + (0 + 1) + 0 + 1 - (pre.length + 1) : Nat) = 1 by omega] at a
   rw [show ((pre.length + 1 : Nat) : Int) = ((pre.length + (0 + 1) : Nat) : Int) by omega] at *
   have b : uW eq ((pre.length + (0 + 1) : Nat) : Int) jq (pre ++ p :: x :: rest) ((pre.length + (0 + 1) : Nat) : Int) 1 = _ := a
   rw [b]
   simp only [aa]
   rw [rO (by omega) (by omega)]
   simp only [aa, cY]
   rw [rO (by omega) (by rw [oF _ _ _ c]; omega)]
   simp only [aa]
   rw [xM _ _ _ c, d, mF, hp]
   simp
  | false =>
   simp only [ai, aY]
   rw [jb (x := ((pre.length + 1 : Nat) : Int) + 1) (by omega) (by omega)]
   have := Bq eq z rest (pre ++ [p]) x n (by simp at h; omega) (by simp; omega)
   simp only [ar, bt, aU, ag, aq, bA] at this
   rw [show ((pre.length + 1 : Nat) : Int) + 1 = ((pre.length + (0 + 1) + 1 : Nat) : Int) by omega, this, mF, hp]
   simp
theorem BF {α : Type} (eq : α → α → Bool) (z : α) (l : List α) (a : l.length < 4611686018427387904) : zH eq z l = some (dd eq l) := by
 unfold zH
 cases l with
 | nil => rfl
 | cons x xs =>
  cases xs with
  | nil => simp [dd, mF]
  | cons y b =>
   rw [ak (by simp; omega)]
   have := Bq eq z (y :: b) [] x jq (by rw [oa]; simp at a ⊢; omega) (by simpa using a)
   simpa [dd] using this
structure sZ {α : Type} (lt : α → α → Prop) (P : α → Prop) : Prop where
 irrefl : ∀ x, P x → ¬ lt x x
 trans : ∀ x y z, P x → P y → P z → lt x y → lt y z → lt x z
 total : ∀ x y, P x → P y → lt x y ∨ x = y ∨ lt y x
def kZ {α : Type} (lt : α → α → Prop) (P : α → Prop) (l out : List α) : Prop := out.Pairwise lt ∧ ∀ x, x ∈ out ↔ x ∈ l ∧ P x
theorem kZ.unique {α : Type} {lt : α → α → Prop} {P : α → Prop} (H : sZ lt P) : ∀ {l a b : List α}, kZ lt P l a → kZ lt P l b → a = b := by
 have key : ∀ a b : List α, (∀ x ∈ a, P x) → a.Pairwise lt → b.Pairwise lt → (∀ x, x ∈ a ↔ x ∈ b) → a = b := by
  intro a
  induction a with
  | nil => intro b _ _ _ hm; cases b with
   | nil => rfl
   | cons y q => exact absurd ((hm y).2 (by simp)) (by simp)
  | cons x xs ih =>
   intro b n j k hm
   cases b with
   | nil => exact absurd ((hm x).1 (by simp)) (by simp)
   | cons y q =>
    have o : P y := n y ((hm y).2 (by simp))
    have c : P x := n x (by simp)
    have d := bY.1 j
    have g := bY.1 k
    have p : x = y := by
     rcases aj.1 ((hm x).1 (by simp)) with h | h
     ·exact h
     ·rcases aj.1 ((hm y).2 (by simp)) with m | m
      ·exact m.symm
      ·exact absurd (H.trans x y x c o c (d.1 y m) (g.1 x h)) (H.irrefl x c)
    subst p
    congr 1
    refine ih q (fun z i => n z (by simp [i])) d.2 g.2 (fun z => ?_)
    constructor
    ·intro i
     rcases aj.1 ((hm z).1 (by simp [i])) with h | h
     ·subst h; exact absurd (d.1 z i) (H.irrefl z c)
     ·exact h
    ·intro i
     rcases aj.1 ((hm z).2 (by simp [i])) with h | h
     ·subst h; exact absurd (g.1 z i) (H.irrefl z c)
     ·exact h
 intro l a b j k
 exact key a b (fun x r => ((j.2 x).1 r).2) j.1 k.1 (fun x => (j.2 x).trans (k.2 x).symm)
theorem vU {α : Type} {eq : α → α → Bool} (he : ∀ x y, eq x y = true ↔ x = y) : ∀ (l : List α) (p x : α), x ∈ p :: mF eq p l ↔ x ∈ p :: l
 | [], p, x => by simp [mF]
 | y :: l, p, x => by
  rw [mF]
  split
  ·rename_i h
   have := (he y p).1 h
   subst this
   rw [vU he l y x]; simp
  ·have := vU he l y x
   simp only [aj] at this ⊢
   rw [this]
theorem G9 {α : Type} {eq : α → α → Bool} (he : ∀ x y, eq x y = true ↔ x = y) (l : List α) (x : α) : x ∈ dd eq l ↔ x ∈ l := by
 cases l with
 | nil => simp [dd]
 | cons y l => exact vU he l y x
theorem uI {α : Type} {eq : α → α → Bool} {lt : α → α → Prop} {P : α → Prop} (he : ∀ x y, eq x y = true ↔ x = y) (H : sZ lt P) : ∀ (l : List α) (p : α), (∀ x ∈ p :: l, P x) → (p :: l).Pairwise (fun a b => ¬ lt b a) → (p :: mF eq p l).Pairwise lt
 | [], p, _, _ => by simp [mF]
 | y :: l, p, c, n => by
  have h1 := bY.1 n
  rw [mF]
  split
  ·rename_i h
   have := (he y p).1 h
   subst this
   exact uI he H l y (fun x i => c x (cU _ i)) h1.2
  ·rename_i h
   have ih := uI he H l y (fun x i => c x (cU _ i)) h1.2
   refine bY.2 ⟨fun z m => ?_, ih⟩
   have g : lt p y := by
    rcases H.total p y (c p (by simp)) (c y (by simp)) with d | d | d
    ·exact d
    ·exact absurd ((he y p).2 d.symm) h
    ·exact absurd d (h1.1 y (by simp))
   rcases aj.1 m with rfl | j
   ·exact g
   ·have k : z ∈ y :: l := (vU he l y z).1 m
    exact H.trans p y z (c p (by simp)) (c y (by simp)) (c z (cU _ k)) g ((bY.1 ih).1 z j)
theorem DK {α : Type} {eq : α → α → Bool} {lt : α → α → Prop} {P : α → Prop} (he : ∀ x y, eq x y = true ↔ x = y) (H : sZ lt P) (l : List α) (c : ∀ x ∈ l, P x) (d : l.Pairwise (fun a b => ¬ lt b a)) : (dd eq l).Pairwise lt := by
 cases l with
 | nil => simp [dd]
 | cons y l => exact uI he H l y c d
theorem sW {α : Type} {le : α → α → Bool} {P : α → Prop} (i : ∀ a b c, P a → P b → P c → le a b = true → le b c = true → le a c = true) (h : ∀ a b, P a → P b → (le a b || le b a) = true) (l : List α) (d : ∀ x ∈ l, P x) :
  (l.mergeSort le).Pairwise (fun a b => le a b = true) := by
 have e : l = (l.attachWith P d).map Subtype.val := by simp
 have hm : ((l.attachWith P d).mergeSort fun a b => le a.1 b.1).map Subtype.val = l.mergeSort le := by
  conv => rhs; rw [e]
  exact fk (fun a _ b _ => rfl)
 rw [← hm, ct]
 exact eC (le := fun (a b : {x // P x}) => le a.1 b.1) (fun a b c h1 g => i a.1 b.1 c.1 a.2 b.2 c.2 h1 g) (fun a b => h a.1 b.1 a.2 b.2) _
theorem xJ {α : Type} {eq : α → α → Bool} {lt : α → α → Prop} {P : α → Prop} {cf : α × α → Option Int} {l : List α} (he : ∀ x y, eq x y = true ↔ x = y) (H : sZ lt P) (g : ∀ x ∈ l, P x) (A : l.length < 4611686018427387904) (w : ∀ x y, P x → P y → ∃ c, cf (x, y) = some c ∧ (c < 0 ↔ lt x y)) : ∃ s, rV cf l = some s ∧ s.length = l.length ∧ kZ lt P l (dd eq s) := by
 have j : ∀ x y, P x → P y → (nj cf x y = true ↔ lt x y) := fun x y i n => by
  obtain ⟨c, h1, m⟩ := w x y i n
  unfold nj
  rw [h1]
  simpa using m
 have d : ∀ x y, P x → P y → (nj cf x y = false ↔ ¬ lt x y) := fun x y i n => by
  rw [← j x y i n]; simp
 have ok : vi cf l := by
  refine ⟨fun x i y n => ?_, fun x i => ?_, fun x i y n z u h1 m => ?_, fun x i y n h1 m => ?_, A⟩
  ·obtain ⟨c, h1, _⟩ := w x y (g x i) (g y n); exact ⟨c, h1⟩
  ·exact (d x x (g x i) (g x i)).2 (H.irrefl x (g x i))
  ·rw [j _ _ (g x i) (g y n)] at h1
   rw [j _ _ (g y n) (g z u)] at m
   rw [j _ _ (g x i) (g z u)]
   exact H.trans x y z (g x i) (g y n) (g z u) h1 m
  ·rw [d _ _ (g x i) (g y n)] at h1
   rw [d _ _ (g y n) (g x i)] at m
   rcases H.total x y (g x i) (g y n) with h | h | h
   ·exact absurd h h1
   ·exact h
   ·exact absurd h m
 refine ⟨_, BI ok, by simp [ms], ?_, ?_⟩
 ·have k : ∀ x, x ∈ ms cf l ↔ x ∈ l := fun x => by simp [ms]
  refine DK he H _ (fun x i => g x ((k x).1 i)) ?_
  have := sW (le := fun x y => !nj cf y x) (P := P) (fun a b c o p q h1 m => ?_) (fun a b o p => ?_) l g
  ·refine (this.imp_of_mem ?_ : _)
   intro a b o p h
   have r : a ∈ l := (k a).1 o
   have t : b ∈ l := (k b).1 p
   simp at h
   exact (d b a (g b t) (g a r)).1 h
  ·simp at h1 m ⊢
   rw [d _ _ p o] at h1
   rw [d _ _ q p] at m
   rw [d _ _ q o]
   intro v
   rcases H.total a b o p with h | h | h
   ·exact m (H.trans c a b q o p v h)
   ·subst h; exact m v
   ·exact h1 h
  ·simp only [dq, da]
   rw [d _ _ p o, d _ _ o p]
   by_cases h : lt b a
   ·right; intro m; exact H.irrefl a o (H.trans a b a o p o m h)
   ·exact .inl h
 ·intro x
  rw [G9 he]
  constructor
  ·intro i
   have : x ∈ l := by simpa [ms] using i
   exact ⟨this, g x this⟩
  ·intro i; simpa [ms] using i.1
theorem wI : ∀ a : List UInt8, Op.bytesLess a a = false
 | [] => rfl
 | x :: a => by simp [Op.bytesLess, wI a]
theorem Bl (x y : UInt8) : x < y ∨ x = y ∨ y < x := by
 rcases Nat.lt_trichotomy x.toNat y.toNat with h | h | h
 ·exact .inl h
 ·exact .inr (.inl (UInt8.toNat_inj.1 h))
 ·exact .inr (.inr h)
theorem x9 : ∀ a b c : List UInt8, Op.bytesLess a b = true → Op.bytesLess b c = true → Op.bytesLess a c = true
 | [], [], c, h1, _ => by simp [Op.bytesLess] at h1
 | _ :: _, [], c, h1, _ => by simp [Op.bytesLess] at h1
 | a, _ :: _, [], _, d => by simp [Op.bytesLess] at d
 | [], b :: g, c :: cs, _, _ => rfl
 | a :: ax, b :: g, c :: cs, h1, d => by
  simp only [Op.bytesLess, dq, cZ, aH, gn] at h1 d ⊢
  rcases h1 with h1 | ⟨rfl, h1⟩
  ·rcases d with d | ⟨rfl, d⟩
   ·exact .inl (UInt8.lt_trans h1 d)
   ·exact .inl h1
  ·rcases d with d | ⟨rfl, d⟩
   ·exact .inl d
   ·exact .inr ⟨rfl, x9 ax g cs h1 d⟩
theorem yh : ∀ a b : List UInt8, Op.bytesLess a b = true ∨ a = b ∨ Op.bytesLess b a = true
 | [], [] => .inr (.inl rfl)
 | [], _ :: _ => .inl rfl
 | _ :: _, [] => .inr (.inr rfl)
 | a :: ax, b :: c => by
  simp only [Op.bytesLess, dq, cZ, aH, gn, cx]
  rcases Bl a b with h | h | h
  ·exact .inl (.inl h)
  ·subst h
   rcases yh ax c with h | h | h
   ·exact .inl (.inr ⟨rfl, h⟩)
   ·exact .inr (.inl ⟨rfl, h⟩)
   ·exact .inr (.inr (.inr ⟨rfl, h⟩))
  ·exact .inr (.inr (.inl h))
theorem zi : ∀ a b : List UInt8, (Lib.compareBytes a b < 0 ↔ Op.bytesLess a b = true)
 | [], [] => by simp [Lib.compareBytes, Op.bytesLess]
 | [], _ :: _ => by simp [Lib.compareBytes, Op.bytesLess]
 | _ :: _, [] => by simp [Lib.compareBytes, Op.bytesLess]
 | a :: ax, b :: g => by
  simp only [Lib.compareBytes, Op.bytesLess, dq, cZ, aH, gn]
  by_cases h : a < b
  ·simp [h]
  ·by_cases d : b < a
   ·have : a ≠ b := by rintro rfl; exact h d
    simp [h, d, this]
   ·have : a = b := by rcases Bl a b with c | c | c; exact absurd c h; exact c; exact absurd c d
    subst this
    simp [h, zi ax g]
theorem BB : ∀ a b : List UInt8, (Lib.compareBytes a b = 0 ↔ a = b)
 | [], [] => by simp [Lib.compareBytes]
 | [], _ :: _ => by simp [Lib.compareBytes]
 | _ :: _, [] => by simp [Lib.compareBytes]
 | a :: ax, b :: g => by
  simp only [Lib.compareBytes, cx]
  by_cases h : a < b
  ·simp only [h, bj]
   constructor
   ·intro h; cases h
   ·rintro ⟨rfl, _⟩; exact absurd h (by simp)
  ·by_cases d : b < a
   ·simp only [h, d, bj, aY]
    constructor
    ·intro h; cases h
    ·rintro ⟨rfl, _⟩; exact absurd d (by simp)
   ·have : a = b := by rcases Bl a b with c | c | c; exact absurd c h; exact c; exact absurd c d
    subst this
    simp [h, BB ax g]
theorem tE (a b : ByteArray) : li a b = Op.bytesLess a.data.toList b.data.toList := by unfold li; rw [dz, dz]
theorem u0 {a b : ByteArray} (h : a.data.toList = b.data.toList) : a = b := gb (Array.toList_inj.1 h)
theorem nN (a : ByteArray) : li a a = false := by rw [tE, wI]
theorem rL {a b c : ByteArray} (h1 : li a b = true) (d : li b c = true) : li a c = true := by rw [tE] at *; exact x9 _ _ _ h1 d
theorem oQ (a b : ByteArray) : li a b = true ∨ a = b ∨ li b a = true := by
 rw [tE, tE]
 rcases yh a.data.toList b.data.toList with h | h | h
 ·exact .inl h
 ·exact .inr (.inl (u0 h))
 ·exact .inr (.inr h)
theorem sJ {a b : ByteArray} (h : li a b = true) : li b a = false := by
 cases c : li b a with
 | false => rfl
 | true => have := rL h c; rw [nN] at this; cases this
theorem sa (P : ByteArray → Prop) : sZ (fun a b => li a b = true) P :=
 ⟨fun x _ h => (by rw [nN] at h; cases h), fun x y z _ _ _ => rL, fun x y _ _ => oQ x y⟩
def tO (b : UInt8) : Bool := decide (97 ≤ b.toNat) && decide (b.toNat ≤ 122)
def u9 (b : UInt8) : Bool := tO b || (decide (48 ≤ b.toNat) && decide (b.toNat ≤ 57)) || decide (b.toNat = 45)
def jx (s : ByteArray) : Bool := decide (1 ≤ s.size) && decide (s.size ≤ 16) && (match s.data.toList with | [] => false | b :: _ => tO b) && s.data.toList.all u9
theorem kv {s : ByteArray} (h : jx s = true) : 1 ≤ s.size ∧ s.size ≤ 16 := by
 simp only [jx, aH, cZ] at h
 exact h.1.1
theorem C4 : ∀ n : Nat, n < 256 → decide (qJ (⟨#[97, 98, 99, 100, 101, 102, 103, 104, 105, 106, 107, 108, 109, 110, 111, 112, 113, 114, 115, 116, 117, 118, 119, 120, 121, 122]⟩ : ByteArray) (n : Int) ≥ 0) = tO (UInt8.ofNat n) := by decide +kernel
theorem Fb : ∀ n : Nat, n < 256 → decide (qJ (⟨#[97, 98, 99, 100, 101, 102, 103, 104, 105, 106, 107, 108, 109, 110, 111, 112, 113, 114, 115, 116, 117, 118, 119, 120, 121, 122, 48, 49, 50, 51, 52, 53, 54, 55, 56, 57, 45]⟩ : ByteArray) (n : Int) < 0) = !u9 (UInt8.ofNat n) := by decide +kernel
theorem qy (s : ByteArray) : s.size = s.data.toList.length := by rw [cj]; rfl
theorem xI {s : ByteArray} (h : s.size ≤ 16) : vh s = some (nG s) := by
 unfold vh; rw [an (by unfold maxLen; omega)]
theorem Bz : ∀ l : List UInt8, pk (l.map fun b => (b.toNat : Int)) = some (l.all u9)
 | [] => rfl
 | b :: l => by
  rw [aC, pk]
  simp only [mR, kE, aa]
  have a := Fb b.toNat (fG b)
  rw [a]
  simp only [fY, List.all_cons]
  cases u9 b with
  | true => simp [Bz l]
  | false => simp
theorem Am {s : ByteArray} {b : UInt8} {l : List UInt8} (h : s.data.toList = b :: l) : te s 0 = some b := by
 unfold te
 rw [an (Int.le_refl 0)]
 have a : s.data[0]? = some b := by rw [← bz, h]; rfl
 show s[0]? = some b
 rw [← a]
 rfl
theorem qi (s : ByteArray) : mw s = some (jx s) := by
 unfold mw
 simp only [sw, aa, sF]
 by_cases h1 : 1 ≤ s.size
 ·by_cases a : s.size ≤ 16
  ·rw [an (by simp; omega)]
   obtain ⟨b, l, c⟩ : ∃ b l, s.data.toList = b :: l := by
    cases h : s.data.toList with
    | nil => rw [qy, h] at h1; simp at h1
    | cons b l => exact ⟨b, l, rfl⟩
   rw [Am c]
   simp only [aa, mR, kE]
   rw [C4 b.toNat (fG b)]
   simp only [fY, jx, h1, a, c, decide_true, eU]
   cases tO b with
   | false => simp
   | true =>
    simp only [bj, uH, xI a, aa, nG]
    rw [Bz, c]
    simp
  ·rw [ak (by simp; omega)]
   simp [jx, a]
 ·rw [ak (by simp; omega)]
  simp [jx, h1]
theorem FP {s : ByteArray} {A B : List UInt8} {b : UInt8} (h : s.data.toList = A ++ b :: B) (i : Int) (c : i = (A.length : Int)) : te s i = some b := by
 subst c
 unfold te
 rw [an (by omega), cY]
 have a : s.data[A.length]? = some b := by rw [← bz, h]; simp
 show s[A.length]? = some b
 rw [← a]
 rfl
theorem wL (s : ByteArray) (t : s.size ≤ 16) : ∀ (B A : List UInt8) (n : Nat), s.data.toList = A ++ B → B.length < n → lX s n (A.length : Int) = some (B.all u9)
  | [], A, 0, _, h => by simp at h
  | [], A, n + 1, h, _ => by
    have : s.size = A.length := by rw [qy, h]; simp
    rw [lX, ak (by rw [this]; simp)]
    rfl
  | b :: B, A, 0, _, h => by simp at h
  | b :: B, A, n + 1, h, r => by
    have k : s.size = A.length + B.length + 1 := by rw [qy, h]; simp; omega
    rw [lX, an (by rw [k]; simp; omega)]
    rw [FP h _ rfl]
    simp only [aa]
    rw [jb (x := (A.length : Int) + 1) (by omega) (by omega)]
    have ih := wL s t B (A ++ [b]) n (by rw [h]; simp) (by simp at r; omega)
    rw [show ((A ++ [b]).length : Int) = (A.length : Int) + 1 by simp] at ih
    simp only [List.all_cons]
    have j : ∀ n : Nat, n < 256 → u9 (UInt8.ofNat n) = !((decide (n < 97) || decide (n > 122)) && (decide (n < 48) || decide (n > 57)) && decide (n ≠ 45)) := by decide +kernel
    have l := j b.toNat (fG b)
    simp only [fY] at l
    rw [l]
    by_cases h1 : b.toNat < 97 <;> by_cases m : b.toNat > 122 <;> by_cases o : b.toNat < 48 <;> by_cases p : b.toNat > 57 <;> by_cases q : b.toNat = 45 <;>
      first
      | omega
      | (have a : ((b.toNat : Int) < 97) = (b.toNat < 97) := by rw [fH]; omega
         have c : ((b.toNat : Int) > 122) = (b.toNat > 122) := by rw [fH]; omega
         have d : ((b.toNat : Int) < 48) = (b.toNat < 48) := by rw [fH]; omega
         have g : ((b.toNat : Int) > 57) = (b.toNat > 57) := by rw [fH]; omega
         have i : ((b.toNat : Int) != 45) = !decide (b.toNat = 45) := by rw [aQ]; simp; omega
         simp [h1, m, o, p, q, a, c, d, g, i, ih])
theorem pB (a : ByteArray) : iB a a = true := iX.2 rfl
theorem Gk : zS.size = 0 := rfl
theorem FA {s : ByteArray} : s = zS ↔ s.size = 0 := by
 constructor
 ·rintro rfl; rfl
 ·intro h; exact u0 (by rw [qy] at h; rw [bx.1 h]; rfl)
theorem rD (s : ByteArray) : mL s = some (jx s) := by
 unfold mL
 simp only [Fx, aa, sF]
 by_cases g : s.size = 0
 ·have : s = zS := FA.2 g
  subst this
  rw [pB]
  rfl
 ·have n : iB s zS = false := by
   cases h : iB s zS with
   | false => rfl
   | true => exact absurd (FA.1 (iX.1 h)) g
  rw [n]
  simp only [gf]
  by_cases i : s.size ≤ 16
  ·rw [ak (by simp; omega)]
   obtain ⟨b, l, k⟩ : ∃ b l, s.data.toList = b :: l := by
    cases h : s.data.toList with
    | nil => rw [qy, h] at g; simp at g
    | cons b l => exact ⟨b, l, rfl⟩
   rw [Am k]
   simp only [aa, Fx]
   have m := wL s i s.data.toList [] jq rfl (by rw [oa, ← qy]; omega)
   simp only [bA] at m
   rw [show (0 : Int) = ((0 : Nat) : Int) from rfl] at *
   rw [m]
   have j : ((b.toNat : Int) < 97) = (b.toNat < 97) := by rw [fH]; omega
   have d : ((b.toNat : Int) > 122) = (b.toNat > 122) := by rw [fH]; omega
   have h1 : 1 ≤ s.size := by omega
   simp only [jx, h1, i, k, tO, decide_true, eU, j, d]
   by_cases a : b.toNat < 97
   ·simp [a, show ¬ 97 ≤ b.toNat by omega]
   ·by_cases c : b.toNat > 122
    ·simp [a, c, show ¬ b.toNat ≤ 122 by omega]
    ·simp [a, c, show 97 ≤ b.toNat by omega, show b.toNat ≤ 122 by omega]
  ·rw [an (by simp; omega)]
   simp [jx, i]
def iV (r : gH) : Bool := jx r.gU && jx r.iz
theorem uo (r : gH) : mx r = some (iV r) := by
 unfold mx iV
 simp only [qi, aa]
 cases jx r.gU <;> simp
theorem tJ (r : gH) : nC r = some (iV r) := by
 unfold nC iV
 simp only [rD, aa]
 cases jx r.gU <;> simp
def oX (a b : gH) : Bool := li a.gU b.gU || (iB a.gU b.gU && li a.iz b.iz)
theorem qf (a b : gH) : ow a b = some (oX a b) := by
 unfold ow oX
 cases li a.gU b.gU <;> cases iB a.gU b.gU <;> simp
theorem CD {a b : ByteArray} (h : a ≠ b) : iB a b = false := by
 cases c : iB a b with
 | false => rfl
 | true => exact absurd (iX.1 c) h
theorem tF {a b : gH} : oX a b = true ↔ li a.gU b.gU = true ∨ (a.gU = b.gU ∧ li a.iz b.iz = true) := by
 simp [oX, iX]
theorem um (P : gH → Prop) : sZ (fun a b => oX a b = true) P := by
 refine ⟨fun x _ h => ?_, fun x y z _ _ _ h1 c => ?_, fun x y _ _ => ?_⟩
 ·rw [tF] at h
  simp [nN] at h
 ·rw [tF] at *
  rcases h1 with h1 | ⟨g, h1⟩
  ·rcases c with c | ⟨d, c⟩
   ·exact .inl (rL h1 c)
   ·exact .inl (by rw [← d]; exact h1)
  ·rcases c with c | ⟨d, c⟩
   ·exact .inl (by rw [g]; exact c)
   ·exact .inr ⟨g.trans d, rL h1 c⟩
 ·simp only [tF]
  rcases oQ x.gU y.gU with h | h | h
  ·exact .inl (.inl h)
  ·rcases oQ x.iz y.iz with c | c | c
   ·exact .inl (.inr ⟨h, c⟩)
   ·refine .inr (.inl ?_)
    cases x; cases y; simp at h c; simp [h, c]
   ·exact .inr (.inr (.inr ⟨h.symm, c⟩))
  ·exact .inr (.inr (.inl h))
theorem tl (a b : gH) : ∃ c, po a b = some c ∧ (c < 0 ↔ oX a b = true) := by
 unfold po
 simp only [oY, mh, aa, tL, qj]
 have h1 : ∀ a b : ByteArray, (oO a b < 0 ↔ li a b = true) := fun a b => by rw [tE]; exact zi _ _
 have g : ∀ a b : ByteArray, (oO a b = 0 ↔ a = b) := fun a b => by
  unfold oO; rw [BB]; exact ⟨u0, fun h => by rw [h]⟩
 by_cases e : oO a.gU b.gU = 0
 ·rw [ak (by simp [e])]
  have e' := (g _ _).1 e
  by_cases d : oO a.iz b.iz = 0
  ·rw [ak (by simp [d])]
   refine ⟨0, rfl, ?_⟩
   rw [tF, e', (g _ _).1 d]
   simp [nN]
  ·rw [an (by simp [d])]
   refine ⟨_, rfl, ?_⟩
   rw [tF, e', h1]
   simp [nN]
 ·rw [an (by simp [e])]
  refine ⟨_, rfl, ?_⟩
  rw [tF, h1]
  have : a.gU ≠ b.gU := fun h => e ((g _ _).2 h)
  simp [this]
def zR : gH := ⟨zS, zS⟩
theorem Ai (a b : ByteArray) : iB a b = iB b a := by rw [aQ, iX, iX]; exact eq_comm
theorem wX (a b : gH) : gO a b = gO b a := by rw [aQ, gP, gP]; exact eq_comm
theorem ns (a : gH) : gO a a = true := gP.2 rfl
def iC (c : gG) : Bool := iV c.Head && (
 if c.Kind == 1 then jx c.ib && gO zR c.B && gO zR c.C && iB zS c.iv
 else if c.Kind == 2 then iV c.B && iB zS c.ib && gO zR c.C && iB zS c.iv
 else if c.Kind == 3 then iV c.B && iB c.B.gU c.Head.gU && jx c.iv && iB zS c.ib && gO zR c.C
 else if c.Kind == 4 then iV c.B && iV c.C && oX c.B c.C && iB zS c.ib && iB zS c.iv
 else false)
theorem mA (c : gG) : my c = some (iC c) := by
 unfold my iC
 simp only [uo, qi, aa]
 obtain ⟨k, hk, a⟩ := tl c.B c.C
 rw [hk]
 have b : decide (k < 0) = oX c.B c.C := by rw [aQ, ← a]; simp
 simp only [aa, b]
 by_cases h1 : c.Kind = 1
 ·cases iV c.Head <;> cases jx c.ib <;> simp [h1, mJ, ns, pB, zR, fI]
 ·by_cases d : c.Kind = 2
  ·cases iV c.Head <;> cases iV c.B <;> simp [d, mJ, ns, pB, zR, fI]
  ·by_cases g : c.Kind = 3
   ·cases iV c.Head <;> cases iV c.B <;> cases iB c.B.gU c.Head.gU <;> cases jx c.iv <;> simp [g, mJ, ns, pB, zR, fI]
   ·by_cases h : c.Kind = 4
    ·cases iV c.Head <;> cases iV c.B <;> cases iV c.C <;> cases oX c.B c.C <;> simp [h, mJ, ns, pB, zR, fI]
    ·simp [h1, d, g, h]
theorem rC (c : gG) : oG c = some (iC c) := by
 unfold oG iC
 simp only [tJ, rD, qf, aa]
 rw [show (⟨zS, zS⟩ : gH) = zR from rfl, wX c.B zR, wX c.C zR, Ai c.iv zS, Ai c.ib zS]
 by_cases h1 : c.Kind = 1
 ·cases iV c.Head <;> cases jx c.ib <;> cases gO zR c.B <;> cases gO zR c.C <;> simp [h1]
 ·by_cases a : c.Kind = 2
  ·cases iV c.Head <;> cases iV c.B <;> cases iB zS c.ib <;> cases gO zR c.C <;> simp [a]
  ·by_cases b : c.Kind = 3
   ·cases iV c.Head <;> cases iV c.B <;> cases iB zS c.ib <;> cases gO zR c.C <;> cases iB c.B.gU c.Head.gU <;> simp [b]
   ·by_cases d : c.Kind = 4
    ·cases iV c.Head <;> cases iV c.B <;> cases iB zS c.ib <;> cases iB zS c.iv <;> cases iV c.C <;> simp [d]
    ·cases iV c.Head <;> cases iV c.B <;> cases iB zS c.ib <;> simp [h1, a, b, d]
theorem jt {α : Type} {b : Nat} {l m : List α} (h : (l.length + m.length) * b ≤ 140737488355328) (a : l.length + m.length ≤ 9223372036854775807) : jw b l m = some (l ++ m) := by
 unfold jw; rw [an ⟨h, by unfold maxLen; omega⟩]
theorem zD {l m : List Int} (h : l.length + m.length ≤ 1000000) : jw 1 l m = some (l ++ m) := jt (by omega) (by omega)
def qg (s : ByteArray) : List Int := (s.size : Int) :: nG s
def nO (r : gH) : List Int := qg r.gU ++ qg r.iz
def sd (c : gG) : List Int := if c.Kind = 1 then qg c.ib else if c.Kind = 2 then nO c.B else if c.Kind = 3 then nO c.B ++ qg c.iv else nO c.B ++ nO c.C
def nQ (c : gG) : List Int := c.Kind :: (nO c.Head ++ sd c)
theorem oq (s : ByteArray) : (qg s).length = s.size + 1 := by simp [qg, lq]
theorem lM {r : gH} (h : iV r = true) : (nO r).length ≤ 34 := by
 simp only [iV, aH] at h
 have h1 := kv h.1
 have a := kv h.2
 simp [nO, oq]; omega
theorem Ao {l : List Int} {n : Int} (a : 0 ≤ n) (h1 : n < 128) (b : l.length ≤ 100000) : mP l n = some (true, l ++ [n]) := by
 have hw : IntKind.u8.wrap n = n := by
  obtain ⟨k, rfl⟩ : ∃ k : Nat, n = k := ⟨n.toNat, by omega⟩
  have : ∀ k : Nat, k < 128 → IntKind.u8.wrap (k : Int) = (k : Int) := by decide +kernel
  exact this k (by omega)
 unfold mP
 rw [ak (by simp; omega), tM, lK, ak (by simp; omega), hw, zD (by simp; omega)]
 rfl
theorem xr {l : List Int} {s : ByteArray} (h : jx s = true) (a : l.length ≤ 10000) : od l s = some (true, l ++ qg s) := by
 have h1 := kv h
 unfold od
 simp only [qi, aa, h, bj, xI h1.2]
 unfold qX
 rw [ak (by rw [lq]; simp; omega)]
 rw [lq, Ao (by omega) (by omega) (by omega)]
 simp only [aa]
 rw [zD (by simp [lq]; omega)]
 simp [qg]
theorem E8 {l : List Int} {r : gH} (h : iV r = true) (b : l.length ≤ 9000) : mu l r = some (true, l ++ nO r) := by
 have a := h
 simp only [iV, aH] at h
 have h1 := kv h.1
 unfold mu
 simp only [uo, aa, a, bj]
 rw [xr h.1 (by omega)]
 simp only [aa, bj]
 rw [xr h.2 (by simp [oq]; omega)]
 simp [nO]
theorem u3 {l : List Int} {r : gH} (h : iV r = true) (a : l.length ≤ 1000) : mu l r = some (true, l ++ nO r) := E8 h (by omega)
theorem uS {c : gG} (h : iC c = true) : iV c.Head = true := by
 simp only [iC, aH] at h; exact h.1
theorem kc {c : gG} (h : iC c = true) :
  (c.Kind = 1 ∧ jx c.ib = true ∧ c.B = zR ∧ c.C = zR ∧ c.iv = zS) ∨
  (c.Kind = 2 ∧ iV c.B = true ∧ c.ib = zS ∧ c.C = zR ∧ c.iv = zS) ∨
  (c.Kind = 3 ∧ iV c.B = true ∧ jx c.iv = true ∧ c.B.gU = c.Head.gU ∧ c.ib = zS ∧ c.C = zR) ∨
  (c.Kind = 4 ∧ iV c.B = true ∧ iV c.C = true ∧ oX c.B c.C = true ∧ c.ib = zS ∧ c.iv = zS) := by
 simp only [iC, aH] at h
 obtain ⟨_, h⟩ := h
 split at h
 ·rename_i h1
  simp only [aH, gP, iX] at h
  exact .inl ⟨by simpa using h1, h.1.1.1, h.1.1.2.symm, h.1.2.symm, h.2.symm⟩
 ·split at h
  ·rename_i h1
   simp only [aH, gP, iX] at h
   exact .inr (.inl ⟨by simpa using h1, h.1.1.1, h.1.1.2.symm, h.1.2.symm, h.2.symm⟩)
  ·split at h
   ·rename_i h1
    simp only [aH, gP, iX] at h
    exact .inr (.inr (.inl ⟨by simpa using h1, h.1.1.1.1, h.1.1.2, h.1.1.1.2, h.1.2.symm, h.2.symm⟩))
   ·split at h
    ·rename_i h1
     simp only [aH, gP, iX] at h
     exact .inr (.inr (.inr ⟨by simpa using h1, h.1.1.1.1, h.1.1.1.2, h.1.1.2, h.1.2.symm, h.2.symm⟩))
    ·cases h
theorem uq (c : gG) : qo c = some (if iC c then nQ c else []) := by
 unfold qo
 rw [mA]
 simp only [aa]
 cases h : iC c with
 | false => simp
 | true =>
  have g := uS h
  have i := lM g
  simp only [bn, ai, aY, bj]
  have hk : 0 ≤ c.Kind ∧ c.Kind < 128 := by rcases kc h with h | h | h | h <;> omega
  rw [Ao hk.1 hk.2 (by simp)]
  simp only [aa]
  rw [u3 g (by simp)]
  simp only [aa, ry, rl]
  rcases kc h with ⟨k, h1, _⟩ | ⟨k, h1, _⟩ | ⟨k, h1, a, _⟩ | ⟨k, h1, a, _⟩
  ·have b := kv h1
   simp only [k, cg, bj, xr h1 (show (([] ++ [(1:Int)]) ++ nO c.Head).length ≤ 10000 by simp; omega), aa]
   rw [zD (by simp [oq]; omega)]
   simp [nQ, sd, k]
  ·have b := lM h1
   simp only [k, show ((2 : Int) == 1) = false from rfl, ai, cg, bj, aY, u3 h1 (show (([] ++ [(2:Int)]) ++ nO c.Head).length ≤ 1000 by simp; omega), aa]
   rw [zD (by simp; omega)]
   simp [nQ, sd, k]
  ·have b := lM h1
   have d := kv a
   simp only [k, show ((3 : Int) == 1) = false from rfl, show ((3 : Int) == 2) = false from rfl, ai, cg, bj, aY, u3 h1 (show (([] ++ [(3:Int)]) ++ nO c.Head).length ≤ 1000 by simp; omega), aa]
   rw [xr a (by simp; omega)]
   simp only [aa]
   rw [zD (by simp [oq]; omega)]
   simp [nQ, sd, k]
  ·have b := lM h1
   have d := lM a
   simp only [k, show ((4 : Int) == 1) = false from rfl, show ((4 : Int) == 2) = false from rfl, show ((4 : Int) == 3) = false from rfl, ai, cg, bj, aY, u3 h1 (show (([] ++ [(4:Int)]) ++ nO c.Head).length ≤ 1000 by simp; omega), aa]
   rw [u3 a (by simp; omega)]
   simp only [aa]
   rw [zD (by simp; omega)]
   simp [nQ, sd, k]
def th (l : List Int) : ByteArray := ⟨(qO l).toArray⟩
theorem tN (l : List Int) : (th l).data.toList = qO l := rfl
theorem yX : ∀ (l : List Int) (r : ByteArray), (l.foldl (fun r n => r.push (UInt8.ofNat n.toNat)) r).data.toList = r.data.toList ++ qO l
 | [], r => by simp [qO]
 | x :: l, r => by
  rw [dp, yX l]
  show ((r.data.push _).toList) ++ _ = _
  simp [qO]
theorem F5 (l : List Int) : wA l = th l := u0 (by unfold wA; rw [yX]; rfl)
theorem BR (l : List Int) : (th l).size = l.length := by rw [qy, tN]; simp [qO]
theorem DB (a b : List Int) : qO (a ++ b) = qO a ++ qO b := by simp [qO]
theorem pT (a b : List Int) (h : a.length + b.length ≤ 1000000) : sr (th a) (th b) = some (th (a ++ b)) := by
 unfold sr
 rw [ak]
 ·congr 1
  refine u0 ?_
  rw [tN, DB, ← tN a, ← tN b]
  exact ByteArray.toList_data_append ▸ rfl
 ·rw [BR, BR]
  show ¬ (_ > (9223372036854775807 : Int))
  omega
theorem vT (s : ByteArray) : th (nG s) = s := u0 (by rw [tN]; simp [qO, nG, du])
theorem z6 {n : Int} (a : 0 ≤ n) (h1 : n < 128) : px n = some (th [n]) := by
 have hw : IntKind.u8.wrap n = n := by
  obtain ⟨k, rfl⟩ : ∃ k : Nat, n = k := ⟨n.toNat, by omega⟩
  have : ∀ k : Nat, k < 128 → IntKind.u8.wrap (k : Int) = (k : Int) := by decide +kernel
  exact this k (by omega)
 unfold px
 rw [tM, nJ, ak (by simp; omega), hw, F5, show zS = th [] from rfl, pT _ _ (by simp)]
 rfl
theorem xp {s : ByteArray} (h : jx s = true) : om s = some (th (qg s)) := by
 have h1 := kv h
 unfold om
 rw [z6 (by omega) (by omega)]
 simp only [aa]
 have := pT [(s.size : Int)] (nG s) (by rw [lq]; simp; omega)
 rw [vT] at this
 rw [this]
 simp [qg]
theorem ve {r : gH} (h : iV r = true) : oI r = some (th (nO r)) := by
 simp only [iV, aH] at h
 have h1 := kv h.1
 have a := kv h.2
 unfold oI
 rw [xp h.1, xp h.2]
 simp only [aa]
 rw [pT _ _ (by simp [oq]; omega)]
 rfl
theorem tV (c : gG) : pO c = some (th (if iC c then nQ c else [])) := by
 unfold pO
 rw [rC]
 simp only [aa]
 cases h : iC c with
 | false => rfl
 | true =>
  have g := uS h
  have i := lM g
  simp only [bn, ai, aY, bj]
  have hk : 0 ≤ c.Kind ∧ c.Kind < 128 := by rcases kc h with h | h | h | h <;> omega
  unfold s7
  rw [z6 hk.1 hk.2, ve g]
  simp only [aa]
  rw [pT _ _ (by simp; omega)]
  simp only [aa]
  rcases kc h with ⟨k, h1, _⟩ | ⟨k, h1, _⟩ | ⟨k, h1, a, _⟩ | ⟨k, h1, a, _⟩
  ·have b := kv h1
   simp only [k, cg, bj, xp h1, aa]
   rw [pT _ _ (by simp [oq]; omega)]
   simp [nQ, sd, k]
  ·have b := lM h1
   simp only [k, show ((2 : Int) == 1) = false from rfl, show ((2 : Int) == 3) = false from rfl, show ((2 : Int) == 4) = false from rfl, ai, aY, ve h1, aa]
   rw [pT _ _ (by simp; omega)]
   simp [nQ, sd, k]
  ·have b := lM h1
   have d := kv a
   simp only [k, show ((3 : Int) == 1) = false from rfl, show ((3 : Int) == 4) = false from rfl, ai, cg, bj, aY, ve h1, aa]
   rw [pT _ _ (by simp; omega)]
   simp only [aa, xp a]
   rw [pT _ _ (by simp [oq]; omega)]
   simp [nQ, sd, k]
  ·have b := lM h1
   have d := lM a
   simp only [k, show ((4 : Int) == 1) = false from rfl, show ((4 : Int) == 3) = false from rfl, ai, cg, bj, aY, ve h1, aa]
   rw [pT _ _ (by simp; omega)]
   simp only [aa, ve a]
   rw [pT _ _ (by simp; omega)]
   simp [nQ, sd, k]
def Bu (c : gG) : List UInt8 := qO (if iC c then nQ c else [])
def tY (a b : gG) : Bool := Op.bytesLess (Bu a) (Bu b)
theorem xx (a b : gG) : ∃ c, ob a b = some c ∧ (c < 0 ↔ tY a b = true) := by
 unfold ob
 rw [uq, uq]
 exact ⟨_, rfl, zi _ _⟩
theorem xe (a b : gG) : ∃ c, nx a b = some c ∧ (c < 0 ↔ tY a b = true) := by
 unfold nx
 rw [tV, tV]
 simp only [aa]
 have h : li (th (if iC a then nQ a else [])) (th (if iC b then nQ b else [])) = tY a b := by rw [tE]; rfl
 rw [h]
 cases tY a b with
 | true => exact ⟨_, rfl, by decide⟩
 | false =>
  simp only [ai, aY, gf]
  cases d : iB (th (if iC a then nQ a else [])) (th (if iC b then nQ b else [])) with
  | true => exact ⟨0, by simp, by decide⟩
  | false => exact ⟨1, by simp, by decide⟩
theorem G6 {a b : Int} (c : 0 ≤ a ∧ a < 256) (d : 0 ≤ b ∧ b < 256) (h : a.toNat.toUInt8 = b.toNat.toUInt8) : a = b := by
 have := ay UInt8.toNat h
 simp only [UInt8.toNat_ofNat', Nat.toUInt8] at this
 simp at this
 omega
theorem Ct : ∀ {a b : List Int}, (∀ x ∈ a, 0 ≤ x ∧ x < 256) → (∀ x ∈ b, 0 ≤ x ∧ x < 256) → qO a = qO b → a = b
 | [], [], _, _, _ => rfl
 | [], _ :: _, _, _, h => by simp [qO] at h
 | _ :: _, [], _, _, h => by simp [qO] at h
 | x :: a, y :: b, d, g, h => by
  simp only [qO, aC, cx] at h
  rw [G6 (d x (by simp)) (g y (by simp)) h.1, Ct (fun z c => d z (by simp [c])) (fun z c => g z (by simp [c])) h.2]
theorem sD {s : ByteArray} (h : jx s = true) : ∀ x ∈ qg s, 0 ≤ x ∧ x < 256 := by
 have h1 := kv h
 intro x a
 rcases aj.1 a with rfl | a
 ·omega
 ·simp only [nG, aF] at a
  obtain ⟨b, _, rfl⟩ := a
  have := fG b
  omega
theorem qY {r : gH} (h : iV r = true) : ∀ x ∈ nO r, 0 ≤ x ∧ x < 256 := by
 simp only [iV, aH] at h
 intro x a
 rcases aA.1 a with a | a
 ·exact sD h.1 x a
 ·exact sD h.2 x a
theorem xD {c : gG} (h : iC c = true) : ∀ x ∈ nQ c, 0 ≤ x ∧ x < 256 := by
 intro x a
 rcases aj.1 a with rfl | a
 ·rcases kc h with h | h | h | h <;> omega
 ·rcases aA.1 a with a | a
  ·exact qY (uS h) x a
  ·unfold sd at a
   rcases kc h with ⟨k, h1, _⟩ | ⟨k, h1, _⟩ | ⟨k, h1, b, _⟩ | ⟨k, h1, b, _⟩
   ·rw [an k] at a; exact sD h1 x a
   ·rw [ak (by omega), an k] at a; exact qY h1 x a
   ·rw [ak (by omega), ak (by omega), an k] at a
    rcases aA.1 a with a | a
    ·exact qY h1 x a
    ·exact sD b x a
   ·rw [ak (by omega), ak (by omega), ak (by omega)] at a
    rcases aA.1 a with a | a
    ·exact qY h1 x a
    ·exact qY b x a
theorem Dt {s t : ByteArray} (h : nG s = nG t) : s = t := by rw [← vT s, h, vT]
theorem ul {s t : ByteArray} {X Y : List Int} (h : qg s ++ X = qg t ++ Y) : s = t ∧ X = Y := by
 simp only [qg, bt, cx] at h
 obtain ⟨h1, a⟩ := h
 have b : (nG s).length = (nG t).length := by rw [lq, lq]; omega
 have := List.append_inj a b
 exact ⟨Dt this.1, this.2⟩
theorem sR {a b : gH} {X Y : List Int} (h : nO a ++ X = nO b ++ Y) : a = b ∧ X = Y := by
 simp only [nO, ar] at h
 obtain ⟨h1, d⟩ := ul h
 obtain ⟨c, g⟩ := ul d
 exact ⟨by cases a; cases b; simp at h1 c; simp [h1, c], g⟩
theorem Eb {a b : gG} (p : iC a = true) (r : iC b = true) (h : nQ a = nQ b) : a = b := by
 simp only [nQ, cx] at h
 obtain ⟨hk, o⟩ := h
 obtain ⟨n, h⟩ := sR o
 clear o
 have j : ∀ {X Y : List Int}, X = Y → X ++ [] = Y ++ [] := fun h => by rw [h]
 unfold sd at h
 obtain ⟨A, q, G, v, x, t⟩ := a
 obtain ⟨E, s, I, w, y, u⟩ := b
 simp only at hk n h
 subst hk n
 rcases kc p with ⟨k, h1, d, g, c⟩ | ⟨k, h1, d, g, c⟩ | ⟨k, h1, d, g, c, i⟩ | ⟨k, h1, d, g, c, i⟩ <;>
 rcases kc r with ⟨k', g1, g2, g3, g4⟩ | ⟨k', g1, g2, g3, g4⟩ | ⟨k', g1, g2, g3, g4, g5⟩ | ⟨k', g1, g2, g3, g4, g5⟩ <;> simp only at k k' d g c g2 g3 g4 <;> (try omega)
 ·rw [an k, an k] at h
  simp [ul (j h), d, g, c, g2, g3, g4]
 ·rw [ak (by omega), an k, ak (by omega), an k] at h
  simp [sR (j h), d, g, c, g2, g3, g4]
 ·rw [ak (by omega), ak (by omega), an k, ak (by omega), ak (by omega), an k] at h
  obtain ⟨l, m⟩ := sR h
  simp only at i g5
  simp [l, ul (j m), c, i, g4, g5]
 ·rw [ak (by omega), ak (by omega), ak (by omega), ak (by omega), ak (by omega), ak (by omega)] at h
  obtain ⟨l, m⟩ := sR h
  simp only at i g5
  simp [l, sR (j m), c, i, g4, g5]
theorem pF : sZ (fun a b => tY a b = true) (fun c => iC c = true) := by
 refine ⟨fun x _ h => ?_, fun x y z _ _ _ h1 i => x9 _ _ _ h1 i, fun x y d g => ?_⟩
 ·unfold tY at h; rw [wI] at h; cases h
 ·rcases yh (Bu x) (Bu y) with h | h | h
  ·exact .inl h
  ·refine .inr (.inl (Eb d g ?_))
   unfold Bu at h
   rw [an d, an g] at h
   exact Ct (xD d) (xD g) h
  ·exact .inr (.inr h)
def mq {α : Type} (R : α → Bool) (lt : α → α → Bool) (last : Option α) : List α → Bool → α → Bool × α
 | [], ok, b => (ok, b)
 | x :: xs, ok, b => if R x && last.all (fun y => lt y x) && (!ok || lt x b) then mq R lt last xs true x else mq R lt last xs ok b
def rR {α : Type} (w : Nat) (R : α → Bool) (lt : α → α → Bool) (d : α) (l : List α) : Nat → List α → Option (List α)
 | 0, _ => none
 | n + 1, out => if !(mq R lt out.getLast? l false d).1 then some out else (jw w out [(mq R lt out.getLast? l false d).2]).bind fun o => rR w R lt d l n o
section
variable {α : Type} {R : α → Bool} {lt : α → α → Bool}
theorem w9 (H : sZ (fun a b => lt a b = true) (fun x => R x = true)) (last : Option α) : ∀ (l : List α) (ok : Bool) (b : α), (ok = true → R b = true ∧ last.all (fun y => lt y b) = true) →
  ((mq R lt last l ok b).1 = false → ok = false ∧ ∀ x ∈ l, R x = true → last.all (fun y => lt y x) = false) ∧
  ((mq R lt last l ok b).1 = true → R (mq R lt last l ok b).2 = true ∧ last.all (fun y => lt y (mq R lt last l ok b).2) = true ∧ ((mq R lt last l ok b).2 ∈ l ∨ (ok = true ∧ (mq R lt last l ok b).2 = b)) ∧
   (∀ x ∈ l, R x = true → last.all (fun y => lt y x) = true → lt x (mq R lt last l ok b).2 = false) ∧ (ok = true → lt b (mq R lt last l ok b).2 = false))
 | [], ok, b, j => by
  simp only [mq]
  exact ⟨fun h => ⟨h, by simp⟩, fun h => ⟨(j h).1, (j h).2, .inr ⟨h, trivial⟩, by simp, fun _ => by
   cases m : lt b b with
   | false => rfl
   | true => exact absurd m (H.irrefl b (j h).1)⟩⟩
 | x :: xs, ok, b, j => by
  rw [mq]
  by_cases k : (R x && last.all (fun y => lt y x) && (!ok || lt x b)) = true
  ·rw [an k]
   simp only [aH, dq, da] at k
   obtain ⟨⟨v, r⟩, s⟩ := k
   obtain ⟨h1, q⟩ := w9 H last xs true x (fun _ => ⟨v, r⟩)
   refine ⟨fun h => ?_, fun h => ?_⟩
   ·cases (h1 h).1
   ·obtain ⟨o, a2, a3, a4, a5⟩ := q h
    refine ⟨o, a2, ?_, ?_, ?_⟩
    ·rcases a3 with a3 | ⟨_, a3⟩
     ·exact .inl (by simp [a3])
     ·exact .inl (by rw [a3]; simp)
    ·intro y g c d
     rcases aj.1 g with rfl | g
     ·exact a5 rfl
     ·exact a4 y g c d
    ·intro i
     cases m : lt b (mq R lt last xs true x).2 with
     | false => rfl
     | true =>
      have t : lt x b = true := by rcases s with h | h; rw [i] at h; cases h; exact h
      have := H.trans x b _ v (j i).1 o t m
      simp only [a5 rfl] at this
      cases this
  ·rw [ak k]
   obtain ⟨h1, q⟩ := w9 H last xs ok b j
   refine ⟨fun h => ⟨(h1 h).1, fun y g c => ?_⟩, fun h => ?_⟩
   ·rcases aj.1 g with rfl | g
    ·have i := (h1 h).1
     cases r : last.all (fun z => lt z y) with
     | false => rfl
     | true => exact absurd (by simp [c, r, i]) k
    ·exact (h1 h).2 y g c
   ·obtain ⟨o, a2, a3, a4, a5⟩ := q h
    refine ⟨o, a2, ?_, ?_, a5⟩
    ·rcases a3 with a3 | a3
     ·exact .inl (by simp [a3])
     ·exact .inr a3
    ·intro y g c d
     rcases aj.1 g with rfl | g
     ·cases m : lt y (mq R lt last xs ok b).2 with
      | false => rfl
      | true =>
       cases ok with
       | false => exact absurd (by simp [c, d]) k
       | true =>
        have u : lt y b = false := by
         cases w : lt y b with
         | false => rfl
         | true => exact absurd (by simp [c, d, w]) k
        have p := j rfl
        rcases H.total y b c p.1 with n | n | n
        ·rw [u] at n; cases n
        ·subst n; rw [a5 rfl] at m; cases m
        ·have := H.trans b y _ p.1 c o n m
         simp only [a5 rfl] at this
         cases this
     ·exact a4 y g c d
theorem oW (H : sZ (fun a b => lt a b = true) (fun x => R x = true)) {l : List α} (d : ∀ x ∈ l, R x = true) (h : l.Pairwise (fun a b => lt a b = true)) : l.Nodup := by
 refine h.imp_of_mem (fun {a b} g i c e => ?_)
 subst e
 exact H.irrefl a (d a g) c
theorem iW : ∀ {l m : List α}, l.Nodup → (∀ x ∈ l, x ∈ m) → l.length ≤ m.length
 | [], _, _, _ => by simp
 | x :: l, m, d, b => by
  obtain ⟨A, B, rfl⟩ := dI (b x (by simp))
  have a := bP.1 d
  have := iW (l := l) (m := A ++ B) a.2 (fun y c => by
   have := b y (cU _ c)
   simp only [aA, aj] at this ⊢
   rcases this with h | h | h
   ·exact .inl h
   ·subst h; exact absurd c a.1
   ·exact .inr h)
  simp at this ⊢; omega
theorem sT (H : sZ (fun a b => lt a b = true) (fun x => R x = true)) {w : Nat} (hw : w ≤ 1000) (d : α) (l : List α) (I : l.length ≤ 1000000000) : ∀ (n : Nat) (out : List α), l.length < n + out.length → out.Pairwise (fun a b => lt a b = true) → (∀ x ∈ out, x ∈ l ∧ R x = true) →
  (∀ x ∈ l, R x = true → x ∈ out ∨ out.getLast?.all (fun y => lt y x) = true) → ∃ s, rR w R lt d l n out = some s ∧ kZ (fun a b => lt a b = true) (fun x => R x = true) l s
 | 0, out, J, hp, hm, t => by
  exfalso
  have := iW (oW H (fun x c => (hm x c).2) hp) (fun x c => (hm x c).1)
  omega
 | n + 1, out, J, hp, hm, t => by
  rw [rR]
  obtain ⟨h1, E⟩ := w9 H out.getLast? l false d (fun h => by cases h)
  have hlen := iW (oW H (fun x c => (hm x c).2) hp) (fun x c => (hm x c).1)
  cases v : (mq R lt out.getLast? l false d).1 with
  | false =>
   rw [an (by simp)]
   refine ⟨out, rfl, hp, fun x => ⟨hm x, fun c => ?_⟩⟩
   rcases t x c.1 c.2 with h | h
   ·exact h
   ·rw [(h1 v).2 x c.1 c.2] at h; cases h
  | true =>
   rw [ak (by simp)]
   obtain ⟨q, a2, a3, a4, _⟩ := E v
   generalize (mq R lt out.getLast? l false d).2 = b at *
   have r : b ∈ l := by rcases a3 with h | ⟨h, _⟩; exact h; cases h
   have o : ∀ y ∈ out, lt y b = true := by
    intro y g
    obtain ⟨A, z, rfl⟩ : ∃ A z, out = A ++ [z] := by
     rcases cw out with h | ⟨A, z, h⟩
     ·subst h; cases g
     ·exact ⟨A, z, by rw [h]; simp⟩
    simp at a2
    rcases aA.1 g with g | g
    ·have u : lt y z = true := (dU.1 hp).2.2 y g z (by simp)
     exact H.trans y z b (hm y (by simp [g])).2 (hm z (by simp)).2 q u a2
    ·simp at g; subst g; exact a2
   have p : (out ++ [b]).Pairwise (fun a b => lt a b = true) := dU.2 ⟨hp, by simp, fun x c y g => by simp at g; subst g; exact o x c⟩
   have k : ∀ x ∈ out ++ [b], x ∈ l ∧ R x = true := fun x c => by
    rcases aA.1 c with c | c
    ·exact hm x c
    ·simp at c; subst c; exact ⟨r, q⟩
   have j := iW (oW H (fun x c => (k x c).2) p) (fun x c => (k x c).1)
   simp at j
   rw [jt (by simp only [aq, bA]; have : (out.length + (0 + 1)) * w ≤ 1000000000 * 1000 := dj (by omega) hw; omega) (by simp; omega)]
   simp only [aa]
   refine sT H hw d l I n (out ++ [b]) (by simp; omega) p k (fun x c i => ?_)
   rcases t x c i with h | h
   ·exact .inl (by simp [h])
   ·have G := a4 x c i h
    rcases H.total x b i q with m | m | m
    ·rw [G] at m; cases m
    ·subst m; exact .inl (by simp)
    ·exact .inr (by simp [m])
end
theorem vM {α : Type} (A : List α) (x : α) (a : A.length < 4611686018427387904) : kM (A ++ [x]) (wi0 .i64 (((A ++ [x]).length : Int) - 1)) = some x := by
 rw [jb (by simp; try omega) (by simp; try omega)]
 rw [qC A x [] _ (by simp; try omega)]
theorem xY (out : List gG) (k : out.length < 4611686018427387904) : ∀ (l : List gG) (ok : Bool) (b : gG), nc out l ok b = some (mq iC tY out.getLast? l ok b)
 | [], ok, b => rfl
 | x :: xs, ok, b => by
  rw [nc, mq]
  have cmp : ∀ a b, ∃ c, nx a b = some c ∧ decide (c < 0) = tY a b := fun a b => by
   obtain ⟨c, h1, j⟩ := xe a b
   exact ⟨c, h1, by rw [aQ, ← j]; simp⟩
  rw [rC, xY out k xs true x, xY out k xs ok b]
  obtain ⟨c, h1, j⟩ := cmp x b
  rcases cw out with h | ⟨A, z, h⟩
  ·subst h
   simp only [h1, aa, j, bA, Option.all, fZ]
   generalize tY x b = p
   cases iC x <;> cases ok <;> cases p <;> simp
  ·have i : out = A ++ [z] := by rw [h]; simp
   obtain ⟨s, q, r⟩ := cmp z x
   have d : out.getLast? = some z := by rw [i]; simp
   have g : kM out (wi0 .i64 ((out.length : Int) - 1)) = some z := by rw [i]; exact vM A z (by rw [i] at k; simp at k; omega)
   have m : ((out.length : Int) == 0) = false := by rw [i]; simp; omega
   rw [d]
   simp only [m, g, q, h1, aa, j, r, Option.all]
   rcases bD (tY x b) with hp | hp <;> rcases bD (tY z x) with n | n <;> rcases bD (iC x) with o | o <;> cases ok <;> simp [hp, n, o]
theorem yk (out : List gH) (g : out.length < 4611686018427387904) : ∀ (l : List gH) (ok : Bool) (b : gH), nV out l ok b = some (mq iV oX out.getLast? l ok b)
 | [], ok, b => rfl
 | x :: xs, ok, b => by
  rw [nV, mq]
  rw [tJ, yk out g xs true x, yk out g xs ok b]
  rcases cw out with h | ⟨A, z, h⟩
  ·subst h
   simp only [qf, aa, bA, Option.all, fZ]
   generalize oX x b = p
   cases iV x <;> cases ok <;> cases p <;> simp
  ·have d : out = A ++ [z] := by rw [h]; simp
   have a : out.getLast? = some z := by rw [d]; simp
   have c : kM out (wi0 .i64 ((out.length : Int) - 1)) = some z := by rw [d]; exact vM A z (by rw [d] at g; simp at g; omega)
   have i : ((out.length : Int) == 0) = false := by rw [d]; simp; omega
   rw [a]
   simp only [i, c, qf, aa, Option.all]
   rcases bD (oX x b) with hp | hp <;> rcases bD (oX z x) with j | j <;> rcases bD (iV x) with k | k <;> cases ok <;> simp [hp, j, k]
theorem H4 (a b : ByteArray) : (!(li a b || iB a b)) = li b a := by
 rcases oQ a b with h | h | h
 ·simp [h, sJ h]
 ·subst h; simp [pB, nN]
 ·have c := sJ h
  have d : iB a b = false := CD (by rintro rfl; rw [nN] at h; cases h)
  simp [h, c, d]
theorem D0 {s : ByteArray} (h : jx s = true) : iB s zS = false := CD (fun e => by have := kv h; rw [e, Gk] at this; omega)
theorem yx (out : List ByteArray) (k : out.length < 4611686018427387904) : ∀ (l : List ByteArray) (b : ByteArray),
  ∃ m, nW out l b = some m ∧ (mq jx li out.getLast? l (!iB b zS) b) = (!iB m zS, m)
 | [], b => ⟨b, rfl, rfl⟩
 | x :: xs, b => by
  rw [nW, mq]
  obtain ⟨u, s, c⟩ := yx out k xs x
  obtain ⟨v, t, i⟩ := yx out k xs b
  rw [rD, s, t]
  by_cases g : jx x = true
  ·rw [D0 g] at c
   simp only [bT] at c
   rcases cw out with h | ⟨A, z, h⟩
   ·subst h
    simp only [aa, bA, Option.all, fZ, g] at *
    rw [c, i]
    generalize li x b = p
    generalize iB b zS = q
    cases p <;> cases q <;> simp
   ·have j : out = A ++ [z] := by rw [h]; simp
    have a : out.getLast? = some z := by rw [j]; simp
    have d : kM out (wi0 .i64 ((out.length : Int) - 1)) = some z := by rw [j]; exact vM A z (by rw [j] at k; simp at k; omega)
    have n : ((out.length : Int) == 0) = false := by rw [j]; simp; omega
    rw [a] at c i ⊢
    simp only [n, d, aa, Option.all, H4, g]
    rw [c, i]
    rcases bD (li x b) with hp | hp <;> rcases bD (li z x) with o | o <;> rcases bD (iB b zS) with r | r <;> simp [hp, o, r]
  ·simp only [gm] at g
   rw [g, i]
   simp
theorem Fw (a : List gG) : ∀ (n : Nat) (out s : List gG), rR 136 iC tY (⟨0, ⟨zS, zS⟩, zS, ⟨zS, zS⟩, ⟨zS, zS⟩, zS⟩ : gG) a n out = some s → s.length < 4611686018427387904 → nX a n out = some s ∧ out.length ≤ s.length
 | 0, out, s, h, _ => by cases h
 | n + 1, out, s, h, g => by
  rw [rR] at h
  rw [nX]
  have key : out.length ≤ s.length → nc out a false (⟨0, ⟨zS, zS⟩, zS, ⟨zS, zS⟩, ⟨zS, zS⟩, zS⟩ : gG) = _ := fun j => xY out (by omega) a false _
  split at h
  ·rename_i h1
   cases h
   rw [key (aJ _)]
   simp only [aa]
   rw [an h1]
   exact ⟨rfl, aJ _⟩
  ·rename_i h1
   obtain ⟨o, b, c⟩ := bind_some h
   have d := Fw a n o s c g
   have i : out.length + 1 = o.length := by
    unfold jw at b; split at b
    ·cases b; simp
    ·cases b
   rw [key (by omega)]
   simp only [aa]
   rw [ak h1, b]
   exact ⟨d.1, by omega⟩
theorem FE (a : List gH) : ∀ (n : Nat) (out s : List gH), rR 32 iV oX (⟨zS, zS⟩ : gH) a n out = some s → s.length < 4611686018427387904 → qE a n out = some s ∧ out.length ≤ s.length
 | 0, out, s, h, _ => by cases h
 | n + 1, out, s, h, g => by
  rw [rR] at h
  rw [qE]
  have key : out.length ≤ s.length → nV out a false (⟨zS, zS⟩ : gH) = _ := fun j => yk out (by omega) a false _
  split at h
  ·rename_i h1
   cases h
   rw [key (aJ _)]
   simp only [aa]
   rw [an h1]
   exact ⟨rfl, aJ _⟩
  ·rename_i h1
   obtain ⟨o, b, c⟩ := bind_some h
   have d := FE a n o s c g
   have i : out.length + 1 = o.length := by
    unfold jw at b; split at b
    ·cases b; simp
    ·cases b
   rw [key (by omega)]
   simp only [aa]
   rw [ak h1, b]
   exact ⟨d.1, by omega⟩
theorem FJ (a : List ByteArray) : ∀ (n : Nat) (out s : List ByteArray), rR 16 jx li zS a n out = some s → s.length < 4611686018427387904 → qI a n out = some s ∧ out.length ≤ s.length
 | 0, out, s, h, _ => by cases h
 | n + 1, out, s, h, k => by
  rw [rR] at h
  rw [qI]
  have key : out.length ≤ s.length → ∃ c, nW out a zS = some c ∧ mq jx li out.getLast? a false zS = (!iB c zS, c) := fun m => by
   have := yx out (by omega) a zS
   rw [pB] at this
   exact this
  split at h
  ·rename_i h1
   cases h
   obtain ⟨c, d, g⟩ := key (aJ _)
   rw [d]
   rw [g] at h1
   simp only [aa]
   rw [an (by simpa using h1)]
   exact ⟨rfl, aJ _⟩
  ·rename_i h1
   obtain ⟨o, b, i⟩ := bind_some h
   have j := FJ a n o s i k
   have l : out.length + 1 = o.length := by
    unfold jw at b; split at b
    ·cases b; simp
    ·cases b
   obtain ⟨c, d, g⟩ := key (by omega)
   rw [d]
   rw [g] at h1 b
   simp only [aa]
   rw [ak (by simpa using h1), b]
   exact ⟨j.1, by omega⟩
abbrev sN (l s : List ByteArray) := kZ (fun a b => li a b = true) (fun x => jx x = true) l s
abbrev GI (l s : List gH) := kZ (fun a b => oX a b = true) (fun x => iV x = true) l s
abbrev sP (l s : List gG) := kZ (fun a b => tY a b = true) (fun x => iC x = true) l s
theorem kN {α : Type} {lt : α → α → Bool} {R : α → Bool} (H : sZ (fun a b => lt a b = true) (fun x => R x = true)) {l s : List α} (h : kZ (fun a b => lt a b = true) (fun x => R x = true) l s) : s.length ≤ l.length :=
 iW (oW H (fun x c => ((h.2 x).1 c).2) h.1) (fun x c => ((h.2 x).1 c).1)
theorem zr (l : List gG) (b : l.length ≤ 1000000000) : ∃ s, nT l = some s ∧ sP l s := by
 obtain ⟨s, h1, a⟩ := sT pF (w := 136) (by omega) (⟨0, ⟨zS, zS⟩, zS, ⟨zS, zS⟩, ⟨zS, zS⟩, zS⟩ : gG) l b jq [] (by rw [oa]; omega) (by simp) (by simp) (fun x _ _ => .inr rfl)
 exact ⟨s, (Fw l jq [] s h1 (by have := kN pF a; omega)).1, a⟩
theorem FO (l : List gH) (b : l.length ≤ 1000000000) : ∃ s, xC l = some s ∧ GI l s := by
 obtain ⟨s, h1, a⟩ := sT (um (fun x => iV x = true)) (w := 32) (by omega) (⟨zS, zS⟩ : gH) l b jq [] (by rw [oa]; omega) (by simp) (by simp) (fun x _ _ => .inr rfl)
 exact ⟨s, (FE l jq [] s h1 (by have := kN (um _) a; omega)).1, a⟩
theorem Cv (l : List ByteArray) (b : l.length ≤ 1000000000) : ∃ s, uJ l = some s ∧ sN l s := by
 obtain ⟨s, h1, a⟩ := sT (sa (fun x => jx x = true)) (w := 16) (by omega) zS l b jq [] (by rw [oa]; omega) (by simp) (by simp) (fun x _ _ => .inr rfl)
 exact ⟨s, (FJ l jq [] s h1 (by have := kN (sa _) a; omega)).1, a⟩
def zC : gG := ⟨0, ⟨zS, zS⟩, zS, ⟨zS, zS⟩, ⟨zS, zS⟩, zS⟩
theorem Cl (f : gG → Option Bool) : ∀ (n : Nat) (l : List gG) (i j : Int), jR f n l i j = xX f zC n l i j
 | 0, _, _, _ => rfl
 | n + 1, l, i, j => by
  rw [jR, xX]
  simp only [Cl f n]
  rfl
theorem CL (f : gG → Option Bool) : ∀ (l : List gG) (i : Nat), kK f l i = vH f l i
 | [], _ => rfl
 | x :: l, i => by rw [kK, vH]; simp only [CL f l]
theorem Fl (f : gG → Option Bool) (l : List gG) : mB l f = Dw f zC l := by
 unfold mB Dw oD
 simp only [CL, Cl]
theorem A2 (i : Int) : ∀ (n : Nat) (l : List gG) (k j : Int), kp i n l k j = uW mJ i n l k j
 | 0, _, _, _ => rfl
 | n + 1, l, k, j => by
  rw [kp, uW]
  simp only [A2 i n]
theorem A8 (l : List gG) : ∀ (n : Nat) (i : Int), ku l n i = vA mJ zC l n i
 | 0, _ => rfl
 | n + 1, i => by
  rw [ku, vA]
  simp only [A8 l n, A2]
  rfl
theorem Fa (l : List gG) : nB l = zH mJ zC l := by
 unfold nB zH
 simp only [A8]
theorem BQ (i : Int) : ∀ (n : Nat) (l : List ByteArray) (k j : Int), jX i n l k j = uW iB i n l k j
 | 0, _, _, _ => rfl
 | n + 1, l, k, j => by
  rw [jX, uW]
  simp only [BQ i n]
theorem Bc (l : List ByteArray) : ∀ (n : Nat) (i : Int), jW l n i = vA iB zS l n i
 | 0, _ => rfl
 | n + 1, i => by
  rw [jW, vA]
  simp only [Bc l n, BQ]
theorem Fh (l : List ByteArray) : lA l = zH iB zS l := by
 unfold lA zH
 simp only [Bc]
theorem GR {l : List gG} (a : l.length ≤ 1000000000) : mO l = some l := by
 unfold mO
 rw [jt (by simp; omega) (by simp; omega)]
 simp
theorem EK (l : List gG) (d : l.length ≤ 1000000000) : ∃ s, nl l = some s ∧ sP l s := by
 unfold nl
 rw [GR d]
 simp only [aa]
 rw [Fl, E6 _ (fun x => !iC x) zC l (by omega) (fun x _ => by simp [ri, mA])]
 simp only [aa, Bool.not_not]
 have i : (l.filter fun x => iC x).length ≤ l.length := List.length_filter_le _ _
 obtain ⟨s, h1, h, c⟩ := xJ (eq := mJ) (lt := fun a b => tY a b = true) (P := fun x => iC x = true) (cf := fun x => ob x.1 x.2) (l := l.filter fun x => iC x) (fun x y => uP) pF (fun x g => (bZ.1 g).2) (by omega) (fun x y _ _ => xx x y)
 rw [h1]
 simp only [aa]
 rw [Fa, BF _ _ _ (by omega)]
 refine ⟨_, rfl, c.1, fun x => ?_⟩
 rw [c.2]
 simp
theorem CU (l : List ByteArray) : jj l = ms (fun x => some (if li x.1 x.2 then -1 else 0)) l := by
 unfold jj ms
 congr 1
 funext x y
 unfold nj
 cases h : li y x <;> simp [h]
theorem vV : ∀ (l acc : List ByteArray), acc.length + l.length ≤ 1000000000 → nE l acc = (xu (acc ++ l.filter jx)).bind fun r => lA r
 | [], acc, _ => by rw [nE]; simp
 | x :: l, acc, h => by
  rw [nE, qi]
  simp only [aa]
  cases a : jx x with
  | false =>
   simp only [ai, aY]
   rw [vV l acc (by simp at h; omega)]
   simp [a]
  | true =>
   simp only [bj]
   rw [jt (by simp at h ⊢; omega) (by simp at h ⊢; omega)]
   simp only [aa]
   rw [vV l (acc ++ [x]) (by simp at h ⊢; omega)]
   simp [a]
theorem EA (l : List ByteArray) (g : l.length ≤ 1000000000) : ∃ s, oN l = some s ∧ sN l s := by
 unfold oN
 rw [vV l [] (by simpa using g)]
 simp only [aU]
 have k : (l.filter jx).length ≤ l.length := List.length_filter_le _ _
 unfold xu
 rw [an (by omega)]
 simp only [aa]
 obtain ⟨s, h1, j, c⟩ := xJ (eq := iB) (lt := fun a b => li a b = true) (P := fun x => jx x = true) (cf := fun x => some (if li x.1 x.2 then -1 else 0)) (l := l.filter jx) (fun x y => iX) (sa _) (fun x i => (bZ.1 i).2) (by omega) (fun x y _ _ => ⟨_, rfl, by cases h : li x y <;> simp [h]⟩)
 have d := (y9 h1).2
 rw [CU, ← d, Fh, BF _ _ _ (by omega)]
 refine ⟨_, rfl, c.1, fun x => ?_⟩
 rw [c.2]
 simp
def tt {κ : Type} (a : List κ) : List (κ × Bool) := a.map fun k => (k, true)
def mW {κ : Type} (beq : κ → κ → Bool) (a : List κ) (k : κ) : Bool := a.any fun x => beq k x
def ins {κ : Type} (beq : κ → κ → Bool) (a : List κ) (k : κ) : List κ := if mW beq a k then a else a ++ [k]
section
variable {κ : Type} {beq : κ → κ → Bool}
theorem jM (b : ∀ {x y}, beq x y = true ↔ x = y) (a : List κ) (k : κ) : mW beq a k = true ↔ k ∈ a := by
 simp [mW, dG, b]
theorem xm (b : ∀ {x y}, beq x y = true ↔ x = y) (a : List κ) (k x : κ) : x ∈ ins beq a k ↔ x ∈ a ∨ x = k := by
 unfold ins
 split
 ·rename_i h
  have := (jM b a k).1 h
  exact ⟨.inl, fun h => by rcases h with h | rfl; exact h; exact this⟩
 ·simp
theorem xf (i : ∀ {x y}, beq x y = true ↔ x = y) {d : List κ} (h : d.Nodup) (k : κ) : (ins beq d k).Nodup := by
 unfold ins
 split
 ·exact h
 ·rename_i hk
  have : k ∉ d := fun hm => hk ((jM i d k).2 hm)
  exact aG.2 ⟨h, by simp, fun a g b c => by simp at c; subst c; intro e; subst e; exact this g⟩
theorem Dz (a : List κ) (k : κ) : (ins beq a k).length ≤ a.length + 1 ∧ a.length ≤ (ins beq a k).length := by
 unfold ins; split <;> simp
theorem Ev (a : List κ) : (tt a).length = a.length := by simp [tt]
theorem xT (a : List κ) (k : κ) : jh beq (tt a) k false = mW beq a k := by
 unfold jh ij mW tt
 induction a with
 | nil => rfl
 | cons x xs ih =>
  simp only [aC, gw, List.any_cons]
  cases h : beq k x with
  | true => simp
  | false => simpa using ih
theorem Cd (l : ∀ {x y}, beq x y = true ↔ x = y) (a : List κ) (k : κ) : ji beq (tt a) k true = tt (ins beq a k) := by
 unfold ji ins
 have m : (tt a).findIdx? (fun p => beq k p.1) = a.findIdx? (fun x => beq k x) := by
  unfold tt; rw [eF]; rfl
 rw [m]
 cases h : a.findIdx? (fun x => beq k x) with
 | none =>
  rw [ei] at h
  rw [ak]
  ·simp [tt]
  ·intro c
   unfold mW at c
   rw [dG] at c
   obtain ⟨x, n, b⟩ := c
   rw [h x n] at b
   cases b
 | some i =>
  rw [bH] at h
  obtain ⟨g, h1, _⟩ := h
  have e := l.1 h1
  rw [an]
  ·simp only [tt]
   apply cI
   intro j
   rw [dt]
   split
   ·rename_i d
    subst d
    simp [g, e]
   ·rfl
  ·unfold mW
   exact dG.2 ⟨a[i], List.getElem_mem g, h1⟩
end
section
variable {all : List gG} {wants : List gH} {T : List gH} {W : List ByteArray} {R : List gG}
def je (c : gG) : List gH := if c.Kind = 1 then [] else if c.Kind = 4 then [c.B, c.C] else [c.B]
end
theorem DM {c : gG} (h : iC c = true) : qw c = some (c.Head :: je c) := by
 unfold qw
 rw [mA, h]
 simp only [aa, bn, ai, aY]
 have a : c.Kind = 1 ∨ c.Kind = 2 ∨ c.Kind = 3 ∨ c.Kind = 4 := by rcases kc h with h | h | h | h <;> simp [h.1]
 rcases a with k | k | k | k
 ·simp [k, je]
 ·rw [an (by simp [k]), jt (by simp) (by simp)]
  simp [k, je]
 ·rw [an (by simp [k]), jt (by simp) (by simp)]
  simp [k, je]
 ·rw [an (by simp [k]), jt (by simp) (by simp)]
  simp only [aa]
  rw [an (by simp [k]), jt (by simp) (by simp)]
  simp [k, je]
theorem vY : ∀ (a T : List gH) (r : gH), r ∈ a.foldl (ins gO) T ↔ r ∈ T ∨ r ∈ a
 | [], T, r => by simp
 | x :: a, T, r => by
  rw [dp, vY a, xm gP]
  simp [or_assoc]
theorem tG : ∀ (a T : List gH), (a.foldl (ins gO) T).length ≤ T.length + a.length
 | [], T => by simp
 | x :: a, T => by
  have h1 := tG a (ins gO T x)
  have b := (Dz (beq := gO) T x).1
  simp only [dp, aq]
  omega
theorem kZ.congr {α : Type} {lt : α → α → Prop} {P : α → Prop} {l m s : List α} (h : kZ lt P l s) (hm : ∀ x, x ∈ l ↔ x ∈ m) : kZ lt P m s := ⟨h.1, fun x => by rw [h.2, hm]⟩
theorem FV {κ : Type} (a : List κ) : (tt a).map (·.1) = a := by simp [tt, du]
theorem AQ : ∀ (l : List gG) (n : Int), 0 ≤ n → n ≤ 4000000000000000000 → (∀ c ∈ l, c.Head.gU.size + c.Head.iz.size + c.ib.size + c.B.gU.size + c.B.iz.size + c.C.gU.size + c.C.iz.size + c.iv.size ≤ 1000000000) → n + l.length * 1000000020 ≤ 4000000000000000000 →
  ∃ r, me l n = some r ∧ n + 20 * l.length ≤ r
 | [], n, _, _, _, _ => ⟨n, rfl, by simp⟩
 | c :: l, n, k, h1, a, g => by
  have h := a c (by simp)
  simp only [aq] at g ⊢
  rw [me]
  rw [jb (x := 20 + (c.Head.gU.size : Int)) (by omega) (by omega), jb (x := 20 + (c.Head.gU.size : Int) + (c.Head.iz.size : Int)) (by omega) (by omega), jb (x := 20 + (c.Head.gU.size : Int) + (c.Head.iz.size : Int) + (c.ib.size : Int)) (by omega) (by omega), jb (x := 20 + (c.Head.gU.size : Int) + (c.Head.iz.size : Int) + (c.ib.size : Int) + (c.B.gU.size : Int)) (by omega) (by omega), jb (x := 20 + (c.Head.gU.size : Int) + (c.Head.iz.size : Int) + (c.ib.size : Int) + (c.B.gU.size : Int) + (c.B.iz.size : Int)) (by omega) (by omega), jb (x := 20 + (c.Head.gU.size : Int) + (c.Head.iz.size : Int) + (c.ib.size : Int) + (c.B.gU.size : Int) + (c.B.iz.size : Int) + (c.C.gU.size : Int)) (by omega) (by omega), jb (x := 20 + (c.Head.gU.size : Int) + (c.Head.iz.size : Int) + (c.ib.size : Int) + (c.B.gU.size : Int) + (c.B.iz.size : Int) + (c.C.gU.size : Int) + (c.C.iz.size : Int)) (by omega) (by omega), jb (x := 20 + (c.Head.gU.size : Int) + (c.Head.iz.size : Int) + (c.ib.size : Int) + (c.B.gU.size : Int) + (c.B.iz.size : Int) + (c.C.gU.size : Int) + (c.C.iz.size : Int) + (c.iv.size : Int)) (by omega) (by omega), jb (by omega) (by omega)]
  obtain ⟨r, b, j⟩ := AQ l (n + (20 + (c.Head.gU.size : Int) + (c.Head.iz.size : Int) + (c.ib.size : Int) + (c.B.gU.size : Int) + (c.B.iz.size : Int) + (c.C.gU.size : Int) + (c.C.iz.size : Int) + (c.iv.size : Int))) (by omega) (by omega) (fun d i => a d (by simp [i])) (by omega)
  exact ⟨r, b, by omega⟩
def vz (c : gG) : Nat := c.Head.gU.size + c.Head.iz.size + c.ib.size + c.B.gU.size + c.B.iz.size + c.C.gU.size + c.C.iz.size + c.iv.size
section
variable {κ γ : Type} {beq : κ → κ → Bool}
theorem lx (a : ∀ {x y}, beq x y = true ↔ x = y) {A B : List (κ × γ)} {k : κ} {x : γ} (b : ∀ p ∈ A, p.1 ≠ k) : ij beq (A ++ (k, x) :: B) k = some x := by
 unfold ij
 rw [List.find?_append]
 have : A.find? (fun p => beq k p.1) = none := List.find?_eq_none.2 (fun p hp h => b p hp (a.1 h).symm)
 rw [this]
 simp [a.2 (rfl : k = k)]
theorem nU (a : ∀ {x y}, beq x y = true ↔ x = y) {l : List (κ × γ)} {k : κ} (h : ∀ p ∈ l, p.1 ≠ k) : ij beq l k = none := by
 unfold ij
 rw [List.find?_eq_none.2 (fun p hp b => h p hp (a.1 b).symm)]
 rfl
theorem pG (a : ∀ {x y}, beq x y = true ↔ x = y) {A B : List (κ × γ)} {k : κ} {x y : γ} (b : ∀ p ∈ A, p.1 ≠ k) : ji beq (A ++ (k, x) :: B) k y = A ++ (k, y) :: B := by
 have h1 : (A ++ (k, x) :: B).findIdx? (fun p => beq k p.1) = some A.length := by
  rw [dw, ei.2 (fun p hp => by
   cases h : beq k p.1 with
   | false => rfl
   | true => exact absurd (a.1 h).symm (b p hp))]
  simp [cD, a.2 (rfl : k = k)]
 rw [kT h1]
 simp
theorem sv (a : ∀ {x y}, beq x y = true ↔ x = y) {l : List (κ × γ)} {k : κ} {y : γ} (h : ∀ p ∈ l, p.1 ≠ k) : ji beq l k y = l ++ [(k, y)] := by
 refine nS (ei.2 (fun p hp => ?_)) y
 cases b : beq k p.1 with
 | false => rfl
 | true => exact absurd (a.1 b).symm (h p hp)
theorem nu (k : κ) : ∀ (l : List (κ × γ)), (∀ p ∈ l, p.1 ≠ k) ∨ ∃ A x B, l = A ++ (k, x) :: B ∧ ∀ p ∈ A, p.1 ≠ k
 | [] => .inl (fun _ h => by cases h)
 | p :: l => by
  by_cases hp : p.1 = k
  ·exact .inr ⟨[], p.2, l, by rw [← hp]; rfl, fun _ h => by cases h⟩
  ·rcases nu k l with h | ⟨A, x, B, rfl, h⟩
   ·exact .inl (fun q a => by rcases aj.1 a with rfl | a; exact hp; exact h q a)
   ·exact .inr ⟨p :: A, x, B, rfl, fun q a => by rcases aj.1 a with rfl | a; exact hp; exact h q a⟩
theorem vw (a : ∀ {x y}, beq x y = true ↔ x = y) (A B : List (κ × γ)) (k : κ) : ij beq (A ++ B) k = (ij beq A k).or (ij beq B k) := by
 unfold ij
 rw [List.find?_append]
 cases A.find? (fun p => beq k p.1) <;> rfl
theorem uj (p : κ × γ) (l : List (κ × γ)) (k : κ) : ij beq (p :: l) k = if beq k p.1 = true then some p.2 else ij beq l k := by
 unfold ij
 rw [gw]
 cases beq k p.1 <;> simp
theorem wE (a : ∀ {x y}, beq x y = true ↔ x = y) (l : List (κ × γ)) (k b : κ) (y : γ) : ij beq (ji beq l k y) b = if beq b k = true then some y else ij beq l b := by
 rcases nu k l with h | ⟨A, x, B, rfl, h⟩
 ·rw [sv a h, vw a, uj]
  by_cases hk : beq b k = true
  ·have := a.1 hk
   subst this
   rw [an hk, an hk, nU a h]; rfl
  ·rw [ak hk, ak hk]
   show (ij beq l b).or none = _
   cases ij beq l b <;> rfl
 ·rw [pG a h, vw a, uj, vw a, uj]
  by_cases hk : beq b k = true
  ·have := a.1 hk
   subst this
   rw [an hk, an hk, nU a h]; rfl
  ·rw [ak hk, ak hk, ak hk]
end
abbrev lj := List (gH × List ByteArray)
def mm (T : lj) : List (gH × List (ByteArray × Bool)) := T.map fun p => (p.1, tt p.2)
def kB (T : lj) (r : gH) : List ByteArray := (ij gO T r).getD []
def FS (T : lj) : List gI := T.flatMap fun p => p.2.map fun w => (⟨p.1, w⟩ : gI)
def wJ (T : lj) (r : gH) (w : ByteArray) : lj := ji gO T r (kB T r ++ [w])
theorem wD (A B : lj) : mm (A ++ B) = mm A ++ mm B := by simp [mm]
theorem so {A : lj} {r : gH} (h : ∀ p ∈ A, p.1 ≠ r) : ∀ p ∈ mm A, p.1 ≠ r := by
 intro p hp
 simp only [mm, aF] at hp
 obtain ⟨q, a, rfl⟩ := hp
 exact h q a
theorem Gg (T : lj) (r : gH) : ij gO (mm T) r = (ij gO T r).map tt := by
 rcases nu r T with h | ⟨A, x, B, rfl, h⟩
 ·rw [nU gP h, nU gP (so h)]; rfl
 ·rw [lx gP h, wD]
  exact lx gP (so h)
theorem CG (T : lj) (r : gH) : (ij gO (mm T) r).getD [] = tt (kB T r) := by
 rw [Gg, kB]; cases ij gO T r <;> rfl
theorem yS (T : lj) (r : gH) (w : ByteArray) : (FS (wJ T r w)).Perm (FS T ++ [(⟨r, w⟩ : gI)]) := by
 unfold wJ kB
 rcases nu r T with h | ⟨A, x, B, rfl, h⟩
 ·rw [sv gP h, nU gP h]
  simp [FS]
 ·rw [pG gP h, lx gP h]
  simp only [FS, fa, cv, eb, aP, aC, dJ, ar]
  refine bi _ (bi _ ?_)
  exact cO
theorem EB {T : lj} (hk : (T.map (·.1)).Nodup) (r : gH) (w : ByteArray) : ((wJ T r w).map (·.1)).Nodup := by
 unfold wJ
 rcases nu r T with h | ⟨A, x, B, rfl, h⟩
 ·rw [sv gP h]
  simp only [aP, aC, dJ]
  refine aG.2 ⟨hk, by simp, fun a d b c e => ?_⟩
  simp at c; subst c; subst e
  obtain ⟨p, hp, e⟩ := aF.1 d
  exact h p hp e
 ·rw [pG gP h]
  simpa using hk
theorem q7 {T : lj} (hk : (T.map (·.1)).Nodup) (f : gI) : f ∈ FS T ↔ f.ib ∈ kB T f.gH := by
 simp only [FS, dH, aF]
 constructor
 ·rintro ⟨p, hp, w, hw, rfl⟩
  obtain ⟨A, B, rfl⟩ := dI hp
  have a : ∀ q ∈ A, q.1 ≠ p.1 := fun q c e => by
   rw [aP, aC] at hk
   exact (aG.1 hk).2.2 q.1 (aF.2 ⟨q, c, rfl⟩) p.1 (by simp) e
  rw [kB, show p = (p.1, p.2) from rfl, lx gP a]
  exact hw
 ·intro h
  unfold kB at h
  rcases nu f.gH T with b | ⟨A, x, B, rfl, a⟩
  ·rw [nU gP b] at h; cases h
  ·rw [lx gP a] at h
   exact ⟨(f.gH, x), by simp, f.ib, h, rfl⟩
theorem uR {T : lj} (h : (FS T).Nodup) (r : gH) : (kB T r).Nodup := by
 unfold kB
 rcases nu r T with b | ⟨A, x, B, rfl, a⟩
 ·rw [nU gP b]; simp
 ·rw [lx gP a]
  simp only [FS, fa, cv] at h
  have h1 := (aG.1 (aG.1 h).2.1).1
  simp only [List.Nodup, ct] at h1
  exact h1.imp (fun h e => h (by rw [e]))
inductive jE (C : List gG) : gI → Prop
 | mem (c) : c ∈ C → c.Kind = 1 → jE C ⟨c.Head, c.ib⟩
 | inc (c w) : c ∈ C → c.Kind = 2 → jE C ⟨c.B, w⟩ → jE C ⟨c.Head, w⟩
 | we (c b w) : c ∈ C → c.Kind = 3 → jE C ⟨c.B, b⟩ → jE C ⟨⟨b, c.iv⟩, w⟩ → jE C ⟨c.Head, w⟩
 | both (c w) : c ∈ C → c.Kind = 4 → jE C ⟨c.B, w⟩ → jE C ⟨c.C, w⟩ → jE C ⟨c.Head, w⟩
theorem jE.mono {C C' : List gG} (h : ∀ c ∈ C, c ∈ C') {f : gI} (i : jE C f) : jE C' f := by
 induction i with
 | mem c a hk => exact .mem c (h c a) hk
 | inc c w a hk _ ih => exact .inc c w (h c a) hk ih
 | we c b w a hk _ _ d g => exact .we c b w (h c a) hk d g
 | both c w a hk _ _ d g => exact .both c w (h c a) hk d g
def tR (C : List gG) : List gI := (C.map (·.Head)).flatMap fun r => (C.map (·.ib)).map fun w => (⟨r, w⟩ : gI)
theorem qD (C : List gG) : (tR C).length = C.length * C.length := by
 unfold tR
 have : ∀ l : List gH, (l.flatMap fun r => (C.map (·.ib)).map fun w => (⟨r, w⟩ : gI)).length = l.length * C.length := fun l => by
  induction l with
  | nil => simp
  | cons x l ih => simp only [cv, ag, ih, bQ, aq, aW]; omega
 rw [this, bQ]
theorem Gl {C : List gG} {r : gH} {w : ByteArray} : (⟨r, w⟩ : gI) ∈ tR C ↔ (∃ c ∈ C, c.Head = r) ∧ ∃ c ∈ C, c.ib = w := by
 unfold tR
 simp only [dH, aF, gI.mk.injEq]
 constructor
 ·rintro ⟨g, ⟨c, d, rfl⟩, h, ⟨b, a, rfl⟩, rfl, rfl⟩; exact ⟨⟨c, d, rfl⟩, b, a, rfl⟩
 ·rintro ⟨⟨c, d, rfl⟩, b, a, rfl⟩; exact ⟨_, ⟨c, d, rfl⟩, _, ⟨b, a, rfl⟩, rfl, rfl⟩
theorem jE.nF {C : List gG} {f : gI} (h : jE C f) : ∃ c ∈ C, c.Kind = 1 ∧ c.ib = f.ib := by
 induction h with
 | mem c g hk => exact ⟨c, g, hk, rfl⟩
 | inc c w g hk _ ih => exact ih
 | we c b w g hk _ _ a d => exact d
 | both c w g hk _ _ a d => exact a
theorem jE.head {C : List gG} {f : gI} (h : jE C f) : ∃ c ∈ C, c.Head = f.gH := by
 cases h with
 | mem c a hk => exact ⟨c, a, rfl⟩
 | inc c w a hk _ => exact ⟨c, a, rfl⟩
 | we c b w a hk _ _ => exact ⟨c, a, rfl⟩
 | both c w a hk _ _ => exact ⟨c, a, rfl⟩
theorem jE.tR {C : List gG} {f : gI} (h : jE C f) : f ∈ tR C := by
 obtain ⟨c, a, _, hw⟩ := h.nF
 exact Gl.2 ⟨h.head, c, a, hw⟩
structure ma (C : List gG) (T : lj) (td : List gI) (n : Int) : Prop where
 keys : (T.map (·.1)).Nodup
 nd : (FS T).Nodup
 Ch : td.Nodup
 sub : ∀ f ∈ td, f ∈ FS T
 num : n = (FS T).length
 qk : ∀ f ∈ FS T, jE C f
theorem ma.len {C : List gG} {T : lj} {b : List gI} {n : Int} (h : ma C T b n) : (FS T).length ≤ C.length * C.length := by
 rw [← qD]; exact iW h.nd (fun f a => (h.qk f a).tR)
theorem ma.G7 {C : List gG} {T : lj} {a : List gI} {n : Int} (h : ma C T a n) : a.length ≤ (FS T).length := iW h.Ch h.sub
theorem ma.mono {C C' : List gG} {T : lj} {a : List gI} {n : Int} (h : ma C T a n) (b : ∀ c ∈ C, c ∈ C') : ma C' T a n := ⟨h.keys, h.nd, h.Ch, h.sub, h.num, fun f d => (h.qk f d).mono b⟩
structure sM (T : lj) (td : List gI) (T' : lj) (td' : List gI) : Prop where
 jg : ∀ f ∈ FS T, f ∈ FS T'
 todo : ∀ f ∈ td, f ∈ td'
 new : ∀ f ∈ FS T', f ∈ FS T ∨ f ∈ td'
 fresh : ∀ f ∈ td', f ∈ td ∨ f ∉ FS T
theorem sM.refl (T : lj) (a : List gI) : sM T a T a := ⟨fun _ h => h, fun _ h => h, fun _ h => .inl h, fun _ h => .inl h⟩
theorem sM.trans {T T' T'' : lj} {g d a : List gI} (h : sM T g T' d) (k : sM T' d T'' a) : sM T g T'' a :=
 ⟨fun f b => k.jg f (h.jg f b), fun f b => k.todo f (h.todo f b), fun f b => by
  rcases k.new f b with h1 | h1
  ·rcases h.new f h1 with c | c
   ·exact .inl c
   ·exact .inr (k.todo f c)
  ·exact .inr h1, fun f b => by
  rcases k.fresh f b with h1 | h1
  ·exact h.fresh f h1
  ·exact .inr (fun c => h1 (h.jg f c))⟩
theorem zd {α : Type} (p : α → Bool) : ∀ l : List α, (l.filter p).length + (l.filter fun x => !p x).length = l.length
 | [] => rfl
 | x :: l => by
  have := zd p l
  cases h : p x <;> simp [h] <;> omega
theorem ma.xG {C C' : List gG} {T T' : lj} {d c : List gI} {n m : Int} (g' : ma C' T' c m) (g : ma C T d n) (x : sM T d T' c) : c.length + (FS T).length ≤ d.length + (FS T').length := by
 classical
 have h1 : (c.filter fun f => decide (f ∈ FS T)).length ≤ d.length := iW (g'.Ch.filter _) (fun f i => by
  have := bZ.1 i
  rcases x.fresh f this.1 with h | h
  ·exact h
  ·exact absurd (by simpa using this.2) h)
 have j : (FS T ++ c.filter fun f => !decide (f ∈ FS T)).length ≤ (FS T').length := iW (aG.2 ⟨g.nd, g'.Ch.filter _, fun a k b l e => by
  subst e
  have := (bZ.1 l).2
  simp [k] at this⟩) (fun f i => by
  rcases aA.1 i with h | h
  ·exact x.jg f h
  ·exact g'.sub f (bZ.1 h).1)
 have o : (c.filter fun f => decide (f ∈ FS T)).length + (c.filter fun f => !decide (f ∈ FS T)).length = c.length := by
  exact zd (fun f => decide (f ∈ FS T)) c
 rw [ag] at j
 omega
def uM (C : List gG) (T : lj) (d : List gI) (b : Option (List (gH × List (ByteArray × Bool)) × List gI × Int)) (Q : lj → Prop) : Prop :=
 ∃ T' a c, b = some (mm T', a, c) ∧ ma C T' a c ∧ sM T d T' a ∧ Q T'
theorem uM.mono {C : List gG} {T : lj} {d : List gI} {a : Option (List (gH × List (ByteArray × Bool)) × List gI × Int)} {Q Q' : lj → Prop} (h : uM C T d a Q) (j : ∀ T', (∀ f ∈ FS T, f ∈ FS T') → Q T' → Q' T') : uM C T d a Q' := by
 obtain ⟨T', b, k, h1, g, c, i⟩ := h
 exact ⟨T', b, k, h1, g, c, j T' c.jg i⟩
def mN (C : List gG) : Prop := C.length ≤ 1000000
theorem mN.sq {C : List gG} (h : mN C) : C.length * C.length ≤ 1000000000000 := dj h h
theorem oS {T : lj} (hk : (T.map (·.1)).Nodup) (r : gH) (w : ByteArray) : jh iB ((ij gO (mm T) r).getD []) w false = true ↔ (⟨r, w⟩ : gI) ∈ FS T := by
 rw [CG, xT, jM iX, q7 hk]
theorem vl {C : List gG} (y : mN C) {T : lj} {j : List gI} {n : Int} (h : ma C T j n) (cs : List gG) (L : List (gH × List gG)) (ws : List (ByteArray × List gG)) {r : gH} {w : ByteArray} (E : jE C ⟨r, w⟩) :
  uM C T j (kf (mm T) cs L ws j n r w) (fun T' => (⟨r, w⟩ : gI) ∈ FS T') := by
 unfold kf
 have I := y.sq
 have M := h.len
 have J := h.G7
 by_cases d : (⟨r, w⟩ : gI) ∈ FS T
 ·rw [an ((oS h.keys r w).2 d)]
  exact ⟨T, j, n, rfl, h, sM.refl _ _, d⟩
 ·rw [ak (fun t => d ((oS h.keys r w).1 t))]
  have G : ma C (wJ T r w) (j ++ [⟨r, w⟩]) (n + 1) := by
   have hp := yS T r w
   refine ⟨EB h.keys r w, (hp.nodup_iff).2 (aG.2 ⟨h.nd, by simp, fun a s b m e => ?_⟩), aG.2 ⟨h.Ch, by simp, fun a s b m e => ?_⟩, fun f c => hp.mem_iff.2 ?_, ?_, fun f c => ?_⟩
   ·simp at m; subst m; subst e; exact d s
   ·simp at m; subst m; subst e; exact d (h.sub _ s)
   ·rcases aA.1 c with c | c
    ·exact aN _ (h.sub f c)
    ·exact bf _ c
   ·rw [hp.length_eq, h.num]; simp
   ·rcases aA.1 (hp.mem_iff.1 c) with c | c
    ·exact h.qk f c
    ·simp at c; subst c; exact E
  have u : ((if (ij gO (mm T) r).isNone = true then ((yu gO (mm T) r []).bind fun l => some l) else some (mm T)) : Option _).bind (fun l => (yp gO iB l r w true)) = some (mm (wJ T r w)) := by
   unfold wJ kB
   rcases nu r T with i | ⟨A, x, B, rfl, q⟩
   ·have p := nU gP (so i)
    rw [p, nU gP i, sv gP i, wD]
    simp only [Option.isNone_none, bj, yu, p, aa]
    rw [sv gP (so i)]
    unfold yp
    rw [lx gP (so i)]
    simp only [bK]
    rw [pG gP (so i)]
    rfl
   ·have k := so q
    have v : ij gO (mm (A ++ (r, x) :: B)) r = some (tt x) := by rw [wD]; exact lx gP k
    rw [v, lx gP q, pG gP q]
    simp only [Option.isNone_some, ai, aY, aa, yp, v, bK, eb]
    have K : w ∉ x := fun hw => d (by
     rw [q7 h.keys, kB, lx gP q]; exact hw)
    rw [Cd iX]
    rw [show ins iB x w = x ++ [w] from by unfold ins; rw [ak (fun t => K ((jM iX x w).1 t))]]
    rw [wD, show mm ((r, x) :: B) = (r, tt x) :: mm B from rfl, pG gP k, wD]
    rfl
  refine ⟨wJ T r w, j ++ [⟨r, w⟩], n + 1, ?_, G, ⟨fun f c => (yS T r w).mem_iff.2 (aN _ c), fun f c => aN _ c, fun f c => ?_, fun f c => ?_⟩, (yS T r w).mem_iff.2 (by simp)⟩
  ·have g := u
   generalize ((if (ij gO (mm T) r).isNone = true then ((yu gO (mm T) r []).bind fun l => some l) else some (mm T)) : Option _) = o at g
   cases o with
   | none => cases g
   | some l =>
    simp only [aa] at g ⊢
    rw [g]
    simp only [aa]
    rw [jt (by simp; omega) (by simp; omega)]
    simp only [aa]
    rw [jb (by rw [h.num]; omega) (by rw [h.num]; omega)]
  ·rcases aA.1 ((yS T r w).mem_iff.1 c) with h1 | h1
   ·exact .inl h1
   ·exact .inr (bf _ h1)
  ·rcases aA.1 c with h1 | h1
   ·exact .inl h1
   ·simp at h1; subst h1; exact .inr d
theorem pU (l : List ByteArray) (x : ByteArray) : x ∈ jj l ↔ x ∈ l := by unfold jj; simp
def lO (C : List gG) : Prop := ∀ c ∈ C, iC c = true
theorem DQ {c : gG} (h : iC c = true) (hk : c.Kind = 1) : c.ib.size ≤ 16 := by
 rcases kc h with h | h | h | h
 ·exact (kv h.2.1).2
 ·exact absurd (hk.symm.trans h.1) (by decide)
 ·exact absurd (hk.symm.trans h.1) (by decide)
 ·exact absurd (hk.symm.trans h.1) (by decide)
theorem EJ {T : lj} (r : gH) (hk : (T.map (·.1)).Nodup) : (kB T r).length ≤ (FS T).length := by
 unfold kB
 rcases nu r T with b | ⟨A, x, B, rfl, a⟩
 ·rw [nU gP b]; simp
 ·rw [lx gP a]
  simp only [FS, fa, cv, ag, bQ, eb]
  omega
theorem vG {C : List gG} (a : mN C) (b : lO C) {T : lj} {i : List gI} {n : Int} (h : ma C T i n) (cs : List gG) (j : List (gH × List gG)) (ws : List (ByteArray × List gG)) (q : List gI) (z : Int) (r : gH) :
  js (mm T) cs j ws q z r = some (jj (kB T r)) := by
 unfold js kL
 rw [CG]
 simp only [aa, sF]
 have m := EJ r h.keys
 have k := h.len
 have l := a.sq
 unfold yK
 rw [FV, an]
 refine ⟨uR h.nd r, fun p hp => ?_, by rw [Ev]; omega⟩
 simp only [tt, aF] at hp
 obtain ⟨w, hw, rfl⟩ := hp
 have g := h.qk ⟨r, w⟩ ((q7 h.keys ⟨r, w⟩).2 hw)
 obtain ⟨c, d, hk, e⟩ := g.nF
 have := DQ (b c d) hk
 simp only at e ⊢
 rw [← e]
 unfold maxLen
 omega
theorem DV {C : List gG} (g : mN C) (cs : List gG) (d : List (gH × List gG)) (ws : List (ByteArray × List gG)) (head : gH) : ∀ (l : List ByteArray) {T : lj} {a : List gI} {n : Int}, ma C T a n → (∀ w ∈ l, jE C ⟨head, w⟩) →
  uM C T a (lP cs d ws head l (mm T) a n) (fun T' => ∀ w ∈ l, (⟨head, w⟩ : gI) ∈ FS T')
 | [], T, a, n, h, _ => ⟨T, a, n, rfl, h, sM.refl _ _, fun _ hw => by cases hw⟩
 | w :: l, T, a, n, h, i => by
  rw [lP]
  obtain ⟨T1, q, r, j, g1, x1, o⟩ := vl g h cs d ws (i w (by simp))
  rw [j]
  simp only [aa]
  obtain ⟨T2, c, m, k, g2, x2, p⟩ := DV g cs d ws head l g1 (fun w hw => i w (by simp [hw]))
  refine ⟨T2, c, m, k, g2, x1.trans x2, fun v b => ?_⟩
  rcases aj.1 b with rfl | b
  ·exact x2.jg _ o
  ·exact p v b
theorem GS {C : List gG} (b : mN C) (d : lO C) {T : lj} {a : List gI} {n : Int} (h : ma C T a n) (cs : List gG) (c : List (gH × List gG)) (ws : List (ByteArray × List gG)) (r head : gH) (g : ∀ w, (⟨r, w⟩ : gI) ∈ FS T → jE C ⟨head, w⟩) :
  uM C T a (oB (mm T) cs c ws a n r head) (fun T' => ∀ w, (⟨r, w⟩ : gI) ∈ FS T → (⟨head, w⟩ : gI) ∈ FS T') := by
 unfold oB
 rw [vG b d h]
 simp only [aa]
 refine (DV b cs c ws head _ h (fun w hw => g w ((q7 h.keys ⟨r, w⟩).2 ((pU _ _).1 hw)))).mono (fun T' _ i w hw => i w ((pU _ _).2 ((q7 h.keys ⟨r, w⟩).1 hw)))
def xg (c : gG) (f : gI) (T T' : lj) : Prop :=
 (c.Kind = 2 → f.gH = c.B → (⟨c.Head, f.ib⟩ : gI) ∈ FS T') ∧
 (c.Kind = 3 → f.gH = c.B → ∀ w, (⟨⟨f.ib, c.iv⟩, w⟩ : gI) ∈ FS T → (⟨c.Head, w⟩ : gI) ∈ FS T') ∧
 (c.Kind = 4 → (⟨c.B, f.ib⟩ : gI) ∈ FS T → (⟨c.C, f.ib⟩ : gI) ∈ FS T → (⟨c.Head, f.ib⟩ : gI) ∈ FS T')
theorem xg.mono {c : gG} {f : gI} {T T' T0 T1 : lj} (h : xg c f T T') (g : ∀ f ∈ FS T0, f ∈ FS T) (h1 : ∀ f ∈ FS T', f ∈ FS T1) : xg c f T0 T1 :=
 ⟨fun a b => h1 _ (h.1 a b), fun a b w hw => h1 _ (h.2.1 a b w (g _ hw)), fun a b d => h1 _ (h.2.2 a (g _ b) (g _ d))⟩
theorem FL (x : Option (List (gH × List (ByteArray × Bool)) × List gI × Int)) : (x.bind fun r => some (r.1, r.2.1, r.2.2)) = x := by cases x <;> rfl
theorem DX {C : List gG} (o : mN C) (t : lO C) {T : lj} {i : List gI} {n : Int} (h : ma C T i n) (cs : List gG) (l : List (gH × List gG)) (ws : List (ByteArray × List gG)) {c : gG} (p : c ∈ C) {f : gI} (r : f ∈ FS T) (s : f.gH ∈ je c) :
  uM C T i (mQ (mm T) cs l ws i n c f) (xg c f T) := by
 unfold mQ
 simp only [FL, sw]
 by_cases a : c.Kind = 2
 ·have m : f.gH = c.B := by simpa [je, a] using s
  rw [an (by simp [a])]
  have q : jE C ⟨c.Head, f.ib⟩ := .inc c f.ib p a (by rw [← m]; exact h.qk f r)
  refine (vl o h cs l ws q).mono (fun T' _ g => ⟨fun _ _ => g, fun k => absurd (a.symm.trans k) (by decide), fun k => absurd (a.symm.trans k) (by decide)⟩)
 rw [ak (by simp [a])]
 by_cases b : c.Kind = 3
 ·have m : f.gH = c.B := by simpa [je, b] using s
  rw [an (by simp [b])]
  refine (GS o t h cs l ws ⟨f.ib, c.iv⟩ c.Head (fun w hw => .we c f.ib w p b (by rw [← m]; exact h.qk f r) (h.qk _ hw))).mono (fun T' _ g => ⟨fun k => absurd k a, fun _ _ w hw => g w hw, fun k => absurd (b.symm.trans k) (by decide)⟩)
 rw [ak (by simp [b])]
 by_cases j : c.Kind = 4
 ·rw [an (by simp [j])]
  simp only [aa]
  by_cases d : (⟨c.B, f.ib⟩ : gI) ∈ FS T ∧ (⟨c.C, f.ib⟩ : gI) ∈ FS T
  ·rw [an (by rw [aH, oS h.keys, oS h.keys]; exact d)]
   have q : jE C ⟨c.Head, f.ib⟩ := .both c f.ib p j (h.qk _ d.1) (h.qk _ d.2)
   exact (vl o h cs l ws q).mono (fun T' _ g => ⟨fun k => absurd k a, fun k => absurd k b, fun _ _ _ => g⟩)
  ·rw [ak (by rw [aH, oS h.keys, oS h.keys]; exact d)]
   exact ⟨T, i, n, rfl, h, sM.refl _ _, fun k => absurd k a, fun k => absurd k b, fun _ x y => absurd ⟨x, y⟩ d⟩
 ·rw [ak (by simp [j])]
  exact ⟨T, i, n, rfl, h, sM.refl _ _, fun k => absurd k a, fun k => absurd k b, fun k => absurd k j⟩
theorem Be {C : List gG} (i : mN C) (j : lO C) (cs : List gG) (g : List (gH × List gG)) (ws : List (ByteArray × List gG)) {c : gG} (k : c ∈ C) (m : c.B ∈ je c) : ∀ (l : List ByteArray) {T : lj} {a : List gI} {n : Int}, ma C T a n → (∀ w ∈ l, (⟨c.B, w⟩ : gI) ∈ FS T) →
  uM C T a (lc cs g ws c l (mm T) a n) (fun T' => ∀ w ∈ l, xg c ⟨c.B, w⟩ T T')
 | [], T, a, n, h, _ => ⟨T, a, n, rfl, h, sM.refl _ _, fun _ hw => by cases hw⟩
 | w :: l, T, a, n, h, hm => by
  rw [lc]
  obtain ⟨T1, t, u, o, g1, x1, r⟩ := DX i j h cs g ws k (f := ⟨c.B, w⟩) (hm w (by simp)) m
  rw [o]
  simp only [aa]
  obtain ⟨T2, d, q, p, g2, x2, s⟩ := Be i j cs g ws k m l g1 (fun w hw => x1.jg _ (hm w (by simp [hw])))
  refine ⟨T2, d, q, p, g2, x1.trans x2, fun v b => ?_⟩
  rcases aj.1 b with rfl | b
  ·exact r.mono (fun _ h => h) x2.jg
  ·exact (s v b).mono x1.jg (fun _ h => h)
def xE (c : gG) (T : lj) (a : List gI) : Prop :=
 (c.Kind = 1 → (⟨c.Head, c.ib⟩ : gI) ∈ FS T) ∧
 (c.Kind = 2 → ∀ w, (⟨c.B, w⟩ : gI) ∈ FS T → (⟨c.B, w⟩ : gI) ∉ a → (⟨c.Head, w⟩ : gI) ∈ FS T) ∧
 (c.Kind = 3 → ∀ b w, (⟨c.B, b⟩ : gI) ∈ FS T → (⟨c.B, b⟩ : gI) ∉ a → (⟨⟨b, c.iv⟩, w⟩ : gI) ∈ FS T → (⟨⟨b, c.iv⟩, w⟩ : gI) ∉ a → (⟨c.Head, w⟩ : gI) ∈ FS T) ∧
 (c.Kind = 4 → ∀ w, (⟨c.B, w⟩ : gI) ∈ FS T → (⟨c.B, w⟩ : gI) ∉ a → (⟨c.C, w⟩ : gI) ∈ FS T → (⟨c.C, w⟩ : gI) ∉ a → (⟨c.Head, w⟩ : gI) ∈ FS T)
theorem xE.ext {c : gG} {T T' : lj} {i d : List gI} (h : xE c T i) (x : sM T i T' d) : xE c T' d := by
 have jg : ∀ f, f ∈ FS T' → f ∉ d → f ∈ FS T ∧ f ∉ i := fun f m j => by
  rcases x.new f m with h1 | h1
  ·exact ⟨h1, fun l => j (x.todo f l)⟩
  ·exact absurd h1 j
 refine ⟨fun k => x.jg _ (h.1 k), fun k w a b => ?_, fun k b w g a2 a3 a4 => ?_, fun k w g a2 a3 a4 => ?_⟩
 ·exact x.jg _ (h.2.1 k w (jg _ a b).1 (jg _ a b).2)
 ·exact x.jg _ (h.2.2.1 k b w (jg _ g a2).1 (jg _ g a2).2 (jg _ a3 a4).1 (jg _ a3 a4).2)
 ·exact x.jg _ (h.2.2.2 k w (jg _ g a2).1 (jg _ g a2).2 (jg _ a3 a4).1 (jg _ a3 a4).2)
theorem Fm {C : List gG} (l : mN C) (r : lO C) {T : lj} {o : List gI} {n : Int} (h : ma C T o n) (cs : List gG) (p : List (gH × List gG)) (ws : List (ByteArray × List gG)) {c : gG} (s : c ∈ C) :
  ∃ T' d i, nA (mm T) cs p ws o n c = some (mm T', d, i) ∧ ma C T' d i ∧ sM T o T' d ∧ xE c T' d := by
 unfold nA
 simp only [FL]
 by_cases h1 : c.Kind = 1
 ·rw [an (by simp [h1])]
  obtain ⟨T', d, i, e, g, x, q⟩ := vl l h cs p ws (jE.mem c s h1)
  exact ⟨T', d, i, e, g, x, fun _ => q, fun k => absurd (h1.symm.trans k) (by decide), fun k => absurd (h1.symm.trans k) (by decide), fun k => absurd (h1.symm.trans k) (by decide)⟩
 ·rw [ak (by simp [h1]), vG l r h]
  simp only [aa]
  have v : c.B ∈ je c := by unfold je; rw [ak h1]; split <;> simp
  obtain ⟨T', d, i, e, g, x, q⟩ := Be l r cs p ws s v (jj (kB T c.B)) h (fun w hw => (q7 h.keys ⟨c.B, w⟩).2 ((pU _ _).1 hw))
  have jg : ∀ f, f ∈ FS T' → f ∉ d → f ∈ FS T := fun f t u => by
   rcases x.new f t with h1 | h1
   ·exact h1
   ·exact absurd h1 u
  have m : ∀ w, (⟨c.B, w⟩ : gI) ∈ FS T → xg c ⟨c.B, w⟩ T T' := fun w hw => q w ((pU _ _).2 ((q7 h.keys ⟨c.B, w⟩).1 hw))
  refine ⟨T', d, i, e, g, x, fun k => absurd k h1, fun k w a b => ?_, fun k b w j a2 a3 a4 => ?_, fun k w j a2 a3 a4 => ?_⟩
  ·exact (m w (jg _ a b)).1 k rfl
  ·exact (m b (jg _ j a2)).2.1 k rfl w (jg _ a3 a4)
  ·exact (m w (jg _ j a2)).2.2 k (jg _ j a2) (jg _ a3 a4)
structure xc (C : List gG) (us : List (gH × List gG)) (ws : List (ByteArray × List gG)) : Prop where
 EX : ∀ r c, c ∈ (ij gO us r).getD [] ↔ c ∈ C ∧ r ∈ je c
 word : ∀ w c, c ∈ (ij iB ws w).getD [] ↔ c ∈ C ∧ c.Kind = 3 ∧ c.iv = w
 GO : ∀ r, ((ij gO us r).getD []).length ≤ 2 * C.length
 GZ : ∀ w, ((ij iB ws w).getD []).length ≤ C.length
theorem zN {C : List gG} (i : mN C) (j : lO C) (cs : List gG) (g : List (gH × List gG)) (ws : List (ByteArray × List gG)) {f : gI} : ∀ (l : List gG) {T : lj} {a : List gI} {n : Int}, ma C T a n → f ∈ FS T → (∀ c ∈ l, c ∈ C ∧ f.gH ∈ je c) →
  uM C T a (kV cs g ws f l (mm T) a n) (fun T' => ∀ c ∈ l, xg c f T T')
 | [], T, a, n, h, _, _ => ⟨T, a, n, rfl, h, sM.refl _ _, fun _ hw => by cases hw⟩
 | c :: l, T, a, n, h, k, hm => by
  rw [kV]
  obtain ⟨T1, t, u, m, g1, x1, r⟩ := DX i j h cs g ws (hm c (by simp)).1 k (hm c (by simp)).2
  rw [m]
  simp only [aa]
  obtain ⟨T2, d, q, o, g2, x2, s⟩ := zN i j cs g ws l g1 (x1.jg _ k) (fun c p => hm c (by simp [p]))
  refine ⟨T2, d, q, o, g2, x1.trans x2, fun v b => ?_⟩
  rcases aj.1 b with rfl | b
  ·exact r.mono (fun _ h => h) x2.jg
  ·exact (s v b).mono x1.jg (fun _ h => h)
theorem wO {C : List gG} (m : mN C) (t : lO C) (cs : List gG) (j : List (gH × List gG)) (ws : List (ByteArray × List gG)) {f : gI} : ∀ (l : List gG) {T : lj} {g : List gI} {n : Int}, ma C T g n → f ∈ FS T → (∀ c ∈ l, c ∈ C ∧ c.Kind = 3 ∧ c.iv = f.gH.iz) →
  uM C T g (kk f cs j ws l (mm T) g n) (fun T' => ∀ c ∈ l, (⟨c.B, f.gH.gU⟩ : gI) ∈ FS T → (⟨c.Head, f.ib⟩ : gI) ∈ FS T')
 | [], T, g, n, h, _, _ => ⟨T, g, n, rfl, h, sM.refl _ _, fun _ hw => by cases hw⟩
 | c :: l, T, g, n, h, p, hm => by
  rw [kk]
  have hk := hm c (by simp)
  by_cases i : (⟨c.B, f.gH.gU⟩ : gI) ∈ FS T
  ·rw [an ((oS h.keys _ _).2 i)]
   have q : f = ⟨⟨f.gH.gU, c.iv⟩, f.ib⟩ := by rw [hk.2.2]
   have w : jE C ⟨c.Head, f.ib⟩ := .we c f.gH.gU f.ib hk.1 hk.2.1 (h.qk _ i) (by rw [← q]; exact h.qk f p)
   obtain ⟨T1, A, E, u, g1, x1, y⟩ := vl m h cs j ws w
   rw [u]
   simp only [aa]
   obtain ⟨T2, d, r, k, g2, x2, s⟩ := wO m t cs j ws l g1 (x1.jg _ p) (fun c o => hm c (by simp [o]))
   refine ⟨T2, d, r, k, g2, x1.trans x2, fun v b a => ?_⟩
   rcases aj.1 b with rfl | b
   ·exact x2.jg _ y
   ·exact s v b (x1.jg _ a)
  ·rw [ak (fun x => i ((oS h.keys _ _).1 x))]
   obtain ⟨T2, d, r, k, g2, x2, s⟩ := wO m t cs j ws l h p (fun c o => hm c (by simp [o]))
   refine ⟨T2, d, r, k, g2, x2, fun v b a => ?_⟩
   rcases aj.1 b with rfl | b
   ·exact absurd a i
   ·exact s v b a
theorem z8 {C : List gG} (G : mN C) (I : lO C) {cs : List gG} {A : List (gH × List gG)} {ws : List (ByteArray × List gG)} (t : xc C A ws) : ∀ (m : Nat) {T : lj} {l : List gI} {n : Int}, ma C T l n → (∀ c ∈ C, xE c T l) → C.length * C.length + l.length < m + (FS T).length →
  ∃ T' L, jA cs A ws m (mm T) l n = some (mm T', [], L) ∧ ma C T' [] L ∧ (∀ c ∈ C, xE c T' []) ∧ (∀ f ∈ FS T, f ∈ FS T')
 | 0, T, l, n, h, _, hm => by have := h.len; omega
 | m + 1, T, [], n, h, p, hm => by
  rw [jA]
  exact ⟨T, n, rfl, h, p, fun _ h => h⟩
 | m + 1, T, f :: l, n, h, p, hm => by
  rw [jA]
  rw [an (by simp)]
  have K : f ∈ FS T := h.sub f (by simp)
  have R := (bP.1 h.Ch)
  simp only [kM, Int.le_refl, bj, Int.toNat_zero, eB, aa]
  rw [show mK (decide ((0 : Nat) ≤ 1) && decide ((1 : Int) ≤ ((f :: l).length : Int))) = some () by simp [mK]; omega]
  simp only [aa, show Int.toNat 1 = 1 from rfl, List.drop_one, List.tail_cons]
  have J : ma C T l n := ⟨h.keys, h.nd, R.2, fun g v => h.sub g (by simp [v]), h.num, h.qk⟩
  obtain ⟨T1, a6, n1, O, g1, x1, Z⟩ := zN G I cs A ws ((ij gO A f.gH).getD []) J K (fun c i => (t.EX _ c).1 i)
  rw [O]
  simp only [aa]
  obtain ⟨T2, q, n2, P, g2, x2, q2⟩ := wO G I cs A ws ((ij iB ws f.gH.iz).getD []) g1 (x1.jg _ K) (fun c i => (t.word _ c).1 i)
  rw [P]
  simp only [aa]
  have x := x1.trans x2
  have jg : ∀ g, g ∈ FS T2 → g ∉ q → g ∈ FS T ∧ (g = f ∨ g ∉ f :: l) := fun g v y => by
   rcases x.new g v with h1 | h1
   ·refine ⟨h1, ?_⟩
    by_cases he : g = f
    ·exact .inl he
    ·exact .inr (fun s => by
      rcases aj.1 s with s | s
      ·exact he s
      ·exact y (x.todo g s))
   ·exact absurd h1 y
  have d1 : ∀ c ∈ C, f.gH ∈ je c → xg c f T T2 := fun c i U => (Z c ((t.EX _ c).2 ⟨i, U⟩)).mono (fun _ h => h) x2.jg
  have u : ∀ c ∈ C, xE c T2 q := fun c i => by
   have k := p c i
   refine ⟨fun hk => x.jg _ (k.1 hk), fun hk w a b => ?_, fun hk b w E a2 a3 a4 => ?_, fun hk w E a2 a3 a4 => ?_⟩
   ·obtain ⟨o, d⟩ := jg _ a b
    rcases d with d | d
    ·subst d; exact (d1 c i (by simp [je, hk])).1 hk rfl
    ·exact x.jg _ (k.2.1 hk w o d)
   ·obtain ⟨o, d⟩ := jg _ E a2
    obtain ⟨r, j⟩ := jg _ a3 a4
    rcases d with d | d
    ·subst d; exact (d1 c i (by simp [je, hk])).2.1 hk rfl w r
    ·rcases j with j | j
     ·subst j
      exact q2 c ((t.word _ c).2 ⟨i, hk, rfl⟩) (x1.jg _ o)
     ·exact x.jg _ (k.2.2.1 hk b w o d r j)
   ·obtain ⟨o, d⟩ := jg _ E a2
    obtain ⟨r, j⟩ := jg _ a3 a4
    rcases d with d | d
    ·subst d; exact (d1 c i (by simp [je, hk])).2.2 hk o r
    ·rcases j with j | j
     ·subst j; exact (d1 c i (by simp [je, hk])).2.2 hk o r
     ·exact x.jg _ (k.2.2.2 hk w o d r j)
  have hlen : q.length + (FS T).length ≤ l.length + (FS T2).length := by
   exact g2.xG J x
  obtain ⟨T3, W, Q, g3, M, Y⟩ := z8 G I t m g2 u (by simp only [aq] at hm; omega)
  exact ⟨T3, W, Q, g3, M, fun g v => Y g (x.jg g v)⟩
theorem Cw (c : gG) : ∀ (l : List gG) (i : Nat), ∃ z, lL c l i = some z ∧ (z ≥ 0 ↔ c ∈ l)
 | [], i => ⟨-1, rfl, by simp⟩
 | x :: l, i => by
  rw [lL]
  by_cases h : mJ c x = true
  ·rw [an h]
   exact ⟨_, rfl, by simp [uP.1 h]⟩
  ·rw [ak h]
   obtain ⟨z, e, b⟩ := Cw c l (i + 1)
   refine ⟨z, e, ?_⟩
   rw [b, aj]
   exact ⟨.inr, fun a => a.resolve_left (fun e => h (uP.2 e))⟩
theorem EF (c : gG) (l : List gG) : ∃ b, tz l c = some b ∧ (b = true ↔ c ∈ l) := by
 obtain ⟨z, e, a⟩ := Cw c l 0
 refine ⟨decide (z ≥ 0), ?_, by simpa using a⟩
 unfold tz oV qa
 rw [e]
 rfl
theorem Cx (c : gG) (ws : List (ByteArray × List gG)) (C : List gG) (hw : ∀ w, ((ij iB ws w).getD []).length ≤ 2000000) : ∀ (j : List gH) (a : List (gH × List gG)), (∀ r, ((ij gO a r).getD []).length + j.length ≤ 4000000) →
  ∃ g i, kA c ws C j a = some (C, g, i) ∧ (∀ r x, x ∈ (ij gO g r).getD [] ↔ x ∈ (ij gO a r).getD [] ∨ (x = c ∧ r ∈ j)) ∧
   (∀ w x, x ∈ (ij iB i w).getD [] ↔ x ∈ (ij iB ws w).getD [] ∨ (x = c ∧ c.Kind = 3 ∧ w = c.iv)) ∧ (∀ r, ((ij gO g r).getD []).length ≤ ((ij gO a r).getD []).length + j.length) ∧
   (∀ w, ((ij iB i w).getD []).length ≤ ((ij iB ws w).getD []).length + 1)
 | [], a, _ => by
  rw [kA]
  by_cases k : c.Kind = 3
  ·rw [an (by simp [k])]
   have h := hw c.iv
   rw [jt (by simp; omega) (by simp; omega)]
   simp only [aa]
   refine ⟨a, _, rfl, by simp, fun w x => ?_, by simp, fun w => ?_⟩
   ·rw [wE iX]
    by_cases hk : iB w c.iv = true
    ·rw [an hk, iX.1 hk]; simp [k]
    ·rw [ak hk]
     have : w ≠ c.iv := fun e => hk (iX.2 e)
     simp [this]
   ·rw [wE iX]
    by_cases hk : iB w c.iv = true
    ·rw [an hk, iX.1 hk]; simp
    ·rw [ak hk]; exact fJ _
  ·rw [ak (by simp [k])]
   exact ⟨a, ws, rfl, by simp, by simp [k], by simp, by simp⟩
 | b :: j, a, l => by
  rw [kA]
  have h := l b
  simp only [aq] at h
  rw [jt (by simp; omega) (by simp; omega)]
  simp only [aa]
  have d : ∀ r, (ij gO (ji gO a b (((ij gO a b).getD []) ++ [c])) r).getD [] = if gO r b = true then ((ij gO a b).getD []) ++ [c] else (ij gO a r).getD [] := fun r => by
   rw [wE gP]; by_cases hk : gO r b = true
   ·rw [an hk, an hk]; rfl
   ·rw [ak hk, ak hk]
  obtain ⟨g, i, e, m, a2, a3, a4⟩ := Cx c ws C hw j (ji gO a b (((ij gO a b).getD []) ++ [c])) (fun r => by
   rw [d r]
   have n := l r
   simp only [aq] at n
   by_cases hk : gO r b = true
   ·rw [an hk]; simp; omega
   ·rw [ak hk]; omega)
  refine ⟨g, i, e, fun r x => ?_, a2, fun r => ?_, a4⟩
  ·rw [m, d]
   by_cases hk : gO r b = true
   ·rw [an hk, gP.1 hk]
    simp only [aA, aj, bR, dW]
    constructor
    ·rintro ((h | h) | h)
     ·exact .inl h
     ·exact .inr ⟨h, .inl trivial⟩
     ·exact .inr ⟨h.1, .inr h.2⟩
    ·rintro (h | h)
     ·exact .inl (.inl h)
     ·exact .inl (.inr h.1)
   ·rw [ak hk]
    have : r ≠ b := fun e => hk (gP.2 e)
    simp [this]
  ·have := a3 r
   rw [d r] at this
   by_cases hk : gO r b = true
   ·rw [an hk] at this; rw [gP.1 hk] at this ⊢; simp at this ⊢; omega
   ·rw [ak hk] at this; simp; omega
theorem Gs {C : List gG} {j : List (gH × List gG)} {ws : List (ByteArray × List gG)} (g : xc C j ws) (p : C.length + 1 ≤ 1000000) {c : gG} (l : iC c = true) (i : List (gH × List (ByteArray × Bool))) (o : List gI) (n : Int) :
  ∃ a b, nM i C j ws o n c = some (C ++ [c], a, b) ∧ xc (C ++ [c]) a b := by
 unfold nM
 rw [jt (by simp; omega) (by simp; omega)]
 simp only [aa, DM l]
 rw [show mK (decide ((0 : Nat) ≤ 1) && decide ((1 : Int) ≤ ((c.Head :: je c).length : Int))) = some () by simp [mK]; omega]
 simp only [aa, show Int.toNat 1 = 1 from rfl, List.drop_one, List.tail_cons]
 have m : (je c).length ≤ 2 := by unfold je; split; simp; split <;> simp
 obtain ⟨a, b, e, k, a2, a3, a4⟩ := Cx c ws (C ++ [c]) (fun w => by have := g.GZ w; omega) (je c) j (fun r => by have := g.GO r; omega)
 refine ⟨a, b, e, fun r x => ?_, fun w x => ?_, fun r => ?_, fun w => ?_⟩
 ·rw [k, g.EX, aA, au]
  constructor
  ·rintro (h | h)
   ·exact ⟨.inl h.1, h.2⟩
   ·exact ⟨.inr h.1, by rw [h.1]; exact h.2⟩
  ·rintro ⟨h | h, d⟩
   ·exact .inl ⟨h, d⟩
   ·exact .inr ⟨h, by rw [← h]; exact d⟩
 ·rw [a2, g.word, aA, au]
  constructor
  ·rintro (h | h)
   ·exact ⟨.inl h.1, h.2⟩
   ·exact ⟨.inr h.1, by rw [h.1]; exact ⟨h.2.1, h.2.2.symm⟩⟩
  ·rintro ⟨h | h, d⟩
   ·exact .inl ⟨h, d⟩
   ·subst h; exact .inr ⟨rfl, d.1, d.2.symm⟩
 ·have := a3 r; have := g.GO r; simp; omega
 ·have := a4 w; have := g.GZ w; simp; omega
structure MS (C : List gG) (T : lj) (us : List (gH × List gG)) (ws : List (ByteArray × List gG)) (n : Int) : Prop where
 uG : ma C T [] n
 cl : ∀ c ∈ C, xE c T []
 HU : xc C us ws
 right : lO C
theorem MS.all {C : List gG} {T : lj} {j : List (gH × List gG)} {ws : List (ByteArray × List gG)} {n : Int} (h : MS C T j ws n) (f : gI) : f ∈ FS T ↔ jE C f := by
 refine ⟨h.uG.qk f, fun i => ?_⟩
 induction i with
 | mem c a hk => exact (h.cl c a).1 hk
 | inc c w a hk _ ih => exact (h.cl c a).2.1 hk w ih (by simp)
 | we c b w a hk _ _ d g => exact (h.cl c a).2.2.1 hk b w d (by simp) g (by simp)
 | both c w a hk _ _ d g => exact (h.cl c a).2.2.2 hk w d (by simp) g (by simp)
theorem BG (q : Int) (y : 0 ≤ q ∧ q ≤ 1000000000000) : ∀ (l : List gG) {C : List gG} {T : lj} {p : List gI} {A : List (gH × List gG)} {ws : List (ByteArray × List gG)} {n : Int}, ma C T p n → (∀ c ∈ C, xE c T p) → xc C A ws → lO C → C.length + l.length ≤ 1000000 →
  ∃ C' T' a d j, ki q l (mm T) C A ws p n = some (j - q, mm T', C', a, d, [], j) ∧ MS C' T' a d j ∧ (∀ c, c ∈ C' ↔ c ∈ C ∨ (c ∈ l ∧ iC c = true)) ∧ C'.length ≤ C.length + l.length ∧ (∀ f ∈ FS T, f ∈ FS T')
 | [], C, T, p, A, ws, n, g, i, t, r, L => by
  rw [ki]
  have U : mN C := by unfold mN; simp at L; omega
  have a6 := U.sq
  have hlen := g.len
  have a7 := g.G7
  obtain ⟨T', j, e, g', Y, o⟩ := z8 U r t (cs := C) jq g i (by rw [oa]; omega)
  unfold oU
  rw [e]
  simp only [aa]
  have M := g'.len
  have W := g'.num
  rw [jb (by omega) (by omega)]
  exact ⟨C, T', A, ws, j, rfl, ⟨g', Y, t, r⟩, by simp, by simp, o⟩
 | x :: l, C, T, p, A, ws, n, g, i, t, r, L => by
  rw [ki, mA]
  simp only [aq] at L
  obtain ⟨b, hb, u⟩ := EF x C
  simp only [aa, hb, sw]
  by_cases k : iC x = true ∧ x ∉ C
  ·have J : b = false := by cases b with | false => rfl | true => exact absurd (u.1 rfl) k.2
   rw [k.1, J]
   simp only [bT, Bool.and_self, bj]
   obtain ⟨Q, R, Z, U1⟩ := Gs t (by omega) k.1 (mm T) p n
   rw [Z]
   simp only [aa]
   have I : mN (C ++ [x]) := by unfold mN; simp; omega
   have s : lO (C ++ [x]) := fun c v => by
    rcases aA.1 v with h | h
    ·exact r c h
    ·simp at h; subst h; exact k.1
   have g1 : ma (C ++ [x]) T p n := g.mono (fun c v => aN _ v)
   obtain ⟨T2, P, n2, e2, g2, x2, c2⟩ := Fm I s g1 (C ++ [x]) Q R (c := x) (by simp)
   rw [e2]
   simp only [aa]
   have w : ∀ c ∈ C ++ [x], xE c T2 P := fun c v => by
    rcases aA.1 v with h | h
    ·exact (i c h).ext x2
    ·simp at h; subst h; exact c2
   obtain ⟨C', T', a, d, j, e, m, G, a2, a3⟩ := BG q y l g2 w U1 s (by simp; omega)
   refine ⟨C', T', a, d, j, e, m, fun c => ?_, by simp at a2 ⊢; omega, fun f K => a3 f (x2.jg f K)⟩
   rw [G]
   simp only [aA, aj, bR, dW]
   constructor
   ·rintro ((h | h) | h)
    ·exact .inl h
    ·subst h; exact .inr ⟨.inl rfl, k.1⟩
    ·exact .inr ⟨.inr h.1, h.2⟩
   ·rintro (h | ⟨h | h, E⟩)
    ·exact .inl (.inl h)
    ·exact .inl (.inr h)
    ·exact .inr ⟨h, E⟩
  ·have K : (iC x && !b) = false := by
    cases hr : iC x with
    | false => rfl
    | true =>
     have : x ∈ C := dn fun O => k ⟨hr, O⟩
     rw [u.2 this]; rfl
   rw [K]
   simp only [ai, aY]
   obtain ⟨C', T', a, d, j, e, m, G, a2, a3⟩ := BG q y l g i t r (by omega)
   refine ⟨C', T', a, d, j, e, m, fun c => ?_, by simp; omega, a3⟩
   rw [G, aj]
   constructor
   ·rintro (h | h)
    ·exact .inl h
    ·exact .inr ⟨.inr h.1, h.2⟩
   ·rintro (h | ⟨h | h, E⟩)
    ·exact .inl h
    ·subst h
     exact .inl (dn fun O => k ⟨E, O⟩)
    ·exact .inr ⟨h, E⟩
theorem Gv {C : List gG} {T : lj} {g : List (gH × List gG)} {ws : List (ByteArray × List gG)} {n : Int} (h : MS C T g ws n) (l : List gG) (j : C.length + l.length ≤ 1000000) :
  ∃ C' T' a b d, oA (mm T) C g ws [] n l = some (d - n, mm T', C', a, b, [], d) ∧ MS C' T' a b d ∧ (∀ c, c ∈ C' ↔ c ∈ C ∨ (c ∈ l ∧ iC c = true)) ∧ C'.length ≤ C.length + l.length ∧ (∀ f ∈ FS T, f ∈ FS T') := by
 have i : mN C := by unfold mN; omega
 have h1 := h.uG.len
 have k := i.sq
 have m := h.uG.num
 exact BG n ⟨by omega, by omega⟩ l h.uG h.cl h.HU h.right j
theorem xc.zero : xc [] [] [] := ⟨fun r c => by simp [ij], fun w c => by simp [ij], fun r => by simp [ij], fun w => by simp [ij]⟩
theorem ma.zero : ma [] [] [] 0 := ⟨by simp, by simp [FS], by simp, by simp, by simp [FS], by simp [FS]⟩
theorem MS.zero : MS [] [] [] [] 0 := ⟨ma.zero, fun c a => (by cases a), xc.zero, fun c a => (by cases a)⟩
theorem Hz (l : List gG) (h : l.length ≤ 1000000) : ∃ C T d ws n, tp l = some (mm T, C, d, ws, [], n) ∧ MS C T d ws n ∧ (∀ c, c ∈ C ↔ c ∈ l ∧ iC c = true) ∧ C.length ≤ l.length := by
 unfold tp
 obtain ⟨C', T', a, b, i, e, m, g, a2, a3⟩ := Gv MS.zero l (by simpa using h)
 rw [show oA [] [] [] [] [] 0 l = _ from e]
 exact ⟨C', T', a, b, i, rfl, m, by simpa using g, by simpa using a2⟩
theorem jE.congr {C C' : List gG} (h : ∀ c, c ∈ C ↔ c ∈ C') (f : gI) : jE C f ↔ jE C' f := ⟨fun d => d.mono (fun c a => (h c).1 a), fun d => d.mono (fun c a => (h c).2 a)⟩
def tf (a b : gI) : Bool := oX a.gH b.gH || (gO a.gH b.gH && li a.ib b.ib)
theorem xj {a b : gI} : tf a b = true ↔ oX a.gH b.gH = true ∨ (a.gH = b.gH ∧ li a.ib b.ib = true) := by simp [tf, gP]
def w6 (_ : gI) : Bool := true
theorem AL : sZ (fun a b => tf a b = true) (fun x => w6 x = true) := by
 have H := um (fun _ => True)
 refine ⟨fun x _ => ?_, fun x y z _ _ _ h1 c => ?_, fun x y _ _ => ?_⟩
 ·rw [xj]
  rintro (h | ⟨_, h⟩)
  ·exact H.irrefl _ trivial h
  ·rw [nN] at h; cases h
 ·rw [xj] at *
  rcases h1 with h1 | ⟨g, h1⟩
  ·rcases c with c | ⟨d, c⟩
   ·exact .inl (H.trans _ _ _ trivial trivial trivial h1 c)
   ·exact .inl (by rw [← d]; exact h1)
  ·rcases c with c | ⟨d, c⟩
   ·exact .inl (by rw [g]; exact c)
   ·exact .inr ⟨g.trans d, rL h1 c⟩
 ·simp only [xj]
  rcases H.total x.gH y.gH trivial trivial with h | h | h
  ·exact .inl (.inl h)
  ·rcases oQ x.ib y.ib with c | c | c
   ·exact .inl (.inr ⟨h, c⟩)
   ·refine .inr (.inl ?_)
    cases x; cases y; simp at h c; simp [h, c]
   ·exact .inr (.inr (.inr ⟨h.symm, c⟩))
  ·exact .inr (.inr (.inl h))
def xA (P : gI → Prop) (s : List gI) : Prop := s.Pairwise (fun a b => tf a b = true) ∧ ∀ f, f ∈ s ↔ P f
theorem xA.unique {P : gI → Prop} {s t : List gI} (h : xA P s) (k : xA P t) : s = t :=
 kZ.unique (l := s) AL ⟨h.1, fun x => ⟨fun a => ⟨a, rfl⟩, fun a => a.1⟩⟩ ⟨k.1, fun x => by rw [k.2, h.2]; exact ⟨fun a => ⟨a, rfl⟩, fun a => a.1⟩⟩
theorem Fq (r : gH) (w : ByteArray) : ∀ l : List gI, ∃ b, rf r w l = some b ∧ (b = true ↔ (⟨r, w⟩ : gI) ∈ l)
 | [] => ⟨false, rfl, by simp⟩
 | x :: l => by
  rw [rf]
  simp only [sw, aa]
  obtain ⟨b, e, d⟩ := Fq r w l
  by_cases h : (gO x.gH r && iB x.ib w) = true
  ·rw [an h]
   have a : x = ⟨r, w⟩ := by
    rw [aH, gP, iX] at h
    cases x; simp at h; simp [h]
   exact ⟨true, rfl, by simp [a]⟩
  ·rw [ak h]
   refine ⟨b, e, ?_⟩
   rw [d, aj]
   refine ⟨.inr, fun c => c.resolve_left (fun e => h ?_)⟩
   rw [← e]; simp [ns, pB]
theorem rn (l : List gI) (r : gH) (w : ByteArray) : ∃ b, nm l r w = some b ∧ (b = true ↔ (⟨r, w⟩ : gI) ∈ l) := Fq r w l
def kw (l : List gI) (c : gG) (names : List ByteArray) (w : ByteArray) : Prop :=
 (c.Kind = 1 ∧ c.ib = w) ∨ (c.Kind = 2 ∧ (⟨c.B, w⟩ : gI) ∈ l) ∨ (c.Kind = 4 ∧ (⟨c.B, w⟩ : gI) ∈ l ∧ (⟨c.C, w⟩ : gI) ∈ l) ∨
 (c.Kind ≠ 1 ∧ c.Kind ≠ 2 ∧ c.Kind ≠ 4 ∧ ∃ b ∈ names, (⟨c.B, b⟩ : gI) ∈ l ∧ (⟨⟨b, c.iv⟩, w⟩ : gI) ∈ l)
theorem yF (l : List gI) (c : gG) (w : ByteArray) : ∀ names : List ByteArray, ∃ b, qh l c w names = some b ∧ (b = true ↔ ∃ b ∈ names, (⟨c.B, b⟩ : gI) ∈ l ∧ (⟨⟨b, c.iv⟩, w⟩ : gI) ∈ l)
 | [] => ⟨false, rfl, by simp⟩
 | x :: names => by
  rw [qh]
  obtain ⟨g, j, h1⟩ := rn l c.B x
  obtain ⟨i, k, d⟩ := rn l ⟨x, c.iv⟩ w
  obtain ⟨b, e, m⟩ := yF l c w names
  rw [j, k, e]
  simp only [aa, sw]
  by_cases h : (g && i) = true
  ·rw [an h]
   rw [aH, h1, d] at h
   exact ⟨true, rfl, by simp [h]⟩
  ·rw [ak h]
   rw [aH, h1, d] at h
   refine ⟨b, rfl, ?_⟩
   rw [m]
   constructor
   ·rintro ⟨y, a, q⟩; exact ⟨y, by simp [a], q⟩
   ·rintro ⟨y, a, q⟩
    rcases aj.1 a with rfl | a
    ·exact absurd q h
    ·exact ⟨y, a, q⟩
theorem Cy (l : List gI) (c : gG) (names : List ByteArray) (w : ByteArray) : ∃ b, qm l c names w = some b ∧ (b = true ↔ kw l c names w) := by
 unfold qm kw
 simp only [sF]
 by_cases h1 : c.Kind = 1
 ·rw [an (by simp [h1])]; exact ⟨_, rfl, by simp [h1, iX]⟩
 rw [ak (by simp [h1])]
 by_cases a : c.Kind = 2
 ·rw [an (by simp [a])]
  obtain ⟨b, e, g⟩ := rn l c.B w
  exact ⟨b, e, by simp [a, g]⟩
 rw [ak (by simp [a])]
 by_cases d : c.Kind = 4
 ·rw [an (by simp [d])]
  obtain ⟨m, j, h⟩ := rn l c.B w
  obtain ⟨n, k, i⟩ := rn l c.C w
  rw [j, k]
  simp only [aa, sw]
  exact ⟨_, rfl, by simp [d, h, i]⟩
 rw [ak (by simp [d])]
 obtain ⟨b, e, g⟩ := yF l c w names
 exact ⟨b, e, by rw [g]; simp [h1, a, d]⟩
theorem kw.qk {C : List gG} {l : List gI} (a : ∀ f ∈ l, jE C f) {c : gG} (d : c ∈ C) (hk : c.Kind = 1 ∨ c.Kind = 2 ∨ c.Kind = 3 ∨ c.Kind = 4) {names : List ByteArray} {w : ByteArray} (h : kw l c names w) : jE C ⟨c.Head, w⟩ := by
 rcases h with ⟨k, rfl⟩ | ⟨k, h⟩ | ⟨k, h1, g⟩ | ⟨i, j, m, b, _, h1, g⟩
 ·exact .mem c d k
 ·exact .inc c w d k (a _ h)
 ·exact .both c w d k (a _ h1) (a _ g)
 ·exact .we c b w d (by omega) (a _ h1) (a _ g)
theorem vJ {c : gG} (h : iC c = true) : c.Kind = 1 ∨ c.Kind = 2 ∨ c.Kind = 3 ∨ c.Kind = 4 := by rcases kc h with h | h | h | h <;> simp [h.1]
structure wY (C : List gG) (out : List gI) : Prop where
 nd : out.Nodup
 qk : ∀ f ∈ out, jE C f
theorem wY.len {C : List gG} {out : List gI} (h : wY C out) : out.length ≤ C.length * C.length := by
 rw [← qD]; exact iW h.nd (fun f a => (h.qk f a).tR)
theorem yd {C : List gG} (r : mN C) (s : lO C) {c : gG} (m : c ∈ C) (names : List ByteArray) : ∀ (l : List ByteArray) (out : List gI) (i : Bool), wY C out →
  ∃ g d, pR c names l out i = some (g, d) ∧ wY C g ∧ (d = true → i = true ∨ out.length < g.length) ∧ (d = false → i = false ∧ g = out ∧ ∀ w ∈ l, kw out c names w → (⟨c.Head, w⟩ : gI) ∈ out) ∧ out.length ≤ g.length
 | [], out, i, h => ⟨out, i, rfl, h, .inl, fun h => ⟨h, rfl, fun _ hw => by cases hw⟩, aJ _⟩
 | w :: l, out, i, h => by
  rw [pR]
  obtain ⟨x, G, h1⟩ := rn out c.Head w
  obtain ⟨E, I, y⟩ := Cy out c names w
  rw [G, I]
  simp only [aa, sw]
  by_cases j : (!x && E) = true
  ·rw [an j]
   rw [aH] at j
   have t : (⟨c.Head, w⟩ : gI) ∉ out := fun L => by have := h1.2 L; rw [this] at j; exact absurd j.1 (by decide)
   have O := h.len
   have M := r.sq
   rw [jt (by simp; omega) (by simp; omega)]
   simp only [aa]
   have J : wY C (out ++ [⟨c.Head, w⟩]) := ⟨aG.2 ⟨h.nd, by simp, fun a K b j e => by simp at j; subst j; subst e; exact t K⟩, fun f k => by
    rcases aA.1 k with k | k
    ·exact h.qk f k
    ·simp at k; subst k; exact (y.1 j.2).qk h.qk m (vJ (s c m))⟩
   obtain ⟨g, d, e, n, a2, a3, a4⟩ := yd r s m names l _ true J
   simp at a4
   exact ⟨g, d, e, n, fun _ => .inr (by omega), fun k => (by cases (a3 k).1), by omega⟩
  ·rw [ak j]
   obtain ⟨g, d, e, n, a2, a3, a4⟩ := yd r s m names l out i h
   refine ⟨g, d, e, n, a2, fun k => ?_, a4⟩
   obtain ⟨o, p, q⟩ := a3 k
   refine ⟨o, p, fun v u A => ?_⟩
   rcases aj.1 u with rfl | u
   ·refine dn fun t => j ?_
    rw [aH, y.2 A]
    cases x with
    | false => exact ⟨rfl, rfl⟩
    | true => exact absurd (h1.1 rfl) t
   ·exact q v u A
theorem A9 {C : List gG} (m : mN C) (n : lO C) (names : List ByteArray) : ∀ (l : List gG) (out : List gI) (a : Bool), (∀ c ∈ l, c ∈ C) → wY C out →
  ∃ b g, rj names l out a = some (b, g) ∧ wY C b ∧ (g = true → a = true ∨ out.length < b.length) ∧ (g = false → a = false ∧ b = out ∧ ∀ c ∈ l, ∀ w ∈ names, kw out c names w → (⟨c.Head, w⟩ : gI) ∈ out) ∧ out.length ≤ b.length
 | [], out, a, _, h => ⟨out, a, rfl, h, .inl, fun h => ⟨h, rfl, fun _ hw => by cases hw⟩, aJ _⟩
 | c :: l, out, a, o, h => by
  rw [rj]
  obtain ⟨v, c1, t, p, a2, a3, a4⟩ := yd m n (o c (by simp)) names names out a h
  rw [t]
  simp only [aa]
  obtain ⟨x, c2, u, q, r, s, K⟩ := A9 m n names l v c1 (fun d i => o d (by simp [i])) p
  refine ⟨x, c2, u, q, fun j => ?_, fun j => ?_, by omega⟩
  ·rcases r j with h1 | h1
   ·rcases a2 h1 with k | k
    ·exact .inl k
    ·exact .inr (by omega)
   ·exact .inr (by omega)
  ·obtain ⟨y, A, E⟩ := s j
   obtain ⟨G, I, J⟩ := a3 y
   subst I
   refine ⟨G, A, fun d i => ?_⟩
   rcases aj.1 i with rfl | i
   ·exact J
   ·exact E d i
def zF : gI := ⟨⟨zS, zS⟩, zS⟩
theorem A7 (a b : gI) : pj a b = some (tf a b) := by
 unfold pj tf
 simp only [qf, aa, sw, Fx]
def GL (a : List gI) (b : Int) (p : Bool × gI) : Prop := (p.1 = false ∧ b = -1) ∨ (p.1 = true ∧ 0 ≤ b ∧ kM a b = some p.2)
theorem ui (out a : List gI) (i : out.length < 4611686018427387904) : ∀ (rest A : List gI) (b : Int) (p : Bool × gI), a = A ++ rest → GL a b p →
  ∃ c, lD out a rest A.length b = some c ∧ GL a c (mq w6 tf out.getLast? rest p.1 p.2)
 | [], A, b, p, d, j => ⟨b, rfl, j⟩
 | x :: rest, A, b, p, d, j => by
  rw [lD, mq]
  simp only [w6, eU]
  have h1 : ((if ((out.length : Int) == 0) = true then some true else (kM out (wi0 .i64 ((out.length : Int) - 1))).bind fun y => (pj y x).bind fun r => some r) : Option Bool) = some (out.getLast?.all fun y => tf y x) := by
   rcases cw out with h | ⟨B, z, h⟩
   ·subst h; rfl
   ·subst h
    rw [ak (by simp; omega)]
    rw [List.concat_eq_append] at i ⊢
    rw [vM B z (by simp at i; omega)]
    simp [A7]
  have n : ((if decide (b < 0) = true then some true else (kM a b).bind fun y => (pj x y).bind fun r => some r) : Option Bool) = some (!p.1 || tf x p.2) := by
   rcases j with ⟨k, l⟩ | ⟨k, l, m⟩
   ·rw [an (by simp [l]), k]; rfl
   ·rw [ak (by simpa using l), m, k]
    simp [A7]
  rw [h1]
  simp only [aa]
  rw [n]
  simp only [aa, sw]
  have o : kM a (A.length : Int) = some x := by rw [d]; exact qC A x rest _ rfl
  by_cases g : ((out.getLast?.all fun y => tf y x) && (!p.1 || tf x p.2)) = true
  ·rw [an g, an g]
   have := ui out a i rest (A ++ [x]) (A.length : Int) (true, x) (by rw [d]; simp) (.inr ⟨rfl, by simp, o⟩)
   simpa using this
  ·rw [ak g, ak g]
   have := ui out a i rest (A ++ [x]) b p (by rw [d]; simp) j
   simpa using this
theorem xH {out a : List gI} (d : out.length < 4611686018427387904) (h : (mq w6 tf out.getLast? a false zF).1 = false) : ∀ xG : List gI, lB a xG out = some out
 | [] => rfl
 | x :: xG => by
  rw [lB]
  obtain ⟨b, e, i⟩ := ui out a d a [] (-1) (false, zF) rfl (.inl ⟨rfl, rfl⟩)
  rw [show lD out a a 0 (-1) = some b from e]
  simp only [aa]
  rcases i with ⟨_, g⟩ | ⟨c, _⟩
  ·rw [ak (by simp [g])]; exact xH d h xG
  ·rw [h] at c; cases c
theorem zY (a : List gI) : ∀ (xG : List gI) (out s : List gI), rR 48 w6 tf zF a (xG.length + 1) out = some s → s.length < 4611686018427387904 → lB a xG out = some s ∧ out.length ≤ s.length
 | [], out, s, h, i => by
  rw [rR] at h
  cases hp : (mq w6 tf out.getLast? a false zF).1 with
  | false =>
   rw [hp] at h
   simp only [bT, bj] at h
   cases h
   exact ⟨rfl, aJ _⟩
  | true =>
   rw [hp] at h
   simp only [bn, ai, aY] at h
   obtain ⟨o, c, h⟩ := bind_some h
   replace h : rR 48 w6 tf zF a 0 o = some s := h
   rw [rR] at h
   cases h
 | x :: xG, out, s, h, i => by
  rw [rR] at h
  cases hp : (mq w6 tf out.getLast? a false zF).1 with
  | false =>
   rw [hp] at h
   simp only [bT, bj] at h
   cases h
   exact ⟨xH i hp _, aJ _⟩
  | true =>
   rw [hp] at h
   simp only [bn, ai, aY] at h
   obtain ⟨o, c, h⟩ := bind_some h
   have g := c
   unfold jw at c
   split at c
   case isFalse => cases c
   cases c
   obtain ⟨m, n⟩ := zY a xG _ s h i
   simp at n
   rw [lB]
   obtain ⟨b, e, l⟩ := ui out a (by omega) a [] (-1) (false, zF) rfl (.inl ⟨rfl, rfl⟩)
   rw [show lD out a a 0 (-1) = some b from e]
   simp only [aa]
   rcases l with ⟨d, _⟩ | ⟨d, j, k⟩
   ·rw [hp] at d; cases d
   ·rw [an (by simpa using j), k]
    simp only [aa]
    rw [g]
    exact ⟨m, by omega⟩
theorem D9 (l : List gI) (c : l.length ≤ 1000000000) : ∃ s, u1 l = some s ∧ xA (fun f => f ∈ l) s := by
 obtain ⟨s, h1, a⟩ := sT AL (w := 48) (by omega) zF l c (l.length + 1) [] (by simp) (by simp) (fun x b => by cases b) (fun x _ _ => .inr rfl)
 have hlen : s.length ≤ l.length := iW (oW AL (fun _ _ => rfl) a.1) (fun x b => ((a.2 x).1 b).1)
 exact ⟨s, (zY l l [] s h1 (by omega)).1, a.1, fun f => by rw [a.2]; exact ⟨fun h => h.1, fun h => ⟨h, rfl⟩⟩⟩
theorem yr : ∀ (l : List gG) (acc : List ByteArray), acc.length + 4 * l.length ≤ 1000000000 → ov l acc = uJ (acc ++ l.flatMap fun c => [c.ib, c.Head.gU, c.B.gU, c.C.gU])
 | [], acc, _ => by rw [ov]; simp [sF]
 | c :: l, acc, h => by
  rw [ov]
  simp only [aq] at h
  rw [jt (by simp; omega) (by simp; omega)]
  simp only [aa]
  rw [yr l _ (by simp; omega)]
  simp
def SM (C : List gG) : Prop := C.length ≤ 30000
theorem SM.small {C : List gG} (h : SM C) : mN C := by unfold SM at h; unfold mN; omega
theorem SM.sq {C : List gG} (h : SM C) : C.length * C.length ≤ 900000000 := dj h h
theorem EO {C : List gG} (b : SM C) (g : lO C) : ∃ names, pJ C = some names ∧ ∀ c ∈ C, c.Kind = 1 → c.ib ∈ names := by
 have d : C.length ≤ 30000 := b
 unfold pJ
 rw [yr C [] (by simp; omega)]
 obtain ⟨s, e, i⟩ := Cv ([] ++ C.flatMap fun c => [c.ib, c.Head.gU, c.B.gU, c.C.gU]) (by
  have : ∀ l : List gG, (l.flatMap fun c => [c.ib, c.Head.gU, c.B.gU, c.C.gU]).length = 4 * l.length := fun l => by
   induction l with
   | nil => rfl
   | cons x l ih => simp [ih]; omega
  rw [aU, this]; omega)
 refine ⟨s, e, fun c a hk => (i.2 _).2 ⟨?_, ?_⟩⟩
 ·rw [aU]; exact dH.2 ⟨c, a, by simp⟩
 ·rcases kc (g c a) with h | h | h | h
  ·exact h.2.1
  ·exact absurd (hk.symm.trans h.1) (by decide)
  ·exact absurd (hk.symm.trans h.1) (by decide)
  ·exact absurd (hk.symm.trans h.1) (by decide)
theorem yL {C : List gG} (n : lO C) {names : List ByteArray} (l : ∀ c ∈ C, c.Kind = 1 → c.ib ∈ names) {out : List gI} (h : ∀ c ∈ C, ∀ w ∈ names, kw out c names w → (⟨c.Head, w⟩ : gI) ∈ out) {f : gI} (k : jE C f) : f ∈ out := by
 have hw : ∀ f, jE C f → f.ib ∈ names := fun f k => by
  obtain ⟨c, a, hk, e⟩ := k.nF
  rw [← e]; exact l c a hk
 induction k with
 | mem c a hk => exact h c a _ (l c a hk) (.inl ⟨hk, rfl⟩)
 | inc c w a hk m ih => exact h c a w (hw _ m) (.inr (.inl ⟨hk, ih⟩))
 | we c b w a hk d j g i => exact h c a w (hw _ j) (.inr (.inr (.inr ⟨by omega, by omega, by omega, b, hw _ d, g, i⟩)))
 | both c w a hk d j g i => exact h c a w (hw _ d) (.inr (.inr (.inl ⟨hk, g, i⟩)))
theorem A5 {C : List gG} (a : SM C) (b : lO C) {names : List ByteArray} (g : ∀ c ∈ C, c.Kind = 1 → c.ib ∈ names) : ∀ (m : Nat) (out : List gI), wY C out → C.length * C.length < m + out.length →
  ∃ s, rk names C m out = some s ∧ xA (jE C) s
 | 0, out, h, hm => by have := h.len; omega
 | m + 1, out, h, hm => by
  rw [rk]
  obtain ⟨o, c, e, i, a2, a3, a4⟩ := A9 a.small b names C out false (fun _ h => h) h
  rw [e]
  simp only [aa, sF]
  cases c with
  | false =>
   simp only [bT, bj]
   obtain ⟨_, j, k⟩ := a3 rfl
   subst j
   have p := h.len
   have n := a.sq
   obtain ⟨s, l, d⟩ := D9 o (by omega)
   exact ⟨s, l, d.1, fun f => (d.2 f).trans ⟨h.qk f, yL b g k⟩⟩
  | true =>
   simp only [bn, ai, aY]
   rcases a2 rfl with h1 | h1
   ·cases h1
   ·exact A5 a b g m o i (by omega)
theorem F4 (l : List gG) (o : l.length ≤ 30000) : ∃ C s, vB l = some s ∧ xA (jE C) s ∧ ∀ c, c ∈ C ↔ c ∈ l ∧ iC c = true := by
 unfold vB
 obtain ⟨C, e, b⟩ := zr l (by omega)
 have hlen := kN pF b
 have a : SM C := by unfold SM; omega
 have d : lO C := fun c j => ((b.2 c).1 j).2
 obtain ⟨names, g, m⟩ := EO a d
 rw [e]
 simp only [aa]
 rw [g]
 simp only [aa]
 have n := a.sq
 obtain ⟨s, h, i⟩ := A5 a d m jq [] ⟨by simp, fun f k => by cases k⟩ (by rw [oa]; simp; omega)
 exact ⟨C, s, h, i, b.2⟩
theorem sV (r : gH) : ∀ (l : List gI) (acc : List ByteArray), acc.length + l.length ≤ 1000000000 → mn r l acc = some (acc ++ (l.filter fun f => gO f.gH r).map (·.ib))
 | [], acc, _ => by rw [mn]; simp
 | x :: l, acc, h => by
  rw [mn]
  simp only [aq] at h
  by_cases a : gO x.gH r = true
  ·rw [an a, jt (by simp; omega) (by simp; omega)]
   simp only [aa]
   rw [sV r l _ (by simp; omega)]
   simp [a]
  ·rw [ak a, sV r l acc (by omega)]
   simp [a]
theorem Ds {l : List ByteArray} (g : l.Nodup) : (jj l).Pairwise (fun a b => li a b = true) := by
 have h1 : (jj l).Pairwise (fun a b => (!li b a) = true) := sW (P := fun _ => True) (fun a b c _ _ _ h1 d => by
   simp only [da] at *
   rcases oQ a b with h | h | h
   ·rcases oQ b c with k | k | k
    ·exact sJ (rL h k)
    ·subst k; exact h1
    ·rw [d] at k; cases k
   ·subst h; exact d
   ·rw [h1] at h; cases h) (fun a b _ _ => by
   rcases oQ a b with h | h | h
   ·simp [sJ h]
   ·subst h; simp [nN]
   ·simp [sJ h]) l (fun _ _ => trivial)
 have d : (jj l).Nodup := by unfold jj; exact (dB l _).nodup_iff.2 g
 refine (h1.and d).imp (fun {a b} h => ?_)
 rcases oQ a b with k | k | k
 ·exact k
 ·exact absurd k h.2
 ·have := h.1; rw [k] at this; cases this
theorem BT {C : List gG} {T : lj} {p : List (gH × List gG)} {ws : List (ByteArray × List gG)} {n : Int} (h : MS C T p ws n) {s : List gI} (g : xA (jE C) s) (m : s.length ≤ 1000000000) (r : gH) : oM s r = some (jj (kB T r)) := by
 unfold oM
 rw [sV r s [] (by simpa using m)]
 congr 1
 rw [aU]
 refine kZ.unique (l := jj (kB T r)) (sa (fun _ => True)) ⟨?_, fun x => ?_⟩ ⟨Ds (uR h.uG.nd r), fun x => by simp⟩
 ·rw [ct]
  refine (List.Pairwise.filter _ g.1).imp_of_mem (fun {a b} i j c => ?_)
  have h1 := (bZ.1 i).2
  have d := (bZ.1 j).2
  rw [gP] at h1 d
  rw [xj, h1, d] at c
  rcases c with c | c
  ·exact absurd c ((um (fun _ => True)).irrefl _ trivial)
  ·exact c.2
 ·rw [pU, aF]
  constructor
  ·rintro ⟨f, k, rfl⟩
   obtain ⟨h1, d⟩ := bZ.1 k
   rw [gP] at d
   refine ⟨?_, trivial⟩
   have := (q7 h.uG.keys f).1 ((h.all f).2 ((g.2 f).1 h1))
   rw [d] at this
   exact this
  ·rintro ⟨o, _⟩
   exact ⟨⟨r, x⟩, bZ.2 ⟨(g.2 _).2 ((h.all _).1 ((q7 h.uG.keys ⟨r, x⟩).2 o)), ns _⟩, rfl⟩
theorem FW {P : gI → Prop} {s t : List gI} (h : xA P s) (b : ∀ f, P f → f ∈ t) : s.length ≤ t.length := iW (oW AL (fun _ _ => rfl) h.1) (fun f a => b f ((h.2 f).1 a))
theorem FU {C : List gG} {s : List gI} (h : xA (jE C) s) (a : SM C) : s.length ≤ 900000000 := by
 have := FW h (t := tR C) (fun f b => b.tR)
 rw [qD] at this
 have := a.sq
 omega
def qA : gH := ⟨⟨#[97]⟩, ⟨#[114]⟩⟩
def qB : gH := ⟨⟨#[98]⟩, ⟨#[115]⟩⟩
def qd : ByteArray := ⟨#[100]⟩
def j1 : gG := ⟨2, qA, zS, qB, ⟨zS, zS⟩, zS⟩
def j2 : gG := ⟨1, qB, qd, ⟨zS, zS⟩, ⟨zS, zS⟩, zS⟩
theorem H9 : iC j1 = true := by decide +kernel
theorem HJ : iC j2 = true := by decide +kernel
theorem HG : qA ≠ qB := fun e => by have := (gP (x := qA) (y := qB)).2 e; revert this; decide +kernel
def fA : gI := ⟨qA, qd⟩
def fB : gI := ⟨qB, qd⟩
theorem EH {C : List gG} (h : ∀ c, c ∈ C ↔ c = j1 ∨ c = j2) (f : gI) : jE C f ↔ f = fA ∨ f = fB := by
 have d : jE C fB := jE.mem j2 ((h j2).2 (.inr rfl)) rfl
 constructor
 ·intro g
  induction g with
  | mem c a hk =>
   rcases (h c).1 a with rfl | rfl
   ·exact absurd hk (by decide)
   ·exact .inr rfl
  | inc c w a hk _ ih =>
   rcases (h c).1 a with rfl | rfl
   ·rcases ih with ih | ih
    ·exact absurd (ay gI.gH ih) (fun e => HG e.symm)
    ·have := ay gI.ib ih
     simp only at this
     subst this
     exact .inl rfl
   ·exact absurd hk (by decide)
  | we c b w a hk _ _ _ _ => rcases (h c).1 a with rfl | rfl <;> exact absurd hk (by decide)
  | both c w a hk _ _ _ _ => rcases (h c).1 a with rfl | rfl <;> exact absurd hk (by decide)
 ·rintro (rfl | rfl)
  ·exact jE.inc j1 qd ((h j1).2 (.inl rfl)) rfl d
  ·exact d
theorem HI : fA ≠ fB := fun e => HG (ay gI.gH e)
theorem vn (f : ByteArray → Option Bool) (p : ByteArray → Bool) : ∀ (l : List ByteArray) (i : Nat), (∀ x ∈ l, f x = some (p x)) → ∃ z, ko f l i = some z ∧ (z ≥ 0 ↔ ∃ x ∈ l, p x = true)
 | [], i, _ => ⟨-1, rfl, by simp⟩
 | x :: l, i, h => by
  rw [ko, h x (by simp)]
  simp only [aa]
  cases hp : p x with
  | true => exact ⟨_, rfl, by simp [hp]⟩
  | false =>
   obtain ⟨z, e, b⟩ := vn f p l (i + 1) (fun y a => h y (by simp [a]))
   exact ⟨z, e, by rw [b]; simp [hp]⟩
theorem Ba : ∀ (l : List gG) (n r : Int), 0 ≤ n → (∀ c ∈ l, vz c ≤ 1000000000) → n + l.length * 1000000020 ≤ 4000000000000000000 → me l n = some r → r ≤ n + l.length * 1000000020
 | [], n, r, g, a, b, h => by cases h; simp
 | c :: l, n, r, g, a, b, h => by
  have j := a c (by simp)
  unfold vz at j
  simp only [aq] at b ⊢
  rw [me] at h
  rw [jb (x := 20 + (c.Head.gU.size : Int)) (by omega) (by omega), jb (x := 20 + (c.Head.gU.size : Int) + (c.Head.iz.size : Int)) (by omega) (by omega), jb (x := 20 + (c.Head.gU.size : Int) + (c.Head.iz.size : Int) + (c.ib.size : Int)) (by omega) (by omega), jb (x := 20 + (c.Head.gU.size : Int) + (c.Head.iz.size : Int) + (c.ib.size : Int) + (c.B.gU.size : Int)) (by omega) (by omega), jb (x := 20 + (c.Head.gU.size : Int) + (c.Head.iz.size : Int) + (c.ib.size : Int) + (c.B.gU.size : Int) + (c.B.iz.size : Int)) (by omega) (by omega), jb (x := 20 + (c.Head.gU.size : Int) + (c.Head.iz.size : Int) + (c.ib.size : Int) + (c.B.gU.size : Int) + (c.B.iz.size : Int) + (c.C.gU.size : Int)) (by omega) (by omega), jb (x := 20 + (c.Head.gU.size : Int) + (c.Head.iz.size : Int) + (c.ib.size : Int) + (c.B.gU.size : Int) + (c.B.iz.size : Int) + (c.C.gU.size : Int) + (c.C.iz.size : Int)) (by omega) (by omega), jb (x := 20 + (c.Head.gU.size : Int) + (c.Head.iz.size : Int) + (c.ib.size : Int) + (c.B.gU.size : Int) + (c.B.iz.size : Int) + (c.C.gU.size : Int) + (c.C.iz.size : Int) + (c.iv.size : Int)) (by omega) (by omega), jb (by omega) (by omega)] at h
  have := Ba l _ r (by omega) (fun d i => a d (by simp [i])) (by omega) h
  omega
theorem C7 (l : List gG) (b : l.length ≤ 10000000) (a : ∀ c ∈ l, vz c ≤ 1000000000) : ∃ r, s9 l = some r ∧ 20 * (l.length : Int) ≤ r ∧ r ≤ 100000000000000000 := by
 obtain ⟨r, h, h1⟩ := AQ l 0 (by omega) (by omega) a (by omega)
 exact ⟨r, h, by omega, by have := Ba l 0 r (by omega) a (by omega) h; omega⟩
def zQ (c : gG) (p : gH × ByteArray → Bool) (names : List ByteArray) (w : ByteArray) : Bool :=
 if c.Kind = 1 then iB c.ib w else if c.Kind = 2 then p (c.B, w) else if c.Kind = 4 then p (c.B, w) && p (c.C, w) else names.any fun b => p (c.B, b) && p (⟨b, c.iv⟩, w)
theorem D4 {f : gH × ByteArray → Option Bool} {p : gH × ByteArray → Bool} (g : ∀ x, f x = some (p x)) (c : gG) (names : List ByteArray) (w : ByteArray) : qG c f names w = some (zQ c p names w) := by
 unfold qG zQ
 simp only [g, aa, sw]
 by_cases h1 : c.Kind = 1
 ·rw [an (by simp [h1]), an h1]
 rw [ak (by simp [h1]), ak h1]
 by_cases a : c.Kind = 2
 ·rw [an (by simp [a]), an a]
 rw [ak (by simp [a]), ak a]
 by_cases d : c.Kind = 4
 ·rw [an (by simp [d]), an d]
 rw [ak (by simp [d]), ak d]
 unfold mY nP
 obtain ⟨z, e, h⟩ := vn (fun x => nH x f c w) (fun b => p (c.B, b) && p (⟨b, c.iv⟩, w)) names 0 (fun x _ => by
  unfold nH
  simp only [g, aa, sw])
 rw [e]
 simp only [aa]
 congr 1
 rw [aQ, dG]
 simpa using h
theorem vK {f : gH × ByteArray → Option Bool} {p : gH × ByteArray → Bool} (a : ∀ x, f x = some (p x)) (c : gG) (names : List ByteArray) : ∀ (l : List ByteArray) (acc : List gI), acc.length + l.length ≤ 1000000000 →
  lZ c f names l acc = some (acc ++ (l.filter (zQ c p names)).map fun w => (⟨c.Head, w⟩ : gI))
 | [], acc, _ => by rw [lZ]; simp
 | x :: l, acc, h => by
  rw [lZ, D4 a]
  simp only [aa, aq] at h ⊢
  cases b : zQ c p names x with
  | true =>
   simp only [bj]
   rw [jt (by simp; omega) (by simp; omega)]
   simp only [aa]
   rw [vK a c names l _ (by simp; omega)]
   simp [b]
  | false =>
   simp only [ai, aY]
   rw [vK a c names l acc (by omega)]
   simp [b]
theorem Bm {f : gH × ByteArray → Option Bool} {p : gH × ByteArray → Bool} (a : ∀ x, f x = some (p x)) {c : gG} (d : iC c = true) (l : List ByteArray) (g : l.length ≤ 900000000) :
  ∃ names, sN l names ∧ nD c f l = some (((if c.Kind = 1 then [c.ib] else names).filter (zQ c p names)).map fun w => (⟨c.Head, w⟩ : gI)) := by
 obtain ⟨s, e, b⟩ := EA l (by omega)
 refine ⟨s, b, ?_⟩
 have hlen : s.length ≤ l.length := kN (sa _) b
 unfold nD
 rw [mA, d]
 simp only [aa, bn, ai, aY]
 rw [e]
 simp only [aa]
 by_cases h1 : c.Kind = 1
 ·rw [an (by simp [h1]), an h1]
  simp only [aa]
  rw [vK a c s _ [] (by simp)]
  simp
 ·rw [ak (by simp [h1]), ak h1]
  simp only [aa]
  rw [vK a c s _ [] (by simp; omega)]
  simp
theorem zn {c : gG} {p : gH × ByteArray → Bool} {out : List gI} (hp : ∀ r w, p (r, w) = true ↔ (⟨r, w⟩ : gI) ∈ out) (s : List ByteArray) (w : ByteArray) : zQ c p s w = true ↔ kw out c s w := by
 unfold zQ kw
 by_cases h1 : c.Kind = 1
 ·rw [an h1, iX]
  constructor
  ·intro h; exact .inl ⟨h1, h⟩
  ·rintro (h | h | h | h)
   ·exact h.2
   ·exact absurd (h1.symm.trans h.1) (by decide)
   ·exact absurd (h1.symm.trans h.1) (by decide)
   ·exact absurd h1 h.1
 rw [ak h1]
 by_cases a : c.Kind = 2
 ·rw [an a, hp]
  constructor
  ·intro h; exact .inr (.inl ⟨a, h⟩)
  ·rintro (h | h | h | h)
   ·exact absurd h.1 h1
   ·exact h.2
   ·exact absurd (a.symm.trans h.1) (by decide)
   ·exact absurd a h.2.1
 rw [ak a]
 by_cases d : c.Kind = 4
 ·rw [an d, aH, hp, hp]
  constructor
  ·intro h; exact .inr (.inr (.inl ⟨d, h⟩))
  ·rintro (h | h | h | h)
   ·exact absurd h.1 h1
   ·exact absurd h.1 a
   ·exact h.2
   ·exact absurd d h.2.2.1
 rw [ak d, dG]
 constructor
 ·rintro ⟨b, g, h⟩
  rw [aH, hp, hp] at h
  exact .inr (.inr (.inr ⟨h1, a, d, b, g, h⟩))
 ·rintro (h | h | h | h)
  ·exact absurd h.1 h1
  ·exact absurd h.1 a
  ·exact absurd h.1 d
  ·obtain ⟨_, _, _, b, g, h⟩ := h
   exact ⟨b, g, by rw [aH, hp, hp]; exact h⟩
theorem vC {C : List gG} {c : gG} (g : c ∈ C) (m : iC c = true) {out : List gI} (d : ∀ f ∈ out, jE C f) {s : List ByteArray} {w : ByteArray} (h : kw out c s w) : jE C ⟨c.Head, w⟩ := by
 rcases h with ⟨h1, a⟩ | ⟨h1, a⟩ | ⟨h1, a, i⟩ | ⟨h1, a, i, b, _, k, l⟩
 ·subst a; exact .mem c g h1
 ·exact .inc c w g h1 (d _ a)
 ·exact .both c w g h1 (d _ a) (d _ i)
 ·have j : c.Kind = 3 := by
   rcases kc m with h | h | h | h
   ·exact absurd h.1 h1
   ·exact absurd h.1 a
   ·exact h.1
   ·exact absurd h.1 i
  exact .we c b w g j (d _ k) (d _ l)
theorem D3 {f : gH × ByteArray → Option Bool} {p : gH × ByteArray → Bool} (i : ∀ x, f x = some (p x)) {out : List gI} (hp : ∀ r w, p (r, w) = true ↔ (⟨r, w⟩ : gI) ∈ out) (c : gG) {l s : List ByteArray} (k : l.length ≤ 900000000) (m : sN l s) :
  ∃ h, nD c f l = some h ∧ (∀ g ∈ h, iC c = true ∧ g.gH = c.Head ∧ kw out c s g.ib) ∧ (iC c = true → ∀ w ∈ s, kw out c s w → (⟨c.Head, w⟩ : gI) ∈ h) := by
 by_cases a : iC c = true
 ·obtain ⟨n, d, e⟩ := Bm i a l k
  obtain rfl : n = s := kZ.unique (sa _) d m
  refine ⟨_, e, fun g j => ?_, fun _ w hw b => ?_⟩
  ·obtain ⟨w, hw, rfl⟩ := aF.1 j
   exact ⟨a, rfl, (zn hp _ _).1 (bZ.1 hw).2⟩
  ·refine aF.2 ⟨w, bZ.2 ⟨?_, (zn hp _ _).2 b⟩, rfl⟩
   split
   ·rename_i h1
    rcases b with h | h | h | h
    ·rw [h.2]; simp
    ·exact absurd (h1.symm.trans h.1) (by decide)
    ·exact absurd (h1.symm.trans h.1) (by decide)
    ·exact absurd h1 h.1
   ·exact hw
 ·refine ⟨[], ?_, by simp, fun h => absurd h a⟩
  unfold nD
  rw [mA]
  simp only [gm] at a
  rw [a]
  rfl
theorem zf {c : gG} (a : iC c = true) (hk : c.Kind = 1) : jx c.ib = true := by
 rcases kc a with h | h | h | h
 ·exact h.2.1
 ·exact absurd (hk.symm.trans h.1) (by decide)
 ·exact absurd (hk.symm.trans h.1) (by decide)
 ·exact absurd (hk.symm.trans h.1) (by decide)
def BK {α : Type} (eq : α → α → Bool) (a : α) : List α → Nat → Option Int
 | [], _ => some (-1)
 | x :: xs, i => if eq a x then some (i : Int) else BK eq a xs (i + 1)
theorem yg {α : Type} {eq : α → α → Bool} (he : ∀ {x y}, eq x y = true ↔ x = y) (a : α) : ∀ (l : List α) (i : Nat), ∃ z, BK eq a l i = some z ∧ (z ≥ 0 ↔ a ∈ l)
 | [], i => ⟨-1, rfl, by simp⟩
 | x :: l, i => by
  rw [BK]
  by_cases h : eq a x = true
  ·rw [an h]; exact ⟨i, rfl, by simp [he.1 h]⟩
  ·rw [ak h]
   obtain ⟨z, h1, c⟩ := yg he a l (i + 1)
   have b : a ≠ x := fun e => h (he.2 e)
   exact ⟨z, h1, by rw [c]; simp [b]⟩
theorem DT (a : gI) : ∀ (l : List gI) (i : Nat), lQ a l i = BK iy a l i
 | [], i => rfl
 | x :: l, i => by rw [lQ, BK, DT a l]
theorem CH (a : gI) : ∀ (l : List gI) (i : Nat), kI a l i = BK iy a l i
 | [], i => rfl
 | x :: l, i => by rw [kI, BK, CH a l]
open Classical in
theorem HD (l : List gI) (f : gI) : ni l f = some (decide (f ∈ l)) := by
 obtain ⟨z, h1, h2⟩ := yg (eq := iy) iI f l 0
 unfold ni pZ
 rw [DT, h1]
 simp only [aa]
 congr 1
 rw [aQ]; simp [h2]
open Classical in
theorem G3 (l : List gI) (f : gI) : lT l f = some (decide (f ∈ l)) := by
 obtain ⟨z, h1, h2⟩ := yg (eq := iy) iI f l 0
 unfold lT oC
 rw [CH, h1]
 simp only [aa]
 congr 1
 rw [aQ]; simp [h2]
theorem Cz (f : gI → Option Bool) : ∀ (l : List gI) (i : Nat), jZ f l i = vH f l i
 | [], i => rfl
 | x :: l, i => by rw [jZ, vH, Cz f l]
theorem GC (f : gI → Option Bool) (p : gI → Bool) (l : List gI) (h : ∀ x ∈ l, f x = some (p x)) : kU l f = some (l.any p) := by
 unfold kU nq
 rw [Cz]
 rcases xU f p l 0 h with ⟨h1, a⟩ | ⟨A, x, B, rfl, h1, a, b⟩
 ·rw [h1]; simp only [aa]; congr 1; rw [aQ]; simp; exact a
 ·rw [b]; simp only [aa]; congr 1; rw [aQ]
  simp [a]
theorem yA (l : List gI) (r : gH) (w : ByteArray) : ∃ b, na l r w = some b ∧ (b = true ↔ (⟨r, w⟩ : gI) ∈ l) := by
 classical
 refine ⟨_, by unfold na; rw [G3]; rfl, by simp⟩
def uD (s : iu) (a : List gI) : Prop := iC s.gG = true ∧ s.gI.gH = s.gG.Head ∧ kw a s.gG (a.map (·.ib)) s.gI.ib
theorem uD.mono {s : iu} {a b : List gI} (h : uD s a) (c : ∀ f ∈ a, f ∈ b) : uD s b := by
 obtain ⟨h1, i, j⟩ := h
 refine ⟨h1, i, ?_⟩
 rcases j with h | h | h | ⟨k, l, m, g, o, d, n⟩
 ·exact .inl h
 ·exact .inr (.inl ⟨h.1, c _ h.2⟩)
 ·exact .inr (.inr (.inl ⟨h.1, c _ h.2.1, c _ h.2.2⟩))
 ·exact .inr (.inr (.inr ⟨k, l, m, g, aF.2 ⟨_, c _ d, rfl⟩, c _ d, c _ n⟩))
theorem uD.congr {s : iu} {a b : List gI} (d : ∀ f, f ∈ a ↔ f ∈ b) : uD s a ↔ uD s b := ⟨fun h => h.mono fun f c => (d f).1 c, fun h => h.mono fun f c => (d f).2 c⟩
open Classical in
noncomputable def xb (s : iu) (had : List gI) : Bool := decide (uD s had)
theorem sm {s : iu} {a : List gI} : xb s a = true ↔ uD s a := by unfold xb; simp
theorem Dp {a b : gH} (h : a ≠ b) : gO a b = false := by
 cases c : gO a b with
 | false => rfl
 | true => exact absurd (gP.1 c) h
theorem y6 (s : iu) (a : List gI) : oP s a = some (xb s a) := by
 have key : ∀ b, (b = true ↔ uD s a) → b = xb s a := fun b h => by rw [aQ, h, sm]
 unfold oP
 rw [mA]
 simp only [aa]
 by_cases d : iC s.gG = true
 ·rw [d]
  simp only [bn, ai, aY, aa]
  by_cases i : s.gI.gH = s.gG.Head
  ·rw [i, ns]
   simp only [bn, ai, aY]
   have hk := vJ d
   by_cases h1 : s.gG.Kind = 1
   ·rw [an (by simpa using h1)]
    congr 1
    refine key _ ?_
    rw [iX]
    constructor
    ·intro h; exact ⟨d, i, .inl ⟨h1, h⟩⟩
    ·rintro ⟨_, _, h | h | h | h⟩
     ·exact h.2
     ·exact absurd (h1.symm.trans h.1) (by decide)
     ·exact absurd (h1.symm.trans h.1) (by decide)
     ·exact absurd h1 h.1
   rw [ak (by simpa using h1)]
   by_cases g : s.gG.Kind = 2
   ·rw [an (by simpa using g), sF]
    obtain ⟨b, e, k⟩ := yA a s.gG.B s.gI.ib
    rw [e]; congr 1
    refine key _ ?_
    rw [k]
    constructor
    ·intro h; exact ⟨d, i, .inr (.inl ⟨g, h⟩)⟩
    ·rintro ⟨_, _, h | h | h | h⟩
     ·exact absurd h.1 h1
     ·exact h.2
     ·exact absurd (g.symm.trans h.1) (by decide)
     ·exact absurd g h.2.1
   rw [ak (by simpa using g)]
   by_cases j : s.gG.Kind = 3
   ·rw [an (by simpa using j), sF]
    unfold qt
    rw [GC _ (fun f => gO f.gH s.gG.B && xb ⟨⟨2, ⟨zS, zS⟩, zS, ⟨zS, zS⟩, ⟨zS, zS⟩, zS⟩, ⟨⟨zS, zS⟩, zS⟩⟩ [] || (gO f.gH s.gG.B && mW iy a ⟨⟨f.ib, s.gG.iv⟩, s.gI.ib⟩)) a (fun f n => by
     unfold ny
     obtain ⟨b, e, k⟩ := yA a ⟨f.ib, s.gG.iv⟩ s.gI.ib
     rw [e]
     simp only [aa, sw]
     congr 1
     have r : xb ⟨⟨2, ⟨zS, zS⟩, zS, ⟨zS, zS⟩, ⟨zS, zS⟩, zS⟩, ⟨⟨zS, zS⟩, zS⟩⟩ [] = false := by
      cases q : xb ⟨⟨2, ⟨zS, zS⟩, zS, ⟨zS, zS⟩, ⟨zS, zS⟩, zS⟩, ⟨⟨zS, zS⟩, zS⟩⟩ [] with
      | false => rfl
      | true => exact absurd (sm.1 q).1 (by decide +kernel)
     rw [r, Bool.and_false, gf]
     congr 1
     rw [aQ, k, jM iI])]
    simp only [aa]
    congr 1
    refine key _ ?_
    rw [dG]
    have r : xb ⟨⟨2, ⟨zS, zS⟩, zS, ⟨zS, zS⟩, ⟨zS, zS⟩, zS⟩, ⟨⟨zS, zS⟩, zS⟩⟩ [] = false := by
     cases q : xb ⟨⟨2, ⟨zS, zS⟩, zS, ⟨zS, zS⟩, ⟨zS, zS⟩, zS⟩, ⟨⟨zS, zS⟩, zS⟩⟩ [] with
     | false => rfl
     | true => exact absurd (sm.1 q).1 (by decide +kernel)
    simp only [r, Bool.and_false, gf, aH, gP, jM iI]
    constructor
    ·rintro ⟨f, n, p, o⟩
     refine ⟨d, i, .inr (.inr (.inr ⟨h1, g, fun h => absurd (j.symm.trans h) (by decide), f.ib, aF.2 ⟨f, n, rfl⟩, ?_, o⟩))⟩
     rw [← p]; exact n
    ·rintro ⟨_, _, h | h | h | h⟩
     ·exact absurd h.1 h1
     ·exact absurd h.1 g
     ·exact absurd (j.symm.trans h.1) (by decide)
     ·obtain ⟨_, _, _, b, _, l, m⟩ := h
      exact ⟨_, l, rfl, m⟩
   rw [ak (by simpa using j)]
   have t : s.gG.Kind = 4 := by 
    rcases hk with h | h | h | h
    ·exact absurd h h1
    ·exact absurd h g
    ·exact absurd h j
    ·exact h
   obtain ⟨b, e, k⟩ := yA a s.gG.B s.gI.ib
   obtain ⟨c, u, v⟩ := yA a s.gG.C s.gI.ib
   rw [e, u]
   simp only [aa, sw]
   congr 1
   refine key _ ?_
   rw [aH, k, v]
   constructor
   ·intro h; exact ⟨d, i, .inr (.inr (.inl ⟨t, h⟩))⟩
   ·rintro ⟨_, _, h | h | h | h⟩
    ·exact absurd h.1 h1
    ·exact absurd h.1 g
    ·exact h.2
    ·exact absurd t h.2.2.1
  ·rw [Dp i]
   simp only [bT, bj]
   congr 1
   exact key _ ⟨fun h => (by cases h), fun h => absurd h.2.1 i⟩
 ·simp only [gm] at d
  rw [d]
  simp only [bT, bj, aa]
  congr 1
  exact key _ ⟨fun h => (by cases h), fun h => by rw [h.1] at d; cases d⟩
def jN : List gI → List iu → Prop
 | _, [] => True
 | a, s :: l => uD s a ∧ jN (a ++ [s.gI]) l
theorem jN.mono : ∀ {l : List iu} {a b : List gI}, jN a l → (∀ f ∈ a, f ∈ b) → jN b l
 | [], _, _, _, _ => trivial
 | s :: l, a, b, ⟨h1, g⟩, d => ⟨h1.mono d, jN.mono g (fun f c => by
   rcases aA.1 c with c | c
   ·exact aN _ (d f c)
   ·exact bf _ c)⟩
theorem tu : ∀ (l m : List iu) (a : List gI), jN a (l ++ m) ↔ jN a l ∧ jN (a ++ l.map (·.gI)) m
 | [], m, a => by simp [jN]
 | s :: l, m, a => by
  simp only [bt, jN, tu l m, aC, ar, aU, and_assoc, dM]
open Classical in
noncomputable def Ac (l : List iu) : Bool := decide (jN [] l)
theorem tC {l : List iu} : Ac l = true ↔ jN [] l := by unfold Ac; simp
open Classical in
theorem yW : ∀ (l : List iu) (had : List gI), had.length + l.length ≤ 1000000000 → mG l had = some (decide (jN had l))
 | [], had, _ => by rw [mG]; congr 1; rw [eq_comm, decide_eq_true_iff]; trivial
 | s :: l, had, h => by
  simp only [aq] at h
  rw [mG, y6]
  simp only [aa]
  cases hf : xb s had with
  | false =>
   simp only [bT, bj]
   congr 1
   rw [eq_comm, decide_eq_false_iff_not]
   intro hs
   rw [sm.2 hs.1] at hf; cases hf
  | true =>
   simp only [bn, ai, aY]
   rw [jt (by simp; omega) (by simp; omega)]
   simp only [aa]
   rw [yW l _ (by simp; omega)]
   congr 1
   rw [aQ]
   simp [jN, sm.1 hf]
theorem Dl (l : List iu) (h : l.length ≤ 1000000000) : qM l = some (Ac l) := by
 unfold qM; rw [yW l [] (by simpa using h)]; rfl
theorem BN : ∀ (l : List iu) (acc : List gI), acc.length + l.length ≤ 1000000000 → nh l acc = some (acc ++ l.map (·.gI))
 | [], acc, _ => by rw [nh]; simp
 | f :: l, acc, h => by
  simp only [aq] at h
  rw [nh, jt (by simp; omega) (by simp; omega)]
  simp only [aa]
  rw [BN l _ (by simp; omega)]
  simp
theorem Aj (l : List iu) (h : l.length ≤ 1000000000) : pK l = some (l.map (·.gI)) := by
 unfold pK; rw [BN l [] (by simpa using h)]; rfl
theorem Bf {α : Type} (A B : List α) : (A ++ B).take (Int.toNat (A.length : Int)) = A := by simp
open Classical in
theorem yz : ∀ (B A : List iu), mI ((A ++ B).map (·.gI)) B A.length = some (decide (jN (A.map (·.gI)) B))
 | [], A => by rw [mI]; congr 1; rw [eq_comm, decide_eq_true_iff]; trivial
 | s :: B, A => by
  rw [mI, rO (by omega) (by simp; omega)]
  simp only [aa]
  rw [← List.map_take, Bf, y6]
  simp only [aa]
  cases hf : xb s (A.map (·.gI)) with
  | false =>
   simp only [bT, bj]
   congr 1
   rw [eq_comm, decide_eq_false_iff_not]
   intro hs
   rw [sm.2 hs.1] at hf; cases hf
  | true =>
   simp only [bn, ai, aY]
   have := yz B (A ++ [s])
   simp only [ar, bt, aU, ag, aq, bA, cJ] at this
   rw [this]
   congr 1
   rw [aQ]
   simp [jN, sm.1 hf]
theorem yN (l : List iu) (h : l.length ≤ 1000000000) : pz l = some (Ac l) := by
 unfold pz; rw [Aj l h]
 exact yz l []
theorem Cs {l : List iu} (a : l.length ≤ 1000000000) : lI l = some l := by
 unfold lI
 rw [jt (by simp; omega) (by simp; omega)]
 rfl
theorem EU {p : Prop} [Decidable p] (h : p) : mK (decide p) = some () := by simp [mK, h]
theorem Bw (A : List iu) (x : iu) (B : List iu) (g : (A ++ x :: B).length ≤ 1000000000) : mz (A ++ x :: B) (A.length : Int) ((A.length : Int) + 1) = some (A ++ B) := by
 have hlen : (A ++ x :: B).length = A.length + (B.length + 1) := by simp
 have a : (A ++ x :: B).take (Int.toNat (A.length : Int)) = A := by simp
 have b : (A ++ x :: B).drop (Int.toNat ((A.length : Int) + 1)) = B := by
  rw [show Int.toNat ((A.length : Int) + 1) = A.length + 1 by omega, List.drop_append]
  simp
 have c : (s8 (A ++ x :: B) (Int.toNat (A.length : Int)) (Int.toNat ((A.length : Int) + 1))) = A ++ B ++ (A ++ x :: B).drop ((A ++ x :: B).length - (Int.toNat ((A.length : Int) + 1) - Int.toNat (A.length : Int))) := by
  unfold s8; rw [a, b]
 have d : (A ++ B ++ (A ++ x :: B).drop ((A ++ x :: B).length - (Int.toNat ((A.length : Int) + 1) - Int.toNat (A.length : Int)))).length = (A ++ x :: B).length := by
  rw [ag, cn, hlen, ag]; omega
 unfold mz
 rw [EU (by omega)]
 simp only [aa]
 rw [ak (by simp; omega), rO (by omega) (by omega), rO (by omega) (by omega), EU (by omega)]
 simp only [aa]
 rw [a, b, c, d, EU (by simp; omega)]
 simp only [aa]
 congr 1
 unfold lR
 have h : (Int.toNat ((A ++ B).length : Int)) = (A ++ B).length := by omega
 rw [h, fj, fj]
def tw (l : List iu) (i : Nat) : Prop := ∃ j, i ≤ j ∧ j + 1 < l.length ∧ jN [] (l.eraseIdx j)
theorem Bd {α : Type} (l : List α) (i : Nat) (h : i < l.length) : ∃ A x B, l = A ++ x :: B ∧ A.length = i := ⟨l.take i, l[i], l.drop (i + 1), by simp, by simp; omega⟩
theorem zL {α : Type} (A : List α) (x : α) (B : List α) : (A ++ x :: B).eraseIdx A.length = A ++ B := by
 rw [List.eraseIdx_append_of_length_le (aJ _)]; simp
theorem tw.step {l : List iu} {i : Nat} (h : i + 1 < l.length) : tw l i ↔ jN [] (l.eraseIdx i) ∨ tw l (i + 1) := by
 constructor
 ·rintro ⟨j, h1, b, a⟩
  rcases Nat.eq_or_lt_of_le h1 with rfl | h1
  ·exact .inl a
  ·exact .inr ⟨j, h1, b, a⟩
 ·rintro (h1 | ⟨j, h1, b, a⟩)
  ·exact ⟨i, aJ _, h, h1⟩
  ·exact ⟨j, by omega, b, a⟩
open Classical in
theorem Al (l : List iu) (hl : l.length ≤ 100000000) : ∀ (n i : Nat), l.length < n + i → i ≤ l.length → ng l n (i : Int) = some (if tw l i then .inl false else .inr ())
 | 0, i, h, hil => by
  omega
 | n + 1, i, h, hil => by
  rw [ng, jb (by omega) (by omega)]
  have hm : (if 0 > (l.length : Int) - 1 then 0 else (l.length : Int) - 1) = ((l.length - 1 : Nat) : Int) := by split <;> omega
  rw [hm]
  by_cases hi : i + 1 < l.length
  ·rw [an (by simp; omega), Cs (by omega)]
   simp only [aa]
   obtain ⟨A, x, B, rfl, rfl⟩ := Bd l i (by omega)
   rw [jb (by omega) (by omega), Bw A x B (by omega)]
   simp only [aa]
   rw [yN _ (by simp at hl ⊢; omega)]
   simp only [aa]
   rw [tw.step hi, zL]
   cases hs : Ac (A ++ B) with
   | true => simp [tC.1 hs]
   | false =>
    have hn : ¬ jN [] (A ++ B) := fun h => by rw [tC.2 h] at hs; cases hs
    have := Al _ hl n (A.length + 1) (by omega) (by omega)
    simp only [Int.natCast_add, Int.natCast_one] at this
    simp only [ai, aY, hn, false_or]
    exact this
  ·rw [ak (by simp; omega)]
   have hn : ¬ tw l i := fun ⟨j, h1, h2, _⟩ => by omega
   rw [ak hn]
def wN (l : List iu) : Prop := (l.map (·.gI)).Nodup ∧ jN [] l ∧ ¬ tw l 0
open Classical in
noncomputable def Cq (l : List iu) : Bool := decide (wN l)
theorem tB {l : List iu} : Cq l = true ↔ wN l := by unfold Cq; simp
theorem Eh (l : List iu) (d : (l.map (·.gI)).Nodup) {q : Option (Bool ⊕ Unit)} (g : q = (open Classical in some (if tw l 0 then .inl false else .inr ()))) :
  (if (!Ac l) = true then some false else q.bind fun s => match s with | .inl a => some a | .inr _ => some true) = some (Cq l) := by
 subst g
 cases c : Ac l with
 | false =>
  simp only [bT, bj]
  congr 1
  rw [aQ, tB]
  exact ⟨fun h => (by cases h), fun h => by rw [tC.2 h.2.1] at c; cases c⟩
 | true =>
  simp only [bn, ai, aY, aa]
  by_cases b : tw l 0
  ·rw [an b]
   simp only
   congr 1
   rw [aQ, tB]
   exact ⟨fun h => (by cases h), fun h => absurd b h.2.2⟩
  ·rw [ak b]
   simp only
   congr 1
   rw [aQ, tB]
   exact ⟨fun _ => ⟨d, tC.1 c, b⟩, fun _ => rfl⟩
theorem Ae (l : List iu) (k : l.length ≤ 100000000) : ∀ (B A : List gI), A ++ B = l.map (·.gI) → A.Nodup → mX (A ++ B) l B A.length = some (Cq l)
 | [], A, e, g => by
  rw [mX, yN l (by omega)]
  simp only [aa]
  rw [aV] at e
  exact Eh l (by rw [← e]; exact g) (Al l k jq 0 (by rw [oa]; omega) (by omega))
 | f :: B, A, e, g => by
  rw [mX, rO (by omega) (by simp; omega)]
  simp only [aa]
  rw [Bf, HD]
  simp only [aa]
  by_cases c : f ∈ A
  ·rw [an (by simpa using c)]
   congr 1
   rw [aQ, tB]
   refine ⟨fun h => (by cases h), fun h => ?_⟩
   have := h.1
   rw [← e] at this
   exact absurd rfl ((aG.1 this).2.2 f c f (by simp))
  ·rw [ak (by simpa using c)]
   have := Ae l k B (A ++ [f]) (by simpa using e) (aG.2 ⟨g, by simp, fun a i b j d => by rw [au] at j; rw [d, j] at i; exact c i⟩)
   simpa only [ar, bt, aU, ag, aq, bA, cJ] using this
theorem Ab (l : List iu) (a : l.length ≤ 100000000) : rc l = some (Cq l) := by
 unfold rc
 rw [Aj l (by omega)]
 exact Ae l a _ [] rfl (by simp)
theorem F7 : ∀ (P S : List iu) (n : Nat), P.length < n → (P ++ S).length ≤ 100000000 → jN [] (P ++ S) →
  ∃ R, kC n (P ++ S) ((P.length : Int) - 1) = some (R ++ S) ∧ R.Sublist P ∧ jN [] (R ++ S) ∧ ∀ R1 x R2, R = R1 ++ x :: R2 → ¬ jN [] (R1 ++ (R2 ++ S)) := by
 intro P
 induction hk : P.length generalizing P with
 | zero =>
  intro S n u o c
  obtain rfl := bx.1 hk
  obtain ⟨m, rfl⟩ : ∃ m, n = m + 1 := ⟨n - 1, by omega⟩
  refine ⟨[], ?_, .slnil, c, fun R1 x R2 h => by simp at h⟩
  rw [kC, ak (by simp)]
 | succ k ih =>
  intro S n u o c
  obtain ⟨m, rfl⟩ : ∃ m, n = m + 1 := ⟨n - 1, by omega⟩
  obtain ⟨P0, x, rfl⟩ : ∃ P0 x, P = P0 ++ [x] := by
   rcases cw P with rfl | ⟨L, y, rfl⟩
   ·simp at hk
   ·exact ⟨L, y, by simp⟩
  have j : P0.length = k := by simpa using hk
  subst j
  have t : P0.length + (S.length + 1) ≤ 100000000 := by simp at o; omega
  simp only [ar, bt, aU] at c o ⊢
  rw [kC, an (by simp), Cs (by omega)]
  simp only [aa]
  rw [show ((P0.length + 1 : Nat) : Int) - 1 = (P0.length : Int) by omega, jb (by omega) (by omega), Bw P0 x S (by omega)]
  simp only [aa]
  rw [Dl _ (by simp; omega), jb (by omega) (by omega)]
  simp only [aa]
  cases b : Ac (P0 ++ S) with
  | true =>
   simp only [bj, aa]
   obtain ⟨R, e, h1, g, i⟩ := ih P0 rfl S m (by omega) (by simp; omega) (tC.1 b)
   exact ⟨R, e, h1.trans (List.sublist_append_left _ _), g, i⟩
  | false =>
   simp only [ai, aY, aa]
   obtain ⟨R, e, h1, g, i⟩ := ih P0 rfl (x :: S) m (by omega) (by simp; omega) c
   refine ⟨R ++ [x], by rw [e]; simp, ej h1 (.refl _), by simpa using g, fun R1 y R2 q a => ?_⟩
   rcases cw R2 with rfl | ⟨R2', z, rfl⟩
   ·-- x d
    have : R = R1 ∧ x = y := by
     have := List.append_inj' (t₁ := [x]) (t₂ := [y]) (by simpa using q) rfl
     exact ⟨this.1, by simpa using this.2⟩
    obtain ⟨rfl, rfl⟩ := this
    simp only [aU] at a
    rw [tu] at c a
    have : jN [] (P0 ++ S) := (tu _ _ _).2 ⟨c.1, a.2.mono (fun f r => by
     simp only [aU] at r ⊢
     exact (h1.map _).subset r)⟩
    rw [tC.2 this] at b; cases b
   ·have l : R ++ [x] = (R1 ++ y :: R2') ++ [z] := by simpa using q
    have := List.append_inj' l rfl
    obtain ⟨s, p⟩ := this
    simp at p; subst p
    exact i R1 y R2' s (by simpa using a)
theorem EI {R : List iu} {z : iu} (c : ((R ++ [z]).map (·.gI)).Nodup) (d : jN [] (R ++ [z])) (h : ∀ R1 x R2, R = R1 ++ x :: R2 → ¬ jN [] (R1 ++ (R2 ++ [z]))) : wN (R ++ [z]) := by
 refine ⟨c, d, ?_⟩
 rintro ⟨j, _, h1, a⟩
 have b : j < R.length := by simp at h1; omega
 obtain ⟨A, x, B, rfl, rfl⟩ := Bd R j b
 refine h A x B rfl ?_
 have := zL A x (B ++ [z])
 simp only [ar, bt] at a
 rw [this] at a
 exact a
theorem BP (P : List iu) (z : iu) (h : (P ++ [z]).length ≤ 10000000) (j : ((P ++ [z]).map (·.gI)).Nodup) (k : jN [] (P ++ [z])) :
  ∃ R, pc (P ++ [z]) = some (R ++ [z]) ∧ R.Sublist P ∧ wN (R ++ [z]) := by
 unfold pc
 rw [tM, lu, Ab _ (by omega)]
 simp only [aa]
 cases l : Cq (P ++ [z]) with
 | true =>
  simp only [bn, ai, aY]
  exact ⟨P, rfl, .refl _, tB.1 l⟩
 | false =>
  simp only [bT, bj]
  have i : P.length + 1 ≤ 10000000 := by simpa using h
  obtain ⟨R, e, h1, c, d⟩ := F7 P [z] jq (by rw [oa]; omega) (by simp; omega) k
  have g : wi0 .i64 (((P ++ [z]).length : Int) - 2) = (P.length : Int) - 1 := by rw [jb (by simp; omega) (by simp; omega)]; simp; omega
  rw [g, e]
  simp only [aa]
  have a : (R ++ [z]).Sublist (P ++ [z]) := ej h1 (.refl _)
  have b := EI ((a.map _).nodup j) c d
  rw [show (18446744073709551615 : Nat) = 18446744073709551614 + 1 from rfl, lu, Ab _ (by have := a.length_le; omega)]
  simp only [aa]
  rw [tB.2 b]
  simp only [bn, ai, aY]
  exact ⟨R, rfl, h1, b⟩
def tP (l : List gG) : List ByteArray := l.flatMap fun c => [c.ib, c.Head.gU, c.B.gU, c.C.gU]
theorem vX (l : List gG) : (tP l).length = 4 * l.length := by
 unfold tP
 induction l with
 | nil => rfl
 | cons x l ih => simp [ih]; omega
theorem zW : ∀ (l : List gG) (acc : List ByteArray), acc.length + 4 * l.length ≤ 1000000000 → mU l acc = oN (acc ++ tP l)
 | [], acc, _ => by rw [mU, sF]; simp [tP]
 | c :: l, acc, h => by
  simp only [aq] at h
  rw [mU, jt (by simp; omega) (by simp; omega)]
  simp only [aa]
  rw [zW l _ (by simp; omega)]
  simp [tP]
theorem DJ (l : List gG) (h : l.length ≤ 10000000) : ∃ s, re l = some s ∧ sN (tP l) s ∧ s.length ≤ 4 * l.length := by
 unfold re
 rw [zW l [] (by simp; omega)]
 obtain ⟨s, e, a⟩ := EA ([] ++ tP l) (by rw [aU, vX]; omega)
 rw [aU] at a
 exact ⟨s, e, a, by rw [← vX]; exact kN (sa _) a⟩
theorem kZ.self {α : Type} {lt : α → α → Prop} {P : α → Prop} {l s : List α} (h : kZ lt P l s) : kZ lt P s s := ⟨h.1, fun x => ⟨fun a => ⟨a, ((h.2 x).1 a).2⟩, fun a => a.1⟩⟩
theorem kw.own {l : List gI} {c : gG} {names : List ByteArray} {w : ByteArray} (h : kw l c names w) : kw l c (l.map (·.ib)) w := by
 rcases h with h | h | h | ⟨d, g, i, b, _, a, j⟩
 ·exact .inl h
 ·exact .inr (.inl h)
 ·exact .inr (.inr (.inl h))
 ·exact .inr (.inr (.inr ⟨d, g, i, b, aF.2 ⟨_, a, rfl⟩, a, j⟩))
theorem kw.subset {a b : List gI} {c : gG} {names : List ByteArray} {w : ByteArray} (h : kw a c names w) (d : ∀ f ∈ a, f ∈ b) : kw b c names w := by
 rcases h with h | h | h | ⟨i, j, k, g, l, m, n⟩
 ·exact .inl h
 ·exact .inr (.inl ⟨h.1, d _ h.2⟩)
 ·exact .inr (.inr (.inl ⟨h.1, d _ h.2.1, d _ h.2.2⟩))
 ·exact .inr (.inr (.inr ⟨i, j, k, g, l, d _ m, d _ n⟩))
def kj (l : List iu) : List gI := l.map (·.gI)
theorem ru (l m : List iu) : kj (l ++ m) = kj l ++ kj m := by simp [kj]
structure wK (C : List gG) (want : gI) (out : List iu) : Prop where
 st : jN [] out
 nd : (kj out).Nodup
 cr : ∀ s ∈ out, s.gG ∈ C
 dr : ∀ f ∈ kj out, jE C f
 no : want ∉ kj out
theorem wK.len {C : List gG} {want : gI} {out : List iu} (h : wK C want out) : out.length ≤ C.length * C.length := by
 have h1 : (kj out).length ≤ (tR C).length := iW h.nd (fun f a => (h.dr f a).tR)
 rw [qD] at h1
 simpa [kj] using h1
structure FI (C : List gG) (want : gI) (l : List iu) : Prop where
 st : jN [] l
 nd : (kj l).Nodup
 cr : ∀ s ∈ l, s.gG ∈ C
 dr : jE C want
 len : l.length ≤ C.length * C.length
 last : ∃ P z, l = P ++ [z] ∧ z.gI = want
theorem FZ {κ : Type} {beq : κ → κ → Bool} (b : ∀ {x y}, beq x y = true ↔ x = y) {a : List κ} {k : κ} (h : k ∉ a) : ins beq a k = a ++ [k] := by
 unfold ins
 rw [ak]
 intro c; exact h ((jM b a k).1 c)
theorem yq {C : List gG} (y : SM C) (v : lO C) {c : gG} (r : c ∈ C) (nF : List ByteArray) (want : gI) (j : List iu) : ∀ (fs : List gI) (out : List iu), wK C want out → (∀ f ∈ kj j, f ∈ kj out) → (∀ f ∈ fs, f.gH = c.Head ∧ kw (kj j) c nF f.ib) →
  (∃ l, lb c want fs out (tt (kj out)) = some (.inl (.inl (l, true))) ∧ FI C want l) ∨
  (∃ e, lb c want fs out (tt (kj out)) = some (.inr (out ++ e, tt (kj (out ++ e)))) ∧ wK C want (out ++ e) ∧ ∀ f ∈ fs, f ∈ kj (out ++ e))
 | [], out, h, _, _ => .inr ⟨[], by rw [lb]; simp, by simpa using h, by simp⟩
 | f :: fs, out, h, m, E => by
  rw [lb, xT]
  by_cases k : f ∈ kj out
  ·rw [an ((jM iI _ _).2 k)]
   rcases yq y v r nF want j fs out h m (fun g d => E g (by simp [d])) with h1 | ⟨e, h1, w, x⟩
   ·exact .inl h1
   ·refine .inr ⟨e, h1, w, fun g d => ?_⟩
    rcases aj.1 d with rfl | d
    ·rw [ru]; exact aN _ k
    ·exact x g d
  ·rw [ak (fun q => k ((jM iI _ _).1 q))]
   have M := h.len
   have L := y.sq
   rw [jt (by simp; omega) (by simp; omega)]
   simp only [aa]
   obtain ⟨J, G⟩ := E f (by simp)
   have o : kw (kj out) c nF f.ib := G.subset m
   have n : jE C f := by
    have := vC r (v c r) h.dr o
    rw [← J] at this; exact this
   have i : jN [] (out ++ [⟨c, f⟩]) := (tu _ _ _).2 ⟨h.st, ⟨v c r, J, o.own⟩, trivial⟩
   have p : (kj (out ++ [⟨c, f⟩])).Nodup := by
    rw [ru]
    exact aG.2 ⟨h.nd, by simp [kj], fun a I b q A => by
     simp only [kj, aC, dJ, au] at q
     rw [A, q] at I; exact k I⟩
   have t : ∀ s ∈ out ++ [⟨c, f⟩], s.gG ∈ C := fun s m => by
    rcases aA.1 m with m | m
    ·exact h.cr s m
    ·rw [au] at m; rw [m]; exact r
   have u : ∀ g ∈ kj (out ++ [⟨c, f⟩]), jE C g := fun g d => by
    rw [ru] at d
    rcases aA.1 d with d | d
    ·exact h.dr g d
    ·simp only [kj, aC, dJ, au] at d
     rw [d]; exact n
   by_cases hw : f = want
   ·rw [an (iI.2 hw)]
    refine .inl ⟨_, rfl, i, p, t, by rw [← hw]; exact n, ?_, out, _, rfl, hw⟩
    have h1 : (kj (out ++ [⟨c, f⟩])).length ≤ (tR C).length := iW p (fun g d => (u g d).tR)
    rw [qD] at h1
    simpa [kj] using h1
   ·rw [ak (fun q => hw (iI.1 q)), Cd iI, FZ iI k]
    have d : wK C want (out ++ [⟨c, f⟩]) := ⟨i, p, t, u, fun k => by
     rw [ru] at k
     rcases aA.1 k with k | k
     ·exact h.no k
     ·simp only [kj, aC, dJ, au] at k
      exact hw k.symm⟩
    have K : kj out ++ [f] = kj (out ++ [⟨c, f⟩]) := by rw [ru]; rfl
    rw [K]
    rcases yq y v r nF want j fs _ d (fun g d => by rw [ru]; exact aN _ (m g d)) (fun g d => E g (by simp [d])) with h1 | ⟨e, h1, w, x⟩
    ·exact .inl h1
    ·refine .inr ⟨⟨c, f⟩ :: e, by rw [h1]; simp, by simpa using w, fun g d => ?_⟩
     rcases aj.1 d with rfl | d
     ·rw [ru]; exact bf _ (by simp [kj])
     ·have := x g d
      simpa using this
def AY (nF : List ByteArray) (cs : List gG) (F : List gI) : Prop := ∀ c ∈ cs, ∀ w ∈ nF, kw F c nF w → (⟨c.Head, w⟩ : gI) ∈ F
theorem BC {C : List gG} (q : SM C) (k : lO C) {nF : List ByteArray} (hw : sN nF nF) (g : nF.length ≤ 900000000) (want : gI) : ∀ (cs : List gG) (out : List iu), (∀ c ∈ cs, c ∈ C) → wK C want out →
  (∃ l, lY nF want cs out (tt (kj out)) = some (.inl (l, true)) ∧ FI C want l) ∨
  (∃ e, lY nF want cs out (tt (kj out)) = some (.inr (out ++ e, tt (kj (out ++ e)))) ∧ wK C want (out ++ e) ∧ (e = [] → AY nF cs (kj out)))
 | [], out, _, h => .inr ⟨[], by rw [lY]; simp, by simpa using h, fun _ c A => by cases A⟩
 | c :: cs, out, b, h => by
  rw [lY]
  obtain ⟨fs, v, t, a2⟩ := D3 (f := fun x => og x.1 x.2 (tt (kj out))) (p := fun x => mW iy (kj out) ⟨x.1, x.2⟩) (fun x => by unfold og; rw [xT]) (out := kj out) (fun r w => jM iI _ _) c g hw
  rw [v]
  simp only [aa]
  rcases yq q k (b c (by simp)) nF want out fs out h (fun _ h => h) (fun f E => (t f E).2) with ⟨l, h1, j⟩ | ⟨e, h1, j, o⟩
  ·rw [h1]
   exact .inl ⟨l, rfl, j⟩
  ·rw [h1]
   simp only [aa]
   rcases BC q k hw g want cs _ (fun x G => b x (by simp [G])) j with ⟨l, m, n⟩ | ⟨y, m, n, s⟩
   ·exact .inl ⟨l, m, n⟩
   ·refine .inr ⟨e ++ y, by rw [m]; simp, by simpa using n, fun he => ?_⟩
    obtain ⟨rfl, rfl⟩ := List.append_eq_nil_iff.1 he
    simp only [aV] at o s
    intro u a w i d
    rcases aj.1 a with rfl | a
    ·exact o _ (a2 (k _ (b _ (by simp))) w i d)
    ·exact s trivial u a w i d
theorem AS {C : List gG} (k : SM C) (d : lO C) {nF : List ByteArray} (hw : sN nF nF) (b : nF.length ≤ 900000000) (m : ∀ c ∈ C, c.Kind = 1 → c.ib ∈ nF) (want : gI) : ∀ (n : Nat) (out : List iu) (x : Int), wK C want out → x ≤ out.length → (x = out.length → AY nF C (kj out)) → ((C.length * C.length : Nat) : Int) < n + x →
  (∃ l, mg nF want C n out x (tt (kj out)) = some (l, true) ∧ FI C want l) ∨ (mg nF want C n out x (tt (kj out)) = some ([], false) ∧ ¬ jE C want)
 | 0, out, x, h, q, _, p => by
  have := h.len
  omega
 | n + 1, out, x, h, q, g, p => by
  rw [mg]
  by_cases a : x < out.length
  ·rw [an (by simpa using a)]
   rcases BC k d hw b want C out (fun _ h => h) h with ⟨l, i, j⟩ | ⟨e, i, j, r⟩
   ·rw [i]
    exact .inl ⟨l, rfl, j⟩
   ·rw [i]
    simp only [aa]
    refine AS k d hw b m want n (out ++ e) out.length j (by rw [ag]; omega) (fun he => ?_) (by omega)
    have : e = [] := bW (by simp at he; omega)
    subst this
    rw [aV]
    exact r rfl
  ·rw [ak (by simpa using a)]
   refine .inr ⟨rfl, fun o => h.no ?_⟩
   exact yL d m (g (by omega)) o
theorem E5 (l : List gG) (n : l.length ≤ 30000) (want : gI) : ∃ C, sP l C ∧ ((∃ o, pN l want = some (o, true) ∧ FI C want o) ∨ (pN l want = some ([], false) ∧ ¬ jE C want)) := by
 obtain ⟨C, h, b⟩ := EK l (by omega)
 obtain ⟨nF, i, hw, m⟩ := DJ l (by omega)
 have j : C.length ≤ l.length := kN pF b
 have a : SM C := by unfold SM; omega
 have g : lO C := fun c d => ((b.2 c).1 d).2
 refine ⟨C, b, ?_⟩
 unfold pN
 rw [h, i]
 simp only [aa]
 have k := a.sq
 exact AS a g hw.self (by omega) (fun c d hk => (hw.2 _).2 ⟨dH.2 ⟨c, ((b.2 c).1 d).1, by simp⟩, zf (g c d) hk⟩) want jq [] (-1) ⟨trivial, by simp [kj], by simp, by simp [kj], by simp [kj]⟩ (by simp) (by simp) (by rw [oa]; omega)
structure Ho (C : List gG) (want : gI) (l : List iu) : Prop where
 tg : wN l
 cr : ∀ s ∈ l, s.gG ∈ C
 dr : jE C want
 len : l.length ≤ C.length * C.length
 last : ∃ P z, l = P ++ [z] ∧ z.gI = want
theorem Ga (l : List gG) (n : l.length ≤ 3000) (want : gI) : ∃ C, sP l C ∧ ((∃ o, qp l want = some (o, true) ∧ Ho C want o) ∨ (qp l want = some ([], false) ∧ ¬ jE C want)) := by
 obtain ⟨C, b, h⟩ := E5 l (by omega) want
 refine ⟨C, b, ?_⟩
 have i : C.length ≤ l.length := kN pF b
 have k : C.length * C.length ≤ 3000 * 3000 := dj (by omega) (by omega)
 unfold qp
 rcases h with ⟨o, e, g⟩ | ⟨e, g⟩
 ·rw [e]
  simp only [aa, bn, ai, aY]
  obtain ⟨P, z, rfl, m⟩ := g.last
  have hlen := g.len
  obtain ⟨R, c, h1, d⟩ := BP P z (by omega) g.nd g.st
  rw [c]
  simp only [aa]
  have a : (R ++ [z]).Sublist (P ++ [z]) := ej h1 (.refl _)
  exact .inl ⟨_, rfl, d, fun s j => g.cr s (a.subset j), g.dr, by have := a.length_le; omega, R, z, rfl, m⟩
 ·rw [e]
  exact .inr ⟨rfl, g⟩
def tot {α : Type} (a : List (List α)) : Nat := (a.map List.length).sum
section
variable {κ γ : Type} [DecidableEq κ] {beq : κ → κ → Bool}
def kH (K : List κ) (g : κ → γ) : List (κ × γ) := K.map fun r => (r, g r)
theorem qH {K : List κ} {g g' : κ → γ} (h : ∀ r ∈ K, g r = g' r) : kH K g = kH K g' := eZ fun r a => by rw [h r a]
theorem xV (a : ∀ {x y}, beq x y = true ↔ x = y) (K : List κ) (g : κ → γ) (x : κ) : ij beq (kH K g) x = if x ∈ K then some (g x) else none := by
 induction K with
 | nil => rfl
 | cons k K ih =>
  show ij beq ((k, g k) :: kH K g) x = _
  rw [uj, ih]
  by_cases h : x = k
  ·subst h; simp [a]
  ·have : ¬ beq x k = true := fun e => h (a.1 e)
   simp [this, h]
theorem ye (c : ∀ {x y}, beq x y = true ↔ x = y) {K : List κ} (k : K.Nodup) (g : κ → γ) (x : κ) (v : γ) : ji beq (kH K g) x v = kH (ins beq K x) (fun r => if r = x then v else g r) := by
 by_cases d : x ∈ K
 ·obtain ⟨A, B, rfl⟩ := dI d
  have j : ∀ r ∈ A, r ≠ x := fun r a e => by
   subst e
   exact (aG.1 k).2.2 r a r (by simp) rfl
  have m : ∀ r ∈ B, r ≠ x := fun r a e => by
   subst e
   exact (bP.1 (aG.1 k).2.1).1 a
  have l : kH (A ++ x :: B) g = kH A g ++ (x, g x) :: kH B g := by simp [kH]
  rw [l, pG c (fun p hp => by obtain ⟨r, a, rfl⟩ := aF.1 hp; exact j r a)]
  rw [ins, an ((jM c _ _).2 d)]
  have i : kH (A ++ x :: B) (fun r => if r = x then v else g r) = kH A (fun r => if r = x then v else g r) ++ (x, v) :: kH B (fun r => if r = x then v else g r) := by simp [kH]
  rw [i, qH (K := A) (g' := g) (fun r a => ak (j r a)), qH (K := B) (g' := g) (fun r a => ak (m r a))]
 ·have b : ∀ r ∈ K, r ≠ x := fun r a e => d (e ▸ a)
  rw [sv c (fun p hp => by obtain ⟨r, a, rfl⟩ := aF.1 hp; exact b r a)]
  rw [ins, ak (fun h => d ((jM c _ _).1 h))]
  have i : kH (K ++ [x]) (fun r => if r = x then v else g r) = kH K (fun r => if r = x then v else g r) ++ [(x, v)] := by simp [kH]
  rw [i, qH (K := K) (g' := g) (fun r a => ak (b r a))]
end
instance : DecidableEq gH := fun a b => decidable_of_iff (gO a b = true) gP
def jl (l : List gH) (r : gH) : Nat := l.countP fun x => gO x r
def oR (s : List gG) : List gH := s.flatMap je
def jT (s : List gG) : List gH := s.map (·.Head)
def pA (h n sz : gH → Nat) (r : gH) : gT := ⟨r, h r, n r, sz r⟩
def up (h : gH → Nat) (x : gH) : gH → Nat := fun r => if r = x then h r + 1 else h r
structure ue (K : List gH) (h n : gH → Nat) (m : Nat) : Prop where
 nd : K.Nodup
 z : ∀ r, r ∉ K → h r = 0 ∧ n r = 0
 le : ∀ r, h r ≤ m ∧ n r ≤ m
theorem ue.get {K : List gH} {h n : gH → Nat} {m : Nat} (H : ue K h n m) (sz : gH → Nat) (x : gH) : (jh gO (kH K (pA h n sz)) x (⟨(⟨zS, zS⟩ : gH), 0, 0, 0⟩ : gT)).lG = h x ∧ (jh gO (kH K (pA h n sz)) x (⟨(⟨zS, zS⟩ : gH), 0, 0, 0⟩ : gT)).lF = n x := by
 unfold jh
 rw [xV gP]
 by_cases a : x ∈ K
 ·rw [an a]; exact ⟨rfl, rfl⟩
 ·rw [ak a]
  obtain ⟨h1, b⟩ := H.z x a
  rw [h1, b]; exact ⟨rfl, rfl⟩
theorem ue.Ie {K : List gH} {h n : gH → Nat} {m : Nat} (H : ue K h n m) (x : gH) : ue (ins gO K x) (up h x) n (m + 1) := by
 refine ⟨xf gP H.nd x, fun r a => ?_, fun r => ?_⟩
 ·rw [xm gP, not_or] at a
  rw [up, ak a.2]; exact H.z r a.1
 ·have := H.le r
  unfold up
  split <;> omega
theorem ue.H5 {K : List gH} {h n : gH → Nat} {m : Nat} (H : ue K h n m) (x : gH) : ue (ins gO K x) h (up n x) (m + 1) := by
 refine ⟨xf gP H.nd x, fun r a => ?_, fun r => ?_⟩
 ·rw [xm gP, not_or] at a
  rw [up, ak a.2]; exact H.z r a.1
 ·have := H.le r
  unfold up
  split <;> omega
theorem rE {a : Nat} (h : a ≤ 1000000000) : wi0 .i64 ((a : Int) + 1) = ((a + 1 : Nat) : Int) := by
 rw [jb (by omega) (by omega)]; omega
section
variable {R10 : (List (gH × (List (ByteArray × Bool)))) × (List gG) × (List (gH × (List gG))) × (List (ByteArray × (List gG))) × (List gI) × Int} {sz : gH → Nat}
theorem GM (c : ∀ r, ∃ q, js R10.1 R10.2.1 R10.2.2.1 R10.2.2.2.1 R10.2.2.2.2.1 R10.2.2.2.2.2 r = some q ∧ q.length = sz r) : ∀ (a : List gH) (i : Nat) {K : List gH} {h n : gH → Nat} {m : Nat}, 1 ≤ i → ue K h n m → m + a.length ≤ 1000000000 →
  ky R10 a i (kH K (pA h n sz)) = some (kH (a.foldl (ins gO) K) (pA h (fun r => n r + jl a r) sz)) ∧ ue (a.foldl (ins gO) K) h (fun r => n r + jl a r) (m + a.length)
 | [], i, K, h, n, m, g, H, hm => ⟨by rw [ky]; rfl, H⟩
 | x :: a, i, K, h, n, m, g, H, hm => by
  obtain ⟨q, l, j⟩ := c x
  obtain ⟨g1, g2⟩ := H.get sz x
  have H1 := H.H5 x
  obtain ⟨e, H2⟩ := GM c a (i + 1) (by omega) H1 (by simp at hm; omega)
  have k : (fun r => up n x r + jl a r) = fun r => n r + jl (x :: a) r := by
   funext r
   unfold up jl
   rw [ch]
   by_cases b : r = x
   ·subst b; simp only [bj, gP]; omega
   ·have : ¬ gO x r = true := fun e => b (gP.1 e).symm
    simp [b, this]
  rw [k] at e H2
  refine ⟨?_, by rw [dp]; have := H2; rwa [show m + 1 + a.length = m + (x :: a).length by simp; omega] at this⟩
  rw [ky]
  have d : ((i : Int) == 0) = false := by simp; omega
  rw [d]
  simp only [ai, aY, aa, l, g1, g2]
  rw [ye gP H.nd, dp, ← e]
  congr 1
  refine qH fun r _ => ?_
  have hle := (H.le x).2
  by_cases b : r = x
  ·subst b
   rw [an rfl, rE (by simp at hm; omega)]
   simp [pA, up, j]
  ·rw [ak b]; simp [pA, up, b]
theorem H6 (b : ∀ r, ∃ q, js R10.1 R10.2.1 R10.2.2.1 R10.2.2.2.1 R10.2.2.2.2.1 R10.2.2.2.2.2 r = some q ∧ q.length = sz r) (x : gH) (a : List gH) {K : List gH} {h n : gH → Nat} {m : Nat} (H : ue K h n m) (hm : m + 1 + a.length ≤ 1000000000) :
  ky R10 (x :: a) 0 (kH K (pA h n sz)) = some (kH ((x :: a).foldl (ins gO) K) (pA (up h x) (fun r => n r + jl a r) sz)) ∧ ue ((x :: a).foldl (ins gO) K) (up h x) (fun r => n r + jl a r) (m + 1 + a.length) := by
 obtain ⟨q, g, d⟩ := b x
 obtain ⟨g1, g2⟩ := H.get sz x
 have H1 := H.Ie x
 obtain ⟨e, H2⟩ := GM b a 1 (by omega) H1 (by omega)
 refine ⟨?_, H2⟩
 rw [ky]
 simp only [Int.natCast_zero, Int.cast_ofNat_Int, cg, bj, aa, g, g1, g2]
 rw [ye gP H.nd, dp, ← e]
 congr 1
 refine qH fun r _ => ?_
 have hle := (H.le x).1
 by_cases c : r = x
 ·subst c
  rw [an rfl, rE (by omega)]
  simp [pA, up, d]
 ·rw [ak c]; simp [pA, up, c]
def mD (c : gG) : List gH := c.Head :: je c
theorem wZ (c : gG) : (je c).length ≤ 2 := by unfold je; split <;> (try split) <;> simp
theorem HL (a : ∀ r, ∃ q, js R10.1 R10.2.1 R10.2.2.1 R10.2.2.2.1 R10.2.2.2.2.1 R10.2.2.2.2.2 r = some q ∧ q.length = sz r) : ∀ (xs : List gG) {K : List gH} {h n : gH → Nat} {m : Nat}, (∀ c ∈ xs, iC c = true) → ue K h n m → m + 3 * xs.length ≤ 1000000000 →
  ∃ K' g, lh R10 xs (kH K (pA h n sz)) = lh R10 [] (kH K' (pA (fun r => h r + jl (jT xs) r) (fun r => n r + jl (oR xs) r) sz)) ∧ (∀ r, r ∈ K' ↔ r ∈ K ∨ ∃ c ∈ xs, r ∈ mD c) ∧ ue K' (fun r => h r + jl (jT xs) r) (fun r => n r + jl (oR xs) r) g ∧ K'.length ≤ K.length + 3 * xs.length
 | [], K, h, n, m, b, H, hm => ⟨K, m, rfl, fun r => by simp, H, by simp⟩
 | c :: xs, K, h, n, m, b, H, hm => by
  have p := wZ c
  simp only [aq] at hm
  obtain ⟨e, H1⟩ := H6 a c.Head (je c) H (by omega)
  obtain ⟨K', g, i, hk, H2, l⟩ := HL a xs (fun c j => b c (.tail _ j)) H1 (by omega)
  have k : (fun r => up h c.Head r + jl (jT xs) r) = fun r => h r + jl (jT (c :: xs)) r := by
   funext r
   unfold up jl jT
   rw [aC, ch]
   by_cases d : r = c.Head
   ·subst d; simp only [bj, gP]; omega
   ·have : ¬ gO c.Head r = true := fun e => d (gP.1 e).symm
    simp [d, this]
  have o : (fun r => n r + jl (je c) r + jl (oR xs) r) = fun r => n r + jl (oR (c :: xs)) r := by
   funext r
   unfold jl oR
   rw [cv, List.countP_append]; omega
  rw [k, o] at i H2
  refine ⟨K', g, ?_, fun r => ?_, H2, ?_⟩
  ·conv => lhs; rw [lh]
   rw [DM (b c (.head _)), aa]
   rw [show c.Head :: je c = c.Head :: je c from rfl, e, aa, i]
  ·rw [hk, vY]
   simp [mD, or_assoc]
  ·have := tG (c.Head :: je c) K
   simp only [aq] at this ⊢
   omega
end
theorem Aa {lt : gT → gT → Prop} (c : ∀ x, ¬ lt x x) (has : ∀ x y z, lt x y → lt y z → lt x z) : ∀ {a b : List gT}, a.Perm b → a.Pairwise lt → b.Pairwise lt → a = b
 | [], b, h, _, _ => (List.nil_perm.1 h).symm
 | x :: a, b, h, j, k => by
  cases b with
  | nil => exact absurd (List.perm_nil.1 h) (by simp)
  | cons y b =>
   have g : x = y := by
    have d : x ∈ y :: b := h.mem_iff.1 (.head _)
    have i : y ∈ x :: a := h.mem_iff.2 (.head _)
    rcases aj.1 d with e | d
    ·exact e
    rcases aj.1 i with e | i
    ·exact e.symm
    exact absurd (has _ _ _ ((bY.1 j).1 y i) ((bY.1 k).1 x d)) (c _)
   subst g
   rw [Aa c has ((List.perm_cons x).1 h) (bY.1 j).2 (bY.1 k).2]
theorem FY {K S : List gH} (A : K.Nodup) (E : S.Pairwise (fun a b => oX a b = true)) (hm : ∀ r, r ∈ K ↔ r ∈ S) (h n sz : gH → Nat) (J : K.length ≤ 1000000000) :
  xq 56 (fun (x : (gT × gT)) => jr x.1 x.2) (kH K (pA h n sz)) = some (S.map (pA h n sz)) := by
 unfold xq
 rw [an (by simp only [kH, bQ]; exact ⟨by omega, bw J (by decide)⟩)]
 refine yB fun o k => ?_
 have l : (kH K (pA h n sz)).map (·.2) = K.map (pA h n sz) := by simp [kH, du]
 rw [l] at k
 have j : ∀ x y : gT, ∃ c, jr x y = some c ∧ (c < 0 ↔ oX x.gH y.gH = true) := fun x y => by
  obtain ⟨c, e, s⟩ := tl x.gH y.gH
  exact ⟨c, by rw [jr, e]; rfl, s⟩
 have m : ∀ x ∈ o, x = pA h n sz x.gH := fun x v => by
  obtain ⟨r, _, rfl⟩ := aF.1 (k.mem_iff.1 v); rfl
 have g := um (fun _ => True)
 have d : ∀ x y : gT, nj (fun (x : (gT × gT)) => jr x.1 x.2) x y = oX x.gH y.gH := fun x y => by
  obtain ⟨c, e, s⟩ := j x y
  unfold nj
  simp only [e]
  rw [aQ, ← s]; simp
 have ok : vi (fun (x : (gT × gT)) => jr x.1 x.2) o := by
  refine ⟨fun x _ y _ => ?_, fun x _ => ?_, fun x _ y _ z _ => ?_, fun x v y L h1 i => ?_, by rw [k.length_eq]; simp; omega⟩
  ·obtain ⟨c, e, _⟩ := j x y; exact ⟨c, e⟩
  ·rw [d, dQ]; exact g.irrefl _ trivial
  ·rw [d, d, d]; exact g.trans _ _ _ trivial trivial trivial
  ·rw [d] at h1 i
   rcases g.total x.gH y.gH trivial trivial with h | h | h
   ·rw [h1] at h; cases h
   ·rw [m x v, m y L, h]
   ·rw [i] at h; cases h
 rw [BI ok]
 congr 1
 have hp : (ms (fun (x : (gT × gT)) => jr x.1 x.2) o).Perm o := dB _ _
 have p : K.Perm S := (List.perm_ext_iff_of_nodup A (E.imp (fun {a b} h e => by subst e; exact g.irrefl a trivial h))).2 hm
 refine Aa (lt := fun a b => oX a.gH b.gH = true) (fun x => g.irrefl _ trivial) (fun x y z => g.trans _ _ _ trivial trivial trivial) (hp.trans (k.trans (p.map _))) ?_ (by rw [ct]; exact E)
 have t : (ms (fun (x : (gT × gT)) => jr x.1 x.2) o).Nodup := by
  rw [(hp.trans k).nodup_iff, List.Nodup, ct]
  exact A.imp (fun {a b} q e => q (ay gT.gH e))
 have u : (ms (fun (x : (gT × gT)) => jr x.1 x.2) o).Pairwise (fun a b => (!nj (fun (x : (gT × gT)) => jr x.1 x.2) b a) = true) := by
  refine sW (P := fun _ => True) (fun a b c _ _ _ h1 i => ?_) (fun a b _ _ => ?_) o (fun _ _ => trivial)
  ·rw [d] at h1 i ⊢
   rw [da, dQ] at h1 i ⊢
   intro w
   rcases g.total b.gH c.gH trivial trivial with h | h | h
   ·exact h1 (g.trans _ _ _ trivial trivial trivial h w)
   ·rw [h] at h1; exact h1 w
   ·exact i h
  ·rw [d, d]
   cases h1 : oX b.gH a.gH with
   | false => simp
   | true =>
    cases i : oX a.gH b.gH with
    | false => simp
    | true => exact absurd (g.trans _ _ _ trivial trivial trivial h1 i) (g.irrefl _ trivial)
 refine (u.and t).imp_of_mem (fun {a b} G I h => ?_)
 rw [d, da, dQ] at h
 rcases g.total a.gH b.gH trivial trivial with h1 | h1 | h1
 ·exact h1
 ·refine absurd ?_ h.2
  rw [m a (hp.mem_iff.1 G), m b (hp.mem_iff.1 I), h1]
 ·exact absurd h1 h.1
theorem EQ {c : gG} (h : iC c = true) : s6 c = some (mD c) := by
 unfold s6 mD je
 rw [rC, h]
 simp only [aa, bn, ai, aY]
 by_cases h1 : c.Kind = 1
 ·simp [h1]
 ·by_cases a : c.Kind = 4
  ·simp [a]
  ·simp [h1, a]
theorem FB (r : gH) (d : gT) : ∀ (xs : List gG) (h n : Nat), (∀ c ∈ xs, iC c = true) → h + xs.length ≤ 1000000000 → n + 2 * xs.length ≤ 1000000000 →
  lk r xs (⟨d.gH, (h : Int), (n : Int), d.qW⟩ : gT) = some (⟨d.gH, ((h + jl (jT xs) r : Nat) : Int), ((n + jl (oR xs) r : Nat) : Int), d.qW⟩ : gT)
 | [], h, n, _, _, _ => by rw [lk]; rfl
 | c :: xs, h, n, k, w, x => by
  simp only [aq] at w x
  have hk := vJ (k c (.head _))
  have s : jl (jT (c :: xs)) r = jl (jT xs) r + (if gO c.Head r = true then 1 else 0) := by
   unfold jl jT
   rw [aC, ch]
  have t : jl (oR (c :: xs)) r = jl (je c) r + jl (oR xs) r := by
   unfold jl oR
   rw [cv, List.countP_append]
  have u : jl (je c) r = (if (decide (c.Kind > 1) && gO c.B r) = true then 1 else 0) + (if ((c.Kind == 4) && gO c.C r) = true then 1 else 0) := by
   unfold jl je
   by_cases h1 : c.Kind = 1
   ·simp [h1]
   ·by_cases j : c.Kind = 4
    ·rw [ak h1, an j, ch, ch, List.countP_nil]
     simp [j]; omega
    ·have : c.Kind > 1 := by omega
     rw [ak h1, ak j, ch, List.countP_nil]
     simp [this, j]
  rw [lk]
  have key : ∀ (g i : Nat), g ≤ h + 1 → i ≤ n + 2 → lk r xs (⟨d.gH, (g : Int), (i : Int), d.qW⟩ : gT) = some (⟨d.gH, ((g + jl (jT xs) r : Nat) : Int), ((i + jl (oR xs) r : Nat) : Int), d.qW⟩ : gT) := fun g i a b => FB r d xs g i (fun c v => k c (.tail _ v)) (by omega) (by omega)
  rw [s, t, u]
  have w1 : wi0 .i64 ((h : Int) + 1) = ((h + 1 : Nat) : Int) := rE (by omega)
  have w2 : wi0 .i64 ((n : Int) + 1) = ((n + 1 : Nat) : Int) := rE (by omega)
  have y : wi0 .i64 (((n + 1 : Nat) : Int) + 1) = ((n + 2 : Nat) : Int) := rE (by omega)
  generalize gO c.Head r = q
  generalize decide (c.Kind > 1) = l
  generalize (c.Kind == 4) = m
  generalize gO c.B r = o
  generalize gO c.C r = p
  cases q <;> cases l <;> cases m <;> cases o <;> cases p <;> simp only [ai, aY, bj, aa, w1, w2, y, Bool.and_true, Bool.and_false, eU, Bool.false_and, Bool.and_self] <;> rw [key _ _ (by omega) (by omega)] <;> congr 3 <;> omega
theorem Fu {F : List gI} {s : List gG} {sz : gH → Nat} (g : ∀ c ∈ s, iC c = true) (j : s.length ≤ 100000000) (a : ∀ r, ∃ q, oM F r = some q ∧ q.length = sz r) : ∀ (b : List gH) (acc : List gT), acc.length + b.length ≤ 1000000000 →
  nv F s b acc = some (acc ++ b.map (pA (jl (jT s)) (jl (oR s)) sz))
 | [], acc, _ => by rw [nv]; simp
 | r :: b, acc, h => by
  simp only [aq] at h
  obtain ⟨q, i, d⟩ := a r
  rw [nv, i]
  simp only [aa]
  rw [show (⟨r, 0, 0, (q.length : Int)⟩ : gT) = ⟨(⟨r, 0, 0, (q.length : Int)⟩ : gT).gH, ((0 : Nat) : Int), ((0 : Nat) : Int), (⟨r, 0, 0, (q.length : Int)⟩ : gT).qW⟩ from rfl, FB r _ s 0 0 g (by omega) (by omega)]
  simp only [aa, cJ]
  rw [jt (by simp; omega) (by simp; omega), aa, Fu g j a b _ (by simp; omega), ar, d]
  rfl
theorem FH {F : List gI} {s : List gG} : ∀ (xs : List gG) (acc : List gH), (∀ c ∈ xs, iC c = true) → acc.length + 3 * xs.length ≤ 1000000000 → mi F s xs acc = mi F s [] (acc ++ xs.flatMap mD)
 | [], acc, _, _ => by simp
 | c :: xs, acc, a, d => by
  simp only [aq] at d
  have g := wZ c
  have h : (mD c).length ≤ 3 := by simp [mD]; omega
  conv => lhs; rw [mi]
  rw [EQ (a c (.head _)), aa, jt (by omega) (by omega), aa, FH xs _ (fun c b => a c (.tail _ b)) (by simp; omega), ar, cv]
theorem B3 {c : gG} (h : iC c = true) : ∀ r ∈ mD c, iV r = true := by
 unfold iC at h
 rw [aH] at h
 obtain ⟨i, h⟩ := h
 intro r a
 rcases aj.1 a with rfl | a
 ·exact i
 unfold je at a
 by_cases h1 : c.Kind = 1
 ·simp [h1] at a
 ·by_cases b : c.Kind = 4
  ·simp [b] at a h
   rcases a with rfl | rfl
   ·exact h.1.1.1.1
   ·exact h.1.1.1.2
  ·rw [ak h1, ak b, au] at a
   subst a
   by_cases d : c.Kind = 2
   ·simp [d] at h; exact h.1.1.1
   ·by_cases g : c.Kind = 3
    ·simp [g] at h; exact h.1.1.1.1
    ·simp [h1, d, g, b] at h
theorem yR : ∀ s : List gG, (s.flatMap mD).length ≤ 3 * s.length
 | [] => by simp
 | c :: s => by
  have h1 := wZ c
  have a := yR s
  have b : (mD c).length = 1 + (je c).length := by simp [mD]; omega
  rw [cv, ag, aq]
  omega
structure H8 (l : List gG) (s : List gG) (S : List gH) (sz : gH → Nat) : Prop where
 set : sP l s
 Hi : S.Pairwise (fun a b => oX a b = true)
 mem : ∀ r, r ∈ S ↔ ∃ c ∈ s, r ∈ mD c
 size : ∀ r, ∃ L : List ByteArray, L.Nodup ∧ sz r = L.length ∧ ∀ w, w ∈ L ↔ jE s ⟨r, w⟩
def zc (s : List gG) (S : List gH) (sz : gH → Nat) : List gT := S.map (pA (jl (jT s)) (jl (oR s)) sz)
theorem vN (l : List gG) (Y : l.length ≤ 30000) : ∃ s S sz, H8 l s S sz ∧ s.length ≤ l.length ∧ S.length ≤ 3 * l.length ∧ kx l = some (zc s S sz) ∧ uB l = some (zc s S sz) ∧ nl l = some s ∧ nT l = some s := by
 obtain ⟨s, J, j⟩ := EK l (by omega)
 obtain ⟨s2, L, G⟩ := zr l (by omega)
 obtain rfl : s2 = s := kZ.unique pF G j
 obtain ⟨C, T, I, ws, n, O, m1, d, y⟩ := Hz l (by omega)
 obtain ⟨C2, F, P, g, p⟩ := F4 l Y
 have x : ∀ c, c ∈ C2 ↔ c ∈ C := fun c => by rw [d, p]
 have M : xA (jE C) F := ⟨g.1, fun f => (g.2 f).trans (jE.congr x f)⟩
 have i : SM C := by unfold SM; omega
 have a1 := FU M i
 have k : ∀ c ∈ s2, iC c = true := fun c v => ((j.2 c).1 v).2
 have b : s2.length ≤ l.length := kN pF j
 have A : ∀ r, ∃ q, js (mm T) C I ws [] n r = some q ∧ q.length = (jj (kB T r)).length := fun r => ⟨_, vG i.small m1.right m1.uG C I ws [] n r, rfl⟩
 have E : ∀ r, ∃ q, oM F r = some q ∧ q.length = (jj (kB T r)).length := fun r => ⟨_, BT m1 M (by omega) r, rfl⟩
 have W : (s2.flatMap mD).length ≤ 3 * s2.length := by
  exact yR s2
 obtain ⟨S, Q, o⟩ := FO (s2.flatMap mD) (by omega)
 have a : ∀ r, r ∈ S ↔ ∃ c ∈ s2, r ∈ mD c := fun r => by
  rw [o.2, dH]
  exact ⟨fun h => h.1, fun h => ⟨h, let ⟨c, v, Z⟩ := h; B3 (k c v) r Z⟩⟩
 have u : S.length ≤ 3 * l.length := bw (kN (um _) o) (by omega)
 refine ⟨s2, S, fun r => (jj (kB T r)).length, ⟨j, o.1, a, fun r => ⟨jj (kB T r), (ek (by unfold jj; exact dB _ _)).2 (uR m1.uG.nd r), rfl, fun w => by
  rw [pU, ← q7 (f := ⟨r, w⟩) m1.uG.keys, m1.all]
  exact jE.congr (fun c => by rw [d, j.2]) _⟩⟩, b, u, ?_, ?_, J, L⟩
 ·unfold kx
  rw [J, aa, O, aa]
  obtain ⟨K', m', R, U, H, t⟩ := HL (R10 := (mm T, C, I, ws, [], n)) A s2 (K := []) (h := fun _ => 0) (n := fun _ => 0) (m := 0) k ⟨by simp, fun r _ => ⟨rfl, rfl⟩, fun r => ⟨aJ _, aJ _⟩⟩ (by omega)
  rw [show ([] : List (gH × gT)) = kH [] (pA (fun _ => 0) (fun _ => 0) fun r => (jj (kB T r)).length) from rfl, R, lh, jG, aa]
  rw [FY H.nd o.1 (fun r => by rw [U, a]; simp) _ _ _ (by simp at t; omega), aa]
  simp only [cJ]
  rfl
 ·unfold uB
  rw [L, aa, P, aa, FH s2 [] k (by simp; omega), aU, mi, Q, aa, Fu k (by omega) E S [] (by simp; omega)]
  rfl
def yJ : List gT → gT → gT
 | [], b => b
 | x :: xs, b => if x.lF > b.lF then yJ xs x else yJ xs b
theorem zk : ∀ (xs : List gT) (b : gT), lH xs b = some (yJ xs b, true)
 | [], b => rfl
 | x :: xs, b => by
  rw [lH, yJ]
  by_cases h : x.lF > b.lF
  ·rw [an (by simpa using h), an h, zk]
  ·rw [ak (by simpa using h), ak h, zk]
def rS (s : List gG) (r : gH) : Bool := s.all fun c => !(gO c.Head r) || c.Kind == 1
def vL (s : List gG) (w : gT) : Bool := decide (w.lG > 0) && (w.lF == 0) && rS s w.gH
def qQ (s : List gG) (r : gH) : Nat := s.countP fun c => gO c.Head r && (c.Kind == 1)
theorem Hn (s : List gG) (r : gH) : qQ s r ≤ jl (jT s) r := by
 unfold qQ jl jT
 rw [List.countP_map]
 exact List.countP_mono_left fun c _ h => by simp at h ⊢; exact h.1
theorem BJ (r : gH) : ∀ s : List gG, (qQ s r = jl (jT s) r) ↔ rS s r = true
 | [] => by simp [qQ, jl, jT, rS]
 | c :: s => by
  have h1 := Hn s r
  have ih := BJ r s
  have a : qQ (c :: s) r = qQ s r + (if (gO c.Head r && (c.Kind == 1)) = true then 1 else 0) := by unfold qQ; rw [ch]
  have b : jl (jT (c :: s)) r = jl (jT s) r + (if gO c.Head r = true then 1 else 0) := by unfold jl jT; rw [aC, ch]
  have d : rS (c :: s) r = ((!(gO c.Head r) || c.Kind == 1) && rS s r) := rfl
  rw [a, b, d]
  cases gO c.Head r <;> cases (c.Kind == 1) <;> simp <;> first | exact ih | omega
theorem Bn (l : List gG) : ∀ (xs : List gG) (K : List gH) (f : gH → Nat) (m : Nat), K.Nodup → (∀ r, r ∉ K → f r = 0) → (∀ r, f r ≤ m) → m + xs.length ≤ 1000000000 →
  ∃ K' : List gH, (∀ r, r ∉ K' → f r + qQ xs r = 0) ∧ jO l xs (kH K (fun r => (f r : Int))) = jO l [] (kH K' (fun r => ((f r + qQ xs r : Nat) : Int)))
 | [], K, f, m, d, b, _, _ => ⟨K, fun r a => by simp [b r a, qQ], rfl⟩
 | c :: xs, K, f, m, d, b, hm, j => by
  simp only [aq] at j
  by_cases hk : c.Kind = 1
  ·obtain ⟨K', h1, g⟩ := Bn l xs (ins gO K c.Head) (up f c.Head) (m + 1) (xf gP d c.Head) (fun r a => by
    rw [xm gP, not_or] at a
    rw [up, ak a.2]; exact b r a.1) (fun r => by have := hm r; unfold up; split <;> omega) (by omega)
   have e : ∀ r, up f c.Head r + qQ xs r = f r + qQ (c :: xs) r := fun r => by
    unfold up qQ
    rw [ch]
    by_cases a : r = c.Head
    ·subst a; simp [hk, gP.2]; omega
    ·have : ¬ gO c.Head r = true := fun e => a (gP.1 e).symm
     simp [a, this]
   refine ⟨K', fun r a => by rw [← e]; exact h1 r a, ?_⟩
   conv => lhs; rw [jO]
   rw [an (by simp [hk])]
   have i : jh gO (kH K (fun r => (f r : Int))) c.Head 0 = f c.Head := by
    unfold jh
    rw [xV gP]
    by_cases h : c.Head ∈ K
    ·rw [an h]; rfl
    ·rw [ak h, b _ h]; rfl
   have k := hm c.Head
   rw [i, rE (by omega), ye gP d]
   rw [show (kH (ins gO K c.Head) fun r => if r = c.Head then ((f c.Head + 1 : Nat) : Int) else (f r : Int)) = kH (ins gO K c.Head) (fun r => ((up f c.Head r : Nat) : Int)) from qH fun r _ => by
    unfold up; by_cases h : r = c.Head <;> simp [h], g]
   rw [show (fun r => ((up f c.Head r + qQ xs r : Nat) : Int)) = fun r => ((f r + qQ (c :: xs) r : Nat) : Int) from funext fun r => by rw [e]]
  ·obtain ⟨K', h1, g⟩ := Bn l xs K f m d b hm (by omega)
   have e : ∀ r, qQ (c :: xs) r = qQ xs r := fun r => by
    unfold qQ
    rw [ch]; simp [hk]
   refine ⟨K', fun r a => by rw [e]; exact h1 r a, ?_⟩
   conv => lhs; rw [jO]
   rw [ak (by simp [hk]), g]
   simp only [e]
theorem Bo (s : List gG) {K : List gH} {f : gH → Nat} (b : ∀ r, f r = qQ s r) (c : ∀ r, r ∉ K → f r = 0) : ∀ (ws : List gT) (acc : List gH), (∀ w ∈ ws, w.lG = (jl (jT s) w.gH : Nat)) → acc.length + ws.length ≤ 1000000000 →
  kR (kH K (fun r => (f r : Int))) ws acc = some (acc ++ (ws.filter (vL s)).map (·.gH))
 | [], acc, _, _ => by rw [kR]; simp
 | w :: ws, acc, hw, i => by
  simp only [aq] at i
  have g : jh gO (kH K (fun r => (f r : Int))) w.gH 0 = qQ s w.gH := by
   unfold jh
   rw [xV gP, ← b]
   by_cases h : w.gH ∈ K
   ·rw [an h]; rfl
   ·rw [ak h, c _ h]; rfl
  have hp : ((qQ s w.gH : Int) == w.lG) = rS s w.gH := by
   rw [hw w (.head _), aQ, ← BJ, gn]; exact Int.ofNat_inj
  rw [kR, g, hp]
  rw [dE]
  have e : vL s w = (decide (w.lG > 0) && (w.lF == 0) && rS s w.gH) := rfl
  have d : (jw 32 acc [w.gH]) = some (acc ++ [w.gH]) := jt (by simp; omega) (by simp; omega)
  have i1 := Bo s b c ws (acc ++ [w.gH]) (fun w a => hw w (.tail _ a)) (by simp; omega)
  have i2 := Bo s b c ws acc (fun w a => hw w (.tail _ a)) (by omega)
  rw [e]
  cases decide (w.lG > 0) <;> cases (w.lF == 0) <;> cases rS s w.gH <;> simp [d, i1, i2]
theorem DL (l : List gG) {s : List gG} {S : List gH} {sz : gH → Nat} (b : nl l = some s) (d : s.length ≤ 30000) (c : S.length ≤ 100000) (hw : kx l = some (zc s S sz)) : mf l = some (((zc s S sz).filter (vL s)).map (·.gH)) := by
 unfold mf
 rw [b, aa]
 obtain ⟨K', h1, a⟩ := Bn l s [] (fun _ => 0) 0 (by simp) (fun _ _ => rfl) (fun _ => aJ _) (by omega)
 rw [show ([] : List (gH × Int)) = kH [] (fun r => (((fun _ => 0) r : Nat) : Int)) from rfl, a, jO, hw, aa]
 rw [Bo s (f := fun r => 0 + qQ s r) (fun r => by omega) h1 (zc s S sz) [] (fun w hw => by obtain ⟨r, _, rfl⟩ := aF.1 hw; rfl) (by simp [zc]; omega)]
 rfl
theorem Fc {α : Type} {b : Bool} (h : b = true) (k : Unit → Option α) : (mK b).bind k = k () := by subst h; rfl
def FC : List gT → gT × Bool
 | [] => ((⟨(⟨zS, zS⟩ : gH), 0, 0, 0⟩ : gT), false)
 | x :: xs => (yJ xs x, true)
theorem Gh (l : List gG) {ws : List gT} (hw : kx l = some ws) (b : ws.length ≤ 1000000000) : pH l = some (FC ws) := by
 unfold pH
 rw [hw, aa]
 cases ws with
 | nil => rfl
 | cons x xs =>
  have a : (((x :: xs).length : Int) == 0) = false := by simp; omega
  rw [a]
  simp only [ai, aY]
  rw [show kM (x :: xs) 0 = some x from rfl, aa]
  refine (Fc (by simp; omega) _).trans (zk xs x)
open Classical in
noncomputable def tb (had : List gI) (c : gG) (N : List ByteArray) (w : ByteArray) : Bool := decide (kw had c N w)
theorem tI {a : List gI} {c : gG} {N : List ByteArray} {w : ByteArray} : tb a c N w = true ↔ kw a c N w := by unfold tb; simp
noncomputable def qT (b : List gI) (N : List ByteArray) (c : gG) : List ByteArray → List gI → List gI
 | [], a => a
 | w :: ws, a => qT b N c ws (if (tb b c N w && !(mW iy b ⟨c.Head, w⟩) && !(mW iy a ⟨c.Head, w⟩)) = true then a ++ [⟨c.Head, w⟩] else a)
noncomputable def ol (b : List gI) (N : List ByteArray) : List gG → List gI → List gI
 | [], a => a
 | c :: cs, a => ol b N cs (qT b N c N a)
theorem Ep (F : List gI) (r : gH) (w : ByteArray) : nm F r w = some (mW iy F ⟨r, w⟩) := by
 obtain ⟨b, e, a⟩ := rn F r w
 rw [e]
 congr 1
 rw [aQ, a, jM iI]
theorem Fe (a : List gI) (c : gG) (N : List ByteArray) (w : ByteArray) : qm a c N w = some (tb a c N w) := by
 obtain ⟨b, e, d⟩ := Cy a c N w
 rw [e]
 congr 1
 rw [aQ, d, tI]
theorem yt (b : List gI) (N : List ByteArray) (c : gG) : ∀ (ws : List ByteArray) (a : List gI), (qT b N c ws a).length ≤ a.length + ws.length
 | [], a => aJ _
 | w :: ws, a => by
  rw [qT]
  refine bw (yt b N c ws _) ?_
  split <;> simp <;> omega
theorem yD (b : List gI) (N : List ByteArray) (c : gG) : ∀ (ws : List ByteArray) (a : List gI), a.length + ws.length ≤ 1000000000 → nK b c N ws a = some (qT b N c ws a)
 | [], a, _ => rfl
 | w :: ws, a, g => by
  simp only [aq] at g
  rw [nK, qT, Fe, Ep, Ep]
  have d : jw 48 a [(⟨c.Head, w⟩ : gI)] = some (a ++ [⟨c.Head, w⟩]) := jt (by simp; omega) (by simp; omega)
  have i1 := yD b N c ws (a ++ [⟨c.Head, w⟩]) (by simp; omega)
  have i2 := yD b N c ws a (by omega)
  cases tb b c N w <;> cases mW iy b ⟨c.Head, w⟩ <;> cases mW iy a ⟨c.Head, w⟩ <;> simp [d, i1, i2]
theorem Fy (b : List gI) (N : List ByteArray) : ∀ (cs : List gG) (a : List gI), a.length + cs.length * N.length ≤ 1000000000 → lE b N cs a = some (ol b N cs a)
 | [], a, _ => rfl
 | c :: cs, a, d => by
  simp only [aq, aW, fL] at d
  have h1 := yt b N c N a
  rw [lE, yD b N c N a (by omega), aa, Fy b N cs _ (by omega), ol]
def oz (rd : Int) (l : List gI) : List (gI × Int) := l.map fun f => (f, rd)
theorem zZ {H : List (gI × Int)} {f : gI} : (ij iy H f).isSome = mW iy (H.map (·.1)) f := by
 rw [aQ, jM iI]
 rcases nu f H with h | ⟨A, x, B, rfl, a⟩
 ·rw [nU iI h]
  simp only [Option.isSome_none, ai, aF, false_iff]
  rintro ⟨p, hp, e⟩
  exact h p hp e
 ·rw [lx iI a]; simp
theorem FN (rd : Int) (b : List gI) (N : List ByteArray) (c : gG) {H : List (gI × Int)} (hH : H.map (·.1) = b) {br : ByteArray → Bool} (d : ∀ w, br w = tb b c N w) : ∀ (ws : List ByteArray) (a : List gI),
  nf rd ((ws.filter br).map fun w => (⟨c.Head, w⟩ : gI)) (H ++ oz rd a) = some (H ++ oz rd (qT b N c ws a))
 | [], a => rfl
 | w :: ws, a => by
  have hk : (H ++ oz rd a).map (·.1) = b ++ a := by rw [aP, hH]; simp [oz, du]
  have i1 := FN rd b N c hH d ws
  rw [dE, qT, d]
  cases h1 : tb b c N w with
  | false => simp [i1]
  | true =>
   simp only [bj, aC, eU]
   rw [nf, zZ, hk]
   have e : mW iy (b ++ a) ⟨c.Head, w⟩ = (mW iy b ⟨c.Head, w⟩ || mW iy a ⟨c.Head, w⟩) := by simp [mW]
   rw [e]
   cases h : mW iy b ⟨c.Head, w⟩ with
   | true => simp [i1]
   | false =>
    cases i : mW iy a ⟨c.Head, w⟩ with
    | true => simp [i1]
    | false =>
     simp only [Bool.or_self, bT, Bool.and_self, bj]
     rw [sv iI (fun p hp g => by
      have : mW iy (b ++ a) ⟨c.Head, w⟩ = true := (jM iI _ _).2 (by rw [← hk, ← g]; exact aF.2 ⟨p, hp, rfl⟩)
      rw [e, h, i] at this; cases this), ar]
     rw [show oz rd a ++ [((⟨c.Head, w⟩ : gI), rd)] = oz rd (a ++ [⟨c.Head, w⟩]) by simp [oz]]
     exact i1 _
theorem uE (b : List gI) (N : List ByteArray) (c : gG) : ∀ (ws : List ByteArray) (a : List gI), qT b N c (ws.filter (tb b c N)) a = qT b N c ws a
 | [], a => rfl
 | w :: ws, a => by
  rw [dE, qT]
  cases h : tb b c N w with
  | false => simp [uE]
  | true => simp only [bj, qT, h]; rw [uE]
theorem DA {N : List ByteArray} (b : N.Nodup) {a : ByteArray} (g : a ∈ N) {p : ByteArray → Bool} (hp : ∀ w, p w = true ↔ w = a) : N.filter p = [a] := by
 obtain ⟨A, B, rfl⟩ := dI g
 have c : ∀ w ∈ A, ¬ p w = true := fun w hw e => by
  have := (hp w).1 e; subst this
  exact (aG.1 b).2.2 w hw w (by simp) rfl
 have d : ∀ w ∈ B, ¬ p w = true := fun w hw e => by
  have := (hp w).1 e; subst this
  exact (bP.1 (aG.1 b).2.1).1 hw
 rw [fi, dE, an ((hp a).2 rfl), List.filter_eq_nil_iff.2 c, List.filter_eq_nil_iff.2 d]; rfl
structure AP (s : List gG) (N : List ByteArray) : Prop where
 right : ∀ c ∈ s, iC c = true
 names : sN N N
 nF : ∀ c ∈ s, c.Kind = 1 → c.ib ∈ N
 len : N.length ≤ 900000000
theorem Ft {s : List gG} {N : List ByteArray} (i : AP s N) (rd : Int) (b : List gI) {H : List (gI × Int)} (hH : H.map (·.1) = b) : ∀ (cs : List gG) (a : List gI), (∀ c ∈ cs, c ∈ s) →
  oy H N rd cs (H ++ oz rd a) = some (H ++ oz rd (ol b N cs a))
 | [], a, _ => rfl
 | c :: cs, a, k => by
  have d := k c (.head _)
  have m := i.right c d
  have hp : ∀ r w, (ij iy H (⟨r, w⟩ : gI)).isSome = true ↔ (⟨r, w⟩ : gI) ∈ b := fun r w => by rw [zZ, hH, jM iI]
  obtain ⟨names, j, e⟩ := Bm (f := fun (x : (gH × ByteArray)) => pI x.1 x.2 H) (p := fun x => (ij iy H (⟨x.1, x.2⟩ : gI)).isSome) (fun x => rfl) m N i.len
  obtain rfl : names = N := kZ.unique (sa _) j i.names
  have l : ∀ w, zQ c (fun x => (ij iy H (⟨x.1, x.2⟩ : gI)).isSome) names w = tb b c names w := fun w => by
   rw [aQ, tI]
   exact zn (fun r w => hp r w) names w
  rw [oy, e, aa, FN rd b names c hH l, aa, Ft i rd b hH cs _ (fun c h => k c (.tail _ h)), ol]
  congr 4
  by_cases h1 : c.Kind = 1
  ·rw [an h1]
   have g : ∀ w, tb b c names w = true ↔ w = c.ib := fun w => by
    rw [tI]
    unfold kw
    constructor
    ·rintro (h | h | h | h)
     ·exact h.2.symm
     ·exact absurd (h1.symm.trans h.1) (by decide)
     ·exact absurd (h1.symm.trans h.1) (by decide)
     ·exact absurd h1 h.1
    ·intro h; exact .inl ⟨h1, h.symm⟩
   rw [← uE b names c names a, DA (oW (sa _) (fun x n => ((j.2 x).1 n).2) j.1) (i.nF c d h1) g]
  ·rw [ak h1]
def qP : Nat → List (List gI) → List (gI × Int)
 | _, [] => []
 | i, a :: b => oz i a ++ qP (i + 1) b
theorem CK : ∀ (i : Nat) (c : List (List gI)) (b : List gI), qP i (c ++ [b]) = qP i c ++ oz ((i + c.length : Nat) : Int) b
 | i, [], b => by simp [qP]
 | i, a :: c, b => by
  rw [bt, qP, qP, CK (i + 1) c b, ar, aq, show i + 1 + c.length = i + (c.length + 1) by omega]
theorem vI : ∀ (i : Nat) (b : List (List gI)), (qP i b).map (·.1) = b.flatten
 | i, [] => rfl
 | i, a :: b => by rw [qP, aP, vI, bL]; simp [oz, du]
theorem wT (g : List gI) (N : List ByteArray) (c : gG) : ∀ (ws : List ByteArray) (d : List gI), (g ++ d).Nodup → (g ++ qT g N c ws d).Nodup ∧ ∀ f, f ∈ qT g N c ws d ↔ f ∈ d ∨ ∃ w ∈ ws, f = ⟨c.Head, w⟩ ∧ kw g c N w ∧ f ∉ g
 | [], d, h => ⟨h, fun f => by simp [qT]⟩
 | w :: ws, d, h => by
  rw [qT]
  by_cases m : (tb g c N w && !(mW iy g ⟨c.Head, w⟩) && !(mW iy d ⟨c.Head, w⟩)) = true
  ·rw [an m]
   simp only [aH, da, tI] at m
   obtain ⟨⟨h1, p⟩, q⟩ := m
   have k : (⟨c.Head, w⟩ : gI) ∉ g := fun hm => by rw [(jM iI _ _).2 hm] at p; cases p
   have n : (⟨c.Head, w⟩ : gI) ∉ d := fun hm => by rw [(jM iI _ _).2 hm] at q; cases q
   have o : (g ++ (d ++ [(⟨c.Head, w⟩ : gI)])).Nodup := by
    rw [← ar, aG]
    refine ⟨h, by simp, fun a l b r e => ?_⟩
    rw [au] at r
    subst r e
    rcases aA.1 l with l | l
    ·exact k l
    ·exact n l
   obtain ⟨g1, g2⟩ := wT g N c ws _ o
   refine ⟨g1, fun f => ?_⟩
   rw [g2, aA, au]
   constructor
   ·rintro ((h | h) | ⟨j, i, h⟩)
    ·exact .inl h
    ·subst h; exact .inr ⟨w, .head _, rfl, h1, k⟩
    ·exact .inr ⟨j, .tail _ i, h⟩
   ·rintro (h | ⟨j, i, h⟩)
    ·exact .inl (.inl h)
    ·rcases aj.1 i with rfl | i
     ·exact .inl (.inr h.1)
     ·exact .inr ⟨j, i, h⟩
  ·rw [ak m]
   obtain ⟨g1, g2⟩ := wT g N c ws _ h
   refine ⟨g1, fun f => ?_⟩
   rw [g2]
   constructor
   ·rintro (h | ⟨j, i, h⟩)
    ·exact .inl h
    ·exact .inr ⟨j, .tail _ i, h⟩
   ·rintro (h | ⟨j, i, h⟩)
    ·exact .inl h
    ·rcases aj.1 i with rfl | i
     ·obtain ⟨rfl, t, s⟩ := h
      refine .inl ?_
      refine dn fun hm => m ?_
      simp only [aH, da, tI]
      refine ⟨⟨t, ?_⟩, ?_⟩
      ·rw [dQ]; exact fun e => s ((jM iI _ _).1 e)
      ·rw [dQ]; exact fun e => hm ((jM iI _ _).1 e)
     ·exact .inr ⟨j, i, h⟩
theorem pD (b : List gI) (N : List ByteArray) : ∀ (cs : List gG) (a : List gI), (b ++ a).Nodup → (b ++ ol b N cs a).Nodup ∧ ∀ f, f ∈ ol b N cs a ↔ f ∈ a ∨ ∃ c ∈ cs, ∃ w ∈ N, f = ⟨c.Head, w⟩ ∧ kw b c N w ∧ f ∉ b
 | [], a, h => ⟨h, fun f => by simp [ol]⟩
 | c :: cs, a, h => by
  obtain ⟨i, a2⟩ := wT b N c N a h
  obtain ⟨j, k⟩ := pD b N cs _ i
  rw [ol]
  refine ⟨j, fun f => ?_⟩
  rw [k, a2]
  constructor
  ·rintro ((h | ⟨w, h⟩) | ⟨g, d, h⟩)
   ·exact .inl h
   ·exact .inr ⟨c, .head _, w, h⟩
   ·exact .inr ⟨g, .tail _ d, h⟩
  ·rintro (h | ⟨g, d, h⟩)
   ·exact .inl (.inl h)
   ·rcases aj.1 d with rfl | d
    ·exact .inl (.inr h)
    ·exact .inr ⟨g, d, h⟩
inductive oe (s : List gG) (N : List ByteArray) : List (List gI) → Prop where
 | nil : oe s N []
 | snoc {Ls : List (List gI)} : oe s N Ls → ol Ls.flatten N s [] ≠ [] → oe s N (Ls ++ [ol Ls.flatten N s []])
theorem oe.nd {s : List gG} {N : List ByteArray} {a : List (List gI)} (h : oe s N a) : a.flatten.Nodup := by
 induction h with
 | nil => simp
 | @snoc a _ _ ih =>
  have := (pD a.flatten N s [] (by simpa using ih)).1
  simpa using this
theorem oe.qk {s : List gG} {N : List ByteArray} (j : AP s N) {b : List (List gI)} (h : oe s N b) : ∀ f ∈ b.flatten, jE s f := by
 induction h with
 | nil => simp
 | @snoc b i _ ih =>
  intro f a
  rw [db, aA] at a
  rcases a with a | a
  ·exact ih f a
  ·simp only [bL, eL, aV] at a
   rcases ((pD b.flatten N s [] (by simpa using i.nd)).2 f).1 a with h | ⟨c, g, w, hw, rfl, d, _⟩
   ·cases h
   ·exact vC g (j.right c g) ih d
theorem oe.len {s : List gG} {N : List ByteArray} (d : AP s N) {a : List (List gI)} (h : oe s N a) : a.length ≤ a.flatten.length ∧ a.flatten.length ≤ s.length * s.length := by
 refine ⟨?_, ?_⟩
 ·induction h with
  | nil => simp
  | @snoc a _ b ih =>
   have : (ol a.flatten N s []).length ≠ 0 := fun e => b (bx.1 e)
   simp only [ag, dl, db, bL, eL, aV]
   omega
 ·rw [← qD s]
  exact iW h.nd (fun f c => (h.qk d f c).tR)
theorem yO {s : List gG} {N : List ByteArray} (k : AP s N) (d : s.length ≤ 30000) (o : s.length * N.length ≤ 900000000) : ∀ (n : Nat) (a : List (List gI)), oe s N a → s.length * s.length < n + a.flatten.length →
  ∃ Lf, oe s N Lf ∧ ol Lf.flatten N s [] = [] ∧ mS N s n (qP 0 a) (a.length : Int) = some (qP 0 Lf, (Lf.length : Int)) ∧ jS N s n a.flatten a = some Lf
 | 0, a, g, p => by have := (g.len k).2; omega
 | n + 1, a, g, p => by
  obtain ⟨t, u⟩ := g.len k
  have r : s.length * s.length ≤ 900000000 := dj d d
  have l := Ft k (a.length : Int) a.flatten (H := qP 0 a) (vI 0 a) s [] (fun c h => h)
  have m := Fy a.flatten N s [] (by simp; omega)
  rw [show oz (a.length : Int) [] = [] from rfl, aV] at l
  have hk : (qP 0 a).length = a.flatten.length := by rw [← vI 0 a, bQ]
  rw [mS, jS, l, m]
  simp only [aa]
  by_cases j : ol a.flatten N s [] = []
  ·refine ⟨a, g, j, ?_, ?_⟩
   ·rw [j]; simp [oz]
   ·rw [j]; simp
  ·have q : (ol a.flatten N s []).length ≠ 0 := fun e => j (bx.1 e)
   have i := oe.snoc g j
   obtain ⟨m1, m2⟩ := i.len k
   have b : (a ++ [ol a.flatten N s []]).flatten = a.flatten ++ ol a.flatten N s [] := by simp
   rw [b, ag] at m1 m2
   obtain ⟨Lf, g1, g2, g3, g4⟩ := yO k d o n _ i (by rw [b, ag]; omega)
   refine ⟨Lf, g1, g2, ?_, ?_⟩
   ·rw [ak (by simp [oz, hk]; omega)]
    rw [rE (by omega), ← g3, CK, cJ, ag, dl]
   ·rw [ak (by simp; omega)]
    rw [jt (by simp only [ag, dl] at *; omega) (by simp only [ag, dl] at *; omega), aa, jt (by omega) (by omega), aa, ← b]
    exact g4
def vx (s : List gG) : List ByteArray := s.flatMap fun c => [c.ib, c.Head.gU, c.B.gU, c.C.gU]
theorem AU : ∀ s : List gG, (vx s).length = 4 * s.length
 | [] => rfl
 | c :: s => by
  have := AU s
  unfold vx at this ⊢
  rw [cv, ag, this]; simp; omega
theorem Ap : ∀ (s : List gG) (acc : List ByteArray), acc.length + 4 * s.length ≤ 1000000000 → mZ s acc = oN (acc ++ vx s)
 | [], acc, _ => by rw [mZ]; simp [vx, sF]
 | c :: s, acc, h => by
  simp only [aq] at h
  rw [mZ, jt (by simp; omega) (by simp; omega), aa, Ap s _ (by simp; omega)]
  simp [vx]
structure xB (l s : List gG) (N : List ByteArray) (Lf : List (List gI)) : Prop where
 set : sP l s
 En : AP s N
 rounds : oe s N Lf
 closed : ol Lf.flatten N s [] = []
theorem Bp (l : List gG) (w : l.length ≤ 10000) : ∃ s N Lf, xB l s N Lf ∧ s.length ≤ l.length ∧ N.length ≤ 4 * s.length ∧ oJ l = some (qP 0 Lf, (Lf.length : Int)) ∧ qK l = some Lf ∧ nT l = some s ∧
  qK l = jS N s jq [] [] := by
 obtain ⟨s, p, d⟩ := EK l (by omega)
 obtain ⟨s2, k, i⟩ := zr l (by omega)
 obtain rfl : s2 = s := kZ.unique pF i d
 have j : s2.length ≤ l.length := kN pF d
 have v := AU s2
 obtain ⟨N, q, a⟩ := EA (vx s2) (by omega)
 obtain ⟨N2, r, g⟩ := Cv (vx s2) (by omega)
 obtain rfl : N2 = N := kZ.unique (sa _) g a
 have t : N2.length ≤ (vx s2).length := kN (sa _) a
 have n : ∀ c ∈ s2, iC c = true := fun c b => ((d.2 c).1 b).2
 have o : AP s2 N2 := ⟨n, ⟨a.1, fun x => ⟨fun h => ⟨h, ((a.2 x).1 h).2⟩, fun h => h.1⟩⟩, fun c b hk => (a.2 _).2 ⟨dH.2 ⟨c, b, by simp⟩, zf (n c b) hk⟩, by omega⟩
 have hmul : s2.length * N2.length ≤ 900000000 := bw (dj (show s2.length ≤ 10000 by omega) (show N2.length ≤ 40000 by omega)) (by decide)
 have u : s2.length * s2.length ≤ 100000000 := dj (show s2.length ≤ 10000 by omega) (show s2.length ≤ 10000 by omega)
 obtain ⟨Lf, g1, g2, g3, g4⟩ := yO o (by omega) hmul jq [] .nil (by rw [tM]; simp; omega)
 have m : qK l = jS N2 s2 jq [] [] := by
  unfold qK pJ
  rw [k, aa, yr s2 [] (by simp; omega), aU, show (s2.flatMap fun c => [c.ib, c.Head.gU, c.B.gU, c.C.gU]) = vx s2 from rfl, r, aa]
 refine ⟨s2, N2, Lf, ⟨d, o, g1, g2⟩, j, by omega, ?_, m.trans g4, k, m⟩
 unfold oJ sX
 rw [p, aa, aa, Ap s2 [] (by simp; omega), aU, q, aa]
 exact g3
theorem Bj {α : Type} {l : List α} {a : α} (b : l.Nodup) (h : ∀ x, x ∈ l ↔ x = a) : l = [a] := by
 cases l with
 | nil => exact absurd ((h a).2 rfl) (by simp)
 | cons x l =>
  have c := (h x).1 (.head _)
  subst c
  cases l with
  | nil => rfl
  | cons y l =>
   have d := (h y).1 (.tail _ (.head _))
   subst d
   exact absurd b (by simp)
theorem GG : sP [j1, j2] [j2, j1] := by
  refine ⟨by have : tY j2 j1 = true := by decide +kernel
             simp [this], fun c => ?_⟩
  constructor
  · intro h
    rcases aj.1 h with rfl | h
    · exact ⟨by simp, HJ⟩
    · rw [au] at h; subst h; exact ⟨by simp, H9⟩
  · rintro ⟨h, _⟩
    rcases aj.1 h with rfl | h
    · simp
    · rw [au] at h; subst h; simp
theorem HM : sP [j2] [j2] := ⟨by simp, fun c => ⟨fun h => ⟨h, by rw [au] at h; subst h; exact HJ⟩, fun h => h.1⟩⟩
theorem Hl {N : List ByteArray} (n : AP [j2, j1] N) (r : N.length ≤ 100000) (k : Nat) : jS N [j2, j1] (k + 3) [] [] = some [[fB], [fA]] := by
 have p : qd ∈ N := n.nF j2 (by simp) rfl
 have x := n.len
 have t : ol [] N [j2, j1] [] = [fB] := by
  obtain ⟨a, b⟩ := pD [] N [j2, j1] [] (by simp)
  refine Bj (by simpa using a) (fun f => ?_)
  rw [b]
  constructor
  ·rintro (h | ⟨c, j, w, hw, rfl, i, _⟩)
   ·cases h
   ·rcases i with h | h | h | h
    ·rcases aj.1 j with rfl | j
     ·rw [← h.2]; rfl
     ·rw [au] at j; subst j; exact absurd h.1 (by decide)
    ·cases h.2
    ·cases h.2.1
    ·obtain ⟨_, _, _, b, _, h, _⟩ := h; cases h
  ·rintro rfl
   exact .inr ⟨j2, by simp, qd, p, rfl, .inl ⟨rfl, rfl⟩, by simp⟩
 have u : ol [fB] N [j2, j1] [] = [fA] := by
  obtain ⟨a, b⟩ := pD [fB] N [j2, j1] [] (by simp)
  refine Bj (aG.1 a).2.1 (fun f => ?_)
  rw [b]
  constructor
  ·rintro (h | ⟨c, j, w, hw, rfl, i, m⟩)
   ·cases h
   ·rcases aj.1 j with rfl | j
    ·rcases i with h | h | h | h
     ·exact absurd (au.2 (by rw [← h.2]; rfl)) m
     ·exact absurd h.1 (by decide)
     ·exact absurd h.1 (by decide)
     ·exact absurd rfl h.1
    ·rw [au] at j; subst j
     rcases i with h | h | h | h
     ·exact absurd h.1 (by decide)
     ·have := ay gI.ib (au.1 h.2)
      simp only at this
      subst this; rfl
     ·exact absurd h.1 (by decide)
     ·exact absurd rfl h.2.1
  ·rintro rfl
   exact .inr ⟨j1, by simp, qd, p, rfl, .inr (.inl ⟨rfl, au.2 rfl⟩), fun h => HI (au.1 h)⟩
 have v : ol [fB, fA] N [j2, j1] [] = [] := by
  obtain ⟨a, b⟩ := pD [fB, fA] N [j2, j1] [] (by simpa using fun e => HI e.symm)
  refine List.eq_nil_iff_forall_not_mem.2 (fun f s => ?_)
  rcases (b f).1 s with h | ⟨c, j, w, hw, rfl, i, m⟩
  ·cases h
  ·have l : jE [j2, j1] ⟨c.Head, w⟩ := vC j (n.right c j) (fun g q => by
    rw [EH (fun c => by simp [or_comm])]
    simp only [aj, bR, dW] at q
    exact q.symm) i
   rw [EH (fun c => by simp [or_comm])] at l
   exact m (by simp only [aj, bR, dW]; exact l.symm)
 have o : ∀ d, lE d N [j2, j1] [] = some (ol d N [j2, j1] []) := fun d => by
  have h1 := yt d N j2 N []
  rw [lE, yD d N j2 N [] (by simp; omega), aa, lE]
  simp only [bA] at h1
  rw [yD d N j1 N _ (by omega)]; rfl
 rw [jS, o, t]
 simp only [aa]
 rw [ak (by decide), jt (by decide) (by decide), aa, jt (by decide) (by decide), aa, jS, show ([] ++ [fB] : List gI) = [fB] from rfl, o, u]
 simp only [aa]
 rw [ak (by decide), jt (by decide) (by decide), aa, jt (by decide) (by decide), aa, jS, show ([fB] ++ [fA] : List gI) = [fB, fA] from rfl, o, v]
 rfl
theorem D5 {S T : List gH} (c : S.Pairwise (fun a b => oX a b = true)) (d : T.Pairwise (fun a b => oX a b = true)) (h : ∀ r, r ∈ S ↔ r ∈ T) : S = T :=
 kZ.unique (l := T) (P := fun _ => True) (um (fun _ => True)) ⟨c, fun x => by rw [h]; simp⟩ ⟨d, fun x => by simp⟩
theorem w2 : ∃ sz : gH → Nat, kx [j1, j2] = some [(⟨qA, 1, 0, 1⟩ : gT), (⟨qB, 1, 1, 1⟩ : gT)] ∧ mf [j1, j2] = some [] := by
 obtain ⟨s, S, sz, g, p, n, l, q, m, t⟩ := vN [j1, j2] (by decide)
 obtain rfl : s = [j2, j1] := kZ.unique pF g.set GG
 have k : oX qA qB = true := by decide +kernel
 obtain rfl : S = [qA, qB] := D5 g.Hi (by simp [k]) (fun r => by
  rw [g.mem]
  constructor
  ·rintro ⟨c, i, a⟩
   rcases aj.1 i with rfl | i
   ·have : mD j2 = [qB] := rfl
    rw [this, au] at a; subst a; simp
   ·rw [au] at i; subst i
    have : mD j1 = [qA, qB] := rfl
    rwa [this] at a
  ·intro a
   exact ⟨j1, by simp, by have : mD j1 = [qA, qB] := rfl; rwa [this]⟩)
 have b : ∀ r, r = qA ∨ r = qB → sz r = 1 := fun r a => by
  obtain ⟨L, o, h1, j⟩ := g.size r
  have : L = [qd] := Bj o (fun w => by
   rw [j, EH (fun c => by simp [or_comm])]
   constructor
   ·rintro (h | h) <;> exact ay gI.ib h
   ·rintro rfl
    rcases a with rfl | rfl
    ·exact .inl rfl
    ·exact .inr rfl)
  rw [h1, this]; rfl
 have d : zc [j2, j1] [qA, qB] sz = [(⟨qA, 1, 0, 1⟩ : gT), (⟨qB, 1, 1, 1⟩ : gT)] := by
  unfold zc
  simp only [aC, dJ, pA, b qA (.inl rfl), b qB (.inr rfl)]
  rw [show jl (jT [j2, j1]) qA = 1 by decide +kernel, show jl (oR [j2, j1]) qA = 0 by decide +kernel, show jl (jT [j2, j1]) qB = 1 by decide +kernel, show jl (oR [j2, j1]) qB = 1 by decide +kernel]
  rfl
 refine ⟨sz, by rw [l, d], ?_⟩
 rw [DL [j1, j2] m (by decide) (by decide) l, d]
 rw [show ([(⟨qA, 1, 0, 1⟩ : gT), (⟨qB, 1, 1, 1⟩ : gT)].filter (vL [j2, j1])) = [] by
  have h1 : vL [j2, j1] (⟨qA, 1, 0, 1⟩ : gT) = false := by decide +kernel
  have j : vL [j2, j1] (⟨qB, 1, 1, 1⟩ : gT) = false := by decide +kernel
  simp [h1, j]]
 rfl
theorem w1 : ∃ q, mf [j2] = some [q] := by
 obtain ⟨s, S, sz, a, g, d, b, h, c, i⟩ := vN [j2] (by decide)
 obtain rfl : s = [j2] := kZ.unique pF a.set HM
 obtain rfl : S = [qB] := D5 a.Hi (by simp) (fun r => by
  rw [a.mem]
  have : mD j2 = [qB] := rfl
  simp [this])
 refine ⟨qB, ?_⟩
 rw [DL [j2] c (by decide) (by decide) b]
 have h1 : vL [j2] (pA (jl (jT [j2])) (jl (oR [j2])) sz qB) = true := by
  unfold vL pA
  rw [show jl (jT [j2]) qB = 1 by decide +kernel, show jl (oR [j2]) qB = 0 by decide +kernel]
  have : rS [j2] qB = true := by decide +kernel
  simp [this]
 show some (([pA (jl (jT [j2])) (jl (oR [j2])) sz qB].filter (vL [j2])).map (·.gH)) = some [qB]
 rw [dE, an h1]; rfl
theorem H0 : oJ [j1, j2] = some (qP 0 [[fB], [fA]], 2) := by
 obtain ⟨s, N, Lf, hO, h, a, c, b, _, d⟩ := Bp [j1, j2] (by decide)
 obtain rfl : s = [j2, j1] := kZ.unique pF hO.set GG
 have g := Hl hO.En (by simp at a; omega) 18446744073709551613
 rw [d, tM, show 18446744073709551615 + 1 = 18446744073709551613 + 3 from rfl, g] at b
 obtain rfl := gz b
 rw [c]; rfl
theorem Gc : pM = some true := by
 obtain ⟨_, a, b⟩ := w2
 obtain ⟨q, c⟩ := w1
 unfold pM
 rw [show (⟨2, (⟨(⟨#[97]⟩ : ByteArray), (⟨#[114]⟩ : ByteArray)⟩ : gH), zS, (⟨(⟨#[98]⟩ : ByteArray), (⟨#[115]⟩ : ByteArray)⟩ : gH), (⟨zS, zS⟩ : gH), zS⟩ : gG) = j1 from rfl, show (⟨1, (⟨(⟨#[98]⟩ : ByteArray), (⟨#[115]⟩ : ByteArray)⟩ : gH), (⟨#[100]⟩ : ByteArray), (⟨zS, zS⟩ : gH), (⟨zS, zS⟩ : gH), zS⟩ : gG) = j2 from rfl]
 rw [show (⟨(⟨(⟨#[97]⟩ : ByteArray), (⟨#[114]⟩ : ByteArray)⟩ : gH), (⟨#[100]⟩ : ByteArray)⟩ : gI) = fA from rfl]
 rw [show ([j1, j2].drop (Int.toNat 1)) = [j2] from rfl]
 rw [a, Gh [j1, j2] a (by decide)]
 unfold pr pq
 rw [H0, b, c]
 simp only [aa]
 rw [show jh iy (qP 0 [[fB], [fA]]) fA 0 = 1 by decide +kernel, show (ij iy (qP 0 [[fB], [fA]]) fA).isSome = true by decide +kernel]
 rw [show kM [(⟨qA, 1, 0, 1⟩ : gT), (⟨qB, 1, 1, 1⟩ : gT)] 1 = some (⟨qB, 1, 1, 1⟩ : gT) from rfl]
 rw [show FC [(⟨qA, 1, 0, 1⟩ : gT), (⟨qB, 1, 1, 1⟩ : gT)] = ((⟨qB, 1, 1, 1⟩ : gT), true) by rfl]
 rw [an (by decide), aa, show sL (⟨qB, 1, 1, 1⟩ : gT) (⟨(⟨(⟨#[98]⟩ : ByteArray), (⟨#[115]⟩ : ByteArray)⟩ : gH), 1, 1, 1⟩ : gT) = true from Aw.2 rfl, show gO (⟨qB, 1, 1, 1⟩ : gT).gH (⟨(⟨#[98]⟩ : ByteArray), (⟨#[115]⟩ : ByteArray)⟩ : gH) = true from gP.2 rfl]
 rfl
def u2 (Lf : List (List gI)) (k : Nat) (f : gI) : Prop := f ∈ (Lf.take k).flatten
theorem u2.mono {Lf : List (List gI)} {k m : Nat} {f : gI} (h : u2 Lf k f) (hk : k ≤ m) : u2 Lf m f := by
 unfold u2 at *
 obtain ⟨l, a, b⟩ := cQ.1 h
 refine cQ.2 ⟨l, ?_, b⟩
 have : Lf.take k = (Lf.take m).take k := by rw [dD, bB hk]
 rw [this] at a
 exact List.mem_of_mem_take a
theorem oe.next {s : List gG} {N : List ByteArray} {Lf : List (List gI)} (h : oe s N Lf) : ∀ k, k < Lf.length → (Lf.take (k + 1)).flatten = (Lf.take k).flatten ++ ol (Lf.take k).flatten N s [] ∧ (Lf.take k).flatten.Nodup := by
 induction h with
 | nil => intro k hk; simp at hk
 | @snoc b c d ih =>
  intro k hk
  simp only [ag, dl] at hk
  by_cases h1 : k < b.length
  ·rw [cV (by omega), cV (by omega)]
   exact ih k h1
  ·have a : k = b.length := by omega
   subst a
   rw [cV (aJ _), gh, bk (by simp)]
   exact ⟨by simp, c.nd⟩
theorem xB.step {l s : List gG} {N : List ByteArray} {Lf : List (List gI)} (h : xB l s N Lf) {k : Nat} {c : gG} {w : ByteArray} (d : c ∈ s) (hw : w ∈ N) (b : kw (Lf.take k).flatten c N w) : u2 Lf (k + 1) ⟨c.Head, w⟩ := by
 by_cases a : (⟨c.Head, w⟩ : gI) ∈ (Lf.take k).flatten
 ·exact u2.mono (k := k) a (by omega)
 by_cases hk : k < Lf.length
 ·obtain ⟨e, g⟩ := h.rounds.next k hk
  unfold u2
  rw [e]
  exact bf _ (((pD _ N s [] (by simpa using g)).2 _).2 (.inr ⟨c, d, w, hw, rfl, b, a⟩))
 ·rw [bk (by omega)] at b a
  have := ((pD Lf.flatten N s [] (by simpa using h.rounds.nd)).2 ⟨c.Head, w⟩).2 (.inr ⟨c, d, w, hw, rfl, b, a⟩)
  rw [h.closed] at this
  cases this
theorem xB.vO {l s : List gG} {N : List ByteArray} {Lf : List (List gI)} (h : xB l s N Lf) {f : gI} (b : jE s f) : f.ib ∈ N := by
 obtain ⟨c, a, hk, e⟩ := b.nF
 rw [← e]; exact h.En.nF c a hk
theorem HB {g : List gI} {c : gG} {n N : List ByteArray} {w : ByteArray} (h : kw g c n w) (i : ∀ b ∈ n, b ∈ N) : kw g c N w := by
 rcases h with h | h | h | ⟨a, b, d, x, j, h⟩
 ·exact .inl h
 ·exact .inr (.inl h)
 ·exact .inr (.inr (.inl h))
 ·exact .inr (.inr (.inr ⟨a, b, d, x, i x j, h⟩))
theorem xB.HT {l s : List gG} {N : List ByteArray} {Lf : List (List gI)} (h : xB l s N Lf) {k : Nat} {f : gI} (d : u2 Lf k f) : jE s f := by
 obtain ⟨a, c, b⟩ := cQ.1 d
 exact h.rounds.qk h.En f (cQ.2 ⟨a, List.mem_of_mem_take c, b⟩)
theorem xB.all {l s : List gG} {N : List ByteArray} {Lf : List (List gI)} (h : xB l s N Lf) (f : gI) : f ∈ Lf.flatten ↔ jE s f := by
 have a : ∀ {c : gG} {w : ByteArray}, c ∈ s → w ∈ N → kw Lf.flatten c N w → (⟨c.Head, w⟩ : gI) ∈ Lf.flatten := fun {c w} i hw o => by
  have h1 := h.step (k := Lf.length) i hw (by rwa [gh])
  unfold u2 at h1
  rwa [bk (by omega)] at h1
 refine ⟨fun n => h.rounds.qk h.En f n, fun m => ?_⟩
 have key : ∀ g, jE s g → g ∈ Lf.flatten := fun g j => by
  have hw := h.vO j
  induction j with
  | mem c i hk => exact a i hw (.inl ⟨hk, rfl⟩)
  | inc c w i hk d ih => exact a i hw (.inr (.inl ⟨hk, ih (h.vO d)⟩))
  | we c b w i hk d1 d2 i1 i2 => exact a i hw (.inr (.inr (.inr ⟨by omega, by omega, by omega, b, h.vO d1, i1 (h.vO d1), i2 (h.vO d2)⟩)))
  | both c w i hk d1 d2 i1 i2 => exact a i hw (.inr (.inr (.inl ⟨hk, i1 (h.vO d1), i2 (h.vO d2)⟩)))
 exact key f m
theorem Bv {l s : List gG} {N : List ByteArray} {Lf : List (List gI)} (h : xB l s N Lf) : ∀ (o : List iu) (a : List gI) (k : Nat), (∀ f ∈ a, u2 Lf k f) → jN a o → (∀ z ∈ o, z.gG ∈ s) → ∀ z ∈ o, u2 Lf (k + o.length) z.gI
 | [], a, k, _, _, _, z, g => by cases g
 | y :: o, a, k, j, w, q, z, g => by
  obtain ⟨⟨v, m, p⟩, n⟩ := w
  have t := q y (.head _)
  have r : ∀ f ∈ a, jE s f := fun f c => h.HT (j f c)
  have d : kw a y.gG N y.gI.ib := HB p (fun b u => by
   obtain ⟨f, c, rfl⟩ := aF.1 u
   exact h.vO (r f c))
  have i : jE s ⟨y.gG.Head, y.gI.ib⟩ := vC t v r d
  have h1 : u2 Lf (k + 1) ⟨y.gG.Head, y.gI.ib⟩ := h.step t (h.vO (f := ⟨y.gG.Head, y.gI.ib⟩) i) (d.subset j)
  have e : (⟨y.gG.Head, y.gI.ib⟩ : gI) = y.gI := by rw [← m]
  rw [e] at h1
  rw [aq, show k + (o.length + 1) = k + 1 + o.length by omega]
  rcases aj.1 g with rfl | g
  ·exact h1.mono (by omega)
  ·refine Bv h o (a ++ [y.gI]) (k + 1) (fun f c => ?_) n (fun z g => q z (.tail _ g)) z g
   rcases aA.1 c with c | c
   ·exact (j f c).mono (by omega)
   ·rw [au] at c; subst c; exact h1
theorem C6 (i : Int) (a : List gI) (f : gI) : ij iy (oz i a) f = if mW iy a f = true then some i else none := by
 by_cases h : mW iy a f = true
 ·rw [an h]
  rcases nu f (oz i a) with c | ⟨A, x, B, e, d⟩
  ·have := (jM iI _ _).1 h
   exact absurd rfl (c (f, i) (aF.2 ⟨f, this, rfl⟩))
  ·rw [e, lx iI d]
   have : (f, x) ∈ oz i a := by rw [e]; simp
   obtain ⟨g, _, b⟩ := aF.1 this
   cases b; rfl
 ·rw [ak h]
  refine nU iI (fun p hp e => h ?_)
  obtain ⟨g, b, rfl⟩ := aF.1 hp
  exact (jM iI _ _).2 (by rw [← e]; exact b)
theorem Cj (f : gI) : ∀ (b : List (List gI)) (i m : Nat), f ∈ (b.take m).flatten → ∃ j, j < m ∧ j < b.length ∧ ij iy (qP i b) f = some ((i + j : Nat) : Int)
 | [], i, m, h => by simp at h
 | a :: b, i, 0, h => by simp at h
 | a :: b, i, m + 1, h => by
  rw [qP, vw iI, C6]
  by_cases c : mW iy a f = true
  ·rw [an c]; exact ⟨0, by omega, by simp, rfl⟩
  ·rw [ak c]
   rw [List.take_succ_cons, bL, aA] at h
   obtain ⟨j, h1, g, d⟩ := Cj f b (i + 1) m (h.resolve_left (fun e => c ((jM iI _ _).2 e)))
   exact ⟨j + 1, by omega, by simp; omega, by rw [d, show i + 1 + j = i + (j + 1) by omega]; rfl⟩
theorem EN {f : gI} {a : List (List gI)} (h : f ∉ a.flatten) (i : Nat) : ij iy (qP i a) f = none :=
 nU iI (fun p hp e => h (by rw [← vI i a, ← e]; exact aF.2 ⟨p, hp, rfl⟩))
theorem zU {S : List gH} (d : S.Nodup) : ∀ (s : List gG), (∀ c ∈ s, c.Head ∈ S) → (S.map (jl (jT s))).sum = s.length
 | [], _ => by
  have : ∀ T : List gH, (T.map (jl (jT []))).sum = 0 := fun T => by
   induction T with
   | nil => rfl
   | cons x T ih => rw [aC, dy, ih]; rfl
  exact this S
 | c :: s, h => by
  have ih := zU d s (fun c j => h c (.tail _ j))
  have e : ∀ T : List gH, T.Nodup → (T.map (jl (jT (c :: s)))).sum = (T.map (jl (jT s))).sum + (if c.Head ∈ T then 1 else 0) := fun T i => by
   induction T with
   | nil => rfl
   | cons x T i2 =>
    have a := bP.1 i
    have g : jl (jT (c :: s)) x = jl (jT s) x + (if gO c.Head x = true then 1 else 0) := by unfold jl jT; rw [aC, ch]
    rw [aC, dy, aC, dy, i2 a.2, g]
    by_cases b : c.Head = x
    ·subst b
     simp [ns, a.1]; omega
    ·have : ¬ gO c.Head x = true := fun e => b (gP.1 e)
     simp [this, b]; omega
  rw [e S d, ih, an (h c (.head _)), aq]
theorem An (l : List gG) (f : gI) (h n sz : gH → Nat) (a : ∀ r, h r ≤ 1000000) : ∀ (S : List gH) (x : Nat), x + 1000000 * S.length ≤ 1000000000000 → kl l f (S.map (pA h n sz)) (x : Int) = kl l f [] ((x + (S.map h).sum : Nat) : Int)
 | [], x, _ => rfl
 | r :: S, x, b => by
  simp only [aq] at b
  have := a r
  conv => lhs; rw [aC, kl]
  rw [show (pA h n sz r).lG = (h r : Int) from rfl, jb (by omega) (by omega), show (x : Int) + (h r : Int) = ((x + h r : Nat) : Int) by omega, An l f h n sz a S _ (by omega), aC, dy, df]
theorem yU (O : pM = some true) (l : List gG) (f : gI) (T : l.length ≤ 10000000) (u : ∀ c ∈ l, vz c ≤ 1000000000) : oK l f = some true := by
 unfold oK
 rw [O]
 simp only [aa, bn, ai, aY, Fx]
 obtain ⟨g, Q, R, _⟩ := C7 l T u
 rw [Q]
 simp only [aa]
 by_cases d : (decide (g > 1000) || decide ((wi0 .i64 ((wi0 .i64 ((f.ib.size : Int) + (f.gH.gU.size : Int))) + (f.gH.iz.size : Int))) > 200)) = true
 ·rw [an d]
 ·rw [ak d]
  have x : l.length ≤ 60 := by
   simp only [dq, not_or, cZ] at d
   omega
  obtain ⟨s, N, Lf, hO, Y, K, w, e2, E, _⟩ := Bp l (by omega)
  obtain ⟨s2, S, sz, t, y, M, w1, w2, w3, w4⟩ := vN l (by omega)
  obtain rfl : s2 = s := kZ.unique pF t.set hO.set
  obtain ⟨C, G, i⟩ := Ga l (by omega) f
  obtain rfl : C = s2 := kZ.unique pF G hO.set
  have q : S.Nodup := t.Hi.imp (fun {a b} h e => by subst e; exact (um (fun _ => True)).irrefl a trivial h)
  have m := zU q C (fun c u => (t.mem _).2 ⟨c, u, .head _⟩)
  rw [w1]
  simp only [aa]
  unfold zc
  rw [show (0 : Int) = ((0 : Nat) : Int) from rfl, An l f _ _ sz (fun r => by
   have : jl (jT C) r ≤ (jT C).length := List.countP_le_length
   have h2 : (jT C).length = C.length := by simp [jT]
   omega) S 0 (by omega), m, cJ, kl]
  have L : pr l f = some (jh iy (qP 0 Lf) f 0, (ij iy (qP 0 Lf) f).isSome) := by
   unfold pr; rw [w]; rfl
  have I : pq l = some (Lf.length : Int) := by unfold pq; rw [w]; rfl
  rw [L, I, E]
  rcases i with ⟨o, n, p⟩ | ⟨n, U⟩
  ·rw [n]
   obtain ⟨P, z, W, hz⟩ := p.last
   have k : u2 Lf (0 + o.length) z.gI := Bv hO o [] 0 (by simp) p.tg.2.1 p.cr z (by rw [W]; simp)
   rw [hz, cJ] at k
   obtain ⟨j, j1, j2, A⟩ := Cj f Lf 0 o.length k
   have J := (hO.rounds.len hO.En)
   have Z : C.length * C.length ≤ 60 * 60 := dj (by omega) (by omega)
   have hm : jh iy (qP 0 Lf) f 0 = (j : Int) := by unfold jh; rw [A]; simp
   rw [hm, A]
   simp only [aa, cg, bj, Option.isSome_some, bn, ai, aY]
   rw [jb (by omega) (by omega), an (by simp; omega)]
   simp; omega
  ·rw [n]
   have v : f ∉ Lf.flatten := fun h => U ((hO.all f).1 h)
   rw [EN v]
   simp
end Go.Proofs.YtbnbdigcbldfhaaGreat
namespace Go.Proofs.YtbnbdigcbldfhaaGreat.Lf
open Go.ChangeShapes Go.WideShapes Go.ChangeAt Go.RowKit
open Go.Proofs.YtbnbdigcbldfhaaGreat (Rows.uptoBulk Rows.uptoBulkAll Rows.uptoSmall)
theorem Et {H : Type} (d : DataW H) : 1 ≤ Rows.uptoBulk d := by
 cases d with
 | lit l => cases l <;> simp [Rows.uptoBulk]
 | nil => simp [Rows.uptoBulk]
 | ptr d => simp [Rows.uptoBulk]
 | slice a spare => simp [Rows.uptoBulk]
 | agg parts => simp [Rows.uptoBulk]
 | iface t d => simp [Rows.uptoBulk]
 | map entries => simp [Rows.uptoBulk]
 | held h => simp [Rows.uptoBulk]
theorem length_le {H : Type} (l : List (DataW H)) : l.length ≤ Rows.uptoBulkAll l := by
 induction l with
 | nil => simp [Rows.uptoBulkAll]
 | cons x r ih => have := Et x; simp only [Rows.uptoBulkAll, aq]; omega
def xL {α : Type} (P : Program) (t : TypeId) (enc : α → List Value) (sz : α → Nat) : Prop :=
 ∀ (H : Type) (b : TypeId × Value → H) (W : World) (base : Nat) (sp : Nat → Bool) (c : Bool) (fuel : Nat) (cs : List Value) (x : DataW H × List MemPlace),
  DataW.trod b P W base sp c fuel t cs = some x → ∃ a : α, cs = enc a ∧ sz a ≤ Rows.uptoBulk x.1
theorem C3 {P : Program} {t : TypeId} (a : P.underlying t = some .string) : xL P t (fun s : ByteArray => [.string s]) (fun s => s.size) := by
 intro H b W base sp c fuel cs x h
 obtain ⟨s, rfl, rfl, _⟩ := DataW.trod_string a h
 refine ⟨s, rfl, ?_⟩
 have e : s.data.toList.length = s.size := by rw [cj]; rfl
 simp [Rows.uptoBulk, e]
theorem FT {P : Program} {t : TypeId} {k : IntKind} (a : P.underlying t = some (.int k)) : xL P t (fun n : Int => [.int k n]) (fun _ => 0) := by
 intro H b W base sp c fuel cs x h
 obtain ⟨n, rfl, rfl, _⟩ := DataW.trod_int a h
 exact ⟨n, rfl, eV _⟩
theorem Gb {α : Type} {n : Nat} {p : Nat → α → Prop} (h : ∀ i, i < n → ∃ x, p i x) : ∃ l : List α, l.length = n ∧ ∀ i x, l[i]? = some x → p i x := by
 induction n with
 | zero => exact ⟨[], rfl, by simp⟩
 | succ n ih =>
  obtain ⟨l, h1, c⟩ := ih fun i b => h i (by omega)
  obtain ⟨x, g⟩ := h n (by omega)
  refine ⟨l ++ [x], by simp [h1], fun i y a => ?_⟩
  by_cases b : i < l.length
  ·rw [List.getElem?_append_left b] at a
   exact c i y a
  ·rw [dT (by omega)] at a
   have : i - l.length = 0 := by
    cases d : i - l.length with
    | zero => rfl
    | succ m => rw [d] at a; simp at a
   rw [this] at a
   have e : i = n := by omega
   simp at a
   subst a; rw [e]; exact g
theorem BM {W : World} {a : Addr} {v : Value} (h : W.cell? a = some v) : ∃ cs T fr, W.heap[a.block]? = some (.cells cs T fr) ∧ a.spot = none ∧ cs[a.off]? = some v := by
 unfold World.cell? at h
 split at h
 ·rename_i c T fr d
  by_cases b : a.spot.isSome
  ·simp [b] at h
  ·simp only [b] at h
   exact ⟨c, T, fr, d, by simpa using b, by simpa using h⟩
 ·cases h
theorem Ex.below {dd : Bool} {W W' : World} (h : Ex dd W W') : Below W.heap.size W W' := ⟨h.os, h.tape, h.output, h.size, h.jg⟩
theorem wg {H : Type} {k : TypeId × Value → H} {P : Program} (m : laidOutB P = true) {W W' : World} {b : Nat → Bool} :
  ∀ {g : List TypeId} {vs : List Value} {i : List (DataW H)} {c : List MemPlace}, (∀ t ∈ g, P.readableRec t = true ∧ t < P.types.size) →
   DataW.TrodAll k P W 0 (fun _ => true) true g vs i c → (∀ p ∈ c, W.sameAt W' p) → (∀ p ∈ c, b p.block = true) → DataW.TrodAll k P W' 0 b true g vs i c
 | [], _, _, _, _, h, _, _ => by
  obtain ⟨rfl, rfl, rfl⟩ := trodAll_nil h
  exact trodAll_mk0
 | t :: g, _, _, _, j, h, h1, l => by
  obtain ⟨v, vs, d, i, p, q, rfl, rfl, rfl, n, o⟩ := trodAll_cons h
  exact trodAll_cons_mk (WideElems.Trod_stays m (j t (by simp)).1 (j t (by simp)).2 n (fun x a => h1 x (by simp [a])) (fun x a => l x (by simp [a])))
   (wg m (fun u hu => j u (by simp [hu])) o (fun x a => h1 x (by simp [a])) (fun x a => l x (by simp [a])))
theorem CV {H : Type} {enc : TypeId × Value → H} {P : Program} (M : laidOutB P = true) {f : Func} {s : ChangeSpec} {apart fresh handsOn again : Bool} {W W' : World} {args : Array Value} {v : Value} {a gs : List (DataW H)} {before : List MemPlace} (Q : ∀ t ∈ f.params.toList, P.readableRec t = true ∧ t < P.types.size) (m : s.vars = []) (o : DataW.Whole enc P f.params.toList s.vars apart W args.toList a gs before) {dd : Bool} (G : Ex dd W W') (c : ∀ (b : Nat) (sp : Nat → Bool) (L : Bool), DataW.TrodAll enc P W' b sp L f.resultTypes.toList (v.resultList f.resultTypes.size) (s.fn H (a ++ gs)).results []) (d : (s.fn H (a ++ gs)).args = a) (h : (s.fn H (a ++ gs)).vars = []) (A : ∀ (j : Nat) (t : TypeId) (r : Value), f.resultTypes[j]? = some t → (v.resultList f.resultTypes.size)[j]? = some r → Value.okWide P W' .any 0 t r) :
  s.post enc P f apart fresh handsOn again W args v W' := by
 have g := o.lt
 have hold : ∀ p ∈ before, (fun b => decide (b < W.heap.size)) p.block = true := fun p hp => by simpa using g p hp
 have y := Ex.below G
 have u := o
 obtain ⟨p, q, J, I, k, R, O⟩ := o
 rw [m] at I
 obtain ⟨rfl, rfl⟩ := trodVars_none I
 rw [aV] at k
 subst k
 have l : ∀ sp : Nat → Bool, (∀ p ∈ before, sp p.block = true) → DataW.TrodAll enc P W' 0 sp true f.params.toList args.toList (s.fn H (a ++ [])).args before := fun sp E => by
  rw [d]
  exact wg M Q J (fun x G => y.same (g x G)) E
 have n : ∀ sp : Nat → Bool, DataW.TrodVars enc P W' sp s.vars (s.fn H (a ++ [])).vars [] := fun sp => by
  rw [h, m]; rfl
 refine ⟨a, [], before, [], before, [], u, c _ _ _, l _ hold, n _, World.keptBut_mono (fun p hp => ⟨hp, ?_⟩) (y.frame (· ∈ before)), fun _ => ?_⟩
 ·exact Or.inr (Or.inl hp)
 ·refine ⟨A, _, _, ([] ++ before) ++ [], ⟨[] ++ before, [], trodAll_append (l _ (fun _ _ => rfl)) (c _ _ _), n _, rfl, ?_, ?_⟩, ?_⟩
  ·intro b off hp
   have i : MemPlace.cell b off ∈ before := by simpa using hp
   rw [World.frozen?_of_block (w := W) (y.block b (g _ i))]
   exact R b off i
  ·intro K
   simpa using O K
  ·intro p hp _
   simpa using hp
end Go.Proofs.YtbnbdigcbldfhaaGreat.Lf
namespace Go.Proofs.YtbnbdigcbldfhaaGreat.Lf
open Go.ChangeShapes Go.WideShapes Go.ChangeAt Go.RowKit
open Go.Proofs.YtbnbdigcbldfhaaGreat (Rows.uptoBulk Rows.uptoBulkAll Rows.uptoSmall)
def Hg {α : Type} (P : Program) (t : TypeId) (R : qR α) (sz : α → Nat) : Prop :=
 ∀ (H : Type) (b : TypeId × Value → H) (W : World) (base : Nat) (sp : Nat → Bool) (c : Bool) (fuel : Nat) (cs : List Value) (x : DataW H × List MemPlace),
  DataW.trod b P W base sp c fuel t cs = some x → ∃ a : α, R (hp W) cs a ∧ sz a ≤ Rows.uptoBulk x.1
theorem xL.rel {α : Type} {P : Program} {t : TypeId} {enc : α → List Value} {sz : α → Nat} (h : xL P t enc sz) : Hg P t (Pl enc) sz := fun H a W base sp b fuel cs x c => h H a W base sp b fuel cs x c
end Go.Proofs.YtbnbdigcbldfhaaGreat.Lf
namespace Go.Proofs.YtbnbdigcbldfhaaGreat.Lf
open Go.ChangeShapes Go.WideShapes Go.ChangeAt Go.RowKit
open Go.Proofs.YtbnbdigcbldfhaaGreat (Rows.uptoBulk Rows.uptoBulkAll Rows.uptoSmall)
theorem xO {H : Type} : ∀ l : List (DataW H), Rows.uptoBulkAll l = (l.map Rows.uptoBulk).sum
 | [] => by simp [Rows.uptoBulkAll]
 | d :: l => by simp [Rows.uptoBulkAll, xO l]
theorem Es {α : Type} (g : α → Nat) : ∀ (n : Nat) (f : Nat → Nat) {l : List α}, l.length = n → (∀ i x, l[i]? = some x → g x ≤ f i) → (l.map g).sum ≤ ((List.range n).map f).sum
 | 0, f, l, b, h => by
  obtain rfl := bx.1 b
  simp
 | n + 1, f, [], b, h => by cases b
 | n + 1, f, a :: l, b, h => by
  rw [List.range_succ_eq_map, aC, aC, dy, dy, de]
  have h1 := h 0 a rfl
  have d := Es g n (f ∘ Nat.succ) (l := l) (by simpa using b) (fun i x c => h (i + 1) x (by simpa using c))
  omega
def yH {α : Type} (sz : α → Nat) (l : List α) : Nat := (l.map fun a => max 1 (sz a)).sum
theorem Cm {α : Type} (sz : α → Nat) : ∀ l : List α, l.length ≤ yH sz l
 | [] => aJ _
 | a :: l => by have := Cm sz l; simp only [yH, aC, dy, aq] at this ⊢; omega
theorem Ef {α : Type} {sz : α → Nat} : ∀ {l : List α} {a : α}, a ∈ l → sz a ≤ yH sz l
 | b :: l, a, h => by
  simp only [yH, aC, dy]
  rcases aj.1 h with rfl | h
  ·omega
  ·have := Ef (sz := sz) h; simp only [yH] at this; omega
theorem B2 {α : Type} {P : Program} {t e : TypeId} {k : Nat} {R : qR α} {sz : α → Nat} (hk : P.cellsOf e = k) (K : 0 < k) (ht : P.underlying t = some (.slice e)) {H : Type} {U : TypeId × Value → H} {W : World} {base : Nat} {sp : Nat → Bool} {held : Bool} {fuel : Nat} {cs : List Value} {x : DataW H × List MemPlace} (hd : ∀ (fuel : Nat) (cs : List Value) (y : DataW H × List MemPlace), DataW.trod U P W base sp held fuel e cs = some y → SizeOf.sizeOf y.1 < SizeOf.sizeOf x.1 → ∃ a : α, R (hp W) cs a ∧ sz a ≤ Rows.uptoBulk y.1) (hf : DataW.trod U P W base sp held fuel t cs = some x) :
  ∃ v l, cs = [v] ∧ Sl R k (hp W) v l ∧ yH sz l ≤ Rows.uptoBulk x.1 := by
 rcases Go.Deep.open_slice ht hf with ⟨rfl, rfl⟩ | ⟨a, ln, cp, m, n, D, Q, rfl, hb, hl, hm, M, rfl, I⟩
 ·exact ⟨_, [], rfl, ⟨none, 0, rfl, aJ _, eV _, fun h => absurd h (Nat.lt_irrefl _)⟩, eV _⟩
 ·have ad : ln ≤ m := by rw [M]; split <;> omega
  have hB : ((List.range ln).map fun i => Rows.uptoBulk (D i)).sum ≤ Rows.uptoBulk (DataW.slice ((List.range ln).map D) ((List.range (m - ln)).map fun j => D (ln + j))) := by
   simp only [Rows.uptoBulk]
   rw [xO, de]
   have e : ((List.range ln).map fun i => Rows.uptoBulk (D i)) = (List.range ln).map (Rows.uptoBulk ∘ D) := rfl
   rw [e]
   omega
  have hS : ∀ i, i < ln → SizeOf.sizeOf (D i) < SizeOf.sizeOf (DataW.slice ((List.range ln).map D) ((List.range (m - ln)).map fun j => D (ln + j))) := fun i J => by
   have := List.sizeOf_lt_of_mem (aF.2 ⟨i, List.mem_range.2 J, rfl⟩ : D i ∈ (List.range ln).map D)
   rw [DataW.slice.sizeOf_spec]; omega
  simp only at hd ⊢
  generalize Rows.uptoBulk (DataW.slice ((List.range ln).map D) ((List.range (m - ln)).map fun j => D (ln + j))) = B at hB
  obtain ⟨l, L, q⟩ := Gb (α := α) (n := ln) (p := fun i x => ∃ b, W.cells? base (a.add (i * k)) k = some b ∧ R (hp W) b x ∧ sz x ≤ Rows.uptoBulk (D i)) fun i J => by
   obtain ⟨b, h1, w⟩ := I i (by omega)
   obtain ⟨x, hR, A⟩ := hd _ _ _ w (hS i J)
   rw [hk] at h1
   exact ⟨x, b, h1, hR, A⟩
  subst L
  refine ⟨_, l, rfl, ⟨some a, cp, rfl, hl, hm, fun h0 => ?_⟩, ?_⟩
  ·have c : ∀ i x, l[i]? = some x → ∃ b, R (hp W) b x ∧ b.length = k ∧ ∀ j, j < k → W.cell? ((a.add (i * k)).add j) = b[j]? := fun i x r =>
    let ⟨b, h1, w, _⟩ := q i x r
    let ⟨_, A, Y⟩ := World.cells?_some h1
    ⟨b, w, A, Y⟩
   obtain ⟨a6, _, Y, h5⟩ := c 0 l[0] (by simp [h0])
   have E := h5 0 K
   rw [Nat.zero_mul, cd (by omega)] at E
   have e0 : (a.add 0).add 0 = a := rfl
   rw [e0] at E
   obtain ⟨cs, T, fr, G, Z, _⟩ := BM E
   obtain ⟨s, u, a1⟩ := a
   simp only at G Z
   subst Z
   refine ⟨s, u, cs, T, fr, rfl, G, fun i x r => ?_⟩
   obtain ⟨b, gR, g1, g2⟩ := c i x r
   refine ⟨b, g1, gR, fun j y hy => ?_⟩
   have hj : j < k := by
    rw [← g1]
    exact (aD.1 hy).1
   have h9 := g2 j hj
   rw [Go.Deep.add_add, hy] at h9
   obtain ⟨O, T', a7, d, a8, g⟩ := BM h9
   have o : (Addr.add ⟨s, u, none⟩ (i * k + j)).block = s ∧ (Addr.add ⟨s, u, none⟩ (i * k + j)).off = u + (i * k + j) := by
    unfold Addr.add
    split
    ·rename_i hz
     rw [hz]; exact ⟨rfl, rfl⟩
    ·exact ⟨rfl, rfl⟩
   rw [o.1, G] at d
   cases d
   rw [o.2, ← df] at g
   exact g
  ·refine bw (Es _ _ _ rfl fun i x r => ?_) hB
   exact Nat.max_le.2 ⟨Et _, (q i x r).elim fun _ h => h.2.2⟩
theorem BW {α : Type} {P : Program} {t e : TypeId} {k : Nat} {R : qR α} {sz : α → Nat} (hk : P.cellsOf e = k) (a : 0 < k) (c : Hg P e R sz) (g : P.underlying t = some (.slice e)) {H : Type} {b : TypeId × Value → H} {W : World} {base : Nat} {sp : Nat → Bool} {held : Bool} {fuel : Nat} {cs : List Value} {x : DataW H × List MemPlace} (d : DataW.trod b P W base sp held fuel t cs = some x) :
  ∃ v l, cs = [v] ∧ Sl R k (hp W) v l ∧ yH sz l ≤ Rows.uptoBulk x.1 := B2 hk a g (fun _ _ _ h _ => c _ _ _ _ _ _ _ _ _ h) d
theorem BZ {α H : Type} {j : TypeId × Value → H} {P : Program} {t e : TypeId} {k : Nat} {enc : α → List Value} {sz : α → Nat} (hk : P.cellsOf e = k) (b : 0 < k) (p : xL P e enc sz) (g : P.underlying t = some (.slice e)) {W : World} {base i : Nat} {r : Reach} {sp : Nat → Bool} {held : Bool} {v : Value} {d : DataW H} {s : List MemPlace} (a : Value.okWide P W r i t v) (h : DataW.Trod j P W base sp held t v d s) :
  ∃ l : List α, Sl (Pl enc) k (hp W) v l ∧ yH sz l ≤ Rows.uptoBulk d := by
 obtain ⟨A, ln, c, rfl⟩ := okWide_slice g a
 obtain ⟨fuel, q⟩ := h
 obtain ⟨u, l, h1, m, n⟩ := BW hk b p.rel g q
 have o : (Value.slice A ln c).cells.toList = [Value.slice A ln c] := rfl
 rw [o] at h1
 cases h1
 exact ⟨l, m, n⟩
end Go.Proofs.YtbnbdigcbldfhaaGreat.Lf
namespace Go.Proofs.YtbnbdigcbldfhaaGreat.Lf
open Go.ChangeShapes Go.WideShapes Go.ChangeAt Go.RowKit
open Go.Proofs.YtbnbdigcbldfhaaGreat (Rows.uptoBulk Rows.uptoBulkAll Rows.uptoSmall)
def H7 {α : Type} (R : qR α) (Q : α → Prop) : qR α := fun μ a x => R μ a x ∧ Q x
theorem Sl.all {α : Type} {R : qR α} {Q : α → Prop} {k : Nat} {μ : iq} {v : Value} {l : List α} (h : Sl (H7 R Q) k μ v l) : Sl R k μ v l ∧ ∀ x ∈ l, Q x := by
 obtain ⟨A, c, rfl, h1, j, r⟩ := h
 cases l with
 | nil => exact ⟨⟨A, c, rfl, h1, j, fun h => absurd h (by simp)⟩, by simp⟩
 | cons a l =>
  obtain ⟨b, o, cs, T, fr, e, s, m⟩ := r (by simp)
  refine ⟨⟨A, c, rfl, h1, j, fun _ => ⟨b, o, cs, T, fr, e, s, fun i x g => ?_⟩⟩, fun x g => ?_⟩
  ·obtain ⟨q, n, d, p⟩ := m i x g
   exact ⟨q, n, d.1, p⟩
  ·obtain ⟨i, t⟩ := List.mem_iff_getElem?.1 g
   obtain ⟨q, n, d, p⟩ := m i x t
   exact d.2
end Go.Proofs.YtbnbdigcbldfhaaGreat.Lf
namespace Go.Proofs.YtbnbdigcbldfhaaGreat
open Go.IntKind renaming wrap → wi0
open Go.Proofs.Tryz renaming prog → pg0
set_option maxRecDepth 10000
open Go.ChangeShapes Go.WideShapes Go.ChangeAt Go.RowKit
open Go.Proofs.YtbnbdigcbldfhaaGreat Go.Proofs.YtbnbdigcbldfhaaGreat.Lf
theorem HY : xL pg0 3 (fun n : Int => [.int .i64 n]) (fun _ => 0) := FT Tryz.underlying3
theorem G4 : Tryz.prog.cellsOf 3 = 1 := by kernel_rfl
theorem A0 : xL pg0 9 (fun s : ByteArray => [.string s]) (fun s => s.size) := C3 Tryz.underlying9
theorem A1 : Tryz.prog.cellsOf 9 = 1 := by kernel_rfl
theorem zg : Tryz.prog.cellsOf 28 = 2 := by kernel_rfl
theorem ER {α : Type} {l : List α} (h : l.length = 2) : ∃ a0 a, l = [a0, a] := by
 match l, h with
 | [a0, a], _ => exact ⟨a0, a, rfl⟩
def tX (x : gH) : Nat := x.gU.size + x.iz.size
theorem AN : xL pg0 28 gK tX := by
 intro H d W base sp i fuel cs x h
 obtain ⟨xs, n, _, rfl, m, hlen, j⟩ := ga Tryz.underlying28 h
 obtain ⟨p, q, rfl⟩ := ER hlen
 obtain ⟨a, c1, rfl⟩ := ER (m.trans zg)
 have g : DataW.trod d pg0 W base sp i n 9 (([a, c1].drop 0).take (Tryz.prog.cellsOf 9)) = some p := j 0 _ rfl
 have h1 : DataW.trod d pg0 W base sp i n 9 (([a, c1].drop 1).take (Tryz.prog.cellsOf 9)) = some q := j 1 _ rfl
 simp only [A1, List.drop, List.take] at g h1
 obtain ⟨o, b, k⟩ := A0 _ _ _ _ _ _ _ _ _ g
 obtain ⟨s1, c, l⟩ := A0 _ _ _ _ _ _ _ _ _ h1
 simp only [cx, and_true] at b c
 obtain rfl := b
 obtain rfl := c
 refine ⟨⟨o, s1⟩, rfl, ?_⟩
 simp only [List.map, Rows.uptoBulk, Rows.uptoBulkAll, tX] at k l ⊢
 omega
theorem Bi : Tryz.prog.cellsOf 108 = 9 := by kernel_rfl
theorem HN {α : Type} {l : List α} (h : l.length = 6) : ∃ a0 a a2 a3 a4 a5, l = [a0, a, a2, a3, a4, a5] := by
 match l, h with
 | [a0, a, a2, a3, a4, a5], _ => exact ⟨a0, a, a2, a3, a4, a5, rfl⟩
theorem HQ {α : Type} {l : List α} (h : l.length = 9) : ∃ a0 a a2 a3 a4 a5 b c d, l = [a0, a, a2, a3, a4, a5, b, c, d] := by
 match l, h with
 | [a0, a, a2, a3, a4, a5, b, c, d], _ => exact ⟨a0, a, a2, a3, a4, a5, b, c, d, rfl⟩
def tQ (x : gG) : Nat := tX x.Head + x.ib.size + tX x.B + tX x.C + x.iv.size
theorem GK : xL pg0 108 gJ tQ := by
 intro H k W base sp l fuel cs x h
 obtain ⟨xs, n, _, rfl, M, hlen, m⟩ := ga Tryz.underlying108 h
 obtain ⟨T, U, Y, Z, y4, y5, rfl⟩ := HN hlen
 obtain ⟨a, c1, c2, b, c, d, g, i, j, rfl⟩ := HQ (M.trans Bi)
 have u : DataW.trod k pg0 W base sp l n 3 (([a, c1, c2, b, c, d, g, i, j].drop 0).take (Tryz.prog.cellsOf 3)) = some T := m 0 _ rfl
 have h1 : DataW.trod k pg0 W base sp l n 28 (([a, c1, c2, b, c, d, g, i, j].drop 1).take (Tryz.prog.cellsOf 28)) = some U := m 1 _ rfl
 have v : DataW.trod k pg0 W base sp l n 9 (([a, c1, c2, b, c, d, g, i, j].drop 3).take (Tryz.prog.cellsOf 9)) = some Y := m 2 _ rfl
 have w : DataW.trod k pg0 W base sp l n 28 (([a, c1, c2, b, c, d, g, i, j].drop 4).take (Tryz.prog.cellsOf 28)) = some Z := m 3 _ rfl
 have y : DataW.trod k pg0 W base sp l n 28 (([a, c1, c2, b, c, d, g, i, j].drop 6).take (Tryz.prog.cellsOf 28)) = some y4 := m 4 _ rfl
 have A : DataW.trod k pg0 W base sp l n 9 (([a, c1, c2, b, c, d, g, i, j].drop 8).take (Tryz.prog.cellsOf 9)) = some y5 := m 5 _ rfl
 simp only [zg, G4, A1, List.drop, List.take] at u h1 v w y A
 obtain ⟨O, o, E⟩ := HY _ _ _ _ _ _ _ _ _ u
 obtain ⟨s1, p, G⟩ := AN _ _ _ _ _ _ _ _ _ h1
 obtain ⟨s2, q, I⟩ := A0 _ _ _ _ _ _ _ _ _ v
 obtain ⟨P, r, J⟩ := AN _ _ _ _ _ _ _ _ _ w
 obtain ⟨Q, s, K⟩ := AN _ _ _ _ _ _ _ _ _ y
 obtain ⟨R, t, L⟩ := A0 _ _ _ _ _ _ _ _ _ A
 simp only [gK, cx, and_true] at o p q r s t
 obtain rfl := o
 obtain ⟨rfl, rfl⟩ := p
 obtain rfl := q
 obtain ⟨rfl, rfl⟩ := r
 obtain ⟨rfl, rfl⟩ := s
 obtain rfl := t
 refine ⟨⟨O, s1, s2, P, Q, R⟩, rfl, ?_⟩
 simp only [List.map, Rows.uptoBulk, Rows.uptoBulkAll, tQ] at E G I J K L ⊢
 omega
theorem Gi : Tryz.prog.cellsOf 38 = 3 := by kernel_rfl
theorem HZ {α : Type} {l : List α} (h : l.length = 3) : ∃ a0 a a2, l = [a0, a, a2] := by
 match l, h with
 | [a0, a, a2], _ => exact ⟨a0, a, a2, rfl⟩
def DF (x : gI) : Nat := tX x.gH + x.ib.size
theorem Hp : xL pg0 38 gS DF := by
 intro H d W base sp i fuel cs x h
 obtain ⟨xs, n, _, rfl, m, hlen, j⟩ := ga Tryz.underlying38 h
 obtain ⟨p, q, rfl⟩ := ER hlen
 obtain ⟨a, c1, c2, rfl⟩ := HZ (m.trans Gi)
 have g : DataW.trod d pg0 W base sp i n 28 (([a, c1, c2].drop 0).take (Tryz.prog.cellsOf 28)) = some p := j 0 _ rfl
 have h1 : DataW.trod d pg0 W base sp i n 9 (([a, c1, c2].drop 2).take (Tryz.prog.cellsOf 9)) = some q := j 1 _ rfl
 simp only [zg, A1, List.drop, List.take] at g h1
 obtain ⟨o, b, k⟩ := AN _ _ _ _ _ _ _ _ _ g
 obtain ⟨s1, c, l⟩ := A0 _ _ _ _ _ _ _ _ _ h1
 simp only [gK, cx, and_true] at b c
 obtain ⟨rfl, rfl⟩ := b
 obtain rfl := c
 refine ⟨⟨o, s1⟩, rfl, ?_⟩
 simp only [List.map, Rows.uptoBulk, Rows.uptoBulkAll, DF] at k l ⊢
 omega
theorem HP : Tryz.prog.readableRec 22 = true ∧ 22 < Tryz.prog.types.size := ⟨by kernel_rfl, dP (by kernel_rfl)⟩
theorem HX : Tryz.prog.readableRec 38 = true ∧ 38 < Tryz.prog.types.size := ⟨by kernel_rfl, dP (by kernel_rfl)⟩
theorem Fk (c : gG) : vz c = tQ c := by unfold vz tQ tX; omega
theorem AT (l : List gG) (h : yH tQ l ≤ 1048576) : l.length ≤ 10000000 ∧ ∀ c ∈ l, vz c ≤ 1000000000 := by
 have := Cm tQ l
 refine ⟨by omega, fun c a => ?_⟩
 have := Ef (sz := tQ) a
 rw [Fk]; omega
theorem own : ownKnob Tryz.prog.godebug = none := by kernel_rfl
theorem EV : laidOutB pg0 = true := by kernel_rfl
theorem EL (H : Type) (enc : TypeId × Value → H) (W : World) (base : Nat) (args : Array Value) (g gs : List (DataW H)) (before : List MemPlace) (a : ∀ (j : Nat) t v, Tryz.f5.params[j]? = some t → args[j]? = some v → Value.okWide pg0 W .any base t v) (r : DataW.Whole enc pg0 Tryz.f5.params.toList Rows.weighHoldsSpec.vars false W args.toList g gs before) (hk : Rows.uptoSmall H (g ++ gs) = true) :
  Calls pg0 5 args W fun e W' => ∃ v, e = .returned v ∧ Rows.weighHoldsSpec.post enc pg0 Tryz.f5 false true false false W args v W' := by
 have i := r
 obtain ⟨p, q, h, G, rfl, I, K⟩ := r
 have o : DataW.TrodAll enc pg0 W 0 (fun _ => true) true Tryz.f5.params.toList args.toList g p := h
 have L : ∀ t ∈ Tryz.f5.params.toList, Tryz.prog.readableRec t = true ∧ t < Tryz.prog.types.size := by
  rw [Tryz.params5]
  intro t s
  simp only [aj, bR, dW] at s
  rcases s with rfl | rfl
  ·exact HP
  ·exact HX
 rw [Tryz.params5] at o a
 obtain ⟨v0, T, d0, w, Y, q0, l, rfl, rfl, A, Q⟩ := trodAll_cons o
 obtain ⟨v1, U, d1, x, Z, q1, rfl, rfl, rfl, h1, R⟩ := trodAll_cons Q
 obtain ⟨rfl, rfl, rfl⟩ := trodAll_nil R
 obtain rfl : args = #[v0, v1] := by cases args; simp_all
 obtain ⟨rfl, rfl⟩ := trodVars_none G
 have O := a 0 22 v0 rfl rfl
 have P := a 1 38 v1 rfl rfl
 obtain ⟨a0, n, z0⟩ := BZ (k := 9) Bi (by decide) GK Tryz.underlying22 O A
 obtain ⟨d, rfl, _⟩ := okWide_struct Tryz.underlying38 P
 obtain ⟨y, m⟩ := h1
 obtain ⟨c, b, u⟩ := Hp _ _ _ _ _ _ _ _ _ m
 simp only [Value.cells] at b
 obtain rfl : d = (gS c).toArray := by rw [← b]
 replace u : _ ≤ Rows.uptoBulk d1 := u
 have E : Rows.uptoBulkAll ([d0, d1] ++ []) ≤ 1048576 := dP hk
 simp only [aV, Rows.uptoBulkAll] at E
 have hm : oK a0 c = some true := yU Gc _ _ (AT _ (by omega)).1 (AT _ (by omega)).2
 have J := w8 v0 a0 c true W n hm
 refine bJ J fun e W' ⟨he, M⟩ => ?_
 subst he
 exact ⟨_, rfl, CV EV L rfl i M (fun _ _ _ => trodAll_cons_mk (shut_bool Tryz.underlying4 _) trodAll_mk0) rfl rfl (ok_one (by kernel_rfl) rfl (okWide_bool_mk Tryz.underlying4 _))⟩
set_option maxRecDepth 100000 in
theorem GJ (os : Os) (started : os.Started) (H : Type) (enc : TypeId × Value → H) (F : Stop.Interp) :
  ReturnsInHanded {} Tryz.checked os 5 .any ((Rows.OpenSpec.upto Rows.weighHoldsSpec).pre6 enc pg0 Tryz.f5 Rows.weighHoldsUptoRow.domain false) (((Rows.OpenSpec.upto Rows.weighHoldsSpec).at F).post enc pg0 Tryz.f5 false true false false) := by
 refine returnsInHanded_of_cond (C := Tryz.checked) (s := Rows.OpenSpec.upto Rows.weighHoldsSpec) (k := Rows.uptoSmall) rfl own started (by kernel_rfl) Tryz.func5
  (OpenSpec.witness (enc := enc) (C := Tryz.checked) (s := Rows.OpenSpec.upto Rows.weighHoldsSpec) (k := Rows.uptoSmall) rfl false ⟨#[], #[.slice none 0 0, .agg #[.string ⟨#[]⟩, .string ⟨#[]⟩, .string ⟨#[]⟩]], []⟩ 8 (by kernel_rfl) (by kernel_rfl) (by kernel_rfl)
   (x := ([.nil, .agg [.agg [.lit (.string []), .lit (.string [])], .lit (.string [])]], [], [])) (by kernel_rfl) rfl (by kernel_rfl)) ?_
 intro W base args b gs before a c _ hk _
 exact EL H enc W base args b gs before a c hk
theorem Hm {a b : Bool} (c : a = true) (d : b = true) : (a && b) = true := by rw [c, d]; rfl
set_option maxHeartbeats 40000000 in
theorem FR : joinedFacts Tryz.checked.prog 5 Tryz.f5 (Rows.OpenSpec.upto Rows.weighHoldsSpec).bare Rows.weighHoldsUptoRow = true := by
 unfold joinedFacts
 repeat' with_reducible refine Hm ?_ ?_
 all_goals as_aux_lemma => kernel_rfl
theorem proved : Rows.WeighHoldsUptoSaid :=
 OpenClaim.holds_of_cond 5 Tryz.f5 rfl rfl rfl rfl rfl rfl rfl ⟨rfl, rfl, rfl, rfl, rfl⟩ rfl rfl rfl rfl rfl (by kernel_rfl) Tryz.func5 FR
  (dP (by kernel_rfl)) (by unfold Func.isWrapper; first | (rw [an (by decide +kernel)]; kernel_rfl) | (rw [ak (by decide +kernel)]; exact ⟨rfl, rfl⟩))
  (fun os started H enc _ F => GJ os started H enc F)
end Go.Proofs.YtbnbdigcbldfhaaGreat
