/- a part of a proof of KeysBack -/
import Derived.Test.YtcafmokjkjcomaaRtZda
import Derived.Test.YtcafmokjkjcomaaKBMa
import Derived.Test.YtcafmokjkjcomaaRows
import Derived.WalkKit
import Derived.ProofKit
import Derived.OpenShut
import Derived.JoinedCond
import Derived.Deep.Slices
import Derived.Carry
import Derived.ChangeArms
import Derived.ChangeSame
import Derived.Test.YtcafmokjkjcomaaKBW1a
set_option linter.all false
namespace Go.Proofs.Ytcafmokjkjcomaa
open Go.IntKind renaming wrap → wi0
open Go.RowKit
theorem AY {c x : Bool} : (if c = true then some x else some false : Option Bool) = some (c && x) := by cases c <;> rfl
theorem zl {c x : Bool} : (if c = true then some true else some x : Option Bool) = some (c || x) := by cases c <;> rfl
theorem wq {α : Type} (x : Option α) : (x.bind fun y => some y) = x := by cases x <;> rfl
theorem fP {x : Int} (a : -9223372036854775808 ≤ x) (h1 : x ≤ 9223372036854775807) : wi0 .i64 x = x := IntWalk.i64_in _ (by omega)
theorem lO {α : Type} (A : List α) (x : α) (B : List α) (i : Int) (h : i = (A.length : Int)) : ju (A ++ x :: B) i = some x := by
 subst h; rw [sr]; simp
theorem tS : iu = 18446744073709551615 + 1 := by rw [lX]
def rk {α : Type} (f1 : α → Option Bool) (z : α) : Nat → List α → Int → Int → Option (List α)
 | 0, _, _, _ => none
 | n + 1, l, i, j => if decide (j < (l.length : Int)) then
   ((ju l j).bind fun x => (f1 x).bind fun r => if (!r) then (ju l i).bind fun _ => some (l.set (Int.toNat i) x, wi0 .i64 (i + 1)) else some (l, i) : Option (List α × Int)).bind fun (c, a) => rk f1 z n c a (wi0 .i64 (j + 1))
  else (jS (decide (0 ≤ i) && decide (i ≤ (l.length : Int)))).bind fun _ => (jS (decide (0 ≤ i) && decide (i ≤ ((je l (Int.toNat i) z).length : Int)))).bind fun _ => some ((je l (Int.toNat i) z).take (Int.toNat i))
theorem nX {a b : Int} (c : 0 ≤ a) (h1 : a ≤ b) : jS (decide (0 ≤ a) && decide (a ≤ b)) = some () := by simp [jS, c, h1]
theorem tI {α : Type} (f1 : α → Option Bool) (p : α → Bool) (z : α) : ∀ (rest out mid : List α) (n : Nat), rest.length < n → (out ++ mid ++ rest).length < 4611686018427387904 → mid ≠ [] → (∀ x ∈ rest, f1 x = some (p x)) →
  rk f1 z n (out ++ mid ++ rest) (out.length : Int) ((out.length + mid.length : Nat) : Int) = some (out ++ rest.filter fun x => !p x)
 | [], out, mid, 0, h, _, _, _ => by simp at h
 | [], out, mid, n + 1, _, c, hm, _ => by
  rw [rk, aF (by simp)]
  have h1 : out.length ≤ (out ++ mid ++ []).length := by simp
  rw [nX (by omega) (by omega)]
  simp only [aw]
  rw [nX (by omega) (by rw [kZ _ _ _ (by simpa using h1)]; omega)]
  simp only [aw, cH]
  rw [qW _ _ _ h1]
  simp
 | x :: rest, out, mid, 0, h, _, _, _ => by simp at h
 | x :: rest, out, mid, n + 1, h, c, hm, d => by
  have hlen : (out ++ mid ++ x :: rest).length = out.length + mid.length + rest.length + 1 := by simp; omega
  rw [hlen] at c
  rw [rk, aD (by rw [hlen]; simp; omega)]
  rw [lO (out ++ mid) x rest _ (by simp)]
  simp only [aw, d x (by simp)]
  rw [fP (x := ((out.length + mid.length : Nat) : Int) + 1) (by omega) (by omega)]
  have ih := tI f1 p z rest
  cases hp : p x with
  | true =>
   simp only [bV, ay, aQ, aw]
   have := ih out (mid ++ [x]) n (by simp at h; omega) (by simp; omega) (by simp) (fun y g => d y (by simp [g]))
   simp only [aO, bw, ct, aH, aS, bo] at this ⊢
   rw [show ((out.length + mid.length : Nat) : Int) + 1 = ((out.length + (mid.length + (0 + 1)) : Nat) : Int) by omega, this]
   simp [hp]
  | false =>
   obtain ⟨m, a, rfl⟩ : ∃ m a, mid = m :: a := by cases mid with
    | nil => exact absurd rfl hm
    | cons m a => exact ⟨m, a, rfl⟩
   simp only [Bool.not_false, aT]
   rw [aO out (m :: a) (x :: rest), bw]
   rw [lO out m (a ++ x :: rest) _ rfl]
   simp only [aw]
   rw [fP (x := (out.length : Int) + 1) (by omega) (by simp at c; omega)]
   have := ih (out ++ [x]) (a ++ [x]) n (by simp at h; omega) (by simp at c ⊢; omega) (by simp) (fun y g => d y (by simp [g]))
   simp only [aO, bw, ct, aH, aS, bo] at this
   have i : (out ++ m :: (a ++ x :: rest)).set (Int.toNat (out.length : Int)) x = out ++ x :: (a ++ x :: rest) := by
    rw [cH, List.set_append_right _ _ (aM _)]; simp
   rw [i]
   simp only [aS] at c ⊢
   rw [show (out.length : Int) + 1 = ((out.length + (0 + 1) : Nat) : Int) by omega, show ((out.length + (a.length + 1) : Nat) : Int) + 1 = ((out.length + (0 + 1) + (a.length + (0 + 1)) : Nat) : Int) by omega, this]
   simp [hp]
def ru {α : Type} (f1 : α → Option Bool) : List α → Nat → Option Int
 | [], _ => some (-1)
 | x :: xs, i => (f1 x).bind fun r => if r then some (i : Int) else ru f1 xs (i + 1)
theorem tN {α : Type} (f1 : α → Option Bool) (p : α → Bool) : ∀ (l : List α) (i : Nat), (∀ x ∈ l, f1 x = some (p x)) →
  (ru f1 l i = some (-1) ∧ ∀ x ∈ l, p x = false) ∨ ∃ A x B, l = A ++ x :: B ∧ (∀ y ∈ A, p y = false) ∧ p x = true ∧ ru f1 l i = some ((i + A.length : Nat) : Int)
 | [], i, _ => .inl ⟨rfl, by simp⟩
 | x :: l, i, h => by
  rw [ru, h x (by simp)]
  simp only [aw]
  cases hp : p x with
  | true => exact .inr ⟨[], x, l, rfl, by simp, hp, by simp⟩
  | false =>
   simp only [ay, aQ]
   rcases tN f1 p l (i + 1) (fun y a => h y (by simp [a])) with ⟨h1, c⟩ | ⟨A, y, B, rfl, h1, c, g⟩
   ·exact .inl ⟨h1, by intro y a; rcases aB.1 a with rfl | a; exact hp; exact c y a⟩
   ·refine .inr ⟨x :: A, y, B, rfl, ?_, c, ?_⟩
    ·intro z d; rcases aB.1 d with rfl | d
     ·exact hp
     ·exact h1 z d
    ·rw [g]; simp; omega
def wx {α : Type} (f1 : α → Option Bool) (z : α) (l : List α) : Option (List α) :=
 (ru f1 l 0).bind fun a => if (a == (-1)) then some l else rk f1 z iu l a (wi0 .i64 (a + 1))
theorem xO {α : Type} (f1 : α → Option Bool) (p : α → Bool) (z : α) (l : List α) (d : l.length < 4611686018427387904) (h : ∀ x ∈ l, f1 x = some (p x)) : wx f1 z l = some (l.filter fun x => !p x) := by
 unfold wx
 rcases tN f1 p l 0 h with ⟨h1, c⟩ | ⟨A, x, B, rfl, h1, c, g⟩
 ·rw [h1]
  simp only [aw, bx, aT]
  rw [List.filter_eq_self.2 (fun y a => by simp [c y a])]
 ·rw [g]
  simp only [aw, er]
  rw [aF (by simp), fP (by omega) (by simp at d; omega)]
  have := tI f1 p z B A [x] iu (by rw [lX]; simp at d; omega) (by simpa using d) (by simp) (fun y a => h y (by simp [a]))
  simp only [aO, bw, ct, aS, bo] at this
  rw [show (A.length : Int) + 1 = ((A.length + (0 + 1) : Nat) : Int) by omega, this]
  have i : A.filter (fun x => !p x) = A := List.filter_eq_self.2 (fun y a => by simp [h1 y a])
  rw [List.filter_append, i]
  simp [c]
def iI {α : Type} (eq : α → α → Bool) : α → List α → List α
 | _, [] => []
 | p, y :: ys => if eq y p then iI eq y ys else y :: iI eq y ys
def dd {α : Type} (eq : α → α → Bool) : List α → List α
 | [] => []
 | x :: xs => x :: iI eq x xs
def qv {α : Type} (eq : α → α → Bool) (i : Int) : Nat → List α → Int → Int → Option (List α × Int)
 | 0, _, _, _ => none
 | n + 1, l, k, j => if decide (j < ((l.length - Int.toNat i : Nat) : Int)) then
   ((ju (l.drop (Int.toNat i)) j).bind fun x => (ju (l.drop (Int.toNat i)) (wi0 .i64 (j - 1))).bind fun y => if !(eq x y) then (ju (l.drop (Int.toNat i)) j).bind fun z => (ju l k).bind fun _ => some (l.set (Int.toNat k) z, wi0 .i64 (k + 1)) else some (l, k) : Option (List α × Int)).bind fun (a, k') => qv eq i n a k' (wi0 .i64 (j + 1))
  else some (l, k)
def rq {α : Type} (eq : α → α → Bool) (z : α) (l : List α) : Nat → Int → Option (List α)
 | 0, _ => none
 | n + 1, i => if decide (i < (l.length : Int)) then (ju l i).bind fun x => (ju l (wi0 .i64 (i - 1))).bind fun y => if eq x y then
    (jS (decide (0 ≤ i) && decide (i ≤ (l.length : Int)))).bind fun _ => (qv eq i iu l i 1).bind fun (a, k) => (jS (decide (0 ≤ k) && decide (k ≤ (a.length : Int)))).bind fun _ => (jS (decide (0 ≤ k) && decide (k ≤ ((je a (Int.toNat k) z).length : Int)))).bind fun _ => some ((je a (Int.toNat k) z).take (Int.toNat k))
   else rq eq z l n (wi0 .i64 (i + 1))
  else some l
def wv {α : Type} (eq : α → α → Bool) (z : α) (l : List α) : Option (List α) := if decide ((l.length : Int) < 2) then some l else rq eq z l iu 1
theorem tG {α : Type} (l : List α) (i : Nat) (j : Int) (a : 0 ≤ j) : ju (l.drop i) j = ju l ((i : Int) + j) := by
 obtain ⟨m, rfl⟩ : ∃ m : Nat, j = m := ⟨j.toNat, by omega⟩
 rw [show (i : Int) + (m : Int) = ((i + m : Nat) : Int) by omega, sr, sr, cg]
theorem rA {α : Type} (eq : α → α → Bool) (i : Nat) : ∀ (rest out mid : List α) (p : α) (n : Nat), rest.length < n → (out ++ (mid ++ [p]) ++ rest).length < 4611686018427387904 → 1 ≤ i → i ≤ out.length →
  ∃ c, qv eq (i : Int) n (out ++ (mid ++ [p]) ++ rest) (out.length : Int) ((out.length + mid.length + 1 - i : Nat) : Int) = some (c, ((out ++ iI eq p rest).length : Int)) ∧ c.take (out ++ iI eq p rest).length = out ++ iI eq p rest ∧ (out ++ iI eq p rest).length ≤ c.length
 | [], out, mid, p, 0, h, _, _, _ => by simp at h
 | [], out, mid, p, n + 1, h, o, h1, k => by
  rw [qv, aF (by simp; omega)]
  exact ⟨out ++ (mid ++ [p]) ++ [], by simp [iI], by simp [iI], by simp [iI]⟩
 | x :: rest, out, mid, p, 0, h, _, _, _ => by simp at h
 | x :: rest, out, mid, p, n + 1, h, o, h1, k => by
  have hlen : (out ++ (mid ++ [p]) ++ x :: rest).length = out.length + mid.length + rest.length + 2 := by simp; omega
  rw [hlen] at o
  rw [qv, aD (by rw [hlen]; simp; omega)]
  rw [cH, tG _ _ _ (by omega), lO (out ++ (mid ++ [p])) x rest _ (by simp; omega)]
  simp only [aw]
  rw [fP (x := ((out.length + mid.length + 1 - i : Nat) : Int) - 1) (by omega) (by omega), tG _ _ _ (by omega)]
  rw [show out ++ (mid ++ [p]) ++ x :: rest = (out ++ mid) ++ p :: (x :: rest) by simp]
  rw [lO (out ++ mid) p (x :: rest) _ (by simp; omega)]
  simp only [aw]
  rw [fP (x := ((out.length + mid.length + 1 - i : Nat) : Int) + 1) (by omega) (by omega)]
  cases hp : eq x p with
  | true =>
   simp only [bV, ay, aQ, aw]
   obtain ⟨c, d, g, j⟩ := rA eq i rest out (mid ++ [p]) x n (by simp at h; omega) (by simp; omega) h1 k
   refine ⟨c, ?_, by rw [iI, hp]; exact g, by rw [iI, hp]; exact j⟩
   rw [iI, hp, aD rfl, ← d]
   congr 1
   ·simp
   ·simp; omega
  | false =>
   simp only [Bool.not_false, aT]
   obtain ⟨m, a, hm⟩ : ∃ m a, mid ++ [p] = m :: a := by cases mid with
    | nil => exact ⟨p, [], rfl⟩
    | cons m a => exact ⟨m, a ++ [p], rfl⟩
   have s : a.length = mid.length := by have := aG List.length hm; simp at this; omega
   rw [show (out ++ mid) ++ p :: (x :: rest) = out ++ m :: (a ++ x :: rest) by rw [← bw, ← hm]; simp]
   rw [lO out m (a ++ x :: rest) _ rfl]
   simp only [aw]
   rw [fP (x := (out.length : Int) + 1) (by omega) (by omega)]
   have t : (out ++ m :: (a ++ x :: rest)).set (Int.toNat (out.length : Int)) x = (out ++ [x]) ++ (a ++ [x]) ++ rest := by
    rw [cH, List.set_append_right _ _ (aM _)]; simp
   rw [t]
   obtain ⟨c, d, g, j⟩ := rA eq i rest (out ++ [x]) a x n (by simp at h; omega) (by simp; omega) h1 (by simp; omega)
   refine ⟨c, ?_, ?_, ?_⟩
   ·rw [iI, hp, aF (by decide)]
    have q : ((out ++ x :: iI eq x rest).length : Int) = ((out ++ [x] ++ iI eq x rest).length : Int) := by simp
    rw [q, ← d]
    congr 1
    ·simp
    ·simp; omega
   ·rw [iI, hp, aF (by decide)]; simpa using g
   ·rw [iI, hp, aF (by decide)]; simpa using j
theorem um {α : Type} (eq : α → α → Bool) (z : α) : ∀ (rest pre : List α) (p : α) (n : Nat), rest.length < n → (pre ++ p :: rest).length < 4611686018427387904 →
  rq eq z (pre ++ p :: rest) n ((pre.length + 1 : Nat) : Int) = some (pre ++ p :: iI eq p rest)
 | [], pre, p, 0, h, _ => by simp at h
 | [], pre, p, n + 1, h, i => by rw [rq, aF (by simp)]; simp [iI]
 | x :: rest, pre, p, 0, h, _ => by simp at h
 | x :: rest, pre, p, n + 1, h, i => by
  have hlen : (pre ++ p :: x :: rest).length = pre.length + rest.length + 2 := by simp; omega
  rw [hlen] at i
  rw [rq, aD (by rw [hlen]; simp; omega)]
  rw [show pre ++ p :: x :: rest = (pre ++ [p]) ++ x :: rest by simp, lO (pre ++ [p]) x rest _ (by simp)]
  simp only [aw]
  rw [fP (x := ((pre.length + 1 : Nat) : Int) - 1) (by omega) (by omega)]
  rw [show (pre ++ [p]) ++ x :: rest = pre ++ p :: (x :: rest) by simp, lO pre p (x :: rest) _ (by omega)]
  simp only [aw]
  cases hp : eq x p with
  | true =>
   simp only [aT]
   rw [nX (by omega) (by rw [hlen]; omega)]
   simp only [aw]
   obtain ⟨j, a, g, d⟩ := rA eq (pre.length + 1) rest (pre ++ [p]) [] x iu (by rw [lX]; omega) (by simp; omega) (by omega) (by simp)
   simp only [aO, bw, ct, aH, aS, bo] at a g d
   rw [show (pre.length + (0 + 1) + 0 + 1 - (pre.length + 1) : Nat) = 1 by omega] at a
   rw [show ((pre.length + 1 : Nat) : Int) = ((pre.length + (0 + 1) : Nat) : Int) by omega] at *
   have c : qv eq ((pre.length + (0 + 1) : Nat) : Int) iu (pre ++ p :: x :: rest) ((pre.length + (0 + 1) : Nat) : Int) 1 = _ := a
   rw [c]
   simp only [aw]
   rw [nX (by omega) (by omega)]
   simp only [aw, cH]
   rw [nX (by omega) (by rw [kZ _ _ _ d]; omega)]
   simp only [aw]
   rw [qW _ _ _ d, g, iI, hp]
   simp
  | false =>
   simp only [ay, aQ]
   rw [fP (x := ((pre.length + 1 : Nat) : Int) + 1) (by omega) (by omega)]
   have := um eq z rest (pre ++ [p]) x n (by simp at h; omega) (by simp; omega)
   simp only [aO, bw, ct, aH, aS, bo] at this
   rw [show ((pre.length + 1 : Nat) : Int) + 1 = ((pre.length + (0 + 1) + 1 : Nat) : Int) by omega, this, iI, hp]
   simp
theorem xS {α : Type} (eq : α → α → Bool) (z : α) (l : List α) (a : l.length < 4611686018427387904) : wv eq z l = some (dd eq l) := by
 unfold wv
 cases l with
 | nil => rfl
 | cons x xs =>
  cases xs with
  | nil => simp [dd, iI]
  | cons y ys =>
   rw [aF (by simp; omega)]
   have := um eq z (y :: ys) [] x iu (by rw [lX]; simp at a ⊢; omega) (by simpa using a)
   simpa [dd] using this
structure pF {α : Type} (lt : α → α → Prop) (P : α → Prop) : Prop where
 irrefl : ∀ x, P x → ¬ lt x x
 trans : ∀ x y z, P x → P y → P z → lt x y → lt y z → lt x z
 total : ∀ x y, P x → P y → lt x y ∨ x = y ∨ lt y x
def mQ {α : Type} (lt : α → α → Prop) (P : α → Prop) (l out : List α) : Prop := out.Pairwise lt ∧ ∀ x, x ∈ out ↔ x ∈ l ∧ P x
theorem mQ.unique {α : Type} {lt : α → α → Prop} {P : α → Prop} (H : pF lt P) : ∀ {l a b : List α}, mQ lt P l a → mQ lt P l b → a = b := by
 have key : ∀ a b : List α, (∀ x ∈ a, P x) → a.Pairwise lt → b.Pairwise lt → (∀ x, x ∈ a ↔ x ∈ b) → a = b := by
  intro a
  induction a with
  | nil => intro b _ _ _ hm; cases b with
   | nil => rfl
   | cons y ys => exact absurd ((hm y).2 (by simp)) (by simp)
  | cons x xs ih =>
   intro b o j k hm
   cases b with
   | nil => exact absurd ((hm x).1 (by simp)) (by simp)
   | cons y ys =>
    have p : P y := o y ((hm y).2 (by simp))
    have c : P x := o x (by simp)
    have d := cP.1 j
    have g := cP.1 k
    have q : x = y := by
     rcases aB.1 ((hm x).1 (by simp)) with h | h
     ·exact h
     ·rcases aB.1 ((hm y).2 (by simp)) with n | n
      ·exact n.symm
      ·exact absurd (H.trans x y x c p c (d.1 y n) (g.1 x h)) (H.irrefl x c)
    subst q
    congr 1
    refine ih ys (fun z i => o z (by simp [i])) d.2 g.2 (fun z => ?_)
    constructor
    ·intro i
     rcases aB.1 ((hm z).1 (by simp [i])) with h | h
     ·subst h; exact absurd (d.1 z i) (H.irrefl z c)
     ·exact h
    ·intro i
     rcases aB.1 ((hm z).2 (by simp [i])) with h | h
     ·subst h; exact absurd (g.1 z i) (H.irrefl z c)
     ·exact h
 intro l a b j k
 exact key a b (fun x s => ((j.2 x).1 s).2) j.1 k.1 (fun x => (j.2 x).trans (k.2 x).symm)
theorem pM {α : Type} {eq : α → α → Bool} (he : ∀ x y, eq x y = true ↔ x = y) : ∀ (l : List α) (p x : α), x ∈ p :: iI eq p l ↔ x ∈ p :: l
 | [], p, x => by simp [iI]
 | y :: l, p, x => by
  rw [iI]
  split
  ·rename_i h
   have := (he y p).1 h
   subst this
   rw [pM he l y x]; simp
  ·have := pM he l y x
   simp only [aB] at this ⊢
   rw [this]
theorem zN {α : Type} {eq : α → α → Bool} (he : ∀ x y, eq x y = true ↔ x = y) (l : List α) (x : α) : x ∈ dd eq l ↔ x ∈ l := by
 cases l with
 | nil => simp [dd]
 | cons y l => exact pM he l y x
theorem oR {α : Type} {eq : α → α → Bool} {lt : α → α → Prop} {P : α → Prop} (he : ∀ x y, eq x y = true ↔ x = y) (H : pF lt P) : ∀ (l : List α) (p : α), (∀ x ∈ p :: l, P x) → (p :: l).Pairwise (fun a b => ¬ lt b a) → (p :: iI eq p l).Pairwise lt
 | [], p, _, _ => by simp [iI]
 | y :: l, p, c, o => by
  have h1 := cP.1 o
  rw [iI]
  split
  ·rename_i h
   have := (he y p).1 h
   subst this
   exact oR he H l y (fun x i => c x (cn _ i)) h1.2
  ·rename_i h
   have ih := oR he H l y (fun x i => c x (cn _ i)) h1.2
   refine cP.2 ⟨fun z n => ?_, ih⟩
   have g : lt p y := by
    rcases H.total p y (c p (by simp)) (c y (by simp)) with d | d | d
    ·exact d
    ·exact absurd ((he y p).2 d.symm) h
    ·exact absurd d (h1.1 y (by simp))
   rcases aB.1 n with rfl | j
   ·exact g
   ·have k : z ∈ y :: l := (pM he l y z).1 n
    exact H.trans p y z (c p (by simp)) (c y (by simp)) (c z (cn _ k)) g ((cP.1 ih).1 z j)
theorem wI {α : Type} {eq : α → α → Bool} {lt : α → α → Prop} {P : α → Prop} (he : ∀ x y, eq x y = true ↔ x = y) (H : pF lt P) (l : List α) (c : ∀ x ∈ l, P x) (d : l.Pairwise (fun a b => ¬ lt b a)) : (dd eq l).Pairwise lt := by
 cases l with
 | nil => simp [dd]
 | cons y l => exact oR he H l y c d
theorem te {α : Type} {le : α → α → Bool} {P : α → Prop} (i : ∀ a b c, P a → P b → P c → le a b = true → le b c = true → le a c = true) (h : ∀ a b, P a → P b → (le a b || le b a) = true) (l : List α) (d : ∀ x ∈ l, P x) :
  (l.mergeSort le).Pairwise (fun a b => le a b = true) := by
 have e : l = (l.attachWith P d).map Subtype.val := by simp
 have hm : ((l.attachWith P d).mergeSort fun a b => le a.1 b.1).map Subtype.val = l.mergeSort le := by
  conv => rhs; rw [e]
  exact dT (fun a _ b _ => rfl)
 rw [← hm, dx]
 exact du (le := fun (a b : {x // P x}) => le a.1 b.1) (fun a b c h1 g => i a.1 b.1 c.1 a.2 b.2 c.2 h1 g) (fun a b => h a.1 b.1 a.2 b.2) _
theorem uY {α : Type} {eq : α → α → Bool} {lt : α → α → Prop} {P : α → Prop} {cf : α × α → Option Int} {l : List α} (he : ∀ x y, eq x y = true ↔ x = y) (H : pF lt P) (g : ∀ x ∈ l, P x) (E : l.length < 4611686018427387904) (D : ∀ x y, P x → P y → ∃ c, cf (x, y) = some c ∧ (c < 0 ↔ lt x y)) : ∃ s, oB cf l = some s ∧ s.length = l.length ∧ mQ lt P l (dd eq s) := by
 have j : ∀ x y, P x → P y → (ke cf x y = true ↔ lt x y) := fun x y i o => by
  obtain ⟨c, h1, n⟩ := D x y i o
  unfold ke
  rw [h1]
  simpa using n
 have d : ∀ x y, P x → P y → (ke cf x y = false ↔ ¬ lt x y) := fun x y i o => by
  rw [← j x y i o]; simp
 have ok : qm cf l := by
  refine ⟨fun x i y o => ?_, fun x i => ?_, fun x i y o z w h1 n => ?_, fun x i y o h1 n => ?_, E⟩
  ·obtain ⟨c, h1, _⟩ := D x y (g x i) (g y o); exact ⟨c, h1⟩
  ·exact (d x x (g x i) (g x i)).2 (H.irrefl x (g x i))
  ·rw [j _ _ (g x i) (g y o)] at h1
   rw [j _ _ (g y o) (g z w)] at n
   rw [j _ _ (g x i) (g z w)]
   exact H.trans x y z (g x i) (g y o) (g z w) h1 n
  ·rw [d _ _ (g x i) (g y o)] at h1
   rw [d _ _ (g y o) (g x i)] at n
   rcases H.total x y (g x i) (g y o) with h | h | h
   ·exact absurd h h1
   ·exact h
   ·exact absurd h n
 refine ⟨_, xZ ok, by simp [kd], ?_, ?_⟩
 ·have k : ∀ x, x ∈ kd cf l ↔ x ∈ l := fun x => by simp [kd]
  refine wI he H _ (fun x i => g x ((k x).1 i)) ?_
  have := te (le := fun x y => !ke cf y x) (P := P) (fun a b c p q t h1 n => ?_) (fun a b p q => ?_) l g
  ·refine (this.imp_of_mem ?_ : _)
   intro a b p q h
   have u : a ∈ l := (k a).1 p
   have v : b ∈ l := (k b).1 q
   simp at h
   exact (d b a (g b v) (g a u)).1 h
  ·simp at h1 n ⊢
   rw [d _ _ q p] at h1
   rw [d _ _ t q] at n
   rw [d _ _ t p]
   intro A
   rcases H.total a b p q with h | h | h
   ·exact n (H.trans c a b t p q A h)
   ·subst h; exact n A
   ·exact h1 h
  ·simp only [cR, Bool.not_eq_true']
   rw [d _ _ q p, d _ _ p q]
   by_cases h : lt b a
   ·right; intro n; exact H.irrefl a p (H.trans a b a p q p n h)
   ·exact .inl h
 ·intro x
  rw [zN he]
  constructor
  ·intro i
   have : x ∈ l := by simpa [kd] using i
   exact ⟨this, g x this⟩
  ·intro i; simpa [kd] using i.1
theorem pY : ∀ a : List UInt8, Op.bytesLess a a = false
 | [] => rfl
 | x :: a => by simp [Op.bytesLess, pY a]
theorem uj (x y : UInt8) : x < y ∨ x = y ∨ y < x := by
 rcases Nat.lt_trichotomy x.toNat y.toNat with h | h | h
 ·exact .inl h
 ·exact .inr (.inl (UInt8.toNat_inj.1 h))
 ·exact .inr (.inr h)
theorem tU : ∀ a b c : List UInt8, Op.bytesLess a b = true → Op.bytesLess b c = true → Op.bytesLess a c = true
 | [], [], c, h1, _ => by simp [Op.bytesLess] at h1
 | _ :: _, [], c, h1, _ => by simp [Op.bytesLess] at h1
 | a, _ :: _, [], _, d => by simp [Op.bytesLess] at d
 | [], b :: g, c :: cs, _, _ => rfl
 | a :: ax, b :: g, c :: cs, h1, d => by
  simp only [Op.bytesLess, cR, cE, aU, beq_iff_eq] at h1 d ⊢
  rcases h1 with h1 | ⟨rfl, h1⟩
  ·rcases d with d | ⟨rfl, d⟩
   ·exact .inl (UInt8.lt_trans h1 d)
   ·exact .inl h1
  ·rcases d with d | ⟨rfl, d⟩
   ·exact .inl d
   ·exact .inr ⟨rfl, tU ax g cs h1 d⟩
theorem uk : ∀ a b : List UInt8, Op.bytesLess a b = true ∨ a = b ∨ Op.bytesLess b a = true
 | [], [] => .inr (.inl rfl)
 | [], _ :: _ => .inl rfl
 | _ :: _, [] => .inr (.inr rfl)
 | a :: ax, b :: c => by
  simp only [Op.bytesLess, cR, cE, aU, beq_iff_eq, bK]
  rcases uj a b with h | h | h
  ·exact .inl (.inl h)
  ·subst h
   rcases uk ax c with h | h | h
   ·exact .inl (.inr ⟨rfl, h⟩)
   ·exact .inr (.inl ⟨rfl, h⟩)
   ·exact .inr (.inr (.inr ⟨rfl, h⟩))
  ·exact .inr (.inr (.inl h))
theorem sk : ∀ a b : List UInt8, (Lib.compareBytes a b < 0 ↔ Op.bytesLess a b = true)
 | [], [] => by simp [Lib.compareBytes, Op.bytesLess]
 | [], _ :: _ => by simp [Lib.compareBytes, Op.bytesLess]
 | _ :: _, [] => by simp [Lib.compareBytes, Op.bytesLess]
 | a :: ax, b :: g => by
  simp only [Lib.compareBytes, Op.bytesLess, cR, cE, aU, beq_iff_eq]
  by_cases h : a < b
  ·simp [h]
  ·by_cases d : b < a
   ·have : a ≠ b := by rintro rfl; exact h d
    simp [h, d, this]
   ·have : a = b := by rcases uj a b with c | c | c; exact absurd c h; exact c; exact absurd c d
    subst this
    simp [h, sk ax g]
theorem uA : ∀ a b : List UInt8, (Lib.compareBytes a b = 0 ↔ a = b)
 | [], [] => by simp [Lib.compareBytes]
 | [], _ :: _ => by simp [Lib.compareBytes]
 | _ :: _, [] => by simp [Lib.compareBytes]
 | a :: ax, b :: g => by
  simp only [Lib.compareBytes, bK]
  by_cases h : a < b
  ·simp only [h, aT]
   constructor
   ·intro h; cases h
   ·rintro ⟨rfl, _⟩; exact absurd h (by simp)
  ·by_cases d : b < a
   ·simp only [h, d, aT, aQ]
    constructor
    ·intro h; cases h
    ·rintro ⟨rfl, _⟩; exact absurd d (by simp)
   ·have : a = b := by rcases uj a b with c | c | c; exact absurd c h; exact c; exact absurd c d
    subst this
    simp [h, uA ax g]
theorem su (a b : ByteArray) : nM a b = Op.bytesLess a.data.toList b.data.toList := by unfold nM; rw [cJ, cJ]
theorem pf {a b : ByteArray} (h : a.data.toList = b.data.toList) : a = b := ek (Array.toList_inj.1 h)
theorem rY (a : ByteArray) : nM a a = false := by rw [su, pY]
def og (b : UInt8) : Bool := decide (97 ≤ b.toNat) && decide (b.toNat ≤ 122)
def pp (b : UInt8) : Bool := og b || (decide (48 ≤ b.toNat) && decide (b.toNat ≤ 57)) || decide (b.toNat = 45)
def gh (s : ByteArray) : Bool := decide (1 ≤ s.size) && decide (s.size ≤ 16) && (match s.data.toList with | [] => false | b :: _ => og b) && s.data.toList.all pp
theorem gx {s : ByteArray} (h : gh s = true) : 1 ≤ s.size ∧ s.size ≤ 16 := by
 simp only [gh, aU, cE] at h
 exact h.1.1
theorem vV : ∀ n : Nat, n < 256 → decide (lY (⟨#[97, 98, 99, 100, 101, 102, 103, 104, 105, 106, 107, 108, 109, 110, 111, 112, 113, 114, 115, 116, 117, 118, 119, 120, 121, 122]⟩ : ByteArray) (n : Int) ≥ 0) = og (UInt8.ofNat n) := by decide +kernel
theorem xV : ∀ n : Nat, n < 256 → decide (lY (⟨#[97, 98, 99, 100, 101, 102, 103, 104, 105, 106, 107, 108, 109, 110, 111, 112, 113, 114, 115, 116, 117, 118, 119, 120, 121, 122, 48, 49, 50, 51, 52, 53, 54, 55, 56, 57, 45]⟩ : ByteArray) (n : Int) < 0) = !pp (UInt8.ofNat n) := by decide +kernel
theorem jE (s : ByteArray) : s.size = s.data.toList.length := by rw [bz]; rfl
theorem qR {s : ByteArray} (h : s.size ≤ 16) : pv s = some (iO s) := by
 unfold pv; rw [aD (by unfold maxLen; omega)]
theorem uw : ∀ l : List UInt8, kx (l.map fun b => (b.toNat : Int)) = some (l.all pp)
 | [] => rfl
 | b :: l => by
  rw [aR, kx]
  simp only [iQ, gC, aw]
  have a := xV b.toNat (dV b)
  rw [a]
  simp only [ei, List.all_cons]
  cases pp b with
  | true => simp [uw l]
  | false => simp
theorem tb {s : ByteArray} {b : UInt8} {l : List UInt8} (h : s.data.toList = b :: l) : nf s 0 = some b := by
 unfold nf
 rw [aD (Int.le_refl 0)]
 have a : s.data[0]? = some b := by rw [← bB, h]; rfl
 show s[0]? = some b
 rw [← a]
 rfl
theorem km (s : ByteArray) : ib s = some (gh s) := by
 unfold ib
 simp only [AY, aw, wq]
 by_cases h1 : 1 ≤ s.size
 ·by_cases a : s.size ≤ 16
  ·rw [aD (by simp; omega)]
   obtain ⟨b, l, c⟩ : ∃ b l, s.data.toList = b :: l := by
    cases h : s.data.toList with
    | nil => rw [jE, h] at h1; simp at h1
    | cons b l => exact ⟨b, l, rfl⟩
   rw [tb c]
   simp only [aw, iQ, gC]
   rw [vV b.toNat (dV b)]
   simp only [ei, gh, h1, a, c, dv, Bool.true_and]
   cases og b with
   | false => simp
   | true =>
    simp only [aT, oQ, qR a, aw, iO]
    rw [uw, c]
    simp
  ·rw [aF (by simp; omega)]
   simp [gh, a]
 ·rw [aF (by simp; omega)]
  simp [gh, h1]
theorem vg {s : ByteArray} {A B : List UInt8} {b : UInt8} (h : s.data.toList = A ++ b :: B) (i : Int) (c : i = (A.length : Int)) : nf s i = some b := by
 subst c
 unfold nf
 rw [aD (by omega), cH]
 have a : s.data[A.length]? = some b := by rw [← bB, h]; simp
 show s[A.length]? = some b
 rw [← a]
 rfl
theorem qa (s : ByteArray) (w : s.size ≤ 16) : ∀ (B A : List UInt8) (n : Nat), s.data.toList = A ++ B → B.length < n → jJ s n (A.length : Int) = some (B.all pp)
  | [], A, 0, _, h => by simp at h
  | [], A, n + 1, h, _ => by
    have : s.size = A.length := by rw [jE, h]; simp
    rw [jJ, aF (by rw [this]; simp)]
    rfl
  | b :: B, A, 0, _, h => by simp at h
  | b :: B, A, n + 1, h, v => by
    have k : s.size = A.length + B.length + 1 := by rw [jE, h]; simp; omega
    rw [jJ, aD (by rw [k]; simp; omega)]
    rw [vg h _ rfl]
    simp only [aw]
    rw [fP (x := (A.length : Int) + 1) (by omega) (by omega)]
    have ih := qa s w B (A ++ [b]) n (by rw [h]; simp) (by simp at v; omega)
    rw [show ((A ++ [b]).length : Int) = (A.length : Int) + 1 by simp] at ih
    simp only [List.all_cons]
    have j : ∀ n : Nat, n < 256 → pp (UInt8.ofNat n) = !((decide (n < 97) || decide (n > 122)) && (decide (n < 48) || decide (n > 57)) && decide (n ≠ 45)) := by decide +kernel
    have o := j b.toNat (dV b)
    simp only [ei] at o
    rw [o]
    by_cases h1 : b.toNat < 97 <;> by_cases p : b.toNat > 122 <;> by_cases q : b.toNat < 48 <;> by_cases t : b.toNat > 57 <;> by_cases u : b.toNat = 45 <;>
      first
      | omega
      | (have a : ((b.toNat : Int) < 97) = (b.toNat < 97) := by rw [dW]; omega
         have c : ((b.toNat : Int) > 122) = (b.toNat > 122) := by rw [dW]; omega
         have d : ((b.toNat : Int) < 48) = (b.toNat < 48) := by rw [dW]; omega
         have g : ((b.toNat : Int) > 57) = (b.toNat > 57) := by rw [dW]; omega
         have i : ((b.toNat : Int) != 45) = !decide (b.toNat = 45) := by rw [cA]; simp; omega
         simp [h1, p, q, t, u, a, c, d, g, i, ih])
theorem ns (a : ByteArray) : fF a a = true := gr.2 rfl
theorem yl {s : ByteArray} : s = zS ↔ s.size = 0 := by
 constructor
 ·rintro rfl; rfl
 ·intro h; exact pf (by rw [jE] at h; rw [bR.1 h]; rfl)
theorem ov (s : ByteArray) : kc s = some (gh s) := by
 unfold kc
 simp only [zl, aw, wq]
 by_cases g : s.size = 0
 ·have : s = zS := yl.2 g
  subst this
  rw [ns]
  rfl
 ·have o : fF s zS = false := by
   cases h : fF s zS with
   | false => rfl
   | true => exact absurd (yl.1 (gr.1 h)) g
  rw [o]
  simp only [Bool.false_or]
  by_cases i : s.size ≤ 16
  ·rw [aF (by simp; omega)]
   obtain ⟨b, l, k⟩ : ∃ b l, s.data.toList = b :: l := by
    cases h : s.data.toList with
    | nil => rw [jE, h] at g; simp at g
    | cons b l => exact ⟨b, l, rfl⟩
   rw [tb k]
   simp only [aw, zl]
   have n := qa s i s.data.toList [] iu rfl (by rw [lX, ← jE]; omega)
   simp only [bo] at n
   rw [show (0 : Int) = ((0 : Nat) : Int) from rfl] at *
   rw [n]
   have j : ((b.toNat : Int) < 97) = (b.toNat < 97) := by rw [dW]; omega
   have d : ((b.toNat : Int) > 122) = (b.toNat > 122) := by rw [dW]; omega
   have h1 : 1 ≤ s.size := by omega
   simp only [gh, h1, i, k, og, dv, Bool.true_and, j, d]
   by_cases a : b.toNat < 97
   ·simp [a, show ¬ 97 ≤ b.toNat by omega]
   ·by_cases c : b.toNat > 122
    ·simp [a, c, show ¬ b.toNat ≤ 122 by omega]
    ·simp [a, c, show 97 ≤ b.toNat by omega, show b.toNat ≤ 122 by omega]
  ·rw [aD (by simp; omega)]
   simp [gh, i]
def fE (r : fg) : Bool := gh r.eJ && gh r.eK
theorem oG (r : fg) : iA r = some (fE r) := by
 unfold iA fE
 simp only [km, aw]
 cases gh r.eJ <;> simp
theorem rl (r : fg) : kY r = some (fE r) := by
 unfold kY fE
 simp only [ov, aw]
 cases gh r.eJ <;> simp
def rK (a b : fg) : Bool := nM a.eJ b.eJ || (fF a.eJ b.eJ && nM a.eK b.eK)
theorem rR (a b : fg) : oq a b = some (rK a b) := by
 unfold oq rK
 cases nM a.eJ b.eJ <;> cases fF a.eJ b.eJ <;> simp
theorem sy {a b : fg} : rK a b = true ↔ nM a.eJ b.eJ = true ∨ (a.eJ = b.eJ ∧ nM a.eK b.eK = true) := by
 simp [rK, gr]
theorem qM (a b : fg) : ∃ c, lQ a b = some c ∧ (c < 0 ↔ rK a b = true) := by
 unfold lQ
 simp only [kw, ir, aw, od, lu]
 have h1 : ∀ a b : ByteArray, (kk a b < 0 ↔ nM a b = true) := fun a b => by rw [su]; exact sk _ _
 have g : ∀ a b : ByteArray, (kk a b = 0 ↔ a = b) := fun a b => by
  unfold kk; rw [uA]; exact ⟨pf, fun h => by rw [h]⟩
 by_cases e : kk a.eJ b.eJ = 0
 ·rw [aF (by simp [e])]
  have e' := (g _ _).1 e
  by_cases d : kk a.eK b.eK = 0
  ·rw [aF (by simp [d])]
   refine ⟨0, rfl, ?_⟩
   rw [sy, e', (g _ _).1 d]
   simp [rY]
  ·rw [aD (by simp [d])]
   refine ⟨_, rfl, ?_⟩
   rw [sy, e', h1]
   simp [rY]
 ·rw [aD (by simp [e])]
  refine ⟨_, rfl, ?_⟩
  rw [sy, h1]
  have : a.eJ ≠ b.eJ := fun h => e ((g _ _).2 h)
  simp [this]
def zR : fg := ⟨zS, zS⟩
theorem ql (a b : ByteArray) : fF a b = fF b a := by rw [cA, gr, gr]; exact eq_comm
theorem qj (a b : fg) : gB a b = gB b a := by rw [cA, iX, iX]; exact eq_comm
theorem mM (a : fg) : gB a a = true := iX.2 rfl
def fy (c : eH) : Bool := fE c.Head && (
 if c.Kind == 1 then gh c.fa && gB zR c.B && gB zR c.C && fF zS c.eX
 else if c.Kind == 2 then fE c.B && fF zS c.fa && gB zR c.C && fF zS c.eX
 else if c.Kind == 3 then fE c.B && fF c.B.eJ c.Head.eJ && gh c.eX && fF zS c.fa && gB zR c.C
 else if c.Kind == 4 then fE c.B && fE c.C && rK c.B c.C && fF zS c.fa && fF zS c.eX
 else false)
theorem kj (c : eH) : iC c = some (fy c) := by
 unfold iC fy
 simp only [oG, km, aw]
 obtain ⟨k, hk, a⟩ := qM c.B c.C
 rw [hk]
 have d : decide (k < 0) = rK c.B c.C := by rw [cA, ← a]; simp
 simp only [aw, d]
 by_cases h1 : c.Kind = 1
 ·cases fE c.Head <;> cases gh c.fa <;> simp [h1, iJ, mM, ns, zR, dX]
 ·by_cases g : c.Kind = 2
  ·cases fE c.Head <;> cases fE c.B <;> simp [g, iJ, mM, ns, zR, dX]
  ·by_cases h : c.Kind = 3
   ·cases fE c.Head <;> cases fE c.B <;> cases fF c.B.eJ c.Head.eJ <;> cases gh c.eX <;> simp [h, iJ, mM, ns, zR, dX]
   ·by_cases i : c.Kind = 4
    ·cases fE c.Head <;> cases fE c.B <;> cases fE c.C <;> cases rK c.B c.C <;> simp [i, iJ, mM, ns, zR, dX]
    ·simp [h1, g, h, i]
theorem kW (c : eH) : lf c = some (fy c) := by
 unfold lf fy
 simp only [rl, ov, rR, aw]
 rw [show (⟨zS, zS⟩ : fg) = zR from rfl, qj c.B zR, qj c.C zR, ql c.eX zS, ql c.fa zS]
 by_cases h1 : c.Kind = 1
 ·cases fE c.Head <;> cases gh c.fa <;> cases gB zR c.B <;> cases gB zR c.C <;> simp [h1]
 ·by_cases a : c.Kind = 2
  ·cases fE c.Head <;> cases fE c.B <;> cases fF zS c.fa <;> cases gB zR c.C <;> simp [a]
  ·by_cases d : c.Kind = 3
   ·cases fE c.Head <;> cases fE c.B <;> cases fF zS c.fa <;> cases gB zR c.C <;> cases fF c.B.eJ c.Head.eJ <;> simp [d]
   ·by_cases g : c.Kind = 4
    ·cases fE c.Head <;> cases fE c.B <;> cases fF zS c.fa <;> cases fF zS c.eX <;> cases fE c.C <;> simp [g]
    ·cases fE c.Head <;> cases fE c.B <;> cases fF zS c.fa <;> simp [h1, a, d, g]
theorem qK {α : Type} {b : Nat} {l m : List α} (h : (l.length + m.length) * b ≤ 140737488355328) (a : l.length + m.length ≤ 9223372036854775807) : kN b l m = some (l ++ m) := by
 unfold kN; rw [aD ⟨h, by unfold maxLen; omega⟩]
theorem pK {l m : List Int} (h : l.length + m.length ≤ 1000000) : kN 1 l m = some (l ++ m) := qK (by omega) (by omega)
def ki (s : ByteArray) : List Int := (s.size : Int) :: iO s
def im (r : fg) : List Int := ki r.eJ ++ ki r.eK
def lx (c : eH) : List Int := if c.Kind = 1 then ki c.fa else if c.Kind = 2 then im c.B else if c.Kind = 3 then im c.B ++ ki c.eX else im c.B ++ im c.C
def fu (c : eH) : List Int := c.Kind :: (im c.Head ++ lx c)
theorem jd (s : ByteArray) : (ki s).length = s.size + 1 := by simp [ki, gf]
theorem fU {r : fg} (h : fE r = true) : (im r).length ≤ 34 := by
 simp only [fE, aU] at h
 have h1 := gx h.1
 have a := gx h.2
 simp [im, jd]; omega
theorem qt {l : List Int} {n : Int} (a : 0 ≤ n) (h1 : n < 128) (c : l.length ≤ 100000) : iP l n = some (true, l ++ [n]) := by
 have hw : IntKind.u8.wrap n = n := by
  obtain ⟨k, rfl⟩ : ∃ k : Nat, n = k := ⟨n.toNat, by omega⟩
  have : ∀ k : Nat, k < 128 → IntKind.u8.wrap (k : Int) = (k : Int) := by decide +kernel
  exact this k (by omega)
 unfold iP
 rw [aF (by simp; omega), tS, gZ, aF (by simp; omega), hw, pK (by simp; omega)]
 rfl
theorem qH {l : List Int} {s : ByteArray} (h : gh s = true) (a : l.length ≤ 10000) : jM l s = some (true, l ++ ki s) := by
 have h1 := gx h
 unfold jM
 simp only [km, aw, h, aT, qR h1.2]
 unfold jw
 rw [aF (by rw [gf]; simp; omega)]
 rw [gf, qt (by omega) (by omega) (by omega)]
 simp only [aw]
 rw [pK (by simp [gf]; omega)]
 simp [ki]
theorem xR {l : List Int} {r : fg} (h : fE r = true) (c : l.length ≤ 9000) : iz l r = some (true, l ++ im r) := by
 have a := h
 simp only [fE, aU] at h
 have h1 := gx h.1
 unfold iz
 simp only [oG, aw, a, aT]
 rw [qH h.1 (by omega)]
 simp only [aw, aT]
 rw [qH h.2 (by simp [jd]; omega)]
 simp [im]
theorem pk {l : List Int} {r : fg} (h : fE r = true) (a : l.length ≤ 1000) : iz l r = some (true, l ++ im r) := xR h (by omega)
theorem mi {c : eH} (h : fy c = true) : fE c.Head = true := by
 simp only [fy, aU] at h; exact h.1
theorem hZ {c : eH} (h : fy c = true) :
  (c.Kind = 1 ∧ gh c.fa = true ∧ c.B = zR ∧ c.C = zR ∧ c.eX = zS) ∨
  (c.Kind = 2 ∧ fE c.B = true ∧ c.fa = zS ∧ c.C = zR ∧ c.eX = zS) ∨
  (c.Kind = 3 ∧ fE c.B = true ∧ gh c.eX = true ∧ c.B.eJ = c.Head.eJ ∧ c.fa = zS ∧ c.C = zR) ∨
  (c.Kind = 4 ∧ fE c.B = true ∧ fE c.C = true ∧ rK c.B c.C = true ∧ c.fa = zS ∧ c.eX = zS) := by
 simp only [fy, aU] at h
 obtain ⟨_, h⟩ := h
 split at h
 ·rename_i h1
  simp only [aU, iX, gr] at h
  exact .inl ⟨by simpa using h1, h.1.1.1, h.1.1.2.symm, h.1.2.symm, h.2.symm⟩
 ·split at h
  ·rename_i h1
   simp only [aU, iX, gr] at h
   exact .inr (.inl ⟨by simpa using h1, h.1.1.1, h.1.1.2.symm, h.1.2.symm, h.2.symm⟩)
  ·split at h
   ·rename_i h1
    simp only [aU, iX, gr] at h
    exact .inr (.inr (.inl ⟨by simpa using h1, h.1.1.1.1, h.1.1.2, h.1.1.1.2, h.1.2.symm, h.2.symm⟩))
   ·split at h
    ·rename_i h1
     simp only [aU, iX, gr] at h
     exact .inr (.inr (.inr ⟨by simpa using h1, h.1.1.1.1, h.1.1.1.2, h.1.1.2, h.1.2.symm, h.2.symm⟩))
    ·cases h
theorem mP (c : eH) : ic c = some (if fy c then fu c else []) := by
 unfold ic
 rw [kj]
 simp only [aw]
 cases h : fy c with
 | false => simp
 | true =>
  have i := mi h
  have j := fU i
  simp only [bV, ay, aQ, aT]
  have hk : 0 ≤ c.Kind ∧ c.Kind < 128 := by rcases hZ h with h | h | h | h <;> omega
  rw [qt hk.1 hk.2 (by simp)]
  simp only [aw]
  rw [pk i (by simp)]
  simp only [aw, iq, gp]
  rcases hZ h with ⟨k, h1, _⟩ | ⟨k, h1, _⟩ | ⟨k, h1, a, _⟩ | ⟨k, h1, a, _⟩
  ·have d := gx h1
   simp only [k, bx, aT, qH h1 (show (([] ++ [(1:Int)]) ++ im c.Head).length ≤ 10000 by simp; omega), aw]
   rw [pK (by simp [jd]; omega)]
   simp [fu, lx, k]
  ·have d := fU h1
   simp only [k, show ((2 : Int) == 1) = false from rfl, ay, bx, aT, aQ, pk h1 (show (([] ++ [(2:Int)]) ++ im c.Head).length ≤ 1000 by simp; omega), aw]
   rw [pK (by simp; omega)]
   simp [fu, lx, k]
  ·have d := fU h1
   have g := gx a
   simp only [k, show ((3 : Int) == 1) = false from rfl, show ((3 : Int) == 2) = false from rfl, ay, bx, aT, aQ, pk h1 (show (([] ++ [(3:Int)]) ++ im c.Head).length ≤ 1000 by simp; omega), aw]
   rw [qH a (by simp; omega)]
   simp only [aw]
   rw [pK (by simp [jd]; omega)]
   simp [fu, lx, k]
  ·have d := fU h1
   have g := fU a
   simp only [k, show ((4 : Int) == 1) = false from rfl, show ((4 : Int) == 2) = false from rfl, show ((4 : Int) == 3) = false from rfl, ay, bx, aT, aQ, pk h1 (show (([] ++ [(4:Int)]) ++ im c.Head).length ≤ 1000 by simp; omega), aw]
   rw [pk a (by simp; omega)]
   simp only [aw]
   rw [pK (by simp; omega)]
   simp [fu, lx, k]
def iZ (l : List Int) : ByteArray := ⟨(lE l).toArray⟩
theorem lC (l : List Int) : (iZ l).data.toList = lE l := rfl
theorem sa : ∀ (l : List Int) (r : ByteArray), (l.foldl (fun r n => r.push (UInt8.ofNat n.toNat)) r).data.toList = r.data.toList ++ lE l
 | [], r => by simp [lE]
 | x :: l, r => by
  rw [ez, sa l]
  show ((r.data.push _).toList) ++ _ = _
  simp [lE]
theorem mE (l : List Int) : jU l = iZ l := pf (by unfold jU; rw [sa]; rfl)
theorem ow (l : List Int) : (iZ l).size = l.length := by rw [jE, lC]; simp [lE]
theorem wE (a b : List Int) : lE (a ++ b) = lE a ++ lE b := by simp [lE]
theorem jk (a b : List Int) (h : a.length + b.length ≤ 1000000) : mB (iZ a) (iZ b) = some (iZ (a ++ b)) := by
 unfold mB
 rw [aF]
 ·congr 1
  refine pf ?_
  rw [lC, wE, ← lC a, ← lC b]
  exact ByteArray.toList_data_append ▸ rfl
 ·rw [ow, ow]
  show ¬ (_ > (9223372036854775807 : Int))
  omega
theorem nP (s : ByteArray) : iZ (iO s) = s := pf (by rw [lC]; simp [lE, iO, Function.comp_def])
theorem sU {n : Int} (a : 0 ≤ n) (h1 : n < 128) : ma n = some (iZ [n]) := by
 have hw : IntKind.u8.wrap n = n := by
  obtain ⟨k, rfl⟩ : ∃ k : Nat, n = k := ⟨n.toNat, by omega⟩
  have : ∀ k : Nat, k < 128 → IntKind.u8.wrap (k : Int) = (k : Int) := by decide +kernel
  exact this k (by omega)
 unfold ma
 rw [tS, mc, aF (by simp; omega), hw, mE, show zS = iZ [] from rfl, jk _ _ (by simp)]
 rfl
theorem qG {s : ByteArray} (h : gh s = true) : kF s = some (iZ (ki s)) := by
 have h1 := gx h
 unfold kF
 rw [sU (by omega) (by omega)]
 simp only [aw]
 have := jk [(s.size : Int)] (iO s) (by rw [gf]; simp; omega)
 rw [nP] at this
 rw [this]
 simp [ki]
theorem pr {r : fg} (h : fE r = true) : lg r = some (iZ (im r)) := by
 simp only [fE, aU] at h
 have h1 := gx h.1
 have a := gx h.2
 unfold lg
 rw [qG h.1, qG h.2]
 simp only [aw]
 rw [jk _ _ (by simp [jd]; omega)]
 rfl
theorem mC (c : eH) : lb c = some (iZ (if fy c then fu c else [])) := by
 unfold lb
 rw [kW]
 simp only [aw]
 cases h : fy c with
 | false => rfl
 | true =>
  have i := mi h
  have j := fU i
  simp only [bV, ay, aQ, aT]
  have hk : 0 ≤ c.Kind ∧ c.Kind < 128 := by rcases hZ h with h | h | h | h <;> omega
  unfold la
  rw [sU hk.1 hk.2, pr i]
  simp only [aw]
  rw [jk _ _ (by simp; omega)]
  simp only [aw]
  rcases hZ h with ⟨k, h1, _⟩ | ⟨k, h1, _⟩ | ⟨k, h1, a, _⟩ | ⟨k, h1, a, _⟩
  ·have d := gx h1
   simp only [k, bx, aT, qG h1, aw]
   rw [jk _ _ (by simp [jd]; omega)]
   simp [fu, lx, k]
  ·have d := fU h1
   simp only [k, show ((2 : Int) == 1) = false from rfl, show ((2 : Int) == 3) = false from rfl, show ((2 : Int) == 4) = false from rfl, ay, aQ, pr h1, aw]
   rw [jk _ _ (by simp; omega)]
   simp [fu, lx, k]
  ·have d := fU h1
   have g := gx a
   simp only [k, show ((3 : Int) == 1) = false from rfl, show ((3 : Int) == 4) = false from rfl, ay, bx, aT, aQ, pr h1, aw]
   rw [jk _ _ (by simp; omega)]
   simp only [aw, qG a]
   rw [jk _ _ (by simp [jd]; omega)]
   simp [fu, lx, k]
  ·have d := fU h1
   have g := fU a
   simp only [k, show ((4 : Int) == 1) = false from rfl, show ((4 : Int) == 3) = false from rfl, ay, bx, aT, aQ, pr h1, aw]
   rw [jk _ _ (by simp; omega)]
   simp only [aw, pr a]
   rw [jk _ _ (by simp; omega)]
   simp [fu, lx, k]
def uv (c : eH) : List UInt8 := lE (if fy c then fu c else [])
def oP (a b : eH) : Bool := Op.bytesLess (uv a) (uv b)
theorem qL (a b : eH) : ∃ c, jG a b = some c ∧ (c < 0 ↔ oP a b = true) := by
 unfold jG
 rw [mP, mP]
 exact ⟨_, rfl, sk _ _⟩
theorem qq (a b : eH) : ∃ c, kf a b = some c ∧ (c < 0 ↔ oP a b = true) := by
 unfold kf
 rw [mC, mC]
 simp only [aw]
 have h : nM (iZ (if fy a then fu a else [])) (iZ (if fy b then fu b else [])) = oP a b := by rw [su]; rfl
 rw [h]
 cases oP a b with
 | true => exact ⟨_, rfl, by decide⟩
 | false =>
  simp only [ay, aQ, Bool.false_or]
  cases d : fF (iZ (if fy a then fu a else [])) (iZ (if fy b then fu b else [])) with
  | true => exact ⟨0, by simp, by decide⟩
  | false => exact ⟨1, by simp, by decide⟩
theorem zK {a b : Int} (c : 0 ≤ a ∧ a < 256) (d : 0 ≤ b ∧ b < 256) (h : a.toNat.toUInt8 = b.toNat.toUInt8) : a = b := by
 have := aG UInt8.toNat h
 simp only [UInt8.toNat_ofNat', Nat.toUInt8] at this
 simp at this
 omega
theorem sx : ∀ {a b : List Int}, (∀ x ∈ a, 0 ≤ x ∧ x < 256) → (∀ x ∈ b, 0 ≤ x ∧ x < 256) → lE a = lE b → a = b
 | [], [], _, _, _ => rfl
 | [], _ :: _, _, _, h => by simp [lE] at h
 | _ :: _, [], _, _, h => by simp [lE] at h
 | x :: a, y :: b, d, g, h => by
  simp only [lE, aR, bK] at h
  rw [zK (d x (by simp)) (g y (by simp)) h.1, sx (fun z c => d z (by simp [c])) (fun z c => g z (by simp [c])) h.2]
theorem nn {s : ByteArray} (h : gh s = true) : ∀ x ∈ ki s, 0 ≤ x ∧ x < 256 := by
 have h1 := gx h
 intro x a
 rcases aB.1 a with rfl | a
 ·omega
 ·simp only [iO, aP] at a
  obtain ⟨b, _, rfl⟩ := a
  have := dV b
  omega
theorem me {r : fg} (h : fE r = true) : ∀ x ∈ im r, 0 ≤ x ∧ x < 256 := by
 simp only [fE, aU] at h
 intro x a
 rcases aV.1 a with a | a
 ·exact nn h.1 x a
 ·exact nn h.2 x a
theorem nh {c : eH} (h : fy c = true) : ∀ x ∈ fu c, 0 ≤ x ∧ x < 256 := by
 intro x a
 rcases aB.1 a with rfl | a
 ·rcases hZ h with h | h | h | h <;> omega
 ·rcases aV.1 a with a | a
  ·exact me (mi h) x a
  ·unfold lx at a
   rcases hZ h with ⟨k, h1, _⟩ | ⟨k, h1, _⟩ | ⟨k, h1, d, _⟩ | ⟨k, h1, d, _⟩
   ·rw [aD k] at a; exact nn h1 x a
   ·rw [aF (by omega), aD k] at a; exact me h1 x a
   ·rw [aF (by omega), aF (by omega), aD k] at a
    rcases aV.1 a with a | a
    ·exact me h1 x a
    ·exact nn d x a
   ·rw [aF (by omega), aF (by omega), aF (by omega)] at a
    rcases aV.1 a with a | a
    ·exact me h1 x a
    ·exact me d x a
theorem wo {s t : ByteArray} (h : iO s = iO t) : s = t := by rw [← nP s, h, nP]
theorem oD {s t : ByteArray} {X Y : List Int} (h : ki s ++ X = ki t ++ Y) : s = t ∧ X = Y := by
 simp only [ki, bw, bK] at h
 obtain ⟨h1, a⟩ := h
 have c : (iO s).length = (iO t).length := by rw [gf, gf]; omega
 have := List.append_inj a c
 exact ⟨wo this.1, this.2⟩
theorem nx {a b : fg} {X Y : List Int} (h : im a ++ X = im b ++ Y) : a = b ∧ X = Y := by
 simp only [im, aO] at h
 obtain ⟨h1, d⟩ := oD h
 obtain ⟨c, g⟩ := oD d
 exact ⟨by cases a; cases b; simp at h1 c; simp [h1, c], g⟩
theorem xm {a b : eH} (s : fy a = true) (u : fy b = true) (h : fu a = fu b) : a = b := by
 simp only [fu, bK] at h
 obtain ⟨hk, q⟩ := h
 obtain ⟨p, h⟩ := nx q
 clear q
 have j : ∀ {X Y : List Int}, X = Y → X ++ [] = Y ++ [] := fun h => by rw [h]
 unfold lx at h
 obtain ⟨E, t, G, y, A, w⟩ := a
 obtain ⟨F, v, I, z, D, x⟩ := b
 simp only at hk p h
 subst hk p
 rcases hZ s with ⟨k, h1, d, g, c⟩ | ⟨k, h1, d, g, c⟩ | ⟨k, h1, d, g, c, i⟩ | ⟨k, h1, d, g, c, i⟩ <;>
 rcases hZ u with ⟨k', g1, g2, g3, g4⟩ | ⟨k', g1, g2, g3, g4⟩ | ⟨k', g1, g2, g3, g4, g5⟩ | ⟨k', g1, g2, g3, g4, g5⟩ <;> simp only at k k' d g c g2 g3 g4 <;> (try omega)
 ·rw [aD k, aD k] at h
  simp [oD (j h), d, g, c, g2, g3, g4]
 ·rw [aF (by omega), aD k, aF (by omega), aD k] at h
  simp [nx (j h), d, g, c, g2, g3, g4]
 ·rw [aF (by omega), aF (by omega), aD k, aF (by omega), aF (by omega), aD k] at h
  obtain ⟨n, o⟩ := nx h
  simp only at i g5
  simp [n, oD (j o), c, i, g4, g5]
 ·rw [aF (by omega), aF (by omega), aF (by omega), aF (by omega), aF (by omega), aF (by omega)] at h
  obtain ⟨n, o⟩ := nx h
  simp only at i g5
  simp [n, nx (j o), c, i, g4, g5]
theorem rE : pF (fun a b => oP a b = true) (fun c => fy c = true) := by
 refine ⟨fun x _ h => ?_, fun x y z _ _ _ h1 i => tU _ _ _ h1 i, fun x y d g => ?_⟩
 ·unfold oP at h; rw [pY] at h; cases h
 ·rcases uk (uv x) (uv y) with h | h | h
  ·exact .inl h
  ·refine .inr (.inl (xm d g ?_))
   unfold uv at h
   rw [aD d, aD g] at h
   exact sx (nh d) (nh g) h
  ·exact .inr (.inr h)
def kH {α : Type} (R : α → Bool) (lt : α → α → Bool) (last : Option α) : List α → Bool → α → Bool × α
 | [], ok, b => (ok, b)
 | x :: xs, ok, b => if R x && last.all (fun y => lt y x) && (!ok || lt x b) then kH R lt last xs true x else kH R lt last xs ok b
def tH {α : Type} (w : Nat) (R : α → Bool) (lt : α → α → Bool) (d : α) (l : List α) : Nat → List α → Option (List α)
 | 0, _ => none
 | n + 1, out => if !(kH R lt out.getLast? l false d).1 then some out else (kN w out [(kH R lt out.getLast? l false d).2]).bind fun o => tH w R lt d l n o
section
variable {α : Type} {R : α → Bool} {lt : α → α → Bool}
theorem qp (H : pF (fun a b => lt a b = true) (fun x => R x = true)) (last : Option α) : ∀ (l : List α) (ok : Bool) (b : α), (ok = true → R b = true ∧ last.all (fun y => lt y b) = true) →
  ((kH R lt last l ok b).1 = false → ok = false ∧ ∀ x ∈ l, R x = true → last.all (fun y => lt y x) = false) ∧
  ((kH R lt last l ok b).1 = true → R (kH R lt last l ok b).2 = true ∧ last.all (fun y => lt y (kH R lt last l ok b).2) = true ∧ ((kH R lt last l ok b).2 ∈ l ∨ (ok = true ∧ (kH R lt last l ok b).2 = b)) ∧
   (∀ x ∈ l, R x = true → last.all (fun y => lt y x) = true → lt x (kH R lt last l ok b).2 = false) ∧ (ok = true → lt b (kH R lt last l ok b).2 = false))
 | [], ok, b, j => by
  simp only [kH]
  exact ⟨fun h => ⟨h, by simp⟩, fun h => ⟨(j h).1, (j h).2, .inr ⟨h, trivial⟩, by simp, fun _ => by
   cases n : lt b b with
   | false => rfl
   | true => exact absurd n (H.irrefl b (j h).1)⟩⟩
 | x :: xs, ok, b, j => by
  rw [kH]
  by_cases k : (R x && last.all (fun y => lt y x) && (!ok || lt x b)) = true
  ·rw [aD k]
   simp only [aU, cR, Bool.not_eq_true'] at k
   obtain ⟨⟨A, t⟩, u⟩ := k
   obtain ⟨h1, s⟩ := qp H last xs true x (fun _ => ⟨A, t⟩)
   refine ⟨fun h => ?_, fun h => ?_⟩
   ·cases (h1 h).1
   ·obtain ⟨p, a2, a3, a4, a5⟩ := s h
    refine ⟨p, a2, ?_, ?_, ?_⟩
    ·rcases a3 with a3 | ⟨_, a3⟩
     ·exact .inl (by simp [a3])
     ·exact .inl (by rw [a3]; simp)
    ·intro y g c d
     rcases aB.1 g with rfl | g
     ·exact a5 rfl
     ·exact a4 y g c d
    ·intro i
     cases n : lt b (kH R lt last xs true x).2 with
     | false => rfl
     | true =>
      have v : lt x b = true := by rcases u with h | h; rw [i] at h; cases h; exact h
      have := H.trans x b _ A (j i).1 p v n
      simp only [a5 rfl] at this
      cases this
  ·rw [aF k]
   obtain ⟨h1, s⟩ := qp H last xs ok b j
   refine ⟨fun h => ⟨(h1 h).1, fun y g c => ?_⟩, fun h => ?_⟩
   ·rcases aB.1 g with rfl | g
    ·have i := (h1 h).1
     cases t : last.all (fun z => lt z y) with
     | false => rfl
     | true => exact absurd (by simp [c, t, i]) k
    ·exact (h1 h).2 y g c
   ·obtain ⟨p, a2, a3, a4, a5⟩ := s h
    refine ⟨p, a2, ?_, ?_, a5⟩
    ·rcases a3 with a3 | a3
     ·exact .inl (by simp [a3])
     ·exact .inr a3
    ·intro y g c d
     rcases aB.1 g with rfl | g
     ·cases n : lt y (kH R lt last xs ok b).2 with
      | false => rfl
      | true =>
       cases ok with
       | false => exact absurd (by simp [c, d]) k
       | true =>
        have w : lt y b = false := by
         cases D : lt y b with
         | false => rfl
         | true => exact absurd (by simp [c, d, D]) k
        have q := j rfl
        rcases H.total y b c q.1 with o | o | o
        ·rw [w] at o; cases o
        ·subst o; rw [a5 rfl] at n; cases n
        ·have := H.trans b y _ q.1 c p o n
         simp only [a5 rfl] at this
         cases this
     ·exact a4 y g c d
theorem nk (H : pF (fun a b => lt a b = true) (fun x => R x = true)) {l : List α} (d : ∀ x ∈ l, R x = true) (h : l.Pairwise (fun a b => lt a b = true)) : l.Nodup := by
 refine h.imp_of_mem (fun {a b} g i c e => ?_)
 subst e
 exact H.irrefl a (d a g) c
theorem ja : ∀ {l m : List α}, l.Nodup → (∀ x ∈ l, x ∈ m) → l.length ≤ m.length
 | [], _, _, _ => by simp
 | x :: l, m, g, c => by
  obtain ⟨A, B, rfl⟩ := List.append_of_mem (c x (by simp))
  have a := bX.1 g
  have := ja (l := l) (m := A ++ B) a.2 (fun y d => by
   have := c y (cn _ d)
   simp only [aV, aB] at this ⊢
   rcases this with h | h | h
   ·exact .inl h
   ·subst h; exact absurd d a.1
   ·exact .inr h)
  simp at this ⊢; omega
theorem ta (H : pF (fun a b => lt a b = true) (fun x => R x = true)) {w : Nat} (hw : w ≤ 1000) (d : α) (l : List α) (I : l.length ≤ 1000000000) : ∀ (n : Nat) (out : List α), l.length < n + out.length → out.Pairwise (fun a b => lt a b = true) → (∀ x ∈ out, x ∈ l ∧ R x = true) →
  (∀ x ∈ l, R x = true → x ∈ out ∨ out.getLast?.all (fun y => lt y x) = true) → ∃ s, tH w R lt d l n out = some s ∧ mQ (fun a b => lt a b = true) (fun x => R x = true) l s
 | 0, out, J, hp, hm, v => by
  exfalso
  have := ja (nk H (fun x c => (hm x c).2) hp) (fun x c => (hm x c).1)
  omega
 | n + 1, out, J, hp, hm, v => by
  rw [tH]
  obtain ⟨h1, F⟩ := qp H out.getLast? l false d (fun h => by cases h)
  have hlen := ja (nk H (fun x c => (hm x c).2) hp) (fun x c => (hm x c).1)
  cases E : (kH R lt out.getLast? l false d).1 with
  | false =>
   rw [aD (by simp)]
   refine ⟨out, rfl, hp, fun x => ⟨hm x, fun c => ?_⟩⟩
   rcases v x c.1 c.2 with h | h
   ·exact h
   ·rw [(h1 E).2 x c.1 c.2] at h; cases h
  | true =>
   rw [aF (by simp)]
   obtain ⟨t, a2, a3, a4, _⟩ := F E
   generalize (kH R lt out.getLast? l false d).2 = b at *
   have u : b ∈ l := by rcases a3 with h | ⟨h, _⟩; exact h; cases h
   have p : ∀ y ∈ out, lt y b = true := by
    intro y g
    obtain ⟨A, z, rfl⟩ : ∃ A z, out = A ++ [z] := by
     rcases List.eq_nil_or_concat out with h | ⟨A, z, h⟩
     ·subst h; cases g
     ·exact ⟨A, z, by rw [h]; simp⟩
    simp at a2
    rcases aV.1 g with g | g
    ·have D : lt y z = true := (dG.1 hp).2.2 y g z (by simp)
     exact H.trans y z b (hm y (by simp [g])).2 (hm z (by simp)).2 t D a2
    ·simp at g; subst g; exact a2
   have q : (out ++ [b]).Pairwise (fun a b => lt a b = true) := dG.2 ⟨hp, by simp, fun x c y g => by simp at g; subst g; exact p x c⟩
   have k : ∀ x ∈ out ++ [b], x ∈ l ∧ R x = true := fun x c => by
    rcases aV.1 c with c | c
    ·exact hm x c
    ·simp at c; subst c; exact ⟨u, t⟩
   have j := ja (nk H (fun x c => (k x c).2) q) (fun x c => (k x c).1)
   simp at j
   rw [qK (by simp only [aS, bo]; have : (out.length + (0 + 1)) * w ≤ 1000000000 * 1000 := Nat.mul_le_mul (by omega) hw; omega) (by simp; omega)]
   simp only [aw]
   refine ta H hw d l I n (out ++ [b]) (by simp; omega) q k (fun x c i => ?_)
   rcases v x c i with h | h
   ·exact .inl (by simp [h])
   ·have G := a4 x c i h
    rcases H.total x b i t with o | o | o
    ·rw [G] at o; cases o
    ·subst o; exact .inl (by simp)
    ·exact .inr (by simp [o])
end
theorem xN {α : Type} (A : List α) (x : α) (a : A.length < 4611686018427387904) : ju (A ++ [x]) (wi0 .i64 (((A ++ [x]).length : Int) - 1)) = some x := by
 rw [fP (by simp; try omega) (by simp; try omega)]
 rw [lO A x [] _ (by simp; try omega)]
theorem rp (out : List eH) (k : out.length < 4611686018427387904) : ∀ (l : List eH) (ok : Bool) (b : eH), jH out l ok b = some (kH fy oP out.getLast? l ok b)
 | [], ok, b => rfl
 | x :: xs, ok, b => by
  rw [jH, kH]
  have cmp : ∀ a b, ∃ c, kf a b = some c ∧ decide (c < 0) = oP a b := fun a b => by
   obtain ⟨c, h1, j⟩ := qq a b
   exact ⟨c, h1, by rw [cA, ← j]; simp⟩
  rw [kW, rp out k xs true x, rp out k xs ok b]
  obtain ⟨c, h1, j⟩ := cmp x b
  rcases List.eq_nil_or_concat out with h | ⟨A, z, h⟩
  ·subst h
   simp only [h1, aw, j, bo, Option.all, List.getLast?_nil]
   generalize oP x b = p
   cases fy x <;> cases ok <;> cases p <;> simp
  ·have i : out = A ++ [z] := by rw [h]; simp
   obtain ⟨u, s, t⟩ := cmp z x
   have d : out.getLast? = some z := by rw [i]; simp
   have g : ju out (wi0 .i64 ((out.length : Int) - 1)) = some z := by rw [i]; exact xN A z (by rw [i] at k; simp at k; omega)
   have n : ((out.length : Int) == 0) = false := by rw [i]; simp; omega
   rw [d]
   simp only [n, g, s, h1, aw, j, t, Option.all]
   rcases dp (oP x b) with hp | hp <;> rcases dp (oP z x) with o | o <;> rcases dp (fy x) with q | q <;> cases ok <;> simp [hp, o, q]
theorem yh (a : List eH) : ∀ (n : Nat) (out s : List eH), tH 136 fy oP (⟨0, ⟨zS, zS⟩, zS, ⟨zS, zS⟩, ⟨zS, zS⟩, zS⟩ : eH) a n out = some s → s.length < 4611686018427387904 → lU a n out = some s ∧ out.length ≤ s.length
 | 0, out, s, h, _ => by cases h
 | n + 1, out, s, h, i => by
  rw [tH] at h
  rw [lU]
  have key : out.length ≤ s.length → jH out a false (⟨0, ⟨zS, zS⟩, zS, ⟨zS, zS⟩, ⟨zS, zS⟩, zS⟩ : eH) = _ := fun k => rp out (by omega) a false _
  split at h
  ·rename_i h1
   cases h
   rw [key (aM _)]
   simp only [aw]
   rw [aD h1]
   exact ⟨rfl, aM _⟩
  ·rename_i h1
   obtain ⟨o, c, d⟩ := bind_some h
   have g := yh a n o s d i
   have j : out.length + 1 = o.length := by
    unfold kN at c; split at c
    ·cases c; simp
    ·cases c
   rw [key (by omega)]
   simp only [aw]
   rw [aF h1, c]
   exact ⟨g.1, by omega⟩
abbrev qb (l s : List eH) := mQ (fun a b => oP a b = true) (fun x => fy x = true) l s
theorem uH {α : Type} {lt : α → α → Bool} {R : α → Bool} (H : pF (fun a b => lt a b = true) (fun x => R x = true)) {l s : List α} (h : mQ (fun a b => lt a b = true) (fun x => R x = true) l s) : s.length ≤ l.length :=
 ja (nk H (fun x c => ((h.2 x).1 c).2) h.1) (fun x c => ((h.2 x).1 c).1)
theorem yO (l : List eH) (c : l.length ≤ 1000000000) : ∃ s, oY l = some s ∧ qb l s := by
 obtain ⟨s, h1, a⟩ := ta rE (w := 136) (by omega) (⟨0, ⟨zS, zS⟩, zS, ⟨zS, zS⟩, ⟨zS, zS⟩, zS⟩ : eH) l c iu [] (by rw [lX]; omega) (by simp) (by simp) (fun x _ _ => .inr rfl)
 exact ⟨s, (yh l iu [] s h1 (by have := uH rE a; omega)).1, a⟩
def zC : eH := ⟨0, ⟨zS, zS⟩, zS, ⟨zS, zS⟩, ⟨zS, zS⟩, zS⟩
theorem vq (f : eH → Option Bool) : ∀ (n : Nat) (l : List eH) (i j : Int), fW f n l i j = rk f zC n l i j
 | 0, _, _, _ => rfl
 | n + 1, l, i, j => by
  rw [fW, rk]
  simp only [vq f n]
  rfl
theorem vD (f : eH → Option Bool) : ∀ (l : List eH) (i : Nat), gG f l i = ru f l i
 | [], _ => rfl
 | x :: l, i => by rw [gG, ru]; simp only [vD f l]
theorem yc (f : eH → Option Bool) (l : List eH) : iD l f = wx f zC l := by
 unfold iD wx jV
 simp only [vD, vq]
theorem tP (i : Int) : ∀ (n : Nat) (l : List eH) (k j : Int), gv i n l k j = qv iJ i n l k j
 | 0, _, _, _ => rfl
 | n + 1, l, k, j => by
  rw [gv, qv]
  simp only [tP i n]
theorem tV (l : List eH) : ∀ (n : Nat) (i : Int), gw l n i = rq iJ zC l n i
 | 0, _ => rfl
 | n + 1, i => by
  rw [gw, rq]
  simp only [tV l n, tP]
  rfl
theorem xU (l : List eH) : jq l = wv iJ zC l := by
 unfold jq wv
 simp only [tV]
theorem zx {l : List eH} (a : l.length ≤ 1000000000) : iN l = some l := by
 unfold iN
 rw [qK (by simp; omega) (by simp; omega)]
 simp
theorem AQ (l : List eH) (d : l.length ≤ 1000000000) : ∃ s, mR l = some s ∧ qb l s := by
 unfold mR
 rw [zx d]
 simp only [aw]
 rw [yc, xO _ (fun x => !fy x) zC l (by omega) (fun x _ => by simp [mr, kj])]
 simp only [aw, Bool.not_not]
 have i : (l.filter fun x => fy x).length ≤ l.length := List.length_filter_le _ _
 obtain ⟨s, h1, h, c⟩ := uY (eq := iJ) (lt := fun a b => oP a b = true) (P := fun x => fy x = true) (cf := fun x => jG x.1 x.2) (l := l.filter fun x => fy x) (fun x y => oV) rE (fun x g => (List.mem_filter.1 g).2) (by omega) (fun x y _ _ => qL x y)
 rw [h1]
 simp only [aw]
 rw [xU, xS _ _ _ (by omega)]
 refine ⟨_, rfl, c.1, fun x => ?_⟩
 rw [c.2]
 simp
def rn {κ : Type} (beq : κ → κ → Bool) (a : List κ) (k : κ) : Bool := a.any fun x => beq k x
def ins {κ : Type} (beq : κ → κ → Bool) (a : List κ) (k : κ) : List κ := if rn beq a k then a else a ++ [k]
section
variable {κ : Type} {beq : κ → κ → Bool}
theorem xW (c : ∀ {x y}, beq x y = true ↔ x = y) (a : List κ) (k : κ) : rn beq a k = true ↔ k ∈ a := by
 simp [rn, List.any_eq_true, c]
end
theorem mQ.congr {α : Type} {lt : α → α → Prop} {P : α → Prop} {l m s : List α} (h : mQ lt P l s) (hm : ∀ x, x ∈ l ↔ x ∈ m) : mQ lt P m s := ⟨h.1, fun x => by rw [h.2, hm]⟩
theorem tE : ∀ (l : List eH) (n : Int), 0 ≤ n → n ≤ 4000000000000000000 → (∀ c ∈ l, c.Head.eJ.size + c.Head.eK.size + c.fa.size + c.B.eJ.size + c.B.eK.size + c.C.eJ.size + c.C.eK.size + c.eX.size ≤ 1000000000) → n + l.length * 1000000020 ≤ 4000000000000000000 →
  ∃ r, jO l n = some r ∧ n + 20 * l.length ≤ r
 | [], n, _, _, _, _ => ⟨n, rfl, by simp⟩
 | c :: l, n, o, h1, a, i => by
  have h := a c (by simp)
  simp only [aS] at i ⊢
  rw [jO]
  rw [fP (x := 20 + (c.Head.eJ.size : Int)) (by omega) (by omega), fP (x := 20 + (c.Head.eJ.size : Int) + (c.Head.eK.size : Int)) (by omega) (by omega), fP (x := 20 + (c.Head.eJ.size : Int) + (c.Head.eK.size : Int) + (c.fa.size : Int)) (by omega) (by omega), fP (x := 20 + (c.Head.eJ.size : Int) + (c.Head.eK.size : Int) + (c.fa.size : Int) + (c.B.eJ.size : Int)) (by omega) (by omega), fP (x := 20 + (c.Head.eJ.size : Int) + (c.Head.eK.size : Int) + (c.fa.size : Int) + (c.B.eJ.size : Int) + (c.B.eK.size : Int)) (by omega) (by omega), fP (x := 20 + (c.Head.eJ.size : Int) + (c.Head.eK.size : Int) + (c.fa.size : Int) + (c.B.eJ.size : Int) + (c.B.eK.size : Int) + (c.C.eJ.size : Int)) (by omega) (by omega), fP (x := 20 + (c.Head.eJ.size : Int) + (c.Head.eK.size : Int) + (c.fa.size : Int) + (c.B.eJ.size : Int) + (c.B.eK.size : Int) + (c.C.eJ.size : Int) + (c.C.eK.size : Int)) (by omega) (by omega), fP (x := 20 + (c.Head.eJ.size : Int) + (c.Head.eK.size : Int) + (c.fa.size : Int) + (c.B.eJ.size : Int) + (c.B.eK.size : Int) + (c.C.eJ.size : Int) + (c.C.eK.size : Int) + (c.eX.size : Int)) (by omega) (by omega), fP (by omega) (by omega)]
  obtain ⟨r, g, k⟩ := tE l (n + (20 + (c.Head.eJ.size : Int) + (c.Head.eK.size : Int) + (c.fa.size : Int) + (c.B.eJ.size : Int) + (c.B.eK.size : Int) + (c.C.eJ.size : Int) + (c.C.eK.size : Int) + (c.eX.size : Int))) (by omega) (by omega) (fun d j => a d (by simp [j])) (by omega)
  exact ⟨r, g, by omega⟩
def pE (c : eH) : Nat := c.Head.eJ.size + c.Head.eK.size + c.fa.size + c.B.eJ.size + c.B.eK.size + c.C.eJ.size + c.C.eK.size + c.eX.size
theorem uq (l : List eH) (d : l.length ≤ 100000000) (a : ∀ c ∈ l, pE c ≤ 1000000000) : ∃ r, mo l = some r := by
 obtain ⟨r, h, _⟩ := tE l 0 (by omega) (by omega) a (by omega)
 exact ⟨r, h⟩
section
variable {κ γ : Type} {beq : κ → κ → Bool}
theorem yD (a : ∀ {x y}, beq x y = true ↔ x = y) {l : List (κ × γ)} {k : κ} (h : ∀ p ∈ l, p.1 ≠ k) : gL beq l k = none := by
 unfold gL
 rw [List.find?_eq_none.2 (fun p hp c => h p hp (a.1 c).symm)]
 rfl
theorem yV (a : ∀ {x y}, beq x y = true ↔ x = y) {l : List (κ × γ)} {k : κ} {y : γ} (h : ∀ p ∈ l, p.1 ≠ k) : lz beq l k y = l ++ [(k, y)] := by
 refine qk (List.findIdx?_eq_none_iff.2 (fun p hp => ?_)) y
 cases c : beq k p.1 with
 | false => rfl
 | true => exact absurd (a.1 c).symm (h p hp)
theorem qc (p : κ × γ) (l : List (κ × γ)) (k : κ) : gL beq (p :: l) k = if beq k p.1 = true then some p.2 else gL beq l k := by
 unfold gL
 rw [List.find?_cons]
 cases beq k p.1 <;> simp
end
def qA : fg := ⟨⟨#[97]⟩, ⟨#[114]⟩⟩
def qB : fg := ⟨⟨#[98]⟩, ⟨#[115]⟩⟩
def qd : ByteArray := ⟨#[100]⟩
def j1 : eH := ⟨2, qA, zS, qB, ⟨zS, zS⟩, zS⟩
def j2 : eH := ⟨1, qB, qd, ⟨zS, zS⟩, ⟨zS, zS⟩, zS⟩
def up (w : ByteArray) (g : ByteArray → Nat) : ByteArray → Nat := fun x => if fF w x = true then g x + 1 else g x
def tot {α : Type} (a : List (List α)) : Nat := (a.map List.length).sum
instance decRole : DecidableEq fg := fun a b => decidable_of_iff (gB a b = true) iX
def B8 (l : List Int) : Prop := ∀ x ∈ l, 0 ≤ x ∧ x < 256
theorem B8.wQ {a b : List Int} (c : B8 a) (d : B8 b) : B8 (a ++ b) := fun x g => (aV.1 g).elim (c x) (d x)
theorem yL {a b : List Int} (c : B8 a) (d : B8 b) : iZ a = iZ b ↔ a = b :=
 ⟨fun h => sx c d (by rw [← lC, ← lC, h]), fun h => by rw [h]⟩
theorem vJ {l : List Int} (h : B8 l) : iO (iZ l) = l := by
 unfold iO
 rw [lC]
 unfold lE
 rw [bP]
 conv => rhs; rw [← List.map_id l]
 apply dM
 intro x c
 have := h x c
 simp only [Function.comp, id]
 have a : x.toNat.toUInt8.toNat = x.toNat := by rw [Nat.toUInt8_eq, UInt8.toNat_ofNat']; omega
 rw [a]; omega
def tW (h x : Int) : Int := IntKind.u64.wrap ((IntKind.u64.wrap (BitVec.ofInt (IntKind.bits .u64) h ^^^ BitVec.ofInt (IntKind.bits .u64) (IntKind.u64.wrap x)).toNat) * 1099511628211)
def tF (l : List Int) : Int := l.foldl tW 14695981039346656037
theorem yS (n : Int) : 0 ≤ IntKind.u64.wrap n ∧ IntKind.u64.wrap n < 18446744073709551616 := by
 simp only [IntKind.wrap, IntKind.bits, IntKind.signed]; constructor
 ·simp; omega
 ·simp; omega
theorem ul (l : List Int) : 0 ≤ tF l ∧ tF l < 18446744073709551616 := by
 have : ∀ (l : List Int) (h : Int), (0 ≤ h ∧ h < 18446744073709551616) → 0 ≤ l.foldl tW h ∧ l.foldl tW h < 18446744073709551616 := by
  intro l
  induction l with
  | nil => intro h a; exact a
  | cons x l ih => intro h a; exact ih _ (yS _)
 exact this l _ (by omega)
theorem wM : ∀ (l : List Int) (h : Int), lF l h = some (l.foldl tW h)
 | [], h => rfl
 | x :: l, h => by rw [lF, wM l]; rfl
theorem xk : ∀ (a : List (List Int)) (h : Int), lJ a h = some (a.flatten.foldl tW h)
 | [], h => rfl
 | l :: a, h => by rw [lJ, wM, aw, xk a, bE, List.foldl_append]
theorem zJ (a : List (List Int)) : qg a = some (tF a.flatten) := xk a _
theorem td (s : ByteArray) (c : s.size ≤ 10000000) : ∀ (B A : List UInt8) (h : Int) (n : Nat), s.data.toList = A ++ B → B.length < n → kA s n h (A.length : Int) = some ((B.map fun b => (b.toNat : Int)).foldl tW h)
 | [], A, h, n + 1, e, _ => by
  have : s.size = A.length := by rw [jE, e]; simp
  rw [kA, aF (by simp [this])]; rfl
 | b :: B, A, h, n + 1, e, a => by
  have d : s.size = A.length + (B.length + 1) := by rw [jE, e]; simp
  rw [kA, aD (by simp; omega), vg e _ rfl, aw, fP (by omega) (by omega)]
  have := td s c B (A ++ [b]) (tW h (b.toNat : Int)) n (by rw [e]; simp) (by simp only [aS] at a; omega)
  simp only [aH, aS, bo, er] at this
  rw [aR, ez, ← this]
  rfl
theorem zt {l : List Int} (h : B8 l) (a : l.length ≤ 1000000) : oX (iZ l) = some (tF l) := by
 unfold oX
 have := td (iZ l) (by rw [ow]; omega) (iZ l).data.toList [] 14695981039346656037 iu rfl (by rw [← jE, ow, lX]; omega)
 rw [show ((iZ l).data.toList.map fun b => (b.toNat : Int)) = l from vJ h] at this
 exact this
def wV (H : Int) : List Int := [H / 72057594037927936 % 256, H / 281474976710656 % 256, H / 1099511627776 % 256, H / 4294967296 % 256, H / 16777216 % 256, H / 65536 % 256, H / 256 % 256, H % 256]
theorem AR (H : Int) : B8 (wV H) := by
 intro x a
 simp only [wV, aB, bc, cy] at a
 rcases a with rfl | rfl | rfl | rfl | rfl | rfl | rfl | rfl <;> omega
theorem yU (H : Int) (hH : 0 ≤ H ∧ H < 18446744073709551616) : ((pt 1 (0 : Int) 8).bind fun l => jr H l 0 l) = some (wV H) := by
 have c : pt 1 (0 : Int) 8 = some [0, 0, 0, 0, 0, 0, 0, 0] := by unfold pt; rw [aD (by simp [maxLen])]; rfl
 rw [c, aw]
 have j : ∀ n : Nat, n ≤ 7 → wi0 .i64 (8 * wi0 .i64 (7 - (n : Int))) = 8 * (7 - (n : Int)) := fun n o => by
  rw [fP (x := 7 - (n : Int)) (by omega) (by omega), fP (by omega) (by omega)]
 have step : ∀ (x : Int) (xs l : List Int) (i : Nat) (d : Int), i ≤ 7 → l.length = 8 → IntKind.u8.wrap (Int.fdiv H (2 ^ min (Int.toNat (8 * (7 - (i : Int)))) (IntKind.bits .u64))) = d → jr H (x :: xs) i l = jr H xs (i + 1) (l.set i d) := by
  intro x xs l i d h k g
  rw [jr, j i h, g]
  have : jS (decide (0 ≤ 8 * (7 - (i : Int)))) = some () := by simp [jS]; omega
  rw [this, aw]
  have : ju l (i : Int) = some l[i] := by unfold ju; rw [aD (by omega)]; simp
  rw [this, aw]
  rfl
 have a : ∀ n : Int, IntKind.u8.wrap n = n % 256 := fun n => by rw [IntKind.wrap_u8]
 have fd : ∀ m : Int, 0 < m → Int.fdiv H m = H / m := fun m hm => Int.fdiv_eq_ediv_of_nonneg _ (by omega)
 rw [step _ _ _ 0 (H / 72057594037927936 % 256) (by omega) rfl (by rw [a, fd _ (by decide)]; rfl)]
 rw [step _ _ _ 1 (H / 281474976710656 % 256) (by omega) rfl (by rw [a, fd _ (by decide)]; rfl)]
 rw [step _ _ _ 2 (H / 1099511627776 % 256) (by omega) rfl (by rw [a, fd _ (by decide)]; rfl)]
 rw [step _ _ _ 3 (H / 4294967296 % 256) (by omega) rfl (by rw [a, fd _ (by decide)]; rfl)]
 rw [step _ _ _ 4 (H / 16777216 % 256) (by omega) rfl (by rw [a, fd _ (by decide)]; rfl)]
 rw [step _ _ _ 5 (H / 65536 % 256) (by omega) rfl (by rw [a, fd _ (by decide)]; rfl)]
 rw [step _ _ _ 6 (H / 256 % 256) (by omega) rfl (by rw [a, fd _ (by decide)]; rfl)]
 rw [step _ _ _ 7 (H % 256) (by omega) rfl (by rw [a, fd _ (by decide)]; simp)]
 rfl
theorem zH (H : Int) (hH : 0 ≤ H ∧ H < 18446744073709551616) : iH iu H zS 0 = some (iZ (wV H)) := by
 have q : ∀ n : Int, 0 ≤ n → IntKind.u8.wrap (Int.tmod n 256) = n % 256 := fun n o => by
  rw [IntKind.wrap_u8, Int.tmod_eq_emod_of_nonneg o]; omega
 have step : ∀ (n : Nat) (x : Int) (l : List Int) (i : Nat), i < 8 → 0 ≤ x ∧ x < 18446744073709551616 → l.length ≤ 100 → iH (n + 1) x (iZ l) (i : Int) = iH n (x / 256) (iZ (x % 256 :: l)) ((i + 1 : Nat) : Int) := by
  intro n x l i s a t
  rw [iH, aD (by simp; omega), q x a.1, mE, jk _ _ (by simp; omega), aw, Int.tdiv_eq_ediv_of_nonneg a.1, IntWalk.u64_in _ (by omega), fP (by omega) (by omega)]
  rfl
 have p : zS = iZ [] := pf rfl
 rw [lX, p]
 rw [show (18446744073709551616 : Nat) = 18446744073709551607 + 9 from rfl]
 rw [show (0 : Int) = ((0 : Nat) : Int) from rfl, step _ _ _ 0 (by omega) hH (by simp), step _ _ _ 1 (by omega) (by omega) (by simp), step _ _ _ 2 (by omega) (by omega) (by simp), step _ _ _ 3 (by omega) (by omega) (by simp), step _ _ _ 4 (by omega) (by omega) (by simp), step _ _ _ 5 (by omega) (by omega) (by simp), step _ _ _ 6 (by omega) (by omega) (by simp), step _ _ _ 7 (by omega) (by omega) (by simp)]
 rw [iH, aF (by simp)]
 have c : H / 256 / 256 = H / 65536 := by omega
 have d : H / 65536 / 256 = H / 16777216 := by omega
 have g : H / 16777216 / 256 = H / 4294967296 := by omega
 have h : H / 4294967296 / 256 = H / 1099511627776 := by omega
 have j : H / 1099511627776 / 256 = H / 281474976710656 := by omega
 have k : H / 281474976710656 / 256 = H / 72057594037927936 := by omega
 rw [c, d, g, h, j, k]
 rfl
def gT (k b : List Int) : List Int := wV (tF ((k.length : Int) :: (k ++ (b ++ k))))
theorem mn (k b : List Int) : B8 (gT k b) := AR _
theorem sJ {k : List Int} (b : List Int) (h : 1 ≤ k.length ∧ k.length ≤ 32) : lP k b = some (gT k b) := by
 have a : iU k = some true := by
  unfold iU
  rw [cL (show (k.length : Int) ≥ 1 by omega), cL (show (k.length : Int) ≤ 32 by omega)]; rfl
 unfold lP
 rw [a]
 simp only [aw, bV, ay, aQ]
 rw [zJ]
 simp only [aw]
 rw [yU _ (ul _), show IntKind.u8.wrap (k.length : Int) = (k.length : Int) from IntWalk.u8_in _ (by omega)]
 simp [gT]
theorem yI {k b : List Int} (hk : B8 k) (c : B8 b) (h : 1 ≤ k.length ∧ k.length ≤ 32) (g : b.length ≤ 10000) : oa (iZ k) (iZ b) = some (iZ (gT k b)) := by
 unfold oa
 rw [mE, ow, show IntKind.u8.wrap (k.length : Int) = (k.length : Int) from IntWalk.u8_in _ (by omega), jk _ _ (by simp only [aS, bo]; omega)]
 simp only [aw]
 rw [jk _ _ (by simp; omega)]
 simp only [aw]
 rw [jk _ _ (by simp; omega)]
 simp only [aw]
 have a : B8 ([(k.length : Int)] ++ k ++ b ++ k) := ((B8.wQ (fun x d => by rw [aN] at d; omega) hk).wQ c).wQ hk
 rw [zt a (by simp; omega), aw, zH _ (ul _)]
 simp [gT]
def lm : List ByteArray → List Key → Int
 | _, [] => 0
 | seen, k :: l => if gh k.fa = false then 30 else if k.Key.length < 1 ∨ 32 < k.Key.length then 21 else if rn fF seen k.fa = true then 41 else lm (seen ++ [k.fa]) l
def ia (l : List Key) : List (ByteArray × List Int) := l.map fun k => (k.fa, k.Key)
def nE (l : List Key) (o : ByteArray) : Option (List Int) := gL fF (ia l) o
theorem xX (a b : List Key) : ia (a ++ b) = ia a ++ ia b := by simp [ia]
theorem xP (acc : List Key) (w : ByteArray) : (gL fF (ia acc) w).isSome = rn fF (acc.map (·.fa)) w := by
 induction acc with
 | nil => rfl
 | cons k l ih =>
  rw [show ia (k :: l) = (k.fa, k.Key) :: ia l from rfl, qc]
  simp only [aR, rn, List.any_cons] at ih ⊢
  cases h : fF w k.fa <;> simp [ih]
theorem rT {l : List Int} (h : l.length ≤ 1000000) : gp l = some l := by
 unfold gp
 rw [pK (by simpa using h)]; rfl
theorem AT (k : Key) : (if decide ((k.Key.length : Int) < 1) = true then some true else some (decide ((k.Key.length : Int) > 32)) : Option Bool) = some (decide (k.Key.length < 1 ∨ 32 < k.Key.length)) := by
 rw [Bool.decide_or]
 by_cases h : k.Key.length < 1
 ·rw [aD (by simp; omega), cL h, Bool.true_or]
 ·rw [aF (by simp; omega), decide_eq_false h, Bool.false_or]
  congr 1; apply decide_eq_decide.2; omega
theorem rU : ∀ (l acc : List Key), jY l (ia acc) = some (if lm (acc.map (·.fa)) l = 0 then (some (⟨ia (acc ++ l)⟩ : fG), 0) else (none, lm (acc.map (·.fa)) l))
 | [], acc => by rw [jY]; simp [lm]
 | k :: l, acc => by
  rw [jY, km, aw]
  unfold lm
  cases g : gh k.fa
  ·simp
  ·simp only [bV, ay, aQ]
   rw [AT, aw]
   by_cases hk : k.Key.length < 1 ∨ 32 < k.Key.length
   ·simp only [hk, dv, aT]
    rw [aF (by simp), aF (by decide)]
   ·simp only [hk, dQ, ay, aQ]
    rw [xP]
    cases a : rn fF (acc.map (·.fa)) k.fa
    ·simp only [ay, aQ]
     rw [rT (by omega), aw]
     have c : ∀ p ∈ ia acc, p.1 ≠ k.fa := by
      intro p hp e
      obtain ⟨q, d, rfl⟩ := aP.1 hp
      have := (xW gr (acc.map (·.fa)) k.fa).2 (aP.2 ⟨q, d, e⟩)
      rw [this] at a; cases a
     unfold uD
     rw [yD gr c, yV gr c]
     simp only [Option.isNone_none, aT, aw]
     have := rU l (acc ++ [k])
     rw [xX] at this
     rw [show ia acc ++ [(k.fa, k.Key)] = ia acc ++ ia [k] from rfl, this]
     simp
    ·simp
theorem qx (l : List Key) : lR l = some (if lm [] l = 0 then (some (⟨ia l⟩ : fG), 0) else (none, lm [] l)) := rU l []
theorem vw : ∀ (l : List Key) (seen : List ByteArray), lm seen l = 0 → ∀ k ∈ l, 1 ≤ k.Key.length ∧ k.Key.length ≤ 32
 | [], _, _, _, hk => by cases hk
 | x :: l, seen, h, k, hk => by
  unfold lm at h
  split at h
  ·cases h
  split at h
  ·cases h
  split at h
  ·cases h
  rcases aB.1 hk with rfl | hk
  ·omega
  ·exact vw l _ h k hk
theorem rj : ∀ (l : List Key) (o : ByteArray) (b : List Int), nE l o = some b → ∃ k ∈ l, k.Key = b
 | [], o, b, h => by cases h
 | x :: l, o, b, h => by
  unfold nE at h
  rw [show ia (x :: l) = (x.fa, x.Key) :: ia l from rfl, qc] at h
  split at h
  ·cases h; exact ⟨x, by simp, rfl⟩
  ·obtain ⟨k, hk, e⟩ := rj l o b h
   exact ⟨k, by simp [hk], e⟩
theorem wY (x : Key) (l : List Key) (o : ByteArray) : nE (x :: l) o = if fF x.fa o = true then some x.Key else nE l o := by
 unfold nE
 rw [show ia (x :: l) = (x.fa, x.Key) :: ia l from rfl, qc, ql]
def K8 (l : List Key) : Prop := ∀ k ∈ l, B8 k.Key
def vv : eY := ⟨(⟨0, (⟨zS, zS⟩ : fg), zS, (⟨zS, zS⟩ : fg), (⟨zS, zS⟩ : fg), zS⟩ : eH), []⟩
theorem oI {c : eH} (h : fy c = true) : (fu c).length ≤ 200 := by
 unfold fu lx
 rw [aS, aH]
 have i := fU (mi h)
 have a : ∀ s, gh s = true → (ki s).length ≤ 17 := fun s d => by rw [jd]; have := gx d; omega
 rcases hZ h with g | g | g | g <;> simp only [g.1, aT, aQ, Int.reduceEq]
 ·have := a c.fa (by simp_all); omega
 ·have : (im c.B).length ≤ 34 := fU (by simp_all)
  omega
 ·have : (im c.B).length ≤ 34 := fU (by simp_all)
  have := a c.eX (by simp_all)
  rw [aH]; omega
 ·have : (im c.B).length ≤ 34 := fU (by simp_all)
  have : (im c.C).length ≤ 34 := fU (by simp_all)
  rw [aH]; omega
theorem yr (c : eH) (h : fy c = true) : ic c = some (fu c) := by rw [mP, aD h]
theorem rB (c : eH) (h : fy c = true) : la c = some (iZ (fu c)) := by
 have := mC c
 unfold lb at this
 rw [kW, h] at this
 simp only [aw, bV, ay, aQ, aT] at this
 rw [← this]; cases la c <;> rfl
structure Mk (ks : List Key) (c : eH) (k : List Int) : Prop where
 ok : lm [] ks = 0
 rt : fy c = true
 lk : nE ks c.Head.eJ = some k
theorem Mk.len {a : List Key} {c : eH} {k : List Int} (h : Mk a c k) : 1 ≤ k.length ∧ k.length ≤ 32 := by
 obtain ⟨q, d, rfl⟩ := rj _ _ _ h.lk
 exact vw a [] h.ok q d
theorem Mk.b8 {a : List Key} {c : eH} {k : List Int} (h : Mk a c k) (hk : K8 a) : B8 k := by
 obtain ⟨q, d, rfl⟩ := rj _ _ _ h.lk
 exact hk q d
theorem Mk.unique {a : List Key} {c : eH} {k k' : List Int} (h : Mk a c k) (d : Mk a c k') : k = k' := by
 have := h.lk; rw [d.lk] at this; cases this; rfl
def AE (c : eH) : List Int := 255 :: fu c
theorem zr {c : eH} (h : fy c = true) : B8 (AE c) := fun x a => by
 rcases aB.1 a with rfl | a
 ·omega
 ·exact nh h x a
theorem we {a b : List Int} (c : B8 a) (d : B8 b) : fF (jU a) (jU b) = decide (a = b) := by
 rw [cA, gr, mE, mE, yL c d]; simp
def qn (a : List Key) (s : eY) : Prop := ∃ k, Mk a s.eH k ∧ s.Tag = gT k (fu s.eH)
theorem yB (a : List Key) (c : eH) : jb (some ⟨ia a⟩) c = some (if fy c = true then (match nE a c.Head.eJ with | some k => (k, (0 : Int)) | none => ([], 21)) else ([], 11)) := by
 unfold jb
 rw [aF (by simp), kj]
 simp only [aw]
 cases d : fy c
 ·rfl
 simp only [bV, ay, aQ, aT]
 unfold nE
 cases gL fF (ia a) c.Head.eJ <;> rfl
theorem vr (c : eH) : ∀ l : List Key, lN c l = some (match nE l c.Head.eJ with | some k => (iZ k, 0) | none => (zS, 21))
 | [] => rfl
 | x :: l => by
  rw [lN, wY, vr c l, mE]
  split <;> rfl
theorem vz (a : List Key) (i : lm [] a = 0) (c : eH) : ∃ r, gD (some ⟨ia a⟩) c = some r ∧ ((r.2 ≠ 0 ∧ ∀ k, ¬ Mk a c k) ∨ (r.2 = 0 ∧ ∃ k, Mk a c k ∧ r.1 = ⟨c, gT k (fu c)⟩)) := by
 unfold gD
 rw [yB]
 simp only [aw]
 cases d : fy c
 ·exact ⟨_, rfl, .inl ⟨by simp, fun k h => by have := h.rt; rw [d] at this; cases this⟩⟩
 simp only [aT]
 cases g : nE a c.Head.eJ with
 | none => exact ⟨_, rfl, .inl ⟨by decide, fun k h => by have := h.lk; rw [g] at this; cases this⟩⟩
 | some k =>
  have hm : Mk a c k := ⟨i, d, g⟩
  simp only [yr c d, aw, sJ _ hm.len]
  exact ⟨_, rfl, .inr ⟨rfl, k, hm, rfl⟩⟩
theorem ry (a : List Key) (hk : K8 a) (j : lm [] a = 0) (s : eY) (g : B8 s.Tag) : ∃ e, fK (some ⟨ia a⟩) s = some e ∧ nF a s = some e ∧ (e = 0 ↔ qn a s) := by
 unfold fK nF qS
 rw [yB, kW, vr]
 simp only [aw]
 cases c : fy s.eH
 ·exact ⟨11, rfl, rfl, by simp; rintro ⟨k, h, _⟩; have := h.rt; rw [c] at this; cases this⟩
 simp only [aT, bV, ay, aQ, aw]
 cases d : nE a s.eH.Head.eJ with
 | none => exact ⟨21, rfl, rfl, by simp; rintro ⟨k, h, _⟩; have := h.lk; rw [d] at this; cases this⟩
 | some k =>
  have hm : Mk a s.eH k := ⟨j, c, d⟩
  have := oI c
  have o : lV k (fu s.eH) s.Tag = some (decide (gT k (fu s.eH) = s.Tag)) := by
   unfold lV
   have n : iU k = some true := by
    unfold iU
    have := hm.len
    rw [cL (show (k.length : Int) ≥ 1 by omega), cL (show (k.length : Int) ≤ 32 by omega)]; rfl
   rw [n]
   simp only [aw, aT, sJ _ hm.len, mq]
   rw [we (mn _ _) g]
  simp only [yr _ c, rB _ c, aw, o, yI (hm.b8 hk) (nh c) hm.len (show (fu s.eH).length ≤ 10000 by omega)]
  rw [← mE (gT k _), we (mn _ _) g]
  by_cases he : gT k (fu s.eH) = s.Tag
  ·refine ⟨0, ?_, ?_, by simp; exact ⟨k, hm, he.symm⟩⟩ <;> simp [he]
  ·refine ⟨20, ?_, ?_, ?_⟩
   ·simp [he]
   ·simp [he]
   ·simp; rintro ⟨k', i, e⟩; exact he (by rw [e, hm.unique i])
open Classical in
noncomputable def kC (ks : List Key) (s : eY) : Bool := decide (qn ks s)
theorem lT (a : List Key) (s : eY) : kC a s = true ↔ qn a s := by simp [kC]
def S8 (l : List eY) : Prop := ∀ s ∈ l, B8 s.Tag
theorem rD (a : List Key) (hk : K8 a) (g : lm [] a = 0) : ∀ (l : List eY) (acc : List eH), S8 l → acc.length + l.length ≤ 100000000 →
  fZ (some ⟨ia a⟩) l acc = mR (acc ++ (l.filter (kC a)).map (·.eH)) ∧ jm a l acc = oY (acc ++ (l.filter (kC a)).map (·.eH))
 | [], acc, _, _ => by rw [fZ, jm]; simp [wq]
 | s :: l, acc, i, n => by
  rw [fZ, jm]
  obtain ⟨e, j, k, he⟩ := ry a hk g s (i s (by simp))
  rw [j, k]
  simp only [aw]
  simp only [aS] at n
  have d : S8 l := fun x o => i x (by simp [o])
  by_cases c : e = 0
  ·have h : kC a s = true := (lT a s).2 (he.1 c)
   rw [aD (by simp [c]), aD (by simp [c]), qK (by simp; omega) (by simp; omega)]
   simp only [aw]
   have := rD a hk g l (acc ++ [s.eH]) d (by simp; omega)
   simpa [List.filter_cons, h] using this
  ·have h : kC a s = false := by rw [← eo, lT, ← he]; exact c
   rw [aF (by simp [c]), aF (by simp [c])]
   have := rD a hk g l acc d (by omega)
   simpa [List.filter_cons, h] using this
theorem rc (a : List Key) (hk : K8 a) (h : lm [] a = 0) (l : List eY) (i : S8 l) (j : l.length ≤ 10000000) : ∃ G, iG (some ⟨ia a⟩) l = some G ∧ tR a l = some G ∧ qb ((l.filter (kC a)).map (·.eH)) G := by
 obtain ⟨d, g⟩ := rD a hk h l [] i (by simp; omega)
 have c : ((l.filter (kC a)).map (·.eH)).length ≤ 1000000000 := by
  rw [cQ]; have := List.length_filter_le (kC a) l; omega
 rw [ct] at d g
 obtain ⟨G, g1, g2⟩ := AQ _ c
 obtain ⟨G', g3, g4⟩ := yO _ c
 have := g4.unique rE g2
 subst this
 exact ⟨G', d.trans g1, g.trans g3, g2⟩
theorem zU (s : eY) (a : B8 s.Tag) : mU s s = some true := by
 unfold mU
 rw [aD (oV.2 rfl), we a a]; simp
theorem se : ∀ (l : List eY) (x : Int), (∀ s ∈ l, pE s.eH ≤ 1000000000) → ∃ r, jP l x = some r
 | [], x, _ => ⟨x, rfl⟩
 | s :: l, x, h => by
  rw [jP]
  obtain ⟨r, e⟩ := uq [s.eH] (by simp) (fun c a => by rw [aN] at a; rw [a]; exact h s (by simp))
  rw [e, aw]
  exact se l _ (fun s d => h s (by simp [d]))
theorem rS (l : List eY) (h : ∀ s ∈ l, pE s.eH ≤ 1000000000) : ∀ (a : List Key) (x : Int), ∃ r, iS l a x = some r
 | [], x => by
  rw [iS]
  obtain ⟨r, e⟩ := se l x h
  rw [e]; exact ⟨r, rfl⟩
 | k :: a, x => by rw [iS]; exact rS l h a _
theorem yX (a : List Key) (l : List eY) (h : ∀ s ∈ l, pE s.eH ≤ 1000000000) : ∃ r, nH a l = some r := rS l h a 0
def wr {α : Type} : Int ⊕ (α × List Int) → Int ⊕ (α × eP)
 | .inl e => .inl e
 | .inr (v, l) => .inr (v, ⟨l, false⟩)
def gM {α β : Type} (x : Int ⊕ (α × List Int)) (f : α → List Int → Int ⊕ (β × List Int)) : Int ⊕ (β × List Int) :=
 match x with
 | .inl e => .inl e
 | .inr (v, l) => f v l
def kR (a : Int) : Nat → Int → List Int → Int ⊕ (Int × List Int)
 | i, n, [] => .inl (if i = 9 then 11 else 10)
 | i, n, c :: l => if i = 9 then .inl 11 else if c = 0 ∧ 0 < i then .inl 11 else
   if c < 128 then (if n + c % 128 * 128 ^ i > a then .inl 12 else .inr (n + c % 128 * 128 ^ i, l)) else kR a (i + 1) (n + c % 128 * 128 ^ i) l
def ot : Int := 9223372036854775807
def nQ (a : Int) (l : List Int) : Int ⊕ (List Int × List Int) :=
 gM (kR ot 0 0 l) fun n c => if n > a then .inl 12 else if n > (c.length : Int) then .inl 10 else .inr (c.take n.toNat, c.drop n.toNat)
def lZ (l : List Int) : Int ⊕ (ByteArray × List Int) := gM (nQ 16 l) fun t a => if gh (iZ t) = true then .inr (iZ t, a) else .inl 30
def kT (l : List Int) : Int ⊕ (fg × List Int) := gM (lZ l) fun a c => gM (lZ c) fun b d => .inr (⟨a, b⟩, d)
def pj (k : Int) (h : fg) (l : List Int) : Int ⊕ (eH × List Int) :=
 if k = 1 then gM (lZ l) fun w a => .inr (⟨k, h, w, zR, zR, zS⟩, a)
 else if k = 2 then gM (kT l) fun b a => .inr (⟨k, h, zS, b, zR, zS⟩, a)
 else if k = 3 then gM (kT l) fun b a => gM (lZ a) fun w d => .inr (⟨k, h, zS, b, zR, w⟩, d)
 else gM (kT l) fun b a => gM (kT a) fun c d => .inr (⟨k, h, zS, b, c, zS⟩, d)
def pI (l : List Int) : Int ⊕ (eH × List Int) :=
 gM (kR ot 0 0 l) fun k a => if k < 1 ∨ 4 < k then .inl 11 else gM (kT a) fun h d => gM (pj k h d) fun c g => if fy c = true then .inr (c, g) else .inl 11
def vh (l : List Int) : Int ⊕ (eY × List Int) :=
 gM (pI l) fun c a => gM (nQ 8 a) fun t d => if (t.length : Int) = 8 then .inr (⟨c, t⟩, d) else .inl 11
theorem mg (l : List Int) (e : Int) (he : e ≠ 0) : fA ⟨l, false⟩ e = some (.inl e) := by
 unfold fA; simp [he]
theorem wW (l : List Int) (i : Int) (k : 0 ≤ i) : jz ⟨l, false⟩ i = some (match l with
  | [] => .inl (if i = 9 then 11 else 10)
  | c :: t => if i = 9 then .inl 11 else if c = 0 ∧ 0 < i then .inl 11 else .inr (c, ⟨t, false⟩)) := by
 unfold jz
 rw [mg _ 11 (by decide), mg _ 10 (by decide)]
 by_cases a : i = 9
 ·subst a; cases l <;> simp
 ·cases l with
  | nil => simp [a]
  | cons c t =>
   have h1 : ((c :: t).length : Int) ≠ 0 := by simp; omega
   have d : jS (decide (0 ≤ (1 : Int)) && decide ((1 : Int) ≤ ((c :: t).length : Int))) = some () := nX (by decide) (by simp; omega)
   have g : ju (c :: t) 0 = some c := lO [] c t 0 rfl
   simp only [beq_iff_eq, a, h1, aQ, aw, d, g]
   have h : jS (decide (1 ≤ (t.length : Int) + 1)) = some () := by simp [jS]; omega
   by_cases j : c = 0 <;> by_cases hp : 0 < i <;> simp [j, hp, mg, h]
theorem AN (c : Int) (a : 0 ≤ c) (h1 : c < 256) : IntKind.u8.wrap (BitVec.ofInt (IntKind.bits .u8) c &&& BitVec.ofInt (IntKind.bits .u8) 127).toNat = c % 128 := by
 obtain ⟨k, rfl⟩ : ∃ k : Nat, c = k := ⟨c.toNat, by omega⟩
 have : ∀ k : Nat, k < 256 → IntKind.u8.wrap (BitVec.ofInt (IntKind.bits .u8) (k : Int) &&& BitVec.ofInt (IntKind.bits .u8) 127).toNat = (k : Int) % 128 := by decide +kernel
 exact this k (by omega)
theorem Ac (n m j : Nat) (c : n < 2 ^ j) (hm : m * 2 ^ j + n < 18446744073709551616) : (BitVec.ofInt 64 (n : Int) ||| BitVec.ofInt 64 ((m * 2 ^ j : Nat) : Int)).toNat = n + m * 2 ^ j := by
 have h1 : n < 2 ^ 64 := by omega
 have a : m * 2 ^ j < 2 ^ 64 := by omega
 rw [BitVec.toNat_or, BitVec.ofInt_natCast, BitVec.ofInt_natCast, BitVec.toNat_ofNat, BitVec.toNat_ofNat, Nat.mod_eq_of_lt h1, Nat.mod_eq_of_lt a, Nat.or_comm, ← Nat.shiftLeft_eq, ← Nat.shiftLeft_add_eq_or_of_lt c, ep]
theorem Az (n c : Int) (i : Nat) (u : i ≤ 8) (t : 0 ≤ n ∧ n < 128 ^ i) (h : 0 ≤ c ∧ c < 256) : wi0 .i64 (BitVec.ofInt (IntKind.bits .i64) n ||| BitVec.ofInt (IntKind.bits .i64) (wi0 .i64 (wi0 .i64 (IntKind.u8.wrap (BitVec.ofInt (IntKind.bits .u8) c &&& BitVec.ofInt (IntKind.bits .u8) 127).toNat) * 2 ^ min (Int.toNat (wi0 .i64 (7 * (i : Int)))) (IntKind.bits .i64)))).toNat = n + c % 128 * 128 ^ i := by
 rw [AN c h.1 h.2, fP (x := c % 128) (by omega) (by omega), fP (x := 7 * (i : Int)) (by omega) (by omega)]
 have j : min (Int.toNat (7 * (i : Int))) (IntKind.bits .i64) = 7 * i := by simp only [IntKind.bits]; omega
 rw [j]
 obtain ⟨a, rfl⟩ : ∃ a : Nat, n = a := ⟨n.toNat, by omega⟩
 obtain ⟨b, q⟩ : ∃ b : Nat, c % 128 = b := ⟨(c % 128).toNat, by omega⟩
 rw [q]
 have s : b < 128 := by omega
 have g : (128 : Nat) ^ i = 2 ^ (7 * i) := by rw [Nat.pow_mul]
 have k : (128 : Int) ^ i = ((2 ^ (7 * i) : Nat) : Int) := by rw [← g]; simp
 have p : a < 2 ^ (7 * i) := by rw [← g]; have := t.2; exact_mod_cast this
 have d : 2 ^ (7 * i) ≤ 2 ^ 56 := Nat.pow_le_pow_right (by decide) (by omega)
 have hm : b * 2 ^ (7 * i) + a < 9223372036854775808 := by
  have : (b + 1) * 2 ^ (7 * i) ≤ 128 * 2 ^ 56 := Nat.mul_le_mul (by omega) d
  rw [bp] at this; omega
 have o : ((b : Int) * 2 ^ (7 * i)) = ((b * 2 ^ (7 * i) : Nat) : Int) := by simp
 rw [o, fP (x := ((b * 2 ^ (7 * i) : Nat) : Int)) (by omega) (by omega)]
 show wi0 .i64 ((BitVec.ofInt 64 (a : Int) ||| BitVec.ofInt 64 ((b * 2 ^ (7 * i) : Nat) : Int)).toNat : Int) = _
 rw [Ac a b (7 * i) p (by omega), fP (by omega) (by omega), k]
 simp
theorem wO (n c : Int) (i : Nat) (a : 0 ≤ n ∧ n < 128 ^ i) : 0 ≤ n + c % 128 * 128 ^ i ∧ n + c % 128 * 128 ^ i < 128 ^ (i + 1) := by
 have h1 : 0 ≤ c % 128 ∧ c % 128 < 128 := ⟨by omega, by omega⟩
 have hp : (0 : Int) < 128 ^ i := Int.pow_pos (by decide)
 constructor
 ·have := Int.mul_nonneg h1.1 (Int.le_of_lt hp); omega
 ·rw [Int.pow_succ]
  have : c % 128 * 128 ^ i ≤ 127 * 128 ^ i := Int.mul_le_mul_of_nonneg_right (by omega) (Int.le_of_lt hp)
  omega
theorem yx (a : Int) : ∀ (l : List Int) (i : Nat) (n : Int) (k : Nat), B8 l → i ≤ 9 → 0 ≤ n ∧ n < 128 ^ i → l.length < k → fS a k n i l false = some (wr (kR a i n l))
 | [], i, n, k + 1, _, w, _, _ => by
  rw [fS, wW _ _ (by omega)]
  by_cases g : i = 9 <;> simp [kR, wr, g] <;> omega
 | c :: l, i, n, k + 1, t, w, u, hk => by
  have v := t c (List.mem_cons_self ..)
  rw [fS, wW _ _ (by omega)]
  unfold kR
  by_cases g : i = 9
  ·subst g; rfl
  ·have o : ¬ ((i : Int) = 9) := by omega
   have s := Az n c i (by omega) u v
   have hp := wO n c i u
   have p : jS (decide (0 ≤ wi0 .i64 (7 * (i : Int)))) = some () := by rw [fP (by omega) (by omega)]; simp [jS]; omega
   have q : wi0 .i64 ((i : Int) + 1) = ((i + 1 : Nat) : Int) := by rw [fP (by omega) (by omega)]; simp
   simp only [g, o, aQ, aw]
   by_cases j : c = 0 ∧ 0 < i
   ·have : c = 0 ∧ 0 < (i : Int) := ⟨j.1, by omega⟩
    rw [aD this, aD j]; rfl
   ·have : ¬ (c = 0 ∧ 0 < (i : Int)) := fun h => j ⟨h.1, by omega⟩
    rw [aF this, aF j]
    simp only [s, p, q, aw]
    by_cases d : c < 128
    ·simp only [d, dv, aT]
     by_cases hm : n + c % 128 * 128 ^ i > a
     ·simp only [hm, dv, aT, mg _ 12 (by decide), aw, wr]
     ·simp only [hm, dQ, aQ, ay, aw, wr]
    ·simp only [d, dQ, aQ, ay]
     exact yx a l (i + 1) _ k (fun x y => t x (cn _ y)) (by omega) hp (by simp only [aS] at hk; omega)
theorem B8.tail {c : Int} {l : List Int} (h : B8 (c :: l)) : B8 l := fun x a => h x (cn _ a)
theorem B8.drop {l : List Int} (h : B8 l) (n : Nat) : B8 (l.drop n) := fun x a => h x (List.mem_of_mem_drop a)
theorem B8.take {l : List Int} (h : B8 l) (n : Nat) : B8 (l.take n) := fun x a => h x (List.mem_of_mem_take a)
def oe {α : Type} (l : List Int) (x : Int ⊕ (α × List Int)) : Prop := ∀ v a, x = .inr (v, a) → ∃ k, a = l.drop k
theorem oe.po {α β : Type} {l : List Int} {x : Int ⊕ (α × List Int)} {f : α → List Int → Int ⊕ (β × List Int)} (h : oe l x) (c : ∀ v a, oe a (f v a)) : oe l (gM x f) := fun v a e => by
 cases x with
 | inl q => cases e
 | inr q =>
  obtain ⟨k, hk⟩ := h q.1 q.2 rfl
  obtain ⟨j, d⟩ := c q.1 q.2 v a e
  exact ⟨k + j, by rw [d, hk, List.drop_drop]⟩
theorem nA (a : Int) : ∀ (l : List Int) (i : Nat) (n : Int), oe l (kR a i n l)
 | [], i, n => fun v d e => by cases e
 | c :: l, i, n => fun v d e => by
  unfold kR at e
  split at e
  ·cases e
  split at e
  ·cases e
  split at e
  ·split at e
   ·cases e
   ·cases e; exact ⟨1, rfl⟩
  ·obtain ⟨k, hk⟩ := nA a l (i + 1) _ v d e
   exact ⟨k + 1, by rw [hk, List.drop_succ_cons]⟩
theorem vR (a : Int) (l : List Int) : oe l (nQ a l) := (nA _ _ _ _).po fun n c v d e => by
 split at e
 ·cases e
 split at e
 ·cases e
 ·cases e; exact ⟨_, rfl⟩
theorem mL (l : List Int) : oe l (lZ l) := (vR _ _).po fun t a v c e => by
 split at e
 ·cases e; exact ⟨0, rfl⟩
 ·cases e
theorem kh (l : List Int) : oe l (kT l) := (mL _).po fun a c => (mL _).po fun b d v g e => by cases e; exact ⟨0, rfl⟩
theorem uX (k : Int) (h : fg) (l : List Int) : oe l (pj k h l) := by
 unfold pj
 split
 ·exact (mL _).po fun a c v d e => by cases e; exact ⟨0, rfl⟩
 split
 ·exact (kh _).po fun a c v d e => by cases e; exact ⟨0, rfl⟩
 split
 ·exact (kh _).po fun a c => (mL _).po fun b g v d e => by cases e; exact ⟨0, rfl⟩
 ·exact (kh _).po fun a c => (kh _).po fun b g v d e => by cases e; exact ⟨0, rfl⟩
theorem vL (l : List Int) : oe l (pI l) := (nA _ _ _ _).po fun k d => by
 split
 ·intro v a e; cases e
 ·exact (kh _).po fun h g => (uX _ _ _).po fun c i v j e => by
   split at e
   ·cases e; exact ⟨0, rfl⟩
   ·cases e
theorem zz (l : List Int) (a : Int) (c : B8 l) (d : l.length ≤ 1000000) : ie ⟨l, false⟩ a = some (wr (kR a 0 0 l)) := by
 unfold ie jv
 simp only [aw, ay, aQ]
 exact yx a l 0 0 iu c (by omega) (by decide) (by rw [lX]; omega)
theorem vp (a : Int) : ∀ (l : List Int) (i : Nat) (n v : Int) (d : List Int), 0 ≤ n ∧ n < 128 ^ i → kR a i n l = .inr (v, d) → 0 ≤ v ∧ v ≤ a
 | [], i, n, v, d, _, e => by cases e
 | c :: l, i, n, v, d, g, e => by
  have hp := wO n c i g
  unfold kR at e
  split at e
  ·cases e
  split at e
  ·cases e
  split at e
  ·split at e
   ·cases e
   ·cases e; exact ⟨hp.1, by omega⟩
  ·exact vp a l (i + 1) _ v d hp e
theorem yi (l : List Int) (a : Int) (t : B8 l) (u : l.length ≤ 1000000) : iE ⟨l, false⟩ a = some (wr (nQ a l)) := by
 unfold iE jv
 simp only [aw, ay, aQ]
 rw [zz l _ t u]
 unfold nQ
 have g := nA ot l 0 0
 have d := vp ot l 0 0
 have j : kR 9223372036854775807 0 0 l = kR ot 0 0 l := rfl
 rw [j]
 cases i : kR ot 0 0 l with
 | inl e => simp [wr, gM]
 | inr q =>
  obtain ⟨n, c⟩ := q
  obtain ⟨k, hk⟩ := g n c i
  have o := (d n c ⟨by decide, by decide⟩ i).1
  have v : c.length ≤ 1000000 := by rw [hk, dg]; omega
  simp only [aw, wr, gM]
  by_cases h1 : n > a
  ·simp only [h1, dv, aT, mg _ 12 (by decide), aw, wr]
  ·by_cases h : n > (c.length : Int)
   ·simp only [h1, h, dv, dQ, aT, aQ, ay, mg _ 10 (by decide), aw, wr]
   ·have p : jS (decide (0 ≤ n) && decide (n ≤ (c.length : Int))) = some () := nX o (by omega)
    have s : gp (c.take n.toNat) = some (c.take n.toNat) := rT (by rw [bt]; omega)
    simp only [h1, h, p, s, dQ, aQ, ay, aw, wr]
theorem B8.part {α : Type} {l a : List Int} {x : Int ⊕ (α × List Int)} {v : α} (h : B8 l) (c : l.length ≤ 1000000) (hp : oe l x) (e : x = .inr (v, a)) : B8 a ∧ a.length ≤ 1000000 := by
 obtain ⟨k, hk⟩ := hp v a e
 rw [hk]
 exact ⟨h.drop k, by rw [dg]; omega⟩
theorem tD (l : List Int) (a : B8 l) (c : l.length ≤ 1000000) : jR ⟨l, false⟩ = some (wr (lZ l)) := by
 unfold jR lZ
 rw [yi l _ a c]
 cases g : nQ 16 l with
 | inl e => rfl
 | inr q =>
  obtain ⟨t, h⟩ := q
  simp only [aw, wr, gM, mE, km]
  cases d : gh (iZ t) <;> simp [wr, mg]
theorem sf (l : List Int) (c : B8 l) (d : l.length ≤ 1000000) : jj ⟨l, false⟩ = some (wr (kT l)) := by
 unfold jj kT
 rw [tD l c d]
 cases i : lZ l with
 | inl e => rfl
 | inr q =>
  obtain ⟨a, g⟩ := q
  obtain ⟨h1, h⟩ := c.part d (mL l) i
  simp only [aw, wr, gM]
  rw [tD g h1 h]
  cases j : lZ g with
  | inl e => rfl
  | inr q => obtain ⟨b, k⟩ := q; rfl
theorem AF (l : List Int) (y : B8 l) (z : l.length ≤ 1000000) : mO ⟨l, false⟩ = some (wr (pI l)) := by
 unfold mO pI
 rw [zz l _ y z]
 have E : kR 9223372036854775807 0 0 l = kR ot 0 0 l := rfl
 rw [E]
 cases I : kR ot 0 0 l with
 | inl e => rfl
 | inr q =>
  obtain ⟨k, v⟩ := q
  obtain ⟨h1, x⟩ := y.part z (nA ot l 0 0) I
  simp only [aw, wr, gM]
  by_cases hk : k < 1 ∨ 4 < k
  ·have s : (if decide (k < 1) = true then some true else some (decide (k > 4)) : Option Bool) = some true := by
    by_cases h : k < 1 <;> simp [h]; omega
   rw [s, aD hk]
   simp [mg, wr]
  ·have s : (if decide (k < 1) = true then some true else some (decide (k > 4)) : Option Bool) = some false := by
    rw [aF (by simp; omega)]; simp; omega
   rw [s, aF hk]
   simp only [aw, aQ, ay]
   rw [sf v h1 x]
   cases G : kT v with
   | inl e => rfl
   | inr q =>
    obtain ⟨h, d⟩ := q
    obtain ⟨i, j⟩ := h1.part x (kh v) G
    simp only [aw, wr, gM]
    have F : ∀ {A : Type} (K : eH → List Int → Bool → Option A) (X : Int → Option A), True := fun _ _ => trivial
    have fin : ∀ (c : eH) (a : List Int), ((iC c).bind fun o => if (!o) = true then (fA ⟨a, false⟩ 11).bind fun p => match p with | .inl n => some (Sum.inl n) | .inr D => some (Sum.inr ((⟨0, ⟨zS, zS⟩, zS, ⟨zS, zS⟩, ⟨zS, zS⟩, zS⟩ : eH), (⟨a, false⟩ : eP))) else some (Sum.inr (c, (⟨a, false⟩ : eP)))) = some (wr (if fy c = true then .inr (c, a) else .inl 11)) := fun c a => by
     rw [kj]
     cases fy c <;> simp [mg, wr]
    unfold pj
    by_cases J : k = 1
    ·subst J
     simp only [bx, aT]
     rw [tD d i j]
     cases lZ d with
     | inl e => rfl
     | inr q => obtain ⟨w, a⟩ := q; exact fin _ _
    ·by_cases k2 : k = 2
     ·subst k2
      simp only [Int.reduceBEq, Int.reduceEq, aQ, aT, ay]
      rw [sf d i j]
      cases kT d with
      | inl e => rfl
      | inr q => obtain ⟨w, a⟩ := q; exact fin _ _
     ·by_cases L : k = 3
      ·subst L
       simp only [Int.reduceBEq, Int.reduceEq, aQ, aT, ay]
       rw [sf d i j]
       cases g : kT d with
       | inl e => rfl
       | inr q =>
        obtain ⟨w, a⟩ := q
        obtain ⟨t, u⟩ := i.part j (kh d) g
        simp only [aw, wr, gM]
        rw [tD a t u]
        cases lZ a with
        | inl e => rfl
        | inr q => obtain ⟨P, O⟩ := q; exact fin _ _
      ·have M : k = 4 := by omega
       subst M
       simp only [Int.reduceBEq, Int.reduceEq, aQ, aT, ay]
       rw [sf d i j]
       cases g : kT d with
       | inl e => rfl
       | inr q =>
        obtain ⟨w, a⟩ := q
        obtain ⟨t, u⟩ := i.part j (kh d) g
        simp only [aw, wr, gM]
        rw [sf a t u]
        cases kT a with
        | inl e => rfl
        | inr q => obtain ⟨P, O⟩ := q; exact fin _ _
theorem A4 (l : List Int) (a : B8 l) (d : l.length ≤ 1000000) : lG ⟨l, false⟩ = some (wr (vh l)) := by
 unfold lG vh
 rw [AF l a d]
 cases j : pI l with
 | inl e => rfl
 | inr q =>
  obtain ⟨c, g⟩ := q
  obtain ⟨h1, h⟩ := a.part d (vL l) j
  simp only [aw, wr, gM]
  rw [yi g _ h1 h]
  cases k : nQ 8 g with
  | inl e => rfl
  | inr q =>
   obtain ⟨t, n⟩ := q
   simp only [aw, wr, gM]
   by_cases i : (t.length : Int) = 8 <;> simp [i, mg, wr]
def wR (l : List Int) : Int × eY := match vh l with
 | .inl e => (e, vv)
 | .inr (s, a) => (if a.length > 0 then 13 else 0, s)
theorem ub (l : List Int) (c : B8 l) (a : l.length ≤ 1000000) : ij l vv = some (wR l) := by
 unfold ij ky wR
 rw [rT a, aw, A4 l c a]
 cases vh l with
 | inl e => rfl
 | inr q => obtain ⟨s, d⟩ := q; rfl
theorem xg (l : List Int) (a : B8 l) (c : l.length ≤ 1000000) : jW l vv = some (wR l) := ub l a c
theorem uc (a k : Int) (l : List Int) (c : 0 ≤ k) (h1 : k < 128) (hm : k ≤ a) : kR a 0 0 (k :: l) = .inr (k, l) := by
 unfold kR
 have e : (0 : Int) + k % 128 * 128 ^ 0 = k := by simp; omega
 rw [e, aF (by decide), aF (by simp), aD h1, aF (by omega)]
theorem ui (a : Int) (t l : List Int) (h : t.length < 128) (hm : (t.length : Int) ≤ a) : nQ a ((t.length : Int) :: (t ++ l)) = .inr (t, l) := by
 unfold nQ
 rw [uc _ _ _ (by omega) (by omega) (by unfold ot; omega)]
 simp only [gM]
 rw [aF (by omega), aF (by simp; omega)]
 simp
theorem oF {s : ByteArray} (h : gh s = true) (l : List Int) : lZ (ki s ++ l) = .inr (s, l) := by
 have h1 := gx h
 unfold lZ ki
 rw [bw, ← gf, ui _ _ _ (by rw [gf]; omega) (by rw [gf]; omega)]
 simp only [gM, nP, h, aT]
theorem nu {r : fg} (h : fE r = true) (l : List Int) : kT (im r ++ l) = .inr (r, l) := by
 simp only [fE, aU] at h
 unfold kT im
 rw [aO, oF h.1]
 simp only [gM]
 rw [oF h.2]
theorem wP {c : eH} (h : fy c = true) (l : List Int) : pI (fu c ++ l) = .inr (c, l) := by
 have a := hZ h
 have j : 1 ≤ c.Kind ∧ c.Kind ≤ 4 := by rcases a with g | g | g | g <;> rw [g.1] <;> decide
 have d : pj c.Kind c.Head (lx c ++ l) = .inr (c, l) := by
  obtain ⟨k, n, i, b, c2, o⟩ := c
  unfold pj lx
  rcases a with g | g | g | g
  ·obtain ⟨rfl, g1, rfl, rfl, rfl⟩ := g
   simp only [aT]
   rw [oF g1]; rfl
  ·obtain ⟨rfl, g1, rfl, rfl, rfl⟩ := g
   simp only [Int.reduceEq, aQ, aT]
   rw [nu g1]; rfl
  ·obtain ⟨rfl, g1, g2, g3, rfl, rfl⟩ := g
   simp only [Int.reduceEq, aQ, aT]
   rw [aO, nu g1]
   simp only [gM]
   rw [oF g2]
  ·obtain ⟨rfl, g1, g2, g3, rfl, rfl⟩ := g
   simp only [Int.reduceEq, aQ, aT]
   rw [aO, nu g1]
   simp only [gM]
   rw [nu g2]
 unfold pI fu
 rw [bw, uc _ _ _ (by omega) (by omega) (by unfold ot; omega)]
 simp only [gM]
 rw [aF (by omega), aO, nu (mi h)]
 simp only [gM]
 rw [d]
 simp only [gM, h, aT]
theorem yQ {c : eH} (h : fy c = true) {t : List Int} (a : t.length = 8) (l : List Int) : vh (fu c ++ ((8 : Int) :: t) ++ l) = .inr (⟨c, t⟩, l) := by
 unfold vh
 rw [aO, wP h]
 simp only [gM]
 have := ui 8 t l (by omega) (by omega)
 rw [a] at this
 rw [bw, show ((8 : Int) :: (t ++ l)) = (((8 : Nat) : Int) :: (t ++ l)) from rfl, this]
 simp [gM, a]
theorem wF {c : eH} (h : fy c = true) : B8 (fu c) := (zr h).tail
theorem wX (s : eY) : lD [] s = some (if fy s.eH = true ∧ s.Tag.length = 8 then (true, fu s.eH ++ ((8 : Int) :: s.Tag)) else (false, [])) := by
 unfold lD
 rw [kj]
 simp only [aw]
 cases c : fy s.eH
 ·simp
 simp only [bV, ay, aQ, aw, true_and]
 by_cases a : s.Tag.length = 8
 ·have d := oI c
  rw [aF (by simp [a]), yr _ c, aD a]
  simp only [aw]
  unfold mz
  rw [pK (by simp; omega)]
  simp only [aw, aT, ct]
  unfold jw
  rw [aF (by simp [a]), a, qt (by decide) (by decide) (by omega)]
  simp only [aw]
  rw [pK (by simp; omega)]
  simp
 ·rw [aF a, aD]
  simp; omega
theorem tO {l : List Int} (h : l.length ≤ 1000000) : iq l = some l := by
 unfold iq; rw [rT h]; rfl
theorem vE {c : eH} (h : fy c = true) {t : List Int} (a : t.length = 8) : wR (fu c ++ ((8 : Int) :: t)) = (0, ⟨c, t⟩) := by
 unfold wR
 have := yQ h a []
 rw [bY] at this
 rw [this]; rfl
theorem As (g : List Key) (c : eH) (r : eY × Int) (e : gD (some ⟨ia g⟩) c = some r) (h : r.2 ≠ 0) : r.1 = vv := by
 unfold gD at e
 rw [yB] at e
 generalize (if fy c = true then (match nE g c.Head.eJ with | some k => (k, (0 : Int)) | none => ([], 21)) else ([], 11)) = q at e
 simp only [aw] at e
 by_cases d : (q.2 != 0) = true
 ·rw [aD d] at e; cases e; rfl
 ·rw [aF d] at e
  cases a : ic c with
  | none => rw [a] at e; cases e
  | some b =>
   rw [a, aw] at e
   cases hm : lP q.1 b with
   | none => rw [hm] at e; cases e
   | some t => rw [hm] at e; cases e; exact absurd rfl h
theorem mw (k b : List Int) : (gT k b).length = 8 := rfl
theorem uh {l G : List eH} {c : eH} (h : qb l G) (d : ∀ x, x ∈ l ↔ x = c) (a : fy c = true) : G = [c] :=
 mQ.unique rE h ⟨by simp, fun x => by
  rw [aN, d]
  exact ⟨fun e => ⟨e, e ▸ a⟩, fun e => e.1⟩⟩
theorem xa {l G : List eH} (h : qb l G) (a : l = []) : G = [] := by
 subst a
 exact List.eq_nil_iff_forall_not_mem.2 (fun x c => by have := ((h.2 x).1 c).1; cases this)
theorem tk (D : jZ = some true) (d : List Key) (c : eH) (hk : K8 d) (A : pE c ≤ 1000000000) : kU d c = some true := by
 unfold kU
 rw [D]
 simp only [aw, bV, ay, aQ]
 obtain ⟨r, e⟩ := yX d [] (by simp)
 obtain ⟨F, w⟩ := uq [c] (by simp) (by simpa using A)
 rw [e, w]
 simp only [aw]
 have y : ∀ (a b : Bool), (if a = true then some true else some b : Option Bool) = some (a || b) := fun a b => zl
 rw [y]
 simp only [aw]
 split
 ·rfl
 rw [qx]
 simp only [aw]
 by_cases h : lm [] d = 0
 ·rw [aD h]
  simp only [bne_self_eq_false, ay, aQ]
  obtain ⟨q, es, g⟩ := vz d h c
  rw [es]
  simp only [aw]
  rcases g with ⟨h1, u⟩ | ⟨h1, k, hm, u⟩
  ·have t := As d c q es h1
   obtain ⟨G, g1, _, g3⟩ := rc d hk h [q.1] (fun s g => by rw [aN] at g; subst g; rw [t]; intro x j; cases j) (by simp)
   have n : G = [] := xa g3 (by
    have : kC d q.1 = false := by
     rw [← eo, lT, t]
     rintro ⟨k, hk, _⟩
     have := hk.rt
     exact absurd this (by decide)
    simp [this])
   rw [aD (by simp [h1]), g1, t, n]
   rfl
  ·rw [aF (by simp [h1]), u, wX, aD ⟨hm.rt, mw _ _⟩]
   simp only [aw]
   have E := oI hm.rt
   have hlen : (fu c ++ ((8 : Int) :: gT k (fu c))).length ≤ 1000000 := by rw [aH, aS, mw]; omega
   rw [tO hlen]
   simp only [aw]
   have o : B8 (fu c ++ ((8 : Int) :: gT k (fu c))) := (wF hm.rt).wQ (fun x j => by
    rcases aB.1 j with rfl | j
    ·omega
    ·exact mn _ _ x j)
   rw [show (⟨(⟨0, (⟨zS, zS⟩ : fg), zS, (⟨zS, zS⟩ : fg), (⟨zS, zS⟩ : fg), zS⟩ : eH), []⟩ : eY) = vv from rfl, ub _ o hlen, vE hm.rt (mw _ _)]
   have i : qn d ⟨c, gT k (fu c)⟩ := ⟨k, hm, rfl⟩
   obtain ⟨z, c1, _, v⟩ := ry d hk h ⟨c, gT k (fu c)⟩ (mn _ _)
   have p : z = 0 := v.2 i
   subst p
   obtain ⟨G, g1, _, g3⟩ := rc d hk h [⟨c, gT k (fu c)⟩, ⟨c, gT k (fu c)⟩] (fun s g => by
    rcases aB.1 g with rfl | g
    ·exact mn _ _
    ·obtain rfl := aN.1 g; exact mn _ _) (by simp)
   have n : G = [c] := uh g3 (fun x => by
    have : kC d ⟨c, gT k (fu c)⟩ = true := (lT _ _).2 i
    simp [this]) hm.rt
   subst n
   simp only [aw, aT, bx, c1, g1]
   simp [oV]
 ·rw [aF h]
  simp [h]
def ou : List Key := [⟨⟨#[97]⟩, [107]⟩, ⟨⟨#[98]⟩, [108]⟩]
def yw : List Key := [⟨⟨#[97]⟩, [109]⟩]
def jQ : eH := ⟨1, ⟨⟨#[97]⟩, ⟨#[114]⟩⟩, ⟨#[100]⟩, zR, zR, zS⟩
theorem xd : lm [] ou = 0 := by decide +kernel
theorem AK : lm [] yw = 0 := by decide +kernel
theorem AH : K8 ou := fun k hk => by
 simp only [ou, aB, bc, cy] at hk
 rcases hk with rfl | rfl <;> intro x a <;> obtain rfl := aN.1 a <;> decide
theorem tT : fy jQ = true := by decide +kernel
theorem zo : Mk ou jQ [107] := ⟨xd, tT, by decide +kernel⟩
theorem A5 : Mk yw jQ [109] := ⟨AK, tT, by decide +kernel⟩
theorem Ak : gT [109] (fu jQ) ≠ gT [107] (fu jQ) := by decide +kernel
theorem yP {g : List Key} {c : eH} {k t : List Int} (hm : Mk g c k) (d : B8 t) : lV k (fu c) t = some (decide (gT k (fu c) = t)) := by
 unfold lV
 have a : iU k = some true := by
  unfold iU
  have := hm.len
  rw [cL (show (k.length : Int) ≥ 1 by omega), cL (show (k.length : Int) ≤ 32 by omega)]; rfl
 rw [a]
 simp only [aw, aT, sJ _ hm.len, mq]
 rw [we (mn _ _) d]
theorem xf {a : List Key} {c : eH} {k t : List Int} (hm : Mk a c k) (d : B8 t) (h : gT k (fu c) ≠ t) : fK (some ⟨ia a⟩) ⟨c, t⟩ = some 20 := by
 unfold fK
 rw [yB]
 simp only [aw, hm.rt, aT, hm.lk]
 rw [aD (by rfl), yr _ hm.rt, aw, yP hm d]
 simp [h]
theorem zy (a : List Key) (c : (a.map (·.fa)).Nodup) (d : ∀ k ∈ a, k.fa.size ≤ 16) (g : a.length ≤ 2000000) : jn (some ⟨ia a⟩) = some (kz (a.map (·.fa))) := by
 unfold jn
 have e : (ia a).map (·.1) = a.map (·.fa) := by unfold ia; rw [bP]; rfl
 have hk : ni (ia a) = some (kz (a.map (·.fa))) := by
  unfold ni
  rw [aD ⟨by rw [e]; exact c, fun p hp => by
   obtain ⟨k, hk, rfl⟩ := aP.1 hp
   have := d k hk
   show k.fa.size ≤ maxLen
   unfold maxLen; omega, by unfold ia; rw [cQ]; omega⟩, e]
 simp only [Option.isNone_some, ay, aQ, aw]
 unfold gy
 rw [hk]; rfl
theorem za : jZ = some true := by
 unfold jZ
 have o := qx ou
 rw [aD xd] at o
 have p := qx [⟨⟨#[97]⟩, []⟩]
 rw [show lm [] [(⟨⟨#[97]⟩, []⟩ : Key)] = 21 by decide +kernel] at p
 have t := qx yw
 rw [aD AK] at t
 obtain ⟨q, es, c⟩ := vz ou xd jQ
 obtain ⟨n, k, hm, g⟩ : q.2 = 0 ∧ ∃ k, Mk ou jQ k ∧ q.1 = ⟨jQ, gT k (fu jQ)⟩ := c.resolve_left (fun h => h.2 _ zo)
 obtain rfl := hm.unique zo
 obtain ⟨J, K⟩ := q
 simp only at n g
 subst n g
 have u := wX ⟨jQ, gT [107] (fu jQ)⟩
 rw [aD ⟨tT, mw _ _⟩] at u
 have I := oI tT
 have hlen : (fu jQ ++ ((8 : Int) :: gT [107] (fu jQ))).length ≤ 1000000 := by rw [aH, aS, mw]; omega
 have i : B8 (fu jQ ++ ((8 : Int) :: gT [107] (fu jQ))) := (wF tT).wQ (fun x d => by
  rcases aB.1 d with rfl | d
  ·omega
  ·exact mn _ _ x d)
 have v := xg _ i hlen
 rw [vE tT (mw _ _)] at v
 have D := tO hlen
 have a : qn ou ⟨jQ, gT [107] (fu jQ)⟩ := ⟨_, zo, rfl⟩
 obtain ⟨y, c1, _, w⟩ := ry ou AH xd ⟨jQ, gT [107] (fu jQ)⟩ (mn _ _)
 have j : y = 0 := w.2 a
 subst j
 have c2 := xf A5 (mn _ _) Ak
 have A := zy ou (by decide +kernel) (by decide +kernel) (by decide)
 obtain ⟨G, g1, _, g3⟩ := rc ou AH xd [⟨jQ, gT [107] (fu jQ)⟩, ⟨jQ, []⟩] (fun s c => by
  rcases aB.1 c with rfl | c
  ·exact mn _ _
  ·obtain rfl := aN.1 c; intro x d; cases d) (by simp)
 have z : G = [jQ] := uh g3 (fun x => by
  have h1 : kC ou ⟨jQ, gT [107] (fu jQ)⟩ = true := (lT _ _).2 a
  have g : kC ou ⟨jQ, []⟩ = false := by
   rw [← eo, lT]
   rintro ⟨k, _, hk⟩
   have := aG List.length hk
   cases this
  simp [h1, g]) tT
 subst z
 have E := zU ⟨jQ, gT [107] (fu jQ)⟩ (mn _ _)
 have len8 : ((gT [107] (fu jQ)).length : Int) = 8 := by rw [mw]; rfl
 have len2 : ((kz (ou.map (·.fa))).length : Int) = 2 := by
  unfold kz
  rw [dB]; rfl
 generalize F : gT [107] (fu jQ) = T at *
 rw [show ([(⟨(⟨#[97]⟩ : ByteArray), [107]⟩ : Key), (⟨(⟨#[98]⟩ : ByteArray), [108]⟩ : Key)] : List Key) = ou from rfl, o, aw, p, aw]
 rw [show (⟨1, (⟨(⟨#[97]⟩ : ByteArray), (⟨#[114]⟩ : ByteArray)⟩ : fg), (⟨#[100]⟩ : ByteArray), (⟨zS, zS⟩ : fg), (⟨zS, zS⟩ : fg), zS⟩ : eH) = jQ from rfl, es, aw]
 rw [show ([(⟨(⟨#[97]⟩ : ByteArray), [109]⟩ : Key)] : List Key) = yw from rfl, t, aw]
 simp only
 rw [u, aw, D, aw]
 rw [show (⟨(⟨0, (⟨zS, zS⟩ : fg), zS, (⟨zS, zS⟩ : fg), (⟨zS, zS⟩ : fg), zS⟩ : eH), []⟩ : eY) = vv from rfl, v, aw]
 simp only [bx, aT, aw, len8, c1, c2, A, len2, g1, E, aF (by decide : ¬ ((21 : Int) = 0))]
 rfl
end Go.Proofs.Ytcafmokjkjcomaa
namespace Go.Proofs.Ytcafmokjkjcomaa.Lf
open Go.ChangeShapes Go.WideShapes Go.ChangeAt Go.RowKit
open Go.Proofs.Ytcafmokjkjcomaa (Rows.uptoBulk Rows.uptoBulkAll Rows.uptoSmall)
theorem zV {H : Type} (d : DataW H) : 1 ≤ Rows.uptoBulk d := by
 cases d with
 | lit l => cases l <;> simp [Rows.uptoBulk]
 | nil => simp [Rows.uptoBulk]
 | ptr d => simp [Rows.uptoBulk]
 | slice a spare => simp [Rows.uptoBulk]
 | agg parts => simp [Rows.uptoBulk]
 | iface t d => simp [Rows.uptoBulk]
 | map entries => simp [Rows.uptoBulk]
 | held h => simp [Rows.uptoBulk]
def vC {α : Type} (P : Program) (t : TypeId) (enc : α → List Value) (g : α → Nat) : Prop :=
 ∀ (H : Type) (c : TypeId × Value → H) (W : World) (base : Nat) (sp : Nat → Bool) (d : Bool) (fuel : Nat) (cs : List Value) (x : DataW H × List MemPlace),
  DataW.trod c P W base sp d fuel t cs = some x → ∃ a : α, cs = enc a ∧ g a ≤ Rows.uptoBulk x.1
theorem vU {P : Program} {t : TypeId} (a : P.underlying t = some .string) : vC P t (fun s : ByteArray => [.string s]) (fun s => s.size) := by
 intro H c W base sp d fuel cs x h
 obtain ⟨s, rfl, rfl, _⟩ := DataW.trod_string a h
 refine ⟨s, rfl, ?_⟩
 have e : s.data.toList.length = s.size := by rw [bz]; rfl
 simp [Rows.uptoBulk, e]
theorem yF {P : Program} {t : TypeId} {k : IntKind} (a : P.underlying t = some (.int k)) : vC P t (fun n : Int => [.int k n]) (fun _ => 0) := by
 intro H c W base sp d fuel cs x h
 obtain ⟨n, rfl, rfl, _⟩ := DataW.trod_int a h
 exact ⟨n, rfl, db _⟩
theorem yR {α : Type} {n : Nat} {p : Nat → α → Prop} (h : ∀ i, i < n → ∃ x, p i x) : ∃ l : List α, l.length = n ∧ ∀ i x, l[i]? = some x → p i x := by
 induction n with
 | zero => exact ⟨[], rfl, by simp⟩
 | succ n ih =>
  obtain ⟨l, h1, d⟩ := ih fun i c => h i (by omega)
  obtain ⟨x, j⟩ := h n (by omega)
  refine ⟨l ++ [x], by simp [h1], fun i y a => ?_⟩
  by_cases c : i < l.length
  ·rw [List.getElem?_append_left c] at a
   exact d i y a
  ·rw [da (by omega)] at a
   have : i - l.length = 0 := by
    cases g : i - l.length with
    | zero => rfl
    | succ m => rw [g] at a; simp at a
   rw [this] at a
   have e : i = n := by omega
   simp at a
   subst a; rw [e]; exact j
theorem uG {W : World} {a : Addr} {v : Value} (h : W.cell? a = some v) : ∃ cs T fr, W.heap[a.block]? = some (.cells cs T fr) ∧ a.spot = none ∧ cs[a.off]? = some v := by
 unfold World.cell? at h
 split at h
 ·rename_i c T fr g
  by_cases d : a.spot.isSome
  ·simp [d] at h
  ·simp only [d] at h
   exact ⟨c, T, fr, g, by simpa using d, by simpa using h⟩
 ·cases h
theorem Ex.below {dd : Bool} {W W' : World} (h : Ex dd W W') : Below W.heap.size W W' := ⟨h.os, h.tape, h.output, h.size, h.jl⟩
theorem pP {H : Type} {n : TypeId × Value → H} {P : Program} (s : laidOutB P = true) {W W' : World} {c : Nat → Bool} :
  ∀ {i : List TypeId} {vs : List Value} {j : List (DataW H)} {g : List MemPlace}, (∀ t ∈ i, P.readableRec t = true ∧ t < P.types.size) →
   DataW.TrodAll n P W 0 (fun _ => true) true i vs j g → (∀ p ∈ g, W.sameAt W' p) → (∀ p ∈ g, c p.block = true) → DataW.TrodAll n P W' 0 c true i vs j g
 | [], _, _, _, _, h, _, _ => by
  obtain ⟨rfl, rfl, rfl⟩ := trodAll_nil h
  exact trodAll_mk0
 | t :: i, _, _, _, k, h, h1, o => by
  obtain ⟨v, vs, d, j, p, q, rfl, rfl, rfl, w, y⟩ := trodAll_cons h
  exact trodAll_cons_mk (WideElems.Trod_stays s (k t (by simp)).1 (k t (by simp)).2 w (fun x a => h1 x (by simp [a])) (fun x a => o x (by simp [a])))
   (pP s (fun u hu => k u (by simp [hu])) y (fun x a => h1 x (by simp [a])) (fun x a => o x (by simp [a])))
theorem vN {H : Type} {enc : TypeId × Value → H} {P : Program} (L : laidOutB P = true) {f : Func} {s : ChangeSpec} {apart fresh handsOn again : Bool} {W W' : World} {args : Array Value} {v : Value} {a gs : List (DataW H)} {before : List MemPlace} (O : ∀ t ∈ f.params.toList, P.readableRec t = true ∧ t < P.types.size) (o : s.vars = []) (y : DataW.Whole enc P f.params.toList s.vars apart W args.toList a gs before) {dd : Bool} (F : Ex dd W W') (c : ∀ (b : Nat) (sp : Nat → Bool) (K : Bool), DataW.TrodAll enc P W' b sp K f.resultTypes.toList (v.resultList f.resultTypes.size) (s.fn H (a ++ gs)).results []) (d : (s.fn H (a ++ gs)).args = a) (h : (s.fn H (a ++ gs)).vars = []) (D : ∀ (j : Nat) (t : TypeId) (r : Value), f.resultTypes[j]? = some t → (v.resultList f.resultTypes.size)[j]? = some r → Value.okWide P W' .any 0 t r) :
  s.post enc P f apart fresh handsOn again W args v W' := by
 have g := y.lt
 have hold : ∀ p ∈ before, (fun b => decide (b < W.heap.size)) p.block = true := fun p hp => by simpa using g p hp
 have A := Ex.below F
 have z := y
 obtain ⟨p, q, I, G, k, Q, M⟩ := y
 rw [o] at G
 obtain ⟨rfl, rfl⟩ := trodVars_none G
 rw [bY] at k
 subst k
 have n : ∀ sp : Nat → Bool, (∀ p ∈ before, sp p.block = true) → DataW.TrodAll enc P W' 0 sp true f.params.toList args.toList (s.fn H (a ++ [])).args before := fun sp E => by
  rw [d]
  exact pP L O I (fun x F => A.same (g x F)) E
 have u : ∀ sp : Nat → Bool, DataW.TrodVars enc P W' sp s.vars (s.fn H (a ++ [])).vars [] := fun sp => by
  rw [h, o]; rfl
 refine ⟨a, [], before, [], before, [], z, c _ _ _, n _ hold, u _, World.keptBut_mono (fun p hp => ⟨hp, ?_⟩) (A.frame (· ∈ before)), fun _ => ?_⟩
 ·exact Or.inr (Or.inl hp)
 ·refine ⟨D, _, _, ([] ++ before) ++ [], ⟨[] ++ before, [], trodAll_append (n _ (fun _ _ => rfl)) (c _ _ _), u _, rfl, ?_, ?_⟩, ?_⟩
  ·intro b off hp
   have i : MemPlace.cell b off ∈ before := by simpa using hp
   rw [World.frozen?_of_block (w := W) (A.block b (g _ i))]
   exact Q b off i
  ·intro J
   simpa using M J
  ·intro p hp _
   simpa using hp
end Go.Proofs.Ytcafmokjkjcomaa.Lf
namespace Go.Proofs.Ytcafmokjkjcomaa.Lf
open Go.ChangeShapes Go.WideShapes Go.ChangeAt Go.RowKit
open Go.Proofs.Ytcafmokjkjcomaa (Rows.uptoBulk Rows.uptoBulkAll Rows.uptoSmall)
def uI {α : Type} (P : Program) (t : TypeId) (R : jg α) (g : α → Nat) : Prop :=
 ∀ (H : Type) (c : TypeId × Value → H) (W : World) (base : Nat) (sp : Nat → Bool) (d : Bool) (fuel : Nat) (cs : List Value) (x : DataW H × List MemPlace),
  DataW.trod c P W base sp d fuel t cs = some x → ∃ a : α, R (hp W) cs a ∧ g a ≤ Rows.uptoBulk x.1
end Go.Proofs.Ytcafmokjkjcomaa.Lf
namespace Go.Proofs.Ytcafmokjkjcomaa.Lf
open Go.ChangeShapes Go.WideShapes Go.ChangeAt Go.RowKit
open Go.Proofs.Ytcafmokjkjcomaa (Rows.uptoBulk Rows.uptoBulkAll Rows.uptoSmall)
theorem qY {H : Type} : ∀ l : List (DataW H), Rows.uptoBulkAll l = (l.map Rows.uptoBulk).sum
 | [] => by simp [Rows.uptoBulkAll]
 | d :: l => by simp [Rows.uptoBulkAll, qY l]
theorem xr {α : Type} (g : α → Nat) : ∀ (n : Nat) (f : Nat → Nat) {l : List α}, l.length = n → (∀ i x, l[i]? = some x → g x ≤ f i) → (l.map g).sum ≤ ((List.range n).map f).sum
 | 0, f, l, c, h => by
  obtain rfl := bR.1 c
  simp
 | n + 1, f, [], c, h => by cases c
 | n + 1, f, a :: l, c, h => by
  rw [List.range_succ_eq_map, aR, aR, List.sum_cons, List.sum_cons, bP]
  have h1 := h 0 a rfl
  have j := xr g n (f ∘ Nat.succ) (l := l) (by simpa using c) (fun i x d => h (i + 1) x (by simpa using d))
  omega
def yj {α : Type} (c : α → Nat) (l : List α) : Nat := (l.map fun a => max 1 (c a)).sum
theorem uR {α : Type} {P : Program} {t e : TypeId} {k : Nat} {R : jg α} {M : α → Nat} (hk : P.cellsOf e = k) (J : 0 < k) (ht : P.underlying t = some (.slice e)) {H : Type} {U : TypeId × Value → H} {W : World} {base : Nat} {sp : Nat → Bool} {held : Bool} {fuel : Nat} {cs : List Value} {x : DataW H × List MemPlace} (hd : ∀ (fuel : Nat) (cs : List Value) (y : DataW H × List MemPlace), DataW.trod U P W base sp held fuel e cs = some y → SizeOf.sizeOf y.1 < SizeOf.sizeOf x.1 → ∃ a : α, R (hp W) cs a ∧ M a ≤ Rows.uptoBulk y.1) (hf : DataW.trod U P W base sp held fuel t cs = some x) :
  ∃ v l, cs = [v] ∧ Sl R k (hp W) v l ∧ yj M l ≤ Rows.uptoBulk x.1 := by
 rcases Go.Deep.open_slice ht hf with ⟨rfl, rfl⟩ | ⟨a, ln, cp, m, n, D, Q, rfl, hb, hl, hm, L, rfl, G⟩
 ·exact ⟨_, [], rfl, ⟨none, 0, rfl, aM _, db _, fun h => absurd h (Nat.lt_irrefl _)⟩, db _⟩
 ·have aa : ln ≤ m := by rw [L]; split <;> omega
  have hB : ((List.range ln).map fun i => Rows.uptoBulk (D i)).sum ≤ Rows.uptoBulk (DataW.slice ((List.range ln).map D) ((List.range (m - ln)).map fun j => D (ln + j))) := by
   simp only [Rows.uptoBulk]
   rw [qY, bP]
   have e : ((List.range ln).map fun i => Rows.uptoBulk (D i)) = (List.range ln).map (Rows.uptoBulk ∘ D) := rfl
   rw [e]
   omega
  have hS : ∀ i, i < ln → SizeOf.sizeOf (D i) < SizeOf.sizeOf (DataW.slice ((List.range ln).map D) ((List.range (m - ln)).map fun j => D (ln + j))) := fun i I => by
   have := List.sizeOf_lt_of_mem (aP.2 ⟨i, List.mem_range.2 I, rfl⟩ : D i ∈ (List.range ln).map D)
   rw [DataW.slice.sizeOf_spec]; omega
  simp only at hd ⊢
  generalize Rows.uptoBulk (DataW.slice ((List.range ln).map D) ((List.range (m - ln)).map fun j => D (ln + j))) = B at hB
  obtain ⟨l, K, q⟩ := yR (α := α) (n := ln) (p := fun i x => ∃ cs', W.cells? base (a.add (i * k)) k = some cs' ∧ R (hp W) cs' x ∧ M x ≤ Rows.uptoBulk (D i)) fun i I => by
   obtain ⟨cs', h1, z⟩ := G i (by omega)
   obtain ⟨x, hR, A⟩ := hd _ _ _ z (hS i I)
   rw [hk] at h1
   exact ⟨x, cs', h1, hR, A⟩
  subst K
  refine ⟨_, l, rfl, ⟨some a, cp, rfl, hl, hm, fun h0 => ?_⟩, ?_⟩
  ·have c : ∀ i x, l[i]? = some x → ∃ cs', R (hp W) cs' x ∧ cs'.length = k ∧ ∀ j, j < k → W.cell? ((a.add (i * k)).add j) = cs'[j]? := fun i x s =>
    let ⟨cs', h1, z, _⟩ := q i x s
    let ⟨_, A, Y⟩ := World.cells?_some h1
    ⟨cs', z, A, Y⟩
   obtain ⟨a6, _, Y, h5⟩ := c 0 l[0] (by simp [h0])
   have E := h5 0 J
   rw [Nat.zero_mul, br (by omega)] at E
   have e0 : (a.add 0).add 0 = a := rfl
   rw [e0] at E
   obtain ⟨cs, T, fr, F, Z, _⟩ := uG E
   obtain ⟨u, w, a1⟩ := a
   simp only at F Z
   subst Z
   refine ⟨u, w, cs, T, fr, rfl, F, fun i x s => ?_⟩
   obtain ⟨cs', gR, g1, g2⟩ := c i x s
   refine ⟨cs', g1, gR, fun j y hy => ?_⟩
   have hj : j < k := by
    rw [← g1]
    exact (aI.1 hy).1
   have h9 := g2 j hj
   rw [Go.Deep.add_add, hy] at h9
   obtain ⟨O, T', a7, d, a8, g⟩ := uG h9
   have o : (Addr.add ⟨u, w, none⟩ (i * k + j)).block = u ∧ (Addr.add ⟨u, w, none⟩ (i * k + j)).off = w + (i * k + j) := by
    unfold Addr.add
    split
    ·rename_i hz
     rw [hz]; exact ⟨rfl, rfl⟩
    ·exact ⟨rfl, rfl⟩
   rw [o.1, F] at d
   cases d
   rw [o.2, ← dm] at g
   exact g
  ·refine bD (xr _ _ _ rfl fun i x s => ?_) hB
   exact Nat.max_le.2 ⟨zV _, (q i x s).elim fun _ h => h.2.2⟩
theorem qN {α : Type} {P : Program} {t e : TypeId} {k : Nat} {R : jg α} {c : α → Nat} (hk : P.cellsOf e = k) (a : 0 < k) (g : uI P e R c) (j : P.underlying t = some (.slice e)) {H : Type} {d : TypeId × Value → H} {W : World} {base : Nat} {sp : Nat → Bool} {held : Bool} {fuel : Nat} {cs : List Value} {x : DataW H × List MemPlace} (i : DataW.trod d P W base sp held fuel t cs = some x) :
  ∃ v l, cs = [v] ∧ Sl R k (hp W) v l ∧ yj c l ≤ Rows.uptoBulk x.1 := uR hk a j (fun _ _ _ h _ => g _ _ _ _ _ _ _ _ _ h) i
end Go.Proofs.Ytcafmokjkjcomaa.Lf
namespace Go.Proofs.Ytcafmokjkjcomaa.Lf
open Go.ChangeShapes Go.WideShapes Go.ChangeAt Go.RowKit
open Go.Proofs.Ytcafmokjkjcomaa (Rows.uptoBulk Rows.uptoBulkAll Rows.uptoSmall)
def xe {α : Type} (R : jg α) (Q : α → Prop) : jg α := fun μ ys x => R μ ys x ∧ Q x
theorem Sl.all {α : Type} {R : jg α} {Q : α → Prop} {k : Nat} {μ : eV} {v : Value} {l : List α} (h : Sl (xe R Q) k μ v l) : Sl R k μ v l ∧ ∀ x ∈ l, Q x := by
 obtain ⟨A, c, rfl, h1, j, s⟩ := h
 cases l with
 | nil => exact ⟨⟨A, c, rfl, h1, j, fun h => absurd h (by simp)⟩, by simp⟩
 | cons a l =>
  obtain ⟨b, o, cs, T, fr, e, t, n⟩ := s (by simp)
  refine ⟨⟨A, c, rfl, h1, j, fun _ => ⟨b, o, cs, T, fr, e, t, fun i x g => ?_⟩⟩, fun x g => ?_⟩
  ·obtain ⟨ys, p, d, q⟩ := n i x g
   exact ⟨ys, p, d.1, q⟩
  ·obtain ⟨i, u⟩ := List.mem_iff_getElem?.1 g
   obtain ⟨ys, p, d, q⟩ := n i x u
   exact d.2
theorem yH {P : Program} {t : TypeId} (a : P.underlying t = some (.int .u8)) : uI P t (xe (Pl (eQ .u8)) (fun x => 0 ≤ x ∧ x < 256)) (fun _ => 0) := by
 intro H c W base sp d fuel cs x h
 obtain ⟨n, rfl, rfl, hw⟩ := DataW.trod_int a h
 refine ⟨n, ⟨rfl, ?_⟩, db _⟩
 simp [Lit.wf, IntKind.min, IntKind.max, IntKind.bits, IntKind.signed] at hw
 omega
theorem uN {α H : Type} {p : TypeId × Value → H} {P : Program} {t e : TypeId} {k : Nat} {R : jg α} {Q : α → Prop} {n : α → Nat} (hk : P.cellsOf e = k) (c : 0 < k) (w : uI P e (xe R Q) n) (j : P.underlying t = some (.slice e)) {W : World} {base o : Nat} {r : Reach} {sp : Nat → Bool} {held : Bool} {v : Value} {d : DataW H} {z : List MemPlace} (a : Value.okWide P W r o t v) (h : DataW.Trod p P W base sp held t v d z) :
  ∃ l : List α, Sl R k (hp W) v l ∧ yj n l ≤ Rows.uptoBulk d ∧ ∀ x ∈ l, Q x := by
 obtain ⟨A, ln, g, rfl⟩ := okWide_slice j a
 obtain ⟨fuel, y⟩ := h
 obtain ⟨u, l, h1, i, q⟩ := qN hk c w j y
 have s : (Value.slice A ln g).cells.toList = [Value.slice A ln g] := rfl
 rw [s] at h1
 cases h1
 exact ⟨l, (Sl.all i).1, q, (Sl.all i).2⟩
end Go.Proofs.Ytcafmokjkjcomaa.Lf
namespace Go.Proofs.Ytcafmokjkjcomaa
open Go.IntKind renaming wrap → wi0
set_option maxRecDepth 10000
open Go.ChangeShapes Go.WideShapes Go.ChangeAt Go.RowKit
open Go.Proofs.Ytcafmokjkjcomaa Go.Proofs.Ytcafmokjkjcomaa.Lf
theorem vk : Try.prog.cellsOf 53 = 2 := by kernel_rfl
theorem len2 {α : Type} {l : List α} (h : l.length = 2) : ∃ a0 a, l = [a0, a] := by
 match l, h with
 | [a0, a], _ => exact ⟨a0, a, rfl⟩
theorem tM : Try.prog.cellsOf 9 = 1 := by kernel_rfl
theorem tJ : vC Try.prog 9 (fun s : ByteArray => [.string s]) (fun s => s.size) := vU Try.underlying9
theorem yW : Try.prog.cellsOf 34 = 1 := by kernel_rfl
theorem zB : Try.prog.cellsOf 5 = 1 := by kernel_rfl
theorem Ai : uI Try.prog 5 (xe (Pl (eQ .u8)) (fun x => 0 ≤ x ∧ x < 256)) (fun _ => 0) := yH Try.underlying5
def yu (x : Key) : Nat := x.fa.size + yj (fun _ : Int => 0) x.Key + 1
def Am (x : Key) : Prop := (∀ y ∈ x.Key, 0 ≤ y ∧ y < 256)
theorem Aa : uI Try.prog 53 (xe js Am) yu := by
 intro H E W base sp F fuel cs x h
 obtain ⟨D, u, _, p, o, i, j⟩ := ej Try.underlying53 h
 obtain ⟨k, n, rfl⟩ := len2 i
 obtain ⟨a, c, rfl⟩ := len2 (o.trans vk)
 have d : DataW.trod _ Try.prog W _ _ _ u 9 (([a, c].drop 0).take (Try.prog.cellsOf 9)) = some k := j 0 _ rfl
 have g : DataW.trod _ Try.prog W _ _ _ u 34 (([a, c].drop 1).take (Try.prog.cellsOf 34)) = some n := j 1 _ rfl
 simp only [yW, tM, List.drop, List.take] at d g
 obtain ⟨s2, s, w⟩ := tJ _ _ _ _ _ _ _ _ _ d
 simp only [bK, and_true] at s
 obtain rfl := s
 obtain ⟨v3, A, t, q, y⟩ := qN zB (by decide) Ai Try.underlying34 g
 simp only [bK, and_true] at t
 obtain rfl := t
 obtain ⟨q, g3⟩ := Lf.Sl.all q
 have v := aG (fun z => Rows.uptoBulk z.1) p
 refine ⟨⟨s2, A⟩, ⟨js.mk ⟨_, rfl, q⟩, g3⟩, ?_⟩
 simp only [List.map, Rows.uptoBulk, Rows.uptoBulkAll, yu] at w y v ⊢
 omega
theorem AZ : vC Try.prog 3 (fun n : Int => [.int .i64 n]) (fun _ => 0) := yF Try.underlying3
theorem zG : Try.prog.cellsOf 3 = 1 := by kernel_rfl
theorem vl : Try.prog.cellsOf 24 = 2 := by kernel_rfl
def pA (x : fg) : Nat := x.eJ.size + x.eK.size
theorem vQ : vC Try.prog 24 fz pA := by
 intro H g W base sp j fuel cs x h
 obtain ⟨xs, n, _, rfl, q, hlen, k⟩ := ej Try.underlying24 h
 obtain ⟨t, u, rfl⟩ := len2 hlen
 obtain ⟨a, c1, rfl⟩ := len2 (q.trans vl)
 have i : DataW.trod g Try.prog W base sp j n 9 (([a, c1].drop 0).take (Try.prog.cellsOf 9)) = some t := k 0 _ rfl
 have h1 : DataW.trod g Try.prog W base sp j n 9 (([a, c1].drop 1).take (Try.prog.cellsOf 9)) = some u := k 1 _ rfl
 simp only [tM, List.drop, List.take] at i h1
 obtain ⟨s, c, o⟩ := tJ _ _ _ _ _ _ _ _ _ i
 obtain ⟨s1, d, p⟩ := tJ _ _ _ _ _ _ _ _ _ h1
 simp only [bK, and_true] at c d
 obtain rfl := c
 obtain rfl := d
 refine ⟨⟨s, s1⟩, rfl, ?_⟩
 simp only [List.map, Rows.uptoBulk, Rows.uptoBulkAll, pA] at o p ⊢
 omega
theorem yK : Try.prog.cellsOf 26 = 9 := by kernel_rfl
theorem AL {α : Type} {l : List α} (h : l.length = 6) : ∃ a0 a a2 a3 a4 a5, l = [a0, a, a2, a3, a4, a5] := by
 match l, h with
 | [a0, a, a2, a3, a4, a5], _ => exact ⟨a0, a, a2, a3, a4, a5, rfl⟩
theorem AO {α : Type} {l : List α} (h : l.length = 9) : ∃ a0 a a2 a3 a4 a5 c d g, l = [a0, a, a2, a3, a4, a5, c, d, g] := by
 match l, h with
 | [a0, a, a2, a3, a4, a5, c, d, g], _ => exact ⟨a0, a, a2, a3, a4, a5, c, d, g, rfl⟩
def rV (x : eH) : Nat := pA x.Head + x.fa.size + pA x.B + pA x.C + x.eX.size
theorem Aj : vC Try.prog 26 eO rV := by
 intro H o W base sp p fuel cs x h
 obtain ⟨xs, n, _, rfl, O, hlen, q⟩ := ej Try.underlying26 h
 obtain ⟨U, Y, Z, y3, y4, y5, rfl⟩ := AL hlen
 obtain ⟨a, c1, c2, c, d, g, i, j, k, rfl⟩ := AO (O.trans yK)
 have z : DataW.trod o Try.prog W base sp p n 3 (([a, c1, c2, c, d, g, i, j, k].drop 0).take (Try.prog.cellsOf 3)) = some U := q 0 _ rfl
 have h1 : DataW.trod o Try.prog W base sp p n 24 (([a, c1, c2, c, d, g, i, j, k].drop 1).take (Try.prog.cellsOf 24)) = some Y := q 1 _ rfl
 have A : DataW.trod o Try.prog W base sp p n 9 (([a, c1, c2, c, d, g, i, j, k].drop 3).take (Try.prog.cellsOf 9)) = some Z := q 2 _ rfl
 have D : DataW.trod o Try.prog W base sp p n 24 (([a, c1, c2, c, d, g, i, j, k].drop 4).take (Try.prog.cellsOf 24)) = some y3 := q 3 _ rfl
 have E : DataW.trod o Try.prog W base sp p n 24 (([a, c1, c2, c, d, g, i, j, k].drop 6).take (Try.prog.cellsOf 24)) = some y4 := q 4 _ rfl
 have F : DataW.trod o Try.prog W base sp p n 9 (([a, c1, c2, c, d, g, i, j, k].drop 8).take (Try.prog.cellsOf 9)) = some y5 := q 5 _ rfl
 simp only [vl, zG, tM, List.drop, List.take] at z h1 A D E F
 obtain ⟨P, s, G⟩ := AZ _ _ _ _ _ _ _ _ _ z
 obtain ⟨s1, t, I⟩ := vQ _ _ _ _ _ _ _ _ _ h1
 obtain ⟨s2, u, J⟩ := tJ _ _ _ _ _ _ _ _ _ A
 obtain ⟨Q, v, K⟩ := vQ _ _ _ _ _ _ _ _ _ D
 obtain ⟨R, w, L⟩ := vQ _ _ _ _ _ _ _ _ _ E
 obtain ⟨T, y, M⟩ := tJ _ _ _ _ _ _ _ _ _ F
 simp only [fz, bK, and_true] at s t u v w y
 obtain rfl := s
 obtain ⟨rfl, rfl⟩ := t
 obtain rfl := u
 obtain ⟨rfl, rfl⟩ := v
 obtain ⟨rfl, rfl⟩ := w
 obtain rfl := y
 refine ⟨⟨P, s1, s2, Q, R, T⟩, rfl, ?_⟩
 simp only [List.map, Rows.uptoBulk, Rows.uptoBulkAll, rV] at G I J K L M ⊢
 omega
theorem AM : Try.prog.readableRec 22 = true ∧ 22 < Try.prog.types.size := ⟨by kernel_rfl, cW (by kernel_rfl)⟩
theorem A0 : Try.prog.readableRec 26 = true ∧ 26 < Try.prog.types.size := ⟨by kernel_rfl, cW (by kernel_rfl)⟩
theorem A6 : ownKnob Try.prog.godebug = none := by kernel_rfl
theorem xH : laidOutB Try.prog = true := by kernel_rfl
theorem xF (H : Type) (enc : TypeId × Value → H) (W : World) (base : Nat) (args : Array Value) (h gs : List (DataW H)) (before : List MemPlace) (a : ∀ (j : Nat) t v, Try.f3.params[j]? = some t → args[j]? = some v → Value.okWide Try.prog W .any base t v) (w : DataW.Whole enc Try.prog Try.f3.params.toList Rows.keysBackSpec.vars false W args.toList h gs before) (hk : Rows.uptoSmall H (h ++ gs) = true) :
  Calls Try.prog 3 args W fun e W' => ∃ v, e = .returned v ∧ Rows.keysBackSpec.post enc Try.prog Try.f3 false true false false W args v W' := by
 have n := w
 obtain ⟨p, q, i, G, rfl, I, K⟩ := w
 have u : DataW.TrodAll enc Try.prog W 0 (fun _ => true) true Try.f3.params.toList args.toList h p := i
 have L : ∀ t ∈ Try.f3.params.toList, Try.prog.readableRec t = true ∧ t < Try.prog.types.size := by
  rw [Try.params3]
  intro t x
  simp only [aB, bc, cy] at x
  rcases x with rfl | rfl
  ·exact AM
  ·exact A0
 rw [Try.params3] at u a
 obtain ⟨v0, Y, d0, z, p0, q0, o, rfl, rfl, E, R⟩ := trodAll_cons u
 obtain ⟨v1, Z, d1, A, p1, q1, rfl, rfl, rfl, h1, T⟩ := trodAll_cons R
 obtain ⟨rfl, rfl, rfl⟩ := trodAll_nil T
 obtain rfl : args = #[v0, v1] := by cases args; simp_all
 obtain ⟨rfl, rfl⟩ := trodVars_none G
 have O := a 0 22 v0 rfl rfl
 have P := a 1 26 v1 rfl rfl
 obtain ⟨a0, U, z0, Q⟩ := uN (k := 2) vk (by decide) Aa Try.underlying22 O E
 obtain ⟨g, rfl, _⟩ := okWide_struct Try.underlying26 P
 obtain ⟨D, s⟩ := h1
 obtain ⟨c, d, y⟩ := Aj _ _ _ _ _ _ _ _ _ s
 simp only [Value.cells] at d
 obtain rfl : g = (eO c).toArray := by rw [← d]
 replace y : _ ≤ Rows.uptoBulk d1 := y
 have F : Rows.uptoBulkAll ([d0, d1] ++ []) ≤ 1048576 := cW hk
 simp only [bY, Rows.uptoBulkAll] at F
 have hm : kU a0 c = some true := tk za a0 c Q (by have : pE c = rV c := (by simp only [rV, pA, pE]; omega); omega)
 have J := re v0 a0 c true W U hm
 refine bi J fun e W' ⟨he, M⟩ => ?_
 subst he
 exact ⟨_, rfl, vN xH L rfl n M (fun _ _ _ => trodAll_cons_mk (shut_bool Try.underlying4 _) trodAll_mk0) rfl rfl (ok_one (by kernel_rfl) rfl (okWide_bool_mk Try.underlying4 _))⟩
set_option maxRecDepth 100000 in
theorem zq (os : Os) (started : os.Started) (H : Type) (enc : TypeId × Value → H) (F : Stop.Interp) :
  ReturnsInHanded {} Try.checked os 3 .any ((Rows.OpenSpec.upto Rows.keysBackSpec).pre6 enc Try.prog Try.f3 Rows.keysBackUptoRow.domain false) (((Rows.OpenSpec.upto Rows.keysBackSpec).at F).post enc Try.prog Try.f3 false true false false) := by
 refine returnsInHanded_of_cond (C := Try.checked) (s := Rows.OpenSpec.upto Rows.keysBackSpec) (k := Rows.uptoSmall) rfl A6 started (by kernel_rfl) Try.func3
  (OpenSpec.witness (enc := enc) (C := Try.checked) (s := Rows.OpenSpec.upto Rows.keysBackSpec) (k := Rows.uptoSmall) rfl false ⟨#[], #[.slice none 0 0, .agg #[.int .i64 0, .string ⟨#[]⟩, .string ⟨#[]⟩, .string ⟨#[]⟩, .string ⟨#[]⟩, .string ⟨#[]⟩, .string ⟨#[]⟩, .string ⟨#[]⟩, .string ⟨#[]⟩]], []⟩ 8 (by kernel_rfl) (by kernel_rfl) (by kernel_rfl)
   (x := ([.nil, .agg [.lit (.int .i64 0), .agg [.lit (.string []), .lit (.string [])], .lit (.string []), .agg [.lit (.string []), .lit (.string [])], .agg [.lit (.string []), .lit (.string [])], .lit (.string [])]], [], [])) (by kernel_rfl) rfl (by kernel_rfl)) ?_
 intro W base args c gs before a d _ hk _
 exact xF H enc W base args c gs before a d hk
theorem Ad {a b : Bool} (c : a = true) (d : b = true) : (a && b) = true := by rw [c, d]; rfl
set_option maxHeartbeats 40000000 in
theorem yE : joinedFacts Try.checked.prog 3 Try.f3 (Rows.OpenSpec.upto Rows.keysBackSpec).bare Rows.keysBackUptoRow = true := by
 unfold joinedFacts
 repeat' with_reducible refine Ad ?_ ?_
 all_goals as_aux_lemma => kernel_rfl
theorem proved : Rows.KeysBackUptoSaid :=
 OpenClaim.holds_of_cond 3 Try.f3 rfl rfl rfl rfl rfl rfl rfl ⟨rfl, rfl, rfl, rfl, rfl⟩ rfl rfl rfl rfl rfl (by kernel_rfl) Try.func3 yE
  (cW (by kernel_rfl)) (by unfold Func.isWrapper; first | (rw [aD (by decide +kernel)]; kernel_rfl) | (rw [aF (by decide +kernel)]; exact ⟨rfl, rfl⟩))
  (fun os started H enc _ F => zq os started H enc F)
end Go.Proofs.Ytcafmokjkjcomaa
