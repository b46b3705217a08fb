/- a part of a proof of KeysCheck -/
import Derived.Test.YtcafmokjkjcomaaGreatRtZcb
import Derived.Test.YtcafmokjkjcomaaGreatKCMb
import Derived.Test.YtcafmokjkjcomaaGreatRows
import Derived.WalkKit
import Derived.ProofKit
import Derived.OpenShut
import Derived.JoinedCond
import Derived.Deep.Slices
import Derived.Carry
import Derived.ChangeArms
import Derived.ChangeSame
import Derived.Test.YtcafmokjkjcomaaGreatKCW2b
set_option linter.all false
namespace Go.Proofs.YtcafmokjkjcomaaGreat
open Go.IntKind renaming wrap → wi0
open Go.Proofs.Tryz renaming prog → pg0
open Go.RowKit
theorem Cw {c x : Bool} : (if c = true then some x else some false : Option Bool) = some (c && x) := by cases c <;> rfl
theorem Cf {c x : Bool} : (if c = true then some true else some x : Option Bool) = some (c || x) := by cases c <;> rfl
theorem vg {α : Type} (x : Option α) : (x.bind fun y => some y) = x := by cases x <;> rfl
theorem gu {x : Int} (a : -9223372036854775808 ≤ x) (h1 : x ≤ 9223372036854775807) : wi0 .i64 x = x := IntWalk.i64_in _ (by omega)
theorem lT {α : Type} (A : List α) (x : α) (B : List α) (i : Int) (h : i = (A.length : Int)) : jz (A ++ x :: B) i = some x := by
 subst h; rw [tW]; simp
theorem vx : ib = 18446744073709551615 + 1 := by rw [mD]
def sP {α : Type} (f1 : α → Option Bool) (z : α) : Nat → List α → Int → Int → Option (List α)
 | 0, _, _, _ => none
 | n + 1, l, i, j => if decide (j < (l.length : Int)) then
   ((jz l j).bind fun x => (f1 x).bind fun r => if (!r) then (jz l i).bind fun _ => some (l.set (Int.toNat i) x, wi0 .i64 (i + 1)) else some (l, i) : Option (List α × Int)).bind fun (c, a) => sP f1 z n c a (wi0 .i64 (j + 1))
  else (kH (decide (0 ≤ i) && decide (i ≤ (l.length : Int)))).bind fun _ => (kH (decide (0 ≤ i) && decide (i ≤ ((jR l (Int.toNat i) z).length : Int)))).bind fun _ => some ((jR l (Int.toNat i) z).take (Int.toNat i))
theorem oP {a b : Int} (c : 0 ≤ a) (h1 : a ≤ b) : kH (decide (0 ≤ a) && decide (a ≤ b)) = some () := by simp [kH, c, h1]
theorem vl {α : Type} (f1 : α → Option Bool) (p : α → Bool) (z : α) : ∀ (rest out mid : List α) (n : Nat), rest.length < n → (out ++ mid ++ rest).length < 4611686018427387904 → mid ≠ [] → (∀ x ∈ rest, f1 x = some (p x)) →
  sP f1 z n (out ++ mid ++ rest) (out.length : Int) ((out.length + mid.length : Nat) : Int) = some (out ++ rest.filter fun x => !p x)
 | [], out, mid, 0, h, _, _, _ => by simp at h
 | [], out, mid, n + 1, _, c, hm, _ => by
  rw [sP, aG (by simp)]
  have h1 : out.length ≤ (out ++ mid ++ []).length := by simp
  rw [oP (by omega) (by omega)]
  simp only [aw]
  rw [oP (by omega) (by rw [mx _ _ _ (by simpa using h1)]; omega)]
  simp only [aw, cQ]
  rw [sG _ _ _ h1]
  simp
 | x :: rest, out, mid, 0, h, _, _, _ => by simp at h
 | x :: rest, out, mid, n + 1, h, c, hm, d => by
  have hlen : (out ++ mid ++ x :: rest).length = out.length + mid.length + rest.length + 1 := by simp; omega
  rw [hlen] at c
  rw [sP, aF (by rw [hlen]; simp; omega)]
  rw [lT (out ++ mid) x rest _ (by simp)]
  simp only [aw, d x (by simp)]
  rw [gu (x := ((out.length + mid.length : Nat) : Int) + 1) (by omega) (by omega)]
  have ih := vl f1 p z rest
  cases hp : p x with
  | true =>
   simp only [bB, ay, aN, aw]
   have := ih out (mid ++ [x]) n (by simp at h; omega) (by simp; omega) (by simp) (fun y g => d y (by simp [g]))
   simp only [aW, bK, cn, aJ, aX, br] at this ⊢
   rw [show ((out.length + mid.length : Nat) : Int) + 1 = ((out.length + (mid.length + (0 + 1)) : Nat) : Int) by omega, this]
   simp [hp]
  | false =>
   obtain ⟨m, a, rfl⟩ : ∃ m a, mid = m :: a := by cases mid with
    | nil => exact absurd rfl hm
    | cons m a => exact ⟨m, a, rfl⟩
   simp only [Bool.not_false, aV]
   rw [aW out (m :: a) (x :: rest), bK]
   rw [lT out m (a ++ x :: rest) _ rfl]
   simp only [aw]
   rw [gu (x := (out.length : Int) + 1) (by omega) (by simp at c; omega)]
   have := ih (out ++ [x]) (a ++ [x]) n (by simp at h; omega) (by simp at c ⊢; omega) (by simp) (fun y g => d y (by simp [g]))
   simp only [aW, bK, cn, aJ, aX, br] at this
   have i : (out ++ m :: (a ++ x :: rest)).set (Int.toNat (out.length : Int)) x = out ++ x :: (a ++ x :: rest) := by
    rw [cQ, List.set_append_right _ _ (aO _)]; simp
   rw [i]
   simp only [aX] at c ⊢
   rw [show (out.length : Int) + 1 = ((out.length + (0 + 1) : Nat) : Int) by omega, show ((out.length + (a.length + 1) : Nat) : Int) + 1 = ((out.length + (0 + 1) + (a.length + (0 + 1)) : Nat) : Int) by omega, this]
   simp [hp]
def sW {α : Type} (f1 : α → Option Bool) : List α → Nat → Option Int
 | [], _ => some (-1)
 | x :: xs, i => (f1 x).bind fun r => if r then some (i : Int) else sW f1 xs (i + 1)
theorem vr {α : Type} (f1 : α → Option Bool) (p : α → Bool) : ∀ (l : List α) (i : Nat), (∀ x ∈ l, f1 x = some (p x)) →
  (sW f1 l i = some (-1) ∧ ∀ x ∈ l, p x = false) ∨ ∃ A x B, l = A ++ x :: B ∧ (∀ y ∈ A, p y = false) ∧ p x = true ∧ sW f1 l i = some ((i + A.length : Nat) : Int)
 | [], i, _ => .inl ⟨rfl, by simp⟩
 | x :: l, i, h => by
  rw [sW, h x (by simp)]
  simp only [aw]
  cases hp : p x with
  | true => exact .inr ⟨[], x, l, rfl, by simp, hp, by simp⟩
  | false =>
   simp only [ay, aN]
   rcases vr f1 p l (i + 1) (fun y a => h y (by simp [a])) with ⟨h1, c⟩ | ⟨A, y, B, rfl, h1, c, g⟩
   ·exact .inl ⟨h1, by intro y a; rcases aC.1 a with rfl | a; exact hp; exact c y a⟩
   ·refine .inr ⟨x :: A, y, B, rfl, ?_, c, ?_⟩
    ·intro z d; rcases aC.1 d with rfl | d
     ·exact hp
     ·exact h1 z d
    ·rw [g]; simp; omega
def xZ {α : Type} (f1 : α → Option Bool) (z : α) (l : List α) : Option (List α) :=
 (sW f1 l 0).bind fun a => if (a == (-1)) then some l else sP f1 z ib l a (wi0 .i64 (a + 1))
theorem zB {α : Type} (f1 : α → Option Bool) (p : α → Bool) (z : α) (l : List α) (d : l.length < 4611686018427387904) (h : ∀ x ∈ l, f1 x = some (p x)) : xZ f1 z l = some (l.filter fun x => !p x) := by
 unfold xZ
 rcases vr f1 p l 0 h with ⟨h1, c⟩ | ⟨A, x, B, rfl, h1, c, g⟩
 ·rw [h1]
  simp only [aw, bu, aV]
  rw [List.filter_eq_self.2 (fun y a => by simp [c y a])]
 ·rw [g]
  simp only [aw, eH]
  rw [aG (by simp), gu (by omega) (by simp at d; omega)]
  have := vl f1 p z B A [x] ib (by rw [mD]; simp at d; omega) (by simpa using d) (by simp) (fun y a => h y (by simp [a]))
  simp only [aW, bK, cn, aX, br] at this
  rw [show (A.length : Int) + 1 = ((A.length + (0 + 1) : Nat) : Int) by omega, this]
  have i : A.filter (fun x => !p x) = A := List.filter_eq_self.2 (fun y a => by simp [h1 y a])
  rw [List.filter_append, i]
  simp [c]
def jo {α : Type} (eq : α → α → Bool) : α → List α → List α
 | _, [] => []
 | p, y :: ys => if eq y p then jo eq y ys else y :: jo eq y ys
def dd {α : Type} (eq : α → α → Bool) : List α → List α
 | [] => []
 | x :: xs => x :: jo eq x xs
def sa {α : Type} (eq : α → α → Bool) (i : Int) : Nat → List α → Int → Int → Option (List α × Int)
 | 0, _, _, _ => none
 | n + 1, l, k, j => if decide (j < ((l.length - Int.toNat i : Nat) : Int)) then
   ((jz (l.drop (Int.toNat i)) j).bind fun x => (jz (l.drop (Int.toNat i)) (wi0 .i64 (j - 1))).bind fun y => if !(eq x y) then (jz (l.drop (Int.toNat i)) j).bind fun z => (jz l k).bind fun _ => some (l.set (Int.toNat k) z, wi0 .i64 (k + 1)) else some (l, k) : Option (List α × Int)).bind fun (a, k') => sa eq i n a k' (wi0 .i64 (j + 1))
  else some (l, k)
def sS {α : Type} (eq : α → α → Bool) (z : α) (l : List α) : Nat → Int → Option (List α)
 | 0, _ => none
 | n + 1, i => if decide (i < (l.length : Int)) then (jz l i).bind fun x => (jz l (wi0 .i64 (i - 1))).bind fun y => if eq x y then
    (kH (decide (0 ≤ i) && decide (i ≤ (l.length : Int)))).bind fun _ => (sa eq i ib l i 1).bind fun (a, k) => (kH (decide (0 ≤ k) && decide (k ≤ (a.length : Int)))).bind fun _ => (kH (decide (0 ≤ k) && decide (k ≤ ((jR a (Int.toNat k) z).length : Int)))).bind fun _ => some ((jR a (Int.toNat k) z).take (Int.toNat k))
   else sS eq z l n (wi0 .i64 (i + 1))
  else some l
def xY {α : Type} (eq : α → α → Bool) (z : α) (l : List α) : Option (List α) := if decide ((l.length : Int) < 2) then some l else sS eq z l ib 1
theorem vk {α : Type} (l : List α) (i : Nat) (j : Int) (a : 0 ≤ j) : jz (l.drop i) j = jz l ((i : Int) + j) := by
 obtain ⟨m, rfl⟩ : ∃ m : Nat, j = m := ⟨j.toNat, by omega⟩
 rw [show (i : Int) + (m : Int) = ((i + m : Nat) : Int) by omega, tW, tW, cv]
theorem ta {α : Type} (eq : α → α → Bool) (i : Nat) : ∀ (rest out mid : List α) (p : α) (n : Nat), rest.length < n → (out ++ (mid ++ [p]) ++ rest).length < 4611686018427387904 → 1 ≤ i → i ≤ out.length →
  ∃ c, sa eq (i : Int) n (out ++ (mid ++ [p]) ++ rest) (out.length : Int) ((out.length + mid.length + 1 - i : Nat) : Int) = some (c, ((out ++ jo eq p rest).length : Int)) ∧ c.take (out ++ jo eq p rest).length = out ++ jo eq p rest ∧ (out ++ jo eq p rest).length ≤ c.length
 | [], out, mid, p, 0, h, _, _, _ => by simp at h
 | [], out, mid, p, n + 1, h, o, h1, k => by
  rw [sa, aG (by simp; omega)]
  exact ⟨out ++ (mid ++ [p]) ++ [], by simp [jo], by simp [jo], by simp [jo]⟩
 | x :: rest, out, mid, p, 0, h, _, _, _ => by simp at h
 | x :: rest, out, mid, p, n + 1, h, o, h1, k => by
  have hlen : (out ++ (mid ++ [p]) ++ x :: rest).length = out.length + mid.length + rest.length + 2 := by simp; omega
  rw [hlen] at o
  rw [sa, aF (by rw [hlen]; simp; omega)]
  rw [cQ, vk _ _ _ (by omega), lT (out ++ (mid ++ [p])) x rest _ (by simp; omega)]
  simp only [aw]
  rw [gu (x := ((out.length + mid.length + 1 - i : Nat) : Int) - 1) (by omega) (by omega), vk _ _ _ (by omega)]
  rw [show out ++ (mid ++ [p]) ++ x :: rest = (out ++ mid) ++ p :: (x :: rest) by simp]
  rw [lT (out ++ mid) p (x :: rest) _ (by simp; omega)]
  simp only [aw]
  rw [gu (x := ((out.length + mid.length + 1 - i : Nat) : Int) + 1) (by omega) (by omega)]
  cases hp : eq x p with
  | true =>
   simp only [bB, ay, aN, aw]
   obtain ⟨c, d, g, j⟩ := ta eq i rest out (mid ++ [p]) x n (by simp at h; omega) (by simp; omega) h1 k
   refine ⟨c, ?_, by rw [jo, hp]; exact g, by rw [jo, hp]; exact j⟩
   rw [jo, hp, aF rfl, ← d]
   congr 1
   ·simp
   ·simp; omega
  | false =>
   simp only [Bool.not_false, aV]
   obtain ⟨m, a, hm⟩ : ∃ m a, mid ++ [p] = m :: a := by cases mid with
    | nil => exact ⟨p, [], rfl⟩
    | cons m a => exact ⟨m, a ++ [p], rfl⟩
   have s : a.length = mid.length := by have := aI List.length hm; simp at this; omega
   rw [show (out ++ mid) ++ p :: (x :: rest) = out ++ m :: (a ++ x :: rest) by rw [← bK, ← hm]; simp]
   rw [lT out m (a ++ x :: rest) _ rfl]
   simp only [aw]
   rw [gu (x := (out.length : Int) + 1) (by omega) (by omega)]
   have t : (out ++ m :: (a ++ x :: rest)).set (Int.toNat (out.length : Int)) x = (out ++ [x]) ++ (a ++ [x]) ++ rest := by
    rw [cQ, List.set_append_right _ _ (aO _)]; simp
   rw [t]
   obtain ⟨c, d, g, j⟩ := ta eq i rest (out ++ [x]) a x n (by simp at h; omega) (by simp; omega) h1 (by simp; omega)
   refine ⟨c, ?_, ?_, ?_⟩
   ·rw [jo, hp, aG (by decide)]
    have q : ((out ++ x :: jo eq x rest).length : Int) = ((out ++ [x] ++ jo eq x rest).length : Int) := by simp
    rw [q, ← d]
    congr 1
    ·simp
    ·simp; omega
   ·rw [jo, hp, aG (by decide)]; simpa using g
   ·rw [jo, hp, aG (by decide)]; simpa using j
theorem vN {α : Type} (eq : α → α → Bool) (z : α) : ∀ (rest pre : List α) (p : α) (n : Nat), rest.length < n → (pre ++ p :: rest).length < 4611686018427387904 →
  sS eq z (pre ++ p :: rest) n ((pre.length + 1 : Nat) : Int) = some (pre ++ p :: jo eq p rest)
 | [], pre, p, 0, h, _ => by simp at h
 | [], pre, p, n + 1, h, i => by rw [sS, aG (by simp)]; simp [jo]
 | x :: rest, pre, p, 0, h, _ => by simp at h
 | x :: rest, pre, p, n + 1, h, i => by
  have hlen : (pre ++ p :: x :: rest).length = pre.length + rest.length + 2 := by simp; omega
  rw [hlen] at i
  rw [sS, aF (by rw [hlen]; simp; omega)]
  rw [show pre ++ p :: x :: rest = (pre ++ [p]) ++ x :: rest by simp, lT (pre ++ [p]) x rest _ (by simp)]
  simp only [aw]
  rw [gu (x := ((pre.length + 1 : Nat) : Int) - 1) (by omega) (by omega)]
  rw [show (pre ++ [p]) ++ x :: rest = pre ++ p :: (x :: rest) by simp, lT pre p (x :: rest) _ (by omega)]
  simp only [aw]
  cases hp : eq x p with
  | true =>
   simp only [aV]
   rw [oP (by omega) (by rw [hlen]; omega)]
   simp only [aw]
   obtain ⟨j, a, g, d⟩ := ta eq (pre.length + 1) rest (pre ++ [p]) [] x ib (by rw [mD]; omega) (by simp; omega) (by omega) (by simp)
   simp only [aW, bK, cn, aJ, aX, br] at a g d
   rw [show (pre.length + (0 + 1) + 0 + 1 - (pre.length + 1) : Nat) = 1 by omega] at a
   rw [show ((pre.length + 1 : Nat) : Int) = ((pre.length + (0 + 1) : Nat) : Int) by omega] at *
   have c : sa eq ((pre.length + (0 + 1) : Nat) : Int) ib (pre ++ p :: x :: rest) ((pre.length + (0 + 1) : Nat) : Int) 1 = _ := a
   rw [c]
   simp only [aw]
   rw [oP (by omega) (by omega)]
   simp only [aw, cQ]
   rw [oP (by omega) (by rw [mx _ _ _ d]; omega)]
   simp only [aw]
   rw [sG _ _ _ d, g, jo, hp]
   simp
  | false =>
   simp only [ay, aN]
   rw [gu (x := ((pre.length + 1 : Nat) : Int) + 1) (by omega) (by omega)]
   have := vN eq z rest (pre ++ [p]) x n (by simp at h; omega) (by simp; omega)
   simp only [aW, bK, cn, aJ, aX, br] at this
   rw [show ((pre.length + 1 : Nat) : Int) + 1 = ((pre.length + (0 + 1) + 1 : Nat) : Int) by omega, this, jo, hp]
   simp
theorem zH {α : Type} (eq : α → α → Bool) (z : α) (l : List α) (a : l.length < 4611686018427387904) : xY eq z l = some (dd eq l) := by
 unfold xY
 cases l with
 | nil => rfl
 | cons x xs =>
  cases xs with
  | nil => simp [dd, jo]
  | cons y ys =>
   rw [aG (by simp; omega)]
   have := vN eq z (y :: ys) [] x ib (by rw [mD]; simp at a ⊢; omega) (by simpa using a)
   simpa [dd] using this
structure ql {α : Type} (lt : α → α → Prop) (P : α → Prop) : Prop where
 irrefl : ∀ x, P x → ¬ lt x x
 trans : ∀ x y z, P x → P y → P z → lt x y → lt y z → lt x z
 total : ∀ x y, P x → P y → lt x y ∨ x = y ∨ lt y x
def nl {α : Type} (lt : α → α → Prop) (P : α → Prop) (l out : List α) : Prop := out.Pairwise lt ∧ ∀ x, x ∈ out ↔ x ∈ l ∧ P x
theorem nl.unique {α : Type} {lt : α → α → Prop} {P : α → Prop} (H : ql lt P) : ∀ {l a b : List α}, nl lt P l a → nl lt P l b → a = b := by
 have key : ∀ a b : List α, (∀ x ∈ a, P x) → a.Pairwise lt → b.Pairwise lt → (∀ x, x ∈ a ↔ x ∈ b) → a = b := by
  intro a
  induction a with
  | nil => intro b _ _ _ hm; cases b with
   | nil => rfl
   | cons y ys => exact absurd ((hm y).2 (by simp)) (by simp)
  | cons x xs ih =>
   intro b o j k hm
   cases b with
   | nil => exact absurd ((hm x).1 (by simp)) (by simp)
   | cons y ys =>
    have p : P y := o y ((hm y).2 (by simp))
    have c : P x := o x (by simp)
    have d := cY.1 j
    have g := cY.1 k
    have q : x = y := by
     rcases aC.1 ((hm x).1 (by simp)) with h | h
     ·exact h
     ·rcases aC.1 ((hm y).2 (by simp)) with n | n
      ·exact n.symm
      ·exact absurd (H.trans x y x c p c (d.1 y n) (g.1 x h)) (H.irrefl x c)
    subst q
    congr 1
    refine ih ys (fun z i => o z (by simp [i])) d.2 g.2 (fun z => ?_)
    constructor
    ·intro i
     rcases aC.1 ((hm z).1 (by simp [i])) with h | h
     ·subst h; exact absurd (d.1 z i) (H.irrefl z c)
     ·exact h
    ·intro i
     rcases aC.1 ((hm z).2 (by simp [i])) with h | h
     ·subst h; exact absurd (g.1 z i) (H.irrefl z c)
     ·exact h
 intro l a b j k
 exact key a b (fun x s => ((j.2 x).1 s).2) j.1 k.1 (fun x => (j.2 x).trans (k.2 x).symm)
theorem qZ {α : Type} {eq : α → α → Bool} (he : ∀ x y, eq x y = true ↔ x = y) : ∀ (l : List α) (p x : α), x ∈ p :: jo eq p l ↔ x ∈ p :: l
 | [], p, x => by simp [jo]
 | y :: l, p, x => by
  rw [jo]
  split
  ·rename_i h
   have := (he y p).1 h
   subst this
   rw [qZ he l y x]; simp
  ·have := qZ he l y x
   simp only [aC] at this ⊢
   rw [this]
theorem BE {α : Type} {eq : α → α → Bool} (he : ∀ x y, eq x y = true ↔ x = y) (l : List α) (x : α) : x ∈ dd eq l ↔ x ∈ l := by
 cases l with
 | nil => simp [dd]
 | cons y l => exact qZ he l y x
theorem qn {α : Type} {eq : α → α → Bool} {lt : α → α → Prop} {P : α → Prop} (he : ∀ x y, eq x y = true ↔ x = y) (H : ql lt P) : ∀ (l : List α) (p : α), (∀ x ∈ p :: l, P x) → (p :: l).Pairwise (fun a b => ¬ lt b a) → (p :: jo eq p l).Pairwise lt
 | [], p, _, _ => by simp [jo]
 | y :: l, p, c, o => by
  have h1 := cY.1 o
  rw [jo]
  split
  ·rename_i h
   have := (he y p).1 h
   subst this
   exact qn he H l y (fun x i => c x (cA _ i)) h1.2
  ·rename_i h
   have ih := qn he H l y (fun x i => c x (cA _ i)) h1.2
   refine cY.2 ⟨fun z n => ?_, ih⟩
   have g : lt p y := by
    rcases H.total p y (c p (by simp)) (c y (by simp)) with d | d | d
    ·exact d
    ·exact absurd ((he y p).2 d.symm) h
    ·exact absurd d (h1.1 y (by simp))
   rcases aC.1 n with rfl | j
   ·exact g
   ·have k : z ∈ y :: l := (qZ he l y z).1 n
    exact H.trans p y z (c p (by simp)) (c y (by simp)) (c z (cA _ k)) g ((cY.1 ih).1 z j)
theorem yk {α : Type} {eq : α → α → Bool} {lt : α → α → Prop} {P : α → Prop} (he : ∀ x y, eq x y = true ↔ x = y) (H : ql lt P) (l : List α) (c : ∀ x ∈ l, P x) (d : l.Pairwise (fun a b => ¬ lt b a)) : (dd eq l).Pairwise lt := by
 cases l with
 | nil => simp [dd]
 | cons y l => exact qn he H l y c d
theorem rc {α : Type} {le : α → α → Bool} {P : α → Prop} (i : ∀ a b c, P a → P b → P c → le a b = true → le b c = true → le a c = true) (h : ∀ a b, P a → P b → (le a b || le b a) = true) (l : List α) (d : ∀ x ∈ l, P x) :
  (l.mergeSort le).Pairwise (fun a b => le a b = true) := by
 have e : l = (l.attachWith P d).map Subtype.val := by simp
 have hm : ((l.attachWith P d).mergeSort fun a b => le a.1 b.1).map Subtype.val = l.mergeSort le := by
  conv => rhs; rw [e]
  exact ei (fun a _ b _ => rfl)
 rw [← hm, dD]
 exact dB (le := fun (a b : {x // P x}) => le a.1 b.1) (fun a b c h1 g => i a.1 b.1 c.1 a.2 b.2 c.2 h1 g) (fun a b => h a.1 b.1 a.2 b.2) _
theorem wL {α : Type} {eq : α → α → Bool} {lt : α → α → Prop} {P : α → Prop} {cf : α × α → Option Int} {l : List α} (he : ∀ x y, eq x y = true ↔ x = y) (H : ql lt P) (g : ∀ x ∈ l, P x) (E : l.length < 4611686018427387904) (D : ∀ x y, P x → P y → ∃ c, cf (x, y) = some c ∧ (c < 0 ↔ lt x y)) : ∃ s, pR cf l = some s ∧ s.length = l.length ∧ nl lt P l (dd eq s) := by
 have j : ∀ x y, P x → P y → (ly cf x y = true ↔ lt x y) := fun x y i o => by
  obtain ⟨c, h1, n⟩ := D x y i o
  unfold ly
  rw [h1]
  simpa using n
 have d : ∀ x y, P x → P y → (ly cf x y = false ↔ ¬ lt x y) := fun x y i o => by
  rw [← j x y i o]; simp
 have ok : rO cf l := by
  refine ⟨fun x i y o => ?_, fun x i => ?_, fun x i y o z w h1 n => ?_, fun x i y o h1 n => ?_, E⟩
  ·obtain ⟨c, h1, _⟩ := D x y (g x i) (g y o); exact ⟨c, h1⟩
  ·exact (d x x (g x i) (g x i)).2 (H.irrefl x (g x i))
  ·rw [j _ _ (g x i) (g y o)] at h1
   rw [j _ _ (g y o) (g z w)] at n
   rw [j _ _ (g x i) (g z w)]
   exact H.trans x y z (g x i) (g y o) (g z w) h1 n
  ·rw [d _ _ (g x i) (g y o)] at h1
   rw [d _ _ (g y o) (g x i)] at n
   rcases H.total x y (g x i) (g y o) with h | h | h
   ·exact absurd h h1
   ·exact h
   ·exact absurd h n
 refine ⟨_, zO ok, by simp [lq], ?_, ?_⟩
 ·have k : ∀ x, x ∈ lq cf l ↔ x ∈ l := fun x => by simp [lq]
  refine yk he H _ (fun x i => g x ((k x).1 i)) ?_
  have := rc (le := fun x y => !ly cf y x) (P := P) (fun a b c p q t h1 n => ?_) (fun a b p q => ?_) l g
  ·refine (this.imp_of_mem ?_ : _)
   intro a b p q h
   have u : a ∈ l := (k a).1 p
   have v : b ∈ l := (k b).1 q
   simp at h
   exact (d b a (g b v) (g a u)).1 h
  ·simp at h1 n ⊢
   rw [d _ _ q p] at h1
   rw [d _ _ t q] at n
   rw [d _ _ t p]
   intro A
   rcases H.total a b p q with h | h | h
   ·exact n (H.trans c a b t p q A h)
   ·subst h; exact n A
   ·exact h1 h
  ·simp only [cZ, ev]
   rw [d _ _ q p, d _ _ p q]
   by_cases h : lt b a
   ·right; intro n; exact H.irrefl a p (H.trans a b a p q p n h)
   ·exact .inl h
 ·intro x
  rw [BE he]
  constructor
  ·intro i
   have : x ∈ l := by simpa [lq] using i
   exact ⟨this, g x this⟩
  ·intro i; simpa [lq] using i.1
theorem rz : ∀ a : List UInt8, Op.bytesLess a a = false
 | [] => rfl
 | x :: a => by simp [Op.bytesLess, rz a]
theorem vL (x y : UInt8) : x < y ∨ x = y ∨ y < x := by
 rcases Nat.lt_trichotomy x.toNat y.toNat with h | h | h
 ·exact .inl h
 ·exact .inr (.inl (UInt8.toNat_inj.1 h))
 ·exact .inr (.inr h)
theorem sU : ∀ a b c : List UInt8, Op.bytesLess a b = true → Op.bytesLess b c = true → Op.bytesLess a c = true
 | [], [], c, h1, _ => by simp [Op.bytesLess] at h1
 | _ :: _, [], c, h1, _ => by simp [Op.bytesLess] at h1
 | a, _ :: _, [], _, d => by simp [Op.bytesLess] at d
 | [], b :: g, c :: cs, _, _ => rfl
 | a :: ax, b :: g, c :: cs, h1, d => by
  simp only [Op.bytesLess, cZ, cO, bd, beq_iff_eq] at h1 d ⊢
  rcases h1 with h1 | ⟨rfl, h1⟩
  ·rcases d with d | ⟨rfl, d⟩
   ·exact .inl (UInt8.lt_trans h1 d)
   ·exact .inl h1
  ·rcases d with d | ⟨rfl, d⟩
   ·exact .inl d
   ·exact .inr ⟨rfl, sU ax g cs h1 d⟩
theorem sX : ∀ a b : List UInt8, Op.bytesLess a b = true ∨ a = b ∨ Op.bytesLess b a = true
 | [], [] => .inr (.inl rfl)
 | [], _ :: _ => .inl rfl
 | _ :: _, [] => .inr (.inr rfl)
 | a :: ax, b :: c => by
  simp only [Op.bytesLess, cZ, cO, bd, beq_iff_eq, bD]
  rcases vL a b with h | h | h
  ·exact .inl (.inl h)
  ·subst h
   rcases sX ax c with h | h | h
   ·exact .inl (.inr ⟨rfl, h⟩)
   ·exact .inr (.inl ⟨rfl, h⟩)
   ·exact .inr (.inr (.inr ⟨rfl, h⟩))
  ·exact .inr (.inr (.inl h))
theorem tR : ∀ a b : List UInt8, (Lib.compareBytes a b < 0 ↔ Op.bytesLess a b = true)
 | [], [] => by simp [Lib.compareBytes, Op.bytesLess]
 | [], _ :: _ => by simp [Lib.compareBytes, Op.bytesLess]
 | _ :: _, [] => by simp [Lib.compareBytes, Op.bytesLess]
 | a :: ax, b :: g => by
  simp only [Lib.compareBytes, Op.bytesLess, cZ, cO, bd, beq_iff_eq]
  by_cases h : a < b
  ·simp [h]
  ·by_cases d : b < a
   ·have : a ≠ b := by rintro rfl; exact h d
    simp [h, d, this]
   ·have : a = b := by rcases vL a b with c | c | c; exact absurd c h; exact c; exact absurd c d
    subst this
    simp [h, tR ax g]
theorem vX : ∀ a b : List UInt8, (Lib.compareBytes a b = 0 ↔ a = b)
 | [], [] => by simp [Lib.compareBytes]
 | [], _ :: _ => by simp [Lib.compareBytes]
 | _ :: _, [] => by simp [Lib.compareBytes]
 | a :: ax, b :: g => by
  simp only [Lib.compareBytes, bD]
  by_cases h : a < b
  ·simp only [h, aV]
   constructor
   ·intro h; cases h
   ·rintro ⟨rfl, _⟩; exact absurd h (by simp)
  ·by_cases d : b < a
   ·simp only [h, d, aV, aN]
    constructor
    ·intro h; cases h
    ·rintro ⟨rfl, _⟩; exact absurd d (by simp)
   ·have : a = b := by rcases vL a b with c | c | c; exact absurd c h; exact c; exact absurd c d
    subst this
    simp [h, vX ax g]
theorem pu (a b : ByteArray) : jl a b = Op.bytesLess a.data.toList b.data.toList := by unfold jl; rw [cU, cU]
theorem pz {a b : ByteArray} (h : a.data.toList = b.data.toList) : a = b := ey (Array.toList_inj.1 h)
theorem mo (a : ByteArray) : jl a a = false := by rw [pu, rz]
theorem rL {a b c : ByteArray} (h1 : jl a b = true) (d : jl b c = true) : jl a c = true := by rw [pu] at *; exact sU _ _ _ h1 d
theorem nM (a b : ByteArray) : jl a b = true ∨ a = b ∨ jl b a = true := by
 rw [pu, pu]
 rcases sX a.data.toList b.data.toList with h | h | h
 ·exact .inl h
 ·exact .inr (.inl (pz h))
 ·exact .inr (.inr h)
theorem oO {a b : ByteArray} (h : jl a b = true) : jl b a = false := by
 cases c : jl b a with
 | false => rfl
 | true => have := rL h c; rw [mo] at this; cases this
theorem xO (P : ByteArray → Prop) : ql (fun a b => jl a b = true) P :=
 ⟨fun x _ h => (by rw [mo] at h; cases h), fun x y z _ _ _ => rL, fun x y _ _ => nM x y⟩
def pE (b : UInt8) : Bool := decide (97 ≤ b.toNat) && decide (b.toNat ≤ 122)
def qE (b : UInt8) : Bool := pE b || (decide (48 ≤ b.toNat) && decide (b.toNat ≤ 57)) || decide (b.toNat = 45)
def gh (s : ByteArray) : Bool := decide (1 ≤ s.size) && decide (s.size ≤ 16) && (match s.data.toList with | [] => false | b :: _ => pE b) && s.data.toList.all qE
theorem gI {s : ByteArray} (h : gh s = true) : 1 ≤ s.size ∧ s.size ≤ 16 := by
 simp only [gh, bd, cO] at h
 exact h.1.1
theorem xG : ∀ n : Nat, n < 256 → decide (nn (⟨#[97, 98, 99, 100, 101, 102, 103, 104, 105, 106, 107, 108, 109, 110, 111, 112, 113, 114, 115, 116, 117, 118, 119, 120, 121, 122]⟩ : ByteArray) (n : Int) ≥ 0) = pE (UInt8.ofNat n) := by decide +kernel
theorem zL : ∀ n : Nat, n < 256 → decide (nn (⟨#[97, 98, 99, 100, 101, 102, 103, 104, 105, 106, 107, 108, 109, 110, 111, 112, 113, 114, 115, 116, 117, 118, 119, 120, 121, 122, 48, 49, 50, 51, 52, 53, 54, 55, 56, 57, 45]⟩ : ByteArray) (n : Int) < 0) = !qE (UInt8.ofNat n) := by decide +kernel
theorem kz (s : ByteArray) : s.size = s.data.toList.length := by rw [bL]; rfl
theorem sD {s : ByteArray} (h : s.size ≤ 16) : ob s = some (jx s) := by
 unfold ob; rw [aF (by unfold maxLen; omega)]
theorem vV : ∀ l : List UInt8, lR (l.map fun b => (b.toNat : Int)) = some (l.all qE)
 | [] => rfl
 | b :: l => by
  rw [aR, lR]
  simp only [jA, ir, aw]
  have a := zL b.toNat (ej b)
  rw [a]
  simp only [ew, List.all_cons]
  cases qE b with
  | true => simp [vV l]
  | false => simp
theorem uJ {s : ByteArray} {b : UInt8} {l : List UInt8} (h : s.data.toList = b :: l) : oC s 0 = some b := by
 unfold oC
 rw [aF (Int.le_refl 0)]
 have a : s.data[0]? = some b := by rw [← bM, h]; rfl
 show s[0]? = some b
 rw [← a]
 rfl
theorem lG (s : ByteArray) : iR s = some (gh s) := by
 unfold iR
 simp only [Cw, aw, vg]
 by_cases h1 : 1 ≤ s.size
 ·by_cases a : s.size ≤ 16
  ·rw [aF (by simp; omega)]
   obtain ⟨b, l, c⟩ : ∃ b l, s.data.toList = b :: l := by
    cases h : s.data.toList with
    | nil => rw [kz, h] at h1; simp at h1
    | cons b l => exact ⟨b, l, rfl⟩
   rw [uJ c]
   simp only [aw, jA, ir]
   rw [xG b.toNat (ej b)]
   simp only [ew, gh, h1, a, c, dr, Bool.true_and]
   cases pE b with
   | false => simp
   | true =>
    simp only [aV, qj, sD a, aw, jx]
    rw [vV, c]
    simp
  ·rw [aG (by simp; omega)]
   simp [gh, a]
 ·rw [aG (by simp; omega)]
  simp [gh, h1]
theorem wQ {s : ByteArray} {A B : List UInt8} {b : UInt8} (h : s.data.toList = A ++ b :: B) (i : Int) (c : i = (A.length : Int)) : oC s i = some b := by
 subst c
 unfold oC
 rw [aF (by omega), cQ]
 have a : s.data[A.length]? = some b := by rw [← bM, h]; simp
 show s[A.length]? = some b
 rw [← a]
 rfl
theorem rA (s : ByteArray) (w : s.size ≤ 16) : ∀ (B A : List UInt8) (n : Nat), s.data.toList = A ++ B → B.length < n → iV s n (A.length : Int) = some (B.all qE)
  | [], A, 0, _, h => by simp at h
  | [], A, n + 1, h, _ => by
    have : s.size = A.length := by rw [kz, h]; simp
    rw [iV, aG (by rw [this]; simp)]
    rfl
  | b :: B, A, 0, _, h => by simp at h
  | b :: B, A, n + 1, h, v => by
    have k : s.size = A.length + B.length + 1 := by rw [kz, h]; simp; omega
    rw [iV, aF (by rw [k]; simp; omega)]
    rw [wQ h _ rfl]
    simp only [aw]
    rw [gu (x := (A.length : Int) + 1) (by omega) (by omega)]
    have ih := rA s w B (A ++ [b]) n (by rw [h]; simp) (by simp at v; omega)
    rw [show ((A ++ [b]).length : Int) = (A.length : Int) + 1 by simp] at ih
    simp only [List.all_cons]
    have j : ∀ n : Nat, n < 256 → qE (UInt8.ofNat n) = !((decide (n < 97) || decide (n > 122)) && (decide (n < 48) || decide (n > 57)) && decide (n ≠ 45)) := by decide +kernel
    have o := j b.toNat (ej b)
    simp only [ew] at o
    rw [o]
    by_cases h1 : b.toNat < 97 <;> by_cases p : b.toNat > 122 <;> by_cases q : b.toNat < 48 <;> by_cases t : b.toNat > 57 <;> by_cases u : b.toNat = 45 <;>
      first
      | omega
      | (have a : ((b.toNat : Int) < 97) = (b.toNat < 97) := by rw [ek]; omega
         have c : ((b.toNat : Int) > 122) = (b.toNat > 122) := by rw [ek]; omega
         have d : ((b.toNat : Int) < 48) = (b.toNat < 48) := by rw [ek]; omega
         have g : ((b.toNat : Int) > 57) = (b.toNat > 57) := by rw [ek]; omega
         have i : ((b.toNat : Int) != 45) = !decide (b.toNat = 45) := by rw [cL]; simp; omega
         simp [h1, p, q, t, u, a, c, d, g, i, ih])
theorem mf (a : ByteArray) : fP a a = true := gJ.2 rfl
theorem AL : zS.size = 0 := rfl
theorem zZ {s : ByteArray} : s = zS ↔ s.size = 0 := by
 constructor
 ·rintro rfl; rfl
 ·intro h; exact pz (by rw [kz] at h; rw [cj.1 h]; rfl)
theorem mu (s : ByteArray) : iU s = some (gh s) := by
 unfold iU
 simp only [Cf, aw, vg]
 by_cases g : s.size = 0
 ·have : s = zS := zZ.2 g
  subst this
  rw [mf]
  rfl
 ·have o : fP s zS = false := by
   cases h : fP s zS with
   | false => rfl
   | true => exact absurd (zZ.1 (gJ.1 h)) g
  rw [o]
  simp only [Bool.false_or]
  by_cases i : s.size ≤ 16
  ·rw [aG (by simp; omega)]
   obtain ⟨b, l, k⟩ : ∃ b l, s.data.toList = b :: l := by
    cases h : s.data.toList with
    | nil => rw [kz, h] at g; simp at g
    | cons b l => exact ⟨b, l, rfl⟩
   rw [uJ k]
   simp only [aw, Cf]
   have n := rA s i s.data.toList [] ib rfl (by rw [mD, ← kz]; omega)
   simp only [br] at n
   rw [show (0 : Int) = ((0 : Nat) : Int) from rfl] at *
   rw [n]
   have j : ((b.toNat : Int) < 97) = (b.toNat < 97) := by rw [ek]; omega
   have d : ((b.toNat : Int) > 122) = (b.toNat > 122) := by rw [ek]; omega
   have h1 : 1 ≤ s.size := by omega
   simp only [gh, h1, i, k, pE, dr, Bool.true_and, j, d]
   by_cases a : b.toNat < 97
   ·simp [a, show ¬ 97 ≤ b.toNat by omega]
   ·by_cases c : b.toNat > 122
    ·simp [a, c, show ¬ b.toNat ≤ 122 by omega]
    ·simp [a, c, show 97 ≤ b.toNat by omega, show b.toNat ≤ 122 by omega]
  ·rw [aF (by simp; omega)]
   simp [gh, i]
def fX (r : fE) : Bool := gh r.eZ && gh r.fg
theorem pW (r : fE) : jf r = some (fX r) := by
 unfold jf fX
 simp only [lG, aw]
 cases gh r.eZ <;> simp
theorem sQ (r : fE) : la r = some (fX r) := by
 unfold la fX
 simp only [mu, aw]
 cases gh r.eZ <;> simp
def tk (a b : fE) : Bool := jl a.eZ b.eZ || (fP a.eZ b.eZ && jl a.fg b.fg)
theorem tz (a b : fE) : og a b = some (tk a b) := by
 unfold og tk
 cases jl a.eZ b.eZ <;> cases fP a.eZ b.eZ <;> simp
theorem xl {a b : ByteArray} (h : a ≠ b) : fP a b = false := by
 cases c : fP a b with
 | false => rfl
 | true => exact absurd (gJ.1 c) h
theorem ub {a b : fE} : tk a b = true ↔ jl a.eZ b.eZ = true ∨ (a.eZ = b.eZ ∧ jl a.fg b.fg = true) := by
 simp [tk, gJ]
theorem sx (a b : fE) : ∃ c, ni a b = some c ∧ (c < 0 ↔ tk a b = true) := by
 unfold ni
 simp only [lO, iW, aw, pB, mK]
 have h1 : ∀ a b : ByteArray, (lC a b < 0 ↔ jl a b = true) := fun a b => by rw [pu]; exact tR _ _
 have g : ∀ a b : ByteArray, (lC a b = 0 ↔ a = b) := fun a b => by
  unfold lC; rw [vX]; exact ⟨pz, fun h => by rw [h]⟩
 by_cases e : lC a.eZ b.eZ = 0
 ·rw [aG (by simp [e])]
  have e' := (g _ _).1 e
  by_cases d : lC a.fg b.fg = 0
  ·rw [aG (by simp [d])]
   refine ⟨0, rfl, ?_⟩
   rw [ub, e', (g _ _).1 d]
   simp [mo]
  ·rw [aF (by simp [d])]
   refine ⟨_, rfl, ?_⟩
   rw [ub, e', h1]
   simp [mo]
 ·rw [aF (by simp [e])]
  refine ⟨_, rfl, ?_⟩
  rw [ub, h1]
  have : a.eZ ≠ b.eZ := fun h => e ((g _ _).2 h)
  simp [this]
def zR : fE := ⟨zS, zS⟩
theorem qa (a b : ByteArray) : fP a b = fP b a := by rw [cL, gJ, gJ]; exact eq_comm
theorem rK (a b : fE) : im a b = im b a := by rw [cL, jM, jM]; exact eq_comm
theorem nW (a : fE) : im a a = true := jM.2 rfl
def fR (c : eY) : Bool := fX c.Head && (
 if c.Kind == 1 then gh c.fu && im zR c.B && im zR c.C && fP zS c.fB
 else if c.Kind == 2 then fX c.B && fP zS c.fu && im zR c.C && fP zS c.fB
 else if c.Kind == 3 then fX c.B && fP c.B.eZ c.Head.eZ && gh c.fB && fP zS c.fu && im zR c.C
 else if c.Kind == 4 then fX c.B && fX c.C && tk c.B c.C && fP zS c.fu && fP zS c.fB
 else false)
theorem lB (c : eY) : jh c = some (fR c) := by
 unfold jh fR
 simp only [pW, lG, aw]
 obtain ⟨k, hk, a⟩ := sx c.B c.C
 rw [hk]
 have d : decide (k < 0) = tk c.B c.C := by rw [cL, ← a]; simp
 simp only [aw, d]
 by_cases h1 : c.Kind = 1
 ·cases fX c.Head <;> cases gh c.fu <;> simp [h1, jq, nW, mf, zR, en]
 ·by_cases g : c.Kind = 2
  ·cases fX c.Head <;> cases fX c.B <;> simp [g, jq, nW, mf, zR, en]
  ·by_cases h : c.Kind = 3
   ·cases fX c.Head <;> cases fX c.B <;> cases fP c.B.eZ c.Head.eZ <;> cases gh c.fB <;> simp [h, jq, nW, mf, zR, en]
   ·by_cases i : c.Kind = 4
    ·cases fX c.Head <;> cases fX c.B <;> cases fX c.C <;> cases tk c.B c.C <;> simp [i, jq, nW, mf, zR, en]
    ·simp [h1, g, h, i]
theorem kN (c : eY) : lg c = some (fR c) := by
 unfold lg fR
 simp only [sQ, mu, tz, aw]
 rw [show (⟨zS, zS⟩ : fE) = zR from rfl, rK c.B zR, rK c.C zR, qa c.fB zS, qa c.fu zS]
 by_cases h1 : c.Kind = 1
 ·cases fX c.Head <;> cases gh c.fu <;> cases im zR c.B <;> cases im zR c.C <;> simp [h1]
 ·by_cases a : c.Kind = 2
  ·cases fX c.Head <;> cases fX c.B <;> cases fP zS c.fu <;> cases im zR c.C <;> simp [a]
  ·by_cases d : c.Kind = 3
   ·cases fX c.Head <;> cases fX c.B <;> cases fP zS c.fu <;> cases im zR c.C <;> cases fP c.B.eZ c.Head.eZ <;> simp [d]
   ·by_cases g : c.Kind = 4
    ·cases fX c.Head <;> cases fX c.B <;> cases fP zS c.fu <;> cases fP zS c.fB <;> cases fX c.C <;> simp [g]
    ·cases fX c.Head <;> cases fX c.B <;> cases fP zS c.fu <;> simp [h1, a, d, g]
theorem qO {α : Type} {b : Nat} {l m : List α} (h : (l.length + m.length) * b ≤ 140737488355328) (a : l.length + m.length ≤ 9223372036854775807) : kY b l m = some (l ++ m) := by
 unfold kY; rw [aF ⟨h, by unfold maxLen; omega⟩]
theorem qY {l m : List Int} (h : l.length + m.length ≤ 1000000) : kY 1 l m = some (l ++ m) := qO (by omega) (by omega)
def lA (s : ByteArray) : List Int := (s.size : Int) :: jx s
def iT (r : fE) : List Int := lA r.eZ ++ lA r.fg
def mL (c : eY) : List Int := if c.Kind = 1 then lA c.fu else if c.Kind = 2 then iT c.B else if c.Kind = 3 then iT c.B ++ lA c.fB else iT c.B ++ iT c.C
def fV (c : eY) : List Int := c.Kind :: (iT c.Head ++ mL c)
theorem jP (s : ByteArray) : (lA s).length = s.size + 1 := by simp [lA, gL]
theorem gE {r : fE} (h : fX r = true) : (iT r).length ≤ 34 := by
 simp only [fX, bd] at h
 have h1 := gI h.1
 have a := gI h.2
 simp [iT, jP]; omega
theorem rX {l : List Int} {n : Int} (a : 0 ≤ n) (h1 : n < 128) (c : l.length ≤ 100000) : jy l n = some (true, l ++ [n]) := by
 have hw : IntKind.u8.wrap n = n := by
  obtain ⟨k, rfl⟩ : ∃ k : Nat, n = k := ⟨n.toNat, by omega⟩
  have : ∀ k : Nat, k < 128 → IntKind.u8.wrap (k : Int) = (k : Int) := by decide +kernel
  exact this k (by omega)
 unfold jy
 rw [aG (by simp; omega), vx, iO, aG (by simp; omega), hw, qY (by simp; omega)]
 rfl
theorem sq {l : List Int} {s : ByteArray} (h : gh s = true) (a : l.length ≤ 10000) : kJ l s = some (true, l ++ lA s) := by
 have h1 := gI h
 unfold kJ
 simp only [lG, aw, h, aV, sD h1.2]
 unfold kp
 rw [aG (by rw [gL]; simp; omega)]
 rw [gL, rX (by omega) (by omega) (by omega)]
 simp only [aw]
 rw [qY (by simp [gL]; omega)]
 simp [lA]
theorem zG {l : List Int} {r : fE} (h : fX r = true) (c : l.length ≤ 9000) : jd l r = some (true, l ++ iT r) := by
 have a := h
 simp only [fX, bd] at h
 have h1 := gI h.1
 unfold jd
 simp only [pW, aw, a, aV]
 rw [sq h.1 (by omega)]
 simp only [aw, aV]
 rw [sq h.2 (by simp [jP]; omega)]
 simp [iT]
theorem qz {l : List Int} {r : fE} (h : fX r = true) (a : l.length ≤ 1000) : jd l r = some (true, l ++ iT r) := zG h (by omega)
theorem nv {c : eY} (h : fR c = true) : fX c.Head = true := by
 simp only [fR, bd] at h; exact h.1
theorem iQ {c : eY} (h : fR c = true) :
  (c.Kind = 1 ∧ gh c.fu = true ∧ c.B = zR ∧ c.C = zR ∧ c.fB = zS) ∨
  (c.Kind = 2 ∧ fX c.B = true ∧ c.fu = zS ∧ c.C = zR ∧ c.fB = zS) ∨
  (c.Kind = 3 ∧ fX c.B = true ∧ gh c.fB = true ∧ c.B.eZ = c.Head.eZ ∧ c.fu = zS ∧ c.C = zR) ∨
  (c.Kind = 4 ∧ fX c.B = true ∧ fX c.C = true ∧ tk c.B c.C = true ∧ c.fu = zS ∧ c.fB = zS) := by
 simp only [fR, bd] at h
 obtain ⟨_, h⟩ := h
 split at h
 ·rename_i h1
  simp only [bd, jM, gJ] at h
  exact .inl ⟨by simpa using h1, h.1.1.1, h.1.1.2.symm, h.1.2.symm, h.2.symm⟩
 ·split at h
  ·rename_i h1
   simp only [bd, jM, gJ] at h
   exact .inr (.inl ⟨by simpa using h1, h.1.1.1, h.1.1.2.symm, h.1.2.symm, h.2.symm⟩)
  ·split at h
   ·rename_i h1
    simp only [bd, jM, gJ] at h
    exact .inr (.inr (.inl ⟨by simpa using h1, h.1.1.1.1, h.1.1.2, h.1.1.1.2, h.1.2.symm, h.2.symm⟩))
   ·split at h
    ·rename_i h1
     simp only [bd, jM, gJ] at h
     exact .inr (.inr (.inr ⟨by simpa using h1, h.1.1.1.1, h.1.1.1.2, h.1.1.2, h.1.2.symm, h.2.symm⟩))
    ·cases h
theorem oa (c : eY) : jg c = some (if fR c then fV c else []) := by
 unfold jg
 rw [lB]
 simp only [aw]
 cases h : fR c with
 | false => simp
 | true =>
  have i := nv h
  have j := gE i
  simp only [bB, ay, aN, aV]
  have hk : 0 ≤ c.Kind ∧ c.Kind < 128 := by rcases iQ h with h | h | h | h <;> omega
  rw [rX hk.1 hk.2 (by simp)]
  simp only [aw]
  rw [qz i (by simp)]
  simp only [aw, jD, gV]
  rcases iQ h with ⟨k, h1, _⟩ | ⟨k, h1, _⟩ | ⟨k, h1, a, _⟩ | ⟨k, h1, a, _⟩
  ·have d := gI h1
   simp only [k, bu, aV, sq h1 (show (([] ++ [(1:Int)]) ++ iT c.Head).length ≤ 10000 by simp; omega), aw]
   rw [qY (by simp [jP]; omega)]
   simp [fV, mL, k]
  ·have d := gE h1
   simp only [k, show ((2 : Int) == 1) = false from rfl, ay, bu, aV, aN, qz h1 (show (([] ++ [(2:Int)]) ++ iT c.Head).length ≤ 1000 by simp; omega), aw]
   rw [qY (by simp; omega)]
   simp [fV, mL, k]
  ·have d := gE h1
   have g := gI a
   simp only [k, show ((3 : Int) == 1) = false from rfl, show ((3 : Int) == 2) = false from rfl, ay, bu, aV, aN, qz h1 (show (([] ++ [(3:Int)]) ++ iT c.Head).length ≤ 1000 by simp; omega), aw]
   rw [sq a (by simp; omega)]
   simp only [aw]
   rw [qY (by simp [jP]; omega)]
   simp [fV, mL, k]
  ·have d := gE h1
   have g := gE a
   simp only [k, show ((4 : Int) == 1) = false from rfl, show ((4 : Int) == 2) = false from rfl, show ((4 : Int) == 3) = false from rfl, ay, bu, aV, aN, qz h1 (show (([] ++ [(4:Int)]) ++ iT c.Head).length ≤ 1000 by simp; omega), aw]
   rw [qz a (by simp; omega)]
   simp only [aw]
   rw [qY (by simp; omega)]
   simp [fV, mL, k]
def jJ (l : List Int) : ByteArray := ⟨(mQ l).toArray⟩
theorem mO (l : List Int) : (jJ l).data.toList = mQ l := rfl
theorem tJ : ∀ (l : List Int) (r : ByteArray), (l.foldl (fun r n => r.push (UInt8.ofNat n.toNat)) r).data.toList = r.data.toList ++ mQ l
 | [], r => by simp [mQ]
 | x :: l, r => by
  rw [eP, tJ l]
  show ((r.data.push _).toList) ++ _ = _
  simp [mQ]
theorem nL (l : List Int) : kF l = jJ l := pz (by unfold kF; rw [tJ]; rfl)
theorem oD (l : List Int) : (jJ l).size = l.length := by rw [kz, mO]; simp [mQ]
theorem yh (a b : List Int) : mQ (a ++ b) = mQ a ++ mQ b := by simp [mQ]
theorem jX (a b : List Int) (h : a.length + b.length ≤ 1000000) : mY (jJ a) (jJ b) = some (jJ (a ++ b)) := by
 unfold mY
 rw [aG]
 ·congr 1
  refine pz ?_
  rw [mO, yh, ← mO a, ← mO b]
  exact ByteArray.toList_data_append ▸ rfl
 ·rw [oD, oD]
  show ¬ (_ > (9223372036854775807 : Int))
  omega
theorem po (s : ByteArray) : jJ (jx s) = s := pz (by rw [mO]; simp [mQ, jx, Function.comp_def])
theorem uC {n : Int} (a : 0 ≤ n) (h1 : n < 128) : lZ n = some (jJ [n]) := by
 have hw : IntKind.u8.wrap n = n := by
  obtain ⟨k, rfl⟩ : ∃ k : Nat, n = k := ⟨n.toNat, by omega⟩
  have : ∀ k : Nat, k < 128 → IntKind.u8.wrap (k : Int) = (k : Int) := by decide +kernel
  exact this k (by omega)
 unfold lZ
 rw [vx, ko, aG (by simp; omega), hw, nL, show zS = jJ [] from rfl, jX _ _ (by simp)]
 rfl
theorem so {s : ByteArray} (h : gh s = true) : kL s = some (jJ (lA s)) := by
 have h1 := gI h
 unfold kL
 rw [uC (by omega) (by omega)]
 simp only [aw]
 have := jX [(s.size : Int)] (jx s) (by rw [gL]; simp; omega)
 rw [po] at this
 rw [this]
 simp [lA]
theorem qG {r : fE} (h : fX r = true) : lh r = some (jJ (iT r)) := by
 simp only [fX, bd] at h
 have h1 := gI h.1
 have a := gI h.2
 unfold lh
 rw [so h.1, so h.2]
 simp only [aw]
 rw [jX _ _ (by simp [jP]; omega)]
 rfl
theorem nJ (c : eY) : lf c = some (jJ (if fR c then fV c else [])) := by
 unfold lf
 rw [kN]
 simp only [aw]
 cases h : fR c with
 | false => rfl
 | true =>
  have i := nv h
  have j := gE i
  simp only [bB, ay, aN, aV]
  have hk : 0 ≤ c.Kind ∧ c.Kind < 128 := by rcases iQ h with h | h | h | h <;> omega
  unfold kh
  rw [uC hk.1 hk.2, qG i]
  simp only [aw]
  rw [jX _ _ (by simp; omega)]
  simp only [aw]
  rcases iQ h with ⟨k, h1, _⟩ | ⟨k, h1, _⟩ | ⟨k, h1, a, _⟩ | ⟨k, h1, a, _⟩
  ·have d := gI h1
   simp only [k, bu, aV, so h1, aw]
   rw [jX _ _ (by simp [jP]; omega)]
   simp [fV, mL, k]
  ·have d := gE h1
   simp only [k, show ((2 : Int) == 1) = false from rfl, show ((2 : Int) == 3) = false from rfl, show ((2 : Int) == 4) = false from rfl, ay, aN, qG h1, aw]
   rw [jX _ _ (by simp; omega)]
   simp [fV, mL, k]
  ·have d := gE h1
   have g := gI a
   simp only [k, show ((3 : Int) == 1) = false from rfl, show ((3 : Int) == 4) = false from rfl, ay, bu, aV, aN, qG h1, aw]
   rw [jX _ _ (by simp; omega)]
   simp only [aw, so a]
   rw [jX _ _ (by simp [jP]; omega)]
   simp [fV, mL, k]
  ·have d := gE h1
   have g := gE a
   simp only [k, show ((4 : Int) == 1) = false from rfl, show ((4 : Int) == 3) = false from rfl, ay, bu, aV, aN, qG h1, aw]
   rw [jX _ _ (by simp; omega)]
   simp only [aw, qG a]
   rw [jX _ _ (by simp; omega)]
   simp [fV, mL, k]
def vT (c : eY) : List UInt8 := mQ (if fR c then fV c else [])
def qh (a b : eY) : Bool := Op.bytesLess (vT a) (vT b)
theorem sv (a b : eY) : ∃ c, kD a b = some c ∧ (c < 0 ↔ qh a b = true) := by
 unfold kD
 rw [oa, oa]
 exact ⟨_, rfl, tR _ _⟩
theorem rW (a b : eY) : ∃ c, jY a b = some c ∧ (c < 0 ↔ qh a b = true) := by
 unfold jY
 rw [nJ, nJ]
 simp only [aw]
 have h : jl (jJ (if fR a then fV a else [])) (jJ (if fR b then fV b else [])) = qh a b := by rw [pu]; rfl
 rw [h]
 cases qh a b with
 | true => exact ⟨_, rfl, by decide⟩
 | false =>
  simp only [ay, aN, Bool.false_or]
  cases d : fP (jJ (if fR a then fV a else [])) (jJ (if fR b then fV b else [])) with
  | true => exact ⟨0, by simp, by decide⟩
  | false => exact ⟨1, by simp, by decide⟩
theorem BB {a b : Int} (c : 0 ≤ a ∧ a < 256) (d : 0 ≤ b ∧ b < 256) (h : a.toNat.toUInt8 = b.toNat.toUInt8) : a = b := by
 have := aI UInt8.toNat h
 simp only [UInt8.toNat_ofNat', Nat.toUInt8] at this
 simp at this
 omega
theorem ua : ∀ {a b : List Int}, (∀ x ∈ a, 0 ≤ x ∧ x < 256) → (∀ x ∈ b, 0 ≤ x ∧ x < 256) → mQ a = mQ b → a = b
 | [], [], _, _, _ => rfl
 | [], _ :: _, _, _, h => by simp [mQ] at h
 | _ :: _, [], _, _, h => by simp [mQ] at h
 | x :: a, y :: b, d, g, h => by
  simp only [mQ, aR, bD] at h
  rw [BB (d x (by simp)) (g y (by simp)) h.1, ua (fun z c => d z (by simp [c])) (fun z c => g z (by simp [c])) h.2]
theorem oK {s : ByteArray} (h : gh s = true) : ∀ x ∈ lA s, 0 ≤ x ∧ x < 256 := by
 have h1 := gI h
 intro x a
 rcases aC.1 a with rfl | a
 ·omega
 ·simp only [jx, aS] at a
  obtain ⟨b, _, rfl⟩ := a
  have := ej b
  omega
theorem ns {r : fE} (h : fX r = true) : ∀ x ∈ iT r, 0 ≤ x ∧ x < 256 := by
 simp only [fX, bd] at h
 intro x a
 rcases bf.1 a with a | a
 ·exact oK h.1 x a
 ·exact oK h.2 x a
theorem nr {c : eY} (h : fR c = true) : ∀ x ∈ fV c, 0 ≤ x ∧ x < 256 := by
 intro x a
 rcases aC.1 a with rfl | a
 ·rcases iQ h with h | h | h | h <;> omega
 ·rcases bf.1 a with a | a
  ·exact ns (nv h) x a
  ·unfold mL at a
   rcases iQ h with ⟨k, h1, _⟩ | ⟨k, h1, _⟩ | ⟨k, h1, d, _⟩ | ⟨k, h1, d, _⟩
   ·rw [aF k] at a; exact oK h1 x a
   ·rw [aG (by omega), aF k] at a; exact ns h1 x a
   ·rw [aG (by omega), aG (by omega), aF k] at a
    rcases bf.1 a with a | a
    ·exact ns h1 x a
    ·exact oK d x a
   ·rw [aG (by omega), aG (by omega), aG (by omega)] at a
    rcases bf.1 a with a | a
    ·exact ns h1 x a
    ·exact ns d x a
theorem xU {s t : ByteArray} (h : jx s = jx t) : s = t := by rw [← po s, h, po]
theorem pU {s t : ByteArray} {X Y : List Int} (h : lA s ++ X = lA t ++ Y) : s = t ∧ X = Y := by
 simp only [lA, bK, bD] at h
 obtain ⟨h1, a⟩ := h
 have c : (jx s).length = (jx t).length := by rw [gL, gL]; omega
 have := List.append_inj a c
 exact ⟨xU this.1, this.2⟩
theorem oU {a b : fE} {X Y : List Int} (h : iT a ++ X = iT b ++ Y) : a = b ∧ X = Y := by
 simp only [iT, aW] at h
 obtain ⟨h1, d⟩ := pU h
 obtain ⟨c, g⟩ := pU d
 exact ⟨by cases a; cases b; simp at h1 c; simp [h1, c], g⟩
theorem yS {a b : eY} (s : fR a = true) (u : fR b = true) (h : fV a = fV b) : a = b := by
 simp only [fV, bD] at h
 obtain ⟨hk, q⟩ := h
 obtain ⟨p, h⟩ := oU q
 clear q
 have j : ∀ {X Y : List Int}, X = Y → X ++ [] = Y ++ [] := fun h => by rw [h]
 unfold mL at h
 obtain ⟨E, t, G, y, A, w⟩ := a
 obtain ⟨F, v, I, z, D, x⟩ := b
 simp only at hk p h
 subst hk p
 rcases iQ s with ⟨k, h1, d, g, c⟩ | ⟨k, h1, d, g, c⟩ | ⟨k, h1, d, g, c, i⟩ | ⟨k, h1, d, g, c, i⟩ <;>
 rcases iQ u with ⟨k', g1, g2, g3, g4⟩ | ⟨k', g1, g2, g3, g4⟩ | ⟨k', g1, g2, g3, g4, g5⟩ | ⟨k', g1, g2, g3, g4, g5⟩ <;> simp only at k k' d g c g2 g3 g4 <;> (try omega)
 ·rw [aF k, aF k] at h
  simp [pU (j h), d, g, c, g2, g3, g4]
 ·rw [aG (by omega), aF k, aG (by omega), aF k] at h
  simp [oU (j h), d, g, c, g2, g3, g4]
 ·rw [aG (by omega), aG (by omega), aF k, aG (by omega), aG (by omega), aF k] at h
  obtain ⟨n, o⟩ := oU h
  simp only at i g5
  simp [n, pU (j o), c, i, g4, g5]
 ·rw [aG (by omega), aG (by omega), aG (by omega), aG (by omega), aG (by omega), aG (by omega)] at h
  obtain ⟨n, o⟩ := oU h
  simp only at i g5
  simp [n, oU (j o), c, i, g4, g5]
theorem tf : ql (fun a b => qh a b = true) (fun c => fR c = true) := by
 refine ⟨fun x _ h => ?_, fun x y z _ _ _ h1 i => sU _ _ _ h1 i, fun x y d g => ?_⟩
 ·unfold qh at h; rw [rz] at h; cases h
 ·rcases sX (vT x) (vT y) with h | h | h
  ·exact .inl h
  ·refine .inr (.inl (yS d g ?_))
   unfold vT at h
   rw [aF d, aF g] at h
   exact ua (nr d) (nr g) h
  ·exact .inr (.inr h)
def kO {α : Type} (R : α → Bool) (lt : α → α → Bool) (last : Option α) : List α → Bool → α → Bool × α
 | [], ok, b => (ok, b)
 | x :: xs, ok, b => if R x && last.all (fun y => lt y x) && (!ok || lt x b) then kO R lt last xs true x else kO R lt last xs ok b
def sL {α : Type} (w : Nat) (R : α → Bool) (lt : α → α → Bool) (d : α) (l : List α) : Nat → List α → Option (List α)
 | 0, _ => none
 | n + 1, out => if !(kO R lt out.getLast? l false d).1 then some out else (kY w out [(kO R lt out.getLast? l false d).2]).bind fun o => sL w R lt d l n o
section
variable {α : Type} {R : α → Bool} {lt : α → α → Bool}
theorem rT (H : ql (fun a b => lt a b = true) (fun x => R x = true)) (last : Option α) : ∀ (l : List α) (ok : Bool) (b : α), (ok = true → R b = true ∧ last.all (fun y => lt y b) = true) →
  ((kO R lt last l ok b).1 = false → ok = false ∧ ∀ x ∈ l, R x = true → last.all (fun y => lt y x) = false) ∧
  ((kO R lt last l ok b).1 = true → R (kO R lt last l ok b).2 = true ∧ last.all (fun y => lt y (kO R lt last l ok b).2) = true ∧ ((kO R lt last l ok b).2 ∈ l ∨ (ok = true ∧ (kO R lt last l ok b).2 = b)) ∧
   (∀ x ∈ l, R x = true → last.all (fun y => lt y x) = true → lt x (kO R lt last l ok b).2 = false) ∧ (ok = true → lt b (kO R lt last l ok b).2 = false))
 | [], ok, b, j => by
  simp only [kO]
  exact ⟨fun h => ⟨h, by simp⟩, fun h => ⟨(j h).1, (j h).2, .inr ⟨h, trivial⟩, by simp, fun _ => by
   cases n : lt b b with
   | false => rfl
   | true => exact absurd n (H.irrefl b (j h).1)⟩⟩
 | x :: xs, ok, b, j => by
  rw [kO]
  by_cases k : (R x && last.all (fun y => lt y x) && (!ok || lt x b)) = true
  ·rw [aF k]
   simp only [bd, cZ, ev] at k
   obtain ⟨⟨A, t⟩, u⟩ := k
   obtain ⟨h1, s⟩ := rT H last xs true x (fun _ => ⟨A, t⟩)
   refine ⟨fun h => ?_, fun h => ?_⟩
   ·cases (h1 h).1
   ·obtain ⟨p, a2, a3, a4, a5⟩ := s h
    refine ⟨p, a2, ?_, ?_, ?_⟩
    ·rcases a3 with a3 | ⟨_, a3⟩
     ·exact .inl (by simp [a3])
     ·exact .inl (by rw [a3]; simp)
    ·intro y g c d
     rcases aC.1 g with rfl | g
     ·exact a5 rfl
     ·exact a4 y g c d
    ·intro i
     cases n : lt b (kO R lt last xs true x).2 with
     | false => rfl
     | true =>
      have v : lt x b = true := by rcases u with h | h; rw [i] at h; cases h; exact h
      have := H.trans x b _ A (j i).1 p v n
      simp only [a5 rfl] at this
      cases this
  ·rw [aG k]
   obtain ⟨h1, s⟩ := rT H last xs ok b j
   refine ⟨fun h => ⟨(h1 h).1, fun y g c => ?_⟩, fun h => ?_⟩
   ·rcases aC.1 g with rfl | g
    ·have i := (h1 h).1
     cases t : last.all (fun z => lt z y) with
     | false => rfl
     | true => exact absurd (by simp [c, t, i]) k
    ·exact (h1 h).2 y g c
   ·obtain ⟨p, a2, a3, a4, a5⟩ := s h
    refine ⟨p, a2, ?_, ?_, a5⟩
    ·rcases a3 with a3 | a3
     ·exact .inl (by simp [a3])
     ·exact .inr a3
    ·intro y g c d
     rcases aC.1 g with rfl | g
     ·cases n : lt y (kO R lt last xs ok b).2 with
      | false => rfl
      | true =>
       cases ok with
       | false => exact absurd (by simp [c, d]) k
       | true =>
        have w : lt y b = false := by
         cases D : lt y b with
         | false => rfl
         | true => exact absurd (by simp [c, d, D]) k
        have q := j rfl
        rcases H.total y b c q.1 with o | o | o
        ·rw [w] at o; cases o
        ·subst o; rw [a5 rfl] at n; cases n
        ·have := H.trans b y _ q.1 c p o n
         simp only [a5 rfl] at this
         cases this
     ·exact a4 y g c d
theorem oI (H : ql (fun a b => lt a b = true) (fun x => R x = true)) {l : List α} (d : ∀ x ∈ l, R x = true) (h : l.Pairwise (fun a b => lt a b = true)) : l.Nodup := by
 refine h.imp_of_mem (fun {a b} g i c e => ?_)
 subst e
 exact H.irrefl a (d a g) c
theorem jN : ∀ {l m : List α}, l.Nodup → (∀ x ∈ l, x ∈ m) → l.length ≤ m.length
 | [], _, _, _ => by simp
 | x :: l, m, g, c => by
  obtain ⟨A, B, rfl⟩ := List.append_of_mem (c x (by simp))
  have a := bZ.1 g
  have := jN (l := l) (m := A ++ B) a.2 (fun y d => by
   have := c y (cA _ d)
   simp only [bf, aC] at this ⊢
   rcases this with h | h | h
   ·exact .inl h
   ·subst h; exact absurd d a.1
   ·exact .inr h)
  simp at this ⊢; omega
theorem rU (H : ql (fun a b => lt a b = true) (fun x => R x = true)) {w : Nat} (hw : w ≤ 1000) (d : α) (l : List α) (I : l.length ≤ 1000000000) : ∀ (n : Nat) (out : List α), l.length < n + out.length → out.Pairwise (fun a b => lt a b = true) → (∀ x ∈ out, x ∈ l ∧ R x = true) →
  (∀ x ∈ l, R x = true → x ∈ out ∨ out.getLast?.all (fun y => lt y x) = true) → ∃ s, sL w R lt d l n out = some s ∧ nl (fun a b => lt a b = true) (fun x => R x = true) l s
 | 0, out, J, hp, hm, v => by
  exfalso
  have := jN (oI H (fun x c => (hm x c).2) hp) (fun x c => (hm x c).1)
  omega
 | n + 1, out, J, hp, hm, v => by
  rw [sL]
  obtain ⟨h1, F⟩ := rT H out.getLast? l false d (fun h => by cases h)
  have hlen := jN (oI H (fun x c => (hm x c).2) hp) (fun x c => (hm x c).1)
  cases E : (kO R lt out.getLast? l false d).1 with
  | false =>
   rw [aF (by simp)]
   refine ⟨out, rfl, hp, fun x => ⟨hm x, fun c => ?_⟩⟩
   rcases v x c.1 c.2 with h | h
   ·exact h
   ·rw [(h1 E).2 x c.1 c.2] at h; cases h
  | true =>
   rw [aG (by simp)]
   obtain ⟨t, a2, a3, a4, _⟩ := F E
   generalize (kO R lt out.getLast? l false d).2 = b at *
   have u : b ∈ l := by rcases a3 with h | ⟨h, _⟩; exact h; cases h
   have p : ∀ y ∈ out, lt y b = true := by
    intro y g
    obtain ⟨A, z, rfl⟩ : ∃ A z, out = A ++ [z] := by
     rcases dL out with h | ⟨A, z, h⟩
     ·subst h; cases g
     ·exact ⟨A, z, by rw [h]; simp⟩
    simp at a2
    rcases bf.1 g with g | g
    ·have D : lt y z = true := (dR.1 hp).2.2 y g z (by simp)
     exact H.trans y z b (hm y (by simp [g])).2 (hm z (by simp)).2 t D a2
    ·simp at g; subst g; exact a2
   have q : (out ++ [b]).Pairwise (fun a b => lt a b = true) := dR.2 ⟨hp, by simp, fun x c y g => by simp at g; subst g; exact p x c⟩
   have k : ∀ x ∈ out ++ [b], x ∈ l ∧ R x = true := fun x c => by
    rcases bf.1 c with c | c
    ·exact hm x c
    ·simp at c; subst c; exact ⟨u, t⟩
   have j := jN (oI H (fun x c => (k x c).2) q) (fun x c => (k x c).1)
   simp at j
   rw [qO (by simp only [aX, br]; have : (out.length + (0 + 1)) * w ≤ 1000000000 * 1000 := Nat.mul_le_mul (by omega) hw; omega) (by simp; omega)]
   simp only [aw]
   refine rU H hw d l I n (out ++ [b]) (by simp; omega) q k (fun x c i => ?_)
   rcases v x c i with h | h
   ·exact .inl (by simp [h])
   ·have G := a4 x c i h
    rcases H.total x b i t with o | o | o
    ·rw [G] at o; cases o
    ·subst o; exact .inl (by simp)
    ·exact .inr (by simp [o])
end
theorem vR {α : Type} (A : List α) (x : α) (a : A.length < 4611686018427387904) : jz (A ++ [x]) (wi0 .i64 (((A ++ [x]).length : Int) - 1)) = some x := by
 rw [gu (by simp; try omega) (by simp; try omega)]
 rw [lT A x [] _ (by simp; try omega)]
theorem sR (out : List eY) (k : out.length < 4611686018427387904) : ∀ (l : List eY) (ok : Bool) (b : eY), jI out l ok b = some (kO fR qh out.getLast? l ok b)
 | [], ok, b => rfl
 | x :: xs, ok, b => by
  rw [jI, kO]
  have cmp : ∀ a b, ∃ c, jY a b = some c ∧ decide (c < 0) = qh a b := fun a b => by
   obtain ⟨c, h1, j⟩ := rW a b
   exact ⟨c, h1, by rw [cL, ← j]; simp⟩
  rw [kN, sR out k xs true x, sR out k xs ok b]
  obtain ⟨c, h1, j⟩ := cmp x b
  rcases dL out with h | ⟨A, z, h⟩
  ·subst h
   simp only [h1, aw, j, br, Option.all, List.getLast?_nil]
   generalize qh x b = p
   cases fR x <;> cases ok <;> cases p <;> simp
  ·have i : out = A ++ [z] := by rw [h]; simp
   obtain ⟨u, s, t⟩ := cmp z x
   have d : out.getLast? = some z := by rw [i]; simp
   have g : jz out (wi0 .i64 ((out.length : Int) - 1)) = some z := by rw [i]; exact vR A z (by rw [i] at k; simp at k; omega)
   have n : ((out.length : Int) == 0) = false := by rw [i]; simp; omega
   rw [d]
   simp only [n, g, s, h1, aw, j, t, Option.all]
   rcases bY (qh x b) with hp | hp <;> rcases bY (qh z x) with o | o <;> rcases bY (fR x) with q | q <;> cases ok <;> simp [hp, o, q]
theorem CD (a b : ByteArray) : (!(jl a b || fP a b)) = jl b a := by
 rcases nM a b with h | h | h
 ·simp [h, oO h]
 ·subst h; simp [mf, mo]
 ·have c := oO h
  have d : fP a b = false := xl (by rintro rfl; rw [mo] at h; cases h)
  simp [h, c, d]
theorem yA {s : ByteArray} (h : gh s = true) : fP s zS = false := xl (fun e => by have := gI h; rw [e, AL] at this; omega)
theorem td (out : List ByteArray) (k : out.length < 4611686018427387904) : ∀ (l : List ByteArray) (b : ByteArray),
  ∃ n, jE out l b = some n ∧ (kO gh jl out.getLast? l (!fP b zS) b) = (!fP n zS, n)
 | [], b => ⟨b, rfl, rfl⟩
 | x :: xs, b => by
  rw [jE, kO]
  obtain ⟨w, u, c⟩ := td out k xs x
  obtain ⟨y, v, i⟩ := td out k xs b
  rw [mu, u, v]
  by_cases g : gh x = true
  ·rw [yA g] at c
   simp only [Bool.not_false] at c
   rcases dL out with h | ⟨A, z, h⟩
   ·subst h
    simp only [aw, br, Option.all, List.getLast?_nil, g] at *
    rw [c, i]
    generalize jl x b = p
    generalize fP b zS = q
    cases p <;> cases q <;> simp
   ·have j : out = A ++ [z] := by rw [h]; simp
    have a : out.getLast? = some z := by rw [j]; simp
    have d : jz out (wi0 .i64 ((out.length : Int) - 1)) = some z := by rw [j]; exact vR A z (by rw [j] at k; simp at k; omega)
    have o : ((out.length : Int) == 0) = false := by rw [j]; simp; omega
    rw [a] at c i ⊢
    simp only [o, d, aw, Option.all, CD, g]
    rw [c, i]
    rcases bY (jl x b) with hp | hp <;> rcases bY (jl z x) with s | s <;> rcases bY (fP b zS) with t | t <;> simp [hp, s, t]
  ·simp only [eF] at g
   rw [g, i]
   simp
theorem zX (a : List eY) : ∀ (n : Nat) (out s : List eY), sL 136 fR qh (⟨0, ⟨zS, zS⟩, zS, ⟨zS, zS⟩, ⟨zS, zS⟩, zS⟩ : eY) a n out = some s → s.length < 4611686018427387904 → kB a n out = some s ∧ out.length ≤ s.length
 | 0, out, s, h, _ => by cases h
 | n + 1, out, s, h, i => by
  rw [sL] at h
  rw [kB]
  have key : out.length ≤ s.length → jI out a false (⟨0, ⟨zS, zS⟩, zS, ⟨zS, zS⟩, ⟨zS, zS⟩, zS⟩ : eY) = _ := fun k => sR out (by omega) a false _
  split at h
  ·rename_i h1
   cases h
   rw [key (aO _)]
   simp only [aw]
   rw [aF h1]
   exact ⟨rfl, aO _⟩
  ·rename_i h1
   obtain ⟨o, c, d⟩ := bind_some h
   have g := zX a n o s d i
   have j : out.length + 1 = o.length := by
    unfold kY at c; split at c
    ·cases c; simp
    ·cases c
   rw [key (by omega)]
   simp only [aw]
   rw [aG h1, c]
   exact ⟨g.1, by omega⟩
theorem Aj (a : List ByteArray) : ∀ (n : Nat) (out s : List ByteArray), sL 16 gh jl zS a n out = some s → s.length < 4611686018427387904 → kE a n out = some s ∧ out.length ≤ s.length
 | 0, out, s, h, _ => by cases h
 | n + 1, out, s, h, k => by
  rw [sL] at h
  rw [kE]
  have key : out.length ≤ s.length → ∃ d, jE out a zS = some d ∧ kO gh jl out.getLast? a false zS = (!fP d zS, d) := fun q => by
   have := td out (by omega) a zS
   rw [mf] at this
   exact this
  split at h
  ·rename_i h1
   cases h
   obtain ⟨d, g, k2⟩ := key (aO _)
   rw [g]
   rw [k2] at h1
   simp only [aw]
   rw [aF (by simpa using h1)]
   exact ⟨rfl, aO _⟩
  ·rename_i h1
   obtain ⟨o, c, i⟩ := bind_some h
   have j := Aj a n o s i k
   have p : out.length + 1 = o.length := by
    unfold kY at c; split at c
    ·cases c; simp
    ·cases c
   obtain ⟨d, g, k2⟩ := key (by omega)
   rw [g]
   rw [k2] at h1 c
   simp only [aw]
   rw [aG (by simpa using h1), c]
   exact ⟨j.1, by omega⟩
abbrev A6 (l s : List ByteArray) := nl (fun a b => jl a b = true) (fun x => gh x = true) l s
abbrev rD (l s : List eY) := nl (fun a b => qh a b = true) (fun x => fR x = true) l s
theorem rZ {α : Type} {lt : α → α → Bool} {R : α → Bool} (H : ql (fun a b => lt a b = true) (fun x => R x = true)) {l s : List α} (h : nl (fun a b => lt a b = true) (fun x => R x = true) l s) : s.length ≤ l.length :=
 jN (oI H (fun x c => ((h.2 x).1 c).2) h.1) (fun x c => ((h.2 x).1 c).1)
theorem AE (l : List eY) (c : l.length ≤ 1000000000) : ∃ s, oM l = some s ∧ rD l s := by
 obtain ⟨s, h1, a⟩ := rU tf (w := 136) (by omega) (⟨0, ⟨zS, zS⟩, zS, ⟨zS, zS⟩, ⟨zS, zS⟩, zS⟩ : eY) l c ib [] (by rw [mD]; omega) (by simp) (by simp) (fun x _ _ => .inr rfl)
 exact ⟨s, (zX l ib [] s h1 (by have := rZ tf a; omega)).1, a⟩
theorem AD (l : List ByteArray) (c : l.length ≤ 1000000000) : ∃ s, oH l = some s ∧ A6 l s := by
 obtain ⟨s, h1, a⟩ := rU (xO (fun x => gh x = true)) (w := 16) (by omega) zS l c ib [] (by rw [mD]; omega) (by simp) (by simp) (fun x _ _ => .inr rfl)
 exact ⟨s, (Aj l ib [] s h1 (by have := rZ (xO _) a; omega)).1, a⟩
def zC : eY := ⟨0, ⟨zS, zS⟩, zS, ⟨zS, zS⟩, ⟨zS, zS⟩, zS⟩
theorem xa (f : eY → Option Bool) : ∀ (n : Nat) (l : List eY) (i j : Int), gG f n l i j = sP f zC n l i j
 | 0, _, _, _ => rfl
 | n + 1, l, i, j => by
  rw [gG, sP]
  simp only [xa f n]
  rfl
theorem xt (f : eY → Option Bool) : ∀ (l : List eY) (i : Nat), iv f l i = sW f l i
 | [], _ => rfl
 | x :: l, i => by rw [iv, sW]; simp only [xt f l]
theorem zQ (f : eY → Option Bool) (l : List eY) : jk l f = xZ f zC l := by
 unfold jk xZ kX
 simp only [xt, xa]
theorem vu (i : Int) : ∀ (n : Nat) (l : List eY) (k j : Int), gZ i n l k j = sa jq i n l k j
 | 0, _, _, _ => rfl
 | n + 1, l, k, j => by
  rw [gZ, sa]
  simp only [vu i n]
theorem vz (l : List eY) : ∀ (n : Nat) (i : Int), hU l n i = sS jq zC l n i
 | 0, _ => rfl
 | n + 1, i => by
  rw [hU, sS]
  simp only [vz l n, vu]
  rfl
theorem zJ (l : List eY) : kd l = xY jq zC l := by
 unfold kd xY
 simp only [vz]
theorem Bm {l : List eY} (a : l.length ≤ 1000000000) : jw l = some l := by
 unfold jw
 rw [qO (by simp; omega) (by simp; omega)]
 simp
theorem Be (l : List eY) (d : l.length ≤ 1000000000) : ∃ s, oh l = some s ∧ rD l s := by
 unfold oh
 rw [Bm d]
 simp only [aw]
 rw [zQ, zB _ (fun x => !fR x) zC l (by omega) (fun x _ => by simp [nB, lB])]
 simp only [aw, Bool.not_not]
 have i : (l.filter fun x => fR x).length ≤ l.length := List.length_filter_le _ _
 obtain ⟨s, h1, h, c⟩ := wL (eq := jq) (lt := fun a b => qh a b = true) (P := fun x => fR x = true) (cf := fun x => kD x.1 x.2) (l := l.filter fun x => fR x) (fun x y => qq) tf (fun x g => (List.mem_filter.1 g).2) (by omega) (fun x y _ _ => sv x y)
 rw [h1]
 simp only [aw]
 rw [zJ, zH _ _ _ (by omega)]
 refine ⟨_, rfl, c.1, fun x => ?_⟩
 rw [c.2]
 simp
theorem uL (b : List eY) : ∀ (A l : List eY), lx (A ++ l) l A.length = some true
 | A, [] => rfl
 | A, x :: l => by
  rw [lx, lT A x l _ rfl]
  simp only [aw]
  rw [qq.2 rfl]
  simp only [bB, ay, aN]
  have := uL b (A ++ [x]) l
  simpa using this
theorem BY (l : List eY) : oe l l = some true := by
 unfold oe
 rw [aG (by simp)]
 exact uL [] [] l
theorem uD : ∀ (A l : List ByteArray), lD (A ++ l) l A.length = some true
 | A, [] => rfl
 | A, x :: l => by
  rw [lD, lT A x l _ rfl]
  simp only [aw]
  rw [mf]
  simp only [bB, ay, aN]
  have := uD (A ++ [x]) l
  simpa using this
theorem B6 (l : List ByteArray) : od l l = some true := by
 unfold od
 rw [aG (by simp)]
 exact uD [] l
def qk {κ : Type} (beq : κ → κ → Bool) (a : List κ) (k : κ) : Bool := a.any fun x => beq k x
def ins {κ : Type} (beq : κ → κ → Bool) (a : List κ) (k : κ) : List κ := if qk beq a k then a else a ++ [k]
section
variable {κ : Type} {beq : κ → κ → Bool}
theorem vZ (c : ∀ {x y}, beq x y = true ↔ x = y) (a : List κ) (k : κ) : qk beq a k = true ↔ k ∈ a := by
 simp [qk, List.any_eq_true, c]
end
theorem nl.congr {α : Type} {lt : α → α → Prop} {P : α → Prop} {l m s : List α} (h : nl lt P l s) (hm : ∀ x, x ∈ l ↔ x ∈ m) : nl lt P m s := ⟨h.1, fun x => by rw [h.2, hm]⟩
theorem vh : ∀ (l : List eY) (n : Int), 0 ≤ n → n ≤ 4000000000000000000 → (∀ c ∈ l, c.Head.eZ.size + c.Head.fg.size + c.fu.size + c.B.eZ.size + c.B.fg.size + c.C.eZ.size + c.C.fg.size + c.fB.size ≤ 1000000000) → n + l.length * 1000000020 ≤ 4000000000000000000 →
  ∃ r, kK l n = some r ∧ n + 20 * l.length ≤ r
 | [], n, _, _, _, _ => ⟨n, rfl, by simp⟩
 | c :: l, n, o, h1, a, i => by
  have h := a c (by simp)
  simp only [aX] at i ⊢
  rw [kK]
  rw [gu (x := 20 + (c.Head.eZ.size : Int)) (by omega) (by omega), gu (x := 20 + (c.Head.eZ.size : Int) + (c.Head.fg.size : Int)) (by omega) (by omega), gu (x := 20 + (c.Head.eZ.size : Int) + (c.Head.fg.size : Int) + (c.fu.size : Int)) (by omega) (by omega), gu (x := 20 + (c.Head.eZ.size : Int) + (c.Head.fg.size : Int) + (c.fu.size : Int) + (c.B.eZ.size : Int)) (by omega) (by omega), gu (x := 20 + (c.Head.eZ.size : Int) + (c.Head.fg.size : Int) + (c.fu.size : Int) + (c.B.eZ.size : Int) + (c.B.fg.size : Int)) (by omega) (by omega), gu (x := 20 + (c.Head.eZ.size : Int) + (c.Head.fg.size : Int) + (c.fu.size : Int) + (c.B.eZ.size : Int) + (c.B.fg.size : Int) + (c.C.eZ.size : Int)) (by omega) (by omega), gu (x := 20 + (c.Head.eZ.size : Int) + (c.Head.fg.size : Int) + (c.fu.size : Int) + (c.B.eZ.size : Int) + (c.B.fg.size : Int) + (c.C.eZ.size : Int) + (c.C.fg.size : Int)) (by omega) (by omega), gu (x := 20 + (c.Head.eZ.size : Int) + (c.Head.fg.size : Int) + (c.fu.size : Int) + (c.B.eZ.size : Int) + (c.B.fg.size : Int) + (c.C.eZ.size : Int) + (c.C.fg.size : Int) + (c.fB.size : Int)) (by omega) (by omega), gu (by omega) (by omega)]
  obtain ⟨r, g, k⟩ := vh l (n + (20 + (c.Head.eZ.size : Int) + (c.Head.fg.size : Int) + (c.fu.size : Int) + (c.B.eZ.size : Int) + (c.B.fg.size : Int) + (c.C.eZ.size : Int) + (c.C.fg.size : Int) + (c.fB.size : Int))) (by omega) (by omega) (fun d j => a d (by simp [j])) (by omega)
  exact ⟨r, g, by omega⟩
def qS (c : eY) : Nat := c.Head.eZ.size + c.Head.fg.size + c.fu.size + c.B.eZ.size + c.B.fg.size + c.C.eZ.size + c.C.fg.size + c.fB.size
theorem zA (l : List eY) (d : l.length ≤ 100000000) (a : ∀ c ∈ l, qS c ≤ 1000000000) : ∃ r, pa l = some r := by
 obtain ⟨r, h, _⟩ := vh l 0 (by omega) (by omega) a (by omega)
 exact ⟨r, h⟩
section
variable {κ γ : Type} {beq : κ → κ → Bool}
theorem Ar (a : ∀ {x y}, beq x y = true ↔ x = y) {l : List (κ × γ)} {k : κ} (h : ∀ p ∈ l, p.1 ≠ k) : iy beq l k = none := by
 unfold iy
 rw [List.find?_eq_none.2 (fun p hp c => h p hp (a.1 c).symm)]
 rfl
theorem AM (a : ∀ {x y}, beq x y = true ↔ x = y) {l : List (κ × γ)} {k : κ} {y : γ} (h : ∀ p ∈ l, p.1 ≠ k) : mM beq l k y = l ++ [(k, y)] := by
 refine rM (List.findIdx?_eq_none_iff.2 (fun p hp => ?_)) y
 cases c : beq k p.1 with
 | false => rfl
 | true => exact absurd (a.1 c).symm (h p hp)
theorem rE (p : κ × γ) (l : List (κ × γ)) (k : κ) : iy beq (p :: l) k = if beq k p.1 = true then some p.2 else iy beq l k := by
 unfold iy
 rw [List.find?_cons]
 cases beq k p.1 <;> simp
end
theorem wG (l : List ByteArray) (x : ByteArray) : x ∈ iF l ↔ x ∈ l := by unfold iF; simp
theorem xS {l : List ByteArray} (g : l.Nodup) : (iF l).Pairwise (fun a b => jl a b = true) := by
 have h1 : (iF l).Pairwise (fun a b => (!jl b a) = true) := rc (P := fun _ => True) (fun a b c _ _ _ h1 d => by
   simp only [ev] at *
   rcases nM a b with h | h | h
   ·rcases nM b c with k | k | k
    ·exact oO (rL h k)
    ·subst k; exact h1
    ·rw [d] at k; cases k
   ·subst h; exact d
   ·rw [h1] at h; cases h) (fun a b _ _ => by
   rcases nM a b with h | h | h
   ·simp [oO h]
   ·subst h; simp [mo]
   ·simp [oO h]) l (fun _ _ => trivial)
 have d : (iF l).Nodup := by unfold iF; exact (dX l _).nodup_iff.2 g
 refine (h1.and d).imp (fun {a b} h => ?_)
 rcases nM a b with k | k | k
 ·exact k
 ·exact absurd k h.2
 ·have := h.1; rw [k] at this; cases this
def qA : fE := ⟨⟨#[97]⟩, ⟨#[114]⟩⟩
def qB : fE := ⟨⟨#[98]⟩, ⟨#[115]⟩⟩
def qd : ByteArray := ⟨#[100]⟩
def j1 : eY := ⟨2, qA, zS, qB, ⟨zS, zS⟩, zS⟩
def j2 : eY := ⟨1, qB, qd, ⟨zS, zS⟩, ⟨zS, zS⟩, zS⟩
def up (w : ByteArray) (g : ByteArray → Nat) : ByteArray → Nat := fun x => if fP w x = true then g x + 1 else g x
def tot {α : Type} (a : List (List α)) : Nat := (a.map List.length).sum
instance decRole : DecidableEq fE := fun a b => decidable_of_iff (im a b = true) jM
def B8 (l : List Int) : Prop := ∀ x ∈ l, 0 ≤ x ∧ x < 256
theorem B8.Aa {a b : List Int} (c : B8 a) (d : B8 b) : B8 (a ++ b) := fun x g => (bf.1 g).elim (c x) (d x)
theorem Ay {a b : List Int} (c : B8 a) (d : B8 b) : jJ a = jJ b ↔ a = b :=
 ⟨fun h => ua c d (by rw [← mO, ← mO, h]), fun h => by rw [h]⟩
theorem tl {l : List Int} (h : B8 l) : jx (jJ l) = l := by
 unfold jx
 rw [mO]
 unfold mQ
 rw [cg]
 conv => rhs; rw [← List.map_id l]
 apply dW
 intro x c
 have := h x c
 simp only [Function.comp, id]
 have a : x.toNat.toUInt8.toNat = x.toNat := by rw [Nat.toUInt8_eq, UInt8.toNat_ofNat']; omega
 rw [a]; omega
theorem xV {l : List Int} (h : B8 l) (a : l.length ≤ 1000000) : ob (jJ l) = some l := by
 unfold ob
 rw [tl h, oD, aF (by simp only [maxLen]; omega)]
def vA (h x : Int) : Int := IntKind.u64.wrap ((IntKind.u64.wrap (BitVec.ofInt (IntKind.bits .u64) h ^^^ BitVec.ofInt (IntKind.bits .u64) (IntKind.u64.wrap x)).toNat) * 1099511628211)
def vi (l : List Int) : Int := l.foldl vA 14695981039346656037
theorem AI (n : Int) : 0 ≤ IntKind.u64.wrap n ∧ IntKind.u64.wrap n < 18446744073709551616 := by
 simp only [IntKind.wrap, IntKind.bits, IntKind.signed]; constructor
 ·simp; omega
 ·simp; omega
theorem vM (l : List Int) : 0 ≤ vi l ∧ vi l < 18446744073709551616 := by
 have : ∀ (l : List Int) (h : Int), (0 ≤ h ∧ h < 18446744073709551616) → 0 ≤ l.foldl vA h ∧ l.foldl vA h < 18446744073709551616 := by
  intro l
  induction l with
  | nil => intro h a; exact a
  | cons x l ih => intro h a; exact ih _ (AI _)
 exact this l _ (by omega)
theorem yo : ∀ (l : List Int) (h : Int), mS l h = some (l.foldl vA h)
 | [], h => rfl
 | x :: l, h => by rw [mS, yo l]; rfl
theorem yP : ∀ (a : List (List Int)) (h : Int), mW a h = some (a.flatten.foldl vA h)
 | [], h => rfl
 | l :: a, h => by rw [mW, yo, aw, yP a, bO, List.foldl_append]
theorem BA (a : List (List Int)) : rH a = some (vi a.flatten) := yP a _
theorem uK (s : ByteArray) (c : s.size ≤ 10000000) : ∀ (B A : List UInt8) (h : Int) (n : Nat), s.data.toList = A ++ B → B.length < n → jG s n h (A.length : Int) = some ((B.map fun b => (b.toNat : Int)).foldl vA h)
 | [], A, h, n + 1, e, _ => by
  have : s.size = A.length := by rw [kz, e]; simp
  rw [jG, aG (by simp [this])]; rfl
 | b :: B, A, h, n + 1, e, a => by
  have d : s.size = A.length + (B.length + 1) := by rw [kz, e]; simp
  rw [jG, aF (by simp; omega), wQ e _ rfl, aw, gu (by omega) (by omega)]
  have := uK s c B (A ++ [b]) (vA h (b.toNat : Int)) n (by rw [e]; simp) (by simp only [aX] at a; omega)
  simp only [aJ, aX, br, eH] at this
  rw [aR, eP, ← this]
  rfl
theorem Bg {l : List Int} (h : B8 l) (a : l.length ≤ 1000000) : oL (jJ l) = some (vi l) := by
 unfold oL
 have := uK (jJ l) (by rw [oD]; omega) (jJ l).data.toList [] 14695981039346656037 ib rfl (by rw [← kz, oD, mD]; omega)
 rw [show ((jJ l).data.toList.map fun b => (b.toNat : Int)) = l from tl h] at this
 exact this
def yx (H : Int) : List Int := [H / 72057594037927936 % 256, H / 281474976710656 % 256, H / 1099511627776 % 256, H / 4294967296 % 256, H / 16777216 % 256, H / 65536 % 256, H / 256 % 256, H % 256]
theorem Cp (H : Int) : B8 (yx H) := by
 intro x a
 simp only [yx, aC, bk, cI] at a
 rcases a with rfl | rfl | rfl | rfl | rfl | rfl | rfl | rfl <;> omega
theorem AJ (H : Int) (hH : 0 ≤ H ∧ H < 18446744073709551616) : ((qH 1 (0 : Int) 8).bind fun l => kj H l 0 l) = some (yx H) := by
 have c : qH 1 (0 : Int) 8 = some [0, 0, 0, 0, 0, 0, 0, 0] := by unfold qH; rw [aF (by simp [maxLen])]; rfl
 rw [c, aw]
 have j : ∀ n : Nat, n ≤ 7 → wi0 .i64 (8 * wi0 .i64 (7 - (n : Int))) = 8 * (7 - (n : Int)) := fun n o => by
  rw [gu (x := 7 - (n : Int)) (by omega) (by omega), gu (by omega) (by omega)]
 have step : ∀ (x : Int) (xs l : List Int) (i : Nat) (d : Int), i ≤ 7 → l.length = 8 → IntKind.u8.wrap (Int.fdiv H (2 ^ min (Int.toNat (8 * (7 - (i : Int)))) (IntKind.bits .u64))) = d → kj H (x :: xs) i l = kj H xs (i + 1) (l.set i d) := by
  intro x xs l i d h k g
  rw [kj, j i h, g]
  have : kH (decide (0 ≤ 8 * (7 - (i : Int)))) = some () := by simp [kH]; omega
  rw [this, aw]
  have : jz l (i : Int) = some l[i] := by unfold jz; rw [aF (by omega)]; simp
  rw [this, aw]
  rfl
 have a : ∀ n : Int, IntKind.u8.wrap n = n % 256 := fun n => by rw [IntKind.wrap_u8]
 have fd : ∀ m : Int, 0 < m → Int.fdiv H m = H / m := fun m hm => Int.fdiv_eq_ediv_of_nonneg _ (by omega)
 rw [step _ _ _ 0 (H / 72057594037927936 % 256) (by omega) rfl (by rw [a, fd _ (by decide)]; rfl)]
 rw [step _ _ _ 1 (H / 281474976710656 % 256) (by omega) rfl (by rw [a, fd _ (by decide)]; rfl)]
 rw [step _ _ _ 2 (H / 1099511627776 % 256) (by omega) rfl (by rw [a, fd _ (by decide)]; rfl)]
 rw [step _ _ _ 3 (H / 4294967296 % 256) (by omega) rfl (by rw [a, fd _ (by decide)]; rfl)]
 rw [step _ _ _ 4 (H / 16777216 % 256) (by omega) rfl (by rw [a, fd _ (by decide)]; rfl)]
 rw [step _ _ _ 5 (H / 65536 % 256) (by omega) rfl (by rw [a, fd _ (by decide)]; rfl)]
 rw [step _ _ _ 6 (H / 256 % 256) (by omega) rfl (by rw [a, fd _ (by decide)]; rfl)]
 rw [step _ _ _ 7 (H % 256) (by omega) rfl (by rw [a, fd _ (by decide)]; simp)]
 rfl
theorem Bz (H : Int) (hH : 0 ≤ H ∧ H < 18446744073709551616) : iB ib H zS 0 = some (jJ (yx H)) := by
 have q : ∀ n : Int, 0 ≤ n → IntKind.u8.wrap (Int.tmod n 256) = n % 256 := fun n o => by
  rw [IntKind.wrap_u8, Int.tmod_eq_emod_of_nonneg o]; omega
 have step : ∀ (n : Nat) (x : Int) (l : List Int) (i : Nat), i < 8 → 0 ≤ x ∧ x < 18446744073709551616 → l.length ≤ 100 → iB (n + 1) x (jJ l) (i : Int) = iB n (x / 256) (jJ (x % 256 :: l)) ((i + 1 : Nat) : Int) := by
  intro n x l i s a t
  rw [iB, aF (by simp; omega), q x a.1, nL, jX _ _ (by simp; omega), aw, Int.tdiv_eq_ediv_of_nonneg a.1, IntWalk.u64_in _ (by omega), gu (by omega) (by omega)]
  rfl
 have p : zS = jJ [] := pz rfl
 rw [mD, p]
 rw [show (18446744073709551616 : Nat) = 18446744073709551607 + 9 from rfl]
 rw [show (0 : Int) = ((0 : Nat) : Int) from rfl, step _ _ _ 0 (by omega) hH (by simp), step _ _ _ 1 (by omega) (by omega) (by simp), step _ _ _ 2 (by omega) (by omega) (by simp), step _ _ _ 3 (by omega) (by omega) (by simp), step _ _ _ 4 (by omega) (by omega) (by simp), step _ _ _ 5 (by omega) (by omega) (by simp), step _ _ _ 6 (by omega) (by omega) (by simp), step _ _ _ 7 (by omega) (by omega) (by simp)]
 rw [iB, aG (by simp)]
 have c : H / 256 / 256 = H / 65536 := by omega
 have d : H / 65536 / 256 = H / 16777216 := by omega
 have g : H / 16777216 / 256 = H / 4294967296 := by omega
 have h : H / 4294967296 / 256 = H / 1099511627776 := by omega
 have j : H / 1099511627776 / 256 = H / 281474976710656 := by omega
 have k : H / 281474976710656 / 256 = H / 72057594037927936 := by omega
 rw [c, d, g, h, j, k]
 rfl
def jQ (k b : List Int) : List Int := yx (vi ((k.length : Int) :: (k ++ (b ++ k))))
theorem oE (k b : List Int) : B8 (jQ k b) := Cp _
theorem st {k : List Int} (b : List Int) (h : 1 ≤ k.length ∧ k.length ≤ 32) : nO k b = some (jQ k b) := by
 have a : jK k = some true := by
  unfold jK
  rw [cW (show (k.length : Int) ≥ 1 by omega), cW (show (k.length : Int) ≤ 32 by omega)]; rfl
 unfold nO
 rw [a]
 simp only [aw, bB, ay, aN]
 rw [BA]
 simp only [aw]
 rw [AJ _ (vM _), show IntKind.u8.wrap (k.length : Int) = (k.length : Int) from IntWalk.u8_in _ (by omega)]
 simp [jQ]
theorem wW {k b : List Int} (hk : B8 k) (c : B8 b) (h : 1 ≤ k.length ∧ k.length ≤ 32) (g : b.length ≤ 10000) : mN (jJ k) (jJ b) = some (jJ (jQ k b)) := by
 unfold mN
 rw [nL, oD, show IntKind.u8.wrap (k.length : Int) = (k.length : Int) from IntWalk.u8_in _ (by omega), jX _ _ (by simp only [aX, br]; omega)]
 simp only [aw]
 rw [jX _ _ (by simp; omega)]
 simp only [aw]
 rw [jX _ _ (by simp; omega)]
 simp only [aw]
 have a : B8 ([(k.length : Int)] ++ k ++ b ++ k) := ((B8.Aa (fun x d => by rw [bc] at d; omega) hk).Aa c).Aa hk
 rw [Bg a (by simp; omega), aw, Bz _ (vM _)]
 simp [jQ]
def js : List ByteArray → List Key → Int
 | _, [] => 0
 | seen, k :: l => if gh k.fu = false then 30 else if k.Key.length < 1 ∨ 32 < k.Key.length then 21 else if qk fP seen k.fu = true then 41 else js (seen ++ [k.fu]) l
def iE (l : List Key) : List (ByteArray × List Int) := l.map fun k => (k.fu, k.Key)
def oX (l : List Key) (o : ByteArray) : Option (List Int) := iy fP (iE l) o
theorem zM (a b : List Key) : iE (a ++ b) = iE a ++ iE b := by simp [iE]
theorem zD (acc : List Key) (w : ByteArray) : (iy fP (iE acc) w).isSome = qk fP (acc.map (·.fu)) w := by
 induction acc with
 | nil => rfl
 | cons k l ih =>
  rw [show iE (k :: l) = (k.fu, k.Key) :: iE l from rfl, rE]
  simp only [aR, qk, List.any_cons] at ih ⊢
  cases h : fP w k.fu <;> simp [ih]
theorem tC {l : List Int} (h : l.length ≤ 1000000) : gV l = some l := by
 unfold gV
 rw [qY (by simpa using h)]; rfl
theorem Bo (k : Key) : (if decide ((k.Key.length : Int) < 1) = true then some true else some (decide ((k.Key.length : Int) > 32)) : Option Bool) = some (decide (k.Key.length < 1 ∨ 32 < k.Key.length)) := by
 rw [Bool.decide_or]
 by_cases h : k.Key.length < 1
 ·rw [aF (by simp; omega), cW h, Bool.true_or]
 ·rw [aG (by simp; omega), decide_eq_false h, Bool.false_or]
  congr 1; apply decide_eq_decide.2; omega
theorem tD : ∀ (l acc : List Key), lj l (iE acc) = some (if js (acc.map (·.fu)) l = 0 then (some (⟨iE (acc ++ l)⟩ : fW), 0) else (none, js (acc.map (·.fu)) l))
 | [], acc => by rw [lj]; simp [js]
 | k :: l, acc => by
  rw [lj, lG, aw]
  unfold js
  cases g : gh k.fu
  ·simp
  ·simp only [bB, ay, aN]
   rw [Bo, aw]
   by_cases hk : k.Key.length < 1 ∨ 32 < k.Key.length
   ·simp only [hk, dr, aV]
    rw [aG (by simp), aG (by decide)]
   ·simp only [hk, dF, ay, aN]
    rw [zD]
    cases a : qk fP (acc.map (·.fu)) k.fu
    ·simp only [ay, aN]
     rw [tC (by omega), aw]
     have c : ∀ p ∈ iE acc, p.1 ≠ k.fu := by
      intro p hp e
      obtain ⟨q, d, rfl⟩ := aS.1 hp
      have := (vZ gJ (acc.map (·.fu)) k.fu).2 (aS.2 ⟨q, d, e⟩)
      rw [this] at a; cases a
     unfold we
     rw [Ar gJ c, AM gJ c]
     simp only [ef, aV, aw]
     have := tD l (acc ++ [k])
     rw [zM] at this
     rw [show iE acc ++ [(k.fu, k.Key)] = iE acc ++ iE [k] from rfl, this]
     simp
    ·simp
theorem sc (l : List Key) : nj l = some (if js [] l = 0 then (some (⟨iE l⟩ : fW), 0) else (none, js [] l)) := tD l []
theorem uH (k : Key) : ∀ A : List Key, lV k A = some (if qk fP (A.map (·.fu)) k.fu = true then .inl 41 else .inr ())
 | [] => rfl
 | x :: A => by
  rw [lV, qa, uH k A]
  simp only [aR, qk, List.any_cons]
  cases fP k.fu x.fu <;> simp
theorem uI (a0 : List Key) : ∀ (l A : List Key), a0 = A ++ l → kC a0 l A.length = some (js (A.map (·.fu)) l)
 | [], A, e => by rw [kC]; simp [js]
 | k :: l, A, e => by
  rw [kC, mu, aw]
  unfold js
  cases d : gh k.fu
  ·simp
  ·simp only [bB, ay, aN]
   rw [Bo, aw]
   by_cases hk : k.Key.length < 1 ∨ 32 < k.Key.length
   ·simp only [hk, dr, aV]; simp
   ·simp only [hk, dF, ay, aN]
    rw [oP (by omega) (by rw [e]; simp; omega), aw]
    have a : a0.take (Int.toNat (A.length : Int)) = A := by rw [e]; simp
    rw [a, uH, aw]
    cases c : qk fP (A.map (·.fu)) k.fu
    ·simp only [ay, aN]
     have := uI a0 l (A ++ [k]) (by rw [e]; simp)
     simpa using this
    ·simp
theorem AT (l : List Key) : qv l = some (js [] l) := uI l l [] rfl
theorem xg : ∀ (l : List Key) (seen : List ByteArray), js seen l = 0 → ∀ k ∈ l, 1 ≤ k.Key.length ∧ k.Key.length ≤ 32
 | [], _, _, _, hk => by cases hk
 | x :: l, seen, h, k, hk => by
  unfold js at h
  split at h
  ·cases h
  split at h
  ·cases h
  split at h
  ·cases h
  rcases aC.1 hk with rfl | hk
  ·omega
  ·exact xg l _ h k hk
theorem sO : ∀ (l : List Key) (o : ByteArray) (b : List Int), oX l o = some b → ∃ k ∈ l, k.Key = b
 | [], o, b, h => by cases h
 | x :: l, o, b, h => by
  unfold oX at h
  rw [show iE (x :: l) = (x.fu, x.Key) :: iE l from rfl, rE] at h
  split at h
  ·cases h; exact ⟨x, by simp, rfl⟩
  ·obtain ⟨k, hk, e⟩ := sO l o b h
   exact ⟨k, by simp [hk], e⟩
theorem yB (x : Key) (l : List Key) (o : ByteArray) : oX (x :: l) o = if fP x.fu o = true then some x.Key else oX l o := by
 unfold oX
 rw [show iE (x :: l) = (x.fu, x.Key) :: iE l from rfl, rE, qa]
def K8 (l : List Key) : Prop := ∀ k ∈ l, B8 k.Key
def Ad : fA := ⟨(⟨0, (⟨zS, zS⟩ : fE), zS, (⟨zS, zS⟩ : fE), (⟨zS, zS⟩ : fE), zS⟩ : eY), []⟩
theorem pY {c : eY} (h : fR c = true) : (fV c).length ≤ 200 := by
 unfold fV mL
 rw [aX, aJ]
 have i := gE (nv h)
 have a : ∀ s, gh s = true → (lA s).length ≤ 17 := fun s d => by rw [jP]; have := gI d; omega
 rcases iQ h with g | g | g | g <;> simp only [g.1, aV, aN, Int.reduceEq]
 ·have := a c.fu (by simp_all); omega
 ·have : (iT c.B).length ≤ 34 := gE (by simp_all)
  omega
 ·have : (iT c.B).length ≤ 34 := gE (by simp_all)
  have := a c.fB (by simp_all)
  rw [aJ]; omega
 ·have : (iT c.B).length ≤ 34 := gE (by simp_all)
  have : (iT c.C).length ≤ 34 := gE (by simp_all)
  rw [aJ]; omega
theorem yM (c : eY) (h : fR c = true) : jg c = some (fV c) := by rw [oa, aF h]
theorem rB (c : eY) (h : fR c = true) : kh c = some (jJ (fV c)) := by
 have := nJ c
 unfold lf at this
 rw [kN, h] at this
 simp only [aw, bB, ay, aN, aV] at this
 rw [← this]; cases kh c <;> rfl
structure Mk (ks : List Key) (c : eY) (k : List Int) : Prop where
 ok : js [] ks = 0
 rt : fR c = true
 lk : oX ks c.Head.eZ = some k
theorem Mk.len {a : List Key} {c : eY} {k : List Int} (h : Mk a c k) : 1 ≤ k.length ∧ k.length ≤ 32 := by
 obtain ⟨q, d, rfl⟩ := sO _ _ _ h.lk
 exact xg a [] h.ok q d
theorem Mk.b8 {a : List Key} {c : eY} {k : List Int} (h : Mk a c k) (hk : K8 a) : B8 k := by
 obtain ⟨q, d, rfl⟩ := sO _ _ _ h.lk
 exact hk q d
theorem Mk.unique {a : List Key} {c : eY} {k k' : List Int} (h : Mk a c k) (d : Mk a c k') : k = k' := by
 have := h.lk; rw [d.lk] at this; cases this; rfl
def Ca (c : eY) : List Int := 255 :: fV c
theorem Bf {c : eY} (h : fR c = true) : B8 (Ca c) := fun x a => by
 rcases aC.1 a with rfl | a
 ·omega
 ·exact nr h x a
theorem xL {a b : List Int} (c : B8 a) (d : B8 b) : fP (kF a) (kF b) = decide (a = b) := by
 rw [cL, gJ, nL, nL, Ay c d]; simp
def tK (a : List Key) (s : fA) : Prop := ∃ k, Mk a s.eY k ∧ s.Tag = jQ k (fV s.eY)
theorem Ap (a : List Key) (c : eY) : jO (some ⟨iE a⟩) c = some (if fR c = true then (match oX a c.Head.eZ with | some k => (k, (0 : Int)) | none => ([], 21)) else ([], 11)) := by
 unfold jO
 rw [aG (by simp), lB]
 simp only [aw]
 cases d : fR c
 ·rfl
 simp only [bB, ay, aN, aV]
 unfold oX
 cases iy fP (iE a) c.Head.eZ <;> rfl
theorem tV (c : eY) : ∀ l : List Key, lQ c l = some (match oX l c.Head.eZ with | some k => (jJ k, 0) | none => (zS, 21))
 | [] => rfl
 | x :: l => by
  rw [lQ, yB, tV c l, nL]
  split <;> rfl
theorem AK (a : List Key) (i : js [] a = 0) (c : eY) : ∃ r, iu (some ⟨iE a⟩) c = some r ∧ ((r.2 ≠ 0 ∧ ∀ k, ¬ Mk a c k) ∨ (r.2 = 0 ∧ ∃ k, Mk a c k ∧ r.1 = ⟨c, jQ k (fV c)⟩)) := by
 unfold iu
 rw [Ap]
 simp only [aw]
 cases d : fR c
 ·exact ⟨_, rfl, .inl ⟨by simp, fun k h => by have := h.rt; rw [d] at this; cases this⟩⟩
 simp only [aV]
 cases g : oX a c.Head.eZ with
 | none => exact ⟨_, rfl, .inl ⟨by decide, fun k h => by have := h.lk; rw [g] at this; cases this⟩⟩
 | some k =>
  have hm : Mk a c k := ⟨i, d, g⟩
  simp only [yM c d, aw, st _ hm.len]
  exact ⟨_, rfl, .inr ⟨rfl, k, hm, rfl⟩⟩
theorem sY (a : List Key) (hk : K8 a) (j : js [] a = 0) (s : fA) (g : B8 s.Tag) : ∃ e, gd (some ⟨iE a⟩) s = some e ∧ mw a s = some e ∧ (e = 0 ↔ tK a s) := by
 unfold gd mw nu
 rw [Ap, kN, tV]
 simp only [aw]
 cases c : fR s.eY
 ·exact ⟨11, rfl, rfl, by simp; rintro ⟨k, h, _⟩; have := h.rt; rw [c] at this; cases this⟩
 simp only [aV, bB, ay, aN, aw]
 cases d : oX a s.eY.Head.eZ with
 | none => exact ⟨21, rfl, rfl, by simp; rintro ⟨k, h, _⟩; have := h.lk; rw [d] at this; cases this⟩
 | some k =>
  have hm : Mk a s.eY k := ⟨j, c, d⟩
  have := pY c
  have o : nk k (fV s.eY) s.Tag = some (decide (jQ k (fV s.eY) = s.Tag)) := by
   unfold nk
   have n : jK k = some true := by
    unfold jK
    have := hm.len
    rw [cW (show (k.length : Int) ≥ 1 by omega), cW (show (k.length : Int) ≤ 32 by omega)]; rfl
   rw [n]
   simp only [aw, aV, st _ hm.len, nA]
   rw [xL (oE _ _) g]
  simp only [yM _ c, rB _ c, aw, o, wW (hm.b8 hk) (nr c) hm.len (show (fV s.eY).length ≤ 10000 by omega)]
  rw [← nL (jQ k _), xL (oE _ _) g]
  by_cases he : jQ k (fV s.eY) = s.Tag
  ·refine ⟨0, ?_, ?_, by simp; exact ⟨k, hm, he.symm⟩⟩ <;> simp [he]
  ·refine ⟨20, ?_, ?_, ?_⟩
   ·simp [he]
   ·simp [he]
   ·simp; rintro ⟨k', i, e⟩; exact he (by rw [e, hm.unique i])
open Classical in
noncomputable def mP (ks : List Key) (s : fA) : Bool := decide (tK ks s)
theorem pk (a : List Key) (s : fA) : mP a s = true ↔ tK a s := by simp [mP]
def S8 (l : List fA) : Prop := ∀ s ∈ l, B8 s.Tag
theorem te (a : List Key) (hk : K8 a) (g : js [] a = 0) : ∀ (l : List fA) (acc : List eY), S8 l → acc.length + l.length ≤ 100000000 →
  fZ (some ⟨iE a⟩) l acc = oh (acc ++ (l.filter (mP a)).map (·.eY)) ∧ jj a l acc = oM (acc ++ (l.filter (mP a)).map (·.eY))
 | [], acc, _, _ => by rw [fZ, jj]; simp [vg]
 | s :: l, acc, i, n => by
  rw [fZ, jj]
  obtain ⟨e, j, k, he⟩ := sY a hk g s (i s (by simp))
  rw [j, k]
  simp only [aw]
  simp only [aX] at n
  have d : S8 l := fun x o => i x (by simp [o])
  by_cases c : e = 0
  ·have h : mP a s = true := (pk a s).2 (he.1 c)
   rw [aF (by simp [c]), aF (by simp [c]), qO (by simp; omega) (by simp; omega)]
   simp only [aw]
   have := te a hk g l (acc ++ [s.eY]) d (by simp; omega)
   simpa [List.filter_cons, h] using this
  ·have h : mP a s = false := by rw [← eF, pk, ← he]; exact c
   rw [aG (by simp [c]), aG (by simp [c])]
   have := te a hk g l acc d (by omega)
   simpa [List.filter_cons, h] using this
theorem vj (a : List Key) (hk : K8 a) (h : js [] a = 0) (l : List fA) (i : S8 l) (j : l.length ≤ 10000000) : ∃ G, iJ (some ⟨iE a⟩) l = some G ∧ pC a l = some G ∧ rD ((l.filter (mP a)).map (·.eY)) G := by
 obtain ⟨d, g⟩ := te a hk h l [] i (by simp; omega)
 have c : ((l.filter (mP a)).map (·.eY)).length ≤ 1000000000 := by
  rw [cK]; have := List.length_filter_le (mP a) l; omega
 rw [cn] at d g
 obtain ⟨G, g1, g2⟩ := Be _ c
 obtain ⟨G', g3, g4⟩ := AE _ c
 have := g4.unique tf g2
 subst this
 exact ⟨G', d.trans g1, g.trans g3, g2⟩
theorem yZ (s : fA) (a : B8 s.Tag) : nf s s = some true := by
 unfold nf
 rw [aF (qq.2 rfl), xL a a]; simp
theorem tO : ∀ (l : List fA) (x : Int), (∀ s ∈ l, qS s.eY ≤ 1000000000) → ∃ r, kP l x = some r
 | [], x, _ => ⟨x, rfl⟩
 | s :: l, x, h => by
  rw [kP]
  obtain ⟨r, e⟩ := zA [s.eY] (by simp) (fun c a => by rw [bc] at a; rw [a]; exact h s (by simp))
  rw [e, aw]
  exact tO l _ (fun s d => h s (by simp [d]))
theorem tB (l : List fA) (h : ∀ s ∈ l, qS s.eY ≤ 1000000000) : ∀ (a : List Key) (x : Int), ∃ r, jC l a x = some r
 | [], x => by
  rw [jC]
  obtain ⟨r, e⟩ := tO l x h
  rw [e]; exact ⟨r, rfl⟩
 | k :: a, x => by rw [jC]; exact tB l h a _
theorem AN (a : List Key) (l : List fA) (h : ∀ s ∈ l, qS s.eY ≤ 1000000000) : ∃ r, pe a l = some r := tB l h a 0
def wr {α : Type} : Int ⊕ (α × List Int) → Int ⊕ (α × fp)
 | .inl e => .inl e
 | .inr (v, l) => .inr (v, ⟨l, false⟩)
def iC {α β : Type} (x : Int ⊕ (α × List Int)) (f : α → List Int → Int ⊕ (β × List Int)) : Int ⊕ (β × List Int) :=
 match x with
 | .inl e => .inl e
 | .inr (v, l) => f v l
def mm (a : Int) : Nat → Int → List Int → Int ⊕ (Int × List Int)
 | i, n, [] => .inl (if i = 9 then 11 else 10)
 | i, n, c :: l => if i = 9 then .inl 11 else if c = 0 ∧ 0 < i then .inl 11 else
   if c < 128 then (if n + c % 128 * 128 ^ i > a then .inl 12 else .inr (n + c % 128 * 128 ^ i, l)) else mm a (i + 1) (n + c % 128 * 128 ^ i) l
def pK : Int := 9223372036854775807
def pq (a : Int) (l : List Int) : Int ⊕ (List Int × List Int) :=
 iC (mm pK 0 0 l) fun n c => if n > a then .inl 12 else if n > (c.length : Int) then .inl 10 else .inr (c.take n.toNat, c.drop n.toNat)
def np (l : List Int) : Int ⊕ (ByteArray × List Int) := iC (pq 16 l) fun t a => if gh (jJ t) = true then .inr (jJ t, a) else .inl 30
def mn (l : List Int) : Int ⊕ (fE × List Int) := iC (np l) fun a c => iC (np c) fun b d => .inr (⟨a, b⟩, d)
def qy (k : Int) (h : fE) (l : List Int) : Int ⊕ (eY × List Int) :=
 if k = 1 then iC (np l) fun w a => .inr (⟨k, h, w, zR, zR, zS⟩, a)
 else if k = 2 then iC (mn l) fun b a => .inr (⟨k, h, zS, b, zR, zS⟩, a)
 else if k = 3 then iC (mn l) fun b a => iC (np a) fun w d => .inr (⟨k, h, zS, b, zR, w⟩, d)
 else iC (mn l) fun b a => iC (mn a) fun c d => .inr (⟨k, h, zS, b, c, zS⟩, d)
def qV (l : List Int) : Int ⊕ (eY × List Int) :=
 iC (mm pK 0 0 l) fun k a => if k < 1 ∨ 4 < k then .inl 11 else iC (mn a) fun h d => iC (qy k h d) fun c g => if fR c = true then .inr (c, g) else .inl 11
def wR (l : List Int) : Int ⊕ (fA × List Int) :=
 iC (qV l) fun c a => iC (pq 8 a) fun t d => if (t.length : Int) = 8 then .inr (⟨c, t⟩, d) else .inl 11
theorem nt (l : List Int) (e : Int) (he : e ≠ 0) : fT ⟨l, false⟩ e = some (.inl e) := by
 unfold fT; simp [he]
theorem yy (l : List Int) (i : Int) (k : 0 ≤ i) : kw ⟨l, false⟩ i = some (match l with
  | [] => .inl (if i = 9 then 11 else 10)
  | c :: t => if i = 9 then .inl 11 else if c = 0 ∧ 0 < i then .inl 11 else .inr (c, ⟨t, false⟩)) := by
 unfold kw
 rw [nt _ 11 (by decide), nt _ 10 (by decide)]
 by_cases a : i = 9
 ·subst a; cases l <;> simp
 ·cases l with
  | nil => simp [a]
  | cons c t =>
   have h1 : ((c :: t).length : Int) ≠ 0 := by simp; omega
   have d : kH (decide (0 ≤ (1 : Int)) && decide ((1 : Int) ≤ ((c :: t).length : Int))) = some () := oP (by decide) (by simp; omega)
   have g : jz (c :: t) 0 = some c := lT [] c t 0 rfl
   simp only [beq_iff_eq, a, h1, aN, aw, d, g]
   have h : kH (decide (1 ≤ (t.length : Int) + 1)) = some () := by simp [kH]; omega
   by_cases j : c = 0 <;> by_cases hp : 0 < i <;> simp [j, hp, nt, h]
theorem Cm (c : Int) (a : 0 ≤ c) (h1 : c < 256) : IntKind.u8.wrap (BitVec.ofInt (IntKind.bits .u8) c &&& BitVec.ofInt (IntKind.bits .u8) 127).toNat = c % 128 := by
 obtain ⟨k, rfl⟩ : ∃ k : Nat, c = k := ⟨c.toNat, by omega⟩
 have : ∀ k : Nat, k < 256 → IntKind.u8.wrap (BitVec.ofInt (IntKind.bits .u8) (k : Int) &&& BitVec.ofInt (IntKind.bits .u8) 127).toNat = (k : Int) % 128 := by decide +kernel
 exact this k (by omega)
theorem BM (n m j : Nat) (c : n < 2 ^ j) (hm : m * 2 ^ j + n < 18446744073709551616) : (BitVec.ofInt 64 (n : Int) ||| BitVec.ofInt 64 ((m * 2 ^ j : Nat) : Int)).toNat = n + m * 2 ^ j := by
 have h1 : n < 2 ^ 64 := by omega
 have a : m * 2 ^ j < 2 ^ 64 := by omega
 rw [BitVec.toNat_or, BitVec.ofInt_natCast, BitVec.ofInt_natCast, BitVec.toNat_ofNat, BitVec.toNat_ofNat, Nat.mod_eq_of_lt h1, Nat.mod_eq_of_lt a, Nat.or_comm, ← Nat.shiftLeft_eq, ← Nat.shiftLeft_add_eq_or_of_lt c, eG]
theorem B3 (n c : Int) (i : Nat) (u : i ≤ 8) (t : 0 ≤ n ∧ n < 128 ^ i) (h : 0 ≤ c ∧ c < 256) : wi0 .i64 (BitVec.ofInt (IntKind.bits .i64) n ||| BitVec.ofInt (IntKind.bits .i64) (wi0 .i64 (wi0 .i64 (IntKind.u8.wrap (BitVec.ofInt (IntKind.bits .u8) c &&& BitVec.ofInt (IntKind.bits .u8) 127).toNat) * 2 ^ min (Int.toNat (wi0 .i64 (7 * (i : Int)))) (IntKind.bits .i64)))).toNat = n + c % 128 * 128 ^ i := by
 rw [Cm c h.1 h.2, gu (x := c % 128) (by omega) (by omega), gu (x := 7 * (i : Int)) (by omega) (by omega)]
 have j : min (Int.toNat (7 * (i : Int))) (IntKind.bits .i64) = 7 * i := by simp only [IntKind.bits]; omega
 rw [j]
 obtain ⟨a, rfl⟩ : ∃ a : Nat, n = a := ⟨n.toNat, by omega⟩
 obtain ⟨b, q⟩ : ∃ b : Nat, c % 128 = b := ⟨(c % 128).toNat, by omega⟩
 rw [q]
 have s : b < 128 := by omega
 have g : (128 : Nat) ^ i = 2 ^ (7 * i) := by rw [Nat.pow_mul]
 have k : (128 : Int) ^ i = ((2 ^ (7 * i) : Nat) : Int) := by rw [← g]; simp
 have p : a < 2 ^ (7 * i) := by rw [← g]; have := t.2; exact_mod_cast this
 have d : 2 ^ (7 * i) ≤ 2 ^ 56 := Nat.pow_le_pow_right (by decide) (by omega)
 have hm : b * 2 ^ (7 * i) + a < 9223372036854775808 := by
  have : (b + 1) * 2 ^ (7 * i) ≤ 128 * 2 ^ 56 := Nat.mul_le_mul (by omega) d
  rw [bF] at this; omega
 have o : ((b : Int) * 2 ^ (7 * i)) = ((b * 2 ^ (7 * i) : Nat) : Int) := by simp
 rw [o, gu (x := ((b * 2 ^ (7 * i) : Nat) : Int)) (by omega) (by omega)]
 show wi0 .i64 ((BitVec.ofInt 64 (a : Int) ||| BitVec.ofInt 64 ((b * 2 ^ (7 * i) : Nat) : Int)).toNat : Int) = _
 rw [BM a b (7 * i) p (by omega), gu (by omega) (by omega), k]
 simp
theorem yq (n c : Int) (i : Nat) (a : 0 ≤ n ∧ n < 128 ^ i) : 0 ≤ n + c % 128 * 128 ^ i ∧ n + c % 128 * 128 ^ i < 128 ^ (i + 1) := by
 have h1 : 0 ≤ c % 128 ∧ c % 128 < 128 := ⟨by omega, by omega⟩
 have hp : (0 : Int) < 128 ^ i := Int.pow_pos (by decide)
 constructor
 ·have := Int.mul_nonneg h1.1 (Int.le_of_lt hp); omega
 ·rw [Int.pow_succ]
  have : c % 128 * 128 ^ i ≤ 127 * 128 ^ i := Int.mul_le_mul_of_nonneg_right (by omega) (Int.le_of_lt hp)
  omega
theorem Am (a : Int) : ∀ (l : List Int) (i : Nat) (n : Int) (k : Nat), B8 l → i ≤ 9 → 0 ≤ n ∧ n < 128 ^ i → l.length < k → gB a k n i l false = some (wr (mm a i n l))
 | [], i, n, k + 1, _, w, _, _ => by
  rw [gB, yy _ _ (by omega)]
  by_cases g : i = 9 <;> simp [mm, wr, g] <;> omega
 | c :: l, i, n, k + 1, t, w, u, hk => by
  have v := t c (List.mem_cons_self ..)
  rw [gB, yy _ _ (by omega)]
  unfold mm
  by_cases g : i = 9
  ·subst g; rfl
  ·have o : ¬ ((i : Int) = 9) := by omega
   have s := B3 n c i (by omega) u v
   have hp := yq n c i u
   have p : kH (decide (0 ≤ wi0 .i64 (7 * (i : Int)))) = some () := by rw [gu (by omega) (by omega)]; simp [kH]; omega
   have q : wi0 .i64 ((i : Int) + 1) = ((i + 1 : Nat) : Int) := by rw [gu (by omega) (by omega)]; simp
   simp only [g, o, aN, aw]
   by_cases j : c = 0 ∧ 0 < i
   ·have : c = 0 ∧ 0 < (i : Int) := ⟨j.1, by omega⟩
    rw [aF this, aF j]; rfl
   ·have : ¬ (c = 0 ∧ 0 < (i : Int)) := fun h => j ⟨h.1, by omega⟩
    rw [aG this, aG j]
    simp only [s, p, q, aw]
    by_cases d : c < 128
    ·simp only [d, dr, aV]
     by_cases hm : n + c % 128 * 128 ^ i > a
     ·simp only [hm, dr, aV, nt _ 12 (by decide), aw, wr]
     ·simp only [hm, dF, aN, ay, aw, wr]
    ·simp only [d, dF, aN, ay]
     exact Am a l (i + 1) _ k (fun x y => t x (cA _ y)) (by omega) hp (by simp only [aX] at hk; omega)
theorem B8.tail {c : Int} {l : List Int} (h : B8 (c :: l)) : B8 l := fun x a => h x (cA _ a)
theorem B8.drop {l : List Int} (h : B8 l) (n : Nat) : B8 (l.drop n) := fun x a => h x (List.mem_of_mem_drop a)
theorem B8.take {l : List Int} (h : B8 l) (n : Nat) : B8 (l.take n) := fun x a => h x (List.mem_of_mem_take a)
def pD {α : Type} (l : List Int) (x : Int ⊕ (α × List Int)) : Prop := ∀ v a, x = .inr (v, a) → ∃ k, a = l.drop k
theorem pD.qD {α β : Type} {l : List Int} {x : Int ⊕ (α × List Int)} {f : α → List Int → Int ⊕ (β × List Int)} (h : pD l x) (c : ∀ v a, pD a (f v a)) : pD l (iC x f) := fun v a e => by
 cases x with
 | inl q => cases e
 | inr q =>
  obtain ⟨k, hk⟩ := h q.1 q.2 rfl
  obtain ⟨j, d⟩ := c q.1 q.2 v a e
  exact ⟨k + j, by rw [d, hk, List.drop_drop]⟩
theorem oV (a : Int) : ∀ (l : List Int) (i : Nat) (n : Int), pD l (mm a i n l)
 | [], i, n => fun v d e => by cases e
 | c :: l, i, n => fun v d e => by
  unfold mm at e
  split at e
  ·cases e
  split at e
  ·cases e
  split at e
  ·split at e
   ·cases e
   ·cases e; exact ⟨1, rfl⟩
  ·obtain ⟨k, hk⟩ := oV a l (i + 1) _ v d e
   exact ⟨k + 1, by rw [hk, List.drop_succ_cons]⟩
theorem xC (a : Int) (l : List Int) : pD l (pq a l) := (oV _ _ _ _).qD fun n c v d e => by
 split at e
 ·cases e
 split at e
 ·cases e
 ·cases e; exact ⟨_, rfl⟩
theorem nU (l : List Int) : pD l (np l) := (xC _ _).qD fun t a v c e => by
 split at e
 ·cases e; exact ⟨0, rfl⟩
 ·cases e
theorem lz (l : List Int) : pD l (mn l) := (nU _).qD fun a c => (nU _).qD fun b d v g e => by cases e; exact ⟨0, rfl⟩
theorem wK (k : Int) (h : fE) (l : List Int) : pD l (qy k h l) := by
 unfold qy
 split
 ·exact (nU _).qD fun a c v d e => by cases e; exact ⟨0, rfl⟩
 split
 ·exact (lz _).qD fun a c v d e => by cases e; exact ⟨0, rfl⟩
 split
 ·exact (lz _).qD fun a c => (nU _).qD fun b g v d e => by cases e; exact ⟨0, rfl⟩
 ·exact (lz _).qD fun a c => (lz _).qD fun b g v d e => by cases e; exact ⟨0, rfl⟩
theorem xy (l : List Int) : pD l (qV l) := (oV _ _ _ _).qD fun k d => by
 split
 ·intro v a e; cases e
 ·exact (lz _).qD fun h g => (wK _ _ _).qD fun c i v j e => by
   split at e
   ·cases e; exact ⟨0, rfl⟩
   ·cases e
theorem Bs (l : List Int) (a : Int) (c : B8 l) (d : l.length ≤ 1000000) : iS ⟨l, false⟩ a = some (wr (mm a 0 0 l)) := by
 unfold iS km
 simp only [aw, ay, aN]
 exact Am a l 0 0 ib c (by omega) (by decide) (by rw [mD]; omega)
theorem wZ (a : Int) : ∀ (l : List Int) (i : Nat) (n v : Int) (d : List Int), 0 ≤ n ∧ n < 128 ^ i → mm a i n l = .inr (v, d) → 0 ≤ v ∧ v ≤ a
 | [], i, n, v, d, _, e => by cases e
 | c :: l, i, n, v, d, g, e => by
  have hp := yq n c i g
  unfold mm at e
  split at e
  ·cases e
  split at e
  ·cases e
  split at e
  ·split at e
   ·cases e
   ·cases e; exact ⟨hp.1, by omega⟩
  ·exact wZ a l (i + 1) _ v d hp e
theorem zY (l : List Int) (a : Int) (t : B8 l) (u : l.length ≤ 1000000) : jm ⟨l, false⟩ a = some (wr (pq a l)) := by
 unfold jm km
 simp only [aw, ay, aN]
 rw [Bs l _ t u]
 unfold pq
 have g := oV pK l 0 0
 have d := wZ pK l 0 0
 have j : mm 9223372036854775807 0 0 l = mm pK 0 0 l := rfl
 rw [j]
 cases i : mm pK 0 0 l with
 | inl e => simp [wr, iC]
 | inr q =>
  obtain ⟨n, c⟩ := q
  obtain ⟨k, hk⟩ := g n c i
  have o := (d n c ⟨by decide, by decide⟩ i).1
  have v : c.length ≤ 1000000 := by rw [hk, dt]; omega
  simp only [aw, wr, iC]
  by_cases h1 : n > a
  ·simp only [h1, dr, aV, nt _ 12 (by decide), aw, wr]
  ·by_cases h : n > (c.length : Int)
   ·simp only [h1, h, dr, dF, aV, aN, ay, nt _ 10 (by decide), aw, wr]
   ·have p : kH (decide (0 ≤ n) && decide (n ≤ (c.length : Int))) = some () := oP o (by omega)
    have s : gV (c.take n.toNat) = some (c.take n.toNat) := tC (by rw [bJ]; omega)
    simp only [h1, h, p, s, dF, aN, ay, aw, wr]
theorem B8.part {α : Type} {l a : List Int} {x : Int ⊕ (α × List Int)} {v : α} (h : B8 l) (c : l.length ≤ 1000000) (hp : pD l x) (e : x = .inr (v, a)) : B8 a ∧ a.length ≤ 1000000 := by
 obtain ⟨k, hk⟩ := hp v a e
 rw [hk]
 exact ⟨h.drop k, by rw [dt]; omega⟩
theorem ve (l : List Int) (a : B8 l) (c : l.length ≤ 1000000) : kT ⟨l, false⟩ = some (wr (np l)) := by
 unfold kT np
 rw [zY l _ a c]
 cases g : pq 16 l with
 | inl e => rfl
 | inr q =>
  obtain ⟨t, h⟩ := q
  simp only [aw, wr, iC, nL, lG]
  cases d : gh (jJ t) <;> simp [wr, nt]
theorem tP (l : List Int) (c : B8 l) (d : l.length ≤ 1000000) : jV ⟨l, false⟩ = some (wr (mn l)) := by
 unfold jV mn
 rw [ve l c d]
 cases i : np l with
 | inl e => rfl
 | inr q =>
  obtain ⟨a, g⟩ := q
  obtain ⟨h1, h⟩ := c.part d (nU l) i
  simp only [aw, wr, iC]
  rw [ve g h1 h]
  cases j : np g with
  | inl e => rfl
  | inr q => obtain ⟨b, k⟩ := q; rfl
theorem Cc (l : List Int) (y : B8 l) (z : l.length ≤ 1000000) : nY ⟨l, false⟩ = some (wr (qV l)) := by
 unfold nY qV
 rw [Bs l _ y z]
 have E : mm 9223372036854775807 0 0 l = mm pK 0 0 l := rfl
 rw [E]
 cases I : mm pK 0 0 l with
 | inl e => rfl
 | inr q =>
  obtain ⟨k, v⟩ := q
  obtain ⟨h1, x⟩ := y.part z (oV pK l 0 0) I
  simp only [aw, wr, iC]
  by_cases hk : k < 1 ∨ 4 < k
  ·have s : (if decide (k < 1) = true then some true else some (decide (k > 4)) : Option Bool) = some true := by
    by_cases h : k < 1 <;> simp [h]; omega
   rw [s, aF hk]
   simp [nt, wr]
  ·have s : (if decide (k < 1) = true then some true else some (decide (k > 4)) : Option Bool) = some false := by
    rw [aG (by simp; omega)]; simp; omega
   rw [s, aG hk]
   simp only [aw, aN, ay]
   rw [tP v h1 x]
   cases G : mn v with
   | inl e => rfl
   | inr q =>
    obtain ⟨h, d⟩ := q
    obtain ⟨i, j⟩ := h1.part x (lz v) G
    simp only [aw, wr, iC]
    have F : ∀ {A : Type} (K : eY → List Int → Bool → Option A) (X : Int → Option A), True := fun _ _ => trivial
    have fin : ∀ (c : eY) (a : List Int), ((jh c).bind fun o => if (!o) = true then (fT ⟨a, false⟩ 11).bind fun p => match p with | .inl n => some (Sum.inl n) | .inr D => some (Sum.inr ((⟨0, ⟨zS, zS⟩, zS, ⟨zS, zS⟩, ⟨zS, zS⟩, zS⟩ : eY), (⟨a, false⟩ : fp))) else some (Sum.inr (c, (⟨a, false⟩ : fp)))) = some (wr (if fR c = true then .inr (c, a) else .inl 11)) := fun c a => by
     rw [lB]
     cases fR c <;> simp [nt, wr]
    unfold qy
    by_cases J : k = 1
    ·subst J
     simp only [bu, aV]
     rw [ve d i j]
     cases np d with
     | inl e => rfl
     | inr q => obtain ⟨w, a⟩ := q; exact fin _ _
    ·by_cases k2 : k = 2
     ·subst k2
      simp only [Int.reduceBEq, Int.reduceEq, aN, aV, ay]
      rw [tP d i j]
      cases mn d with
      | inl e => rfl
      | inr q => obtain ⟨w, a⟩ := q; exact fin _ _
     ·by_cases L : k = 3
      ·subst L
       simp only [Int.reduceBEq, Int.reduceEq, aN, aV, ay]
       rw [tP d i j]
       cases g : mn d with
       | inl e => rfl
       | inr q =>
        obtain ⟨w, a⟩ := q
        obtain ⟨t, u⟩ := i.part j (lz d) g
        simp only [aw, wr, iC]
        rw [ve a t u]
        cases np a with
        | inl e => rfl
        | inr q => obtain ⟨P, O⟩ := q; exact fin _ _
      ·have M : k = 4 := by omega
       subst M
       simp only [Int.reduceBEq, Int.reduceEq, aN, aV, ay]
       rw [tP d i j]
       cases g : mn d with
       | inl e => rfl
       | inr q =>
        obtain ⟨w, a⟩ := q
        obtain ⟨t, u⟩ := i.part j (lz d) g
        simp only [aw, wr, iC]
        rw [tP a t u]
        cases mn a with
        | inl e => rfl
        | inr q => obtain ⟨P, O⟩ := q; exact fin _ _
theorem Cz (l : List Int) (a : B8 l) (d : l.length ≤ 1000000) : mT ⟨l, false⟩ = some (wr (wR l)) := by
 unfold mT wR
 rw [Cc l a d]
 cases j : qV l with
 | inl e => rfl
 | inr q =>
  obtain ⟨c, g⟩ := q
  obtain ⟨h1, h⟩ := a.part d (xy l) j
  simp only [aw, wr, iC]
  rw [zY g _ h1 h]
  cases k : pq 8 g with
  | inl e => rfl
  | inr q =>
   obtain ⟨t, n⟩ := q
   simp only [aw, wr, iC]
   by_cases i : (t.length : Int) = 8 <;> simp [i, nt, wr]
def yt (l : List Int) : Int × fA := match wR l with
 | .inl e => (e, Ad)
 | .inr (s, a) => (if a.length > 0 then 13 else 0, s)
theorem zr (l : List Int) (c : B8 l) (a : l.length ≤ 1000000) : my l Ad = some (yt l) := by
 unfold my nK yt
 rw [tC a, aw, Cz l c a]
 cases wR l with
 | inl e => rfl
 | inr q => obtain ⟨s, d⟩ := q; rfl
theorem yK (l : List Int) (a : B8 l) (c : l.length ≤ 1000000) : kZ l Ad = some (yt l) := zr l a c
theorem vG (a k : Int) (l : List Int) (c : 0 ≤ k) (h1 : k < 128) (hm : k ≤ a) : mm a 0 0 (k :: l) = .inr (k, l) := by
 unfold mm
 have e : (0 : Int) + k % 128 * 128 ^ 0 = k := by simp; omega
 rw [e, aG (by decide), aG (by simp), aF h1, aG (by omega)]
theorem vK (a : Int) (t l : List Int) (h : t.length < 128) (hm : (t.length : Int) ≤ a) : pq a ((t.length : Int) :: (t ++ l)) = .inr (t, l) := by
 unfold pq
 rw [vG _ _ _ (by omega) (by omega) (by unfold pK; omega)]
 simp only [iC]
 rw [aG (by omega), aG (by simp; omega)]
 simp
theorem pV {s : ByteArray} (h : gh s = true) (l : List Int) : np (lA s ++ l) = .inr (s, l) := by
 have h1 := gI h
 unfold np lA
 rw [bK, ← gL, vK _ _ _ (by rw [gL]; omega) (by rw [gL]; omega)]
 simp only [iC, po, h, aV]
theorem oS {r : fE} (h : fX r = true) (l : List Int) : mn (iT r ++ l) = .inr (r, l) := by
 simp only [fX, bd] at h
 unfold mn iT
 rw [aW, pV h.1]
 simp only [iC]
 rw [pV h.2]
theorem yr {c : eY} (h : fR c = true) (l : List Int) : qV (fV c ++ l) = .inr (c, l) := by
 have a := iQ h
 have j : 1 ≤ c.Kind ∧ c.Kind ≤ 4 := by rcases a with g | g | g | g <;> rw [g.1] <;> decide
 have d : qy c.Kind c.Head (mL c ++ l) = .inr (c, l) := by
  obtain ⟨k, n, i, b, c2, o⟩ := c
  unfold qy mL
  rcases a with g | g | g | g
  ·obtain ⟨rfl, g1, rfl, rfl, rfl⟩ := g
   simp only [aV]
   rw [pV g1]; rfl
  ·obtain ⟨rfl, g1, rfl, rfl, rfl⟩ := g
   simp only [Int.reduceEq, aN, aV]
   rw [oS g1]; rfl
  ·obtain ⟨rfl, g1, g2, g3, rfl, rfl⟩ := g
   simp only [Int.reduceEq, aN, aV]
   rw [aW, oS g1]
   simp only [iC]
   rw [pV g2]
  ·obtain ⟨rfl, g1, g2, g3, rfl, rfl⟩ := g
   simp only [Int.reduceEq, aN, aV]
   rw [aW, oS g1]
   simp only [iC]
   rw [oS g2]
 unfold qV fV
 rw [bK, vG _ _ _ (by omega) (by omega) (by unfold pK; omega)]
 simp only [iC]
 rw [aG (by omega), aW, oS (nv h)]
 simp only [iC]
 rw [d]
 simp only [iC, h, aV]
theorem AG {c : eY} (h : fR c = true) {t : List Int} (a : t.length = 8) (l : List Int) : wR (fV c ++ ((8 : Int) :: t) ++ l) = .inr (⟨c, t⟩, l) := by
 unfold wR
 rw [aW, yr h]
 simp only [iC]
 have := vK 8 t l (by omega) (by omega)
 rw [a] at this
 rw [bK, show ((8 : Int) :: (t ++ l)) = (((8 : Nat) : Int) :: (t ++ l)) from rfl, this]
 simp [iC, a]
theorem AS {c : eY} (h : fR c = true) : B8 (fV c) := (Bf h).tail
theorem Bj (s : fA) : nR [] s = some (if fR s.eY = true ∧ s.Tag.length = 8 then (true, fV s.eY ++ ((8 : Int) :: s.Tag)) else (false, [])) := by
 unfold nR
 rw [lB]
 simp only [aw]
 cases c : fR s.eY
 ·simp
 simp only [bB, ay, aN, aw, true_and]
 by_cases a : s.Tag.length = 8
 ·have d := pY c
  rw [aG (by simp [a]), yM _ c, aF a]
  simp only [aw]
  unfold nH
  rw [qY (by simp; omega)]
  simp only [aw, aV, cn]
  unfold kp
  rw [aG (by simp [a]), a, rX (by decide) (by decide) (by omega)]
  simp only [aw]
  rw [qY (by simp; omega)]
  simp
 ·rw [aG a, aF]
  simp; omega
theorem zj {l : List Int} (h : l.length ≤ 1000000) : jD l = some l := by
 unfold jD; rw [tC h]; rfl
theorem AP {c : eY} (h : fR c = true) {t : List Int} (a : t.length = 8) : yt (fV c ++ ((8 : Int) :: t)) = (0, ⟨c, t⟩) := by
 unfold yt
 have := AG h a []
 rw [cq] at this
 rw [this]; rfl
theorem py (k b : List Int) : (jQ k b).length = 8 := rfl
theorem zw {l G : List eY} {c : eY} (h : rD l G) (d : ∀ x, x ∈ l ↔ x = c) (a : fR c = true) : G = [c] :=
 nl.unique tf h ⟨by simp, fun x => by
  rw [bc, d]
  exact ⟨fun e => ⟨e, e ▸ a⟩, fun e => e.1⟩⟩
theorem yD {l G : List eY} (h : rD l G) (a : l = []) : G = [] := by
 subst a
 exact List.eq_nil_iff_forall_not_mem.2 (fun x c => by have := ((h.2 x).1 c).1; cases this)
def pL : List Key := [⟨⟨#[97]⟩, [107]⟩, ⟨⟨#[98]⟩, [108]⟩]
def Ak : List Key := [⟨⟨#[97]⟩, [109]⟩]
def kQ : eY := ⟨1, ⟨⟨#[97]⟩, ⟨#[114]⟩⟩, ⟨#[100]⟩, zR, zR, zS⟩
theorem yI : js [] pL = 0 := by decide +kernel
theorem Cj : js [] Ak = 0 := by decide +kernel
theorem Ce : K8 pL := fun k hk => by
 simp only [pL, aC, bk, cI] at hk
 rcases hk with rfl | rfl <;> intro x a <;> obtain rfl := bc.1 a <;> decide
theorem vy : fR kQ = true := by decide +kernel
theorem Ba : Mk pL kQ [107] := ⟨yI, vy, by decide +kernel⟩
theorem CA : Mk Ak kQ [109] := ⟨Cj, vy, by decide +kernel⟩
theorem BU : jQ [109] (fV kQ) ≠ jQ [107] (fV kQ) := by decide +kernel
theorem AF {g : List Key} {c : eY} {k t : List Int} (hm : Mk g c k) (d : B8 t) : nk k (fV c) t = some (decide (jQ k (fV c) = t)) := by
 unfold nk
 have a : jK k = some true := by
  unfold jK
  have := hm.len
  rw [cW (show (k.length : Int) ≥ 1 by omega), cW (show (k.length : Int) ≤ 32 by omega)]; rfl
 rw [a]
 simp only [aw, aV, st _ hm.len, nA]
 rw [xL (oE _ _) d]
theorem yJ {a : List Key} {c : eY} {k t : List Int} (hm : Mk a c k) (d : B8 t) (h : jQ k (fV c) ≠ t) : gd (some ⟨iE a⟩) ⟨c, t⟩ = some 20 := by
 unfold gd
 rw [Ap]
 simp only [aw, hm.rt, aV, hm.lk]
 rw [aF (by rfl), yM _ hm.rt, aw, AF hm d]
 simp [h]
theorem yF (a : List Key) (c : (a.map (·.fu)).Nodup) (d : ∀ k ∈ a, k.fu.size ≤ 16) (g : a.length ≤ 2000000) : gH (some ⟨iE a⟩) = some (iF (a.map (·.fu))) := by
 unfold gH
 have e : (iE a).map (·.1) = a.map (·.fu) := by unfold iE; rw [cg]; rfl
 have hk : oF (iE a) = some (iF (a.map (·.fu))) := by
  unfold oF
  rw [aF ⟨by rw [e]; exact c, fun p hp => by
   obtain ⟨k, hk, rfl⟩ := aS.1 hp
   have := d k hk
   show k.fu.size ≤ maxLen
   unfold maxLen; omega, by unfold iE; rw [cK]; omega⟩, e]
 simp only [Option.isNone_some, ay, aN, aw]
 unfold ia
 rw [hk]; rfl
theorem AQ : lo = some true := by
 unfold lo
 have o := sc pL
 rw [aF yI] at o
 have p := sc [⟨⟨#[97]⟩, []⟩]
 rw [show js [] [(⟨⟨#[97]⟩, []⟩ : Key)] = 21 by decide +kernel] at p
 have t := sc Ak
 rw [aF Cj] at t
 obtain ⟨q, es, c⟩ := AK pL yI kQ
 obtain ⟨n, k, hm, g⟩ : q.2 = 0 ∧ ∃ k, Mk pL kQ k ∧ q.1 = ⟨kQ, jQ k (fV kQ)⟩ := c.resolve_left (fun h => h.2 _ Ba)
 obtain rfl := hm.unique Ba
 obtain ⟨J, K⟩ := q
 simp only at n g
 subst n g
 have u := Bj ⟨kQ, jQ [107] (fV kQ)⟩
 rw [aF ⟨vy, py _ _⟩] at u
 have I := pY vy
 have hlen : (fV kQ ++ ((8 : Int) :: jQ [107] (fV kQ))).length ≤ 1000000 := by rw [aJ, aX, py]; omega
 have i : B8 (fV kQ ++ ((8 : Int) :: jQ [107] (fV kQ))) := (AS vy).Aa (fun x d => by
  rcases aC.1 d with rfl | d
  ·omega
  ·exact oE _ _ x d)
 have v := yK _ i hlen
 rw [AP vy (py _ _)] at v
 have D := zj hlen
 have a : tK pL ⟨kQ, jQ [107] (fV kQ)⟩ := ⟨_, Ba, rfl⟩
 obtain ⟨y, c1, _, w⟩ := sY pL Ce yI ⟨kQ, jQ [107] (fV kQ)⟩ (oE _ _)
 have j : y = 0 := w.2 a
 subst j
 have c2 := yJ CA (oE _ _) BU
 have A := yF pL (by decide +kernel) (by decide +kernel) (by decide)
 obtain ⟨G, g1, _, g3⟩ := vj pL Ce yI [⟨kQ, jQ [107] (fV kQ)⟩, ⟨kQ, []⟩] (fun s c => by
  rcases aC.1 c with rfl | c
  ·exact oE _ _
  ·obtain rfl := bc.1 c; intro x d; cases d) (by simp)
 have z : G = [kQ] := zw g3 (fun x => by
  have h1 : mP pL ⟨kQ, jQ [107] (fV kQ)⟩ = true := (pk _ _).2 a
  have g : mP pL ⟨kQ, []⟩ = false := by
   rw [← eF, pk]
   rintro ⟨k, _, hk⟩
   have := aI List.length hk
   cases this
  simp [h1, g]) vy
 subst z
 have E := yZ ⟨kQ, jQ [107] (fV kQ)⟩ (oE _ _)
 have len8 : ((jQ [107] (fV kQ)).length : Int) = 8 := by rw [py]; rfl
 have len2 : ((iF (pL.map (·.fu))).length : Int) = 2 := by
  unfold iF
  rw [dK]; rfl
 generalize F : jQ [107] (fV kQ) = T at *
 rw [show ([(⟨(⟨#[97]⟩ : ByteArray), [107]⟩ : Key), (⟨(⟨#[98]⟩ : ByteArray), [108]⟩ : Key)] : List Key) = pL from rfl, o, aw, p, aw]
 rw [show (⟨1, (⟨(⟨#[97]⟩ : ByteArray), (⟨#[114]⟩ : ByteArray)⟩ : fE), (⟨#[100]⟩ : ByteArray), (⟨zS, zS⟩ : fE), (⟨zS, zS⟩ : fE), zS⟩ : eY) = kQ from rfl, es, aw]
 rw [show ([(⟨(⟨#[97]⟩ : ByteArray), [109]⟩ : Key)] : List Key) = Ak from rfl, t, aw]
 simp only
 rw [u, aw, D, aw]
 rw [show (⟨(⟨0, (⟨zS, zS⟩ : fE), zS, (⟨zS, zS⟩ : fE), (⟨zS, zS⟩ : fE), zS⟩ : eY), []⟩ : fA) = Ad from rfl, v, aw]
 simp only [bu, aV, aw, len8, c1, c2, A, len2, g1, E, aG (by decide : ¬ ((21 : Int) = 0))]
 rfl
theorem tA : ∀ (l : List Key) (seen : List ByteArray), js seen l = 0 → (∀ k ∈ l, gh k.fu = true) ∧ (l.map (·.fu)).Nodup ∧ ∀ k ∈ l, k.fu ∉ seen
 | [], seen, _ => ⟨by simp, by simp, by simp⟩
 | k :: l, seen, h => by
  unfold js at h
  split at h
  ·cases h
  ·rename_i h1
   split at h
   ·cases h
   ·split at h
    ·cases h
    ·rename_i g
     obtain ⟨a, b, c⟩ := tA l _ h
     have i : k.fu ∉ seen := by
      intro hm
      exact g ((vZ gJ _ _).2 hm)
     refine ⟨fun x d => ?_, ?_, fun x d => ?_⟩
     ·rcases aC.1 d with rfl | d
      ·simpa using h1
      ·exact a x d
     ·rw [aR, bZ]
      refine ⟨fun hm => ?_, b⟩
      obtain ⟨y, j, e⟩ := aS.1 hm
      exact c y j (by rw [e]; simp)
     ·rcases aC.1 d with rfl | d
      ·exact i
      ·exact fun hm => c x d (by simp [hm])
theorem AB (a : List Key) (hk : K8 a) (h : js [] a = 0) (c : eY) : ∃ r, iu (some ⟨iE a⟩) c = some r ∧ nV a c = some r ∧ B8 r.1.Tag := by
 unfold iu nV nu
 rw [Ap, kN, tV]
 simp only [aw]
 cases d : fR c
 ·exact ⟨_, rfl, rfl, fun x g => by cases g⟩
 simp only [aV, bB, ay, aN, aw]
 cases i : oX a c.Head.eZ with
 | none => exact ⟨_, rfl, rfl, fun x g => by cases g⟩
 | some k =>
  have hm : Mk a c k := ⟨h, d, i⟩
  have := pY d
  simp only [yM c d, rB _ d, aw, st _ hm.len, wW (hm.b8 hk) (nr d) hm.len (show (fV c).length ≤ 10000 by omega)]
  refine ⟨_, rfl, ?_, oE _ _⟩
  simp only [dG, ay, aN]
  rw [xV (oE _ _) (by rw [py]; decide)]
  rfl
theorem yz (c : List Key) (g : js [] c = 0) (d : c.length ≤ 2000000) : gH (some ⟨iE c⟩) = some (iF (c.map (·.fu))) ∧ nz c = some (iF (c.map (·.fu))) := by
 obtain ⟨a, b, _⟩ := tA c [] g
 refine ⟨yF c b (fun k hk => (gI (a k hk)).2) d, ?_⟩
 have i : ∀ (l : List Key) (acc : List ByteArray), acc.length + l.length ≤ 2000000 → jH l acc = oH (acc ++ l.map (·.fu)) := by
  intro l
  induction l with
  | nil => intro acc _; rw [jH]; simp [vg]
  | cons k l ih =>
   intro acc h
   simp only [aX] at h
   rw [jH, qO (by simp; omega) (by simp; omega), aw, ih _ (by simp; omega)]
   simp
 unfold nz
 rw [i c [] (by simpa using d), cn]
 obtain ⟨s, e, j⟩ := AD (c.map (·.fu)) (by rw [cK]; omega)
 rw [e]
 congr 1
 refine (nl.unique (xO (fun x => gh x = true)) j ⟨xS b, fun x => ?_⟩)
 rw [wG]
 refine ⟨fun h => ⟨h, ?_⟩, fun h => h.1⟩
 obtain ⟨k, hk, rfl⟩ := aS.1 h
 exact a k hk
theorem wm (s : fA) : gd none s = some 1 := rfl
theorem xk : ∀ l : List fA, fZ none l [] = some []
 | [] => by
  obtain ⟨s, e, h⟩ := Be [] (by simp)
  rw [fZ, e, yD h rfl]; rfl
 | s :: l => by
  rw [fZ, wm, aw, aG (by decide)]
  exact xk l
theorem rs (a : List Key) (hk : K8 a) (c : js [] a = 0) (k : a.length ≤ 2000000) (i : Int) (g : List fA) (j : S8 g) (n : g.length ≤ 10000000) : ∀ l : List fA, S8 l → iG (some ⟨iE a⟩, i) a g l = some true
 | [], _ => by
  rw [iG]
  obtain ⟨t, u⟩ := yz a c k
  obtain ⟨G, g1, g2, _⟩ := vj a hk c g j n
  simp only [t, u, g1, g2, aw, B6, BY, aV]
 | s :: l, d => by
  rw [iG]
  obtain ⟨r, o, p, h⟩ := AB a hk c s.eY
  obtain ⟨e, c1, c2, _⟩ := sY a hk c s (d s (by simp))
  simp only [o, p, c1, c2, aw, yZ _ h, dG, ay, aN, bB]
  exact rs a hk c k i g j n l (fun x q => d x (by simp [q]))
theorem uo (j : lo = some true) (c : List Key) (a : List fA) (hk : K8 c) (h : S8 a) (k : c.length ≤ 2000000) (n : a.length ≤ 10000000) (i : ∀ s ∈ a, qS s.eY ≤ 1000000000) : lN c a = some true := by
 unfold lN
 rw [j]
 simp only [aw, bB, ay, aN]
 obtain ⟨r, e⟩ := AN c a i
 rw [e, aw]
 split
 ·rfl
 rw [sc, AT]
 simp only [aw]
 by_cases d : js [] c = 0
 ·rw [aF d]
  simp only [d, dG, ay, aN, aw]
  exact rs c hk d k 0 a h n a h
 ·rw [aG d]
  have g : iJ none a = some [] := xk a
  simp only [dG, ay, aN, aw]
  rw [show (js [] c != 0) = true by simpa using d]
  simp only [aV, bu, ef, aw]
  rw [wm]
  simp only [aw, bu, aV]
  rw [show gH none = some [] from rfl]
  simp only [aw, br, bu, aV, g, Int.ofNat_zero]
end Go.Proofs.YtcafmokjkjcomaaGreat
namespace Go.Proofs.YtcafmokjkjcomaaGreat.Lf
open Go.ChangeShapes Go.WideShapes Go.ChangeAt Go.RowKit
open Go.Proofs.YtcafmokjkjcomaaGreat (Rows.uptoBulk Rows.uptoBulkAll Rows.uptoSmall)
theorem BG {H : Type} (d : DataW H) : 1 ≤ Rows.uptoBulk d := by
 cases d with
 | lit l => cases l <;> simp [Rows.uptoBulk]
 | nil => simp [Rows.uptoBulk]
 | ptr d => simp [Rows.uptoBulk]
 | slice a spare => simp [Rows.uptoBulk]
 | agg parts => simp [Rows.uptoBulk]
 | iface t d => simp [Rows.uptoBulk]
 | map entries => simp [Rows.uptoBulk]
 | held h => simp [Rows.uptoBulk]
def xr {α : Type} (P : Program) (t : TypeId) (enc : α → List Value) (sz : α → Nat) : Prop :=
 ∀ (H : Type) (c : TypeId × Value → H) (W : World) (base : Nat) (sp : Nat → Bool) (d : Bool) (fuel : Nat) (cs : List Value) (x : DataW H × List MemPlace),
  DataW.trod c P W base sp d fuel t cs = some x → ∃ a : α, cs = enc a ∧ sz a ≤ Rows.uptoBulk x.1
theorem xE {P : Program} {t : TypeId} (a : P.underlying t = some .string) : xr P t (fun s : ByteArray => [.string s]) (fun s => s.size) := by
 intro H c W base sp d fuel cs x h
 obtain ⟨s, rfl, rfl, _⟩ := DataW.trod_string a h
 refine ⟨s, rfl, ?_⟩
 have e : s.data.toList.length = s.size := by rw [bL]; rfl
 simp [Rows.uptoBulk, e]
theorem Au {P : Program} {t : TypeId} {k : IntKind} (a : P.underlying t = some (.int k)) : xr P t (fun n : Int => [.int k n]) (fun _ => 0) := by
 intro H c W base sp d fuel cs x h
 obtain ⟨n, rfl, rfl, _⟩ := DataW.trod_int a h
 exact ⟨n, rfl, dl _⟩
theorem AH {α : Type} {n : Nat} {p : Nat → α → Prop} (h : ∀ i, i < n → ∃ x, p i x) : ∃ l : List α, l.length = n ∧ ∀ i x, l[i]? = some x → p i x := by
 induction n with
 | zero => exact ⟨[], rfl, by simp⟩
 | succ n ih =>
  obtain ⟨l, h1, d⟩ := ih fun i c => h i (by omega)
  obtain ⟨x, j⟩ := h n (by omega)
  refine ⟨l ++ [x], by simp [h1], fun i y a => ?_⟩
  by_cases c : i < l.length
  ·rw [List.getElem?_append_left c] at a
   exact d i y a
  ·rw [dj (by omega)] at a
   have : i - l.length = 0 := by
    cases g : i - l.length with
    | zero => rfl
    | succ m => rw [g] at a; simp at a
   rw [this] at a
   have e : i = n := by omega
   simp at a
   subst a; rw [e]; exact j
theorem wi {W : World} {a : Addr} {v : Value} (h : W.cell? a = some v) : ∃ cs T fr, W.heap[a.block]? = some (.cells cs T fr) ∧ a.spot = none ∧ cs[a.off]? = some v := by
 unfold World.cell? at h
 split at h
 ·rename_i c T fr g
  by_cases d : a.spot.isSome
  ·simp [d] at h
  ·simp only [d] at h
   exact ⟨c, T, fr, g, by simpa using d, by simpa using h⟩
 ·cases h
theorem Ex.below {dd : Bool} {W W' : World} (h : Ex dd W W') : Below W.heap.size W W' := ⟨h.os, h.tape, h.output, h.size, h.jZ⟩
theorem rh {H : Type} {n : TypeId × Value → H} {P : Program} (s : laidOutB P = true) {W W' : World} {c : Nat → Bool} :
  ∀ {i : List TypeId} {vs : List Value} {j : List (DataW H)} {g : List MemPlace}, (∀ t ∈ i, P.readableRec t = true ∧ t < P.types.size) →
   DataW.TrodAll n P W 0 (fun _ => true) true i vs j g → (∀ p ∈ g, W.sameAt W' p) → (∀ p ∈ g, c p.block = true) → DataW.TrodAll n P W' 0 c true i vs j g
 | [], _, _, _, _, h, _, _ => by
  obtain ⟨rfl, rfl, rfl⟩ := trodAll_nil h
  exact trodAll_mk0
 | t :: i, _, _, _, k, h, h1, o => by
  obtain ⟨v, vs, d, j, p, q, rfl, rfl, rfl, w, y⟩ := trodAll_cons h
  exact trodAll_cons_mk (WideElems.Trod_stays s (k t (by simp)).1 (k t (by simp)).2 w (fun x a => h1 x (by simp [a])) (fun x a => o x (by simp [a])))
   (rh s (fun u hu => k u (by simp [hu])) y (fun x a => h1 x (by simp [a])) (fun x a => o x (by simp [a])))
theorem xA {H : Type} {enc : TypeId × Value → H} {P : Program} (L : laidOutB P = true) {f : Func} {s : ChangeSpec} {apart fresh handsOn again : Bool} {W W' : World} {args : Array Value} {v : Value} {a gs : List (DataW H)} {before : List MemPlace} (O : ∀ t ∈ f.params.toList, P.readableRec t = true ∧ t < P.types.size) (o : s.vars = []) (y : DataW.Whole enc P f.params.toList s.vars apart W args.toList a gs before) {dd : Bool} (F : Ex dd W W') (c : ∀ (b : Nat) (sp : Nat → Bool) (K : Bool), DataW.TrodAll enc P W' b sp K f.resultTypes.toList (v.resultList f.resultTypes.size) (s.fn H (a ++ gs)).results []) (d : (s.fn H (a ++ gs)).args = a) (h : (s.fn H (a ++ gs)).vars = []) (D : ∀ (j : Nat) (t : TypeId) (r : Value), f.resultTypes[j]? = some t → (v.resultList f.resultTypes.size)[j]? = some r → Value.okWide P W' .any 0 t r) :
  s.post enc P f apart fresh handsOn again W args v W' := by
 have g := y.lt
 have hold : ∀ p ∈ before, (fun b => decide (b < W.heap.size)) p.block = true := fun p hp => by simpa using g p hp
 have A := Ex.below F
 have z := y
 obtain ⟨p, q, I, G, k, Q, M⟩ := y
 rw [o] at G
 obtain ⟨rfl, rfl⟩ := trodVars_none G
 rw [cq] at k
 subst k
 have n : ∀ sp : Nat → Bool, (∀ p ∈ before, sp p.block = true) → DataW.TrodAll enc P W' 0 sp true f.params.toList args.toList (s.fn H (a ++ [])).args before := fun sp E => by
  rw [d]
  exact rh L O I (fun x F => A.same (g x F)) E
 have u : ∀ sp : Nat → Bool, DataW.TrodVars enc P W' sp s.vars (s.fn H (a ++ [])).vars [] := fun sp => by
  rw [h, o]; rfl
 refine ⟨a, [], before, [], before, [], z, c _ _ _, n _ hold, u _, World.keptBut_mono (fun p hp => ⟨hp, ?_⟩) (A.frame (· ∈ before)), fun _ => ?_⟩
 ·exact Or.inr (Or.inl hp)
 ·refine ⟨D, _, _, ([] ++ before) ++ [], ⟨[] ++ before, [], trodAll_append (n _ (fun _ _ => rfl)) (c _ _ _), u _, rfl, ?_, ?_⟩, ?_⟩
  ·intro b off hp
   have i : MemPlace.cell b off ∈ before := by simpa using hp
   rw [World.frozen?_of_block (w := W) (A.block b (g _ i))]
   exact Q b off i
  ·intro J
   simpa using M J
  ·intro p hp _
   simpa using hp
end Go.Proofs.YtcafmokjkjcomaaGreat.Lf
namespace Go.Proofs.YtcafmokjkjcomaaGreat.Lf
open Go.ChangeShapes Go.WideShapes Go.ChangeAt Go.RowKit
open Go.Proofs.YtcafmokjkjcomaaGreat (Rows.uptoBulk Rows.uptoBulkAll Rows.uptoSmall)
def us {α : Type} (P : Program) (t : TypeId) (R : jS α) (sz : α → Nat) : Prop :=
 ∀ (H : Type) (c : TypeId × Value → H) (W : World) (base : Nat) (sp : Nat → Bool) (d : Bool) (fuel : Nat) (cs : List Value) (x : DataW H × List MemPlace),
  DataW.trod c P W base sp d fuel t cs = some x → ∃ a : α, R (hp W) cs a ∧ sz a ≤ Rows.uptoBulk x.1
end Go.Proofs.YtcafmokjkjcomaaGreat.Lf
namespace Go.Proofs.YtcafmokjkjcomaaGreat.Lf
open Go.ChangeShapes Go.WideShapes Go.ChangeAt Go.RowKit
open Go.Proofs.YtcafmokjkjcomaaGreat (Rows.uptoBulk Rows.uptoBulkAll Rows.uptoSmall)
theorem sJ {H : Type} : ∀ l : List (DataW H), Rows.uptoBulkAll l = (l.map Rows.uptoBulk).sum
 | [] => by simp [Rows.uptoBulkAll]
 | d :: l => by simp [Rows.uptoBulkAll, sJ l]
theorem yY {α : Type} (g : α → Nat) : ∀ (n : Nat) (f : Nat → Nat) {l : List α}, l.length = n → (∀ i x, l[i]? = some x → g x ≤ f i) → (l.map g).sum ≤ ((List.range n).map f).sum
 | 0, f, l, c, h => by
  obtain rfl := cj.1 c
  simp
 | n + 1, f, [], c, h => by cases c
 | n + 1, f, a :: l, c, h => by
  rw [List.range_succ_eq_map, aR, aR, eB, eB, cg]
  have h1 := h 0 a rfl
  have j := yY g n (f ∘ Nat.succ) (l := l) (by simpa using c) (fun i x d => h (i + 1) x (by simpa using d))
  omega
def rC {α : Type} (sz : α → Nat) (l : List α) : Nat := (l.map fun a => max 1 (sz a)).sum
theorem tX {α : Type} (sz : α → Nat) : ∀ l : List α, l.length ≤ rC sz l
 | [] => aO _
 | a :: l => by have := tX sz l; simp only [rC, aR, eB, aX] at this ⊢; omega
theorem yT {α : Type} {sz : α → Nat} : ∀ {l : List α} {a : α}, a ∈ l → sz a ≤ rC sz l
 | b :: l, a, h => by
  simp only [rC, aR, eB]
  rcases aC.1 h with rfl | h
  ·omega
  ·have := yT (sz := sz) h; simp only [rC] at this; omega
theorem wC {α : Type} {P : Program} {t e : TypeId} {k : Nat} {R : jS α} {sz : α → Nat} (hk : P.cellsOf e = k) (J : 0 < k) (ht : P.underlying t = some (.slice e)) {H : Type} {O : TypeId × Value → H} {W : World} {base : Nat} {sp : Nat → Bool} {held : Bool} {fuel : Nat} {cs : List Value} {x : DataW H × List MemPlace} (hd : ∀ (fuel : Nat) (cs : List Value) (y : DataW H × List MemPlace), DataW.trod O P W base sp held fuel e cs = some y → SizeOf.sizeOf y.1 < SizeOf.sizeOf x.1 → ∃ a : α, R (hp W) cs a ∧ sz a ≤ Rows.uptoBulk y.1) (hf : DataW.trod O P W base sp held fuel t cs = some x) :
  ∃ v l, cs = [v] ∧ Sl R k (hp W) v l ∧ rC sz l ≤ Rows.uptoBulk x.1 := by
 rcases Go.Deep.open_slice ht hf with ⟨rfl, rfl⟩ | ⟨a, ln, cp, m, n, D, Q, rfl, hb, hl, hm, L, rfl, G⟩
 ·exact ⟨_, [], rfl, ⟨none, 0, rfl, aO _, dl _, fun h => absurd h (Nat.lt_irrefl _)⟩, dl _⟩
 ·have aa : ln ≤ m := by rw [L]; split <;> omega
  have hB : ((List.range ln).map fun i => Rows.uptoBulk (D i)).sum ≤ Rows.uptoBulk (DataW.slice ((List.range ln).map D) ((List.range (m - ln)).map fun j => D (ln + j))) := by
   simp only [Rows.uptoBulk]
   rw [sJ, cg]
   have e : ((List.range ln).map fun i => Rows.uptoBulk (D i)) = (List.range ln).map (Rows.uptoBulk ∘ D) := rfl
   rw [e]
   omega
  have hS : ∀ i, i < ln → SizeOf.sizeOf (D i) < SizeOf.sizeOf (DataW.slice ((List.range ln).map D) ((List.range (m - ln)).map fun j => D (ln + j))) := fun i I => by
   have := List.sizeOf_lt_of_mem (aS.2 ⟨i, List.mem_range.2 I, rfl⟩ : D i ∈ (List.range ln).map D)
   rw [DataW.slice.sizeOf_spec]; omega
  simp only at hd ⊢
  generalize Rows.uptoBulk (DataW.slice ((List.range ln).map D) ((List.range (m - ln)).map fun j => D (ln + j))) = B at hB
  obtain ⟨l, K, q⟩ := AH (α := α) (n := ln) (p := fun i x => ∃ cs', W.cells? base (a.add (i * k)) k = some cs' ∧ R (hp W) cs' x ∧ sz x ≤ Rows.uptoBulk (D i)) fun i I => by
   obtain ⟨cs', h1, z⟩ := G i (by omega)
   obtain ⟨x, hR, A⟩ := hd _ _ _ z (hS i I)
   rw [hk] at h1
   exact ⟨x, cs', h1, hR, A⟩
  subst K
  refine ⟨_, l, rfl, ⟨some a, cp, rfl, hl, hm, fun h0 => ?_⟩, ?_⟩
  ·have c : ∀ i x, l[i]? = some x → ∃ cs', R (hp W) cs' x ∧ cs'.length = k ∧ ∀ j, j < k → W.cell? ((a.add (i * k)).add j) = cs'[j]? := fun i x s =>
    let ⟨cs', h1, z, _⟩ := q i x s
    let ⟨_, A, U⟩ := World.cells?_some h1
    ⟨cs', z, A, U⟩
   obtain ⟨a6, _, U, h5⟩ := c 0 l[0] (by simp [h0])
   have E := h5 0 J
   rw [Nat.zero_mul, bI (by omega)] at E
   have e0 : (a.add 0).add 0 = a := rfl
   rw [e0] at E
   obtain ⟨cs, T, fr, F, Y, _⟩ := wi E
   obtain ⟨u, w, a1⟩ := a
   simp only at F Y
   subst Y
   refine ⟨u, w, cs, T, fr, rfl, F, fun i x s => ?_⟩
   obtain ⟨cs', gR, g1, g2⟩ := c i x s
   refine ⟨cs', g1, gR, fun j y hy => ?_⟩
   have hj : j < k := by
    rw [← g1]
    exact (aK.1 hy).1
   have Z := g2 j hj
   rw [Go.Deep.add_add, hy] at Z
   obtain ⟨M, T', a7, d, a8, g⟩ := wi Z
   have o : (Addr.add ⟨u, w, none⟩ (i * k + j)).block = u ∧ (Addr.add ⟨u, w, none⟩ (i * k + j)).off = w + (i * k + j) := by
    unfold Addr.add
    split
    ·rename_i hz
     rw [hz]; exact ⟨rfl, rfl⟩
    ·exact ⟨rfl, rfl⟩
   rw [o.1, F] at d
   cases d
   rw [o.2, ← dw] at g
   exact g
  ·refine bN (yY _ _ _ rfl fun i x s => ?_) hB
   exact Nat.max_le.2 ⟨BG _, (q i x s).elim fun _ h => h.2.2⟩
theorem qi {α : Type} {P : Program} {t e : TypeId} {k : Nat} {R : jS α} {sz : α → Nat} (hk : P.cellsOf e = k) (a : 0 < k) (d : us P e R sz) (i : P.underlying t = some (.slice e)) {H : Type} {c : TypeId × Value → H} {W : World} {base : Nat} {sp : Nat → Bool} {held : Bool} {fuel : Nat} {cs : List Value} {x : DataW H × List MemPlace} (g : DataW.trod c P W base sp held fuel t cs = some x) :
  ∃ v l, cs = [v] ∧ Sl R k (hp W) v l ∧ rC sz l ≤ Rows.uptoBulk x.1 := wC hk a i (fun _ _ _ h _ => d _ _ _ _ _ _ _ _ _ h) g
end Go.Proofs.YtcafmokjkjcomaaGreat.Lf
namespace Go.Proofs.YtcafmokjkjcomaaGreat.Lf
open Go.ChangeShapes Go.WideShapes Go.ChangeAt Go.RowKit
open Go.Proofs.YtcafmokjkjcomaaGreat (Rows.uptoBulk Rows.uptoBulkAll Rows.uptoSmall)
def xd {α : Type} (R : jS α) (Q : α → Prop) : jS α := fun μ ys x => R μ ys x ∧ Q x
theorem Sl.all {α : Type} {R : jS α} {Q : α → Prop} {k : Nat} {μ : fz} {v : Value} {l : List α} (h : Sl (xd R Q) k μ v l) : Sl R k μ v l ∧ ∀ x ∈ l, Q x := by
 obtain ⟨A, c, rfl, h1, j, s⟩ := h
 cases l with
 | nil => exact ⟨⟨A, c, rfl, h1, j, fun h => absurd h (by simp)⟩, by simp⟩
 | cons a l =>
  obtain ⟨b, o, cs, T, fr, e, t, n⟩ := s (by simp)
  refine ⟨⟨A, c, rfl, h1, j, fun _ => ⟨b, o, cs, T, fr, e, t, fun i x g => ?_⟩⟩, fun x g => ?_⟩
  ·obtain ⟨ys, p, d, q⟩ := n i x g
   exact ⟨ys, p, d.1, q⟩
  ·obtain ⟨i, u⟩ := List.mem_iff_getElem?.1 g
   obtain ⟨ys, p, d, q⟩ := n i x u
   exact d.2
theorem Aw {P : Program} {t : TypeId} (a : P.underlying t = some (.int .u8)) : us P t (xd (Pl (fl .u8)) (fun x => 0 ≤ x ∧ x < 256)) (fun _ => 0) := by
 intro H c W base sp d fuel cs x h
 obtain ⟨n, rfl, rfl, hw⟩ := DataW.trod_int a h
 refine ⟨n, ⟨rfl, ?_⟩, dl _⟩
 simp [Lit.wf, IntKind.min, IntKind.max, IntKind.bits, IntKind.signed] at hw
 omega
theorem sy {α H : Type} {o : TypeId × Value → H} {P : Program} {t e : TypeId} {k : Nat} {R : jS α} {Q : α → Prop} {sz : α → Nat} (hk : P.cellsOf e = k) (c : 0 < k) (s : us P e (xd R Q) sz) (j : P.underlying t = some (.slice e)) {W : World} {base n : Nat} {r : Reach} {sp : Nat → Bool} {held : Bool} {v : Value} {d : DataW H} {y : List MemPlace} (a : Value.okWide P W r n t v) (h : DataW.Trod o P W base sp held t v d y) :
  ∃ l : List α, Sl R k (hp W) v l ∧ rC sz l ≤ Rows.uptoBulk d ∧ ∀ x ∈ l, Q x := by
 obtain ⟨A, ln, g, rfl⟩ := okWide_slice j a
 obtain ⟨fuel, w⟩ := h
 obtain ⟨u, l, h1, i, p⟩ := qi hk c s j w
 have q : (Value.slice A ln g).cells.toList = [Value.slice A ln g] := rfl
 rw [q] at h1
 cases h1
 exact ⟨l, (Sl.all i).1, p, (Sl.all i).2⟩
end Go.Proofs.YtcafmokjkjcomaaGreat.Lf
namespace Go.Proofs.YtcafmokjkjcomaaGreat
open Go.IntKind renaming wrap → wi0
open Go.Proofs.Tryz renaming prog → pg0
set_option maxRecDepth 10000
open Go.ChangeShapes Go.WideShapes Go.ChangeAt Go.RowKit
open Go.Proofs.YtcafmokjkjcomaaGreat Go.Proofs.YtcafmokjkjcomaaGreat.Lf
theorem wY : Tryz.prog.cellsOf 72 = 2 := by kernel_rfl
theorem len2 {α : Type} {l : List α} (h : l.length = 2) : ∃ a0 a, l = [a0, a] := by
 match l, h with
 | [a0, a], _ => exact ⟨a0, a, rfl⟩
theorem vq : Tryz.prog.cellsOf 9 = 1 := by kernel_rfl
theorem vm : xr pg0 9 (fun s : ByteArray => [.string s]) (fun s => s.size) := xE Tryz.underlying9
theorem xe : Tryz.prog.cellsOf 36 = 1 := by kernel_rfl
theorem yH : Tryz.prog.cellsOf 5 = 1 := by kernel_rfl
theorem Ab : us pg0 5 (xd (Pl (fl .u8)) (fun x => 0 ≤ x ∧ x < 256)) (fun _ => 0) := Aw Tryz.underlying5
def xQ (x : Key) : Nat := x.fu.size + rC (fun _ : Int => 0) x.Key + 1
def BV (x : Key) : Prop := (∀ y ∈ x.Key, 0 ≤ y ∧ y < 256)
theorem Br : us pg0 72 (xd ie BV) xQ := by
 intro H E W base sp F fuel cs x h
 obtain ⟨D, u, _, p, o, i, j⟩ := dH Tryz.underlying72 h
 obtain ⟨k, n, rfl⟩ := len2 i
 obtain ⟨a, c, rfl⟩ := len2 (o.trans wY)
 have d : DataW.trod _ pg0 W _ _ _ u 9 (([a, c].drop 0).take (Tryz.prog.cellsOf 9)) = some k := j 0 _ rfl
 have g : DataW.trod _ pg0 W _ _ _ u 36 (([a, c].drop 1).take (Tryz.prog.cellsOf 36)) = some n := j 1 _ rfl
 simp only [xe, vq, List.drop, List.take] at d g
 obtain ⟨s2, s, w⟩ := vm _ _ _ _ _ _ _ _ _ d
 simp only [bD, eW] at s
 obtain rfl := s
 obtain ⟨v3, A, t, q, y⟩ := qi yH (by decide) Ab Tryz.underlying36 g
 simp only [bD, eW] at t
 obtain rfl := t
 obtain ⟨q, g3⟩ := Lf.Sl.all q
 have v := aI (fun z => Rows.uptoBulk z.1) p
 refine ⟨⟨s2, A⟩, ⟨ie.mk ⟨_, rfl, q⟩, g3⟩, ?_⟩
 simp only [List.map, Rows.uptoBulk, Rows.uptoBulkAll, xQ] at w y v ⊢
 omega
theorem xj : Tryz.prog.cellsOf 38 = 10 := by kernel_rfl
theorem B9 {α : Type} {l : List α} (h : l.length = 10) : ∃ a0 a a2 a3 a4 a5 c d g a9, l = [a0, a, a2, a3, a4, a5, c, d, g, a9] := by
 match l, h with
 | [a0, a, a2, a3, a4, a5, c, d, g, a9], _ => exact ⟨a0, a, a2, a3, a4, a5, c, d, g, a9, rfl⟩
theorem xf : Tryz.prog.cellsOf 35 = 9 := by kernel_rfl
theorem Cx : xr pg0 3 (fun n : Int => [.int .i64 n]) (fun _ => 0) := Au Tryz.underlying3
theorem By : Tryz.prog.cellsOf 3 = 1 := by kernel_rfl
theorem xm : Tryz.prog.cellsOf 33 = 2 := by kernel_rfl
def qP (x : fE) : Nat := x.eZ.size + x.fg.size
theorem xF : xr pg0 33 fD qP := by
 intro H g W base sp j fuel cs x h
 obtain ⟨xs, n, _, rfl, q, hlen, k⟩ := dH Tryz.underlying33 h
 obtain ⟨t, u, rfl⟩ := len2 hlen
 obtain ⟨a, c1, rfl⟩ := len2 (q.trans xm)
 have i : DataW.trod g pg0 W base sp j n 9 (([a, c1].drop 0).take (Tryz.prog.cellsOf 9)) = some t := k 0 _ rfl
 have h1 : DataW.trod g pg0 W base sp j n 9 (([a, c1].drop 1).take (Tryz.prog.cellsOf 9)) = some u := k 1 _ rfl
 simp only [vq, List.drop, List.take] at i h1
 obtain ⟨s, c, o⟩ := vm _ _ _ _ _ _ _ _ _ i
 obtain ⟨s1, d, p⟩ := vm _ _ _ _ _ _ _ _ _ h1
 simp only [bD, eW] at c d
 obtain rfl := c
 obtain rfl := d
 refine ⟨⟨s, s1⟩, rfl, ?_⟩
 simp only [List.map, Rows.uptoBulk, Rows.uptoBulkAll, qP] at o p ⊢
 omega
theorem Ck {α : Type} {l : List α} (h : l.length = 6) : ∃ a0 a a2 a3 a4 a5, l = [a0, a, a2, a3, a4, a5] := by
 match l, h with
 | [a0, a, a2, a3, a4, a5], _ => exact ⟨a0, a, a2, a3, a4, a5, rfl⟩
theorem Co {α : Type} {l : List α} (h : l.length = 9) : ∃ a0 a a2 a3 a4 a5 c d g, l = [a0, a, a2, a3, a4, a5, c, d, g] := by
 match l, h with
 | [a0, a, a2, a3, a4, a5, c, d, g], _ => exact ⟨a0, a, a2, a3, a4, a5, c, d, g, rfl⟩
def tF (x : eY) : Nat := qP x.Head + x.fu.size + qP x.B + qP x.C + x.fB.size
theorem BO : xr pg0 35 fa tF := by
 intro H o W base sp p fuel cs x h
 obtain ⟨xs, n, _, rfl, O, hlen, q⟩ := dH Tryz.underlying35 h
 obtain ⟨U, Y, Z, y3, y4, y5, rfl⟩ := Ck hlen
 obtain ⟨a, c1, c2, c, d, g, i, j, k, rfl⟩ := Co (O.trans xf)
 have z : DataW.trod o pg0 W base sp p n 3 (([a, c1, c2, c, d, g, i, j, k].drop 0).take (Tryz.prog.cellsOf 3)) = some U := q 0 _ rfl
 have h1 : DataW.trod o pg0 W base sp p n 33 (([a, c1, c2, c, d, g, i, j, k].drop 1).take (Tryz.prog.cellsOf 33)) = some Y := q 1 _ rfl
 have A : DataW.trod o pg0 W base sp p n 9 (([a, c1, c2, c, d, g, i, j, k].drop 3).take (Tryz.prog.cellsOf 9)) = some Z := q 2 _ rfl
 have D : DataW.trod o pg0 W base sp p n 33 (([a, c1, c2, c, d, g, i, j, k].drop 4).take (Tryz.prog.cellsOf 33)) = some y3 := q 3 _ rfl
 have E : DataW.trod o pg0 W base sp p n 33 (([a, c1, c2, c, d, g, i, j, k].drop 6).take (Tryz.prog.cellsOf 33)) = some y4 := q 4 _ rfl
 have F : DataW.trod o pg0 W base sp p n 9 (([a, c1, c2, c, d, g, i, j, k].drop 8).take (Tryz.prog.cellsOf 9)) = some y5 := q 5 _ rfl
 simp only [By, xm, vq, List.drop, List.take] at z h1 A D E F
 obtain ⟨P, s, G⟩ := Cx _ _ _ _ _ _ _ _ _ z
 obtain ⟨s1, t, I⟩ := xF _ _ _ _ _ _ _ _ _ h1
 obtain ⟨s2, u, J⟩ := vm _ _ _ _ _ _ _ _ _ A
 obtain ⟨Q, v, K⟩ := xF _ _ _ _ _ _ _ _ _ D
 obtain ⟨R, w, L⟩ := xF _ _ _ _ _ _ _ _ _ E
 obtain ⟨T, y, M⟩ := vm _ _ _ _ _ _ _ _ _ F
 simp only [fD, bD, eW] at s t u v w y
 obtain rfl := s
 obtain ⟨rfl, rfl⟩ := t
 obtain rfl := u
 obtain ⟨rfl, rfl⟩ := v
 obtain ⟨rfl, rfl⟩ := w
 obtain rfl := y
 refine ⟨⟨P, s1, s2, Q, R, T⟩, rfl, ?_⟩
 simp only [List.map, Rows.uptoBulk, Rows.uptoBulkAll, tF] at G I J K L M ⊢
 omega
def oz (x : fA) : Nat := tF x.eY + rC (fun _ : Int => 0) x.Tag + 1
def zo (x : fA) : Prop := (∀ y ∈ x.Tag, 0 ≤ y ∧ y < 256)
theorem Bv : us pg0 38 (xd ic zo) oz := by
 intro H P W base sp Q fuel cs x h
 obtain ⟨O, G, _, A, y, t, u⟩ := dH Tryz.underlying38 h
 obtain ⟨v, w, rfl⟩ := len2 t
 obtain ⟨a, c, d, g, i, j, k, n, o, p, rfl⟩ := B9 (y.trans xj)
 have q : DataW.trod _ pg0 W _ _ _ G 35 (([a, c, d, g, i, j, k, n, o, p].drop 0).take (Tryz.prog.cellsOf 35)) = some v := u 0 _ rfl
 have s : DataW.trod _ pg0 W _ _ _ G 36 (([a, c, d, g, i, j, k, n, o, p].drop 9).take (Tryz.prog.cellsOf 36)) = some w := u 1 _ rfl
 simp only [xf, xe, List.drop, List.take] at q s
 obtain ⟨L, E, J⟩ := BO _ _ _ _ _ _ _ _ _ q
 simp only [fa, fD, bD, eW] at E
 obtain ⟨rfl, rfl, rfl, rfl, rfl, rfl, rfl, rfl, rfl⟩ := E
 obtain ⟨v6, M, F, D, K⟩ := qi yH (by decide) Ab Tryz.underlying36 s
 simp only [bD, eW] at F
 obtain rfl := F
 obtain ⟨D, g6⟩ := Lf.Sl.all D
 have I := aI (fun z => Rows.uptoBulk z.1) A
 refine ⟨⟨L, M⟩, ⟨ic.mk ⟨_, rfl, D⟩, g6⟩, ?_⟩
 simp only [List.map, Rows.uptoBulk, Rows.uptoBulkAll, oz] at J K I ⊢
 omega
theorem Cl : Tryz.prog.readableRec 22 = true ∧ 22 < Tryz.prog.types.size := ⟨by kernel_rfl, dg (by kernel_rfl)⟩
theorem Cy : Tryz.prog.readableRec 23 = true ∧ 23 < Tryz.prog.types.size := ⟨by kernel_rfl, dg (by kernel_rfl)⟩
theorem CB : ownKnob Tryz.prog.godebug = none := by kernel_rfl
theorem zt : laidOutB pg0 = true := by kernel_rfl
theorem zp (H : Type) (enc : TypeId × Value → H) (W : World) (base : Nat) (args : Array Value) (d gs : List (DataW H)) (before : List MemPlace) (a : ∀ (j : Nat) t v, Tryz.f3.params[j]? = some t → args[j]? = some v → Value.okWide pg0 W .any base t v) (o : DataW.Whole enc pg0 Tryz.f3.params.toList Rows.keysCheckSpec.vars false W args.toList d gs before) (hk : Rows.uptoSmall H (d ++ gs) = true) :
  Calls pg0 3 args W fun e W' => ∃ v, e = .returned v ∧ Rows.keysCheckSpec.post enc pg0 Tryz.f3 false true false false W args v W' := by
 have h := o
 obtain ⟨p, q, g, A, rfl, D, F⟩ := o
 have n : DataW.TrodAll enc pg0 W 0 (fun _ => true) true Tryz.f3.params.toList args.toList d p := g
 have G : ∀ t ∈ Tryz.f3.params.toList, Tryz.prog.readableRec t = true ∧ t < Tryz.prog.types.size := by
  rw [Tryz.params3]
  intro t u
  simp only [aC, bk, cI] at u
  rcases u with rfl | rfl
  ·exact Cl
  ·exact Cy
 rw [Tryz.params3] at n a
 obtain ⟨v0, T, d0, w, Y, q0, i, rfl, rfl, y, P⟩ := trodAll_cons n
 obtain ⟨v1, U, d1, x, Z, q1, rfl, rfl, rfl, h1, Q⟩ := trodAll_cons P
 obtain ⟨rfl, rfl, rfl⟩ := trodAll_nil Q
 obtain rfl : args = #[v0, v1] := by cases args; simp_all
 obtain ⟨rfl, rfl⟩ := trodVars_none A
 have K := a 0 22 v0 rfl rfl
 have L := a 1 23 v1 rfl rfl
 obtain ⟨a0, R, z0, M⟩ := sy (k := 2) wY (by decide) Br Tryz.underlying22 K y
 obtain ⟨c, s1, z1, O⟩ := sy (k := 10) xj (by decide) Bv Tryz.underlying23 L h1
 have z : Rows.uptoBulkAll ([d0, d1] ++ []) ≤ 1048576 := dg hk
 simp only [cq, Rows.uptoBulkAll] at z
 have hm : lN a0 c = some true := uo AQ a0 c M O (by have := tX xQ a0; omega) (by have := tX oz c; omega) (fun s I => by have := yT (sz := oz) I; have : qS s.eY + rC (fun _ : Int => 0) s.Tag + 1 = oz s := (by simp only [oz, tF, qP, qS]; omega); omega)
 have E := sw v0 a0 v1 c true W R s1 hm
 refine bo E fun e W' ⟨he, J⟩ => ?_
 subst he
 exact ⟨_, rfl, xA zt G rfl h J (fun _ _ _ => trodAll_cons_mk (shut_bool Tryz.underlying4 _) trodAll_mk0) rfl rfl (ok_one (by kernel_rfl) rfl (okWide_bool_mk Tryz.underlying4 _))⟩
set_option maxRecDepth 100000 in
theorem Bd (os : Os) (started : os.Started) (H : Type) (enc : TypeId × Value → H) (F : Stop.Interp) :
  ReturnsInHanded {} Tryz.checked os 3 .any ((Rows.OpenSpec.upto Rows.keysCheckSpec).pre6 enc pg0 Tryz.f3 Rows.keysCheckUptoRow.domain false) (((Rows.OpenSpec.upto Rows.keysCheckSpec).at F).post enc pg0 Tryz.f3 false true false false) := by
 refine returnsInHanded_of_cond (C := Tryz.checked) (s := Rows.OpenSpec.upto Rows.keysCheckSpec) (k := Rows.uptoSmall) rfl CB started (by kernel_rfl) Tryz.func3
  (OpenSpec.witness (enc := enc) (C := Tryz.checked) (s := Rows.OpenSpec.upto Rows.keysCheckSpec) (k := Rows.uptoSmall) rfl false ⟨#[], #[.slice none 0 0, .slice none 0 0], []⟩ 8 (by kernel_rfl) (by kernel_rfl) (by kernel_rfl)
   (x := ([.nil, .nil], [], [])) (by kernel_rfl) rfl (by kernel_rfl)) ?_
 intro W base args c gs before a d _ hk _
 exact zp H enc W base args c gs before a d hk
theorem BN {a b : Bool} (c : a = true) (d : b = true) : (a && b) = true := by rw [c, d]; rfl
set_option maxHeartbeats 40000000 in
theorem As : joinedFacts Tryz.checked.prog 3 Tryz.f3 (Rows.OpenSpec.upto Rows.keysCheckSpec).bare Rows.keysCheckUptoRow = true := by
 unfold joinedFacts
 repeat' with_reducible refine BN ?_ ?_
 all_goals as_aux_lemma => kernel_rfl
theorem proved : Rows.KeysCheckUptoSaid :=
 OpenClaim.holds_of_cond 3 Tryz.f3 rfl rfl rfl rfl rfl rfl rfl ⟨rfl, rfl, rfl, rfl, rfl⟩ rfl rfl rfl rfl rfl (by kernel_rfl) Tryz.func3 As
  (dg (by kernel_rfl)) (by unfold Func.isWrapper; first | (rw [aF (by decide +kernel)]; kernel_rfl) | (rw [aG (by decide +kernel)]; exact ⟨rfl, rfl⟩))
  (fun os started H enc _ F => Bd os started H enc F)
end Go.Proofs.YtcafmokjkjcomaaGreat
