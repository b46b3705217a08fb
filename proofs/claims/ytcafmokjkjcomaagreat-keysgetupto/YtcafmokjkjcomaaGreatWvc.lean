/- a part of a proof of KeysGet -/
import Derived.Test.YtcafmokjkjcomaaGreatRtZcc
import Derived.Test.YtcafmokjkjcomaaGreatKGMc
import Derived.Test.YtcafmokjkjcomaaGreatRows
import Derived.WalkKit
import Derived.ProofKit
import Derived.OpenShut
import Derived.JoinedCond
import Derived.Deep.Slices
import Derived.Carry
import Derived.ChangeArms
import Derived.ChangeSame
import Derived.Test.YtcafmokjkjcomaaGreatKGW2c
set_option linter.all false
namespace Go.Proofs.YtcafmokjkjcomaaGreat
open Go.IntKind renaming wrap → wi0
open Go.Proofs.Tryz renaming prog → pg0
open Go.RowKit
theorem Cu {c x : Bool} : (if c = true then some x else some false : Option Bool) = some (c && x) := by cases c <;> rfl
theorem A4 {c x : Bool} : (if c = true then some true else some x : Option Bool) = some (c || x) := by cases c <;> rfl
theorem xR {α : Type} (x : Option α) : (x.bind fun y => some y) = x := by cases x <;> rfl
theorem gj {x : Int} (a : -9223372036854775808 ≤ x) (h1 : x ≤ 9223372036854775807) : wi0 .i64 x = x := IntWalk.i64_in _ (by omega)
theorem mT {α : Type} (A : List α) (x : α) (B : List α) (i : Int) (h : i = (A.length : Int)) : kk (A ++ x :: B) i = some x := by
 subst h; rw [tU]; simp
theorem vx : iv = 18446744073709551615 + 1 := by rw [mq]
def sK {α : Type} (f1 : α → Option Bool) (z : α) : Nat → List α → Int → Int → Option (List α)
 | 0, _, _, _ => none
 | n + 1, l, i, j => if decide (j < (l.length : Int)) then
   ((kk l j).bind fun x => (f1 x).bind fun r => if (!r) then (kk l i).bind fun _ => some (l.set (Int.toNat i) x, wi0 .i64 (i + 1)) else some (l, i) : Option (List α × Int)).bind fun (c, a) => sK f1 z n c a (wi0 .i64 (j + 1))
  else (kO (decide (0 ≤ i) && decide (i ≤ (l.length : Int)))).bind fun _ => (kO (decide (0 ≤ i) && decide (i ≤ ((jR l (Int.toNat i) z).length : Int)))).bind fun _ => some ((jR l (Int.toNat i) z).take (Int.toNat i))
theorem pp {a b : Int} (c : 0 ≤ a) (h1 : a ≤ b) : kO (decide (0 ≤ a) && decide (a ≤ b)) = some () := by simp [kO, c, h1]
theorem vl {α : Type} (f1 : α → Option Bool) (p : α → Bool) (z : α) : ∀ (rest out mid : List α) (n : Nat), rest.length < n → (out ++ mid ++ rest).length < 4611686018427387904 → mid ≠ [] → (∀ x ∈ rest, f1 x = some (p x)) →
  sK f1 z n (out ++ mid ++ rest) (out.length : Int) ((out.length + mid.length : Nat) : Int) = some (out ++ rest.filter fun x => !p x)
 | [], out, mid, 0, h, _, _, _ => by simp at h
 | [], out, mid, n + 1, _, c, hm, _ => by
  rw [sK, aA (by simp)]
  have h1 : out.length ≤ (out ++ mid ++ []).length := by simp
  rw [pp (by omega) (by omega)]
  simp only [aw]
  rw [pp (by omega) (by rw [mf _ _ _ (by simpa using h1)]; omega)]
  simp only [aw, cL]
  rw [sA _ _ _ h1]
  simp
 | x :: rest, out, mid, 0, h, _, _, _ => by simp at h
 | x :: rest, out, mid, n + 1, h, c, hm, d => by
  have hlen : (out ++ mid ++ x :: rest).length = out.length + mid.length + rest.length + 1 := by simp; omega
  rw [hlen] at c
  rw [sK, aB (by rw [hlen]; simp; omega)]
  rw [mT (out ++ mid) x rest _ (by simp)]
  simp only [aw, d x (by simp)]
  rw [gj (x := ((out.length + mid.length : Nat) : Int) + 1) (by omega) (by omega)]
  have ih := vl f1 p z rest
  cases hp : p x with
  | true =>
   simp only [bT, ay, aI, aw]
   have := ih out (mid ++ [x]) n (by simp at h; omega) (by simp; omega) (by simp) (fun y g => d y (by simp [g]))
   simp only [aR, bF, cx, aK, aU, bw] at this ⊢
   rw [show ((out.length + mid.length : Nat) : Int) + 1 = ((out.length + (mid.length + (0 + 1)) : Nat) : Int) by omega, this]
   simp [hp]
  | false =>
   obtain ⟨m, a, rfl⟩ : ∃ m a, mid = m :: a := by cases mid with
    | nil => exact absurd rfl hm
    | cons m a => exact ⟨m, a, rfl⟩
   simp only [Bool.not_false, aO]
   rw [aR out (m :: a) (x :: rest), bF]
   rw [mT out m (a ++ x :: rest) _ rfl]
   simp only [aw]
   rw [gj (x := (out.length : Int) + 1) (by omega) (by simp at c; omega)]
   have := ih (out ++ [x]) (a ++ [x]) n (by simp at h; omega) (by simp at c ⊢; omega) (by simp) (fun y g => d y (by simp [g]))
   simp only [aR, bF, cx, aK, aU, bw] at this
   have i : (out ++ m :: (a ++ x :: rest)).set (Int.toNat (out.length : Int)) x = out ++ x :: (a ++ x :: rest) := by
    rw [cL, List.set_append_right _ _ (aQ _)]; simp
   rw [i]
   simp only [aU] at c ⊢
   rw [show (out.length : Int) + 1 = ((out.length + (0 + 1) : Nat) : Int) by omega, show ((out.length + (a.length + 1) : Nat) : Int) + 1 = ((out.length + (0 + 1) + (a.length + (0 + 1)) : Nat) : Int) by omega, this]
   simp [hp]
def sR {α : Type} (f1 : α → Option Bool) : List α → Nat → Option Int
 | [], _ => some (-1)
 | x :: xs, i => (f1 x).bind fun r => if r then some (i : Int) else sR f1 xs (i + 1)
theorem vp {α : Type} (f1 : α → Option Bool) (p : α → Bool) : ∀ (l : List α) (i : Nat), (∀ x ∈ l, f1 x = some (p x)) →
  (sR f1 l i = some (-1) ∧ ∀ x ∈ l, p x = false) ∨ ∃ A x B, l = A ++ x :: B ∧ (∀ y ∈ A, p y = false) ∧ p x = true ∧ sR f1 l i = some ((i + A.length : Nat) : Int)
 | [], i, _ => .inl ⟨rfl, by simp⟩
 | x :: l, i, h => by
  rw [sR, h x (by simp)]
  simp only [aw]
  cases hp : p x with
  | true => exact .inr ⟨[], x, l, rfl, by simp, hp, by simp⟩
  | false =>
   simp only [ay, aI]
   rcases vp f1 p l (i + 1) (fun y a => h y (by simp [a])) with ⟨h1, c⟩ | ⟨A, y, B, rfl, h1, c, g⟩
   ·exact .inl ⟨h1, by intro y a; rcases aF.1 a with rfl | a; exact hp; exact c y a⟩
   ·refine .inr ⟨x :: A, y, B, rfl, ?_, c, ?_⟩
    ·intro z d; rcases aF.1 d with rfl | d
     ·exact hp
     ·exact h1 z d
    ·rw [g]; simp; omega
def xU {α : Type} (f1 : α → Option Bool) (z : α) (l : List α) : Option (List α) :=
 (sR f1 l 0).bind fun a => if (a == (-1)) then some l else sK f1 z iv l a (wi0 .i64 (a + 1))
theorem zu {α : Type} (f1 : α → Option Bool) (p : α → Bool) (z : α) (l : List α) (d : l.length < 4611686018427387904) (h : ∀ x ∈ l, f1 x = some (p x)) : xU f1 z l = some (l.filter fun x => !p x) := by
 unfold xU
 rcases vp f1 p l 0 h with ⟨h1, c⟩ | ⟨A, x, B, rfl, h1, c, g⟩
 ·rw [h1]
  simp only [aw, aZ, aO]
  rw [List.filter_eq_self.2 (fun y a => by simp [c y a])]
 ·rw [g]
  simp only [aw, eF]
  rw [aA (by simp), gj (by omega) (by simp at d; omega)]
  have := vl f1 p z B A [x] iv (by rw [mq]; simp at d; omega) (by simpa using d) (by simp) (fun y a => h y (by simp [a]))
  simp only [aR, bF, cx, aU, bw] at this
  rw [show (A.length : Int) + 1 = ((A.length + (0 + 1) : Nat) : Int) by omega, this]
  have i : A.filter (fun x => !p x) = A := List.filter_eq_self.2 (fun y a => by simp [h1 y a])
  rw [List.filter_append, i]
  simp [c]
def ji {α : Type} (eq : α → α → Bool) : α → List α → List α
 | _, [] => []
 | p, y :: ys => if eq y p then ji eq y ys else y :: ji eq y ys
def dd {α : Type} (eq : α → α → Bool) : List α → List α
 | [] => []
 | x :: xs => x :: ji eq x xs
def rS {α : Type} (eq : α → α → Bool) (i : Int) : Nat → List α → Int → Int → Option (List α × Int)
 | 0, _, _, _ => none
 | n + 1, l, k, j => if decide (j < ((l.length - Int.toNat i : Nat) : Int)) then
   ((kk (l.drop (Int.toNat i)) j).bind fun x => (kk (l.drop (Int.toNat i)) (wi0 .i64 (j - 1))).bind fun y => if !(eq x y) then (kk (l.drop (Int.toNat i)) j).bind fun z => (kk l k).bind fun _ => some (l.set (Int.toNat k) z, wi0 .i64 (k + 1)) else some (l, k) : Option (List α × Int)).bind fun (a, k') => rS eq i n a k' (wi0 .i64 (j + 1))
  else some (l, k)
def sO {α : Type} (eq : α → α → Bool) (z : α) (l : List α) : Nat → Int → Option (List α)
 | 0, _ => none
 | n + 1, i => if decide (i < (l.length : Int)) then (kk l i).bind fun x => (kk l (wi0 .i64 (i - 1))).bind fun y => if eq x y then
    (kO (decide (0 ≤ i) && decide (i ≤ (l.length : Int)))).bind fun _ => (rS eq i iv l i 1).bind fun (a, k) => (kO (decide (0 ≤ k) && decide (k ≤ (a.length : Int)))).bind fun _ => (kO (decide (0 ≤ k) && decide (k ≤ ((jR a (Int.toNat k) z).length : Int)))).bind fun _ => some ((jR a (Int.toNat k) z).take (Int.toNat k))
   else sO eq z l n (wi0 .i64 (i + 1))
  else some l
def xT {α : Type} (eq : α → α → Bool) (z : α) (l : List α) : Option (List α) := if decide ((l.length : Int) < 2) then some l else sO eq z l iv 1
theorem vj {α : Type} (l : List α) (i : Nat) (j : Int) (a : 0 ≤ j) : kk (l.drop i) j = kk l ((i : Int) + j) := by
 obtain ⟨m, rfl⟩ : ∃ m : Nat, j = m := ⟨j.toNat, by omega⟩
 rw [show (i : Int) + (m : Int) = ((i + m : Nat) : Int) by omega, tU, tU, ct]
theorem sT {α : Type} (eq : α → α → Bool) (i : Nat) : ∀ (rest out mid : List α) (p : α) (n : Nat), rest.length < n → (out ++ (mid ++ [p]) ++ rest).length < 4611686018427387904 → 1 ≤ i → i ≤ out.length →
  ∃ c, rS eq (i : Int) n (out ++ (mid ++ [p]) ++ rest) (out.length : Int) ((out.length + mid.length + 1 - i : Nat) : Int) = some (c, ((out ++ ji eq p rest).length : Int)) ∧ c.take (out ++ ji eq p rest).length = out ++ ji eq p rest ∧ (out ++ ji eq p rest).length ≤ c.length
 | [], out, mid, p, 0, h, _, _, _ => by simp at h
 | [], out, mid, p, n + 1, h, o, h1, k => by
  rw [rS, aA (by simp; omega)]
  exact ⟨out ++ (mid ++ [p]) ++ [], by simp [ji], by simp [ji], by simp [ji]⟩
 | x :: rest, out, mid, p, 0, h, _, _, _ => by simp at h
 | x :: rest, out, mid, p, n + 1, h, o, h1, k => by
  have hlen : (out ++ (mid ++ [p]) ++ x :: rest).length = out.length + mid.length + rest.length + 2 := by simp; omega
  rw [hlen] at o
  rw [rS, aB (by rw [hlen]; simp; omega)]
  rw [cL, vj _ _ _ (by omega), mT (out ++ (mid ++ [p])) x rest _ (by simp; omega)]
  simp only [aw]
  rw [gj (x := ((out.length + mid.length + 1 - i : Nat) : Int) - 1) (by omega) (by omega), vj _ _ _ (by omega)]
  rw [show out ++ (mid ++ [p]) ++ x :: rest = (out ++ mid) ++ p :: (x :: rest) by simp]
  rw [mT (out ++ mid) p (x :: rest) _ (by simp; omega)]
  simp only [aw]
  rw [gj (x := ((out.length + mid.length + 1 - i : Nat) : Int) + 1) (by omega) (by omega)]
  cases hp : eq x p with
  | true =>
   simp only [bT, ay, aI, aw]
   obtain ⟨c, d, g, j⟩ := sT eq i rest out (mid ++ [p]) x n (by simp at h; omega) (by simp; omega) h1 k
   refine ⟨c, ?_, by rw [ji, hp]; exact g, by rw [ji, hp]; exact j⟩
   rw [ji, hp, aB rfl, ← d]
   congr 1
   ·simp
   ·simp; omega
  | false =>
   simp only [Bool.not_false, aO]
   obtain ⟨m, a, hm⟩ : ∃ m a, mid ++ [p] = m :: a := by cases mid with
    | nil => exact ⟨p, [], rfl⟩
    | cons m a => exact ⟨m, a ++ [p], rfl⟩
   have s : a.length = mid.length := by have := aH List.length hm; simp at this; omega
   rw [show (out ++ mid) ++ p :: (x :: rest) = out ++ m :: (a ++ x :: rest) by rw [← bF, ← hm]; simp]
   rw [mT out m (a ++ x :: rest) _ rfl]
   simp only [aw]
   rw [gj (x := (out.length : Int) + 1) (by omega) (by omega)]
   have t : (out ++ m :: (a ++ x :: rest)).set (Int.toNat (out.length : Int)) x = (out ++ [x]) ++ (a ++ [x]) ++ rest := by
    rw [cL, List.set_append_right _ _ (aQ _)]; simp
   rw [t]
   obtain ⟨c, d, g, j⟩ := sT eq i rest (out ++ [x]) a x n (by simp at h; omega) (by simp; omega) h1 (by simp; omega)
   refine ⟨c, ?_, ?_, ?_⟩
   ·rw [ji, hp, aA (by decide)]
    have q : ((out ++ x :: ji eq x rest).length : Int) = ((out ++ [x] ++ ji eq x rest).length : Int) := by simp
    rw [q, ← d]
    congr 1
    ·simp
    ·simp; omega
   ·rw [ji, hp, aA (by decide)]; simpa using g
   ·rw [ji, hp, aA (by decide)]; simpa using j
theorem vR {α : Type} (eq : α → α → Bool) (z : α) : ∀ (rest pre : List α) (p : α) (n : Nat), rest.length < n → (pre ++ p :: rest).length < 4611686018427387904 →
  sO eq z (pre ++ p :: rest) n ((pre.length + 1 : Nat) : Int) = some (pre ++ p :: ji eq p rest)
 | [], pre, p, 0, h, _ => by simp at h
 | [], pre, p, n + 1, h, i => by rw [sO, aA (by simp)]; simp [ji]
 | x :: rest, pre, p, 0, h, _ => by simp at h
 | x :: rest, pre, p, n + 1, h, i => by
  have hlen : (pre ++ p :: x :: rest).length = pre.length + rest.length + 2 := by simp; omega
  rw [hlen] at i
  rw [sO, aB (by rw [hlen]; simp; omega)]
  rw [show pre ++ p :: x :: rest = (pre ++ [p]) ++ x :: rest by simp, mT (pre ++ [p]) x rest _ (by simp)]
  simp only [aw]
  rw [gj (x := ((pre.length + 1 : Nat) : Int) - 1) (by omega) (by omega)]
  rw [show (pre ++ [p]) ++ x :: rest = pre ++ p :: (x :: rest) by simp, mT pre p (x :: rest) _ (by omega)]
  simp only [aw]
  cases hp : eq x p with
  | true =>
   simp only [aO]
   rw [pp (by omega) (by rw [hlen]; omega)]
   simp only [aw]
   obtain ⟨j, a, g, d⟩ := sT eq (pre.length + 1) rest (pre ++ [p]) [] x iv (by rw [mq]; omega) (by simp; omega) (by omega) (by simp)
   simp only [aR, bF, cx, aK, aU, bw] at a g d
   rw [show (pre.length + (0 + 1) + 0 + 1 - (pre.length + 1) : Nat) = 1 by omega] at a
   rw [show ((pre.length + 1 : Nat) : Int) = ((pre.length + (0 + 1) : Nat) : Int) by omega] at *
   have c : rS eq ((pre.length + (0 + 1) : Nat) : Int) iv (pre ++ p :: x :: rest) ((pre.length + (0 + 1) : Nat) : Int) 1 = _ := a
   rw [c]
   simp only [aw]
   rw [pp (by omega) (by omega)]
   simp only [aw, cL]
   rw [pp (by omega) (by rw [mf _ _ _ d]; omega)]
   simp only [aw]
   rw [sA _ _ _ d, g, ji, hp]
   simp
  | false =>
   simp only [ay, aI]
   rw [gj (x := ((pre.length + 1 : Nat) : Int) + 1) (by omega) (by omega)]
   have := vR eq z rest (pre ++ [p]) x n (by simp at h; omega) (by simp; omega)
   simp only [aR, bF, cx, aK, aU, bw] at this
   rw [show ((pre.length + 1 : Nat) : Int) + 1 = ((pre.length + (0 + 1) + 1 : Nat) : Int) by omega, this, ji, hp]
   simp
theorem zA {α : Type} (eq : α → α → Bool) (z : α) (l : List α) (a : l.length < 4611686018427387904) : xT eq z l = some (dd eq l) := by
 unfold xT
 cases l with
 | nil => rfl
 | cons x xs =>
  cases xs with
  | nil => simp [dd, ji]
  | cons y ys =>
   rw [aA (by simp; omega)]
   have := vR eq z (y :: ys) [] x iv (by rw [mq]; simp at a ⊢; omega) (by simpa using a)
   simpa [dd] using this
structure qE {α : Type} (lt : α → α → Prop) (P : α → Prop) : Prop where
 irrefl : ∀ x, P x → ¬ lt x x
 trans : ∀ x y z, P x → P y → P z → lt x y → lt y z → lt x z
 total : ∀ x y, P x → P y → lt x y ∨ x = y ∨ lt y x
def oa {α : Type} (lt : α → α → Prop) (P : α → Prop) (l out : List α) : Prop := out.Pairwise lt ∧ ∀ x, x ∈ out ↔ x ∈ l ∧ P x
theorem oa.unique {α : Type} {lt : α → α → Prop} {P : α → Prop} (H : qE lt P) : ∀ {l a b : List α}, oa lt P l a → oa lt P l b → a = b := by
 have key : ∀ a b : List α, (∀ x ∈ a, P x) → a.Pairwise lt → b.Pairwise lt → (∀ x, x ∈ a ↔ x ∈ b) → a = b := by
  intro a
  induction a with
  | nil => intro b _ _ _ hm; cases b with
   | nil => rfl
   | cons y ys => exact absurd ((hm y).2 (by simp)) (by simp)
  | cons x xs ih =>
   intro b n ha j hm
   cases b with
   | nil => exact absurd ((hm x).1 (by simp)) (by simp)
   | cons y ys =>
    have o : P y := n y ((hm y).2 (by simp))
    have c : P x := n x (by simp)
    have d := cW.1 ha
    have g := cW.1 j
    have p : x = y := by
     rcases aF.1 ((hm x).1 (by simp)) with h | h
     ·exact h
     ·rcases aF.1 ((hm y).2 (by simp)) with k | k
      ·exact k.symm
      ·exact absurd (H.trans x y x c o c (d.1 y k) (g.1 x h)) (H.irrefl x c)
    subst p
    congr 1
    refine ih ys (fun z i => n z (by simp [i])) d.2 g.2 (fun z => ?_)
    constructor
    ·intro i
     rcases aF.1 ((hm z).1 (by simp [i])) with h | h
     ·subst h; exact absurd (d.1 z i) (H.irrefl z c)
     ·exact h
    ·intro i
     rcases aF.1 ((hm z).2 (by simp [i])) with h | h
     ·subst h; exact absurd (g.1 z i) (H.irrefl z c)
     ·exact h
 intro l a b ha j
 exact key a b (fun x q => ((ha.2 x).1 q).2) ha.1 j.1 (fun x => (ha.2 x).trans (j.2 x).symm)
theorem qQ {α : Type} {eq : α → α → Bool} (he : ∀ x y, eq x y = true ↔ x = y) : ∀ (l : List α) (p x : α), x ∈ p :: ji eq p l ↔ x ∈ p :: l
 | [], p, x => by simp [ji]
 | y :: l, p, x => by
  rw [ji]
  split
  ·rename_i h
   have := (he y p).1 h
   subst this
   rw [qQ he l y x]; simp
  ·have := qQ he l y x
   simp only [aF] at this ⊢
   rw [this]
theorem Bx {α : Type} {eq : α → α → Bool} (he : ∀ x y, eq x y = true ↔ x = y) (l : List α) (x : α) : x ∈ dd eq l ↔ x ∈ l := by
 cases l with
 | nil => simp [dd]
 | cons y l => exact qQ he l y x
theorem pV {α : Type} {eq : α → α → Bool} {lt : α → α → Prop} {P : α → Prop} (he : ∀ x y, eq x y = true ↔ x = y) (H : qE lt P) : ∀ (l : List α) (p : α), (∀ x ∈ p :: l, P x) → (p :: l).Pairwise (fun a b => ¬ lt b a) → (p :: ji eq p l).Pairwise lt
 | [], p, _, _ => by simp [ji]
 | y :: l, p, c, o => by
  have h1 := cW.1 o
  rw [ji]
  split
  ·rename_i h
   have := (he y p).1 h
   subst this
   exact pV he H l y (fun x i => c x (bZ _ i)) h1.2
  ·rename_i h
   have ih := pV he H l y (fun x i => c x (bZ _ i)) h1.2
   refine cW.2 ⟨fun z n => ?_, ih⟩
   have g : lt p y := by
    rcases H.total p y (c p (by simp)) (c y (by simp)) with d | d | d
    ·exact d
    ·exact absurd ((he y p).2 d.symm) h
    ·exact absurd d (h1.1 y (by simp))
   rcases aF.1 n with rfl | j
   ·exact g
   ·have k : z ∈ y :: l := (qQ he l y z).1 n
    exact H.trans p y z (c p (by simp)) (c y (by simp)) (c z (bZ _ k)) g ((cW.1 ih).1 z j)
theorem yh {α : Type} {eq : α → α → Bool} {lt : α → α → Prop} {P : α → Prop} (he : ∀ x y, eq x y = true ↔ x = y) (H : qE lt P) (l : List α) (c : ∀ x ∈ l, P x) (d : l.Pairwise (fun a b => ¬ lt b a)) : (dd eq l).Pairwise lt := by
 cases l with
 | nil => simp [dd]
 | cons y l => exact pV he H l y c d
theorem uI {α : Type} {le : α → α → Bool} {P : α → Prop} (i : ∀ a b c, P a → P b → P c → le a b = true → le b c = true → le a c = true) (h : ∀ a b, P a → P b → (le a b || le b a) = true) (l : List α) (d : ∀ x ∈ l, P x) :
  (l.mergeSort le).Pairwise (fun a b => le a b = true) := by
 have e : l = (l.attachWith P d).map Subtype.val := by simp
 have hm : ((l.attachWith P d).mergeSort fun a b => le a.1 b.1).map Subtype.val = l.mergeSort le := by
  conv => rhs; rw [e]
  exact ee (fun a _ b _ => rfl)
 rw [← hm, dE]
 exact dB (le := fun (a b : {x // P x}) => le a.1 b.1) (fun a b c h1 g => i a.1 b.1 c.1 a.2 b.2 c.2 h1 g) (fun a b => h a.1 b.1 a.2 b.2) _
theorem wM {α : Type} {eq : α → α → Bool} {lt : α → α → Prop} {P : α → Prop} {cf : α × α → Option Int} {l : List α} (he : ∀ x y, eq x y = true ↔ x = y) (H : qE lt P) (g : ∀ x ∈ l, P x) (D : l.length < 4611686018427387904) (A : ∀ x y, P x → P y → ∃ c, cf (x, y) = some c ∧ (c < 0 ↔ lt x y)) : ∃ s, pH cf l = some s ∧ s.length = l.length ∧ oa lt P l (dd eq s) := by
 have j : ∀ x y, P x → P y → (lb cf x y = true ↔ lt x y) := fun x y i o => by
  obtain ⟨c, h1, n⟩ := A x y i o
  unfold lb
  rw [h1]
  simpa using n
 have d : ∀ x y, P x → P y → (lb cf x y = false ↔ ¬ lt x y) := fun x y i o => by
  rw [← j x y i o]; simp
 have ok : rJ cf l := by
  refine ⟨fun x i y o => ?_, fun x i => ?_, fun x i y o z v h1 n => ?_, fun x i y o h1 n => ?_, D⟩
  ·obtain ⟨c, h1, _⟩ := A x y (g x i) (g y o); exact ⟨c, h1⟩
  ·exact (d x x (g x i) (g x i)).2 (H.irrefl x (g x i))
  ·rw [j _ _ (g x i) (g y o)] at h1
   rw [j _ _ (g y o) (g z v)] at n
   rw [j _ _ (g x i) (g z v)]
   exact H.trans x y z (g x i) (g y o) (g z v) h1 n
  ·rw [d _ _ (g x i) (g y o)] at h1
   rw [d _ _ (g y o) (g x i)] at n
   rcases H.total x y (g x i) (g y o) with h | h | h
   ·exact absurd h h1
   ·exact h
   ·exact absurd h n
 refine ⟨_, zK ok, by simp [la], ?_, ?_⟩
 ·have k : ∀ x, x ∈ la cf l ↔ x ∈ l := fun x => by simp [la]
  refine yh he H _ (fun x i => g x ((k x).1 i)) ?_
  have := uI (le := fun x y => !lb cf y x) (P := P) (fun a b c ha p q h1 n => ?_) (fun a b ha p => ?_) l g
  ·refine (this.imp_of_mem ?_ : _)
   intro a b ha p h
   have t : a ∈ l := (k a).1 ha
   have u : b ∈ l := (k b).1 p
   simp at h
   exact (d b a (g b u) (g a t)).1 h
  ·simp at h1 n ⊢
   rw [d _ _ p ha] at h1
   rw [d _ _ q p] at n
   rw [d _ _ q ha]
   intro w
   rcases H.total a b ha p with h | h | h
   ·exact n (H.trans c a b q ha p w h)
   ·subst h; exact n w
   ·exact h1 h
  ·simp only [cY, Bool.not_eq_true']
   rw [d _ _ p ha, d _ _ ha p]
   by_cases h : lt b a
   ·right; intro n; exact H.irrefl a ha (H.trans a b a ha p ha n h)
   ·exact .inl h
 ·intro x
  rw [Bx he]
  constructor
  ·intro i
   have : x ∈ l := by simpa [la] using i
   exact ⟨this, g x this⟩
  ·intro i; simpa [la] using i.1
theorem rn : ∀ a : List UInt8, Op.bytesLess a a = false
 | [] => rfl
 | x :: a => by simp [Op.bytesLess, rn a]
theorem vN (x y : UInt8) : x < y ∨ x = y ∨ y < x := by
 rcases Nat.lt_trichotomy x.toNat y.toNat with h | h | h
 ·exact .inl h
 ·exact .inr (.inl (UInt8.toNat_inj.1 h))
 ·exact .inr (.inr h)
theorem vz : ∀ a b c : List UInt8, Op.bytesLess a b = true → Op.bytesLess b c = true → Op.bytesLess a c = true
 | [], [], c, h1, _ => by simp [Op.bytesLess] at h1
 | _ :: _, [], c, h1, _ => by simp [Op.bytesLess] at h1
 | a, _ :: _, [], _, d => by simp [Op.bytesLess] at d
 | [], b :: g, c :: cs, _, _ => rfl
 | a :: ax, b :: g, c :: cs, h1, d => by
  simp only [Op.bytesLess, cY, cK, aX, eL] at h1 d ⊢
  rcases h1 with h1 | ⟨rfl, h1⟩
  ·rcases d with d | ⟨rfl, d⟩
   ·exact .inl (UInt8.lt_trans h1 d)
   ·exact .inl h1
  ·rcases d with d | ⟨rfl, d⟩
   ·exact .inl d
   ·exact .inr ⟨rfl, vz ax g cs h1 d⟩
theorem vP : ∀ a b : List UInt8, Op.bytesLess a b = true ∨ a = b ∨ Op.bytesLess b a = true
 | [], [] => .inr (.inl rfl)
 | [], _ :: _ => .inl rfl
 | _ :: _, [] => .inr (.inr rfl)
 | a :: ax, b :: c => by
  simp only [Op.bytesLess, cY, cK, aX, eL, bM]
  rcases vN a b with h | h | h
  ·exact .inl (.inl h)
  ·subst h
   rcases vP ax c with h | h | h
   ·exact .inl (.inr ⟨rfl, h⟩)
   ·exact .inr (.inl ⟨rfl, h⟩)
   ·exact .inr (.inr (.inr ⟨rfl, h⟩))
  ·exact .inr (.inr (.inl h))
theorem tN : ∀ a b : List UInt8, (Lib.compareBytes a b < 0 ↔ Op.bytesLess a b = true)
 | [], [] => by simp [Lib.compareBytes, Op.bytesLess]
 | [], _ :: _ => by simp [Lib.compareBytes, Op.bytesLess]
 | _ :: _, [] => by simp [Lib.compareBytes, Op.bytesLess]
 | a :: ax, b :: g => by
  simp only [Lib.compareBytes, Op.bytesLess, cY, cK, aX, eL]
  by_cases h : a < b
  ·simp [h]
  ·by_cases d : b < a
   ·have : a ≠ b := by rintro rfl; exact h d
    simp [h, d, this]
   ·have : a = b := by rcases vN a b with c | c | c; exact absurd c h; exact c; exact absurd c d
    subst this
    simp [h, tN ax g]
theorem wg : ∀ a b : List UInt8, (Lib.compareBytes a b = 0 ↔ a = b)
 | [], [] => by simp [Lib.compareBytes]
 | [], _ :: _ => by simp [Lib.compareBytes]
 | _ :: _, [] => by simp [Lib.compareBytes]
 | a :: ax, b :: g => by
  simp only [Lib.compareBytes, bM]
  by_cases h : a < b
  ·simp only [h, aO]
   constructor
   ·intro h; cases h
   ·rintro ⟨rfl, _⟩; exact absurd h (by simp)
  ·by_cases d : b < a
   ·simp only [h, d, aO, aI]
    constructor
    ·intro h; cases h
    ·rintro ⟨rfl, _⟩; exact absurd d (by simp)
   ·have : a = b := by rcases vN a b with c | c | c; exact absurd c h; exact c; exact absurd c d
    subst this
    simp [h, wg ax g]
theorem tV (a b : ByteArray) : oV a b = Op.bytesLess a.data.toList b.data.toList := by unfold oV; rw [cO, cO]
theorem oM {a b : ByteArray} (h : a.data.toList = b.data.toList) : a = b := ew (Array.toList_inj.1 h)
theorem tw (a : ByteArray) : oV a a = false := by rw [tV, rn]
def px (b : UInt8) : Bool := decide (97 ≤ b.toNat) && decide (b.toNat ≤ 122)
def qk (b : UInt8) : Bool := px b || (decide (48 ≤ b.toNat) && decide (b.toNat ≤ 57)) || decide (b.toNat = 45)
def gJ (s : ByteArray) : Bool := decide (1 ≤ s.size) && decide (s.size ≤ 16) && (match s.data.toList with | [] => false | b :: _ => px b) && s.data.toList.all qk
theorem ia {s : ByteArray} (h : gJ s = true) : 1 ≤ s.size ∧ s.size ≤ 16 := by
 simp only [gJ, aX, cK] at h
 exact h.1.1
theorem xD : ∀ n : Nat, n < 256 → decide (nf (⟨#[97, 98, 99, 100, 101, 102, 103, 104, 105, 106, 107, 108, 109, 110, 111, 112, 113, 114, 115, 116, 117, 118, 119, 120, 121, 122]⟩ : ByteArray) (n : Int) ≥ 0) = px (UInt8.ofNat n) := by decide +kernel
theorem zG : ∀ n : Nat, n < 256 → decide (nf (⟨#[97, 98, 99, 100, 101, 102, 103, 104, 105, 106, 107, 108, 109, 110, 111, 112, 113, 114, 115, 116, 117, 118, 119, 120, 121, 122, 48, 49, 50, 51, 52, 53, 54, 55, 56, 57, 45]⟩ : ByteArray) (n : Int) < 0) = !qk (UInt8.ofNat n) := by decide +kernel
theorem kA (s : ByteArray) : s.size = s.data.toList.length := by rw [bG]; rfl
theorem st {s : ByteArray} (h : s.size ≤ 16) : nZ s = some (jv s) := by
 unfold nZ; rw [aB (by unfold maxLen; omega)]
theorem vZ : ∀ l : List UInt8, lE (l.map fun b => (b.toNat : Int)) = some (l.all qk)
 | [] => rfl
 | b :: l => by
  rw [aT, lE]
  simp only [jx, ij, aw]
  have a := zG b.toNat (ef b)
  rw [a]
  simp only [eu, List.all_cons]
  cases qk b with
  | true => simp [vZ l]
  | false => simp
theorem uF {s : ByteArray} {b : UInt8} {l : List UInt8} (h : s.data.toList = b :: l) : nH s 0 = some b := by
 unfold nH
 rw [aB (eU 0)]
 have a : s.data[0]? = some b := by rw [← bH, h]; rfl
 show s[0]? = some b
 rw [← a]
 rfl
theorem lu (s : ByteArray) : iL s = some (gJ s) := by
 unfold iL
 simp only [Cu, aw, xR]
 by_cases h1 : 1 ≤ s.size
 ·by_cases a : s.size ≤ 16
  ·rw [aB (by simp; omega)]
   obtain ⟨b, l, c⟩ : ∃ b l, s.data.toList = b :: l := by
    cases h : s.data.toList with
    | nil => rw [kA, h] at h1; simp at h1
    | cons b l => exact ⟨b, l, rfl⟩
   rw [uF c]
   simp only [aw, jx, ij]
   rw [xD b.toNat (ef b)]
   simp only [eu, gJ, h1, a, c, cy, Bool.true_and]
   cases px b with
   | false => simp
   | true =>
    simp only [aO, pU, st a, aw, jv]
    rw [vZ, c]
    simp
  ·rw [aA (by simp; omega)]
   simp [gJ, a]
 ·rw [aA (by simp; omega)]
  simp [gJ, h1]
theorem tO {s : ByteArray} {A B : List UInt8} {b : UInt8} (h : s.data.toList = A ++ b :: B) (i : Int) (hi : i = (A.length : Int)) : nH s i = some b := by
 subst hi
 unfold nH
 rw [aB (by omega), cL]
 have a : s.data[A.length]? = some b := by rw [← bH, h]; simp
 show s[A.length]? = some b
 rw [← a]
 rfl
theorem rq (s : ByteArray) (w : s.size ≤ 16) : ∀ (B A : List UInt8) (n : Nat), s.data.toList = A ++ B → B.length < n → iR s n (A.length : Int) = some (B.all qk)
  | [], A, 0, _, h => by simp at h
  | [], A, n + 1, h, _ => by
    have : s.size = A.length := by rw [kA, h]; simp
    rw [iR, aA (by rw [this]; simp)]
    rfl
  | b :: B, A, 0, _, h => by simp at h
  | b :: B, A, n + 1, h, v => by
    have k : s.size = A.length + B.length + 1 := by rw [kA, h]; simp; omega
    rw [iR, aB (by rw [k]; simp; omega)]
    rw [tO h _ rfl]
    simp only [aw]
    rw [gj (x := (A.length : Int) + 1) (by omega) (by omega)]
    have ih := rq s w B (A ++ [b]) n (by rw [h]; simp) (by simp at v; omega)
    rw [show ((A ++ [b]).length : Int) = (A.length : Int) + 1 by simp] at ih
    simp only [List.all_cons]
    have j : ∀ n : Nat, n < 256 → qk (UInt8.ofNat n) = !((decide (n < 97) || decide (n > 122)) && (decide (n < 48) || decide (n > 57)) && decide (n ≠ 45)) := by decide +kernel
    have o := j b.toNat (ef b)
    simp only [eu] at o
    rw [o]
    by_cases h1 : b.toNat < 97 <;> by_cases p : b.toNat > 122 <;> by_cases q : b.toNat < 48 <;> by_cases t : b.toNat > 57 <;> by_cases u : b.toNat = 45 <;>
      first
      | omega
      | (have a : ((b.toNat : Int) < 97) = (b.toNat < 97) := by rw [ei]; omega
         have c : ((b.toNat : Int) > 122) = (b.toNat > 122) := by rw [ei]; omega
         have d : ((b.toNat : Int) < 48) = (b.toNat < 48) := by rw [ei]; omega
         have g : ((b.toNat : Int) > 57) = (b.toNat > 57) := by rw [ei]; omega
         have i : ((b.toNat : Int) != 45) = !decide (b.toNat = 45) := by rw [cH]; simp; omega
         simp [h1, p, q, t, u, a, c, d, g, i, ih])
theorem oN (a : ByteArray) : fU a a = true := gz.2 rfl
theorem zV {s : ByteArray} : s = zS ↔ s.size = 0 := by
 constructor
 ·rintro rfl; rfl
 ·intro h; exact oM (by rw [kA] at h; rw [bX.1 h]; rfl)
theorem nI (s : ByteArray) : jn s = some (gJ s) := by
 unfold jn
 simp only [A4, aw, xR]
 by_cases g : s.size = 0
 ·have : s = zS := zV.2 g
  subst this
  rw [oN]
  rfl
 ·have o : fU s zS = false := by
   cases h : fU s zS with
   | false => rfl
   | true => exact absurd (zV.1 (gz.1 h)) g
  rw [o]
  simp only [Bool.false_or]
  by_cases i : s.size ≤ 16
  ·rw [aA (by simp; omega)]
   obtain ⟨b, l, k⟩ : ∃ b l, s.data.toList = b :: l := by
    cases h : s.data.toList with
    | nil => rw [kA, h] at g; simp at g
    | cons b l => exact ⟨b, l, rfl⟩
   rw [uF k]
   simp only [aw, A4]
   have n := rq s i s.data.toList [] iv rfl (by rw [mq, ← kA]; omega)
   simp only [bw] at n
   rw [show (0 : Int) = ((0 : Nat) : Int) from rfl] at *
   rw [n]
   have j : ((b.toNat : Int) < 97) = (b.toNat < 97) := by rw [ei]; omega
   have d : ((b.toNat : Int) > 122) = (b.toNat > 122) := by rw [ei]; omega
   have h1 : 1 ≤ s.size := by omega
   simp only [gJ, h1, i, k, px, cy, Bool.true_and, j, d]
   by_cases a : b.toNat < 97
   ·simp [a, show ¬ 97 ≤ b.toNat by omega]
   ·by_cases c : b.toNat > 122
    ·simp [a, c, show ¬ b.toNat ≤ 122 by omega]
    ·simp [a, c, show 97 ≤ b.toNat by omega, show b.toNat ≤ 122 by omega]
  ·rw [aB (by simp; omega)]
   simp [gJ, i]
def fY (r : fu) : Bool := gJ r.eY && gJ r.eZ
theorem pM (r : fu) : ja r = some (fY r) := by
 unfold ja fY
 simp only [lu, aw]
 cases gJ r.eY <;> simp
theorem sL (r : fu) : kU r = some (fY r) := by
 unfold kU fY
 simp only [nI, aw]
 cases gJ r.eY <;> simp
def tb (a b : fu) : Bool := oV a.eY b.eY || (fU a.eY b.eY && oV a.eZ b.eZ)
theorem tl (a b : fu) : ob a b = some (tb a b) := by
 unfold ob tb
 cases oV a.eY b.eY <;> cases fU a.eY b.eY <;> simp
theorem tZ {a b : fu} : tb a b = true ↔ oV a.eY b.eY = true ∨ (a.eY = b.eY ∧ oV a.eZ b.eZ = true) := by
 simp [tb, gz]
theorem si (a b : fu) : ∃ c, mU a b = some c ∧ (c < 0 ↔ tb a b = true) := by
 unfold mU
 simp only [lC, iT, aw, pv, mA]
 have h1 : ∀ a b : ByteArray, (lj a b < 0 ↔ oV a b = true) := fun a b => by rw [tV]; exact tN _ _
 have g : ∀ a b : ByteArray, (lj a b = 0 ↔ a = b) := fun a b => by
  unfold lj; rw [wg]; exact ⟨oM, fun h => by rw [h]⟩
 by_cases e : lj a.eY b.eY = 0
 ·rw [aA (by simp [e])]
  have e' := (g _ _).1 e
  by_cases d : lj a.eZ b.eZ = 0
  ·rw [aA (by simp [d])]
   refine ⟨0, rfl, ?_⟩
   rw [tZ, e', (g _ _).1 d]
   simp [tw]
  ·rw [aB (by simp [d])]
   refine ⟨_, rfl, ?_⟩
   rw [tZ, e', h1]
   simp [tw]
 ·rw [aB (by simp [e])]
  refine ⟨_, rfl, ?_⟩
  rw [tZ, h1]
  have : a.eY ≠ b.eY := fun h => e ((g _ _).2 h)
  simp [this]
def zR : fu := ⟨zS, zS⟩
theorem rI (a b : ByteArray) : fU a b = fU b a := by rw [cH, gz, gz]; exact eq_comm
theorem rF (a b : fu) : ie a b = ie b a := by rw [cH, jM, jM]; exact eq_comm
theorem nS (a : fu) : ie a a = true := jM.2 rfl
def fM (c : eX) : Bool := fY c.Head && (
 if c.Kind == 1 then gJ c.fD && ie zR c.B && ie zR c.C && fU zS c.fw
 else if c.Kind == 2 then fY c.B && fU zS c.fD && ie zR c.C && fU zS c.fw
 else if c.Kind == 3 then fY c.B && fU c.B.eY c.Head.eY && gJ c.fw && fU zS c.fD && ie zR c.C
 else if c.Kind == 4 then fY c.B && fY c.C && tb c.B c.C && fU zS c.fD && fU zS c.fw
 else false)
theorem lh (c : eX) : jc c = some (fM c) := by
 unfold jc fM
 simp only [pM, lu, aw]
 obtain ⟨k, hk, a⟩ := si c.B c.C
 rw [hk]
 have d : decide (k < 0) = tb c.B c.C := by rw [cH, ← a]; simp
 simp only [aw, d]
 by_cases h1 : c.Kind = 1
 ·cases fY c.Head <;> cases gJ c.fD <;> simp [h1, jF, nS, oN, zR, ej]
 ·by_cases g : c.Kind = 2
  ·cases fY c.Head <;> cases fY c.B <;> simp [g, jF, nS, oN, zR, ej]
  ·by_cases h : c.Kind = 3
   ·cases fY c.Head <;> cases fY c.B <;> cases fU c.B.eY c.Head.eY <;> cases gJ c.fw <;> simp [h, jF, nS, oN, zR, ej]
   ·by_cases i : c.Kind = 4
    ·cases fY c.Head <;> cases fY c.B <;> cases fY c.C <;> cases tb c.B c.C <;> simp [i, jF, nS, oN, zR, ej]
    ·simp [h1, g, h, i]
theorem jE (c : eX) : iP c = some (fM c) := by
 unfold iP fM
 simp only [sL, nI, tl, aw]
 rw [show (⟨zS, zS⟩ : fu) = zR from rfl, rF c.B zR, rF c.C zR, rI c.fw zS, rI c.fD zS]
 by_cases h1 : c.Kind = 1
 ·cases fY c.Head <;> cases gJ c.fD <;> cases ie zR c.B <;> cases ie zR c.C <;> simp [h1]
 ·by_cases a : c.Kind = 2
  ·cases fY c.Head <;> cases fY c.B <;> cases fU zS c.fD <;> cases ie zR c.C <;> simp [a]
  ·by_cases d : c.Kind = 3
   ·cases fY c.Head <;> cases fY c.B <;> cases fU zS c.fD <;> cases ie zR c.C <;> cases fU c.B.eY c.Head.eY <;> simp [d]
   ·by_cases g : c.Kind = 4
    ·cases fY c.Head <;> cases fY c.B <;> cases fU zS c.fD <;> cases fU zS c.fw <;> cases fY c.C <;> simp [g]
    ·cases fY c.Head <;> cases fY c.B <;> cases fU zS c.fD <;> simp [h1, a, d, g]
theorem sf {α : Type} {b : Nat} {l m : List α} (h : (l.length + m.length) * b ≤ 140737488355328) (a : l.length + m.length ≤ 9223372036854775807) : lV b l m = some (l ++ m) := by
 unfold lV; rw [aB ⟨h, by unfold maxLen; omega⟩]
theorem qO {l m : List Int} (h : l.length + m.length ≤ 1000000) : lV 1 l m = some (l ++ m) := sf (by omega) (by omega)
def lg (s : ByteArray) : List Int := (s.size : Int) :: jv s
def iQ (r : fu) : List Int := lg r.eY ++ lg r.eZ
def mB (c : eX) : List Int := if c.Kind = 1 then lg c.fD else if c.Kind = 2 then iQ c.B else if c.Kind = 3 then iQ c.B ++ lg c.fw else iQ c.B ++ iQ c.C
def fW (c : eX) : List Int := c.Kind :: (iQ c.Head ++ mB c)
theorem jP (s : ByteArray) : (lg s).length = s.size + 1 := by simp [lg, gM]
theorem gC {r : fu} (h : fY r = true) : (iQ r).length ≤ 34 := by
 simp only [fY, aX] at h
 have h1 := ia h.1
 have a := ia h.2
 simp [iQ, jP]; omega
theorem rO {l : List Int} {n : Int} (a : 0 ≤ n) (h1 : n < 128) (c : l.length ≤ 100000) : jw l n = some (true, l ++ [n]) := by
 have hw : IntKind.u8.wrap n = n := by
  obtain ⟨k, rfl⟩ : ∃ k : Nat, n = k := ⟨n.toNat, by omega⟩
  have : ∀ k : Nat, k < 128 → IntKind.u8.wrap (k : Int) = (k : Int) := by decide +kernel
  exact this k (by omega)
 unfold jw
 rw [aA (by simp; omega), vx, iI, aA (by simp; omega), hw, qO (by simp; omega)]
 rfl
theorem sd {l : List Int} {s : ByteArray} (h : gJ s = true) (a : l.length ≤ 10000) : kH l s = some (true, l ++ lg s) := by
 have h1 := ia h
 unfold kH
 simp only [lu, aw, h, aO, st h1.2]
 unfold ko
 rw [aA (by rw [gM]; simp; omega)]
 rw [gM, rO (by omega) (by omega) (by omega)]
 simp only [aw]
 rw [qO (by simp [gM]; omega)]
 simp [lg]
theorem zy {l : List Int} {r : fu} (h : fY r = true) (c : l.length ≤ 9000) : iZ l r = some (true, l ++ iQ r) := by
 have a := h
 simp only [fY, aX] at h
 have h1 := ia h.1
 unfold iZ
 simp only [pM, aw, a, aO]
 rw [sd h.1 (by omega)]
 simp only [aw, aO]
 rw [sd h.2 (by simp [jP]; omega)]
 simp [iQ]
theorem qh {l : List Int} {r : fu} (h : fY r = true) (a : l.length ≤ 1000) : iZ l r = some (true, l ++ iQ r) := zy h (by omega)
theorem nl {c : eX} (h : fM c = true) : fY c.Head = true := by
 simp only [fM, aX] at h; exact h.1
theorem iK {c : eX} (h : fM c = true) :
  (c.Kind = 1 ∧ gJ c.fD = true ∧ c.B = zR ∧ c.C = zR ∧ c.fw = zS) ∨
  (c.Kind = 2 ∧ fY c.B = true ∧ c.fD = zS ∧ c.C = zR ∧ c.fw = zS) ∨
  (c.Kind = 3 ∧ fY c.B = true ∧ gJ c.fw = true ∧ c.B.eY = c.Head.eY ∧ c.fD = zS ∧ c.C = zR) ∨
  (c.Kind = 4 ∧ fY c.B = true ∧ fY c.C = true ∧ tb c.B c.C = true ∧ c.fD = zS ∧ c.fw = zS) := by
 simp only [fM, aX] at h
 obtain ⟨_, h⟩ := h
 split at h
 ·rename_i h1
  simp only [aX, jM, gz] at h
  exact .inl ⟨by simpa using h1, h.1.1.1, h.1.1.2.symm, h.1.2.symm, h.2.symm⟩
 ·split at h
  ·rename_i h1
   simp only [aX, jM, gz] at h
   exact .inr (.inl ⟨by simpa using h1, h.1.1.1, h.1.1.2.symm, h.1.2.symm, h.2.symm⟩)
  ·split at h
   ·rename_i h1
    simp only [aX, jM, gz] at h
    exact .inr (.inr (.inl ⟨by simpa using h1, h.1.1.1.1, h.1.1.2, h.1.1.1.2, h.1.2.symm, h.2.symm⟩))
   ·split at h
    ·rename_i h1
     simp only [aX, jM, gz] at h
     exact .inr (.inr (.inr ⟨by simpa using h1, h.1.1.1.1, h.1.1.1.2, h.1.1.2, h.1.2.symm, h.2.symm⟩))
    ·cases h
theorem nW (c : eX) : jb c = some (if fM c then fW c else []) := by
 unfold jb
 rw [lh]
 simp only [aw]
 cases h : fM c with
 | false => simp
 | true =>
  have i := nl h
  have j := gC i
  simp only [bT, ay, aI, aO]
  have hk : 0 ≤ c.Kind ∧ c.Kind < 128 := by rcases iK h with h | h | h | h <;> omega
  rw [rO hk.1 hk.2 (by simp)]
  simp only [aw]
  rw [qh i (by simp)]
  simp only [aw, iy, gN]
  rcases iK h with ⟨k, h1, _⟩ | ⟨k, h1, _⟩ | ⟨k, h1, a, _⟩ | ⟨k, h1, a, _⟩
  ·have d := ia h1
   simp only [k, aZ, aO, sd h1 (show (([] ++ [(1:Int)]) ++ iQ c.Head).length ≤ 10000 by simp; omega), aw]
   rw [qO (by simp [jP]; omega)]
   simp [fW, mB, k]
  ·have d := gC h1
   simp only [k, show ((2 : Int) == 1) = false from rfl, ay, aZ, aO, aI, qh h1 (show (([] ++ [(2:Int)]) ++ iQ c.Head).length ≤ 1000 by simp; omega), aw]
   rw [qO (by simp; omega)]
   simp [fW, mB, k]
  ·have d := gC h1
   have g := ia a
   simp only [k, show ((3 : Int) == 1) = false from rfl, show ((3 : Int) == 2) = false from rfl, ay, aZ, aO, aI, qh h1 (show (([] ++ [(3:Int)]) ++ iQ c.Head).length ≤ 1000 by simp; omega), aw]
   rw [sd a (by simp; omega)]
   simp only [aw]
   rw [qO (by simp [jP]; omega)]
   simp [fW, mB, k]
  ·have d := gC h1
   have g := gC a
   simp only [k, show ((4 : Int) == 1) = false from rfl, show ((4 : Int) == 2) = false from rfl, show ((4 : Int) == 3) = false from rfl, ay, aZ, aO, aI, qh h1 (show (([] ++ [(4:Int)]) ++ iQ c.Head).length ≤ 1000 by simp; omega), aw]
   rw [qh a (by simp; omega)]
   simp only [aw]
   rw [qO (by simp; omega)]
   simp [fW, mB, k]
def fX (l : List Int) : ByteArray := ⟨(lR l).toArray⟩
theorem jB (l : List Int) : (fX l).data.toList = lR l := rfl
theorem tB : ∀ (l : List Int) (r : ByteArray), (l.foldl (fun r n => r.push (UInt8.ofNat n.toNat)) r).data.toList = r.data.toList ++ lR l
 | [], r => by simp [lR]
 | x :: l, r => by
  rw [eP, tB l]
  show ((r.data.push _).toList) ++ _ = _
  simp [lR]
theorem kW (l : List Int) : jo l = fX l := oM (by unfold jo; rw [tB]; rfl)
theorem jG (l : List Int) : (fX l).size = l.length := by rw [kA, jB]; simp [lR]
theorem yd (a b : List Int) : lR (a ++ b) = lR a ++ lR b := by simp [lR]
theorem jj (a b : List Int) (h : a.length + b.length ≤ 1000000) : mw (fX a) (fX b) = some (fX (a ++ b)) := by
 unfold mw
 rw [aA]
 ·congr 1
  refine oM ?_
  rw [jB, yd, ← jB a, ← jB b]
  exact ByteArray.toList_data_append ▸ rfl
 ·rw [jG, jG]
  show ¬ (_ > (9223372036854775807 : Int))
  omega
theorem pj (s : ByteArray) : fX (jv s) = s := oM (by rw [jB]; simp [lR, jv, Function.comp_def])
theorem ru {n : Int} (a : 0 ≤ n) (h1 : n < 128) : lN n = some (fX [n]) := by
 have hw : IntKind.u8.wrap n = n := by
  obtain ⟨k, rfl⟩ : ∃ k : Nat, n = k := ⟨n.toNat, by omega⟩
  have : ∀ k : Nat, k < 128 → IntKind.u8.wrap (k : Int) = (k : Int) := by decide +kernel
  exact this k (by omega)
 unfold lN
 rw [vx, km, aA (by simp; omega), hw, kW, show zS = fX [] from rfl, jj _ _ (by simp)]
 rfl
theorem sc {s : ByteArray} (h : gJ s = true) : iO s = some (fX (lg s)) := by
 have h1 := ia h
 unfold iO
 rw [ru (by omega) (by omega)]
 simp only [aw]
 have := jj [(s.size : Int)] (jv s) (by rw [gM]; simp; omega)
 rw [pj] at this
 rw [this]
 simp [lg]
theorem qm {r : fu} (h : fY r = true) : kX r = some (fX (iQ r)) := by
 simp only [fY, aX] at h
 have h1 := ia h.1
 have a := ia h.2
 unfold kX
 rw [sc h.1, sc h.2]
 simp only [aw]
 rw [jj _ _ (by simp [jP]; omega)]
 rfl
theorem nF (c : eX) : mi c = some (fX (if fM c then fW c else [])) := by
 unfold mi
 rw [jE]
 simp only [aw]
 cases h : fM c with
 | false => rfl
 | true =>
  have i := nl h
  have j := gC i
  simp only [bT, ay, aI, aO]
  have hk : 0 ≤ c.Kind ∧ c.Kind < 128 := by rcases iK h with h | h | h | h <;> omega
  unfold kf
  rw [ru hk.1 hk.2, qm i]
  simp only [aw]
  rw [jj _ _ (by simp; omega)]
  simp only [aw]
  rcases iK h with ⟨k, h1, _⟩ | ⟨k, h1, _⟩ | ⟨k, h1, a, _⟩ | ⟨k, h1, a, _⟩
  ·have d := ia h1
   simp only [k, aZ, aO, sc h1, aw]
   rw [jj _ _ (by simp [jP]; omega)]
   simp [fW, mB, k]
  ·have d := gC h1
   simp only [k, show ((2 : Int) == 1) = false from rfl, show ((2 : Int) == 3) = false from rfl, show ((2 : Int) == 4) = false from rfl, ay, aI, qm h1, aw]
   rw [jj _ _ (by simp; omega)]
   simp [fW, mB, k]
  ·have d := gC h1
   have g := ia a
   simp only [k, show ((3 : Int) == 1) = false from rfl, show ((3 : Int) == 4) = false from rfl, ay, aZ, aO, aI, qm h1, aw]
   rw [jj _ _ (by simp; omega)]
   simp only [aw, sc a]
   rw [jj _ _ (by simp [jP]; omega)]
   simp [fW, mB, k]
  ·have d := gC h1
   have g := gC a
   simp only [k, show ((4 : Int) == 1) = false from rfl, show ((4 : Int) == 3) = false from rfl, ay, aZ, aO, aI, qm h1, aw]
   rw [jj _ _ (by simp; omega)]
   simp only [aw, qm a]
   rw [jj _ _ (by simp; omega)]
   simp [fW, mB, k]
def vX (c : eX) : List UInt8 := lR (if fM c then fW c else [])
def pT (a b : eX) : Bool := Op.bytesLess (vX a) (vX b)
theorem sh (a b : eX) : ∃ c, kC a b = some c ∧ (c < 0 ↔ pT a b = true) := by
 unfold kC
 rw [nW, nW]
 exact ⟨_, rfl, tN _ _⟩
theorem rN (a b : eX) : ∃ c, lc a b = some c ∧ (c < 0 ↔ pT a b = true) := by
 unfold lc
 rw [nF, nF]
 simp only [aw]
 have h : oV (fX (if fM a then fW a else [])) (fX (if fM b then fW b else [])) = pT a b := by rw [tV]; rfl
 rw [h]
 cases pT a b with
 | true => exact ⟨_, rfl, by decide⟩
 | false =>
  simp only [ay, aI, Bool.false_or]
  cases d : fU (fX (if fM a then fW a else [])) (fX (if fM b then fW b else [])) with
  | true => exact ⟨0, by simp, by decide⟩
  | false => exact ⟨1, by simp, by decide⟩
theorem Bu {a b : Int} (ha : 0 ≤ a ∧ a < 256) (c : 0 ≤ b ∧ b < 256) (h : a.toNat.toUInt8 = b.toNat.toUInt8) : a = b := by
 have := aH UInt8.toNat h
 simp only [ek, Nat.toUInt8] at this
 simp at this
 omega
theorem tY : ∀ {a b : List Int}, (∀ x ∈ a, 0 ≤ x ∧ x < 256) → (∀ x ∈ b, 0 ≤ x ∧ x < 256) → lR a = lR b → a = b
 | [], [], _, _, _ => rfl
 | [], _ :: _, _, _, h => by simp [lR] at h
 | _ :: _, [], _, _, h => by simp [lR] at h
 | x :: a, y :: b, ha, d, h => by
  simp only [lR, aT, bM] at h
  rw [Bu (ha x (by simp)) (d y (by simp)) h.1, tY (fun z c => ha z (by simp [c])) (fun z c => d z (by simp [c])) h.2]
theorem oJ {s : ByteArray} (h : gJ s = true) : ∀ x ∈ lg s, 0 ≤ x ∧ x < 256 := by
 have h1 := ia h
 intro x a
 rcases aF.1 a with rfl | a
 ·omega
 ·simp only [jv, aS] at a
  obtain ⟨b, _, rfl⟩ := a
  have := ef b
  omega
theorem ni {r : fu} (h : fY r = true) : ∀ x ∈ iQ r, 0 ≤ x ∧ x < 256 := by
 simp only [fY, aX] at h
 intro x a
 rcases aY.1 a with a | a
 ·exact oJ h.1 x a
 ·exact oJ h.2 x a
theorem oE {c : eX} (h : fM c = true) : ∀ x ∈ fW c, 0 ≤ x ∧ x < 256 := by
 intro x a
 rcases aF.1 a with rfl | a
 ·rcases iK h with h | h | h | h <;> omega
 ·rcases aY.1 a with a | a
  ·exact ni (nl h) x a
  ·unfold mB at a
   rcases iK h with ⟨k, h1, _⟩ | ⟨k, h1, _⟩ | ⟨k, h1, d, _⟩ | ⟨k, h1, d, _⟩
   ·rw [aB k] at a; exact oJ h1 x a
   ·rw [aA (by omega), aB k] at a; exact ni h1 x a
   ·rw [aA (by omega), aA (by omega), aB k] at a
    rcases aY.1 a with a | a
    ·exact ni h1 x a
    ·exact oJ d x a
   ·rw [aA (by omega), aA (by omega), aA (by omega)] at a
    rcases aY.1 a with a | a
    ·exact ni h1 x a
    ·exact ni d x a
theorem xP {s t : ByteArray} (h : jv s = jv t) : s = t := by rw [← pj s, h, pj]
theorem pJ {s t : ByteArray} {X Y : List Int} (h : lg s ++ X = lg t ++ Y) : s = t ∧ X = Y := by
 simp only [lg, bF, bM] at h
 obtain ⟨h1, a⟩ := h
 have c : (jv s).length = (jv t).length := by rw [gM, gM]; omega
 have := List.append_inj a c
 exact ⟨xP this.1, this.2⟩
theorem oR {a b : fu} {X Y : List Int} (h : iQ a ++ X = iQ b ++ Y) : a = b ∧ X = Y := by
 simp only [iQ, aR] at h
 obtain ⟨h1, d⟩ := pJ h
 obtain ⟨c, g⟩ := pJ d
 exact ⟨by cases a; cases b; simp at h1 c; simp [h1, c], g⟩
theorem yL {a b : eX} (ha : fM a = true) (t : fM b = true) (h : fW a = fW b) : a = b := by
 simp only [fW, bM] at h
 obtain ⟨hk, q⟩ := h
 obtain ⟨p, h⟩ := oR q
 clear q
 have j : ∀ {X Y : List Int}, X = Y → X ++ [] = Y ++ [] := fun h => by rw [h]
 unfold mB at h
 obtain ⟨D, s, G, x, z, v⟩ := a
 obtain ⟨F, u, I, y, A, w⟩ := b
 simp only at hk p h
 subst hk p
 rcases iK ha with ⟨k, h1, d, g, c⟩ | ⟨k, h1, d, g, c⟩ | ⟨k, h1, d, g, c, i⟩ | ⟨k, h1, d, g, c, i⟩ <;>
 rcases iK t with ⟨k', g1, g2, g3, g4⟩ | ⟨k', g1, g2, g3, g4⟩ | ⟨k', g1, g2, g3, g4, g5⟩ | ⟨k', g1, g2, g3, g4, g5⟩ <;> simp only at k k' d g c g2 g3 g4 <;> (try omega)
 ·rw [aB k, aB k] at h
  simp [pJ (j h), d, g, c, g2, g3, g4]
 ·rw [aA (by omega), aB k, aA (by omega), aB k] at h
  simp [oR (j h), d, g, c, g2, g3, g4]
 ·rw [aA (by omega), aA (by omega), aB k, aA (by omega), aA (by omega), aB k] at h
  obtain ⟨n, o⟩ := oR h
  simp only at i g5
  simp [n, pJ (j o), c, i, g4, g5]
 ·rw [aA (by omega), aA (by omega), aA (by omega), aA (by omega), aA (by omega), aA (by omega)] at h
  obtain ⟨n, o⟩ := oR h
  simp only at i g5
  simp [n, oR (j o), c, i, g4, g5]
theorem sX : qE (fun a b => pT a b = true) (fun c => fM c = true) := by
 refine ⟨fun x _ h => ?_, fun x y z _ _ _ h1 i => vz _ _ _ h1 i, fun x y d g => ?_⟩
 ·unfold pT at h; rw [rn] at h; cases h
 ·rcases vP (vX x) (vX y) with h | h | h
  ·exact .inl h
  ·refine .inr (.inl (yL d g ?_))
   unfold vX at h
   rw [aB d, aB g] at h
   exact tY (oE d) (oE g) h
  ·exact .inr (.inr h)
def lO {α : Type} (R : α → Bool) (lt : α → α → Bool) (last : Option α) : List α → Bool → α → Bool × α
 | [], ok, b => (ok, b)
 | x :: xs, ok, b => if R x && last.all (fun y => lt y x) && (!ok || lt x b) then lO R lt last xs true x else lO R lt last xs ok b
def vk {α : Type} (w : Nat) (R : α → Bool) (lt : α → α → Bool) (d : α) (l : List α) : Nat → List α → Option (List α)
 | 0, _ => none
 | n + 1, out => if !(lO R lt out.getLast? l false d).1 then some out else (lV w out [(lO R lt out.getLast? l false d).2]).bind fun o => vk w R lt d l n o
section
variable {α : Type} {R : α → Bool} {lt : α → α → Bool}
theorem rM (H : qE (fun a b => lt a b = true) (fun x => R x = true)) (last : Option α) : ∀ (l : List α) (ok : Bool) (b : α), (ok = true → R b = true ∧ last.all (fun y => lt y b) = true) →
  ((lO R lt last l ok b).1 = false → ok = false ∧ ∀ x ∈ l, R x = true → last.all (fun y => lt y x) = false) ∧
  ((lO R lt last l ok b).1 = true → R (lO R lt last l ok b).2 = true ∧ last.all (fun y => lt y (lO R lt last l ok b).2) = true ∧ ((lO R lt last l ok b).2 ∈ l ∨ (ok = true ∧ (lO R lt last l ok b).2 = b)) ∧
   (∀ x ∈ l, R x = true → last.all (fun y => lt y x) = true → lt x (lO R lt last l ok b).2 = false) ∧ (ok = true → lt b (lO R lt last l ok b).2 = false))
 | [], ok, b, j => by
  simp only [lO]
  exact ⟨fun h => ⟨h, by simp⟩, fun h => ⟨(j h).1, (j h).2, .inr ⟨h, trivial⟩, by simp, fun _ => by
   cases n : lt b b with
   | false => rfl
   | true => exact absurd n (H.irrefl b (j h).1)⟩⟩
 | x :: xs, ok, b, j => by
  rw [lO]
  by_cases k : (R x && last.all (fun y => lt y x) && (!ok || lt x b)) = true
  ·rw [aB k]
   simp only [aX, cY, Bool.not_eq_true'] at k
   obtain ⟨⟨A, t⟩, u⟩ := k
   obtain ⟨h1, s⟩ := rM H last xs true x (fun _ => ⟨A, t⟩)
   refine ⟨fun h => ?_, fun h => ?_⟩
   ·cases (h1 h).1
   ·obtain ⟨p, a2, a3, a4, a5⟩ := s h
    refine ⟨p, a2, ?_, ?_, ?_⟩
    ·rcases a3 with a3 | ⟨_, a3⟩
     ·exact .inl (by simp [a3])
     ·exact .inl (by rw [a3]; simp)
    ·intro y g c d
     rcases aF.1 g with rfl | g
     ·exact a5 rfl
     ·exact a4 y g c d
    ·intro i
     cases n : lt b (lO R lt last xs true x).2 with
     | false => rfl
     | true =>
      have v : lt x b = true := by rcases u with h | h; rw [i] at h; cases h; exact h
      have := H.trans x b _ A (j i).1 p v n
      simp only [a5 rfl] at this
      cases this
  ·rw [aA k]
   obtain ⟨h1, s⟩ := rM H last xs ok b j
   refine ⟨fun h => ⟨(h1 h).1, fun y g c => ?_⟩, fun h => ?_⟩
   ·rcases aF.1 g with rfl | g
    ·have i := (h1 h).1
     cases t : last.all (fun z => lt z y) with
     | false => rfl
     | true => exact absurd (by simp [c, t, i]) k
    ·exact (h1 h).2 y g c
   ·obtain ⟨p, a2, a3, a4, a5⟩ := s h
    refine ⟨p, a2, ?_, ?_, a5⟩
    ·rcases a3 with a3 | a3
     ·exact .inl (by simp [a3])
     ·exact .inr a3
    ·intro y g c d
     rcases aF.1 g with rfl | g
     ·cases n : lt y (lO R lt last xs ok b).2 with
      | false => rfl
      | true =>
       cases ok with
       | false => exact absurd (by simp [c, d]) k
       | true =>
        have w : lt y b = false := by
         cases D : lt y b with
         | false => rfl
         | true => exact absurd (by simp [c, d, D]) k
        have q := j rfl
        rcases H.total y b c q.1 with o | o | o
        ·rw [w] at o; cases o
        ·subst o; rw [a5 rfl] at n; cases n
        ·have := H.trans b y _ q.1 c p o n
         simp only [a5 rfl] at this
         cases this
     ·exact a4 y g c d
theorem oH (H : qE (fun a b => lt a b = true) (fun x => R x = true)) {l : List α} (d : ∀ x ∈ l, R x = true) (h : l.Pairwise (fun a b => lt a b = true)) : l.Nodup := by
 refine h.imp_of_mem (fun {a b} ha g c e => ?_)
 subst e
 exact H.irrefl a (d a ha) c
theorem jN : ∀ {l m : List α}, l.Nodup → (∀ x ∈ l, x ∈ m) → l.length ≤ m.length
 | [], _, _, _ => by simp
 | x :: l, m, g, c => by
  obtain ⟨A, B, rfl⟩ := List.append_of_mem (c x (by simp))
  have a := ck.1 g
  have := jN (l := l) (m := A ++ B) a.2 (fun y d => by
   have := c y (bZ _ d)
   simp only [aY, aF] at this ⊢
   rcases this with h | h | h
   ·exact .inl h
   ·subst h; exact absurd d a.1
   ·exact .inr h)
  simp at this ⊢; omega
theorem uE (H : qE (fun a b => lt a b = true) (fun x => R x = true)) {w : Nat} (hw : w ≤ 1000) (d : α) (l : List α) (J : l.length ≤ 1000000000) : ∀ (n : Nat) (out : List α), l.length < n + out.length → out.Pairwise (fun a b => lt a b = true) → (∀ x ∈ out, x ∈ l ∧ R x = true) →
  (∀ x ∈ l, R x = true → x ∈ out ∨ out.getLast?.all (fun y => lt y x) = true) → ∃ s, vk w R lt d l n out = some s ∧ oa (fun a b => lt a b = true) (fun x => R x = true) l s
 | 0, out, K, hp, hm, v => by
  exfalso
  have := jN (oH H (fun x c => (hm x c).2) hp) (fun x c => (hm x c).1)
  omega
 | n + 1, out, K, hp, hm, v => by
  rw [vk]
  obtain ⟨h1, G⟩ := rM H out.getLast? l false d (fun h => by cases h)
  have hlen := jN (oH H (fun x c => (hm x c).2) hp) (fun x c => (hm x c).1)
  cases F : (lO R lt out.getLast? l false d).1 with
  | false =>
   rw [aB (by simp)]
   refine ⟨out, rfl, hp, fun x => ⟨hm x, fun c => ?_⟩⟩
   rcases v x c.1 c.2 with h | h
   ·exact h
   ·rw [(h1 F).2 x c.1 c.2] at h; cases h
  | true =>
   rw [aA (by simp)]
   obtain ⟨t, a2, a3, a4, _⟩ := G F
   generalize (lO R lt out.getLast? l false d).2 = b at *
   have u : b ∈ l := by rcases a3 with h | ⟨h, _⟩; exact h; cases h
   have p : ∀ y ∈ out, lt y b = true := by
    intro y g
    obtain ⟨A, z, rfl⟩ : ∃ A z, out = A ++ [z] := by
     rcases List.eq_nil_or_concat out with h | ⟨A, z, h⟩
     ·subst h; cases g
     ·exact ⟨A, z, by rw [h]; simp⟩
    simp at a2
    rcases aY.1 g with g | g
    ·have D : lt y z = true := (dO.1 hp).2.2 y g z (by simp)
     exact H.trans y z b (hm y (by simp [g])).2 (hm z (by simp)).2 t D a2
    ·simp at g; subst g; exact a2
   have q : (out ++ [b]).Pairwise (fun a b => lt a b = true) := dO.2 ⟨hp, by simp, fun x c y g => by simp at g; subst g; exact p x c⟩
   have k : ∀ x ∈ out ++ [b], x ∈ l ∧ R x = true := fun x c => by
    rcases aY.1 c with c | c
    ·exact hm x c
    ·simp at c; subst c; exact ⟨u, t⟩
   have j := jN (oH H (fun x c => (k x c).2) q) (fun x c => (k x c).1)
   simp at j
   rw [sf (by simp only [aU, bw]; have : (out.length + (0 + 1)) * w ≤ 1000000000 * 1000 := Nat.mul_le_mul (by omega) hw; omega) (by simp; omega)]
   simp only [aw]
   refine uE H hw d l J n (out ++ [b]) (by simp; omega) q k (fun x c i => ?_)
   rcases v x c i with h | h
   ·exact .inl (by simp [h])
   ·have I := a4 x c i h
    rcases H.total x b i t with o | o | o
    ·rw [I] at o; cases o
    ·subst o; exact .inl (by simp)
    ·exact .inr (by simp [o])
end
theorem zt {α : Type} (A : List α) (x : α) (a : A.length < 4611686018427387904) : kk (A ++ [x]) (wi0 .i64 (((A ++ [x]).length : Int) - 1)) = some x := by
 rw [gj (by simp; try omega) (by simp; try omega)]
 rw [mT A x [] _ (by simp; try omega)]
theorem sN (out : List eX) (k : out.length < 4611686018427387904) : ∀ (l : List eX) (ok : Bool) (b : eX), kD out l ok b = some (lO fM pT out.getLast? l ok b)
 | [], ok, b => rfl
 | x :: xs, ok, b => by
  rw [kD, lO]
  have cmp : ∀ a b, ∃ c, lc a b = some c ∧ decide (c < 0) = pT a b := fun a b => by
   obtain ⟨c, h1, j⟩ := rN a b
   exact ⟨c, h1, by rw [cH, ← j]; simp⟩
  rw [jE, sN out k xs true x, sN out k xs ok b]
  obtain ⟨c, h1, j⟩ := cmp x b
  rcases List.eq_nil_or_concat out with h | ⟨A, z, h⟩
  ·subst h
   simp only [h1, aw, j, bw, Option.all, List.getLast?_nil]
   generalize pT x b = p
   cases fM x <;> cases ok <;> cases p <;> simp
  ·have i : out = A ++ [z] := by rw [h]; simp
   obtain ⟨u, s, t⟩ := cmp z x
   have d : out.getLast? = some z := by rw [i]; simp
   have g : kk out (wi0 .i64 ((out.length : Int) - 1)) = some z := by rw [i]; exact zt A z (by rw [i] at k; simp at k; omega)
   have n : ((out.length : Int) == 0) = false := by rw [i]; simp; omega
   rw [d]
   simp only [n, g, s, h1, aw, j, t, Option.all]
   rcases dx (pT x b) with hp | hp <;> rcases dx (pT z x) with o | o <;> rcases dx (fM x) with q | q <;> cases ok <;> simp [hp, o, q]
theorem zT (a : List eX) : ∀ (n : Nat) (out s : List eX), vk 136 fM pT (⟨0, ⟨zS, zS⟩, zS, ⟨zS, zS⟩, ⟨zS, zS⟩, zS⟩ : eX) a n out = some s → s.length < 4611686018427387904 → mW a n out = some s ∧ out.length ≤ s.length
 | 0, out, s, h, _ => by cases h
 | n + 1, out, s, h, i => by
  rw [vk] at h
  rw [mW]
  have key : out.length ≤ s.length → kD out a false (⟨0, ⟨zS, zS⟩, zS, ⟨zS, zS⟩, ⟨zS, zS⟩, zS⟩ : eX) = _ := fun k => sN out (by omega) a false _
  split at h
  ·rename_i h1
   cases h
   rw [key (aQ _)]
   simp only [aw]
   rw [aB h1]
   exact ⟨rfl, aQ _⟩
  ·rename_i h1
   obtain ⟨o, c, d⟩ := bind_some h
   have g := zT a n o s d i
   have j : out.length + 1 = o.length := by
    unfold lV at c; split at c
    ·cases c; simp
    ·cases c
   rw [key (by omega)]
   simp only [aw]
   rw [aA h1, c]
   exact ⟨g.1, by omega⟩
abbrev tg (l s : List eX) := oa (fun a b => pT a b = true) (fun x => fM x = true) l s
theorem wu {α : Type} {lt : α → α → Bool} {R : α → Bool} (H : qE (fun a b => lt a b = true) (fun x => R x = true)) {l s : List α} (h : oa (fun a b => lt a b = true) (fun x => R x = true) l s) : s.length ≤ l.length :=
 jN (oH H (fun x c => ((h.2 x).1 c).2) h.1) (fun x c => ((h.2 x).1 c).1)
theorem Ax (l : List eX) (c : l.length ≤ 1000000000) : ∃ s, qa l = some s ∧ tg l s := by
 obtain ⟨s, h1, a⟩ := uE sX (w := 136) (by omega) (⟨0, ⟨zS, zS⟩, zS, ⟨zS, zS⟩, ⟨zS, zS⟩, zS⟩ : eX) l c iv [] (by rw [mq]; omega) (by simp) (by simp) (fun x _ _ => .inr rfl)
 exact ⟨s, (zT l iv [] s h1 (by have := wu sX a; omega)).1, a⟩
def zC : eX := ⟨0, ⟨zS, zS⟩, zS, ⟨zS, zS⟩, ⟨zS, zS⟩, zS⟩
theorem wU (f : eX → Option Bool) : ∀ (n : Nat) (l : List eX) (i j : Int), gG f n l i j = sK f zC n l i j
 | 0, _, _, _ => rfl
 | n + 1, l, i, j => by
  rw [gG, sK]
  simp only [wU f n]
  rfl
theorem xn (f : eX → Option Bool) : ∀ (l : List eX) (i : Nat), iq f l i = sR f l i
 | [], _ => rfl
 | x :: l, i => by rw [iq, sR]; simp only [xn f l]
theorem zM (f : eX → Option Bool) (l : List eX) : je l f = xU f zC l := by
 unfold je xU kQ
 simp only [xn, wU]
theorem vr (i : Int) : ∀ (n : Nat) (l : List eX) (k j : Int), gZ i n l k j = rS jF i n l k j
 | 0, _, _, _ => rfl
 | n + 1, l, k, j => by
  rw [gZ, rS]
  simp only [vr i n]
theorem vA (l : List eX) : ∀ (n : Nat) (i : Int), hU l n i = sO jF zC l n i
 | 0, _ => rfl
 | n + 1, i => by
  rw [hU, sO]
  simp only [vA l n, vr]
  rfl
theorem zD (l : List eX) : ke l = xT jF zC l := by
 unfold ke xT
 simp only [vA]
theorem Bh {l : List eX} (a : l.length ≤ 1000000000) : js l = some l := by
 unfold js
 rw [sf (by simp; omega) (by simp; omega)]
 simp
theorem Cj (l : List eX) (d : l.length ≤ 1000000000) : ∃ s, od l = some s ∧ tg l s := by
 unfold od
 rw [Bh d]
 simp only [aw]
 rw [zM, zu _ (fun x => !fM x) zC l (by omega) (fun x _ => by simp [nv, lh])]
 simp only [aw, Bool.not_not]
 have i : (l.filter fun x => fM x).length ≤ l.length := List.length_filter_le _ _
 obtain ⟨s, h1, h, c⟩ := wM (eq := jF) (lt := fun a b => pT a b = true) (P := fun x => fM x = true) (cf := fun x => kC x.1 x.2) (l := l.filter fun x => fM x) (fun x y => sw) sX (fun x g => (List.mem_filter.1 g).2) (by omega) (fun x y _ _ => sh x y)
 rw [h1]
 simp only [aw]
 rw [zD, zA _ _ _ (by omega)]
 refine ⟨_, rfl, c.1, fun x => ?_⟩
 rw [c.2]
 simp
def sM {κ : Type} (beq : κ → κ → Bool) (a : List κ) (k : κ) : Bool := a.any fun x => beq k x
def ins {κ : Type} (beq : κ → κ → Bool) (a : List κ) (k : κ) : List κ := if sM beq a k then a else a ++ [k]
section
variable {κ : Type} {beq : κ → κ → Bool}
theorem zH (c : ∀ {x y}, beq x y = true ↔ x = y) (a : List κ) (k : κ) : sM beq a k = true ↔ k ∈ a := by
 simp [sM, List.any_eq_true, c]
end
theorem oa.congr {α : Type} {lt : α → α → Prop} {P : α → Prop} {l m s : List α} (h : oa lt P l s) (hm : ∀ x, x ∈ l ↔ x ∈ m) : oa lt P m s := ⟨h.1, fun x => by rw [h.2, hm]⟩
theorem ve : ∀ (l : List eX) (n : Int), 0 ≤ n → n ≤ 4000000000000000000 → (∀ c ∈ l, c.Head.eY.size + c.Head.eZ.size + c.fD.size + c.B.eY.size + c.B.eZ.size + c.C.eY.size + c.C.eZ.size + c.fw.size ≤ 1000000000) → n + l.length * 1000000020 ≤ 4000000000000000000 →
  ∃ r, kJ l n = some r ∧ n + 20 * l.length ≤ r
 | [], n, _, _, _, _ => ⟨n, rfl, by simp⟩
 | c :: l, n, o, h1, a, i => by
  have h := a c (by simp)
  simp only [aU] at i ⊢
  rw [kJ]
  rw [gj (x := 20 + (c.Head.eY.size : Int)) (by omega) (by omega), gj (x := 20 + (c.Head.eY.size : Int) + (c.Head.eZ.size : Int)) (by omega) (by omega), gj (x := 20 + (c.Head.eY.size : Int) + (c.Head.eZ.size : Int) + (c.fD.size : Int)) (by omega) (by omega), gj (x := 20 + (c.Head.eY.size : Int) + (c.Head.eZ.size : Int) + (c.fD.size : Int) + (c.B.eY.size : Int)) (by omega) (by omega), gj (x := 20 + (c.Head.eY.size : Int) + (c.Head.eZ.size : Int) + (c.fD.size : Int) + (c.B.eY.size : Int) + (c.B.eZ.size : Int)) (by omega) (by omega), gj (x := 20 + (c.Head.eY.size : Int) + (c.Head.eZ.size : Int) + (c.fD.size : Int) + (c.B.eY.size : Int) + (c.B.eZ.size : Int) + (c.C.eY.size : Int)) (by omega) (by omega), gj (x := 20 + (c.Head.eY.size : Int) + (c.Head.eZ.size : Int) + (c.fD.size : Int) + (c.B.eY.size : Int) + (c.B.eZ.size : Int) + (c.C.eY.size : Int) + (c.C.eZ.size : Int)) (by omega) (by omega), gj (x := 20 + (c.Head.eY.size : Int) + (c.Head.eZ.size : Int) + (c.fD.size : Int) + (c.B.eY.size : Int) + (c.B.eZ.size : Int) + (c.C.eY.size : Int) + (c.C.eZ.size : Int) + (c.fw.size : Int)) (by omega) (by omega), gj (by omega) (by omega)]
  obtain ⟨r, g, k⟩ := ve l (n + (20 + (c.Head.eY.size : Int) + (c.Head.eZ.size : Int) + (c.fD.size : Int) + (c.B.eY.size : Int) + (c.B.eZ.size : Int) + (c.C.eY.size : Int) + (c.C.eZ.size : Int) + (c.fw.size : Int))) (by omega) (by omega) (fun d j => a d (by simp [j])) (by omega)
  exact ⟨r, g, by omega⟩
def pF (c : eX) : Nat := c.Head.eY.size + c.Head.eZ.size + c.fD.size + c.B.eY.size + c.B.eZ.size + c.C.eY.size + c.C.eZ.size + c.fw.size
theorem zr (l : List eX) (d : l.length ≤ 100000000) (a : ∀ c ∈ l, pF c ≤ 1000000000) : ∃ r, oY l = some r := by
 obtain ⟨r, h, _⟩ := ve l 0 (by omega) (by omega) a (by omega)
 exact ⟨r, h⟩
section
variable {κ γ : Type} {beq : κ → κ → Bool}
theorem Ak (a : ∀ {x y}, beq x y = true ↔ x = y) {l : List (κ × γ)} {k : κ} (h : ∀ p ∈ l, p.1 ≠ k) : iu beq l k = none := by
 unfold iu
 rw [List.find?_eq_none.2 (fun p hp c => h p hp (a.1 c).symm)]
 rfl
theorem AL (a : ∀ {x y}, beq x y = true ↔ x = y) {l : List (κ × γ)} {k : κ} {y : γ} (h : ∀ p ∈ l, p.1 ≠ k) : mC beq l k y = l ++ [(k, y)] := by
 refine rG (List.findIdx?_eq_none_iff.2 (fun p hp => ?_)) y
 cases c : beq k p.1 with
 | false => rfl
 | true => exact absurd (a.1 c).symm (h p hp)
theorem ry (p : κ × γ) (l : List (κ × γ)) (k : κ) : iu beq (p :: l) k = if beq k p.1 = true then some p.2 else iu beq l k := by
 unfold iu
 rw [List.find?_cons]
 cases beq k p.1 <;> simp
end
def qA : fu := ⟨⟨#[97]⟩, ⟨#[114]⟩⟩
def qB : fu := ⟨⟨#[98]⟩, ⟨#[115]⟩⟩
def qd : ByteArray := ⟨#[100]⟩
def j1 : eX := ⟨2, qA, zS, qB, ⟨zS, zS⟩, zS⟩
def j2 : eX := ⟨1, qB, qd, ⟨zS, zS⟩, ⟨zS, zS⟩, zS⟩
def up (w : ByteArray) (g : ByteArray → Nat) : ByteArray → Nat := fun x => if fU w x = true then g x + 1 else g x
def tot {α : Type} (a : List (List α)) : Nat := (a.map List.length).sum
instance decRole : DecidableEq fu := fun a b => decidable_of_iff (ie a b = true) jM
def B8 (l : List Int) : Prop := ∀ x ∈ l, 0 ≤ x ∧ x < 256
theorem B8.zW {a b : List Int} (ha : B8 a) (c : B8 b) : B8 (a ++ b) := fun x d => (aY.1 d).elim (ha x) (c x)
theorem As {a b : List Int} (ha : B8 a) (c : B8 b) : fX a = fX b ↔ a = b :=
 ⟨fun h => tY ha c (by rw [← jB, ← jB, h]), fun h => by rw [h]⟩
theorem td {l : List Int} (h : B8 l) : jv (fX l) = l := by
 unfold jv
 rw [jB]
 unfold lR
 rw [bV]
 conv => rhs; rw [← List.map_id l]
 apply dV
 intro x c
 have := h x c
 simp only [Function.comp, id]
 have a : x.toNat.toUInt8.toNat = x.toNat := by rw [Nat.toUInt8_eq, ek]; omega
 rw [a]; omega
theorem xQ {l : List Int} (h : B8 l) (a : l.length ≤ 1000000) : nZ (fX l) = some l := by
 unfold nZ
 rw [td h, jG, aB (by simp only [maxLen]; omega)]
def vB (h x : Int) : Int := IntKind.u64.wrap ((IntKind.u64.wrap (BitVec.ofInt (IntKind.bits .u64) h ^^^ BitVec.ofInt (IntKind.bits .u64) (IntKind.u64.wrap x)).toNat) * 1099511628211)
def vh (l : List Int) : Int := l.foldl vB 14695981039346656037
theorem AF (n : Int) : 0 ≤ IntKind.u64.wrap n ∧ IntKind.u64.wrap n < 18446744073709551616 := by
 simp only [IntKind.wrap, IntKind.bits, IntKind.signed]; constructor
 ·simp; omega
 ·simp; omega
theorem vQ (l : List Int) : 0 ≤ vh l ∧ vh l < 18446744073709551616 := by
 have : ∀ (l : List Int) (h : Int), (0 ≤ h ∧ h < 18446744073709551616) → 0 ≤ l.foldl vB h ∧ l.foldl vB h < 18446744073709551616 := by
  intro l
  induction l with
  | nil => intro h a; exact a
  | cons x l ih => intro h a; exact ih _ (AF _)
 exact this l _ (by omega)
theorem ym : ∀ (l : List Int) (h : Int), mG l h = some (l.foldl vB h)
 | [], h => rfl
 | x :: l, h => by rw [mG, ym l]; rfl
theorem yJ : ∀ (a : List (List Int)) (h : Int), mL a h = some (a.flatten.foldl vB h)
 | [], h => rfl
 | l :: a, h => by rw [mL, ym, aw, yJ a, bJ, List.foldl_append]
theorem Bs (a : List (List Int)) : rC a = some (vh a.flatten) := yJ a _
theorem uG (s : ByteArray) (c : s.size ≤ 10000000) : ∀ (B A : List UInt8) (h : Int) (n : Nat), s.data.toList = A ++ B → B.length < n → lI s n h (A.length : Int) = some ((B.map fun b => (b.toNat : Int)).foldl vB h)
 | [], A, h, n + 1, e, _ => by
  have : s.size = A.length := by rw [kA, e]; simp
  rw [lI, aA (by simp [this])]; rfl
 | b :: B, A, h, n + 1, e, a => by
  have d : s.size = A.length + (B.length + 1) := by rw [kA, e]; simp
  rw [lI, aB (by simp; omega), tO e _ rfl, aw, gj (by omega) (by omega)]
  have := uG s c B (A ++ [b]) (vB h (b.toNat : Int)) n (by rw [e]; simp) (by simp only [aU] at a; omega)
  simp only [aK, aU, bw, eF] at this
  rw [aT, eP, ← this]
  rfl
theorem Be {l : List Int} (h : B8 l) (a : l.length ≤ 1000000) : pZ (fX l) = some (vh l) := by
 unfold pZ
 have := uG (fX l) (by rw [jG]; omega) (fX l).data.toList [] 14695981039346656037 iv rfl (by rw [← kA, jG, mq]; omega)
 rw [show ((fX l).data.toList.map fun b => (b.toNat : Int)) = l from td h] at this
 exact this
def yu (H : Int) : List Int := [H / 72057594037927936 % 256, H / 281474976710656 % 256, H / 1099511627776 % 256, H / 4294967296 % 256, H / 16777216 % 256, H / 65536 % 256, H / 256 % 256, H % 256]
theorem Ck (H : Int) : B8 (yu H) := by
 intro x a
 simp only [yu, aF, bi, cC] at a
 rcases a with rfl | rfl | rfl | rfl | rfl | rfl | rfl | rfl <;> omega
theorem AJ (H : Int) (hH : 0 ≤ H ∧ H < 18446744073709551616) : ((qn 1 (0 : Int) 8).bind fun l => ki H l 0 l) = some (yu H) := by
 have c : qn 1 (0 : Int) 8 = some [0, 0, 0, 0, 0, 0, 0, 0] := by unfold qn; rw [aB (by simp [maxLen])]; rfl
 rw [c, aw]
 have h : ∀ n : Nat, n ≤ 7 → wi0 .i64 (8 * wi0 .i64 (7 - (n : Int))) = 8 * (7 - (n : Int)) := fun n k => by
  rw [gj (x := 7 - (n : Int)) (by omega) (by omega), gj (by omega) (by omega)]
 have step : ∀ (x : Int) (xs l : List Int) (i : Nat) (d : Int), i ≤ 7 → l.length = 8 → IntKind.u8.wrap (Int.fdiv H (2 ^ min (Int.toNat (8 * (7 - (i : Int)))) (IntKind.bits .u64))) = d → ki H (x :: xs) i l = ki H xs (i + 1) (l.set i d) := by
  intro x xs l i d hi j g
  rw [ki, h i hi, g]
  have : kO (decide (0 ≤ 8 * (7 - (i : Int)))) = some () := by simp [kO]; omega
  rw [this, aw]
  have : kk l (i : Int) = some l[i] := by unfold kk; rw [aB (by omega)]; simp
  rw [this, aw]
  rfl
 have a : ∀ n : Int, IntKind.u8.wrap n = n % 256 := fun n => by rw [IntKind.wrap_u8]
 have fd : ∀ m : Int, 0 < m → Int.fdiv H m = H / m := fun m hm => Int.fdiv_eq_ediv_of_nonneg _ (by omega)
 rw [step _ _ _ 0 (H / 72057594037927936 % 256) (by omega) rfl (by rw [a, fd _ (by decide)]; rfl)]
 rw [step _ _ _ 1 (H / 281474976710656 % 256) (by omega) rfl (by rw [a, fd _ (by decide)]; rfl)]
 rw [step _ _ _ 2 (H / 1099511627776 % 256) (by omega) rfl (by rw [a, fd _ (by decide)]; rfl)]
 rw [step _ _ _ 3 (H / 4294967296 % 256) (by omega) rfl (by rw [a, fd _ (by decide)]; rfl)]
 rw [step _ _ _ 4 (H / 16777216 % 256) (by omega) rfl (by rw [a, fd _ (by decide)]; rfl)]
 rw [step _ _ _ 5 (H / 65536 % 256) (by omega) rfl (by rw [a, fd _ (by decide)]; rfl)]
 rw [step _ _ _ 6 (H / 256 % 256) (by omega) rfl (by rw [a, fd _ (by decide)]; rfl)]
 rw [step _ _ _ 7 (H % 256) (by omega) rfl (by rw [a, fd _ (by decide)]; simp)]
 rfl
theorem Br (H : Int) (hH : 0 ≤ H ∧ H < 18446744073709551616) : jh iv H zS 0 = some (fX (yu H)) := by
 have q : ∀ n : Int, 0 ≤ n → IntKind.u8.wrap (Int.tmod n 256) = n % 256 := fun n o => by
  rw [IntKind.wrap_u8, Int.tmod_eq_emod_of_nonneg o]; omega
 have step : ∀ (n : Nat) (x : Int) (l : List Int) (i : Nat), i < 8 → 0 ≤ x ∧ x < 18446744073709551616 → l.length ≤ 100 → jh (n + 1) x (fX l) (i : Int) = jh n (x / 256) (fX (x % 256 :: l)) ((i + 1 : Nat) : Int) := by
  intro n x l i hi a s
  rw [jh, aB (by simp; omega), q x a.1, kW, jj _ _ (by simp; omega), aw, Int.tdiv_eq_ediv_of_nonneg a.1, IntWalk.u64_in _ (by omega), gj (by omega) (by omega)]
  rfl
 have p : zS = fX [] := oM rfl
 rw [mq, p]
 rw [show (18446744073709551616 : Nat) = 18446744073709551607 + 9 from rfl]
 rw [show (0 : Int) = ((0 : Nat) : Int) from rfl, step _ _ _ 0 (by omega) hH (by simp), step _ _ _ 1 (by omega) (by omega) (by simp), step _ _ _ 2 (by omega) (by omega) (by simp), step _ _ _ 3 (by omega) (by omega) (by simp), step _ _ _ 4 (by omega) (by omega) (by simp), step _ _ _ 5 (by omega) (by omega) (by simp), step _ _ _ 6 (by omega) (by omega) (by simp), step _ _ _ 7 (by omega) (by omega) (by simp)]
 rw [jh, aA (by simp)]
 have c : H / 256 / 256 = H / 65536 := by omega
 have d : H / 65536 / 256 = H / 16777216 := by omega
 have g : H / 16777216 / 256 = H / 4294967296 := by omega
 have h : H / 4294967296 / 256 = H / 1099511627776 := by omega
 have j : H / 1099511627776 / 256 = H / 281474976710656 := by omega
 have k : H / 281474976710656 / 256 = H / 72057594037927936 := by omega
 rw [c, d, g, h, j, k]
 rfl
def jQ (k b : List Int) : List Int := yu (vh ((k.length : Int) :: (k ++ (b ++ k))))
theorem pE (k b : List Int) : B8 (jQ k b) := Ck _
theorem ul {k : List Int} (b : List Int) (h : 1 ≤ k.length ∧ k.length ≤ 32) : nO k b = some (jQ k b) := by
 have a : jH k = some true := by
  unfold jH
  rw [cE (show (k.length : Int) ≥ 1 by omega), cE (show (k.length : Int) ≤ 32 by omega)]; rfl
 unfold nO
 rw [a]
 simp only [aw, bT, ay, aI]
 rw [Bs]
 simp only [aw]
 rw [AJ _ (vQ _), show IntKind.u8.wrap (k.length : Int) = (k.length : Int) from IntWalk.u8_in _ (by omega)]
 simp [jQ]
theorem Ap {k b : List Int} (hk : B8 k) (c : B8 b) (h : 1 ≤ k.length ∧ k.length ≤ 32) (g : b.length ≤ 10000) : pt (fX k) (fX b) = some (fX (jQ k b)) := by
 unfold pt
 rw [kW, jG, show IntKind.u8.wrap (k.length : Int) = (k.length : Int) from IntWalk.u8_in _ (by omega), jj _ _ (by simp only [aU, bw]; omega)]
 simp only [aw]
 rw [jj _ _ (by simp; omega)]
 simp only [aw]
 rw [jj _ _ (by simp; omega)]
 simp only [aw]
 have a : B8 ([(k.length : Int)] ++ k ++ b ++ k) := ((B8.zW (fun x d => by rw [aV] at d; omega) hk).zW c).zW hk
 rw [Be a (by simp; omega), aw, Br _ (vQ _)]
 simp [jQ]
def mH : List ByteArray → List Key → Int
 | _, [] => 0
 | seen, k :: l => if gJ k.fD = false then 30 else if k.Key.length < 1 ∨ 32 < k.Key.length then 21 else if sM fU seen k.fD = true then 41 else mH (seen ++ [k.fD]) l
def iS (l : List Key) : List (ByteArray × List Int) := l.map fun k => (k.fD, k.Key)
def po (l : List Key) (o : ByteArray) : Option (List Int) := iu fU (iS l) o
theorem zI (a b : List Key) : iS (a ++ b) = iS a ++ iS b := by simp [iS]
theorem zw (acc : List Key) (w : ByteArray) : (iu fU (iS acc) w).isSome = sM fU (acc.map (·.fD)) w := by
 induction acc with
 | nil => rfl
 | cons k l ih =>
  rw [show iS (k :: l) = (k.fD, k.Key) :: iS l from rfl, ry]
  simp only [aT, sM, List.any_cons] at ih ⊢
  cases h : fU w k.fD <;> simp [ih]
theorem tp {l : List Int} (h : l.length ≤ 1000000) : gN l = some l := by
 unfold gN
 rw [qO (by simpa using h)]; rfl
theorem Co (k : Key) : (if decide ((k.Key.length : Int) < 1) = true then some true else some (decide ((k.Key.length : Int) > 32)) : Option Bool) = some (decide (k.Key.length < 1 ∨ 32 < k.Key.length)) := by
 rw [Bool.decide_or]
 by_cases h : k.Key.length < 1
 ·rw [aB (by simp; omega), cE h, Bool.true_or]
 ·rw [aA (by simp; omega), decide_eq_false h, Bool.false_or]
  congr 1; apply decide_eq_decide.2; omega
theorem tq : ∀ (l acc : List Key), kY l (iS acc) = some (if mH (acc.map (·.fD)) l = 0 then (some (⟨iS (acc ++ l)⟩ : gf), 0) else (none, mH (acc.map (·.fD)) l))
 | [], acc => by rw [kY]; simp [mH]
 | k :: l, acc => by
  rw [kY, lu, aw]
  unfold mH
  cases g : gJ k.fD
  ·simp
  ·simp only [bT, ay, aI]
   rw [Co, aw]
   by_cases hk : k.Key.length < 1 ∨ 32 < k.Key.length
   ·simp only [hk, cy, aO]
    rw [aA (by simp), aA (by decide)]
   ·simp only [hk, cM, ay, aI]
    rw [zw]
    cases a : sM fU (acc.map (·.fD)) k.fD
    ·simp only [ay, aI]
     rw [tp (by omega), aw]
     have c : ∀ p ∈ iS acc, p.1 ≠ k.fD := by
      intro p hp e
      obtain ⟨q, d, rfl⟩ := aS.1 hp
      have := (zH gz (acc.map (·.fD)) k.fD).2 (aS.2 ⟨q, d, e⟩)
      rw [this] at a; cases a
     unfold wj
     rw [Ak gz c, AL gz c]
     simp only [Option.isNone_none, aO, aw]
     have := tq l (acc ++ [k])
     rw [zI] at this
     rw [show iS acc ++ [(k.fD, k.Key)] = iS acc ++ iS [k] from rfl, this]
     simp
    ·simp
theorem tR (l : List Key) : nQ l = some (if mH [] l = 0 then (some (⟨iS l⟩ : gf), 0) else (none, mH [] l)) := tq l []
theorem xc : ∀ (l : List Key) (seen : List ByteArray), mH seen l = 0 → ∀ k ∈ l, 1 ≤ k.Key.length ∧ k.Key.length ≤ 32
 | [], _, _, _, hk => by cases hk
 | x :: l, seen, h, k, hk => by
  unfold mH at h
  split at h
  ·cases h
  split at h
  ·cases h
  split at h
  ·cases h
  rcases aF.1 hk with rfl | hk
  ·omega
  ·exact xc l _ h k hk
theorem sJ : ∀ (l : List Key) (o : ByteArray) (b : List Int), po l o = some b → ∃ k ∈ l, k.Key = b
 | [], o, b, h => by cases h
 | x :: l, o, b, h => by
  unfold po at h
  rw [show iS (x :: l) = (x.fD, x.Key) :: iS l from rfl, ry] at h
  split at h
  ·cases h; exact ⟨x, by simp, rfl⟩
  ·obtain ⟨k, hk, e⟩ := sJ l o b h
   exact ⟨k, by simp [hk], e⟩
theorem yx (x : Key) (l : List Key) (o : ByteArray) : po (x :: l) o = if fU x.fD o = true then some x.Key else po l o := by
 unfold po
 rw [show iS (x :: l) = (x.fD, x.Key) :: iS l from rfl, ry, rI]
def K8 (l : List Key) : Prop := ∀ k ∈ l, B8 k.Key
def uB : ft := ⟨(⟨0, (⟨zS, zS⟩ : fu), zS, (⟨zS, zS⟩ : fu), (⟨zS, zS⟩ : fu), zS⟩ : eX), []⟩
theorem oU {c : eX} (h : fM c = true) : (fW c).length ≤ 200 := by
 unfold fW mB
 rw [aU, aK]
 have i := gC (nl h)
 have a : ∀ s, gJ s = true → (lg s).length ≤ 17 := fun s d => by rw [jP]; have := ia d; omega
 rcases iK h with g | g | g | g <;> simp only [g.1, aO, aI, Int.reduceEq]
 ·have := a c.fD (by simp_all); omega
 ·have : (iQ c.B).length ≤ 34 := gC (by simp_all)
  omega
 ·have : (iQ c.B).length ≤ 34 := gC (by simp_all)
  have := a c.fw (by simp_all)
  rw [aK]; omega
 ·have : (iQ c.B).length ≤ 34 := gC (by simp_all)
  have : (iQ c.C).length ≤ 34 := gC (by simp_all)
  rw [aK]; omega
theorem Ab (c : eX) (h : fM c = true) : jb c = some (fW c) := by rw [nW, aB h]
theorem rB (c : eX) (h : fM c = true) : kf c = some (fX (fW c)) := by
 have := nF c
 unfold mi at this
 rw [jE, h] at this
 simp only [aw, bT, ay, aI, aO] at this
 rw [← this]; cases kf c <;> rfl
structure Mk (ks : List Key) (c : eX) (k : List Int) : Prop where
 ok : mH [] ks = 0
 rt : fM c = true
 lk : po ks c.Head.eY = some k
theorem Mk.len {a : List Key} {c : eX} {k : List Int} (h : Mk a c k) : 1 ≤ k.length ∧ k.length ≤ 32 := by
 obtain ⟨q, d, rfl⟩ := sJ _ _ _ h.lk
 exact xc a [] h.ok q d
theorem Mk.b8 {a : List Key} {c : eX} {k : List Int} (h : Mk a c k) (hk : K8 a) : B8 k := by
 obtain ⟨q, d, rfl⟩ := sJ _ _ _ h.lk
 exact hk q d
theorem Mk.unique {a : List Key} {c : eX} {k k' : List Int} (h : Mk a c k) (d : Mk a c k') : k = k' := by
 have := h.lk; rw [d.lk] at this; cases this; rfl
def B4 (c : eX) : List Int := 255 :: fW c
theorem Bd {c : eX} (h : fM c = true) : B8 (B4 c) := fun x a => by
 rcases aF.1 a with rfl | a
 ·omega
 ·exact oE h x a
theorem xJ {a b : List Int} (ha : B8 a) (c : B8 b) : fU (jo a) (jo b) = decide (a = b) := by
 rw [cH, gz, kW, kW, As ha c]; simp
def tC (a : List Key) (s : ft) : Prop := ∃ k, Mk a s.eX k ∧ s.Tag = jQ k (fW s.eX)
theorem BD (a : List Key) (c : eX) : jO (some ⟨iS a⟩) c = some (if fM c = true then (match po a c.Head.eY with | some k => (k, (0 : Int)) | none => ([], 21)) else ([], 11)) := by
 unfold jO
 rw [aA (by simp), lh]
 simp only [aw]
 cases d : fM c
 ·rfl
 simp only [bT, ay, aI, aO]
 unfold po
 cases iu fU (iS a) c.Head.eY <;> rfl
theorem wV (c : eX) : ∀ l : List Key, mS c l = some (match po l c.Head.eY with | some k => (fX k, 0) | none => (zS, 21))
 | [] => rfl
 | x :: l => by
  rw [mS, yx, wV c l, kW]
  split <;> rfl
theorem AK (a : List Key) (i : mH [] a = 0) (c : eX) : ∃ r, kw (some ⟨iS a⟩) c = some r ∧ ((r.2 ≠ 0 ∧ ∀ k, ¬ Mk a c k) ∨ (r.2 = 0 ∧ ∃ k, Mk a c k ∧ r.1 = ⟨c, jQ k (fW c)⟩)) := by
 unfold kw
 rw [BD]
 simp only [aw]
 cases d : fM c
 ·exact ⟨_, rfl, .inl ⟨by simp, fun k h => by have := h.rt; rw [d] at this; cases this⟩⟩
 simp only [aO]
 cases g : po a c.Head.eY with
 | none => exact ⟨_, rfl, .inl ⟨by decide, fun k h => by have := h.lk; rw [g] at this; cases this⟩⟩
 | some k =>
  have hm : Mk a c k := ⟨i, d, g⟩
  simp only [Ab c d, aw, ul _ hm.len]
  exact ⟨_, rfl, .inr ⟨rfl, k, hm, rfl⟩⟩
theorem wh (a : List Key) (hk : K8 a) (j : mH [] a = 0) (s : ft) (g : B8 s.Tag) : ∃ e, gF (some ⟨iS a⟩) s = some e ∧ oW a s = some e ∧ (e = 0 ↔ tC a s) := by
 unfold gF oW su
 rw [BD, jE, wV]
 simp only [aw]
 cases c : fM s.eX
 ·exact ⟨11, rfl, rfl, by simp; rintro ⟨k, h, _⟩; have := h.rt; rw [c] at this; cases this⟩
 simp only [aO, bT, ay, aI, aw]
 cases d : po a s.eX.Head.eY with
 | none => exact ⟨21, rfl, rfl, by simp; rintro ⟨k, h, _⟩; have := h.lk; rw [d] at this; cases this⟩
 | some k =>
  have hm : Mk a s.eX k := ⟨j, c, d⟩
  have := oU c
  have o : mY k (fW s.eX) s.Tag = some (decide (jQ k (fW s.eX) = s.Tag)) := by
   unfold mY
   have n : jH k = some true := by
    unfold jH
    have := hm.len
    rw [cE (show (k.length : Int) ≥ 1 by omega), cE (show (k.length : Int) ≤ 32 by omega)]; rfl
   rw [n]
   simp only [aw, aO, ul _ hm.len, nu]
   rw [xJ (pE _ _) g]
  simp only [Ab _ c, rB _ c, aw, o, Ap (hm.b8 hk) (oE c) hm.len (show (fW s.eX).length ≤ 10000 by omega)]
  rw [← kW (jQ k _), xJ (pE _ _) g]
  by_cases he : jQ k (fW s.eX) = s.Tag
  ·refine ⟨0, ?_, ?_, by simp; exact ⟨k, hm, he.symm⟩⟩ <;> simp [he]
  ·refine ⟨20, ?_, ?_, ?_⟩
   ·simp [he]
   ·simp [he]
   ·simp; rintro ⟨k', i, e⟩; exact he (by rw [e, hm.unique i])
open Classical in
noncomputable def mE (ks : List Key) (s : ft) : Bool := decide (tC ks s)
theorem ph (a : List Key) (s : ft) : mE a s = true ↔ tC a s := by simp [mE]
def S8 (l : List ft) : Prop := ∀ s ∈ l, B8 s.Tag
theorem sW (a : List Key) (hk : K8 a) (g : mH [] a = 0) : ∀ (l : List ft) (acc : List eX), S8 l → acc.length + l.length ≤ 100000000 →
  gK (some ⟨iS a⟩) l acc = od (acc ++ (l.filter (mE a)).map (·.eX)) ∧ kc a l acc = qa (acc ++ (l.filter (mE a)).map (·.eX))
 | [], acc, _, _ => by rw [gK, kc]; simp [xR]
 | s :: l, acc, i, n => by
  rw [gK, kc]
  obtain ⟨e, j, k, he⟩ := wh a hk g s (i s (by simp))
  rw [j, k]
  simp only [aw]
  simp only [aU] at n
  have d : S8 l := fun x o => i x (by simp [o])
  by_cases c : e = 0
  ·have h : mE a s = true := (ph a s).2 (he.1 c)
   rw [aB (by simp [c]), aB (by simp [c]), sf (by simp; omega) (by simp; omega)]
   simp only [aw]
   have := sW a hk g l (acc ++ [s.eX]) d (by simp; omega)
   simpa [List.filter_cons, h] using this
  ·have h : mE a s = false := by rw [← eC, ph, ← he]; exact c
   rw [aA (by simp [c]), aA (by simp [c])]
   have := sW a hk g l acc d (by omega)
   simpa [List.filter_cons, h] using this
theorem yZ (a : List Key) (hk : K8 a) (h : mH [] a = 0) (l : List ft) (i : S8 l) (j : l.length ≤ 10000000) : ∃ G, mc (some ⟨iS a⟩) l = some G ∧ vw a l = some G ∧ tg ((l.filter (mE a)).map (·.eX)) G := by
 obtain ⟨d, g⟩ := sW a hk h l [] i (by simp; omega)
 have c : ((l.filter (mE a)).map (·.eX)).length ≤ 1000000000 := by
  rw [cX]; have := List.length_filter_le (mE a) l; omega
 rw [cx] at d g
 obtain ⟨G, g1, g2⟩ := Cj _ c
 obtain ⟨G', g3, g4⟩ := Ax _ c
 have := g4.unique sX g2
 subst this
 exact ⟨G', d.trans g1, g.trans g3, g2⟩
theorem yT (s : ft) (a : B8 s.Tag) : mQ s s = some true := by
 unfold mQ
 rw [aB (sw.2 rfl), xJ a a]; simp
theorem tH : ∀ (l : List ft) (x : Int), (∀ s ∈ l, pF s.eX ≤ 1000000000) → ∃ r, kK l x = some r
 | [], x, _ => ⟨x, rfl⟩
 | s :: l, x, h => by
  rw [kK]
  obtain ⟨r, e⟩ := zr [s.eX] (by simp) (fun c a => by rw [aV] at a; rw [a]; exact h s (by simp))
  rw [e, aw]
  exact tH l _ (fun s d => h s (by simp [d]))
theorem tm (l : List ft) (h : ∀ s ∈ l, pF s.eX ≤ 1000000000) : ∀ (a : List Key) (x : Int), ∃ r, jz l a x = some r
 | [], x => by
  rw [jz]
  obtain ⟨r, e⟩ := tH l x h
  rw [e]; exact ⟨r, rfl⟩
 | k :: a, x => by rw [jz]; exact tm l h a _
theorem AM (a : List Key) (l : List ft) (h : ∀ s ∈ l, pF s.eX ≤ 1000000000) : ∃ r, pc a l = some r := tm l h a 0
def wr {α : Type} : Int ⊕ (α × List Int) → Int ⊕ (α × fm)
 | .inl e => .inl e
 | .inr (v, l) => .inr (v, ⟨l, false⟩)
def gI {α β : Type} (x : Int ⊕ (α × List Int)) (f : α → List Int → Int ⊕ (β × List Int)) : Int ⊕ (β × List Int) :=
 match x with
 | .inl e => .inl e
 | .inr (v, l) => f v l
def jC (a : Int) : Nat → Int → List Int → Int ⊕ (Int × List Int)
 | i, n, [] => .inl (if i = 9 then 11 else 10)
 | i, n, c :: l => if i = 9 then .inl 11 else if c = 0 ∧ 0 < i then .inl 11 else
   if c < 128 then (if n + c % 128 * 128 ^ i > a then .inl 12 else .inr (n + c % 128 * 128 ^ i, l)) else jC a (i + 1) (n + c % 128 * 128 ^ i) l
def kR : Int := 9223372036854775807
def lD (a : Int) (l : List Int) : Int ⊕ (List Int × List Int) :=
 gI (jC kR 0 0 l) fun n c => if n > a then .inl 12 else if n > (c.length : Int) then .inl 10 else .inr (c.take n.toNat, c.drop n.toNat)
def ky (l : List Int) : Int ⊕ (ByteArray × List Int) := gI (lD 16 l) fun t a => if gJ (fX t) = true then .inr (fX t, a) else .inl 30
def jX (l : List Int) : Int ⊕ (fu × List Int) := gI (ky l) fun a c => gI (ky c) fun b d => .inr (⟨a, b⟩, d)
def nR (k : Int) (h : fu) (l : List Int) : Int ⊕ (eX × List Int) :=
 if k = 1 then gI (ky l) fun w a => .inr (⟨k, h, w, zR, zR, zS⟩, a)
 else if k = 2 then gI (jX l) fun b a => .inr (⟨k, h, zS, b, zR, zS⟩, a)
 else if k = 3 then gI (jX l) fun b a => gI (ky a) fun w d => .inr (⟨k, h, zS, b, zR, w⟩, d)
 else gI (jX l) fun b a => gI (jX a) fun c d => .inr (⟨k, h, zS, b, c, zS⟩, d)
def nV (l : List Int) : Int ⊕ (eX × List Int) :=
 gI (jC kR 0 0 l) fun k a => if k < 1 ∨ 4 < k then .inl 11 else gI (jX a) fun h d => gI (nR k h d) fun c g => if fM c = true then .inr (c, g) else .inl 11
def so (l : List Int) : Int ⊕ (ft × List Int) :=
 gI (nV l) fun c a => gI (lD 8 a) fun t d => if (t.length : Int) = 8 then .inr (⟨c, t⟩, d) else .inl 11
theorem nk (l : List Int) (e : Int) (he : e ≠ 0) : fS ⟨l, false⟩ e = some (.inl e) := by
 unfold fS; simp [he]
theorem yv (l : List Int) (i : Int) (hi : 0 ≤ i) : kv ⟨l, false⟩ i = some (match l with
  | [] => .inl (if i = 9 then 11 else 10)
  | c :: t => if i = 9 then .inl 11 else if c = 0 ∧ 0 < i then .inl 11 else .inr (c, ⟨t, false⟩)) := by
 unfold kv
 rw [nk _ 11 (by decide), nk _ 10 (by decide)]
 by_cases a : i = 9
 ·subst a; cases l <;> simp
 ·cases l with
  | nil => simp [a]
  | cons c t =>
   have h1 : ((c :: t).length : Int) ≠ 0 := by simp; omega
   have d : kO (decide (0 ≤ (1 : Int)) && decide ((1 : Int) ≤ ((c :: t).length : Int))) = some () := pp (by decide) (by simp; omega)
   have g : kk (c :: t) 0 = some c := mT [] c t 0 rfl
   simp only [eL, a, h1, aI, aw, d, g]
   have h : kO (decide (1 ≤ (t.length : Int) + 1)) = some () := by simp [kO]; omega
   by_cases j : c = 0 <;> by_cases hp : 0 < i <;> simp [j, hp, nk, h]
theorem Cg (c : Int) (a : 0 ≤ c) (h1 : c < 256) : IntKind.u8.wrap (BitVec.ofInt (IntKind.bits .u8) c &&& BitVec.ofInt (IntKind.bits .u8) 127).toNat = c % 128 := by
 obtain ⟨k, rfl⟩ : ∃ k : Nat, c = k := ⟨c.toNat, by omega⟩
 have : ∀ k : Nat, k < 256 → IntKind.u8.wrap (BitVec.ofInt (IntKind.bits .u8) (k : Int) &&& BitVec.ofInt (IntKind.bits .u8) 127).toNat = (k : Int) % 128 := by decide +kernel
 exact this k (by omega)
theorem BI (n m j : Nat) (c : n < 2 ^ j) (hm : m * 2 ^ j + n < 18446744073709551616) : (BitVec.ofInt 64 (n : Int) ||| BitVec.ofInt 64 ((m * 2 ^ j : Nat) : Int)).toNat = n + m * 2 ^ j := by
 have h1 : n < 2 ^ 64 := by omega
 have a : m * 2 ^ j < 2 ^ 64 := by omega
 rw [BitVec.toNat_or, BitVec.ofInt_natCast, BitVec.ofInt_natCast, BitVec.toNat_ofNat, BitVec.toNat_ofNat, Nat.mod_eq_of_lt h1, Nat.mod_eq_of_lt a, Nat.or_comm, ← Nat.shiftLeft_eq, ← Nat.shiftLeft_add_eq_or_of_lt c, eE]
theorem BX (n c : Int) (i : Nat) (hi : i ≤ 8) (s : 0 ≤ n ∧ n < 128 ^ i) (h : 0 ≤ c ∧ c < 256) : wi0 .i64 (BitVec.ofInt (IntKind.bits .i64) n ||| BitVec.ofInt (IntKind.bits .i64) (wi0 .i64 (wi0 .i64 (IntKind.u8.wrap (BitVec.ofInt (IntKind.bits .u8) c &&& BitVec.ofInt (IntKind.bits .u8) 127).toNat) * 2 ^ min (Int.toNat (wi0 .i64 (7 * (i : Int)))) (IntKind.bits .i64)))).toNat = n + c % 128 * 128 ^ i := by
 rw [Cg c h.1 h.2, gj (x := c % 128) (by omega) (by omega), gj (x := 7 * (i : Int)) (by omega) (by omega)]
 have j : min (Int.toNat (7 * (i : Int))) (IntKind.bits .i64) = 7 * i := by simp only [IntKind.bits]; omega
 rw [j]
 obtain ⟨a, rfl⟩ : ∃ a : Nat, n = a := ⟨n.toNat, by omega⟩
 obtain ⟨b, p⟩ : ∃ b : Nat, c % 128 = b := ⟨(c % 128).toNat, by omega⟩
 rw [p]
 have q : b < 128 := by omega
 have g : (128 : Nat) ^ i = 2 ^ (7 * i) := by rw [Nat.pow_mul]
 have k : (128 : Int) ^ i = ((2 ^ (7 * i) : Nat) : Int) := by rw [← g]; simp
 have ha : a < 2 ^ (7 * i) := by rw [← g]; have := s.2; exact_mod_cast this
 have d : 2 ^ (7 * i) ≤ 2 ^ 56 := dQ (by decide) (by omega)
 have hm : b * 2 ^ (7 * i) + a < 9223372036854775808 := by
  have : (b + 1) * 2 ^ (7 * i) ≤ 128 * 2 ^ 56 := Nat.mul_le_mul (by omega) d
  rw [bz] at this; omega
 have o : ((b : Int) * 2 ^ (7 * i)) = ((b * 2 ^ (7 * i) : Nat) : Int) := by simp
 rw [o, gj (x := ((b * 2 ^ (7 * i) : Nat) : Int)) (by omega) (by omega)]
 show wi0 .i64 ((BitVec.ofInt 64 (a : Int) ||| BitVec.ofInt 64 ((b * 2 ^ (7 * i) : Nat) : Int)).toNat : Int) = _
 rw [BI a b (7 * i) ha (by omega), gj (by omega) (by omega), k]
 simp
theorem vu (n c : Int) (i : Nat) (a : 0 ≤ n ∧ n < 128 ^ i) : 0 ≤ n + c % 128 * 128 ^ i ∧ n + c % 128 * 128 ^ i < 128 ^ (i + 1) := by
 have h1 : 0 ≤ c % 128 ∧ c % 128 < 128 := ⟨by omega, by omega⟩
 have hp : (0 : Int) < 128 ^ i := Int.pow_pos (by decide)
 constructor
 ·have := Int.mul_nonneg h1.1 (eO hp); omega
 ·rw [Int.pow_succ]
  have : c % 128 * 128 ^ i ≤ 127 * 128 ^ i := dM (by omega) (eO hp)
  omega
theorem Ah (a : Int) : ∀ (l : List Int) (i : Nat) (n : Int) (k : Nat), B8 l → i ≤ 9 → 0 ≤ n ∧ n < 128 ^ i → l.length < k → gy a k n i l false = some (wr (jC a i n l))
 | [], i, n, k + 1, _, hi, _, _ => by
  rw [gy, yv _ _ (by omega)]
  by_cases g : i = 9 <;> simp [jC, wr, g] <;> omega
 | c :: l, i, n, k + 1, t, hi, u, hk => by
  have v := t c (List.mem_cons_self ..)
  rw [gy, yv _ _ (by omega)]
  unfold jC
  by_cases g : i = 9
  ·subst g; rfl
  ·have o : ¬ ((i : Int) = 9) := by omega
   have s := BX n c i (by omega) u v
   have hp := vu n c i u
   have p : kO (decide (0 ≤ wi0 .i64 (7 * (i : Int)))) = some () := by rw [gj (by omega) (by omega)]; simp [kO]; omega
   have q : wi0 .i64 ((i : Int) + 1) = ((i + 1 : Nat) : Int) := by rw [gj (by omega) (by omega)]; simp
   simp only [g, o, aI, aw]
   by_cases j : c = 0 ∧ 0 < i
   ·have : c = 0 ∧ 0 < (i : Int) := ⟨j.1, by omega⟩
    rw [aB this, aB j]; rfl
   ·have : ¬ (c = 0 ∧ 0 < (i : Int)) := fun h => j ⟨h.1, by omega⟩
    rw [aA this, aA j]
    simp only [s, p, q, aw]
    by_cases d : c < 128
    ·simp only [d, cy, aO]
     by_cases hm : n + c % 128 * 128 ^ i > a
     ·simp only [hm, cy, aO, nk _ 12 (by decide), aw, wr]
     ·simp only [hm, cM, aI, ay, aw, wr]
    ·simp only [d, cM, aI, ay]
     exact Ah a l (i + 1) _ k (fun x w => t x (bZ _ w)) (by omega) hp (by simp only [aU] at hk; omega)
theorem B8.tail {c : Int} {l : List Int} (h : B8 (c :: l)) : B8 l := fun x a => h x (bZ _ a)
theorem B8.drop {l : List Int} (h : B8 l) (n : Nat) : B8 (l.drop n) := fun x a => h x (List.mem_of_mem_drop a)
theorem B8.take {l : List Int} (h : B8 l) (n : Nat) : B8 (l.take n) := fun x a => h x (List.mem_of_mem_take a)
def pw {α : Type} (l : List Int) (x : Int ⊕ (α × List Int)) : Prop := ∀ v a, x = .inr (v, a) → ∃ k, a = l.drop k
theorem pw.qj {α β : Type} {l : List Int} {x : Int ⊕ (α × List Int)} {f : α → List Int → Int ⊕ (β × List Int)} (h : pw l x) (c : ∀ v a, pw a (f v a)) : pw l (gI x f) := fun v a e => by
 cases x with
 | inl q => cases e
 | inr q =>
  obtain ⟨k, hk⟩ := h q.1 q.2 rfl
  obtain ⟨j, d⟩ := c q.1 q.2 v a e
  exact ⟨k + j, by rw [d, hk, List.drop_drop]⟩
theorem lm (a : Int) : ∀ (l : List Int) (i : Nat) (n : Int), pw l (jC a i n l)
 | [], i, n => fun v d e => by cases e
 | c :: l, i, n => fun v d e => by
  unfold jC at e
  split at e
  ·cases e
  split at e
  ·cases e
  split at e
  ·split at e
   ·cases e
   ·cases e; exact ⟨1, rfl⟩
  ·obtain ⟨k, hk⟩ := lm a l (i + 1) _ v d e
   exact ⟨k + 1, by rw [hk, List.drop_succ_cons]⟩
theorem xy (a : Int) (l : List Int) : pw l (lD a l) := (lm _ _ _ _).qj fun n c v d e => by
 split at e
 ·cases e
 split at e
 ·cases e
 ·cases e; exact ⟨_, rfl⟩
theorem mX (l : List Int) : pw l (ky l) := (xy _ _).qj fun t a v c e => by
 split at e
 ·cases e; exact ⟨0, rfl⟩
 ·cases e
theorem jJ (l : List Int) : pw l (jX l) := (mX _).qj fun a c => (mX _).qj fun b d v g e => by cases e; exact ⟨0, rfl⟩
theorem wL (k : Int) (h : fu) (l : List Int) : pw l (nR k h l) := by
 unfold nR
 split
 ·exact (mX _).qj fun a c v d e => by cases e; exact ⟨0, rfl⟩
 split
 ·exact (jJ _).qj fun a c v d e => by cases e; exact ⟨0, rfl⟩
 split
 ·exact (jJ _).qj fun a c => (mX _).qj fun b g v d e => by cases e; exact ⟨0, rfl⟩
 ·exact (jJ _).qj fun a c => (jJ _).qj fun b g v d e => by cases e; exact ⟨0, rfl⟩
theorem qD (l : List Int) : pw l (nV l) := (lm _ _ _ _).qj fun k d => by
 split
 ·intro v a e; cases e
 ·exact (jJ _).qj fun h g => (wL _ _ _).qj fun c i v j e => by
   split at e
   ·cases e; exact ⟨0, rfl⟩
   ·cases e
theorem Bm (l : List Int) (a : Int) (c : B8 l) (d : l.length ≤ 1000000) : iM ⟨l, false⟩ a = some (wr (jC a 0 0 l)) := by
 unfold iM kl
 simp only [aw, ay, aI]
 exact Ah a l 0 0 iv c (by omega) (by decide) (by rw [mq]; omega)
theorem tT (a : Int) : ∀ (l : List Int) (i : Nat) (n v : Int) (d : List Int), 0 ≤ n ∧ n < 128 ^ i → jC a i n l = .inr (v, d) → 0 ≤ v ∧ v ≤ a
 | [], i, n, v, d, _, e => by cases e
 | c :: l, i, n, v, d, g, e => by
  have hp := vu n c i g
  unfold jC at e
  split at e
  ·cases e
  split at e
  ·cases e
  split at e
  ·split at e
   ·cases e
   ·cases e; exact ⟨hp.1, by omega⟩
  ·exact tT a l (i + 1) _ v d hp e
theorem zU (l : List Int) (a : Int) (t : B8 l) (u : l.length ≤ 1000000) : jf ⟨l, false⟩ a = some (wr (lD a l)) := by
 unfold jf kl
 simp only [aw, ay, aI]
 rw [Bm l _ t u]
 unfold lD
 have g := lm kR l 0 0
 have d := tT kR l 0 0
 have j : jC 9223372036854775807 0 0 l = jC kR 0 0 l := rfl
 rw [j]
 cases i : jC kR 0 0 l with
 | inl e => simp [wr, gI]
 | inr q =>
  obtain ⟨n, c⟩ := q
  obtain ⟨k, hk⟩ := g n c i
  have o := (d n c ⟨by decide, by decide⟩ i).1
  have v : c.length ≤ 1000000 := by rw [hk, dp]; omega
  simp only [aw, wr, gI]
  by_cases h1 : n > a
  ·simp only [h1, cy, aO, nk _ 12 (by decide), aw, wr]
  ·by_cases h : n > (c.length : Int)
   ·simp only [h1, h, cy, cM, aO, aI, ay, nk _ 10 (by decide), aw, wr]
   ·have p : kO (decide (0 ≤ n) && decide (n ≤ (c.length : Int))) = some () := pp o (by omega)
    have s : gN (c.take n.toNat) = some (c.take n.toNat) := tp (by rw [bx]; omega)
    simp only [h1, h, p, s, cM, aI, ay, aw, wr]
theorem B8.part {α : Type} {l a : List Int} {x : Int ⊕ (α × List Int)} {v : α} (h : B8 l) (c : l.length ≤ 1000000) (hp : pw l x) (e : x = .inr (v, a)) : B8 a ∧ a.length ≤ 1000000 := by
 obtain ⟨k, hk⟩ := hp v a e
 rw [hk]
 exact ⟨h.drop k, by rw [dp]; omega⟩
theorem vd (l : List Int) (a : B8 l) (c : l.length ≤ 1000000) : kM ⟨l, false⟩ = some (wr (ky l)) := by
 unfold kM ky
 rw [zU l _ a c]
 cases g : lD 16 l with
 | inl e => rfl
 | inr q =>
  obtain ⟨t, h⟩ := q
  simp only [aw, wr, gI, kW, lu]
  cases d : gJ (fX t) <;> simp [wr, nk]
theorem tI (l : List Int) (c : B8 l) (d : l.length ≤ 1000000) : jW ⟨l, false⟩ = some (wr (jX l)) := by
 unfold jW jX
 rw [vd l c d]
 cases i : ky l with
 | inl e => rfl
 | inr q =>
  obtain ⟨a, g⟩ := q
  obtain ⟨h1, h⟩ := c.part d (mX l) i
  simp only [aw, wr, gI]
  rw [vd g h1 h]
  cases j : ky g with
  | inl e => rfl
  | inr q => obtain ⟨b, k⟩ := q; rfl
theorem B5 (l : List Int) (y : B8 l) (z : l.length ≤ 1000000) : nU ⟨l, false⟩ = some (wr (nV l)) := by
 unfold nU nV
 rw [Bm l _ y z]
 have F : jC 9223372036854775807 0 0 l = jC kR 0 0 l := rfl
 rw [F]
 cases J : jC kR 0 0 l with
 | inl e => rfl
 | inr q =>
  obtain ⟨k, v⟩ := q
  obtain ⟨h1, x⟩ := y.part z (lm kR l 0 0) J
  simp only [aw, wr, gI]
  by_cases hk : k < 1 ∨ 4 < k
  ·have s : (if decide (k < 1) = true then some true else some (decide (k > 4)) : Option Bool) = some true := by
    by_cases h : k < 1 <;> simp [h]; omega
   rw [s, aB hk]
   simp [nk, wr]
  ·have s : (if decide (k < 1) = true then some true else some (decide (k > 4)) : Option Bool) = some false := by
    rw [aA (by simp; omega)]; simp; omega
   rw [s, aA hk]
   simp only [aw, aI, ay]
   rw [tI v h1 x]
   cases I : jX v with
   | inl e => rfl
   | inr q =>
    obtain ⟨h, d⟩ := q
    obtain ⟨i, j⟩ := h1.part x (jJ v) I
    simp only [aw, wr, gI]
    have G : ∀ {A : Type} (K : eX → List Int → Bool → Option A) (X : Int → Option A), True := fun _ _ => trivial
    have fin : ∀ (c : eX) (a : List Int), ((jc c).bind fun o => if (!o) = true then (fS ⟨a, false⟩ 11).bind fun p => match p with | .inl n => some (Sum.inl n) | .inr D => some (Sum.inr ((⟨0, ⟨zS, zS⟩, zS, ⟨zS, zS⟩, ⟨zS, zS⟩, zS⟩ : eX), (⟨a, false⟩ : fm))) else some (Sum.inr (c, (⟨a, false⟩ : fm)))) = some (wr (if fM c = true then .inr (c, a) else .inl 11)) := fun c a => by
     rw [lh]
     cases fM c <;> simp [nk, wr]
    unfold nR
    by_cases L : k = 1
    ·subst L
     simp only [aZ, aO]
     rw [vd d i j]
     cases ky d with
     | inl e => rfl
     | inr q => obtain ⟨w, a⟩ := q; exact fin _ _
    ·by_cases k2 : k = 2
     ·subst k2
      simp only [Int.reduceBEq, Int.reduceEq, aI, aO, ay]
      rw [tI d i j]
      cases jX d with
      | inl e => rfl
      | inr q => obtain ⟨w, a⟩ := q; exact fin _ _
     ·by_cases M : k = 3
      ·subst M
       simp only [Int.reduceBEq, Int.reduceEq, aI, aO, ay]
       rw [tI d i j]
       cases g : jX d with
       | inl e => rfl
       | inr q =>
        obtain ⟨w, a⟩ := q
        obtain ⟨t, u⟩ := i.part j (jJ d) g
        simp only [aw, wr, gI]
        rw [vd a t u]
        cases ky a with
        | inl e => rfl
        | inr q => obtain ⟨Q, P⟩ := q; exact fin _ _
      ·have O : k = 4 := by omega
       subst O
       simp only [Int.reduceBEq, Int.reduceEq, aI, aO, ay]
       rw [tI d i j]
       cases g : jX d with
       | inl e => rfl
       | inr q =>
        obtain ⟨w, a⟩ := q
        obtain ⟨t, u⟩ := i.part j (jJ d) g
        simp only [aw, wr, gI]
        rw [tI a t u]
        cases jX a with
        | inl e => rfl
        | inr q => obtain ⟨Q, P⟩ := q; exact fin _ _
theorem Cx (l : List Int) (a : B8 l) (d : l.length ≤ 1000000) : lL ⟨l, false⟩ = some (wr (so l)) := by
 unfold lL so
 rw [B5 l a d]
 cases j : nV l with
 | inl e => rfl
 | inr q =>
  obtain ⟨c, g⟩ := q
  obtain ⟨h1, h⟩ := a.part d (qD l) j
  simp only [aw, wr, gI]
  rw [zU g _ h1 h]
  cases k : lD 8 g with
  | inl e => rfl
  | inr q =>
   obtain ⟨t, n⟩ := q
   simp only [aw, wr, gI]
   by_cases i : (t.length : Int) = 8 <;> simp [i, nk, wr]
def rs (l : List Int) : Int × ft := match so l with
 | .inl e => (e, uB)
 | .inr (s, a) => (if a.length > 0 then 13 else 0, s)
theorem vG (l : List Int) (c : B8 l) (a : l.length ≤ 1000000) : mg l uB = some (rs l) := by
 unfold mg nK rs
 rw [tp a, aw, Cx l c a]
 cases so l with
 | inl e => rfl
 | inr q => obtain ⟨s, d⟩ := q; rfl
theorem yF (l : List Int) (a : B8 l) (c : l.length ≤ 1000000) : kT l uB = some (rs l) := vG l a c
theorem wW (l : List Int) (a : B8 l) (c : l.length ≤ 1000000) : kp l uB = some (rs l) := vG l a c
theorem vH (a k : Int) (l : List Int) (c : 0 ≤ k) (h1 : k < 128) (hm : k ≤ a) : jC a 0 0 (k :: l) = .inr (k, l) := by
 unfold jC
 have e : (0 : Int) + k % 128 * 128 ^ 0 = k := by simp; omega
 rw [e, aA (by decide), aA (by simp), aB h1, aA (by omega)]
theorem vM (a : Int) (t l : List Int) (h : t.length < 128) (hm : (t.length : Int) ≤ a) : lD a ((t.length : Int) :: (t ++ l)) = .inr (t, l) := by
 unfold lD
 rw [vH _ _ _ (by omega) (by omega) (by unfold kR; omega)]
 simp only [gI]
 rw [aA (by omega), aA (by simp; omega)]
 simp
theorem pL {s : ByteArray} (h : gJ s = true) (l : List Int) : ky (lg s ++ l) = .inr (s, l) := by
 have h1 := ia h
 unfold ky lg
 rw [bF, ← gM, vM _ _ _ (by rw [gM]; omega) (by rw [gM]; omega)]
 simp only [gI, pj, h, aO]
theorem oP {r : fu} (h : fY r = true) (l : List Int) : jX (iQ r ++ l) = .inr (r, l) := by
 simp only [fY, aX] at h
 unfold jX iQ
 rw [aR, pL h.1]
 simp only [gI]
 rw [pL h.2]
theorem yp {c : eX} (h : fM c = true) (l : List Int) : nV (fW c ++ l) = .inr (c, l) := by
 have a := iK h
 have j : 1 ≤ c.Kind ∧ c.Kind ≤ 4 := by rcases a with g | g | g | g <;> rw [g.1] <;> decide
 have d : nR c.Kind c.Head (mB c ++ l) = .inr (c, l) := by
  obtain ⟨k, n, i, b, c2, o⟩ := c
  unfold nR mB
  rcases a with g | g | g | g
  ·obtain ⟨rfl, g1, rfl, rfl, rfl⟩ := g
   simp only [aO]
   rw [pL g1]; rfl
  ·obtain ⟨rfl, g1, rfl, rfl, rfl⟩ := g
   simp only [Int.reduceEq, aI, aO]
   rw [oP g1]; rfl
  ·obtain ⟨rfl, g1, g2, g3, rfl, rfl⟩ := g
   simp only [Int.reduceEq, aI, aO]
   rw [aR, oP g1]
   simp only [gI]
   rw [pL g2]
  ·obtain ⟨rfl, g1, g2, g3, rfl, rfl⟩ := g
   simp only [Int.reduceEq, aI, aO]
   rw [aR, oP g1]
   simp only [gI]
   rw [oP g2]
 unfold nV fW
 rw [bF, vH _ _ _ (by omega) (by omega) (by unfold kR; omega)]
 simp only [gI]
 rw [aA (by omega), aR, oP (nl h)]
 simp only [gI]
 rw [d]
 simp only [gI, h, aO]
theorem AA {c : eX} (h : fM c = true) {t : List Int} (a : t.length = 8) (l : List Int) : so (fW c ++ ((8 : Int) :: t) ++ l) = .inr (⟨c, t⟩, l) := by
 unfold so
 rw [aR, yp h]
 simp only [gI]
 have := vM 8 t l (by omega) (by omega)
 rw [a] at this
 rw [bF, show ((8 : Int) :: (t ++ l)) = (((8 : Nat) : Int) :: (t ++ l)) from rfl, this]
 simp [gI, a]
theorem AR {c : eX} (h : fM c = true) : B8 (fW c) := (Bd h).tail
theorem yw (s : ft) : mF [] s = some (if fM s.eX = true ∧ s.Tag.length = 8 then (true, fW s.eX ++ ((8 : Int) :: s.Tag)) else (false, [])) := by
 unfold mF
 rw [lh]
 simp only [aw]
 cases c : fM s.eX
 ·simp
 simp only [bT, ay, aI, aw, true_and]
 by_cases a : s.Tag.length = 8
 ·have d := oU c
  rw [aA (by simp [a]), Ab _ c, aB a]
  simp only [aw]
  unfold nD
  rw [qO (by simp; omega)]
  simp only [aw, aO, cx]
  unfold ko
  rw [aA (by simp [a]), a, rO (by decide) (by decide) (by omega)]
  simp only [aw]
  rw [qO (by simp; omega)]
  simp
 ·rw [aA a, aB]
  simp; omega
theorem vq {l : List Int} (h : l.length ≤ 1000000) : iy l = some l := by
 unfold iy; rw [tp h]; rfl
theorem AO {c : eX} (h : fM c = true) {t : List Int} (a : t.length = 8) : rs (fW c ++ ((8 : Int) :: t)) = (0, ⟨c, t⟩) := by
 unfold rs
 have := AA h a []
 rw [cm] at this
 rw [this]; rfl
theorem qz (k b : List Int) : (jQ k b).length = 8 := rfl
theorem zn {l G : List eX} {c : eX} (h : tg l G) (d : ∀ x, x ∈ l ↔ x = c) (a : fM c = true) : G = [c] :=
 oa.unique sX h ⟨by simp, fun x => by
  rw [aV, d]
  exact ⟨fun e => ⟨e, e ▸ a⟩, fun e => e.1⟩⟩
def pA : List Key := [⟨⟨#[97]⟩, [107]⟩, ⟨⟨#[98]⟩, [108]⟩]
def Af : List Key := [⟨⟨#[97]⟩, [109]⟩]
def kL : eX := ⟨1, ⟨⟨#[97]⟩, ⟨#[114]⟩⟩, ⟨#[100]⟩, zR, zR, zS⟩
theorem yD : mH [] pA = 0 := by decide +kernel
theorem Ce : mH [] Af = 0 := by decide +kernel
theorem B7 : K8 pA := fun k hk => by
 simp only [pA, aF, bi, cC] at hk
 rcases hk with rfl | rfl <;> intro x a <;> obtain rfl := aV.1 a <;> decide
theorem vy : fM kL = true := by decide +kernel
theorem A8 : Mk pA kL [107] := ⟨yD, vy, by decide +kernel⟩
theorem Cy : Mk Af kL [109] := ⟨Ce, vy, by decide +kernel⟩
theorem BQ : jQ [109] (fW kL) ≠ jQ [107] (fW kL) := by decide +kernel
theorem Ay {g : List Key} {c : eX} {k t : List Int} (hm : Mk g c k) (d : B8 t) : mY k (fW c) t = some (decide (jQ k (fW c) = t)) := by
 unfold mY
 have a : jH k = some true := by
  unfold jH
  have := hm.len
  rw [cE (show (k.length : Int) ≥ 1 by omega), cE (show (k.length : Int) ≤ 32 by omega)]; rfl
 rw [a]
 simp only [aw, aO, ul _ hm.len, nu]
 rw [xJ (pE _ _) d]
theorem yE {a : List Key} {c : eX} {k t : List Int} (hm : Mk a c k) (d : B8 t) (h : jQ k (fW c) ≠ t) : gF (some ⟨iS a⟩) ⟨c, t⟩ = some 20 := by
 unfold gF
 rw [BD]
 simp only [aw, hm.rt, aO, hm.lk]
 rw [aB (by rfl), Ab _ hm.rt, aw, Ay hm d]
 simp [h]
theorem Bj (a : List Key) (c : (a.map (·.fD)).Nodup) (d : ∀ k ∈ a, k.fD.size ≤ 16) (g : a.length ≤ 2000000) : kd (some ⟨iS a⟩) = some (lG (a.map (·.fD))) := by
 unfold kd
 have e : (iS a).map (·.1) = a.map (·.fD) := by unfold iS; rw [bV]; rfl
 have hk : oF (iS a) = some (lG (a.map (·.fD))) := by
  unfold oF
  rw [aB ⟨by rw [e]; exact c, fun p hp => by
   obtain ⟨k, hk, rfl⟩ := aS.1 hp
   have := d k hk
   show k.fD.size ≤ maxLen
   unfold maxLen; omega, by unfold iS; rw [cX]; omega⟩, e]
 simp only [Option.isNone_some, ay, aI, aw]
 unfold ib
 rw [hk]; rfl
theorem AP : kZ = some true := by
 unfold kZ
 have o := tR pA
 rw [aB yD] at o
 have p := tR [⟨⟨#[97]⟩, []⟩]
 rw [show mH [] [(⟨⟨#[97]⟩, []⟩ : Key)] = 21 by decide +kernel] at p
 have t := tR Af
 rw [aB Ce] at t
 obtain ⟨q, es, c⟩ := AK pA yD kL
 obtain ⟨n, k, hm, g⟩ : q.2 = 0 ∧ ∃ k, Mk pA kL k ∧ q.1 = ⟨kL, jQ k (fW kL)⟩ := c.resolve_left (fun h => h.2 _ A8)
 obtain rfl := hm.unique A8
 obtain ⟨K, L⟩ := q
 simp only at n g
 subst n g
 have u := yw ⟨kL, jQ [107] (fW kL)⟩
 rw [aB ⟨vy, qz _ _⟩] at u
 have J := oU vy
 have hlen : (fW kL ++ ((8 : Int) :: jQ [107] (fW kL))).length ≤ 1000000 := by rw [aK, aU, qz]; omega
 have i : B8 (fW kL ++ ((8 : Int) :: jQ [107] (fW kL))) := (AR vy).zW (fun x d => by
  rcases aF.1 d with rfl | d
  ·omega
  ·exact pE _ _ x d)
 have v := yF _ i hlen
 rw [AO vy (qz _ _)] at v
 have D := vq hlen
 have a : tC pA ⟨kL, jQ [107] (fW kL)⟩ := ⟨_, A8, rfl⟩
 obtain ⟨y, c1, _, w⟩ := wh pA B7 yD ⟨kL, jQ [107] (fW kL)⟩ (pE _ _)
 have j : y = 0 := w.2 a
 subst j
 have c2 := yE Cy (pE _ _) BQ
 have A := Bj pA (by decide +kernel) (by decide +kernel) (by decide)
 obtain ⟨G, g1, _, g3⟩ := yZ pA B7 yD [⟨kL, jQ [107] (fW kL)⟩, ⟨kL, []⟩] (fun s c => by
  rcases aF.1 c with rfl | c
  ·exact pE _ _
  ·obtain rfl := aV.1 c; intro x d; cases d) (by simp)
 have z : G = [kL] := zn g3 (fun x => by
  have h1 : mE pA ⟨kL, jQ [107] (fW kL)⟩ = true := (ph _ _).2 a
  have g : mE pA ⟨kL, []⟩ = false := by
   rw [← eC, ph]
   rintro ⟨k, _, hk⟩
   have := aH List.length hk
   cases this
  simp [h1, g]) vy
 subst z
 have F := yT ⟨kL, jQ [107] (fW kL)⟩ (pE _ _)
 have len8 : ((jQ [107] (fW kL)).length : Int) = 8 := by rw [qz]; rfl
 have len2 : ((lG (pA.map (·.fD))).length : Int) = 2 := by
  unfold lG
  rw [dI]; rfl
 generalize I : jQ [107] (fW kL) = T at *
 rw [show ([(⟨(⟨#[97]⟩ : ByteArray), [107]⟩ : Key), (⟨(⟨#[98]⟩ : ByteArray), [108]⟩ : Key)] : List Key) = pA from rfl, o, aw, p, aw]
 rw [show (⟨1, (⟨(⟨#[97]⟩ : ByteArray), (⟨#[114]⟩ : ByteArray)⟩ : fu), (⟨#[100]⟩ : ByteArray), (⟨zS, zS⟩ : fu), (⟨zS, zS⟩ : fu), zS⟩ : eX) = kL from rfl, es, aw]
 rw [show ([(⟨(⟨#[97]⟩ : ByteArray), [109]⟩ : Key)] : List Key) = Af from rfl, t, aw]
 simp only
 rw [u, aw, D, aw]
 rw [show (⟨(⟨0, (⟨zS, zS⟩ : fu), zS, (⟨zS, zS⟩ : fu), (⟨zS, zS⟩ : fu), zS⟩ : eX), []⟩ : ft) = uB from rfl, v, aw]
 simp only [aZ, aO, aw, len8, c1, c2, A, len2, g1, F, aA (by decide : ¬ ((21 : Int) = 0))]
 rfl
def wq {α β : Type} (x : Int ⊕ (α × List Int)) (z : β) (v : α → β) (r : Option (β × fg)) : Prop := match x with
 | .inl e => e ≠ 0 ∧ ∃ S, r = some (z, (⟨S, e⟩ : fg))
 | .inr q => r = some (v q.1, (⟨fX q.2, 0⟩ : fg))
theorem CC (c : Int) (d : 0 ≤ c ∧ c < 256) : ((c.toNat.toUInt8.toNat : Nat) : Int) = c := by
 have a : c.toNat.toUInt8.toNat = c.toNat := by rw [Nat.toUInt8_eq, ek]; omega
 rw [a]; omega
theorem ye (c : Int) (l : List Int) : fU (fX (c :: l)) zS = false := by
 rw [← eC, gz]
 intro h
 have := aH ByteArray.size h
 rw [jG] at this
 have : zS.size = 0 := rfl
 simp_all
theorem xk : fX [] = zS := rfl
theorem vL (l : List Int) (n : Int) (a : 0 ≤ n) (h1 : n ≤ (l.length : Int)) : qT (fX l) n ((fX l).size : Int) = some (fX (l.drop n.toNat)) := by
 unfold qT
 rw [jG, aB ⟨a, h1, eU _⟩]
 congr 1
 apply oM
 rw [ByteArray.data_extract, Array.toList_extract, jB, jB]
 simp [lR, List.extract_eq_take_drop]
 rw [cd (by simp)]
theorem zi (l : List Int) (n : Int) (a : 0 ≤ n) (h1 : n ≤ (l.length : Int)) : qT (fX l) 0 n = some (fX (l.take n.toNat)) := by
 unfold qT
 rw [jG, aB ⟨eU _, a, h1⟩]
 congr 1
 apply oM
 rw [ByteArray.data_extract, Array.toList_extract, jB, jB]
 simp [lR, List.extract_eq_take_drop]
theorem xf (a : Int) : ∀ (l : List Int) (i : Nat) (n u : Int) (k : Nat), B8 l → i ≤ 9 → (0 ≤ n ∧ n < 128 ^ i) → (i ≤ 8 → u = 128 ^ i) → l.length < k → wq (jC a i n l) 0 id (gD a k n u i ⟨fX l, 0⟩)
 | [], i, n, u, k + 1, _, hi, _, _, _ => by
  rw [gD]
  unfold jC
  by_cases p : i = 9
  ·subst p; exact ⟨by simp, _, rfl⟩
  ·have j : ¬ ((i : Int) = 9) := by omega
   refine ⟨by simp [p], fX [], ?_⟩
   simp only [eL, j, p, aI]
   rw [aB (by rw [xk, gz])]
 | c :: l, i, n, u, k + 1, z, hi, O, hu, hk => by
  have D := z c (List.mem_cons_self ..)
  rw [gD]
  unfold jC
  by_cases p : i = 9
  ·subst p; exact ⟨by decide, _, rfl⟩
  ·have j : ¬ ((i : Int) = 9) := by omega
   have w := hu (by omega)
   have hp := vu n c i O
   have y : nH (fX (c :: l)) 0 = some c.toNat.toUInt8 := tO (A := []) (B := lR l) (by rw [jB]; rfl) 0 rfl
   have P : qT (fX (c :: l)) 1 ((fX (c :: l)).size : Int) = some (fX l) := vL (c :: l) 1 (by decide) (by simp; omega)
   have hw : wi0 .i64 ((c.toNat.toUInt8.toNat : Nat) : Int) = c := by rw [CC c D, gj (by omega) (by omega)]
   have hm : Int.tmod c 128 = c % 128 := Int.tmod_eq_emod_of_nonneg D.1
   have K : (128 : Int) ^ i ≤ 72057594037927936 := by
    have : (128 : Nat) ^ i ≤ 128 ^ 8 := dQ (by decide) (by omega)
    have v : (128 : Nat) ^ 8 = 72057594037927936 := by decide
    rw [v] at this
    rw [show (128 : Int) ^ i = ((128 ^ i : Nat) : Int) by simp]
    omega
   have g : (0 : Int) < 128 ^ i := Int.pow_pos (by decide)
   have hmul : c % 128 * 128 ^ i ≤ 127 * 128 ^ i := dM (by omega) (eO g)
   have M : 0 ≤ c % 128 * 128 ^ i := Int.mul_nonneg (by omega) (eO g)
   have F : wi0 .i64 (c % 128 * 128 ^ i) = c % 128 * 128 ^ i := gj (by omega) (by omega)
   have G : wi0 .i64 (n + c % 128 * 128 ^ i) = n + c % 128 * 128 ^ i := gj (by omega) (by omega)
   have I : wi0 .i64 ((i : Int) + 1) = ((i + 1 : Nat) : Int) := by rw [gj (by omega) (by omega)]; simp
   have g0 : (¬ ((i : Int) == 9) = true) := by simpa using j
   rw [aA g0, aA p, aA (show ¬ (fU (fX (c :: l)) zS = true) by rw [ye]; decide)]
   simp only [y, P, aw, hw, hm, w, F, G, I]
   by_cases s : c = 0 ∧ 0 < i
   ·have t : (if (c == 0) = true then some (decide ((i : Int) > 0)) else some false : Option Bool) = some true := by
     rw [aB (by simp [s.1]), cE (by omega)]
    rw [t, aB s]
    exact ⟨by decide, _, rfl⟩
   ·have t : (if (c == 0) = true then some (decide ((i : Int) > 0)) else some false : Option Bool) = some false := by
     by_cases o : c = 0
     ·rw [aB (by simp [o]), decide_eq_false (fun h => s ⟨o, by omega⟩)]
     ·rw [aA (by simpa using o)]
    rw [t, aA s]
    simp only [aw, ay, aI]
    by_cases d : c < 128
    ·simp only [d, cy, aO]
     by_cases q : n + c % 128 * 128 ^ i > a
     ·simp only [q, cy, aO]; exact ⟨by decide, _, rfl⟩
     ·simp only [q, cM, aI, ay]; rfl
    ·simp only [d, cM, aI, ay]
     refine xf a l (i + 1) _ _ k (fun x y => z x (bZ _ y)) (by omega) hp (fun L => ?_) (by simp only [aU] at hk; omega)
     have J : (128 : Int) ^ i ≤ 562949953421312 := by
      have : (128 : Nat) ^ i ≤ 128 ^ 7 := dQ (by decide) (by omega)
      have v : (128 : Nat) ^ 7 = 562949953421312 := by decide
      rw [v] at this
      rw [show (128 : Int) ^ i = ((128 ^ i : Nat) : Int) by simp]
      omega
     rw [Int.pow_succ, gj (by omega) (by omega)]
theorem xb (l : List Int) (a : B8 l) (c : l.length ≤ 1000000) : wq (jC kR 0 0 l) 0 id (gn ⟨fX l, 0⟩ 9223372036854775807) := by
 unfold gn
 rw [aA (show ¬ (((0 : Int) != 0) = true) by decide)]
 exact xf kR l 0 0 1 iv a (by omega) (by decide) (fun _ => by simp) (by rw [mq]; omega)
theorem AI (S : ByteArray) (e a : Int) (he : e ≠ 0) : gn ⟨S, e⟩ a = some (0, ⟨S, e⟩) := by
 unfold gn; rw [aB (by simpa using he)]
theorem vv (S : ByteArray) (e a : Int) (he : e ≠ 0) : gu ⟨S, e⟩ a = some (zS, ⟨S, e⟩) := by
 unfold gu; rw [AI S e _ he, aw, aB (by simpa using he)]
theorem vC (l : List Int) (a : Int) (u : B8 l) (v : l.length ≤ 1000000) : wq (lD a l) zS fX (gu ⟨fX l, 0⟩ a) := by
 unfold gu lD
 have h := xb l u v
 have i := lm kR l 0 0
 have g := tT kR l 0 0
 cases d : jC kR 0 0 l with
 | inl e =>
  rw [d] at h
  obtain ⟨he, S, j⟩ := h
  rw [j, aw, aB (by simpa using he)]
  exact ⟨he, S, rfl⟩
 | inr q =>
  obtain ⟨n, c⟩ := q
  rw [d] at h
  have j : gn ⟨fX l, 0⟩ 9223372036854775807 = some (n, (⟨fX c, 0⟩ : fg)) := h
  obtain ⟨k, hk⟩ := i n c d
  have p := (g n c ⟨by decide, by decide⟩ d).1
  rw [j, aw, aA (by simp)]
  simp only [gI, jG]
  by_cases h1 : n > a
  ·simp only [h1, cy, aO]; exact ⟨by decide, _, rfl⟩
  ·by_cases s : n > (c.length : Int)
   ·simp only [h1, s, cy, cM, aO, aI, ay]; exact ⟨by decide, _, rfl⟩
   ·have t := zi c n p (by omega)
    have o := vL c n p (by omega)
    rw [jG] at o
    simp only [h1, s, cM, aI, ay, t, o, aw]; rfl
theorem oA (S : ByteArray) (e : Int) (he : e ≠ 0) : gB ⟨S, e⟩ = some (zS, ⟨S, e⟩) := by
 unfold gB; rw [vv S e _ he, aw, aA (by simpa using he)]
 simp only [aw, ay, aI]
 rw [aB (by simpa using he)]
theorem qI (l : List Int) (d : B8 l) (g : l.length ≤ 1000000) : wq (ky l) zS id (gB ⟨fX l, 0⟩) := by
 unfold gB ky
 have h := vC l 16 d g
 cases c : lD 16 l with
 | inl e =>
  rw [c] at h
  obtain ⟨he, S, a⟩ := h
  rw [a, aw, aA (by simpa using he)]
  simp only [aw, ay, aI]
  rw [aB (by simpa using he)]
  exact ⟨he, S, rfl⟩
 | inr q =>
  obtain ⟨t, i⟩ := q
  rw [c] at h
  have a : gu ⟨fX l, 0⟩ 16 = some (fX t, (⟨fX i, 0⟩ : fg)) := h
  rw [a, aw, aB (by rfl), nI]
  simp only [aw, gI]
  cases a : gJ (fX t)
  ·simp only [Bool.not_false, aO, aw, aI, ay]; exact ⟨by decide, _, rfl⟩
  ·simp only [bT, aO, aw, aI, ay]; rfl
abbrev qv : fu := ⟨zS, zS⟩
theorem pr (S : ByteArray) (e : Int) (he : e ≠ 0) : gv ⟨S, e⟩ = some (qv, ⟨S, e⟩) := by
 unfold gv; rw [oA S e he, aw, oA S e he, aw, aB (by simpa using he)]
theorem sG (l : List Int) (j : B8 l) (k : l.length ≤ 1000000) : wq (jX l) qv id (gv ⟨fX l, 0⟩) := by
 unfold gv jX
 have h := qI l j k
 cases i : ky l with
 | inl e =>
  rw [i] at h
  obtain ⟨he, S, c⟩ := h
  rw [c, aw, oA S e he, aw, aB (by simpa using he)]
  exact ⟨he, S, rfl⟩
 | inr q =>
  obtain ⟨a, g⟩ := q
  rw [i] at h
  have c : gB ⟨fX l, 0⟩ = some (a, (⟨fX g, 0⟩ : fg)) := h
  obtain ⟨h1, o⟩ := j.part k (mX l) i
  have d := qI g h1 o
  rw [c, aw]
  simp only [gI]
  cases n : ky g with
  | inl e =>
   rw [n] at d
   obtain ⟨he, S, c⟩ := d
   rw [c, aw, aB (by simpa using he)]
   exact ⟨he, S, rfl⟩
  | inr q =>
   obtain ⟨b, p⟩ := q
   rw [n] at d
   have c : gB ⟨fX g, 0⟩ = some (b, (⟨fX p, 0⟩ : fg)) := d
   rw [c, aw, aA (by simp)]; rfl
abbrev A7 : eX := ⟨0, (⟨zS, zS⟩ : fu), zS, (⟨zS, zS⟩ : fu), (⟨zS, zS⟩ : fu), zS⟩
noncomputable def rZ (k : Int) (h : fu) (t : fg) : Option (eX × fg) :=
 (if (k == 1) then ((gB t).bind fun d => some ((⟨k, h, d.1, (⟨zS, zS⟩ : fu), (⟨zS, zS⟩ : fu), zS⟩ : eX), d.2)) else (((if (k == 2) then some (k == 2) else (if (k == 3) then some (k == 3) else some (k == 4))) : Option Bool).bind fun n => (if n then ((gv t).bind fun c => (((if (k == 3) then ((gB c.2).bind fun i => some ((⟨k, h, zS, c.1, (⟨zS, zS⟩ : fu), i.1⟩ : eX), i.2)) else some ((⟨k, h, zS, c.1, (⟨zS, zS⟩ : fu), zS⟩ : eX), c.2)) : Option (eX × fg)).bind fun (a, j) => (if (a.Kind == 4) then ((gv j).bind fun g => some ((⟨a.Kind, a.Head, a.fD, a.B, g.1, a.fw⟩ : eX), g.2)) else some (a, j)))) else some ((⟨k, h, zS, (⟨zS, zS⟩ : fu), (⟨zS, zS⟩ : fu), zS⟩ : eX), t))))
theorem vi (k : Int) (h : fu) (S : ByteArray) (e : Int) (he : e ≠ 0) : ∃ c, rZ k h ⟨S, e⟩ = some (c, ⟨S, e⟩) := by
 unfold rZ
 rw [oA S e he, pr S e he]
 by_cases h1 : k = 1
 ·exact ⟨_, by rw [aB (by simpa using h1)]; rfl⟩
 rw [aA (by simpa using h1)]
 by_cases j : k = 2
 ·subst j; exact ⟨_, rfl⟩
 by_cases n : k = 3
 ·subst n
  refine ⟨⟨3, h, zS, qv, qv, zS⟩, ?_⟩
  show (((gB (⟨S, e⟩ : fg)).bind fun g => some ((⟨3, h, zS, qv, (⟨zS, zS⟩ : fu), g.1⟩ : eX), g.2) : Option (eX × fg)).bind fun (a, i) => (if (a.Kind == 4) then ((gv i).bind fun d => some ((⟨a.Kind, a.Head, a.fD, a.B, d.1, a.fw⟩ : eX), d.2)) else some (a, i))) = _
  rw [oA S e he]
  rfl
 by_cases o : k = 4
 ·subst o
  refine ⟨⟨4, h, zS, qv, qv, zS⟩, ?_⟩
  show ((gv (⟨S, e⟩ : fg)).bind fun d => some ((⟨4, h, zS, qv, d.1, zS⟩ : eX), d.2)) = _
  rw [pr S e he]
  rfl
 ·refine ⟨⟨k, h, zS, qv, qv, zS⟩, ?_⟩
  rw [aA (show ¬ ((k == 2) = true) by simpa using j), aA (show ¬ ((k == 3) = true) by simpa using n)]
  have : (k == 4) = false := by simpa using o
  rw [this]
  rfl
def CE (x : Int ⊕ (eX × List Int)) (r : Option (eX × fg)) : Prop := match x with
 | .inl e => e ≠ 0 ∧ ∃ c S, r = some (c, (⟨S, e⟩ : fg))
 | .inr q => r = some (q.1, (⟨fX q.2, 0⟩ : fg))
theorem BC (k : Int) (hk : 1 ≤ k ∧ k ≤ 4) (h : fu) (l : List Int) (u : B8 l) (v : l.length ≤ 1000000) : CE (nR k h l) (rZ k h ⟨fX l, 0⟩) := by
 unfold rZ nR
 have s := qI l u v
 have t := sG l u v
 by_cases h1 : k = 1
 ·subst h1
  simp only [aZ, aO]
  cases i : ky l with
  | inl e => rw [i] at s; obtain ⟨he, S, d⟩ := s; rw [d]; exact ⟨he, _, S, rfl⟩
  | inr q => rw [i] at s; have d : _ = some _ := s; rw [d]; rfl
 have z : (if (k == 2) = true then some (k == 2) else if (k == 3) = true then some (k == 3) else some (k == 4) : Option Bool) = some true := by
  have : k = 2 ∨ k = 3 ∨ k = 4 := by omega
  rcases this with rfl | rfl | rfl <;> rfl
 rw [aA h1, aA (show ¬ ((k == 1) = true) by simpa using h1), z]
 simp only [aw, aO]
 cases i : jX l with
 | inl e =>
  rw [i] at t
  obtain ⟨he, S, d⟩ := t
  rw [d, aw]
  simp only [gI, ite_self]
  simp only [oA S e he, aw]
  by_cases o : k = 3
  ·subst o; exact ⟨he, _, S, rfl⟩
  rw [aA (by simpa using o)]
  simp only [aw]
  by_cases p : k = 4
  ·subst p; simp only [aZ, aO, pr S e he, aw]; exact ⟨he, _, S, rfl⟩
  ·rw [aA (by simpa using p)]; exact ⟨he, _, S, rfl⟩
 | inr q =>
  obtain ⟨b, n⟩ := q
  rw [i] at t
  have d : gv ⟨fX l, 0⟩ = some (b, (⟨fX n, 0⟩ : fg)) := t
  obtain ⟨x, y⟩ := u.part v (jJ l) i
  have a := qI n x y
  have c := sG n x y
  rw [d, aw]
  simp only [gI]
  by_cases w : k = 2
  ·subst w; rfl
  rw [aA w]
  by_cases o : k = 3
  ·subst o
   simp only [aZ, aO]
   cases j : ky n with
   | inl e => rw [j] at a; obtain ⟨he, S, g⟩ := a; rw [g]; exact ⟨he, _, S, rfl⟩
   | inr q => rw [j] at a; have g : _ = some _ := a; rw [g]; rfl
  have p : k = 4 := by omega
  subst p
  rw [aA (by decide), aA (by decide)]
  simp only [aw, aZ, aO]
  cases j : jX n with
  | inl e => rw [j] at c; obtain ⟨he, S, g⟩ := c; rw [g]; exact ⟨he, _, S, rfl⟩
  | inr q => rw [j] at c; have g : _ = some _ := c; rw [g]; rfl
noncomputable def vO (d : eX) (a : fg) : Option (eX × fg) :=
 (((((if (a.E == 0) then ((iP d).bind fun g => some (!g)) else some false) : Option Bool).bind fun h => (if h then some (⟨a.S, 11⟩ : fg) else some a)) : Option fg).bind fun c => (if (c.E != 0) then some ((⟨0, (⟨zS, zS⟩ : fu), zS, (⟨zS, zS⟩ : fu), (⟨zS, zS⟩ : fu), zS⟩ : eX), c) else some (d, c)))
theorem uZ (c : eX) (S : ByteArray) (e : Int) (he : e ≠ 0) : vO c ⟨S, e⟩ = some (A7, ⟨S, e⟩) := by
 unfold vO
 rw [aA (by simpa using he)]
 simp only [aw, ay, aI]
 rw [aB (by simpa using he)]
theorem B1 (c : eX) (S : ByteArray) : vO c ⟨S, 0⟩ = some (if fM c = true then (c, ⟨S, 0⟩) else (A7, ⟨S, 11⟩)) := by
 unfold vO
 rw [aB (by rfl), jE]
 cases fM c <;> rfl
theorem sU (a0 : fg) : mh a0 = ((gn a0 9223372036854775807).bind fun a => (((((if (a.2.E == 0) then (((if (decide (a.1 < 1)) then some true else some (decide (a.1 > 4))) : Option Bool).bind fun g => some g) else some false) : Option Bool).bind fun d => (if d then some (⟨a.2.S, 11⟩ : fg) else some a.2)) : Option fg).bind fun h => ((gv h).bind fun c => (rZ a.1 c.1 c.2).bind fun q => vO q.1 q.2))) := rfl
theorem zg (l : List Int) (u : B8 l) (v : l.length ≤ 1000000) : wq (nV l) A7 id (mh ⟨fX l, 0⟩) := by
 rw [sU]
 unfold nV
 have h := xb l u v
 cases p : jC kR 0 0 l with
 | inl e =>
  rw [p] at h
  obtain ⟨he, S, a⟩ := h
  rw [a, aw, aA (by simpa using he)]
  simp only [aw, ay, aI]
  rw [pr S e he, aw]
  obtain ⟨c, i⟩ := vi 0 qv S e he
  rw [i, aw, uZ _ _ _ he]
  exact ⟨he, S, rfl⟩
 | inr q =>
  obtain ⟨k, g⟩ := q
  rw [p] at h
  have a : gn ⟨fX l, 0⟩ 9223372036854775807 = some (k, (⟨fX g, 0⟩ : fg)) := h
  obtain ⟨h1, t⟩ := u.part v (lm kR l 0 0) p
  rw [a, aw, aB (by rfl)]
  simp only [gI]
  by_cases hk : k < 1 ∨ 4 < k
  ·have o : (if decide (k < 1) = true then some true else some (decide (k > 4)) : Option Bool) = some true := by
    by_cases h : k < 1 <;> simp [h]; omega
   rw [o, aB hk]
   simp only [aw, aO]
   rw [pr _ 11 (by decide), aw]
   obtain ⟨c, i⟩ := vi k qv (fX g) 11 (by decide)
   rw [i, aw, uZ _ _ _ (by decide)]
   exact ⟨by decide, _, rfl⟩
  ·have o : (if decide (k < 1) = true then some true else some (decide (k > 4)) : Option Bool) = some false := by
    rw [aA (by simp; omega)]; simp; omega
   rw [o, aA hk]
   simp only [aw, aI, ay]
   have j := sG g h1 t
   cases s : jX g with
   | inl e =>
    rw [s] at j
    obtain ⟨he, S, a⟩ := j
    rw [a, aw]
    obtain ⟨c, i⟩ := vi k qv S e he
    rw [i, aw, uZ _ _ _ he]
    exact ⟨he, S, rfl⟩
   | inr q =>
    obtain ⟨b, n⟩ := q
    rw [s] at j
    have a : gv ⟨fX g, 0⟩ = some (b, (⟨fX n, 0⟩ : fg)) := j
    obtain ⟨x, y⟩ := h1.part t (jJ g) s
    rw [a, aw]
    simp only
    have d := BC k (by omega) b n x y
    cases w : nR k b n with
    | inl e =>
     rw [w] at d
     obtain ⟨he, c, S, a⟩ := d
     rw [a, aw, uZ _ _ _ he]
     exact ⟨he, S, rfl⟩
    | inr q =>
     obtain ⟨c, z⟩ := q
     rw [w] at d
     have a : rZ k b ⟨fX n, 0⟩ = some (c, (⟨fX z, 0⟩ : fg)) := d
     rw [a, aw, B1]
     simp only
     cases fM c
     ·exact ⟨by decide, _, rfl⟩
     ·rfl
theorem Bo (l : List Int) (p : B8 l) (s : l.length ≤ 1000000) : wq (so l) uB id (mm ⟨fX l, 0⟩) := by
 unfold mm so
 have h := zg l p s
 cases k : nV l with
 | inl e =>
  rw [k] at h
  obtain ⟨he, S, d⟩ := h
  rw [d, aw, vv S e _ he, aw, aA (by simpa using he)]
  simp only [aw, ay, aI]
  rw [aB (by simpa using he)]
  exact ⟨he, S, rfl⟩
 | inr q =>
  obtain ⟨c, g⟩ := q
  rw [k] at h
  have d : mh ⟨fX l, 0⟩ = some (c, (⟨fX g, 0⟩ : fg)) := h
  obtain ⟨h1, o⟩ := p.part s (qD l) k
  have j := vC g 8 h1 o
  rw [d, aw]
  simp only [gI]
  cases a : lD 8 g with
  | inl e =>
   rw [a] at j
   obtain ⟨he, S, d⟩ := j
   rw [d, aw, aA (by simpa using he)]
   simp only [aw, ay, aI]
   rw [aB (by simpa using he)]
   exact ⟨he, S, rfl⟩
  | inr q =>
   obtain ⟨t, w⟩ := q
   rw [a] at j
   have d : gu ⟨fX g, 0⟩ 8 = some (fX t, (⟨fX w, 0⟩ : fg)) := j
   have u : B8 t ∧ t.length ≤ 1000000 := by
    unfold lD at a
    cases hw : jC kR 0 0 g with
    | inl e => rw [hw] at a; cases a
    | inr q =>
     obtain ⟨n, x⟩ := q
     obtain ⟨v, i⟩ := h1.part o (lm kR g 0 0) hw
     rw [hw] at a
     simp only [gI] at a
     split at a
     ·cases a
     split at a
     ·cases a
     ·cases a; exact ⟨v.take _, by rw [bx]; omega⟩
   rw [d, aw, aB (by rfl)]
   simp only [aw, jG]
   by_cases i : (t.length : Int) = 8
   ·rw [aB i, aA (show ¬ (((t.length : Int) != 8) = true) by simp [i])]
    simp only [aw]
    rw [aA (by simp), xQ u.1 u.2]
    rfl
   ·rw [aA i, aB (show ((t.length : Int) != 8) = true by simpa using i)]
    exact ⟨by decide, _, rfl⟩
theorem Az (l : List Int) (j : B8 l) (k : l.length ≤ 1000000) : ∃ t, mm ⟨fX l, 0⟩ = some ((rs l).2, t) ∧ kG t = some (rs l).1 ∧ B8 (rs l).2.Tag := by
 have h := Bo l j k
 unfold rs
 cases a : so l with
 | inl e =>
  rw [a] at h
  obtain ⟨he, S, v⟩ := h
  refine ⟨_, v, ?_, fun x a => by cases a⟩
  unfold kG
  rw [aA (by simpa using he)]
  simp
 | inr q =>
  obtain ⟨s, o⟩ := q
  rw [a] at h
  refine ⟨_, h, ?_, ?_⟩
  ·unfold kG
   simp only [aZ, aO, aw]
   cases o with
   | nil => rw [xk, show fU zS zS = true from gz.2 rfl]; rfl
   | cons c o => rw [ye]; simp
  ·unfold so at a
   cases g : nV l with
   | inl e => rw [g] at a; cases a
   | inr q =>
    obtain ⟨c, i⟩ := q
    obtain ⟨h1, p⟩ := j.part k (qD l) g
    rw [g] at a
    simp only [gI] at a
    cases d : lD 8 i with
    | inl e => rw [d] at a; cases a
    | inr q =>
     obtain ⟨t, y⟩ := q
     rw [d] at a
     simp only at a
     split at a
     ·cases a
      unfold lD at d
      cases hw : jC kR 0 0 i with
      | inl e => rw [hw] at d; cases d
      | inr q =>
       obtain ⟨n, z⟩ := q
       obtain ⟨u, w⟩ := h1.part p (lm kR i 0 0) hw
       rw [hw] at d
       simp only [gI] at d
       split at d
       ·cases d
       split at d
       ·cases d
       ·cases d; exact u.take _
     ·cases a
theorem AD (t : List Int) (h : t.length = 8) : iO (fX t) = some (fX ((8 : Int) :: t)) := by
 unfold iO
 rw [jG, h]
 have := ru (n := 8) (by decide) (by decide)
 rw [show ((8 : Nat) : Int) = 8 from rfl, this]
 simp only [aw]
 rw [jj _ _ (by simp; omega)]
 rfl
theorem vg (z : kZ = some true) (s : ft) (b : List Int) (A : B8 s.Tag) (k : B8 b) (y : pF s.eX ≤ 1000000000) : mz s b = some true := by
 unfold mz
 rw [z]
 simp only [aw, bT, ay, aI]
 obtain ⟨r, e⟩ := AM [] [s] (by simpa using y)
 rw [e]
 simp only [aw]
 have v : ∀ (a b : Bool), (if a = true then some true else some b : Option Bool) = some (a || b) := fun a b => A4
 rw [v]
 simp only [aw]
 by_cases o : (decide (r > 600) || decide ((b.length : Int) > 400)) = true
 ·rw [aB o]
 rw [aA o]
 have g : b.length ≤ 1000000 := by simp at o; omega
 have x : ml s = some (fM s.eX && decide (s.Tag.length = 8)) := by
  unfold ml
  rw [jE]
  cases fM s.eX
  ·rfl
  ·by_cases j : s.Tag.length = 8
   ·simp [j]
   ·have : ((s.Tag.length : Int) == 8) = false := by simpa using (by omega : ¬ (s.Tag.length : Int) = 8)
    simp [j, this]
 obtain ⟨t, g1, g2, g3⟩ := Az b k g
 have u := yT (rs b).2 g3
 rw [x, yw]
 simp only [aw]
 have d : ∀ (p : Bool × List Int) (w : ByteArray), p.2.length ≤ 1000000 → fX p.2 = w → p.1 = (fM s.eX && decide (s.Tag.length = 8)) →
   ((if (p.1 != (fM s.eX && decide (s.Tag.length = 8))) = true then some true else (iy p.2).bind fun i => some (!fU (jo i) w) : Option Bool) = some false) := fun p w q hw hp => by
  rw [aA (by simp [hp]), vq q]
  simp only [aw, kW, hw]
  rw [show fU w w = true from gz.2 rfl]; rfl
 by_cases c : fM s.eX = true ∧ s.Tag.length = 8
 ·rw [aB (by simp [c.1, c.2]), aB c]
  have n : nt s = some (fX (fW s.eX ++ ((8 : Int) :: s.Tag))) := by
   unfold nt
   rw [rB _ c.1]
   simp only [aw, kW]
   have q := oU c.1
   rw [AD _ c.2]
   simp only [aw]
   rw [jj _ _ (by simp; omega)]
   rfl
  rw [n]
  simp only [aw]
  have q := oU c.1
  rw [d (true, fW s.eX ++ ((8 : Int) :: s.Tag)) _ (by simp; omega) rfl (by simp [c.1, c.2])]
  simp only [aw, ay, aI, mV]
  rw [show (⟨(⟨0, (⟨zS, zS⟩ : fu), zS, (⟨zS, zS⟩ : fu), (⟨zS, zS⟩ : fu), zS⟩ : eX), []⟩ : ft) = uB from rfl, wW b k g, kW, g1]
  simp only [aw, u, aO, g2, aZ]
 ·rw [aA (by simpa using c), aA c]
  simp only [aw]
  rw [d (false, []) zS (by simp) rfl (by
   cases h1 : fM s.eX
   ·rfl
   ·have j : ¬ s.Tag.length = 8 := fun h => c ⟨h1, h⟩
    simp [j])]
  simp only [aw, ay, aI, mV]
  rw [show (⟨(⟨0, (⟨zS, zS⟩ : fu), zS, (⟨zS, zS⟩ : fu), (⟨zS, zS⟩ : fu), zS⟩ : eX), []⟩ : ft) = uB from rfl, wW b k g, kW, g1]
  simp only [aw, u, aO, g2, aZ]
end Go.Proofs.YtcafmokjkjcomaaGreat
namespace Go.Proofs.YtcafmokjkjcomaaGreat.Lf
open Go.ChangeShapes Go.WideShapes Go.ChangeAt Go.RowKit
open Go.Proofs.YtcafmokjkjcomaaGreat (Rows.uptoBulk Rows.uptoBulkAll Rows.uptoSmall)
theorem BA {H : Type} (d : DataW H) : 1 ≤ Rows.uptoBulk d := by
 cases d with
 | lit l => cases l <;> simp [Rows.uptoBulk]
 | nil => simp [Rows.uptoBulk]
 | ptr d => simp [Rows.uptoBulk]
 | slice a spare => simp [Rows.uptoBulk]
 | agg parts => simp [Rows.uptoBulk]
 | iface t d => simp [Rows.uptoBulk]
 | map entries => simp [Rows.uptoBulk]
 | held h => simp [Rows.uptoBulk]
def xm {α : Type} (P : Program) (t : TypeId) (enc : α → List Value) (g : α → Nat) : Prop :=
 ∀ (H : Type) (c : TypeId × Value → H) (W : World) (base : Nat) (sp : Nat → Bool) (d : Bool) (fuel : Nat) (cs : List Value) (x : DataW H × List MemPlace),
  DataW.trod c P W base sp d fuel t cs = some x → ∃ a : α, cs = enc a ∧ g a ≤ Rows.uptoBulk x.1
theorem xB {P : Program} {t : TypeId} (a : P.underlying t = some .string) : xm P t (fun s : ByteArray => [.string s]) (fun s => s.size) := by
 intro H c W base sp d fuel cs x h
 obtain ⟨s, rfl, rfl, _⟩ := DataW.trod_string a h
 refine ⟨s, rfl, ?_⟩
 have e : s.data.toList.length = s.size := by rw [bG]; rfl
 simp [Rows.uptoBulk, e]
theorem Am {P : Program} {t : TypeId} {k : IntKind} (a : P.underlying t = some (.int k)) : xm P t (fun n : Int => [.int k n]) (fun _ => 0) := by
 intro H c W base sp d fuel cs x h
 obtain ⟨n, rfl, rfl, _⟩ := DataW.trod_int a h
 exact ⟨n, rfl, di _⟩
theorem AE {α : Type} {n : Nat} {p : Nat → α → Prop} (h : ∀ i, i < n → ∃ x, p i x) : ∃ l : List α, l.length = n ∧ ∀ i x, l[i]? = some x → p i x := by
 induction n with
 | zero => exact ⟨[], rfl, by simp⟩
 | succ n ih =>
  obtain ⟨l, h1, c⟩ := ih fun i hi => h i (by omega)
  obtain ⟨x, g⟩ := h n (by omega)
  refine ⟨l ++ [x], by simp [h1], fun i y a => ?_⟩
  by_cases hi : i < l.length
  ·rw [List.getElem?_append_left hi] at a
   exact c i y a
  ·rw [dh (by omega)] at a
   have : i - l.length = 0 := by
    cases d : i - l.length with
    | zero => rfl
    | succ m => rw [d] at a; simp at a
   rw [this] at a
   have e : i = n := by omega
   simp at a
   subst a; rw [e]; exact g
theorem wo {W : World} {a : Addr} {v : Value} (h : W.cell? a = some v) : ∃ cs T fr, W.heap[a.block]? = some (.cells cs T fr) ∧ a.spot = none ∧ cs[a.off]? = some v := by
 unfold World.cell? at h
 split at h
 ·rename_i c T fr g
  by_cases d : a.spot.isSome
  ·simp [d] at h
  ·simp only [d] at h
   exact ⟨c, T, fr, g, by simpa using d, by simpa using h⟩
 ·cases h
theorem Ex.below {dd : Bool} {W W' : World} (h : Ex dd W W') : Below W.heap.size W W' := ⟨h.os, h.tape, h.output, h.size, h.jZ⟩
theorem qY {H : Type} {n : TypeId × Value → H} {P : Program} (s : laidOutB P = true) {W W' : World} {c : Nat → Bool} :
  ∀ {i : List TypeId} {vs : List Value} {j : List (DataW H)} {g : List MemPlace}, (∀ t ∈ i, P.readableRec t = true ∧ t < P.types.size) →
   DataW.TrodAll n P W 0 (fun _ => true) true i vs j g → (∀ p ∈ g, W.sameAt W' p) → (∀ p ∈ g, c p.block = true) → DataW.TrodAll n P W' 0 c true i vs j g
 | [], _, _, _, _, h, _, _ => by
  obtain ⟨rfl, rfl, rfl⟩ := trodAll_nil h
  exact trodAll_mk0
 | t :: i, _, _, _, k, h, h1, o => by
  obtain ⟨v, vs, d, j, p, q, rfl, rfl, rfl, w, y⟩ := trodAll_cons h
  exact trodAll_cons_mk (WideElems.Trod_stays s (k t (by simp)).1 (k t (by simp)).2 w (fun x a => h1 x (by simp [a])) (fun x a => o x (by simp [a])))
   (qY s (fun u hu => k u (by simp [hu])) y (fun x a => h1 x (by simp [a])) (fun x a => o x (by simp [a])))
theorem xv {H : Type} {enc : TypeId × Value → H} {P : Program} (L : laidOutB P = true) {f : Func} {s : ChangeSpec} {apart fresh handsOn again : Bool} {W W' : World} {args : Array Value} {v : Value} {a gs : List (DataW H)} {before : List MemPlace} (O : ∀ t ∈ f.params.toList, P.readableRec t = true ∧ t < P.types.size) (o : s.vars = []) (y : DataW.Whole enc P f.params.toList s.vars apart W args.toList a gs before) {dd : Bool} (G : Ex dd W W') (c : ∀ (b : Nat) (sp : Nat → Bool) (K : Bool), DataW.TrodAll enc P W' b sp K f.resultTypes.toList (v.resultList f.resultTypes.size) (s.fn H (a ++ gs)).results []) (d : (s.fn H (a ++ gs)).args = a) (h : (s.fn H (a ++ gs)).vars = []) (D : ∀ (j : Nat) (t : TypeId) (r : Value), f.resultTypes[j]? = some t → (v.resultList f.resultTypes.size)[j]? = some r → Value.okWide P W' .any 0 t r) :
  s.post enc P f apart fresh handsOn again W args v W' := by
 have g := y.lt
 have hold : ∀ p ∈ before, (fun b => decide (b < W.heap.size)) p.block = true := fun p hp => by simpa using g p hp
 have A := Ex.below G
 have z := y
 obtain ⟨p, q, J, I, k, Q, M⟩ := y
 rw [o] at I
 obtain ⟨rfl, rfl⟩ := trodVars_none I
 rw [cm] at k
 subst k
 have n : ∀ sp : Nat → Bool, (∀ p ∈ before, sp p.block = true) → DataW.TrodAll enc P W' 0 sp true f.params.toList args.toList (s.fn H (a ++ [])).args before := fun sp F => by
  rw [d]
  exact qY L O J (fun x G => A.same (g x G)) F
 have u : ∀ sp : Nat → Bool, DataW.TrodVars enc P W' sp s.vars (s.fn H (a ++ [])).vars [] := fun sp => by
  rw [h, o]; rfl
 refine ⟨a, [], before, [], before, [], z, c _ _ _, n _ hold, u _, World.keptBut_mono (fun p hp => ⟨hp, ?_⟩) (A.frame (· ∈ before)), fun _ => ?_⟩
 ·exact Or.inr (Or.inl hp)
 ·refine ⟨D, _, _, ([] ++ before) ++ [], ⟨[] ++ before, [], trodAll_append (n _ (fun _ _ => rfl)) (c _ _ _), u _, rfl, ?_, ?_⟩, ?_⟩
  ·intro b off hp
   have i : MemPlace.cell b off ∈ before := by simpa using hp
   rw [World.frozen?_of_block (w := W) (A.block b (g _ i))]
   exact Q b off i
  ·intro ha
   simpa using M ha
  ·intro p hp _
   simpa using hp
end Go.Proofs.YtcafmokjkjcomaaGreat.Lf
namespace Go.Proofs.YtcafmokjkjcomaaGreat.Lf
open Go.ChangeShapes Go.WideShapes Go.ChangeAt Go.RowKit
open Go.Proofs.YtcafmokjkjcomaaGreat (Rows.uptoBulk Rows.uptoBulkAll Rows.uptoSmall)
def yc {α : Type} (P : Program) (t : TypeId) (R : jT α) (g : α → Nat) : Prop :=
 ∀ (H : Type) (c : TypeId × Value → H) (W : World) (base : Nat) (sp : Nat → Bool) (d : Bool) (fuel : Nat) (cs : List Value) (x : DataW H × List MemPlace),
  DataW.trod c P W base sp d fuel t cs = some x → ∃ a : α, R (hp W) cs a ∧ g a ≤ Rows.uptoBulk x.1
end Go.Proofs.YtcafmokjkjcomaaGreat.Lf
namespace Go.Proofs.YtcafmokjkjcomaaGreat.Lf
open Go.ChangeShapes Go.WideShapes Go.ChangeAt Go.RowKit
open Go.Proofs.YtcafmokjkjcomaaGreat (Rows.uptoBulk Rows.uptoBulkAll Rows.uptoSmall)
theorem sC {H : Type} : ∀ l : List (DataW H), Rows.uptoBulkAll l = (l.map Rows.uptoBulk).sum
 | [] => by simp [Rows.uptoBulkAll]
 | d :: l => by simp [Rows.uptoBulkAll, sC l]
theorem yQ {α : Type} (g : α → Nat) : ∀ (n : Nat) (f : Nat → Nat) {l : List α}, l.length = n → (∀ i x, l[i]? = some x → g x ≤ f i) → (l.map g).sum ≤ ((List.range n).map f).sum
 | 0, f, l, c, h => by
  obtain rfl := bX.1 c
  simp
 | n + 1, f, [], c, h => by cases c
 | n + 1, f, a :: l, c, h => by
  rw [List.range_succ_eq_map, aT, aT, List.sum_cons, List.sum_cons, bV]
  have h1 := h 0 a rfl
  have j := yQ g n (f ∘ Nat.succ) (l := l) (by simpa using c) (fun i x d => h (i + 1) x (by simpa using d))
  omega
def yo {α : Type} (c : α → Nat) (l : List α) : Nat := (l.map fun a => max 1 (c a)).sum
theorem wF {α : Type} {P : Program} {t e : TypeId} {k : Nat} {R : jT α} {M : α → Nat} (hk : P.cellsOf e = k) (J : 0 < k) (ht : P.underlying t = some (.slice e)) {H : Type} {U : TypeId × Value → H} {W : World} {base : Nat} {sp : Nat → Bool} {held : Bool} {fuel : Nat} {cs : List Value} {x : DataW H × List MemPlace} (hd : ∀ (fuel : Nat) (cs : List Value) (y : DataW H × List MemPlace), DataW.trod U P W base sp held fuel e cs = some y → SizeOf.sizeOf y.1 < SizeOf.sizeOf x.1 → ∃ a : α, R (hp W) cs a ∧ M a ≤ Rows.uptoBulk y.1) (hf : DataW.trod U P W base sp held fuel t cs = some x) :
  ∃ v l, cs = [v] ∧ Sl R k (hp W) v l ∧ yo M l ≤ Rows.uptoBulk x.1 := by
 rcases Go.Deep.open_slice ht hf with ⟨rfl, rfl⟩ | ⟨a, ln, cp, m, n, D, Q, rfl, hb, hl, hm, L, rfl, I⟩
 ·exact ⟨_, [], rfl, ⟨none, 0, rfl, aQ _, di _, fun h => absurd h (Nat.lt_irrefl _)⟩, di _⟩
 ·have aa : ln ≤ m := by rw [L]; split <;> omega
  have hB : ((List.range ln).map fun i => Rows.uptoBulk (D i)).sum ≤ Rows.uptoBulk (DataW.slice ((List.range ln).map D) ((List.range (m - ln)).map fun j => D (ln + j))) := by
   simp only [Rows.uptoBulk]
   rw [sC, bV]
   have e : ((List.range ln).map fun i => Rows.uptoBulk (D i)) = (List.range ln).map (Rows.uptoBulk ∘ D) := rfl
   rw [e]
   omega
  have hS : ∀ i, i < ln → SizeOf.sizeOf (D i) < SizeOf.sizeOf (DataW.slice ((List.range ln).map D) ((List.range (m - ln)).map fun j => D (ln + j))) := fun i hi => by
   have := List.sizeOf_lt_of_mem (aS.2 ⟨i, List.mem_range.2 hi, rfl⟩ : D i ∈ (List.range ln).map D)
   rw [DataW.slice.sizeOf_spec]; omega
  simp only at hd ⊢
  generalize Rows.uptoBulk (DataW.slice ((List.range ln).map D) ((List.range (m - ln)).map fun j => D (ln + j))) = B at hB
  obtain ⟨l, K, q⟩ := AE (α := α) (n := ln) (p := fun i x => ∃ cs', W.cells? base (a.add (i * k)) k = some cs' ∧ R (hp W) cs' x ∧ M x ≤ Rows.uptoBulk (D i)) fun i hi => by
   obtain ⟨cs', h1, z⟩ := I i (by omega)
   obtain ⟨x, hR, A⟩ := hd _ _ _ z (hS i hi)
   rw [hk] at h1
   exact ⟨x, cs', h1, hR, A⟩
  subst K
  refine ⟨_, l, rfl, ⟨some a, cp, rfl, hl, hm, fun h0 => ?_⟩, ?_⟩
  ·have c : ∀ i x, l[i]? = some x → ∃ cs', R (hp W) cs' x ∧ cs'.length = k ∧ ∀ j, j < k → W.cell? ((a.add (i * k)).add j) = cs'[j]? := fun i x s =>
    let ⟨cs', h1, z, _⟩ := q i x s
    let ⟨_, A, Y⟩ := World.cells?_some h1
    ⟨cs', z, A, Y⟩
   obtain ⟨a6, _, Y, h5⟩ := c 0 l[0] (by simp [h0])
   have F := h5 0 J
   rw [Nat.zero_mul, bD (by omega)] at F
   have e0 : (a.add 0).add 0 = a := rfl
   rw [e0] at F
   obtain ⟨cs, T, fr, G, Z, _⟩ := wo F
   obtain ⟨u, w, a1⟩ := a
   simp only at G Z
   subst Z
   refine ⟨u, w, cs, T, fr, rfl, G, fun i x s => ?_⟩
   obtain ⟨cs', gR, g1, g2⟩ := c i x s
   refine ⟨cs', g1, gR, fun j y hy => ?_⟩
   have hj : j < k := by
    rw [← g1]
    exact (aM.1 hy).1
   have h9 := g2 j hj
   rw [Go.Deep.add_add, hy] at h9
   obtain ⟨O, T', a7, d, a8, g⟩ := wo h9
   have o : (Addr.add ⟨u, w, none⟩ (i * k + j)).block = u ∧ (Addr.add ⟨u, w, none⟩ (i * k + j)).off = w + (i * k + j) := by
    unfold Addr.add
    split
    ·rename_i hz
     rw [hz]; exact ⟨rfl, rfl⟩
    ·exact ⟨rfl, rfl⟩
   rw [o.1, G] at d
   cases d
   rw [o.2, ← dv] at g
   exact g
  ·refine bI (yQ _ _ _ rfl fun i x s => ?_) hB
   exact Nat.max_le.2 ⟨BA _, (q i x s).elim fun _ h => h.2.2⟩
theorem sk {α : Type} {P : Program} {t e : TypeId} {k : Nat} {R : jT α} {c : α → Nat} (hk : P.cellsOf e = k) (a : 0 < k) (g : yc P e R c) (j : P.underlying t = some (.slice e)) {H : Type} {d : TypeId × Value → H} {W : World} {base : Nat} {sp : Nat → Bool} {held : Bool} {fuel : Nat} {cs : List Value} {x : DataW H × List MemPlace} (i : DataW.trod d P W base sp held fuel t cs = some x) :
  ∃ v l, cs = [v] ∧ Sl R k (hp W) v l ∧ yo c l ≤ Rows.uptoBulk x.1 := wF hk a j (fun _ _ _ h _ => g _ _ _ _ _ _ _ _ _ h) i
end Go.Proofs.YtcafmokjkjcomaaGreat.Lf
namespace Go.Proofs.YtcafmokjkjcomaaGreat.Lf
open Go.ChangeShapes Go.WideShapes Go.ChangeAt Go.RowKit
open Go.Proofs.YtcafmokjkjcomaaGreat (Rows.uptoBulk Rows.uptoBulkAll Rows.uptoSmall)
def zZ {α : Type} (R : jT α) (Q : α → Prop) : jT α := fun μ ys x => R μ ys x ∧ Q x
theorem Sl.all {α : Type} {R : jT α} {Q : α → Prop} {k : Nat} {μ : fz} {v : Value} {l : List α} (h : Sl (zZ R Q) k μ v l) : Sl R k μ v l ∧ ∀ x ∈ l, Q x := by
 obtain ⟨A, c, rfl, h1, j, s⟩ := h
 cases l with
 | nil => exact ⟨⟨A, c, rfl, h1, j, fun h => absurd h (by simp)⟩, by simp⟩
 | cons a l =>
  obtain ⟨b, o, cs, T, fr, e, t, n⟩ := s (by simp)
  refine ⟨⟨A, c, rfl, h1, j, fun _ => ⟨b, o, cs, T, fr, e, t, fun i x g => ?_⟩⟩, fun x g => ?_⟩
  ·obtain ⟨ys, p, d, q⟩ := n i x g
   exact ⟨ys, p, d.1, q⟩
  ·obtain ⟨i, hi⟩ := List.mem_iff_getElem?.1 g
   obtain ⟨ys, p, d, q⟩ := n i x hi
   exact d.2
theorem Ao {P : Program} {t : TypeId} (a : P.underlying t = some (.int .u8)) : yc P t (zZ (Pl (fl .u8)) (fun x => 0 ≤ x ∧ x < 256)) (fun _ => 0) := by
 intro H c W base sp d fuel cs x h
 obtain ⟨n, rfl, rfl, hw⟩ := DataW.trod_int a h
 refine ⟨n, ⟨rfl, ?_⟩, di _⟩
 simp [Lit.wf, IntKind.min, IntKind.max, IntKind.bits, IntKind.signed] at hw
 omega
theorem wB {α H : Type} {p : TypeId × Value → H} {P : Program} {t e : TypeId} {k : Nat} {R : jT α} {Q : α → Prop} {n : α → Nat} (hk : P.cellsOf e = k) (c : 0 < k) (w : yc P e (zZ R Q) n) (j : P.underlying t = some (.slice e)) {W : World} {base o : Nat} {r : Reach} {sp : Nat → Bool} {held : Bool} {v : Value} {d : DataW H} {z : List MemPlace} (a : Value.okWide P W r o t v) (h : DataW.Trod p P W base sp held t v d z) :
  ∃ l : List α, Sl R k (hp W) v l ∧ yo n l ≤ Rows.uptoBulk d ∧ ∀ x ∈ l, Q x := by
 obtain ⟨A, ln, g, rfl⟩ := okWide_slice j a
 obtain ⟨fuel, y⟩ := h
 obtain ⟨u, l, h1, i, q⟩ := sk hk c w j y
 have s : (Value.slice A ln g).cells.toList = [Value.slice A ln g] := rfl
 rw [s] at h1
 cases h1
 exact ⟨l, (Sl.all i).1, q, (Sl.all i).2⟩
end Go.Proofs.YtcafmokjkjcomaaGreat.Lf
namespace Go.Proofs.YtcafmokjkjcomaaGreat
open Go.IntKind renaming wrap → wi0
open Go.Proofs.Tryz renaming prog → pg0
set_option maxRecDepth 10000
open Go.ChangeShapes Go.WideShapes Go.ChangeAt Go.RowKit
open Go.Proofs.YtcafmokjkjcomaaGreat Go.Proofs.YtcafmokjkjcomaaGreat.Lf
theorem AH : Tryz.prog.cellsOf 38 = 10 := by kernel_rfl
theorem len2 {α : Type} {l : List α} (h : l.length = 2) : ∃ a0 a, l = [a0, a] := by
 match l, h with
 | [a0, a], _ => exact ⟨a0, a, rfl⟩
theorem B3 {α : Type} {l : List α} (h : l.length = 10) : ∃ a0 a a2 a3 a4 a5 c d g a9, l = [a0, a, a2, a3, a4, a5, c, d, g, a9] := by
 match l, h with
 | [a0, a, a2, a3, a4, a5, c, d, g, a9], _ => exact ⟨a0, a, a2, a3, a4, a5, c, d, g, a9, rfl⟩
theorem xa : Tryz.prog.cellsOf 35 = 9 := by kernel_rfl
theorem Cw : xm pg0 3 (fun n : Int => [.int .i64 n]) (fun _ => 0) := Am Tryz.underlying3
theorem Bq : Tryz.prog.cellsOf 3 = 1 := by kernel_rfl
theorem xq : xm pg0 9 (fun s : ByteArray => [.string s]) (fun s => s.size) := xB Tryz.underlying9
theorem yi : Tryz.prog.cellsOf 9 = 1 := by kernel_rfl
theorem xg : Tryz.prog.cellsOf 33 = 2 := by kernel_rfl
def qw (x : fu) : Nat := x.eY.size + x.eZ.size
theorem xC : xm pg0 33 fC qw := by
 intro H g W base sp j fuel cs x h
 obtain ⟨xs, n, _, rfl, q, hlen, k⟩ := ev Tryz.underlying33 h
 obtain ⟨t, u, rfl⟩ := len2 hlen
 obtain ⟨a, c1, rfl⟩ := len2 (q.trans xg)
 have i : DataW.trod g pg0 W base sp j n 9 (([a, c1].drop 0).take (Tryz.prog.cellsOf 9)) = some t := k 0 _ rfl
 have h1 : DataW.trod g pg0 W base sp j n 9 (([a, c1].drop 1).take (Tryz.prog.cellsOf 9)) = some u := k 1 _ rfl
 simp only [yi, List.drop, List.take] at i h1
 obtain ⟨s, c, o⟩ := xq _ _ _ _ _ _ _ _ _ i
 obtain ⟨s1, d, p⟩ := xq _ _ _ _ _ _ _ _ _ h1
 simp only [bM, and_true] at c d
 obtain rfl := c
 obtain rfl := d
 refine ⟨⟨s, s1⟩, rfl, ?_⟩
 simp only [List.map, Rows.uptoBulk, Rows.uptoBulkAll, qw] at o p ⊢
 omega
theorem Cf {α : Type} {l : List α} (h : l.length = 6) : ∃ a0 a a2 a3 a4 a5, l = [a0, a, a2, a3, a4, a5] := by
 match l, h with
 | [a0, a, a2, a3, a4, a5], _ => exact ⟨a0, a, a2, a3, a4, a5, rfl⟩
theorem Ch {α : Type} {l : List α} (h : l.length = 9) : ∃ a0 a a2 a3 a4 a5 c d g, l = [a0, a, a2, a3, a4, a5, c, d, g] := by
 match l, h with
 | [a0, a, a2, a3, a4, a5, c, d, g], _ => exact ⟨a0, a, a2, a3, a4, a5, c, d, g, rfl⟩
def tr (x : eX) : Nat := qw x.Head + x.fD.size + qw x.B + qw x.C + x.fw.size
theorem BK : xm pg0 35 fa tr := by
 intro H o W base sp p fuel cs x h
 obtain ⟨xs, n, _, rfl, P, hlen, q⟩ := ev Tryz.underlying35 h
 obtain ⟨Y, Z, y2, y3, y4, y5, rfl⟩ := Cf hlen
 obtain ⟨a, c1, c2, c, d, g, i, j, k, rfl⟩ := Ch (P.trans xa)
 have z : DataW.trod o pg0 W base sp p n 3 (([a, c1, c2, c, d, g, i, j, k].drop 0).take (Tryz.prog.cellsOf 3)) = some Y := q 0 _ rfl
 have h1 : DataW.trod o pg0 W base sp p n 33 (([a, c1, c2, c, d, g, i, j, k].drop 1).take (Tryz.prog.cellsOf 33)) = some Z := q 1 _ rfl
 have A : DataW.trod o pg0 W base sp p n 9 (([a, c1, c2, c, d, g, i, j, k].drop 3).take (Tryz.prog.cellsOf 9)) = some y2 := q 2 _ rfl
 have D : DataW.trod o pg0 W base sp p n 33 (([a, c1, c2, c, d, g, i, j, k].drop 4).take (Tryz.prog.cellsOf 33)) = some y3 := q 3 _ rfl
 have F : DataW.trod o pg0 W base sp p n 33 (([a, c1, c2, c, d, g, i, j, k].drop 6).take (Tryz.prog.cellsOf 33)) = some y4 := q 4 _ rfl
 have G : DataW.trod o pg0 W base sp p n 9 (([a, c1, c2, c, d, g, i, j, k].drop 8).take (Tryz.prog.cellsOf 9)) = some y5 := q 5 _ rfl
 simp only [Bq, xg, yi, List.drop, List.take] at z h1 A D F G
 obtain ⟨Q, s, I⟩ := Cw _ _ _ _ _ _ _ _ _ z
 obtain ⟨s1, t, J⟩ := xC _ _ _ _ _ _ _ _ _ h1
 obtain ⟨s2, u, K⟩ := xq _ _ _ _ _ _ _ _ _ A
 obtain ⟨R, v, L⟩ := xC _ _ _ _ _ _ _ _ _ D
 obtain ⟨T, w, M⟩ := xC _ _ _ _ _ _ _ _ _ F
 obtain ⟨U, y, O⟩ := xq _ _ _ _ _ _ _ _ _ G
 simp only [fC, bM, and_true] at s t u v w y
 obtain rfl := s
 obtain ⟨rfl, rfl⟩ := t
 obtain rfl := u
 obtain ⟨rfl, rfl⟩ := v
 obtain ⟨rfl, rfl⟩ := w
 obtain rfl := y
 refine ⟨⟨Q, s1, s2, R, T, U⟩, rfl, ?_⟩
 simp only [List.map, Rows.uptoBulk, Rows.uptoBulkAll, tr] at I J K L M O ⊢
 omega
theorem AB : Tryz.prog.cellsOf 36 = 1 := by kernel_rfl
theorem yC : Tryz.prog.cellsOf 5 = 1 := by kernel_rfl
theorem zX : yc pg0 5 (zZ (Pl (fl .u8)) (fun x => 0 ≤ x ∧ x < 256)) (fun _ => 0) := Ao Tryz.underlying5
def qG (x : ft) : Nat := tr x.eX + yo (fun _ : Int => 0) x.Tag + 1
theorem Cv : Tryz.prog.readableRec 38 = true ∧ 38 < Tryz.prog.types.size := ⟨by kernel_rfl, df (by kernel_rfl)⟩
theorem Cp : Tryz.prog.readableRec 36 = true ∧ 36 < Tryz.prog.types.size := ⟨by kernel_rfl, df (by kernel_rfl)⟩
theorem Cz : ownKnob Tryz.prog.godebug = none := by kernel_rfl
theorem zl : laidOutB pg0 = true := by kernel_rfl
theorem zh (H : Type) (enc : TypeId × Value → H) (W : World) (base : Nat) (args : Array Value) (M gs : List (DataW H)) (before : List MemPlace) (c : ∀ (j : Nat) t v, Tryz.f4.params[j]? = some t → args[j]? = some v → Value.okWide pg0 W .any base t v) (hW : DataW.Whole enc pg0 Tryz.f4.params.toList Rows.keysGetSpec.vars false W args.toList M gs before) (hk : Rows.uptoSmall H (M ++ gs) = true) :
  Calls pg0 4 args W fun e W' => ∃ v, e = .returned v ∧ Rows.keysGetSpec.post enc pg0 Tryz.f4 false true false false W args v W' := by
 have P := hW
 obtain ⟨p, q, O, hV, rfl, aa, ab⟩ := hW
 have hA : DataW.TrodAll enc pg0 W 0 (fun _ => true) true Tryz.f4.params.toList args.toList M p := O
 have hr : ∀ t ∈ Tryz.f4.params.toList, Tryz.prog.readableRec t = true ∧ t < Tryz.prog.types.size := by
  rw [Tryz.params4]
  intro t ht
  simp only [aF, bi, cC] at ht
  rcases ht with rfl | rfl
  ·exact Cv
  ·exact Cp
 rw [Tryz.params4] at hA c
 obtain ⟨v0, ad, d0, a6, p0, q0, Q, rfl, rfl, h0, r0⟩ := trodAll_cons hA
 obtain ⟨v1, ae, d1, a7, p1, q1, rfl, rfl, rfl, h1, r1⟩ := trodAll_cons r0
 obtain ⟨rfl, rfl, rfl⟩ := trodAll_nil r1
 obtain rfl : args = #[v0, v1] := by cases args; simp_all
 obtain ⟨rfl, rfl⟩ := trodVars_none hV
 have k0 := c 0 38 v0 rfl rfl
 have k1 := c 1 36 v1 rfl rfl
 obtain ⟨F, rfl, _⟩ := okWide_struct Tryz.underlying38 k0
 obtain ⟨a8, G⟩ := h0
 obtain ⟨U, rfl⟩ : ∃ l : List Value, F = l.toArray := ⟨F.toList, by simp⟩
 change DataW.trod _ _ _ _ _ _ _ _ U = some _ at G
 obtain ⟨af, n1, _, T, R, A, I⟩ := ev Tryz.underlying38 G
 obtain ⟨J, K, rfl⟩ := len2 A
 obtain ⟨d, g, h, i, n, o, s, u, w, a, rfl⟩ := B3 (R.trans AH)
 have x : DataW.trod _ pg0 W _ _ _ n1 35 (([d, g, h, i, n, o, s, u, w, a].drop 0).take (Tryz.prog.cellsOf 35)) = some J := I 0 _ rfl
 have y : DataW.trod _ pg0 W _ _ _ n1 36 (([d, g, h, i, n, o, s, u, w, a].drop 9).take (Tryz.prog.cellsOf 36)) = some K := I 1 _ rfl
 simp only [xa, AB, List.drop, List.take] at x y
 obtain ⟨s2, Z, b2⟩ := BK _ _ _ _ _ _ _ _ _ x
 simp only [fa, fC, bM, and_true] at Z
 obtain ⟨rfl, rfl, rfl, rfl, rfl, rfl, rfl, rfl, rfl⟩ := Z
 obtain ⟨v3, D, e3, Y, b3⟩ := sk yC (by decide) zX Tryz.underlying36 y
 simp only [bM, and_true] at e3
 obtain rfl := e3
 obtain ⟨Y, g3⟩ := Lf.Sl.all Y
 have b1 := aH (fun z => Rows.uptoBulk z.1) T
 simp only [List.map, Rows.uptoBulk, Rows.uptoBulkAll] at b2 b3 b1
 have z0 : qG (⟨s2, D⟩ : ft) ≤ Rows.uptoBulk d0 := by simp only [qG]; omega
 obtain ⟨L, s1, z1, o1⟩ := wB (k := 1) yC (by decide) zX Tryz.underlying36 k1 h1
 have hB : Rows.uptoBulkAll ([d0, d1] ++ []) ≤ 1048576 := df hk
 simp only [cm, Rows.uptoBulkAll] at hB
 have hm : mz (⟨s2, D⟩ : ft) L = some true := vg AP (⟨s2, D⟩ : ft) L g3 o1 (by have : pF s2 + yo (fun _ : Int => 0) D + 1 = qG (⟨s2, D⟩ : ft) := (by simp only [qG, tr, qw, pF]; omega); show pF s2 ≤ _; omega)
 have hg := tL (⟨s2, D⟩ : ft) a v1 L true W Y s1 hm
 refine bp hg fun e W' ⟨he, hx⟩ => ?_
 subst he
 exact ⟨_, rfl, xv zl hr rfl P hx (fun _ _ _ => trodAll_cons_mk (shut_bool Tryz.underlying4 _) trodAll_mk0) rfl rfl (ok_one (by kernel_rfl) rfl (okWide_bool_mk Tryz.underlying4 _))⟩
set_option maxRecDepth 100000 in
theorem Bc (os : Os) (started : os.Started) (H : Type) (enc : TypeId × Value → H) (F : Stop.Interp) :
  ReturnsInHanded {} Tryz.checked os 4 .any ((Rows.OpenSpec.upto Rows.keysGetSpec).pre6 enc pg0 Tryz.f4 Rows.keysGetUptoRow.domain false) (((Rows.OpenSpec.upto Rows.keysGetSpec).at F).post enc pg0 Tryz.f4 false true false false) := by
 refine returnsInHanded_of_cond (C := Tryz.checked) (s := Rows.OpenSpec.upto Rows.keysGetSpec) (k := Rows.uptoSmall) rfl Cz started (by kernel_rfl) Tryz.func4
  (OpenSpec.witness (enc := enc) (C := Tryz.checked) (s := Rows.OpenSpec.upto Rows.keysGetSpec) (k := Rows.uptoSmall) rfl false ⟨#[], #[.agg #[.int .i64 0, .string ⟨#[]⟩, .string ⟨#[]⟩, .string ⟨#[]⟩, .string ⟨#[]⟩, .string ⟨#[]⟩, .string ⟨#[]⟩, .string ⟨#[]⟩, .string ⟨#[]⟩, .slice none 0 0], .slice none 0 0], []⟩ 8 (by kernel_rfl) (by kernel_rfl) (by kernel_rfl)
   (x := ([.agg [.agg [.lit (.int .i64 0), .agg [.lit (.string []), .lit (.string [])], .lit (.string []), .agg [.lit (.string []), .lit (.string [])], .agg [.lit (.string []), .lit (.string [])], .lit (.string [])], .nil], .nil], [], [])) (by kernel_rfl) rfl (by kernel_rfl)) ?_
 intro W base args c gs before a d _ hk _
 exact zh H enc W base args c gs before a d hk
theorem BJ {a b : Bool} (ha : a = true) (c : b = true) : (a && b) = true := by rw [ha, c]; rfl
set_option maxHeartbeats 40000000 in
theorem Al : joinedFacts Tryz.checked.prog 4 Tryz.f4 (Rows.OpenSpec.upto Rows.keysGetSpec).bare Rows.keysGetUptoRow = true := by
 unfold joinedFacts
 repeat' with_reducible refine BJ ?_ ?_
 all_goals as_aux_lemma => kernel_rfl
theorem proved : Rows.KeysGetUptoSaid :=
 OpenClaim.holds_of_cond 4 Tryz.f4 rfl rfl rfl rfl rfl rfl rfl ⟨rfl, rfl, rfl, rfl, rfl⟩ rfl rfl rfl rfl rfl (by kernel_rfl) Tryz.func4 Al
  (df (by kernel_rfl)) (by unfold Func.isWrapper; first | (rw [aB (by decide +kernel)]; kernel_rfl) | (rw [aA (by decide +kernel)]; exact ⟨rfl, rfl⟩))
  (fun os started H enc _ F => Bc os started H enc F)
end Go.Proofs.YtcafmokjkjcomaaGreat
