/- a part of a proof of WeighRanks -/
import Derived.Test.YtbnbdigcbldfhaaGreatRtWi
import Derived.Test.YtbnbdigcbldfhaaGreatW4Mi
import Derived.Test.YtbnbdigcbldfhaaGreatRows
import Derived.WalkKit
import Derived.ProofKit
import Derived.OpenShut
import Derived.JoinedCond
import Derived.Deep.Slices
import Derived.Carry
import Derived.ChangeArms
import Derived.ChangeSame
import Derived.Test.YtbnbdigcbldfhaaGreatW4W2i
set_option linter.all false
namespace Go.Proofs.YtbnbdigcbldfhaaGreat
open Go.IntKind renaming wrap → wi0
open Go.Proofs.Tryz renaming prog → pg0
open Go.RowKit
theorem sm {c x : Bool} : (if c = true then some x else some false : Option Bool) = some (c && x) := by cases c <;> rfl
theorem Dp {c x : Bool} : (if c = true then some true else some x : Option Bool) = some (c || x) := by cases c <;> rfl
theorem ui {α : Type} (x : Option α) : (x.bind fun y => some y) = x := by cases x <;> rfl
theorem iY {x : Int} (a : -9223372036854775808 ≤ x) (h1 : x ≤ 9223372036854775807) : wi0 .i64 x = x := IntWalk.i64_in _ (by omega)
theorem pv {α : Type} (A : List α) (x : α) (B : List α) (i : Int) (h : i = (A.length : Int)) : kd (A ++ x :: B) i = some x := by
 subst h; rw [xx]; simp
theorem tV : jg = 18446744073709551615 + 1 := by rw [oW]
def wc {α : Type} (f1 : α → Option Bool) (z : α) : Nat → List α → Int → Int → Option (List α)
 | 0, _, _, _ => none
 | n + 1, l, i, j => if decide (j < (l.length : Int)) then
   ((kd l j).bind fun x => (f1 x).bind fun r => if (!r) then (kd l i).bind fun _ => some (l.set (Int.toNat i) x, wi0 .i64 (i + 1)) else some (l, i) : Option (List α × Int)).bind fun (b, a) => wc f1 z n b a (wi0 .i64 (j + 1))
  else (nS (decide (0 ≤ i) && decide (i ≤ (l.length : Int)))).bind fun _ => (nS (decide (0 ≤ i) && decide (i ≤ ((lC l (Int.toNat i) z).length : Int)))).bind fun _ => some ((lC l (Int.toNat i) z).take (Int.toNat i))
theorem uD {a b : Int} (c : 0 ≤ a) (h1 : a ≤ b) : nS (decide (0 ≤ a) && decide (a ≤ b)) = some () := by simp [nS, c, h1]
theorem yR {α : Type} (f1 : α → Option Bool) (p : α → Bool) (z : α) : ∀ (rest out mid : List α) (n : Nat), rest.length < n → (out ++ mid ++ rest).length < 4611686018427387904 → mid ≠ [] → (∀ x ∈ rest, f1 x = some (p x)) →
  wc f1 z n (out ++ mid ++ rest) (out.length : Int) ((out.length + mid.length : Nat) : Int) = some (out ++ rest.filter fun x => !p x)
 | [], out, mid, 0, h, _, _, _ => by simp at h
 | [], out, mid, n + 1, _, b, hm, _ => by
  rw [wc, ai (by simp)]
  have h1 : out.length ≤ (out ++ mid ++ []).length := by simp
  rw [uD (by omega) (by omega)]
  simp only [aa]
  rw [uD (by omega) (by rw [oL _ _ _ (by simpa using h1)]; omega)]
  simp only [aa, dg]
  rw [vQ _ _ _ h1]
  simp
 | x :: rest, out, mid, 0, h, _, _, _ => by simp at h
 | x :: rest, out, mid, n + 1, h, b, hm, c => by
  have hlen : (out ++ mid ++ x :: rest).length = out.length + mid.length + rest.length + 1 := by simp; omega
  rw [hlen] at b
  rw [wc, ak (by rw [hlen]; simp; omega)]
  rw [pv (out ++ mid) x rest _ (by simp)]
  simp only [aa, c x (by simp)]
  rw [iY (x := ((out.length + mid.length : Nat) : Int) + 1) (by omega) (by omega)]
  have ih := yR f1 p z rest
  cases hp : p x with
  | true =>
   simp only [cn, aq, bj, aa]
   have := ih out (mid ++ [x]) n (by simp at h; omega) (by simp; omega) (by simp) (fun y d => c y (by simp [d]))
   simp only [ar, bT, bn, an, az, bx] at this ⊢
   rw [show ((out.length + mid.length : Nat) : Int) + 1 = ((out.length + (mid.length + (0 + 1)) : Nat) : Int) by omega, this]
   simp [hp]
  | false =>
   obtain ⟨m, a, rfl⟩ : ∃ m a, mid = m :: a := by cases mid with
    | nil => exact absurd rfl hm
    | cons m a => exact ⟨m, a, rfl⟩
   simp only [cU, aY]
   rw [ar out (m :: a) (x :: rest), bT]
   rw [pv out m (a ++ x :: rest) _ rfl]
   simp only [aa]
   rw [iY (x := (out.length : Int) + 1) (by omega) (by simp at b; omega)]
   have := ih (out ++ [x]) (a ++ [x]) n (by simp at h; omega) (by simp at b ⊢; omega) (by simp) (fun y d => c y (by simp [d]))
   simp only [ar, bT, bn, an, az, bx] at this
   have g : (out ++ m :: (a ++ x :: rest)).set (Int.toNat (out.length : Int)) x = out ++ x :: (a ++ x :: rest) := by
    rw [dg, List.set_append_right _ _ (aJ _)]; simp
   rw [g]
   simp only [az] at b ⊢
   rw [show (out.length : Int) + 1 = ((out.length + (0 + 1) : Nat) : Int) by omega, show ((out.length + (a.length + 1) : Nat) : Int) + 1 = ((out.length + (0 + 1) + (a.length + (0 + 1)) : Nat) : Int) by omega, this]
   simp [hp]
def wo {α : Type} (f1 : α → Option Bool) : List α → Nat → Option Int
 | [], _ => some (-1)
 | x :: xs, i => (f1 x).bind fun r => if r then some (i : Int) else wo f1 xs (i + 1)
theorem yU {α : Type} (f1 : α → Option Bool) (p : α → Bool) : ∀ (l : List α) (i : Nat), (∀ x ∈ l, f1 x = some (p x)) →
  (wo f1 l i = some (-1) ∧ ∀ x ∈ l, p x = false) ∨ ∃ A x B, l = A ++ x :: B ∧ (∀ y ∈ A, p y = false) ∧ p x = true ∧ wo f1 l i = some ((i + A.length : Nat) : Int)
 | [], i, _ => .inl ⟨rfl, by simp⟩
 | x :: l, i, h => by
  rw [wo, h x (by simp)]
  simp only [aa]
  cases hp : p x with
  | true => exact .inr ⟨[], x, l, rfl, by simp, hp, by simp⟩
  | false =>
   simp only [aq, bj]
   rcases yU f1 p l (i + 1) (fun y a => h y (by simp [a])) with ⟨h1, b⟩ | ⟨A, y, B, rfl, h1, b, d⟩
   ·exact .inl ⟨h1, by intro y a; rcases ah.1 a with rfl | a; exact hp; exact b y a⟩
   ·refine .inr ⟨x :: A, y, B, rfl, ?_, b, ?_⟩
    ·intro z c; rcases ah.1 c with rfl | c
     ·exact hp
     ·exact h1 z c
    ·rw [d]; simp; omega
def Bt {α : Type} (f1 : α → Option Bool) (z : α) (l : List α) : Option (List α) :=
 (wo f1 l 0).bind fun a => if (a == (-1)) then some l else wc f1 z jg l a (wi0 .i64 (a + 1))
theorem CU {α : Type} (f1 : α → Option Bool) (p : α → Bool) (z : α) (l : List α) (c : l.length < 4611686018427387904) (h : ∀ x ∈ l, f1 x = some (p x)) : Bt f1 z l = some (l.filter fun x => !p x) := by
 unfold Bt
 rcases yU f1 p l 0 h with ⟨h1, b⟩ | ⟨A, x, B, rfl, h1, b, d⟩
 ·rw [h1]
  simp only [aa, bR, aY]
  rw [dl.2 (fun y a => by simp [b y a])]
 ·rw [d]
  simp only [aa, de]
  rw [ai (by simp), iY (by omega) (by simp at c; omega)]
  have := yR f1 p z B A [x] jg (by rw [oW]; simp at c; omega) (by simpa using c) (by simp) (fun y a => h y (by simp [a]))
  simp only [ar, bT, bn, az, bx] at this
  rw [show (A.length : Int) + 1 = ((A.length + (0 + 1) : Nat) : Int) by omega, this]
  have g : A.filter (fun x => !p x) = A := dl.2 (fun y a => by simp [h1 y a])
  rw [eV, g]
  simp [b]
def lK {α : Type} (eq : α → α → Bool) : α → List α → List α
 | _, [] => []
 | p, y :: ys => if eq y p then lK eq y ys else y :: lK eq y ys
def dd {α : Type} (eq : α → α → Bool) : List α → List α
 | [] => []
 | x :: xs => x :: lK eq x xs
def tg {α : Type} (eq : α → α → Bool) (i : Int) : Nat → List α → Int → Int → Option (List α × Int)
 | 0, _, _, _ => none
 | n + 1, l, k, j => if decide (j < ((l.length - Int.toNat i : Nat) : Int)) then
   ((kd (l.drop (Int.toNat i)) j).bind fun x => (kd (l.drop (Int.toNat i)) (wi0 .i64 (j - 1))).bind fun y => if !(eq x y) then (kd (l.drop (Int.toNat i)) j).bind fun z => (kd l k).bind fun _ => some (l.set (Int.toNat k) z, wi0 .i64 (k + 1)) else some (l, k) : Option (List α × Int)).bind fun (a, k') => tg eq i n a k' (wi0 .i64 (j + 1))
  else some (l, k)
def tT {α : Type} (eq : α → α → Bool) (z : α) (l : List α) : Nat → Int → Option (List α)
 | 0, _ => none
 | n + 1, i => if decide (i < (l.length : Int)) then (kd l i).bind fun x => (kd l (wi0 .i64 (i - 1))).bind fun y => if eq x y then
    (nS (decide (0 ≤ i) && decide (i ≤ (l.length : Int)))).bind fun _ => (tg eq i jg l i 1).bind fun (a, k) => (nS (decide (0 ≤ k) && decide (k ≤ (a.length : Int)))).bind fun _ => (nS (decide (0 ≤ k) && decide (k ≤ ((lC a (Int.toNat k) z).length : Int)))).bind fun _ => some ((lC a (Int.toNat k) z).take (Int.toNat k))
   else tT eq z l n (wi0 .i64 (i + 1))
  else some l
def xI {α : Type} (eq : α → α → Bool) (z : α) (l : List α) : Option (List α) := if decide ((l.length : Int) < 2) then some l else tT eq z l jg 1
theorem yO {α : Type} (l : List α) (i : Nat) (j : Int) (a : 0 ≤ j) : kd (l.drop i) j = kd l ((i : Int) + j) := by
 obtain ⟨m, rfl⟩ : ∃ m : Nat, j = m := ⟨j.toNat, by omega⟩
 rw [show (i : Int) + (m : Int) = ((i + m : Nat) : Int) by omega, xx, xx, bY]
theorem wH {α : Type} (eq : α → α → Bool) (i : Nat) : ∀ (rest out mid : List α) (p : α) (n : Nat), rest.length < n → (out ++ (mid ++ [p]) ++ rest).length < 4611686018427387904 → 1 ≤ i → i ≤ out.length →
  ∃ b, tg eq (i : Int) n (out ++ (mid ++ [p]) ++ rest) (out.length : Int) ((out.length + mid.length + 1 - i : Nat) : Int) = some (b, ((out ++ lK eq p rest).length : Int)) ∧ b.take (out ++ lK eq p rest).length = out ++ lK eq p rest ∧ (out ++ lK eq p rest).length ≤ b.length
 | [], out, mid, p, 0, h, _, _, _ => by simp at h
 | [], out, mid, p, n + 1, h, k, h1, j => by
  rw [tg, ai (by simp; omega)]
  exact ⟨out ++ (mid ++ [p]) ++ [], by simp [lK], by simp [lK], by simp [lK]⟩
 | x :: rest, out, mid, p, 0, h, _, _, _ => by simp at h
 | x :: rest, out, mid, p, n + 1, h, k, h1, j => by
  have hlen : (out ++ (mid ++ [p]) ++ x :: rest).length = out.length + mid.length + rest.length + 2 := by simp; omega
  rw [hlen] at k
  rw [tg, ak (by rw [hlen]; simp; omega)]
  rw [dg, yO _ _ _ (by omega), pv (out ++ (mid ++ [p])) x rest _ (by simp; omega)]
  simp only [aa]
  rw [iY (x := ((out.length + mid.length + 1 - i : Nat) : Int) - 1) (by omega) (by omega), yO _ _ _ (by omega)]
  rw [show out ++ (mid ++ [p]) ++ x :: rest = (out ++ mid) ++ p :: (x :: rest) by simp]
  rw [pv (out ++ mid) p (x :: rest) _ (by simp; omega)]
  simp only [aa]
  rw [iY (x := ((out.length + mid.length + 1 - i : Nat) : Int) + 1) (by omega) (by omega)]
  cases hp : eq x p with
  | true =>
   simp only [cn, aq, bj, aa]
   obtain ⟨b, c, d, g⟩ := wH eq i rest out (mid ++ [p]) x n (by simp at h; omega) (by simp; omega) h1 j
   refine ⟨b, ?_, by rw [lK, hp]; exact d, by rw [lK, hp]; exact g⟩
   rw [lK, hp, ak rfl, ← c]
   congr 1
   ·simp
   ·simp; omega
  | false =>
   simp only [cU, aY]
   obtain ⟨m, a, hm⟩ : ∃ m a, mid ++ [p] = m :: a := by cases mid with
    | nil => exact ⟨p, [], rfl⟩
    | cons m a => exact ⟨m, a ++ [p], rfl⟩
   have o : a.length = mid.length := by have := ap List.length hm; simp at this; omega
   rw [show (out ++ mid) ++ p :: (x :: rest) = out ++ m :: (a ++ x :: rest) by rw [← bT, ← hm]; simp]
   rw [pv out m (a ++ x :: rest) _ rfl]
   simp only [aa]
   rw [iY (x := (out.length : Int) + 1) (by omega) (by omega)]
   have q : (out ++ m :: (a ++ x :: rest)).set (Int.toNat (out.length : Int)) x = (out ++ [x]) ++ (a ++ [x]) ++ rest := by
    rw [dg, List.set_append_right _ _ (aJ _)]; simp
   rw [q]
   obtain ⟨b, c, d, g⟩ := wH eq i rest (out ++ [x]) a x n (by simp at h; omega) (by simp; omega) h1 (by simp; omega)
   refine ⟨b, ?_, ?_, ?_⟩
   ·rw [lK, hp, ai (by decide)]
    have l : ((out ++ x :: lK eq x rest).length : Int) = ((out ++ [x] ++ lK eq x rest).length : Int) := by simp
    rw [l, ← c]
    congr 1
    ·simp
    ·simp; omega
   ·rw [lK, hp, ai (by decide)]; simpa using d
   ·rw [lK, hp, ai (by decide)]; simpa using g
theorem zp {α : Type} (eq : α → α → Bool) (z : α) : ∀ (rest pre : List α) (p : α) (n : Nat), rest.length < n → (pre ++ p :: rest).length < 4611686018427387904 →
  tT eq z (pre ++ p :: rest) n ((pre.length + 1 : Nat) : Int) = some (pre ++ p :: lK eq p rest)
 | [], pre, p, 0, h, _ => by simp at h
 | [], pre, p, n + 1, h, g => by rw [tT, ai (by simp)]; simp [lK]
 | x :: rest, pre, p, 0, h, _ => by simp at h
 | x :: rest, pre, p, n + 1, h, g => by
  have hlen : (pre ++ p :: x :: rest).length = pre.length + rest.length + 2 := by simp; omega
  rw [hlen] at g
  rw [tT, ak (by rw [hlen]; simp; omega)]
  rw [show pre ++ p :: x :: rest = (pre ++ [p]) ++ x :: rest by simp, pv (pre ++ [p]) x rest _ (by simp)]
  simp only [aa]
  rw [iY (x := ((pre.length + 1 : Nat) : Int) - 1) (by omega) (by omega)]
  rw [show (pre ++ [p]) ++ x :: rest = pre ++ p :: (x :: rest) by simp, pv pre p (x :: rest) _ (by omega)]
  simp only [aa]
  cases hp : eq x p with
  | true =>
   simp only [aY]
   rw [uD (by omega) (by rw [hlen]; omega)]
   simp only [aa]
   obtain ⟨i, a, d, c⟩ := wH eq (pre.length + 1) rest (pre ++ [p]) [] x jg (by rw [oW]; omega) (by simp; omega) (by omega) (by simp)
   simp only [ar, bT, bn, an, az, bx] at a d c
   rw [show (pre.length + (0 + 1) + 0 + 1 - (pre.length + 1) : Nat) = 1 by omega] at a
   rw [show ((pre.length + 1 : Nat) : Int) = ((pre.length + (0 + 1) : Nat) : Int) by omega] at *
   have b : tg eq ((pre.length + (0 + 1) : Nat) : Int) jg (pre ++ p :: x :: rest) ((pre.length + (0 + 1) : Nat) : Int) 1 = _ := a
   rw [b]
   simp only [aa]
   rw [uD (by omega) (by omega)]
   simp only [aa, dg]
   rw [uD (by omega) (by rw [oL _ _ _ c]; omega)]
   simp only [aa]
   rw [vQ _ _ _ c, d, lK, hp]
   simp
  | false =>
   simp only [aq, bj]
   rw [iY (x := ((pre.length + 1 : Nat) : Int) + 1) (by omega) (by omega)]
   have := zp eq z rest (pre ++ [p]) x n (by simp at h; omega) (by simp; omega)
   simp only [ar, bT, bn, an, az, bx] at this
   rw [show ((pre.length + 1 : Nat) : Int) + 1 = ((pre.length + (0 + 1) + 1 : Nat) : Int) by omega, this, lK, hp]
   simp
theorem zG {α : Type} (eq : α → α → Bool) (z : α) (l : List α) (a : l.length < 4611686018427387904) : xI eq z l = some (dd eq l) := by
 unfold xI
 cases l with
 | nil => rfl
 | cons x xs =>
  cases xs with
  | nil => simp [dd, lK]
  | cons y ys =>
   rw [ai (by simp; omega)]
   have := zp eq z (y :: ys) [] x jg (by rw [oW]; simp at a ⊢; omega) (by simpa using a)
   simpa [dd] using this
structure ry {α : Type} (lt : α → α → Prop) (P : α → Prop) : Prop where
 irrefl : ∀ x, P x → ¬ lt x x
 trans : ∀ x y z, P x → P y → P z → lt x y → lt y z → lt x z
 total : ∀ x y, P x → P y → lt x y ∨ x = y ∨ lt y x
def lR {α : Type} (lt : α → α → Prop) (P : α → Prop) (l out : List α) : Prop := out.Pairwise lt ∧ ∀ x, x ∈ out ↔ x ∈ l ∧ P x
theorem lR.unique {α : Type} {lt : α → α → Prop} {P : α → Prop} (H : ry lt P) : ∀ {l a b : List α}, lR lt P l a → lR lt P l b → a = b := by
 have key : ∀ a b : List α, (∀ x ∈ a, P x) → a.Pairwise lt → b.Pairwise lt → (∀ x, x ∈ a ↔ x ∈ b) → a = b := by
  intro a
  induction a with
  | nil => intro b _ _ _ hm; cases b with
   | nil => rfl
   | cons y ys => exact absurd ((hm y).2 (by simp)) (by simp)
  | cons x xs ih =>
   intro b n j k hm
   cases b with
   | nil => exact absurd ((hm x).1 (by simp)) (by simp)
   | cons y ys =>
    have o : P y := n y ((hm y).2 (by simp))
    have c : P x := n x (by simp)
    have d := bN.1 j
    have g := bN.1 k
    have p : x = y := by
     rcases ah.1 ((hm x).1 (by simp)) with h | h
     ·exact h
     ·rcases ah.1 ((hm y).2 (by simp)) with m | m
      ·exact m.symm
      ·exact absurd (H.trans x y x c o c (d.1 y m) (g.1 x h)) (H.irrefl x c)
    subst p
    congr 1
    refine ih ys (fun z i => n z (by simp [i])) d.2 g.2 (fun z => ?_)
    constructor
    ·intro i
     rcases ah.1 ((hm z).1 (by simp [i])) with h | h
     ·subst h; exact absurd (d.1 z i) (H.irrefl z c)
     ·exact h
    ·intro i
     rcases ah.1 ((hm z).2 (by simp [i])) with h | h
     ·subst h; exact absurd (g.1 z i) (H.irrefl z c)
     ·exact h
 intro l a b j k
 exact key a b (fun x q => ((j.2 x).1 q).2) j.1 k.1 (fun x => (j.2 x).trans (k.2 x).symm)
theorem uk {α : Type} {eq : α → α → Bool} (he : ∀ x y, eq x y = true ↔ x = y) : ∀ (l : List α) (p x : α), x ∈ p :: lK eq p l ↔ x ∈ p :: l
 | [], p, x => by simp [lK]
 | y :: l, p, x => by
  rw [lK]
  split
  ·rename_i h
   have := (he y p).1 h
   subst this
   rw [uk he l y x]; simp
  ·have := uk he l y x
   simp only [ah] at this ⊢
   rw [this]
theorem EQ {α : Type} {eq : α → α → Bool} (he : ∀ x y, eq x y = true ↔ x = y) (l : List α) (x : α) : x ∈ dd eq l ↔ x ∈ l := by
 cases l with
 | nil => simp [dd]
 | cons y l => exact uk he l y x
theorem sX {α : Type} {eq : α → α → Bool} {lt : α → α → Prop} {P : α → Prop} (he : ∀ x y, eq x y = true ↔ x = y) (H : ry lt P) : ∀ (l : List α) (p : α), (∀ x ∈ p :: l, P x) → (p :: l).Pairwise (fun a b => ¬ lt b a) → (p :: lK eq p l).Pairwise lt
 | [], p, _, _ => by simp [lK]
 | y :: l, p, c, n => by
  have h1 := bN.1 n
  rw [lK]
  split
  ·rename_i h
   have := (he y p).1 h
   subst this
   exact sX he H l y (fun x i => c x (cJ _ i)) h1.2
  ·rename_i h
   have ih := sX he H l y (fun x i => c x (cJ _ i)) h1.2
   refine bN.2 ⟨fun z m => ?_, ih⟩
   have g : lt p y := by
    rcases H.total p y (c p (by simp)) (c y (by simp)) with d | d | d
    ·exact d
    ·exact absurd ((he y p).2 d.symm) h
    ·exact absurd d (h1.1 y (by simp))
   rcases ah.1 m with rfl | j
   ·exact g
   ·have k : z ∈ y :: l := (uk he l y z).1 m
    exact H.trans p y z (c p (by simp)) (c y (by simp)) (c z (cJ _ k)) g ((bN.1 ih).1 z j)
theorem BH {α : Type} {eq : α → α → Bool} {lt : α → α → Prop} {P : α → Prop} (he : ∀ x y, eq x y = true ↔ x = y) (H : ry lt P) (l : List α) (c : ∀ x ∈ l, P x) (d : l.Pairwise (fun a b => ¬ lt b a)) : (dd eq l).Pairwise lt := by
 cases l with
 | nil => simp [dd]
 | cons y l => exact sX he H l y c d
theorem rq {α : Type} {le : α → α → Bool} {P : α → Prop} (i : ∀ a b c, P a → P b → P c → le a b = true → le b c = true → le a c = true) (h : ∀ a b, P a → P b → (le a b || le b a) = true) (l : List α) (d : ∀ x ∈ l, P x) :
  (l.mergeSort le).Pairwise (fun a b => le a b = true) := by
 have e : l = (l.attachWith P d).map Subtype.val := by simp
 have hm : ((l.attachWith P d).mergeSort fun a b => le a.1 b.1).map Subtype.val = l.mergeSort le := by
  conv => rhs; rw [e]
  exact eW (fun a _ b _ => rfl)
 rw [← hm, ch]
 exact dY (le := fun (a b : {x // P x}) => le a.1 b.1) (fun a b c h1 g => i a.1 b.1 c.1 a.2 b.2 c.2 h1 g) (fun a b => h a.1 b.1 a.2 b.2) _
theorem vN {α : Type} {eq : α → α → Bool} {lt : α → α → Prop} {P : α → Prop} {cf : α × α → Option Int} {l : List α} (he : ∀ x y, eq x y = true ↔ x = y) (H : ry lt P) (g : ∀ x ∈ l, P x) (A : l.length < 4611686018427387904) (w : ∀ x y, P x → P y → ∃ c, cf (x, y) = some c ∧ (c < 0 ↔ lt x y)) : ∃ s, qx cf l = some s ∧ s.length = l.length ∧ lR lt P l (dd eq s) := by
 have j : ∀ x y, P x → P y → (mn cf x y = true ↔ lt x y) := fun x y i n => by
  obtain ⟨c, h1, m⟩ := w x y i n
  unfold mn
  rw [h1]
  simpa using m
 have d : ∀ x y, P x → P y → (mn cf x y = false ↔ ¬ lt x y) := fun x y i n => by
  rw [← j x y i n]; simp
 have ok : tE cf l := by
  refine ⟨fun x i y n => ?_, fun x i => ?_, fun x i y n z u h1 m => ?_, fun x i y n h1 m => ?_, A⟩
  ·obtain ⟨c, h1, _⟩ := w x y (g x i) (g y n); exact ⟨c, h1⟩
  ·exact (d x x (g x i) (g x i)).2 (H.irrefl x (g x i))
  ·rw [j _ _ (g x i) (g y n)] at h1
   rw [j _ _ (g y n) (g z u)] at m
   rw [j _ _ (g x i) (g z u)]
   exact H.trans x y z (g x i) (g y n) (g z u) h1 m
  ·rw [d _ _ (g x i) (g y n)] at h1
   rw [d _ _ (g y n) (g x i)] at m
   rcases H.total x y (g x i) (g y n) with h | h | h
   ·exact absurd h h1
   ·exact h
   ·exact absurd h m
 refine ⟨_, zI ok, by simp [lx], ?_, ?_⟩
 ·have k : ∀ x, x ∈ lx cf l ↔ x ∈ l := fun x => by simp [lx]
  refine BH he H _ (fun x i => g x ((k x).1 i)) ?_
  have := rq (le := fun x y => !mn cf y x) (P := P) (fun a b c o p q h1 m => ?_) (fun a b o p => ?_) l g
  ·refine (this.imp_of_mem ?_ : _)
   intro a b o p h
   have r : a ∈ l := (k a).1 o
   have t : b ∈ l := (k b).1 p
   simp at h
   exact (d b a (g b t) (g a r)).1 h
  ·simp at h1 m ⊢
   rw [d _ _ p o] at h1
   rw [d _ _ q p] at m
   rw [d _ _ q o]
   intro v
   rcases H.total a b o p with h | h | h
   ·exact m (H.trans c a b q o p v h)
   ·subst h; exact m v
   ·exact h1 h
  ·simp only [cZ, cP]
   rw [d _ _ p o, d _ _ o p]
   by_cases h : lt b a
   ·right; intro m; exact H.irrefl a o (H.trans a b a o p o m h)
   ·exact .inl h
 ·intro x
  rw [EQ he]
  constructor
  ·intro i
   have : x ∈ l := by simpa [lx] using i
   exact ⟨this, g x this⟩
  ·intro i; simpa [lx] using i.1
theorem uK : ∀ a : List UInt8, Op.bytesLess a a = false
 | [] => rfl
 | x :: a => by simp [Op.bytesLess, uK a]
theorem zl (x y : UInt8) : x < y ∨ x = y ∨ y < x := by
 rcases Nat.lt_trichotomy x.toNat y.toNat with h | h | h
 ·exact .inl h
 ·exact .inr (.inl (UInt8.toNat_inj.1 h))
 ·exact .inr (.inr h)
theorem wg : ∀ a b c : List UInt8, Op.bytesLess a b = true → Op.bytesLess b c = true → Op.bytesLess a c = true
 | [], [], c, h1, _ => by simp [Op.bytesLess] at h1
 | _ :: _, [], c, h1, _ => by simp [Op.bytesLess] at h1
 | a, _ :: _, [], _, d => by simp [Op.bytesLess] at d
 | [], b :: g, c :: cs, _, _ => rfl
 | a :: ax, b :: g, c :: cs, h1, d => by
  simp only [Op.bytesLess, cZ, cO, aC, fX] at h1 d ⊢
  rcases h1 with h1 | ⟨rfl, h1⟩
  ·rcases d with d | ⟨rfl, d⟩
   ·exact .inl (UInt8.lt_trans h1 d)
   ·exact .inl h1
  ·rcases d with d | ⟨rfl, d⟩
   ·exact .inl d
   ·exact .inr ⟨rfl, wg ax g cs h1 d⟩
theorem wu : ∀ a b : List UInt8, Op.bytesLess a b = true ∨ a = b ∨ Op.bytesLess b a = true
 | [], [] => .inr (.inl rfl)
 | [], _ :: _ => .inl rfl
 | _ :: _, [] => .inr (.inr rfl)
 | a :: ax, b :: c => by
  simp only [Op.bytesLess, cZ, cO, aC, fX, cq]
  rcases zl a b with h | h | h
  ·exact .inl (.inl h)
  ·subst h
   rcases wu ax c with h | h | h
   ·exact .inl (.inr ⟨rfl, h⟩)
   ·exact .inr (.inl ⟨rfl, h⟩)
   ·exact .inr (.inr (.inr ⟨rfl, h⟩))
  ·exact .inr (.inr (.inl h))
theorem xr : ∀ a b : List UInt8, (Lib.compareBytes a b < 0 ↔ Op.bytesLess a b = true)
 | [], [] => by simp [Lib.compareBytes, Op.bytesLess]
 | [], _ :: _ => by simp [Lib.compareBytes, Op.bytesLess]
 | _ :: _, [] => by simp [Lib.compareBytes, Op.bytesLess]
 | a :: ax, b :: g => by
  simp only [Lib.compareBytes, Op.bytesLess, cZ, cO, aC, fX]
  by_cases h : a < b
  ·simp [h]
  ·by_cases d : b < a
   ·have : a ≠ b := by rintro rfl; exact h d
    simp [h, d, this]
   ·have : a = b := by rcases zl a b with c | c | c; exact absurd c h; exact c; exact absurd c d
    subst this
    simp [h, xr ax g]
theorem zA : ∀ a b : List UInt8, (Lib.compareBytes a b = 0 ↔ a = b)
 | [], [] => by simp [Lib.compareBytes]
 | [], _ :: _ => by simp [Lib.compareBytes]
 | _ :: _, [] => by simp [Lib.compareBytes]
 | a :: ax, b :: g => by
  simp only [Lib.compareBytes, cq]
  by_cases h : a < b
  ·simp only [h, aY]
   constructor
   ·intro h; cases h
   ·rintro ⟨rfl, _⟩; exact absurd h (by simp)
  ·by_cases d : b < a
   ·simp only [h, d, aY, bj]
    constructor
    ·intro h; cases h
    ·rintro ⟨rfl, _⟩; exact absurd d (by simp)
   ·have : a = b := by rcases zl a b with c | c | c; exact absurd c h; exact c; exact absurd c d
    subst this
    simp [h, zA ax g]
theorem rU (a b : ByteArray) : kw a b = Op.bytesLess a.data.toList b.data.toList := by unfold kw; rw [dj, dj]
theorem tl {a b : ByteArray} (h : a.data.toList = b.data.toList) : a = b := fQ (Array.toList_inj.1 h)
theorem mR (a : ByteArray) : kw a a = false := by rw [rU, uK]
theorem qh {a b c : ByteArray} (h1 : kw a b = true) (d : kw b c = true) : kw a c = true := by rw [rU] at *; exact wg _ _ _ h1 d
theorem nH (a b : ByteArray) : kw a b = true ∨ a = b ∨ kw b a = true := by
 rw [rU, rU]
 rcases wu a.data.toList b.data.toList with h | h | h
 ·exact .inl h
 ·exact .inr (.inl (tl h))
 ·exact .inr (.inr h)
theorem rc {a b : ByteArray} (h : kw a b = true) : kw b a = false := by
 cases c : kw b a with
 | false => rfl
 | true => have := qh h c; rw [mR] at this; cases this
theorem rO (P : ByteArray → Prop) : ry (fun a b => kw a b = true) P :=
 ⟨fun x _ h => (by rw [mR] at h; cases h), fun x y z _ _ _ => qh, fun x y _ _ => nH x y⟩
def sd (b : UInt8) : Bool := decide (97 ≤ b.toNat) && decide (b.toNat ≤ 122)
def tz (b : UInt8) : Bool := sd b || (decide (48 ≤ b.toNat) && decide (b.toNat ≤ 57)) || decide (b.toNat = 45)
def ja (s : ByteArray) : Bool := decide (1 ≤ s.size) && decide (s.size ≤ 16) && (match s.data.toList with | [] => false | b :: _ => sd b) && s.data.toList.all tz
theorem jP {s : ByteArray} (h : ja s = true) : 1 ≤ s.size ∧ s.size ≤ 16 := by
 simp only [ja, aC, cO] at h
 exact h.1.1
theorem A4 : ∀ n : Nat, n < 256 → decide (pB (⟨#[97, 98, 99, 100, 101, 102, 103, 104, 105, 106, 107, 108, 109, 110, 111, 112, 113, 114, 115, 116, 117, 118, 119, 120, 121, 122]⟩ : ByteArray) (n : Int) ≥ 0) = sd (UInt8.ofNat n) := by decide +kernel
theorem C3 : ∀ n : Nat, n < 256 → decide (pB (⟨#[97, 98, 99, 100, 101, 102, 103, 104, 105, 106, 107, 108, 109, 110, 111, 112, 113, 114, 115, 116, 117, 118, 119, 120, 121, 122, 48, 49, 50, 51, 52, 53, 54, 55, 56, 57, 45]⟩ : ByteArray) (n : Int) < 0) = !tz (UInt8.ofNat n) := by decide +kernel
theorem pt (s : ByteArray) : s.size = s.data.toList.length := by rw [cd]; rfl
theorem vM {s : ByteArray} (h : s.size ≤ 16) : tD s = some (mM s) := by
 unfold tD; rw [ak (by unfold maxLen; omega)]
theorem zx : ∀ l : List UInt8, od (l.map fun b => (b.toNat : Int)) = some (l.all tz)
 | [] => rfl
 | b :: l => by
  rw [aM, od]
  simp only [lW, jV, aa]
  have a := C3 b.toNat (fp b)
  rw [a]
  simp only [fN, List.all_cons]
  cases tz b with
  | true => simp [zx l]
  | false => simp
theorem ye {s : ByteArray} {b : UInt8} {l : List UInt8} (h : s.data.toList = b :: l) : rE s 0 = some b := by
 unfold rE
 rw [ak (Int.le_refl 0)]
 have a : s.data[0]? = some b := by rw [← bd, h]; rfl
 show s[0]? = some b
 rw [← a]
 rfl
theorem pf (s : ByteArray) : lz s = some (ja s) := by
 unfold lz
 simp only [sm, aa, ui]
 by_cases h1 : 1 ≤ s.size
 ·by_cases a : s.size ≤ 16
  ·rw [ak (by simp; omega)]
   obtain ⟨b, l, c⟩ : ∃ b l, s.data.toList = b :: l := by
    cases h : s.data.toList with
    | nil => rw [pt, h] at h1; simp at h1
    | cons b l => exact ⟨b, l, rfl⟩
   rw [ye c]
   simp only [aa, lW, jV]
   rw [A4 b.toNat (fp b)]
   simp only [fN, ja, h1, a, c, decide_true, eB]
   cases sd b with
   | false => simp
   | true =>
    simp only [aY, sV, vM a, aa, mM]
    rw [zx, c]
    simp
  ·rw [ai (by simp; omega)]
   simp [ja, a]
 ·rw [ai (by simp; omega)]
  simp [ja, h1]
theorem DG {s : ByteArray} {A B : List UInt8} {b : UInt8} (h : s.data.toList = A ++ b :: B) (i : Int) (c : i = (A.length : Int)) : rE s i = some b := by
 subst c
 unfold rE
 rw [ak (by omega), dg]
 have a : s.data[A.length]? = some b := by rw [← bd, h]; simp
 show s[A.length]? = some b
 rw [← a]
 rfl
theorem uN (s : ByteArray) (t : s.size ≤ 16) : ∀ (B A : List UInt8) (n : Nat), s.data.toList = A ++ B → B.length < n → kZ s n (A.length : Int) = some (B.all tz)
  | [], A, 0, _, h => by simp at h
  | [], A, n + 1, h, _ => by
    have : s.size = A.length := by rw [pt, h]; simp
    rw [kZ, ai (by rw [this]; simp)]
    rfl
  | b :: B, A, 0, _, h => by simp at h
  | b :: B, A, n + 1, h, r => by
    have k : s.size = A.length + B.length + 1 := by rw [pt, h]; simp; omega
    rw [kZ, ak (by rw [k]; simp; omega)]
    rw [DG h _ rfl]
    simp only [aa]
    rw [iY (x := (A.length : Int) + 1) (by omega) (by omega)]
    have ih := uN s t B (A ++ [b]) n (by rw [h]; simp) (by simp at r; omega)
    rw [show ((A ++ [b]).length : Int) = (A.length : Int) + 1 by simp] at ih
    simp only [List.all_cons]
    have j : ∀ n : Nat, n < 256 → tz (UInt8.ofNat n) = !((decide (n < 97) || decide (n > 122)) && (decide (n < 48) || decide (n > 57)) && decide (n ≠ 45)) := by decide +kernel
    have l := j b.toNat (fp b)
    simp only [fN] at l
    rw [l]
    by_cases h1 : b.toNat < 97 <;> by_cases m : b.toNat > 122 <;> by_cases o : b.toNat < 48 <;> by_cases p : b.toNat > 57 <;> by_cases q : b.toNat = 45 <;>
      first
      | omega
      | (have a : ((b.toNat : Int) < 97) = (b.toNat < 97) := by rw [fq]; omega
         have c : ((b.toNat : Int) > 122) = (b.toNat > 122) := by rw [fq]; omega
         have d : ((b.toNat : Int) < 48) = (b.toNat < 48) := by rw [fq]; omega
         have g : ((b.toNat : Int) > 57) = (b.toNat > 57) := by rw [fq]; omega
         have i : ((b.toNat : Int) != 45) = !decide (b.toNat = 45) := by rw [bz]; simp; omega
         simp [h1, m, o, p, q, a, c, d, g, i, ih])
theorem oA (a : ByteArray) : gX a a = true := iy.2 rfl
theorem D5 : zS.size = 0 := rfl
theorem Dt {s : ByteArray} : s = zS ↔ s.size = 0 := by
 constructor
 ·rintro rfl; rfl
 ·intro h; exact tl (by rw [pt] at h; rw [bu.1 h]; rfl)
theorem qc (s : ByteArray) : lO s = some (ja s) := by
 unfold lO
 simp only [Dp, aa, ui]
 by_cases g : s.size = 0
 ·have : s = zS := Dt.2 g
  subst this
  rw [oA]
  rfl
 ·have n : gX s zS = false := by
   cases h : gX s zS with
   | false => rfl
   | true => exact absurd (Dt.1 (iy.1 h)) g
  rw [n]
  simp only [Bool.false_or]
  by_cases i : s.size ≤ 16
  ·rw [ai (by simp; omega)]
   obtain ⟨b, l, k⟩ : ∃ b l, s.data.toList = b :: l := by
    cases h : s.data.toList with
    | nil => rw [pt, h] at g; simp at g
    | cons b l => exact ⟨b, l, rfl⟩
   rw [ye k]
   simp only [aa, Dp]
   have m := uN s i s.data.toList [] jg rfl (by rw [oW, ← pt]; omega)
   simp only [bx] at m
   rw [show (0 : Int) = ((0 : Nat) : Int) from rfl] at *
   rw [m]
   have j : ((b.toNat : Int) < 97) = (b.toNat < 97) := by rw [fq]; omega
   have d : ((b.toNat : Int) > 122) = (b.toNat > 122) := by rw [fq]; omega
   have h1 : 1 ≤ s.size := by omega
   simp only [ja, h1, i, k, sd, decide_true, eB, j, d]
   by_cases a : b.toNat < 97
   ·simp [a, show ¬ 97 ≤ b.toNat by omega]
   ·by_cases c : b.toNat > 122
    ·simp [a, c, show ¬ b.toNat ≤ 122 by omega]
    ·simp [a, c, show 97 ≤ b.toNat by omega, show b.toNat ≤ 122 by omega]
  ·rw [ak (by simp; omega)]
   simp [ja, i]
def ir (r : gr) : Bool := ja r.gG && ja r.hX
theorem sJ (r : gr) : lA r = some (ir r) := by
 unfold lA ir
 simp only [pf, aa]
 cases ja r.gG <;> simp
theorem rZ (r : gr) : mH r = some (ir r) := by
 unfold mH ir
 simp only [qc, aa]
 cases ja r.gG <;> simp
def nT (a b : gr) : Bool := kw a.gG b.gG || (gX a.gG b.gG && kw a.hX b.hX)
theorem pc (a b : gr) : nl a b = some (nT a b) := by
 unfold nl nT
 cases kw a.gG b.gG <;> cases gX a.gG b.gG <;> simp
theorem AJ {a b : ByteArray} (h : a ≠ b) : gX a b = false := by
 cases c : gX a b with
 | false => rfl
 | true => exact absurd (iy.1 c) h
theorem rV {a b : gr} : nT a b = true ↔ kw a.gG b.gG = true ∨ (a.gG = b.gG ∧ kw a.hX b.hX = true) := by
 simp [nT, iy]
theorem ub (P : gr → Prop) : ry (fun a b => nT a b = true) P := by
 refine ⟨fun x _ h => ?_, fun x y z _ _ _ h1 c => ?_, fun x y _ _ => ?_⟩
 ·rw [rV] at h
  simp [mR] at h
 ·rw [rV] at *
  rcases h1 with h1 | ⟨g, h1⟩
  ·rcases c with c | ⟨d, c⟩
   ·exact .inl (qh h1 c)
   ·exact .inl (by rw [← d]; exact h1)
  ·rcases c with c | ⟨d, c⟩
   ·exact .inl (by rw [g]; exact c)
   ·exact .inr ⟨g.trans d, qh h1 c⟩
 ·simp only [rV]
  rcases nH x.gG y.gG with h | h | h
  ·exact .inl (.inl h)
  ·rcases nH x.hX y.hX with c | c | c
   ·exact .inl (.inr ⟨h, c⟩)
   ·refine .inr (.inl ?_)
    cases x; cases y; simp at h c; simp [h, c]
   ·exact .inr (.inr (.inr ⟨h.symm, c⟩))
  ·exact .inr (.inr (.inl h))
theorem rI (a b : gr) : ∃ c, oh a b = some c ∧ (c < 0 ↔ nT a b = true) := by
 unfold oh
 simp only [nV, lh, aa, sa, pg]
 have h1 : ∀ a b : ByteArray, (nF a b < 0 ↔ kw a b = true) := fun a b => by rw [rU]; exact xr _ _
 have g : ∀ a b : ByteArray, (nF a b = 0 ↔ a = b) := fun a b => by
  unfold nF; rw [zA]; exact ⟨tl, fun h => by rw [h]⟩
 by_cases e : nF a.gG b.gG = 0
 ·rw [ai (by simp [e])]
  have e' := (g _ _).1 e
  by_cases d : nF a.hX b.hX = 0
  ·rw [ai (by simp [d])]
   refine ⟨0, rfl, ?_⟩
   rw [rV, e', (g _ _).1 d]
   simp [mR]
  ·rw [ak (by simp [d])]
   refine ⟨_, rfl, ?_⟩
   rw [rV, e', h1]
   simp [mR]
 ·rw [ak (by simp [e])]
  refine ⟨_, rfl, ?_⟩
  rw [rV, h1]
  have : a.gG ≠ b.gG := fun h => e ((g _ _).2 h)
  simp [this]
def zR : gr := ⟨zS, zS⟩
theorem yc (a b : ByteArray) : gX a b = gX b a := by rw [bz, iy, iy]; exact eq_comm
theorem uY (a b : gr) : gB a b = gB b a := by rw [bz, gC, gC]; exact eq_comm
theorem om (a : gr) : gB a a = true := gC.2 rfl
def hZ (c : gu) : Bool := ir c.Head && (
 if c.Kind == 1 then ja c.gU && gB zR c.B && gB zR c.C && gX zS c.gY
 else if c.Kind == 2 then ir c.B && gX zS c.gU && gB zR c.C && gX zS c.gY
 else if c.Kind == 3 then ir c.B && gX c.B.gG c.Head.gG && ja c.gY && gX zS c.gU && gB zR c.C
 else if c.Kind == 4 then ir c.B && ir c.C && nT c.B c.C && gX zS c.gU && gX zS c.gY
 else false)
theorem nE (c : gu) : mw c = some (hZ c) := by
 unfold mw hZ
 simp only [sJ, pf, aa]
 obtain ⟨k, hk, a⟩ := rI c.B c.C
 rw [hk]
 have b : decide (k < 0) = nT c.B c.C := by rw [bz, ← a]; simp
 simp only [aa, b]
 by_cases h1 : c.Kind = 1
 ·cases ir c.Head <;> cases ja c.gU <;> simp [h1, lM, om, oA, zR, ft]
 ·by_cases d : c.Kind = 2
  ·cases ir c.Head <;> cases ir c.B <;> simp [d, lM, om, oA, zR, ft]
  ·by_cases g : c.Kind = 3
   ·cases ir c.Head <;> cases ir c.B <;> cases gX c.B.gG c.Head.gG <;> cases ja c.gY <;> simp [g, lM, om, oA, zR, ft]
   ·by_cases h : c.Kind = 4
    ·cases ir c.Head <;> cases ir c.B <;> cases ir c.C <;> cases nT c.B c.C <;> simp [h, lM, om, oA, zR, ft]
    ·simp [h1, d, g, h]
theorem qb (c : gu) : nw c = some (hZ c) := by
 unfold nw hZ
 simp only [rZ, qc, pc, aa]
 rw [show (⟨zS, zS⟩ : gr) = zR from rfl, uY c.B zR, uY c.C zR, yc c.gY zS, yc c.gU zS]
 by_cases h1 : c.Kind = 1
 ·cases ir c.Head <;> cases ja c.gU <;> cases gB zR c.B <;> cases gB zR c.C <;> simp [h1]
 ·by_cases a : c.Kind = 2
  ·cases ir c.Head <;> cases ir c.B <;> cases gX zS c.gU <;> cases gB zR c.C <;> simp [a]
  ·by_cases b : c.Kind = 3
   ·cases ir c.Head <;> cases ir c.B <;> cases gX zS c.gU <;> cases gB zR c.C <;> cases gX c.B.gG c.Head.gG <;> simp [b]
   ·by_cases d : c.Kind = 4
    ·cases ir c.Head <;> cases ir c.B <;> cases gX zS c.gU <;> cases gX zS c.gY <;> cases ir c.C <;> simp [d]
    ·cases ir c.Head <;> cases ir c.B <;> cases gX zS c.gU <;> simp [h1, a, b, d]
theorem jq {α : Type} {b : Nat} {l m : List α} (h : (l.length + m.length) * b ≤ 140737488355328) (a : l.length + m.length ≤ 9223372036854775807) : je b l m = some (l ++ m) := by
 unfold je; rw [ak ⟨h, by unfold maxLen; omega⟩]
theorem xG {l m : List Int} (h : l.length + m.length ≤ 1000000) : je 1 l m = some (l ++ m) := jq (by omega) (by omega)
def pd (s : ByteArray) : List Int := (s.size : Int) :: mM s
def mS (r : gr) : List Int := pd r.gG ++ pd r.hX
def qG (c : gu) : List Int := if c.Kind = 1 then pd c.gU else if c.Kind = 2 then mS c.B else if c.Kind = 3 then mS c.B ++ pd c.gY else mS c.B ++ mS c.C
def mV (c : gu) : List Int := c.Kind :: (mS c.Head ++ qG c)
theorem ni (s : ByteArray) : (pd s).length = s.size + 1 := by simp [pd, kA]
theorem kT {r : gr} (h : ir r = true) : (mS r).length ≤ 34 := by
 simp only [ir, aC] at h
 have h1 := jP h.1
 have a := jP h.2
 simp [mS, ni]; omega
theorem yg {l : List Int} {n : Int} (a : 0 ≤ n) (h1 : n < 128) (b : l.length ≤ 100000) : lU l n = some (true, l ++ [n]) := by
 have hw : IntKind.u8.wrap n = n := by
  obtain ⟨k, rfl⟩ : ∃ k : Nat, n = k := ⟨n.toNat, by omega⟩
  have : ∀ k : Nat, k < 128 → IntKind.u8.wrap (k : Int) = (k : Int) := by decide +kernel
  exact this k (by omega)
 unfold lU
 rw [ai (by simp; omega), tV, kQ, ai (by simp; omega), hw, xG (by simp; omega)]
 rfl
theorem vw {l : List Int} {s : ByteArray} (h : ja s = true) (a : l.length ≤ 10000) : nf l s = some (true, l ++ pd s) := by
 have h1 := jP h
 unfold nf
 simp only [pf, aa, h, aY, vM h1.2]
 unfold pH
 rw [ai (by rw [kA]; simp; omega)]
 rw [kA, yg (by omega) (by omega) (by omega)]
 simp only [aa]
 rw [xG (by simp [kA]; omega)]
 simp [pd]
theorem CV {l : List Int} {r : gr} (h : ir r = true) (b : l.length ≤ 9000) : ly l r = some (true, l ++ mS r) := by
 have a := h
 simp only [ir, aC] at h
 have h1 := jP h.1
 unfold ly
 simp only [sJ, aa, a, aY]
 rw [vw h.1 (by omega)]
 simp only [aa, aY]
 rw [vw h.2 (by simp [ni]; omega)]
 simp [mS]
theorem tq {l : List Int} {r : gr} (h : ir r = true) (a : l.length ≤ 1000) : ly l r = some (true, l ++ mS r) := CV h (by omega)
theorem s9 {c : gu} (h : hZ c = true) : ir c.Head = true := by
 simp only [hZ, aC] at h; exact h.1
theorem jA {c : gu} (h : hZ c = true) :
  (c.Kind = 1 ∧ ja c.gU = true ∧ c.B = zR ∧ c.C = zR ∧ c.gY = zS) ∨
  (c.Kind = 2 ∧ ir c.B = true ∧ c.gU = zS ∧ c.C = zR ∧ c.gY = zS) ∨
  (c.Kind = 3 ∧ ir c.B = true ∧ ja c.gY = true ∧ c.B.gG = c.Head.gG ∧ c.gU = zS ∧ c.C = zR) ∨
  (c.Kind = 4 ∧ ir c.B = true ∧ ir c.C = true ∧ nT c.B c.C = true ∧ c.gU = zS ∧ c.gY = zS) := by
 simp only [hZ, aC] at h
 obtain ⟨_, h⟩ := h
 split at h
 ·rename_i h1
  simp only [aC, gC, iy] at h
  exact .inl ⟨by simpa using h1, h.1.1.1, h.1.1.2.symm, h.1.2.symm, h.2.symm⟩
 ·split at h
  ·rename_i h1
   simp only [aC, gC, iy] at h
   exact .inr (.inl ⟨by simpa using h1, h.1.1.1, h.1.1.2.symm, h.1.2.symm, h.2.symm⟩)
  ·split at h
   ·rename_i h1
    simp only [aC, gC, iy] at h
    exact .inr (.inr (.inl ⟨by simpa using h1, h.1.1.1.1, h.1.1.2, h.1.1.1.2, h.1.2.symm, h.2.symm⟩))
   ·split at h
    ·rename_i h1
     simp only [aC, gC, iy] at h
     exact .inr (.inr (.inr ⟨by simpa using h1, h.1.1.1.1, h.1.1.1.2, h.1.1.2, h.1.2.symm, h.2.symm⟩))
    ·cases h
theorem sK (c : gu) : pj c = some (if hZ c then mV c else []) := by
 unfold pj
 rw [nE]
 simp only [aa]
 cases h : hZ c with
 | false => simp
 | true =>
  have g := s9 h
  have i := kT g
  simp only [cn, aq, bj, aY]
  have hk : 0 ≤ c.Kind ∧ c.Kind < 128 := by rcases jA h with h | h | h | h <;> omega
  rw [yg hk.1 hk.2 (by simp)]
  simp only [aa]
  rw [tq g (by simp)]
  simp only [aa, pX, pU]
  rcases jA h with ⟨k, h1, _⟩ | ⟨k, h1, _⟩ | ⟨k, h1, a, _⟩ | ⟨k, h1, a, _⟩
  ·have b := jP h1
   simp only [k, bR, aY, vw h1 (show (([] ++ [(1:Int)]) ++ mS c.Head).length ≤ 10000 by simp; omega), aa]
   rw [xG (by simp [ni]; omega)]
   simp [mV, qG, k]
  ·have b := kT h1
   simp only [k, show ((2 : Int) == 1) = false from rfl, aq, bR, aY, bj, tq h1 (show (([] ++ [(2:Int)]) ++ mS c.Head).length ≤ 1000 by simp; omega), aa]
   rw [xG (by simp; omega)]
   simp [mV, qG, k]
  ·have b := kT h1
   have d := jP a
   simp only [k, show ((3 : Int) == 1) = false from rfl, show ((3 : Int) == 2) = false from rfl, aq, bR, aY, bj, tq h1 (show (([] ++ [(3:Int)]) ++ mS c.Head).length ≤ 1000 by simp; omega), aa]
   rw [vw a (by simp; omega)]
   simp only [aa]
   rw [xG (by simp [ni]; omega)]
   simp [mV, qG, k]
  ·have b := kT h1
   have d := kT a
   simp only [k, show ((4 : Int) == 1) = false from rfl, show ((4 : Int) == 2) = false from rfl, show ((4 : Int) == 3) = false from rfl, aq, bR, aY, bj, tq h1 (show (([] ++ [(4:Int)]) ++ mS c.Head).length ≤ 1000 by simp; omega), aa]
   rw [tq a (by simp; omega)]
   simp only [aa]
   rw [xG (by simp; omega)]
   simp [mV, qG, k]
def rG (l : List Int) : ByteArray := ⟨(pC l).toArray⟩
theorem sc (l : List Int) : (rG l).data.toList = pC l := rfl
theorem xc : ∀ (l : List Int) (r : ByteArray), (l.foldl (fun r n => r.push (UInt8.ofNat n.toNat)) r).data.toList = r.data.toList ++ pC l
 | [], r => by simp [pC]
 | x :: l, r => by
  rw [cY, xc l]
  show ((r.data.push _).toList) ++ _ = _
  simp [pC]
theorem DU (l : List Int) : uC l = rG l := tl (by unfold uC; rw [xc]; rfl)
theorem zO (l : List Int) : (rG l).size = l.length := by rw [pt, sc]; simp [pC]
theorem Bz (a b : List Int) : pC (a ++ b) = pC a ++ pC b := by simp [pC]
theorem oU (a b : List Int) (h : a.length + b.length ≤ 1000000) : qO (rG a) (rG b) = some (rG (a ++ b)) := by
 unfold qO
 rw [ai]
 ·congr 1
  refine tl ?_
  rw [sc, Bz, ← sc a, ← sc b]
  exact ByteArray.toList_data_append ▸ rfl
 ·rw [zO, zO]
  show ¬ (_ > (9223372036854775807 : Int))
  omega
theorem uj (s : ByteArray) : rG (mM s) = s := tl (by rw [sc]; simp [pC, mM, db])
theorem xW {n : Int} (a : 0 ≤ n) (h1 : n < 128) : ox n = some (rG [n]) := by
 have hw : IntKind.u8.wrap n = n := by
  obtain ⟨k, rfl⟩ : ∃ k : Nat, n = k := ⟨n.toNat, by omega⟩
  have : ∀ k : Nat, k < 128 → IntKind.u8.wrap (k : Int) = (k : Int) := by decide +kernel
  exact this k (by omega)
 unfold ox
 rw [tV, mO, ai (by simp; omega), hw, DU, show zS = rG [] from rfl, oU _ _ (by simp)]
 rfl
theorem vu {s : ByteArray} (h : ja s = true) : nh s = some (rG (pd s)) := by
 have h1 := jP h
 unfold nh
 rw [xW (by omega) (by omega)]
 simp only [aa]
 have := oU [(s.size : Int)] (mM s) (by rw [kA]; simp; omega)
 rw [uj] at this
 rw [this]
 simp [pd]
theorem tB {r : gr} (h : ir r = true) : ny r = some (rG (mS r)) := by
 simp only [ir, aC] at h
 have h1 := jP h.1
 have a := jP h.2
 unfold ny
 rw [vu h.1, vu h.2]
 simp only [aa]
 rw [oU _ _ (by simp [ni]; omega)]
 rfl
theorem sk (c : gu) : oP c = some (rG (if hZ c then mV c else [])) := by
 unfold oP
 rw [qb]
 simp only [aa]
 cases h : hZ c with
 | false => rfl
 | true =>
  have g := s9 h
  have i := kT g
  simp only [cn, aq, bj, aY]
  have hk : 0 ≤ c.Kind ∧ c.Kind < 128 := by rcases jA h with h | h | h | h <;> omega
  unfold rA
  rw [xW hk.1 hk.2, tB g]
  simp only [aa]
  rw [oU _ _ (by simp; omega)]
  simp only [aa]
  rcases jA h with ⟨k, h1, _⟩ | ⟨k, h1, _⟩ | ⟨k, h1, a, _⟩ | ⟨k, h1, a, _⟩
  ·have b := jP h1
   simp only [k, bR, aY, vu h1, aa]
   rw [oU _ _ (by simp [ni]; omega)]
   simp [mV, qG, k]
  ·have b := kT h1
   simp only [k, show ((2 : Int) == 1) = false from rfl, show ((2 : Int) == 3) = false from rfl, show ((2 : Int) == 4) = false from rfl, aq, bj, tB h1, aa]
   rw [oU _ _ (by simp; omega)]
   simp [mV, qG, k]
  ·have b := kT h1
   have d := jP a
   simp only [k, show ((3 : Int) == 1) = false from rfl, show ((3 : Int) == 4) = false from rfl, aq, bR, aY, bj, tB h1, aa]
   rw [oU _ _ (by simp; omega)]
   simp only [aa, vu a]
   rw [oU _ _ (by simp [ni]; omega)]
   simp [mV, qG, k]
  ·have b := kT h1
   have d := kT a
   simp only [k, show ((4 : Int) == 1) = false from rfl, show ((4 : Int) == 3) = false from rfl, aq, bR, aY, bj, tB h1, aa]
   rw [oU _ _ (by simp; omega)]
   simp only [aa, tB a]
   rw [oU _ _ (by simp; omega)]
   simp [mV, qG, k]
def zu (c : gu) : List UInt8 := pC (if hZ c then mV c else [])
def su (a b : gu) : Bool := Op.bytesLess (zu a) (zu b)
theorem vB (a b : gu) : ∃ c, na a b = some c ∧ (c < 0 ↔ su a b = true) := by
 unfold na
 rw [sK, sK]
 exact ⟨_, rfl, xr _ _⟩
theorem ve (a b : gu) : ∃ c, mC a b = some c ∧ (c < 0 ↔ su a b = true) := by
 unfold mC
 rw [sk, sk]
 simp only [aa]
 have h : kw (rG (if hZ a then mV a else [])) (rG (if hZ b then mV b else [])) = su a b := by rw [rU]; rfl
 rw [h]
 cases su a b with
 | true => exact ⟨_, rfl, by decide⟩
 | false =>
  simp only [aq, bj, Bool.false_or]
  cases d : gX (rG (if hZ a then mV a else [])) (rG (if hZ b then mV b else [])) with
  | true => exact ⟨0, by simp, by decide⟩
  | false => exact ⟨1, by simp, by decide⟩
theorem EN {a b : Int} (c : 0 ≤ a ∧ a < 256) (d : 0 ≤ b ∧ b < 256) (h : a.toNat.toUInt8 = b.toNat.toUInt8) : a = b := by
 have := ap UInt8.toNat h
 simp only [UInt8.toNat_ofNat', Nat.toUInt8] at this
 simp at this
 omega
theorem Ax : ∀ {a b : List Int}, (∀ x ∈ a, 0 ≤ x ∧ x < 256) → (∀ x ∈ b, 0 ≤ x ∧ x < 256) → pC a = pC b → a = b
 | [], [], _, _, _ => rfl
 | [], _ :: _, _, _, h => by simp [pC] at h
 | _ :: _, [], _, _, h => by simp [pC] at h
 | x :: a, y :: b, d, g, h => by
  simp only [pC, aM, cq] at h
  rw [EN (d x (by simp)) (g y (by simp)) h.1, Ax (fun z c => d z (by simp [c])) (fun z c => g z (by simp [c])) h.2]
theorem qW {s : ByteArray} (h : ja s = true) : ∀ x ∈ pd s, 0 ≤ x ∧ x < 256 := by
 have h1 := jP h
 intro x a
 rcases ah.1 a with rfl | a
 ·omega
 ·simp only [mM, aK] at a
  obtain ⟨b, _, rfl⟩ := a
  have := fp b
  omega
theorem pI {r : gr} (h : ir r = true) : ∀ x ∈ mS r, 0 ≤ x ∧ x < 256 := by
 simp only [ir, aC] at h
 intro x a
 rcases aG.1 a with a | a
 ·exact qW h.1 x a
 ·exact qW h.2 x a
theorem vG {c : gu} (h : hZ c = true) : ∀ x ∈ mV c, 0 ≤ x ∧ x < 256 := by
 intro x a
 rcases ah.1 a with rfl | a
 ·rcases jA h with h | h | h | h <;> omega
 ·rcases aG.1 a with a | a
  ·exact pI (s9 h) x a
  ·unfold qG at a
   rcases jA h with ⟨k, h1, _⟩ | ⟨k, h1, _⟩ | ⟨k, h1, b, _⟩ | ⟨k, h1, b, _⟩
   ·rw [ak k] at a; exact qW h1 x a
   ·rw [ai (by omega), ak k] at a; exact pI h1 x a
   ·rw [ai (by omega), ai (by omega), ak k] at a
    rcases aG.1 a with a | a
    ·exact pI h1 x a
    ·exact qW b x a
   ·rw [ai (by omega), ai (by omega), ai (by omega)] at a
    rcases aG.1 a with a | a
    ·exact pI h1 x a
    ·exact pI b x a
theorem Bq {s t : ByteArray} (h : mM s = mM t) : s = t := by rw [← uj s, h, uj]
theorem sI {s t : ByteArray} {X Y : List Int} (h : pd s ++ X = pd t ++ Y) : s = t ∧ X = Y := by
 simp only [pd, bT, cq] at h
 obtain ⟨h1, a⟩ := h
 have b : (mM s).length = (mM t).length := by rw [kA, kA]; omega
 have := List.append_inj a b
 exact ⟨Bq this.1, this.2⟩
theorem rj {a b : gr} {X Y : List Int} (h : mS a ++ X = mS b ++ Y) : a = b ∧ X = Y := by
 simp only [mS, ar] at h
 obtain ⟨h1, d⟩ := sI h
 obtain ⟨c, g⟩ := sI d
 exact ⟨by cases a; cases b; simp at h1 c; simp [h1, c], g⟩
theorem B9 {a b : gu} (p : hZ a = true) (r : hZ b = true) (h : mV a = mV b) : a = b := by
 simp only [mV, cq] at h
 obtain ⟨hk, o⟩ := h
 obtain ⟨n, h⟩ := rj o
 clear o
 have j : ∀ {X Y : List Int}, X = Y → X ++ [] = Y ++ [] := fun h => by rw [h]
 unfold qG at h
 obtain ⟨A, q, G, v, x, t⟩ := a
 obtain ⟨E, s, I, w, y, u⟩ := b
 simp only at hk n h
 subst hk n
 rcases jA p with ⟨k, h1, d, g, c⟩ | ⟨k, h1, d, g, c⟩ | ⟨k, h1, d, g, c, i⟩ | ⟨k, h1, d, g, c, i⟩ <;>
 rcases jA r with ⟨k', g1, g2, g3, g4⟩ | ⟨k', g1, g2, g3, g4⟩ | ⟨k', g1, g2, g3, g4, g5⟩ | ⟨k', g1, g2, g3, g4, g5⟩ <;> simp only at k k' d g c g2 g3 g4 <;> (try omega)
 ·rw [ak k, ak k] at h
  simp [sI (j h), d, g, c, g2, g3, g4]
 ·rw [ai (by omega), ak k, ai (by omega), ak k] at h
  simp [rj (j h), d, g, c, g2, g3, g4]
 ·rw [ai (by omega), ai (by omega), ak k, ai (by omega), ai (by omega), ak k] at h
  obtain ⟨l, m⟩ := rj h
  simp only at i g5
  simp [l, sI (j m), c, i, g4, g5]
 ·rw [ai (by omega), ai (by omega), ai (by omega), ai (by omega), ai (by omega), ai (by omega)] at h
  obtain ⟨l, m⟩ := rj h
  simp only at i g5
  simp [l, rj (j m), c, i, g4, g5]
theorem ql : ry (fun a b => su a b = true) (fun c => hZ c = true) := by
 refine ⟨fun x _ h => ?_, fun x y z _ _ _ h1 i => wg _ _ _ h1 i, fun x y d g => ?_⟩
 ·unfold su at h; rw [uK] at h; cases h
 ·rcases wu (zu x) (zu y) with h | h | h
  ·exact .inl h
  ·refine .inr (.inl (B9 d g ?_))
   unfold zu at h
   rw [ak d, ak g] at h
   exact Ax (vG d) (vG g) h
  ·exact .inr (.inr h)
def lq {α : Type} (R : α → Bool) (lt : α → α → Bool) (last : Option α) : List α → Bool → α → Bool × α
 | [], ok, b => (ok, b)
 | x :: xs, ok, b => if R x && last.all (fun y => lt y x) && (!ok || lt x b) then lq R lt last xs true x else lq R lt last xs ok b
def qm {α : Type} (w : Nat) (R : α → Bool) (lt : α → α → Bool) (d : α) (l : List α) : Nat → List α → Option (List α)
 | 0, _ => none
 | n + 1, out => if !(lq R lt out.getLast? l false d).1 then some out else (je w out [(lq R lt out.getLast? l false d).2]).bind fun o => qm w R lt d l n o
section
variable {α : Type} {R : α → Bool} {lt : α → α → Bool}
theorem u6 (H : ry (fun a b => lt a b = true) (fun x => R x = true)) (last : Option α) : ∀ (l : List α) (ok : Bool) (b : α), (ok = true → R b = true ∧ last.all (fun y => lt y b) = true) →
  ((lq R lt last l ok b).1 = false → ok = false ∧ ∀ x ∈ l, R x = true → last.all (fun y => lt y x) = false) ∧
  ((lq R lt last l ok b).1 = true → R (lq R lt last l ok b).2 = true ∧ last.all (fun y => lt y (lq R lt last l ok b).2) = true ∧ ((lq R lt last l ok b).2 ∈ l ∨ (ok = true ∧ (lq R lt last l ok b).2 = b)) ∧
   (∀ x ∈ l, R x = true → last.all (fun y => lt y x) = true → lt x (lq R lt last l ok b).2 = false) ∧ (ok = true → lt b (lq R lt last l ok b).2 = false))
 | [], ok, b, j => by
  simp only [lq]
  exact ⟨fun h => ⟨h, by simp⟩, fun h => ⟨(j h).1, (j h).2, .inr ⟨h, trivial⟩, by simp, fun _ => by
   cases m : lt b b with
   | false => rfl
   | true => exact absurd m (H.irrefl b (j h).1)⟩⟩
 | x :: xs, ok, b, j => by
  rw [lq]
  by_cases k : (R x && last.all (fun y => lt y x) && (!ok || lt x b)) = true
  ·rw [ak k]
   simp only [aC, cZ, cP] at k
   obtain ⟨⟨v, r⟩, s⟩ := k
   obtain ⟨h1, q⟩ := u6 H last xs true x (fun _ => ⟨v, r⟩)
   refine ⟨fun h => ?_, fun h => ?_⟩
   ·cases (h1 h).1
   ·obtain ⟨o, a2, a3, a4, a5⟩ := q h
    refine ⟨o, a2, ?_, ?_, ?_⟩
    ·rcases a3 with a3 | ⟨_, a3⟩
     ·exact .inl (by simp [a3])
     ·exact .inl (by rw [a3]; simp)
    ·intro y g c d
     rcases ah.1 g with rfl | g
     ·exact a5 rfl
     ·exact a4 y g c d
    ·intro i
     cases m : lt b (lq R lt last xs true x).2 with
     | false => rfl
     | true =>
      have t : lt x b = true := by rcases s with h | h; rw [i] at h; cases h; exact h
      have := H.trans x b _ v (j i).1 o t m
      simp only [a5 rfl] at this
      cases this
  ·rw [ai k]
   obtain ⟨h1, q⟩ := u6 H last xs ok b j
   refine ⟨fun h => ⟨(h1 h).1, fun y g c => ?_⟩, fun h => ?_⟩
   ·rcases ah.1 g with rfl | g
    ·have i := (h1 h).1
     cases r : last.all (fun z => lt z y) with
     | false => rfl
     | true => exact absurd (by simp [c, r, i]) k
    ·exact (h1 h).2 y g c
   ·obtain ⟨o, a2, a3, a4, a5⟩ := q h
    refine ⟨o, a2, ?_, ?_, a5⟩
    ·rcases a3 with a3 | a3
     ·exact .inl (by simp [a3])
     ·exact .inr a3
    ·intro y g c d
     rcases ah.1 g with rfl | g
     ·cases m : lt y (lq R lt last xs ok b).2 with
      | false => rfl
      | true =>
       cases ok with
       | false => exact absurd (by simp [c, d]) k
       | true =>
        have u : lt y b = false := by
         cases w : lt y b with
         | false => rfl
         | true => exact absurd (by simp [c, d, w]) k
        have p := j rfl
        rcases H.total y b c p.1 with n | n | n
        ·rw [u] at n; cases n
        ·subst n; rw [a5 rfl] at m; cases m
        ·have := H.trans b y _ p.1 c o n m
         simp only [a5 rfl] at this
         cases this
     ·exact a4 y g c d
theorem nQ (H : ry (fun a b => lt a b = true) (fun x => R x = true)) {l : List α} (d : ∀ x ∈ l, R x = true) (h : l.Pairwise (fun a b => lt a b = true)) : l.Nodup := by
 refine h.imp_of_mem (fun {a b} g i c e => ?_)
 subst e
 exact H.irrefl a (d a g) c
theorem iK : ∀ {l m : List α}, l.Nodup → (∀ x ∈ l, x ∈ m) → l.length ≤ m.length
 | [], _, _, _ => by simp
 | x :: l, m, d, b => by
  obtain ⟨A, B, rfl⟩ := du (b x (by simp))
  have a := bO.1 d
  have := iK (l := l) (m := A ++ B) a.2 (fun y c => by
   have := b y (cJ _ c)
   simp only [aG, ah] at this ⊢
   rcases this with h | h | h
   ·exact .inl h
   ·subst h; exact absurd c a.1
   ·exact .inr h)
  simp at this ⊢; omega
theorem rl (H : ry (fun a b => lt a b = true) (fun x => R x = true)) {w : Nat} (hw : w ≤ 1000) (d : α) (l : List α) (I : l.length ≤ 1000000000) : ∀ (n : Nat) (out : List α), l.length < n + out.length → out.Pairwise (fun a b => lt a b = true) → (∀ x ∈ out, x ∈ l ∧ R x = true) →
  (∀ x ∈ l, R x = true → x ∈ out ∨ out.getLast?.all (fun y => lt y x) = true) → ∃ s, qm w R lt d l n out = some s ∧ lR (fun a b => lt a b = true) (fun x => R x = true) l s
 | 0, out, J, hp, hm, t => by
  exfalso
  have := iK (nQ H (fun x c => (hm x c).2) hp) (fun x c => (hm x c).1)
  omega
 | n + 1, out, J, hp, hm, t => by
  rw [qm]
  obtain ⟨h1, E⟩ := u6 H out.getLast? l false d (fun h => by cases h)
  have hlen := iK (nQ H (fun x c => (hm x c).2) hp) (fun x c => (hm x c).1)
  cases v : (lq R lt out.getLast? l false d).1 with
  | false =>
   rw [ak (by simp)]
   refine ⟨out, rfl, hp, fun x => ⟨hm x, fun c => ?_⟩⟩
   rcases t x c.1 c.2 with h | h
   ·exact h
   ·rw [(h1 v).2 x c.1 c.2] at h; cases h
  | true =>
   rw [ai (by simp)]
   obtain ⟨q, a2, a3, a4, _⟩ := E v
   generalize (lq R lt out.getLast? l false d).2 = b at *
   have r : b ∈ l := by rcases a3 with h | ⟨h, _⟩; exact h; cases h
   have o : ∀ y ∈ out, lt y b = true := by
    intro y g
    obtain ⟨A, z, rfl⟩ : ∃ A z, out = A ++ [z] := by
     rcases cV out with h | ⟨A, z, h⟩
     ·subst h; cases g
     ·exact ⟨A, z, by rw [h]; simp⟩
    simp at a2
    rcases aG.1 g with g | g
    ·have u : lt y z = true := (dC.1 hp).2.2 y g z (by simp)
     exact H.trans y z b (hm y (by simp [g])).2 (hm z (by simp)).2 q u a2
    ·simp at g; subst g; exact a2
   have p : (out ++ [b]).Pairwise (fun a b => lt a b = true) := dC.2 ⟨hp, by simp, fun x c y g => by simp at g; subst g; exact o x c⟩
   have k : ∀ x ∈ out ++ [b], x ∈ l ∧ R x = true := fun x c => by
    rcases aG.1 c with c | c
    ·exact hm x c
    ·simp at c; subst c; exact ⟨r, q⟩
   have j := iK (nQ H (fun x c => (k x c).2) p) (fun x c => (k x c).1)
   simp at j
   rw [jq (by simp only [az, bx]; have : (out.length + (0 + 1)) * w ≤ 1000000000 * 1000 := dG (by omega) hw; omega) (by simp; omega)]
   simp only [aa]
   refine rl H hw d l I n (out ++ [b]) (by simp; omega) p k (fun x c i => ?_)
   rcases t x c i with h | h
   ·exact .inl (by simp [h])
   ·have G := a4 x c i h
    rcases H.total x b i q with m | m | m
    ·rw [G] at m; cases m
    ·subst m; exact .inl (by simp)
    ·exact .inr (by simp [m])
end
theorem ue {α : Type} (A : List α) (x : α) (a : A.length < 4611686018427387904) : kd (A ++ [x]) (wi0 .i64 (((A ++ [x]).length : Int) - 1)) = some x := by
 rw [iY (by simp; try omega) (by simp; try omega)]
 rw [pv A x [] _ (by simp; try omega)]
theorem we (out : List gu) (k : out.length < 4611686018427387904) : ∀ (l : List gu) (ok : Bool) (b : gu), mi out l ok b = some (lq hZ su out.getLast? l ok b)
 | [], ok, b => rfl
 | x :: xs, ok, b => by
  rw [mi, lq]
  have cmp : ∀ a b, ∃ c, mC a b = some c ∧ decide (c < 0) = su a b := fun a b => by
   obtain ⟨c, h1, j⟩ := ve a b
   exact ⟨c, h1, by rw [bz, ← j]; simp⟩
  rw [qb, we out k xs true x, we out k xs ok b]
  obtain ⟨c, h1, j⟩ := cmp x b
  rcases cV out with h | ⟨A, z, h⟩
  ·subst h
   simp only [h1, aa, j, bx, Option.all, fO]
   generalize su x b = p
   cases hZ x <;> cases ok <;> cases p <;> simp
  ·have i : out = A ++ [z] := by rw [h]; simp
   obtain ⟨s, q, r⟩ := cmp z x
   have d : out.getLast? = some z := by rw [i]; simp
   have g : kd out (wi0 .i64 ((out.length : Int) - 1)) = some z := by rw [i]; exact ue A z (by rw [i] at k; simp at k; omega)
   have m : ((out.length : Int) == 0) = false := by rw [i]; simp; omega
   rw [d]
   simp only [m, g, q, h1, aa, j, r, Option.all]
   rcases bk (su x b) with hp | hp <;> rcases bk (su z x) with n | n <;> rcases bk (hZ x) with o | o <;> cases ok <;> simp [hp, n, o]
theorem wy (out : List gr) (g : out.length < 4611686018427387904) : ∀ (l : List gr) (ok : Bool) (b : gr), mX out l ok b = some (lq ir nT out.getLast? l ok b)
 | [], ok, b => rfl
 | x :: xs, ok, b => by
  rw [mX, lq]
  rw [rZ, wy out g xs true x, wy out g xs ok b]
  rcases cV out with h | ⟨A, z, h⟩
  ·subst h
   simp only [pc, aa, bx, Option.all, fO]
   generalize nT x b = p
   cases ir x <;> cases ok <;> cases p <;> simp
  ·have d : out = A ++ [z] := by rw [h]; simp
   have a : out.getLast? = some z := by rw [d]; simp
   have c : kd out (wi0 .i64 ((out.length : Int) - 1)) = some z := by rw [d]; exact ue A z (by rw [d] at g; simp at g; omega)
   have i : ((out.length : Int) == 0) = false := by rw [d]; simp; omega
   rw [a]
   simp only [i, c, pc, aa, Option.all]
   rcases bk (nT x b) with hp | hp <;> rcases bk (nT z x) with j | j <;> rcases bk (ir x) with k | k <;> cases ok <;> simp [hp, j, k]
theorem FR (a b : ByteArray) : (!(kw a b || gX a b)) = kw b a := by
 rcases nH a b with h | h | h
 ·simp [h, rc h]
 ·subst h; simp [oA, mR]
 ·have c := rc h
  have d : gX a b = false := AJ (by rintro rfl; rw [mR] at h; cases h)
  simp [h, c, d]
theorem BX {s : ByteArray} (h : ja s = true) : gX s zS = false := AJ (fun e => by have := jP h; rw [e, D5] at this; omega)
theorem wI (out : List ByteArray) (k : out.length < 4611686018427387904) : ∀ (l : List ByteArray) (b : ByteArray),
  ∃ m, lZ out l b = some m ∧ (lq ja kw out.getLast? l (!gX b zS) b) = (!gX m zS, m)
 | [], b => ⟨b, rfl, rfl⟩
 | x :: xs, b => by
  rw [lZ, lq]
  obtain ⟨u, s, c⟩ := wI out k xs x
  obtain ⟨v, t, i⟩ := wI out k xs b
  rw [qc, s, t]
  by_cases g : ja x = true
  ·rw [BX g] at c
   simp only [cU] at c
   rcases cV out with h | ⟨A, z, h⟩
   ·subst h
    simp only [aa, bx, Option.all, fO, g] at *
    rw [c, i]
    generalize kw x b = p
    generalize gX b zS = q
    cases p <;> cases q <;> simp
   ·have j : out = A ++ [z] := by rw [h]; simp
    have a : out.getLast? = some z := by rw [j]; simp
    have d : kd out (wi0 .i64 ((out.length : Int) - 1)) = some z := by rw [j]; exact ue A z (by rw [j] at k; simp at k; omega)
    have n : ((out.length : Int) == 0) = false := by rw [j]; simp; omega
    rw [a] at c i ⊢
    simp only [n, d, aa, Option.all, FR, g]
    rw [c, i]
    rcases bk (kw x b) with hp | hp <;> rcases bk (kw z x) with o | o <;> rcases bk (gX b zS) with r | r <;> simp [hp, o, r]
  ·simp only [Bool.not_eq_true] at g
   rw [g, i]
   simp
theorem Dn (a : List gu) : ∀ (n : Nat) (out s : List gu), qm 136 hZ su (⟨0, ⟨zS, zS⟩, zS, ⟨zS, zS⟩, ⟨zS, zS⟩, zS⟩ : gu) a n out = some s → s.length < 4611686018427387904 → mY a n out = some s ∧ out.length ≤ s.length
 | 0, out, s, h, _ => by cases h
 | n + 1, out, s, h, g => by
  rw [qm] at h
  rw [mY]
  have key : out.length ≤ s.length → mi out a false (⟨0, ⟨zS, zS⟩, zS, ⟨zS, zS⟩, ⟨zS, zS⟩, zS⟩ : gu) = _ := fun j => we out (by omega) a false _
  split at h
  ·rename_i h1
   cases h
   rw [key (aJ _)]
   simp only [aa]
   rw [ak h1]
   exact ⟨rfl, aJ _⟩
  ·rename_i h1
   obtain ⟨o, b, c⟩ := bind_some h
   have d := Dn a n o s c g
   have i : out.length + 1 = o.length := by
    unfold je at b; split at b
    ·cases b; simp
    ·cases b
   rw [key (by omega)]
   simp only [aa]
   rw [ai h1, b]
   exact ⟨d.1, by omega⟩
theorem Dw (a : List gr) : ∀ (n : Nat) (out s : List gr), qm 32 ir nT (⟨zS, zS⟩ : gr) a n out = some s → s.length < 4611686018427387904 → px a n out = some s ∧ out.length ≤ s.length
 | 0, out, s, h, _ => by cases h
 | n + 1, out, s, h, g => by
  rw [qm] at h
  rw [px]
  have key : out.length ≤ s.length → mX out a false (⟨zS, zS⟩ : gr) = _ := fun j => wy out (by omega) a false _
  split at h
  ·rename_i h1
   cases h
   rw [key (aJ _)]
   simp only [aa]
   rw [ak h1]
   exact ⟨rfl, aJ _⟩
  ·rename_i h1
   obtain ⟨o, b, c⟩ := bind_some h
   have d := Dw a n o s c g
   have i : out.length + 1 = o.length := by
    unfold je at b; split at b
    ·cases b; simp
    ·cases b
   rw [key (by omega)]
   simp only [aa]
   rw [ai h1, b]
   exact ⟨d.1, by omega⟩
theorem DA (a : List ByteArray) : ∀ (n : Nat) (out s : List ByteArray), qm 16 ja kw zS a n out = some s → s.length < 4611686018427387904 → nc a n out = some s ∧ out.length ≤ s.length
 | 0, out, s, h, _ => by cases h
 | n + 1, out, s, h, j => by
  rw [qm] at h
  rw [nc]
  have key : out.length ≤ s.length → ∃ c, lZ out a zS = some c ∧ lq ja kw out.getLast? a false zS = (!gX c zS, c) := fun l => by
   have := wI out (by omega) a zS
   rw [oA] at this
   exact this
  split at h
  ·rename_i h1
   cases h
   obtain ⟨c, d, k2⟩ := key (aJ _)
   rw [d]
   rw [k2] at h1
   simp only [aa]
   rw [ak (by simpa using h1)]
   exact ⟨rfl, aJ _⟩
  ·rename_i h1
   obtain ⟨o, b, g⟩ := bind_some h
   have i := DA a n o s g j
   have k : out.length + 1 = o.length := by
    unfold je at b; split at b
    ·cases b; simp
    ·cases b
   obtain ⟨c, d, k2⟩ := key (by omega)
   rw [d]
   rw [k2] at h1 b
   simp only [aa]
   rw [ai (by simpa using h1), b]
   exact ⟨i.1, by omega⟩
abbrev wR (l s : List ByteArray) := lR (fun a b => kw a b = true) (fun x => ja x = true) l s
abbrev Er (l s : List gr) := lR (fun a b => nT a b = true) (fun x => ir x = true) l s
abbrev tp (l s : List gu) := lR (fun a b => su a b = true) (fun x => hZ x = true) l s
theorem lJ {α : Type} {lt : α → α → Bool} {R : α → Bool} (H : ry (fun a b => lt a b = true) (fun x => R x = true)) {l s : List α} (h : lR (fun a b => lt a b = true) (fun x => R x = true) l s) : s.length ≤ l.length :=
 iK (nQ H (fun x c => ((h.2 x).1 c).2) h.1) (fun x c => ((h.2 x).1 c).1)
theorem xA (l : List gu) (b : l.length ≤ 1000000000) : ∃ s, nR l = some s ∧ tp l s := by
 obtain ⟨s, h1, a⟩ := rl ql (w := 136) (by omega) (⟨0, ⟨zS, zS⟩, zS, ⟨zS, zS⟩, ⟨zS, zS⟩, zS⟩ : gu) l b jg [] (by rw [oW]; omega) (by simp) (by simp) (fun x _ _ => .inr rfl)
 exact ⟨s, (Dn l jg [] s h1 (by have := lJ ql a; omega)).1, a⟩
theorem DE (l : List gr) (b : l.length ≤ 1000000000) : ∃ s, vF l = some s ∧ Er l s := by
 obtain ⟨s, h1, a⟩ := rl (ub (fun x => ir x = true)) (w := 32) (by omega) (⟨zS, zS⟩ : gr) l b jg [] (by rw [oW]; omega) (by simp) (by simp) (fun x _ _ => .inr rfl)
 exact ⟨s, (Dw l jg [] s h1 (by have := lJ (ub _) a; omega)).1, a⟩
theorem Az (l : List ByteArray) (b : l.length ≤ 1000000000) : ∃ s, qT l = some s ∧ wR l s := by
 obtain ⟨s, h1, a⟩ := rl (rO (fun x => ja x = true)) (w := 16) (by omega) zS l b jg [] (by rw [oW]; omega) (by simp) (by simp) (fun x _ _ => .inr rfl)
 exact ⟨s, (DA l jg [] s h1 (by have := lJ (rO _) a; omega)).1, a⟩
def zC : gu := ⟨0, ⟨zS, zS⟩, zS, ⟨zS, zS⟩, ⟨zS, zS⟩, zS⟩
theorem Ar (f : gu → Option Bool) : ∀ (n : Nat) (l : List gu) (i j : Int), ju f n l i j = wc f zC n l i j
 | 0, _, _, _ => rfl
 | n + 1, l, i, j => by
  rw [ju, wc]
  simp only [Ar f n]
  rfl
theorem AO (f : gu → Option Bool) : ∀ (l : List gu) (i : Nat), jZ f l i = wo f l i
 | [], _ => rfl
 | x :: l, i => by rw [jZ, wo]; simp only [AO f l]
theorem Df (f : gu → Option Bool) (l : List gu) : lD l f = Bt f zC l := by
 unfold lD Bt nr
 simp only [AO, Ar]
theorem yV (i : Int) : ∀ (n : Nat) (l : List gu) (k j : Int), jM i n l k j = tg lM i n l k j
 | 0, _, _, _ => rfl
 | n + 1, l, k, j => by
  rw [jM, tg]
  simp only [yV i n]
theorem zb (l : List gu) : ∀ (n : Nat) (i : Int), jO l n i = tT lM zC l n i
 | 0, _ => rfl
 | n + 1, i => by
  rw [jO, tT]
  simp only [zb l n, yV]
  rfl
theorem CZ (l : List gu) : mF l = xI lM zC l := by
 unfold mF xI
 simp only [zb]
theorem zN (i : Int) : ∀ (n : Nat) (l : List ByteArray) (k j : Int), jz i n l k j = tg gX i n l k j
 | 0, _, _, _ => rfl
 | n + 1, l, k, j => by
  rw [jz, tg]
  simp only [zN i n]
theorem zf (l : List ByteArray) : ∀ (n : Nat) (i : Int), jy l n i = tT gX zS l n i
 | 0, _ => rfl
 | n + 1, i => by
  rw [jy, tT]
  simp only [zf l n, zN]
theorem Da (l : List ByteArray) : kE l = xI gX zS l := by
 unfold kE xI
 simp only [zf]
theorem EC {l : List gu} (a : l.length ≤ 1000000000) : lT l = some l := by
 unfold lT
 rw [jq (by simp; omega) (by simp; omega)]
 simp
theorem Et (l : List gu) (d : l.length ≤ 1000000000) : ∃ s, mU l = some s ∧ tp l s := by
 unfold mU
 rw [EC d]
 simp only [aa]
 rw [Df, CU _ (fun x => !hZ x) zC l (by omega) (fun x _ => by simp [pQ, nE])]
 simp only [aa, Bool.not_not]
 have i : (l.filter fun x => hZ x).length ≤ l.length := List.length_filter_le _ _
 obtain ⟨s, h1, h, c⟩ := vN (eq := lM) (lt := fun a b => su a b = true) (P := fun x => hZ x = true) (cf := fun x => na x.1 x.2) (l := l.filter fun x => hZ x) (fun x y => s6) ql (fun x g => (cr.1 g).2) (by omega) (fun x y _ _ => vB x y)
 rw [h1]
 simp only [aa]
 rw [CZ, zG _ _ _ (by omega)]
 refine ⟨_, rfl, c.1, fun x => ?_⟩
 rw [c.2]
 simp
theorem AX (l : List ByteArray) : iJ l = lx (fun x => some (if kw x.1 x.2 then -1 else 0)) l := by
 unfold iJ lx
 congr 1
 funext x y
 unfold mn
 cases h : kw y x <;> simp [h]
theorem ul : ∀ (l acc : List ByteArray), acc.length + l.length ≤ 1000000000 → mK l acc = (vy (acc ++ l.filter ja)).bind fun r => kE r
 | [], acc, _ => by rw [mK]; simp
 | x :: l, acc, h => by
  rw [mK, pf]
  simp only [aa]
  cases a : ja x with
  | false =>
   simp only [aq, bj]
   rw [ul l acc (by simp at h; omega)]
   simp [a]
  | true =>
   simp only [aY]
   rw [jq (by simp at h ⊢; omega) (by simp at h ⊢; omega)]
   simp only [aa]
   rw [ul l (acc ++ [x]) (by simp at h ⊢; omega)]
   simp [a]
theorem Eh (l : List ByteArray) (g : l.length ≤ 1000000000) : ∃ s, pw l = some s ∧ wR l s := by
 unfold pw
 rw [ul l [] (by simpa using g)]
 simp only [bn]
 have k : (l.filter ja).length ≤ l.length := List.length_filter_le _ _
 unfold vy
 rw [ak (by omega)]
 simp only [aa]
 obtain ⟨s, h1, j, c⟩ := vN (eq := gX) (lt := fun a b => kw a b = true) (P := fun x => ja x = true) (cf := fun x => some (if kw x.1 x.2 then -1 else 0)) (l := l.filter ja) (fun x y => iy) (rO _) (fun x i => (cr.1 i).2) (by omega) (fun x y _ _ => ⟨_, rfl, by cases h : kw x y <;> simp [h]⟩)
 have d := (xh h1).2
 rw [AX, ← d, Da, zG _ _ _ (by omega)]
 refine ⟨_, rfl, c.1, fun x => ?_⟩
 rw [c.2]
 simp
def tt {κ : Type} (a : List κ) : List (κ × Bool) := a.map fun k => (k, true)
def mJ {κ : Type} (beq : κ → κ → Bool) (a : List κ) (k : κ) : Bool := a.any fun x => beq k x
def ins {κ : Type} (beq : κ → κ → Bool) (a : List κ) (k : κ) : List κ := if mJ beq a k then a else a ++ [k]
section
variable {κ : Type} {beq : κ → κ → Bool}
theorem kK (b : ∀ {x y}, beq x y = true ↔ x = y) (a : List κ) (k : κ) : mJ beq a k = true ↔ k ∈ a := by
 simp [mJ, dK, b]
theorem vn (b : ∀ {x y}, beq x y = true ↔ x = y) (a : List κ) (k x : κ) : x ∈ ins beq a k ↔ x ∈ a ∨ x = k := by
 unfold ins
 split
 ·rename_i h
  have := (kK b a k).1 h
  exact ⟨.inl, fun h => by rcases h with h | rfl; exact h; exact this⟩
 ·simp
theorem vg (i : ∀ {x y}, beq x y = true ↔ x = y) {d : List κ} (h : d.Nodup) (k : κ) : (ins beq d k).Nodup := by
 unfold ins
 split
 ·exact h
 ·rename_i hk
  have : k ∉ d := fun hm => hk ((kK i d k).2 hm)
  exact aD.2 ⟨h, by simp, fun a g b c => by simp at c; subst c; intro e; subst e; exact this g⟩
theorem Bx (a : List κ) (k : κ) : (ins beq a k).length ≤ a.length + 1 ∧ a.length ≤ (ins beq a k).length := by
 unfold ins; split <;> simp
theorem Cp (a : List κ) : (tt a).length = a.length := by simp [tt]
theorem Cx (a : List κ) (k : κ) : iP beq (tt a) k false = mJ beq a k := by
 unfold iP gV mJ tt
 induction a with
 | nil => rfl
 | cons x xs ih =>
  simp only [aM, gd, List.any_cons]
  cases h : beq k x with
  | true => simp
  | false => simpa using ih
theorem DF (l : ∀ {x y}, beq x y = true ↔ x = y) (a : List κ) (k : κ) : iN beq (tt a) k true = tt (ins beq a k) := by
 unfold iN ins
 have m : (tt a).findIdx? (fun p => beq k p.1) = a.findIdx? (fun x => beq k x) := by
  unfold tt; rw [ec]; rfl
 rw [m]
 cases h : a.findIdx? (fun x => beq k x) with
 | none =>
  rw [dM] at h
  rw [ai]
  ·simp [tt]
  ·intro c
   unfold mJ at c
   rw [dK] at c
   obtain ⟨x, n, b⟩ := c
   rw [h x n] at b
   cases b
 | some i =>
  rw [bw] at h
  obtain ⟨g, h1, _⟩ := h
  have e := l.1 h1
  rw [ak]
  ·simp only [tt]
   apply cy
   intro j
   rw [da]
   split
   ·rename_i d
    subst d
    simp [g, e]
   ·rfl
  ·unfold mJ
   exact dK.2 ⟨a[i], List.getElem_mem g, h1⟩
end
section
variable {all : List gu} {wants : List gr} {T : List gr} {W : List ByteArray} {R : List gu}
def iE (c : gu) : List gr := if c.Kind = 1 then [] else if c.Kind = 4 then [c.B, c.C] else [c.B]
end
theorem BJ {c : gu} (h : hZ c = true) : pq c = some (c.Head :: iE c) := by
 unfold pq
 rw [nE, h]
 simp only [aa, cn, aq, bj]
 have a : c.Kind = 1 ∨ c.Kind = 2 ∨ c.Kind = 3 ∨ c.Kind = 4 := by rcases jA h with h | h | h | h <;> simp [h.1]
 rcases a with k | k | k | k
 ·simp [k, iE]
 ·rw [ak (by simp [k]), jq (by simp) (by simp)]
  simp [k, iE]
 ·rw [ak (by simp [k]), jq (by simp) (by simp)]
  simp [k, iE]
 ·rw [ak (by simp [k]), jq (by simp) (by simp)]
  simp only [aa]
  rw [ak (by simp [k]), jq (by simp) (by simp)]
  simp [k, iE]
theorem uo : ∀ (a T : List gr) (r : gr), r ∈ a.foldl (ins gB) T ↔ r ∈ T ∨ r ∈ a
 | [], T, r => by simp
 | x :: a, T, r => by
  rw [cY, uo a, vn gC]
  simp [or_assoc]
theorem rW : ∀ (a T : List gr), (a.foldl (ins gB) T).length ≤ T.length + a.length
 | [], T => by simp
 | x :: a, T => by
  have h1 := rW a (ins gB T x)
  have b := (Bx (beq := gB) T x).1
  simp only [cY, az]
  omega
theorem lR.congr {α : Type} {lt : α → α → Prop} {P : α → Prop} {l m s : List α} (h : lR lt P l s) (hm : ∀ x, x ∈ l ↔ x ∈ m) : lR lt P m s := ⟨h.1, fun x => by rw [h.2, hm]⟩
theorem DL {κ : Type} (a : List κ) : (tt a).map (·.1) = a := by simp [tt, db]
theorem yJ : ∀ (l : List gu) (n : Int), 0 ≤ n → n ≤ 4000000000000000000 → (∀ c ∈ l, c.Head.gG.size + c.Head.hX.size + c.gU.size + c.B.gG.size + c.B.hX.size + c.C.gG.size + c.C.hX.size + c.gY.size ≤ 1000000000) → n + l.length * 1000000020 ≤ 4000000000000000000 →
  ∃ r, lc l n = some r ∧ n + 20 * l.length ≤ r
 | [], n, _, _, _, _ => ⟨n, rfl, by simp⟩
 | c :: l, n, k, h1, a, g => by
  have h := a c (by simp)
  simp only [az] at g ⊢
  rw [lc]
  rw [iY (x := 20 + (c.Head.gG.size : Int)) (by omega) (by omega), iY (x := 20 + (c.Head.gG.size : Int) + (c.Head.hX.size : Int)) (by omega) (by omega), iY (x := 20 + (c.Head.gG.size : Int) + (c.Head.hX.size : Int) + (c.gU.size : Int)) (by omega) (by omega), iY (x := 20 + (c.Head.gG.size : Int) + (c.Head.hX.size : Int) + (c.gU.size : Int) + (c.B.gG.size : Int)) (by omega) (by omega), iY (x := 20 + (c.Head.gG.size : Int) + (c.Head.hX.size : Int) + (c.gU.size : Int) + (c.B.gG.size : Int) + (c.B.hX.size : Int)) (by omega) (by omega), iY (x := 20 + (c.Head.gG.size : Int) + (c.Head.hX.size : Int) + (c.gU.size : Int) + (c.B.gG.size : Int) + (c.B.hX.size : Int) + (c.C.gG.size : Int)) (by omega) (by omega), iY (x := 20 + (c.Head.gG.size : Int) + (c.Head.hX.size : Int) + (c.gU.size : Int) + (c.B.gG.size : Int) + (c.B.hX.size : Int) + (c.C.gG.size : Int) + (c.C.hX.size : Int)) (by omega) (by omega), iY (x := 20 + (c.Head.gG.size : Int) + (c.Head.hX.size : Int) + (c.gU.size : Int) + (c.B.gG.size : Int) + (c.B.hX.size : Int) + (c.C.gG.size : Int) + (c.C.hX.size : Int) + (c.gY.size : Int)) (by omega) (by omega), iY (by omega) (by omega)]
  obtain ⟨r, b, j⟩ := yJ l (n + (20 + (c.Head.gG.size : Int) + (c.Head.hX.size : Int) + (c.gU.size : Int) + (c.B.gG.size : Int) + (c.B.hX.size : Int) + (c.C.gG.size : Int) + (c.C.hX.size : Int) + (c.gY.size : Int))) (by omega) (by omega) (fun d i => a d (by simp [i])) (by omega)
  exact ⟨r, b, by omega⟩
def tS (c : gu) : Nat := c.Head.gG.size + c.Head.hX.size + c.gU.size + c.B.gG.size + c.B.hX.size + c.C.gG.size + c.C.hX.size + c.gY.size
section
variable {κ γ : Type} {beq : κ → κ → Bool}
theorem kB (a : ∀ {x y}, beq x y = true ↔ x = y) {A B : List (κ × γ)} {k : κ} {x : γ} (b : ∀ p ∈ A, p.1 ≠ k) : gV beq (A ++ (k, x) :: B) k = some x := by
 unfold gV
 rw [List.find?_append]
 have : A.find? (fun p => beq k p.1) = none := List.find?_eq_none.2 (fun p hp h => b p hp (a.1 h).symm)
 rw [this]
 simp [a.2 (rfl : k = k)]
theorem nu (a : ∀ {x y}, beq x y = true ↔ x = y) {l : List (κ × γ)} {k : κ} (h : ∀ p ∈ l, p.1 ≠ k) : gV beq l k = none := by
 unfold gV
 rw [List.find?_eq_none.2 (fun p hp b => h p hp (a.1 b).symm)]
 rfl
theorem oE (a : ∀ {x y}, beq x y = true ↔ x = y) {A B : List (κ × γ)} {k : κ} {x y : γ} (b : ∀ p ∈ A, p.1 ≠ k) : iN beq (A ++ (k, x) :: B) k y = A ++ (k, y) :: B := by
 have h1 : (A ++ (k, x) :: B).findIdx? (fun p => beq k p.1) = some A.length := by
  rw [df, dM.2 (fun p hp => by
   cases h : beq k p.1 with
   | false => rfl
   | true => exact absurd (a.1 h).symm (b p hp))]
  simp [cv, a.2 (rfl : k = k)]
 rw [kk h1]
 simp
theorem qQ (a : ∀ {x y}, beq x y = true ↔ x = y) {l : List (κ × γ)} {k : κ} {y : γ} (h : ∀ p ∈ l, p.1 ≠ k) : iN beq l k y = l ++ [(k, y)] := by
 refine mW (dM.2 (fun p hp => ?_)) y
 cases b : beq k p.1 with
 | false => rfl
 | true => exact absurd (a.1 b).symm (h p hp)
theorem mz (k : κ) : ∀ (l : List (κ × γ)), (∀ p ∈ l, p.1 ≠ k) ∨ ∃ A x B, l = A ++ (k, x) :: B ∧ ∀ p ∈ A, p.1 ≠ k
 | [] => .inl (fun _ h => by cases h)
 | p :: l => by
  by_cases hp : p.1 = k
  ·exact .inr ⟨[], p.2, l, by rw [← hp]; rfl, fun _ h => by cases h⟩
  ·rcases mz k l with h | ⟨A, x, B, rfl, h⟩
   ·exact .inl (fun q a => by rcases ah.1 a with rfl | a; exact hp; exact h q a)
   ·exact .inr ⟨p :: A, x, B, rfl, fun q a => by rcases ah.1 a with rfl | a; exact hp; exact h q a⟩
theorem tP (a : ∀ {x y}, beq x y = true ↔ x = y) (A B : List (κ × γ)) (k : κ) : gV beq (A ++ B) k = (gV beq A k).or (gV beq B k) := by
 unfold gV
 rw [List.find?_append]
 cases A.find? (fun p => beq k p.1) <;> rfl
theorem sG (p : κ × γ) (l : List (κ × γ)) (k : κ) : gV beq (p :: l) k = if beq k p.1 = true then some p.2 else gV beq l k := by
 unfold gV
 rw [gd]
 cases beq k p.1 <;> simp
theorem uH (a : ∀ {x y}, beq x y = true ↔ x = y) (l : List (κ × γ)) (k k2 : κ) (y : γ) : gV beq (iN beq l k y) k2 = if beq k2 k = true then some y else gV beq l k2 := by
 rcases mz k l with h | ⟨A, x, B, rfl, h⟩
 ·rw [qQ a h, tP a, sG]
  by_cases hk : beq k2 k = true
  ·have := a.1 hk
   subst this
   rw [ak hk, ak hk, nu a h]; rfl
  ·rw [ai hk, ai hk]
   show (gV beq l k2).or none = _
   cases gV beq l k2 <;> rfl
 ·rw [oE a h, tP a, sG, tP a, sG]
  by_cases hk : beq k2 k = true
  ·have := a.1 hk
   subst this
   rw [ak hk, ak hk, nu a h]; rfl
  ·rw [ai hk, ai hk, ai hk]
end
abbrev kx := List (gr × List ByteArray)
def mm (T : kx) : List (gr × List (ByteArray × Bool)) := T.map fun p => (p.1, tt p.2)
def jS (T : kx) (r : gr) : List ByteArray := (gV gB T r).getD []
def FS (T : kx) : List gx := T.flatMap fun p => p.2.map fun w => (⟨p.1, w⟩ : gx)
def uM (T : kx) (r : gr) (w : ByteArray) : kx := iN gB T r (jS T r ++ [w])
theorem uG (A B : kx) : mm (A ++ B) = mm A ++ mm B := by simp [mm]
theorem qN {A : kx} {r : gr} (h : ∀ p ∈ A, p.1 ≠ r) : ∀ p ∈ mm A, p.1 ≠ r := by
 intro p hp
 simp only [mm, aK] at hp
 obtain ⟨q, a, rfl⟩ := hp
 exact h q a
theorem D1 (T : kx) (r : gr) : gV gB (mm T) r = (gV gB T r).map tt := by
 rcases mz r T with h | ⟨A, x, B, rfl, h⟩
 ·rw [nu gC h, nu gC (qN h)]; rfl
 ·rw [kB gC h, uG]
  exact kB gC (qN h)
theorem AM (T : kx) (r : gr) : (gV gB (mm T) r).getD [] = tt (jS T r) := by
 rw [D1, jS]; cases gV gB T r <;> rfl
theorem w8 (T : kx) (r : gr) (w : ByteArray) : (FS (uM T r w)).Perm (FS T ++ [(⟨r, w⟩ : gx)]) := by
 unfold uM jS
 rcases mz r T with h | ⟨A, x, B, rfl, h⟩
 ·rw [qQ gC h, nu gC h]
  simp [FS]
 ·rw [oE gC h, kB gC h]
  simp only [FS, eJ, cj, dH, aO, aM, eO, ar]
  refine aV _ (aV _ ?_)
  exact cC
theorem Cv {T : kx} (hk : (T.map (·.1)).Nodup) (r : gr) (w : ByteArray) : ((uM T r w).map (·.1)).Nodup := by
 unfold uM
 rcases mz r T with h | ⟨A, x, B, rfl, h⟩
 ·rw [qQ gC h]
  simp only [aO, aM, eO]
  refine aD.2 ⟨hk, by simp, fun a d b c e => ?_⟩
  simp at c; subst c; subst e
  obtain ⟨p, hp, e⟩ := aK.1 d
  exact h p hp e
 ·rw [oE gC h]
  simpa using hk
theorem pL {T : kx} (hk : (T.map (·.1)).Nodup) (f : gx) : f ∈ FS T ↔ f.gU ∈ jS T f.gr := by
 simp only [FS, dL, aK]
 constructor
 ·rintro ⟨p, hp, w, hw, rfl⟩
  obtain ⟨A, B, rfl⟩ := du hp
  have a : ∀ q ∈ A, q.1 ≠ p.1 := fun q c e => by
   rw [aO, aM] at hk
   exact (aD.1 hk).2.2 q.1 (aK.2 ⟨q, c, rfl⟩) p.1 (by simp) e
  rw [jS, show p = (p.1, p.2) from rfl, kB gC a]
  exact hw
 ·intro h
  unfold jS at h
  rcases mz f.gr T with b | ⟨A, x, B, rfl, a⟩
  ·rw [nu gC b] at h; cases h
  ·rw [kB gC a] at h
   exact ⟨(f.gr, x), by simp, f.gU, h, rfl⟩
theorem s8 {T : kx} (h : (FS T).Nodup) (r : gr) : (jS T r).Nodup := by
 unfold jS
 rcases mz r T with b | ⟨A, x, B, rfl, a⟩
 ·rw [nu gC b]; simp
 ·rw [kB gC a]
  simp only [FS, eJ, cj] at h
  have h1 := (aD.1 (aD.1 h).2.1).1
  simp only [List.Nodup, ch] at h1
  exact h1.imp (fun h e => h (by rw [e]))
inductive ke (C : List gu) : gx → Prop
 | mem (c) : c ∈ C → c.Kind = 1 → ke C ⟨c.Head, c.gU⟩
 | inc (c w) : c ∈ C → c.Kind = 2 → ke C ⟨c.B, w⟩ → ke C ⟨c.Head, w⟩
 | uT (c b w) : c ∈ C → c.Kind = 3 → ke C ⟨c.B, b⟩ → ke C ⟨⟨b, c.gY⟩, w⟩ → ke C ⟨c.Head, w⟩
 | both (c w) : c ∈ C → c.Kind = 4 → ke C ⟨c.B, w⟩ → ke C ⟨c.C, w⟩ → ke C ⟨c.Head, w⟩
theorem ke.mono {C C' : List gu} (h : ∀ c ∈ C, c ∈ C') {f : gx} (i : ke C f) : ke C' f := by
 induction i with
 | mem c a hk => exact .mem c (h c a) hk
 | inc c w a hk _ ih => exact .inc c w (h c a) hk ih
 | uT c b w a hk _ _ d g => exact .uT c b w (h c a) hk d g
 | both c w a hk _ _ d g => exact .both c w (h c a) hk d g
def uV (C : List gu) : List gx := (C.map (·.Head)).flatMap fun r => (C.map (·.gU)).map fun w => (⟨r, w⟩ : gx)
theorem rK (C : List gu) : (uV C).length = C.length * C.length := by
 unfold uV
 have : ∀ l : List gr, (l.flatMap fun r => (C.map (·.gU)).map fun w => (⟨r, w⟩ : gx)).length = l.length * C.length := fun l => by
  induction l with
  | nil => simp
  | cons x l ih => simp only [cj, an, ih, bG, az, aW]; omega
 rw [this, bG]
theorem D6 {C : List gu} {r : gr} {w : ByteArray} : (⟨r, w⟩ : gx) ∈ uV C ↔ (∃ c ∈ C, c.Head = r) ∧ ∃ c ∈ C, c.gU = w := by
 unfold uV
 simp only [dL, aK, gx.mk.injEq]
 constructor
 ·rintro ⟨g, ⟨c, d, rfl⟩, h, ⟨b, a, rfl⟩, rfl, rfl⟩; exact ⟨⟨c, d, rfl⟩, b, a, rfl⟩
 ·rintro ⟨⟨c, d, rfl⟩, b, a, rfl⟩; exact ⟨_, ⟨c, d, rfl⟩, _, ⟨b, a, rfl⟩, rfl, rfl⟩
theorem ke.Ak {C : List gu} {f : gx} (h : ke C f) : ∃ c ∈ C, c.Kind = 1 ∧ c.gU = f.gU := by
 induction h with
 | mem c g hk => exact ⟨c, g, hk, rfl⟩
 | inc c w g hk _ ih => exact ih
 | uT c b w g hk _ _ a d => exact d
 | both c w g hk _ _ a d => exact a
theorem ke.head {C : List gu} {f : gx} (h : ke C f) : ∃ c ∈ C, c.Head = f.gr := by
 cases h with
 | mem c a hk => exact ⟨c, a, rfl⟩
 | inc c w a hk _ => exact ⟨c, a, rfl⟩
 | uT c b w a hk _ _ => exact ⟨c, a, rfl⟩
 | both c w a hk _ _ => exact ⟨c, a, rfl⟩
theorem ke.uV {C : List gu} {f : gx} (h : ke C f) : f ∈ uV C := by
 obtain ⟨c, a, _, hw⟩ := h.Ak
 exact D6.2 ⟨h.head, c, a, hw⟩
structure lb (C : List gu) (T : kx) (td : List gx) (n : Int) : Prop where
 keys : (T.map (·.1)).Nodup
 nd : (FS T).Nodup
 Ao : td.Nodup
 sub : ∀ f ∈ td, f ∈ FS T
 num : n = (FS T).length
 pE : ∀ f ∈ FS T, ke C f
theorem lb.len {C : List gu} {T : kx} {b : List gx} {n : Int} (h : lb C T b n) : (FS T).length ≤ C.length * C.length := by
 rw [← rK]; exact iK h.nd (fun f a => (h.pE f a).uV)
theorem lb.EO {C : List gu} {T : kx} {a : List gx} {n : Int} (h : lb C T a n) : a.length ≤ (FS T).length := iK h.Ao h.sub
theorem lb.mono {C C' : List gu} {T : kx} {a : List gx} {n : Int} (h : lb C T a n) (b : ∀ c ∈ C, c ∈ C') : lb C' T a n := ⟨h.keys, h.nd, h.Ao, h.sub, h.num, fun f d => (h.pE f d).mono b⟩
structure rf (T : kx) (td : List gx) (T' : kx) (td' : List gx) : Prop where
 iG : ∀ f ∈ FS T, f ∈ FS T'
 todo : ∀ f ∈ td, f ∈ td'
 new : ∀ f ∈ FS T', f ∈ FS T ∨ f ∈ td'
 fresh : ∀ f ∈ td', f ∈ td ∨ f ∉ FS T
theorem rf.refl (T : kx) (a : List gx) : rf T a T a := ⟨fun _ h => h, fun _ h => h, fun _ h => .inl h, fun _ h => .inl h⟩
theorem rf.trans {T T' T'' : kx} {g d a : List gx} (h : rf T g T' d) (k : rf T' d T'' a) : rf T g T'' a :=
 ⟨fun f b => k.iG f (h.iG f b), fun f b => k.todo f (h.todo f b), fun f b => by
  rcases k.new f b with h1 | h1
  ·rcases h.new f h1 with c | c
   ·exact .inl c
   ·exact .inr (k.todo f c)
  ·exact .inr h1, fun f b => by
  rcases k.fresh f b with h1 | h1
  ·exact h.fresh f h1
  ·exact .inr (fun c => h1 (h.iG f c))⟩
theorem xm {α : Type} (p : α → Bool) : ∀ l : List α, (l.filter p).length + (l.filter fun x => !p x).length = l.length
 | [] => rfl
 | x :: l => by
  have := xm p l
  cases h : p x <;> simp [h] <;> omega
theorem lb.vJ {C C' : List gu} {T T' : kx} {d c : List gx} {n m : Int} (g' : lb C' T' c m) (g : lb C T d n) (x : rf T d T' c) : c.length + (FS T).length ≤ d.length + (FS T').length := by
 classical
 have h1 : (c.filter fun f => decide (f ∈ FS T)).length ≤ d.length := iK (g'.Ao.filter _) (fun f i => by
  have := cr.1 i
  rcases x.fresh f this.1 with h | h
  ·exact h
  ·exact absurd (by simpa using this.2) h)
 have j : (FS T ++ c.filter fun f => !decide (f ∈ FS T)).length ≤ (FS T').length := iK (aD.2 ⟨g.nd, g'.Ao.filter _, fun a k b l e => by
  subst e
  have := (cr.1 l).2
  simp [k] at this⟩) (fun f i => by
  rcases aG.1 i with h | h
  ·exact x.iG f h
  ·exact g'.sub f (cr.1 h).1)
 have o : (c.filter fun f => decide (f ∈ FS T)).length + (c.filter fun f => !decide (f ∈ FS T)).length = c.length := by
  exact xm (fun f => decide (f ∈ FS T)) c
 rw [an] at j
 omega
def sZ (C : List gu) (T : kx) (d : List gx) (b : Option (List (gr × List (ByteArray × Bool)) × List gx × Int)) (Q : kx → Prop) : Prop :=
 ∃ T' a c, b = some (mm T', a, c) ∧ lb C T' a c ∧ rf T d T' a ∧ Q T'
theorem sZ.mono {C : List gu} {T : kx} {d : List gx} {a : Option (List (gr × List (ByteArray × Bool)) × List gx × Int)} {Q Q' : kx → Prop} (h : sZ C T d a Q) (j : ∀ T', (∀ f ∈ FS T, f ∈ FS T') → Q T' → Q' T') : sZ C T d a Q' := by
 obtain ⟨T', b, k, h1, g, c, i⟩ := h
 exact ⟨T', b, k, h1, g, c, j T' c.iG i⟩
def lQ (C : List gu) : Prop := C.length ≤ 1000000
theorem lQ.sq {C : List gu} (h : lQ C) : C.length * C.length ≤ 1000000000000 := dG h h
theorem nJ {T : kx} (hk : (T.map (·.1)).Nodup) (r : gr) (w : ByteArray) : iP gX ((gV gB (mm T) r).getD []) w false = true ↔ (⟨r, w⟩ : gx) ∈ FS T := by
 rw [AM, Cx, kK iy, pL hk]
theorem tH {C : List gu} (y : lQ C) {T : kx} {j : List gx} {n : Int} (h : lb C T j n) (cs : List gu) (L : List (gr × List gu)) (ws : List (ByteArray × List gu)) {r : gr} {w : ByteArray} (E : ke C ⟨r, w⟩) :
  sZ C T j (jD (mm T) cs L ws j n r w) (fun T' => (⟨r, w⟩ : gx) ∈ FS T') := by
 unfold jD
 have I := y.sq
 have M := h.len
 have J := h.EO
 by_cases d : (⟨r, w⟩ : gx) ∈ FS T
 ·rw [ak ((nJ h.keys r w).2 d)]
  exact ⟨T, j, n, rfl, h, rf.refl _ _, d⟩
 ·rw [ai (fun t => d ((nJ h.keys r w).1 t))]
  have G : lb C (uM T r w) (j ++ [⟨r, w⟩]) (n + 1) := by
   have hp := w8 T r w
   refine ⟨Cv h.keys r w, (hp.nodup_iff).2 (aD.2 ⟨h.nd, by simp, fun a s b m e => ?_⟩), aD.2 ⟨h.Ao, by simp, fun a s b m e => ?_⟩, fun f c => hp.mem_iff.2 ?_, ?_, fun f c => ?_⟩
   ·simp at m; subst m; subst e; exact d s
   ·simp at m; subst m; subst e; exact d (h.sub _ s)
   ·rcases aG.1 c with c | c
    ·exact aR _ (h.sub f c)
    ·exact aZ _ c
   ·rw [hp.length_eq, h.num]; simp
   ·rcases aG.1 (hp.mem_iff.1 c) with c | c
    ·exact h.pE f c
    ·simp at c; subst c; exact E
  have u : ((if (gV gB (mm T) r).isNone = true then ((wG gB (mm T) r []).bind fun l => some l) else some (mm T)) : Option _).bind (fun l => (wD gB gX l r w true)) = some (mm (uM T r w)) := by
   unfold uM jS
   rcases mz r T with i | ⟨A, x, B, rfl, q⟩
   ·have p := nu gC (qN i)
    rw [p, nu gC i, qQ gC i, uG]
    simp only [Option.isNone_none, aY, wG, p, aa]
    rw [qQ gC (qN i)]
    unfold wD
    rw [kB gC (qN i)]
    simp only [bA]
    rw [oE gC (qN i)]
    rfl
   ·have k := qN q
    have v : gV gB (mm (A ++ (r, x) :: B)) r = some (tt x) := by rw [uG]; exact kB gC k
    rw [v, kB gC q, oE gC q]
    simp only [Option.isNone_some, aq, bj, aa, wD, v, bA, dH]
    have K : w ∉ x := fun hw => d (by
     rw [pL h.keys, jS, kB gC q]; exact hw)
    rw [DF iy]
    rw [show ins gX x w = x ++ [w] from by unfold ins; rw [ai (fun t => K ((kK iy x w).1 t))]]
    rw [uG, show mm ((r, x) :: B) = (r, tt x) :: mm B from rfl, oE gC k, uG]
    rfl
  refine ⟨uM T r w, j ++ [⟨r, w⟩], n + 1, ?_, G, ⟨fun f c => (w8 T r w).mem_iff.2 (aR _ c), fun f c => aR _ c, fun f c => ?_, fun f c => ?_⟩, (w8 T r w).mem_iff.2 (by simp)⟩
  ·have g := u
   generalize ((if (gV gB (mm T) r).isNone = true then ((wG gB (mm T) r []).bind fun l => some l) else some (mm T)) : Option _) = o at g
   cases o with
   | none => cases g
   | some l =>
    simp only [aa] at g ⊢
    rw [g]
    simp only [aa]
    rw [jq (by simp; omega) (by simp; omega)]
    simp only [aa]
    rw [iY (by rw [h.num]; omega) (by rw [h.num]; omega)]
  ·rcases aG.1 ((w8 T r w).mem_iff.1 c) with h1 | h1
   ·exact .inl h1
   ·exact .inr (aZ _ h1)
  ·rcases aG.1 c with h1 | h1
   ·exact .inl h1
   ·simp at h1; subst h1; exact .inr d
theorem oX (l : List ByteArray) (x : ByteArray) : x ∈ iJ l ↔ x ∈ l := by unfold iJ; simp
def mx (C : List gu) : Prop := ∀ c ∈ C, hZ c = true
theorem BN {c : gu} (h : hZ c = true) (hk : c.Kind = 1) : c.gU.size ≤ 16 := by
 rcases jA h with h | h | h | h
 ·exact (jP h.2.1).2
 ·exact absurd (hk.symm.trans h.1) (by decide)
 ·exact absurd (hk.symm.trans h.1) (by decide)
 ·exact absurd (hk.symm.trans h.1) (by decide)
theorem CC {T : kx} (r : gr) (hk : (T.map (·.1)).Nodup) : (jS T r).length ≤ (FS T).length := by
 unfold jS
 rcases mz r T with b | ⟨A, x, B, rfl, a⟩
 ·rw [nu gC b]; simp
 ·rw [kB gC a]
  simp only [FS, eJ, cj, an, bG, dH]
  omega
theorem ua {C : List gu} (a : lQ C) (b : mx C) {T : kx} {i : List gx} {n : Int} (h : lb C T i n) (cs : List gu) (j : List (gr × List gu)) (ws : List (ByteArray × List gu)) (q : List gx) (z : Int) (r : gr) :
  iT (mm T) cs j ws q z r = some (iJ (jS T r)) := by
 unfold iT kc
 rw [AM]
 simp only [aa, ui]
 have m := CC r h.keys
 have k := h.len
 have l := a.sq
 unfold wX
 rw [DL, ak]
 refine ⟨s8 h.nd r, fun p hp => ?_, by rw [Cp]; omega⟩
 simp only [tt, aK] at hp
 obtain ⟨w, hw, rfl⟩ := hp
 have g := h.pE ⟨r, w⟩ ((pL h.keys ⟨r, w⟩).2 hw)
 obtain ⟨c, d, hk, e⟩ := g.Ak
 have := BN (b c d) hk
 simp only at e ⊢
 rw [← e]
 unfold maxLen
 omega
theorem BR {C : List gu} (g : lQ C) (cs : List gu) (d : List (gr × List gu)) (ws : List (ByteArray × List gu)) (head : gr) : ∀ (l : List ByteArray) {T : kx} {a : List gx} {n : Int}, lb C T a n → (∀ w ∈ l, ke C ⟨head, w⟩) →
  sZ C T a (kV cs d ws head l (mm T) a n) (fun T' => ∀ w ∈ l, (⟨head, w⟩ : gx) ∈ FS T')
 | [], T, a, n, h, _ => ⟨T, a, n, rfl, h, rf.refl _ _, fun _ hw => by cases hw⟩
 | w :: l, T, a, n, h, i => by
  rw [kV]
  obtain ⟨T1, q, r, j, g1, x1, o⟩ := tH g h cs d ws (i w (by simp))
  rw [j]
  simp only [aa]
  obtain ⟨T2, c, m, k, g2, x2, p⟩ := BR g cs d ws head l g1 (fun w hw => i w (by simp [hw]))
  refine ⟨T2, c, m, k, g2, x1.trans x2, fun v b => ?_⟩
  rcases ah.1 b with rfl | b
  ·exact x2.iG _ o
  ·exact p v b
theorem ED {C : List gu} (b : lQ C) (d : mx C) {T : kx} {a : List gx} {n : Int} (h : lb C T a n) (cs : List gu) (c : List (gr × List gu)) (ws : List (ByteArray × List gu)) (r head : gr) (g : ∀ w, (⟨r, w⟩ : gx) ∈ FS T → ke C ⟨head, w⟩) :
  sZ C T a (nq (mm T) cs c ws a n r head) (fun T' => ∀ w, (⟨r, w⟩ : gx) ∈ FS T → (⟨head, w⟩ : gx) ∈ FS T') := by
 unfold nq
 rw [ua b d h]
 simp only [aa]
 refine (BR b cs c ws head _ h (fun w hw => g w ((pL h.keys ⟨r, w⟩).2 ((oX _ _).1 hw)))).mono (fun T' _ i w hw => i w ((oX _ _).2 ((pL h.keys ⟨r, w⟩).1 hw)))
def vh (c : gu) (f : gx) (T T' : kx) : Prop :=
 (c.Kind = 2 → f.gr = c.B → (⟨c.Head, f.gU⟩ : gx) ∈ FS T') ∧
 (c.Kind = 3 → f.gr = c.B → ∀ w, (⟨⟨f.gU, c.gY⟩, w⟩ : gx) ∈ FS T → (⟨c.Head, w⟩ : gx) ∈ FS T') ∧
 (c.Kind = 4 → (⟨c.B, f.gU⟩ : gx) ∈ FS T → (⟨c.C, f.gU⟩ : gx) ∈ FS T → (⟨c.Head, f.gU⟩ : gx) ∈ FS T')
theorem vh.mono {c : gu} {f : gx} {T T' T0 T1 : kx} (h : vh c f T T') (g : ∀ f ∈ FS T0, f ∈ FS T) (h1 : ∀ f ∈ FS T', f ∈ FS T1) : vh c f T0 T1 :=
 ⟨fun a b => h1 _ (h.1 a b), fun a b w hw => h1 _ (h.2.1 a b w (g _ hw)), fun a b d => h1 _ (h.2.2 a (g _ b) (g _ d))⟩
theorem DB (x : Option (List (gr × List (ByteArray × Bool)) × List gx × Int)) : (x.bind fun r => some (r.1, r.2.1, r.2.2)) = x := by cases x <;> rfl
theorem BT {C : List gu} (o : lQ C) (t : mx C) {T : kx} {i : List gx} {n : Int} (h : lb C T i n) (cs : List gu) (l : List (gr × List gu)) (ws : List (ByteArray × List gu)) {c : gu} (p : c ∈ C) {f : gx} (r : f ∈ FS T) (s : f.gr ∈ iE c) :
  sZ C T i (lV (mm T) cs l ws i n c f) (vh c f T) := by
 unfold lV
 simp only [DB, sm]
 by_cases a : c.Kind = 2
 ·have m : f.gr = c.B := by simpa [iE, a] using s
  rw [ak (by simp [a])]
  have q : ke C ⟨c.Head, f.gU⟩ := .inc c f.gU p a (by rw [← m]; exact h.pE f r)
  refine (tH o h cs l ws q).mono (fun T' _ g => ⟨fun _ _ => g, fun k => absurd (a.symm.trans k) (by decide), fun k => absurd (a.symm.trans k) (by decide)⟩)
 rw [ai (by simp [a])]
 by_cases b : c.Kind = 3
 ·have m : f.gr = c.B := by simpa [iE, b] using s
  rw [ak (by simp [b])]
  refine (ED o t h cs l ws ⟨f.gU, c.gY⟩ c.Head (fun w hw => .uT c f.gU w p b (by rw [← m]; exact h.pE f r) (h.pE _ hw))).mono (fun T' _ g => ⟨fun k => absurd k a, fun _ _ w hw => g w hw, fun k => absurd (b.symm.trans k) (by decide)⟩)
 rw [ai (by simp [b])]
 by_cases j : c.Kind = 4
 ·rw [ak (by simp [j])]
  simp only [aa]
  by_cases d : (⟨c.B, f.gU⟩ : gx) ∈ FS T ∧ (⟨c.C, f.gU⟩ : gx) ∈ FS T
  ·rw [ak (by rw [aC, nJ h.keys, nJ h.keys]; exact d)]
   have q : ke C ⟨c.Head, f.gU⟩ := .both c f.gU p j (h.pE _ d.1) (h.pE _ d.2)
   exact (tH o h cs l ws q).mono (fun T' _ g => ⟨fun k => absurd k a, fun k => absurd k b, fun _ _ _ => g⟩)
  ·rw [ai (by rw [aC, nJ h.keys, nJ h.keys]; exact d)]
   exact ⟨T, i, n, rfl, h, rf.refl _ _, fun k => absurd k a, fun k => absurd k b, fun _ x y => absurd ⟨x, y⟩ d⟩
 ·rw [ai (by simp [j])]
  exact ⟨T, i, n, rfl, h, rf.refl _ _, fun k => absurd k a, fun k => absurd k b, fun k => absurd k j⟩
theorem zg {C : List gu} (i : lQ C) (j : mx C) (cs : List gu) (g : List (gr × List gu)) (ws : List (ByteArray × List gu)) {c : gu} (k : c ∈ C) (m : c.B ∈ iE c) : ∀ (l : List ByteArray) {T : kx} {a : List gx} {n : Int}, lb C T a n → (∀ w ∈ l, (⟨c.B, w⟩ : gx) ∈ FS T) →
  sZ C T a (ku cs g ws c l (mm T) a n) (fun T' => ∀ w ∈ l, vh c ⟨c.B, w⟩ T T')
 | [], T, a, n, h, _ => ⟨T, a, n, rfl, h, rf.refl _ _, fun _ hw => by cases hw⟩
 | w :: l, T, a, n, h, hm => by
  rw [ku]
  obtain ⟨T1, t, u, o, g1, x1, r⟩ := BT i j h cs g ws k (f := ⟨c.B, w⟩) (hm w (by simp)) m
  rw [o]
  simp only [aa]
  obtain ⟨T2, d, q, p, g2, x2, s⟩ := zg i j cs g ws k m l g1 (fun w hw => x1.iG _ (hm w (by simp [hw])))
  refine ⟨T2, d, q, p, g2, x1.trans x2, fun v b => ?_⟩
  rcases ah.1 b with rfl | b
  ·exact r.mono (fun _ h => h) x2.iG
  ·exact (s v b).mono x1.iG (fun _ h => h)
def vH (c : gu) (T : kx) (a : List gx) : Prop :=
 (c.Kind = 1 → (⟨c.Head, c.gU⟩ : gx) ∈ FS T) ∧
 (c.Kind = 2 → ∀ w, (⟨c.B, w⟩ : gx) ∈ FS T → (⟨c.B, w⟩ : gx) ∉ a → (⟨c.Head, w⟩ : gx) ∈ FS T) ∧
 (c.Kind = 3 → ∀ b w, (⟨c.B, b⟩ : gx) ∈ FS T → (⟨c.B, b⟩ : gx) ∉ a → (⟨⟨b, c.gY⟩, w⟩ : gx) ∈ FS T → (⟨⟨b, c.gY⟩, w⟩ : gx) ∉ a → (⟨c.Head, w⟩ : gx) ∈ FS T) ∧
 (c.Kind = 4 → ∀ w, (⟨c.B, w⟩ : gx) ∈ FS T → (⟨c.B, w⟩ : gx) ∉ a → (⟨c.C, w⟩ : gx) ∈ FS T → (⟨c.C, w⟩ : gx) ∉ a → (⟨c.Head, w⟩ : gx) ∈ FS T)
theorem vH.ext {c : gu} {T T' : kx} {i d : List gx} (h : vH c T i) (x : rf T i T' d) : vH c T' d := by
 have iG : ∀ f, f ∈ FS T' → f ∉ d → f ∈ FS T ∧ f ∉ i := fun f m j => by
  rcases x.new f m with h1 | h1
  ·exact ⟨h1, fun l => j (x.todo f l)⟩
  ·exact absurd h1 j
 refine ⟨fun k => x.iG _ (h.1 k), fun k w a b => ?_, fun k b w g a2 a3 a4 => ?_, fun k w g a2 a3 a4 => ?_⟩
 ·exact x.iG _ (h.2.1 k w (iG _ a b).1 (iG _ a b).2)
 ·exact x.iG _ (h.2.2.1 k b w (iG _ g a2).1 (iG _ g a2).2 (iG _ a3 a4).1 (iG _ a3 a4).2)
 ·exact x.iG _ (h.2.2.2 k w (iG _ g a2).1 (iG _ g a2).2 (iG _ a3 a4).1 (iG _ a3 a4).2)
theorem Dg {C : List gu} (l : lQ C) (r : mx C) {T : kx} {o : List gx} {n : Int} (h : lb C T o n) (cs : List gu) (p : List (gr × List gu)) (ws : List (ByteArray × List gu)) {c : gu} (s : c ∈ C) :
  ∃ T' d i, mE (mm T) cs p ws o n c = some (mm T', d, i) ∧ lb C T' d i ∧ rf T o T' d ∧ vH c T' d := by
 unfold mE
 simp only [DB]
 by_cases h1 : c.Kind = 1
 ·rw [ak (by simp [h1])]
  obtain ⟨T', d, i, e, g, x, q⟩ := tH l h cs p ws (ke.mem c s h1)
  exact ⟨T', d, i, e, g, x, fun _ => q, fun k => absurd (h1.symm.trans k) (by decide), fun k => absurd (h1.symm.trans k) (by decide), fun k => absurd (h1.symm.trans k) (by decide)⟩
 ·rw [ai (by simp [h1]), ua l r h]
  simp only [aa]
  have v : c.B ∈ iE c := by unfold iE; rw [ai h1]; split <;> simp
  obtain ⟨T', d, i, e, g, x, q⟩ := zg l r cs p ws s v (iJ (jS T c.B)) h (fun w hw => (pL h.keys ⟨c.B, w⟩).2 ((oX _ _).1 hw))
  have iG : ∀ f, f ∈ FS T' → f ∉ d → f ∈ FS T := fun f t u => by
   rcases x.new f t with h1 | h1
   ·exact h1
   ·exact absurd h1 u
  have m : ∀ w, (⟨c.B, w⟩ : gx) ∈ FS T → vh c ⟨c.B, w⟩ T T' := fun w hw => q w ((oX _ _).2 ((pL h.keys ⟨c.B, w⟩).1 hw))
  refine ⟨T', d, i, e, g, x, fun k => absurd k h1, fun k w a b => ?_, fun k b w j a2 a3 a4 => ?_, fun k w j a2 a3 a4 => ?_⟩
  ·exact (m w (iG _ a b)).1 k rfl
  ·exact (m b (iG _ j a2)).2.1 k rfl w (iG _ a3 a4)
  ·exact (m w (iG _ j a2)).2.2 k (iG _ j a2) (iG _ a3 a4)
structure vc (C : List gu) (us : List (gr × List gu)) (ws : List (ByteArray × List gu)) : Prop where
 CQ : ∀ r c, c ∈ (gV gB us r).getD [] ↔ c ∈ C ∧ r ∈ iE c
 word : ∀ w c, c ∈ (gV gX ws w).getD [] ↔ c ∈ C ∧ c.Kind = 3 ∧ c.gY = w
 Ez : ∀ r, ((gV gB us r).getD []).length ≤ 2 * C.length
 EI : ∀ w, ((gV gX ws w).getD []).length ≤ C.length
theorem xN {C : List gu} (i : lQ C) (j : mx C) (cs : List gu) (g : List (gr × List gu)) (ws : List (ByteArray × List gu)) {f : gx} : ∀ (l : List gu) {T : kx} {a : List gx} {n : Int}, lb C T a n → f ∈ FS T → (∀ c ∈ l, c ∈ C ∧ f.gr ∈ iE c) →
  sZ C T a (kl cs g ws f l (mm T) a n) (fun T' => ∀ c ∈ l, vh c f T T')
 | [], T, a, n, h, _, _ => ⟨T, a, n, rfl, h, rf.refl _ _, fun _ hw => by cases hw⟩
 | c :: l, T, a, n, h, k, hm => by
  rw [kl]
  obtain ⟨T1, t, u, m, g1, x1, r⟩ := BT i j h cs g ws (hm c (by simp)).1 k (hm c (by simp)).2
  rw [m]
  simp only [aa]
  obtain ⟨T2, d, q, o, g2, x2, s⟩ := xN i j cs g ws l g1 (x1.iG _ k) (fun c p => hm c (by simp [p]))
  refine ⟨T2, d, q, o, g2, x1.trans x2, fun v b => ?_⟩
  rcases ah.1 b with rfl | b
  ·exact r.mono (fun _ h => h) x2.iG
  ·exact (s v b).mono x1.iG (fun _ h => h)
theorem uO {C : List gu} (m : lQ C) (t : mx C) (cs : List gu) (j : List (gr × List gu)) (ws : List (ByteArray × List gu)) {f : gx} : ∀ (l : List gu) {T : kx} {g : List gx} {n : Int}, lb C T g n → f ∈ FS T → (∀ c ∈ l, c ∈ C ∧ c.Kind = 3 ∧ c.gY = f.gr.hX) →
  sZ C T g (jG f cs j ws l (mm T) g n) (fun T' => ∀ c ∈ l, (⟨c.B, f.gr.gG⟩ : gx) ∈ FS T → (⟨c.Head, f.gU⟩ : gx) ∈ FS T')
 | [], T, g, n, h, _, _ => ⟨T, g, n, rfl, h, rf.refl _ _, fun _ hw => by cases hw⟩
 | c :: l, T, g, n, h, p, hm => by
  rw [jG]
  have hk := hm c (by simp)
  by_cases i : (⟨c.B, f.gr.gG⟩ : gx) ∈ FS T
  ·rw [ak ((nJ h.keys _ _).2 i)]
   have q : f = ⟨⟨f.gr.gG, c.gY⟩, f.gU⟩ := by rw [hk.2.2]
   have w : ke C ⟨c.Head, f.gU⟩ := .uT c f.gr.gG f.gU hk.1 hk.2.1 (h.pE _ i) (by rw [← q]; exact h.pE f p)
   obtain ⟨T1, A, E, u, g1, x1, y⟩ := tH m h cs j ws w
   rw [u]
   simp only [aa]
   obtain ⟨T2, d, r, k, g2, x2, s⟩ := uO m t cs j ws l g1 (x1.iG _ p) (fun c o => hm c (by simp [o]))
   refine ⟨T2, d, r, k, g2, x1.trans x2, fun v b a => ?_⟩
   rcases ah.1 b with rfl | b
   ·exact x2.iG _ y
   ·exact s v b (x1.iG _ a)
  ·rw [ai (fun x => i ((nJ h.keys _ _).1 x))]
   obtain ⟨T2, d, r, k, g2, x2, s⟩ := uO m t cs j ws l h p (fun c o => hm c (by simp [o]))
   refine ⟨T2, d, r, k, g2, x2, fun v b a => ?_⟩
   rcases ah.1 b with rfl | b
   ·exact absurd a i
   ·exact s v b a
theorem xY {C : List gu} (G : lQ C) (I : mx C) {cs : List gu} {A : List (gr × List gu)} {ws : List (ByteArray × List gu)} (t : vc C A ws) : ∀ (m : Nat) {T : kx} {l : List gx} {n : Int}, lb C T l n → (∀ c ∈ C, vH c T l) → C.length * C.length + l.length < m + (FS T).length →
  ∃ T' L, ji cs A ws m (mm T) l n = some (mm T', [], L) ∧ lb C T' [] L ∧ (∀ c ∈ C, vH c T' []) ∧ (∀ f ∈ FS T, f ∈ FS T')
 | 0, T, l, n, h, _, hm => by have := h.len; omega
 | m + 1, T, [], n, h, p, hm => by
  rw [ji]
  exact ⟨T, n, rfl, h, p, fun _ h => h⟩
 | m + 1, T, f :: l, n, h, p, hm => by
  rw [ji]
  rw [ak (by simp)]
  have K : f ∈ FS T := h.sub f (by simp)
  have R := (bO.1 h.Ao)
  simp only [kd, Int.le_refl, aY, Int.toNat_zero, dX, aa]
  rw [show nS (decide ((0 : Nat) ≤ 1) && decide ((1 : Int) ≤ ((f :: l).length : Int))) = some () by simp [nS]; omega]
  simp only [aa, show Int.toNat 1 = 1 from rfl, List.drop_one, List.tail_cons]
  have J : lb C T l n := ⟨h.keys, h.nd, R.2, fun g v => h.sub g (by simp [v]), h.num, h.pE⟩
  obtain ⟨T1, a6, n1, O, g1, x1, Z⟩ := xN G I cs A ws ((gV gB A f.gr).getD []) J K (fun c i => (t.CQ _ c).1 i)
  rw [O]
  simp only [aa]
  obtain ⟨T2, q, n2, P, g2, x2, q2⟩ := uO G I cs A ws ((gV gX ws f.gr.hX).getD []) g1 (x1.iG _ K) (fun c i => (t.word _ c).1 i)
  rw [P]
  simp only [aa]
  have x := x1.trans x2
  have iG : ∀ g, g ∈ FS T2 → g ∉ q → g ∈ FS T ∧ (g = f ∨ g ∉ f :: l) := fun g v y => by
   rcases x.new g v with h1 | h1
   ·refine ⟨h1, ?_⟩
    by_cases he : g = f
    ·exact .inl he
    ·exact .inr (fun s => by
      rcases ah.1 s with s | s
      ·exact he s
      ·exact y (x.todo g s))
   ·exact absurd h1 y
  have d1 : ∀ c ∈ C, f.gr ∈ iE c → vh c f T T2 := fun c i U => (Z c ((t.CQ _ c).2 ⟨i, U⟩)).mono (fun _ h => h) x2.iG
  have u : ∀ c ∈ C, vH c T2 q := fun c i => by
   have k := p c i
   refine ⟨fun hk => x.iG _ (k.1 hk), fun hk w a b => ?_, fun hk b w E a2 a3 a4 => ?_, fun hk w E a2 a3 a4 => ?_⟩
   ·obtain ⟨o, d⟩ := iG _ a b
    rcases d with d | d
    ·subst d; exact (d1 c i (by simp [iE, hk])).1 hk rfl
    ·exact x.iG _ (k.2.1 hk w o d)
   ·obtain ⟨o, d⟩ := iG _ E a2
    obtain ⟨r, j⟩ := iG _ a3 a4
    rcases d with d | d
    ·subst d; exact (d1 c i (by simp [iE, hk])).2.1 hk rfl w r
    ·rcases j with j | j
     ·subst j
      exact q2 c ((t.word _ c).2 ⟨i, hk, rfl⟩) (x1.iG _ o)
     ·exact x.iG _ (k.2.2.1 hk b w o d r j)
   ·obtain ⟨o, d⟩ := iG _ E a2
    obtain ⟨r, j⟩ := iG _ a3 a4
    rcases d with d | d
    ·subst d; exact (d1 c i (by simp [iE, hk])).2.2 hk o r
    ·rcases j with j | j
     ·subst j; exact (d1 c i (by simp [iE, hk])).2.2 hk o r
     ·exact x.iG _ (k.2.2.2 hk w o d r j)
  have hlen : q.length + (FS T).length ≤ l.length + (FS T2).length := by
   exact g2.vJ J x
  obtain ⟨T3, W, Q, g3, M, Y⟩ := xY G I t m g2 u (by simp only [az] at hm; omega)
  exact ⟨T3, W, Q, g3, M, fun g v => Y g (x.iG g v)⟩
theorem AA (c : gu) : ∀ (l : List gu) (i : Nat), ∃ z, kR c l i = some z ∧ (z ≥ 0 ↔ c ∈ l)
 | [], i => ⟨-1, rfl, by simp⟩
 | x :: l, i => by
  rw [kR]
  by_cases h : lM c x = true
  ·rw [ak h]
   exact ⟨_, rfl, by simp [s6.1 h]⟩
  ·rw [ai h]
   obtain ⟨z, e, b⟩ := AA c l (i + 1)
   refine ⟨z, e, ?_⟩
   rw [b, ah]
   exact ⟨.inr, fun a => a.resolve_left (fun e => h (s6.2 e))⟩
theorem Cz (c : gu) (l : List gu) : ∃ b, rR l c = some b ∧ (b = true ↔ c ∈ l) := by
 obtain ⟨z, e, a⟩ := AA c l 0
 refine ⟨decide (z ≥ 0), ?_, by simpa using a⟩
 unfold rR nP oZ
 rw [e]
 rfl
theorem AB (c : gu) (ws : List (ByteArray × List gu)) (C : List gu) (hw : ∀ w, ((gV gX ws w).getD []).length ≤ 2000000) : ∀ (j : List gr) (a : List (gr × List gu)), (∀ r, ((gV gB a r).getD []).length + j.length ≤ 4000000) →
  ∃ g i, jR c ws C j a = some (C, g, i) ∧ (∀ r x, x ∈ (gV gB g r).getD [] ↔ x ∈ (gV gB a r).getD [] ∨ (x = c ∧ r ∈ j)) ∧
   (∀ w x, x ∈ (gV gX i w).getD [] ↔ x ∈ (gV gX ws w).getD [] ∨ (x = c ∧ c.Kind = 3 ∧ w = c.gY)) ∧ (∀ r, ((gV gB g r).getD []).length ≤ ((gV gB a r).getD []).length + j.length) ∧
   (∀ w, ((gV gX i w).getD []).length ≤ ((gV gX ws w).getD []).length + 1)
 | [], a, _ => by
  rw [jR]
  by_cases k : c.Kind = 3
  ·rw [ak (by simp [k])]
   have h := hw c.gY
   rw [jq (by simp; omega) (by simp; omega)]
   simp only [aa]
   refine ⟨a, _, rfl, by simp, fun w x => ?_, by simp, fun w => ?_⟩
   ·rw [uH iy]
    by_cases hk : gX w c.gY = true
    ·rw [ak hk, iy.1 hk]; simp [k]
    ·rw [ai hk]
     have : w ≠ c.gY := fun e => hk (iy.2 e)
     simp [this]
   ·rw [uH iy]
    by_cases hk : gX w c.gY = true
    ·rw [ak hk, iy.1 hk]; simp
    ·rw [ai hk]; exact fu _
  ·rw [ai (by simp [k])]
   exact ⟨a, ws, rfl, by simp, by simp [k], by simp, by simp⟩
 | b :: j, a, l => by
  rw [jR]
  have h := l b
  simp only [az] at h
  rw [jq (by simp; omega) (by simp; omega)]
  simp only [aa]
  have d : ∀ r, (gV gB (iN gB a b (((gV gB a b).getD []) ++ [c])) r).getD [] = if gB r b = true then ((gV gB a b).getD []) ++ [c] else (gV gB a r).getD [] := fun r => by
   rw [uH gC]; by_cases hk : gB r b = true
   ·rw [ak hk, ak hk]; rfl
   ·rw [ai hk, ai hk]
  obtain ⟨g, i, e, m, a2, a3, a4⟩ := AB c ws C hw j (iN gB a b (((gV gB a b).getD []) ++ [c])) (fun r => by
   rw [d r]
   have n := l r
   simp only [az] at n
   by_cases hk : gB r b = true
   ·rw [ak hk]; simp; omega
   ·rw [ai hk]; omega)
  refine ⟨g, i, e, fun r x => ?_, a2, fun r => ?_, a4⟩
  ·rw [m, d]
   by_cases hk : gB r b = true
   ·rw [ak hk, gC.1 hk]
    simp only [aG, ah, bU, dR]
    constructor
    ·rintro ((h | h) | h)
     ·exact .inl h
     ·exact .inr ⟨h, .inl trivial⟩
     ·exact .inr ⟨h.1, .inr h.2⟩
    ·rintro (h | h)
     ·exact .inl (.inl h)
     ·exact .inl (.inr h.1)
   ·rw [ai hk]
    have : r ≠ b := fun e => hk (gC.2 e)
    simp [this]
  ·have := a3 r
   rw [d r] at this
   by_cases hk : gB r b = true
   ·rw [ak hk] at this; rw [gC.1 hk] at this ⊢; simp at this ⊢; omega
   ·rw [ai hk] at this; simp; omega
theorem Ec {C : List gu} {j : List (gr × List gu)} {ws : List (ByteArray × List gu)} (g : vc C j ws) (p : C.length + 1 ≤ 1000000) {c : gu} (l : hZ c = true) (i : List (gr × List (ByteArray × Bool))) (o : List gx) (n : Int) :
  ∃ a b, mQ i C j ws o n c = some (C ++ [c], a, b) ∧ vc (C ++ [c]) a b := by
 unfold mQ
 rw [jq (by simp; omega) (by simp; omega)]
 simp only [aa, BJ l]
 rw [show nS (decide ((0 : Nat) ≤ 1) && decide ((1 : Int) ≤ ((c.Head :: iE c).length : Int))) = some () by simp [nS]; omega]
 simp only [aa, show Int.toNat 1 = 1 from rfl, List.drop_one, List.tail_cons]
 have m : (iE c).length ≤ 2 := by unfold iE; split; simp; split <;> simp
 obtain ⟨a, b, e, k, a2, a3, a4⟩ := AB c ws (C ++ [c]) (fun w => by have := g.EI w; omega) (iE c) j (fun r => by have := g.Ez r; omega)
 refine ⟨a, b, e, fun r x => ?_, fun w x => ?_, fun r => ?_, fun w => ?_⟩
 ·rw [k, g.CQ, aG, aA]
  constructor
  ·rintro (h | h)
   ·exact ⟨.inl h.1, h.2⟩
   ·exact ⟨.inr h.1, by rw [h.1]; exact h.2⟩
  ·rintro ⟨h | h, d⟩
   ·exact .inl ⟨h, d⟩
   ·exact .inr ⟨h, by rw [← h]; exact d⟩
 ·rw [a2, g.word, aG, aA]
  constructor
  ·rintro (h | h)
   ·exact ⟨.inl h.1, h.2⟩
   ·exact ⟨.inr h.1, by rw [h.1]; exact ⟨h.2.1, h.2.2.symm⟩⟩
  ·rintro ⟨h | h, d⟩
   ·exact .inl ⟨h, d⟩
   ·subst h; exact .inr ⟨rfl, d.1, d.2.symm⟩
 ·have := a3 r; have := g.Ez r; simp; omega
 ·have := a4 w; have := g.EI w; simp; omega
structure MS (C : List gu) (T : kx) (us : List (gr × List gu)) (ws : List (ByteArray × List gu)) (n : Int) : Prop where
 sU : lb C T [] n
 cl : ∀ c ∈ C, vH c T []
 FH : vc C us ws
 right : mx C
theorem MS.all {C : List gu} {T : kx} {j : List (gr × List gu)} {ws : List (ByteArray × List gu)} {n : Int} (h : MS C T j ws n) (f : gx) : f ∈ FS T ↔ ke C f := by
 refine ⟨h.sU.pE f, fun i => ?_⟩
 induction i with
 | mem c a hk => exact (h.cl c a).1 hk
 | inc c w a hk _ ih => exact (h.cl c a).2.1 hk w ih (by simp)
 | uT c b w a hk _ _ d g => exact (h.cl c a).2.2.1 hk b w d (by simp) g (by simp)
 | both c w a hk _ _ d g => exact (h.cl c a).2.2.2 hk w d (by simp) g (by simp)
theorem zH (q : Int) (y : 0 ≤ q ∧ q ≤ 1000000000000) : ∀ (l : List gu) {C : List gu} {T : kx} {p : List gx} {A : List (gr × List gu)} {ws : List (ByteArray × List gu)} {n : Int}, lb C T p n → (∀ c ∈ C, vH c T p) → vc C A ws → mx C → C.length + l.length ≤ 1000000 →
  ∃ C' T' a d j, jE q l (mm T) C A ws p n = some (j - q, mm T', C', a, d, [], j) ∧ MS C' T' a d j ∧ (∀ c, c ∈ C' ↔ c ∈ C ∨ (c ∈ l ∧ hZ c = true)) ∧ C'.length ≤ C.length + l.length ∧ (∀ f ∈ FS T, f ∈ FS T')
 | [], C, T, p, A, ws, n, g, i, t, r, L => by
  rw [jE]
  have U : lQ C := by unfold lQ; simp at L; omega
  have a6 := U.sq
  have hlen := g.len
  have a7 := g.EO
  obtain ⟨T', j, e, g', Y, o⟩ := xY U r t (cs := C) jg g i (by rw [oW]; omega)
  unfold nO
  rw [e]
  simp only [aa]
  have M := g'.len
  have W := g'.num
  rw [iY (by omega) (by omega)]
  exact ⟨C, T', A, ws, j, rfl, ⟨g', Y, t, r⟩, by simp, by simp, o⟩
 | x :: l, C, T, p, A, ws, n, g, i, t, r, L => by
  rw [jE, nE]
  simp only [az] at L
  obtain ⟨b, hb, u⟩ := Cz x C
  simp only [aa, hb, sm]
  by_cases k : hZ x = true ∧ x ∉ C
  ·have J : b = false := by cases b with | false => rfl | true => exact absurd (u.1 rfl) k.2
   rw [k.1, J]
   simp only [cU, Bool.and_self, aY]
   obtain ⟨Q, R, Z, U1⟩ := Ec t (by omega) k.1 (mm T) p n
   rw [Z]
   simp only [aa]
   have I : lQ (C ++ [x]) := by unfold lQ; simp; omega
   have s : mx (C ++ [x]) := fun c v => by
    rcases aG.1 v with h | h
    ·exact r c h
    ·simp at h; subst h; exact k.1
   have g1 : lb (C ++ [x]) T p n := g.mono (fun c v => aR _ v)
   obtain ⟨T2, P, n2, e2, g2, x2, c2⟩ := Dg I s g1 (C ++ [x]) Q R (c := x) (by simp)
   rw [e2]
   simp only [aa]
   have w : ∀ c ∈ C ++ [x], vH c T2 P := fun c v => by
    rcases aG.1 v with h | h
    ·exact (i c h).ext x2
    ·simp at h; subst h; exact c2
   obtain ⟨C', T', a, d, j, e, m, G, a2, a3⟩ := zH q y l g2 w U1 s (by simp; omega)
   refine ⟨C', T', a, d, j, e, m, fun c => ?_, by simp at a2 ⊢; omega, fun f K => a3 f (x2.iG f K)⟩
   rw [G]
   simp only [aG, ah, bU, dR]
   constructor
   ·rintro ((h | h) | h)
    ·exact .inl h
    ·subst h; exact .inr ⟨.inl rfl, k.1⟩
    ·exact .inr ⟨.inr h.1, h.2⟩
   ·rintro (h | ⟨h | h, E⟩)
    ·exact .inl (.inl h)
    ·exact .inl (.inr h)
    ·exact .inr ⟨h, E⟩
  ·have K : (hZ x && !b) = false := by
    cases hr : hZ x with
    | false => rfl
    | true =>
     have : x ∈ C := cX fun O => k ⟨hr, O⟩
     rw [u.2 this]; rfl
   rw [K]
   simp only [aq, bj]
   obtain ⟨C', T', a, d, j, e, m, G, a2, a3⟩ := zH q y l g i t r (by omega)
   refine ⟨C', T', a, d, j, e, m, fun c => ?_, by simp; omega, a3⟩
   rw [G, ah]
   constructor
   ·rintro (h | h)
    ·exact .inl h
    ·exact .inr ⟨.inr h.1, h.2⟩
   ·rintro (h | ⟨h | h, E⟩)
    ·exact .inl h
    ·subst h
     exact .inl (cX fun O => k ⟨E, O⟩)
    ·exact .inr ⟨h, E⟩
theorem Ef {C : List gu} {T : kx} {g : List (gr × List gu)} {ws : List (ByteArray × List gu)} {n : Int} (h : MS C T g ws n) (l : List gu) (j : C.length + l.length ≤ 1000000) :
  ∃ C' T' a b d, np (mm T) C g ws [] n l = some (d - n, mm T', C', a, b, [], d) ∧ MS C' T' a b d ∧ (∀ c, c ∈ C' ↔ c ∈ C ∨ (c ∈ l ∧ hZ c = true)) ∧ C'.length ≤ C.length + l.length ∧ (∀ f ∈ FS T, f ∈ FS T') := by
 have i : lQ C := by unfold lQ; omega
 have h1 := h.sU.len
 have k := i.sq
 have m := h.sU.num
 exact zH n ⟨by omega, by omega⟩ l h.sU h.cl h.FH h.right j
theorem vc.zero : vc [] [] [] := ⟨fun r c => by simp [gV], fun w c => by simp [gV], fun r => by simp [gV], fun w => by simp [gV]⟩
theorem lb.zero : lb [] [] [] 0 := ⟨by simp, by simp [FS], by simp, by simp, by simp [FS], by simp [FS]⟩
theorem MS.zero : MS [] [] [] [] 0 := ⟨lb.zero, fun c a => (by cases a), vc.zero, fun c a => (by cases a)⟩
theorem Fj (l : List gu) (h : l.length ≤ 1000000) : ∃ C T d ws n, rL l = some (mm T, C, d, ws, [], n) ∧ MS C T d ws n ∧ (∀ c, c ∈ C ↔ c ∈ l ∧ hZ c = true) ∧ C.length ≤ l.length := by
 unfold rL
 obtain ⟨C', T', a, b, i, e, m, g, a2, a3⟩ := Ef MS.zero l (by simpa using h)
 rw [show np [] [] [] [] [] 0 l = _ from e]
 exact ⟨C', T', a, b, i, rfl, m, by simpa using g, by simpa using a2⟩
theorem ke.congr {C C' : List gu} (h : ∀ c, c ∈ C ↔ c ∈ C') (f : gx) : ke C f ↔ ke C' f := ⟨fun d => d.mono (fun c a => (h c).1 a), fun d => d.mono (fun c a => (h c).2 a)⟩
def rF (a b : gx) : Bool := nT a.gr b.gr || (gB a.gr b.gr && kw a.gU b.gU)
theorem vk {a b : gx} : rF a b = true ↔ nT a.gr b.gr = true ∨ (a.gr = b.gr ∧ kw a.gU b.gU = true) := by simp [rF, gC]
def u2 (_ : gx) : Bool := true
theorem yE : ry (fun a b => rF a b = true) (fun x => u2 x = true) := by
 have H := ub (fun _ => True)
 refine ⟨fun x _ => ?_, fun x y z _ _ _ h1 c => ?_, fun x y _ _ => ?_⟩
 ·rw [vk]
  rintro (h | ⟨_, h⟩)
  ·exact H.irrefl _ trivial h
  ·rw [mR] at h; cases h
 ·rw [vk] at *
  rcases h1 with h1 | ⟨g, h1⟩
  ·rcases c with c | ⟨d, c⟩
   ·exact .inl (H.trans _ _ _ trivial trivial trivial h1 c)
   ·exact .inl (by rw [← d]; exact h1)
  ·rcases c with c | ⟨d, c⟩
   ·exact .inl (by rw [g]; exact c)
   ·exact .inr ⟨g.trans d, qh h1 c⟩
 ·simp only [vk]
  rcases H.total x.gr y.gr trivial trivial with h | h | h
  ·exact .inl (.inl h)
  ·rcases nH x.gU y.gU with c | c | c
   ·exact .inl (.inr ⟨h, c⟩)
   ·refine .inr (.inl ?_)
    cases x; cases y; simp at h c; simp [h, c]
   ·exact .inr (.inr (.inr ⟨h.symm, c⟩))
  ·exact .inr (.inr (.inl h))
def vE (P : gx → Prop) (s : List gx) : Prop := s.Pairwise (fun a b => rF a b = true) ∧ ∀ f, f ∈ s ↔ P f
theorem vE.unique {P : gx → Prop} {s t : List gx} (h : vE P s) (k : vE P t) : s = t :=
 lR.unique (l := s) yE ⟨h.1, fun x => ⟨fun a => ⟨a, rfl⟩, fun a => a.1⟩⟩ ⟨k.1, fun x => by rw [k.2, h.2]; exact ⟨fun a => ⟨a, rfl⟩, fun a => a.1⟩⟩
theorem Dj (r : gr) (w : ByteArray) : ∀ l : List gx, ∃ b, oM r w l = some b ∧ (b = true ↔ (⟨r, w⟩ : gx) ∈ l)
 | [] => ⟨false, rfl, by simp⟩
 | x :: l => by
  rw [oM]
  simp only [sm, aa]
  obtain ⟨b, e, d⟩ := Dj r w l
  by_cases h : (gB x.gr r && gX x.gU w) = true
  ·rw [ak h]
   have a : x = ⟨r, w⟩ := by
    rw [aC, gC, iy] at h
    cases x; simp at h; simp [h]
   exact ⟨true, rfl, by simp [a]⟩
  ·rw [ai h]
   refine ⟨b, e, ?_⟩
   rw [d, ah]
   refine ⟨.inr, fun c => c.resolve_left (fun e => h ?_)⟩
   rw [← e]; simp [om, oA]
theorem pV (l : List gx) (r : gr) (w : ByteArray) : ∃ b, kX l r w = some b ∧ (b = true ↔ (⟨r, w⟩ : gx) ∈ l) := Dj r w l
def mq (l : List gx) (c : gu) (names : List ByteArray) (w : ByteArray) : Prop :=
 (c.Kind = 1 ∧ c.gU = w) ∨ (c.Kind = 2 ∧ (⟨c.B, w⟩ : gx) ∈ l) ∨ (c.Kind = 4 ∧ (⟨c.B, w⟩ : gx) ∈ l ∧ (⟨c.C, w⟩ : gx) ∈ l) ∨
 (c.Kind ≠ 1 ∧ c.Kind ≠ 2 ∧ c.Kind ≠ 4 ∧ ∃ b ∈ names, (⟨c.B, b⟩ : gx) ∈ l ∧ (⟨⟨b, c.gY⟩, w⟩ : gx) ∈ l)
theorem wQ (l : List gx) (c : gu) (w : ByteArray) : ∀ names : List ByteArray, ∃ b, nG l c w names = some b ∧ (b = true ↔ ∃ b ∈ names, (⟨c.B, b⟩ : gx) ∈ l ∧ (⟨⟨b, c.gY⟩, w⟩ : gx) ∈ l)
 | [] => ⟨false, rfl, by simp⟩
 | x :: names => by
  rw [nG]
  obtain ⟨g, j, h1⟩ := pV l c.B x
  obtain ⟨i, k, d⟩ := pV l ⟨x, c.gY⟩ w
  obtain ⟨b, e, m⟩ := wQ l c w names
  rw [j, k, e]
  simp only [aa, sm]
  by_cases h : (g && i) = true
  ·rw [ak h]
   rw [aC, h1, d] at h
   exact ⟨true, rfl, by simp [h]⟩
  ·rw [ai h]
   rw [aC, h1, d] at h
   refine ⟨b, rfl, ?_⟩
   rw [m]
   constructor
   ·rintro ⟨y, a, q⟩; exact ⟨y, by simp [a], q⟩
   ·rintro ⟨y, a, q⟩
    rcases ah.1 a with rfl | a
    ·exact absurd q h
    ·exact ⟨y, a, q⟩
theorem AD (l : List gx) (c : gu) (names : List ByteArray) (w : ByteArray) : ∃ b, oe l c names w = some b ∧ (b = true ↔ mq l c names w) := by
 unfold oe mq
 simp only [ui]
 by_cases h1 : c.Kind = 1
 ·rw [ak (by simp [h1])]; exact ⟨_, rfl, by simp [h1, iy]⟩
 rw [ai (by simp [h1])]
 by_cases a : c.Kind = 2
 ·rw [ak (by simp [a])]
  obtain ⟨b, e, g⟩ := pV l c.B w
  exact ⟨b, e, by simp [a, g]⟩
 rw [ai (by simp [a])]
 by_cases d : c.Kind = 4
 ·rw [ak (by simp [d])]
  obtain ⟨m, j, h⟩ := pV l c.B w
  obtain ⟨n, k, i⟩ := pV l c.C w
  rw [j, k]
  simp only [aa, sm]
  exact ⟨_, rfl, by simp [d, h, i]⟩
 rw [ai (by simp [d])]
 obtain ⟨b, e, g⟩ := wQ l c w names
 exact ⟨b, e, by rw [g]; simp [h1, a, d]⟩
theorem mq.pE {C : List gu} {l : List gx} (a : ∀ f ∈ l, ke C f) {c : gu} (d : c ∈ C) (hk : c.Kind = 1 ∨ c.Kind = 2 ∨ c.Kind = 3 ∨ c.Kind = 4) {names : List ByteArray} {w : ByteArray} (h : mq l c names w) : ke C ⟨c.Head, w⟩ := by
 rcases h with ⟨k, rfl⟩ | ⟨k, h⟩ | ⟨k, h1, g⟩ | ⟨i, k2, j, b, _, h1, g⟩
 ·exact .mem c d k
 ·exact .inc c w d k (a _ h)
 ·exact .both c w d k (a _ h1) (a _ g)
 ·exact .uT c b w d (by omega) (a _ h1) (a _ g)
theorem xb {c : gu} (h : hZ c = true) : c.Kind = 1 ∨ c.Kind = 2 ∨ c.Kind = 3 ∨ c.Kind = 4 := by rcases jA h with h | h | h | h <;> simp [h.1]
structure uZ (C : List gu) (out : List gx) : Prop where
 nd : out.Nodup
 pE : ∀ f ∈ out, ke C f
theorem uZ.len {C : List gu} {out : List gx} (h : uZ C out) : out.length ≤ C.length * C.length := by
 rw [← rK]; exact iK h.nd (fun f a => (h.pE f a).uV)
theorem wk {C : List gu} (r : lQ C) (s : mx C) {c : gu} (m : c ∈ C) (names : List ByteArray) : ∀ (l : List ByteArray) (out : List gx) (i : Bool), uZ C out →
  ∃ g d, oT c names l out i = some (g, d) ∧ uZ C g ∧ (d = true → i = true ∨ out.length < g.length) ∧ (d = false → i = false ∧ g = out ∧ ∀ w ∈ l, mq out c names w → (⟨c.Head, w⟩ : gx) ∈ out) ∧ out.length ≤ g.length
 | [], out, i, h => ⟨out, i, rfl, h, .inl, fun h => ⟨h, rfl, fun _ hw => by cases hw⟩, aJ _⟩
 | w :: l, out, i, h => by
  rw [oT]
  obtain ⟨x, G, h1⟩ := pV out c.Head w
  obtain ⟨E, I, y⟩ := AD out c names w
  rw [G, I]
  simp only [aa, sm]
  by_cases j : (!x && E) = true
  ·rw [ak j]
   rw [aC] at j
   have t : (⟨c.Head, w⟩ : gx) ∉ out := fun L => by have := h1.2 L; rw [this] at j; exact absurd j.1 (by decide)
   have O := h.len
   have M := r.sq
   rw [jq (by simp; omega) (by simp; omega)]
   simp only [aa]
   have J : uZ C (out ++ [⟨c.Head, w⟩]) := ⟨aD.2 ⟨h.nd, by simp, fun a K b j e => by simp at j; subst j; subst e; exact t K⟩, fun f k => by
    rcases aG.1 k with k | k
    ·exact h.pE f k
    ·simp at k; subst k; exact (y.1 j.2).pE h.pE m (xb (s c m))⟩
   obtain ⟨g, d, e, n, a2, a3, a4⟩ := wk r s m names l _ true J
   simp at a4
   exact ⟨g, d, e, n, fun _ => .inr (by omega), fun k => (by cases (a3 k).1), by omega⟩
  ·rw [ai j]
   obtain ⟨g, d, e, n, a2, a3, a4⟩ := wk r s m names l out i h
   refine ⟨g, d, e, n, a2, fun k => ?_, a4⟩
   obtain ⟨o, p, q⟩ := a3 k
   refine ⟨o, p, fun v u A => ?_⟩
   rcases ah.1 u with rfl | u
   ·refine cX fun t => j ?_
    rw [aC, y.2 A]
    cases x with
    | false => exact ⟨rfl, rfl⟩
    | true => exact absurd (h1.1 rfl) t
   ·exact q v u A
theorem zc {C : List gu} (m : lQ C) (n : mx C) (names : List ByteArray) : ∀ (l : List gu) (out : List gx) (a : Bool), (∀ c ∈ l, c ∈ C) → uZ C out →
  ∃ b g, pR names l out a = some (b, g) ∧ uZ C b ∧ (g = true → a = true ∨ out.length < b.length) ∧ (g = false → a = false ∧ b = out ∧ ∀ c ∈ l, ∀ w ∈ names, mq out c names w → (⟨c.Head, w⟩ : gx) ∈ out) ∧ out.length ≤ b.length
 | [], out, a, _, h => ⟨out, a, rfl, h, .inl, fun h => ⟨h, rfl, fun _ hw => by cases hw⟩, aJ _⟩
 | c :: l, out, a, o, h => by
  rw [pR]
  obtain ⟨v, c1, t, p, a2, a3, a4⟩ := wk m n (o c (by simp)) names names out a h
  rw [t]
  simp only [aa]
  obtain ⟨x, c2, u, q, r, s, K⟩ := zc m n names l v c1 (fun d i => o d (by simp [i])) p
  refine ⟨x, c2, u, q, fun j => ?_, fun j => ?_, by omega⟩
  ·rcases r j with h1 | h1
   ·rcases a2 h1 with k | k
    ·exact .inl k
    ·exact .inr (by omega)
   ·exact .inr (by omega)
  ·obtain ⟨y, A, E⟩ := s j
   obtain ⟨G, I, J⟩ := a3 y
   subst I
   refine ⟨G, A, fun d i => ?_⟩
   rcases ah.1 i with rfl | i
   ·exact J
   ·exact E d i
def zF : gx := ⟨⟨zS, zS⟩, zS⟩
theorem y9 (a b : gx) : ob a b = some (rF a b) := by
 unfold ob rF
 simp only [pc, aa, sm, Dp]
def Ev (a : List gx) (b : Int) (p : Bool × gx) : Prop := (p.1 = false ∧ b = -1) ∨ (p.1 = true ∧ 0 ≤ b ∧ kd a b = some p.2)
theorem sF (out a : List gx) (i : out.length < 4611686018427387904) : ∀ (rest A : List gx) (b : Int) (p : Bool × gx), a = A ++ rest → Ev a b p →
  ∃ c, kJ out a rest A.length b = some c ∧ Ev a c (lq u2 rF out.getLast? rest p.1 p.2)
 | [], A, b, p, d, j => ⟨b, rfl, j⟩
 | x :: rest, A, b, p, d, j => by
  rw [kJ, lq]
  simp only [u2, eB]
  have h1 : ((if ((out.length : Int) == 0) = true then some true else (kd out (wi0 .i64 ((out.length : Int) - 1))).bind fun y => (ob y x).bind fun r => some r) : Option Bool) = some (out.getLast?.all fun y => rF y x) := by
   rcases cV out with h | ⟨B, z, h⟩
   ·subst h; rfl
   ·subst h
    rw [ai (by simp; omega)]
    rw [List.concat_eq_append] at i ⊢
    rw [ue B z (by simp at i; omega)]
    simp [y9]
  have n : ((if decide (b < 0) = true then some true else (kd a b).bind fun y => (ob x y).bind fun r => some r) : Option Bool) = some (!p.1 || rF x p.2) := by
   rcases j with ⟨k, l⟩ | ⟨k, l, m⟩
   ·rw [ak (by simp [l]), k]; rfl
   ·rw [ai (by simpa using l), m, k]
    simp [y9]
  rw [h1]
  simp only [aa]
  rw [n]
  simp only [aa, sm]
  have o : kd a (A.length : Int) = some x := by rw [d]; exact pv A x rest _ rfl
  by_cases g : ((out.getLast?.all fun y => rF y x) && (!p.1 || rF x p.2)) = true
  ·rw [ak g, ak g]
   have := sF out a i rest (A ++ [x]) (A.length : Int) (true, x) (by rw [d]; simp) (.inr ⟨rfl, by simp, o⟩)
   simpa using this
  ·rw [ai g, ai g]
   have := sF out a i rest (A ++ [x]) b p (by rw [d]; simp) j
   simpa using this
theorem vL {out a : List gx} (d : out.length < 4611686018427387904) (h : (lq u2 rF out.getLast? a false zF).1 = false) : ∀ vJ : List gx, kF a vJ out = some out
 | [] => rfl
 | x :: vJ => by
  rw [kF]
  obtain ⟨b, e, i⟩ := sF out a d a [] (-1) (false, zF) rfl (.inl ⟨rfl, rfl⟩)
  rw [show kJ out a a 0 (-1) = some b from e]
  simp only [aa]
  rcases i with ⟨_, g⟩ | ⟨c, _⟩
  ·rw [ai (by simp [g])]; exact vL d h vJ
  ·rw [h] at c; cases c
theorem xU (a : List gx) : ∀ (vJ : List gx) (out s : List gx), qm 48 u2 rF zF a (vJ.length + 1) out = some s → s.length < 4611686018427387904 → kF a vJ out = some s ∧ out.length ≤ s.length
 | [], out, s, h, i => by
  rw [qm] at h
  cases hp : (lq u2 rF out.getLast? a false zF).1 with
  | false =>
   rw [hp] at h
   simp only [cU, aY] at h
   cases h
   exact ⟨rfl, aJ _⟩
  | true =>
   rw [hp] at h
   simp only [cn, aq, bj] at h
   obtain ⟨o, c, h⟩ := bind_some h
   replace h : qm 48 u2 rF zF a 0 o = some s := h
   rw [qm] at h
   cases h
 | x :: vJ, out, s, h, i => by
  rw [qm] at h
  cases hp : (lq u2 rF out.getLast? a false zF).1 with
  | false =>
   rw [hp] at h
   simp only [cU, aY] at h
   cases h
   exact ⟨vL i hp _, aJ _⟩
  | true =>
   rw [hp] at h
   simp only [cn, aq, bj] at h
   obtain ⟨o, c, h⟩ := bind_some h
   have g := c
   unfold je at c
   split at c
   case isFalse => cases c
   cases c
   obtain ⟨m, k2⟩ := xU a vJ _ s h i
   simp at k2
   rw [kF]
   obtain ⟨b, e, l⟩ := sF out a (by omega) a [] (-1) (false, zF) rfl (.inl ⟨rfl, rfl⟩)
   rw [show kJ out a a 0 (-1) = some b from e]
   simp only [aa]
   rcases l with ⟨d, _⟩ | ⟨d, j, k⟩
   ·rw [hp] at d; cases d
   ·rw [ak (by simpa using j), k]
    simp only [aa]
    rw [g]
    exact ⟨m, by omega⟩
theorem B7 (l : List gx) (c : l.length ≤ 1000000000) : ∃ s, tm l = some s ∧ vE (fun f => f ∈ l) s := by
 obtain ⟨s, h1, a⟩ := rl yE (w := 48) (by omega) zF l c (l.length + 1) [] (by simp) (by simp) (fun x b => by cases b) (fun x _ _ => .inr rfl)
 have hlen : s.length ≤ l.length := iK (nQ yE (fun _ _ => rfl) a.1) (fun x b => ((a.2 x).1 b).1)
 exact ⟨s, (xU l l [] s h1 (by omega)).1, a.1, fun f => by rw [a.2]; exact ⟨fun h => h.1, fun h => ⟨h, rfl⟩⟩⟩
theorem wE : ∀ (l : List gu) (acc : List ByteArray), acc.length + 4 * l.length ≤ 1000000000 → mg l acc = qT (acc ++ l.flatMap fun c => [c.gU, c.Head.gG, c.B.gG, c.C.gG])
 | [], acc, _ => by rw [mg]; simp [ui]
 | c :: l, acc, h => by
  rw [mg]
  simp only [az] at h
  rw [jq (by simp; omega) (by simp; omega)]
  simp only [aa]
  rw [wE l _ (by simp; omega)]
  simp
def SM (C : List gu) : Prop := C.length ≤ 30000
theorem SM.small {C : List gu} (h : SM C) : lQ C := by unfold SM at h; unfold lQ; omega
theorem SM.sq {C : List gu} (h : SM C) : C.length * C.length ≤ 900000000 := dG h h
theorem CG {C : List gu} (b : SM C) (g : mx C) : ∃ names, nv C = some names ∧ ∀ c ∈ C, c.Kind = 1 → c.gU ∈ names := by
 have d : C.length ≤ 30000 := b
 unfold nv
 rw [wE C [] (by simp; omega)]
 obtain ⟨s, e, i⟩ := Az ([] ++ C.flatMap fun c => [c.gU, c.Head.gG, c.B.gG, c.C.gG]) (by
  have : ∀ l : List gu, (l.flatMap fun c => [c.gU, c.Head.gG, c.B.gG, c.C.gG]).length = 4 * l.length := fun l => by
   induction l with
   | nil => rfl
   | cons x l ih => simp [ih]; omega
  rw [bn, this]; omega)
 refine ⟨s, e, fun c a hk => (i.2 _).2 ⟨?_, ?_⟩⟩
 ·rw [bn]; exact dL.2 ⟨c, a, by simp⟩
 ·rcases jA (g c a) with h | h | h | h
  ·exact h.2.1
  ·exact absurd (hk.symm.trans h.1) (by decide)
  ·exact absurd (hk.symm.trans h.1) (by decide)
  ·exact absurd (hk.symm.trans h.1) (by decide)
theorem AZ {C : List gu} (n : mx C) {names : List ByteArray} (l : ∀ c ∈ C, c.Kind = 1 → c.gU ∈ names) {out : List gx} (h : ∀ c ∈ C, ∀ w ∈ names, mq out c names w → (⟨c.Head, w⟩ : gx) ∈ out) {f : gx} (k : ke C f) : f ∈ out := by
 have hw : ∀ f, ke C f → f.gU ∈ names := fun f k => by
  obtain ⟨c, a, hk, e⟩ := k.Ak
  rw [← e]; exact l c a hk
 induction k with
 | mem c a hk => exact h c a _ (l c a hk) (.inl ⟨hk, rfl⟩)
 | inc c w a hk m ih => exact h c a w (hw _ m) (.inr (.inl ⟨hk, ih⟩))
 | uT c b w a hk d j g i => exact h c a w (hw _ j) (.inr (.inr (.inr ⟨by omega, by omega, by omega, b, hw _ d, g, i⟩)))
 | both c w a hk d j g i => exact h c a w (hw _ d) (.inr (.inr (.inl ⟨hk, g, i⟩)))
theorem yY {C : List gu} (a : SM C) (b : mx C) {names : List ByteArray} (g : ∀ c ∈ C, c.Kind = 1 → c.gU ∈ names) : ∀ (m : Nat) (out : List gx), uZ C out → C.length * C.length < m + out.length →
  ∃ s, pS names C m out = some s ∧ vE (ke C) s
 | 0, out, h, hm => by have := h.len; omega
 | m + 1, out, h, hm => by
  rw [pS]
  obtain ⟨o, c, e, i, a2, a3, a4⟩ := zc a.small b names C out false (fun _ h => h) h
  rw [e]
  simp only [aa, ui]
  cases c with
  | false =>
   simp only [cU, aY]
   obtain ⟨_, j, k⟩ := a3 rfl
   subst j
   have p := h.len
   have n := a.sq
   obtain ⟨s, l, d⟩ := B7 o (by omega)
   exact ⟨s, l, d.1, fun f => (d.2 f).trans ⟨h.pE f, AZ b g k⟩⟩
  | true =>
   simp only [cn, aq, bj]
   rcases a2 rfl with h1 | h1
   ·cases h1
   ·exact yY a b g m o i (by omega)
theorem DT (l : List gu) (o : l.length ≤ 30000) : ∃ C s, tU l = some s ∧ vE (ke C) s ∧ ∀ c, c ∈ C ↔ c ∈ l ∧ hZ c = true := by
 unfold tU
 obtain ⟨C, e, b⟩ := xA l (by omega)
 have hlen := lJ ql b
 have a : SM C := by unfold SM; omega
 have d : mx C := fun c j => ((b.2 c).1 j).2
 obtain ⟨names, g, m⟩ := CG a d
 rw [e]
 simp only [aa]
 rw [g]
 simp only [aa]
 have n := a.sq
 obtain ⟨s, h, i⟩ := yY a d m jg [] ⟨by simp, fun f k => by cases k⟩ (by rw [oW]; simp; omega)
 exact ⟨C, s, h, i, b.2⟩
theorem rn (r : gr) : ∀ (l : List gx) (acc : List ByteArray), acc.length + l.length ≤ 1000000000 → lm r l acc = some (acc ++ (l.filter fun f => gB f.gr r).map (·.gU))
 | [], acc, _ => by rw [lm]; simp
 | x :: l, acc, h => by
  rw [lm]
  simp only [az] at h
  by_cases a : gB x.gr r = true
  ·rw [ak a, jq (by simp; omega) (by simp; omega)]
   simp only [aa]
   rw [rn r l _ (by simp; omega)]
   simp [a]
  ·rw [ai a, rn r l acc (by omega)]
   simp [a]
theorem Bo {l : List ByteArray} (g : l.Nodup) : (iJ l).Pairwise (fun a b => kw a b = true) := by
 have h1 : (iJ l).Pairwise (fun a b => (!kw b a) = true) := rq (P := fun _ => True) (fun a b c _ _ _ h1 d => by
   simp only [cP] at *
   rcases nH a b with h | h | h
   ·rcases nH b c with k | k | k
    ·exact rc (qh h k)
    ·subst k; exact h1
    ·rw [d] at k; cases k
   ·subst h; exact d
   ·rw [h1] at h; cases h) (fun a b _ _ => by
   rcases nH a b with h | h | h
   ·simp [rc h]
   ·subst h; simp [mR]
   ·simp [rc h]) l (fun _ _ => trivial)
 have d : (iJ l).Nodup := by unfold iJ; exact (dn l _).nodup_iff.2 g
 refine (h1.and d).imp (fun {a b} h => ?_)
 rcases nH a b with k | k | k
 ·exact k
 ·exact absurd k h.2
 ·have := h.1; rw [k] at this; cases this
theorem zQ {C : List gu} {T : kx} {p : List (gr × List gu)} {ws : List (ByteArray × List gu)} {n : Int} (h : MS C T p ws n) {s : List gx} (g : vE (ke C) s) (m : s.length ≤ 1000000000) (r : gr) : nD s r = some (iJ (jS T r)) := by
 unfold nD
 rw [rn r s [] (by simpa using m)]
 congr 1
 rw [bn]
 refine lR.unique (l := iJ (jS T r)) (rO (fun _ => True)) ⟨?_, fun x => ?_⟩ ⟨Bo (s8 h.sU.nd r), fun x => by simp⟩
 ·rw [ch]
  refine (List.Pairwise.filter _ g.1).imp_of_mem (fun {a b} i j c => ?_)
  have h1 := (cr.1 i).2
  have d := (cr.1 j).2
  rw [gC] at h1 d
  rw [vk, h1, d] at c
  rcases c with c | c
  ·exact absurd c ((ub (fun _ => True)).irrefl _ trivial)
  ·exact c.2
 ·rw [oX, aK]
  constructor
  ·rintro ⟨f, k, rfl⟩
   obtain ⟨h1, d⟩ := cr.1 k
   rw [gC] at d
   refine ⟨?_, trivial⟩
   have := (pL h.sU.keys f).1 ((h.all f).2 ((g.2 f).1 h1))
   rw [d] at this
   exact this
  ·rintro ⟨o, _⟩
   exact ⟨⟨r, x⟩, cr.2 ⟨(g.2 _).2 ((h.all _).1 ((pL h.sU.keys ⟨r, x⟩).2 o)), om _⟩, rfl⟩
theorem DM {P : gx → Prop} {s t : List gx} (h : vE P s) (b : ∀ f, P f → f ∈ t) : s.length ≤ t.length := iK (nQ yE (fun _ _ => rfl) h.1) (fun f a => b f ((h.2 f).1 a))
theorem DK {C : List gu} {s : List gx} (h : vE (ke C) s) (a : SM C) : s.length ≤ 900000000 := by
 have := DM h (t := uV C) (fun f b => b.uV)
 rw [rK] at this
 have := a.sq
 omega
def qA : gr := ⟨⟨#[97]⟩, ⟨#[114]⟩⟩
def qB : gr := ⟨⟨#[98]⟩, ⟨#[115]⟩⟩
def qd : ByteArray := ⟨#[100]⟩
def j1 : gu := ⟨2, qA, zS, qB, ⟨zS, zS⟩, zS⟩
def j2 : gu := ⟨1, qB, qd, ⟨zS, zS⟩, ⟨zS, zS⟩, zS⟩
theorem FZ : hZ j1 = true := by decide +kernel
theorem Fx : hZ j2 = true := by decide +kernel
theorem Fq : qA ≠ qB := fun e => by have := (gC (x := qA) (y := qB)).2 e; revert this; decide +kernel
def fA : gx := ⟨qA, qd⟩
def fB : gx := ⟨qB, qd⟩
theorem CB {C : List gu} (h : ∀ c, c ∈ C ↔ c = j1 ∨ c = j2) (f : gx) : ke C f ↔ f = fA ∨ f = fB := by
 have d : ke C fB := ke.mem j2 ((h j2).2 (.inr rfl)) rfl
 constructor
 ·intro g
  induction g with
  | mem c a hk =>
   rcases (h c).1 a with rfl | rfl
   ·exact absurd hk (by decide)
   ·exact .inr rfl
  | inc c w a hk _ ih =>
   rcases (h c).1 a with rfl | rfl
   ·rcases ih with ih | ih
    ·exact absurd (ap gx.gr ih) (fun e => Fq e.symm)
    ·have := ap gx.gU ih
     simp only at this
     subst this
     exact .inl rfl
   ·exact absurd hk (by decide)
  | uT c b w a hk _ _ _ _ => rcases (h c).1 a with rfl | rfl <;> exact absurd hk (by decide)
  | both c w a hk _ _ _ _ => rcases (h c).1 a with rfl | rfl <;> exact absurd hk (by decide)
 ·rintro (rfl | rfl)
  ·exact ke.inc j1 qd ((h j1).2 (.inl rfl)) rfl d
  ·exact d
theorem Fw : fA ≠ fB := fun e => Fq (ap gx.gr e)
theorem tJ (f : ByteArray → Option Bool) (p : ByteArray → Bool) : ∀ (l : List ByteArray) (i : Nat), (∀ x ∈ l, f x = some (p x)) → ∃ z, jK f l i = some z ∧ (z ≥ 0 ↔ ∃ x ∈ l, p x = true)
 | [], i, _ => ⟨-1, rfl, by simp⟩
 | x :: l, i, h => by
  rw [jK, h x (by simp)]
  simp only [aa]
  cases hp : p x with
  | true => exact ⟨_, rfl, by simp [hp]⟩
  | false =>
   obtain ⟨z, e, b⟩ := tJ f p l (i + 1) (fun y a => h y (by simp [a]))
   exact ⟨z, e, by rw [b]; simp [hp]⟩
theorem zd : ∀ (l : List gu) (n r : Int), 0 ≤ n → (∀ c ∈ l, tS c ≤ 1000000000) → n + l.length * 1000000020 ≤ 4000000000000000000 → lc l n = some r → r ≤ n + l.length * 1000000020
 | [], n, r, g, a, b, h => by cases h; simp
 | c :: l, n, r, g, a, b, h => by
  have j := a c (by simp)
  unfold tS at j
  simp only [az] at b ⊢
  rw [lc] at h
  rw [iY (x := 20 + (c.Head.gG.size : Int)) (by omega) (by omega), iY (x := 20 + (c.Head.gG.size : Int) + (c.Head.hX.size : Int)) (by omega) (by omega), iY (x := 20 + (c.Head.gG.size : Int) + (c.Head.hX.size : Int) + (c.gU.size : Int)) (by omega) (by omega), iY (x := 20 + (c.Head.gG.size : Int) + (c.Head.hX.size : Int) + (c.gU.size : Int) + (c.B.gG.size : Int)) (by omega) (by omega), iY (x := 20 + (c.Head.gG.size : Int) + (c.Head.hX.size : Int) + (c.gU.size : Int) + (c.B.gG.size : Int) + (c.B.hX.size : Int)) (by omega) (by omega), iY (x := 20 + (c.Head.gG.size : Int) + (c.Head.hX.size : Int) + (c.gU.size : Int) + (c.B.gG.size : Int) + (c.B.hX.size : Int) + (c.C.gG.size : Int)) (by omega) (by omega), iY (x := 20 + (c.Head.gG.size : Int) + (c.Head.hX.size : Int) + (c.gU.size : Int) + (c.B.gG.size : Int) + (c.B.hX.size : Int) + (c.C.gG.size : Int) + (c.C.hX.size : Int)) (by omega) (by omega), iY (x := 20 + (c.Head.gG.size : Int) + (c.Head.hX.size : Int) + (c.gU.size : Int) + (c.B.gG.size : Int) + (c.B.hX.size : Int) + (c.C.gG.size : Int) + (c.C.hX.size : Int) + (c.gY.size : Int)) (by omega) (by omega), iY (by omega) (by omega)] at h
  have := zd l _ r (by omega) (fun d i => a d (by simp [i])) (by omega) h
  omega
theorem A6 (l : List gu) (b : l.length ≤ 10000000) (a : ∀ c ∈ l, tS c ≤ 1000000000) : ∃ r, rB l = some r ∧ 20 * (l.length : Int) ≤ r ∧ r ≤ 100000000000000000 := by
 obtain ⟨r, h, h1⟩ := yJ l 0 (by omega) (by omega) a (by omega)
 exact ⟨r, h, by omega, by have := zd l 0 r (by omega) a (by omega) h; omega⟩
def xP (c : gu) (p : gr × ByteArray → Bool) (names : List ByteArray) (w : ByteArray) : Bool :=
 if c.Kind = 1 then gX c.gU w else if c.Kind = 2 then p (c.B, w) else if c.Kind = 4 then p (c.B, w) && p (c.C, w) else names.any fun b => p (c.B, b) && p (⟨b, c.gY⟩, w)
theorem B1 {f : gr × ByteArray → Option Bool} {p : gr × ByteArray → Bool} (g : ∀ x, f x = some (p x)) (c : gu) (names : List ByteArray) (w : ByteArray) : pz c f names w = some (xP c p names w) := by
 unfold pz xP
 simp only [g, aa, sm]
 by_cases h1 : c.Kind = 1
 ·rw [ak (by simp [h1]), ak h1]
 rw [ai (by simp [h1]), ai h1]
 by_cases a : c.Kind = 2
 ·rw [ak (by simp [a]), ak a]
 rw [ai (by simp [a]), ai a]
 by_cases d : c.Kind = 4
 ·rw [ak (by simp [d]), ak d]
 rw [ai (by simp [d]), ai d]
 unfold me mT
 obtain ⟨z, e, h⟩ := tJ (fun x => mN x f c w) (fun b => p (c.B, b) && p (⟨b, c.gY⟩, w)) names 0 (fun x _ => by
  unfold mN
  simp only [g, aa, sm])
 rw [e]
 simp only [aa]
 congr 1
 rw [bz, dK]
 simpa using h
theorem uc {f : gr × ByteArray → Option Bool} {p : gr × ByteArray → Bool} (a : ∀ x, f x = some (p x)) (c : gu) (names : List ByteArray) : ∀ (l : List ByteArray) (acc : List gx), acc.length + l.length ≤ 1000000000 →
  la c f names l acc = some (acc ++ (l.filter (xP c p names)).map fun w => (⟨c.Head, w⟩ : gx))
 | [], acc, _ => by rw [la]; simp
 | x :: l, acc, h => by
  rw [la, B1 a]
  simp only [aa, az] at h ⊢
  cases b : xP c p names x with
  | true =>
   simp only [aY]
   rw [jq (by simp; omega) (by simp; omega)]
   simp only [aa]
   rw [uc a c names l _ (by simp; omega)]
   simp [b]
  | false =>
   simp only [aq, bj]
   rw [uc a c names l acc (by omega)]
   simp [b]
theorem CR {f : gr × ByteArray → Option Bool} {p : gr × ByteArray → Bool} (a : ∀ x, f x = some (p x)) {c : gu} (d : hZ c = true) (l : List ByteArray) (g : l.length ≤ 900000000) :
  ∃ names, wR l names ∧ pO c f l = some (((if c.Kind = 1 then [c.gU] else names).filter (xP c p names)).map fun w => (⟨c.Head, w⟩ : gx)) := by
 obtain ⟨s, e, b⟩ := Eh l (by omega)
 refine ⟨s, b, ?_⟩
 have hlen : s.length ≤ l.length := lJ (rO _) b
 unfold pO
 rw [nE, d]
 simp only [aa, cn, aq, bj]
 rw [e]
 simp only [aa]
 by_cases h1 : c.Kind = 1
 ·rw [ak (by simp [h1]), ak h1]
  simp only [aa]
  rw [uc a c s _ [] (by simp)]
  simp
 ·rw [ai (by simp [h1]), ai h1]
  simp only [aa]
  rw [uc a c s _ [] (by simp; omega)]
  simp
theorem DP {c : gu} {p : gr × ByteArray → Bool} {out : List gx} (hp : ∀ r w, p (r, w) = true ↔ (⟨r, w⟩ : gx) ∈ out) (s : List ByteArray) (w : ByteArray) : xP c p s w = true ↔ mq out c s w := by
 unfold xP mq
 by_cases h1 : c.Kind = 1
 ·rw [ak h1, iy]
  constructor
  ·intro h; exact .inl ⟨h1, h⟩
  ·rintro (h | h | h | h)
   ·exact h.2
   ·exact absurd (h1.symm.trans h.1) (by decide)
   ·exact absurd (h1.symm.trans h.1) (by decide)
   ·exact absurd h1 h.1
 rw [ai h1]
 by_cases a : c.Kind = 2
 ·rw [ak a, hp]
  constructor
  ·intro h; exact .inr (.inl ⟨a, h⟩)
  ·rintro (h | h | h | h)
   ·exact absurd h.1 h1
   ·exact h.2
   ·exact absurd (a.symm.trans h.1) (by decide)
   ·exact absurd a h.2.1
 rw [ai a]
 by_cases d : c.Kind = 4
 ·rw [ak d, aC, hp, hp]
  constructor
  ·intro h; exact .inr (.inr (.inl ⟨d, h⟩))
  ·rintro (h | h | h | h)
   ·exact absurd h.1 h1
   ·exact absurd h.1 a
   ·exact h.2
   ·exact absurd d h.2.2.1
 rw [ai d, dK]
 constructor
 ·rintro ⟨b, g, h⟩
  rw [aC, hp, hp] at h
  exact .inr (.inr (.inr ⟨h1, a, d, b, g, h⟩))
 ·rintro (h | h | h | h)
  ·exact absurd h.1 h1
  ·exact absurd h.1 a
  ·exact absurd h.1 d
  ·obtain ⟨_, _, _, b, g, h⟩ := h
   exact ⟨b, g, by rw [aC, hp, hp]; exact h⟩
theorem za {C : List gu} {c : gu} (g : c ∈ C) (m : hZ c = true) {out : List gx} (d : ∀ f ∈ out, ke C f) {s : List ByteArray} {w : ByteArray} (h : mq out c s w) : ke C ⟨c.Head, w⟩ := by
 rcases h with ⟨h1, a⟩ | ⟨h1, a⟩ | ⟨h1, a, i⟩ | ⟨h1, a, i, b, _, k, l⟩
 ·subst a; exact .mem c g h1
 ·exact .inc c w g h1 (d _ a)
 ·exact .both c w g h1 (d _ a) (d _ i)
 ·have j : c.Kind = 3 := by
   rcases jA m with h | h | h | h
   ·exact absurd h.1 h1
   ·exact absurd h.1 a
   ·exact h.1
   ·exact absurd h.1 i
  exact .uT c b w g j (d _ k) (d _ l)
theorem BA {c : gu} (a : hZ c = true) (hk : c.Kind = 1) : ja c.gU = true := by
 rcases jA a with h | h | h | h
 ·exact h.2.1
 ·exact absurd (hk.symm.trans h.1) (by decide)
 ·exact absurd (hk.symm.trans h.1) (by decide)
 ·exact absurd (hk.symm.trans h.1) (by decide)
theorem mq.own {l : List gx} {c : gu} {names : List ByteArray} {w : ByteArray} (h : mq l c names w) : mq l c (l.map (·.gU)) w := by
 rcases h with h | h | h | ⟨d, g, i, b, _, a, j⟩
 ·exact .inl h
 ·exact .inr (.inl h)
 ·exact .inr (.inr (.inl h))
 ·exact .inr (.inr (.inr ⟨d, g, i, b, aK.2 ⟨_, a, rfl⟩, a, j⟩))
theorem mq.subset {a b : List gx} {c : gu} {names : List ByteArray} {w : ByteArray} (h : mq a c names w) (d : ∀ f ∈ a, f ∈ b) : mq b c names w := by
 rcases h with h | h | h | ⟨i, j, k, g, l, m, n⟩
 ·exact .inl h
 ·exact .inr (.inl ⟨h.1, d _ h.2⟩)
 ·exact .inr (.inr (.inl ⟨h.1, d _ h.2.1, d _ h.2.2⟩))
 ·exact .inr (.inr (.inr ⟨i, j, k, g, l, d _ m, d _ n⟩))
def tot {α : Type} (a : List (List α)) : Nat := (a.map List.length).sum
section
variable {κ γ : Type} [DecidableEq κ] {beq : κ → κ → Bool}
def jX (K : List κ) (g : κ → γ) : List (κ × γ) := K.map fun r => (r, g r)
theorem pA {K : List κ} {g g' : κ → γ} (h : ∀ r ∈ K, g r = g' r) : jX K g = jX K g' := eH fun r a => by rw [h r a]
theorem vY (a : ∀ {x y}, beq x y = true ↔ x = y) (K : List κ) (g : κ → γ) (x : κ) : gV beq (jX K g) x = if x ∈ K then some (g x) else none := by
 induction K with
 | nil => rfl
 | cons k K ih =>
  show gV beq ((k, g k) :: jX K g) x = _
  rw [sG, ih]
  by_cases h : x = k
  ·subst h; simp [a]
  ·have : ¬ beq x k = true := fun e => h (a.1 e)
   simp [this, h]
theorem wm (c : ∀ {x y}, beq x y = true ↔ x = y) {K : List κ} (k : K.Nodup) (g : κ → γ) (x : κ) (v : γ) : iN beq (jX K g) x v = jX (ins beq K x) (fun r => if r = x then v else g r) := by
 by_cases d : x ∈ K
 ·obtain ⟨A, B, rfl⟩ := du d
  have j : ∀ r ∈ A, r ≠ x := fun r a e => by
   subst e
   exact (aD.1 k).2.2 r a r (by simp) rfl
  have m : ∀ r ∈ B, r ≠ x := fun r a e => by
   subst e
   exact (bO.1 (aD.1 k).2.1).1 a
  have l : jX (A ++ x :: B) g = jX A g ++ (x, g x) :: jX B g := by simp [jX]
  rw [l, oE c (fun p hp => by obtain ⟨r, a, rfl⟩ := aK.1 hp; exact j r a)]
  rw [ins, ak ((kK c _ _).2 d)]
  have i : jX (A ++ x :: B) (fun r => if r = x then v else g r) = jX A (fun r => if r = x then v else g r) ++ (x, v) :: jX B (fun r => if r = x then v else g r) := by simp [jX]
  rw [i, pA (K := A) (g' := g) (fun r a => ai (j r a)), pA (K := B) (g' := g) (fun r a => ai (m r a))]
 ·have b : ∀ r ∈ K, r ≠ x := fun r a e => d (e ▸ a)
  rw [qQ c (fun p hp => by obtain ⟨r, a, rfl⟩ := aK.1 hp; exact b r a)]
  rw [ins, ai (fun h => d ((kK c _ _).1 h))]
  have i : jX (K ++ [x]) (fun r => if r = x then v else g r) = jX K (fun r => if r = x then v else g r) ++ [(x, v)] := by simp [jX]
  rw [i, pA (K := K) (g' := g) (fun r a => ai (b r a))]
end
instance : DecidableEq gr := fun a b => decidable_of_iff (gB a b = true) gC
def jd (l : List gr) (r : gr) : Nat := l.countP fun x => gB x r
def nI (s : List gu) : List gr := s.flatMap iE
def kW (s : List gu) : List gr := s.map (·.Head)
def pa (h n sz : gr → Nat) (r : gr) : gD := ⟨r, h r, n r, sz r⟩
def up (h : gr → Nat) (x : gr) : gr → Nat := fun r => if r = x then h r + 1 else h r
structure sB (K : List gr) (h n : gr → Nat) (m : Nat) : Prop where
 nd : K.Nodup
 z : ∀ r, r ∉ K → h r = 0 ∧ n r = 0
 le : ∀ r, h r ≤ m ∧ n r ≤ m
theorem sB.get {K : List gr} {h n : gr → Nat} {m : Nat} (H : sB K h n m) (sz : gr → Nat) (x : gr) : (iP gB (jX K (pa h n sz)) x (⟨(⟨zS, zS⟩ : gr), 0, 0, 0⟩ : gD)).lH = h x ∧ (iP gB (jX K (pa h n sz)) x (⟨(⟨zS, zS⟩ : gr), 0, 0, 0⟩ : gD)).kM = n x := by
 unfold iP
 rw [vY gC]
 by_cases a : x ∈ K
 ·rw [ak a]; exact ⟨rfl, rfl⟩
 ·rw [ai a]
  obtain ⟨h1, b⟩ := H.z x a
  rw [h1, b]; exact ⟨rfl, rfl⟩
theorem sB.F4 {K : List gr} {h n : gr → Nat} {m : Nat} (H : sB K h n m) (x : gr) : sB (ins gB K x) (up h x) n (m + 1) := by
 refine ⟨vg gC H.nd x, fun r a => ?_, fun r => ?_⟩
 ·rw [vn gC, not_or] at a
  rw [up, ai a.2]; exact H.z r a.1
 ·have := H.le r
  unfold up
  split <;> omega
theorem sB.FU {K : List gr} {h n : gr → Nat} {m : Nat} (H : sB K h n m) (x : gr) : sB (ins gB K x) h (up n x) (m + 1) := by
 refine ⟨vg gC H.nd x, fun r a => ?_, fun r => ?_⟩
 ·rw [vn gC, not_or] at a
  rw [up, ai a.2]; exact H.z r a.1
 ·have := H.le r
  unfold up
  split <;> omega
theorem qe {a : Nat} (h : a ≤ 1000000000) : wi0 .i64 ((a : Int) + 1) = ((a + 1 : Nat) : Int) := by
 rw [iY (by omega) (by omega)]; omega
section
variable {R10 : (List (gr × (List (ByteArray × Bool)))) × (List gu) × (List (gr × (List gu))) × (List (ByteArray × (List gu))) × (List gx) × Int} {sz : gr → Nat}
theorem Ew (c : ∀ r, ∃ q, iT R10.1 R10.2.1 R10.2.2.1 R10.2.2.2.1 R10.2.2.2.2.1 R10.2.2.2.2.2 r = some q ∧ q.length = sz r) : ∀ (a : List gr) (i : Nat) {K : List gr} {h n : gr → Nat} {m : Nat}, 1 ≤ i → sB K h n m → m + a.length ≤ 1000000000 →
  jQ R10 a i (jX K (pa h n sz)) = some (jX (a.foldl (ins gB) K) (pa h (fun r => n r + jd a r) sz)) ∧ sB (a.foldl (ins gB) K) h (fun r => n r + jd a r) (m + a.length)
 | [], i, K, h, n, m, g, H, hm => ⟨by rw [jQ]; rfl, H⟩
 | x :: a, i, K, h, n, m, g, H, hm => by
  obtain ⟨q, l, j⟩ := c x
  obtain ⟨g1, g2⟩ := H.get sz x
  have H1 := H.FU x
  obtain ⟨e, H2⟩ := Ew c a (i + 1) (by omega) H1 (by simp at hm; omega)
  have k : (fun r => up n x r + jd a r) = fun r => n r + jd (x :: a) r := by
   funext r
   unfold up jd
   rw [cc]
   by_cases b : r = x
   ·subst b; simp only [aY, gC]; omega
   ·have : ¬ gB x r = true := fun e => b (gC.1 e).symm
    simp [b, this]
  rw [k] at e H2
  refine ⟨?_, by rw [cY]; have := H2; rwa [show m + 1 + a.length = m + (x :: a).length by simp; omega] at this⟩
  rw [jQ]
  have d : ((i : Int) == 0) = false := by simp; omega
  rw [d]
  simp only [aq, bj, aa, l, g1, g2]
  rw [wm gC H.nd, cY, ← e]
  congr 1
  refine pA fun r _ => ?_
  have hle := (H.le x).2
  by_cases b : r = x
  ·subst b
   rw [ak rfl, qe (by simp at hm; omega)]
   simp [pa, up, j]
  ·rw [ai b]; simp [pa, up, b]
theorem FW (b : ∀ r, ∃ q, iT R10.1 R10.2.1 R10.2.2.1 R10.2.2.2.1 R10.2.2.2.2.1 R10.2.2.2.2.2 r = some q ∧ q.length = sz r) (x : gr) (a : List gr) {K : List gr} {h n : gr → Nat} {m : Nat} (H : sB K h n m) (hm : m + 1 + a.length ≤ 1000000000) :
  jQ R10 (x :: a) 0 (jX K (pa h n sz)) = some (jX ((x :: a).foldl (ins gB) K) (pa (up h x) (fun r => n r + jd a r) sz)) ∧ sB ((x :: a).foldl (ins gB) K) (up h x) (fun r => n r + jd a r) (m + 1 + a.length) := by
 obtain ⟨q, g, d⟩ := b x
 obtain ⟨g1, g2⟩ := H.get sz x
 have H1 := H.F4 x
 obtain ⟨e, H2⟩ := Ew b a 1 (by omega) H1 (by omega)
 refine ⟨?_, H2⟩
 rw [jQ]
 simp only [Int.natCast_zero, Int.cast_ofNat_Int, bR, aY, aa, g, g1, g2]
 rw [wm gC H.nd, cY, ← e]
 congr 1
 refine pA fun r _ => ?_
 have hle := (H.le x).1
 by_cases c : r = x
 ·subst c
  rw [ak rfl, qe (by omega)]
  simp [pa, up, d]
 ·rw [ai c]; simp [pa, up, c]
def lF (c : gu) : List gr := c.Head :: iE c
theorem u0 (c : gu) : (iE c).length ≤ 2 := by unfold iE; split <;> (try split) <;> simp
theorem Fz (a : ∀ r, ∃ q, iT R10.1 R10.2.1 R10.2.2.1 R10.2.2.2.1 R10.2.2.2.2.1 R10.2.2.2.2.2 r = some q ∧ q.length = sz r) : ∀ (xs : List gu) {K : List gr} {h n : gr → Nat} {m : Nat}, (∀ c ∈ xs, hZ c = true) → sB K h n m → m + 3 * xs.length ≤ 1000000000 →
  ∃ K' g, kv R10 xs (jX K (pa h n sz)) = kv R10 [] (jX K' (pa (fun r => h r + jd (kW xs) r) (fun r => n r + jd (nI xs) r) sz)) ∧ (∀ r, r ∈ K' ↔ r ∈ K ∨ ∃ c ∈ xs, r ∈ lF c) ∧ sB K' (fun r => h r + jd (kW xs) r) (fun r => n r + jd (nI xs) r) g ∧ K'.length ≤ K.length + 3 * xs.length
 | [], K, h, n, m, b, H, hm => ⟨K, m, rfl, fun r => by simp, H, by simp⟩
 | c :: xs, K, h, n, m, b, H, hm => by
  have p := u0 c
  simp only [az] at hm
  obtain ⟨e, H1⟩ := FW a c.Head (iE c) H (by omega)
  obtain ⟨K', g, i, hk, H2, l⟩ := Fz a xs (fun c j => b c (.tail _ j)) H1 (by omega)
  have k : (fun r => up h c.Head r + jd (kW xs) r) = fun r => h r + jd (kW (c :: xs)) r := by
   funext r
   unfold up jd kW
   rw [aM, cc]
   by_cases d : r = c.Head
   ·subst d; simp only [aY, gC]; omega
   ·have : ¬ gB c.Head r = true := fun e => d (gC.1 e).symm
    simp [d, this]
  have o : (fun r => n r + jd (iE c) r + jd (nI xs) r) = fun r => n r + jd (nI (c :: xs)) r := by
   funext r
   unfold jd nI
   rw [cj, List.countP_append]; omega
  rw [k, o] at i H2
  refine ⟨K', g, ?_, fun r => ?_, H2, ?_⟩
  ·conv => lhs; rw [kv]
   rw [BJ (b c (.head _)), aa]
   rw [show c.Head :: iE c = c.Head :: iE c from rfl, e, aa, i]
  ·rw [hk, uo]
   simp [lF, or_assoc]
  ·have := rW (c.Head :: iE c) K
   simp only [az] at this ⊢
   omega
end
theorem x8 {lt : gD → gD → Prop} (c : ∀ x, ¬ lt x x) (has : ∀ x y z, lt x y → lt y z → lt x z) : ∀ {a b : List gD}, a.Perm b → a.Pairwise lt → b.Pairwise lt → a = b
 | [], b, h, _, _ => (List.nil_perm.1 h).symm
 | x :: a, b, h, j, k => by
  cases b with
  | nil => exact absurd (List.perm_nil.1 h) (by simp)
  | cons y b =>
   have g : x = y := by
    have d : x ∈ y :: b := h.mem_iff.1 (.head _)
    have i : y ∈ x :: a := h.mem_iff.2 (.head _)
    rcases ah.1 d with e | d
    ·exact e
    rcases ah.1 i with e | i
    ·exact e.symm
    exact absurd (has _ _ _ ((bN.1 j).1 y i) ((bN.1 k).1 x d)) (c _)
   subst g
   rw [x8 c has ((List.perm_cons x).1 h) (bN.1 j).2 (bN.1 k).2]
theorem DO {K S : List gr} (A : K.Nodup) (E : S.Pairwise (fun a b => nT a b = true)) (hm : ∀ r, r ∈ K ↔ r ∈ S) (h n sz : gr → Nat) (J : K.length ≤ 1000000000) :
  vv 56 (fun (x : (gD × gD)) => iR x.1 x.2) (jX K (pa h n sz)) = some (S.map (pa h n sz)) := by
 unfold vv
 rw [ak (by simp only [jX, bG]; exact ⟨by omega, aX J (by decide)⟩)]
 refine wK fun o k => ?_
 have l : (jX K (pa h n sz)).map (·.2) = K.map (pa h n sz) := by simp [jX, db]
 rw [l] at k
 have j : ∀ x y : gD, ∃ c, iR x y = some c ∧ (c < 0 ↔ nT x.gr y.gr = true) := fun x y => by
  obtain ⟨c, e, s⟩ := rI x.gr y.gr
  exact ⟨c, by rw [iR, e]; rfl, s⟩
 have m : ∀ x ∈ o, x = pa h n sz x.gr := fun x v => by
  obtain ⟨r, _, rfl⟩ := aK.1 (k.mem_iff.1 v); rfl
 have g := ub (fun _ => True)
 have d : ∀ x y : gD, mn (fun (x : (gD × gD)) => iR x.1 x.2) x y = nT x.gr y.gr := fun x y => by
  obtain ⟨c, e, s⟩ := j x y
  unfold mn
  simp only [e]
  rw [bz, ← s]; simp
 have ok : tE (fun (x : (gD × gD)) => iR x.1 x.2) o := by
  refine ⟨fun x _ y _ => ?_, fun x _ => ?_, fun x _ y _ z _ => ?_, fun x v y L h1 i => ?_, by rw [k.length_eq]; simp; omega⟩
  ·obtain ⟨c, e, _⟩ := j x y; exact ⟨c, e⟩
  ·rw [d, dz]; exact g.irrefl _ trivial
  ·rw [d, d, d]; exact g.trans _ _ _ trivial trivial trivial
  ·rw [d] at h1 i
   rcases g.total x.gr y.gr trivial trivial with h | h | h
   ·rw [h1] at h; cases h
   ·rw [m x v, m y L, h]
   ·rw [i] at h; cases h
 rw [zI ok]
 congr 1
 have hp : (lx (fun (x : (gD × gD)) => iR x.1 x.2) o).Perm o := dn _ _
 have p : K.Perm S := (List.perm_ext_iff_of_nodup A (E.imp (fun {a b} h e => by subst e; exact g.irrefl a trivial h))).2 hm
 refine x8 (lt := fun a b => nT a.gr b.gr = true) (fun x => g.irrefl _ trivial) (fun x y z => g.trans _ _ _ trivial trivial trivial) (hp.trans (k.trans (p.map _))) ?_ (by rw [ch]; exact E)
 have t : (lx (fun (x : (gD × gD)) => iR x.1 x.2) o).Nodup := by
  rw [(hp.trans k).nodup_iff, List.Nodup, ch]
  exact A.imp (fun {a b} q e => q (ap gD.gr e))
 have u : (lx (fun (x : (gD × gD)) => iR x.1 x.2) o).Pairwise (fun a b => (!mn (fun (x : (gD × gD)) => iR x.1 x.2) b a) = true) := by
  refine rq (P := fun _ => True) (fun a b c _ _ _ h1 i => ?_) (fun a b _ _ => ?_) o (fun _ _ => trivial)
  ·rw [d] at h1 i ⊢
   rw [cP, dz] at h1 i ⊢
   intro w
   rcases g.total b.gr c.gr trivial trivial with h | h | h
   ·exact h1 (g.trans _ _ _ trivial trivial trivial h w)
   ·rw [h] at h1; exact h1 w
   ·exact i h
  ·rw [d, d]
   cases h1 : nT b.gr a.gr with
   | false => simp
   | true =>
    cases i : nT a.gr b.gr with
    | false => simp
    | true => exact absurd (g.trans _ _ _ trivial trivial trivial h1 i) (g.irrefl _ trivial)
 refine (u.and t).imp_of_mem (fun {a b} G I h => ?_)
 rw [d, cP, dz] at h
 rcases g.total a.gr b.gr trivial trivial with h1 | h1 | h1
 ·exact h1
 ·refine absurd ?_ h.2
  rw [m a (hp.mem_iff.1 G), m b (hp.mem_iff.1 I), h1]
 ·exact absurd h1 h.1
theorem CK {c : gu} (h : hZ c = true) : rz c = some (lF c) := by
 unfold rz lF iE
 rw [qb, h]
 simp only [aa, cn, aq, bj]
 by_cases h1 : c.Kind = 1
 ·simp [h1]
 ·by_cases a : c.Kind = 4
  ·simp [a]
  ·simp [h1, a]
theorem Du (r : gr) (d : gD) : ∀ (xs : List gu) (h n : Nat), (∀ c ∈ xs, hZ c = true) → h + xs.length ≤ 1000000000 → n + 2 * xs.length ≤ 1000000000 →
  ky r xs (⟨d.gr, (h : Int), (n : Int), d.pG⟩ : gD) = some (⟨d.gr, ((h + jd (kW xs) r : Nat) : Int), ((n + jd (nI xs) r : Nat) : Int), d.pG⟩ : gD)
 | [], h, n, _, _, _ => by rw [ky]; rfl
 | c :: xs, h, n, k, w, x => by
  simp only [az] at w x
  have hk := xb (k c (.head _))
  have s : jd (kW (c :: xs)) r = jd (kW xs) r + (if gB c.Head r = true then 1 else 0) := by
   unfold jd kW
   rw [aM, cc]
  have t : jd (nI (c :: xs)) r = jd (iE c) r + jd (nI xs) r := by
   unfold jd nI
   rw [cj, List.countP_append]
  have u : jd (iE c) r = (if (decide (c.Kind > 1) && gB c.B r) = true then 1 else 0) + (if ((c.Kind == 4) && gB c.C r) = true then 1 else 0) := by
   unfold jd iE
   by_cases h1 : c.Kind = 1
   ·simp [h1]
   ·by_cases j : c.Kind = 4
    ·rw [ai h1, ak j, cc, cc, List.countP_nil]
     simp [j]; omega
    ·have : c.Kind > 1 := by omega
     rw [ai h1, ai j, cc, List.countP_nil]
     simp [this, j]
  rw [ky]
  have key : ∀ (g i : Nat), g ≤ h + 1 → i ≤ n + 2 → ky r xs (⟨d.gr, (g : Int), (i : Int), d.pG⟩ : gD) = some (⟨d.gr, ((g + jd (kW xs) r : Nat) : Int), ((i + jd (nI xs) r : Nat) : Int), d.pG⟩ : gD) := fun g i a b => Du r d xs g i (fun c v => k c (.tail _ v)) (by omega) (by omega)
  rw [s, t, u]
  have w1 : wi0 .i64 ((h : Int) + 1) = ((h + 1 : Nat) : Int) := qe (by omega)
  have w2 : wi0 .i64 ((n : Int) + 1) = ((n + 1 : Nat) : Int) := qe (by omega)
  have y : wi0 .i64 (((n + 1 : Nat) : Int) + 1) = ((n + 2 : Nat) : Int) := qe (by omega)
  generalize gB c.Head r = q
  generalize decide (c.Kind > 1) = l
  generalize (c.Kind == 4) = m
  generalize gB c.B r = o
  generalize gB c.C r = p
  cases q <;> cases l <;> cases m <;> cases o <;> cases p <;> simp only [aq, bj, aY, aa, w1, w2, y, Bool.and_true, Bool.and_false, eB, Bool.false_and, Bool.and_self] <;> rw [key _ _ (by omega) (by omega)] <;> congr 3 <;> omega
theorem Dl {F : List gx} {s : List gu} {sz : gr → Nat} (g : ∀ c ∈ s, hZ c = true) (j : s.length ≤ 100000000) (a : ∀ r, ∃ q, nD F r = some q ∧ q.length = sz r) : ∀ (b : List gr) (acc : List gD), acc.length + b.length ≤ 1000000000 →
  mA F s b acc = some (acc ++ b.map (pa (jd (kW s)) (jd (nI s)) sz))
 | [], acc, _ => by rw [mA]; simp
 | r :: b, acc, h => by
  simp only [az] at h
  obtain ⟨q, i, d⟩ := a r
  rw [mA, i]
  simp only [aa]
  rw [show (⟨r, 0, 0, (q.length : Int)⟩ : gD) = ⟨(⟨r, 0, 0, (q.length : Int)⟩ : gD).gr, ((0 : Nat) : Int), ((0 : Nat) : Int), (⟨r, 0, 0, (q.length : Int)⟩ : gD).pG⟩ from rfl, Du r _ s 0 0 g (by omega) (by omega)]
  simp only [aa, de]
  rw [jq (by simp; omega) (by simp; omega), aa, Dl g j a b _ (by simp; omega), ar, d]
  rfl
theorem Dz {F : List gx} {s : List gu} : ∀ (xs : List gu) (acc : List gr), (∀ c ∈ xs, hZ c = true) → acc.length + 3 * xs.length ≤ 1000000000 → li F s xs acc = li F s [] (acc ++ xs.flatMap lF)
 | [], acc, _, _ => by simp
 | c :: xs, acc, a, d => by
  simp only [az] at d
  have g := u0 c
  have h : (lF c).length ≤ 3 := by simp [lF]; omega
  conv => lhs; rw [li]
  rw [CK (a c (.head _)), aa, jq (by omega) (by omega), aa, Dz xs _ (fun c b => a c (.tail _ b)) (by simp; omega), ar, cj]
theorem z8 {c : gu} (h : hZ c = true) : ∀ r ∈ lF c, ir r = true := by
 unfold hZ at h
 rw [aC] at h
 obtain ⟨i, h⟩ := h
 intro r a
 rcases ah.1 a with rfl | a
 ·exact i
 unfold iE at a
 by_cases h1 : c.Kind = 1
 ·simp [h1] at a
 ·by_cases b : c.Kind = 4
  ·simp [b] at a h
   rcases a with rfl | rfl
   ·exact h.1.1.1.1
   ·exact h.1.1.1.2
  ·rw [ai h1, ai b, aA] at a
   subst a
   by_cases d : c.Kind = 2
   ·simp [d] at h; exact h.1.1.1
   ·by_cases g : c.Kind = 3
    ·simp [g] at h; exact h.1.1.1.1
    ·simp [h1, d, g, b] at h
theorem w7 : ∀ s : List gu, (s.flatMap lF).length ≤ 3 * s.length
 | [] => by simp
 | c :: s => by
  have h1 := u0 c
  have a := w7 s
  have b : (lF c).length = 1 + (iE c).length := by simp [lF]; omega
  rw [cj, an, az]
  omega
structure FY (l : List gu) (s : List gu) (S : List gr) (sz : gr → Nat) : Prop where
 set : tp l s
 FA : S.Pairwise (fun a b => nT a b = true)
 mem : ∀ r, r ∈ S ↔ ∃ c ∈ s, r ∈ lF c
 size : ∀ r, ∃ L : List ByteArray, L.Nodup ∧ sz r = L.length ∧ ∀ w, w ∈ L ↔ ke s ⟨r, w⟩
def yf (s : List gu) (S : List gr) (sz : gr → Nat) : List gD := S.map (pa (jd (kW s)) (jd (nI s)) sz)
theorem xf (l : List gu) (Y : l.length ≤ 30000) : ∃ s S sz, FY l s S sz ∧ s.length ≤ l.length ∧ S.length ≤ 3 * l.length ∧ km l = some (yf s S sz) ∧ sQ l = some (yf s S sz) ∧ mU l = some s ∧ nR l = some s := by
 obtain ⟨s, J, j⟩ := Et l (by omega)
 obtain ⟨s2, L, G⟩ := xA l (by omega)
 obtain rfl : s2 = s := lR.unique ql G j
 obtain ⟨C, T, I, ws, n, O, m1, d, y⟩ := Fj l (by omega)
 obtain ⟨C2, F, P, g, p⟩ := DT l Y
 have x : ∀ c, c ∈ C2 ↔ c ∈ C := fun c => by rw [d, p]
 have M : vE (ke C) F := ⟨g.1, fun f => (g.2 f).trans (ke.congr x f)⟩
 have i : SM C := by unfold SM; omega
 have a1 := DK M i
 have k : ∀ c ∈ s2, hZ c = true := fun c v => ((j.2 c).1 v).2
 have b : s2.length ≤ l.length := lJ ql j
 have A : ∀ r, ∃ q, iT (mm T) C I ws [] n r = some q ∧ q.length = (iJ (jS T r)).length := fun r => ⟨_, ua i.small m1.right m1.sU C I ws [] n r, rfl⟩
 have E : ∀ r, ∃ q, nD F r = some q ∧ q.length = (iJ (jS T r)).length := fun r => ⟨_, zQ m1 M (by omega) r, rfl⟩
 have W : (s2.flatMap lF).length ≤ 3 * s2.length := by
  exact w7 s2
 obtain ⟨S, Q, o⟩ := DE (s2.flatMap lF) (by omega)
 have a : ∀ r, r ∈ S ↔ ∃ c ∈ s2, r ∈ lF c := fun r => by
  rw [o.2, dL]
  exact ⟨fun h => h.1, fun h => ⟨h, let ⟨c, v, Z⟩ := h; z8 (k c v) r Z⟩⟩
 have u : S.length ≤ 3 * l.length := aX (lJ (ub _) o) (by omega)
 refine ⟨s2, S, fun r => (iJ (jS T r)).length, ⟨j, o.1, a, fun r => ⟨iJ (jS T r), (dN (by unfold iJ; exact dn _ _)).2 (s8 m1.sU.nd r), rfl, fun w => by
  rw [oX, ← pL (f := ⟨r, w⟩) m1.sU.keys, m1.all]
  exact ke.congr (fun c => by rw [d, j.2]) _⟩⟩, b, u, ?_, ?_, J, L⟩
 ·unfold km
  rw [J, aa, O, aa]
  obtain ⟨K', m', R, U, H, t⟩ := Fz (R10 := (mm T, C, I, ws, [], n)) A s2 (K := []) (h := fun _ => 0) (n := fun _ => 0) (m := 0) k ⟨by simp, fun r _ => ⟨rfl, rfl⟩, fun r => ⟨aJ _, aJ _⟩⟩ (by omega)
  rw [show ([] : List (gr × gD)) = jX [] (pa (fun _ => 0) (fun _ => 0) fun r => (iJ (jS T r)).length) from rfl, R, kv, jo, aa]
  rw [DO H.nd o.1 (fun r => by rw [U, a]; simp) _ _ _ (by simp at t; omega), aa]
  simp only [de]
  rfl
 ·unfold sQ
  rw [L, aa, P, aa, Dz s2 [] k (by simp; omega), bn, li, Q, aa, Dl k (by omega) E S [] (by simp; omega)]
  rfl
def wW : List gD → gD → gD
 | [], b => b
 | x :: xs, b => if x.kM > b.kM then wW xs x else wW xs b
theorem xu : ∀ (xs : List gD) (b : gD), kN xs b = some (wW xs b, true)
 | [], b => rfl
 | x :: xs, b => by
  rw [kN, wW]
  by_cases h : x.kM > b.kM
  ·rw [ak (by simpa using h), ak h, xu]
  ·rw [ai (by simpa using h), ai h, xu]
def qu (s : List gu) (r : gr) : Bool := s.all fun c => !(gB c.Head r) || c.Kind == 1
def ud (s : List gu) (w : gD) : Bool := decide (w.lH > 0) && (w.kM == 0) && qu s w.gr
def pD (s : List gu) (r : gr) : Nat := s.countP fun c => gB c.Head r && (c.Kind == 1)
theorem E9 (s : List gu) (r : gr) : pD s r ≤ jd (kW s) r := by
 unfold pD jd kW
 rw [List.countP_map]
 exact List.countP_mono_left fun c _ h => by simp at h ⊢; exact h.1
theorem zJ (r : gr) : ∀ s : List gu, (pD s r = jd (kW s) r) ↔ qu s r = true
 | [] => by simp [pD, jd, kW, qu]
 | c :: s => by
  have h1 := E9 s r
  have ih := zJ r s
  have a : pD (c :: s) r = pD s r + (if (gB c.Head r && (c.Kind == 1)) = true then 1 else 0) := by unfold pD; rw [cc]
  have b : jd (kW (c :: s)) r = jd (kW s) r + (if gB c.Head r = true then 1 else 0) := by unfold jd kW; rw [aM, cc]
  have d : qu (c :: s) r = ((!(gB c.Head r) || c.Kind == 1) && qu s r) := rfl
  rw [a, b, d]
  cases gB c.Head r <;> cases (c.Kind == 1) <;> simp <;> first | exact ih | omega
theorem zm (l : List gu) : ∀ (xs : List gu) (K : List gr) (f : gr → Nat) (m : Nat), K.Nodup → (∀ r, r ∉ K → f r = 0) → (∀ r, f r ≤ m) → m + xs.length ≤ 1000000000 →
  ∃ K' : List gr, (∀ r, r ∉ K' → f r + pD xs r = 0) ∧ jt l xs (jX K (fun r => (f r : Int))) = jt l [] (jX K' (fun r => ((f r + pD xs r : Nat) : Int)))
 | [], K, f, m, d, b, _, _ => ⟨K, fun r a => by simp [b r a, pD], rfl⟩
 | c :: xs, K, f, m, d, b, hm, j => by
  simp only [az] at j
  by_cases hk : c.Kind = 1
  ·obtain ⟨K', h1, g⟩ := zm l xs (ins gB K c.Head) (up f c.Head) (m + 1) (vg gC d c.Head) (fun r a => by
    rw [vn gC, not_or] at a
    rw [up, ai a.2]; exact b r a.1) (fun r => by have := hm r; unfold up; split <;> omega) (by omega)
   have e : ∀ r, up f c.Head r + pD xs r = f r + pD (c :: xs) r := fun r => by
    unfold up pD
    rw [cc]
    by_cases a : r = c.Head
    ·subst a; simp [hk, gC.2]; omega
    ·have : ¬ gB c.Head r = true := fun e => a (gC.1 e).symm
     simp [a, this]
   refine ⟨K', fun r a => by rw [← e]; exact h1 r a, ?_⟩
   conv => lhs; rw [jt]
   rw [ak (by simp [hk])]
   have i : iP gB (jX K (fun r => (f r : Int))) c.Head 0 = f c.Head := by
    unfold iP
    rw [vY gC]
    by_cases h : c.Head ∈ K
    ·rw [ak h]; rfl
    ·rw [ai h, b _ h]; rfl
   have k := hm c.Head
   rw [i, qe (by omega), wm gC d]
   rw [show (jX (ins gB K c.Head) fun r => if r = c.Head then ((f c.Head + 1 : Nat) : Int) else (f r : Int)) = jX (ins gB K c.Head) (fun r => ((up f c.Head r : Nat) : Int)) from pA fun r _ => by
    unfold up; by_cases h : r = c.Head <;> simp [h], g]
   rw [show (fun r => ((up f c.Head r + pD xs r : Nat) : Int)) = fun r => ((f r + pD (c :: xs) r : Nat) : Int) from funext fun r => by rw [e]]
  ·obtain ⟨K', h1, g⟩ := zm l xs K f m d b hm (by omega)
   have e : ∀ r, pD (c :: xs) r = pD xs r := fun r => by
    unfold pD
    rw [cc]; simp [hk]
   refine ⟨K', fun r a => by rw [e]; exact h1 r a, ?_⟩
   conv => lhs; rw [jt]
   rw [ai (by simp [hk]), g]
   simp only [e]
theorem zn (s : List gu) {K : List gr} {f : gr → Nat} (b : ∀ r, f r = pD s r) (c : ∀ r, r ∉ K → f r = 0) : ∀ (ws : List gD) (acc : List gr), (∀ w ∈ ws, w.lH = (jd (kW s) w.gr : Nat)) → acc.length + ws.length ≤ 1000000000 →
  kj (jX K (fun r => (f r : Int))) ws acc = some (acc ++ (ws.filter (ud s)).map (·.gr))
 | [], acc, _, _ => by rw [kj]; simp
 | w :: ws, acc, hw, i => by
  simp only [az] at i
  have g : iP gB (jX K (fun r => (f r : Int))) w.gr 0 = pD s w.gr := by
   unfold iP
   rw [vY gC, ← b]
   by_cases h : w.gr ∈ K
   ·rw [ak h]; rfl
   ·rw [ai h, c _ h]; rfl
  have hp : ((pD s w.gr : Int) == w.lH) = qu s w.gr := by
   rw [hw w (.head _), bz, ← zJ, fX]; exact Int.ofNat_inj
  rw [kj, g, hp]
  rw [dr]
  have e : ud s w = (decide (w.lH > 0) && (w.kM == 0) && qu s w.gr) := rfl
  have d : (je 32 acc [w.gr]) = some (acc ++ [w.gr]) := jq (by simp; omega) (by simp; omega)
  have i1 := zn s b c ws (acc ++ [w.gr]) (fun w a => hw w (.tail _ a)) (by simp; omega)
  have i2 := zn s b c ws acc (fun w a => hw w (.tail _ a)) (by omega)
  rw [e]
  cases decide (w.lH > 0) <;> cases (w.kM == 0) <;> cases qu s w.gr <;> simp [d, i1, i2]
theorem BI (l : List gu) {s : List gu} {S : List gr} {sz : gr → Nat} (b : mU l = some s) (d : s.length ≤ 30000) (c : S.length ≤ 100000) (hw : km l = some (yf s S sz)) : lg l = some (((yf s S sz).filter (ud s)).map (·.gr)) := by
 unfold lg
 rw [b, aa]
 obtain ⟨K', h1, a⟩ := zm l s [] (fun _ => 0) 0 (by simp) (fun _ _ => rfl) (fun _ => aJ _) (by omega)
 rw [show ([] : List (gr × Int)) = jX [] (fun r => (((fun _ => 0) r : Nat) : Int)) from rfl, a, jt, hw, aa]
 rw [zn s (f := fun r => 0 + pD s r) (fun r => by omega) h1 (yf s S sz) [] (fun w hw => by obtain ⟨r, _, rfl⟩ := aK.1 hw; rfl) (by simp [yf]; omega)]
 rfl
theorem C5 {α : Type} {b : Bool} (h : b = true) (k : Unit → Option α) : (nS b).bind k = k () := by subst h; rfl
def Dv : List gD → gD × Bool
 | [] => ((⟨(⟨zS, zS⟩ : gr), 0, 0, 0⟩ : gD), false)
 | x :: xs => (wW xs x, true)
theorem D2 (l : List gu) {ws : List gD} (hw : km l = some ws) (b : ws.length ≤ 1000000000) : oF l = some (Dv ws) := by
 unfold oF
 rw [hw, aa]
 cases ws with
 | nil => rfl
 | cons x xs =>
  have a : (((x :: xs).length : Int) == 0) = false := by simp; omega
  rw [a]
  simp only [aq, bj]
  rw [show kd (x :: xs) 0 = some x from rfl, aa]
  refine (C5 (by simp; omega) _).trans (xu xs x)
open Classical in
noncomputable def rD (had : List gx) (c : gu) (N : List ByteArray) (w : ByteArray) : Bool := decide (mq had c N w)
theorem rY {a : List gx} {c : gu} {N : List ByteArray} {w : ByteArray} : rD a c N w = true ↔ mq a c N w := by unfold rD; simp
noncomputable def pF (b : List gx) (N : List ByteArray) (c : gu) : List ByteArray → List gx → List gx
 | [], a => a
 | w :: ws, a => pF b N c ws (if (rD b c N w && !(mJ iD b ⟨c.Head, w⟩) && !(mJ iD a ⟨c.Head, w⟩)) = true then a ++ [⟨c.Head, w⟩] else a)
noncomputable def nt (b : List gx) (N : List ByteArray) : List gu → List gx → List gx
 | [], a => a
 | c :: cs, a => nt b N cs (pF b N c N a)
theorem zK (F : List gx) (r : gr) (w : ByteArray) : kX F r w = some (mJ iD F ⟨r, w⟩) := by
 obtain ⟨b, e, a⟩ := pV F r w
 rw [e]
 congr 1
 rw [bz, a, kK jn]
theorem C6 (a : List gx) (c : gu) (N : List ByteArray) (w : ByteArray) : oe a c N w = some (rD a c N w) := by
 obtain ⟨b, e, d⟩ := AD a c N w
 rw [e]
 congr 1
 rw [bz, d, rY]
theorem wF (b : List gx) (N : List ByteArray) (c : gu) : ∀ (ws : List ByteArray) (a : List gx), (pF b N c ws a).length ≤ a.length + ws.length
 | [], a => aJ _
 | w :: ws, a => by
  rw [pF]
  refine aX (wF b N c ws _) ?_
  split <;> simp <;> omega
theorem wN (b : List gx) (N : List ByteArray) (c : gu) : ∀ (ws : List ByteArray) (a : List gx), a.length + ws.length ≤ 1000000000 → lL b c N ws a = some (pF b N c ws a)
 | [], a, _ => rfl
 | w :: ws, a, g => by
  simp only [az] at g
  rw [lL, pF, C6, zK, zK]
  have d : je 48 a [(⟨c.Head, w⟩ : gx)] = some (a ++ [⟨c.Head, w⟩]) := jq (by simp; omega) (by simp; omega)
  have i1 := wN b N c ws (a ++ [⟨c.Head, w⟩]) (by simp; omega)
  have i2 := wN b N c ws a (by omega)
  cases rD b c N w <;> cases mJ iD b ⟨c.Head, w⟩ <;> cases mJ iD a ⟨c.Head, w⟩ <;> simp [d, i1, i2]
theorem Dq (b : List gx) (N : List ByteArray) : ∀ (cs : List gu) (a : List gx), a.length + cs.length * N.length ≤ 1000000000 → kh b N cs a = some (nt b N cs a)
 | [], a, _ => rfl
 | c :: cs, a, d => by
  simp only [az, aW, fx] at d
  have h1 := wF b N c N a
  rw [kh, wN b N c N a (by omega), aa, Dq b N cs _ (by omega), nt]
def nn (rd : Int) (l : List gx) : List (gx × Int) := l.map fun f => (f, rd)
theorem xV {H : List (gx × Int)} {f : gx} : (gV iD H f).isSome = mJ iD (H.map (·.1)) f := by
 rw [bz, kK jn]
 rcases mz f H with h | ⟨A, x, B, rfl, a⟩
 ·rw [nu jn h]
  simp only [Option.isSome_none, aq, aK, false_iff]
  rintro ⟨p, hp, e⟩
  exact h p hp e
 ·rw [kB jn a]; simp
theorem DD (rd : Int) (b : List gx) (N : List ByteArray) (c : gu) {H : List (gx × Int)} (hH : H.map (·.1) = b) {br : ByteArray → Bool} (d : ∀ w, br w = rD b c N w) : ∀ (ws : List ByteArray) (a : List gx),
  mj rd ((ws.filter br).map fun w => (⟨c.Head, w⟩ : gx)) (H ++ nn rd a) = some (H ++ nn rd (pF b N c ws a))
 | [], a => rfl
 | w :: ws, a => by
  have hk : (H ++ nn rd a).map (·.1) = b ++ a := by rw [aO, hH]; simp [nn, db]
  have i1 := DD rd b N c hH d ws
  rw [dr, pF, d]
  cases h1 : rD b c N w with
  | false => simp [i1]
  | true =>
   simp only [aY, aM, eB]
   rw [mj, xV, hk]
   have e : mJ iD (b ++ a) ⟨c.Head, w⟩ = (mJ iD b ⟨c.Head, w⟩ || mJ iD a ⟨c.Head, w⟩) := by simp [mJ]
   rw [e]
   cases h : mJ iD b ⟨c.Head, w⟩ with
   | true => simp [i1]
   | false =>
    cases i : mJ iD a ⟨c.Head, w⟩ with
    | true => simp [i1]
    | false =>
     simp only [Bool.or_self, cU, Bool.and_self, aY]
     rw [qQ jn (fun p hp g => by
      have : mJ iD (b ++ a) ⟨c.Head, w⟩ = true := (kK jn _ _).2 (by rw [← hk, ← g]; exact aK.2 ⟨p, hp, rfl⟩)
      rw [e, h, i] at this; cases this), ar]
     rw [show nn rd a ++ [((⟨c.Head, w⟩ : gx), rd)] = nn rd (a ++ [⟨c.Head, w⟩]) by simp [nn]]
     exact i1 _
theorem sS (b : List gx) (N : List ByteArray) (c : gu) : ∀ (ws : List ByteArray) (a : List gx), pF b N c (ws.filter (rD b c N)) a = pF b N c ws a
 | [], a => rfl
 | w :: ws, a => by
  rw [dr, pF]
  cases h : rD b c N w with
  | false => simp [sS]
  | true => simp only [aY, pF, h]; rw [sS]
theorem By {N : List ByteArray} (b : N.Nodup) {a : ByteArray} (g : a ∈ N) {p : ByteArray → Bool} (hp : ∀ w, p w = true ↔ w = a) : N.filter p = [a] := by
 obtain ⟨A, B, rfl⟩ := du g
 have c : ∀ w ∈ A, ¬ p w = true := fun w hw e => by
  have := (hp w).1 e; subst this
  exact (aD.1 b).2.2 w hw w (by simp) rfl
 have d : ∀ w ∈ B, ¬ p w = true := fun w hw e => by
  have := (hp w).1 e; subst this
  exact (bO.1 (aD.1 b).2.1).1 hw
 rw [eV, dr, ak ((hp a).2 rfl), List.filter_eq_nil_iff.2 c, List.filter_eq_nil_iff.2 d]; rfl
structure yI (s : List gu) (N : List ByteArray) : Prop where
 right : ∀ c ∈ s, hZ c = true
 names : wR N N
 Ak : ∀ c ∈ s, c.Kind = 1 → c.gU ∈ N
 len : N.length ≤ 900000000
theorem Dk {s : List gu} {N : List ByteArray} (i : yI s N) (rd : Int) (b : List gx) {H : List (gx × Int)} (hH : H.map (·.1) = b) : ∀ (cs : List gu) (a : List gx), (∀ c ∈ cs, c ∈ s) →
  nm H N rd cs (H ++ nn rd a) = some (H ++ nn rd (nt b N cs a))
 | [], a, _ => rfl
 | c :: cs, a, k => by
  have d := k c (.head _)
  have m := i.right c d
  have hp : ∀ r w, (gV iD H (⟨r, w⟩ : gx)).isSome = true ↔ (⟨r, w⟩ : gx) ∈ b := fun r w => by rw [xV, hH, kK jn]
  obtain ⟨names, j, e⟩ := CR (f := fun (x : (gr × ByteArray)) => oH x.1 x.2 H) (p := fun x => (gV iD H (⟨x.1, x.2⟩ : gx)).isSome) (fun x => rfl) m N i.len
  obtain rfl : names = N := lR.unique (rO _) j i.names
  have l : ∀ w, xP c (fun x => (gV iD H (⟨x.1, x.2⟩ : gx)).isSome) names w = rD b c names w := fun w => by
   rw [bz, rY]
   exact DP (fun r w => hp r w) names w
  rw [nm, e, aa, DD rd b names c hH l, aa, Dk i rd b hH cs _ (fun c h => k c (.tail _ h)), nt]
  congr 4
  by_cases h1 : c.Kind = 1
  ·rw [ak h1]
   have g : ∀ w, rD b c names w = true ↔ w = c.gU := fun w => by
    rw [rY]
    unfold mq
    constructor
    ·rintro (h | h | h | h)
     ·exact h.2.symm
     ·exact absurd (h1.symm.trans h.1) (by decide)
     ·exact absurd (h1.symm.trans h.1) (by decide)
     ·exact absurd h1 h.1
    ·intro h; exact .inl ⟨h1, h.symm⟩
   rw [← sS b names c names a, By (nQ (rO _) (fun x n => ((j.2 x).1 n).2) j.1) (i.Ak c d h1) g]
  ·rw [ai h1]
def qD : Nat → List (List gx) → List (gx × Int)
 | _, [] => []
 | i, a :: b => nn i a ++ qD (i + 1) b
theorem AN : ∀ (i : Nat) (c : List (List gx)) (b : List gx), qD i (c ++ [b]) = qD i c ++ nn ((i + c.length : Nat) : Int) b
 | i, [], b => by simp [qD]
 | i, a :: c, b => by
  rw [bT, qD, qD, AN (i + 1) c b, ar, az, show i + 1 + c.length = i + (c.length + 1) by omega]
theorem wq : ∀ (i : Nat) (b : List (List gx)), (qD i b).map (·.1) = b.flatten
 | i, [] => rfl
 | i, a :: b => by rw [qD, aO, wq, bB]; simp [nn, db]
theorem uS (g : List gx) (N : List ByteArray) (c : gu) : ∀ (ws : List ByteArray) (d : List gx), (g ++ d).Nodup → (g ++ pF g N c ws d).Nodup ∧ ∀ f, f ∈ pF g N c ws d ↔ f ∈ d ∨ ∃ w ∈ ws, f = ⟨c.Head, w⟩ ∧ mq g c N w ∧ f ∉ g
 | [], d, h => ⟨h, fun f => by simp [pF]⟩
 | w :: ws, d, h => by
  rw [pF]
  by_cases m : (rD g c N w && !(mJ iD g ⟨c.Head, w⟩) && !(mJ iD d ⟨c.Head, w⟩)) = true
  ·rw [ak m]
   simp only [aC, cP, rY] at m
   obtain ⟨⟨h1, p⟩, q⟩ := m
   have k : (⟨c.Head, w⟩ : gx) ∉ g := fun hm => by rw [(kK jn _ _).2 hm] at p; cases p
   have n : (⟨c.Head, w⟩ : gx) ∉ d := fun hm => by rw [(kK jn _ _).2 hm] at q; cases q
   have o : (g ++ (d ++ [(⟨c.Head, w⟩ : gx)])).Nodup := by
    rw [← ar, aD]
    refine ⟨h, by simp, fun a l b r e => ?_⟩
    rw [aA] at r
    subst r e
    rcases aG.1 l with l | l
    ·exact k l
    ·exact n l
   obtain ⟨g1, g2⟩ := uS g N c ws _ o
   refine ⟨g1, fun f => ?_⟩
   rw [g2, aG, aA]
   constructor
   ·rintro ((h | h) | ⟨j, i, h⟩)
    ·exact .inl h
    ·subst h; exact .inr ⟨w, .head _, rfl, h1, k⟩
    ·exact .inr ⟨j, .tail _ i, h⟩
   ·rintro (h | ⟨j, i, h⟩)
    ·exact .inl (.inl h)
    ·rcases ah.1 i with rfl | i
     ·exact .inl (.inr h.1)
     ·exact .inr ⟨j, i, h⟩
  ·rw [ai m]
   obtain ⟨g1, g2⟩ := uS g N c ws _ h
   refine ⟨g1, fun f => ?_⟩
   rw [g2]
   constructor
   ·rintro (h | ⟨j, i, h⟩)
    ·exact .inl h
    ·exact .inr ⟨j, .tail _ i, h⟩
   ·rintro (h | ⟨j, i, h⟩)
    ·exact .inl h
    ·rcases ah.1 i with rfl | i
     ·obtain ⟨rfl, t, s⟩ := h
      refine .inl ?_
      refine cX fun hm => m ?_
      simp only [aC, cP, rY]
      refine ⟨⟨t, ?_⟩, ?_⟩
      ·rw [dz]; exact fun e => s ((kK jn _ _).1 e)
      ·rw [dz]; exact fun e => hm ((kK jn _ _).1 e)
     ·exact .inr ⟨j, i, h⟩
theorem qi (b : List gx) (N : List ByteArray) : ∀ (cs : List gu) (a : List gx), (b ++ a).Nodup → (b ++ nt b N cs a).Nodup ∧ ∀ f, f ∈ nt b N cs a ↔ f ∈ a ∨ ∃ c ∈ cs, ∃ w ∈ N, f = ⟨c.Head, w⟩ ∧ mq b c N w ∧ f ∉ b
 | [], a, h => ⟨h, fun f => by simp [nt]⟩
 | c :: cs, a, h => by
  obtain ⟨i, a2⟩ := uS b N c N a h
  obtain ⟨j, k⟩ := qi b N cs _ i
  rw [nt]
  refine ⟨j, fun f => ?_⟩
  rw [k, a2]
  constructor
  ·rintro ((h | ⟨w, h⟩) | ⟨g, d, h⟩)
   ·exact .inl h
   ·exact .inr ⟨c, .head _, w, h⟩
   ·exact .inr ⟨g, .tail _ d, h⟩
  ·rintro (h | ⟨g, d, h⟩)
   ·exact .inl (.inl h)
   ·rcases ah.1 d with rfl | d
    ·exact .inl (.inr h)
    ·exact .inr ⟨g, d, h⟩
inductive ol (s : List gu) (N : List ByteArray) : List (List gx) → Prop where
 | nil : ol s N []
 | snoc {Ls : List (List gx)} : ol s N Ls → nt Ls.flatten N s [] ≠ [] → ol s N (Ls ++ [nt Ls.flatten N s []])
theorem ol.nd {s : List gu} {N : List ByteArray} {a : List (List gx)} (h : ol s N a) : a.flatten.Nodup := by
 induction h with
 | nil => simp
 | @snoc a _ _ ih =>
  have := (qi a.flatten N s [] (by simpa using ih)).1
  simpa using this
theorem ol.pE {s : List gu} {N : List ByteArray} (j : yI s N) {b : List (List gx)} (h : ol s N b) : ∀ f ∈ b.flatten, ke s f := by
 induction h with
 | nil => simp
 | @snoc b i _ ih =>
  intro f a
  rw [dm, aG] at a
  rcases a with a | a
  ·exact ih f a
  ·simp only [bB, et, aU] at a
   rcases ((qi b.flatten N s [] (by simpa using i.nd)).2 f).1 a with h | ⟨c, g, w, hw, rfl, d, _⟩
   ·cases h
   ·exact za g (j.right c g) ih d
theorem ol.len {s : List gu} {N : List ByteArray} (d : yI s N) {a : List (List gx)} (h : ol s N a) : a.length ≤ a.flatten.length ∧ a.flatten.length ≤ s.length * s.length := by
 refine ⟨?_, ?_⟩
 ·induction h with
  | nil => simp
  | @snoc a _ b ih =>
   have : (nt a.flatten N s []).length ≠ 0 := fun e => b (bu.1 e)
   simp only [an, dx, dm, bB, et, aU]
   omega
 ·rw [← rK s]
  exact iK h.nd (fun f c => (h.pE d f c).uV)
theorem wZ {s : List gu} {N : List ByteArray} (k : yI s N) (d : s.length ≤ 30000) (o : s.length * N.length ≤ 900000000) : ∀ (n : Nat) (a : List (List gx)), ol s N a → s.length * s.length < n + a.flatten.length →
  ∃ Lf, ol s N Lf ∧ nt Lf.flatten N s [] = [] ∧ lX N s n (qD 0 a) (a.length : Int) = some (qD 0 Lf, (Lf.length : Int)) ∧ jb N s n a.flatten a = some Lf
 | 0, a, g, p => by have := (g.len k).2; omega
 | n + 1, a, g, p => by
  obtain ⟨t, u⟩ := g.len k
  have r : s.length * s.length ≤ 900000000 := dG d d
  have l := Dk k (a.length : Int) a.flatten (H := qD 0 a) (wq 0 a) s [] (fun c h => h)
  have m := Dq a.flatten N s [] (by simp; omega)
  rw [show nn (a.length : Int) [] = [] from rfl, aU] at l
  have hk : (qD 0 a).length = a.flatten.length := by rw [← wq 0 a, bG]
  rw [lX, jb, l, m]
  simp only [aa]
  by_cases j : nt a.flatten N s [] = []
  ·refine ⟨a, g, j, ?_, ?_⟩
   ·rw [j]; simp [nn]
   ·rw [j]; simp
  ·have q : (nt a.flatten N s []).length ≠ 0 := fun e => j (bu.1 e)
   have i := ol.snoc g j
   obtain ⟨m1, m2⟩ := i.len k
   have b : (a ++ [nt a.flatten N s []]).flatten = a.flatten ++ nt a.flatten N s [] := by simp
   rw [b, an] at m1 m2
   obtain ⟨Lf, g1, g2, g3, g4⟩ := wZ k d o n _ i (by rw [b, an]; omega)
   refine ⟨Lf, g1, g2, ?_, ?_⟩
   ·rw [ai (by simp [nn, hk]; omega)]
    rw [qe (by omega), ← g3, AN, de, an, dx]
   ·rw [ai (by simp; omega)]
    rw [jq (by simp only [an, dx] at *; omega) (by simp only [an, dx] at *; omega), aa, jq (by omega) (by omega), aa, ← b]
    exact g4
def tQ (s : List gu) : List ByteArray := s.flatMap fun c => [c.gU, c.Head.gG, c.B.gG, c.C.gG]
theorem yM : ∀ s : List gu, (tQ s).length = 4 * s.length
 | [] => rfl
 | c :: s => by
  have := yM s
  unfold tQ at this ⊢
  rw [cj, an, this]; simp; omega
theorem yi : ∀ (s : List gu) (acc : List ByteArray), acc.length + 4 * s.length ≤ 1000000000 → mf s acc = pw (acc ++ tQ s)
 | [], acc, _ => by rw [mf]; simp [tQ, ui]
 | c :: s, acc, h => by
  simp only [az] at h
  rw [mf, jq (by simp; omega) (by simp; omega), aa, yi s _ (by simp; omega)]
  simp [tQ]
theorem AI (f : gx) : ∀ (b : List (List gx)) (i : Nat), nN f b i = some (iP iD (qD i b) f 0, (gV iD (qD i b) f).isSome)
 | [], i => rfl
 | a :: b, i => by
  have hk : gV iD (nn i a) f = if mJ iD a f = true then some (i : Int) else none := by
   by_cases h : mJ iD a f = true
   ·rw [ak h]
    rcases mz f (nn i a) with d | ⟨A, x, B, e, j⟩
    ·have := (kK jn _ _).1 h
     exact absurd rfl (d (f, i) (aK.2 ⟨f, this, rfl⟩))
    ·rw [e, kB jn j]
     have : (f, x) ∈ nn i a := by rw [e]; simp
     obtain ⟨g, _, c⟩ := aK.1 this
     cases c; rfl
   ·rw [ai h]
    refine nu jn (fun p hp e => h ?_)
    obtain ⟨g, c, rfl⟩ := aK.1 hp
    exact (kK jn _ _).2 (by rw [← e]; exact c)
  rw [nN, zK, aa, qD]
  unfold iP
  rw [tP jn, hk]
  by_cases h : mJ iD a f = true
  ·rw [ak h, ak h]; rfl
  ·rw [ai h, ai h, AI f b (i + 1)]
   rfl
structure FP (l s : List gu) (N : List ByteArray) (Lf : List (List gx)) : Prop where
 set : tp l s
 F6 : yI s N
 rounds : ol s N Lf
 closed : nt Lf.flatten N s [] = []
theorem zo (l : List gu) (w : l.length ≤ 10000) : ∃ s N Lf, FP l s N Lf ∧ s.length ≤ l.length ∧ N.length ≤ 4 * s.length ∧ nz l = some (qD 0 Lf, (Lf.length : Int)) ∧ mh l = some Lf ∧ nR l = some s ∧
  mh l = jb N s jg [] [] := by
 obtain ⟨s, p, d⟩ := Et l (by omega)
 obtain ⟨s2, k, i⟩ := xA l (by omega)
 obtain rfl : s2 = s := lR.unique ql i d
 have j : s2.length ≤ l.length := lJ ql d
 have v := yM s2
 obtain ⟨N, q, a⟩ := Eh (tQ s2) (by omega)
 obtain ⟨N2, r, g⟩ := Az (tQ s2) (by omega)
 obtain rfl : N2 = N := lR.unique (rO _) g a
 have t : N2.length ≤ (tQ s2).length := lJ (rO _) a
 have n : ∀ c ∈ s2, hZ c = true := fun c b => ((d.2 c).1 b).2
 have o : yI s2 N2 := ⟨n, ⟨a.1, fun x => ⟨fun h => ⟨h, ((a.2 x).1 h).2⟩, fun h => h.1⟩⟩, fun c b hk => (a.2 _).2 ⟨dL.2 ⟨c, b, by simp⟩, BA (n c b) hk⟩, by omega⟩
 have hmul : s2.length * N2.length ≤ 900000000 := aX (dG (show s2.length ≤ 10000 by omega) (show N2.length ≤ 40000 by omega)) (by decide)
 have u : s2.length * s2.length ≤ 100000000 := dG (show s2.length ≤ 10000 by omega) (show s2.length ≤ 10000 by omega)
 obtain ⟨Lf, g1, g2, g3, g4⟩ := wZ o (by omega) hmul jg [] .nil (by rw [tV]; simp; omega)
 have m : mh l = jb N2 s2 jg [] [] := by
  unfold mh nv
  rw [k, aa, wE s2 [] (by simp; omega), bn, show (s2.flatMap fun c => [c.gU, c.Head.gG, c.B.gG, c.C.gG]) = tQ s2 from rfl, r, aa]
 refine ⟨s2, N2, Lf, ⟨d, o, g1, g2⟩, j, by omega, ?_, m.trans g4, k, m⟩
 unfold nz rr
 rw [p, aa, aa, yi s2 [] (by simp; omega), bn, q, aa]
 exact g3
theorem wT (k : oO = some true) (l : List gu) (f : gx) (o : l.length ≤ 10000000) (j : ∀ c ∈ l, tS c ≤ 1000000000) : nK l f = some true := by
 unfold nK
 rw [k]
 simp only [aa, cn, aq, bj, Dp]
 obtain ⟨g, m, n, _⟩ := A6 l o j
 rw [m]
 simp only [aa]
 by_cases a : (decide (g > 1000) || decide ((wi0 .i64 ((wi0 .i64 ((f.gU.size : Int) + (f.gr.gG.size : Int))) + (f.gr.hX.size : Int))) > 200)) = true
 ·rw [ak a]
 ·rw [ai a]
  have b : l.length ≤ 60 := by
   simp only [cZ, not_or, cO] at a
   omega
  obtain ⟨s, N, Lf, hO, p, i, d, h, _, _⟩ := zo l (by omega)
  unfold po so pn
  rw [d, h]
  simp only [aa, AI, bR, aY]
theorem zj {α : Type} {l : List α} {a : α} (b : l.Nodup) (h : ∀ x, x ∈ l ↔ x = a) : l = [a] := by
 cases l with
 | nil => exact absurd ((h a).2 rfl) (by simp)
 | cons x l =>
  have c := (h x).1 (.head _)
  subst c
  cases l with
  | nil => rfl
  | cons y l =>
   have d := (h y).1 (.tail _ (.head _))
   subst d
   exact absurd b (by simp)
theorem Eo : tp [j1, j2] [j2, j1] := by
  refine ⟨by have : su j2 j1 = true := by decide +kernel
             simp [this], fun c => ?_⟩
  constructor
  · intro h
    rcases ah.1 h with rfl | h
    · exact ⟨by simp, Fx⟩
    · rw [aA] at h; subst h; exact ⟨by simp, FZ⟩
  · rintro ⟨h, _⟩
    rcases ah.1 h with rfl | h
    · simp
    · rw [aA] at h; subst h; simp
theorem FB : tp [j2] [j2] := ⟨by simp, fun c => ⟨fun h => ⟨h, by rw [aA] at h; subst h; exact Fx⟩, fun h => h.1⟩⟩
theorem E6 {N : List ByteArray} (n : yI [j2, j1] N) (r : N.length ≤ 100000) (k : Nat) : jb N [j2, j1] (k + 3) [] [] = some [[fB], [fA]] := by
 have p : qd ∈ N := n.Ak j2 (by simp) rfl
 have x := n.len
 have t : nt [] N [j2, j1] [] = [fB] := by
  obtain ⟨a, b⟩ := qi [] N [j2, j1] [] (by simp)
  refine zj (by simpa using a) (fun f => ?_)
  rw [b]
  constructor
  ·rintro (h | ⟨c, j, w, hw, rfl, i, _⟩)
   ·cases h
   ·rcases i with h | h | h | h
    ·rcases ah.1 j with rfl | j
     ·rw [← h.2]; rfl
     ·rw [aA] at j; subst j; exact absurd h.1 (by decide)
    ·cases h.2
    ·cases h.2.1
    ·obtain ⟨_, _, _, b, _, h, _⟩ := h; cases h
  ·rintro rfl
   exact .inr ⟨j2, by simp, qd, p, rfl, .inl ⟨rfl, rfl⟩, by simp⟩
 have u : nt [fB] N [j2, j1] [] = [fA] := by
  obtain ⟨a, b⟩ := qi [fB] N [j2, j1] [] (by simp)
  refine zj (aD.1 a).2.1 (fun f => ?_)
  rw [b]
  constructor
  ·rintro (h | ⟨c, j, w, hw, rfl, i, m⟩)
   ·cases h
   ·rcases ah.1 j with rfl | j
    ·rcases i with h | h | h | h
     ·exact absurd (aA.2 (by rw [← h.2]; rfl)) m
     ·exact absurd h.1 (by decide)
     ·exact absurd h.1 (by decide)
     ·exact absurd rfl h.1
    ·rw [aA] at j; subst j
     rcases i with h | h | h | h
     ·exact absurd h.1 (by decide)
     ·have := ap gx.gU (aA.1 h.2)
      simp only at this
      subst this; rfl
     ·exact absurd h.1 (by decide)
     ·exact absurd rfl h.2.1
  ·rintro rfl
   exact .inr ⟨j1, by simp, qd, p, rfl, .inr (.inl ⟨rfl, aA.2 rfl⟩), fun h => Fw (aA.1 h)⟩
 have v : nt [fB, fA] N [j2, j1] [] = [] := by
  obtain ⟨a, b⟩ := qi [fB, fA] N [j2, j1] [] (by simpa using fun e => Fw e.symm)
  refine List.eq_nil_iff_forall_not_mem.2 (fun f s => ?_)
  rcases (b f).1 s with h | ⟨c, j, w, hw, rfl, i, m⟩
  ·cases h
  ·have l : ke [j2, j1] ⟨c.Head, w⟩ := za j (n.right c j) (fun g q => by
    rw [CB (fun c => by simp [or_comm])]
    simp only [ah, bU, dR] at q
    exact q.symm) i
   rw [CB (fun c => by simp [or_comm])] at l
   exact m (by simp only [ah, bU, dR]; exact l.symm)
 have o : ∀ d, kh d N [j2, j1] [] = some (nt d N [j2, j1] []) := fun d => by
  have h1 := wF d N j2 N []
  rw [kh, wN d N j2 N [] (by simp; omega), aa, kh]
  simp only [bx] at h1
  rw [wN d N j1 N _ (by omega)]; rfl
 rw [jb, o, t]
 simp only [aa]
 rw [ai (by decide), jq (by decide) (by decide), aa, jq (by decide) (by decide), aa, jb, show ([] ++ [fB] : List gx) = [fB] from rfl, o, u]
 simp only [aa]
 rw [ai (by decide), jq (by decide) (by decide), aa, jq (by decide) (by decide), aa, jb, show ([fB] ++ [fA] : List gx) = [fB, fA] from rfl, o, v]
 rfl
theorem B2 {S T : List gr} (c : S.Pairwise (fun a b => nT a b = true)) (d : T.Pairwise (fun a b => nT a b = true)) (h : ∀ r, r ∈ S ↔ r ∈ T) : S = T :=
 lR.unique (l := T) (P := fun _ => True) (ub (fun _ => True)) ⟨c, fun x => by rw [h]; simp⟩ ⟨d, fun x => by simp⟩
theorem w2 : ∃ sz : gr → Nat, km [j1, j2] = some [(⟨qA, 1, 0, 1⟩ : gD), (⟨qB, 1, 1, 1⟩ : gD)] ∧ lg [j1, j2] = some [] := by
 obtain ⟨s, S, sz, g, p, n, l, q, m, t⟩ := xf [j1, j2] (by decide)
 obtain rfl : s = [j2, j1] := lR.unique ql g.set Eo
 have k : nT qA qB = true := by decide +kernel
 obtain rfl : S = [qA, qB] := B2 g.FA (by simp [k]) (fun r => by
  rw [g.mem]
  constructor
  ·rintro ⟨c, i, a⟩
   rcases ah.1 i with rfl | i
   ·have : lF j2 = [qB] := rfl
    rw [this, aA] at a; subst a; simp
   ·rw [aA] at i; subst i
    have : lF j1 = [qA, qB] := rfl
    rwa [this] at a
  ·intro a
   exact ⟨j1, by simp, by have : lF j1 = [qA, qB] := rfl; rwa [this]⟩)
 have b : ∀ r, r = qA ∨ r = qB → sz r = 1 := fun r a => by
  obtain ⟨L, o, h1, j⟩ := g.size r
  have : L = [qd] := zj o (fun w => by
   rw [j, CB (fun c => by simp [or_comm])]
   constructor
   ·rintro (h | h) <;> exact ap gx.gU h
   ·rintro rfl
    rcases a with rfl | rfl
    ·exact .inl rfl
    ·exact .inr rfl)
  rw [h1, this]; rfl
 have d : yf [j2, j1] [qA, qB] sz = [(⟨qA, 1, 0, 1⟩ : gD), (⟨qB, 1, 1, 1⟩ : gD)] := by
  unfold yf
  simp only [aM, eO, pa, b qA (.inl rfl), b qB (.inr rfl)]
  rw [show jd (kW [j2, j1]) qA = 1 by decide +kernel, show jd (nI [j2, j1]) qA = 0 by decide +kernel, show jd (kW [j2, j1]) qB = 1 by decide +kernel, show jd (nI [j2, j1]) qB = 1 by decide +kernel]
  rfl
 refine ⟨sz, by rw [l, d], ?_⟩
 rw [BI [j1, j2] m (by decide) (by decide) l, d]
 rw [show ([(⟨qA, 1, 0, 1⟩ : gD), (⟨qB, 1, 1, 1⟩ : gD)].filter (ud [j2, j1])) = [] by
  have h1 : ud [j2, j1] (⟨qA, 1, 0, 1⟩ : gD) = false := by decide +kernel
  have j : ud [j2, j1] (⟨qB, 1, 1, 1⟩ : gD) = false := by decide +kernel
  simp [h1, j]]
 rfl
theorem w1 : ∃ q, lg [j2] = some [q] := by
 obtain ⟨s, S, sz, a, g, d, b, h, c, i⟩ := xf [j2] (by decide)
 obtain rfl : s = [j2] := lR.unique ql a.set FB
 obtain rfl : S = [qB] := B2 a.FA (by simp) (fun r => by
  rw [a.mem]
  have : lF j2 = [qB] := rfl
  simp [this])
 refine ⟨qB, ?_⟩
 rw [BI [j2] c (by decide) (by decide) b]
 have h1 : ud [j2] (pa (jd (kW [j2])) (jd (nI [j2])) sz qB) = true := by
  unfold ud pa
  rw [show jd (kW [j2]) qB = 1 by decide +kernel, show jd (nI [j2]) qB = 0 by decide +kernel]
  have : qu [j2] qB = true := by decide +kernel
  simp [this]
 show some (([pa (jd (kW [j2])) (jd (nI [j2])) sz qB].filter (ud [j2])).map (·.gr)) = some [qB]
 rw [dr, ak h1]; rfl
theorem FQ : nz [j1, j2] = some (qD 0 [[fB], [fA]], 2) := by
 obtain ⟨s, N, Lf, hO, h, a, c, b, _, d⟩ := zo [j1, j2] (by decide)
 obtain rfl : s = [j2, j1] := lR.unique ql hO.set Eo
 have g := E6 hO.F6 (by simp at a; omega) 18446744073709551613
 rw [d, tV, show 18446744073709551615 + 1 = 18446744073709551613 + 3 from rfl, g] at b
 obtain rfl := gi b
 rw [c]; rfl
theorem DZ : oO = some true := by
 obtain ⟨_, a, b⟩ := w2
 obtain ⟨q, c⟩ := w1
 unfold oO
 rw [show (⟨2, (⟨(⟨#[97]⟩ : ByteArray), (⟨#[114]⟩ : ByteArray)⟩ : gr), zS, (⟨(⟨#[98]⟩ : ByteArray), (⟨#[115]⟩ : ByteArray)⟩ : gr), (⟨zS, zS⟩ : gr), zS⟩ : gu) = j1 from rfl, show (⟨1, (⟨(⟨#[98]⟩ : ByteArray), (⟨#[115]⟩ : ByteArray)⟩ : gr), (⟨#[100]⟩ : ByteArray), (⟨zS, zS⟩ : gr), (⟨zS, zS⟩ : gr), zS⟩ : gu) = j2 from rfl]
 rw [show (⟨(⟨(⟨#[97]⟩ : ByteArray), (⟨#[114]⟩ : ByteArray)⟩ : gr), (⟨#[100]⟩ : ByteArray)⟩ : gx) = fA from rfl]
 rw [show ([j1, j2].drop (Int.toNat 1)) = [j2] from rfl]
 rw [a, D2 [j1, j2] a (by decide)]
 unfold po pn
 rw [FQ, b, c]
 simp only [aa]
 rw [show iP iD (qD 0 [[fB], [fA]]) fA 0 = 1 by decide +kernel, show (gV iD (qD 0 [[fB], [fA]]) fA).isSome = true by decide +kernel]
 rw [show kd [(⟨qA, 1, 0, 1⟩ : gD), (⟨qB, 1, 1, 1⟩ : gD)] 1 = some (⟨qB, 1, 1, 1⟩ : gD) from rfl]
 rw [show Dv [(⟨qA, 1, 0, 1⟩ : gD), (⟨qB, 1, 1, 1⟩ : gD)] = ((⟨qB, 1, 1, 1⟩ : gD), true) by rfl]
 rw [ak (by decide), aa, show re (⟨qB, 1, 1, 1⟩ : gD) (⟨(⟨(⟨#[98]⟩ : ByteArray), (⟨#[115]⟩ : ByteArray)⟩ : gr), 1, 1, 1⟩ : gD) = true from yo.2 rfl, show gB (⟨qB, 1, 1, 1⟩ : gD).gr (⟨(⟨#[98]⟩ : ByteArray), (⟨#[115]⟩ : ByteArray)⟩ : gr) = true from gC.2 rfl]
 rfl
end Go.Proofs.YtbnbdigcbldfhaaGreat
namespace Go.Proofs.YtbnbdigcbldfhaaGreat.Lf
open Go.ChangeShapes Go.WideShapes Go.ChangeAt Go.RowKit
open Go.Proofs.YtbnbdigcbldfhaaGreat (Rows.uptoBulk Rows.uptoBulkAll Rows.uptoSmall)
theorem EV {H : Type} (d : DataW H) : 1 ≤ Rows.uptoBulk d := by
 cases d with
 | lit l => cases l <;> simp [Rows.uptoBulk]
 | nil => simp [Rows.uptoBulk]
 | ptr d => simp [Rows.uptoBulk]
 | slice a spare => simp [Rows.uptoBulk]
 | agg parts => simp [Rows.uptoBulk]
 | iface t d => simp [Rows.uptoBulk]
 | map entries => simp [Rows.uptoBulk]
 | held h => simp [Rows.uptoBulk]
def vP {α : Type} (P : Program) (t : TypeId) (enc : α → List Value) (sz : α → Nat) : Prop :=
 ∀ (H : Type) (b : TypeId × Value → H) (W : World) (base : Nat) (sp : Nat → Bool) (c : Bool) (fuel : Nat) (cs : List Value) (x : DataW H × List MemPlace),
  DataW.trod b P W base sp c fuel t cs = some x → ∃ a : α, cs = enc a ∧ sz a ≤ Rows.uptoBulk x.1
theorem A3 {P : Program} {t : TypeId} (a : P.underlying t = some .string) : vP P t (fun s : ByteArray => [.string s]) (fun s => s.size) := by
 intro H b W base sp c fuel cs x h
 obtain ⟨s, rfl, rfl, _⟩ := DataW.trod_string a h
 refine ⟨s, rfl, ?_⟩
 have e : s.data.toList.length = s.size := by rw [cd]; rfl
 simp [Rows.uptoBulk, e]
theorem DJ {P : Program} {t : TypeId} {k : IntKind} (a : P.underlying t = some (.int k)) : vP P t (fun n : Int => [.int k n]) (fun _ => 0) := by
 intro H b W base sp c fuel cs x h
 obtain ⟨n, rfl, rfl, _⟩ := DataW.trod_int a h
 exact ⟨n, rfl, eC _⟩
theorem DY {α : Type} {n : Nat} {p : Nat → α → Prop} (h : ∀ i, i < n → ∃ x, p i x) : ∃ l : List α, l.length = n ∧ ∀ i x, l[i]? = some x → p i x := by
 induction n with
 | zero => exact ⟨[], rfl, by simp⟩
 | succ n ih =>
  obtain ⟨l, h1, c⟩ := ih fun i b => h i (by omega)
  obtain ⟨x, g⟩ := h n (by omega)
  refine ⟨l ++ [x], by simp [h1], fun i y a => ?_⟩
  by_cases b : i < l.length
  ·rw [List.getElem?_append_left b] at a
   exact c i y a
  ·rw [dB (by omega)] at a
   have : i - l.length = 0 := by
    cases d : i - l.length with
    | zero => rfl
    | succ m => rw [d] at a; simp at a
   rw [this] at a
   have e : i = n := by omega
   simp at a
   subst a; rw [e]; exact g
theorem zM {W : World} {a : Addr} {v : Value} (h : W.cell? a = some v) : ∃ cs T fr, W.heap[a.block]? = some (.cells cs T fr) ∧ a.spot = none ∧ cs[a.off]? = some v := by
 unfold World.cell? at h
 split at h
 ·rename_i c T fr d
  by_cases b : a.spot.isSome
  ·simp [b] at h
  ·simp only [b] at h
   exact ⟨c, T, fr, d, by simpa using b, by simpa using h⟩
 ·cases h
theorem Ex.below {dd : Bool} {W W' : World} (h : Ex dd W W') : Below W.heap.size W W' := ⟨h.os, h.tape, h.output, h.size, h.iG⟩
theorem uq {H : Type} {k : TypeId × Value → H} {P : Program} (m : laidOutB P = true) {W W' : World} {b : Nat → Bool} :
  ∀ {g : List TypeId} {vs : List Value} {i : List (DataW H)} {c : List MemPlace}, (∀ t ∈ g, P.readableRec t = true ∧ t < P.types.size) →
   DataW.TrodAll k P W 0 (fun _ => true) true g vs i c → (∀ p ∈ c, W.sameAt W' p) → (∀ p ∈ c, b p.block = true) → DataW.TrodAll k P W' 0 b true g vs i c
 | [], _, _, _, _, h, _, _ => by
  obtain ⟨rfl, rfl, rfl⟩ := trodAll_nil h
  exact trodAll_mk0
 | t :: g, _, _, _, j, h, h1, l => by
  obtain ⟨v, vs, d, i, p, q, rfl, rfl, rfl, n, o⟩ := trodAll_cons h
  exact trodAll_cons_mk (WideElems.Trod_stays m (j t (by simp)).1 (j t (by simp)).2 n (fun x a => h1 x (by simp [a])) (fun x a => l x (by simp [a])))
   (uq m (fun u hu => j u (by simp [hu])) o (fun x a => h1 x (by simp [a])) (fun x a => l x (by simp [a])))
theorem AY {H : Type} {enc : TypeId × Value → H} {P : Program} (M : laidOutB P = true) {f : Func} {s : ChangeSpec} {apart fresh handsOn again : Bool} {W W' : World} {args : Array Value} {v : Value} {a gs : List (DataW H)} {before : List MemPlace} (Q : ∀ t ∈ f.params.toList, P.readableRec t = true ∧ t < P.types.size) (m : s.vars = []) (o : DataW.Whole enc P f.params.toList s.vars apart W args.toList a gs before) {dd : Bool} (G : Ex dd W W') (c : ∀ (b : Nat) (sp : Nat → Bool) (L : Bool), DataW.TrodAll enc P W' b sp L f.resultTypes.toList (v.resultList f.resultTypes.size) (s.fn H (a ++ gs)).results []) (d : (s.fn H (a ++ gs)).args = a) (h : (s.fn H (a ++ gs)).vars = []) (A : ∀ (j : Nat) (t : TypeId) (r : Value), f.resultTypes[j]? = some t → (v.resultList f.resultTypes.size)[j]? = some r → Value.okWide P W' .any 0 t r) :
  s.post enc P f apart fresh handsOn again W args v W' := by
 have g := o.lt
 have hold : ∀ p ∈ before, (fun b => decide (b < W.heap.size)) p.block = true := fun p hp => by simpa using g p hp
 have y := Ex.below G
 have u := o
 obtain ⟨p, q, J, I, k, R, O⟩ := o
 rw [m] at I
 obtain ⟨rfl, rfl⟩ := trodVars_none I
 rw [aU] at k
 subst k
 have l : ∀ sp : Nat → Bool, (∀ p ∈ before, sp p.block = true) → DataW.TrodAll enc P W' 0 sp true f.params.toList args.toList (s.fn H (a ++ [])).args before := fun sp E => by
  rw [d]
  exact uq M Q J (fun x G => y.same (g x G)) E
 have n : ∀ sp : Nat → Bool, DataW.TrodVars enc P W' sp s.vars (s.fn H (a ++ [])).vars [] := fun sp => by
  rw [h, m]; rfl
 refine ⟨a, [], before, [], before, [], u, c _ _ _, l _ hold, n _, World.keptBut_mono (fun p hp => ⟨hp, ?_⟩) (y.frame (· ∈ before)), fun _ => ?_⟩
 ·exact Or.inr (Or.inl hp)
 ·refine ⟨A, _, _, ([] ++ before) ++ [], ⟨[] ++ before, [], trodAll_append (l _ (fun _ _ => rfl)) (c _ _ _), n _, rfl, ?_, ?_⟩, ?_⟩
  ·intro b off hp
   have i : MemPlace.cell b off ∈ before := by simpa using hp
   rw [World.frozen?_of_block (w := W) (y.block b (g _ i))]
   exact R b off i
  ·intro K
   simpa using O K
  ·intro p hp _
   simpa using hp
end Go.Proofs.YtbnbdigcbldfhaaGreat.Lf
namespace Go.Proofs.YtbnbdigcbldfhaaGreat.Lf
open Go.ChangeShapes Go.WideShapes Go.ChangeAt Go.RowKit
open Go.Proofs.YtbnbdigcbldfhaaGreat (Rows.uptoBulk Rows.uptoBulkAll Rows.uptoSmall)
def EY {α : Type} (P : Program) (t : TypeId) (R : nM α) (sz : α → Nat) : Prop :=
 ∀ (H : Type) (b : TypeId × Value → H) (W : World) (base : Nat) (sp : Nat → Bool) (c : Bool) (fuel : Nat) (cs : List Value) (x : DataW H × List MemPlace),
  DataW.trod b P W base sp c fuel t cs = some x → ∃ a : α, R (hp W) cs a ∧ sz a ≤ Rows.uptoBulk x.1
theorem vP.rel {α : Type} {P : Program} {t : TypeId} {enc : α → List Value} {sz : α → Nat} (h : vP P t enc sz) : EY P t (Pl enc) sz := fun H a W base sp b fuel cs x c => h H a W base sp b fuel cs x c
end Go.Proofs.YtbnbdigcbldfhaaGreat.Lf
namespace Go.Proofs.YtbnbdigcbldfhaaGreat.Lf
open Go.ChangeShapes Go.WideShapes Go.ChangeAt Go.RowKit
open Go.Proofs.YtbnbdigcbldfhaaGreat (Rows.uptoBulk Rows.uptoBulkAll Rows.uptoSmall)
theorem vU {H : Type} : ∀ l : List (DataW H), Rows.uptoBulkAll l = (l.map Rows.uptoBulk).sum
 | [] => by simp [Rows.uptoBulkAll]
 | d :: l => by simp [Rows.uptoBulkAll, vU l]
theorem Cm {α : Type} (g : α → Nat) : ∀ (n : Nat) (f : Nat → Nat) {l : List α}, l.length = n → (∀ i x, l[i]? = some x → g x ≤ f i) → (l.map g).sum ≤ ((List.range n).map f).sum
 | 0, f, l, b, h => by
  obtain rfl := bu.1 b
  simp
 | n + 1, f, [], b, h => by cases b
 | n + 1, f, a :: l, b, h => by
  rw [List.range_succ_eq_map, aM, aM, fR, fR, cQ]
  have h1 := h 0 a rfl
  have d := Cm g n (f ∘ Nat.succ) (l := l) (by simpa using b) (fun i x c => h (i + 1) x (by simpa using c))
  omega
def wV {α : Type} (sz : α → Nat) (l : List α) : Nat := (l.map fun a => max 1 (sz a)).sum
theorem As {α : Type} (sz : α → Nat) : ∀ l : List α, l.length ≤ wV sz l
 | [] => aJ _
 | a :: l => by have := As sz l; simp only [wV, aM, fR, az] at this ⊢; omega
theorem Cd {α : Type} {sz : α → Nat} : ∀ {l : List α} {a : α}, a ∈ l → sz a ≤ wV sz l
 | b :: l, a, h => by
  simp only [wV, aM, fR]
  rcases ah.1 h with rfl | h
  ·omega
  ·have := Cd (sz := sz) h; simp only [wV] at this; omega
theorem z7 {α : Type} {P : Program} {t e : TypeId} {k : Nat} {R : nM α} {sz : α → Nat} (hk : P.cellsOf e = k) (K : 0 < k) (ht : P.underlying t = some (.slice e)) {H : Type} {U : TypeId × Value → H} {W : World} {base : Nat} {sp : Nat → Bool} {held : Bool} {fuel : Nat} {cs : List Value} {x : DataW H × List MemPlace} (hd : ∀ (fuel : Nat) (cs : List Value) (y : DataW H × List MemPlace), DataW.trod U P W base sp held fuel e cs = some y → SizeOf.sizeOf y.1 < SizeOf.sizeOf x.1 → ∃ a : α, R (hp W) cs a ∧ sz a ≤ Rows.uptoBulk y.1) (hf : DataW.trod U P W base sp held fuel t cs = some x) :
  ∃ v l, cs = [v] ∧ Sl R k (hp W) v l ∧ wV sz l ≤ Rows.uptoBulk x.1 := by
 rcases Go.Deep.open_slice ht hf with ⟨rfl, rfl⟩ | ⟨a, ln, cp, m, n, D, Q, rfl, hb, hl, hm, M, rfl, I⟩
 ·exact ⟨_, [], rfl, ⟨none, 0, rfl, aJ _, eC _, fun h => absurd h (Nat.lt_irrefl _)⟩, eC _⟩
 ·have ad : ln ≤ m := by rw [M]; split <;> omega
  have hB : ((List.range ln).map fun i => Rows.uptoBulk (D i)).sum ≤ Rows.uptoBulk (DataW.slice ((List.range ln).map D) ((List.range (m - ln)).map fun j => D (ln + j))) := by
   simp only [Rows.uptoBulk]
   rw [vU, cQ]
   have e : ((List.range ln).map fun i => Rows.uptoBulk (D i)) = (List.range ln).map (Rows.uptoBulk ∘ D) := rfl
   rw [e]
   omega
  have hS : ∀ i, i < ln → SizeOf.sizeOf (D i) < SizeOf.sizeOf (DataW.slice ((List.range ln).map D) ((List.range (m - ln)).map fun j => D (ln + j))) := fun i J => by
   have := List.sizeOf_lt_of_mem (aK.2 ⟨i, List.mem_range.2 J, rfl⟩ : D i ∈ (List.range ln).map D)
   rw [DataW.slice.sizeOf_spec]; omega
  simp only at hd ⊢
  generalize Rows.uptoBulk (DataW.slice ((List.range ln).map D) ((List.range (m - ln)).map fun j => D (ln + j))) = B at hB
  obtain ⟨l, L, q⟩ := DY (α := α) (n := ln) (p := fun i x => ∃ b, W.cells? base (a.add (i * k)) k = some b ∧ R (hp W) b x ∧ sz x ≤ Rows.uptoBulk (D i)) fun i J => by
   obtain ⟨b, h1, w⟩ := I i (by omega)
   obtain ⟨x, hR, A⟩ := hd _ _ _ w (hS i J)
   rw [hk] at h1
   exact ⟨x, b, h1, hR, A⟩
  subst L
  refine ⟨_, l, rfl, ⟨some a, cp, rfl, hl, hm, fun h0 => ?_⟩, ?_⟩
  ·have c : ∀ i x, l[i]? = some x → ∃ b, R (hp W) b x ∧ b.length = k ∧ ∀ j, j < k → W.cell? ((a.add (i * k)).add j) = b[j]? := fun i x r =>
    let ⟨b, h1, w, _⟩ := q i x r
    let ⟨_, A, Y⟩ := World.cells?_some h1
    ⟨b, w, A, Y⟩
   obtain ⟨a6, _, Y, h5⟩ := c 0 l[0] (by simp [h0])
   have E := h5 0 K
   rw [Nat.zero_mul, bE (by omega)] at E
   have e0 : (a.add 0).add 0 = a := rfl
   rw [e0] at E
   obtain ⟨cs, T, fr, G, Z, _⟩ := zM E
   obtain ⟨s, u, a1⟩ := a
   simp only at G Z
   subst Z
   refine ⟨s, u, cs, T, fr, rfl, G, fun i x r => ?_⟩
   obtain ⟨b, gR, g1, g2⟩ := c i x r
   refine ⟨b, g1, gR, fun j y hy => ?_⟩
   have hj : j < k := by
    rw [← g1]
    exact (aw.1 hy).1
   have h9 := g2 j hj
   rw [Go.Deep.add_add, hy] at h9
   obtain ⟨O, T', a7, d, a8, g⟩ := zM h9
   have o : (Addr.add ⟨s, u, none⟩ (i * k + j)).block = s ∧ (Addr.add ⟨s, u, none⟩ (i * k + j)).off = u + (i * k + j) := by
    unfold Addr.add
    split
    ·rename_i hz
     rw [hz]; exact ⟨rfl, rfl⟩
    ·exact ⟨rfl, rfl⟩
   rw [o.1, G] at d
   cases d
   rw [o.2, ← dh] at g
   exact g
  ·refine aX (Cm _ _ _ rfl fun i x r => ?_) hB
   exact Nat.max_le.2 ⟨EV _, (q i x r).elim fun _ h => h.2.2⟩
theorem zV {α : Type} {P : Program} {t e : TypeId} {k : Nat} {R : nM α} {sz : α → Nat} (hk : P.cellsOf e = k) (a : 0 < k) (c : EY P e R sz) (g : P.underlying t = some (.slice e)) {H : Type} {b : TypeId × Value → H} {W : World} {base : Nat} {sp : Nat → Bool} {held : Bool} {fuel : Nat} {cs : List Value} {x : DataW H × List MemPlace} (d : DataW.trod b P W base sp held fuel t cs = some x) :
  ∃ v l, cs = [v] ∧ Sl R k (hp W) v l ∧ wV sz l ≤ Rows.uptoBulk x.1 := z7 hk a g (fun _ _ _ h _ => c _ _ _ _ _ _ _ _ _ h) d
theorem zY {α H : Type} {j : TypeId × Value → H} {P : Program} {t e : TypeId} {k : Nat} {enc : α → List Value} {sz : α → Nat} (hk : P.cellsOf e = k) (b : 0 < k) (p : vP P e enc sz) (g : P.underlying t = some (.slice e)) {W : World} {base i : Nat} {r : Reach} {sp : Nat → Bool} {held : Bool} {v : Value} {d : DataW H} {s : List MemPlace} (a : Value.okWide P W r i t v) (h : DataW.Trod j P W base sp held t v d s) :
  ∃ l : List α, Sl (Pl enc) k (hp W) v l ∧ wV sz l ≤ Rows.uptoBulk d := by
 obtain ⟨A, ln, c, rfl⟩ := okWide_slice g a
 obtain ⟨fuel, q⟩ := h
 obtain ⟨u, l, h1, m, n⟩ := zV hk b p.rel g q
 have o : (Value.slice A ln c).cells.toList = [Value.slice A ln c] := rfl
 rw [o] at h1
 cases h1
 exact ⟨l, m, n⟩
end Go.Proofs.YtbnbdigcbldfhaaGreat.Lf
namespace Go.Proofs.YtbnbdigcbldfhaaGreat.Lf
open Go.ChangeShapes Go.WideShapes Go.ChangeAt Go.RowKit
open Go.Proofs.YtbnbdigcbldfhaaGreat (Rows.uptoBulk Rows.uptoBulkAll Rows.uptoSmall)
def FX {α : Type} (R : nM α) (Q : α → Prop) : nM α := fun μ ys x => R μ ys x ∧ Q x
theorem Sl.all {α : Type} {R : nM α} {Q : α → Prop} {k : Nat} {μ : gS} {v : Value} {l : List α} (h : Sl (FX R Q) k μ v l) : Sl R k μ v l ∧ ∀ x ∈ l, Q x := by
 obtain ⟨A, c, rfl, h1, j, q⟩ := h
 cases l with
 | nil => exact ⟨⟨A, c, rfl, h1, j, fun h => absurd h (by simp)⟩, by simp⟩
 | cons a l =>
  obtain ⟨b, o, cs, T, fr, e, r, m⟩ := q (by simp)
  refine ⟨⟨A, c, rfl, h1, j, fun _ => ⟨b, o, cs, T, fr, e, r, fun i x g => ?_⟩⟩, fun x g => ?_⟩
  ·obtain ⟨ys, n, d, p⟩ := m i x g
   exact ⟨ys, n, d.1, p⟩
  ·obtain ⟨i, s⟩ := List.mem_iff_getElem?.1 g
   obtain ⟨ys, n, d, p⟩ := m i x s
   exact d.2
end Go.Proofs.YtbnbdigcbldfhaaGreat.Lf
namespace Go.Proofs.YtbnbdigcbldfhaaGreat
open Go.IntKind renaming wrap → wi0
open Go.Proofs.Tryz renaming prog → pg0
set_option maxRecDepth 10000
open Go.ChangeShapes Go.WideShapes Go.ChangeAt Go.RowKit
open Go.Proofs.YtbnbdigcbldfhaaGreat Go.Proofs.YtbnbdigcbldfhaaGreat.Lf
theorem FN : vP pg0 3 (fun n : Int => [.int .i64 n]) (fun _ => 0) := DJ Tryz.underlying3
theorem EL : Tryz.prog.cellsOf 3 = 1 := by kernel_rfl
theorem yS : vP pg0 9 (fun s : ByteArray => [.string s]) (fun s => s.size) := A3 Tryz.underlying9
theorem yT : Tryz.prog.cellsOf 9 = 1 := by kernel_rfl
theorem xo : Tryz.prog.cellsOf 28 = 2 := by kernel_rfl
theorem CL {α : Type} {l : List α} (h : l.length = 2) : ∃ a0 a, l = [a0, a] := by
 match l, h with
 | [a0, a], _ => exact ⟨a0, a, rfl⟩
def sr (x : gr) : Nat := x.gG.size + x.hX.size
theorem yG : vP pg0 28 gw sr := by
 intro H d W base sp i fuel cs x h
 obtain ⟨xs, n, _, rfl, m, hlen, j⟩ := fP Tryz.underlying28 h
 obtain ⟨p, q, rfl⟩ := CL hlen
 obtain ⟨a, c1, rfl⟩ := CL (m.trans xo)
 have g : DataW.trod d pg0 W base sp i n 9 (([a, c1].drop 0).take (Tryz.prog.cellsOf 9)) = some p := j 0 _ rfl
 have h1 : DataW.trod d pg0 W base sp i n 9 (([a, c1].drop 1).take (Tryz.prog.cellsOf 9)) = some q := j 1 _ rfl
 simp only [yT, List.drop, List.take] at g h1
 obtain ⟨o, b, k⟩ := yS _ _ _ _ _ _ _ _ _ g
 obtain ⟨s1, c, l⟩ := yS _ _ _ _ _ _ _ _ _ h1
 simp only [cq, and_true] at b c
 obtain rfl := b
 obtain rfl := c
 refine ⟨⟨o, s1⟩, rfl, ?_⟩
 simp only [List.map, Rows.uptoBulk, Rows.uptoBulkAll, sr] at k l ⊢
 omega
theorem zi : Tryz.prog.cellsOf 108 = 9 := by kernel_rfl
theorem FC {α : Type} {l : List α} (h : l.length = 6) : ∃ a0 a a2 a3 a4 a5, l = [a0, a, a2, a3, a4, a5] := by
 match l, h with
 | [a0, a, a2, a3, a4, a5], _ => exact ⟨a0, a, a2, a3, a4, a5, rfl⟩
theorem FF {α : Type} {l : List α} (h : l.length = 9) : ∃ a0 a a2 a3 a4 a5 b c d, l = [a0, a, a2, a3, a4, a5, b, c, d] := by
 match l, h with
 | [a0, a, a2, a3, a4, a5, b, c, d], _ => exact ⟨a0, a, a2, a3, a4, a5, b, c, d, rfl⟩
def se (x : gu) : Nat := sr x.Head + x.gU.size + sr x.B + sr x.C + x.gY.size
theorem Eu : vP pg0 108 gv se := by
 intro H k W base sp l fuel cs x h
 obtain ⟨xs, n, _, rfl, M, hlen, m⟩ := fP Tryz.underlying108 h
 obtain ⟨T, U, Y, Z, y4, y5, rfl⟩ := FC hlen
 obtain ⟨a, c1, c2, b, c, d, g, i, j, rfl⟩ := FF (M.trans zi)
 have u : DataW.trod k pg0 W base sp l n 3 (([a, c1, c2, b, c, d, g, i, j].drop 0).take (Tryz.prog.cellsOf 3)) = some T := m 0 _ rfl
 have h1 : DataW.trod k pg0 W base sp l n 28 (([a, c1, c2, b, c, d, g, i, j].drop 1).take (Tryz.prog.cellsOf 28)) = some U := m 1 _ rfl
 have v : DataW.trod k pg0 W base sp l n 9 (([a, c1, c2, b, c, d, g, i, j].drop 3).take (Tryz.prog.cellsOf 9)) = some Y := m 2 _ rfl
 have w : DataW.trod k pg0 W base sp l n 28 (([a, c1, c2, b, c, d, g, i, j].drop 4).take (Tryz.prog.cellsOf 28)) = some Z := m 3 _ rfl
 have y : DataW.trod k pg0 W base sp l n 28 (([a, c1, c2, b, c, d, g, i, j].drop 6).take (Tryz.prog.cellsOf 28)) = some y4 := m 4 _ rfl
 have A : DataW.trod k pg0 W base sp l n 9 (([a, c1, c2, b, c, d, g, i, j].drop 8).take (Tryz.prog.cellsOf 9)) = some y5 := m 5 _ rfl
 simp only [xo, EL, yT, List.drop, List.take] at u h1 v w y A
 obtain ⟨O, o, E⟩ := FN _ _ _ _ _ _ _ _ _ u
 obtain ⟨s1, p, G⟩ := yG _ _ _ _ _ _ _ _ _ h1
 obtain ⟨s2, q, I⟩ := yS _ _ _ _ _ _ _ _ _ v
 obtain ⟨P, r, J⟩ := yG _ _ _ _ _ _ _ _ _ w
 obtain ⟨Q, s, K⟩ := yG _ _ _ _ _ _ _ _ _ y
 obtain ⟨R, t, L⟩ := yS _ _ _ _ _ _ _ _ _ A
 simp only [gw, cq, and_true] at o p q r s t
 obtain rfl := o
 obtain ⟨rfl, rfl⟩ := p
 obtain rfl := q
 obtain ⟨rfl, rfl⟩ := r
 obtain ⟨rfl, rfl⟩ := s
 obtain rfl := t
 refine ⟨⟨O, s1, s2, P, Q, R⟩, rfl, ?_⟩
 simp only [List.map, Rows.uptoBulk, Rows.uptoBulkAll, se] at E G I J K L ⊢
 omega
theorem D3 : Tryz.prog.cellsOf 38 = 3 := by kernel_rfl
theorem FO {α : Type} {l : List α} (h : l.length = 3) : ∃ a0 a a2, l = [a0, a, a2] := by
 match l, h with
 | [a0, a, a2], _ => exact ⟨a0, a, a2, rfl⟩
def BE (x : gx) : Nat := sr x.gr + x.gU.size
theorem Fa : vP pg0 38 gL BE := by
 intro H d W base sp i fuel cs x h
 obtain ⟨xs, n, _, rfl, m, hlen, j⟩ := fP Tryz.underlying38 h
 obtain ⟨p, q, rfl⟩ := CL hlen
 obtain ⟨a, c1, c2, rfl⟩ := FO (m.trans D3)
 have g : DataW.trod d pg0 W base sp i n 28 (([a, c1, c2].drop 0).take (Tryz.prog.cellsOf 28)) = some p := j 0 _ rfl
 have h1 : DataW.trod d pg0 W base sp i n 9 (([a, c1, c2].drop 2).take (Tryz.prog.cellsOf 9)) = some q := j 1 _ rfl
 simp only [xo, yT, List.drop, List.take] at g h1
 obtain ⟨o, b, k⟩ := yG _ _ _ _ _ _ _ _ _ g
 obtain ⟨s1, c, l⟩ := yS _ _ _ _ _ _ _ _ _ h1
 simp only [gw, cq, and_true] at b c
 obtain ⟨rfl, rfl⟩ := b
 obtain rfl := c
 refine ⟨⟨o, s1⟩, rfl, ?_⟩
 simp only [List.map, Rows.uptoBulk, Rows.uptoBulkAll, BE] at k l ⊢
 omega
theorem FE : Tryz.prog.readableRec 22 = true ∧ 22 < Tryz.prog.types.size := ⟨by kernel_rfl, ei (by kernel_rfl)⟩
theorem FM : Tryz.prog.readableRec 38 = true ∧ 38 < Tryz.prog.types.size := ⟨by kernel_rfl, ei (by kernel_rfl)⟩
theorem De (c : gu) : tS c = se c := by unfold tS se sr; omega
theorem yL (l : List gu) (h : wV se l ≤ 1048576) : l.length ≤ 10000000 ∧ ∀ c ∈ l, tS c ≤ 1000000000 := by
 have := As se l
 refine ⟨by omega, fun c a => ?_⟩
 have := Cd (sz := se) a
 rw [De]; omega
theorem own : ownKnob Tryz.prog.godebug = none := by kernel_rfl
theorem CO : laidOutB pg0 = true := by kernel_rfl
theorem CD (H : Type) (enc : TypeId × Value → H) (W : World) (base : Nat) (args : Array Value) (g gs : List (DataW H)) (before : List MemPlace) (a : ∀ (j : Nat) t v, Tryz.f4.params[j]? = some t → args[j]? = some v → Value.okWide pg0 W .any base t v) (r : DataW.Whole enc pg0 Tryz.f4.params.toList Rows.weighRanksSpec.vars false W args.toList g gs before) (hk : Rows.uptoSmall H (g ++ gs) = true) :
  Calls pg0 4 args W fun e W' => ∃ v, e = .returned v ∧ Rows.weighRanksSpec.post enc pg0 Tryz.f4 false true false false W args v W' := by
 have i := r
 obtain ⟨p, q, h, G, rfl, I, K⟩ := r
 have o : DataW.TrodAll enc pg0 W 0 (fun _ => true) true Tryz.f4.params.toList args.toList g p := h
 have L : ∀ t ∈ Tryz.f4.params.toList, Tryz.prog.readableRec t = true ∧ t < Tryz.prog.types.size := by
  rw [Tryz.params4]
  intro t s
  simp only [ah, bU, dR] at s
  rcases s with rfl | rfl
  ·exact FE
  ·exact FM
 rw [Tryz.params4] at o a
 obtain ⟨v0, T, d0, w, Y, q0, l, rfl, rfl, A, Q⟩ := trodAll_cons o
 obtain ⟨v1, U, d1, x, Z, q1, rfl, rfl, rfl, h1, R⟩ := trodAll_cons Q
 obtain ⟨rfl, rfl, rfl⟩ := trodAll_nil R
 obtain rfl : args = #[v0, v1] := by cases args; simp_all
 obtain ⟨rfl, rfl⟩ := trodVars_none G
 have O := a 0 22 v0 rfl rfl
 have P := a 1 38 v1 rfl rfl
 obtain ⟨a0, n, z0⟩ := zY (k := 9) zi (by decide) Eu Tryz.underlying22 O A
 obtain ⟨d, rfl, _⟩ := okWide_struct Tryz.underlying38 P
 obtain ⟨y, m⟩ := h1
 obtain ⟨c, b, u⟩ := Fa _ _ _ _ _ _ _ _ _ m
 simp only [Value.cells] at b
 obtain rfl : d = (gL c).toArray := by rw [← b]
 replace u : _ ≤ Rows.uptoBulk d1 := u
 have E : Rows.uptoBulkAll ([d0, d1] ++ []) ≤ 1048576 := ei hk
 simp only [aU, Rows.uptoBulkAll] at E
 have hm : nK a0 c = some true := wT DZ _ _ (yL _ (by omega)).1 (yL _ (by omega)).2
 have J := u9 v0 a0 c true W n hm
 refine bf J fun e W' ⟨he, M⟩ => ?_
 subst he
 exact ⟨_, rfl, AY CO L rfl i M (fun _ _ _ => trodAll_cons_mk (shut_bool Tryz.underlying4 _) trodAll_mk0) rfl rfl (ok_one (by kernel_rfl) rfl (okWide_bool_mk Tryz.underlying4 _))⟩
set_option maxRecDepth 100000 in
theorem Es (os : Os) (started : os.Started) (H : Type) (enc : TypeId × Value → H) (F : Stop.Interp) :
  ReturnsInHanded {} Tryz.checked os 4 .any ((Rows.OpenSpec.upto Rows.weighRanksSpec).pre6 enc pg0 Tryz.f4 Rows.weighRanksUptoRow.domain false) (((Rows.OpenSpec.upto Rows.weighRanksSpec).at F).post enc pg0 Tryz.f4 false true false false) := by
 refine returnsInHanded_of_cond (C := Tryz.checked) (s := Rows.OpenSpec.upto Rows.weighRanksSpec) (k := Rows.uptoSmall) rfl own started (by kernel_rfl) Tryz.func4
  (OpenSpec.witness (enc := enc) (C := Tryz.checked) (s := Rows.OpenSpec.upto Rows.weighRanksSpec) (k := Rows.uptoSmall) rfl false ⟨#[], #[.slice none 0 0, .agg #[.string ⟨#[]⟩, .string ⟨#[]⟩, .string ⟨#[]⟩]], []⟩ 8 (by kernel_rfl) (by kernel_rfl) (by kernel_rfl)
   (x := ([.nil, .agg [.agg [.lit (.string []), .lit (.string [])], .lit (.string [])]], [], [])) (by kernel_rfl) rfl (by kernel_rfl)) ?_
 intro W base args b gs before a c _ hk _
 exact CD H enc W base args b gs before a c hk
theorem E8 {a b : Bool} (c : a = true) (d : b = true) : (a && b) = true := by rw [c, d]; rfl
set_option maxHeartbeats 40000000 in
theorem DI : joinedFacts Tryz.checked.prog 4 Tryz.f4 (Rows.OpenSpec.upto Rows.weighRanksSpec).bare Rows.weighRanksUptoRow = true := by
 unfold joinedFacts
 repeat' with_reducible refine E8 ?_ ?_
 all_goals as_aux_lemma => kernel_rfl
theorem proved : Rows.WeighRanksUptoSaid :=
 OpenClaim.holds_of_cond 4 Tryz.f4 rfl rfl rfl rfl rfl rfl rfl ⟨rfl, rfl, rfl, rfl, rfl⟩ rfl rfl rfl rfl rfl (by kernel_rfl) Tryz.func4 DI
  (ei (by kernel_rfl)) (by unfold Func.isWrapper; first | (rw [ak (by decide +kernel)]; kernel_rfl) | (rw [ai (by decide +kernel)]; exact ⟨rfl, rfl⟩))
  (fun os started H enc _ F => Es os started H enc F)
end Go.Proofs.YtbnbdigcbldfhaaGreat
