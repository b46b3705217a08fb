/- a part of a proof of LeastNeeds -/
import Derived.Test.YtklbhegeiijbjaaGreatRtUm
import Derived.Test.YtklbhegeiijbjaaGreatN3Mm
set_option linter.all false
namespace Go.Proofs.YtklbhegeiijbjaaGreat
open Go.RowKit
theorem Eh {c x : Bool} : (if c = true then some x else some false : Option Bool) = some (c && x) := by cases c <;> rfl
theorem Sa {c x : Bool} : (if c = true then some true else some x : Option Bool) = some (c || x) := by cases c <;> rfl
theorem pW {α : Type} (x : Option α) : (x.bind fun y => some y) = x := by cases x <;> rfl
theorem mg {x : Int} (a : -9223372036854775808 ≤ x) (h1 : x ≤ 9223372036854775807) : IntKind.i64.wrap x = x := IntWalk.i64_in _ (by omega)
theorem nL {α : Type} (A : List α) (x : α) (B : List α) (i : Int) (h : i = (A.length : Int)) : mP (A ++ x :: B) i = some x := by
 subst h; rw [FB]; simp
theorem nt : lF = 18446744073709551615 + 1 := by rw [yi]
def D2 {α : Type} (f1 : α → Option Bool) (z : α) : Nat → List α → Int → Int → Option (List α)
 | 0, _, _, _ => none
 | n + 1, l, i, j => if decide (j < (l.length : Int)) then
   ((mP l j).bind fun x => (f1 x).bind fun r => if (!r) then (mP l i).bind fun _ => some (l.set (Int.toNat i) x, IntKind.i64.wrap (i + 1)) else some (l, i) : Option (List α × Int)).bind fun (b, a) => D2 f1 z n b a (IntKind.i64.wrap (j + 1))
  else (rh (decide (0 ≤ i) && decide (i ≤ (l.length : Int)))).bind fun _ => (rh (decide (0 ≤ i) && decide (i ≤ ((pk l (Int.toNat i) z).length : Int)))).bind fun _ => some ((pk l (Int.toNat i) z).take (Int.toNat i))
theorem BN {a b : Int} (d : 0 ≤ a) (h1 : a ≤ b) : rh (decide (0 ≤ a) && decide (a ≤ b)) = some () := by simp [rh, d, h1]
theorem Kl {α : Type} (f1 : α → Option Bool) (p : α → Bool) (z : α) : ∀ (rest out mid : List α) (n : Nat), rest.length < n → (out ++ mid ++ rest).length < 4611686018427387904 → mid ≠ [] → (∀ x ∈ rest, f1 x = some (p x)) →
  D2 f1 z n (out ++ mid ++ rest) (out.length : Int) ((out.length + mid.length : Nat) : Int) = some (out ++ rest.filter fun x => !p x)
 | [], out, mid, 0, h, _, _, _ => by simp at h
 | [], out, mid, n + 1, _, b, hm, _ => by
  rw [D2, bB (by simp)]
  have h1 : out.length ≤ (out ++ mid ++ []).length := by simp
  rw [BN (by omega) (by omega)]
  simp only [aA]
  rw [BN (by omega) (by rw [vm _ _ _ (by simpa using h1)]; omega)]
  simp only [aA, dO]
  rw [Gi _ _ _ h1]
  simp
 | x :: rest, out, mid, 0, h, _, _, _ => by simp at h
 | x :: rest, out, mid, n + 1, h, b, hm, d => by
  have hlen : (out ++ mid ++ x :: rest).length = out.length + mid.length + rest.length + 1 := by simp; omega
  rw [hlen] at b
  rw [D2, aX (by rw [hlen]; simp; omega)]
  rw [nL (out ++ mid) x rest _ (by simp)]
  simp only [aA, d x (by simp)]
  rw [mg (x := ((out.length + mid.length : Nat) : Int) + 1) (by omega) (by omega)]
  have ih := Kl f1 p z rest
  cases hp : p x with
  | true =>
   simp only [bU, aB, aG, aA]
   have := ih out (mid ++ [x]) n (by simp at h; omega) (by simp; omega) (by simp) (fun y g => d y (by simp [g]))
   simp only [aM, bY, bD, aF, aJ, bV] at this ⊢
   rw [show ((out.length + mid.length : Nat) : Int) + 1 = ((out.length + (mid.length + (0 + 1)) : Nat) : Int) by omega, this]
   simp [hp]
  | false =>
   obtain ⟨m, a, rfl⟩ : ∃ m a, mid = m :: a := by cases mid with
    | nil => exact absurd rfl hm
    | cons m a => exact ⟨m, a, rfl⟩
   simp only [cZ, aN]
   rw [aM out (m :: a) (x :: rest), bY]
   rw [nL out m (a ++ x :: rest) _ rfl]
   simp only [aA]
   rw [mg (x := (out.length : Int) + 1) (by omega) (by simp at b; omega)]
   have := ih (out ++ [x]) (a ++ [x]) n (by simp at h; omega) (by simp at b ⊢; omega) (by simp) (fun y g => d y (by simp [g]))
   simp only [aM, bY, bD, aF, aJ, bV] at this
   have i : (out ++ m :: (a ++ x :: rest)).set (Int.toNat (out.length : Int)) x = out ++ x :: (a ++ x :: rest) := by
    rw [dO, List.set_append_right _ _ (aZ _)]; simp
   rw [i]
   simp only [aJ] at b ⊢
   rw [show (out.length : Int) + 1 = ((out.length + (0 + 1) : Nat) : Int) by omega, show ((out.length + (a.length + 1) : Nat) : Int) + 1 = ((out.length + (0 + 1) + (a.length + (0 + 1)) : Nat) : Int) by omega, this]
   simp [hp]
def An {α : Type} (f1 : α → Option Bool) : List α → Nat → Option Int
 | [], _ => some (-1)
 | x :: xs, i => (f1 x).bind fun r => if r then some (i : Int) else An f1 xs (i + 1)
theorem D0 {α : Type} (f1 : α → Option Bool) (p : α → Bool) : ∀ (l : List α) (i : Nat), (∀ x ∈ l, f1 x = some (p x)) →
  (An f1 l i = some (-1) ∧ ∀ x ∈ l, p x = false) ∨ ∃ A x B, l = A ++ x :: B ∧ (∀ y ∈ A, p y = false) ∧ p x = true ∧ An f1 l i = some ((i + A.length : Nat) : Int)
 | [], i, _ => .inl ⟨rfl, by simp⟩
 | x :: l, i, h => by
  rw [An, h x (by simp)]
  simp only [aA]
  cases hp : p x with
  | true => exact .inr ⟨[], x, l, rfl, by simp, hp, by simp⟩
  | false =>
   simp only [aB, aG]
   rcases D0 f1 p l (i + 1) (fun y a => h y (by simp [a])) with ⟨h1, b⟩ | ⟨A, y, B, rfl, h1, b, g⟩
   ·exact .inl ⟨h1, by intro y a; rcases aQ.1 a with rfl | a; exact hp; exact b y a⟩
   ·refine .inr ⟨x :: A, y, B, rfl, ?_, b, ?_⟩
    ·intro z d; rcases aQ.1 d with rfl | d
     ·exact hp
     ·exact h1 z d
    ·rw [g]; simp; omega
def Ik {α : Type} (f1 : α → Option Bool) (z : α) (l : List α) : Option (List α) :=
 (An f1 l 0).bind fun a => if (a == (-1)) then some l else D2 f1 z lF l a (IntKind.i64.wrap (a + 1))
theorem J3 {α : Type} (f1 : α → Option Bool) (p : α → Bool) (z : α) (l : List α) (d : l.length < 4611686018427387904) (h : ∀ x ∈ l, f1 x = some (p x)) : Ik f1 z l = some (l.filter fun x => !p x) := by
 unfold Ik
 rcases D0 f1 p l 0 h with ⟨h1, b⟩ | ⟨A, x, B, rfl, h1, b, g⟩
 ·rw [h1]
  simp only [aA, bA, aN]
  rw [iP.2 (fun y a => by simp [b y a])]
 ·rw [g]
  simp only [aA, fO]
  rw [bB (by simp), mg (by omega) (by simp at d; omega)]
  have := Kl f1 p z B A [x] lF (by rw [yi]; simp at d; omega) (by simpa using d) (by simp) (fun y a => h y (by simp [a]))
  simp only [aM, bY, bD, aJ, bV] at this
  rw [show (A.length : Int) + 1 = ((A.length + (0 + 1) : Nat) : Int) by omega, this]
  have i : A.filter (fun x => !p x) = A := iP.2 (fun y a => by simp [h1 y a])
  rw [jO, i]
  simp [b]
def oa {α : Type} (eq : α → α → Bool) : α → List α → List α
 | _, [] => []
 | p, y :: ys => if eq y p then oa eq y ys else y :: oa eq y ys
def dd {α : Type} (eq : α → α → Bool) : List α → List α
 | [] => []
 | x :: xs => x :: oa eq x xs
def Cj {α : Type} (eq : α → α → Bool) (i : Int) : Nat → List α → Int → Int → Option (List α × Int)
 | 0, _, _, _ => none
 | n + 1, l, k, j => if decide (j < ((l.length - Int.toNat i : Nat) : Int)) then
   ((mP (l.drop (Int.toNat i)) j).bind fun x => (mP (l.drop (Int.toNat i)) (IntKind.i64.wrap (j - 1))).bind fun y => if !(eq x y) then (mP (l.drop (Int.toNat i)) j).bind fun z => (mP l k).bind fun _ => some (l.set (Int.toNat k) z, IntKind.i64.wrap (k + 1)) else some (l, k) : Option (List α × Int)).bind fun (a, k') => Cj eq i n a k' (IntKind.i64.wrap (j + 1))
  else some (l, k)
def CP {α : Type} (eq : α → α → Bool) (z : α) (l : List α) : Nat → Int → Option (List α)
 | 0, _ => none
 | n + 1, i => if decide (i < (l.length : Int)) then (mP l i).bind fun x => (mP l (IntKind.i64.wrap (i - 1))).bind fun y => if eq x y then
    (rh (decide (0 ≤ i) && decide (i ≤ (l.length : Int)))).bind fun _ => (Cj eq i lF l i 1).bind fun (a, k) => (rh (decide (0 ≤ k) && decide (k ≤ (a.length : Int)))).bind fun _ => (rh (decide (0 ≤ k) && decide (k ≤ ((pk a (Int.toNat k) z).length : Int)))).bind fun _ => some ((pk a (Int.toNat k) z).take (Int.toNat k))
   else CP eq z l n (IntKind.i64.wrap (i + 1))
  else some l
def Ka {α : Type} (eq : α → α → Bool) (z : α) (l : List α) : Option (List α) := if decide ((l.length : Int) < 2) then some l else CP eq z l lF 1
theorem JH {α : Type} (l : List α) (i : Nat) (j : Int) (a : 0 ≤ j) : mP (l.drop i) j = mP l ((i : Int) + j) := by
 obtain ⟨m, rfl⟩ : ∃ m : Nat, j = m := ⟨j.toNat, by omega⟩
 rw [show (i : Int) + (m : Int) = ((i + m : Nat) : Int) by omega, FB, FB, dY]
theorem GS {α : Type} (eq : α → α → Bool) (i : Nat) : ∀ (rest out mid : List α) (p : α) (n : Nat), rest.length < n → (out ++ (mid ++ [p]) ++ rest).length < 4611686018427387904 → 1 ≤ i → i ≤ out.length →
  ∃ b, Cj eq (i : Int) n (out ++ (mid ++ [p]) ++ rest) (out.length : Int) ((out.length + mid.length + 1 - i : Nat) : Int) = some (b, ((out ++ oa eq p rest).length : Int)) ∧ b.take (out ++ oa eq p rest).length = out ++ oa eq p rest ∧ (out ++ oa eq p rest).length ≤ b.length
 | [], out, mid, p, 0, h, _, _, _ => by simp at h
 | [], out, mid, p, n + 1, h, l, h1, k => by
  rw [Cj, bB (by simp; omega)]
  exact ⟨out ++ (mid ++ [p]) ++ [], by simp [oa], by simp [oa], by simp [oa]⟩
 | x :: rest, out, mid, p, 0, h, _, _, _ => by simp at h
 | x :: rest, out, mid, p, n + 1, h, l, h1, k => by
  have hlen : (out ++ (mid ++ [p]) ++ x :: rest).length = out.length + mid.length + rest.length + 2 := by simp; omega
  rw [hlen] at l
  rw [Cj, aX (by rw [hlen]; simp; omega)]
  rw [dO, JH _ _ _ (by omega), nL (out ++ (mid ++ [p])) x rest _ (by simp; omega)]
  simp only [aA]
  rw [mg (x := ((out.length + mid.length + 1 - i : Nat) : Int) - 1) (by omega) (by omega), JH _ _ _ (by omega)]
  rw [show out ++ (mid ++ [p]) ++ x :: rest = (out ++ mid) ++ p :: (x :: rest) by simp]
  rw [nL (out ++ mid) p (x :: rest) _ (by simp; omega)]
  simp only [aA]
  rw [mg (x := ((out.length + mid.length + 1 - i : Nat) : Int) + 1) (by omega) (by omega)]
  cases hp : eq x p with
  | true =>
   simp only [bU, aB, aG, aA]
   obtain ⟨b, d, g, j⟩ := GS eq i rest out (mid ++ [p]) x n (by simp at h; omega) (by simp; omega) h1 k
   refine ⟨b, ?_, by rw [oa, hp]; exact g, by rw [oa, hp]; exact j⟩
   rw [oa, hp, aX rfl, ← d]
   congr 1
   ·simp
   ·simp; omega
  | false =>
   simp only [cZ, aN]
   obtain ⟨m, a, hm⟩ : ∃ m a, mid ++ [p] = m :: a := by cases mid with
    | nil => exact ⟨p, [], rfl⟩
    | cons m a => exact ⟨m, a ++ [p], rfl⟩
   have r : a.length = mid.length := by have := bL List.length hm; simp at this; omega
   rw [show (out ++ mid) ++ p :: (x :: rest) = out ++ m :: (a ++ x :: rest) by rw [← bY, ← hm]; simp]
   rw [nL out m (a ++ x :: rest) _ rfl]
   simp only [aA]
   rw [mg (x := (out.length : Int) + 1) (by omega) (by omega)]
   have s : (out ++ m :: (a ++ x :: rest)).set (Int.toNat (out.length : Int)) x = (out ++ [x]) ++ (a ++ [x]) ++ rest := by
    rw [dO, List.set_append_right _ _ (aZ _)]; simp
   rw [s]
   obtain ⟨b, d, g, j⟩ := GS eq i rest (out ++ [x]) a x n (by simp at h; omega) (by simp; omega) h1 (by simp; omega)
   refine ⟨b, ?_, ?_, ?_⟩
   ·rw [oa, hp, bB (by decide)]
    have q : ((out ++ x :: oa eq x rest).length : Int) = ((out ++ [x] ++ oa eq x rest).length : Int) := by simp
    rw [q, ← d]
    congr 1
    ·simp
    ·simp; omega
   ·rw [oa, hp, bB (by decide)]; simpa using g
   ·rw [oa, hp, bB (by decide)]; simpa using j
theorem KJ {α : Type} (eq : α → α → Bool) (z : α) : ∀ (rest pre : List α) (p : α) (n : Nat), rest.length < n → (pre ++ p :: rest).length < 4611686018427387904 →
  CP eq z (pre ++ p :: rest) n ((pre.length + 1 : Nat) : Int) = some (pre ++ p :: oa eq p rest)
 | [], pre, p, 0, h, _ => by simp at h
 | [], pre, p, n + 1, h, i => by rw [CP, bB (by simp)]; simp [oa]
 | x :: rest, pre, p, 0, h, _ => by simp at h
 | x :: rest, pre, p, n + 1, h, i => by
  have hlen : (pre ++ p :: x :: rest).length = pre.length + rest.length + 2 := by simp; omega
  rw [hlen] at i
  rw [CP, aX (by rw [hlen]; simp; omega)]
  rw [show pre ++ p :: x :: rest = (pre ++ [p]) ++ x :: rest by simp, nL (pre ++ [p]) x rest _ (by simp)]
  simp only [aA]
  rw [mg (x := ((pre.length + 1 : Nat) : Int) - 1) (by omega) (by omega)]
  rw [show (pre ++ [p]) ++ x :: rest = pre ++ p :: (x :: rest) by simp, nL pre p (x :: rest) _ (by omega)]
  simp only [aA]
  cases hp : eq x p with
  | true =>
   simp only [aN]
   rw [BN (by omega) (by rw [hlen]; omega)]
   simp only [aA]
   obtain ⟨j, a, g, d⟩ := GS eq (pre.length + 1) rest (pre ++ [p]) [] x lF (by rw [yi]; omega) (by simp; omega) (by omega) (by simp)
   simp only [aM, bY, bD, aF, aJ, bV] at a g d
   rw [show (pre.length + (0 + 1) + 0 + 1 - (pre.length + 1) : Nat) = 1 by omega] at a
   rw [show ((pre.length + 1 : Nat) : Int) = ((pre.length + (0 + 1) : Nat) : Int) by omega] at *
   have b : Cj eq ((pre.length + (0 + 1) : Nat) : Int) lF (pre ++ p :: x :: rest) ((pre.length + (0 + 1) : Nat) : Int) 1 = _ := a
   rw [b]
   simp only [aA]
   rw [BN (by omega) (by omega)]
   simp only [aA, dO]
   rw [BN (by omega) (by rw [vm _ _ _ d]; omega)]
   simp only [aA]
   rw [Gi _ _ _ d, g, oa, hp]
   simp
  | false =>
   simp only [aB, aG]
   rw [mg (x := ((pre.length + 1 : Nat) : Int) + 1) (by omega) (by omega)]
   have := KJ eq z rest (pre ++ [p]) x n (by simp at h; omega) (by simp; omega)
   simp only [aM, bY, bD, aF, aJ, bV] at this
   rw [show ((pre.length + 1 : Nat) : Int) + 1 = ((pre.length + (0 + 1) + 1 : Nat) : Int) by omega, this, oa, hp]
   simp
theorem KS {α : Type} (eq : α → α → Bool) (z : α) (l : List α) (a : l.length < 4611686018427387904) : Ka eq z l = some (dd eq l) := by
 unfold Ka
 cases l with
 | nil => rfl
 | cons x xs =>
  cases xs with
  | nil => simp [dd, oa]
  | cons y ys =>
   rw [bB (by simp; omega)]
   have := KJ eq z (y :: ys) [] x lF (by rw [yi]; simp at a ⊢; omega) (by simpa using a)
   simpa [dd] using this
structure Bl {α : Type} (lt : α → α → Prop) (P : α → Prop) : Prop where
 irrefl : ∀ x, P x → ¬ lt x x
 trans : ∀ x y z, P x → P y → P z → lt x y → lt y z → lt x z
 total : ∀ x y, P x → P y → lt x y ∨ x = y ∨ lt y x
def xu {α : Type} (lt : α → α → Prop) (P : α → Prop) (l out : List α) : Prop := out.Pairwise lt ∧ ∀ x, x ∈ out ↔ x ∈ l ∧ P x
theorem xu.unique {α : Type} {lt : α → α → Prop} {P : α → Prop} (H : Bl lt P) : ∀ {l a b : List α}, xu lt P l a → xu lt P l b → a = b := by
 have key : ∀ a b : List α, (∀ x ∈ a, P x) → a.Pairwise lt → b.Pairwise lt → (∀ x, x ∈ a ↔ x ∈ b) → a = b := by
  intro a
  induction a with
  | nil => intro b _ _ _ hm; cases b with
   | nil => rfl
   | cons y ys => exact absurd ((hm y).2 (by simp)) (by simp)
  | cons x xs ih =>
   intro b n ha k hm
   cases b with
   | nil => exact absurd ((hm x).1 (by simp)) (by simp)
   | cons y ys =>
    have p : P y := n y ((hm y).2 (by simp))
    have d : P x := n x (by simp)
    have g := cN.1 ha
    have i := cN.1 k
    have q : x = y := by
     rcases aQ.1 ((hm x).1 (by simp)) with h | h
     ·exact h
     ·rcases aQ.1 ((hm y).2 (by simp)) with m | m
      ·exact m.symm
      ·exact absurd (H.trans x y x d p d (g.1 y m) (i.1 x h)) (H.irrefl x d)
    subst q
    congr 1
    refine ih ys (fun z j => n z (by simp [j])) g.2 i.2 (fun z => ?_)
    constructor
    ·intro j
     rcases aQ.1 ((hm z).1 (by simp [j])) with h | h
     ·subst h; exact absurd (g.1 z j) (H.irrefl z d)
     ·exact h
    ·intro j
     rcases aQ.1 ((hm z).2 (by simp [j])) with h | h
     ·subst h; exact absurd (i.1 z j) (H.irrefl z d)
     ·exact h
 intro l a b ha k
 exact key a b (fun x r => ((ha.2 x).1 r).2) ha.1 k.1 (fun x => (ha.2 x).trans (k.2 x).symm)
theorem DV {α : Type} {eq : α → α → Bool} (he : ∀ x y, eq x y = true ↔ x = y) : ∀ (l : List α) (p x : α), x ∈ p :: oa eq p l ↔ x ∈ p :: l
 | [], p, x => by simp [oa]
 | y :: l, p, x => by
  rw [oa]
  split
  ·rename_i h
   have := (he y p).1 h
   subst this
   rw [DV he l y x]; simp
  ·have := DV he l y x
   simp only [aQ] at this ⊢
   rw [this]
theorem J7 {α : Type} {eq : α → α → Bool} (he : ∀ x y, eq x y = true ↔ x = y) (l : List α) (x : α) : x ∈ dd eq l ↔ x ∈ l := by
 cases l with
 | nil => simp [dd]
 | cons y l => exact DV he l y x
theorem CQ {α : Type} {eq : α → α → Bool} {lt : α → α → Prop} {P : α → Prop} (he : ∀ x y, eq x y = true ↔ x = y) (H : Bl lt P) : ∀ (l : List α) (p : α), (∀ x ∈ p :: l, P x) → (p :: l).Pairwise (fun a b => ¬ lt b a) → (p :: oa eq p l).Pairwise lt
 | [], p, _, _ => by simp [oa]
 | y :: l, p, d, q => by
  have h1 := cN.1 q
  rw [oa]
  split
  ·rename_i h
   have := (he y p).1 h
   subst this
   exact CQ he H l y (fun x j => d x (gH _ j)) h1.2
  ·rename_i h
   have ih := CQ he H l y (fun x j => d x (gH _ j)) h1.2
   refine cN.2 ⟨fun z n => ?_, ih⟩
   have i : lt p y := by
    rcases H.total p y (d p (by simp)) (d y (by simp)) with g | g | g
    ·exact g
    ·exact absurd ((he y p).2 g.symm) h
    ·exact absurd g (h1.1 y (by simp))
   rcases aQ.1 n with rfl | k
   ·exact i
   ·have m : z ∈ y :: l := (DV he l y z).1 n
    exact H.trans p y z (d p (by simp)) (d y (by simp)) (d z (gH _ m)) i ((cN.1 ih).1 z k)
theorem Nw {α : Type} {eq : α → α → Bool} {lt : α → α → Prop} {P : α → Prop} (he : ∀ x y, eq x y = true ↔ x = y) (H : Bl lt P) (l : List α) (d : ∀ x ∈ l, P x) (g : l.Pairwise (fun a b => ¬ lt b a)) : (dd eq l).Pairwise lt := by
 cases l with
 | nil => simp [dd]
 | cons y l => exact CQ he H l y d g
theorem I8 {α : Type} {le : α → α → Bool} {P : α → Prop} (i : ∀ a b c, P a → P b → P c → le a b = true → le b c = true → le a c = true) (h : ∀ a b, P a → P b → (le a b || le b a) = true) (l : List α) (d : ∀ x ∈ l, P x) :
  (l.mergeSort le).Pairwise (fun a b => le a b = true) := by
 have e : l = (l.attachWith P d).map Subtype.val := by simp
 have hm : ((l.attachWith P d).mergeSort fun a b => le a.1 b.1).map Subtype.val = l.mergeSort le := by
  conv => rhs; rw [e]
  exact jM (fun a _ b _ => rfl)
 rw [← hm, iz]
 exact jc (le := fun (a b : {x // P x}) => le a.1 b.1) (fun a b c h1 g => i a.1 b.1 c.1 a.2 b.2 c.2 h1 g) (fun a b => h a.1 b.1 a.2 b.2) _
theorem Gg {α : Type} {eq : α → α → Bool} {lt : α → α → Prop} {P : α → Prop} {cf : α × α → Option Int} {l : List α} (he : ∀ x y, eq x y = true ↔ x = y) (H : Bl lt P) (g : ∀ x ∈ l, P x) (A : l.length < 4611686018427387904) (w : ∀ x y, P x → P y → ∃ c, cf (x, y) = some c ∧ (c < 0 ↔ lt x y)) : ∃ s, AL cf l = some s ∧ s.length = l.length ∧ xu lt P l (dd eq s) := by
 have j : ∀ x y, P x → P y → (vt cf x y = true ↔ lt x y) := fun x y i n => by
  obtain ⟨c, h1, m⟩ := w x y i n
  unfold vt
  rw [h1]
  simpa using m
 have d : ∀ x y, P x → P y → (vt cf x y = false ↔ ¬ lt x y) := fun x y i n => by
  rw [← j x y i n]; simp
 have ok : EV cf l := by
  refine ⟨fun x i y n => ?_, fun x i => ?_, fun x i y n z u h1 m => ?_, fun x i y n h1 m => ?_, A⟩
  ·obtain ⟨c, h1, _⟩ := w x y (g x i) (g y n); exact ⟨c, h1⟩
  ·exact (d x x (g x i) (g x i)).2 (H.irrefl x (g x i))
  ·rw [j _ _ (g x i) (g y n)] at h1
   rw [j _ _ (g y n) (g z u)] at m
   rw [j _ _ (g x i) (g z u)]
   exact H.trans x y z (g x i) (g y n) (g z u) h1 m
  ·rw [d _ _ (g x i) (g y n)] at h1
   rw [d _ _ (g y n) (g x i)] at m
   rcases H.total x y (g x i) (g y n) with h | h | h
   ·exact absurd h h1
   ·exact h
   ·exact absurd h m
 refine ⟨_, PK ok, by simp [uK], ?_, ?_⟩
 ·have k : ∀ x, x ∈ uK cf l ↔ x ∈ l := fun x => by simp [uK]
  refine Nw he H _ (fun x i => g x ((k x).1 i)) ?_
  have := I8 (le := fun x y => !vt cf y x) (P := P) (fun a b c ha p q h1 m => ?_) (fun a b ha p => ?_) l g
  ·refine (this.imp_of_mem ?_ : _)
   intro a b ha p h
   have r : a ∈ l := (k a).1 ha
   have t : b ∈ l := (k b).1 p
   simp at h
   exact (d b a (g b t) (g a r)).1 h
  ·simp at h1 m ⊢
   rw [d _ _ p ha] at h1
   rw [d _ _ q p] at m
   rw [d _ _ q ha]
   intro v
   rcases H.total a b ha p with h | h | h
   ·exact m (H.trans c a b q ha p v h)
   ·subst h; exact m v
   ·exact h1 h
  ·simp only [gW, iD]
   rw [d _ _ p ha, d _ _ ha p]
   by_cases h : lt b a
   ·right; intro m; exact H.irrefl a ha (H.trans a b a ha p ha m h)
   ·exact .inl h
 ·intro x
  rw [J7 he]
  constructor
  ·intro i
   have : x ∈ l := by simpa [uK] using i
   exact ⟨this, g x this⟩
  ·intro i; simpa [uK] using i.1
end Go.Proofs.YtklbhegeiijbjaaGreat
namespace Go.Proofs.YtklbhegeiijbjaaGreat
open Go.RowKit
theorem wq : ∀ a : List UInt8, Op.bytesLess a a = false
 | [] => rfl
 | x :: a => by simp [Op.bytesLess, wq a]
theorem KG (x y : UInt8) : x < y ∨ x = y ∨ y < x := by
 rcases Nat.lt_trichotomy x.toNat y.toNat with h | h | h
 ·exact .inl h
 ·exact .inr (.inl (UInt8.toNat_inj.1 h))
 ·exact .inr (.inr h)
theorem zc : ∀ a b c : List UInt8, Op.bytesLess a b = true → Op.bytesLess b c = true → Op.bytesLess a c = true
 | [], [], c, h1, _ => by simp [Op.bytesLess] at h1
 | _ :: _, [], c, h1, _ => by simp [Op.bytesLess] at h1
 | a, _ :: _, [], _, d => by simp [Op.bytesLess] at d
 | [], b :: bs, c :: cs, _, _ => rfl
 | a :: ax, b :: bs, c :: cs, h1, d => by
  simp only [Op.bytesLess, gW, bO, bJ, iY] at h1 d ⊢
  rcases h1 with h1 | ⟨rfl, h1⟩
  ·rcases d with d | ⟨rfl, d⟩
   ·exact .inl (UInt8.lt_trans h1 d)
   ·exact .inl h1
  ·rcases d with d | ⟨rfl, d⟩
   ·exact .inl d
   ·exact .inr ⟨rfl, zc ax bs cs h1 d⟩
theorem BU : ∀ a b : List UInt8, Op.bytesLess a b = true ∨ a = b ∨ Op.bytesLess b a = true
 | [], [] => .inr (.inl rfl)
 | [], _ :: _ => .inl rfl
 | _ :: _, [] => .inr (.inr rfl)
 | a :: ax, b :: bs => by
  simp only [Op.bytesLess, gW, bO, bJ, iY, bE]
  rcases KG a b with h | h | h
  ·exact .inl (.inl h)
  ·subst h
   rcases BU ax bs with h | h | h
   ·exact .inl (.inr ⟨rfl, h⟩)
   ·exact .inr (.inl ⟨rfl, h⟩)
   ·exact .inr (.inr (.inr ⟨rfl, h⟩))
  ·exact .inr (.inr (.inl h))
theorem Dx : ∀ a b : List UInt8, (Lib.compareBytes a b < 0 ↔ Op.bytesLess a b = true)
 | [], [] => by simp [Lib.compareBytes, Op.bytesLess]
 | [], _ :: _ => by simp [Lib.compareBytes, Op.bytesLess]
 | _ :: _, [] => by simp [Lib.compareBytes, Op.bytesLess]
 | a :: ax, b :: bs => by
  simp only [Lib.compareBytes, Op.bytesLess, gW, bO, bJ, iY]
  by_cases h : a < b
  ·simp [h]
  ·by_cases g : b < a
   ·have : a ≠ b := by rintro rfl; exact h g
    simp [h, g, this]
   ·have : a = b := by rcases KG a b with d | d | d; exact absurd d h; exact d; exact absurd d g
    subst this
    simp [h, Dx ax bs]
theorem GM : ∀ a b : List UInt8, (Lib.compareBytes a b = 0 ↔ a = b)
 | [], [] => by simp [Lib.compareBytes]
 | [], _ :: _ => by simp [Lib.compareBytes]
 | _ :: _, [] => by simp [Lib.compareBytes]
 | a :: ax, b :: bs => by
  simp only [Lib.compareBytes, bE]
  by_cases h : a < b
  ·simp only [h, aN]
   constructor
   ·intro h; cases h
   ·rintro ⟨rfl, _⟩; exact absurd h (by simp)
  ·by_cases g : b < a
   ·simp only [h, g, aN, aG]
    constructor
    ·intro h; cases h
    ·rintro ⟨rfl, _⟩; exact absurd g (by simp)
   ·have : a = b := by rcases KG a b with d | d | d; exact absurd d h; exact d; exact absurd d g
    subst this
    simp [h, GM ax bs]
theorem zl (a b : ByteArray) : rq a b = Op.bytesLess a.data.toList b.data.toList := by unfold rq; rw [gN, gN]
theorem AR {a b : ByteArray} (h : a.data.toList = b.data.toList) : a = b := jY (Array.toList_inj.1 h)
theorem uu (a : ByteArray) : rq a a = false := by rw [zl, wq]
theorem A6 {a b c : ByteArray} (h1 : rq a b = true) (d : rq b c = true) : rq a c = true := by rw [zl] at *; exact zc _ _ _ h1 d
theorem AU (a b : ByteArray) : rq a b = true ∨ a = b ∨ rq b a = true := by
 rw [zl, zl]
 rcases BU a.data.toList b.data.toList with h | h | h
 ·exact .inl h
 ·exact .inr (.inl (AR h))
 ·exact .inr (.inr h)
theorem IY {a b : ByteArray} (h : rq a b = true) : rq b a = false := by
 cases d : rq b a with
 | false => rfl
 | true => have := A6 h d; rw [uu] at this; cases this
theorem Qg (P : ByteArray → Prop) : Bl (fun a b => rq a b = true) P :=
 ⟨fun x _ h => (by rw [uu] at h; cases h), fun x y z _ _ _ => A6, fun x y _ _ => AU x y⟩
def B6 (b : UInt8) : Bool := decide (97 ≤ b.toNat) && decide (b.toNat ≤ 122)
def DE (b : UInt8) : Bool := B6 b || (decide (48 ≤ b.toNat) && decide (b.toNat ≤ 57)) || decide (b.toNat = 45)
def oK (s : ByteArray) : Bool := decide (1 ≤ s.size) && decide (s.size ≤ 16) && (match s.data.toList with | [] => false | b :: _ => B6 b) && s.data.toList.all DE
theorem pv {s : ByteArray} (h : oK s = true) : 1 ≤ s.size ∧ s.size ≤ 16 := by
 simp only [oK, bJ, bO] at h
 exact h.1.1
theorem MF : ∀ n : Nat, n < 256 → decide (ym (⟨#[97, 98, 99, 100, 101, 102, 103, 104, 105, 106, 107, 108, 109, 110, 111, 112, 113, 114, 115, 116, 117, 118, 119, 120, 121, 122]⟩ : ByteArray) (n : Int) ≥ 0) = B6 (UInt8.ofNat n) := by decide +kernel
theorem PI : ∀ n : Nat, n < 256 → decide (ym (⟨#[97, 98, 99, 100, 101, 102, 103, 104, 105, 106, 107, 108, 109, 110, 111, 112, 113, 114, 115, 116, 117, 118, 119, 120, 121, 122, 48, 49, 50, 51, 52, 53, 54, 55, 56, 57, 45]⟩ : ByteArray) (n : Int) < 0) = !DE (UInt8.ofNat n) := by decide +kernel
theorem xP (s : ByteArray) : s.size = s.data.toList.length := by rw [dJ]; rfl
theorem F6 {s : ByteArray} (h : s.size ≤ 16) : DF s = some (um s) := by
 unfold DF; rw [aX (by unfold maxLen; omega)]
theorem J4 : ∀ l : List UInt8, vY (l.map fun b => (b.toNat : Int)) = some (l.all DE)
 | [] => rfl
 | b :: l => by
  rw [bP, vY]
  simp only [sO, pB, aA]
  have a := PI b.toNat (jP b)
  rw [a]
  simp only [jW, jw]
  cases DE b with
  | true => simp [J4 l]
  | false => simp
theorem IW {s : ByteArray} {b : UInt8} {l : List UInt8} (h : s.data.toList = b :: l) : Bo s 0 = some b := by
 unfold Bo
 rw [aX (Int.le_refl 0)]
 have a : s.data[0]? = some b := by rw [← dT, h]; rfl
 show s[0]? = some b
 rw [← a]
 rfl
theorem zZ (s : ByteArray) : tK s = some (oK s) := by
 unfold tK
 simp only [Eh, aA, pW]
 by_cases h1 : 1 ≤ s.size
 ·by_cases a : s.size ≤ 16
  ·rw [aX (by simp; omega)]
   obtain ⟨b, l, d⟩ : ∃ b l, s.data.toList = b :: l := by
    cases h : s.data.toList with
    | nil => rw [xP, h] at h1; simp at h1
    | cons b l => exact ⟨b, l, rfl⟩
   rw [IW d]
   simp only [aA, sO, pB]
   rw [MF b.toNat (jP b)]
   simp only [jW, oK, h1, a, d, bZ, eO]
   cases B6 b with
   | false => simp
   | true =>
    simp only [aN, CN, F6 a, aA, um]
    rw [J4, d]
    simp
  ·rw [bB (by simp; omega)]
   simp [oK, a]
 ·rw [bB (by simp; omega)]
  simp [oK, h1]
theorem Qq {s : ByteArray} {A B : List UInt8} {b : UInt8} (h : s.data.toList = A ++ b :: B) (i : Int) (d : i = (A.length : Int)) : Bo s i = some b := by
 subst d
 unfold Bo
 rw [aX (by omega), dO]
 have a : s.data[A.length]? = some b := by rw [← dT, h]; simp
 show s[A.length]? = some b
 rw [← a]
 rfl
theorem E6 (s : ByteArray) (v : s.size ≤ 16) : ∀ (B A : List UInt8) (n : Nat), s.data.toList = A ++ B → B.length < n → rB s n (A.length : Int) = some (B.all DE)
  | [], A, 0, _, h => by simp at h
  | [], A, n + 1, h, _ => by
    have : s.size = A.length := by rw [xP, h]; simp
    rw [rB, bB (by rw [this]; simp)]
    rfl
  | b :: B, A, 0, _, h => by simp at h
  | b :: B, A, n + 1, h, u => by
    have l : s.size = A.length + B.length + 1 := by rw [xP, h]; simp; omega
    rw [rB, aX (by rw [l]; simp; omega)]
    rw [Qq h _ rfl]
    simp only [aA]
    rw [mg (x := (A.length : Int) + 1) (by omega) (by omega)]
    have ih := E6 s v B (A ++ [b]) n (by rw [h]; simp) (by simp at u; omega)
    rw [show ((A ++ [b]).length : Int) = (A.length : Int) + 1 by simp] at ih
    simp only [jw]
    have k : ∀ n : Nat, n < 256 → DE (UInt8.ofNat n) = !((decide (n < 97) || decide (n > 122)) && (decide (n < 48) || decide (n > 57)) && decide (n ≠ 45)) := by decide +kernel
    have m := k b.toNat (jP b)
    simp only [jW] at m
    rw [m]
    by_cases h1 : b.toNat < 97 <;> by_cases p : b.toNat > 122 <;> by_cases q : b.toNat < 48 <;> by_cases r : b.toNat > 57 <;> by_cases t : b.toNat = 45 <;>
      first
      | omega
      | (have a : ((b.toNat : Int) < 97) = (b.toNat < 97) := by rw [iZ]; omega
         have d : ((b.toNat : Int) > 122) = (b.toNat > 122) := by rw [iZ]; omega
         have g : ((b.toNat : Int) < 48) = (b.toNat < 48) := by rw [iZ]; omega
         have i : ((b.toNat : Int) > 57) = (b.toNat > 57) := by rw [iZ]; omega
         have j : ((b.toNat : Int) != 45) = !decide (b.toNat = 45) := by rw [bT]; simp; omega
         simp [h1, p, q, r, t, a, d, g, i, j, ih])
theorem wu (a : ByteArray) : mx a a = true := np.2 rfl
theorem Rh : zS.size = 0 := rfl
theorem Qa {s : ByteArray} : s = zS ↔ s.size = 0 := by
 constructor
 ·rintro rfl; rfl
 ·intro h; exact AR (by rw [xP] at h; rw [eZ.1 h]; rfl)
theorem zf (s : ByteArray) : sv s = some (oK s) := by
 unfold sv
 simp only [Sa, aA, pW]
 by_cases g : s.size = 0
 ·have : s = zS := Qa.2 g
  subst this
  rw [wu]
  rfl
 ·have n : mx s zS = false := by
   cases h : mx s zS with
   | false => rfl
   | true => exact absurd (Qa.1 (np.1 h)) g
  rw [n]
  simp only [Bool.false_or]
  by_cases i : s.size ≤ 16
  ·rw [bB (by simp; omega)]
   obtain ⟨b, l, k⟩ : ∃ b l, s.data.toList = b :: l := by
    cases h : s.data.toList with
    | nil => rw [xP, h] at g; simp at g
    | cons b l => exact ⟨b, l, rfl⟩
   rw [IW k]
   simp only [aA, Sa]
   have m := E6 s i s.data.toList [] lF rfl (by rw [yi, ← xP]; omega)
   simp only [bV] at m
   rw [show (0 : Int) = ((0 : Nat) : Int) from rfl] at *
   rw [m]
   have j : ((b.toNat : Int) < 97) = (b.toNat < 97) := by rw [iZ]; omega
   have d : ((b.toNat : Int) > 122) = (b.toNat > 122) := by rw [iZ]; omega
   have h1 : 1 ≤ s.size := by omega
   simp only [oK, h1, i, k, B6, bZ, eO, j, d]
   by_cases a : b.toNat < 97
   ·simp [a, show ¬ 97 ≤ b.toNat by omega]
   ·by_cases c : b.toNat > 122
    ·simp [a, c, show ¬ b.toNat ≤ 122 by omega]
    ·simp [a, c, show 97 ≤ b.toNat by omega, show b.toNat ≤ 122 by omega]
  ·rw [aX (by simp; omega)]
   simp [oK, i]
def nv (r : kD) : Bool := oK r.kE && oK r.kL
theorem zH (r : kD) : rj r = some (nv r) := by
 unfold rj nv
 simp only [zZ, aA]
 cases oK r.kE <;> simp
theorem B3 (r : kD) : ub r = some (nv r) := by
 unfold ub nv
 simp only [zf, aA]
 cases oK r.kE <;> simp
def CD (a b : kD) : Bool := rq a.kE b.kE || (mx a.kE b.kE && rq a.kL b.kL)
theorem Co (a b : kD) : xF a b = some (CD a b) := by
 unfold xF CD
 cases rq a.kE b.kE <;> cases mx a.kE b.kE <;> simp
theorem LP {a b : ByteArray} (h : a ≠ b) : mx a b = false := by
 cases d : mx a b with
 | false => rfl
 | true => exact absurd (np.1 d) h
theorem BF {a b : kD} : CD a b = true ↔ rq a.kE b.kE = true ∨ (a.kE = b.kE ∧ rq a.kL b.kL = true) := by
 simp [CD, np]
theorem SY (P : kD → Prop) : Bl (fun a b => CD a b = true) P := by
 refine ⟨fun x _ h => ?_, fun x y z _ _ _ h1 d => ?_, fun x y _ _ => ?_⟩
 ·rw [BF] at h
  simp [uu] at h
 ·rw [BF] at *
  rcases h1 with h1 | ⟨i, h1⟩
  ·rcases d with d | ⟨g, d⟩
   ·exact .inl (A6 h1 d)
   ·exact .inl (by rw [← g]; exact h1)
  ·rcases d with d | ⟨g, d⟩
   ·exact .inl (by rw [i]; exact d)
   ·exact .inr ⟨i.trans g, A6 h1 d⟩
 ·simp only [BF]
  rcases AU x.kE y.kE with h | h | h
  ·exact .inl (.inl h)
  ·rcases AU x.kL y.kL with d | d | d
   ·exact .inl (.inr ⟨h, d⟩)
   ·refine .inr (.inl ?_)
    cases x; cases y; simp at h d; simp [h, d]
   ·exact .inr (.inr (.inr ⟨h.symm, d⟩))
  ·exact .inr (.inr (.inl h))
theorem Br (a b : kD) : ∃ c, tb a b = some c ∧ (c < 0 ↔ CD a b = true) := by
 unfold tb
 simp only [qG, oL, aA, vQ, tO]
 have h1 : ∀ a b : ByteArray, (qk a b < 0 ↔ rq a b = true) := fun a b => by rw [zl]; exact Dx _ _
 have g : ∀ a b : ByteArray, (qk a b = 0 ↔ a = b) := fun a b => by
  unfold qk; rw [GM]; exact ⟨AR, fun h => by rw [h]⟩
 by_cases e : qk a.kE b.kE = 0
 ·rw [bB (by simp [e])]
  have e' := (g _ _).1 e
  by_cases d : qk a.kL b.kL = 0
  ·rw [bB (by simp [d])]
   refine ⟨0, rfl, ?_⟩
   rw [BF, e', (g _ _).1 d]
   simp [uu]
  ·rw [aX (by simp [d])]
   refine ⟨_, rfl, ?_⟩
   rw [BF, e', h1]
   simp [uu]
 ·rw [aX (by simp [e])]
  refine ⟨_, rfl, ?_⟩
  rw [BF, h1]
  have : a.kE ≠ b.kE := fun h => e ((g _ _).2 h)
  simp [this]
def zR : kD := ⟨zS, zS⟩
theorem IQ (a b : ByteArray) : mx a b = mx b a := by rw [bT, np, np]; exact eq_comm
theorem Fk (a b : kD) : lx a b = lx b a := by rw [bT, lz, lz]; exact eq_comm
theorem xM (a : kD) : lx a a = true := lz.2 rfl
def mS (c : kF) : Bool := nv c.Head && (
 if c.Kind == 1 then oK c.ma && lx zR c.B && lx zR c.C && mx zS c.mc
 else if c.Kind == 2 then nv c.B && mx zS c.ma && lx zR c.C && mx zS c.mc
 else if c.Kind == 3 then nv c.B && mx c.B.kE c.Head.kE && oK c.mc && mx zS c.ma && lx zR c.C
 else if c.Kind == 4 then nv c.B && nv c.C && CD c.B c.C && mx zS c.ma && mx zS c.mc
 else false)
theorem xr (c : kF) : uT c = some (mS c) := by
 unfold uT mS
 simp only [zH, zZ, aA]
 obtain ⟨k, hk, a⟩ := Br c.B c.C
 rw [hk]
 have b : decide (k < 0) = CD c.B c.C := by rw [bT, ← a]; simp
 simp only [aA, b]
 by_cases h1 : c.Kind = 1
 ·cases nv c.Head <;> cases oK c.ma <;> simp [h1, ng, xM, wu, zR, jm]
 ·by_cases d : c.Kind = 2
  ·cases nv c.Head <;> cases nv c.B <;> simp [d, ng, xM, wu, zR, jm]
  ·by_cases g : c.Kind = 3
   ·cases nv c.Head <;> cases nv c.B <;> cases mx c.B.kE c.Head.kE <;> cases oK c.mc <;> simp [g, ng, xM, wu, zR, jm]
   ·by_cases h : c.Kind = 4
    ·cases nv c.Head <;> cases nv c.B <;> cases nv c.C <;> cases CD c.B c.C <;> simp [h, ng, xM, wu, zR, jm]
    ·simp [h1, d, g, h]
theorem BX (c : kF) : wS c = some (mS c) := by
 unfold wS mS
 simp only [B3, zf, Co, aA]
 rw [show (⟨zS, zS⟩ : kD) = zR from rfl, Fk c.B zR, Fk c.C zR, IQ c.mc zS, IQ c.ma zS]
 by_cases h1 : c.Kind = 1
 ·cases nv c.Head <;> cases oK c.ma <;> cases lx zR c.B <;> cases lx zR c.C <;> simp [h1]
 ·by_cases a : c.Kind = 2
  ·cases nv c.Head <;> cases nv c.B <;> cases mx zS c.ma <;> cases lx zR c.C <;> simp [a]
  ·by_cases b : c.Kind = 3
   ·cases nv c.Head <;> cases nv c.B <;> cases mx zS c.ma <;> cases lx zR c.C <;> cases mx c.B.kE c.Head.kE <;> simp [b]
   ·by_cases d : c.Kind = 4
    ·cases nv c.Head <;> cases nv c.B <;> cases mx zS c.ma <;> cases mx zS c.mc <;> cases nv c.C <;> simp [d]
    ·cases nv c.Head <;> cases nv c.B <;> cases mx zS c.ma <;> simp [h1, a, b, d]
end Go.Proofs.YtklbhegeiijbjaaGreat
namespace Go.Proofs.YtklbhegeiijbjaaGreat
open Go.RowKit
theorem nS {α : Type} {b : Nat} {l m : List α} (h : (l.length + m.length) * b ≤ 140737488355328) (a : l.length + m.length ≤ 9223372036854775807) : nG b l m = some (l ++ m) := by
 unfold nG; rw [aX ⟨h, by unfold maxLen; omega⟩]
theorem GO {l m : List Int} (h : l.length + m.length ≤ 1000000) : nG 1 l m = some (l ++ m) := nS (by omega) (by omega)
def xq (s : ByteArray) : List Int := (s.size : Int) :: um s
def tC (r : kD) : List Int := xq r.kE ++ xq r.kL
def Aa (c : kF) : List Int := if c.Kind = 1 then xq c.ma else if c.Kind = 2 then tC c.B else if c.Kind = 3 then tC c.B ++ xq c.mc else tC c.B ++ tC c.C
def uw (c : kF) : List Int := c.Kind :: (tC c.Head ++ Aa c)
theorem uO (s : ByteArray) : (xq s).length = s.size + 1 := by simp [xq, qp]
theorem pG {r : kD} (h : nv r = true) : (tC r).length ≤ 34 := by
 simp only [nv, bJ] at h
 have h1 := pv h.1
 have a := pv h.2
 simp [tC, uO]; omega
theorem zn {l : List Int} {n : Int} (a : 0 ≤ n) (h1 : n < 128) (b : l.length ≤ 100000) : pf l n = some (true, l ++ [n]) := by
 have hw : IntKind.u8.wrap n = n := by
  obtain ⟨k, rfl⟩ : ∃ k : Nat, n = k := ⟨n.toNat, by omega⟩
  have : ∀ k : Nat, k < 128 → IntKind.u8.wrap (k : Int) = (k : Int) := by decide +kernel
  exact this k (by omega)
 unfold pf
 rw [bB (by simp; omega), nt, rf, bB (by simp; omega), hw, GO (by simp; omega)]
 rfl
theorem FL {l : List Int} {s : ByteArray} (h : oK s = true) (a : l.length ≤ 10000) : uS l s = some (true, l ++ xq s) := by
 have h1 := pv h
 unfold uS
 simp only [zZ, aA, h, aN, F6 h1.2]
 unfold yz
 rw [bB (by rw [qp]; simp; omega)]
 rw [qp, zn (by omega) (by omega) (by omega)]
 simp only [aA]
 rw [GO (by simp [qp]; omega)]
 simp [xq]
theorem KL {l : List Int} {r : kD} (h : nv r = true) (b : l.length ≤ 9000) : ri l r = some (true, l ++ tC r) := by
 have a := h
 simp only [nv, bJ] at h
 have h1 := pv h.1
 unfold ri
 simp only [zH, aA, a, aN]
 rw [FL h.1 (by omega)]
 simp only [aA, aN]
 rw [FL h.2 (by simp [uO]; omega)]
 simp [tC]
theorem DB {l : List Int} {r : kD} (h : nv r = true) (a : l.length ≤ 1000) : ri l r = some (true, l ++ tC r) := KL h (by omega)
theorem CZ {c : kF} (h : mS c = true) : nv c.Head = true := by
 simp only [mS, bJ] at h; exact h.1
theorem pF {c : kF} (h : mS c = true) :
  (c.Kind = 1 ∧ oK c.ma = true ∧ c.B = zR ∧ c.C = zR ∧ c.mc = zS) ∨
  (c.Kind = 2 ∧ nv c.B = true ∧ c.ma = zS ∧ c.C = zR ∧ c.mc = zS) ∨
  (c.Kind = 3 ∧ nv c.B = true ∧ oK c.mc = true ∧ c.B.kE = c.Head.kE ∧ c.ma = zS ∧ c.C = zR) ∨
  (c.Kind = 4 ∧ nv c.B = true ∧ nv c.C = true ∧ CD c.B c.C = true ∧ c.ma = zS ∧ c.mc = zS) := by
 simp only [mS, bJ] at h
 obtain ⟨_, h⟩ := h
 split at h
 ·rename_i h1
  simp only [bJ, lz, np] at h
  exact .inl ⟨by simpa using h1, h.1.1.1, h.1.1.2.symm, h.1.2.symm, h.2.symm⟩
 ·split at h
  ·rename_i h1
   simp only [bJ, lz, np] at h
   exact .inr (.inl ⟨by simpa using h1, h.1.1.1, h.1.1.2.symm, h.1.2.symm, h.2.symm⟩)
  ·split at h
   ·rename_i h1
    simp only [bJ, lz, np] at h
    exact .inr (.inr (.inl ⟨by simpa using h1, h.1.1.1.1, h.1.1.2, h.1.1.1.2, h.1.2.symm, h.2.symm⟩))
   ·split at h
    ·rename_i h1
     simp only [bJ, lz, np] at h
     exact .inr (.inr (.inr ⟨by simpa using h1, h.1.1.1.1, h.1.1.1.2, h.1.1.2, h.1.2.symm, h.2.symm⟩))
    ·cases h
theorem Cv (c : kF) : xJ c = some (if mS c then uw c else []) := by
 unfold xJ
 rw [xr]
 simp only [aA]
 cases h : mS c with
 | false => simp
 | true =>
  have g := CZ h
  have i := pG g
  simp only [bU, aB, aG, aN]
  have hk : 0 ≤ c.Kind ∧ c.Kind < 128 := by rcases pF h with h | h | h | h <;> omega
  rw [zn hk.1 hk.2 (by simp)]
  simp only [aA]
  rw [DB g (by simp)]
  simp only [aA, uR, vq]
  rcases pF h with ⟨k, h1, _⟩ | ⟨k, h1, _⟩ | ⟨k, h1, a, _⟩ | ⟨k, h1, a, _⟩
  ·have b := pv h1
   simp only [k, bA, aN, FL h1 (show (([] ++ [(1:Int)]) ++ tC c.Head).length ≤ 10000 by simp; omega), aA]
   rw [GO (by simp [uO]; omega)]
   simp [uw, Aa, k]
  ·have b := pG h1
   simp only [k, show ((2 : Int) == 1) = false from rfl, aB, bA, aN, aG, DB h1 (show (([] ++ [(2:Int)]) ++ tC c.Head).length ≤ 1000 by simp; omega), aA]
   rw [GO (by simp; omega)]
   simp [uw, Aa, k]
  ·have b := pG h1
   have d := pv a
   simp only [k, show ((3 : Int) == 1) = false from rfl, show ((3 : Int) == 2) = false from rfl, aB, bA, aN, aG, DB h1 (show (([] ++ [(3:Int)]) ++ tC c.Head).length ≤ 1000 by simp; omega), aA]
   rw [FL a (by simp; omega)]
   simp only [aA]
   rw [GO (by simp [uO]; omega)]
   simp [uw, Aa, k]
  ·have b := pG h1
   have d := pG a
   simp only [k, show ((4 : Int) == 1) = false from rfl, show ((4 : Int) == 2) = false from rfl, show ((4 : Int) == 3) = false from rfl, aB, bA, aN, aG, DB h1 (show (([] ++ [(4:Int)]) ++ tC c.Head).length ≤ 1000 by simp; omega), aA]
   rw [DB a (by simp; omega)]
   simp only [aA]
   rw [GO (by simp; omega)]
   simp [uw, Aa, k]
def xk (l : List Int) : ByteArray := ⟨(vg l).toArray⟩
theorem vK (l : List Int) : (xk l).data.toList = vg l := rfl
theorem HH : ∀ (l : List Int) (r : ByteArray), (l.foldl (fun r n => r.push (UInt8.ofNat n.toNat)) r).data.toList = r.data.toList ++ vg l
 | [], r => by simp [vg]
 | x :: l, r => by
  rw [iV, HH l]
  show ((r.data.push _).toList) ++ _ = _
  simp [vg]
theorem QB (l : List Int) : CL l = xk l := AR (by unfold CL; rw [HH]; rfl)
theorem KV (l : List Int) : (xk l).size = l.length := by rw [xP, vK]; simp [vg]
theorem MX (a b : List Int) : vg (a ++ b) = vg a ++ vg b := by simp [vg]
theorem sP (a b : List Int) (h : a.length + b.length ≤ 1000000) : xD (xk a) (xk b) = some (xk (a ++ b)) := by
 unfold xD
 rw [bB]
 ·congr 1
  refine AR ?_
  rw [vK, MX, ← vK a, ← vK b]
  exact ByteArray.toList_data_append ▸ rfl
 ·rw [KV, KV]
  show ¬ (_ > (9223372036854775807 : Int))
  omega
theorem Ef (s : ByteArray) : xk (um s) = s := AR (by rw [vK]; simp [vg, um, iy])
theorem zq {n : Int} (a : 0 ≤ n) (h1 : n < 128) : rL n = some (xk [n]) := by
 have hw : IntKind.u8.wrap n = n := by
  obtain ⟨k, rfl⟩ : ∃ k : Nat, n = k := ⟨n.toNat, by omega⟩
  have : ∀ k : Nat, k < 128 → IntKind.u8.wrap (k : Int) = (k : Int) := by decide +kernel
  exact this k (by omega)
 unfold rL
 rw [nt, uq, bB (by simp; omega), hw, QB, show zS = xk [] from rfl, sP _ _ (by simp)]
 rfl
theorem FK {s : ByteArray} (h : oK s = true) : uW s = some (xk (xq s)) := by
 have h1 := pv h
 unfold uW
 rw [zq (by omega) (by omega)]
 simp only [aA]
 have := sP [(s.size : Int)] (um s) (by rw [qp]; simp; omega)
 rw [Ef] at this
 rw [this]
 simp [xq]
theorem BJ {r : kD} (h : nv r = true) : ud r = some (xk (tC r)) := by
 simp only [nv, bJ] at h
 have h1 := pv h.1
 have a := pv h.2
 unfold ud
 rw [FK h.1, FK h.2]
 simp only [aA]
 rw [sP _ _ (by simp [uO]; omega)]
 rfl
theorem BV (c : kF) : wJ c = some (xk (if mS c then uw c else [])) := by
 unfold wJ
 rw [BX]
 simp only [aA]
 cases h : mS c with
 | false => rfl
 | true =>
  have g := CZ h
  have i := pG g
  simp only [bU, aB, aG, aN]
  have hk : 0 ≤ c.Kind ∧ c.Kind < 128 := by rcases pF h with h | h | h | h <;> omega
  unfold Bf
  rw [zq hk.1 hk.2, BJ g]
  simp only [aA]
  rw [sP _ _ (by simp; omega)]
  simp only [aA]
  rcases pF h with ⟨k, h1, _⟩ | ⟨k, h1, _⟩ | ⟨k, h1, a, _⟩ | ⟨k, h1, a, _⟩
  ·have b := pv h1
   simp only [k, bA, aN, FK h1, aA]
   rw [sP _ _ (by simp [uO]; omega)]
   simp [uw, Aa, k]
  ·have b := pG h1
   simp only [k, show ((2 : Int) == 1) = false from rfl, show ((2 : Int) == 3) = false from rfl, show ((2 : Int) == 4) = false from rfl, aB, aG, BJ h1, aA]
   rw [sP _ _ (by simp; omega)]
   simp [uw, Aa, k]
  ·have b := pG h1
   have d := pv a
   simp only [k, show ((3 : Int) == 1) = false from rfl, show ((3 : Int) == 4) = false from rfl, aB, bA, aN, aG, BJ h1, aA]
   rw [sP _ _ (by simp; omega)]
   simp only [aA, FK a]
   rw [sP _ _ (by simp [uO]; omega)]
   simp [uw, Aa, k]
  ·have b := pG h1
   have d := pG a
   simp only [k, show ((4 : Int) == 1) = false from rfl, show ((4 : Int) == 3) = false from rfl, aB, bA, aN, aG, BJ h1, aA]
   rw [sP _ _ (by simp; omega)]
   simp only [aA, BJ a]
   rw [sP _ _ (by simp; omega)]
   simp [uw, Aa, k]
def J2 (c : kF) : List UInt8 := vg (if mS c then uw c else [])
def BZ (a b : kF) : Bool := Op.bytesLess (J2 a) (J2 b)
theorem FQ (a b : kF) : ∃ c, uI a b = some c ∧ (c < 0 ↔ BZ a b = true) := by
 unfold uI
 rw [Cv, Cv]
 exact ⟨_, rfl, Dx _ _⟩
theorem EY (a b : kF) : ∃ c, tT a b = some c ∧ (c < 0 ↔ BZ a b = true) := by
 unfold tT
 rw [BV, BV]
 simp only [aA]
 have h : rq (xk (if mS a then uw a else [])) (xk (if mS b then uw b else [])) = BZ a b := by rw [zl]; rfl
 rw [h]
 cases BZ a b with
 | true => exact ⟨_, rfl, by decide⟩
 | false =>
  simp only [aB, aG, Bool.false_or]
  cases d : mx (xk (if mS a then uw a else [])) (xk (if mS b then uw b else [])) with
  | true => exact ⟨0, by simp, by decide⟩
  | false => exact ⟨1, by simp, by decide⟩
theorem SD {a b : Int} (ha : 0 ≤ a ∧ a < 256) (d : 0 ≤ b ∧ b < 256) (h : a.toNat.toUInt8 = b.toNat.toUInt8) : a = b := by
 have := bL UInt8.toNat h
 simp only [UInt8.toNat_ofNat', Nat.toUInt8] at this
 simp at this
 omega
theorem L7 : ∀ {a b : List Int}, (∀ x ∈ a, 0 ≤ x ∧ x < 256) → (∀ x ∈ b, 0 ≤ x ∧ x < 256) → vg a = vg b → a = b
 | [], [], _, _, _ => rfl
 | [], _ :: _, _, _, h => by simp [vg] at h
 | _ :: _, [], _, _, h => by simp [vg] at h
 | x :: a, y :: b, ha, g, h => by
  simp only [vg, bP, bE] at h
  rw [SD (ha x (by simp)) (g y (by simp)) h.1, L7 (fun z d => ha z (by simp [d])) (fun z d => g z (by simp [d])) h.2]
theorem AF {s : ByteArray} (h : oK s = true) : ∀ x ∈ xq s, 0 ≤ x ∧ x < 256 := by
 have h1 := pv h
 intro x a
 rcases aQ.1 a with rfl | a
 ·omega
 ·simp only [um, bN] at a
  obtain ⟨b, _, rfl⟩ := a
  have := jP b
  omega
theorem yC {r : kD} (h : nv r = true) : ∀ x ∈ tC r, 0 ≤ x ∧ x < 256 := by
 simp only [nv, bJ] at h
 intro x a
 rcases aW.1 a with a | a
 ·exact AF h.1 x a
 ·exact AF h.2 x a
theorem FW {c : kF} (h : mS c = true) : ∀ x ∈ uw c, 0 ≤ x ∧ x < 256 := by
 intro x a
 rcases aQ.1 a with rfl | a
 ·rcases pF h with h | h | h | h <;> omega
 ·rcases aW.1 a with a | a
  ·exact yC (CZ h) x a
  ·unfold Aa at a
   rcases pF h with ⟨k, h1, _⟩ | ⟨k, h1, _⟩ | ⟨k, h1, b, _⟩ | ⟨k, h1, b, _⟩
   ·rw [aX k] at a; exact AF h1 x a
   ·rw [bB (by omega), aX k] at a; exact yC h1 x a
   ·rw [bB (by omega), bB (by omega), aX k] at a
    rcases aW.1 a with a | a
    ·exact yC h1 x a
    ·exact AF b x a
   ·rw [bB (by omega), bB (by omega), bB (by omega)] at a
    rcases aW.1 a with a | a
    ·exact yC h1 x a
    ·exact yC b x a
theorem Nl {s t : ByteArray} (h : um s = um t) : s = t := by rw [← Ef s, h, Ef]
theorem Ct {s t : ByteArray} {X Y : List Int} (h : xq s ++ X = xq t ++ Y) : s = t ∧ X = Y := by
 simp only [xq, bY, bE] at h
 obtain ⟨h1, a⟩ := h
 have b : (um s).length = (um t).length := by rw [qp, qp]; omega
 have := List.append_inj a b
 exact ⟨Nl this.1, this.2⟩
theorem AT {a b : kD} {X Y : List Int} (h : tC a ++ X = tC b ++ Y) : a = b ∧ X = Y := by
 simp only [tC, aM] at h
 obtain ⟨h1, g⟩ := Ct h
 obtain ⟨d, i⟩ := Ct g
 exact ⟨by cases a; cases b; simp at h1 d; simp [h1, d], i⟩
theorem NU {a b : kF} (ha : mS a = true) (s : mS b = true) (h : uw a = uw b) : a = b := by
 simp only [uw, bE] at h
 obtain ⟨hk, q⟩ := h
 obtain ⟨p, h⟩ := AT q
 clear q
 have l : ∀ {X Y : List Int}, X = Y → X ++ [] = Y ++ [] := fun h => by rw [h]
 unfold Aa at h
 obtain ⟨z, r, D, w, x, u⟩ := a
 obtain ⟨A, t, E, bb, y, v⟩ := b
 simp only at hk p h
 subst hk p
 rcases pF ha with ⟨k, h1, g, i, d⟩ | ⟨k, h1, g, i, d⟩ | ⟨k, h1, g, i, d, j⟩ | ⟨k, h1, g, i, d, j⟩ <;>
 rcases pF s with ⟨k', g1, g2, g3, g4⟩ | ⟨k', g1, g2, g3, g4⟩ | ⟨k', g1, g2, g3, g4, g5⟩ | ⟨k', g1, g2, g3, g4, g5⟩ <;> simp only at k k' g i d g2 g3 g4 <;> (try omega)
 ·rw [aX k, aX k] at h
  simp [Ct (l h), g, i, d, g2, g3, g4]
 ·rw [bB (by omega), aX k, bB (by omega), aX k] at h
  simp [AT (l h), g, i, d, g2, g3, g4]
 ·rw [bB (by omega), bB (by omega), aX k, bB (by omega), bB (by omega), aX k] at h
  obtain ⟨m, n⟩ := AT h
  simp only at j g5
  simp [m, Ct (l n), d, j, g4, g5]
 ·rw [bB (by omega), bB (by omega), bB (by omega), bB (by omega), bB (by omega), bB (by omega)] at h
  obtain ⟨m, n⟩ := AT h
  simp only at j g5
  simp [m, AT (l n), d, j, g4, g5]
theorem DJ : Bl (fun a b => BZ a b = true) (fun c => mS c = true) := by
 refine ⟨fun x _ h => ?_, fun x y z _ _ _ h1 i => zc _ _ _ h1 i, fun x y d g => ?_⟩
 ·unfold BZ at h; rw [wq] at h; cases h
 ·rcases BU (J2 x) (J2 y) with h | h | h
  ·exact .inl h
  ·refine .inr (.inl (NU d g ?_))
   unfold J2 at h
   rw [aX d, aX g] at h
   exact L7 (FW d) (FW g) h
  ·exact .inr (.inr h)
end Go.Proofs.YtklbhegeiijbjaaGreat
namespace Go.Proofs.YtklbhegeiijbjaaGreat
open Go.RowKit
def sE {α : Type} (R : α → Bool) (lt : α → α → Bool) (last : Option α) : List α → Bool → α → Bool × α
 | [], ok, b => (ok, b)
 | x :: xs, ok, b => if R x && last.all (fun y => lt y x) && (!ok || lt x b) then sE R lt last xs true x else sE R lt last xs ok b
def Ba {α : Type} (w : Nat) (R : α → Bool) (lt : α → α → Bool) (d : α) (l : List α) : Nat → List α → Option (List α)
 | 0, _ => none
 | n + 1, out => if !(sE R lt out.getLast? l false d).1 then some out else (nG w out [(sE R lt out.getLast? l false d).2]).bind fun o => Ba w R lt d l n o
section
variable {α : Type} {R : α → Bool} {lt : α → α → Bool}
theorem Fp (H : Bl (fun a b => lt a b = true) (fun x => R x = true)) (last : Option α) : ∀ (l : List α) (ok : Bool) (b : α), (ok = true → R b = true ∧ last.all (fun y => lt y b) = true) →
  ((sE R lt last l ok b).1 = false → ok = false ∧ ∀ x ∈ l, R x = true → last.all (fun y => lt y x) = false) ∧
  ((sE R lt last l ok b).1 = true → R (sE R lt last l ok b).2 = true ∧ last.all (fun y => lt y (sE R lt last l ok b).2) = true ∧ ((sE R lt last l ok b).2 ∈ l ∨ (ok = true ∧ (sE R lt last l ok b).2 = b)) ∧
   (∀ x ∈ l, R x = true → last.all (fun y => lt y x) = true → lt x (sE R lt last l ok b).2 = false) ∧ (ok = true → lt b (sE R lt last l ok b).2 = false))
 | [], ok, b, k => by
  simp only [sE]
  exact ⟨fun h => ⟨h, by simp⟩, fun h => ⟨(k h).1, (k h).2, .inr ⟨h, trivial⟩, by simp, fun _ => by
   cases n : lt b b with
   | false => rfl
   | true => exact absurd n (H.irrefl b (k h).1)⟩⟩
 | x :: xs, ok, b, k => by
  rw [sE]
  by_cases m : (R x && last.all (fun y => lt y x) && (!ok || lt x b)) = true
  ·rw [aX m]
   simp only [bJ, gW, iD] at m
   obtain ⟨⟨A, t⟩, u⟩ := m
   obtain ⟨h1, s⟩ := Fp H last xs true x (fun _ => ⟨A, t⟩)
   refine ⟨fun h => ?_, fun h => ?_⟩
   ·cases (h1 h).1
   ·obtain ⟨q, a2, a3, a4, a5⟩ := s h
    refine ⟨q, a2, ?_, ?_, ?_⟩
    ·rcases a3 with a3 | ⟨_, a3⟩
     ·exact .inl (by simp [a3])
     ·exact .inl (by rw [a3]; simp)
    ·intro y i d g
     rcases aQ.1 i with rfl | i
     ·exact a5 rfl
     ·exact a4 y i d g
    ·intro j
     cases n : lt b (sE R lt last xs true x).2 with
     | false => rfl
     | true =>
      have v : lt x b = true := by rcases u with h | h; rw [j] at h; cases h; exact h
      have := H.trans x b _ A (k j).1 q v n
      simp only [a5 rfl] at this
      cases this
  ·rw [bB m]
   obtain ⟨h1, s⟩ := Fp H last xs ok b k
   refine ⟨fun h => ⟨(h1 h).1, fun y i d => ?_⟩, fun h => ?_⟩
   ·rcases aQ.1 i with rfl | i
    ·have j := (h1 h).1
     cases t : last.all (fun z => lt z y) with
     | false => rfl
     | true => exact absurd (by simp [d, t, j]) m
    ·exact (h1 h).2 y i d
   ·obtain ⟨q, a2, a3, a4, a5⟩ := s h
    refine ⟨q, a2, ?_, ?_, a5⟩
    ·rcases a3 with a3 | a3
     ·exact .inl (by simp [a3])
     ·exact .inr a3
    ·intro y i d g
     rcases aQ.1 i with rfl | i
     ·cases n : lt y (sE R lt last xs ok b).2 with
      | false => rfl
      | true =>
       cases ok with
       | false => exact absurd (by simp [d, g]) m
       | true =>
        have w : lt y b = false := by
         cases D : lt y b with
         | false => rfl
         | true => exact absurd (by simp [d, g, D]) m
        have r := k rfl
        rcases H.total y b d r.1 with p | p | p
        ·rw [w] at p; cases p
        ·subst p; rw [a5 rfl] at n; cases n
        ·have := H.trans b y _ r.1 d q p n
         simp only [a5 rfl] at this
         cases this
     ·exact a4 y i d g
theorem vL (H : Bl (fun a b => lt a b = true) (fun x => R x = true)) {l : List α} (g : ∀ x ∈ l, R x = true) (h : l.Pairwise (fun a b => lt a b = true)) : l.Nodup := by
 refine h.imp_of_mem (fun {a b} ha i d e => ?_)
 subst e
 exact H.irrefl a (g a ha) d
theorem nm : ∀ {l m : List α}, l.Nodup → (∀ x ∈ l, x ∈ m) → l.length ≤ m.length
 | [], _, _, _ => by simp
 | x :: l, m, g, b => by
  obtain ⟨A, B, rfl⟩ := List.append_of_mem (b x (by simp))
  have a := eB.1 g
  have := nm (l := l) (m := A ++ B) a.2 (fun y d => by
   have := b y (gH _ d)
   simp only [aW, aQ] at this ⊢
   rcases this with h | h | h
   ·exact .inl h
   ·subst h; exact absurd d a.1
   ·exact .inr h)
  simp at this ⊢; omega
theorem Cz (H : Bl (fun a b => lt a b = true) (fun x => R x = true)) {w : Nat} (hw : w ≤ 1000) (d : α) (l : List α) (I : l.length ≤ 1000000000) : ∀ (n : Nat) (out : List α), l.length < n + out.length → out.Pairwise (fun a b => lt a b = true) → (∀ x ∈ out, x ∈ l ∧ R x = true) →
  (∀ x ∈ l, R x = true → x ∈ out ∨ out.getLast?.all (fun y => lt y x) = true) → ∃ s, Ba w R lt d l n out = some s ∧ xu (fun a b => lt a b = true) (fun x => R x = true) l s
 | 0, out, J, hp, hm, v => by
  exfalso
  have := nm (vL H (fun x g => (hm x g).2) hp) (fun x g => (hm x g).1)
  omega
 | n + 1, out, J, hp, hm, v => by
  rw [Ba]
  obtain ⟨h1, F⟩ := Fp H out.getLast? l false d (fun h => by cases h)
  have hlen := nm (vL H (fun x g => (hm x g).2) hp) (fun x g => (hm x g).1)
  cases E : (sE R lt out.getLast? l false d).1 with
  | false =>
   rw [aX (by simp)]
   refine ⟨out, rfl, hp, fun x => ⟨hm x, fun g => ?_⟩⟩
   rcases v x g.1 g.2 with h | h
   ·exact h
   ·rw [(h1 E).2 x g.1 g.2] at h; cases h
  | true =>
   rw [bB (by simp)]
   obtain ⟨t, a2, a3, a4, _⟩ := F E
   generalize (sE R lt out.getLast? l false d).2 = b at *
   have u : b ∈ l := by rcases a3 with h | ⟨h, _⟩; exact h; cases h
   have q : ∀ y ∈ out, lt y b = true := by
    intro y i
    obtain ⟨A, z, rfl⟩ : ∃ A z, out = A ++ [z] := by
     rcases dI out with h | ⟨A, z, h⟩
     ·subst h; cases i
     ·exact ⟨A, z, by rw [h]; simp⟩
    simp at a2
    rcases aW.1 i with i | i
    ·have D : lt y z = true := (cY.1 hp).2.2 y i z (by simp)
     exact H.trans y z b (hm y (by simp [i])).2 (hm z (by simp)).2 t D a2
    ·simp at i; subst i; exact a2
   have r : (out ++ [b]).Pairwise (fun a b => lt a b = true) := cY.2 ⟨hp, by simp, fun x g y i => by simp at i; subst i; exact q x g⟩
   have m : ∀ x ∈ out ++ [b], x ∈ l ∧ R x = true := fun x g => by
    rcases aW.1 g with g | g
    ·exact hm x g
    ·simp at g; subst g; exact ⟨u, t⟩
   have k := nm (vL H (fun x g => (m x g).2) r) (fun x g => (m x g).1)
   simp at k
   rw [nS (by simp only [aJ, bV]; have : (out.length + (0 + 1)) * w ≤ 1000000000 * 1000 := Nat.mul_le_mul (by omega) hw; omega) (by simp; omega)]
   simp only [aA]
   refine Cz H hw d l I n (out ++ [b]) (by simp; omega) r m (fun x g j => ?_)
   rcases v x g j with h | h
   ·exact .inl (by simp [h])
   ·have G := a4 x g j h
    rcases H.total x b j t with p | p | p
    ·rw [G] at p; cases p
    ·subst p; exact .inl (by simp)
    ·exact .inr (by simp [p])
end
theorem GJ {α : Type} (A : List α) (x : α) (a : A.length < 4611686018427387904) : mP (A ++ [x]) (IntKind.i64.wrap (((A ++ [x]).length : Int) - 1)) = some x := by
 rw [mg (by simp; try omega) (by simp; try omega)]
 rw [nL A x [] _ (by simp; try omega)]
theorem GD (out : List kF) (k : out.length < 4611686018427387904) : ∀ (l : List kF) (ok : Bool) (b : kF), sT out l ok b = some (sE mS BZ out.getLast? l ok b)
 | [], ok, b => rfl
 | x :: xs, ok, b => by
  rw [sT, sE]
  have cmp : ∀ a b, ∃ c, tT a b = some c ∧ decide (c < 0) = BZ a b := fun a b => by
   obtain ⟨c, h1, j⟩ := EY a b
   exact ⟨c, h1, by rw [bT, ← j]; simp⟩
  rw [BX, GD out k xs true x, GD out k xs ok b]
  obtain ⟨c, h1, j⟩ := cmp x b
  rcases dI out with h | ⟨A, z, h⟩
  ·subst h
   simp only [h1, aA, j, bV, Option.all, List.getLast?_nil]
   generalize BZ x b = p
   cases mS x <;> cases ok <;> cases p <;> simp
  ·have i : out = A ++ [z] := by rw [h]; simp
   obtain ⟨t, r, s⟩ := cmp z x
   have d : out.getLast? = some z := by rw [i]; simp
   have g : mP out (IntKind.i64.wrap ((out.length : Int) - 1)) = some z := by rw [i]; exact GJ A z (by rw [i] at k; simp at k; omega)
   have m : ((out.length : Int) == 0) = false := by rw [i]; simp; omega
   rw [d]
   simp only [m, g, r, h1, aA, j, s, Option.all]
   rcases eW (BZ x b) with hp | hp <;> rcases eW (BZ z x) with n | n <;> rcases eW (mS x) with q | q <;> cases ok <;> simp [hp, n, q]
theorem Ur (a b : ByteArray) : (!(rq a b || mx a b)) = rq b a := by
 rcases AU a b with h | h | h
 ·simp [h, IY h]
 ·subst h; simp [wu, uu]
 ·have d := IY h
  have g : mx a b = false := LP (by rintro rfl; rw [uu] at h; cases h)
  simp [h, d, g]
theorem NJ {s : ByteArray} (h : oK s = true) : mx s zS = false := LP (fun e => by have := pv h; rw [e, Rh] at this; omega)
theorem Gx (out : List ByteArray) (m : out.length < 4611686018427387904) : ∀ (l : List ByteArray) (b : ByteArray),
  ∃ n, te out l b = some n ∧ (sE oK rq out.getLast? l (!mx b zS) b) = (!mx n zS, n)
 | [], b => ⟨b, rfl, rfl⟩
 | x :: xs, b => by
  rw [te, sE]
  obtain ⟨w, u, d⟩ := Gx out m xs x
  obtain ⟨y, v, j⟩ := Gx out m xs b
  rw [zf, u, v]
  by_cases i : oK x = true
  ·rw [NJ i] at d
   simp only [cZ] at d
   rcases dI out with h | ⟨A, z, h⟩
   ·subst h
    simp only [aA, bV, Option.all, List.getLast?_nil, i] at *
    rw [d, j]
    generalize rq x b = p
    generalize mx b zS = q
    cases p <;> cases q <;> simp
   ·have k : out = A ++ [z] := by rw [h]; simp
    have a : out.getLast? = some z := by rw [k]; simp
    have g : mP out (IntKind.i64.wrap ((out.length : Int) - 1)) = some z := by rw [k]; exact GJ A z (by rw [k] at m; simp at m; omega)
    have r : ((out.length : Int) == 0) = false := by rw [k]; simp; omega
    rw [a] at d j ⊢
    simp only [r, g, aA, Option.all, Ur, i]
    rw [d, j]
    rcases eW (rq x b) with hp | hp <;> rcases eW (rq z x) with s | s <;> rcases eW (mx b zS) with t | t <;> simp [hp, s, t]
  ·simp only [fW] at i
   rw [i, j]
   simp
theorem PW (a : List kF) : ∀ (n : Nat) (out s : List kF), Ba 136 mS BZ (⟨0, ⟨zS, zS⟩, zS, ⟨zS, zS⟩, ⟨zS, zS⟩, zS⟩ : kF) a n out = some s → s.length < 4611686018427387904 → uH a n out = some s ∧ out.length ≤ s.length
 | 0, out, s, h, _ => by cases h
 | n + 1, out, s, h, i => by
  rw [Ba] at h
  rw [uH]
  have key : out.length ≤ s.length → sT out a false (⟨0, ⟨zS, zS⟩, zS, ⟨zS, zS⟩, ⟨zS, zS⟩, zS⟩ : kF) = _ := fun k => GD out (by omega) a false _
  split at h
  ·rename_i h1
   cases h
   rw [key (aZ _)]
   simp only [aA]
   rw [aX h1]
   exact ⟨rfl, aZ _⟩
  ·rename_i h1
   obtain ⟨o, b, d⟩ := bind_some h
   have g := PW a n o s d i
   have j : out.length + 1 = o.length := by
    unfold nG at b; split at b
    ·cases b; simp
    ·cases b
   rw [key (by omega)]
   simp only [aA]
   rw [bB h1, b]
   exact ⟨g.1, by omega⟩
theorem Qh (a : List ByteArray) : ∀ (n : Nat) (out s : List ByteArray), Ba 16 oK rq zS a n out = some s → s.length < 4611686018427387904 → uJ a n out = some s ∧ out.length ≤ s.length
 | 0, out, s, h, _ => by cases h
 | n + 1, out, s, h, l => by
  rw [Ba] at h
  rw [uJ]
  have key : out.length ≤ s.length → ∃ d, te out a zS = some d ∧ sE oK rq out.getLast? a false zS = (!mx d zS, d) := fun p => by
   have := Gx out (by omega) a zS
   rw [wu] at this
   exact this
  split at h
  ·rename_i h1
   cases h
   obtain ⟨d, g, i⟩ := key (aZ _)
   rw [g]
   rw [i] at h1
   simp only [aA]
   rw [aX (by simpa using h1)]
   exact ⟨rfl, aZ _⟩
  ·rename_i h1
   obtain ⟨o, b, j⟩ := bind_some h
   have k := Qh a n o s j l
   have m : out.length + 1 = o.length := by
    unfold nG at b; split at b
    ·cases b; simp
    ·cases b
   obtain ⟨d, g, i⟩ := key (by omega)
   rw [g]
   rw [i] at h1 b
   simp only [aA]
   rw [bB (by simpa using h1), b]
   exact ⟨k.1, by omega⟩
abbrev RA (l s : List ByteArray) := xu (fun a b => rq a b = true) (fun x => oK x = true) l s
abbrev Ks (l s : List kF) := xu (fun a b => BZ a b = true) (fun x => mS x = true) l s
theorem BY {α : Type} {lt : α → α → Bool} {R : α → Bool} (H : Bl (fun a b => lt a b = true) (fun x => R x = true)) {l s : List α} (h : xu (fun a b => lt a b = true) (fun x => R x = true) l s) : s.length ≤ l.length :=
 nm (vL H (fun x d => ((h.2 x).1 d).2) h.1) (fun x d => ((h.2 x).1 d).1)
theorem Mb (l : List kF) (b : l.length ≤ 1000000000) : ∃ s, yK l = some s ∧ Ks l s := by
 obtain ⟨s, h1, a⟩ := Cz DJ (w := 136) (by omega) (⟨0, ⟨zS, zS⟩, zS, ⟨zS, zS⟩, ⟨zS, zS⟩, zS⟩ : kF) l b lF [] (by rw [yi]; omega) (by simp) (by simp) (fun x _ _ => .inr rfl)
 exact ⟨s, (PW l lF [] s h1 (by have := BY DJ a; omega)).1, a⟩
theorem QC (l : List ByteArray) (b : l.length ≤ 1000000000) : ∃ s, AA l = some s ∧ RA l s := by
 obtain ⟨s, h1, a⟩ := Cz (Qg (fun x => oK x = true)) (w := 16) (by omega) zS l b lF [] (by rw [yi]; omega) (by simp) (by simp) (fun x _ _ => .inr rfl)
 exact ⟨s, (Qh l lF [] s h1 (by have := BY (Qg _) a; omega)).1, a⟩
end Go.Proofs.YtklbhegeiijbjaaGreat
namespace Go.Proofs.YtklbhegeiijbjaaGreat
open Go.RowKit
def zC : kF := ⟨0, ⟨zS, zS⟩, zS, ⟨zS, zS⟩, ⟨zS, zS⟩, zS⟩
theorem L4 (f : kF → Option Bool) : ∀ (n : Nat) (l : List kF) (i j : Int), oM f n l i j = D2 f zC n l i j
 | 0, _, _, _ => rfl
 | n + 1, l, i, j => by
  rw [oM, D2]
  simp only [L4 f n]
  rfl
theorem Ms (f : kF → Option Bool) : ∀ (l : List kF) (i : Nat), pH f l i = An f l i
 | [], _ => rfl
 | x :: l, i => by rw [pH, An]; simp only [Ms f l]
theorem Pa (f : kF → Option Bool) (l : List kF) : sb l f = Ik f zC l := by
 unfold sb Ik vi
 simp only [Ms, L4]
theorem Km (i : Int) : ∀ (n : Nat) (l : List kF) (k j : Int), pn i n l k j = Cj ng i n l k j
 | 0, _, _, _ => rfl
 | n + 1, l, k, j => by
  rw [pn, Cj]
  simp only [Km i n]
theorem JV (l : List kF) : ∀ (n : Nat) (i : Int), pq l n i = CP ng zC l n i
 | 0, _ => rfl
 | n + 1, i => by
  rw [pq, CP]
  simp only [JV l n, Km]
  rfl
theorem PF (l : List kF) : tR l = Ka ng zC l := by
 unfold tR Ka
 simp only [JV]
theorem Sm {l : List kF} (a : l.length ≤ 1000000000) : sN l = some l := by
 unfold sN
 rw [nS (by simp; omega) (by simp; omega)]
 simp
theorem RE (l : List kF) (g : l.length ≤ 1000000000) : ∃ s, zM l = some s ∧ Ks l s := by
 unfold zM
 rw [Sm g]
 simp only [aA]
 rw [Pa, J3 _ (fun x => !mS x) zC l (by omega) (fun x _ => by simp [yS, xr])]
 simp only [aA, jo]
 have j : (l.filter fun x => mS x).length ≤ l.length := gD _ _
 obtain ⟨s, h1, i, d⟩ := Gg (eq := ng) (lt := fun a b => BZ a b = true) (P := fun x => mS x = true) (cf := fun x => uI x.1 x.2) (l := l.filter fun x => mS x) (fun x y => om) DJ (fun x h => (cH.1 h).2) (by omega) (fun x y _ _ => FQ x y)
 rw [h1]
 simp only [aA]
 rw [PF, KS _ _ _ (by omega)]
 refine ⟨_, rfl, d.1, fun x => ?_⟩
 rw [d.2]
 simp
theorem I7 (b : List kF) : ∀ (A l : List kF), qS (A ++ l) l A.length = some true
 | A, [] => rfl
 | A, x :: l => by
  rw [qS, nL A x l _ rfl]
  simp only [aA]
  rw [om.2 rfl]
  simp only [bU, aB, aG]
  have := I7 b (A ++ [x]) l
  simpa using this
theorem Tv (l : List kF) : sa l l = some true := by
 unfold sa
 rw [bB (by simp)]
 exact I7 [] [] l
end Go.Proofs.YtklbhegeiijbjaaGreat
namespace Go.Proofs.YtklbhegeiijbjaaGreat
open Go.RowKit
def tt {κ : Type} (ks : List κ) : List (κ × Bool) := ks.map fun k => (k, true)
def sF {κ : Type} (beq : κ → κ → Bool) (ks : List κ) (k : κ) : Bool := ks.any fun x => beq k x
def ins {κ : Type} (beq : κ → κ → Bool) (ks : List κ) (k : κ) : List κ := if sF beq ks k then ks else ks ++ [k]
section
variable {κ : Type} {beq : κ → κ → Bool}
theorem tk (a : ∀ {x y}, beq x y = true ↔ x = y) (ks : List κ) (k : κ) : sF beq ks k = true ↔ k ∈ ks := by
 simp [sF, fB, a]
theorem N0 (ks : List κ) : (tt ks).length = ks.length := by simp [tt]
theorem OQ (ks : List κ) (k : κ) : AM beq (tt ks) k false = sF beq ks k := by
 unfold AM mJ sF tt
 induction ks with
 | nil => rfl
 | cons x xs ih =>
  simp only [bP, gU, iS]
  cases h : beq k x with
  | true => simp
  | false => simpa using ih
theorem QR (l : ∀ {x y}, beq x y = true ↔ x = y) (ks : List κ) (k : κ) : po beq (tt ks) k true = tt (ins beq ks k) := by
 unfold po ins
 have m : (tt ks).findIdx? (fun p => beq k p.1) = ks.findIdx? (fun x => beq k x) := by
  unfold tt; rw [jg]; rfl
 rw [m]
 cases h : ks.findIdx? (fun x => beq k x) with
 | none =>
  rw [iO] at h
  rw [bB]
  ·simp [tt]
  ·intro b
   unfold sF at b
   rw [fB] at b
   obtain ⟨x, n, a⟩ := b
   rw [h x n] at a
   cases a
 | some i =>
  rw [fC] at h
  obtain ⟨g, h1, _⟩ := h
  have e := l.1 h1
  rw [aX]
  ·simp only [tt]
   apply fM
   intro j
   rw [gF]
   split
   ·rename_i d
    subst d
    simp [g, e]
   ·rfl
  ·unfold sF
   exact fB.2 ⟨ks[i], List.getElem_mem g, h1⟩
end
section
variable {all : List kF} {wants : List kD} {T : List kD} {W : List ByteArray} {R : List kF}
def px (c : kF) : List kD := if c.Kind = 1 then [] else if c.Kind = 4 then [c.B, c.C] else [c.B]
end
theorem LC (x : kF) : ∀ l : List kF, AK l x = some (sF ng l x)
 | [] => rfl
 | y :: l => by
  have ih := LC x l
  unfold AK at ih ⊢
  rw [xY, ih]
  have : ng y x = ng x y := by rw [bT, om, om]; exact eq_comm
  rw [this]
  simp only [sF, iS]
  cases ng x y <;> simp
end Go.Proofs.YtklbhegeiijbjaaGreat
namespace Go.Proofs.YtklbhegeiijbjaaGreat
open Go.RowKit
theorem Rz {c : kF} (h : mS c = true) : zI c = some (c.Head :: px c) := by
 unfold zI
 rw [xr, h]
 simp only [aA, bU, aB, aG]
 have a : c.Kind = 1 ∨ c.Kind = 2 ∨ c.Kind = 3 ∨ c.Kind = 4 := by rcases pF h with h | h | h | h <;> simp [h.1]
 rcases a with k | k | k | k
 ·simp [k, px]
 ·rw [aX (by simp [k]), nS (by simp) (by simp)]
  simp [k, px]
 ·rw [aX (by simp [k]), nS (by simp) (by simp)]
  simp [k, px]
 ·rw [aX (by simp [k]), nS (by simp) (by simp)]
  simp only [aA]
  rw [aX (by simp [k]), nS (by simp) (by simp)]
  simp [k, px]
theorem xu.congr {α : Type} {lt : α → α → Prop} {P : α → Prop} {l m s : List α} (h : xu lt P l s) (hm : ∀ x, x ∈ l ↔ x ∈ m) : xu lt P m s := ⟨h.1, fun x => by rw [h.2, hm]⟩
theorem QY {κ : Type} (ks : List κ) : (tt ks).map (·.1) = ks := by simp [tt, iy]
end Go.Proofs.YtklbhegeiijbjaaGreat
namespace Go.Proofs.YtklbhegeiijbjaaGreat
open Go.RowKit
def yW (c : kF) : Nat := c.Head.kE.size + c.Head.kL.size + c.ma.size + c.B.kE.size + c.B.kL.size + c.C.kE.size + c.C.kL.size + c.mc.size
end Go.Proofs.YtklbhegeiijbjaaGreat
namespace Go.Proofs.YtklbhegeiijbjaaGreat
open Go.RowKit
section
variable {κ γ : Type} {beq : κ → κ → Bool}
theorem rY (a : ∀ {x y}, beq x y = true ↔ x = y) {A B : List (κ × γ)} {k : κ} {x : γ} (b : ∀ p ∈ A, p.1 ≠ k) : mJ beq (A ++ (k, x) :: B) k = some x := by
 unfold mJ
 rw [jX]
 have : A.find? (fun p => beq k p.1) = none := ja.2 (fun p hp h => b p hp (a.1 h).symm)
 rw [this]
 simp [a.2 (rfl : k = k)]
theorem xb (a : ∀ {x y}, beq x y = true ↔ x = y) {l : List (κ × γ)} {k : κ} (h : ∀ p ∈ l, p.1 ≠ k) : mJ beq l k = none := by
 unfold mJ
 rw [ja.2 (fun p hp b => h p hp (a.1 b).symm)]
 rfl
theorem yh (a : ∀ {x y}, beq x y = true ↔ x = y) {A B : List (κ × γ)} {k : κ} {x y : γ} (b : ∀ p ∈ A, p.1 ≠ k) : po beq (A ++ (k, x) :: B) k y = A ++ (k, y) :: B := by
 have h1 : (A ++ (k, x) :: B).findIdx? (fun p => beq k p.1) = some A.length := by
  rw [jx, iO.2 (fun p hp => by
   cases h : beq k p.1 with
   | false => rfl
   | true => exact absurd (a.1 h).symm (b p hp))]
  simp [fY, a.2 (rfl : k = k)]
 rw [sh h1]
 simp
theorem DH (a : ∀ {x y}, beq x y = true ↔ x = y) {l : List (κ × γ)} {k : κ} {y : γ} (h : ∀ p ∈ l, p.1 ≠ k) : po beq l k y = l ++ [(k, y)] := by
 refine wm (iO.2 (fun p hp => ?_)) y
 cases b : beq k p.1 with
 | false => rfl
 | true => exact absurd (a.1 b).symm (h p hp)
theorem vx (k : κ) : ∀ (l : List (κ × γ)), (∀ p ∈ l, p.1 ≠ k) ∨ ∃ A x B, l = A ++ (k, x) :: B ∧ ∀ p ∈ A, p.1 ≠ k
 | [] => .inl (fun _ h => by cases h)
 | p :: l => by
  by_cases hp : p.1 = k
  ·exact .inr ⟨[], p.2, l, by rw [← hp]; rfl, fun _ h => by cases h⟩
  ·rcases vx k l with h | ⟨A, x, B, rfl, h⟩
   ·exact .inl (fun q a => by rcases aQ.1 a with rfl | a; exact hp; exact h q a)
   ·exact .inr ⟨p :: A, x, B, rfl, fun q a => by rcases aQ.1 a with rfl | a; exact hp; exact h q a⟩
theorem GC (a : ∀ {x y}, beq x y = true ↔ x = y) (A B : List (κ × γ)) (k : κ) : mJ beq (A ++ B) k = (mJ beq A k).or (mJ beq B k) := by
 unfold mJ
 rw [jX]
 cases A.find? (fun p => beq k p.1) <;> rfl
theorem Cq (p : κ × γ) (l : List (κ × γ)) (k : κ) : mJ beq (p :: l) k = if beq k p.1 = true then some p.2 else mJ beq l k := by
 unfold mJ
 rw [gU]
 cases beq k p.1 <;> simp
theorem E0 (a : ∀ {x y}, beq x y = true ↔ x = y) (l : List (κ × γ)) (k b : κ) (y : γ) : mJ beq (po beq l k y) b = if beq b k = true then some y else mJ beq l b := by
 rcases vx k l with h | ⟨A, x, B, rfl, h⟩
 ·rw [DH a h, GC a, Cq]
  by_cases hk : beq b k = true
  ·have := a.1 hk
   subst this
   rw [aX hk, aX hk, xb a h]; rfl
  ·rw [bB hk, bB hk]
   show (mJ beq l b).or none = _
   cases mJ beq l b <;> rfl
 ·rw [yh a h, GC a, Cq, GC a, Cq]
  by_cases hk : beq b k = true
  ·have := a.1 hk
   subst this
   rw [aX hk, aX hk, xb a h]; rfl
  ·rw [bB hk, bB hk, bB hk]
end
abbrev pX := List (kD × List ByteArray)
def mm (T : pX) : List (kD × List (ByteArray × Bool)) := T.map fun p => (p.1, tt p.2)
def sS (T : pX) (r : kD) : List ByteArray := (mJ lx T r).getD []
def FS (T : pX) : List lf := T.flatMap fun p => p.2.map fun w => (⟨p.1, w⟩ : lf)
def E5 (T : pX) (r : kD) (w : ByteArray) : pX := po lx T r (sS T r ++ [w])
theorem EC (A B : pX) : mm (A ++ B) = mm A ++ mm B := by simp [mm]
theorem Ao {A : pX} {r : kD} (h : ∀ p ∈ A, p.1 ≠ r) : ∀ p ∈ mm A, p.1 ≠ r := by
 intro p hp
 simp only [mm, bN] at hp
 obtain ⟨q, a, rfl⟩ := hp
 exact h q a
theorem QH (T : pX) (r : kD) : mJ lx (mm T) r = (mJ lx T r).map tt := by
 rcases vx r T with h | ⟨A, x, B, rfl, h⟩
 ·rw [xb lz h, xb lz (Ao h)]; rfl
 ·rw [rY lz h, EC]
  exact rY lz (Ao h)
theorem Mp (T : pX) (r : kD) : (mJ lx (mm T) r).getD [] = tt (sS T r) := by
 rw [QH, sS]; cases mJ lx T r <;> rfl
theorem Hz (T : pX) (r : kD) (w : ByteArray) : (FS (E5 T r w)).Perm (FS T ++ [(⟨r, w⟩ : lf)]) := by
 unfold E5 sS
 rcases vx r T with h | ⟨A, x, B, rfl, h⟩
 ·rw [DH lz h, xb lz h]
  simp [FS]
 ·rw [yh lz h, rY lz h]
  simp only [FS, jH, jq, ju, cL, bP, gI, aM]
  refine cJ _ (cJ _ ?_)
  exact fZ
theorem Pf {T : pX} (hk : (T.map (·.1)).Nodup) (r : kD) (w : ByteArray) : ((E5 T r w).map (·.1)).Nodup := by
 unfold E5
 rcases vx r T with h | ⟨A, x, B, rfl, h⟩
 ·rw [DH lz h]
  simp only [cL, bP, gI]
  refine cE.2 ⟨hk, by simp, fun a ha b d e => ?_⟩
  simp at d; subst d; subst e
  obtain ⟨p, hp, e⟩ := bN.1 ha
  exact h p hp e
 ·rw [yh lz h]
  simpa using hk
theorem Cf {T : pX} (hk : (T.map (·.1)).Nodup) (f : lf) : f ∈ FS T ↔ f.ma ∈ sS T f.kD := by
 simp only [FS, ki, bN]
 constructor
 ·rintro ⟨p, hp, w, hw, rfl⟩
  obtain ⟨A, B, rfl⟩ := List.append_of_mem hp
  have a : ∀ q ∈ A, q.1 ≠ p.1 := fun q d e => by
   rw [cL, bP] at hk
   exact (cE.1 hk).2.2 q.1 (bN.2 ⟨q, d, rfl⟩) p.1 (by simp) e
  rw [sS, show p = (p.1, p.2) from rfl, rY lz a]
  exact hw
 ·intro h
  unfold sS at h
  rcases vx f.kD T with b | ⟨A, x, B, rfl, a⟩
  ·rw [xb lz b] at h; cases h
  ·rw [rY lz a] at h
   exact ⟨(f.kD, x), by simp, f.ma, h, rfl⟩
theorem Lg {T : pX} (h : (FS T).Nodup) (r : kD) : (sS T r).Nodup := by
 unfold sS
 rcases vx r T with b | ⟨A, x, B, rfl, a⟩
 ·rw [xb lz b]; simp
 ·rw [rY lz a]
  simp only [FS, jH, jq] at h
  have h1 := (cE.1 (cE.1 h).2.1).1
  simp only [List.Nodup, iz] at h1
  exact h1.imp (fun h e => h (by rw [e]))
inductive pP (C : List kF) : lf → Prop
 | mem (c) : c ∈ C → c.Kind = 1 → pP C ⟨c.Head, c.ma⟩
 | inc (c w) : c ∈ C → c.Kind = 2 → pP C ⟨c.B, w⟩ → pP C ⟨c.Head, w⟩
 | F0 (c b w) : c ∈ C → c.Kind = 3 → pP C ⟨c.B, b⟩ → pP C ⟨⟨b, c.mc⟩, w⟩ → pP C ⟨c.Head, w⟩
 | both (c w) : c ∈ C → c.Kind = 4 → pP C ⟨c.B, w⟩ → pP C ⟨c.C, w⟩ → pP C ⟨c.Head, w⟩
theorem pP.mono {C C' : List kF} (h : ∀ c ∈ C, c ∈ C') {f : lf} (i : pP C f) : pP C' f := by
 induction i with
 | mem c a hk => exact .mem c (h c a) hk
 | inc c w a hk _ ih => exact .inc c w (h c a) hk ih
 | F0 c b w a hk _ _ d g => exact .F0 c b w (h c a) hk d g
 | both c w a hk _ _ d g => exact .both c w (h c a) hk d g
def Ge (C : List kF) : List lf := (C.map (·.Head)).flatMap fun r => (C.map (·.ma)).map fun w => (⟨r, w⟩ : lf)
theorem D5 (C : List kF) : (Ge C).length = C.length * C.length := by
 unfold Ge
 have : ∀ l : List kD, (l.flatMap fun r => (C.map (·.ma)).map fun w => (⟨r, w⟩ : lf)).length = l.length * C.length := fun l => by
  induction l with
  | nil => simp
  | cons x l ih => simp only [jq, aF, ih, dD, aJ, cP]; omega
 rw [this, dD]
theorem Rk {C : List kF} {r : kD} {w : ByteArray} : (⟨r, w⟩ : lf) ∈ Ge C ↔ (∃ c ∈ C, c.Head = r) ∧ ∃ c ∈ C, c.ma = w := by
 unfold Ge
 simp only [ki, bN, lf.mk.injEq]
 constructor
 ·rintro ⟨g, ⟨c, d, rfl⟩, h, ⟨b, a, rfl⟩, rfl, rfl⟩; exact ⟨⟨c, d, rfl⟩, b, a, rfl⟩
 ·rintro ⟨⟨c, d, rfl⟩, b, a, rfl⟩; exact ⟨_, ⟨c, d, rfl⟩, _, ⟨b, a, rfl⟩, rfl, rfl⟩
theorem pP.Lv {C : List kF} {f : lf} (h : pP C f) : ∃ c ∈ C, c.Kind = 1 ∧ c.ma = f.ma := by
 induction h with
 | mem c g hk => exact ⟨c, g, hk, rfl⟩
 | inc c w g hk _ ih => exact ih
 | F0 c b w g hk _ _ a d => exact d
 | both c w g hk _ _ a d => exact a
theorem pP.head {C : List kF} {f : lf} (h : pP C f) : ∃ c ∈ C, c.Head = f.kD := by
 cases h with
 | mem c a hk => exact ⟨c, a, rfl⟩
 | inc c w a hk _ => exact ⟨c, a, rfl⟩
 | F0 c b w a hk _ _ => exact ⟨c, a, rfl⟩
 | both c w a hk _ _ => exact ⟨c, a, rfl⟩
theorem pP.Ge {C : List kF} {f : lf} (h : pP C f) : f ∈ Ge C := by
 obtain ⟨c, a, _, hw⟩ := h.Lv
 exact Rk.2 ⟨h.head, c, a, hw⟩
structure rF (C : List kF) (T : pX) (td : List lf) (n : Int) : Prop where
 keys : (T.map (·.1)).Nodup
 nd : (FS T).Nodup
 Ly : td.Nodup
 sub : ∀ f ∈ td, f ∈ FS T
 num : n = (FS T).length
 xG : ∀ f ∈ FS T, pP C f
theorem rF.len {C : List kF} {T : pX} {b : List lf} {n : Int} (h : rF C T b n) : (FS T).length ≤ C.length * C.length := by
 rw [← D5]; exact nm h.nd (fun f a => (h.xG f a).Ge)
theorem rF.SE {C : List kF} {T : pX} {a : List lf} {n : Int} (h : rF C T a n) : a.length ≤ (FS T).length := nm h.Ly h.sub
theorem rF.mono {C C' : List kF} {T : pX} {a : List lf} {n : Int} (h : rF C T a n) (b : ∀ c ∈ C, c ∈ C') : rF C' T a n := ⟨h.keys, h.nd, h.Ly, h.sub, h.num, fun f d => (h.xG f d).mono b⟩
structure AZ (T : pX) (td : List lf) (T' : pX) (td' : List lf) : Prop where
 nI : ∀ f ∈ FS T, f ∈ FS T'
 todo : ∀ f ∈ td, f ∈ td'
 new : ∀ f ∈ FS T', f ∈ FS T ∨ f ∈ td'
 fresh : ∀ f ∈ td', f ∈ td ∨ f ∉ FS T
theorem AZ.refl (T : pX) (a : List lf) : AZ T a T a := ⟨fun _ h => h, fun _ h => h, fun _ h => .inl h, fun _ h => .inl h⟩
theorem AZ.trans {T T' T'' : pX} {i g a : List lf} (h : AZ T i T' g) (k : AZ T' g T'' a) : AZ T i T'' a :=
 ⟨fun f b => k.nI f (h.nI f b), fun f b => k.todo f (h.todo f b), fun f b => by
  rcases k.new f b with h1 | h1
  ·rcases h.new f h1 with d | d
   ·exact .inl d
   ·exact .inr (k.todo f d)
  ·exact .inr h1, fun f b => by
  rcases k.fresh f b with h1 | h1
  ·exact h.fresh f h1
  ·exact .inr (fun d => h1 (h.nI f d))⟩
theorem HU {α : Type} (p : α → Bool) : ∀ l : List α, (l.filter p).length + (l.filter fun x => !p x).length = l.length
 | [] => rfl
 | x :: l => by
  have := HU p l
  cases h : p x <;> simp [h] <;> omega
theorem rF.Gb {C C' : List kF} {T T' : pX} {i d : List lf} {n p : Int} (j : rF C' T' d p) (g : rF C T i n) (x : AZ T i T' d) : d.length + (FS T).length ≤ i.length + (FS T').length := by
 classical
 have h1 : (d.filter fun f => decide (f ∈ FS T)).length ≤ i.length := nm (j.Ly.filter _) (fun f k => by
  have := cH.1 k
  rcases x.fresh f this.1 with h | h
  ·exact h
  ·exact absurd (by simpa using this.2) h)
 have l : (FS T ++ d.filter fun f => !decide (f ∈ FS T)).length ≤ (FS T').length := nm (cE.2 ⟨g.nd, j.Ly.filter _, fun a ha b m e => by
  subst e
  have := (cH.1 m).2
  simp [ha] at this⟩) (fun f k => by
  rcases aW.1 k with h | h
  ·exact x.nI f h
  ·exact j.sub f (cH.1 h).1)
 have q : (d.filter fun f => decide (f ∈ FS T)).length + (d.filter fun f => !decide (f ∈ FS T)).length = d.length := by
  exact HU (fun f => decide (f ∈ FS T)) d
 rw [aF] at l
 omega
def CV (C : List kF) (T : pX) (g : List lf) (b : Option (List (kD × List (ByteArray × Bool)) × List lf × Int)) (Q : pX → Prop) : Prop :=
 ∃ T' a d, b = some (mm T', a, d) ∧ rF C T' a d ∧ AZ T g T' a ∧ Q T'
theorem CV.mono {C : List kF} {T : pX} {g : List lf} {a : Option (List (kD × List (ByteArray × Bool)) × List lf × Int)} {Q Q' : pX → Prop} (h : CV C T g a Q) (k : ∀ T', (∀ f ∈ FS T, f ∈ FS T') → Q T' → Q' T') : CV C T g a Q' := by
 obtain ⟨T', b, l, h1, i, d, j⟩ := h
 exact ⟨T', b, l, h1, i, d, k T' d.nI j⟩
def rZ (C : List kF) : Prop := C.length ≤ 1000000
theorem rZ.sq {C : List kF} (h : rZ C) : C.length * C.length ≤ 1000000000000 := Nat.mul_le_mul h h
theorem ur {T : pX} (hk : (T.map (·.1)).Nodup) (r : kD) (w : ByteArray) : AM mx ((mJ lx (mm T) r).getD []) w false = true ↔ (⟨r, w⟩ : lf) ∈ FS T := by
 rw [Mp, OQ, tk np, Cf hk]
theorem Dt {C : List kF} (y : rZ C) {T : pX} {k : List lf} {n : Int} (h : rF C T k n) (cs : List kF) (I : List (kD × List kF)) (ws : List (ByteArray × List kF)) {r : kD} {w : ByteArray} (z : pP C ⟨r, w⟩) :
  CV C T k (oV (mm T) cs I ws k n r w) (fun T' => (⟨r, w⟩ : lf) ∈ FS T') := by
 unfold oV
 have E := y.sq
 have J := h.len
 have F := h.SE
 by_cases g : (⟨r, w⟩ : lf) ∈ FS T
 ·rw [aX ((ur h.keys r w).2 g)]
  exact ⟨T, k, n, rfl, h, AZ.refl _ _, g⟩
 ·rw [bB (fun t => g ((ur h.keys r w).1 t))]
  have D : rF C (E5 T r w) (k ++ [⟨r, w⟩]) (n + 1) := by
   have hp := Hz T r w
   refine ⟨Pf h.keys r w, (hp.nodup_iff).2 (cE.2 ⟨h.nd, by simp, fun a ha b p e => ?_⟩), cE.2 ⟨h.Ly, by simp, fun a ha b p e => ?_⟩, fun f d => hp.mem_iff.2 ?_, ?_, fun f d => ?_⟩
   ·simp at p; subst p; subst e; exact g ha
   ·simp at p; subst p; subst e; exact g (h.sub _ ha)
   ·rcases aW.1 d with d | d
    ·exact cO _ (h.sub f d)
    ·exact eV _ d
   ·rw [hp.length_eq, h.num]; simp
   ·rcases aW.1 (hp.mem_iff.1 d) with d | d
    ·exact h.xG f d
    ·simp at d; subst d; exact z
  have u : ((if (mJ lx (mm T) r).isNone = true then ((GR lx (mm T) r []).bind fun l => some l) else some (mm T)) : Option _).bind (fun l => (Gw lx mx l r w true)) = some (mm (E5 T r w)) := by
   unfold E5 sS
   rcases vx r T with j | ⟨A, x, B, rfl, s⟩
   ·have q := xb lz (Ao j)
    rw [q, xb lz j, DH lz j, EC]
    simp only [Option.isNone_none, aN, GR, q, aA]
    rw [DH lz (Ao j)]
    unfold Gw
    rw [rY lz (Ao j)]
    simp only [fE]
    rw [yh lz (Ao j)]
    rfl
   ·have m := Ao s
    have v : mJ lx (mm (A ++ (r, x) :: B)) r = some (tt x) := by rw [EC]; exact rY lz m
    rw [v, rY lz s, yh lz s]
    simp only [Option.isNone_some, aB, aG, aA, Gw, v, fE, ju]
    have G : w ∉ x := fun hw => g (by
     rw [Cf h.keys, sS, rY lz s]; exact hw)
    rw [QR np]
    rw [show ins mx x w = x ++ [w] from by unfold ins; rw [bB (fun t => G ((tk np x w).1 t))]]
    rw [EC, show mm ((r, x) :: B) = (r, tt x) :: mm B from rfl, yh lz m, EC]
    rfl
  refine ⟨E5 T r w, k ++ [⟨r, w⟩], n + 1, ?_, D, ⟨fun f d => (Hz T r w).mem_iff.2 (cO _ d), fun f d => cO _ d, fun f d => ?_, fun f d => ?_⟩, (Hz T r w).mem_iff.2 (by simp)⟩
  ·have i := u
   generalize ((if (mJ lx (mm T) r).isNone = true then ((GR lx (mm T) r []).bind fun l => some l) else some (mm T)) : Option _) = o at i
   cases o with
   | none => cases i
   | some l =>
    simp only [aA] at i ⊢
    rw [i]
    simp only [aA]
    rw [nS (by simp; omega) (by simp; omega)]
    simp only [aA]
    rw [mg (by rw [h.num]; omega) (by rw [h.num]; omega)]
  ·rcases aW.1 ((Hz T r w).mem_iff.1 d) with h1 | h1
   ·exact .inl h1
   ·exact .inr (eV _ h1)
  ·rcases aW.1 d with h1 | h1
   ·exact .inl h1
   ·simp at h1; subst h1; exact .inr g
end Go.Proofs.YtklbhegeiijbjaaGreat
namespace Go.Proofs.YtklbhegeiijbjaaGreat
open Go.RowKit
theorem AD (l : List ByteArray) (x : ByteArray) : x ∈ vZ l ↔ x ∈ l := by unfold vZ; simp
def tH (C : List kF) : Prop := ∀ c ∈ C, mS c = true
theorem Oe {c : kF} (h : mS c = true) (hk : c.Kind = 1) : c.ma.size ≤ 16 := by
 rcases pF h with h | h | h | h
 ·exact (pv h.2.1).2
 ·exact absurd (hk.symm.trans h.1) (by decide)
 ·exact absurd (hk.symm.trans h.1) (by decide)
 ·exact absurd (hk.symm.trans h.1) (by decide)
theorem OW {T : pX} (r : kD) (hk : (T.map (·.1)).Nodup) : (sS T r).length ≤ (FS T).length := by
 unfold sS
 rcases vx r T with b | ⟨A, x, B, rfl, a⟩
 ·rw [xb lz b]; simp
 ·rw [rY lz a]
  simp only [FS, jH, jq, aF, dD, ju]
  omega
theorem HE {C : List kF} (a : rZ C) (b : tH C) {T : pX} {i : List lf} {n : Int} (h : rF C T i n) (cs : List kF) (j : List (kD × List kF)) (ws : List (ByteArray × List kF)) (q : List lf) (z : Int) (r : kD) :
  rK (mm T) cs j ws q z r = some (vZ (sS T r)) := by
 unfold rK pI
 rw [Mp]
 simp only [aA, pW]
 have m := OW r h.keys
 have k := h.len
 have l := a.sq
 unfold G2
 rw [QY, aX]
 refine ⟨Lg h.nd r, fun p hp => ?_, by rw [N0]; omega⟩
 simp only [tt, bN] at hp
 obtain ⟨w, hw, rfl⟩ := hp
 have g := h.xG ⟨r, w⟩ ((Cf h.keys ⟨r, w⟩).2 hw)
 obtain ⟨c, d, hk, e⟩ := g.Lv
 have := Oe (b c d) hk
 simp only at e ⊢
 rw [← e]
 unfold maxLen
 omega
theorem NC {C : List kF} (i : rZ C) (cs : List kF) (g : List (kD × List kF)) (ws : List (ByteArray × List kF)) (head : kD) : ∀ (l : List ByteArray) {T : pX} {a : List lf} {n : Int}, rF C T a n → (∀ w ∈ l, pP C ⟨head, w⟩) →
  CV C T a (re cs g ws head l (mm T) a n) (fun T' => ∀ w ∈ l, (⟨head, w⟩ : lf) ∈ FS T')
 | [], T, a, n, h, _ => ⟨T, a, n, rfl, h, AZ.refl _ _, fun _ hw => by cases hw⟩
 | w :: l, T, a, n, h, j => by
  rw [re]
  obtain ⟨T1, s, t, k, g1, x1, q⟩ := Dt i h cs g ws (j w (by simp))
  rw [k]
  simp only [aA]
  obtain ⟨T2, d, p, m, g2, x2, r⟩ := NC i cs g ws head l g1 (fun w hw => j w (by simp [hw]))
  refine ⟨T2, d, p, m, g2, x1.trans x2, fun v b => ?_⟩
  rcases aQ.1 b with rfl | b
  ·exact x2.nI _ q
  ·exact r v b
theorem RJ {C : List kF} (b : rZ C) (g : tH C) {T : pX} {a : List lf} {n : Int} (h : rF C T a n) (cs : List kF) (d : List (kD × List kF)) (ws : List (ByteArray × List kF)) (r head : kD) (i : ∀ w, (⟨r, w⟩ : lf) ∈ FS T → pP C ⟨head, w⟩) :
  CV C T a (vd (mm T) cs d ws a n r head) (fun T' => ∀ w, (⟨r, w⟩ : lf) ∈ FS T → (⟨head, w⟩ : lf) ∈ FS T') := by
 unfold vd
 rw [HE b g h]
 simp only [aA]
 refine (NC b cs d ws head _ h (fun w hw => i w ((Cf h.keys ⟨r, w⟩).2 ((AD _ _).1 hw)))).mono (fun T' _ j w hw => j w ((AD _ _).2 ((Cf h.keys ⟨r, w⟩).1 hw)))
def Fx (c : kF) (f : lf) (T T' : pX) : Prop :=
 (c.Kind = 2 → f.kD = c.B → (⟨c.Head, f.ma⟩ : lf) ∈ FS T') ∧
 (c.Kind = 3 → f.kD = c.B → ∀ w, (⟨⟨f.ma, c.mc⟩, w⟩ : lf) ∈ FS T → (⟨c.Head, w⟩ : lf) ∈ FS T') ∧
 (c.Kind = 4 → (⟨c.B, f.ma⟩ : lf) ∈ FS T → (⟨c.C, f.ma⟩ : lf) ∈ FS T → (⟨c.Head, f.ma⟩ : lf) ∈ FS T')
theorem Fx.mono {c : kF} {f : lf} {T T' T0 T1 : pX} (h : Fx c f T T') (g : ∀ f ∈ FS T0, f ∈ FS T) (h1 : ∀ f ∈ FS T', f ∈ FS T1) : Fx c f T0 T1 :=
 ⟨fun a b => h1 _ (h.1 a b), fun a b w hw => h1 _ (h.2.1 a b w (g _ hw)), fun a b d => h1 _ (h.2.2 a (g _ b) (g _ d))⟩
theorem Qi (x : Option (List (kD × List (ByteArray × Bool)) × List lf × Int)) : (x.bind fun r => some (r.1, r.2.1, r.2.2)) = x := by cases x <;> rfl
theorem NF {C : List kF} (p : rZ C) (u : tH C) {T : pX} {i : List lf} {n : Int} (h : rF C T i n) (cs : List kF) (l : List (kD × List kF)) (ws : List (ByteArray × List kF)) {c : kF} (q : c ∈ C) {f : lf} (s : f ∈ FS T) (t : f.kD ∈ px c) :
  CV C T i (sJ (mm T) cs l ws i n c f) (Fx c f T) := by
 unfold sJ
 simp only [Qi, Eh]
 by_cases a : c.Kind = 2
 ·have m : f.kD = c.B := by simpa [px, a] using t
  rw [aX (by simp [a])]
  have r : pP C ⟨c.Head, f.ma⟩ := .inc c f.ma q a (by rw [← m]; exact h.xG f s)
  refine (Dt p h cs l ws r).mono (fun T' _ g => ⟨fun _ _ => g, fun k => absurd (a.symm.trans k) (by decide), fun k => absurd (a.symm.trans k) (by decide)⟩)
 rw [bB (by simp [a])]
 by_cases b : c.Kind = 3
 ·have m : f.kD = c.B := by simpa [px, b] using t
  rw [aX (by simp [b])]
  refine (RJ p u h cs l ws ⟨f.ma, c.mc⟩ c.Head (fun w hw => .F0 c f.ma w q b (by rw [← m]; exact h.xG f s) (h.xG _ hw))).mono (fun T' _ g => ⟨fun k => absurd k a, fun _ _ w hw => g w hw, fun k => absurd (b.symm.trans k) (by decide)⟩)
 rw [bB (by simp [b])]
 by_cases j : c.Kind = 4
 ·rw [aX (by simp [j])]
  simp only [aA]
  by_cases d : (⟨c.B, f.ma⟩ : lf) ∈ FS T ∧ (⟨c.C, f.ma⟩ : lf) ∈ FS T
  ·rw [aX (by rw [bJ, ur h.keys, ur h.keys]; exact d)]
   have r : pP C ⟨c.Head, f.ma⟩ := .both c f.ma q j (h.xG _ d.1) (h.xG _ d.2)
   exact (Dt p h cs l ws r).mono (fun T' _ g => ⟨fun k => absurd k a, fun k => absurd k b, fun _ _ _ => g⟩)
  ·rw [bB (by rw [bJ, ur h.keys, ur h.keys]; exact d)]
   exact ⟨T, i, n, rfl, h, AZ.refl _ _, fun k => absurd k a, fun k => absurd k b, fun _ x y => absurd ⟨x, y⟩ d⟩
 ·rw [bB (by simp [j])]
  exact ⟨T, i, n, rfl, h, AZ.refl _ _, fun k => absurd k a, fun k => absurd k b, fun k => absurd k j⟩
theorem JX {C : List kF} (i : rZ C) (j : tH C) (cs : List kF) (g : List (kD × List kF)) (ws : List (ByteArray × List kF)) {c : kF} (k : c ∈ C) (m : c.B ∈ px c) : ∀ (l : List ByteArray) {T : pX} {a : List lf} {n : Int}, rF C T a n → (∀ w ∈ l, (⟨c.B, w⟩ : lf) ∈ FS T) →
  CV C T a (qh cs g ws c l (mm T) a n) (fun T' => ∀ w ∈ l, Fx c ⟨c.B, w⟩ T T')
 | [], T, a, n, h, _ => ⟨T, a, n, rfl, h, AZ.refl _ _, fun _ hw => by cases hw⟩
 | w :: l, T, a, n, h, hm => by
  rw [qh]
  obtain ⟨T1, u, x, p, g1, x1, s⟩ := NF i j h cs g ws k (f := ⟨c.B, w⟩) (hm w (by simp)) m
  rw [p]
  simp only [aA]
  obtain ⟨T2, d, r, q, g2, x2, t⟩ := JX i j cs g ws k m l g1 (fun w hw => x1.nI _ (hm w (by simp [hw])))
  refine ⟨T2, d, r, q, g2, x1.trans x2, fun v b => ?_⟩
  rcases aQ.1 b with rfl | b
  ·exact s.mono (fun _ h => h) x2.nI
  ·exact (t v b).mono x1.nI (fun _ h => h)
def FY (c : kF) (T : pX) (a : List lf) : Prop :=
 (c.Kind = 1 → (⟨c.Head, c.ma⟩ : lf) ∈ FS T) ∧
 (c.Kind = 2 → ∀ w, (⟨c.B, w⟩ : lf) ∈ FS T → (⟨c.B, w⟩ : lf) ∉ a → (⟨c.Head, w⟩ : lf) ∈ FS T) ∧
 (c.Kind = 3 → ∀ b w, (⟨c.B, b⟩ : lf) ∈ FS T → (⟨c.B, b⟩ : lf) ∉ a → (⟨⟨b, c.mc⟩, w⟩ : lf) ∈ FS T → (⟨⟨b, c.mc⟩, w⟩ : lf) ∉ a → (⟨c.Head, w⟩ : lf) ∈ FS T) ∧
 (c.Kind = 4 → ∀ w, (⟨c.B, w⟩ : lf) ∈ FS T → (⟨c.B, w⟩ : lf) ∉ a → (⟨c.C, w⟩ : lf) ∈ FS T → (⟨c.C, w⟩ : lf) ∉ a → (⟨c.Head, w⟩ : lf) ∈ FS T)
theorem FY.ext {c : kF} {T T' : pX} {i d : List lf} (h : FY c T i) (x : AZ T i T' d) : FY c T' d := by
 have nI : ∀ f, f ∈ FS T' → f ∉ d → f ∈ FS T ∧ f ∉ i := fun f m j => by
  rcases x.new f m with h1 | h1
  ·exact ⟨h1, fun l => j (x.todo f l)⟩
  ·exact absurd h1 j
 refine ⟨fun k => x.nI _ (h.1 k), fun k w a b => ?_, fun k b w g a2 a3 a4 => ?_, fun k w g a2 a3 a4 => ?_⟩
 ·exact x.nI _ (h.2.1 k w (nI _ a b).1 (nI _ a b).2)
 ·exact x.nI _ (h.2.2.1 k b w (nI _ g a2).1 (nI _ g a2).2 (nI _ a3 a4).1 (nI _ a3 a4).2)
 ·exact x.nI _ (h.2.2.2 k w (nI _ g a2).1 (nI _ g a2).2 (nI _ a3 a4).1 (nI _ a3 a4).2)
theorem PU {C : List kF} (l : rZ C) (s : tH C) {T : pX} {p : List lf} {n : Int} (h : rF C T p n) (cs : List kF) (r : List (kD × List kF)) (ws : List (ByteArray × List kF)) {c : kF} (t : c ∈ C) :
  ∃ T' d i, tP (mm T) cs r ws p n c = some (mm T', d, i) ∧ rF C T' d i ∧ AZ T p T' d ∧ FY c T' d := by
 unfold tP
 simp only [Qi]
 by_cases h1 : c.Kind = 1
 ·rw [aX (by simp [h1])]
  obtain ⟨T', d, i, e, g, x, q⟩ := Dt l h cs r ws (pP.mem c t h1)
  exact ⟨T', d, i, e, g, x, fun _ => q, fun k => absurd (h1.symm.trans k) (by decide), fun k => absurd (h1.symm.trans k) (by decide), fun k => absurd (h1.symm.trans k) (by decide)⟩
 ·rw [bB (by simp [h1]), HE l s h]
  simp only [aA]
  have y : c.B ∈ px c := by unfold px; rw [bB h1]; split <;> simp
  obtain ⟨T', d, i, e, g, x, q⟩ := JX l s cs r ws t y (vZ (sS T c.B)) h (fun w hw => (Cf h.keys ⟨c.B, w⟩).2 ((AD _ _).1 hw))
  have nI : ∀ f, f ∈ FS T' → f ∉ d → f ∈ FS T := fun f u v => by
   rcases x.new f u with h1 | h1
   ·exact h1
   ·exact absurd h1 v
  have m : ∀ w, (⟨c.B, w⟩ : lf) ∈ FS T → Fx c ⟨c.B, w⟩ T T' := fun w hw => q w ((AD _ _).2 ((Cf h.keys ⟨c.B, w⟩).1 hw))
  refine ⟨T', d, i, e, g, x, fun k => absurd k h1, fun k w a b => ?_, fun k b w j a2 a3 a4 => ?_, fun k w j a2 a3 a4 => ?_⟩
  ·exact (m w (nI _ a b)).1 k rfl
  ·exact (m b (nI _ j a2)).2.1 k rfl w (nI _ a3 a4)
  ·exact (m w (nI _ j a2)).2.2 k (nI _ j a2) (nI _ a3 a4)
structure EX (C : List kF) (us : List (kD × List kF)) (ws : List (ByteArray × List kF)) : Prop where
 O1 : ∀ r c, c ∈ (mJ lx us r).getD [] ↔ c ∈ C ∧ r ∈ px c
 word : ∀ w c, c ∈ (mJ mx ws w).getD [] ↔ c ∈ C ∧ c.Kind = 3 ∧ c.mc = w
 Si : ∀ r, ((mJ lx us r).getD []).length ≤ 2 * C.length
 Sv : ∀ w, ((mJ mx ws w).getD []).length ≤ C.length
theorem IE {C : List kF} (i : rZ C) (j : tH C) (cs : List kF) (g : List (kD × List kF)) (ws : List (ByteArray × List kF)) {f : lf} : ∀ (l : List kF) {T : pX} {a : List lf} {n : Int}, rF C T a n → f ∈ FS T → (∀ c ∈ l, c ∈ C ∧ f.kD ∈ px c) →
  CV C T a (pU cs g ws f l (mm T) a n) (fun T' => ∀ c ∈ l, Fx c f T T')
 | [], T, a, n, h, _, _ => ⟨T, a, n, rfl, h, AZ.refl _ _, fun _ hw => by cases hw⟩
 | c :: l, T, a, n, h, k, hm => by
  rw [pU]
  obtain ⟨T1, u, w, m, g1, x1, s⟩ := NF i j h cs g ws (hm c (by simp)).1 k (hm c (by simp)).2
  rw [m]
  simp only [aA]
  obtain ⟨T2, d, r, p, g2, x2, t⟩ := IE i j cs g ws l g1 (x1.nI _ k) (fun c q => hm c (by simp [q]))
  refine ⟨T2, d, r, p, g2, x1.trans x2, fun v b => ?_⟩
  rcases aQ.1 b with rfl | b
  ·exact s.mono (fun _ h => h) x2.nI
  ·exact (t v b).mono x1.nI (fun _ h => h)
theorem EJ {C : List kF} (m : rZ C) (u : tH C) (cs : List kF) (j : List (kD × List kF)) (ws : List (ByteArray × List kF)) {f : lf} : ∀ (l : List kF) {T : pX} {g : List lf} {n : Int}, rF C T g n → f ∈ FS T → (∀ c ∈ l, c ∈ C ∧ c.Kind = 3 ∧ c.mc = f.kD.kL) →
  CV C T g (pa f cs j ws l (mm T) g n) (fun T' => ∀ c ∈ l, (⟨c.B, f.kD.kE⟩ : lf) ∈ FS T → (⟨c.Head, f.ma⟩ : lf) ∈ FS T')
 | [], T, g, n, h, _, _ => ⟨T, g, n, rfl, h, AZ.refl _ _, fun _ hw => by cases hw⟩
 | c :: l, T, g, n, h, q, hm => by
  rw [pa]
  have hk := hm c (by simp)
  by_cases i : (⟨c.B, f.kD.kE⟩ : lf) ∈ FS T
  ·rw [aX ((ur h.keys _ _).2 i)]
   have r : f = ⟨⟨f.kD.kE, c.mc⟩, f.ma⟩ := by rw [hk.2.2]
   have x : pP C ⟨c.Head, f.ma⟩ := .F0 c f.kD.kE f.ma hk.1 hk.2.1 (h.xG _ i) (by rw [← r]; exact h.xG f q)
   obtain ⟨T1, A, D, w, g1, x1, z⟩ := Dt m h cs j ws x
   rw [w]
   simp only [aA]
   obtain ⟨T2, d, s, k, g2, x2, t⟩ := EJ m u cs j ws l g1 (x1.nI _ q) (fun c p => hm c (by simp [p]))
   refine ⟨T2, d, s, k, g2, x1.trans x2, fun v b a => ?_⟩
   rcases aQ.1 b with rfl | b
   ·exact x2.nI _ z
   ·exact t v b (x1.nI _ a)
  ·rw [bB (fun y => i ((ur h.keys _ _).1 y))]
   obtain ⟨T2, d, s, k, g2, x2, t⟩ := EJ m u cs j ws l h q (fun c p => hm c (by simp [p]))
   refine ⟨T2, d, s, k, g2, x2, fun v b a => ?_⟩
   rcases aQ.1 b with rfl | b
   ·exact absurd a i
   ·exact t v b a
theorem I2 {C : List kF} (E : rZ C) (F : tH C) {cs : List kF} {A : List (kD × List kF)} {ws : List (ByteArray × List kF)} (u : EX C A ws) : ∀ (m : Nat) {T : pX} {l : List lf} {n : Int}, rF C T l n → (∀ c ∈ C, FY c T l) → C.length * C.length + l.length < m + (FS T).length →
  ∃ T' J, oy cs A ws m (mm T) l n = some (mm T', [], J) ∧ rF C T' [] J ∧ (∀ c ∈ C, FY c T' []) ∧ (∀ f ∈ FS T, f ∈ FS T')
 | 0, T, l, n, h, _, hm => by have := h.len; omega
 | m + 1, T, [], n, h, q, hm => by
  rw [oy]
  exact ⟨T, n, rfl, h, q, fun _ h => h⟩
 | m + 1, T, f :: l, n, h, q, hm => by
  rw [oy]
  rw [aX (by simp)]
  have I : f ∈ FS T := h.sub f (by simp)
  have Q := (eB.1 h.Ly)
  simp only [mP, Int.le_refl, aN, Int.toNat_zero, jb, aA]
  rw [show rh (decide ((0 : Nat) ≤ 1) && decide ((1 : Int) ≤ ((f :: l).length : Int))) = some () by simp [rh]; omega]
  simp only [aA, show Int.toNat 1 = 1 from rfl, List.drop_one, List.tail_cons]
  have G : rF C T l n := ⟨h.keys, h.nd, Q.2, fun g y => h.sub g (by simp [y]), h.num, h.xG⟩
  obtain ⟨T1, a6, n1, M, g1, x1, Y⟩ := IE E F cs A ws ((mJ lx A f.kD).getD []) G I (fun c i => (u.O1 _ c).1 i)
  rw [M]
  simp only [aA]
  obtain ⟨T2, r, n2, O, g2, x2, Z⟩ := EJ E F cs A ws ((mJ mx ws f.kD.kL).getD []) g1 (x1.nI _ I) (fun c i => (u.word _ c).1 i)
  rw [O]
  simp only [aA]
  have x := x1.trans x2
  have nI : ∀ g, g ∈ FS T2 → g ∉ r → g ∈ FS T ∧ (g = f ∨ g ∉ f :: l) := fun g y z => by
   rcases x.new g y with h1 | h1
   ·refine ⟨h1, ?_⟩
    by_cases he : g = f
    ·exact .inl he
    ·exact .inr (fun t => by
      rcases aQ.1 t with t | t
      ·exact he t
      ·exact z (x.todo g t))
   ·exact absurd h1 z
  have d1 : ∀ c ∈ C, f.kD ∈ px c → Fx c f T T2 := fun c i R => (Y c ((u.O1 _ c).2 ⟨i, R⟩)).mono (fun _ h => h) x2.nI
  have v : ∀ c ∈ C, FY c T2 r := fun c i => by
   have k := q c i
   refine ⟨fun hk => x.nI _ (k.1 hk), fun hk w a b => ?_, fun hk b w D a2 a3 a4 => ?_, fun hk w D a2 a3 a4 => ?_⟩
   ·obtain ⟨p, d⟩ := nI _ a b
    rcases d with d | d
    ·subst d; exact (d1 c i (by simp [px, hk])).1 hk rfl
    ·exact x.nI _ (k.2.1 hk w p d)
   ·obtain ⟨p, d⟩ := nI _ D a2
    obtain ⟨s, j⟩ := nI _ a3 a4
    rcases d with d | d
    ·subst d; exact (d1 c i (by simp [px, hk])).2.1 hk rfl w s
    ·rcases j with j | j
     ·subst j
      exact Z c ((u.word _ c).2 ⟨i, hk, rfl⟩) (x1.nI _ p)
     ·exact x.nI _ (k.2.2.1 hk b w p d s j)
   ·obtain ⟨p, d⟩ := nI _ D a2
    obtain ⟨s, j⟩ := nI _ a3 a4
    rcases d with d | d
    ·subst d; exact (d1 c i (by simp [px, hk])).2.2 hk p s
    ·rcases j with j | j
     ·subst j; exact (d1 c i (by simp [px, hk])).2.2 hk p s
     ·exact x.nI _ (k.2.2.2 hk w p d s j)
  have hlen : r.length + (FS T).length ≤ l.length + (FS T2).length := by
   exact g2.Gb G x
  obtain ⟨T3, U, P, g3, L, W⟩ := I2 E F u m g2 v (by simp only [aJ] at hm; omega)
  exact ⟨T3, U, P, g3, L, fun g y => W g (x.nI g y)⟩
end Go.Proofs.YtklbhegeiijbjaaGreat
namespace Go.Proofs.YtklbhegeiijbjaaGreat
open Go.RowKit
theorem Mc (c : kF) : ∀ (l : List kF) (i : Nat), ∃ z, rc c l i = some z ∧ (z ≥ 0 ↔ c ∈ l)
 | [], i => ⟨-1, rfl, by simp⟩
 | x :: l, i => by
  rw [rc]
  by_cases h : ng c x = true
  ·rw [aX h]
   exact ⟨_, rfl, by simp [om.1 h]⟩
  ·rw [bB h]
   obtain ⟨z, e, b⟩ := Mc c l (i + 1)
   refine ⟨z, e, ?_⟩
   rw [b, aQ]
   exact ⟨.inr, fun a => a.resolve_left (fun e => h (om.2 e))⟩
theorem Kp (c : kF) (l : List kF) : ∃ b, wG l c = some b ∧ (b = true ↔ c ∈ l) := by
 obtain ⟨z, e, a⟩ := Mc c l 0
 refine ⟨decide (z ≥ 0), ?_, by simpa using a⟩
 unfold wG tw xi
 rw [e]
 rfl
theorem LF (c : kF) (ws : List (ByteArray × List kF)) (C : List kF) (hw : ∀ w, ((mJ mx ws w).getD []).length ≤ 2000000) : ∀ (j : List kD) (a : List (kD × List kF)), (∀ r, ((mJ lx a r).getD []).length + j.length ≤ 4000000) →
  ∃ g i, py c ws C j a = some (C, g, i) ∧ (∀ r x, x ∈ (mJ lx g r).getD [] ↔ x ∈ (mJ lx a r).getD [] ∨ (x = c ∧ r ∈ j)) ∧
   (∀ w x, x ∈ (mJ mx i w).getD [] ↔ x ∈ (mJ mx ws w).getD [] ∨ (x = c ∧ c.Kind = 3 ∧ w = c.mc)) ∧ (∀ r, ((mJ lx g r).getD []).length ≤ ((mJ lx a r).getD []).length + j.length) ∧
   (∀ w, ((mJ mx i w).getD []).length ≤ ((mJ mx ws w).getD []).length + 1)
 | [], a, _ => by
  rw [py]
  by_cases k : c.Kind = 3
  ·rw [aX (by simp [k])]
   have h := hw c.mc
   rw [nS (by simp; omega) (by simp; omega)]
   simp only [aA]
   refine ⟨a, _, rfl, by simp, fun w x => ?_, by simp, fun w => ?_⟩
   ·rw [E0 np]
    by_cases hk : mx w c.mc = true
    ·rw [aX hk, np.1 hk]; simp [k]
    ·rw [bB hk]
     have : w ≠ c.mc := fun e => hk (np.2 e)
     simp [this]
   ·rw [E0 np]
    by_cases hk : mx w c.mc = true
    ·rw [aX hk, np.1 hk]; simp
    ·rw [bB hk]; exact jQ _
  ·rw [bB (by simp [k])]
   exact ⟨a, ws, rfl, by simp, by simp [k], by simp, by simp⟩
 | b :: j, a, l => by
  rw [py]
  have h := l b
  simp only [aJ] at h
  rw [nS (by simp; omega) (by simp; omega)]
  simp only [aA]
  have d : ∀ r, (mJ lx (po lx a b (((mJ lx a b).getD []) ++ [c])) r).getD [] = if lx r b = true then ((mJ lx a b).getD []) ++ [c] else (mJ lx a r).getD [] := fun r => by
   rw [E0 lz]; by_cases hk : lx r b = true
   ·rw [aX hk, aX hk]; rfl
   ·rw [bB hk, bB hk]
  obtain ⟨g, i, e, m, a2, a3, a4⟩ := LF c ws C hw j (po lx a b (((mJ lx a b).getD []) ++ [c])) (fun r => by
   rw [d r]
   have n := l r
   simp only [aJ] at n
   by_cases hk : lx r b = true
   ·rw [aX hk]; simp; omega
   ·rw [bB hk]; omega)
  refine ⟨g, i, e, fun r x => ?_, a2, fun r => ?_, a4⟩
  ·rw [m, d]
   by_cases hk : lx r b = true
   ·rw [aX hk, lz.1 hk]
    simp only [aW, aQ, dM, gV]
    constructor
    ·rintro ((h | h) | h)
     ·exact .inl h
     ·exact .inr ⟨h, .inl trivial⟩
     ·exact .inr ⟨h.1, .inr h.2⟩
    ·rintro (h | h)
     ·exact .inl (.inl h)
     ·exact .inl (.inr h.1)
   ·rw [bB hk]
    have : r ≠ b := fun e => hk (lz.2 e)
    simp [this]
  ·have := a3 r
   rw [d r] at this
   by_cases hk : lx r b = true
   ·rw [aX hk] at this; rw [lz.1 hk] at this ⊢; simp at this ⊢; omega
   ·rw [bB hk] at this; simp; omega
theorem QQ {C : List kF} {j : List (kD × List kF)} {ws : List (ByteArray × List kF)} (g : EX C j ws) (q : C.length + 1 ≤ 1000000) {c : kF} (l : mS c = true) (i : List (kD × List (ByteArray × Bool))) (p : List lf) (n : Int) :
  ∃ a b, uy i C j ws p n c = some (C ++ [c], a, b) ∧ EX (C ++ [c]) a b := by
 unfold uy
 rw [nS (by simp; omega) (by simp; omega)]
 simp only [aA, Rz l]
 rw [show rh (decide ((0 : Nat) ≤ 1) && decide ((1 : Int) ≤ ((c.Head :: px c).length : Int))) = some () by simp [rh]; omega]
 simp only [aA, show Int.toNat 1 = 1 from rfl, List.drop_one, List.tail_cons]
 have m : (px c).length ≤ 2 := by unfold px; split; simp; split <;> simp
 obtain ⟨a, b, e, k, a2, a3, a4⟩ := LF c ws (C ++ [c]) (fun w => by have := g.Sv w; omega) (px c) j (fun r => by have := g.Si r; omega)
 refine ⟨a, b, e, fun r x => ?_, fun w x => ?_, fun r => ?_, fun w => ?_⟩
 ·rw [k, g.O1, aW, cM]
  constructor
  ·rintro (h | h)
   ·exact ⟨.inl h.1, h.2⟩
   ·exact ⟨.inr h.1, by rw [h.1]; exact h.2⟩
  ·rintro ⟨h | h, d⟩
   ·exact .inl ⟨h, d⟩
   ·exact .inr ⟨h, by rw [← h]; exact d⟩
 ·rw [a2, g.word, aW, cM]
  constructor
  ·rintro (h | h)
   ·exact ⟨.inl h.1, h.2⟩
   ·exact ⟨.inr h.1, by rw [h.1]; exact ⟨h.2.1, h.2.2.symm⟩⟩
  ·rintro ⟨h | h, d⟩
   ·exact .inl ⟨h, d⟩
   ·subst h; exact .inr ⟨rfl, d.1, d.2.symm⟩
 ·have := a3 r; have := g.Si r; simp; omega
 ·have := a4 w; have := g.Sv w; simp; omega
structure MS (C : List kF) (T : pX) (us : List (kD × List kF)) (ws : List (ByteArray × List kF)) (n : Int) : Prop where
 EF : rF C T [] n
 cl : ∀ c ∈ C, FY c T []
 TW : EX C us ws
 right : tH C
theorem MS.all {C : List kF} {T : pX} {j : List (kD × List kF)} {ws : List (ByteArray × List kF)} {n : Int} (h : MS C T j ws n) (f : lf) : f ∈ FS T ↔ pP C f := by
 refine ⟨h.EF.xG f, fun i => ?_⟩
 induction i with
 | mem c a hk => exact (h.cl c a).1 hk
 | inc c w a hk _ ih => exact (h.cl c a).2.1 hk w ih (by simp)
 | F0 c b w a hk _ _ d g => exact (h.cl c a).2.2.1 hk b w d (by simp) g (by simp)
 | both c w a hk _ _ d g => exact (h.cl c a).2.2.2 hk w d (by simp) g (by simp)
theorem J8 (q : Int) (y : 0 ≤ q ∧ q ≤ 1000000000000) : ∀ (l : List kF) {C : List kF} {T : pX} {p : List lf} {z : List (kD × List kF)} {ws : List (ByteArray × List kF)} {n : Int}, rF C T p n → (∀ c ∈ C, FY c T p) → EX C z ws → tH C → C.length + l.length ≤ 1000000 →
  ∃ C' T' a d j, oX q l (mm T) C z ws p n = some (j - q, mm T', C', a, d, [], j) ∧ MS C' T' a d j ∧ (∀ c, c ∈ C' ↔ c ∈ C ∨ (c ∈ l ∧ mS c = true)) ∧ C'.length ≤ C.length + l.length ∧ (∀ f ∈ FS T, f ∈ FS T')
 | [], C, T, p, z, ws, n, g, i, t, r, J => by
  rw [oX]
  have R : rZ C := by unfold rZ; simp at J; omega
  have a6 := R.sq
  have hlen := g.len
  have a7 := g.SE
  obtain ⟨T', j, e, E, W, o⟩ := I2 R r t (cs := C) lF g i (by rw [yi]; omega)
  unfold vJ
  rw [e]
  simp only [aA]
  have L := E.len
  have U := E.num
  rw [mg (by omega) (by omega)]
  exact ⟨C, T', z, ws, j, rfl, ⟨E, W, t, r⟩, by simp, by simp, o⟩
 | x :: l, C, T, p, z, ws, n, g, i, t, r, J => by
  rw [oX, xr]
  simp only [aJ] at J
  obtain ⟨b, hb, u⟩ := Kp x C
  simp only [aA, hb, Eh]
  by_cases k : mS x = true ∧ x ∉ C
  ·have G : b = false := by cases b with | false => rfl | true => exact absurd (u.1 rfl) k.2
   rw [k.1, G]
   simp only [cZ, kd, aN]
   obtain ⟨P, Q, Y, U1⟩ := QQ t (by omega) k.1 (mm T) p n
   rw [Y]
   simp only [aA]
   have F : rZ (C ++ [x]) := by unfold rZ; simp; omega
   have s : tH (C ++ [x]) := fun c v => by
    rcases aW.1 v with h | h
    ·exact r c h
    ·simp at h; subst h; exact k.1
   have g1 : rF (C ++ [x]) T p n := g.mono (fun c v => cO _ v)
   obtain ⟨T2, O, n2, Z, g2, x2, c2⟩ := PU F s g1 (C ++ [x]) P Q (c := x) (by simp)
   rw [Z]
   simp only [aA]
   have w : ∀ c ∈ C ++ [x], FY c T2 O := fun c v => by
    rcases aW.1 v with h | h
    ·exact (i c h).ext x2
    ·simp at h; subst h; exact c2
   obtain ⟨C', T', a, d, j, e, m, D, a2, a3⟩ := J8 q y l g2 w U1 s (by simp; omega)
   refine ⟨C', T', a, d, j, e, m, fun c => ?_, by simp at a2 ⊢; omega, fun f I => a3 f (x2.nI f I)⟩
   rw [D]
   simp only [aW, aQ, dM, gV]
   constructor
   ·rintro ((h | h) | h)
    ·exact .inl h
    ·subst h; exact .inr ⟨.inl rfl, k.1⟩
    ·exact .inr ⟨.inr h.1, h.2⟩
   ·rintro (h | ⟨h | h, A⟩)
    ·exact .inl (.inl h)
    ·exact .inl (.inr h)
    ·exact .inr ⟨h, A⟩
  ·have I : (mS x && !b) = false := by
    cases hr : mS x with
    | false => rfl
    | true =>
     have : x ∈ C := gE fun M => k ⟨hr, M⟩
     rw [u.2 this]; rfl
   rw [I]
   simp only [aB, aG]
   obtain ⟨C', T', a, d, j, e, m, D, a2, a3⟩ := J8 q y l g i t r (by omega)
   refine ⟨C', T', a, d, j, e, m, fun c => ?_, by simp; omega, a3⟩
   rw [D, aQ]
   constructor
   ·rintro (h | h)
    ·exact .inl h
    ·exact .inr ⟨.inr h.1, h.2⟩
   ·rintro (h | ⟨h | h, A⟩)
    ·exact .inl h
    ·subst h
     exact .inl (gE fun M => k ⟨A, M⟩)
    ·exact .inr ⟨h, A⟩
theorem Rs {C : List kF} {T : pX} {g : List (kD × List kF)} {ws : List (ByteArray × List kF)} {n : Int} (h : MS C T g ws n) (l : List kF) (j : C.length + l.length ≤ 1000000) :
  ∃ C' T' a b d, vc (mm T) C g ws [] n l = some (d - n, mm T', C', a, b, [], d) ∧ MS C' T' a b d ∧ (∀ c, c ∈ C' ↔ c ∈ C ∨ (c ∈ l ∧ mS c = true)) ∧ C'.length ≤ C.length + l.length ∧ (∀ f ∈ FS T, f ∈ FS T') := by
 have i : rZ C := by unfold rZ; omega
 have h1 := h.EF.len
 have k := i.sq
 have m := h.EF.num
 exact J8 n ⟨by omega, by omega⟩ l h.EF h.cl h.TW h.right j
theorem EX.zero : EX [] [] [] := ⟨fun r c => by simp [mJ], fun w c => by simp [mJ], fun r => by simp [mJ], fun w => by simp [mJ]⟩
theorem rF.zero : rF [] [] [] 0 := ⟨by simp, by simp [FS], by simp, by simp, by simp [FS], by simp [FS]⟩
theorem MS.zero : MS [] [] [] [] 0 := ⟨rF.zero, fun c a => (by cases a), EX.zero, fun c a => (by cases a)⟩
theorem MM (l : List kF) (h : l.length ≤ 1000000) : ∃ C T d ws n, xV l = some (mm T, C, d, ws, [], n) ∧ MS C T d ws n ∧ (∀ c, c ∈ C ↔ c ∈ l ∧ mS c = true) ∧ C.length ≤ l.length := by
 unfold xV
 obtain ⟨C', T', a, b, i, e, m, g, a2, a3⟩ := Rs MS.zero l (by simpa using h)
 rw [show vc [] [] [] [] [] 0 l = _ from e]
 exact ⟨C', T', a, b, i, rfl, m, by simpa using g, by simpa using a2⟩
theorem pP.congr {C C' : List kF} (h : ∀ c, c ∈ C ↔ c ∈ C') (f : lf) : pP C f ↔ pP C' f := ⟨fun d => d.mono (fun c a => (h c).1 a), fun d => d.mono (fun c a => (h c).2 a)⟩
end Go.Proofs.YtklbhegeiijbjaaGreat
namespace Go.Proofs.YtklbhegeiijbjaaGreat
open Go.RowKit
def Ad (a b : lf) : Bool := CD a.kD b.kD || (lx a.kD b.kD && rq a.ma b.ma)
theorem BD {a b : lf} : Ad a b = true ↔ CD a.kD b.kD = true ∨ (a.kD = b.kD ∧ rq a.ma b.ma = true) := by simp [Ad, lz]
def Ea (_ : lf) : Bool := true
theorem HB : Bl (fun a b => Ad a b = true) (fun x => Ea x = true) := by
 have H := SY (fun _ => True)
 refine ⟨fun x _ => ?_, fun x y z _ _ _ h1 d => ?_, fun x y _ _ => ?_⟩
 ·rw [BD]
  rintro (h | ⟨_, h⟩)
  ·exact H.irrefl _ trivial h
  ·rw [uu] at h; cases h
 ·rw [BD] at *
  rcases h1 with h1 | ⟨i, h1⟩
  ·rcases d with d | ⟨g, d⟩
   ·exact .inl (H.trans _ _ _ trivial trivial trivial h1 d)
   ·exact .inl (by rw [← g]; exact h1)
  ·rcases d with d | ⟨g, d⟩
   ·exact .inl (by rw [i]; exact d)
   ·exact .inr ⟨i.trans g, A6 h1 d⟩
 ·simp only [BD]
  rcases H.total x.kD y.kD trivial trivial with h | h | h
  ·exact .inl (.inl h)
  ·rcases AU x.ma y.ma with d | d | d
   ·exact .inl (.inr ⟨h, d⟩)
   ·refine .inr (.inl ?_)
    cases x; cases y; simp at h d; simp [h, d]
   ·exact .inr (.inr (.inr ⟨h.symm, d⟩))
  ·exact .inr (.inr (.inl h))
theorem HD (a b : ByteArray) : qk a b = 0 ↔ a = b := by unfold qk; rw [GM]; exact ⟨AR, fun h => by rw [h]⟩
theorem SP (a b : ByteArray) : qk a b < 0 ↔ rq a b = true := by rw [zl]; exact Dx _ _
theorem OD (a b : kD) : ∃ c, tb a b = some c ∧ (c < 0 ↔ CD a b = true) ∧ (c = 0 ↔ a = b) := by
 obtain ⟨c, e, h⟩ := Br a b
 refine ⟨c, e, h, ?_⟩
 unfold tb at e
 simp only [qG, oL, aA, vQ, tO, pW] at e
 by_cases d : qk a.kE b.kE = 0
 ·rw [bB (by simp [d])] at e
  have h1 := (HD _ _).1 d
  by_cases g : qk a.kL b.kL = 0
  ·rw [bB (by simp [g])] at e
   have i := (HD _ _).1 g
   cases e
   refine ⟨fun _ => ?_, fun _ => rfl⟩
   cases a; cases b; simp at h1 i; simp [h1, i]
  ·rw [aX (by simp [g])] at e
   cases e
   exact ⟨fun k => absurd k g, fun k => by rw [k] at g; exact absurd ((HD _ _).2 rfl) g⟩
 ·rw [aX (by simp [d])] at e
  cases e
  exact ⟨fun k => absurd k d, fun k => by rw [k] at d; exact absurd ((HD _ _).2 rfl) d⟩
theorem O0 (a b : lf) : ∃ c, rk a b = some c ∧ (c < 0 ↔ Ad a b = true) := by
 unfold rk
 obtain ⟨c, e, h1, i⟩ := OD a.kD b.kD
 rw [e]
 simp only [qG, oL, aA, vQ, tO, pW]
 by_cases g : c = 0
 ·rw [bB (by simp [g])]
  have l := i.1 g
  have d : ¬ CD a.kD b.kD = true := fun j => by have := h1.2 j; omega
  by_cases h : qk a.ma b.ma = 0
  ·rw [bB (by simp [h])]
   refine ⟨0, rfl, ?_⟩
   rw [BD]
   simp [d, (HD _ _).1 h, uu]
  ·rw [aX (by simp [h])]
   refine ⟨_, rfl, ?_⟩
   rw [BD, SP]
   exact ⟨fun k => .inr ⟨l, k⟩, fun k => k.elim (fun k => absurd k d) (·.2)⟩
 ·rw [aX (by simp [g])]
  refine ⟨c, rfl, ?_⟩
  rw [BD, h1]
  have : a.kD ≠ b.kD := fun k => g (i.2 k)
  simp [this]
theorem Mn {α : Type} {eq : α → α → Bool} (he : ∀ x y, eq x y = true ↔ x = y) : ∀ (l : List α) (p : α), (p :: l).Nodup → oa eq p l = l
 | [], p, _ => rfl
 | y :: l, p, h => by
  have h1 := eB.1 h
  rw [oa, bB (fun e => h1.1 (by rw [← (he _ _).1 e]; simp)), Mn he l y h1.2]
theorem To {α : Type} {eq : α → α → Bool} (he : ∀ x y, eq x y = true ↔ x = y) : ∀ l : List α, l.Nodup → dd eq l = l
 | [], _ => rfl
 | x :: l, h => by rw [dd, Mn he l x h]
def BM (P : lf → Prop) (s : List lf) : Prop := s.Pairwise (fun a b => Ad a b = true) ∧ ∀ f, f ∈ s ↔ P f
theorem BM.unique {P : lf → Prop} {s t : List lf} (h : BM P s) (k : BM P t) : s = t :=
 xu.unique (l := s) HB ⟨h.1, fun x => ⟨fun a => ⟨a, rfl⟩, fun a => a.1⟩⟩ ⟨k.1, fun x => by rw [k.2, h.2]; exact ⟨fun a => ⟨a, rfl⟩, fun a => a.1⟩⟩
theorem Hd {l : List lf} (g : l.Nodup) (k : l.length ≤ 1000000000000) : ∃ s, AL (fun (x : lf × lf) => rk x.1 x.2) l = some s ∧ BM (fun f => f ∈ l) s := by
 obtain ⟨s, h1, j, d⟩ := Gg (eq := BG) (lt := fun a b => Ad a b = true) (P := fun x => Ea x = true) (cf := fun (x : lf × lf) => rk x.1 x.2) (l := l) (fun x y => wX) HB (fun _ _ => rfl) (by omega) (fun x y _ _ => O0 x y)
 have i : s.Nodup := by
  have := (HL h1).2
  rw [this]
  unfold uK
  exact (jG l _).nodup_iff.2 g
 rw [To (fun x y => wX) s i] at d
 exact ⟨s, h1, d.1, fun f => by rw [d.2]; exact ⟨fun h => h.1, fun h => ⟨h, rfl⟩⟩⟩
theorem Rr (T : pX) : (mm T).flatMap (fun p => p.2.map (fun q => (fun (a : kD) (b : ByteArray) => (⟨a, b⟩ : lf)) p.1 q.1)) = FS T := by
 unfold mm FS tt
 rw [List.flatMap_map]
 congr 1
 funext p
 simp [iy]
theorem PH {C : List kF} (j : rZ C) {T : pX} {m : List (kD × List kF)} {ws : List (ByteArray × List kF)} {n : Int} (h : MS C T m ws n) (cs : List kF) (u : List (kD × List kF)) (w : List (ByteArray × List kF)) (l : List lf) (z : Int) :
  ∃ s, xh (mm T) cs u w l z = some s ∧ BM (pP C) s := by
 have k := j.sq
 have hlen := h.EF.len
 obtain ⟨s, p, i⟩ := Hd h.EF.nd (by omega)
 have g : BM (pP C) s := ⟨i.1, fun f => (i.2 f).trans (h.all f)⟩
 refine ⟨s, ?_, g⟩
 unfold xh Oo
 rw [Rr]
 rw [aX ⟨by omega, by unfold maxLen; omega⟩]
 simp only [aA, pW]
 refine GW (fun o b => ?_)
 obtain ⟨q, d, a⟩ := Hd ((b.nodup_iff).2 h.EF.nd) (by rw [b.length_eq]; omega)
 rw [d]
 congr 1
 exact BM.unique ⟨a.1, fun f => (a.2 f).trans (b.mem_iff.trans (h.all f))⟩ g
theorem PV (r : kD) (w : ByteArray) : ∀ l : List lf, ∃ b, wH r w l = some b ∧ (b = true ↔ (⟨r, w⟩ : lf) ∈ l)
 | [] => ⟨false, rfl, by simp⟩
 | x :: l => by
  rw [wH]
  simp only [Eh, aA]
  obtain ⟨b, e, g⟩ := PV r w l
  by_cases h : (lx x.kD r && mx x.ma w) = true
  ·rw [aX h]
   have a : x = ⟨r, w⟩ := by
    rw [bJ, lz, np] at h
    cases x; simp at h; simp [h]
   exact ⟨true, rfl, by simp [a]⟩
  ·rw [bB h]
   refine ⟨b, e, ?_⟩
   rw [g, aQ]
   refine ⟨.inr, fun d => d.resolve_left (fun e => h ?_)⟩
   rw [← e]; simp [xM, wu]
theorem Ai (l : List lf) (r : kD) (w : ByteArray) : ∃ b, vy l r w = some b ∧ (b = true ↔ (⟨r, w⟩ : lf) ∈ l) := PV r w l
def xW (l : List lf) (c : kF) (names : List ByteArray) (w : ByteArray) : Prop :=
 (c.Kind = 1 ∧ c.ma = w) ∨ (c.Kind = 2 ∧ (⟨c.B, w⟩ : lf) ∈ l) ∨ (c.Kind = 4 ∧ (⟨c.B, w⟩ : lf) ∈ l ∧ (⟨c.C, w⟩ : lf) ∈ l) ∨
 (c.Kind ≠ 1 ∧ c.Kind ≠ 2 ∧ c.Kind ≠ 4 ∧ ∃ b ∈ names, (⟨c.B, b⟩ : lf) ∈ l ∧ (⟨⟨b, c.mc⟩, w⟩ : lf) ∈ l)
theorem GZ (l : List lf) (c : kF) (w : ByteArray) : ∀ names : List ByteArray, ∃ b, vv l c w names = some b ∧ (b = true ↔ ∃ b ∈ names, (⟨c.B, b⟩ : lf) ∈ l ∧ (⟨⟨b, c.mc⟩, w⟩ : lf) ∈ l)
 | [] => ⟨false, rfl, by simp⟩
 | x :: names => by
  rw [vv]
  obtain ⟨g, j, h1⟩ := Ai l c.B x
  obtain ⟨i, k, d⟩ := Ai l ⟨x, c.mc⟩ w
  obtain ⟨b, e, m⟩ := GZ l c w names
  rw [j, k, e]
  simp only [aA, Eh]
  by_cases h : (g && i) = true
  ·rw [aX h]
   rw [bJ, h1, d] at h
   exact ⟨true, rfl, by simp [h]⟩
  ·rw [bB h]
   rw [bJ, h1, d] at h
   refine ⟨b, rfl, ?_⟩
   rw [m]
   constructor
   ·rintro ⟨y, a, q⟩; exact ⟨y, by simp [a], q⟩
   ·rintro ⟨y, a, q⟩
    rcases aQ.1 a with rfl | a
    ·exact absurd q h
    ·exact ⟨y, a, q⟩
theorem QF (l : List lf) (c : kF) (names : List ByteArray) (w : ByteArray) : ∃ b, zQ l c names w = some b ∧ (b = true ↔ xW l c names w) := by
 unfold zQ xW
 simp only [pW]
 by_cases h1 : c.Kind = 1
 ·rw [aX (by simp [h1])]; exact ⟨_, rfl, by simp [h1, np]⟩
 rw [bB (by simp [h1])]
 by_cases a : c.Kind = 2
 ·rw [aX (by simp [a])]
  obtain ⟨b, e, g⟩ := Ai l c.B w
  exact ⟨b, e, by simp [a, g]⟩
 rw [bB (by simp [a])]
 by_cases d : c.Kind = 4
 ·rw [aX (by simp [d])]
  obtain ⟨m, j, h⟩ := Ai l c.B w
  obtain ⟨n, k, i⟩ := Ai l c.C w
  rw [j, k]
  simp only [aA, Eh]
  exact ⟨_, rfl, by simp [d, h, i]⟩
 rw [bB (by simp [d])]
 obtain ⟨b, e, g⟩ := GZ l c w names
 exact ⟨b, e, by rw [g]; simp [h1, a, d]⟩
theorem xW.xG {C : List kF} {l : List lf} (a : ∀ f ∈ l, pP C f) {c : kF} (d : c ∈ C) (hk : c.Kind = 1 ∨ c.Kind = 2 ∨ c.Kind = 3 ∨ c.Kind = 4) {names : List ByteArray} {w : ByteArray} (h : xW l c names w) : pP C ⟨c.Head, w⟩ := by
 rcases h with ⟨k, rfl⟩ | ⟨k, h⟩ | ⟨k, h1, g⟩ | ⟨i, j, m, b, _, h1, g⟩
 ·exact .mem c d k
 ·exact .inc c w d k (a _ h)
 ·exact .both c w d k (a _ h1) (a _ g)
 ·exact .F0 c b w d (by omega) (a _ h1) (a _ g)
theorem Nf {c : kF} (h : mS c = true) : c.Kind = 1 ∨ c.Kind = 2 ∨ c.Kind = 3 ∨ c.Kind = 4 := by rcases pF h with h | h | h | h <;> simp [h.1]
structure ET (C : List kF) (out : List lf) : Prop where
 nd : out.Nodup
 xG : ∀ f ∈ out, pP C f
theorem ET.len {C : List kF} {out : List lf} (h : ET C out) : out.length ≤ C.length * C.length := by
 rw [← D5]; exact nm h.nd (fun f a => (h.xG f a).Ge)
theorem GI {C : List kF} (s : rZ C) (t : tH C) {c : kF} (m : c ∈ C) (names : List ByteArray) : ∀ (l : List ByteArray) (out : List lf) (i : Bool), ET C out →
  ∃ g d, vp c names l out i = some (g, d) ∧ ET C g ∧ (d = true → i = true ∨ out.length < g.length) ∧ (d = false → i = false ∧ g = out ∧ ∀ w ∈ l, xW out c names w → (⟨c.Head, w⟩ : lf) ∈ out) ∧ out.length ≤ g.length
 | [], out, i, h => ⟨out, i, rfl, h, .inl, fun h => ⟨h, rfl, fun _ hw => by cases hw⟩, aZ _⟩
 | w :: l, out, i, h => by
  rw [vp]
  obtain ⟨y, E, h1⟩ := Ai out c.Head w
  obtain ⟨D, F, z⟩ := QF out c names w
  rw [E, F]
  simp only [aA, Eh]
  by_cases j : (!y && D) = true
  ·rw [aX j]
   rw [bJ] at j
   have u : (⟨c.Head, w⟩ : lf) ∉ out := fun I => by have := h1.2 I; rw [this] at j; exact absurd j.1 (by decide)
   have L := h.len
   have J := s.sq
   rw [nS (by simp; omega) (by simp; omega)]
   simp only [aA]
   have G : ET C (out ++ [⟨c.Head, w⟩]) := ⟨cE.2 ⟨h.nd, by simp, fun a ha b j e => by simp at j; subst j; subst e; exact u ha⟩, fun f k => by
    rcases aW.1 k with k | k
    ·exact h.xG f k
    ·simp at k; subst k; exact (z.1 j.2).xG h.xG m (Nf (t c m))⟩
   obtain ⟨g, d, e, n, a2, a3, a4⟩ := GI s t m names l _ true G
   simp at a4
   exact ⟨g, d, e, n, fun _ => .inr (by omega), fun k => (by cases (a3 k).1), by omega⟩
  ·rw [bB j]
   obtain ⟨g, d, e, n, a2, a3, a4⟩ := GI s t m names l out i h
   refine ⟨g, d, e, n, a2, fun k => ?_, a4⟩
   obtain ⟨p, q, r⟩ := a3 k
   refine ⟨p, q, fun v x A => ?_⟩
   rcases aQ.1 x with rfl | x
   ·refine gE fun u => j ?_
    rw [bJ, z.2 A]
    cases y with
    | false => exact ⟨rfl, rfl⟩
    | true => exact absurd (h1.1 rfl) u
   ·exact r v x A
theorem JW {C : List kF} (m : rZ C) (n : tH C) (names : List ByteArray) : ∀ (l : List kF) (out : List lf) (a : Bool), (∀ c ∈ l, c ∈ C) → ET C out →
  ∃ b g, wU names l out a = some (b, g) ∧ ET C b ∧ (g = true → a = true ∨ out.length < b.length) ∧ (g = false → a = false ∧ b = out ∧ ∀ c ∈ l, ∀ w ∈ names, xW out c names w → (⟨c.Head, w⟩ : lf) ∈ out) ∧ out.length ≤ b.length
 | [], out, a, _, h => ⟨out, a, rfl, h, .inl, fun h => ⟨h, rfl, fun _ hw => by cases hw⟩, aZ _⟩
 | c :: l, out, a, p, h => by
  rw [wU]
  obtain ⟨x, c1, u, q, a2, a3, a4⟩ := GI m n (p c (by simp)) names names out a h
  rw [u]
  simp only [aA]
  obtain ⟨y, c2, v, r, s, t, I⟩ := JW m n names l x c1 (fun d i => p d (by simp [i])) q
  refine ⟨y, c2, v, r, fun j => ?_, fun j => ?_, by omega⟩
  ·rcases s j with h1 | h1
   ·rcases a2 h1 with k | k
    ·exact .inl k
    ·exact .inr (by omega)
   ·exact .inr (by omega)
  ·obtain ⟨z, A, D⟩ := t j
   obtain ⟨E, F, G⟩ := a3 z
   subst F
   refine ⟨E, A, fun d i => ?_⟩
   rcases aQ.1 i with rfl | i
   ·exact G
   ·exact D d i
end Go.Proofs.YtklbhegeiijbjaaGreat
namespace Go.Proofs.YtklbhegeiijbjaaGreat
open Go.RowKit
def zF : lf := ⟨⟨zS, zS⟩, zS⟩
theorem JU (a b : lf) : uL a b = some (Ad a b) := by
 unfold uL Ad
 simp only [Co, aA, Eh, Sa]
def RF (a : List lf) (b : Int) (p : Bool × lf) : Prop := (p.1 = false ∧ b = -1) ∨ (p.1 = true ∧ 0 ≤ b ∧ mP a b = some p.2)
theorem Cp (out a : List lf) (i : out.length < 4611686018427387904) : ∀ (rest A : List lf) (b : Int) (p : Bool × lf), a = A ++ rest → RF a b p →
  ∃ d, pQ out a rest A.length b = some d ∧ RF a d (sE Ea Ad out.getLast? rest p.1 p.2)
 | [], A, b, p, ha, j => ⟨b, rfl, j⟩
 | x :: rest, A, b, p, ha, j => by
  rw [pQ, sE]
  simp only [Ea, eO]
  have h1 : ((if ((out.length : Int) == 0) = true then some true else (mP out (IntKind.i64.wrap ((out.length : Int) - 1))).bind fun y => (uL y x).bind fun r => some r) : Option Bool) = some (out.getLast?.all fun y => Ad y x) := by
   rcases dI out with h | ⟨B, z, h⟩
   ·subst h; rfl
   ·subst h
    rw [bB (by simp; omega)]
    rw [eH] at i ⊢
    rw [GJ B z (by simp at i; omega)]
    simp [JU]
  have n : ((if decide (b < 0) = true then some true else (mP a b).bind fun y => (uL x y).bind fun r => some r) : Option Bool) = some (!p.1 || Ad x p.2) := by
   rcases j with ⟨k, l⟩ | ⟨k, l, m⟩
   ·rw [aX (by simp [l]), k]; rfl
   ·rw [bB (by simpa using l), m, k]
    simp [JU]
  rw [h1]
  simp only [aA]
  rw [n]
  simp only [aA, Eh]
  have q : mP a (A.length : Int) = some x := by rw [ha]; exact nL A x rest _ rfl
  by_cases g : ((out.getLast?.all fun y => Ad y x) && (!p.1 || Ad x p.2)) = true
  ·rw [aX g, aX g]
   have := Cp out a i rest (A ++ [x]) (A.length : Int) (true, x) (by rw [ha]; simp) (.inr ⟨rfl, by simp, q⟩)
   simpa using this
  ·rw [bB g, bB g]
   have := Cp out a i rest (A ++ [x]) b p (by rw [ha]; simp) j
   simpa using this
theorem F5 {out a : List lf} (g : out.length < 4611686018427387904) (h : (sE Ea Ad out.getLast? a false zF).1 = false) : ∀ Gb : List lf, pN a Gb out = some out
 | [] => rfl
 | x :: Gb => by
  rw [pN]
  obtain ⟨b, e, j⟩ := Cp out a g a [] (-1) (false, zF) rfl (.inl ⟨rfl, rfl⟩)
  rw [show pQ out a a 0 (-1) = some b from e]
  simp only [aA]
  rcases j with ⟨_, i⟩ | ⟨d, _⟩
  ·rw [bB (by simp [i])]; exact F5 g h Gb
  ·rw [h] at d; cases d
theorem IK (a : List lf) : ∀ (Gb : List lf) (out s : List lf), Ba 48 Ea Ad zF a (Gb.length + 1) out = some s → s.length < 4611686018427387904 → pN a Gb out = some s ∧ out.length ≤ s.length
 | [], out, s, h, j => by
  rw [Ba] at h
  cases hp : (sE Ea Ad out.getLast? a false zF).1 with
  | false =>
   rw [hp] at h
   simp only [cZ, aN] at h
   cases h
   exact ⟨rfl, aZ _⟩
  | true =>
   rw [hp] at h
   simp only [bU, aB, aG] at h
   obtain ⟨o, d, h⟩ := bind_some h
   replace h : Ba 48 Ea Ad zF a 0 o = some s := h
   rw [Ba] at h
   cases h
 | x :: Gb, out, s, h, j => by
  rw [Ba] at h
  cases hp : (sE Ea Ad out.getLast? a false zF).1 with
  | false =>
   rw [hp] at h
   simp only [cZ, aN] at h
   cases h
   exact ⟨F5 j hp _, aZ _⟩
  | true =>
   rw [hp] at h
   simp only [bU, aB, aG] at h
   obtain ⟨o, d, h⟩ := bind_some h
   have i := d
   unfold nG at d
   split at d
   case isFalse => cases d
   cases d
   obtain ⟨n, p⟩ := IK a Gb _ s h j
   simp at p
   rw [pN]
   obtain ⟨b, e, m⟩ := Cp out a (by omega) a [] (-1) (false, zF) rfl (.inl ⟨rfl, rfl⟩)
   rw [show pQ out a a 0 (-1) = some b from e]
   simp only [aA]
   rcases m with ⟨g, _⟩ | ⟨g, k, l⟩
   ·rw [hp] at g; cases g
   ·rw [aX (by simpa using k), l]
    simp only [aA]
    rw [i]
    exact ⟨n, by omega⟩
theorem Oy (l : List lf) (d : l.length ≤ 1000000000) : ∃ s, As l = some s ∧ BM (fun f => f ∈ l) s := by
 obtain ⟨s, h1, a⟩ := Cz HB (w := 48) (by omega) zF l d (l.length + 1) [] (by simp) (by simp) (fun x b => by cases b) (fun x _ _ => .inr rfl)
 have hlen : s.length ≤ l.length := nm (vL HB (fun _ _ => rfl) a.1) (fun x b => ((a.2 x).1 b).1)
 exact ⟨s, (IK l l [] s h1 (by omega)).1, a.1, fun f => by rw [a.2]; exact ⟨fun h => h.1, fun h => ⟨h, rfl⟩⟩⟩
theorem KO : ∀ (l : List kF) (acc : List ByteArray), acc.length + 4 * l.length ≤ 1000000000 → th l acc = AA (acc ++ l.flatMap fun c => [c.ma, c.Head.kE, c.B.kE, c.C.kE])
 | [], acc, _ => by rw [th]; simp [pW]
 | c :: l, acc, h => by
  rw [th]
  simp only [aJ] at h
  rw [nS (by simp; omega) (by simp; omega)]
  simp only [aA]
  rw [KO l _ (by simp; omega)]
  simp
def SM (C : List kF) : Prop := C.length ≤ 30000
theorem SM.small {C : List kF} (h : SM C) : rZ C := by unfold SM at h; unfold rZ; omega
theorem SM.sq {C : List kF} (h : SM C) : C.length * C.length ≤ 900000000 := Nat.mul_le_mul h h
theorem OX {C : List kF} (b : SM C) (g : tH C) : ∃ names, yO C = some names ∧ ∀ c ∈ C, c.Kind = 1 → c.ma ∈ names := by
 have d : C.length ≤ 30000 := b
 unfold yO
 rw [KO C [] (by simp; omega)]
 obtain ⟨s, e, i⟩ := QC ([] ++ C.flatMap fun c => [c.ma, c.Head.kE, c.B.kE, c.C.kE]) (by
  have : ∀ l : List kF, (l.flatMap fun c => [c.ma, c.Head.kE, c.B.kE, c.C.kE]).length = 4 * l.length := fun l => by
   induction l with
   | nil => rfl
   | cons x l ih => simp [ih]; omega
  rw [bD, this]; omega)
 refine ⟨s, e, fun c a hk => (i.2 _).2 ⟨?_, ?_⟩⟩
 ·rw [bD]; exact ki.2 ⟨c, a, by simp⟩
 ·rcases pF (g c a) with h | h | h | h
  ·exact h.2.1
  ·exact absurd (hk.symm.trans h.1) (by decide)
  ·exact absurd (hk.symm.trans h.1) (by decide)
  ·exact absurd (hk.symm.trans h.1) (by decide)
theorem Mz {C : List kF} (n : tH C) {names : List ByteArray} (l : ∀ c ∈ C, c.Kind = 1 → c.ma ∈ names) {out : List lf} (h : ∀ c ∈ C, ∀ w ∈ names, xW out c names w → (⟨c.Head, w⟩ : lf) ∈ out) {f : lf} (k : pP C f) : f ∈ out := by
 have hw : ∀ f, pP C f → f.ma ∈ names := fun f k => by
  obtain ⟨c, a, hk, e⟩ := k.Lv
  rw [← e]; exact l c a hk
 induction k with
 | mem c a hk => exact h c a _ (l c a hk) (.inl ⟨hk, rfl⟩)
 | inc c w a hk m ih => exact h c a w (hw _ m) (.inr (.inl ⟨hk, ih⟩))
 | F0 c b w a hk d j g i => exact h c a w (hw _ j) (.inr (.inr (.inr ⟨by omega, by omega, by omega, b, hw _ d, g, i⟩)))
 | both c w a hk d j g i => exact h c a w (hw _ d) (.inr (.inr (.inl ⟨hk, g, i⟩)))
theorem Kq {C : List kF} (a : SM C) (b : tH C) {names : List ByteArray} (g : ∀ c ∈ C, c.Kind = 1 → c.ma ∈ names) : ∀ (m : Nat) (out : List lf), ET C out → C.length * C.length < m + out.length →
  ∃ s, vl names C m out = some s ∧ BM (pP C) s
 | 0, out, h, hm => by have := h.len; omega
 | m + 1, out, h, hm => by
  rw [vl]
  obtain ⟨o, c, e, i, a2, a3, a4⟩ := JW a.small b names C out false (fun _ h => h) h
  rw [e]
  simp only [aA, pW]
  cases c with
  | false =>
   simp only [cZ, aN]
   obtain ⟨_, j, k⟩ := a3 rfl
   subst j
   have p := h.len
   have n := a.sq
   obtain ⟨s, l, d⟩ := Oy o (by omega)
   exact ⟨s, l, d.1, fun f => (d.2 f).trans ⟨h.xG f, Mz b g k⟩⟩
  | true =>
   simp only [bU, aB, aG]
   rcases a2 rfl with h1 | h1
   ·cases h1
   ·exact Kq a b g m o i (by omega)
theorem Q3 (l : List kF) (p : l.length ≤ 30000) : ∃ C s, wx l = some s ∧ BM (pP C) s ∧ ∀ c, c ∈ C ↔ c ∈ l ∧ mS c = true := by
 unfold wx
 obtain ⟨C, e, b⟩ := Mb l (by omega)
 have hlen := BY DJ b
 have a : SM C := by unfold SM; omega
 have d : tH C := fun c j => ((b.2 c).1 j).2
 obtain ⟨names, g, m⟩ := OX a d
 rw [e]
 simp only [aA]
 rw [g]
 simp only [aA]
 have n := a.sq
 obtain ⟨s, h, i⟩ := Kq a d m lF [] ⟨by simp, fun f k => by cases k⟩ (by rw [yi]; simp; omega)
 exact ⟨C, s, h, i, b.2⟩
theorem CO (w : ByteArray) : ∀ (l : List lf) (acc : List kD), acc.length + l.length ≤ 1000000000 → rD w l acc = some (acc ++ (l.filter fun f => mx f.ma w).map (·.kD))
 | [], acc, _ => by rw [rD]; simp
 | x :: l, acc, h => by
  rw [rD]
  simp only [aJ] at h
  by_cases a : mx x.ma w = true
  ·rw [aX a, nS (by simp; omega) (by simp; omega)]
   simp only [aA]
   rw [CO w l _ (by simp; omega)]
   simp [a]
  ·rw [bB a, CO w l acc (by omega)]
   simp [a]
end Go.Proofs.YtklbhegeiijbjaaGreat
namespace Go.Proofs.YtklbhegeiijbjaaGreat
open Go.RowKit
theorem Qw {P : lf → Prop} {s t : List lf} (h : BM P s) (b : ∀ f, P f → f ∈ t) : s.length ≤ t.length := nm (vL HB (fun _ _ => rfl) h.1) (fun f a => b f ((h.2 f).1 a))
theorem QX {C : List kF} {s : List lf} (h : BM (pP C) s) (a : SM C) : s.length ≤ 900000000 := by
 have := Qw h (t := Ge C) (fun f b => b.Ge)
 rw [D5] at this
 have := a.sq
 omega
theorem NY {C : List kF} {T : pX} {d : List (kD × List kF)} {ws : List (ByteArray × List kF)} {n : Int} (h : MS C T d ws n) (cs : List kF) (u : List (kD × List kF)) (w : List (ByteArray × List kF)) (a : List lf) (z : Int) (r : kD) (Lv : ByteArray) :
  ∃ b, uQ (mm T) cs u w a z r Lv = some b ∧ (b = true ↔ pP C ⟨r, Lv⟩) :=
 ⟨_, rfl, by rw [ur h.EF.keys, h.all]⟩
def qA : kD := ⟨⟨#[97]⟩, ⟨#[114]⟩⟩
def qB : kD := ⟨⟨#[98]⟩, ⟨#[115]⟩⟩
def qd : ByteArray := ⟨#[100]⟩
def j1 : kF := ⟨2, qA, zS, qB, ⟨zS, zS⟩, zS⟩
def j2 : kF := ⟨1, qB, qd, ⟨zS, zS⟩, ⟨zS, zS⟩, zS⟩
end Go.Proofs.YtklbhegeiijbjaaGreat
namespace Go.Proofs.YtklbhegeiijbjaaGreat
open Go.RowKit
theorem xW.own {l : List lf} {c : kF} {names : List ByteArray} {w : ByteArray} (h : xW l c names w) : xW l c (l.map (·.ma)) w := by
 rcases h with h | h | h | ⟨d, g, i, b, _, a, j⟩
 ·exact .inl h
 ·exact .inr (.inl h)
 ·exact .inr (.inr (.inl h))
 ·exact .inr (.inr (.inr ⟨d, g, i, b, bN.2 ⟨_, a, rfl⟩, a, j⟩))
theorem xW.subset {a b : List lf} {c : kF} {names : List ByteArray} {w : ByteArray} (h : xW a c names w) (d : ∀ f ∈ a, f ∈ b) : xW b c names w := by
 rcases h with h | h | h | ⟨i, j, k, g, l, m, n⟩
 ·exact .inl h
 ·exact .inr (.inl ⟨h.1, d _ h.2⟩)
 ·exact .inr (.inr (.inl ⟨h.1, d _ h.2.1, d _ h.2.2⟩))
 ·exact .inr (.inr (.inr ⟨i, j, k, g, l, d _ m, d _ n⟩))
end Go.Proofs.YtklbhegeiijbjaaGreat
namespace Go.Proofs.YtklbhegeiijbjaaGreat
open Go.RowKit
def tot {α : Type} (a : List (List α)) : Nat := (a.map List.length).sum
end Go.Proofs.YtklbhegeiijbjaaGreat
namespace Go.Proofs.YtklbhegeiijbjaaGreat
open Go.RowKit
def up (w : ByteArray) (g : ByteArray → Nat) : ByteArray → Nat := fun x => if mx w x = true then g x + 1 else g x
end Go.Proofs.YtklbhegeiijbjaaGreat
namespace Go.Proofs.YtklbhegeiijbjaaGreat
open Go.RowKit
theorem ND (F : List lf) (w : ByteArray) (a : F.length ≤ 1000000000) : tW F w = some ((F.filter fun f => mx f.ma w).map (·.kD)) := by
 unfold tW
 rw [CO w F [] (by simp; omega)]
 simp
end Go.Proofs.YtklbhegeiijbjaaGreat
namespace Go.Proofs.YtklbhegeiijbjaaGreat
open Go.RowKit
instance decRole : DecidableEq kD := fun a b => decidable_of_iff (lx a b = true) lz
def Hk (F : List lf) (w : ByteArray) : List kD := (F.filter fun f => mx f.ma w).map (·.kD)
structure RU (l : List kF) (F : List lf) : Prop where
 len : l.length ≤ 30000
 C : ∃ C : List kF, BM (pP C) F ∧ (∀ c, c ∈ C ↔ c ∈ l ∧ mS c = true) ∧ SM C
 ref : wx l = some F
theorem RX (l : List kF) (g : l.length ≤ 30000) : ∃ F, RU l F := by
 obtain ⟨C, F, e, h1, h⟩ := Q3 l g
 obtain ⟨C1, T, j, ws, n, i, m1, a, d⟩ := MM l (by omega)
 have b : ∀ c, c ∈ C ↔ c ∈ C1 := fun c => by rw [h, a]
 exact ⟨F, g, ⟨C1, ⟨h1.1, fun f => (h1.2 f).trans (pP.congr b f)⟩, a, by unfold SM; omega⟩, e⟩
theorem RU.T7 {l : List kF} {F : List lf} (h : RU l F) : F.length ≤ 900000000 := by
 obtain ⟨C, h1, b, a⟩ := h.C
 exact QX h1 a
end Go.Proofs.YtklbhegeiijbjaaGreat
namespace Go.Proofs.YtklbhegeiijbjaaGreat
open Go.RowKit
def B8 (l : List Int) : Prop := ∀ x ∈ l, 0 ≤ x ∧ x < 256
end Go.Proofs.YtklbhegeiijbjaaGreat
namespace Go.Proofs.YtklbhegeiijbjaaGreat
open Go.RowKit
def M8 : List ByteArray → List Key → Int
 | _, [] => 0
 | seen, k :: l => if oK k.ma = false then 30 else if k.Key.length < 1 ∨ 32 < k.Key.length then 21 else if sF mx seen k.ma = true then 41 else M8 (seen ++ [k.ma]) l
def Pg (l : List Key) : List (ByteArray × List Int) := l.map fun k => (k.ma, k.Key)
def Pd (l : List Key) (o : ByteArray) : Option (List Int) := mJ mx (Pg l) o
theorem RI {l : List Int} (h : l.length ≤ 1000000) : vq l = some l := by
 unfold vq
 rw [GO (by simpa using h)]; rfl
theorem Mg : ∀ (l : List Key) (seen : List ByteArray), M8 seen l = 0 → ∀ k ∈ l, 1 ≤ k.Key.length ∧ k.Key.length ≤ 32
 | [], _, _, _, hk => by cases hk
 | x :: l, seen, h, k, hk => by
  unfold M8 at h
  split at h
  ·cases h
  split at h
  ·cases h
  split at h
  ·cases h
  rcases aQ.1 hk with rfl | hk
  ·omega
  ·exact Mg l _ h k hk
theorem GB : ∀ (l : List Key) (o : ByteArray) (b : List Int), Pd l o = some b → ∃ k ∈ l, k.Key = b
 | [], o, b, h => by cases h
 | x :: l, o, b, h => by
  unfold Pd at h
  rw [show Pg (x :: l) = (x.ma, x.Key) :: Pg l from rfl, Cq] at h
  split at h
  ·cases h; exact ⟨x, by simp, rfl⟩
  ·obtain ⟨k, hk, e⟩ := GB l o b h
   exact ⟨k, by simp [hk], e⟩
def K8 (l : List Key) : Prop := ∀ k ∈ l, B8 k.Key
structure Mk (ks : List Key) (c : kF) (k : List Int) : Prop where
 ok : M8 [] ks = 0
 rt : mS c = true
 lk : Pd ks c.Head.kE = some k
theorem Mk.len {ks : List Key} {c : kF} {k : List Int} (h : Mk ks c k) : 1 ≤ k.length ∧ k.length ≤ 32 := by
 obtain ⟨q, a, rfl⟩ := GB _ _ _ h.lk
 exact Mg ks [] h.ok q a
theorem Mk.b8 {ks : List Key} {c : kF} {k : List Int} (h : Mk ks c k) (hk : K8 ks) : B8 k := by
 obtain ⟨q, a, rfl⟩ := GB _ _ _ h.lk
 exact hk q a
theorem Mk.unique {ks : List Key} {c : kF} {k k' : List Int} (h : Mk ks c k) (a : Mk ks c k') : k = k' := by
 have := h.lk; rw [a.lk] at this; cases this; rfl
end Go.Proofs.YtklbhegeiijbjaaGreat
namespace Go.Proofs.YtklbhegeiijbjaaGreat
open Go.RowKit
def S8 (l : List Signed) : Prop := ∀ s ∈ l, B8 s.Tag
end Go.Proofs.YtklbhegeiijbjaaGreat
namespace Go.Proofs.YtklbhegeiijbjaaGreat
open Go.RowKit
theorem Pc (b : List kF) (x : kF) : tw b x = some (sF ng b x) := by
 obtain ⟨q, e, h⟩ := Kp x b
 unfold wG at e
 rw [pW] at e
 rw [e, show q = sF ng b x from by rw [bT, h, tk om]]
structure J5 (l : List kF) (F : List lf) : Prop where
 len : F.length ≤ 900000000
 ref : wx l = some F
 TQ : ∃ m, xV l = some m ∧ xh m.1 m.2.1 m.2.2.1 m.2.2.2.1 m.2.2.2.2.1 m.2.2.2.2.2 = some F ∧ ∀ r w, uQ m.1 m.2.1 m.2.2.1 m.2.2.2.1 m.2.2.2.2.1 m.2.2.2.2.2 r w = some (sF BG F ⟨r, w⟩)
 xG : ∀ C : List kF, (∀ c, c ∈ C ↔ c ∈ l ∧ mS c = true) → BM (pP C) F
theorem SJ (l : List kF) (x : l.length ≤ 30000) : ∃ F, J5 l F := by
 obtain ⟨F, h⟩ := RX l x
 refine ⟨F, h.T7, h.ref, ?_, fun C t => ?_⟩
 ·obtain ⟨C, h1, d, s⟩ := h.C
  obtain ⟨C1, T, m, ws, n, p, m1, g, j⟩ := MM l (by omega)
  have a : ∀ c, c ∈ C1 ↔ c ∈ C := fun c => by rw [d, g]
  have k : BM (pP C1) F := ⟨h1.1, fun f => (h1.2 f).trans (pP.congr a f).symm⟩
  have u : SM C1 := by unfold SM; omega
  refine ⟨_, p, ?_, fun r w => ?_⟩
  ·obtain ⟨F1, q, i⟩ := PH u.small m1 C1 m ws [] n
   rw [← i.unique k]; exact q
  ·obtain ⟨b, e, v⟩ := NY m1 C1 m ws [] n r w
   rw [e, show b = sF BG F ⟨r, w⟩ from by rw [bT, v, tk wX, k.2]]
 ·obtain ⟨C', h1, d, s⟩ := h.C
  have a : ∀ c, c ∈ C' ↔ c ∈ C := fun c => by rw [d, t]
  exact ⟨h1.1, fun f => (h1.2 f).trans (pP.congr a f)⟩
end Go.Proofs.YtklbhegeiijbjaaGreat
namespace Go.Proofs.YtklbhegeiijbjaaGreat
open Go.RowKit
section
variable {α : Type}
structure SWO (lt : α → α → Bool) : Prop where
 PZ : ∀ x, lt x x = false
 tr : ∀ x y z, lt x y = true → lt y z = true → lt x z = true
 NE : ∀ x y z, lt x z = true → lt x y = true ∨ lt y z = true
variable {lt : α → α → Bool}
theorem SWO.asym (h : SWO lt) {x y : α} (a : lt x y = true) : lt y x = false := by
 cases e : lt y x
 ·rfl
 ·have := h.tr _ _ _ a e; rw [h.PZ] at this; cases this
def tl (lt : α → α → Bool) (p q : α × Nat) : Prop := lt p.1 q.1 = true ∨ (lt q.1 p.1 = false ∧ p.2 < q.2)
theorem DR (h : SWO lt) {p q r : α × Nat} (a : tl lt p q) (b : tl lt q r) : tl lt p r := by
 unfold tl at *
 rcases a with a | ⟨a, a2⟩ <;> rcases b with b | ⟨b, d⟩
 ·exact .inl (h.tr _ _ _ a b)
 ·rcases h.NE _ r.1 _ a with c | c
  ·exact .inl c
  ·rw [b] at c; cases c
 ·rcases h.NE _ p.1 _ b with c | c
  ·rw [a] at c; cases c
  ·exact .inl c
 ·refine .inr ⟨?_, by omega⟩
  cases e : lt r.1 p.1
  ·rfl
  ·rcases h.NE _ q.1 _ e with c | c
   ·rw [b] at c; cases c
   ·rw [a] at c; cases c
theorem QA (h : SWO lt) {p q : α × Nat} (a : tl lt p q) (b : tl lt q p) : False := by
 have c := DR h a b
 rcases c with c | ⟨_, c⟩
 ·rw [h.PZ] at c; cases c
 ·omega
abbrev pw (lt : α → α → Bool) (t : List (α × Nat)) : Prop := t.Pairwise (tl lt)
theorem Hy (h : SWO lt) : ∀ {t u : List (α × Nat)}, pw lt t → pw lt u → t.Perm u → t = u
 | [], u, _, _, hp => by rw [List.nil_perm] at hp; exact hp.symm
 | p :: t, [], _, _, hp => by simp at hp
 | p :: t, q :: u, h1, b, hp => by
  have e : p = q := by
   rcases aQ.1 (hp.mem_iff.1 (.head _)) with e | d
   ·exact e
   ·rcases aQ.1 (hp.mem_iff.2 (.head _)) with e | a
    ·exact e.symm
    ·exact (QA h ((cN.1 h1).1 _ a) ((cN.1 b).1 _ d)).elim
  subst e
  rw [Hy h (cN.1 h1).2 (cN.1 b).2 (List.Perm.cons_inv hp)]
def Cd (lt : α → α → Bool) (l : List α) (k : α) : List α := l.filter (fun x => !lt k x) ++ k :: l.filter (fun x => lt k x)
def KH (lt : α → α → Bool) (l : List α) : List α := l.foldl (Cd lt) []
def Gv (lt : α → α → Bool) (t : List (α × Nat)) (k : α × Nat) : List (α × Nat) := t.filter (fun x => !lt k.1 x.1) ++ k :: t.filter (fun x => lt k.1 x.1)
theorem O9 (t : List (α × Nat)) (k : α × Nat) : (Gv lt t k).map (·.1) = Cd lt (t.map (·.1)) k.1 := by
 simp [Gv, Cd, List.filter_map, iy]
theorem OM (t : List (α × Nat)) (k : α × Nat) : (Gv lt t k).Perm (t ++ [k]) := by
 unfold Gv
 refine List.perm_middle.trans ?_
 refine (List.Perm.cons _ ?_).trans (iJ k t).symm
 have := List.filter_append_perm (fun x : α × Nat => !lt k.1 x.1) t
 simpa using this
theorem PR (h : SWO lt) {t : List (α × Nat)} {k : α × Nat} (i : pw lt t) (hk : ∀ x ∈ t, x.2 < k.2) : pw lt (Gv lt t k) := by
 unfold Gv pw
 rw [cY, cN]
 refine ⟨i.filter _, ⟨fun x b => ?_, i.filter _⟩, fun x b y d => ?_⟩
 ·exact .inl (cH.1 b).2
 ·obtain ⟨h1, g⟩ := cH.1 b
  simp only [iD, ] at g
  have a : tl lt x k := .inr ⟨g, hk x h1⟩
  rcases aQ.1 d with rfl | d
  ·exact a
  ·exact DR h a (.inl (cH.1 d).2)
theorem S0 (h : SWO lt) (l : List α) : ∃ t, pw lt t ∧ t.Perm l.zipIdx ∧ t.map (·.1) = KH lt l := by
 suffices H : ∀ (l r : List α) (t : List (α × Nat)), pw lt t → t.Perm r.zipIdx → ∃ u, pw lt u ∧ u.Perm (r ++ l).zipIdx ∧ u.map (·.1) = l.foldl (Cd lt) (t.map (·.1)) by
  obtain ⟨u, h1, d, i⟩ := H l [] [] .nil (by simp)
  exact ⟨u, h1, by simpa using d, i⟩
 intro l
 induction l with
 | nil => intro r t h1 d; exact ⟨t, h1, by simpa using d, rfl⟩
 | cons k l ih =>
  intro r t h1 d
  obtain ⟨u, g, a2, a3⟩ := ih (r ++ [k]) (Gv lt t (k, r.length)) (PR h h1 (fun x j => by
   obtain ⟨a, b⟩ := x
   have := List.snd_lt_of_mem_zipIdx (d.mem_iff.1 j)
   simpa using this)) ((OM t _).trans (by rw [List.zipIdx_append]; simpa using d.append_right _))
  refine ⟨u, g, by simpa using a2, ?_⟩
  rw [a3, O9]
  rfl
theorem Q5 (h : SWO lt) {l : List α} {t : List (α × Nat)} (h1 : pw lt t) (b : t.Perm l.zipIdx) : t.map (·.1) = KH lt l := by
 obtain ⟨u, a, a2, a3⟩ := S0 h l
 rw [← a3, Hy h h1 a (b.trans a2.symm)]
end
end Go.Proofs.YtklbhegeiijbjaaGreat
namespace Go.Proofs.YtklbhegeiijbjaaGreat
open Go.RowKit
section
variable {α : Type} {lt : α → α → Bool}
abbrev Lk (lt : α → α → Bool) (A B : List (α × Nat)) : Prop := ∀ A' a b B', A = A' ++ [a] → B = b :: B' → tl lt a b
theorem AY (h : SWO lt) {A B : List (α × Nat)} (k : pw lt A) (m : pw lt B) (l : Lk lt A B) : ∀ a ∈ A, ∀ b ∈ B, tl lt a b := by
 intro a ha b d
 rcases dI A with rfl | ⟨A', z, rfl⟩
 ·cases ha
 cases B with
 | nil => cases d
 | cons y B' =>
  have h1 : tl lt z y := l A' z y B' (by simp) rfl
  have g : a = z ∨ tl lt a z := by
   simp only [eH, aW, cM] at ha
   rcases ha with ha | ha
   ·refine .inr ?_
    simp only [eH, pw, cY] at k
    exact k.2.2 a ha z (by simp)
   ·exact .inl ha
  have i : b = y ∨ tl lt y b := by
   rcases aQ.1 d with d | d
   ·exact .inl d
   ·exact .inr ((cN.1 m).1 b d)
  have j : tl lt a y := by
   rcases g with rfl | g
   ·exact h1
   ·exact DR h g h1
  rcases i with rfl | i
  ·exact j
  ·exact DR h j i
theorem JN (h : SWO lt) {A B : List (α × Nat)} (a : pw lt A) (b : pw lt B) (l : Lk lt A B) : pw lt (A ++ B) :=
 cY.2 ⟨a, b, AY h a b l⟩
theorem pw.left {A B : List (α × Nat)} (h : pw lt (A ++ B)) : pw lt A := (cY.1 h).1
theorem pw.right {A B : List (α × Nat)} (h : pw lt (A ++ B)) : pw lt B := (cY.1 h).2.1
theorem pw.two {A B : List (α × Nat)} (h : pw lt (A ++ B)) : ∀ a ∈ A, ∀ b ∈ B, tl lt a b := (cY.1 h).2.2
theorem Ij (h : SWO lt) {A B : List (α × Nat)} {x : α × Nat} (g : pw lt (A ++ B)) (j : Lk lt A [x]) (k : Lk lt [x] B) : pw lt (A ++ x :: B) := by
 have h1 := AY h g.left (jd _ x) j
 have i := AY h (jd _ x) g.right k
 refine cY.2 ⟨g.left, cN.2 ⟨fun b d => i x (by simp) b d, g.right⟩, fun a ha b d => ?_⟩
 rcases aQ.1 d with rfl | d
 ·exact h1 a ha _ (by simp)
 ·exact g.two a ha b d
theorem Rc (h : SWO lt) {A1 A2 B1 B2 C1 C2 : List (α × Nat)} (g : pw lt (A1 ++ A2)) (i : pw lt (B1 ++ B2)) (k : Lk lt A1 B2) (l : Lk lt B1 A2) (m : C1.Perm (A1 ++ B1)) (n : C2.Perm (A2 ++ B2)) (h1 : pw lt C1) (j : pw lt C2) : pw lt (C1 ++ C2) := by
 have x1 := AY h g.left i.right k
 have x2 := AY h i.left g.right l
 refine cY.2 ⟨h1, j, fun a ha b d => ?_⟩
 rcases aW.1 (m.mem_iff.1 ha) with ha | ha <;> rcases aW.1 (n.mem_iff.1 d) with d | d
 ·exact g.two a ha b d
 ·exact x1 a ha b d
 ·exact x2 a ha b d
 ·exact i.two a ha b d
end
section
variable {α : Type}
theorem FA (p q : List α) (x y : α) : (p ++ x :: q).set p.length y = p ++ y :: q := by simp
theorem KN (p q : List α) (x y : α) (n : Nat) (h : n = p.length) : (p ++ x :: q).set n y = p ++ y :: q := by subst h; simp
theorem Gm (p m q : List α) (x y : α) : ((p ++ x :: (m ++ y :: q)).set p.length y).set (p.length + 1 + m.length) x = p ++ y :: (m ++ x :: q) := by
 rw [FA]
 have : p ++ y :: (m ++ y :: q) = (p ++ y :: m) ++ y :: q := by simp
 rw [this, show p.length + 1 + m.length = (p ++ y :: m).length by simp; omega, FA]
 simp
theorem NA (p m q : List α) (x y : α) : ((p ++ x :: (m ++ y :: q)).set (p.length + 1 + m.length) x).set p.length y = p ++ y :: (m ++ x :: q) := by
 rw [List.set_comm _ _ (by omega), Gm]
theorem xA {l : List α} {n : Nat} (h : n ≤ l.length) : ∃ a b, l = a ++ b ∧ a.length = n := ⟨l.take n, l.drop n, (gC n l).symm, by simp [h]⟩
end
end Go.Proofs.YtklbhegeiijbjaaGreat
namespace Go.Proofs.YtklbhegeiijbjaaGreat
open Go.RowKit
section
variable {c : Formula → Formula → Int} {G : Formula → Prop} {f : Formula × Formula → Option Int}
theorem M5 (x : Formula) : (⟨x.Op, x.K, x.kD, x.Kids⟩ : Formula) = x := by cases x; rfl
abbrev oF (c : Formula → Formula → Int) (x y : Formula) : Bool := decide (c x y < 0)
abbrev Dm (f : Formula × Formula → Option Int) (c : Formula → Formula → Int) (G : Formula → Prop) : Prop := ∀ x y, G x → G y → f (x, y) = some (c x y)
theorem T5 (u : Dm f c G) (pre : List Formula) (x : Formula) (w : G x) : ∀ (k : Nat) (P S : List Formula) (n : Nat) (j a : Int), P.length = k → k < n → (∀ y ∈ P, G y) → (pre ++ (P ++ x :: S)).length ≤ 1000000 → j = ((pre.length + P.length : Nat) : Int) → a = (pre.length : Int) →
  ∃ P1 P2, P = P1 ++ P2 ∧ mY a f n (pre ++ (P ++ x :: S)) j = some (pre ++ (P1 ++ x :: (P2 ++ S))) ∧ (∀ P' z, P1 = P' ++ [z] → oF c x z = false) ∧ (∀ y P', P2 = y :: P' → oF c x y = true) := by
 intro k
 induction k with
 | zero =>
  intro P S n j a hk v d l h ha
  obtain rfl := aU hk
  obtain ⟨n, rfl⟩ := aT (by omega : n ≠ 0)
  refine ⟨[], [], rfl, ?_, by simp, by simp⟩
  rw [mY]
  have : ¬ (j > a) := by rw [h, ha]; simp
  simp [this]
 | succ k ih =>
  intro P S n j a hk v d l h ha
  rcases dI P with rfl | ⟨P', z, rfl⟩
  ·simp at hk
  simp only [eH, aF, aJ, bV] at hk h l d ⊢
  obtain ⟨n, rfl⟩ := aT (by omega : n ≠ 0)
  have i : j > a := by omega
  have m : pre ++ (P' ++ [z] ++ x :: S) = (pre ++ P') ++ z :: x :: S := by simp
  have hw : IntKind.i64.wrap (j - 1) = ((pre.length + P'.length : Nat) : Int) := by rw [mg (by omega) (by omega)]; omega
  have i1 : mP ((pre ++ P') ++ z :: x :: S) j = some x := by
   rw [show (pre ++ P') ++ z :: x :: S = (pre ++ P' ++ [z]) ++ x :: S by simp]
   exact nL _ _ _ _ (by simp; omega)
  have i2 : mP ((pre ++ P') ++ z :: x :: S) ((pre.length + P'.length : Nat) : Int) = some z := nL _ _ _ _ (by simp)
  have D : G z := d z (by simp)
  have t : ∀ y ∈ P', G y := fun y A => d y (by simp [A])
  have F : j.toNat = pre.length + P'.length + 1 := by omega
  rw [mY, m]
  simp only [i, bZ, aN, i1, hw, i2, aA, u x z w D]
  by_cases g : c x z < 0
  ·simp only [g, bZ, aN]
   have s1 : ((pre ++ P') ++ z :: x :: S).set j.toNat z = (pre ++ P') ++ z :: z :: S := by
    have := KN (pre ++ P' ++ [z]) S x z j.toNat (by simp; omega)
    simpa only [aM, jr, bY, bD] using this
   have s2 : ((pre ++ P') ++ z :: z :: S).set (pre.length + P'.length) x = (pre ++ P') ++ x :: z :: S := by
    exact KN (pre ++ P') (z :: S) z x _ (by simp)
   have i3 : mP ((pre ++ P') ++ z :: z :: S) ((pre.length + P'.length : Nat) : Int) = some z := nL _ _ _ _ (by simp)
   rw [s1, i3, aA, dO, M5, s2]
   have p : (pre ++ P') ++ x :: z :: S = pre ++ (P' ++ x :: (z :: S)) := by simp
   obtain ⟨P1, P2, h1, q, r, s⟩ := ih P' (z :: S) n ((pre.length + P'.length : Nat) : Int) a (by omega) (by omega) t (by simp; omega) rfl ha
   rw [p, q]
   refine ⟨P1, P2 ++ [z], by rw [h1]; simp, by simp, r, ?_⟩
   intro y Q b
   cases P2 with
   | nil =>
    simp only [bD, bE] at b
    rw [← b.1]; simp [oF, g]
   | cons E P2 =>
    simp only [bY, bE] at b
    rw [← b.1]; exact s E P2 rfl
  ·simp only [g, cC, aB, aG]
   refine ⟨P' ++ [z], [], by simp, by simp, ?_, by simp⟩
   intro Q y b
   have := List.append_inj' b rfl
   simp only [bE, dS] at this
   rw [← this.2]; simp [oF, g]
theorem P5 (h : SWO (oF c)) (I : Dm f c G) (pre post : List Formula) (a b : Int) (ha : a = (pre.length : Int)) : ∀ (S t : List (Formula × Nat)) (n : Nat) (i : Int),
  S.length < n → pw (oF c) t → (∀ x ∈ t, ∀ y ∈ S, x.2 < y.2) → S.Pairwise (fun x y => x.2 < y.2) → (∀ x ∈ t ++ S, G x.1) → (pre ++ (t.map (·.1) ++ (S.map (·.1) ++ post))).length ≤ 1000000 →
  i = ((pre.length + t.length : Nat) : Int) → b = ((pre.length + t.length + S.length : Nat) : Int) →
  ∃ u, mO b a f n (pre ++ (t.map (·.1) ++ (S.map (·.1) ++ post))) i = some (pre ++ (u.map (·.1) ++ post)) ∧ pw (oF c) u ∧ u.Perm (t ++ S)
 | [], t, n, i, D, E, h1, F, r, A, J, v => by
  obtain ⟨n, rfl⟩ := aT (by simp at D; omega : n ≠ 0)
  rw [mO]
  simp only [bV] at v
  have : ¬ (i < b) := by omega
  simp only [this, cC, aB, aG]
  exact ⟨t, by simp, E, by simp⟩
 | s :: S, t, n, i, D, E, h1, F, r, A, J, v => by
  simp only [aJ] at D v
  obtain ⟨n, rfl⟩ := aT (by omega : n ≠ 0)
  rw [mO]
  have w : i < b := by omega
  simp only [w, bZ, aN]
  have k := A
  simp only [aF, dD, aJ] at k
  obtain ⟨P1, P2, O, P, Q, R⟩ := T5 I pre s.1 (r s (by simp)) (t.map (·.1)).length (t.map (·.1)) (S.map (·.1) ++ post) lF i a rfl (by rw [nt]; simp; omega)
   (fun y m => by obtain ⟨p, hp, rfl⟩ := bN.1 m; exact r p (by simp [hp])) (by simpa using A) (by simp; omega) ha
  simp only [bP, bY]
  rw [P, aA]
  obtain ⟨t1, t2, rfl, L, M⟩ := List.map_eq_append_iff.1 O
  have hlen : t1.length + t2.length = (t1 ++ t2).length := by simp
  have hw : IntKind.i64.wrap (i + 1) = ((pre.length + (t1 ++ s :: t2).length : Nat) : Int) := by rw [mg (by omega) (by omega)]; simp at J ⊢; omega
  rw [hw]
  have l : pw (oF c) (t1 ++ s :: t2) := Ij h E
   (fun A' z b B' j q => by
    simp only [bE] at q
    rw [← q.1]
    refine .inr ⟨Q (A'.map (·.1)) z.1 (by rw [← L, j]; simp), h1 z (by rw [j]; simp) s (by simp)⟩)
   (fun A' z b B' j q => by
    have U : z = s := by
     cases A' with
     | nil => simpa using j.symm
     | cons _ A' => simp at j
    rw [U]
    exact .inl (R b.1 (B'.map (·.1)) (by rw [← M, q]; simp)))
  have g := cN.1 F
  have T : pre ++ (P1 ++ s.1 :: (P2 ++ (S.map (·.1) ++ post))) = pre ++ ((t1 ++ s :: t2).map (·.1) ++ (S.map (·.1) ++ post)) := by rw [← L, ← M]; simp
  rw [T]
  obtain ⟨u, W, Y, Z⟩ := P5 h I pre post a b ha S (t1 ++ s :: t2) n _ (by omega) l
   (fun x d y m => by
    rcases aW.1 d with d | d
    ·exact h1 x (by simp [d]) y (by simp [m])
    ·rcases aQ.1 d with rfl | d
     ·exact g.1 y m
     ·exact h1 x (by simp [d]) y (by simp [m]))
   g.2 (fun x d => r x (by
    simp only [aW, aQ] at d ⊢
    rcases d with (d | d | d) | d
    ·exact .inl (.inl d)
    ·exact .inr (.inl d)
    ·exact .inl (.inr d)
    ·exact .inr (.inr d))) (by simp at k ⊢; omega) rfl (by simp at v ⊢; omega)
  refine ⟨u, W, Y, Z.trans ?_⟩
  simp only [aM, bY]
  exact cJ t1 (List.perm_middle.symm)
theorem Me (h : SWO (oF c)) (p : Dm f c G) (pre post : List Formula) (S : List (Formula × Nat)) (a b : Int) (l : S.Pairwise (fun x y => x.2 < y.2)) (m : ∀ x ∈ S, G x.1) (k : (pre ++ (S.map (·.1) ++ post)).length ≤ 1000000) (ha : a = (pre.length : Int)) (j : b = ((pre.length + S.length : Nat) : Int)) :
  ∃ u, oe (pre ++ (S.map (·.1) ++ post)) a b f = some (pre ++ (u.map (·.1) ++ post)) ∧ pw (oF c) u ∧ u.Perm S := by
 unfold oe
 have g := k
 simp only [aF, dD] at g
 cases S with
 | nil =>
  refine ⟨[], ?_, .nil, .nil⟩
  obtain ⟨n, q⟩ := aT (by rw [nt]; omega : lF ≠ 0)
  rw [q, mO]
  have : ¬ (IntKind.i64.wrap (a + 1) < b) := by rw [mg (by omega) (by omega)]; simp at j; omega
  simp [this]
 | cons s S =>
  simp only [aJ] at j g
  have d := cN.1 l
  obtain ⟨u, t, v, w⟩ := P5 h p pre post a b ha S [s] lF (IntKind.i64.wrap (a + 1)) (by rw [nt]; omega) (jd _ _) (fun x i y r => by simp at i; rw [i]; exact d.1 y r) d.2
   (fun x i => m x (by simpa using i)) (by simp at k ⊢; omega) (by rw [mg (by omega) (by omega)]; simp; omega) (by simp; omega)
  exact ⟨u, by simpa using t, v, by simpa using w⟩
end
end Go.Proofs.YtklbhegeiijbjaaGreat
namespace Go.Proofs.YtklbhegeiijbjaaGreat
open Go.RowKit
section
variable {c : Formula → Formula → Int} {G : Formula → Prop} {f : Formula × Formula → Option Int}
theorem oE {x : Int} (n : Nat) (h : x = (n : Int)) (a : n ≤ 4000000) : IntKind.i64.wrap x = (n : Int) := by rw [h, mg (by omega) (by omega)]
theorem SF (p m q : List Formula) (a b N : Int) : ∀ (k : Nat) (X1 X2 Y1 Y2 : List Formula) (n : Nat) (i : Int), X2.length = k → Y2.length = k → X1.length = Y1.length → k < n → (p ++ (Y1 ++ (X2 ++ (m ++ (X1 ++ (Y2 ++ q)))))).length ≤ 1000000 →
  i = (X1.length : Int) → N = ((X1.length + k : Nat) : Int) → a = (p.length : Int) → b = ((p.length + X1.length + k + m.length : Nat) : Int) →
  nx N b a n (p ++ (Y1 ++ (X2 ++ (m ++ (X1 ++ (Y2 ++ q)))))) i = some (p ++ ((Y1 ++ Y2) ++ (m ++ ((X1 ++ X2) ++ q)))) := by
 intro k
 induction k with
 | zero =>
  intro X1 X2 Y1 Y2 n i h1 d u w r v j ha l
  obtain rfl := aU h1
  obtain rfl := aU d
  obtain ⟨n, rfl⟩ := aT (by omega : n ≠ 0)
  rw [nx]
  have : ¬ (i < N) := by omega
  simp [this]
 | succ k ih =>
  intro X1 X2 Y1 Y2 n i h1 d u w r v j ha l
  cases X2 with
  | nil => simp at h1
  | cons x X2 =>
  cases Y2 with
  | nil => simp at d
  | cons y Y2 =>
  simp only [aJ, Nat.add_right_cancel_iff] at h1 d
  obtain ⟨n, rfl⟩ := aT (by omega : n ≠ 0)
  have h := r
  simp only [aF, aJ] at h
  have g : i < N := by omega
  have z : IntKind.i64.wrap (b + i) = (((p ++ Y1).length + 1 + (X2 ++ (m ++ X1)).length : Nat) : Int) := oE _ (by simp; omega) (by simp; omega)
  have A : IntKind.i64.wrap (a + i) = ((p ++ Y1).length : Int) := oE _ (by simp; omega) (by simp; omega)
  have D : IntKind.i64.wrap (i + 1) = ((X1 ++ [x]).length : Int) := oE _ (by simp; omega) (by simp; omega)
  have s : p ++ (Y1 ++ (x :: X2 ++ (m ++ (X1 ++ (y :: Y2 ++ q))))) = (p ++ Y1) ++ x :: ((X2 ++ (m ++ X1)) ++ y :: (Y2 ++ q)) := by simp
  have i1 : mP ((p ++ Y1) ++ x :: ((X2 ++ (m ++ X1)) ++ y :: (Y2 ++ q))) (((p ++ Y1).length + 1 + (X2 ++ (m ++ X1)).length : Nat) : Int) = some y := by
   have := nL ((p ++ Y1) ++ x :: (X2 ++ (m ++ X1))) y (Y2 ++ q) (((p ++ Y1).length + 1 + (X2 ++ (m ++ X1)).length : Nat) : Int) (by simp; omega)
   simpa using this
  have i2 : mP ((p ++ Y1) ++ x :: ((X2 ++ (m ++ X1)) ++ y :: (Y2 ++ q))) ((p ++ Y1).length : Int) = some x := nL _ _ _ _ rfl
  rw [nx, s]
  simp only [g, bZ, aN, z, A, i1, i2, aA, dO, D]
  have i3 : mP (((p ++ Y1) ++ x :: ((X2 ++ (m ++ X1)) ++ y :: (Y2 ++ q))).set (p ++ Y1).length y) (((p ++ Y1).length + 1 + (X2 ++ (m ++ X1)).length : Nat) : Int) = some y := by
   rw [FA]
   have := nL ((p ++ Y1) ++ y :: (X2 ++ (m ++ X1))) y (Y2 ++ q) (((p ++ Y1).length + 1 + (X2 ++ (m ++ X1)).length : Nat) : Int) (by simp; omega)
   simpa using this
  rw [i3, aA, M5, Gm]
  have t : (p ++ Y1) ++ y :: ((X2 ++ (m ++ X1)) ++ x :: (Y2 ++ q)) = p ++ ((Y1 ++ [y]) ++ (X2 ++ (m ++ ((X1 ++ [x]) ++ (Y2 ++ q))))) := by simp
  rw [t, ih (X1 ++ [x]) X2 (Y1 ++ [y]) Y2 n _ h1 d (by simp; omega) (by omega) (by simp; omega) rfl (by rw [j]; simp; omega) ha (by rw [l]; simp; omega)]
  simp
theorem Mx (p m q X Y : List Formula) (a b N : Int) (h : X.length = Y.length) (g : (p ++ (X ++ (m ++ (Y ++ q)))).length ≤ 1000000) (i : N = (X.length : Int)) (ha : a = (p.length : Int)) (j : b = ((p.length + X.length + m.length : Nat) : Int)) :
  nX (p ++ (X ++ (m ++ (Y ++ q)))) a b N f = some (p ++ (Y ++ (m ++ (X ++ q)))) := by
 unfold nX
 have d := g
 simp only [aF] at d
 have := SF p m q a b N X.length [] X [] Y lF 0 rfl h.symm rfl (by rw [nt]; omega) (by simpa using g) rfl (by simpa using i) ha (by rw [j]; simp)
 simpa using this
theorem SR (M : Int) : ∀ (k : Nat) (A B p q : List Formula) (n : Nat) (i j : Int), A.length + B.length ≤ k → 0 < A.length → 0 < B.length → k < n → (p ++ (A ++ (B ++ q))).length ≤ 1000000 → i = (A.length : Int) → j = (B.length : Int) → M = ((p.length + A.length : Nat) : Int) →
  nH M f n (p ++ (A ++ (B ++ q))) i j = some (p ++ (B ++ (A ++ q))) := by
 intro k
 induction k with
 | zero => intro A B p q n i j h h1 u; omega
 | succ k ih =>
  intro A B p q n i j h h1 u G x b m v
  obtain ⟨n, rfl⟩ := aT (by omega : n ≠ 0)
  have a := x
  simp only [aF] at a
  rw [nH]
  by_cases he : A.length = B.length
  ·have : (i != j) = false := by rw [b, m, he]; simp
   simp only [this, aB, aG]
   have d : IntKind.i64.wrap (M - i) = (p.length : Int) := oE _ (by omega) (by omega)
   have := Mx (f := f) p [] q A B (p.length : Int) M i he (by simpa using x) b rfl (by rw [v]; simp)
   simp only [bD] at this
   rw [d, this]; rfl
  ·have r : (i != j) = true := by rw [b, m]; simp; omega
   simp only [r, aN]
   by_cases w : i > j
   ·simp only [w, bZ, aN]
    obtain ⟨X, Y, rfl, F⟩ := xA (l := A) (n := B.length) (by omega)
    simp only [aF] at b h v a
    have d : IntKind.i64.wrap (M - i) = (p.length : Int) := oE _ (by omega) (by omega)
    have s := Mx (f := f) p Y q X B (p.length : Int) M j (by omega) (by simp; omega) (by omega) rfl (by omega)
    have g : p ++ (X ++ Y ++ (B ++ q)) = p ++ (X ++ (Y ++ (B ++ q))) := by simp
    have t : IntKind.i64.wrap (i - j) = (Y.length : Int) := oE _ (by omega) (by omega)
    rw [g, d, s, aA, t]
    have y : p ++ (B ++ (Y ++ (X ++ q))) = (p ++ B) ++ (Y ++ (X ++ q)) := by simp
    rw [y, ih Y X (p ++ B) q n _ j (by omega) (by omega) (by omega) (by omega) (by simp; omega) rfl (by omega) (by simp; omega)]
    simp
   ·simp only [w, cC, aB, aG]
    obtain ⟨Z, V, rfl, z⟩ := xA (l := B) (n := B.length - A.length) (by omega)
    simp only [aF] at m h a z u he
    have d : IntKind.i64.wrap (M - i) = (p.length : Int) := oE _ (by omega) (by omega)
    have D : IntKind.i64.wrap (M + j) = ((p.length + A.length + (Z.length + V.length) : Nat) : Int) := oE _ (by omega) (by omega)
    have E : IntKind.i64.wrap (((p.length + A.length + (Z.length + V.length) : Nat) : Int) - i) = ((p.length + A.length + Z.length : Nat) : Int) := oE _ (by omega) (by omega)
    have s := Mx (f := f) p Z q A V (p.length : Int) ((p.length + A.length + Z.length : Nat) : Int) i (by omega) (by simp; omega) b rfl rfl
    have g : p ++ (A ++ (Z ++ V ++ q)) = p ++ (A ++ (Z ++ (V ++ q))) := by simp
    have t : IntKind.i64.wrap (j - i) = (Z.length : Int) := oE _ (by omega) (by omega)
    rw [g, d, D, E, s, aA, t]
    rw [show p ++ (V ++ (Z ++ (A ++ q))) = p ++ (V ++ (Z ++ (A ++ q))) from rfl, ih V Z p (A ++ q) n i _ (by omega) (by omega) (by omega) (by omega) (by simp; omega) (by omega) rfl (by omega)]
    simp
theorem Uu (A B p q : List Formula) (a m b : Int) (h1 : 0 < A.length) (h : 0 < B.length) (g : (p ++ (A ++ (B ++ q))).length ≤ 1000000) (ha : a = (p.length : Int)) (hm : m = ((p.length + A.length : Nat) : Int)) (i : b = ((p.length + A.length + B.length : Nat) : Int)) :
  nR (p ++ (A ++ (B ++ q))) a m b f = some (p ++ (B ++ (A ++ q))) := by
 unfold nR
 have d := g
 simp only [aF] at d
 rw [oE A.length (by omega) (by omega), oE B.length (by omega) (by omega)]
 exact SR m (A.length + B.length) A B p q lF _ _ (aZ _) h1 h (by rw [nt]; omega) g rfl rfl hm
end
end Go.Proofs.YtklbhegeiijbjaaGreat
namespace Go.Proofs.YtklbhegeiijbjaaGreat
open Go.RowKit
section
variable {c : Formula → Formula → Int} {G : Formula → Prop} {f : Formula × Formula → Option Int}
theorem DK {x : Int} (n : Nat) (h : x = (n : Int)) (b : n ≤ 4000000) : IntKind.i64.wrap (Int.fdiv (IntKind.u64.wrap (IntKind.i64.wrap x)) (2 ^ min (Int.toNat 1) (IntKind.bits .u64))) = ((n / 2 : Nat) : Int) := by
 rw [oE n h b]
 have a : IntKind.u64.wrap (n : Int) = (n : Int) := by
  simp only [IntKind.wrap, IntKind.signed, IntKind.bits]
  simp
  omega
 rw [a, show (2 ^ min (Int.toNat 1) (IntKind.bits .u64) : Int) = 2 from by decide, Int.fdiv_eq_ediv_of_nonneg _ (by decide), mg (by omega) (by omega)]
 omega
abbrev Ask (a0 : List Formula) (f : Formula × Formula → Option Int) (p q : Int) (b : Bool) : Prop := ∃ x y r, mP a0 p = some x ∧ mP a0 q = some y ∧ f (x, y) = some r ∧ decide (r < 0) = b
theorem Uk (a0 : List Formula) (p : Int) (b : Nat → Bool) (lo a : Nat) (F : a ≤ 1000000) (u : ∀ h, lo ≤ h → h < a → Ask a0 f (h : Int) p (b h)) : ∀ (d n i j : Nat), j - i ≤ d → d < n → lo ≤ i → i ≤ j → j ≤ a → (i = lo ∨ b (i - 1) = true) → (j = a ∨ b j = false) →
  ∃ t I, lo ≤ t ∧ t ≤ a ∧ (t = lo ∨ b (t - 1) = true) ∧ (t = a ∨ b t = false) ∧ mF a0 p f n (i : Int) (j : Int) = mF a0 p f (I + 1) (t : Int) (t : Int) := by
 intro d
 induction d with
 | zero =>
  intro n i j h1 G g D k l m
  obtain ⟨n, rfl⟩ := aT (by omega : n ≠ 0)
  obtain rfl : i = j := by omega
  exact ⟨i, n, g, k, l, m, rfl⟩
 | succ d ih =>
  intro n i j h1 G g D k l m
  obtain ⟨n, rfl⟩ := aT (by omega : n ≠ 0)
  by_cases q : i = j
  ·subst q; exact ⟨i, n, g, k, l, m, rfl⟩
  have E := DK (i + j) (x := (i : Int) + (j : Int)) (by omega) (by omega)
  obtain ⟨x, y, r, v, w, z, A⟩ := u ((i + j) / 2) (by omega) (by omega)
  rw [mF]
  have s : ((i : Int) < (j : Int)) := by omega
  simp only [s, bZ, aN, E, v, w, z, A, aA]
  cases hp : b ((i + j) / 2)
  ·simp only [aB, aG]
   exact ih n i ((i + j) / 2) (by omega) (by omega) g (by omega) (by omega) l (.inr hp)
  ·simp only [aN]
   rw [oE ((i + j) / 2 + 1) (by omega) (by omega)]
   exact ih n ((i + j) / 2 + 1) j (by omega) (by omega) (by omega) (by omega) k (.inr (by simpa using hp)) m
theorem UC (a0 : List Formula) (a2 : Int) (b : Nat → Bool) (lo a : Nat) (E : a ≤ 1000000) (s : ∀ h, lo ≤ h → h < a → Ask a0 f a2 (h : Int) (!b h)) : ∀ (d n i j : Nat), j - i ≤ d → d < n → lo ≤ i → i ≤ j → j ≤ a → (i = lo ∨ b (i - 1) = true) → (j = a ∨ b j = false) →
  ∃ t G, lo ≤ t ∧ t ≤ a ∧ (t = lo ∨ b (t - 1) = true) ∧ (t = a ∨ b t = false) ∧ mH a0 a2 f n (i : Int) (j : Int) = mH a0 a2 f (G + 1) (t : Int) (t : Int) := by
 intro d
 induction d with
 | zero =>
  intro n i j h1 F g A k l m
  obtain ⟨n, rfl⟩ := aT (by omega : n ≠ 0)
  obtain rfl : i = j := by omega
  exact ⟨i, n, g, k, l, m, rfl⟩
 | succ d ih =>
  intro n i j h1 F g A k l m
  obtain ⟨n, rfl⟩ := aT (by omega : n ≠ 0)
  by_cases p : i = j
  ·subst p; exact ⟨i, n, g, k, l, m, rfl⟩
  have D := DK (i + j) (x := (i : Int) + (j : Int)) (by omega) (by omega)
  obtain ⟨x, y, r, u, v, w, z⟩ := s ((i + j) / 2) (by omega) (by omega)
  rw [mH]
  have q : ((i : Int) < (j : Int)) := by omega
  simp only [q, bZ, aN, D, u, v, w, z, aA, jo]
  cases hp : b ((i + j) / 2)
  ·simp only [aB, aG]
   exact ih n i ((i + j) / 2) (by omega) (by omega) g (by omega) (by omega) l (.inr hp)
  ·simp only [aN]
   rw [oE ((i + j) / 2 + 1) (by omega) (by omega)]
   exact ih n ((i + j) / 2 + 1) j (by omega) (by omega) (by omega) (by omega) k (.inr (by simpa using hp)) m
theorem Tz (x : Formula) : ∀ (P Q R : List Formula) (n : Nat) (k i : Int), P.length < n → (Q ++ x :: (P ++ R)).length ≤ 1000000 → k = (Q.length : Int) → i = ((Q.length + P.length + 1 : Nat) : Int) → nD i n (Q ++ x :: (P ++ R)) k = some (Q ++ (P ++ x :: R))
 | [], Q, R, n, k, i, b, d, hk, a => by
  obtain ⟨n, rfl⟩ := aT (by simp at b; omega : n ≠ 0)
  simp only [aF, aJ, bV] at d a
  rw [nD, oE Q.length (by omega) (by omega)]
  have : ¬ (k < (Q.length : Int)) := by omega
  simp [this]
 | y :: P, Q, R, n, k, i, b, d, hk, a => by
  obtain ⟨n, rfl⟩ := aT (by simp at b; omega : n ≠ 0)
  simp only [aF, aJ] at d a b
  have h : Q ++ x :: (y :: P ++ R) = Q ++ x :: ([] ++ y :: (P ++ R)) := rfl
  have j : IntKind.i64.wrap (k + 1) = ((Q.length + 1 + ([] : List Formula).length : Nat) : Int) := oE _ (by simp; omega) (by simp; omega)
  have i1 : mP (Q ++ x :: ([] ++ y :: (P ++ R))) ((Q.length + 1 + ([] : List Formula).length : Nat) : Int) = some y := by
   have := nL (Q ++ [x]) y (P ++ R) ((Q.length + 1 + ([] : List Formula).length : Nat) : Int) (by simp)
   simpa using this
  have i2 : mP (Q ++ x :: ([] ++ y :: (P ++ R))) k = some x := nL _ _ _ _ hk
  rw [nD, oE (Q.length + P.length + 1) (by omega) (by omega), h]
  have g : k < ((Q.length + P.length + 1 : Nat) : Int) := by omega
  have kn : k.toNat = Q.length := by omega
  simp only [g, bZ, aN, j, i1, i2, aA, kn]
  have i3 : mP ((Q ++ x :: ([] ++ y :: (P ++ R))).set Q.length y) ((Q.length + 1 + ([] : List Formula).length : Nat) : Int) = some y := by
   rw [FA]
   have := nL (Q ++ [y]) y (P ++ R) ((Q.length + 1 + ([] : List Formula).length : Nat) : Int) (by simp)
   simpa using this
  rw [i3, aA, dO, M5, Gm]
  have := Tz x P (Q ++ [y]) R n ((Q.length + 1 + ([] : List Formula).length : Nat) : Int) i (by omega) (by simp; omega) (by simp) (by rw [a]; simp; omega)
  simpa using this
theorem Uv (x : Formula) : ∀ (k : Nat) (S Q R : List Formula) (n : Nat) (j i : Int), S.length = k → k < n → (Q ++ (S ++ x :: R)).length ≤ 1000000 → j = ((Q.length + S.length : Nat) : Int) → i = (Q.length : Int) → nB i n (Q ++ (S ++ x :: R)) j = some (Q ++ x :: (S ++ R)) := by
 intro k
 induction k with
 | zero =>
  intro S Q R n j i hk m h a g
  obtain ⟨n, rfl⟩ := aT (by omega : n ≠ 0)
  obtain rfl := aU hk
  rw [nB]
  simp only [bV, jh] at a
  have : ¬ (j > i) := by omega
  simp [this]
 | succ k ih =>
  intro S Q R n j i hk m h a g
  obtain ⟨n, rfl⟩ := aT (by omega : n ≠ 0)
  rcases dI S with rfl | ⟨S, z, rfl⟩
  ·simp at hk
  simp only [eH, aF, aJ, bV] at hk a h ⊢
  have l : Q ++ (S ++ [z] ++ x :: R) = (Q ++ S) ++ z :: ([] ++ x :: R) := by simp
  have q : IntKind.i64.wrap (j - 1) = ((Q ++ S).length : Int) := oE _ (by simp; omega) (by simp; omega)
  have b : j = (((Q ++ S).length + 1 + ([] : List Formula).length : Nat) : Int) := by rw [a]; simp; omega
  have i1 : mP ((Q ++ S) ++ z :: ([] ++ x :: R)) j = some x := by
   have := nL (Q ++ S ++ [z]) x R j (by rw [b]; simp; omega)
   simpa using this
  have i2 : mP ((Q ++ S) ++ z :: ([] ++ x :: R)) ((Q ++ S).length : Int) = some z := nL _ _ _ _ rfl
  rw [nB, l]
  have d : j > i := by omega
  have p : j.toNat = (Q ++ S).length + 1 + ([] : List Formula).length := by omega
  simp only [d, bZ, aN, q, i1, i2, aA, p]
  have i3 : mP (((Q ++ S) ++ z :: ([] ++ x :: R)).set ((Q ++ S).length + 1 + ([] : List Formula).length) z) ((Q ++ S).length : Int) = some z := by
   have : ((Q ++ S) ++ z :: ([] ++ x :: R)).set ((Q ++ S).length + 1 + ([] : List Formula).length) z = (Q ++ S) ++ z :: (z :: R) := by
    have := KN (Q ++ S ++ [z]) R x z ((Q ++ S).length + 1 + ([] : List Formula).length) (by simp; omega)
    simpa using this
   rw [this]; exact nL _ _ _ _ rfl
  rw [i3, aA, dO, M5, NA]
  have := ih S Q (z :: R) n ((Q ++ S).length : Int) i (by omega) (by omega) (by simp; omega) (by simp) g
  simpa using this
end
end Go.Proofs.YtklbhegeiijbjaaGreat
namespace Go.Proofs.YtklbhegeiijbjaaGreat
open Go.RowKit
section
variable {c : Formula → Formula → Int} {G : Formula → Prop} {f : Formula × Formula → Option Int}
theorem TN (a0 : List Formula) (k a3 a2 : Int) (rec : List Formula → Int → Int → Int → ((Formula × Formula) → Option Int) → Option (List Formula)) (mid m p : Nat) (l : k + a3 = ((2 * mid : Nat) : Int) ∨ k + a3 = ((2 * mid + 1 : Nat) : Int)) (hm : a2 = (m : Int)) (hp : p + 1 = mid + m) (g : Nat → Bool) (lo a : Nat) (M : a ≤ 1000000) (P : mid ≤ 1000000) (O : mid + m ≤ 2000000) (hle : a ≤ p + 1) (D : ∀ h, lo ≤ h → h < a → Ask a0 f ((p - h : Nat) : Int) (h : Int) (!g h)) : ∀ (d n i j : Nat), j - i ≤ d → d < n → lo ≤ i → i ≤ j → j ≤ a → (i = lo ∨ g (i - 1) = true) → (j = a ∨ g j = false) →
  ∃ t R, lo ≤ t ∧ t ≤ a ∧ (t = lo ∨ g (t - 1) = true) ∧ (t = a ∨ g t = false) ∧ mo a0 k a3 a2 f rec n (i : Int) (j : Int) = mo a0 k a3 a2 f rec (R + 1) (t : Int) (t : Int) := by
 have b : IntKind.i64.wrap (Int.fdiv (IntKind.u64.wrap (IntKind.i64.wrap (k + a3))) (2 ^ min (Int.toNat 1) (IntKind.bits .u64))) = (mid : Int) := by
  rcases l with h | h
  ·rw [DK _ h (by omega), show 2 * mid / 2 = mid by omega]
  ·rw [DK _ h (by omega), show (2 * mid + 1) / 2 = mid by omega]
 intro d
 induction d with
 | zero =>
  intro n i j h1 Q s J u v w
  obtain ⟨n, rfl⟩ := aT (by omega : n ≠ 0)
  obtain rfl : i = j := by omega
  exact ⟨i, n, s, u, v, w, rfl⟩
 | succ d ih =>
  intro n i j h1 Q s J u v w
  obtain ⟨n, rfl⟩ := aT (by omega : n ≠ 0)
  by_cases z : i = j
  ·subst z; exact ⟨i, n, s, u, v, w, rfl⟩
  have L := DK (i + j) (x := (i : Int) + (j : Int)) (by omega) (by omega)
  obtain ⟨x, y, r, E, F, G, I⟩ := D ((i + j) / 2) (by omega) (by omega)
  have T : IntKind.i64.wrap ((mid : Int) + a2) = ((mid + m : Nat) : Int) := oE _ (by omega) (by omega)
  have U : IntKind.i64.wrap (((mid + m : Nat) : Int) - 1) = (p : Int) := oE _ (by omega) (by omega)
  have W : IntKind.i64.wrap ((p : Int) - (((i + j) / 2 : Nat) : Int)) = ((p - (i + j) / 2 : Nat) : Int) := oE _ (by omega) (by omega)
  rw [mo]
  have A : ((i : Int) < (j : Int)) := by omega
  simp only [A, bZ, aN, L, b, T, U, W, E, F, G, I, aA, jo]
  cases q : g ((i + j) / 2)
  ·simp only [aB, aG]
   exact ih n i ((i + j) / 2) (by omega) (by omega) s (by omega) (by omega) v (.inr q)
  ·simp only [aN]
   rw [oE ((i + j) / 2 + 1) (by omega) (by omega)]
   exact ih n ((i + j) / 2 + 1) j (by omega) (by omega) (by omega) (by omega) u (.inr (by simpa using q)) w
theorem Sz (a0 : List Formula) (b a3 a2 : Int) (rec : List Formula → Int → Int → Int → ((Formula × Formula) → Option Int) → Option (List Formula)) (mid m t n : Nat) (d : b + a3 = ((2 * mid : Nat) : Int) ∨ b + a3 = ((2 * mid + 1 : Nat) : Int)) (hm : a2 = (m : Int)) (s : mid ≤ 1000000) (r : mid + m ≤ 2000000) (y : t ≤ mid + m) :
  mo a0 b a3 a2 f rec (n + 1) (t : Int) (t : Int) =
   ((if t < m ∧ m < mid + m - t then nR a0 (t : Int) a2 ((mid + m - t : Nat) : Int) f else some a0).bind fun l => ((if b < (t : Int) ∧ t < mid then rec l b (t : Int) (mid : Int) f else some l).bind fun l => if mid < mid + m - t ∧ ((mid + m - t : Nat) : Int) < a3 then rec l (mid : Int) ((mid + m - t : Nat) : Int) a3 f else some l)) := by
 have a : IntKind.i64.wrap (Int.fdiv (IntKind.u64.wrap (IntKind.i64.wrap (b + a3))) (2 ^ min (Int.toNat 1) (IntKind.bits .u64))) = (mid : Int) := by
  rcases d with h | h
  ·rw [DK _ h (by omega), show 2 * mid / 2 = mid by omega]
  ·rw [DK _ h (by omega), show (2 * mid + 1) / 2 = mid by omega]
 have v : IntKind.i64.wrap ((mid : Int) + a2) = ((mid + m : Nat) : Int) := oE _ (by omega) (by omega)
 have w : IntKind.i64.wrap (((mid + m : Nat) : Int) - (t : Int)) = ((mid + m - t : Nat) : Int) := oE _ (by omega) (by omega)
 rw [mo]
 simp only [Int.lt_irrefl, cC, aB, aG, a, v, w, pW]
 subst hm
 have g : ((t : Int) < (m : Int)) = (t < m) := by simp
 have i : ((m : Int) < ((mid + m - t : Nat) : Int)) = (m < mid + m - t) := by rw [iZ]; omega
 have j : ((t : Int) < (mid : Int)) = (t < mid) := by simp
 have k : ((mid : Int) < ((mid + m - t : Nat) : Int)) = (mid < mid + m - t) := by rw [iZ]; omega
 simp only [g, i, j, k]
 have key : ∀ (p q : Prop) [Decidable p] [Decidable q] (A B : Option (List Formula)), ((if decide p = true then some (decide q) else some false : Option Bool).bind fun x => if x = true then A else B) = if p ∧ q then A else B := by
  intro p q _ _ A B
  by_cases hp : p <;> by_cases u : q <;> simp [hp, u]
 simp only [key]
theorem Ni (p A q : List Formula) (h : Nat) (b : p.length ≤ h) (h1 : h < p.length + A.length) : ∃ x, A[h - p.length]? = some x ∧ mP (p ++ (A ++ q)) (h : Int) = some x := by
 obtain ⟨x, a⟩ : ∃ x, A[h - p.length]? = some x := ⟨_, dB (by omega)⟩
 refine ⟨x, a, ?_⟩
 rw [FB, fX b, iN (by omega), a]
end
end Go.Proofs.YtklbhegeiijbjaaGreat
namespace Go.Proofs.YtklbhegeiijbjaaGreat
open Go.RowKit
section
variable {c : Formula → Formula → Int} {G : Formula → Prop} {f : Formula × Formula → Option Int}
theorem D8 {α : Type} {P A' : List α} {z : α} (S : List α) (h : P = A' ++ [z]) : (P ++ S)[P.length - 1]? = some z := by subst h; simp
theorem DT {α : Type} {S B' : List α} {z : α} (P : List α) (h : S = z :: B') : (P ++ S)[P.length]? = some z := by subst h; simp
theorem zk {A : List (Formula × Nat)} {i : Nat} {z : Formula × Nat} (h : A[i]? = some z) : (A.map (·.1))[i]? = some z.1 := by simp [h]
theorem Tl (h : SWO (oF c)) (Q : Dm f c G) (x : Formula × Nat) (B : List (Formula × Nat)) (pre post : List Formula) (a m b : Int) (I : pw (oF c) B) (U : ∀ y ∈ B, x.2 < y.2) (w : ∀ y ∈ x :: B, G y.1) (R : (pre ++ x.1 :: (B.map (·.1) ++ post)).length ≤ 400000) (ha : a = (pre.length : Int)) (hm : m = ((pre.length + 1 : Nat) : Int)) (O : b = ((pre.length + 1 + B.length : Nat) : Int)) :
  ∃ u, mF (pre ++ x.1 :: (B.map (·.1) ++ post)) a f lF m b = some (pre ++ (u.map (·.1) ++ post)) ∧ pw (oF c) u ∧ u.Perm (x :: B) := by
 have r := R
 simp only [aF, aJ, dD] at r
 let g : Nat → Bool := fun k => match (B.map (·.1))[k - (pre.length + 1)]? with | some y => oF c y x.1 | none => false
 have j : ∀ k, pre.length + 1 ≤ k → k < pre.length + 1 + B.length → Ask (pre ++ x.1 :: (B.map (·.1) ++ post)) f (k : Int) a (g k) := by
  intro k h1 Z
  obtain ⟨y, s, A⟩ := Ni (pre ++ [x.1]) (B.map (·.1)) post k (by simp; omega) (by simp; omega)
  have D : mP (pre ++ x.1 :: (B.map (·.1) ++ post)) (k : Int) = some y := by simpa using A
  have E : mP (pre ++ x.1 :: (B.map (·.1) ++ post)) a = some x.1 := nL _ _ _ _ ha
  have W : G y := by
   obtain ⟨q, T, rfl⟩ := bN.1 (dP s)
   exact w q (by simp [T])
  refine ⟨y, x.1, _, D, E, Q y x.1 W (w x (by simp)), ?_⟩
  simp only [aF, aJ, bV] at s
  simp only [g, s]
 obtain ⟨t, n', t1, t2, t3, t4, e⟩ := Uk (f := f) _ a g (pre.length + 1) (pre.length + 1 + B.length) (by omega) j B.length lF (pre.length + 1) (pre.length + 1 + B.length) (by omega) (by rw [nt]; omega) (aZ _) (by omega) (aZ _) (.inl rfl) (.inl rfl)
 rw [hm, O, e, mF]
 simp only [Int.lt_irrefl, cC, aB, aG, pW]
 obtain ⟨P, S, rfl, J⟩ := xA (l := B) (n := t - (pre.length + 1)) (by omega)
 simp only [aF] at r t2 t4
 have F : pre ++ x.1 :: ((P ++ S).map (·.1) ++ post) = pre ++ x.1 :: (P.map (·.1) ++ (S.map (·.1) ++ post)) := by simp
 rw [F, Tz x.1 (P.map (·.1)) pre (S.map (·.1) ++ post) lF a (t : Int) (by rw [nt]; simp; omega) (by simp; omega) ha (by simp; omega)]
 refine ⟨P ++ x :: S, by simp, Ij h I ?_ ?_, gO⟩
 ·intro A' z v B' i d
  simp only [bE] at d
  rw [← d.1]
  have L : 0 < P.length := by rw [i]; simp
  have hp : g (t - 1) = true := by
   rcases t3 with t3 | t3
   ·omega
   ·exact t3
  have p := zk (D8 S i)
  rw [show P.length - 1 = t - 1 - (pre.length + 1) by omega] at p
  simp only [g, p] at hp
  exact .inl hp
 ·intro A' z v B' i d
  have Y : z = x := by
   cases A' with
   | nil => simpa using i.symm
   | cons _ A' => simp at i
  rw [Y]
  have M : 0 < S.length := by rw [d]; simp
  have hp : g t = false := by
   rcases t4 with t4 | t4
   ·omega
   ·exact t4
  have p := zk (DT P d)
  rw [J] at p
  simp only [g, p] at hp
  exact .inr ⟨hp, U v (by rw [d]; simp)⟩
theorem Tw (h : SWO (oF c)) (M : Dm f c G) (y : Formula × Nat) (A : List (Formula × Nat)) (pre post : List Formula) (a m : Int) (F : pw (oF c) A) (R : ∀ x ∈ A, x.2 < y.2) (s : ∀ x ∈ y :: A, G x.1) (O : (pre ++ (A.map (·.1) ++ y.1 :: post)).length ≤ 400000) (ha : a = (pre.length : Int)) (hm : m = ((pre.length + A.length : Nat) : Int)) :
  ∃ u, mH (pre ++ (A.map (·.1) ++ y.1 :: post)) m f lF a m = some (pre ++ (u.map (·.1) ++ post)) ∧ pw (oF c) u ∧ u.Perm (A ++ [y]) := by
 have p := O
 simp only [aF, aJ, dD] at p
 let g : Nat → Bool := fun k => match (A.map (·.1))[k - pre.length]? with | some x => !oF c y.1 x | none => false
 have i : ∀ k, pre.length ≤ k → k < pre.length + A.length → Ask (pre ++ (A.map (·.1) ++ y.1 :: post)) f m (k : Int) (!g k) := by
  intro k h1 W
  obtain ⟨x, r, w⟩ := Ni pre (A.map (·.1)) (y.1 :: post) k h1 (by simp; omega)
  have D : mP (pre ++ (A.map (·.1) ++ y.1 :: post)) m = some y.1 := by
   have := nL (pre ++ A.map (·.1)) y.1 post m (by rw [hm]; simp)
   simpa using this
  have T : G x := by
   obtain ⟨q, Q, rfl⟩ := bN.1 (dP r)
   exact s q (by simp [Q])
  refine ⟨y.1, x, _, D, w, M y.1 x (s y (by simp)) T, ?_⟩
  simp only [g, r, jo]
 obtain ⟨t, Y, t1, t2, t3, t4, e⟩ := UC (f := f) _ m g pre.length (pre.length + A.length) (by omega) i A.length lF pre.length (pre.length + A.length) (by omega) (by rw [nt]; omega) (aZ _) (by omega) (aZ _) (.inl rfl) (.inl rfl)
 rw [← hm, ← ha] at e
 rw [e, mH]
 simp only [Int.lt_irrefl, cC, aB, aG, pW]
 obtain ⟨P, S, rfl, I⟩ := xA (l := A) (n := t - pre.length) (by omega)
 simp only [aF] at p t2 t4 hm
 have E : pre ++ ((P ++ S).map (·.1) ++ y.1 :: post) = (pre ++ P.map (·.1)) ++ (S.map (·.1) ++ y.1 :: post) := by simp
 rw [E, Uv y.1 S.length (S.map (·.1)) (pre ++ P.map (·.1)) post lF m (t : Int) (by simp) (by rw [nt]; omega) (by simp; omega) (by rw [hm]; simp; omega) (by simp; omega)]
 refine ⟨P ++ y :: S, by simp, Ij h F ?_ ?_, List.perm_middle.trans (iJ y (P ++ S)).symm⟩
 ·intro A' z v B' b d
  simp only [bE] at d
  rw [← d.1]
  have J : 0 < P.length := by rw [b]; simp
  have hp : g (t - 1) = true := by
   rcases t3 with t3 | t3
   ·omega
   ·exact t3
  have j := zk (D8 S b)
  rw [show P.length - 1 = t - 1 - pre.length by omega] at j
  simp only [g, j, iD] at hp
  exact .inr ⟨hp, R z (by rw [b]; simp)⟩
 ·intro A' z v B' b d
  have U : z = y := by
   cases A' with
   | nil => simpa using b.symm
   | cons _ A' => simp at b
  rw [U]
  have L : 0 < S.length := by rw [d]; simp
  have hp : g t = false := by
   rcases t4 with t4 | t4
   ·omega
   ·exact t4
  have j := zk (DT P d)
  rw [I] at j
  simp only [g, j, Bool.not_eq_false'] at hp
  exact .inl hp
theorem OR {α : Type} {A1 A2 B1 B2 C1 C2 : List α} (a : C1.Perm (A1 ++ B1)) (b : C2.Perm (A2 ++ B2)) : (C1 ++ C2).Perm ((A1 ++ A2) ++ (B1 ++ B2)) := by
 refine (a.append b).trans ?_
 simp only [aM]
 refine cJ A1 ?_
 exact iC B1 A2 B2
def Qf (c : Formula → Formula → Int) (A B : List Formula) (a b p q : Nat) : Bool := match A[q - a]?, B[p - q - b]? with | some x, some y => !oF c y x | _, _ => false
theorem JL {A B : List Formula} {a b p q : Nat} {x y : Formula} (h1 : A[q - a]? = some x) (d : B[p - q - b]? = some y) : Qf c A B a b p q = !oF c y x := by simp only [Qf, h1, d]
theorem T8 (l : Dm f c G) (A B : List (Formula × Nat)) (pre post : List Formula) (a p : Nat) (m : a = pre.length + A.length) (h : ∀ x ∈ A ++ B, G x.1) (q : Nat) (s : pre.length ≤ q) (t : q < a) (u : a ≤ p - q) (v : p - q < a + B.length) :
  Ask (pre ++ (A.map (·.1) ++ (B.map (·.1) ++ post))) f ((p - q : Nat) : Int) (q : Int) (!Qf c (A.map (·.1)) (B.map (·.1)) pre.length a p q) := by
 obtain ⟨x, g, i⟩ := Ni pre (A.map (·.1)) (B.map (·.1) ++ post) q s (by simp; omega)
 obtain ⟨y, b, j⟩ := Ni (pre ++ A.map (·.1)) (B.map (·.1)) post (p - q) (by simp; omega) (by simp; omega)
 have n : G x := by
  obtain ⟨z, d, rfl⟩ := bN.1 (dP g)
  exact h z (by simp [d])
 have r : G y := by
  obtain ⟨z, d, rfl⟩ := bN.1 (dP b)
  exact h z (by simp [d])
 have k : mP (pre ++ (A.map (·.1) ++ (B.map (·.1) ++ post))) ((p - q : Nat) : Int) = some y := by simpa using j
 refine ⟨y, x, _, k, i, l y x r n, ?_⟩
 rw [show p - q - (pre ++ A.map (·.1)).length = p - q - a by simp; omega] at b
 rw [JL g b, jo]
abbrev Um (c : Formula → Formula → Int) (G : Formula → Prop) (f : Formula × Formula → Option Int) (rec : List Formula → Int → Int → Int → ((Formula × Formula) → Option Int) → Option (List Formula)) (k : Nat) : Prop :=
 ∀ (A B : List (Formula × Nat)) (pre post : List Formula) (a m b : Int), A.length + B.length ≤ k → 0 < A.length → 0 < B.length → pw (oF c) A → pw (oF c) B →
  (∀ x ∈ A, ∀ y ∈ B, x.2 < y.2) → (∀ x ∈ A ++ B, G x.1) → (pre ++ (A.map (·.1) ++ (B.map (·.1) ++ post))).length ≤ 400000 → a = (pre.length : Int) → m = ((pre.length + A.length : Nat) : Int) → b = ((pre.length + A.length + B.length : Nat) : Int) →
  ∃ u, rec (pre ++ (A.map (·.1) ++ (B.map (·.1) ++ post))) a m b f = some (pre ++ (u.map (·.1) ++ post)) ∧ pw (oF c) u ∧ u.Perm (A ++ B)
theorem Sq (h : SWO (oF c)) {rec : List Formula → Int → Int → Int → ((Formula × Formula) → Option Int) → Option (List Formula)} {k : Nat} (ih : Um c G f rec k) (A1 A2 B1 B2 : List (Formula × Nat)) (pre post : List Formula) (a m b : Int) (mid d t : Nat) (M : d = pre.length + (A1.length + A2.length)) (P : mid = (pre.length + (d + (B1.length + B2.length))) / 2) (J : A1.length = t - pre.length) (L : B1.length = mid - t) (Q : pre.length ≤ t) (R : t ≤ mid) (T : t ≤ d) (hk : A1.length + A2.length + (B1.length + B2.length) ≤ k + 1) (O : 2 ≤ A1.length + A2.length + (B1.length + B2.length)) (p : pw (oF c) (A1 ++ A2)) (q : pw (oF c) (B1 ++ B2)) (I : ∀ x ∈ A1 ++ A2, ∀ y ∈ B1 ++ B2, x.2 < y.2) (F : ∀ x ∈ (A1 ++ A2) ++ (B1 ++ B2), G x.1) (hl : pre.length + (A1.length + A2.length + (B1.length + B2.length + post.length)) ≤ 400000) (ha : a = (pre.length : Int)) (hm : m = (d : Int)) (hb : b = ((d + (B1.length + B2.length) : Nat) : Int)) (U : Lk (oF c) A1 B2) (W : Lk (oF c) B1 A2) :
  ∃ u, ((if t < d ∧ d < mid + d - t then nR (pre ++ ((A1 ++ A2).map (·.1) ++ ((B1 ++ B2).map (·.1) ++ post))) (t : Int) m ((mid + d - t : Nat) : Int) f else some (pre ++ ((A1 ++ A2).map (·.1) ++ ((B1 ++ B2).map (·.1) ++ post)))).bind fun l =>
   ((if a < (t : Int) ∧ t < mid then rec l a (t : Int) (mid : Int) f else some l).bind fun l => if mid < mid + d - t ∧ ((mid + d - t : Nat) : Int) < b then rec l (mid : Int) ((mid + d - t : Nat) : Int) b f else some l)) = some (pre ++ (u.map (·.1) ++ post)) ∧ pw (oF c) u ∧ u.Perm ((A1 ++ A2) ++ (B1 ++ B2)) := by
 have Y : (if t < d ∧ d < mid + d - t then nR (pre ++ ((A1 ++ A2).map (·.1) ++ ((B1 ++ B2).map (·.1) ++ post))) (t : Int) m ((mid + d - t : Nat) : Int) f else some (pre ++ ((A1 ++ A2).map (·.1) ++ ((B1 ++ B2).map (·.1) ++ post)))) =
   some (pre ++ (A1.map (·.1) ++ (B1.map (·.1) ++ (A2.map (·.1) ++ (B2.map (·.1) ++ post))))) := by
  by_cases i : t < d ∧ d < mid + d - t
  ·rw [aX i]
   have := Uu (f := f) (A2.map (·.1)) (B1.map (·.1)) (pre ++ A1.map (·.1)) (B2.map (·.1) ++ post) (t : Int) m ((mid + d - t : Nat) : Int) (by simp; omega) (by simp; omega) (by simp; omega) (by simp; omega) (by simp; omega) (by simp; omega)
   simpa using this
  ·rw [bB i]
   have : A2 = [] ∨ B1 = [] := by
    by_cases h1 : A2.length = 0
    ·exact .inl (aU h1)
    ·exact .inr (aU (by omega))
   rcases this with rfl | rfl <;> simp
 rw [Y, aA]
 have Z : ∃ C1, (if a < (t : Int) ∧ t < mid then rec (pre ++ (A1.map (·.1) ++ (B1.map (·.1) ++ (A2.map (·.1) ++ (B2.map (·.1) ++ post))))) a (t : Int) (mid : Int) f else some (pre ++ (A1.map (·.1) ++ (B1.map (·.1) ++ (A2.map (·.1) ++ (B2.map (·.1) ++ post)))))) =
   some (pre ++ (C1.map (·.1) ++ (A2.map (·.1) ++ (B2.map (·.1) ++ post)))) ∧ pw (oF c) C1 ∧ C1.Perm (A1 ++ B1) := by
  by_cases i : a < (t : Int) ∧ t < mid
  ·rw [aX i]
   exact ih A1 B1 pre (A2.map (·.1) ++ (B2.map (·.1) ++ post)) a t mid (by omega) (by omega) (by omega) p.left q.left (fun x g y A => I x (by simp [g]) y (by simp [A])) (fun x g => F x (by simp at g ⊢; rcases g with g | g <;> simp [g]))
    (by simp; omega) ha (by omega) (by omega)
  ·rw [bB i]
   refine ⟨A1 ++ B1, by simp, JN h p.left q.left (fun A' x y B' D E => ?_), .refl _⟩
   have g1 : 0 < A1.length := by rw [D]; simp
   have g2 : 0 < B1.length := by rw [E]; simp
   omega
 obtain ⟨C1, r, v, j⟩ := Z
 have s := j.length_eq
 simp only [aF] at s
 rw [r, aA]
 have r3 : ∃ C2, (if mid < mid + d - t ∧ ((mid + d - t : Nat) : Int) < b then rec (pre ++ (C1.map (·.1) ++ (A2.map (·.1) ++ (B2.map (·.1) ++ post)))) (mid : Int) ((mid + d - t : Nat) : Int) b f else some (pre ++ (C1.map (·.1) ++ (A2.map (·.1) ++ (B2.map (·.1) ++ post))))) =
   some ((pre ++ C1.map (·.1)) ++ (C2.map (·.1) ++ post)) ∧ pw (oF c) C2 ∧ C2.Perm (A2 ++ B2) := by
  by_cases i : mid < mid + d - t ∧ ((mid + d - t : Nat) : Int) < b
  ·rw [aX i]
   have := ih A2 B2 (pre ++ C1.map (·.1)) post mid ((mid + d - t : Nat) : Int) b (by omega) (by omega) (by omega) p.right q.right (fun x g y A => I x (by simp [g]) y (by simp [A])) (fun x g => F x (by simp at g ⊢; rcases g with g | g <;> simp [g]))
    (by simp; omega) (by simp; omega) (by simp; omega) (by simp; omega)
   simpa using this
  ·rw [bB i]
   refine ⟨A2 ++ B2, by simp, JN h p.right q.right (fun A' x y B' D E => ?_), .refl _⟩
   have g1 : 0 < A2.length := by rw [D]; simp
   have g2 : 0 < B2.length := by rw [E]; simp
   omega
 obtain ⟨C2, w, z, n⟩ := r3
 rw [w]
 exact ⟨C1 ++ C2, by simp, Rc h p q U W j n v z, OR j n⟩
theorem O5 (F : Nat) (I : 1000000 < F) (L : List Formula) (rec : List Formula → Int → Int → Int → ((Formula × Formula) → Option Int) → Option (List Formula)) (pl g h mid d p : Nat) (a b m : Int) (r : Nat → Bool) (w : 0 < g) (y : 0 < h) (D : pl + (g + h) ≤ 400000) (A : mid = (pl + (pl + g + h)) / 2) (z : d = pl + g) (hp : p + 1 = mid + d) (l : a + b = ((2 * mid : Nat) : Int) ∨ a + b = ((2 * mid + 1 : Nat) : Int)) (ha : a = (pl : Int)) (k : m = (d : Int)) (J : b = ((pl + g + h : Nat) : Int)) (i : ∀ q, pl ≤ q → q < d → d ≤ p - q → p - q < d + h → Ask L f ((p - q : Nat) : Int) (q : Int) (!r q)) :
  ∃ t n lo s : Nat, (lo = pl ∧ s = d ∧ d ≤ mid ∨ lo + (pl + g + h) = mid + d ∧ s = mid ∧ mid < d) ∧ lo ≤ t ∧ t ≤ s ∧ (t = lo ∨ r (t - 1) = true) ∧ (t = s ∨ r t = false) ∧
    ((if decide (m > (mid : Int)) then some (IntKind.i64.wrap (((mid + d : Nat) : Int) - b), (mid : Int)) else some (a, m) : Option (Int × Int)).bind fun x => mo L a b m f rec F x.1 x.2) =
     mo L a b m f rec (n + 1) (t : Int) (t : Int) := by
 by_cases v : mid < d
 ·obtain ⟨lo, u⟩ : ∃ lo : Nat, lo + (pl + g + h) = mid + d := ⟨mid + d - (pl + g + h), by omega⟩
  obtain ⟨t, n, t1, t2, t3, t4, e⟩ := TN (f := f) L a b m rec mid d p l k hp r lo mid (by omega) (by omega) (by omega) (by omega) (fun q E G => i q (by omega) (by omega) (by omega) (by omega))
   (mid - lo) F lo mid (aZ _) (by omega) (aZ _) (by omega) (aZ _) (.inl rfl) (.inl rfl)
  refine ⟨t, n, lo, mid, .inr ⟨u, rfl, v⟩, t1, t2, t3, t4, ?_⟩
  have j : m > (mid : Int) := by omega
  simp only [j, bZ, aN, aA]
  rw [oE lo (by omega) (by omega), e]
 ·obtain ⟨t, n, t1, t2, t3, t4, e⟩ := TN (f := f) L a b m rec mid d p l k hp r pl d (by omega) (by omega) (by omega) (by omega) (fun q E G => i q (by omega) (by omega) (by omega) (by omega))
   (d - pl) F pl d (aZ _) (by omega) (aZ _) (by omega) (aZ _) (.inl rfl) (.inl rfl)
  refine ⟨t, n, pl, d, .inl ⟨rfl, rfl, by omega⟩, t1, t2, t3, t4, ?_⟩
  have j : ¬ (m > (mid : Int)) := by omega
  simp only [j, cC, aB, aG, aA]
  rw [← e, ← ha, ← k]
set_option maxHeartbeats 2000000 in
theorem Ub (h : SWO (oF c)) (hf : Dm f c G) : ∀ (k : Nat) (A B : List (Formula × Nat)) (pre post : List Formula) (n : Nat) (a m b : Int), A.length + B.length ≤ k → 0 < A.length → 0 < B.length → k < n → pw (oF c) A → pw (oF c) B →
  (∀ x ∈ A, ∀ y ∈ B, x.2 < y.2) → (∀ x ∈ A ++ B, G x.1) → (pre ++ (A.map (·.1) ++ (B.map (·.1) ++ post))).length ≤ 400000 → a = (pre.length : Int) → m = ((pre.length + A.length : Nat) : Int) → b = ((pre.length + A.length + B.length : Nat) : Int) →
  ∃ u, mQ n (pre ++ (A.map (·.1) ++ (B.map (·.1) ++ post))) a m b f = some (pre ++ (u.map (·.1) ++ post)) ∧ pw (oF c) u ∧ u.Perm (A ++ B) := by
 intro k
 induction k with
 | zero => intro A B pre post n a m b h0 h1 h2; omega
 | succ k ih =>
  intro A B pre post n a m b h0 h1 h2 hn hA hB U T hl ha hm O
  obtain ⟨n, rfl⟩ := aT (by omega : n ≠ 0)
  have P := hl
  simp only [aF, dD] at P
  rw [mQ]
  unfold pY
  by_cases c1 : A.length = 1
  ·obtain ⟨x, rfl⟩ := List.length_eq_one_iff.1 c1
   have : (IntKind.i64.wrap (m - a) == 1) = true := by rw [oE 1 (by simp at hm; omega) (by omega)]; rfl
   simp only [this, aN]
   obtain ⟨u, u1, u2, u3⟩ := Tl h hf x B pre post a m b hB (fun y hy => U x (by simp) y hy) (fun y hy => T y (by simpa using hy)) (by simpa using hl) ha (by simpa using hm) (by simpa using O)
   exact ⟨u, by simpa using u1, u2, by simpa using u3⟩
  have n1 : (IntKind.i64.wrap (m - a) == 1) = false := by rw [oE A.length (by omega) (by omega)]; simp; omega
  simp only [n1, aB, aG]
  by_cases c2 : B.length = 1
  ·obtain ⟨y, rfl⟩ := List.length_eq_one_iff.1 c2
   have : (IntKind.i64.wrap (b - m) == 1) = true := by rw [oE 1 (by simp at O; omega) (by omega)]; rfl
   simp only [this, aN]
   obtain ⟨u, u1, u2, u3⟩ := Tw h hf y A pre post a m hA (fun x W => U x W y (by simp)) (fun x W => T x (by simp at W ⊢; exact W.symm)) (by simpa using hl) ha hm
   exact ⟨u, by simpa using u1, u2, u3⟩
  have n2 : (IntKind.i64.wrap (b - m) == 1) = false := by rw [oE B.length (by omega) (by omega)]; simp; omega
  simp only [n2, aB, aG]
  obtain ⟨F, hF, Z⟩ : ∃ F, F = lF ∧ 1000000 < F := ⟨lF, rfl, by rw [nt]; omega⟩
  rw [← hF]
  obtain ⟨mid, E⟩ : ∃ mid : Nat, mid = (pre.length + (pre.length + A.length + B.length)) / 2 := ⟨_, rfl⟩
  obtain ⟨d, j⟩ : ∃ d : Nat, d = pre.length + A.length := ⟨_, rfl⟩
  obtain ⟨p, hp⟩ : ∃ p : Nat, p + 1 = mid + d := ⟨mid + d - 1, by omega⟩
  have w : a + b = ((2 * mid : Nat) : Int) ∨ a + b = ((2 * mid + 1 : Nat) : Int) := by omega
  have I : IntKind.i64.wrap (Int.fdiv (IntKind.u64.wrap (IntKind.i64.wrap (a + b))) (2 ^ min (Int.toNat 1) (IntKind.bits .u64))) = (mid : Int) := by
   rcases w with h | h
   ·rw [DK _ h (by omega), show 2 * mid / 2 = mid by omega]
   ·rw [DK _ h (by omega), show (2 * mid + 1) / 2 = mid by omega]
  have D : m = (d : Int) := by omega
  have w1 : IntKind.i64.wrap ((mid : Int) + m) = ((mid + d : Nat) : Int) := oE _ (by omega) (by omega)
  obtain ⟨J, r⟩ : ∃ J : Nat → Bool, J = Qf c (A.map (·.1)) (B.map (·.1)) pre.length d p := ⟨_, rfl⟩
  have M : ∀ q, pre.length ≤ q → q < d → d ≤ p - q → p - q < d + B.length → Ask (pre ++ (A.map (·.1) ++ (B.map (·.1) ++ post))) f ((p - q : Nat) : Int) (q : Int) (!J q) := fun q g i q3 q4 => by rw [r]; exact T8 hf A B pre post d p j T q g i q3 q4
  obtain ⟨t, n', lo, hi, a1, t1, t2, t3, t4, e⟩ := O5 (f := f) F Z (pre ++ (A.map (·.1) ++ (B.map (·.1) ++ post))) (mQ n) pre.length A.length B.length mid d p a b m J (by omega) (by omega) (by omega) E j hp w ha D O M
  simp only [I, w1]
  rw [e, Sz (f := f) _ a b m _ mid d t n' w D (by omega) (by omega) (by omega)]
  obtain ⟨A1, A2, rfl, L⟩ := xA (l := A) (n := t - pre.length) (by omega)
  obtain ⟨B1, B2, rfl, Y⟩ := xA (l := B) (n := mid - t) (by omega)
  simp only [aF] at h0 h1 h2 P t1 t2 t3 t4 a1 hm O j E
  have Q : ∀ q x y, ((A1 ++ A2).map (·.1))[q - pre.length]? = some x → ((B1 ++ B2).map (·.1))[p - q - d]? = some y → J q = !oF c y x := fun q x y s v => by rw [r]; exact JL s v
  have l1 : Lk (oF c) A1 B2 := by
   intro A' z b' B' g i
   have g1 : 0 < A1.length := by rw [g]; simp
   have g2 : 0 < B2.length := by rw [i]; simp
   have R : J (t - 1) = true := by
    rcases t3 with t3 | t3
    ·omega
    ·exact t3
   have s := zk (D8 A2 g)
   have v := zk (DT B1 i)
   rw [show A1.length - 1 = t - 1 - pre.length by omega] at s
   rw [show B1.length = p - (t - 1) - d by omega] at v
   rw [Q _ _ _ s v, iD] at R
   exact .inr ⟨R, U z (by rw [g]; simp) b' (by rw [i]; simp)⟩
  have l2 : Lk (oF c) B1 A2 := by
   intro A' z b' B' g i
   have g1 : 0 < B1.length := by rw [g]; simp
   have g2 : 0 < A2.length := by rw [i]; simp
   have R : J t = false := by
    rcases t4 with t4 | t4
    ·omega
    ·exact t4
   have s := zk (D8 B2 g)
   have v := zk (DT A1 i)
   rw [show B1.length - 1 = p - t - d by omega] at s
   rw [L] at v
   rw [Q _ _ _ v s, Bool.not_eq_false'] at R
   exact .inl R
  exact Sq h (fun A B pre post a m b g i q3 => ih A B pre post n a m b g i q3 (by omega)) A1 A2 B1 B2 pre post a m b mid d t j (by rw [E]; congr 1; omega) L Y (by omega) (by omega) (by omega) (by omega) (by omega) hA hB U T (by omega) ha D (by rw [O]; congr 1; omega) l1 l2
end
end Go.Proofs.YtklbhegeiijbjaaGreat
namespace Go.Proofs.YtklbhegeiijbjaaGreat
open Go.RowKit
section
variable {c : Formula → Formula → Int} {G : Formula → Prop} {f : Formula × Formula → Option Int}
def yt (c : Formula → Formula → Int) : Nat → List (List (Formula × Nat)) → Prop
 | _, [] => True
 | o, A :: bs => pw (oF c) A ∧ (∀ x ∈ A, o ≤ x.2 ∧ x.2 < o + A.length) ∧ yt c (o + A.length) bs
def WB (s : Nat) : List (List (Formula × Nat)) → Prop
 | [] => True
 | A :: bs => A.length ≤ s ∧ (bs ≠ [] → A.length = s) ∧ WB s bs
theorem yt.append : ∀ {ds bs : List (List (Formula × Nat))} {o : Nat}, yt c o (ds ++ bs) ↔ yt c o ds ∧ yt c (o + ds.flatten.length) bs
 | [], bs, o => by simp [yt]
 | A :: ds, bs, o => by
  simp only [bY, yt, yt.append (ds := ds), bR, aF, and_assoc, fI]
def fm (bs : List (List (Formula × Nat))) : List Formula := bs.flatten.map (·.1)
theorem IZ (a b : List (List (Formula × Nat))) : fm (a ++ b) = fm a ++ fm b := by simp [fm]
theorem LV (A : List (Formula × Nat)) (b : List (List (Formula × Nat))) : fm (A :: b) = A.map (·.1) ++ fm b := by simp [fm]
theorem su (a : List (List (Formula × Nat))) : (fm a).length = a.flatten.length := by unfold fm; rw [dD]
theorem OG (ds : List (List (Formula × Nat))) (C : List (Formula × Nat)) : (ds ++ [C]).flatten.length = ds.flatten.length + C.length := by rw [cT, aF]; simp only [bR, dL, bG]
theorem Sf (C : List (Formula × Nat)) (bs : List (List (Formula × Nat))) : fm ([C] ++ bs) = C.map (·.1) ++ fm bs := by simp [fm]
theorem FN {R : List Formula} {o : Nat} {x : Formula × Nat} (h : x ∈ R.zipIdx o) : x.1 ∈ R := List.fst_mem_of_mem_zipIdx h
theorem WB.two {s : Nat} {A : List (Formula × Nat)} {bs : List (List (Formula × Nat))} (g : 0 < s) (h : WB s (A :: bs)) (d : s < (A :: bs).flatten.length) : A.length = s ∧ ∃ B a, bs = B :: a ∧ (B.length = s ∨ a = []) ∧ B.length ≤ s ∧ WB s a := by
 cases bs with
 | nil => simp at d; have := h.1; omega
 | cons B a =>
  refine ⟨h.2.1 (by simp), B, a, rfl, ?_, h.2.2.1, h.2.2.2.2⟩
  by_cases b : a = []
  ·exact .inr b
  ·exact .inl (h.2.2.2.1 b)
theorem KA (h : SWO (oF c)) (u : Dm f c G) {ds bs : List (List (Formula × Nat))} {A B : List (Formula × Nat)} (hO : yt c 0 (ds ++ A :: B :: bs)) (s : ∀ x ∈ (ds ++ A :: B :: bs).flatten, G x.1) (i : (fm (ds ++ A :: B :: bs)).length ≤ 400000) (q : 0 < A.length) (r : 0 < B.length) (a m b : Int) (ha : a = (ds.flatten.length : Int)) (hm : m = ((ds.flatten.length + A.length : Nat) : Int)) (t : b = ((ds.flatten.length + A.length + B.length : Nat) : Int)) :
  ∃ C, mQ lF (fm (ds ++ A :: B :: bs)) a m b f = some (fm ((ds ++ [C]) ++ bs)) ∧ yt c 0 ((ds ++ [C]) ++ bs) ∧ C.Perm (A ++ B) := by
 obtain ⟨h1, p⟩ := yt.append.1 hO
 obtain ⟨E, l, F, n, v⟩ := p
 have e : fm (ds ++ A :: B :: bs) = fm ds ++ (A.map (·.1) ++ (B.map (·.1) ++ fm bs)) := by rw [IZ, LV, LV]
 rw [e] at i ⊢
 have j := i
 simp only [aF, dD, su] at j
 obtain ⟨C, z, D, k⟩ := Ub h u (A.length + B.length) A B (fm ds) (fm bs) lF a m b (aZ _) q r (by rw [nt]; omega) E F (fun x d y w => by have := (l x d).2; have := (n y w).1; omega)
  (fun x d => s x (by
   rw [cT, bR, bR, aW, aW, aW]
   rcases aW.1 d with d | d
   ·exact .inr (.inl d)
   ·exact .inr (.inr (.inl d)))) i (by rw [ha, su]) (by rw [hm, su]) (by rw [t, su])
 have g := k.length_eq
 simp only [aF] at g
 refine ⟨C, by rw [z, aM, IZ, Sf], ?_, k⟩
 ·rw [aM, yt.append]
  refine ⟨h1, D, fun x d => ?_, ?_⟩
  ·rcases aW.1 (k.mem_iff.1 d) with d | d
   ·have := l x d; omega
   ·have := n x d; omega
  ·rw [g, ← fI]; exact v
theorem JY {ds bs : List (List (Formula × Nat))} {A B C : List (Formula × Nat)} (h : C.Perm (A ++ B)) : ((ds ++ [C]) ++ bs).flatten.Perm (ds ++ A :: B :: bs).flatten := by
 simp only [cT, bR, dL, bG, aM]
 refine cJ _ ?_
 rw [← aM]
 exact h.append_right _
theorem QE (h : SWO (oF c)) (O : Dm f c G) (s : Nat) (Q : 0 < s) (R : s ≤ 1000000) (N : Nat) (hN : N ≤ 400000) : ∀ (k : Nat) (bs ds : List (List (Formula × Nat))) (n : Nat) (a b : Int), bs.length ≤ k → k < n → yt c 0 (ds ++ bs) → (∀ x ∈ (ds ++ bs).flatten, G x.1) → (ds ++ bs).flatten.length = N → WB s bs → (∀ A ∈ ds, A.length = 2 * s) →
  a = (ds.flatten.length : Int) → b = ((ds.flatten.length + 2 * s : Nat) : Int) →
  ∃ es r, nF (N : Int) (s : Int) f n (fm (ds ++ bs)) a b = some (fm (es ++ r), (es.flatten.length : Int)) ∧ yt c 0 (es ++ r) ∧ (es ++ r).flatten.Perm (ds ++ bs).flatten ∧ WB s r ∧ r.flatten.length < 2 * s ∧ (∀ A ∈ es, A.length = 2 * s) := by
 intro k
 induction k with
 | zero =>
  intro bs ds n a b hk P hO q j t l ha L
  obtain ⟨n, rfl⟩ := aT (by omega : n ≠ 0)
  obtain rfl := aU (Nat.le_zero.1 hk)
  simp only [bG] at j
  rw [nF]
  have : ¬ (b ≤ (N : Int)) := by omega
  simp only [this, cC, aB, aG]
  exact ⟨ds, [], by rw [ha], hO, .refl _, trivial, by simp only [dL, bV]; omega, l⟩
 | succ k ih =>
  intro bs ds n a b hk P hO q j t l ha L
  obtain ⟨n, rfl⟩ := aT (by omega : n ≠ 0)
  rw [nF]
  by_cases hle : b ≤ (N : Int)
  ·simp only [hle, bZ, aN]
   have d := j
   rw [cT, aF] at d
   cases bs with
   | nil => simp only [dL, bV] at d; omega
   | cons A bs =>
    obtain ⟨hA, B, i, rfl, m, I, u⟩ := WB.two Q t (by omega)
    have J : B.length = s := by
     rcases m with m | rfl
     ·exact m
     ·simp only [bR, dL, bG, aF] at d; omega
    have Y : IntKind.i64.wrap (a + (s : Int)) = ((ds.flatten.length + A.length : Nat) : Int) := oE _ (by omega) (by omega)
    obtain ⟨C, U, W, v⟩ := KA h O hO q (by rw [su]; omega) (by omega) (by omega) a _ b ha Y (by omega)
    rw [U, aA]
    have p := v.length_eq
    simp only [aF] at p
    have Z : IntKind.i64.wrap (2 * (s : Int)) = ((2 * s : Nat) : Int) := oE _ (by omega) (by omega)
    have M : (ds ++ [C]).flatten.length = ds.flatten.length + 2 * s := by rw [OG]; omega
    have w3 : IntKind.i64.wrap (b + ((2 * s : Nat) : Int)) = (((ds ++ [C]).flatten.length + 2 * s : Nat) : Int) := oE _ (by omega) (by omega)
    have hp := JY (ds := ds) (bs := i) v
    rw [Z, w3]
    obtain ⟨es, r, w, y, z, D, E, F⟩ := ih i (ds ++ [C]) n b _ (by simp at hk; omega) (by omega) W (fun x T => q x (hp.mem_iff.1 T)) (by rw [hp.length_eq, j]) u (fun X g => by
     rcases aW.1 g with g | g
     ·exact l X g
     ·simp at g; rw [g]; omega) (by rw [M]; omega) rfl
    exact ⟨es, r, w, y, z.trans hp, D, E, F⟩
  ·simp only [hle, cC, aB, aG]
   refine ⟨ds, bs, by rw [ha], hO, .refl _, t, ?_, l⟩
   rw [cT, aF] at j
   omega
theorem WB.Hu {t : Nat} : ∀ {es : List (List (Formula × Nat))} {C : List (Formula × Nat)}, (∀ A ∈ es, A.length = t) → C.length ≤ t → WB t (es ++ [C])
 | [], C, _, a => ⟨a, fun h => absurd rfl h, trivial⟩
 | E :: es, C, h, a => ⟨by rw [h E (by simp)]; omega, fun _ => h E (by simp), WB.Hu (fun A b => h A (by simp [b])) a⟩
theorem Nu {s : Nat} {r : List (List (Formula × Nat))} {o : Nat} (b : WB s r) (d : r.flatten.length ≤ s) (hO : yt c o r) : pw (oF c) r.flatten ∧ ∀ x ∈ r.flatten, o ≤ x.2 ∧ x.2 < o + r.flatten.length := by
 cases r with
 | nil => exact ⟨.nil, fun x g => by cases g⟩
 | cons A r =>
  have : r.flatten = [] := by
   by_cases a : r = []
   ·rw [a]; rfl
   ·have := b.2.1 a
    rw [bR, aF] at d
    exact aU (by omega)
  rw [bR, this, bG]
  exact ⟨hO.1, hO.2.1⟩
theorem Pm (h : SWO (oF c)) (R : Dm f c G) (N : Nat) (hN : N ≤ 400000) : ∀ (k s : Nat) (bs : List (List (Formula × Nat))) (n : Nat), N - s ≤ k → k < n → 0 < s → s ≤ 1000000 → yt c 0 bs → (∀ x ∈ bs.flatten, G x.1) → bs.flatten.length = N → WB s bs →
  ∃ u, nr (N : Int) f n (fm bs) (s : Int) = some (u.map (·.1)) ∧ pw (oF c) u ∧ u.Perm bs.flatten := by
 intro k
 induction k with
 | zero =>
  intro s bs n hk hn E m hO l i b
  obtain ⟨n, rfl⟩ := aT (by omega : n ≠ 0)
  rw [nr]
  have : ¬ ((s : Int) < (N : Int)) := by omega
  simp only [this, cC, aB, aG]
  refine ⟨bs.flatten, rfl, ?_, .refl _⟩
  cases bs with
  | nil => exact .nil
  | cons A bs =>
   have : bs.flatten = [] := by
    by_cases d : bs = []
    ·rw [d]; rfl
    ·have := b.2.1 d
     rw [bR, aF] at i
     exact aU (by omega)
   rw [bR, this, bG]
   exact hO.1
 | succ k ih =>
  intro s bs n hk hn E m hO l i b
  by_cases a8 : s < N
  ·obtain ⟨n, rfl⟩ := aT (by omega : n ≠ 0)
   rw [nr]
   have : ((s : Int) < (N : Int)) := by omega
   simp only [this, bZ, aN]
   have w1 : IntKind.i64.wrap (2 * (s : Int)) = ((2 * s : Nat) : Int) := oE _ (by omega) (by omega)
   have w0 : IntKind.i64.wrap ((s : Int) * 2) = ((2 * s : Nat) : Int) := oE _ (by omega) (by omega)
   have a7 : bs.length ≤ 2000000 := by
    have : ∀ {bs : List (List (Formula × Nat))}, WB s bs → bs.length ≤ bs.flatten.length + 1 := by
     intro bs
     induction bs with
     | nil => intro _; simp
     | cons A bs F =>
      intro b
      by_cases d : bs = []
      ·subst d; simp
      ·have := b.2.1 d
       have := F b.2.2
       simp only [aJ, bR, aF]
       omega
    have := this b
    omega
   obtain ⟨es, r, L, M, a, O, P, Q⟩ := QE h R s E m N hN bs.length bs [] lF 0 ((2 * s : Nat) : Int) (aZ _) (by rw [nt]; omega) (by simpa using hO) (by simpa using l) (by simpa using i) b (by simp) rfl (by simp)
   simp only [bD] at L a
   rw [w1, L, aA, w0]
   have j := a.length_eq
   rw [i, cT, aF] at j
   have w2 : IntKind.i64.wrap ((es.flatten.length : Int) + (s : Int)) = ((es.flatten.length + s : Nat) : Int) := oE _ (by omega) (by omega)
   simp only [w2]
   by_cases hm : es.flatten.length + s < N
   ·have : (((es.flatten.length + s : Nat) : Int) < (N : Int)) := by omega
    simp only [this, bZ, aN, pW]
    cases r with
    | nil => simp only [dL, bV] at j; omega
    | cons A r =>
     obtain ⟨hA, B, W, rfl, q, a1, a6⟩ := WB.two E O (by omega)
     have D : W = [] := by
      rcases q with q | q
      ·by_cases hr : W = []
       ·exact hr
       ·simp only [bR, aF] at P; omega
      ·exact q
     subst D
     simp only [bR, dL, bG, aF] at j P
     obtain ⟨C, q1, T, U⟩ := KA h R M (fun x p => l x (a.mem_iff.1 p)) (by rw [su, a.length_eq]; omega) (by omega) (by omega) (es.flatten.length : Int) ((es.flatten.length + s : Nat) : Int) (N : Int) rfl (by omega) (by omega)
     rw [q1, aA]
     have v := U.length_eq
     simp only [aF] at v
     have hp := (JY (ds := es) (bs := []) U).trans a
     simp only [bG] at T hp ⊢
     obtain ⟨u, I, J, t⟩ := ih (2 * s) (es ++ [C]) n (by omega) (by omega) (by omega) (by omega) T (fun x p => l x (hp.mem_iff.1 p)) (by rw [hp.length_eq, i]) (WB.Hu Q (by omega))
     exact ⟨u, I, J, t.trans hp⟩
   ·have : ¬ (((es.flatten.length + s : Nat) : Int) < (N : Int)) := by omega
    simp only [this, cC, aB, aG, aA]
    obtain ⟨w, y⟩ := yt.append.1 M
    obtain ⟨Y, Z⟩ := Nu O (by omega) y
    have z : fm (es ++ r) = fm (es ++ [r.flatten]) := by simp [fm]
    have g : (es ++ [r.flatten]).flatten = (es ++ r).flatten := by simp
    rw [z]
    obtain ⟨u, I, J, t⟩ := ih (2 * s) (es ++ [r.flatten]) n (by omega) (by omega) (by omega) (by omega) (yt.append.2 ⟨w, Y, Z, trivial⟩) (fun x p => l x (a.mem_iff.1 (by rw [← g]; exact p))) (by rw [g, a.length_eq, i]) (WB.Hu Q (by omega))
    exact ⟨u, I, J, by rw [g] at t; exact t.trans a⟩
  ·obtain ⟨n, rfl⟩ := aT (by omega : n ≠ 0)
   rw [nr]
   have : ¬ ((s : Int) < (N : Int)) := by omega
   simp only [this, cC, aB, aG]
   refine ⟨bs.flatten, rfl, ?_, .refl _⟩
   cases bs with
   | nil => exact .nil
   | cons A bs =>
    have : bs.flatten = [] := by
     by_cases d : bs = []
     ·rw [d]; rfl
     ·have := b.2.1 d
      rw [bR, aF] at i
      exact aU (by omega)
    rw [bR, this, bG]
    exact hO.1
theorem Ir : ∀ (l : List Formula) (o : Nat), (l.zipIdx o).Pairwise (fun x y => x.2 < y.2)
 | [], o => by simp
 | x :: l, o => by
  rw [ke, cN]
  refine ⟨fun y d => ?_, Ir l (o + 1)⟩
  obtain ⟨a, b⟩ := y
  have := List.le_snd_of_mem_zipIdx d
  simp only at this ⊢; omega
theorem LG (l : List Formula) (o : Nat) : ∀ x ∈ l.zipIdx o, o ≤ x.2 ∧ x.2 < o + l.length := by
 rintro ⟨a, b⟩ d
 have h1 := List.le_snd_of_mem_zipIdx d
 have g := List.snd_lt_add_of_mem_zipIdx d
 simp only at h1 g ⊢; omega
theorem NP (h : SWO (oF c)) (k : Dm f c G) (N : Nat) (s : N ≤ 300000) (R : List Formula) (ds : List (List (Formula × Nat))) (n : Nat) (a b : Int) (y : 0 < n) (hO : yt c 0 ds) (m : ∀ A ∈ ds, A.length = 20) (p : ∀ x ∈ ds.flatten, G x.1) (j : ∀ x ∈ R, G x) (w : ds.flatten.length + R.length = N) (q : R.length < 20) (ha : a = (ds.flatten.length : Int)) (t : b = ((ds.flatten.length + 20 : Nat) : Int)) :
  ∃ u, ns (N : Int) f n (fm ds ++ R) a b = some (u.map (·.1)) ∧ pw (oF c) u ∧ u.Perm (ds.flatten ++ R.zipIdx ds.flatten.length) := by
 obtain ⟨n, rfl⟩ := aT (by omega : n ≠ 0)
 rw [ns]
 have hle : ¬ (b ≤ (N : Int)) := by omega
 simp only [hle, cC, aB, aG, pW]
 obtain ⟨u, l, r, g⟩ := Me h k (fm ds) [] (R.zipIdx ds.flatten.length) a (N : Int) (Ir _ _) (fun x d => j x.1 (FN d)) (by simp only [aF, su, dD, fH, bV]; omega) (by rw [su]; exact ha) (by rw [su, fH]; omega)
 rw [List.zipIdx_map_fst, bG, bG] at l
 have i := g.length_eq
 rw [fH] at i
 have e : fm ds ++ u.map (·.1) = fm (ds ++ [u]) := by simp [fm]
 have hp : (ds ++ [u]).flatten.Perm (ds.flatten ++ R.zipIdx ds.flatten.length) := by
  rw [cT]
  refine cJ _ ?_
  simpa using g
 rw [l, aA, e]
 obtain ⟨v, v1, v2, v3⟩ := Pm h k N (by omega) N 20 (ds ++ [u]) lF (by omega) (by rw [nt]; omega) (by omega) (by omega) (yt.append.2 ⟨hO, r, fun x d => by have := LG R ds.flatten.length x (g.mem_iff.1 d); omega, trivial⟩) (fun x d => by
  rw [cT, aW] at d
  rcases d with d | d
  ·exact p x d
  ·simp only [bR, dL, bG] at d
   exact j x.1 (FN (g.mem_iff.1 d))) (by rw [hp.length_eq, aF, fH]; omega) (WB.Hu m (by omega))
 exact ⟨v, v1, v2, v3.trans hp⟩
theorem Pw (h : SWO (oF c)) (w : Dm f c G) (N : Nat) (D : N ≤ 300000) : ∀ (k : Nat) (R : List Formula) (ds : List (List (Formula × Nat))) (n : Nat) (a b : Int), R.length ≤ k → k < n → yt c 0 ds → (∀ A ∈ ds, A.length = 20) → (∀ x ∈ ds.flatten, G x.1) → (∀ x ∈ R, G x) → ds.flatten.length + R.length = N →
  a = (ds.flatten.length : Int) → b = ((ds.flatten.length + 20 : Nat) : Int) →
  ∃ u, ns (N : Int) f n (fm ds ++ R) a b = some (u.map (·.1)) ∧ pw (oF c) u ∧ u.Perm (ds.flatten ++ R.zipIdx ds.flatten.length) := by
 intro k
 induction k with
 | zero =>
  intro R ds n a b hk E hO p q j r ha t
  obtain rfl := aU (Nat.le_zero.1 hk)
  exact NP h w N D [] ds n a b E hO p q j r (by simp) ha t
 | succ k ih =>
  intro R ds n a b hk E hO p q j r ha t
  by_cases z : R.length < 20
  ·exact NP h w N D R ds n a b (by omega) hO p q j r z ha t
  obtain ⟨n, rfl⟩ := aT (by omega : n ≠ 0)
  obtain ⟨R1, R2, rfl, m⟩ := xA (l := R) (n := 20) (by omega)
  rw [aF] at r hk
  rw [ns]
  have hle : b ≤ (N : Int) := by omega
  simp only [hle, bZ, aN]
  obtain ⟨u, F, I, s⟩ := Me h w (fm ds) R2 (R1.zipIdx ds.flatten.length) a b (Ir _ _) (fun x d => j x.1 (by simp [FN d])) (by simp only [aF, su, dD, fH, bV]; omega) (by rw [su]; exact ha) (by rw [su, fH]; omega)
  rw [List.zipIdx_map_fst] at F
  rw [F, aA]
  have g := s.length_eq
  rw [fH, m] at g
  have y : (ds ++ [u]).flatten.length = ds.flatten.length + 20 := by rw [OG, g]
  have J : IntKind.i64.wrap (b + 20) = (((ds ++ [u]).flatten.length + 20 : Nat) : Int) := oE _ (by omega) (by omega)
  have e : fm ds ++ (u.map (·.1) ++ R2) = fm (ds ++ [u]) ++ R2 := by simp [fm]
  rw [e, J]
  obtain ⟨v, v1, v2, v3⟩ := ih R2 (ds ++ [u]) n b _ (by omega) (by omega) (yt.append.2 ⟨hO, I, fun x d => by have := LG R1 ds.flatten.length x (s.mem_iff.1 d); omega, trivial⟩) (fun A i => by
   rcases aW.1 i with i | i
   ·exact p A i
   ·simp at i; rw [i]; exact g) (fun x d => by
   rw [cT, aW] at d
   rcases d with d | d
   ·exact q x d
   ·simp only [bR, dL, bG] at d
    exact j x.1 (by simp [FN (s.mem_iff.1 d)])) (fun x d => j x (by simp [d])) (by omega) (by omega) rfl
  refine ⟨v, v1, v2, v3.trans ?_⟩
  rw [y, cT, List.zipIdx_append, m, aM]
  refine cJ _ ?_
  simp only [bR, dL, bG]
  exact s.append_right _
theorem MA (h : SWO (oF c)) (g : Dm f c G) (l : List Formula) (d : ∀ x ∈ l, G x) (i : l.length ≤ 300000) : pK l f = some (KH (oF c) l) := by
 unfold pK sf
 obtain ⟨u, a, j, b⟩ := Pw h g l.length i l.length l [] lF 0 20 (aZ _) (by rw [nt]; omega) trivial (by simp) (by simp) d (by simp) rfl rfl
 simp only [fm, dL, gI, bD, bV] at a b
 rw [a, aA, Q5 h j b]
end
end Go.Proofs.YtklbhegeiijbjaaGreat
namespace Go.Proofs.YtklbhegeiijbjaaGreat
open Go.RowKit
theorem JM {P : Formula → Prop} (h : ∀ f, (∀ k ∈ f.Kids, P k) → P f) : ∀ f, P f := by
 intro f
 refine Formula.rec (motive_1 := P) (motive_2 := fun ks => ∀ k ∈ ks, P k) ?_ ?_ ?_ f
 ·intro o k r ks ih; exact h _ ih
 ·intro k hk; cases hk
 ·intro k ks h1 b x a
  rcases aQ.1 a with rfl | a
  ·exact h1
  ·exact b x a
mutual
def lZ : Formula → Nat
 | ⟨_, _, _, ks⟩ => 1 + nodesL ks
def nodesL : List Formula → Nat
 | [] => 0
 | k :: ks => lZ k + nodesL ks
end
mutual
def oW : Formula → Nat
 | ⟨_, _, _, ks⟩ => deepL ks + 1
def deepL : List Formula → Nat
 | [] => 0
 | k :: ks => max (oW k) (deepL ks)
end
theorem pe (f : Formula) : lZ f = 1 + nodesL f.Kids := by cases f; rw [lZ]
theorem nQ (f : Formula) : oW f = deepL f.Kids + 1 := by cases f; rw [oW]
theorem uB : ∀ {ks : List Formula} {k : Formula}, k ∈ ks → lZ k ≤ nodesL ks
 | x :: ks, k, h => by
  rw [nodesL]
  rcases aQ.1 h with rfl | h
  ·omega
  ·have := uB h; omega
theorem rV : ∀ {ks : List Formula} {k : Formula}, k ∈ ks → oW k ≤ deepL ks
 | x :: ks, k, h => by
  rw [deepL]
  rcases aQ.1 h with rfl | h
  ·omega
  ·have := rV h; omega
theorem xf : ∀ f : Formula, oW f ≤ lZ f := by
 refine JM fun f ih => ?_
 rw [nQ, pe]
 have : ∀ ks : List Formula, (∀ k ∈ ks, oW k ≤ lZ k) → deepL ks ≤ nodesL ks := by
  intro ks
  induction ks with
  | nil => intro _; rw [deepL]; omega
  | cons k ks a =>
   intro h
   have := a (fun x b => h x (by simp [b]))
   have := h k (by simp)
   rw [deepL, nodesL]; omega
 have := this f.Kids ih
 omega
theorem qP : ∀ ks : List Formula, ks.length ≤ nodesL ks
 | [] => by rw [nodesL]; simp
 | k :: ks => by have := qP ks; have := pe k; rw [nodesL, aJ]; omega
theorem Nq (a : Nat) (hm : a ≤ 4096) (rec : Formula → Int → Option (Int × Int)) : ∀ (ks : List Formula), (∀ k ∈ ks, ∀ q : Nat, q ≤ 4096 → ∃ n d : Nat, rec k (q : Int) = some ((n : Int), (d : Int)) ∧ 1 ≤ n ∧ n ≤ lZ k ∧ d ≤ lZ k ∧ (lZ k ≤ q → n = lZ k ∧ d = oW k) ∧ (q < lZ k → q < n)) → ∀ x y : Nat, x + nodesL ks ≤ 100000000 →
  ∃ n d : Nat, qn (a : Int) rec ks (x : Int) (y : Int) = some ((n : Int), (d : Int)) ∧ x ≤ n ∧ n ≤ x + nodesL ks ∧ d ≤ max y (nodesL ks) ∧ (x + nodesL ks ≤ a → n = x + nodesL ks ∧ d = max y (deepL ks)) ∧ (a < x + nodesL ks → a < n)
 | [], _, x, y, _ => by
  rw [qn, nodesL, deepL]
  exact ⟨x, y, rfl, by omega, by omega, by omega, fun _ => ⟨by omega, by omega⟩, fun h => by omega⟩
 | k :: ks, g, x, y, p => by
  rw [nodesL] at p ⊢
  rw [qn, deepL]
  by_cases i : (x : Int) > (a : Int)
  ·simp only [i, bZ, aN]
   exact ⟨x, y, rfl, by omega, by omega, by omega, fun _ => by omega, fun h => by omega⟩
  ·simp only [i, cC, aB, aG]
   have s : IntKind.i64.wrap ((a : Int) - (x : Int)) = ((a - x : Nat) : Int) := by rw [mg (by omega) (by omega)]; omega
   obtain ⟨m, d, e, h1, v, w, b, l⟩ := g k (by simp) (a - x) (by omega)
   rw [s, e, aA]
   have t : IntKind.i64.wrap ((x : Int) + (m : Int)) = ((x + m : Nat) : Int) := by rw [mg (by omega) (by omega)]; omega
   have u : (if (d : Int) > (y : Int) then (d : Int) else (y : Int)) = ((max y d : Nat) : Int) := by split <;> omega
   simp only [t, u]
   obtain ⟨n, j, e', g1, g2, g3, g4, g5⟩ := Nq a hm rec ks (fun z r => g z (by simp [r])) (x + m) (max y d) (by omega)
   refine ⟨n, j, e', by omega, by omega, by omega, fun h => ?_, fun h => ?_⟩
   ·obtain ⟨rfl, rfl⟩ := b (by omega)
    obtain ⟨rfl, rfl⟩ := g4 (by omega)
    exact ⟨by omega, by omega⟩
   ·by_cases hk : a - x < lZ k
    ·have := l hk; omega
    ·obtain ⟨rfl, _⟩ := b (by omega)
     exact g5 (by omega)
theorem PA : ∀ (n : Nat) (f : Formula), oW f ≤ n → lZ f ≤ 50000000 → ∀ q : Nat, q ≤ 4096 → ∃ m d : Nat, pt n f (q : Int) = some ((m : Int), (d : Int)) ∧ 1 ≤ m ∧ m ≤ lZ f ∧ d ≤ lZ f ∧ (lZ f ≤ q → m = lZ f ∧ d = oW f) ∧ (q < lZ f → q < m) := by
 intro n
 induction n with
 | zero => intro f h; rw [nQ] at h; omega
 | succ n ih =>
  intro f i s q a
  rw [nQ] at i
  have j := pe f
  rw [pt]
  unfold wy
  obtain ⟨m, d, e, h1, p, r, b, g⟩ := Nq q a (pt n) f.Kids (fun k hk q a => ih k (by have := rV hk; omega) (by have := uB hk; omega) q a) 1 0 (by omega)
  have e' : qn (q : Int) (pt n) f.Kids 1 0 = some ((m : Int), (d : Int)) := e
  rw [e', aA]
  have l : IntKind.i64.wrap ((d : Int) + 1) = ((d + 1 : Nat) : Int) := by rw [mg (by omega) (by omega)]; omega
  simp only [l]
  refine ⟨m, d + 1, rfl, h1, by omega, by omega, fun h => ?_, fun h => g (by omega)⟩
  obtain ⟨rfl, rfl⟩ := b (by omega)
  rw [nQ]
  exact ⟨by omega, by omega⟩
theorem Q0 (f : Formula) (g : lZ f ≤ 50000000) : yf f = some (if lZ f ≤ 4096 then ((lZ f : Int), (oW f : Int)) else (0, 0)) := by
 unfold yf
 have := xf f
 obtain ⟨m, d, e, h1, i, j, a, b⟩ := PA lF f (by rw [nt]; omega) g 4096 (aZ _)
 have e' : pt lF f 4096 = some ((m : Int), (d : Int)) := e
 rw [e', aA]
 by_cases h : lZ f ≤ 4096
 ·obtain ⟨rfl, rfl⟩ := a h
  have : ¬ ((lZ f : Int) > 4096) := by omega
  simp [this, h]
 ·have := b (by omega)
  have : ((m : Int) > 4096) := by omega
  simp [this, h]
def qT : kD := ⟨zS, zS⟩
def D6 (f : Formula) : Bool := if f.Op = 1 then nv f.kD && decide (f.Kids.length = 0) && decide (f.K = 0) else if f.Op = 2 ∨ f.Op = 3 then lx f.kD qT && decide (f.K = 0) else decide (f.Op = 4) && lx f.kD qT && decide (0 ≤ f.K) && decide (f.K ≤ (f.Kids.length : Int)) && decide (1 ≤ f.Kids.length)
theorem Rf (f : Formula) : yd f = some (D6 f) := by
 unfold yd D6
 simp only [zH, aA, pW]
 by_cases h1 : f.Op = 1
 ·simp only [h1, bA, aN]
  cases p : nv f.kD
  ·simp
  ·by_cases k : f.Kids.length = 0
   ·have : f.Kids = [] := aU k
    by_cases hk : f.K = 0 <;> simp [this, hk]
   ·have : ((f.Kids.length : Int) == 0) = false := by simp; intro h; exact k (by simp [h])
    simp only [aN, aA, this, aB, aG, k, cC, Bool.and_false, iK]
 ·have m : (f.Op == 1) = false := by simpa using h1
  simp only [m, aB, aG, h1]
  by_cases d : f.Op = 2 ∨ f.Op = 3
  ·have i : (if f.Op == 2 then some (f.Op == 2) else some (f.Op == 3)) = some true := by
    rcases d with h | h <;> simp [h]
   simp only [i, aA, aN, d]
   cases g : lx f.kD ⟨zS, zS⟩ <;> by_cases hk : f.K = 0 <;> simp [qT, g, hk]
  ·have i : (if f.Op == 2 then some (f.Op == 2) else some (f.Op == 3)) = some false := by
    have a : f.Op ≠ 2 := fun h => d (.inl h)
    have b : f.Op ≠ 3 := fun h => d (.inr h)
    simp [a, b]
   simp only [i, aA, aB, aG, d]
   by_cases j : f.Op = 4
   ·simp only [j, bA, aN, aA, bZ, eO]
    cases g : lx f.kD ⟨zS, zS⟩
    ·simp [qT, g]
    ·by_cases c1 : 0 ≤ f.K <;> by_cases c2 : f.K ≤ (f.Kids.length : Int) <;> by_cases l : 1 ≤ f.Kids.length <;> simp [qT, g, c1, c2, l] <;> omega
   ·have n : (f.Op == 4) = false := by simpa using j
    simp [n, j]
mutual
def ux : Formula → Bool
 | ⟨o, n, r, ks⟩ => D6 ⟨o, n, r, ks⟩ && decide (ks.length ≤ 8) && wellL ks
def wellL : List Formula → Bool
 | [] => true
 | k :: ks => ux k && wellL ks
end
theorem GH (f : Formula) : ux f = (D6 f && decide (f.Kids.length ≤ 8) && wellL f.Kids) := by cases f; rw [ux]
theorem Fg : ∀ ks : List Formula, wellL ks = ks.all ux
 | [] => rfl
 | k :: ks => by rw [wellL, Fg ks]; rfl
theorem Kh (f : Formula → Option Bool) : ∀ (l : List Formula) (i : Nat), ox f l i = An f l i
 | [], i => by rw [ox]; rfl
 | x :: l, i => by
  rw [ox, An]
  cases f x with
  | none => rfl
  | some b =>
   simp only [aA]
   rw [Kh f l (i + 1)]
theorem F3 (f : Formula → Option Bool) (p : Formula → Bool) (l : List Formula) (h : ∀ x ∈ l, f x = some (p x)) : pd l f = some (l.any p) := by
 unfold pd ua
 rw [Kh]
 rcases D0 f p l 0 h with ⟨e, h1⟩ | ⟨A, x, B, rfl, h1, a, e⟩
 ·rw [e, aA]
  have : l.any p = false := by rw [List.any_eq_false]; intro x b; rw [h1 x b]; simp
  rw [this]; rfl
 ·rw [e, aA]
  have : (A ++ x :: B).any p = true := by simp [a]
  rw [this]
  congr 1
theorem O3 : ∀ (n : Nat) (f : Formula), oW f ≤ n → sn n f = some (ux f) := by
 intro n
 induction n with
 | zero => intro f h; rw [nQ] at h; omega
 | succ n ih =>
  intro f h
  rw [nQ] at h
  rw [sn]
  unfold wA
  rw [Rf, aA, GH, F3 _ (fun k => !ux k) f.Kids (fun k hk => by unfold vu; rw [ih k (by have := rV hk; omega)]; rfl)]
  rw [Fg]
  have e : (!(f.Kids.any fun k => !ux k)) = f.Kids.all ux := by rw [List.all_eq_not_any_not]
  cases D6 f
  ·rfl
  ·by_cases a : f.Kids.length ≤ 8
   ·have : ((f.Kids.length : Int) ≤ 8) := by omega
    simp [a, this, e]
   ·have : ¬ ((f.Kids.length : Int) ≤ 8) := by omega
    simp [a, this]
def oO (f : Formula) : Bool := decide (lZ f ≤ 64) && decide (oW f ≤ 6) && ux f
theorem Ej (f : Formula) (b : lZ f ≤ 50000000) : sm f = some (oO f) := by
 unfold sm oO
 have d := xf f
 rw [Q0 f b, aA, O3 lF f (by rw [nt]; omega)]
 have h1 := pe f
 by_cases h : lZ f ≤ 4096
 ·simp only [h, aN]
  have a : ((lZ f : Int) ≥ 1) := by omega
  simp only [a, bZ, aN, aA, pW]
  by_cases c1 : lZ f ≤ 64 <;> by_cases c2 : oW f ≤ 6
  ·have d1 : ((lZ f : Int) ≤ 64) := by omega
   have d2 : ((oW f : Int) ≤ 6) := by omega
   simp [c1, c2, d1, d2]
  ·have d1 : ((lZ f : Int) ≤ 64) := by omega
   have d2 : ¬ ((oW f : Int) ≤ 6) := by omega
   simp [c1, c2, d1, d2]
  ·have d1 : ¬ ((lZ f : Int) ≤ 64) := by omega
   simp [c1, d1]
  ·have d1 : ¬ ((lZ f : Int) ≤ 64) := by omega
   simp [c1, d1]
 ·simp only [h, aG]
  have : ¬ lZ f ≤ 64 := by omega
  simp [this]
theorem Formula.ext' {a b : Formula} (h1 : a.Op = b.Op) (d : a.K = b.K) (g : a.kD = b.kD) (h : a.Kids = b.Kids) : a = b := by
 cases a; cases b; simp only at h1 d g h; subst h1 d g h; rfl
theorem Oz (g : Formula × Formula → Option Bool) : ∀ (l m : List Formula), l.length = m.length → (∀ x ∈ l, ∀ y, ∃ b, g (x, y) = some b ∧ (b = true ↔ x = y)) → ∀ (A : List Formula),
  ∃ b, mC (A ++ m) g l A.length = some b ∧ (b = true ↔ l = m)
 | [], m, d, _, A => by
  obtain rfl := aU d.symm
  exact ⟨true, rfl, by simp⟩
 | x :: l, [], d, _, A => by simp at d
 | x :: l, y :: m, d, i, A => by
  rw [mC]
  obtain ⟨b, e, h⟩ := i x (by simp) y
  have i1 : mP (A ++ y :: m) (A.length : Int) = some y := nL _ _ _ _ rfl
  rw [i1, aA, e, aA]
  cases b with
  | false =>
   refine ⟨false, rfl, ?_⟩
   have : x ≠ y := fun a => by have := h.2 a; simp at this
   simp [this]
  | true =>
   have a := h.1 rfl
   obtain ⟨b, j, p⟩ := Oz g l m (by simpa using d) (fun z q => i z (by simp [q])) (A ++ [y])
   simp only [bU, aB, aG]
   have k : A ++ y :: m = (A ++ [y]) ++ m := by simp
   have n : A.length + 1 = (A ++ [y]).length := by simp
   rw [k, n, j]
   exact ⟨b, rfl, by rw [p]; simp [a]⟩
theorem QD : ∀ (n : Nat) (f : Formula), oW f ≤ n → ∀ g, ∃ b, pj n f g = some b ∧ (b = true ↔ f = g) := by
 intro n
 induction n with
 | zero => intro f h; rw [nQ] at h; omega
 | succ n ih =>
  intro f h g
  rw [nQ] at h
  rw [pj]
  unfold xg
  by_cases h1 : f.Op = g.Op
  ·by_cases a : f.K = g.K
   ·by_cases d : f.kD = g.kD
    ·have j : lx f.kD g.kD = true := lz.2 d
     simp only [h1, a, j, bA, aN, aA]
     unfold nO
     by_cases i : f.Kids.length = g.Kids.length
     ·have : ((f.Kids.length : Int) != (g.Kids.length : Int)) = false := by simp [i]
      simp only [this, aB, aG]
      obtain ⟨b, e, m⟩ := Oz (fun x => pj n x.1 x.2) f.Kids g.Kids i (fun x p y => ih x (by have := rV p; omega) y) []
      simp only [bD, bV] at e
      rw [e]
      refine ⟨b, by simp, m.trans ⟨fun hk => Formula.ext' h1 a d hk, fun hk => by rw [hk]⟩⟩
     ·have : ((f.Kids.length : Int) != (g.Kids.length : Int)) = true := by simp; omega
      simp only [this, aN]
      exact ⟨false, rfl, by simp; intro hk; rw [hk] at i; exact i rfl⟩
    ·have j : lx f.kD g.kD = false := by rw [← fW, lz]; exact d
     simp only [h1, a, j, bA, aN, aA, aB, aG]
     exact ⟨false, rfl, by simp; intro hk; rw [hk] at d; exact d rfl⟩
   ·have l : (f.K == g.K) = false := by simpa using a
    simp only [h1, l, bA, aN, aA, aB, aG]
    exact ⟨false, rfl, by simp; intro hk; rw [hk] at a; exact a rfl⟩
  ·have k : (f.Op == g.Op) = false := by simpa using h1
   simp only [k, aA, aB, aG]
   exact ⟨false, rfl, by simp; intro hk; rw [hk] at h1; exact h1 rfl⟩
end Go.Proofs.YtklbhegeiijbjaaGreat
namespace Go.Proofs.YtklbhegeiijbjaaGreat
open Go.RowKit
mutual
def zO : Formula → List Int
 | ⟨o, k, r, ks⟩ => o :: (if o = 1 then tC r else (if o = 4 then [k] else []) ++ ((ks.length : Int) :: bytesFL ks))
def bytesFL : List Formula → List Int
 | [] => []
 | k :: ks => zO k ++ bytesFL ks
end
theorem IC (f : Formula) : zO f = f.Op :: (if f.Op = 1 then tC f.kD else (if f.Op = 4 then [f.K] else []) ++ ((f.Kids.length : Int) :: bytesFL f.Kids)) := by cases f; rw [zO]
theorem yA {f : Formula} (h : ux f = true) : f.Kids.length ≤ 8 ∧ wellL f.Kids = true ∧ ((f.Op = 1 ∧ nv f.kD = true ∧ f.Kids = [] ∧ f.K = 0) ∨ ((f.Op = 2 ∨ f.Op = 3) ∧ f.kD = qT ∧ f.K = 0) ∨ (f.Op = 4 ∧ f.kD = qT ∧ 0 ≤ f.K ∧ f.K ≤ (f.Kids.length : Int) ∧ 1 ≤ f.Kids.length)) := by
 rw [GH] at h
 simp only [bJ, bO] at h
 obtain ⟨⟨h1, a⟩, b⟩ := h
 refine ⟨a, b, ?_⟩
 unfold D6 at h1
 split at h1
 ·rename_i c
  simp only [bJ, bO] at h1
  exact .inl ⟨c, h1.1.1, aU h1.1.2, h1.2⟩
 ·split at h1
  ·rename_i c
   simp only [bJ, bO, lz] at h1
   exact .inr (.inl ⟨c, h1.1, h1.2⟩)
  ·simp only [bJ, bO, lz] at h1
   exact .inr (.inr ⟨h1.1.1.1.1, h1.1.1.1.2, h1.1.1.2, h1.1.2, h1.2⟩)
theorem NI : ∀ (n : Nat) (f : Formula), oW f ≤ n → ux f = true → ∀ l : List Int, l.length + 40 * lZ f ≤ 8000 → qR n l f = some (l ++ zO f) ∧ (zO f).length ≤ 40 * lZ f := by
 intro n
 induction n with
 | zero => intro f h; rw [nQ] at h; omega
 | succ n ih =>
  intro f t hw l r
  rw [nQ] at t
  have u := pe f
  obtain ⟨h1, q, m⟩ := yA hw
  rw [qR]
  unfold wF
  have d : 0 ≤ f.Op ∧ f.Op < 128 := by rcases m with h | h | h <;> omega
  rw [zn d.1 d.2 (by omega), aA, IC]
  have key : ∀ (ks : List Formula), (∀ k ∈ ks, k ∈ f.Kids) → wellL ks = true → ∀ l : List Int, l.length + 40 * nodesL ks ≤ 8000 → rH (qR n) ks l = some (l ++ bytesFL ks) ∧ (bytesFL ks).length ≤ 40 * nodesL ks := by
   intro ks
   induction ks with
   | nil => intro _ _ l _; rw [rH, bytesFL]; simp
   | cons k ks p =>
    intro hk a l r
    rw [wellL, bJ] at a
    rw [nodesL] at r
    obtain ⟨i, w⟩ := ih k (by have := rV (hk k (by simp)); omega) a.1 l (by omega)
    obtain ⟨b, j⟩ := p (fun z v => hk z (by simp [v])) a.2 (l ++ zO k) (by simp; omega)
    rw [rH, i, aA, b, bytesFL, nodesL]
    exact ⟨by simp, by simp; omega⟩
  have hlen : 0 ≤ (f.Kids.length : Int) ∧ (f.Kids.length : Int) < 128 := by omega
  by_cases c1 : f.Op = 1
  ·have s : nv f.kD = true := by rcases m with h | h | h; exact h.2.1; omega; omega
   have := pG s
   simp only [c1, bA, aN]
   rw [KL s (by simp; omega), aA]
   exact ⟨by simp, by simp; omega⟩
  ·have i : (f.Op == 1) = false := by simpa using c1
   simp only [i, aB, aG, c1]
   by_cases g : f.Op = 4
   ·have hk : 0 ≤ f.K ∧ f.K < 128 := by rcases m with h | h | h <;> omega
    simp only [g, bA, aN]
    rw [zn hk.1 hk.2 (by simp; omega)]
    simp only [aA]
    rw [zn hlen.1 hlen.2 (by simp; omega)]
    simp only [aA]
    obtain ⟨b, j⟩ := key f.Kids (fun k hk => hk) q (l ++ [4] ++ [f.K] ++ [(f.Kids.length : Int)]) (by simp; omega)
    rw [b]
    exact ⟨by simp, by simp; omega⟩
   ·have j : (f.Op == 4) = false := by simpa using g
    simp only [j, aB, aG, g, aA]
    rw [zn hlen.1 hlen.2 (by simp; omega)]
    simp only [aA]
    obtain ⟨b, x⟩ := key f.Kids (fun k hk => hk) q (l ++ [f.Op] ++ [(f.Kids.length : Int)]) (by simp; omega)
    rw [b]
    exact ⟨by simp, by simp; omega⟩
def zp (f : Formula) : List Int := if oO f then zO f else []
abbrev Gd (f : Formula) : Prop := lZ f ≤ 50000000
theorem Au {f : Formula} (h : oO f = true) : lZ f ≤ 64 ∧ oW f ≤ 6 ∧ ux f = true := by
 unfold oO at h
 simp only [bJ, bO] at h
 exact ⟨h.1.1, h.1.2, h.2⟩
theorem Ry (f : Formula) (d : Gd f) (l : List Int) (j : l.length ≤ 5000) : xn l f = some (oO f, l ++ zp f) ∧ (zp f).length ≤ 2560 := by
 unfold xn zp
 rw [Ej f d, aA]
 cases h : oO f
 ·simp
 ·obtain ⟨h1, i, b⟩ := Au h
  obtain ⟨a, g⟩ := NI lF f (by rw [nt]; omega) b l (by omega)
  simp only [bU, aB, aG, a, aA, aN]
  exact ⟨trivial, by omega⟩
theorem HP (f : Formula) (b : Gd f) : uo f = some (zp f) := by
 unfold uo
 obtain ⟨a, d⟩ := Ry f b [] (by simp)
 rw [a, aA, pW]
 unfold uR
 simp only [bD]
 rw [RI (by omega)]
 rfl
def Cg (f g : Formula) : Int := zj (zp f) (zp g)
theorem Nk (f g : Formula) (a : Gd f) (b : Gd g) : uj f g = some (Cg f g) := by
 unfold uj xw
 rw [HP f a, HP g b]
 rfl
theorem BI (f g : Formula) : oF Cg f g = Op.bytesLess (vg (zp f)) (vg (zp g)) := by
 rw [bT]
 have h : oF Cg f g = true ↔ Cg f g < 0 := by unfold oF; exact decide_eq_true_iff
 exact h.trans (Dx _ _)
theorem IA : SWO (oF Cg) where
 PZ x := by rw [BI, wq]
 tr x y z h1 a := by rw [BI] at *; exact zc _ _ _ h1 a
 NE x y z h := by
  rw [BI] at h
  rw [BI, BI]
  rcases BU (vg (zp x)) (vg (zp y)) with h1 | h1 | h1
  ·exact .inl h1
  ·rw [h1] at h; exact .inr h
  ·exact .inr (zc _ _ _ h1 h)
def vU (l : List Formula) : List Formula := KH (oF Cg) l
theorem JE (l : List Formula) (a : ∀ x ∈ l, Gd x) (b : l.length ≤ 300000) : we l = some (vU l) := by
 unfold we tu
 rw [nS (by simp; omega) (by simp; omega)]
 simp only [aA, bD, pW]
 exact MA IA (fun x y d g => Nk x y d g) l a b
theorem Ns {α : Type} (lt : α → α → Bool) (l : List α) (k : α) : (Cd lt l k).Perm (l ++ [k]) := by
 unfold Cd
 refine List.perm_middle.trans ((List.Perm.cons _ ?_).trans (iJ k l).symm)
 have := List.filter_append_perm (fun x => !lt k x) l
 simpa using this
theorem Nt {α : Type} (lt : α → α → Bool) (l : List α) : (KH lt l).Perm l := by
 suffices H : ∀ (l a : List α), (l.foldl (Cd lt) a).Perm (a ++ l) by have := H l []; rwa [bD] at this
 intro l
 induction l with
 | nil => intro a; simp
 | cons k l ih =>
  intro a
  rw [iV]
  refine (ih _).trans ?_
  have := (Ns lt a k).append_right l
  simpa using this
theorem zr (l : List Formula) : (vU l).Perm l := Nt _ l
noncomputable def rr (a b : Formula) : Bool := @decide (a = b) (Classical.propDecidable _)
theorem Am {a b : Formula} : rr a b = true ↔ a = b := by unfold rr; simp
theorem QJ (a b : Formula) (h : Gd a) : pj lF a b = some (rr a b) := by
 have := xf a
 obtain ⟨x, e, d⟩ := QD lF a (by rw [nt]; omega) b
 rw [e]; congr 1
 rw [bT, d, Am]
def TD : Formula := ⟨0, 0, ⟨zS, zS⟩, []⟩
theorem Pe (f1 : Formula × Formula → Option Bool) (i : Int) : ∀ (n : Nat) (l : List Formula) (k j : Int), (∀ x ∈ l, ∀ y ∈ l, f1 (x, y) = some (rr x y)) → nP i f1 n l k j = Cj rr i n l k j
 | 0, l, k, j, _ => by rw [nP, Cj]
 | n + 1, l, k, j, h => by
  rw [nP, Cj]
  split
  ·cases g : mP (l.drop (Int.toNat i)) j with
   | none => rfl
   | some x =>
    cases p : mP (l.drop (Int.toNat i)) (IntKind.i64.wrap (j - 1)) with
    | none => rfl
    | some y =>
     have d : x ∈ l := List.mem_of_mem_drop (dP (lK g))
     have r : y ∈ l := List.mem_of_mem_drop (dP (lK p))
     simp only [aA, h x d y r]
     cases rr x y
     ·simp only [cZ, aN]
      cases s : mP l k with
      | none => rfl
      | some z =>
       simp only [aA]
       refine Pe f1 i n _ _ _ (fun a ha b q => ?_)
       have m : ∀ a ∈ l.set (Int.toNat k) x, a ∈ l := fun a ha => by
        rcases List.mem_or_eq_of_mem_set ha with ha | rfl
        ·exact ha
        ·exact d
       exact h a (m a ha) b (m b q)
     ·simp only [bU, aB, aG, aA]
      exact Pe f1 i n _ _ _ h
  ·rfl
theorem Su (f1 : Formula × Formula → Option Bool) (l : List Formula) (h : ∀ x ∈ l, ∀ y ∈ l, f1 (x, y) = some (rr x y)) : ∀ (n : Nat) (i : Int), nN l f1 n i = CP rr TD l n i
 | 0, i => by rw [nN, CP]
 | n + 1, i => by
  rw [nN, CP]
  split
  ·cases a : mP l i with
   | none => rfl
   | some x =>
    cases b : mP l (IntKind.i64.wrap (i - 1)) with
    | none => rfl
    | some y =>
     have d : x ∈ l := dP (lK a)
     have g : y ∈ l := dP (lK b)
     simp only [aA, h x d y g]
     rw [Pe f1 i lF l i 1 h, Su f1 l h n]
     rfl
  ·rfl
theorem MZ (l : List Formula) (h : ∀ x ∈ l, Gd x) (b : l.length ≤ 300000) : qy l (fun x => pj lF x.1 x.2) = some (dd rr l) := by
 rw [← KS rr TD l (by omega)]
 unfold qy Ka
 rw [Su _ l (fun x a y _ => QJ x y (h x a))]
end Go.Proofs.YtklbhegeiijbjaaGreat
namespace Go.Proofs.YtklbhegeiijbjaaGreat
open Go.RowKit
def mN (op : Int) (f : Formula) : Bool := decide (f.Op = op) && f.Kids.isEmpty
theorem D7 (f : Formula) (op : Int) : uE f op = some (mN op f) := by
 unfold uE mN
 rw [pW]
 by_cases h : f.Op = op
 ·simp only [h, bA, aN, bZ, eO]
  congr 1
  cases hk : f.Kids with
  | nil => rfl
  | cons a l => simp; omega
 ·have e : (f.Op == op) = false := by simpa using h
  simp [e, h]
def oZ (op : Int) : List Formula → List Formula
 | [] => []
 | k :: ks => (if k.Op = op then k.Kids else [k]) ++ oZ op ks
theorem DW (op : Int) : ∀ ks : List Formula, nodesL (oZ op ks) ≤ nodesL ks
 | [] => aZ _
 | k :: ks => by
  have ih := DW op ks
  have e : ∀ a b : List Formula, nodesL (a ++ b) = nodesL a + nodesL b := by
   intro a b
   induction a with
   | nil => rw [bD, nodesL]; omega
   | cons x a d => rw [bY, nodesL, nodesL, d]; omega
  have := pe k
  rw [oZ, e, nodesL]
  split
  ·omega
  ·rw [nodesL, nodesL]; omega
theorem Il (op : Int) : ∀ (ks acc : List Formula), acc.length + nodesL ks ≤ 100000000 → rG op ks acc = some (acc ++ oZ op ks)
 | [], acc, _ => by rw [rG, oZ, bG]
 | k :: ks, acc, h => by
  rw [nodesL] at h
  have h1 := pe k
  have a := qP k.Kids
  rw [rG, oZ]
  by_cases c : k.Op = op
  ·simp only [c, bA, aN]
   rw [nS (by omega) (by omega), aA, Il op ks _ (by simp; omega), aM]
  ·have e : (k.Op == op) = false := by simpa using c
   simp only [e, aB, aG, c]
   rw [nS (by simp; omega) (by simp; omega), aA, Il op ks _ (by simp; omega), aM]
noncomputable def qa (op : Int) (ks : List Formula) : Formula :=
 if (oZ op ks).any (mN (5 - op)) then ⟨5 - op, 0, qT, []⟩ else
  match dd rr (vU (oZ op ks)) with
  | [x] => x
  | r => ⟨op, 0, qT, r⟩
theorem KI {α : Type} (eq : α → α → Bool) (l : List α) : (dd eq l).length ≤ l.length := by
 cases l with
 | nil => exact aZ _
 | cons x l =>
  have : ∀ (l : List α) (x : α), (oa eq x l).length ≤ l.length := by
   intro l
   induction l with
   | nil => intro x; exact aZ _
   | cons y l ih => intro x; rw [oa]; have := ih y; have := ih x; split <;> simp <;> omega
  have := this l x
  rw [dd, aJ, aJ]; omega
theorem Fe (s : mh) (op : Int) (g : op = 2 ∨ op = 3) (ks : List Formula) (h : nodesL ks ≤ 64) : pp s op ks = some (qa op ks, s) := by
 have h1 := DW op ks
 have i := qP (oZ op ks)
 have b : ∀ x ∈ oZ op ks, Gd x := fun x a => by have := uB a; unfold Gd; omega
 have hw : IntKind.i64.wrap (5 - op) = 5 - op := mg (by omega) (by omega)
 unfold pp Bm qa
 rw [Il op ks [] (by simp; omega), aA, bD, hw, F3 _ (mN (5 - op)) _ (fun x _ => by unfold rN; rw [D7, pW]), aA]
 cases j : (oZ op ks).any (mN (5 - op))
 ·simp only [aB, aG]
  have hp := zr (oZ op ks)
  have l := hp.length_eq
  rw [JE _ b (by omega), aA, MZ _ (fun x a => b x (hp.mem_iff.1 a)) (by omega), aA]
  have k := KI rr (vU (oZ op ks))
  have d : ¬ (((dd rr (vU (oZ op ks))).length : Int) > 64) := by omega
  simp only [d, cC, aB, aG, aA]
  generalize dd rr (vU (oZ op ks)) = r
  match r with
  | [] => rfl
  | [x] => rfl
  | x :: y :: r =>
   have : (((x :: y :: r).length : Int) == 1) = false := by simp; omega
   simp only [this, aB, aG]
   rfl
 ·rfl
noncomputable def uh (k : Int) (ks : List Formula) : Formula :=
 let n := k - ((ks.filter (mN 2)).length : Int)
 let l := ks.filter fun x => !mN 2 x && !mN 3 x
 if n ≤ 0 then ⟨2, 0, qT, []⟩ else if n > (l.length : Int) then ⟨3, 0, qT, []⟩ else if n = (l.length : Int) then qa 2 l else if n = 1 then qa 3 l else ⟨4, n, qT, vU l⟩
theorem zX (p : Formula → Bool) : ∀ ks : List Formula, nodesL (ks.filter p) ≤ nodesL ks
 | [] => aZ _
 | k :: ks => by
  have := zX p ks
  rw [eF]
  split
  ·rw [nodesL, nodesL]; omega
  ·rw [nodesL]; omega
theorem Bz (s : mh) : ∀ (ks acc : List Formula) (k : Int), -1000 ≤ k - (ks.length : Int) → k ≤ 1000 → acc.length + ks.length ≤ 1000 → nodesL (acc ++ ks.filter fun x => !mN 2 x && !mN 3 x) ≤ 64 →
  nM s ks k acc = some (let n := k - ((ks.filter (mN 2)).length : Int); let l := acc ++ ks.filter fun x => !mN 2 x && !mN 3 x; if n ≤ 0 then ⟨2, 0, qT, []⟩ else if n > (l.length : Int) then ⟨3, 0, qT, []⟩ else if n = (l.length : Int) then qa 2 l else if n = 1 then qa 3 l else ⟨4, n, qT, vU l⟩, s)
 | [], acc, k, h1, g, h, a => by
  simp only [jD, bG, bV] at a ⊢
  rw [nM]
  simp only [Int.ofNat_zero, Int.sub_zero, zP, Ar, aA, Int.natCast_zero]
  have p := qP acc
  by_cases c1 : k ≤ 0
  ·simp only [c1, bZ, aN]; rfl
  ·simp only [c1, cC, aB, aG]
   by_cases c2 : k > (acc.length : Int)
   ·simp only [c2, bZ, aN]; rfl
   ·simp only [c2, cC, aB, aG]
    by_cases b : k = (acc.length : Int)
    ·simp only [← b, bA, aN]
     rw [Fe s 2 (.inl rfl) acc a, aA]
    ·have i : (k == (acc.length : Int)) = false := by simpa using b
     simp only [i, aB, aG, b]
     by_cases d : k = 1
     ·simp only [d, bA, aN]
      rw [Fe s 3 (.inr rfl) acc a, aA]
     ·have j : (k == 1) = false := by simpa using d
      simp only [j, aB, aG, d]
      rw [JE acc (fun x m => by have := uB m; unfold Gd; omega) (by omega)]
      rfl
 | x :: ks, acc, k, h1, g, h, a => by
  simp only [aJ] at h1 h
  rw [nM, D7, aA, D7, aA]
  rw [eF, eF] at *
  cases c2 : mN 2 x
  ·cases b : mN 3 x
   ·simp only [c2, b, cZ, kd, aB, aG, aN] at a ⊢
    rw [nS (by simp; omega) (by simp; omega), aA, Bz s ks _ k (by omega) g (by simp; omega) (by rw [aM]; exact a)]
    simp only [aM, bY, bD]
   ·simp only [c2, b, cZ, bU, Bool.and_false, aB, aG] at a ⊢
    rw [Bz s ks _ k (by omega) g (by omega) a]
  ·simp only [c2, bU, iK, aB, aG, aN] at a ⊢
   rw [mg (by omega) (by omega), Bz s ks _ (k - 1) (by omega) (by omega) (by omega) a]
   simp only [aJ]
   have e : k - 1 - ((ks.filter (mN 2)).length : Int) = k - (((ks.filter (mN 2)).length + 1 : Nat) : Int) := by omega
   rw [e]
theorem M6 (s : mh) (k : Int) (hk : 0 ≤ k ∧ k ≤ 1000) (ks : List Formula) (h : nodesL ks ≤ 64) : rO s k ks = some (uh k ks, s) := by
 have := qP ks
 have := zX (fun x => !mN 2 x && !mN 3 x) ks
 unfold rO uh
 rw [Bz s ks [] k (by omega) (by omega) (by simp; omega) (by simpa using by omega)]
 rfl
mutual
noncomputable def qC : Formula → Formula
 | ⟨o, k, r, ks⟩ => if o = 1 then ⟨o, k, r, ks⟩ else if o = 4 then uh k (shapeL ks) else qa o (shapeL ks)
noncomputable def shapeL : List Formula → List Formula
 | [] => []
 | k :: ks => qC k :: shapeL ks
end
theorem A4 (f : Formula) : qC f = if f.Op = 1 then f else if f.Op = 4 then uh f.K (shapeL f.Kids) else qa f.Op (shapeL f.Kids) := by cases f; rw [qC]
theorem F8 {a b : List Formula} (h : a.Perm b) : nodesL a = nodesL b := by
 induction h with
 | nil => rfl
 | cons x _ ih => rw [nodesL, nodesL, ih]
 | swap x y l => rw [nodesL, nodesL, nodesL, nodesL]; omega
 | trans _ _ h1 d => rw [h1, d]
theorem Ei (eq : Formula → Formula → Bool) : ∀ (l : List Formula) (x : Formula), nodesL (oa eq x l) ≤ nodesL l
 | [], x => aZ _
 | y :: l, x => by
  have h1 := Ei eq l y
  have a := Ei eq l x
  rw [oa]
  split
  ·rw [nodesL]; omega
  ·rw [nodesL, nodesL]; omega
theorem O2 (eq : Formula → Formula → Bool) (l : List Formula) : nodesL (dd eq l) ≤ nodesL l := by
 cases l with
 | nil => exact aZ _
 | cons x l => have := Ei eq l x; rw [dd, nodesL, nodesL]; omega
theorem B9 (op : Int) (ks : List Formula) : lZ (qa op ks) ≤ 1 + nodesL ks := by
 unfold qa
 split
 ·rw [lZ, nodesL]; omega
 ·have h1 := O2 rr (vU (oZ op ks))
  have a := F8 (zr (oZ op ks))
  have b := DW op ks
  generalize dd rr (vU (oZ op ks)) = r at *
  split
  ·rename_i x
   rw [nodesL, nodesL] at h1; omega
  ·rw [lZ]; omega
theorem Jl (k : Int) (ks : List Formula) : lZ (uh k ks) ≤ 1 + nodesL ks := by
 have h := zX (fun x => !mN 2 x && !mN 3 x) ks
 unfold uh
 simp only
 generalize ks.filter (fun x => !mN 2 x && !mN 3 x) = l at *
 generalize k - ((ks.filter (mN 2)).length : Int) = n
 split
 ·rw [lZ, nodesL]; omega
 ·split
  ·rw [lZ, nodesL]; omega
  ·split
   ·have := B9 2 l; omega
   ·split
    ·have := B9 3 l; omega
    ·have := F8 (zr l); rw [lZ]; omega
theorem AO : ∀ f : Formula, lZ (qC f) ≤ lZ f := by
 refine JM fun f ih => ?_
 have h : ∀ ks : List Formula, (∀ k ∈ ks, lZ (qC k) ≤ lZ k) → nodesL (shapeL ks) ≤ nodesL ks := by
  intro ks
  induction ks with
  | nil => intro _; rw [shapeL]; exact aZ _
  | cons k ks a =>
   intro h
   have := a (fun x b => h x (by simp [b]))
   have := h k (by simp)
   rw [shapeL, nodesL, nodesL]; omega
 have h := h f.Kids ih
 rw [A4, pe f]
 split
 ·rw [pe]; omega
 ·split
  ·have := Jl f.K (shapeL f.Kids); omega
  ·have := B9 f.Op (shapeL f.Kids); omega
theorem EI (ks : List Formula) : nodesL (shapeL ks) ≤ nodesL ks := by
 induction ks with
 | nil => rw [shapeL]; exact aZ _
 | cons k ks ih => have := AO k; rw [shapeL, nodesL, nodesL]; omega
theorem Pp : ∀ (n : Nat) (f : Formula), oW f ≤ n → lZ f ≤ 64 → ux f = true → ∀ s : mh, ot n s f = some (qC f, s) := by
 intro n
 induction n with
 | zero => intro f h; rw [nQ] at h; omega
 | succ n ih =>
  intro f r v hw s
  rw [nQ] at r
  have t := pe f
  obtain ⟨h1, q, l⟩ := yA hw
  rw [ot]
  unfold tg
  rw [A4]
  by_cases c1 : f.Op = 1
  ·simp only [c1, bA, aN]
  ·have m : (f.Op == 1) = false := by simpa using c1
   simp only [m, aB, aG, c1]
   have key : ∀ (ks acc : List Formula), (∀ k ∈ ks, k ∈ f.Kids) → wellL ks = true → nodesL (acc ++ shapeL ks) ≤ 64 → nodesL ks ≤ 64 → oT (ot n) f ks acc s = some (if f.Op = 4 then uh f.K (acc ++ shapeL ks) else qa f.Op (acc ++ shapeL ks), s) := by
    intro ks
    induction ks with
    | nil =>
     intro acc _ _ d _
     rw [shapeL, bG] at *
     rw [oT]
     by_cases g : f.Op = 4
     ·simp only [g, bA, aN]
      rw [M6 s f.K (by rcases l with h | h | h <;> omega) acc d, aA]
     ·have p : (f.Op == 4) = false := by simpa using g
      simp only [p, aB, aG, g]
      rw [Fe s f.Op (by rcases l with h | h | h <;> omega) acc d, aA]
    | cons k ks j =>
     intro acc hk a d i
     rw [wellL, bJ] at a
     rw [nodesL] at i
     rw [shapeL] at d
     have b := qP (acc ++ qC k :: shapeL ks)
     simp only [aF, aJ] at b
     rw [oT, ih k (by have := rV (hk k (by simp)); omega) (by omega) a.1 s, aA, nS (by simp; omega) (by simp; omega), aA,
      j (acc ++ [qC k]) (fun z u => hk z (by simp [u])) a.2 (by rw [aM]; exact d) (by omega), shapeL]
     simp only [aM, bY, bD]
   have := EI f.Kids
   have := key f.Kids [] (fun k hk => hk) q (by simpa using by omega) (by omega)
   simpa using this
def Gf : Formula := ⟨0, 0, qT, []⟩
noncomputable def yn (f : Formula) : Formula × Int := if oO f then (if oO (qC f) then (qC f, 0) else (Gf, 12)) else (Gf, 11)
theorem LB (f : Formula) (h : Gd f) : yJ f = some (yn f) := by
 unfold yJ yn
 rw [Ej f h, aA]
 cases b : oO f
 ·rfl
 ·obtain ⟨h1, d, a⟩ := Au b
  have g := AO f
  simp only [bU, aB, aG, aN]
  rw [Pp lF f (by rw [nt]; omega) h1 a, aA, Ej (qC f) (by omega)]
  have e : (((⟨0⟩ : mh).e) != 0) = false := rfl
  simp only [e, aB, aG, aA]
  cases oO (qC f) <;> rfl
theorem zo {f : Formula} : lZ (yn f).1 ≤ 64 := by
 unfold yn
 cases h : oO f
 ·exact by simp only [aB, aG, Gf]; rw [lZ, nodesL]; omega
 ·obtain ⟨h1, a, b⟩ := Au h
  have := AO f
  simp only [aN]
  split
  ·show lZ (qC f) ≤ 64; omega
  ·rw [Gf, lZ, nodesL]; omega
theorem Q4 (f g : Formula) (a : lZ f ≤ 10000000) (b : lZ g ≤ 10000000) : yT f g = some (yn ⟨2, 0, qT, [f, g]⟩) := by
 unfold yT
 have := LB ⟨2, 0, qT, [f, g]⟩ (by show lZ _ ≤ _; rw [lZ, nodesL, nodesL, nodesL]; omega)
 rw [show (⟨2, 0, (⟨zS, zS⟩ : kD), [f, g]⟩ : Formula) = ⟨2, 0, qT, [f, g]⟩ from rfl, this]
 rfl
end Go.Proofs.YtklbhegeiijbjaaGreat
namespace Go.Proofs.YtklbhegeiijbjaaGreat
open Go.RowKit
mutual
def qW (v : kD → Bool) : Formula → Bool
 | ⟨o, k, r, ks⟩ => if o = 1 then v r else if o = 2 then decide (evN v ks = ks.length) else if o = 3 then decide (0 < evN v ks) else decide (k ≤ (evN v ks : Int))
def evN (v : kD → Bool) : List Formula → Nat
 | [] => 0
 | k :: ks => (if qW v k then 1 else 0) + evN v ks
end
theorem wR (v : kD → Bool) (f : Formula) : qW v f = if f.Op = 1 then v f.kD else if f.Op = 2 then decide (evN v f.Kids = f.Kids.length) else if f.Op = 3 then decide (0 < evN v f.Kids) else decide (f.K ≤ (evN v f.Kids : Int)) := by cases f; rw [qW]
theorem Hp (v : kD → Bool) : ∀ ks : List Formula, evN v ks ≤ ks.length
 | [] => by rw [evN]; exact aZ _
 | k :: ks => by have := Hp v ks; rw [evN, aJ]; split <;> omega
theorem HY (v : kD → Bool) : ∀ ks : List Formula, evN v ks = ks.length ↔ ∀ k ∈ ks, qW v k = true
 | [] => by rw [evN]; simp
 | k :: ks => by
  have h1 := Hp v ks
  have a := HY v ks
  rw [evN, aJ]
  simp only [jy, ← a]
  cases qW v k <;> simp <;> omega
theorem H0 (v : kD → Bool) : ∀ ks : List Formula, 0 < evN v ks ↔ ∃ k ∈ ks, qW v k = true
 | [] => by rw [evN]; simp
 | k :: ks => by
  have a := H0 v ks
  rw [evN]
  simp only [aQ, exists_eq_or_imp, ← a]
  cases qW v k <;> simp <;> omega
theorem HA (v : kD → Bool) (ks : List Formula) : evN v ks = (ks.filter (qW v)).length := by
 induction ks with
 | nil => rw [evN]; rfl
 | cons k ks ih => rw [evN, ih, eF]; cases qW v k <;> simp <;> omega
theorem Py (v : kD → Bool) {a b : List Formula} (h : a.Perm b) : evN v a = evN v b := by
 rw [HA, HA]; exact (h.filter _).length_eq
theorem Q1 {v w : kD → Bool} (h : ∀ r, v r = true → w r = true) : ∀ f : Formula, qW v f = true → qW w f = true := by
 refine JM fun f ih => ?_
 have key : evN v f.Kids ≤ evN w f.Kids := by
  have : ∀ ks : List Formula, (∀ k ∈ ks, qW v k = true → qW w k = true) → evN v ks ≤ evN w ks := by
   intro ks
   induction ks with
   | nil => intro _; rw [evN, evN]; exact aZ _
   | cons k ks a =>
    intro hk
    have h1 := a (fun x g => hk x (by simp [g]))
    have b := hk k (by simp)
    rw [evN, evN]
    cases d : qW v k
    ·simp; omega
    ·rw [b d]; simp; omega
  exact this _ ih
 have hle := Hp w f.Kids
 rw [wR, wR]
 split
 ·exact h _
 ·split
  ·simp only [bO]; omega
  ·split
   ·simp only [bO]; omega
   ·simp only [bO]; omega
theorem EL (v : kD → Bool) (f1 : kD → Option Bool) (rec : Formula → (kD → Option Bool) → Option Bool) (f : Formula) : ∀ (ks : List Formula) (x : Nat), (∀ k ∈ ks, rec k f1 = some (qW v k)) → x + ks.length ≤ 100000000 →
  qm rec f1 f ks (x : Int) = some (if f.Op = 2 then decide (x + evN v ks = f.Kids.length) else if f.Op = 3 then decide (0 < x + evN v ks) else decide (f.K ≤ ((x + evN v ks : Nat) : Int)))
 | [], x, _, _ => by
  rw [qm, evN, jh]
  by_cases c2 : f.Op = 2
  ·simp only [c2, bA, aN]
   congr 1
   rw [bT, iY, bO]; omega
  ·have b : (f.Op == 2) = false := by simpa using c2
   simp only [b, aB, aG, c2]
   by_cases a : f.Op = 3
   ·simp only [a, bA, aN]
    congr 1
    rw [bT, bO, bO]; omega
   ·have g : (f.Op == 3) = false := by simpa using a
    simp only [g, aB, aG, a]
 | k :: ks, x, h, i => by
  rw [aJ] at i
  rw [qm, h k (by simp), aA, evN]
  cases qW v k
  ·simp only [aB, aG]
   rw [EL v f1 rec f ks x (fun z d => h z (by simp [d])) (by omega), fO]
  ·simp only [aN]
   have e : IntKind.i64.wrap ((x : Int) + 1) = ((x + 1 : Nat) : Int) := by rw [mg (by omega) (by omega)]; omega
   rw [e, EL v f1 rec f ks (x + 1) (fun z d => h z (by simp [d])) (by omega)]
   have b : x + 1 + evN v ks = x + (1 + evN v ks) := by omega
   rw [b]
theorem NR (v : kD → Bool) (f1 : kD → Option Bool) (i : ∀ r, f1 r = some (v r)) : ∀ (n : Nat) (f : Formula), oW f ≤ n → Gd f → qU n f f1 = some (qW v f) := by
 intro n
 induction n with
 | zero => intro f h; rw [nQ] at h; omega
 | succ n ih =>
  intro f b d
  rw [nQ] at b
  have g := pe f
  have j := qP f.Kids
  unfold Gd at d
  rw [qU]
  unfold wz
  rw [wR]
  by_cases c1 : f.Op = 1
  ·simp only [c1, bA, aN, i, aA]
  ·have a : (f.Op == 1) = false := by simpa using c1
   simp only [a, aB, aG, c1]
   have := EL v f1 (qU n) f f.Kids 0 (fun k hk => ih k (by have := rV hk; omega) (by have := uB hk; unfold Gd; omega)) (by omega)
   simpa using this
def xT (v : kD → Bool) (f : Formula) : Bool := oO f && qW v f
theorem Mr (v : kD → Bool) (f1 : kD → Option Bool) (a : ∀ r, f1 r = some (v r)) (f : Formula) (h : Gd f) : wc f f1 = some (xT v f) := by
 unfold wc xT
 rw [Ej f h, aA]
 have := xf f
 cases oO f
 ·rfl
 ·unfold Gd at h
  simp only [aN, NR v f1 a lF f (by rw [nt]; omega) h, aA, eO]
theorem Hh (op : Int) (f : Formula) : mN op f = true ↔ f.Op = op ∧ f.Kids = [] := by
 unfold mN; simp
theorem IG (v : kD → Bool) {f : Formula} (h : mN 2 f = true) : qW v f = true := by
 obtain ⟨h1, a⟩ := (Hh 2 f).1 h
 rw [wR, h1, a, evN]; rfl
theorem IU (v : kD → Bool) {f : Formula} (h : mN 3 f = true) : qW v f = false := by
 obtain ⟨h1, a⟩ := (Hh 3 f).1 h
 rw [wR, h1, a, evN]; rfl
def uZ (v : kD → Bool) (ks : List Formula) : Bool := ks.all (qW v)
def vB (v : kD → Bool) (ks : List Formula) : Bool := ks.any (qW v)
theorem Lz (v : kD → Bool) (k : Int) (r : kD) (ks : List Formula) : qW v ⟨2, k, r, ks⟩ = uZ v ks := by
 rw [wR, bT]; simp [uZ, HY]
theorem Ou (v : kD → Bool) (k : Int) (r : kD) (ks : List Formula) : qW v ⟨3, k, r, ks⟩ = vB v ks := by
 rw [wR, bT]; simp [vB, H0]
theorem JT (v : kD → Bool) : ∀ ks : List Formula, uZ v (oZ 2 ks) = uZ v ks
 | [] => rfl
 | k :: ks => by
  have ih := JT v ks
  unfold uZ at ih ⊢
  rw [oZ, List.all_append, ih, jw]
  congr 1
  split
  ·rename_i h
   obtain ⟨o, n, r, l⟩ := k
   simp only at h; subst h
   exact (Lz v n r l).symm
  ·simp
theorem JK (v : kD → Bool) : ∀ ks : List Formula, vB v (oZ 3 ks) = vB v ks
 | [] => rfl
 | k :: ks => by
  have ih := JK v ks
  unfold vB at ih ⊢
  rw [oZ, List.any_append, ih, iS]
  congr 1
  split
  ·rename_i h
   obtain ⟨o, n, r, l⟩ := k
   simp only at h; subst h
   exact (Ou v n r l).symm
  ·simp
theorem NV (l : List Formula) (x : Formula) : x ∈ dd rr (vU l) ↔ x ∈ l := by
 rw [J7 (fun _ _ => Am), (zr l).mem_iff]
theorem Og {v : kD → Bool} {a b : List Formula} (h : ∀ x, x ∈ a ↔ x ∈ b) : uZ v a = uZ v b := by
 unfold uZ; rw [bT, gP, gP]
 exact ⟨fun q x d => q x ((h x).2 d), fun q x d => q x ((h x).1 d)⟩
theorem N1 {v : kD → Bool} {a b : List Formula} (h : ∀ x, x ∈ a ↔ x ∈ b) : vB v a = vB v b := by
 unfold vB; rw [bT, fB, fB]
 exact ⟨fun ⟨x, d, q⟩ => ⟨x, (h x).1 d, q⟩, fun ⟨x, d, q⟩ => ⟨x, (h x).2 d, q⟩⟩
theorem HF (v : kD → Bool) (ks : List Formula) : qW v (qa 2 ks) = uZ v ks := by
 rw [← JT]
 unfold qa
 split
 ·rename_i h
  rw [show (5 - 2 : Int) = 3 from rfl, Ou]
  obtain ⟨x, a, he⟩ := fB.1 h
  have : uZ v (oZ 2 ks) = false := by
   unfold uZ; rw [List.all_eq_false]; exact ⟨x, a, by rw [IU v he]; simp⟩
  rw [this]; rfl
 ·rw [← Og (NV (oZ 2 ks))]
  generalize dd rr (vU (oZ 2 ks)) = r
  split
  ·simp [uZ]
  ·exact Lz v 0 qT r
theorem Hw (v : kD → Bool) (ks : List Formula) : qW v (qa 3 ks) = vB v ks := by
 rw [← JK]
 unfold qa
 split
 ·rename_i h
  rw [show (5 - 3 : Int) = 2 from rfl, Lz]
  obtain ⟨x, a, he⟩ := fB.1 h
  have : vB v (oZ 3 ks) = true := by
   unfold vB; rw [fB]; exact ⟨x, a, IG v he⟩
  rw [this]; rfl
 ·rw [← N1 (NV (oZ 3 ks))]
  generalize dd rr (vU (oZ 3 ks)) = r
  split
  ·simp [vB]
  ·exact Ou v 0 qT r
theorem I1 (v : kD → Bool) : ∀ ks : List Formula, evN v ks = (ks.filter (mN 2)).length + evN v (ks.filter fun x => !mN 2 x && !mN 3 x)
 | [] => rfl
 | k :: ks => by
  have ih := I1 v ks
  rw [evN, eF, eF, ih]
  cases a : mN 2 k
  ·cases b : mN 3 k
   ·simp only [cZ, kd, aB, aG, aN]
    rw [evN]; omega
   ·rw [IU v b]; simp
  ·rw [IG v a]; simp; omega
theorem Na (v : kD → Bool) (k : Int) (ks : List Formula) : qW v (uh k ks) = decide (k ≤ (evN v ks : Int)) := by
 have b := I1 v ks
 unfold uh
 simp only
 generalize a : ks.filter (fun x => !mN 2 x && !mN 3 x) = l at *
 generalize (ks.filter (mN 2)).length = m at *
 have hle := Hp v l
 have ha := HY v l
 have hp := H0 v l
 split
 ·rw [Lz]; simp [uZ]; omega
 ·split
  ·rw [Ou]; simp [vB]; omega
  ·split
   ·rw [HF, bT, bO]
    unfold uZ
    rw [gP, ← ha]; omega
   ·split
    ·rw [Hw, bT, bO]
     unfold vB
     rw [fB, ← hp]; omega
    ·rw [wR]
     simp only [Py v (zr l)]
     have : ¬ ((4 : Int) = 1) := by omega
     have : ¬ ((4 : Int) = 2) := by omega
     have : ¬ ((4 : Int) = 3) := by omega
     simp only [*, aG]
     rw [bT, bO, bO]; omega
theorem O6 (v : kD → Bool) : ∀ f : Formula, ux f = true → qW v (qC f) = qW v f := by
 refine JM fun f ih hw => ?_
 obtain ⟨h1, g, i⟩ := yA hw
 rw [Fg, gP] at g
 have key : ∀ ks : List Formula, (∀ k ∈ ks, qW v (qC k) = qW v k) → evN v (shapeL ks) = evN v ks ∧ uZ v (shapeL ks) = uZ v ks ∧ vB v (shapeL ks) = vB v ks := by
  intro ks
  induction ks with
  | nil => intro _; rw [shapeL]; exact ⟨rfl, rfl, rfl⟩
  | cons k ks d =>
   intro hk
   obtain ⟨a, b, c⟩ := d (fun x j => hk x (by simp [j]))
   have h := hk k (by simp)
   unfold uZ vB at *
   rw [shapeL, evN, evN, a, h, jw, jw, iS, iS, b, c, h]
   exact ⟨rfl, rfl, rfl⟩
 obtain ⟨a, b, c⟩ := key f.Kids (fun k hk => ih k hk (g k hk))
 obtain ⟨o, n, r, l⟩ := f
 simp only at *
 rw [A4]
 simp only
 rcases i with h | h | h
 ·simp only [h.1, aN]
 ·rcases h.1 with h | h
  ·subst h
   rw [Lz]
   exact (HF v _).trans b
  ·subst h
   rw [Ou]
   exact (Hw v _).trans c
 ·obtain ⟨h, _⟩ := h
  subst h
  rw [wR v ⟨4, n, r, l⟩]
  exact (Na v n _).trans (by rw [a]; rfl)
theorem NH {f g : Formula} (h : yn f = (g, 0)) : oO f = true ∧ oO g = true ∧ ∀ v, qW v g = qW v f := by
 unfold yn at h
 cases a : oO f
 ·rw [a] at h; simp at h
 ·rw [a] at h
  simp only [aN] at h
  cases b : oO (qC f)
  ·rw [b] at h; simp at h
  ·rw [b] at h
   simp only [aN, Prod.mk.injEq] at h
   obtain ⟨rfl, _⟩ := h
   exact ⟨rfl, b, fun v => O6 v f (Au a).2.2⟩
end Go.Proofs.YtklbhegeiijbjaaGreat
namespace Go.Proofs.YtklbhegeiijbjaaGreat
open Go.RowKit
structure PB (p : lW) : Prop where
 DZ : p.kQ.length ≤ 2000000
 Ia : p.li.length ≤ 2000000
 rel : ∀ x ∈ p.kQ, lZ x.kJ ≤ 10000000
 Gz : ∀ a ∈ p.li, lZ a.kJ ≤ 10000000
 P4 : ∀ a ∈ p.li, a.nf.length ≤ 2000000
theorem Ki (f : lm → Option Bool) : ∀ (l : List lm) (i : Nat), ow f l i = An f l i
 | [], i => by rw [ow]; rfl
 | x :: l, i => by
  rw [ow, An]
  cases f x with
  | none => rfl
  | some b =>
   simp only [aA]
   rw [Ki f l (i + 1)]
theorem JJ (f : nY → Option Bool) : ∀ (l : List nY) (i : Nat), pb f l i = An f l i
 | [], i => by rw [pb]; rfl
 | x :: l, i => by
  rw [pb, An]
  cases f x with
  | none => rfl
  | some b =>
   simp only [aA]
   rw [JJ f l (i + 1)]
def AJ (p : lW) (c : kF) : Option lm := p.kQ.find? fun x => ng x.Signed.kF c
theorem Ro (p : lW) (c : kF) : ∃ z, zB p c = some (match AJ p c with | some x => (x, true) | none => (z, false)) := by
 unfold zB ue AJ
 rw [Ki]
 rcases D0 (fun x => xm x c) (fun x => ng x.Signed.kF c) p.kQ 0 (fun x _ => rfl) with ⟨e, h1⟩ | ⟨A, x, B, hp, h1, b, e⟩
 ·rw [e, aA, ja.2 (fun x a => by rw [h1 x a]; simp)]
  exact ⟨_, rfl⟩
 ·rw [e, aA, hp, jX, ja.2 (fun x a => by rw [h1 x a]; simp), gU, b]
  have : ¬ (((0 + A.length : Nat) : Int) < 0) := by omega
  simp only [this, cC, aB, aG]
  rw [nL A x B _ (by omega)]
  exact ⟨x, rfl⟩
def SB : nY := ⟨⟨zS, zS⟩, ⟨0, 0, ⟨zS, zS⟩, []⟩, []⟩
theorem JQ (f : nY → Option Bool) : ∀ (n : Nat) (l : List nY) (i j : Int), oS f n l i j = D2 f SB n l i j
 | 0, _, _, _ => rfl
 | n + 1, l, i, j => by
  rw [oS, D2]
  simp only [JQ f n]
  rfl
def zD (p : lW) (c : kF) : List nY := p.li.filter fun a => sF ng a.nf c
theorem Ps (p : lW) (hp : PB p) (c : kF) : yV p c = some (zD p c) := by
 have := hp.Ia
 unfold yV vz zD
 rw [nS (by simp; omega) (by simp; omega)]
 simp only [aA, bD, pW]
 have : sI p.li (fun x => tj x c) = Ik (fun x => tj x c) SB p.li := by
  unfold sI Ik vM
  simp only [JJ, JQ]
 rw [this, J3 _ (fun a => !sF ng a.nf c) SB _ (by omega) (fun a _ => by unfold tj wG; rw [pW, Pc]; rfl)]
 simp only [jo]
noncomputable def qe : Formula × Int → List Formula → Formula × Int
 | t, [] => t
 | t, g :: l => if t.2 = 0 then qe (yn ⟨2, 0, qT, [t.1, g]⟩) l else t
theorem Lu : ∀ (l : List Formula) (e o k : Int) (r : kD) (ks : List Formula), (∀ g ∈ l, lZ g ≤ 10000000) → lZ ⟨o, k, r, ks⟩ ≤ 64 →
  uC l e o k r ks = some ((qe (⟨o, k, r, ks⟩, e) l).2, (qe (⟨o, k, r, ks⟩, e) l).1.Op, (qe (⟨o, k, r, ks⟩, e) l).1.K, (qe (⟨o, k, r, ks⟩, e) l).1.kD, (qe (⟨o, k, r, ks⟩, e) l).1.Kids)
 | [], e, o, k, r, ks, _, _ => by rw [uC, qe]
 | g :: l, e, o, k, r, ks, h, n => by
  rw [uC, qe]
  by_cases c : e = 0
  ·have a : (e != 0) = false := by simp [c]
   simp only [a, aB, aG, c, aN]
   rw [Q4 _ g (by omega) (h g (by simp)), aA]
   have d := zo (f := ⟨2, 0, qT, [⟨o, k, r, ks⟩, g]⟩)
   generalize yn ⟨2, 0, qT, [⟨o, k, r, ks⟩, g]⟩ = q at *
   obtain ⟨⟨j, k', m, b⟩, e'⟩ := q
   exact Lu l e' j k' m b (fun z i => h z (by simp [i])) d
  ·have a : (e != 0) = true := by simp [c]
   simp only [a, aN, c, aG]
noncomputable def Dg (g : Formula) (l : List Formula) : Formula × Int := if (qe (yn g) l).2 = 0 then qe (yn g) l else (Gf, (qe (yn g) l).2)
theorem QU (g : Formula) (l : List Formula) (m : lZ g ≤ 10000000) (h : ∀ x ∈ l, lZ x ≤ 10000000) : wZ (g :: l) = some (Dg g l) := by
 unfold wZ Dg
 have b : mP (g :: l) 0 = some g := nL [] g l 0 rfl
 have a : rh (decide (0 ≤ 1) && decide ((1 : Int) ≤ ((g :: l).length : Int))) = some () := by
  rw [aJ]
  have : (1 : Int) ≤ ((l.length + 1 : Nat) : Int) := by omega
  simp [rh]; omega
 have i := zo (f := g)
 rw [b, aA, LB g (by unfold Gd; omega), aA, a, aA]
 generalize yn g = q at *
 obtain ⟨⟨o, k, r, ks⟩, e⟩ := q
 have d : (g :: l).drop (Int.toNat 1) = l := rfl
 rw [d, Lu l e o k r ks h i, aA]
 generalize qe (⟨o, k, r, ks⟩, e) l = t
 obtain ⟨⟨n, k', p, j⟩, e'⟩ := t
 by_cases c : e' = 0
 ·subst c; rfl
 ·have a : (e' != 0) = true := by simp [c]
  simp only [a, aN, c, aG]; rfl
noncomputable def qo (p : lW) (c : kF) : Formula × Int := match AJ p c with | none => (Gf, 42) | some x => Dg x.kJ ((zD p c).map (·.kJ))
theorem Oq : ∀ (l : List nY) (acc : List Formula), acc.length + l.length ≤ 3000000 → vk l acc = wZ (acc ++ l.map (·.kJ))
 | [], acc, _ => by
  rw [vk, gI, bG]
  cases wZ acc <;> rfl
 | a :: l, acc, h => by
  rw [aJ] at h
  rw [vk, nS (by simp; omega) (by simp; omega), aA, Oq l _ (by simp; omega)]
  simp
theorem Pq {p : lW} {c : kF} {x : lm} (h : AJ p c = some x) : x ∈ p.kQ ∧ x.Signed.kF = c := by
 unfold AJ at h
 have h1 := List.mem_of_find?_eq_some h
 have a := List.find?_some h
 exact ⟨h1, om.1 a⟩
theorem Sw (p : lW) (hp : PB p) (c : kF) : BA p c = some (qo p c) := by
 unfold BA qo
 obtain ⟨z, e⟩ := Ro p c
 rw [e, aA]
 cases h : AJ p c with
 | none => rfl
 | some x =>
  simp only [bU, aB, aG]
  have d := Pq h
  have i : (zD p c).length ≤ p.li.length := gD _ _
  have := hp.Ia
  rw [Ps p hp c, aA, Oq _ _ (by simp; omega)]
  exact QU x.kJ _ (hp.rel x d.1) (fun g b => by
   obtain ⟨a, ha, rfl⟩ := bN.1 b
   exact hp.Gz a (cH.1 ha).1)
theorem IB (p : lW) (c : kF) : lZ (qo p c).1 ≤ 64 := by
 have a : lZ Gf ≤ 64 := by rw [Gf, lZ, nodesL]; omega
 have b : ∀ (l : List Formula) (t : Formula × Int), lZ t.1 ≤ 64 → lZ (qe t l).1 ≤ 64 := by
  intro l
  induction l with
  | nil => intro t h; exact h
  | cons g l ih =>
   intro t h
   rw [qe]
   split
   ·exact ih _ zo
   ·exact h
 unfold qo
 split
 ·exact a
 ·unfold Dg
  split
  ·exact b _ _ zo
  ·exact a
theorem Ko : ∀ (l : List Formula) (f : Formula) (e : Int), (qe (f, e) l).2 = 0 → e = 0 ∧ (oO f = true → oO (qe (f, e) l).1 = true ∧ ∀ v, qW v (qe (f, e) l).1 = (qW v f && l.all (qW v)))
 | [], f, e, h => by rw [qe] at *; exact ⟨h, fun j => ⟨j, fun v => by simp⟩⟩
 | g :: l, f, e, h => by
  rw [qe] at *
  by_cases c : e = 0
  ·simp only [c, aN] at h ⊢
   cases a : yn ⟨2, 0, qT, [f, g]⟩ with
   | mk q e' =>
    rw [a] at h
    obtain ⟨h1, i⟩ := Ko l q e' h
    subst h1
    obtain ⟨k, a2, a3⟩ := NH a
    obtain ⟨b, d⟩ := i a2
    refine ⟨trivial, fun _ => ⟨b, fun v => ?_⟩⟩
    rw [d v, a3 v, Lz]
    simp [uZ, jm]
  ·simp only [c, aG] at h
theorem NN {p : lW} {c : kF} (h : (qo p c).2 = 0) : oO (qo p c).1 = true ∧ ∃ x, AJ p c = some x ∧ ∀ v, qW v (qo p c).1 = (qW v x.kJ && (zD p c).all fun a => qW v a.kJ) := by
 unfold qo at *
 cases g : AJ p c with
 | none => rw [g] at h; simp at h
 | some x =>
  rw [g] at h
  simp only at h ⊢
  unfold Dg at *
  by_cases b : (qe (yn x.kJ) ((zD p c).map (·.kJ))).2 = 0
  ·simp only [b, aN] at h ⊢
   cases d : yn x.kJ with
   | mk q e =>
    rw [d] at b
    obtain ⟨h1, k⟩ := Ko _ q e b
    subst h1
    obtain ⟨l, a2, a3⟩ := NH d
    obtain ⟨i, j⟩ := k a2
    refine ⟨i, x, rfl, fun v => ?_⟩
    rw [j v, a3 v, List.all_map]
    rfl
  ·simp only [b, aG] at h
def vF (F : List lf) (peer : ByteArray) (r : kD) : Bool := sF BG F ⟨r, peer⟩
theorem QL {l : List kF} {F : List lf} (h : J5 l F) (peer : ByteArray) : ∃ m, vX l peer = some m ∧ ∀ r, qV r m.1 m.2.1 m.2.2.1 m.2.2.2.1 m.2.2.2.2.1 m.2.2.2.2.2.1 m.2.2.2.2.2.2 = some (vF F peer r) := by
 obtain ⟨m, e, _, a⟩ := h.TQ
 unfold vX
 rw [e, aA]
 refine ⟨_, rfl, fun r => ?_⟩
 unfold qV
 rw [pW]
 exact a r peer
noncomputable def AN (p : lW) (v : kD → Bool) (x : lm) : Bool := decide ((qo p x.Signed.kF).2 = 0) && xT v (qo p x.Signed.kF).1
theorem Dk (p : lW) (hp : PB p) (v : kD → Bool) (m) (a : ∀ r, qV r m.1 m.2.1 m.2.2.1 m.2.2.2.1 m.2.2.2.2.1 m.2.2.2.2.2.1 m.2.2.2.2.2.2 = some (v r)) : ∀ (l : List lm) (acc : List kF), acc.length + l.length ≤ 1000000000 →
  se p m l acc = zM (acc ++ (l.filter (AN p v)).map (·.Signed.kF))
 | [], acc, _ => by
  rw [se, jD, gI, bG, pW]
 | x :: l, acc, h => by
  rw [aJ] at h
  have b := IB p x.Signed.kF
  rw [se, Sw p hp, aA, Mr v _ a _ (by unfold Gd; omega), eF]
  unfold AN
  by_cases c : (qo p x.Signed.kF).2 = 0
  ·simp only [c, bA, aN, bZ, eO, aA]
   cases d : xT v (qo p x.Signed.kF).1
   ·simp only [aB, aG]
    exact Dk p hp v m a l acc (by omega)
   ·simp only [aN]
    rw [nS (by simp; omega) (by simp; omega), aA, Dk p hp v m a l _ (by simp; omega)]
    simp only [bP, aM, bY, bD]
    rfl
  ·have e : ((qo p x.Signed.kF).2 == 0) = false := by simpa using c
   simp only [e, aB, aG, c, cC, iK, aA]
   exact Dk p hp v m a l acc (by omega)
theorem Qy (p : lW) (hp : PB p) {l : List kF} {F : List lf} (h : J5 l F) (peer : ByteArray) : ∃ s, tI p l peer = some s ∧ Ks ((p.kQ.filter (AN p (vF F peer))).map (·.Signed.kF)) s := by
 obtain ⟨m, e, a⟩ := QL h peer
 have := hp.DZ
 unfold tI
 rw [e, aA, Dk p hp _ m a p.kQ [] (by simp; omega), bD]
 have h1 : (p.kQ.filter (AN p (vF F peer))).length ≤ p.kQ.length := gD _ _
 exact RE _ (by simp; omega)
end Go.Proofs.YtklbhegeiijbjaaGreat
namespace Go.Proofs.YtklbhegeiijbjaaGreat
open Go.RowKit
structure PG (p : lW) : Prop extends PB p where
 Ui : ∀ x ∈ p.kQ, yW x.Signed.kF ≤ 1000000000
 Uw : ∀ a ∈ p.li, ∀ c ∈ a.nf, yW c ≤ 1000000000
end Go.Proofs.YtklbhegeiijbjaaGreat
namespace Go.Proofs.YtklbhegeiijbjaaGreat
open Go.RowKit
def gA : kD := ⟨⟨#[97]⟩, ⟨#[114]⟩⟩
def gB : kD := ⟨⟨#[98]⟩, ⟨#[115]⟩⟩
def gX : kD := ⟨⟨#[120]⟩, ⟨#[121]⟩⟩
def Uh : Formula := ⟨1, 0, gA, []⟩
def Un : Formula := ⟨1, 0, gB, []⟩
def gc : kF := ⟨1, gX, ⟨#[109, 101]⟩, ⟨zS, zS⟩, ⟨zS, zS⟩, zS⟩
def gx : lm := ⟨⟨gc, List.replicate 8 0⟩, Un⟩
def gk : nY := ⟨gX, Uh, [gc]⟩
def gp : lW := ⟨⟨#[109, 101]⟩, [gx], [gk]⟩
def MK : ByteArray := ⟨#[121, 111, 117]⟩
def gm (r : kD) : kF := ⟨1, r, MK, ⟨zS, zS⟩, ⟨zS, zS⟩, zS⟩
theorem gv {l : List kF} {F : List lf} (h : J5 l F) (d : ∀ c ∈ l, c.Kind = 1) (r : kD) : vF F MK r = true ↔ ∃ c ∈ l, mS c = true ∧ c.Head = r ∧ c.ma = MK := by
 unfold vF
 rw [tk wX, (h.xG (l.filter mS) (fun c => by rw [cH])).2]
 constructor
 ·intro g
  generalize j : (⟨r, MK⟩ : lf) = f at g
  cases g with
  | mem c a hk =>
   rw [cH] at a
   injection j with h1 i
   exact ⟨c, a.1, a.2, h1.symm, i.symm⟩
  | inc c w a hk _ => rw [d c (cH.1 a).1] at hk; exact absurd hk (by decide)
  | F0 c b w a hk _ _ => rw [d c (cH.1 a).1] at hk; exact absurd hk (by decide)
  | both c w a hk _ _ => rw [d c (cH.1 a).1] at hk; exact absurd hk (by decide)
 ·rintro ⟨c, a, k, rfl, hw⟩
  rw [← hw]
  exact .mem c (cH.2 ⟨a, k⟩) (d c a)
end Go.Proofs.YtklbhegeiijbjaaGreat
namespace Go.Proofs.YtklbhegeiijbjaaGreat
open Go.RowKit
noncomputable def vD (l : List kF) (peer : ByteArray) (r : kD) : Bool := @decide (pP (l.filter mS) ⟨r, peer⟩) (Classical.propDecidable _)
theorem E9 (l : List kF) (peer : ByteArray) (r : kD) : vD l peer r = true ↔ pP (l.filter mS) ⟨r, peer⟩ := by unfold vD; simp
theorem Qu {l m : List kF} (h : ∀ c ∈ l, c ∈ m) (peer : ByteArray) (r : kD) (b : vD l peer r = true) : vD m peer r = true := by
 rw [E9] at *
 exact b.mono (fun c a => by rw [cH] at *; exact ⟨h c a.1, a.2⟩)
theorem Te (l : List kF) (h : l.length ≤ 1000000) (peer : ByteArray) : ∃ m, vX l peer = some m ∧ ∀ r, qV r m.1 m.2.1 m.2.2.1 m.2.2.2.1 m.2.2.2.2.1 m.2.2.2.2.2.1 m.2.2.2.2.2.2 = some (vD l peer r) := by
 obtain ⟨C, T, i, ws, n, e, m, d, _⟩ := MM l h
 unfold vX
 rw [e, aA]
 refine ⟨_, rfl, fun r => ?_⟩
 unfold qV
 rw [pW]
 obtain ⟨b, a, g⟩ := NY m C i ws [] n r peer
 rw [a]
 congr 1
 rw [bT, g, E9]
 exact pP.congr (fun c => by rw [d, cH]) _
noncomputable def Nv (p : lW) (v : kD → Bool) (c : kF) : Bool := decide ((qo p c).2 = 0) && xT v (qo p c).1
theorem OZ {p : lW} {v w : kD → Bool} (h : ∀ r, v r = true → w r = true) (c : kF) (a : Nv p v c = true) : Nv p w c = true := by
 unfold Nv xT at *
 simp only [bJ, bO] at *
 exact ⟨a.1, a.2.1, Q1 h _ a.2.2⟩
def qN (s : List kF) : Prop := s.Pairwise (fun a b => BZ a b = true) ∧ ∀ c ∈ s, mS c = true
theorem qN.nodup {s : List kF} (h : qN s) : s.Nodup := vL DJ h.2 h.1
theorem qN.le {s t : List kF} (h : qN s) (a : ∀ c ∈ s, c ∈ t) : s.length ≤ t.length := nm h.nodup a
theorem qN.ext {s t : List kF} (h : qN s) (k : qN t) (b : ∀ c, c ∈ s ↔ c ∈ t) : s = t :=
 xu.unique DJ (l := t) ⟨h.1, fun x => ⟨fun a => ⟨(b x).1 a, h.2 x a⟩, fun a => (b x).2 a.1⟩⟩ ⟨k.1, fun x => ⟨fun a => ⟨a, k.2 x a⟩, fun a => a.1⟩⟩
theorem qN.eq {s t : List kF} (h : qN s) (k : qN t) (b : ∀ c ∈ s, c ∈ t) (i : t.length ≤ s.length) : s = t := by
 refine h.ext k fun c => ⟨b c, fun d => ?_⟩
 refine gE fun g => ?_
 have := nm (l := c :: s) (m := t) (eB.2 ⟨g, h.nodup⟩) (fun x a => by
  rcases aQ.1 a with rfl | a
  ·exact d
  ·exact b x a)
 simp at this; omega
theorem qN.nil : qN [] := ⟨by simp, by simp⟩
theorem qN.filter {s : List kF} (h : qN s) (p : kF → Bool) : qN (s.filter p) := ⟨h.1.filter _, fun c a => h.2 c (cH.1 a).1⟩
def EB (p : lW) (c : kF) : Prop := ∃ x ∈ p.kQ, x.Signed.kF = c
def uk (p : lW) (l : List kF) (peer : ByteArray) (c : kF) : Prop := EB p c ∧ mS c = true ∧ Nv p (vD l peer) c = true
theorem xe {p : lW} {l m : List kF} (h : ∀ c ∈ l, c ∈ m) {peer : ByteArray} {c : kF} (a : uk p l peer c) : uk p m peer c := ⟨a.1, a.2.1, OZ (Qu h peer) c a.2.2⟩
theorem zm {p : lW} {s : List kF} (h : qN s) (b : ∀ c ∈ s, EB p c) : s.length ≤ p.kQ.length := by
 have := h.le (t := p.kQ.map (·.Signed.kF)) (fun c a => by obtain ⟨x, d, e⟩ := b c a; exact bN.2 ⟨x, d, e⟩)
 simpa using this
theorem Jt (p : lW) (hp : PB p) (l : List kF) (n : l.length ≤ 1000000) (peer : ByteArray) : ∃ s, tI p l peer = some s ∧ qN s ∧ (∀ c, c ∈ s ↔ uk p l peer c) ∧ s.length ≤ p.kQ.length := by
 obtain ⟨m, e, q⟩ := Te l n peer
 have := hp.DZ
 unfold tI
 rw [e, aA, Dk p hp _ m q p.kQ [] (by simp; omega), bD]
 have h1 : (p.kQ.filter (AN p (vD l peer))).length ≤ p.kQ.length := gD _ _
 obtain ⟨s, j, a⟩ := RE ((p.kQ.filter (AN p (vD l peer))).map (·.Signed.kF)) (by simp; omega)
 have i : qN s := ⟨a.1, fun c d => ((a.2 c).1 d).2⟩
 have hm : ∀ c, c ∈ s ↔ uk p l peer c := fun c => by
  rw [a.2, bN]
  constructor
  ·rintro ⟨⟨x, h, rfl⟩, g⟩
   obtain ⟨k, b⟩ := cH.1 h
   exact ⟨⟨x, k, rfl⟩, g, b⟩
  ·rintro ⟨⟨x, h, rfl⟩, g, b⟩
   exact ⟨⟨x, cH.2 ⟨h, b⟩, rfl⟩, g⟩
 exact ⟨s, j, i, hm, zm i (fun c d => ((hm c).1 d).1)⟩
structure NQ (a b : lW) (x y : List kF) : Prop where
 sx : qN x
 sy : qN y
 fx : ∀ c, c ∈ x ↔ uk a y b.Name c
 fy : ∀ c, c ∈ y ↔ uk b x a.Name c
 least : ∀ X Y : List kF, (∀ c, uk a Y b.Name c → c ∈ X) → (∀ c, uk b X a.Name c → c ∈ Y) → (∀ c ∈ x, c ∈ X) ∧ (∀ c ∈ y, c ∈ Y)
theorem NQ.ly {a b : lW} {x y : List kF} (h : NQ a b x y) : y.length ≤ b.kQ.length := zm h.sy (fun c d => ((h.fy c).1 d).1)
theorem IR (a b : lW) (ha : PB a) (u : PB b) (F : a.kQ.length ≤ 600000) (G : b.kQ.length ≤ 600000) : ∀ (n : Nat) (x y : List kF) (i : Int), qN x → qN y → (∀ c ∈ x, uk a y b.Name c) → (∀ c ∈ y, uk b x a.Name c) →
  (∀ X Y : List kF, (∀ c, uk a Y b.Name c → c ∈ X) → (∀ c, uk b X a.Name c → c ∈ Y) → (∀ c ∈ x, c ∈ X) ∧ (∀ c ∈ y, c ∈ Y)) → a.kQ.length + b.kQ.length < n + x.length + y.length →
  ∃ v w j, qv a b n x y i = some (v, w, j) ∧ NQ a b v w
 | 0, x, y, i, sx, sy, g, k, hm, E => by
  have h1 := zm sx (fun c d => (g c d).1)
  have D := zm sy (fun c d => (k c d).1)
  omega
 | n + 1, x, y, i, sx, sy, g, k, hm, E => by
  have h1 := zm sx (fun c d => (g c d).1)
  have D := zm sy (fun c d => (k c d).1)
  obtain ⟨p, z, sp, mp, M⟩ := Jt a ha y (by omega) b.Name
  obtain ⟨q, A, sq, l, O⟩ := Jt b u x (by omega) a.Name
  have m : ∀ c ∈ x, c ∈ p := fun c d => (mp c).2 (g c d)
  have r : ∀ c ∈ y, c ∈ q := fun c d => (l c).2 (k c d)
  have J := sx.le m
  have L := sy.le r
  rw [qv, z, aA, A, aA]
  by_cases c1 : p.length = x.length ∧ q.length = y.length
  ·have e : ((if ((p.length : Int) == (x.length : Int)) then some ((q.length : Int) == (y.length : Int)) else some false) : Option Bool) = some true := by
    rw [c1.1, c1.2]; simp
   rw [e]
   simp only [aA, aN]
   obtain rfl := sx.eq sp m (by omega)
   obtain rfl := sy.eq sq r (by omega)
   exact ⟨_, _, _, rfl, sx, sy, mp, l, hm⟩
  ·have e : ((if ((p.length : Int) == (x.length : Int)) then some ((q.length : Int) == (y.length : Int)) else some false) : Option Bool) = some false := by
    by_cases c2 : p.length = x.length
    ·have I : ¬ q.length = y.length := fun h => c1 ⟨c2, h⟩
     simp [c2]; omega
    ·have : ¬ ((p.length : Int) = (x.length : Int)) := by omega
     simp [this]
   rw [e]
   simp only [aA, aB, aG]
   refine IR a b ha u F G n p q _ sp sq (fun c d => xe r ((mp c).1 d)) (fun c d => xe m ((l c).1 d)) (fun X Y s t => ?_) (by omega)
   obtain ⟨g1, g2⟩ := hm X Y s t
   exact ⟨fun c d => s c (xe g2 ((mp c).1 d)), fun c d => t c (xe g1 ((l c).1 d))⟩
theorem Ny (a b : lW) (ha : PB a) (d : PB b) (g : a.kQ.length ≤ 600000) (h : b.kQ.length ≤ 600000) : ∃ x y j, wY a b = some (x, y, j) ∧ NQ a b x y :=
 IR a b ha d g h lF [] [] 0 qN.nil qN.nil (by simp) (by simp) (fun _ _ _ _ => by simp) (by rw [nt]; simp; omega)
end Go.Proofs.YtklbhegeiijbjaaGreat
namespace Go.Proofs.YtklbhegeiijbjaaGreat
open Go.RowKit
def tZ : Formula := ⟨2, 0, qT, []⟩
def MB (l : List lm) (d : kF) : Option Formula := (l.find? fun x => ng x.Signed.kF d).map (·.kJ)
theorem Oj (n : ByteArray) (l : List lm) (k : List nY) (c : kF) : EB ⟨n, l, k⟩ c ↔ c ∈ l.map (·.Signed.kF) := by
 unfold EB; rw [bN]
theorem Od (n : ByteArray) (l : List lm) (c : kF) : qo ⟨n, l, []⟩ c = match MB l c with | none => (Gf, 42) | some r => Dg r [] := by
 unfold qo AJ MB zD
 simp only
 cases l.find? (fun x => ng x.Signed.kF c) <;> rfl
theorem Qx : Dg tZ [] = (tZ, 0) := by
 have h1 : oO tZ = true := by decide +kernel
 have d : qC tZ = tZ := by
  rw [A4]
  have a : ¬ (tZ.Op = 1) := by decide
  have b : ¬ (tZ.Op = 4) := by decide
  simp only [a, b, aG]
  rw [show tZ.Kids = [] from rfl, shapeL]
  unfold qa
  rw [oZ]
  rfl
 have g : yn tZ = (tZ, 0) := by unfold yn; rw [h1, d, h1]; rfl
 unfold Dg
 rw [g, qe]; rfl
theorem Mw : lZ tZ ≤ 10000000 := by unfold tZ; rw [lZ, nodesL]; omega
structure PP (p : mI) : Prop where
 o : PG p.kE
 c : PG p.Client
 lo : p.kE.kQ.length ≤ 600000
 lc : p.Client.kQ.length ≤ 600000
 f : lZ p.Formula ≤ 10000000
end Go.Proofs.YtklbhegeiijbjaaGreat
namespace Go.Proofs.YtklbhegeiijbjaaGreat
open Go.RowKit
def RC : ByteArray := ⟨#[111, 119, 110]⟩
def M9 : ByteArray := ⟨#[99, 108, 105]⟩
def sY : kD := ⟨⟨#[120]⟩, ⟨#[121]⟩⟩
def sZ : kD := ⟨⟨#[120]⟩, ⟨#[122]⟩⟩
def sc : kF := ⟨1, sY, M9, ⟨zS, zS⟩, ⟨zS, zS⟩, zS⟩
def GX (r : kD) : Formula := ⟨1, 0, r, []⟩
def Ci (c : kF) (f : Formula) : lm := ⟨⟨c, List.replicate 8 0⟩, f⟩
theorem TB : mS sc = true := by decide +kernel
theorem QI (v : kD → Bool) (r : kD) : qW v (GX r) = v r := by rw [wR]; rfl
theorem Sh {c : kF} (a : mS c = true) (hk : c.Kind = 1) {l : List kF} (h : c ∈ l) : vD l c.ma c.Head = true := by
 rw [E9]
 exact .mem c (cH.2 ⟨h, a⟩) hk
theorem RO : oO (GX sY) = true := by decide +kernel
end Go.Proofs.YtklbhegeiijbjaaGreat
