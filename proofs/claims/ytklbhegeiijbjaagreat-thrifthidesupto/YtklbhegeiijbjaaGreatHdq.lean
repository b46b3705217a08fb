/- a part of a proof of ThriftHides -/
import Derived.Test.YtklbhegeiijbjaaGreatRtVq
import Derived.Test.YtklbhegeiijbjaaGreatTHMq
set_option linter.all false
namespace Go.Proofs.YtklbhegeiijbjaaGreat
open Go.IntKind renaming wrap → wi0
open Go.RowKit
theorem Gn {c x : Bool} : (if c = true then some x else some false : Option Bool) = some (c && x) := by cases c <;> rfl
theorem Vr {c x : Bool} : (if c = true then some true else some x : Option Bool) = some (c || x) := by cases c <;> rfl
theorem pz {α : Type} (x : Option α) : (x.bind fun y => some y) = x := by cases x <;> rfl
theorem ni {x : Int} (a : -9223372036854775808 ≤ x) (h1 : x ≤ 9223372036854775807) : wi0 .i64 x = x := IntWalk.i64_in _ (by omega)
theorem oU {α : Type} (A : List α) (x : α) (B : List α) (i : Int) (h : i = (A.length : Int)) : nG (A ++ x :: B) i = some x := by
 subst h; rw [HT]; simp
theorem pa : mR = 18446744073709551615 + 1 := by rw [yV]
def DV {α : Type} (f1 : α → Option Bool) (z : α) : Nat → List α → Int → Int → Option (List α)
 | 0, _, _, _ => none
 | n + 1, l, i, j => if decide (j < (l.length : Int)) then
   ((nG l j).bind fun x => (f1 x).bind fun r => if (!r) then (nG l i).bind fun _ => some (l.set (Int.toNat i) x, wi0 .i64 (i + 1)) else some (l, i) : Option (List α × Int)).bind fun (b, a) => DV f1 z n b a (wi0 .i64 (j + 1))
  else (rU (decide (0 ≤ i) && decide (i ≤ (l.length : Int)))).bind fun _ => (rU (decide (0 ≤ i) && decide (i ≤ ((pV l (Int.toNat i) z).length : Int)))).bind fun _ => some ((pV l (Int.toNat i) z).take (Int.toNat i))
theorem Bi {a b : Int} (c : 0 ≤ a) (h1 : a ≤ b) : rU (decide (0 ≤ a) && decide (a ≤ b)) = some () := by simp [rU, c, h1]
theorem Nl {α : Type} (f1 : α → Option Bool) (p : α → Bool) (z : α) : ∀ (rest out mid : List α) (n : Nat), rest.length < n → (out ++ mid ++ rest).length < 4611686018427387904 → mid ≠ [] → (∀ x ∈ rest, f1 x = some (p x)) →
  DV f1 z n (out ++ mid ++ rest) (out.length : Int) ((out.length + mid.length : Nat) : Int) = some (out ++ rest.filter fun x => !p x)
 | [], out, mid, 0, h, _, _, _ => by simp at h
 | [], out, mid, n + 1, _, b, hm, _ => by
  rw [DV, aY (by simp)]
  have h1 : out.length ≤ (out ++ mid ++ []).length := by simp
  rw [Bi (by omega) (by omega)]
  simp only [aA]
  rw [Bi (by omega) (by rw [yN _ _ _ (by simpa using h1)]; omega)]
  simp only [aA, eG]
  rw [ID _ _ _ h1]
  simp
 | x :: rest, out, mid, 0, h, _, _, _ => by simp at h
 | x :: rest, out, mid, n + 1, h, b, hm, c => by
  have hlen : (out ++ mid ++ x :: rest).length = out.length + mid.length + rest.length + 1 := by simp; omega
  rw [hlen] at b
  rw [DV, aZ (by rw [hlen]; simp; omega)]
  rw [oU (out ++ mid) x rest _ (by simp)]
  simp only [aA, c x (by simp)]
  rw [ni (x := ((out.length + mid.length : Nat) : Int) + 1) (by omega) (by omega)]
  have ih := Nl f1 p z rest
  cases hp : p x with
  | true =>
   simp only [bY, aB, aN, aA]
   have := ih out (mid ++ [x]) n (by simp at h; omega) (by simp; omega) (by simp) (fun y d => c y (by simp [d]))
   simp only [aR, cJ, bK, aD, aO, bZ] at this ⊢
   rw [show ((out.length + mid.length : Nat) : Int) + 1 = ((out.length + (mid.length + (0 + 1)) : Nat) : Int) by omega, this]
   simp [hp]
  | false =>
   obtain ⟨m, a, rfl⟩ : ∃ m a, mid = m :: a := by cases mid with
    | nil => exact absurd rfl hm
    | cons m a => exact ⟨m, a, rfl⟩
   simp only [dI, aU]
   rw [aR out (m :: a) (x :: rest), cJ]
   rw [oU out m (a ++ x :: rest) _ rfl]
   simp only [aA]
   rw [ni (x := (out.length : Int) + 1) (by omega) (by simp at b; omega)]
   have := ih (out ++ [x]) (a ++ [x]) n (by simp at h; omega) (by simp at b ⊢; omega) (by simp) (fun y d => c y (by simp [d]))
   simp only [aR, cJ, bK, aD, aO, bZ] at this
   have g : (out ++ m :: (a ++ x :: rest)).set (Int.toNat (out.length : Int)) x = out ++ x :: (a ++ x :: rest) := by
    rw [eG, List.set_append_right _ _ (bA _)]; simp
   rw [g]
   simp only [aO] at b ⊢
   rw [show (out.length : Int) + 1 = ((out.length + (0 + 1) : Nat) : Int) by omega, show ((out.length + (a.length + 1) : Nat) : Int) + 1 = ((out.length + (0 + 1) + (a.length + (0 + 1)) : Nat) : Int) by omega, this]
   simp [hp]
def Ao {α : Type} (f1 : α → Option Bool) : List α → Nat → Option Int
 | [], _ => some (-1)
 | x :: xs, i => (f1 x).bind fun r => if r then some (i : Int) else Ao f1 xs (i + 1)
theorem DU {α : Type} (f1 : α → Option Bool) (p : α → Bool) : ∀ (l : List α) (i : Nat), (∀ x ∈ l, f1 x = some (p x)) →
  (Ao f1 l i = some (-1) ∧ ∀ x ∈ l, p x = false) ∨ ∃ A x B, l = A ++ x :: B ∧ (∀ y ∈ A, p y = false) ∧ p x = true ∧ Ao f1 l i = some ((i + A.length : Nat) : Int)
 | [], i, _ => .inl ⟨rfl, by simp⟩
 | x :: l, i, h => by
  rw [Ao, h x (by simp)]
  simp only [aA]
  cases hp : p x with
  | true => exact .inr ⟨[], x, l, rfl, by simp, hp, by simp⟩
  | false =>
   simp only [aB, aN]
   rcases DU f1 p l (i + 1) (fun y a => h y (by simp [a])) with ⟨h1, b⟩ | ⟨A, y, B, rfl, h1, b, d⟩
   ·exact .inl ⟨h1, by intro y a; rcases aS.1 a with rfl | a; exact hp; exact b y a⟩
   ·refine .inr ⟨x :: A, y, B, rfl, ?_, b, ?_⟩
    ·intro z c; rcases aS.1 c with rfl | c
     ·exact hp
     ·exact h1 z c
    ·rw [d]; simp; omega
def EW {α : Type} (f1 : α → Option Bool) (z : α) (l : List α) : Option (List α) :=
 (Ao f1 l 0).bind fun a => if (a == (-1)) then some l else DV f1 z mR l a (wi0 .i64 (a + 1))
theorem yt {α : Type} (f1 : α → Option Bool) (p : α → Bool) (z : α) (l : List α) (c : l.length < 4611686018427387904) (h : ∀ x ∈ l, f1 x = some (p x)) : EW f1 z l = some (l.filter fun x => !p x) := by
 unfold EW
 rcases DU f1 p l 0 h with ⟨h1, b⟩ | ⟨A, x, B, rfl, h1, b, d⟩
 ·rw [h1]
  simp only [aA, bH, aU]
  rw [List.filter_eq_self.2 (fun y a => by simp [b y a])]
 ·rw [d]
  simp only [aA, gQ]
  rw [aY (by simp), ni (by omega) (by simp at c; omega)]
  have := Nl f1 p z B A [x] mR (by rw [yV]; simp at c; omega) (by simpa using c) (by simp) (fun y a => h y (by simp [a]))
  simp only [aR, cJ, bK, aO, bZ] at this
  rw [show (A.length : Int) + 1 = ((A.length + (0 + 1) : Nat) : Int) by omega, this]
  have g : A.filter (fun x => !p x) = A := List.filter_eq_self.2 (fun y a => by simp [h1 y a])
  rw [List.filter_append, g]
  simp [b]
def rL {α : Type} (eq : α → α → Bool) : α → List α → List α
 | _, [] => []
 | p, y :: ys => if eq y p then rL eq y ys else y :: rL eq y ys
def dd {α : Type} (eq : α → α → Bool) : List α → List α
 | [] => []
 | x :: xs => x :: rL eq x xs
def Cj {α : Type} (eq : α → α → Bool) (i : Int) : Nat → List α → Int → Int → Option (List α × Int)
 | 0, _, _, _ => none
 | n + 1, l, k, j => if decide (j < ((l.length - Int.toNat i : Nat) : Int)) then
   ((nG (l.drop (Int.toNat i)) j).bind fun x => (nG (l.drop (Int.toNat i)) (wi0 .i64 (j - 1))).bind fun y => if !(eq x y) then (nG (l.drop (Int.toNat i)) j).bind fun z => (nG l k).bind fun _ => some (l.set (Int.toNat k) z, wi0 .i64 (k + 1)) else some (l, k) : Option (List α × Int)).bind fun (a, k') => Cj eq i n a k' (wi0 .i64 (j + 1))
  else some (l, k)
def CQ {α : Type} (eq : α → α → Bool) (z : α) (l : List α) : Nat → Int → Option (List α)
 | 0, _ => none
 | n + 1, i => if decide (i < (l.length : Int)) then (nG l i).bind fun x => (nG l (wi0 .i64 (i - 1))).bind fun y => if eq x y then
    (rU (decide (0 ≤ i) && decide (i ≤ (l.length : Int)))).bind fun _ => (Cj eq i mR l i 1).bind fun (a, k) => (rU (decide (0 ≤ k) && decide (k ≤ (a.length : Int)))).bind fun _ => (rU (decide (0 ≤ k) && decide (k ≤ ((pV a (Int.toNat k) z).length : Int)))).bind fun _ => some ((pV a (Int.toNat k) z).take (Int.toNat k))
   else CQ eq z l n (wi0 .i64 (i + 1))
  else some l
def IW {α : Type} (eq : α → α → Bool) (z : α) (l : List α) : Option (List α) := if decide ((l.length : Int) < 2) then some l else CQ eq z l mR 1
theorem MI {α : Type} (l : List α) (i : Nat) (j : Int) (a : 0 ≤ j) : nG (l.drop i) j = nG l ((i : Int) + j) := by
 obtain ⟨m, rfl⟩ : ∃ m : Nat, j = m := ⟨j.toNat, by omega⟩
 rw [show (i : Int) + (m : Int) = ((i + m : Nat) : Int) by omega, HT, HT, eJ]
theorem Jn {α : Type} (eq : α → α → Bool) (i : Nat) : ∀ (rest out mid : List α) (p : α) (n : Nat), rest.length < n → (out ++ (mid ++ [p]) ++ rest).length < 4611686018427387904 → 1 ≤ i → i ≤ out.length →
  ∃ b, Cj eq (i : Int) n (out ++ (mid ++ [p]) ++ rest) (out.length : Int) ((out.length + mid.length + 1 - i : Nat) : Int) = some (b, ((out ++ rL eq p rest).length : Int)) ∧ b.take (out ++ rL eq p rest).length = out ++ rL eq p rest ∧ (out ++ rL eq p rest).length ≤ b.length
 | [], out, mid, p, 0, h, _, _, _ => by simp at h
 | [], out, mid, p, n + 1, h, k, h1, j => by
  rw [Cj, aY (by simp; omega)]
  exact ⟨out ++ (mid ++ [p]) ++ [], by simp [rL], by simp [rL], by simp [rL]⟩
 | x :: rest, out, mid, p, 0, h, _, _, _ => by simp at h
 | x :: rest, out, mid, p, n + 1, h, k, h1, j => by
  have hlen : (out ++ (mid ++ [p]) ++ x :: rest).length = out.length + mid.length + rest.length + 2 := by simp; omega
  rw [hlen] at k
  rw [Cj, aZ (by rw [hlen]; simp; omega)]
  rw [eG, MI _ _ _ (by omega), oU (out ++ (mid ++ [p])) x rest _ (by simp; omega)]
  simp only [aA]
  rw [ni (x := ((out.length + mid.length + 1 - i : Nat) : Int) - 1) (by omega) (by omega), MI _ _ _ (by omega)]
  rw [show out ++ (mid ++ [p]) ++ x :: rest = (out ++ mid) ++ p :: (x :: rest) by simp]
  rw [oU (out ++ mid) p (x :: rest) _ (by simp; omega)]
  simp only [aA]
  rw [ni (x := ((out.length + mid.length + 1 - i : Nat) : Int) + 1) (by omega) (by omega)]
  cases hp : eq x p with
  | true =>
   simp only [bY, aB, aN, aA]
   obtain ⟨b, c, d, g⟩ := Jn eq i rest out (mid ++ [p]) x n (by simp at h; omega) (by simp; omega) h1 j
   refine ⟨b, ?_, by rw [rL, hp]; exact d, by rw [rL, hp]; exact g⟩
   rw [rL, hp, aZ rfl, ← c]
   congr 1
   ·simp
   ·simp; omega
  | false =>
   simp only [dI, aU]
   obtain ⟨m, a, hm⟩ : ∃ m a, mid ++ [p] = m :: a := by cases mid with
    | nil => exact ⟨p, [], rfl⟩
    | cons m a => exact ⟨m, a ++ [p], rfl⟩
   have o : a.length = mid.length := by have := bB List.length hm; simp at this; omega
   rw [show (out ++ mid) ++ p :: (x :: rest) = out ++ m :: (a ++ x :: rest) by rw [← cJ, ← hm]; simp]
   rw [oU out m (a ++ x :: rest) _ rfl]
   simp only [aA]
   rw [ni (x := (out.length : Int) + 1) (by omega) (by omega)]
   have q : (out ++ m :: (a ++ x :: rest)).set (Int.toNat (out.length : Int)) x = (out ++ [x]) ++ (a ++ [x]) ++ rest := by
    rw [eG, List.set_append_right _ _ (bA _)]; simp
   rw [q]
   obtain ⟨b, c, d, g⟩ := Jn eq i rest (out ++ [x]) a x n (by simp at h; omega) (by simp; omega) h1 (by simp; omega)
   refine ⟨b, ?_, ?_, ?_⟩
   ·rw [rL, hp, aY (by decide)]
    have l : ((out ++ x :: rL eq x rest).length : Int) = ((out ++ [x] ++ rL eq x rest).length : Int) := by simp
    rw [l, ← c]
    congr 1
    ·simp
    ·simp; omega
   ·rw [rL, hp, aY (by decide)]; simpa using d
   ·rw [rL, hp, aY (by decide)]; simpa using g
theorem NJ {α : Type} (eq : α → α → Bool) (z : α) : ∀ (rest pre : List α) (p : α) (n : Nat), rest.length < n → (pre ++ p :: rest).length < 4611686018427387904 →
  CQ eq z (pre ++ p :: rest) n ((pre.length + 1 : Nat) : Int) = some (pre ++ p :: rL eq p rest)
 | [], pre, p, 0, h, _ => by simp at h
 | [], pre, p, n + 1, h, g => by rw [CQ, aY (by simp)]; simp [rL]
 | x :: rest, pre, p, 0, h, _ => by simp at h
 | x :: rest, pre, p, n + 1, h, g => by
  have hlen : (pre ++ p :: x :: rest).length = pre.length + rest.length + 2 := by simp; omega
  rw [hlen] at g
  rw [CQ, aZ (by rw [hlen]; simp; omega)]
  rw [show pre ++ p :: x :: rest = (pre ++ [p]) ++ x :: rest by simp, oU (pre ++ [p]) x rest _ (by simp)]
  simp only [aA]
  rw [ni (x := ((pre.length + 1 : Nat) : Int) - 1) (by omega) (by omega)]
  rw [show (pre ++ [p]) ++ x :: rest = pre ++ p :: (x :: rest) by simp, oU pre p (x :: rest) _ (by omega)]
  simp only [aA]
  cases hp : eq x p with
  | true =>
   simp only [aU]
   rw [Bi (by omega) (by rw [hlen]; omega)]
   simp only [aA]
   obtain ⟨i, a, d, c⟩ := Jn eq (pre.length + 1) rest (pre ++ [p]) [] x mR (by rw [yV]; omega) (by simp; omega) (by omega) (by simp)
   simp only [aR, cJ, bK, aD, aO, bZ] at a d c
   rw [show (pre.length + (0 + 1) + 0 + 1 - (pre.length + 1) : Nat) = 1 by omega] at a
   rw [show ((pre.length + 1 : Nat) : Int) = ((pre.length + (0 + 1) : Nat) : Int) by omega] at *
   have b : Cj eq ((pre.length + (0 + 1) : Nat) : Int) mR (pre ++ p :: x :: rest) ((pre.length + (0 + 1) : Nat) : Int) 1 = _ := a
   rw [b]
   simp only [aA]
   rw [Bi (by omega) (by omega)]
   simp only [aA, eG]
   rw [Bi (by omega) (by rw [yN _ _ _ c]; omega)]
   simp only [aA]
   rw [ID _ _ _ c, d, rL, hp]
   simp
  | false =>
   simp only [aB, aN]
   rw [ni (x := ((pre.length + 1 : Nat) : Int) + 1) (by omega) (by omega)]
   have := NJ eq z rest (pre ++ [p]) x n (by simp at h; omega) (by simp; omega)
   simp only [aR, cJ, bK, aD, aO, bZ] at this
   rw [show ((pre.length + 1 : Nat) : Int) + 1 = ((pre.length + (0 + 1) + 1 : Nat) : Int) by omega, this, rL, hp]
   simp
theorem Jj {α : Type} (eq : α → α → Bool) (z : α) (l : List α) (a : l.length < 4611686018427387904) : IW eq z l = some (dd eq l) := by
 unfold IW
 cases l with
 | nil => rfl
 | cons x xs =>
  cases xs with
  | nil => simp [dd, rL]
  | cons y ys =>
   rw [aY (by simp; omega)]
   have := NJ eq z (y :: ys) [] x mR (by rw [yV]; simp at a ⊢; omega) (by simpa using a)
   simpa [dd] using this
structure CV {α : Type} (lt : α → α → Prop) (P : α → Prop) : Prop where
 irrefl : ∀ x, P x → ¬ lt x x
 trans : ∀ x y z, P x → P y → P z → lt x y → lt y z → lt x z
 total : ∀ x y, P x → P y → lt x y ∨ x = y ∨ lt y x
def sk {α : Type} (lt : α → α → Prop) (P : α → Prop) (l out : List α) : Prop := out.Pairwise lt ∧ ∀ x, x ∈ out ↔ x ∈ l ∧ P x
theorem sk.unique {α : Type} {lt : α → α → Prop} {P : α → Prop} (H : CV lt P) : ∀ {l a b : List α}, sk lt P l a → sk lt P l b → a = b := by
 have key : ∀ a b : List α, (∀ x ∈ a, P x) → a.Pairwise lt → b.Pairwise lt → (∀ x, x ∈ a ↔ x ∈ b) → a = b := by
  intro a
  induction a with
  | nil => intro b _ _ _ hm; cases b with
   | nil => rfl
   | cons y ys => exact absurd ((hm y).2 (by simp)) (by simp)
  | cons x xs ih =>
   intro b m ha j hm
   cases b with
   | nil => exact absurd ((hm x).1 (by simp)) (by simp)
   | cons y ys =>
    have n : P y := m y ((hm y).2 (by simp))
    have c : P x := m x (by simp)
    have d := cT.1 ha
    have g := cT.1 j
    have o : x = y := by
     rcases aS.1 ((hm x).1 (by simp)) with h | h
     ·exact h
     ·rcases aS.1 ((hm y).2 (by simp)) with k | k
      ·exact k.symm
      ·exact absurd (H.trans x y x c n c (d.1 y k) (g.1 x h)) (H.irrefl x c)
    subst o
    congr 1
    refine ih ys (fun z i => m z (by simp [i])) d.2 g.2 (fun z => ?_)
    constructor
    ·intro i
     rcases aS.1 ((hm z).1 (by simp [i])) with h | h
     ·subst h; exact absurd (d.1 z i) (H.irrefl z c)
     ·exact h
    ·intro i
     rcases aS.1 ((hm z).2 (by simp [i])) with h | h
     ·subst h; exact absurd (g.1 z i) (H.irrefl z c)
     ·exact h
 intro l a b ha j
 exact key a b (fun x q => ((ha.2 x).1 q).2) ha.1 j.1 (fun x => (ha.2 x).trans (j.2 x).symm)
theorem F0 {α : Type} {eq : α → α → Bool} (he : ∀ x y, eq x y = true ↔ x = y) : ∀ (l : List α) (p x : α), x ∈ p :: rL eq p l ↔ x ∈ p :: l
 | [], p, x => by simp [rL]
 | y :: l, p, x => by
  rw [rL]
  split
  ·rename_i h
   have := (he y p).1 h
   subst this
   rw [F0 he l y x]; simp
  ·have := F0 he l y x
   simp only [aS] at this ⊢
   rw [this]
theorem QO {α : Type} {eq : α → α → Bool} (he : ∀ x y, eq x y = true ↔ x = y) (l : List α) (x : α) : x ∈ dd eq l ↔ x ∈ l := by
 cases l with
 | nil => simp [dd]
 | cons y l => exact F0 he l y x
theorem EM {α : Type} {eq : α → α → Bool} {lt : α → α → Prop} {P : α → Prop} (he : ∀ x y, eq x y = true ↔ x = y) (H : CV lt P) : ∀ (l : List α) (p : α), (∀ x ∈ p :: l, P x) → (p :: l).Pairwise (fun a b => ¬ lt b a) → (p :: rL eq p l).Pairwise lt
 | [], p, _, _ => by simp [rL]
 | y :: l, p, c, n => by
  have h1 := cT.1 n
  rw [rL]
  split
  ·rename_i h
   have := (he y p).1 h
   subst this
   exact EM he H l y (fun x i => c x (gP _ i)) h1.2
  ·rename_i h
   have ih := EM he H l y (fun x i => c x (gP _ i)) h1.2
   refine cT.2 ⟨fun z m => ?_, ih⟩
   have g : lt p y := by
    rcases H.total p y (c p (by simp)) (c y (by simp)) with d | d | d
    ·exact d
    ·exact absurd ((he y p).2 d.symm) h
    ·exact absurd d (h1.1 y (by simp))
   rcases aS.1 m with rfl | j
   ·exact g
   ·have k : z ∈ y :: l := (F0 he l y z).1 m
    exact H.trans p y z (c p (by simp)) (c y (by simp)) (c z (gP _ k)) g ((cT.1 ih).1 z j)
theorem Qo {α : Type} {eq : α → α → Bool} {lt : α → α → Prop} {P : α → Prop} (he : ∀ x y, eq x y = true ↔ x = y) (H : CV lt P) (l : List α) (c : ∀ x ∈ l, P x) (d : l.Pairwise (fun a b => ¬ lt b a)) : (dd eq l).Pairwise lt := by
 cases l with
 | nil => simp [dd]
 | cons y l => exact EM he H l y c d
theorem LY {α : Type} {le : α → α → Bool} {P : α → Prop} (i : ∀ a b c, P a → P b → P c → le a b = true → le b c = true → le a c = true) (h : ∀ a b, P a → P b → (le a b || le b a) = true) (l : List α) (d : ∀ x ∈ l, P x) :
  (l.mergeSort le).Pairwise (fun a b => le a b = true) := by
 have e : l = (l.attachWith P d).map Subtype.val := by simp
 have hm : ((l.attachWith P d).mergeSort fun a b => le a.1 b.1).map Subtype.val = l.mergeSort le := by
  conv => rhs; rw [e]
  exact ki (fun a _ b _ => rfl)
 rw [← hm, iG]
 exact ji (le := fun (a b : {x // P x}) => le a.1 b.1) (fun a b c h1 g => i a.1 b.1 c.1 a.2 b.2 c.2 h1 g) (fun a b => h a.1 b.1 a.2 b.2) _
theorem E2 {α : Type} {eq : α → α → Bool} {lt : α → α → Prop} {P : α → Prop} {cf : α × α → Option Int} {l : List α} (he : ∀ x y, eq x y = true ↔ x = y) (H : CV lt P) (g : ∀ x ∈ l, P x) (A : l.length < 4611686018427387904) (w : ∀ x y, P x → P y → ∃ c, cf (x, y) = some c ∧ (c < 0 ↔ lt x y)) : ∃ s, AT cf l = some s ∧ s.length = l.length ∧ sk lt P l (dd eq s) := by
 have j : ∀ x y, P x → P y → (xj cf x y = true ↔ lt x y) := fun x y i n => by
  obtain ⟨c, h1, m⟩ := w x y i n
  unfold xj
  rw [h1]
  simpa using m
 have d : ∀ x y, P x → P y → (xj cf x y = false ↔ ¬ lt x y) := fun x y i n => by
  rw [← j x y i n]; simp
 have ok : Ha cf l := by
  refine ⟨fun x i y n => ?_, fun x i => ?_, fun x i y n z u h1 m => ?_, fun x i y n h1 m => ?_, A⟩
  ·obtain ⟨c, h1, _⟩ := w x y (g x i) (g y n); exact ⟨c, h1⟩
  ·exact (d x x (g x i) (g x i)).2 (H.irrefl x (g x i))
  ·rw [j _ _ (g x i) (g y n)] at h1
   rw [j _ _ (g y n) (g z u)] at m
   rw [j _ _ (g x i) (g z u)]
   exact H.trans x y z (g x i) (g y n) (g z u) h1 m
  ·rw [d _ _ (g x i) (g y n)] at h1
   rw [d _ _ (g y n) (g x i)] at m
   rcases H.total x y (g x i) (g y n) with h | h | h
   ·exact absurd h h1
   ·exact h
   ·exact absurd h m
 refine ⟨_, SX ok, by simp [wy], ?_, ?_⟩
 ·have k : ∀ x, x ∈ wy cf l ↔ x ∈ l := fun x => by simp [wy]
  refine Qo he H _ (fun x i => g x ((k x).1 i)) ?_
  have := LY (le := fun x y => !xj cf y x) (P := P) (fun a b c ha o q h1 m => ?_) (fun a b ha o => ?_) l g
  ·refine (this.imp_of_mem ?_ : _)
   intro a b ha o h
   have r : a ∈ l := (k a).1 ha
   have t : b ∈ l := (k b).1 o
   simp at h
   exact (d b a (g b t) (g a r)).1 h
  ·simp at h1 m ⊢
   rw [d _ _ o ha] at h1
   rw [d _ _ q o] at m
   rw [d _ _ q ha]
   intro v
   rcases H.total a b ha o with h | h | h
   ·exact m (H.trans c a b q ha o v h)
   ·subst h; exact m v
   ·exact h1 h
  ·simp only [iw, gY]
   rw [d _ _ o ha, d _ _ ha o]
   by_cases h : lt b a
   ·right; intro m; exact H.irrefl a ha (H.trans a b a ha o ha m h)
   ·exact .inl h
 ·intro x
  rw [QO he]
  constructor
  ·intro i
   have : x ∈ l := by simpa [wy] using i
   exact ⟨this, g x this⟩
  ·intro i; simpa [wy] using i.1
theorem EB : ∀ a : List UInt8, Op.bytesLess a a = false
 | [] => rfl
 | x :: a => by simp [Op.bytesLess, EB a]
theorem NG (x y : UInt8) : x < y ∨ x = y ∨ y < x := by
 rcases Nat.lt_trichotomy x.toNat y.toNat with h | h | h
 ·exact .inl h
 ·exact .inr (.inl (UInt8.toNat_inj.1 h))
 ·exact .inr (.inr h)
theorem DJ : ∀ a b c : List UInt8, Op.bytesLess a b = true → Op.bytesLess b c = true → Op.bytesLess a c = true
 | [], [], c, h1, _ => by simp [Op.bytesLess] at h1
 | _ :: _, [], c, h1, _ => by simp [Op.bytesLess] at h1
 | a, _ :: _, [], _, d => by simp [Op.bytesLess] at d
 | [], b :: bs, c :: cs, _, _ => rfl
 | a :: ax, b :: bs, c :: cs, h1, d => by
  simp only [Op.bytesLess, iw, bR, bE, kh] at h1 d ⊢
  rcases h1 with h1 | ⟨rfl, h1⟩
  ·rcases d with d | ⟨rfl, d⟩
   ·exact .inl (UInt8.lt_trans h1 d)
   ·exact .inl h1
  ·rcases d with d | ⟨rfl, d⟩
   ·exact .inl d
   ·exact .inr ⟨rfl, DJ ax bs cs h1 d⟩
theorem FX : ∀ a b : List UInt8, Op.bytesLess a b = true ∨ a = b ∨ Op.bytesLess b a = true
 | [], [] => .inr (.inl rfl)
 | [], _ :: _ => .inl rfl
 | _ :: _, [] => .inr (.inr rfl)
 | a :: ax, b :: bs => by
  simp only [Op.bytesLess, iw, bR, bE, kh, bL]
  rcases NG a b with h | h | h
  ·exact .inl (.inl h)
  ·subst h
   rcases FX ax bs with h | h | h
   ·exact .inl (.inr ⟨rfl, h⟩)
   ·exact .inr (.inl ⟨rfl, h⟩)
   ·exact .inr (.inr (.inr ⟨rfl, h⟩))
  ·exact .inr (.inr (.inl h))
theorem Fm : ∀ a b : List UInt8, (Lib.compareBytes a b < 0 ↔ Op.bytesLess a b = true)
 | [], [] => by simp [Lib.compareBytes, Op.bytesLess]
 | [], _ :: _ => by simp [Lib.compareBytes, Op.bytesLess]
 | _ :: _, [] => by simp [Lib.compareBytes, Op.bytesLess]
 | a :: ax, b :: bs => by
  simp only [Lib.compareBytes, Op.bytesLess, iw, bR, bE, kh]
  by_cases h : a < b
  ·simp [h]
  ·by_cases d : b < a
   ·have : a ≠ b := by rintro rfl; exact h d
    simp [h, d, this]
   ·have : a = b := by rcases NG a b with c | c | c; exact absurd c h; exact c; exact absurd c d
    subst this
    simp [h, Fm ax bs]
theorem Ji : ∀ a b : List UInt8, (Lib.compareBytes a b = 0 ↔ a = b)
 | [], [] => by simp [Lib.compareBytes]
 | [], _ :: _ => by simp [Lib.compareBytes]
 | _ :: _, [] => by simp [Lib.compareBytes]
 | a :: ax, b :: bs => by
  simp only [Lib.compareBytes, bL]
  by_cases h : a < b
  ·simp only [h, aU]
   constructor
   ·intro h; cases h
   ·rintro ⟨rfl, _⟩; exact absurd h (by simp)
  ·by_cases d : b < a
   ·simp only [h, d, aU, aN]
    constructor
    ·intro h; cases h
    ·rintro ⟨rfl, _⟩; exact absurd d (by simp)
   ·have : a = b := by rcases NG a b with c | c | c; exact absurd c h; exact c; exact absurd c d
    subst this
    simp [h, Ji ax bs]
theorem BU (a b : ByteArray) : tp a b = Op.bytesLess a.data.toList b.data.toList := by unfold tp; rw [ig, ig]
theorem DG {a b : ByteArray} (h : a.data.toList = b.data.toList) : a = b := kY (Array.toList_inj.1 h)
theorem vZ (a : ByteArray) : tp a a = false := by rw [BU, EB]
theorem CL {a b c : ByteArray} (h1 : tp a b = true) (d : tp b c = true) : tp a c = true := by rw [BU] at *; exact DJ _ _ _ h1 d
theorem CB (a b : ByteArray) : tp a b = true ∨ a = b ∨ tp b a = true := by
 rw [BU, BU]
 rcases FX a.data.toList b.data.toList with h | h | h
 ·exact .inl h
 ·exact .inr (.inl (DG h))
 ·exact .inr (.inr h)
theorem LC {a b : ByteArray} (h : tp a b = true) : tp b a = false := by
 cases c : tp b a with
 | false => rfl
 | true => have := CL h c; rw [vZ] at this; cases this
theorem TA (P : ByteArray → Prop) : CV (fun a b => tp a b = true) P :=
 ⟨fun x _ h => (by rw [vZ] at h; cases h), fun x y z _ _ _ => CL, fun x y _ _ => CB x y⟩
def D1 (b : UInt8) : Bool := decide (97 ≤ b.toNat) && decide (b.toNat ≤ 122)
def Fy (b : UInt8) : Bool := D1 b || (decide (48 ≤ b.toNat) && decide (b.toNat ≤ 57)) || decide (b.toNat = 45)
def pg (s : ByteArray) : Bool := decide (1 ≤ s.size) && decide (s.size ≤ 16) && (match s.data.toList with | [] => false | b :: _ => D1 b) && s.data.toList.all Fy
theorem qC {s : ByteArray} (h : pg s = true) : 1 ≤ s.size ∧ s.size ≤ 16 := by
 simp only [pg, bE, bR] at h
 exact h.1.1
theorem Pt : ∀ n : Nat, n < 256 → decide (Ae (⟨#[97, 98, 99, 100, 101, 102, 103, 104, 105, 106, 107, 108, 109, 110, 111, 112, 113, 114, 115, 116, 117, 118, 119, 120, 121, 122]⟩ : ByteArray) (n : Int) ≥ 0) = D1 (UInt8.ofNat n) := by decide +kernel
theorem SU : ∀ n : Nat, n < 256 → decide (Ae (⟨#[97, 98, 99, 100, 101, 102, 103, 104, 105, 106, 107, 108, 109, 110, 111, 112, 113, 114, 115, 116, 117, 118, 119, 120, 121, 122, 48, 49, 50, 51, 52, 53, 54, 55, 56, 57, 45]⟩ : ByteArray) (n : Int) < 0) = !Fy (UInt8.ofNat n) := by decide +kernel
theorem zK (s : ByteArray) : s.size = s.data.toList.length := by rw [dJ]; rfl
theorem Ir {s : ByteArray} (h : s.size ≤ 16) : FB s = some (vU s) := by
 unfold FB; rw [aZ (by unfold maxLen; omega)]
theorem M8 : ∀ l : List UInt8, ya (l.map fun b => (b.toNat : Int)) = some (l.all Fy)
 | [] => rfl
 | b :: l => by
  rw [bM, ya]
  simp only [uC, qP, aA]
  have a := SU b.toNat (kA b)
  rw [a]
  simp only [kW, jH]
  cases Fy b with
  | true => simp [M8 l]
  | false => simp
theorem LA {s : ByteArray} {b : UInt8} {l : List UInt8} (h : s.data.toList = b :: l) : Da s 0 = some b := by
 unfold Da
 rw [aZ (Int.le_refl 0)]
 have a : s.data[0]? = some b := by rw [← eA, h]; rfl
 show s[0]? = some b
 rw [← a]
 rfl
theorem vJ (s : ByteArray) : rM s = some (pg s) := by
 unfold rM
 simp only [Gn, aA, pz]
 by_cases h1 : 1 ≤ s.size
 ·by_cases a : s.size ≤ 16
  ·rw [aZ (by simp; omega)]
   obtain ⟨b, l, c⟩ : ∃ b l, s.data.toList = b :: l := by
    cases h : s.data.toList with
    | nil => rw [zK, h] at h1; simp at h1
    | cons b l => exact ⟨b, l, rfl⟩
   rw [LA c]
   simp only [aA, uC, qP]
   rw [Pt b.toNat (kA b)]
   simp only [kW, pg, h1, a, c, cC, eU]
   cases D1 b with
   | false => simp
   | true =>
    simp only [aU, EK, Ir a, aA, vU]
    rw [M8, c]
    simp
  ·rw [aY (by simp; omega)]
   simp [pg, a]
 ·rw [aY (by simp; omega)]
  simp [pg, h1]
theorem TF {s : ByteArray} {A B : List UInt8} {b : UInt8} (h : s.data.toList = A ++ b :: B) (i : Int) (c : i = (A.length : Int)) : Da s i = some b := by
 subst c
 unfold Da
 rw [aZ (by omega), eG]
 have a : s.data[A.length]? = some b := by rw [← eA, h]; simp
 show s[A.length]? = some b
 rw [← a]
 rfl
theorem Hr (s : ByteArray) (u : s.size ≤ 16) : ∀ (B A : List UInt8) (n : Nat), s.data.toList = A ++ B → B.length < n → sU s n (A.length : Int) = some (B.all Fy)
  | [], A, 0, _, h => by simp at h
  | [], A, n + 1, h, _ => by
    have : s.size = A.length := by rw [zK, h]; simp
    rw [sU, aY (by rw [this]; simp)]
    rfl
  | b :: B, A, 0, _, h => by simp at h
  | b :: B, A, n + 1, h, t => by
    have k : s.size = A.length + B.length + 1 := by rw [zK, h]; simp; omega
    rw [sU, aZ (by rw [k]; simp; omega)]
    rw [TF h _ rfl]
    simp only [aA]
    rw [ni (x := (A.length : Int) + 1) (by omega) (by omega)]
    have ih := Hr s u B (A ++ [b]) n (by rw [h]; simp) (by simp at t; omega)
    rw [show ((A ++ [b]).length : Int) = (A.length : Int) + 1 by simp] at ih
    simp only [jH]
    have j : ∀ n : Nat, n < 256 → Fy (UInt8.ofNat n) = !((decide (n < 97) || decide (n > 122)) && (decide (n < 48) || decide (n > 57)) && decide (n ≠ 45)) := by decide +kernel
    have l := j b.toNat (kA b)
    simp only [kW] at l
    rw [l]
    by_cases h1 : b.toNat < 97 <;> by_cases m : b.toNat > 122 <;> by_cases o : b.toNat < 48 <;> by_cases q : b.toNat > 57 <;> by_cases r : b.toNat = 45 <;>
      first
      | omega
      | (have a : ((b.toNat : Int) < 97) = (b.toNat < 97) := by rw [jf]; omega
         have c : ((b.toNat : Int) > 122) = (b.toNat > 122) := by rw [jf]; omega
         have d : ((b.toNat : Int) < 48) = (b.toNat < 48) := by rw [jf]; omega
         have g : ((b.toNat : Int) > 57) = (b.toNat > 57) := by rw [jf]; omega
         have i : ((b.toNat : Int) != 45) = !decide (b.toNat = 45) := by rw [bX]; simp; omega
         simp [h1, m, o, q, r, a, c, d, g, i, ih])
theorem yj (a : ByteArray) : np a a = true := nU.2 rfl
theorem Ux : zS.size = 0 := rfl
theorem Tx {s : ByteArray} : s = zS ↔ s.size = 0 := by
 constructor
 ·rintro rfl; rfl
 ·intro h; exact DG (by rw [zK] at h; rw [fA.1 h]; rfl)
theorem A4 (s : ByteArray) : ul s = some (pg s) := by
 unfold ul
 simp only [Vr, aA, pz]
 by_cases g : s.size = 0
 ·have : s = zS := Tx.2 g
  subst this
  rw [yj]
  rfl
 ·have n : np s zS = false := by
   cases h : np s zS with
   | false => rfl
   | true => exact absurd (Tx.1 (nU.1 h)) g
  rw [n]
  simp only [Bool.false_or]
  by_cases i : s.size ≤ 16
  ·rw [aY (by simp; omega)]
   obtain ⟨b, l, k⟩ : ∃ b l, s.data.toList = b :: l := by
    cases h : s.data.toList with
    | nil => rw [zK, h] at g; simp at g
    | cons b l => exact ⟨b, l, rfl⟩
   rw [LA k]
   simp only [aA, Vr]
   have m := Hr s i s.data.toList [] mR rfl (by rw [yV, ← zK]; omega)
   simp only [bZ] at m
   rw [show (0 : Int) = ((0 : Nat) : Int) from rfl] at *
   rw [m]
   have j : ((b.toNat : Int) < 97) = (b.toNat < 97) := by rw [jf]; omega
   have d : ((b.toNat : Int) > 122) = (b.toNat > 122) := by rw [jf]; omega
   have h1 : 1 ≤ s.size := by omega
   simp only [pg, h1, i, k, D1, cC, eU, j, d]
   by_cases a : b.toNat < 97
   ·simp [a, show ¬ 97 ≤ b.toNat by omega]
   ·by_cases c : b.toNat > 122
    ·simp [a, c, show ¬ b.toNat ≤ 122 by omega]
    ·simp [a, c, show 97 ≤ b.toNat by omega, show b.toNat ≤ 122 by omega]
  ·rw [aZ (by simp; omega)]
   simp [pg, i]
def nP (r : lC) : Bool := pg r.lK && pg r.lN
theorem xo (r : lC) : qT r = some (nP r) := by
 unfold qT nP
 simp only [vJ, aA]
 cases pg r.lK <;> simp
theorem DW (r : lC) : vR r = some (nP r) := by
 unfold vR nP
 simp only [A4, aA]
 cases pg r.lK <;> simp
def BN (a b : lC) : Bool := tp a.lK b.lK || (np a.lK b.lK && tp a.lN b.lN)
theorem Eh (a b : lC) : zw a b = some (BN a b) := by
 unfold zw BN
 cases tp a.lK b.lK <;> cases np a.lK b.lK <;> simp
theorem OK {a b : ByteArray} (h : a ≠ b) : np a b = false := by
 cases c : np a b with
 | false => rfl
 | true => exact absurd (nU.1 c) h
theorem Dx {a b : lC} : BN a b = true ↔ tp a.lK b.lK = true ∨ (a.lK = b.lK ∧ tp a.lN b.lN = true) := by
 simp [BN, nU]
theorem Co (P : lC → Prop) : CV (fun a b => BN a b = true) P := by
 refine ⟨fun x _ h => ?_, fun x y z _ _ _ h1 c => ?_, fun x y _ _ => ?_⟩
 ·rw [Dx] at h
  simp [vZ] at h
 ·rw [Dx] at *
  rcases h1 with h1 | ⟨g, h1⟩
  ·rcases c with c | ⟨d, c⟩
   ·exact .inl (CL h1 c)
   ·exact .inl (by rw [← d]; exact h1)
  ·rcases c with c | ⟨d, c⟩
   ·exact .inl (by rw [g]; exact c)
   ·exact .inr ⟨g.trans d, CL h1 c⟩
 ·simp only [Dx]
  rcases CB x.lK y.lK with h | h | h
  ·exact .inl (.inl h)
  ·rcases CB x.lN y.lN with c | c | c
   ·exact .inl (.inr ⟨h, c⟩)
   ·refine .inr (.inl ?_)
    cases x; cases y; simp at h c; simp [h, c]
   ·exact .inr (.inr (.inr ⟨h.symm, c⟩))
  ·exact .inr (.inr (.inl h))
theorem xQ (a b : lC) : ∃ c, pQ a b = some c ∧ (c < 0 ↔ BN a b = true) := by
 unfold pQ
 simp only [sc, pF, aA, xV, vy]
 have h1 : ∀ a b : ByteArray, (rJ a b < 0 ↔ tp a b = true) := fun a b => by rw [BU]; exact Fm _ _
 have g : ∀ a b : ByteArray, (rJ a b = 0 ↔ a = b) := fun a b => by
  unfold rJ; rw [Ji]; exact ⟨DG, fun h => by rw [h]⟩
 by_cases e : rJ a.lK b.lK = 0
 ·rw [aY (by simp [e])]
  have e' := (g _ _).1 e
  by_cases d : rJ a.lN b.lN = 0
  ·rw [aY (by simp [d])]
   refine ⟨0, rfl, ?_⟩
   rw [Dx, e', (g _ _).1 d]
   simp [vZ]
  ·rw [aZ (by simp [d])]
   refine ⟨_, rfl, ?_⟩
   rw [Dx, e', h1]
   simp [vZ]
 ·rw [aZ (by simp [e])]
  refine ⟨_, rfl, ?_⟩
  rw [Dx, h1]
  have : a.lK ≠ b.lK := fun h => e ((g _ _).2 h)
  simp [this]
def zR : lC := ⟨zS, zS⟩
theorem Lw (a b : ByteArray) : np a b = np b a := by rw [bX, nU, nU]; exact eq_comm
theorem HE (a b : lC) : me a b = me b a := by rw [bX, mn, mn]; exact eq_comm
theorem yd (a : lC) : me a a = true := mn.2 rfl
def nD (c : lD) : Bool := nP c.Head && (
 if c.Kind == 1 then pg c.mX && me zR c.B && me zR c.C && np zS c.mQ
 else if c.Kind == 2 then nP c.B && np zS c.mX && me zR c.C && np zS c.mQ
 else if c.Kind == 3 then nP c.B && np c.B.lK c.Head.lK && pg c.mQ && np zS c.mX && me zR c.C
 else if c.Kind == 4 then nP c.B && nP c.C && BN c.B c.C && np zS c.mX && np zS c.mQ
 else false)
theorem zm (c : lD) : wL c = some (nD c) := by
 unfold wL nD
 simp only [xo, vJ, aA]
 obtain ⟨k, hk, a⟩ := xQ c.B c.C
 rw [hk]
 have b : decide (k < 0) = BN c.B c.C := by rw [bX, ← a]; simp
 simp only [aA, b]
 by_cases h1 : c.Kind = 1
 ·cases nP c.Head <;> cases pg c.mX <;> simp [h1, mO, yd, yj, zR, kB]
 ·by_cases d : c.Kind = 2
  ·cases nP c.Head <;> cases nP c.B <;> simp [d, mO, yd, yj, zR, kB]
  ·by_cases g : c.Kind = 3
   ·cases nP c.Head <;> cases nP c.B <;> cases np c.B.lK c.Head.lK <;> cases pg c.mQ <;> simp [g, mO, yd, yj, zR, kB]
   ·by_cases h : c.Kind = 4
    ·cases nP c.Head <;> cases nP c.B <;> cases nP c.C <;> cases BN c.B c.C <;> simp [h, mO, yd, yj, zR, kB]
    ·simp [h1, d, g, h]
theorem DO (c : lD) : yO c = some (nD c) := by
 unfold yO nD
 simp only [DW, A4, Eh, aA]
 rw [show (⟨zS, zS⟩ : lC) = zR from rfl, HE c.B zR, HE c.C zR, Lw c.mQ zS, Lw c.mX zS]
 by_cases h1 : c.Kind = 1
 ·cases nP c.Head <;> cases pg c.mX <;> cases me zR c.B <;> cases me zR c.C <;> simp [h1]
 ·by_cases a : c.Kind = 2
  ·cases nP c.Head <;> cases nP c.B <;> cases np zS c.mX <;> cases me zR c.C <;> simp [a]
  ·by_cases b : c.Kind = 3
   ·cases nP c.Head <;> cases nP c.B <;> cases np zS c.mX <;> cases me zR c.C <;> cases np c.B.lK c.Head.lK <;> simp [b]
   ·by_cases d : c.Kind = 4
    ·cases nP c.Head <;> cases nP c.B <;> cases np zS c.mX <;> cases np zS c.mQ <;> cases nP c.C <;> simp [d]
    ·cases nP c.Head <;> cases nP c.B <;> cases np zS c.mX <;> simp [h1, a, b, d]
theorem nX {α : Type} {b : Nat} {l m : List α} (h : (l.length + m.length) * b ≤ 140737488355328) (a : l.length + m.length ≤ 9223372036854775807) : oH b l m = some (l ++ m) := by
 unfold oH; rw [aZ ⟨h, by unfold maxLen; omega⟩]
theorem Jk {l m : List Int} (h : l.length + m.length ≤ 1000000) : oH 1 l m = some (l ++ m) := nX (by omega) (by omega)
def zl (s : ByteArray) : List Int := (s.size : Int) :: vU s
def vi (r : lC) : List Int := zl r.lK ++ zl r.lN
def BG (c : lD) : List Int := if c.Kind = 1 then zl c.mX else if c.Kind = 2 then vi c.B else if c.Kind = 3 then vi c.B ++ zl c.mQ else vi c.B ++ vi c.C
def we (c : lD) : List Int := c.Kind :: (vi c.Head ++ BG c)
theorem wD (s : ByteArray) : (zl s).length = s.size + 1 := by simp [zl, rS]
theorem rF {r : lC} (h : nP r = true) : (vi r).length ≤ 34 := by
 simp only [nP, bE] at h
 have h1 := qC h.1
 have a := qC h.2
 simp [vi, wD]; omega
theorem Be {l : List Int} {n : Int} (a : 0 ≤ n) (h1 : n < 128) (b : l.length ≤ 100000) : qi l n = some (true, l ++ [n]) := by
 have hw : IntKind.u8.wrap n = n := by
  obtain ⟨k, rfl⟩ : ∃ k : Nat, n = k := ⟨n.toNat, by omega⟩
  have : ∀ k : Nat, k < 128 → IntKind.u8.wrap (k : Int) = (k : Int) := by decide +kernel
  exact this k (by omega)
 unfold qi
 rw [aY (by simp; omega), pa, sH, aY (by simp; omega), hw, Jk (by simp; omega)]
 rfl
theorem H3 {l : List Int} {s : ByteArray} (h : pg s = true) (a : l.length ≤ 10000) : wJ l s = some (true, l ++ zl s) := by
 have h1 := qC h
 unfold wJ
 simp only [vJ, aA, h, aU, Ir h1.2]
 unfold As
 rw [aY (by rw [rS]; simp; omega)]
 rw [rS, Be (by omega) (by omega) (by omega)]
 simp only [aA]
 rw [Jk (by simp [rS]; omega)]
 simp [zl]
theorem NK {l : List Int} {r : lC} (h : nP r = true) (b : l.length ≤ 9000) : sI l r = some (true, l ++ vi r) := by
 have a := h
 simp only [nP, bE] at h
 have h1 := qC h.1
 unfold sI
 simp only [xo, aA, a, aU]
 rw [H3 h.1 (by omega)]
 simp only [aA, aU]
 rw [H3 h.2 (by simp [wD]; omega)]
 simp [vi]
theorem Fu {l : List Int} {r : lC} (h : nP r = true) (a : l.length ≤ 1000) : sI l r = some (true, l ++ vi r) := NK h (by omega)
theorem ET {c : lD} (h : nD c = true) : nP c.Head = true := by
 simp only [nD, bE] at h; exact h.1
theorem qk {c : lD} (h : nD c = true) :
  (c.Kind = 1 ∧ pg c.mX = true ∧ c.B = zR ∧ c.C = zR ∧ c.mQ = zS) ∨
  (c.Kind = 2 ∧ nP c.B = true ∧ c.mX = zS ∧ c.C = zR ∧ c.mQ = zS) ∨
  (c.Kind = 3 ∧ nP c.B = true ∧ pg c.mQ = true ∧ c.B.lK = c.Head.lK ∧ c.mX = zS ∧ c.C = zR) ∨
  (c.Kind = 4 ∧ nP c.B = true ∧ nP c.C = true ∧ BN c.B c.C = true ∧ c.mX = zS ∧ c.mQ = zS) := by
 simp only [nD, bE] at h
 obtain ⟨_, h⟩ := h
 split at h
 ·rename_i h1
  simp only [bE, mn, nU] at h
  exact .inl ⟨by simpa using h1, h.1.1.1, h.1.1.2.symm, h.1.2.symm, h.2.symm⟩
 ·split at h
  ·rename_i h1
   simp only [bE, mn, nU] at h
   exact .inr (.inl ⟨by simpa using h1, h.1.1.1, h.1.1.2.symm, h.1.2.symm, h.2.symm⟩)
  ·split at h
   ·rename_i h1
    simp only [bE, mn, nU] at h
    exact .inr (.inr (.inl ⟨by simpa using h1, h.1.1.1.1, h.1.1.2, h.1.1.1.2, h.1.2.symm, h.2.symm⟩))
   ·split at h
    ·rename_i h1
     simp only [bE, mn, nU] at h
     exact .inr (.inr (.inr ⟨by simpa using h1, h.1.1.1.1, h.1.1.1.2, h.1.1.2, h.1.2.symm, h.2.symm⟩))
    ·cases h
theorem En (c : lD) : zD c = some (if nD c then we c else []) := by
 unfold zD
 rw [zm]
 simp only [aA]
 cases h : nD c with
 | false => simp
 | true =>
  have g := ET h
  have i := rF g
  simp only [bY, aB, aN, aU]
  have hk : 0 ≤ c.Kind ∧ c.Kind < 128 := by rcases qk h with h | h | h | h <;> omega
  rw [Be hk.1 hk.2 (by simp)]
  simp only [aA]
  rw [Fu g (by simp)]
  simp only [aA, wI, xf]
  rcases qk h with ⟨k, h1, _⟩ | ⟨k, h1, _⟩ | ⟨k, h1, a, _⟩ | ⟨k, h1, a, _⟩
  ·have b := qC h1
   simp only [k, bH, aU, H3 h1 (show (([] ++ [(1:Int)]) ++ vi c.Head).length ≤ 10000 by simp; omega), aA]
   rw [Jk (by simp [wD]; omega)]
   simp [we, BG, k]
  ·have b := rF h1
   simp only [k, show ((2 : Int) == 1) = false from rfl, aB, bH, aU, aN, Fu h1 (show (([] ++ [(2:Int)]) ++ vi c.Head).length ≤ 1000 by simp; omega), aA]
   rw [Jk (by simp; omega)]
   simp [we, BG, k]
  ·have b := rF h1
   have d := qC a
   simp only [k, show ((3 : Int) == 1) = false from rfl, show ((3 : Int) == 2) = false from rfl, aB, bH, aU, aN, Fu h1 (show (([] ++ [(3:Int)]) ++ vi c.Head).length ≤ 1000 by simp; omega), aA]
   rw [H3 a (by simp; omega)]
   simp only [aA]
   rw [Jk (by simp [wD]; omega)]
   simp [we, BG, k]
  ·have b := rF h1
   have d := rF a
   simp only [k, show ((4 : Int) == 1) = false from rfl, show ((4 : Int) == 2) = false from rfl, show ((4 : Int) == 3) = false from rfl, aB, bH, aU, aN, Fu h1 (show (([] ++ [(4:Int)]) ++ vi c.Head).length ≤ 1000 by simp; omega), aA]
   rw [Fu a (by simp; omega)]
   simp only [aA]
   rw [Jk (by simp; omega)]
   simp [we, BG, k]
def Dd (l : List Int) : ByteArray := ⟨(yk l).toArray⟩
theorem DZ (l : List Int) : (Dd l).data.toList = yk l := rfl
theorem Kh : ∀ (l : List Int) (r : ByteArray), (l.foldl (fun r n => r.push (UInt8.ofNat n.toNat)) r).data.toList = r.data.toList ++ yk l
 | [], r => by simp [yk]
 | x :: l, r => by
  rw [jd, Kh l]
  show ((r.data.push _).toList) ++ _ = _
  simp [yk]
theorem TO (l : List Int) : CM l = Dd l := DG (by unfold CM; rw [Kh]; rfl)
theorem NV (l : List Int) : (Dd l).size = l.length := by rw [zK, DZ]; simp [yk]
theorem PK (a b : List Int) : yk (a ++ b) = yk a ++ yk b := by simp [yk]
theorem yR (a b : List Int) (h : a.length + b.length ≤ 1000000) : B3 (Dd a) (Dd b) = some (Dd (a ++ b)) := by
 unfold B3
 rw [aY]
 ·congr 1
  refine DG ?_
  rw [DZ, PK, ← DZ a, ← DZ b]
  exact ByteArray.toList_data_append ▸ rfl
 ·rw [NV, NV]
  show ¬ (_ > (9223372036854775807 : Int))
  omega
theorem Gm (s : ByteArray) : Dd (vU s) = s := DG (by rw [DZ]; simp [yk, vU, iF])
theorem LN {n : Int} (a : 0 ≤ n) (h1 : n < 128) : yf n = some (Dd [n]) := by
 have hw : IntKind.u8.wrap n = n := by
  obtain ⟨k, rfl⟩ : ∃ k : Nat, n = k := ⟨n.toNat, by omega⟩
  have : ∀ k : Nat, k < 128 → IntKind.u8.wrap (k : Int) = (k : Int) := by decide +kernel
  exact this k (by omega)
 unfold yf
 rw [pa, vW, aY (by simp; omega), hw, TO, show zS = Dd [] from rfl, yR _ _ (by simp)]
 rfl
theorem H2 {s : ByteArray} (h : pg s = true) : wO s = some (Dd (zl s)) := by
 have h1 := qC h
 unfold wO
 rw [LN (by omega) (by omega)]
 simp only [aA]
 have := yR [(s.size : Int)] (vU s) (by rw [rS]; simp; omega)
 rw [Gm] at this
 rw [this]
 simp [zl]
theorem Fz {r : lC} (h : nP r = true) : xc r = some (Dd (vi r)) := by
 simp only [nP, bE] at h
 have h1 := qC h.1
 have a := qC h.2
 unfold xc
 rw [H2 h.1, H2 h.2]
 simp only [aA]
 rw [yR _ _ (by simp [wD]; omega)]
 rfl
theorem DL (c : lD) : yJ c = some (Dd (if nD c then we c else [])) := by
 unfold yJ
 rw [DO]
 simp only [aA]
 cases h : nD c with
 | false => rfl
 | true =>
  have g := ET h
  have i := rF g
  simp only [bY, aB, aN, aU]
  have hk : 0 ≤ c.Kind ∧ c.Kind < 128 := by rcases qk h with h | h | h | h <;> omega
  unfold CR
  rw [LN hk.1 hk.2, Fz g]
  simp only [aA]
  rw [yR _ _ (by simp; omega)]
  simp only [aA]
  rcases qk h with ⟨k, h1, _⟩ | ⟨k, h1, _⟩ | ⟨k, h1, a, _⟩ | ⟨k, h1, a, _⟩
  ·have b := qC h1
   simp only [k, bH, aU, H2 h1, aA]
   rw [yR _ _ (by simp [wD]; omega)]
   simp [we, BG, k]
  ·have b := rF h1
   simp only [k, show ((2 : Int) == 1) = false from rfl, show ((2 : Int) == 3) = false from rfl, show ((2 : Int) == 4) = false from rfl, aB, aN, Fz h1, aA]
   rw [yR _ _ (by simp; omega)]
   simp [we, BG, k]
  ·have b := rF h1
   have d := qC a
   simp only [k, show ((3 : Int) == 1) = false from rfl, show ((3 : Int) == 4) = false from rfl, aB, bH, aU, aN, Fz h1, aA]
   rw [yR _ _ (by simp; omega)]
   simp only [aA, H2 a]
   rw [yR _ _ (by simp [wD]; omega)]
   simp [we, BG, k]
  ·have b := rF h1
   have d := rF a
   simp only [k, show ((4 : Int) == 1) = false from rfl, show ((4 : Int) == 3) = false from rfl, aB, bH, aU, aN, Fz h1, aA]
   rw [yR _ _ (by simp; omega)]
   simp only [aA, Fz a]
   rw [yR _ _ (by simp; omega)]
   simp [we, BG, k]
def M6 (c : lD) : List UInt8 := yk (if nD c then we c else [])
def DS (a b : lD) : Bool := Op.bytesLess (M6 a) (M6 b)
theorem H9 (a b : lD) : ∃ c, wu a b = some c ∧ (c < 0 ↔ DS a b = true) := by
 unfold wu
 rw [En, En]
 exact ⟨_, rfl, Fm _ _⟩
theorem Hg (a b : lD) : ∃ c, vC a b = some c ∧ (c < 0 ↔ DS a b = true) := by
 unfold vC
 rw [DL, DL]
 simp only [aA]
 have h : tp (Dd (if nD a then we a else [])) (Dd (if nD b then we b else [])) = DS a b := by rw [BU]; rfl
 rw [h]
 cases DS a b with
 | true => exact ⟨_, rfl, by decide⟩
 | false =>
  simp only [aB, aN, Bool.false_or]
  cases d : np (Dd (if nD a then we a else [])) (Dd (if nD b then we b else [])) with
  | true => exact ⟨0, by simp, by decide⟩
  | false => exact ⟨1, by simp, by decide⟩
theorem VX {a b : Int} (ha : 0 ≤ a ∧ a < 256) (c : 0 ≤ b ∧ b < 256) (h : a.toNat.toUInt8 = b.toNat.toUInt8) : a = b := by
 have := bB UInt8.toNat h
 simp only [UInt8.toNat_ofNat', Nat.toUInt8] at this
 simp at this
 omega
theorem O0 : ∀ {a b : List Int}, (∀ x ∈ a, 0 ≤ x ∧ x < 256) → (∀ x ∈ b, 0 ≤ x ∧ x < 256) → yk a = yk b → a = b
 | [], [], _, _, _ => rfl
 | [], _ :: _, _, _, h => by simp [yk] at h
 | _ :: _, [], _, _, h => by simp [yk] at h
 | x :: a, y :: b, ha, d, h => by
  simp only [yk, bM, bL] at h
  rw [VX (ha x (by simp)) (d y (by simp)) h.1, O0 (fun z c => ha z (by simp [c])) (fun z c => d z (by simp [c])) h.2]
theorem Cs {s : ByteArray} (h : pg s = true) : ∀ x ∈ zl s, 0 ≤ x ∧ x < 256 := by
 have h1 := qC h
 intro x a
 rcases aS.1 a with rfl | a
 ·omega
 ·simp only [vU, bJ] at a
  obtain ⟨b, _, rfl⟩ := a
  have := kA b
  omega
theorem Au {r : lC} (h : nP r = true) : ∀ x ∈ vi r, 0 ≤ x ∧ x < 256 := by
 simp only [nP, bE] at h
 intro x a
 rcases aQ.1 a with a | a
 ·exact Cs h.1 x a
 ·exact Cs h.2 x a
theorem Ii {c : lD} (h : nD c = true) : ∀ x ∈ we c, 0 ≤ x ∧ x < 256 := by
 intro x a
 rcases aS.1 a with rfl | a
 ·rcases qk h with h | h | h | h <;> omega
 ·rcases aQ.1 a with a | a
  ·exact Au (ET h) x a
  ·unfold BG at a
   rcases qk h with ⟨k, h1, _⟩ | ⟨k, h1, _⟩ | ⟨k, h1, b, _⟩ | ⟨k, h1, b, _⟩
   ·rw [aZ k] at a; exact Cs h1 x a
   ·rw [aY (by omega), aZ k] at a; exact Au h1 x a
   ·rw [aY (by omega), aY (by omega), aZ k] at a
    rcases aQ.1 a with a | a
    ·exact Au h1 x a
    ·exact Cs b x a
   ·rw [aY (by omega), aY (by omega), aY (by omega)] at a
    rcases aQ.1 a with a | a
    ·exact Au h1 x a
    ·exact Au b x a
theorem P9 {s t : ByteArray} (h : vU s = vU t) : s = t := by rw [← Gm s, h, Gm]
theorem El {s t : ByteArray} {X Y : List Int} (h : zl s ++ X = zl t ++ Y) : s = t ∧ X = Y := by
 simp only [zl, cJ, bL] at h
 obtain ⟨h1, a⟩ := h
 have b : (vU s).length = (vU t).length := by rw [rS, rS]; omega
 have := List.append_inj a b
 exact ⟨P9 this.1, this.2⟩
theorem Cz {a b : lC} {X Y : List Int} (h : vi a ++ X = vi b ++ Y) : a = b ∧ X = Y := by
 simp only [vi, aR] at h
 obtain ⟨h1, d⟩ := El h
 obtain ⟨c, g⟩ := El d
 exact ⟨by cases a; cases b; simp at h1 c; simp [h1, c], g⟩
theorem QL {a b : lD} (ha : nD a = true) (r : nD b = true) (h : we a = we b) : a = b := by
 simp only [we, bL] at h
 obtain ⟨hk, o⟩ := h
 obtain ⟨n, h⟩ := Cz o
 clear o
 have j : ∀ {X Y : List Int}, X = Y → X ++ [] = Y ++ [] := fun h => by rw [h]
 unfold BG at h
 obtain ⟨y, q, A, v, w, t⟩ := a
 obtain ⟨z, s, D, bb, x, u⟩ := b
 simp only at hk n h
 subst hk n
 rcases qk ha with ⟨k, h1, d, g, c⟩ | ⟨k, h1, d, g, c⟩ | ⟨k, h1, d, g, c, i⟩ | ⟨k, h1, d, g, c, i⟩ <;>
 rcases qk r with ⟨k', g1, g2, g3, g4⟩ | ⟨k', g1, g2, g3, g4⟩ | ⟨k', g1, g2, g3, g4, g5⟩ | ⟨k', g1, g2, g3, g4, g5⟩ <;> simp only at k k' d g c g2 g3 g4 <;> (try omega)
 ·rw [aZ k, aZ k] at h
  simp [El (j h), d, g, c, g2, g3, g4]
 ·rw [aY (by omega), aZ k, aY (by omega), aZ k] at h
  simp [Cz (j h), d, g, c, g2, g3, g4]
 ·rw [aY (by omega), aY (by omega), aZ k, aY (by omega), aY (by omega), aZ k] at h
  obtain ⟨l, m⟩ := Cz h
  simp only at i g5
  simp [l, El (j m), c, i, g4, g5]
 ·rw [aY (by omega), aY (by omega), aY (by omega), aY (by omega), aY (by omega), aY (by omega)] at h
  obtain ⟨l, m⟩ := Cz h
  simp only at i g5
  simp [l, Cz (j m), c, i, g4, g5]
theorem zf : CV (fun a b => DS a b = true) (fun c => nD c = true) := by
 refine ⟨fun x _ h => ?_, fun x y z _ _ _ h1 i => DJ _ _ _ h1 i, fun x y d g => ?_⟩
 ·unfold DS at h; rw [EB] at h; cases h
 ·rcases FX (M6 x) (M6 y) with h | h | h
  ·exact .inl h
  ·refine .inr (.inl (QL d g ?_))
   unfold M6 at h
   rw [aZ d, aZ g] at h
   exact O0 (Ii d) (Ii g) h
  ·exact .inr (.inr h)
def uv {α : Type} (R : α → Bool) (lt : α → α → Bool) (last : Option α) : List α → Bool → α → Bool × α
 | [], ok, b => (ok, b)
 | x :: xs, ok, b => if R x && last.all (fun y => lt y x) && (!ok || lt x b) then uv R lt last xs true x else uv R lt last xs ok b
def CN {α : Type} (w : Nat) (R : α → Bool) (lt : α → α → Bool) (d : α) (l : List α) : Nat → List α → Option (List α)
 | 0, _ => none
 | n + 1, out => if !(uv R lt out.getLast? l false d).1 then some out else (oH w out [(uv R lt out.getLast? l false d).2]).bind fun o => CN w R lt d l n o
section
variable {α : Type} {R : α → Bool} {lt : α → α → Bool}
theorem HK (H : CV (fun a b => lt a b = true) (fun x => R x = true)) (last : Option α) : ∀ (l : List α) (ok : Bool) (b : α), (ok = true → R b = true ∧ last.all (fun y => lt y b) = true) →
  ((uv R lt last l ok b).1 = false → ok = false ∧ ∀ x ∈ l, R x = true → last.all (fun y => lt y x) = false) ∧
  ((uv R lt last l ok b).1 = true → R (uv R lt last l ok b).2 = true ∧ last.all (fun y => lt y (uv R lt last l ok b).2) = true ∧ ((uv R lt last l ok b).2 ∈ l ∨ (ok = true ∧ (uv R lt last l ok b).2 = b)) ∧
   (∀ x ∈ l, R x = true → last.all (fun y => lt y x) = true → lt x (uv R lt last l ok b).2 = false) ∧ (ok = true → lt b (uv R lt last l ok b).2 = false))
 | [], ok, b, j => by
  simp only [uv]
  exact ⟨fun h => ⟨h, by simp⟩, fun h => ⟨(j h).1, (j h).2, .inr ⟨h, trivial⟩, by simp, fun _ => by
   cases m : lt b b with
   | false => rfl
   | true => exact absurd m (H.irrefl b (j h).1)⟩⟩
 | x :: xs, ok, b, j => by
  rw [uv]
  by_cases k : (R x && last.all (fun y => lt y x) && (!ok || lt x b)) = true
  ·rw [aZ k]
   simp only [bE, iw, gY] at k
   obtain ⟨⟨w, s⟩, t⟩ := k
   obtain ⟨h1, r⟩ := HK H last xs true x (fun _ => ⟨w, s⟩)
   refine ⟨fun h => ?_, fun h => ?_⟩
   ·cases (h1 h).1
   ·obtain ⟨o, a2, a3, a4, a5⟩ := r h
    refine ⟨o, a2, ?_, ?_, ?_⟩
    ·rcases a3 with a3 | ⟨_, a3⟩
     ·exact .inl (by simp [a3])
     ·exact .inl (by rw [a3]; simp)
    ·intro y g c d
     rcases aS.1 g with rfl | g
     ·exact a5 rfl
     ·exact a4 y g c d
    ·intro i
     cases m : lt b (uv R lt last xs true x).2 with
     | false => rfl
     | true =>
      have u : lt x b = true := by rcases t with h | h; rw [i] at h; cases h; exact h
      have := H.trans x b _ w (j i).1 o u m
      simp only [a5 rfl] at this
      cases this
  ·rw [aY k]
   obtain ⟨h1, r⟩ := HK H last xs ok b j
   refine ⟨fun h => ⟨(h1 h).1, fun y g c => ?_⟩, fun h => ?_⟩
   ·rcases aS.1 g with rfl | g
    ·have i := (h1 h).1
     cases s : last.all (fun z => lt z y) with
     | false => rfl
     | true => exact absurd (by simp [c, s, i]) k
    ·exact (h1 h).2 y g c
   ·obtain ⟨o, a2, a3, a4, a5⟩ := r h
    refine ⟨o, a2, ?_, ?_, a5⟩
    ·rcases a3 with a3 | a3
     ·exact .inl (by simp [a3])
     ·exact .inr a3
    ·intro y g c d
     rcases aS.1 g with rfl | g
     ·cases m : lt y (uv R lt last xs ok b).2 with
      | false => rfl
      | true =>
       cases ok with
       | false => exact absurd (by simp [c, d]) k
       | true =>
        have v : lt y b = false := by
         cases A : lt y b with
         | false => rfl
         | true => exact absurd (by simp [c, d, A]) k
        have q := j rfl
        rcases H.total y b c q.1 with n | n | n
        ·rw [v] at n; cases n
        ·subst n; rw [a5 rfl] at m; cases m
        ·have := H.trans b y _ q.1 c o n m
         simp only [a5 rfl] at this
         cases this
     ·exact a4 y g c d
theorem xI (H : CV (fun a b => lt a b = true) (fun x => R x = true)) {l : List α} (d : ∀ x ∈ l, R x = true) (h : l.Pairwise (fun a b => lt a b = true)) : l.Nodup := by
 refine h.imp_of_mem (fun {a b} ha g c e => ?_)
 subst e
 exact H.irrefl a (d a ha) c
theorem om : ∀ {l m : List α}, l.Nodup → (∀ x ∈ l, x ∈ m) → l.length ≤ m.length
 | [], _, _, _ => by simp
 | x :: l, m, d, b => by
  obtain ⟨A, B, rfl⟩ := List.append_of_mem (b x (by simp))
  have a := dT.1 d
  have := om (l := l) (m := A ++ B) a.2 (fun y c => by
   have := b y (gP _ c)
   simp only [aQ, aS] at this ⊢
   rcases this with h | h | h
   ·exact .inl h
   ·subst h; exact absurd c a.1
   ·exact .inr h)
  simp at this ⊢; omega
theorem Et (H : CV (fun a b => lt a b = true) (fun x => R x = true)) {w : Nat} (hw : w ≤ 1000) (d : α) (l : List α) (I : l.length ≤ 1000000000) : ∀ (n : Nat) (out : List α), l.length < n + out.length → out.Pairwise (fun a b => lt a b = true) → (∀ x ∈ out, x ∈ l ∧ R x = true) →
  (∀ x ∈ l, R x = true → x ∈ out ∨ out.getLast?.all (fun y => lt y x) = true) → ∃ s, CN w R lt d l n out = some s ∧ sk (fun a b => lt a b = true) (fun x => R x = true) l s
 | 0, out, J, hp, hm, u => by
  exfalso
  have := om (xI H (fun x c => (hm x c).2) hp) (fun x c => (hm x c).1)
  omega
 | n + 1, out, J, hp, hm, u => by
  rw [CN]
  obtain ⟨h1, F⟩ := HK H out.getLast? l false d (fun h => by cases h)
  have hlen := om (xI H (fun x c => (hm x c).2) hp) (fun x c => (hm x c).1)
  cases D : (uv R lt out.getLast? l false d).1 with
  | false =>
   rw [aZ (by simp)]
   refine ⟨out, rfl, hp, fun x => ⟨hm x, fun c => ?_⟩⟩
   rcases u x c.1 c.2 with h | h
   ·exact h
   ·rw [(h1 D).2 x c.1 c.2] at h; cases h
  | true =>
   rw [aY (by simp)]
   obtain ⟨r, a2, a3, a4, _⟩ := F D
   generalize (uv R lt out.getLast? l false d).2 = b at *
   have t : b ∈ l := by rcases a3 with h | ⟨h, _⟩; exact h; cases h
   have o : ∀ y ∈ out, lt y b = true := by
    intro y g
    obtain ⟨A, z, rfl⟩ : ∃ A z, out = A ++ [z] := by
     rcases eB out with h | ⟨A, z, h⟩
     ·subst h; cases g
     ·exact ⟨A, z, by rw [h]; simp⟩
    simp at a2
    rcases aQ.1 g with g | g
    ·have v : lt y z = true := (dG.1 hp).2.2 y g z (by simp)
     exact H.trans y z b (hm y (by simp [g])).2 (hm z (by simp)).2 r v a2
    ·simp at g; subst g; exact a2
   have q : (out ++ [b]).Pairwise (fun a b => lt a b = true) := dG.2 ⟨hp, by simp, fun x c y g => by simp at g; subst g; exact o x c⟩
   have k : ∀ x ∈ out ++ [b], x ∈ l ∧ R x = true := fun x c => by
    rcases aQ.1 c with c | c
    ·exact hm x c
    ·simp at c; subst c; exact ⟨t, r⟩
   have j := om (xI H (fun x c => (k x c).2) q) (fun x c => (k x c).1)
   simp at j
   rw [nX (by simp only [aO, bZ]; have : (out.length + (0 + 1)) * w ≤ 1000000000 * 1000 := Nat.mul_le_mul (by omega) hw; omega) (by simp; omega)]
   simp only [aA]
   refine Et H hw d l I n (out ++ [b]) (by simp; omega) q k (fun x c i => ?_)
   rcases u x c i with h | h
   ·exact .inl (by simp [h])
   ·have G := a4 x c i h
    rcases H.total x b i r with m | m | m
    ·rw [G] at m; cases m
    ·subst m; exact .inl (by simp)
    ·exact .inr (by simp [m])
end
theorem Je {α : Type} (A : List α) (x : α) (a : A.length < 4611686018427387904) : nG (A ++ [x]) (wi0 .i64 (((A ++ [x]).length : Int) - 1)) = some x := by
 rw [ni (by simp; try omega) (by simp; try omega)]
 rw [oU A x [] _ (by simp; try omega)]
theorem I4 (out : List lD) (k : out.length < 4611686018427387904) : ∀ (l : List lD) (ok : Bool) (b : lD), uK out l ok b = some (uv nD DS out.getLast? l ok b)
 | [], ok, b => rfl
 | x :: xs, ok, b => by
  rw [uK, uv]
  have cmp : ∀ a b, ∃ c, vC a b = some c ∧ decide (c < 0) = DS a b := fun a b => by
   obtain ⟨c, h1, j⟩ := Hg a b
   exact ⟨c, h1, by rw [bX, ← j]; simp⟩
  rw [DO, I4 out k xs true x, I4 out k xs ok b]
  obtain ⟨c, h1, j⟩ := cmp x b
  rcases eB out with h | ⟨A, z, h⟩
  ·subst h
   simp only [h1, aA, j, bZ, Option.all, List.getLast?_nil]
   generalize DS x b = p
   cases nD x <;> cases ok <;> cases p <;> simp
  ·have i : out = A ++ [z] := by rw [h]; simp
   obtain ⟨s, q, r⟩ := cmp z x
   have d : out.getLast? = some z := by rw [i]; simp
   have g : nG out (wi0 .i64 ((out.length : Int) - 1)) = some z := by rw [i]; exact Je A z (by rw [i] at k; simp at k; omega)
   have m : ((out.length : Int) == 0) = false := by rw [i]; simp; omega
   rw [d]
   simp only [m, g, q, h1, aA, j, r, Option.all]
   rcases eV (DS x b) with hp | hp <;> rcases eV (DS z x) with n | n <;> rcases eV (nD x) with o | o <;> cases ok <;> simp [hp, n, o]
theorem XP (a b : ByteArray) : (!(tp a b || np a b)) = tp b a := by
 rcases CB a b with h | h | h
 ·simp [h, LC h]
 ·subst h; simp [yj, vZ]
 ·have c := LC h
  have d : np a b = false := OK (by rintro rfl; rw [vZ] at h; cases h)
  simp [h, c, d]
theorem QA {s : ByteArray} (h : pg s = true) : np s zS = false := OK (fun e => by have := qC h; rw [e, Ux] at this; omega)
theorem IX (out : List ByteArray) (k : out.length < 4611686018427387904) : ∀ (l : List ByteArray) (b : ByteArray),
  ∃ m, uR out l b = some m ∧ (uv pg tp out.getLast? l (!np b zS) b) = (!np m zS, m)
 | [], b => ⟨b, rfl, rfl⟩
 | x :: xs, b => by
  rw [uR, uv]
  obtain ⟨u, s, c⟩ := IX out k xs x
  obtain ⟨v, t, i⟩ := IX out k xs b
  rw [A4, s, t]
  by_cases g : pg x = true
  ·rw [QA g] at c
   simp only [dI] at c
   rcases eB out with h | ⟨A, z, h⟩
   ·subst h
    simp only [aA, bZ, Option.all, List.getLast?_nil, g] at *
    rw [c, i]
    generalize tp x b = p
    generalize np b zS = q
    cases p <;> cases q <;> simp
   ·have j : out = A ++ [z] := by rw [h]; simp
    have a : out.getLast? = some z := by rw [j]; simp
    have d : nG out (wi0 .i64 ((out.length : Int) - 1)) = some z := by rw [j]; exact Je A z (by rw [j] at k; simp at k; omega)
    have n : ((out.length : Int) == 0) = false := by rw [j]; simp; omega
    rw [a] at c i ⊢
    simp only [n, d, aA, Option.all, XP, g]
    rw [c, i]
    rcases eV (tp x b) with hp | hp <;> rcases eV (tp z x) with o | o <;> rcases eV (np b zS) with r | r <;> simp [hp, o, r]
  ·simp only [gF] at g
   rw [g, i]
   simp
theorem Tj (a : List lD) : ∀ (n : Nat) (out s : List lD), CN 136 nD DS (⟨0, ⟨zS, zS⟩, zS, ⟨zS, zS⟩, ⟨zS, zS⟩, zS⟩ : lD) a n out = some s → s.length < 4611686018427387904 → wq a n out = some s ∧ out.length ≤ s.length
 | 0, out, s, h, _ => by cases h
 | n + 1, out, s, h, g => by
  rw [CN] at h
  rw [wq]
  have key : out.length ≤ s.length → uK out a false (⟨0, ⟨zS, zS⟩, zS, ⟨zS, zS⟩, ⟨zS, zS⟩, zS⟩ : lD) = _ := fun j => I4 out (by omega) a false _
  split at h
  ·rename_i h1
   cases h
   rw [key (bA _)]
   simp only [aA]
   rw [aZ h1]
   exact ⟨rfl, bA _⟩
  ·rename_i h1
   obtain ⟨o, b, c⟩ := bind_some h
   have d := Tj a n o s c g
   have i : out.length + 1 = o.length := by
    unfold oH at b; split at b
    ·cases b; simp
    ·cases b
   rw [key (by omega)]
   simp only [aA]
   rw [aY h1, b]
   exact ⟨d.1, by omega⟩
theorem TC (a : List ByteArray) : ∀ (n : Nat) (out s : List ByteArray), CN 16 pg tp zS a n out = some s → s.length < 4611686018427387904 → wv a n out = some s ∧ out.length ≤ s.length
 | 0, out, s, h, _ => by cases h
 | n + 1, out, s, h, j => by
  rw [CN] at h
  rw [wv]
  have key : out.length ≤ s.length → ∃ c, uR out a zS = some c ∧ uv pg tp out.getLast? a false zS = (!np c zS, c) := fun l => by
   have := IX out (by omega) a zS
   rw [yj] at this
   exact this
  split at h
  ·rename_i h1
   cases h
   obtain ⟨c, d, k2⟩ := key (bA _)
   rw [d]
   rw [k2] at h1
   simp only [aA]
   rw [aZ (by simpa using h1)]
   exact ⟨rfl, bA _⟩
  ·rename_i h1
   obtain ⟨o, b, g⟩ := bind_some h
   have i := TC a n o s g j
   have k : out.length + 1 = o.length := by
    unfold oH at b; split at b
    ·cases b; simp
    ·cases b
   obtain ⟨c, d, k2⟩ := key (by omega)
   rw [d]
   rw [k2] at h1 b
   simp only [aA]
   rw [aY (by simpa using h1), b]
   exact ⟨i.1, by omega⟩
abbrev UO (l s : List ByteArray) := sk (fun a b => tp a b = true) (fun x => pg x = true) l s
abbrev qe (l s : List lC) := sk (fun a b => BN a b = true) (fun x => nP x = true) l s
abbrev vp (l s : List lD) := sk (fun a b => DS a b = true) (fun x => nD x = true) l s
theorem sG {α : Type} {lt : α → α → Bool} {R : α → Bool} (H : CV (fun a b => lt a b = true) (fun x => R x = true)) {l s : List α} (h : sk (fun a b => lt a b = true) (fun x => R x = true) l s) : s.length ≤ l.length :=
 om (xI H (fun x c => ((h.2 x).1 c).2) h.1) (fun x c => ((h.2 x).1 c).1)
theorem Um (l : List lD) (b : l.length ≤ 1000000000) : ∃ s, E4 l = some s ∧ vp l s := by
 obtain ⟨s, h1, a⟩ := Et zf (w := 136) (by omega) (⟨0, ⟨zS, zS⟩, zS, ⟨zS, zS⟩, ⟨zS, zS⟩, zS⟩ : lD) l b mR [] (by rw [yV]; omega) (by simp) (by simp) (fun x _ _ => .inr rfl)
 exact ⟨s, (Tj l mR [] s h1 (by have := sG zf a; omega)).1, a⟩
theorem TP (l : List ByteArray) (b : l.length ≤ 1000000000) : ∃ s, Ck l = some s ∧ UO l s := by
 obtain ⟨s, h1, a⟩ := Et (TA (fun x => pg x = true)) (w := 16) (by omega) zS l b mR [] (by rw [yV]; omega) (by simp) (by simp) (fun x _ _ => .inr rfl)
 exact ⟨s, (TC l mR [] s h1 (by have := sG (TA _) a; omega)).1, a⟩
def zC : lD := ⟨0, ⟨zS, zS⟩, zS, ⟨zS, zS⟩, ⟨zS, zS⟩, zS⟩
theorem OY (f : lD → Option Bool) : ∀ (n : Nat) (l : List lD) (i j : Int), pH f n l i j = DV f zC n l i j
 | 0, _, _, _ => rfl
 | n + 1, l, i, j => by
  rw [pH, DV]
  simp only [OY f n]
  rfl
theorem Li (f : lD → Option Bool) : ∀ (l : List lD) (i : Nat), qQ f l i = Ao f l i
 | [], _ => rfl
 | x :: l, i => by rw [qQ, Ao]; simp only [Li f l]
theorem F4 (f : lD → Option Bool) (l : List lD) : pE l f = EW f zC l := by
 unfold pE EW sb
 simp only [Li, OY]
theorem No (i : Int) : ∀ (n : Nat) (l : List lD) (k j : Int), qn i n l k j = Cj mO i n l k j
 | 0, _, _, _ => rfl
 | n + 1, l, k, j => by
  rw [qn, Cj]
  simp only [No i n]
theorem MX (l : List lD) : ∀ (n : Nat) (i : Int), qw l n i = CQ mO zC l n i
 | 0, _ => rfl
 | n + 1, i => by
  rw [qw, CQ]
  simp only [MX l n, No]
  rfl
theorem SR (l : List lD) : vA l = IW mO zC l := by
 unfold vA IW
 simp only [MX]
theorem O2 (f : lC → Option Bool) : ∀ (n : Nat) (l : List lC) (i j : Int), pI f n l i j = DV f zR n l i j
 | 0, _, _, _ => rfl
 | n + 1, l, i, j => by
  rw [pI, DV]
  simp only [O2 f n]
  rfl
theorem OT (f : lC → Option Bool) : ∀ (l : List lC) (i : Nat), qS f l i = Ao f l i
 | [], _ => rfl
 | x :: l, i => by rw [qS, Ao]; simp only [OT f l]
theorem Jg (f : lC → Option Bool) (l : List lC) : rE l f = EW f zR l := by
 unfold rE EW wX
 simp only [OT, O2]
theorem NH (i : Int) : ∀ (n : Nat) (l : List lC) (k j : Int), ql i n l k j = Cj me i n l k j
 | 0, _, _, _ => rfl
 | n + 1, l, k, j => by
  rw [ql, Cj]
  simp only [NH i n]
theorem MQ (l : List lC) : ∀ (n : Nat) (i : Int), qu l n i = CQ me zR l n i
 | 0, _ => rfl
 | n + 1, i => by
  rw [qu, CQ]
  simp only [MQ l n, NH]
  rfl
theorem Sx (l : List lC) : vK l = IW me zR l := by
 unfold vK IW
 simp only [MQ]
theorem Rg {l : List lD} (a : l.length ≤ 1000000000) : sn l = some l := by
 unfold sn
 rw [nX (by simp; omega) (by simp; omega)]
 simp
theorem V3 {l : List lC} (a : l.length ≤ 1000000000) : uy l = some l := by
 unfold uy
 rw [nX (by simp; omega) (by simp; omega)]
 simp
theorem FR (l : List lD) (d : l.length ≤ 1000000000) : ∃ s, pj l = some s ∧ vp l s := by
 unfold pj
 rw [Rg d]
 simp only [aA]
 rw [F4, yt _ (fun x => !nD x) zC l (by omega) (fun x _ => by simp [AL, zm])]
 simp only [aA, fV]
 have i : (l.filter fun x => nD x).length ≤ l.length := cQ _ _
 obtain ⟨s, h1, h, c⟩ := E2 (eq := mO) (lt := fun a b => DS a b = true) (P := fun x => nD x = true) (cf := fun x => wu x.1 x.2) (l := l.filter fun x => nD x) (fun x y => ou) zf (fun x g => (bU.1 g).2) (by omega) (fun x y _ _ => H9 x y)
 rw [h1]
 simp only [aA]
 rw [SR, Jj _ _ _ (by omega)]
 refine ⟨_, rfl, c.1, fun x => ?_⟩
 rw [c.2]
 simp
theorem EZ (l : List lC) (d : l.length ≤ 1000000000) : ∃ s, pG l = some s ∧ qe l s := by
 unfold pG
 rw [V3 d]
 simp only [aA]
 rw [Jg, yt _ (fun x => !nP x) zR l (by omega) (fun x _ => by simp [AS, xo])]
 simp only [aA, fV]
 have i : (l.filter fun x => nP x).length ≤ l.length := cQ _ _
 obtain ⟨s, h1, h, c⟩ := E2 (eq := me) (lt := fun a b => BN a b = true) (P := fun x => nP x = true) (cf := fun x => pQ x.1 x.2) (l := l.filter fun x => nP x) (fun x y => mn) (Co _) (fun x g => (bU.1 g).2) (by omega) (fun x y _ _ => xQ x y)
 rw [h1]
 simp only [aA]
 rw [Sx, Jj _ _ _ (by omega)]
 refine ⟨_, rfl, c.1, fun x => ?_⟩
 rw [c.2]
 simp
theorem LV (b : List lD) : ∀ (A l : List lD), xu (A ++ l) l A.length = some true
 | A, [] => rfl
 | A, x :: l => by
  rw [xu, oU A x l _ rfl]
  simp only [aA]
  rw [ou.2 rfl]
  simp only [bY, aB, aN]
  have := LV b (A ++ [x]) l
  simpa using this
theorem WJ (l : List lD) : Bv l l = some true := by
 unfold Bv
 rw [aY (by simp)]
 exact LV [] [] l
theorem LU : ∀ (A l : List lC), se (A ++ l) l A.length = some true
 | A, [] => rfl
 | A, x :: l => by
  rw [se, oU A x l _ rfl]
  simp only [aA]
  rw [mn.2 rfl]
  simp only [bY, aB, aN]
  have := LU (A ++ [x]) l
  simpa using this
theorem Wj (l : List lC) : BF l l = some true := by
 unfold BF
 rw [aY (by simp)]
 exact LU [] l
def tt {κ : Type} (a : List κ) : List (κ × Bool) := a.map fun k => (k, true)
def ob {κ : Type} (beq : κ → κ → Bool) (a : List κ) (k : κ) : Bool := a.any fun x => beq k x
def ins {κ : Type} (beq : κ → κ → Bool) (a : List κ) (k : κ) : List κ := if ob beq a k then a else a ++ [k]
section
variable {κ : Type} {beq : κ → κ → Bool}
theorem rl (b : ∀ {x y}, beq x y = true ↔ x = y) (a : List κ) (k : κ) : ob beq a k = true ↔ k ∈ a := by
 simp [ob, fB, b]
theorem OZ (b : ∀ {x y}, beq x y = true ↔ x = y) (a : List κ) (k x : κ) : x ∈ ins beq a k ↔ x ∈ a ∨ x = k := by
 unfold ins
 split
 ·rename_i h
  have := (rl b a k).1 h
  exact ⟨.inl, fun h => by rcases h with h | rfl; exact h; exact this⟩
 ·simp
theorem JT (a : List κ) (k : κ) : (ins beq a k).length ≤ a.length + 1 ∧ a.length ≤ (ins beq a k).length := by
 unfold ins; split <;> simp
theorem Hh (a : List κ) : (tt a).length = a.length := by simp [tt]
theorem FM (a : List κ) (k : κ) : zn beq (tt a) k false = ob beq a k := by
 unfold zn nE ob tt
 induction a with
 | nil => rfl
 | cons x xs ih =>
  simp only [bM, fG, jI]
  cases h : beq k x with
  | true => simp
  | false => simpa using ih
theorem Fo (l : ∀ {x y}, beq x y = true ↔ x = y) (a : List κ) (k : κ) : pu beq (tt a) k true = tt (ins beq a k) := by
 unfold pu ins
 have m : (tt a).findIdx? (fun p => beq k p.1) = a.findIdx? (fun x => beq k x) := by
  unfold tt; rw [jl]; rfl
 rw [m]
 cases h : a.findIdx? (fun x => beq k x) with
 | none =>
  rw [iV] at h
  rw [aY]
  ·simp [tt]
  ·intro c
   unfold ob at c
   rw [fB] at c
   obtain ⟨x, n, b⟩ := c
   rw [h x n] at b
   cases b
 | some i =>
  rw [fC] at h
  obtain ⟨g, h1, _⟩ := h
  have e := l.1 h1
  rw [aZ]
  ·simp only [tt]
   apply fP
   intro j
   rw [gN]
   split
   ·rename_i d
    subst d
    simp [g, e]
   ·rfl
  ·unfold ob
   exact fB.2 ⟨a[i], List.getElem_mem g, h1⟩
end
inductive xK (all : List lD) (wants : List lC) : lC ⊕ ByteArray ⊕ lD → Prop
 | want (r : lC) : r ∈ wants → xK all wants (.inl r)
 | IU (c : lD) : c ∈ all → xK all wants (.inl c.Head) → xK all wants (.inr (.inr c))
 | Lc (c : lD) : c ∈ all → xK all wants (.inr (.inl c.Head.lN)) → xK all wants (.inr (.inr c))
 | IA (c : lD) : xK all wants (.inr (.inr c)) → c.Kind > 1 → xK all wants (.inl c.B)
 | JV (c : lD) : xK all wants (.inr (.inr c)) → c.Kind = 4 → xK all wants (.inl c.C)
 | JX (c : lD) : xK all wants (.inr (.inr c)) → c.Kind = 3 → xK all wants (.inr (.inl c.mQ))
structure ze (all : List lD) (wants : List lC) (T : List lC) (W : List ByteArray) (R : List lD) : Prop where
 sT : ∀ r ∈ T, xK all wants (.inl r)
 sW : ∀ w ∈ W, xK all wants (.inr (.inl w))
 sR : ∀ c ∈ R, xK all wants (.inr (.inr c))
 want : ∀ r ∈ wants, r ∈ T
 sub : ∀ c ∈ R, c ∈ all
 nd : R.Nodup
 IA : ∀ c ∈ R, c.Kind > 1 → c.B ∈ T
 JV : ∀ c ∈ R, c.Kind = 4 → c.C ∈ T
 JX : ∀ c ∈ R, c.Kind = 3 → c.mQ ∈ W
 lT : T.length ≤ wants.length + 2 * R.length
 lW : W.length ≤ R.length
def KE (all : List lD) (T : List lC) (W : List ByteArray) (R : List lD) : Prop := ∀ c ∈ all, (c.Head ∈ T ∨ c.Head.lN ∈ W) → c ∈ R
section
variable {all : List lD} {wants : List lC} {T : List lC} {W : List ByteArray} {R : List lD}
theorem ze.UM (h : ze all wants T W R) (b : KE all T W R) : ∀ x, xK all wants x → (match x with | .inl r => r ∈ T | .inr (.inl w) => w ∈ W | .inr (.inr c) => c ∈ R) := by
 intro x g
 induction g with
 | want r d => exact h.want r d
 | IU c a _ ih => exact b c a (.inl ih)
 | Lc c a _ ih => exact b c a (.inr ih)
 | IA c _ hk ih => exact h.IA c ih hk
 | JV c _ hk ih => exact h.JV c ih hk
 | JX c _ hk ih => exact h.JX c ih hk
theorem ze.WL (h : ze all wants T W R) (a : KE all T W R) (c : lD) : c ∈ R ↔ xK all wants (.inr (.inr c)) := ⟨h.sR c, h.UM a (.inr (.inr c))⟩
theorem ze.lR (h : ze all wants T W R) : R.length ≤ all.length := om h.nd h.sub
def oV (c : lD) : List lC := if c.Kind = 1 then [] else if c.Kind = 4 then [c.B, c.C] else [c.B]
theorem ze.add (h : ze all wants T W R) {c : lD} (o : c ∈ all) (hk : nD c = true) (v : c ∉ R) (m : c.Head ∈ T ∨ c.Head.lN ∈ W) {T' : List lC} {W' : List ByteArray} (l : ∀ r, r ∈ T' ↔ r ∈ T ∨ r ∈ oV c) (n : ∀ w, w ∈ W' ↔ w ∈ W ∨ (c.Kind = 3 ∧ w = c.mQ)) (lT : T'.length ≤ T.length + 2) (lW : W'.length ≤ W.length + 1) : ze all wants T' W' (R ++ [c]) := by
 have k : xK all wants (.inr (.inr c)) := by
  rcases m with m | m
  ·exact .IU c o (h.sT _ m)
  ·exact .Lc c o (h.sW _ m)
 have u : c.Kind = 1 ∨ c.Kind = 2 ∨ c.Kind = 3 ∨ c.Kind = 4 := by rcases qk hk with h | h | h | h <;> simp [h.1]
 refine ⟨fun r j => ?_, fun w hw => ?_, fun d g => ?_, fun r j => (l r).2 (.inl (h.want r j)), fun d g => ?_, ?_, fun d g i => ?_, fun d g i => ?_, fun d g i => ?_, ?_, ?_⟩
 ·rcases (l r).1 j with j | j
  ·exact h.sT r j
  ·unfold oV at j
   split at j
   ·cases j
   ·split at j
    ·rename_i t
     simp at j
     rcases j with rfl | rfl
     ·exact .IA c k (by omega)
     ·exact .JV c k t
    ·simp at j; subst j; exact .IA c k (by omega)
 ·rcases (n w).1 hw with hw | ⟨s, rfl⟩
  ·exact h.sW w hw
  ·exact .JX c k s
 ·rcases aQ.1 g with g | g
  ·exact h.sR d g
  ·simp at g; subst g; exact k
 ·rcases aQ.1 g with g | g
  ·exact h.sub d g
  ·simp at g; subst g; exact o
 ·exact cA.2 ⟨h.nd, by simp, fun a ha b q => by simp at q; subst q; intro e; subst e; exact v ha⟩
 ·rcases aQ.1 g with g | g
  ·exact (l _).2 (.inl (h.IA d g i))
  ·simp at g; subst g
   refine (l _).2 (.inr ?_)
   unfold oV
   rw [aY (by omega)]
   split <;> simp
 ·rcases aQ.1 g with g | g
  ·exact (l _).2 (.inl (h.JV d g i))
  ·simp at g; subst g
   refine (l _).2 (.inr ?_)
   unfold oV
   rw [aY (by omega), aZ i]
   simp
 ·rcases aQ.1 g with g | g
  ·exact (n _).2 (.inl (h.JX d g i))
  ·simp at g; subst g; exact (n _).2 (.inr ⟨i, rfl⟩)
 ·have := h.lT; simp; omega
 ·have := h.lW; simp; omega
end
theorem KF (x : lD) : ∀ l : List lD, Az l x = some (ob mO l x)
 | [] => rfl
 | y :: l => by
  have ih := KF x l
  unfold Az at ih ⊢
  rw [zU, ih]
  have : mO y x = mO x y := by rw [bX, ou, ou]; exact eq_comm
  rw [this]
  simp only [ob, jI]
  cases mO x y <;> simp
theorem Qq {c : lD} (h : nD c = true) : zu c = some (c.Head :: oV c) := by
 unfold zu
 rw [zm, h]
 simp only [aA, bY, aB, aN]
 have a : c.Kind = 1 ∨ c.Kind = 2 ∨ c.Kind = 3 ∨ c.Kind = 4 := by rcases qk h with h | h | h | h <;> simp [h.1]
 rcases a with k | k | k | k
 ·simp [k, oV]
 ·rw [aZ (by simp [k]), nX (by simp) (by simp)]
  simp [k, oV]
 ·rw [aZ (by simp [k]), nX (by simp) (by simp)]
  simp [k, oV]
 ·rw [aZ (by simp [k]), nX (by simp) (by simp)]
  simp only [aA]
  rw [aZ (by simp [k]), nX (by simp) (by simp)]
  simp [k, oV]
theorem OO (c : lD) (W : List ByteArray) (R : List lD) : ∀ (a : List lC) (T : List lC), qK c (tt W) (tt R) a (tt T) =
  some (tt (a.foldl (ins me) T), tt (if c.Kind = 3 then ins np W c.mQ else W), tt (ins mO R c))
 | [], T => by
  rw [qK, Fo nU, Fo ou]
  by_cases h : c.Kind = 3 <;> simp [h]
 | r :: a, T => by
  rw [qK, Fo mn, OO c W R a]
  rfl
theorem vM : ∀ (a T : List lC) (r : lC), r ∈ a.foldl (ins me) T ↔ r ∈ T ∨ r ∈ a
 | [], T, r => by simp
 | x :: a, T, r => by
  rw [jd, vM a, OZ mn]
  simp [or_assoc]
theorem AX : ∀ (a T : List lC), (a.foldl (ins me) T).length ≤ T.length + a.length
 | [], T => by simp
 | x :: a, T => by
  have h1 := AX a (ins me T x)
  have b := (JT (beq := me) T x).1
  simp only [jd, aO]
  omega
theorem UC {c : lD} (h : nD c = true) (A : List lD) (T : List lC) (W : List ByteArray) (R : List lD) : wh A (tt T) (tt W) (tt R) c =
  some (tt ((oV c).foldl (ins me) T), tt (if c.Kind = 3 then ins np W c.mQ else W), tt (ins mO R c)) := by
 unfold wh
 rw [Qq h]
 simp only [aA]
 have a : rU (decide ((0 : Nat) ≤ 1) && decide ((1 : Int) ≤ ((c.Head :: oV c).length : Int))) = some () := by
  have : (1 : Int) ≤ ((c.Head :: oV c).length : Int) := by simp; omega
  simp only [rU, this]
  rfl
 rw [a]
 simp only [aA, show Int.toNat 1 = 1 from rfl, List.drop_succ_cons, List.drop_zero]
 exact OO c W R _ T
theorem KK (A all : List lD) (wants : List lC) (v : ∀ c ∈ all, nD c = true) : ∀ (l : List lD) (T : List lC) (W : List ByteArray) (R : List lD), (∀ c ∈ l, c ∈ all) → ze all wants T W R →
  ∃ T' W' R', pO A l (tt T) (tt W) (tt R) = some (tt T', tt W', tt R') ∧ ze all wants T' W' R' ∧ R.length ≤ R'.length ∧ (R'.length = R.length → T' = T ∧ W' = W ∧ R' = R ∧ ∀ c ∈ l, (c.Head ∈ T ∨ c.Head.lN ∈ W) → c ∈ R)
 | [], T, W, R, _, h => ⟨T, W, R, rfl, h, bA _, fun _ => ⟨rfl, rfl, rfl, by simp⟩⟩
 | c :: l, T, W, R, u, h => by
  rw [pO, FM]
  have y := rl (beq := mO) ou R c
  have z := rl (beq := me) mn T c.Head
  have D := rl (beq := np) nU W c.Head.lN
  have rest : (c ∈ R ∨ ¬ (c.Head ∈ T ∨ c.Head.lN ∈ W)) → ∃ T' W' R', pO A l (tt T) (tt W) (tt R) = some (tt T', tt W', tt R') ∧ ze all wants T' W' R' ∧ R.length ≤ R'.length ∧ (R'.length = R.length → T' = T ∧ W' = W ∧ R' = R ∧ ∀ d ∈ c :: l, (d.Head ∈ T ∨ d.Head.lN ∈ W) → d ∈ R) := by
   intro j
   obtain ⟨T', W', R', e, g1, g2, g3⟩ := KK A all wants v l T W R (fun d g => u d (by simp [g])) h
   refine ⟨T', W', R', e, g1, g2, fun x => ?_⟩
   obtain ⟨F, a2, a3, a4⟩ := g3 x
   exact ⟨F, a2, a3, fun d g n => by
    rcases aS.1 g with rfl | g
    ·rcases j with j | j
     ·exact j
     ·exact absurd n j
    ·exact a4 d g n⟩
  by_cases t : c ∈ R
  ·rw [y.2 t]
   simp only [bY, aB, aN, aA]
   exact rest (.inl t)
  ·have i : ob mO R c = false := by cases q : ob mO R c with | false => rfl | true => exact absurd (y.1 q) t
   rw [i]
   simp only [dI, aU, zb, FM]
   by_cases a : c.Head ∈ T ∨ c.Head.lN ∈ W
   ·have b : ((if ob me T c.Head = true then some true else some (ob np W c.Head.lN)) : Option Bool) = some true := by
     rcases a with a | a
     ·rw [z.2 a]; rfl
     ·rw [D.2 a]; cases ob me T c.Head <;> rfl
    rw [b]
    simp only [aA, aU]
    have m := v c (u c (by simp))
    rw [UC m]
    simp only [aA]
    have o : ins mO R c = R ++ [c] := by unfold ins; rw [i]; rfl
    rw [o]
    have J : (oV c).length ≤ 2 := by unfold oV; split <;> (try split) <;> simp
    have s := h.add (u c (by simp)) m t a (T' := (oV c).foldl (ins me) T) (W' := if c.Kind = 3 then ins np W c.mQ else W) (fun r => vM _ _ _) (fun w => by
     by_cases k : c.Kind = 3
     ·simp only [k, aU, true_and]; exact OZ nU W c.mQ w
     ·simp [k]) (by have := AX (oV c) T; omega) (by
     by_cases k : c.Kind = 3
     ·simp only [k, aU]; exact (JT W c.mQ).1
     ·simp [k])
    obtain ⟨T', W', R', e, g1, g2, g3⟩ := KK A all wants v l _ _ _ (fun d g => u d (by simp [g])) s
    simp at g2
    exact ⟨T', W', R', e, g1, by omega, fun x => by omega⟩
   ·have G : ob me T c.Head = false := by cases q : ob me T c.Head with | false => rfl | true => exact absurd (.inl (z.1 q)) a
    have I : ob np W c.Head.lN = false := by cases q : ob np W c.Head.lN with | false => rfl | true => exact absurd (.inr (D.1 q)) a
    rw [G, I]
    simp only [aB, aN, aA]
    exact rest (.inr a)
theorem ON (all : List lD) (wants : List lC) (b : ∀ c ∈ all, nD c = true) : ∀ (n : Nat) (x : Int) (T : List lC) (W : List ByteArray) (R : List lD), (all.length : Int) < n + x → ze all wants T W R → x ≤ R.length → (x = R.length → KE all T W R) →
  ∃ T' W' R', qO all n x (tt T) (tt W) (tt R) = some (tt T', tt W', tt R') ∧ ze all wants T' W' R' ∧ KE all T' W' R'
 | 0, x, T, W, R, g, h, i, _ => by have := h.lR; omega
 | n + 1, x, T, W, R, g, h, i, d => by
  rw [qO, Hh]
  by_cases a : x < R.length
  ·rw [aZ (by simpa using a)]
   obtain ⟨T', W', R', e, g1, g2, g3⟩ := KK all all wants b all T W R (fun _ h => h) h
   rw [e]
   simp only [aA]
   refine ON all wants b n R.length T' W' R' (by omega) g1 (by omega) (fun he => ?_)
   obtain ⟨rfl, rfl, rfl, a4⟩ := g3 (by omega)
   exact a4
  ·rw [aY (by simpa using a)]
   exact ⟨T, W, R, rfl, h, d (by omega)⟩
theorem OE (all : List lD) (W : List ByteArray) (R : List lD) : ∀ (ws T : List lC), pM all (tt W) (tt R) ws (tt T) = pM all (tt W) (tt R) [] (tt (ws.foldl (ins me) T))
 | [], T => rfl
 | w :: ws, T => by
  show pM all (tt W) (tt R) ws (pu me (tt T) w true) = _
  rw [Fo mn, OE all W R ws]
  rfl
theorem xK.mono {all : List lD} {wants a : List lC} (hw : ∀ r ∈ wants, r ∈ a) {x : lC ⊕ ByteArray ⊕ lD} (h : xK all wants x) : xK all a x := by
 induction h with
 | want r d => exact .want r (hw r d)
 | IU c b _ ih => exact .IU c b ih
 | Lc c b _ ih => exact .Lc c b ih
 | IA c _ hk ih => exact .IA c ih hk
 | JV c _ hk ih => exact .JV c ih hk
 | JX c _ hk ih => exact .JX c ih hk
theorem Ub (all : List lD) (a : ∀ c ∈ all, nD c = true) (l : all.length ≤ 100000000) (wants b : List lC) (j : b.length ≤ 1000000000) {T : List lC} {W : List ByteArray} {R : List lD} (h : ze all wants T W R) :
  ∃ s T' W' R', qe b s ∧ ze all (wants ++ s) T' W' R' ∧ KE all T' W' R' ∧ tX all (tt T) (tt W) (tt R) b = some ((R'.length : Int) - R.length, tt T', tt W', tt R') := by
 obtain ⟨s, h1, g⟩ := EZ b j
 have i : ze all (wants ++ s) (s.foldl (ins me) T) W R := by
  have hm : ∀ {x}, xK all wants x → xK all (wants ++ s) x := fun k => k.mono (fun r a => cK _ a)
  refine ⟨fun r a => ?_, fun w hw => hm (h.sW w hw), fun c d => hm (h.sR c d), fun r a => ?_, h.sub, h.nd, fun c d hk => ?_, fun c d hk => ?_, h.JX, ?_, h.lW⟩
  ·rcases (vM s T r).1 a with a | a
   ·exact hm (h.sT r a)
   ·exact .want r (dZ _ a)
  ·rcases aQ.1 a with a | a
   ·exact (vM s T r).2 (.inl (h.want r a))
   ·exact (vM s T r).2 (.inr a)
  ·exact (vM s T _).2 (.inl (h.IA c d hk))
  ·exact (vM s T _).2 (.inl (h.JV c d hk))
  ·have := h.lT
   have := AX s T
   simp; omega
 obtain ⟨T', W', R', e, g1, g2⟩ := ON all (wants ++ s) a mR (-1) _ W R (by rw [yV]; omega) i (by omega) (fun he => by omega)
 refine ⟨s, T', W', R', g, g1, g2, ?_⟩
 unfold tX
 rw [h1]
 simp only [aA]
 rw [OE, pM, e]
 simp only [aA, Hh]
 have := g1.lR
 have := h.lR
 rw [ni (by omega) (by omega)]
theorem UN (l : List lD) (a : List lC) (i : l.length ≤ 100000000) (ha : a.length ≤ 1000000000) : ∃ all s T W R, vp l all ∧ qe a s ∧ ze all s T W R ∧ KE all T W R ∧ Cw l a = some (all, tt T, tt W, tt R) := by
 obtain ⟨all, h1, d⟩ := FR l (by omega)
 have h := sG zf d
 obtain ⟨s, T, W, R, g1, g2, g3, g4⟩ := Ub all (fun c g => ((d.2 c).1 g).2) (by omega) [] a ha (T := []) (W := []) (R := []) ⟨by simp, by simp, by simp, by simp, by simp, by simp, by simp, by simp, by simp, by simp, by simp⟩
 refine ⟨all, s, T, W, R, d, g1, by simpa using g2, g3, ?_⟩
 unfold Cw
 rw [h1]
 simp only [aA]
 have b : tX all [] [] [] a = _ := g4
 rw [b]
 rfl
theorem sk.congr {α : Type} {lt : α → α → Prop} {P : α → Prop} {l m s : List α} (h : sk lt P l s) (hm : ∀ x, x ∈ l ↔ x ∈ m) : sk lt P m s := ⟨h.1, fun x => by rw [h.2, hm]⟩
theorem Ug {κ : Type} (a : List κ) : (tt a).map (·.1) = a := by simp [tt, iF]
theorem NZ {l all : List lD} (h : vp l all) (g : all.length ≤ 100000000) (T : List (lC × Bool)) (W : List (ByteArray × Bool)) (R : List lD) (b : ∀ c ∈ R, c ∈ all) {s : List lD} (d : vp R s) : vg all T W (tt R) = some s := by
 unfold vg
 rw [Rg (by omega)]
 simp only [aA]
 rw [F4, yt _ (fun c => !ob mO R c) zC all (by omega) (fun c _ => by simp [tq, FM])]
 simp only [aA, fV]
 have : vp R (all.filter fun c => ob mO R c) := by
  refine ⟨h.1.filter _, fun x => ?_⟩
  rw [bU, rl ou]
  constructor
  ·rintro ⟨h1, a⟩; exact ⟨a, ((h.2 x).1 h1).2⟩
  ·rintro ⟨h1, a⟩; exact ⟨b x h1, h1⟩
 rw [sk.unique zf this d]
def AR (c : lD) : Nat := c.Head.lK.size + c.Head.lN.size + c.mX.size + c.B.lK.size + c.B.lN.size + c.C.lK.size + c.C.lN.size + c.mQ.size
theorem xK.congr {all : List lD} {w c : List lC} (h : ∀ r, r ∈ w ↔ r ∈ c) (x : lC ⊕ ByteArray ⊕ lD) : xK all w x ↔ xK all c x := ⟨fun b => b.mono (fun r a => (h r).1 a), fun b => b.mono (fun r a => (h r).2 a)⟩
section
variable {κ γ : Type} {beq : κ → κ → Bool}
theorem tK (a : ∀ {x y}, beq x y = true ↔ x = y) {A B : List (κ × γ)} {k : κ} {x : γ} (b : ∀ p ∈ A, p.1 ≠ k) : nE beq (A ++ (k, x) :: B) k = some x := by
 unfold nE
 rw [kX]
 have : A.find? (fun p => beq k p.1) = none := gI.2 (fun p hp h => b p hp (a.1 h).symm)
 rw [this]
 simp [a.2 (rfl : k = k)]
theorem yT (a : ∀ {x y}, beq x y = true ↔ x = y) {l : List (κ × γ)} {k : κ} (h : ∀ p ∈ l, p.1 ≠ k) : nE beq l k = none := by
 unfold nE
 rw [gI.2 (fun p hp b => h p hp (a.1 b).symm)]
 rfl
theorem Aa (a : ∀ {x y}, beq x y = true ↔ x = y) {A B : List (κ × γ)} {k : κ} {x y : γ} (b : ∀ p ∈ A, p.1 ≠ k) : pu beq (A ++ (k, x) :: B) k y = A ++ (k, y) :: B := by
 have h1 : (A ++ (k, x) :: B).findIdx? (fun p => beq k p.1) = some A.length := by
  rw [jJ, iV.2 (fun p hp => by
   cases h : beq k p.1 with
   | false => rfl
   | true => exact absurd (a.1 h).symm (b p hp))]
  simp [gH, a.2 (rfl : k = k)]
 rw [tU h1]
 simp
theorem FD (a : ∀ {x y}, beq x y = true ↔ x = y) {l : List (κ × γ)} {k : κ} {y : γ} (h : ∀ p ∈ l, p.1 ≠ k) : pu beq l k y = l ++ [(k, y)] := by
 refine yh (iV.2 (fun p hp => ?_)) y
 cases b : beq k p.1 with
 | false => rfl
 | true => exact absurd (a.1 b).symm (h p hp)
theorem xq (k : κ) : ∀ (l : List (κ × γ)), (∀ p ∈ l, p.1 ≠ k) ∨ ∃ A x B, l = A ++ (k, x) :: B ∧ ∀ p ∈ A, p.1 ≠ k
 | [] => .inl (fun _ h => by cases h)
 | p :: l => by
  by_cases hp : p.1 = k
  ·exact .inr ⟨[], p.2, l, by rw [← hp]; rfl, fun _ h => by cases h⟩
  ·rcases xq k l with h | ⟨A, x, B, rfl, h⟩
   ·exact .inl (fun q a => by rcases aS.1 a with rfl | a; exact hp; exact h q a)
   ·exact .inr ⟨p :: A, x, B, rfl, fun q a => by rcases aS.1 a with rfl | a; exact hp; exact h q a⟩
theorem I3 (a : ∀ {x y}, beq x y = true ↔ x = y) (A B : List (κ × γ)) (k : κ) : nE beq (A ++ B) k = (nE beq A k).or (nE beq B k) := by
 unfold nE
 rw [kX]
 cases A.find? (fun p => beq k p.1) <;> rfl
theorem Ej (p : κ × γ) (l : List (κ × γ)) (k : κ) : nE beq (p :: l) k = if beq k p.1 = true then some p.2 else nE beq l k := by
 unfold nE
 rw [fG]
 cases beq k p.1 <;> simp
theorem Hk (a : ∀ {x y}, beq x y = true ↔ x = y) (l : List (κ × γ)) (k k2 : κ) (y : γ) : nE beq (pu beq l k y) k2 = if beq k2 k = true then some y else nE beq l k2 := by
 rcases xq k l with h | ⟨A, x, B, rfl, h⟩
 ·rw [FD a h, I3 a, Ej]
  by_cases hk : beq k2 k = true
  ·have := a.1 hk
   subst this
   rw [aZ hk, aZ hk, yT a h]; rfl
  ·rw [aY hk, aY hk]
   show (nE beq l k2).or none = _
   cases nE beq l k2 <;> rfl
 ·rw [Aa a h, I3 a, Ej, I3 a, Ej]
  by_cases hk : beq k2 k = true
  ·have := a.1 hk
   subst this
   rw [aZ hk, aZ hk, yT a h]; rfl
  ·rw [aY hk, aY hk, aY hk]
end
abbrev ru := List (lC × List ByteArray)
def mm (T : ru) : List (lC × List (ByteArray × Bool)) := T.map fun p => (p.1, tt p.2)
def uJ (T : ru) (r : lC) : List ByteArray := (nE me T r).getD []
def FS (T : ru) : List mc := T.flatMap fun p => p.2.map fun w => (⟨p.1, w⟩ : mc)
def Ho (T : ru) (r : lC) (w : ByteArray) : ru := pu me T r (uJ T r ++ [w])
theorem GR (A B : ru) : mm (A ++ B) = mm A ++ mm B := by simp [mm]
theorem BZ {A : ru} {r : lC} (h : ∀ p ∈ A, p.1 ≠ r) : ∀ p ∈ mm A, p.1 ≠ r := by
 intro p hp
 simp only [mm, bJ] at hp
 obtain ⟨q, a, rfl⟩ := hp
 exact h q a
theorem TT (T : ru) (r : lC) : nE me (mm T) r = (nE me T r).map tt := by
 rcases xq r T with h | ⟨A, x, B, rfl, h⟩
 ·rw [yT mn h, yT mn (BZ h)]; rfl
 ·rw [tK mn h, GR]
  exact tK mn (BZ h)
theorem Pc (T : ru) (r : lC) : (nE me (mm T) r).getD [] = tt (uJ T r) := by
 rw [TT, uJ]; cases nE me T r <;> rfl
theorem J8 (T : ru) (r : lC) (w : ByteArray) : (FS (Ho T r w)).Perm (FS T ++ [(⟨r, w⟩ : mc)]) := by
 unfold Ho uJ
 rcases xq r T with h | ⟨A, x, B, rfl, h⟩
 ·rw [FD mn h, yT mn h]
  simp [FS]
 ·rw [Aa mn h, tK mn h]
  simp only [FS, jU, ju, jB, cM, bM, iu, aR]
  refine cF _ (cF _ ?_)
  exact gJ
theorem Sv {T : ru} (hk : (T.map (·.1)).Nodup) (r : lC) (w : ByteArray) : ((Ho T r w).map (·.1)).Nodup := by
 unfold Ho
 rcases xq r T with h | ⟨A, x, B, rfl, h⟩
 ·rw [FD mn h]
  simp only [cM, bM, iu]
  refine cA.2 ⟨hk, by simp, fun a ha b c e => ?_⟩
  simp at c; subst c; subst e
  obtain ⟨p, hp, e⟩ := bJ.1 ha
  exact h p hp e
 ·rw [Aa mn h]
  simpa using hk
theorem D8 {T : ru} (hk : (T.map (·.1)).Nodup) (f : mc) : f ∈ FS T ↔ f.mX ∈ uJ T f.lC := by
 simp only [FS, lh, bJ]
 constructor
 ·rintro ⟨p, hp, w, hw, rfl⟩
  obtain ⟨A, B, rfl⟩ := List.append_of_mem hp
  have a : ∀ q ∈ A, q.1 ≠ p.1 := fun q c e => by
   rw [cM, bM] at hk
   exact (cA.1 hk).2.2 q.1 (bJ.2 ⟨q, c, rfl⟩) p.1 (by simp) e
  rw [uJ, show p = (p.1, p.2) from rfl, tK mn a]
  exact hw
 ·intro h
  unfold uJ at h
  rcases xq f.lC T with b | ⟨A, x, B, rfl, a⟩
  ·rw [yT mn b] at h; cases h
  ·rw [tK mn a] at h
   exact ⟨(f.lC, x), by simp, f.mX, h, rfl⟩
theorem N6 {T : ru} (h : (FS T).Nodup) (r : lC) : (uJ T r).Nodup := by
 unfold uJ
 rcases xq r T with b | ⟨A, x, B, rfl, a⟩
 ·rw [yT mn b]; simp
 ·rw [tK mn a]
  simp only [FS, jU, ju] at h
  have h1 := (cA.1 (cA.1 h).2.1).1
  simp only [List.Nodup, iG] at h1
  exact h1.imp (fun h e => h (by rw [e]))
inductive rf (C : List lD) : mc → Prop
 | mem (c) : c ∈ C → c.Kind = 1 → rf C ⟨c.Head, c.mX⟩
 | inc (c w) : c ∈ C → c.Kind = 2 → rf C ⟨c.B, w⟩ → rf C ⟨c.Head, w⟩
 | Il (c b w) : c ∈ C → c.Kind = 3 → rf C ⟨c.B, b⟩ → rf C ⟨⟨b, c.mQ⟩, w⟩ → rf C ⟨c.Head, w⟩
 | both (c w) : c ∈ C → c.Kind = 4 → rf C ⟨c.B, w⟩ → rf C ⟨c.C, w⟩ → rf C ⟨c.Head, w⟩
theorem rf.mono {C C' : List lD} (h : ∀ c ∈ C, c ∈ C') {f : mc} (i : rf C f) : rf C' f := by
 induction i with
 | mem c a hk => exact .mem c (h c a) hk
 | inc c w a hk _ ih => exact .inc c w (h c a) hk ih
 | Il c b w a hk _ _ d g => exact .Il c b w (h c a) hk d g
 | both c w a hk _ _ d g => exact .both c w (h c a) hk d g
def Iy (C : List lD) : List mc := (C.map (·.Head)).flatMap fun r => (C.map (·.mX)).map fun w => (⟨r, w⟩ : mc)
theorem Gc (C : List lD) : (Iy C).length = C.length * C.length := by
 unfold Iy
 have : ∀ l : List lC, (l.flatMap fun r => (C.map (·.mX)).map fun w => (⟨r, w⟩ : mc)).length = l.length * C.length := fun l => by
  induction l with
  | nil => simp
  | cons x l ih => simp only [ju, aD, ih, dE, aO, cU]; omega
 rw [this, dE]
theorem Uz {C : List lD} {r : lC} {w : ByteArray} : (⟨r, w⟩ : mc) ∈ Iy C ↔ (∃ c ∈ C, c.Head = r) ∧ ∃ c ∈ C, c.mX = w := by
 unfold Iy
 simp only [lh, bJ, mc.mk.injEq]
 constructor
 ·rintro ⟨g, ⟨c, d, rfl⟩, h, ⟨b, a, rfl⟩, rfl, rfl⟩; exact ⟨⟨c, d, rfl⟩, b, a, rfl⟩
 ·rintro ⟨⟨c, d, rfl⟩, b, a, rfl⟩; exact ⟨_, ⟨c, d, rfl⟩, _, ⟨b, a, rfl⟩, rfl, rfl⟩
theorem rf.Om {C : List lD} {f : mc} (h : rf C f) : ∃ c ∈ C, c.Kind = 1 ∧ c.mX = f.mX := by
 induction h with
 | mem c g hk => exact ⟨c, g, hk, rfl⟩
 | inc c w g hk _ ih => exact ih
 | Il c b w g hk _ _ a d => exact d
 | both c w g hk _ _ a d => exact a
theorem rf.head {C : List lD} {f : mc} (h : rf C f) : ∃ c ∈ C, c.Head = f.lC := by
 cases h with
 | mem c a hk => exact ⟨c, a, rfl⟩
 | inc c w a hk _ => exact ⟨c, a, rfl⟩
 | Il c b w a hk _ _ => exact ⟨c, a, rfl⟩
 | both c w a hk _ _ => exact ⟨c, a, rfl⟩
theorem rf.Iy {C : List lD} {f : mc} (h : rf C f) : f ∈ Iy C := by
 obtain ⟨c, a, _, hw⟩ := h.Om
 exact Uz.2 ⟨h.head, c, a, hw⟩
structure tb (C : List lD) (T : ru) (td : List mc) (n : Int) : Prop where
 keys : (T.map (·.1)).Nodup
 nd : (FS T).Nodup
 Oo : td.Nodup
 sub : ∀ f ∈ td, f ∈ FS T
 num : n = (FS T).length
 zx : ∀ f ∈ FS T, rf C f
theorem tb.len {C : List lD} {T : ru} {b : List mc} {n : Int} (h : tb C T b n) : (FS T).length ≤ C.length * C.length := by
 rw [← Gc]; exact om h.nd (fun f a => (h.zx f a).Iy)
theorem tb.VZ {C : List lD} {T : ru} {a : List mc} {n : Int} (h : tb C T a n) : a.length ≤ (FS T).length := om h.Oo h.sub
theorem tb.mono {C C' : List lD} {T : ru} {a : List mc} {n : Int} (h : tb C T a n) (b : ∀ c ∈ C, c ∈ C') : tb C' T a n := ⟨h.keys, h.nd, h.Oo, h.sub, h.num, fun f d => (h.zx f d).mono b⟩
structure CF (T : ru) (td : List mc) (T' : ru) (td' : List mc) : Prop where
 oG : ∀ f ∈ FS T, f ∈ FS T'
 todo : ∀ f ∈ td, f ∈ td'
 new : ∀ f ∈ FS T', f ∈ FS T ∨ f ∈ td'
 fresh : ∀ f ∈ td', f ∈ td ∨ f ∉ FS T
theorem CF.refl (T : ru) (a : List mc) : CF T a T a := ⟨fun _ h => h, fun _ h => h, fun _ h => .inl h, fun _ h => .inl h⟩
theorem CF.trans {T T' T'' : ru} {g d a : List mc} (h : CF T g T' d) (k : CF T' d T'' a) : CF T g T'' a :=
 ⟨fun f b => k.oG f (h.oG f b), fun f b => k.todo f (h.todo f b), fun f b => by
  rcases k.new f b with h1 | h1
  ·rcases h.new f h1 with c | c
   ·exact .inl c
   ·exact .inr (k.todo f c)
  ·exact .inr h1, fun f b => by
  rcases k.fresh f b with h1 | h1
  ·exact h.fresh f h1
  ·exact .inr (fun c => h1 (h.oG f c))⟩
theorem Ku {α : Type} (p : α → Bool) : ∀ l : List α, (l.filter p).length + (l.filter fun x => !p x).length = l.length
 | [] => rfl
 | x :: l => by
  have := Ku p l
  cases h : p x <;> simp [h] <;> omega
theorem tb.Iw {C C' : List lD} {T T' : ru} {d c : List mc} {n m : Int} (i : tb C' T' c m) (g : tb C T d n) (x : CF T d T' c) : c.length + (FS T).length ≤ d.length + (FS T').length := by
 classical
 have h1 : (c.filter fun f => decide (f ∈ FS T)).length ≤ d.length := om (i.Oo.filter _) (fun f j => by
  have := bU.1 j
  rcases x.fresh f this.1 with h | h
  ·exact h
  ·exact absurd (by simpa using this.2) h)
 have k : (FS T ++ c.filter fun f => !decide (f ∈ FS T)).length ≤ (FS T').length := om (cA.2 ⟨g.nd, i.Oo.filter _, fun a ha b l e => by
  subst e
  have := (bU.1 l).2
  simp [ha] at this⟩) (fun f j => by
  rcases aQ.1 j with h | h
  ·exact x.oG f h
  ·exact i.sub f (bU.1 h).1)
 have o : (c.filter fun f => decide (f ∈ FS T)).length + (c.filter fun f => !decide (f ∈ FS T)).length = c.length := by
  exact Ku (fun f => decide (f ∈ FS T)) c
 rw [aD] at k
 omega
def ES (C : List lD) (T : ru) (d : List mc) (b : Option (List (lC × List (ByteArray × Bool)) × List mc × Int)) (Q : ru → Prop) : Prop :=
 ∃ T' a c, b = some (mm T', a, c) ∧ tb C T' a c ∧ CF T d T' a ∧ Q T'
theorem ES.mono {C : List lD} {T : ru} {d : List mc} {a : Option (List (lC × List (ByteArray × Bool)) × List mc × Int)} {Q Q' : ru → Prop} (h : ES C T d a Q) (j : ∀ T', (∀ f ∈ FS T, f ∈ FS T') → Q T' → Q' T') : ES C T d a Q' := by
 obtain ⟨T', b, k, h1, g, c, i⟩ := h
 exact ⟨T', b, k, h1, g, c, j T' c.oG i⟩
def tM (C : List lD) : Prop := C.length ≤ 1000000
theorem tM.sq {C : List lD} (h : tM C) : C.length * C.length ≤ 1000000000000 := Nat.mul_le_mul h h
theorem vY {T : ru} (hk : (T.map (·.1)).Nodup) (r : lC) (w : ByteArray) : zn np ((nE me (mm T) r).getD []) w false = true ↔ (⟨r, w⟩ : mc) ∈ FS T := by
 rw [Pc, FM, rl nU, D8 hk]
theorem Fg {C : List lD} (y : tM C) {T : ru} {j : List mc} {n : Int} (h : tb C T j n) (cs : List lD) (J : List (lC × List lD)) (ws : List (ByteArray × List lD)) {r : lC} {w : ByteArray} (z : rf C ⟨r, w⟩) :
  ES C T j (pW (mm T) cs J ws j n r w) (fun T' => (⟨r, w⟩ : mc) ∈ FS T') := by
 unfold pW
 have F := y.sq
 have L := h.len
 have G := h.VZ
 by_cases d : (⟨r, w⟩ : mc) ∈ FS T
 ·rw [aZ ((vY h.keys r w).2 d)]
  exact ⟨T, j, n, rfl, h, CF.refl _ _, d⟩
 ·rw [aY (fun t => d ((vY h.keys r w).1 t))]
  have D : tb C (Ho T r w) (j ++ [⟨r, w⟩]) (n + 1) := by
   have hp := J8 T r w
   refine ⟨Sv h.keys r w, (hp.nodup_iff).2 (cA.2 ⟨h.nd, by simp, fun a ha b m e => ?_⟩), cA.2 ⟨h.Oo, by simp, fun a ha b m e => ?_⟩, fun f c => hp.mem_iff.2 ?_, ?_, fun f c => ?_⟩
   ·simp at m; subst m; subst e; exact d ha
   ·simp at m; subst m; subst e; exact d (h.sub _ ha)
   ·rcases aQ.1 c with c | c
    ·exact cK _ (h.sub f c)
    ·exact dZ _ c
   ·rw [hp.length_eq, h.num]; simp
   ·rcases aQ.1 (hp.mem_iff.1 c) with c | c
    ·exact h.zx f c
    ·simp at c; subst c; exact z
  have u : ((if (nE me (mm T) r).isNone = true then ((Jm me (mm T) r []).bind fun l => some l) else some (mm T)) : Option _).bind (fun l => (IV me np l r w true)) = some (mm (Ho T r w)) := by
   unfold Ho uJ
   rcases xq r T with i | ⟨A, x, B, rfl, s⟩
   ·have q := yT mn (BZ i)
    rw [q, yT mn i, FD mn i, GR]
    simp only [Option.isNone_none, aU, Jm, q, aA]
    rw [FD mn (BZ i)]
    unfold IV
    rw [tK mn (BZ i)]
    simp only [eO]
    rw [Aa mn (BZ i)]
    rfl
   ·have k := BZ s
    have v : nE me (mm (A ++ (r, x) :: B)) r = some (tt x) := by rw [GR]; exact tK mn k
    rw [v, tK mn s, Aa mn s]
    simp only [Option.isNone_some, aB, aN, aA, IV, v, eO, jB]
    have I : w ∉ x := fun hw => d (by
     rw [D8 h.keys, uJ, tK mn s]; exact hw)
    rw [Fo nU]
    rw [show ins np x w = x ++ [w] from by unfold ins; rw [aY (fun t => I ((rl nU x w).1 t))]]
    rw [GR, show mm ((r, x) :: B) = (r, tt x) :: mm B from rfl, Aa mn k, GR]
    rfl
  refine ⟨Ho T r w, j ++ [⟨r, w⟩], n + 1, ?_, D, ⟨fun f c => (J8 T r w).mem_iff.2 (cK _ c), fun f c => cK _ c, fun f c => ?_, fun f c => ?_⟩, (J8 T r w).mem_iff.2 (by simp)⟩
  ·have g := u
   generalize ((if (nE me (mm T) r).isNone = true then ((Jm me (mm T) r []).bind fun l => some l) else some (mm T)) : Option _) = o at g
   cases o with
   | none => cases g
   | some l =>
    simp only [aA] at g ⊢
    rw [g]
    simp only [aA]
    rw [nX (by simp; omega) (by simp; omega)]
    simp only [aA]
    rw [ni (by rw [h.num]; omega) (by rw [h.num]; omega)]
  ·rcases aQ.1 ((J8 T r w).mem_iff.1 c) with h1 | h1
   ·exact .inl h1
   ·exact .inr (dZ _ h1)
  ·rcases aQ.1 c with h1 | h1
   ·exact .inl h1
   ·simp at h1; subst h1; exact .inr d
theorem Cm (l : List ByteArray) (x : ByteArray) : x ∈ yb l ↔ x ∈ l := by unfold yb; simp
def vo (C : List lD) : Prop := ∀ c ∈ C, nD c = true
theorem Q6 {c : lD} (h : nD c = true) (hk : c.Kind = 1) : c.mX.size ≤ 16 := by
 rcases qk h with h | h | h | h
 ·exact (qC h.2.1).2
 ·exact absurd (hk.symm.trans h.1) (by decide)
 ·exact absurd (hk.symm.trans h.1) (by decide)
 ·exact absurd (hk.symm.trans h.1) (by decide)
theorem RZ {T : ru} (r : lC) (hk : (T.map (·.1)).Nodup) : (uJ T r).length ≤ (FS T).length := by
 unfold uJ
 rcases xq r T with b | ⟨A, x, B, rfl, a⟩
 ·rw [yT mn b]; simp
 ·rw [tK mn a]
  simp only [FS, jU, ju, aD, dE, jB]
  omega
theorem Kd {C : List lD} (a : tM C) (b : vo C) {T : ru} {i : List mc} {n : Int} (h : tb C T i n) (cs : List lD) (j : List (lC × List lD)) (ws : List (ByteArray × List lD)) (q : List mc) (z : Int) (r : lC) :
  tm (mm T) cs j ws q z r = some (yb (uJ T r)) := by
 unfold tm qW
 rw [Pc]
 simp only [aA, pz]
 have m := RZ r h.keys
 have k := h.len
 have l := a.sq
 unfold Jz
 rw [Ug, aZ]
 refine ⟨N6 h.nd r, fun p hp => ?_, by rw [Hh]; omega⟩
 simp only [tt, bJ] at hp
 obtain ⟨w, hw, rfl⟩ := hp
 have g := h.zx ⟨r, w⟩ ((D8 h.keys ⟨r, w⟩).2 hw)
 obtain ⟨c, d, hk, e⟩ := g.Om
 have := Q6 (b c d) hk
 simp only at e ⊢
 rw [← e]
 unfold maxLen
 omega
theorem Qu {C : List lD} (g : tM C) (cs : List lD) (d : List (lC × List lD)) (ws : List (ByteArray × List lD)) (head : lC) : ∀ (l : List ByteArray) {T : ru} {a : List mc} {n : Int}, tb C T a n → (∀ w ∈ l, rf C ⟨head, w⟩) →
  ES C T a (sv cs d ws head l (mm T) a n) (fun T' => ∀ w ∈ l, (⟨head, w⟩ : mc) ∈ FS T')
 | [], T, a, n, h, _ => ⟨T, a, n, rfl, h, CF.refl _ _, fun _ hw => by cases hw⟩
 | w :: l, T, a, n, h, i => by
  rw [sv]
  obtain ⟨T1, r, s, j, g1, x1, o⟩ := Fg g h cs d ws (i w (by simp))
  rw [j]
  simp only [aA]
  obtain ⟨T2, c, m, k, g2, x2, q⟩ := Qu g cs d ws head l g1 (fun w hw => i w (by simp [hw]))
  refine ⟨T2, c, m, k, g2, x1.trans x2, fun v b => ?_⟩
  rcases aS.1 b with rfl | b
  ·exact x2.oG _ o
  ·exact q v b
theorem UZ {C : List lD} (b : tM C) (d : vo C) {T : ru} {a : List mc} {n : Int} (h : tb C T a n) (cs : List lD) (c : List (lC × List lD)) (ws : List (ByteArray × List lD)) (r head : lC) (g : ∀ w, (⟨r, w⟩ : mc) ∈ FS T → rf C ⟨head, w⟩) :
  ES C T a (wV (mm T) cs c ws a n r head) (fun T' => ∀ w, (⟨r, w⟩ : mc) ∈ FS T → (⟨head, w⟩ : mc) ∈ FS T') := by
 unfold wV
 rw [Kd b d h]
 simp only [aA]
 refine (Qu b cs c ws head _ h (fun w hw => g w ((D8 h.keys ⟨r, w⟩).2 ((Cm _ _).1 hw)))).mono (fun T' _ i w hw => i w ((Cm _ _).2 ((D8 h.keys ⟨r, w⟩).1 hw)))
def HN (c : lD) (f : mc) (T T' : ru) : Prop :=
 (c.Kind = 2 → f.lC = c.B → (⟨c.Head, f.mX⟩ : mc) ∈ FS T') ∧
 (c.Kind = 3 → f.lC = c.B → ∀ w, (⟨⟨f.mX, c.mQ⟩, w⟩ : mc) ∈ FS T → (⟨c.Head, w⟩ : mc) ∈ FS T') ∧
 (c.Kind = 4 → (⟨c.B, f.mX⟩ : mc) ∈ FS T → (⟨c.C, f.mX⟩ : mc) ∈ FS T → (⟨c.Head, f.mX⟩ : mc) ∈ FS T')
theorem HN.mono {c : lD} {f : mc} {T T' T0 T1 : ru} (h : HN c f T T') (g : ∀ f ∈ FS T0, f ∈ FS T) (h1 : ∀ f ∈ FS T', f ∈ FS T1) : HN c f T0 T1 :=
 ⟨fun a b => h1 _ (h.1 a b), fun a b w hw => h1 _ (h.2.1 a b w (g _ hw)), fun a b d => h1 _ (h.2.2 a (g _ b) (g _ d))⟩
theorem TD (x : Option (List (lC × List (ByteArray × Bool)) × List mc × Int)) : (x.bind fun r => some (r.1, r.2.1, r.2.2)) = x := by cases x <;> rfl
theorem Qv {C : List lD} (o : tM C) (u : vo C) {T : ru} {i : List mc} {n : Int} (h : tb C T i n) (cs : List lD) (l : List (lC × List lD)) (ws : List (ByteArray × List lD)) {c : lD} (q : c ∈ C) {f : mc} (s : f ∈ FS T) (t : f.lC ∈ oV c) :
  ES C T i (uz (mm T) cs l ws i n c f) (HN c f T) := by
 unfold uz
 simp only [TD, Gn]
 by_cases a : c.Kind = 2
 ·have m : f.lC = c.B := by simpa [oV, a] using t
  rw [aZ (by simp [a])]
  have r : rf C ⟨c.Head, f.mX⟩ := .inc c f.mX q a (by rw [← m]; exact h.zx f s)
  refine (Fg o h cs l ws r).mono (fun T' _ g => ⟨fun _ _ => g, fun k => absurd (a.symm.trans k) (by decide), fun k => absurd (a.symm.trans k) (by decide)⟩)
 rw [aY (by simp [a])]
 by_cases b : c.Kind = 3
 ·have m : f.lC = c.B := by simpa [oV, b] using t
  rw [aZ (by simp [b])]
  refine (UZ o u h cs l ws ⟨f.mX, c.mQ⟩ c.Head (fun w hw => .Il c f.mX w q b (by rw [← m]; exact h.zx f s) (h.zx _ hw))).mono (fun T' _ g => ⟨fun k => absurd k a, fun _ _ w hw => g w hw, fun k => absurd (b.symm.trans k) (by decide)⟩)
 rw [aY (by simp [b])]
 by_cases j : c.Kind = 4
 ·rw [aZ (by simp [j])]
  simp only [aA]
  by_cases d : (⟨c.B, f.mX⟩ : mc) ∈ FS T ∧ (⟨c.C, f.mX⟩ : mc) ∈ FS T
  ·rw [aZ (by rw [bE, vY h.keys, vY h.keys]; exact d)]
   have r : rf C ⟨c.Head, f.mX⟩ := .both c f.mX q j (h.zx _ d.1) (h.zx _ d.2)
   exact (Fg o h cs l ws r).mono (fun T' _ g => ⟨fun k => absurd k a, fun k => absurd k b, fun _ _ _ => g⟩)
  ·rw [aY (by rw [bE, vY h.keys, vY h.keys]; exact d)]
   exact ⟨T, i, n, rfl, h, CF.refl _ _, fun k => absurd k a, fun k => absurd k b, fun _ x y => absurd ⟨x, y⟩ d⟩
 ·rw [aY (by simp [j])]
  exact ⟨T, i, n, rfl, h, CF.refl _ _, fun k => absurd k a, fun k => absurd k b, fun k => absurd k j⟩
theorem MZ {C : List lD} (i : tM C) (j : vo C) (cs : List lD) (g : List (lC × List lD)) (ws : List (ByteArray × List lD)) {c : lD} (k : c ∈ C) (m : c.B ∈ oV c) : ∀ (l : List ByteArray) {T : ru} {a : List mc} {n : Int}, tb C T a n → (∀ w ∈ l, (⟨c.B, w⟩ : mc) ∈ FS T) →
  ES C T a (rI cs g ws c l (mm T) a n) (fun T' => ∀ w ∈ l, HN c ⟨c.B, w⟩ T T')
 | [], T, a, n, h, _ => ⟨T, a, n, rfl, h, CF.refl _ _, fun _ hw => by cases hw⟩
 | w :: l, T, a, n, h, hm => by
  rw [rI]
  obtain ⟨T1, u, x, o, g1, x1, s⟩ := Qv i j h cs g ws k (f := ⟨c.B, w⟩) (hm w (by simp)) m
  rw [o]
  simp only [aA]
  obtain ⟨T2, d, r, q, g2, x2, t⟩ := MZ i j cs g ws k m l g1 (fun w hw => x1.oG _ (hm w (by simp [hw])))
  refine ⟨T2, d, r, q, g2, x1.trans x2, fun v b => ?_⟩
  rcases aS.1 b with rfl | b
  ·exact s.mono (fun _ h => h) x2.oG
  ·exact (t v b).mono x1.oG (fun _ h => h)
def Ij (c : lD) (T : ru) (a : List mc) : Prop :=
 (c.Kind = 1 → (⟨c.Head, c.mX⟩ : mc) ∈ FS T) ∧
 (c.Kind = 2 → ∀ w, (⟨c.B, w⟩ : mc) ∈ FS T → (⟨c.B, w⟩ : mc) ∉ a → (⟨c.Head, w⟩ : mc) ∈ FS T) ∧
 (c.Kind = 3 → ∀ b w, (⟨c.B, b⟩ : mc) ∈ FS T → (⟨c.B, b⟩ : mc) ∉ a → (⟨⟨b, c.mQ⟩, w⟩ : mc) ∈ FS T → (⟨⟨b, c.mQ⟩, w⟩ : mc) ∉ a → (⟨c.Head, w⟩ : mc) ∈ FS T) ∧
 (c.Kind = 4 → ∀ w, (⟨c.B, w⟩ : mc) ∈ FS T → (⟨c.B, w⟩ : mc) ∉ a → (⟨c.C, w⟩ : mc) ∈ FS T → (⟨c.C, w⟩ : mc) ∉ a → (⟨c.Head, w⟩ : mc) ∈ FS T)
theorem Ij.ext {c : lD} {T T' : ru} {i d : List mc} (h : Ij c T i) (x : CF T i T' d) : Ij c T' d := by
 have oG : ∀ f, f ∈ FS T' → f ∉ d → f ∈ FS T ∧ f ∉ i := fun f m j => by
  rcases x.new f m with h1 | h1
  ·exact ⟨h1, fun l => j (x.todo f l)⟩
  ·exact absurd h1 j
 refine ⟨fun k => x.oG _ (h.1 k), fun k w a b => ?_, fun k b w g a2 a3 a4 => ?_, fun k w g a2 a3 a4 => ?_⟩
 ·exact x.oG _ (h.2.1 k w (oG _ a b).1 (oG _ a b).2)
 ·exact x.oG _ (h.2.2.1 k b w (oG _ g a2).1 (oG _ g a2).2 (oG _ a3 a4).1 (oG _ a3 a4).2)
 ·exact x.oG _ (h.2.2.2 k w (oG _ g a2).1 (oG _ g a2).2 (oG _ a3 a4).1 (oG _ a3 a4).2)
theorem Tf {C : List lD} (l : tM C) (s : vo C) {T : ru} {o : List mc} {n : Int} (h : tb C T o n) (cs : List lD) (r : List (lC × List lD)) (ws : List (ByteArray × List lD)) {c : lD} (t : c ∈ C) :
  ∃ T' d i, vz (mm T) cs r ws o n c = some (mm T', d, i) ∧ tb C T' d i ∧ CF T o T' d ∧ Ij c T' d := by
 unfold vz
 simp only [TD]
 by_cases h1 : c.Kind = 1
 ·rw [aZ (by simp [h1])]
  obtain ⟨T', d, i, e, g, x, q⟩ := Fg l h cs r ws (rf.mem c t h1)
  exact ⟨T', d, i, e, g, x, fun _ => q, fun k => absurd (h1.symm.trans k) (by decide), fun k => absurd (h1.symm.trans k) (by decide), fun k => absurd (h1.symm.trans k) (by decide)⟩
 ·rw [aY (by simp [h1]), Kd l s h]
  simp only [aA]
  have y : c.B ∈ oV c := by unfold oV; rw [aY h1]; split <;> simp
  obtain ⟨T', d, i, e, g, x, q⟩ := MZ l s cs r ws t y (yb (uJ T c.B)) h (fun w hw => (D8 h.keys ⟨c.B, w⟩).2 ((Cm _ _).1 hw))
  have oG : ∀ f, f ∈ FS T' → f ∉ d → f ∈ FS T := fun f u v => by
   rcases x.new f u with h1 | h1
   ·exact h1
   ·exact absurd h1 v
  have m : ∀ w, (⟨c.B, w⟩ : mc) ∈ FS T → HN c ⟨c.B, w⟩ T T' := fun w hw => q w ((Cm _ _).2 ((D8 h.keys ⟨c.B, w⟩).1 hw))
  refine ⟨T', d, i, e, g, x, fun k => absurd k h1, fun k w a b => ?_, fun k b w j a2 a3 a4 => ?_, fun k w j a2 a3 a4 => ?_⟩
  ·exact (m w (oG _ a b)).1 k rfl
  ·exact (m b (oG _ j a2)).2.1 k rfl w (oG _ a3 a4)
  ·exact (m w (oG _ j a2)).2.2 k (oG _ j a2) (oG _ a3 a4)
structure Hf (C : List lD) (us : List (lC × List lD)) (ws : List (ByteArray × List lD)) : Prop where
 R5 : ∀ r c, c ∈ (nE me us r).getD [] ↔ c ∈ C ∧ r ∈ oV c
 word : ∀ w c, c ∈ (nE np ws w).getD [] ↔ c ∈ C ∧ c.Kind = 3 ∧ c.mQ = w
 VG : ∀ r, ((nE me us r).getD []).length ≤ 2 * C.length
 VN : ∀ w, ((nE np ws w).getD []).length ≤ C.length
theorem Ll {C : List lD} (i : tM C) (j : vo C) (cs : List lD) (g : List (lC × List lD)) (ws : List (ByteArray × List lD)) {f : mc} : ∀ (l : List lD) {T : ru} {a : List mc} {n : Int}, tb C T a n → f ∈ FS T → (∀ c ∈ l, c ∈ C ∧ f.lC ∈ oV c) →
  ES C T a (rp cs g ws f l (mm T) a n) (fun T' => ∀ c ∈ l, HN c f T T')
 | [], T, a, n, h, _, _ => ⟨T, a, n, rfl, h, CF.refl _ _, fun _ hw => by cases hw⟩
 | c :: l, T, a, n, h, k, hm => by
  rw [rp]
  obtain ⟨T1, u, w, m, g1, x1, s⟩ := Qv i j h cs g ws (hm c (by simp)).1 k (hm c (by simp)).2
  rw [m]
  simp only [aA]
  obtain ⟨T2, d, r, o, g2, x2, t⟩ := Ll i j cs g ws l g1 (x1.oG _ k) (fun c q => hm c (by simp [q]))
  refine ⟨T2, d, r, o, g2, x1.trans x2, fun v b => ?_⟩
  rcases aS.1 b with rfl | b
  ·exact s.mono (fun _ h => h) x2.oG
  ·exact (t v b).mono x1.oG (fun _ h => h)
theorem GW {C : List lD} (m : tM C) (u : vo C) (cs : List lD) (j : List (lC × List lD)) (ws : List (ByteArray × List lD)) {f : mc} : ∀ (l : List lD) {T : ru} {g : List mc} {n : Int}, tb C T g n → f ∈ FS T → (∀ c ∈ l, c ∈ C ∧ c.Kind = 3 ∧ c.mQ = f.lC.lN) →
  ES C T g (qa f cs j ws l (mm T) g n) (fun T' => ∀ c ∈ l, (⟨c.B, f.lC.lK⟩ : mc) ∈ FS T → (⟨c.Head, f.mX⟩ : mc) ∈ FS T')
 | [], T, g, n, h, _, _ => ⟨T, g, n, rfl, h, CF.refl _ _, fun _ hw => by cases hw⟩
 | c :: l, T, g, n, h, q, hm => by
  rw [qa]
  have hk := hm c (by simp)
  by_cases i : (⟨c.B, f.lC.lK⟩ : mc) ∈ FS T
  ·rw [aZ ((vY h.keys _ _).2 i)]
   have r : f = ⟨⟨f.lC.lK, c.mQ⟩, f.mX⟩ := by rw [hk.2.2]
   have x : rf C ⟨c.Head, f.mX⟩ := .Il c f.lC.lK f.mX hk.1 hk.2.1 (h.zx _ i) (by rw [← r]; exact h.zx f q)
   obtain ⟨T1, A, D, w, g1, x1, z⟩ := Fg m h cs j ws x
   rw [w]
   simp only [aA]
   obtain ⟨T2, d, s, k, g2, x2, t⟩ := GW m u cs j ws l g1 (x1.oG _ q) (fun c o => hm c (by simp [o]))
   refine ⟨T2, d, s, k, g2, x1.trans x2, fun v b a => ?_⟩
   rcases aS.1 b with rfl | b
   ·exact x2.oG _ z
   ·exact t v b (x1.oG _ a)
  ·rw [aY (fun y => i ((vY h.keys _ _).1 y))]
   obtain ⟨T2, d, s, k, g2, x2, t⟩ := GW m u cs j ws l h q (fun c o => hm c (by simp [o]))
   refine ⟨T2, d, s, k, g2, x2, fun v b a => ?_⟩
   rcases aS.1 b with rfl | b
   ·exact absurd a i
   ·exact t v b a
theorem LP {C : List lD} (F : tM C) (G : vo C) {cs : List lD} {A : List (lC × List lD)} {ws : List (ByteArray × List lD)} (u : Hf C A ws) : ∀ (m : Nat) {T : ru} {l : List mc} {n : Int}, tb C T l n → (∀ c ∈ C, Ij c T l) → C.length * C.length + l.length < m + (FS T).length →
  ∃ T' L, py cs A ws m (mm T) l n = some (mm T', [], L) ∧ tb C T' [] L ∧ (∀ c ∈ C, Ij c T' []) ∧ (∀ f ∈ FS T, f ∈ FS T')
 | 0, T, l, n, h, _, hm => by have := h.len; omega
 | m + 1, T, [], n, h, q, hm => by
  rw [py]
  exact ⟨T, n, rfl, h, q, fun _ h => h⟩
 | m + 1, T, f :: l, n, h, q, hm => by
  rw [py]
  rw [aZ (by simp)]
  have J : f ∈ FS T := h.sub f (by simp)
  have R := (dT.1 h.Oo)
  simp only [nG, Int.le_refl, aU, Int.toNat_zero, jh, aA]
  rw [show rU (decide ((0 : Nat) ≤ 1) && decide ((1 : Int) ≤ ((f :: l).length : Int))) = some () by simp [rU]; omega]
  simp only [aA, show Int.toNat 1 = 1 from rfl, List.drop_one, List.tail_cons]
  have I : tb C T l n := ⟨h.keys, h.nd, R.2, fun g y => h.sub g (by simp [y]), h.num, h.zx⟩
  obtain ⟨T1, a6, n1, O, g1, x1, Z⟩ := Ll F G cs A ws ((nE me A f.lC).getD []) I J (fun c i => (u.R5 _ c).1 i)
  rw [O]
  simp only [aA]
  obtain ⟨T2, r, n2, P, g2, x2, q2⟩ := GW F G cs A ws ((nE np ws f.lC.lN).getD []) g1 (x1.oG _ J) (fun c i => (u.word _ c).1 i)
  rw [P]
  simp only [aA]
  have x := x1.trans x2
  have oG : ∀ g, g ∈ FS T2 → g ∉ r → g ∈ FS T ∧ (g = f ∨ g ∉ f :: l) := fun g y z => by
   rcases x.new g y with h1 | h1
   ·refine ⟨h1, ?_⟩
    by_cases he : g = f
    ·exact .inl he
    ·exact .inr (fun t => by
      rcases aS.1 t with t | t
      ·exact he t
      ·exact z (x.todo g t))
   ·exact absurd h1 z
  have d1 : ∀ c ∈ C, f.lC ∈ oV c → HN c f T T2 := fun c i U => (Z c ((u.R5 _ c).2 ⟨i, U⟩)).mono (fun _ h => h) x2.oG
  have v : ∀ c ∈ C, Ij c T2 r := fun c i => by
   have k := q c i
   refine ⟨fun hk => x.oG _ (k.1 hk), fun hk w a b => ?_, fun hk b w D a2 a3 a4 => ?_, fun hk w D a2 a3 a4 => ?_⟩
   ·obtain ⟨o, d⟩ := oG _ a b
    rcases d with d | d
    ·subst d; exact (d1 c i (by simp [oV, hk])).1 hk rfl
    ·exact x.oG _ (k.2.1 hk w o d)
   ·obtain ⟨o, d⟩ := oG _ D a2
    obtain ⟨s, j⟩ := oG _ a3 a4
    rcases d with d | d
    ·subst d; exact (d1 c i (by simp [oV, hk])).2.1 hk rfl w s
    ·rcases j with j | j
     ·subst j
      exact q2 c ((u.word _ c).2 ⟨i, hk, rfl⟩) (x1.oG _ o)
     ·exact x.oG _ (k.2.2.1 hk b w o d s j)
   ·obtain ⟨o, d⟩ := oG _ D a2
    obtain ⟨s, j⟩ := oG _ a3 a4
    rcases d with d | d
    ·subst d; exact (d1 c i (by simp [oV, hk])).2.2 hk o s
    ·rcases j with j | j
     ·subst j; exact (d1 c i (by simp [oV, hk])).2.2 hk o s
     ·exact x.oG _ (k.2.2.2 hk w o d s j)
  have hlen : r.length + (FS T).length ≤ l.length + (FS T2).length := by
   exact g2.Iw I x
  obtain ⟨T3, W, Q, g3, M, Y⟩ := LP F G u m g2 v (by simp only [aO] at hm; omega)
  exact ⟨T3, W, Q, g3, M, fun g y => Y g (x.oG g y)⟩
theorem O3 (c : lD) : ∀ (l : List lD) (i : Nat), ∃ z, su c l i = some z ∧ (z ≥ 0 ↔ c ∈ l)
 | [], i => ⟨-1, rfl, by simp⟩
 | x :: l, i => by
  rw [su]
  by_cases h : mO c x = true
  ·rw [aZ h]
   exact ⟨_, rfl, by simp [ou.1 h]⟩
  ·rw [aY h]
   obtain ⟨z, e, b⟩ := O3 c l (i + 1)
   refine ⟨z, e, ?_⟩
   rw [b, aS]
   exact ⟨.inr, fun a => a.resolve_left (fun e => h (ou.2 e))⟩
theorem Nq (c : lD) (l : List lD) : ∃ b, rZ l c = some b ∧ (b = true ↔ c ∈ l) := by
 obtain ⟨z, e, a⟩ := O3 c l 0
 refine ⟨decide (z ≥ 0), ?_, by simpa using a⟩
 unfold rZ vd zd
 rw [e]
 rfl
theorem Ow (c : lD) (ws : List (ByteArray × List lD)) (C : List lD) (hw : ∀ w, ((nE np ws w).getD []).length ≤ 2000000) : ∀ (j : List lC) (a : List (lC × List lD)), (∀ r, ((nE me a r).getD []).length + j.length ≤ 4000000) →
  ∃ g i, qL c ws C j a = some (C, g, i) ∧ (∀ r x, x ∈ (nE me g r).getD [] ↔ x ∈ (nE me a r).getD [] ∨ (x = c ∧ r ∈ j)) ∧
   (∀ w x, x ∈ (nE np i w).getD [] ↔ x ∈ (nE np ws w).getD [] ∨ (x = c ∧ c.Kind = 3 ∧ w = c.mQ)) ∧ (∀ r, ((nE me g r).getD []).length ≤ ((nE me a r).getD []).length + j.length) ∧
   (∀ w, ((nE np i w).getD []).length ≤ ((nE np ws w).getD []).length + 1)
 | [], a, _ => by
  rw [qL]
  by_cases k : c.Kind = 3
  ·rw [aZ (by simp [k])]
   have h := hw c.mQ
   rw [nX (by simp; omega) (by simp; omega)]
   simp only [aA]
   refine ⟨a, _, rfl, by simp, fun w x => ?_, by simp, fun w => ?_⟩
   ·rw [Hk nU]
    by_cases hk : np w c.mQ = true
    ·rw [aZ hk, nU.1 hk]; simp [k]
    ·rw [aY hk]
     have : w ≠ c.mQ := fun e => hk (nU.2 e)
     simp [this]
   ·rw [Hk nU]
    by_cases hk : np w c.mQ = true
    ·rw [aZ hk, nU.1 hk]; simp
    ·rw [aY hk]; exact kC _
  ·rw [aY (by simp [k])]
   exact ⟨a, ws, rfl, by simp, by simp [k], by simp, by simp⟩
 | b :: j, a, l => by
  rw [qL]
  have h := l b
  simp only [aO] at h
  rw [nX (by simp; omega) (by simp; omega)]
  simp only [aA]
  have d : ∀ r, (nE me (pu me a b (((nE me a b).getD []) ++ [c])) r).getD [] = if me r b = true then ((nE me a b).getD []) ++ [c] else (nE me a r).getD [] := fun r => by
   rw [Hk mn]; by_cases hk : me r b = true
   ·rw [aZ hk, aZ hk]; rfl
   ·rw [aY hk, aY hk]
  obtain ⟨g, i, e, m, a2, a3, a4⟩ := Ow c ws C hw j (pu me a b (((nE me a b).getD []) ++ [c])) (fun r => by
   rw [d r]
   have n := l r
   simp only [aO] at n
   by_cases hk : me r b = true
   ·rw [aZ hk]; simp; omega
   ·rw [aY hk]; omega)
  refine ⟨g, i, e, fun r x => ?_, a2, fun r => ?_, a4⟩
  ·rw [m, d]
   by_cases hk : me r b = true
   ·rw [aZ hk, mn.1 hk]
    simp only [aQ, aS, dY, iY]
    constructor
    ·rintro ((h | h) | h)
     ·exact .inl h
     ·exact .inr ⟨h, .inl trivial⟩
     ·exact .inr ⟨h.1, .inr h.2⟩
    ·rintro (h | h)
     ·exact .inl (.inl h)
     ·exact .inl (.inr h.1)
   ·rw [aY hk]
    have : r ≠ b := fun e => hk (mn.2 e)
    simp [this]
  ·have := a3 r
   rw [d r] at this
   by_cases hk : me r b = true
   ·rw [aZ hk] at this; rw [mn.1 hk] at this ⊢; simp at this ⊢; omega
   ·rw [aY hk] at this; simp; omega
theorem T8 {C : List lD} {j : List (lC × List lD)} {ws : List (ByteArray × List lD)} (g : Hf C j ws) (q : C.length + 1 ≤ 1000000) {c : lD} (l : nD c = true) (i : List (lC × List (ByteArray × Bool))) (o : List mc) (n : Int) :
  ∃ a b, wi i C j ws o n c = some (C ++ [c], a, b) ∧ Hf (C ++ [c]) a b := by
 unfold wi
 rw [nX (by simp; omega) (by simp; omega)]
 simp only [aA, Qq l]
 rw [show rU (decide ((0 : Nat) ≤ 1) && decide ((1 : Int) ≤ ((c.Head :: oV c).length : Int))) = some () by simp [rU]; omega]
 simp only [aA, show Int.toNat 1 = 1 from rfl, List.drop_one, List.tail_cons]
 have m : (oV c).length ≤ 2 := by unfold oV; split; simp; split <;> simp
 obtain ⟨a, b, e, k, a2, a3, a4⟩ := Ow c ws (C ++ [c]) (fun w => by have := g.VN w; omega) (oV c) j (fun r => by have := g.VG r; omega)
 refine ⟨a, b, e, fun r x => ?_, fun w x => ?_, fun r => ?_, fun w => ?_⟩
 ·rw [k, g.R5, aQ, bP]
  constructor
  ·rintro (h | h)
   ·exact ⟨.inl h.1, h.2⟩
   ·exact ⟨.inr h.1, by rw [h.1]; exact h.2⟩
  ·rintro ⟨h | h, d⟩
   ·exact .inl ⟨h, d⟩
   ·exact .inr ⟨h, by rw [← h]; exact d⟩
 ·rw [a2, g.word, aQ, bP]
  constructor
  ·rintro (h | h)
   ·exact ⟨.inl h.1, h.2⟩
   ·exact ⟨.inr h.1, by rw [h.1]; exact ⟨h.2.1, h.2.2.symm⟩⟩
  ·rintro ⟨h | h, d⟩
   ·exact .inl ⟨h, d⟩
   ·subst h; exact .inr ⟨rfl, d.1, d.2.symm⟩
 ·have := a3 r; have := g.VG r; simp; omega
 ·have := a4 w; have := g.VN w; simp; omega
structure MS (C : List lD) (T : ru) (us : List (lC × List lD)) (ws : List (ByteArray × List lD)) (n : Int) : Prop where
 GU : tb C T [] n
 cl : ∀ c ∈ C, Ij c T []
 Xl : Hf C us ws
 right : vo C
theorem MS.all {C : List lD} {T : ru} {j : List (lC × List lD)} {ws : List (ByteArray × List lD)} {n : Int} (h : MS C T j ws n) (f : mc) : f ∈ FS T ↔ rf C f := by
 refine ⟨h.GU.zx f, fun i => ?_⟩
 induction i with
 | mem c a hk => exact (h.cl c a).1 hk
 | inc c w a hk _ ih => exact (h.cl c a).2.1 hk w ih (by simp)
 | Il c b w a hk _ _ d g => exact (h.cl c a).2.2.1 hk b w d (by simp) g (by simp)
 | both c w a hk _ _ d g => exact (h.cl c a).2.2.2 hk w d (by simp) g (by simp)
theorem Na (r : Int) (z : 0 ≤ r ∧ r ≤ 1000000000000) : ∀ (l : List lD) {C : List lD} {T : ru} {q : List mc} {A : List (lC × List lD)} {ws : List (ByteArray × List lD)} {n : Int}, tb C T q n → (∀ c ∈ C, Ij c T q) → Hf C A ws → vo C → C.length + l.length ≤ 1000000 →
  ∃ C' T' a d j, pY r l (mm T) C A ws q n = some (j - r, mm T', C', a, d, [], j) ∧ MS C' T' a d j ∧ (∀ c, c ∈ C' ↔ c ∈ C ∨ (c ∈ l ∧ nD c = true)) ∧ C'.length ≤ C.length + l.length ∧ (∀ f ∈ FS T, f ∈ FS T')
 | [], C, T, q, A, ws, n, g, i, u, s, M => by
  rw [pY]
  have W : tM C := by unfold tM; simp at M; omega
  have a6 := W.sq
  have hlen := g.len
  have a7 := g.VZ
  obtain ⟨T', j, e, G, Z, o⟩ := LP W s u (cs := C) mR g i (by rw [yV]; omega)
  unfold xE
  rw [e]
  simp only [aA]
  have O := G.len
  have Y := G.num
  rw [ni (by omega) (by omega)]
  exact ⟨C, T', A, ws, j, rfl, ⟨G, Z, u, s⟩, by simp, by simp, o⟩
 | x :: l, C, T, q, A, ws, n, g, i, u, s, M => by
  rw [pY, zm]
  simp only [aO] at M
  obtain ⟨b, hb, v⟩ := Nq x C
  simp only [aA, hb, Gn]
  by_cases k : nD x = true ∧ x ∉ C
  ·have J : b = false := by cases b with | false => rfl | true => exact absurd (v.1 rfl) k.2
   rw [k.1, J]
   simp only [dI, Bool.and_self, aU]
   obtain ⟨R, U, e1, U1⟩ := T8 u (by omega) k.1 (mm T) q n
   rw [e1]
   simp only [aA]
   have I : tM (C ++ [x]) := by unfold tM; simp; omega
   have t : vo (C ++ [x]) := fun c w => by
    rcases aQ.1 w with h | h
    ·exact s c h
    ·simp at h; subst h; exact k.1
   have g1 : tb (C ++ [x]) T q n := g.mono (fun c w => cK _ w)
   obtain ⟨T2, Q, n2, e2, g2, x2, c2⟩ := Tf I t g1 (C ++ [x]) R U (c := x) (by simp)
   rw [e2]
   simp only [aA]
   have y : ∀ c ∈ C ++ [x], Ij c T2 Q := fun c w => by
    rcases aQ.1 w with h | h
    ·exact (i c h).ext x2
    ·simp at h; subst h; exact c2
   obtain ⟨C', T', a, d, j, e, m, F, a2, a3⟩ := Na r z l g2 y U1 t (by simp; omega)
   refine ⟨C', T', a, d, j, e, m, fun c => ?_, by simp at a2 ⊢; omega, fun f L => a3 f (x2.oG f L)⟩
   rw [F]
   simp only [aQ, aS, dY, iY]
   constructor
   ·rintro ((h | h) | h)
    ·exact .inl h
    ·subst h; exact .inr ⟨.inl rfl, k.1⟩
    ·exact .inr ⟨.inr h.1, h.2⟩
   ·rintro (h | ⟨h | h, D⟩)
    ·exact .inl (.inl h)
    ·exact .inl (.inr h)
    ·exact .inr ⟨h, D⟩
  ·have L : (nD x && !b) = false := by
    cases hr : nD x with
    | false => rfl
    | true =>
     have : x ∈ C := gM fun P => k ⟨hr, P⟩
     rw [v.2 this]; rfl
   rw [L]
   simp only [aB, aN]
   obtain ⟨C', T', a, d, j, e, m, F, a2, a3⟩ := Na r z l g i u s (by omega)
   refine ⟨C', T', a, d, j, e, m, fun c => ?_, by simp; omega, a3⟩
   rw [F, aS]
   constructor
   ·rintro (h | h)
    ·exact .inl h
    ·exact .inr ⟨.inr h.1, h.2⟩
   ·rintro (h | ⟨h | h, D⟩)
    ·exact .inl h
    ·subst h
     exact .inl (gM fun P => k ⟨D, P⟩)
    ·exact .inr ⟨h, D⟩
theorem UE {C : List lD} {T : ru} {g : List (lC × List lD)} {ws : List (ByteArray × List lD)} {n : Int} (h : MS C T g ws n) (l : List lD) (j : C.length + l.length ≤ 1000000) :
  ∃ C' T' a b d, wU (mm T) C g ws [] n l = some (d - n, mm T', C', a, b, [], d) ∧ MS C' T' a b d ∧ (∀ c, c ∈ C' ↔ c ∈ C ∨ (c ∈ l ∧ nD c = true)) ∧ C'.length ≤ C.length + l.length ∧ (∀ f ∈ FS T, f ∈ FS T') := by
 have i : tM C := by unfold tM; omega
 have h1 := h.GU.len
 have k := i.sq
 have m := h.GU.num
 exact Na n ⟨by omega, by omega⟩ l h.GU h.cl h.Xl h.right j
theorem Hf.zero : Hf [] [] [] := ⟨fun r c => by simp [nE], fun w c => by simp [nE], fun r => by simp [nE], fun w => by simp [nE]⟩
theorem tb.zero : tb [] [] [] 0 := ⟨by simp, by simp [FS], by simp, by simp, by simp [FS], by simp [FS]⟩
theorem MS.zero : MS [] [] [] [] 0 := ⟨tb.zero, fun c a => (by cases a), Hf.zero, fun c a => (by cases a)⟩
theorem PA (l : List lD) (h : l.length ≤ 1000000) : ∃ C T d ws n, yq l = some (mm T, C, d, ws, [], n) ∧ MS C T d ws n ∧ (∀ c, c ∈ C ↔ c ∈ l ∧ nD c = true) ∧ C.length ≤ l.length := by
 unfold yq
 obtain ⟨C', T', a, b, i, e, m, g, a2, a3⟩ := UE MS.zero l (by simpa using h)
 rw [show wU [] [] [] [] [] 0 l = _ from e]
 exact ⟨C', T', a, b, i, rfl, m, by simpa using g, by simpa using a2⟩
theorem rf.congr {C C' : List lD} (h : ∀ c, c ∈ C ↔ c ∈ C') (f : mc) : rf C f ↔ rf C' f := ⟨fun d => d.mono (fun c a => (h c).1 a), fun d => d.mono (fun c a => (h c).2 a)⟩
def BM (a b : mc) : Bool := BN a.lC b.lC || (me a.lC b.lC && tp a.mX b.mX)
theorem Dw {a b : mc} : BM a b = true ↔ BN a.lC b.lC = true ∨ (a.lC = b.lC ∧ tp a.mX b.mX = true) := by simp [BM, mn]
def Gi (_ : mc) : Bool := true
theorem Ka : CV (fun a b => BM a b = true) (fun x => Gi x = true) := by
 have H := Co (fun _ => True)
 refine ⟨fun x _ => ?_, fun x y z _ _ _ h1 c => ?_, fun x y _ _ => ?_⟩
 ·rw [Dw]
  rintro (h | ⟨_, h⟩)
  ·exact H.irrefl _ trivial h
  ·rw [vZ] at h; cases h
 ·rw [Dw] at *
  rcases h1 with h1 | ⟨g, h1⟩
  ·rcases c with c | ⟨d, c⟩
   ·exact .inl (H.trans _ _ _ trivial trivial trivial h1 c)
   ·exact .inl (by rw [← d]; exact h1)
  ·rcases c with c | ⟨d, c⟩
   ·exact .inl (by rw [g]; exact c)
   ·exact .inr ⟨g.trans d, CL h1 c⟩
 ·simp only [Dw]
  rcases H.total x.lC y.lC trivial trivial with h | h | h
  ·exact .inl (.inl h)
  ·rcases CB x.mX y.mX with c | c | c
   ·exact .inl (.inr ⟨h, c⟩)
   ·refine .inr (.inl ?_)
    cases x; cases y; simp at h c; simp [h, c]
   ·exact .inr (.inr (.inr ⟨h.symm, c⟩))
  ·exact .inr (.inr (.inl h))
theorem Kc (a b : ByteArray) : rJ a b = 0 ↔ a = b := by unfold rJ; rw [Ji]; exact ⟨DG, fun h => by rw [h]⟩
theorem V9 (a b : ByteArray) : rJ a b < 0 ↔ tp a b = true := by rw [BU]; exact Fm _ _
theorem RE (a b : lC) : ∃ c, pQ a b = some c ∧ (c < 0 ↔ BN a b = true) ∧ (c = 0 ↔ a = b) := by
 obtain ⟨c, e, h⟩ := xQ a b
 refine ⟨c, e, h, ?_⟩
 unfold pQ at e
 simp only [sc, pF, aA, xV, vy, pz] at e
 by_cases d : rJ a.lK b.lK = 0
 ·rw [aY (by simp [d])] at e
  have h1 := (Kc _ _).1 d
  by_cases g : rJ a.lN b.lN = 0
  ·rw [aY (by simp [g])] at e
   have i := (Kc _ _).1 g
   cases e
   refine ⟨fun _ => ?_, fun _ => rfl⟩
   cases a; cases b; simp at h1 i; simp [h1, i]
  ·rw [aZ (by simp [g])] at e
   cases e
   exact ⟨fun k => absurd k g, fun k => by rw [k] at g; exact absurd ((Kc _ _).2 rfl) g⟩
 ·rw [aZ (by simp [d])] at e
  cases e
  exact ⟨fun k => absurd k d, fun k => by rw [k] at d; exact absurd ((Kc _ _).2 rfl) d⟩
theorem R4 (a b : mc) : ∃ c, sK a b = some c ∧ (c < 0 ↔ BM a b = true) := by
 unfold sK
 obtain ⟨c, e, h1, i⟩ := RE a.lC b.lC
 rw [e]
 simp only [sc, pF, aA, xV, vy, pz]
 by_cases g : c = 0
 ·rw [aY (by simp [g])]
  have l := i.1 g
  have d : ¬ BN a.lC b.lC = true := fun j => by have := h1.2 j; omega
  by_cases h : rJ a.mX b.mX = 0
  ·rw [aY (by simp [h])]
   refine ⟨0, rfl, ?_⟩
   rw [Dw]
   simp [d, (Kc _ _).1 h, vZ]
  ·rw [aZ (by simp [h])]
   refine ⟨_, rfl, ?_⟩
   rw [Dw, V9]
   exact ⟨fun k => .inr ⟨l, k⟩, fun k => k.elim (fun k => absurd k d) (·.2)⟩
 ·rw [aZ (by simp [g])]
  refine ⟨c, rfl, ?_⟩
  rw [Dw, h1]
  have : a.lC ≠ b.lC := fun k => g (i.2 k)
  simp [this]
theorem O9 {α : Type} {eq : α → α → Bool} (he : ∀ x y, eq x y = true ↔ x = y) : ∀ (l : List α) (p : α), (p :: l).Nodup → rL eq p l = l
 | [], p, _ => rfl
 | y :: l, p, h => by
  have h1 := dT.1 h
  rw [rL, aY (fun e => h1.1 (by rw [← (he _ _).1 e]; simp)), O9 he l y h1.2]
theorem WD {α : Type} {eq : α → α → Bool} (he : ∀ x y, eq x y = true ↔ x = y) : ∀ l : List α, l.Nodup → dd eq l = l
 | [], _ => rfl
 | x :: l, h => by rw [dd, O9 he l x h]
def DD (P : mc → Prop) (s : List mc) : Prop := s.Pairwise (fun a b => BM a b = true) ∧ ∀ f, f ∈ s ↔ P f
theorem DD.unique {P : mc → Prop} {s t : List mc} (h : DD P s) (k : DD P t) : s = t :=
 sk.unique (l := s) Ka ⟨h.1, fun x => ⟨fun a => ⟨a, rfl⟩, fun a => a.1⟩⟩ ⟨k.1, fun x => by rw [k.2, h.2]; exact ⟨fun a => ⟨a, rfl⟩, fun a => a.1⟩⟩
theorem JG {l : List mc} (d : l.Nodup) (j : l.length ≤ 1000000000000) : ∃ s, AT (fun (x : mc × mc) => sK x.1 x.2) l = some s ∧ DD (fun f => f ∈ l) s := by
 obtain ⟨s, h1, i, c⟩ := E2 (eq := Dy) (lt := fun a b => BM a b = true) (P := fun x => Gi x = true) (cf := fun (x : mc × mc) => sK x.1 x.2) (l := l) (fun x y => yQ) Ka (fun _ _ => rfl) (by omega) (fun x y _ _ => R4 x y)
 have g : s.Nodup := by
  have := (Kn h1).2
  rw [this]
  unfold wy
  exact (jT l _).nodup_iff.2 d
 rw [WD (fun x y => yQ) s g] at c
 exact ⟨s, h1, c.1, fun f => by rw [c.2]; exact ⟨fun h => h.1, fun h => ⟨h, rfl⟩⟩⟩
theorem UD (T : ru) : (mm T).flatMap (fun p => p.2.map (fun q => (fun (a : lC) (b : ByteArray) => (⟨a, b⟩ : mc)) p.1 q.1)) = FS T := by
 unfold mm FS tt
 rw [List.flatMap_map]
 congr 1
 funext p
 simp [iF]
theorem SS {C : List lD} (i : tM C) {T : ru} {l : List (lC × List lD)} {ws : List (ByteArray × List lD)} {n : Int} (h : MS C T l ws n) (cs : List lD) (u : List (lC × List lD)) (w : List (ByteArray × List lD)) (k : List mc) (z : Int) :
  ∃ s, zc (mm T) cs u w k z = some s ∧ DD (rf C) s := by
 have j := i.sq
 have hlen := h.GU.len
 obtain ⟨s, m, g⟩ := JG h.GU.nd (by omega)
 have d : DD (rf C) s := ⟨g.1, fun f => (g.2 f).trans (h.all f)⟩
 refine ⟨s, ?_, d⟩
 unfold zc Rj
 rw [UD]
 rw [aZ ⟨by omega, by unfold maxLen; omega⟩]
 simp only [aA, pz]
 refine Js (fun o b => ?_)
 obtain ⟨q, c, a⟩ := JG ((b.nodup_iff).2 h.GU.nd) (by rw [b.length_eq]; omega)
 rw [c]
 congr 1
 exact DD.unique ⟨a.1, fun f => (a.2 f).trans (b.mem_iff.trans (h.all f))⟩ d
theorem Tg (r : lC) (w : ByteArray) : ∀ l : List mc, ∃ b, yG r w l = some b ∧ (b = true ↔ (⟨r, w⟩ : mc) ∈ l)
 | [] => ⟨false, rfl, by simp⟩
 | x :: l => by
  rw [yG]
  simp only [Gn, aA]
  obtain ⟨b, e, d⟩ := Tg r w l
  by_cases h : (me x.lC r && np x.mX w) = true
  ·rw [aZ h]
   have a : x = ⟨r, w⟩ := by
    rw [bE, mn, nU] at h
    cases x; simp at h; simp [h]
   exact ⟨true, rfl, by simp [a]⟩
  ·rw [aY h]
   refine ⟨b, e, ?_⟩
   rw [d, aS]
   refine ⟨.inr, fun c => c.resolve_left (fun e => h ?_)⟩
   rw [← e]; simp [yd, yj]
theorem BQ (l : List mc) (r : lC) (w : ByteArray) : ∃ b, xt l r w = some b ∧ (b = true ↔ (⟨r, w⟩ : mc) ∈ l) := Tg r w l
def zQ (l : List mc) (c : lD) (names : List ByteArray) (w : ByteArray) : Prop :=
 (c.Kind = 1 ∧ c.mX = w) ∨ (c.Kind = 2 ∧ (⟨c.B, w⟩ : mc) ∈ l) ∨ (c.Kind = 4 ∧ (⟨c.B, w⟩ : mc) ∈ l ∧ (⟨c.C, w⟩ : mc) ∈ l) ∨
 (c.Kind ≠ 1 ∧ c.Kind ≠ 2 ∧ c.Kind ≠ 4 ∧ ∃ b ∈ names, (⟨c.B, b⟩ : mc) ∈ l ∧ (⟨⟨b, c.mQ⟩, w⟩ : mc) ∈ l)
theorem Jw (l : List mc) (c : lD) (w : ByteArray) : ∀ names : List ByteArray, ∃ b, xm l c w names = some b ∧ (b = true ↔ ∃ b ∈ names, (⟨c.B, b⟩ : mc) ∈ l ∧ (⟨⟨b, c.mQ⟩, w⟩ : mc) ∈ l)
 | [] => ⟨false, rfl, by simp⟩
 | x :: names => by
  rw [xm]
  obtain ⟨g, j, h1⟩ := BQ l c.B x
  obtain ⟨i, k, d⟩ := BQ l ⟨x, c.mQ⟩ w
  obtain ⟨b, e, m⟩ := Jw l c w names
  rw [j, k, e]
  simp only [aA, Gn]
  by_cases h : (g && i) = true
  ·rw [aZ h]
   rw [bE, h1, d] at h
   exact ⟨true, rfl, by simp [h]⟩
  ·rw [aY h]
   rw [bE, h1, d] at h
   refine ⟨b, rfl, ?_⟩
   rw [m]
   constructor
   ·rintro ⟨y, a, q⟩; exact ⟨y, by simp [a], q⟩
   ·rintro ⟨y, a, q⟩
    rcases aS.1 a with rfl | a
    ·exact absurd q h
    ·exact ⟨y, a, q⟩
theorem TS (l : List mc) (c : lD) (names : List ByteArray) (w : ByteArray) : ∃ b, Bz l c names w = some b ∧ (b = true ↔ zQ l c names w) := by
 unfold Bz zQ
 simp only [pz]
 by_cases h1 : c.Kind = 1
 ·rw [aZ (by simp [h1])]; exact ⟨_, rfl, by simp [h1, nU]⟩
 rw [aY (by simp [h1])]
 by_cases a : c.Kind = 2
 ·rw [aZ (by simp [a])]
  obtain ⟨b, e, g⟩ := BQ l c.B w
  exact ⟨b, e, by simp [a, g]⟩
 rw [aY (by simp [a])]
 by_cases d : c.Kind = 4
 ·rw [aZ (by simp [d])]
  obtain ⟨m, j, h⟩ := BQ l c.B w
  obtain ⟨n, k, i⟩ := BQ l c.C w
  rw [j, k]
  simp only [aA, Gn]
  exact ⟨_, rfl, by simp [d, h, i]⟩
 rw [aY (by simp [d])]
 obtain ⟨b, e, g⟩ := Jw l c w names
 exact ⟨b, e, by rw [g]; simp [h1, a, d]⟩
theorem zQ.zx {C : List lD} {l : List mc} (a : ∀ f ∈ l, rf C f) {c : lD} (d : c ∈ C) (hk : c.Kind = 1 ∨ c.Kind = 2 ∨ c.Kind = 3 ∨ c.Kind = 4) {names : List ByteArray} {w : ByteArray} (h : zQ l c names w) : rf C ⟨c.Head, w⟩ := by
 rcases h with ⟨k, rfl⟩ | ⟨k, h⟩ | ⟨k, h1, g⟩ | ⟨i, k2, j, b, _, h1, g⟩
 ·exact .mem c d k
 ·exact .inc c w d k (a _ h)
 ·exact .both c w d k (a _ h1) (a _ g)
 ·exact .Il c b w d (by omega) (a _ h1) (a _ g)
theorem P3 {c : lD} (h : nD c = true) : c.Kind = 1 ∨ c.Kind = 2 ∨ c.Kind = 3 ∨ c.Kind = 4 := by rcases qk h with h | h | h | h <;> simp [h.1]
structure G8 (C : List lD) (out : List mc) : Prop where
 nd : out.Nodup
 zx : ∀ f ∈ out, rf C f
theorem G8.len {C : List lD} {out : List mc} (h : G8 C out) : out.length ≤ C.length * C.length := by
 rw [← Gc]; exact om h.nd (fun f a => (h.zx f a).Iy)
theorem Ja {C : List lD} (s : tM C) (t : vo C) {c : lD} (m : c ∈ C) (names : List ByteArray) : ∀ (l : List ByteArray) (out : List mc) (i : Bool), G8 C out →
  ∃ g d, xe c names l out i = some (g, d) ∧ G8 C g ∧ (d = true → i = true ∨ out.length < g.length) ∧ (d = false → i = false ∧ g = out ∧ ∀ w ∈ l, zQ out c names w → (⟨c.Head, w⟩ : mc) ∈ out) ∧ out.length ≤ g.length
 | [], out, i, h => ⟨out, i, rfl, h, .inl, fun h => ⟨h, rfl, fun _ hw => by cases hw⟩, bA _⟩
 | w :: l, out, i, h => by
  rw [xe]
  obtain ⟨y, F, h1⟩ := BQ out c.Head w
  obtain ⟨D, G, z⟩ := TS out c names w
  rw [F, G]
  simp only [aA, Gn]
  by_cases j : (!y && D) = true
  ·rw [aZ j]
   rw [bE] at j
   have u : (⟨c.Head, w⟩ : mc) ∉ out := fun J => by have := h1.2 J; rw [this] at j; exact absurd j.1 (by decide)
   have M := h.len
   have L := s.sq
   rw [nX (by simp; omega) (by simp; omega)]
   simp only [aA]
   have I : G8 C (out ++ [⟨c.Head, w⟩]) := ⟨cA.2 ⟨h.nd, by simp, fun a ha b j e => by simp at j; subst j; subst e; exact u ha⟩, fun f k => by
    rcases aQ.1 k with k | k
    ·exact h.zx f k
    ·simp at k; subst k; exact (z.1 j.2).zx h.zx m (P3 (t c m))⟩
   obtain ⟨g, d, e, n, a2, a3, a4⟩ := Ja s t m names l _ true I
   simp at a4
   exact ⟨g, d, e, n, fun _ => .inr (by omega), fun k => (by cases (a3 k).1), by omega⟩
  ·rw [aY j]
   obtain ⟨g, d, e, n, a2, a3, a4⟩ := Ja s t m names l out i h
   refine ⟨g, d, e, n, a2, fun k => ?_, a4⟩
   obtain ⟨o, q, r⟩ := a3 k
   refine ⟨o, q, fun v x A => ?_⟩
   rcases aS.1 x with rfl | x
   ·refine gM fun u => j ?_
    rw [bE, z.2 A]
    cases y with
    | false => exact ⟨rfl, rfl⟩
    | true => exact absurd (h1.1 rfl) u
   ·exact r v x A
theorem MY {C : List lD} (m : tM C) (n : vo C) (names : List ByteArray) : ∀ (l : List lD) (out : List mc) (a : Bool), (∀ c ∈ l, c ∈ C) → G8 C out →
  ∃ b g, yP names l out a = some (b, g) ∧ G8 C b ∧ (g = true → a = true ∨ out.length < b.length) ∧ (g = false → a = false ∧ b = out ∧ ∀ c ∈ l, ∀ w ∈ names, zQ out c names w → (⟨c.Head, w⟩ : mc) ∈ out) ∧ out.length ≤ b.length
 | [], out, a, _, h => ⟨out, a, rfl, h, .inl, fun h => ⟨h, rfl, fun _ hw => by cases hw⟩, bA _⟩
 | c :: l, out, a, o, h => by
  rw [yP]
  obtain ⟨x, c1, u, q, a2, a3, a4⟩ := Ja m n (o c (by simp)) names names out a h
  rw [u]
  simp only [aA]
  obtain ⟨y, c2, v, r, s, t, J⟩ := MY m n names l x c1 (fun d i => o d (by simp [i])) q
  refine ⟨y, c2, v, r, fun j => ?_, fun j => ?_, by omega⟩
  ·rcases s j with h1 | h1
   ·rcases a2 h1 with k | k
    ·exact .inl k
    ·exact .inr (by omega)
   ·exact .inr (by omega)
  ·obtain ⟨z, A, D⟩ := t j
   obtain ⟨F, G, I⟩ := a3 z
   subst G
   refine ⟨F, A, fun d i => ?_⟩
   rcases aS.1 i with rfl | i
   ·exact I
   ·exact D d i
def zF : mc := ⟨⟨zS, zS⟩, zS⟩
theorem MW (a b : mc) : wA a b = some (BM a b) := by
 unfold wA BM
 simp only [Eh, aA, Gn, Vr]
def UT (a : List mc) (b : Int) (p : Bool × mc) : Prop := (p.1 = false ∧ b = -1) ∨ (p.1 = true ∧ 0 ≤ b ∧ nG a b = some p.2)
theorem Ei (out a : List mc) (g : out.length < 4611686018427387904) : ∀ (rest A : List mc) (b : Int) (p : Bool × mc), a = A ++ rest → UT a b p →
  ∃ c, rh out a rest A.length b = some c ∧ UT a c (uv Gi BM out.getLast? rest p.1 p.2)
 | [], A, b, p, ha, i => ⟨b, rfl, i⟩
 | x :: rest, A, b, p, ha, i => by
  rw [rh, uv]
  simp only [Gi, eU]
  have h1 : ((if ((out.length : Int) == 0) = true then some true else (nG out (wi0 .i64 ((out.length : Int) - 1))).bind fun y => (wA y x).bind fun r => some r) : Option Bool) = some (out.getLast?.all fun y => BM y x) := by
   rcases eB out with h | ⟨B, z, h⟩
   ·subst h; rfl
   ·subst h
    rw [aY (by simp; omega)]
    rw [fI] at g ⊢
    rw [Je B z (by simp at g; omega)]
    simp [MW]
  have m : ((if decide (b < 0) = true then some true else (nG a b).bind fun y => (wA x y).bind fun r => some r) : Option Bool) = some (!p.1 || BM x p.2) := by
   rcases i with ⟨j, k⟩ | ⟨j, k, l⟩
   ·rw [aZ (by simp [k]), j]; rfl
   ·rw [aY (by simpa using k), l, j]
    simp [MW]
  rw [h1]
  simp only [aA]
  rw [m]
  simp only [aA, Gn]
  have n : nG a (A.length : Int) = some x := by rw [ha]; exact oU A x rest _ rfl
  by_cases d : ((out.getLast?.all fun y => BM y x) && (!p.1 || BM x p.2)) = true
  ·rw [aZ d, aZ d]
   have := Ei out a g rest (A ++ [x]) (A.length : Int) (true, x) (by rw [ha]; simp) (.inr ⟨rfl, by simp, n⟩)
   simpa using this
  ·rw [aY d, aY d]
   have := Ei out a g rest (A ++ [x]) b p (by rw [ha]; simp) i
   simpa using this
theorem Iq {out a : List mc} (d : out.length < 4611686018427387904) (h : (uv Gi BM out.getLast? a false zF).1 = false) : ∀ Iw : List mc, re a Iw out = some out
 | [] => rfl
 | x :: Iw => by
  rw [re]
  obtain ⟨b, e, i⟩ := Ei out a d a [] (-1) (false, zF) rfl (.inl ⟨rfl, rfl⟩)
  rw [show rh out a a 0 (-1) = some b from e]
  simp only [aA]
  rcases i with ⟨_, g⟩ | ⟨c, _⟩
  ·rw [aY (by simp [g])]; exact Iq d h Iw
  ·rw [h] at c; cases c
theorem Lr (a : List mc) : ∀ (Iw : List mc) (out s : List mc), CN 48 Gi BM zF a (Iw.length + 1) out = some s → s.length < 4611686018427387904 → re a Iw out = some s ∧ out.length ≤ s.length
 | [], out, s, h, i => by
  rw [CN] at h
  cases hp : (uv Gi BM out.getLast? a false zF).1 with
  | false =>
   rw [hp] at h
   simp only [dI, aU] at h
   cases h
   exact ⟨rfl, bA _⟩
  | true =>
   rw [hp] at h
   simp only [bY, aB, aN] at h
   obtain ⟨o, c, h⟩ := bind_some h
   replace h : CN 48 Gi BM zF a 0 o = some s := h
   rw [CN] at h
   cases h
 | x :: Iw, out, s, h, i => by
  rw [CN] at h
  cases hp : (uv Gi BM out.getLast? a false zF).1 with
  | false =>
   rw [hp] at h
   simp only [dI, aU] at h
   cases h
   exact ⟨Iq i hp _, bA _⟩
  | true =>
   rw [hp] at h
   simp only [bY, aB, aN] at h
   obtain ⟨o, c, h⟩ := bind_some h
   have g := c
   unfold oH at c
   split at c
   case isFalse => cases c
   cases c
   obtain ⟨m, k2⟩ := Lr a Iw _ s h i
   simp at k2
   rw [re]
   obtain ⟨b, e, l⟩ := Ei out a (by omega) a [] (-1) (false, zF) rfl (.inl ⟨rfl, rfl⟩)
   rw [show rh out a a 0 (-1) = some b from e]
   simp only [aA]
   rcases l with ⟨d, _⟩ | ⟨d, j, k⟩
   ·rw [hp] at d; cases d
   ·rw [aZ (by simpa using j), k]
    simp only [aA]
    rw [g]
    exact ⟨m, by omega⟩
theorem RB (l : List mc) (c : l.length ≤ 1000000000) : ∃ s, Cc l = some s ∧ DD (fun f => f ∈ l) s := by
 obtain ⟨s, h1, a⟩ := Et Ka (w := 48) (by omega) zF l c (l.length + 1) [] (by simp) (by simp) (fun x b => by cases b) (fun x _ _ => .inr rfl)
 have hlen : s.length ≤ l.length := om (xI Ka (fun _ _ => rfl) a.1) (fun x b => ((a.2 x).1 b).1)
 exact ⟨s, (Lr l l [] s h1 (by omega)).1, a.1, fun f => by rw [a.2]; exact ⟨fun h => h.1, fun h => ⟨h, rfl⟩⟩⟩
theorem NM : ∀ (l : List lD) (acc : List ByteArray), acc.length + 4 * l.length ≤ 1000000000 → uU l acc = Ck (acc ++ l.flatMap fun c => [c.mX, c.Head.lK, c.B.lK, c.C.lK])
 | [], acc, _ => by rw [uU]; simp [pz]
 | c :: l, acc, h => by
  rw [uU]
  simp only [aO] at h
  rw [nX (by simp; omega) (by simp; omega)]
  simp only [aA]
  rw [NM l _ (by simp; omega)]
  simp
def SM (C : List lD) : Prop := C.length ≤ 30000
theorem SM.small {C : List lD} (h : SM C) : tM C := by unfold SM at h; unfold tM; omega
theorem SM.sq {C : List lD} (h : SM C) : C.length * C.length ≤ 900000000 := Nat.mul_le_mul h h
theorem R0 {C : List lD} (b : SM C) (g : vo C) : ∃ names, AI C = some names ∧ ∀ c ∈ C, c.Kind = 1 → c.mX ∈ names := by
 have d : C.length ≤ 30000 := b
 unfold AI
 rw [NM C [] (by simp; omega)]
 obtain ⟨s, e, i⟩ := TP ([] ++ C.flatMap fun c => [c.mX, c.Head.lK, c.B.lK, c.C.lK]) (by
  have : ∀ l : List lD, (l.flatMap fun c => [c.mX, c.Head.lK, c.B.lK, c.C.lK]).length = 4 * l.length := fun l => by
   induction l with
   | nil => rfl
   | cons x l ih => simp [ih]; omega
  rw [bK, this]; omega)
 refine ⟨s, e, fun c a hk => (i.2 _).2 ⟨?_, ?_⟩⟩
 ·rw [bK]; exact lh.2 ⟨c, a, by simp⟩
 ·rcases qk (g c a) with h | h | h | h
  ·exact h.2.1
  ·exact absurd (hk.symm.trans h.1) (by decide)
  ·exact absurd (hk.symm.trans h.1) (by decide)
  ·exact absurd (hk.symm.trans h.1) (by decide)
theorem Pk {C : List lD} (n : vo C) {names : List ByteArray} (l : ∀ c ∈ C, c.Kind = 1 → c.mX ∈ names) {out : List mc} (h : ∀ c ∈ C, ∀ w ∈ names, zQ out c names w → (⟨c.Head, w⟩ : mc) ∈ out) {f : mc} (k : rf C f) : f ∈ out := by
 have hw : ∀ f, rf C f → f.mX ∈ names := fun f k => by
  obtain ⟨c, a, hk, e⟩ := k.Om
  rw [← e]; exact l c a hk
 induction k with
 | mem c a hk => exact h c a _ (l c a hk) (.inl ⟨hk, rfl⟩)
 | inc c w a hk m ih => exact h c a w (hw _ m) (.inr (.inl ⟨hk, ih⟩))
 | Il c b w a hk d j g i => exact h c a w (hw _ j) (.inr (.inr (.inr ⟨by omega, by omega, by omega, b, hw _ d, g, i⟩)))
 | both c w a hk d j g i => exact h c a w (hw _ d) (.inr (.inr (.inl ⟨hk, g, i⟩)))
theorem Ns {C : List lD} (a : SM C) (b : vo C) {names : List ByteArray} (g : ∀ c ∈ C, c.Kind = 1 → c.mX ∈ names) : ∀ (m : Nat) (out : List mc), G8 C out → C.length * C.length < m + out.length →
  ∃ s, xb names C m out = some s ∧ DD (rf C) s
 | 0, out, h, hm => by have := h.len; omega
 | m + 1, out, h, hm => by
  rw [xb]
  obtain ⟨o, c, e, i, a2, a3, a4⟩ := MY a.small b names C out false (fun _ h => h) h
  rw [e]
  simp only [aA, pz]
  cases c with
  | false =>
   simp only [dI, aU]
   obtain ⟨_, j, k⟩ := a3 rfl
   subst j
   have q := h.len
   have n := a.sq
   obtain ⟨s, l, d⟩ := RB o (by omega)
   exact ⟨s, l, d.1, fun f => (d.2 f).trans ⟨h.zx f, Pk b g k⟩⟩
  | true =>
   simp only [bY, aB, aN]
   rcases a2 rfl with h1 | h1
   ·cases h1
   ·exact Ns a b g m o i (by omega)
theorem Uj (l : List lD) (o : l.length ≤ 30000) : ∃ C s, zO l = some s ∧ DD (rf C) s ∧ ∀ c, c ∈ C ↔ c ∈ l ∧ nD c = true := by
 unfold zO
 obtain ⟨C, e, b⟩ := Um l (by omega)
 have hlen := sG zf b
 have a : SM C := by unfold SM; omega
 have d : vo C := fun c j => ((b.2 c).1 j).2
 obtain ⟨names, g, m⟩ := R0 a d
 rw [e]
 simp only [aA]
 rw [g]
 simp only [aA]
 have n := a.sq
 obtain ⟨s, h, i⟩ := Ns a d m mR [] ⟨by simp, fun f k => by cases k⟩ (by rw [yV]; simp; omega)
 exact ⟨C, s, h, i, b.2⟩
theorem EL (w : ByteArray) : ∀ (l : List mc) (acc : List lC), acc.length + l.length ≤ 1000000000 → ta w l acc = some (acc ++ (l.filter fun f => np f.mX w).map (·.lC))
 | [], acc, _ => by rw [ta]; simp
 | x :: l, acc, h => by
  rw [ta]
  simp only [aO] at h
  by_cases a : np x.mX w = true
  ·rw [aZ a, nX (by simp; omega) (by simp; omega)]
   simp only [aA]
   rw [EL w l _ (by simp; omega)]
   simp [a]
  ·rw [aY a, EL w l acc (by omega)]
   simp [a]
theorem TJ {P : mc → Prop} {s t : List mc} (h : DD P s) (b : ∀ f, P f → f ∈ t) : s.length ≤ t.length := om (xI Ka (fun _ _ => rfl) h.1) (fun f a => b f ((h.2 f).1 a))
theorem Uf {C : List lD} {s : List mc} (h : DD (rf C) s) (a : SM C) : s.length ≤ 900000000 := by
 have := TJ h (t := Iy C) (fun f b => b.Iy)
 rw [Gc] at this
 have := a.sq
 omega
theorem QP {C : List lD} {T : ru} {c : List (lC × List lD)} {ws : List (ByteArray × List lD)} {n : Int} (h : MS C T c ws n) (cs : List lD) (u : List (lC × List lD)) (w : List (ByteArray × List lD)) (a : List mc) (z : Int) (r : lC) (Om : ByteArray) :
  ∃ b, uN (mm T) cs u w a z r Om = some b ∧ (b = true ↔ rf C ⟨r, Om⟩) :=
 ⟨_, rfl, by rw [vY h.GU.keys, h.all]⟩
def qA : lC := ⟨⟨#[97]⟩, ⟨#[114]⟩⟩
def qB : lC := ⟨⟨#[98]⟩, ⟨#[115]⟩⟩
def qd : ByteArray := ⟨#[100]⟩
def j1 : lD := ⟨2, qA, zS, qB, ⟨zS, zS⟩, zS⟩
def j2 : lD := ⟨1, qB, qd, ⟨zS, zS⟩, ⟨zS, zS⟩, zS⟩
theorem Ss (n : Nat) (a : n ≤ 1000000000) : uY (n : Int) = some [] := by
 unfold uY
 rw [aY (by simp), ni (x := 0 - 0) (by omega) (by omega), show (n : Int) - (0 - 0) = n by omega, ni (x := (n : Int)) (by omega) (by omega)]
 by_cases h : 0 < n
 ·rw [aZ (by simpa using h)]
  unfold Gp
  rw [aZ ⟨by omega, by omega, by unfold maxLen; omega⟩]
  simp [rU]
 ·rw [aY (by simpa using h)]; rfl
theorem QF (a b : List lD) (h : a.length + b.length ≤ 1000000000) : tO [a, b] = some (a ++ b) := by
 unfold tO
 rw [qN, ni (by omega) (by omega), aY (by simp), qN, ni (by omega) (by omega), aY (by simp; omega), qN]
 rw [show (0 : Int) + (a.length : Int) + (b.length : Int) = ((a.length + b.length : Nat) : Int) by omega, Ss _ h]
 simp only [aA]
 rw [qI, nX (by simp; omega) (by simp; omega)]
 simp only [aA, bK]
 rw [qI, nX (by omega) (by omega)]
 simp only [aA]
 rw [qI]
 rfl
theorem PD {a b : lC} (h : a ≠ b) : me a b = false := by
 cases c : me a b with
 | false => rfl
 | true => exact absurd (mn.1 c) h
theorem sk.self {α : Type} {lt : α → α → Prop} {P : α → Prop} {l s : List α} (h : sk lt P l s) : sk lt P s s := ⟨h.1, fun x => ⟨fun a => ⟨a, ((h.2 x).1 a).2⟩, fun a => a.1⟩⟩
theorem zQ.own {l : List mc} {c : lD} {names : List ByteArray} {w : ByteArray} (h : zQ l c names w) : zQ l c (l.map (·.mX)) w := by
 rcases h with h | h | h | ⟨d, g, i, b, _, a, j⟩
 ·exact .inl h
 ·exact .inr (.inl h)
 ·exact .inr (.inr (.inl h))
 ·exact .inr (.inr (.inr ⟨d, g, i, b, bJ.2 ⟨_, a, rfl⟩, a, j⟩))
theorem zQ.subset {a b : List mc} {c : lD} {names : List ByteArray} {w : ByteArray} (h : zQ a c names w) (d : ∀ f ∈ a, f ∈ b) : zQ b c names w := by
 rcases h with h | h | h | ⟨i, j, k, g, l, m, n⟩
 ·exact .inl h
 ·exact .inr (.inl ⟨h.1, d _ h.2⟩)
 ·exact .inr (.inr (.inl ⟨h.1, d _ h.2.1, d _ h.2.2⟩))
 ·exact .inr (.inr (.inr ⟨i, j, k, g, l, d _ m, d _ n⟩))
def tot {α : Type} (a : List (List α)) : Nat := (a.map List.length).sum
def up (w : ByteArray) (g : ByteArray → Nat) : ByteArray → Nat := fun x => if np w x = true then g x + 1 else g x
theorem US (F : List mc) (w : ByteArray) (a : F.length ≤ 1000000000) : yE F w = some ((F.filter fun f => np f.mX w).map (·.lC)) := by
 unfold yE
 rw [EL w F [] (by simp; omega)]
 simp
instance decRole : DecidableEq lC := fun a b => decidable_of_iff (me a b = true) mn
theorem LB (b : List lC) : ∀ (l m A : List lC), A ++ m = b → l.length = m.length → se b l A.length = some (decide (l = m)) ∧ ra b l A.length = some (decide (l = m))
 | [], [], A, _, _ => ⟨by rw [se]; rfl, by rw [ra]; rfl⟩
 | x :: l, y :: m, A, h, d => by
  have e : nG b (A.length : Int) = some y := by rw [← h]; exact oU A y m _ rfl
  obtain ⟨c, a2⟩ := LB b l m (A ++ [y]) (by simpa using h) (by simpa using d)
  rw [aD] at c a2
  rw [se, ra, e]
  simp only [aA]
  by_cases a : x = y
  ·subst a
   rw [yd]
   simp only [bY, aB, aN]
   exact ⟨by rw [show A.length + 1 = A.length + [x].length from rfl, c]; simp, by rw [show A.length + 1 = A.length + [x].length from rfl, a2]; simp⟩
  ·rw [PD a]
   simp [a]
theorem JU (a b : List lC) : ri a b = some (decide (a = b)) := by
 unfold ri
 by_cases h : a.length = b.length
 ·rw [aY (by simp [h])]
  exact (LB b a b [] rfl h).2
 ·rw [aZ (by simp; omega)]
  simp; intro e; exact h (by rw [e])
def JR (F : List mc) (w : ByteArray) : List lC := (F.filter fun f => np f.mX w).map (·.lC)
structure U7 (l : List lD) (F : List mc) : Prop where
 len : l.length ≤ 30000
 C : ∃ C : List lD, DD (rf C) F ∧ (∀ c, c ∈ C ↔ c ∈ l ∧ nD c = true) ∧ SM C
 ref : zO l = some F
theorem Vb (l : List lD) (g : l.length ≤ 30000) : ∃ F, U7 l F := by
 obtain ⟨C, F, e, h1, h⟩ := Uj l g
 obtain ⟨C1, T, j, ws, n, i, m1, a, d⟩ := PA l (by omega)
 have b : ∀ c, c ∈ C ↔ c ∈ C1 := fun c => by rw [h, a]
 exact ⟨F, g, ⟨C1, ⟨h1.1, fun f => (h1.2 f).trans (rf.congr b f)⟩, a, by unfold SM; omega⟩, e⟩
theorem U7.Xq {l : List lD} {F : List mc} (h : U7 l F) : F.length ≤ 900000000 := by
 obtain ⟨C, h1, b, a⟩ := h.C
 exact Uf h1 a
def B8 (l : List Int) : Prop := ∀ x ∈ l, 0 ≤ x ∧ x < 256
theorem B8.VC {a b : List Int} (ha : B8 a) (c : B8 b) : B8 (a ++ b) := fun x d => (aQ.1 d).elim (ha x) (c x)
def PW : List ByteArray → List Key → Int
 | _, [] => 0
 | seen, k :: l => if pg k.mX = false then 30 else if k.Key.length < 1 ∨ 32 < k.Key.length then 21 else if ob np seen k.mX = true then 41 else PW (seen ++ [k.mX]) l
def Sw (l : List Key) : List (ByteArray × List Int) := l.map fun k => (k.mX, k.Key)
def Sq (l : List Key) (o : ByteArray) : Option (List Int) := nE np (Sw l) o
theorem UY {l : List Int} (h : l.length ≤ 1000000) : xf l = some l := by
 unfold xf
 rw [Jk (by simpa using h)]; rfl
theorem O7 : ∀ (l : List Key) (seen : List ByteArray), PW seen l = 0 → ∀ k ∈ l, 1 ≤ k.Key.length ∧ k.Key.length ≤ 32
 | [], _, _, _, hk => by cases hk
 | x :: l, seen, h, k, hk => by
  unfold PW at h
  split at h
  ·cases h
  split at h
  ·cases h
  split at h
  ·cases h
  rcases aS.1 hk with rfl | hk
  ·omega
  ·exact O7 l _ h k hk
theorem I2 : ∀ (l : List Key) (o : ByteArray) (b : List Int), Sq l o = some b → ∃ k ∈ l, k.Key = b
 | [], o, b, h => by cases h
 | x :: l, o, b, h => by
  unfold Sq at h
  rw [show Sw (x :: l) = (x.mX, x.Key) :: Sw l from rfl, Ej] at h
  split at h
  ·cases h; exact ⟨x, by simp, rfl⟩
  ·obtain ⟨k, hk, e⟩ := I2 l o b h
   exact ⟨k, by simp [hk], e⟩
def K8 (l : List Key) : Prop := ∀ k ∈ l, B8 k.Key
structure Mk (ks : List Key) (c : lD) (k : List Int) : Prop where
 ok : PW [] ks = 0
 rt : nD c = true
 lk : Sq ks c.Head.lK = some k
theorem Mk.len {a : List Key} {c : lD} {k : List Int} (h : Mk a c k) : 1 ≤ k.length ∧ k.length ≤ 32 := by
 obtain ⟨q, b, rfl⟩ := I2 _ _ _ h.lk
 exact O7 a [] h.ok q b
theorem Mk.b8 {a : List Key} {c : lD} {k : List Int} (h : Mk a c k) (hk : K8 a) : B8 k := by
 obtain ⟨q, b, rfl⟩ := I2 _ _ _ h.lk
 exact hk q b
theorem Mk.unique {a : List Key} {c : lD} {k k' : List Int} (h : Mk a c k) (b : Mk a c k') : k = k' := by
 have := h.lk; rw [b.lk] at this; cases this; rfl
def S8 (l : List Signed) : Prop := ∀ s ∈ l, B8 s.Tag
theorem F5 (b : List lD) (x : lD) : vd b x = some (ob mO b x) := by
 obtain ⟨q, e, h⟩ := Nq x b
 unfold rZ at e
 rw [pz] at e
 rw [e, show q = ob mO b x from by rw [bX, h, rl ou]]
structure Sd (l : List lD) (F : List mc) : Prop where
 len : F.length ≤ 900000000
 ref : zO l = some F
 Xb : ∃ m, yq l = some m ∧ zc m.1 m.2.1 m.2.2.1 m.2.2.2.1 m.2.2.2.2.1 m.2.2.2.2.2 = some F ∧ ∀ r w, uN m.1 m.2.1 m.2.2.1 m.2.2.2.1 m.2.2.2.2.1 m.2.2.2.2.2 r w = some (ob Dy F ⟨r, w⟩)
 zx : ∀ C : List lD, (∀ c, c ∈ C ↔ c ∈ l ∧ nD c = true) → DD (rf C) F
theorem Tc (l : List lD) (x : l.length ≤ 30000) : ∃ F, Sd l F := by
 obtain ⟨F, h⟩ := Vb l x
 refine ⟨F, h.Xq, h.ref, ?_, fun C t => ?_⟩
 ·obtain ⟨C, h1, d, s⟩ := h.C
  obtain ⟨C1, T, m, ws, n, o, m1, g, j⟩ := PA l (by omega)
  have a : ∀ c, c ∈ C1 ↔ c ∈ C := fun c => by rw [d, g]
  have k : DD (rf C1) F := ⟨h1.1, fun f => (h1.2 f).trans (rf.congr a f).symm⟩
  have u : SM C1 := by unfold SM; omega
  refine ⟨_, o, ?_, fun r w => ?_⟩
  ·obtain ⟨F1, q, i⟩ := SS u.small m1 C1 m ws [] n
   rw [← i.unique k]; exact q
  ·obtain ⟨b, e, v⟩ := QP m1 C1 m ws [] n r w
   rw [e, show b = ob Dy F ⟨r, w⟩ from by rw [bX, v, rl yQ, k.2]]
 ·obtain ⟨C', h1, d, s⟩ := h.C
  have a : ∀ c, c ∈ C' ↔ c ∈ C := fun c => by rw [d, t]
  exact ⟨h1.1, fun f => (h1.2 f).trans (rf.congr a f)⟩
section
variable {α : Type}
structure SWO (lt : α → α → Bool) : Prop where
 WR : ∀ x, lt x x = false
 tr : ∀ x y z, lt x y = true → lt y z = true → lt x z = true
 Tm : ∀ x y z, lt x z = true → lt x y = true ∨ lt y z = true
variable {lt : α → α → Bool}
def tl (lt : α → α → Bool) (p q : α × Nat) : Prop := lt p.1 q.1 = true ∨ (lt q.1 p.1 = false ∧ p.2 < q.2)
theorem FU (h : SWO lt) {p q r : α × Nat} (a : tl lt p q) (b : tl lt q r) : tl lt p r := by
 unfold tl at *
 rcases a with a | ⟨a, a2⟩ <;> rcases b with b | ⟨b, d⟩
 ·exact .inl (h.tr _ _ _ a b)
 ·rcases h.Tm _ r.1 _ a with c | c
  ·exact .inl c
  ·rw [b] at c; cases c
 ·rcases h.Tm _ p.1 _ b with c | c
  ·rw [a] at c; cases c
  ·exact .inl c
 ·refine .inr ⟨?_, by omega⟩
  cases e : lt r.1 p.1
  ·rfl
  ·rcases h.Tm _ q.1 _ e with c | c
   ·rw [b] at c; cases c
   ·rw [a] at c; cases c
theorem TN (h : SWO lt) {p q : α × Nat} (a : tl lt p q) (b : tl lt q p) : False := by
 have c := FU h a b
 rcases c with c | ⟨_, c⟩
 ·rw [h.WR] at c; cases c
 ·omega
abbrev qD (lt : α → α → Bool) (t : List (α × Nat)) : Prop := t.Pairwise (tl lt)
theorem J6 (h : SWO lt) : ∀ {t u : List (α × Nat)}, qD lt t → qD lt u → t.Perm u → t = u
 | [], u, _, _, hp => by rw [List.nil_perm] at hp; exact hp.symm
 | p :: t, [], _, _, hp => by simp at hp
 | p :: t, q :: u, h1, b, hp => by
  have e : p = q := by
   rcases aS.1 (hp.mem_iff.1 (.head _)) with e | c
   ·exact e
   ·rcases aS.1 (hp.mem_iff.2 (.head _)) with e | a
    ·exact e.symm
    ·exact (TN h ((cT.1 h1).1 _ a) ((cT.1 b).1 _ c)).elim
  subst e
  rw [J6 h (cT.1 h1).2 (cT.1 b).2 (List.Perm.cons_inv hp)]
def Jh (lt : α → α → Bool) (l : List α) (k : α) : List α := l.filter (fun x => !lt k x) ++ k :: l.filter (fun x => lt k x)
def NI (lt : α → α → Bool) (l : List α) : List α := l.foldl (Jh lt) []
def IS (lt : α → α → Bool) (t : List (α × Nat)) (k : α × Nat) : List (α × Nat) := t.filter (fun x => !lt k.1 x.1) ++ k :: t.filter (fun x => lt k.1 x.1)
theorem Si (t : List (α × Nat)) (k : α × Nat) : (IS lt t k).map (·.1) = Jh lt (t.map (·.1)) k.1 := by
 simp [IS, Jh, List.filter_map, iF]
theorem RM (t : List (α × Nat)) (k : α × Nat) : (IS lt t k).Perm (t ++ [k]) := by
 unfold IS
 refine List.perm_middle.trans ?_
 refine (List.Perm.cons _ ?_).trans (iO k t).symm
 have := List.filter_append_perm (fun x : α × Nat => !lt k.1 x.1) t
 simpa using this
theorem Td (h : SWO lt) {t : List (α × Nat)} {k : α × Nat} (g : qD lt t) (hk : ∀ x ∈ t, x.2 < k.2) : qD lt (IS lt t k) := by
 unfold IS qD
 rw [dG, cT]
 refine ⟨g.filter _, ⟨fun x b => ?_, g.filter _⟩, fun x b y c => ?_⟩
 ·exact .inl (bU.1 b).2
 ·obtain ⟨h1, d⟩ := bU.1 b
  simp only [gY, ] at d
  have a : tl lt x k := .inr ⟨d, hk x h1⟩
  rcases aS.1 c with rfl | c
  ·exact a
  ·exact FU h a (.inl (bU.1 c).2)
theorem Wr (h : SWO lt) (l : List α) : ∃ t, qD lt t ∧ t.Perm l.zipIdx ∧ t.map (·.1) = NI lt l := by
 suffices H : ∀ (l r : List α) (t : List (α × Nat)), qD lt t → t.Perm r.zipIdx → ∃ u, qD lt u ∧ u.Perm (r ++ l).zipIdx ∧ u.map (·.1) = l.foldl (Jh lt) (t.map (·.1)) by
  obtain ⟨u, h1, c, g⟩ := H l [] [] .nil (by simp)
  exact ⟨u, h1, by simpa using c, g⟩
 intro l
 induction l with
 | nil => intro r t h1 c; exact ⟨t, h1, by simpa using c, rfl⟩
 | cons k l ih =>
  intro r t h1 c
  obtain ⟨u, d, a2, a3⟩ := ih (r ++ [k]) (IS lt t (k, r.length)) (Td h h1 (fun x i => by
   obtain ⟨a, b⟩ := x
   have := List.snd_lt_of_mem_zipIdx (c.mem_iff.1 i)
   simpa using this)) ((RM t _).trans (by rw [List.zipIdx_append]; simpa using c.append_right _))
  refine ⟨u, d, by simpa using a2, ?_⟩
  rw [a3, Si]
  rfl
theorem Un (h : SWO lt) {l : List α} {t : List (α × Nat)} (h1 : qD lt t) (b : t.Perm l.zipIdx) : t.map (·.1) = NI lt l := by
 obtain ⟨u, a, a2, a3⟩ := Wr h l
 rw [← a3, J6 h h1 a (b.trans a2.symm)]
end
section
variable {α : Type} {lt : α → α → Bool}
abbrev Lk (lt : α → α → Bool) (A B : List (α × Nat)) : Prop := ∀ A' a b B', A = A' ++ [a] → B = b :: B' → tl lt a b
theorem CE (h : SWO lt) {A B : List (α × Nat)} (j : qD lt A) (k : qD lt B) (l : Lk lt A B) : ∀ a ∈ A, ∀ b ∈ B, tl lt a b := by
 intro a ha b c
 rcases eB A with rfl | ⟨A', z, rfl⟩
 ·cases ha
 cases B with
 | nil => cases c
 | cons y B' =>
  have h1 : tl lt z y := l A' z y B' (by simp) rfl
  have d : a = z ∨ tl lt a z := by
   simp only [fI, aQ, bP] at ha
   rcases ha with ha | ha
   ·refine .inr ?_
    simp only [fI, qD, dG] at j
    exact j.2.2 a ha z (by simp)
   ·exact .inl ha
  have g : b = y ∨ tl lt y b := by
   rcases aS.1 c with c | c
   ·exact .inl c
   ·exact .inr ((cT.1 k).1 b c)
  have i : tl lt a y := by
   rcases d with rfl | d
   ·exact h1
   ·exact FU h d h1
  rcases g with rfl | g
  ·exact i
  ·exact FU h i g
theorem MO (h : SWO lt) {A B : List (α × Nat)} (a : qD lt A) (b : qD lt B) (l : Lk lt A B) : qD lt (A ++ B) :=
 dG.2 ⟨a, b, CE h a b l⟩
theorem qD.left {A B : List (α × Nat)} (h : qD lt (A ++ B)) : qD lt A := (dG.1 h).1
theorem qD.right {A B : List (α × Nat)} (h : qD lt (A ++ B)) : qD lt B := (dG.1 h).2.1
theorem qD.two {A B : List (α × Nat)} (h : qD lt (A ++ B)) : ∀ a ∈ A, ∀ b ∈ B, tl lt a b := (dG.1 h).2.2
theorem KO (h : SWO lt) {A B : List (α × Nat)} {x : α × Nat} (d : qD lt (A ++ B)) (i : Lk lt A [x]) (j : Lk lt [x] B) : qD lt (A ++ x :: B) := by
 have h1 := CE h d.left (jj _ x) i
 have g := CE h (jj _ x) d.right j
 refine dG.2 ⟨d.left, cT.2 ⟨fun b c => g x (by simp) b c, d.right⟩, fun a ha b c => ?_⟩
 rcases aS.1 c with rfl | c
 ·exact h1 a ha _ (by simp)
 ·exact d.two a ha b c
theorem Uu (h : SWO lt) {A1 A2 B1 B2 C1 C2 : List (α × Nat)} (d : qD lt (A1 ++ A2)) (g : qD lt (B1 ++ B2)) (j : Lk lt A1 B2) (k : Lk lt B1 A2) (l : C1.Perm (A1 ++ B1)) (m : C2.Perm (A2 ++ B2)) (h1 : qD lt C1) (i : qD lt C2) : qD lt (C1 ++ C2) := by
 have x1 := CE h d.left g.right j
 have x2 := CE h g.left d.right k
 refine dG.2 ⟨h1, i, fun a ha b c => ?_⟩
 rcases aQ.1 (l.mem_iff.1 ha) with ha | ha <;> rcases aQ.1 (m.mem_iff.1 c) with c | c
 ·exact d.two a ha b c
 ·exact x1 a ha b c
 ·exact x2 a ha b c
 ·exact g.two a ha b c
end
section
variable {α : Type}
theorem HQ (p q : List α) (x y : α) : (p ++ x :: q).set p.length y = p ++ y :: q := by simp
theorem NL (p q : List α) (x y : α) (n : Nat) (h : n = p.length) : (p ++ x :: q).set n y = p ++ y :: q := by subst h; simp
theorem II (p m q : List α) (x y : α) : ((p ++ x :: (m ++ y :: q)).set p.length y).set (p.length + 1 + m.length) x = p ++ y :: (m ++ x :: q) := by
 rw [HQ]
 have : p ++ y :: (m ++ y :: q) = (p ++ y :: m) ++ y :: q := by simp
 rw [this, show p.length + 1 + m.length = (p ++ y :: m).length by simp; omega, HQ]
 simp
theorem Qt (p m q : List α) (x y : α) : ((p ++ x :: (m ++ y :: q)).set (p.length + 1 + m.length) x).set p.length y = p ++ y :: (m ++ x :: q) := by
 rw [List.set_comm _ _ (by omega), II]
theorem zq {l : List α} {n : Nat} (h : n ≤ l.length) : ∃ a b, l = a ++ b ∧ a.length = n := ⟨l.take n, l.drop n, (iE n l).symm, by simp [h]⟩
end
section
variable {c : Formula → Formula → Int} {G : Formula → Prop} {f : Formula × Formula → Option Int}
theorem PQ (x : Formula) : (⟨x.Op, x.K, x.lC, x.Kids⟩ : Formula) = x := by cases x; rfl
abbrev qt (c : Formula → Formula → Int) (x y : Formula) : Bool := decide (c x y < 0)
abbrev E8 (f : Formula × Formula → Option Int) (c : Formula → Formula → Int) (G : Formula → Prop) : Prop := ∀ x y, G x → G y → f (x, y) = some (c x y)
theorem Xp (u : E8 f c G) (pre : List Formula) (x : Formula) (w : G x) : ∀ (k : Nat) (P S : List Formula) (n : Nat) (j a : Int), P.length = k → k < n → (∀ y ∈ P, G y) → (pre ++ (P ++ x :: S)).length ≤ 1000000 → j = ((pre.length + P.length : Nat) : Int) → a = (pre.length : Int) →
  ∃ P1 P2, P = P1 ++ P2 ∧ nT a f n (pre ++ (P ++ x :: S)) j = some (pre ++ (P1 ++ x :: (P2 ++ S))) ∧ (∀ P' z, P1 = P' ++ [z] → qt c x z = false) ∧ (∀ y P', P2 = y :: P' → qt c x y = true) := by
 intro k
 induction k with
 | zero =>
  intro P S n j a hk v d l h ha
  obtain rfl := aW hk
  obtain ⟨n, rfl⟩ := aP (by omega : n ≠ 0)
  refine ⟨[], [], rfl, ?_, by simp, by simp⟩
  rw [nT]
  have : ¬ (j > a) := by rw [h, ha]; simp
  simp [this]
 | succ k ih =>
  intro P S n j a hk v d l h ha
  rcases eB P with rfl | ⟨P', z, rfl⟩
  ·simp at hk
  simp only [fI, aD, aO, bZ] at hk h l d ⊢
  obtain ⟨n, rfl⟩ := aP (by omega : n ≠ 0)
  have i : j > a := by omega
  have m : pre ++ (P' ++ [z] ++ x :: S) = (pre ++ P') ++ z :: x :: S := by simp
  have hw : wi0 .i64 (j - 1) = ((pre.length + P'.length : Nat) : Int) := by rw [ni (by omega) (by omega)]; omega
  have i1 : nG ((pre ++ P') ++ z :: x :: S) j = some x := by
   rw [show (pre ++ P') ++ z :: x :: S = (pre ++ P' ++ [z]) ++ x :: S by simp]
   exact oU _ _ _ _ (by simp; omega)
  have i2 : nG ((pre ++ P') ++ z :: x :: S) ((pre.length + P'.length : Nat) : Int) = some z := oU _ _ _ _ (by simp)
  have D : G z := d z (by simp)
  have t : ∀ y ∈ P', G y := fun y A => d y (by simp [A])
  have I : j.toNat = pre.length + P'.length + 1 := by omega
  rw [nT, m]
  simp only [i, cC, aU, i1, hw, i2, aA, u x z w D]
  by_cases g : c x z < 0
  ·simp only [g, cC, aU]
   have s1 : ((pre ++ P') ++ z :: x :: S).set j.toNat z = (pre ++ P') ++ z :: z :: S := by
    have := NL (pre ++ P' ++ [z]) S x z j.toNat (by simp; omega)
    simpa only [aR, iC, cJ, bK] using this
   have s2 : ((pre ++ P') ++ z :: z :: S).set (pre.length + P'.length) x = (pre ++ P') ++ x :: z :: S := by
    exact NL (pre ++ P') (z :: S) z x _ (by simp)
   have i3 : nG ((pre ++ P') ++ z :: z :: S) ((pre.length + P'.length : Nat) : Int) = some z := oU _ _ _ _ (by simp)
   rw [s1, i3, aA, eG, PQ, s2]
   have o : (pre ++ P') ++ x :: z :: S = pre ++ (P' ++ x :: (z :: S)) := by simp
   obtain ⟨P1, P2, h1, q, r, s⟩ := ih P' (z :: S) n ((pre.length + P'.length : Nat) : Int) a (by omega) (by omega) t (by simp; omega) rfl ha
   rw [o, q]
   refine ⟨P1, P2 ++ [z], by rw [h1]; simp, by simp, r, ?_⟩
   intro y Q b
   cases P2 with
   | nil =>
    simp only [bK, bL] at b
    rw [← b.1]; simp [qt, g]
   | cons F P2 =>
    simp only [cJ, bL] at b
    rw [← b.1]; exact s F P2 rfl
  ·simp only [g, cI, aB, aN]
   refine ⟨P' ++ [z], [], by simp, by simp, ?_, by simp⟩
   intro Q y b
   have := List.append_inj' b rfl
   simp only [bL, eW] at this
   rw [← this.2]; simp [qt, g]
theorem Tl (h : SWO (qt c)) (I : E8 f c G) (pre post : List Formula) (a b : Int) (ha : a = (pre.length : Int)) : ∀ (S t : List (Formula × Nat)) (n : Nat) (i : Int),
  S.length < n → qD (qt c) t → (∀ x ∈ t, ∀ y ∈ S, x.2 < y.2) → S.Pairwise (fun x y => x.2 < y.2) → (∀ x ∈ t ++ S, G x.1) → (pre ++ (t.map (·.1) ++ (S.map (·.1) ++ post))).length ≤ 1000000 →
  i = ((pre.length + t.length : Nat) : Int) → b = ((pre.length + t.length + S.length : Nat) : Int) →
  ∃ u, nI b a f n (pre ++ (t.map (·.1) ++ (S.map (·.1) ++ post))) i = some (pre ++ (u.map (·.1) ++ post)) ∧ qD (qt c) u ∧ u.Perm (t ++ S)
 | [], t, n, i, A, D, h1, F, q, w, J, r => by
  obtain ⟨n, rfl⟩ := aP (by simp at A; omega : n ≠ 0)
  rw [nI]
  simp only [bZ] at r
  have : ¬ (i < b) := by omega
  simp only [this, cI, aB, aN]
  exact ⟨t, by simp, D, by simp⟩
 | s :: S, t, n, i, A, D, h1, F, q, w, J, r => by
  simp only [aO] at A r
  obtain ⟨n, rfl⟩ := aP (by omega : n ≠ 0)
  rw [nI]
  have v : i < b := by omega
  simp only [v, cC, aU]
  have k := w
  simp only [aD, dE, aO] at k
  obtain ⟨P1, P2, O, P, Q, R⟩ := Xp I pre s.1 (q s (by simp)) (t.map (·.1)).length (t.map (·.1)) (S.map (·.1) ++ post) mR i a rfl (by rw [pa]; simp; omega)
   (fun y m => by obtain ⟨p, hp, rfl⟩ := bJ.1 m; exact q p (by simp [hp])) (by simpa using w) (by simp; omega) ha
  simp only [bM, cJ]
  rw [P, aA]
  obtain ⟨t1, t2, rfl, L, M⟩ := List.map_eq_append_iff.1 O
  have hlen : t1.length + t2.length = (t1 ++ t2).length := by simp
  have hw : wi0 .i64 (i + 1) = ((pre.length + (t1 ++ s :: t2).length : Nat) : Int) := by rw [ni (by omega) (by omega)]; simp at J ⊢; omega
  rw [hw]
  have l : qD (qt c) (t1 ++ s :: t2) := KO h D
   (fun A' z b B' j o => by
    simp only [bL] at o
    rw [← o.1]
    refine .inr ⟨Q (A'.map (·.1)) z.1 (by rw [← L, j]; simp), h1 z (by rw [j]; simp) s (by simp)⟩)
   (fun A' z b B' j o => by
    have U : z = s := by
     cases A' with
     | nil => simpa using j.symm
     | cons _ A' => simp at j
    rw [U]
    exact .inl (R b.1 (B'.map (·.1)) (by rw [← M, o]; simp)))
  have g := cT.1 F
  have T : pre ++ (P1 ++ s.1 :: (P2 ++ (S.map (·.1) ++ post))) = pre ++ ((t1 ++ s :: t2).map (·.1) ++ (S.map (·.1) ++ post)) := by rw [← L, ← M]; simp
  rw [T]
  obtain ⟨u, W, Y, Z⟩ := Tl h I pre post a b ha S (t1 ++ s :: t2) n _ (by omega) l
   (fun x d y m => by
    rcases aQ.1 d with d | d
    ·exact h1 x (by simp [d]) y (by simp [m])
    ·rcases aS.1 d with rfl | d
     ·exact g.1 y m
     ·exact h1 x (by simp [d]) y (by simp [m]))
   g.2 (fun x d => q x (by
    simp only [aQ, aS] at d ⊢
    rcases d with (d | d | d) | d
    ·exact .inl (.inl d)
    ·exact .inr (.inl d)
    ·exact .inl (.inr d)
    ·exact .inr (.inr d))) (by simp at k ⊢; omega) rfl (by simp at r ⊢; omega)
  refine ⟨u, W, Y, Z.trans ?_⟩
  simp only [aR, cJ]
  exact cF t1 (List.perm_middle.symm)
theorem O5 (h : SWO (qt c)) (o : E8 f c G) (pre post : List Formula) (S : List (Formula × Nat)) (a b : Int) (l : S.Pairwise (fun x y => x.2 < y.2)) (m : ∀ x ∈ S, G x.1) (k : (pre ++ (S.map (·.1) ++ post)).length ≤ 1000000) (ha : a = (pre.length : Int)) (j : b = ((pre.length + S.length : Nat) : Int)) :
  ∃ u, pe (pre ++ (S.map (·.1) ++ post)) a b f = some (pre ++ (u.map (·.1) ++ post)) ∧ qD (qt c) u ∧ u.Perm S := by
 unfold pe
 have g := k
 simp only [aD, dE] at g
 cases S with
 | nil =>
  refine ⟨[], ?_, .nil, .nil⟩
  obtain ⟨n, q⟩ := aP (by rw [pa]; omega : mR ≠ 0)
  rw [q, nI]
  have : ¬ (wi0 .i64 (a + 1) < b) := by rw [ni (by omega) (by omega)]; simp at j; omega
  simp [this]
 | cons s S =>
  simp only [aO] at j g
  have d := cT.1 l
  obtain ⟨u, t, v, w⟩ := Tl h o pre post a b ha S [s] mR (wi0 .i64 (a + 1)) (by rw [pa]; omega) (jj _ _) (fun x i y r => by simp at i; rw [i]; exact d.1 y r) d.2
   (fun x i => m x (by simpa using i)) (by simp at k ⊢; omega) (by rw [ni (by omega) (by omega)]; simp; omega) (by simp; omega)
  exact ⟨u, by simpa using t, v, by simpa using w⟩
end
section
variable {c : Formula → Formula → Int} {G : Formula → Prop} {f : Formula × Formula → Option Int}
theorem pB {x : Int} (n : Nat) (h : x = (n : Int)) (a : n ≤ 4000000) : wi0 .i64 x = (n : Int) := by rw [h, ni (by omega) (by omega)]
theorem V0 (p m q : List Formula) (a b N : Int) : ∀ (k : Nat) (X1 X2 Y1 Y2 : List Formula) (n : Nat) (i : Int), X2.length = k → Y2.length = k → X1.length = Y1.length → k < n → (p ++ (Y1 ++ (X2 ++ (m ++ (X1 ++ (Y2 ++ q)))))).length ≤ 1000000 →
  i = (X1.length : Int) → N = ((X1.length + k : Nat) : Int) → a = (p.length : Int) → b = ((p.length + X1.length + k + m.length : Nat) : Int) →
  oq N b a n (p ++ (Y1 ++ (X2 ++ (m ++ (X1 ++ (Y2 ++ q)))))) i = some (p ++ ((Y1 ++ Y2) ++ (m ++ ((X1 ++ X2) ++ q)))) := by
 intro k
 induction k with
 | zero =>
  intro X1 X2 Y1 Y2 n i h1 c s u l t h ha j
  obtain rfl := aW h1
  obtain rfl := aW c
  obtain ⟨n, rfl⟩ := aP (by omega : n ≠ 0)
  rw [oq]
  have : ¬ (i < N) := by omega
  simp [this]
 | succ k ih =>
  intro X1 X2 Y1 Y2 n i h1 c s u l t h ha j
  cases X2 with
  | nil => simp at h1
  | cons x X2 =>
  cases Y2 with
  | nil => simp at c
  | cons y Y2 =>
  simp only [aO, Nat.add_right_cancel_iff] at h1 c
  obtain ⟨n, rfl⟩ := aP (by omega : n ≠ 0)
  have g := l
  simp only [aD, aO] at g
  have d : i < N := by omega
  have v : wi0 .i64 (b + i) = (((p ++ Y1).length + 1 + (X2 ++ (m ++ X1)).length : Nat) : Int) := pB _ (by simp; omega) (by simp; omega)
  have w : wi0 .i64 (a + i) = ((p ++ Y1).length : Int) := pB _ (by simp; omega) (by simp; omega)
  have z : wi0 .i64 (i + 1) = ((X1 ++ [x]).length : Int) := pB _ (by simp; omega) (by simp; omega)
  have o : p ++ (Y1 ++ (x :: X2 ++ (m ++ (X1 ++ (y :: Y2 ++ q))))) = (p ++ Y1) ++ x :: ((X2 ++ (m ++ X1)) ++ y :: (Y2 ++ q)) := by simp
  have i1 : nG ((p ++ Y1) ++ x :: ((X2 ++ (m ++ X1)) ++ y :: (Y2 ++ q))) (((p ++ Y1).length + 1 + (X2 ++ (m ++ X1)).length : Nat) : Int) = some y := by
   have := oU ((p ++ Y1) ++ x :: (X2 ++ (m ++ X1))) y (Y2 ++ q) (((p ++ Y1).length + 1 + (X2 ++ (m ++ X1)).length : Nat) : Int) (by simp; omega)
   simpa using this
  have i2 : nG ((p ++ Y1) ++ x :: ((X2 ++ (m ++ X1)) ++ y :: (Y2 ++ q))) ((p ++ Y1).length : Int) = some x := oU _ _ _ _ rfl
  rw [oq, o]
  simp only [d, cC, aU, v, w, i1, i2, aA, eG, z]
  have i3 : nG (((p ++ Y1) ++ x :: ((X2 ++ (m ++ X1)) ++ y :: (Y2 ++ q))).set (p ++ Y1).length y) (((p ++ Y1).length + 1 + (X2 ++ (m ++ X1)).length : Nat) : Int) = some y := by
   rw [HQ]
   have := oU ((p ++ Y1) ++ y :: (X2 ++ (m ++ X1))) y (Y2 ++ q) (((p ++ Y1).length + 1 + (X2 ++ (m ++ X1)).length : Nat) : Int) (by simp; omega)
   simpa using this
  rw [i3, aA, PQ, II]
  have r : (p ++ Y1) ++ y :: ((X2 ++ (m ++ X1)) ++ x :: (Y2 ++ q)) = p ++ ((Y1 ++ [y]) ++ (X2 ++ (m ++ ((X1 ++ [x]) ++ (Y2 ++ q))))) := by simp
  rw [r, ih (X1 ++ [x]) X2 (Y1 ++ [y]) Y2 n _ h1 c (by simp; omega) (by omega) (by simp; omega) rfl (by rw [h]; simp; omega) ha (by rw [j]; simp; omega)]
  simp
theorem Ph (p m q X Y : List Formula) (a b N : Int) (h : X.length = Y.length) (d : (p ++ (X ++ (m ++ (Y ++ q)))).length ≤ 1000000) (g : N = (X.length : Int)) (ha : a = (p.length : Int)) (i : b = ((p.length + X.length + m.length : Nat) : Int)) :
  pb (p ++ (X ++ (m ++ (Y ++ q)))) a b N f = some (p ++ (Y ++ (m ++ (X ++ q)))) := by
 unfold pb
 have c := d
 simp only [aD] at c
 have := V0 p m q a b N X.length [] X [] Y mR 0 rfl h.symm rfl (by rw [pa]; omega) (by simpa using d) rfl (by simpa using g) ha (by rw [i]; simp)
 simpa using this
theorem Wc (M : Int) : ∀ (k : Nat) (A B p q : List Formula) (n : Nat) (i j : Int), A.length + B.length ≤ k → 0 < A.length → 0 < B.length → k < n → (p ++ (A ++ (B ++ q))).length ≤ 1000000 → i = (A.length : Int) → j = (B.length : Int) → M = ((p.length + A.length : Nat) : Int) →
  oF M f n (p ++ (A ++ (B ++ q))) i j = some (p ++ (B ++ (A ++ q))) := by
 intro k
 induction k with
 | zero => intro A B p q n i j h h1 r; omega
 | succ k ih =>
  intro A B p q n i j h h1 r F v b g t
  obtain ⟨n, rfl⟩ := aP (by omega : n ≠ 0)
  have a := v
  simp only [aD] at a
  rw [oF]
  by_cases he : A.length = B.length
  ·have : (i != j) = false := by rw [b, g, he]; simp
   simp only [this, aB, aN]
   have c : wi0 .i64 (M - i) = (p.length : Int) := pB _ (by omega) (by omega)
   have := Ph (f := f) p [] q A B (p.length : Int) M i he (by simpa using v) b rfl (by rw [t]; simp)
   simp only [bK] at this
   rw [c, this]; rfl
  ·have m : (i != j) = true := by rw [b, g]; simp; omega
   simp only [m, aU]
   by_cases u : i > j
   ·simp only [u, cC, aU]
    obtain ⟨X, Y, rfl, D⟩ := zq (l := A) (n := B.length) (by omega)
    simp only [aD] at b h t a
    have c : wi0 .i64 (M - i) = (p.length : Int) := pB _ (by omega) (by omega)
    have s := Ph (f := f) p Y q X B (p.length : Int) M j (by omega) (by simp; omega) (by omega) rfl (by omega)
    have d : p ++ (X ++ Y ++ (B ++ q)) = p ++ (X ++ (Y ++ (B ++ q))) := by simp
    have o : wi0 .i64 (i - j) = (Y.length : Int) := pB _ (by omega) (by omega)
    rw [d, c, s, aA, o]
    have w : p ++ (B ++ (Y ++ (X ++ q))) = (p ++ B) ++ (Y ++ (X ++ q)) := by simp
    rw [w, ih Y X (p ++ B) q n _ j (by omega) (by omega) (by omega) (by omega) (by simp; omega) rfl (by omega) (by simp; omega)]
    simp
   ·simp only [u, cI, aB, aN]
    obtain ⟨Z, V, rfl, x⟩ := zq (l := B) (n := B.length - A.length) (by omega)
    simp only [aD] at g h a x r he
    have c : wi0 .i64 (M - i) = (p.length : Int) := pB _ (by omega) (by omega)
    have y : wi0 .i64 (M + j) = ((p.length + A.length + (Z.length + V.length) : Nat) : Int) := pB _ (by omega) (by omega)
    have z : wi0 .i64 (((p.length + A.length + (Z.length + V.length) : Nat) : Int) - i) = ((p.length + A.length + Z.length : Nat) : Int) := pB _ (by omega) (by omega)
    have s := Ph (f := f) p Z q A V (p.length : Int) ((p.length + A.length + Z.length : Nat) : Int) i (by omega) (by simp; omega) b rfl rfl
    have d : p ++ (A ++ (Z ++ V ++ q)) = p ++ (A ++ (Z ++ (V ++ q))) := by simp
    have o : wi0 .i64 (j - i) = (Z.length : Int) := pB _ (by omega) (by omega)
    rw [d, c, y, z, s, aA, o]
    rw [show p ++ (V ++ (Z ++ (A ++ q))) = p ++ (V ++ (Z ++ (A ++ q))) from rfl, ih V Z p (A ++ q) n i _ (by omega) (by omega) (by omega) (by omega) (by simp; omega) (by omega) rfl (by omega)]
    simp
theorem XT (A B p q : List Formula) (a m b : Int) (h1 : 0 < A.length) (g : 0 < B.length) (d : (p ++ (A ++ (B ++ q))).length ≤ 1000000) (ha : a = (p.length : Int)) (hm : m = ((p.length + A.length : Nat) : Int)) (h : b = ((p.length + A.length + B.length : Nat) : Int)) :
  oQ (p ++ (A ++ (B ++ q))) a m b f = some (p ++ (B ++ (A ++ q))) := by
 unfold oQ
 have c := d
 simp only [aD] at c
 rw [pB A.length (by omega) (by omega), pB B.length (by omega) (by omega)]
 exact Wc m (A.length + B.length) A B p q mR _ _ (bA _) h1 g (by rw [pa]; omega) d rfl rfl hm
end
section
variable {c : Formula → Formula → Int} {G : Formula → Prop} {f : Formula × Formula → Option Int}
theorem FH {x : Int} (n : Nat) (h : x = (n : Int)) (b : n ≤ 4000000) : wi0 .i64 (Int.fdiv (IntKind.u64.wrap (wi0 .i64 x)) (2 ^ min (Int.toNat 1) (IntKind.bits .u64))) = ((n / 2 : Nat) : Int) := by
 rw [pB n h b]
 have a : IntKind.u64.wrap (n : Int) = (n : Int) := by
  simp only [IntKind.wrap, IntKind.signed, IntKind.bits]
  simp
  omega
 rw [a, show (2 ^ min (Int.toNat 1) (IntKind.bits .u64) : Int) = 2 from by decide, Int.fdiv_eq_ediv_of_nonneg _ (by decide), ni (by omega) (by omega)]
 omega
abbrev Ask (a0 : List Formula) (f : Formula × Formula → Option Int) (p q : Int) (b : Bool) : Prop := ∃ x y r, nG a0 p = some x ∧ nG a0 q = some y ∧ f (x, y) = some r ∧ decide (r < 0) = b
theorem XD (a0 : List Formula) (o : Int) (b : Nat → Bool) (c a : Nat) (G : a ≤ 1000000) (u : ∀ h, c ≤ h → h < a → Ask a0 f (h : Int) o (b h)) : ∀ (d n i j : Nat), j - i ≤ d → d < n → c ≤ i → i ≤ j → j ≤ a → (i = c ∨ b (i - 1) = true) → (j = a ∨ b j = false) →
  ∃ t J, c ≤ t ∧ t ≤ a ∧ (t = c ∨ b (t - 1) = true) ∧ (t = a ∨ b t = false) ∧ nB a0 o f n (i : Int) (j : Int) = nB a0 o f (J + 1) (t : Int) (t : Int) := by
 intro d
 induction d with
 | zero =>
  intro n i j h1 I g D k l m
  obtain ⟨n, rfl⟩ := aP (by omega : n ≠ 0)
  obtain rfl : i = j := by omega
  exact ⟨i, n, g, k, l, m, rfl⟩
 | succ d ih =>
  intro n i j h1 I g D k l m
  obtain ⟨n, rfl⟩ := aP (by omega : n ≠ 0)
  by_cases q : i = j
  ·subst q; exact ⟨i, n, g, k, l, m, rfl⟩
  have F := FH (i + j) (x := (i : Int) + (j : Int)) (by omega) (by omega)
  obtain ⟨x, y, r, v, w, z, A⟩ := u ((i + j) / 2) (by omega) (by omega)
  rw [nB]
  have s : ((i : Int) < (j : Int)) := by omega
  simp only [s, cC, aU, F, v, w, z, A, aA]
  cases hp : b ((i + j) / 2)
  ·simp only [aB, aN]
   exact ih n i ((i + j) / 2) (by omega) (by omega) g (by omega) (by omega) l (.inr hp)
  ·simp only [aU]
   rw [pB ((i + j) / 2 + 1) (by omega) (by omega)]
   exact ih n ((i + j) / 2 + 1) j (by omega) (by omega) (by omega) (by omega) k (.inr (by simpa using hp)) m
theorem X5 (a0 : List Formula) (a2 : Int) (b : Nat → Bool) (c a : Nat) (F : a ≤ 1000000) (s : ∀ h, c ≤ h → h < a → Ask a0 f a2 (h : Int) (!b h)) : ∀ (d n i j : Nat), j - i ≤ d → d < n → c ≤ i → i ≤ j → j ≤ a → (i = c ∨ b (i - 1) = true) → (j = a ∨ b j = false) →
  ∃ t I, c ≤ t ∧ t ≤ a ∧ (t = c ∨ b (t - 1) = true) ∧ (t = a ∨ b t = false) ∧ nC a0 a2 f n (i : Int) (j : Int) = nC a0 a2 f (I + 1) (t : Int) (t : Int) := by
 intro d
 induction d with
 | zero =>
  intro n i j h1 G g A k l m
  obtain ⟨n, rfl⟩ := aP (by omega : n ≠ 0)
  obtain rfl : i = j := by omega
  exact ⟨i, n, g, k, l, m, rfl⟩
 | succ d ih =>
  intro n i j h1 G g A k l m
  obtain ⟨n, rfl⟩ := aP (by omega : n ≠ 0)
  by_cases o : i = j
  ·subst o; exact ⟨i, n, g, k, l, m, rfl⟩
  have D := FH (i + j) (x := (i : Int) + (j : Int)) (by omega) (by omega)
  obtain ⟨x, y, r, u, v, w, z⟩ := s ((i + j) / 2) (by omega) (by omega)
  rw [nC]
  have q : ((i : Int) < (j : Int)) := by omega
  simp only [q, cC, aU, D, u, v, w, z, aA, fV]
  cases hp : b ((i + j) / 2)
  ·simp only [aB, aN]
   exact ih n i ((i + j) / 2) (by omega) (by omega) g (by omega) (by omega) l (.inr hp)
  ·simp only [aU]
   rw [pB ((i + j) / 2 + 1) (by omega) (by omega)]
   exact ih n ((i + j) / 2 + 1) j (by omega) (by omega) (by omega) (by omega) k (.inr (by simpa using hp)) m
theorem WS (x : Formula) : ∀ (P Q R : List Formula) (n : Nat) (k i : Int), P.length < n → (Q ++ x :: (P ++ R)).length ≤ 1000000 → k = (Q.length : Int) → i = ((Q.length + P.length + 1 : Nat) : Int) → ox i n (Q ++ x :: (P ++ R)) k = some (Q ++ (P ++ x :: R))
 | [], Q, R, n, k, i, b, c, hk, a => by
  obtain ⟨n, rfl⟩ := aP (by simp at b; omega : n ≠ 0)
  simp only [aD, aO, bZ] at c a
  rw [ox, pB Q.length (by omega) (by omega)]
  have : ¬ (k < (Q.length : Int)) := by omega
  simp [this]
 | y :: P, Q, R, n, k, i, b, c, hk, a => by
  obtain ⟨n, rfl⟩ := aP (by simp at b; omega : n ≠ 0)
  simp only [aD, aO] at c a b
  have g : Q ++ x :: (y :: P ++ R) = Q ++ x :: ([] ++ y :: (P ++ R)) := rfl
  have h : wi0 .i64 (k + 1) = ((Q.length + 1 + ([] : List Formula).length : Nat) : Int) := pB _ (by simp; omega) (by simp; omega)
  have i1 : nG (Q ++ x :: ([] ++ y :: (P ++ R))) ((Q.length + 1 + ([] : List Formula).length : Nat) : Int) = some y := by
   have := oU (Q ++ [x]) y (P ++ R) ((Q.length + 1 + ([] : List Formula).length : Nat) : Int) (by simp)
   simpa using this
  have i2 : nG (Q ++ x :: ([] ++ y :: (P ++ R))) k = some x := oU _ _ _ _ hk
  rw [ox, pB (Q.length + P.length + 1) (by omega) (by omega), g]
  have d : k < ((Q.length + P.length + 1 : Nat) : Int) := by omega
  have kn : k.toNat = Q.length := by omega
  simp only [d, cC, aU, h, i1, i2, aA, kn]
  have i3 : nG ((Q ++ x :: ([] ++ y :: (P ++ R))).set Q.length y) ((Q.length + 1 + ([] : List Formula).length : Nat) : Int) = some y := by
   rw [HQ]
   have := oU (Q ++ [y]) y (P ++ R) ((Q.length + 1 + ([] : List Formula).length : Nat) : Int) (by simp)
   simpa using this
  rw [i3, aA, eG, PQ, II]
  have := WS x P (Q ++ [y]) R n ((Q.length + 1 + ([] : List Formula).length : Nat) : Int) i (by omega) (by simp; omega) (by simp) (by rw [a]; simp; omega)
  simpa using this
theorem XU (x : Formula) : ∀ (k : Nat) (S Q R : List Formula) (n : Nat) (j i : Int), S.length = k → k < n → (Q ++ (S ++ x :: R)).length ≤ 1000000 → j = ((Q.length + S.length : Nat) : Int) → i = (Q.length : Int) → ow i n (Q ++ (S ++ x :: R)) j = some (Q ++ x :: (S ++ R)) := by
 intro k
 induction k with
 | zero =>
  intro S Q R n j i hk l g a d
  obtain ⟨n, rfl⟩ := aP (by omega : n ≠ 0)
  obtain rfl := aW hk
  rw [ow]
  simp only [bZ, jX] at a
  have : ¬ (j > i) := by omega
  simp [this]
 | succ k ih =>
  intro S Q R n j i hk l g a d
  obtain ⟨n, rfl⟩ := aP (by omega : n ≠ 0)
  rcases eB S with rfl | ⟨S, z, rfl⟩
  ·simp at hk
  simp only [fI, aD, aO, bZ] at hk a g ⊢
  have h : Q ++ (S ++ [z] ++ x :: R) = (Q ++ S) ++ z :: ([] ++ x :: R) := by simp
  have o : wi0 .i64 (j - 1) = ((Q ++ S).length : Int) := pB _ (by simp; omega) (by simp; omega)
  have b : j = (((Q ++ S).length + 1 + ([] : List Formula).length : Nat) : Int) := by rw [a]; simp; omega
  have i1 : nG ((Q ++ S) ++ z :: ([] ++ x :: R)) j = some x := by
   have := oU (Q ++ S ++ [z]) x R j (by rw [b]; simp; omega)
   simpa using this
  have i2 : nG ((Q ++ S) ++ z :: ([] ++ x :: R)) ((Q ++ S).length : Int) = some z := oU _ _ _ _ rfl
  rw [ow, h]
  have c : j > i := by omega
  have m : j.toNat = (Q ++ S).length + 1 + ([] : List Formula).length := by omega
  simp only [c, cC, aU, o, i1, i2, aA, m]
  have i3 : nG (((Q ++ S) ++ z :: ([] ++ x :: R)).set ((Q ++ S).length + 1 + ([] : List Formula).length) z) ((Q ++ S).length : Int) = some z := by
   have : ((Q ++ S) ++ z :: ([] ++ x :: R)).set ((Q ++ S).length + 1 + ([] : List Formula).length) z = (Q ++ S) ++ z :: (z :: R) := by
    have := NL (Q ++ S ++ [z]) R x z ((Q ++ S).length + 1 + ([] : List Formula).length) (by simp; omega)
    simpa using this
   rw [this]; exact oU _ _ _ _ rfl
  rw [i3, aA, eG, PQ, Qt]
  have := ih S Q (z :: R) n ((Q ++ S).length : Int) i (by omega) (by omega) (by simp; omega) (by simp) d
  simpa using this
end
section
variable {c : Formula → Formula → Int} {G : Formula → Prop} {f : Formula × Formula → Option Int}
theorem W0 (a0 : List Formula) (g a3 a2 : Int) (rec : List Formula → Int → Int → Int → ((Formula × Formula) → Option Int) → Option (List Formula)) (mid m p : Nat) (k : g + a3 = ((2 * mid : Nat) : Int) ∨ g + a3 = ((2 * mid + 1 : Nat) : Int)) (hm : a2 = (m : Int)) (hp : p + 1 = mid + m) (c : Nat → Bool) (o a : Nat) (M : a ≤ 1000000) (P : mid ≤ 1000000) (O : mid + m ≤ 2000000) (hle : a ≤ p + 1) (A : ∀ h, o ≤ h → h < a → Ask a0 f ((p - h : Nat) : Int) (h : Int) (!c h)) : ∀ (d n i j : Nat), j - i ≤ d → d < n → o ≤ i → i ≤ j → j ≤ a → (i = o ∨ c (i - 1) = true) → (j = a ∨ c j = false) →
  ∃ t R, o ≤ t ∧ t ≤ a ∧ (t = o ∨ c (t - 1) = true) ∧ (t = a ∨ c t = false) ∧ nn a0 g a3 a2 f rec n (i : Int) (j : Int) = nn a0 g a3 a2 f rec (R + 1) (t : Int) (t : Int) := by
 have b : wi0 .i64 (Int.fdiv (IntKind.u64.wrap (wi0 .i64 (g + a3))) (2 ^ min (Int.toNat 1) (IntKind.bits .u64))) = (mid : Int) := by
  rcases k with h | h
  ·rw [FH _ h (by omega), show 2 * mid / 2 = mid by omega]
  ·rw [FH _ h (by omega), show (2 * mid + 1) / 2 = mid by omega]
 intro d
 induction d with
 | zero =>
  intro n i j h1 Q q J s u v
  obtain ⟨n, rfl⟩ := aP (by omega : n ≠ 0)
  obtain rfl : i = j := by omega
  exact ⟨i, n, q, s, u, v, rfl⟩
 | succ d ih =>
  intro n i j h1 Q q J s u v
  obtain ⟨n, rfl⟩ := aP (by omega : n ≠ 0)
  by_cases w : i = j
  ·subst w; exact ⟨i, n, q, s, u, v, rfl⟩
  have L := FH (i + j) (x := (i : Int) + (j : Int)) (by omega) (by omega)
  obtain ⟨x, y, r, D, F, G, I⟩ := A ((i + j) / 2) (by omega) (by omega)
  have T : wi0 .i64 ((mid : Int) + a2) = ((mid + m : Nat) : Int) := pB _ (by omega) (by omega)
  have U : wi0 .i64 (((mid + m : Nat) : Int) - 1) = (p : Int) := pB _ (by omega) (by omega)
  have W : wi0 .i64 ((p : Int) - (((i + j) / 2 : Nat) : Int)) = ((p - (i + j) / 2 : Nat) : Int) := pB _ (by omega) (by omega)
  rw [nn]
  have z : ((i : Int) < (j : Int)) := by omega
  simp only [z, cC, aU, L, b, T, U, W, D, F, G, I, aA, fV]
  cases l : c ((i + j) / 2)
  ·simp only [aB, aN]
   exact ih n i ((i + j) / 2) (by omega) (by omega) q (by omega) (by omega) u (.inr l)
  ·simp only [aU]
   rw [pB ((i + j) / 2 + 1) (by omega) (by omega)]
   exact ih n ((i + j) / 2 + 1) j (by omega) (by omega) (by omega) (by omega) s (.inr (by simpa using l)) v
theorem VT (a0 : List Formula) (b a3 a2 : Int) (rec : List Formula → Int → Int → Int → ((Formula × Formula) → Option Int) → Option (List Formula)) (mid m t n : Nat) (c : b + a3 = ((2 * mid : Nat) : Int) ∨ b + a3 = ((2 * mid + 1 : Nat) : Int)) (hm : a2 = (m : Int)) (o : mid ≤ 1000000) (k : mid + m ≤ 2000000) (v : t ≤ mid + m) :
  nn a0 b a3 a2 f rec (n + 1) (t : Int) (t : Int) =
   ((if t < m ∧ m < mid + m - t then oQ a0 (t : Int) a2 ((mid + m - t : Nat) : Int) f else some a0).bind fun l => ((if b < (t : Int) ∧ t < mid then rec l b (t : Int) (mid : Int) f else some l).bind fun l => if mid < mid + m - t ∧ ((mid + m - t : Nat) : Int) < a3 then rec l (mid : Int) ((mid + m - t : Nat) : Int) a3 f else some l)) := by
 have a : wi0 .i64 (Int.fdiv (IntKind.u64.wrap (wi0 .i64 (b + a3))) (2 ^ min (Int.toNat 1) (IntKind.bits .u64))) = (mid : Int) := by
  rcases c with h | h
  ·rw [FH _ h (by omega), show 2 * mid / 2 = mid by omega]
  ·rw [FH _ h (by omega), show (2 * mid + 1) / 2 = mid by omega]
 have s : wi0 .i64 ((mid : Int) + a2) = ((mid + m : Nat) : Int) := pB _ (by omega) (by omega)
 have u : wi0 .i64 (((mid + m : Nat) : Int) - (t : Int)) = ((mid + m - t : Nat) : Int) := pB _ (by omega) (by omega)
 rw [nn]
 simp only [Int.lt_irrefl, cI, aB, aN, a, s, u, pz]
 subst hm
 have d : ((t : Int) < (m : Int)) = (t < m) := by simp
 have g : ((m : Int) < ((mid + m - t : Nat) : Int)) = (m < mid + m - t) := by rw [jf]; omega
 have i : ((t : Int) < (mid : Int)) = (t < mid) := by simp
 have j : ((mid : Int) < ((mid + m - t : Nat) : Int)) = (mid < mid + m - t) := by rw [jf]; omega
 simp only [d, g, i, j]
 have key : ∀ (p q : Prop) [Decidable p] [Decidable q] (A B : Option (List Formula)), ((if decide p = true then some (decide q) else some false : Option Bool).bind fun x => if x = true then A else B) = if p ∧ q then A else B := by
  intro p q _ _ A B
  by_cases hp : p <;> by_cases r : q <;> simp [hp, r]
 simp only [key]
theorem P5 (p A q : List Formula) (h : Nat) (b : p.length ≤ h) (h1 : h < p.length + A.length) : ∃ x, A[h - p.length]? = some x ∧ nG (p ++ (A ++ q)) (h : Int) = some x := by
 obtain ⟨x, a⟩ : ∃ x, A[h - p.length]? = some x := ⟨_, dF (by omega)⟩
 refine ⟨x, a, ?_⟩
 rw [HT, gG b, iU (by omega), a]
end
section
variable {c : Formula → Formula → Int} {G : Formula → Prop} {f : Formula × Formula → Option Int}
theorem Gf {α : Type} {P A' : List α} {z : α} (S : List α) (h : P = A' ++ [z]) : (P ++ S)[P.length - 1]? = some z := by subst h; simp
theorem FW {α : Type} {S B' : List α} {z : α} (P : List α) (h : S = z :: B') : (P ++ S)[P.length]? = some z := by subst h; simp
theorem Bb {A : List (Formula × Nat)} {i : Nat} {z : Formula × Nat} (h : A[i]? = some z) : (A.map (·.1))[i]? = some z.1 := by simp [h]
theorem Wz (h : SWO (qt c)) (R : E8 f c G) (x : Formula × Nat) (B : List (Formula × Nat)) (pre post : List Formula) (a m b : Int) (J : qD (qt c) B) (W : ∀ y ∈ B, x.2 < y.2) (w : ∀ y ∈ x :: B, G y.1) (T : (pre ++ x.1 :: (B.map (·.1) ++ post)).length ≤ 400000) (ha : a = (pre.length : Int)) (hm : m = ((pre.length + 1 : Nat) : Int)) (Q : b = ((pre.length + 1 + B.length : Nat) : Int)) :
  ∃ u, nB (pre ++ x.1 :: (B.map (·.1) ++ post)) a f mR m b = some (pre ++ (u.map (·.1) ++ post)) ∧ qD (qt c) u ∧ u.Perm (x :: B) := by
 have r := T
 simp only [aD, aO, dE] at r
 let g : Nat → Bool := fun k => match (B.map (·.1))[k - (pre.length + 1)]? with | some y => qt c y x.1 | none => false
 have j : ∀ k, pre.length + 1 ≤ k → k < pre.length + 1 + B.length → Ask (pre ++ x.1 :: (B.map (·.1) ++ post)) f (k : Int) a (g k) := by
  intro k h1 h2
  obtain ⟨y, s, A⟩ := P5 (pre ++ [x.1]) (B.map (·.1)) post k (by simp; omega) (by simp; omega)
  have D : nG (pre ++ x.1 :: (B.map (·.1) ++ post)) (k : Int) = some y := by simpa using A
  have F : nG (pre ++ x.1 :: (B.map (·.1) ++ post)) a = some x.1 := oU _ _ _ _ ha
  have Y : G y := by
   obtain ⟨q, U, rfl⟩ := bJ.1 (dQ s)
   exact w q (by simp [U])
  refine ⟨y, x.1, _, D, F, R y x.1 Y (w x (by simp)), ?_⟩
  simp only [aD, aO, bZ] at s
  simp only [g, s]
 obtain ⟨t, n', t1, t2, t3, t4, e⟩ := XD (f := f) _ a g (pre.length + 1) (pre.length + 1 + B.length) (by omega) j B.length mR (pre.length + 1) (pre.length + 1 + B.length) (by omega) (by rw [pa]; omega) (bA _) (by omega) (bA _) (.inl rfl) (.inl rfl)
 rw [hm, Q, e, nB]
 simp only [Int.lt_irrefl, cI, aB, aN, pz]
 obtain ⟨P, S, rfl, L⟩ := zq (l := B) (n := t - (pre.length + 1)) (by omega)
 simp only [aD] at r t2 t4
 have I : pre ++ x.1 :: ((P ++ S).map (·.1) ++ post) = pre ++ x.1 :: (P.map (·.1) ++ (S.map (·.1) ++ post)) := by simp
 rw [I, WS x.1 (P.map (·.1)) pre (S.map (·.1) ++ post) mR a (t : Int) (by rw [pa]; simp; omega) (by simp; omega) ha (by simp; omega)]
 refine ⟨P ++ x :: S, by simp, KO h J ?_ ?_, gD⟩
 ·intro A' z v B' i d
  simp only [bL] at d
  rw [← d.1]
  have M : 0 < P.length := by rw [i]; simp
  have hp : g (t - 1) = true := by
   rcases t3 with t3 | t3
   ·omega
   ·exact t3
  have o := Bb (Gf S i)
  rw [show P.length - 1 = t - 1 - (pre.length + 1) by omega] at o
  simp only [g, o] at hp
  exact .inl hp
 ·intro A' z v B' i d
  have Z : z = x := by
   cases A' with
   | nil => simpa using i.symm
   | cons _ A' => simp at i
  rw [Z]
  have O : 0 < S.length := by rw [d]; simp
  have hp : g t = false := by
   rcases t4 with t4 | t4
   ·omega
   ·exact t4
  have o := Bb (FW P d)
  rw [L] at o
  simp only [g, o] at hp
  exact .inr ⟨hp, W v (by rw [d]; simp)⟩
theorem WM (h : SWO (qt c)) (O : E8 f c G) (y : Formula × Nat) (A : List (Formula × Nat)) (pre post : List Formula) (a m : Int) (I : qD (qt c) A) (T : ∀ x ∈ A, x.2 < y.2) (s : ∀ x ∈ y :: A, G x.1) (Q : (pre ++ (A.map (·.1) ++ y.1 :: post)).length ≤ 400000) (ha : a = (pre.length : Int)) (hm : m = ((pre.length + A.length : Nat) : Int)) :
  ∃ u, nC (pre ++ (A.map (·.1) ++ y.1 :: post)) m f mR a m = some (pre ++ (u.map (·.1) ++ post)) ∧ qD (qt c) u ∧ u.Perm (A ++ [y]) := by
 have o := Q
 simp only [aD, aO, dE] at o
 let g : Nat → Bool := fun k => match (A.map (·.1))[k - pre.length]? with | some x => !qt c y.1 x | none => false
 have i : ∀ k, pre.length ≤ k → k < pre.length + A.length → Ask (pre ++ (A.map (·.1) ++ y.1 :: post)) f m (k : Int) (!g k) := by
  intro k h1 Y
  obtain ⟨x, r, w⟩ := P5 pre (A.map (·.1)) (y.1 :: post) k h1 (by simp; omega)
  have D : nG (pre ++ (A.map (·.1) ++ y.1 :: post)) m = some y.1 := by
   have := oU (pre ++ A.map (·.1)) y.1 post m (by rw [hm]; simp)
   simpa using this
  have U : G x := by
   obtain ⟨q, R, rfl⟩ := bJ.1 (dQ r)
   exact s q (by simp [R])
  refine ⟨y.1, x, _, D, w, O y.1 x (s y (by simp)) U, ?_⟩
  simp only [g, r, fV]
 obtain ⟨t, Z, t1, t2, t3, t4, e⟩ := X5 (f := f) _ m g pre.length (pre.length + A.length) (by omega) i A.length mR pre.length (pre.length + A.length) (by omega) (by rw [pa]; omega) (bA _) (by omega) (bA _) (.inl rfl) (.inl rfl)
 rw [← hm, ← ha] at e
 rw [e, nC]
 simp only [Int.lt_irrefl, cI, aB, aN, pz]
 obtain ⟨P, S, rfl, J⟩ := zq (l := A) (n := t - pre.length) (by omega)
 simp only [aD] at o t2 t4 hm
 have F : pre ++ ((P ++ S).map (·.1) ++ y.1 :: post) = (pre ++ P.map (·.1)) ++ (S.map (·.1) ++ y.1 :: post) := by simp
 rw [F, XU y.1 S.length (S.map (·.1)) (pre ++ P.map (·.1)) post mR m (t : Int) (by simp) (by rw [pa]; omega) (by simp; omega) (by rw [hm]; simp; omega) (by simp; omega)]
 refine ⟨P ++ y :: S, by simp, KO h I ?_ ?_, List.perm_middle.trans (iO y (P ++ S)).symm⟩
 ·intro A' z v B' b d
  simp only [bL] at d
  rw [← d.1]
  have L : 0 < P.length := by rw [b]; simp
  have hp : g (t - 1) = true := by
   rcases t3 with t3 | t3
   ·omega
   ·exact t3
  have j := Bb (Gf S b)
  rw [show P.length - 1 = t - 1 - pre.length by omega] at j
  simp only [g, j, gY] at hp
  exact .inr ⟨hp, T z (by rw [b]; simp)⟩
 ·intro A' z v B' b d
  have W : z = y := by
   cases A' with
   | nil => simpa using b.symm
   | cons _ A' => simp at b
  rw [W]
  have M : 0 < S.length := by rw [d]; simp
  have hp : g t = false := by
   rcases t4 with t4 | t4
   ·omega
   ·exact t4
  have j := Bb (FW P d)
  rw [J] at j
  simp only [g, j, Bool.not_eq_false'] at hp
  exact .inl hp
theorem RW {α : Type} {A1 A2 B1 B2 C1 C2 : List α} (a : C1.Perm (A1 ++ B1)) (b : C2.Perm (A2 ++ B2)) : (C1 ++ C2).Perm ((A1 ++ A2) ++ (B1 ++ B2)) := by
 refine (a.append b).trans ?_
 simp only [aR]
 refine cF A1 ?_
 exact iI B1 A2 B2
def Tz (c : Formula → Formula → Int) (A B : List Formula) (a b p q : Nat) : Bool := match A[q - a]?, B[p - q - b]? with | some x, some y => !qt c y x | _, _ => false
theorem ML {A B : List Formula} {a b p q : Nat} {x y : Formula} (h1 : A[q - a]? = some x) (d : B[p - q - b]? = some y) : Tz c A B a b p q = !qt c y x := by simp only [Tz, h1, d]
theorem Xr (l : E8 f c G) (A B : List (Formula × Nat)) (pre post : List Formula) (a p : Nat) (m : a = pre.length + A.length) (h : ∀ x ∈ A ++ B, G x.1) (q : Nat) (r : pre.length ≤ q) (s : q < a) (t : a ≤ p - q) (u : p - q < a + B.length) :
  Ask (pre ++ (A.map (·.1) ++ (B.map (·.1) ++ post))) f ((p - q : Nat) : Int) (q : Int) (!Tz c (A.map (·.1)) (B.map (·.1)) pre.length a p q) := by
 obtain ⟨x, g, i⟩ := P5 pre (A.map (·.1)) (B.map (·.1) ++ post) q r (by simp; omega)
 obtain ⟨y, b, j⟩ := P5 (pre ++ A.map (·.1)) (B.map (·.1)) post (p - q) (by simp; omega) (by simp; omega)
 have n : G x := by
  obtain ⟨z, d, rfl⟩ := bJ.1 (dQ g)
  exact h z (by simp [d])
 have o : G y := by
  obtain ⟨z, d, rfl⟩ := bJ.1 (dQ b)
  exact h z (by simp [d])
 have k : nG (pre ++ (A.map (·.1) ++ (B.map (·.1) ++ post))) ((p - q : Nat) : Int) = some y := by simpa using j
 refine ⟨y, x, _, k, i, l y x o n, ?_⟩
 rw [show p - q - (pre ++ A.map (·.1)).length = p - q - a by simp; omega] at b
 rw [ML g b, fV]
abbrev XI (c : Formula → Formula → Int) (G : Formula → Prop) (f : Formula × Formula → Option Int) (rec : List Formula → Int → Int → Int → ((Formula × Formula) → Option Int) → Option (List Formula)) (k : Nat) : Prop :=
 ∀ (A B : List (Formula × Nat)) (pre post : List Formula) (a m b : Int), A.length + B.length ≤ k → 0 < A.length → 0 < B.length → qD (qt c) A → qD (qt c) B →
  (∀ x ∈ A, ∀ y ∈ B, x.2 < y.2) → (∀ x ∈ A ++ B, G x.1) → (pre ++ (A.map (·.1) ++ (B.map (·.1) ++ post))).length ≤ 400000 → a = (pre.length : Int) → m = ((pre.length + A.length : Nat) : Int) → b = ((pre.length + A.length + B.length : Nat) : Int) →
  ∃ u, rec (pre ++ (A.map (·.1) ++ (B.map (·.1) ++ post))) a m b f = some (pre ++ (u.map (·.1) ++ post)) ∧ qD (qt c) u ∧ u.Perm (A ++ B)
theorem VK (h : SWO (qt c)) {rec : List Formula → Int → Int → Int → ((Formula × Formula) → Option Int) → Option (List Formula)} {k : Nat} (ih : XI c G f rec k) (A1 A2 B1 B2 : List (Formula × Nat)) (pre post : List Formula) (a m b : Int) (mid d t : Nat) (O : d = pre.length + (A1.length + A2.length)) (Q : mid = (pre.length + (d + (B1.length + B2.length))) / 2) (L : A1.length = t - pre.length) (M : B1.length = mid - t) (R : pre.length ≤ t) (T : t ≤ mid) (U : t ≤ d) (hk : A1.length + A2.length + (B1.length + B2.length) ≤ k + 1) (P : 2 ≤ A1.length + A2.length + (B1.length + B2.length)) (o : qD (qt c) (A1 ++ A2)) (q : qD (qt c) (B1 ++ B2)) (J : ∀ x ∈ A1 ++ A2, ∀ y ∈ B1 ++ B2, x.2 < y.2) (I : ∀ x ∈ (A1 ++ A2) ++ (B1 ++ B2), G x.1) (hl : pre.length + (A1.length + A2.length + (B1.length + B2.length + post.length)) ≤ 400000) (ha : a = (pre.length : Int)) (hm : m = (d : Int)) (hb : b = ((d + (B1.length + B2.length) : Nat) : Int)) (W : Lk (qt c) A1 B2) (Y : Lk (qt c) B1 A2) :
  ∃ u, ((if t < d ∧ d < mid + d - t then oQ (pre ++ ((A1 ++ A2).map (·.1) ++ ((B1 ++ B2).map (·.1) ++ post))) (t : Int) m ((mid + d - t : Nat) : Int) f else some (pre ++ ((A1 ++ A2).map (·.1) ++ ((B1 ++ B2).map (·.1) ++ post)))).bind fun l =>
   ((if a < (t : Int) ∧ t < mid then rec l a (t : Int) (mid : Int) f else some l).bind fun l => if mid < mid + d - t ∧ ((mid + d - t : Nat) : Int) < b then rec l (mid : Int) ((mid + d - t : Nat) : Int) b f else some l)) = some (pre ++ (u.map (·.1) ++ post)) ∧ qD (qt c) u ∧ u.Perm ((A1 ++ A2) ++ (B1 ++ B2)) := by
 have Z : (if t < d ∧ d < mid + d - t then oQ (pre ++ ((A1 ++ A2).map (·.1) ++ ((B1 ++ B2).map (·.1) ++ post))) (t : Int) m ((mid + d - t : Nat) : Int) f else some (pre ++ ((A1 ++ A2).map (·.1) ++ ((B1 ++ B2).map (·.1) ++ post)))) =
   some (pre ++ (A1.map (·.1) ++ (B1.map (·.1) ++ (A2.map (·.1) ++ (B2.map (·.1) ++ post))))) := by
  by_cases i : t < d ∧ d < mid + d - t
  ·rw [aZ i]
   have := XT (f := f) (A2.map (·.1)) (B1.map (·.1)) (pre ++ A1.map (·.1)) (B2.map (·.1) ++ post) (t : Int) m ((mid + d - t : Nat) : Int) (by simp; omega) (by simp; omega) (by simp; omega) (by simp; omega) (by simp; omega) (by simp; omega)
   simpa using this
  ·rw [aY i]
   have : A2 = [] ∨ B1 = [] := by
    by_cases h1 : A2.length = 0
    ·exact .inl (aW h1)
    ·exact .inr (aW (by omega))
   rcases this with rfl | rfl <;> simp
 rw [Z, aA]
 have r2 : ∃ C1, (if a < (t : Int) ∧ t < mid then rec (pre ++ (A1.map (·.1) ++ (B1.map (·.1) ++ (A2.map (·.1) ++ (B2.map (·.1) ++ post))))) a (t : Int) (mid : Int) f else some (pre ++ (A1.map (·.1) ++ (B1.map (·.1) ++ (A2.map (·.1) ++ (B2.map (·.1) ++ post)))))) =
   some (pre ++ (C1.map (·.1) ++ (A2.map (·.1) ++ (B2.map (·.1) ++ post)))) ∧ qD (qt c) C1 ∧ C1.Perm (A1 ++ B1) := by
  by_cases i : a < (t : Int) ∧ t < mid
  ·rw [aZ i]
   exact ih A1 B1 pre (A2.map (·.1) ++ (B2.map (·.1) ++ post)) a t mid (by omega) (by omega) (by omega) o.left q.left (fun x g y A => J x (by simp [g]) y (by simp [A])) (fun x g => I x (by simp at g ⊢; rcases g with g | g <;> simp [g]))
    (by simp; omega) ha (by omega) (by omega)
  ·rw [aY i]
   refine ⟨A1 ++ B1, by simp, MO h o.left q.left (fun A' x y B' D F => ?_), .refl _⟩
   have g1 : 0 < A1.length := by rw [D]; simp
   have g2 : 0 < B1.length := by rw [F]; simp
   omega
 obtain ⟨C1, r, v, j⟩ := r2
 have s := j.length_eq
 simp only [aD] at s
 rw [r, aA]
 have r3 : ∃ C2, (if mid < mid + d - t ∧ ((mid + d - t : Nat) : Int) < b then rec (pre ++ (C1.map (·.1) ++ (A2.map (·.1) ++ (B2.map (·.1) ++ post)))) (mid : Int) ((mid + d - t : Nat) : Int) b f else some (pre ++ (C1.map (·.1) ++ (A2.map (·.1) ++ (B2.map (·.1) ++ post))))) =
   some ((pre ++ C1.map (·.1)) ++ (C2.map (·.1) ++ post)) ∧ qD (qt c) C2 ∧ C2.Perm (A2 ++ B2) := by
  by_cases i : mid < mid + d - t ∧ ((mid + d - t : Nat) : Int) < b
  ·rw [aZ i]
   have := ih A2 B2 (pre ++ C1.map (·.1)) post mid ((mid + d - t : Nat) : Int) b (by omega) (by omega) (by omega) o.right q.right (fun x g y A => J x (by simp [g]) y (by simp [A])) (fun x g => I x (by simp at g ⊢; rcases g with g | g <;> simp [g]))
    (by simp; omega) (by simp; omega) (by simp; omega) (by simp; omega)
   simpa using this
  ·rw [aY i]
   refine ⟨A2 ++ B2, by simp, MO h o.right q.right (fun A' x y B' D F => ?_), .refl _⟩
   have g1 : 0 < A2.length := by rw [D]; simp
   have g2 : 0 < B2.length := by rw [F]; simp
   omega
 obtain ⟨C2, w, z, n⟩ := r3
 rw [w]
 exact ⟨C1 ++ C2, by simp, Uu h o q W Y j n v z, RW j n⟩
theorem Sc (F : Nat) (G : 1000000 < F) (L : List Formula) (rec : List Formula → Int → Int → Int → ((Formula × Formula) → Option Int) → Option (List Formula)) (pl al g mid c p : Nat) (a b m : Int) (n : Nat → Bool) (u : 0 < al) (v : 0 < g) (z : pl + (al + g) ≤ 400000) (y : mid = (pl + (pl + al + g)) / 2) (w : c = pl + al) (hp : p + 1 = mid + c) (k : a + b = ((2 * mid : Nat) : Int) ∨ a + b = ((2 * mid + 1 : Nat) : Int)) (ha : a = (pl : Int)) (j : m = (c : Int)) (I : b = ((pl + al + g : Nat) : Int)) (h : ∀ q, pl ≤ q → q < c → c ≤ p - q → p - q < c + g → Ask L f ((p - q : Nat) : Int) (q : Int) (!n q)) :
  ∃ t l d o : Nat, (d = pl ∧ o = c ∧ c ≤ mid ∨ d + (pl + al + g) = mid + c ∧ o = mid ∧ mid < c) ∧ d ≤ t ∧ t ≤ o ∧ (t = d ∨ n (t - 1) = true) ∧ (t = o ∨ n t = false) ∧
    ((if decide (m > (mid : Int)) then some (wi0 .i64 (((mid + c : Nat) : Int) - b), (mid : Int)) else some (a, m) : Option (Int × Int)).bind fun x => nn L a b m f rec F x.1 x.2) =
     nn L a b m f rec (l + 1) (t : Int) (t : Int) := by
 by_cases s : mid < c
 ·obtain ⟨d, r⟩ : ∃ d : Nat, d + (pl + al + g) = mid + c := ⟨mid + c - (pl + al + g), by omega⟩
  obtain ⟨t, l, t1, t2, t3, t4, e⟩ := W0 (f := f) L a b m rec mid c p k j hp n d mid (by omega) (by omega) (by omega) (by omega) (fun q A D => h q (by omega) (by omega) (by omega) (by omega))
   (mid - d) F d mid (bA _) (by omega) (bA _) (by omega) (bA _) (.inl rfl) (.inl rfl)
  refine ⟨t, l, d, mid, .inr ⟨r, rfl, s⟩, t1, t2, t3, t4, ?_⟩
  have i : m > (mid : Int) := by omega
  simp only [i, cC, aU, aA]
  rw [pB d (by omega) (by omega), e]
 ·obtain ⟨t, l, t1, t2, t3, t4, e⟩ := W0 (f := f) L a b m rec mid c p k j hp n pl c (by omega) (by omega) (by omega) (by omega) (fun q A D => h q (by omega) (by omega) (by omega) (by omega))
   (c - pl) F pl c (bA _) (by omega) (bA _) (by omega) (bA _) (.inl rfl) (.inl rfl)
  refine ⟨t, l, pl, c, .inl ⟨rfl, rfl, by omega⟩, t1, t2, t3, t4, ?_⟩
  have i : ¬ (m > (mid : Int)) := by omega
  simp only [i, cI, aB, aN, aA]
  rw [← e, ← ha, ← j]
set_option maxHeartbeats 2000000 in
theorem Xv (h : SWO (qt c)) (hf : E8 f c G) : ∀ (k : Nat) (A B : List (Formula × Nat)) (pre post : List Formula) (n : Nat) (a m b : Int), A.length + B.length ≤ k → 0 < A.length → 0 < B.length → k < n → qD (qt c) A → qD (qt c) B →
  (∀ x ∈ A, ∀ y ∈ B, x.2 < y.2) → (∀ x ∈ A ++ B, G x.1) → (pre ++ (A.map (·.1) ++ (B.map (·.1) ++ post))).length ≤ 400000 → a = (pre.length : Int) → m = ((pre.length + A.length : Nat) : Int) → b = ((pre.length + A.length + B.length : Nat) : Int) →
  ∃ u, nK n (pre ++ (A.map (·.1) ++ (B.map (·.1) ++ post))) a m b f = some (pre ++ (u.map (·.1) ++ post)) ∧ qD (qt c) u ∧ u.Perm (A ++ B) := by
 intro k
 induction k with
 | zero => intro A B pre post n a m b h0 h1 h2; omega
 | succ k ih =>
  intro A B pre post n a m b h0 h1 h2 hn hA hB U T hl ha hm O
  obtain ⟨n, rfl⟩ := aP (by omega : n ≠ 0)
  have P := hl
  simp only [aD, dE] at P
  rw [nK]
  unfold ry
  by_cases c1 : A.length = 1
  ·obtain ⟨x, rfl⟩ := List.length_eq_one_iff.1 c1
   have : (wi0 .i64 (m - a) == 1) = true := by rw [pB 1 (by simp at hm; omega) (by omega)]; rfl
   simp only [this, aU]
   obtain ⟨u, u1, u2, u3⟩ := Wz h hf x B pre post a m b hB (fun y hy => U x (by simp) y hy) (fun y hy => T y (by simpa using hy)) (by simpa using hl) ha (by simpa using hm) (by simpa using O)
   exact ⟨u, by simpa using u1, u2, by simpa using u3⟩
  have n1 : (wi0 .i64 (m - a) == 1) = false := by rw [pB A.length (by omega) (by omega)]; simp; omega
  simp only [n1, aB, aN]
  by_cases c2 : B.length = 1
  ·obtain ⟨y, rfl⟩ := List.length_eq_one_iff.1 c2
   have : (wi0 .i64 (b - m) == 1) = true := by rw [pB 1 (by simp at O; omega) (by omega)]; rfl
   simp only [this, aU]
   obtain ⟨u, u1, u2, u3⟩ := WM h hf y A pre post a m hA (fun x W => U x W y (by simp)) (fun x W => T x (by simp at W ⊢; exact W.symm)) (by simpa using hl) ha hm
   exact ⟨u, by simpa using u1, u2, u3⟩
  have n2 : (wi0 .i64 (b - m) == 1) = false := by rw [pB B.length (by omega) (by omega)]; simp; omega
  simp only [n2, aB, aN]
  obtain ⟨F, hF, Z⟩ : ∃ F, F = mR ∧ 1000000 < F := ⟨mR, rfl, by rw [pa]; omega⟩
  rw [← hF]
  obtain ⟨mid, D⟩ : ∃ mid : Nat, mid = (pre.length + (pre.length + A.length + B.length)) / 2 := ⟨_, rfl⟩
  obtain ⟨d, j⟩ : ∃ d : Nat, d = pre.length + A.length := ⟨_, rfl⟩
  obtain ⟨p, hp⟩ : ∃ p : Nat, p + 1 = mid + d := ⟨mid + d - 1, by omega⟩
  have v : a + b = ((2 * mid : Nat) : Int) ∨ a + b = ((2 * mid + 1 : Nat) : Int) := by omega
  have I : wi0 .i64 (Int.fdiv (IntKind.u64.wrap (wi0 .i64 (a + b))) (2 ^ min (Int.toNat 1) (IntKind.bits .u64))) = (mid : Int) := by
   rcases v with h | h
   ·rw [FH _ h (by omega), show 2 * mid / 2 = mid by omega]
   ·rw [FH _ h (by omega), show (2 * mid + 1) / 2 = mid by omega]
  have w : m = (d : Int) := by omega
  have w1 : wi0 .i64 ((mid : Int) + m) = ((mid + d : Nat) : Int) := pB _ (by omega) (by omega)
  obtain ⟨J, o⟩ : ∃ J : Nat → Bool, J = Tz c (A.map (·.1)) (B.map (·.1)) pre.length d p := ⟨_, rfl⟩
  have M : ∀ q, pre.length ≤ q → q < d → d ≤ p - q → p - q < d + B.length → Ask (pre ++ (A.map (·.1) ++ (B.map (·.1) ++ post))) f ((p - q : Nat) : Int) (q : Int) (!J q) := fun q g i q3 q4 => by rw [o]; exact Xr hf A B pre post d p j T q g i q3 q4
  obtain ⟨t, n', lo, hi, a1, t1, t2, t3, t4, e⟩ := Sc (f := f) F Z (pre ++ (A.map (·.1) ++ (B.map (·.1) ++ post))) (nK n) pre.length A.length B.length mid d p a b m J (by omega) (by omega) (by omega) D j hp v ha w O M
  simp only [I, w1]
  rw [e, VT (f := f) _ a b m _ mid d t n' v w (by omega) (by omega) (by omega)]
  obtain ⟨A1, A2, rfl, L⟩ := zq (l := A) (n := t - pre.length) (by omega)
  obtain ⟨B1, B2, rfl, Y⟩ := zq (l := B) (n := mid - t) (by omega)
  simp only [aD] at h0 h1 h2 P t1 t2 t3 t4 a1 hm O j D
  have Q : ∀ q x y, ((A1 ++ A2).map (·.1))[q - pre.length]? = some x → ((B1 ++ B2).map (·.1))[p - q - d]? = some y → J q = !qt c y x := fun q x y r s => by rw [o]; exact ML r s
  have l1 : Lk (qt c) A1 B2 := by
   intro A' z b' B' g i
   have g1 : 0 < A1.length := by rw [g]; simp
   have g2 : 0 < B2.length := by rw [i]; simp
   have R : J (t - 1) = true := by
    rcases t3 with t3 | t3
    ·omega
    ·exact t3
   have r := Bb (Gf A2 g)
   have s := Bb (FW B1 i)
   rw [show A1.length - 1 = t - 1 - pre.length by omega] at r
   rw [show B1.length = p - (t - 1) - d by omega] at s
   rw [Q _ _ _ r s, gY] at R
   exact .inr ⟨R, U z (by rw [g]; simp) b' (by rw [i]; simp)⟩
  have l2 : Lk (qt c) B1 A2 := by
   intro A' z b' B' g i
   have g1 : 0 < B1.length := by rw [g]; simp
   have g2 : 0 < A2.length := by rw [i]; simp
   have R : J t = false := by
    rcases t4 with t4 | t4
    ·omega
    ·exact t4
   have r := Bb (Gf B2 g)
   have s := Bb (FW A1 i)
   rw [show B1.length - 1 = p - t - d by omega] at r
   rw [L] at s
   rw [Q _ _ _ s r, Bool.not_eq_false'] at R
   exact .inl R
  exact VK h (fun A B pre post a m b g i q3 => ih A B pre post n a m b g i q3 (by omega)) A1 A2 B1 B2 pre post a m b mid d t j (by rw [D]; congr 1; omega) L Y (by omega) (by omega) (by omega) (by omega) (by omega) hA hB U T (by omega) ha w (by rw [O]; congr 1; omega) l1 l2
end
section
variable {c : Formula → Formula → Int} {G : Formula → Prop} {f : Formula × Formula → Option Int}
def Aj (c : Formula → Formula → Int) : Nat → List (List (Formula × Nat)) → Prop
 | _, [] => True
 | o, A :: bs => qD (qt c) A ∧ (∀ x ∈ A, o ≤ x.2 ∧ x.2 < o + A.length) ∧ Aj c (o + A.length) bs
def WB (s : Nat) : List (List (Formula × Nat)) → Prop
 | [] => True
 | A :: bs => A.length ≤ s ∧ (bs ≠ [] → A.length = s) ∧ WB s bs
theorem Aj.append : ∀ {ds bs : List (List (Formula × Nat))} {o : Nat}, Aj c o (ds ++ bs) ↔ Aj c o ds ∧ Aj c (o + ds.flatten.length) bs
 | [], bs, o => by simp [Aj]
 | A :: ds, bs, o => by
  simp only [cJ, Aj, Aj.append (ds := ds), bV, aD, and_assoc, fL]
def fm (bs : List (List (Formula × Nat))) : List Formula := bs.flatten.map (·.1)
theorem LD (a b : List (List (Formula × Nat))) : fm (a ++ b) = fm a ++ fm b := by simp [fm]
theorem OS (A : List (Formula × Nat)) (b : List (List (Formula × Nat))) : fm (A :: b) = A.map (·.1) ++ fm b := by simp [fm]
theorem uj (a : List (List (Formula × Nat))) : (fm a).length = a.flatten.length := by unfold fm; rw [dE]
theorem RF (ds : List (List (Formula × Nat))) (C : List (Formula × Nat)) : (ds ++ [C]).flatten.length = ds.flatten.length + C.length := by rw [cY, aD]; simp only [bV, dM, bT]
theorem Vy (C : List (Formula × Nat)) (bs : List (List (Formula × Nat))) : fm ([C] ++ bs) = C.map (·.1) ++ fm bs := by simp [fm]
theorem H5 {R : List Formula} {o : Nat} {x : Formula × Nat} (h : x ∈ R.zipIdx o) : x.1 ∈ R := List.fst_mem_of_mem_zipIdx h
theorem WB.two {s : Nat} {A : List (Formula × Nat)} {bs : List (List (Formula × Nat))} (d : 0 < s) (h : WB s (A :: bs)) (c : s < (A :: bs).flatten.length) : A.length = s ∧ ∃ B a, bs = B :: a ∧ (B.length = s ∨ a = []) ∧ B.length ≤ s ∧ WB s a := by
 cases bs with
 | nil => simp at c; have := h.1; omega
 | cons B a =>
  refine ⟨h.2.1 (by simp), B, a, rfl, ?_, h.2.2.1, h.2.2.2.2⟩
  by_cases b : a = []
  ·exact .inr b
  ·exact .inl (h.2.2.2.1 b)
theorem NA (h : SWO (qt c)) (u : E8 f c G) {ds bs : List (List (Formula × Nat))} {A B : List (Formula × Nat)} (hO : Aj c 0 (ds ++ A :: B :: bs)) (s : ∀ x ∈ (ds ++ A :: B :: bs).flatten, G x.1) (i : (fm (ds ++ A :: B :: bs)).length ≤ 400000) (q : 0 < A.length) (r : 0 < B.length) (a m b : Int) (ha : a = (ds.flatten.length : Int)) (hm : m = ((ds.flatten.length + A.length : Nat) : Int)) (t : b = ((ds.flatten.length + A.length + B.length : Nat) : Int)) :
  ∃ C, nK mR (fm (ds ++ A :: B :: bs)) a m b f = some (fm ((ds ++ [C]) ++ bs)) ∧ Aj c 0 ((ds ++ [C]) ++ bs) ∧ C.Perm (A ++ B) := by
 obtain ⟨h1, o⟩ := Aj.append.1 hO
 obtain ⟨F, l, I, n, v⟩ := o
 have e : fm (ds ++ A :: B :: bs) = fm ds ++ (A.map (·.1) ++ (B.map (·.1) ++ fm bs)) := by rw [LD, OS, OS]
 rw [e] at i ⊢
 have j := i
 simp only [aD, dE, uj] at j
 obtain ⟨C, z, D, k⟩ := Xv h u (A.length + B.length) A B (fm ds) (fm bs) mR a m b (bA _) q r (by rw [pa]; omega) F I (fun x d y w => by have := (l x d).2; have := (n y w).1; omega)
  (fun x d => s x (by
   rw [cY, bV, bV, aQ, aQ, aQ]
   rcases aQ.1 d with d | d
   ·exact .inr (.inl d)
   ·exact .inr (.inr (.inl d)))) i (by rw [ha, uj]) (by rw [hm, uj]) (by rw [t, uj])
 have g := k.length_eq
 simp only [aD] at g
 refine ⟨C, by rw [z, aR, LD, Vy], ?_, k⟩
 ·rw [aR, Aj.append]
  refine ⟨h1, D, fun x d => ?_, ?_⟩
  ·rcases aQ.1 (k.mem_iff.1 d) with d | d
   ·have := l x d; omega
   ·have := n x d; omega
  ·rw [g, ← fL]; exact v
theorem M0 {ds bs : List (List (Formula × Nat))} {A B C : List (Formula × Nat)} (h : C.Perm (A ++ B)) : ((ds ++ [C]) ++ bs).flatten.Perm (ds ++ A :: B :: bs).flatten := by
 simp only [cY, bV, dM, bT, aR]
 refine cF _ ?_
 rw [← aR]
 exact h.append_right _
theorem TR (h : SWO (qt c)) (P : E8 f c G) (s : Nat) (R : 0 < s) (T : s ≤ 1000000) (N : Nat) (hN : N ≤ 400000) : ∀ (k : Nat) (bs ds : List (List (Formula × Nat))) (n : Nat) (a b : Int), bs.length ≤ k → k < n → Aj c 0 (ds ++ bs) → (∀ x ∈ (ds ++ bs).flatten, G x.1) → (ds ++ bs).flatten.length = N → WB s bs → (∀ A ∈ ds, A.length = 2 * s) →
  a = (ds.flatten.length : Int) → b = ((ds.flatten.length + 2 * s : Nat) : Int) →
  ∃ es r, oC (N : Int) (s : Int) f n (fm (ds ++ bs)) a b = some (fm (es ++ r), (es.flatten.length : Int)) ∧ Aj c 0 (es ++ r) ∧ (es ++ r).flatten.Perm (ds ++ bs).flatten ∧ WB s r ∧ r.flatten.length < 2 * s ∧ (∀ A ∈ es, A.length = 2 * s) := by
 intro k
 induction k with
 | zero =>
  intro bs ds n a b hk Q hO q j t l ha M
  obtain ⟨n, rfl⟩ := aP (by omega : n ≠ 0)
  obtain rfl := aW (Nat.le_zero.1 hk)
  simp only [bT] at j
  rw [oC]
  have : ¬ (b ≤ (N : Int)) := by omega
  simp only [this, cI, aB, aN]
  exact ⟨ds, [], by rw [ha], hO, .refl _, trivial, by simp only [dM, bZ]; omega, l⟩
 | succ k ih =>
  intro bs ds n a b hk Q hO q j t l ha M
  obtain ⟨n, rfl⟩ := aP (by omega : n ≠ 0)
  rw [oC]
  by_cases hle : b ≤ (N : Int)
  ·simp only [hle, cC, aU]
   have d := j
   rw [cY, aD] at d
   cases bs with
   | nil => simp only [dM, bZ] at d; omega
   | cons A bs =>
    obtain ⟨hA, B, i, rfl, m, J, u⟩ := WB.two R t (by omega)
    have L : B.length = s := by
     rcases m with m | rfl
     ·exact m
     ·simp only [bV, dM, bT, aD] at d; omega
    have Z : wi0 .i64 (a + (s : Int)) = ((ds.flatten.length + A.length : Nat) : Int) := pB _ (by omega) (by omega)
    obtain ⟨C, W, Y, v⟩ := NA h P hO q (by rw [uj]; omega) (by omega) (by omega) a _ b ha Z (by omega)
    rw [W, aA]
    have o := v.length_eq
    simp only [aD] at o
    have w2 : wi0 .i64 (2 * (s : Int)) = ((2 * s : Nat) : Int) := pB _ (by omega) (by omega)
    have O : (ds ++ [C]).flatten.length = ds.flatten.length + 2 * s := by rw [RF]; omega
    have w3 : wi0 .i64 (b + ((2 * s : Nat) : Int)) = (((ds ++ [C]).flatten.length + 2 * s : Nat) : Int) := pB _ (by omega) (by omega)
    have hp := M0 (ds := ds) (bs := i) v
    rw [w2, w3]
    obtain ⟨es, r, w, y, z, D, F, I⟩ := ih i (ds ++ [C]) n b _ (by simp at hk; omega) (by omega) Y (fun x U => q x (hp.mem_iff.1 U)) (by rw [hp.length_eq, j]) u (fun X g => by
     rcases aQ.1 g with g | g
     ·exact l X g
     ·simp at g; rw [g]; omega) (by rw [O]; omega) rfl
    exact ⟨es, r, w, y, z.trans hp, D, F, I⟩
  ·simp only [hle, cI, aB, aN]
   refine ⟨ds, bs, by rw [ha], hO, .refl _, t, ?_, l⟩
   rw [cY, aD] at j
   omega
theorem WB.J3 {t : Nat} : ∀ {es : List (List (Formula × Nat))} {C : List (Formula × Nat)}, (∀ A ∈ es, A.length = t) → C.length ≤ t → WB t (es ++ [C])
 | [], C, _, a => ⟨a, fun h => absurd rfl h, trivial⟩
 | E :: es, C, h, a => ⟨by rw [h E (by simp)]; omega, fun _ => h E (by simp), WB.J3 (fun A b => h A (by simp [b])) a⟩
theorem Qm {s : Nat} {r : List (List (Formula × Nat))} {o : Nat} (b : WB s r) (d : r.flatten.length ≤ s) (hO : Aj c o r) : qD (qt c) r.flatten ∧ ∀ x ∈ r.flatten, o ≤ x.2 ∧ x.2 < o + r.flatten.length := by
 cases r with
 | nil => exact ⟨.nil, fun x g => by cases g⟩
 | cons A r =>
  have : r.flatten = [] := by
   by_cases a : r = []
   ·rw [a]; rfl
   ·have := b.2.1 a
    rw [bV, aD] at d
    exact aW (by omega)
  rw [bV, this, bT]
  exact ⟨hO.1, hO.2.1⟩
theorem SA (h : SWO (qt c)) (T : E8 f c G) (N : Nat) (hN : N ≤ 400000) : ∀ (k s : Nat) (bs : List (List (Formula × Nat))) (n : Nat), N - s ≤ k → k < n → 0 < s → s ≤ 1000000 → Aj c 0 bs → (∀ x ∈ bs.flatten, G x.1) → bs.flatten.length = N → WB s bs →
  ∃ u, od (N : Int) f n (fm bs) (s : Int) = some (u.map (·.1)) ∧ qD (qt c) u ∧ u.Perm bs.flatten := by
 intro k
 induction k with
 | zero =>
  intro s bs n hk hn F m hO l i b
  obtain ⟨n, rfl⟩ := aP (by omega : n ≠ 0)
  rw [od]
  have : ¬ ((s : Int) < (N : Int)) := by omega
  simp only [this, cI, aB, aN]
  refine ⟨bs.flatten, rfl, ?_, .refl _⟩
  cases bs with
  | nil => exact .nil
  | cons A bs =>
   have : bs.flatten = [] := by
    by_cases d : bs = []
    ·rw [d]; rfl
    ·have := b.2.1 d
     rw [bV, aD] at i
     exact aW (by omega)
   rw [bV, this, bT]
   exact hO.1
 | succ k ih =>
  intro s bs n hk hn F m hO l i b
  by_cases a8 : s < N
  ·obtain ⟨n, rfl⟩ := aP (by omega : n ≠ 0)
   rw [od]
   have : ((s : Int) < (N : Int)) := by omega
   simp only [this, cC, aU]
   have w1 : wi0 .i64 (2 * (s : Int)) = ((2 * s : Nat) : Int) := pB _ (by omega) (by omega)
   have w0 : wi0 .i64 ((s : Int) * 2) = ((2 * s : Nat) : Int) := pB _ (by omega) (by omega)
   have a7 : bs.length ≤ 2000000 := by
    have : ∀ {bs : List (List (Formula × Nat))}, WB s bs → bs.length ≤ bs.flatten.length + 1 := by
     intro bs
     induction bs with
     | nil => intro _; simp
     | cons A bs I =>
      intro b
      by_cases d : bs = []
      ·subst d; simp
      ·have := b.2.1 d
       have := I b.2.2
       simp only [aO, bV, aD]
       omega
    have := this b
    omega
   obtain ⟨es, r, M, O, a, P, Q, R⟩ := TR h T s F m N hN bs.length bs [] mR 0 ((2 * s : Nat) : Int) (bA _) (by rw [pa]; omega) (by simpa using hO) (by simpa using l) (by simpa using i) b (by simp) rfl (by simp)
   simp only [bK] at M a
   rw [w1, M, aA, w0]
   have j := a.length_eq
   rw [i, cY, aD] at j
   have w2 : wi0 .i64 ((es.flatten.length : Int) + (s : Int)) = ((es.flatten.length + s : Nat) : Int) := pB _ (by omega) (by omega)
   simp only [w2]
   by_cases hm : es.flatten.length + s < N
   ·have : (((es.flatten.length + s : Nat) : Int) < (N : Int)) := by omega
    simp only [this, cC, aU, pz]
    cases r with
    | nil => simp only [dM, bZ] at j; omega
    | cons A r =>
     obtain ⟨hA, B, Y, rfl, q, a1, a6⟩ := WB.two F P (by omega)
     have D : Y = [] := by
      rcases q with q | q
      ·by_cases hr : Y = []
       ·exact hr
       ·simp only [bV, aD] at Q; omega
      ·exact q
     subst D
     simp only [bV, dM, bT, aD] at j Q
     obtain ⟨C, q1, U, W⟩ := NA h T O (fun x o => l x (a.mem_iff.1 o)) (by rw [uj, a.length_eq]; omega) (by omega) (by omega) (es.flatten.length : Int) ((es.flatten.length + s : Nat) : Int) (N : Int) rfl (by omega) (by omega)
     rw [q1, aA]
     have v := W.length_eq
     simp only [aD] at v
     have hp := (M0 (ds := es) (bs := []) W).trans a
     simp only [bT] at U hp ⊢
     obtain ⟨u, J, L, t⟩ := ih (2 * s) (es ++ [C]) n (by omega) (by omega) (by omega) (by omega) U (fun x o => l x (hp.mem_iff.1 o)) (by rw [hp.length_eq, i]) (WB.J3 R (by omega))
     exact ⟨u, J, L, t.trans hp⟩
   ·have : ¬ (((es.flatten.length + s : Nat) : Int) < (N : Int)) := by omega
    simp only [this, cI, aB, aN, aA]
    obtain ⟨w, y⟩ := Aj.append.1 O
    obtain ⟨Z, b2⟩ := Qm P (by omega) y
    have z : fm (es ++ r) = fm (es ++ [r.flatten]) := by simp [fm]
    have g : (es ++ [r.flatten]).flatten = (es ++ r).flatten := by simp
    rw [z]
    obtain ⟨u, J, L, t⟩ := ih (2 * s) (es ++ [r.flatten]) n (by omega) (by omega) (by omega) (by omega) (Aj.append.2 ⟨w, Z, b2, trivial⟩) (fun x o => l x (a.mem_iff.1 (by rw [← g]; exact o))) (by rw [g, a.length_eq, i]) (WB.J3 R (by omega))
    exact ⟨u, J, L, by rw [g] at t; exact t.trans a⟩
  ·obtain ⟨n, rfl⟩ := aP (by omega : n ≠ 0)
   rw [od]
   have : ¬ ((s : Int) < (N : Int)) := by omega
   simp only [this, cI, aB, aN]
   refine ⟨bs.flatten, rfl, ?_, .refl _⟩
   cases bs with
   | nil => exact .nil
   | cons A bs =>
    have : bs.flatten = [] := by
     by_cases d : bs = []
     ·rw [d]; rfl
     ·have := b.2.1 d
      rw [bV, aD] at i
      exact aW (by omega)
    rw [bV, this, bT]
    exact hO.1
theorem KX : ∀ (l : List Formula) (o : Nat), (l.zipIdx o).Pairwise (fun x y => x.2 < y.2)
 | [], o => by simp
 | x :: l, o => by
  rw [lb, cT]
  refine ⟨fun y c => ?_, KX l (o + 1)⟩
  obtain ⟨a, b⟩ := y
  have := List.le_snd_of_mem_zipIdx c
  simp only at this ⊢; omega
theorem Oy (l : List Formula) (o : Nat) : ∀ x ∈ l.zipIdx o, o ≤ x.2 ∧ x.2 < o + l.length := by
 rintro ⟨a, b⟩ c
 have h1 := List.le_snd_of_mem_zipIdx c
 have d := List.snd_lt_add_of_mem_zipIdx c
 simp only at h1 d ⊢; omega
theorem QD (h : SWO (qt c)) (k : E8 f c G) (N : Nat) (s : N ≤ 300000) (R : List Formula) (ds : List (List (Formula × Nat))) (n : Nat) (a b : Int) (y : 0 < n) (hO : Aj c 0 ds) (m : ∀ A ∈ ds, A.length = 20) (o : ∀ x ∈ ds.flatten, G x.1) (j : ∀ x ∈ R, G x) (w : ds.flatten.length + R.length = N) (q : R.length < 20) (ha : a = (ds.flatten.length : Int)) (t : b = ((ds.flatten.length + 20 : Nat) : Int)) :
  ∃ u, oe (N : Int) f n (fm ds ++ R) a b = some (u.map (·.1)) ∧ qD (qt c) u ∧ u.Perm (ds.flatten ++ R.zipIdx ds.flatten.length) := by
 obtain ⟨n, rfl⟩ := aP (by omega : n ≠ 0)
 rw [oe]
 have hle : ¬ (b ≤ (N : Int)) := by omega
 simp only [hle, cI, aB, aN, pz]
 obtain ⟨u, l, r, g⟩ := O5 h k (fm ds) [] (R.zipIdx ds.flatten.length) a (N : Int) (KX _ _) (fun x d => j x.1 (H5 d)) (by simp only [aD, uj, dE, fK, bZ]; omega) (by rw [uj]; exact ha) (by rw [uj, fK]; omega)
 rw [List.zipIdx_map_fst, bT, bT] at l
 have i := g.length_eq
 rw [fK] at i
 have e : fm ds ++ u.map (·.1) = fm (ds ++ [u]) := by simp [fm]
 have hp : (ds ++ [u]).flatten.Perm (ds.flatten ++ R.zipIdx ds.flatten.length) := by
  rw [cY]
  refine cF _ ?_
  simpa using g
 rw [l, aA, e]
 obtain ⟨v, v1, v2, v3⟩ := SA h k N (by omega) N 20 (ds ++ [u]) mR (by omega) (by rw [pa]; omega) (by omega) (by omega) (Aj.append.2 ⟨hO, r, fun x d => by have := Oy R ds.flatten.length x (g.mem_iff.1 d); omega, trivial⟩) (fun x d => by
  rw [cY, aQ] at d
  rcases d with d | d
  ·exact o x d
  ·simp only [bV, dM, bT] at d
   exact j x.1 (H5 (g.mem_iff.1 d))) (by rw [hp.length_eq, aD, fK]; omega) (WB.J3 m (by omega))
 exact ⟨v, v1, v2, v3.trans hp⟩
theorem SK (h : SWO (qt c)) (w : E8 f c G) (N : Nat) (D : N ≤ 300000) : ∀ (k : Nat) (R : List Formula) (ds : List (List (Formula × Nat))) (n : Nat) (a b : Int), R.length ≤ k → k < n → Aj c 0 ds → (∀ A ∈ ds, A.length = 20) → (∀ x ∈ ds.flatten, G x.1) → (∀ x ∈ R, G x) → ds.flatten.length + R.length = N →
  a = (ds.flatten.length : Int) → b = ((ds.flatten.length + 20 : Nat) : Int) →
  ∃ u, oe (N : Int) f n (fm ds ++ R) a b = some (u.map (·.1)) ∧ qD (qt c) u ∧ u.Perm (ds.flatten ++ R.zipIdx ds.flatten.length) := by
 intro k
 induction k with
 | zero =>
  intro R ds n a b hk F hO o q j r ha t
  obtain rfl := aW (Nat.le_zero.1 hk)
  exact QD h w N D [] ds n a b F hO o q j r (by simp) ha t
 | succ k ih =>
  intro R ds n a b hk F hO o q j r ha t
  by_cases z : R.length < 20
  ·exact QD h w N D R ds n a b (by omega) hO o q j r z ha t
  obtain ⟨n, rfl⟩ := aP (by omega : n ≠ 0)
  obtain ⟨R1, R2, rfl, m⟩ := zq (l := R) (n := 20) (by omega)
  rw [aD] at r hk
  rw [oe]
  have hle : b ≤ (N : Int) := by omega
  simp only [hle, cC, aU]
  obtain ⟨u, I, J, s⟩ := O5 h w (fm ds) R2 (R1.zipIdx ds.flatten.length) a b (KX _ _) (fun x d => j x.1 (by simp [H5 d])) (by simp only [aD, uj, dE, fK, bZ]; omega) (by rw [uj]; exact ha) (by rw [uj, fK]; omega)
  rw [List.zipIdx_map_fst] at I
  rw [I, aA]
  have g := s.length_eq
  rw [fK, m] at g
  have y : (ds ++ [u]).flatten.length = ds.flatten.length + 20 := by rw [RF, g]
  have L : wi0 .i64 (b + 20) = (((ds ++ [u]).flatten.length + 20 : Nat) : Int) := pB _ (by omega) (by omega)
  have e : fm ds ++ (u.map (·.1) ++ R2) = fm (ds ++ [u]) ++ R2 := by simp [fm]
  rw [e, L]
  obtain ⟨v, v1, v2, v3⟩ := ih R2 (ds ++ [u]) n b _ (by omega) (by omega) (Aj.append.2 ⟨hO, J, fun x d => by have := Oy R1 ds.flatten.length x (s.mem_iff.1 d); omega, trivial⟩) (fun A i => by
   rcases aQ.1 i with i | i
   ·exact o A i
   ·simp at i; rw [i]; exact g) (fun x d => by
   rw [cY, aQ] at d
   rcases d with d | d
   ·exact q x d
   ·simp only [bV, dM, bT] at d
    exact j x.1 (by simp [H5 (s.mem_iff.1 d)])) (fun x d => j x (by simp [d])) (by omega) (by omega) rfl
  refine ⟨v, v1, v2, v3.trans ?_⟩
  rw [y, cY, List.zipIdx_append, m, aR]
  refine cF _ ?_
  simp only [bV, dM, bT]
  exact s.append_right _
theorem Pm (h : SWO (qt c)) (g : E8 f c G) (l : List Formula) (d : ∀ x ∈ l, G x) (i : l.length ≤ 300000) : qY l f = some (NI (qt c) l) := by
 unfold qY tT
 obtain ⟨u, a, j, b⟩ := SK h g l.length i l.length l [] mR 0 20 (bA _) (by rw [pa]; omega) trivial (by simp) (by simp) d (by simp) rfl rfl
 simp only [fm, dM, iu, bK, bZ] at a b
 rw [a, aA, Un h j b]
end
theorem MN {P : Formula → Prop} (h : ∀ f, (∀ k ∈ f.Kids, P k) → P f) : ∀ f, P f := by
 intro f
 refine Formula.rec (motive_1 := P) (motive_2 := fun b => ∀ k ∈ b, P k) ?_ ?_ ?_ f
 ·intro o k r b ih; exact h _ ih
 ·intro k hk; cases hk
 ·intro k b h1 c x a
  rcases aS.1 a with rfl | a
  ·exact h1
  ·exact c x a
mutual
def mW : Formula → Nat
 | ⟨_, _, _, ks⟩ => 1 + nodesL ks
def nodesL : List Formula → Nat
 | [] => 0
 | k :: ks => mW k + nodesL ks
end
mutual
def qE : Formula → Nat
 | ⟨_, _, _, ks⟩ => deepL ks + 1
def deepL : List Formula → Nat
 | [] => 0
 | k :: ks => max (qE k) (deepL ks)
end
theorem qG (f : Formula) : mW f = 1 + nodesL f.Kids := by cases f; rw [mW]
theorem pp (f : Formula) : qE f = deepL f.Kids + 1 := by cases f; rw [qE]
theorem xk : ∀ {a : List Formula} {k : Formula}, k ∈ a → mW k ≤ nodesL a
 | x :: a, k, h => by
  rw [nodesL]
  rcases aS.1 h with rfl | h
  ·omega
  ·have := xk h; omega
theorem vN : ∀ {a : List Formula} {k : Formula}, k ∈ a → qE k ≤ deepL a
 | x :: a, k, h => by
  rw [deepL]
  rcases aS.1 h with rfl | h
  ·omega
  ·have := vN h; omega
theorem Ab : ∀ f : Formula, qE f ≤ mW f := by
 refine MN fun f ih => ?_
 rw [pp, qG]
 have : ∀ a : List Formula, (∀ k ∈ a, qE k ≤ mW k) → deepL a ≤ nodesL a := by
  intro a
  induction a with
  | nil => intro _; rw [deepL]; omega
  | cons k a b =>
   intro h
   have := b (fun x c => h x (by simp [c]))
   have := h k (by simp)
   rw [deepL, nodesL]; omega
 have := this f.Kids ih
 omega
theorem yg : ∀ a : List Formula, a.length ≤ nodesL a
 | [] => by rw [nodesL]; simp
 | k :: a => by have := yg a; have := qG k; rw [nodesL, aO]; omega
theorem Qi (a : Nat) (hm : a ≤ 4096) (rec : Formula → Int → Option (Int × Int)) : ∀ (b : List Formula), (∀ k ∈ b, ∀ q : Nat, q ≤ 4096 → ∃ n d : Nat, rec k (q : Int) = some ((n : Int), (d : Int)) ∧ 1 ≤ n ∧ n ≤ mW k ∧ d ≤ mW k ∧ (mW k ≤ q → n = mW k ∧ d = qE k) ∧ (q < mW k → q < n)) → ∀ x y : Nat, x + nodesL b ≤ 100000000 →
  ∃ n d : Nat, rO (a : Int) rec b (x : Int) (y : Int) = some ((n : Int), (d : Int)) ∧ x ≤ n ∧ n ≤ x + nodesL b ∧ d ≤ max y (nodesL b) ∧ (x + nodesL b ≤ a → n = x + nodesL b ∧ d = max y (deepL b)) ∧ (a < x + nodesL b → a < n)
 | [], _, x, y, _ => by
  rw [rO, nodesL, deepL]
  exact ⟨x, y, rfl, by omega, by omega, by omega, fun _ => ⟨by omega, by omega⟩, fun h => by omega⟩
 | k :: b, g, x, y, o => by
  rw [nodesL] at o ⊢
  rw [rO, deepL]
  by_cases i : (x : Int) > (a : Int)
  ·simp only [i, cC, aU]
   exact ⟨x, y, rfl, by omega, by omega, by omega, fun _ => by omega, fun h => by omega⟩
  ·simp only [i, cI, aB, aN]
   have s : wi0 .i64 ((a : Int) - (x : Int)) = ((a - x : Nat) : Int) := by rw [ni (by omega) (by omega)]; omega
   obtain ⟨m, d, e, h1, v, w, c, l⟩ := g k (by simp) (a - x) (by omega)
   rw [s, e, aA]
   have t : wi0 .i64 ((x : Int) + (m : Int)) = ((x + m : Nat) : Int) := by rw [ni (by omega) (by omega)]; omega
   have u : (if (d : Int) > (y : Int) then (d : Int) else (y : Int)) = ((max y d : Nat) : Int) := by split <;> omega
   simp only [t, u]
   obtain ⟨n, j, e', g1, g2, g3, g4, g5⟩ := Qi a hm rec b (fun z r => g z (by simp [r])) (x + m) (max y d) (by omega)
   refine ⟨n, j, e', by omega, by omega, by omega, fun h => ?_, fun h => ?_⟩
   ·obtain ⟨rfl, rfl⟩ := c (by omega)
    obtain ⟨rfl, rfl⟩ := g4 (by omega)
    exact ⟨by omega, by omega⟩
   ·by_cases hk : a - x < mW k
    ·have := l hk; omega
    ·obtain ⟨rfl, _⟩ := c (by omega)
     exact g5 (by omega)
theorem SO : ∀ (n : Nat) (f : Formula), qE f ≤ n → mW f ≤ 50000000 → ∀ q : Nat, q ≤ 4096 → ∃ m d : Nat, qy n f (q : Int) = some ((m : Int), (d : Int)) ∧ 1 ≤ m ∧ m ≤ mW f ∧ d ≤ mW f ∧ (mW f ≤ q → m = mW f ∧ d = qE f) ∧ (q < mW f → q < m) := by
 intro n
 induction n with
 | zero => intro f h; rw [pp] at h; omega
 | succ n ih =>
  intro f g r q a
  rw [pp] at g
  have i := qG f
  rw [qy]
  unfold yp
  obtain ⟨m, d, e, h1, l, o, b, c⟩ := Qi q a (qy n) f.Kids (fun k hk q a => ih k (by have := vN hk; omega) (by have := xk hk; omega) q a) 1 0 (by omega)
  have e' : rO (q : Int) (qy n) f.Kids 1 0 = some ((m : Int), (d : Int)) := e
  rw [e', aA]
  have j : wi0 .i64 ((d : Int) + 1) = ((d + 1 : Nat) : Int) := by rw [ni (by omega) (by omega)]; omega
  simp only [j]
  refine ⟨m, d + 1, rfl, h1, by omega, by omega, fun h => ?_, fun h => c (by omega)⟩
  obtain ⟨rfl, rfl⟩ := b (by omega)
  rw [pp]
  exact ⟨by omega, by omega⟩
theorem Uh (f : Formula) (c : mW f ≤ 50000000) : zZ f = some (if mW f ≤ 4096 then ((mW f : Int), (qE f : Int)) else (0, 0)) := by
 unfold zZ
 have := Ab f
 obtain ⟨m, d, e, h1, g, i, a, b⟩ := SO mR f (by rw [pa]; omega) c 4096 (bA _)
 have e' : qy mR f 4096 = some ((m : Int), (d : Int)) := e
 rw [e', aA]
 by_cases h : mW f ≤ 4096
 ·obtain ⟨rfl, rfl⟩ := a h
  have : ¬ ((mW f : Int) > 4096) := by omega
  simp [this, h]
 ·have := b (by omega)
  have : ((m : Int) > 4096) := by omega
  simp [this, h]
def tY : lC := ⟨zS, zS⟩
def Ge (f : Formula) : Bool := if f.Op = 1 then nP f.lC && decide (f.Kids.length = 0) && decide (f.K = 0) else if f.Op = 2 ∨ f.Op = 3 then me f.lC tY && decide (f.K = 0) else decide (f.Op = 4) && me f.lC tY && decide (0 ≤ f.K) && decide (f.K ≤ (f.Kids.length : Int)) && decide (1 ≤ f.Kids.length)
theorem Uv (f : Formula) : zY f = some (Ge f) := by
 unfold zY Ge
 simp only [xo, aA, pz]
 by_cases h1 : f.Op = 1
 ·simp only [h1, bH, aU]
  cases n : nP f.lC
  ·simp
  ·by_cases j : f.Kids.length = 0
   ·have : f.Kids = [] := aW j
    by_cases hk : f.K = 0 <;> simp [this, hk]
   ·have : ((f.Kids.length : Int) == 0) = false := by simp; intro h; exact j (by simp [h])
    simp only [aU, aA, this, aB, aN, j, cI, Bool.and_false, jv]
 ·have l : (f.Op == 1) = false := by simpa using h1
  simp only [l, aB, aN, h1]
  by_cases c : f.Op = 2 ∨ f.Op = 3
  ·have g : (if f.Op == 2 then some (f.Op == 2) else some (f.Op == 3)) = some true := by
    rcases c with h | h <;> simp [h]
   simp only [g, aA, aU, c]
   cases d : me f.lC ⟨zS, zS⟩ <;> by_cases hk : f.K = 0 <;> simp [tY, d, hk]
  ·have g : (if f.Op == 2 then some (f.Op == 2) else some (f.Op == 3)) = some false := by
    have a : f.Op ≠ 2 := fun h => c (.inl h)
    have b : f.Op ≠ 3 := fun h => c (.inr h)
    simp [a, b]
   simp only [g, aA, aB, aN, c]
   by_cases i : f.Op = 4
   ·simp only [i, bH, aU, aA, cC, eU]
    cases d : me f.lC ⟨zS, zS⟩
    ·simp [tY, d]
    ·by_cases c1 : 0 ≤ f.K <;> by_cases c2 : f.K ≤ (f.Kids.length : Int) <;> by_cases k : 1 ≤ f.Kids.length <;> simp [tY, d, c1, c2, k] <;> omega
   ·have m : (f.Op == 4) = false := by simpa using i
    simp [m, i]
mutual
def xO : Formula → Bool
 | ⟨o, n, r, ks⟩ => Ge ⟨o, n, r, ks⟩ && decide (ks.length ≤ 8) && wellL ks
def wellL : List Formula → Bool
 | [] => true
 | k :: ks => xO k && wellL ks
end
theorem I7 (f : Formula) : xO f = (Ge f && decide (f.Kids.length ≤ 8) && wellL f.Kids) := by cases f; rw [xO]
theorem Hy : ∀ a : List Formula, wellL a = a.all xO
 | [] => rfl
 | k :: a => by rw [wellL, Hy a]; rfl
theorem Nj (f : Formula → Option Bool) : ∀ (l : List Formula) (i : Nat), px f l i = Ao f l i
 | [], i => by rw [px]; rfl
 | x :: l, i => by
  rw [px, Ao]
  cases f x with
  | none => rfl
  | some b =>
   simp only [aA]
   rw [Nj f l (i + 1)]
theorem Ip (f : Formula → Option Bool) (p : Formula → Bool) (l : List Formula) (h : ∀ x ∈ l, f x = some (p x)) : qf l f = some (l.any p) := by
 unfold qf vQ
 rw [Nj]
 rcases DU f p l 0 h with ⟨e, h1⟩ | ⟨A, x, B, rfl, h1, a, e⟩
 ·rw [e, aA]
  have : l.any p = false := by rw [jw]; intro x b; rw [h1 x b]; simp
  rw [this]; rfl
 ·rw [e, aA]
  have : (A ++ x :: B).any p = true := by simp [a]
  rw [this]
  congr 1
theorem Sa : ∀ (n : Nat) (f : Formula), qE f ≤ n → ua n f = some (xO f) := by
 intro n
 induction n with
 | zero => intro f h; rw [pp] at h; omega
 | succ n ih =>
  intro f h
  rw [pp] at h
  rw [ua]
  unfold yv
  rw [Uv, aA, I7, Ip _ (fun k => !xO k) f.Kids (fun k hk => by unfold xl; rw [ih k (by have := vN hk; omega)]; rfl)]
  rw [Hy]
  have e : (!(f.Kids.any fun k => !xO k)) = f.Kids.all xO := by rw [List.all_eq_not_any_not]
  cases Ge f
  ·rfl
  ·by_cases a : f.Kids.length ≤ 8
   ·have : ((f.Kids.length : Int) ≤ 8) := by omega
    simp [a, this, e]
   ·have : ¬ ((f.Kids.length : Int) ≤ 8) := by omega
    simp [a, this]
def pD (f : Formula) : Bool := decide (mW f ≤ 64) && decide (qE f ≤ 6) && xO f
theorem Ch (f : Formula) (b : mW f ≤ 50000000) : rr f = some (pD f) := by
 unfold rr pD
 have c := Ab f
 rw [Uh f b, aA, Sa mR f (by rw [pa]; omega)]
 have h1 := qG f
 by_cases h : mW f ≤ 4096
 ·simp only [h, aU]
  have a : ((mW f : Int) ≥ 1) := by omega
  simp only [a, cC, aU, aA, pz]
  by_cases c1 : mW f ≤ 64 <;> by_cases c2 : qE f ≤ 6
  ·have d1 : ((mW f : Int) ≤ 64) := by omega
   have d2 : ((qE f : Int) ≤ 6) := by omega
   simp [c1, c2, d1, d2]
  ·have d1 : ((mW f : Int) ≤ 64) := by omega
   have d2 : ¬ ((qE f : Int) ≤ 6) := by omega
   simp [c1, c2, d1, d2]
  ·have d1 : ¬ ((mW f : Int) ≤ 64) := by omega
   simp [c1, d1]
  ·have d1 : ¬ ((mW f : Int) ≤ 64) := by omega
   simp [c1, d1]
 ·simp only [h, aN]
  have : ¬ mW f ≤ 64 := by omega
  simp [this]
theorem Formula.ext' {a b : Formula} (h1 : a.Op = b.Op) (c : a.K = b.K) (d : a.lC = b.lC) (g : a.Kids = b.Kids) : a = b := by
 cases a; cases b; simp only at h1 c d g; subst h1 c d g; rfl
theorem RC (g : Formula × Formula → Option Bool) : ∀ (l m : List Formula), l.length = m.length → (∀ x ∈ l, ∀ y, ∃ b, g (x, y) = some b ∧ (b = true ↔ x = y)) → ∀ (A : List Formula),
  ∃ b, nA (A ++ m) g l A.length = some b ∧ (b = true ↔ l = m)
 | [], m, c, _, A => by
  obtain rfl := aW c.symm
  exact ⟨true, rfl, by simp⟩
 | x :: l, [], c, _, A => by simp at c
 | x :: l, y :: m, c, d, A => by
  rw [nA]
  obtain ⟨b, e, h⟩ := d x (by simp) y
  have i1 : nG (A ++ y :: m) (A.length : Int) = some y := oU _ _ _ _ rfl
  rw [i1, aA, e, aA]
  cases b with
  | false =>
   refine ⟨false, rfl, ?_⟩
   have : x ≠ y := fun a => by have := h.2 a; simp at this
   simp [this]
  | true =>
   have a := h.1 rfl
   obtain ⟨b, i, n⟩ := RC g l m (by simpa using c) (fun z o => d z (by simp [o])) (A ++ [y])
   simp only [bY, aB, aN]
   have j : A ++ y :: m = (A ++ [y]) ++ m := by simp
   have k : A.length + 1 = (A ++ [y]).length := by simp
   rw [j, k, i]
   exact ⟨b, rfl, by rw [n]; simp [a]⟩
theorem TQ : ∀ (n : Nat) (f : Formula), qE f ≤ n → ∀ g, ∃ b, qm n f g = some b ∧ (b = true ↔ f = g) := by
 intro n
 induction n with
 | zero => intro f h; rw [pp] at h; omega
 | succ n ih =>
  intro f h g
  rw [pp] at h
  rw [qm]
  unfold za
  by_cases h1 : f.Op = g.Op
  ·by_cases a : f.K = g.K
   ·by_cases c : f.lC = g.lC
    ·have i : me f.lC g.lC = true := mn.2 c
     simp only [h1, a, i, bH, aU, aA]
     unfold oM
     by_cases d : f.Kids.length = g.Kids.length
     ·have : ((f.Kids.length : Int) != (g.Kids.length : Int)) = false := by simp [d]
      simp only [this, aB, aN]
      obtain ⟨b, e, l⟩ := RC (fun x => qm n x.1 x.2) f.Kids g.Kids d (fun x m y => ih x (by have := vN m; omega) y) []
      simp only [bK, bZ] at e
      rw [e]
      refine ⟨b, by simp, l.trans ⟨fun hk => Formula.ext' h1 a c hk, fun hk => by rw [hk]⟩⟩
     ·have : ((f.Kids.length : Int) != (g.Kids.length : Int)) = true := by simp; omega
      simp only [this, aU]
      exact ⟨false, rfl, by simp; intro hk; rw [hk] at d; exact d rfl⟩
    ·have i : me f.lC g.lC = false := by rw [← gF, mn]; exact c
     simp only [h1, a, i, bH, aU, aA, aB, aN]
     exact ⟨false, rfl, by simp; intro hk; rw [hk] at c; exact c rfl⟩
   ·have k : (f.K == g.K) = false := by simpa using a
    simp only [h1, k, bH, aU, aA, aB, aN]
    exact ⟨false, rfl, by simp; intro hk; rw [hk] at a; exact a rfl⟩
  ·have j : (f.Op == g.Op) = false := by simpa using h1
   simp only [j, aA, aB, aN]
   exact ⟨false, rfl, by simp; intro hk; rw [hk] at h1; exact h1 rfl⟩
mutual
def DQ : Formula → List Int
 | ⟨o, k, r, ks⟩ => o :: (if o = 1 then vi r else (if o = 4 then [k] else []) ++ ((ks.length : Int) :: bytesFL ks))
def bytesFL : List Formula → List Int
 | [] => []
 | k :: ks => DQ k ++ bytesFL ks
end
theorem Qj (f : Formula) : DQ f = f.Op :: (if f.Op = 1 then vi f.lC else (if f.Op = 4 then [f.K] else []) ++ ((f.Kids.length : Int) :: bytesFL f.Kids)) := by cases f; rw [DQ]
theorem EI {f : Formula} (h : xO f = true) : f.Kids.length ≤ 8 ∧ wellL f.Kids = true ∧ ((f.Op = 1 ∧ nP f.lC = true ∧ f.Kids = [] ∧ f.K = 0) ∨ ((f.Op = 2 ∨ f.Op = 3) ∧ f.lC = tY ∧ f.K = 0) ∨ (f.Op = 4 ∧ f.lC = tY ∧ 0 ≤ f.K ∧ f.K ≤ (f.Kids.length : Int) ∧ 1 ≤ f.Kids.length)) := by
 rw [I7] at h
 simp only [bE, bR] at h
 obtain ⟨⟨h1, a⟩, b⟩ := h
 refine ⟨a, b, ?_⟩
 unfold Ge at h1
 split at h1
 ·rename_i c
  simp only [bE, bR] at h1
  exact .inl ⟨c, h1.1.1, aW h1.1.2, h1.2⟩
 ·split at h1
  ·rename_i c
   simp only [bE, bR, mn] at h1
   exact .inr (.inl ⟨c, h1.1, h1.2⟩)
  ·simp only [bE, bR, mn] at h1
   exact .inr (.inr ⟨h1.1.1.1.1, h1.1.1.1.2, h1.1.1.2, h1.1.2, h1.2⟩)
theorem UW : ∀ (n : Nat) (f : Formula), qE f ≤ n → xO f = true → ∀ l : List Int, l.length + 40 * mW f ≤ 8000 → sf n l f = some (l ++ DQ f) ∧ (DQ f).length ≤ 40 * mW f := by
 intro n
 induction n with
 | zero => intro f h; rw [pp] at h; omega
 | succ n ih =>
  intro f t hw l r
  rw [pp] at t
  have u := qG f
  obtain ⟨h1, q, m⟩ := EI hw
  rw [sf]
  unfold yy
  have d : 0 ≤ f.Op ∧ f.Op < 128 := by rcases m with h | h | h <;> omega
  rw [Be d.1 d.2 (by omega), aA, Qj]
  have key : ∀ (a : List Formula), (∀ k ∈ a, k ∈ f.Kids) → wellL a = true → ∀ l : List Int, l.length + 40 * nodesL a ≤ 8000 → tg (sf n) a l = some (l ++ bytesFL a) ∧ (bytesFL a).length ≤ 40 * nodesL a := by
   intro a
   induction a with
   | nil => intro _ _ l _; rw [tg, bytesFL]; simp
   | cons k a o =>
    intro hk b l r
    rw [wellL, bE] at b
    rw [nodesL] at r
    obtain ⟨i, w⟩ := ih k (by have := vN (hk k (by simp)); omega) b.1 l (by omega)
    obtain ⟨c, j⟩ := o (fun z v => hk z (by simp [v])) b.2 (l ++ DQ k) (by simp; omega)
    rw [tg, i, aA, c, bytesFL, nodesL]
    exact ⟨by simp, by simp; omega⟩
  have hlen : 0 ≤ (f.Kids.length : Int) ∧ (f.Kids.length : Int) < 128 := by omega
  by_cases c1 : f.Op = 1
  ·have s : nP f.lC = true := by rcases m with h | h | h; exact h.2.1; omega; omega
   have := rF s
   simp only [c1, bH, aU]
   rw [NK s (by simp; omega), aA]
   exact ⟨by simp, by simp; omega⟩
  ·have i : (f.Op == 1) = false := by simpa using c1
   simp only [i, aB, aN, c1]
   by_cases g : f.Op = 4
   ·have hk : 0 ≤ f.K ∧ f.K < 128 := by rcases m with h | h | h <;> omega
    simp only [g, bH, aU]
    rw [Be hk.1 hk.2 (by simp; omega)]
    simp only [aA]
    rw [Be hlen.1 hlen.2 (by simp; omega)]
    simp only [aA]
    obtain ⟨c, j⟩ := key f.Kids (fun k hk => hk) q (l ++ [4] ++ [f.K] ++ [(f.Kids.length : Int)]) (by simp; omega)
    rw [c]
    exact ⟨by simp, by simp; omega⟩
   ·have j : (f.Op == 4) = false := by simpa using g
    simp only [j, aB, aN, g, aA]
    rw [Be hlen.1 hlen.2 (by simp; omega)]
    simp only [aA]
    obtain ⟨c, x⟩ := key f.Kids (fun k hk => hk) q (l ++ [f.Op] ++ [(f.Kids.length : Int)]) (by simp; omega)
    rw [c]
    exact ⟨by simp, by simp; omega⟩
def Iu (f : Formula) : List Int := if pD f then DQ f else []
abbrev Gd (f : Formula) : Prop := mW f ≤ 50000000
theorem DX {f : Formula} (h : pD f = true) : mW f ≤ 64 ∧ qE f ≤ 6 ∧ xO f = true := by
 unfold pD at h
 simp only [bE, bR] at h
 exact ⟨h.1.1, h.1.2, h.2⟩
theorem UL (f : Formula) (c : Gd f) (l : List Int) (i : l.length ≤ 5000) : zk l f = some (pD f, l ++ Iu f) ∧ (Iu f).length ≤ 2560 := by
 unfold zk Iu
 rw [Ch f c, aA]
 cases h : pD f
 ·simp
 ·obtain ⟨h1, g, b⟩ := DX h
  obtain ⟨a, d⟩ := UW mR f (by rw [pa]; omega) b l (by omega)
  simp only [bY, aB, aN, a, aA, aU]
  exact ⟨trivial, by omega⟩
theorem Kq (f : Formula) (b : Gd f) : vV f = some (Iu f) := by
 unfold vV
 obtain ⟨a, c⟩ := UL f b [] (by simp)
 rw [a, aA, pz]
 unfold wI
 simp only [bK]
 rw [UY (by omega)]
 rfl
def O8 (f g : Formula) : Int := Ba (Iu f) (Iu g)
theorem P7 (f g : Formula) (a : Gd f) (b : Gd g) : vT f g = some (O8 f g) := by
 unfold vT zo
 rw [Kq f a, Kq g b]
 rfl
theorem Fw (f g : Formula) : qt O8 f g = Op.bytesLess (yk (Iu f)) (yk (Iu g)) := by
 rw [bX]
 have h : qt O8 f g = true ↔ O8 f g < 0 := by unfold qt; exact decide_eq_true_iff
 exact h.trans (Fm _ _)
theorem Xz : SWO (qt O8) where
 WR x := by rw [Fw, EB]
 tr x y z h1 a := by rw [Fw] at *; exact DJ _ _ _ h1 a
 Tm x y z h := by
  rw [Fw] at h
  rw [Fw, Fw]
  rcases FX (yk (Iu x)) (yk (Iu y)) with h1 | h1 | h1
  ·exact .inl h1
  ·rw [h1] at h; exact .inr h
  ·exact .inr (DJ _ _ _ h1 h)
def B4 (l : List Formula) : List Formula := NI (qt O8) l
theorem MH (l : List Formula) (a : ∀ x ∈ l, Gd x) (b : l.length ≤ 300000) : yc l = some (B4 l) := by
 unfold yc uZ
 rw [nX (by simp; omega) (by simp; omega)]
 simp only [aA, bK, pz]
 exact Pm Xz (fun x y c d => P7 x y c d) l a b
theorem Qk {α : Type} (lt : α → α → Bool) (l : List α) (k : α) : (Jh lt l k).Perm (l ++ [k]) := by
 unfold Jh
 refine List.perm_middle.trans ((List.Perm.cons _ ?_).trans (iO k l).symm)
 have := List.filter_append_perm (fun x => !lt k x) l
 simpa using this
theorem Ql {α : Type} (lt : α → α → Bool) (l : List α) : (NI lt l).Perm l := by
 suffices H : ∀ (l a : List α), (l.foldl (Jh lt) a).Perm (a ++ l) by have := H l []; rwa [bK] at this
 intro l
 induction l with
 | nil => intro a; simp
 | cons k l ih =>
  intro a
  rw [jd]
  refine (ih _).trans ?_
  have := (Qk lt a k).append_right l
  simpa using this
theorem CH (l : List Formula) : (B4 l).Perm l := Ql _ l
noncomputable def BH (a b : Formula) : Bool := @decide (a = b) (Classical.propDecidable _)
theorem Ox {a b : Formula} : BH a b = true ↔ a = b := by unfold BH; simp
theorem TU (a b : Formula) (h : Gd a) : qm mR a b = some (BH a b) := by
 have := Ab a
 obtain ⟨x, e, c⟩ := TQ mR a (by rw [pa]; omega) b
 rw [e]; congr 1
 rw [bX, c, Ox]
def WU : Formula := ⟨0, 0, ⟨zS, zS⟩, []⟩
theorem Su (f1 : Formula × Formula → Option Bool) (i : Int) : ∀ (n : Nat) (l : List Formula) (k j : Int), (∀ x ∈ l, ∀ y ∈ l, f1 (x, y) = some (BH x y)) → oN i f1 n l k j = Cj BH i n l k j
 | 0, l, k, j, _ => by rw [oN, Cj]
 | n + 1, l, k, j, h => by
  rw [oN, Cj]
  split
  ·cases d : nG (l.drop (Int.toNat i)) j with
   | none => rfl
   | some x =>
    cases g : nG (l.drop (Int.toNat i)) (wi0 .i64 (j - 1)) with
    | none => rfl
    | some y =>
     have c : x ∈ l := List.mem_of_mem_drop (dQ (mA d))
     have q : y ∈ l := List.mem_of_mem_drop (dQ (mA g))
     simp only [aA, h x c y q]
     cases BH x y
     ·simp only [dI, aU]
      cases r : nG l k with
      | none => rfl
      | some z =>
       simp only [aA]
       refine Su f1 i n _ _ _ (fun a ha b o => ?_)
       have m : ∀ a ∈ l.set (Int.toNat k) x, a ∈ l := fun a ha => by
        rcases List.mem_or_eq_of_mem_set ha with ha | rfl
        ·exact ha
        ·exact c
       exact h a (m a ha) b (m b o)
     ·simp only [bY, aB, aN, aA]
      exact Su f1 i n _ _ _ h
  ·rfl
theorem VL (f1 : Formula × Formula → Option Bool) (l : List Formula) (h : ∀ x ∈ l, ∀ y ∈ l, f1 (x, y) = some (BH x y)) : ∀ (n : Nat) (i : Int), oL l f1 n i = CQ BH WU l n i
 | 0, i => by rw [oL, CQ]
 | n + 1, i => by
  rw [oL, CQ]
  split
  ·cases a : nG l i with
   | none => rfl
   | some x =>
    cases b : nG l (wi0 .i64 (i - 1)) with
    | none => rfl
    | some y =>
     have c : x ∈ l := dQ (mA a)
     have d : y ∈ l := dQ (mA b)
     simp only [aA, h x c y d]
     rw [Su f1 i mR l i 1 h, VL f1 l h n]
     rfl
  ·rfl
theorem PN (l : List Formula) (h : ∀ x ∈ l, Gd x) (b : l.length ≤ 300000) : rW l (fun x => qm mR x.1 x.2) = some (dd BH l) := by
 rw [← Jj BH WU l (by omega)]
 unfold rW IW
 rw [VL _ l (fun x a y _ => TU x y (h x a))]
def pf (op : Int) (f : Formula) : Bool := decide (f.Op = op) && f.Kids.isEmpty
theorem I9 (f : Formula) (op : Int) : wo f op = some (pf op f) := by
 unfold wo pf
 rw [pz]
 by_cases h : f.Op = op
 ·simp only [h, bH, aU, cC, eU]
  congr 1
  cases hk : f.Kids with
  | nil => rfl
  | cons a l => simp; omega
 ·have e : (f.Op == op) = false := by simpa using h
  simp [e, h]
def rB (op : Int) : List Formula → List Formula
 | [] => []
 | k :: a => (if k.Op = op then k.Kids else [k]) ++ rB op a
theorem F2 (op : Int) : ∀ c : List Formula, nodesL (rB op c) ≤ nodesL c
 | [] => bA _
 | k :: c => by
  have ih := F2 op c
  have e : ∀ a b : List Formula, nodesL (a ++ b) = nodesL a + nodesL b := by
   intro a b
   induction a with
   | nil => rw [bK, nodesL]; omega
   | cons x a d => rw [cJ, nodesL, nodesL, d]; omega
  have := qG k
  rw [rB, e, nodesL]
  split
  ·omega
  ·rw [nodesL, nodesL]; omega
theorem KT (op : Int) : ∀ (a acc : List Formula), acc.length + nodesL a ≤ 100000000 → tf op a acc = some (acc ++ rB op a)
 | [], acc, _ => by rw [tf, rB, bT]
 | k :: a, acc, h => by
  rw [nodesL] at h
  have h1 := qG k
  have b := yg k.Kids
  rw [tf, rB]
  by_cases c : k.Op = op
  ·simp only [c, bH, aU]
   rw [nX (by omega) (by omega), aA, KT op a _ (by simp; omega), aR]
  ·have e : (k.Op == op) = false := by simpa using c
   simp only [e, aB, aN, c]
   rw [nX (by simp; omega) (by simp; omega), aA, KT op a _ (by simp; omega), aR]
noncomputable def uI (op : Int) (a : List Formula) : Formula :=
 if (rB op a).any (pf (5 - op)) then ⟨5 - op, 0, tY, []⟩ else
  match dd BH (B4 (rB op a)) with
  | [x] => x
  | r => ⟨op, 0, tY, r⟩
theorem VS {α : Type} (eq : α → α → Bool) (l : List α) : (dd eq l).length ≤ l.length := by
 cases l with
 | nil => exact bA _
 | cons x l =>
  have : ∀ (l : List α) (x : α), (rL eq x l).length ≤ l.length := by
   intro l
   induction l with
   | nil => intro x; exact bA _
   | cons y l ih => intro x; rw [rL]; have := ih y; have := ih x; split <;> simp <;> omega
  have := this l x
  rw [dd, aO, aO]; omega
theorem Hx (s : nk) (op : Int) (g : op = 2 ∨ op = 3) (a : List Formula) (h : nodesL a ≤ 64) : qo s op a = some (uI op a, s) := by
 have h1 := F2 op a
 have i := yg (rB op a)
 have c : ∀ x ∈ rB op a, Gd x := fun x b => by have := xk b; unfold Gd; omega
 have hw : wi0 .i64 (5 - op) = 5 - op := ni (by omega) (by omega)
 unfold qo CY uI
 rw [KT op a [] (by simp; omega), aA, bK, hw, Ip _ (pf (5 - op)) _ (fun x _ => by unfold tu; rw [I9, pz]), aA]
 cases j : (rB op a).any (pf (5 - op))
 ·simp only [aB, aN]
  have hp := CH (rB op a)
  have l := hp.length_eq
  rw [MH _ c (by omega), aA, PN _ (fun x b => c x (hp.mem_iff.1 b)) (by omega), aA]
  have k := VS BH (B4 (rB op a))
  have d : ¬ (((dd BH (B4 (rB op a))).length : Int) > 64) := by omega
  simp only [d, cI, aB, aN, aA]
  generalize dd BH (B4 (rB op a)) = r
  match r with
  | [] => rfl
  | [x] => rfl
  | x :: y :: r =>
   have : (((x :: y :: r).length : Int) == 1) = false := by simp; omega
   simp only [this, aB, aN]
   rfl
 ·rfl
noncomputable def yB (k : Int) (a : List Formula) : Formula :=
 let n := k - ((a.filter (pf 2)).length : Int)
 let l := a.filter fun x => !pf 2 x && !pf 3 x
 if n ≤ 0 then ⟨2, 0, tY, []⟩ else if n > (l.length : Int) then ⟨3, 0, tY, []⟩ else if n = (l.length : Int) then uI 2 l else if n = 1 then uI 3 l else ⟨4, n, tY, B4 l⟩
theorem D7 (p : Formula → Bool) : ∀ a : List Formula, nodesL (a.filter p) ≤ nodesL a
 | [] => bA _
 | k :: a => by
  have := D7 p a
  rw [dN]
  split
  ·rw [nodesL, nodesL]; omega
  ·rw [nodesL]; omega
theorem Dp (s : nk) : ∀ (a acc : List Formula) (k : Int), -1000 ≤ k - (a.length : Int) → k ≤ 1000 → acc.length + a.length ≤ 1000 → nodesL (acc ++ a.filter fun x => !pf 2 x && !pf 3 x) ≤ 64 →
  oJ s a k acc = some (let n := k - ((a.filter (pf 2)).length : Int); let l := acc ++ a.filter fun x => !pf 2 x && !pf 3 x; if n ≤ 0 then ⟨2, 0, tY, []⟩ else if n > (l.length : Int) then ⟨3, 0, tY, []⟩ else if n = (l.length : Int) then uI 2 l else if n = 1 then uI 3 l else ⟨4, n, tY, B4 l⟩, s)
 | [], acc, k, h1, g, h, b => by
  simp only [List.filter_nil, bT, bZ] at b ⊢
  rw [oJ]
  simp only [Int.ofNat_zero, Int.sub_zero, Bx, B7, aA, Int.natCast_zero]
  have o := yg acc
  by_cases c1 : k ≤ 0
  ·simp only [c1, cC, aU]; rfl
  ·simp only [c1, cI, aB, aN]
   by_cases c2 : k > (acc.length : Int)
   ·simp only [c2, cC, aU]; rfl
   ·simp only [c2, cI, aB, aN]
    by_cases c : k = (acc.length : Int)
    ·simp only [← c, bH, aU]
     rw [Hx s 2 (.inl rfl) acc b, aA]
    ·have i : (k == (acc.length : Int)) = false := by simpa using c
     simp only [i, aB, aN, c]
     by_cases d : k = 1
     ·simp only [d, bH, aU]
      rw [Hx s 3 (.inr rfl) acc b, aA]
     ·have j : (k == 1) = false := by simpa using d
      simp only [j, aB, aN, d]
      rw [MH acc (fun x m => by have := xk m; unfold Gd; omega) (by omega)]
      rfl
 | x :: a, acc, k, h1, g, h, b => by
  simp only [aO] at h1 h
  rw [oJ, I9, aA, I9, aA]
  rw [dN, dN] at *
  cases c2 : pf 2 x
  ·cases c : pf 3 x
   ·simp only [c2, c, dI, Bool.and_self, aB, aN, aU] at b ⊢
    rw [nX (by simp; omega) (by simp; omega), aA, Dp s a _ k (by omega) g (by simp; omega) (by rw [aR]; exact b)]
    simp only [aR, cJ, bK]
   ·simp only [c2, c, dI, bY, Bool.and_false, aB, aN] at b ⊢
    rw [Dp s a _ k (by omega) g (by omega) b]
  ·simp only [c2, bY, jv, aB, aN, aU] at b ⊢
   rw [ni (by omega) (by omega), Dp s a _ (k - 1) (by omega) (by omega) (by omega) b]
   simp only [aO]
   have e : k - 1 - ((a.filter (pf 2)).length : Int) = k - (((a.filter (pf 2)).length + 1 : Nat) : Int) := by omega
   rw [e]
theorem PR (s : nk) (k : Int) (hk : 0 ≤ k ∧ k ≤ 1000) (a : List Formula) (h : nodesL a ≤ 64) : tw s k a = some (yB k a, s) := by
 have := yg a
 have := D7 (fun x => !pf 2 x && !pf 3 x) a
 unfold tw yB
 rw [Dp s a [] k (by omega) (by omega) (by simp; omega) (by simpa using by omega)]
 rfl
mutual
noncomputable def vq : Formula → Formula
 | ⟨o, k, r, ks⟩ => if o = 1 then ⟨o, k, r, ks⟩ else if o = 4 then yB k (shapeL ks) else uI o (shapeL ks)
noncomputable def shapeL : List Formula → List Formula
 | [] => []
 | k :: ks => vq k :: shapeL ks
end
theorem EF (f : Formula) : vq f = if f.Op = 1 then f else if f.Op = 4 then yB f.K (shapeL f.Kids) else uI f.Op (shapeL f.Kids) := by cases f; rw [vq]
theorem Is {a b : List Formula} (h : a.Perm b) : nodesL a = nodesL b := by
 induction h with
 | nil => rfl
 | cons x _ ih => rw [nodesL, nodesL, ih]
 | swap x y l => rw [nodesL, nodesL, nodesL, nodesL]; omega
 | trans _ _ h1 c => rw [h1, c]
theorem Gr (eq : Formula → Formula → Bool) : ∀ (l : List Formula) (x : Formula), nodesL (rL eq x l) ≤ nodesL l
 | [], x => bA _
 | y :: l, x => by
  have h1 := Gr eq l y
  have a := Gr eq l x
  rw [rL]
  split
  ·rw [nodesL]; omega
  ·rw [nodesL, nodesL]; omega
theorem R9 (eq : Formula → Formula → Bool) (l : List Formula) : nodesL (dd eq l) ≤ nodesL l := by
 cases l with
 | nil => exact bA _
 | cons x l => have := Gr eq l x; rw [dd, nodesL, nodesL]; omega
theorem D3 (op : Int) (a : List Formula) : mW (uI op a) ≤ 1 + nodesL a := by
 unfold uI
 split
 ·rw [mW, nodesL]; omega
 ·have h1 := R9 BH (B4 (rB op a))
  have b := Is (CH (rB op a))
  have c := F2 op a
  generalize dd BH (B4 (rB op a)) = r at *
  split
  ·rename_i x
   rw [nodesL, nodesL] at h1; omega
  ·rw [mW]; omega
theorem Mp (k : Int) (a : List Formula) : mW (yB k a) ≤ 1 + nodesL a := by
 have h := D7 (fun x => !pf 2 x && !pf 3 x) a
 unfold yB
 simp only
 generalize a.filter (fun x => !pf 2 x && !pf 3 x) = l at *
 generalize k - ((a.filter (pf 2)).length : Int) = n
 split
 ·rw [mW, nodesL]; omega
 ·split
  ·rw [mW, nodesL]; omega
  ·split
   ·have := D3 2 l; omega
   ·split
    ·have := D3 3 l; omega
    ·have := Is (CH l); rw [mW]; omega
theorem E3 : ∀ f : Formula, mW (vq f) ≤ mW f := by
 refine MN fun f ih => ?_
 have h : ∀ a : List Formula, (∀ k ∈ a, mW (vq k) ≤ mW k) → nodesL (shapeL a) ≤ nodesL a := by
  intro a
  induction a with
  | nil => intro _; rw [shapeL]; exact bA _
  | cons k a b =>
   intro h
   have := b (fun x c => h x (by simp [c]))
   have := h k (by simp)
   rw [shapeL, nodesL, nodesL]; omega
 have h := h f.Kids ih
 rw [EF, qG f]
 split
 ·rw [qG]; omega
 ·split
  ·have := Mp f.K (shapeL f.Kids); omega
  ·have := D3 f.Op (shapeL f.Kids); omega
theorem MR (a : List Formula) : nodesL (shapeL a) ≤ nodesL a := by
 induction a with
 | nil => rw [shapeL]; exact bA _
 | cons k a ih => have := E3 k; rw [shapeL, nodesL, nodesL]; omega
theorem SE : ∀ (n : Nat) (f : Formula), qE f ≤ n → mW f ≤ 64 → xO f = true → ∀ s : nk, pt n s f = some (vq f, s) := by
 intro n
 induction n with
 | zero => intro f h; rw [pp] at h; omega
 | succ n ih =>
  intro f r v hw s
  rw [pp] at r
  have t := qG f
  obtain ⟨h1, q, l⟩ := EI hw
  rw [pt]
  unfold uT
  rw [EF]
  by_cases c1 : f.Op = 1
  ·simp only [c1, bH, aU]
  ·have m : (f.Op == 1) = false := by simpa using c1
   simp only [m, aB, aN, c1]
   have key : ∀ (a acc : List Formula), (∀ k ∈ a, k ∈ f.Kids) → wellL a = true → nodesL (acc ++ shapeL a) ≤ 64 → nodesL a ≤ 64 → pS (pt n) f a acc s = some (if f.Op = 4 then yB f.K (acc ++ shapeL a) else uI f.Op (acc ++ shapeL a), s) := by
    intro a
    induction a with
    | nil =>
     intro acc _ _ d _
     rw [shapeL, bT] at *
     rw [pS]
     by_cases g : f.Op = 4
     ·simp only [g, bH, aU]
      rw [PR s f.K (by rcases l with h | h | h <;> omega) acc d, aA]
     ·have o : (f.Op == 4) = false := by simpa using g
      simp only [o, aB, aN, g]
      rw [Hx s f.Op (by rcases l with h | h | h <;> omega) acc d, aA]
    | cons k a j =>
     intro acc hk b d i
     rw [wellL, bE] at b
     rw [nodesL] at i
     rw [shapeL] at d
     have c := yg (acc ++ vq k :: shapeL a)
     simp only [aD, aO] at c
     rw [pS, ih k (by have := vN (hk k (by simp)); omega) (by omega) b.1 s, aA, nX (by simp; omega) (by simp; omega), aA,
      j (acc ++ [vq k]) (fun z u => hk z (by simp [u])) b.2 (by rw [aR]; exact d) (by omega), shapeL]
     simp only [aR, cJ, bK]
   have := MR f.Kids
   have := key f.Kids [] (fun k hk => hk) q (by simpa using by omega) (by omega)
   simpa using this
def Ke : Formula := ⟨0, 0, tY, []⟩
noncomputable def Bk (f : Formula) : Formula × Int := if pD f then (if pD (vq f) then (vq f, 0) else (Ke, 12)) else (Ke, 11)
theorem Oq (f : Formula) (h : Gd f) : AD f = some (Bk f) := by
 unfold AD Bk
 rw [Ch f h, aA]
 cases b : pD f
 ·rfl
 ·obtain ⟨h1, c, a⟩ := DX b
  have d := E3 f
  simp only [bY, aB, aN, aU]
  rw [SE mR f (by rw [pa]; omega) h1 a, aA, Ch (vq f) (by omega)]
  have e : (((⟨0⟩ : nk).e) != 0) = false := rfl
  simp only [e, aB, aN, aA]
  cases pD (vq f) <;> rfl
theorem Ev {f : Formula} : mW (Bk f).1 ≤ 64 := by
 unfold Bk
 cases h : pD f
 ·exact by simp only [aB, aN, Ke]; rw [mW, nodesL]; omega
 ·obtain ⟨h1, a, b⟩ := DX h
  have := E3 f
  simp only [aU]
  split
  ·show mW (vq f) ≤ 64; omega
  ·rw [Ke, mW, nodesL]; omega
theorem Uk (f g : Formula) (a : mW f ≤ 10000000) (b : mW g ≤ 10000000) : AM f g = some (Bk ⟨2, 0, tY, [f, g]⟩) := by
 unfold AM
 have := Oq ⟨2, 0, tY, [f, g]⟩ (by show mW _ ≤ _; rw [mW, nodesL, nodesL, nodesL]; omega)
 rw [show (⟨2, 0, (⟨zS, zS⟩ : lC), [f, g]⟩ : Formula) = ⟨2, 0, tY, [f, g]⟩ from rfl, this]
 rfl
mutual
def uo (v : lC → Bool) : Formula → Bool
 | ⟨o, k, r, ks⟩ => if o = 1 then v r else if o = 2 then decide (evN v ks = ks.length) else if o = 3 then decide (0 < evN v ks) else decide (k ≤ (evN v ks : Int))
def evN (v : lC → Bool) : List Formula → Nat
 | [] => 0
 | k :: ks => (if uo v k then 1 else 0) + evN v ks
end
theorem AA (v : lC → Bool) (f : Formula) : uo v f = if f.Op = 1 then v f.lC else if f.Op = 2 then decide (evN v f.Kids = f.Kids.length) else if f.Op = 3 then decide (0 < evN v f.Kids) else decide (f.K ≤ (evN v f.Kids : Int)) := by cases f; rw [uo]
theorem Nn (v : lC → Bool) : ∀ a : List Formula, evN v a ≤ a.length
 | [] => by rw [evN]; exact bA _
 | k :: a => by have := Nn v a; rw [evN, aO]; split <;> omega
theorem HR (v : lC → Bool) : ∀ a : List Formula, evN v a = a.length ↔ ∀ k ∈ a, uo v k = true
 | [] => by rw [evN]; simp
 | k :: a => by
  have h1 := Nn v a
  have b := HR v a
  rw [evN, aO]
  simp only [cE, ← b]
  cases uo v k <;> simp <;> omega
theorem KA (v : lC → Bool) : ∀ a : List Formula, 0 < evN v a ↔ ∃ k ∈ a, uo v k = true
 | [] => by rw [evN]; simp
 | k :: a => by
  have b := KA v a
  rw [evN]
  simp only [aS, exists_eq_or_imp, ← b]
  cases uo v k <;> simp <;> omega
theorem J9 (v : lC → Bool) (a : List Formula) : evN v a = (a.filter (uo v)).length := by
 induction a with
 | nil => rw [evN]; rfl
 | cons k a ih => rw [evN, ih, dN]; cases uo v k <;> simp <;> omega
theorem SN (v : lC → Bool) {a b : List Formula} (h : a.Perm b) : evN v a = evN v b := by
 rw [J9, J9]; exact (h.filter _).length_eq
theorem GY (v : lC → Bool) (f1 : lC → Option Bool) (rec : Formula → (lC → Option Bool) → Option Bool) (f : Formula) : ∀ (a : List Formula) (x : Nat), (∀ k ∈ a, rec k f1 = some (uo v k)) → x + a.length ≤ 100000000 →
  rN rec f1 f a (x : Int) = some (if f.Op = 2 then decide (x + evN v a = f.Kids.length) else if f.Op = 3 then decide (0 < x + evN v a) else decide (f.K ≤ ((x + evN v a : Nat) : Int)))
 | [], x, _, _ => by
  rw [rN, evN, jX]
  by_cases c2 : f.Op = 2
  ·simp only [c2, bH, aU]
   congr 1
   rw [bX, kh, bR]; omega
  ·have c : (f.Op == 2) = false := by simpa using c2
   simp only [c, aB, aN, c2]
   by_cases b : f.Op = 3
   ·simp only [b, bH, aU]
    congr 1
    rw [bX, bR, bR]; omega
   ·have g : (f.Op == 3) = false := by simpa using b
    simp only [g, aB, aN, b]
 | k :: a, x, h, i => by
  rw [aO] at i
  rw [rN, h k (by simp), aA, evN]
  cases uo v k
  ·simp only [aB, aN]
   rw [GY v f1 rec f a x (fun z d => h z (by simp [d])) (by omega), gQ]
  ·simp only [aU]
   have e : wi0 .i64 ((x : Int) + 1) = ((x + 1 : Nat) : Int) := by rw [ni (by omega) (by omega)]; omega
   rw [e, GY v f1 rec f a (x + 1) (fun z d => h z (by simp [d])) (by omega)]
   have c : x + 1 + evN v a = x + (1 + evN v a) := by omega
   rw [c]
theorem QG (v : lC → Bool) (f1 : lC → Option Bool) (g : ∀ r, f1 r = some (v r)) : ∀ (n : Nat) (f : Formula), qE f ≤ n → Gd f → si n f f1 = some (uo v f) := by
 intro n
 induction n with
 | zero => intro f h; rw [pp] at h; omega
 | succ n ih =>
  intro f b c
  rw [pp] at b
  have d := qG f
  have i := yg f.Kids
  unfold Gd at c
  rw [si]
  unfold yr
  rw [AA]
  by_cases c1 : f.Op = 1
  ·simp only [c1, bH, aU, g, aA]
  ·have a : (f.Op == 1) = false := by simpa using c1
   simp only [a, aB, aN, c1]
   have := GY v f1 (si n) f f.Kids 0 (fun k hk => ih k (by have := vN hk; omega) (by have := xk hk; unfold Gd; omega)) (by omega)
   simpa using this
def xM (v : lC → Bool) (f : Formula) : Bool := pD f && uo v f
theorem Lg (v : lC → Bool) (f1 : lC → Option Bool) (a : ∀ r, f1 r = some (v r)) (f : Formula) (h : Gd f) : uQ f f1 = some (xM v f) := by
 unfold uQ xM
 rw [Ch f h, aA]
 have := Ab f
 cases pD f
 ·rfl
 ·unfold Gd at h
  simp only [aU, QG v f1 a mR f (by rw [pa]; omega) h, aA, eU]
theorem JL (op : Int) (f : Formula) : pf op f = true ↔ f.Op = op ∧ f.Kids = [] := by
 unfold pf; simp
theorem Ln (v : lC → Bool) {f : Formula} (h : pf 2 f = true) : uo v f = true := by
 obtain ⟨h1, a⟩ := (JL 2 f).1 h
 rw [AA, h1, a, evN]; rfl
theorem Ly (v : lC → Bool) {f : Formula} (h : pf 3 f = true) : uo v f = false := by
 obtain ⟨h1, a⟩ := (JL 3 f).1 h
 rw [AA, h1, a, evN]; rfl
def xw (v : lC → Bool) (a : List Formula) : Bool := a.all (uo v)
def xv (v : lC → Bool) (a : List Formula) : Bool := a.any (uo v)
theorem Qs (v : lC → Bool) (k : Int) (r : lC) (a : List Formula) : uo v ⟨2, k, r, a⟩ = xw v a := by
 rw [AA, bX]; simp [xw, HR]
theorem Ru (v : lC → Bool) (k : Int) (r : lC) (a : List Formula) : uo v ⟨3, k, r, a⟩ = xv v a := by
 rw [AA, bX]; simp [xv, KA]
theorem MT (v : lC → Bool) : ∀ a : List Formula, xw v (rB 2 a) = xw v a
 | [] => rfl
 | k :: a => by
  have ih := MT v a
  unfold xw at ih ⊢
  rw [rB, List.all_append, ih, jH]
  congr 1
  split
  ·rename_i h
   obtain ⟨o, n, r, l⟩ := k
   simp only at h; subst h
   exact (Qs v n r l).symm
  ·simp
theorem MK (v : lC → Bool) : ∀ a : List Formula, xv v (rB 3 a) = xv v a
 | [] => rfl
 | k :: a => by
  have ih := MK v a
  unfold xv at ih ⊢
  rw [rB, List.any_append, ih, jI]
  congr 1
  split
  ·rename_i h
   obtain ⟨o, n, r, l⟩ := k
   simp only at h; subst h
   exact (Ru v n r l).symm
  ·simp
theorem QM (l : List Formula) (x : Formula) : x ∈ dd BH (B4 l) ↔ x ∈ l := by
 rw [QO (fun _ _ => Ox), (CH l).mem_iff]
theorem Q8 {v : lC → Bool} {a b : List Formula} (h : ∀ x, x ∈ a ↔ x ∈ b) : xw v a = xw v b := by
 unfold xw; rw [bX, gE, gE]
 exact ⟨fun q x c => q x ((h x).2 c), fun q x c => q x ((h x).1 c)⟩
theorem QU {v : lC → Bool} {a b : List Formula} (h : ∀ x, x ∈ a ↔ x ∈ b) : xv v a = xv v b := by
 unfold xv; rw [bX, fB, fB]
 exact ⟨fun ⟨x, c, q⟩ => ⟨x, (h x).1 c, q⟩, fun ⟨x, c, q⟩ => ⟨x, (h x).2 c, q⟩⟩
theorem Kg (v : lC → Bool) (a : List Formula) : uo v (uI 2 a) = xw v a := by
 rw [← MT]
 unfold uI
 split
 ·rename_i h
  rw [show (5 - 2 : Int) = 3 from rfl, Ru]
  obtain ⟨x, b, he⟩ := fB.1 h
  have : xw v (rB 2 a) = false := by
   unfold xw; rw [List.all_eq_false]; exact ⟨x, b, by rw [Ly v he]; simp⟩
  rw [this]; rfl
 ·rw [← Q8 (QM (rB 2 a))]
  generalize dd BH (B4 (rB 2 a)) = r
  split
  ·simp [xw]
  ·exact Qs v 0 tY r
theorem J5 (v : lC → Bool) (a : List Formula) : uo v (uI 3 a) = xv v a := by
 rw [← MK]
 unfold uI
 split
 ·rename_i h
  rw [show (5 - 3 : Int) = 2 from rfl, Qs]
  obtain ⟨x, b, he⟩ := fB.1 h
  have : xv v (rB 3 a) = true := by
   unfold xv; rw [fB]; exact ⟨x, b, Ln v he⟩
  rw [this]; rfl
 ·rw [← QU (QM (rB 3 a))]
  generalize dd BH (B4 (rB 3 a)) = r
  split
  ·simp [xv]
  ·exact Ru v 0 tY r
theorem LG (v : lC → Bool) : ∀ a : List Formula, evN v a = (a.filter (pf 2)).length + evN v (a.filter fun x => !pf 2 x && !pf 3 x)
 | [] => rfl
 | k :: a => by
  have ih := LG v a
  rw [evN, dN, dN, ih]
  cases b : pf 2 k
  ·cases c : pf 3 k
   ·simp only [dI, Bool.and_self, aB, aN, aU]
    rw [evN]; omega
   ·rw [Ly v c]; simp
  ·rw [Ln v b]; simp; omega
theorem PY (v : lC → Bool) (k : Int) (a : List Formula) : uo v (yB k a) = decide (k ≤ (evN v a : Int)) := by
 have c := LG v a
 unfold yB
 simp only
 generalize b : a.filter (fun x => !pf 2 x && !pf 3 x) = l at *
 generalize (a.filter (pf 2)).length = m at *
 have hle := Nn v l
 have ha := HR v l
 have hp := KA v l
 split
 ·rw [Qs]; simp [xw]; omega
 ·split
  ·rw [Ru]; simp [xv]; omega
  ·split
   ·rw [Kg, bX, bR]
    unfold xw
    rw [gE, ← ha]; omega
   ·split
    ·rw [J5, bX, bR]
     unfold xv
     rw [fB, ← hp]; omega
    ·rw [AA]
     simp only [SN v (CH l)]
     have : ¬ ((4 : Int) = 1) := by omega
     have : ¬ ((4 : Int) = 2) := by omega
     have : ¬ ((4 : Int) = 3) := by omega
     simp only [*, aN]
     rw [bX, bR, bR]; omega
theorem Se (v : lC → Bool) : ∀ f : Formula, xO f = true → uo v (vq f) = uo v f := by
 refine MN fun f ih hw => ?_
 obtain ⟨h1, i, j⟩ := EI hw
 rw [Hy, gE] at i
 have key : ∀ d : List Formula, (∀ k ∈ d, uo v (vq k) = uo v k) → evN v (shapeL d) = evN v d ∧ xw v (shapeL d) = xw v d ∧ xv v (shapeL d) = xv v d := by
  intro d
  induction d with
  | nil => intro _; rw [shapeL]; exact ⟨rfl, rfl, rfl⟩
  | cons k d g =>
   intro hk
   obtain ⟨a, b, c⟩ := g (fun x m => hk x (by simp [m]))
   have h := hk k (by simp)
   unfold xw xv at *
   rw [shapeL, evN, evN, a, h, jH, jH, jI, jI, b, c, h]
   exact ⟨rfl, rfl, rfl⟩
 obtain ⟨a, b, c⟩ := key f.Kids (fun k hk => ih k hk (i k hk))
 obtain ⟨o, n, r, l⟩ := f
 simp only at *
 rw [EF]
 simp only
 rcases j with h | h | h
 ·simp only [h.1, aU]
 ·rcases h.1 with h | h
  ·subst h
   rw [Qs]
   exact (Kg v _).trans b
  ·subst h
   rw [Ru]
   exact (J5 v _).trans c
 ·obtain ⟨h, _⟩ := h
  subst h
  rw [AA v ⟨4, n, r, l⟩]
  exact (PY v n _).trans (by rw [a]; rfl)
end Go.Proofs.YtklbhegeiijbjaaGreat
