/- a part of a proof of LeastStays -/
import Derived.Test.YtmlncblocfcmiaaGreatRtVs
import Derived.Test.YtmlncblocfcmiaaGreatL5Ms
set_option linter.all false
namespace Go.Proofs.YtmlncblocfcmiaaGreat
open Go.RowKit
theorem Ec {c x : Bool} : (if c = true then some x else some false : Option Bool) = some (c && x) := by cases c <;> rfl
theorem Rw {c x : Bool} : (if c = true then some true else some x : Option Bool) = some (c || x) := by cases c <;> rfl
theorem pU {α : Type} (x : Option α) : (x.bind fun y => some y) = x := by cases x <;> rfl
theorem lJ {x : Int} (a : -9223372036854775808 ≤ x) (h1 : x ≤ 9223372036854775807) : IntKind.i64.wrap x = x := IntWalk.i64_in _ (by omega)
theorem nP {α : Type} (A : List α) (x : α) (B : List α) (i : Int) (h : i = (A.length : Int)) : mF (A ++ x :: B) i = some x := by
 subst h; rw [Fk]; simp
theorem ni : lE = 18446744073709551615 + 1 := by rw [xO]
def DX {α : Type} (f1 : α → Option Bool) (z : α) : Nat → List α → Int → Int → Option (List α)
 | 0, _, _, _ => none
 | n + 1, l, i, j => if decide (j < (l.length : Int)) then
   ((mF l j).bind fun x => (f1 x).bind fun r => if (!r) then (mF l i).bind fun _ => some (l.set (Int.toNat i) x, IntKind.i64.wrap (i + 1)) else some (l, i) : Option (List α × Int)).bind fun (b, a) => DX f1 z n b a (IntKind.i64.wrap (j + 1))
  else (qZ (decide (0 ≤ i) && decide (i ≤ (l.length : Int)))).bind fun _ => (qZ (decide (0 ≤ i) && decide (i ≤ ((pa l (Int.toNat i) z).length : Int)))).bind fun _ => some ((pa l (Int.toNat i) z).take (Int.toNat i))
theorem Bs {a b : Int} (d : 0 ≤ a) (h1 : a ≤ b) : qZ (decide (0 ≤ a) && decide (a ≤ b)) = some () := by simp [qZ, d, h1]
theorem JI {α : Type} (f1 : α → Option Bool) (p : α → Bool) (z : α) : ∀ (rest out mid : List α) (n : Nat), rest.length < n → (out ++ mid ++ rest).length < 4611686018427387904 → mid ≠ [] → (∀ x ∈ rest, f1 x = some (p x)) →
  DX f1 z n (out ++ mid ++ rest) (out.length : Int) ((out.length + mid.length : Nat) : Int) = some (out ++ rest.filter fun x => !p x)
 | [], out, mid, 0, h, _, _, _ => by simp at h
 | [], out, mid, n + 1, _, b, hm, _ => by
  rw [DX, aY (by simp)]
  have h1 : out.length ≤ (out ++ mid ++ []).length := by simp
  rw [Bs (by omega) (by omega)]
  simp only [aA]
  rw [Bs (by omega) (by rw [uR _ _ _ (by simpa using h1)]; omega)]
  simp only [aA, dJ]
  rw [FU _ _ _ h1]
  simp
 | x :: rest, out, mid, 0, h, _, _, _ => by simp at h
 | x :: rest, out, mid, n + 1, h, b, hm, d => by
  have hlen : (out ++ mid ++ x :: rest).length = out.length + mid.length + rest.length + 1 := by simp; omega
  rw [hlen] at b
  rw [DX, aT (by rw [hlen]; simp; omega)]
  rw [nP (out ++ mid) x rest _ (by simp)]
  simp only [aA, d x (by simp)]
  rw [lJ (x := ((out.length + mid.length : Nat) : Int) + 1) (by omega) (by omega)]
  have ih := JI f1 p z rest
  cases hp : p x with
  | true =>
   simp only [cA, aB, aG, aA]
   have := ih out (mid ++ [x]) n (by simp at h; omega) (by simp; omega) (by simp) (fun y g => d y (by simp [g]))
   simp only [aH, bO, aU, aD, aI, bU] at this ⊢
   rw [show ((out.length + mid.length : Nat) : Int) + 1 = ((out.length + (mid.length + (0 + 1)) : Nat) : Int) by omega, this]
   simp [hp]
  | false =>
   obtain ⟨m, a, rfl⟩ : ∃ m a, mid = m :: a := by cases mid with
    | nil => exact absurd rfl hm
    | cons m a => exact ⟨m, a, rfl⟩
   simp only [cX, aJ]
   rw [aH out (m :: a) (x :: rest), bO]
   rw [nP out m (a ++ x :: rest) _ rfl]
   simp only [aA]
   rw [lJ (x := (out.length : Int) + 1) (by omega) (by simp at b; omega)]
   have := ih (out ++ [x]) (a ++ [x]) n (by simp at h; omega) (by simp at b ⊢; omega) (by simp) (fun y g => d y (by simp [g]))
   simp only [aH, bO, aU, aD, aI, bU] at this
   have i : (out ++ m :: (a ++ x :: rest)).set (Int.toNat (out.length : Int)) x = out ++ x :: (a ++ x :: rest) := by
    rw [dJ, List.set_append_right _ _ (aO _)]; simp
   rw [i]
   simp only [aI] at b ⊢
   rw [show (out.length : Int) + 1 = ((out.length + (0 + 1) : Nat) : Int) by omega, show ((out.length + (a.length + 1) : Nat) : Int) + 1 = ((out.length + (0 + 1) + (a.length + (0 + 1)) : Nat) : Int) by omega, this]
   simp [hp]
def zQ {α : Type} (f1 : α → Option Bool) : List α → Nat → Option Int
 | [], _ => some (-1)
 | x :: xs, i => (f1 x).bind fun r => if r then some (i : Int) else zQ f1 xs (i + 1)
theorem DW {α : Type} (f1 : α → Option Bool) (p : α → Bool) : ∀ (l : List α) (i : Nat), (∀ x ∈ l, f1 x = some (p x)) →
  (zQ f1 l i = some (-1) ∧ ∀ x ∈ l, p x = false) ∨ ∃ A x B, l = A ++ x :: B ∧ (∀ y ∈ A, p y = false) ∧ p x = true ∧ zQ f1 l i = some ((i + A.length : Nat) : Int)
 | [], i, _ => .inl ⟨rfl, by simp⟩
 | x :: l, i, h => by
  rw [zQ, h x (by simp)]
  simp only [aA]
  cases hp : p x with
  | true => exact .inr ⟨[], x, l, rfl, by simp, hp, by simp⟩
  | false =>
   simp only [aB, aG]
   rcases DW f1 p l (i + 1) (fun y a => h y (by simp [a])) with ⟨h1, b⟩ | ⟨A, y, B, rfl, h1, b, g⟩
   ·exact .inl ⟨h1, by intro y a; rcases aK.1 a with rfl | a; exact hp; exact b y a⟩
   ·refine .inr ⟨x :: A, y, B, rfl, ?_, b, ?_⟩
    ·intro z d; rcases aK.1 d with rfl | d
     ·exact hp
     ·exact h1 z d
    ·rw [g]; simp; omega
def HJ {α : Type} (f1 : α → Option Bool) (z : α) (l : List α) : Option (List α) :=
 (zQ f1 l 0).bind fun a => if (a == (-1)) then some l else DX f1 z lE l a (IntKind.i64.wrap (a + 1))
theorem Js {α : Type} (f1 : α → Option Bool) (p : α → Bool) (z : α) (l : List α) (d : l.length < 4611686018427387904) (h : ∀ x ∈ l, f1 x = some (p x)) : HJ f1 z l = some (l.filter fun x => !p x) := by
 unfold HJ
 rcases DW f1 p l 0 h with ⟨h1, b⟩ | ⟨A, x, B, rfl, h1, b, g⟩
 ·rw [h1]
  simp only [aA, aV, aJ]
  rw [iL.2 (fun y a => by simp [b y a])]
 ·rw [g]
  simp only [aA, eL]
  rw [aY (by simp), lJ (by omega) (by simp at d; omega)]
  have := JI f1 p z B A [x] lE (by rw [xO]; simp at d; omega) (by simpa using d) (by simp) (fun y a => h y (by simp [a]))
  simp only [aH, bO, aU, aI, bU] at this
  rw [show (A.length : Int) + 1 = ((A.length + (0 + 1) : Nat) : Int) by omega, this]
  have i : A.filter (fun x => !p x) = A := iL.2 (fun y a => by simp [h1 y a])
  rw [jO, i]
  simp [b]
def nV {α : Type} (eq : α → α → Bool) : α → List α → List α
 | _, [] => []
 | p, y :: ys => if eq y p then nV eq y ys else y :: nV eq y ys
def dd {α : Type} (eq : α → α → Bool) : List α → List α
 | [] => []
 | x :: xs => x :: nV eq x xs
def BZ {α : Type} (eq : α → α → Bool) (i : Int) : Nat → List α → Int → Int → Option (List α × Int)
 | 0, _, _, _ => none
 | n + 1, l, k, j => if decide (j < ((l.length - Int.toNat i : Nat) : Int)) then
   ((mF (l.drop (Int.toNat i)) j).bind fun x => (mF (l.drop (Int.toNat i)) (IntKind.i64.wrap (j - 1))).bind fun y => if !(eq x y) then (mF (l.drop (Int.toNat i)) j).bind fun z => (mF l k).bind fun _ => some (l.set (Int.toNat k) z, IntKind.i64.wrap (k + 1)) else some (l, k) : Option (List α × Int)).bind fun (a, k') => BZ eq i n a k' (IntKind.i64.wrap (j + 1))
  else some (l, k)
def Cy {α : Type} (eq : α → α → Bool) (z : α) (l : List α) : Nat → Int → Option (List α)
 | 0, _ => none
 | n + 1, i => if decide (i < (l.length : Int)) then (mF l i).bind fun x => (mF l (IntKind.i64.wrap (i - 1))).bind fun y => if eq x y then
    (qZ (decide (0 ≤ i) && decide (i ≤ (l.length : Int)))).bind fun _ => (BZ eq i lE l i 1).bind fun (a, k) => (qZ (decide (0 ≤ k) && decide (k ≤ (a.length : Int)))).bind fun _ => (qZ (decide (0 ≤ k) && decide (k ≤ ((pa a (Int.toNat k) z).length : Int)))).bind fun _ => some ((pa a (Int.toNat k) z).take (Int.toNat k))
   else Cy eq z l n (IntKind.i64.wrap (i + 1))
  else some l
def JA {α : Type} (eq : α → α → Bool) (z : α) (l : List α) : Option (List α) := if decide ((l.length : Int) < 2) then some l else Cy eq z l lE 1
theorem I4 {α : Type} (l : List α) (i : Nat) (j : Int) (a : 0 ≤ j) : mF (l.drop i) j = mF l ((i : Int) + j) := by
 obtain ⟨m, rfl⟩ : ∃ m : Nat, j = m := ⟨j.toNat, by omega⟩
 rw [show (i : Int) + (m : Int) = ((i + m : Nat) : Int) by omega, Fk, Fk, dU]
theorem Gt {α : Type} (eq : α → α → Bool) (i : Nat) : ∀ (rest out mid : List α) (p : α) (n : Nat), rest.length < n → (out ++ (mid ++ [p]) ++ rest).length < 4611686018427387904 → 1 ≤ i → i ≤ out.length →
  ∃ b, BZ eq (i : Int) n (out ++ (mid ++ [p]) ++ rest) (out.length : Int) ((out.length + mid.length + 1 - i : Nat) : Int) = some (b, ((out ++ nV eq p rest).length : Int)) ∧ b.take (out ++ nV eq p rest).length = out ++ nV eq p rest ∧ (out ++ nV eq p rest).length ≤ b.length
 | [], out, mid, p, 0, h, _, _, _ => by simp at h
 | [], out, mid, p, n + 1, h, l, h1, k => by
  rw [BZ, aY (by simp; omega)]
  exact ⟨out ++ (mid ++ [p]) ++ [], by simp [nV], by simp [nV], by simp [nV]⟩
 | x :: rest, out, mid, p, 0, h, _, _, _ => by simp at h
 | x :: rest, out, mid, p, n + 1, h, l, h1, k => by
  have hlen : (out ++ (mid ++ [p]) ++ x :: rest).length = out.length + mid.length + rest.length + 2 := by simp; omega
  rw [hlen] at l
  rw [BZ, aT (by rw [hlen]; simp; omega)]
  rw [dJ, I4 _ _ _ (by omega), nP (out ++ (mid ++ [p])) x rest _ (by simp; omega)]
  simp only [aA]
  rw [lJ (x := ((out.length + mid.length + 1 - i : Nat) : Int) - 1) (by omega) (by omega), I4 _ _ _ (by omega)]
  rw [show out ++ (mid ++ [p]) ++ x :: rest = (out ++ mid) ++ p :: (x :: rest) by simp]
  rw [nP (out ++ mid) p (x :: rest) _ (by simp; omega)]
  simp only [aA]
  rw [lJ (x := ((out.length + mid.length + 1 - i : Nat) : Int) + 1) (by omega) (by omega)]
  cases hp : eq x p with
  | true =>
   simp only [cA, aB, aG, aA]
   obtain ⟨b, d, g, j⟩ := Gt eq i rest out (mid ++ [p]) x n (by simp at h; omega) (by simp; omega) h1 k
   refine ⟨b, ?_, by rw [nV, hp]; exact g, by rw [nV, hp]; exact j⟩
   rw [nV, hp, aT rfl, ← d]
   congr 1
   ·simp
   ·simp; omega
  | false =>
   simp only [cX, aJ]
   obtain ⟨m, a, hm⟩ : ∃ m a, mid ++ [p] = m :: a := by cases mid with
    | nil => exact ⟨p, [], rfl⟩
    | cons m a => exact ⟨m, a ++ [p], rfl⟩
   have r : a.length = mid.length := by have := bI List.length hm; simp at this; omega
   rw [show (out ++ mid) ++ p :: (x :: rest) = out ++ m :: (a ++ x :: rest) by rw [← bO, ← hm]; simp]
   rw [nP out m (a ++ x :: rest) _ rfl]
   simp only [aA]
   rw [lJ (x := (out.length : Int) + 1) (by omega) (by omega)]
   have s : (out ++ m :: (a ++ x :: rest)).set (Int.toNat (out.length : Int)) x = (out ++ [x]) ++ (a ++ [x]) ++ rest := by
    rw [dJ, List.set_append_right _ _ (aO _)]; simp
   rw [s]
   obtain ⟨b, d, g, j⟩ := Gt eq i rest (out ++ [x]) a x n (by simp at h; omega) (by simp; omega) h1 (by simp; omega)
   refine ⟨b, ?_, ?_, ?_⟩
   ·rw [nV, hp, aY (by decide)]
    have q : ((out ++ x :: nV eq x rest).length : Int) = ((out ++ [x] ++ nV eq x rest).length : Int) := by simp
    rw [q, ← d]
    congr 1
    ·simp
    ·simp; omega
   ·rw [nV, hp, aY (by decide)]; simpa using g
   ·rw [nV, hp, aY (by decide)]; simpa using j
theorem J3 {α : Type} (eq : α → α → Bool) (z : α) : ∀ (rest pre : List α) (p : α) (n : Nat), rest.length < n → (pre ++ p :: rest).length < 4611686018427387904 →
  Cy eq z (pre ++ p :: rest) n ((pre.length + 1 : Nat) : Int) = some (pre ++ p :: nV eq p rest)
 | [], pre, p, 0, h, _ => by simp at h
 | [], pre, p, n + 1, h, i => by rw [Cy, aY (by simp)]; simp [nV]
 | x :: rest, pre, p, 0, h, _ => by simp at h
 | x :: rest, pre, p, n + 1, h, i => by
  have hlen : (pre ++ p :: x :: rest).length = pre.length + rest.length + 2 := by simp; omega
  rw [hlen] at i
  rw [Cy, aT (by rw [hlen]; simp; omega)]
  rw [show pre ++ p :: x :: rest = (pre ++ [p]) ++ x :: rest by simp, nP (pre ++ [p]) x rest _ (by simp)]
  simp only [aA]
  rw [lJ (x := ((pre.length + 1 : Nat) : Int) - 1) (by omega) (by omega)]
  rw [show (pre ++ [p]) ++ x :: rest = pre ++ p :: (x :: rest) by simp, nP pre p (x :: rest) _ (by omega)]
  simp only [aA]
  cases hp : eq x p with
  | true =>
   simp only [aJ]
   rw [Bs (by omega) (by rw [hlen]; omega)]
   simp only [aA]
   obtain ⟨j, a, g, d⟩ := Gt eq (pre.length + 1) rest (pre ++ [p]) [] x lE (by rw [xO]; omega) (by simp; omega) (by omega) (by simp)
   simp only [aH, bO, aU, aD, aI, bU] at a g d
   rw [show (pre.length + (0 + 1) + 0 + 1 - (pre.length + 1) : Nat) = 1 by omega] at a
   rw [show ((pre.length + 1 : Nat) : Int) = ((pre.length + (0 + 1) : Nat) : Int) by omega] at *
   have b : BZ eq ((pre.length + (0 + 1) : Nat) : Int) lE (pre ++ p :: x :: rest) ((pre.length + (0 + 1) : Nat) : Int) 1 = _ := a
   rw [b]
   simp only [aA]
   rw [Bs (by omega) (by omega)]
   simp only [aA, dJ]
   rw [Bs (by omega) (by rw [uR _ _ _ d]; omega)]
   simp only [aA]
   rw [FU _ _ _ d, g, nV, hp]
   simp
  | false =>
   simp only [aB, aG]
   rw [lJ (x := ((pre.length + 1 : Nat) : Int) + 1) (by omega) (by omega)]
   have := J3 eq z rest (pre ++ [p]) x n (by simp at h; omega) (by simp; omega)
   simp only [aH, bO, aU, aD, aI, bU] at this
   rw [show ((pre.length + 1 : Nat) : Int) + 1 = ((pre.length + (0 + 1) + 1 : Nat) : Int) by omega, this, nV, hp]
   simp
theorem Ka {α : Type} (eq : α → α → Bool) (z : α) (l : List α) (a : l.length < 4611686018427387904) : JA eq z l = some (dd eq l) := by
 unfold JA
 cases l with
 | nil => rfl
 | cons x xs =>
  cases xs with
  | nil => simp [dd, nV]
  | cons y ys =>
   rw [aY (by simp; omega)]
   have := J3 eq z (y :: ys) [] x lE (by rw [xO]; simp at a ⊢; omega) (by simpa using a)
   simpa [dd] using this
structure AO {α : Type} (lt : α → α → Prop) (P : α → Prop) : Prop where
 irrefl : ∀ x, P x → ¬ lt x x
 trans : ∀ x y z, P x → P y → P z → lt x y → lt y z → lt x z
 total : ∀ x y, P x → P y → lt x y ∨ x = y ∨ lt y x
def wZ {α : Type} (lt : α → α → Prop) (P : α → Prop) (l out : List α) : Prop := out.Pairwise lt ∧ ∀ x, x ∈ out ↔ x ∈ l ∧ P x
theorem wZ.unique {α : Type} {lt : α → α → Prop} {P : α → Prop} (H : AO lt P) : ∀ {l a b : List α}, wZ lt P l a → wZ lt P l b → a = b := by
 have key : ∀ a b : List α, (∀ x ∈ a, P x) → a.Pairwise lt → b.Pairwise lt → (∀ x, x ∈ a ↔ x ∈ b) → a = b := by
  intro a
  induction a with
  | nil => intro b _ _ _ hm; cases b with
   | nil => rfl
   | cons y ys => exact absurd ((hm y).2 (by simp)) (by simp)
  | cons x xs ih =>
   intro b n ha k hm
   cases b with
   | nil => exact absurd ((hm x).1 (by simp)) (by simp)
   | cons y ys =>
    have p : P y := n y ((hm y).2 (by simp))
    have d : P x := n x (by simp)
    have g := cK.1 ha
    have i := cK.1 k
    have q : x = y := by
     rcases aK.1 ((hm x).1 (by simp)) with h | h
     ·exact h
     ·rcases aK.1 ((hm y).2 (by simp)) with m | m
      ·exact m.symm
      ·exact absurd (H.trans x y x d p d (g.1 y m) (i.1 x h)) (H.irrefl x d)
    subst q
    congr 1
    refine ih ys (fun z j => n z (by simp [j])) g.2 i.2 (fun z => ?_)
    constructor
    ·intro j
     rcases aK.1 ((hm z).1 (by simp [j])) with h | h
     ·subst h; exact absurd (g.1 z j) (H.irrefl z d)
     ·exact h
    ·intro j
     rcases aK.1 ((hm z).2 (by simp [j])) with h | h
     ·subst h; exact absurd (i.1 z j) (H.irrefl z d)
     ·exact h
 intro l a b ha k
 exact key a b (fun x r => ((ha.2 x).1 r).2) ha.1 k.1 (fun x => (ha.2 x).trans (k.2 x).symm)
theorem DR {α : Type} {eq : α → α → Bool} (he : ∀ x y, eq x y = true ↔ x = y) : ∀ (l : List α) (p x : α), x ∈ p :: nV eq p l ↔ x ∈ p :: l
 | [], p, x => by simp [nV]
 | y :: l, p, x => by
  rw [nV]
  split
  ·rename_i h
   have := (he y p).1 h
   subst this
   rw [DR he l y x]; simp
  ·have := DR he l y x
   simp only [aK] at this ⊢
   rw [this]
theorem Jx {α : Type} {eq : α → α → Bool} (he : ∀ x y, eq x y = true ↔ x = y) (l : List α) (x : α) : x ∈ dd eq l ↔ x ∈ l := by
 cases l with
 | nil => simp [dd]
 | cons y l => exact DR he l y x
theorem Cz {α : Type} {eq : α → α → Bool} {lt : α → α → Prop} {P : α → Prop} (he : ∀ x y, eq x y = true ↔ x = y) (H : AO lt P) : ∀ (l : List α) (p : α), (∀ x ∈ p :: l, P x) → (p :: l).Pairwise (fun a b => ¬ lt b a) → (p :: nV eq p l).Pairwise lt
 | [], p, _, _ => by simp [nV]
 | y :: l, p, d, q => by
  have h1 := cK.1 q
  rw [nV]
  split
  ·rename_i h
   have := (he y p).1 h
   subst this
   exact Cz he H l y (fun x j => d x (gC _ j)) h1.2
  ·rename_i h
   have ih := Cz he H l y (fun x j => d x (gC _ j)) h1.2
   refine cK.2 ⟨fun z n => ?_, ih⟩
   have i : lt p y := by
    rcases H.total p y (d p (by simp)) (d y (by simp)) with g | g | g
    ·exact g
    ·exact absurd ((he y p).2 g.symm) h
    ·exact absurd g (h1.1 y (by simp))
   rcases aK.1 n with rfl | k
   ·exact i
   ·have m : z ∈ y :: l := (DR he l y z).1 n
    exact H.trans p y z (d p (by simp)) (d y (by simp)) (d z (gC _ m)) i ((cK.1 ih).1 z k)
theorem MV {α : Type} {eq : α → α → Bool} {lt : α → α → Prop} {P : α → Prop} (he : ∀ x y, eq x y = true ↔ x = y) (H : AO lt P) (l : List α) (d : ∀ x ∈ l, P x) (g : l.Pairwise (fun a b => ¬ lt b a)) : (dd eq l).Pairwise lt := by
 cases l with
 | nil => simp [dd]
 | cons y l => exact Cz he H l y d g
theorem Iy {α : Type} {le : α → α → Bool} {P : α → Prop} (i : ∀ a b c, P a → P b → P c → le a b = true → le b c = true → le a c = true) (h : ∀ a b, P a → P b → (le a b || le b a) = true) (l : List α) (d : ∀ x ∈ l, P x) :
  (l.mergeSort le).Pairwise (fun a b => le a b = true) := by
 have e : l = (l.attachWith P d).map Subtype.val := by simp
 have hm : ((l.attachWith P d).mergeSort fun a b => le a.1 b.1).map Subtype.val = l.mergeSort le := by
  conv => rhs; rw [e]
  exact jN (fun a _ b _ => rfl)
 rw [← hm, gV]
 exact iX (le := fun (a b : {x // P x}) => le a.1 b.1) (fun a b c h1 g => i a.1 b.1 c.1 a.2 b.2 c.2 h1 g) (fun a b => h a.1 b.1 a.2 b.2) _
theorem FT {α : Type} {eq : α → α → Bool} {lt : α → α → Prop} {P : α → Prop} {cf : α × α → Option Int} {l : List α} (he : ∀ x y, eq x y = true ↔ x = y) (H : AO lt P) (g : ∀ x ∈ l, P x) (A : l.length < 4611686018427387904) (w : ∀ x y, P x → P y → ∃ c, cf (x, y) = some c ∧ (c < 0 ↔ lt x y)) : ∃ s, Ak cf l = some s ∧ s.length = l.length ∧ wZ lt P l (dd eq s) := by
 have j : ∀ x y, P x → P y → (uX cf x y = true ↔ lt x y) := fun x y i n => by
  obtain ⟨c, h1, m⟩ := w x y i n
  unfold uX
  rw [h1]
  simpa using m
 have d : ∀ x y, P x → P y → (uX cf x y = false ↔ ¬ lt x y) := fun x y i n => by
  rw [← j x y i n]; simp
 have ok : EM cf l := by
  refine ⟨fun x i y n => ?_, fun x i => ?_, fun x i y n z u h1 m => ?_, fun x i y n h1 m => ?_, A⟩
  ·obtain ⟨c, h1, _⟩ := w x y (g x i) (g y n); exact ⟨c, h1⟩
  ·exact (d x x (g x i) (g x i)).2 (H.irrefl x (g x i))
  ·rw [j _ _ (g x i) (g y n)] at h1
   rw [j _ _ (g y n) (g z u)] at m
   rw [j _ _ (g x i) (g z u)]
   exact H.trans x y z (g x i) (g y n) (g z u) h1 m
  ·rw [d _ _ (g x i) (g y n)] at h1
   rw [d _ _ (g y n) (g x i)] at m
   rcases H.total x y (g x i) (g y n) with h | h | h
   ·exact absurd h h1
   ·exact h
   ·exact absurd h m
 refine ⟨_, Pa ok, by simp [ur], ?_, ?_⟩
 ·have k : ∀ x, x ∈ ur cf l ↔ x ∈ l := fun x => by simp [ur]
  refine MV he H _ (fun x i => g x ((k x).1 i)) ?_
  have := Iy (le := fun x y => !uX cf y x) (P := P) (fun a b c ha p q h1 m => ?_) (fun a b ha p => ?_) l g
  ·refine (this.imp_of_mem ?_ : _)
   intro a b ha p h
   have r : a ∈ l := (k a).1 ha
   have t : b ∈ l := (k b).1 p
   simp at h
   exact (d b a (g b t) (g a r)).1 h
  ·simp at h1 m ⊢
   rw [d _ _ p ha] at h1
   rw [d _ _ q p] at m
   rw [d _ _ q ha]
   intro v
   rcases H.total a b ha p with h | h | h
   ·exact m (H.trans c a b q ha p v h)
   ·subst h; exact m v
   ·exact h1 h
  ·simp only [gN, gZ]
   rw [d _ _ p ha, d _ _ ha p]
   by_cases h : lt b a
   ·right; intro m; exact H.irrefl a ha (H.trans a b a ha p ha m h)
   ·exact .inl h
 ·intro x
  rw [Jx he]
  constructor
  ·intro i
   have : x ∈ l := by simpa [ur] using i
   exact ⟨this, g x this⟩
  ·intro i; simpa [ur] using i.1
end Go.Proofs.YtmlncblocfcmiaaGreat
namespace Go.Proofs.YtmlncblocfcmiaaGreat
open Go.RowKit
theorem vU : ∀ a : List UInt8, Op.bytesLess a a = false
 | [] => rfl
 | x :: a => by simp [Op.bytesLess, vU a]
theorem JZ (x y : UInt8) : x < y ∨ x = y ∨ y < x := by
 rcases Nat.lt_trichotomy x.toNat y.toNat with h | h | h
 ·exact .inl h
 ·exact .inr (.inl (UInt8.toNat_inj.1 h))
 ·exact .inr (.inr h)
theorem yE : ∀ a b c : List UInt8, Op.bytesLess a b = true → Op.bytesLess b c = true → Op.bytesLess a c = true
 | [], [], c, h1, _ => by simp [Op.bytesLess] at h1
 | _ :: _, [], c, h1, _ => by simp [Op.bytesLess] at h1
 | a, _ :: _, [], _, d => by simp [Op.bytesLess] at d
 | [], b :: bs, c :: cs, _, _ => rfl
 | a :: ax, b :: bs, c :: cs, h1, d => by
  simp only [Op.bytesLess, gN, bK, aZ, iT] at h1 d ⊢
  rcases h1 with h1 | ⟨rfl, h1⟩
  ·rcases d with d | ⟨rfl, d⟩
   ·exact .inl (UInt8.lt_trans h1 d)
   ·exact .inl h1
  ·rcases d with d | ⟨rfl, d⟩
   ·exact .inl d
   ·exact .inr ⟨rfl, yE ax bs cs h1 d⟩
theorem Bz : ∀ a b : List UInt8, Op.bytesLess a b = true ∨ a = b ∨ Op.bytesLess b a = true
 | [], [] => .inr (.inl rfl)
 | [], _ :: _ => .inl rfl
 | _ :: _, [] => .inr (.inr rfl)
 | a :: ax, b :: bs => by
  simp only [Op.bytesLess, gN, bK, aZ, iT, aX]
  rcases JZ a b with h | h | h
  ·exact .inl (.inl h)
  ·subst h
   rcases Bz ax bs with h | h | h
   ·exact .inl (.inr ⟨rfl, h⟩)
   ·exact .inr (.inl ⟨rfl, h⟩)
   ·exact .inr (.inr (.inr ⟨rfl, h⟩))
  ·exact .inr (.inr (.inl h))
theorem Dl : ∀ a b : List UInt8, (Lib.compareBytes a b < 0 ↔ Op.bytesLess a b = true)
 | [], [] => by simp [Lib.compareBytes, Op.bytesLess]
 | [], _ :: _ => by simp [Lib.compareBytes, Op.bytesLess]
 | _ :: _, [] => by simp [Lib.compareBytes, Op.bytesLess]
 | a :: ax, b :: bs => by
  simp only [Lib.compareBytes, Op.bytesLess, gN, bK, aZ, iT]
  by_cases h : a < b
  ·simp [h]
  ·by_cases g : b < a
   ·have : a ≠ b := by rintro rfl; exact h g
    simp [h, g, this]
   ·have : a = b := by rcases JZ a b with d | d | d; exact absurd d h; exact d; exact absurd d g
    subst this
    simp [h, Dl ax bs]
theorem Gp : ∀ a b : List UInt8, (Lib.compareBytes a b = 0 ↔ a = b)
 | [], [] => by simp [Lib.compareBytes]
 | [], _ :: _ => by simp [Lib.compareBytes]
 | _ :: _, [] => by simp [Lib.compareBytes]
 | a :: ax, b :: bs => by
  simp only [Lib.compareBytes, aX]
  by_cases h : a < b
  ·simp only [h, aJ]
   constructor
   ·intro h; cases h
   ·rintro ⟨rfl, _⟩; exact absurd h (by simp)
  ·by_cases g : b < a
   ·simp only [h, g, aJ, aG]
    constructor
    ·intro h; cases h
    ·rintro ⟨rfl, _⟩; exact absurd g (by simp)
   ·have : a = b := by rcases JZ a b with d | d | d; exact absurd d h; exact d; exact absurd d g
    subst this
    simp [h, Gp ax bs]
theorem yO (a b : ByteArray) : rq a b = Op.bytesLess a.data.toList b.data.toList := by unfold rq; rw [gG, gG]
theorem Ap {a b : ByteArray} (h : a.data.toList = b.data.toList) : a = b := jX (Array.toList_inj.1 h)
theorem tX (a : ByteArray) : rq a a = false := by rw [yO, vU]
theorem AD {a b c : ByteArray} (h1 : rq a b = true) (d : rq b c = true) : rq a c = true := by rw [yO] at *; exact yE _ _ _ h1 d
theorem Au (a b : ByteArray) : rq a b = true ∨ a = b ∨ rq b a = true := by
 rw [yO, yO]
 rcases Bz a.data.toList b.data.toList with h | h | h
 ·exact .inl h
 ·exact .inr (.inl (Ap h))
 ·exact .inr (.inr h)
theorem Io {a b : ByteArray} (h : rq a b = true) : rq b a = false := by
 cases d : rq b a with
 | false => rfl
 | true => have := AD h d; rw [tX] at this; cases this
theorem PE (P : ByteArray → Prop) : AO (fun a b => rq a b = true) P :=
 ⟨fun x _ h => (by rw [tX] at h; cases h), fun x y z _ _ _ => AD, fun x y _ _ => Au x y⟩
def BO (b : UInt8) : Bool := decide (97 ≤ b.toNat) && decide (b.toNat ≤ 122)
def Dw (b : UInt8) : Bool := BO b || (decide (48 ≤ b.toNat) && decide (b.toNat ≤ 57)) || decide (b.toNat = 45)
def oz (s : ByteArray) : Bool := decide (1 ≤ s.size) && decide (s.size ≤ 16) && (match s.data.toList with | [] => false | b :: _ => BO b) && s.data.toList.all Dw
theorem po {s : ByteArray} (h : oz s = true) : 1 ≤ s.size ∧ s.size ≤ 16 := by
 simp only [oz, aZ, bK] at h
 exact h.1.1
theorem LZ : ∀ n : Nat, n < 256 → decide (xT (⟨#[97, 98, 99, 100, 101, 102, 103, 104, 105, 106, 107, 108, 109, 110, 111, 112, 113, 114, 115, 116, 117, 118, 119, 120, 121, 122]⟩ : ByteArray) (n : Int) ≥ 0) = BO (UInt8.ofNat n) := by decide +kernel
theorem O9 : ∀ n : Nat, n < 256 → decide (xT (⟨#[97, 98, 99, 100, 101, 102, 103, 104, 105, 106, 107, 108, 109, 110, 111, 112, 113, 114, 115, 116, 117, 118, 119, 120, 121, 122, 48, 49, 50, 51, 52, 53, 54, 55, 56, 57, 45]⟩ : ByteArray) (n : Int) < 0) = !Dw (UInt8.ofNat n) := by decide +kernel
theorem xx (s : ByteArray) : s.size = s.data.toList.length := by rw [dD]; rfl
theorem FL {s : ByteArray} (h : s.size ≤ 16) : Dy s = some (tT s) := by
 unfold Dy; rw [aT (by unfold maxLen; omega)]
theorem Jt : ∀ l : List UInt8, vK (l.map fun b => (b.toNat : Int)) = some (l.all Dw)
 | [] => rfl
 | b :: l => by
  rw [bP, vK]
  simp only [sK, px, aA]
  have a := O9 b.toNat (jP b)
  rw [a]
  simp only [jV, ju]
  cases Dw b with
  | true => simp [Jt l]
  | false => simp
theorem Il {s : ByteArray} {b : UInt8} {l : List UInt8} (h : s.data.toList = b :: l) : AQ s 0 = some b := by
 unfold AQ
 rw [aT (Int.le_refl 0)]
 have a : s.data[0]? = some b := by rw [← dM, h]; rfl
 show s[0]? = some b
 rw [← a]
 rfl
theorem zA (s : ByteArray) : tC s = some (oz s) := by
 unfold tC
 simp only [Ec, aA, pU]
 by_cases h1 : 1 ≤ s.size
 ·by_cases a : s.size ≤ 16
  ·rw [aT (by simp; omega)]
   obtain ⟨b, l, d⟩ : ∃ b l, s.data.toList = b :: l := by
    cases h : s.data.toList with
    | nil => rw [xx, h] at h1; simp at h1
    | cons b l => exact ⟨b, l, rfl⟩
   rw [Il d]
   simp only [aA, sK, px]
   rw [LZ b.toNat (jP b)]
   simp only [jV, oz, h1, a, d, bT, eJ]
   cases BO b with
   | false => simp
   | true =>
    simp only [aJ, Cw, FL a, aA, tT]
    rw [Jt, d]
    simp
  ·rw [aY (by simp; omega)]
   simp [oz, a]
 ·rw [aY (by simp; omega)]
  simp [oz, h1]
theorem PO {s : ByteArray} {A B : List UInt8} {b : UInt8} (h : s.data.toList = A ++ b :: B) (i : Int) (d : i = (A.length : Int)) : AQ s i = some b := by
 subst d
 unfold AQ
 rw [aT (by omega), dJ]
 have a : s.data[A.length]? = some b := by rw [← dM, h]; simp
 show s[A.length]? = some b
 rw [← a]
 rfl
theorem EU (s : ByteArray) (v : s.size ≤ 16) : ∀ (B A : List UInt8) (n : Nat), s.data.toList = A ++ B → B.length < n → uu s n (A.length : Int) = some (B.all Dw)
  | [], A, 0, _, h => by simp at h
  | [], A, n + 1, h, _ => by
    have : s.size = A.length := by rw [xx, h]; simp
    rw [uu, aY (by rw [this]; simp)]
    rfl
  | b :: B, A, 0, _, h => by simp at h
  | b :: B, A, n + 1, h, u => by
    have l : s.size = A.length + B.length + 1 := by rw [xx, h]; simp; omega
    rw [uu, aT (by rw [l]; simp; omega)]
    rw [PO h _ rfl]
    simp only [aA]
    rw [lJ (x := (A.length : Int) + 1) (by omega) (by omega)]
    have ih := EU s v B (A ++ [b]) n (by rw [h]; simp) (by simp at u; omega)
    rw [show ((A ++ [b]).length : Int) = (A.length : Int) + 1 by simp] at ih
    simp only [ju]
    have k : ∀ n : Nat, n < 256 → Dw (UInt8.ofNat n) = !((decide (n < 97) || decide (n > 122)) && (decide (n < 48) || decide (n > 57)) && decide (n ≠ 45)) := by decide +kernel
    have m := k b.toNat (jP b)
    simp only [jV] at m
    rw [m]
    by_cases h1 : b.toNat < 97 <;> by_cases p : b.toNat > 122 <;> by_cases q : b.toNat < 48 <;> by_cases r : b.toNat > 57 <;> by_cases t : b.toNat = 45 <;>
      first
      | omega
      | (have a : ((b.toNat : Int) < 97) = (b.toNat < 97) := by rw [iU]; omega
         have d : ((b.toNat : Int) > 122) = (b.toNat > 122) := by rw [iU]; omega
         have g : ((b.toNat : Int) < 48) = (b.toNat < 48) := by rw [iU]; omega
         have i : ((b.toNat : Int) > 57) = (b.toNat > 57) := by rw [iU]; omega
         have j : ((b.toNat : Int) != 45) = !decide (b.toNat = 45) := by rw [bN]; simp; omega
         simp [h1, p, q, r, t, a, d, g, i, j, ih])
theorem vV (a : ByteArray) : mn a a = true := nh.2 rfl
theorem QK : zS.size = 0 := rfl
theorem Px {s : ByteArray} : s = zS ↔ s.size = 0 := by
 constructor
 ·rintro rfl; rfl
 ·intro h; exact Ap (by rw [xx] at h; rw [eW.1 h]; rfl)
theorem yI (s : ByteArray) : tM s = some (oz s) := by
 unfold tM
 simp only [Rw, aA, pU]
 by_cases g : s.size = 0
 ·have : s = zS := Px.2 g
  subst this
  rw [vV]
  rfl
 ·have n : mn s zS = false := by
   cases h : mn s zS with
   | false => rfl
   | true => exact absurd (Px.1 (nh.1 h)) g
  rw [n]
  simp only [Bool.false_or]
  by_cases i : s.size ≤ 16
  ·rw [aY (by simp; omega)]
   obtain ⟨b, l, k⟩ : ∃ b l, s.data.toList = b :: l := by
    cases h : s.data.toList with
    | nil => rw [xx, h] at g; simp at g
    | cons b l => exact ⟨b, l, rfl⟩
   rw [Il k]
   simp only [aA, Rw]
   have m := EU s i s.data.toList [] lE rfl (by rw [xO, ← xx]; omega)
   simp only [bU] at m
   rw [show (0 : Int) = ((0 : Nat) : Int) from rfl] at *
   rw [m]
   have j : ((b.toNat : Int) < 97) = (b.toNat < 97) := by rw [iU]; omega
   have d : ((b.toNat : Int) > 122) = (b.toNat > 122) := by rw [iU]; omega
   have h1 : 1 ≤ s.size := by omega
   simp only [oz, h1, i, k, BO, bT, eJ, j, d]
   by_cases a : b.toNat < 97
   ·simp [a, show ¬ 97 ≤ b.toNat by omega]
   ·by_cases c : b.toNat > 122
    ·simp [a, c, show ¬ b.toNat ≤ 122 by omega]
    ·simp [a, c, show 97 ≤ b.toNat by omega, show b.toNat ≤ 122 by omega]
  ·rw [aT (by simp; omega)]
   simp [oz, i]
def nj (r : kI) : Bool := oz r.kK && oz r.kP
theorem zi (r : kI) : rf r = some (nj r) := by
 unfold rf nj
 simp only [zA, aA]
 cases oz r.kK <;> simp
theorem BL (r : kI) : uQ r = some (nj r) := by
 unfold uQ nj
 simp only [yI, aA]
 cases oz r.kK <;> simp
def Cp (a b : kI) : Bool := rq a.kK b.kK || (mn a.kK b.kK && rq a.kP b.kP)
theorem B9 (a b : kI) : zm a b = some (Cp a b) := by
 unfold zm Cp
 cases rq a.kK b.kK <;> cases mn a.kK b.kK <;> simp
theorem KT {a b : ByteArray} (h : a ≠ b) : mn a b = false := by
 cases d : mn a b with
 | false => rfl
 | true => exact absurd (nh.1 d) h
theorem Bg {a b : kI} : Cp a b = true ↔ rq a.kK b.kK = true ∨ (a.kK = b.kK ∧ rq a.kP b.kP = true) := by
 simp [Cp, nh]
theorem Sk (P : kI → Prop) : AO (fun a b => Cp a b = true) P := by
 refine ⟨fun x _ h => ?_, fun x y z _ _ _ h1 d => ?_, fun x y _ _ => ?_⟩
 ·rw [Bg] at h
  simp [tX] at h
 ·rw [Bg] at *
  rcases h1 with h1 | ⟨i, h1⟩
  ·rcases d with d | ⟨g, d⟩
   ·exact .inl (AD h1 d)
   ·exact .inl (by rw [← g]; exact h1)
  ·rcases d with d | ⟨g, d⟩
   ·exact .inl (by rw [i]; exact d)
   ·exact .inr ⟨i.trans g, AD h1 d⟩
 ·simp only [Bg]
  rcases Au x.kK y.kK with h | h | h
  ·exact .inl (.inl h)
  ·rcases Au x.kP y.kP with d | d | d
   ·exact .inl (.inr ⟨h, d⟩)
   ·refine .inr (.inl ?_)
    cases x; cases y; simp at h d; simp [h, d]
   ·exact .inr (.inr (.inr ⟨h.symm, d⟩))
  ·exact .inr (.inr (.inl h))
theorem AY (a b : kI) : ∃ c, sV a b = some c ∧ (c < 0 ↔ Cp a b = true) := by
 unfold sV
 simp only [qC, oA, aA, vE, tE]
 have h1 : ∀ a b : ByteArray, (qe a b < 0 ↔ rq a b = true) := fun a b => by rw [yO]; exact Dl _ _
 have g : ∀ a b : ByteArray, (qe a b = 0 ↔ a = b) := fun a b => by
  unfold qe; rw [Gp]; exact ⟨Ap, fun h => by rw [h]⟩
 by_cases e : qe a.kK b.kK = 0
 ·rw [aY (by simp [e])]
  have e' := (g _ _).1 e
  by_cases d : qe a.kP b.kP = 0
  ·rw [aY (by simp [d])]
   refine ⟨0, rfl, ?_⟩
   rw [Bg, e', (g _ _).1 d]
   simp [tX]
  ·rw [aT (by simp [d])]
   refine ⟨_, rfl, ?_⟩
   rw [Bg, e', h1]
   simp [tX]
 ·rw [aT (by simp [e])]
  refine ⟨_, rfl, ?_⟩
  rw [Bg, h1]
  have : a.kK ≠ b.kK := fun h => e ((g _ _).2 h)
  simp [this]
def zR : kI := ⟨zS, zS⟩
theorem Ic (a b : ByteArray) : mn a b = mn b a := by rw [bN, nh, nh]; exact eq_comm
theorem E6 (a b : kI) : lu a b = lu b a := by rw [bN, lx, lx]; exact eq_comm
theorem xt (a : kI) : lu a a = true := lx.2 rfl
def mI (c : kJ) : Bool := nj c.Head && (
 if c.Kind == 1 then oz c.lH && lu zR c.B && lu zR c.C && mn zS c.lM
 else if c.Kind == 2 then nj c.B && mn zS c.lH && lu zR c.C && mn zS c.lM
 else if c.Kind == 3 then nj c.B && mn c.B.kK c.Head.kK && oz c.lM && mn zS c.lH && lu zR c.C
 else if c.Kind == 4 then nj c.B && nj c.C && Cp c.B c.C && mn zS c.lH && mn zS c.lM
 else false)
theorem wW (c : kJ) : uC c = some (mI c) := by
 unfold uC mI
 simp only [zi, zA, aA]
 obtain ⟨k, hk, a⟩ := AY c.B c.C
 rw [hk]
 have b : decide (k < 0) = Cp c.B c.C := by rw [bN, ← a]; simp
 simp only [aA, b]
 by_cases h1 : c.Kind = 1
 ·cases nj c.Head <;> cases oz c.lH <;> simp [h1, lV, xt, vV, zR, jj]
 ·by_cases d : c.Kind = 2
  ·cases nj c.Head <;> cases nj c.B <;> simp [d, lV, xt, vV, zR, jj]
  ·by_cases g : c.Kind = 3
   ·cases nj c.Head <;> cases nj c.B <;> cases mn c.B.kK c.Head.kK <;> cases oz c.lM <;> simp [g, lV, xt, vV, zR, jj]
   ·by_cases h : c.Kind = 4
    ·cases nj c.Head <;> cases nj c.B <;> cases nj c.C <;> cases Cp c.B c.C <;> simp [h, lV, xt, vV, zR, jj]
    ·simp [h1, d, g, h]
theorem BF (c : kJ) : yw c = some (mI c) := by
 unfold yw mI
 simp only [BL, yI, B9, aA]
 rw [show (⟨zS, zS⟩ : kI) = zR from rfl, E6 c.B zR, E6 c.C zR, Ic c.lM zS, Ic c.lH zS]
 by_cases h1 : c.Kind = 1
 ·cases nj c.Head <;> cases oz c.lH <;> cases lu zR c.B <;> cases lu zR c.C <;> simp [h1]
 ·by_cases a : c.Kind = 2
  ·cases nj c.Head <;> cases nj c.B <;> cases mn zS c.lH <;> cases lu zR c.C <;> simp [a]
  ·by_cases b : c.Kind = 3
   ·cases nj c.Head <;> cases nj c.B <;> cases mn zS c.lH <;> cases lu zR c.C <;> cases mn c.B.kK c.Head.kK <;> simp [b]
   ·by_cases d : c.Kind = 4
    ·cases nj c.Head <;> cases nj c.B <;> cases mn zS c.lH <;> cases mn zS c.lM <;> cases nj c.C <;> simp [d]
    ·cases nj c.Head <;> cases nj c.B <;> cases mn zS c.lH <;> simp [h1, a, b, d]
end Go.Proofs.YtmlncblocfcmiaaGreat
namespace Go.Proofs.YtmlncblocfcmiaaGreat
open Go.RowKit
theorem nR {α : Type} {b : Nat} {l m : List α} (h : (l.length + m.length) * b ≤ 140737488355328) (a : l.length + m.length ≤ 9223372036854775807) : nE b l m = some (l ++ m) := by
 unfold nE; rw [aT ⟨h, by unfold maxLen; omega⟩]
theorem Gq {l m : List Int} (h : l.length + m.length ≤ 1000000) : nE 1 l m = some (l ++ m) := nR (by omega) (by omega)
def wV (s : ByteArray) : List Int := (s.size : Int) :: tT s
def tq (r : kI) : List Int := wV r.kK ++ wV r.kP
def zB (c : kJ) : List Int := if c.Kind = 1 then wV c.lH else if c.Kind = 2 then tq c.B else if c.Kind = 3 then tq c.B ++ wV c.lM else tq c.B ++ tq c.C
def tY (c : kJ) : List Int := c.Kind :: (tq c.Head ++ zB c)
theorem uv (s : ByteArray) : (wV s).length = s.size + 1 := by simp [wV, qi]
theorem pB {r : kI} (h : nj r = true) : (tq r).length ≤ 34 := by
 simp only [nj, aZ] at h
 have h1 := po h.1
 have a := po h.2
 simp [tq, uv]; omega
theorem yQ {l : List Int} {n : Int} (a : 0 ≤ n) (h1 : n < 128) (b : l.length ≤ 100000) : oX l n = some (true, l ++ [n]) := by
 have hw : IntKind.u8.wrap n = n := by
  obtain ⟨k, rfl⟩ : ∃ k : Nat, n = k := ⟨n.toNat, by omega⟩
  have : ∀ k : Nat, k < 128 → IntKind.u8.wrap (k : Int) = (k : Int) := by decide +kernel
  exact this k (by omega)
 unfold oX
 rw [aY (by simp; omega), ni, qY, aY (by simp; omega), hw, Gq (by simp; omega)]
 rfl
theorem Fx {l : List Int} {s : ByteArray} (h : oz s = true) (a : l.length ≤ 10000) : uA l s = some (true, l ++ wV s) := by
 have h1 := po h
 unfold uA
 simp only [zA, aA, h, aJ, FL h1.2]
 unfold yb
 rw [aY (by rw [qi]; simp; omega)]
 rw [qi, yQ (by omega) (by omega) (by omega)]
 simp only [aA]
 rw [Gq (by simp [qi]; omega)]
 simp [wV]
theorem J4 {l : List Int} {r : kI} (h : nj r = true) (b : l.length ≤ 9000) : re l r = some (true, l ++ tq r) := by
 have a := h
 simp only [nj, aZ] at h
 have h1 := po h.1
 unfold re
 simp only [zi, aA, a, aJ]
 rw [Fx h.1 (by omega)]
 simp only [aA, aJ]
 rw [Fx h.2 (by simp [uv]; omega)]
 simp [tq]
theorem Dt {l : List Int} {r : kI} (h : nj r = true) (a : l.length ≤ 1000) : re l r = some (true, l ++ tq r) := J4 h (by omega)
theorem CM {c : kJ} (h : mI c = true) : nj c.Head = true := by
 simp only [mI, aZ] at h; exact h.1
theorem pA {c : kJ} (h : mI c = true) :
  (c.Kind = 1 ∧ oz c.lH = true ∧ c.B = zR ∧ c.C = zR ∧ c.lM = zS) ∨
  (c.Kind = 2 ∧ nj c.B = true ∧ c.lH = zS ∧ c.C = zR ∧ c.lM = zS) ∨
  (c.Kind = 3 ∧ nj c.B = true ∧ oz c.lM = true ∧ c.B.kK = c.Head.kK ∧ c.lH = zS ∧ c.C = zR) ∨
  (c.Kind = 4 ∧ nj c.B = true ∧ nj c.C = true ∧ Cp c.B c.C = true ∧ c.lH = zS ∧ c.lM = zS) := by
 simp only [mI, aZ] at h
 obtain ⟨_, h⟩ := h
 split at h
 ·rename_i h1
  simp only [aZ, lx, nh] at h
  exact .inl ⟨by simpa using h1, h.1.1.1, h.1.1.2.symm, h.1.2.symm, h.2.symm⟩
 ·split at h
  ·rename_i h1
   simp only [aZ, lx, nh] at h
   exact .inr (.inl ⟨by simpa using h1, h.1.1.1, h.1.1.2.symm, h.1.2.symm, h.2.symm⟩)
  ·split at h
   ·rename_i h1
    simp only [aZ, lx, nh] at h
    exact .inr (.inr (.inl ⟨by simpa using h1, h.1.1.1.1, h.1.1.2, h.1.1.1.2, h.1.2.symm, h.2.symm⟩))
   ·split at h
    ·rename_i h1
     simp only [aZ, lx, nh] at h
     exact .inr (.inr (.inr ⟨by simpa using h1, h.1.1.1.1, h.1.1.1.2, h.1.1.2, h.1.2.symm, h.2.symm⟩))
    ·cases h
theorem Cg (c : kJ) : xq c = some (if mI c then tY c else []) := by
 unfold xq
 rw [wW]
 simp only [aA]
 cases h : mI c with
 | false => simp
 | true =>
  have g := CM h
  have i := pB g
  simp only [cA, aB, aG, aJ]
  have hk : 0 ≤ c.Kind ∧ c.Kind < 128 := by rcases pA h with h | h | h | h <;> omega
  rw [yQ hk.1 hk.2 (by simp)]
  simp only [aA]
  rw [Dt g (by simp)]
  simp only [aA, uz, uV]
  rcases pA h with ⟨k, h1, _⟩ | ⟨k, h1, _⟩ | ⟨k, h1, a, _⟩ | ⟨k, h1, a, _⟩
  ·have b := po h1
   simp only [k, aV, aJ, Fx h1 (show (([] ++ [(1:Int)]) ++ tq c.Head).length ≤ 10000 by simp; omega), aA]
   rw [Gq (by simp [uv]; omega)]
   simp [tY, zB, k]
  ·have b := pB h1
   simp only [k, show ((2 : Int) == 1) = false from rfl, aB, aV, aJ, aG, Dt h1 (show (([] ++ [(2:Int)]) ++ tq c.Head).length ≤ 1000 by simp; omega), aA]
   rw [Gq (by simp; omega)]
   simp [tY, zB, k]
  ·have b := pB h1
   have d := po a
   simp only [k, show ((3 : Int) == 1) = false from rfl, show ((3 : Int) == 2) = false from rfl, aB, aV, aJ, aG, Dt h1 (show (([] ++ [(3:Int)]) ++ tq c.Head).length ≤ 1000 by simp; omega), aA]
   rw [Fx a (by simp; omega)]
   simp only [aA]
   rw [Gq (by simp [uv]; omega)]
   simp [tY, zB, k]
  ·have b := pB h1
   have d := pB a
   simp only [k, show ((4 : Int) == 1) = false from rfl, show ((4 : Int) == 2) = false from rfl, show ((4 : Int) == 3) = false from rfl, aB, aV, aJ, aG, Dt h1 (show (([] ++ [(4:Int)]) ++ tq c.Head).length ≤ 1000 by simp; omega), aA]
   rw [Dt a (by simp; omega)]
   simp only [aA]
   rw [Gq (by simp; omega)]
   simp [tY, zB, k]
def wQ (l : List Int) : ByteArray := ⟨(uK l).toArray⟩
theorem vw (l : List Int) : (wQ l).data.toList = uK l := rfl
theorem Hh : ∀ (l : List Int) (r : ByteArray), (l.foldl (fun r n => r.push (UInt8.ofNat n.toNat)) r).data.toList = r.data.toList ++ uK l
 | [], r => by simp [uK]
 | x :: l, r => by
  rw [iR, Hh l]
  show ((r.data.push _).toList) ++ _ = _
  simp [uK]
theorem P5 (l : List Int) : LG l = wQ l := Ap (by unfold LG; rw [Hh]; rfl)
theorem Ke (l : List Int) : (wQ l).size = l.length := by rw [xx, vw]; simp [uK]
theorem Mn (a b : List Int) : uK (a ++ b) = uK a ++ uK b := by simp [uK]
theorem sL (a b : List Int) (h : a.length + b.length ≤ 1000000) : yH (wQ a) (wQ b) = some (wQ (a ++ b)) := by
 unfold yH
 rw [aY]
 ·congr 1
  refine Ap ?_
  rw [vw, Mn, ← vw a, ← vw b]
  exact ByteArray.toList_data_append ▸ rfl
 ·rw [Ke, Ke]
  show ¬ (_ > (9223372036854775807 : Int))
  omega
theorem Ea (s : ByteArray) : wQ (tT s) = s := Ap (by rw [vw]; simp [uK, tT, gU])
theorem yU {n : Int} (a : 0 ≤ n) (h1 : n < 128) : tb n = some (wQ [n]) := by
 have hw : IntKind.u8.wrap n = n := by
  obtain ⟨k, rfl⟩ : ∃ k : Nat, n = k := ⟨n.toNat, by omega⟩
  have : ∀ k : Nat, k < 128 → IntKind.u8.wrap (k : Int) = (k : Int) := by decide +kernel
  exact this k (by omega)
 unfold tb
 rw [ni, ya, aY (by simp; omega), hw, P5, show zS = wQ [] from rfl, sL _ _ (by simp)]
 rfl
theorem Fw {s : ByteArray} (h : oz s = true) : vP s = some (wQ (wV s)) := by
 have h1 := po h
 unfold vP
 rw [yU (by omega) (by omega)]
 simp only [aA]
 have := sL [(s.size : Int)] (tT s) (by rw [qi]; simp; omega)
 rw [Ea] at this
 rw [this]
 simp [wV]
theorem Bo {r : kI} (h : nj r = true) : uT r = some (wQ (tq r)) := by
 simp only [nj, aZ] at h
 have h1 := po h.1
 have a := po h.2
 unfold uT
 rw [Fw h.1, Fw h.2]
 simp only [aA]
 rw [sL _ _ (by simp [uv]; omega)]
 rfl
theorem BB (c : kJ) : ym c = some (wQ (if mI c then tY c else [])) := by
 unfold ym
 rw [BF]
 simp only [aA]
 cases h : mI c with
 | false => rfl
 | true =>
  have g := CM h
  have i := pB g
  simp only [cA, aB, aG, aJ]
  have hk : 0 ≤ c.Kind ∧ c.Kind < 128 := by rcases pA h with h | h | h | h <;> omega
  unfold Ei
  rw [yU hk.1 hk.2, Bo g]
  simp only [aA]
  rw [sL _ _ (by simp; omega)]
  simp only [aA]
  rcases pA h with ⟨k, h1, _⟩ | ⟨k, h1, _⟩ | ⟨k, h1, a, _⟩ | ⟨k, h1, a, _⟩
  ·have b := po h1
   simp only [k, aV, aJ, Fw h1, aA]
   rw [sL _ _ (by simp [uv]; omega)]
   simp [tY, zB, k]
  ·have b := pB h1
   simp only [k, show ((2 : Int) == 1) = false from rfl, show ((2 : Int) == 3) = false from rfl, show ((2 : Int) == 4) = false from rfl, aB, aG, Bo h1, aA]
   rw [sL _ _ (by simp; omega)]
   simp [tY, zB, k]
  ·have b := pB h1
   have d := po a
   simp only [k, show ((3 : Int) == 1) = false from rfl, show ((3 : Int) == 4) = false from rfl, aB, aV, aJ, aG, Bo h1, aA]
   rw [sL _ _ (by simp; omega)]
   simp only [aA, Fw a]
   rw [sL _ _ (by simp [uv]; omega)]
   simp [tY, zB, k]
  ·have b := pB h1
   have d := pB a
   simp only [k, show ((4 : Int) == 1) = false from rfl, show ((4 : Int) == 3) = false from rfl, aB, aV, aJ, aG, Bo h1, aA]
   rw [sL _ _ (by simp; omega)]
   simp only [aA, Bo a]
   rw [sL _ _ (by simp; omega)]
   simp [tY, zB, k]
def Jr (c : kJ) : List UInt8 := uK (if mI c then tY c else [])
def BI (a b : kJ) : Bool := Op.bytesLess (Jr a) (Jr b)
theorem FB (a b : kJ) : ∃ c, uo a b = some c ∧ (c < 0 ↔ BI a b = true) := by
 unfold uo
 rw [Cg, Cg]
 exact ⟨_, rfl, Dl _ _⟩
theorem EO (a b : kJ) : ∃ c, vk a b = some c ∧ (c < 0 ↔ BI a b = true) := by
 unfold vk
 rw [BB, BB]
 simp only [aA]
 have h : rq (wQ (if mI a then tY a else [])) (wQ (if mI b then tY b else [])) = BI a b := by rw [yO]; rfl
 rw [h]
 cases BI a b with
 | true => exact ⟨_, rfl, by decide⟩
 | false =>
  simp only [aB, aG, Bool.false_or]
  cases d : mn (wQ (if mI a then tY a else [])) (wQ (if mI b then tY b else [])) with
  | true => exact ⟨0, by simp, by decide⟩
  | false => exact ⟨1, by simp, by decide⟩
theorem RW {a b : Int} (ha : 0 ≤ a ∧ a < 256) (d : 0 ≤ b ∧ b < 256) (h : a.toNat.toUInt8 = b.toNat.toUInt8) : a = b := by
 have := bI UInt8.toNat h
 simp only [UInt8.toNat_ofNat', Nat.toUInt8] at this
 simp at this
 omega
theorem Lh : ∀ {a b : List Int}, (∀ x ∈ a, 0 ≤ x ∧ x < 256) → (∀ x ∈ b, 0 ≤ x ∧ x < 256) → uK a = uK b → a = b
 | [], [], _, _, _ => rfl
 | [], _ :: _, _, _, h => by simp [uK] at h
 | _ :: _, [], _, _, h => by simp [uK] at h
 | x :: a, y :: b, ha, g, h => by
  simp only [uK, bP, aX] at h
  rw [RW (ha x (by simp)) (g y (by simp)) h.1, Lh (fun z d => ha z (by simp [d])) (fun z d => g z (by simp [d])) h.2]
theorem Ah {s : ByteArray} (h : oz s = true) : ∀ x ∈ wV s, 0 ≤ x ∧ x < 256 := by
 have h1 := po h
 intro x a
 rcases aK.1 a with rfl | a
 ·omega
 ·simp only [tT, bB] at a
  obtain ⟨b, _, rfl⟩ := a
  have := jP b
  omega
theorem yd {r : kI} (h : nj r = true) : ∀ x ∈ tq r, 0 ≤ x ∧ x < 256 := by
 simp only [nj, aZ] at h
 intro x a
 rcases aN.1 a with a | a
 ·exact Ah h.1 x a
 ·exact Ah h.2 x a
theorem FD {c : kJ} (h : mI c = true) : ∀ x ∈ tY c, 0 ≤ x ∧ x < 256 := by
 intro x a
 rcases aK.1 a with rfl | a
 ·rcases pA h with h | h | h | h <;> omega
 ·rcases aN.1 a with a | a
  ·exact yd (CM h) x a
  ·unfold zB at a
   rcases pA h with ⟨k, h1, _⟩ | ⟨k, h1, _⟩ | ⟨k, h1, b, _⟩ | ⟨k, h1, b, _⟩
   ·rw [aT k] at a; exact Ah h1 x a
   ·rw [aY (by omega), aT k] at a; exact yd h1 x a
   ·rw [aY (by omega), aY (by omega), aT k] at a
    rcases aN.1 a with a | a
    ·exact yd h1 x a
    ·exact Ah b x a
   ·rw [aY (by omega), aY (by omega), aY (by omega)] at a
    rcases aN.1 a with a | a
    ·exact yd h1 x a
    ·exact yd b x a
theorem ML {s t : ByteArray} (h : tT s = tT t) : s = t := by rw [← Ea s, h, Ea]
theorem Ce {s t : ByteArray} {X Y : List Int} (h : wV s ++ X = wV t ++ Y) : s = t ∧ X = Y := by
 simp only [wV, bO, aX] at h
 obtain ⟨h1, a⟩ := h
 have b : (tT s).length = (tT t).length := by rw [qi, qi]; omega
 have := List.append_inj a b
 exact ⟨ML this.1, this.2⟩
theorem Ar {a b : kI} {X Y : List Int} (h : tq a ++ X = tq b ++ Y) : a = b ∧ X = Y := by
 simp only [tq, aH] at h
 obtain ⟨h1, g⟩ := Ce h
 obtain ⟨d, i⟩ := Ce g
 exact ⟨by cases a; cases b; simp at h1 d; simp [h1, d], i⟩
theorem Ni {a b : kJ} (ha : mI a = true) (s : mI b = true) (h : tY a = tY b) : a = b := by
 simp only [tY, aX] at h
 obtain ⟨hk, q⟩ := h
 obtain ⟨p, h⟩ := Ar q
 clear q
 have l : ∀ {X Y : List Int}, X = Y → X ++ [] = Y ++ [] := fun h => by rw [h]
 unfold zB at h
 obtain ⟨z, r, D, w, x, u⟩ := a
 obtain ⟨A, t, E, bb, y, v⟩ := b
 simp only at hk p h
 subst hk p
 rcases pA ha with ⟨k, h1, g, i, d⟩ | ⟨k, h1, g, i, d⟩ | ⟨k, h1, g, i, d, j⟩ | ⟨k, h1, g, i, d, j⟩ <;>
 rcases pA s with ⟨k', g1, g2, g3, g4⟩ | ⟨k', g1, g2, g3, g4⟩ | ⟨k', g1, g2, g3, g4, g5⟩ | ⟨k', g1, g2, g3, g4, g5⟩ <;> simp only at k k' g i d g2 g3 g4 <;> (try omega)
 ·rw [aT k, aT k] at h
  simp [Ce (l h), g, i, d, g2, g3, g4]
 ·rw [aY (by omega), aT k, aY (by omega), aT k] at h
  simp [Ar (l h), g, i, d, g2, g3, g4]
 ·rw [aY (by omega), aY (by omega), aT k, aY (by omega), aY (by omega), aT k] at h
  obtain ⟨m, n⟩ := Ar h
  simp only at j g5
  simp [m, Ce (l n), d, j, g4, g5]
 ·rw [aY (by omega), aY (by omega), aY (by omega), aY (by omega), aY (by omega), aY (by omega)] at h
  obtain ⟨m, n⟩ := Ar h
  simp only at j g5
  simp [m, Ar (l n), d, j, g4, g5]
theorem DC : AO (fun a b => BI a b = true) (fun c => mI c = true) := by
 refine ⟨fun x _ h => ?_, fun x y z _ _ _ h1 i => yE _ _ _ h1 i, fun x y d g => ?_⟩
 ·unfold BI at h; rw [vU] at h; cases h
 ·rcases Bz (Jr x) (Jr y) with h | h | h
  ·exact .inl h
  ·refine .inr (.inl (Ni d g ?_))
   unfold Jr at h
   rw [aT d, aT g] at h
   exact Lh (FD d) (FD g) h
  ·exact .inr (.inr h)
end Go.Proofs.YtmlncblocfcmiaaGreat
namespace Go.Proofs.YtmlncblocfcmiaaGreat
open Go.RowKit
def sv {α : Type} (R : α → Bool) (lt : α → α → Bool) (last : Option α) : List α → Bool → α → Bool × α
 | [], ok, b => (ok, b)
 | x :: xs, ok, b => if R x && last.all (fun y => lt y x) && (!ok || lt x b) then sv R lt last xs true x else sv R lt last xs ok b
def AG {α : Type} (w : Nat) (R : α → Bool) (lt : α → α → Bool) (d : α) (l : List α) : Nat → List α → Option (List α)
 | 0, _ => none
 | n + 1, out => if !(sv R lt out.getLast? l false d).1 then some out else (nE w out [(sv R lt out.getLast? l false d).2]).bind fun o => AG w R lt d l n o
section
variable {α : Type} {R : α → Bool} {lt : α → α → Bool}
theorem Fa (H : AO (fun a b => lt a b = true) (fun x => R x = true)) (last : Option α) : ∀ (l : List α) (ok : Bool) (b : α), (ok = true → R b = true ∧ last.all (fun y => lt y b) = true) →
  ((sv R lt last l ok b).1 = false → ok = false ∧ ∀ x ∈ l, R x = true → last.all (fun y => lt y x) = false) ∧
  ((sv R lt last l ok b).1 = true → R (sv R lt last l ok b).2 = true ∧ last.all (fun y => lt y (sv R lt last l ok b).2) = true ∧ ((sv R lt last l ok b).2 ∈ l ∨ (ok = true ∧ (sv R lt last l ok b).2 = b)) ∧
   (∀ x ∈ l, R x = true → last.all (fun y => lt y x) = true → lt x (sv R lt last l ok b).2 = false) ∧ (ok = true → lt b (sv R lt last l ok b).2 = false))
 | [], ok, b, k => by
  simp only [sv]
  exact ⟨fun h => ⟨h, by simp⟩, fun h => ⟨(k h).1, (k h).2, .inr ⟨h, trivial⟩, by simp, fun _ => by
   cases n : lt b b with
   | false => rfl
   | true => exact absurd n (H.irrefl b (k h).1)⟩⟩
 | x :: xs, ok, b, k => by
  rw [sv]
  by_cases m : (R x && last.all (fun y => lt y x) && (!ok || lt x b)) = true
  ·rw [aT m]
   simp only [aZ, gN, gZ] at m
   obtain ⟨⟨A, t⟩, u⟩ := m
   obtain ⟨h1, s⟩ := Fa H last xs true x (fun _ => ⟨A, t⟩)
   refine ⟨fun h => ?_, fun h => ?_⟩
   ·cases (h1 h).1
   ·obtain ⟨q, a2, a3, a4, a5⟩ := s h
    refine ⟨q, a2, ?_, ?_, ?_⟩
    ·rcases a3 with a3 | ⟨_, a3⟩
     ·exact .inl (by simp [a3])
     ·exact .inl (by rw [a3]; simp)
    ·intro y i d g
     rcases aK.1 i with rfl | i
     ·exact a5 rfl
     ·exact a4 y i d g
    ·intro j
     cases n : lt b (sv R lt last xs true x).2 with
     | false => rfl
     | true =>
      have v : lt x b = true := by rcases u with h | h; rw [j] at h; cases h; exact h
      have := H.trans x b _ A (k j).1 q v n
      simp only [a5 rfl] at this
      cases this
  ·rw [aY m]
   obtain ⟨h1, s⟩ := Fa H last xs ok b k
   refine ⟨fun h => ⟨(h1 h).1, fun y i d => ?_⟩, fun h => ?_⟩
   ·rcases aK.1 i with rfl | i
    ·have j := (h1 h).1
     cases t : last.all (fun z => lt z y) with
     | false => rfl
     | true => exact absurd (by simp [d, t, j]) m
    ·exact (h1 h).2 y i d
   ·obtain ⟨q, a2, a3, a4, a5⟩ := s h
    refine ⟨q, a2, ?_, ?_, a5⟩
    ·rcases a3 with a3 | a3
     ·exact .inl (by simp [a3])
     ·exact .inr a3
    ·intro y i d g
     rcases aK.1 i with rfl | i
     ·cases n : lt y (sv R lt last xs ok b).2 with
      | false => rfl
      | true =>
       cases ok with
       | false => exact absurd (by simp [d, g]) m
       | true =>
        have w : lt y b = false := by
         cases D : lt y b with
         | false => rfl
         | true => exact absurd (by simp [d, g, D]) m
        have r := k rfl
        rcases H.total y b d r.1 with p | p | p
        ·rw [w] at p; cases p
        ·subst p; rw [a5 rfl] at n; cases n
        ·have := H.trans b y _ r.1 d q p n
         simp only [a5 rfl] at this
         cases this
     ·exact a4 y i d g
theorem vx (H : AO (fun a b => lt a b = true) (fun x => R x = true)) {l : List α} (g : ∀ x ∈ l, R x = true) (h : l.Pairwise (fun a b => lt a b = true)) : l.Nodup := by
 refine h.imp_of_mem (fun {a b} ha i d e => ?_)
 subst e
 exact H.irrefl a (g a ha) d
theorem mZ : ∀ {l m : List α}, l.Nodup → (∀ x ∈ l, x ∈ m) → l.length ≤ m.length
 | [], _, _, _ => by simp
 | x :: l, m, g, b => by
  obtain ⟨A, B, rfl⟩ := jQ (b x (by simp))
  have a := dX.1 g
  have := mZ (l := l) (m := A ++ B) a.2 (fun y d => by
   have := b y (gC _ d)
   simp only [aN, aK] at this ⊢
   rcases this with h | h | h
   ·exact .inl h
   ·subst h; exact absurd d a.1
   ·exact .inr h)
  simp at this ⊢; omega
theorem Cj (H : AO (fun a b => lt a b = true) (fun x => R x = true)) {w : Nat} (hw : w ≤ 1000) (d : α) (l : List α) (I : l.length ≤ 1000000000) : ∀ (n : Nat) (out : List α), l.length < n + out.length → out.Pairwise (fun a b => lt a b = true) → (∀ x ∈ out, x ∈ l ∧ R x = true) →
  (∀ x ∈ l, R x = true → x ∈ out ∨ out.getLast?.all (fun y => lt y x) = true) → ∃ s, AG w R lt d l n out = some s ∧ wZ (fun a b => lt a b = true) (fun x => R x = true) l s
 | 0, out, J, hp, hm, v => by
  exfalso
  have := mZ (vx H (fun x g => (hm x g).2) hp) (fun x g => (hm x g).1)
  omega
 | n + 1, out, J, hp, hm, v => by
  rw [AG]
  obtain ⟨h1, F⟩ := Fa H out.getLast? l false d (fun h => by cases h)
  have hlen := mZ (vx H (fun x g => (hm x g).2) hp) (fun x g => (hm x g).1)
  cases E : (sv R lt out.getLast? l false d).1 with
  | false =>
   rw [aT (by simp)]
   refine ⟨out, rfl, hp, fun x => ⟨hm x, fun g => ?_⟩⟩
   rcases v x g.1 g.2 with h | h
   ·exact h
   ·rw [(h1 E).2 x g.1 g.2] at h; cases h
  | true =>
   rw [aY (by simp)]
   obtain ⟨t, a2, a3, a4, _⟩ := F E
   generalize (sv R lt out.getLast? l false d).2 = b at *
   have u : b ∈ l := by rcases a3 with h | ⟨h, _⟩; exact h; cases h
   have q : ∀ y ∈ out, lt y b = true := by
    intro y i
    obtain ⟨A, z, rfl⟩ : ∃ A z, out = A ++ [z] := by
     rcases cW out with h | ⟨A, z, h⟩
     ·subst h; cases i
     ·exact ⟨A, z, by rw [h]; simp⟩
    simp at a2
    rcases aN.1 i with i | i
    ·have D : lt y z = true := (cU.1 hp).2.2 y i z (by simp)
     exact H.trans y z b (hm y (by simp [i])).2 (hm z (by simp)).2 t D a2
    ·simp at i; subst i; exact a2
   have r : (out ++ [b]).Pairwise (fun a b => lt a b = true) := cU.2 ⟨hp, by simp, fun x g y i => by simp at i; subst i; exact q x g⟩
   have m : ∀ x ∈ out ++ [b], x ∈ l ∧ R x = true := fun x g => by
    rcases aN.1 g with g | g
    ·exact hm x g
    ·simp at g; subst g; exact ⟨u, t⟩
   have k := mZ (vx H (fun x g => (m x g).2) r) (fun x g => (m x g).1)
   simp at k
   rw [nR (by simp only [aI, bU]; have : (out.length + (0 + 1)) * w ≤ 1000000000 * 1000 := Nat.mul_le_mul (by omega) hw; omega) (by simp; omega)]
   simp only [aA]
   refine Cj H hw d l I n (out ++ [b]) (by simp; omega) r m (fun x g j => ?_)
   rcases v x g j with h | h
   ·exact .inl (by simp [h])
   ·have G := a4 x g j h
    rcases H.total x b j t with p | p | p
    ·rw [G] at p; cases p
    ·subst p; exact .inl (by simp)
    ·exact .inr (by simp [p])
end
theorem Gl {α : Type} (A : List α) (x : α) (a : A.length < 4611686018427387904) : mF (A ++ [x]) (IntKind.i64.wrap (((A ++ [x]).length : Int) - 1)) = some x := by
 rw [lJ (by simp; try omega) (by simp; try omega)]
 rw [nP A x [] _ (by simp; try omega)]
theorem Gg (out : List kJ) (k : out.length < 4611686018427387904) : ∀ (l : List kJ) (ok : Bool) (b : kJ), uk out l ok b = some (sv mI BI out.getLast? l ok b)
 | [], ok, b => rfl
 | x :: xs, ok, b => by
  rw [uk, sv]
  have cmp : ∀ a b, ∃ c, vk a b = some c ∧ decide (c < 0) = BI a b := fun a b => by
   obtain ⟨c, h1, j⟩ := EO a b
   exact ⟨c, h1, by rw [bN, ← j]; simp⟩
  rw [BF, Gg out k xs true x, Gg out k xs ok b]
  obtain ⟨c, h1, j⟩ := cmp x b
  rcases cW out with h | ⟨A, z, h⟩
  ·subst h
   simp only [h1, aA, j, bU, Option.all, List.getLast?_nil]
   generalize BI x b = p
   cases mI x <;> cases ok <;> cases p <;> simp
  ·have i : out = A ++ [z] := by rw [h]; simp
   obtain ⟨t, r, s⟩ := cmp z x
   have d : out.getLast? = some z := by rw [i]; simp
   have g : mF out (IntKind.i64.wrap ((out.length : Int) - 1)) = some z := by rw [i]; exact Gl A z (by rw [i] at k; simp at k; omega)
   have m : ((out.length : Int) == 0) = false := by rw [i]; simp; omega
   rw [d]
   simp only [m, g, r, h1, aA, j, s, Option.all]
   rcases eU (BI x b) with hp | hp <;> rcases eU (BI z x) with n | n <;> rcases eU (mI x) with q | q <;> cases ok <;> simp [hp, n, q]
theorem TQ (a b : ByteArray) : (!(rq a b || mn a b)) = rq b a := by
 rcases Au a b with h | h | h
 ·simp [h, Io h]
 ·subst h; simp [vV, tX]
 ·have d := Io h
  have g : mn a b = false := KT (by rintro rfl; rw [tX] at h; cases h)
  simp [h, d, g]
theorem M7 {s : ByteArray} (h : oz s = true) : mn s zS = false := KT (fun e => by have := po h; rw [e, QK] at this; omega)
theorem F9 (out : List ByteArray) (m : out.length < 4611686018427387904) : ∀ (l : List ByteArray) (b : ByteArray),
  ∃ n, um out l b = some n ∧ (sv oz rq out.getLast? l (!mn b zS) b) = (!mn n zS, n)
 | [], b => ⟨b, rfl, rfl⟩
 | x :: xs, b => by
  rw [um, sv]
  obtain ⟨w, u, d⟩ := F9 out m xs x
  obtain ⟨y, v, j⟩ := F9 out m xs b
  rw [yI, u, v]
  by_cases i : oz x = true
  ·rw [M7 i] at d
   simp only [cX] at d
   rcases cW out with h | ⟨A, z, h⟩
   ·subst h
    simp only [aA, bU, Option.all, List.getLast?_nil, i] at *
    rw [d, j]
    generalize rq x b = p
    generalize mn b zS = q
    cases p <;> cases q <;> simp
   ·have k : out = A ++ [z] := by rw [h]; simp
    have a : out.getLast? = some z := by rw [k]; simp
    have g : mF out (IntKind.i64.wrap ((out.length : Int) - 1)) = some z := by rw [k]; exact Gl A z (by rw [k] at m; simp at m; omega)
    have r : ((out.length : Int) == 0) = false := by rw [k]; simp; omega
    rw [a] at d j ⊢
    simp only [r, g, aA, Option.all, TQ, i]
    rw [d, j]
    rcases eU (rq x b) with hp | hp <;> rcases eU (rq z x) with s | s <;> rcases eU (mn b zS) with t | t <;> simp [hp, s, t]
  ·simp only [eZ] at i
   rw [i, j]
   simp
theorem Pm (a : List kJ) : ∀ (n : Nat) (out s : List kJ), AG 136 mI BI (⟨0, ⟨zS, zS⟩, zS, ⟨zS, zS⟩, ⟨zS, zS⟩, zS⟩ : kJ) a n out = some s → s.length < 4611686018427387904 → xM a n out = some s ∧ out.length ≤ s.length
 | 0, out, s, h, _ => by cases h
 | n + 1, out, s, h, i => by
  rw [AG] at h
  rw [xM]
  have key : out.length ≤ s.length → uk out a false (⟨0, ⟨zS, zS⟩, zS, ⟨zS, zS⟩, ⟨zS, zS⟩, zS⟩ : kJ) = _ := fun k => Gg out (by omega) a false _
  split at h
  ·rename_i h1
   cases h
   rw [key (aO _)]
   simp only [aA]
   rw [aT h1]
   exact ⟨rfl, aO _⟩
  ·rename_i h1
   obtain ⟨o, b, d⟩ := bind_some h
   have g := Pm a n o s d i
   have j : out.length + 1 = o.length := by
    unfold nE at b; split at b
    ·cases b; simp
    ·cases b
   rw [key (by omega)]
   simp only [aA]
   rw [aY h1, b]
   exact ⟨g.1, by omega⟩
theorem PF (a : List ByteArray) : ∀ (n : Nat) (out s : List ByteArray), AG 16 oz rq zS a n out = some s → s.length < 4611686018427387904 → xS a n out = some s ∧ out.length ≤ s.length
 | 0, out, s, h, _ => by cases h
 | n + 1, out, s, h, l => by
  rw [AG] at h
  rw [xS]
  have key : out.length ≤ s.length → ∃ d, um out a zS = some d ∧ sv oz rq out.getLast? a false zS = (!mn d zS, d) := fun p => by
   have := F9 out (by omega) a zS
   rw [vV] at this
   exact this
  split at h
  ·rename_i h1
   cases h
   obtain ⟨d, g, i⟩ := key (aO _)
   rw [g]
   rw [i] at h1
   simp only [aA]
   rw [aT (by simpa using h1)]
   exact ⟨rfl, aO _⟩
  ·rename_i h1
   obtain ⟨o, b, j⟩ := bind_some h
   have k := PF a n o s j l
   have m : out.length + 1 = o.length := by
    unfold nE at b; split at b
    ·cases b; simp
    ·cases b
   obtain ⟨d, g, i⟩ := key (by omega)
   rw [g]
   rw [i] at h1 b
   simp only [aA]
   rw [aY (by simpa using h1), b]
   exact ⟨k.1, by omega⟩
abbrev QW (l s : List ByteArray) := wZ (fun a b => rq a b = true) (fun x => oz x = true) l s
abbrev JO (l s : List kJ) := wZ (fun a b => BI a b = true) (fun x => mI x = true) l s
theorem BH {α : Type} {lt : α → α → Bool} {R : α → Bool} (H : AO (fun a b => lt a b = true) (fun x => R x = true)) {l s : List α} (h : wZ (fun a b => lt a b = true) (fun x => R x = true) l s) : s.length ≤ l.length :=
 mZ (vx H (fun x d => ((h.2 x).1 d).2) h.1) (fun x d => ((h.2 x).1 d).1)
theorem Lj (l : List kJ) (b : l.length ≤ 1000000000) : ∃ s, An l = some s ∧ JO l s := by
 obtain ⟨s, h1, a⟩ := Cj DC (w := 136) (by omega) (⟨0, ⟨zS, zS⟩, zS, ⟨zS, zS⟩, ⟨zS, zS⟩, zS⟩ : kJ) l b lE [] (by rw [xO]; omega) (by simp) (by simp) (fun x _ _ => .inr rfl)
 exact ⟨s, (Pm l lE [] s h1 (by have := BH DC a; omega)).1, a⟩
theorem P6 (l : List ByteArray) (b : l.length ≤ 1000000000) : ∃ s, CA l = some s ∧ QW l s := by
 obtain ⟨s, h1, a⟩ := Cj (PE (fun x => oz x = true)) (w := 16) (by omega) zS l b lE [] (by rw [xO]; omega) (by simp) (by simp) (fun x _ _ => .inr rfl)
 exact ⟨s, (PF l lE [] s h1 (by have := BH (PE _) a; omega)).1, a⟩
end Go.Proofs.YtmlncblocfcmiaaGreat
namespace Go.Proofs.YtmlncblocfcmiaaGreat
open Go.RowKit
def zC : kJ := ⟨0, ⟨zS, zS⟩, zS, ⟨zS, zS⟩, ⟨zS, zS⟩, zS⟩
theorem Lc (f : kJ → Option Bool) : ∀ (n : Nat) (l : List kJ) (i j : Int), oC f n l i j = DX f zC n l i j
 | 0, _, _, _ => rfl
 | n + 1, l, i, j => by
  rw [oC, DX]
  simp only [Lc f n]
  rfl
theorem LD (f : kJ → Option Bool) : ∀ (l : List kJ) (i : Nat), pC f l i = zQ f l i
 | [], _ => rfl
 | x :: l, i => by rw [pC, zQ]; simp only [LD f l]
theorem OB (f : kJ → Option Bool) (l : List kJ) : rT l f = HJ f zC l := by
 unfold rT HJ uL
 simp only [LD, Lc]
theorem JJ (i : Int) : ∀ (n : Nat) (l : List kJ) (k j : Int), pb i n l k j = BZ lV i n l k j
 | 0, _, _, _ => rfl
 | n + 1, l, k, j => by
  rw [pb, BZ]
  simp only [JJ i n]
theorem Jj (l : List kJ) : ∀ (n : Nat) (i : Int), pg l n i = Cy lV zC l n i
 | 0, _ => rfl
 | n + 1, i => by
  rw [pg, Cy]
  simp only [Jj l n, JJ]
  rfl
theorem O7 (l : List kJ) : tH l = JA lV zC l := by
 unfold tH JA
 simp only [Jj]
theorem RI {l : List kJ} (a : l.length ≤ 1000000000) : sJ l = some l := by
 unfold sJ
 rw [nR (by simp; omega) (by simp; omega)]
 simp
theorem QY (l : List kJ) (g : l.length ≤ 1000000000) : ∃ s, zn l = some s ∧ JO l s := by
 unfold zn
 rw [RI g]
 simp only [aA]
 rw [OB, Js _ (fun x => !mI x) zC l (by omega) (fun x _ => by simp [yo, wW])]
 simp only [aA, jk]
 have j : (l.filter fun x => mI x).length ≤ l.length := fV _ _
 obtain ⟨s, h1, i, d⟩ := FT (eq := lV) (lt := fun a b => BI a b = true) (P := fun x => mI x = true) (cf := fun x => uo x.1 x.2) (l := l.filter fun x => mI x) (fun x y => mC) DC (fun x h => (cD.1 h).2) (by omega) (fun x y _ _ => FB x y)
 rw [h1]
 simp only [aA]
 rw [O7, Ka _ _ _ (by omega)]
 refine ⟨_, rfl, d.1, fun x => ?_⟩
 rw [d.2]
 simp
end Go.Proofs.YtmlncblocfcmiaaGreat
namespace Go.Proofs.YtmlncblocfcmiaaGreat
open Go.RowKit
def tt {κ : Type} (ks : List κ) : List (κ × Bool) := ks.map fun k => (k, true)
def rZ {κ : Type} (beq : κ → κ → Bool) (ks : List κ) (k : κ) : Bool := ks.any fun x => beq k x
def ins {κ : Type} (beq : κ → κ → Bool) (ks : List κ) (k : κ) : List κ := if rZ beq ks k then ks else ks ++ [k]
section
variable {κ : Type} {beq : κ → κ → Bool}
theorem pz (a : ∀ {x y}, beq x y = true ↔ x = y) (ks : List κ) (k : κ) : rZ beq ks k = true ↔ k ∈ ks := by
 simp [rZ, fA, a]
theorem No (ks : List κ) : (tt ks).length = ks.length := by simp [tt]
theorem N8 (ks : List κ) (k : κ) : wX beq (tt ks) k false = rZ beq ks k := by
 unfold wX mz rZ tt
 induction ks with
 | nil => rfl
 | cons x xs ih =>
  simp only [bP, fX, iO]
  cases h : beq k x with
  | true => simp
  | false => simpa using ih
theorem Qp (l : ∀ {x y}, beq x y = true ↔ x = y) (ks : List κ) (k : κ) : oy beq (tt ks) k true = tt (ins beq ks k) := by
 unfold oy ins
 have m : (tt ks).findIdx? (fun p => beq k p.1) = ks.findIdx? (fun x => beq k x) := by
  unfold tt; rw [jb]; rfl
 rw [m]
 cases h : ks.findIdx? (fun x => beq k x) with
 | none =>
  rw [iK] at h
  rw [aY]
  ·simp [tt]
  ·intro b
   unfold rZ at b
   rw [fA] at b
   obtain ⟨x, n, a⟩ := b
   rw [h x n] at a
   cases a
 | some i =>
  rw [fB] at h
  obtain ⟨g, h1, _⟩ := h
  have e := l.1 h1
  rw [aT]
  ·simp only [tt]
   apply fJ
   intro j
   rw [fY]
   split
   ·rename_i d
    subst d
    simp [g, e]
   ·rfl
  ·unfold rZ
   exact fA.2 ⟨ks[i], List.getElem_mem g, h1⟩
end
section
variable {all : List kJ} {wants : List kI} {T : List kI} {W : List ByteArray} {R : List kJ}
def pu (c : kJ) : List kI := if c.Kind = 1 then [] else if c.Kind = 4 then [c.B, c.C] else [c.B]
end
theorem KM (x : kJ) : ∀ l : List kJ, CS l x = some (rZ lV l x)
 | [] => rfl
 | y :: l => by
  have ih := KM x l
  unfold CS at ih ⊢
  rw [zP, ih]
  have : lV y x = lV x y := by rw [bN, mC, mC]; exact eq_comm
  rw [this]
  simp only [rZ, iO]
  cases lV x y <;> simp
end Go.Proofs.YtmlncblocfcmiaaGreat
namespace Go.Proofs.YtmlncblocfcmiaaGreat
open Go.RowKit
theorem QV {c : kJ} (h : mI c = true) : zj c = some (c.Head :: pu c) := by
 unfold zj
 rw [wW, h]
 simp only [aA, cA, aB, aG]
 have a : c.Kind = 1 ∨ c.Kind = 2 ∨ c.Kind = 3 ∨ c.Kind = 4 := by rcases pA h with h | h | h | h <;> simp [h.1]
 rcases a with k | k | k | k
 ·simp [k, pu]
 ·rw [aT (by simp [k]), nR (by simp) (by simp)]
  simp [k, pu]
 ·rw [aT (by simp [k]), nR (by simp) (by simp)]
  simp [k, pu]
 ·rw [aT (by simp [k]), nR (by simp) (by simp)]
  simp only [aA]
  rw [aT (by simp [k]), nR (by simp) (by simp)]
  simp [k, pu]
theorem wZ.congr {α : Type} {lt : α → α → Prop} {P : α → Prop} {l m s : List α} (h : wZ lt P l s) (hm : ∀ x, x ∈ l ↔ x ∈ m) : wZ lt P m s := ⟨h.1, fun x => by rw [h.2, hm]⟩
theorem Qv {κ : Type} (ks : List κ) : (tt ks).map (·.1) = ks := by simp [tt, gU]
end Go.Proofs.YtmlncblocfcmiaaGreat
namespace Go.Proofs.YtmlncblocfcmiaaGreat
open Go.RowKit
def yv (c : kJ) : Nat := c.Head.kK.size + c.Head.kP.size + c.lH.size + c.B.kK.size + c.B.kP.size + c.C.kK.size + c.C.kP.size + c.lM.size
end Go.Proofs.YtmlncblocfcmiaaGreat
namespace Go.Proofs.YtmlncblocfcmiaaGreat
open Go.RowKit
section
variable {κ γ : Type} {beq : κ → κ → Bool}
theorem rR (a : ∀ {x y}, beq x y = true ↔ x = y) {A B : List (κ × γ)} {k : κ} {x : γ} (b : ∀ p ∈ A, p.1 ≠ k) : mz beq (A ++ (k, x) :: B) k = some x := by
 unfold mz
 rw [jW]
 have : A.find? (fun p => beq k p.1) = none := fS.2 (fun p hp h => b p hp (a.1 h).symm)
 rw [this]
 simp [a.2 (rfl : k = k)]
theorem wJ (a : ∀ {x y}, beq x y = true ↔ x = y) {l : List (κ × γ)} {k : κ} (h : ∀ p ∈ l, p.1 ≠ k) : mz beq l k = none := by
 unfold mz
 rw [fS.2 (fun p hp b => h p hp (a.1 b).symm)]
 rfl
theorem xK (a : ∀ {x y}, beq x y = true ↔ x = y) {A B : List (κ × γ)} {k : κ} {x y : γ} (b : ∀ p ∈ A, p.1 ≠ k) : oy beq (A ++ (k, x) :: B) k y = A ++ (k, y) :: B := by
 have h1 : (A ++ (k, x) :: B).findIdx? (fun p => beq k p.1) = some A.length := by
  rw [jv, iK.2 (fun p hp => by
   cases h : beq k p.1 with
   | false => rfl
   | true => exact absurd (a.1 h).symm (b p hp))]
  simp [fQ, a.2 (rfl : k = k)]
 rw [rX h1]
 simp
theorem DA (a : ∀ {x y}, beq x y = true ↔ x = y) {l : List (κ × γ)} {k : κ} {y : γ} (h : ∀ p ∈ l, p.1 ≠ k) : oy beq l k y = l ++ [(k, y)] := by
 refine vS (iK.2 (fun p hp => ?_)) y
 cases b : beq k p.1 with
 | false => rfl
 | true => exact absurd (a.1 b).symm (h p hp)
theorem ve (k : κ) : ∀ (l : List (κ × γ)), (∀ p ∈ l, p.1 ≠ k) ∨ ∃ A x B, l = A ++ (k, x) :: B ∧ ∀ p ∈ A, p.1 ≠ k
 | [] => .inl (fun _ h => by cases h)
 | p :: l => by
  by_cases hp : p.1 = k
  ·exact .inr ⟨[], p.2, l, by rw [← hp]; rfl, fun _ h => by cases h⟩
  ·rcases ve k l with h | ⟨A, x, B, rfl, h⟩
   ·exact .inl (fun q a => by rcases aK.1 a with rfl | a; exact hp; exact h q a)
   ·exact .inr ⟨p :: A, x, B, rfl, fun q a => by rcases aK.1 a with rfl | a; exact hp; exact h q a⟩
theorem Gf (a : ∀ {x y}, beq x y = true ↔ x = y) (A B : List (κ × γ)) (k : κ) : mz beq (A ++ B) k = (mz beq A k).or (mz beq B k) := by
 unfold mz
 rw [jW]
 cases A.find? (fun p => beq k p.1) <;> rfl
theorem Cc (p : κ × γ) (l : List (κ × γ)) (k : κ) : mz beq (p :: l) k = if beq k p.1 = true then some p.2 else mz beq l k := by
 unfold mz
 rw [fX]
 cases beq k p.1 <;> simp
theorem Cm (a : ∀ {x y}, beq x y = true ↔ x = y) (l : List (κ × γ)) (k b : κ) (y : γ) : mz beq (oy beq l k y) b = if beq b k = true then some y else mz beq l b := by
 rcases ve k l with h | ⟨A, x, B, rfl, h⟩
 ·rw [DA a h, Gf a, Cc]
  by_cases hk : beq b k = true
  ·have := a.1 hk
   subst this
   rw [aT hk, aT hk, wJ a h]; rfl
  ·rw [aY hk, aY hk]
   show (mz beq l b).or none = _
   cases mz beq l b <;> rfl
 ·rw [xK a h, Gf a, Cc, Gf a, Cc]
  by_cases hk : beq b k = true
  ·have := a.1 hk
   subst this
   rw [aT hk, aT hk, wJ a h]; rfl
  ·rw [aY hk, aY hk, aY hk]
end
abbrev pV := List (kI × List ByteArray)
def mm (T : pV) : List (kI × List (ByteArray × Bool)) := T.map fun p => (p.1, tt p.2)
def sP (T : pV) (r : kI) : List ByteArray := (mz lu T r).getD []
def FS (T : pV) : List lf := T.flatMap fun p => p.2.map fun w => (⟨p.1, w⟩ : lf)
def ET (T : pV) (r : kI) (w : ByteArray) : pV := oy lu T r (sP T r ++ [w])
theorem Ew (A B : pV) : mm (A ++ B) = mm A ++ mm B := by simp [mm]
theorem zT {A : pV} {r : kI} (h : ∀ p ∈ A, p.1 ≠ r) : ∀ p ∈ mm A, p.1 ≠ r := by
 intro p hp
 simp only [mm, bB] at hp
 obtain ⟨q, a, rfl⟩ := hp
 exact h q a
theorem Qd (T : pV) (r : kI) : mz lu (mm T) r = (mz lu T r).map tt := by
 rcases ve r T with h | ⟨A, x, B, rfl, h⟩
 ·rw [wJ lx h, wJ lx (zT h)]; rfl
 ·rw [rR lx h, Ew]
  exact rR lx (zT h)
theorem Lx (T : pV) (r : kI) : (mz lu (mm T) r).getD [] = tt (sP T r) := by
 rw [Qd, sP]; cases mz lu T r <;> rfl
theorem G8 (T : pV) (r : kI) (w : ByteArray) : (FS (ET T r w)).Perm (FS T ++ [(⟨r, w⟩ : lf)]) := by
 unfold ET sP
 rcases ve r T with h | ⟨A, x, B, rfl, h⟩
 ·rw [DA lx h, wJ lx h]
  simp [FS]
 ·rw [xK lx h, rR lx h]
  simp only [FS, jF, jl, iF, cI, bP, gD, aH]
  refine cF _ (cF _ ?_)
  exact fT
theorem OH {T : pV} (hk : (T.map (·.1)).Nodup) (r : kI) (w : ByteArray) : ((ET T r w).map (·.1)).Nodup := by
 unfold ET
 rcases ve r T with h | ⟨A, x, B, rfl, h⟩
 ·rw [DA lx h]
  simp only [cI, bP, gD]
  refine bW.2 ⟨hk, by simp, fun a ha b d e => ?_⟩
  simp at d; subst d; subst e
  obtain ⟨p, hp, e⟩ := bB.1 ha
  exact h p hp e
 ·rw [xK lx h]
  simpa using hk
theorem BU {T : pV} (hk : (T.map (·.1)).Nodup) (f : lf) : f ∈ FS T ↔ f.lH ∈ sP T f.kI := by
 simp only [FS, kl, bB]
 constructor
 ·rintro ⟨p, hp, w, hw, rfl⟩
  obtain ⟨A, B, rfl⟩ := jQ hp
  have a : ∀ q ∈ A, q.1 ≠ p.1 := fun q d e => by
   rw [cI, bP] at hk
   exact (bW.1 hk).2.2 q.1 (bB.2 ⟨q, d, rfl⟩) p.1 (by simp) e
  rw [sP, show p = (p.1, p.2) from rfl, rR lx a]
  exact hw
 ·intro h
  unfold sP at h
  rcases ve f.kI T with b | ⟨A, x, B, rfl, a⟩
  ·rw [wJ lx b] at h; cases h
  ·rw [rR lx a] at h
   exact ⟨(f.kI, x), by simp, f.lH, h, rfl⟩
theorem Kn {T : pV} (h : (FS T).Nodup) (r : kI) : (sP T r).Nodup := by
 unfold sP
 rcases ve r T with b | ⟨A, x, B, rfl, a⟩
 ·rw [wJ lx b]; simp
 ·rw [rR lx a]
  simp only [FS, jF, jl] at h
  have h1 := (bW.1 (bW.1 h).2.1).1
  simp only [List.Nodup, gV] at h1
  exact h1.imp (fun h e => h (by rw [e]))
inductive pN (C : List kJ) : lf → Prop
 | mem (c) : c ∈ C → c.Kind = 1 → pN C ⟨c.Head, c.lH⟩
 | inc (c w) : c ∈ C → c.Kind = 2 → pN C ⟨c.B, w⟩ → pN C ⟨c.Head, w⟩
 | FH (c b w) : c ∈ C → c.Kind = 3 → pN C ⟨c.B, b⟩ → pN C ⟨⟨b, c.lM⟩, w⟩ → pN C ⟨c.Head, w⟩
 | both (c w) : c ∈ C → c.Kind = 4 → pN C ⟨c.B, w⟩ → pN C ⟨c.C, w⟩ → pN C ⟨c.Head, w⟩
theorem pN.mono {C C' : List kJ} (h : ∀ c ∈ C, c ∈ C') {f : lf} (i : pN C f) : pN C' f := by
 induction i with
 | mem c a hk => exact .mem c (h c a) hk
 | inc c w a hk _ ih => exact .inc c w (h c a) hk ih
 | FH c b w a hk _ _ d g => exact .FH c b w (h c a) hk d g
 | both c w a hk _ _ d g => exact .both c w (h c a) hk d g
def FR (C : List kJ) : List lf := (C.map (·.Head)).flatMap fun r => (C.map (·.lH)).map fun w => (⟨r, w⟩ : lf)
theorem D1 (C : List kJ) : (FR C).length = C.length * C.length := by
 unfold FR
 have : ∀ l : List kI, (l.flatMap fun r => (C.map (·.lH)).map fun w => (⟨r, w⟩ : lf)).length = l.length * C.length := fun l => by
  induction l with
  | nil => simp
  | cons x l ih => simp only [jl, aD, ih, dE, aI, cP]; omega
 rw [this, dE]
theorem QL {C : List kJ} {r : kI} {w : ByteArray} : (⟨r, w⟩ : lf) ∈ FR C ↔ (∃ c ∈ C, c.Head = r) ∧ ∃ c ∈ C, c.lH = w := by
 unfold FR
 simp only [kl, bB, lf.mk.injEq]
 constructor
 ·rintro ⟨g, ⟨c, d, rfl⟩, h, ⟨b, a, rfl⟩, rfl, rfl⟩; exact ⟨⟨c, d, rfl⟩, b, a, rfl⟩
 ·rintro ⟨⟨c, d, rfl⟩, b, a, rfl⟩; exact ⟨_, ⟨c, d, rfl⟩, _, ⟨b, a, rfl⟩, rfl, rfl⟩
theorem pN.KD {C : List kJ} {f : lf} (h : pN C f) : ∃ c ∈ C, c.Kind = 1 ∧ c.lH = f.lH := by
 induction h with
 | mem c g hk => exact ⟨c, g, hk, rfl⟩
 | inc c w g hk _ ih => exact ih
 | FH c b w g hk _ _ a d => exact d
 | both c w g hk _ _ a d => exact a
theorem pN.head {C : List kJ} {f : lf} (h : pN C f) : ∃ c ∈ C, c.Head = f.kI := by
 cases h with
 | mem c a hk => exact ⟨c, a, rfl⟩
 | inc c w a hk _ => exact ⟨c, a, rfl⟩
 | FH c b w a hk _ _ => exact ⟨c, a, rfl⟩
 | both c w a hk _ _ => exact ⟨c, a, rfl⟩
theorem pN.FR {C : List kJ} {f : lf} (h : pN C f) : f ∈ FR C := by
 obtain ⟨c, a, _, hw⟩ := h.KD
 exact QL.2 ⟨h.head, c, a, hw⟩
structure rA (C : List kJ) (T : pV) (td : List lf) (n : Int) : Prop where
 keys : (T.map (·.1)).Nodup
 nd : (FS T).Nodup
 KH : td.Nodup
 sub : ∀ f ∈ td, f ∈ FS T
 num : n = (FS T).length
 xo : ∀ f ∈ FS T, pN C f
theorem rA.len {C : List kJ} {T : pV} {b : List lf} {n : Int} (h : rA C T b n) : (FS T).length ≤ C.length * C.length := by
 rw [← D1]; exact mZ h.nd (fun f a => (h.xo f a).FR)
theorem rA.RX {C : List kJ} {T : pV} {a : List lf} {n : Int} (h : rA C T a n) : a.length ≤ (FS T).length := mZ h.KH h.sub
theorem rA.mono {C C' : List kJ} {T : pV} {a : List lf} {n : Int} (h : rA C T a n) (b : ∀ c ∈ C, c ∈ C') : rA C' T a n := ⟨h.keys, h.nd, h.KH, h.sub, h.num, fun f d => (h.xo f d).mono b⟩
structure Az (T : pV) (td : List lf) (T' : pV) (td' : List lf) : Prop where
 nA : ∀ f ∈ FS T, f ∈ FS T'
 todo : ∀ f ∈ td, f ∈ td'
 new : ∀ f ∈ FS T', f ∈ FS T ∨ f ∈ td'
 fresh : ∀ f ∈ td', f ∈ td ∨ f ∉ FS T
theorem Az.refl (T : pV) (a : List lf) : Az T a T a := ⟨fun _ h => h, fun _ h => h, fun _ h => .inl h, fun _ h => .inl h⟩
theorem Az.trans {T T' T'' : pV} {i g a : List lf} (h : Az T i T' g) (k : Az T' g T'' a) : Az T i T'' a :=
 ⟨fun f b => k.nA f (h.nA f b), fun f b => k.todo f (h.todo f b), fun f b => by
  rcases k.new f b with h1 | h1
  ·rcases h.new f h1 with d | d
   ·exact .inl d
   ·exact .inr (k.todo f d)
  ·exact .inr h1, fun f b => by
  rcases k.fresh f b with h1 | h1
  ·exact h.fresh f h1
  ·exact .inr (fun d => h1 (h.nA f d))⟩
theorem Hr {α : Type} (p : α → Bool) : ∀ l : List α, (l.filter p).length + (l.filter fun x => !p x).length = l.length
 | [] => rfl
 | x :: l => by
  have := Hr p l
  cases h : p x <;> simp [h] <;> omega
theorem rA.FP {C C' : List kJ} {T T' : pV} {i d : List lf} {n p : Int} (j : rA C' T' d p) (g : rA C T i n) (x : Az T i T' d) : d.length + (FS T).length ≤ i.length + (FS T').length := by
 classical
 have h1 : (d.filter fun f => decide (f ∈ FS T)).length ≤ i.length := mZ (j.KH.filter _) (fun f k => by
  have := cD.1 k
  rcases x.fresh f this.1 with h | h
  ·exact h
  ·exact absurd (by simpa using this.2) h)
 have l : (FS T ++ d.filter fun f => !decide (f ∈ FS T)).length ≤ (FS T').length := mZ (bW.2 ⟨g.nd, j.KH.filter _, fun a ha b m e => by
  subst e
  have := (cD.1 m).2
  simp [ha] at this⟩) (fun f k => by
  rcases aN.1 k with h | h
  ·exact x.nA f h
  ·exact j.sub f (cD.1 h).1)
 have q : (d.filter fun f => decide (f ∈ FS T)).length + (d.filter fun f => !decide (f ∈ FS T)).length = d.length := by
  exact Hr (fun f => decide (f ∈ FS T)) d
 rw [aD] at l
 omega
def CK (C : List kJ) (T : pV) (g : List lf) (b : Option (List (kI × List (ByteArray × Bool)) × List lf × Int)) (Q : pV → Prop) : Prop :=
 ∃ T' a d, b = some (mm T', a, d) ∧ rA C T' a d ∧ Az T g T' a ∧ Q T'
theorem CK.mono {C : List kJ} {T : pV} {g : List lf} {a : Option (List (kI × List (ByteArray × Bool)) × List lf × Int)} {Q Q' : pV → Prop} (h : CK C T g a Q) (k : ∀ T', (∀ f ∈ FS T, f ∈ FS T') → Q T' → Q' T') : CK C T g a Q' := by
 obtain ⟨T', b, l, h1, i, d, j⟩ := h
 exact ⟨T', b, l, h1, i, d, k T' d.nA j⟩
def rS (C : List kJ) : Prop := C.length ≤ 1000000
theorem rS.sq {C : List kJ} (h : rS C) : C.length * C.length ≤ 1000000000000 := Nat.mul_le_mul h h
theorem tW {T : pV} (hk : (T.map (·.1)).Nodup) (r : kI) (w : ByteArray) : wX mn ((mz lu (mm T) r).getD []) w false = true ↔ (⟨r, w⟩ : lf) ∈ FS T := by
 rw [Lx, N8, pz nh, BU hk]
theorem Dh {C : List kJ} (y : rS C) {T : pV} {k : List lf} {n : Int} (h : rA C T k n) (cs : List kJ) (I : List (kI × List kJ)) (ws : List (ByteArray × List kJ)) {r : kI} {w : ByteArray} (z : pN C ⟨r, w⟩) :
  CK C T k (oJ (mm T) cs I ws k n r w) (fun T' => (⟨r, w⟩ : lf) ∈ FS T') := by
 unfold oJ
 have E := y.sq
 have J := h.len
 have F := h.RX
 by_cases g : (⟨r, w⟩ : lf) ∈ FS T
 ·rw [aT ((tW h.keys r w).2 g)]
  exact ⟨T, k, n, rfl, h, Az.refl _ _, g⟩
 ·rw [aY (fun t => g ((tW h.keys r w).1 t))]
  have D : rA C (ET T r w) (k ++ [⟨r, w⟩]) (n + 1) := by
   have hp := G8 T r w
   refine ⟨OH h.keys r w, (hp.nodup_iff).2 (bW.2 ⟨h.nd, by simp, fun a ha b p e => ?_⟩), bW.2 ⟨h.KH, by simp, fun a ha b p e => ?_⟩, fun f d => hp.mem_iff.2 ?_, ?_, fun f d => ?_⟩
   ·simp at p; subst p; subst e; exact g ha
   ·simp at p; subst p; subst e; exact g (h.sub _ ha)
   ·rcases aN.1 d with d | d
    ·exact cL _ (h.sub f d)
    ·exact eT _ d
   ·rw [hp.length_eq, h.num]; simp
   ·rcases aN.1 (hp.mem_iff.1 d) with d | d
    ·exact h.xo f d
    ·simp at d; subst d; exact z
  have u : ((if (mz lu (mm T) r).isNone = true then ((Gs lu (mm T) r []).bind fun l => some l) else some (mm T)) : Option _).bind (fun l => (F8 lu mn l r w true)) = some (mm (ET T r w)) := by
   unfold ET sP
   rcases ve r T with j | ⟨A, x, B, rfl, s⟩
   ·have q := wJ lx (zT j)
    rw [q, wJ lx j, DA lx j, Ew]
    simp only [Option.isNone_none, aJ, Gs, q, aA]
    rw [DA lx (zT j)]
    unfold F8
    rw [rR lx (zT j)]
    simp only [fD]
    rw [xK lx (zT j)]
    rfl
   ·have m := zT s
    have v : mz lu (mm (A ++ (r, x) :: B)) r = some (tt x) := by rw [Ew]; exact rR lx m
    rw [v, rR lx s, xK lx s]
    simp only [Option.isNone_some, aB, aG, aA, F8, v, fD, iF]
    have G : w ∉ x := fun hw => g (by
     rw [BU h.keys, sP, rR lx s]; exact hw)
    rw [Qp nh]
    rw [show ins mn x w = x ++ [w] from by unfold ins; rw [aY (fun t => G ((pz nh x w).1 t))]]
    rw [Ew, show mm ((r, x) :: B) = (r, tt x) :: mm B from rfl, xK lx m, Ew]
    rfl
  refine ⟨ET T r w, k ++ [⟨r, w⟩], n + 1, ?_, D, ⟨fun f d => (G8 T r w).mem_iff.2 (cL _ d), fun f d => cL _ d, fun f d => ?_, fun f d => ?_⟩, (G8 T r w).mem_iff.2 (by simp)⟩
  ·have i := u
   generalize ((if (mz lu (mm T) r).isNone = true then ((Gs lu (mm T) r []).bind fun l => some l) else some (mm T)) : Option _) = o at i
   cases o with
   | none => cases i
   | some l =>
    simp only [aA] at i ⊢
    rw [i]
    simp only [aA]
    rw [nR (by simp; omega) (by simp; omega)]
    simp only [aA]
    rw [lJ (by rw [h.num]; omega) (by rw [h.num]; omega)]
  ·rcases aN.1 ((G8 T r w).mem_iff.1 d) with h1 | h1
   ·exact .inl h1
   ·exact .inr (eT _ h1)
  ·rcases aN.1 d with h1 | h1
   ·exact .inl h1
   ·simp at h1; subst h1; exact .inr g
end Go.Proofs.YtmlncblocfcmiaaGreat
namespace Go.Proofs.YtmlncblocfcmiaaGreat
open Go.RowKit
theorem Ae (l : List ByteArray) (x : ByteArray) : x ∈ vL l ↔ x ∈ l := by unfold vL; simp
def tw (C : List kJ) : Prop := ∀ c ∈ C, mI c = true
theorem NF {c : kJ} (h : mI c = true) (hk : c.Kind = 1) : c.lH.size ≤ 16 := by
 rcases pA h with h | h | h | h
 ·exact (po h.2.1).2
 ·exact absurd (hk.symm.trans h.1) (by decide)
 ·exact absurd (hk.symm.trans h.1) (by decide)
 ·exact absurd (hk.symm.trans h.1) (by decide)
theorem Og {T : pV} (r : kI) (hk : (T.map (·.1)).Nodup) : (sP T r).length ≤ (FS T).length := by
 unfold sP
 rcases ve r T with b | ⟨A, x, B, rfl, a⟩
 ·rw [wJ lx b]; simp
 ·rw [rR lx a]
  simp only [FS, jF, jl, aD, dE, iF]
  omega
theorem Hd {C : List kJ} (a : rS C) (b : tw C) {T : pV} {i : List lf} {n : Int} (h : rA C T i n) (cs : List kJ) (j : List (kI × List kJ)) (ws : List (ByteArray × List kJ)) (q : List lf) (z : Int) (r : kI) :
  rF (mm T) cs j ws q z r = some (vL (sP T r)) := by
 unfold rF pF
 rw [Lx]
 simp only [aA, pU]
 have m := Og r h.keys
 have k := h.len
 have l := a.sq
 unfold GG
 rw [Qv, aT]
 refine ⟨Kn h.nd r, fun p hp => ?_, by rw [No]; omega⟩
 simp only [tt, bB] at hp
 obtain ⟨w, hw, rfl⟩ := hp
 have g := h.xo ⟨r, w⟩ ((BU h.keys ⟨r, w⟩).2 hw)
 obtain ⟨c, d, hk, e⟩ := g.KD
 have := NF (b c d) hk
 simp only at e ⊢
 rw [← e]
 unfold maxLen
 omega
theorem M0 {C : List kJ} (i : rS C) (cs : List kJ) (g : List (kI × List kJ)) (ws : List (ByteArray × List kJ)) (head : kI) : ∀ (l : List ByteArray) {T : pV} {a : List lf} {n : Int}, rA C T a n → (∀ w ∈ l, pN C ⟨head, w⟩) →
  CK C T a (qU cs g ws head l (mm T) a n) (fun T' => ∀ w ∈ l, (⟨head, w⟩ : lf) ∈ FS T')
 | [], T, a, n, h, _ => ⟨T, a, n, rfl, h, Az.refl _ _, fun _ hw => by cases hw⟩
 | w :: l, T, a, n, h, j => by
  rw [qU]
  obtain ⟨T1, s, t, k, g1, x1, q⟩ := Dh i h cs g ws (j w (by simp))
  rw [k]
  simp only [aA]
  obtain ⟨T2, d, p, m, g2, x2, r⟩ := M0 i cs g ws head l g1 (fun w hw => j w (by simp [hw]))
  refine ⟨T2, d, p, m, g2, x1.trans x2, fun v b => ?_⟩
  rcases aK.1 b with rfl | b
  ·exact x2.nA _ q
  ·exact r v b
theorem Q5 {C : List kJ} (b : rS C) (g : tw C) {T : pV} {a : List lf} {n : Int} (h : rA C T a n) (cs : List kJ) (d : List (kI × List kJ)) (ws : List (ByteArray × List kJ)) (r head : kI) (i : ∀ w, (⟨r, w⟩ : lf) ∈ FS T → pN C ⟨head, w⟩) :
  CK C T a (uI (mm T) cs d ws a n r head) (fun T' => ∀ w, (⟨r, w⟩ : lf) ∈ FS T → (⟨head, w⟩ : lf) ∈ FS T') := by
 unfold uI
 rw [Hd b g h]
 simp only [aA]
 refine (M0 b cs d ws head _ h (fun w hw => i w ((BU h.keys ⟨r, w⟩).2 ((Ae _ _).1 hw)))).mono (fun T' _ j w hw => j w ((Ae _ _).2 ((BU h.keys ⟨r, w⟩).1 hw)))
def Ff (c : kJ) (f : lf) (T T' : pV) : Prop :=
 (c.Kind = 2 → f.kI = c.B → (⟨c.Head, f.lH⟩ : lf) ∈ FS T') ∧
 (c.Kind = 3 → f.kI = c.B → ∀ w, (⟨⟨f.lH, c.lM⟩, w⟩ : lf) ∈ FS T → (⟨c.Head, w⟩ : lf) ∈ FS T') ∧
 (c.Kind = 4 → (⟨c.B, f.lH⟩ : lf) ∈ FS T → (⟨c.C, f.lH⟩ : lf) ∈ FS T → (⟨c.Head, f.lH⟩ : lf) ∈ FS T')
theorem Ff.mono {c : kJ} {f : lf} {T T' T0 T1 : pV} (h : Ff c f T T') (g : ∀ f ∈ FS T0, f ∈ FS T) (h1 : ∀ f ∈ FS T', f ∈ FS T1) : Ff c f T0 T1 :=
 ⟨fun a b => h1 _ (h.1 a b), fun a b w hw => h1 _ (h.2.1 a b w (g _ hw)), fun a b d => h1 _ (h.2.2 a (g _ b) (g _ d))⟩
theorem PH (x : Option (List (kI × List (ByteArray × Bool)) × List lf × Int)) : (x.bind fun r => some (r.1, r.2.1, r.2.2)) = x := by cases x <;> rfl
theorem M3 {C : List kJ} (p : rS C) (u : tw C) {T : pV} {i : List lf} {n : Int} (h : rA C T i n) (cs : List kJ) (l : List (kI × List kJ)) (ws : List (ByteArray × List kJ)) {c : kJ} (q : c ∈ C) {f : lf} (s : f ∈ FS T) (t : f.kI ∈ pu c) :
  CK C T i (sF (mm T) cs l ws i n c f) (Ff c f T) := by
 unfold sF
 simp only [PH, Ec]
 by_cases a : c.Kind = 2
 ·have m : f.kI = c.B := by simpa [pu, a] using t
  rw [aT (by simp [a])]
  have r : pN C ⟨c.Head, f.lH⟩ := .inc c f.lH q a (by rw [← m]; exact h.xo f s)
  refine (Dh p h cs l ws r).mono (fun T' _ g => ⟨fun _ _ => g, fun k => absurd (a.symm.trans k) (by decide), fun k => absurd (a.symm.trans k) (by decide)⟩)
 rw [aY (by simp [a])]
 by_cases b : c.Kind = 3
 ·have m : f.kI = c.B := by simpa [pu, b] using t
  rw [aT (by simp [b])]
  refine (Q5 p u h cs l ws ⟨f.lH, c.lM⟩ c.Head (fun w hw => .FH c f.lH w q b (by rw [← m]; exact h.xo f s) (h.xo _ hw))).mono (fun T' _ g => ⟨fun k => absurd k a, fun _ _ w hw => g w hw, fun k => absurd (b.symm.trans k) (by decide)⟩)
 rw [aY (by simp [b])]
 by_cases j : c.Kind = 4
 ·rw [aT (by simp [j])]
  simp only [aA]
  by_cases d : (⟨c.B, f.lH⟩ : lf) ∈ FS T ∧ (⟨c.C, f.lH⟩ : lf) ∈ FS T
  ·rw [aT (by rw [aZ, tW h.keys, tW h.keys]; exact d)]
   have r : pN C ⟨c.Head, f.lH⟩ := .both c f.lH q j (h.xo _ d.1) (h.xo _ d.2)
   exact (Dh p h cs l ws r).mono (fun T' _ g => ⟨fun k => absurd k a, fun k => absurd k b, fun _ _ _ => g⟩)
  ·rw [aY (by rw [aZ, tW h.keys, tW h.keys]; exact d)]
   exact ⟨T, i, n, rfl, h, Az.refl _ _, fun k => absurd k a, fun k => absurd k b, fun _ x y => absurd ⟨x, y⟩ d⟩
 ·rw [aY (by simp [j])]
  exact ⟨T, i, n, rfl, h, Az.refl _ _, fun k => absurd k a, fun k => absurd k b, fun k => absurd k j⟩
theorem Jm {C : List kJ} (i : rS C) (j : tw C) (cs : List kJ) (g : List (kI × List kJ)) (ws : List (ByteArray × List kJ)) {c : kJ} (k : c ∈ C) (m : c.B ∈ pu c) : ∀ (l : List ByteArray) {T : pV} {a : List lf} {n : Int}, rA C T a n → (∀ w ∈ l, (⟨c.B, w⟩ : lf) ∈ FS T) →
  CK C T a (qc cs g ws c l (mm T) a n) (fun T' => ∀ w ∈ l, Ff c ⟨c.B, w⟩ T T')
 | [], T, a, n, h, _ => ⟨T, a, n, rfl, h, Az.refl _ _, fun _ hw => by cases hw⟩
 | w :: l, T, a, n, h, hm => by
  rw [qc]
  obtain ⟨T1, u, x, p, g1, x1, s⟩ := M3 i j h cs g ws k (f := ⟨c.B, w⟩) (hm w (by simp)) m
  rw [p]
  simp only [aA]
  obtain ⟨T2, d, r, q, g2, x2, t⟩ := Jm i j cs g ws k m l g1 (fun w hw => x1.nA _ (hm w (by simp [hw])))
  refine ⟨T2, d, r, q, g2, x1.trans x2, fun v b => ?_⟩
  rcases aK.1 b with rfl | b
  ·exact s.mono (fun _ h => h) x2.nA
  ·exact (t v b).mono x1.nA (fun _ h => h)
def FE (c : kJ) (T : pV) (a : List lf) : Prop :=
 (c.Kind = 1 → (⟨c.Head, c.lH⟩ : lf) ∈ FS T) ∧
 (c.Kind = 2 → ∀ w, (⟨c.B, w⟩ : lf) ∈ FS T → (⟨c.B, w⟩ : lf) ∉ a → (⟨c.Head, w⟩ : lf) ∈ FS T) ∧
 (c.Kind = 3 → ∀ b w, (⟨c.B, b⟩ : lf) ∈ FS T → (⟨c.B, b⟩ : lf) ∉ a → (⟨⟨b, c.lM⟩, w⟩ : lf) ∈ FS T → (⟨⟨b, c.lM⟩, w⟩ : lf) ∉ a → (⟨c.Head, w⟩ : lf) ∈ FS T) ∧
 (c.Kind = 4 → ∀ w, (⟨c.B, w⟩ : lf) ∈ FS T → (⟨c.B, w⟩ : lf) ∉ a → (⟨c.C, w⟩ : lf) ∈ FS T → (⟨c.C, w⟩ : lf) ∉ a → (⟨c.Head, w⟩ : lf) ∈ FS T)
theorem FE.ext {c : kJ} {T T' : pV} {i d : List lf} (h : FE c T i) (x : Az T i T' d) : FE c T' d := by
 have nA : ∀ f, f ∈ FS T' → f ∉ d → f ∈ FS T ∧ f ∉ i := fun f m j => by
  rcases x.new f m with h1 | h1
  ·exact ⟨h1, fun l => j (x.todo f l)⟩
  ·exact absurd h1 j
 refine ⟨fun k => x.nA _ (h.1 k), fun k w a b => ?_, fun k b w g a2 a3 a4 => ?_, fun k w g a2 a3 a4 => ?_⟩
 ·exact x.nA _ (h.2.1 k w (nA _ a b).1 (nA _ a b).2)
 ·exact x.nA _ (h.2.2.1 k b w (nA _ g a2).1 (nA _ g a2).2 (nA _ a3 a4).1 (nA _ a3 a4).2)
 ·exact x.nA _ (h.2.2.2 k w (nA _ g a2).1 (nA _ g a2).2 (nA _ a3 a4).1 (nA _ a3 a4).2)
theorem Pj {C : List kJ} (l : rS C) (s : tw C) {T : pV} {p : List lf} {n : Int} (h : rA C T p n) (cs : List kJ) (r : List (kI × List kJ)) (ws : List (ByteArray × List kJ)) {c : kJ} (t : c ∈ C) :
  ∃ T' d i, tF (mm T) cs r ws p n c = some (mm T', d, i) ∧ rA C T' d i ∧ Az T p T' d ∧ FE c T' d := by
 unfold tF
 simp only [PH]
 by_cases h1 : c.Kind = 1
 ·rw [aT (by simp [h1])]
  obtain ⟨T', d, i, e, g, x, q⟩ := Dh l h cs r ws (pN.mem c t h1)
  exact ⟨T', d, i, e, g, x, fun _ => q, fun k => absurd (h1.symm.trans k) (by decide), fun k => absurd (h1.symm.trans k) (by decide), fun k => absurd (h1.symm.trans k) (by decide)⟩
 ·rw [aY (by simp [h1]), Hd l s h]
  simp only [aA]
  have y : c.B ∈ pu c := by unfold pu; rw [aY h1]; split <;> simp
  obtain ⟨T', d, i, e, g, x, q⟩ := Jm l s cs r ws t y (vL (sP T c.B)) h (fun w hw => (BU h.keys ⟨c.B, w⟩).2 ((Ae _ _).1 hw))
  have nA : ∀ f, f ∈ FS T' → f ∉ d → f ∈ FS T := fun f u v => by
   rcases x.new f u with h1 | h1
   ·exact h1
   ·exact absurd h1 v
  have m : ∀ w, (⟨c.B, w⟩ : lf) ∈ FS T → Ff c ⟨c.B, w⟩ T T' := fun w hw => q w ((Ae _ _).2 ((BU h.keys ⟨c.B, w⟩).1 hw))
  refine ⟨T', d, i, e, g, x, fun k => absurd k h1, fun k w a b => ?_, fun k b w j a2 a3 a4 => ?_, fun k w j a2 a3 a4 => ?_⟩
  ·exact (m w (nA _ a b)).1 k rfl
  ·exact (m b (nA _ j a2)).2.1 k rfl w (nA _ a3 a4)
  ·exact (m w (nA _ j a2)).2.2 k (nA _ j a2) (nA _ a3 a4)
structure EN (C : List kJ) (us : List (kI × List kJ)) (ws : List (ByteArray × List kJ)) : Prop where
 On : ∀ r c, c ∈ (mz lu us r).getD [] ↔ c ∈ C ∧ r ∈ pu c
 word : ∀ w c, c ∈ (mz mn ws w).getD [] ↔ c ∈ C ∧ c.Kind = 3 ∧ c.lM = w
 RF : ∀ r, ((mz lu us r).getD []).length ≤ 2 * C.length
 RM : ∀ w, ((mz mn ws w).getD []).length ≤ C.length
theorem HZ {C : List kJ} (i : rS C) (j : tw C) (cs : List kJ) (g : List (kI × List kJ)) (ws : List (ByteArray × List kJ)) {f : lf} : ∀ (l : List kJ) {T : pV} {a : List lf} {n : Int}, rA C T a n → f ∈ FS T → (∀ c ∈ l, c ∈ C ∧ f.kI ∈ pu c) →
  CK C T a (pS cs g ws f l (mm T) a n) (fun T' => ∀ c ∈ l, Ff c f T T')
 | [], T, a, n, h, _, _ => ⟨T, a, n, rfl, h, Az.refl _ _, fun _ hw => by cases hw⟩
 | c :: l, T, a, n, h, k, hm => by
  rw [pS]
  obtain ⟨T1, u, w, m, g1, x1, s⟩ := M3 i j h cs g ws (hm c (by simp)).1 k (hm c (by simp)).2
  rw [m]
  simp only [aA]
  obtain ⟨T2, d, r, p, g2, x2, t⟩ := HZ i j cs g ws l g1 (x1.nA _ k) (fun c q => hm c (by simp [q]))
  refine ⟨T2, d, r, p, g2, x1.trans x2, fun v b => ?_⟩
  rcases aK.1 b with rfl | b
  ·exact s.mono (fun _ h => h) x2.nA
  ·exact (t v b).mono x1.nA (fun _ h => h)
theorem EB {C : List kJ} (m : rS C) (u : tw C) (cs : List kJ) (j : List (kI × List kJ)) (ws : List (ByteArray × List kJ)) {f : lf} : ∀ (l : List kJ) {T : pV} {g : List lf} {n : Int}, rA C T g n → f ∈ FS T → (∀ c ∈ l, c ∈ C ∧ c.Kind = 3 ∧ c.lM = f.kI.kP) →
  CK C T g (oO f cs j ws l (mm T) g n) (fun T' => ∀ c ∈ l, (⟨c.B, f.kI.kK⟩ : lf) ∈ FS T → (⟨c.Head, f.lH⟩ : lf) ∈ FS T')
 | [], T, g, n, h, _, _ => ⟨T, g, n, rfl, h, Az.refl _ _, fun _ hw => by cases hw⟩
 | c :: l, T, g, n, h, q, hm => by
  rw [oO]
  have hk := hm c (by simp)
  by_cases i : (⟨c.B, f.kI.kK⟩ : lf) ∈ FS T
  ·rw [aT ((tW h.keys _ _).2 i)]
   have r : f = ⟨⟨f.kI.kK, c.lM⟩, f.lH⟩ := by rw [hk.2.2]
   have x : pN C ⟨c.Head, f.lH⟩ := .FH c f.kI.kK f.lH hk.1 hk.2.1 (h.xo _ i) (by rw [← r]; exact h.xo f q)
   obtain ⟨T1, A, D, w, g1, x1, z⟩ := Dh m h cs j ws x
   rw [w]
   simp only [aA]
   obtain ⟨T2, d, s, k, g2, x2, t⟩ := EB m u cs j ws l g1 (x1.nA _ q) (fun c p => hm c (by simp [p]))
   refine ⟨T2, d, s, k, g2, x1.trans x2, fun v b a => ?_⟩
   rcases aK.1 b with rfl | b
   ·exact x2.nA _ z
   ·exact t v b (x1.nA _ a)
  ·rw [aY (fun y => i ((tW h.keys _ _).1 y))]
   obtain ⟨T2, d, s, k, g2, x2, t⟩ := EB m u cs j ws l h q (fun c p => hm c (by simp [p]))
   refine ⟨T2, d, s, k, g2, x2, fun v b a => ?_⟩
   rcases aK.1 b with rfl | b
   ·exact absurd a i
   ·exact t v b a
theorem Iu {C : List kJ} (E : rS C) (F : tw C) {cs : List kJ} {A : List (kI × List kJ)} {ws : List (ByteArray × List kJ)} (u : EN C A ws) : ∀ (m : Nat) {T : pV} {l : List lf} {n : Int}, rA C T l n → (∀ c ∈ C, FE c T l) → C.length * C.length + l.length < m + (FS T).length →
  ∃ T' J, om cs A ws m (mm T) l n = some (mm T', [], J) ∧ rA C T' [] J ∧ (∀ c ∈ C, FE c T' []) ∧ (∀ f ∈ FS T, f ∈ FS T')
 | 0, T, l, n, h, _, hm => by have := h.len; omega
 | m + 1, T, [], n, h, q, hm => by
  rw [om]
  exact ⟨T, n, rfl, h, q, fun _ h => h⟩
 | m + 1, T, f :: l, n, h, q, hm => by
  rw [om]
  rw [aT (by simp)]
  have I : f ∈ FS T := h.sub f (by simp)
  have Q := (dX.1 h.KH)
  simp only [mF, Int.le_refl, aJ, Int.toNat_zero, iW, aA]
  rw [show qZ (decide ((0 : Nat) ≤ 1) && decide ((1 : Int) ≤ ((f :: l).length : Int))) = some () by simp [qZ]; omega]
  simp only [aA, show Int.toNat 1 = 1 from rfl, List.drop_one, List.tail_cons]
  have G : rA C T l n := ⟨h.keys, h.nd, Q.2, fun g y => h.sub g (by simp [y]), h.num, h.xo⟩
  obtain ⟨T1, a6, n1, M, g1, x1, Y⟩ := HZ E F cs A ws ((mz lu A f.kI).getD []) G I (fun c i => (u.On _ c).1 i)
  rw [M]
  simp only [aA]
  obtain ⟨T2, r, n2, O, g2, x2, Z⟩ := EB E F cs A ws ((mz mn ws f.kI.kP).getD []) g1 (x1.nA _ I) (fun c i => (u.word _ c).1 i)
  rw [O]
  simp only [aA]
  have x := x1.trans x2
  have nA : ∀ g, g ∈ FS T2 → g ∉ r → g ∈ FS T ∧ (g = f ∨ g ∉ f :: l) := fun g y z => by
   rcases x.new g y with h1 | h1
   ·refine ⟨h1, ?_⟩
    by_cases he : g = f
    ·exact .inl he
    ·exact .inr (fun t => by
      rcases aK.1 t with t | t
      ·exact he t
      ·exact z (x.todo g t))
   ·exact absurd h1 z
  have d1 : ∀ c ∈ C, f.kI ∈ pu c → Ff c f T T2 := fun c i R => (Y c ((u.On _ c).2 ⟨i, R⟩)).mono (fun _ h => h) x2.nA
  have v : ∀ c ∈ C, FE c T2 r := fun c i => by
   have k := q c i
   refine ⟨fun hk => x.nA _ (k.1 hk), fun hk w a b => ?_, fun hk b w D a2 a3 a4 => ?_, fun hk w D a2 a3 a4 => ?_⟩
   ·obtain ⟨p, d⟩ := nA _ a b
    rcases d with d | d
    ·subst d; exact (d1 c i (by simp [pu, hk])).1 hk rfl
    ·exact x.nA _ (k.2.1 hk w p d)
   ·obtain ⟨p, d⟩ := nA _ D a2
    obtain ⟨s, j⟩ := nA _ a3 a4
    rcases d with d | d
    ·subst d; exact (d1 c i (by simp [pu, hk])).2.1 hk rfl w s
    ·rcases j with j | j
     ·subst j
      exact Z c ((u.word _ c).2 ⟨i, hk, rfl⟩) (x1.nA _ p)
     ·exact x.nA _ (k.2.2.1 hk b w p d s j)
   ·obtain ⟨p, d⟩ := nA _ D a2
    obtain ⟨s, j⟩ := nA _ a3 a4
    rcases d with d | d
    ·subst d; exact (d1 c i (by simp [pu, hk])).2.2 hk p s
    ·rcases j with j | j
     ·subst j; exact (d1 c i (by simp [pu, hk])).2.2 hk p s
     ·exact x.nA _ (k.2.2.2 hk w p d s j)
  have hlen : r.length + (FS T).length ≤ l.length + (FS T2).length := by
   exact g2.FP G x
  obtain ⟨T3, U, P, g3, L, W⟩ := Iu E F u m g2 v (by simp only [aI] at hm; omega)
  exact ⟨T3, U, P, g3, L, fun g y => W g (x.nA g y)⟩
end Go.Proofs.YtmlncblocfcmiaaGreat
namespace Go.Proofs.YtmlncblocfcmiaaGreat
open Go.RowKit
theorem Ll (c : kJ) : ∀ (l : List kJ) (i : Nat), ∃ z, qT c l i = some z ∧ (z ≥ 0 ↔ c ∈ l)
 | [], i => ⟨-1, rfl, by simp⟩
 | x :: l, i => by
  rw [qT]
  by_cases h : lV c x = true
  ·rw [aT h]
   exact ⟨_, rfl, by simp [mC.1 h]⟩
  ·rw [aY h]
   obtain ⟨z, e, b⟩ := Ll c l (i + 1)
   refine ⟨z, e, ?_⟩
   rw [b, aK]
   exact ⟨.inr, fun a => a.resolve_left (fun e => h (mC.2 e))⟩
theorem JM (c : kJ) (l : List kJ) : ∃ b, wo l c = some b ∧ (b = true ↔ c ∈ l) := by
 obtain ⟨z, e, a⟩ := Ll c l 0
 refine ⟨decide (z ≥ 0), ?_, by simpa using a⟩
 unfold wo tm wO
 rw [e]
 rfl
theorem KO (c : kJ) (ws : List (ByteArray × List kJ)) (C : List kJ) (hw : ∀ w, ((mz mn ws w).getD []).length ≤ 2000000) : ∀ (j : List kI) (a : List (kI × List kJ)), (∀ r, ((mz lu a r).getD []).length + j.length ≤ 4000000) →
  ∃ g i, pv c ws C j a = some (C, g, i) ∧ (∀ r x, x ∈ (mz lu g r).getD [] ↔ x ∈ (mz lu a r).getD [] ∨ (x = c ∧ r ∈ j)) ∧
   (∀ w x, x ∈ (mz mn i w).getD [] ↔ x ∈ (mz mn ws w).getD [] ∨ (x = c ∧ c.Kind = 3 ∧ w = c.lM)) ∧ (∀ r, ((mz lu g r).getD []).length ≤ ((mz lu a r).getD []).length + j.length) ∧
   (∀ w, ((mz mn i w).getD []).length ≤ ((mz mn ws w).getD []).length + 1)
 | [], a, _ => by
  rw [pv]
  by_cases k : c.Kind = 3
  ·rw [aT (by simp [k])]
   have h := hw c.lM
   rw [nR (by simp; omega) (by simp; omega)]
   simp only [aA]
   refine ⟨a, _, rfl, by simp, fun w x => ?_, by simp, fun w => ?_⟩
   ·rw [Cm nh]
    by_cases hk : mn w c.lM = true
    ·rw [aT hk, nh.1 hk]; simp [k]
    ·rw [aY hk]
     have : w ≠ c.lM := fun e => hk (nh.2 e)
     simp [this]
   ·rw [Cm nh]
    by_cases hk : mn w c.lM = true
    ·rw [aT hk, nh.1 hk]; simp
    ·rw [aY hk]; exact jR _
  ·rw [aY (by simp [k])]
   exact ⟨a, ws, rfl, by simp, by simp [k], by simp, by simp⟩
 | b :: j, a, l => by
  rw [pv]
  have h := l b
  simp only [aI] at h
  rw [nR (by simp; omega) (by simp; omega)]
  simp only [aA]
  have d : ∀ r, (mz lu (oy lu a b (((mz lu a b).getD []) ++ [c])) r).getD [] = if lu r b = true then ((mz lu a b).getD []) ++ [c] else (mz lu a r).getD [] := fun r => by
   rw [Cm lx]; by_cases hk : lu r b = true
   ·rw [aT hk, aT hk]; rfl
   ·rw [aY hk, aY hk]
  obtain ⟨g, i, e, m, a2, a3, a4⟩ := KO c ws C hw j (oy lu a b (((mz lu a b).getD []) ++ [c])) (fun r => by
   rw [d r]
   have n := l r
   simp only [aI] at n
   by_cases hk : lu r b = true
   ·rw [aT hk]; simp; omega
   ·rw [aY hk]; omega)
  refine ⟨g, i, e, fun r x => ?_, a2, fun r => ?_, a4⟩
  ·rw [m, d]
   by_cases hk : lu r b = true
   ·rw [aT hk, lx.1 hk]
    simp only [aN, aK, dG, gM]
    constructor
    ·rintro ((h | h) | h)
     ·exact .inl h
     ·exact .inr ⟨h, .inl trivial⟩
     ·exact .inr ⟨h.1, .inr h.2⟩
    ·rintro (h | h)
     ·exact .inl (.inl h)
     ·exact .inl (.inr h.1)
   ·rw [aY hk]
    have : r ≠ b := fun e => hk (lx.2 e)
    simp [this]
  ·have := a3 r
   rw [d r] at this
   by_cases hk : lu r b = true
   ·rw [aT hk] at this; rw [lx.1 hk] at this ⊢; simp at this ⊢; omega
   ·rw [aY hk] at this; simp; omega
theorem Qm {C : List kJ} {j : List (kI × List kJ)} {ws : List (ByteArray × List kJ)} (g : EN C j ws) (q : C.length + 1 ≤ 1000000) {c : kJ} (l : mI c = true) (i : List (kI × List (ByteArray × Bool))) (p : List lf) (n : Int) :
  ∃ a b, ua i C j ws p n c = some (C ++ [c], a, b) ∧ EN (C ++ [c]) a b := by
 unfold ua
 rw [nR (by simp; omega) (by simp; omega)]
 simp only [aA, QV l]
 rw [show qZ (decide ((0 : Nat) ≤ 1) && decide ((1 : Int) ≤ ((c.Head :: pu c).length : Int))) = some () by simp [qZ]; omega]
 simp only [aA, show Int.toNat 1 = 1 from rfl, List.drop_one, List.tail_cons]
 have m : (pu c).length ≤ 2 := by unfold pu; split; simp; split <;> simp
 obtain ⟨a, b, e, k, a2, a3, a4⟩ := KO c ws (C ++ [c]) (fun w => by have := g.RM w; omega) (pu c) j (fun r => by have := g.RF r; omega)
 refine ⟨a, b, e, fun r x => ?_, fun w x => ?_, fun r => ?_, fun w => ?_⟩
 ·rw [k, g.On, aN, cJ]
  constructor
  ·rintro (h | h)
   ·exact ⟨.inl h.1, h.2⟩
   ·exact ⟨.inr h.1, by rw [h.1]; exact h.2⟩
  ·rintro ⟨h | h, d⟩
   ·exact .inl ⟨h, d⟩
   ·exact .inr ⟨h, by rw [← h]; exact d⟩
 ·rw [a2, g.word, aN, cJ]
  constructor
  ·rintro (h | h)
   ·exact ⟨.inl h.1, h.2⟩
   ·exact ⟨.inr h.1, by rw [h.1]; exact ⟨h.2.1, h.2.2.symm⟩⟩
  ·rintro ⟨h | h, d⟩
   ·exact .inl ⟨h, d⟩
   ·subst h; exact .inr ⟨rfl, d.1, d.2.symm⟩
 ·have := a3 r; have := g.RF r; simp; omega
 ·have := a4 w; have := g.RM w; simp; omega
structure MS (C : List kJ) (T : pV) (us : List (kI × List kJ)) (ws : List (ByteArray × List kJ)) (n : Int) : Prop where
 Ez : rA C T [] n
 cl : ∀ c ∈ C, FE c T []
 Tp : EN C us ws
 right : tw C
theorem MS.all {C : List kJ} {T : pV} {j : List (kI × List kJ)} {ws : List (ByteArray × List kJ)} {n : Int} (h : MS C T j ws n) (f : lf) : f ∈ FS T ↔ pN C f := by
 refine ⟨h.Ez.xo f, fun i => ?_⟩
 induction i with
 | mem c a hk => exact (h.cl c a).1 hk
 | inc c w a hk _ ih => exact (h.cl c a).2.1 hk w ih (by simp)
 | FH c b w a hk _ _ d g => exact (h.cl c a).2.2.1 hk b w d (by simp) g (by simp)
 | both c w a hk _ _ d g => exact (h.cl c a).2.2.2 hk w d (by simp) g (by simp)
theorem Jy (q : Int) (y : 0 ≤ q ∧ q ≤ 1000000000000) : ∀ (l : List kJ) {C : List kJ} {T : pV} {p : List lf} {z : List (kI × List kJ)} {ws : List (ByteArray × List kJ)} {n : Int}, rA C T p n → (∀ c ∈ C, FE c T p) → EN C z ws → tw C → C.length + l.length ≤ 1000000 →
  ∃ C' T' a d j, oL q l (mm T) C z ws p n = some (j - q, mm T', C', a, d, [], j) ∧ MS C' T' a d j ∧ (∀ c, c ∈ C' ↔ c ∈ C ∨ (c ∈ l ∧ mI c = true)) ∧ C'.length ≤ C.length + l.length ∧ (∀ f ∈ FS T, f ∈ FS T')
 | [], C, T, p, z, ws, n, g, i, t, r, J => by
  rw [oL]
  have R : rS C := by unfold rS; simp at J; omega
  have a6 := R.sq
  have hlen := g.len
  have a7 := g.RX
  obtain ⟨T', j, e, E, W, o⟩ := Iu R r t (cs := C) lE g i (by rw [xO]; omega)
  unfold vu
  rw [e]
  simp only [aA]
  have L := E.len
  have U := E.num
  rw [lJ (by omega) (by omega)]
  exact ⟨C, T', z, ws, j, rfl, ⟨E, W, t, r⟩, by simp, by simp, o⟩
 | x :: l, C, T, p, z, ws, n, g, i, t, r, J => by
  rw [oL, wW]
  simp only [aI] at J
  obtain ⟨b, hb, u⟩ := JM x C
  simp only [aA, hb, Ec]
  by_cases k : mI x = true ∧ x ∉ C
  ·have G : b = false := by cases b with | false => rfl | true => exact absurd (u.1 rfl) k.2
   rw [k.1, G]
   simp only [cX, ke, aJ]
   obtain ⟨P, Q, Y, U1⟩ := Qm t (by omega) k.1 (mm T) p n
   rw [Y]
   simp only [aA]
   have F : rS (C ++ [x]) := by unfold rS; simp; omega
   have s : tw (C ++ [x]) := fun c v => by
    rcases aN.1 v with h | h
    ·exact r c h
    ·simp at h; subst h; exact k.1
   have g1 : rA (C ++ [x]) T p n := g.mono (fun c v => cL _ v)
   obtain ⟨T2, O, n2, Z, g2, x2, c2⟩ := Pj F s g1 (C ++ [x]) P Q (c := x) (by simp)
   rw [Z]
   simp only [aA]
   have w : ∀ c ∈ C ++ [x], FE c T2 O := fun c v => by
    rcases aN.1 v with h | h
    ·exact (i c h).ext x2
    ·simp at h; subst h; exact c2
   obtain ⟨C', T', a, d, j, e, m, D, a2, a3⟩ := Jy q y l g2 w U1 s (by simp; omega)
   refine ⟨C', T', a, d, j, e, m, fun c => ?_, by simp at a2 ⊢; omega, fun f I => a3 f (x2.nA f I)⟩
   rw [D]
   simp only [aN, aK, dG, gM]
   constructor
   ·rintro ((h | h) | h)
    ·exact .inl h
    ·subst h; exact .inr ⟨.inl rfl, k.1⟩
    ·exact .inr ⟨.inr h.1, h.2⟩
   ·rintro (h | ⟨h | h, A⟩)
    ·exact .inl (.inl h)
    ·exact .inl (.inr h)
    ·exact .inr ⟨h, A⟩
  ·have I : (mI x && !b) = false := by
    cases hr : mI x with
    | false => rfl
    | true =>
     have : x ∈ C := eQ fun M => k ⟨hr, M⟩
     rw [u.2 this]; rfl
   rw [I]
   simp only [aB, aG]
   obtain ⟨C', T', a, d, j, e, m, D, a2, a3⟩ := Jy q y l g i t r (by omega)
   refine ⟨C', T', a, d, j, e, m, fun c => ?_, by simp; omega, a3⟩
   rw [D, aK]
   constructor
   ·rintro (h | h)
    ·exact .inl h
    ·exact .inr ⟨.inr h.1, h.2⟩
   ·rintro (h | ⟨h | h, A⟩)
    ·exact .inl h
    ·subst h
     exact .inl (eQ fun M => k ⟨A, M⟩)
    ·exact .inr ⟨h, A⟩
theorem QP {C : List kJ} {T : pV} {g : List (kI × List kJ)} {ws : List (ByteArray × List kJ)} {n : Int} (h : MS C T g ws n) (l : List kJ) (j : C.length + l.length ≤ 1000000) :
  ∃ C' T' a b d, uH (mm T) C g ws [] n l = some (d - n, mm T', C', a, b, [], d) ∧ MS C' T' a b d ∧ (∀ c, c ∈ C' ↔ c ∈ C ∨ (c ∈ l ∧ mI c = true)) ∧ C'.length ≤ C.length + l.length ∧ (∀ f ∈ FS T, f ∈ FS T') := by
 have i : rS C := by unfold rS; omega
 have h1 := h.Ez.len
 have k := i.sq
 have m := h.Ez.num
 exact Jy n ⟨by omega, by omega⟩ l h.Ez h.cl h.Tp h.right j
theorem EN.zero : EN [] [] [] := ⟨fun r c => by simp [mz], fun w c => by simp [mz], fun r => by simp [mz], fun w => by simp [mz]⟩
theorem rA.zero : rA [] [] [] 0 := ⟨by simp, by simp [FS], by simp, by simp, by simp [FS], by simp [FS]⟩
theorem MS.zero : MS [] [] [] [] 0 := ⟨rA.zero, fun c a => (by cases a), EN.zero, fun c a => (by cases a)⟩
theorem Mb (l : List kJ) (h : l.length ≤ 1000000) : ∃ C T d ws n, xB l = some (mm T, C, d, ws, [], n) ∧ MS C T d ws n ∧ (∀ c, c ∈ C ↔ c ∈ l ∧ mI c = true) ∧ C.length ≤ l.length := by
 unfold xB
 obtain ⟨C', T', a, b, i, e, m, g, a2, a3⟩ := QP MS.zero l (by simpa using h)
 rw [show uH [] [] [] [] [] 0 l = _ from e]
 exact ⟨C', T', a, b, i, rfl, m, by simpa using g, by simpa using a2⟩
theorem pN.congr {C C' : List kJ} (h : ∀ c, c ∈ C ↔ c ∈ C') (f : lf) : pN C f ↔ pN C' f := ⟨fun d => d.mono (fun c a => (h c).1 a), fun d => d.mono (fun c a => (h c).2 a)⟩
end Go.Proofs.YtmlncblocfcmiaaGreat
namespace Go.Proofs.YtmlncblocfcmiaaGreat
open Go.RowKit
def zI (a b : lf) : Bool := Cp a.kI b.kI || (lu a.kI b.kI && rq a.lH b.lH)
theorem Bd {a b : lf} : zI a b = true ↔ Cp a.kI b.kI = true ∨ (a.kI = b.kI ∧ rq a.lH b.lH = true) := by simp [zI, lx]
def D6 (_ : lf) : Bool := true
theorem Ha : AO (fun a b => zI a b = true) (fun x => D6 x = true) := by
 have H := Sk (fun _ => True)
 refine ⟨fun x _ => ?_, fun x y z _ _ _ h1 d => ?_, fun x y _ _ => ?_⟩
 ·rw [Bd]
  rintro (h | ⟨_, h⟩)
  ·exact H.irrefl _ trivial h
  ·rw [tX] at h; cases h
 ·rw [Bd] at *
  rcases h1 with h1 | ⟨i, h1⟩
  ·rcases d with d | ⟨g, d⟩
   ·exact .inl (H.trans _ _ _ trivial trivial trivial h1 d)
   ·exact .inl (by rw [← g]; exact h1)
  ·rcases d with d | ⟨g, d⟩
   ·exact .inl (by rw [i]; exact d)
   ·exact .inr ⟨i.trans g, AD h1 d⟩
 ·simp only [Bd]
  rcases H.total x.kI y.kI trivial trivial with h | h | h
  ·exact .inl (.inl h)
  ·rcases Au x.lH y.lH with d | d | d
   ·exact .inl (.inr ⟨h, d⟩)
   ·refine .inr (.inl ?_)
    cases x; cases y; simp at h d; simp [h, d]
   ·exact .inr (.inr (.inr ⟨h.symm, d⟩))
  ·exact .inr (.inr (.inl h))
theorem Hc (a b : ByteArray) : qe a b = 0 ↔ a = b := by unfold qe; rw [Gp]; exact ⟨Ap, fun h => by rw [h]⟩
theorem Se (a b : ByteArray) : qe a b < 0 ↔ rq a b = true := by rw [yO]; exact Dl _ _
theorem NW (a b : kI) : ∃ c, sV a b = some c ∧ (c < 0 ↔ Cp a b = true) ∧ (c = 0 ↔ a = b) := by
 obtain ⟨c, e, h⟩ := AY a b
 refine ⟨c, e, h, ?_⟩
 unfold sV at e
 simp only [qC, oA, aA, vE, tE, pU] at e
 by_cases d : qe a.kK b.kK = 0
 ·rw [aY (by simp [d])] at e
  have h1 := (Hc _ _).1 d
  by_cases g : qe a.kP b.kP = 0
  ·rw [aY (by simp [g])] at e
   have i := (Hc _ _).1 g
   cases e
   refine ⟨fun _ => ?_, fun _ => rfl⟩
   cases a; cases b; simp at h1 i; simp [h1, i]
  ·rw [aT (by simp [g])] at e
   cases e
   exact ⟨fun k => absurd k g, fun k => by rw [k] at g; exact absurd ((Hc _ _).2 rfl) g⟩
 ·rw [aT (by simp [d])] at e
  cases e
  exact ⟨fun k => absurd k d, fun k => by rw [k] at d; exact absurd ((Hc _ _).2 rfl) d⟩
theorem Om (a b : lf) : ∃ c, rh a b = some c ∧ (c < 0 ↔ zI a b = true) := by
 unfold rh
 obtain ⟨c, e, h1, i⟩ := NW a.kI b.kI
 rw [e]
 simp only [qC, oA, aA, vE, tE, pU]
 by_cases g : c = 0
 ·rw [aY (by simp [g])]
  have l := i.1 g
  have d : ¬ Cp a.kI b.kI = true := fun j => by have := h1.2 j; omega
  by_cases h : qe a.lH b.lH = 0
  ·rw [aY (by simp [h])]
   refine ⟨0, rfl, ?_⟩
   rw [Bd]
   simp [d, (Hc _ _).1 h, tX]
  ·rw [aT (by simp [h])]
   refine ⟨_, rfl, ?_⟩
   rw [Bd, Se]
   exact ⟨fun k => .inr ⟨l, k⟩, fun k => k.elim (fun k => absurd k d) (·.2)⟩
 ·rw [aT (by simp [g])]
  refine ⟨c, rfl, ?_⟩
  rw [Bd, h1]
  have : a.kI ≠ b.kI := fun k => g (i.2 k)
  simp [this]
theorem Lv {α : Type} {eq : α → α → Bool} (he : ∀ x y, eq x y = true ↔ x = y) : ∀ (l : List α) (p : α), (p :: l).Nodup → nV eq p l = l
 | [], p, _ => rfl
 | y :: l, p, h => by
  have h1 := dX.1 h
  rw [nV, aY (fun e => h1.1 (by rw [← (he _ _).1 e]; simp)), Lv he l y h1.2]
theorem SF {α : Type} {eq : α → α → Bool} (he : ∀ x y, eq x y = true ↔ x = y) : ∀ l : List α, l.Nodup → dd eq l = l
 | [], _ => rfl
 | x :: l, h => by rw [dd, Lv he l x h]
def Br (P : lf → Prop) (s : List lf) : Prop := s.Pairwise (fun a b => zI a b = true) ∧ ∀ f, f ∈ s ↔ P f
theorem Br.unique {P : lf → Prop} {s t : List lf} (h : Br P s) (k : Br P t) : s = t :=
 wZ.unique (l := s) Ha ⟨h.1, fun x => ⟨fun a => ⟨a, rfl⟩, fun a => a.1⟩⟩ ⟨k.1, fun x => by rw [k.2, h.2]; exact ⟨fun a => ⟨a, rfl⟩, fun a => a.1⟩⟩
theorem GO {l : List lf} (g : l.Nodup) (k : l.length ≤ 1000000000000) : ∃ s, Ak (fun (x : lf × lf) => rh x.1 x.2) l = some s ∧ Br (fun f => f ∈ l) s := by
 obtain ⟨s, h1, j, d⟩ := FT (eq := Bk) (lt := fun a b => zI a b = true) (P := fun x => D6 x = true) (cf := fun (x : lf × lf) => rh x.1 x.2) (l := l) (fun x y => wF) Ha (fun _ _ => rfl) (by omega) (fun x y _ _ => Om x y)
 have i : s.Nodup := by
  have := (Hk h1).2
  rw [this]
  unfold ur
  exact (jE l _).nodup_iff.2 g
 rw [SF (fun x y => wF) s i] at d
 exact ⟨s, h1, d.1, fun f => by rw [d.2]; exact ⟨fun h => h.1, fun h => ⟨h, rfl⟩⟩⟩
theorem QO (T : pV) : (mm T).flatMap (fun p => p.2.map (fun q => (fun (a : kI) (b : ByteArray) => (⟨a, b⟩ : lf)) p.1 q.1)) = FS T := by
 unfold mm FS tt
 rw [List.flatMap_map]
 congr 1
 funext p
 simp [gU]
theorem O8 {C : List kJ} (j : rS C) {T : pV} {m : List (kI × List kJ)} {ws : List (ByteArray × List kJ)} {n : Int} (h : MS C T m ws n) (cs : List kJ) (u : List (kI × List kJ)) (w : List (ByteArray × List kJ)) (l : List lf) (z : Int) :
  ∃ s, wN (mm T) cs u w l z = some s ∧ Br (pN C) s := by
 have k := j.sq
 have hlen := h.Ez.len
 obtain ⟨s, p, i⟩ := GO h.Ez.nd (by omega)
 have g : Br (pN C) s := ⟨i.1, fun f => (i.2 f).trans (h.all f)⟩
 refine ⟨s, ?_, g⟩
 unfold wN NM
 rw [QO]
 rw [aT ⟨by omega, by unfold maxLen; omega⟩]
 simp only [aA, pU]
 refine Gz (fun o b => ?_)
 obtain ⟨q, d, a⟩ := GO ((b.nodup_iff).2 h.Ez.nd) (by rw [b.length_eq]; omega)
 rw [d]
 congr 1
 exact Br.unique ⟨a.1, fun f => (a.2 f).trans (b.mem_iff.trans (h.all f))⟩ g
theorem Pk (r : kI) (w : ByteArray) : ∀ l : List lf, ∃ b, yk r w l = some b ∧ (b = true ↔ (⟨r, w⟩ : lf) ∈ l)
 | [] => ⟨false, rfl, by simp⟩
 | x :: l => by
  rw [yk]
  simp only [Ec, aA]
  obtain ⟨b, e, g⟩ := Pk r w l
  by_cases h : (lu x.kI r && mn x.lH w) = true
  ·rw [aT h]
   have a : x = ⟨r, w⟩ := by
    rw [aZ, lx, nh] at h
    cases x; simp at h; simp [h]
   exact ⟨true, rfl, by simp [a]⟩
  ·rw [aY h]
   refine ⟨b, e, ?_⟩
   rw [g, aK]
   refine ⟨.inr, fun d => d.resolve_left (fun e => h ?_)⟩
   rw [← e]; simp [xt, vV]
theorem zM (l : List lf) (r : kI) (w : ByteArray) : ∃ b, wh l r w = some b ∧ (b = true ↔ (⟨r, w⟩ : lf) ∈ l) := Pk r w l
def xD (l : List lf) (c : kJ) (names : List ByteArray) (w : ByteArray) : Prop :=
 (c.Kind = 1 ∧ c.lH = w) ∨ (c.Kind = 2 ∧ (⟨c.B, w⟩ : lf) ∈ l) ∨ (c.Kind = 4 ∧ (⟨c.B, w⟩ : lf) ∈ l ∧ (⟨c.C, w⟩ : lf) ∈ l) ∨
 (c.Kind ≠ 1 ∧ c.Kind ≠ 2 ∧ c.Kind ≠ 4 ∧ ∃ b ∈ names, (⟨c.B, b⟩ : lf) ∈ l ∧ (⟨⟨b, c.lM⟩, w⟩ : lf) ∈ l)
theorem GC (l : List lf) (c : kJ) (w : ByteArray) : ∀ names : List ByteArray, ∃ b, wR l c w names = some b ∧ (b = true ↔ ∃ b ∈ names, (⟨c.B, b⟩ : lf) ∈ l ∧ (⟨⟨b, c.lM⟩, w⟩ : lf) ∈ l)
 | [] => ⟨false, rfl, by simp⟩
 | x :: names => by
  rw [wR]
  obtain ⟨g, j, h1⟩ := zM l c.B x
  obtain ⟨i, k, d⟩ := zM l ⟨x, c.lM⟩ w
  obtain ⟨b, e, m⟩ := GC l c w names
  rw [j, k, e]
  simp only [aA, Ec]
  by_cases h : (g && i) = true
  ·rw [aT h]
   rw [aZ, h1, d] at h
   exact ⟨true, rfl, by simp [h]⟩
  ·rw [aY h]
   rw [aZ, h1, d] at h
   refine ⟨b, rfl, ?_⟩
   rw [m]
   constructor
   ·rintro ⟨y, a, q⟩; exact ⟨y, by simp [a], q⟩
   ·rintro ⟨y, a, q⟩
    rcases aK.1 a with rfl | a
    ·exact absurd q h
    ·exact ⟨y, a, q⟩
theorem P9 (l : List lf) (c : kJ) (names : List ByteArray) (w : ByteArray) : ∃ b, BK l c names w = some b ∧ (b = true ↔ xD l c names w) := by
 unfold BK xD
 simp only [pU]
 by_cases h1 : c.Kind = 1
 ·rw [aT (by simp [h1])]; exact ⟨_, rfl, by simp [h1, nh]⟩
 rw [aY (by simp [h1])]
 by_cases a : c.Kind = 2
 ·rw [aT (by simp [a])]
  obtain ⟨b, e, g⟩ := zM l c.B w
  exact ⟨b, e, by simp [a, g]⟩
 rw [aY (by simp [a])]
 by_cases d : c.Kind = 4
 ·rw [aT (by simp [d])]
  obtain ⟨m, j, h⟩ := zM l c.B w
  obtain ⟨n, k, i⟩ := zM l c.C w
  rw [j, k]
  simp only [aA, Ec]
  exact ⟨_, rfl, by simp [d, h, i]⟩
 rw [aY (by simp [d])]
 obtain ⟨b, e, g⟩ := GC l c w names
 exact ⟨b, e, by rw [g]; simp [h1, a, d]⟩
theorem xD.xo {C : List kJ} {l : List lf} (a : ∀ f ∈ l, pN C f) {c : kJ} (d : c ∈ C) (hk : c.Kind = 1 ∨ c.Kind = 2 ∨ c.Kind = 3 ∨ c.Kind = 4) {names : List ByteArray} {w : ByteArray} (h : xD l c names w) : pN C ⟨c.Head, w⟩ := by
 rcases h with ⟨k, rfl⟩ | ⟨k, h⟩ | ⟨k, h1, g⟩ | ⟨i, j, m, b, _, h1, g⟩
 ·exact .mem c d k
 ·exact .inc c w d k (a _ h)
 ·exact .both c w d k (a _ h1) (a _ g)
 ·exact .FH c b w d (by omega) (a _ h1) (a _ g)
theorem MF {c : kJ} (h : mI c = true) : c.Kind = 1 ∨ c.Kind = 2 ∨ c.Kind = 3 ∨ c.Kind = 4 := by rcases pA h with h | h | h | h <;> simp [h.1]
structure EL (C : List kJ) (out : List lf) : Prop where
 nd : out.Nodup
 xo : ∀ f ∈ out, pN C f
theorem EL.len {C : List kJ} {out : List lf} (h : EL C out) : out.length ≤ C.length * C.length := by
 rw [← D1]; exact mZ h.nd (fun f a => (h.xo f a).FR)
theorem Gk {C : List kJ} (s : rS C) (t : tw C) {c : kJ} (m : c ∈ C) (names : List ByteArray) : ∀ (l : List ByteArray) (out : List lf) (i : Bool), EL C out →
  ∃ g d, wE c names l out i = some (g, d) ∧ EL C g ∧ (d = true → i = true ∨ out.length < g.length) ∧ (d = false → i = false ∧ g = out ∧ ∀ w ∈ l, xD out c names w → (⟨c.Head, w⟩ : lf) ∈ out) ∧ out.length ≤ g.length
 | [], out, i, h => ⟨out, i, rfl, h, .inl, fun h => ⟨h, rfl, fun _ hw => by cases hw⟩, aO _⟩
 | w :: l, out, i, h => by
  rw [wE]
  obtain ⟨y, E, h1⟩ := zM out c.Head w
  obtain ⟨D, F, z⟩ := P9 out c names w
  rw [E, F]
  simp only [aA, Ec]
  by_cases j : (!y && D) = true
  ·rw [aT j]
   rw [aZ] at j
   have u : (⟨c.Head, w⟩ : lf) ∉ out := fun I => by have := h1.2 I; rw [this] at j; exact absurd j.1 (by decide)
   have L := h.len
   have J := s.sq
   rw [nR (by simp; omega) (by simp; omega)]
   simp only [aA]
   have G : EL C (out ++ [⟨c.Head, w⟩]) := ⟨bW.2 ⟨h.nd, by simp, fun a ha b j e => by simp at j; subst j; subst e; exact u ha⟩, fun f k => by
    rcases aN.1 k with k | k
    ·exact h.xo f k
    ·simp at k; subst k; exact (z.1 j.2).xo h.xo m (MF (t c m))⟩
   obtain ⟨g, d, e, n, a2, a3, a4⟩ := Gk s t m names l _ true G
   simp at a4
   exact ⟨g, d, e, n, fun _ => .inr (by omega), fun k => (by cases (a3 k).1), by omega⟩
  ·rw [aY j]
   obtain ⟨g, d, e, n, a2, a3, a4⟩ := Gk s t m names l out i h
   refine ⟨g, d, e, n, a2, fun k => ?_, a4⟩
   obtain ⟨p, q, r⟩ := a3 k
   refine ⟨p, q, fun v x A => ?_⟩
   rcases aK.1 x with rfl | x
   ·refine eQ fun u => j ?_
    rw [aZ, z.2 A]
    cases y with
    | false => exact ⟨rfl, rfl⟩
    | true => exact absurd (h1.1 rfl) u
   ·exact r v x A
theorem Jk {C : List kJ} (m : rS C) (n : tw C) (names : List ByteArray) : ∀ (l : List kJ) (out : List lf) (a : Bool), (∀ c ∈ l, c ∈ C) → EL C out →
  ∃ b g, yy names l out a = some (b, g) ∧ EL C b ∧ (g = true → a = true ∨ out.length < b.length) ∧ (g = false → a = false ∧ b = out ∧ ∀ c ∈ l, ∀ w ∈ names, xD out c names w → (⟨c.Head, w⟩ : lf) ∈ out) ∧ out.length ≤ b.length
 | [], out, a, _, h => ⟨out, a, rfl, h, .inl, fun h => ⟨h, rfl, fun _ hw => by cases hw⟩, aO _⟩
 | c :: l, out, a, p, h => by
  rw [yy]
  obtain ⟨x, c1, u, q, a2, a3, a4⟩ := Gk m n (p c (by simp)) names names out a h
  rw [u]
  simp only [aA]
  obtain ⟨y, c2, v, r, s, t, I⟩ := Jk m n names l x c1 (fun d i => p d (by simp [i])) q
  refine ⟨y, c2, v, r, fun j => ?_, fun j => ?_, by omega⟩
  ·rcases s j with h1 | h1
   ·rcases a2 h1 with k | k
    ·exact .inl k
    ·exact .inr (by omega)
   ·exact .inr (by omega)
  ·obtain ⟨z, A, D⟩ := t j
   obtain ⟨E, F, G⟩ := a3 z
   subst F
   refine ⟨E, A, fun d i => ?_⟩
   rcases aK.1 i with rfl | i
   ·exact G
   ·exact D d i
end Go.Proofs.YtmlncblocfcmiaaGreat
namespace Go.Proofs.YtmlncblocfcmiaaGreat
open Go.RowKit
def zF : lf := ⟨⟨zS, zS⟩, zS⟩
theorem Ji (a b : lf) : vB a b = some (zI a b) := by
 unfold vB zI
 simp only [B9, aA, Ec, Rw]
def Q0 (a : List lf) (b : Int) (p : Bool × lf) : Prop := (p.1 = false ∧ b = -1) ∨ (p.1 = true ∧ 0 ≤ b ∧ mF a b = some p.2)
theorem Ca (out a : List lf) (i : out.length < 4611686018427387904) : ∀ (rest A : List lf) (b : Int) (p : Bool × lf), a = A ++ rest → Q0 a b p →
  ∃ d, qE out a rest A.length b = some d ∧ Q0 a d (sv D6 zI out.getLast? rest p.1 p.2)
 | [], A, b, p, ha, j => ⟨b, rfl, j⟩
 | x :: rest, A, b, p, ha, j => by
  rw [qE, sv]
  simp only [D6, eJ]
  have h1 : ((if ((out.length : Int) == 0) = true then some true else (mF out (IntKind.i64.wrap ((out.length : Int) - 1))).bind fun y => (vB y x).bind fun r => some r) : Option Bool) = some (out.getLast?.all fun y => zI y x) := by
   rcases cW out with h | ⟨B, z, h⟩
   ·subst h; rfl
   ·subst h
    rw [aY (by simp; omega)]
    rw [eE] at i ⊢
    rw [Gl B z (by simp at i; omega)]
    simp [Ji]
  have n : ((if decide (b < 0) = true then some true else (mF a b).bind fun y => (vB x y).bind fun r => some r) : Option Bool) = some (!p.1 || zI x p.2) := by
   rcases j with ⟨k, l⟩ | ⟨k, l, m⟩
   ·rw [aT (by simp [l]), k]; rfl
   ·rw [aY (by simpa using l), m, k]
    simp [Ji]
  rw [h1]
  simp only [aA]
  rw [n]
  simp only [aA, Ec]
  have q : mF a (A.length : Int) = some x := by rw [ha]; exact nP A x rest _ rfl
  by_cases g : ((out.getLast?.all fun y => zI y x) && (!p.1 || zI x p.2)) = true
  ·rw [aT g, aT g]
   have := Ca out a i rest (A ++ [x]) (A.length : Int) (true, x) (by rw [ha]; simp) (.inr ⟨rfl, by simp, q⟩)
   simpa using this
  ·rw [aY g, aY g]
   have := Ca out a i rest (A ++ [x]) b p (by rw [ha]; simp) j
   simpa using this
theorem FK {out a : List lf} (g : out.length < 4611686018427387904) (h : (sv D6 zI out.getLast? a false zF).1 = false) : ∀ FP : List lf, qx a FP out = some out
 | [] => rfl
 | x :: FP => by
  rw [qx]
  obtain ⟨b, e, j⟩ := Ca out a g a [] (-1) (false, zF) rfl (.inl ⟨rfl, rfl⟩)
  rw [show qE out a a 0 (-1) = some b from e]
  simp only [aA]
  rcases j with ⟨_, i⟩ | ⟨d, _⟩
  ·rw [aY (by simp [i])]; exact FK g h FP
  ·rw [h] at d; cases d
theorem H6 (a : List lf) : ∀ (FP : List lf) (out s : List lf), AG 48 D6 zI zF a (FP.length + 1) out = some s → s.length < 4611686018427387904 → qx a FP out = some s ∧ out.length ≤ s.length
 | [], out, s, h, j => by
  rw [AG] at h
  cases hp : (sv D6 zI out.getLast? a false zF).1 with
  | false =>
   rw [hp] at h
   simp only [cX, aJ] at h
   cases h
   exact ⟨rfl, aO _⟩
  | true =>
   rw [hp] at h
   simp only [cA, aB, aG] at h
   obtain ⟨o, d, h⟩ := bind_some h
   replace h : AG 48 D6 zI zF a 0 o = some s := h
   rw [AG] at h
   cases h
 | x :: FP, out, s, h, j => by
  rw [AG] at h
  cases hp : (sv D6 zI out.getLast? a false zF).1 with
  | false =>
   rw [hp] at h
   simp only [cX, aJ] at h
   cases h
   exact ⟨FK j hp _, aO _⟩
  | true =>
   rw [hp] at h
   simp only [cA, aB, aG] at h
   obtain ⟨o, d, h⟩ := bind_some h
   have i := d
   unfold nE at d
   split at d
   case isFalse => cases d
   cases d
   obtain ⟨n, p⟩ := H6 a FP _ s h j
   simp at p
   rw [qx]
   obtain ⟨b, e, m⟩ := Ca out a (by omega) a [] (-1) (false, zF) rfl (.inl ⟨rfl, rfl⟩)
   rw [show qE out a a 0 (-1) = some b from e]
   simp only [aA]
   rcases m with ⟨g, _⟩ | ⟨g, k, l⟩
   ·rw [hp] at g; cases g
   ·rw [aT (by simpa using k), l]
    simp only [aA]
    rw [i]
    exact ⟨n, by omega⟩
theorem NS (l : List lf) (d : l.length ≤ 1000000000) : ∃ s, Dq l = some s ∧ Br (fun f => f ∈ l) s := by
 obtain ⟨s, h1, a⟩ := Cj Ha (w := 48) (by omega) zF l d (l.length + 1) [] (by simp) (by simp) (fun x b => by cases b) (fun x _ _ => .inr rfl)
 have hlen : s.length ≤ l.length := mZ (vx Ha (fun _ _ => rfl) a.1) (fun x b => ((a.2 x).1 b).1)
 exact ⟨s, (H6 l l [] s h1 (by omega)).1, a.1, fun f => by rw [a.2]; exact ⟨fun h => h.1, fun h => ⟨h, rfl⟩⟩⟩
theorem J6 : ∀ (l : List kJ) (acc : List ByteArray), acc.length + 4 * l.length ≤ 1000000000 → uE l acc = CA (acc ++ l.flatMap fun c => [c.lH, c.Head.kK, c.B.kK, c.C.kK])
 | [], acc, _ => by rw [uE]; simp [pU]
 | c :: l, acc, h => by
  rw [uE]
  simp only [aI] at h
  rw [nR (by simp; omega) (by simp; omega)]
  simp only [aA]
  rw [J6 l _ (by simp; omega)]
  simp
def SM (C : List kJ) : Prop := C.length ≤ 30000
theorem SM.small {C : List kJ} (h : SM C) : rS C := by unfold SM at h; unfold rS; omega
theorem SM.sq {C : List kJ} (h : SM C) : C.length * C.length ≤ 900000000 := Nat.mul_le_mul h h
theorem Oh {C : List kJ} (b : SM C) (g : tw C) : ∃ names, AH C = some names ∧ ∀ c ∈ C, c.Kind = 1 → c.lH ∈ names := by
 have d : C.length ≤ 30000 := b
 unfold AH
 rw [J6 C [] (by simp; omega)]
 obtain ⟨s, e, i⟩ := P6 ([] ++ C.flatMap fun c => [c.lH, c.Head.kK, c.B.kK, c.C.kK]) (by
  have : ∀ l : List kJ, (l.flatMap fun c => [c.lH, c.Head.kK, c.B.kK, c.C.kK]).length = 4 * l.length := fun l => by
   induction l with
   | nil => rfl
   | cons x l ih => simp [ih]; omega
  rw [aU, this]; omega)
 refine ⟨s, e, fun c a hk => (i.2 _).2 ⟨?_, ?_⟩⟩
 ·rw [aU]; exact kl.2 ⟨c, a, by simp⟩
 ·rcases pA (g c a) with h | h | h | h
  ·exact h.2.1
  ·exact absurd (hk.symm.trans h.1) (by decide)
  ·exact absurd (hk.symm.trans h.1) (by decide)
  ·exact absurd (hk.symm.trans h.1) (by decide)
theorem LS {C : List kJ} (n : tw C) {names : List ByteArray} (l : ∀ c ∈ C, c.Kind = 1 → c.lH ∈ names) {out : List lf} (h : ∀ c ∈ C, ∀ w ∈ names, xD out c names w → (⟨c.Head, w⟩ : lf) ∈ out) {f : lf} (k : pN C f) : f ∈ out := by
 have hw : ∀ f, pN C f → f.lH ∈ names := fun f k => by
  obtain ⟨c, a, hk, e⟩ := k.KD
  rw [← e]; exact l c a hk
 induction k with
 | mem c a hk => exact h c a _ (l c a hk) (.inl ⟨hk, rfl⟩)
 | inc c w a hk m ih => exact h c a w (hw _ m) (.inr (.inl ⟨hk, ih⟩))
 | FH c b w a hk d j g i => exact h c a w (hw _ j) (.inr (.inr (.inr ⟨by omega, by omega, by omega, b, hw _ d, g, i⟩)))
 | both c w a hk d j g i => exact h c a w (hw _ d) (.inr (.inr (.inl ⟨hk, g, i⟩)))
theorem JN {C : List kJ} (a : SM C) (b : tw C) {names : List ByteArray} (g : ∀ c ∈ C, c.Kind = 1 → c.lH ∈ names) : ∀ (m : Nat) (out : List lf), EL C out → C.length * C.length < m + out.length →
  ∃ s, yr names C m out = some s ∧ Br (pN C) s
 | 0, out, h, hm => by have := h.len; omega
 | m + 1, out, h, hm => by
  rw [yr]
  obtain ⟨o, c, e, i, a2, a3, a4⟩ := Jk a.small b names C out false (fun _ h => h) h
  rw [e]
  simp only [aA, pU]
  cases c with
  | false =>
   simp only [cX, aJ]
   obtain ⟨_, j, k⟩ := a3 rfl
   subst j
   have p := h.len
   have n := a.sq
   obtain ⟨s, l, d⟩ := NS o (by omega)
   exact ⟨s, l, d.1, fun f => (d.2 f).trans ⟨h.xo f, LS b g k⟩⟩
  | true =>
   simp only [cA, aB, aG]
   rcases a2 rfl with h1 | h1
   ·cases h1
   ·exact JN a b g m o i (by omega)
theorem QB (l : List kJ) (p : l.length ≤ 30000) : ∃ C s, xA l = some s ∧ Br (pN C) s ∧ ∀ c, c ∈ C ↔ c ∈ l ∧ mI c = true := by
 unfold xA
 obtain ⟨C, e, b⟩ := Lj l (by omega)
 have hlen := BH DC b
 have a : SM C := by unfold SM; omega
 have d : tw C := fun c j => ((b.2 c).1 j).2
 obtain ⟨names, g, m⟩ := Oh a d
 rw [e]
 simp only [aA]
 rw [g]
 simp only [aA]
 have n := a.sq
 obtain ⟨s, h, i⟩ := JN a d m lE [] ⟨by simp, fun f k => by cases k⟩ (by rw [xO]; simp; omega)
 exact ⟨C, s, h, i, b.2⟩
theorem Cx (w : ByteArray) : ∀ (l : List lf) (acc : List kI), acc.length + l.length ≤ 1000000000 → sN w l acc = some (acc ++ (l.filter fun f => mn f.lH w).map (·.kI))
 | [], acc, _ => by rw [sN]; simp
 | x :: l, acc, h => by
  rw [sN]
  simp only [aI] at h
  by_cases a : mn x.lH w = true
  ·rw [aT a, nR (by simp; omega) (by simp; omega)]
   simp only [aA]
   rw [Cx w l _ (by simp; omega)]
   simp [a]
  ·rw [aY a, Cx w l acc (by omega)]
   simp [a]
end Go.Proofs.YtmlncblocfcmiaaGreat
namespace Go.Proofs.YtmlncblocfcmiaaGreat
open Go.RowKit
theorem PU {P : lf → Prop} {s t : List lf} (h : Br P s) (b : ∀ f, P f → f ∈ t) : s.length ≤ t.length := mZ (vx Ha (fun _ _ => rfl) h.1) (fun f a => b f ((h.2 f).1 a))
theorem Qu {C : List kJ} {s : List lf} (h : Br (pN C) s) (a : SM C) : s.length ≤ 900000000 := by
 have := PU h (t := FR C) (fun f b => b.FR)
 rw [D1] at this
 have := a.sq
 omega
theorem Nl {C : List kJ} {T : pV} {d : List (kI × List kJ)} {ws : List (ByteArray × List kJ)} {n : Int} (h : MS C T d ws n) (cs : List kJ) (u : List (kI × List kJ)) (w : List (ByteArray × List kJ)) (a : List lf) (z : Int) (r : kI) (KD : ByteArray) :
  ∃ b, ux (mm T) cs u w a z r KD = some b ∧ (b = true ↔ pN C ⟨r, KD⟩) :=
 ⟨_, rfl, by rw [tW h.Ez.keys, h.all]⟩
def qA : kI := ⟨⟨#[97]⟩, ⟨#[114]⟩⟩
def qB : kI := ⟨⟨#[98]⟩, ⟨#[115]⟩⟩
def qd : ByteArray := ⟨#[100]⟩
def j1 : kJ := ⟨2, qA, zS, qB, ⟨zS, zS⟩, zS⟩
def j2 : kJ := ⟨1, qB, qd, ⟨zS, zS⟩, ⟨zS, zS⟩, zS⟩
end Go.Proofs.YtmlncblocfcmiaaGreat
namespace Go.Proofs.YtmlncblocfcmiaaGreat
open Go.RowKit
theorem xD.own {l : List lf} {c : kJ} {names : List ByteArray} {w : ByteArray} (h : xD l c names w) : xD l c (l.map (·.lH)) w := by
 rcases h with h | h | h | ⟨d, g, i, b, _, a, j⟩
 ·exact .inl h
 ·exact .inr (.inl h)
 ·exact .inr (.inr (.inl h))
 ·exact .inr (.inr (.inr ⟨d, g, i, b, bB.2 ⟨_, a, rfl⟩, a, j⟩))
theorem xD.subset {a b : List lf} {c : kJ} {names : List ByteArray} {w : ByteArray} (h : xD a c names w) (d : ∀ f ∈ a, f ∈ b) : xD b c names w := by
 rcases h with h | h | h | ⟨i, j, k, g, l, m, n⟩
 ·exact .inl h
 ·exact .inr (.inl ⟨h.1, d _ h.2⟩)
 ·exact .inr (.inr (.inl ⟨h.1, d _ h.2.1, d _ h.2.2⟩))
 ·exact .inr (.inr (.inr ⟨i, j, k, g, l, d _ m, d _ n⟩))
end Go.Proofs.YtmlncblocfcmiaaGreat
namespace Go.Proofs.YtmlncblocfcmiaaGreat
open Go.RowKit
def tot {α : Type} (a : List (List α)) : Nat := (a.map List.length).sum
end Go.Proofs.YtmlncblocfcmiaaGreat
namespace Go.Proofs.YtmlncblocfcmiaaGreat
open Go.RowKit
def up (w : ByteArray) (g : ByteArray → Nat) : ByteArray → Nat := fun x => if mn w x = true then g x + 1 else g x
end Go.Proofs.YtmlncblocfcmiaaGreat
namespace Go.Proofs.YtmlncblocfcmiaaGreat
open Go.RowKit
theorem M1 (F : List lf) (w : ByteArray) (a : F.length ≤ 1000000000) : uN F w = some ((F.filter fun f => mn f.lH w).map (·.kI)) := by
 unfold uN
 rw [Cx w F [] (by simp; omega)]
 simp
end Go.Proofs.YtmlncblocfcmiaaGreat
namespace Go.Proofs.YtmlncblocfcmiaaGreat
open Go.RowKit
instance decRole : DecidableEq kI := fun a b => decidable_of_iff (lu a b = true) lx
def GX (F : List lf) (w : ByteArray) : List kI := (F.filter fun f => mn f.lH w).map (·.kI)
structure Rh (l : List kJ) (F : List lf) : Prop where
 len : l.length ≤ 30000
 C : ∃ C : List kJ, Br (pN C) F ∧ (∀ c, c ∈ C ↔ c ∈ l ∧ mI c = true) ∧ SM C
 ref : xA l = some F
theorem Ro (l : List kJ) (g : l.length ≤ 30000) : ∃ F, Rh l F := by
 obtain ⟨C, F, e, h1, h⟩ := QB l g
 obtain ⟨C1, T, j, ws, n, i, m1, a, d⟩ := Mb l (by omega)
 have b : ∀ c, c ∈ C ↔ c ∈ C1 := fun c => by rw [h, a]
 exact ⟨F, g, ⟨C1, ⟨h1.1, fun f => (h1.2 f).trans (pN.congr b f)⟩, a, by unfold SM; omega⟩, e⟩
theorem Rh.Tv {l : List kJ} {F : List lf} (h : Rh l F) : F.length ≤ 900000000 := by
 obtain ⟨C, h1, b, a⟩ := h.C
 exact Qu h1 a
end Go.Proofs.YtmlncblocfcmiaaGreat
namespace Go.Proofs.YtmlncblocfcmiaaGreat
open Go.RowKit
def B8 (l : List Int) : Prop := ∀ x ∈ l, 0 ≤ x ∧ x < 256
end Go.Proofs.YtmlncblocfcmiaaGreat
namespace Go.Proofs.YtmlncblocfcmiaaGreat
open Go.RowKit
def MA : List ByteArray → List Key → Int
 | _, [] => 0
 | seen, k :: l => if oz k.lH = false then 30 else if k.Key.length < 1 ∨ 32 < k.Key.length then 21 else if rZ mn seen k.lH = true then 41 else MA (seen ++ [k.lH]) l
def OI (l : List Key) : List (ByteArray × List Int) := l.map fun k => (k.lH, k.Key)
def OD (l : List Key) (o : ByteArray) : Option (List Int) := mz mn (OI l) o
theorem Q4 {l : List Int} (h : l.length ≤ 1000000) : uV l = some l := by
 unfold uV
 rw [Gq (by simpa using h)]; rfl
theorem Lr : ∀ (l : List Key) (seen : List ByteArray), MA seen l = 0 → ∀ k ∈ l, 1 ≤ k.Key.length ∧ k.Key.length ≤ 32
 | [], _, _, _, hk => by cases hk
 | x :: l, seen, h, k, hk => by
  unfold MA at h
  split at h
  ·cases h
  split at h
  ·cases h
  split at h
  ·cases h
  rcases aK.1 hk with rfl | hk
  ·omega
  ·exact Lr l _ h k hk
theorem Ge : ∀ (l : List Key) (o : ByteArray) (b : List Int), OD l o = some b → ∃ k ∈ l, k.Key = b
 | [], o, b, h => by cases h
 | x :: l, o, b, h => by
  unfold OD at h
  rw [show OI (x :: l) = (x.lH, x.Key) :: OI l from rfl, Cc] at h
  split at h
  ·cases h; exact ⟨x, by simp, rfl⟩
  ·obtain ⟨k, hk, e⟩ := Ge l o b h
   exact ⟨k, by simp [hk], e⟩
def K8 (l : List Key) : Prop := ∀ k ∈ l, B8 k.Key
structure Mk (ks : List Key) (c : kJ) (k : List Int) : Prop where
 ok : MA [] ks = 0
 rt : mI c = true
 lk : OD ks c.Head.kK = some k
theorem Mk.len {ks : List Key} {c : kJ} {k : List Int} (h : Mk ks c k) : 1 ≤ k.length ∧ k.length ≤ 32 := by
 obtain ⟨q, a, rfl⟩ := Ge _ _ _ h.lk
 exact Lr ks [] h.ok q a
theorem Mk.b8 {ks : List Key} {c : kJ} {k : List Int} (h : Mk ks c k) (hk : K8 ks) : B8 k := by
 obtain ⟨q, a, rfl⟩ := Ge _ _ _ h.lk
 exact hk q a
theorem Mk.unique {ks : List Key} {c : kJ} {k k' : List Int} (h : Mk ks c k) (a : Mk ks c k') : k = k' := by
 have := h.lk; rw [a.lk] at this; cases this; rfl
end Go.Proofs.YtmlncblocfcmiaaGreat
namespace Go.Proofs.YtmlncblocfcmiaaGreat
open Go.RowKit
def S8 (l : List Signed) : Prop := ∀ s ∈ l, B8 s.Tag
end Go.Proofs.YtmlncblocfcmiaaGreat
namespace Go.Proofs.YtmlncblocfcmiaaGreat
open Go.RowKit
theorem OC (b : List kJ) (x : kJ) : tm b x = some (rZ lV b x) := by
 obtain ⟨q, e, h⟩ := JM x b
 unfold wo at e
 rw [pU] at e
 rw [e, show q = rZ lV b x from by rw [bN, h, pz mC]]
structure Jv (l : List kJ) (F : List lf) : Prop where
 len : F.length ≤ 900000000
 ref : xA l = some F
 Tj : ∃ m, xB l = some m ∧ wN m.1 m.2.1 m.2.2.1 m.2.2.2.1 m.2.2.2.2.1 m.2.2.2.2.2 = some F ∧ ∀ r w, ux m.1 m.2.1 m.2.2.1 m.2.2.2.1 m.2.2.2.2.1 m.2.2.2.2.2 r w = some (rZ Bk F ⟨r, w⟩)
 xo : ∀ C : List kJ, (∀ c, c ∈ C ↔ c ∈ l ∧ mI c = true) → Br (pN C) F
theorem R4 (l : List kJ) (x : l.length ≤ 30000) : ∃ F, Jv l F := by
 obtain ⟨F, h⟩ := Ro l x
 refine ⟨F, h.Tv, h.ref, ?_, fun C t => ?_⟩
 ·obtain ⟨C, h1, d, s⟩ := h.C
  obtain ⟨C1, T, m, ws, n, p, m1, g, j⟩ := Mb l (by omega)
  have a : ∀ c, c ∈ C1 ↔ c ∈ C := fun c => by rw [d, g]
  have k : Br (pN C1) F := ⟨h1.1, fun f => (h1.2 f).trans (pN.congr a f).symm⟩
  have u : SM C1 := by unfold SM; omega
  refine ⟨_, p, ?_, fun r w => ?_⟩
  ·obtain ⟨F1, q, i⟩ := O8 u.small m1 C1 m ws [] n
   rw [← i.unique k]; exact q
  ·obtain ⟨b, e, v⟩ := Nl m1 C1 m ws [] n r w
   rw [e, show b = rZ Bk F ⟨r, w⟩ from by rw [bN, v, pz wF, k.2]]
 ·obtain ⟨C', h1, d, s⟩ := h.C
  have a : ∀ c, c ∈ C' ↔ c ∈ C := fun c => by rw [d, t]
  exact ⟨h1.1, fun f => (h1.2 f).trans (pN.congr a f)⟩
end Go.Proofs.YtmlncblocfcmiaaGreat
namespace Go.Proofs.YtmlncblocfcmiaaGreat
open Go.RowKit
section
variable {α : Type}
structure SWO (lt : α → α → Bool) : Prop where
 Pn : ∀ x, lt x x = false
 tr : ∀ x y z, lt x y = true → lt y z = true → lt x z = true
 M2 : ∀ x y z, lt x z = true → lt x y = true ∨ lt y z = true
variable {lt : α → α → Bool}
theorem SWO.asym (h : SWO lt) {x y : α} (a : lt x y = true) : lt y x = false := by
 cases e : lt y x
 ·rfl
 ·have := h.tr _ _ _ a e; rw [h.Pn] at this; cases this
def tl (lt : α → α → Bool) (p q : α × Nat) : Prop := lt p.1 q.1 = true ∨ (lt q.1 p.1 = false ∧ p.2 < q.2)
theorem DJ (h : SWO lt) {p q r : α × Nat} (a : tl lt p q) (b : tl lt q r) : tl lt p r := by
 unfold tl at *
 rcases a with a | ⟨a, a2⟩ <;> rcases b with b | ⟨b, d⟩
 ·exact .inl (h.tr _ _ _ a b)
 ·rcases h.M2 _ r.1 _ a with c | c
  ·exact .inl c
  ·rw [b] at c; cases c
 ·rcases h.M2 _ p.1 _ b with c | c
  ·rw [a] at c; cases c
  ·exact .inl c
 ·refine .inr ⟨?_, by omega⟩
  cases e : lt r.1 p.1
  ·rfl
  ·rcases h.M2 _ q.1 _ e with c | c
   ·rw [b] at c; cases c
   ·rw [a] at c; cases c
theorem P4 (h : SWO lt) {p q : α × Nat} (a : tl lt p q) (b : tl lt q p) : False := by
 have c := DJ h a b
 rcases c with c | ⟨_, c⟩
 ·rw [h.Pn] at c; cases c
 ·omega
abbrev pp (lt : α → α → Bool) (t : List (α × Nat)) : Prop := t.Pairwise (tl lt)
theorem G7 (h : SWO lt) : ∀ {t u : List (α × Nat)}, pp lt t → pp lt u → t.Perm u → t = u
 | [], u, _, _, hp => by rw [List.nil_perm] at hp; exact hp.symm
 | p :: t, [], _, _, hp => by simp at hp
 | p :: t, q :: u, h1, b, hp => by
  have e : p = q := by
   rcases aK.1 (hp.mem_iff.1 (.head _)) with e | d
   ·exact e
   ·rcases aK.1 (hp.mem_iff.2 (.head _)) with e | a
    ·exact e.symm
    ·exact (P4 h ((cK.1 h1).1 _ a) ((cK.1 b).1 _ d)).elim
  subst e
  rw [G7 h (cK.1 h1).2 (cK.1 b).2 (List.Perm.cons_inv hp)]
def BS (lt : α → α → Bool) (l : List α) (k : α) : List α := l.filter (fun x => !lt k x) ++ k :: l.filter (fun x => lt k x)
def J1 (lt : α → α → Bool) (l : List α) : List α := l.foldl (BS lt) []
def F7 (lt : α → α → Bool) (t : List (α × Nat)) (k : α × Nat) : List (α × Nat) := t.filter (fun x => !lt k.1 x.1) ++ k :: t.filter (fun x => lt k.1 x.1)
theorem OA (t : List (α × Nat)) (k : α × Nat) : (F7 lt t k).map (·.1) = BS lt (t.map (·.1)) k.1 := by
 simp [F7, BS, List.filter_map, gU]
theorem N4 (t : List (α × Nat)) (k : α × Nat) : (F7 lt t k).Perm (t ++ [k]) := by
 unfold F7
 refine List.perm_middle.trans ?_
 refine (List.Perm.cons _ ?_).trans (iB k t).symm
 have := List.filter_append_perm (fun x : α × Nat => !lt k.1 x.1) t
 simpa using this
theorem Pf (h : SWO lt) {t : List (α × Nat)} {k : α × Nat} (i : pp lt t) (hk : ∀ x ∈ t, x.2 < k.2) : pp lt (F7 lt t k) := by
 unfold F7 pp
 rw [cU, cK]
 refine ⟨i.filter _, ⟨fun x b => ?_, i.filter _⟩, fun x b y d => ?_⟩
 ·exact .inl (cD.1 b).2
 ·obtain ⟨h1, g⟩ := cD.1 b
  simp only [gZ, ] at g
  have a : tl lt x k := .inr ⟨g, hk x h1⟩
  rcases aK.1 d with rfl | d
  ·exact a
  ·exact DJ h a (.inl (cD.1 d).2)
theorem Sp (h : SWO lt) (l : List α) : ∃ t, pp lt t ∧ t.Perm l.zipIdx ∧ t.map (·.1) = J1 lt l := by
 suffices H : ∀ (l r : List α) (t : List (α × Nat)), pp lt t → t.Perm r.zipIdx → ∃ u, pp lt u ∧ u.Perm (r ++ l).zipIdx ∧ u.map (·.1) = l.foldl (BS lt) (t.map (·.1)) by
  obtain ⟨u, h1, d, i⟩ := H l [] [] .nil (by simp)
  exact ⟨u, h1, by simpa using d, i⟩
 intro l
 induction l with
 | nil => intro r t h1 d; exact ⟨t, h1, by simpa using d, rfl⟩
 | cons k l ih =>
  intro r t h1 d
  obtain ⟨u, g, a2, a3⟩ := ih (r ++ [k]) (F7 lt t (k, r.length)) (Pf h h1 (fun x j => by
   obtain ⟨a, b⟩ := x
   have := List.snd_lt_of_mem_zipIdx (d.mem_iff.1 j)
   simpa using this)) ((N4 t _).trans (by rw [List.zipIdx_append]; simpa using d.append_right _))
  refine ⟨u, g, by simpa using a2, ?_⟩
  rw [a3, OA]
  rfl
theorem QD (h : SWO lt) {l : List α} {t : List (α × Nat)} (h1 : pp lt t) (b : t.Perm l.zipIdx) : t.map (·.1) = J1 lt l := by
 obtain ⟨u, a, a2, a3⟩ := Sp h l
 rw [← a3, G7 h h1 a (b.trans a2.symm)]
end
end Go.Proofs.YtmlncblocfcmiaaGreat
namespace Go.Proofs.YtmlncblocfcmiaaGreat
open Go.RowKit
section
variable {α : Type} {lt : α → α → Bool}
abbrev Lk (lt : α → α → Bool) (A B : List (α × Nat)) : Prop := ∀ A' a b B', A = A' ++ [a] → B = b :: B' → tl lt a b
theorem Ax (h : SWO lt) {A B : List (α × Nat)} (k : pp lt A) (m : pp lt B) (l : Lk lt A B) : ∀ a ∈ A, ∀ b ∈ B, tl lt a b := by
 intro a ha b d
 rcases cW A with rfl | ⟨A', z, rfl⟩
 ·cases ha
 cases B with
 | nil => cases d
 | cons y B' =>
  have h1 : tl lt z y := l A' z y B' (by simp) rfl
  have g : a = z ∨ tl lt a z := by
   simp only [eE, aN, cJ] at ha
   rcases ha with ha | ha
   ·refine .inr ?_
    simp only [eE, pp, cU] at k
    exact k.2.2 a ha z (by simp)
   ·exact .inl ha
  have i : b = y ∨ tl lt y b := by
   rcases aK.1 d with d | d
   ·exact .inl d
   ·exact .inr ((cK.1 m).1 b d)
  have j : tl lt a y := by
   rcases g with rfl | g
   ·exact h1
   ·exact DJ h g h1
  rcases i with rfl | i
  ·exact j
  ·exact DJ h j i
theorem Jb (h : SWO lt) {A B : List (α × Nat)} (a : pp lt A) (b : pp lt B) (l : Lk lt A B) : pp lt (A ++ B) :=
 cU.2 ⟨a, b, Ax h a b l⟩
theorem pp.left {A B : List (α × Nat)} (h : pp lt (A ++ B)) : pp lt A := (cU.1 h).1
theorem pp.right {A B : List (α × Nat)} (h : pp lt (A ++ B)) : pp lt B := (cU.1 h).2.1
theorem pp.two {A B : List (α × Nat)} (h : pp lt (A ++ B)) : ∀ a ∈ A, ∀ b ∈ B, tl lt a b := (cU.1 h).2.2
theorem HI (h : SWO lt) {A B : List (α × Nat)} {x : α × Nat} (g : pp lt (A ++ B)) (j : Lk lt A [x]) (k : Lk lt [x] B) : pp lt (A ++ x :: B) := by
 have h1 := Ax h g.left (iY _ x) j
 have i := Ax h (iY _ x) g.right k
 refine cU.2 ⟨g.left, cK.2 ⟨fun b d => i x (by simp) b d, g.right⟩, fun a ha b d => ?_⟩
 rcases aK.1 d with rfl | d
 ·exact h1 a ha _ (by simp)
 ·exact g.two a ha b d
theorem QH (h : SWO lt) {A1 A2 B1 B2 C1 C2 : List (α × Nat)} (g : pp lt (A1 ++ A2)) (i : pp lt (B1 ++ B2)) (k : Lk lt A1 B2) (l : Lk lt B1 A2) (m : C1.Perm (A1 ++ B1)) (n : C2.Perm (A2 ++ B2)) (h1 : pp lt C1) (j : pp lt C2) : pp lt (C1 ++ C2) := by
 have x1 := Ax h g.left i.right k
 have x2 := Ax h i.left g.right l
 refine cU.2 ⟨h1, j, fun a ha b d => ?_⟩
 rcases aN.1 (m.mem_iff.1 ha) with ha | ha <;> rcases aN.1 (n.mem_iff.1 d) with d | d
 ·exact g.two a ha b d
 ·exact x1 a ha b d
 ·exact x2 a ha b d
 ·exact i.two a ha b d
end
section
variable {α : Type}
theorem Fi (p q : List α) (x y : α) : (p ++ x :: q).set p.length y = p ++ y :: q := by simp
theorem J5 (p q : List α) (x y : α) (n : Nat) (h : n = p.length) : (p ++ x :: q).set n y = p ++ y :: q := by subst h; simp
theorem FZ (p m q : List α) (x y : α) : ((p ++ x :: (m ++ y :: q)).set p.length y).set (p.length + 1 + m.length) x = p ++ y :: (m ++ x :: q) := by
 rw [Fi]
 have : p ++ y :: (m ++ y :: q) = (p ++ y :: m) ++ y :: q := by simp
 rw [this, show p.length + 1 + m.length = (p ++ y :: m).length by simp; omega, Fi]
 simp
theorem MY (p m q : List α) (x y : α) : ((p ++ x :: (m ++ y :: q)).set (p.length + 1 + m.length) x).set p.length y = p ++ y :: (m ++ x :: q) := by
 rw [List.set_comm _ _ (by omega), FZ]
theorem xg {l : List α} {n : Nat} (h : n ≤ l.length) : ∃ a b, l = a ++ b ∧ a.length = n := ⟨l.take n, l.drop n, (fU n l).symm, by simp [h]⟩
end
end Go.Proofs.YtmlncblocfcmiaaGreat
namespace Go.Proofs.YtmlncblocfcmiaaGreat
open Go.RowKit
section
variable {c : Formula → Formula → Int} {G : Formula → Prop} {f : Formula × Formula → Option Int}
theorem Mx (x : Formula) : (⟨x.Op, x.K, x.kI, x.Kids⟩ : Formula) = x := by cases x; rfl
abbrev ow (c : Formula → Formula → Int) (x y : Formula) : Bool := decide (c x y < 0)
abbrev Dc (f : Formula × Formula → Option Int) (c : Formula → Formula → Int) (G : Formula → Prop) : Prop := ∀ x y, G x → G y → f (x, y) = some (c x y)
theorem Tt (u : Dc f c G) (pre : List Formula) (x : Formula) (w : G x) : ∀ (k : Nat) (P S : List Formula) (n : Nat) (j a : Int), P.length = k → k < n → (∀ y ∈ P, G y) → (pre ++ (P ++ x :: S)).length ≤ 1000000 → j = ((pre.length + P.length : Nat) : Int) → a = (pre.length : Int) →
  ∃ P1 P2, P = P1 ++ P2 ∧ mQ a f n (pre ++ (P ++ x :: S)) j = some (pre ++ (P1 ++ x :: (P2 ++ S))) ∧ (∀ P' z, P1 = P' ++ [z] → ow c x z = false) ∧ (∀ y P', P2 = y :: P' → ow c x y = true) := by
 intro k
 induction k with
 | zero =>
  intro P S n j a hk v d l h ha
  obtain rfl := aR hk
  obtain ⟨n, rfl⟩ := aM (by omega : n ≠ 0)
  refine ⟨[], [], rfl, ?_, by simp, by simp⟩
  rw [mQ]
  have : ¬ (j > a) := by rw [h, ha]; simp
  simp [this]
 | succ k ih =>
  intro P S n j a hk v d l h ha
  rcases cW P with rfl | ⟨P', z, rfl⟩
  ·simp at hk
  simp only [eE, aD, aI, bU] at hk h l d ⊢
  obtain ⟨n, rfl⟩ := aM (by omega : n ≠ 0)
  have i : j > a := by omega
  have m : pre ++ (P' ++ [z] ++ x :: S) = (pre ++ P') ++ z :: x :: S := by simp
  have hw : IntKind.i64.wrap (j - 1) = ((pre.length + P'.length : Nat) : Int) := by rw [lJ (by omega) (by omega)]; omega
  have i1 : mF ((pre ++ P') ++ z :: x :: S) j = some x := by
   rw [show (pre ++ P') ++ z :: x :: S = (pre ++ P' ++ [z]) ++ x :: S by simp]
   exact nP _ _ _ _ (by simp; omega)
  have i2 : mF ((pre ++ P') ++ z :: x :: S) ((pre.length + P'.length : Nat) : Int) = some z := nP _ _ _ _ (by simp)
  have D : G z := d z (by simp)
  have t : ∀ y ∈ P', G y := fun y A => d y (by simp [A])
  have F : j.toNat = pre.length + P'.length + 1 := by omega
  rw [mQ, m]
  simp only [i, bT, aJ, i1, hw, i2, aA, u x z w D]
  by_cases g : c x z < 0
  ·simp only [g, bT, aJ]
   have s1 : ((pre ++ P') ++ z :: x :: S).set j.toNat z = (pre ++ P') ++ z :: z :: S := by
    have := J5 (pre ++ P' ++ [z]) S x z j.toNat (by simp; omega)
    simpa only [aH, jm, bO, aU] using this
   have s2 : ((pre ++ P') ++ z :: z :: S).set (pre.length + P'.length) x = (pre ++ P') ++ x :: z :: S := by
    exact J5 (pre ++ P') (z :: S) z x _ (by simp)
   have i3 : mF ((pre ++ P') ++ z :: z :: S) ((pre.length + P'.length : Nat) : Int) = some z := nP _ _ _ _ (by simp)
   rw [s1, i3, aA, dJ, Mx, s2]
   have p : (pre ++ P') ++ x :: z :: S = pre ++ (P' ++ x :: (z :: S)) := by simp
   obtain ⟨P1, P2, h1, q, r, s⟩ := ih P' (z :: S) n ((pre.length + P'.length : Nat) : Int) a (by omega) (by omega) t (by simp; omega) rfl ha
   rw [p, q]
   refine ⟨P1, P2 ++ [z], by rw [h1]; simp, by simp, r, ?_⟩
   intro y Q b
   cases P2 with
   | nil =>
    simp only [aU, aX] at b
    rw [← b.1]; simp [ow, g]
   | cons E P2 =>
    simp only [bO, aX] at b
    rw [← b.1]; exact s E P2 rfl
  ·simp only [g, bV, aB, aG]
   refine ⟨P' ++ [z], [], by simp, by simp, ?_, by simp⟩
   intro Q y b
   have := List.append_inj' b rfl
   simp only [aX, dL] at this
   rw [← this.2]; simp [ow, g]
theorem Pp (h : SWO (ow c)) (I : Dc f c G) (pre post : List Formula) (a b : Int) (ha : a = (pre.length : Int)) : ∀ (S t : List (Formula × Nat)) (n : Nat) (i : Int),
  S.length < n → pp (ow c) t → (∀ x ∈ t, ∀ y ∈ S, x.2 < y.2) → S.Pairwise (fun x y => x.2 < y.2) → (∀ x ∈ t ++ S, G x.1) → (pre ++ (t.map (·.1) ++ (S.map (·.1) ++ post))).length ≤ 1000000 →
  i = ((pre.length + t.length : Nat) : Int) → b = ((pre.length + t.length + S.length : Nat) : Int) →
  ∃ u, mD b a f n (pre ++ (t.map (·.1) ++ (S.map (·.1) ++ post))) i = some (pre ++ (u.map (·.1) ++ post)) ∧ pp (ow c) u ∧ u.Perm (t ++ S)
 | [], t, n, i, D, E, h1, F, r, A, J, v => by
  obtain ⟨n, rfl⟩ := aM (by simp at D; omega : n ≠ 0)
  rw [mD]
  simp only [bU] at v
  have : ¬ (i < b) := by omega
  simp only [this, bV, aB, aG]
  exact ⟨t, by simp, E, by simp⟩
 | s :: S, t, n, i, D, E, h1, F, r, A, J, v => by
  simp only [aI] at D v
  obtain ⟨n, rfl⟩ := aM (by omega : n ≠ 0)
  rw [mD]
  have w : i < b := by omega
  simp only [w, bT, aJ]
  have k := A
  simp only [aD, dE, aI] at k
  obtain ⟨P1, P2, O, P, Q, R⟩ := Tt I pre s.1 (r s (by simp)) (t.map (·.1)).length (t.map (·.1)) (S.map (·.1) ++ post) lE i a rfl (by rw [ni]; simp; omega)
   (fun y m => by obtain ⟨p, hp, rfl⟩ := bB.1 m; exact r p (by simp [hp])) (by simpa using A) (by simp; omega) ha
  simp only [bP, bO]
  rw [P, aA]
  obtain ⟨t1, t2, rfl, L, M⟩ := List.map_eq_append_iff.1 O
  have hlen : t1.length + t2.length = (t1 ++ t2).length := by simp
  have hw : IntKind.i64.wrap (i + 1) = ((pre.length + (t1 ++ s :: t2).length : Nat) : Int) := by rw [lJ (by omega) (by omega)]; simp at J ⊢; omega
  rw [hw]
  have l : pp (ow c) (t1 ++ s :: t2) := HI h E
   (fun A' z b B' j q => by
    simp only [aX] at q
    rw [← q.1]
    refine .inr ⟨Q (A'.map (·.1)) z.1 (by rw [← L, j]; simp), h1 z (by rw [j]; simp) s (by simp)⟩)
   (fun A' z b B' j q => by
    have U : z = s := by
     cases A' with
     | nil => simpa using j.symm
     | cons _ A' => simp at j
    rw [U]
    exact .inl (R b.1 (B'.map (·.1)) (by rw [← M, q]; simp)))
  have g := cK.1 F
  have T : pre ++ (P1 ++ s.1 :: (P2 ++ (S.map (·.1) ++ post))) = pre ++ ((t1 ++ s :: t2).map (·.1) ++ (S.map (·.1) ++ post)) := by rw [← L, ← M]; simp
  rw [T]
  obtain ⟨u, W, Y, Z⟩ := Pp h I pre post a b ha S (t1 ++ s :: t2) n _ (by omega) l
   (fun x d y m => by
    rcases aN.1 d with d | d
    ·exact h1 x (by simp [d]) y (by simp [m])
    ·rcases aK.1 d with rfl | d
     ·exact g.1 y m
     ·exact h1 x (by simp [d]) y (by simp [m]))
   g.2 (fun x d => r x (by
    simp only [aN, aK] at d ⊢
    rcases d with (d | d | d) | d
    ·exact .inl (.inl d)
    ·exact .inr (.inl d)
    ·exact .inl (.inr d)
    ·exact .inr (.inr d))) (by simp at k ⊢; omega) rfl (by simp at v ⊢; omega)
  refine ⟨u, W, Y, Z.trans ?_⟩
  simp only [aH, bO]
  exact cF t1 (List.perm_middle.symm)
theorem Lp (h : SWO (ow c)) (p : Dc f c G) (pre post : List Formula) (S : List (Formula × Nat)) (a b : Int) (l : S.Pairwise (fun x y => x.2 < y.2)) (m : ∀ x ∈ S, G x.1) (k : (pre ++ (S.map (·.1) ++ post)).length ≤ 1000000) (ha : a = (pre.length : Int)) (j : b = ((pre.length + S.length : Nat) : Int)) :
  ∃ u, nY (pre ++ (S.map (·.1) ++ post)) a b f = some (pre ++ (u.map (·.1) ++ post)) ∧ pp (ow c) u ∧ u.Perm S := by
 unfold nY
 have g := k
 simp only [aD, dE] at g
 cases S with
 | nil =>
  refine ⟨[], ?_, .nil, .nil⟩
  obtain ⟨n, q⟩ := aM (by rw [ni]; omega : lE ≠ 0)
  rw [q, mD]
  have : ¬ (IntKind.i64.wrap (a + 1) < b) := by rw [lJ (by omega) (by omega)]; simp at j; omega
  simp [this]
 | cons s S =>
  simp only [aI] at j g
  have d := cK.1 l
  obtain ⟨u, t, v, w⟩ := Pp h p pre post a b ha S [s] lE (IntKind.i64.wrap (a + 1)) (by rw [ni]; omega) (iY _ _) (fun x i y r => by simp at i; rw [i]; exact d.1 y r) d.2
   (fun x i => m x (by simpa using i)) (by simp at k ⊢; omega) (by rw [lJ (by omega) (by omega)]; simp; omega) (by simp; omega)
  exact ⟨u, by simpa using t, v, by simpa using w⟩
end
end Go.Proofs.YtmlncblocfcmiaaGreat
namespace Go.Proofs.YtmlncblocfcmiaaGreat
open Go.RowKit
section
variable {c : Formula → Formula → Int} {G : Formula → Prop} {f : Formula × Formula → Option Int}
theorem ou {x : Int} (n : Nat) (h : x = (n : Int)) (a : n ≤ 4000000) : IntKind.i64.wrap x = (n : Int) := by rw [h, lJ (by omega) (by omega)]
theorem RY (p m q : List Formula) (a b N : Int) : ∀ (k : Nat) (X1 X2 Y1 Y2 : List Formula) (n : Nat) (i : Int), X2.length = k → Y2.length = k → X1.length = Y1.length → k < n → (p ++ (Y1 ++ (X2 ++ (m ++ (X1 ++ (Y2 ++ q)))))).length ≤ 1000000 →
  i = (X1.length : Int) → N = ((X1.length + k : Nat) : Int) → a = (p.length : Int) → b = ((p.length + X1.length + k + m.length : Nat) : Int) →
  nk N b a n (p ++ (Y1 ++ (X2 ++ (m ++ (X1 ++ (Y2 ++ q)))))) i = some (p ++ ((Y1 ++ Y2) ++ (m ++ ((X1 ++ X2) ++ q)))) := by
 intro k
 induction k with
 | zero =>
  intro X1 X2 Y1 Y2 n i h1 d u w r v j ha l
  obtain rfl := aR h1
  obtain rfl := aR d
  obtain ⟨n, rfl⟩ := aM (by omega : n ≠ 0)
  rw [nk]
  have : ¬ (i < N) := by omega
  simp [this]
 | succ k ih =>
  intro X1 X2 Y1 Y2 n i h1 d u w r v j ha l
  cases X2 with
  | nil => simp at h1
  | cons x X2 =>
  cases Y2 with
  | nil => simp at d
  | cons y Y2 =>
  simp only [aI, Nat.add_right_cancel_iff] at h1 d
  obtain ⟨n, rfl⟩ := aM (by omega : n ≠ 0)
  have h := r
  simp only [aD, aI] at h
  have g : i < N := by omega
  have z : IntKind.i64.wrap (b + i) = (((p ++ Y1).length + 1 + (X2 ++ (m ++ X1)).length : Nat) : Int) := ou _ (by simp; omega) (by simp; omega)
  have A : IntKind.i64.wrap (a + i) = ((p ++ Y1).length : Int) := ou _ (by simp; omega) (by simp; omega)
  have D : IntKind.i64.wrap (i + 1) = ((X1 ++ [x]).length : Int) := ou _ (by simp; omega) (by simp; omega)
  have s : p ++ (Y1 ++ (x :: X2 ++ (m ++ (X1 ++ (y :: Y2 ++ q))))) = (p ++ Y1) ++ x :: ((X2 ++ (m ++ X1)) ++ y :: (Y2 ++ q)) := by simp
  have i1 : mF ((p ++ Y1) ++ x :: ((X2 ++ (m ++ X1)) ++ y :: (Y2 ++ q))) (((p ++ Y1).length + 1 + (X2 ++ (m ++ X1)).length : Nat) : Int) = some y := by
   have := nP ((p ++ Y1) ++ x :: (X2 ++ (m ++ X1))) y (Y2 ++ q) (((p ++ Y1).length + 1 + (X2 ++ (m ++ X1)).length : Nat) : Int) (by simp; omega)
   simpa using this
  have i2 : mF ((p ++ Y1) ++ x :: ((X2 ++ (m ++ X1)) ++ y :: (Y2 ++ q))) ((p ++ Y1).length : Int) = some x := nP _ _ _ _ rfl
  rw [nk, s]
  simp only [g, bT, aJ, z, A, i1, i2, aA, dJ, D]
  have i3 : mF (((p ++ Y1) ++ x :: ((X2 ++ (m ++ X1)) ++ y :: (Y2 ++ q))).set (p ++ Y1).length y) (((p ++ Y1).length + 1 + (X2 ++ (m ++ X1)).length : Nat) : Int) = some y := by
   rw [Fi]
   have := nP ((p ++ Y1) ++ y :: (X2 ++ (m ++ X1))) y (Y2 ++ q) (((p ++ Y1).length + 1 + (X2 ++ (m ++ X1)).length : Nat) : Int) (by simp; omega)
   simpa using this
  rw [i3, aA, Mx, FZ]
  have t : (p ++ Y1) ++ y :: ((X2 ++ (m ++ X1)) ++ x :: (Y2 ++ q)) = p ++ ((Y1 ++ [y]) ++ (X2 ++ (m ++ ((X1 ++ [x]) ++ (Y2 ++ q))))) := by simp
  rw [t, ih (X1 ++ [x]) X2 (Y1 ++ [y]) Y2 n _ h1 d (by simp; omega) (by omega) (by simp; omega) rfl (by rw [j]; simp; omega) ha (by rw [l]; simp; omega)]
  simp
theorem LQ (p m q X Y : List Formula) (a b N : Int) (h : X.length = Y.length) (g : (p ++ (X ++ (m ++ (Y ++ q)))).length ≤ 1000000) (i : N = (X.length : Int)) (ha : a = (p.length : Int)) (j : b = ((p.length + X.length + m.length : Nat) : Int)) :
  nQ (p ++ (X ++ (m ++ (Y ++ q)))) a b N f = some (p ++ (Y ++ (m ++ (X ++ q)))) := by
 unfold nQ
 have d := g
 simp only [aD] at d
 have := RY p m q a b N X.length [] X [] Y lE 0 rfl h.symm rfl (by rw [ni]; omega) (by simpa using g) rfl (by simpa using i) ha (by rw [j]; simp)
 simpa using this
theorem Sg (M : Int) : ∀ (k : Nat) (A B p q : List Formula) (n : Nat) (i j : Int), A.length + B.length ≤ k → 0 < A.length → 0 < B.length → k < n → (p ++ (A ++ (B ++ q))).length ≤ 1000000 → i = (A.length : Int) → j = (B.length : Int) → M = ((p.length + A.length : Nat) : Int) →
  nz M f n (p ++ (A ++ (B ++ q))) i j = some (p ++ (B ++ (A ++ q))) := by
 intro k
 induction k with
 | zero => intro A B p q n i j h h1 u; omega
 | succ k ih =>
  intro A B p q n i j h h1 u G x b m v
  obtain ⟨n, rfl⟩ := aM (by omega : n ≠ 0)
  have a := x
  simp only [aD] at a
  rw [nz]
  by_cases he : A.length = B.length
  ·have : (i != j) = false := by rw [b, m, he]; simp
   simp only [this, aB, aG]
   have d : IntKind.i64.wrap (M - i) = (p.length : Int) := ou _ (by omega) (by omega)
   have := LQ (f := f) p [] q A B (p.length : Int) M i he (by simpa using x) b rfl (by rw [v]; simp)
   simp only [aU] at this
   rw [d, this]; rfl
  ·have r : (i != j) = true := by rw [b, m]; simp; omega
   simp only [r, aJ]
   by_cases w : i > j
   ·simp only [w, bT, aJ]
    obtain ⟨X, Y, rfl, F⟩ := xg (l := A) (n := B.length) (by omega)
    simp only [aD] at b h v a
    have d : IntKind.i64.wrap (M - i) = (p.length : Int) := ou _ (by omega) (by omega)
    have s := LQ (f := f) p Y q X B (p.length : Int) M j (by omega) (by simp; omega) (by omega) rfl (by omega)
    have g : p ++ (X ++ Y ++ (B ++ q)) = p ++ (X ++ (Y ++ (B ++ q))) := by simp
    have t : IntKind.i64.wrap (i - j) = (Y.length : Int) := ou _ (by omega) (by omega)
    rw [g, d, s, aA, t]
    have y : p ++ (B ++ (Y ++ (X ++ q))) = (p ++ B) ++ (Y ++ (X ++ q)) := by simp
    rw [y, ih Y X (p ++ B) q n _ j (by omega) (by omega) (by omega) (by omega) (by simp; omega) rfl (by omega) (by simp; omega)]
    simp
   ·simp only [w, bV, aB, aG]
    obtain ⟨Z, V, rfl, z⟩ := xg (l := B) (n := B.length - A.length) (by omega)
    simp only [aD] at m h a z u he
    have d : IntKind.i64.wrap (M - i) = (p.length : Int) := ou _ (by omega) (by omega)
    have D : IntKind.i64.wrap (M + j) = ((p.length + A.length + (Z.length + V.length) : Nat) : Int) := ou _ (by omega) (by omega)
    have E : IntKind.i64.wrap (((p.length + A.length + (Z.length + V.length) : Nat) : Int) - i) = ((p.length + A.length + Z.length : Nat) : Int) := ou _ (by omega) (by omega)
    have s := LQ (f := f) p Z q A V (p.length : Int) ((p.length + A.length + Z.length : Nat) : Int) i (by omega) (by simp; omega) b rfl rfl
    have g : p ++ (A ++ (Z ++ V ++ q)) = p ++ (A ++ (Z ++ (V ++ q))) := by simp
    have t : IntKind.i64.wrap (j - i) = (Z.length : Int) := ou _ (by omega) (by omega)
    rw [g, d, D, E, s, aA, t]
    rw [show p ++ (V ++ (Z ++ (A ++ q))) = p ++ (V ++ (Z ++ (A ++ q))) from rfl, ih V Z p (A ++ q) n i _ (by omega) (by omega) (by omega) (by omega) (by simp; omega) (by omega) rfl (by omega)]
    simp
theorem TT (A B p q : List Formula) (a m b : Int) (h1 : 0 < A.length) (h : 0 < B.length) (g : (p ++ (A ++ (B ++ q))).length ≤ 1000000) (ha : a = (p.length : Int)) (hm : m = ((p.length + A.length : Nat) : Int)) (i : b = ((p.length + A.length + B.length : Nat) : Int)) :
  nK (p ++ (A ++ (B ++ q))) a m b f = some (p ++ (B ++ (A ++ q))) := by
 unfold nK
 have d := g
 simp only [aD] at d
 rw [ou A.length (by omega) (by omega), ou B.length (by omega) (by omega)]
 exact Sg m (A.length + B.length) A B p q lE _ _ (aO _) h1 h (by rw [ni]; omega) g rfl rfl hm
end
end Go.Proofs.YtmlncblocfcmiaaGreat
namespace Go.Proofs.YtmlncblocfcmiaaGreat
open Go.RowKit
section
variable {c : Formula → Formula → Int} {G : Formula → Prop} {f : Formula × Formula → Option Int}
theorem DD {x : Int} (n : Nat) (h : x = (n : Int)) (b : n ≤ 4000000) : IntKind.i64.wrap (Int.fdiv (IntKind.u64.wrap (IntKind.i64.wrap x)) (2 ^ min (Int.toNat 1) (IntKind.bits .u64))) = ((n / 2 : Nat) : Int) := by
 rw [ou n h b]
 have a : IntKind.u64.wrap (n : Int) = (n : Int) := by
  simp only [IntKind.wrap, IntKind.signed, IntKind.bits]
  simp
  omega
 rw [a, show (2 ^ min (Int.toNat 1) (IntKind.bits .u64) : Int) = 2 from by decide, Int.fdiv_eq_ediv_of_nonneg _ (by decide), lJ (by omega) (by omega)]
 omega
abbrev Ask (a0 : List Formula) (f : Formula × Formula → Option Int) (p q : Int) (b : Bool) : Prop := ∃ x y r, mF a0 p = some x ∧ mF a0 q = some y ∧ f (x, y) = some r ∧ decide (r < 0) = b
theorem TK (a0 : List Formula) (p : Int) (b : Nat → Bool) (lo a : Nat) (F : a ≤ 1000000) (u : ∀ h, lo ≤ h → h < a → Ask a0 f (h : Int) p (b h)) : ∀ (d n i j : Nat), j - i ≤ d → d < n → lo ≤ i → i ≤ j → j ≤ a → (i = lo ∨ b (i - 1) = true) → (j = a ∨ b j = false) →
  ∃ t I, lo ≤ t ∧ t ≤ a ∧ (t = lo ∨ b (t - 1) = true) ∧ (t = a ∨ b t = false) ∧ mw a0 p f n (i : Int) (j : Int) = mw a0 p f (I + 1) (t : Int) (t : Int) := by
 intro d
 induction d with
 | zero =>
  intro n i j h1 G g D k l m
  obtain ⟨n, rfl⟩ := aM (by omega : n ≠ 0)
  obtain rfl : i = j := by omega
  exact ⟨i, n, g, k, l, m, rfl⟩
 | succ d ih =>
  intro n i j h1 G g D k l m
  obtain ⟨n, rfl⟩ := aM (by omega : n ≠ 0)
  by_cases q : i = j
  ·subst q; exact ⟨i, n, g, k, l, m, rfl⟩
  have E := DD (i + j) (x := (i : Int) + (j : Int)) (by omega) (by omega)
  obtain ⟨x, y, r, v, w, z, A⟩ := u ((i + j) / 2) (by omega) (by omega)
  rw [mw]
  have s : ((i : Int) < (j : Int)) := by omega
  simp only [s, bT, aJ, E, v, w, z, A, aA]
  cases hp : b ((i + j) / 2)
  ·simp only [aB, aG]
   exact ih n i ((i + j) / 2) (by omega) (by omega) g (by omega) (by omega) l (.inr hp)
  ·simp only [aJ]
   rw [ou ((i + j) / 2 + 1) (by omega) (by omega)]
   exact ih n ((i + j) / 2 + 1) j (by omega) (by omega) (by omega) (by omega) k (.inr (by simpa using hp)) m
theorem T5 (a0 : List Formula) (a2 : Int) (b : Nat → Bool) (lo a : Nat) (E : a ≤ 1000000) (s : ∀ h, lo ≤ h → h < a → Ask a0 f a2 (h : Int) (!b h)) : ∀ (d n i j : Nat), j - i ≤ d → d < n → lo ≤ i → i ≤ j → j ≤ a → (i = lo ∨ b (i - 1) = true) → (j = a ∨ b j = false) →
  ∃ t G, lo ≤ t ∧ t ≤ a ∧ (t = lo ∨ b (t - 1) = true) ∧ (t = a ∨ b t = false) ∧ my a0 a2 f n (i : Int) (j : Int) = my a0 a2 f (G + 1) (t : Int) (t : Int) := by
 intro d
 induction d with
 | zero =>
  intro n i j h1 F g A k l m
  obtain ⟨n, rfl⟩ := aM (by omega : n ≠ 0)
  obtain rfl : i = j := by omega
  exact ⟨i, n, g, k, l, m, rfl⟩
 | succ d ih =>
  intro n i j h1 F g A k l m
  obtain ⟨n, rfl⟩ := aM (by omega : n ≠ 0)
  by_cases p : i = j
  ·subst p; exact ⟨i, n, g, k, l, m, rfl⟩
  have D := DD (i + j) (x := (i : Int) + (j : Int)) (by omega) (by omega)
  obtain ⟨x, y, r, u, v, w, z⟩ := s ((i + j) / 2) (by omega) (by omega)
  rw [my]
  have q : ((i : Int) < (j : Int)) := by omega
  simp only [q, bT, aJ, D, u, v, w, z, aA, jk]
  cases hp : b ((i + j) / 2)
  ·simp only [aB, aG]
   exact ih n i ((i + j) / 2) (by omega) (by omega) g (by omega) (by omega) l (.inr hp)
  ·simp only [aJ]
   rw [ou ((i + j) / 2 + 1) (by omega) (by omega)]
   exact ih n ((i + j) / 2 + 1) j (by omega) (by omega) (by omega) (by omega) k (.inr (by simpa using hp)) m
theorem SR (x : Formula) : ∀ (P Q R : List Formula) (n : Nat) (k i : Int), P.length < n → (Q ++ x :: (P ++ R)).length ≤ 1000000 → k = (Q.length : Int) → i = ((Q.length + P.length + 1 : Nat) : Int) → nr i n (Q ++ x :: (P ++ R)) k = some (Q ++ (P ++ x :: R))
 | [], Q, R, n, k, i, b, d, hk, a => by
  obtain ⟨n, rfl⟩ := aM (by simp at b; omega : n ≠ 0)
  simp only [aD, aI, bU] at d a
  rw [nr, ou Q.length (by omega) (by omega)]
  have : ¬ (k < (Q.length : Int)) := by omega
  simp [this]
 | y :: P, Q, R, n, k, i, b, d, hk, a => by
  obtain ⟨n, rfl⟩ := aM (by simp at b; omega : n ≠ 0)
  simp only [aD, aI] at d a b
  have h : Q ++ x :: (y :: P ++ R) = Q ++ x :: ([] ++ y :: (P ++ R)) := rfl
  have j : IntKind.i64.wrap (k + 1) = ((Q.length + 1 + ([] : List Formula).length : Nat) : Int) := ou _ (by simp; omega) (by simp; omega)
  have i1 : mF (Q ++ x :: ([] ++ y :: (P ++ R))) ((Q.length + 1 + ([] : List Formula).length : Nat) : Int) = some y := by
   have := nP (Q ++ [x]) y (P ++ R) ((Q.length + 1 + ([] : List Formula).length : Nat) : Int) (by simp)
   simpa using this
  have i2 : mF (Q ++ x :: ([] ++ y :: (P ++ R))) k = some x := nP _ _ _ _ hk
  rw [nr, ou (Q.length + P.length + 1) (by omega) (by omega), h]
  have g : k < ((Q.length + P.length + 1 : Nat) : Int) := by omega
  have kn : k.toNat = Q.length := by omega
  simp only [g, bT, aJ, j, i1, i2, aA, kn]
  have i3 : mF ((Q ++ x :: ([] ++ y :: (P ++ R))).set Q.length y) ((Q.length + 1 + ([] : List Formula).length : Nat) : Int) = some y := by
   rw [Fi]
   have := nP (Q ++ [y]) y (P ++ R) ((Q.length + 1 + ([] : List Formula).length : Nat) : Int) (by simp)
   simpa using this
  rw [i3, aA, dJ, Mx, FZ]
  have := SR x P (Q ++ [y]) R n ((Q.length + 1 + ([] : List Formula).length : Nat) : Int) i (by omega) (by simp; omega) (by simp) (by rw [a]; simp; omega)
  simpa using this
theorem TU (x : Formula) : ∀ (k : Nat) (S Q R : List Formula) (n : Nat) (j i : Int), S.length = k → k < n → (Q ++ (S ++ x :: R)).length ≤ 1000000 → j = ((Q.length + S.length : Nat) : Int) → i = (Q.length : Int) → nq i n (Q ++ (S ++ x :: R)) j = some (Q ++ x :: (S ++ R)) := by
 intro k
 induction k with
 | zero =>
  intro S Q R n j i hk m h a g
  obtain ⟨n, rfl⟩ := aM (by omega : n ≠ 0)
  obtain rfl := aR hk
  rw [nq]
  simp only [bU, iE] at a
  have : ¬ (j > i) := by omega
  simp [this]
 | succ k ih =>
  intro S Q R n j i hk m h a g
  obtain ⟨n, rfl⟩ := aM (by omega : n ≠ 0)
  rcases cW S with rfl | ⟨S, z, rfl⟩
  ·simp at hk
  simp only [eE, aD, aI, bU] at hk a h ⊢
  have l : Q ++ (S ++ [z] ++ x :: R) = (Q ++ S) ++ z :: ([] ++ x :: R) := by simp
  have q : IntKind.i64.wrap (j - 1) = ((Q ++ S).length : Int) := ou _ (by simp; omega) (by simp; omega)
  have b : j = (((Q ++ S).length + 1 + ([] : List Formula).length : Nat) : Int) := by rw [a]; simp; omega
  have i1 : mF ((Q ++ S) ++ z :: ([] ++ x :: R)) j = some x := by
   have := nP (Q ++ S ++ [z]) x R j (by rw [b]; simp; omega)
   simpa using this
  have i2 : mF ((Q ++ S) ++ z :: ([] ++ x :: R)) ((Q ++ S).length : Int) = some z := nP _ _ _ _ rfl
  rw [nq, l]
  have d : j > i := by omega
  have p : j.toNat = (Q ++ S).length + 1 + ([] : List Formula).length := by omega
  simp only [d, bT, aJ, q, i1, i2, aA, p]
  have i3 : mF (((Q ++ S) ++ z :: ([] ++ x :: R)).set ((Q ++ S).length + 1 + ([] : List Formula).length) z) ((Q ++ S).length : Int) = some z := by
   have : ((Q ++ S) ++ z :: ([] ++ x :: R)).set ((Q ++ S).length + 1 + ([] : List Formula).length) z = (Q ++ S) ++ z :: (z :: R) := by
    have := J5 (Q ++ S ++ [z]) R x z ((Q ++ S).length + 1 + ([] : List Formula).length) (by simp; omega)
    simpa using this
   rw [this]; exact nP _ _ _ _ rfl
  rw [i3, aA, dJ, Mx, MY]
  have := ih S Q (z :: R) n ((Q ++ S).length : Int) i (by omega) (by omega) (by simp; omega) (by simp) g
  simpa using this
end
end Go.Proofs.YtmlncblocfcmiaaGreat
namespace Go.Proofs.YtmlncblocfcmiaaGreat
open Go.RowKit
section
variable {c : Formula → Formula → Int} {G : Formula → Prop} {f : Formula × Formula → Option Int}
theorem Tg (a0 : List Formula) (k a3 a2 : Int) (rec : List Formula → Int → Int → Int → ((Formula × Formula) → Option Int) → Option (List Formula)) (mid m p : Nat) (l : k + a3 = ((2 * mid : Nat) : Int) ∨ k + a3 = ((2 * mid + 1 : Nat) : Int)) (hm : a2 = (m : Int)) (hp : p + 1 = mid + m) (g : Nat → Bool) (lo a : Nat) (M : a ≤ 1000000) (P : mid ≤ 1000000) (O : mid + m ≤ 2000000) (hle : a ≤ p + 1) (D : ∀ h, lo ≤ h → h < a → Ask a0 f ((p - h : Nat) : Int) (h : Int) (!g h)) : ∀ (d n i j : Nat), j - i ≤ d → d < n → lo ≤ i → i ≤ j → j ≤ a → (i = lo ∨ g (i - 1) = true) → (j = a ∨ g j = false) →
  ∃ t R, lo ≤ t ∧ t ≤ a ∧ (t = lo ∨ g (t - 1) = true) ∧ (t = a ∨ g t = false) ∧ lU a0 k a3 a2 f rec n (i : Int) (j : Int) = lU a0 k a3 a2 f rec (R + 1) (t : Int) (t : Int) := by
 have b : IntKind.i64.wrap (Int.fdiv (IntKind.u64.wrap (IntKind.i64.wrap (k + a3))) (2 ^ min (Int.toNat 1) (IntKind.bits .u64))) = (mid : Int) := by
  rcases l with h | h
  ·rw [DD _ h (by omega), show 2 * mid / 2 = mid by omega]
  ·rw [DD _ h (by omega), show (2 * mid + 1) / 2 = mid by omega]
 intro d
 induction d with
 | zero =>
  intro n i j h1 Q s J u v w
  obtain ⟨n, rfl⟩ := aM (by omega : n ≠ 0)
  obtain rfl : i = j := by omega
  exact ⟨i, n, s, u, v, w, rfl⟩
 | succ d ih =>
  intro n i j h1 Q s J u v w
  obtain ⟨n, rfl⟩ := aM (by omega : n ≠ 0)
  by_cases z : i = j
  ·subst z; exact ⟨i, n, s, u, v, w, rfl⟩
  have L := DD (i + j) (x := (i : Int) + (j : Int)) (by omega) (by omega)
  obtain ⟨x, y, r, E, F, G, I⟩ := D ((i + j) / 2) (by omega) (by omega)
  have T : IntKind.i64.wrap ((mid : Int) + a2) = ((mid + m : Nat) : Int) := ou _ (by omega) (by omega)
  have U : IntKind.i64.wrap (((mid + m : Nat) : Int) - 1) = (p : Int) := ou _ (by omega) (by omega)
  have W : IntKind.i64.wrap ((p : Int) - (((i + j) / 2 : Nat) : Int)) = ((p - (i + j) / 2 : Nat) : Int) := ou _ (by omega) (by omega)
  rw [lU]
  have A : ((i : Int) < (j : Int)) := by omega
  simp only [A, bT, aJ, L, b, T, U, W, E, F, G, I, aA, jk]
  cases q : g ((i + j) / 2)
  ·simp only [aB, aG]
   exact ih n i ((i + j) / 2) (by omega) (by omega) s (by omega) (by omega) v (.inr q)
  ·simp only [aJ]
   rw [ou ((i + j) / 2 + 1) (by omega) (by omega)]
   exact ih n ((i + j) / 2 + 1) j (by omega) (by omega) (by omega) (by omega) u (.inr (by simpa using q)) w
theorem RR (a0 : List Formula) (b a3 a2 : Int) (rec : List Formula → Int → Int → Int → ((Formula × Formula) → Option Int) → Option (List Formula)) (mid m t n : Nat) (d : b + a3 = ((2 * mid : Nat) : Int) ∨ b + a3 = ((2 * mid + 1 : Nat) : Int)) (hm : a2 = (m : Int)) (s : mid ≤ 1000000) (r : mid + m ≤ 2000000) (y : t ≤ mid + m) :
  lU a0 b a3 a2 f rec (n + 1) (t : Int) (t : Int) =
   ((if t < m ∧ m < mid + m - t then nK a0 (t : Int) a2 ((mid + m - t : Nat) : Int) f else some a0).bind fun l => ((if b < (t : Int) ∧ t < mid then rec l b (t : Int) (mid : Int) f else some l).bind fun l => if mid < mid + m - t ∧ ((mid + m - t : Nat) : Int) < a3 then rec l (mid : Int) ((mid + m - t : Nat) : Int) a3 f else some l)) := by
 have a : IntKind.i64.wrap (Int.fdiv (IntKind.u64.wrap (IntKind.i64.wrap (b + a3))) (2 ^ min (Int.toNat 1) (IntKind.bits .u64))) = (mid : Int) := by
  rcases d with h | h
  ·rw [DD _ h (by omega), show 2 * mid / 2 = mid by omega]
  ·rw [DD _ h (by omega), show (2 * mid + 1) / 2 = mid by omega]
 have v : IntKind.i64.wrap ((mid : Int) + a2) = ((mid + m : Nat) : Int) := ou _ (by omega) (by omega)
 have w : IntKind.i64.wrap (((mid + m : Nat) : Int) - (t : Int)) = ((mid + m - t : Nat) : Int) := ou _ (by omega) (by omega)
 rw [lU]
 simp only [Int.lt_irrefl, bV, aB, aG, a, v, w, pU]
 subst hm
 have g : ((t : Int) < (m : Int)) = (t < m) := by simp
 have i : ((m : Int) < ((mid + m - t : Nat) : Int)) = (m < mid + m - t) := by rw [iU]; omega
 have j : ((t : Int) < (mid : Int)) = (t < mid) := by simp
 have k : ((mid : Int) < ((mid + m - t : Nat) : Int)) = (mid < mid + m - t) := by rw [iU]; omega
 simp only [g, i, j, k]
 have key : ∀ (p q : Prop) [Decidable p] [Decidable q] (A B : Option (List Formula)), ((if decide p = true then some (decide q) else some false : Option Bool).bind fun x => if x = true then A else B) = if p ∧ q then A else B := by
  intro p q _ _ A B
  by_cases hp : p <;> by_cases u : q <;> simp [hp, u]
 simp only [key]
theorem MH (p A q : List Formula) (h : Nat) (b : p.length ≤ h) (h1 : h < p.length + A.length) : ∃ x, A[h - p.length]? = some x ∧ mF (p ++ (A ++ q)) (h : Int) = some x := by
 obtain ⟨x, a⟩ : ∃ x, A[h - p.length]? = some x := ⟨_, cY (by omega)⟩
 refine ⟨x, a, ?_⟩
 rw [Fk, eH b, iI (by omega), a]
end
end Go.Proofs.YtmlncblocfcmiaaGreat
namespace Go.Proofs.YtmlncblocfcmiaaGreat
open Go.RowKit
section
variable {c : Formula → Formula → Int} {G : Formula → Prop} {f : Formula × Formula → Option Int}
theorem D4 {α : Type} {P A' : List α} {z : α} (S : List α) (h : P = A' ++ [z]) : (P ++ S)[P.length - 1]? = some z := by subst h; simp
theorem DL {α : Type} {S B' : List α} {z : α} (P : List α) (h : S = z :: B') : (P ++ S)[P.length]? = some z := by subst h; simp
theorem yN {A : List (Formula × Nat)} {i : Nat} {z : Formula × Nat} (h : A[i]? = some z) : (A.map (·.1))[i]? = some z.1 := by simp [h]
theorem SE (h : SWO (ow c)) (Q : Dc f c G) (x : Formula × Nat) (B : List (Formula × Nat)) (pre post : List Formula) (a m b : Int) (I : pp (ow c) B) (U : ∀ y ∈ B, x.2 < y.2) (w : ∀ y ∈ x :: B, G y.1) (R : (pre ++ x.1 :: (B.map (·.1) ++ post)).length ≤ 400000) (ha : a = (pre.length : Int)) (hm : m = ((pre.length + 1 : Nat) : Int)) (O : b = ((pre.length + 1 + B.length : Nat) : Int)) :
  ∃ u, mw (pre ++ x.1 :: (B.map (·.1) ++ post)) a f lE m b = some (pre ++ (u.map (·.1) ++ post)) ∧ pp (ow c) u ∧ u.Perm (x :: B) := by
 have r := R
 simp only [aD, aI, dE] at r
 let g : Nat → Bool := fun k => match (B.map (·.1))[k - (pre.length + 1)]? with | some y => ow c y x.1 | none => false
 have j : ∀ k, pre.length + 1 ≤ k → k < pre.length + 1 + B.length → Ask (pre ++ x.1 :: (B.map (·.1) ++ post)) f (k : Int) a (g k) := by
  intro k h1 Z
  obtain ⟨y, s, A⟩ := MH (pre ++ [x.1]) (B.map (·.1)) post k (by simp; omega) (by simp; omega)
  have D : mF (pre ++ x.1 :: (B.map (·.1) ++ post)) (k : Int) = some y := by simpa using A
  have E : mF (pre ++ x.1 :: (B.map (·.1) ++ post)) a = some x.1 := nP _ _ _ _ ha
  have W : G y := by
   obtain ⟨q, T, rfl⟩ := bB.1 (dK s)
   exact w q (by simp [T])
  refine ⟨y, x.1, _, D, E, Q y x.1 W (w x (by simp)), ?_⟩
  simp only [aD, aI, bU] at s
  simp only [g, s]
 obtain ⟨t, n', t1, t2, t3, t4, e⟩ := TK (f := f) _ a g (pre.length + 1) (pre.length + 1 + B.length) (by omega) j B.length lE (pre.length + 1) (pre.length + 1 + B.length) (by omega) (by rw [ni]; omega) (aO _) (by omega) (aO _) (.inl rfl) (.inl rfl)
 rw [hm, O, e, mw]
 simp only [Int.lt_irrefl, bV, aB, aG, pU]
 obtain ⟨P, S, rfl, J⟩ := xg (l := B) (n := t - (pre.length + 1)) (by omega)
 simp only [aD] at r t2 t4
 have F : pre ++ x.1 :: ((P ++ S).map (·.1) ++ post) = pre ++ x.1 :: (P.map (·.1) ++ (S.map (·.1) ++ post)) := by simp
 rw [F, SR x.1 (P.map (·.1)) pre (S.map (·.1) ++ post) lE a (t : Int) (by rw [ni]; simp; omega) (by simp; omega) ha (by simp; omega)]
 refine ⟨P ++ x :: S, by simp, HI h I ?_ ?_, gH⟩
 ·intro A' z v B' i d
  simp only [aX] at d
  rw [← d.1]
  have L : 0 < P.length := by rw [i]; simp
  have hp : g (t - 1) = true := by
   rcases t3 with t3 | t3
   ·omega
   ·exact t3
  have p := yN (D4 S i)
  rw [show P.length - 1 = t - 1 - (pre.length + 1) by omega] at p
  simp only [g, p] at hp
  exact .inl hp
 ·intro A' z v B' i d
  have Y : z = x := by
   cases A' with
   | nil => simpa using i.symm
   | cons _ A' => simp at i
  rw [Y]
  have M : 0 < S.length := by rw [d]; simp
  have hp : g t = false := by
   rcases t4 with t4 | t4
   ·omega
   ·exact t4
  have p := yN (DL P d)
  rw [J] at p
  simp only [g, p] at hp
  exact .inr ⟨hp, U v (by rw [d]; simp)⟩
theorem SL (h : SWO (ow c)) (M : Dc f c G) (y : Formula × Nat) (A : List (Formula × Nat)) (pre post : List Formula) (a m : Int) (F : pp (ow c) A) (R : ∀ x ∈ A, x.2 < y.2) (s : ∀ x ∈ y :: A, G x.1) (O : (pre ++ (A.map (·.1) ++ y.1 :: post)).length ≤ 400000) (ha : a = (pre.length : Int)) (hm : m = ((pre.length + A.length : Nat) : Int)) :
  ∃ u, my (pre ++ (A.map (·.1) ++ y.1 :: post)) m f lE a m = some (pre ++ (u.map (·.1) ++ post)) ∧ pp (ow c) u ∧ u.Perm (A ++ [y]) := by
 have p := O
 simp only [aD, aI, dE] at p
 let g : Nat → Bool := fun k => match (A.map (·.1))[k - pre.length]? with | some x => !ow c y.1 x | none => false
 have i : ∀ k, pre.length ≤ k → k < pre.length + A.length → Ask (pre ++ (A.map (·.1) ++ y.1 :: post)) f m (k : Int) (!g k) := by
  intro k h1 W
  obtain ⟨x, r, w⟩ := MH pre (A.map (·.1)) (y.1 :: post) k h1 (by simp; omega)
  have D : mF (pre ++ (A.map (·.1) ++ y.1 :: post)) m = some y.1 := by
   have := nP (pre ++ A.map (·.1)) y.1 post m (by rw [hm]; simp)
   simpa using this
  have T : G x := by
   obtain ⟨q, Q, rfl⟩ := bB.1 (dK r)
   exact s q (by simp [Q])
  refine ⟨y.1, x, _, D, w, M y.1 x (s y (by simp)) T, ?_⟩
  simp only [g, r, jk]
 obtain ⟨t, Y, t1, t2, t3, t4, e⟩ := T5 (f := f) _ m g pre.length (pre.length + A.length) (by omega) i A.length lE pre.length (pre.length + A.length) (by omega) (by rw [ni]; omega) (aO _) (by omega) (aO _) (.inl rfl) (.inl rfl)
 rw [← hm, ← ha] at e
 rw [e, my]
 simp only [Int.lt_irrefl, bV, aB, aG, pU]
 obtain ⟨P, S, rfl, I⟩ := xg (l := A) (n := t - pre.length) (by omega)
 simp only [aD] at p t2 t4 hm
 have E : pre ++ ((P ++ S).map (·.1) ++ y.1 :: post) = (pre ++ P.map (·.1)) ++ (S.map (·.1) ++ y.1 :: post) := by simp
 rw [E, TU y.1 S.length (S.map (·.1)) (pre ++ P.map (·.1)) post lE m (t : Int) (by simp) (by rw [ni]; omega) (by simp; omega) (by rw [hm]; simp; omega) (by simp; omega)]
 refine ⟨P ++ y :: S, by simp, HI h F ?_ ?_, List.perm_middle.trans (iB y (P ++ S)).symm⟩
 ·intro A' z v B' b d
  simp only [aX] at d
  rw [← d.1]
  have J : 0 < P.length := by rw [b]; simp
  have hp : g (t - 1) = true := by
   rcases t3 with t3 | t3
   ·omega
   ·exact t3
  have j := yN (D4 S b)
  rw [show P.length - 1 = t - 1 - pre.length by omega] at j
  simp only [g, j, gZ] at hp
  exact .inr ⟨hp, R z (by rw [b]; simp)⟩
 ·intro A' z v B' b d
  have U : z = y := by
   cases A' with
   | nil => simpa using b.symm
   | cons _ A' => simp at b
  rw [U]
  have L : 0 < S.length := by rw [d]; simp
  have hp : g t = false := by
   rcases t4 with t4 | t4
   ·omega
   ·exact t4
  have j := yN (DL P d)
  rw [I] at j
  simp only [g, j, Bool.not_eq_false'] at hp
  exact .inl hp
theorem N9 {α : Type} {A1 A2 B1 B2 C1 C2 : List α} (a : C1.Perm (A1 ++ B1)) (b : C2.Perm (A2 ++ B2)) : (C1 ++ C2).Perm ((A1 ++ A2) ++ (B1 ++ B2)) := by
 refine (a.append b).trans ?_
 simp only [aH]
 refine cF A1 ?_
 exact gY B1 A2 B2
def PD (c : Formula → Formula → Int) (A B : List Formula) (a b p q : Nat) : Bool := match A[q - a]?, B[p - q - b]? with | some x, some y => !ow c y x | _, _ => false
theorem I9 {A B : List Formula} {a b p q : Nat} {x y : Formula} (h1 : A[q - a]? = some x) (d : B[p - q - b]? = some y) : PD c A B a b p q = !ow c y x := by simp only [PD, h1, d]
theorem Tw (l : Dc f c G) (A B : List (Formula × Nat)) (pre post : List Formula) (a p : Nat) (m : a = pre.length + A.length) (h : ∀ x ∈ A ++ B, G x.1) (q : Nat) (s : pre.length ≤ q) (t : q < a) (u : a ≤ p - q) (v : p - q < a + B.length) :
  Ask (pre ++ (A.map (·.1) ++ (B.map (·.1) ++ post))) f ((p - q : Nat) : Int) (q : Int) (!PD c (A.map (·.1)) (B.map (·.1)) pre.length a p q) := by
 obtain ⟨x, g, i⟩ := MH pre (A.map (·.1)) (B.map (·.1) ++ post) q s (by simp; omega)
 obtain ⟨y, b, j⟩ := MH (pre ++ A.map (·.1)) (B.map (·.1)) post (p - q) (by simp; omega) (by simp; omega)
 have n : G x := by
  obtain ⟨z, d, rfl⟩ := bB.1 (dK g)
  exact h z (by simp [d])
 have r : G y := by
  obtain ⟨z, d, rfl⟩ := bB.1 (dK b)
  exact h z (by simp [d])
 have k : mF (pre ++ (A.map (·.1) ++ (B.map (·.1) ++ post))) ((p - q : Nat) : Int) = some y := by simpa using j
 refine ⟨y, x, _, k, i, l y x r n, ?_⟩
 rw [show p - q - (pre ++ A.map (·.1)).length = p - q - a by simp; omega] at b
 rw [I9 g b, jk]
abbrev TM (c : Formula → Formula → Int) (G : Formula → Prop) (f : Formula × Formula → Option Int) (rec : List Formula → Int → Int → Int → ((Formula × Formula) → Option Int) → Option (List Formula)) (k : Nat) : Prop :=
 ∀ (A B : List (Formula × Nat)) (pre post : List Formula) (a m b : Int), A.length + B.length ≤ k → 0 < A.length → 0 < B.length → pp (ow c) A → pp (ow c) B →
  (∀ x ∈ A, ∀ y ∈ B, x.2 < y.2) → (∀ x ∈ A ++ B, G x.1) → (pre ++ (A.map (·.1) ++ (B.map (·.1) ++ post))).length ≤ 400000 → a = (pre.length : Int) → m = ((pre.length + A.length : Nat) : Int) → b = ((pre.length + A.length + B.length : Nat) : Int) →
  ∃ u, rec (pre ++ (A.map (·.1) ++ (B.map (·.1) ++ post))) a m b f = some (pre ++ (u.map (·.1) ++ post)) ∧ pp (ow c) u ∧ u.Perm (A ++ B)
theorem RJ (h : SWO (ow c)) {rec : List Formula → Int → Int → Int → ((Formula × Formula) → Option Int) → Option (List Formula)} {k : Nat} (ih : TM c G f rec k) (A1 A2 B1 B2 : List (Formula × Nat)) (pre post : List Formula) (a m b : Int) (mid d t : Nat) (M : d = pre.length + (A1.length + A2.length)) (P : mid = (pre.length + (d + (B1.length + B2.length))) / 2) (J : A1.length = t - pre.length) (L : B1.length = mid - t) (Q : pre.length ≤ t) (R : t ≤ mid) (T : t ≤ d) (hk : A1.length + A2.length + (B1.length + B2.length) ≤ k + 1) (O : 2 ≤ A1.length + A2.length + (B1.length + B2.length)) (p : pp (ow c) (A1 ++ A2)) (q : pp (ow c) (B1 ++ B2)) (I : ∀ x ∈ A1 ++ A2, ∀ y ∈ B1 ++ B2, x.2 < y.2) (F : ∀ x ∈ (A1 ++ A2) ++ (B1 ++ B2), G x.1) (hl : pre.length + (A1.length + A2.length + (B1.length + B2.length + post.length)) ≤ 400000) (ha : a = (pre.length : Int)) (hm : m = (d : Int)) (hb : b = ((d + (B1.length + B2.length) : Nat) : Int)) (U : Lk (ow c) A1 B2) (W : Lk (ow c) B1 A2) :
  ∃ u, ((if t < d ∧ d < mid + d - t then nK (pre ++ ((A1 ++ A2).map (·.1) ++ ((B1 ++ B2).map (·.1) ++ post))) (t : Int) m ((mid + d - t : Nat) : Int) f else some (pre ++ ((A1 ++ A2).map (·.1) ++ ((B1 ++ B2).map (·.1) ++ post)))).bind fun l =>
   ((if a < (t : Int) ∧ t < mid then rec l a (t : Int) (mid : Int) f else some l).bind fun l => if mid < mid + d - t ∧ ((mid + d - t : Nat) : Int) < b then rec l (mid : Int) ((mid + d - t : Nat) : Int) b f else some l)) = some (pre ++ (u.map (·.1) ++ post)) ∧ pp (ow c) u ∧ u.Perm ((A1 ++ A2) ++ (B1 ++ B2)) := by
 have Y : (if t < d ∧ d < mid + d - t then nK (pre ++ ((A1 ++ A2).map (·.1) ++ ((B1 ++ B2).map (·.1) ++ post))) (t : Int) m ((mid + d - t : Nat) : Int) f else some (pre ++ ((A1 ++ A2).map (·.1) ++ ((B1 ++ B2).map (·.1) ++ post)))) =
   some (pre ++ (A1.map (·.1) ++ (B1.map (·.1) ++ (A2.map (·.1) ++ (B2.map (·.1) ++ post))))) := by
  by_cases i : t < d ∧ d < mid + d - t
  ·rw [aT i]
   have := TT (f := f) (A2.map (·.1)) (B1.map (·.1)) (pre ++ A1.map (·.1)) (B2.map (·.1) ++ post) (t : Int) m ((mid + d - t : Nat) : Int) (by simp; omega) (by simp; omega) (by simp; omega) (by simp; omega) (by simp; omega) (by simp; omega)
   simpa using this
  ·rw [aY i]
   have : A2 = [] ∨ B1 = [] := by
    by_cases h1 : A2.length = 0
    ·exact .inl (aR h1)
    ·exact .inr (aR (by omega))
   rcases this with rfl | rfl <;> simp
 rw [Y, aA]
 have Z : ∃ C1, (if a < (t : Int) ∧ t < mid then rec (pre ++ (A1.map (·.1) ++ (B1.map (·.1) ++ (A2.map (·.1) ++ (B2.map (·.1) ++ post))))) a (t : Int) (mid : Int) f else some (pre ++ (A1.map (·.1) ++ (B1.map (·.1) ++ (A2.map (·.1) ++ (B2.map (·.1) ++ post)))))) =
   some (pre ++ (C1.map (·.1) ++ (A2.map (·.1) ++ (B2.map (·.1) ++ post)))) ∧ pp (ow c) C1 ∧ C1.Perm (A1 ++ B1) := by
  by_cases i : a < (t : Int) ∧ t < mid
  ·rw [aT i]
   exact ih A1 B1 pre (A2.map (·.1) ++ (B2.map (·.1) ++ post)) a t mid (by omega) (by omega) (by omega) p.left q.left (fun x g y A => I x (by simp [g]) y (by simp [A])) (fun x g => F x (by simp at g ⊢; rcases g with g | g <;> simp [g]))
    (by simp; omega) ha (by omega) (by omega)
  ·rw [aY i]
   refine ⟨A1 ++ B1, by simp, Jb h p.left q.left (fun A' x y B' D E => ?_), .refl _⟩
   have g1 : 0 < A1.length := by rw [D]; simp
   have g2 : 0 < B1.length := by rw [E]; simp
   omega
 obtain ⟨C1, r, v, j⟩ := Z
 have s := j.length_eq
 simp only [aD] at s
 rw [r, aA]
 have r3 : ∃ C2, (if mid < mid + d - t ∧ ((mid + d - t : Nat) : Int) < b then rec (pre ++ (C1.map (·.1) ++ (A2.map (·.1) ++ (B2.map (·.1) ++ post)))) (mid : Int) ((mid + d - t : Nat) : Int) b f else some (pre ++ (C1.map (·.1) ++ (A2.map (·.1) ++ (B2.map (·.1) ++ post))))) =
   some ((pre ++ C1.map (·.1)) ++ (C2.map (·.1) ++ post)) ∧ pp (ow c) C2 ∧ C2.Perm (A2 ++ B2) := by
  by_cases i : mid < mid + d - t ∧ ((mid + d - t : Nat) : Int) < b
  ·rw [aT i]
   have := ih A2 B2 (pre ++ C1.map (·.1)) post mid ((mid + d - t : Nat) : Int) b (by omega) (by omega) (by omega) p.right q.right (fun x g y A => I x (by simp [g]) y (by simp [A])) (fun x g => F x (by simp at g ⊢; rcases g with g | g <;> simp [g]))
    (by simp; omega) (by simp; omega) (by simp; omega) (by simp; omega)
   simpa using this
  ·rw [aY i]
   refine ⟨A2 ++ B2, by simp, Jb h p.right q.right (fun A' x y B' D E => ?_), .refl _⟩
   have g1 : 0 < A2.length := by rw [D]; simp
   have g2 : 0 < B2.length := by rw [E]; simp
   omega
 obtain ⟨C2, w, z, n⟩ := r3
 rw [w]
 exact ⟨C1 ++ C2, by simp, QH h p q U W j n v z, N9 j n⟩
theorem Ov (F : Nat) (I : 1000000 < F) (L : List Formula) (rec : List Formula → Int → Int → Int → ((Formula × Formula) → Option Int) → Option (List Formula)) (pl g h mid d p : Nat) (a b m : Int) (r : Nat → Bool) (w : 0 < g) (y : 0 < h) (D : pl + (g + h) ≤ 400000) (A : mid = (pl + (pl + g + h)) / 2) (z : d = pl + g) (hp : p + 1 = mid + d) (l : a + b = ((2 * mid : Nat) : Int) ∨ a + b = ((2 * mid + 1 : Nat) : Int)) (ha : a = (pl : Int)) (k : m = (d : Int)) (J : b = ((pl + g + h : Nat) : Int)) (i : ∀ q, pl ≤ q → q < d → d ≤ p - q → p - q < d + h → Ask L f ((p - q : Nat) : Int) (q : Int) (!r q)) :
  ∃ t n lo s : Nat, (lo = pl ∧ s = d ∧ d ≤ mid ∨ lo + (pl + g + h) = mid + d ∧ s = mid ∧ mid < d) ∧ lo ≤ t ∧ t ≤ s ∧ (t = lo ∨ r (t - 1) = true) ∧ (t = s ∨ r t = false) ∧
    ((if decide (m > (mid : Int)) then some (IntKind.i64.wrap (((mid + d : Nat) : Int) - b), (mid : Int)) else some (a, m) : Option (Int × Int)).bind fun x => lU L a b m f rec F x.1 x.2) =
     lU L a b m f rec (n + 1) (t : Int) (t : Int) := by
 by_cases v : mid < d
 ·obtain ⟨lo, u⟩ : ∃ lo : Nat, lo + (pl + g + h) = mid + d := ⟨mid + d - (pl + g + h), by omega⟩
  obtain ⟨t, n, t1, t2, t3, t4, e⟩ := Tg (f := f) L a b m rec mid d p l k hp r lo mid (by omega) (by omega) (by omega) (by omega) (fun q E G => i q (by omega) (by omega) (by omega) (by omega))
   (mid - lo) F lo mid (aO _) (by omega) (aO _) (by omega) (aO _) (.inl rfl) (.inl rfl)
  refine ⟨t, n, lo, mid, .inr ⟨u, rfl, v⟩, t1, t2, t3, t4, ?_⟩
  have j : m > (mid : Int) := by omega
  simp only [j, bT, aJ, aA]
  rw [ou lo (by omega) (by omega), e]
 ·obtain ⟨t, n, t1, t2, t3, t4, e⟩ := Tg (f := f) L a b m rec mid d p l k hp r pl d (by omega) (by omega) (by omega) (by omega) (fun q E G => i q (by omega) (by omega) (by omega) (by omega))
   (d - pl) F pl d (aO _) (by omega) (aO _) (by omega) (aO _) (.inl rfl) (.inl rfl)
  refine ⟨t, n, pl, d, .inl ⟨rfl, rfl, by omega⟩, t1, t2, t3, t4, ?_⟩
  have j : ¬ (m > (mid : Int)) := by omega
  simp only [j, bV, aB, aG, aA]
  rw [← e, ← ha, ← k]
set_option maxHeartbeats 2000000 in
theorem Tz (h : SWO (ow c)) (hf : Dc f c G) : ∀ (k : Nat) (A B : List (Formula × Nat)) (pre post : List Formula) (n : Nat) (a m b : Int), A.length + B.length ≤ k → 0 < A.length → 0 < B.length → k < n → pp (ow c) A → pp (ow c) B →
  (∀ x ∈ A, ∀ y ∈ B, x.2 < y.2) → (∀ x ∈ A ++ B, G x.1) → (pre ++ (A.map (·.1) ++ (B.map (·.1) ++ post))).length ≤ 400000 → a = (pre.length : Int) → m = ((pre.length + A.length : Nat) : Int) → b = ((pre.length + A.length + B.length : Nat) : Int) →
  ∃ u, mG n (pre ++ (A.map (·.1) ++ (B.map (·.1) ++ post))) a m b f = some (pre ++ (u.map (·.1) ++ post)) ∧ pp (ow c) u ∧ u.Perm (A ++ B) := by
 intro k
 induction k with
 | zero => intro A B pre post n a m b h0 h1 h2; omega
 | succ k ih =>
  intro A B pre post n a m b h0 h1 h2 hn hA hB U T hl ha hm O
  obtain ⟨n, rfl⟩ := aM (by omega : n ≠ 0)
  have P := hl
  simp only [aD, dE] at P
  rw [mG]
  unfold pW
  by_cases c1 : A.length = 1
  ·obtain ⟨x, rfl⟩ := List.length_eq_one_iff.1 c1
   have : (IntKind.i64.wrap (m - a) == 1) = true := by rw [ou 1 (by simp at hm; omega) (by omega)]; rfl
   simp only [this, aJ]
   obtain ⟨u, u1, u2, u3⟩ := SE h hf x B pre post a m b hB (fun y hy => U x (by simp) y hy) (fun y hy => T y (by simpa using hy)) (by simpa using hl) ha (by simpa using hm) (by simpa using O)
   exact ⟨u, by simpa using u1, u2, by simpa using u3⟩
  have n1 : (IntKind.i64.wrap (m - a) == 1) = false := by rw [ou A.length (by omega) (by omega)]; simp; omega
  simp only [n1, aB, aG]
  by_cases c2 : B.length = 1
  ·obtain ⟨y, rfl⟩ := List.length_eq_one_iff.1 c2
   have : (IntKind.i64.wrap (b - m) == 1) = true := by rw [ou 1 (by simp at O; omega) (by omega)]; rfl
   simp only [this, aJ]
   obtain ⟨u, u1, u2, u3⟩ := SL h hf y A pre post a m hA (fun x W => U x W y (by simp)) (fun x W => T x (by simp at W ⊢; exact W.symm)) (by simpa using hl) ha hm
   exact ⟨u, by simpa using u1, u2, u3⟩
  have n2 : (IntKind.i64.wrap (b - m) == 1) = false := by rw [ou B.length (by omega) (by omega)]; simp; omega
  simp only [n2, aB, aG]
  obtain ⟨F, hF, Z⟩ : ∃ F, F = lE ∧ 1000000 < F := ⟨lE, rfl, by rw [ni]; omega⟩
  rw [← hF]
  obtain ⟨mid, E⟩ : ∃ mid : Nat, mid = (pre.length + (pre.length + A.length + B.length)) / 2 := ⟨_, rfl⟩
  obtain ⟨d, j⟩ : ∃ d : Nat, d = pre.length + A.length := ⟨_, rfl⟩
  obtain ⟨p, hp⟩ : ∃ p : Nat, p + 1 = mid + d := ⟨mid + d - 1, by omega⟩
  have w : a + b = ((2 * mid : Nat) : Int) ∨ a + b = ((2 * mid + 1 : Nat) : Int) := by omega
  have I : IntKind.i64.wrap (Int.fdiv (IntKind.u64.wrap (IntKind.i64.wrap (a + b))) (2 ^ min (Int.toNat 1) (IntKind.bits .u64))) = (mid : Int) := by
   rcases w with h | h
   ·rw [DD _ h (by omega), show 2 * mid / 2 = mid by omega]
   ·rw [DD _ h (by omega), show (2 * mid + 1) / 2 = mid by omega]
  have D : m = (d : Int) := by omega
  have w1 : IntKind.i64.wrap ((mid : Int) + m) = ((mid + d : Nat) : Int) := ou _ (by omega) (by omega)
  obtain ⟨J, r⟩ : ∃ J : Nat → Bool, J = PD c (A.map (·.1)) (B.map (·.1)) pre.length d p := ⟨_, rfl⟩
  have M : ∀ q, pre.length ≤ q → q < d → d ≤ p - q → p - q < d + B.length → Ask (pre ++ (A.map (·.1) ++ (B.map (·.1) ++ post))) f ((p - q : Nat) : Int) (q : Int) (!J q) := fun q g i q3 q4 => by rw [r]; exact Tw hf A B pre post d p j T q g i q3 q4
  obtain ⟨t, n', lo, hi, a1, t1, t2, t3, t4, e⟩ := Ov (f := f) F Z (pre ++ (A.map (·.1) ++ (B.map (·.1) ++ post))) (mG n) pre.length A.length B.length mid d p a b m J (by omega) (by omega) (by omega) E j hp w ha D O M
  simp only [I, w1]
  rw [e, RR (f := f) _ a b m _ mid d t n' w D (by omega) (by omega) (by omega)]
  obtain ⟨A1, A2, rfl, L⟩ := xg (l := A) (n := t - pre.length) (by omega)
  obtain ⟨B1, B2, rfl, Y⟩ := xg (l := B) (n := mid - t) (by omega)
  simp only [aD] at h0 h1 h2 P t1 t2 t3 t4 a1 hm O j E
  have Q : ∀ q x y, ((A1 ++ A2).map (·.1))[q - pre.length]? = some x → ((B1 ++ B2).map (·.1))[p - q - d]? = some y → J q = !ow c y x := fun q x y s v => by rw [r]; exact I9 s v
  have l1 : Lk (ow c) A1 B2 := by
   intro A' z b' B' g i
   have g1 : 0 < A1.length := by rw [g]; simp
   have g2 : 0 < B2.length := by rw [i]; simp
   have R : J (t - 1) = true := by
    rcases t3 with t3 | t3
    ·omega
    ·exact t3
   have s := yN (D4 A2 g)
   have v := yN (DL B1 i)
   rw [show A1.length - 1 = t - 1 - pre.length by omega] at s
   rw [show B1.length = p - (t - 1) - d by omega] at v
   rw [Q _ _ _ s v, gZ] at R
   exact .inr ⟨R, U z (by rw [g]; simp) b' (by rw [i]; simp)⟩
  have l2 : Lk (ow c) B1 A2 := by
   intro A' z b' B' g i
   have g1 : 0 < B1.length := by rw [g]; simp
   have g2 : 0 < A2.length := by rw [i]; simp
   have R : J t = false := by
    rcases t4 with t4 | t4
    ·omega
    ·exact t4
   have s := yN (D4 B2 g)
   have v := yN (DL A1 i)
   rw [show B1.length - 1 = p - t - d by omega] at s
   rw [L] at v
   rw [Q _ _ _ v s, Bool.not_eq_false'] at R
   exact .inl R
  exact RJ h (fun A B pre post a m b g i q3 => ih A B pre post n a m b g i q3 (by omega)) A1 A2 B1 B2 pre post a m b mid d t j (by rw [E]; congr 1; omega) L Y (by omega) (by omega) (by omega) (by omega) (by omega) hA hB U T (by omega) ha D (by rw [O]; congr 1; omega) l1 l2
end
end Go.Proofs.YtmlncblocfcmiaaGreat
namespace Go.Proofs.YtmlncblocfcmiaaGreat
open Go.RowKit
section
variable {c : Formula → Formula → Int} {G : Formula → Prop} {f : Formula × Formula → Option Int}
def xX (c : Formula → Formula → Int) : Nat → List (List (Formula × Nat)) → Prop
 | _, [] => True
 | o, A :: bs => pp (ow c) A ∧ (∀ x ∈ A, o ≤ x.2 ∧ x.2 < o + A.length) ∧ xX c (o + A.length) bs
def WB (s : Nat) : List (List (Formula × Nat)) → Prop
 | [] => True
 | A :: bs => A.length ≤ s ∧ (bs ≠ [] → A.length = s) ∧ WB s bs
theorem xX.append : ∀ {ds bs : List (List (Formula × Nat))} {o : Nat}, xX c o (ds ++ bs) ↔ xX c o ds ∧ xX c (o + ds.flatten.length) bs
 | [], bs, o => by simp [xX]
 | A :: ds, bs, o => by
  simp only [bO, xX, xX.append (ds := ds), bR, aD, and_assoc, fF]
def fm (bs : List (List (Formula × Nat))) : List Formula := bs.flatten.map (·.1)
theorem Ip (a b : List (List (Formula × Nat))) : fm (a ++ b) = fm a ++ fm b := by simp [fm]
theorem KZ (A : List (Formula × Nat)) (b : List (List (Formula × Nat))) : fm (A :: b) = A.map (·.1) ++ fm b := by simp [fm]
theorem si (a : List (List (Formula × Nat))) : (fm a).length = a.flatten.length := by unfold fm; rw [dE]
theorem NY (ds : List (List (Formula × Nat))) (C : List (Formula × Nat)) : (ds ++ [C]).flatten.length = ds.flatten.length + C.length := by rw [cT, aD]; simp only [bR, dF, aQ]
theorem RA (C : List (Formula × Nat)) (bs : List (List (Formula × Nat))) : fm ([C] ++ bs) = C.map (·.1) ++ fm bs := by simp [fm]
theorem Fz {R : List Formula} {o : Nat} {x : Formula × Nat} (h : x ∈ R.zipIdx o) : x.1 ∈ R := List.fst_mem_of_mem_zipIdx h
theorem WB.two {s : Nat} {A : List (Formula × Nat)} {bs : List (List (Formula × Nat))} (g : 0 < s) (h : WB s (A :: bs)) (d : s < (A :: bs).flatten.length) : A.length = s ∧ ∃ B a, bs = B :: a ∧ (B.length = s ∨ a = []) ∧ B.length ≤ s ∧ WB s a := by
 cases bs with
 | nil => simp at d; have := h.1; omega
 | cons B a =>
  refine ⟨h.2.1 (by simp), B, a, rfl, ?_, h.2.2.1, h.2.2.2.2⟩
  by_cases b : a = []
  ·exact .inr b
  ·exact .inl (h.2.2.2.1 b)
theorem JU (h : SWO (ow c)) (u : Dc f c G) {ds bs : List (List (Formula × Nat))} {A B : List (Formula × Nat)} (hO : xX c 0 (ds ++ A :: B :: bs)) (s : ∀ x ∈ (ds ++ A :: B :: bs).flatten, G x.1) (i : (fm (ds ++ A :: B :: bs)).length ≤ 400000) (q : 0 < A.length) (r : 0 < B.length) (a m b : Int) (ha : a = (ds.flatten.length : Int)) (hm : m = ((ds.flatten.length + A.length : Nat) : Int)) (t : b = ((ds.flatten.length + A.length + B.length : Nat) : Int)) :
  ∃ C, mG lE (fm (ds ++ A :: B :: bs)) a m b f = some (fm ((ds ++ [C]) ++ bs)) ∧ xX c 0 ((ds ++ [C]) ++ bs) ∧ C.Perm (A ++ B) := by
 obtain ⟨h1, p⟩ := xX.append.1 hO
 obtain ⟨E, l, F, n, v⟩ := p
 have e : fm (ds ++ A :: B :: bs) = fm ds ++ (A.map (·.1) ++ (B.map (·.1) ++ fm bs)) := by rw [Ip, KZ, KZ]
 rw [e] at i ⊢
 have j := i
 simp only [aD, dE, si] at j
 obtain ⟨C, z, D, k⟩ := Tz h u (A.length + B.length) A B (fm ds) (fm bs) lE a m b (aO _) q r (by rw [ni]; omega) E F (fun x d y w => by have := (l x d).2; have := (n y w).1; omega)
  (fun x d => s x (by
   rw [cT, bR, bR, aN, aN, aN]
   rcases aN.1 d with d | d
   ·exact .inr (.inl d)
   ·exact .inr (.inr (.inl d)))) i (by rw [ha, si]) (by rw [hm, si]) (by rw [t, si])
 have g := k.length_eq
 simp only [aD] at g
 refine ⟨C, by rw [z, aH, Ip, RA], ?_, k⟩
 ·rw [aH, xX.append]
  refine ⟨h1, D, fun x d => ?_, ?_⟩
  ·rcases aN.1 (k.mem_iff.1 d) with d | d
   ·have := l x d; omega
   ·have := n x d; omega
  ·rw [g, ← fF]; exact v
theorem Jo {ds bs : List (List (Formula × Nat))} {A B C : List (Formula × Nat)} (h : C.Perm (A ++ B)) : ((ds ++ [C]) ++ bs).flatten.Perm (ds ++ A :: B :: bs).flatten := by
 simp only [cT, bR, dF, aQ, aH]
 refine cF _ ?_
 rw [← aH]
 exact h.append_right _
theorem P8 (h : SWO (ow c)) (O : Dc f c G) (s : Nat) (Q : 0 < s) (R : s ≤ 1000000) (N : Nat) (hN : N ≤ 400000) : ∀ (k : Nat) (bs ds : List (List (Formula × Nat))) (n : Nat) (a b : Int), bs.length ≤ k → k < n → xX c 0 (ds ++ bs) → (∀ x ∈ (ds ++ bs).flatten, G x.1) → (ds ++ bs).flatten.length = N → WB s bs → (∀ A ∈ ds, A.length = 2 * s) →
  a = (ds.flatten.length : Int) → b = ((ds.flatten.length + 2 * s : Nat) : Int) →
  ∃ es r, nx (N : Int) (s : Int) f n (fm (ds ++ bs)) a b = some (fm (es ++ r), (es.flatten.length : Int)) ∧ xX c 0 (es ++ r) ∧ (es ++ r).flatten.Perm (ds ++ bs).flatten ∧ WB s r ∧ r.flatten.length < 2 * s ∧ (∀ A ∈ es, A.length = 2 * s) := by
 intro k
 induction k with
 | zero =>
  intro bs ds n a b hk P hO q j t l ha L
  obtain ⟨n, rfl⟩ := aM (by omega : n ≠ 0)
  obtain rfl := aR (Nat.le_zero.1 hk)
  simp only [aQ] at j
  rw [nx]
  have : ¬ (b ≤ (N : Int)) := by omega
  simp only [this, bV, aB, aG]
  exact ⟨ds, [], by rw [ha], hO, .refl _, trivial, by simp only [dF, bU]; omega, l⟩
 | succ k ih =>
  intro bs ds n a b hk P hO q j t l ha L
  obtain ⟨n, rfl⟩ := aM (by omega : n ≠ 0)
  rw [nx]
  by_cases hle : b ≤ (N : Int)
  ·simp only [hle, bT, aJ]
   have d := j
   rw [cT, aD] at d
   cases bs with
   | nil => simp only [dF, bU] at d; omega
   | cons A bs =>
    obtain ⟨hA, B, i, rfl, m, I, u⟩ := WB.two Q t (by omega)
    have J : B.length = s := by
     rcases m with m | rfl
     ·exact m
     ·simp only [bR, dF, aQ, aD] at d; omega
    have Y : IntKind.i64.wrap (a + (s : Int)) = ((ds.flatten.length + A.length : Nat) : Int) := ou _ (by omega) (by omega)
    obtain ⟨C, U, W, v⟩ := JU h O hO q (by rw [si]; omega) (by omega) (by omega) a _ b ha Y (by omega)
    rw [U, aA]
    have p := v.length_eq
    simp only [aD] at p
    have Z : IntKind.i64.wrap (2 * (s : Int)) = ((2 * s : Nat) : Int) := ou _ (by omega) (by omega)
    have M : (ds ++ [C]).flatten.length = ds.flatten.length + 2 * s := by rw [NY]; omega
    have w3 : IntKind.i64.wrap (b + ((2 * s : Nat) : Int)) = (((ds ++ [C]).flatten.length + 2 * s : Nat) : Int) := ou _ (by omega) (by omega)
    have hp := Jo (ds := ds) (bs := i) v
    rw [Z, w3]
    obtain ⟨es, r, w, y, z, D, E, F⟩ := ih i (ds ++ [C]) n b _ (by simp at hk; omega) (by omega) W (fun x T => q x (hp.mem_iff.1 T)) (by rw [hp.length_eq, j]) u (fun X g => by
     rcases aN.1 g with g | g
     ·exact l X g
     ·simp at g; rw [g]; omega) (by rw [M]; omega) rfl
    exact ⟨es, r, w, y, z.trans hp, D, E, F⟩
  ·simp only [hle, bV, aB, aG]
   refine ⟨ds, bs, by rw [ha], hO, .refl _, t, ?_, l⟩
   rw [cT, aD] at j
   omega
theorem WB.G4 {t : Nat} : ∀ {es : List (List (Formula × Nat))} {C : List (Formula × Nat)}, (∀ A ∈ es, A.length = t) → C.length ≤ t → WB t (es ++ [C])
 | [], C, _, a => ⟨a, fun h => absurd rfl h, trivial⟩
 | E :: es, C, h, a => ⟨by rw [h E (by simp)]; omega, fun _ => h E (by simp), WB.G4 (fun A b => h A (by simp [b])) a⟩
theorem MU {s : Nat} {r : List (List (Formula × Nat))} {o : Nat} (b : WB s r) (d : r.flatten.length ≤ s) (hO : xX c o r) : pp (ow c) r.flatten ∧ ∀ x ∈ r.flatten, o ≤ x.2 ∧ x.2 < o + r.flatten.length := by
 cases r with
 | nil => exact ⟨.nil, fun x g => by cases g⟩
 | cons A r =>
  have : r.flatten = [] := by
   by_cases a : r = []
   ·rw [a]; rfl
   ·have := b.2.1 a
    rw [bR, aD] at d
    exact aR (by omega)
  rw [bR, this, aQ]
  exact ⟨hO.1, hO.2.1⟩
theorem ON (h : SWO (ow c)) (R : Dc f c G) (N : Nat) (hN : N ≤ 400000) : ∀ (k s : Nat) (bs : List (List (Formula × Nat))) (n : Nat), N - s ≤ k → k < n → 0 < s → s ≤ 1000000 → xX c 0 bs → (∀ x ∈ bs.flatten, G x.1) → bs.flatten.length = N → WB s bs →
  ∃ u, nf (N : Int) f n (fm bs) (s : Int) = some (u.map (·.1)) ∧ pp (ow c) u ∧ u.Perm bs.flatten := by
 intro k
 induction k with
 | zero =>
  intro s bs n hk hn E m hO l i b
  obtain ⟨n, rfl⟩ := aM (by omega : n ≠ 0)
  rw [nf]
  have : ¬ ((s : Int) < (N : Int)) := by omega
  simp only [this, bV, aB, aG]
  refine ⟨bs.flatten, rfl, ?_, .refl _⟩
  cases bs with
  | nil => exact .nil
  | cons A bs =>
   have : bs.flatten = [] := by
    by_cases d : bs = []
    ·rw [d]; rfl
    ·have := b.2.1 d
     rw [bR, aD] at i
     exact aR (by omega)
   rw [bR, this, aQ]
   exact hO.1
 | succ k ih =>
  intro s bs n hk hn E m hO l i b
  by_cases a8 : s < N
  ·obtain ⟨n, rfl⟩ := aM (by omega : n ≠ 0)
   rw [nf]
   have : ((s : Int) < (N : Int)) := by omega
   simp only [this, bT, aJ]
   have w1 : IntKind.i64.wrap (2 * (s : Int)) = ((2 * s : Nat) : Int) := ou _ (by omega) (by omega)
   have w0 : IntKind.i64.wrap ((s : Int) * 2) = ((2 * s : Nat) : Int) := ou _ (by omega) (by omega)
   have a7 : bs.length ≤ 2000000 := by
    have : ∀ {bs : List (List (Formula × Nat))}, WB s bs → bs.length ≤ bs.flatten.length + 1 := by
     intro bs
     induction bs with
     | nil => intro _; simp
     | cons A bs F =>
      intro b
      by_cases d : bs = []
      ·subst d; simp
      ·have := b.2.1 d
       have := F b.2.2
       simp only [aI, bR, aD]
       omega
    have := this b
    omega
   obtain ⟨es, r, L, M, a, O, P, Q⟩ := P8 h R s E m N hN bs.length bs [] lE 0 ((2 * s : Nat) : Int) (aO _) (by rw [ni]; omega) (by simpa using hO) (by simpa using l) (by simpa using i) b (by simp) rfl (by simp)
   simp only [aU] at L a
   rw [w1, L, aA, w0]
   have j := a.length_eq
   rw [i, cT, aD] at j
   have w2 : IntKind.i64.wrap ((es.flatten.length : Int) + (s : Int)) = ((es.flatten.length + s : Nat) : Int) := ou _ (by omega) (by omega)
   simp only [w2]
   by_cases hm : es.flatten.length + s < N
   ·have : (((es.flatten.length + s : Nat) : Int) < (N : Int)) := by omega
    simp only [this, bT, aJ, pU]
    cases r with
    | nil => simp only [dF, bU] at j; omega
    | cons A r =>
     obtain ⟨hA, B, W, rfl, q, a1, a6⟩ := WB.two E O (by omega)
     have D : W = [] := by
      rcases q with q | q
      ·by_cases hr : W = []
       ·exact hr
       ·simp only [bR, aD] at P; omega
      ·exact q
     subst D
     simp only [bR, dF, aQ, aD] at j P
     obtain ⟨C, q1, T, U⟩ := JU h R M (fun x p => l x (a.mem_iff.1 p)) (by rw [si, a.length_eq]; omega) (by omega) (by omega) (es.flatten.length : Int) ((es.flatten.length + s : Nat) : Int) (N : Int) rfl (by omega) (by omega)
     rw [q1, aA]
     have v := U.length_eq
     simp only [aD] at v
     have hp := (Jo (ds := es) (bs := []) U).trans a
     simp only [aQ] at T hp ⊢
     obtain ⟨u, I, J, t⟩ := ih (2 * s) (es ++ [C]) n (by omega) (by omega) (by omega) (by omega) T (fun x p => l x (hp.mem_iff.1 p)) (by rw [hp.length_eq, i]) (WB.G4 Q (by omega))
     exact ⟨u, I, J, t.trans hp⟩
   ·have : ¬ (((es.flatten.length + s : Nat) : Int) < (N : Int)) := by omega
    simp only [this, bV, aB, aG, aA]
    obtain ⟨w, y⟩ := xX.append.1 M
    obtain ⟨Y, Z⟩ := MU O (by omega) y
    have z : fm (es ++ r) = fm (es ++ [r.flatten]) := by simp [fm]
    have g : (es ++ [r.flatten]).flatten = (es ++ r).flatten := by simp
    rw [z]
    obtain ⟨u, I, J, t⟩ := ih (2 * s) (es ++ [r.flatten]) n (by omega) (by omega) (by omega) (by omega) (xX.append.2 ⟨w, Y, Z, trivial⟩) (fun x p => l x (a.mem_iff.1 (by rw [← g]; exact p))) (by rw [g, a.length_eq, i]) (WB.G4 Q (by omega))
    exact ⟨u, I, J, by rw [g] at t; exact t.trans a⟩
  ·obtain ⟨n, rfl⟩ := aM (by omega : n ≠ 0)
   rw [nf]
   have : ¬ ((s : Int) < (N : Int)) := by omega
   simp only [this, bV, aB, aG]
   refine ⟨bs.flatten, rfl, ?_, .refl _⟩
   cases bs with
   | nil => exact .nil
   | cons A bs =>
    have : bs.flatten = [] := by
     by_cases d : bs = []
     ·rw [d]; rfl
     ·have := b.2.1 d
      rw [bR, aD] at i
      exact aR (by omega)
    rw [bR, this, aQ]
    exact hO.1
theorem HO : ∀ (l : List Formula) (o : Nat), (l.zipIdx o).Pairwise (fun x y => x.2 < y.2)
 | [], o => by simp
 | x :: l, o => by
  rw [kf, cK]
  refine ⟨fun y d => ?_, HO l (o + 1)⟩
  obtain ⟨a, b⟩ := y
  have := List.le_snd_of_mem_zipIdx d
  simp only at this ⊢; omega
theorem KP (l : List Formula) (o : Nat) : ∀ x ∈ l.zipIdx o, o ≤ x.2 ∧ x.2 < o + l.length := by
 rintro ⟨a, b⟩ d
 have h1 := List.le_snd_of_mem_zipIdx d
 have g := List.snd_lt_add_of_mem_zipIdx d
 simp only at h1 g ⊢; omega
theorem Nc (h : SWO (ow c)) (k : Dc f c G) (N : Nat) (s : N ≤ 300000) (R : List Formula) (ds : List (List (Formula × Nat))) (n : Nat) (a b : Int) (y : 0 < n) (hO : xX c 0 ds) (m : ∀ A ∈ ds, A.length = 20) (p : ∀ x ∈ ds.flatten, G x.1) (j : ∀ x ∈ R, G x) (w : ds.flatten.length + R.length = N) (q : R.length < 20) (ha : a = (ds.flatten.length : Int)) (t : b = ((ds.flatten.length + 20 : Nat) : Int)) :
  ∃ u, ng (N : Int) f n (fm ds ++ R) a b = some (u.map (·.1)) ∧ pp (ow c) u ∧ u.Perm (ds.flatten ++ R.zipIdx ds.flatten.length) := by
 obtain ⟨n, rfl⟩ := aM (by omega : n ≠ 0)
 rw [ng]
 have hle : ¬ (b ≤ (N : Int)) := by omega
 simp only [hle, bV, aB, aG, pU]
 obtain ⟨u, l, r, g⟩ := Lp h k (fm ds) [] (R.zipIdx ds.flatten.length) a (N : Int) (HO _ _) (fun x d => j x.1 (Fz d)) (by simp only [aD, si, dE, fE, bU]; omega) (by rw [si]; exact ha) (by rw [si, fE]; omega)
 rw [List.zipIdx_map_fst, aQ, aQ] at l
 have i := g.length_eq
 rw [fE] at i
 have e : fm ds ++ u.map (·.1) = fm (ds ++ [u]) := by simp [fm]
 have hp : (ds ++ [u]).flatten.Perm (ds.flatten ++ R.zipIdx ds.flatten.length) := by
  rw [cT]
  refine cF _ ?_
  simpa using g
 rw [l, aA, e]
 obtain ⟨v, v1, v2, v3⟩ := ON h k N (by omega) N 20 (ds ++ [u]) lE (by omega) (by rw [ni]; omega) (by omega) (by omega) (xX.append.2 ⟨hO, r, fun x d => by have := KP R ds.flatten.length x (g.mem_iff.1 d); omega, trivial⟩) (fun x d => by
  rw [cT, aN] at d
  rcases d with d | d
  ·exact p x d
  ·simp only [bR, dF, aQ] at d
   exact j x.1 (Fz (g.mem_iff.1 d))) (by rw [hp.length_eq, aD, fE]; omega) (WB.G4 m (by omega))
 exact ⟨v, v1, v2, v3.trans hp⟩
theorem OZ (h : SWO (ow c)) (w : Dc f c G) (N : Nat) (D : N ≤ 300000) : ∀ (k : Nat) (R : List Formula) (ds : List (List (Formula × Nat))) (n : Nat) (a b : Int), R.length ≤ k → k < n → xX c 0 ds → (∀ A ∈ ds, A.length = 20) → (∀ x ∈ ds.flatten, G x.1) → (∀ x ∈ R, G x) → ds.flatten.length + R.length = N →
  a = (ds.flatten.length : Int) → b = ((ds.flatten.length + 20 : Nat) : Int) →
  ∃ u, ng (N : Int) f n (fm ds ++ R) a b = some (u.map (·.1)) ∧ pp (ow c) u ∧ u.Perm (ds.flatten ++ R.zipIdx ds.flatten.length) := by
 intro k
 induction k with
 | zero =>
  intro R ds n a b hk E hO p q j r ha t
  obtain rfl := aR (Nat.le_zero.1 hk)
  exact Nc h w N D [] ds n a b E hO p q j r (by simp) ha t
 | succ k ih =>
  intro R ds n a b hk E hO p q j r ha t
  by_cases z : R.length < 20
  ·exact Nc h w N D R ds n a b (by omega) hO p q j r z ha t
  obtain ⟨n, rfl⟩ := aM (by omega : n ≠ 0)
  obtain ⟨R1, R2, rfl, m⟩ := xg (l := R) (n := 20) (by omega)
  rw [aD] at r hk
  rw [ng]
  have hle : b ≤ (N : Int) := by omega
  simp only [hle, bT, aJ]
  obtain ⟨u, F, I, s⟩ := Lp h w (fm ds) R2 (R1.zipIdx ds.flatten.length) a b (HO _ _) (fun x d => j x.1 (by simp [Fz d])) (by simp only [aD, si, dE, fE, bU]; omega) (by rw [si]; exact ha) (by rw [si, fE]; omega)
  rw [List.zipIdx_map_fst] at F
  rw [F, aA]
  have g := s.length_eq
  rw [fE, m] at g
  have y : (ds ++ [u]).flatten.length = ds.flatten.length + 20 := by rw [NY, g]
  have J : IntKind.i64.wrap (b + 20) = (((ds ++ [u]).flatten.length + 20 : Nat) : Int) := ou _ (by omega) (by omega)
  have e : fm ds ++ (u.map (·.1) ++ R2) = fm (ds ++ [u]) ++ R2 := by simp [fm]
  rw [e, J]
  obtain ⟨v, v1, v2, v3⟩ := ih R2 (ds ++ [u]) n b _ (by omega) (by omega) (xX.append.2 ⟨hO, I, fun x d => by have := KP R1 ds.flatten.length x (s.mem_iff.1 d); omega, trivial⟩) (fun A i => by
   rcases aN.1 i with i | i
   ·exact p A i
   ·simp at i; rw [i]; exact g) (fun x d => by
   rw [cT, aN] at d
   rcases d with d | d
   ·exact q x d
   ·simp only [bR, dF, aQ] at d
    exact j x.1 (by simp [Fz (s.mem_iff.1 d)])) (fun x d => j x (by simp [d])) (by omega) (by omega) rfl
  refine ⟨v, v1, v2, v3.trans ?_⟩
  rw [y, cT, List.zipIdx_append, m, aH]
  refine cF _ ?_
  simp only [bR, dF, aQ]
  exact s.append_right _
theorem LU (h : SWO (ow c)) (g : Dc f c G) (l : List Formula) (d : ∀ x ∈ l, G x) (i : l.length ≤ 300000) : pI l f = some (J1 (ow c) l) := by
 unfold pI rW
 obtain ⟨u, a, j, b⟩ := OZ h g l.length i l.length l [] lE 0 20 (aO _) (by rw [ni]; omega) trivial (by simp) (by simp) d (by simp) rfl rfl
 simp only [fm, dF, gD, aU, bU] at a b
 rw [a, aA, QD h j b]
end
end Go.Proofs.YtmlncblocfcmiaaGreat
namespace Go.Proofs.YtmlncblocfcmiaaGreat
open Go.RowKit
theorem Ja {P : Formula → Prop} (h : ∀ f, (∀ k ∈ f.Kids, P k) → P f) : ∀ f, P f := by
 intro f
 refine Formula.rec (motive_1 := P) (motive_2 := fun ks => ∀ k ∈ ks, P k) ?_ ?_ ?_ f
 ·intro o k r ks ih; exact h _ ih
 ·intro k hk; cases hk
 ·intro k ks h1 b x a
  rcases aK.1 a with rfl | a
  ·exact h1
  ·exact b x a
mutual
def lF : Formula → Nat
 | ⟨_, _, _, ks⟩ => 1 + nodesL ks
def nodesL : List Formula → Nat
 | [] => 0
 | k :: ks => lF k + nodesL ks
end
mutual
def oK : Formula → Nat
 | ⟨_, _, _, ks⟩ => deepL ks + 1
def deepL : List Formula → Nat
 | [] => 0
 | k :: ks => max (oK k) (deepL ks)
end
theorem oV (f : Formula) : lF f = 1 + nodesL f.Kids := by cases f; rw [lF]
theorem nI (f : Formula) : oK f = deepL f.Kids + 1 := by cases f; rw [oK]
theorem ud : ∀ {ks : List Formula} {k : Formula}, k ∈ ks → lF k ≤ nodesL ks
 | x :: ks, k, h => by
  rw [nodesL]
  rcases aK.1 h with rfl | h
  ·omega
  ·have := ud h; omega
theorem rN : ∀ {ks : List Formula} {k : Formula}, k ∈ ks → oK k ≤ deepL ks
 | x :: ks, k, h => by
  rw [deepL]
  rcases aK.1 h with rfl | h
  ·omega
  ·have := rN h; omega
theorem wL : ∀ f : Formula, oK f ≤ lF f := by
 refine Ja fun f ih => ?_
 rw [nI, oV]
 have : ∀ ks : List Formula, (∀ k ∈ ks, oK k ≤ lF k) → deepL ks ≤ nodesL ks := by
  intro ks
  induction ks with
  | nil => intro _; rw [deepL]; omega
  | cons k ks a =>
   intro h
   have := a (fun x b => h x (by simp [b]))
   have := h k (by simp)
   rw [deepL, nodesL]; omega
 have := this f.Kids ih
 omega
theorem qJ : ∀ ks : List Formula, ks.length ≤ nodesL ks
 | [] => by rw [nodesL]; simp
 | k :: ks => by have := qJ ks; have := oV k; rw [nodesL, aI]; omega
theorem MQ (a : Nat) (hm : a ≤ 4096) (rec : Formula → Int → Option (Int × Int)) : ∀ (ks : List Formula), (∀ k ∈ ks, ∀ q : Nat, q ≤ 4096 → ∃ n d : Nat, rec k (q : Int) = some ((n : Int), (d : Int)) ∧ 1 ≤ n ∧ n ≤ lF k ∧ d ≤ lF k ∧ (lF k ≤ q → n = lF k ∧ d = oK k) ∧ (q < lF k → q < n)) → ∀ x y : Nat, x + nodesL ks ≤ 100000000 →
  ∃ n d : Nat, qh (a : Int) rec ks (x : Int) (y : Int) = some ((n : Int), (d : Int)) ∧ x ≤ n ∧ n ≤ x + nodesL ks ∧ d ≤ max y (nodesL ks) ∧ (x + nodesL ks ≤ a → n = x + nodesL ks ∧ d = max y (deepL ks)) ∧ (a < x + nodesL ks → a < n)
 | [], _, x, y, _ => by
  rw [qh, nodesL, deepL]
  exact ⟨x, y, rfl, by omega, by omega, by omega, fun _ => ⟨by omega, by omega⟩, fun h => by omega⟩
 | k :: ks, g, x, y, p => by
  rw [nodesL] at p ⊢
  rw [qh, deepL]
  by_cases i : (x : Int) > (a : Int)
  ·simp only [i, bT, aJ]
   exact ⟨x, y, rfl, by omega, by omega, by omega, fun _ => by omega, fun h => by omega⟩
  ·simp only [i, bV, aB, aG]
   have s : IntKind.i64.wrap ((a : Int) - (x : Int)) = ((a - x : Nat) : Int) := by rw [lJ (by omega) (by omega)]; omega
   obtain ⟨m, d, e, h1, v, w, b, l⟩ := g k (by simp) (a - x) (by omega)
   rw [s, e, aA]
   have t : IntKind.i64.wrap ((x : Int) + (m : Int)) = ((x + m : Nat) : Int) := by rw [lJ (by omega) (by omega)]; omega
   have u : (if (d : Int) > (y : Int) then (d : Int) else (y : Int)) = ((max y d : Nat) : Int) := by split <;> omega
   simp only [t, u]
   obtain ⟨n, j, e', g1, g2, g3, g4, g5⟩ := MQ a hm rec ks (fun z r => g z (by simp [r])) (x + m) (max y d) (by omega)
   refine ⟨n, j, e', by omega, by omega, by omega, fun h => ?_, fun h => ?_⟩
   ·obtain ⟨rfl, rfl⟩ := b (by omega)
    obtain ⟨rfl, rfl⟩ := g4 (by omega)
    exact ⟨by omega, by omega⟩
   ·by_cases hk : a - x < lF k
    ·have := l hk; omega
    ·obtain ⟨rfl, _⟩ := b (by omega)
     exact g5 (by omega)
theorem O3 : ∀ (n : Nat) (f : Formula), oK f ≤ n → lF f ≤ 50000000 → ∀ q : Nat, q ≤ 4096 → ∃ m d : Nat, ph n f (q : Int) = some ((m : Int), (d : Int)) ∧ 1 ≤ m ∧ m ≤ lF f ∧ d ≤ lF f ∧ (lF f ≤ q → m = lF f ∧ d = oK f) ∧ (q < lF f → q < m) := by
 intro n
 induction n with
 | zero => intro f h; rw [nI] at h; omega
 | succ n ih =>
  intro f i s q a
  rw [nI] at i
  have j := oV f
  rw [ph]
  unfold vY
  obtain ⟨m, d, e, h1, p, r, b, g⟩ := MQ q a (ph n) f.Kids (fun k hk q a => ih k (by have := rN hk; omega) (by have := ud hk; omega) q a) 1 0 (by omega)
  have e' : qh (q : Int) (ph n) f.Kids 1 0 = some ((m : Int), (d : Int)) := e
  rw [e', aA]
  have l : IntKind.i64.wrap ((d : Int) + 1) = ((d + 1 : Nat) : Int) := by rw [lJ (by omega) (by omega)]; omega
  simp only [l]
  refine ⟨m, d + 1, rfl, h1, by omega, by omega, fun h => ?_, fun h => g (by omega)⟩
  obtain ⟨rfl, rfl⟩ := b (by omega)
  rw [nI]
  exact ⟨by omega, by omega⟩
theorem Qw (f : Formula) (g : lF f ≤ 50000000) : xI f = some (if lF f ≤ 4096 then ((lF f : Int), (oK f : Int)) else (0, 0)) := by
 unfold xI
 have := wL f
 obtain ⟨m, d, e, h1, i, j, a, b⟩ := O3 lE f (by rw [ni]; omega) g 4096 (aO _)
 have e' : ph lE f 4096 = some ((m : Int), (d : Int)) := e
 rw [e', aA]
 by_cases h : lF f ≤ 4096
 ·obtain ⟨rfl, rfl⟩ := a h
  have : ¬ ((lF f : Int) > 4096) := by omega
  simp [this, h]
 ·have := b (by omega)
  have : ((m : Int) > 4096) := by omega
  simp [this, h]
def qL : kI := ⟨zS, zS⟩
def D2 (f : Formula) : Bool := if f.Op = 1 then nj f.kI && decide (f.Kids.length = 0) && decide (f.K = 0) else if f.Op = 2 ∨ f.Op = 3 then lu f.kI qL && decide (f.K = 0) else decide (f.Op = 4) && lu f.kI qL && decide (0 ≤ f.K) && decide (f.K ≤ (f.Kids.length : Int)) && decide (1 ≤ f.Kids.length)
theorem QJ (f : Formula) : xH f = some (D2 f) := by
 unfold xH D2
 simp only [zi, aA, pU]
 by_cases h1 : f.Op = 1
 ·simp only [h1, aV, aJ]
  cases p : nj f.kI
  ·simp
  ·by_cases k : f.Kids.length = 0
   ·have : f.Kids = [] := aR k
    by_cases hk : f.K = 0 <;> simp [this, hk]
   ·have : ((f.Kids.length : Int) == 0) = false := by simp; intro h; exact k (by simp [h])
    simp only [aJ, aA, this, aB, aG, k, bV, Bool.and_false, iC]
 ·have m : (f.Op == 1) = false := by simpa using h1
  simp only [m, aB, aG, h1]
  by_cases d : f.Op = 2 ∨ f.Op = 3
  ·have i : (if f.Op == 2 then some (f.Op == 2) else some (f.Op == 3)) = some true := by
    rcases d with h | h <;> simp [h]
   simp only [i, aA, aJ, d]
   cases g : lu f.kI ⟨zS, zS⟩ <;> by_cases hk : f.K = 0 <;> simp [qL, g, hk]
  ·have i : (if f.Op == 2 then some (f.Op == 2) else some (f.Op == 3)) = some false := by
    have a : f.Op ≠ 2 := fun h => d (.inl h)
    have b : f.Op ≠ 3 := fun h => d (.inr h)
    simp [a, b]
   simp only [i, aA, aB, aG, d]
   by_cases j : f.Op = 4
   ·simp only [j, aV, aJ, aA, bT, eJ]
    cases g : lu f.kI ⟨zS, zS⟩
    ·simp [qL, g]
    ·by_cases c1 : 0 ≤ f.K <;> by_cases c2 : f.K ≤ (f.Kids.length : Int) <;> by_cases l : 1 ≤ f.Kids.length <;> simp [qL, g, c1, c2, l] <;> omega
   ·have n : (f.Op == 4) = false := by simpa using j
    simp [n, j]
mutual
def tZ : Formula → Bool
 | ⟨o, n, r, ks⟩ => D2 ⟨o, n, r, ks⟩ && decide (ks.length ≤ 8) && wellL ks
def wellL : List Formula → Bool
 | [] => true
 | k :: ks => tZ k && wellL ks
end
theorem Gj (f : Formula) : tZ f = (D2 f && decide (f.Kids.length ≤ 8) && wellL f.Kids) := by cases f; rw [tZ]
theorem E1 : ∀ ks : List Formula, wellL ks = ks.all tZ
 | [] => rfl
 | k :: ks => by rw [wellL, E1 ks]; rfl
theorem JG (f : Formula → Option Bool) : ∀ (l : List Formula) (i : Nat), ol f l i = zQ f l i
 | [], i => by rw [ol]; rfl
 | x :: l, i => by
  rw [ol, zQ]
  cases f x with
  | none => rfl
  | some b =>
   simp only [aA]
   rw [JG f l (i + 1)]
theorem FJ (f : Formula → Option Bool) (p : Formula → Bool) (l : List Formula) (h : ∀ x ∈ l, f x = some (p x)) : oU l f = some (l.any p) := by
 unfold oU tL
 rw [JG]
 rcases DW f p l 0 h with ⟨e, h1⟩ | ⟨A, x, B, rfl, h1, a, e⟩
 ·rw [e, aA]
  have : l.any p = false := by rw [List.any_eq_false]; intro x b; rw [h1 x b]; simp
  rw [this]; rfl
 ·rw [e, aA]
  have : (A ++ x :: B).any p = true := by simp [a]
  rw [this]
  congr 1
theorem Oq : ∀ (n : Nat) (f : Formula), oK f ≤ n → sd n f = some (tZ f) := by
 intro n
 induction n with
 | zero => intro f h; rw [nI] at h; omega
 | succ n ih =>
  intro f h
  rw [nI] at h
  rw [sd]
  unfold wg
  rw [QJ, aA, Gj, FJ _ (fun k => !tZ k) f.Kids (fun k hk => by unfold uY; rw [ih k (by have := rN hk; omega)]; rfl)]
  rw [E1]
  have e : (!(f.Kids.any fun k => !tZ k)) = f.Kids.all tZ := by rw [List.all_eq_not_any_not]
  cases D2 f
  ·rfl
  ·by_cases a : f.Kids.length ≤ 8
   ·have : ((f.Kids.length : Int) ≤ 8) := by omega
    simp [a, this, e]
   ·have : ¬ ((f.Kids.length : Int) ≤ 8) := by omega
    simp [a, this]
def oD (f : Formula) : Bool := decide (lF f ≤ 64) && decide (oK f ≤ 6) && tZ f
theorem Ee (f : Formula) (b : lF f ≤ 50000000) : sb f = some (oD f) := by
 unfold sb oD
 have d := wL f
 rw [Qw f b, aA, Oq lE f (by rw [ni]; omega)]
 have h1 := oV f
 by_cases h : lF f ≤ 4096
 ·simp only [h, aJ]
  have a : ((lF f : Int) ≥ 1) := by omega
  simp only [a, bT, aJ, aA, pU]
  by_cases c1 : lF f ≤ 64 <;> by_cases c2 : oK f ≤ 6
  ·have d1 : ((lF f : Int) ≤ 64) := by omega
   have d2 : ((oK f : Int) ≤ 6) := by omega
   simp [c1, c2, d1, d2]
  ·have d1 : ((lF f : Int) ≤ 64) := by omega
   have d2 : ¬ ((oK f : Int) ≤ 6) := by omega
   simp [c1, c2, d1, d2]
  ·have d1 : ¬ ((lF f : Int) ≤ 64) := by omega
   simp [c1, d1]
  ·have d1 : ¬ ((lF f : Int) ≤ 64) := by omega
   simp [c1, d1]
 ·simp only [h, aG]
  have : ¬ lF f ≤ 64 := by omega
  simp [this]
theorem Formula.ext' {a b : Formula} (h1 : a.Op = b.Op) (d : a.K = b.K) (g : a.kI = b.kI) (h : a.Kids = b.Kids) : a = b := by
 cases a; cases b; simp only at h1 d g h; subst h1 d g h; rfl
theorem NT (g : Formula × Formula → Option Bool) : ∀ (l m : List Formula), l.length = m.length → (∀ x ∈ l, ∀ y, ∃ b, g (x, y) = some b ∧ (b = true ↔ x = y)) → ∀ (A : List Formula),
  ∃ b, mu (A ++ m) g l A.length = some b ∧ (b = true ↔ l = m)
 | [], m, d, _, A => by
  obtain rfl := aR d.symm
  exact ⟨true, rfl, by simp⟩
 | x :: l, [], d, _, A => by simp at d
 | x :: l, y :: m, d, i, A => by
  rw [mu]
  obtain ⟨b, e, h⟩ := i x (by simp) y
  have i1 : mF (A ++ y :: m) (A.length : Int) = some y := nP _ _ _ _ rfl
  rw [i1, aA, e, aA]
  cases b with
  | false =>
   refine ⟨false, rfl, ?_⟩
   have : x ≠ y := fun a => by have := h.2 a; simp at this
   simp [this]
  | true =>
   have a := h.1 rfl
   obtain ⟨b, j, p⟩ := NT g l m (by simpa using d) (fun z q => i z (by simp [q])) (A ++ [y])
   simp only [cA, aB, aG]
   have k : A ++ y :: m = (A ++ [y]) ++ m := by simp
   have n : A.length + 1 = (A ++ [y]).length := by simp
   rw [k, n, j]
   exact ⟨b, rfl, by rw [p]; simp [a]⟩
theorem P7 : ∀ (n : Nat) (f : Formula), oK f ≤ n → ∀ g, ∃ b, oZ n f g = some b ∧ (b = true ↔ f = g) := by
 intro n
 induction n with
 | zero => intro f h; rw [nI] at h; omega
 | succ n ih =>
  intro f h g
  rw [nI] at h
  rw [oZ]
  unfold wM
  by_cases h1 : f.Op = g.Op
  ·by_cases a : f.K = g.K
   ·by_cases d : f.kI = g.kI
    ·have j : lu f.kI g.kI = true := lx.2 d
     simp only [h1, a, j, aV, aJ, aA]
     unfold nG
     by_cases i : f.Kids.length = g.Kids.length
     ·have : ((f.Kids.length : Int) != (g.Kids.length : Int)) = false := by simp [i]
      simp only [this, aB, aG]
      obtain ⟨b, e, m⟩ := NT (fun x => oZ n x.1 x.2) f.Kids g.Kids i (fun x p y => ih x (by have := rN p; omega) y) []
      simp only [aU, bU] at e
      rw [e]
      refine ⟨b, by simp, m.trans ⟨fun hk => Formula.ext' h1 a d hk, fun hk => by rw [hk]⟩⟩
     ·have : ((f.Kids.length : Int) != (g.Kids.length : Int)) = true := by simp; omega
      simp only [this, aJ]
      exact ⟨false, rfl, by simp; intro hk; rw [hk] at i; exact i rfl⟩
    ·have j : lu f.kI g.kI = false := by rw [← eZ, lx]; exact d
     simp only [h1, a, j, aV, aJ, aA, aB, aG]
     exact ⟨false, rfl, by simp; intro hk; rw [hk] at d; exact d rfl⟩
   ·have l : (f.K == g.K) = false := by simpa using a
    simp only [h1, l, aV, aJ, aA, aB, aG]
    exact ⟨false, rfl, by simp; intro hk; rw [hk] at a; exact a rfl⟩
  ·have k : (f.Op == g.Op) = false := by simpa using h1
   simp only [k, aA, aB, aG]
   exact ⟨false, rfl, by simp; intro hk; rw [hk] at h1; exact h1 rfl⟩
end Go.Proofs.YtmlncblocfcmiaaGreat
namespace Go.Proofs.YtmlncblocfcmiaaGreat
open Go.RowKit
mutual
def zo : Formula → List Int
 | ⟨o, k, r, ks⟩ => o :: (if o = 1 then tq r else (if o = 4 then [k] else []) ++ ((ks.length : Int) :: bytesFL ks))
def bytesFL : List Formula → List Int
 | [] => []
 | k :: ks => zo k ++ bytesFL ks
end
theorem HX (f : Formula) : zo f = f.Op :: (if f.Op = 1 then tq f.kI else (if f.Op = 4 then [f.K] else []) ++ ((f.Kids.length : Int) :: bytesFL f.Kids)) := by cases f; rw [zo]
theorem yc {f : Formula} (h : tZ f = true) : f.Kids.length ≤ 8 ∧ wellL f.Kids = true ∧ ((f.Op = 1 ∧ nj f.kI = true ∧ f.Kids = [] ∧ f.K = 0) ∨ ((f.Op = 2 ∨ f.Op = 3) ∧ f.kI = qL ∧ f.K = 0) ∨ (f.Op = 4 ∧ f.kI = qL ∧ 0 ≤ f.K ∧ f.K ≤ (f.Kids.length : Int) ∧ 1 ≤ f.Kids.length)) := by
 rw [Gj] at h
 simp only [aZ, bK] at h
 obtain ⟨⟨h1, a⟩, b⟩ := h
 refine ⟨a, b, ?_⟩
 unfold D2 at h1
 split at h1
 ·rename_i c
  simp only [aZ, bK] at h1
  exact .inl ⟨c, h1.1.1, aR h1.1.2, h1.2⟩
 ·split at h1
  ·rename_i c
   simp only [aZ, bK, lx] at h1
   exact .inr (.inl ⟨c, h1.1, h1.2⟩)
  ·simp only [aZ, bK, lx] at h1
   exact .inr (.inr ⟨h1.1.1.1.1, h1.1.1.1.2, h1.1.1.2, h1.1.2, h1.2⟩)
theorem M6 : ∀ (n : Nat) (f : Formula), oK f ≤ n → tZ f = true → ∀ l : List Int, l.length + 40 * lF f ≤ 8000 → qK n l f = some (l ++ zo f) ∧ (zo f).length ≤ 40 * lF f := by
 intro n
 induction n with
 | zero => intro f h; rw [nI] at h; omega
 | succ n ih =>
  intro f t hw l r
  rw [nI] at t
  have u := oV f
  obtain ⟨h1, q, m⟩ := yc hw
  rw [qK]
  unfold wm
  have d : 0 ≤ f.Op ∧ f.Op < 128 := by rcases m with h | h | h <;> omega
  rw [yQ d.1 d.2 (by omega), aA, HX]
  have key : ∀ (ks : List Formula), (∀ k ∈ ks, k ∈ f.Kids) → wellL ks = true → ∀ l : List Int, l.length + 40 * nodesL ks ≤ 8000 → rC (qK n) ks l = some (l ++ bytesFL ks) ∧ (bytesFL ks).length ≤ 40 * nodesL ks := by
   intro ks
   induction ks with
   | nil => intro _ _ l _; rw [rC, bytesFL]; simp
   | cons k ks p =>
    intro hk a l r
    rw [wellL, aZ] at a
    rw [nodesL] at r
    obtain ⟨i, w⟩ := ih k (by have := rN (hk k (by simp)); omega) a.1 l (by omega)
    obtain ⟨b, j⟩ := p (fun z v => hk z (by simp [v])) a.2 (l ++ zo k) (by simp; omega)
    rw [rC, i, aA, b, bytesFL, nodesL]
    exact ⟨by simp, by simp; omega⟩
  have hlen : 0 ≤ (f.Kids.length : Int) ∧ (f.Kids.length : Int) < 128 := by omega
  by_cases c1 : f.Op = 1
  ·have s : nj f.kI = true := by rcases m with h | h | h; exact h.2.1; omega; omega
   have := pB s
   simp only [c1, aV, aJ]
   rw [J4 s (by simp; omega), aA]
   exact ⟨by simp, by simp; omega⟩
  ·have i : (f.Op == 1) = false := by simpa using c1
   simp only [i, aB, aG, c1]
   by_cases g : f.Op = 4
   ·have hk : 0 ≤ f.K ∧ f.K < 128 := by rcases m with h | h | h <;> omega
    simp only [g, aV, aJ]
    rw [yQ hk.1 hk.2 (by simp; omega)]
    simp only [aA]
    rw [yQ hlen.1 hlen.2 (by simp; omega)]
    simp only [aA]
    obtain ⟨b, j⟩ := key f.Kids (fun k hk => hk) q (l ++ [4] ++ [f.K] ++ [(f.Kids.length : Int)]) (by simp; omega)
    rw [b]
    exact ⟨by simp, by simp; omega⟩
   ·have j : (f.Op == 4) = false := by simpa using g
    simp only [j, aB, aG, g, aA]
    rw [yQ hlen.1 hlen.2 (by simp; omega)]
    simp only [aA]
    obtain ⟨b, x⟩ := key f.Kids (fun k hk => hk) q (l ++ [f.Op] ++ [(f.Kids.length : Int)]) (by simp; omega)
    rw [b]
    exact ⟨by simp, by simp; omega⟩
def yS (f : Formula) : List Int := if oD f then zo f else []
abbrev Gd (f : Formula) : Prop := lF f ≤ 50000000
theorem zX {f : Formula} (h : oD f = true) : lF f ≤ 64 ∧ oK f ≤ 6 ∧ tZ f = true := by
 unfold oD at h
 simp only [aZ, bK] at h
 exact ⟨h.1.1, h.1.2, h.2⟩
theorem QT (f : Formula) (d : Gd f) (l : List Int) (j : l.length ≤ 5000) : wT l f = some (oD f, l ++ yS f) ∧ (yS f).length ≤ 2560 := by
 unfold wT yS
 rw [Ee f d, aA]
 cases h : oD f
 ·simp
 ·obtain ⟨h1, i, b⟩ := zX h
  obtain ⟨a, g⟩ := M6 lE f (by rw [ni]; omega) b l (by omega)
  simp only [cA, aB, aG, a, aA, aJ]
  exact ⟨trivial, by omega⟩
theorem Ho (f : Formula) (b : Gd f) : tU f = some (yS f) := by
 unfold tU
 obtain ⟨a, d⟩ := QT f b [] (by simp)
 rw [a, aA, pU]
 unfold uz
 simp only [aU]
 rw [Q4 (by omega)]
 rfl
def BV (f g : Formula) : Int := yM (yS f) (yS g)
theorem MK (f g : Formula) (a : Gd f) (b : Gd g) : tR f g = some (BV f g) := by
 unfold tR xb
 rw [Ho f a, Ho g b]
 rfl
theorem Bn (f g : Formula) : ow BV f g = Op.bytesLess (uK (yS f)) (uK (yS g)) := by
 rw [bN]
 have h : ow BV f g = true ↔ BV f g < 0 := by unfold ow; exact decide_eq_true_iff
 exact h.trans (Dl _ _)
theorem HV : SWO (ow BV) where
 Pn x := by rw [Bn, vU]
 tr x y z h1 a := by rw [Bn] at *; exact yE _ _ _ h1 a
 M2 x y z h := by
  rw [Bn] at h
  rw [Bn, Bn]
  rcases Bz (uK (yS x)) (uK (yS y)) with h1 | h1 | h1
  ·exact .inl h1
  ·rw [h1] at h; exact .inr h
  ·exact .inr (yE _ _ _ h1 h)
def vG (l : List Formula) : List Formula := J1 (ow BV) l
theorem I1 (l : List Formula) (a : ∀ x ∈ l, Gd x) (b : l.length ≤ 300000) : vN l = some (vG l) := by
 unfold vN tj
 rw [nR (by simp; omega) (by simp; omega)]
 simp only [aA, aU, pU]
 exact LU HV (fun x y d g => MK x y d g) l a b
theorem MR {α : Type} (lt : α → α → Bool) (l : List α) (k : α) : (BS lt l k).Perm (l ++ [k]) := by
 unfold BS
 refine List.perm_middle.trans ((List.Perm.cons _ ?_).trans (iB k l).symm)
 have := List.filter_append_perm (fun x => !lt k x) l
 simpa using this
theorem MT {α : Type} (lt : α → α → Bool) (l : List α) : (J1 lt l).Perm l := by
 suffices H : ∀ (l a : List α), (l.foldl (BS lt) a).Perm (a ++ l) by have := H l []; rwa [aU] at this
 intro l
 induction l with
 | nil => intro a; simp
 | cons k l ih =>
  intro a
  rw [iR]
  refine (ih _).trans ?_
  have := (MR lt a k).append_right l
  simpa using this
theorem yV (l : List Formula) : (vG l).Perm l := MT _ l
noncomputable def ru (a b : Formula) : Bool := @decide (a = b) (Classical.propDecidable _)
theorem Bi {a b : Formula} : ru a b = true ↔ a = b := by unfold ru; simp
theorem Qh (a b : Formula) (h : Gd a) : oZ lE a b = some (ru a b) := by
 have := wL a
 obtain ⟨x, e, d⟩ := P7 lE a (by rw [ni]; omega) b
 rw [e]; congr 1
 rw [bN, d, Bi]
def SX : Formula := ⟨0, 0, ⟨zS, zS⟩, []⟩
theorem OG (f1 : Formula × Formula → Option Bool) (i : Int) : ∀ (n : Nat) (l : List Formula) (k j : Int), (∀ x ∈ l, ∀ y ∈ l, f1 (x, y) = some (ru x y)) → nH i f1 n l k j = BZ ru i n l k j
 | 0, l, k, j, _ => by rw [nH, BZ]
 | n + 1, l, k, j, h => by
  rw [nH, BZ]
  split
  ·cases g : mF (l.drop (Int.toNat i)) j with
   | none => rfl
   | some x =>
    cases p : mF (l.drop (Int.toNat i)) (IntKind.i64.wrap (j - 1)) with
    | none => rfl
    | some y =>
     have d : x ∈ l := List.mem_of_mem_drop (dK (lI g))
     have r : y ∈ l := List.mem_of_mem_drop (dK (lI p))
     simp only [aA, h x d y r]
     cases ru x y
     ·simp only [cX, aJ]
      cases s : mF l k with
      | none => rfl
      | some z =>
       simp only [aA]
       refine OG f1 i n _ _ _ (fun a ha b q => ?_)
       have m : ∀ a ∈ l.set (Int.toNat k) x, a ∈ l := fun a ha => by
        rcases List.mem_or_eq_of_mem_set ha with ha | rfl
        ·exact ha
        ·exact d
       exact h a (m a ha) b (m b q)
     ·simp only [cA, aB, aG, aA]
      exact OG f1 i n _ _ _ h
  ·rfl
theorem RL (f1 : Formula × Formula → Option Bool) (l : List Formula) (h : ∀ x ∈ l, ∀ y ∈ l, f1 (x, y) = some (ru x y)) : ∀ (n : Nat) (i : Int), nF l f1 n i = Cy ru SX l n i
 | 0, i => by rw [nF, Cy]
 | n + 1, i => by
  rw [nF, Cy]
  split
  ·cases a : mF l i with
   | none => rfl
   | some x =>
    cases b : mF l (IntKind.i64.wrap (i - 1)) with
    | none => rfl
    | some y =>
     have d : x ∈ l := dK (lI a)
     have g : y ∈ l := dK (lI b)
     simp only [aA, h x d y g]
     rw [OG f1 i lE l i 1 h, RL f1 l h n]
     rfl
  ·rfl
theorem Mp (l : List Formula) (h : ∀ x ∈ l, Gd x) (b : l.length ≤ 300000) : qt l (fun x => oZ lE x.1 x.2) = some (dd ru l) := by
 rw [← Ka ru SX l (by omega)]
 unfold qt JA
 rw [RL _ l (fun x a y _ => Qh x y (h x a))]
end Go.Proofs.YtmlncblocfcmiaaGreat
namespace Go.Proofs.YtmlncblocfcmiaaGreat
open Go.RowKit
def mB (op : Int) (f : Formula) : Bool := decide (f.Op = op) && f.Kids.isEmpty
theorem D3 (f : Formula) (op : Int) : ul f op = some (mB op f) := by
 unfold ul mB
 rw [pU]
 by_cases h : f.Op = op
 ·simp only [h, aV, aJ, bT, eJ]
  congr 1
  cases hk : f.Kids with
  | nil => rfl
  | cons a l => simp; omega
 ·have e : (f.Op == op) = false := by simpa using h
  simp [e, h]
def oN (op : Int) : List Formula → List Formula
 | [] => []
 | k :: ks => (if k.Op = op then k.Kids else [k]) ++ oN op ks
theorem DS (op : Int) : ∀ ks : List Formula, nodesL (oN op ks) ≤ nodesL ks
 | [] => aO _
 | k :: ks => by
  have ih := DS op ks
  have e : ∀ a b : List Formula, nodesL (a ++ b) = nodesL a + nodesL b := by
   intro a b
   induction a with
   | nil => rw [aU, nodesL]; omega
   | cons x a d => rw [bO, nodesL, nodesL, d]; omega
  have := oV k
  rw [oN, e, nodesL]
  split
  ·omega
  ·rw [nodesL, nodesL]; omega
theorem HM (op : Int) : ∀ (ks acc : List Formula), acc.length + nodesL ks ≤ 100000000 → rB op ks acc = some (acc ++ oN op ks)
 | [], acc, _ => by rw [rB, oN, aQ]
 | k :: ks, acc, h => by
  rw [nodesL] at h
  have h1 := oV k
  have a := qJ k.Kids
  rw [rB, oN]
  by_cases c : k.Op = op
  ·simp only [c, aV, aJ]
   rw [nR (by omega) (by omega), aA, HM op ks _ (by simp; omega), aH]
  ·have e : (k.Op == op) = false := by simpa using c
   simp only [e, aB, aG, c]
   rw [nR (by simp; omega) (by simp; omega), aA, HM op ks _ (by simp; omega), aH]
noncomputable def pX (op : Int) (ks : List Formula) : Formula :=
 if (oN op ks).any (mB (5 - op)) then ⟨5 - op, 0, qL, []⟩ else
  match dd ru (vG (oN op ks)) with
  | [x] => x
  | r => ⟨op, 0, qL, r⟩
theorem J2 {α : Type} (eq : α → α → Bool) (l : List α) : (dd eq l).length ≤ l.length := by
 cases l with
 | nil => exact aO _
 | cons x l =>
  have : ∀ (l : List α) (x : α), (nV eq x l).length ≤ l.length := by
   intro l
   induction l with
   | nil => intro x; exact aO _
   | cons y l ih => intro x; rw [nV]; have := ih y; have := ih x; split <;> simp <;> omega
  have := this l x
  rw [dd, aI, aI]; omega
theorem EZ (s : lQ) (op : Int) (g : op = 2 ∨ op = 3) (ks : List Formula) (h : nodesL ks ≤ 64) : pc s op ks = some (pX op ks, s) := by
 have h1 := DS op ks
 have i := qJ (oN op ks)
 have b : ∀ x ∈ oN op ks, Gd x := fun x a => by have := ud a; unfold Gd; omega
 have hw : IntKind.i64.wrap (5 - op) = 5 - op := lJ (by omega) (by omega)
 unfold pc AP pX
 rw [HM op ks [] (by simp; omega), aA, aU, hw, FJ _ (mB (5 - op)) _ (fun x _ => by unfold rH; rw [D3, pU]), aA]
 cases j : (oN op ks).any (mB (5 - op))
 ·simp only [aB, aG]
  have hp := yV (oN op ks)
  have l := hp.length_eq
  rw [I1 _ b (by omega), aA, Mp _ (fun x a => b x (hp.mem_iff.1 a)) (by omega), aA]
  have k := J2 ru (vG (oN op ks))
  have d : ¬ (((dd ru (vG (oN op ks))).length : Int) > 64) := by omega
  simp only [d, bV, aB, aG, aA]
  generalize dd ru (vG (oN op ks)) = r
  match r with
  | [] => rfl
  | [x] => rfl
  | x :: y :: r =>
   have : (((x :: y :: r).length : Int) == 1) = false := by simp; omega
   simp only [this, aB, aG]
   rfl
 ·rfl
noncomputable def tQ (k : Int) (ks : List Formula) : Formula :=
 let n := k - ((ks.filter (mB 2)).length : Int)
 let l := ks.filter fun x => !mB 2 x && !mB 3 x
 if n ≤ 0 then ⟨2, 0, qL, []⟩ else if n > (l.length : Int) then ⟨3, 0, qL, []⟩ else if n = (l.length : Int) then pX 2 l else if n = 1 then pX 3 l else ⟨4, n, qL, vG l⟩
theorem zx (p : Formula → Bool) : ∀ ks : List Formula, nodesL (ks.filter p) ≤ nodesL ks
 | [] => aO _
 | k :: ks => by
  have := zx p ks
  rw [eB]
  split
  ·rw [nodesL, nodesL]; omega
  ·rw [nodesL]; omega
theorem Bb (s : lQ) : ∀ (ks acc : List Formula) (k : Int), -1000 ≤ k - (ks.length : Int) → k ≤ 1000 → acc.length + ks.length ≤ 1000 → nodesL (acc ++ ks.filter fun x => !mB 2 x && !mB 3 x) ≤ 64 →
  nD s ks k acc = some (let n := k - ((ks.filter (mB 2)).length : Int); let l := acc ++ ks.filter fun x => !mB 2 x && !mB 3 x; if n ≤ 0 then ⟨2, 0, qL, []⟩ else if n > (l.length : Int) then ⟨3, 0, qL, []⟩ else if n = (l.length : Int) then pX 2 l else if n = 1 then pX 3 l else ⟨4, n, qL, vG l⟩, s)
 | [], acc, k, h1, g, h, a => by
  simp only [jB, aQ, bU] at a ⊢
  rw [nD]
  simp only [Int.ofNat_zero, Int.sub_zero, zp, zW, aA, Int.natCast_zero]
  have p := qJ acc
  by_cases c1 : k ≤ 0
  ·simp only [c1, bT, aJ]; rfl
  ·simp only [c1, bV, aB, aG]
   by_cases c2 : k > (acc.length : Int)
   ·simp only [c2, bT, aJ]; rfl
   ·simp only [c2, bV, aB, aG]
    by_cases b : k = (acc.length : Int)
    ·simp only [← b, aV, aJ]
     rw [EZ s 2 (.inl rfl) acc a, aA]
    ·have i : (k == (acc.length : Int)) = false := by simpa using b
     simp only [i, aB, aG, b]
     by_cases d : k = 1
     ·simp only [d, aV, aJ]
      rw [EZ s 3 (.inr rfl) acc a, aA]
     ·have j : (k == 1) = false := by simpa using d
      simp only [j, aB, aG, d]
      rw [I1 acc (fun x m => by have := ud m; unfold Gd; omega) (by omega)]
      rfl
 | x :: ks, acc, k, h1, g, h, a => by
  simp only [aI] at h1 h
  rw [nD, D3, aA, D3, aA]
  rw [eB, eB] at *
  cases c2 : mB 2 x
  ·cases b : mB 3 x
   ·simp only [c2, b, cX, ke, aB, aG, aJ] at a ⊢
    rw [nR (by simp; omega) (by simp; omega), aA, Bb s ks _ k (by omega) g (by simp; omega) (by rw [aH]; exact a)]
    simp only [aH, bO, aU]
   ·simp only [c2, b, cX, cA, Bool.and_false, aB, aG] at a ⊢
    rw [Bb s ks _ k (by omega) g (by omega) a]
  ·simp only [c2, cA, iC, aB, aG, aJ] at a ⊢
   rw [lJ (by omega) (by omega), Bb s ks _ (k - 1) (by omega) (by omega) (by omega) a]
   simp only [aI]
   have e : k - 1 - ((ks.filter (mB 2)).length : Int) = k - (((ks.filter (mB 2)).length + 1 : Nat) : Int) := by omega
   rw [e]
theorem My (s : lQ) (k : Int) (hk : 0 ≤ k ∧ k ≤ 1000) (ks : List Formula) (h : nodesL ks ≤ 64) : rI s k ks = some (tQ k ks, s) := by
 have := qJ ks
 have := zx (fun x => !mB 2 x && !mB 3 x) ks
 unfold rI tQ
 rw [Bb s ks [] k (by omega) (by omega) (by simp; omega) (by simpa using by omega)]
 rfl
mutual
noncomputable def qw : Formula → Formula
 | ⟨o, k, r, ks⟩ => if o = 1 then ⟨o, k, r, ks⟩ else if o = 4 then tQ k (shapeL ks) else pX o (shapeL ks)
noncomputable def shapeL : List Formula → List Formula
 | [] => []
 | k :: ks => qw k :: shapeL ks
end
theorem AB (f : Formula) : qw f = if f.Op = 1 then f else if f.Op = 4 then tQ f.K (shapeL f.Kids) else pX f.Op (shapeL f.Kids) := by cases f; rw [qw]
theorem FN {a b : List Formula} (h : a.Perm b) : nodesL a = nodesL b := by
 induction h with
 | nil => rfl
 | cons x _ ih => rw [nodesL, nodesL, ih]
 | swap x y l => rw [nodesL, nodesL, nodesL, nodesL]; omega
 | trans _ _ h1 d => rw [h1, d]
theorem Ed (eq : Formula → Formula → Bool) : ∀ (l : List Formula) (x : Formula), nodesL (nV eq x l) ≤ nodesL l
 | [], x => aO _
 | y :: l, x => by
  have h1 := Ed eq l y
  have a := Ed eq l x
  rw [nV]
  split
  ·rw [nodesL]; omega
  ·rw [nodesL, nodesL]; omega
theorem Oo (eq : Formula → Formula → Bool) (l : List Formula) : nodesL (dd eq l) ≤ nodesL l := by
 cases l with
 | nil => exact aO _
 | cons x l => have := Ed eq l x; rw [dd, nodesL, nodesL]; omega
theorem BP (op : Int) (ks : List Formula) : lF (pX op ks) ≤ 1 + nodesL ks := by
 unfold pX
 split
 ·rw [lF, nodesL]; omega
 ·have h1 := Oo ru (vG (oN op ks))
  have a := FN (yV (oN op ks))
  have b := DS op ks
  generalize dd ru (vG (oN op ks)) = r at *
  split
  ·rename_i x
   rw [nodesL, nodesL] at h1; omega
  ·rw [lF]; omega
theorem II (k : Int) (ks : List Formula) : lF (tQ k ks) ≤ 1 + nodesL ks := by
 have h := zx (fun x => !mB 2 x && !mB 3 x) ks
 unfold tQ
 simp only
 generalize ks.filter (fun x => !mB 2 x && !mB 3 x) = l at *
 generalize k - ((ks.filter (mB 2)).length : Int) = n
 split
 ·rw [lF, nodesL]; omega
 ·split
  ·rw [lF, nodesL]; omega
  ·split
   ·have := BP 2 l; omega
   ·split
    ·have := BP 3 l; omega
    ·have := FN (yV l); rw [lF]; omega
theorem Am : ∀ f : Formula, lF (qw f) ≤ lF f := by
 refine Ja fun f ih => ?_
 have h : ∀ ks : List Formula, (∀ k ∈ ks, lF (qw k) ≤ lF k) → nodesL (shapeL ks) ≤ nodesL ks := by
  intro ks
  induction ks with
  | nil => intro _; rw [shapeL]; exact aO _
  | cons k ks a =>
   intro h
   have := a (fun x b => h x (by simp [b]))
   have := h k (by simp)
   rw [shapeL, nodesL, nodesL]; omega
 have h := h f.Kids ih
 rw [AB, oV f]
 split
 ·rw [oV]; omega
 ·split
  ·have := II f.K (shapeL f.Kids); omega
  ·have := BP f.Op (shapeL f.Kids); omega
theorem EA (ks : List Formula) : nodesL (shapeL ks) ≤ nodesL ks := by
 induction ks with
 | nil => rw [shapeL]; exact aO _
 | cons k ks ih => have := Am k; rw [shapeL, nodesL, nodesL]; omega
theorem OS : ∀ (n : Nat) (f : Formula), oK f ≤ n → lF f ≤ 64 → tZ f = true → ∀ s : lQ, od n s f = some (qw f, s) := by
 intro n
 induction n with
 | zero => intro f h; rw [nI] at h; omega
 | succ n ih =>
  intro f r v hw s
  rw [nI] at r
  have t := oV f
  obtain ⟨h1, q, l⟩ := yc hw
  rw [od]
  unfold sX
  rw [AB]
  by_cases c1 : f.Op = 1
  ·simp only [c1, aV, aJ]
  ·have m : (f.Op == 1) = false := by simpa using c1
   simp only [m, aB, aG, c1]
   have key : ∀ (ks acc : List Formula), (∀ k ∈ ks, k ∈ f.Kids) → wellL ks = true → nodesL (acc ++ shapeL ks) ≤ 64 → nodesL ks ≤ 64 → oF (od n) f ks acc s = some (if f.Op = 4 then tQ f.K (acc ++ shapeL ks) else pX f.Op (acc ++ shapeL ks), s) := by
    intro ks
    induction ks with
    | nil =>
     intro acc _ _ d _
     rw [shapeL, aQ] at *
     rw [oF]
     by_cases g : f.Op = 4
     ·simp only [g, aV, aJ]
      rw [My s f.K (by rcases l with h | h | h <;> omega) acc d, aA]
     ·have p : (f.Op == 4) = false := by simpa using g
      simp only [p, aB, aG, g]
      rw [EZ s f.Op (by rcases l with h | h | h <;> omega) acc d, aA]
    | cons k ks j =>
     intro acc hk a d i
     rw [wellL, aZ] at a
     rw [nodesL] at i
     rw [shapeL] at d
     have b := qJ (acc ++ qw k :: shapeL ks)
     simp only [aD, aI] at b
     rw [oF, ih k (by have := rN (hk k (by simp)); omega) (by omega) a.1 s, aA, nR (by simp; omega) (by simp; omega), aA,
      j (acc ++ [qw k]) (fun z u => hk z (by simp [u])) a.2 (by rw [aH]; exact d) (by omega), shapeL]
     simp only [aH, bO, aU]
   have := EA f.Kids
   have := key f.Kids [] (fun k hk => hk) q (by simpa using by omega) (by omega)
   simpa using this
def E4 : Formula := ⟨0, 0, qL, []⟩
noncomputable def xU (f : Formula) : Formula × Int := if oD f then (if oD (qw f) then (qw f, 0) else (E4, 12)) else (E4, 11)
theorem KK (f : Formula) (h : Gd f) : yh f = some (xU f) := by
 unfold yh xU
 rw [Ee f h, aA]
 cases b : oD f
 ·rfl
 ·obtain ⟨h1, d, a⟩ := zX b
  have g := Am f
  simp only [cA, aB, aG, aJ]
  rw [OS lE f (by rw [ni]; omega) h1 a, aA, Ee (qw f) (by omega)]
  have e : (((⟨0⟩ : lQ).e) != 0) = false := rfl
  simp only [e, aB, aG, aA]
  cases oD (qw f) <;> rfl
theorem yR {f : Formula} : lF (xU f).1 ≤ 64 := by
 unfold xU
 cases h : oD f
 ·exact by simp only [aB, aG, E4]; rw [lF, nodesL]; omega
 ·obtain ⟨h1, a, b⟩ := zX h
  have := Am f
  simp only [aJ]
  split
  ·show lF (qw f) ≤ 64; omega
  ·rw [E4, lF, nodesL]; omega
theorem QC (f g : Formula) (a : lF f ≤ 10000000) (b : lF g ≤ 10000000) : yp f g = some (xU ⟨2, 0, qL, [f, g]⟩) := by
 unfold yp
 have := KK ⟨2, 0, qL, [f, g]⟩ (by show lF _ ≤ _; rw [lF, nodesL, nodesL, nodesL]; omega)
 rw [show (⟨2, 0, (⟨zS, zS⟩ : kI), [f, g]⟩ : Formula) = ⟨2, 0, qL, [f, g]⟩ from rfl, this]
 rfl
end Go.Proofs.YtmlncblocfcmiaaGreat
namespace Go.Proofs.YtmlncblocfcmiaaGreat
open Go.RowKit
mutual
def qP (v : kI → Bool) : Formula → Bool
 | ⟨o, k, r, ks⟩ => if o = 1 then v r else if o = 2 then decide (evN v ks = ks.length) else if o = 3 then decide (0 < evN v ks) else decide (k ≤ (evN v ks : Int))
def evN (v : kI → Bool) : List Formula → Nat
 | [] => 0
 | k :: ks => (if qP v k then 1 else 0) + evN v ks
end
theorem wB (v : kI → Bool) (f : Formula) : qP v f = if f.Op = 1 then v f.kI else if f.Op = 2 then decide (evN v f.Kids = f.Kids.length) else if f.Op = 3 then decide (0 < evN v f.Kids) else decide (f.K ≤ (evN v f.Kids : Int)) := by cases f; rw [qP]
theorem G1 (v : kI → Bool) : ∀ ks : List Formula, evN v ks ≤ ks.length
 | [] => by rw [evN]; exact aO _
 | k :: ks => by have := G1 v ks; rw [evN, aI]; split <;> omega
theorem Hu (v : kI → Bool) : ∀ ks : List Formula, evN v ks = ks.length ↔ ∀ k ∈ ks, qP v k = true
 | [] => by rw [evN]; simp
 | k :: ks => by
  have h1 := G1 v ks
  have a := Hu v ks
  rw [evN, aI]
  simp only [cM, ← a]
  cases qP v k <;> simp <;> omega
theorem Hw (v : kI → Bool) : ∀ ks : List Formula, 0 < evN v ks ↔ ∃ k ∈ ks, qP v k = true
 | [] => by rw [evN]; simp
 | k :: ks => by
  have a := Hw v ks
  rw [evN]
  simp only [aK, exists_eq_or_imp, ← a]
  cases qP v k <;> simp <;> omega
theorem G9 (v : kI → Bool) (ks : List Formula) : evN v ks = (ks.filter (qP v)).length := by
 induction ks with
 | nil => rw [evN]; rfl
 | cons k ks ih => rw [evN, ih, eB]; cases qP v k <;> simp <;> omega
theorem O1 (v : kI → Bool) {a b : List Formula} (h : a.Perm b) : evN v a = evN v b := by
 rw [G9, G9]; exact (h.filter _).length_eq
theorem Lb {v w : kI → Bool} (h : ∀ r, v r = true → w r = true) : ∀ f : Formula, qP v f = true → qP w f = true := by
 refine Ja fun f ih => ?_
 have key : evN v f.Kids ≤ evN w f.Kids := by
  have : ∀ ks : List Formula, (∀ k ∈ ks, qP v k = true → qP w k = true) → evN v ks ≤ evN w ks := by
   intro ks
   induction ks with
   | nil => intro _; rw [evN, evN]; exact aO _
   | cons k ks a =>
    intro hk
    have h1 := a (fun x g => hk x (by simp [g]))
    have b := hk k (by simp)
    rw [evN, evN]
    cases d : qP v k
    ·simp; omega
    ·rw [b d]; simp; omega
  exact this _ ih
 have hle := G1 w f.Kids
 rw [wB, wB]
 split
 ·exact h _
 ·split
  ·simp only [bK]; omega
  ·split
   ·simp only [bK]; omega
   ·simp only [bK]; omega
theorem ED (v : kI → Bool) (f1 : kI → Option Bool) (rec : Formula → (kI → Option Bool) → Option Bool) (f : Formula) : ∀ (ks : List Formula) (x : Nat), (∀ k ∈ ks, rec k f1 = some (qP v k)) → x + ks.length ≤ 100000000 →
  qg rec f1 f ks (x : Int) = some (if f.Op = 2 then decide (x + evN v ks = f.Kids.length) else if f.Op = 3 then decide (0 < x + evN v ks) else decide (f.K ≤ ((x + evN v ks : Nat) : Int)))
 | [], x, _, _ => by
  rw [qg, evN, iE]
  by_cases c2 : f.Op = 2
  ·simp only [c2, aV, aJ]
   congr 1
   rw [bN, iT, bK]; omega
  ·have b : (f.Op == 2) = false := by simpa using c2
   simp only [b, aB, aG, c2]
   by_cases a : f.Op = 3
   ·simp only [a, aV, aJ]
    congr 1
    rw [bN, bK, bK]; omega
   ·have g : (f.Op == 3) = false := by simpa using a
    simp only [g, aB, aG, a]
 | k :: ks, x, h, i => by
  rw [aI] at i
  rw [qg, h k (by simp), aA, evN]
  cases qP v k
  ·simp only [aB, aG]
   rw [ED v f1 rec f ks x (fun z d => h z (by simp [d])) (by omega), eL]
  ·simp only [aJ]
   have e : IntKind.i64.wrap ((x : Int) + 1) = ((x + 1 : Nat) : Int) := by rw [lJ (by omega) (by omega)]; omega
   rw [e, ED v f1 rec f ks (x + 1) (fun z d => h z (by simp [d])) (by omega)]
   have b : x + 1 + evN v ks = x + (1 + evN v ks) := by omega
   rw [b]
theorem Nf (v : kI → Bool) (f1 : kI → Option Bool) (i : ∀ r, f1 r = some (v r)) : ∀ (n : Nat) (f : Formula), oK f ≤ n → Gd f → qM n f f1 = some (qP v f) := by
 intro n
 induction n with
 | zero => intro f h; rw [nI] at h; omega
 | succ n ih =>
  intro f b d
  rw [nI] at b
  have g := oV f
  have j := qJ f.Kids
  unfold Gd at d
  rw [qM]
  unfold wc
  rw [wB]
  by_cases c1 : f.Op = 1
  ·simp only [c1, aV, aJ, i, aA]
  ·have a : (f.Op == 1) = false := by simpa using c1
   simp only [a, aB, aG, c1]
   have := ED v f1 (qM n) f f.Kids 0 (fun k hk => ih k (by have := rN hk; omega) (by have := ud hk; unfold Gd; omega)) (by omega)
   simpa using this
def uW (v : kI → Bool) (f : Formula) : Bool := oD f && qP v f
theorem Lz (v : kI → Bool) (f1 : kI → Option Bool) (a : ∀ r, f1 r = some (v r)) (f : Formula) (h : Gd f) : vM f f1 = some (uW v f) := by
 unfold vM uW
 rw [Ee f h, aA]
 have := wL f
 cases oD f
 ·rfl
 ·unfold Gd at h
  simp only [aJ, Nf v f1 a lE f (by rw [ni]; omega) h, aA, eJ]
theorem GS (op : Int) (f : Formula) : mB op f = true ↔ f.Op = op ∧ f.Kids = [] := by
 unfold mB; simp
theorem H2 (v : kI → Bool) {f : Formula} (h : mB 2 f = true) : qP v f = true := by
 obtain ⟨h1, a⟩ := (GS 2 f).1 h
 rw [wB, h1, a, evN]; rfl
theorem Ii (v : kI → Bool) {f : Formula} (h : mB 3 f = true) : qP v f = false := by
 obtain ⟨h1, a⟩ := (GS 3 f).1 h
 rw [wB, h1, a, evN]; rfl
def uG (v : kI → Bool) (ks : List Formula) : Bool := ks.all (qP v)
def vj (v : kI → Bool) (ks : List Formula) : Bool := ks.any (qP v)
theorem KJ (v : kI → Bool) (k : Int) (r : kI) (ks : List Formula) : qP v ⟨2, k, r, ks⟩ = uG v ks := by
 rw [wB, bN]; simp [uG, Hu]
theorem NO (v : kI → Bool) (k : Int) (r : kI) (ks : List Formula) : qP v ⟨3, k, r, ks⟩ = vj v ks := by
 rw [wB, bN]; simp [vj, Hw]
theorem Jg (v : kI → Bool) : ∀ ks : List Formula, uG v (oN 2 ks) = uG v ks
 | [] => rfl
 | k :: ks => by
  have ih := Jg v ks
  unfold uG at ih ⊢
  rw [oN, List.all_append, ih, ju]
  congr 1
  split
  ·rename_i h
   obtain ⟨o, n, r, l⟩ := k
   simp only at h; subst h
   exact (KJ v n r l).symm
  ·simp
theorem I7 (v : kI → Bool) : ∀ ks : List Formula, vj v (oN 3 ks) = vj v ks
 | [] => rfl
 | k :: ks => by
  have ih := I7 v ks
  unfold vj at ih ⊢
  rw [oN, List.any_append, ih, iO]
  congr 1
  split
  ·rename_i h
   obtain ⟨o, n, r, l⟩ := k
   simp only at h; subst h
   exact (NO v n r l).symm
  ·simp
theorem Nj (l : List Formula) (x : Formula) : x ∈ dd ru (vG l) ↔ x ∈ l := by
 rw [Jx (fun _ _ => Bi), (yV l).mem_iff]
theorem NI {v : kI → Bool} {a b : List Formula} (h : ∀ x, x ∈ a ↔ x ∈ b) : uG v a = uG v b := by
 unfold uG; rw [bN, gI, gI]
 exact ⟨fun q x d => q x ((h x).2 d), fun q x d => q x ((h x).1 d)⟩
theorem Np {v : kI → Bool} {a b : List Formula} (h : ∀ x, x ∈ a ↔ x ∈ b) : vj v a = vj v b := by
 unfold vj; rw [bN, fA, fA]
 exact ⟨fun ⟨x, d, q⟩ => ⟨x, (h x).1 d, q⟩, fun ⟨x, d, q⟩ => ⟨x, (h x).2 d, q⟩⟩
theorem Hf (v : kI → Bool) (ks : List Formula) : qP v (pX 2 ks) = uG v ks := by
 rw [← Jg]
 unfold pX
 split
 ·rename_i h
  rw [show (5 - 2 : Int) = 3 from rfl, NO]
  obtain ⟨x, a, he⟩ := fA.1 h
  have : uG v (oN 2 ks) = false := by
   unfold uG; rw [List.all_eq_false]; exact ⟨x, a, by rw [Ii v he]; simp⟩
  rw [this]; rfl
 ·rw [← NI (Nj (oN 2 ks))]
  generalize dd ru (vG (oN 2 ks)) = r
  split
  ·simp [uG]
  ·exact KJ v 0 qL r
theorem G6 (v : kI → Bool) (ks : List Formula) : qP v (pX 3 ks) = vj v ks := by
 rw [← I7]
 unfold pX
 split
 ·rename_i h
  rw [show (5 - 3 : Int) = 2 from rfl, KJ]
  obtain ⟨x, a, he⟩ := fA.1 h
  have : vj v (oN 3 ks) = true := by
   unfold vj; rw [fA]; exact ⟨x, a, H2 v he⟩
  rw [this]; rfl
 ·rw [← Np (Nj (oN 3 ks))]
  generalize dd ru (vG (oN 3 ks)) = r
  split
  ·simp [vj]
  ·exact NO v 0 qL r
theorem Ir (v : kI → Bool) : ∀ ks : List Formula, evN v ks = (ks.filter (mB 2)).length + evN v (ks.filter fun x => !mB 2 x && !mB 3 x)
 | [] => rfl
 | k :: ks => by
  have ih := Ir v ks
  rw [evN, eB, eB, ih]
  cases a : mB 2 k
  ·cases b : mB 3 k
   ·simp only [cX, ke, aB, aG, aJ]
    rw [evN]; omega
   ·rw [Ii v b]; simp
  ·rw [H2 v a]; simp; omega
theorem MC (v : kI → Bool) (k : Int) (ks : List Formula) : qP v (tQ k ks) = decide (k ≤ (evN v ks : Int)) := by
 have b := Ir v ks
 unfold tQ
 simp only
 generalize a : ks.filter (fun x => !mB 2 x && !mB 3 x) = l at *
 generalize (ks.filter (mB 2)).length = m at *
 have hle := G1 v l
 have ha := Hu v l
 have hp := Hw v l
 split
 ·rw [KJ]; simp [uG]; omega
 ·split
  ·rw [NO]; simp [vj]; omega
  ·split
   ·rw [Hf, bN, bK]
    unfold uG
    rw [gI, ← ha]; omega
   ·split
    ·rw [G6, bN, bK]
     unfold vj
     rw [fA, ← hp]; omega
    ·rw [wB]
     simp only [O1 v (yV l)]
     have : ¬ ((4 : Int) = 1) := by omega
     have : ¬ ((4 : Int) = 2) := by omega
     have : ¬ ((4 : Int) = 3) := by omega
     simp only [*, aG]
     rw [bN, bK, bK]; omega
theorem Ow (v : kI → Bool) : ∀ f : Formula, tZ f = true → qP v (qw f) = qP v f := by
 refine Ja fun f ih hw => ?_
 obtain ⟨h1, g, i⟩ := yc hw
 rw [E1, gI] at g
 have key : ∀ ks : List Formula, (∀ k ∈ ks, qP v (qw k) = qP v k) → evN v (shapeL ks) = evN v ks ∧ uG v (shapeL ks) = uG v ks ∧ vj v (shapeL ks) = vj v ks := by
  intro ks
  induction ks with
  | nil => intro _; rw [shapeL]; exact ⟨rfl, rfl, rfl⟩
  | cons k ks d =>
   intro hk
   obtain ⟨a, b, c⟩ := d (fun x j => hk x (by simp [j]))
   have h := hk k (by simp)
   unfold uG vj at *
   rw [shapeL, evN, evN, a, h, ju, ju, iO, iO, b, c, h]
   exact ⟨rfl, rfl, rfl⟩
 obtain ⟨a, b, c⟩ := key f.Kids (fun k hk => ih k hk (g k hk))
 obtain ⟨o, n, r, l⟩ := f
 simp only at *
 rw [AB]
 simp only
 rcases i with h | h | h
 ·simp only [h.1, aJ]
 ·rcases h.1 with h | h
  ·subst h
   rw [KJ]
   exact (Hf v _).trans b
  ·subst h
   rw [NO]
   exact (G6 v _).trans c
 ·obtain ⟨h, _⟩ := h
  subst h
  rw [wB v ⟨4, n, r, l⟩]
  exact (MC v n _).trans (by rw [a]; rfl)
theorem M5 {f g : Formula} (h : xU f = (g, 0)) : oD f = true ∧ oD g = true ∧ ∀ v, qP v g = qP v f := by
 unfold xU at h
 cases a : oD f
 ·rw [a] at h; simp at h
 ·rw [a] at h
  simp only [aJ] at h
  cases b : oD (qw f)
  ·rw [b] at h; simp at h
  ·rw [b] at h
   simp only [aJ, Prod.mk.injEq] at h
   obtain ⟨rfl, _⟩ := h
   exact ⟨rfl, b, fun v => Ow v f (zX a).2.2⟩
end Go.Proofs.YtmlncblocfcmiaaGreat
namespace Go.Proofs.YtmlncblocfcmiaaGreat
open Go.RowKit
structure PB (p : lT) : Prop where
 DV : p.kR.length ≤ 2000000
 CG : p.lC.length ≤ 2000000
 rel : ∀ x ∈ p.kR, lF x.kO ≤ 10000000
 CQ : ∀ a ∈ p.lC, lF a.kO ≤ 10000000
 H3 : ∀ a ∈ p.lC, a.nM.length ≤ 2000000
theorem JH (f : kY → Option Bool) : ∀ (l : List kY) (i : Nat), oh f l i = zQ f l i
 | [], i => by rw [oh]; rfl
 | x :: l, i => by
  rw [oh, zQ]
  cases f x with
  | none => rfl
  | some b =>
   simp only [aA]
   rw [JH f l (i + 1)]
theorem I5 (f : nS → Option Bool) : ∀ (l : List nS) (i : Nat), oQ f l i = zQ f l i
 | [], i => by rw [oQ]; rfl
 | x :: l, i => by
  rw [oQ, zQ]
  cases f x with
  | none => rfl
  | some b =>
   simp only [aA]
   rw [I5 f l (i + 1)]
def zq (p : lT) (c : kJ) : Option kY := p.kR.find? fun x => lV x.Signed.kJ c
theorem QM (p : lT) (c : kJ) : ∃ z, zh p c = some (match zq p c with | some x => (x, true) | none => (z, false)) := by
 unfold zh tP zq
 rw [JH]
 rcases DW (fun x => wS x c) (fun x => lV x.Signed.kJ c) p.kR 0 (fun x _ => rfl) with ⟨e, h1⟩ | ⟨A, x, B, hp, h1, b, e⟩
 ·rw [e, aA, fS.2 (fun x a => by rw [h1 x a]; simp)]
  exact ⟨_, rfl⟩
 ·rw [e, aA, hp, jW, fS.2 (fun x a => by rw [h1 x a]; simp), fX, b]
  have : ¬ (((0 + A.length : Nat) : Int) < 0) := by omega
  simp only [this, bV, aB, aG]
  rw [nP A x B _ (by omega)]
  exact ⟨x, rfl⟩
def RT : nS := ⟨⟨zS, zS⟩, ⟨0, 0, ⟨zS, zS⟩, []⟩, []⟩
theorem Jd (f : nS → Option Bool) : ∀ (n : Nat) (l : List nS) (i j : Int), oE f n l i j = DX f RT n l i j
 | 0, _, _, _ => rfl
 | n + 1, l, i, j => by
  rw [oE, DX]
  simp only [Jd f n]
  rfl
def xk (p : lT) (c : kJ) : List nS := p.lC.filter fun a => rZ lV a.nM c
theorem OV (p : lT) (hp : PB p) (c : kJ) : yu p c = some (xk p c) := by
 have := hp.CG
 unfold yu vg xk
 rw [nR (by simp; omega) (by simp; omega)]
 simp only [aA, aU, pU]
 have : sE p.lC (fun x => ta x c) = HJ (fun x => ta x c) RT p.lC := by
  unfold sE HJ vy
  simp only [I5, Jd]
 rw [this, Js _ (fun a => !rZ lV a.nM c) RT _ (by omega) (fun a _ => by unfold ta wo; rw [pU, OC]; rfl)]
 simp only [jk]
noncomputable def qa : Formula × Int → List Formula → Formula × Int
 | t, [] => t
 | t, g :: l => if t.2 = 0 then qa (xU ⟨2, 0, qL, [t.1, g]⟩) l else t
theorem KB : ∀ (l : List Formula) (e o k : Int) (r : kI) (ks : List Formula), (∀ g ∈ l, lF g ≤ 10000000) → lF ⟨o, k, r, ks⟩ ≤ 64 →
  ui l e o k r ks = some ((qa (⟨o, k, r, ks⟩, e) l).2, (qa (⟨o, k, r, ks⟩, e) l).1.Op, (qa (⟨o, k, r, ks⟩, e) l).1.K, (qa (⟨o, k, r, ks⟩, e) l).1.kI, (qa (⟨o, k, r, ks⟩, e) l).1.Kids)
 | [], e, o, k, r, ks, _, _ => by rw [ui, qa]
 | g :: l, e, o, k, r, ks, h, n => by
  rw [ui, qa]
  by_cases c : e = 0
  ·have a : (e != 0) = false := by simp [c]
   simp only [a, aB, aG, c, aJ]
   rw [QC _ g (by omega) (h g (by simp)), aA]
   have d := yR (f := ⟨2, 0, qL, [⟨o, k, r, ks⟩, g]⟩)
   generalize xU ⟨2, 0, qL, [⟨o, k, r, ks⟩, g]⟩ = q at *
   obtain ⟨⟨j, k', m, b⟩, e'⟩ := q
   exact KB l e' j k' m b (fun z i => h z (by simp [i])) d
  ·have a : (e != 0) = true := by simp [c]
   simp only [a, aJ, c, aG]
noncomputable def BQ (g : Formula) (l : List Formula) : Formula × Int := if (qa (xU g) l).2 = 0 then qa (xU g) l else (E4, (qa (xU g) l).2)
theorem Qs (g : Formula) (l : List Formula) (m : lF g ≤ 10000000) (h : ∀ x ∈ l, lF x ≤ 10000000) : wH (g :: l) = some (BQ g l) := by
 unfold wH BQ
 have b : mF (g :: l) 0 = some g := nP [] g l 0 rfl
 have a : qZ (decide (0 ≤ 1) && decide ((1 : Int) ≤ ((g :: l).length : Int))) = some () := by
  rw [aI]
  have : (1 : Int) ≤ ((l.length + 1 : Nat) : Int) := by omega
  simp [qZ]; omega
 have i := yR (f := g)
 rw [b, aA, KK g (by unfold Gd; omega), aA, a, aA]
 generalize xU g = q at *
 obtain ⟨⟨o, k, r, ks⟩, e⟩ := q
 have d : (g :: l).drop (Int.toNat 1) = l := rfl
 rw [d, KB l e o k r ks h i, aA]
 generalize qa (⟨o, k, r, ks⟩, e) l = t
 obtain ⟨⟨n, k', p, j⟩, e'⟩ := t
 by_cases c : e' = 0
 ·subst c; rfl
 ·have a : (e' != 0) = true := by simp [c]
  simp only [a, aJ, c, aG]; rfl
noncomputable def pG (p : lT) (c : kJ) : Formula × Int := match zq p c with | none => (E4, 42) | some x => BQ x.kO ((xk p c).map (·.kO))
theorem NN : ∀ (l : List nS) (acc : List Formula), acc.length + l.length ≤ 3000000 → uP l acc = wH (acc ++ l.map (·.kO))
 | [], acc, _ => by
  rw [uP, gD, aQ]
  cases wH acc <;> rfl
 | a :: l, acc, h => by
  rw [aI] at h
  rw [uP, nR (by simp; omega) (by simp; omega), aA, NN l _ (by simp; omega)]
  simp
theorem OT {p : lT} {c : kJ} {x : kY} (h : zq p c = some x) : x ∈ p.kR ∧ x.Signed.kJ = c := by
 unfold zq at h
 have h1 := iJ h
 have a := ku h
 exact ⟨h1, mC.1 a⟩
theorem RN (p : lT) (hp : PB p) (c : kJ) : Bc p c = some (pG p c) := by
 unfold Bc pG
 obtain ⟨z, e⟩ := QM p c
 rw [e, aA]
 cases h : zq p c with
 | none => rfl
 | some x =>
  simp only [cA, aB, aG]
  have d := OT h
  have i : (xk p c).length ≤ p.lC.length := fV _ _
  have := hp.CG
  rw [OV p hp c, aA, NN _ _ (by simp; omega)]
  exact Qs x.kO _ (hp.rel x d.1) (fun g b => by
   obtain ⟨a, ha, rfl⟩ := bB.1 b
   exact hp.CQ a (cD.1 ha).1)
theorem HW (p : lT) (c : kJ) : lF (pG p c).1 ≤ 64 := by
 have a : lF E4 ≤ 64 := by rw [E4, lF, nodesL]; omega
 have b : ∀ (l : List Formula) (t : Formula × Int), lF t.1 ≤ 64 → lF (qa t l).1 ≤ 64 := by
  intro l
  induction l with
  | nil => intro t h; exact h
  | cons g l ih =>
   intro t h
   rw [qa]
   split
   ·exact ih _ yR
   ·exact h
 unfold pG
 split
 ·exact a
 ·unfold BQ
  split
  ·exact b _ _ yR
  ·exact a
theorem JL : ∀ (l : List Formula) (f : Formula) (e : Int), (qa (f, e) l).2 = 0 → e = 0 ∧ (oD f = true → oD (qa (f, e) l).1 = true ∧ ∀ v, qP v (qa (f, e) l).1 = (qP v f && l.all (qP v)))
 | [], f, e, h => by rw [qa] at *; exact ⟨h, fun j => ⟨j, fun v => by simp⟩⟩
 | g :: l, f, e, h => by
  rw [qa] at *
  by_cases c : e = 0
  ·simp only [c, aJ] at h ⊢
   cases a : xU ⟨2, 0, qL, [f, g]⟩ with
   | mk q e' =>
    rw [a] at h
    obtain ⟨h1, i⟩ := JL l q e' h
    subst h1
    obtain ⟨k, a2, a3⟩ := M5 a
    obtain ⟨b, d⟩ := i a2
    refine ⟨trivial, fun _ => ⟨b, fun v => ?_⟩⟩
    rw [d v, a3 v, KJ]
    simp [uG, jj]
  ·simp only [c, aG] at h
theorem M9 {p : lT} {c : kJ} (h : (pG p c).2 = 0) : oD (pG p c).1 = true ∧ ∃ x, zq p c = some x ∧ ∀ v, qP v (pG p c).1 = (qP v x.kO && (xk p c).all fun a => qP v a.kO) := by
 unfold pG at *
 cases g : zq p c with
 | none => rw [g] at h; simp at h
 | some x =>
  rw [g] at h
  simp only at h ⊢
  unfold BQ at *
  by_cases b : (qa (xU x.kO) ((xk p c).map (·.kO))).2 = 0
  ·simp only [b, aJ] at h ⊢
   cases d : xU x.kO with
   | mk q e =>
    rw [d] at b
    obtain ⟨h1, k⟩ := JL _ q e b
    subst h1
    obtain ⟨l, a2, a3⟩ := M5 d
    obtain ⟨i, j⟩ := k a2
    refine ⟨i, x, rfl, fun v => ?_⟩
    rw [j v, a3 v, List.all_map]
    rfl
  ·simp only [b, aG] at h
def vF (F : List lf) (peer : ByteArray) (r : kI) : Bool := rZ Bk F ⟨r, peer⟩
theorem Qi {l : List kJ} {F : List lf} (h : Jv l F) (peer : ByteArray) : ∃ m, vJ l peer = some m ∧ ∀ r, qN r m.1 m.2.1 m.2.2.1 m.2.2.2.1 m.2.2.2.2.1 m.2.2.2.2.2.1 m.2.2.2.2.2.2 = some (vF F peer r) := by
 obtain ⟨m, e, _, a⟩ := h.Tj
 unfold vJ
 rw [e, aA]
 refine ⟨_, rfl, fun r => ?_⟩
 unfold qN
 rw [pU]
 exact a r peer
noncomputable def Al (p : lT) (v : kI → Bool) (x : kY) : Bool := decide ((pG p x.Signed.kJ).2 = 0) && uW v (pG p x.Signed.kJ).1
theorem CZ (p : lT) (hp : PB p) (v : kI → Bool) (m) (a : ∀ r, qN r m.1 m.2.1 m.2.2.1 m.2.2.2.1 m.2.2.2.2.1 m.2.2.2.2.2.1 m.2.2.2.2.2.2 = some (v r)) : ∀ (l : List kY) (acc : List kJ), acc.length + l.length ≤ 1000000000 →
  rV p m l acc = zn (acc ++ (l.filter (Al p v)).map (·.Signed.kJ))
 | [], acc, _ => by
  rw [rV, jB, gD, aQ, pU]
 | x :: l, acc, h => by
  rw [aI] at h
  have b := HW p x.Signed.kJ
  rw [rV, RN p hp, aA, Lz v _ a _ (by unfold Gd; omega), eB]
  unfold Al
  by_cases c : (pG p x.Signed.kJ).2 = 0
  ·simp only [c, aV, aJ, bT, eJ, aA]
   cases d : uW v (pG p x.Signed.kJ).1
   ·simp only [aB, aG]
    exact CZ p hp v m a l acc (by omega)
   ·simp only [aJ]
    rw [nR (by simp; omega) (by simp; omega), aA, CZ p hp v m a l _ (by simp; omega)]
    simp only [bP, aH, bO, aU]
    rfl
  ·have e : ((pG p x.Signed.kJ).2 == 0) = false := by simpa using c
   simp only [e, aB, aG, c, bV, iC, aA]
   exact CZ p hp v m a l acc (by omega)
theorem PW (p : lT) (hp : PB p) {l : List kJ} {F : List lf} (h : Jv l F) (peer : ByteArray) : ∃ s, tz p l peer = some s ∧ JO ((p.kR.filter (Al p (vF F peer))).map (·.Signed.kJ)) s := by
 obtain ⟨m, e, a⟩ := Qi h peer
 have := hp.DV
 unfold tz
 rw [e, aA, CZ p hp _ m a p.kR [] (by simp; omega), aU]
 have h1 : (p.kR.filter (Al p (vF F peer))).length ≤ p.kR.length := fV _ _
 exact QY _ (by simp; omega)
end Go.Proofs.YtmlncblocfcmiaaGreat
namespace Go.Proofs.YtmlncblocfcmiaaGreat
open Go.RowKit
structure PG (p : lT) : Prop extends PB p where
 TH : ∀ x ∈ p.kR, yv x.Signed.kJ ≤ 1000000000
 TV : ∀ a ∈ p.lC, ∀ c ∈ a.nM, yv c ≤ 1000000000
end Go.Proofs.YtmlncblocfcmiaaGreat
namespace Go.Proofs.YtmlncblocfcmiaaGreat
open Go.RowKit
def gA : kI := ⟨⟨#[97]⟩, ⟨#[114]⟩⟩
def gB : kI := ⟨⟨#[98]⟩, ⟨#[115]⟩⟩
def gX : kI := ⟨⟨#[120]⟩, ⟨#[121]⟩⟩
def TG : Formula := ⟨1, 0, gA, []⟩
def TN : Formula := ⟨1, 0, gB, []⟩
def gc : kJ := ⟨1, gX, ⟨#[109, 101]⟩, ⟨zS, zS⟩, ⟨zS, zS⟩, zS⟩
def gx : kY := ⟨⟨gc, List.replicate 8 0⟩, TN⟩
def gk : nS := ⟨gX, TG, [gc]⟩
def gp : lT := ⟨⟨#[109, 101]⟩, [gx], [gk]⟩
def L6 : ByteArray := ⟨#[121, 111, 117]⟩
def gm (r : kI) : kJ := ⟨1, r, L6, ⟨zS, zS⟩, ⟨zS, zS⟩, zS⟩
theorem gv {l : List kJ} {F : List lf} (h : Jv l F) (d : ∀ c ∈ l, c.Kind = 1) (r : kI) : vF F L6 r = true ↔ ∃ c ∈ l, mI c = true ∧ c.Head = r ∧ c.lH = L6 := by
 unfold vF
 rw [pz wF, (h.xo (l.filter mI) (fun c => by rw [cD])).2]
 constructor
 ·intro g
  generalize j : (⟨r, L6⟩ : lf) = f at g
  cases g with
  | mem c a hk =>
   rw [cD] at a
   injection j with h1 i
   exact ⟨c, a.1, a.2, h1.symm, i.symm⟩
  | inc c w a hk _ => rw [d c (cD.1 a).1] at hk; exact absurd hk (by decide)
  | FH c b w a hk _ _ => rw [d c (cD.1 a).1] at hk; exact absurd hk (by decide)
  | both c w a hk _ _ => rw [d c (cD.1 a).1] at hk; exact absurd hk (by decide)
 ·rintro ⟨c, a, k, rfl, hw⟩
  rw [← hw]
  exact .mem c (cD.2 ⟨a, k⟩) (d c a)
end Go.Proofs.YtmlncblocfcmiaaGreat
namespace Go.Proofs.YtmlncblocfcmiaaGreat
open Go.RowKit
noncomputable def vD (l : List kJ) (peer : ByteArray) (r : kI) : Bool := @decide (pN (l.filter mI) ⟨r, peer⟩) (Classical.propDecidable _)
theorem EY (l : List kJ) (peer : ByteArray) (r : kI) : vD l peer r = true ↔ pN (l.filter mI) ⟨r, peer⟩ := by unfold vD; simp
theorem KE {l m : List kJ} (h : ∀ c ∈ l, c ∈ m) (peer : ByteArray) (r : kI) (b : vD l peer r = true) : vD m peer r = true := by
 rw [EY] at *
 exact b.mono (fun c a => by rw [cD] at *; exact ⟨h c a.1, a.2⟩)
theorem Su (l : List kJ) (h : l.length ≤ 1000000) (peer : ByteArray) : ∃ m, vJ l peer = some m ∧ ∀ r, qN r m.1 m.2.1 m.2.2.1 m.2.2.2.1 m.2.2.2.2.1 m.2.2.2.2.2.1 m.2.2.2.2.2.2 = some (vD l peer r) := by
 obtain ⟨C, T, i, ws, n, e, m, d, _⟩ := Mb l h
 unfold vJ
 rw [e, aA]
 refine ⟨_, rfl, fun r => ?_⟩
 unfold qN
 rw [pU]
 obtain ⟨b, a, g⟩ := Nl m C i ws [] n r peer
 rw [a]
 congr 1
 rw [bN, g, EY]
 exact pN.congr (fun c => by rw [d, cD]) _
noncomputable def KC (p : lT) (v : kI → Bool) (c : kJ) : Bool := decide ((pG p c).2 = 0) && uW v (pG p c).1
theorem Oj {p : lT} {v w : kI → Bool} (h : ∀ r, v r = true → w r = true) (c : kJ) (a : KC p v c = true) : KC p w c = true := by
 unfold KC uW at *
 simp only [aZ, bK] at *
 exact ⟨a.1, a.2.1, Lb h _ a.2.2⟩
def qH (s : List kJ) : Prop := s.Pairwise (fun a b => BI a b = true) ∧ ∀ c ∈ s, mI c = true
theorem qH.nodup {s : List kJ} (h : qH s) : s.Nodup := vx DC h.2 h.1
theorem qH.le {s t : List kJ} (h : qH s) (a : ∀ c ∈ s, c ∈ t) : s.length ≤ t.length := mZ h.nodup a
theorem qH.ext {s t : List kJ} (h : qH s) (k : qH t) (b : ∀ c, c ∈ s ↔ c ∈ t) : s = t :=
 wZ.unique DC (l := t) ⟨h.1, fun x => ⟨fun a => ⟨(b x).1 a, h.2 x a⟩, fun a => (b x).2 a.1⟩⟩ ⟨k.1, fun x => ⟨fun a => ⟨a, k.2 x a⟩, fun a => a.1⟩⟩
theorem qH.eq {s t : List kJ} (h : qH s) (k : qH t) (b : ∀ c ∈ s, c ∈ t) (i : t.length ≤ s.length) : s = t := by
 refine h.ext k fun c => ⟨b c, fun d => ?_⟩
 refine eQ fun g => ?_
 have := mZ (l := c :: s) (m := t) (dX.2 ⟨g, h.nodup⟩) (fun x a => by
  rcases aK.1 a with rfl | a
  ·exact d
  ·exact b x a)
 simp at this; omega
theorem qH.nil : qH [] := ⟨by simp, by simp⟩
theorem qH.filter {s : List kJ} (h : qH s) (p : kJ → Bool) : qH (s.filter p) := ⟨h.1.filter _, fun c a => h.2 c (cD.1 a).1⟩
def CY (p : lT) (c : kJ) : Prop := ∃ x ∈ p.kR, x.Signed.kJ = c
def sI (p : lT) (l : List kJ) (peer : ByteArray) (c : kJ) : Prop := CY p c ∧ mI c = true ∧ KC p (vD l peer) c = true
theorem wK {p : lT} {l m : List kJ} (h : ∀ c ∈ l, c ∈ m) {peer : ByteArray} {c : kJ} (a : sI p l peer c) : sI p m peer c := ⟨a.1, a.2.1, Oj (KE h peer) c a.2.2⟩
theorem yP {p : lT} {s : List kJ} (h : qH s) (b : ∀ c ∈ s, CY p c) : s.length ≤ p.kR.length := by
 have := h.le (t := p.kR.map (·.Signed.kJ)) (fun c a => by obtain ⟨x, d, e⟩ := b c a; exact bB.2 ⟨x, d, e⟩)
 simpa using this
theorem IR (p : lT) (hp : PB p) (l : List kJ) (n : l.length ≤ 1000000) (peer : ByteArray) : ∃ s, tz p l peer = some s ∧ qH s ∧ (∀ c, c ∈ s ↔ sI p l peer c) ∧ s.length ≤ p.kR.length := by
 obtain ⟨m, e, q⟩ := Su l n peer
 have := hp.DV
 unfold tz
 rw [e, aA, CZ p hp _ m q p.kR [] (by simp; omega), aU]
 have h1 : (p.kR.filter (Al p (vD l peer))).length ≤ p.kR.length := fV _ _
 obtain ⟨s, j, a⟩ := QY ((p.kR.filter (Al p (vD l peer))).map (·.Signed.kJ)) (by simp; omega)
 have i : qH s := ⟨a.1, fun c d => ((a.2 c).1 d).2⟩
 have hm : ∀ c, c ∈ s ↔ sI p l peer c := fun c => by
  rw [a.2, bB]
  constructor
  ·rintro ⟨⟨x, h, rfl⟩, g⟩
   obtain ⟨k, b⟩ := cD.1 h
   exact ⟨⟨x, k, rfl⟩, g, b⟩
  ·rintro ⟨⟨x, h, rfl⟩, g, b⟩
   exact ⟨⟨x, cD.2 ⟨h, b⟩, rfl⟩, g⟩
 exact ⟨s, j, i, hm, yP i (fun c d => ((hm c).1 d).1)⟩
structure Nd (a b : lT) (x y : List kJ) : Prop where
 sx : qH x
 sy : qH y
 fx : ∀ c, c ∈ x ↔ sI a y b.Name c
 fy : ∀ c, c ∈ y ↔ sI b x a.Name c
 least : ∀ X Y : List kJ, (∀ c, sI a Y b.Name c → c ∈ X) → (∀ c, sI b X a.Name c → c ∈ Y) → (∀ c ∈ x, c ∈ X) ∧ (∀ c ∈ y, c ∈ Y)
theorem Nd.ly {a b : lT} {x y : List kJ} (h : Nd a b x y) : y.length ≤ b.kR.length := yP h.sy (fun c d => ((h.fy c).1 d).1)
theorem Ie (a b : lT) (ha : PB a) (u : PB b) (F : a.kR.length ≤ 600000) (G : b.kR.length ≤ 600000) : ∀ (n : Nat) (x y : List kJ) (i : Int), qH x → qH y → (∀ c ∈ x, sI a y b.Name c) → (∀ c ∈ y, sI b x a.Name c) →
  (∀ X Y : List kJ, (∀ c, sI a Y b.Name c → c ∈ X) → (∀ c, sI b X a.Name c → c ∈ Y) → (∀ c ∈ x, c ∈ X) ∧ (∀ c ∈ y, c ∈ Y)) → a.kR.length + b.kR.length < n + x.length + y.length →
  ∃ v w j, qm a b n x y i = some (v, w, j) ∧ Nd a b v w
 | 0, x, y, i, sx, sy, g, k, hm, E => by
  have h1 := yP sx (fun c d => (g c d).1)
  have D := yP sy (fun c d => (k c d).1)
  omega
 | n + 1, x, y, i, sx, sy, g, k, hm, E => by
  have h1 := yP sx (fun c d => (g c d).1)
  have D := yP sy (fun c d => (k c d).1)
  obtain ⟨p, z, sp, mp, M⟩ := IR a ha y (by omega) b.Name
  obtain ⟨q, A, sq, l, O⟩ := IR b u x (by omega) a.Name
  have m : ∀ c ∈ x, c ∈ p := fun c d => (mp c).2 (g c d)
  have r : ∀ c ∈ y, c ∈ q := fun c d => (l c).2 (k c d)
  have J := sx.le m
  have L := sy.le r
  rw [qm, z, aA, A, aA]
  by_cases c1 : p.length = x.length ∧ q.length = y.length
  ·have e : ((if ((p.length : Int) == (x.length : Int)) then some ((q.length : Int) == (y.length : Int)) else some false) : Option Bool) = some true := by
    rw [c1.1, c1.2]; simp
   rw [e]
   simp only [aA, aJ]
   obtain rfl := sx.eq sp m (by omega)
   obtain rfl := sy.eq sq r (by omega)
   exact ⟨_, _, _, rfl, sx, sy, mp, l, hm⟩
  ·have e : ((if ((p.length : Int) == (x.length : Int)) then some ((q.length : Int) == (y.length : Int)) else some false) : Option Bool) = some false := by
    by_cases c2 : p.length = x.length
    ·have I : ¬ q.length = y.length := fun h => c1 ⟨c2, h⟩
     simp [c2]; omega
    ·have : ¬ ((p.length : Int) = (x.length : Int)) := by omega
     simp [this]
   rw [e]
   simp only [aA, aB, aG]
   refine Ie a b ha u F G n p q _ sp sq (fun c d => wK r ((mp c).1 d)) (fun c d => wK m ((l c).1 d)) (fun X Y s t => ?_) (by omega)
   obtain ⟨g1, g2⟩ := hm X Y s t
   exact ⟨fun c d => s c (wK g2 ((mp c).1 d)), fun c d => t c (wK g1 ((l c).1 d))⟩
theorem MX (a b : lT) (ha : PB a) (d : PB b) (g : a.kR.length ≤ 600000) (h : b.kR.length ≤ 600000) : ∃ x y j, wG a b = some (x, y, j) ∧ Nd a b x y :=
 Ie a b ha d g h lE [] [] 0 qH.nil qH.nil (by simp) (by simp) (fun _ _ _ _ => by simp) (by rw [ni]; simp; omega)
end Go.Proofs.YtmlncblocfcmiaaGreat
namespace Go.Proofs.YtmlncblocfcmiaaGreat
open Go.RowKit
def tK : Formula := ⟨2, 0, qL, []⟩
def sr (l : List kY) (d : kJ) : Option Formula := (l.find? fun x => lV x.Signed.kJ d).map (·.kO)
theorem Is (n : ByteArray) (l : List kY) (k : List nS) (c : kJ) : CY ⟨n, l, k⟩ c ↔ c ∈ l.map (·.Signed.kJ) := by
 unfold CY; rw [bB]
theorem Ny {l : List kY} {c : kJ} (h : c ∈ l.map (·.Signed.kJ)) : ∃ r, sr l c = some r := by
 unfold sr
 obtain ⟨x, b, rfl⟩ := bB.1 h
 cases a : l.find? (fun y => lV y.Signed.kJ x.Signed.kJ) with
 | none =>
  have := fS.1 a x b
  rw [mC.2 rfl] at this; exact absurd rfl this
 | some y => exact ⟨y.kO, rfl⟩
theorem NE (n : ByteArray) (l : List kY) (c : kJ) : pG ⟨n, l, []⟩ c = match sr l c with | none => (E4, 42) | some r => BQ r [] := by
 unfold pG zq sr xk
 simp only
 cases l.find? (fun x => lV x.Signed.kJ c) <;> rfl
theorem PV : BQ tK [] = (tK, 0) := by
 have h1 : oD tK = true := by decide +kernel
 have d : qw tK = tK := by
  rw [AB]
  have a : ¬ (tK.Op = 1) := by decide
  have b : ¬ (tK.Op = 4) := by decide
  simp only [a, b, aG]
  rw [show tK.Kids = [] from rfl, shapeL]
  unfold pX
  rw [oN]
  rfl
 have g : xU tK = (tK, 0) := by unfold xU; rw [h1, d, h1]; rfl
 unfold BQ
 rw [g, qa]; rfl
theorem LP : lF tK ≤ 10000000 := by unfold tK; rw [lF, nodesL]; omega
structure PP (p : mj) : Prop where
 o : PG p.kK
 c : PG p.Client
 lo : p.kK.kR.length ≤ 600000
 lc : p.Client.kR.length ≤ 600000
 f : lF p.Formula ≤ 10000000
end Go.Proofs.YtmlncblocfcmiaaGreat
namespace Go.Proofs.YtmlncblocfcmiaaGreat
open Go.RowKit
def QX : ByteArray := ⟨#[111, 119, 110]⟩
def MB : ByteArray := ⟨#[99, 108, 105]⟩
def sY : kI := ⟨⟨#[120]⟩, ⟨#[121]⟩⟩
def sZ : kI := ⟨⟨#[120]⟩, ⟨#[122]⟩⟩
def sc : kJ := ⟨1, sY, MB, ⟨zS, zS⟩, ⟨zS, zS⟩, zS⟩
def GB (r : kI) : Formula := ⟨1, 0, r, []⟩
def BY (c : kJ) (f : Formula) : kY := ⟨⟨c, List.replicate 8 0⟩, f⟩
theorem SU : mI sc = true := by decide +kernel
theorem Qg (v : kI → Bool) (r : kI) : qP v (GB r) = v r := by rw [wB]; rfl
theorem RE {c : kJ} (a : mI c = true) (hk : c.Kind = 1) {l : List kJ} (h : c ∈ l) : vD l c.lH c.Head = true := by
 rw [EY]
 exact .mem c (cD.2 ⟨h, a⟩) hk
theorem Rc : oD (GB sY) = true := by decide +kernel
end Go.Proofs.YtmlncblocfcmiaaGreat
