/- a part of a proof of OutcomeChecks -/
import Derived.Test.YtbnbdigcbldfhaaGreatRtSd
import Derived.Test.YtbnbdigcbldfhaaGreatO7Md
import Derived.Test.YtbnbdigcbldfhaaGreatRows
import Derived.WalkKit
import Derived.ProofKit
import Derived.OpenShut
import Derived.JoinedCond
import Derived.Deep.Slices
import Derived.Carry
import Derived.ChangeArms
import Derived.ChangeSame
set_option linter.all false
namespace Go.Proofs.YtbnbdigcbldfhaaGreat
open Go.IntKind renaming wrap → wi0
open Go.RowKit
theorem xX {c x : Bool} : (if c = true then some x else some false : Option Bool) = some (c && x) := by cases c <;> rfl
theorem Pf {c x : Bool} : (if c = true then some true else some x : Option Bool) = some (c || x) := by cases c <;> rfl
theorem sc {α : Type} (x : Option α) : (x.bind fun y => some y) = x := by cases x <;> rfl
theorem kf {x : Int} (a : -9223372036854775808 ≤ x) (h1 : x ≤ 9223372036854775807) : wi0 .i64 x = x := IntWalk.i64_in _ (by omega)
theorem sW {α : Type} (A : List α) (x : α) (B : List α) (i : Int) (h : i = (A.length : Int)) : kx (A ++ x :: B) i = some x := by
 subst h; rw [GA]; simp
theorem sF : jM = 18446744073709551615 + 1 := by rw [oG]
def Co {α : Type} (f1 : α → Option Bool) (z : α) : Nat → List α → Int → Int → Option (List α)
 | 0, _, _, _ => none
 | n + 1, l, i, j => if decide (j < (l.length : Int)) then
   ((kx l j).bind fun x => (f1 x).bind fun r => if (!r) then (kx l i).bind fun _ => some (l.set (Int.toNat i) x, wi0 .i64 (i + 1)) else some (l, i) : Option (List α × Int)).bind fun (c, a) => Co f1 z n c a (wi0 .i64 (j + 1))
  else (lI (decide (0 ≤ i) && decide (i ≤ (l.length : Int)))).bind fun _ => (lI (decide (0 ≤ i) && decide (i ≤ ((ml l (Int.toNat i) z).length : Int)))).bind fun _ => some ((ml l (Int.toNat i) z).take (Int.toNat i))
theorem ud {a b : Int} (c : 0 ≤ a) (h1 : a ≤ b) : lI (decide (0 ≤ a) && decide (a ≤ b)) = some () := by simp [lI, c, h1]
theorem Ji {α : Type} (f1 : α → Option Bool) (p : α → Bool) (z : α) : ∀ (rest out mid : List α) (n : Nat), rest.length < n → (out ++ mid ++ rest).length < 4611686018427387904 → mid ≠ [] → (∀ x ∈ rest, f1 x = some (p x)) →
  Co f1 z n (out ++ mid ++ rest) (out.length : Int) ((out.length + mid.length : Nat) : Int) = some (out ++ rest.filter fun x => !p x)
 | [], out, mid, 0, h, _, _, _ => by simp at h
 | [], out, mid, n + 1, _, c, hm, _ => by
  rw [Co, ap (by simp)]
  have h1 : out.length ≤ (out ++ mid ++ []).length := by simp
  rw [ud (by omega) (by omega)]
  simp only [aa]
  rw [ud (by omega) (by rw [tb _ _ _ (by simpa using h1)]; omega)]
  simp only [aa, db]
  rw [ET _ _ _ h1]
  simp
 | x :: rest, out, mid, 0, h, _, _, _ => by simp at h
 | x :: rest, out, mid, n + 1, h, c, hm, d => by
  have hlen : (out ++ mid ++ x :: rest).length = out.length + mid.length + rest.length + 1 := by simp; omega
  rw [hlen] at c
  rw [Co, aq (by rw [hlen]; simp; omega)]
  rw [sW (out ++ mid) x rest _ (by simp)]
  simp only [aa, d x (by simp)]
  rw [kf (x := ((out.length + mid.length : Nat) : Int) + 1) (by omega) (by omega)]
  have ih := Ji f1 p z rest
  cases hp : p x with
  | true =>
   simp only [aY, ae, aA, aa]
   have := ih out (mid ++ [x]) n (by simp at h; omega) (by simp; omega) (by simp) (fun y g => d y (by simp [g]))
   simp only [aB, bE, bt, aj, aD, bH] at this ⊢
   rw [show ((out.length + mid.length : Nat) : Int) + 1 = ((out.length + (mid.length + (0 + 1)) : Nat) : Int) by omega, this]
   simp [hp]
  | false =>
   obtain ⟨m, a, rfl⟩ : ∃ m a, mid = m :: a := by cases mid with
    | nil => exact absurd rfl hm
    | cons m a => exact ⟨m, a, rfl⟩
   simp only [bX, aK]
   rw [aB out (m :: a) (x :: rest), bE]
   rw [sW out m (a ++ x :: rest) _ rfl]
   simp only [aa]
   rw [kf (x := (out.length : Int) + 1) (by omega) (by simp at c; omega)]
   have := ih (out ++ [x]) (a ++ [x]) n (by simp at h; omega) (by simp at c ⊢; omega) (by simp) (fun y g => d y (by simp [g]))
   simp only [aB, bE, bt, aj, aD, bH] at this
   have i : (out ++ m :: (a ++ x :: rest)).set (Int.toNat (out.length : Int)) x = out ++ x :: (a ++ x :: rest) := by
    rw [db, List.set_append_right _ _ (aJ _)]; simp
   rw [i]
   simp only [aD] at c ⊢
   rw [show (out.length : Int) + 1 = ((out.length + (0 + 1) : Nat) : Int) by omega, show ((out.length + (a.length + 1) : Nat) : Int) + 1 = ((out.length + (0 + 1) + (a.length + (0 + 1)) : Nat) : Int) by omega, this]
   simp [hp]
def vd {α : Type} (f1 : α → Option Bool) : List α → Nat → Option Int
 | [], _ => some (-1)
 | x :: xs, i => (f1 x).bind fun r => if r then some (i : Int) else vd f1 xs (i + 1)
theorem Ak {α : Type} (f1 : α → Option Bool) (p : α → Bool) : ∀ (l : List α) (i : Nat), (∀ x ∈ l, f1 x = some (p x)) →
  (vd f1 l i = some (-1) ∧ ∀ x ∈ l, p x = false) ∨ ∃ A x B, l = A ++ x :: B ∧ (∀ y ∈ A, p y = false) ∧ p x = true ∧ vd f1 l i = some ((i + A.length : Nat) : Int)
 | [], i, _ => .inl ⟨rfl, by simp⟩
 | x :: l, i, h => by
  rw [vd, h x (by simp)]
  simp only [aa]
  cases hp : p x with
  | true => exact .inr ⟨[], x, l, rfl, by simp, hp, by simp⟩
  | false =>
   simp only [ae, aA]
   rcases Ak f1 p l (i + 1) (fun y a => h y (by simp [a])) with ⟨h1, c⟩ | ⟨A, y, B, rfl, h1, c, g⟩
   ·exact .inl ⟨h1, by intro y a; rcases ay.1 a with rfl | a; exact hp; exact c y a⟩
   ·refine .inr ⟨x :: A, y, B, rfl, ?_, c, ?_⟩
    ·intro z d; rcases ay.1 d with rfl | d
     ·exact hp
     ·exact h1 z d
    ·rw [g]; simp; omega
def GK {α : Type} (f1 : α → Option Bool) (z : α) (l : List α) : Option (List α) :=
 (vd f1 l 0).bind fun a => if (a == (-1)) then some l else Co f1 z jM l a (wi0 .i64 (a + 1))
theorem IQ {α : Type} (f1 : α → Option Bool) (p : α → Bool) (z : α) (l : List α) (d : l.length < 4611686018427387904) (h : ∀ x ∈ l, f1 x = some (p x)) : GK f1 z l = some (l.filter fun x => !p x) := by
 unfold GK
 rcases Ak f1 p l 0 h with ⟨h1, c⟩ | ⟨A, x, B, rfl, h1, c, g⟩
 ·rw [h1]
  simp only [aa, bc, aK]
  rw [List.filter_eq_self.2 (fun y a => by simp [c y a])]
 ·rw [g]
  simp only [aa, cd]
  rw [ap (by simp), kf (by omega) (by simp at d; omega)]
  have := Ji f1 p z B A [x] jM (by rw [oG]; simp at d; omega) (by simpa using d) (by simp) (fun y a => h y (by simp [a]))
  simp only [aB, bE, bt, aD, bH] at this
  rw [show (A.length : Int) + 1 = ((A.length + (0 + 1) : Nat) : Int) by omega, this]
  have i : A.filter (fun x => !p x) = A := List.filter_eq_self.2 (fun y a => by simp [h1 y a])
  rw [List.filter_append, i]
  simp [c]
def ph {α : Type} (eq : α → α → Bool) : α → List α → List α
 | _, [] => []
 | p, y :: ys => if eq y p then ph eq y ys else y :: ph eq y ys
def dd {α : Type} (eq : α → α → Bool) : List α → List α
 | [] => []
 | x :: xs => x :: ph eq x xs
def zo {α : Type} (eq : α → α → Bool) (i : Int) : Nat → List α → Int → Int → Option (List α × Int)
 | 0, _, _, _ => none
 | n + 1, l, k, j => if decide (j < ((l.length - Int.toNat i : Nat) : Int)) then
   ((kx (l.drop (Int.toNat i)) j).bind fun x => (kx (l.drop (Int.toNat i)) (wi0 .i64 (j - 1))).bind fun y => if !(eq x y) then (kx (l.drop (Int.toNat i)) j).bind fun z => (kx l k).bind fun _ => some (l.set (Int.toNat k) z, wi0 .i64 (k + 1)) else some (l, k) : Option (List α × Int)).bind fun (a, k') => zo eq i n a k' (wi0 .i64 (j + 1))
  else some (l, k)
def z7 {α : Type} (eq : α → α → Bool) (z : α) (l : List α) : Nat → Int → Option (List α)
 | 0, _ => none
 | n + 1, i => if decide (i < (l.length : Int)) then (kx l i).bind fun x => (kx l (wi0 .i64 (i - 1))).bind fun y => if eq x y then
    (lI (decide (0 ≤ i) && decide (i ≤ (l.length : Int)))).bind fun _ => (zo eq i jM l i 1).bind fun (a, k) => (lI (decide (0 ≤ k) && decide (k ≤ (a.length : Int)))).bind fun _ => (lI (decide (0 ≤ k) && decide (k ≤ ((ml a (Int.toNat k) z).length : Int)))).bind fun _ => some ((ml a (Int.toNat k) z).take (Int.toNat k))
   else z7 eq z l n (wi0 .i64 (i + 1))
  else some l
def DH {α : Type} (eq : α → α → Bool) (z : α) (l : List α) : Option (List α) := if decide ((l.length : Int) < 2) then some l else z7 eq z l jM 1
theorem Im {α : Type} (l : List α) (i : Nat) (j : Int) (a : 0 ≤ j) : kx (l.drop i) j = kx l ((i : Int) + j) := by
 obtain ⟨m, rfl⟩ : ∃ m : Nat, j = m := ⟨j.toNat, by omega⟩
 rw [show (i : Int) + (m : Int) = ((i + m : Nat) : Int) by omega, GA, GA, cq]
theorem Fv {α : Type} (eq : α → α → Bool) (i : Nat) : ∀ (rest out mid : List α) (p : α) (n : Nat), rest.length < n → (out ++ (mid ++ [p]) ++ rest).length < 4611686018427387904 → 1 ≤ i → i ≤ out.length →
  ∃ c, zo eq (i : Int) n (out ++ (mid ++ [p]) ++ rest) (out.length : Int) ((out.length + mid.length + 1 - i : Nat) : Int) = some (c, ((out ++ ph eq p rest).length : Int)) ∧ c.take (out ++ ph eq p rest).length = out ++ ph eq p rest ∧ (out ++ ph eq p rest).length ≤ c.length
 | [], out, mid, p, 0, h, _, _, _ => by simp at h
 | [], out, mid, p, n + 1, h, o, h1, k => by
  rw [zo, ap (by simp; omega)]
  exact ⟨out ++ (mid ++ [p]) ++ [], by simp [ph], by simp [ph], by simp [ph]⟩
 | x :: rest, out, mid, p, 0, h, _, _, _ => by simp at h
 | x :: rest, out, mid, p, n + 1, h, o, h1, k => by
  have hlen : (out ++ (mid ++ [p]) ++ x :: rest).length = out.length + mid.length + rest.length + 2 := by simp; omega
  rw [hlen] at o
  rw [zo, aq (by rw [hlen]; simp; omega)]
  rw [db, Im _ _ _ (by omega), sW (out ++ (mid ++ [p])) x rest _ (by simp; omega)]
  simp only [aa]
  rw [kf (x := ((out.length + mid.length + 1 - i : Nat) : Int) - 1) (by omega) (by omega), Im _ _ _ (by omega)]
  rw [show out ++ (mid ++ [p]) ++ x :: rest = (out ++ mid) ++ p :: (x :: rest) by simp]
  rw [sW (out ++ mid) p (x :: rest) _ (by simp; omega)]
  simp only [aa]
  rw [kf (x := ((out.length + mid.length + 1 - i : Nat) : Int) + 1) (by omega) (by omega)]
  cases hp : eq x p with
  | true =>
   simp only [aY, ae, aA, aa]
   obtain ⟨c, d, g, j⟩ := Fv eq i rest out (mid ++ [p]) x n (by simp at h; omega) (by simp; omega) h1 k
   refine ⟨c, ?_, by rw [ph, hp]; exact g, by rw [ph, hp]; exact j⟩
   rw [ph, hp, aq rfl, ← d]
   congr 1
   ·simp
   ·simp; omega
  | false =>
   simp only [bX, aK]
   obtain ⟨m, a, hm⟩ : ∃ m a, mid ++ [p] = m :: a := by cases mid with
    | nil => exact ⟨p, [], rfl⟩
    | cons m a => exact ⟨m, a ++ [p], rfl⟩
   have s : a.length = mid.length := by have := aw List.length hm; simp at this; omega
   rw [show (out ++ mid) ++ p :: (x :: rest) = out ++ m :: (a ++ x :: rest) by rw [← bE, ← hm]; simp]
   rw [sW out m (a ++ x :: rest) _ rfl]
   simp only [aa]
   rw [kf (x := (out.length : Int) + 1) (by omega) (by omega)]
   have t : (out ++ m :: (a ++ x :: rest)).set (Int.toNat (out.length : Int)) x = (out ++ [x]) ++ (a ++ [x]) ++ rest := by
    rw [db, List.set_append_right _ _ (aJ _)]; simp
   rw [t]
   obtain ⟨c, d, g, j⟩ := Fv eq i rest (out ++ [x]) a x n (by simp at h; omega) (by simp; omega) h1 (by simp; omega)
   refine ⟨c, ?_, ?_, ?_⟩
   ·rw [ph, hp, ap (by decide)]
    have q : ((out ++ x :: ph eq x rest).length : Int) = ((out ++ [x] ++ ph eq x rest).length : Int) := by simp
    rw [q, ← d]
    congr 1
    ·simp
    ·simp; omega
   ·rw [ph, hp, ap (by decide)]; simpa using g
   ·rw [ph, hp, ap (by decide)]; simpa using j
theorem JE {α : Type} (eq : α → α → Bool) (z : α) : ∀ (rest pre : List α) (p : α) (n : Nat), rest.length < n → (pre ++ p :: rest).length < 4611686018427387904 →
  z7 eq z (pre ++ p :: rest) n ((pre.length + 1 : Nat) : Int) = some (pre ++ p :: ph eq p rest)
 | [], pre, p, 0, h, _ => by simp at h
 | [], pre, p, n + 1, h, i => by rw [z7, ap (by simp)]; simp [ph]
 | x :: rest, pre, p, 0, h, _ => by simp at h
 | x :: rest, pre, p, n + 1, h, i => by
  have hlen : (pre ++ p :: x :: rest).length = pre.length + rest.length + 2 := by simp; omega
  rw [hlen] at i
  rw [z7, aq (by rw [hlen]; simp; omega)]
  rw [show pre ++ p :: x :: rest = (pre ++ [p]) ++ x :: rest by simp, sW (pre ++ [p]) x rest _ (by simp)]
  simp only [aa]
  rw [kf (x := ((pre.length + 1 : Nat) : Int) - 1) (by omega) (by omega)]
  rw [show (pre ++ [p]) ++ x :: rest = pre ++ p :: (x :: rest) by simp, sW pre p (x :: rest) _ (by omega)]
  simp only [aa]
  cases hp : eq x p with
  | true =>
   simp only [aK]
   rw [ud (by omega) (by rw [hlen]; omega)]
   simp only [aa]
   obtain ⟨j, a, g, d⟩ := Fv eq (pre.length + 1) rest (pre ++ [p]) [] x jM (by rw [oG]; omega) (by simp; omega) (by omega) (by simp)
   simp only [aB, bE, bt, aj, aD, bH] at a g d
   rw [show (pre.length + (0 + 1) + 0 + 1 - (pre.length + 1) : Nat) = 1 by omega] at a
   rw [show ((pre.length + 1 : Nat) : Int) = ((pre.length + (0 + 1) : Nat) : Int) by omega] at *
   have c : zo eq ((pre.length + (0 + 1) : Nat) : Int) jM (pre ++ p :: x :: rest) ((pre.length + (0 + 1) : Nat) : Int) 1 = _ := a
   rw [c]
   simp only [aa]
   rw [ud (by omega) (by omega)]
   simp only [aa, db]
   rw [ud (by omega) (by rw [tb _ _ _ d]; omega)]
   simp only [aa]
   rw [ET _ _ _ d, g, ph, hp]
   simp
  | false =>
   simp only [ae, aA]
   rw [kf (x := ((pre.length + 1 : Nat) : Int) + 1) (by omega) (by omega)]
   have := JE eq z rest (pre ++ [p]) x n (by simp at h; omega) (by simp; omega)
   simp only [aB, bE, bt, aj, aD, bH] at this
   rw [show ((pre.length + 1 : Nat) : Int) + 1 = ((pre.length + (0 + 1) + 1 : Nat) : Int) by omega, this, ph, hp]
   simp
theorem Ft {α : Type} (eq : α → α → Bool) (z : α) (l : List α) (a : l.length < 4611686018427387904) : DH eq z l = some (dd eq l) := by
 unfold DH
 cases l with
 | nil => rfl
 | cons x xs =>
  cases xs with
  | nil => simp [dd, ph]
  | cons y ys =>
   rw [ap (by simp; omega)]
   have := JE eq z (y :: ys) [] x jM (by rw [oG]; simp at a ⊢; omega) (by simpa using a)
   simpa [dd] using this
structure zh {α : Type} (lt : α → α → Prop) (P : α → Prop) : Prop where
 irrefl : ∀ x, P x → ¬ lt x x
 trans : ∀ x y z, P x → P y → P z → lt x y → lt y z → lt x z
 total : ∀ x y, P x → P y → lt x y ∨ x = y ∨ lt y x
def sO {α : Type} (lt : α → α → Prop) (P : α → Prop) (l out : List α) : Prop := out.Pairwise lt ∧ ∀ x, x ∈ out ↔ x ∈ l ∧ P x
theorem sO.unique {α : Type} {lt : α → α → Prop} {P : α → Prop} (H : zh lt P) : ∀ {l a b : List α}, sO lt P l a → sO lt P l b → a = b := by
 have key : ∀ a b : List α, (∀ x ∈ a, P x) → a.Pairwise lt → b.Pairwise lt → (∀ x, x ∈ a ↔ x ∈ b) → a = b := by
  intro a
  induction a with
  | nil => intro b _ _ _ hm; cases b with
   | nil => rfl
   | cons y ys => exact absurd ((hm y).2 (by simp)) (by simp)
  | cons x xs ih =>
   intro b n j k hm
   cases b with
   | nil => exact absurd ((hm x).1 (by simp)) (by simp)
   | cons y ys =>
    have o : P y := n y ((hm y).2 (by simp))
    have c : P x := n x (by simp)
    have d := dM.1 j
    have g := dM.1 k
    have p : x = y := by
     rcases ay.1 ((hm x).1 (by simp)) with h | h
     ·exact h
     ·rcases ay.1 ((hm y).2 (by simp)) with m | m
      ·exact m.symm
      ·exact absurd (H.trans x y x c o c (d.1 y m) (g.1 x h)) (H.irrefl x c)
    subst p
    congr 1
    refine ih ys (fun z i => n z (by simp [i])) d.2 g.2 (fun z => ?_)
    constructor
    ·intro i
     rcases ay.1 ((hm z).1 (by simp [i])) with h | h
     ·subst h; exact absurd (d.1 z i) (H.irrefl z c)
     ·exact h
    ·intro i
     rcases ay.1 ((hm z).2 (by simp [i])) with h | h
     ·subst h; exact absurd (g.1 z i) (H.irrefl z c)
     ·exact h
 intro l a b j k
 exact key a b (fun x q => ((j.2 x).1 q).2) j.1 k.1 (fun x => (j.2 x).trans (k.2 x).symm)
theorem Cl {α : Type} {eq : α → α → Bool} (he : ∀ x y, eq x y = true ↔ x = y) : ∀ (l : List α) (p x : α), x ∈ p :: ph eq p l ↔ x ∈ p :: l
 | [], p, x => by simp [ph]
 | y :: l, p, x => by
  rw [ph]
  split
  ·rename_i h
   have := (he y p).1 h
   subst this
   rw [Cl he l y x]; simp
  ·have := Cl he l y x
   simp only [ay] at this ⊢
   rw [this]
theorem QE {α : Type} {eq : α → α → Bool} (he : ∀ x y, eq x y = true ↔ x = y) (l : List α) (x : α) : x ∈ dd eq l ↔ x ∈ l := by
 cases l with
 | nil => simp [dd]
 | cons y l => exact Cl he l y x
theorem Bk {α : Type} {eq : α → α → Bool} {lt : α → α → Prop} {P : α → Prop} (he : ∀ x y, eq x y = true ↔ x = y) (H : zh lt P) : ∀ (l : List α) (p : α), (∀ x ∈ p :: l, P x) → (p :: l).Pairwise (fun a b => ¬ lt b a) → (p :: ph eq p l).Pairwise lt
 | [], p, _, _ => by simp [ph]
 | y :: l, p, c, n => by
  have h1 := dM.1 n
  rw [ph]
  split
  ·rename_i h
   have := (he y p).1 h
   subst this
   exact Bk he H l y (fun x i => c x (cM _ i)) h1.2
  ·rename_i h
   have ih := Bk he H l y (fun x i => c x (cM _ i)) h1.2
   refine dM.2 ⟨fun z m => ?_, ih⟩
   have g : lt p y := by
    rcases H.total p y (c p (by simp)) (c y (by simp)) with d | d | d
    ·exact d
    ·exact absurd ((he y p).2 d.symm) h
    ·exact absurd d (h1.1 y (by simp))
   rcases ay.1 m with rfl | j
   ·exact g
   ·have k : z ∈ y :: l := (Cl he l y z).1 m
    exact H.trans p y z (c p (by simp)) (c y (by simp)) (c z (cM _ k)) g ((dM.1 ih).1 z j)
theorem MA {α : Type} {eq : α → α → Bool} {lt : α → α → Prop} {P : α → Prop} (he : ∀ x y, eq x y = true ↔ x = y) (H : zh lt P) (l : List α) (c : ∀ x ∈ l, P x) (d : l.Pairwise (fun a b => ¬ lt b a)) : (dd eq l).Pairwise lt := by
 cases l with
 | nil => simp [dd]
 | cons y l => exact Bk he H l y c d
theorem HG {α : Type} {le : α → α → Bool} {P : α → Prop} (i : ∀ a b c, P a → P b → P c → le a b = true → le b c = true → le a c = true) (h : ∀ a b, P a → P b → (le a b || le b a) = true) (l : List α) (d : ∀ x ∈ l, P x) :
  (l.mergeSort le).Pairwise (fun a b => le a b = true) := by
 have e : l = (l.attachWith P d).map Subtype.val := by simp
 have hm : ((l.attachWith P d).mergeSort fun a b => le a.1 b.1).map Subtype.val = l.mergeSort le := by
  conv => rhs; rw [e]
  exact eG (fun a _ b _ => rfl)
 rw [← hm, dX]
 exact eX (le := fun (a b : {x // P x}) => le a.1 b.1) (fun a b c h1 g => i a.1 b.1 c.1 a.2 b.2 c.2 h1 g) (fun a b => h a.1 b.1 a.2 b.2) _
theorem yE {α : Type} {eq : α → α → Bool} {lt : α → α → Prop} {P : α → Prop} {cf : α × α → Option Int} {l : List α} (he : ∀ x y, eq x y = true ↔ x = y) (H : zh lt P) (g : ∀ x ∈ l, P x) (D : l.length < 4611686018427387904) (A : ∀ x y, P x → P y → ∃ c, cf (x, y) = some c ∧ (c < 0 ↔ lt x y)) : ∃ s, wg cf l = some s ∧ s.length = l.length ∧ sO lt P l (dd eq s) := by
 have j : ∀ x y, P x → P y → (rj cf x y = true ↔ lt x y) := fun x y i n => by
  obtain ⟨c, h1, m⟩ := A x y i n
  unfold rj
  rw [h1]
  simpa using m
 have d : ∀ x y, P x → P y → (rj cf x y = false ↔ ¬ lt x y) := fun x y i n => by
  rw [← j x y i n]; simp
 have ok : DF cf l := by
  refine ⟨fun x i y n => ?_, fun x i => ?_, fun x i y n z v h1 m => ?_, fun x i y n h1 m => ?_, D⟩
  ·obtain ⟨c, h1, _⟩ := A x y (g x i) (g y n); exact ⟨c, h1⟩
  ·exact (d x x (g x i) (g x i)).2 (H.irrefl x (g x i))
  ·rw [j _ _ (g x i) (g y n)] at h1
   rw [j _ _ (g y n) (g z v)] at m
   rw [j _ _ (g x i) (g z v)]
   exact H.trans x y z (g x i) (g y n) (g z v) h1 m
  ·rw [d _ _ (g x i) (g y n)] at h1
   rw [d _ _ (g y n) (g x i)] at m
   rcases H.total x y (g x i) (g y n) with h | h | h
   ·exact absurd h h1
   ·exact h
   ·exact absurd h m
 refine ⟨_, JM ok, by simp [ol], ?_, ?_⟩
 ·have k : ∀ x, x ∈ ol cf l ↔ x ∈ l := fun x => by simp [ol]
  refine MA he H _ (fun x i => g x ((k x).1 i)) ?_
  have := HG (le := fun x y => !rj cf y x) (P := P) (fun a b c o p q h1 m => ?_) (fun a b o p => ?_) l g
  ·refine (this.imp_of_mem ?_ : _)
   intro a b o p h
   have t : a ∈ l := (k a).1 o
   have u : b ∈ l := (k b).1 p
   simp at h
   exact (d b a (g b u) (g a t)).1 h
  ·simp at h1 m ⊢
   rw [d _ _ p o] at h1
   rw [d _ _ q p] at m
   rw [d _ _ q o]
   intro w
   rcases H.total a b o p with h | h | h
   ·exact m (H.trans c a b q o p w h)
   ·subst h; exact m w
   ·exact h1 h
  ·simp only [dO, Bool.not_eq_true']
   rw [d _ _ p o, d _ _ o p]
   by_cases h : lt b a
   ·right; intro m; exact H.irrefl a o (H.trans a b a o p o m h)
   ·exact .inl h
 ·intro x
  rw [QE he]
  constructor
  ·intro i
   have : x ∈ l := by simpa [ol] using i
   exact ⟨this, g x this⟩
  ·intro i; simpa [ol] using i.1
theorem DR : ∀ a : List UInt8, Op.bytesLess a a = false
 | [] => rfl
 | x :: a => by simp [Op.bytesLess, DR a]
theorem JB (x y : UInt8) : x < y ∨ x = y ∨ y < x := by
 rcases Nat.lt_trichotomy x.toNat y.toNat with h | h | h
 ·exact .inl h
 ·exact .inr (.inl (UInt8.toNat_inj.1 h))
 ·exact .inr (.inr h)
theorem EZ : ∀ a b c : List UInt8, Op.bytesLess a b = true → Op.bytesLess b c = true → Op.bytesLess a c = true
 | [], [], c, h1, _ => by simp [Op.bytesLess] at h1
 | _ :: _, [], c, h1, _ => by simp [Op.bytesLess] at h1
 | a, _ :: _, [], _, d => by simp [Op.bytesLess] at d
 | [], b :: g, c :: cs, _, _ => rfl
 | a :: ax, b :: g, c :: cs, h1, d => by
  simp only [Op.bytesLess, dO, bz, az, fM] at h1 d ⊢
  rcases h1 with h1 | ⟨rfl, h1⟩
  ·rcases d with d | ⟨rfl, d⟩
   ·exact .inl (UInt8.lt_trans h1 d)
   ·exact .inl h1
  ·rcases d with d | ⟨rfl, d⟩
   ·exact .inl d
   ·exact .inr ⟨rfl, EZ ax g cs h1 d⟩
theorem E1 : ∀ a b : List UInt8, Op.bytesLess a b = true ∨ a = b ∨ Op.bytesLess b a = true
 | [], [] => .inr (.inl rfl)
 | [], _ :: _ => .inl rfl
 | _ :: _, [] => .inr (.inr rfl)
 | a :: ax, b :: c => by
  simp only [Op.bytesLess, dO, bz, az, fM, bi]
  rcases JB a b with h | h | h
  ·exact .inl (.inl h)
  ·subst h
   rcases E1 ax c with h | h | h
   ·exact .inl (.inr ⟨rfl, h⟩)
   ·exact .inr (.inl ⟨rfl, h⟩)
   ·exact .inr (.inr (.inr ⟨rfl, h⟩))
  ·exact .inr (.inr (.inl h))
theorem Em : ∀ a b : List UInt8, (Lib.compareBytes a b < 0 ↔ Op.bytesLess a b = true)
 | [], [] => by simp [Lib.compareBytes, Op.bytesLess]
 | [], _ :: _ => by simp [Lib.compareBytes, Op.bytesLess]
 | _ :: _, [] => by simp [Lib.compareBytes, Op.bytesLess]
 | a :: ax, b :: g => by
  simp only [Lib.compareBytes, Op.bytesLess, dO, bz, az, fM]
  by_cases h : a < b
  ·simp [h]
  ·by_cases d : b < a
   ·have : a ≠ b := by rintro rfl; exact h d
    simp [h, d, this]
   ·have : a = b := by rcases JB a b with c | c | c; exact absurd c h; exact c; exact absurd c d
    subst this
    simp [h, Em ax g]
theorem Fo : ∀ a b : List UInt8, (Lib.compareBytes a b = 0 ↔ a = b)
 | [], [] => by simp [Lib.compareBytes]
 | [], _ :: _ => by simp [Lib.compareBytes]
 | _ :: _, [] => by simp [Lib.compareBytes]
 | a :: ax, b :: g => by
  simp only [Lib.compareBytes, bi]
  by_cases h : a < b
  ·simp only [h, aK]
   constructor
   ·intro h; cases h
   ·rintro ⟨rfl, _⟩; exact absurd h (by simp)
  ·by_cases d : b < a
   ·simp only [h, d, aK, aA]
    constructor
    ·intro h; cases h
    ·rintro ⟨rfl, _⟩; exact absurd d (by simp)
   ·have : a = b := by rcases JB a b with c | c | c; exact absurd c h; exact c; exact absurd c d
    subst this
    simp [h, Fo ax g]
theorem yh (a b : ByteArray) : nX a b = Op.bytesLess a.data.toList b.data.toList := by unfold nX; rw [dB, dB]
theorem z1 {a b : ByteArray} (h : a.data.toList = b.data.toList) : a = b := gV (Array.toList_inj.1 h)
theorem rX (a : ByteArray) : nX a a = false := by rw [yh, DR]
theorem yQ {a b c : ByteArray} (h1 : nX a b = true) (d : nX b c = true) : nX a c = true := by rw [yh] at *; exact EZ _ _ _ h1 d
theorem yH (a b : ByteArray) : nX a b = true ∨ a = b ∨ nX b a = true := by
 rw [yh, yh]
 rcases E1 a.data.toList b.data.toList with h | h | h
 ·exact .inl h
 ·exact .inr (.inl (z1 h))
 ·exact .inr (.inr h)
theorem Ho {a b : ByteArray} (h : nX a b = true) : nX b a = false := by
 cases c : nX b a with
 | false => rfl
 | true => have := yQ h c; rw [rX] at this; cases this
theorem Er (P : ByteArray → Prop) : zh (fun a b => nX a b = true) P :=
 ⟨fun x _ h => (by rw [rX] at h; cases h), fun x y z _ _ _ => yQ, fun x y _ _ => yH x y⟩
def An (b : UInt8) : Bool := decide (97 ≤ b.toNat) && decide (b.toNat ≤ 122)
def B0 (b : UInt8) : Bool := An b || (decide (48 ≤ b.toNat) && decide (b.toNat ≤ 57)) || decide (b.toNat = 45)
def kM (s : ByteArray) : Bool := decide (1 ≤ s.size) && decide (s.size ≤ 16) && (match s.data.toList with | [] => false | b :: _ => An b) && s.data.toList.all B0
theorem lo {s : ByteArray} (h : kM s = true) : 1 ≤ s.size ∧ s.size ≤ 16 := by
 simp only [kM, az, bz] at h
 exact h.1.1
theorem Lu : ∀ n : Nat, n < 256 → decide (wu (⟨#[97, 98, 99, 100, 101, 102, 103, 104, 105, 106, 107, 108, 109, 110, 111, 112, 113, 114, 115, 116, 117, 118, 119, 120, 121, 122]⟩ : ByteArray) (n : Int) ≥ 0) = An (UInt8.ofNat n) := by decide +kernel
theorem OP : ∀ n : Nat, n < 256 → decide (wu (⟨#[97, 98, 99, 100, 101, 102, 103, 104, 105, 106, 107, 108, 109, 110, 111, 112, 113, 114, 115, 116, 117, 118, 119, 120, 121, 122, 48, 49, 50, 51, 52, 53, 54, 55, 56, 57, 45]⟩ : ByteArray) (n : Int) < 0) = !B0 (UInt8.ofNat n) := by decide +kernel
theorem vJ (s : ByteArray) : s.size = s.data.toList.length := by rw [bL]; rfl
theorem Bo {s : ByteArray} (h : s.size ≤ 16) : B3 s = some (rO s) := by
 unfold B3; rw [aq (by unfold maxLen; omega)]
theorem IS : ∀ l : List UInt8, uk (l.map fun b => (b.toNat : Int)) = some (l.all B0)
 | [] => rfl
 | b :: l => by
  rw [aO, uk]
  simp only [qp, nc, aa]
  have a := OP b.toNat (gK b)
  rw [a]
  simp only [gU, eB]
  cases B0 b with
  | true => simp [IS l]
  | false => simp
theorem Hm {s : ByteArray} {b : UInt8} {l : List UInt8} (h : s.data.toList = b :: l) : zn s 0 = some b := by
 unfold zn
 rw [aq (Int.le_refl 0)]
 have a : s.data[0]? = some b := by rw [← bR, h]; rfl
 show s[0]? = some b
 rw [← a]
 rfl
theorem pW (s : ByteArray) : nO s = some (kM s) := by
 unfold nO
 simp only [xX, aa, sc]
 by_cases h1 : 1 ≤ s.size
 ·by_cases a : s.size ≤ 16
  ·rw [aq (by simp; omega)]
   obtain ⟨b, l, c⟩ : ∃ b l, s.data.toList = b :: l := by
    cases h : s.data.toList with
    | nil => rw [vJ, h] at h1; simp at h1
    | cons b l => exact ⟨b, l, rfl⟩
   rw [Hm c]
   simp only [aa, qp, nc]
   rw [Lu b.toNat (gK b)]
   simp only [gU, kM, h1, a, c, di, dj]
   cases An b with
   | false => simp
   | true =>
    simp only [aK, Bh, Bo a, aa, rO]
    rw [IS, c]
    simp
  ·rw [ap (by simp; omega)]
   simp [kM, a]
 ·rw [ap (by simp; omega)]
  simp [kM, h1]
theorem Pt {s : ByteArray} {A B : List UInt8} {b : UInt8} (h : s.data.toList = A ++ b :: B) (i : Int) (c : i = (A.length : Int)) : zn s i = some b := by
 subst c
 unfold zn
 rw [aq (by omega), db]
 have a : s.data[A.length]? = some b := by rw [← bR, h]; simp
 show s[A.length]? = some b
 rw [← a]
 rfl
theorem DV (s : ByteArray) (v : s.size ≤ 16) : ∀ (B A : List UInt8) (n : Nat), s.data.toList = A ++ B → B.length < n → pd s n (A.length : Int) = some (B.all B0)
  | [], A, 0, _, h => by simp at h
  | [], A, n + 1, h, _ => by
    have : s.size = A.length := by rw [vJ, h]; simp
    rw [pd, ap (by rw [this]; simp)]
    rfl
  | b :: B, A, 0, _, h => by simp at h
  | b :: B, A, n + 1, h, u => by
    have k : s.size = A.length + B.length + 1 := by rw [vJ, h]; simp; omega
    rw [pd, aq (by rw [k]; simp; omega)]
    rw [Pt h _ rfl]
    simp only [aa]
    rw [kf (x := (A.length : Int) + 1) (by omega) (by omega)]
    have ih := DV s v B (A ++ [b]) n (by rw [h]; simp) (by simp at u; omega)
    rw [show ((A ++ [b]).length : Int) = (A.length : Int) + 1 by simp] at ih
    simp only [eB]
    have j : ∀ n : Nat, n < 256 → B0 (UInt8.ofNat n) = !((decide (n < 97) || decide (n > 122)) && (decide (n < 48) || decide (n > 57)) && decide (n ≠ 45)) := by decide +kernel
    have m := j b.toNat (gK b)
    simp only [gU] at m
    rw [m]
    by_cases h1 : b.toNat < 97 <;> by_cases o : b.toNat > 122 <;> by_cases p : b.toNat < 48 <;> by_cases q : b.toNat > 57 <;> by_cases t : b.toNat = 45 <;>
      first
      | omega
      | (have a : ((b.toNat : Int) < 97) = (b.toNat < 97) := by rw [gL]; omega
         have c : ((b.toNat : Int) > 122) = (b.toNat > 122) := by rw [gL]; omega
         have d : ((b.toNat : Int) < 48) = (b.toNat < 48) := by rw [gL]; omega
         have g : ((b.toNat : Int) > 57) = (b.toNat > 57) := by rw [gL]; omega
         have i : ((b.toNat : Int) != 45) = !decide (b.toNat = 45) := by rw [aM]; simp; omega
         simp [h1, o, p, q, t, a, c, d, g, i, ih])
theorem uw (a : ByteArray) : kc a a = true := kG.2 rfl
theorem P8 : zS.size = 0 := rfl
theorem Pg {s : ByteArray} : s = zS ↔ s.size = 0 := by
 constructor
 ·rintro rfl; rfl
 ·intro h; exact z1 (by rw [vJ] at h; rw [cD.1 h]; rfl)
theorem xi (s : ByteArray) : qh s = some (kM s) := by
 unfold qh
 simp only [Pf, aa, sc]
 by_cases g : s.size = 0
 ·have : s = zS := Pg.2 g
  subst this
  rw [uw]
  rfl
 ·have n : kc s zS = false := by
   cases h : kc s zS with
   | false => rfl
   | true => exact absurd (Pg.1 (kG.1 h)) g
  rw [n]
  simp only [ir]
  by_cases i : s.size ≤ 16
  ·rw [ap (by simp; omega)]
   obtain ⟨b, l, k⟩ : ∃ b l, s.data.toList = b :: l := by
    cases h : s.data.toList with
    | nil => rw [vJ, h] at g; simp at g
    | cons b l => exact ⟨b, l, rfl⟩
   rw [Hm k]
   simp only [aa, Pf]
   have m := DV s i s.data.toList [] jM rfl (by rw [oG, ← vJ]; omega)
   simp only [bH] at m
   rw [show (0 : Int) = ((0 : Nat) : Int) from rfl] at *
   rw [m]
   have j : ((b.toNat : Int) < 97) = (b.toNat < 97) := by rw [gL]; omega
   have d : ((b.toNat : Int) > 122) = (b.toNat > 122) := by rw [gL]; omega
   have h1 : 1 ≤ s.size := by omega
   simp only [kM, h1, i, k, An, di, dj, j, d]
   by_cases a : b.toNat < 97
   ·simp [a, show ¬ 97 ≤ b.toNat by omega]
   ·by_cases c : b.toNat > 122
    ·simp [a, c, show ¬ b.toNat ≤ 122 by omega]
    ·simp [a, c, show 97 ≤ b.toNat by omega, show b.toNat ≤ 122 by omega]
  ·rw [aq (by simp; omega)]
   simp [kM, i]
def kp (r : iR) : Bool := kM r.ja && kM r.jt
theorem rk (r : iR) : nl r = some (kp r) := by
 unfold nl kp
 simp only [pW, aa]
 cases kM r.ja <;> simp
theorem Al (r : iR) : rJ r = some (kp r) := by
 unfold rJ kp
 simp only [xi, aa]
 cases kM r.ja <;> simp
def zp (a b : iR) : Bool := nX a.ja b.ja || (kc a.ja b.ja && nX a.jt b.jt)
theorem AN (a b : iR) : vA a b = some (zp a b) := by
 unfold vA zp
 cases nX a.ja b.ja <;> cases kc a.ja b.ja <;> simp
theorem KD {a b : ByteArray} (h : a ≠ b) : kc a b = false := by
 cases c : kc a b with
 | false => rfl
 | true => exact absurd (kG.1 c) h
theorem zT {a b : iR} : zp a b = true ↔ nX a.ja b.ja = true ∨ (a.ja = b.ja ∧ nX a.jt b.jt = true) := by
 simp [zp, kG]
theorem Ic (P : iR → Prop) : zh (fun a b => zp a b = true) P := by
 refine ⟨fun x _ h => ?_, fun x y z _ _ _ h1 c => ?_, fun x y _ _ => ?_⟩
 ·rw [zT] at h
  simp [rX] at h
 ·rw [zT] at *
  rcases h1 with h1 | ⟨g, h1⟩
  ·rcases c with c | ⟨d, c⟩
   ·exact .inl (yQ h1 c)
   ·exact .inl (by rw [← d]; exact h1)
  ·rcases c with c | ⟨d, c⟩
   ·exact .inl (by rw [g]; exact c)
   ·exact .inr ⟨g.trans d, yQ h1 c⟩
 ·simp only [zT]
  rcases yH x.ja y.ja with h | h | h
  ·exact .inl (.inl h)
  ·rcases yH x.jt y.jt with c | c | c
   ·exact .inl (.inr ⟨h, c⟩)
   ·refine .inr (.inl ?_)
    cases x; cases y; simp at h c; simp [h, c]
   ·exact .inr (.inr (.inr ⟨h.symm, c⟩))
  ·exact .inr (.inr (.inl h))
theorem tY (a b : iR) : ∃ c, lP a b = some c ∧ (c < 0 ↔ zp a b = true) := by
 unfold lP
 simp only [ov, lU, aa, sx, rq]
 have h1 : ∀ a b : ByteArray, (nJ a b < 0 ↔ nX a b = true) := fun a b => by rw [yh]; exact Em _ _
 have g : ∀ a b : ByteArray, (nJ a b = 0 ↔ a = b) := fun a b => by
  unfold nJ; rw [Fo]; exact ⟨z1, fun h => by rw [h]⟩
 by_cases e : nJ a.ja b.ja = 0
 ·rw [ap (by simp [e])]
  have e' := (g _ _).1 e
  by_cases d : nJ a.jt b.jt = 0
  ·rw [ap (by simp [d])]
   refine ⟨0, rfl, ?_⟩
   rw [zT, e', (g _ _).1 d]
   simp [rX]
  ·rw [aq (by simp [d])]
   refine ⟨_, rfl, ?_⟩
   rw [zT, e', h1]
   simp [rX]
 ·rw [aq (by simp [e])]
  refine ⟨_, rfl, ?_⟩
  rw [zT, h1]
  have : a.ja ≠ b.ja := fun h => e ((g _ _).2 h)
  simp [this]
def zR : iR := ⟨zS, zS⟩
theorem Hj (a b : ByteArray) : kc a b = kc b a := by rw [aM, kG, kG]; exact iH
theorem D5 (a b : iR) : jh a b = jh b a := by rw [aM, jr, jr]; exact iH
theorem sG (a : iR) : jh a a = true := jr.2 rfl
def jW (c : iS) : Bool := kp c.Head && (
 if c.Kind == 1 then kM c.jA && jh zR c.B && jh zR c.C && kc zS c.jU
 else if c.Kind == 2 then kp c.B && kc zS c.jA && jh zR c.C && kc zS c.jU
 else if c.Kind == 3 then kp c.B && kc c.B.ja c.Head.ja && kM c.jU && kc zS c.jA && jh zR c.C
 else if c.Kind == 4 then kp c.B && kp c.C && zp c.B c.C && kc zS c.jA && kc zS c.jU
 else false)
theorem nA (c : iS) : nn c = some (jW c) := by
 unfold nn jW
 simp only [rk, pW, aa]
 obtain ⟨k, hk, a⟩ := tY c.B c.C
 rw [hk]
 have d : decide (k < 0) = zp c.B c.C := by rw [aM, ← a]; simp
 simp only [aa, d]
 by_cases h1 : c.Kind = 1
 ·cases kp c.Head <;> cases kM c.jA <;> simp [h1, mz, sG, uw, zR, gM]
 ·by_cases g : c.Kind = 2
  ·cases kp c.Head <;> cases kp c.B <;> simp [g, mz, sG, uw, zR, gM]
  ·by_cases h : c.Kind = 3
   ·cases kp c.Head <;> cases kp c.B <;> cases kc c.B.ja c.Head.ja <;> cases kM c.jU <;> simp [h, mz, sG, uw, zR, gM]
   ·by_cases i : c.Kind = 4
    ·cases kp c.Head <;> cases kp c.B <;> cases kp c.C <;> cases zp c.B c.C <;> simp [i, mz, sG, uw, zR, gM]
    ·simp [h1, g, h, i]
theorem xh (c : iS) : tf c = some (jW c) := by
 unfold tf jW
 simp only [Al, xi, AN, aa]
 rw [show (⟨zS, zS⟩ : iR) = zR from rfl, D5 c.B zR, D5 c.C zR, Hj c.jU zS, Hj c.jA zS]
 by_cases h1 : c.Kind = 1
 ·cases kp c.Head <;> cases kM c.jA <;> cases jh zR c.B <;> cases jh zR c.C <;> simp [h1]
 ·by_cases a : c.Kind = 2
  ·cases kp c.Head <;> cases kp c.B <;> cases kc zS c.jA <;> cases jh zR c.C <;> simp [a]
  ·by_cases d : c.Kind = 3
   ·cases kp c.Head <;> cases kp c.B <;> cases kc zS c.jA <;> cases jh zR c.C <;> cases kc c.B.ja c.Head.ja <;> simp [d]
   ·by_cases g : c.Kind = 4
    ·cases kp c.Head <;> cases kp c.B <;> cases kc zS c.jA <;> cases kc zS c.jU <;> cases kp c.C <;> simp [g]
    ·cases kp c.Head <;> cases kp c.B <;> cases kc zS c.jA <;> simp [h1, a, d, g]
theorem lx {α : Type} {b : Nat} {l m : List α} (h : (l.length + m.length) * b ≤ 140737488355328) (a : l.length + m.length ≤ 9223372036854775807) : kR b l m = some (l ++ m) := by
 unfold kR; rw [aq ⟨h, by unfold maxLen; omega⟩]
theorem zm {l m : List Int} (h : l.length + m.length ≤ 1000000) : kR 1 l m = some (l ++ m) := lx (by omega) (by omega)
def qQ (s : ByteArray) : List Int := (s.size : Int) :: rO s
def ng (r : iR) : List Int := qQ r.ja ++ qQ r.jt
def vr (c : iS) : List Int := if c.Kind = 1 then qQ c.jA else if c.Kind = 2 then ng c.B else if c.Kind = 3 then ng c.B ++ qQ c.jU else ng c.B ++ ng c.C
def oB (c : iS) : List Int := c.Kind :: (ng c.Head ++ vr c)
theorem nL (s : ByteArray) : (qQ s).length = s.size + 1 := by simp [qQ, lA]
theorem lB {r : iR} (h : kp r = true) : (ng r).length ≤ 34 := by
 simp only [kp, az] at h
 have h1 := lo h.1
 have a := lo h.2
 simp [ng, nL]; omega
theorem AY {l : List Int} {n : Int} (a : 0 ≤ n) (h1 : n < 128) (c : l.length ≤ 100000) : kI l n = some (true, l ++ [n]) := by
 have hw : IntKind.u8.wrap n = n := by
  obtain ⟨k, rfl⟩ : ∃ k : Nat, n = k := ⟨n.toNat, by omega⟩
  have : ∀ k : Nat, k < 128 → IntKind.u8.wrap (k : Int) = (k : Int) := by decide +kernel
  exact this k (by omega)
 unfold kI
 rw [ap (by simp; omega), sF, mu, ap (by simp; omega), hw, zm (by simp; omega)]
 rfl
theorem Es {l : List Int} {s : ByteArray} (h : kM s = true) (a : l.length ≤ 10000) : oT l s = some (true, l ++ qQ s) := by
 have h1 := lo h
 unfold oT
 simp only [pW, aa, h, aK, Bo h1.2]
 unfold ub
 rw [ap (by rw [lA]; simp; omega)]
 rw [lA, AY (by omega) (by omega) (by omega)]
 simp only [aa]
 rw [zm (by simp [lA]; omega)]
 simp [qQ]
theorem OK {l : List Int} {r : iR} (h : kp r = true) (c : l.length ≤ 9000) : mK l r = some (true, l ++ ng r) := by
 have a := h
 simp only [kp, az] at h
 have h1 := lo h.1
 unfold mK
 simp only [rk, aa, a, aK]
 rw [Es h.1 (by omega)]
 simp only [aa, aK]
 rw [Es h.2 (by simp [nL]; omega)]
 simp [ng]
theorem BY {l : List Int} {r : iR} (h : kp r = true) (a : l.length ≤ 1000) : mK l r = some (true, l ++ ng r) := OK h (by omega)
theorem wL {c : iS} (h : jW c = true) : kp c.Head = true := by
 simp only [jW, az] at h; exact h.1
theorem lG {c : iS} (h : jW c = true) :
  (c.Kind = 1 ∧ kM c.jA = true ∧ c.B = zR ∧ c.C = zR ∧ c.jU = zS) ∨
  (c.Kind = 2 ∧ kp c.B = true ∧ c.jA = zS ∧ c.C = zR ∧ c.jU = zS) ∨
  (c.Kind = 3 ∧ kp c.B = true ∧ kM c.jU = true ∧ c.B.ja = c.Head.ja ∧ c.jA = zS ∧ c.C = zR) ∨
  (c.Kind = 4 ∧ kp c.B = true ∧ kp c.C = true ∧ zp c.B c.C = true ∧ c.jA = zS ∧ c.jU = zS) := by
 simp only [jW, az] at h
 obtain ⟨_, h⟩ := h
 split at h
 ·rename_i h1
  simp only [az, jr, kG] at h
  exact .inl ⟨by simpa using h1, h.1.1.1, h.1.1.2.symm, h.1.2.symm, h.2.symm⟩
 ·split at h
  ·rename_i h1
   simp only [az, jr, kG] at h
   exact .inr (.inl ⟨by simpa using h1, h.1.1.1, h.1.1.2.symm, h.1.2.symm, h.2.symm⟩)
  ·split at h
   ·rename_i h1
    simp only [az, jr, kG] at h
    exact .inr (.inr (.inl ⟨by simpa using h1, h.1.1.1.1, h.1.1.2, h.1.1.1.2, h.1.2.symm, h.2.symm⟩))
   ·split at h
    ·rename_i h1
     simp only [az, jr, kG] at h
     exact .inr (.inr (.inr ⟨by simpa using h1, h.1.1.1.1, h.1.1.1.2, h.1.1.2, h.1.2.symm, h.2.symm⟩))
    ·cases h
theorem xB (c : iS) : sE c = some (if jW c then oB c else []) := by
 unfold sE
 rw [nA]
 simp only [aa]
 cases h : jW c with
 | false => simp
 | true =>
  have i := wL h
  have j := lB i
  simp only [aY, ae, aA, aK]
  have hk : 0 ≤ c.Kind ∧ c.Kind < 128 := by rcases lG h with h | h | h | h <;> omega
  rw [AY hk.1 hk.2 (by simp)]
  simp only [aa]
  rw [BY i (by simp)]
  simp only [aa, nQ, nq]
  rcases lG h with ⟨k, h1, _⟩ | ⟨k, h1, _⟩ | ⟨k, h1, a, _⟩ | ⟨k, h1, a, _⟩
  ·have d := lo h1
   simp only [k, bc, aK, Es h1 (show (([] ++ [(1:Int)]) ++ ng c.Head).length ≤ 10000 by simp; omega), aa]
   rw [zm (by simp [nL]; omega)]
   simp [oB, vr, k]
  ·have d := lB h1
   simp only [k, show ((2 : Int) == 1) = false from rfl, ae, bc, aK, aA, BY h1 (show (([] ++ [(2:Int)]) ++ ng c.Head).length ≤ 1000 by simp; omega), aa]
   rw [zm (by simp; omega)]
   simp [oB, vr, k]
  ·have d := lB h1
   have g := lo a
   simp only [k, show ((3 : Int) == 1) = false from rfl, show ((3 : Int) == 2) = false from rfl, ae, bc, aK, aA, BY h1 (show (([] ++ [(3:Int)]) ++ ng c.Head).length ≤ 1000 by simp; omega), aa]
   rw [Es a (by simp; omega)]
   simp only [aa]
   rw [zm (by simp [nL]; omega)]
   simp [oB, vr, k]
  ·have d := lB h1
   have g := lB a
   simp only [k, show ((4 : Int) == 1) = false from rfl, show ((4 : Int) == 2) = false from rfl, show ((4 : Int) == 3) = false from rfl, ae, bc, aK, aA, BY h1 (show (([] ++ [(4:Int)]) ++ ng c.Head).length ≤ 1000 by simp; omega), aa]
   rw [BY a (by simp; omega)]
   simp only [aa]
   rw [zm (by simp; omega)]
   simp [oB, vr, k]
def xx (l : List Int) : ByteArray := ⟨(wA l).toArray⟩
theorem Am (l : List Int) : (xx l).data.toList = wA l := rfl
theorem Gq : ∀ (l : List Int) (r : ByteArray), (l.foldl (fun r n => r.push (UInt8.ofNat n.toNat)) r).data.toList = r.data.toList ++ wA l
 | [], r => by simp [wA]
 | x :: l, r => by
  rw [List.foldl_cons, Gq l]
  show ((r.data.push _).toList) ++ _ = _
  simp [wA]
theorem Kp (l : List Int) : yV l = xx l := z1 (by unfold yV; rw [Gq]; rfl)
theorem JQ (l : List Int) : (xx l).size = l.length := by rw [vJ, Am]; simp [wA]
theorem LP (a b : List Int) : wA (a ++ b) = wA a ++ wA b := by simp [wA]
theorem uU (a b : List Int) (h : a.length + b.length ≤ 1000000) : Ad (xx a) (xx b) = some (xx (a ++ b)) := by
 unfold Ad
 rw [ap]
 ·congr 1
  refine z1 ?_
  rw [Am, LP, ← Am a, ← Am b]
  exact ByteArray.toList_data_append ▸ rfl
 ·rw [JQ, JQ]
  show ¬ (_ > (9223372036854775807 : Int))
  omega
theorem zJ (s : ByteArray) : xx (rO s) = s := z1 (by rw [Am]; simp [wA, rO, fa])
theorem Hw {n : Int} (a : 0 ≤ n) (h1 : n < 128) : wv n = some (xx [n]) := by
 have hw : IntKind.u8.wrap n = n := by
  obtain ⟨k, rfl⟩ : ∃ k : Nat, n = k := ⟨n.toNat, by omega⟩
  have : ∀ k : Nat, k < 128 → IntKind.u8.wrap (k : Int) = (k : Int) := by decide +kernel
  exact this k (by omega)
 unfold wv
 rw [sF, wH, ap (by simp; omega), hw, Kp, show zS = xx [] from rfl, uU _ _ (by simp)]
 rfl
theorem Ep {s : ByteArray} (h : kM s = true) : ul s = some (xx (qQ s)) := by
 have h1 := lo h
 unfold ul
 rw [Hw (by omega) (by omega)]
 simp only [aa]
 have := uU [(s.size : Int)] (rO s) (by rw [lA]; simp; omega)
 rw [zJ] at this
 rw [this]
 simp [qQ]
theorem B1 {r : iR} (h : kp r = true) : uR r = some (xx (ng r)) := by
 simp only [kp, az] at h
 have h1 := lo h.1
 have a := lo h.2
 unfold uR
 rw [Ep h.1, Ep h.2]
 simp only [aa]
 rw [uU _ _ (by simp [nL]; omega)]
 rfl
theorem Ae (c : iS) : wW c = some (xx (if jW c then oB c else [])) := by
 unfold wW
 rw [xh]
 simp only [aa]
 cases h : jW c with
 | false => rfl
 | true =>
  have i := wL h
  have j := lB i
  simp only [aY, ae, aA, aK]
  have hk : 0 ≤ c.Kind ∧ c.Kind < 128 := by rcases lG h with h | h | h | h <;> omega
  unfold CL
  rw [Hw hk.1 hk.2, B1 i]
  simp only [aa]
  rw [uU _ _ (by simp; omega)]
  simp only [aa]
  rcases lG h with ⟨k, h1, _⟩ | ⟨k, h1, _⟩ | ⟨k, h1, a, _⟩ | ⟨k, h1, a, _⟩
  ·have d := lo h1
   simp only [k, bc, aK, Ep h1, aa]
   rw [uU _ _ (by simp [nL]; omega)]
   simp [oB, vr, k]
  ·have d := lB h1
   simp only [k, show ((2 : Int) == 1) = false from rfl, show ((2 : Int) == 3) = false from rfl, show ((2 : Int) == 4) = false from rfl, ae, aA, B1 h1, aa]
   rw [uU _ _ (by simp; omega)]
   simp [oB, vr, k]
  ·have d := lB h1
   have g := lo a
   simp only [k, show ((3 : Int) == 1) = false from rfl, show ((3 : Int) == 4) = false from rfl, ae, bc, aK, aA, B1 h1, aa]
   rw [uU _ _ (by simp; omega)]
   simp only [aa, Ep a]
   rw [uU _ _ (by simp [nL]; omega)]
   simp [oB, vr, k]
  ·have d := lB h1
   have g := lB a
   simp only [k, show ((4 : Int) == 1) = false from rfl, show ((4 : Int) == 3) = false from rfl, ae, bc, aK, aA, B1 h1, aa]
   rw [uU _ _ (by simp; omega)]
   simp only [aa, B1 a]
   rw [uU _ _ (by simp; omega)]
   simp [oB, vr, k]
def IM (c : iS) : List UInt8 := wA (if jW c then oB c else [])
def AZ (a b : iS) : Bool := Op.bytesLess (IM a) (IM b)
theorem EB (a b : iS) : ∃ c, sv a b = some c ∧ (c < 0 ↔ AZ a b = true) := by
 unfold sv
 rw [xB, xB]
 exact ⟨_, rfl, Em _ _⟩
theorem DK (a b : iS) : ∃ c, tE a b = some c ∧ (c < 0 ↔ AZ a b = true) := by
 unfold tE
 rw [Ae, Ae]
 simp only [aa]
 have h : nX (xx (if jW a then oB a else [])) (xx (if jW b then oB b else [])) = AZ a b := by rw [yh]; rfl
 rw [h]
 cases AZ a b with
 | true => exact ⟨_, rfl, by decide⟩
 | false =>
  simp only [ae, aA, ir]
  cases d : kc (xx (if jW a then oB a else [])) (xx (if jW b then oB b else [])) with
  | true => exact ⟨0, by simp, by decide⟩
  | false => exact ⟨1, by simp, by decide⟩
theorem Ru {a b : Int} (c : 0 ≤ a ∧ a < 256) (d : 0 ≤ b ∧ b < 256) (h : a.toNat.toUInt8 = b.toNat.toUInt8) : a = b := by
 have := aw UInt8.toNat h
 simp only [UInt8.toNat_ofNat', Nat.toUInt8] at this
 simp at this
 omega
theorem KR : ∀ {a b : List Int}, (∀ x ∈ a, 0 ≤ x ∧ x < 256) → (∀ x ∈ b, 0 ≤ x ∧ x < 256) → wA a = wA b → a = b
 | [], [], _, _, _ => rfl
 | [], _ :: _, _, _, h => by simp [wA] at h
 | _ :: _, [], _, _, h => by simp [wA] at h
 | x :: a, y :: b, d, g, h => by
  simp only [wA, aO, bi] at h
  rw [Ru (d x (by simp)) (g y (by simp)) h.1, KR (fun z c => d z (by simp [c])) (fun z c => g z (by simp [c])) h.2]
theorem wK {s : ByteArray} (h : kM s = true) : ∀ x ∈ qQ s, 0 ≤ x ∧ x < 256 := by
 have h1 := lo h
 intro x a
 rcases ay.1 a with rfl | a
 ·omega
 ·simp only [rO, aQ] at a
  obtain ⟨b, _, rfl⟩ := a
  have := gK b
  omega
theorem uV {r : iR} (h : kp r = true) : ∀ x ∈ ng r, 0 ≤ x ∧ x < 256 := by
 simp only [kp, az] at h
 intro x a
 rcases aI.1 a with a | a
 ·exact wK h.1 x a
 ·exact wK h.2 x a
theorem Bi {c : iS} (h : jW c = true) : ∀ x ∈ oB c, 0 ≤ x ∧ x < 256 := by
 intro x a
 rcases ay.1 a with rfl | a
 ·rcases lG h with h | h | h | h <;> omega
 ·rcases aI.1 a with a | a
  ·exact uV (wL h) x a
  ·unfold vr at a
   rcases lG h with ⟨k, h1, _⟩ | ⟨k, h1, _⟩ | ⟨k, h1, d, _⟩ | ⟨k, h1, d, _⟩
   ·rw [aq k] at a; exact wK h1 x a
   ·rw [ap (by omega), aq k] at a; exact uV h1 x a
   ·rw [ap (by omega), ap (by omega), aq k] at a
    rcases aI.1 a with a | a
    ·exact uV h1 x a
    ·exact wK d x a
   ·rw [ap (by omega), ap (by omega), ap (by omega)] at a
    rcases aI.1 a with a | a
    ·exact uV h1 x a
    ·exact uV d x a
theorem Mq {s t : ByteArray} (h : rO s = rO t) : s = t := by rw [← zJ s, h, zJ]
theorem AR {s t : ByteArray} {X Y : List Int} (h : qQ s ++ X = qQ t ++ Y) : s = t ∧ X = Y := by
 simp only [qQ, bE, bi] at h
 obtain ⟨h1, a⟩ := h
 have c : (rO s).length = (rO t).length := by rw [lA, lA]; omega
 have := List.append_inj a c
 exact ⟨Mq this.1, this.2⟩
theorem yG {a b : iR} {X Y : List Int} (h : ng a ++ X = ng b ++ Y) : a = b ∧ X = Y := by
 simp only [ng, aB] at h
 obtain ⟨h1, d⟩ := AR h
 obtain ⟨c, g⟩ := AR d
 exact ⟨by cases a; cases b; simp at h1 c; simp [h1, c], g⟩
theorem MV {a b : iS} (q : jW a = true) (t : jW b = true) (h : oB a = oB b) : a = b := by
 simp only [oB, bi] at h
 obtain ⟨hk, p⟩ := h
 obtain ⟨o, h⟩ := yG p
 clear p
 have j : ∀ {X Y : List Int}, X = Y → X ++ [] = Y ++ [] := fun h => by rw [h]
 unfold vr at h
 obtain ⟨A, s, E, x, y, v⟩ := a
 obtain ⟨D, u, G, bb, z, w⟩ := b
 simp only at hk o h
 subst hk o
 rcases lG q with ⟨k, h1, d, g, c⟩ | ⟨k, h1, d, g, c⟩ | ⟨k, h1, d, g, c, i⟩ | ⟨k, h1, d, g, c, i⟩ <;>
 rcases lG t with ⟨k', g1, g2, g3, g4⟩ | ⟨k', g1, g2, g3, g4⟩ | ⟨k', g1, g2, g3, g4, g5⟩ | ⟨k', g1, g2, g3, g4, g5⟩ <;> simp only at k k' d g c g2 g3 g4 <;> (try omega)
 ·rw [aq k, aq k] at h
  simp [AR (j h), d, g, c, g2, g3, g4]
 ·rw [ap (by omega), aq k, ap (by omega), aq k] at h
  simp [yG (j h), d, g, c, g2, g3, g4]
 ·rw [ap (by omega), ap (by omega), aq k, ap (by omega), ap (by omega), aq k] at h
  obtain ⟨m, n⟩ := yG h
  simp only at i g5
  simp [m, AR (j n), c, i, g4, g5]
 ·rw [ap (by omega), ap (by omega), ap (by omega), ap (by omega), ap (by omega), ap (by omega)] at h
  obtain ⟨m, n⟩ := yG h
  simp only at i g5
  simp [m, yG (j n), c, i, g4, g5]
theorem Ca : zh (fun a b => AZ a b = true) (fun c => jW c = true) := by
 refine ⟨fun x _ h => ?_, fun x y z _ _ _ h1 i => EZ _ _ _ h1 i, fun x y d g => ?_⟩
 ·unfold AZ at h; rw [DR] at h; cases h
 ·rcases E1 (IM x) (IM y) with h | h | h
  ·exact .inl h
  ·refine .inr (.inl (MV d g ?_))
   unfold IM at h
   rw [aq d, aq g] at h
   exact KR (Bi d) (Bi g) h
  ·exact .inr (.inr h)
def qj {α : Type} (R : α → Bool) (lt : α → α → Bool) (last : Option α) : List α → Bool → α → Bool × α
 | [], ok, b => (ok, b)
 | x :: xs, ok, b => if R x && last.all (fun y => lt y x) && (!ok || lt x b) then qj R lt last xs true x else qj R lt last xs ok b
def yY {α : Type} (w : Nat) (R : α → Bool) (lt : α → α → Bool) (d : α) (l : List α) : Nat → List α → Option (List α)
 | 0, _ => none
 | n + 1, out => if !(qj R lt out.getLast? l false d).1 then some out else (kR w out [(qj R lt out.getLast? l false d).2]).bind fun o => yY w R lt d l n o
section
variable {α : Type} {R : α → Bool} {lt : α → α → Bool}
theorem D8 (H : zh (fun a b => lt a b = true) (fun x => R x = true)) (last : Option α) : ∀ (l : List α) (ok : Bool) (b : α), (ok = true → R b = true ∧ last.all (fun y => lt y b) = true) →
  ((qj R lt last l ok b).1 = false → ok = false ∧ ∀ x ∈ l, R x = true → last.all (fun y => lt y x) = false) ∧
  ((qj R lt last l ok b).1 = true → R (qj R lt last l ok b).2 = true ∧ last.all (fun y => lt y (qj R lt last l ok b).2) = true ∧ ((qj R lt last l ok b).2 ∈ l ∨ (ok = true ∧ (qj R lt last l ok b).2 = b)) ∧
   (∀ x ∈ l, R x = true → last.all (fun y => lt y x) = true → lt x (qj R lt last l ok b).2 = false) ∧ (ok = true → lt b (qj R lt last l ok b).2 = false))
 | [], ok, b, j => by
  simp only [qj]
  exact ⟨fun h => ⟨h, by simp⟩, fun h => ⟨(j h).1, (j h).2, .inr ⟨h, trivial⟩, by simp, fun _ => by
   cases m : lt b b with
   | false => rfl
   | true => exact absurd m (H.irrefl b (j h).1)⟩⟩
 | x :: xs, ok, b, j => by
  rw [qj]
  by_cases k : (R x && last.all (fun y => lt y x) && (!ok || lt x b)) = true
  ·rw [aq k]
   simp only [az, dO, Bool.not_eq_true'] at k
   obtain ⟨⟨w, s⟩, t⟩ := k
   obtain ⟨h1, q⟩ := D8 H last xs true x (fun _ => ⟨w, s⟩)
   refine ⟨fun h => ?_, fun h => ?_⟩
   ·cases (h1 h).1
   ·obtain ⟨o, a2, a3, a4, a5⟩ := q h
    refine ⟨o, a2, ?_, ?_, ?_⟩
    ·rcases a3 with a3 | ⟨_, a3⟩
     ·exact .inl (by simp [a3])
     ·exact .inl (by rw [a3]; simp)
    ·intro y g c d
     rcases ay.1 g with rfl | g
     ·exact a5 rfl
     ·exact a4 y g c d
    ·intro i
     cases m : lt b (qj R lt last xs true x).2 with
     | false => rfl
     | true =>
      have u : lt x b = true := by rcases t with h | h; rw [i] at h; cases h; exact h
      have := H.trans x b _ w (j i).1 o u m
      simp only [a5 rfl] at this
      cases this
  ·rw [ap k]
   obtain ⟨h1, q⟩ := D8 H last xs ok b j
   refine ⟨fun h => ⟨(h1 h).1, fun y g c => ?_⟩, fun h => ?_⟩
   ·rcases ay.1 g with rfl | g
    ·have i := (h1 h).1
     cases s : last.all (fun z => lt z y) with
     | false => rfl
     | true => exact absurd (by simp [c, s, i]) k
    ·exact (h1 h).2 y g c
   ·obtain ⟨o, a2, a3, a4, a5⟩ := q h
    refine ⟨o, a2, ?_, ?_, a5⟩
    ·rcases a3 with a3 | a3
     ·exact .inl (by simp [a3])
     ·exact .inr a3
    ·intro y g c d
     rcases ay.1 g with rfl | g
     ·cases m : lt y (qj R lt last xs ok b).2 with
      | false => rfl
      | true =>
       cases ok with
       | false => exact absurd (by simp [c, d]) k
       | true =>
        have v : lt y b = false := by
         cases A : lt y b with
         | false => rfl
         | true => exact absurd (by simp [c, d, A]) k
        have p := j rfl
        rcases H.total y b c p.1 with n | n | n
        ·rw [v] at n; cases n
        ·subst n; rw [a5 rfl] at m; cases m
        ·have := H.trans b y _ p.1 c o n m
         simp only [a5 rfl] at this
         cases this
     ·exact a4 y g c d
theorem uZ (H : zh (fun a b => lt a b = true) (fun x => R x = true)) {l : List α} (d : ∀ x ∈ l, R x = true) (h : l.Pairwise (fun a b => lt a b = true)) : l.Nodup := by
 refine h.imp_of_mem (fun {a b} g i c e => ?_)
 subst e
 exact H.irrefl a (d a g) c
theorem kL : ∀ {l m : List α}, l.Nodup → (∀ x ∈ l, x ∈ m) → l.length ≤ m.length
 | [], _, _, _ => by simp
 | x :: l, m, g, c => by
  obtain ⟨A, B, rfl⟩ := List.append_of_mem (c x (by simp))
  have a := cv.1 g
  have := kL (l := l) (m := A ++ B) a.2 (fun y d => by
   have := c y (cM _ d)
   simp only [aI, ay] at this ⊢
   rcases this with h | h | h
   ·exact .inl h
   ·subst h; exact absurd d a.1
   ·exact .inr h)
  simp at this ⊢; omega
theorem AW (H : zh (fun a b => lt a b = true) (fun x => R x = true)) {w : Nat} (hw : w ≤ 1000) (d : α) (l : List α) (I : l.length ≤ 1000000000) : ∀ (n : Nat) (out : List α), l.length < n + out.length → out.Pairwise (fun a b => lt a b = true) → (∀ x ∈ out, x ∈ l ∧ R x = true) →
  (∀ x ∈ l, R x = true → x ∈ out ∨ out.getLast?.all (fun y => lt y x) = true) → ∃ s, yY w R lt d l n out = some s ∧ sO (fun a b => lt a b = true) (fun x => R x = true) l s
 | 0, out, J, hp, hm, u => by
  exfalso
  have := kL (uZ H (fun x c => (hm x c).2) hp) (fun x c => (hm x c).1)
  omega
 | n + 1, out, J, hp, hm, u => by
  rw [yY]
  obtain ⟨h1, E⟩ := D8 H out.getLast? l false d (fun h => by cases h)
  have hlen := kL (uZ H (fun x c => (hm x c).2) hp) (fun x c => (hm x c).1)
  cases D : (qj R lt out.getLast? l false d).1 with
  | false =>
   rw [aq (by simp)]
   refine ⟨out, rfl, hp, fun x => ⟨hm x, fun c => ?_⟩⟩
   rcases u x c.1 c.2 with h | h
   ·exact h
   ·rw [(h1 D).2 x c.1 c.2] at h; cases h
  | true =>
   rw [ap (by simp)]
   obtain ⟨q, a2, a3, a4, _⟩ := E D
   generalize (qj R lt out.getLast? l false d).2 = b at *
   have t : b ∈ l := by rcases a3 with h | ⟨h, _⟩; exact h; cases h
   have o : ∀ y ∈ out, lt y b = true := by
    intro y g
    obtain ⟨A, z, rfl⟩ : ∃ A z, out = A ++ [z] := by
     rcases cV out with h | ⟨A, z, h⟩
     ·subst h; cases g
     ·exact ⟨A, z, by rw [h]; simp⟩
    simp at a2
    rcases aI.1 g with g | g
    ·have v : lt y z = true := (fY.1 hp).2.2 y g z (by simp)
     exact H.trans y z b (hm y (by simp [g])).2 (hm z (by simp)).2 q v a2
    ·simp at g; subst g; exact a2
   have p : (out ++ [b]).Pairwise (fun a b => lt a b = true) := fY.2 ⟨hp, by simp, fun x c y g => by simp at g; subst g; exact o x c⟩
   have k : ∀ x ∈ out ++ [b], x ∈ l ∧ R x = true := fun x c => by
    rcases aI.1 c with c | c
    ·exact hm x c
    ·simp at c; subst c; exact ⟨t, q⟩
   have j := kL (uZ H (fun x c => (k x c).2) p) (fun x c => (k x c).1)
   simp at j
   rw [lx (by simp only [aD, bH]; have : (out.length + (0 + 1)) * w ≤ 1000000000 * 1000 := ep (by omega) hw; omega) (by simp; omega)]
   simp only [aa]
   refine AW H hw d l I n (out ++ [b]) (by simp; omega) p k (fun x c i => ?_)
   rcases u x c i with h | h
   ·exact .inl (by simp [h])
   ·have G := a4 x c i h
    rcases H.total x b i q with m | m | m
    ·rw [G] at m; cases m
    ·subst m; exact .inl (by simp)
    ·exact .inr (by simp [m])
end
theorem Fj {α : Type} (A : List α) (x : α) (a : A.length < 4611686018427387904) : kx (A ++ [x]) (wi0 .i64 (((A ++ [x]).length : Int) - 1)) = some x := by
 rw [kf (by simp; try omega) (by simp; try omega)]
 rw [sW A x [] _ (by simp; try omega)]
theorem Fa (out : List iS) (k : out.length < 4611686018427387904) : ∀ (l : List iS) (ok : Bool) (b : iS), so out l ok b = some (qj jW AZ out.getLast? l ok b)
 | [], ok, b => rfl
 | x :: xs, ok, b => by
  rw [so, qj]
  have cmp : ∀ a b, ∃ c, tE a b = some c ∧ decide (c < 0) = AZ a b := fun a b => by
   obtain ⟨c, h1, j⟩ := DK a b
   exact ⟨c, h1, by rw [aM, ← j]; simp⟩
  rw [xh, Fa out k xs true x, Fa out k xs ok b]
  obtain ⟨c, h1, j⟩ := cmp x b
  rcases cV out with h | ⟨A, z, h⟩
  ·subst h
   simp only [h1, aa, j, bH, Option.all, List.getLast?_nil]
   generalize AZ x b = p
   cases jW x <;> cases ok <;> cases p <;> simp
  ·have i : out = A ++ [z] := by rw [h]; simp
   obtain ⟨t, q, s⟩ := cmp z x
   have d : out.getLast? = some z := by rw [i]; simp
   have g : kx out (wi0 .i64 ((out.length : Int) - 1)) = some z := by rw [i]; exact Fj A z (by rw [i] at k; simp at k; omega)
   have m : ((out.length : Int) == 0) = false := by rw [i]; simp; omega
   rw [d]
   simp only [m, g, q, h1, aa, j, s, Option.all]
   rcases cK (AZ x b) with hp | hp <;> rcases cK (AZ z x) with n | n <;> rcases cK (jW x) with o | o <;> cases ok <;> simp [hp, n, o]
theorem Tq (a b : ByteArray) : (!(nX a b || kc a b)) = nX b a := by
 rcases yH a b with h | h | h
 ·simp [h, Ho h]
 ·subst h; simp [uw, rX]
 ·have c := Ho h
  have d : kc a b = false := KD (by rintro rfl; rw [rX] at h; cases h)
  simp [h, c, d]
theorem MK {s : ByteArray} (h : kM s = true) : kc s zS = false := KD (fun e => by have := lo h; rw [e, P8] at this; omega)
theorem E4 (out : List ByteArray) (k : out.length < 4611686018427387904) : ∀ (l : List ByteArray) (b : ByteArray),
  ∃ m, su out l b = some m ∧ (qj kM nX out.getLast? l (!kc b zS) b) = (!kc m zS, m)
 | [], b => ⟨b, rfl, rfl⟩
 | x :: xs, b => by
  rw [su, qj]
  obtain ⟨v, t, c⟩ := E4 out k xs x
  obtain ⟨w, u, i⟩ := E4 out k xs b
  rw [xi, t, u]
  by_cases g : kM x = true
  ·rw [MK g] at c
   simp only [bX] at c
   rcases cV out with h | ⟨A, z, h⟩
   ·subst h
    simp only [aa, bH, Option.all, List.getLast?_nil, g] at *
    rw [c, i]
    generalize nX x b = p
    generalize kc b zS = q
    cases p <;> cases q <;> simp
   ·have j : out = A ++ [z] := by rw [h]; simp
    have a : out.getLast? = some z := by rw [j]; simp
    have d : kx out (wi0 .i64 ((out.length : Int) - 1)) = some z := by rw [j]; exact Fj A z (by rw [j] at k; simp at k; omega)
    have n : ((out.length : Int) == 0) = false := by rw [j]; simp; omega
    rw [a] at c i ⊢
    simp only [n, d, aa, Option.all, Tq, g]
    rw [c, i]
    rcases cK (nX x b) with hp | hp <;> rcases cK (nX z x) with o | o <;> rcases cK (kc b zS) with s | s <;> simp [hp, o, s]
  ·simp only [cz] at g
   rw [g, i]
   simp
theorem OY (a : List iS) : ∀ (n : Nat) (out s : List iS), yY 136 jW AZ (⟨0, ⟨zS, zS⟩, zS, ⟨zS, zS⟩, ⟨zS, zS⟩, zS⟩ : iS) a n out = some s → s.length < 4611686018427387904 → wc a n out = some s ∧ out.length ≤ s.length
 | 0, out, s, h, _ => by cases h
 | n + 1, out, s, h, i => by
  rw [yY] at h
  rw [wc]
  have key : out.length ≤ s.length → so out a false (⟨0, ⟨zS, zS⟩, zS, ⟨zS, zS⟩, ⟨zS, zS⟩, zS⟩ : iS) = _ := fun k => Fa out (by omega) a false _
  split at h
  ·rename_i h1
   cases h
   rw [key (aJ _)]
   simp only [aa]
   rw [aq h1]
   exact ⟨rfl, aJ _⟩
  ·rename_i h1
   obtain ⟨o, c, d⟩ := bind_some h
   have g := OY a n o s d i
   have j : out.length + 1 = o.length := by
    unfold kR at c; split at c
    ·cases c; simp
    ·cases c
   rw [key (by omega)]
   simp only [aa]
   rw [ap h1, c]
   exact ⟨g.1, by omega⟩
theorem Po (a : List ByteArray) : ∀ (n : Nat) (out s : List ByteArray), yY 16 kM nX zS a n out = some s → s.length < 4611686018427387904 → wq a n out = some s ∧ out.length ≤ s.length
 | 0, out, s, h, _ => by cases h
 | n + 1, out, s, h, k => by
  rw [yY] at h
  rw [wq]
  have key : out.length ≤ s.length → ∃ d, su out a zS = some d ∧ qj kM nX out.getLast? a false zS = (!kc d zS, d) := fun p => by
   have := E4 out (by omega) a zS
   rw [uw] at this
   exact this
  split at h
  ·rename_i h1
   cases h
   obtain ⟨d, g, k2⟩ := key (aJ _)
   rw [g]
   rw [k2] at h1
   simp only [aa]
   rw [aq (by simpa using h1)]
   exact ⟨rfl, aJ _⟩
  ·rename_i h1
   obtain ⟨o, c, i⟩ := bind_some h
   have j := Po a n o s i k
   have m : out.length + 1 = o.length := by
    unfold kR at c; split at c
    ·cases c; simp
    ·cases c
   obtain ⟨d, g, k2⟩ := key (by omega)
   rw [g]
   rw [k2] at h1 c
   simp only [aa]
   rw [ap (by simpa using h1), c]
   exact ⟨j.1, by omega⟩
abbrev z6 (l s : List ByteArray) := sO (fun a b => nX a b = true) (fun x => kM x = true) l s
abbrev Jp (l s : List iR) := sO (fun a b => zp a b = true) (fun x => kp x = true) l s
abbrev Ge (l s : List iS) := sO (fun a b => AZ a b = true) (fun x => jW x = true) l s
theorem pK {α : Type} {lt : α → α → Bool} {R : α → Bool} (H : zh (fun a b => lt a b = true) (fun x => R x = true)) {l s : List α} (h : sO (fun a b => lt a b = true) (fun x => R x = true) l s) : s.length ≤ l.length :=
 kL (uZ H (fun x c => ((h.2 x).1 c).2) h.1) (fun x c => ((h.2 x).1 c).1)
theorem PZ (l : List iS) (c : l.length ≤ 1000000000) : ∃ s, ES l = some s ∧ Ge l s := by
 obtain ⟨s, h1, a⟩ := AW Ca (w := 136) (by omega) (⟨0, ⟨zS, zS⟩, zS, ⟨zS, zS⟩, ⟨zS, zS⟩, zS⟩ : iS) l c jM [] (by rw [oG]; omega) (by simp) (by simp) (fun x _ _ => .inr rfl)
 exact ⟨s, (OY l jM [] s h1 (by have := pK Ca a; omega)).1, a⟩
theorem PB (l : List ByteArray) (c : l.length ≤ 1000000000) : ∃ s, Bl l = some s ∧ z6 l s := by
 obtain ⟨s, h1, a⟩ := AW (Er (fun x => kM x = true)) (w := 16) (by omega) zS l c jM [] (by rw [oG]; omega) (by simp) (by simp) (fun x _ _ => .inr rfl)
 exact ⟨s, (Po l jM [] s h1 (by have := pK (Er _) a; omega)).1, a⟩
def zC : iS := ⟨0, ⟨zS, zS⟩, zS, ⟨zS, zS⟩, ⟨zS, zS⟩, zS⟩
theorem KP (f : iS → Option Bool) : ∀ (n : Nat) (l : List iS) (i j : Int), lW f n l i j = Co f zC n l i j
 | 0, _, _, _ => rfl
 | n + 1, l, i, j => by
  rw [lW, Co]
  simp only [KP f n]
  rfl
theorem Lj (f : iS → Option Bool) : ∀ (l : List iS) (i : Nat), nh f l i = vd f l i
 | [], _ => rfl
 | x :: l, i => by rw [nh, vd]; simp only [Lj f l]
theorem Oj (f : iS → Option Bool) (l : List iS) : pH l f = GK f zC l := by
 unfold pH GK sS
 simp only [Lj, KP]
theorem Jl (i : Int) : ∀ (n : Nat) (l : List iS) (k j : Int), mI i n l k j = zo mz i n l k j
 | 0, _, _, _ => rfl
 | n + 1, l, k, j => by
  rw [mI, zo]
  simp only [Jl i n]
theorem Iy (l : List iS) : ∀ (n : Nat) (i : Int), mP l n i = z7 mz zC l n i
 | 0, _ => rfl
 | n + 1, i => by
  rw [mP, z7]
  simp only [Iy l n, Jl]
  rfl
theorem ON (l : List iS) : ry l = DH mz zC l := by
 unfold ry DH
 simp only [Iy]
theorem KT (f : iR → Option Bool) : ∀ (n : Nat) (l : List iR) (i j : Int), lX f n l i j = Co f zR n l i j
 | 0, _, _, _ => rfl
 | n + 1, l, i, j => by
  rw [lX, Co]
  simp only [KT f n]
  rfl
theorem KN (f : iR → Option Bool) : ∀ (l : List iR) (i : Nat), kQ f l i = vd f l i
 | [], _ => rfl
 | x :: l, i => by rw [kQ, vd]; simp only [KN f l]
theorem OJ (f : iR → Option Bool) (l : List iR) : pz l f = GK f zR l := by
 unfold pz GK mU
 simp only [KN, KT]
theorem JC (i : Int) : ∀ (n : Nat) (l : List iR) (k j : Int), mG i n l k j = zo jh i n l k j
 | 0, _, _, _ => rfl
 | n + 1, l, k, j => by
  rw [mG, zo]
  simp only [JC i n]
theorem Iv (l : List iR) : ∀ (n : Nat) (i : Int), mN l n i = z7 jh zR l n i
 | 0, _ => rfl
 | n + 1, i => by
  rw [mN, z7]
  simp only [Iv l n, JC]
  rfl
theorem Ou (l : List iR) : rF l = DH jh zR l := by
 unfold rF DH
 simp only [Iv]
theorem I8 (i : Int) : ∀ (n : Nat) (l : List ByteArray) (k j : Int), mi i n l k j = zo kc i n l k j
 | 0, _, _, _ => rfl
 | n + 1, l, k, j => by
  rw [mi, zo]
  simp only [I8 i n]
theorem Ju (l : List ByteArray) : ∀ (n : Nat) (i : Int), mh l n i = z7 kc zS l n i
 | 0, _ => rfl
 | n + 1, i => by
  rw [mh, z7]
  simp only [Ju l n, I8]
theorem Oi (l : List ByteArray) : om l = DH kc zS l := by
 unfold om DH
 simp only [Ju]
theorem Rf {l : List iS} (a : l.length ≤ 1000000000) : qo l = some l := by
 unfold qo
 rw [lx (by simp; omega) (by simp; omega)]
 simp
theorem RE {l : List iR} (a : l.length ≤ 1000000000) : qm l = some l := by
 unfold qm
 rw [lx (by simp; omega) (by simp; omega)]
 simp
theorem SK (l : List iS) (d : l.length ≤ 1000000000) : ∃ s, xH l = some s ∧ Ge l s := by
 unfold xH
 rw [Rf d]
 simp only [aa]
 rw [Oj, IQ _ (fun x => !jW x) zC l (by omega) (fun x _ => by simp [wY, nA])]
 simp only [aa, Bool.not_not]
 have i : (l.filter fun x => jW x).length ≤ l.length := fJ _ _
 obtain ⟨s, h1, h, c⟩ := yE (eq := mz) (lt := fun a b => AZ a b = true) (P := fun x => jW x = true) (cf := fun x => sv x.1 x.2) (l := l.filter fun x => jW x) (fun x y => tQ) Ca (fun x g => (cT.1 g).2) (by omega) (fun x y _ _ => EB x y)
 rw [h1]
 simp only [aa]
 rw [ON, Ft _ _ _ (by omega)]
 refine ⟨_, rfl, c.1, fun x => ?_⟩
 rw [c.2]
 simp
theorem S0 (l : List iR) (d : l.length ≤ 1000000000) : ∃ s, zA l = some s ∧ Jp l s := by
 unfold zA
 rw [RE d]
 simp only [aa]
 rw [OJ, IQ _ (fun x => !kp x) zR l (by omega) (fun x _ => by simp [w8, rk])]
 simp only [aa, Bool.not_not]
 have i : (l.filter fun x => kp x).length ≤ l.length := fJ _ _
 obtain ⟨s, h1, h, c⟩ := yE (eq := jh) (lt := fun a b => zp a b = true) (P := fun x => kp x = true) (cf := fun x => lP x.1 x.2) (l := l.filter fun x => kp x) (fun x y => jr) (Ic _) (fun x g => (cT.1 g).2) (by omega) (fun x y _ _ => tY x y)
 rw [h1]
 simp only [aa]
 rw [Ou, Ft _ _ _ (by omega)]
 refine ⟨_, rfl, c.1, fun x => ?_⟩
 rw [c.2]
 simp
theorem L7 (l : List ByteArray) : mL l = ol (fun x => some (if nX x.1 x.2 then -1 else 0)) l := by
 unfold mL ol
 congr 1
 funext x y
 unfold rj
 cases h : nX y x <;> simp [h]
theorem CD : ∀ (l acc : List ByteArray), acc.length + l.length ≤ 1000000000 → rH l acc = (Ek (acc ++ l.filter kM)).bind fun r => om r
 | [], acc, _ => by rw [rH]; simp
 | x :: l, acc, h => by
  rw [rH, pW]
  simp only [aa]
  cases a : kM x with
  | false =>
   simp only [ae, aA]
   rw [CD l acc (by simp at h; omega)]
   simp [a]
  | true =>
   simp only [aK]
   rw [lx (by simp at h ⊢; omega) (by simp at h ⊢; omega)]
   simp only [aa]
   rw [CD l (acc ++ [x]) (by simp at h ⊢; omega)]
   simp [a]
theorem Qh (l : List ByteArray) (g : l.length ≤ 1000000000) : ∃ s, wi l = some s ∧ z6 l s := by
 unfold wi
 rw [CD l [] (by simpa using g)]
 simp only [bt]
 have k : (l.filter kM).length ≤ l.length := fJ _ _
 unfold Ek
 rw [aq (by omega)]
 simp only [aa]
 obtain ⟨s, h1, j, c⟩ := yE (eq := kc) (lt := fun a b => nX a b = true) (P := fun x => kM x = true) (cf := fun x => some (if nX x.1 x.2 then -1 else 0)) (l := l.filter kM) (fun x y => kG) (Er _) (fun x i => (cT.1 i).2) (by omega) (fun x y _ _ => ⟨_, rfl, by cases h : nX x y <;> simp [h]⟩)
 have d := (zG h1).2
 rw [L7, ← d, Oi, Ft _ _ _ (by omega)]
 refine ⟨_, rfl, c.1, fun x => ?_⟩
 rw [c.2]
 simp
def tt {κ : Type} (a : List κ) : List (κ × Bool) := a.map fun k => (k, true)
def mM {κ : Type} (beq : κ → κ → Bool) (a : List κ) (k : κ) : Bool := a.any fun x => beq k x
def ins {κ : Type} (beq : κ → κ → Bool) (a : List κ) (k : κ) : List κ := if mM beq a k then a else a ++ [k]
section
variable {κ : Type} {beq : κ → κ → Bool}
theorem mO (c : ∀ {x y}, beq x y = true ↔ x = y) (a : List κ) (k : κ) : mM beq a k = true ↔ k ∈ a := by
 simp [mM, dF, c]
theorem M2 (a : List κ) : (tt a).length = a.length := by simp [tt]
theorem Cc (a : List κ) (k : κ) : wj beq (tt a) k false = mM beq a k := by
 unfold wj ki mM tt
 induction a with
 | nil => rfl
 | cons x xs ih =>
  simp only [aO, iI, List.any_cons]
  cases h : beq k x with
  | true => simp
  | false => simpa using ih
theorem GO (n : ∀ {x y}, beq x y = true ↔ x = y) (a : List κ) (k : κ) : lZ beq (tt a) k true = tt (ins beq a k) := by
 unfold lZ ins
 have o : (tt a).findIdx? (fun p => beq k p.1) = a.findIdx? (fun x => beq k x) := by
  unfold tt; rw [fc]; rfl
 rw [o]
 cases h : a.findIdx? (fun x => beq k x) with
 | none =>
  rw [ev] at h
  rw [ap]
  ·simp [tt]
  ·intro d
   unfold mM at d
   rw [dF] at d
   obtain ⟨x, q, c⟩ := d
   rw [h x q] at c
   cases c
 | some i =>
  rw [cN] at h
  obtain ⟨m, h1, _⟩ := h
  have e := n.1 h1
  rw [aq]
  ·simp only [tt]
   apply cC
   intro j
   rw [dw]
   split
   ·rename_i g
    subst g
    simp [m, e]
   ·rfl
  ·unfold mM
   exact dF.2 ⟨a[i], dm m, h1⟩
end
section
variable {all : List iS} {wants : List iR} {T : List iR} {W : List ByteArray} {R : List iS}
def mV (c : iS) : List iR := if c.Kind = 1 then [] else if c.Kind = 4 then [c.B, c.C] else [c.B]
end
theorem Ko (x : iS) : ∀ l : List iS, yB l x = some (mM mz l x)
 | [] => rfl
 | y :: l => by
  have ih := Ko x l
  unfold yB at ih ⊢
  rw [vS, ih]
  have : mz y x = mz x y := by rw [aM, tQ, tQ]; exact iH
  rw [this]
  simp only [mM, List.any_cons]
  cases mz x y <;> simp
theorem Qm {c : iS} (h : jW c = true) : xC c = some (c.Head :: mV c) := by
 unfold xC
 rw [nA, h]
 simp only [aa, aY, ae, aA]
 have a : c.Kind = 1 ∨ c.Kind = 2 ∨ c.Kind = 3 ∨ c.Kind = 4 := by rcases lG h with h | h | h | h <;> simp [h.1]
 rcases a with k | k | k | k
 ·simp [k, mV]
 ·rw [aq (by simp [k]), lx (by simp) (by simp)]
  simp [k, mV]
 ·rw [aq (by simp [k]), lx (by simp) (by simp)]
  simp [k, mV]
 ·rw [aq (by simp [k]), lx (by simp) (by simp)]
  simp only [aa]
  rw [aq (by simp [k]), lx (by simp) (by simp)]
  simp [k, mV]
theorem sO.congr {α : Type} {lt : α → α → Prop} {P : α → Prop} {l m s : List α} (h : sO lt P l s) (hm : ∀ x, x ∈ l ↔ x ∈ m) : sO lt P m s := ⟨h.1, fun x => by rw [h.2, hm]⟩
theorem PQ {κ : Type} (a : List κ) : (tt a).map (·.1) = a := by simp [tt, fa]
theorem Jd : ∀ (l : List iS) (n : Int), 0 ≤ n → n ≤ 4000000000000000000 → (∀ c ∈ l, c.Head.ja.size + c.Head.jt.size + c.jA.size + c.B.ja.size + c.B.jt.size + c.C.ja.size + c.C.jt.size + c.jU.size ≤ 1000000000) → n + l.length * 1000000020 ≤ 4000000000000000000 →
  ∃ r, nK l n = some r ∧ n + 20 * l.length ≤ r
 | [], n, _, _, _, _ => ⟨n, rfl, by simp⟩
 | c :: l, n, m, h1, a, i => by
  have h := a c (by simp)
  simp only [aD] at i ⊢
  rw [nK]
  rw [kf (x := 20 + (c.Head.ja.size : Int)) (by omega) (by omega), kf (x := 20 + (c.Head.ja.size : Int) + (c.Head.jt.size : Int)) (by omega) (by omega), kf (x := 20 + (c.Head.ja.size : Int) + (c.Head.jt.size : Int) + (c.jA.size : Int)) (by omega) (by omega), kf (x := 20 + (c.Head.ja.size : Int) + (c.Head.jt.size : Int) + (c.jA.size : Int) + (c.B.ja.size : Int)) (by omega) (by omega), kf (x := 20 + (c.Head.ja.size : Int) + (c.Head.jt.size : Int) + (c.jA.size : Int) + (c.B.ja.size : Int) + (c.B.jt.size : Int)) (by omega) (by omega), kf (x := 20 + (c.Head.ja.size : Int) + (c.Head.jt.size : Int) + (c.jA.size : Int) + (c.B.ja.size : Int) + (c.B.jt.size : Int) + (c.C.ja.size : Int)) (by omega) (by omega), kf (x := 20 + (c.Head.ja.size : Int) + (c.Head.jt.size : Int) + (c.jA.size : Int) + (c.B.ja.size : Int) + (c.B.jt.size : Int) + (c.C.ja.size : Int) + (c.C.jt.size : Int)) (by omega) (by omega), kf (x := 20 + (c.Head.ja.size : Int) + (c.Head.jt.size : Int) + (c.jA.size : Int) + (c.B.ja.size : Int) + (c.B.jt.size : Int) + (c.C.ja.size : Int) + (c.C.jt.size : Int) + (c.jU.size : Int)) (by omega) (by omega), kf (by omega) (by omega)]
  obtain ⟨r, g, k⟩ := Jd l (n + (20 + (c.Head.ja.size : Int) + (c.Head.jt.size : Int) + (c.jA.size : Int) + (c.B.ja.size : Int) + (c.B.jt.size : Int) + (c.C.ja.size : Int) + (c.C.jt.size : Int) + (c.jU.size : Int))) (by omega) (by omega) (fun d j => a d (by simp [j])) (by omega)
  exact ⟨r, g, by omega⟩
def w7 (c : iS) : Nat := c.Head.ja.size + c.Head.jt.size + c.jA.size + c.B.ja.size + c.B.jt.size + c.C.ja.size + c.C.jt.size + c.jU.size
theorem IJ (l : List iS) (d : l.length ≤ 100000000) (a : ∀ c ∈ l, w7 c ≤ 1000000000) : ∃ r, ta l = some r := by
 obtain ⟨r, h, _⟩ := Jd l 0 (by omega) (by omega) a (by omega)
 exact ⟨r, h⟩
section
variable {κ γ : Type} {beq : κ → κ → Bool}
theorem pF (a : ∀ {x y}, beq x y = true ↔ x = y) {A B : List (κ × γ)} {k : κ} {x : γ} (c : ∀ p ∈ A, p.1 ≠ k) : ki beq (A ++ (k, x) :: B) k = some x := by
 unfold ki
 rw [List.find?_append]
 have : A.find? (fun p => beq k p.1) = none := List.find?_eq_none.2 (fun p hp h => c p hp (a.1 h).symm)
 rw [this]
 simp [a.2 (rfl : k = k)]
theorem uY (a : ∀ {x y}, beq x y = true ↔ x = y) {l : List (κ × γ)} {k : κ} (h : ∀ p ∈ l, p.1 ≠ k) : ki beq l k = none := by
 unfold ki
 rw [List.find?_eq_none.2 (fun p hp c => h p hp (a.1 c).symm)]
 rfl
theorem vZ (a : ∀ {x y}, beq x y = true ↔ x = y) {A B : List (κ × γ)} {k : κ} {x y : γ} (c : ∀ p ∈ A, p.1 ≠ k) : lZ beq (A ++ (k, x) :: B) k y = A ++ (k, y) :: B := by
 have h1 : (A ++ (k, x) :: B).findIdx? (fun p => beq k p.1) = some A.length := by
  rw [fZ, ev.2 (fun p hp => by
   cases h : beq k p.1 with
   | false => rfl
   | true => exact absurd (a.1 h).symm (c p hp))]
  simp [dp, a.2 (rfl : k = k)]
 rw [pL h1]
 simp
theorem B5 (a : ∀ {x y}, beq x y = true ↔ x = y) {l : List (κ × γ)} {k : κ} {y : γ} (h : ∀ p ∈ l, p.1 ≠ k) : lZ beq l k y = l ++ [(k, y)] := by
 refine uv (ev.2 (fun p hp => ?_)) y
 cases c : beq k p.1 with
 | false => rfl
 | true => exact absurd (a.1 c).symm (h p hp)
theorem tu (k : κ) : ∀ (l : List (κ × γ)), (∀ p ∈ l, p.1 ≠ k) ∨ ∃ A x B, l = A ++ (k, x) :: B ∧ ∀ p ∈ A, p.1 ≠ k
 | [] => .inl (fun _ h => by cases h)
 | p :: l => by
  by_cases hp : p.1 = k
  ·exact .inr ⟨[], p.2, l, by rw [← hp]; rfl, fun _ h => by cases h⟩
  ·rcases tu k l with h | ⟨A, x, B, rfl, h⟩
   ·exact .inl (fun q a => by rcases ay.1 a with rfl | a; exact hp; exact h q a)
   ·exact .inr ⟨p :: A, x, B, rfl, fun q a => by rcases ay.1 a with rfl | a; exact hp; exact h q a⟩
theorem E9 (a : ∀ {x y}, beq x y = true ↔ x = y) (A B : List (κ × γ)) (k : κ) : ki beq (A ++ B) k = (ki beq A k).or (ki beq B k) := by
 unfold ki
 rw [List.find?_append]
 cases A.find? (fun p => beq k p.1) <;> rfl
theorem AP (p : κ × γ) (l : List (κ × γ)) (k : κ) : ki beq (p :: l) k = if beq k p.1 = true then some p.2 else ki beq l k := by
 unfold ki
 rw [iI]
 cases beq k p.1 <;> simp
theorem DN (a : ∀ {x y}, beq x y = true ↔ x = y) (l : List (κ × γ)) (k k2 : κ) (y : γ) : ki beq (lZ beq l k y) k2 = if beq k2 k = true then some y else ki beq l k2 := by
 rcases tu k l with h | ⟨A, x, B, rfl, h⟩
 ·rw [B5 a h, E9 a, AP]
  by_cases hk : beq k2 k = true
  ·have := a.1 hk
   subst this
   rw [aq hk, aq hk, uY a h]; rfl
  ·rw [ap hk, ap hk]
   show (ki beq l k2).or none = _
   cases ki beq l k2 <;> rfl
 ·rw [vZ a h, E9 a, AP, E9 a, AP]
  by_cases hk : beq k2 k = true
  ·have := a.1 hk
   subst this
   rw [aq hk, aq hk, uY a h]; rfl
  ·rw [ap hk, ap hk, ap hk]
end
abbrev nC := List (iR × List ByteArray)
def mm (T : nC) : List (iR × List (ByteArray × Bool)) := T.map fun p => (p.1, tt p.2)
def qx (T : nC) (r : iR) : List ByteArray := (ki jh T r).getD []
def FS (T : nC) : List iV := T.flatMap fun p => p.2.map fun w => (⟨p.1, w⟩ : iV)
def DT (T : nC) (r : iR) (w : ByteArray) : nC := lZ jh T r (qx T r ++ [w])
theorem Di (A B : nC) : mm (A ++ B) = mm A ++ mm B := by simp [mm]
theorem yj {A : nC} {r : iR} (h : ∀ p ∈ A, p.1 ≠ r) : ∀ p ∈ mm A, p.1 ≠ r := by
 intro p hp
 simp only [mm, aQ] at hp
 obtain ⟨q, a, rfl⟩ := hp
 exact h q a
theorem PF (T : nC) (r : iR) : ki jh (mm T) r = (ki jh T r).map tt := by
 rcases tu r T with h | ⟨A, x, B, rfl, h⟩
 ·rw [uY jr h, uY jr (yj h)]; rfl
 ·rw [pF jr h, Di]
  exact pF jr (yj h)
theorem Lg (T : nC) (r : iR) : (ki jh (mm T) r).getD [] = tt (qx T r) := by
 rw [PF, qx]; cases ki jh T r <;> rfl
theorem Gj (T : nC) (r : iR) (w : ByteArray) : (FS (DT T r w)).Perm (FS T ++ [(⟨r, w⟩ : iV)]) := by
 unfold DT qx
 rcases tu r T with h | ⟨A, x, B, rfl, h⟩
 ·rw [B5 jr h, uY jr h]
  simp [FS]
 ·rw [vZ jr h, pF jr h]
  simp only [FS, gl, dZ, fL, bh, aO, dG, aB]
  refine bK _ (bK _ ?_)
  exact cJ
theorem Oo {T : nC} (hk : (T.map (·.1)).Nodup) (r : iR) (w : ByteArray) : ((DT T r w).map (·.1)).Nodup := by
 unfold DT
 rcases tu r T with h | ⟨A, x, B, rfl, h⟩
 ·rw [B5 jr h]
  simp only [bh, aO, dG]
  refine aR.2 ⟨hk, by simp, fun a d b c e => ?_⟩
  simp at c; subst c; subst e
  obtain ⟨p, hp, e⟩ := aQ.1 d
  exact h p hp e
 ·rw [vZ jr h]
  simpa using hk
theorem Aq {T : nC} (hk : (T.map (·.1)).Nodup) (f : iV) : f ∈ FS T ↔ f.jA ∈ qx T f.iR := by
 simp only [FS, fR, aQ]
 constructor
 ·rintro ⟨p, hp, w, hw, rfl⟩
  obtain ⟨A, B, rfl⟩ := List.append_of_mem hp
  have a : ∀ q ∈ A, q.1 ≠ p.1 := fun q d e => by
   rw [bh, aO] at hk
   exact (aR.1 hk).2.2 q.1 (aQ.2 ⟨q, d, rfl⟩) p.1 (by simp) e
  rw [qx, show p = (p.1, p.2) from rfl, pF jr a]
  exact hw
 ·intro h
  unfold qx at h
  rcases tu f.iR T with c | ⟨A, x, B, rfl, a⟩
  ·rw [uY jr c] at h; cases h
  ·rw [pF jr a] at h
   exact ⟨(f.iR, x), by simp, f.jA, h, rfl⟩
theorem J7 {T : nC} (h : (FS T).Nodup) (r : iR) : (qx T r).Nodup := by
 unfold qx
 rcases tu r T with c | ⟨A, x, B, rfl, a⟩
 ·rw [uY jr c]; simp
 ·rw [pF jr a]
  simp only [FS, gl, dZ] at h
  have h1 := (aR.1 (aR.1 h).2.1).1
  simp only [List.Nodup, dX] at h1
  exact h1.imp (fun h e => h (by rw [e]))
inductive mf (C : List iS) : iV → Prop
 | mem (c) : c ∈ C → c.Kind = 1 → mf C ⟨c.Head, c.jA⟩
 | inc (c w) : c ∈ C → c.Kind = 2 → mf C ⟨c.B, w⟩ → mf C ⟨c.Head, w⟩
 | EJ (c b w) : c ∈ C → c.Kind = 3 → mf C ⟨c.B, b⟩ → mf C ⟨⟨b, c.jU⟩, w⟩ → mf C ⟨c.Head, w⟩
 | both (c w) : c ∈ C → c.Kind = 4 → mf C ⟨c.B, w⟩ → mf C ⟨c.C, w⟩ → mf C ⟨c.Head, w⟩
theorem mf.mono {C C' : List iS} (h : ∀ c ∈ C, c ∈ C') {f : iV} (i : mf C f) : mf C' f := by
 induction i with
 | mem c a hk => exact .mem c (h c a) hk
 | inc c w a hk _ ih => exact .inc c w (h c a) hk ih
 | EJ c b w a hk _ _ d g => exact .EJ c b w (h c a) hk d g
 | both c w a hk _ _ d g => exact .both c w (h c a) hk d g
def A6 (C : List iS) : List iV := (C.map (·.Head)).flatMap fun r => (C.map (·.jA)).map fun w => (⟨r, w⟩ : iV)
theorem xP (C : List iS) : (A6 C).length = C.length * C.length := by
 unfold A6
 have : ∀ l : List iR, (l.flatMap fun r => (C.map (·.jA)).map fun w => (⟨r, w⟩ : iV)).length = l.length * C.length := fun l => by
  induction l with
  | nil => simp
  | cons x l ih => simp only [dZ, aj, ih, cL, aD, bn]; omega
 rw [this, cL]
theorem Qa {C : List iS} {r : iR} {w : ByteArray} : (⟨r, w⟩ : iV) ∈ A6 C ↔ (∃ c ∈ C, c.Head = r) ∧ ∃ c ∈ C, c.jA = w := by
 unfold A6
 simp only [fR, aQ, iV.mk.injEq]
 constructor
 ·rintro ⟨h, ⟨c, g, rfl⟩, i, ⟨d, a, rfl⟩, rfl, rfl⟩; exact ⟨⟨c, g, rfl⟩, d, a, rfl⟩
 ·rintro ⟨⟨c, g, rfl⟩, d, a, rfl⟩; exact ⟨_, ⟨c, g, rfl⟩, _, ⟨d, a, rfl⟩, rfl, rfl⟩
theorem mf.sd {C : List iS} {f : iV} (h : mf C f) : ∃ c ∈ C, c.Kind = 1 ∧ c.jA = f.jA := by
 induction h with
 | mem c g hk => exact ⟨c, g, hk, rfl⟩
 | inc c w g hk _ ih => exact ih
 | EJ c b w g hk _ _ a d => exact d
 | both c w g hk _ _ a d => exact a
theorem mf.head {C : List iS} {f : iV} (h : mf C f) : ∃ c ∈ C, c.Head = f.iR := by
 cases h with
 | mem c a hk => exact ⟨c, a, rfl⟩
 | inc c w a hk _ => exact ⟨c, a, rfl⟩
 | EJ c b w a hk _ _ => exact ⟨c, a, rfl⟩
 | both c w a hk _ _ => exact ⟨c, a, rfl⟩
theorem mf.A6 {C : List iS} {f : iV} (h : mf C f) : f ∈ A6 C := by
 obtain ⟨c, a, _, hw⟩ := h.sd
 exact Qa.2 ⟨h.head, c, a, hw⟩
structure pn (C : List iS) (T : nC) (td : List iV) (n : Int) : Prop where
 keys : (T.map (·.1)).Nodup
 nd : (FS T).Nodup
 Kj : td.Nodup
 sub : ∀ f ∈ td, f ∈ FS T
 num : n = (FS T).length
 wy : ∀ f ∈ FS T, mf C f
theorem pn.len {C : List iS} {T : nC} {c : List iV} {n : Int} (h : pn C T c n) : (FS T).length ≤ C.length * C.length := by
 rw [← xP]; exact kL h.nd (fun f a => (h.wy f a).A6)
theorem pn.Rw {C : List iS} {T : nC} {a : List iV} {n : Int} (h : pn C T a n) : a.length ≤ (FS T).length := kL h.Kj h.sub
theorem pn.mono {C C' : List iS} {T : nC} {a : List iV} {n : Int} (h : pn C T a n) (d : ∀ c ∈ C, c ∈ C') : pn C' T a n := ⟨h.keys, h.nd, h.Kj, h.sub, h.num, fun f g => (h.wy f g).mono d⟩
structure yM (T : nC) (td : List iV) (T' : nC) (td' : List iV) : Prop where
 kN : ∀ f ∈ FS T, f ∈ FS T'
 todo : ∀ f ∈ td, f ∈ td'
 new : ∀ f ∈ FS T', f ∈ FS T ∨ f ∈ td'
 fresh : ∀ f ∈ td', f ∈ td ∨ f ∉ FS T
theorem yM.refl (T : nC) (a : List iV) : yM T a T a := ⟨fun _ h => h, fun _ h => h, fun _ h => .inl h, fun _ h => .inl h⟩
theorem yM.trans {T T' T'' : nC} {i g a : List iV} (h : yM T i T' g) (k : yM T' g T'' a) : yM T i T'' a :=
 ⟨fun f c => k.kN f (h.kN f c), fun f c => k.todo f (h.todo f c), fun f c => by
  rcases k.new f c with h1 | h1
  ·rcases h.new f h1 with d | d
   ·exact .inl d
   ·exact .inr (k.todo f d)
  ·exact .inr h1, fun f c => by
  rcases k.fresh f c with h1 | h1
  ·exact h.fresh f h1
  ·exact .inr (fun d => h1 (h.kN f d))⟩
theorem Gv {α : Type} (p : α → Bool) : ∀ l : List α, (l.filter p).length + (l.filter fun x => !p x).length = l.length
 | [] => rfl
 | x :: l => by
  have := Gv p l
  cases h : p x <;> simp [h] <;> omega
theorem pn.EP {C C' : List iS} {T T' : nC} {d c : List iV} {n p : Int} (i : pn C' T' c p) (g : pn C T d n) (x : yM T d T' c) : c.length + (FS T).length ≤ d.length + (FS T').length := by
 classical
 have h1 : (c.filter fun f => decide (f ∈ FS T)).length ≤ d.length := kL (i.Kj.filter _) (fun f j => by
  have := cT.1 j
  rcases x.fresh f this.1 with h | h
  ·exact h
  ·exact absurd (by simpa using this.2) h)
 have k : (FS T ++ c.filter fun f => !decide (f ∈ FS T)).length ≤ (FS T').length := kL (aR.2 ⟨g.nd, i.Kj.filter _, fun a m b o e => by
  subst e
  have := (cT.1 o).2
  simp [m] at this⟩) (fun f j => by
  rcases aI.1 j with h | h
  ·exact x.kN f h
  ·exact i.sub f (cT.1 h).1)
 have q : (c.filter fun f => decide (f ∈ FS T)).length + (c.filter fun f => !decide (f ∈ FS T)).length = c.length := by
  exact Gv (fun f => decide (f ∈ FS T)) c
 rw [aj] at k
 omega
def Bn (C : List iS) (T : nC) (g : List iV) (c : Option (List (iR × List (ByteArray × Bool)) × List iV × Int)) (Q : nC → Prop) : Prop :=
 ∃ T' a d, c = some (mm T', a, d) ∧ pn C T' a d ∧ yM T g T' a ∧ Q T'
theorem Bn.mono {C : List iS} {T : nC} {g : List iV} {a : Option (List (iR × List (ByteArray × Bool)) × List iV × Int)} {Q Q' : nC → Prop} (h : Bn C T g a Q) (k : ∀ T', (∀ f ∈ FS T, f ∈ FS T') → Q T' → Q' T') : Bn C T g a Q' := by
 obtain ⟨T', c, m, h1, i, d, j⟩ := h
 exact ⟨T', c, m, h1, i, d, k T' d.kN j⟩
def pG (C : List iS) : Prop := C.length ≤ 1000000
theorem pG.sq {C : List iS} (h : pG C) : C.length * C.length ≤ 1000000000000 := ep h h
theorem rW {T : nC} (hk : (T.map (·.1)).Nodup) (r : iR) (w : ByteArray) : wj kc ((ki jh (mm T) r).getD []) w false = true ↔ (⟨r, w⟩ : iV) ∈ FS T := by
 rw [Lg, Cc, mO kG, Aq hk]
theorem BU {C : List iS} (y : pG C) {T : nC} {j : List iV} {n : Int} (h : pn C T j n) (cs : List iS) (J : List (iR × List iS)) (ws : List (ByteArray × List iS)) {r : iR} {w : ByteArray} (z : mf C ⟨r, w⟩) :
  Bn C T j (mn (mm T) cs J ws j n r w) (fun T' => (⟨r, w⟩ : iV) ∈ FS T') := by
 unfold mn
 have E := y.sq
 have L := h.len
 have G := h.Rw
 by_cases d : (⟨r, w⟩ : iV) ∈ FS T
 ·rw [aq ((rW h.keys r w).2 d)]
  exact ⟨T, j, n, rfl, h, yM.refl _ _, d⟩
 ·rw [ap (fun t => d ((rW h.keys r w).1 t))]
  have D : pn C (DT T r w) (j ++ [⟨r, w⟩]) (n + 1) := by
   have hp := Gj T r w
   refine ⟨Oo h.keys r w, (hp.nodup_iff).2 (aR.2 ⟨h.nd, by simp, fun a s b m e => ?_⟩), aR.2 ⟨h.Kj, by simp, fun a s b m e => ?_⟩, fun f c => hp.mem_iff.2 ?_, ?_, fun f c => ?_⟩
   ·simp at m; subst m; subst e; exact d s
   ·simp at m; subst m; subst e; exact d (h.sub _ s)
   ·rcases aI.1 c with c | c
    ·exact aW _ (h.sub f c)
    ·exact bY _ c
   ·rw [hp.length_eq, h.num]; simp
   ·rcases aI.1 (hp.mem_iff.1 c) with c | c
    ·exact h.wy f c
    ·simp at c; subst c; exact z
  have u : ((if (ki jh (mm T) r).isNone = true then ((Fu jh (mm T) r []).bind fun l => some l) else some (mm T)) : Option _).bind (fun l => (E2 jh kc l r w true)) = some (mm (DT T r w)) := by
   unfold DT qx
   rcases tu r T with i | ⟨A, x, B, rfl, q⟩
   ·have p := uY jr (yj i)
    rw [p, uY jr i, B5 jr i, Di]
    simp only [Option.isNone_none, aK, Fu, p, aa]
    rw [B5 jr (yj i)]
    unfold E2
    rw [pF jr (yj i)]
    simp only [cw]
    rw [vZ jr (yj i)]
    rfl
   ·have k := yj q
    have v : ki jh (mm (A ++ (r, x) :: B)) r = some (tt x) := by rw [Di]; exact pF jr k
    rw [v, pF jr q, vZ jr q]
    simp only [Option.isNone_some, ae, aA, aa, E2, v, cw, fL]
    have I : w ∉ x := fun hw => d (by
     rw [Aq h.keys, qx, pF jr q]; exact hw)
    rw [GO kG]
    rw [show ins kc x w = x ++ [w] from by unfold ins; rw [ap (fun t => I ((mO kG x w).1 t))]]
    rw [Di, show mm ((r, x) :: B) = (r, tt x) :: mm B from rfl, vZ jr k, Di]
    rfl
  refine ⟨DT T r w, j ++ [⟨r, w⟩], n + 1, ?_, D, ⟨fun f c => (Gj T r w).mem_iff.2 (aW _ c), fun f c => aW _ c, fun f c => ?_, fun f c => ?_⟩, (Gj T r w).mem_iff.2 (by simp)⟩
  ·have g := u
   generalize ((if (ki jh (mm T) r).isNone = true then ((Fu jh (mm T) r []).bind fun l => some l) else some (mm T)) : Option _) = o at g
   cases o with
   | none => cases g
   | some l =>
    simp only [aa] at g ⊢
    rw [g]
    simp only [aa]
    rw [lx (by simp; omega) (by simp; omega)]
    simp only [aa]
    rw [kf (by rw [h.num]; omega) (by rw [h.num]; omega)]
  ·rcases aI.1 ((Gj T r w).mem_iff.1 c) with h1 | h1
   ·exact .inl h1
   ·exact .inr (bY _ h1)
  ·rcases aI.1 c with h1 | h1
   ·exact .inl h1
   ·simp at h1; subst h1; exact .inr d
theorem yw (l : List ByteArray) (x : ByteArray) : x ∈ mL l ↔ x ∈ l := by unfold mL; simp
def oK (C : List iS) : Prop := ∀ c ∈ C, jW c = true
theorem Nk {c : iS} (h : jW c = true) (hk : c.Kind = 1) : c.jA.size ≤ 16 := by
 rcases lG h with h | h | h | h
 ·exact (lo h.2.1).2
 ·exact absurd (hk.symm.trans h.1) (by decide)
 ·exact absurd (hk.symm.trans h.1) (by decide)
 ·exact absurd (hk.symm.trans h.1) (by decide)
theorem NX {T : nC} (r : iR) (hk : (T.map (·.1)).Nodup) : (qx T r).length ≤ (FS T).length := by
 unfold qx
 rcases tu r T with c | ⟨A, x, B, rfl, a⟩
 ·rw [uY jr c]; simp
 ·rw [pF jr a]
  simp only [FS, gl, dZ, aj, cL, fL]
  omega
theorem Gm {C : List iS} (a : pG C) (d : oK C) {T : nC} {j : List iV} {n : Int} (h : pn C T j n) (cs : List iS) (k : List (iR × List iS)) (ws : List (ByteArray × List iS)) (q : List iV) (z : Int) (r : iR) :
  pv (mm T) cs k ws q z r = some (mL (qx T r)) := by
 unfold pv np
 rw [Lg]
 simp only [aa, sc]
 have s := NX r h.keys
 have m := h.len
 have o := a.sq
 unfold FF
 rw [PQ, aq]
 refine ⟨J7 h.nd r, fun p hp => ?_, by rw [M2]; omega⟩
 simp only [tt, aQ] at hp
 obtain ⟨w, hw, rfl⟩ := hp
 have i := h.wy ⟨r, w⟩ ((Aq h.keys ⟨r, w⟩).2 hw)
 obtain ⟨c, g, hk, e⟩ := i.sd
 have := Nk (d c g) hk
 simp only at e ⊢
 rw [← e]
 unfold maxLen
 omega
theorem ME {C : List iS} (i : pG C) (cs : List iS) (g : List (iR × List iS)) (ws : List (ByteArray × List iS)) (head : iR) : ∀ (l : List ByteArray) {T : nC} {a : List iV} {n : Int}, pn C T a n → (∀ w ∈ l, mf C ⟨head, w⟩) →
  Bn C T a (oM cs g ws head l (mm T) a n) (fun T' => ∀ w ∈ l, (⟨head, w⟩ : iV) ∈ FS T')
 | [], T, a, n, h, _ => ⟨T, a, n, rfl, h, yM.refl _ _, fun _ hw => by cases hw⟩
 | w :: l, T, a, n, h, j => by
  rw [oM]
  obtain ⟨T1, s, t, k, g1, x1, p⟩ := BU i h cs g ws (j w (by simp))
  rw [k]
  simp only [aa]
  obtain ⟨T2, d, o, m, g2, x2, q⟩ := ME i cs g ws head l g1 (fun w hw => j w (by simp [hw]))
  refine ⟨T2, d, o, m, g2, x1.trans x2, fun v c => ?_⟩
  rcases ay.1 c with rfl | c
  ·exact x2.kN _ p
  ·exact q v c
theorem Qt {C : List iS} (c : pG C) (g : oK C) {T : nC} {a : List iV} {n : Int} (h : pn C T a n) (cs : List iS) (d : List (iR × List iS)) (ws : List (ByteArray × List iS)) (r head : iR) (i : ∀ w, (⟨r, w⟩ : iV) ∈ FS T → mf C ⟨head, w⟩) :
  Bn C T a (sP (mm T) cs d ws a n r head) (fun T' => ∀ w, (⟨r, w⟩ : iV) ∈ FS T → (⟨head, w⟩ : iV) ∈ FS T') := by
 unfold sP
 rw [Gm c g h]
 simp only [aa]
 refine (ME c cs d ws head _ h (fun w hw => i w ((Aq h.keys ⟨r, w⟩).2 ((yw _ _).1 hw)))).mono (fun T' _ j w hw => j w ((yw _ _).2 ((Aq h.keys ⟨r, w⟩).1 hw)))
def Ec (c : iS) (f : iV) (T T' : nC) : Prop :=
 (c.Kind = 2 → f.iR = c.B → (⟨c.Head, f.jA⟩ : iV) ∈ FS T') ∧
 (c.Kind = 3 → f.iR = c.B → ∀ w, (⟨⟨f.jA, c.jU⟩, w⟩ : iV) ∈ FS T → (⟨c.Head, w⟩ : iV) ∈ FS T') ∧
 (c.Kind = 4 → (⟨c.B, f.jA⟩ : iV) ∈ FS T → (⟨c.C, f.jA⟩ : iV) ∈ FS T → (⟨c.Head, f.jA⟩ : iV) ∈ FS T')
theorem Ec.mono {c : iS} {f : iV} {T T' T0 T1 : nC} (h : Ec c f T T') (g : ∀ f ∈ FS T0, f ∈ FS T) (h1 : ∀ f ∈ FS T', f ∈ FS T1) : Ec c f T0 T1 :=
 ⟨fun a b => h1 _ (h.1 a b), fun a b w hw => h1 _ (h.2.1 a b w (g _ hw)), fun a b d => h1 _ (h.2.2 a (g _ b) (g _ d))⟩
theorem Pp (x : Option (List (iR × List (ByteArray × Bool)) × List iV × Int)) : (x.bind fun r => some (r.1, r.2.1, r.2.2)) = x := by cases x <;> rfl
theorem MG {C : List iS} (q : pG C) (z : oK C) {T : nC} {j : List iV} {n : Int} (h : pn C T j n) (cs : List iS) (o : List (iR × List iS)) (ws : List (ByteArray × List iS)) {c : iS} (s : c ∈ C) {f : iV} (u : f ∈ FS T) (v : f.iR ∈ mV c) :
  Bn C T j (qn (mm T) cs o ws j n c f) (Ec c f T) := by
 unfold qn
 simp only [Pp, xX]
 by_cases a : c.Kind = 2
 ·have p : f.iR = c.B := by simpa [mV, a] using v
  rw [aq (by simp [a])]
  have t : mf C ⟨c.Head, f.jA⟩ := .inc c f.jA s a (by rw [← p]; exact h.wy f u)
  refine (BU q h cs o ws t).mono (fun T' _ i => ⟨fun _ _ => i, fun k => absurd (a.symm.trans k) (by decide), fun k => absurd (a.symm.trans k) (by decide)⟩)
 rw [ap (by simp [a])]
 by_cases d : c.Kind = 3
 ·have p : f.iR = c.B := by simpa [mV, d] using v
  rw [aq (by simp [d])]
  refine (Qt q z h cs o ws ⟨f.jA, c.jU⟩ c.Head (fun w hw => .EJ c f.jA w s d (by rw [← p]; exact h.wy f u) (h.wy _ hw))).mono (fun T' _ i => ⟨fun k => absurd k a, fun _ _ w hw => i w hw, fun k => absurd (d.symm.trans k) (by decide)⟩)
 rw [ap (by simp [d])]
 by_cases m : c.Kind = 4
 ·rw [aq (by simp [m])]
  simp only [aa]
  by_cases g : (⟨c.B, f.jA⟩ : iV) ∈ FS T ∧ (⟨c.C, f.jA⟩ : iV) ∈ FS T
  ·rw [aq (by rw [az, rW h.keys, rW h.keys]; exact g)]
   have t : mf C ⟨c.Head, f.jA⟩ := .both c f.jA s m (h.wy _ g.1) (h.wy _ g.2)
   exact (BU q h cs o ws t).mono (fun T' _ i => ⟨fun k => absurd k a, fun k => absurd k d, fun _ _ _ => i⟩)
  ·rw [ap (by rw [az, rW h.keys, rW h.keys]; exact g)]
   exact ⟨T, j, n, rfl, h, yM.refl _ _, fun k => absurd k a, fun k => absurd k d, fun _ x y => absurd ⟨x, y⟩ g⟩
 ·rw [ap (by simp [m])]
  exact ⟨T, j, n, rfl, h, yM.refl _ _, fun k => absurd k a, fun k => absurd k d, fun k => absurd k m⟩
theorem IA {C : List iS} (j : pG C) (k : oK C) (cs : List iS) (i : List (iR × List iS)) (ws : List (ByteArray × List iS)) {c : iS} (m : c ∈ C) (o : c.B ∈ mV c) : ∀ (l : List ByteArray) {T : nC} {a : List iV} {n : Int}, pn C T a n → (∀ w ∈ l, (⟨c.B, w⟩ : iV) ∈ FS T) →
  Bn C T a (nI cs i ws c l (mm T) a n) (fun T' => ∀ w ∈ l, Ec c ⟨c.B, w⟩ T T')
 | [], T, a, n, h, _ => ⟨T, a, n, rfl, h, yM.refl _ _, fun _ hw => by cases hw⟩
 | w :: l, T, a, n, h, hm => by
  rw [nI]
  obtain ⟨T1, x, y, p, g1, x1, t⟩ := MG j k h cs i ws m (f := ⟨c.B, w⟩) (hm w (by simp)) o
  rw [p]
  simp only [aa]
  obtain ⟨T2, g, s, q, g2, x2, u⟩ := IA j k cs i ws m o l g1 (fun w hw => x1.kN _ (hm w (by simp [hw])))
  refine ⟨T2, g, s, q, g2, x1.trans x2, fun v d => ?_⟩
  rcases ay.1 d with rfl | d
  ·exact t.mono (fun _ h => h) x2.kN
  ·exact (u v d).mono x1.kN (fun _ h => h)
def EH (c : iS) (T : nC) (a : List iV) : Prop :=
 (c.Kind = 1 → (⟨c.Head, c.jA⟩ : iV) ∈ FS T) ∧
 (c.Kind = 2 → ∀ w, (⟨c.B, w⟩ : iV) ∈ FS T → (⟨c.B, w⟩ : iV) ∉ a → (⟨c.Head, w⟩ : iV) ∈ FS T) ∧
 (c.Kind = 3 → ∀ b w, (⟨c.B, b⟩ : iV) ∈ FS T → (⟨c.B, b⟩ : iV) ∉ a → (⟨⟨b, c.jU⟩, w⟩ : iV) ∈ FS T → (⟨⟨b, c.jU⟩, w⟩ : iV) ∉ a → (⟨c.Head, w⟩ : iV) ∈ FS T) ∧
 (c.Kind = 4 → ∀ w, (⟨c.B, w⟩ : iV) ∈ FS T → (⟨c.B, w⟩ : iV) ∉ a → (⟨c.C, w⟩ : iV) ∈ FS T → (⟨c.C, w⟩ : iV) ∉ a → (⟨c.Head, w⟩ : iV) ∈ FS T)
theorem EH.ext {c : iS} {T T' : nC} {i d : List iV} (h : EH c T i) (x : yM T i T' d) : EH c T' d := by
 have kN : ∀ f, f ∈ FS T' → f ∉ d → f ∈ FS T ∧ f ∉ i := fun f n j => by
  rcases x.new f n with h1 | h1
  ·exact ⟨h1, fun m => j (x.todo f m)⟩
  ·exact absurd h1 j
 refine ⟨fun k => x.kN _ (h.1 k), fun k w a b => ?_, fun k b w g a2 a3 a4 => ?_, fun k w g a2 a3 a4 => ?_⟩
 ·exact x.kN _ (h.2.1 k w (kN _ a b).1 (kN _ a b).2)
 ·exact x.kN _ (h.2.2.1 k b w (kN _ g a2).1 (kN _ g a2).2 (kN _ a3 a4).1 (kN _ a3 a4).2)
 ·exact x.kN _ (h.2.2.2 k w (kN _ g a2).1 (kN _ g a2).2 (kN _ a3 a4).1 (kN _ a3 a4).2)
theorem OV {C : List iS} (m : pG C) (t : oK C) {T : nC} {p : List iV} {n : Int} (h : pn C T p n) (cs : List iS) (s : List (iR × List iS)) (ws : List (ByteArray × List iS)) {c : iS} (u : c ∈ C) :
  ∃ T' d i, rr (mm T) cs s ws p n c = some (mm T', d, i) ∧ pn C T' d i ∧ yM T p T' d ∧ EH c T' d := by
 unfold rr
 simp only [Pp]
 by_cases h1 : c.Kind = 1
 ·rw [aq (by simp [h1])]
  obtain ⟨T', d, i, e, g, x, q⟩ := BU m h cs s ws (mf.mem c u h1)
  exact ⟨T', d, i, e, g, x, fun _ => q, fun k => absurd (h1.symm.trans k) (by decide), fun k => absurd (h1.symm.trans k) (by decide), fun k => absurd (h1.symm.trans k) (by decide)⟩
 ·rw [ap (by simp [h1]), Gm m t h]
  simp only [aa]
  have z : c.B ∈ mV c := by unfold mV; rw [ap h1]; split <;> simp
  obtain ⟨T', d, i, e, g, x, q⟩ := IA m t cs s ws u z (mL (qx T c.B)) h (fun w hw => (Aq h.keys ⟨c.B, w⟩).2 ((yw _ _).1 hw))
  have kN : ∀ f, f ∈ FS T' → f ∉ d → f ∈ FS T := fun f v y => by
   rcases x.new f v with h1 | h1
   ·exact h1
   ·exact absurd h1 y
  have o : ∀ w, (⟨c.B, w⟩ : iV) ∈ FS T → Ec c ⟨c.B, w⟩ T T' := fun w hw => q w ((yw _ _).2 ((Aq h.keys ⟨c.B, w⟩).1 hw))
  refine ⟨T', d, i, e, g, x, fun k => absurd k h1, fun k w a b => ?_, fun k b w j a2 a3 a4 => ?_, fun k w j a2 a3 a4 => ?_⟩
  ·exact (o w (kN _ a b)).1 k rfl
  ·exact (o b (kN _ j a2)).2.1 k rfl w (kN _ a3 a4)
  ·exact (o w (kN _ j a2)).2.2 k (kN _ j a2) (kN _ a3 a4)
structure DI (C : List iS) (us : List (iR × List iS)) (ws : List (ByteArray × List iS)) : Prop where
 N6 : ∀ r c, c ∈ (ki jh us r).getD [] ↔ c ∈ C ∧ r ∈ mV c
 word : ∀ w c, c ∈ (ki kc ws w).getD [] ↔ c ∈ C ∧ c.Kind = 3 ∧ c.jU = w
 Q9 : ∀ r, ((ki jh us r).getD []).length ≤ 2 * C.length
 Ri : ∀ w, ((ki kc ws w).getD []).length ≤ C.length
theorem G9 {C : List iS} (j : pG C) (k : oK C) (cs : List iS) (i : List (iR × List iS)) (ws : List (ByteArray × List iS)) {f : iV} : ∀ (l : List iS) {T : nC} {a : List iV} {n : Int}, pn C T a n → f ∈ FS T → (∀ c ∈ l, c ∈ C ∧ f.iR ∈ mV c) →
  Bn C T a (ny cs i ws f l (mm T) a n) (fun T' => ∀ c ∈ l, Ec c f T T')
 | [], T, a, n, h, _, _ => ⟨T, a, n, rfl, h, yM.refl _ _, fun _ hw => by cases hw⟩
 | c :: l, T, a, n, h, m, hm => by
  rw [ny]
  obtain ⟨T1, w, x, o, g1, x1, t⟩ := MG j k h cs i ws (hm c (by simp)).1 m (hm c (by simp)).2
  rw [o]
  simp only [aa]
  obtain ⟨T2, g, s, p, g2, x2, u⟩ := G9 j k cs i ws l g1 (x1.kN _ m) (fun c q => hm c (by simp [q]))
  refine ⟨T2, g, s, p, g2, x1.trans x2, fun v d => ?_⟩
  rcases ay.1 d with rfl | d
  ·exact t.mono (fun _ h => h) x2.kN
  ·exact (u v d).mono x1.kN (fun _ h => h)
theorem Dq {C : List iS} (o : pG C) (w : oK C) (cs : List iS) (k : List (iR × List iS)) (ws : List (ByteArray × List iS)) {f : iV} : ∀ (l : List iS) {T : nC} {i : List iV} {n : Int}, pn C T i n → f ∈ FS T → (∀ c ∈ l, c ∈ C ∧ c.Kind = 3 ∧ c.jU = f.iR.jt) →
  Bn C T i (my f cs k ws l (mm T) i n) (fun T' => ∀ c ∈ l, (⟨c.B, f.iR.ja⟩ : iV) ∈ FS T → (⟨c.Head, f.jA⟩ : iV) ∈ FS T')
 | [], T, i, n, h, _, _ => ⟨T, i, n, rfl, h, yM.refl _ _, fun _ hw => by cases hw⟩
 | c :: l, T, i, n, h, q, hm => by
  rw [my]
  have hk := hm c (by simp)
  by_cases j : (⟨c.B, f.iR.ja⟩ : iV) ∈ FS T
  ·rw [aq ((rW h.keys _ _).2 j)]
   have s : f = ⟨⟨f.iR.ja, c.jU⟩, f.jA⟩ := by rw [hk.2.2]
   have y : mf C ⟨c.Head, f.jA⟩ := .EJ c f.iR.ja f.jA hk.1 hk.2.1 (h.wy _ j) (by rw [← s]; exact h.wy f q)
   obtain ⟨T1, D, E, x, g1, x1, A⟩ := BU o h cs k ws y
   rw [x]
   simp only [aa]
   obtain ⟨T2, g, t, m, g2, x2, u⟩ := Dq o w cs k ws l g1 (x1.kN _ q) (fun c p => hm c (by simp [p]))
   refine ⟨T2, g, t, m, g2, x1.trans x2, fun v d a => ?_⟩
   rcases ay.1 d with rfl | d
   ·exact x2.kN _ A
   ·exact u v d (x1.kN _ a)
  ·rw [ap (fun z => j ((rW h.keys _ _).1 z))]
   obtain ⟨T2, g, t, m, g2, x2, u⟩ := Dq o w cs k ws l h q (fun c p => hm c (by simp [p]))
   refine ⟨T2, g, t, m, g2, x2, fun v d a => ?_⟩
   rcases ay.1 d with rfl | d
   ·exact absurd a j
   ·exact u v d a
theorem Hx {C : List iS} (G : pG C) (I : oK C) {cs : List iS} {D : List (iR × List iS)} {ws : List (ByteArray × List iS)} (v : DI C D ws) : ∀ (m : Nat) {T : nC} {o : List iV} {n : Int}, pn C T o n → (∀ c ∈ C, EH c T o) → C.length * C.length + o.length < m + (FS T).length →
  ∃ T' M, lM cs D ws m (mm T) o n = some (mm T', [], M) ∧ pn C T' [] M ∧ (∀ c ∈ C, EH c T' []) ∧ (∀ f ∈ FS T, f ∈ FS T')
 | 0, T, o, n, h, _, hm => by have := h.len; omega
 | m + 1, T, [], n, h, q, hm => by
  rw [lM]
  exact ⟨T, n, rfl, h, q, fun _ h => h⟩
 | m + 1, T, f :: o, n, h, q, hm => by
  rw [lM]
  rw [aq (by simp)]
  have L : f ∈ FS T := h.sub f (by simp)
  have W := (cv.1 h.Kj)
  simp only [kx, Int.le_refl, aK, Int.toNat_zero, eW, aa]
  rw [show lI (decide ((0 : Nat) ≤ 1) && decide ((1 : Int) ≤ ((f :: o).length : Int))) = some () by simp [lI]; omega]
  simp only [aa, show Int.toNat 1 = 1 from rfl, List.drop_one, List.tail_cons]
  have J : pn C T o n := ⟨h.keys, h.nd, W.2, fun g z => h.sub g (by simp [z]), h.num, h.wy⟩
  obtain ⟨T1, a6, n1, Q, g1, x1, q1⟩ := G9 G I cs D ws ((ki jh D f.iR).getD []) J L (fun c i => (v.N6 _ c).1 i)
  rw [Q]
  simp only [aa]
  obtain ⟨T2, s, n2, R, g2, x2, q2⟩ := Dq G I cs D ws ((ki kc ws f.iR.jt).getD []) g1 (x1.kN _ L) (fun c i => (v.word _ c).1 i)
  rw [R]
  simp only [aa]
  have x := x1.trans x2
  have kN : ∀ g, g ∈ FS T2 → g ∉ s → g ∈ FS T ∧ (g = f ∨ g ∉ f :: o) := fun g z A => by
   rcases x.new g z with h1 | h1
   ·refine ⟨h1, ?_⟩
    by_cases he : g = f
    ·exact .inl he
    ·exact .inr (fun u => by
      rcases ay.1 u with u | u
      ·exact he u
      ·exact A (x.todo g u))
   ·exact absurd h1 A
  have d1 : ∀ c ∈ C, f.iR ∈ mV c → Ec c f T T2 := fun c i Y => (q1 c ((v.N6 _ c).2 ⟨i, Y⟩)).mono (fun _ h => h) x2.kN
  have y : ∀ c ∈ C, EH c T2 s := fun c i => by
   have k := q c i
   refine ⟨fun hk => x.kN _ (k.1 hk), fun hk w a b => ?_, fun hk b w E a2 a3 a4 => ?_, fun hk w E a2 a3 a4 => ?_⟩
   ·obtain ⟨p, d⟩ := kN _ a b
    rcases d with d | d
    ·subst d; exact (d1 c i (by simp [mV, hk])).1 hk rfl
    ·exact x.kN _ (k.2.1 hk w p d)
   ·obtain ⟨p, d⟩ := kN _ E a2
    obtain ⟨t, j⟩ := kN _ a3 a4
    rcases d with d | d
    ·subst d; exact (d1 c i (by simp [mV, hk])).2.1 hk rfl w t
    ·rcases j with j | j
     ·subst j
      exact q2 c ((v.word _ c).2 ⟨i, hk, rfl⟩) (x1.kN _ p)
     ·exact x.kN _ (k.2.2.1 hk b w p d t j)
   ·obtain ⟨p, d⟩ := kN _ E a2
    obtain ⟨t, j⟩ := kN _ a3 a4
    rcases d with d | d
    ·subst d; exact (d1 c i (by simp [mV, hk])).2.2 hk p t
    ·rcases j with j | j
     ·subst j; exact (d1 c i (by simp [mV, hk])).2.2 hk p t
     ·exact x.kN _ (k.2.2.2 hk w p d t j)
  have hlen : s.length + (FS T).length ≤ o.length + (FS T2).length := by
   exact g2.EP J x
  obtain ⟨T3, Z, U, g3, P, o3⟩ := Hx G I v m g2 y (by simp only [aD] at hm; omega)
  exact ⟨T3, Z, U, g3, P, fun g z => o3 g (x.kN g z)⟩
theorem KV (c : iS) : ∀ (l : List iS) (i : Nat), ∃ z, oI c l i = some z ∧ (z ≥ 0 ↔ c ∈ l)
 | [], i => ⟨-1, rfl, by simp⟩
 | x :: l, i => by
  rw [oI]
  by_cases h : mz c x = true
  ·rw [aq h]
   exact ⟨_, rfl, by simp [tQ.1 h]⟩
  ·rw [ap h]
   obtain ⟨z, e, d⟩ := KV c l (i + 1)
   refine ⟨z, e, ?_⟩
   rw [d, ay]
   exact ⟨.inr, fun a => a.resolve_left (fun e => h (tQ.2 e))⟩
theorem Jn (c : iS) (l : List iS) : ∃ b, wo l c = some b ∧ (b = true ↔ c ∈ l) := by
 obtain ⟨z, e, a⟩ := KV c l 0
 refine ⟨decide (z ≥ 0), ?_, by simpa using a⟩
 unfold wo tO vi
 rw [e]
 rfl
theorem Kv (c : iS) (ws : List (ByteArray × List iS)) (C : List iS) (hw : ∀ w, ((ki kc ws w).getD []).length ≤ 2000000) : ∀ (k : List iR) (a : List (iR × List iS)), (∀ r, ((ki jh a r).getD []).length + k.length ≤ 4000000) →
  ∃ i j, mX c ws C k a = some (C, i, j) ∧ (∀ r x, x ∈ (ki jh i r).getD [] ↔ x ∈ (ki jh a r).getD [] ∨ (x = c ∧ r ∈ k)) ∧
   (∀ w x, x ∈ (ki kc j w).getD [] ↔ x ∈ (ki kc ws w).getD [] ∨ (x = c ∧ c.Kind = 3 ∧ w = c.jU)) ∧ (∀ r, ((ki jh i r).getD []).length ≤ ((ki jh a r).getD []).length + k.length) ∧
   (∀ w, ((ki kc j w).getD []).length ≤ ((ki kc ws w).getD []).length + 1)
 | [], a, _ => by
  rw [mX]
  by_cases m : c.Kind = 3
  ·rw [aq (by simp [m])]
   have h := hw c.jU
   rw [lx (by simp; omega) (by simp; omega)]
   simp only [aa]
   refine ⟨a, _, rfl, by simp, fun w x => ?_, by simp, fun w => ?_⟩
   ·rw [DN kG]
    by_cases hk : kc w c.jU = true
    ·rw [aq hk, kG.1 hk]; simp [m]
    ·rw [ap hk]
     have : w ≠ c.jU := fun e => hk (kG.2 e)
     simp [this]
   ·rw [DN kG]
    by_cases hk : kc w c.jU = true
    ·rw [aq hk, kG.1 hk]; simp
    ·rw [ap hk]; exact gN _
  ·rw [ap (by simp [m])]
   exact ⟨a, ws, rfl, by simp, by simp [m], by simp, by simp⟩
 | d :: k, a, n => by
  rw [mX]
  have h := n d
  simp only [aD] at h
  rw [lx (by simp; omega) (by simp; omega)]
  simp only [aa]
  have g : ∀ r, (ki jh (lZ jh a d (((ki jh a d).getD []) ++ [c])) r).getD [] = if jh r d = true then ((ki jh a d).getD []) ++ [c] else (ki jh a r).getD [] := fun r => by
   rw [DN jr]; by_cases hk : jh r d = true
   ·rw [aq hk, aq hk]; rfl
   ·rw [ap hk, ap hk]
  obtain ⟨i, j, e, o, a2, a3, a4⟩ := Kv c ws C hw k (lZ jh a d (((ki jh a d).getD []) ++ [c])) (fun r => by
   rw [g r]
   have p := n r
   simp only [aD] at p
   by_cases hk : jh r d = true
   ·rw [aq hk]; simp; omega
   ·rw [ap hk]; omega)
  refine ⟨i, j, e, fun r x => ?_, a2, fun r => ?_, a4⟩
  ·rw [o, g]
   by_cases hk : jh r d = true
   ·rw [aq hk, jr.1 hk]
    simp only [aI, ay, cj, eo]
    constructor
    ·rintro ((h | h) | h)
     ·exact .inl h
     ·exact .inr ⟨h, .inl trivial⟩
     ·exact .inr ⟨h.1, .inr h.2⟩
    ·rintro (h | h)
     ·exact .inl (.inl h)
     ·exact .inl (.inr h.1)
   ·rw [ap hk]
    have : r ≠ d := fun e => hk (jr.2 e)
    simp [this]
  ·have := a3 r
   rw [g r] at this
   by_cases hk : jh r d = true
   ·rw [aq hk] at this; rw [jr.1 hk] at this ⊢; simp at this ⊢; omega
   ·rw [ap hk] at this; simp; omega
theorem PM {C : List iS} {k : List (iR × List iS)} {ws : List (ByteArray × List iS)} (j : DI C k ws) (s : C.length + 1 ≤ 1000000) {c : iS} (o : jW c = true) (i : List (iR × List (ByteArray × Bool))) (q : List iV) (n : Int) :
  ∃ a d, sb i C k ws q n c = some (C ++ [c], a, d) ∧ DI (C ++ [c]) a d := by
 unfold sb
 rw [lx (by simp; omega) (by simp; omega)]
 simp only [aa, Qm o]
 rw [show lI (decide ((0 : Nat) ≤ 1) && decide ((1 : Int) ≤ ((c.Head :: mV c).length : Int))) = some () by simp [lI]; omega]
 simp only [aa, show Int.toNat 1 = 1 from rfl, List.drop_one, List.tail_cons]
 have p : (mV c).length ≤ 2 := by unfold mV; split; simp; split <;> simp
 obtain ⟨a, d, e, m, a2, a3, a4⟩ := Kv c ws (C ++ [c]) (fun w => by have := j.Ri w; omega) (mV c) k (fun r => by have := j.Q9 r; omega)
 refine ⟨a, d, e, fun r x => ?_, fun w x => ?_, fun r => ?_, fun w => ?_⟩
 ·rw [m, j.N6, aI, aC]
  constructor
  ·rintro (h | h)
   ·exact ⟨.inl h.1, h.2⟩
   ·exact ⟨.inr h.1, by rw [h.1]; exact h.2⟩
  ·rintro ⟨h | h, g⟩
   ·exact .inl ⟨h, g⟩
   ·exact .inr ⟨h, by rw [← h]; exact g⟩
 ·rw [a2, j.word, aI, aC]
  constructor
  ·rintro (h | h)
   ·exact ⟨.inl h.1, h.2⟩
   ·exact ⟨.inr h.1, by rw [h.1]; exact ⟨h.2.1, h.2.2.symm⟩⟩
  ·rintro ⟨h | h, g⟩
   ·exact .inl ⟨h, g⟩
   ·subst h; exact .inr ⟨rfl, g.1, g.2.symm⟩
 ·have := a3 r; have := j.Q9 r; simp; omega
 ·have := a4 w; have := j.Ri w; simp; omega
structure MS (C : List iS) (T : nC) (us : List (iR × List iS)) (ws : List (ByteArray × List iS)) (n : Int) : Prop where
 Dk : pn C T [] n
 cl : ∀ c ∈ C, EH c T []
 SO : DI C us ws
 right : oK C
theorem MS.all {C : List iS} {T : nC} {j : List (iR × List iS)} {ws : List (ByteArray × List iS)} {n : Int} (h : MS C T j ws n) (f : iV) : f ∈ FS T ↔ mf C f := by
 refine ⟨h.Dk.wy f, fun i => ?_⟩
 induction i with
 | mem c a hk => exact (h.cl c a).1 hk
 | inc c w a hk _ ih => exact (h.cl c a).2.1 hk w ih (by simp)
 | EJ c b w a hk _ _ d g => exact (h.cl c a).2.2.1 hk b w d (by simp) g (by simp)
 | both c w a hk _ _ d g => exact (h.cl c a).2.2.2 hk w d (by simp) g (by simp)
theorem IW (q : Int) (z : 0 ≤ q ∧ q ≤ 1000000000000) : ∀ (l : List iS) {C : List iS} {T : nC} {p : List iV} {A : List (iR × List iS)} {ws : List (ByteArray × List iS)} {n : Int}, pn C T p n → (∀ c ∈ C, EH c T p) → DI C A ws → oK C → C.length + l.length ≤ 1000000 →
  ∃ C' T' a d j, mr q l (mm T) C A ws p n = some (j - q, mm T', C', a, d, [], j) ∧ MS C' T' a d j ∧ (∀ c, c ∈ C' ↔ c ∈ C ∨ (c ∈ l ∧ jW c = true)) ∧ C'.length ≤ C.length + l.length ∧ (∀ f ∈ FS T, f ∈ FS T')
 | [], C, T, p, A, ws, n, g, i, u, s, M => by
  rw [mr]
  have Y : pG C := by unfold pG; simp at M; omega
  have a6 := Y.sq
  have hlen := g.len
  have a7 := g.Rw
  obtain ⟨T', j, e, G, c', o⟩ := Hx Y s u (cs := C) jM g i (by rw [oG]; omega)
  unfold tL
  rw [e]
  simp only [aa]
  have P := G.len
  have Z := G.num
  rw [kf (by omega) (by omega)]
  exact ⟨C, T', A, ws, j, rfl, ⟨G, c', u, s⟩, by simp, by simp, o⟩
 | x :: l, C, T, p, A, ws, n, g, i, u, s, M => by
  rw [mr, nA]
  simp only [aD] at M
  obtain ⟨b, hb, v⟩ := Jn x C
  simp only [aa, hb, xX]
  by_cases k : jW x = true ∧ x ∉ C
  ·have J : b = false := by cases b with | false => rfl | true => exact absurd (v.1 rfl) k.2
   rw [k.1, J]
   simp only [bX, Bool.and_self, aK]
   obtain ⟨U, W, e1, U1⟩ := PM u (by omega) k.1 (mm T) p n
   rw [e1]
   simp only [aa]
   have I : pG (C ++ [x]) := by unfold pG; simp; omega
   have t : oK (C ++ [x]) := fun c w => by
    rcases aI.1 w with h | h
    ·exact s c h
    ·simp at h; subst h; exact k.1
   have g1 : pn (C ++ [x]) T p n := g.mono (fun c w => aW _ w)
   obtain ⟨T2, R, n2, e2, g2, x2, c2⟩ := OV I t g1 (C ++ [x]) U W (c := x) (by simp)
   rw [e2]
   simp only [aa]
   have y : ∀ c ∈ C ++ [x], EH c T2 R := fun c w => by
    rcases aI.1 w with h | h
    ·exact (i c h).ext x2
    ·simp at h; subst h; exact c2
   obtain ⟨C', T', a, d, j, e, m, E, a2, a3⟩ := IW q z l g2 y U1 t (by simp; omega)
   refine ⟨C', T', a, d, j, e, m, fun c => ?_, by simp at a2 ⊢; omega, fun f L => a3 f (x2.kN f L)⟩
   rw [E]
   simp only [aI, ay, cj, eo]
   constructor
   ·rintro ((h | h) | h)
    ·exact .inl h
    ·subst h; exact .inr ⟨.inl rfl, k.1⟩
    ·exact .inr ⟨.inr h.1, h.2⟩
   ·rintro (h | ⟨h | h, D⟩)
    ·exact .inl (.inl h)
    ·exact .inl (.inr h)
    ·exact .inr ⟨h, D⟩
  ·have L : (jW x && !b) = false := by
    cases hr : jW x with
    | false => rfl
    | true =>
     have : x ∈ C := du fun Q => k ⟨hr, Q⟩
     rw [v.2 this]; rfl
   rw [L]
   simp only [ae, aA]
   obtain ⟨C', T', a, d, j, e, m, E, a2, a3⟩ := IW q z l g i u s (by omega)
   refine ⟨C', T', a, d, j, e, m, fun c => ?_, by simp; omega, a3⟩
   rw [E, ay]
   constructor
   ·rintro (h | h)
    ·exact .inl h
    ·exact .inr ⟨.inr h.1, h.2⟩
   ·rintro (h | ⟨h | h, D⟩)
    ·exact .inl h
    ·subst h
     exact .inl (du fun Q => k ⟨D, Q⟩)
    ·exact .inr ⟨h, D⟩
theorem Qg {C : List iS} {T : nC} {i : List (iR × List iS)} {ws : List (ByteArray × List iS)} {n : Int} (h : MS C T i ws n) (l : List iS) (k : C.length + l.length ≤ 1000000) :
  ∃ C' T' a d g, sN (mm T) C i ws [] n l = some (g - n, mm T', C', a, d, [], g) ∧ MS C' T' a d g ∧ (∀ c, c ∈ C' ↔ c ∈ C ∨ (c ∈ l ∧ jW c = true)) ∧ C'.length ≤ C.length + l.length ∧ (∀ f ∈ FS T, f ∈ FS T') := by
 have j : pG C := by unfold pG; omega
 have h1 := h.Dk.len
 have m := j.sq
 have o := h.Dk.num
 exact IW n ⟨by omega, by omega⟩ l h.Dk h.cl h.SO h.right k
theorem DI.zero : DI [] [] [] := ⟨fun r c => by simp [ki], fun w c => by simp [ki], fun r => by simp [ki], fun w => by simp [ki]⟩
theorem pn.zero : pn [] [] [] 0 := ⟨by simp, by simp [FS], by simp, by simp, by simp [FS], by simp [FS]⟩
theorem MS.zero : MS [] [] [] [] 0 := ⟨pn.zero, fun c a => (by cases a), DI.zero, fun c a => (by cases a)⟩
theorem O5 (l : List iS) (i : l.length ≤ 1000000) : ∃ C T g ws n, uD l = some (mm T, C, g, ws, [], n) ∧ MS C T g ws n ∧ (∀ c, c ∈ C ↔ c ∈ l ∧ jW c = true) ∧ C.length ≤ l.length := by
 unfold uD
 obtain ⟨C', T', a, d, j, e, m, h, a2, a3⟩ := Qg MS.zero l (by simpa using i)
 rw [show sN [] [] [] [] [] 0 l = _ from e]
 exact ⟨C', T', a, d, j, rfl, m, by simpa using h, by simpa using a2⟩
theorem mf.congr {C C' : List iS} (h : ∀ c, c ∈ C ↔ c ∈ C') (f : iV) : mf C f ↔ mf C' f := ⟨fun d => d.mono (fun c a => (h c).1 a), fun d => d.mono (fun c a => (h c).2 a)⟩
def ye (a b : iV) : Bool := zp a.iR b.iR || (jh a.iR b.iR && nX a.jA b.jA)
theorem zM {a b : iV} : ye a b = true ↔ zp a.iR b.iR = true ∨ (a.iR = b.iR ∧ nX a.jA b.jA = true) := by simp [ye, jr]
def Cy (_ : iV) : Bool := true
theorem Gk : zh (fun a b => ye a b = true) (fun x => Cy x = true) := by
 have H := Ic (fun _ => True)
 refine ⟨fun x _ => ?_, fun x y z _ _ _ h1 c => ?_, fun x y _ _ => ?_⟩
 ·rw [zM]
  rintro (h | ⟨_, h⟩)
  ·exact H.irrefl _ trivial h
  ·rw [rX] at h; cases h
 ·rw [zM] at *
  rcases h1 with h1 | ⟨g, h1⟩
  ·rcases c with c | ⟨d, c⟩
   ·exact .inl (H.trans _ _ _ trivial trivial trivial h1 c)
   ·exact .inl (by rw [← d]; exact h1)
  ·rcases c with c | ⟨d, c⟩
   ·exact .inl (by rw [g]; exact c)
   ·exact .inr ⟨g.trans d, yQ h1 c⟩
 ·simp only [zM]
  rcases H.total x.iR y.iR trivial trivial with h | h | h
  ·exact .inl (.inl h)
  ·rcases yH x.jA y.jA with c | c | c
   ·exact .inl (.inr ⟨h, c⟩)
   ·refine .inr (.inl ?_)
    cases x; cases y; simp at h c; simp [h, c]
   ·exact .inr (.inr (.inr ⟨h.symm, c⟩))
  ·exact .inr (.inr (.inl h))
theorem Gl (a b : ByteArray) : nJ a b = 0 ↔ a = b := by unfold nJ; rw [Fo]; exact ⟨z1, fun h => by rw [h]⟩
theorem RK (a b : ByteArray) : nJ a b < 0 ↔ nX a b = true := by rw [yh]; exact Em _ _
theorem NF (a b : iR) : ∃ c, lP a b = some c ∧ (c < 0 ↔ zp a b = true) ∧ (c = 0 ↔ a = b) := by
 obtain ⟨c, e, h⟩ := tY a b
 refine ⟨c, e, h, ?_⟩
 unfold lP at e
 simp only [ov, lU, aa, sx, rq, sc] at e
 by_cases d : nJ a.ja b.ja = 0
 ·rw [ap (by simp [d])] at e
  have h1 := (Gl _ _).1 d
  by_cases g : nJ a.jt b.jt = 0
  ·rw [ap (by simp [g])] at e
   have i := (Gl _ _).1 g
   cases e
   refine ⟨fun _ => ?_, fun _ => rfl⟩
   cases a; cases b; simp at h1 i; simp [h1, i]
  ·rw [aq (by simp [g])] at e
   cases e
   exact ⟨fun k => absurd k g, fun k => by rw [k] at g; exact absurd ((Gl _ _).2 rfl) g⟩
 ·rw [aq (by simp [d])] at e
  cases e
  exact ⟨fun k => absurd k d, fun k => by rw [k] at d; exact absurd ((Gl _ _).2 rfl) d⟩
theorem N5 (a b : iV) : ∃ c, oS a b = some c ∧ (c < 0 ↔ ye a b = true) := by
 unfold oS
 obtain ⟨c, e, h1, i⟩ := NF a.iR b.iR
 rw [e]
 simp only [ov, lU, aa, sx, rq, sc]
 by_cases g : c = 0
 ·rw [ap (by simp [g])]
  have m := i.1 g
  have d : ¬ zp a.iR b.iR = true := fun j => by have := h1.2 j; omega
  by_cases h : nJ a.jA b.jA = 0
  ·rw [ap (by simp [h])]
   refine ⟨0, rfl, ?_⟩
   rw [zM]
   simp [d, (Gl _ _).1 h, rX]
  ·rw [aq (by simp [h])]
   refine ⟨_, rfl, ?_⟩
   rw [zM, RK]
   exact ⟨fun k => .inr ⟨m, k⟩, fun k => k.elim (fun k => absurd k d) (·.2)⟩
 ·rw [aq (by simp [g])]
  refine ⟨c, rfl, ?_⟩
  rw [zM, h1]
  have : a.iR ≠ b.iR := fun k => g (i.2 k)
  simp [this]
theorem Ld {α : Type} {eq : α → α → Bool} (he : ∀ x y, eq x y = true ↔ x = y) : ∀ (l : List α) (p : α), (p :: l).Nodup → ph eq p l = l
 | [], p, _ => rfl
 | y :: l, p, h => by
  have h1 := cv.1 h
  rw [ph, ap (fun e => h1.1 (by rw [← (he _ _).1 e]; simp)), Ld he l y h1.2]
theorem Si {α : Type} {eq : α → α → Bool} (he : ∀ x y, eq x y = true ↔ x = y) : ∀ l : List α, l.Nodup → dd eq l = l
 | [], _ => rfl
 | x :: l, h => by rw [dd, Ld he l x h]
def zX (P : iV → Prop) (s : List iV) : Prop := s.Pairwise (fun a b => ye a b = true) ∧ ∀ f, f ∈ s ↔ P f
theorem zX.unique {P : iV → Prop} {s t : List iV} (h : zX P s) (k : zX P t) : s = t :=
 sO.unique (l := s) Gk ⟨h.1, fun x => ⟨fun a => ⟨a, rfl⟩, fun a => a.1⟩⟩ ⟨k.1, fun x => by rw [k.2, h.2]; exact ⟨fun a => ⟨a, rfl⟩, fun a => a.1⟩⟩
theorem FM {l : List iV} (d : l.Nodup) (j : l.length ≤ 1000000000000) : ∃ s, wg (fun (x : iV × iV) => oS x.1 x.2) l = some s ∧ zX (fun f => f ∈ l) s := by
 obtain ⟨s, h1, i, c⟩ := yE (eq := lf) (lt := fun a b => ye a b = true) (P := fun x => Cy x = true) (cf := fun (x : iV × iV) => oS x.1 x.2) (l := l) (fun x y => kO) Gk (fun _ _ => rfl) (by omega) (fun x y _ _ => N5 x y)
 have g : s.Nodup := by
  have := (zG h1).2
  rw [this]
  unfold ol
  exact (gk l _).nodup_iff.2 d
 rw [Si (fun x y => kO) s g] at c
 exact ⟨s, h1, c.1, fun f => by rw [c.2]; exact ⟨fun h => h.1, fun h => ⟨h, rfl⟩⟩⟩
theorem Qf (T : nC) : (mm T).flatMap (fun p => p.2.map (fun q => (fun (a : iR) (b : ByteArray) => (⟨a, b⟩ : iV)) p.1 q.1)) = FS T := by
 unfold mm FS tt
 rw [List.flatMap_map]
 congr 1
 funext p
 simp [fa]
theorem OO {C : List iS} (j : pG C) {T : nC} {p : List (iR × List iS)} {ws : List (ByteArray × List iS)} {n : Int} (h : MS C T p ws n) (cs : List iS) (u : List (iR × List iS)) (w : List (ByteArray × List iS)) (m : List iV) (z : Int) :
  ∃ s, vh (mm T) cs u w m z = some s ∧ zX (mf C) s := by
 have k := j.sq
 have hlen := h.Dk.len
 obtain ⟨s, q, i⟩ := FM h.Dk.nd (by omega)
 have g : zX (mf C) s := ⟨i.1, fun f => (i.2 f).trans (h.all f)⟩
 refine ⟨s, ?_, g⟩
 unfold vh Nw
 rw [Qf]
 rw [aq ⟨by omega, by unfold maxLen; omega⟩]
 simp only [aa, sc]
 refine FA (fun o c => ?_)
 obtain ⟨t, d, a⟩ := FM ((c.nodup_iff).2 h.Dk.nd) (by rw [c.length_eq]; omega)
 rw [d]
 congr 1
 exact zX.unique ⟨a.1, fun f => (a.2 f).trans (c.mem_iff.trans (h.all f))⟩ g
theorem OX (r : iR) (w : ByteArray) : ∀ l : List iV, ∃ b, uK r w l = some b ∧ (b = true ↔ (⟨r, w⟩ : iV) ∈ l)
 | [] => ⟨false, rfl, by simp⟩
 | x :: l => by
  rw [uK]
  simp only [xX, aa]
  obtain ⟨b, e, d⟩ := OX r w l
  by_cases h : (jh x.iR r && kc x.jA w) = true
  ·rw [aq h]
   have a : x = ⟨r, w⟩ := by
    rw [az, jr, kG] at h
    cases x; simp at h; simp [h]
   exact ⟨true, rfl, by simp [a]⟩
  ·rw [ap h]
   refine ⟨b, e, ?_⟩
   rw [d, ay]
   refine ⟨.inr, fun c => c.resolve_left (fun e => h ?_)⟩
   rw [← e]; simp [sG, uw]
theorem vu (l : List iV) (r : iR) (w : ByteArray) : ∃ b, qO l r w = some b ∧ (b = true ↔ (⟨r, w⟩ : iV) ∈ l) := OX r w l
def ql (l : List iV) (c : iS) (names : List ByteArray) (w : ByteArray) : Prop :=
 (c.Kind = 1 ∧ c.jA = w) ∨ (c.Kind = 2 ∧ (⟨c.B, w⟩ : iV) ∈ l) ∨ (c.Kind = 4 ∧ (⟨c.B, w⟩ : iV) ∈ l ∧ (⟨c.C, w⟩ : iV) ∈ l) ∨
 (c.Kind ≠ 1 ∧ c.Kind ≠ 2 ∧ c.Kind ≠ 4 ∧ ∃ b ∈ names, (⟨c.B, b⟩ : iV) ∈ l ∧ (⟨⟨b, c.jU⟩, w⟩ : iV) ∈ l)
theorem FC (l : List iV) (c : iS) (w : ByteArray) : ∀ names : List ByteArray, ∃ b, tm l c w names = some b ∧ (b = true ↔ ∃ b ∈ names, (⟨c.B, b⟩ : iV) ∈ l ∧ (⟨⟨b, c.jU⟩, w⟩ : iV) ∈ l)
 | [] => ⟨false, rfl, by simp⟩
 | x :: names => by
  rw [tm]
  obtain ⟨g, j, h1⟩ := vu l c.B x
  obtain ⟨i, k, d⟩ := vu l ⟨x, c.jU⟩ w
  obtain ⟨b, e, m⟩ := FC l c w names
  rw [j, k, e]
  simp only [aa, xX]
  by_cases h : (g && i) = true
  ·rw [aq h]
   rw [az, h1, d] at h
   exact ⟨true, rfl, by simp [h]⟩
  ·rw [ap h]
   rw [az, h1, d] at h
   refine ⟨b, rfl, ?_⟩
   rw [m]
   constructor
   ·rintro ⟨y, a, q⟩; exact ⟨y, by simp [a], q⟩
   ·rintro ⟨y, a, q⟩
    rcases ay.1 a with rfl | a
    ·exact absurd q h
    ·exact ⟨y, a, q⟩
theorem Kw (l : List iV) (c : iS) (names : List ByteArray) (w : ByteArray) : ∃ b, vC l c names w = some b ∧ (b = true ↔ ql l c names w) := by
 unfold vC ql
 simp only [sc]
 by_cases h1 : c.Kind = 1
 ·rw [aq (by simp [h1])]; exact ⟨_, rfl, by simp [h1, kG]⟩
 rw [ap (by simp [h1])]
 by_cases a : c.Kind = 2
 ·rw [aq (by simp [a])]
  obtain ⟨b, e, g⟩ := vu l c.B w
  exact ⟨b, e, by simp [a, g]⟩
 rw [ap (by simp [a])]
 by_cases d : c.Kind = 4
 ·rw [aq (by simp [d])]
  obtain ⟨m, j, h⟩ := vu l c.B w
  obtain ⟨n, k, i⟩ := vu l c.C w
  rw [j, k]
  simp only [aa, xX]
  exact ⟨_, rfl, by simp [d, h, i]⟩
 rw [ap (by simp [d])]
 obtain ⟨b, e, g⟩ := FC l c w names
 exact ⟨b, e, by rw [g]; simp [h1, a, d]⟩
theorem ql.wy {C : List iS} {l : List iV} (a : ∀ f ∈ l, mf C f) {c : iS} (d : c ∈ C) (hk : c.Kind = 1 ∨ c.Kind = 2 ∨ c.Kind = 3 ∨ c.Kind = 4) {names : List ByteArray} {w : ByteArray} (h : ql l c names w) : mf C ⟨c.Head, w⟩ := by
 rcases h with ⟨k, rfl⟩ | ⟨k, h⟩ | ⟨k, h1, g⟩ | ⟨i, k2, j, b, _, h1, g⟩
 ·exact .mem c d k
 ·exact .inc c w d k (a _ h)
 ·exact .both c w d k (a _ h1) (a _ g)
 ·exact .EJ c b w d (by omega) (a _ h1) (a _ g)
theorem Gp {c : iS} (h : jW c = true) : c.Kind = 1 ∨ c.Kind = 2 ∨ c.Kind = 3 ∨ c.Kind = 4 := by rcases lG h with h | h | h | h <;> simp [h.1]
structure Dy (C : List iS) (out : List iV) : Prop where
 nd : out.Nodup
 wy : ∀ f ∈ out, mf C f
theorem Dy.len {C : List iS} {out : List iV} (h : Dy C out) : out.length ≤ C.length * C.length := by
 rw [← xP]; exact kL h.nd (fun f a => (h.wy f a).A6)
theorem Fg {C : List iS} (s : pG C) (t : oK C) {c : iS} (m : c ∈ C) (names : List ByteArray) : ∀ (l : List ByteArray) (out : List iV) (i : Bool), Dy C out →
  ∃ g d, uT c names l out i = some (g, d) ∧ Dy C g ∧ (d = true → i = true ∨ out.length < g.length) ∧ (d = false → i = false ∧ g = out ∧ ∀ w ∈ l, ql out c names w → (⟨c.Head, w⟩ : iV) ∈ out) ∧ out.length ≤ g.length
 | [], out, i, h => ⟨out, i, rfl, h, .inl, fun h => ⟨h, rfl, fun _ hw => by cases hw⟩, aJ _⟩
 | w :: l, out, i, h => by
  rw [uT]
  obtain ⟨y, E, h1⟩ := vu out c.Head w
  obtain ⟨D, G, z⟩ := Kw out c names w
  rw [E, G]
  simp only [aa, xX]
  by_cases j : (!y && D) = true
  ·rw [aq j]
   rw [az] at j
   have u : (⟨c.Head, w⟩ : iV) ∉ out := fun L => by have := h1.2 L; rw [this] at j; exact absurd j.1 (by decide)
   have P := h.len
   have M := s.sq
   rw [lx (by simp; omega) (by simp; omega)]
   simp only [aa]
   have I : Dy C (out ++ [⟨c.Head, w⟩]) := ⟨aR.2 ⟨h.nd, by simp, fun a J b j e => by simp at j; subst j; subst e; exact u J⟩, fun f k => by
    rcases aI.1 k with k | k
    ·exact h.wy f k
    ·simp at k; subst k; exact (z.1 j.2).wy h.wy m (Gp (t c m))⟩
   obtain ⟨g, d, e, n, a2, a3, a4⟩ := Fg s t m names l _ true I
   simp at a4
   exact ⟨g, d, e, n, fun _ => .inr (by omega), fun k => (by cases (a3 k).1), by omega⟩
  ·rw [ap j]
   obtain ⟨g, d, e, n, a2, a3, a4⟩ := Fg s t m names l out i h
   refine ⟨g, d, e, n, a2, fun k => ?_, a4⟩
   obtain ⟨o, p, q⟩ := a3 k
   refine ⟨o, p, fun v x A => ?_⟩
   rcases ay.1 x with rfl | x
   ·refine du fun u => j ?_
    rw [az, z.2 A]
    cases y with
    | false => exact ⟨rfl, rfl⟩
    | true => exact absurd (h1.1 rfl) u
   ·exact q v x A
theorem Iz {C : List iS} (n : pG C) (o : oK C) (names : List ByteArray) : ∀ (l : List iS) (out : List iV) (a : Bool), (∀ c ∈ l, c ∈ C) → Dy C out →
  ∃ g i, xa names l out a = some (g, i) ∧ Dy C g ∧ (i = true → a = true ∨ out.length < g.length) ∧ (i = false → a = false ∧ g = out ∧ ∀ c ∈ l, ∀ w ∈ names, ql out c names w → (⟨c.Head, w⟩ : iV) ∈ out) ∧ out.length ≤ g.length
 | [], out, a, _, h => ⟨out, a, rfl, h, .inl, fun h => ⟨h, rfl, fun _ hw => by cases hw⟩, aJ _⟩
 | c :: l, out, a, p, h => by
  rw [xa]
  obtain ⟨y, c1, v, q, a2, a3, a4⟩ := Fg n o (p c (by simp)) names names out a h
  rw [v]
  simp only [aa]
  obtain ⟨z, c2, x, s, t, u, L⟩ := Iz n o names l y c1 (fun d j => p d (by simp [j])) q
  refine ⟨z, c2, x, s, fun k => ?_, fun k => ?_, by omega⟩
  ·rcases t k with h1 | h1
   ·rcases a2 h1 with m | m
    ·exact .inl m
    ·exact .inr (by omega)
   ·exact .inr (by omega)
  ·obtain ⟨A, D, E⟩ := u k
   obtain ⟨G, I, J⟩ := a3 A
   subst I
   refine ⟨G, D, fun d j => ?_⟩
   rcases ay.1 j with rfl | j
   ·exact J
   ·exact E d j
def zF : iV := ⟨⟨zS, zS⟩, zS⟩
theorem Ix (a b : iV) : ue a b = some (ye a b) := by
 unfold ue ye
 simp only [AN, aa, xX, Pf]
def Qq (a : List iV) (c : Int) (p : Bool × iV) : Prop := (p.1 = false ∧ c = -1) ∨ (p.1 = true ∧ 0 ≤ c ∧ kx a c = some p.2)
theorem AO (out a : List iV) (j : out.length < 4611686018427387904) : ∀ (rest A : List iV) (c : Int) (p : Bool × iV), a = A ++ rest → Qq a c p →
  ∃ d, ow out a rest A.length c = some d ∧ Qq a d (qj Cy ye out.getLast? rest p.1 p.2)
 | [], A, c, p, g, k => ⟨c, rfl, k⟩
 | x :: rest, A, c, p, g, k => by
  rw [ow, qj]
  simp only [Cy, dj]
  have h1 : ((if ((out.length : Int) == 0) = true then some true else (kx out (wi0 .i64 ((out.length : Int) - 1))).bind fun y => (ue y x).bind fun r => some r) : Option Bool) = some (out.getLast?.all fun y => ye y x) := by
   rcases cV out with h | ⟨B, z, h⟩
   ·subst h; rfl
   ·subst h
    rw [ap (by simp; omega)]
    rw [List.concat_eq_append] at j ⊢
    rw [Fj B z (by simp at j; omega)]
    simp [Ix]
  have q : ((if decide (c < 0) = true then some true else (kx a c).bind fun y => (ue x y).bind fun r => some r) : Option Bool) = some (!p.1 || ye x p.2) := by
   rcases k with ⟨m, n⟩ | ⟨m, n, o⟩
   ·rw [aq (by simp [n]), m]; rfl
   ·rw [ap (by simpa using n), o, m]
    simp [Ix]
  rw [h1]
  simp only [aa]
  rw [q]
  simp only [aa, xX]
  have s : kx a (A.length : Int) = some x := by rw [g]; exact sW A x rest _ rfl
  by_cases i : ((out.getLast?.all fun y => ye y x) && (!p.1 || ye x p.2)) = true
  ·rw [aq i, aq i]
   have := AO out a j rest (A ++ [x]) (A.length : Int) (true, x) (by rw [g]; simp) (.inr ⟨rfl, by simp, s⟩)
   simpa using this
  ·rw [ap i, ap i]
   have := AO out a j rest (A ++ [x]) c p (by rw [g]; simp) k
   simpa using this
theorem EL {out a : List iV} (d : out.length < 4611686018427387904) (h : (qj Cy ye out.getLast? a false zF).1 = false) : ∀ EP : List iV, ou a EP out = some out
 | [] => rfl
 | x :: EP => by
  rw [ou]
  obtain ⟨b, e, i⟩ := AO out a d a [] (-1) (false, zF) rfl (.inl ⟨rfl, rfl⟩)
  rw [show ow out a a 0 (-1) = some b from e]
  simp only [aa]
  rcases i with ⟨_, g⟩ | ⟨c, _⟩
  ·rw [ap (by simp [g])]; exact EL d h EP
  ·rw [h] at c; cases c
theorem Hf (a : List iV) : ∀ (EP : List iV) (out s : List iV), yY 48 Cy ye zF a (EP.length + 1) out = some s → s.length < 4611686018427387904 → ou a EP out = some s ∧ out.length ≤ s.length
 | [], out, s, h, i => by
  rw [yY] at h
  cases hp : (qj Cy ye out.getLast? a false zF).1 with
  | false =>
   rw [hp] at h
   simp only [bX, aK] at h
   cases h
   exact ⟨rfl, aJ _⟩
  | true =>
   rw [hp] at h
   simp only [aY, ae, aA] at h
   obtain ⟨o, c, h⟩ := bind_some h
   replace h : yY 48 Cy ye zF a 0 o = some s := h
   rw [yY] at h
   cases h
 | x :: EP, out, s, h, i => by
  rw [yY] at h
  cases hp : (qj Cy ye out.getLast? a false zF).1 with
  | false =>
   rw [hp] at h
   simp only [bX, aK] at h
   cases h
   exact ⟨EL i hp _, aJ _⟩
  | true =>
   rw [hp] at h
   simp only [aY, ae, aA] at h
   obtain ⟨o, c, h⟩ := bind_some h
   have g := c
   unfold kR at c
   split at c
   case isFalse => cases c
   cases c
   obtain ⟨n, k2⟩ := Hf a EP _ s h i
   simp at k2
   rw [ou]
   obtain ⟨b, e, m⟩ := AO out a (by omega) a [] (-1) (false, zF) rfl (.inl ⟨rfl, rfl⟩)
   rw [show ow out a a 0 (-1) = some b from e]
   simp only [aa]
   rcases m with ⟨d, _⟩ | ⟨d, j, k⟩
   ·rw [hp] at d; cases d
   ·rw [aq (by simpa using j), k]
    simp only [aa]
    rw [g]
    exact ⟨n, by omega⟩
theorem NE (l : List iV) (d : l.length ≤ 1000000000) : ∃ s, BX l = some s ∧ zX (fun f => f ∈ l) s := by
 obtain ⟨s, h1, a⟩ := AW Gk (w := 48) (by omega) zF l d (l.length + 1) [] (by simp) (by simp) (fun x c => by cases c) (fun x _ _ => .inr rfl)
 have hlen : s.length ≤ l.length := kL (uZ Gk (fun _ _ => rfl) a.1) (fun x c => ((a.2 x).1 c).1)
 exact ⟨s, (Hf l l [] s h1 (by omega)).1, a.1, fun f => by rw [a.2]; exact ⟨fun h => h.1, fun h => ⟨h, rfl⟩⟩⟩
theorem JH : ∀ (l : List iS) (acc : List ByteArray), acc.length + 4 * l.length ≤ 1000000000 → sJ l acc = Bl (acc ++ l.flatMap fun c => [c.jA, c.Head.ja, c.B.ja, c.C.ja])
 | [], acc, _ => by rw [sJ]; simp [sc]
 | c :: l, acc, h => by
  rw [sJ]
  simp only [aD] at h
  rw [lx (by simp; omega) (by simp; omega)]
  simp only [aa]
  rw [JH l _ (by simp; omega)]
  simp
def SM (C : List iS) : Prop := C.length ≤ 30000
theorem SM.small {C : List iS} (h : SM C) : pG C := by unfold SM at h; unfold pG; omega
theorem SM.sq {C : List iS} (h : SM C) : C.length * C.length ≤ 900000000 := ep h h
theorem NZ {C : List iS} (d : SM C) (i : oK C) : ∃ names, y7 C = some names ∧ ∀ c ∈ C, c.Kind = 1 → c.jA ∈ names := by
 have g : C.length ≤ 30000 := d
 unfold y7
 rw [JH C [] (by simp; omega)]
 obtain ⟨s, e, j⟩ := PB ([] ++ C.flatMap fun c => [c.jA, c.Head.ja, c.B.ja, c.C.ja]) (by
  have : ∀ l : List iS, (l.flatMap fun c => [c.jA, c.Head.ja, c.B.ja, c.C.ja]).length = 4 * l.length := fun l => by
   induction l with
   | nil => rfl
   | cons x l ih => simp [ih]; omega
  rw [bt, this]; omega)
 refine ⟨s, e, fun c a hk => (j.2 _).2 ⟨?_, ?_⟩⟩
 ·rw [bt]; exact fR.2 ⟨c, a, by simp⟩
 ·rcases lG (i c a) with h | h | h | h
  ·exact h.2.1
  ·exact absurd (hk.symm.trans h.1) (by decide)
  ·exact absurd (hk.symm.trans h.1) (by decide)
  ·exact absurd (hk.symm.trans h.1) (by decide)
theorem FG {C : List iS} (o : oK C) {names : List ByteArray} (m : ∀ c ∈ C, c.Kind = 1 → c.jA ∈ names) {out : List iV} (h : ∀ c ∈ C, ∀ w ∈ names, ql out c names w → (⟨c.Head, w⟩ : iV) ∈ out) {f : iV} (k : mf C f) : f ∈ out := by
 have hw : ∀ f, mf C f → f.jA ∈ names := fun f k => by
  obtain ⟨c, a, hk, e⟩ := k.sd
  rw [← e]; exact m c a hk
 induction k with
 | mem c a hk => exact h c a _ (m c a hk) (.inl ⟨hk, rfl⟩)
 | inc c w a hk n ih => exact h c a w (hw _ n) (.inr (.inl ⟨hk, ih⟩))
 | EJ c b w a hk d j g i => exact h c a w (hw _ j) (.inr (.inr (.inr ⟨by omega, by omega, by omega, b, hw _ d, g, i⟩)))
 | both c w a hk d j g i => exact h c a w (hw _ d) (.inr (.inr (.inl ⟨hk, g, i⟩)))
theorem Jo {C : List iS} (a : SM C) (d : oK C) {names : List ByteArray} (i : ∀ c ∈ C, c.Kind = 1 → c.jA ∈ names) : ∀ (m : Nat) (out : List iV), Dy C out → C.length * C.length < m + out.length →
  ∃ s, wZ names C m out = some s ∧ zX (mf C) s
 | 0, out, h, hm => by have := h.len; omega
 | m + 1, out, h, hm => by
  rw [wZ]
  obtain ⟨o, c, e, j, a2, a3, a4⟩ := Iz a.small d names C out false (fun _ h => h) h
  rw [e]
  simp only [aa, sc]
  cases c with
  | false =>
   simp only [bX, aK]
   obtain ⟨_, k, n⟩ := a3 rfl
   subst k
   have t := h.len
   have q := a.sq
   obtain ⟨s, p, g⟩ := NE o (by omega)
   exact ⟨s, p, g.1, fun f => (g.2 f).trans ⟨h.wy f, FG d i n⟩⟩
  | true =>
   simp only [aY, ae, aA]
   rcases a2 rfl with h1 | h1
   ·cases h1
   ·exact Jo a d i m o j (by omega)
theorem PW (l : List iS) (p : l.length ≤ 30000) : ∃ C s, zu l = some s ∧ zX (mf C) s ∧ ∀ c, c ∈ C ↔ c ∈ l ∧ jW c = true := by
 unfold zu
 obtain ⟨C, e, d⟩ := PZ l (by omega)
 have hlen := pK Ca d
 have a : SM C := by unfold SM; omega
 have g : oK C := fun c k => ((d.2 c).1 k).2
 obtain ⟨names, h, n⟩ := NZ a g
 rw [e]
 simp only [aa]
 rw [h]
 simp only [aa]
 have o := a.sq
 obtain ⟨s, i, j⟩ := Jo a g n jM [] ⟨by simp, fun f m => by cases m⟩ (by rw [oG]; simp; omega)
 exact ⟨C, s, i, j, d.2⟩
theorem Pw {P : iV → Prop} {s t : List iV} (h : zX P s) (c : ∀ f, P f → f ∈ t) : s.length ≤ t.length := kL (uZ Gk (fun _ _ => rfl) h.1) (fun f a => c f ((h.2 f).1 a))
theorem PP {C : List iS} {s : List iV} (h : zX (mf C) s) (a : SM C) : s.length ≤ 900000000 := by
 have := Pw h (t := A6 C) (fun f c => c.A6)
 rw [xP] at this
 have := a.sq
 omega
theorem QI {C : List iS} {T : nC} {c : List (iR × List iS)} {ws : List (ByteArray × List iS)} {n : Int} (h : MS C T c ws n) (cs : List iS) (u : List (iR × List iS)) (w : List (ByteArray × List iS)) (a : List iV) (z : Int) (r : iR) (sd : ByteArray) :
  ∃ b, qC (mm T) cs u w a z r sd = some b ∧ (b = true ↔ mf C ⟨r, sd⟩) :=
 ⟨_, rfl, by rw [rW h.Dk.keys, h.all]⟩
def qA : iR := ⟨⟨#[97]⟩, ⟨#[114]⟩⟩
def qB : iR := ⟨⟨#[98]⟩, ⟨#[115]⟩⟩
def qd : ByteArray := ⟨#[100]⟩
def j1 : iS := ⟨2, qA, zS, qB, ⟨zS, zS⟩, zS⟩
def j2 : iS := ⟨1, qB, qd, ⟨zS, zS⟩, ⟨zS, zS⟩, zS⟩
theorem B6 (f : ByteArray → Option Bool) (p : ByteArray → Bool) : ∀ (l : List ByteArray) (i : Nat), (∀ x ∈ l, f x = some (p x)) → ∃ z, mE f l i = some z ∧ (z ≥ 0 ↔ ∃ x ∈ l, p x = true)
 | [], i, _ => ⟨-1, rfl, by simp⟩
 | x :: l, i, h => by
  rw [mE, h x (by simp)]
  simp only [aa]
  cases hp : p x with
  | true => exact ⟨_, rfl, by simp [hp]⟩
  | false =>
   obtain ⟨z, e, c⟩ := B6 f p l (i + 1) (fun y a => h y (by simp [a]))
   exact ⟨z, e, by rw [c]; simp [hp]⟩
def Ir (c : iS) (p : iR × ByteArray → Bool) (names : List ByteArray) (w : ByteArray) : Bool :=
 if c.Kind = 1 then kc c.jA w else if c.Kind = 2 then p (c.B, w) else if c.Kind = 4 then p (c.B, w) && p (c.C, w) else names.any fun b => p (c.B, b) && p (⟨b, c.jU⟩, w)
theorem MP {f : iR × ByteArray → Option Bool} {p : iR × ByteArray → Bool} (g : ∀ x, f x = some (p x)) (c : iS) (names : List ByteArray) (w : ByteArray) : vT c f names w = some (Ir c p names w) := by
 unfold vT Ir
 simp only [g, aa, xX]
 by_cases h1 : c.Kind = 1
 ·rw [aq (by simp [h1]), aq h1]
 rw [ap (by simp [h1]), ap h1]
 by_cases a : c.Kind = 2
 ·rw [aq (by simp [a]), aq a]
 rw [ap (by simp [a]), ap a]
 by_cases d : c.Kind = 4
 ·rw [aq (by simp [d]), aq d]
 rw [ap (by simp [d]), ap d]
 unfold qv rY
 obtain ⟨z, e, h⟩ := B6 (fun x => rR x f c w) (fun b => p (c.B, b) && p (⟨b, c.jU⟩, w)) names 0 (fun x _ => by
  unfold rR
  simp only [g, aa, xX])
 rw [e]
 simp only [aa]
 congr 1
 rw [aM, dF]
 simpa using h
theorem Cw {f : iR × ByteArray → Option Bool} {p : iR × ByteArray → Bool} (a : ∀ x, f x = some (p x)) (c : iS) (names : List ByteArray) : ∀ (l : List ByteArray) (acc : List iV), acc.length + l.length ≤ 1000000000 →
  pk c f names l acc = some (acc ++ (l.filter (Ir c p names)).map fun w => (⟨c.Head, w⟩ : iV))
 | [], acc, _ => by rw [pk]; simp
 | x :: l, acc, h => by
  rw [pk, MP a]
  simp only [aa, aD] at h ⊢
  cases d : Ir c p names x with
  | true =>
   simp only [aK]
   rw [lx (by simp; omega) (by simp; omega)]
   simp only [aa]
   rw [Cw a c names l _ (by simp; omega)]
   simp [d]
  | false =>
   simp only [ae, aA]
   rw [Cw a c names l acc (by omega)]
   simp [d]
theorem OH {f : iR × ByteArray → Option Bool} {p : iR × ByteArray → Bool} (a : ∀ x, f x = some (p x)) {c : iS} (g : jW c = true) (l : List ByteArray) (h : l.length ≤ 900000000) :
  ∃ names, z6 l names ∧ sX c f l = some (((if c.Kind = 1 then [c.jA] else names).filter (Ir c p names)).map fun w => (⟨c.Head, w⟩ : iV)) := by
 obtain ⟨s, e, d⟩ := Qh l (by omega)
 refine ⟨s, d, ?_⟩
 have hlen : s.length ≤ l.length := pK (Er _) d
 unfold sX
 rw [nA, g]
 simp only [aa, aY, ae, aA]
 rw [e]
 simp only [aa]
 by_cases h1 : c.Kind = 1
 ·rw [aq (by simp [h1]), aq h1]
  simp only [aa]
  rw [Cw a c s _ [] (by simp)]
  simp
 ·rw [ap (by simp [h1]), ap h1]
  simp only [aa]
  rw [Cw a c s _ [] (by simp; omega)]
  simp
theorem Kn {c : iS} {p : iR × ByteArray → Bool} {out : List iV} (hp : ∀ r w, p (r, w) = true ↔ (⟨r, w⟩ : iV) ∈ out) (s : List ByteArray) (w : ByteArray) : Ir c p s w = true ↔ ql out c s w := by
 unfold Ir ql
 by_cases h1 : c.Kind = 1
 ·rw [aq h1, kG]
  constructor
  ·intro h; exact .inl ⟨h1, h⟩
  ·rintro (h | h | h | h)
   ·exact h.2
   ·exact absurd (h1.symm.trans h.1) (by decide)
   ·exact absurd (h1.symm.trans h.1) (by decide)
   ·exact absurd h1 h.1
 rw [ap h1]
 by_cases a : c.Kind = 2
 ·rw [aq a, hp]
  constructor
  ·intro h; exact .inr (.inl ⟨a, h⟩)
  ·rintro (h | h | h | h)
   ·exact absurd h.1 h1
   ·exact h.2
   ·exact absurd (a.symm.trans h.1) (by decide)
   ·exact absurd a h.2.1
 rw [ap a]
 by_cases d : c.Kind = 4
 ·rw [aq d, az, hp, hp]
  constructor
  ·intro h; exact .inr (.inr (.inl ⟨d, h⟩))
  ·rintro (h | h | h | h)
   ·exact absurd h.1 h1
   ·exact absurd h.1 a
   ·exact h.2
   ·exact absurd d h.2.2.1
 rw [ap d, dF]
 constructor
 ·rintro ⟨b, g, h⟩
  rw [az, hp, hp] at h
  exact .inr (.inr (.inr ⟨h1, a, d, b, g, h⟩))
 ·rintro (h | h | h | h)
  ·exact absurd h.1 h1
  ·exact absurd h.1 a
  ·exact absurd h.1 d
  ·obtain ⟨_, _, _, b, g, h⟩ := h
   exact ⟨b, g, by rw [az, hp, hp]; exact h⟩
theorem Oz {C : List iS} {c : iS} (g : c ∈ C) (n : jW c = true) {out : List iV} (d : ∀ f ∈ out, mf C f) {s : List ByteArray} {w : ByteArray} (h : ql out c s w) : mf C ⟨c.Head, w⟩ := by
 rcases h with ⟨h1, a⟩ | ⟨h1, a⟩ | ⟨h1, a, i⟩ | ⟨h1, a, i, b, _, k, m⟩
 ·subst a; exact .mem c g h1
 ·exact .inc c w g h1 (d _ a)
 ·exact .both c w g h1 (d _ a) (d _ i)
 ·have j : c.Kind = 3 := by
   rcases lG n with h | h | h | h
   ·exact absurd h.1 h1
   ·exact absurd h.1 a
   ·exact h.1
   ·exact absurd h.1 i
  exact .EJ c b w g j (d _ k) (d _ m)
theorem MO {f : iR × ByteArray → Option Bool} {p : iR × ByteArray → Bool} (j : ∀ x, f x = some (p x)) {out : List iV} (hp : ∀ r w, p (r, w) = true ↔ (⟨r, w⟩ : iV) ∈ out) (c : iS) {l s : List ByteArray} (m : l.length ≤ 900000000) (n : z6 l s) :
  ∃ h, sX c f l = some h ∧ (∀ g ∈ h, jW c = true ∧ g.iR = c.Head ∧ ql out c s g.jA) ∧ (jW c = true → ∀ w ∈ s, ql out c s w → (⟨c.Head, w⟩ : iV) ∈ h) := by
 by_cases a : jW c = true
 ·obtain ⟨o, i, e⟩ := OH j a l m
  obtain rfl : o = s := sO.unique (Er _) i n
  refine ⟨_, e, fun g k => ?_, fun _ w hw d => ?_⟩
  ·obtain ⟨w, hw, rfl⟩ := aQ.1 k
   exact ⟨a, rfl, (Kn hp _ _).1 (cT.1 hw).2⟩
  ·refine aQ.2 ⟨w, cT.2 ⟨?_, (Kn hp _ _).2 d⟩, rfl⟩
   split
   ·rename_i h1
    rcases d with h | h | h | h
    ·rw [h.2]; simp
    ·exact absurd (h1.symm.trans h.1) (by decide)
    ·exact absurd (h1.symm.trans h.1) (by decide)
    ·exact absurd h1 h.1
   ·exact hw
 ·refine ⟨[], ?_, by simp, fun h => absurd h a⟩
  unfold sX
  rw [nA]
  simp only [cz] at a
  rw [a]
  rfl
theorem LQ {c : iS} (a : jW c = true) (hk : c.Kind = 1) : kM c.jA = true := by
 rcases lG a with h | h | h | h
 ·exact h.2.1
 ·exact absurd (hk.symm.trans h.1) (by decide)
 ·exact absurd (hk.symm.trans h.1) (by decide)
 ·exact absurd (hk.symm.trans h.1) (by decide)
def IZ {α : Type} (eq : α → α → Bool) (a : α) : List α → Nat → Option Int
 | [], _ => some (-1)
 | x :: xs, i => if eq a x then some (i : Int) else IZ eq a xs (i + 1)
theorem Fi {α : Type} {eq : α → α → Bool} (he : ∀ {x y}, eq x y = true ↔ x = y) (a : α) : ∀ (l : List α) (i : Nat), ∃ z, IZ eq a l i = some z ∧ (z ≥ 0 ↔ a ∈ l)
 | [], i => ⟨-1, rfl, by simp⟩
 | x :: l, i => by
  rw [IZ]
  by_cases h : eq a x = true
  ·rw [aq h]; exact ⟨i, rfl, by simp [he.1 h]⟩
  ·rw [ap h]
   obtain ⟨z, h1, d⟩ := Fi he a l (i + 1)
   have c : a ≠ x := fun e => h (he.2 e)
   exact ⟨z, h1, by rw [d]; simp [c]⟩
theorem Nn (a : iV) : ∀ (l : List iV) (i : Nat), oV a l i = IZ lf a l i
 | [], i => rfl
 | x :: l, i => by rw [oV, IZ, Nn a l]
theorem KG (a : iV) : ∀ (l : List iV) (i : Nat), nk a l i = IZ lf a l i
 | [], i => rfl
 | x :: l, i => by rw [nk, IZ, KG a l]
open Classical in
theorem Pq (l : List iV) (f : iV) : oJ l f = some (decide (f ∈ l)) := by
 obtain ⟨z, h1, h2⟩ := Fi (eq := lf) kO f l 0
 unfold oJ vg
 rw [Nn, h1]
 simp only [aa]
 congr 1
 rw [aM]; simp [h2]
open Classical in
theorem Rr (l : List iV) (f : iV) : oY l f = some (decide (f ∈ l)) := by
 obtain ⟨z, h1, h2⟩ := Fi (eq := lf) kO f l 0
 unfold oY sU
 rw [KG, h1]
 simp only [aa]
 congr 1
 rw [aM]; simp [h2]
theorem Kx (f : iV → Option Bool) : ∀ (l : List iV) (i : Nat), mj f l i = vd f l i
 | [], i => rfl
 | x :: l, i => by rw [mj, vd, Kx f l]
theorem QY (f : iV → Option Bool) (p : iV → Bool) (l : List iV) (h : ∀ x ∈ l, f x = some (p x)) : nv l f = some (l.any p) := by
 unfold nv qX
 rw [Kx]
 rcases Ak f p l 0 h with ⟨h1, a⟩ | ⟨A, x, B, rfl, h1, a, c⟩
 ·rw [h1]; simp only [aa]; congr 1; rw [aM]; simp; exact a
 ·rw [c]; simp only [aa]; congr 1; rw [aM]
  simp [a]
theorem F6 (l : List iV) (r : iR) (w : ByteArray) : ∃ b, qy l r w = some b ∧ (b = true ↔ (⟨r, w⟩ : iV) ∈ l) := by
 classical
 refine ⟨_, by unfold qy; rw [Rr]; rfl, by simp⟩
def Ai (s : jk) (a : List iV) : Prop := jW s.iS = true ∧ s.iV.iR = s.iS.Head ∧ ql a s.iS (a.map (·.jA)) s.iV.jA
theorem Ai.mono {s : jk} {a b : List iV} (h : Ai s a) (c : ∀ f ∈ a, f ∈ b) : Ai s b := by
 obtain ⟨h1, i, j⟩ := h
 refine ⟨h1, i, ?_⟩
 rcases j with h | h | h | ⟨k, m, n, g, p, d, o⟩
 ·exact .inl h
 ·exact .inr (.inl ⟨h.1, c _ h.2⟩)
 ·exact .inr (.inr (.inl ⟨h.1, c _ h.2.1, c _ h.2.2⟩))
 ·exact .inr (.inr (.inr ⟨k, m, n, g, aQ.2 ⟨_, c _ d, rfl⟩, c _ d, c _ o⟩))
theorem Ai.congr {s : jk} {a b : List iV} (d : ∀ f, f ∈ a ↔ f ∈ b) : Ai s a ↔ Ai s b := ⟨fun h => h.mono fun f c => (d f).1 c, fun h => h.mono fun f c => (d f).2 c⟩
open Classical in
noncomputable def Ah (s : jk) (had : List iV) : Bool := decide (Ai s had)
theorem wh {s : jk} {a : List iV} : Ah s a = true ↔ Ai s a := by unfold Ah; simp
theorem FV {a b : iR} (h : a ≠ b) : jh a b = false := by
 cases c : jh a b with
 | false => rfl
 | true => exact absurd (jr.1 c) h
theorem Ck (s : jk) (a : List iV) : rC s a = some (Ah s a) := by
 have key : ∀ b, (b = true ↔ Ai s a) → b = Ah s a := fun b h => by rw [aM, h, wh]
 unfold rC
 rw [nA]
 simp only [aa]
 by_cases d : jW s.iS = true
 ·rw [d]
  simp only [aY, ae, aA, aa]
  by_cases i : s.iV.iR = s.iS.Head
  ·rw [i, sG]
   simp only [aY, ae, aA]
   have hk := Gp d
   by_cases h1 : s.iS.Kind = 1
   ·rw [aq (by simpa using h1)]
    congr 1
    refine key _ ?_
    rw [kG]
    constructor
    ·intro h; exact ⟨d, i, .inl ⟨h1, h⟩⟩
    ·rintro ⟨_, _, h | h | h | h⟩
     ·exact h.2
     ·exact absurd (h1.symm.trans h.1) (by decide)
     ·exact absurd (h1.symm.trans h.1) (by decide)
     ·exact absurd h1 h.1
   rw [ap (by simpa using h1)]
   by_cases g : s.iS.Kind = 2
   ·rw [aq (by simpa using g), sc]
    obtain ⟨b, e, k⟩ := F6 a s.iS.B s.iV.jA
    rw [e]; congr 1
    refine key _ ?_
    rw [k]
    constructor
    ·intro h; exact ⟨d, i, .inr (.inl ⟨g, h⟩)⟩
    ·rintro ⟨_, _, h | h | h | h⟩
     ·exact absurd h.1 h1
     ·exact h.2
     ·exact absurd (g.symm.trans h.1) (by decide)
     ·exact absurd g h.2.1
   rw [ap (by simpa using g)]
   by_cases j : s.iS.Kind = 3
   ·rw [aq (by simpa using j), sc]
    unfold vG
    rw [QY _ (fun f => jh f.iR s.iS.B && Ah ⟨⟨2, ⟨zS, zS⟩, zS, ⟨zS, zS⟩, ⟨zS, zS⟩, zS⟩, ⟨⟨zS, zS⟩, zS⟩⟩ [] || (jh f.iR s.iS.B && mM lf a ⟨⟨f.jA, s.iS.jU⟩, s.iV.jA⟩)) a (fun f o => by
     unfold rB
     obtain ⟨b, e, k⟩ := F6 a ⟨f.jA, s.iS.jU⟩ s.iV.jA
     rw [e]
     simp only [aa, xX]
     congr 1
     have u : Ah ⟨⟨2, ⟨zS, zS⟩, zS, ⟨zS, zS⟩, ⟨zS, zS⟩, zS⟩, ⟨⟨zS, zS⟩, zS⟩⟩ [] = false := by
      cases t : Ah ⟨⟨2, ⟨zS, zS⟩, zS, ⟨zS, zS⟩, ⟨zS, zS⟩, zS⟩, ⟨⟨zS, zS⟩, zS⟩⟩ [] with
      | false => rfl
      | true => exact absurd (wh.1 t).1 (by decide +kernel)
     rw [u, Bool.and_false, ir]
     congr 1
     rw [aM, k, mO kO])]
    simp only [aa]
    congr 1
    refine key _ ?_
    rw [dF]
    have u : Ah ⟨⟨2, ⟨zS, zS⟩, zS, ⟨zS, zS⟩, ⟨zS, zS⟩, zS⟩, ⟨⟨zS, zS⟩, zS⟩⟩ [] = false := by
     cases t : Ah ⟨⟨2, ⟨zS, zS⟩, zS, ⟨zS, zS⟩, ⟨zS, zS⟩, zS⟩, ⟨⟨zS, zS⟩, zS⟩⟩ [] with
     | false => rfl
     | true => exact absurd (wh.1 t).1 (by decide +kernel)
    simp only [u, Bool.and_false, ir, az, jr, mO kO]
    constructor
    ·rintro ⟨f, o, q, p⟩
     refine ⟨d, i, .inr (.inr (.inr ⟨h1, g, fun h => absurd (j.symm.trans h) (by decide), f.jA, aQ.2 ⟨f, o, rfl⟩, ?_, p⟩))⟩
     rw [← q]; exact o
    ·rintro ⟨_, _, h | h | h | h⟩
     ·exact absurd h.1 h1
     ·exact absurd h.1 g
     ·exact absurd (j.symm.trans h.1) (by decide)
     ·obtain ⟨_, _, _, b, _, m, n⟩ := h
      exact ⟨_, m, rfl, n⟩
   rw [ap (by simpa using j)]
   have v : s.iS.Kind = 4 := by 
    rcases hk with h | h | h | h
    ·exact absurd h h1
    ·exact absurd h g
    ·exact absurd h j
    ·exact h
   obtain ⟨b, e, k⟩ := F6 a s.iS.B s.iV.jA
   obtain ⟨c, w, x⟩ := F6 a s.iS.C s.iV.jA
   rw [e, w]
   simp only [aa, xX]
   congr 1
   refine key _ ?_
   rw [az, k, x]
   constructor
   ·intro h; exact ⟨d, i, .inr (.inr (.inl ⟨v, h⟩))⟩
   ·rintro ⟨_, _, h | h | h | h⟩
    ·exact absurd h.1 h1
    ·exact absurd h.1 g
    ·exact h.2
    ·exact absurd v h.2.2.1
  ·rw [FV i]
   simp only [bX, aK]
   congr 1
   exact key _ ⟨fun h => (by cases h), fun h => absurd h.2.1 i⟩
 ·simp only [cz] at d
  rw [d]
  simp only [bX, aK, aa]
  congr 1
  exact key _ ⟨fun h => (by cases h), fun h => by rw [h.1] at d; cases d⟩
theorem FW : ∀ (l : List iV) (acc : List ByteArray), acc.length + l.length ≤ 1000000000 → qz l acc = some (acc ++ l.map (·.jA))
 | [], acc, _ => by rw [qz]; simp
 | f :: l, acc, h => by
  simp only [aD] at h
  rw [qz, lx (by simp; omega) (by simp; omega)]
  simp only [aa]
  rw [FW l _ (by simp; omega)]
  simp
theorem HW (s : jk) (a : List iV) (i : a.length ≤ 1000000000) : vl s a = some (Ah s a) := by
 have key : ∀ b, (b = true ↔ Ai s a) → b = Ah s a := fun b h => by rw [aM, h, wh]
 unfold vl
 rw [xh]
 simp only [aa, xX]
 by_cases c : jW s.iS = true
 ·rw [c, dj]
  by_cases d : s.iV.iR = s.iS.Head
  ·rw [d, sG]
   simp only [aK, sc]
   unfold zl
   rw [FW a [] (by simpa using i)]
   simp only [aa, bt]
   obtain ⟨b, e, g⟩ := Kw a s.iS (a.map (·.jA)) s.iV.jA
   rw [e]; congr 1
   refine key _ ?_
   rw [g]
   exact ⟨fun h => ⟨c, d, h⟩, fun h => h.2.2⟩
  ·rw [FV d]
   simp only [ae, aA, aa]
   congr 1
   exact key _ ⟨fun h => (by cases h), fun h => absurd h.2.1 d⟩
 ·simp only [cz] at c
  rw [c]
  simp only [Bool.false_and, ae, aA, aa]
  congr 1
  exact key _ ⟨fun h => (by cases h), fun h => by rw [h.1] at c; cases c⟩
def lH : List iV → List jk → Prop
 | _, [] => True
 | a, s :: l => Ai s a ∧ lH (a ++ [s.iV]) l
theorem lH.mono : ∀ {l : List jk} {a b : List iV}, lH a l → (∀ f ∈ a, f ∈ b) → lH b l
 | [], _, _, _, _ => trivial
 | s :: l, a, b, ⟨h1, g⟩, d => ⟨h1.mono d, lH.mono g (fun f c => by
   rcases aI.1 c with c | c
   ·exact aW _ (d f c)
   ·exact bY _ c)⟩
theorem zx : ∀ (l m : List jk) (a : List iV), lH a (l ++ m) ↔ lH a l ∧ lH (a ++ l.map (·.iV)) m
 | [], m, a => by simp [lH]
 | s :: l, m, a => by
  simp only [bE, lH, zx l m, aO, aB, bt, and_assoc, cU]
open Classical in
noncomputable def Hh (l : List jk) : Bool := decide (lH [] l)
theorem zN {l : List jk} : Hh l = true ↔ lH [] l := by unfold Hh; simp
open Classical in
theorem FO : ∀ (l : List jk) (had : List iV), had.length + l.length ≤ 1000000000 → qa l had = some (decide (lH had l))
 | [], had, _ => by rw [qa]; congr 1; rw [iH, decide_eq_true_iff]; trivial
 | s :: l, had, h => by
  simp only [aD] at h
  rw [qa, Ck]
  simp only [aa]
  cases hf : Ah s had with
  | false =>
   simp only [bX, aK]
   congr 1
   rw [iH, decide_eq_false_iff_not]
   intro hs
   rw [wh.2 hs.1] at hf; cases hf
  | true =>
   simp only [aY, ae, aA]
   rw [lx (by simp; omega) (by simp; omega)]
   simp only [aa]
   rw [FO l _ (by simp; omega)]
   congr 1
   rw [aM]
   simp [lH, wh.1 hf]
theorem Mn (l : List jk) (h : l.length ≤ 1000000000) : vX l = some (Hh l) := by
 unfold vX; rw [FO l [] (by simpa using h)]; rfl
theorem I1 : ∀ (l : List jk) (acc : List iV), acc.length + l.length ≤ 1000000000 → qF l acc = some (acc ++ l.map (·.iV))
 | [], acc, _ => by rw [qF]; simp
 | f :: l, acc, h => by
  simp only [aD] at h
  rw [qF, lx (by simp; omega) (by simp; omega)]
  simp only [aa]
  rw [I1 l _ (by simp; omega)]
  simp
theorem DG (l : List jk) (h : l.length ≤ 1000000000) : te l = some (l.map (·.iV)) := by
 unfold te; rw [I1 l [] (by simpa using h)]; rfl
theorem Hb : ∀ (l : List jk) (acc : List iV), acc.length + l.length ≤ 1000000000 → qK l acc = some (acc ++ l.map (·.iV))
 | [], acc, _ => by rw [qK]; simp
 | f :: l, acc, h => by
  simp only [aD] at h
  rw [qK, lx (by simp; omega) (by simp; omega)]
  simp only [aa]
  rw [Hb l _ (by simp; omega)]
  simp
theorem DP (l : List jk) (h : l.length ≤ 1000000000) : th l = some (l.map (·.iV)) := by
 unfold th; rw [Hb l [] (by simpa using h)]; rfl
theorem Ch {α : Type} (A B : List α) : (A ++ B).take (Int.toNat (A.length : Int)) = A := by simp
open Classical in
theorem Fy : ∀ (B A : List jk), qc ((A ++ B).map (·.iV)) B A.length = some (decide (lH (A.map (·.iV)) B))
 | [], A => by rw [qc]; congr 1; rw [iH, decide_eq_true_iff]; trivial
 | s :: B, A => by
  rw [qc, ud (by omega) (by simp; omega)]
  simp only [aa]
  rw [← List.map_take, Ch, Ck]
  simp only [aa]
  cases hf : Ah s (A.map (·.iV)) with
  | false =>
   simp only [bX, aK]
   congr 1
   rw [iH, decide_eq_false_iff_not]
   intro hs
   rw [wh.2 hs.1] at hf; cases hf
  | true =>
   simp only [aY, ae, aA]
   have := Fy B (A ++ [s])
   simp only [aB, bE, bt, aj, aD, bH, cd] at this
   rw [this]
   congr 1
   rw [aM]
   simp [lH, wh.1 hf]
theorem Gg (l : List jk) (h : l.length ≤ 1000000000) : uj l = some (Hh l) := by
 unfold uj; rw [DG l h]
 exact Fy l []
theorem KQ {l : List jk} (a : l.length ≤ 1000000000) : oE l = some l := by
 unfold oE
 rw [lx (by simp; omega) (by simp; omega)]
 rfl
theorem OB {p : Prop} [Decidable p] (h : p) : lI (decide p) = some () := by simp [lI, h]
theorem IP (A : List jk) (x : jk) (B : List jk) (i : (A ++ x :: B).length ≤ 1000000000) : pE (A ++ x :: B) (A.length : Int) ((A.length : Int) + 1) = some (A ++ B) := by
 have hlen : (A ++ x :: B).length = A.length + (B.length + 1) := by simp
 have a : (A ++ x :: B).take (Int.toNat (A.length : Int)) = A := by simp
 have c : (A ++ x :: B).drop (Int.toNat ((A.length : Int) + 1)) = B := by
  rw [show Int.toNat ((A.length : Int) + 1) = A.length + 1 by omega, List.drop_append]
  simp
 have d : (zi (A ++ x :: B) (Int.toNat (A.length : Int)) (Int.toNat ((A.length : Int) + 1))) = A ++ B ++ (A ++ x :: B).drop ((A ++ x :: B).length - (Int.toNat ((A.length : Int) + 1) - Int.toNat (A.length : Int))) := by
  unfold zi; rw [a, c]
 have g : (A ++ B ++ (A ++ x :: B).drop ((A ++ x :: B).length - (Int.toNat ((A.length : Int) + 1) - Int.toNat (A.length : Int)))).length = (A ++ x :: B).length := by
  rw [aj, cg, hlen, aj]; omega
 unfold pE
 rw [OB (by omega)]
 simp only [aa]
 rw [ap (by simp; omega), ud (by omega) (by omega), ud (by omega) (by omega), OB (by omega)]
 simp only [aa]
 rw [a, c, d, g, OB (by simp; omega)]
 simp only [aa]
 congr 1
 unfold ml
 have h : (Int.toNat ((A ++ B).length : Int)) = (A ++ B).length := by omega
 rw [h, fh, fh]
def zD (l : List jk) (i : Nat) : Prop := ∃ j, i ≤ j ∧ j + 1 < l.length ∧ lH [] (l.eraseIdx j)
theorem Jv {α : Type} (l : List α) (i : Nat) (h : i < l.length) : ∃ A x B, l = A ++ x :: B ∧ A.length = i := ⟨l.take i, l[i], l.drop (i + 1), by simp, by simp; omega⟩
theorem Hr {α : Type} (A : List α) (x : α) (B : List α) : (A ++ x :: B).eraseIdx A.length = A ++ B := by
 rw [List.eraseIdx_append_of_length_le (aJ _)]; simp
theorem zD.step {l : List jk} {i : Nat} (h : i + 1 < l.length) : zD l i ↔ lH [] (l.eraseIdx i) ∨ zD l (i + 1) := by
 constructor
 ·rintro ⟨j, h1, c, a⟩
  rcases Nat.eq_or_lt_of_le h1 with rfl | h1
  ·exact .inl a
  ·exact .inr ⟨j, h1, c, a⟩
 ·rintro (h1 | ⟨j, h1, c, a⟩)
  ·exact ⟨i, aJ _, h, h1⟩
  ·exact ⟨j, by omega, c, a⟩
open Classical in
theorem HD (l : List jk) (hl : l.length ≤ 100000000) : ∀ (n i : Nat), l.length < n + i → i ≤ l.length → qD l n (i : Int) = some (if zD l i then .inl false else .inr ())
 | 0, i, h, hil => by
  omega
 | n + 1, i, h, hil => by
  rw [qD, kf (by omega) (by omega)]
  have hm : (if 0 > (l.length : Int) - 1 then 0 else (l.length : Int) - 1) = ((l.length - 1 : Nat) : Int) := by split <;> omega
  rw [hm]
  by_cases hi : i + 1 < l.length
  ·rw [aq (by simp; omega), KQ (by omega)]
   simp only [aa]
   obtain ⟨A, x, B, rfl, rfl⟩ := Jv l i (by omega)
   rw [kf (by omega) (by omega), IP A x B (by omega)]
   simp only [aa]
   rw [Gg _ (by simp at hl ⊢; omega)]
   simp only [aa]
   rw [zD.step hi, Hr]
   cases hs : Hh (A ++ B) with
   | true => simp [zN.1 hs]
   | false =>
    have hn : ¬ lH [] (A ++ B) := fun h => by rw [zN.2 h] at hs; cases hs
    have := HD _ hl n (A.length + 1) (by omega) (by omega)
    simp only [Int.natCast_add, Int.natCast_one] at this
    simp only [ae, aA, hn, false_or]
    exact this
  ·rw [ap (by simp; omega)]
   have hn : ¬ zD l i := fun ⟨j, h1, h2, _⟩ => by omega
   rw [ap hn]
def BI (l : List jk) : Prop := (l.map (·.iV)).Nodup ∧ lH [] l ∧ ¬ zD l 0
open Classical in
noncomputable def Kq (l : List jk) : Bool := decide (BI l)
theorem zL {l : List jk} : Kq l = true ↔ BI l := by unfold Kq; simp
theorem MX (l : List jk) (g : (l.map (·.iV)).Nodup) {q : Option (Bool ⊕ Unit)} (i : q = (open Classical in some (if zD l 0 then .inl false else .inr ()))) :
  (if (!Hh l) = true then some false else q.bind fun s => match s with | .inl a => some a | .inr _ => some true) = some (Kq l) := by
 subst i
 cases d : Hh l with
 | false =>
  simp only [bX, aK]
  congr 1
  rw [aM, zL]
  exact ⟨fun h => (by cases h), fun h => by rw [zN.2 h.2.1] at d; cases d⟩
 | true =>
  simp only [aY, ae, aA, aa]
  by_cases c : zD l 0
  ·rw [aq c]
   simp only
   congr 1
   rw [aM, zL]
   exact ⟨fun h => (by cases h), fun h => absurd c h.2.2⟩
  ·rw [ap c]
   simp only
   congr 1
   rw [aM, zL]
   exact ⟨fun _ => ⟨g, zN.1 d, c⟩, fun _ => rfl⟩
theorem HA (l : List jk) (k : l.length ≤ 100000000) : ∀ (B A : List iV), A ++ B = l.map (·.iV) → A.Nodup → qI (A ++ B) l B A.length = some (Kq l)
 | [], A, e, g => by
  rw [qI, Gg l (by omega)]
  simp only [aa]
  rw [bu] at e
  exact MX l (by rw [← e]; exact g) (HD l k jM 0 (by rw [oG]; omega) (by omega))
 | f :: B, A, e, g => by
  rw [qI, ud (by omega) (by simp; omega)]
  simp only [aa]
  rw [Ch, Pq]
  simp only [aa]
  by_cases c : f ∈ A
  ·rw [aq (by simpa using c)]
   congr 1
   rw [aM, zL]
   refine ⟨fun h => (by cases h), fun h => ?_⟩
   have := h.1
   rw [← e] at this
   exact absurd rfl ((aR.1 this).2.2 f c f (by simp))
  ·rw [ap (by simpa using c)]
   have := HA l k B (A ++ [f]) (by simpa using e) (aR.2 ⟨g, by simp, fun a i b j d => by rw [aC] at j; rw [d, j] at i; exact c i⟩)
   simpa only [aB, bE, bt, aj, aD, bH, cd] using this
theorem Hz (l : List jk) (a : l.length ≤ 100000000) : wS l = some (Kq l) := by
 unfold wS
 rw [DG l (by omega)]
 exact HA l a _ [] rfl (by simp)
theorem PC : ∀ (P S : List jk) (n : Nat), P.length < n → (P ++ S).length ≤ 100000000 → lH [] (P ++ S) →
  ∃ R, na n (P ++ S) ((P.length : Int) - 1) = some (R ++ S) ∧ R.Sublist P ∧ lH [] (R ++ S) ∧ ∀ R1 x R2, R = R1 ++ x :: R2 → ¬ lH [] (R1 ++ (R2 ++ S)) := by
 intro P
 induction hk : P.length generalizing P with
 | zero =>
  intro S n A q d
  obtain rfl := cD.1 hk
  obtain ⟨m, rfl⟩ : ∃ m, n = m + 1 := ⟨n - 1, by omega⟩
  refine ⟨[], ?_, .slnil, d, fun R1 x R2 h => by simp at h⟩
  rw [na, ap (by simp)]
 | succ k ih =>
  intro S n A q d
  obtain ⟨m, rfl⟩ : ∃ m, n = m + 1 := ⟨n - 1, by omega⟩
  obtain ⟨P0, x, rfl⟩ : ∃ P0 x, P = P0 ++ [x] := by
   rcases cV P with rfl | ⟨L, y, rfl⟩
   ·simp at hk
   ·exact ⟨L, y, by simp⟩
  have o : P0.length = k := by simpa using hk
  subst o
  have w : P0.length + (S.length + 1) ≤ 100000000 := by simp at q; omega
  simp only [aB, bE, bt] at d q ⊢
  rw [na, aq (by simp), KQ (by omega)]
  simp only [aa]
  rw [show ((P0.length + 1 : Nat) : Int) - 1 = (P0.length : Int) by omega, kf (by omega) (by omega), IP P0 x S (by omega)]
  simp only [aa]
  rw [Mn _ (by simp; omega), kf (by omega) (by omega)]
  simp only [aa]
  cases c : Hh (P0 ++ S) with
  | true =>
   simp only [aK, aa]
   obtain ⟨R, e, h1, i, j⟩ := ih P0 rfl S m (by omega) (by simp; omega) (zN.1 c)
   exact ⟨R, e, h1.trans (List.sublist_append_left _ _), i, j⟩
  | false =>
   simp only [ae, aA, aa]
   obtain ⟨R, e, h1, i, j⟩ := ih P0 rfl (x :: S) m (by omega) (by simp; omega) d
   refine ⟨R ++ [x], by rw [e]; simp, ew h1 (.refl _), by simpa using i, fun R1 y R2 t a => ?_⟩
   rcases cV R2 with rfl | ⟨R2', z, rfl⟩
   ·-- x g
    have : R = R1 ∧ x = y := by
     have := List.append_inj' (t₁ := [x]) (t₂ := [y]) (by simpa using t) rfl
     exact ⟨this.1, by simpa using this.2⟩
    obtain ⟨rfl, rfl⟩ := this
    simp only [bt] at a
    rw [zx] at d a
    have : lH [] (P0 ++ S) := (zx _ _ _).2 ⟨d.1, a.2.mono (fun f u => by
     simp only [bt] at u ⊢
     exact (h1.map _).subset u)⟩
    rw [zN.2 this] at c; cases c
   ·have p : R ++ [x] = (R1 ++ y :: R2') ++ [z] := by simpa using t
    have := List.append_inj' p rfl
    obtain ⟨v, s⟩ := this
    simp at s; subst s
    exact j R1 y R2' v (by simpa using a)
theorem NW {R : List jk} {z : jk} (d : ((R ++ [z]).map (·.iV)).Nodup) (g : lH [] (R ++ [z])) (h : ∀ R1 x R2, R = R1 ++ x :: R2 → ¬ lH [] (R1 ++ (R2 ++ [z]))) : BI (R ++ [z]) := by
 refine ⟨d, g, ?_⟩
 rintro ⟨j, _, h1, a⟩
 have c : j < R.length := by simp at h1; omega
 obtain ⟨A, x, B, rfl, rfl⟩ := Jv R j c
 refine h A x B rfl ?_
 have := Hr A x (B ++ [z])
 simp only [aB, bE] at a
 rw [this] at a
 exact a
theorem I5 (P : List jk) (z : jk) (i : (P ++ [z]).length ≤ 10000000) (k : ((P ++ [z]).map (·.iV)).Nodup) (m : lH [] (P ++ [z])) :
  ∃ R, uc (P ++ [z]) = some (R ++ [z]) ∧ R.Sublist P ∧ BI (R ++ [z]) := by
 unfold uc
 rw [sF, nY, Hz _ (by omega)]
 simp only [aa]
 cases n : Kq (P ++ [z]) with
 | true =>
  simp only [aY, ae, aA]
  exact ⟨P, rfl, .refl _, zL.1 n⟩
 | false =>
  simp only [bX, aK]
  have j : P.length + 1 ≤ 10000000 := by simpa using i
  obtain ⟨R, e, h1, d, g⟩ := PC P [z] jM (by rw [oG]; omega) (by simp; omega) m
  have h : wi0 .i64 (((P ++ [z]).length : Int) - 2) = (P.length : Int) - 1 := by rw [kf (by simp; omega) (by simp; omega)]; simp; omega
  rw [h, e]
  simp only [aa]
  have a : (R ++ [z]).Sublist (P ++ [z]) := ew h1 (.refl _)
  have c := NW ((a.map _).nodup k) d g
  rw [show (18446744073709551615 : Nat) = 18446744073709551614 + 1 from rfl, nY, Hz _ (by have := a.length_le; omega)]
  simp only [aa]
  rw [zL.2 c]
  simp only [aY, ae, aA]
  exact ⟨R, rfl, h1, c⟩
def Ao (l : List iS) : List ByteArray := l.flatMap fun c => [c.jA, c.Head.ja, c.B.ja, c.C.ja]
theorem CF (l : List iS) : (Ao l).length = 4 * l.length := by
 unfold Ao
 induction l with
 | nil => rfl
 | cons x l ih => simp [ih]; omega
theorem Hd : ∀ (l : List iS) (acc : List ByteArray), acc.length + 4 * l.length ≤ 1000000000 → qG l acc = wi (acc ++ Ao l)
 | [], acc, _ => by rw [qG, sc]; simp [Ao]
 | c :: l, acc, h => by
  simp only [aD] at h
  rw [qG, lx (by simp; omega) (by simp; omega)]
  simp only [aa]
  rw [Hd l _ (by simp; omega)]
  simp [Ao]
theorem Nc (l : List iS) (h : l.length ≤ 10000000) : ∃ s, w6 l = some s ∧ z6 (Ao l) s ∧ s.length ≤ 4 * l.length := by
 unfold w6
 rw [Hd l [] (by simp; omega)]
 obtain ⟨s, e, a⟩ := Qh ([] ++ Ao l) (by rw [bt, CF]; omega)
 rw [bt] at a
 exact ⟨s, e, a, by rw [← CF]; exact pK (Er _) a⟩
theorem sO.self {α : Type} {lt : α → α → Prop} {P : α → Prop} {l s : List α} (h : sO lt P l s) : sO lt P s s := ⟨h.1, fun x => ⟨fun a => ⟨a, ((h.2 x).1 a).2⟩, fun a => a.1⟩⟩
theorem ql.own {l : List iV} {c : iS} {names : List ByteArray} {w : ByteArray} (h : ql l c names w) : ql l c (l.map (·.jA)) w := by
 rcases h with h | h | h | ⟨d, g, i, b, _, a, j⟩
 ·exact .inl h
 ·exact .inr (.inl h)
 ·exact .inr (.inr (.inl h))
 ·exact .inr (.inr (.inr ⟨d, g, i, b, aQ.2 ⟨_, a, rfl⟩, a, j⟩))
theorem ql.subset {a b : List iV} {c : iS} {names : List ByteArray} {w : ByteArray} (h : ql a c names w) (d : ∀ f ∈ a, f ∈ b) : ql b c names w := by
 rcases h with h | h | h | ⟨i, j, k, g, m, n, o⟩
 ·exact .inl h
 ·exact .inr (.inl ⟨h.1, d _ h.2⟩)
 ·exact .inr (.inr (.inl ⟨h.1, d _ h.2.1, d _ h.2.2⟩))
 ·exact .inr (.inr (.inr ⟨i, j, k, g, m, d _ n, d _ o⟩))
def kA (l : List jk) : List iV := l.map (·.iV)
theorem tJ (l m : List jk) : kA (l ++ m) = kA l ++ kA m := by simp [kA]
structure DU (C : List iS) (want : iV) (out : List jk) : Prop where
 st : lH [] out
 nd : (kA out).Nodup
 cr : ∀ s ∈ out, s.iS ∈ C
 dr : ∀ f ∈ kA out, mf C f
 no : want ∉ kA out
theorem DU.len {C : List iS} {want : iV} {out : List jk} (h : DU C want out) : out.length ≤ C.length * C.length := by
 have h1 : (kA out).length ≤ (A6 C).length := kL h.nd (fun f a => (h.dr f a).A6)
 rw [xP] at h1
 simpa [kA] using h1
structure O6 (C : List iS) (want : iV) (l : List jk) : Prop where
 st : lH [] l
 nd : (kA l).Nodup
 cr : ∀ s ∈ l, s.iS ∈ C
 dr : mf C want
 len : l.length ≤ C.length * C.length
 last : ∃ P z, l = P ++ [z] ∧ z.iV = want
theorem Km {κ : Type} {beq : κ → κ → Bool} (c : ∀ {x y}, beq x y = true ↔ x = y) {a : List κ} {k : κ} (h : k ∉ a) : ins beq a k = a ++ [k] := by
 unfold ins
 rw [ap]
 intro d; exact h ((mO c a k).1 d)
theorem Fp {C : List iS} (A : SM C) (x : oK C) {c : iS} (u : c ∈ C) (sd : List ByteArray) (want : iV) (j : List jk) : ∀ (p : List iV) (out : List jk), DU C want out → (∀ f ∈ kA j, f ∈ kA out) → (∀ f ∈ p, f.iR = c.Head ∧ ql (kA j) c sd f.jA) →
  (∃ l, nP c want p out (tt (kA out)) = some (.inl (.inl (l, true))) ∧ O6 C want l) ∨
  (∃ e, nP c want p out (tt (kA out)) = some (.inr (out ++ e, tt (kA (out ++ e)))) ∧ DU C want (out ++ e) ∧ ∀ f ∈ p, f ∈ kA (out ++ e))
 | [], out, h, _, _ => .inr ⟨[], by rw [nP]; simp, by simpa using h, by simp⟩
 | f :: p, out, h, m, E => by
  rw [nP, Cc]
  by_cases k : f ∈ kA out
  ·rw [aq ((mO kO _ _).2 k)]
   rcases Fp A x u sd want j p out h m (fun g d => E g (by simp [d])) with h1 | ⟨e, h1, y, z⟩
   ·exact .inl h1
   ·refine .inr ⟨e, h1, y, fun g d => ?_⟩
    rcases ay.1 d with rfl | d
    ·rw [tJ]; exact aW _ k
    ·exact z g d
  ·rw [ap (fun t => k ((mO kO _ _).1 t))]
   have P := h.len
   have M := A.sq
   rw [lx (by simp; omega) (by simp; omega)]
   simp only [aa]
   obtain ⟨J, G⟩ := E f (by simp)
   have o : ql (kA out) c sd f.jA := G.subset m
   have n : mf C f := by
    have := Oz u (x c u) h.dr o
    rw [← J] at this; exact this
   have i : lH [] (out ++ [⟨c, f⟩]) := (zx _ _ _).2 ⟨h.st, ⟨x c u, J, o.own⟩, trivial⟩
   have q : (kA (out ++ [⟨c, f⟩])).Nodup := by
    rw [tJ]
    exact aR.2 ⟨h.nd, by simp [kA], fun a I b t D => by
     simp only [kA, aO, dG, aC] at t
     rw [D, t] at I; exact k I⟩
   have v : ∀ s ∈ out ++ [⟨c, f⟩], s.iS ∈ C := fun s m => by
    rcases aI.1 m with m | m
    ·exact h.cr s m
    ·rw [aC] at m; rw [m]; exact u
   have w : ∀ g ∈ kA (out ++ [⟨c, f⟩]), mf C g := fun g d => by
    rw [tJ] at d
    rcases aI.1 d with d | d
    ·exact h.dr g d
    ·simp only [kA, aO, dG, aC] at d
     rw [d]; exact n
   by_cases hw : f = want
   ·rw [aq (kO.2 hw)]
    refine .inl ⟨_, rfl, i, q, v, by rw [← hw]; exact n, ?_, out, _, rfl, hw⟩
    have h1 : (kA (out ++ [⟨c, f⟩])).length ≤ (A6 C).length := kL q (fun g d => (w g d).A6)
    rw [xP] at h1
    simpa [kA] using h1
   ·rw [ap (fun t => hw (kO.1 t)), GO kO, Km kO k]
    have d : DU C want (out ++ [⟨c, f⟩]) := ⟨i, q, v, w, fun k => by
     rw [tJ] at k
     rcases aI.1 k with k | k
     ·exact h.no k
     ·simp only [kA, aO, dG, aC] at k
      exact hw k.symm⟩
    have L : kA out ++ [f] = kA (out ++ [⟨c, f⟩]) := by rw [tJ]; rfl
    rw [L]
    rcases Fp A x u sd want j p _ d (fun g d => by rw [tJ]; exact aW _ (m g d)) (fun g d => E g (by simp [d])) with h1 | ⟨e, h1, y, z⟩
    ·exact .inl h1
    ·refine .inr ⟨⟨c, f⟩ :: e, by rw [h1]; simp, by simpa using y, fun g d => ?_⟩
     rcases ay.1 d with rfl | d
     ·rw [tJ]; exact bY _ (by simp [kA])
     ·have := z g d
      simpa using this
def Jh (sd : List ByteArray) (cs : List iS) (F : List iV) : Prop := ∀ c ∈ cs, ∀ w ∈ sd, ql F c sd w → (⟨c.Head, w⟩ : iV) ∈ F
theorem IV {C : List iS} (q : SM C) (m : oK C) {sd : List ByteArray} (hw : z6 sd sd) (i : sd.length ≤ 900000000) (want : iV) : ∀ (cs : List iS) (out : List jk), (∀ c ∈ cs, c ∈ C) → DU C want out →
  (∃ l, pe sd want cs out (tt (kA out)) = some (.inl (l, true)) ∧ O6 C want l) ∨
  (∃ e, pe sd want cs out (tt (kA out)) = some (.inr (out ++ e, tt (kA (out ++ e)))) ∧ DU C want (out ++ e) ∧ (e = [] → Jh sd cs (kA out)))
 | [], out, _, h => .inr ⟨[], by rw [pe]; simp, by simpa using h, fun _ c A => by cases A⟩
 | c :: cs, out, d, h => by
  rw [pe]
  obtain ⟨z, v, t, a2⟩ := MO (f := fun x => sA x.1 x.2 (tt (kA out))) (p := fun x => mM lf (kA out) ⟨x.1, x.2⟩) (fun x => by unfold sA; rw [Cc]) (out := kA out) (fun r w => mO kO _ _) c i hw
  rw [v]
  simp only [aa]
  rcases Fp q m (d c (by simp)) sd want out z out h (fun _ h => h) (fun f D => (t f D).2) with ⟨l, h1, k⟩ | ⟨e, h1, k, o⟩
  ·rw [h1]
   exact .inl ⟨l, rfl, k⟩
  ·rw [h1]
   simp only [aa]
   rcases IV q m hw i want cs _ (fun x E => d x (by simp [E])) k with ⟨l, n, k2⟩ | ⟨y, n, k2, s⟩
   ·exact .inl ⟨l, n, k2⟩
   ·refine .inr ⟨e ++ y, by rw [n]; simp, by simpa using k2, fun he => ?_⟩
    obtain ⟨rfl, rfl⟩ := List.append_eq_nil_iff.1 he
    simp only [bu] at o s
    intro u a w j g
    rcases ay.1 a with rfl | a
    ·exact o _ (a2 (m _ (d _ (by simp))) w j g)
    ·exact s trivial u a w j g
theorem Il {C : List iS} (k : SM C) (g : oK C) {sd : List ByteArray} (hw : z6 sd sd) (d : sd.length ≤ 900000000) (m : ∀ c ∈ C, c.Kind = 1 → c.jA ∈ sd) (want : iV) : ∀ (n : Nat) (out : List jk) (x : Int), DU C want out → x ≤ out.length → (x = out.length → Jh sd C (kA out)) → ((C.length * C.length : Nat) : Int) < n + x →
  (∃ l, pf sd want C n out x (tt (kA out)) = some (l, true) ∧ O6 C want l) ∨ (pf sd want C n out x (tt (kA out)) = some ([], false) ∧ ¬ mf C want)
 | 0, out, x, h, q, _, p => by
  have := h.len
  omega
 | n + 1, out, x, h, q, i, p => by
  rw [pf]
  by_cases a : x < out.length
  ·rw [aq (by simpa using a)]
   rcases IV k g hw d want C out (fun _ h => h) h with ⟨l, j, k2⟩ | ⟨e, j, k2, s⟩
   ·rw [j]
    exact .inl ⟨l, rfl, k2⟩
   ·rw [j]
    simp only [aa]
    refine Il k g hw d m want n (out ++ e) out.length k2 (by rw [aj]; omega) (fun he => ?_) (by omega)
    have : e = [] := aX (by simp at he; omega)
    subst this
    rw [bu]
    exact s rfl
  ·rw [ap (by simpa using a)]
   refine .inr ⟨rfl, fun o => h.no ?_⟩
   exact FG g m (i (by omega)) o
theorem Oc (l : List iS) (p : l.length ≤ 30000) (want : iV) : ∃ C, Ge l C ∧ ((∃ o, uP l want = some (o, true) ∧ O6 C want o) ∨ (uP l want = some ([], false) ∧ ¬ mf C want)) := by
 obtain ⟨C, i, d⟩ := SK l (by omega)
 obtain ⟨sd, j, hw, n⟩ := Nc l (by omega)
 have k : C.length ≤ l.length := pK Ca d
 have a : SM C := by unfold SM; omega
 have h : oK C := fun c g => ((d.2 c).1 g).2
 refine ⟨C, d, ?_⟩
 unfold uP
 rw [i, j]
 simp only [aa]
 have m := a.sq
 exact Il a h hw.self (by omega) (fun c g hk => (hw.2 _).2 ⟨fR.2 ⟨c, ((d.2 c).1 g).1, by simp⟩, LQ (h c g) hk⟩) want jM [] (-1) ⟨trivial, by simp [kA], by simp, by simp [kA], by simp [kA]⟩ (by simp) (by simp) (by rw [oG]; omega)
structure Sf (C : List iS) (want : iV) (l : List jk) : Prop where
 tg : BI l
 cr : ∀ s ∈ l, s.iS ∈ C
 dr : mf C want
 len : l.length ≤ C.length * C.length
 last : ∃ P z, l = P ++ [z] ∧ z.iV = want
theorem P3 (l : List iS) (p : l.length ≤ 3000) (want : iV) : ∃ C, Ge l C ∧ ((∃ o, uf l want = some (o, true) ∧ Sf C want o) ∨ (uf l want = some ([], false) ∧ ¬ mf C want)) := by
 obtain ⟨C, c, h⟩ := Oc l (by omega) want
 refine ⟨C, c, ?_⟩
 have j : C.length ≤ l.length := pK Ca c
 have m : C.length * C.length ≤ 3000 * 3000 := ep (by omega) (by omega)
 unfold uf
 rcases h with ⟨o, e, g⟩ | ⟨e, g⟩
 ·rw [e]
  simp only [aa, aY, ae, aA]
  obtain ⟨P, z, rfl, n⟩ := g.last
  have hlen := g.len
  obtain ⟨R, d, h1, i⟩ := I5 P z (by omega) g.nd g.st
  rw [d]
  simp only [aa]
  have a : (R ++ [z]).Sublist (P ++ [z]) := ew h1 (.refl _)
  exact .inl ⟨_, rfl, i, fun s k => g.cr s (a.subset k), g.dr, by have := a.length_le; omega, R, z, rfl, n⟩
 ·rw [e]
  exact .inr ⟨rfl, g⟩
def up (w : ByteArray) (g : ByteArray → Nat) : ByteArray → Nat := fun x => if kc w x = true then g x + 1 else g x
def Lc : List jk → List jk → List jk
 | [], acc => acc
 | s :: l, acc => if mM lf (kA acc) s.iV then Lc l acc else Lc l (acc ++ [s])
theorem Fl : ∀ (l acc : List jk), acc.length + l.length ≤ 100000000 → po l (tt (kA acc)) acc = some (Lc l acc)
 | [], acc, _ => by rw [po]; rfl
 | s :: l, acc, h => by
  simp only [aD] at h
  rw [po, Cc, Lc]
  by_cases a : s.iV ∈ kA acc
  ·rw [(mO kO _ _).2 a]
   simp only [aY, ae, aA, aK]
   exact Fl l acc (by omega)
  ·have c : mM lf (kA acc) s.iV = false := by
    cases d : mM lf (kA acc) s.iV with
    | false => rfl
    | true => exact absurd ((mO kO _ _).1 d) a
   rw [c]
   simp only [bX, aK, ae, aA]
   rw [lx (by simp; omega) (by simp; omega)]
   simp only [aa]
   rw [GO kO, Km kO a, show kA acc ++ [s.iV] = kA (acc ++ [s]) by rw [tJ]; rfl]
   exact Fl l _ (by simp; omega)
theorem RX {b : Bool} (h : b = true) : lI b = some () := by simp [lI, h]
theorem Ly (n : Nat) (a : n ≤ 1000000000) : qP (n : Int) = some [] := by
 unfold qP
 rw [show wi0 .i64 (0 - 0) = 0 by decide, kf (by omega) (by omega), ap (by simp), Int.sub_zero]
 by_cases h : (n : Int) > 0
 ·rw [aq (by simp; omega)]
  unfold Gu
  rw [aq ⟨by omega, by omega, by unfold maxLen; omega⟩]
  simp only [aa]
  rw [RX (by simp)]
  simp
 ·rw [ap (by simp; omega)]; simp
def tot {α : Type} (a : List (List α)) : Nat := (a.map List.length).sum
theorem Hy : ∀ (a : List (List jk)) (acc : List jk), acc.length + tot a ≤ 100000000 → mZ a acc = some (acc ++ a.flatten)
 | [], acc, _ => by rw [mZ]; simp
 | l :: a, acc, h => by
  simp only [tot, aO, dS] at h
  rw [mZ, lx (by omega) (by omega)]
  simp only [aa]
  rw [Hy a _ (by simp only [tot, aj]; omega)]
  simp
theorem Hk (a0 : List (List jk)) (c : tot a0 ≤ 100000000) : ∀ (a : List (List jk)) (n : Nat), n + tot a ≤ 100000000 → mW a0 a (n : Int) = some a0.flatten
 | [], n, h => by
  rw [mW, Ly n (by omega)]
  simp only [aa, sc]
  rw [Hy a0 [] (by simpa using c)]; simp
 | l :: a, n, h => by
  simp only [tot, aO, dS] at h
  rw [mW, kf (by omega) (by omega), ap (by simp; omega)]
  have := Hk a0 c a (n + l.length) (by simp only [tot]; omega)
  simpa using this
theorem NY (a0 : List (List jk)) (a : tot a0 ≤ 100000000) : uJ a0 = some a0.flatten := Hk a0 a a0 0 (by omega)
theorem GR {α : Type} (a : List (List α)) : a.flatten.length = tot a := by simp [tot, List.length_flatten]
theorem N0 (a : List (List jk)) (c : tot a ≤ 100000000) : xb a = some (Lc a.flatten []) := by
 unfold xb
 rw [NY a c]
 simp only [aa]
 exact Fl _ [] (by rw [GR]; simpa using c)
instance decRole : DecidableEq iR := fun a b => decidable_of_iff (jh a b = true) jr
structure QA (l : List iS) (F : List iV) : Prop where
 len : l.length ≤ 30000
 C : ∃ C : List iS, zX (mf C) F ∧ (∀ c, c ∈ C ↔ c ∈ l ∧ jW c = true) ∧ SM C
 ref : zu l = some F
theorem QN (l : List iS) (h : l.length ≤ 30000) : ∃ F, QA l F := by
 obtain ⟨C, F, e, h1, i⟩ := PW l h
 obtain ⟨C1, T, k, ws, n, j, m1, a, g⟩ := O5 l (by omega)
 have d : ∀ c, c ∈ C ↔ c ∈ C1 := fun c => by rw [i, a]
 exact ⟨F, h, ⟨C1, ⟨h1.1, fun f => (h1.2 f).trans (mf.congr d f)⟩, a, by unfold SM; omega⟩, e⟩
theorem QA.Ta {l : List iS} {F : List iV} (h : QA l F) : F.length ≤ 900000000 := by
 obtain ⟨C, h1, c, a⟩ := h.C
 exact PP h1 a
def B8 (l : List Int) : Prop := ∀ x ∈ l, 0 ≤ x ∧ x < 256
def Mf : List ByteArray → List Key → Int
 | _, [] => 0
 | seen, k :: l => if kM k.jA = false then 30 else if k.Key.length < 1 ∨ 32 < k.Key.length then 21 else if mM kc seen k.jA = true then 41 else Mf (seen ++ [k.jA]) l
def Ot (l : List Key) : List (ByteArray × List Int) := l.map fun k => (k.jA, k.Key)
def On (l : List Key) (o : ByteArray) : Option (List Int) := ki kc (Ot l) o
theorem IB {l : List Int} (h : l.length ≤ 1000000) : nq l = some l := by
 unfold nq
 rw [zm (by simpa using h)]; rfl
theorem KZ : ∀ (l : List Key) (seen : List ByteArray), Mf seen l = 0 → ∀ k ∈ l, 1 ≤ k.Key.length ∧ k.Key.length ≤ 32
 | [], _, _, _, hk => by cases hk
 | x :: l, seen, h, k, hk => by
  unfold Mf at h
  split at h
  ·cases h
  split at h
  ·cases h
  split at h
  ·cases h
  rcases ay.1 hk with rfl | hk
  ·omega
  ·exact KZ l _ h k hk
theorem E8 : ∀ (l : List Key) (o : ByteArray) (b : List Int), On l o = some b → ∃ k ∈ l, k.Key = b
 | [], o, b, h => by cases h
 | x :: l, o, b, h => by
  unfold On at h
  rw [show Ot (x :: l) = (x.jA, x.Key) :: Ot l from rfl, AP] at h
  split at h
  ·cases h; exact ⟨x, by simp, rfl⟩
  ·obtain ⟨k, hk, e⟩ := E8 l o b h
   exact ⟨k, by simp [hk], e⟩
def K8 (l : List Key) : Prop := ∀ k ∈ l, B8 k.Key
theorem DA {c : iS} (h : jW c = true) : (oB c).length ≤ 200 := by
 unfold oB vr
 rw [aD, aj]
 have i := lB (wL h)
 have a : ∀ s, kM s = true → (qQ s).length ≤ 17 := fun s d => by rw [nL]; have := lo d; omega
 rcases lG h with g | g | g | g <;> simp only [g.1, aK, aA, Int.reduceEq]
 ·have := a c.jA (by simp_all); omega
 ·have : (ng c.B).length ≤ 34 := lB (by simp_all)
  omega
 ·have : (ng c.B).length ≤ 34 := lB (by simp_all)
  have := a c.jU (by simp_all)
  rw [aj]; omega
 ·have : (ng c.B).length ≤ 34 := lB (by simp_all)
  have : (ng c.C).length ≤ 34 := lB (by simp_all)
  rw [aj]; omega
theorem Ty (c : iS) (h : jW c = true) : sE c = some (oB c) := by rw [xB, aq h]
structure Mk (ks : List Key) (c : iS) (k : List Int) : Prop where
 ok : Mf [] ks = 0
 rt : jW c = true
 lk : On ks c.Head.ja = some k
theorem Mk.len {a : List Key} {c : iS} {k : List Int} (h : Mk a c k) : 1 ≤ k.length ∧ k.length ≤ 32 := by
 obtain ⟨q, d, rfl⟩ := E8 _ _ _ h.lk
 exact KZ a [] h.ok q d
theorem Mk.b8 {a : List Key} {c : iS} {k : List Int} (h : Mk a c k) (hk : K8 a) : B8 k := by
 obtain ⟨q, d, rfl⟩ := E8 _ _ _ h.lk
 exact hk q d
theorem Mk.unique {a : List Key} {c : iS} {k k' : List Int} (h : Mk a c k) (d : Mk a c k') : k = k' := by
 have := h.lk; rw [d.lk] at this; cases this; rfl
def S8 (l : List Signed) : Prop := ∀ s ∈ l, B8 s.Tag
def wr {α : Type} : Int ⊕ (α × List Int) → Int ⊕ (α × jo)
 | .inl e => .inl e
 | .inr (v, l) => .inr (v, ⟨l, false⟩)
def lu {α β : Type} (x : Int ⊕ (α × List Int)) (f : α → List Int → Int ⊕ (β × List Int)) : Int ⊕ (β × List Int) :=
 match x with
 | .inl e => .inl e
 | .inr (v, l) => f v l
def pM (a : Int) : Nat → Int → List Int → Int ⊕ (Int × List Int)
 | i, n, [] => .inl (if i = 9 then 11 else 10)
 | i, n, c :: l => if i = 9 then .inl 11 else if c = 0 ∧ 0 < i then .inl 11 else
   if c < 128 then (if n + c % 128 * 128 ^ i > a then .inl 12 else .inr (n + c % 128 * 128 ^ i, l)) else pM a (i + 1) (n + c % 128 * 128 ^ i) l
def Av : Int := 9223372036854775807
def CB (a : Int) (l : List Int) : Int ⊕ (List Int × List Int) :=
 lu (pM Av 0 0 l) fun n c => if n > a then .inl 12 else if n > (c.length : Int) then .inl 10 else .inr (c.take n.toNat, c.drop n.toNat)
def uH (l : List Int) : Int ⊕ (ByteArray × List Int) := lu (CB 16 l) fun t a => if kM (xx t) = true then .inr (xx t, a) else .inl 30
def rA (l : List Int) : Int ⊕ (iR × List Int) := lu (uH l) fun a c => lu (uH c) fun b d => .inr (⟨a, b⟩, d)
def BL (k : Int) (h : iR) (l : List Int) : Int ⊕ (iS × List Int) :=
 if k = 1 then lu (uH l) fun w a => .inr (⟨k, h, w, zR, zR, zS⟩, a)
 else if k = 2 then lu (rA l) fun b a => .inr (⟨k, h, zS, b, zR, zS⟩, a)
 else if k = 3 then lu (rA l) fun b a => lu (uH a) fun w d => .inr (⟨k, h, zS, b, zR, w⟩, d)
 else lu (rA l) fun b a => lu (rA a) fun c d => .inr (⟨k, h, zS, b, c, zS⟩, d)
def Ci (l : List Int) : Int ⊕ (iS × List Int) :=
 lu (pM Av 0 0 l) fun k a => if k < 1 ∨ 4 < k then .inl 11 else lu (rA a) fun h d => lu (BL k h d) fun c g => if jW c = true then .inr (c, g) else .inl 11
theorem xU (l : List Int) (e : Int) (he : e ≠ 0) : kJ ⟨l, false⟩ e = some (.inl e) := by
 unfold kJ; simp [he]
theorem MJ (l : List Int) (i : Int) (k : 0 ≤ i) : sa ⟨l, false⟩ i = some (match l with
  | [] => .inl (if i = 9 then 11 else 10)
  | c :: t => if i = 9 then .inl 11 else if c = 0 ∧ 0 < i then .inl 11 else .inr (c, ⟨t, false⟩)) := by
 unfold sa
 rw [xU _ 11 (by decide), xU _ 10 (by decide)]
 by_cases a : i = 9
 ·subst a; cases l <;> simp
 ·cases l with
  | nil => simp [a]
  | cons c t =>
   have h1 : ((c :: t).length : Int) ≠ 0 := by simp; omega
   have d : lI (decide (0 ≤ (1 : Int)) && decide ((1 : Int) ≤ ((c :: t).length : Int))) = some () := ud (by decide) (by simp; omega)
   have g : kx (c :: t) 0 = some c := sW [] c t 0 rfl
   simp only [fM, a, h1, aA, aa, d, g]
   have h : lI (decide (1 ≤ (t.length : Int) + 1)) = some () := by simp [lI]; omega
   by_cases j : c = 0 <;> by_cases hp : 0 < i <;> simp [j, hp, xU, h]
theorem SI (c : Int) (a : 0 ≤ c) (h1 : c < 256) : IntKind.u8.wrap (BitVec.ofInt (IntKind.bits .u8) c &&& BitVec.ofInt (IntKind.bits .u8) 127).toNat = c % 128 := by
 obtain ⟨k, rfl⟩ : ∃ k : Nat, c = k := ⟨c.toNat, by omega⟩
 have : ∀ k : Nat, k < 256 → IntKind.u8.wrap (BitVec.ofInt (IntKind.bits .u8) (k : Int) &&& BitVec.ofInt (IntKind.bits .u8) 127).toNat = (k : Int) % 128 := by decide +kernel
 exact this k (by omega)
theorem RJ (n m j : Nat) (c : n < 2 ^ j) (hm : m * 2 ^ j + n < 18446744073709551616) : (BitVec.ofInt 64 (n : Int) ||| BitVec.ofInt 64 ((m * 2 ^ j : Nat) : Int)).toNat = n + m * 2 ^ j := by
 have h1 : n < 2 ^ 64 := by omega
 have a : m * 2 ^ j < 2 ^ 64 := by omega
 rw [BitVec.toNat_or, BitVec.ofInt_natCast, BitVec.ofInt_natCast, BitVec.toNat_ofNat, BitVec.toNat_ofNat, Nat.mod_eq_of_lt h1, Nat.mod_eq_of_lt a, Nat.or_comm, ← Nat.shiftLeft_eq, ← Nat.shiftLeft_add_eq_or_of_lt c, iu]
theorem RZ (n c : Int) (i : Nat) (t : i ≤ 8) (s : 0 ≤ n ∧ n < 128 ^ i) (h : 0 ≤ c ∧ c < 256) : wi0 .i64 (BitVec.ofInt (IntKind.bits .i64) n ||| BitVec.ofInt (IntKind.bits .i64) (wi0 .i64 (wi0 .i64 (IntKind.u8.wrap (BitVec.ofInt (IntKind.bits .u8) c &&& BitVec.ofInt (IntKind.bits .u8) 127).toNat) * 2 ^ min (Int.toNat (wi0 .i64 (7 * (i : Int)))) (IntKind.bits .i64)))).toNat = n + c % 128 * 128 ^ i := by
 rw [SI c h.1 h.2, kf (x := c % 128) (by omega) (by omega), kf (x := 7 * (i : Int)) (by omega) (by omega)]
 have j : min (Int.toNat (7 * (i : Int))) (IntKind.bits .i64) = 7 * i := by simp only [IntKind.bits]; omega
 rw [j]
 obtain ⟨a, rfl⟩ : ∃ a : Nat, n = a := ⟨n.toNat, by omega⟩
 obtain ⟨b, p⟩ : ∃ b : Nat, c % 128 = b := ⟨(c % 128).toNat, by omega⟩
 rw [p]
 have q : b < 128 := by omega
 have g : (128 : Nat) ^ i = 2 ^ (7 * i) := by rw [Nat.pow_mul]
 have k : (128 : Int) ^ i = ((2 ^ (7 * i) : Nat) : Int) := by rw [← g]; simp
 have o : a < 2 ^ (7 * i) := by rw [← g]; have := s.2; exact_mod_cast this
 have d : 2 ^ (7 * i) ≤ 2 ^ 56 := Nat.pow_le_pow_right (by decide) (by omega)
 have hm : b * 2 ^ (7 * i) + a < 9223372036854775808 := by
  have : (b + 1) * 2 ^ (7 * i) ≤ 128 * 2 ^ 56 := ep (by omega) d
  rw [bn] at this; omega
 have m : ((b : Int) * 2 ^ (7 * i)) = ((b * 2 ^ (7 * i) : Nat) : Int) := by simp
 rw [m, kf (x := ((b * 2 ^ (7 * i) : Nat) : Int)) (by omega) (by omega)]
 show wi0 .i64 ((BitVec.ofInt 64 (a : Int) ||| BitVec.ofInt 64 ((b * 2 ^ (7 * i) : Nat) : Int)).toNat : Int) = _
 rw [RJ a b (7 * i) o (by omega), kf (by omega) (by omega), k]
 simp
theorem MB (n c : Int) (i : Nat) (a : 0 ≤ n ∧ n < 128 ^ i) : 0 ≤ n + c % 128 * 128 ^ i ∧ n + c % 128 * 128 ^ i < 128 ^ (i + 1) := by
 have h1 : 0 ≤ c % 128 ∧ c % 128 < 128 := ⟨by omega, by omega⟩
 have hp : (0 : Int) < 128 ^ i := Int.pow_pos (by decide)
 constructor
 ·have := Int.mul_nonneg h1.1 (Int.le_of_lt hp); omega
 ·rw [Int.pow_succ]
  have : c % 128 * 128 ^ i ≤ 127 * 128 ^ i := Int.mul_le_mul_of_nonneg_right (by omega) (Int.le_of_lt hp)
  omega
theorem O8 (a : Int) : ∀ (l : List Int) (i : Nat) (n : Int) (k : Nat), B8 l → i ≤ 9 → 0 ≤ n ∧ n < 128 ^ i → l.length < k → lL a k n i l false = some (wr (pM a i n l))
 | [], i, n, k + 1, _, v, _, _ => by
  rw [lL, MJ _ _ (by omega)]
  by_cases g : i = 9 <;> simp [pM, wr, g] <;> omega
 | c :: l, i, n, k + 1, s, v, t, hk => by
  have u := s c (List.mem_cons_self ..)
  rw [lL, MJ _ _ (by omega)]
  unfold pM
  by_cases g : i = 9
  ·subst g; rfl
  ·have m : ¬ ((i : Int) = 9) := by omega
   have q := RZ n c i (by omega) t u
   have hp := MB n c i t
   have o : lI (decide (0 ≤ wi0 .i64 (7 * (i : Int)))) = some () := by rw [kf (by omega) (by omega)]; simp [lI]; omega
   have p : wi0 .i64 ((i : Int) + 1) = ((i + 1 : Nat) : Int) := by rw [kf (by omega) (by omega)]; simp
   simp only [g, m, aA, aa]
   by_cases j : c = 0 ∧ 0 < i
   ·have : c = 0 ∧ 0 < (i : Int) := ⟨j.1, by omega⟩
    rw [aq this, aq j]; rfl
   ·have : ¬ (c = 0 ∧ 0 < (i : Int)) := fun h => j ⟨h.1, by omega⟩
    rw [ap this, ap j]
    simp only [q, o, p, aa]
    by_cases d : c < 128
    ·simp only [d, di, aK]
     by_cases hm : n + c % 128 * 128 ^ i > a
     ·simp only [hm, di, aK, xU _ 12 (by decide), aa, wr]
     ·simp only [hm, dN, aA, ae, aa, wr]
    ·simp only [d, dN, aA, ae]
     exact O8 a l (i + 1) _ k (fun x w => s x (cM _ w)) (by omega) hp (by simp only [aD] at hk; omega)
theorem B8.tail {c : Int} {l : List Int} (h : B8 (c :: l)) : B8 l := fun x a => h x (cM _ a)
theorem B8.drop {l : List Int} (h : B8 l) (n : Nat) : B8 (l.drop n) := fun x a => h x (List.mem_of_mem_drop a)
theorem B8.take {l : List Int} (h : B8 l) (n : Nat) : B8 (l.take n) := fun x a => h x (List.mem_of_mem_take a)
def z8 {α : Type} (l : List Int) (x : Int ⊕ (α × List Int)) : Prop := ∀ v a, x = .inr (v, a) → ∃ k, a = l.drop k
theorem z8.BO {α β : Type} {l : List Int} {x : Int ⊕ (α × List Int)} {f : α → List Int → Int ⊕ (β × List Int)} (h : z8 l x) (c : ∀ v a, z8 a (f v a)) : z8 l (lu x f) := fun v a e => by
 cases x with
 | inl q => cases e
 | inr q =>
  obtain ⟨k, hk⟩ := h q.1 q.2 rfl
  obtain ⟨j, d⟩ := c q.1 q.2 v a e
  exact ⟨k + j, by rw [d, hk, List.drop_drop]⟩
theorem tp (a : Int) : ∀ (l : List Int) (i : Nat) (n : Int), z8 l (pM a i n l)
 | [], i, n => fun v d e => by cases e
 | c :: l, i, n => fun v d e => by
  unfold pM at e
  split at e
  ·cases e
  split at e
  ·cases e
  split at e
  ·split at e
   ·cases e
   ·cases e; exact ⟨1, rfl⟩
  ·obtain ⟨k, hk⟩ := tp a l (i + 1) _ v d e
   exact ⟨k + 1, by rw [hk, List.drop_succ_cons]⟩
theorem Md (a : Int) (l : List Int) : z8 l (CB a l) := (tp _ _ _ _).BO fun n c v d e => by
 split at e
 ·cases e
 split at e
 ·cases e
 ·cases e; exact ⟨_, rfl⟩
theorem vQ (l : List Int) : z8 l (uH l) := (Md _ _).BO fun t a v c e => by
 split at e
 ·cases e; exact ⟨0, rfl⟩
 ·cases e
theorem rV (l : List Int) : z8 l (rA l) := (vQ _).BO fun a c => (vQ _).BO fun b d v g e => by cases e; exact ⟨0, rfl⟩
theorem J6 (k : Int) (h : iR) (l : List Int) : z8 l (BL k h l) := by
 unfold BL
 split
 ·exact (vQ _).BO fun a c v d e => by cases e; exact ⟨0, rfl⟩
 split
 ·exact (rV _).BO fun a c v d e => by cases e; exact ⟨0, rfl⟩
 split
 ·exact (rV _).BO fun a c => (vQ _).BO fun b g v d e => by cases e; exact ⟨0, rfl⟩
 ·exact (rV _).BO fun a c => (rV _).BO fun b g v d e => by cases e; exact ⟨0, rfl⟩
theorem LZ (l : List Int) : z8 l (Ci l) := (tp _ _ _ _).BO fun k d => by
 split
 ·intro v a e; cases e
 ·exact (rV _).BO fun h g => (J6 _ _ _).BO fun c i v j e => by
   split at e
   ·cases e; exact ⟨0, rfl⟩
   ·cases e
theorem N4 (l : List Int) (a : Int) (c : B8 l) (d : l.length ≤ 1000000) : kW ⟨l, false⟩ a = some (wr (pM a 0 0 l)) := by
 unfold kW rS
 simp only [aa, ae, aA]
 exact O8 a l 0 0 jM c (by omega) (by decide) (by rw [oG]; omega)
theorem GV (a : Int) : ∀ (l : List Int) (i : Nat) (n v : Int) (d : List Int), 0 ≤ n ∧ n < 128 ^ i → pM a i n l = .inr (v, d) → 0 ≤ v ∧ v ≤ a
 | [], i, n, v, d, _, e => by cases e
 | c :: l, i, n, v, d, g, e => by
  have hp := MB n c i g
  unfold pM at e
  split at e
  ·cases e
  split at e
  ·cases e
  split at e
  ·split at e
   ·cases e
   ·cases e; exact ⟨hp.1, by omega⟩
  ·exact GV a l (i + 1) _ v d hp e
theorem RO (l : List Int) (a : Int) (s : B8 l) (t : l.length ≤ 1000000) : rZ ⟨l, false⟩ a = some (wr (CB a l)) := by
 unfold rZ rS
 simp only [aa, ae, aA]
 rw [N4 l _ s t]
 unfold CB
 have g := tp Av l 0 0
 have d := GV Av l 0 0
 have j : pM 9223372036854775807 0 0 l = pM Av 0 0 l := rfl
 rw [j]
 cases i : pM Av 0 0 l with
 | inl e => simp [wr, lu]
 | inr q =>
  obtain ⟨n, c⟩ := q
  obtain ⟨k, hk⟩ := g n c i
  have m := (d n c ⟨by decide, by decide⟩ i).1
  have u : c.length ≤ 1000000 := by rw [hk, cg]; omega
  simp only [aa, wr, lu]
  by_cases h1 : n > a
  ·simp only [h1, di, aK, xU _ 12 (by decide), aa, wr]
  ·by_cases h : n > (c.length : Int)
   ·simp only [h1, h, di, dN, aK, aA, ae, xU _ 10 (by decide), aa, wr]
   ·have o : lI (decide (0 ≤ n) && decide (n ≤ (c.length : Int))) = some () := ud m (by omega)
    have p : nq (c.take n.toNat) = some (c.take n.toNat) := IB (by rw [bA]; omega)
    simp only [h1, h, o, p, dN, aA, ae, aa, wr]
theorem B8.part {α : Type} {l a : List Int} {x : Int ⊕ (α × List Int)} {v : α} (h : B8 l) (c : l.length ≤ 1000000) (hp : z8 l x) (e : x = .inr (v, a)) : B8 a ∧ a.length ≤ 1000000 := by
 obtain ⟨k, hk⟩ := hp v a e
 rw [hk]
 exact ⟨h.drop k, by rw [cg]; omega⟩
theorem Gr (l : List Int) (a : B8 l) (c : l.length ≤ 1000000) : ra ⟨l, false⟩ = some (wr (uH l)) := by
 unfold ra uH
 rw [RO l _ a c]
 cases g : CB 16 l with
 | inl e => rfl
 | inr q =>
  obtain ⟨t, h⟩ := q
  simp only [aa, wr, lu, Kp, pW]
  cases d : kM (xx t) <;> simp [wr, xU]
theorem Ev (l : List Int) (c : B8 l) (d : l.length ≤ 1000000) : pJ ⟨l, false⟩ = some (wr (rA l)) := by
 unfold pJ rA
 rw [Gr l c d]
 cases i : uH l with
 | inl e => rfl
 | inr q =>
  obtain ⟨a, g⟩ := q
  obtain ⟨h1, h⟩ := c.part d (vQ l) i
  simp only [aa, wr, lu]
  rw [Gr g h1 h]
  cases j : uH g with
  | inl e => rfl
  | inr q => obtain ⟨b, k⟩ := q; rfl
theorem R5 (l : List Int) (x : B8 l) (y : l.length ≤ 1000000) : xT ⟨l, false⟩ = some (wr (Ci l)) := by
 unfold xT Ci
 rw [N4 l _ x y]
 have D : pM 9223372036854775807 0 0 l = pM Av 0 0 l := rfl
 rw [D]
 cases I : pM Av 0 0 l with
 | inl e => rfl
 | inr q =>
  obtain ⟨k, u⟩ := q
  obtain ⟨h1, v⟩ := x.part y (tp Av l 0 0) I
  simp only [aa, wr, lu]
  by_cases hk : k < 1 ∨ 4 < k
  ·have p : (if decide (k < 1) = true then some true else some (decide (k > 4)) : Option Bool) = some true := by
    by_cases h : k < 1 <;> simp [h]; omega
   rw [p, aq hk]
   simp [xU, wr]
  ·have p : (if decide (k < 1) = true then some true else some (decide (k > 4)) : Option Bool) = some false := by
    rw [ap (by simp; omega)]; simp; omega
   rw [p, ap hk]
   simp only [aa, aA, ae]
   rw [Ev u h1 v]
   cases G : rA u with
   | inl e => rfl
   | inr q =>
    obtain ⟨h, d⟩ := q
    obtain ⟨i, j⟩ := h1.part v (rV u) G
    simp only [aa, wr, lu]
    have E : ∀ {A : Type} (K : iS → List Int → Bool → Option A) (X : Int → Option A), True := fun _ _ => trivial
    have fin : ∀ (c : iS) (a : List Int), ((nn c).bind fun n => if (!n) = true then (kJ ⟨a, false⟩ 11).bind fun o => match o with | .inl m => some (Sum.inl m) | .inr z => some (Sum.inr ((⟨0, ⟨zS, zS⟩, zS, ⟨zS, zS⟩, ⟨zS, zS⟩, zS⟩ : iS), (⟨a, false⟩ : jo))) else some (Sum.inr (c, (⟨a, false⟩ : jo)))) = some (wr (if jW c = true then .inr (c, a) else .inl 11)) := fun c a => by
     rw [nA]
     cases jW c <;> simp [xU, wr]
    unfold BL
    by_cases J : k = 1
    ·subst J
     simp only [bc, aK]
     rw [Gr d i j]
     cases uH d with
     | inl e => rfl
     | inr q => obtain ⟨w, a⟩ := q; exact fin _ _
    ·by_cases k2 : k = 2
     ·subst k2
      simp only [Int.reduceBEq, Int.reduceEq, aA, aK, ae]
      rw [Ev d i j]
      cases rA d with
      | inl e => rfl
      | inr q => obtain ⟨w, a⟩ := q; exact fin _ _
     ·by_cases L : k = 3
      ·subst L
       simp only [Int.reduceBEq, Int.reduceEq, aA, aK, ae]
       rw [Ev d i j]
       cases g : rA d with
       | inl e => rfl
       | inr q =>
        obtain ⟨w, a⟩ := q
        obtain ⟨s, t⟩ := i.part j (rV d) g
        simp only [aa, wr, lu]
        rw [Gr a s t]
        cases uH a with
        | inl e => rfl
        | inr q => obtain ⟨Q, P⟩ := q; exact fin _ _
      ·have M : k = 4 := by omega
       subst M
       simp only [Int.reduceBEq, Int.reduceEq, aA, aK, ae]
       rw [Ev d i j]
       cases g : rA d with
       | inl e => rfl
       | inr q =>
        obtain ⟨w, a⟩ := q
        obtain ⟨s, t⟩ := i.part j (rV d) g
        simp only [aa, wr, lu]
        rw [Ev a s t]
        cases rA a with
        | inl e => rfl
        | inr q => obtain ⟨Q, P⟩ := q; exact fin _ _
theorem yp (a k : Int) (l : List Int) (c : 0 ≤ k) (h1 : k < 128) (hm : k ≤ a) : pM a 0 0 (k :: l) = .inr (k, l) := by
 unfold pM
 have e : (0 : Int) + k % 128 * 128 ^ 0 = k := by simp; omega
 rw [e, ap (by decide), ap (by simp), aq h1, ap (by omega)]
theorem N7 (a : Int) (t l : List Int) (h : t.length < 128) (hm : (t.length : Int) ≤ a) : CB a ((t.length : Int) :: (t ++ l)) = .inr (t, l) := by
 unfold CB
 rw [yp _ _ _ (by omega) (by omega) (by unfold Av; omega)]
 simp only [lu]
 rw [ap (by omega), ap (by simp; omega)]
 simp
theorem yP {s : ByteArray} (h : kM s = true) (l : List Int) : uH (qQ s ++ l) = .inr (s, l) := by
 have h1 := lo h
 unfold uH qQ
 rw [bE, ← lA, N7 _ _ _ (by rw [lA]; omega) (by rw [lA]; omega)]
 simp only [lu, zJ, h, aK]
theorem xo {r : iR} (h : kp r = true) (l : List Int) : rA (ng r ++ l) = .inr (r, l) := by
 simp only [kp, az] at h
 unfold rA ng
 rw [aB, yP h.1]
 simp only [lu]
 rw [yP h.2]
theorem Nj {c : iS} (h : jW c = true) (l : List Int) : Ci (oB c ++ l) = .inr (c, l) := by
 have a := lG h
 have i : 1 ≤ c.Kind ∧ c.Kind ≤ 4 := by rcases a with g | g | g | g <;> rw [g.1] <;> decide
 have d : BL c.Kind c.Head (vr c ++ l) = .inr (c, l) := by
  obtain ⟨k, j, sd, b, c2, m⟩ := c
  unfold BL vr
  rcases a with g | g | g | g
  ·obtain ⟨rfl, g1, rfl, rfl, rfl⟩ := g
   simp only [aK]
   rw [yP g1]; rfl
  ·obtain ⟨rfl, g1, rfl, rfl, rfl⟩ := g
   simp only [Int.reduceEq, aA, aK]
   rw [xo g1]; rfl
  ·obtain ⟨rfl, g1, g2, g3, rfl, rfl⟩ := g
   simp only [Int.reduceEq, aA, aK]
   rw [aB, xo g1]
   simp only [lu]
   rw [yP g2]
  ·obtain ⟨rfl, g1, g2, g3, rfl, rfl⟩ := g
   simp only [Int.reduceEq, aA, aK]
   rw [aB, xo g1]
   simp only [lu]
   rw [xo g2]
 unfold Ci oB
 rw [bE, yp _ _ _ (by omega) (by omega) (by unfold Av; omega)]
 simp only [lu]
 rw [ap (by omega), aB, xo (wL h)]
 simp only [lu]
 rw [d]
 simp only [lu, h, aK]
theorem Jk {l : List Int} (h : l.length ≤ 1000000) : nQ l = some l := by
 unfold nQ; rw [IB h]; rfl
section
variable {α : Type}
structure SWO (lt : α → α → Bool) : Prop where
 TD : ∀ x, lt x x = false
 tr : ∀ x y z, lt x y = true → lt y z = true → lt x z = true
 TE : ∀ x y z, lt x z = true → lt x y = true ∨ lt y z = true
variable {lt : α → α → Bool}
def Th (lt : α → α → Bool) (l : List α) (k : α) : List α := l.filter (fun x => !lt k x) ++ k :: l.filter (fun x => lt k x)
def Tf (lt : α → α → Bool) (l : List α) : List α := l.foldl (Th lt) []
end
section
variable {c : Formula → Formula → Int} {G : Formula → Prop} {f : Formula × Formula → Option Int}
abbrev Tu (c : Formula → Formula → Int) (x y : Formula) : Bool := decide (c x y < 0)
end
section
variable {c : Formula → Formula → Int} {G : Formula → Prop} {f : Formula × Formula → Option Int}
abbrev Ask (a0 : List Formula) (f : Formula × Formula → Option Int) (p q : Int) (b : Bool) : Prop := ∃ x y r, kx a0 p = some x ∧ kx a0 q = some y ∧ f (x, y) = some r ∧ decide (r < 0) = b
end
section
variable {c : Formula → Formula → Int} {G : Formula → Prop} {f : Formula × Formula → Option Int}
def fm (a : List (List (Formula × Nat))) : List Formula := a.flatten.map (·.1)
end
theorem NU {P : Formula → Prop} (h : ∀ f, (∀ k ∈ f.Kids, P k) → P f) : ∀ f, P f := by
 intro f
 refine Formula.rec (motive_1 := P) (motive_2 := fun c => ∀ k ∈ c, P k) ?_ ?_ ?_ f
 ·intro o k r c ih; exact h _ ih
 ·intro k hk; cases hk
 ·intro k c h1 d x a
  rcases ay.1 a with rfl | a
  ·exact h1
  ·exact d x a
mutual
def kF : Formula → Nat
 | ⟨_, _, _, ks⟩ => 1 + nodesL ks
def nodesL : List Formula → Nat
 | [] => 0
 | k :: ks => kF k + nodesL ks
end
mutual
def nf : Formula → Nat
 | ⟨_, _, _, ks⟩ => deepL ks + 1
def deepL : List Formula → Nat
 | [] => 0
 | k :: ks => max (nf k) (deepL ks)
end
theorem rc (f : Formula) : kF f = 1 + nodesL f.Kids := by cases f; rw [kF]
theorem mJ (f : Formula) : nf f = deepL f.Kids + 1 := by cases f; rw [nf]
theorem vy : ∀ {a : List Formula} {k : Formula}, k ∈ a → kF k ≤ nodesL a
 | x :: a, k, h => by
  rw [nodesL]
  rcases ay.1 h with rfl | h
  ·omega
  ·have := vy h; omega
theorem uA : ∀ {a : List Formula} {k : Formula}, k ∈ a → nf k ≤ deepL a
 | x :: a, k, h => by
  rw [deepL]
  rcases ay.1 h with rfl | h
  ·omega
  ·have := uA h; omega
theorem xp : ∀ f : Formula, nf f ≤ kF f := by
 refine NU fun f ih => ?_
 rw [mJ, rc]
 have : ∀ a : List Formula, (∀ k ∈ a, nf k ≤ kF k) → deepL a ≤ nodesL a := by
  intro a
  induction a with
  | nil => intro _; rw [deepL]; omega
  | cons k a c =>
   intro h
   have := c (fun x d => h x (by simp [d]))
   have := h k (by simp)
   rw [deepL, nodesL]; omega
 have := this f.Kids ih
 omega
theorem Dn : ∀ a : List Formula, a.length ≤ nodesL a
 | [] => by rw [nodesL]; simp
 | k :: a => by have := Dn a; have := rc k; rw [nodesL, aD]; omega
theorem My (a : Nat) (hm : a ≤ 4096) (rec : Formula → Int → Option (Int × Int)) : ∀ (c : List Formula), (∀ k ∈ c, ∀ q : Nat, q ≤ 4096 → ∃ n d : Nat, rec k (q : Int) = some ((n : Int), (d : Int)) ∧ 1 ≤ n ∧ n ≤ kF k ∧ d ≤ kF k ∧ (kF k ≤ q → n = kF k ∧ d = nf k) ∧ (q < kF k → q < n)) → ∀ x y : Nat, x + nodesL c ≤ 100000000 →
  ∃ n d : Nat, nT (a : Int) rec c (x : Int) (y : Int) = some ((n : Int), (d : Int)) ∧ x ≤ n ∧ n ≤ x + nodesL c ∧ d ≤ max y (nodesL c) ∧ (x + nodesL c ≤ a → n = x + nodesL c ∧ d = max y (deepL c)) ∧ (a < x + nodesL c → a < n)
 | [], _, x, y, _ => by
  rw [nT, nodesL, deepL]
  exact ⟨x, y, rfl, by omega, by omega, by omega, fun _ => ⟨by omega, by omega⟩, fun h => by omega⟩
 | k :: c, i, x, y, s => by
  rw [nodesL] at s ⊢
  rw [nT, deepL]
  by_cases j : (x : Int) > (a : Int)
  ·simp only [j, di, aK]
   exact ⟨x, y, rfl, by omega, by omega, by omega, fun _ => by omega, fun h => by omega⟩
  ·simp only [j, dN, ae, aA]
   have u : wi0 .i64 ((a : Int) - (x : Int)) = ((a - x : Nat) : Int) := by rw [kf (by omega) (by omega)]; omega
   obtain ⟨m, d, e, h1, A, D, g, p⟩ := i k (by simp) (a - x) (by omega)
   rw [u, e, aa]
   have v : wi0 .i64 ((x : Int) + (m : Int)) = ((x + m : Nat) : Int) := by rw [kf (by omega) (by omega)]; omega
   have w : (if (d : Int) > (y : Int) then (d : Int) else (y : Int)) = ((max y d : Nat) : Int) := by split <;> omega
   simp only [v, w]
   obtain ⟨n, o, e', g1, g2, g3, g4, g5⟩ := My a hm rec c (fun z t => i z (by simp [t])) (x + m) (max y d) (by omega)
   refine ⟨n, o, e', by omega, by omega, by omega, fun h => ?_, fun h => ?_⟩
   ·obtain ⟨rfl, rfl⟩ := g (by omega)
    obtain ⟨rfl, rfl⟩ := g4 (by omega)
    exact ⟨by omega, by omega⟩
   ·by_cases hk : a - x < kF k
    ·have := p hk; omega
    ·obtain ⟨rfl, _⟩ := g (by omega)
     exact g5 (by omega)
theorem OL : ∀ (n : Nat) (f : Formula), nf f ≤ n → kF f ≤ 50000000 → ∀ q : Nat, q ≤ 4096 → ∃ m d : Nat, mQ n f (q : Int) = some ((m : Int), (d : Int)) ∧ 1 ≤ m ∧ m ≤ kF f ∧ d ≤ kF f ∧ (kF f ≤ q → m = kF f ∧ d = nf f) ∧ (q < kF f → q < m) := by
 intro n
 induction n with
 | zero => intro f h; rw [mJ] at h; omega
 | succ n ih =>
  intro f i t q a
  rw [mJ] at i
  have j := rc f
  rw [mQ]
  unfold uB
  obtain ⟨m, d, e, h1, p, s, c, g⟩ := My q a (mQ n) f.Kids (fun k hk q a => ih k (by have := uA hk; omega) (by have := vy hk; omega) q a) 1 0 (by omega)
  have e' : nT (q : Int) (mQ n) f.Kids 1 0 = some ((m : Int), (d : Int)) := e
  rw [e', aa]
  have o : wi0 .i64 ((d : Int) + 1) = ((d + 1 : Nat) : Int) := by rw [kf (by omega) (by omega)]; omega
  simp only [o]
  refine ⟨m, d + 1, rfl, h1, by omega, by omega, fun h => ?_, fun h => g (by omega)⟩
  obtain ⟨rfl, rfl⟩ := c (by omega)
  rw [mJ]
  exact ⟨by omega, by omega⟩
theorem PR (f : Formula) (g : kF f ≤ 50000000) : vY f = some (if kF f ≤ 4096 then ((kF f : Int), (nf f : Int)) else (0, 0)) := by
 unfold vY
 have := xp f
 obtain ⟨m, d, e, h1, i, j, a, c⟩ := OL jM f (by rw [sF]; omega) g 4096 (aJ _)
 have e' : mQ jM f 4096 = some ((m : Int), (d : Int)) := e
 rw [e', aa]
 by_cases h : kF f ≤ 4096
 ·obtain ⟨rfl, rfl⟩ := a h
  have : ¬ ((kF f : Int) > 4096) := by omega
  simp [this, h]
 ·have := c (by omega)
  have : ((m : Int) > 4096) := by omega
  simp [this, h]
def xQ : iR := ⟨zS, zS⟩
def En (f : Formula) : Bool := if f.Op = 1 then kp f.iR && decide (f.Kids.length = 0) && decide (f.K = 0) else if f.Op = 2 ∨ f.Op = 3 then jh f.iR xQ && decide (f.K = 0) else decide (f.Op = 4) && jh f.iR xQ && decide (0 ≤ f.K) && decide (f.K ≤ (f.Kids.length : Int)) && decide (1 ≤ f.Kids.length)
theorem P6 (f : Formula) : vU f = some (En f) := by
 unfold vU En
 simp only [rk, aa, sc]
 by_cases h1 : f.Op = 1
 ·simp only [h1, bc, aK]
  cases o : kp f.iR
  ·simp
  ·by_cases j : f.Kids.length = 0
   ·have : f.Kids = [] := aX j
    by_cases hk : f.K = 0 <;> simp [this, hk]
   ·have : ((f.Kids.length : Int) == 0) = false := by simp; intro h; exact j (by simp [h])
    simp only [aK, aa, this, ae, aA, j, dN, Bool.and_false, Bool.false_and]
 ·have m : (f.Op == 1) = false := by simpa using h1
  simp only [m, ae, aA, h1]
  by_cases c : f.Op = 2 ∨ f.Op = 3
  ·have g : (if f.Op == 2 then some (f.Op == 2) else some (f.Op == 3)) = some true := by
    rcases c with h | h <;> simp [h]
   simp only [g, aa, aK, c]
   cases d : jh f.iR ⟨zS, zS⟩ <;> by_cases hk : f.K = 0 <;> simp [xQ, d, hk]
  ·have g : (if f.Op == 2 then some (f.Op == 2) else some (f.Op == 3)) = some false := by
    have a : f.Op ≠ 2 := fun h => c (.inl h)
    have b : f.Op ≠ 3 := fun h => c (.inr h)
    simp [a, b]
   simp only [g, aa, ae, aA, c]
   by_cases i : f.Op = 4
   ·simp only [i, bc, aK, aa, di, dj]
    cases d : jh f.iR ⟨zS, zS⟩
    ·simp [xQ, d]
    ·by_cases c1 : 0 ≤ f.K <;> by_cases c2 : f.K ≤ (f.Kids.length : Int) <;> by_cases k : 1 ≤ f.Kids.length <;> simp [xQ, d, c1, c2, k] <;> omega
   ·have n : (f.Op == 4) = false := by simpa using i
    simp [n, i]
mutual
def xO : Formula → Bool
 | ⟨o, n, r, ks⟩ => En ⟨o, n, r, ks⟩ && decide (ks.length ≤ 8) && wellL ks
def wellL : List Formula → Bool
 | [] => true
 | k :: ks => xO k && wellL ks
end
theorem Jw (f : Formula) : xO f = (En f && decide (f.Kids.length ≤ 8) && wellL f.Kids) := by cases f; rw [xO]
theorem Hu : ∀ a : List Formula, wellL a = a.all xO
 | [] => rfl
 | k :: a => by rw [wellL, Hu a]; rfl
theorem Jc (f : Formula → Option Bool) : ∀ (l : List Formula) (i : Nat), lK f l i = vd f l i
 | [], i => by rw [lK]; rfl
 | x :: l, i => by
  rw [lK, vd]
  cases f x with
  | none => rfl
  | some b =>
   simp only [aa]
   rw [Jc f l (i + 1)]
theorem J0 (f : Formula → Option Bool) (p : Formula → Bool) (l : List Formula) (h : ∀ x ∈ l, f x = some (p x)) : mA l f = some (l.any p) := by
 unfold mA rI
 rw [Jc]
 rcases Ak f p l 0 h with ⟨e, h1⟩ | ⟨A, x, B, rfl, h1, a, e⟩
 ·rw [e, aa]
  have : l.any p = false := by rw [List.any_eq_false]; intro x c; rw [h1 x c]; simp
  rw [this]; rfl
 ·rw [e, aa]
  have : (A ++ x :: B).any p = true := by simp [a]
  rw [this]
  congr 1
theorem Oa : ∀ (n : Nat) (f : Formula), nf f ≤ n → pQ n f = some (xO f) := by
 intro n
 induction n with
 | zero => intro f h; rw [mJ] at h; omega
 | succ n ih =>
  intro f h
  rw [mJ] at h
  rw [pQ]
  unfold uG
  rw [P6, aa, Jw, J0 _ (fun k => !xO k) f.Kids (fun k hk => by unfold tl; rw [ih k (by have := uA hk; omega)]; rfl)]
  rw [Hu]
  have e : (!(f.Kids.any fun k => !xO k)) = f.Kids.all xO := by rw [List.all_eq_not_any_not]
  cases En f
  ·rfl
  ·by_cases a : f.Kids.length ≤ 8
   ·have : ((f.Kids.length : Int) ≤ 8) := by omega
    simp [a, this, e]
   ·have : ¬ ((f.Kids.length : Int) ≤ 8) := by omega
    simp [a, this]
def xD (f : Formula) : Bool := decide (kF f ≤ 64) && decide (nf f ≤ 6) && xO f
theorem JO (f : Formula) (c : kF f ≤ 50000000) : oD f = some (xD f) := by
 unfold oD xD
 have d := xp f
 rw [PR f c, aa, Oa jM f (by rw [sF]; omega)]
 have h1 := rc f
 by_cases h : kF f ≤ 4096
 ·simp only [h, aK]
  have a : ((kF f : Int) ≥ 1) := by omega
  simp only [a, di, aK, aa, sc]
  by_cases c1 : kF f ≤ 64 <;> by_cases c2 : nf f ≤ 6
  ·have d1 : ((kF f : Int) ≤ 64) := by omega
   have d2 : ((nf f : Int) ≤ 6) := by omega
   simp [c1, c2, d1, d2]
  ·have d1 : ((kF f : Int) ≤ 64) := by omega
   have d2 : ¬ ((nf f : Int) ≤ 6) := by omega
   simp [c1, c2, d1, d2]
  ·have d1 : ¬ ((kF f : Int) ≤ 64) := by omega
   simp [c1, d1]
  ·have d1 : ¬ ((kF f : Int) ≤ 64) := by omega
   simp [c1, d1]
 ·simp only [h, aA]
  have : ¬ kF f ≤ 64 := by omega
  simp [this]
theorem Formula.ext' {a b : Formula} (h1 : a.Op = b.Op) (c : a.K = b.K) (d : a.iR = b.iR) (g : a.Kids = b.Kids) : a = b := by
 cases a; cases b; simp only at h1 c d g; subst h1 c d g; rfl
mutual
def M4 : Formula → List Int
 | ⟨o, k, r, ks⟩ => o :: (if o = 1 then ng r else (if o = 4 then [k] else []) ++ ((ks.length : Int) :: bytesFL ks))
def bytesFL : List Formula → List Int
 | [] => []
 | k :: ks => M4 k ++ bytesFL ks
end
def SA (f : Formula) : List Int := if xD f then M4 f else []
abbrev Gd (f : Formula) : Prop := kF f ≤ 50000000
def TA (f g : Formula) : Int := xn (SA f) (SA g)
def QC (l : List Formula) : List Formula := Tf (Tu TA) l
noncomputable def TC (a b : Formula) : Bool := @decide (a = b) (Classical.propDecidable _)
def F5 (op : Int) (f : Formula) : Bool := decide (f.Op = op) && f.Kids.isEmpty
def Lp (op : Int) : List Formula → List Formula
 | [] => []
 | k :: a => (if k.Op = op then k.Kids else [k]) ++ Lp op a
noncomputable def GI (op : Int) (a : List Formula) : Formula :=
 if (Lp op a).any (F5 (5 - op)) then ⟨5 - op, 0, xQ, []⟩ else
  match dd TC (QC (Lp op a)) with
  | [x] => x
  | r => ⟨op, 0, xQ, r⟩
noncomputable def OM (k : Int) (a : List Formula) : Formula :=
 let n := k - ((a.filter (F5 2)).length : Int)
 let l := a.filter fun x => !F5 2 x && !F5 3 x
 if n ≤ 0 then ⟨2, 0, xQ, []⟩ else if n > (l.length : Int) then ⟨3, 0, xQ, []⟩ else if n = (l.length : Int) then GI 2 l else if n = 1 then GI 3 l else ⟨4, n, xQ, QC l⟩
mutual
noncomputable def Ro : Formula → Formula
 | ⟨o, k, r, ks⟩ => if o = 1 then ⟨o, k, r, ks⟩ else if o = 4 then OM k (shapeL ks) else GI o (shapeL ks)
noncomputable def shapeL : List Formula → List Formula
 | [] => []
 | k :: ks => Ro k :: shapeL ks
end
mutual
def CV (v : iR → Bool) : Formula → Bool
 | ⟨o, k, r, ks⟩ => if o = 1 then v r else if o = 2 then decide (evN v ks = ks.length) else if o = 3 then decide (0 < evN v ks) else decide (k ≤ (evN v ks : Int))
def evN (v : iR → Bool) : List Formula → Nat
 | [] => 0
 | k :: ks => (if CV v k then 1 else 0) + evN v ks
end
theorem Js (v : iR → Bool) (f : Formula) : CV v f = if f.Op = 1 then v f.iR else if f.Op = 2 then decide (evN v f.Kids = f.Kids.length) else if f.Op = 3 then decide (0 < evN v f.Kids) else decide (f.K ≤ (evN v f.Kids : Int)) := by cases f; rw [CV]
theorem Du (v : iR → Bool) (f1 : iR → Option Bool) (rec : Formula → (iR → Option Bool) → Option Bool) (f : Formula) : ∀ (a : List Formula) (x : Nat), (∀ k ∈ a, rec k f1 = some (CV v k)) → x + a.length ≤ 100000000 →
  nS rec f1 f a (x : Int) = some (if f.Op = 2 then decide (x + evN v a = f.Kids.length) else if f.Op = 3 then decide (0 < x + evN v a) else decide (f.K ≤ ((x + evN v a : Nat) : Int)))
 | [], x, _, _ => by
  rw [nS, evN, iv]
  by_cases c2 : f.Op = 2
  ·simp only [c2, bc, aK]
   congr 1
   rw [aM, fM, bz]; omega
  ·have d : (f.Op == 2) = false := by simpa using c2
   simp only [d, ae, aA, c2]
   by_cases c : f.Op = 3
   ·simp only [c, bc, aK]
    congr 1
    rw [aM, bz, bz]; omega
   ·have i : (f.Op == 3) = false := by simpa using c
    simp only [i, ae, aA, c]
 | k :: a, x, h, j => by
  rw [aD] at j
  rw [nS, h k (by simp), aa, evN]
  cases CV v k
  ·simp only [ae, aA]
   rw [Du v f1 rec f a x (fun z g => h z (by simp [g])) (by omega), cd]
  ·simp only [aK]
   have e : wi0 .i64 ((x : Int) + 1) = ((x + 1 : Nat) : Int) := by rw [kf (by omega) (by omega)]; omega
   rw [e, Du v f1 rec f a (x + 1) (fun z g => h z (by simp [g])) (by omega)]
   have d : x + 1 + evN v a = x + (1 + evN v a) := by omega
   rw [d]
theorem MR (v : iR → Bool) (f1 : iR → Option Bool) (i : ∀ r, f1 r = some (v r)) : ∀ (n : Nat) (f : Formula), nf f ≤ n → Gd f → oC n f f1 = some (CV v f) := by
 intro n
 induction n with
 | zero => intro f h; rw [mJ] at h; omega
 | succ n ih =>
  intro f c d
  rw [mJ] at c
  have g := rc f
  have j := Dn f.Kids
  unfold Gd at d
  rw [oC]
  unfold uE
  rw [Js]
  by_cases c1 : f.Op = 1
  ·simp only [c1, bc, aK, i, aa]
  ·have a : (f.Op == 1) = false := by simpa using c1
   simp only [a, ae, aA, c1]
   have := Du v f1 (oC n) f f.Kids 0 (fun k hk => ih k (by have := uA hk; omega) (by have := vy hk; unfold Gd; omega)) (by omega)
   simpa using this
def AJ (v : iR → Bool) (f : Formula) : Bool := xD f && CV v f
theorem Li (v : iR → Bool) (f1 : iR → Option Bool) (a : ∀ r, f1 r = some (v r)) (f : Formula) (h : Gd f) : sr f f1 = some (AJ v f) := by
 unfold sr AJ
 rw [JO f h, aa]
 have := xp f
 cases xD f
 ·rfl
 ·unfold Gd at h
  simp only [aK, MR v f1 a jM f (by rw [sF]; omega) h, aa, dj]
structure QB (l : List iS) (F : List iV) : Prop where
 len : F.length ≤ 900000000
 ref : zu l = some F
 TB : ∃ m, uD l = some m ∧ vh m.1 m.2.1 m.2.2.1 m.2.2.2.1 m.2.2.2.2.1 m.2.2.2.2.2 = some F ∧ ∀ r w, qC m.1 m.2.1 m.2.2.1 m.2.2.2.1 m.2.2.2.2.1 m.2.2.2.2.2 r w = some (mM lf F ⟨r, w⟩)
 wy : ∀ C : List iS, (∀ c, c ∈ C ↔ c ∈ l ∧ jW c = true) → zX (mf C) F
theorem Tk (l : List iS) (v : l.length ≤ 30000) : ∃ F, QB l F := by
 obtain ⟨F, h⟩ := QN l v
 refine ⟨F, h.Ta, h.ref, ?_, fun C s => ?_⟩
 ·obtain ⟨C, h1, d, q⟩ := h.C
  obtain ⟨C1, T, m, ws, n, o, m1, g, j⟩ := O5 l (by omega)
  have a : ∀ c, c ∈ C1 ↔ c ∈ C := fun c => by rw [d, g]
  have k : zX (mf C1) F := ⟨h1.1, fun f => (h1.2 f).trans (mf.congr a f).symm⟩
  have t : SM C1 := by unfold SM; omega
  refine ⟨_, o, ?_, fun r w => ?_⟩
  ·obtain ⟨F1, p, i⟩ := OO t.small m1 C1 m ws [] n
   rw [← i.unique k]; exact p
  ·obtain ⟨b, e, u⟩ := QI m1 C1 m ws [] n r w
   rw [e, show b = mM lf F ⟨r, w⟩ from by rw [aM, u, mO kO, k.2]]
 ·obtain ⟨C', h1, d, q⟩ := h.C
  have a : ∀ c, c ∈ C' ↔ c ∈ C := fun c => by rw [d, s]
  exact ⟨h1.1, fun f => (h1.2 f).trans (mf.congr a f)⟩
theorem JA {α : Type} (f : α → Option Bool) (p : α → Bool) (l : List α) (h : ∀ x ∈ l, f x = some (p x)) : ((vd f l 0).bind fun d => some (decide (d ≥ 0))) = some (l.any p) := by
 rcases Ak f p l 0 h with ⟨e, h1⟩ | ⟨A, x, B, rfl, h1, a, e⟩
 ·rw [e, aa]
  have : l.any p = false := by rw [List.any_eq_false]; intro x c; rw [h1 x c]; simp
  rw [this]; rfl
 ·rw [e, aa]
  have : (A ++ x :: B).any p = true := by simp [a]
  rw [this]
  congr 1
def vF (F : List iV) (peer : ByteArray) (r : iR) : Bool := mM lf F ⟨r, peer⟩
theorem PA : ∀ (n : Nat) (l : List Formula), deepL l < n → ∃ r, qi n l = some r := by
 intro n
 induction n with
 | zero => intro l h; omega
 | succ n ih =>
  intro l h
  rw [qi]
  unfold vw
  generalize (0 : Int) = x
  induction l generalizing x with
  | nil => exact ⟨x, by rw [sB]⟩
  | cons k l a =>
   rw [deepL] at h
   have := mJ k
   obtain ⟨r, e⟩ := ih k.Kids (by omega)
   rw [sB, e, aa]
   exact a (by omega) _
theorem Mr (f : Formula) (h : Gd f) : ∃ r, qi jM [f] = some r := by
 unfold Gd at h
 have := xp f
 exact PA jM [f] (by rw [deepL, deepL, sF]; omega)
noncomputable def vD (l : List iS) (peer : ByteArray) (r : iR) : Bool := @decide (mf (l.filter jW) ⟨r, peer⟩) (Classical.propDecidable _)
theorem Q4 (l : List iS) (peer : ByteArray) (r : iR) : vD l peer r = true ↔ mf (l.filter jW) ⟨r, peer⟩ := by unfold vD; simp
def sY : iR := ⟨⟨#[120]⟩, ⟨#[121]⟩⟩
def pB (r : iR) : Formula := ⟨1, 0, r, []⟩
theorem KC (v : iR → Bool) (r : iR) : CV v (pB r) = v r := by rw [Js]; rfl
theorem IH : xD (pB sY) = true := by decide +kernel
theorem Rj : ∀ (n : Nat) (f : Formula), nf f ≤ n → Gd f → qf n f = some (kF f : Int) := by
 intro n
 induction n with
 | zero => intro f h; rw [mJ] at h; omega
 | succ n ih =>
  intro f g i
  rw [mJ] at g
  have c := rc f
  unfold Gd at i
  rw [qf]
  unfold vE
  have key : ∀ (a : List Formula) (x : Nat), (∀ k ∈ a, k ∈ f.Kids) → x + nodesL a ≤ 50000000 → qE (qf n) a (x : Int) = some ((x + nodesL a : Nat) : Int) := by
   intro a
   induction a with
   | nil => intro x _ _; rw [qE, nodesL]; rfl
   | cons k a d =>
    intro x hk j
    rw [nodesL] at j
    rw [qE, ih k (by have := uA (hk k (by simp)); omega) (by have := vy (hk k (by simp)); unfold Gd; omega), aa]
    have w : wi0 .i64 ((x : Int) + (kF k : Int)) = ((x + kF k : Nat) : Int) := by rw [kf (by omega) (by omega)]; omega
    rw [w, d _ (fun z m => hk z (by simp [m])) (by omega), nodesL]
    congr 2; omega
  have := key f.Kids 1 (fun k hk => hk) (by omega)
  rw [c]
  exact this
theorem Sw : ∀ (n : Nat) (f : Formula), nf f ≤ n → Gd f → qV n f = some (nf f : Int) := by
 intro n
 induction n with
 | zero => intro f h; rw [mJ] at h; omega
 | succ n ih =>
  intro f g i
  rw [mJ] at g ⊢
  have j := rc f
  have hle := xp f
  rw [mJ] at hle
  unfold Gd at i
  rw [qV]
  unfold wG
  have key : ∀ (a : List Formula) (x : Nat), (∀ k ∈ a, k ∈ f.Kids) → max x (deepL a) ≤ 50000000 → rl (qV n) a (x : Int) = some ((max x (deepL a) + 1 : Nat) : Int) := by
   intro a
   induction a with
   | nil =>
    intro x _ c
    rw [deepL] at c
    rw [rl, deepL, kf (by omega) (by omega)]
    congr 1; omega
   | cons k a d =>
    intro x hk c
    rw [deepL] at c
    rw [rl, ih k (by have := uA (hk k (by simp)); omega) (by have := vy (hk k (by simp)); unfold Gd; omega), aa]
    have w : (if (nf k : Int) > (x : Int) then (nf k : Int) else (x : Int)) = ((max x (nf k) : Nat) : Int) := by split <;> omega
    rw [w, d _ (fun z m => hk z (by simp [m])) (by omega), deepL]
    congr 2; omega
  have := key f.Kids 0 (fun k hk => hk) (by omega)
  rw [Nat.zero_max] at this
  exact this
theorem RH : ∀ (n : Nat) (f : Formula), nf f ≤ n → rh n f = some (xO f) := by
 intro n
 induction n with
 | zero => intro f h; rw [mJ] at h; omega
 | succ n ih =>
  intro f h
  rw [mJ] at h
  have key : ∀ j : List Formula, (∀ k ∈ j, k ∈ f.Kids) → rD (rh n) j = some (wellL j) := by
   intro j
   induction j with
   | nil => intro _; rw [rD, wellL]
   | cons k j q =>
    intro hk
    rw [rD, ih k (by have := uA (hk k (by simp)); omega), aa, q (fun z t => hk z (by simp [t])), wellL]
    cases xO k <;> rfl
  have hk := key f.Kids (fun k hk => hk)
  rw [rh]
  unfold wB
  rw [hk, Jw, Al]
  unfold En
  simp only [aa]
  by_cases c1 : f.Op = 1
  ·simp only [c1, bc, aK]
   cases u : kp f.iR
   ·simp
   ·by_cases c : f.Kids.length = 0
    ·have e : f.Kids = [] := aX c
     by_cases p : f.K = 0 <;> simp [e, p, wellL]
    ·have : ((f.Kids.length : Int) == 0) = false := by rw [beq_eq_false_iff_ne]; omega
     simp [this, c]
  ·have s : (f.Op == 1) = false := by simpa using c1
   simp only [s, ae, aA, c1]
   by_cases i : f.Op = 2 ∨ f.Op = 3
   ·have m : ¬ f.Op < 1 := by omega
    have a2 : ¬ f.Op > 4 := by omega
    have a3 : f.Op < 4 := by omega
    have a4 : (f.Op == 4) = false := by rw [beq_eq_false_iff_ne]; omega
    simp only [m, a2, a3, a4, i, dN, di, ae, aA, aK, aa]
    cases g : jh f.iR ⟨zS, zS⟩
    ·simp [xQ, g]
    ·by_cases c : f.Kids.length ≤ 8
     ·have d : ¬ ((f.Kids.length : Int) > 8) := by omega
      by_cases p : f.K = 0 <;> simp [xQ, g, c, d, p]
     ·have d : ((f.Kids.length : Int) > 8) := by omega
      simp [xQ, g, c, d]
   ·by_cases o : f.Op = 4
    ·have m : ¬ f.Op < 1 := by omega
     have a2 : ¬ f.Op > 4 := by omega
     have a3 : ¬ f.Op < 4 := by omega
     simp only [m, a2, a3, i, dN, ae, aA, aa]
     simp only [o, bc, aK, di, dj]
     cases g : jh f.iR ⟨zS, zS⟩
     ·simp [xQ, g]
     ·by_cases c : f.Kids.length ≤ 8
      ·have d : ¬ ((f.Kids.length : Int) > 8) := by omega
       by_cases d1 : 1 ≤ f.Kids.length
       ·have g1 : ¬ ((f.Kids.length : Int) < 1) := by omega
        by_cases d2 : 0 ≤ f.K
        ·have g2 : ¬ f.K < 0 := by omega
         by_cases d3 : f.K ≤ (f.Kids.length : Int)
         ·have g3 : ¬ f.K > (f.Kids.length : Int) := by omega
          simp [xQ, g, c, d, d1, g1, d2, g2, d3, g3]
         ·have g3 : f.K > (f.Kids.length : Int) := by omega
          simp [xQ, g, c, d, d1, g1, d2, g2, d3, g3]
        ·have g2 : f.K < 0 := by omega
         simp [xQ, g, c, d, d1, g1, d2, g2]
       ·have g1 : ((f.Kids.length : Int) < 1) := by omega
        simp [xQ, g, c, d, d1, g1]
      ·have d : ((f.Kids.length : Int) > 8) := by omega
       simp [xQ, g, c, d]
    ·have a : f.Op < 1 ∨ f.Op > 4 := by omega
     rcases a with a | a
     ·simp [a, i, o]
     ·have : ¬ f.Op < 1 := by omega
      simp [a, this, i, o]
theorem RA (f : Formula) (h : Gd f) : wV f = some (xD f) := by
 have c := xp f
 have a := h
 unfold Gd at a
 unfold wV xD
 rw [Rj jM f (by rw [sF]; omega) h, Sw jM f (by rw [sF]; omega) h, RH jM f (by rw [sF]; omega)]
 simp only [aa]
 by_cases c1 : kF f ≤ 64
 ·have d1 : ((kF f : Int) ≤ 64) := by omega
  by_cases c2 : nf f ≤ 6
  ·have d2 : ((nf f : Int) ≤ 6) := by omega
   simp [c1, c2, d1, d2]
  ·have d2 : ¬ ((nf f : Int) ≤ 6) := by omega
   simp [c1, c2, d1, d2]
 ·have d1 : ¬ ((kF f : Int) ≤ 64) := by omega
  simp [c1, d1]
theorem SV (l : List iR) (r : iR) : yx l r = some (mM jh l r) := by
 unfold yx
 induction l with
 | nil => rfl
 | cons x l ih =>
  rw [vR, ih]
  have e : mM jh (x :: l) r = (jh r x || mM jh l r) := rfl
  have a : jh x r = jh r x := by rw [aM, jr, jr]; exact iH
  rw [e, a]
  cases jh r x <;> rfl
theorem E5 (l : List iR) (rec : Formula → List iR → Option Bool) (f : Formula) (v : iR → Bool) : ∀ (a : List Formula) (x : Nat), (∀ k ∈ a, rec k l = some (CV v k)) → x + a.length ≤ 100000000 →
  pR rec l f a (x : Int) = some (if f.Op = 2 then decide (x + evN v a = f.Kids.length) else if f.Op = 3 then decide (0 < x + evN v a) else decide (f.K ≤ ((x + evN v a : Nat) : Int)))
 | [], x, _, _ => by
  rw [pR, evN, iv]
  by_cases c2 : f.Op = 2
  ·simp only [c2, bc, aK]
   congr 1
   rw [aM, fM, bz]; omega
  ·have d : (f.Op == 2) = false := by simpa using c2
   simp only [d, ae, aA, c2]
   by_cases c : f.Op = 3
   ·simp only [c, bc, aK]
    congr 1
    rw [aM, bz, bz]; omega
   ·have i : (f.Op == 3) = false := by simpa using c
    simp only [i, ae, aA, c]
    first | done | rfl
 | k :: a, x, h, j => by
  rw [aD] at j
  rw [pR, h k (by simp), aa, evN]
  cases CV v k
  ·simp only [ae, aA]
   rw [E5 l rec f v a x (fun z g => h z (by simp [g])) (by omega), cd]
  ·simp only [aK]
   have e : wi0 .i64 ((x : Int) + 1) = ((x + 1 : Nat) : Int) := by rw [kf (by omega) (by omega)]; omega
   rw [e, E5 l rec f v a (x + 1) (fun z g => h z (by simp [g])) (by omega)]
   have d : x + 1 + evN v a = x + (1 + evN v a) := by omega
   rw [d]
theorem RW (l : List iR) : ∀ (n : Nat) (f : Formula), nf f ≤ n → Gd f → qW n f l = some (CV (mM jh l) f) := by
 intro n
 induction n with
 | zero => intro f h; rw [mJ] at h; omega
 | succ n ih =>
  intro f c d
  rw [mJ] at c
  have g := rc f
  have i := Dn f.Kids
  unfold Gd at d
  rw [qW]
  unfold wF
  rw [Js, SV]
  by_cases c1 : f.Op = 1
  ·simp only [c1, bc, aK, aa]
  ·have a : (f.Op == 1) = false := by simpa using c1
   simp only [a, ae, aA, c1]
   have := E5 l (qW n) f (mM jh l) f.Kids 0 (fun k hk => ih k (by have := uA hk; omega) (by have := vy hk; unfold Gd; omega)) (by omega)
   simpa using this
theorem RI {l : List iS} {F : List iV} (h : QB l F) (peer : ByteArray) : vF F peer = vD l peer := by
 funext r
 rw [aM, Q4]
 unfold vF
 rw [mO kO, (h.wy (l.filter jW) (fun c => by rw [cT])).2]
mutual
def F8 : Formula → Nat
 | ⟨_, _, r, ks⟩ => 1 + r.ja.size + r.jt.size + szFL ks
def szFL : List Formula → Nat
 | [] => 0
 | k :: ks => F8 k + szFL ks
end
theorem Ns (f : Formula) : F8 f = 1 + f.iR.ja.size + f.iR.jt.size + szFL f.Kids := by cases f; rw [F8]
theorem Nl : ∀ f : Formula, kF f ≤ F8 f := by
 refine NU fun f ih => ?_
 have : ∀ a : List Formula, (∀ k ∈ a, kF k ≤ F8 k) → nodesL a ≤ szFL a := by
  intro a
  induction a with
  | nil => intro _; rw [nodesL]; omega
  | cons k a c =>
   intro h
   have := c (fun x d => h x (by simp [d]))
   have := h k (by simp)
   rw [nodesL, szFL]; omega
 have := this f.Kids ih
 rw [rc, Ns]; omega
def Bm : List iS → Nat
 | [] => 0
 | c :: l => 20 + w7 c + Bm l
theorem g5 : ∀ (l : List iS) (n : Int), 0 ≤ n → n + (Bm l : Int) ≤ 4000000000000000000 → nK l n = some (n + (Bm l : Int))
 | [], n, _, _ => by rw [nK, Bm]; simp
 | c :: l, n, d, a => by
  have e : w7 c = c.Head.ja.size + c.Head.jt.size + c.jA.size + c.B.ja.size + c.B.jt.size + c.C.ja.size + c.C.jt.size + c.jU.size := rfl
  rw [Bm] at a
  rw [nK]
  rw [kf (x := 20 + (c.Head.ja.size : Int)) (by omega) (by omega), kf (x := 20 + (c.Head.ja.size : Int) + (c.Head.jt.size : Int)) (by omega) (by omega), kf (x := 20 + (c.Head.ja.size : Int) + (c.Head.jt.size : Int) + (c.jA.size : Int)) (by omega) (by omega), kf (x := 20 + (c.Head.ja.size : Int) + (c.Head.jt.size : Int) + (c.jA.size : Int) + (c.B.ja.size : Int)) (by omega) (by omega), kf (x := 20 + (c.Head.ja.size : Int) + (c.Head.jt.size : Int) + (c.jA.size : Int) + (c.B.ja.size : Int) + (c.B.jt.size : Int)) (by omega) (by omega), kf (x := 20 + (c.Head.ja.size : Int) + (c.Head.jt.size : Int) + (c.jA.size : Int) + (c.B.ja.size : Int) + (c.B.jt.size : Int) + (c.C.ja.size : Int)) (by omega) (by omega), kf (x := 20 + (c.Head.ja.size : Int) + (c.Head.jt.size : Int) + (c.jA.size : Int) + (c.B.ja.size : Int) + (c.B.jt.size : Int) + (c.C.ja.size : Int) + (c.C.jt.size : Int)) (by omega) (by omega), kf (x := 20 + (c.Head.ja.size : Int) + (c.Head.jt.size : Int) + (c.jA.size : Int) + (c.B.ja.size : Int) + (c.B.jt.size : Int) + (c.C.ja.size : Int) + (c.C.jt.size : Int) + (c.jU.size : Int)) (by omega) (by omega), kf (by omega) (by omega)]
  rw [g5 l _ (by omega) (by omega), Bm]
  congr 1; omega
theorem g6 (s : Signed) (h : w7 s.iS + s.Tag.length ≤ 1000000000) : CX [] [s] = some (20 + (w7 s.iS : Int) + (s.Tag.length : Int)) := by
 unfold CX
 rw [xj, uI]
 have := g5 [s.iS] 0 (by omega) (by rw [Bm, Bm]; omega)
 rw [show ta [s.iS] = _ from this, aa, uI, Bm, Bm]
 rw [kf (x := 0 + ((20 + w7 s.iS + 0 : Nat) : Int) + (s.Tag.length : Int)) (by omega) (by omega), kf (by omega) (by omega)]
 simp only [aa]
 congr 1; omega
theorem bb {α β γ : Type} (x : Option α) (f : α → Option β) (g : β → Option γ) : (x.bind fun a => (f a).bind g) = (x.bind f).bind g := by cases x <;> rfl
noncomputable def Tm (p : Jy) : Bool := (Gn p.ja p.Client p.Formula).getD false
def Qn (l : List nF) (i : Int) : Prop := 0 ≤ i ∧ i < l.length
instance (l : List nF) (i : Int) : Decidable (Qn l i) := by unfold Qn; infer_instance
def QT (l : List nF) (i : Int) : List nF := if Qn l i then l.eraseIdx i.toNat else l
def O4 (p : Jy) (e i : Int) : Jy :=
 if e = 0 then ⟨⟨p.ja.Name, QT p.ja.pa i, p.ja.Aa⟩, p.Client, p.Formula, p.Qp, p.Pn, p.KO, p.O3, p.MN, p.Keys⟩
 else if e = 1 then ⟨p.ja, ⟨p.Client.Name, QT p.Client.pa i, p.Client.Aa⟩, p.Formula, p.Qp, p.Pn, p.KO, p.O3, p.MN, p.Keys⟩
 else p
noncomputable def shr (e : Int) : Nat → Jy → Jy
 | 0, p => p
 | k + 1, p => shr e k (if Tm (O4 p e k) then O4 p e k else p)
mutual
def EQ : Formula → List iR
 | ⟨o, k, r, ks⟩ => if o = 1 then [r] else CH ks
def CH : List Formula → List iR
 | [] => []
 | k :: ks => EQ k ++ CH ks
end
theorem M1 (f : Formula) : EQ f = if f.Op = 1 then [f.iR] else CH f.Kids := by cases f; rw [EQ]
theorem Ku : ∀ f : Formula, (EQ f).length ≤ kF f := by
 refine NU fun f ih => ?_
 have key : ∀ a : List Formula, (∀ k ∈ a, (EQ k).length ≤ kF k) → (CH a).length ≤ nodesL a := by
  intro a
  induction a with
  | nil => intro _; rw [CH]; simp
  | cons k a c =>
   intro h
   have h1 := h k (by simp)
   have g := c (fun x d => h x (by simp [d]))
   rw [CH, aj, nodesL]; omega
 have := key _ ih
 rw [M1, rc]
 split
 ·simp
 ·omega
theorem M8 (rec : Formula → Option (List iR)) : ∀ (a : List Formula) (acc : List iR), (∀ k ∈ a, rec k = some (EQ k)) → acc.length + (CH a).length ≤ 100000000 → pp rec a acc = some (acc ++ CH a)
 | [], acc, _, _ => by rw [pp, CH, bu]
 | k :: a, acc, h, c => by
  rw [CH, aj] at c
  rw [pp, h k (by simp), aa, lx (by omega) (by omega), aa, M8 rec a _ (fun x d => h x (by simp [d])) (by rw [aj]; omega), CH, aB]
theorem Qi : ∀ (n : Nat) (f : Formula), nf f ≤ n → kF f ≤ 10000000 → pC n f = some (EQ f) := by
 intro n
 induction n with
 | zero => intro f h; rw [mJ] at h; omega
 | succ n ih =>
  intro f c g
  rw [mJ] at c
  have d := rc f
  have hlen := Ku f
  rw [pC]
  unfold uz
  rw [M1] at *
  by_cases c1 : f.Op = 1
  ·simp only [c1, bc, aK]
  ·have a : (f.Op == 1) = false := by simpa using c1
   simp only [a, ae, aA, c1] at *
   rw [M8 _ f.Kids [] (fun k hk => ih k (by have := uA hk; omega) (by have := vy hk; omega)) (by simp; omega), bt]
theorem N1 (f : Formula) (h : kF f ≤ 10000000) : ∃ r, tF f = some r ∧ Jp (EQ f) r ∧ r.length ≤ kF f := by
 have h1 := Ku f
 obtain ⟨r, e, a⟩ := S0 (EQ f) (by omega)
 have := pK (Ic _) a
 refine ⟨r, ?_, a, by omega⟩
 unfold tF
 have := xp f
 rw [Qi jM f (by rw [sF]; omega) h, aa, e]; rfl
theorem Tz : tF (pB sY) = some [sY] := by
 obtain ⟨r, e, h, c⟩ := N1 (pB sY) (by decide +kernel)
 rw [e, sO.unique (Ic _) h (⟨by simp, fun x => ⟨fun a => ⟨a, by obtain rfl := aC.1 a; decide +kernel⟩, fun a => a.1⟩⟩ : Jp (EQ (pB sY)) [sY])]
theorem Rz (l : List iR) (x : iR) : ∃ q, zH l x = some q ∧ (q = true ↔ x ∈ l) := by
 have key : ∀ (l : List iR) (i : Nat), ∃ q : Int, oQ x l i = some q ∧ (q ≥ 0 ↔ x ∈ l) := by
  intro l
  induction l with
  | nil => intro i; exact ⟨-1, rfl, by simp⟩
  | cons y l ih =>
   intro i
   rw [oQ]
   by_cases h : jh x y = true
   ·rw [aq h]; exact ⟨i, rfl, by rw [jr.1 h]; simp⟩
   ·rw [ap h]
    obtain ⟨q, e, a⟩ := ih (i + 1)
    refine ⟨q, e, a.trans ?_⟩
    have : x ≠ y := fun e => h (jr.2 e)
    simp [this]
 obtain ⟨q, e, a⟩ := key l 0
 unfold zH tM ve
 rw [e]
 exact ⟨decide (q ≥ 0), rfl, by rw [bz, a]⟩
theorem O9 (l : List iR) {b : Bool} (a : b = true ↔ sY ∈ l) : nx (pB sY) l = some b := by
 have d : ∀ r, nN r l = some (mM jh l r) := fun r => by
  obtain ⟨q, e, c⟩ := Rz l r
  unfold nN
  rw [sc, e]
  congr 1
  rw [aM, c, mO jr]
 unfold nx
 rw [Li (mM jh l) _ d (pB sY) (by unfold Gd; decide +kernel)]
 unfold AJ
 rw [IH, KC]
 simp only [dj, aa]
 congr 1
 rw [aM, a, mO jr]
theorem Pa : (wi0 .i64 (BitVec.ofInt (IntKind.bits .i64) (Int.fdiv (0 : Int) (2 ^ min (Int.toNat ((0 : Nat) : Int)) (IntKind.bits .i64))) &&& BitVec.ofInt (IntKind.bits .i64) 1).toNat) = 0 := by decide +kernel
theorem Ph : (wi0 .i64 (BitVec.ofInt (IntKind.bits .i64) (Int.fdiv (1 : Int) (2 ^ min (Int.toNat ((0 : Nat) : Int)) (IntKind.bits .i64))) &&& BitVec.ofInt (IntKind.bits .i64) 1).toNat) = 1 := by decide +kernel
theorem SY : (wi0 .i64 (BitVec.ofInt (IntKind.bits .i64) ((1 : Nat) : Int) &&& ~~~ BitVec.ofInt (IntKind.bits .i64) (wi0 .i64 (1 * 2 ^ min (Int.toNat ((0 : Nat) : Int)) (IntKind.bits .i64)))).toNat) = 0 := by decide +kernel
theorem Mc : lI (decide (0 ≤ ((0 : Nat) : Int))) = some () := by decide +kernel
theorem RV : rL [sY] 0 = some [] := by
 unfold rL
 rw [nV, Mc, aa, Pa, nV]
 rfl
theorem Pj : rL [sY] 1 = some [sY] := by
 unfold rL
 rw [nV, Mc, aa, Ph]
 simp only [bc, aK]
 rw [lx (by simp) (by simp), aa, nV]
 rfl
theorem Rh : xN (pB sY) [sY] = some [1] := by
 have d : D6 1 false (wi0 .i64 (1 * 2 ^ min (Int.toNat (([sY] : List iR).length : Int)) (IntKind.bits .i64))) = some [false, false] := by
  rw [show (wi0 .i64 (1 * 2 ^ min (Int.toNat (([sY] : List iR).length : Int)) (IntKind.bits .i64))) = 2 by decide +kernel]
  unfold D6
  rw [aq (by decide)]; rfl
 have g : nx (pB sY) [] = some false := O9 [] (by simp)
 have s1 : nx (pB sY) [sY] = some true := O9 [sY] (by simp)
 unfold xN
 rw [show lI (decide (0 ≤ (([sY] : List iR).length : Int))) = some () by decide +kernel, aa, d, aa]
 rw [pA, show ((0 : Nat) : Int) = 0 from rfl, RV, aa, g, aa, show kx [false, false] 0 = some false from rfl, aa]
 rw [pV]
 simp only [ae, aA]
 rw [Mc, aa, show ((0 : Nat) : Int) = 0 from rfl]
 have a := Pa
 rw [show ((0 : Nat) : Int) = 0 from rfl] at a
 rw [a]
 simp only [show ((0 : Int) == 1) = false from rfl, ae, aA, aa]
 rw [pV, aa, show kx (([false, false]).set (Int.toNat 0) false) 0 = some false from rfl]
 simp only [aa, ae, aA]
 rw [pA, show ((0 + 1 : Nat) : Int) = 1 from rfl, Pj, aa, s1, aa, show kx (([false, false]).set (Int.toNat 0) false) 1 = some false from rfl, aa]
 rw [pV]
 simp only [ae, aA]
 rw [Mc, aa, show ((0 + 1 : Nat) : Int) = 1 from rfl, Ph]
 simp only [bc, aK, aa]
 have c := SY
 rw [show ((1 : Nat) : Int) = 1 from rfl] at c
 rw [c, show kx ((([false, false]).set (Int.toNat 0) false).set (Int.toNat 1) true) 0 = some false from rfl]
 simp only [aa]
 rw [pV, aa, show kx ((([false, false]).set (Int.toNat 0) false).set (Int.toNat 1) true) 1 = some true from rfl]
 simp only [aa, aK, bX]
 rw [lx (by simp) (by simp), aa, pA]
 rfl
theorem Q5 : xI (pB sY) = some ([[sY]], 0) := by
 have d : ∃ c, sn [sY] [sY] = some c ∧ c = 0 := by
  obtain ⟨q, e, h⟩ := tY sY sY
  have j : wD 1 1 = some 0 := by decide +kernel
  have k : lP sY sY = some 0 := by decide +kernel
  refine ⟨0, ?_, rfl⟩
  unfold sn
  rw [show (([sY] : List iR).length : Int) = 1 from rfl, j, aa]
  unfold lF
  rw [kv, ap (by decide +kernel), show kx [sY] ((0 : Nat) : Int) = some sY from rfl, aa]
  simp only
  rw [k, aa]
  simp only [fF, ae, aA]
  rw [kv]
  decide +kernel
 obtain ⟨c, i, rfl⟩ := d
 have m : Ew (fun (x : (List iR × List iR)) => sn x.1 x.2) [[sY]] = some [[sY]] := by
  unfold Ew
  rw [aq (by simp), JM]
  ·simp [ol]
  ·exact {
    is := fun x a y g => by obtain rfl := aC.1 a; obtain rfl := aC.1 g; exact ⟨_, i⟩
    irrefl := fun x a => by obtain rfl := aC.1 a; unfold rj; simp [i]
    trans := fun x a y g z n => by obtain rfl := aC.1 a; obtain rfl := aC.1 g; obtain rfl := aC.1 n; exact fun h _ => h
    total := fun x a y g _ _ => by obtain rfl := aC.1 a; obtain rfl := aC.1 g; rfl
    short := by simp }
 unfold xI
 rw [JO (pB sY) (by decide +kernel), IH, aa]
 simp only [aY, ae, aA]
 rw [Tz, aa, ap (by decide), Rh, aa, tC, Pj, aa, lx (by simp) (by simp), aa, tC, ap (by decide), bt, m]
 rfl
theorem Ql (f1 : iR → Option Bool) (h : f1 sY = some true) : xG (pB sY) f1 = some ([sY], true) := by
 unfold xG
 rw [Q5, aa]
 simp only [fF, ae, aA, aa]
 rw [vn]
 unfold mg mU
 rw [kQ]
 unfold vp
 rw [h]
 simp only [aa, aY, ae, aA]
 rw [kQ]
 rfl
open Classical in
noncomputable def nD (C : List iS) : List iV → List jk → Bool
 | _, [] => true
 | A, s :: B => decide (s.iS ∈ C) && Ah s A && nD C (A ++ [s.iV]) B
open Classical in
theorem Bx (C : List iS) : ∀ (B : List jk) (A : List iV), nD C A B = true ↔ (∀ s ∈ B, s.iS ∈ C) ∧ lH A B
 | [], A => by simp [nD, lH]
 | s :: B, A => by
  rw [nD, az, az, Bx C B, wh, bz]
  simp only [lH, ay, forall_eq_or_imp]
  exact ⟨fun ⟨⟨a, b⟩, c, d⟩ => ⟨⟨a, c⟩, b, d⟩, fun ⟨⟨a, c⟩, b, d⟩ => ⟨⟨a, b⟩, c, d⟩⟩
open Classical in
noncomputable def ym (C : List iS) (want : iV) (l : List jk) (ok : Bool) : Int := if ok = true then (if want ∈ kA l then 0 else 42) else 50
theorem Nu (l : List jk) (C : List iS) (want : iV) (p : l.length ≤ 100000000) : ∀ (B A : List jk), A ++ B = l → ∃ n : Int, qJ C (kA l) want l B A.length = some (n, ym C want l (nD C (kA A) B)) ∧ qH C l want B A.length = some (n, ym C want l (nD C (kA A) B))
 | [], A, e => by
  refine ⟨l.length, ?_, ?_⟩
  ·rw [qJ, Pq]
   unfold ym nD
   by_cases h : want ∈ kA l <;> simp [h]
  ·rw [qH, DP l (by omega)]
   obtain ⟨b, g, a⟩ := vu (l.map (·.iV)) want.iR want.jA
   simp only [aa]
   rw [g]
   unfold ym nD
   have c : b = true ↔ want ∈ kA l := a
   by_cases h : want ∈ kA l
   ·obtain rfl := c.2 h; simp [h]
   ·obtain rfl : b = false := by rw [← cz, c]; exact h
    simp [h]
 | s :: B, A, e => by
  have u : A.length ≤ 100000000 := by have := aw List.length e; simp at this; omega
  have o : A.length ≤ l.length := by have := aw List.length e; simp at this; omega
  obtain ⟨b, g, a⟩ := Jn s.iS C
  have i : mM mz C s.iS = b := by rw [aM, a, mO tQ]
  have t : (kA l).take (Int.toNat (A.length : Int)) = kA A := by rw [← e, tJ]; have := Ch (kA A) (kA (s :: B)); simpa [kA] using this
  have j : l.take (Int.toNat (A.length : Int)) = A := by rw [← e]; exact Ch _ _
  rw [qJ, qH, g, Ko, i, ud (by omega) (by simp [kA]; omega), ud (by omega) (by omega), t, j, DP A (by omega)]
  simp only [aa]
  rw [Ck, HW _ _ (by simp; omega)]
  simp only [aa]
  rw [show A.map (·.iV) = kA A from rfl]
  by_cases d : s.iS ∈ C
  ·obtain rfl := a.2 d
   simp only [aY, ae, aA, aa]
   cases m : Ah s (kA A)
   ·refine ⟨A.length, ?_, ?_⟩ <;> simp [ym, nD, m]
   ·simp only [aY, ae, aA]
    obtain ⟨n, h1, k⟩ := Nu l C want p B (A ++ [s]) (by simpa using e)
    have q : nD C (kA A) (s :: B) = nD C (kA (A ++ [s])) B := by rw [nD, m, tJ]; simp [d, kA]
    rw [q]
    simp only [aj, aD, bH, cd] at h1 k
    exact ⟨n, h1, k⟩
  ·obtain rfl : b = false := by rw [← cz, a]; exact d
   refine ⟨A.length, ?_, ?_⟩ <;> simp [ym, nD, d]
theorem Io (l : List jk) (C : List iS) (want : iV) (c : l.length ≤ 100000000) : ∃ n : Int, uM l C want = some (n, ym C want l (nD C [] l)) ∧ zc l C want = some (n, ym C want l (nD C [] l)) := by
 obtain ⟨n, h1, a⟩ := Nu l C want c l [] rfl
 refine ⟨n, ?_, a⟩
 unfold uM
 rw [DG l (by omega)]
 exact h1
theorem Qe (f : Formula) (l : List iR) (h : Gd f) : nx f l = some (AJ (mM jh l) f) := by
 have c : ∀ r, nN r l = some (mM jh l r) := fun r => by
  obtain ⟨q, e, a⟩ := Rz l r
  unfold nN
  rw [sc, e]
  congr 1
  rw [aM, a, mO jr]
 unfold nx
 rw [Li (mM jh l) _ c f h, aa]
noncomputable def Fb (o : jP) (C : List iS) (f : Formula) (peer : ByteArray) : Int :=
 if o.State ≠ 1 then 43 else if AJ (mM jh o.jL) f = false then 44 else if nD C [] o.jQ = false then 50 else if (o.jL.all fun r => mM lf (kA o.jQ) ⟨r, peer⟩) = true then 0 else 42
theorem Kt (o : jP) (C : List iS) (peer : ByteArray) (d : o.jQ.length ≤ 100000000) (hk : nD C [] o.jQ = true) : ∀ l : List iR,
  qY o C peer l = some (if (l.all fun r => mM lf (kA o.jQ) ⟨r, peer⟩) = true then 0 else 42) ∧ sw o peer l = some (if (l.all fun r => mM lf (kA o.jQ) ⟨r, peer⟩) = true then 0 else 42)
 | [] => ⟨rfl, rfl⟩
 | r :: l => by
  obtain ⟨n, h1, _⟩ := Io o.jQ C ⟨r, peer⟩ d
  obtain ⟨i1, i2⟩ := Kt o C peer d hk l
  rw [qY, sw, h1, hk, DP o.jQ (by omega)]
  obtain ⟨b, g, a⟩ := vu (o.jQ.map (·.iV)) r peer
  simp only [aa]
  rw [g]
  have c : mM lf (kA o.jQ) ⟨r, peer⟩ = b := by rw [aM, a, mO kO]; rfl
  rw [eB, c]
  by_cases h : (⟨r, peer⟩ : iV) ∈ kA o.jQ
  ·obtain rfl : b = true := a.2 h
   simp only [ym, h, aK, fF, ae, aA, aa, aY, dj]
   exact ⟨i1, i2⟩
  ·obtain rfl : b = false := by rw [← cz]; exact fun i => h (a.1 i)
   simp [ym, h]
theorem BK (o : jP) (C : List iS) (f : Formula) (peer : ByteArray) (h : o.jQ.length ≤ 100000000) (d : Gd f) (j : nf f ≤ jM) : lQ o C f peer = some (Fb o C f peer) ∧ wU o C f peer = some (Fb o C f peer) := by
 obtain ⟨n, h1, i⟩ := Io o.jQ C ⟨⟨zS, zS⟩, zS⟩ h
 unfold lQ wU Fb
 rw [Qe f o.jL d, RA f d, RW o.jL jM f j d, h1, i]
 by_cases c : o.State = 1
 ·have a : (o.State != 1) = false := by simp [c]
  rw [a, ap (show ¬ (o.State ≠ 1) by simp [c])]
  simp only [ae, aA, aa]
  unfold AJ
  cases xD f
  ·simp
  ·cases CV (mM jh o.jL) f
   ·simp
   ·simp only [Bool.and_self, aY, ae, aA, aa]
    cases hk : nD C [] o.jQ
    ·simp [ym]
    ·obtain ⟨i1, i2⟩ := Kt o C peer h hk o.jL
     have g : (ym C ⟨⟨zS, zS⟩, zS⟩ o.jQ true == 50) = false := by
      unfold ym
      simp only [aK]
      split <;> decide
     rw [g]
     simp only [ae, aA, aK, Bool.true_eq_false]
     exact ⟨i1, i2⟩
 ·have a : (o.State != 1) = true := by simp [c]
  rw [a, aq c]
  simp
def tU {α : Type} (f : List Int → Int ⊕ (α × List Int)) : Nat → List Int → Int ⊕ (List α × List Int)
 | 0, l => .inr ([], l)
 | n + 1, l => lu (f l) fun x a => lu (tU f n a) fun xs c => .inr (x :: xs, c)
def zz (l : List Int) : Int ⊕ (jk × List Int) := lu (Ci l) fun c a => lu (uH a) fun w d => .inr (⟨c, ⟨c.Head, w⟩⟩, d)
def G4 (a : Int) (l : List Int) : Int ⊕ (List jk × List Int) := lu (pM a 0 0 l) fun n c => tU zz n.toNat c
def IN (l : List Int) : Int ⊕ (jP × List Int) := lu (pM 3 0 0 l) fun st c => lu (pM 99 0 0 c) fun e d => lu (pM 64 0 0 d) fun n g => lu (tU rA n.toNat g) fun j h => lu (G4 256 h) fun a i => .inr (⟨st, e, j, a⟩, i)
def Bz {α : Type} (acc : List α) (x : Int ⊕ (List α × List Int)) : Int ⊕ (List α × List Int) := lu x fun xs l => .inr (acc ++ xs, l)
theorem Hg {α : Type} (acc : List α) (f : List Int → Int ⊕ (α × List Int)) (n : Nat) (l a : List Int) (x : α) (h : f l = .inr (x, a)) : Bz acc (tU f (n + 1) l) = Bz (acc ++ [x]) (tU f n a) := by
 unfold Bz
 rw [tU, h]
 simp only [lu]
 cases tU f n a <;> simp
theorem EX {α : Type} (acc : List α) (f : List Int → Int ⊕ (α × List Int)) (n : Nat) (l : List Int) (e : Int) (h : f l = .inl e) : Bz acc (tU f (n + 1) l) = .inl e := by
 unfold Bz; rw [tU, h]; rfl
theorem Jf {α : Type} (x : Int ⊕ (List α × List Int)) : Bz [] x = x := by cases x <;> rfl
theorem KK (i : Nat) (h : i ≤ 1000000) : wi0 .i64 ((i : Int) + 1) = ((i + 1 : Nat) : Int) := by rw [kf (by omega) (by omega)]; simp
theorem Ia (l : List Int) (a : Int) (c : B8 l) (d : l.length ≤ 1000000) : kW ⟨l, false⟩ a = some (wr (pM a 0 0 l)) := N4 l a c d
theorem HF (g : Int × jo) : ∀ (k : Nat) (acc : List jk) (i : Nat) (l : List Int) (n : Nat), ((i + k : Nat) : Int) = g.1 → i + k ≤ 10000 → B8 l → l.length ≤ 1000000 → acc.length + k ≤ 100000 → k < n →
  pg g n acc i l false = some (wr (Bz acc (tU zz k l)))
 | 0, acc, i, l, n + 1, t, _, _, _, _, _ => by
  rw [pg, ap (by simp; omega)]
  simp [tU, Bz, lu, wr]
 | k + 1, acc, i, l, n + 1, t, hk, j, m, u, v => by
  rw [pg, aq (by simp; omega), R5 l j m]
  cases a : Ci l with
  | inl e => rw [EX acc zz k l e (by unfold zz; rw [a]; rfl)]; rfl
  | inr q =>
   obtain ⟨c, d⟩ := q
   obtain ⟨h1, h⟩ := j.part m (LZ l) a
   simp only [aa, wr]
   rw [Gr d h1 h]
   cases hw : uH d with
   | inl e => rw [EX acc zz k l e (by unfold zz; rw [a]; simp only [lu]; rw [hw])]; rfl
   | inr q =>
    obtain ⟨w, o⟩ := q
    obtain ⟨p, s⟩ := h1.part h (vQ d) hw
    simp only [aa, wr]
    rw [lx (by simp; omega) (by simp; omega), aa, KK i (by omega)]
    rw [Hg acc zz k l o (⟨c, ⟨c.Head, w⟩⟩ : jk) (by unfold zz; rw [a]; simp only [lu]; rw [hw])]
    exact HF g k _ (i + 1) o n (by omega) (by omega) p s (by simp; omega) (by omega)
theorem KX (a : Int) (l : List Int) {v : Int} {c : List Int} (h : pM a 0 0 l = .inr (v, c)) : 0 ≤ v ∧ v ≤ a := GV a l 0 0 v c ⟨by decide, by decide⟩ h
theorem Rt (l : List Int) (a : Int) (c : B8 l) (d : l.length ≤ 1000000) (hm : a ≤ 10000) : xc ⟨l, false⟩ a = some (wr (G4 a l)) := by
 unfold xc G4
 rw [Ia l a c d]
 cases g : pM a 0 0 l with
 | inl e => rfl
 | inr q =>
  obtain ⟨n, h⟩ := q
  obtain ⟨h1, i⟩ := c.part d (tp a l 0 0) g
  have j := KX a l g
  simp only [aa, wr]
  rw [show (0 : Int) = ((0 : Nat) : Int) from rfl, HF (n, ⟨h, false⟩) n.toNat [] 0 h jM (by show ((0 + n.toNat : Nat) : Int) = n; omega) (by omega) h1 i (by simp; omega) (by rw [oG]; omega), Jf]
  rfl
theorem Kg (d m a : Int × jo) : ∀ (k : Nat) (acc : List iR) (i : Nat) (l : List Int) (n : Nat), ((i + k : Nat) : Int) = d.1 → i + k ≤ 10000 → B8 l → l.length ≤ 1000000 → acc.length + k ≤ 100000 → k < n →
  nM d m a n i acc l false = some (wr (lu (Bz acc (tU rA k l)) fun w u => lu (G4 256 u) fun p v => .inr ((⟨m.1, a.1, w, p⟩ : jP), v)))
 | 0, acc, i, l, n + 1, t, _, g, h, _, _ => by
  rw [nM, ap (by simp; omega), Rt l 256 g h (by decide)]
  simp only [tU, Bz, lu, bu]
  cases G4 256 l with
  | inl e => rfl
  | inr q => rfl
 | k + 1, acc, i, l, n + 1, t, hk, g, h, x, y => by
  rw [nM, aq (by simp; omega), Ev l g h]
  cases j : rA l with
  | inl e => rw [EX acc rA k l e j]; rfl
  | inr q =>
   obtain ⟨c, o⟩ := q
   obtain ⟨h1, s⟩ := g.part h (rV l) j
   simp only [aa, wr]
   rw [lx (by simp; omega) (by simp; omega), aa, KK i (by omega), Hg acc rA k l o c j]
   exact Kg d m a k _ (i + 1) o n (by omega) (by omega) h1 s (by simp; omega) (by omega)
theorem SX (l : List Int) (i : B8 l) (j : l.length ≤ 1000000) : tB ⟨l, false⟩ = some (wr (IN l)) := by
 unfold tB IN
 rw [Ia l 3 i j]
 cases t : pM 3 0 0 l with
 | inl e => rfl
 | inr q =>
  obtain ⟨s, c⟩ := q
  obtain ⟨h1, d⟩ := i.part j (tp 3 l 0 0) t
  simp only [aa, wr, lu]
  rw [Ia c 99 h1 d]
  cases u : pM 99 0 0 c with
  | inl e => rfl
  | inr q =>
   obtain ⟨e, a⟩ := q
   obtain ⟨g, h⟩ := h1.part d (tp 99 c 0 0) u
   simp only [aa, wr, lu]
   rw [Ia a 64 g h]
   cases k : pM 64 0 0 a with
   | inl e => rfl
   | inr q =>
    obtain ⟨n, m⟩ := q
    obtain ⟨o, p⟩ := g.part h (tp 64 a 0 0) k
    have v := KX 64 a k
    simp only [aa, wr, lu]
    rw [show (0 : Int) = ((0 : Nat) : Int) from rfl, Kg (n, ⟨m, false⟩) (s, ⟨c, false⟩) (e, ⟨a, false⟩) n.toNat [] 0 m jM (by show ((0 + n.toNat : Nat) : Int) = n; omega) (by omega) o p (by simp; omega) (by rw [oG]; omega), Jf]
    rfl
abbrev zO : jP := ⟨0, 0, [], []⟩
def Mz (l : List Int) : Int × jP := match IN l with
 | .inl e => (e, zO)
 | .inr (o, a) => (if a.length > 0 then 13 else 0, o)
theorem QR (l : List Int) (c : B8 l) (a : l.length ≤ 1000000) : tR l zO = some (Mz l) := by
 unfold tR vv Mz
 rw [IB a, aa, SX l c a]
 cases IN l with
 | inl e => rfl
 | inr q => obtain ⟨s, d⟩ := q; rfl
theorem Q7 (l : List Int) (a : B8 l) (c : l.length ≤ 1000000) : sV l zO = some (Mz l) := QR l a c
def Bt (n : Int) : List Int := if n < 128 then [n] else [n % 128 + 128, n / 128]
theorem Aw (n : Int) : (Bt n).length ≤ 2 ∧ 1 ≤ (Bt n).length := by unfold Bt; split <;> simp
def Qx (k : Nat) : Bool := decide (IntKind.u8.wrap (BitVec.ofInt (IntKind.bits .u8) (IntKind.u8.wrap (k : Int)) ||| BitVec.ofInt (IntKind.bits .u8) 128).toNat = (k : Int) % 128 + 128) && decide (Int.fdiv (k : Int) (2 ^ min (Int.toNat 7) (IntKind.bits .i64)) = (k : Int) / 128) && decide (IntKind.u8.wrap ((k : Int) / 128) = (k : Int) / 128) && decide (IntKind.u8.wrap (wi0 .i64 (128 + (Int.tmod (k : Int) 128))) = (k : Int) % 128 + 128) && decide (wi0 .i64 (Int.tdiv (k : Int) 128) = (k : Int) / 128)
theorem PV : (List.range 300).all Qx = true := by decide +kernel
theorem QM {n : Int} (g : 0 ≤ n) (h1 : n < 300) : IntKind.u8.wrap (BitVec.ofInt (IntKind.bits .u8) (IntKind.u8.wrap n) ||| BitVec.ofInt (IntKind.bits .u8) 128).toNat = n % 128 + 128 ∧ Int.fdiv n (2 ^ min (Int.toNat 7) (IntKind.bits .i64)) = n / 128 ∧ IntKind.u8.wrap (n / 128) = n / 128 ∧ IntKind.u8.wrap (wi0 .i64 (128 + (Int.tmod n 128))) = n % 128 + 128 ∧ wi0 .i64 (Int.tdiv n 128) = n / 128 := by
 obtain ⟨k, rfl⟩ : ∃ k : Nat, n = k := ⟨n.toNat, by omega⟩
 have := fN.1 PV k (List.mem_range.2 (by omega))
 unfold Qx at this
 simp only [az, bz] at this
 obtain ⟨⟨⟨⟨a, b⟩, c⟩, d⟩, e⟩ := this
 exact ⟨a, b, c, d, e⟩
theorem F3 {l : List Int} {n : Int} (d : 0 ≤ n) (h1 : n < 300) (g : l.length ≤ 99000) : kI l n = some (true, l ++ Bt n) := by
 unfold Bt
 by_cases h : n < 128
 ·rw [aq h]; exact AY d h (by omega)
 ·obtain ⟨a, b, c, _, _⟩ := QM d h1
  rw [ap h]
  unfold kI
  rw [ap (by simp; omega), show jM = 18446744073709551614 + 1 + 1 by rw [oG], mu, aq (by simp; omega), a, zm (by simp; omega), aa, b, mu, ap (by simp; omega), c, zm (by simp; omega)]
  simp
theorem Fm {l : List Int} {s : ByteArray} (h : kM s = true) (a : l.length ≤ 99000) : oT l s = some (true, l ++ qQ s) := by
 have h1 := lo h
 unfold oT
 simp only [pW, aa, h, aK, Bo h1.2]
 unfold ub
 rw [ap (by rw [lA]; simp; omega)]
 rw [lA, AY (by omega) (by omega) (by omega)]
 simp only [aa]
 rw [zm (by simp [lA]; omega)]
 simp [qQ]
theorem OC {l : List Int} {r : iR} (h : kp r = true) (c : l.length ≤ 98000) : mK l r = some (true, l ++ ng r) := by
 have a := h
 simp only [kp, az] at h
 have h1 := lo h.1
 unfold mK
 simp only [rk, aa, a, aK]
 rw [Fm h.1 (by omega)]
 simp only [aa, aK]
 rw [Fm h.2 (by simp [nL]; omega)]
 simp [ng]
def Bc (s : jk) : List Int := oB s.iS ++ qQ s.iV.jA
def vx (s : jk) : Bool := jW s.iS && jh s.iV.iR s.iS.Head && kM s.iV.jA
theorem Hc {s : jk} (h : vx s = true) : (Bc s).length ≤ 217 := by
 simp only [vx, az] at h
 have h1 := DA h.1.1
 have a := lo h.2
 unfold Bc
 rw [aj, nL]; omega
theorem O7 {α : Type} (f : α → List Int) (k : Nat) : ∀ l : List α, (∀ x ∈ l, (f x).length ≤ k) → (l.flatMap f).length ≤ k * l.length
 | [], _ => by simp
 | x :: l, h => by
  have h1 := h x (by simp)
  have c := O7 f k l (fun y a => h y (by simp [a]))
  rw [dZ, aj, aD, Nat.mul_add]; omega
theorem OR (s : jk) : wQ s = some (vx s) := by
 unfold wQ vx
 rw [nA, pW]
 cases jW s.iS <;> cases jh s.iV.iR s.iS.Head <;> simp
theorem Iq : ∀ (l : List jk) (acc : List Int), l.all vx = true → acc.length + 217 * l.length ≤ 90000 → qu l acc = some (true, acc ++ l.flatMap Bc)
 | [], acc, _, _ => by rw [qu]; simp
 | s :: l, acc, h, c => by
  rw [eB, az] at h
  have h1 := Hc h.1
  have a := h.1
  simp only [vx, az] at a
  have d := DA a.1.1
  simp only [aD] at c
  rw [qu, Ty _ a.1.1, aa]
  unfold sH
  rw [zm (by omega)]
  simp only [aa]
  rw [Fm a.2 (by simp; omega)]
  simp only [aa]
  rw [Iq l _ h.2 (by unfold Bc at h1; simp at h1 ⊢; omega)]
  simp [Bc]
def Fx (l : List jk) : Bool := decide (l.length ≤ 256) && l.all vx
def BJ (l : List jk) : List Int := Bt l.length ++ l.flatMap Bc
theorem LD {l : List jk} (h : Fx l = true) : (BJ l).length ≤ 56000 := by
 simp only [Fx, az, bz] at h
 have h1 := O7 Bc 217 l (fun x a => Hc (fN.1 h.2 x a))
 have := Aw (l.length : Int)
 unfold BJ
 rw [aj]; omega
theorem KJ (f : jk → Option Bool) : ∀ (l : List jk) (i : Nat), nm f l i = vd f l i
 | [], i => rfl
 | x :: l, i => by rw [nm, vd, KJ f l]
theorem Q6 (f : jk → Option Bool) (p : jk → Bool) (l : List jk) (h : ∀ x ∈ l, f x = some (p x)) : oX l f = some (l.any p) := by
 unfold oX sT
 rw [KJ]; exact JA f p l h
theorem Ks (f : iR → Option Bool) : ∀ (l : List iR) (i : Nat), kQ f l i = vd f l i
 | [], i => rfl
 | x :: l, i => by rw [kQ, vd, Ks f l]
theorem Q1 (f : iR → Option Bool) (p : iR → Bool) (l : List iR) (h : ∀ x ∈ l, f x = some (p x)) : mg l f = some (l.any p) := by
 unfold mg mU
 rw [Ks]; exact JA f p l h
theorem KS {α : Type} (p : α → Bool) (l : List α) : (l.any fun x => !p x) = !l.all p := by
 induction l with
 | nil => rfl
 | cons x l ih => rw [List.any_cons, eB, ih, Bool.not_and]
theorem Sx (l : List jk) : w4 [] l = some (if Fx l = true then (true, BJ l) else (false, [])) := by
 unfold w4 Fx
 by_cases h : l.length ≤ 256
 ·rw [ap (by simp; omega), Q6 _ (fun s => !vx s) l (fun x _ => by unfold wk; rw [OR]; rfl), KS]
  simp only [aa]
  cases a : l.all vx
  ·simp
  ·simp only [aY, ae, aA]
   rw [F3 (by omega) (by omega) (by simp)]
   simp only [aa]
   have := Aw (l.length : Int)
   rw [Iq l _ a (by simp; omega)]
   simp [h, BJ]
 ·rw [aq (by simp; omega)]
  simp [h]
def KI (o : jP) : Bool := decide (0 ≤ o.State ∧ o.State ≤ 3 ∧ 0 ≤ o.mq ∧ o.mq ≤ 99 ∧ o.jL.length ≤ 64) && o.jL.all kp
theorem Oy (o : jP) : vk o = some (KI o) := by
 unfold vk KI
 rw [Q1 _ (fun r => !kp r) o.jL (fun x _ => by unfold tD; rw [rk]; rfl), KS]
 by_cases h1 : 0 ≤ o.State
 ·by_cases c : o.State ≤ 3
  ·by_cases d : 0 ≤ o.mq
   ·by_cases g : o.mq ≤ 99
    ·by_cases h : o.jL.length ≤ 64
     ·have a : (o.jL.length : Int) ≤ 64 := by omega
      simp [h1, c, d, g, h, a]
     ·have a : ¬ (o.jL.length : Int) ≤ 64 := by omega
      simp [h1, c, d, g, h, a]
    ·simp [h1, c, d, g]
   ·simp [h1, c, d]
  ·simp [h1, c]
 ·simp [h1]
def Cz (o : jP) : List Int := Bt o.State ++ (Bt o.mq ++ (Bt o.jL.length ++ (o.jL.flatMap ng ++ BJ o.jQ)))
theorem Kh (c : List Int) (d : c.length ≤ 56000) : ∀ (l : List iR) (acc : List Int), l.all kp = true → acc.length + 34 * l.length ≤ 30000 → pr c l acc = some (true, acc ++ (l.flatMap ng ++ c))
 | [], acc, _, a => by
  rw [pr, Jk (by omega), aa]
  unfold sH
  rw [zm (by simp at a; omega)]
  simp
 | r :: l, acc, h, a => by
  rw [eB, az] at h
  have h1 := lB h.1
  simp only [aD] at a
  rw [pr, OC h.1 (by omega), aa, Kh c d l _ h.2 (by simp; omega)]
  simp
theorem SL (o : jP) : tq [] o = some (if KI o = true ∧ Fx o.jQ = true then (true, Cz o) else (false, [])) := by
 unfold tq
 rw [Oy]
 simp only [aa]
 cases a : KI o
 ·simp
 ·simp only [aY, ae, aA]
  rw [Sx]
  simp only [aa]
  cases g : Fx o.jQ
  ·simp
  ·simp only [aK, aY, ae, aA, and_self]
   simp only [KI, az, bz] at a
   obtain ⟨⟨c, a2, a3, a4, a5⟩, d⟩ := a
   have h := Aw o.State
   have i := Aw o.mq
   have j := Aw (o.jL.length : Int)
   rw [F3 c (by omega) (by simp)]
   simp only [aa]
   rw [F3 a3 (by omega) (by simp; omega)]
   simp only [aa]
   rw [F3 (by omega) (by omega) (by simp; omega)]
   simp only [aa]
   rw [Kh _ (LD g) o.jL _ d (by simp; omega)]
   simp [Cz]
theorem Hp : ∀ (l m A : List iR), l.length = m.length → ∃ b, oR (A ++ m) l A.length = some b ∧ vj (A ++ m) l A.length = some b ∧ (b = true ↔ l = m)
 | [], [], A, _ => ⟨true, rfl, rfl, by simp⟩
 | x :: l, y :: m, A, h => by
  rw [oR, vj, sW A y m _ rfl]
  simp only [aa]
  by_cases e : x = y
  ·subst e
   obtain ⟨b, h1, a, c⟩ := Hp l m (A ++ [x]) (by simpa using h)
   simp only [aB, cU, aj, aD, bH, cd] at h1 a
   rw [jr.2 rfl]
   exact ⟨b, by simpa using h1, by simpa using a, by rw [c]; simp⟩
  ·have : jh x y = false := by rw [← cz, jr]; exact e
   rw [this]
   exact ⟨false, rfl, rfl, by simp [e]⟩
theorem Qj (l m : List iR) : ∃ b, sM l m = some b ∧ As l m = some b ∧ (b = true ↔ l = m) := by
 unfold sM As
 by_cases h : l.length = m.length
 ·obtain ⟨b, h1, a, c⟩ := Hp l m [] h
  have : ((l.length : Int) != (m.length : Int)) = false := by simp [h]
  rw [this]
  exact ⟨b, h1, a, c⟩
 ·have : ((l.length : Int) != (m.length : Int)) = true := by simp; omega
  rw [this]
  exact ⟨false, rfl, rfl, by simp; intro e; exact h (by rw [e])⟩
theorem Ht : ∀ (l m A : List jk), l.length = m.length → ∃ b, oW (A ++ m) l A.length = some b ∧ vq (A ++ m) l A.length = some b ∧ (b = true ↔ l = m)
 | [], [], A, _ => ⟨true, rfl, rfl, by simp⟩
 | x :: l, y :: m, A, h => by
  rw [oW, vq, sW A y m _ rfl]
  simp only [aa]
  by_cases e : x = y
  ·subst e
   obtain ⟨b, h1, a, c⟩ := Ht l m (A ++ [x]) (by simpa using h)
   simp only [aB, cU, aj, aD, bH, cd] at h1 a
   rw [EM.2 rfl]
   exact ⟨b, by simpa using h1, by simpa using a, by rw [c]; simp⟩
  ·have : zV x y = false := by rw [← cz, EM]; exact e
   rw [this]
   exact ⟨false, rfl, rfl, by simp [e]⟩
theorem Qu (l m : List jk) : ∃ b, sL l m = some b ∧ Ab l m = some b ∧ (b = true ↔ l = m) := by
 unfold sL Ab
 by_cases h : l.length = m.length
 ·obtain ⟨b, h1, a, c⟩ := Ht l m [] h
  have : ((l.length : Int) != (m.length : Int)) = false := by simp [h]
  rw [this]
  exact ⟨b, h1, a, c⟩
 ·have : ((l.length : Int) != (m.length : Int)) = true := by simp; omega
  rw [this]
  exact ⟨false, rfl, rfl, by simp; intro e; exact h (by rw [e])⟩
theorem Sd (a b : jP) : ∃ q, wm a b = some q ∧ DZ a b = some q ∧ (a = b → q = true) := by
 obtain ⟨x, h1, c, d⟩ := Qj a.jL b.jL
 obtain ⟨y, g, k2, h⟩ := Qu a.jQ b.jQ
 unfold wm DZ
 rw [h1, c, g, k2]
 refine ⟨(a.State == b.State) && (a.mq == b.mq) && x && y, ?_, ?_, ?_⟩
 ·cases a.State == b.State <;> cases a.mq == b.mq <;> cases x <;> cases y <;> rfl
 ·cases a.State == b.State <;> cases a.mq == b.mq <;> cases x <;> cases y <;> rfl
 ·intro e
  subst e
  rw [d.2 rfl, h.2 rfl]
  simp
theorem La : ∀ (l : List jk) (x : Int), (∀ s ∈ l, w7 s.iS ≤ 1000000000) → ∃ r, sC l x = some r
 | [], x, _ => ⟨x, rfl⟩
 | s :: l, x, h => by
  rw [sC]
  obtain ⟨r, e⟩ := IJ [s.iS] (by simp) (fun c a => by rw [aC] at a; rw [a]; exact h s (by simp))
  rw [e, aa]
  exact La l _ (fun s d => h s (by simp [d]))
theorem FT : ∀ (l : List iR) (x : Int), ∃ r, sy l x = some r
 | [], x => ⟨x, rfl⟩
 | r :: l, x => by rw [sy]; exact FT l _
theorem P1 (o : jP) (h : ∀ s ∈ o.jQ, w7 s.iS ≤ 1000000000) : ∃ r, wT o = some r := by
 unfold wT zj
 obtain ⟨r, e⟩ := La o.jQ 0 h
 rw [e, aa]
 exact FT _ _
theorem MD (s : zg) (g : s.oz.length ≤ 30000) : ∃ m, A2 s = some m ∧ ∀ r, vI r m.1 m.2.1 m.2.2.1 m.2.2.2.1 m.2.2.2.2.1 m.2.2.2.2.2.1 m.2.2.2.2.2.2.1 s.mc.pa s.mc.Aa m.2.2.2.2.2.2.2.1 m.2.2.2.2.2.2.2.2 s.oz s.Shown s.lq s.Ct = some (vD s.oz s.rU r) := by
 obtain ⟨F, a⟩ := Tk s.oz g
 obtain ⟨m, c, _, d⟩ := a.TB
 have h := RI a s.rU
 refine ⟨_, by unfold A2; rw [c]; rfl, fun r => ?_⟩
 unfold vI
 rw [sc, d, ← h]; rfl
def yW : ByteArray := ⟨#[121, 111, 117]⟩
def yC : iS := ⟨1, sY, yW, ⟨zS, zS⟩, ⟨zS, zS⟩, zS⟩
def yS : zg := ⟨⟨⟨#[109, 101]⟩, [], []⟩, yW, 3, [yC], [], [], []⟩
def yZ : jk := ⟨yC, ⟨sY, yW⟩⟩
theorem Lb : jW yC = true := by decide +kernel
theorem SS : vD [yC] yW sY = true := by
 unfold vD
 have h : [yC].filter jW = [yC] := by rw [List.filter_cons, Lb]; rfl
 rw [h]
 exact @decide_eq_true _ (Classical.propDecidable _) (mf.mem yC (by simp) rfl)
theorem OZ : uf [yC] ⟨sY, yW⟩ = some ([yZ], true) ∧ BI [yZ] := by
 obtain ⟨C, d, h⟩ := P3 [yC] (by simp) ⟨sY, yW⟩
 have hm : ∀ c, c ∈ C ↔ c = yC := fun c => by rw [d.2]; exact ⟨fun h => by simpa using h.1, fun h => by subst h; exact ⟨by simp, Lb⟩⟩
 have i := pK Ca d
 rcases h with ⟨o, e, a⟩ | ⟨_, m⟩
 ·obtain ⟨P, z, rfl, j⟩ := a.last
  have := a.len
  have n : C.length * C.length ≤ 1 * 1 := ep i i
  simp only [aj, aD, bH] at this
  have k : P = [] := aX (by omega)
  subst k
  have g := (hm _).1 (a.cr z (by simp))
  have : z = yZ := by cases z; simp only at j g; subst j g; rfl
  subst this
  exact ⟨e, a.tg⟩
 ·exact absurd (.mem yC ((hm yC).2 rfl) rfl) m
theorem Tw : pS yS (pB sY) 1 0 true = some ⟨1, 0, [sY], [yZ]⟩ := by
 obtain ⟨m, e, h⟩ := MD yS (by decide)
 unfold pS
 rw [ap (by decide)]
 simp only [aa, fF, ae, aA]
 rw [e, aa, Ql _ (by rw [h]; exact aw some SS), aa]
 simp only [aY, ae, aA]
 rw [tj, show yS.oz = [yC] from rfl, show yS.rU = yW from rfl, OZ.1, aa, N0 _ (by simp [tot]), aa, tj]
 simp [Lc, kA, mM]
theorem SZ : pS yS (pB sY) 1 0 false = some ⟨1, 0, [], []⟩ := by
 unfold pS
 simp
theorem Tt : nD [yC] [] [yZ] = true := (Bx _ _ _).2 ⟨fun s a => by obtain rfl := aC.1 a; exact aC.2 rfl, by have := OZ.2; exact this.2.1⟩
theorem gY : Gd (pB sY) := by unfold Gd; decide +kernel
theorem dY : nf (pB sY) ≤ jM := by rw [oG]; decide +kernel
theorem yT (l : List iR) : AJ (mM jh l) (pB sY) = mM jh l sY := by
 unfold AJ; rw [IH, KC]; rfl
theorem Q0 : mM jh [sY] sY = true := (mO jr _ _).2 (by simp)
theorem RR : lQ ⟨1, 0, [sY], [yZ]⟩ [yC] (pB sY) yW = some 0 := by
 rw [(BK _ _ _ _ (by simp) gY dY).1]
 unfold Fb
 rw [ap (by simp)]
 simp only [yT, Q0, Tt]
 have : mM lf (kA [yZ]) ⟨sY, yW⟩ = true := (mO kO _ _).2 (by simp [kA, yZ])
 simp [this]
theorem Sv : lQ ⟨1, 0, [sY], [yZ]⟩ [] (pB sY) yW = some 50 := by
 rw [(BK _ _ _ _ (by simp) gY dY).1]
 unfold Fb
 rw [ap (by simp)]
 have : nD [] [] [yZ] = false := by rw [← cz, Bx]; simp
 simp only [yT, Q0, this]
 simp
theorem RL : lQ ⟨1, 0, [], []⟩ [yC] (pB sY) yW = some 44 := by
 rw [(BK _ _ _ _ (by simp) gY dY).1]
 unfold Fb
 rw [ap (by simp)]
 have : mM jh [] sY = false := by rw [← cz, mO jr]; simp
 simp only [yT, this]
 simp
theorem RG : lQ zO [] (pB sY) yW = some 43 := by
 rw [(BK _ _ _ _ (by simp) gY dY).1]
 unfold Fb
 rw [aq (by simp)]
theorem Pd : kp sY = true := by decide +kernel
theorem O0 : kM yW = true := by decide +kernel
theorem Te : tq [] ⟨1, 0, [sY], [yZ]⟩ = some (true, Cz ⟨1, 0, [sY], [yZ]⟩) := by
 rw [SL, aq]
 refine ⟨?_, ?_⟩
 ·unfold KI
  simp [Pd]
 ·unfold Fx
  have : vx yZ = true := by
   unfold vx
   rw [show yZ.iS = yC from rfl, Lb, show yZ.iV.jA = yW from rfl, O0, show yZ.iV.iR = yC.Head from rfl, jr.2 rfl]; rfl
  simp [this]
theorem Mb : Cz ⟨1, 0, [sY], [yZ]⟩ = 1 :: 0 :: 1 :: (ng sY ++ (1 :: (oB yC ++ (qQ yW ++ [])))) := by
 unfold Cz BJ
 simp [Bt, Bc, yZ]
theorem Sa : Mz (Cz ⟨1, 0, [sY], [yZ]⟩) = (0, ⟨1, 0, [sY], [yZ]⟩) := by
 rw [Mb]
 unfold Mz IN
 rw [yp 3 1 _ (by decide) (by decide) (by decide)]
 simp only [lu]
 rw [yp 99 0 _ (by decide) (by decide) (by decide)]
 simp only
 rw [yp 64 1 _ (by decide) (by decide) (by decide)]
 simp only
 rw [show Int.toNat 1 = 0 + 1 from rfl, tU, xo Pd]
 simp only [lu, tU]
 unfold G4
 rw [yp 256 1 _ (by decide) (by decide) (by decide)]
 simp only [lu]
 rw [show Int.toNat 1 = 0 + 1 from rfl, tU]
 unfold zz
 rw [Nj Lb]
 simp only [lu]
 rw [yP O0]
 rfl
theorem PG : wR = some true := by
 have hlen : (Cz ⟨1, 0, [sY], [yZ]⟩).length ≤ 1000000 := by
  have h1 := lB Pd
  have s := DA Lb
  have t := lo O0
  rw [Mb]
  simp [nL]
  omega
 have c : B8 (Cz ⟨1, 0, [sY], [yZ]⟩) := by
  rw [Mb]
  intro x a
  simp only [ay, aI, cj, eo] at a
  rcases a with rfl | rfl | rfl | a | rfl | a | a
  ·omega
  ·omega
  ·omega
  ·exact uV Pd x a
  ·omega
  ·exact Bi Lb x a
  ·exact wK O0 x a
 have rd := Q7 _ c hlen
 rw [Sa] at rd
 have n := Jk hlen
 obtain ⟨q, o, _, d⟩ := Sd ⟨1, 0, [sY], [yZ]⟩ ⟨1, 0, [sY], [yZ]⟩
 have d := d rfl
 subst d
 have g := RR
 have k2 := Sv
 have h := RL
 have i := RG
 have m := Te
 have j := Tw
 have k := SZ
 generalize u : Cz ⟨1, 0, [sY], [yZ]⟩ = T at *
 unfold wR
 rw [show pS (⟨(⟨(⟨#[109, 101]⟩ : ByteArray), [], []⟩ : mc), (⟨#[121, 111, 117]⟩ : ByteArray), 3, [(⟨1, (⟨(⟨#[120]⟩ : ByteArray), (⟨#[121]⟩ : ByteArray)⟩ : iR), (⟨#[121, 111, 117]⟩ : ByteArray), (⟨zS, zS⟩ : iR), (⟨zS, zS⟩ : iR), zS⟩ : iS)], [], [], []⟩ : zg) (⟨1, 0, (⟨(⟨#[120]⟩ : ByteArray), (⟨#[121]⟩ : ByteArray)⟩ : iR), []⟩ : Formula) 1 0 true = _ from j, aa]
 rw [show pS (⟨(⟨(⟨#[109, 101]⟩ : ByteArray), [], []⟩ : mc), (⟨#[121, 111, 117]⟩ : ByteArray), 3, [(⟨1, (⟨(⟨#[120]⟩ : ByteArray), (⟨#[121]⟩ : ByteArray)⟩ : iR), (⟨#[121, 111, 117]⟩ : ByteArray), (⟨zS, zS⟩ : iR), (⟨zS, zS⟩ : iR), zS⟩ : iS)], [], [], []⟩ : zg) (⟨1, 0, (⟨(⟨#[120]⟩ : ByteArray), (⟨#[121]⟩ : ByteArray)⟩ : iR), []⟩ : Formula) 1 0 false = _ from k, aa]
 rw [m, aa]
 simp only
 rw [n, aa, rd, aa]
 rw [show (⟨1, (⟨(⟨#[120]⟩ : ByteArray), (⟨#[121]⟩ : ByteArray)⟩ : iR), (⟨#[121, 111, 117]⟩ : ByteArray), (⟨zS, zS⟩ : iR), (⟨zS, zS⟩ : iR), zS⟩ : iS) = yC from rfl, show (⟨1, 0, (⟨(⟨#[120]⟩ : ByteArray), (⟨#[121]⟩ : ByteArray)⟩ : iR), []⟩ : Formula) = pB sY from rfl, show (⟨#[121, 111, 117]⟩ : ByteArray) = yW from rfl]
 simp only
 rw [g, k2, h, i, o]
 have p : wi0 .i64 (0 : Int) = 0 := by rw [kf (by omega) (by omega)]
 simp [p]
theorem DD (o : jP) (C : List iS) (f : Formula) (peer : ByteArray) (m : ∀ s ∈ o.jQ, w7 s.iS ≤ 1000000000) (p : o.jQ.length ≤ 10000000) (n : C.length ≤ 10000000) (j : ∀ c ∈ C, w7 c ≤ 1000000000) (g : Gd f) (k : nf f ≤ jM) : pu ⟨o, C, f, peer⟩ = some true := by
 unfold pu
 rw [PG]
 simp only [aa, aY, ae, aA]
 obtain ⟨r, e⟩ := P1 o m
 obtain ⟨q, h⟩ := IJ C (by omega) j
 obtain ⟨t, i⟩ := Mr f g
 rw [e, h, i]
 simp only [aa]
 have d : ∀ (a b : Bool), (if a = true then some true else some b : Option Bool) = some (a || b) := fun a b => Pf
 rw [d]
 simp only [aa]
 rw [d]
 simp only [aa]
 rw [d]
 simp only [aa]
 split
 ·rfl
 obtain ⟨i1, i2⟩ := BK o C f peer (by omega) g k
 rw [i1, i2]
 simp
end Go.Proofs.YtbnbdigcbldfhaaGreat
namespace Go.Proofs.YtbnbdigcbldfhaaGreat.Lf
open Go.ChangeShapes Go.WideShapes Go.ChangeAt Go.RowKit
open Go.Proofs.YtbnbdigcbldfhaaGreat (Rows.uptoBulk Rows.uptoBulkAll Rows.uptoSmall)
theorem NL {H : Type} (d : DataW H) : 1 ≤ Rows.uptoBulk d := by
 cases d with
 | lit l => cases l <;> simp [Rows.uptoBulk]
 | nil => simp [Rows.uptoBulk]
 | ptr d => simp [Rows.uptoBulk]
 | slice a spare => simp [Rows.uptoBulk]
 | agg parts => simp [Rows.uptoBulk]
 | iface t d => simp [Rows.uptoBulk]
 | map entries => simp [Rows.uptoBulk]
 | held h => simp [Rows.uptoBulk]
theorem length_le {H : Type} (l : List (DataW H)) : l.length ≤ Rows.uptoBulkAll l := by
 induction l with
 | nil => simp [Rows.uptoBulkAll]
 | cons x r ih => have := NL x; simp only [Rows.uptoBulkAll, aD]; omega
def Eb {α : Type} (P : Program) (t : TypeId) (enc : α → List Value) (sz : α → Nat) : Prop :=
 ∀ (H : Type) (c : TypeId × Value → H) (W : World) (base : Nat) (sp : Nat → Bool) (d : Bool) (fuel : Nat) (cs : List Value) (x : DataW H × List MemPlace),
  DataW.trod c P W base sp d fuel t cs = some x → ∃ a : α, cs = enc a ∧ sz a ≤ Rows.uptoBulk x.1
theorem Lt {P : Program} {t : TypeId} (a : P.underlying t = some .string) : Eb P t (fun s : ByteArray => [.string s]) (fun s => s.size) := by
 intro H c W base sp d fuel cs x h
 obtain ⟨s, rfl, rfl, _⟩ := DataW.trod_string a h
 refine ⟨s, rfl, ?_⟩
 have e : s.data.toList.length = s.size := by rw [bL]; rfl
 simp [Rows.uptoBulk, e]
theorem KL {P : Program} {t : TypeId} {k : IntKind} (a : P.underlying t = some (.int k)) : Eb P t (fun n : Int => [.int k n]) (fun _ => 0) := by
 intro H c W base sp d fuel cs x h
 obtain ⟨n, rfl, rfl, _⟩ := DataW.trod_int a h
 exact ⟨n, rfl, fX _⟩
theorem P4 {α : Type} {n : Nat} {p : Nat → α → Prop} (h : ∀ i, i < n → ∃ x, p i x) : ∃ l : List α, l.length = n ∧ ∀ i x, l[i]? = some x → p i x := by
 induction n with
 | zero => exact ⟨[], rfl, by simp⟩
 | succ n ih =>
  obtain ⟨l, h1, d⟩ := ih fun i c => h i (by omega)
  obtain ⟨x, j⟩ := h n (by omega)
  refine ⟨l ++ [x], by simp [h1], fun i y a => ?_⟩
  by_cases c : i < l.length
  ·rw [List.getElem?_append_left c] at a
   exact d i y a
  ·rw [ee (by omega)] at a
   have : i - l.length = 0 := by
    cases g : i - l.length with
    | zero => rfl
    | succ m => rw [g] at a; simp at a
   rw [this] at a
   have e : i = n := by omega
   simp at a
   subst a; rw [e]; exact j
theorem I0 {W : World} {a : Addr} {v : Value} (h : W.cell? a = some v) : ∃ cs T fr, W.heap[a.block]? = some (.cells cs T fr) ∧ a.spot = none ∧ cs[a.off]? = some v := by
 unfold World.cell? at h
 split at h
 ·rename_i c T fr g
  by_cases d : a.spot.isSome
  ·simp [d] at h
  ·simp only [d] at h
   exact ⟨c, T, fr, g, by simpa using d, by simpa using h⟩
 ·cases h
theorem Ex.below {dd : Bool} {W W' : World} (h : Ex dd W W') : Below W.heap.size W W' := ⟨h.os, h.tape, h.output, h.size, h.kN⟩
theorem CT {H : Type} {m : TypeId × Value → H} {P : Program} (o : laidOutB P = true) {W W' : World} {c : Nat → Bool} :
  ∀ {i : List TypeId} {vs : List Value} {j : List (DataW H)} {g : List MemPlace}, (∀ t ∈ i, P.readableRec t = true ∧ t < P.types.size) →
   DataW.TrodAll m P W 0 (fun _ => true) true i vs j g → (∀ p ∈ g, W.sameAt W' p) → (∀ p ∈ g, c p.block = true) → DataW.TrodAll m P W' 0 c true i vs j g
 | [], _, _, _, _, h, _, _ => by
  obtain ⟨rfl, rfl, rfl⟩ := trodAll_nil h
  exact trodAll_mk0
 | t :: i, _, _, _, k, h, h1, n => by
  obtain ⟨v, vs, d, j, p, q, rfl, rfl, rfl, s, w⟩ := trodAll_cons h
  exact trodAll_cons_mk (WideElems.Trod_stays o (k t (by simp)).1 (k t (by simp)).2 s (fun x a => h1 x (by simp [a])) (fun x a => n x (by simp [a])))
   (CT o (fun u hu => k u (by simp [hu])) w (fun x a => h1 x (by simp [a])) (fun x a => n x (by simp [a])))
theorem Lq {H : Type} {enc : TypeId × Value → H} {P : Program} (M : laidOutB P = true) {f : Func} {s : ChangeSpec} {apart fresh handsOn again : Bool} {W W' : World} {args : Array Value} {v : Value} {a gs : List (DataW H)} {before : List MemPlace} (R : ∀ t ∈ f.params.toList, P.readableRec t = true ∧ t < P.types.size) (n : s.vars = []) (u : DataW.Whole enc P f.params.toList s.vars apart W args.toList a gs before) {dd : Bool} (E : Ex dd W W') (c : ∀ (b : Nat) (sp : Nat → Bool) (L : Bool), DataW.TrodAll enc P W' b sp L f.resultTypes.toList (v.resultList f.resultTypes.size) (s.fn H (a ++ gs)).results []) (d : (s.fn H (a ++ gs)).args = a) (h : (s.fn H (a ++ gs)).vars = []) (A : ∀ (j : Nat) (t : TypeId) (r : Value), f.resultTypes[j]? = some t → (v.resultList f.resultTypes.size)[j]? = some r → Value.okWide P W' .any 0 t r) :
  s.post enc P f apart fresh handsOn again W args v W' := by
 have g := u.lt
 have hold : ∀ p ∈ before, (fun b => decide (b < W.heap.size)) p.block = true := fun p hp => by simpa using g p hp
 have z := Ex.below E
 have y := u
 obtain ⟨p, q, I, G, k, T, Q⟩ := u
 rw [n] at G
 obtain ⟨rfl, rfl⟩ := trodVars_none G
 rw [bu] at k
 subst k
 have m : ∀ sp : Nat → Bool, (∀ p ∈ before, sp p.block = true) → DataW.TrodAll enc P W' 0 sp true f.params.toList args.toList (s.fn H (a ++ [])).args before := fun sp D => by
  rw [d]
  exact CT M R I (fun x E => z.same (g x E)) D
 have o : ∀ sp : Nat → Bool, DataW.TrodVars enc P W' sp s.vars (s.fn H (a ++ [])).vars [] := fun sp => by
  rw [h, n]; rfl
 refine ⟨a, [], before, [], before, [], y, c _ _ _, m _ hold, o _, World.keptBut_mono (fun p hp => ⟨hp, ?_⟩) (z.frame (· ∈ before)), fun _ => ?_⟩
 ·exact Or.inr (Or.inl hp)
 ·refine ⟨A, _, _, ([] ++ before) ++ [], ⟨[] ++ before, [], trodAll_append (m _ (fun _ _ => rfl)) (c _ _ _), o _, rfl, ?_, ?_⟩, ?_⟩
  ·intro b off hp
   have i : MemPlace.cell b off ∈ before := by simpa using hp
   rw [World.frozen?_of_block (w := W) (z.block b (g _ i))]
   exact T b off i
  ·intro J
   simpa using Q J
  ·intro p hp _
   simpa using hp
end Go.Proofs.YtbnbdigcbldfhaaGreat.Lf
namespace Go.Proofs.YtbnbdigcbldfhaaGreat.Lf
open Go.ChangeShapes Go.WideShapes Go.ChangeAt Go.RowKit
open Go.Proofs.YtbnbdigcbldfhaaGreat (Rows.uptoBulk Rows.uptoBulkAll Rows.uptoSmall)
def OU {α : Type} (P : Program) (t : TypeId) (R : py α) (sz : α → Nat) : Prop :=
 ∀ (H : Type) (c : TypeId × Value → H) (W : World) (base : Nat) (sp : Nat → Bool) (d : Bool) (fuel : Nat) (cs : List Value) (x : DataW H × List MemPlace),
  DataW.trod c P W base sp d fuel t cs = some x → ∃ a : α, R (hp W) cs a ∧ sz a ≤ Rows.uptoBulk x.1
theorem Eb.rel {α : Type} {P : Program} {t : TypeId} {enc : α → List Value} {sz : α → Nat} (h : Eb P t enc sz) : OU P t (Pl enc) sz := fun H a W base sp c fuel cs x d => h H a W base sp c fuel cs x d
end Go.Proofs.YtbnbdigcbldfhaaGreat.Lf
