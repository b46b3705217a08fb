/- a part of a proof of StrandSums -/
import Derived.Test.YtjjjihkifgdhgaaGreatS4Mi
import Derived.Test.YtjjjihkifgdhgaaGreatRtVi
set_option linter.all false
namespace Go.Proofs.YtjjjihkifgdhgaaGreat
open Go.IntKind renaming wrap → wi0
open Go.RowKit
section
variable {α : Type}
structure SWO (lt : α → α → Bool) : Prop where
 OQ : ∀ x, lt x x = false
 tr : ∀ x y z, lt x y = true → lt y z = true → lt x z = true
 Mv : ∀ x y z, lt x z = true → lt x y = true ∨ lt y z = true
variable {lt : α → α → Bool}
theorem SWO.asym (h : SWO lt) {x y : α} (a : lt x y = true) : lt y x = false := by
 cases e : lt y x
 ·rfl
 ·have := h.tr _ _ _ a e; rw [h.OQ] at this; cases this
def tl (lt : α → α → Bool) (p q : α × Nat) : Prop := lt p.1 q.1 = true ∨ (lt q.1 p.1 = false ∧ p.2 < q.2)
theorem Cp (h : SWO lt) {p q r : α × Nat} (a : tl lt p q) (b : tl lt q r) : tl lt p r := by
 unfold tl at *
 rcases a with a | ⟨a, a2⟩ <;> rcases b with b | ⟨b, d⟩
 ·exact .inl (h.tr _ _ _ a b)
 ·rcases h.Mv _ r.1 _ a with c | c
  ·exact .inl c
  ·rw [b] at c; cases c
 ·rcases h.Mv _ p.1 _ b with c | c
  ·rw [a] at c; cases c
  ·exact .inl c
 ·refine .inr ⟨?_, by omega⟩
  cases e : lt r.1 p.1
  ·rfl
  ·rcases h.Mv _ q.1 _ e with c | c
   ·rw [b] at c; cases c
   ·rw [a] at c; cases c
theorem Ps (h : SWO lt) {p q : α × Nat} (a : tl lt p q) (b : tl lt q p) : False := by
 have c := Cp h a b
 rcases c with c | ⟨_, c⟩
 ·rw [h.OQ] at c; cases c
 ·omega
abbrev nS (lt : α → α → Bool) (t : List (α × Nat)) : Prop := t.Pairwise (tl lt)
theorem Gt (h : SWO lt) : ∀ {t u : List (α × Nat)}, nS lt t → nS lt u → t.Perm u → t = u
 | [], u, _, _, hp => by rw [List.nil_perm] at hp; exact hp.symm
 | p :: t, [], _, _, hp => by simp at hp
 | p :: t, q :: u, h1, b, hp => by
  have e : p = q := by
   rcases aK.1 (hp.mem_iff.1 (.head _)) with e | d
   ·exact e
   ·rcases aK.1 (hp.mem_iff.2 (.head _)) with e | a
    ·exact e.symm
    ·exact (Ps h ((cI.1 h1).1 _ a) ((cI.1 b).1 _ d)).elim
  subst e
  rw [Gt h (cI.1 h1).2 (cI.1 b).2 (List.Perm.cons_inv hp)]
def AJ (lt : α → α → Bool) (l : List α) (k : α) : List α := l.filter (fun x => !lt k x) ++ k :: l.filter (fun x => lt k x)
def Jy (lt : α → α → Bool) (l : List α) : List α := l.foldl (AJ lt) []
def Fg (lt : α → α → Bool) (t : List (α × Nat)) (k : α × Nat) : List (α × Nat) := t.filter (fun x => !lt k.1 x.1) ++ k :: t.filter (fun x => lt k.1 x.1)
theorem N4 (t : List (α × Nat)) (k : α × Nat) : (Fg lt t k).map (·.1) = AJ lt (t.map (·.1)) k.1 := by
 simp [Fg, AJ, List.filter_map, fF]
theorem Ny (t : List (α × Nat)) (k : α × Nat) : (Fg lt t k).Perm (t ++ [k]) := by
 unfold Fg
 refine List.perm_middle.trans ?_
 refine (List.Perm.cons _ ?_).trans (fL k t).symm
 have := List.filter_append_perm (fun x : α × Nat => !lt k.1 x.1) t
 simpa using this
theorem OL (h : SWO lt) {t : List (α × Nat)} {k : α × Nat} (i : nS lt t) (hk : ∀ x ∈ t, x.2 < k.2) : nS lt (Fg lt t k) := by
 unfold Fg nS
 rw [cO, cI]
 refine ⟨i.filter _, ⟨fun x b => ?_, i.filter _⟩, fun x b y d => ?_⟩
 ·exact .inl (cK.1 b).2
 ·obtain ⟨h1, g⟩ := cK.1 b
  simp only [eX, ] at g
  have a : tl lt x k := .inr ⟨g, hk x h1⟩
  rcases aK.1 d with rfl | d
  ·exact a
  ·exact Cp h a (.inl (cK.1 d).2)
theorem RX (h : SWO lt) (l : List α) : ∃ t, nS lt t ∧ t.Perm l.zipIdx ∧ t.map (·.1) = Jy lt l := by
 suffices H : ∀ (l r : List α) (t : List (α × Nat)), nS lt t → t.Perm r.zipIdx → ∃ u, nS lt u ∧ u.Perm (r ++ l).zipIdx ∧ u.map (·.1) = l.foldl (AJ lt) (t.map (·.1)) by
  obtain ⟨u, h1, d, i⟩ := H l [] [] .nil (by simp)
  exact ⟨u, h1, by simpa using d, i⟩
 intro l
 induction l with
 | nil => intro r t h1 d; exact ⟨t, h1, by simpa using d, rfl⟩
 | cons k l ih =>
  intro r t h1 d
  obtain ⟨u, g, a2, a3⟩ := ih (r ++ [k]) (Fg lt t (k, r.length)) (OL h h1 (fun x j => by
   obtain ⟨a, b⟩ := x
   have := List.snd_lt_of_mem_zipIdx (d.mem_iff.1 j)
   simpa using this)) ((Ny t _).trans (by rw [List.zipIdx_append]; simpa using d.append_right _))
  refine ⟨u, g, by simpa using a2, ?_⟩
  rw [a3, N4]
  rfl
theorem P7 (h : SWO lt) {l : List α} {t : List (α × Nat)} (h1 : nS lt t) (b : t.Perm l.zipIdx) : t.map (·.1) = Jy lt l := by
 obtain ⟨u, a, a2, a3⟩ := RX h l
 rw [← a3, Gt h h1 a (b.trans a2.symm)]
end
section
variable {α : Type} {lt : α → α → Bool}
abbrev Lk (lt : α → α → Bool) (A B : List (α × Nat)) : Prop := ∀ A' a b B', A = A' ++ [a] → B = b :: B' → tl lt a b
theorem zh (h : SWO lt) {A B : List (α × Nat)} (k : nS lt A) (m : nS lt B) (l : Lk lt A B) : ∀ a ∈ A, ∀ b ∈ B, tl lt a b := by
 intro a ha b d
 rcases cY A with rfl | ⟨A', z, rfl⟩
 ·cases ha
 cases B with
 | nil => cases d
 | cons y B' =>
  have h1 : tl lt z y := l A' z y B' (by simp) rfl
  have g : a = z ∨ tl lt a z := by
   simp only [dG, aN, bM] at ha
   rcases ha with ha | ha
   ·refine .inr ?_
    simp only [dG, nS, cO] at k
    exact k.2.2 a ha z (by simp)
   ·exact .inl ha
  have i : b = y ∨ tl lt y b := by
   rcases aK.1 d with d | d
   ·exact .inl d
   ·exact .inr ((cI.1 m).1 b d)
  have j : tl lt a y := by
   rcases g with rfl | g
   ·exact h1
   ·exact Cp h g h1
  rcases i with rfl | i
  ·exact j
  ·exact Cp h j i
theorem IE (h : SWO lt) {A B : List (α × Nat)} (a : nS lt A) (b : nS lt B) (l : Lk lt A B) : nS lt (A ++ B) :=
 cO.2 ⟨a, b, zh h a b l⟩
theorem nS.left {A B : List (α × Nat)} (h : nS lt (A ++ B)) : nS lt A := (cO.1 h).1
theorem nS.right {A B : List (α × Nat)} (h : nS lt (A ++ B)) : nS lt B := (cO.1 h).2.1
theorem nS.two {A B : List (α × Nat)} (h : nS lt (A ++ B)) : ∀ a ∈ A, ∀ b ∈ B, tl lt a b := (cO.1 h).2.2
theorem G9 (h : SWO lt) {A B : List (α × Nat)} {x : α × Nat} (g : nS lt (A ++ B)) (j : Lk lt A [x]) (k : Lk lt [x] B) : nS lt (A ++ x :: B) := by
 have h1 := zh h g.left (gq _ x) j
 have i := zh h (gq _ x) g.right k
 refine cO.2 ⟨g.left, cI.2 ⟨fun b d => i x (by simp) b d, g.right⟩, fun a ha b d => ?_⟩
 rcases aK.1 d with rfl | d
 ·exact h1 a ha _ (by simp)
 ·exact g.two a ha b d
theorem Qa (h : SWO lt) {A1 A2 B1 B2 C1 C2 : List (α × Nat)} (g : nS lt (A1 ++ A2)) (i : nS lt (B1 ++ B2)) (k : Lk lt A1 B2) (l : Lk lt B1 A2) (m : C1.Perm (A1 ++ B1)) (n : C2.Perm (A2 ++ B2)) (h1 : nS lt C1) (j : nS lt C2) : nS lt (C1 ++ C2) := by
 have x1 := zh h g.left i.right k
 have x2 := zh h i.left g.right l
 refine cO.2 ⟨h1, j, fun a ha b d => ?_⟩
 rcases aN.1 (m.mem_iff.1 ha) with ha | ha <;> rcases aN.1 (n.mem_iff.1 d) with d | d
 ·exact g.two a ha b d
 ·exact x1 a ha b d
 ·exact x2 a ha b d
 ·exact i.two a ha b d
end
section
variable {α : Type}
theorem Es (p q : List α) (x y : α) : (p ++ x :: q).set p.length y = p ++ y :: q := by simp
theorem JD (p q : List α) (x y : α) (n : Nat) (h : n = p.length) : (p ++ x :: q).set n y = p ++ y :: q := by subst h; simp
theorem Fb (p m q : List α) (x y : α) : ((p ++ x :: (m ++ y :: q)).set p.length y).set (p.length + 1 + m.length) x = p ++ y :: (m ++ x :: q) := by
 rw [Es]
 have : p ++ y :: (m ++ y :: q) = (p ++ y :: m) ++ y :: q := by simp
 rw [this, show p.length + 1 + m.length = (p ++ y :: m).length by simp; omega, Es]
 simp
theorem Mp (p m q : List α) (x y : α) : ((p ++ x :: (m ++ y :: q)).set (p.length + 1 + m.length) x).set p.length y = p ++ y :: (m ++ x :: q) := by
 rw [List.set_comm _ _ (by omega), Fb]
theorem vM {l : List α} {n : Nat} (h : n ≤ l.length) : ∃ a b, l = a ++ b ∧ a.length = n := ⟨l.take n, l.drop n, (gE n l).symm, by simp [h]⟩
end
theorem Df {c x : Bool} : (if c = true then some x else some false : Option Bool) = some (c && x) := by cases c <;> rfl
theorem QW {c x : Bool} : (if c = true then some true else some x : Option Bool) = some (c || x) := by cases c <;> rfl
theorem nH {α : Type} (x : Option α) : (x.bind fun y => some y) = x := by cases x <;> rfl
theorem jT {x : Int} (a : -9223372036854775808 ≤ x) (h1 : x ≤ 9223372036854775807) : wi0 .i64 x = x := IntWalk.i64_in _ (by omega)
theorem mw {α : Type} (A : List α) (x : α) (B : List α) (i : Int) (h : i = (A.length : Int)) : kV (A ++ x :: B) i = some x := by
 subst h; rw [Eu]; simp
theorem lj : jP = 18446744073709551615 + 1 := by rw [wu]
def CG {α : Type} (f1 : α → Option Bool) (z : α) : Nat → List α → Int → Int → Option (List α)
 | 0, _, _, _ => none
 | n + 1, l, i, j => if decide (j < (l.length : Int)) then
   ((kV l j).bind fun x => (f1 x).bind fun r => if (!r) then (kV l i).bind fun _ => some (l.set (Int.toNat i) x, wi0 .i64 (i + 1)) else some (l, i) : Option (List α × Int)).bind fun (b, a) => CG f1 z n b a (wi0 .i64 (j + 1))
  else (qR (decide (0 ≤ i) && decide (i ≤ (l.length : Int)))).bind fun _ => (qR (decide (0 ≤ i) && decide (i ≤ ((oq l (Int.toNat i) z).length : Int)))).bind fun _ => some ((oq l (Int.toNat i) z).take (Int.toNat i))
theorem DB {a b : Int} (d : 0 ≤ a) (h1 : a ≤ b) : qR (decide (0 ≤ a) && decide (a ≤ b)) = some () := by simp [qR, d, h1]
theorem Jg {α : Type} (f1 : α → Option Bool) (p : α → Bool) (z : α) : ∀ (rest out mid : List α) (n : Nat), rest.length < n → (out ++ mid ++ rest).length < 4611686018427387904 → mid ≠ [] → (∀ x ∈ rest, f1 x = some (p x)) →
  CG f1 z n (out ++ mid ++ rest) (out.length : Int) ((out.length + mid.length : Nat) : Int) = some (out ++ rest.filter fun x => !p x)
 | [], out, mid, 0, h, _, _, _ => by simp at h
 | [], out, mid, n + 1, _, b, hm, _ => by
  rw [CG, aY (by simp)]
  have h1 : out.length ≤ (out ++ mid ++ []).length := by simp
  rw [DB (by omega) (by omega)]
  simp only [aA]
  rw [DB (by omega) (by rw [vd _ _ _ (by simpa using h1)]; omega)]
  simp only [aA, dy]
  rw [E6 _ _ _ h1]
  simp
 | x :: rest, out, mid, 0, h, _, _, _ => by simp at h
 | x :: rest, out, mid, n + 1, h, b, hm, d => by
  have hlen : (out ++ mid ++ x :: rest).length = out.length + mid.length + rest.length + 1 := by simp; omega
  rw [hlen] at b
  rw [CG, aZ (by rw [hlen]; simp; omega)]
  rw [mw (out ++ mid) x rest _ (by simp)]
  simp only [aA, d x (by simp)]
  rw [jT (x := ((out.length + mid.length : Nat) : Int) + 1) (by omega) (by omega)]
  have ih := Jg f1 p z rest
  cases hp : p x with
  | true =>
   simp only [cH, aB, aH, aA]
   have := ih out (mid ++ [x]) n (by simp at h; omega) (by simp; omega) (by simp) (fun y g => d y (by simp [g]))
   simp only [aG, bA, aP, aD, aI, bP] at this ⊢
   rw [show ((out.length + mid.length : Nat) : Int) + 1 = ((out.length + (mid.length + (0 + 1)) : Nat) : Int) by omega, this]
   simp [hp]
  | false =>
   obtain ⟨m, a, rfl⟩ : ∃ m a, mid = m :: a := by cases mid with
    | nil => exact absurd rfl hm
    | cons m a => exact ⟨m, a, rfl⟩
   simp only [dq, aM]
   rw [aG out (m :: a) (x :: rest), bA]
   rw [mw out m (a ++ x :: rest) _ rfl]
   simp only [aA]
   rw [jT (x := (out.length : Int) + 1) (by omega) (by simp at b; omega)]
   have := ih (out ++ [x]) (a ++ [x]) n (by simp at h; omega) (by simp at b ⊢; omega) (by simp) (fun y g => d y (by simp [g]))
   simp only [aG, bA, aP, aD, aI, bP] at this
   have i : (out ++ m :: (a ++ x :: rest)).set (Int.toNat (out.length : Int)) x = out ++ x :: (a ++ x :: rest) := by
    rw [dy, List.set_append_right _ _ (aU _)]; simp
   rw [i]
   simp only [aI] at b ⊢
   rw [show (out.length : Int) + 1 = ((out.length + (0 + 1) : Nat) : Int) by omega, show ((out.length + (a.length + 1) : Nat) : Int) + 1 = ((out.length + (0 + 1) + (a.length + (0 + 1)) : Nat) : Int) by omega, this]
   simp [hp]
def yB {α : Type} (f1 : α → Option Bool) : List α → Nat → Option Int
 | [], _ => some (-1)
 | x :: xs, i => (f1 x).bind fun r => if r then some (i : Int) else yB f1 xs (i + 1)
theorem CE {α : Type} (f1 : α → Option Bool) (p : α → Bool) : ∀ (l : List α) (i : Nat), (∀ x ∈ l, f1 x = some (p x)) →
  (yB f1 l i = some (-1) ∧ ∀ x ∈ l, p x = false) ∨ ∃ A x B, l = A ++ x :: B ∧ (∀ y ∈ A, p y = false) ∧ p x = true ∧ yB f1 l i = some ((i + A.length : Nat) : Int)
 | [], i, _ => .inl ⟨rfl, by simp⟩
 | x :: l, i, h => by
  rw [yB, h x (by simp)]
  simp only [aA]
  cases hp : p x with
  | true => exact .inr ⟨[], x, l, rfl, by simp, hp, by simp⟩
  | false =>
   simp only [aB, aH]
   rcases CE f1 p l (i + 1) (fun y a => h y (by simp [a])) with ⟨h1, b⟩ | ⟨A, y, B, rfl, h1, b, g⟩
   ·exact .inl ⟨h1, by intro y a; rcases aK.1 a with rfl | a; exact hp; exact b y a⟩
   ·refine .inr ⟨x :: A, y, B, rfl, ?_, b, ?_⟩
    ·intro z d; rcases aK.1 d with rfl | d
     ·exact hp
     ·exact h1 z d
    ·rw [g]; simp; omega
def Ha {α : Type} (f1 : α → Option Bool) (z : α) (l : List α) : Option (List α) :=
 (yB f1 l 0).bind fun a => if (a == (-1)) then some l else CG f1 z jP l a (wi0 .i64 (a + 1))
theorem Fh {α : Type} (f1 : α → Option Bool) (p : α → Bool) (z : α) (l : List α) (d : l.length < 4611686018427387904) (h : ∀ x ∈ l, f1 x = some (p x)) : Ha f1 z l = some (l.filter fun x => !p x) := by
 unfold Ha
 rcases CE f1 p l 0 h with ⟨h1, b⟩ | ⟨A, x, B, rfl, h1, b, g⟩
 ·rw [h1]
  simp only [aA, aS, aM]
  rw [fU.2 (fun y a => by simp [b y a])]
 ·rw [g]
  simp only [aA, dX]
  rw [aY (by simp), jT (by omega) (by simp at d; omega)]
  have := Jg f1 p z B A [x] jP (by rw [wu]; simp at d; omega) (by simpa using d) (by simp) (fun y a => h y (by simp [a]))
  simp only [aG, bA, aP, aI, bP] at this
  rw [show (A.length : Int) + 1 = ((A.length + (0 + 1) : Nat) : Int) by omega, this]
  have i : A.filter (fun x => !p x) = A := fU.2 (fun y a => by simp [h1 y a])
  rw [iw, i]
  simp [b]
def mC {α : Type} (eq : α → α → Bool) : α → List α → List α
 | _, [] => []
 | p, y :: ys => if eq y p then mC eq y ys else y :: mC eq y ys
def dd {α : Type} (eq : α → α → Bool) : List α → List α
 | [] => []
 | x :: xs => x :: mC eq x xs
def AN {α : Type} (eq : α → α → Bool) (i : Int) : Nat → List α → Int → Int → Option (List α × Int)
 | 0, _, _, _ => none
 | n + 1, l, k, j => if decide (j < ((l.length - Int.toNat i : Nat) : Int)) then
   ((kV (l.drop (Int.toNat i)) j).bind fun x => (kV (l.drop (Int.toNat i)) (wi0 .i64 (j - 1))).bind fun y => if !(eq x y) then (kV (l.drop (Int.toNat i)) j).bind fun z => (kV l k).bind fun _ => some (l.set (Int.toNat k) z, wi0 .i64 (k + 1)) else some (l, k) : Option (List α × Int)).bind fun (a, k') => AN eq i n a k' (wi0 .i64 (j + 1))
  else some (l, k)
def Bp {α : Type} (eq : α → α → Bool) (z : α) (l : List α) : Nat → Int → Option (List α)
 | 0, _ => none
 | n + 1, i => if decide (i < (l.length : Int)) then (kV l i).bind fun x => (kV l (wi0 .i64 (i - 1))).bind fun y => if eq x y then
    (qR (decide (0 ≤ i) && decide (i ≤ (l.length : Int)))).bind fun _ => (AN eq i jP l i 1).bind fun (a, k) => (qR (decide (0 ≤ k) && decide (k ≤ (a.length : Int)))).bind fun _ => (qR (decide (0 ≤ k) && decide (k ≤ ((oq a (Int.toNat k) z).length : Int)))).bind fun _ => some ((oq a (Int.toNat k) z).take (Int.toNat k))
   else Bp eq z l n (wi0 .i64 (i + 1))
  else some l
def I5 {α : Type} (eq : α → α → Bool) (z : α) (l : List α) : Option (List α) := if decide ((l.length : Int) < 2) then some l else Bp eq z l jP 1
theorem Iy {α : Type} (l : List α) (i : Nat) (j : Int) (a : 0 ≤ j) : kV (l.drop i) j = kV l ((i : Int) + j) := by
 obtain ⟨m, rfl⟩ : ∃ m : Nat, j = m := ⟨j.toNat, by omega⟩
 rw [show (i : Int) + (m : Int) = ((i + m : Nat) : Int) by omega, Eu, Eu, dJ]
theorem FE {α : Type} (eq : α → α → Bool) (i : Nat) : ∀ (rest out mid : List α) (p : α) (n : Nat), rest.length < n → (out ++ (mid ++ [p]) ++ rest).length < 4611686018427387904 → 1 ≤ i → i ≤ out.length →
  ∃ b, AN eq (i : Int) n (out ++ (mid ++ [p]) ++ rest) (out.length : Int) ((out.length + mid.length + 1 - i : Nat) : Int) = some (b, ((out ++ mC eq p rest).length : Int)) ∧ b.take (out ++ mC eq p rest).length = out ++ mC eq p rest ∧ (out ++ mC eq p rest).length ≤ b.length
 | [], out, mid, p, 0, h, _, _, _ => by simp at h
 | [], out, mid, p, n + 1, h, l, h1, k => by
  rw [AN, aY (by simp; omega)]
  exact ⟨out ++ (mid ++ [p]) ++ [], by simp [mC], by simp [mC], by simp [mC]⟩
 | x :: rest, out, mid, p, 0, h, _, _, _ => by simp at h
 | x :: rest, out, mid, p, n + 1, h, l, h1, k => by
  have hlen : (out ++ (mid ++ [p]) ++ x :: rest).length = out.length + mid.length + rest.length + 2 := by simp; omega
  rw [hlen] at l
  rw [AN, aZ (by rw [hlen]; simp; omega)]
  rw [dy, Iy _ _ _ (by omega), mw (out ++ (mid ++ [p])) x rest _ (by simp; omega)]
  simp only [aA]
  rw [jT (x := ((out.length + mid.length + 1 - i : Nat) : Int) - 1) (by omega) (by omega), Iy _ _ _ (by omega)]
  rw [show out ++ (mid ++ [p]) ++ x :: rest = (out ++ mid) ++ p :: (x :: rest) by simp]
  rw [mw (out ++ mid) p (x :: rest) _ (by simp; omega)]
  simp only [aA]
  rw [jT (x := ((out.length + mid.length + 1 - i : Nat) : Int) + 1) (by omega) (by omega)]
  cases hp : eq x p with
  | true =>
   simp only [cH, aB, aH, aA]
   obtain ⟨b, d, g, j⟩ := FE eq i rest out (mid ++ [p]) x n (by simp at h; omega) (by simp; omega) h1 k
   refine ⟨b, ?_, by rw [mC, hp]; exact g, by rw [mC, hp]; exact j⟩
   rw [mC, hp, aZ rfl, ← d]
   congr 1
   ·simp
   ·simp; omega
  | false =>
   simp only [dq, aM]
   obtain ⟨m, a, hm⟩ : ∃ m a, mid ++ [p] = m :: a := by cases mid with
    | nil => exact ⟨p, [], rfl⟩
    | cons m a => exact ⟨m, a ++ [p], rfl⟩
   have r : a.length = mid.length := by have := bN List.length hm; simp at this; omega
   rw [show (out ++ mid) ++ p :: (x :: rest) = out ++ m :: (a ++ x :: rest) by rw [← bA, ← hm]; simp]
   rw [mw out m (a ++ x :: rest) _ rfl]
   simp only [aA]
   rw [jT (x := (out.length : Int) + 1) (by omega) (by omega)]
   have s : (out ++ m :: (a ++ x :: rest)).set (Int.toNat (out.length : Int)) x = (out ++ [x]) ++ (a ++ [x]) ++ rest := by
    rw [dy, List.set_append_right _ _ (aU _)]; simp
   rw [s]
   obtain ⟨b, d, g, j⟩ := FE eq i rest (out ++ [x]) a x n (by simp at h; omega) (by simp; omega) h1 (by simp; omega)
   refine ⟨b, ?_, ?_, ?_⟩
   ·rw [mC, hp, aY (by decide)]
    have q : ((out ++ x :: mC eq x rest).length : Int) = ((out ++ [x] ++ mC eq x rest).length : Int) := by simp
    rw [q, ← d]
    congr 1
    ·simp
    ·simp; omega
   ·rw [mC, hp, aY (by decide)]; simpa using g
   ·rw [mC, hp, aY (by decide)]; simpa using j
theorem JA {α : Type} (eq : α → α → Bool) (z : α) : ∀ (rest pre : List α) (p : α) (n : Nat), rest.length < n → (pre ++ p :: rest).length < 4611686018427387904 →
  Bp eq z (pre ++ p :: rest) n ((pre.length + 1 : Nat) : Int) = some (pre ++ p :: mC eq p rest)
 | [], pre, p, 0, h, _ => by simp at h
 | [], pre, p, n + 1, h, i => by rw [Bp, aY (by simp)]; simp [mC]
 | x :: rest, pre, p, 0, h, _ => by simp at h
 | x :: rest, pre, p, n + 1, h, i => by
  have hlen : (pre ++ p :: x :: rest).length = pre.length + rest.length + 2 := by simp; omega
  rw [hlen] at i
  rw [Bp, aZ (by rw [hlen]; simp; omega)]
  rw [show pre ++ p :: x :: rest = (pre ++ [p]) ++ x :: rest by simp, mw (pre ++ [p]) x rest _ (by simp)]
  simp only [aA]
  rw [jT (x := ((pre.length + 1 : Nat) : Int) - 1) (by omega) (by omega)]
  rw [show (pre ++ [p]) ++ x :: rest = pre ++ p :: (x :: rest) by simp, mw pre p (x :: rest) _ (by omega)]
  simp only [aA]
  cases hp : eq x p with
  | true =>
   simp only [aM]
   rw [DB (by omega) (by rw [hlen]; omega)]
   simp only [aA]
   obtain ⟨j, a, g, d⟩ := FE eq (pre.length + 1) rest (pre ++ [p]) [] x jP (by rw [wu]; omega) (by simp; omega) (by omega) (by simp)
   simp only [aG, bA, aP, aD, aI, bP] at a g d
   rw [show (pre.length + (0 + 1) + 0 + 1 - (pre.length + 1) : Nat) = 1 by omega] at a
   rw [show ((pre.length + 1 : Nat) : Int) = ((pre.length + (0 + 1) : Nat) : Int) by omega] at *
   have b : AN eq ((pre.length + (0 + 1) : Nat) : Int) jP (pre ++ p :: x :: rest) ((pre.length + (0 + 1) : Nat) : Int) 1 = _ := a
   rw [b]
   simp only [aA]
   rw [DB (by omega) (by omega)]
   simp only [aA, dy]
   rw [DB (by omega) (by rw [vd _ _ _ d]; omega)]
   simp only [aA]
   rw [E6 _ _ _ d, g, mC, hp]
   simp
  | false =>
   simp only [aB, aH]
   rw [jT (x := ((pre.length + 1 : Nat) : Int) + 1) (by omega) (by omega)]
   have := JA eq z rest (pre ++ [p]) x n (by simp at h; omega) (by simp; omega)
   simp only [aG, bA, aP, aD, aI, bP] at this
   rw [show ((pre.length + 1 : Nat) : Int) + 1 = ((pre.length + (0 + 1) + 1 : Nat) : Int) by omega, this, mC, hp]
   simp
theorem JJ {α : Type} (eq : α → α → Bool) (z : α) (l : List α) (a : l.length < 4611686018427387904) : I5 eq z l = some (dd eq l) := by
 unfold I5
 cases l with
 | nil => rfl
 | cons x xs =>
  cases xs with
  | nil => simp [dd, mC]
  | cons y ys =>
   rw [aY (by simp; omega)]
   have := JA eq z (y :: ys) [] x jP (by rw [wu]; simp at a ⊢; omega) (by simpa using a)
   simpa [dd] using this
structure zA {α : Type} (lt : α → α → Prop) (P : α → Prop) : Prop where
 irrefl : ∀ x, P x → ¬ lt x x
 trans : ∀ x y z, P x → P y → P z → lt x y → lt y z → lt x z
 total : ∀ x y, P x → P y → lt x y ∨ x = y ∨ lt y x
def vG {α : Type} (lt : α → α → Prop) (P : α → Prop) (l out : List α) : Prop := out.Pairwise lt ∧ ∀ x, x ∈ out ↔ x ∈ l ∧ P x
theorem vG.unique {α : Type} {lt : α → α → Prop} {P : α → Prop} (H : zA lt P) : ∀ {l a b : List α}, vG lt P l a → vG lt P l b → a = b := by
 have key : ∀ a b : List α, (∀ x ∈ a, P x) → a.Pairwise lt → b.Pairwise lt → (∀ x, x ∈ a ↔ x ∈ b) → a = b := by
  intro a
  induction a with
  | nil => intro b _ _ _ hm; cases b with
   | nil => rfl
   | cons y ys => exact absurd ((hm y).2 (by simp)) (by simp)
  | cons x xs ih =>
   intro b n ha k hm
   cases b with
   | nil => exact absurd ((hm x).1 (by simp)) (by simp)
   | cons y ys =>
    have p : P y := n y ((hm y).2 (by simp))
    have d : P x := n x (by simp)
    have g := cI.1 ha
    have i := cI.1 k
    have q : x = y := by
     rcases aK.1 ((hm x).1 (by simp)) with h | h
     ·exact h
     ·rcases aK.1 ((hm y).2 (by simp)) with m | m
      ·exact m.symm
      ·exact absurd (H.trans x y x d p d (g.1 y m) (i.1 x h)) (H.irrefl x d)
    subst q
    congr 1
    refine ih ys (fun z j => n z (by simp [j])) g.2 i.2 (fun z => ?_)
    constructor
    ·intro j
     rcases aK.1 ((hm z).1 (by simp [j])) with h | h
     ·subst h; exact absurd (g.1 z j) (H.irrefl z d)
     ·exact h
    ·intro j
     rcases aK.1 ((hm z).2 (by simp [j])) with h | h
     ·subst h; exact absurd (i.1 z j) (H.irrefl z d)
     ·exact h
 intro l a b ha k
 exact key a b (fun x r => ((ha.2 x).1 r).2) ha.1 k.1 (fun x => (ha.2 x).trans (k.2 x).symm)
theorem Cz {α : Type} {eq : α → α → Bool} (he : ∀ x y, eq x y = true ↔ x = y) : ∀ (l : List α) (p x : α), x ∈ p :: mC eq p l ↔ x ∈ p :: l
 | [], p, x => by simp [mC]
 | y :: l, p, x => by
  rw [mC]
  split
  ·rename_i h
   have := (he y p).1 h
   subst this
   rw [Cz he l y x]; simp
  ·have := Cz he l y x
   simp only [aK] at this ⊢
   rw [this]
theorem I2 {α : Type} {eq : α → α → Bool} (he : ∀ x y, eq x y = true ↔ x = y) (l : List α) (x : α) : x ∈ dd eq l ↔ x ∈ l := by
 cases l with
 | nil => simp [dd]
 | cons y l => exact Cz he l y x
theorem Bq {α : Type} {eq : α → α → Bool} {lt : α → α → Prop} {P : α → Prop} (he : ∀ x y, eq x y = true ↔ x = y) (H : zA lt P) : ∀ (l : List α) (p : α), (∀ x ∈ p :: l, P x) → (p :: l).Pairwise (fun a b => ¬ lt b a) → (p :: mC eq p l).Pairwise lt
 | [], p, _, _ => by simp [mC]
 | y :: l, p, d, q => by
  have h1 := cI.1 q
  rw [mC]
  split
  ·rename_i h
   have := (he y p).1 h
   subst this
   exact Bq he H l y (fun x j => d x (dm _ j)) h1.2
  ·rename_i h
   have ih := Bq he H l y (fun x j => d x (dm _ j)) h1.2
   refine cI.2 ⟨fun z n => ?_, ih⟩
   have i : lt p y := by
    rcases H.total p y (d p (by simp)) (d y (by simp)) with g | g | g
    ·exact g
    ·exact absurd ((he y p).2 g.symm) h
    ·exact absurd g (h1.1 y (by simp))
   rcases aK.1 n with rfl | k
   ·exact i
   ·have m : z ∈ y :: l := (Cz he l y z).1 n
    exact H.trans p y z (d p (by simp)) (d y (by simp)) (d z (dm _ m)) i ((cI.1 ih).1 z k)
theorem Mi {α : Type} {eq : α → α → Bool} {lt : α → α → Prop} {P : α → Prop} (he : ∀ x y, eq x y = true ↔ x = y) (H : zA lt P) (l : List α) (d : ∀ x ∈ l, P x) (g : l.Pairwise (fun a b => ¬ lt b a)) : (dd eq l).Pairwise lt := by
 cases l with
 | nil => simp [dd]
 | cons y l => exact Bq he H l y d g
theorem H0 {α : Type} {le : α → α → Bool} {P : α → Prop} (i : ∀ a b c, P a → P b → P c → le a b = true → le b c = true → le a c = true) (h : ∀ a b, P a → P b → (le a b || le b a) = true) (l : List α) (d : ∀ x ∈ l, P x) :
  (l.mergeSort le).Pairwise (fun a b => le a b = true) := by
 have e : l = (l.attachWith P d).map Subtype.val := by simp
 have hm : ((l.attachWith P d).mergeSort fun a b => le a.1 b.1).map Subtype.val = l.mergeSort le := by
  conv => rhs; rw [e]
  exact iu (fun a _ b _ => rfl)
 rw [← hm, fG]
 exact gm (le := fun (a b : {x // P x}) => le a.1 b.1) (fun a b c h1 g => i a.1 b.1 c.1 a.2 b.2 c.2 h1 g) (fun a b => h a.1 b.1 a.2 b.2) _
theorem E5 {α : Type} {eq : α → α → Bool} {lt : α → α → Prop} {P : α → Prop} {cf : α × α → Option Int} {l : List α} (he : ∀ x y, eq x y = true ↔ x = y) (H : zA lt P) (g : ∀ x ∈ l, P x) (E : l.length < 4611686018427387904) (w : ∀ x y, P x → P y → ∃ c, cf (x, y) = some c ∧ (c < 0 ↔ lt x y)) : ∃ s, yW cf l = some s ∧ s.length = l.length ∧ vG lt P l (dd eq s) := by
 have j : ∀ x y, P x → P y → (tM cf x y = true ↔ lt x y) := fun x y i n => by
  obtain ⟨c, h1, m⟩ := w x y i n
  unfold tM
  rw [h1]
  simpa using m
 have d : ∀ x y, P x → P y → (tM cf x y = false ↔ ¬ lt x y) := fun x y i n => by
  rw [← j x y i n]; simp
 have ok : DV cf l := by
  refine ⟨fun x i y n => ?_, fun x i => ?_, fun x i y n z u h1 m => ?_, fun x i y n h1 m => ?_, E⟩
  ·obtain ⟨c, h1, _⟩ := w x y (g x i) (g y n); exact ⟨c, h1⟩
  ·exact (d x x (g x i) (g x i)).2 (H.irrefl x (g x i))
  ·rw [j _ _ (g x i) (g y n)] at h1
   rw [j _ _ (g y n) (g z u)] at m
   rw [j _ _ (g x i) (g z u)]
   exact H.trans x y z (g x i) (g y n) (g z u) h1 m
  ·rw [d _ _ (g x i) (g y n)] at h1
   rw [d _ _ (g y n) (g x i)] at m
   rcases H.total x y (g x i) (g y n) with h | h | h
   ·exact absurd h h1
   ·exact h
   ·exact absurd h m
 refine ⟨_, OI ok, by simp [sM], ?_, ?_⟩
 ·have k : ∀ x, x ∈ sM cf l ↔ x ∈ l := fun x => by simp [sM]
  refine Mi he H _ (fun x i => g x ((k x).1 i)) ?_
  have := H0 (le := fun x y => !tM cf y x) (P := P) (fun a b c ha p q h1 m => ?_) (fun a b ha p => ?_) l g
  ·refine (this.imp_of_mem ?_ : _)
   intro a b ha p h
   have r : a ∈ l := (k a).1 ha
   have t : b ∈ l := (k b).1 p
   simp at h
   exact (d b a (g b t) (g a r)).1 h
  ·simp at h1 m ⊢
   rw [d _ _ p ha] at h1
   rw [d _ _ q p] at m
   rw [d _ _ q ha]
   intro v
   rcases H.total a b ha p with h | h | h
   ·exact m (H.trans c a b q ha p v h)
   ·subst h; exact m v
   ·exact h1 h
  ·simp only [fz, eX]
   rw [d _ _ p ha, d _ _ ha p]
   by_cases h : lt b a
   ·right; intro m; exact H.irrefl a ha (H.trans a b a ha p ha m h)
   ·exact .inl h
 ·intro x
  rw [I2 he]
  constructor
  ·intro i
   have : x ∈ l := by simpa [sM] using i
   exact ⟨this, g x this⟩
  ·intro i; simpa [sM] using i.1
theorem uI : ∀ a : List UInt8, Op.bytesLess a a = false
 | [] => rfl
 | x :: a => by simp [Op.bytesLess, uI a]
theorem Jw (x y : UInt8) : x < y ∨ x = y ∨ y < x := by
 rcases Nat.lt_trichotomy x.toNat y.toNat with h | h | h
 ·exact .inl h
 ·exact .inr (.inl (UInt8.toNat_inj.1 h))
 ·exact .inr (.inr h)
theorem xl : ∀ a b c : List UInt8, Op.bytesLess a b = true → Op.bytesLess b c = true → Op.bytesLess a c = true
 | [], [], c, h1, _ => by simp [Op.bytesLess] at h1
 | _ :: _, [], c, h1, _ => by simp [Op.bytesLess] at h1
 | a, _ :: _, [], _, d => by simp [Op.bytesLess] at d
 | [], b :: bs, c :: cs, _, _ => rfl
 | a :: ax, b :: bs, c :: cs, h1, d => by
  simp only [Op.bytesLess, fz, bL, bk, gd] at h1 d ⊢
  rcases h1 with h1 | ⟨rfl, h1⟩
  ·rcases d with d | ⟨rfl, d⟩
   ·exact .inl (UInt8.lt_trans h1 d)
   ·exact .inl h1
  ·rcases d with d | ⟨rfl, d⟩
   ·exact .inl d
   ·exact .inr ⟨rfl, xl ax bs cs h1 d⟩
theorem Ar : ∀ a b : List UInt8, Op.bytesLess a b = true ∨ a = b ∨ Op.bytesLess b a = true
 | [], [] => .inr (.inl rfl)
 | [], _ :: _ => .inl rfl
 | _ :: _, [] => .inr (.inr rfl)
 | a :: ax, b :: bs => by
  simp only [Op.bytesLess, fz, bL, bk, gd, aW]
  rcases Jw a b with h | h | h
  ·exact .inl (.inl h)
  ·subst h
   rcases Ar ax bs with h | h | h
   ·exact .inl (.inr ⟨rfl, h⟩)
   ·exact .inr (.inl ⟨rfl, h⟩)
   ·exact .inr (.inr (.inr ⟨rfl, h⟩))
  ·exact .inr (.inr (.inl h))
theorem BX : ∀ a b : List UInt8, (Lib.compareBytes a b < 0 ↔ Op.bytesLess a b = true)
 | [], [] => by simp [Lib.compareBytes, Op.bytesLess]
 | [], _ :: _ => by simp [Lib.compareBytes, Op.bytesLess]
 | _ :: _, [] => by simp [Lib.compareBytes, Op.bytesLess]
 | a :: ax, b :: bs => by
  simp only [Lib.compareBytes, Op.bytesLess, fz, bL, bk, gd]
  by_cases h : a < b
  ·simp [h]
  ·by_cases g : b < a
   ·have : a ≠ b := by rintro rfl; exact h g
    simp [h, g, this]
   ·have : a = b := by rcases Jw a b with d | d | d; exact absurd d h; exact d; exact absurd d g
    subst this
    simp [h, BX ax bs]
theorem FB : ∀ a b : List UInt8, (Lib.compareBytes a b = 0 ↔ a = b)
 | [], [] => by simp [Lib.compareBytes]
 | [], _ :: _ => by simp [Lib.compareBytes]
 | _ :: _, [] => by simp [Lib.compareBytes]
 | a :: ax, b :: bs => by
  simp only [Lib.compareBytes, aW]
  by_cases h : a < b
  ·simp only [h, aM]
   constructor
   ·intro h; cases h
   ·rintro ⟨rfl, _⟩; exact absurd h (by simp)
  ·by_cases g : b < a
   ·simp only [h, g, aM, aH]
    constructor
    ·intro h; cases h
    ·rintro ⟨rfl, _⟩; exact absurd g (by simp)
   ·have : a = b := by rcases Jw a b with d | d | d; exact absurd d h; exact d; exact absurd d g
    subst this
    simp [h, FB ax bs]
theorem xx (a b : ByteArray) : pN a b = Op.bytesLess a.data.toList b.data.toList := by unfold pN; rw [eZ, eZ]
theorem zd {a b : ByteArray} (h : a.data.toList = b.data.toList) : a = b := iI (Array.toList_inj.1 h)
theorem sk (a : ByteArray) : pN a a = false := by rw [xx, uI]
theorem zm {a b c : ByteArray} (h1 : pN a b = true) (d : pN b c = true) : pN a c = true := by rw [xx] at *; exact xl _ _ _ h1 d
theorem zf (a b : ByteArray) : pN a b = true ∨ a = b ∨ pN b a = true := by
 rw [xx, xx]
 rcases Ar a.data.toList b.data.toList with h | h | h
 ·exact .inl h
 ·exact .inr (.inl (zd h))
 ·exact .inr (.inr h)
theorem HO {a b : ByteArray} (h : pN a b = true) : pN b a = false := by
 cases d : pN b a with
 | false => rfl
 | true => have := zm h d; rw [sk] at this; cases this
theorem O6 (P : ByteArray → Prop) : zA (fun a b => pN a b = true) P :=
 ⟨fun x _ h => (by rw [sk] at h; cases h), fun x y z _ _ _ => zm, fun x y _ _ => zf x y⟩
def AG (b : UInt8) : Bool := decide (97 ≤ b.toNat) && decide (b.toNat ≤ 122)
def B9 (b : UInt8) : Bool := AG b || (decide (48 ≤ b.toNat) && decide (b.toNat ≤ 57)) || decide (b.toNat = 45)
def mY (s : ByteArray) : Bool := decide (1 ≤ s.size) && decide (s.size ≤ 16) && (match s.data.toList with | [] => false | b :: _ => AG b) && s.data.toList.all B9
theorem nR {s : ByteArray} (h : mY s = true) : 1 ≤ s.size ∧ s.size ≤ 16 := by
 simp only [mY, bk, bL] at h
 exact h.1.1
theorem Lm : ∀ n : Nat, n < 256 → decide (wz (⟨#[97, 98, 99, 100, 101, 102, 103, 104, 105, 106, 107, 108, 109, 110, 111, 112, 113, 114, 115, 116, 117, 118, 119, 120, 121, 122]⟩ : ByteArray) (n : Int) ≥ 0) = AG (UInt8.ofNat n) := by decide +kernel
theorem OG : ∀ n : Nat, n < 256 → decide (wz (⟨#[97, 98, 99, 100, 101, 102, 103, 104, 105, 106, 107, 108, 109, 110, 111, 112, 113, 114, 115, 116, 117, 118, 119, 120, 121, 122, 48, 49, 50, 51, 52, 53, 54, 55, 56, 57, 45]⟩ : ByteArray) (n : Int) < 0) = !B9 (UInt8.ofNat n) := by decide +kernel
theorem vZ (s : ByteArray) : s.size = s.data.toList.length := by rw [cZ]; rfl
theorem ES {s : ByteArray} (h : s.size ≤ 16) : Cd s = some (rZ s) := by
 unfold Cd; rw [aZ (by unfold maxLen; omega)]
theorem I1 : ∀ l : List UInt8, uy (l.map fun b => (b.toNat : Int)) = some (l.all B9)
 | [] => rfl
 | b :: l => by
  rw [bD, uy]
  simp only [qS, od, aA]
  have a := OG b.toNat (iy b)
  rw [a]
  simp only [iF, gL]
  cases B9 b with
  | true => simp [I1 l]
  | false => simp
theorem HN {s : ByteArray} {b : UInt8} {l : List UInt8} (h : s.data.toList = b :: l) : zI s 0 = some b := by
 unfold zI
 rw [aZ (Int.le_refl 0)]
 have a : s.data[0]? = some b := by rw [← dF, h]; rfl
 show s[0]? = some b
 rw [← a]
 rfl
theorem yk (s : ByteArray) : rF s = some (mY s) := by
 unfold rF
 simp only [Df, aA, nH]
 by_cases h1 : 1 ≤ s.size
 ·by_cases a : s.size ≤ 16
  ·rw [aZ (by simp; omega)]
   obtain ⟨b, l, d⟩ : ∃ b l, s.data.toList = b :: l := by
    cases h : s.data.toList with
    | nil => rw [vZ, h] at h1; simp at h1
    | cons b l => exact ⟨b, l, rfl⟩
   rw [HN d]
   simp only [aA, qS, od]
   rw [Lm b.toNat (iy b)]
   simp only [iF, mY, h1, a, d, bV, dL]
   cases AG b with
   | false => simp
   | true =>
    simp only [aM, Bn, ES a, aA, rZ]
    rw [I1, d]
    simp
  ·rw [aY (by simp; omega)]
   simp [mY, a]
 ·rw [aY (by simp; omega)]
  simp [mY, h1]
theorem Ph {s : ByteArray} {A B : List UInt8} {b : UInt8} (h : s.data.toList = A ++ b :: B) (i : Int) (d : i = (A.length : Int)) : zI s i = some b := by
 subst d
 unfold zI
 rw [aZ (by omega), dy]
 have a : s.data[A.length]? = some b := by rw [← dF, h]; simp
 show s[A.length]? = some b
 rw [← a]
 rfl
theorem D5 (s : ByteArray) (v : s.size ≤ 16) : ∀ (B A : List UInt8) (n : Nat), s.data.toList = A ++ B → B.length < n → pP s n (A.length : Int) = some (B.all B9)
  | [], A, 0, _, h => by simp at h
  | [], A, n + 1, h, _ => by
    have : s.size = A.length := by rw [vZ, h]; simp
    rw [pP, aY (by rw [this]; simp)]
    rfl
  | b :: B, A, 0, _, h => by simp at h
  | b :: B, A, n + 1, h, u => by
    have l : s.size = A.length + B.length + 1 := by rw [vZ, h]; simp; omega
    rw [pP, aZ (by rw [l]; simp; omega)]
    rw [Ph h _ rfl]
    simp only [aA]
    rw [jT (x := (A.length : Int) + 1) (by omega) (by omega)]
    have ih := D5 s v B (A ++ [b]) n (by rw [h]; simp) (by simp at u; omega)
    rw [show ((A ++ [b]).length : Int) = (A.length : Int) + 1 by simp] at ih
    simp only [gL]
    have k : ∀ n : Nat, n < 256 → B9 (UInt8.ofNat n) = !((decide (n < 97) || decide (n > 122)) && (decide (n < 48) || decide (n > 57)) && decide (n ≠ 45)) := by decide +kernel
    have m := k b.toNat (iy b)
    simp only [iF] at m
    rw [m]
    by_cases h1 : b.toNat < 97 <;> by_cases p : b.toNat > 122 <;> by_cases q : b.toNat < 48 <;> by_cases r : b.toNat > 57 <;> by_cases t : b.toNat = 45 <;>
      first
      | omega
      | (have a : ((b.toNat : Int) < 97) = (b.toNat < 97) := by rw [gi]; omega
         have d : ((b.toNat : Int) > 122) = (b.toNat > 122) := by rw [gi]; omega
         have g : ((b.toNat : Int) < 48) = (b.toNat < 48) := by rw [gi]; omega
         have i : ((b.toNat : Int) > 57) = (b.toNat > 57) := by rw [gi]; omega
         have j : ((b.toNat : Int) != 45) = !decide (b.toNat = 45) := by rw [bH]; simp; omega
         simp [h1, p, q, r, t, a, d, g, i, j, ih])
theorem uJ (a : ByteArray) : kD a a = true := lI.2 rfl
theorem Qe : zS.size = 0 := rfl
theorem OY {s : ByteArray} : s = zS ↔ s.size = 0 := by
 constructor
 ·rintro rfl; rfl
 ·intro h; exact zd (by rw [vZ] at h; rw [dT.1 h]; rfl)
theorem xn (s : ByteArray) : qF s = some (mY s) := by
 unfold qF
 simp only [QW, aA, nH]
 by_cases g : s.size = 0
 ·have : s = zS := OY.2 g
  subst this
  rw [uJ]
  rfl
 ·have n : kD s zS = false := by
   cases h : kD s zS with
   | false => rfl
   | true => exact absurd (OY.1 (lI.1 h)) g
  rw [n]
  simp only [iM]
  by_cases i : s.size ≤ 16
  ·rw [aY (by simp; omega)]
   obtain ⟨b, l, k⟩ : ∃ b l, s.data.toList = b :: l := by
    cases h : s.data.toList with
    | nil => rw [vZ, h] at g; simp at g
    | cons b l => exact ⟨b, l, rfl⟩
   rw [HN k]
   simp only [aA, QW]
   have m := D5 s i s.data.toList [] jP rfl (by rw [wu, ← vZ]; omega)
   simp only [bP] at m
   rw [show (0 : Int) = ((0 : Nat) : Int) from rfl] at *
   rw [m]
   have j : ((b.toNat : Int) < 97) = (b.toNat < 97) := by rw [gi]; omega
   have d : ((b.toNat : Int) > 122) = (b.toNat > 122) := by rw [gi]; omega
   have h1 : 1 ≤ s.size := by omega
   simp only [mY, h1, i, k, AG, bV, dL, j, d]
   by_cases a : b.toNat < 97
   ·simp [a, show ¬ 97 ≤ b.toNat by omega]
   ·by_cases c : b.toNat > 122
    ·simp [a, c, show ¬ b.toNat ≤ 122 by omega]
    ·simp [a, c, show 97 ≤ b.toNat by omega, show b.toNat ≤ 122 by omega]
  ·rw [aZ (by simp; omega)]
   simp [mY, i]
def lG (r : jl) : Bool := mY r.jq && mY r.jv
theorem xS (r : jl) : pK r = some (lG r) := by
 unfold pK lG
 simp only [yk, aA]
 cases mY r.jq <;> simp
theorem AE (r : jl) : rR r = some (lG r) := by
 unfold rR lG
 simp only [xn, aA]
 cases mY r.jq <;> simp
def Bf (a b : jl) : Bool := pN a.jq b.jq || (kD a.jq b.jq && pN a.jv b.jv)
theorem AU (a b : jl) : vQ a b = some (Bf a b) := by
 unfold vQ Bf
 cases pN a.jq b.jq <;> cases kD a.jq b.jq <;> simp
theorem Kq {a b : ByteArray} (h : a ≠ b) : kD a b = false := by
 cases d : kD a b with
 | false => rfl
 | true => exact absurd (lI.1 d) h
theorem Ac {a b : jl} : Bf a b = true ↔ pN a.jq b.jq = true ∨ (a.jq = b.jq ∧ pN a.jv b.jv = true) := by
 simp [Bf, lI]
theorem RU (P : jl → Prop) : zA (fun a b => Bf a b = true) P := by
 refine ⟨fun x _ h => ?_, fun x y z _ _ _ h1 d => ?_, fun x y _ _ => ?_⟩
 ·rw [Ac] at h
  simp [sk] at h
 ·rw [Ac] at *
  rcases h1 with h1 | ⟨i, h1⟩
  ·rcases d with d | ⟨g, d⟩
   ·exact .inl (zm h1 d)
   ·exact .inl (by rw [← g]; exact h1)
  ·rcases d with d | ⟨g, d⟩
   ·exact .inl (by rw [i]; exact d)
   ·exact .inr ⟨i.trans g, zm h1 d⟩
 ·simp only [Ac]
  rcases zf x.jq y.jq with h | h | h
  ·exact .inl (.inl h)
  ·rcases zf x.jv y.jv with d | d | d
   ·exact .inl (.inr ⟨h, d⟩)
   ·refine .inr (.inl ?_)
    cases x; cases y; simp at h d; simp [h, d]
   ·exact .inr (.inr (.inr ⟨h.symm, d⟩))
  ·exact .inr (.inr (.inl h))
theorem zP (a b : jl) : ∃ c, rj a b = some c ∧ (c < 0 ↔ Bf a b = true) := by
 unfold rj
 simp only [pk, mZ, aA, uq, rH]
 have h1 : ∀ a b : ByteArray, (oP a b < 0 ↔ pN a b = true) := fun a b => by rw [xx]; exact BX _ _
 have g : ∀ a b : ByteArray, (oP a b = 0 ↔ a = b) := fun a b => by
  unfold oP; rw [FB]; exact ⟨zd, fun h => by rw [h]⟩
 by_cases e : oP a.jq b.jq = 0
 ·rw [aY (by simp [e])]
  have e' := (g _ _).1 e
  by_cases d : oP a.jv b.jv = 0
  ·rw [aY (by simp [d])]
   refine ⟨0, rfl, ?_⟩
   rw [Ac, e', (g _ _).1 d]
   simp [sk]
  ·rw [aZ (by simp [d])]
   refine ⟨_, rfl, ?_⟩
   rw [Ac, e', h1]
   simp [sk]
 ·rw [aZ (by simp [e])]
  refine ⟨_, rfl, ?_⟩
  rw [Ac, h1]
  have : a.jq ≠ b.jq := fun h => e ((g _ _).2 h)
  simp [this]
def zR : jl := ⟨zS, zS⟩
theorem HH (a b : ByteArray) : kD a b = kD b a := by rw [bH, lI, lI]; exact eq_comm
theorem Ee (a b : jl) : jJ a b = jJ b a := by rw [bH, jK, jK]; exact eq_comm
theorem vU (a : jl) : jJ a a = true := jK.2 rfl
def kY (c : jm) : Bool := lG c.Head && (
 if c.Kind == 1 then mY c.km && jJ zR c.B && jJ zR c.C && kD zS c.kC
 else if c.Kind == 2 then lG c.B && kD zS c.km && jJ zR c.C && kD zS c.kC
 else if c.Kind == 3 then lG c.B && kD c.B.jq c.Head.jq && mY c.kC && kD zS c.km && jJ zR c.C
 else if c.Kind == 4 then lG c.B && lG c.C && Bf c.B c.C && kD zS c.km && kD zS c.kC
 else false)
theorem vB (c : jm) : sV c = some (kY c) := by
 unfold sV kY
 simp only [xS, yk, aA]
 obtain ⟨k, hk, a⟩ := zP c.B c.C
 rw [hk]
 have b : decide (k < 0) = Bf c.B c.C := by rw [bH, ← a]; simp
 simp only [aA, b]
 by_cases h1 : c.Kind = 1
 ·cases lG c.Head <;> cases mY c.km <;> simp [h1, kU, vU, uJ, zR, gy]
 ·by_cases d : c.Kind = 2
  ·cases lG c.Head <;> cases lG c.B <;> simp [d, kU, vU, uJ, zR, gy]
  ·by_cases g : c.Kind = 3
   ·cases lG c.Head <;> cases lG c.B <;> cases kD c.B.jq c.Head.jq <;> cases mY c.kC <;> simp [g, kU, vU, uJ, zR, gy]
   ·by_cases h : c.Kind = 4
    ·cases lG c.Head <;> cases lG c.B <;> cases lG c.C <;> cases Bf c.B c.C <;> simp [h, kU, vU, uJ, zR, gy]
    ·simp [h1, d, g, h]
theorem Aw (c : jm) : ve c = some (kY c) := by
 unfold ve kY
 simp only [AE, xn, AU, aA]
 rw [show (⟨zS, zS⟩ : jl) = zR from rfl, Ee c.B zR, Ee c.C zR, HH c.kC zS, HH c.km zS]
 by_cases h1 : c.Kind = 1
 ·cases lG c.Head <;> cases mY c.km <;> cases jJ zR c.B <;> cases jJ zR c.C <;> simp [h1]
 ·by_cases a : c.Kind = 2
  ·cases lG c.Head <;> cases lG c.B <;> cases kD zS c.km <;> cases jJ zR c.C <;> simp [a]
  ·by_cases b : c.Kind = 3
   ·cases lG c.Head <;> cases lG c.B <;> cases kD zS c.km <;> cases jJ zR c.C <;> cases kD c.B.jq c.Head.jq <;> simp [b]
   ·by_cases d : c.Kind = 4
    ·cases lG c.Head <;> cases lG c.B <;> cases kD zS c.km <;> cases kD zS c.kC <;> cases lG c.C <;> simp [d]
    ·cases lG c.Head <;> cases lG c.B <;> cases kD zS c.km <;> simp [h1, a, b, d]
theorem lB {α : Type} {b : Nat} {l m : List α} (h : (l.length + m.length) * b ≤ 140737488355328) (a : l.length + m.length ≤ 9223372036854775807) : lP b l m = some (l ++ m) := by
 unfold lP; rw [aZ ⟨h, by unfold maxLen; omega⟩]
theorem FC {l m : List Int} (h : l.length + m.length ≤ 1000000) : lP 1 l m = some (l ++ m) := lB (by omega) (by omega)
def vA (s : ByteArray) : List Int := (s.size : Int) :: rZ s
def rA (r : jl) : List Int := vA r.jq ++ vA r.jv
def ym (c : jm) : List Int := if c.Kind = 1 then vA c.km else if c.Kind = 2 then rA c.B else if c.Kind = 3 then rA c.B ++ vA c.kC else rA c.B ++ rA c.C
def sm (c : jm) : List Int := c.Kind :: (rA c.Head ++ ym c)
theorem sP (s : ByteArray) : (vA s).length = s.size + 1 := by simp [vA, oY]
theorem ol {r : jl} (h : lG r = true) : (rA r).length ≤ 34 := by
 simp only [lG, bk] at h
 have h1 := nR h.1
 have a := nR h.2
 simp [rA, sP]; omega
theorem xz {l : List Int} {n : Int} (a : 0 ≤ n) (h1 : n < 128) (b : l.length ≤ 100000) : nF l n = some (true, l ++ [n]) := by
 have hw : IntKind.u8.wrap n = n := by
  obtain ⟨k, rfl⟩ : ∃ k : Nat, n = k := ⟨n.toNat, by omega⟩
  have : ∀ k : Nat, k < 128 → IntKind.u8.wrap (k : Int) = (k : Int) := by decide +kernel
  exact this k (by omega)
 unfold nF
 rw [aY (by simp; omega), lj, pH, aY (by simp; omega), hw, FC (by simp; omega)]
 rfl
theorem EF {l : List Int} {s : ByteArray} (h : mY s = true) (a : l.length ≤ 10000) : sT l s = some (true, l ++ vA s) := by
 have h1 := nR h
 unfold sT
 simp only [yk, aA, h, aM, ES h1.2]
 unfold wF
 rw [aY (by rw [oY]; simp; omega)]
 rw [oY, xz (by omega) (by omega) (by omega)]
 simp only [aA]
 rw [FC (by simp [oY]; omega)]
 simp [vA]
theorem JB {l : List Int} {r : jl} (h : lG r = true) (b : l.length ≤ 9000) : pI l r = some (true, l ++ rA r) := by
 have a := h
 simp only [lG, bk] at h
 have h1 := nR h.1
 unfold pI
 simp only [xS, aA, a, aM]
 rw [EF h.1 (by omega)]
 simp only [aA, aM]
 rw [EF h.2 (by simp [sP]; omega)]
 simp [rA]
theorem B5 {l : List Int} {r : jl} (h : lG r = true) (a : l.length ≤ 1000) : pI l r = some (true, l ++ rA r) := JB h (by omega)
theorem BA {c : jm} (h : kY c = true) : lG c.Head = true := by
 simp only [kY, bk] at h; exact h.1
theorem oh {c : jm} (h : kY c = true) :
  (c.Kind = 1 ∧ mY c.km = true ∧ c.B = zR ∧ c.C = zR ∧ c.kC = zS) ∨
  (c.Kind = 2 ∧ lG c.B = true ∧ c.km = zS ∧ c.C = zR ∧ c.kC = zS) ∨
  (c.Kind = 3 ∧ lG c.B = true ∧ mY c.kC = true ∧ c.B.jq = c.Head.jq ∧ c.km = zS ∧ c.C = zR) ∨
  (c.Kind = 4 ∧ lG c.B = true ∧ lG c.C = true ∧ Bf c.B c.C = true ∧ c.km = zS ∧ c.kC = zS) := by
 simp only [kY, bk] at h
 obtain ⟨_, h⟩ := h
 split at h
 ·rename_i h1
  simp only [bk, jK, lI] at h
  exact .inl ⟨by simpa using h1, h.1.1.1, h.1.1.2.symm, h.1.2.symm, h.2.symm⟩
 ·split at h
  ·rename_i h1
   simp only [bk, jK, lI] at h
   exact .inr (.inl ⟨by simpa using h1, h.1.1.1, h.1.1.2.symm, h.1.2.symm, h.2.symm⟩)
  ·split at h
   ·rename_i h1
    simp only [bk, jK, lI] at h
    exact .inr (.inr (.inl ⟨by simpa using h1, h.1.1.1.1, h.1.1.2, h.1.1.1.2, h.1.2.symm, h.2.symm⟩))
   ·split at h
    ·rename_i h1
     simp only [bk, jK, lI] at h
     exact .inr (.inr (.inr ⟨by simpa using h1, h.1.1.1.1, h.1.1.1.2, h.1.1.2, h.1.2.symm, h.2.symm⟩))
    ·cases h
theorem A6 (c : jm) : vR c = some (if kY c then sm c else []) := by
 unfold vR
 rw [vB]
 simp only [aA]
 cases h : kY c with
 | false => simp
 | true =>
  have g := BA h
  have i := ol g
  simp only [cH, aB, aH, aM]
  have hk : 0 ≤ c.Kind ∧ c.Kind < 128 := by rcases oh h with h | h | h | h <;> omega
  rw [xz hk.1 hk.2 (by simp)]
  simp only [aA]
  rw [B5 g (by simp)]
  simp only [aA, sS, tJ]
  rcases oh h with ⟨k, h1, _⟩ | ⟨k, h1, _⟩ | ⟨k, h1, a, _⟩ | ⟨k, h1, a, _⟩
  ·have b := nR h1
   simp only [k, aS, aM, EF h1 (show (([] ++ [(1:Int)]) ++ rA c.Head).length ≤ 10000 by simp; omega), aA]
   rw [FC (by simp [sP]; omega)]
   simp [sm, ym, k]
  ·have b := ol h1
   simp only [k, show ((2 : Int) == 1) = false from rfl, aB, aS, aM, aH, B5 h1 (show (([] ++ [(2:Int)]) ++ rA c.Head).length ≤ 1000 by simp; omega), aA]
   rw [FC (by simp; omega)]
   simp [sm, ym, k]
  ·have b := ol h1
   have d := nR a
   simp only [k, show ((3 : Int) == 1) = false from rfl, show ((3 : Int) == 2) = false from rfl, aB, aS, aM, aH, B5 h1 (show (([] ++ [(3:Int)]) ++ rA c.Head).length ≤ 1000 by simp; omega), aA]
   rw [EF a (by simp; omega)]
   simp only [aA]
   rw [FC (by simp [sP]; omega)]
   simp [sm, ym, k]
  ·have b := ol h1
   have d := ol a
   simp only [k, show ((4 : Int) == 1) = false from rfl, show ((4 : Int) == 2) = false from rfl, show ((4 : Int) == 3) = false from rfl, aB, aS, aM, aH, B5 h1 (show (([] ++ [(4:Int)]) ++ rA c.Head).length ≤ 1000 by simp; omega), aA]
   rw [B5 a (by simp; omega)]
   simp only [aA]
   rw [FC (by simp; omega)]
   simp [sm, ym, k]
def vu (l : List Int) : ByteArray := ⟨(tu l).toArray⟩
theorem ub (l : List Int) : (vu l).data.toList = tu l := rfl
theorem GC : ∀ (l : List Int) (r : ByteArray), (l.foldl (fun r n => r.push (UInt8.ofNat n.toNat)) r).data.toList = r.data.toList ++ tu l
 | [], r => by simp [tu]
 | x :: l, r => by
  rw [ga, GC l]
  show ((r.data.push _).toList) ++ _ = _
  simp [tu]
theorem Pt (l : List Int) : DA l = vu l := zd (by unfold DA; rw [GC]; rfl)
theorem JM (l : List Int) : (vu l).size = l.length := by rw [vZ, ub]; simp [tu]
theorem LA (a b : List Int) : tu (a ++ b) = tu a ++ tu b := by simp [tu]
theorem qT (a b : List Int) (h : a.length + b.length ≤ 1000000) : vP (vu a) (vu b) = some (vu (a ++ b)) := by
 unfold vP
 rw [aY]
 ·congr 1
  refine zd ?_
  rw [ub, LA, ← ub a, ← ub b]
  exact ByteArray.toList_data_append ▸ rfl
 ·rw [JM, JM]
  show ¬ (_ > (9223372036854775807 : Int))
  omega
theorem Dd (s : ByteArray) : vu (rZ s) = s := zd (by rw [ub]; simp [tu, rZ, fF])
theorem xC {n : Int} (a : 0 ≤ n) (h1 : n < 128) : qc n = some (vu [n]) := by
 have hw : IntKind.u8.wrap n = n := by
  obtain ⟨k, rfl⟩ : ∃ k : Nat, n = k := ⟨n.toNat, by omega⟩
  have : ∀ k : Nat, k < 128 → IntKind.u8.wrap (k : Int) = (k : Int) := by decide +kernel
  exact this k (by omega)
 unfold qc
 rw [lj, sd, aY (by simp; omega), hw, Pt, show zS = vu [] from rfl, qT _ _ (by simp)]
 rfl
theorem ED {s : ByteArray} (h : mY s = true) : ta s = some (vu (vA s)) := by
 have h1 := nR h
 unfold ta
 rw [xC (by omega) (by omega)]
 simp only [aA]
 have := qT [(s.size : Int)] (rZ s) (by rw [oY]; simp; omega)
 rw [Dd] at this
 rw [this]
 simp [vA]
theorem Ai {r : jl} (h : lG r = true) : rT r = some (vu (rA r)) := by
 simp only [lG, bk] at h
 have h1 := nR h.1
 have a := nR h.2
 unfold rT
 rw [ED h.1, ED h.2]
 simp only [aA]
 rw [qT _ _ (by simp [sP]; omega)]
 rfl
theorem Au (c : jm) : uV c = some (vu (if kY c then sm c else [])) := by
 unfold uV
 rw [Aw]
 simp only [aA]
 cases h : kY c with
 | false => rfl
 | true =>
  have g := BA h
  have i := ol g
  simp only [cH, aB, aH, aM]
  have hk : 0 ≤ c.Kind ∧ c.Kind < 128 := by rcases oh h with h | h | h | h <;> omega
  unfold zw
  rw [xC hk.1 hk.2, Ai g]
  simp only [aA]
  rw [qT _ _ (by simp; omega)]
  simp only [aA]
  rcases oh h with ⟨k, h1, _⟩ | ⟨k, h1, _⟩ | ⟨k, h1, a, _⟩ | ⟨k, h1, a, _⟩
  ·have b := nR h1
   simp only [k, aS, aM, ED h1, aA]
   rw [qT _ _ (by simp [sP]; omega)]
   simp [sm, ym, k]
  ·have b := ol h1
   simp only [k, show ((2 : Int) == 1) = false from rfl, show ((2 : Int) == 3) = false from rfl, show ((2 : Int) == 4) = false from rfl, aB, aH, Ai h1, aA]
   rw [qT _ _ (by simp; omega)]
   simp [sm, ym, k]
  ·have b := ol h1
   have d := nR a
   simp only [k, show ((3 : Int) == 1) = false from rfl, show ((3 : Int) == 4) = false from rfl, aB, aS, aM, aH, Ai h1, aA]
   rw [qT _ _ (by simp; omega)]
   simp only [aA, ED a]
   rw [qT _ _ (by simp [sP]; omega)]
   simp [sm, ym, k]
  ·have b := ol h1
   have d := ol a
   simp only [k, show ((4 : Int) == 1) = false from rfl, show ((4 : Int) == 3) = false from rfl, aB, aS, aM, aH, Ai h1, aA]
   rw [qT _ _ (by simp; omega)]
   simp only [aA, Ai a]
   rw [qT _ _ (by simp; omega)]
   simp [sm, ym, k]
def IZ (c : jm) : List UInt8 := tu (if kY c then sm c else [])
def Az (a b : jm) : Bool := Op.bytesLess (IZ a) (IZ b)
theorem EJ (a b : jm) : ∃ c, sL a b = some c ∧ (c < 0 ↔ Az a b = true) := by
 unfold sL
 rw [A6, A6]
 exact ⟨_, rfl, BX _ _⟩
theorem DZ (a b : jm) : ∃ c, rL a b = some c ∧ (c < 0 ↔ Az a b = true) := by
 unfold rL
 rw [Au, Au]
 simp only [aA]
 have h : pN (vu (if kY a then sm a else [])) (vu (if kY b then sm b else [])) = Az a b := by rw [xx]; rfl
 rw [h]
 cases Az a b with
 | true => exact ⟨_, rfl, by decide⟩
 | false =>
  simp only [aB, aH, iM]
  cases d : kD (vu (if kY a then sm a else [])) (vu (if kY b then sm b else [])) with
  | true => exact ⟨0, by simp, by decide⟩
  | false => exact ⟨1, by simp, by decide⟩
theorem Ry {a b : Int} (ha : 0 ≤ a ∧ a < 256) (d : 0 ≤ b ∧ b < 256) (h : a.toNat.toUInt8 = b.toNat.toUInt8) : a = b := by
 have := bN UInt8.toNat h
 simp only [UInt8.toNat_ofNat', Nat.toUInt8] at this
 simp at this
 omega
theorem KF : ∀ {a b : List Int}, (∀ x ∈ a, 0 ≤ x ∧ x < 256) → (∀ x ∈ b, 0 ≤ x ∧ x < 256) → tu a = tu b → a = b
 | [], [], _, _, _ => rfl
 | [], _ :: _, _, _, h => by simp [tu] at h
 | _ :: _, [], _, _, h => by simp [tu] at h
 | x :: a, y :: b, ha, g, h => by
  simp only [tu, bD, aW] at h
  rw [Ry (ha x (by simp)) (g y (by simp)) h.1, KF (fun z d => ha z (by simp [d])) (fun z d => g z (by simp [d])) h.2]
theorem yR {s : ByteArray} (h : mY s = true) : ∀ x ∈ vA s, 0 ≤ x ∧ x < 256 := by
 have h1 := nR h
 intro x a
 rcases aK.1 a with rfl | a
 ·omega
 ·simp only [rZ, bF] at a
  obtain ⟨b, _, rfl⟩ := a
  have := iy b
  omega
theorem wI {r : jl} (h : lG r = true) : ∀ x ∈ rA r, 0 ≤ x ∧ x < 256 := by
 simp only [lG, bk] at h
 intro x a
 rcases aN.1 a with a | a
 ·exact yR h.1 x a
 ·exact yR h.2 x a
theorem EL {c : jm} (h : kY c = true) : ∀ x ∈ sm c, 0 ≤ x ∧ x < 256 := by
 intro x a
 rcases aK.1 a with rfl | a
 ·rcases oh h with h | h | h | h <;> omega
 ·rcases aN.1 a with a | a
  ·exact wI (BA h) x a
  ·unfold ym at a
   rcases oh h with ⟨k, h1, _⟩ | ⟨k, h1, _⟩ | ⟨k, h1, b, _⟩ | ⟨k, h1, b, _⟩
   ·rw [aZ k] at a; exact yR h1 x a
   ·rw [aY (by omega), aZ k] at a; exact wI h1 x a
   ·rw [aY (by omega), aY (by omega), aZ k] at a
    rcases aN.1 a with a | a
    ·exact wI h1 x a
    ·exact yR b x a
   ·rw [aY (by omega), aY (by omega), aY (by omega)] at a
    rcases aN.1 a with a | a
    ·exact wI h1 x a
    ·exact wI b x a
theorem L4 {s t : ByteArray} (h : rZ s = rZ t) : s = t := by rw [← Dd s, h, Dd]
theorem A0 {s t : ByteArray} {X Y : List Int} (h : vA s ++ X = vA t ++ Y) : s = t ∧ X = Y := by
 simp only [vA, bA, aW] at h
 obtain ⟨h1, a⟩ := h
 have b : (rZ s).length = (rZ t).length := by rw [oY, oY]; omega
 have := List.append_inj a b
 exact ⟨L4 this.1, this.2⟩
theorem ze {a b : jl} {X Y : List Int} (h : rA a ++ X = rA b ++ Y) : a = b ∧ X = Y := by
 simp only [rA, aG] at h
 obtain ⟨h1, g⟩ := A0 h
 obtain ⟨d, i⟩ := A0 g
 exact ⟨by cases a; cases b; simp at h1 d; simp [h1, d], i⟩
theorem ML {a b : jm} (ha : kY a = true) (s : kY b = true) (h : sm a = sm b) : a = b := by
 simp only [sm, aW] at h
 obtain ⟨hk, q⟩ := h
 obtain ⟨p, h⟩ := ze q
 clear q
 have l : ∀ {X Y : List Int}, X = Y → X ++ [] = Y ++ [] := fun h => by rw [h]
 unfold ym at h
 obtain ⟨E, r, I, w, y, u⟩ := a
 obtain ⟨G, t, J, x, z, v⟩ := b
 simp only at hk p h
 subst hk p
 rcases oh ha with ⟨k, h1, g, i, d⟩ | ⟨k, h1, g, i, d⟩ | ⟨k, h1, g, i, d, j⟩ | ⟨k, h1, g, i, d, j⟩ <;>
 rcases oh s with ⟨k', g1, g2, g3, g4⟩ | ⟨k', g1, g2, g3, g4⟩ | ⟨k', g1, g2, g3, g4, g5⟩ | ⟨k', g1, g2, g3, g4, g5⟩ <;> simp only at k k' g i d g2 g3 g4 <;> (try omega)
 ·rw [aZ k, aZ k] at h
  simp [A0 (l h), g, i, d, g2, g3, g4]
 ·rw [aY (by omega), aZ k, aY (by omega), aZ k] at h
  simp [ze (l h), g, i, d, g2, g3, g4]
 ·rw [aY (by omega), aY (by omega), aZ k, aY (by omega), aY (by omega), aZ k] at h
  obtain ⟨m, n⟩ := ze h
  simp only at j g5
  simp [m, A0 (l n), d, j, g4, g5]
 ·rw [aY (by omega), aY (by omega), aY (by omega), aY (by omega), aY (by omega), aY (by omega)] at h
  obtain ⟨m, n⟩ := ze h
  simp only at j g5
  simp [m, ze (l n), d, j, g4, g5]
theorem Ch : zA (fun a b => Az a b = true) (fun c => kY c = true) := by
 refine ⟨fun x _ h => ?_, fun x y z _ _ _ h1 i => xl _ _ _ h1 i, fun x y d g => ?_⟩
 ·unfold Az at h; rw [uI] at h; cases h
 ·rcases Ar (IZ x) (IZ y) with h | h | h
  ·exact .inl h
  ·refine .inr (.inl (ML d g ?_))
   unfold IZ at h
   rw [aZ d, aZ g] at h
   exact KF (EL d) (EL g) h
  ·exact .inr (.inr h)
section
variable {c : Formula → Formula → Int} {G : Formula → Prop} {f : Formula × Formula → Option Int}
theorem LH (x : Formula) : (⟨x.Op, x.K, x.jl, x.Kids⟩ : Formula) = x := by cases x; rfl
abbrev mV (c : Formula → Formula → Int) (x y : Formula) : Bool := decide (c x y < 0)
abbrev BN (f : Formula × Formula → Option Int) (c : Formula → Formula → Int) (G : Formula → Prop) : Prop := ∀ x y, G x → G y → f (x, y) = some (c x y)
theorem SY (u : BN f c G) (pre : List Formula) (x : Formula) (w : G x) : ∀ (k : Nat) (P S : List Formula) (n : Nat) (j a : Int), P.length = k → k < n → (∀ y ∈ P, G y) → (pre ++ (P ++ x :: S)).length ≤ 1000000 → j = ((pre.length + P.length : Nat) : Int) → a = (pre.length : Int) →
  ∃ P1 P2, P = P1 ++ P2 ∧ lg a f n (pre ++ (P ++ x :: S)) j = some (pre ++ (P1 ++ x :: (P2 ++ S))) ∧ (∀ P' z, P1 = P' ++ [z] → mV c x z = false) ∧ (∀ y P', P2 = y :: P' → mV c x y = true) := by
 intro k
 induction k with
 | zero =>
  intro P S n j a hk v d l h ha
  obtain rfl := aR hk
  obtain ⟨n, rfl⟩ := aO (by omega : n ≠ 0)
  refine ⟨[], [], rfl, ?_, by simp, by simp⟩
  rw [lg]
  have : ¬ (j > a) := by rw [h, ha]; simp
  simp [this]
 | succ k ih =>
  intro P S n j a hk v d l h ha
  rcases cY P with rfl | ⟨P', z, rfl⟩
  ·simp at hk
  simp only [dG, aD, aI, bP] at hk h l d ⊢
  obtain ⟨n, rfl⟩ := aO (by omega : n ≠ 0)
  have i : j > a := by omega
  have m : pre ++ (P' ++ [z] ++ x :: S) = (pre ++ P') ++ z :: x :: S := by simp
  have hw : wi0 .i64 (j - 1) = ((pre.length + P'.length : Nat) : Int) := by rw [jT (by omega) (by omega)]; omega
  have i1 : kV ((pre ++ P') ++ z :: x :: S) j = some x := by
   rw [show (pre ++ P') ++ z :: x :: S = (pre ++ P' ++ [z]) ++ x :: S by simp]
   exact mw _ _ _ _ (by simp; omega)
  have i2 : kV ((pre ++ P') ++ z :: x :: S) ((pre.length + P'.length : Nat) : Int) = some z := mw _ _ _ _ (by simp)
  have I : G z := d z (by simp)
  have t : ∀ y ∈ P', G y := fun y E => d y (by simp [E])
  have L : j.toNat = pre.length + P'.length + 1 := by omega
  rw [lg, m]
  simp only [i, bV, aM, i1, hw, i2, aA, u x z w I]
  by_cases g : c x z < 0
  ·simp only [g, bV, aM]
   have s1 : ((pre ++ P') ++ z :: x :: S).set j.toNat z = (pre ++ P') ++ z :: z :: S := by
    have := JD (pre ++ P' ++ [z]) S x z j.toNat (by simp; omega)
    simpa only [aG, fD, bA, aP] using this
   have s2 : ((pre ++ P') ++ z :: z :: S).set (pre.length + P'.length) x = (pre ++ P') ++ x :: z :: S := by
    exact JD (pre ++ P') (z :: S) z x _ (by simp)
   have i3 : kV ((pre ++ P') ++ z :: z :: S) ((pre.length + P'.length : Nat) : Int) = some z := mw _ _ _ _ (by simp)
   rw [s1, i3, aA, dy, LH, s2]
   have p : (pre ++ P') ++ x :: z :: S = pre ++ (P' ++ x :: (z :: S)) := by simp
   obtain ⟨P1, P2, h1, q, r, s⟩ := ih P' (z :: S) n ((pre.length + P'.length : Nat) : Int) a (by omega) (by omega) t (by simp; omega) rfl ha
   rw [p, q]
   refine ⟨P1, P2 ++ [z], by rw [h1]; simp, by simp, r, ?_⟩
   intro y Q b
   cases P2 with
   | nil =>
    simp only [aP, aW] at b
    rw [← b.1]; simp [mV, g]
   | cons J P2 =>
    simp only [bA, aW] at b
    rw [← b.1]; exact s J P2 rfl
  ·simp only [g, cC, aB, aH]
   refine ⟨P' ++ [z], [], by simp, by simp, ?_, by simp⟩
   intro Q y b
   have := List.append_inj' b rfl
   simp only [aW, dr] at this
   rw [← this.2]; simp [mV, g]
theorem OR (h : SWO (mV c)) (M : BN f c G) (pre post : List Formula) (a b : Int) (ha : a = (pre.length : Int)) : ∀ (S t : List (Formula × Nat)) (n : Nat) (i : Int),
  S.length < n → nS (mV c) t → (∀ x ∈ t, ∀ y ∈ S, x.2 < y.2) → S.Pairwise (fun x y => x.2 < y.2) → (∀ x ∈ t ++ S, G x.1) → (pre ++ (t.map (·.1) ++ (S.map (·.1) ++ post))).length ≤ 1000000 →
  i = ((pre.length + t.length : Nat) : Int) → b = ((pre.length + t.length + S.length : Nat) : Int) →
  ∃ u, kO b a f n (pre ++ (t.map (·.1) ++ (S.map (·.1) ++ post))) i = some (pre ++ (u.map (·.1) ++ post)) ∧ nS (mV c) u ∧ u.Perm (t ++ S)
 | [], t, n, i, I, J, h1, L, r, E, O, v => by
  obtain ⟨n, rfl⟩ := aO (by simp at I; omega : n ≠ 0)
  rw [kO]
  simp only [bP] at v
  have : ¬ (i < b) := by omega
  simp only [this, cC, aB, aH]
  exact ⟨t, by simp, J, by simp⟩
 | s :: S, t, n, i, I, J, h1, L, r, E, O, v => by
  simp only [aI] at I v
  obtain ⟨n, rfl⟩ := aO (by omega : n ≠ 0)
  rw [kO]
  have w : i < b := by omega
  simp only [w, bV, aM]
  have k := E
  simp only [aD, cW, aI] at k
  obtain ⟨P1, P2, R, T, U, W⟩ := SY M pre s.1 (r s (by simp)) (t.map (·.1)).length (t.map (·.1)) (S.map (·.1) ++ post) jP i a rfl (by rw [lj]; simp; omega)
   (fun y m => by obtain ⟨p, hp, rfl⟩ := bF.1 m; exact r p (by simp [hp])) (by simpa using E) (by simp; omega) ha
  simp only [bD, bA]
  rw [T, aA]
  obtain ⟨t1, t2, rfl, P, Q⟩ := List.map_eq_append_iff.1 R
  have hlen : t1.length + t2.length = (t1 ++ t2).length := by simp
  have hw : wi0 .i64 (i + 1) = ((pre.length + (t1 ++ s :: t2).length : Nat) : Int) := by rw [jT (by omega) (by omega)]; simp at O ⊢; omega
  rw [hw]
  have l : nS (mV c) (t1 ++ s :: t2) := G9 h J
   (fun A' z b B' j q => by
    simp only [aW] at q
    rw [← q.1]
    refine .inr ⟨U (A'.map (·.1)) z.1 (by rw [← P, j]; simp), h1 z (by rw [j]; simp) s (by simp)⟩)
   (fun A' z b B' j q => by
    have Z : z = s := by
     cases A' with
     | nil => simpa using j.symm
     | cons _ A' => simp at j
    rw [Z]
    exact .inl (W b.1 (B'.map (·.1)) (by rw [← Q, q]; simp)))
  have g := cI.1 L
  have Y : pre ++ (P1 ++ s.1 :: (P2 ++ (S.map (·.1) ++ post))) = pre ++ ((t1 ++ s :: t2).map (·.1) ++ (S.map (·.1) ++ post)) := by rw [← P, ← Q]; simp
  rw [Y]
  obtain ⟨u, u1, u2, u3⟩ := OR h M pre post a b ha S (t1 ++ s :: t2) n _ (by omega) l
   (fun x d y m => by
    rcases aN.1 d with d | d
    ·exact h1 x (by simp [d]) y (by simp [m])
    ·rcases aK.1 d with rfl | d
     ·exact g.1 y m
     ·exact h1 x (by simp [d]) y (by simp [m]))
   g.2 (fun x d => r x (by
    simp only [aN, aK] at d ⊢
    rcases d with (d | d | d) | d
    ·exact .inl (.inl d)
    ·exact .inr (.inl d)
    ·exact .inl (.inr d)
    ·exact .inr (.inr d))) (by simp at k ⊢; omega) rfl (by simp at v ⊢; omega)
  refine ⟨u, u1, u2, u3.trans ?_⟩
  simp only [aG, bA]
  exact cA t1 (List.perm_middle.symm)
theorem KK (h : SWO (mV c)) (p : BN f c G) (pre post : List Formula) (S : List (Formula × Nat)) (a b : Int) (l : S.Pairwise (fun x y => x.2 < y.2)) (m : ∀ x ∈ S, G x.1) (k : (pre ++ (S.map (·.1) ++ post)).length ≤ 1000000) (ha : a = (pre.length : Int)) (j : b = ((pre.length + S.length : Nat) : Int)) :
  ∃ u, mF (pre ++ (S.map (·.1) ++ post)) a b f = some (pre ++ (u.map (·.1) ++ post)) ∧ nS (mV c) u ∧ u.Perm S := by
 unfold mF
 have g := k
 simp only [aD, cW] at g
 cases S with
 | nil =>
  refine ⟨[], ?_, .nil, .nil⟩
  obtain ⟨n, q⟩ := aO (by rw [lj]; omega : jP ≠ 0)
  rw [q, kO]
  have : ¬ (wi0 .i64 (a + 1) < b) := by rw [jT (by omega) (by omega)]; simp at j; omega
  simp [this]
 | cons s S =>
  simp only [aI] at j g
  have d := cI.1 l
  obtain ⟨u, t, v, w⟩ := OR h p pre post a b ha S [s] jP (wi0 .i64 (a + 1)) (by rw [lj]; omega) (gq _ _) (fun x i y r => by simp at i; rw [i]; exact d.1 y r) d.2
   (fun x i => m x (by simpa using i)) (by simp at k ⊢; omega) (by rw [jT (by omega) (by omega)]; simp; omega) (by simp; omega)
  exact ⟨u, by simpa using t, v, by simpa using w⟩
end
section
variable {c : Formula → Formula → Int} {G : Formula → Prop} {f : Formula × Formula → Option Int}
theorem mU {x : Int} (n : Nat) (h : x = (n : Int)) (a : n ≤ 4000000) : wi0 .i64 x = (n : Int) := by rw [h, jT (by omega) (by omega)]
theorem RA (p m q : List Formula) (a b N : Int) : ∀ (k : Nat) (X1 X2 Y1 Y2 : List Formula) (n : Nat) (i : Int), X2.length = k → Y2.length = k → X1.length = Y1.length → k < n → (p ++ (Y1 ++ (X2 ++ (m ++ (X1 ++ (Y2 ++ q)))))).length ≤ 1000000 →
  i = (X1.length : Int) → N = ((X1.length + k : Nat) : Int) → a = (p.length : Int) → b = ((p.length + X1.length + k + m.length : Nat) : Int) →
  lH N b a n (p ++ (Y1 ++ (X2 ++ (m ++ (X1 ++ (Y2 ++ q)))))) i = some (p ++ ((Y1 ++ Y2) ++ (m ++ ((X1 ++ X2) ++ q)))) := by
 intro k
 induction k with
 | zero =>
  intro X1 X2 Y1 Y2 n i h1 d u w r v j ha l
  obtain rfl := aR h1
  obtain rfl := aR d
  obtain ⟨n, rfl⟩ := aO (by omega : n ≠ 0)
  rw [lH]
  have : ¬ (i < N) := by omega
  simp [this]
 | succ k ih =>
  intro X1 X2 Y1 Y2 n i h1 d u w r v j ha l
  cases X2 with
  | nil => simp at h1
  | cons x X2 =>
  cases Y2 with
  | nil => simp at d
  | cons y Y2 =>
  simp only [aI, Nat.add_right_cancel_iff] at h1 d
  obtain ⟨n, rfl⟩ := aO (by omega : n ≠ 0)
  have h := r
  simp only [aD, aI] at h
  have g : i < N := by omega
  have z : wi0 .i64 (b + i) = (((p ++ Y1).length + 1 + (X2 ++ (m ++ X1)).length : Nat) : Int) := mU _ (by simp; omega) (by simp; omega)
  have E : wi0 .i64 (a + i) = ((p ++ Y1).length : Int) := mU _ (by simp; omega) (by simp; omega)
  have G : wi0 .i64 (i + 1) = ((X1 ++ [x]).length : Int) := mU _ (by simp; omega) (by simp; omega)
  have s : p ++ (Y1 ++ (x :: X2 ++ (m ++ (X1 ++ (y :: Y2 ++ q))))) = (p ++ Y1) ++ x :: ((X2 ++ (m ++ X1)) ++ y :: (Y2 ++ q)) := by simp
  have i1 : kV ((p ++ Y1) ++ x :: ((X2 ++ (m ++ X1)) ++ y :: (Y2 ++ q))) (((p ++ Y1).length + 1 + (X2 ++ (m ++ X1)).length : Nat) : Int) = some y := by
   have := mw ((p ++ Y1) ++ x :: (X2 ++ (m ++ X1))) y (Y2 ++ q) (((p ++ Y1).length + 1 + (X2 ++ (m ++ X1)).length : Nat) : Int) (by simp; omega)
   simpa using this
  have i2 : kV ((p ++ Y1) ++ x :: ((X2 ++ (m ++ X1)) ++ y :: (Y2 ++ q))) ((p ++ Y1).length : Int) = some x := mw _ _ _ _ rfl
  rw [lH, s]
  simp only [g, bV, aM, z, E, i1, i2, aA, dy, G]
  have i3 : kV (((p ++ Y1) ++ x :: ((X2 ++ (m ++ X1)) ++ y :: (Y2 ++ q))).set (p ++ Y1).length y) (((p ++ Y1).length + 1 + (X2 ++ (m ++ X1)).length : Nat) : Int) = some y := by
   rw [Es]
   have := mw ((p ++ Y1) ++ y :: (X2 ++ (m ++ X1))) y (Y2 ++ q) (((p ++ Y1).length + 1 + (X2 ++ (m ++ X1)).length : Nat) : Int) (by simp; omega)
   simpa using this
  rw [i3, aA, LH, Fb]
  have t : (p ++ Y1) ++ y :: ((X2 ++ (m ++ X1)) ++ x :: (Y2 ++ q)) = p ++ ((Y1 ++ [y]) ++ (X2 ++ (m ++ ((X1 ++ [x]) ++ (Y2 ++ q))))) := by simp
  rw [t, ih (X1 ++ [x]) X2 (Y1 ++ [y]) Y2 n _ h1 d (by simp; omega) (by omega) (by simp; omega) rfl (by rw [j]; simp; omega) ha (by rw [l]; simp; omega)]
  simp
theorem Lc (p m q X Y : List Formula) (a b N : Int) (h : X.length = Y.length) (g : (p ++ (X ++ (m ++ (Y ++ q)))).length ≤ 1000000) (i : N = (X.length : Int)) (ha : a = (p.length : Int)) (j : b = ((p.length + X.length + m.length : Nat) : Int)) :
  mz (p ++ (X ++ (m ++ (Y ++ q)))) a b N f = some (p ++ (Y ++ (m ++ (X ++ q)))) := by
 unfold mz
 have d := g
 simp only [aD] at d
 have := RA p m q a b N X.length [] X [] Y jP 0 rfl h.symm rfl (by rw [lj]; omega) (by simpa using g) rfl (by simpa using i) ha (by rw [j]; simp)
 simpa using this
theorem RR (M : Int) : ∀ (k : Nat) (A B p q : List Formula) (n : Nat) (i j : Int), A.length + B.length ≤ k → 0 < A.length → 0 < B.length → k < n → (p ++ (A ++ (B ++ q))).length ≤ 1000000 → i = (A.length : Int) → j = (B.length : Int) → M = ((p.length + A.length : Nat) : Int) →
  lW M f n (p ++ (A ++ (B ++ q))) i j = some (p ++ (B ++ (A ++ q))) := by
 intro k
 induction k with
 | zero => intro A B p q n i j h h1 u; omega
 | succ k ih =>
  intro A B p q n i j h h1 u J x b m v
  obtain ⟨n, rfl⟩ := aO (by omega : n ≠ 0)
  have a := x
  simp only [aD] at a
  rw [lW]
  by_cases he : A.length = B.length
  ·have : (i != j) = false := by rw [b, m, he]; simp
   simp only [this, aB, aH]
   have d : wi0 .i64 (M - i) = (p.length : Int) := mU _ (by omega) (by omega)
   have := Lc (f := f) p [] q A B (p.length : Int) M i he (by simpa using x) b rfl (by rw [v]; simp)
   simp only [aP] at this
   rw [d, this]; rfl
  ·have r : (i != j) = true := by rw [b, m]; simp; omega
   simp only [r, aM]
   by_cases w : i > j
   ·simp only [w, bV, aM]
    obtain ⟨X, Y, rfl, I⟩ := vM (l := A) (n := B.length) (by omega)
    simp only [aD] at b h v a
    have d : wi0 .i64 (M - i) = (p.length : Int) := mU _ (by omega) (by omega)
    have s := Lc (f := f) p Y q X B (p.length : Int) M j (by omega) (by simp; omega) (by omega) rfl (by omega)
    have g : p ++ (X ++ Y ++ (B ++ q)) = p ++ (X ++ (Y ++ (B ++ q))) := by simp
    have t : wi0 .i64 (i - j) = (Y.length : Int) := mU _ (by omega) (by omega)
    rw [g, d, s, aA, t]
    have y : p ++ (B ++ (Y ++ (X ++ q))) = (p ++ B) ++ (Y ++ (X ++ q)) := by simp
    rw [y, ih Y X (p ++ B) q n _ j (by omega) (by omega) (by omega) (by omega) (by simp; omega) rfl (by omega) (by simp; omega)]
    simp
   ·simp only [w, cC, aB, aH]
    obtain ⟨Z, V, rfl, z⟩ := vM (l := B) (n := B.length - A.length) (by omega)
    simp only [aD] at m h a z u he
    have d : wi0 .i64 (M - i) = (p.length : Int) := mU _ (by omega) (by omega)
    have E : wi0 .i64 (M + j) = ((p.length + A.length + (Z.length + V.length) : Nat) : Int) := mU _ (by omega) (by omega)
    have G : wi0 .i64 (((p.length + A.length + (Z.length + V.length) : Nat) : Int) - i) = ((p.length + A.length + Z.length : Nat) : Int) := mU _ (by omega) (by omega)
    have s := Lc (f := f) p Z q A V (p.length : Int) ((p.length + A.length + Z.length : Nat) : Int) i (by omega) (by simp; omega) b rfl rfl
    have g : p ++ (A ++ (Z ++ V ++ q)) = p ++ (A ++ (Z ++ (V ++ q))) := by simp
    have t : wi0 .i64 (j - i) = (Z.length : Int) := mU _ (by omega) (by omega)
    rw [g, d, E, G, s, aA, t]
    rw [show p ++ (V ++ (Z ++ (A ++ q))) = p ++ (V ++ (Z ++ (A ++ q))) from rfl, ih V Z p (A ++ q) n i _ (by omega) (by omega) (by omega) (by omega) (by simp; omega) (by omega) rfl (by omega)]
    simp
theorem TB (A B p q : List Formula) (a m b : Int) (h1 : 0 < A.length) (h : 0 < B.length) (g : (p ++ (A ++ (B ++ q))).length ≤ 1000000) (ha : a = (p.length : Int)) (hm : m = ((p.length + A.length : Nat) : Int)) (i : b = ((p.length + A.length + B.length : Nat) : Int)) :
  mj (p ++ (A ++ (B ++ q))) a m b f = some (p ++ (B ++ (A ++ q))) := by
 unfold mj
 have d := g
 simp only [aD] at d
 rw [mU A.length (by omega) (by omega), mU B.length (by omega) (by omega)]
 exact RR m (A.length + B.length) A B p q jP _ _ (aU _) h1 h (by rw [lj]; omega) g rfl rfl hm
end
section
variable {c : Formula → Formula → Int} {G : Formula → Prop} {f : Formula × Formula → Option Int}
theorem Ci {x : Int} (n : Nat) (h : x = (n : Int)) (b : n ≤ 4000000) : wi0 .i64 (Int.fdiv (IntKind.u64.wrap (wi0 .i64 x)) (2 ^ min (Int.toNat 1) (IntKind.bits .u64))) = ((n / 2 : Nat) : Int) := by
 rw [mU n h b]
 have a : IntKind.u64.wrap (n : Int) = (n : Int) := by
  simp only [IntKind.wrap, IntKind.signed, IntKind.bits]
  simp
  omega
 rw [a, show (2 ^ min (Int.toNat 1) (IntKind.bits .u64) : Int) = 2 from by decide, Int.fdiv_eq_ediv_of_nonneg _ (by decide), jT (by omega) (by omega)]
 omega
abbrev Ask (a0 : List Formula) (f : Formula × Formula → Option Int) (p q : Int) (b : Bool) : Prop := ∃ x y r, kV a0 p = some x ∧ kV a0 q = some y ∧ f (x, y) = some r ∧ decide (r < 0) = b
theorem Tq (a0 : List Formula) (p : Int) (b : Nat → Bool) (lo a : Nat) (J : a ≤ 1000000) (u : ∀ h, lo ≤ h → h < a → Ask a0 f (h : Int) p (b h)) : ∀ (d n i j : Nat), j - i ≤ d → d < n → lo ≤ i → i ≤ j → j ≤ a → (i = lo ∨ b (i - 1) = true) → (j = a ∨ b j = false) →
  ∃ t M, lo ≤ t ∧ t ≤ a ∧ (t = lo ∨ b (t - 1) = true) ∧ (t = a ∨ b t = false) ∧ kG a0 p f n (i : Int) (j : Int) = kG a0 p f (M + 1) (t : Int) (t : Int) := by
 intro d
 induction d with
 | zero =>
  intro n i j h1 L g G k l m
  obtain ⟨n, rfl⟩ := aO (by omega : n ≠ 0)
  obtain rfl : i = j := by omega
  exact ⟨i, n, g, k, l, m, rfl⟩
 | succ d ih =>
  intro n i j h1 L g G k l m
  obtain ⟨n, rfl⟩ := aO (by omega : n ≠ 0)
  by_cases q : i = j
  ·subst q; exact ⟨i, n, g, k, l, m, rfl⟩
  have I := Ci (i + j) (x := (i : Int) + (j : Int)) (by omega) (by omega)
  obtain ⟨x, y, r, v, w, z, E⟩ := u ((i + j) / 2) (by omega) (by omega)
  rw [kG]
  have s : ((i : Int) < (j : Int)) := by omega
  simp only [s, bV, aM, I, v, w, z, E, aA]
  cases hp : b ((i + j) / 2)
  ·simp only [aB, aH]
   exact ih n i ((i + j) / 2) (by omega) (by omega) g (by omega) (by omega) l (.inr hp)
  ·simp only [aM]
   rw [mU ((i + j) / 2 + 1) (by omega) (by omega)]
   exact ih n ((i + j) / 2 + 1) j (by omega) (by omega) (by omega) (by omega) k (.inr (by simpa using hp)) m
theorem TH (a0 : List Formula) (a2 : Int) (b : Nat → Bool) (lo a : Nat) (I : a ≤ 1000000) (s : ∀ h, lo ≤ h → h < a → Ask a0 f a2 (h : Int) (!b h)) : ∀ (d n i j : Nat), j - i ≤ d → d < n → lo ≤ i → i ≤ j → j ≤ a → (i = lo ∨ b (i - 1) = true) → (j = a ∨ b j = false) →
  ∃ t L, lo ≤ t ∧ t ≤ a ∧ (t = lo ∨ b (t - 1) = true) ∧ (t = a ∨ b t = false) ∧ kH a0 a2 f n (i : Int) (j : Int) = kH a0 a2 f (L + 1) (t : Int) (t : Int) := by
 intro d
 induction d with
 | zero =>
  intro n i j h1 J g E k l m
  obtain ⟨n, rfl⟩ := aO (by omega : n ≠ 0)
  obtain rfl : i = j := by omega
  exact ⟨i, n, g, k, l, m, rfl⟩
 | succ d ih =>
  intro n i j h1 J g E k l m
  obtain ⟨n, rfl⟩ := aO (by omega : n ≠ 0)
  by_cases p : i = j
  ·subst p; exact ⟨i, n, g, k, l, m, rfl⟩
  have G := Ci (i + j) (x := (i : Int) + (j : Int)) (by omega) (by omega)
  obtain ⟨x, y, r, u, v, w, z⟩ := s ((i + j) / 2) (by omega) (by omega)
  rw [kH]
  have q : ((i : Int) < (j : Int)) := by omega
  simp only [q, bV, aM, G, u, v, w, z, aA, gz]
  cases hp : b ((i + j) / 2)
  ·simp only [aB, aH]
   exact ih n i ((i + j) / 2) (by omega) (by omega) g (by omega) (by omega) l (.inr hp)
  ·simp only [aM]
   rw [mU ((i + j) / 2 + 1) (by omega) (by omega)]
   exact ih n ((i + j) / 2 + 1) j (by omega) (by omega) (by omega) (by omega) k (.inr (by simpa using hp)) m
theorem SC (x : Formula) : ∀ (P Q R : List Formula) (n : Nat) (k i : Int), P.length < n → (Q ++ x :: (P ++ R)).length ≤ 1000000 → k = (Q.length : Int) → i = ((Q.length + P.length + 1 : Nat) : Int) → lL i n (Q ++ x :: (P ++ R)) k = some (Q ++ (P ++ x :: R))
 | [], Q, R, n, k, i, b, d, hk, a => by
  obtain ⟨n, rfl⟩ := aO (by simp at b; omega : n ≠ 0)
  simp only [aD, aI, bP] at d a
  rw [lL, mU Q.length (by omega) (by omega)]
  have : ¬ (k < (Q.length : Int)) := by omega
  simp [this]
 | y :: P, Q, R, n, k, i, b, d, hk, a => by
  obtain ⟨n, rfl⟩ := aO (by simp at b; omega : n ≠ 0)
  simp only [aD, aI] at d a b
  have h : Q ++ x :: (y :: P ++ R) = Q ++ x :: ([] ++ y :: (P ++ R)) := rfl
  have j : wi0 .i64 (k + 1) = ((Q.length + 1 + ([] : List Formula).length : Nat) : Int) := mU _ (by simp; omega) (by simp; omega)
  have i1 : kV (Q ++ x :: ([] ++ y :: (P ++ R))) ((Q.length + 1 + ([] : List Formula).length : Nat) : Int) = some y := by
   have := mw (Q ++ [x]) y (P ++ R) ((Q.length + 1 + ([] : List Formula).length : Nat) : Int) (by simp)
   simpa using this
  have i2 : kV (Q ++ x :: ([] ++ y :: (P ++ R))) k = some x := mw _ _ _ _ hk
  rw [lL, mU (Q.length + P.length + 1) (by omega) (by omega), h]
  have g : k < ((Q.length + P.length + 1 : Nat) : Int) := by omega
  have kn : k.toNat = Q.length := by omega
  simp only [g, bV, aM, j, i1, i2, aA, kn]
  have i3 : kV ((Q ++ x :: ([] ++ y :: (P ++ R))).set Q.length y) ((Q.length + 1 + ([] : List Formula).length : Nat) : Int) = some y := by
   rw [Es]
   have := mw (Q ++ [y]) y (P ++ R) ((Q.length + 1 + ([] : List Formula).length : Nat) : Int) (by simp)
   simpa using this
  rw [i3, aA, dy, LH, Fb]
  have := SC x P (Q ++ [y]) R n ((Q.length + 1 + ([] : List Formula).length : Nat) : Int) i (by omega) (by simp; omega) (by simp) (by rw [a]; simp; omega)
  simpa using this
theorem TC (x : Formula) : ∀ (k : Nat) (S Q R : List Formula) (n : Nat) (j i : Int), S.length = k → k < n → (Q ++ (S ++ x :: R)).length ≤ 1000000 → j = ((Q.length + S.length : Nat) : Int) → i = (Q.length : Int) → lK i n (Q ++ (S ++ x :: R)) j = some (Q ++ x :: (S ++ R)) := by
 intro k
 induction k with
 | zero =>
  intro S Q R n j i hk m h a g
  obtain ⟨n, rfl⟩ := aO (by omega : n ≠ 0)
  obtain rfl := aR hk
  rw [lK]
  simp only [bP, fN] at a
  have : ¬ (j > i) := by omega
  simp [this]
 | succ k ih =>
  intro S Q R n j i hk m h a g
  obtain ⟨n, rfl⟩ := aO (by omega : n ≠ 0)
  rcases cY S with rfl | ⟨S, z, rfl⟩
  ·simp at hk
  simp only [dG, aD, aI, bP] at hk a h ⊢
  have l : Q ++ (S ++ [z] ++ x :: R) = (Q ++ S) ++ z :: ([] ++ x :: R) := by simp
  have q : wi0 .i64 (j - 1) = ((Q ++ S).length : Int) := mU _ (by simp; omega) (by simp; omega)
  have b : j = (((Q ++ S).length + 1 + ([] : List Formula).length : Nat) : Int) := by rw [a]; simp; omega
  have i1 : kV ((Q ++ S) ++ z :: ([] ++ x :: R)) j = some x := by
   have := mw (Q ++ S ++ [z]) x R j (by rw [b]; simp; omega)
   simpa using this
  have i2 : kV ((Q ++ S) ++ z :: ([] ++ x :: R)) ((Q ++ S).length : Int) = some z := mw _ _ _ _ rfl
  rw [lK, l]
  have d : j > i := by omega
  have p : j.toNat = (Q ++ S).length + 1 + ([] : List Formula).length := by omega
  simp only [d, bV, aM, q, i1, i2, aA, p]
  have i3 : kV (((Q ++ S) ++ z :: ([] ++ x :: R)).set ((Q ++ S).length + 1 + ([] : List Formula).length) z) ((Q ++ S).length : Int) = some z := by
   have : ((Q ++ S) ++ z :: ([] ++ x :: R)).set ((Q ++ S).length + 1 + ([] : List Formula).length) z = (Q ++ S) ++ z :: (z :: R) := by
    have := JD (Q ++ S ++ [z]) R x z ((Q ++ S).length + 1 + ([] : List Formula).length) (by simp; omega)
    simpa using this
   rw [this]; exact mw _ _ _ _ rfl
  rw [i3, aA, dy, LH, Mp]
  have := ih S Q (z :: R) n ((Q ++ S).length : Int) i (by omega) (by omega) (by simp; omega) (by simp) g
  simpa using this
end
section
variable {c : Formula → Formula → Int} {G : Formula → Prop} {f : Formula × Formula → Option Int}
theorem SK (a0 : List Formula) (k a3 a2 : Int) (rec : List Formula → Int → Int → Int → ((Formula × Formula) → Option Int) → Option (List Formula)) (mid m p : Nat) (l : k + a3 = ((2 * mid : Nat) : Int) ∨ k + a3 = ((2 * mid + 1 : Nat) : Int)) (hm : a2 = (m : Int)) (hp : p + 1 = mid + m) (g : Nat → Bool) (lo a : Nat) (Q : a ≤ 1000000) (T : mid ≤ 1000000) (R : mid + m ≤ 2000000) (hle : a ≤ p + 1) (G : ∀ h, lo ≤ h → h < a → Ask a0 f ((p - h : Nat) : Int) (h : Int) (!g h)) : ∀ (d n i j : Nat), j - i ≤ d → d < n → lo ≤ i → i ≤ j → j ≤ a → (i = lo ∨ g (i - 1) = true) → (j = a ∨ g j = false) →
  ∃ t W, lo ≤ t ∧ t ≤ a ∧ (t = lo ∨ g (t - 1) = true) ∧ (t = a ∨ g t = false) ∧ ku a0 k a3 a2 f rec n (i : Int) (j : Int) = ku a0 k a3 a2 f rec (W + 1) (t : Int) (t : Int) := by
 have b : wi0 .i64 (Int.fdiv (IntKind.u64.wrap (wi0 .i64 (k + a3))) (2 ^ min (Int.toNat 1) (IntKind.bits .u64))) = (mid : Int) := by
  rcases l with h | h
  ·rw [Ci _ h (by omega), show 2 * mid / 2 = mid by omega]
  ·rw [Ci _ h (by omega), show (2 * mid + 1) / 2 = mid by omega]
 intro d
 induction d with
 | zero =>
  intro n i j h1 U s O u v w
  obtain ⟨n, rfl⟩ := aO (by omega : n ≠ 0)
  obtain rfl : i = j := by omega
  exact ⟨i, n, s, u, v, w, rfl⟩
 | succ d ih =>
  intro n i j h1 U s O u v w
  obtain ⟨n, rfl⟩ := aO (by omega : n ≠ 0)
  by_cases z : i = j
  ·subst z; exact ⟨i, n, s, u, v, w, rfl⟩
  have P := Ci (i + j) (x := (i : Int) + (j : Int)) (by omega) (by omega)
  obtain ⟨x, y, r, I, J, L, M⟩ := G ((i + j) / 2) (by omega) (by omega)
  have Y : wi0 .i64 ((mid : Int) + a2) = ((mid + m : Nat) : Int) := mU _ (by omega) (by omega)
  have Z : wi0 .i64 (((mid + m : Nat) : Int) - 1) = (p : Int) := mU _ (by omega) (by omega)
  have w3 : wi0 .i64 ((p : Int) - (((i + j) / 2 : Nat) : Int)) = ((p - (i + j) / 2 : Nat) : Int) := mU _ (by omega) (by omega)
  rw [ku]
  have E : ((i : Int) < (j : Int)) := by omega
  simp only [E, bV, aM, P, b, Y, Z, w3, I, J, L, M, aA, gz]
  cases q : g ((i + j) / 2)
  ·simp only [aB, aH]
   exact ih n i ((i + j) / 2) (by omega) (by omega) s (by omega) (by omega) v (.inr q)
  ·simp only [aM]
   rw [mU ((i + j) / 2 + 1) (by omega) (by omega)]
   exact ih n ((i + j) / 2 + 1) j (by omega) (by omega) (by omega) (by omega) u (.inr (by simpa using q)) w
theorem Rs (a0 : List Formula) (b a3 a2 : Int) (rec : List Formula → Int → Int → Int → ((Formula × Formula) → Option Int) → Option (List Formula)) (mid m t n : Nat) (d : b + a3 = ((2 * mid : Nat) : Int) ∨ b + a3 = ((2 * mid + 1 : Nat) : Int)) (hm : a2 = (m : Int)) (s : mid ≤ 1000000) (r : mid + m ≤ 2000000) (y : t ≤ mid + m) :
  ku a0 b a3 a2 f rec (n + 1) (t : Int) (t : Int) =
   ((if t < m ∧ m < mid + m - t then mj a0 (t : Int) a2 ((mid + m - t : Nat) : Int) f else some a0).bind fun l => ((if b < (t : Int) ∧ t < mid then rec l b (t : Int) (mid : Int) f else some l).bind fun l => if mid < mid + m - t ∧ ((mid + m - t : Nat) : Int) < a3 then rec l (mid : Int) ((mid + m - t : Nat) : Int) a3 f else some l)) := by
 have a : wi0 .i64 (Int.fdiv (IntKind.u64.wrap (wi0 .i64 (b + a3))) (2 ^ min (Int.toNat 1) (IntKind.bits .u64))) = (mid : Int) := by
  rcases d with h | h
  ·rw [Ci _ h (by omega), show 2 * mid / 2 = mid by omega]
  ·rw [Ci _ h (by omega), show (2 * mid + 1) / 2 = mid by omega]
 have v : wi0 .i64 ((mid : Int) + a2) = ((mid + m : Nat) : Int) := mU _ (by omega) (by omega)
 have w : wi0 .i64 (((mid + m : Nat) : Int) - (t : Int)) = ((mid + m - t : Nat) : Int) := mU _ (by omega) (by omega)
 rw [ku]
 simp only [Int.lt_irrefl, cC, aB, aH, a, v, w, nH]
 subst hm
 have g : ((t : Int) < (m : Int)) = (t < m) := by simp
 have i : ((m : Int) < ((mid + m - t : Nat) : Int)) = (m < mid + m - t) := by rw [gi]; omega
 have j : ((t : Int) < (mid : Int)) = (t < mid) := by simp
 have k : ((mid : Int) < ((mid + m - t : Nat) : Int)) = (mid < mid + m - t) := by rw [gi]; omega
 simp only [g, i, j, k]
 have key : ∀ (p q : Prop) [Decidable p] [Decidable q] (A B : Option (List Formula)), ((if decide p = true then some (decide q) else some false : Option Bool).bind fun x => if x = true then A else B) = if p ∧ q then A else B := by
  intro p q _ _ A B
  by_cases hp : p <;> by_cases u : q <;> simp [hp, u]
 simp only [key]
theorem LX (p A q : List Formula) (h : Nat) (b : p.length ≤ h) (h1 : h < p.length + A.length) : ∃ x, A[h - p.length]? = some x ∧ kV (p ++ (A ++ q)) (h : Int) = some x := by
 obtain ⟨x, a⟩ : ∃ x, A[h - p.length]? = some x := ⟨_, cU (by omega)⟩
 refine ⟨x, a, ?_⟩
 rw [Eu, eJ b, fR (by omega), a]
end
section
variable {c : Formula → Formula → Int} {G : Formula → Prop} {f : Formula × Formula → Option Int}
theorem CR {α : Type} {P A' : List α} {z : α} (S : List α) (h : P = A' ++ [z]) : (P ++ S)[P.length - 1]? = some z := by subst h; simp
theorem Cs {α : Type} {S B' : List α} {z : α} (P : List α) (h : S = z :: B') : (P ++ S)[P.length]? = some z := by subst h; simp
theorem xv {A : List (Formula × Nat)} {i : Nat} {z : Formula × Nat} (h : A[i]? = some z) : (A.map (·.1))[i]? = some z.1 := by simp [h]
theorem Sg (h : SWO (mV c)) (U : BN f c G) (x : Formula × Nat) (B : List (Formula × Nat)) (pre post : List Formula) (a m b : Int) (M : nS (mV c) B) (Z : ∀ y ∈ B, x.2 < y.2) (w : ∀ y ∈ x :: B, G y.1) (W : (pre ++ x.1 :: (B.map (·.1) ++ post)).length ≤ 400000) (ha : a = (pre.length : Int)) (hm : m = ((pre.length + 1 : Nat) : Int)) (T : b = ((pre.length + 1 + B.length : Nat) : Int)) :
  ∃ u, kG (pre ++ x.1 :: (B.map (·.1) ++ post)) a f jP m b = some (pre ++ (u.map (·.1) ++ post)) ∧ nS (mV c) u ∧ u.Perm (x :: B) := by
 have r := W
 simp only [aD, aI, cW] at r
 let g : Nat → Bool := fun k => match (B.map (·.1))[k - (pre.length + 1)]? with | some y => mV c y x.1 | none => false
 have j : ∀ k, pre.length + 1 ≤ k → k < pre.length + 1 + B.length → Ask (pre ++ x.1 :: (B.map (·.1) ++ post)) f (k : Int) a (g k) := by
  intro k h1 h2
  obtain ⟨y, s, E⟩ := LX (pre ++ [x.1]) (B.map (·.1)) post k (by simp; omega) (by simp; omega)
  have I : kV (pre ++ x.1 :: (B.map (·.1) ++ post)) (k : Int) = some y := by simpa using E
  have J : kV (pre ++ x.1 :: (B.map (·.1) ++ post)) a = some x.1 := mw _ _ _ _ ha
  have hy : G y := by
   obtain ⟨q, Y, rfl⟩ := bF.1 (cV s)
   exact w q (by simp [Y])
  refine ⟨y, x.1, _, I, J, U y x.1 hy (w x (by simp)), ?_⟩
  simp only [aD, aI, bP] at s
  simp only [g, s]
 obtain ⟨t, n', t1, t2, t3, t4, e⟩ := Tq (f := f) _ a g (pre.length + 1) (pre.length + 1 + B.length) (by omega) j B.length jP (pre.length + 1) (pre.length + 1 + B.length) (by omega) (by rw [lj]; omega) (aU _) (by omega) (aU _) (.inl rfl) (.inl rfl)
 rw [hm, T, e, kG]
 simp only [Int.lt_irrefl, cC, aB, aH, nH]
 obtain ⟨P, S, rfl, O⟩ := vM (l := B) (n := t - (pre.length + 1)) (by omega)
 simp only [aD] at r t2 t4
 have L : pre ++ x.1 :: ((P ++ S).map (·.1) ++ post) = pre ++ x.1 :: (P.map (·.1) ++ (S.map (·.1) ++ post)) := by simp
 rw [L, SC x.1 (P.map (·.1)) pre (S.map (·.1) ++ post) jP a (t : Int) (by rw [lj]; simp; omega) (by simp; omega) ha (by simp; omega)]
 refine ⟨P ++ x :: S, by simp, G9 h M ?_ ?_, eE⟩
 ·intro A' z v B' i d
  simp only [aW] at d
  rw [← d.1]
  have Q : 0 < P.length := by rw [i]; simp
  have hp : g (t - 1) = true := by
   rcases t3 with t3 | t3
   ·omega
   ·exact t3
  have p := xv (CR S i)
  rw [show P.length - 1 = t - 1 - (pre.length + 1) by omega] at p
  simp only [g, p] at hp
  exact .inl hp
 ·intro A' z v B' i d
  have hz : z = x := by
   cases A' with
   | nil => simpa using i.symm
   | cons _ A' => simp at i
  rw [hz]
  have R : 0 < S.length := by rw [d]; simp
  have hp : g t = false := by
   rcases t4 with t4 | t4
   ·omega
   ·exact t4
  have p := xv (Cs P d)
  rw [O] at p
  simp only [g, p] at hp
  exact .inr ⟨hp, Z v (by rw [d]; simp)⟩
theorem Su (h : SWO (mV c)) (Q : BN f c G) (y : Formula × Nat) (A : List (Formula × Nat)) (pre post : List Formula) (a m : Int) (J : nS (mV c) A) (U : ∀ x ∈ A, x.2 < y.2) (s : ∀ x ∈ y :: A, G x.1) (R : (pre ++ (A.map (·.1) ++ y.1 :: post)).length ≤ 400000) (ha : a = (pre.length : Int)) (hm : m = ((pre.length + A.length : Nat) : Int)) :
  ∃ u, kH (pre ++ (A.map (·.1) ++ y.1 :: post)) m f jP a m = some (pre ++ (u.map (·.1) ++ post)) ∧ nS (mV c) u ∧ u.Perm (A ++ [y]) := by
 have p := R
 simp only [aD, aI, cW] at p
 let g : Nat → Bool := fun k => match (A.map (·.1))[k - pre.length]? with | some x => !mV c y.1 x | none => false
 have i : ∀ k, pre.length ≤ k → k < pre.length + A.length → Ask (pre ++ (A.map (·.1) ++ y.1 :: post)) f m (k : Int) (!g k) := by
  intro k h1 Z
  obtain ⟨x, r, w⟩ := LX pre (A.map (·.1)) (y.1 :: post) k h1 (by simp; omega)
  have E : kV (pre ++ (A.map (·.1) ++ y.1 :: post)) m = some y.1 := by
   have := mw (pre ++ A.map (·.1)) y.1 post m (by rw [hm]; simp)
   simpa using this
  have W : G x := by
   obtain ⟨q, T, rfl⟩ := bF.1 (cV r)
   exact s q (by simp [T])
  refine ⟨y.1, x, _, E, w, Q y.1 x (s y (by simp)) W, ?_⟩
  simp only [g, r, gz]
 obtain ⟨t, n', t1, t2, t3, t4, e⟩ := TH (f := f) _ m g pre.length (pre.length + A.length) (by omega) i A.length jP pre.length (pre.length + A.length) (by omega) (by rw [lj]; omega) (aU _) (by omega) (aU _) (.inl rfl) (.inl rfl)
 rw [← hm, ← ha] at e
 rw [e, kH]
 simp only [Int.lt_irrefl, cC, aB, aH, nH]
 obtain ⟨P, S, rfl, L⟩ := vM (l := A) (n := t - pre.length) (by omega)
 simp only [aD] at p t2 t4 hm
 have I : pre ++ ((P ++ S).map (·.1) ++ y.1 :: post) = (pre ++ P.map (·.1)) ++ (S.map (·.1) ++ y.1 :: post) := by simp
 rw [I, TC y.1 S.length (S.map (·.1)) (pre ++ P.map (·.1)) post jP m (t : Int) (by simp) (by rw [lj]; omega) (by simp; omega) (by rw [hm]; simp; omega) (by simp; omega)]
 refine ⟨P ++ y :: S, by simp, G9 h J ?_ ?_, List.perm_middle.trans (fL y (P ++ S)).symm⟩
 ·intro A' z v B' b d
  simp only [aW] at d
  rw [← d.1]
  have M : 0 < P.length := by rw [b]; simp
  have hp : g (t - 1) = true := by
   rcases t3 with t3 | t3
   ·omega
   ·exact t3
  have j := xv (CR S b)
  rw [show P.length - 1 = t - 1 - pre.length by omega] at j
  simp only [g, j, eX] at hp
  exact .inr ⟨hp, U z (by rw [b]; simp)⟩
 ·intro A' z v B' b d
  have Y : z = y := by
   cases A' with
   | nil => simpa using b.symm
   | cons _ A' => simp at b
  rw [Y]
  have O : 0 < S.length := by rw [d]; simp
  have hp : g t = false := by
   rcases t4 with t4 | t4
   ·omega
   ·exact t4
  have j := xv (Cs P d)
  rw [L] at j
  simp only [g, j, Bool.not_eq_false'] at hp
  exact .inl hp
theorem NG {α : Type} {A1 A2 B1 B2 C1 C2 : List α} (a : C1.Perm (A1 ++ B1)) (b : C2.Perm (A2 ++ B2)) : (C1 ++ C2).Perm ((A1 ++ A2) ++ (B1 ++ B2)) := by
 refine (a.append b).trans ?_
 simp only [aG]
 refine cA A1 ?_
 exact fH B1 A2 B2
def O5 (c : Formula → Formula → Int) (A B : List Formula) (a b p q : Nat) : Bool := match A[q - a]?, B[p - q - b]? with | some x, some y => !mV c y x | _, _ => false
theorem IC {A B : List Formula} {a b p q : Nat} {x y : Formula} (h1 : A[q - a]? = some x) (d : B[p - q - b]? = some y) : O5 c A B a b p q = !mV c y x := by simp only [O5, h1, d]
theorem Ta (l : BN f c G) (A B : List (Formula × Nat)) (pre post : List Formula) (a p : Nat) (m : a = pre.length + A.length) (h : ∀ x ∈ A ++ B, G x.1) (q : Nat) (s : pre.length ≤ q) (t : q < a) (u : a ≤ p - q) (v : p - q < a + B.length) :
  Ask (pre ++ (A.map (·.1) ++ (B.map (·.1) ++ post))) f ((p - q : Nat) : Int) (q : Int) (!O5 c (A.map (·.1)) (B.map (·.1)) pre.length a p q) := by
 obtain ⟨x, g, i⟩ := LX pre (A.map (·.1)) (B.map (·.1) ++ post) q s (by simp; omega)
 obtain ⟨y, b, j⟩ := LX (pre ++ A.map (·.1)) (B.map (·.1)) post (p - q) (by simp; omega) (by simp; omega)
 have n : G x := by
  obtain ⟨z, d, rfl⟩ := bF.1 (cV g)
  exact h z (by simp [d])
 have r : G y := by
  obtain ⟨z, d, rfl⟩ := bF.1 (cV b)
  exact h z (by simp [d])
 have k : kV (pre ++ (A.map (·.1) ++ (B.map (·.1) ++ post))) ((p - q : Nat) : Int) = some y := by simpa using j
 refine ⟨y, x, _, k, i, l y x r n, ?_⟩
 rw [show p - q - (pre ++ A.map (·.1)).length = p - q - a by simp; omega] at b
 rw [IC g b, gz]
abbrev Tt (c : Formula → Formula → Int) (G : Formula → Prop) (f : Formula × Formula → Option Int) (rec : List Formula → Int → Int → Int → ((Formula × Formula) → Option Int) → Option (List Formula)) (k : Nat) : Prop :=
 ∀ (A B : List (Formula × Nat)) (pre post : List Formula) (a m b : Int), A.length + B.length ≤ k → 0 < A.length → 0 < B.length → nS (mV c) A → nS (mV c) B →
  (∀ x ∈ A, ∀ y ∈ B, x.2 < y.2) → (∀ x ∈ A ++ B, G x.1) → (pre ++ (A.map (·.1) ++ (B.map (·.1) ++ post))).length ≤ 400000 → a = (pre.length : Int) → m = ((pre.length + A.length : Nat) : Int) → b = ((pre.length + A.length + B.length : Nat) : Int) →
  ∃ u, rec (pre ++ (A.map (·.1) ++ (B.map (·.1) ++ post))) a m b f = some (pre ++ (u.map (·.1) ++ post)) ∧ nS (mV c) u ∧ u.Perm (A ++ B)
theorem Rg (h : SWO (mV c)) {rec : List Formula → Int → Int → Int → ((Formula × Formula) → Option Int) → Option (List Formula)} {k : Nat} (ih : Tt c G f rec k) (A1 A2 B1 B2 : List (Formula × Nat)) (pre post : List Formula) (a m b : Int) (mid d t : Nat) (Q : d = pre.length + (A1.length + A2.length)) (T : mid = (pre.length + (d + (B1.length + B2.length))) / 2) (O : A1.length = t - pre.length) (P : B1.length = mid - t) (U : pre.length ≤ t) (W : t ≤ mid) (Y : t ≤ d) (hk : A1.length + A2.length + (B1.length + B2.length) ≤ k + 1) (R : 2 ≤ A1.length + A2.length + (B1.length + B2.length)) (p : nS (mV c) (A1 ++ A2)) (q : nS (mV c) (B1 ++ B2)) (M : ∀ x ∈ A1 ++ A2, ∀ y ∈ B1 ++ B2, x.2 < y.2) (L : ∀ x ∈ (A1 ++ A2) ++ (B1 ++ B2), G x.1) (hl : pre.length + (A1.length + A2.length + (B1.length + B2.length + post.length)) ≤ 400000) (ha : a = (pre.length : Int)) (hm : m = (d : Int)) (hb : b = ((d + (B1.length + B2.length) : Nat) : Int)) (Z : Lk (mV c) A1 B2) (l2 : Lk (mV c) B1 A2) :
  ∃ u, ((if t < d ∧ d < mid + d - t then mj (pre ++ ((A1 ++ A2).map (·.1) ++ ((B1 ++ B2).map (·.1) ++ post))) (t : Int) m ((mid + d - t : Nat) : Int) f else some (pre ++ ((A1 ++ A2).map (·.1) ++ ((B1 ++ B2).map (·.1) ++ post)))).bind fun l =>
   ((if a < (t : Int) ∧ t < mid then rec l a (t : Int) (mid : Int) f else some l).bind fun l => if mid < mid + d - t ∧ ((mid + d - t : Nat) : Int) < b then rec l (mid : Int) ((mid + d - t : Nat) : Int) b f else some l)) = some (pre ++ (u.map (·.1) ++ post)) ∧ nS (mV c) u ∧ u.Perm ((A1 ++ A2) ++ (B1 ++ B2)) := by
 have r1 : (if t < d ∧ d < mid + d - t then mj (pre ++ ((A1 ++ A2).map (·.1) ++ ((B1 ++ B2).map (·.1) ++ post))) (t : Int) m ((mid + d - t : Nat) : Int) f else some (pre ++ ((A1 ++ A2).map (·.1) ++ ((B1 ++ B2).map (·.1) ++ post)))) =
   some (pre ++ (A1.map (·.1) ++ (B1.map (·.1) ++ (A2.map (·.1) ++ (B2.map (·.1) ++ post))))) := by
  by_cases i : t < d ∧ d < mid + d - t
  ·rw [aZ i]
   have := TB (f := f) (A2.map (·.1)) (B1.map (·.1)) (pre ++ A1.map (·.1)) (B2.map (·.1) ++ post) (t : Int) m ((mid + d - t : Nat) : Int) (by simp; omega) (by simp; omega) (by simp; omega) (by simp; omega) (by simp; omega) (by simp; omega)
   simpa using this
  ·rw [aY i]
   have : A2 = [] ∨ B1 = [] := by
    by_cases h1 : A2.length = 0
    ·exact .inl (aR h1)
    ·exact .inr (aR (by omega))
   rcases this with rfl | rfl <;> simp
 rw [r1, aA]
 have r2 : ∃ C1, (if a < (t : Int) ∧ t < mid then rec (pre ++ (A1.map (·.1) ++ (B1.map (·.1) ++ (A2.map (·.1) ++ (B2.map (·.1) ++ post))))) a (t : Int) (mid : Int) f else some (pre ++ (A1.map (·.1) ++ (B1.map (·.1) ++ (A2.map (·.1) ++ (B2.map (·.1) ++ post)))))) =
   some (pre ++ (C1.map (·.1) ++ (A2.map (·.1) ++ (B2.map (·.1) ++ post)))) ∧ nS (mV c) C1 ∧ C1.Perm (A1 ++ B1) := by
  by_cases i : a < (t : Int) ∧ t < mid
  ·rw [aZ i]
   exact ih A1 B1 pre (A2.map (·.1) ++ (B2.map (·.1) ++ post)) a t mid (by omega) (by omega) (by omega) p.left q.left (fun x g y E => M x (by simp [g]) y (by simp [E])) (fun x g => L x (by simp at g ⊢; rcases g with g | g <;> simp [g]))
    (by simp; omega) ha (by omega) (by omega)
  ·rw [aY i]
   refine ⟨A1 ++ B1, by simp, IE h p.left q.left (fun A' x y B' I J => ?_), .refl _⟩
   have g1 : 0 < A1.length := by rw [I]; simp
   have g2 : 0 < B1.length := by rw [J]; simp
   omega
 obtain ⟨C1, r, v, j⟩ := r2
 have s := j.length_eq
 simp only [aD] at s
 rw [r, aA]
 have r3 : ∃ C2, (if mid < mid + d - t ∧ ((mid + d - t : Nat) : Int) < b then rec (pre ++ (C1.map (·.1) ++ (A2.map (·.1) ++ (B2.map (·.1) ++ post)))) (mid : Int) ((mid + d - t : Nat) : Int) b f else some (pre ++ (C1.map (·.1) ++ (A2.map (·.1) ++ (B2.map (·.1) ++ post))))) =
   some ((pre ++ C1.map (·.1)) ++ (C2.map (·.1) ++ post)) ∧ nS (mV c) C2 ∧ C2.Perm (A2 ++ B2) := by
  by_cases i : mid < mid + d - t ∧ ((mid + d - t : Nat) : Int) < b
  ·rw [aZ i]
   have := ih A2 B2 (pre ++ C1.map (·.1)) post mid ((mid + d - t : Nat) : Int) b (by omega) (by omega) (by omega) p.right q.right (fun x g y E => M x (by simp [g]) y (by simp [E])) (fun x g => L x (by simp at g ⊢; rcases g with g | g <;> simp [g]))
    (by simp; omega) (by simp; omega) (by simp; omega) (by simp; omega)
   simpa using this
  ·rw [aY i]
   refine ⟨A2 ++ B2, by simp, IE h p.right q.right (fun A' x y B' I J => ?_), .refl _⟩
   have g1 : 0 < A2.length := by rw [I]; simp
   have g2 : 0 < B2.length := by rw [J]; simp
   omega
 obtain ⟨C2, w, z, n⟩ := r3
 rw [w]
 exact ⟨C1 ++ C2, by simp, Qa h p q Z l2 j n v z, NG j n⟩
theorem NY (F : Nat) (M : 1000000 < F) (L : List Formula) (rec : List Formula → Int → Int → Int → ((Formula × Formula) → Option Int) → Option (List Formula)) (pl g h mid d p : Nat) (a b m : Int) (r : Nat → Bool) (w : 0 < g) (y : 0 < h) (G : pl + (g + h) ≤ 400000) (E : mid = (pl + (pl + g + h)) / 2) (z : d = pl + g) (hp : p + 1 = mid + d) (l : a + b = ((2 * mid : Nat) : Int) ∨ a + b = ((2 * mid + 1 : Nat) : Int)) (ha : a = (pl : Int)) (k : m = (d : Int)) (O : b = ((pl + g + h : Nat) : Int)) (i : ∀ q, pl ≤ q → q < d → d ≤ p - q → p - q < d + h → Ask L f ((p - q : Nat) : Int) (q : Int) (!r q)) :
  ∃ t n lo s : Nat, (lo = pl ∧ s = d ∧ d ≤ mid ∨ lo + (pl + g + h) = mid + d ∧ s = mid ∧ mid < d) ∧ lo ≤ t ∧ t ≤ s ∧ (t = lo ∨ r (t - 1) = true) ∧ (t = s ∨ r t = false) ∧
    ((if decide (m > (mid : Int)) then some (wi0 .i64 (((mid + d : Nat) : Int) - b), (mid : Int)) else some (a, m) : Option (Int × Int)).bind fun x => ku L a b m f rec F x.1 x.2) =
     ku L a b m f rec (n + 1) (t : Int) (t : Int) := by
 by_cases v : mid < d
 ·obtain ⟨lo, u⟩ : ∃ lo : Nat, lo + (pl + g + h) = mid + d := ⟨mid + d - (pl + g + h), by omega⟩
  obtain ⟨t, n, t1, t2, t3, t4, e⟩ := SK (f := f) L a b m rec mid d p l k hp r lo mid (by omega) (by omega) (by omega) (by omega) (fun q I J => i q (by omega) (by omega) (by omega) (by omega))
   (mid - lo) F lo mid (aU _) (by omega) (aU _) (by omega) (aU _) (.inl rfl) (.inl rfl)
  refine ⟨t, n, lo, mid, .inr ⟨u, rfl, v⟩, t1, t2, t3, t4, ?_⟩
  have j : m > (mid : Int) := by omega
  simp only [j, bV, aM, aA]
  rw [mU lo (by omega) (by omega), e]
 ·obtain ⟨t, n, t1, t2, t3, t4, e⟩ := SK (f := f) L a b m rec mid d p l k hp r pl d (by omega) (by omega) (by omega) (by omega) (fun q I J => i q (by omega) (by omega) (by omega) (by omega))
   (d - pl) F pl d (aU _) (by omega) (aU _) (by omega) (aU _) (.inl rfl) (.inl rfl)
  refine ⟨t, n, pl, d, .inl ⟨rfl, rfl, by omega⟩, t1, t2, t3, t4, ?_⟩
  have j : ¬ (m > (mid : Int)) := by omega
  simp only [j, cC, aB, aH, aA]
  rw [← e, ← ha, ← k]
set_option maxHeartbeats 2000000 in
theorem Te (h : SWO (mV c)) (hf : BN f c G) : ∀ (k : Nat) (A B : List (Formula × Nat)) (pre post : List Formula) (n : Nat) (a m b : Int), A.length + B.length ≤ k → 0 < A.length → 0 < B.length → k < n → nS (mV c) A → nS (mV c) B →
  (∀ x ∈ A, ∀ y ∈ B, x.2 < y.2) → (∀ x ∈ A ++ B, G x.1) → (pre ++ (A.map (·.1) ++ (B.map (·.1) ++ post))).length ≤ 400000 → a = (pre.length : Int) → m = ((pre.length + A.length : Nat) : Int) → b = ((pre.length + A.length + B.length : Nat) : Int) →
  ∃ u, kR n (pre ++ (A.map (·.1) ++ (B.map (·.1) ++ post))) a m b f = some (pre ++ (u.map (·.1) ++ post)) ∧ nS (mV c) u ∧ u.Perm (A ++ B) := by
 intro k
 induction k with
 | zero => intro A B pre post n a m b h0 h1 h2; omega
 | succ k ih =>
  intro A B pre post n a m b h0 h1 h2 hn hA hB W U hl ha hm P
  obtain ⟨n, rfl⟩ := aO (by omega : n ≠ 0)
  have Q := hl
  simp only [aD, cW] at Q
  rw [kR]
  unfold oI
  by_cases c1 : A.length = 1
  ·obtain ⟨x, rfl⟩ := List.length_eq_one_iff.1 c1
   have : (wi0 .i64 (m - a) == 1) = true := by rw [mU 1 (by simp at hm; omega) (by omega)]; rfl
   simp only [this, aM]
   obtain ⟨u, u1, u2, u3⟩ := Sg h hf x B pre post a m b hB (fun y hy => W x (by simp) y hy) (fun y hy => U y (by simpa using hy)) (by simpa using hl) ha (by simpa using hm) (by simpa using P)
   exact ⟨u, by simpa using u1, u2, by simpa using u3⟩
  have n1 : (wi0 .i64 (m - a) == 1) = false := by rw [mU A.length (by omega) (by omega)]; simp; omega
  simp only [n1, aB, aH]
  by_cases c2 : B.length = 1
  ·obtain ⟨y, rfl⟩ := List.length_eq_one_iff.1 c2
   have : (wi0 .i64 (b - m) == 1) = true := by rw [mU 1 (by simp at P; omega) (by omega)]; rfl
   simp only [this, aM]
   obtain ⟨u, u1, u2, u3⟩ := Su h hf y A pre post a m hA (fun x Y => W x Y y (by simp)) (fun x Y => U x (by simp at Y ⊢; exact Y.symm)) (by simpa using hl) ha hm
   exact ⟨u, by simpa using u1, u2, u3⟩
  have n2 : (wi0 .i64 (b - m) == 1) = false := by rw [mU B.length (by omega) (by omega)]; simp; omega
  simp only [n2, aB, aH]
  obtain ⟨F, hF, a1⟩ : ∃ F, F = jP ∧ 1000000 < F := ⟨jP, rfl, by rw [lj]; omega⟩
  rw [← hF]
  obtain ⟨mid, I⟩ : ∃ mid : Nat, mid = (pre.length + (pre.length + A.length + B.length)) / 2 := ⟨_, rfl⟩
  obtain ⟨d, j⟩ : ∃ d : Nat, d = pre.length + A.length := ⟨_, rfl⟩
  obtain ⟨p, hp⟩ : ∃ p : Nat, p + 1 = mid + d := ⟨mid + d - 1, by omega⟩
  have w : a + b = ((2 * mid : Nat) : Int) ∨ a + b = ((2 * mid + 1 : Nat) : Int) := by omega
  have J : wi0 .i64 (Int.fdiv (IntKind.u64.wrap (wi0 .i64 (a + b))) (2 ^ min (Int.toNat 1) (IntKind.bits .u64))) = (mid : Int) := by
   rcases w with h | h
   ·rw [Ci _ h (by omega), show 2 * mid / 2 = mid by omega]
   ·rw [Ci _ h (by omega), show (2 * mid + 1) / 2 = mid by omega]
  have E : m = (d : Int) := by omega
  have w1 : wi0 .i64 ((mid : Int) + m) = ((mid + d : Nat) : Int) := mU _ (by omega) (by omega)
  obtain ⟨L, r⟩ : ∃ L : Nat → Bool, L = O5 c (A.map (·.1)) (B.map (·.1)) pre.length d p := ⟨_, rfl⟩
  have O : ∀ q, pre.length ≤ q → q < d → d ≤ p - q → p - q < d + B.length → Ask (pre ++ (A.map (·.1) ++ (B.map (·.1) ++ post))) f ((p - q : Nat) : Int) (q : Int) (!L q) := fun q g i q3 q4 => by rw [r]; exact Ta hf A B pre post d p j U q g i q3 q4
  obtain ⟨t, n', lo, hi, a6, t1, t2, t3, t4, e⟩ := NY (f := f) F a1 (pre ++ (A.map (·.1) ++ (B.map (·.1) ++ post))) (kR n) pre.length A.length B.length mid d p a b m L (by omega) (by omega) (by omega) I j hp w ha E P O
  simp only [J, w1]
  rw [e, Rs (f := f) _ a b m _ mid d t n' w E (by omega) (by omega) (by omega)]
  obtain ⟨A1, A2, rfl, M⟩ := vM (l := A) (n := t - pre.length) (by omega)
  obtain ⟨B1, B2, rfl, Z⟩ := vM (l := B) (n := mid - t) (by omega)
  simp only [aD] at h0 h1 h2 Q t1 t2 t3 t4 a6 hm P j I
  have R : ∀ q x y, ((A1 ++ A2).map (·.1))[q - pre.length]? = some x → ((B1 ++ B2).map (·.1))[p - q - d]? = some y → L q = !mV c y x := fun q x y s v => by rw [r]; exact IC s v
  have l1 : Lk (mV c) A1 B2 := by
   intro A' z b' B' g i
   have g1 : 0 < A1.length := by rw [g]; simp
   have g2 : 0 < B2.length := by rw [i]; simp
   have T : L (t - 1) = true := by
    rcases t3 with t3 | t3
    ·omega
    ·exact t3
   have s := xv (CR A2 g)
   have v := xv (Cs B1 i)
   rw [show A1.length - 1 = t - 1 - pre.length by omega] at s
   rw [show B1.length = p - (t - 1) - d by omega] at v
   rw [R _ _ _ s v, eX] at T
   exact .inr ⟨T, W z (by rw [g]; simp) b' (by rw [i]; simp)⟩
  have l2 : Lk (mV c) B1 A2 := by
   intro A' z b' B' g i
   have g1 : 0 < B1.length := by rw [g]; simp
   have g2 : 0 < A2.length := by rw [i]; simp
   have T : L t = false := by
    rcases t4 with t4 | t4
    ·omega
    ·exact t4
   have s := xv (CR B2 g)
   have v := xv (Cs A1 i)
   rw [show B1.length - 1 = p - t - d by omega] at s
   rw [M] at v
   rw [R _ _ _ v s, Bool.not_eq_false'] at T
   exact .inl T
  exact Rg h (fun A B pre post a m b g i q3 => ih A B pre post n a m b g i q3 (by omega)) A1 A2 B1 B2 pre post a m b mid d t j (by rw [I]; congr 1; omega) M Z (by omega) (by omega) (by omega) (by omega) (by omega) hA hB W U (by omega) ha E (by rw [P]; congr 1; omega) l1 l2
end
section
variable {c : Formula → Formula → Int} {G : Formula → Prop} {f : Formula × Formula → Option Int}
def wE (c : Formula → Formula → Int) : Nat → List (List (Formula × Nat)) → Prop
 | _, [] => True
 | o, A :: bs => nS (mV c) A ∧ (∀ x ∈ A, o ≤ x.2 ∧ x.2 < o + A.length) ∧ wE c (o + A.length) bs
def WB (s : Nat) : List (List (Formula × Nat)) → Prop
 | [] => True
 | A :: bs => A.length ≤ s ∧ (bs ≠ [] → A.length = s) ∧ WB s bs
theorem wE.append : ∀ {ds bs : List (List (Formula × Nat))} {o : Nat}, wE c o (ds ++ bs) ↔ wE c o ds ∧ wE c (o + ds.flatten.length) bs
 | [], bs, o => by simp [wE]
 | A :: ds, bs, o => by
  simp only [bA, wE, wE.append (ds := ds), bO, aD, and_assoc, ek]
def fm (bs : List (List (Formula × Nat))) : List Formula := bs.flatten.map (·.1)
theorem HP (a b : List (List (Formula × Nat))) : fm (a ++ b) = fm a ++ fm b := by simp [fm]
theorem Ky (A : List (Formula × Nat)) (b : List (List (Formula × Nat))) : fm (A :: b) = A.map (·.1) ++ fm b := by simp [fm]
theorem qD (a : List (List (Formula × Nat))) : (fm a).length = a.flatten.length := by unfold fm; rw [cW]
theorem Ns (ds : List (List (Formula × Nat))) (C : List (Formula × Nat)) : (ds ++ [C]).flatten.length = ds.flatten.length + C.length := by rw [cN, aD]; simp only [bO, dl, bI]
theorem Q2 (C : List (Formula × Nat)) (bs : List (List (Formula × Nat))) : fm ([C] ++ bs) = C.map (·.1) ++ fm bs := by simp [fm]
theorem EG {R : List Formula} {o : Nat} {x : Formula × Nat} (h : x ∈ R.zipIdx o) : x.1 ∈ R := List.fst_mem_of_mem_zipIdx h
theorem WB.two {s : Nat} {A : List (Formula × Nat)} {bs : List (List (Formula × Nat))} (g : 0 < s) (h : WB s (A :: bs)) (d : s < (A :: bs).flatten.length) : A.length = s ∧ ∃ B a, bs = B :: a ∧ (B.length = s ∨ a = []) ∧ B.length ≤ s ∧ WB s a := by
 cases bs with
 | nil => simp at d; have := h.1; omega
 | cons B a =>
  refine ⟨h.2.1 (by simp), B, a, rfl, ?_, h.2.2.1, h.2.2.2.2⟩
  by_cases b : a = []
  ·exact .inr b
  ·exact .inl (h.2.2.2.1 b)
theorem Jt (h : SWO (mV c)) (u : BN f c G) {ds bs : List (List (Formula × Nat))} {A B : List (Formula × Nat)} (hO : wE c 0 (ds ++ A :: B :: bs)) (s : ∀ x ∈ (ds ++ A :: B :: bs).flatten, G x.1) (i : (fm (ds ++ A :: B :: bs)).length ≤ 400000) (q : 0 < A.length) (r : 0 < B.length) (a m b : Int) (ha : a = (ds.flatten.length : Int)) (hm : m = ((ds.flatten.length + A.length : Nat) : Int)) (t : b = ((ds.flatten.length + A.length + B.length : Nat) : Int)) :
  ∃ C, kR jP (fm (ds ++ A :: B :: bs)) a m b f = some (fm ((ds ++ [C]) ++ bs)) ∧ wE c 0 ((ds ++ [C]) ++ bs) ∧ C.Perm (A ++ B) := by
 obtain ⟨h1, p⟩ := wE.append.1 hO
 obtain ⟨I, l, J, n, v⟩ := p
 have e : fm (ds ++ A :: B :: bs) = fm ds ++ (A.map (·.1) ++ (B.map (·.1) ++ fm bs)) := by rw [HP, Ky, Ky]
 rw [e] at i ⊢
 have j := i
 simp only [aD, cW, qD] at j
 obtain ⟨C, z, E, k⟩ := Te h u (A.length + B.length) A B (fm ds) (fm bs) jP a m b (aU _) q r (by rw [lj]; omega) I J (fun x d y w => by have := (l x d).2; have := (n y w).1; omega)
  (fun x d => s x (by
   rw [cN, bO, bO, aN, aN, aN]
   rcases aN.1 d with d | d
   ·exact .inr (.inl d)
   ·exact .inr (.inr (.inl d)))) i (by rw [ha, qD]) (by rw [hm, qD]) (by rw [t, qD])
 have g := k.length_eq
 simp only [aD] at g
 refine ⟨C, by rw [z, aG, HP, Q2], ?_, k⟩
 ·rw [aG, wE.append]
  refine ⟨h1, E, fun x d => ?_, ?_⟩
  ·rcases aN.1 (k.mem_iff.1 d) with d | d
   ·have := l x d; omega
   ·have := n x d; omega
  ·rw [g, ← ek]; exact v
theorem IS {ds bs : List (List (Formula × Nat))} {A B C : List (Formula × Nat)} (h : C.Perm (A ++ B)) : ((ds ++ [C]) ++ bs).flatten.Perm (ds ++ A :: B :: bs).flatten := by
 simp only [cN, bO, dl, bI, aG]
 refine cA _ ?_
 rw [← aG]
 exact h.append_right _
theorem Py (h : SWO (mV c)) (Q : BN f c G) (s : Nat) (T : 0 < s) (U : s ≤ 1000000) (N : Nat) (hN : N ≤ 400000) : ∀ (k : Nat) (bs ds : List (List (Formula × Nat))) (n : Nat) (a b : Int), bs.length ≤ k → k < n → wE c 0 (ds ++ bs) → (∀ x ∈ (ds ++ bs).flatten, G x.1) → (ds ++ bs).flatten.length = N → WB s bs → (∀ A ∈ ds, A.length = 2 * s) →
  a = (ds.flatten.length : Int) → b = ((ds.flatten.length + 2 * s : Nat) : Int) →
  ∃ es r, lV (N : Int) (s : Int) f n (fm (ds ++ bs)) a b = some (fm (es ++ r), (es.flatten.length : Int)) ∧ wE c 0 (es ++ r) ∧ (es ++ r).flatten.Perm (ds ++ bs).flatten ∧ WB s r ∧ r.flatten.length < 2 * s ∧ (∀ A ∈ es, A.length = 2 * s) := by
 intro k
 induction k with
 | zero =>
  intro bs ds n a b hk R hO q j t l ha O
  obtain ⟨n, rfl⟩ := aO (by omega : n ≠ 0)
  obtain rfl := aR (Nat.le_zero.1 hk)
  simp only [bI] at j
  rw [lV]
  have : ¬ (b ≤ (N : Int)) := by omega
  simp only [this, cC, aB, aH]
  exact ⟨ds, [], by rw [ha], hO, .refl _, trivial, by simp only [dl, bP]; omega, l⟩
 | succ k ih =>
  intro bs ds n a b hk R hO q j t l ha O
  obtain ⟨n, rfl⟩ := aO (by omega : n ≠ 0)
  rw [lV]
  by_cases hle : b ≤ (N : Int)
  ·simp only [hle, bV, aM]
   have d := j
   rw [cN, aD] at d
   cases bs with
   | nil => simp only [dl, bP] at d; omega
   | cons A bs =>
    obtain ⟨hA, B, i, rfl, m, L, u⟩ := WB.two T t (by omega)
    have M : B.length = s := by
     rcases m with m | rfl
     ·exact m
     ·simp only [bO, dl, bI, aD] at d; omega
    have w1 : wi0 .i64 (a + (s : Int)) = ((ds.flatten.length + A.length : Nat) : Int) := mU _ (by omega) (by omega)
    obtain ⟨C, Y, Z, v⟩ := Jt h Q hO q (by rw [qD]; omega) (by omega) (by omega) a _ b ha w1 (by omega)
    rw [Y, aA]
    have p := v.length_eq
    simp only [aD] at p
    have w2 : wi0 .i64 (2 * (s : Int)) = ((2 * s : Nat) : Int) := mU _ (by omega) (by omega)
    have P : (ds ++ [C]).flatten.length = ds.flatten.length + 2 * s := by rw [Ns]; omega
    have w3 : wi0 .i64 (b + ((2 * s : Nat) : Int)) = (((ds ++ [C]).flatten.length + 2 * s : Nat) : Int) := mU _ (by omega) (by omega)
    have hp := IS (ds := ds) (bs := i) v
    rw [w2, w3]
    obtain ⟨es, r, w, y, z, E, I, J⟩ := ih i (ds ++ [C]) n b _ (by simp at hk; omega) (by omega) Z (fun x W => q x (hp.mem_iff.1 W)) (by rw [hp.length_eq, j]) u (fun X g => by
     rcases aN.1 g with g | g
     ·exact l X g
     ·simp at g; rw [g]; omega) (by rw [P]; omega) rfl
    exact ⟨es, r, w, y, z.trans hp, E, I, J⟩
  ·simp only [hle, cC, aB, aH]
   refine ⟨ds, bs, by rw [ha], hO, .refl _, t, ?_, l⟩
   rw [cN, aD] at j
   omega
theorem WB.Gp {t : Nat} : ∀ {es : List (List (Formula × Nat))} {C : List (Formula × Nat)}, (∀ A ∈ es, A.length = t) → C.length ≤ t → WB t (es ++ [C])
 | [], C, _, a => ⟨a, fun h => absurd rfl h, trivial⟩
 | E :: es, C, h, a => ⟨by rw [h E (by simp)]; omega, fun _ => h E (by simp), WB.Gp (fun A b => h A (by simp [b])) a⟩
theorem Mf {s : Nat} {r : List (List (Formula × Nat))} {o : Nat} (b : WB s r) (d : r.flatten.length ≤ s) (hO : wE c o r) : nS (mV c) r.flatten ∧ ∀ x ∈ r.flatten, o ≤ x.2 ∧ x.2 < o + r.flatten.length := by
 cases r with
 | nil => exact ⟨.nil, fun x g => by cases g⟩
 | cons A r =>
  have : r.flatten = [] := by
   by_cases a : r = []
   ·rw [a]; rfl
   ·have := b.2.1 a
    rw [bO, aD] at d
    exact aR (by omega)
  rw [bO, this, bI]
  exact ⟨hO.1, hO.2.1⟩
theorem Oh (h : SWO (mV c)) (U : BN f c G) (N : Nat) (hN : N ≤ 400000) : ∀ (k s : Nat) (bs : List (List (Formula × Nat))) (n : Nat), N - s ≤ k → k < n → 0 < s → s ≤ 1000000 → wE c 0 bs → (∀ x ∈ bs.flatten, G x.1) → bs.flatten.length = N → WB s bs →
  ∃ u, lE (N : Int) f n (fm bs) (s : Int) = some (u.map (·.1)) ∧ nS (mV c) u ∧ u.Perm bs.flatten := by
 intro k
 induction k with
 | zero =>
  intro s bs n hk hn I m hO l i b
  obtain ⟨n, rfl⟩ := aO (by omega : n ≠ 0)
  rw [lE]
  have : ¬ ((s : Int) < (N : Int)) := by omega
  simp only [this, cC, aB, aH]
  refine ⟨bs.flatten, rfl, ?_, .refl _⟩
  cases bs with
  | nil => exact .nil
  | cons A bs =>
   have : bs.flatten = [] := by
    by_cases d : bs = []
    ·rw [d]; rfl
    ·have := b.2.1 d
     rw [bO, aD] at i
     exact aR (by omega)
   rw [bO, this, bI]
   exact hO.1
 | succ k ih =>
  intro s bs n hk hn I m hO l i b
  by_cases a8 : s < N
  ·obtain ⟨n, rfl⟩ := aO (by omega : n ≠ 0)
   rw [lE]
   have : ((s : Int) < (N : Int)) := by omega
   simp only [this, bV, aM]
   have w1 : wi0 .i64 (2 * (s : Int)) = ((2 * s : Nat) : Int) := mU _ (by omega) (by omega)
   have w0 : wi0 .i64 ((s : Int) * 2) = ((2 * s : Nat) : Int) := mU _ (by omega) (by omega)
   have a7 : bs.length ≤ 2000000 := by
    have : ∀ {bs : List (List (Formula × Nat))}, WB s bs → bs.length ≤ bs.flatten.length + 1 := by
     intro bs
     induction bs with
     | nil => intro _; simp
     | cons A bs J =>
      intro b
      by_cases d : bs = []
      ·subst d; simp
      ·have := b.2.1 d
       have := J b.2.2
       simp only [aI, bO, aD]
       omega
    have := this b
    omega
   obtain ⟨es, r, O, P, a, Q, R, T⟩ := Py h U s I m N hN bs.length bs [] jP 0 ((2 * s : Nat) : Int) (aU _) (by rw [lj]; omega) (by simpa using hO) (by simpa using l) (by simpa using i) b (by simp) rfl (by simp)
   simp only [aP] at O a
   rw [w1, O, aA, w0]
   have j := a.length_eq
   rw [i, cN, aD] at j
   have w2 : wi0 .i64 ((es.flatten.length : Int) + (s : Int)) = ((es.flatten.length + s : Nat) : Int) := mU _ (by omega) (by omega)
   simp only [w2]
   by_cases hm : es.flatten.length + s < N
   ·have : (((es.flatten.length + s : Nat) : Int) < (N : Int)) := by omega
    simp only [this, bV, aM, nH]
    cases r with
    | nil => simp only [dl, bP] at j; omega
    | cons A r =>
     obtain ⟨hA, B, Z, rfl, q, a1, a6⟩ := WB.two I Q (by omega)
     have E : Z = [] := by
      rcases q with q | q
      ·by_cases hr : Z = []
       ·exact hr
       ·simp only [bO, aD] at R; omega
      ·exact q
     subst E
     simp only [bO, dl, bI, aD] at j R
     obtain ⟨C, q1, W, Y⟩ := Jt h U P (fun x p => l x (a.mem_iff.1 p)) (by rw [qD, a.length_eq]; omega) (by omega) (by omega) (es.flatten.length : Int) ((es.flatten.length + s : Nat) : Int) (N : Int) rfl (by omega) (by omega)
     rw [q1, aA]
     have v := Y.length_eq
     simp only [aD] at v
     have hp := (IS (ds := es) (bs := []) Y).trans a
     simp only [bI] at W hp ⊢
     obtain ⟨u, L, M, t⟩ := ih (2 * s) (es ++ [C]) n (by omega) (by omega) (by omega) (by omega) W (fun x p => l x (hp.mem_iff.1 p)) (by rw [hp.length_eq, i]) (WB.Gp T (by omega))
     exact ⟨u, L, M, t.trans hp⟩
   ·have : ¬ (((es.flatten.length + s : Nat) : Int) < (N : Int)) := by omega
    simp only [this, cC, aB, aH, aA]
    obtain ⟨w, y⟩ := wE.append.1 P
    obtain ⟨b1, b2⟩ := Mf Q (by omega) y
    have z : fm (es ++ r) = fm (es ++ [r.flatten]) := by simp [fm]
    have g : (es ++ [r.flatten]).flatten = (es ++ r).flatten := by simp
    rw [z]
    obtain ⟨u, L, M, t⟩ := ih (2 * s) (es ++ [r.flatten]) n (by omega) (by omega) (by omega) (by omega) (wE.append.2 ⟨w, b1, b2, trivial⟩) (fun x p => l x (a.mem_iff.1 (by rw [← g]; exact p))) (by rw [g, a.length_eq, i]) (WB.Gp T (by omega))
    exact ⟨u, L, M, by rw [g] at t; exact t.trans a⟩
  ·obtain ⟨n, rfl⟩ := aO (by omega : n ≠ 0)
   rw [lE]
   have : ¬ ((s : Int) < (N : Int)) := by omega
   simp only [this, cC, aB, aH]
   refine ⟨bs.flatten, rfl, ?_, .refl _⟩
   cases bs with
   | nil => exact .nil
   | cons A bs =>
    have : bs.flatten = [] := by
     by_cases d : bs = []
     ·rw [d]; rfl
     ·have := b.2.1 d
      rw [bO, aD] at i
      exact aR (by omega)
    rw [bO, this, bI]
    exact hO.1
theorem Hd : ∀ (l : List Formula) (o : Nat), (l.zipIdx o).Pairwise (fun x y => x.2 < y.2)
 | [], o => by simp
 | x :: l, o => by
  rw [iP, cI]
  refine ⟨fun y d => ?_, Hd l (o + 1)⟩
  obtain ⟨a, b⟩ := y
  have := List.le_snd_of_mem_zipIdx d
  simp only at this ⊢; omega
theorem Ki (l : List Formula) (o : Nat) : ∀ x ∈ l.zipIdx o, o ≤ x.2 ∧ x.2 < o + l.length := by
 rintro ⟨a, b⟩ d
 have h1 := List.le_snd_of_mem_zipIdx d
 have g := List.snd_lt_add_of_mem_zipIdx d
 simp only at h1 g ⊢; omega
theorem MH (h : SWO (mV c)) (k : BN f c G) (N : Nat) (s : N ≤ 300000) (R : List Formula) (ds : List (List (Formula × Nat))) (n : Nat) (a b : Int) (y : 0 < n) (hO : wE c 0 ds) (m : ∀ A ∈ ds, A.length = 20) (p : ∀ x ∈ ds.flatten, G x.1) (j : ∀ x ∈ R, G x) (w : ds.flatten.length + R.length = N) (q : R.length < 20) (ha : a = (ds.flatten.length : Int)) (t : b = ((ds.flatten.length + 20 : Nat) : Int)) :
  ∃ u, lF (N : Int) f n (fm ds ++ R) a b = some (u.map (·.1)) ∧ nS (mV c) u ∧ u.Perm (ds.flatten ++ R.zipIdx ds.flatten.length) := by
 obtain ⟨n, rfl⟩ := aO (by omega : n ≠ 0)
 rw [lF]
 have hle : ¬ (b ≤ (N : Int)) := by omega
 simp only [hle, cC, aB, aH, nH]
 obtain ⟨u, l, r, g⟩ := KK h k (fm ds) [] (R.zipIdx ds.flatten.length) a (N : Int) (Hd _ _) (fun x d => j x.1 (EG d)) (by simp only [aD, qD, cW, ei, bP]; omega) (by rw [qD]; exact ha) (by rw [qD, ei]; omega)
 rw [List.zipIdx_map_fst, bI, bI] at l
 have i := g.length_eq
 rw [ei] at i
 have e : fm ds ++ u.map (·.1) = fm (ds ++ [u]) := by simp [fm]
 have hp : (ds ++ [u]).flatten.Perm (ds.flatten ++ R.zipIdx ds.flatten.length) := by
  rw [cN]
  refine cA _ ?_
  simpa using g
 rw [l, aA, e]
 obtain ⟨v, v1, v2, v3⟩ := Oh h k N (by omega) N 20 (ds ++ [u]) jP (by omega) (by rw [lj]; omega) (by omega) (by omega) (wE.append.2 ⟨hO, r, fun x d => by have := Ki R ds.flatten.length x (g.mem_iff.1 d); omega, trivial⟩) (fun x d => by
  rw [cN, aN] at d
  rcases d with d | d
  ·exact p x d
  ·simp only [bO, dl, bI] at d
   exact j x.1 (EG (g.mem_iff.1 d))) (by rw [hp.length_eq, aD, ei]; omega) (WB.Gp m (by omega))
 exact ⟨v, v1, v2, v3.trans hp⟩
theorem Ox (h : SWO (mV c)) (w : BN f c G) (N : Nat) (E : N ≤ 300000) : ∀ (k : Nat) (R : List Formula) (ds : List (List (Formula × Nat))) (n : Nat) (a b : Int), R.length ≤ k → k < n → wE c 0 ds → (∀ A ∈ ds, A.length = 20) → (∀ x ∈ ds.flatten, G x.1) → (∀ x ∈ R, G x) → ds.flatten.length + R.length = N →
  a = (ds.flatten.length : Int) → b = ((ds.flatten.length + 20 : Nat) : Int) →
  ∃ u, lF (N : Int) f n (fm ds ++ R) a b = some (u.map (·.1)) ∧ nS (mV c) u ∧ u.Perm (ds.flatten ++ R.zipIdx ds.flatten.length) := by
 intro k
 induction k with
 | zero =>
  intro R ds n a b hk I hO p q j r ha t
  obtain rfl := aR (Nat.le_zero.1 hk)
  exact MH h w N E [] ds n a b I hO p q j r (by simp) ha t
 | succ k ih =>
  intro R ds n a b hk I hO p q j r ha t
  by_cases z : R.length < 20
  ·exact MH h w N E R ds n a b (by omega) hO p q j r z ha t
  obtain ⟨n, rfl⟩ := aO (by omega : n ≠ 0)
  obtain ⟨R1, R2, rfl, m⟩ := vM (l := R) (n := 20) (by omega)
  rw [aD] at r hk
  rw [lF]
  have hle : b ≤ (N : Int) := by omega
  simp only [hle, bV, aM]
  obtain ⟨u, J, L, s⟩ := KK h w (fm ds) R2 (R1.zipIdx ds.flatten.length) a b (Hd _ _) (fun x d => j x.1 (by simp [EG d])) (by simp only [aD, qD, cW, ei, bP]; omega) (by rw [qD]; exact ha) (by rw [qD, ei]; omega)
  rw [List.zipIdx_map_fst] at J
  rw [J, aA]
  have g := s.length_eq
  rw [ei, m] at g
  have y : (ds ++ [u]).flatten.length = ds.flatten.length + 20 := by rw [Ns, g]
  have M : wi0 .i64 (b + 20) = (((ds ++ [u]).flatten.length + 20 : Nat) : Int) := mU _ (by omega) (by omega)
  have e : fm ds ++ (u.map (·.1) ++ R2) = fm (ds ++ [u]) ++ R2 := by simp [fm]
  rw [e, M]
  obtain ⟨v, v1, v2, v3⟩ := ih R2 (ds ++ [u]) n b _ (by omega) (by omega) (wE.append.2 ⟨hO, L, fun x d => by have := Ki R1 ds.flatten.length x (s.mem_iff.1 d); omega, trivial⟩) (fun A i => by
   rcases aN.1 i with i | i
   ·exact p A i
   ·simp at i; rw [i]; exact g) (fun x d => by
   rw [cN, aN] at d
   rcases d with d | d
   ·exact q x d
   ·simp only [bO, dl, bI] at d
    exact j x.1 (by simp [EG (s.mem_iff.1 d)])) (fun x d => j x (by simp [d])) (by omega) (by omega) rfl
  refine ⟨v, v1, v2, v3.trans ?_⟩
  rw [y, cN, List.zipIdx_append, m, aG]
  refine cA _ ?_
  simp only [bO, dl, bI]
  exact s.append_right _
theorem Lg (h : SWO (mV c)) (g : BN f c G) (l : List Formula) (d : ∀ x ∈ l, G x) (i : l.length ≤ 300000) : oy l f = some (Jy (mV c) l) := by
 unfold oy qu
 obtain ⟨u, a, j, b⟩ := Ox h g l.length i l.length l [] jP 0 20 (aU _) (by rw [lj]; omega) trivial (by simp) (by simp) d (by simp) rfl rfl
 simp only [fm, dl, eu, aP, bP] at a b
 rw [a, aA, P7 h j b]
end
theorem ID {P : Formula → Prop} (h : ∀ f, (∀ k ∈ f.Kids, P k) → P f) : ∀ f, P f := by
 intro f
 refine Formula.rec (motive_1 := P) (motive_2 := fun ks => ∀ k ∈ ks, P k) ?_ ?_ ?_ f
 ·intro o k r ks ih; exact h _ ih
 ·intro k hk; cases hk
 ·intro k ks h1 b x a
  rcases aK.1 a with rfl | a
  ·exact h1
  ·exact b x a
mutual
def jV : Formula → Nat
 | ⟨_, _, _, ks⟩ => 1 + nodesL ks
def nodesL : List Formula → Nat
 | [] => 0
 | k :: ks => jV k + nodesL ks
end
mutual
def nn : Formula → Nat
 | ⟨_, _, _, ks⟩ => deepL ks + 1
def deepL : List Formula → Nat
 | [] => 0
 | k :: ks => max (nn k) (deepL ks)
end
theorem nE (f : Formula) : jV f = 1 + nodesL f.Kids := by cases f; rw [jV]
theorem mh (f : Formula) : nn f = deepL f.Kids + 1 := by cases f; rw [nn]
theorem sD : ∀ {ks : List Formula} {k : Formula}, k ∈ ks → jV k ≤ nodesL ks
 | x :: ks, k, h => by
  rw [nodesL]
  rcases aK.1 h with rfl | h
  ·omega
  ·have := sD h; omega
theorem qk : ∀ {ks : List Formula} {k : Formula}, k ∈ ks → nn k ≤ deepL ks
 | x :: ks, k, h => by
  rw [deepL]
  rcases aK.1 h with rfl | h
  ·omega
  ·have := qk h; omega
theorem vn : ∀ f : Formula, nn f ≤ jV f := by
 refine ID fun f ih => ?_
 rw [mh, nE]
 have : ∀ ks : List Formula, (∀ k ∈ ks, nn k ≤ jV k) → deepL ks ≤ nodesL ks := by
  intro ks
  induction ks with
  | nil => intro _; rw [deepL]; omega
  | cons k ks a =>
   intro h
   have := a (fun x b => h x (by simp [b]))
   have := h k (by simp)
   rw [deepL, nodesL]; omega
 have := this f.Kids ih
 omega
theorem pp : ∀ ks : List Formula, ks.length ≤ nodesL ks
 | [] => by rw [nodesL]; simp
 | k :: ks => by have := pp ks; have := nE k; rw [nodesL, aI]; omega
theorem L8 (a : Nat) (hm : a ≤ 4096) (rec : Formula → Int → Option (Int × Int)) : ∀ (ks : List Formula), (∀ k ∈ ks, ∀ q : Nat, q ≤ 4096 → ∃ n d : Nat, rec k (q : Int) = some ((n : Int), (d : Int)) ∧ 1 ≤ n ∧ n ≤ jV k ∧ d ≤ jV k ∧ (jV k ≤ q → n = jV k ∧ d = nn k) ∧ (q < jV k → q < n)) → ∀ x y : Nat, x + nodesL ks ≤ 100000000 →
  ∃ n d : Nat, oV (a : Int) rec ks (x : Int) (y : Int) = some ((n : Int), (d : Int)) ∧ x ≤ n ∧ n ≤ x + nodesL ks ∧ d ≤ max y (nodesL ks) ∧ (x + nodesL ks ≤ a → n = x + nodesL ks ∧ d = max y (deepL ks)) ∧ (a < x + nodesL ks → a < n)
 | [], _, x, y, _ => by
  rw [oV, nodesL, deepL]
  exact ⟨x, y, rfl, by omega, by omega, by omega, fun _ => ⟨by omega, by omega⟩, fun h => by omega⟩
 | k :: ks, g, x, y, p => by
  rw [nodesL] at p ⊢
  rw [oV, deepL]
  by_cases i : (x : Int) > (a : Int)
  ·simp only [i, bV, aM]
   exact ⟨x, y, rfl, by omega, by omega, by omega, fun _ => by omega, fun h => by omega⟩
  ·simp only [i, cC, aB, aH]
   have s : wi0 .i64 ((a : Int) - (x : Int)) = ((a - x : Nat) : Int) := by rw [jT (by omega) (by omega)]; omega
   obtain ⟨m, d, e, h1, v, w, b, l⟩ := g k (by simp) (a - x) (by omega)
   rw [s, e, aA]
   have t : wi0 .i64 ((x : Int) + (m : Int)) = ((x + m : Nat) : Int) := by rw [jT (by omega) (by omega)]; omega
   have u : (if (d : Int) > (y : Int) then (d : Int) else (y : Int)) = ((max y d : Nat) : Int) := by split <;> omega
   simp only [t, u]
   obtain ⟨n, j, e', g1, g2, g3, g4, g5⟩ := L8 a hm rec ks (fun z r => g z (by simp [r])) (x + m) (max y d) (by omega)
   refine ⟨n, j, e', by omega, by omega, by omega, fun h => ?_, fun h => ?_⟩
   ·obtain ⟨rfl, rfl⟩ := b (by omega)
    obtain ⟨rfl, rfl⟩ := g4 (by omega)
    exact ⟨by omega, by omega⟩
   ·by_cases hk : a - x < jV k
    ·have := l hk; omega
    ·obtain ⟨rfl, _⟩ := b (by omega)
     exact g5 (by omega)
theorem OA : ∀ (n : Nat) (f : Formula), nn f ≤ n → jV f ≤ 50000000 → ∀ q : Nat, q ≤ 4096 → ∃ m d : Nat, nP n f (q : Int) = some ((m : Int), (d : Int)) ∧ 1 ≤ m ∧ m ≤ jV f ∧ d ≤ jV f ∧ (jV f ≤ q → m = jV f ∧ d = nn f) ∧ (q < jV f → q < m) := by
 intro n
 induction n with
 | zero => intro f h; rw [mh] at h; omega
 | succ n ih =>
  intro f i s q a
  rw [mh] at i
  have j := nE f
  rw [nP]
  unfold uL
  obtain ⟨m, d, e, h1, p, r, b, g⟩ := L8 q a (nP n) f.Kids (fun k hk q a => ih k (by have := qk hk; omega) (by have := sD hk; omega) q a) 1 0 (by omega)
  have e' : oV (q : Int) (nP n) f.Kids 1 0 = some ((m : Int), (d : Int)) := e
  rw [e', aA]
  have l : wi0 .i64 ((d : Int) + 1) = ((d + 1 : Nat) : Int) := by rw [jT (by omega) (by omega)]; omega
  simp only [l]
  refine ⟨m, d + 1, rfl, h1, by omega, by omega, fun h => ?_, fun h => g (by omega)⟩
  obtain ⟨rfl, rfl⟩ := b (by omega)
  rw [mh]
  exact ⟨by omega, by omega⟩
theorem P0 (f : Formula) (g : jV f ≤ 50000000) : wm f = some (if jV f ≤ 4096 then ((jV f : Int), (nn f : Int)) else (0, 0)) := by
 unfold wm
 have := vn f
 obtain ⟨m, d, e, h1, i, j, a, b⟩ := OA jP f (by rw [lj]; omega) g 4096 (aU _)
 have e' : nP jP f 4096 = some ((m : Int), (d : Int)) := e
 rw [e', aA]
 by_cases h : jV f ≤ 4096
 ·obtain ⟨rfl, rfl⟩ := a h
  have : ¬ ((jV f : Int) > 4096) := by omega
  simp [this, h]
 ·have := b (by omega)
  have : ((m : Int) > 4096) := by omega
  simp [this, h]
def pw : jl := ⟨zS, zS⟩
def CP (f : Formula) : Bool := if f.Op = 1 then lG f.jl && decide (f.Kids.length = 0) && decide (f.K = 0) else if f.Op = 2 ∨ f.Op = 3 then jJ f.jl pw && decide (f.K = 0) else decide (f.Op = 4) && jJ f.jl pw && decide (0 ≤ f.K) && decide (f.K ≤ (f.Kids.length : Int)) && decide (1 ≤ f.Kids.length)
theorem Qd (f : Formula) : wk f = some (CP f) := by
 unfold wk CP
 simp only [xS, aA, nH]
 by_cases h1 : f.Op = 1
 ·simp only [h1, aS, aM]
  cases p : lG f.jl
  ·simp
  ·by_cases k : f.Kids.length = 0
   ·have : f.Kids = [] := aR k
    by_cases hk : f.K = 0 <;> simp [this, hk]
   ·have : ((f.Kids.length : Int) == 0) = false := by simp; intro h; exact k (by simp [h])
    simp only [aM, aA, this, aB, aH, k, cC, iz, fM]
 ·have m : (f.Op == 1) = false := by simpa using h1
  simp only [m, aB, aH, h1]
  by_cases d : f.Op = 2 ∨ f.Op = 3
  ·have i : (if f.Op == 2 then some (f.Op == 2) else some (f.Op == 3)) = some true := by
    rcases d with h | h <;> simp [h]
   simp only [i, aA, aM, d]
   cases g : jJ f.jl ⟨zS, zS⟩ <;> by_cases hk : f.K = 0 <;> simp [pw, g, hk]
  ·have i : (if f.Op == 2 then some (f.Op == 2) else some (f.Op == 3)) = some false := by
    have a : f.Op ≠ 2 := fun h => d (.inl h)
    have b : f.Op ≠ 3 := fun h => d (.inr h)
    simp [a, b]
   simp only [i, aA, aB, aH, d]
   by_cases j : f.Op = 4
   ·simp only [j, aS, aM, aA, bV, dL]
    cases g : jJ f.jl ⟨zS, zS⟩
    ·simp [pw, g]
    ·by_cases c1 : 0 ≤ f.K <;> by_cases c2 : f.K ≤ (f.Kids.length : Int) <;> by_cases l : 1 ≤ f.Kids.length <;> simp [pw, g, c1, c2, l] <;> omega
   ·have n : (f.Op == 4) = false := by simpa using j
    simp [n, j]
mutual
def so : Formula → Bool
 | ⟨o, n, r, ks⟩ => CP ⟨o, n, r, ks⟩ && decide (ks.length ≤ 8) && wellL ks
def wellL : List Formula → Bool
 | [] => true
 | k :: ks => so k && wellL ks
end
theorem Fw (f : Formula) : so f = (CP f && decide (f.Kids.length ≤ 8) && wellL f.Kids) := by cases f; rw [so]
theorem Ea : ∀ ks : List Formula, wellL ks = ks.all so
 | [] => rfl
 | k :: ks => by rw [wellL, Ea ks]; rfl
theorem Jc (f : Formula → Option Bool) : ∀ (l : List Formula) (i : Nat), mP f l i = yB f l i
 | [], i => by rw [mP]; rfl
 | x :: l, i => by
  rw [mP, yB]
  cases f x with
  | none => rfl
  | some b =>
   simp only [aA]
   rw [Jc f l (i + 1)]
theorem EQ (f : Formula → Option Bool) (p : Formula → Bool) (l : List Formula) (h : ∀ x ∈ l, f x = some (p x)) : nD l f = some (l.any p) := by
 unfold nD rO
 rw [Jc]
 rcases CE f p l 0 h with ⟨e, h1⟩ | ⟨A, x, B, rfl, h1, a, e⟩
 ·rw [e, aA]
  have : l.any p = false := by rw [List.any_eq_false]; intro x b; rw [h1 x b]; simp
  rw [this]; rfl
 ·rw [e, aA]
  have : (A ++ x :: B).any p = true := by simp [a]
  rw [this]
  congr 1
theorem NW : ∀ (n : Nat) (f : Formula), nn f ≤ n → qy n f = some (so f) := by
 intro n
 induction n with
 | zero => intro f h; rw [mh] at h; omega
 | succ n ih =>
  intro f h
  rw [mh] at h
  rw [qy]
  unfold uO
  rw [Qd, aA, Fw, EQ _ (fun k => !so k) f.Kids (fun k hk => by unfold tN; rw [ih k (by have := qk hk; omega)]; rfl)]
  rw [Ea]
  have e : (!(f.Kids.any fun k => !so k)) = f.Kids.all so := by rw [List.all_eq_not_any_not]
  cases CP f
  ·rfl
  ·by_cases a : f.Kids.length ≤ 8
   ·have : ((f.Kids.length : Int) ≤ 8) := by omega
    simp [a, this, e]
   ·have : ¬ ((f.Kids.length : Int) ≤ 8) := by omega
    simp [a, this]
def mX (f : Formula) : Bool := decide (jV f ≤ 64) && decide (nn f ≤ 6) && so f
theorem Dh (f : Formula) (b : jV f ≤ 50000000) : qx f = some (mX f) := by
 unfold qx mX
 have d := vn f
 rw [P0 f b, aA, NW jP f (by rw [lj]; omega)]
 have h1 := nE f
 by_cases h : jV f ≤ 4096
 ·simp only [h, aM]
  have a : ((jV f : Int) ≥ 1) := by omega
  simp only [a, bV, aM, aA, nH]
  by_cases c1 : jV f ≤ 64 <;> by_cases c2 : nn f ≤ 6
  ·have d1 : ((jV f : Int) ≤ 64) := by omega
   have d2 : ((nn f : Int) ≤ 6) := by omega
   simp [c1, c2, d1, d2]
  ·have d1 : ((jV f : Int) ≤ 64) := by omega
   have d2 : ¬ ((nn f : Int) ≤ 6) := by omega
   simp [c1, c2, d1, d2]
  ·have d1 : ¬ ((jV f : Int) ≤ 64) := by omega
   simp [c1, d1]
  ·have d1 : ¬ ((jV f : Int) ≤ 64) := by omega
   simp [c1, d1]
 ·simp only [h, aH]
  have : ¬ jV f ≤ 64 := by omega
  simp [this]
theorem Formula.ext' {a b : Formula} (h1 : a.Op = b.Op) (d : a.K = b.K) (g : a.jl = b.jl) (h : a.Kids = b.Kids) : a = b := by
 cases a; cases b; simp only at h1 d g h; subst h1 d g h; rfl
theorem No (g : Formula × Formula → Option Bool) : ∀ (l m : List Formula), l.length = m.length → (∀ x ∈ l, ∀ y, ∃ b, g (x, y) = some b ∧ (b = true ↔ x = y)) → ∀ (A : List Formula),
  ∃ b, kF (A ++ m) g l A.length = some b ∧ (b = true ↔ l = m)
 | [], m, d, _, A => by
  obtain rfl := aR d.symm
  exact ⟨true, rfl, by simp⟩
 | x :: l, [], d, _, A => by simp at d
 | x :: l, y :: m, d, i, A => by
  rw [kF]
  obtain ⟨b, e, h⟩ := i x (by simp) y
  have i1 : kV (A ++ y :: m) (A.length : Int) = some y := mw _ _ _ _ rfl
  rw [i1, aA, e, aA]
  cases b with
  | false =>
   refine ⟨false, rfl, ?_⟩
   have : x ≠ y := fun a => by have := h.2 a; simp at this
   simp [this]
  | true =>
   have a := h.1 rfl
   obtain ⟨b, j, p⟩ := No g l m (by simpa using d) (fun z q => i z (by simp [q])) (A ++ [y])
   simp only [cH, aB, aH]
   have k : A ++ y :: m = (A ++ [y]) ++ m := by simp
   have n : A.length + 1 = (A ++ [y]).length := by simp
   rw [k, n, j]
   exact ⟨b, rfl, by rw [p]; simp [a]⟩
theorem Pw : ∀ (n : Nat) (f : Formula), nn f ≤ n → ∀ g, ∃ b, nJ n f g = some b ∧ (b = true ↔ f = g) := by
 intro n
 induction n with
 | zero => intro f h; rw [mh] at h; omega
 | succ n ih =>
  intro f h g
  rw [mh] at h
  rw [nJ]
  unfold vp
  by_cases h1 : f.Op = g.Op
  ·by_cases a : f.K = g.K
   ·by_cases d : f.jl = g.jl
    ·have j : jJ f.jl g.jl = true := jK.2 d
     simp only [h1, a, j, aS, aM, aA]
     unfold mf
     by_cases i : f.Kids.length = g.Kids.length
     ·have : ((f.Kids.length : Int) != (g.Kids.length : Int)) = false := by simp [i]
      simp only [this, aB, aH]
      obtain ⟨b, e, m⟩ := No (fun x => nJ n x.1 x.2) f.Kids g.Kids i (fun x p y => ih x (by have := qk p; omega) y) []
      simp only [aP, bP] at e
      rw [e]
      refine ⟨b, by simp, m.trans ⟨fun hk => Formula.ext' h1 a d hk, fun hk => by rw [hk]⟩⟩
     ·have : ((f.Kids.length : Int) != (g.Kids.length : Int)) = true := by simp; omega
      simp only [this, aM]
      exact ⟨false, rfl, by simp; intro hk; rw [hk] at i; exact i rfl⟩
    ·have j : jJ f.jl g.jl = false := by rw [← eH, jK]; exact d
     simp only [h1, a, j, aS, aM, aA, aB, aH]
     exact ⟨false, rfl, by simp; intro hk; rw [hk] at d; exact d rfl⟩
   ·have l : (f.K == g.K) = false := by simpa using a
    simp only [h1, l, aS, aM, aA, aB, aH]
    exact ⟨false, rfl, by simp; intro hk; rw [hk] at a; exact a rfl⟩
  ·have k : (f.Op == g.Op) = false := by simpa using h1
   simp only [k, aA, aB, aH]
   exact ⟨false, rfl, by simp; intro hk; rw [hk] at h1; exact h1 rfl⟩
def qJ {α : Type} (R : α → Bool) (lt : α → α → Bool) (last : Option α) : List α → Bool → α → Bool × α
 | [], ok, b => (ok, b)
 | x :: xs, ok, b => if R x && last.all (fun y => lt y x) && (!ok || lt x b) then qJ R lt last xs true x else qJ R lt last xs ok b
def zo {α : Type} (w : Nat) (R : α → Bool) (lt : α → α → Bool) (d : α) (l : List α) : Nat → List α → Option (List α)
 | 0, _ => none
 | n + 1, out => if !(qJ R lt out.getLast? l false d).1 then some out else (lP w out [(qJ R lt out.getLast? l false d).2]).bind fun o => zo w R lt d l n o
section
variable {α : Type} {R : α → Bool} {lt : α → α → Bool}
theorem El (H : zA (fun a b => lt a b = true) (fun x => R x = true)) (last : Option α) : ∀ (l : List α) (ok : Bool) (b : α), (ok = true → R b = true ∧ last.all (fun y => lt y b) = true) →
  ((qJ R lt last l ok b).1 = false → ok = false ∧ ∀ x ∈ l, R x = true → last.all (fun y => lt y x) = false) ∧
  ((qJ R lt last l ok b).1 = true → R (qJ R lt last l ok b).2 = true ∧ last.all (fun y => lt y (qJ R lt last l ok b).2) = true ∧ ((qJ R lt last l ok b).2 ∈ l ∨ (ok = true ∧ (qJ R lt last l ok b).2 = b)) ∧
   (∀ x ∈ l, R x = true → last.all (fun y => lt y x) = true → lt x (qJ R lt last l ok b).2 = false) ∧ (ok = true → lt b (qJ R lt last l ok b).2 = false))
 | [], ok, b, k => by
  simp only [qJ]
  exact ⟨fun h => ⟨h, by simp⟩, fun h => ⟨(k h).1, (k h).2, .inr ⟨h, trivial⟩, by simp, fun _ => by
   cases n : lt b b with
   | false => rfl
   | true => exact absurd n (H.irrefl b (k h).1)⟩⟩
 | x :: xs, ok, b, k => by
  rw [qJ]
  by_cases m : (R x && last.all (fun y => lt y x) && (!ok || lt x b)) = true
  ·rw [aZ m]
   simp only [bk, fz, eX] at m
   obtain ⟨⟨E, t⟩, u⟩ := m
   obtain ⟨h1, s⟩ := El H last xs true x (fun _ => ⟨E, t⟩)
   refine ⟨fun h => ?_, fun h => ?_⟩
   ·cases (h1 h).1
   ·obtain ⟨q, a2, a3, a4, a5⟩ := s h
    refine ⟨q, a2, ?_, ?_, ?_⟩
    ·rcases a3 with a3 | ⟨_, a3⟩
     ·exact .inl (by simp [a3])
     ·exact .inl (by rw [a3]; simp)
    ·intro y i d g
     rcases aK.1 i with rfl | i
     ·exact a5 rfl
     ·exact a4 y i d g
    ·intro j
     cases n : lt b (qJ R lt last xs true x).2 with
     | false => rfl
     | true =>
      have v : lt x b = true := by rcases u with h | h; rw [j] at h; cases h; exact h
      have := H.trans x b _ E (k j).1 q v n
      simp only [a5 rfl] at this
      cases this
  ·rw [aY m]
   obtain ⟨h1, s⟩ := El H last xs ok b k
   refine ⟨fun h => ⟨(h1 h).1, fun y i d => ?_⟩, fun h => ?_⟩
   ·rcases aK.1 i with rfl | i
    ·have j := (h1 h).1
     cases t : last.all (fun z => lt z y) with
     | false => rfl
     | true => exact absurd (by simp [d, t, j]) m
    ·exact (h1 h).2 y i d
   ·obtain ⟨q, a2, a3, a4, a5⟩ := s h
    refine ⟨q, a2, ?_, ?_, a5⟩
    ·rcases a3 with a3 | a3
     ·exact .inl (by simp [a3])
     ·exact .inr a3
    ·intro y i d g
     rcases aK.1 i with rfl | i
     ·cases n : lt y (qJ R lt last xs ok b).2 with
      | false => rfl
      | true =>
       cases ok with
       | false => exact absurd (by simp [d, g]) m
       | true =>
        have w : lt y b = false := by
         cases G : lt y b with
         | false => rfl
         | true => exact absurd (by simp [d, g, G]) m
        have r := k rfl
        rcases H.total y b d r.1 with p | p | p
        ·rw [w] at p; cases p
        ·subst p; rw [a5 rfl] at n; cases n
        ·have := H.trans b y _ r.1 d q p n
         simp only [a5 rfl] at this
         cases this
     ·exact a4 y i d g
theorem uc (H : zA (fun a b => lt a b = true) (fun x => R x = true)) {l : List α} (g : ∀ x ∈ l, R x = true) (h : l.Pairwise (fun a b => lt a b = true)) : l.Nodup := by
 refine h.imp_of_mem (fun {a b} ha i d e => ?_)
 subst e
 exact H.irrefl a (g a ha) d
theorem lA : ∀ {l m : List α}, l.Nodup → (∀ x ∈ l, x ∈ m) → l.length ≤ m.length
 | [], _, _, _ => by simp
 | x :: l, m, g, b => by
  obtain ⟨A, B, rfl⟩ := List.append_of_mem (b x (by simp))
  have a := cR.1 g
  have := lA (l := l) (m := A ++ B) a.2 (fun y d => by
   have := b y (dm _ d)
   simp only [aN, aK] at this ⊢
   rcases this with h | h | h
   ·exact .inl h
   ·subst h; exact absurd d a.1
   ·exact .inr h)
  simp at this ⊢; omega
theorem Bb (H : zA (fun a b => lt a b = true) (fun x => R x = true)) {w : Nat} (hw : w ≤ 1000) (d : α) (l : List α) (L : l.length ≤ 1000000000) : ∀ (n : Nat) (out : List α), l.length < n + out.length → out.Pairwise (fun a b => lt a b = true) → (∀ x ∈ out, x ∈ l ∧ R x = true) →
  (∀ x ∈ l, R x = true → x ∈ out ∨ out.getLast?.all (fun y => lt y x) = true) → ∃ s, zo w R lt d l n out = some s ∧ vG (fun a b => lt a b = true) (fun x => R x = true) l s
 | 0, out, M, hp, hm, v => by
  exfalso
  have := lA (uc H (fun x g => (hm x g).2) hp) (fun x g => (hm x g).1)
  omega
 | n + 1, out, M, hp, hm, v => by
  rw [zo]
  obtain ⟨h1, I⟩ := El H out.getLast? l false d (fun h => by cases h)
  have hlen := lA (uc H (fun x g => (hm x g).2) hp) (fun x g => (hm x g).1)
  cases G : (qJ R lt out.getLast? l false d).1 with
  | false =>
   rw [aZ (by simp)]
   refine ⟨out, rfl, hp, fun x => ⟨hm x, fun g => ?_⟩⟩
   rcases v x g.1 g.2 with h | h
   ·exact h
   ·rw [(h1 G).2 x g.1 g.2] at h; cases h
  | true =>
   rw [aY (by simp)]
   obtain ⟨t, a2, a3, a4, _⟩ := I G
   generalize (qJ R lt out.getLast? l false d).2 = b at *
   have u : b ∈ l := by rcases a3 with h | ⟨h, _⟩; exact h; cases h
   have q : ∀ y ∈ out, lt y b = true := by
    intro y i
    obtain ⟨A, z, rfl⟩ : ∃ A z, out = A ++ [z] := by
     rcases cY out with h | ⟨A, z, h⟩
     ·subst h; cases i
     ·exact ⟨A, z, by rw [h]; simp⟩
    simp at a2
    rcases aN.1 i with i | i
    ·have E : lt y z = true := (cO.1 hp).2.2 y i z (by simp)
     exact H.trans y z b (hm y (by simp [i])).2 (hm z (by simp)).2 t E a2
    ·simp at i; subst i; exact a2
   have r : (out ++ [b]).Pairwise (fun a b => lt a b = true) := cO.2 ⟨hp, by simp, fun x g y i => by simp at i; subst i; exact q x g⟩
   have m : ∀ x ∈ out ++ [b], x ∈ l ∧ R x = true := fun x g => by
    rcases aN.1 g with g | g
    ·exact hm x g
    ·simp at g; subst g; exact ⟨u, t⟩
   have k := lA (uc H (fun x g => (m x g).2) r) (fun x g => (m x g).1)
   simp at k
   rw [lB (by simp only [aI, bP]; have : (out.length + (0 + 1)) * w ≤ 1000000000 * 1000 := Nat.mul_le_mul (by omega) hw; omega) (by simp; omega)]
   simp only [aA]
   refine Bb H hw d l L n (out ++ [b]) (by simp; omega) r m (fun x g j => ?_)
   rcases v x g j with h | h
   ·exact .inl (by simp [h])
   ·have J := a4 x g j h
    rcases H.total x b j t with p | p | p
    ·rw [J] at p; cases p
    ·subst p; exact .inl (by simp)
    ·exact .inr (by simp [p])
end
theorem Fy {α : Type} (A : List α) (x : α) (a : A.length < 4611686018427387904) : kV (A ++ [x]) (wi0 .i64 (((A ++ [x]).length : Int) - 1)) = some x := by
 rw [jT (by simp; try omega) (by simp; try omega)]
 rw [mw A x [] _ (by simp; try omega)]
theorem Fq (out : List jm) (k : out.length < 4611686018427387904) : ∀ (l : List jm) (ok : Bool) (b : jm), rc out l ok b = some (qJ kY Az out.getLast? l ok b)
 | [], ok, b => rfl
 | x :: xs, ok, b => by
  rw [rc, qJ]
  have cmp : ∀ a b, ∃ c, rL a b = some c ∧ decide (c < 0) = Az a b := fun a b => by
   obtain ⟨c, h1, j⟩ := DZ a b
   exact ⟨c, h1, by rw [bH, ← j]; simp⟩
  rw [Aw, Fq out k xs true x, Fq out k xs ok b]
  obtain ⟨c, h1, j⟩ := cmp x b
  rcases cY out with h | ⟨A, z, h⟩
  ·subst h
   simp only [h1, aA, j, bP, Option.all, List.getLast?_nil]
   generalize Az x b = p
   cases kY x <;> cases ok <;> cases p <;> simp
  ·have i : out = A ++ [z] := by rw [h]; simp
   obtain ⟨t, r, s⟩ := cmp z x
   have d : out.getLast? = some z := by rw [i]; simp
   have g : kV out (wi0 .i64 ((out.length : Int) - 1)) = some z := by rw [i]; exact Fy A z (by rw [i] at k; simp at k; omega)
   have m : ((out.length : Int) == 0) = false := by rw [i]; simp; omega
   rw [d]
   simp only [m, g, r, h1, aA, j, s, Option.all]
   rcases dQ (Az x b) with hp | hp <;> rcases dQ (Az z x) with n | n <;> rcases dQ (kY x) with q | q <;> cases ok <;> simp [hp, n, q]
theorem Tw (a b : ByteArray) : (!(pN a b || kD a b)) = pN b a := by
 rcases zf a b with h | h | h
 ·simp [h, HO h]
 ·subst h; simp [uJ, sk]
 ·have d := HO h
  have g : kD a b = false := Kq (by rintro rfl; rw [sk] at h; cases h)
  simp [h, d, g]
theorem MC {s : ByteArray} (h : mY s = true) : kD s zS = false := Kq (fun e => by have := nR h; rw [e, Qe] at this; omega)
theorem Fk (out : List ByteArray) (m : out.length < 4611686018427387904) : ∀ (l : List ByteArray) (b : ByteArray),
  ∃ n, sJ out l b = some n ∧ (qJ mY pN out.getLast? l (!kD b zS) b) = (!kD n zS, n)
 | [], b => ⟨b, rfl, rfl⟩
 | x :: xs, b => by
  rw [sJ, qJ]
  obtain ⟨w, u, d⟩ := Fk out m xs x
  obtain ⟨y, v, j⟩ := Fk out m xs b
  rw [xn, u, v]
  by_cases i : mY x = true
  ·rw [MC i] at d
   simp only [dq] at d
   rcases cY out with h | ⟨A, z, h⟩
   ·subst h
    simp only [aA, bP, Option.all, List.getLast?_nil, i] at *
    rw [d, j]
    generalize pN x b = p
    generalize kD b zS = q
    cases p <;> cases q <;> simp
   ·have k : out = A ++ [z] := by rw [h]; simp
    have a : out.getLast? = some z := by rw [k]; simp
    have g : kV out (wi0 .i64 ((out.length : Int) - 1)) = some z := by rw [k]; exact Fy A z (by rw [k] at m; simp at m; omega)
    have r : ((out.length : Int) == 0) = false := by rw [k]; simp; omega
    rw [a] at d j ⊢
    simp only [r, g, aA, Option.all, Tw, i]
    rw [d, j]
    rcases dQ (pN x b) with hp | hp <;> rcases dQ (pN z x) with s | s <;> rcases dQ (kD b zS) with t | t <;> simp [hp, s, t]
  ·simp only [eH] at i
   rw [i, j]
   simp
theorem OP (a : List jm) : ∀ (n : Nat) (out s : List jm), zo 136 kY Az (⟨0, ⟨zS, zS⟩, zS, ⟨zS, zS⟩, ⟨zS, zS⟩, zS⟩ : jm) a n out = some s → s.length < 4611686018427387904 → sK a n out = some s ∧ out.length ≤ s.length
 | 0, out, s, h, _ => by cases h
 | n + 1, out, s, h, i => by
  rw [zo] at h
  rw [sK]
  have key : out.length ≤ s.length → rc out a false (⟨0, ⟨zS, zS⟩, zS, ⟨zS, zS⟩, ⟨zS, zS⟩, zS⟩ : jm) = _ := fun k => Fq out (by omega) a false _
  split at h
  ·rename_i h1
   cases h
   rw [key (aU _)]
   simp only [aA]
   rw [aZ h1]
   exact ⟨rfl, aU _⟩
  ·rename_i h1
   obtain ⟨o, b, d⟩ := bind_some h
   have g := OP a n o s d i
   have j : out.length + 1 = o.length := by
    unfold lP at b; split at b
    ·cases b; simp
    ·cases b
   rw [key (by omega)]
   simp only [aA]
   rw [aY h1, b]
   exact ⟨g.1, by omega⟩
theorem O7 (a : List ByteArray) : ∀ (n : Nat) (out s : List ByteArray), zo 16 mY pN zS a n out = some s → s.length < 4611686018427387904 → wy a n out = some s ∧ out.length ≤ s.length
 | 0, out, s, h, _ => by cases h
 | n + 1, out, s, h, k => by
  rw [zo] at h
  rw [wy]
  have key : out.length ≤ s.length → ∃ d, sJ out a zS = some d ∧ qJ mY pN out.getLast? a false zS = (!kD d zS, d) := fun m => by
   have := Fk out (by omega) a zS
   rw [uJ] at this
   exact this
  split at h
  ·rename_i h1
   cases h
   obtain ⟨d, g, k2⟩ := key (aU _)
   rw [g]
   rw [k2] at h1
   simp only [aA]
   rw [aZ (by simpa using h1)]
   exact ⟨rfl, aU _⟩
  ·rename_i h1
   obtain ⟨o, b, i⟩ := bind_some h
   have j := O7 a n o s i k
   have l : out.length + 1 = o.length := by
    unfold lP at b; split at b
    ·cases b; simp
    ·cases b
   obtain ⟨d, g, k2⟩ := key (by omega)
   rw [g]
   rw [k2] at h1 b
   simp only [aA]
   rw [aY (by simpa using h1), b]
   exact ⟨j.1, by omega⟩
abbrev Qt (l s : List ByteArray) := vG (fun a b => pN a b = true) (fun x => mY x = true) l s
abbrev Jn (l s : List jm) := vG (fun a b => Az a b = true) (fun x => kY x = true) l s
theorem Ay {α : Type} {lt : α → α → Bool} {R : α → Bool} (H : zA (fun a b => lt a b = true) (fun x => R x = true)) {l s : List α} (h : vG (fun a b => lt a b = true) (fun x => R x = true) l s) : s.length ≤ l.length :=
 lA (uc H (fun x d => ((h.2 x).1 d).2) h.1) (fun x d => ((h.2 x).1 d).1)
theorem Hj (l : List jm) (b : l.length ≤ 1000000000) : ∃ s, sF l = some s ∧ Jn l s := by
 obtain ⟨s, h1, a⟩ := Bb Ch (w := 136) (by omega) (⟨0, ⟨zS, zS⟩, zS, ⟨zS, zS⟩, ⟨zS, zS⟩, zS⟩ : jm) l b jP [] (by rw [wu]; omega) (by simp) (by simp) (fun x _ _ => .inr rfl)
 exact ⟨s, (OP l jP [] s h1 (by have := Ay Ch a; omega)).1, a⟩
theorem Pv (l : List ByteArray) (b : l.length ≤ 1000000000) : ∃ s, Br l = some s ∧ Qt l s := by
 obtain ⟨s, h1, a⟩ := Bb (O6 (fun x => mY x = true)) (w := 16) (by omega) zS l b jP [] (by rw [wu]; omega) (by simp) (by simp) (fun x _ _ => .inr rfl)
 exact ⟨s, (O7 l jP [] s h1 (by have := Ay (O6 _) a; omega)).1, a⟩
def zC : jm := ⟨0, ⟨zS, zS⟩, zS, ⟨zS, zS⟩, ⟨zS, zS⟩, zS⟩
theorem KD (f : jm → Option Bool) : ∀ (n : Nat) (l : List jm) (i j : Int), nc f n l i j = CG f zC n l i j
 | 0, _, _, _ => rfl
 | n + 1, l, i, j => by
  rw [nc, CG]
  simp only [KD f n]
  rfl
theorem KY (f : jm → Option Bool) : ∀ (l : List jm) (i : Nat), om f l i = yB f l i
 | [], _ => rfl
 | x :: l, i => by rw [om, yB]; simp only [KY f l]
theorem Ja (f : jm → Option Bool) (l : List jm) : oR l f = Ha f zC l := by
 unfold oR Ha tw
 simp only [KY, KD]
theorem Jh (i : Int) : ∀ (n : Nat) (l : List jm) (k j : Int), nK i n l k j = AN kU i n l k j
 | 0, _, _, _ => rfl
 | n + 1, l, k, j => by
  rw [nK, AN]
  simp only [Jh i n]
theorem IN (l : List jm) : ∀ (n : Nat) (i : Int), nN l n i = Bp kU zC l n i
 | 0, _ => rfl
 | n + 1, i => by
  rw [nN, Bp]
  simp only [IN l n, Jh]
  rfl
theorem OE (l : List jm) : rK l = I5 kU zC l := by
 unfold rK I5
 simp only [IN]
theorem Re {l : List jm} (a : l.length ≤ 1000000000) : qQ l = some l := by
 unfold qQ
 rw [lB (by simp; omega) (by simp; omega)]
 simp
theorem NM (l : List jm) (g : l.length ≤ 1000000000) : ∃ s, tQ l = some s ∧ Jn l s := by
 unfold tQ
 rw [Re g]
 simp only [aA]
 rw [Ja, Fh _ (fun x => !kY x) zC l (by omega) (fun x _ => by simp [wV, vB])]
 simp only [aA, gz]
 have j : (l.filter fun x => kY x).length ≤ l.length := ed _ _
 obtain ⟨s, h1, i, d⟩ := E5 (eq := kU) (lt := fun a b => Az a b = true) (P := fun x => kY x = true) (cf := fun x => sL x.1 x.2) (l := l.filter fun x => kY x) (fun x y => ns) Ch (fun x h => (cK.1 h).2) (by omega) (fun x y _ _ => EJ x y)
 rw [h1]
 simp only [aA]
 rw [OE, JJ _ _ _ (by omega)]
 refine ⟨_, rfl, d.1, fun x => ?_⟩
 rw [d.2]
 simp
theorem HZ (b : List jm) : ∀ (A l : List jm), pv (A ++ l) l A.length = some true
 | A, [] => rfl
 | A, x :: l => by
  rw [pv, mw A x l _ rfl]
  simp only [aA]
  rw [ns.2 rfl]
  simp only [cH, aB, aH]
  have := HZ b (A ++ [x]) l
  simpa using this
theorem O2 (l : List jm) : pF l l = some true := by
 unfold pF
 rw [aY (by simp)]
 exact HZ [] [] l
def tt {κ : Type} (ks : List κ) : List (κ × Bool) := ks.map fun k => (k, true)
def pc {κ : Type} (beq : κ → κ → Bool) (ks : List κ) (k : κ) : Bool := ks.any fun x => beq k x
def ins {κ : Type} (beq : κ → κ → Bool) (ks : List κ) (k : κ) : List κ := if pc beq ks k then ks else ks ++ [k]
section
variable {κ : Type} {beq : κ → κ → Bool}
theorem tf (a : ∀ {x y}, beq x y = true ↔ x = y) (ks : List κ) (k : κ) : pc beq ks k = true ↔ k ∈ ks := by
 simp [pc, dU, a]
theorem MP (ks : List κ) : (tt ks).length = ks.length := by simp [tt]
theorem NF (ks : List κ) (k : κ) : yX beq (tt ks) k false = pc beq ks k := by
 unfold yX kJ pc tt
 induction ks with
 | nil => rfl
 | cons x xs ih =>
  simp only [bD, fw, fZ]
  cases h : beq k x with
  | true => simp
  | false => simpa using ih
theorem PT (l : ∀ {x y}, beq x y = true ↔ x = y) (ks : List κ) (k : κ) : nL beq (tt ks) k true = tt (ins beq ks k) := by
 unfold nL ins
 have m : (tt ks).findIdx? (fun p => beq k p.1) = ks.findIdx? (fun x => beq k x) := by
  unfold tt; rw [gv]; rfl
 rw [m]
 cases h : ks.findIdx? (fun x => beq k x) with
 | none =>
  rw [fS] at h
  rw [aY]
  ·simp [tt]
  ·intro b
   unfold pc at b
   rw [dU] at b
   obtain ⟨x, n, a⟩ := b
   rw [h x n] at a
   cases a
 | some i =>
  rw [dW] at h
  obtain ⟨g, h1, _⟩ := h
  have e := l.1 h1
  rw [aZ]
  ·simp only [tt]
   apply et
   intro j
   rw [eT]
   split
   ·rename_i d
    subst d
    simp [g, e]
   ·rfl
  ·unfold pc
   exact dU.2 ⟨ks[i], List.getElem_mem g, h1⟩
end
section
variable {all : List jm} {wants : List jl} {T : List jl} {W : List ByteArray} {R : List jm}
def nY (c : jm) : List jl := if c.Kind = 1 then [] else if c.Kind = 4 then [c.B, c.C] else [c.B]
end
theorem G3 (x : jm) : ∀ l : List jm, yV l x = some (pc kU l x)
 | [] => rfl
 | y :: l => by
  have ih := G3 x l
  unfold yV at ih ⊢
  rw [yA, ih]
  have : kU y x = kU x y := by rw [bH, ns, ns]; exact eq_comm
  rw [this]
  simp only [pc, fZ]
  cases kU x y <;> simp
theorem Qs {c : jm} (h : kY c = true) : xT c = some (c.Head :: nY c) := by
 unfold xT
 rw [vB, h]
 simp only [aA, cH, aB, aH]
 have a : c.Kind = 1 ∨ c.Kind = 2 ∨ c.Kind = 3 ∨ c.Kind = 4 := by rcases oh h with h | h | h | h <;> simp [h.1]
 rcases a with k | k | k | k
 ·simp [k, nY]
 ·rw [aZ (by simp [k]), lB (by simp) (by simp)]
  simp [k, nY]
 ·rw [aZ (by simp [k]), lB (by simp) (by simp)]
  simp [k, nY]
 ·rw [aZ (by simp [k]), lB (by simp) (by simp)]
  simp only [aA]
  rw [aZ (by simp [k]), lB (by simp) (by simp)]
  simp [k, nY]
theorem vG.congr {α : Type} {lt : α → α → Prop} {P : α → Prop} {l m s : List α} (h : vG lt P l s) (hm : ∀ x, x ∈ l ↔ x ∈ m) : vG lt P m s := ⟨h.1, fun x => by rw [h.2, hm]⟩
theorem PZ {κ : Type} (ks : List κ) : (tt ks).map (·.1) = ks := by simp [tt, fF]
def xb (c : jm) : Nat := c.Head.jq.size + c.Head.jv.size + c.km.size + c.B.jq.size + c.B.jv.size + c.C.jq.size + c.C.jv.size + c.kC.size
section
variable {κ γ : Type} {beq : κ → κ → Bool}
theorem qm (a : ∀ {x y}, beq x y = true ↔ x = y) {A B : List (κ × γ)} {k : κ} {x : γ} (b : ∀ p ∈ A, p.1 ≠ k) : kJ beq (A ++ (k, x) :: B) k = some x := by
 unfold kJ
 rw [iG]
 have : A.find? (fun p => beq k p.1) = none := gj.2 (fun p hp h => b p hp (a.1 h).symm)
 rw [this]
 simp [a.2 (rfl : k = k)]
theorem vl (a : ∀ {x y}, beq x y = true ↔ x = y) {l : List (κ × γ)} {k : κ} (h : ∀ p ∈ l, p.1 ≠ k) : kJ beq l k = none := by
 unfold kJ
 rw [gj.2 (fun p hp b => h p hp (a.1 b).symm)]
 rfl
theorem wq (a : ∀ {x y}, beq x y = true ↔ x = y) {A B : List (κ × γ)} {k : κ} {x y : γ} (b : ∀ p ∈ A, p.1 ≠ k) : nL beq (A ++ (k, x) :: B) k y = A ++ (k, y) :: B := by
 have h1 : (A ++ (k, x) :: B).findIdx? (fun p => beq k p.1) = some A.length := by
  rw [gM, fS.2 (fun p hp => by
   cases h : beq k p.1 with
   | false => rfl
   | true => exact absurd (a.1 h).symm (b p hp))]
  simp [eK, a.2 (rfl : k = k)]
 rw [qv h1]
 simp
theorem Cf (a : ∀ {x y}, beq x y = true ↔ x = y) {l : List (κ × γ)} {k : κ} {y : γ} (h : ∀ p ∈ l, p.1 ≠ k) : nL beq l k y = l ++ [(k, y)] := by
 refine uH (fS.2 (fun p hp => ?_)) y
 cases b : beq k p.1 with
 | false => rfl
 | true => exact absurd (a.1 b).symm (h p hp)
theorem tP (k : κ) : ∀ (l : List (κ × γ)), (∀ p ∈ l, p.1 ≠ k) ∨ ∃ A x B, l = A ++ (k, x) :: B ∧ ∀ p ∈ A, p.1 ≠ k
 | [] => .inl (fun _ h => by cases h)
 | p :: l => by
  by_cases hp : p.1 = k
  ·exact .inr ⟨[], p.2, l, by rw [← hp]; rfl, fun _ h => by cases h⟩
  ·rcases tP k l with h | ⟨A, x, B, rfl, h⟩
   ·exact .inl (fun q a => by rcases aK.1 a with rfl | a; exact hp; exact h q a)
   ·exact .inr ⟨p :: A, x, B, rfl, fun q a => by rcases aK.1 a with rfl | a; exact hp; exact h q a⟩
theorem Fp (a : ∀ {x y}, beq x y = true ↔ x = y) (A B : List (κ × γ)) (k : κ) : kJ beq (A ++ B) k = (kJ beq A k).or (kJ beq B k) := by
 unfold kJ
 rw [iG]
 cases A.find? (fun p => beq k p.1) <;> rfl
theorem AX (p : κ × γ) (l : List (κ × γ)) (k : κ) : kJ beq (p :: l) k = if beq k p.1 = true then some p.2 else kJ beq l k := by
 unfold kJ
 rw [fw]
 cases beq k p.1 <;> simp
theorem D0 (a : ∀ {x y}, beq x y = true ↔ x = y) (l : List (κ × γ)) (k k2 : κ) (y : γ) : kJ beq (nL beq l k y) k2 = if beq k2 k = true then some y else kJ beq l k2 := by
 rcases tP k l with h | ⟨A, x, B, rfl, h⟩
 ·rw [Cf a h, Fp a, AX]
  by_cases hk : beq k2 k = true
  ·have := a.1 hk
   subst this
   rw [aZ hk, aZ hk, vl a h]; rfl
  ·rw [aY hk, aY hk]
   show (kJ beq l k2).or none = _
   cases kJ beq l k2 <;> rfl
 ·rw [wq a h, Fp a, AX, Fp a, AX]
  by_cases hk : beq k2 k = true
  ·have := a.1 hk
   subst this
   rw [aZ hk, aZ hk, vl a h]; rfl
  ·rw [aY hk, aY hk, aY hk]
end
abbrev oG := List (jl × List ByteArray)
def mm (T : oG) : List (jl × List (ByteArray × Bool)) := T.map fun p => (p.1, tt p.2)
def qZ (T : oG) (r : jl) : List ByteArray := (kJ jJ T r).getD []
def FS (T : oG) : List jE := T.flatMap fun p => p.2.map fun w => (⟨p.1, w⟩ : jE)
def D4 (T : oG) (r : jl) (w : ByteArray) : oG := nL jJ T r (qZ T r ++ [w])
theorem DE (A B : oG) : mm (A ++ B) = mm A ++ mm B := by simp [mm]
theorem yC {A : oG} {r : jl} (h : ∀ p ∈ A, p.1 ≠ r) : ∀ p ∈ mm A, p.1 ≠ r := by
 intro p hp
 simp only [mm, bF] at hp
 obtain ⟨q, a, rfl⟩ := hp
 exact h q a
theorem PE (T : oG) (r : jl) : kJ jJ (mm T) r = (kJ jJ T r).map tt := by
 rcases tP r T with h | ⟨A, x, B, rfl, h⟩
 ·rw [vl jK h, vl jK (yC h)]; rfl
 ·rw [qm jK h, DE]
  exact qm jK (yC h)
theorem KU (T : oG) (r : jl) : (kJ jJ (mm T) r).getD [] = tt (qZ T r) := by
 rw [PE, qZ]; cases kJ jJ T r <;> rfl
theorem Gu (T : oG) (r : jl) (w : ByteArray) : (FS (D4 T r w)).Perm (FS T ++ [(⟨r, w⟩ : jE)]) := by
 unfold D4 qZ
 rcases tP r T with h | ⟨A, x, B, rfl, h⟩
 ·rw [Cf jK h, vl jK h]
  simp [FS]
 ·rw [wq jK h, qm jK h]
  simp only [FS, gV, gA, gH, cE, bD, eu, aG]
  refine cA _ (cA _ ?_)
  exact eQ
theorem Oa {T : oG} (hk : (T.map (·.1)).Nodup) (r : jl) (w : ByteArray) : ((D4 T r w).map (·.1)).Nodup := by
 unfold D4
 rcases tP r T with h | ⟨A, x, B, rfl, h⟩
 ·rw [Cf jK h]
  simp only [cE, bD, eu]
  refine bT.2 ⟨hk, by simp, fun a ha b d e => ?_⟩
  simp at d; subst d; subst e
  obtain ⟨p, hp, e⟩ := bF.1 ha
  exact h p hp e
 ·rw [wq jK h]
  simpa using hk
theorem AK {T : oG} (hk : (T.map (·.1)).Nodup) (f : jE) : f ∈ FS T ↔ f.km ∈ qZ T f.jl := by
 simp only [FS, iT, bF]
 constructor
 ·rintro ⟨p, hp, w, hw, rfl⟩
  obtain ⟨A, B, rfl⟩ := List.append_of_mem hp
  have a : ∀ q ∈ A, q.1 ≠ p.1 := fun q d e => by
   rw [cE, bD] at hk
   exact (bT.1 hk).2.2 q.1 (bF.2 ⟨q, d, rfl⟩) p.1 (by simp) e
  rw [qZ, show p = (p.1, p.2) from rfl, qm jK a]
  exact hw
 ·intro h
  unfold qZ at h
  rcases tP f.jl T with b | ⟨A, x, B, rfl, a⟩
  ·rw [vl jK b] at h; cases h
  ·rw [qm jK a] at h
   exact ⟨(f.jl, x), by simp, f.km, h, rfl⟩
theorem JT {T : oG} (h : (FS T).Nodup) (r : jl) : (qZ T r).Nodup := by
 unfold qZ
 rcases tP r T with b | ⟨A, x, B, rfl, a⟩
 ·rw [vl jK b]; simp
 ·rw [qm jK a]
  simp only [FS, gV, gA] at h
  have h1 := (bT.1 (bT.1 h).2.1).1
  simp only [List.Nodup, fG] at h1
  exact h1.imp (fun h e => h (by rw [e]))
inductive ot (C : List jm) : jE → Prop
 | mem (c) : c ∈ C → c.Kind = 1 → ot C ⟨c.Head, c.km⟩
 | inc (c w) : c ∈ C → c.Kind = 2 → ot C ⟨c.B, w⟩ → ot C ⟨c.Head, w⟩
 | FQ (c b w) : c ∈ C → c.Kind = 3 → ot C ⟨c.B, b⟩ → ot C ⟨⟨b, c.kC⟩, w⟩ → ot C ⟨c.Head, w⟩
 | both (c w) : c ∈ C → c.Kind = 4 → ot C ⟨c.B, w⟩ → ot C ⟨c.C, w⟩ → ot C ⟨c.Head, w⟩
theorem ot.mono {C C' : List jm} (h : ∀ c ∈ C, c ∈ C') {f : jE} (i : ot C f) : ot C' f := by
 induction i with
 | mem c a hk => exact .mem c (h c a) hk
 | inc c w a hk _ ih => exact .inc c w (h c a) hk ih
 | FQ c b w a hk _ _ d g => exact .FQ c b w (h c a) hk d g
 | both c w a hk _ _ d g => exact .both c w (h c a) hk d g
def EZ (C : List jm) : List jE := (C.map (·.Head)).flatMap fun r => (C.map (·.km)).map fun w => (⟨r, w⟩ : jE)
theorem CO (C : List jm) : (EZ C).length = C.length * C.length := by
 unfold EZ
 have : ∀ l : List jl, (l.flatMap fun r => (C.map (·.km)).map fun w => (⟨r, w⟩ : jE)).length = l.length * C.length := fun l => by
  induction l with
  | nil => simp
  | cons x l ih => simp only [gA, aD, ih, cW, aI, cL]; omega
 rw [this, cW]
theorem Qg {C : List jm} {r : jl} {w : ByteArray} : (⟨r, w⟩ : jE) ∈ EZ C ↔ (∃ c ∈ C, c.Head = r) ∧ ∃ c ∈ C, c.km = w := by
 unfold EZ
 simp only [iT, bF, jE.mk.injEq]
 constructor
 ·rintro ⟨g, ⟨c, d, rfl⟩, h, ⟨b, a, rfl⟩, rfl, rfl⟩; exact ⟨⟨c, d, rfl⟩, b, a, rfl⟩
 ·rintro ⟨⟨c, d, rfl⟩, b, a, rfl⟩; exact ⟨_, ⟨c, d, rfl⟩, _, ⟨b, a, rfl⟩, rfl, rfl⟩
theorem ot.J5 {C : List jm} {f : jE} (h : ot C f) : ∃ c ∈ C, c.Kind = 1 ∧ c.km = f.km := by
 induction h with
 | mem c g hk => exact ⟨c, g, hk, rfl⟩
 | inc c w g hk _ ih => exact ih
 | FQ c b w g hk _ _ a d => exact d
 | both c w g hk _ _ a d => exact a
theorem ot.head {C : List jm} {f : jE} (h : ot C f) : ∃ c ∈ C, c.Head = f.jl := by
 cases h with
 | mem c a hk => exact ⟨c, a, rfl⟩
 | inc c w a hk _ => exact ⟨c, a, rfl⟩
 | FQ c b w a hk _ _ => exact ⟨c, a, rfl⟩
 | both c w a hk _ _ => exact ⟨c, a, rfl⟩
theorem ot.EZ {C : List jm} {f : jE} (h : ot C f) : f ∈ EZ C := by
 obtain ⟨c, a, _, hw⟩ := h.J5
 exact Qg.2 ⟨h.head, c, a, hw⟩
structure pT (C : List jm) (T : oG) (td : List jE) (n : Int) : Prop where
 keys : (T.map (·.1)).Nodup
 nd : (FS T).Nodup
 J8 : td.Nodup
 sub : ∀ f ∈ td, f ∈ FS T
 num : n = (FS T).length
 wD : ∀ f ∈ FS T, ot C f
theorem pT.len {C : List jm} {T : oG} {b : List jE} {n : Int} (h : pT C T b n) : (FS T).length ≤ C.length * C.length := by
 rw [← CO]; exact lA h.nd (fun f a => (h.wD f a).EZ)
theorem pT.Rz {C : List jm} {T : oG} {a : List jE} {n : Int} (h : pT C T a n) : a.length ≤ (FS T).length := lA h.J8 h.sub
theorem pT.mono {C C' : List jm} {T : oG} {a : List jE} {n : Int} (h : pT C T a n) (b : ∀ c ∈ C, c ∈ C') : pT C' T a n := ⟨h.keys, h.nd, h.J8, h.sub, h.num, fun f d => (h.wD f d).mono b⟩
structure zj (T : oG) (td : List jE) (T' : oG) (td' : List jE) : Prop where
 lO : ∀ f ∈ FS T, f ∈ FS T'
 todo : ∀ f ∈ td, f ∈ td'
 new : ∀ f ∈ FS T', f ∈ FS T ∨ f ∈ td'
 fresh : ∀ f ∈ td', f ∈ td ∨ f ∉ FS T
theorem zj.refl (T : oG) (a : List jE) : zj T a T a := ⟨fun _ h => h, fun _ h => h, fun _ h => .inl h, fun _ h => .inl h⟩
theorem zj.trans {T T' T'' : oG} {i g a : List jE} (h : zj T i T' g) (k : zj T' g T'' a) : zj T i T'' a :=
 ⟨fun f b => k.lO f (h.lO f b), fun f b => k.todo f (h.todo f b), fun f b => by
  rcases k.new f b with h1 | h1
  ·rcases h.new f h1 with d | d
   ·exact .inl d
   ·exact .inr (k.todo f d)
  ·exact .inr h1, fun f b => by
  rcases k.fresh f b with h1 | h1
  ·exact h.fresh f h1
  ·exact .inr (fun d => h1 (h.lO f d))⟩
theorem GR {α : Type} (p : α → Bool) : ∀ l : List α, (l.filter p).length + (l.filter fun x => !p x).length = l.length
 | [] => rfl
 | x :: l => by
  have := GR p l
  cases h : p x <;> simp [h] <;> omega
theorem pT.EX {C C' : List jm} {T T' : oG} {i d : List jE} {n p : Int} (j : pT C' T' d p) (g : pT C T i n) (x : zj T i T' d) : d.length + (FS T).length ≤ i.length + (FS T').length := by
 classical
 have h1 : (d.filter fun f => decide (f ∈ FS T)).length ≤ i.length := lA (j.J8.filter _) (fun f k => by
  have := cK.1 k
  rcases x.fresh f this.1 with h | h
  ·exact h
  ·exact absurd (by simpa using this.2) h)
 have l : (FS T ++ d.filter fun f => !decide (f ∈ FS T)).length ≤ (FS T').length := lA (bT.2 ⟨g.nd, j.J8.filter _, fun a ha b m e => by
  subst e
  have := (cK.1 m).2
  simp [ha] at this⟩) (fun f k => by
  rcases aN.1 k with h | h
  ·exact x.lO f h
  ·exact j.sub f (cK.1 h).1)
 have q : (d.filter fun f => decide (f ∈ FS T)).length + (d.filter fun f => !decide (f ∈ FS T)).length = d.length := by
  exact GR (fun f => decide (f ∈ FS T)) d
 rw [aD] at l
 omega
def By (C : List jm) (T : oG) (g : List jE) (b : Option (List (jl × List (ByteArray × Bool)) × List jE × Int)) (Q : oG → Prop) : Prop :=
 ∃ T' a d, b = some (mm T', a, d) ∧ pT C T' a d ∧ zj T g T' a ∧ Q T'
theorem By.mono {C : List jm} {T : oG} {g : List jE} {a : Option (List (jl × List (ByteArray × Bool)) × List jE × Int)} {Q Q' : oG → Prop} (h : By C T g a Q) (k : ∀ T', (∀ f ∈ FS T, f ∈ FS T') → Q T' → Q' T') : By C T g a Q' := by
 obtain ⟨T', b, l, h1, i, d, j⟩ := h
 exact ⟨T', b, l, h1, i, d, k T' d.lO j⟩
def qn (C : List jm) : Prop := C.length ≤ 1000000
theorem qn.sq {C : List jm} (h : qn C) : C.length * C.length ≤ 1000000000000 := Nat.mul_le_mul h h
theorem si {T : oG} (hk : (T.map (·.1)).Nodup) (r : jl) (w : ByteArray) : yX kD ((kJ jJ (mm T) r).getD []) w false = true ↔ (⟨r, w⟩ : jE) ∈ FS T := by
 rw [KU, NF, tf lI, AK hk]
theorem BT {C : List jm} (y : qn C) {T : oG} {k : List jE} {n : Int} (h : pT C T k n) (cs : List jm) (L : List (jl × List jm)) (ws : List (ByteArray × List jm)) {r : jl} {w : ByteArray} (z : ot C ⟨r, w⟩) :
  By C T k (nk (mm T) cs L ws k n r w) (fun T' => (⟨r, w⟩ : jE) ∈ FS T') := by
 unfold nk
 have G := y.sq
 have M := h.len
 have I := h.Rz
 by_cases g : (⟨r, w⟩ : jE) ∈ FS T
 ·rw [aZ ((si h.keys r w).2 g)]
  exact ⟨T, k, n, rfl, h, zj.refl _ _, g⟩
 ·rw [aY (fun t => g ((si h.keys r w).1 t))]
  have E : pT C (D4 T r w) (k ++ [⟨r, w⟩]) (n + 1) := by
   have hp := Gu T r w
   refine ⟨Oa h.keys r w, (hp.nodup_iff).2 (bT.2 ⟨h.nd, by simp, fun a ha b p e => ?_⟩), bT.2 ⟨h.J8, by simp, fun a ha b p e => ?_⟩, fun f d => hp.mem_iff.2 ?_, ?_, fun f d => ?_⟩
   ·simp at p; subst p; subst e; exact g ha
   ·simp at p; subst p; subst e; exact g (h.sub _ ha)
   ·rcases aN.1 d with d | d
    ·exact cD _ (h.sub f d)
    ·exact dt _ d
   ·rw [hp.length_eq, h.num]; simp
   ·rcases aN.1 (hp.mem_iff.1 d) with d | d
    ·exact h.wD f d
    ·simp at d; subst d; exact z
  have u : ((if (kJ jJ (mm T) r).isNone = true then ((FD jJ (mm T) r []).bind fun l => some l) else some (mm T)) : Option _).bind (fun l => (Fj jJ kD l r w true)) = some (mm (D4 T r w)) := by
   unfold D4 qZ
   rcases tP r T with j | ⟨A, x, B, rfl, s⟩
   ·have q := vl jK (yC j)
    rw [q, vl jK j, Cf jK j, DE]
    simp only [Option.isNone_none, aM, FD, q, aA]
    rw [Cf jK (yC j)]
    unfold Fj
    rw [qm jK (yC j)]
    simp only [dD]
    rw [wq jK (yC j)]
    rfl
   ·have m := yC s
    have v : kJ jJ (mm (A ++ (r, x) :: B)) r = some (tt x) := by rw [DE]; exact qm jK m
    rw [v, qm jK s, wq jK s]
    simp only [Option.isNone_some, aB, aH, aA, Fj, v, dD, gH]
    have J : w ∉ x := fun hw => g (by
     rw [AK h.keys, qZ, qm jK s]; exact hw)
    rw [PT lI]
    rw [show ins kD x w = x ++ [w] from by unfold ins; rw [aY (fun t => J ((tf lI x w).1 t))]]
    rw [DE, show mm ((r, x) :: B) = (r, tt x) :: mm B from rfl, wq jK m, DE]
    rfl
  refine ⟨D4 T r w, k ++ [⟨r, w⟩], n + 1, ?_, E, ⟨fun f d => (Gu T r w).mem_iff.2 (cD _ d), fun f d => cD _ d, fun f d => ?_, fun f d => ?_⟩, (Gu T r w).mem_iff.2 (by simp)⟩
  ·have i := u
   generalize ((if (kJ jJ (mm T) r).isNone = true then ((FD jJ (mm T) r []).bind fun l => some l) else some (mm T)) : Option _) = o at i
   cases o with
   | none => cases i
   | some l =>
    simp only [aA] at i ⊢
    rw [i]
    simp only [aA]
    rw [lB (by simp; omega) (by simp; omega)]
    simp only [aA]
    rw [jT (by rw [h.num]; omega) (by rw [h.num]; omega)]
  ·rcases aN.1 ((Gu T r w).mem_iff.1 d) with h1 | h1
   ·exact .inl h1
   ·exact .inr (dt _ h1)
  ·rcases aN.1 d with h1 | h1
   ·exact .inl h1
   ·simp at h1; subst h1; exact .inr g
theorem yQ (l : List ByteArray) (x : ByteArray) : x ∈ uz l ↔ x ∈ l := by unfold uz; simp
def rD (C : List jm) : Prop := ∀ c ∈ C, kY c = true
theorem M5 {c : jm} (h : kY c = true) (hk : c.Kind = 1) : c.km.size ≤ 16 := by
 rcases oh h with h | h | h | h
 ·exact (nR h.2.1).2
 ·exact absurd (hk.symm.trans h.1) (by decide)
 ·exact absurd (hk.symm.trans h.1) (by decide)
 ·exact absurd (hk.symm.trans h.1) (by decide)
theorem NL {T : oG} (r : jl) (hk : (T.map (·.1)).Nodup) : (qZ T r).length ≤ (FS T).length := by
 unfold qZ
 rcases tP r T with b | ⟨A, x, B, rfl, a⟩
 ·rw [vl jK b]; simp
 ·rw [qm jK a]
  simp only [FS, gV, gA, aD, cW, gH]
  omega
theorem Gz {C : List jm} (a : qn C) (b : rD C) {T : oG} {i : List jE} {n : Int} (h : pT C T i n) (cs : List jm) (j : List (jl × List jm)) (ws : List (ByteArray × List jm)) (q : List jE) (z : Int) (r : jl) :
  qb (mm T) cs j ws q z r = some (uz (qZ T r)) := by
 unfold qb ov
 rw [KU]
 simp only [aA, nH]
 have m := NL r h.keys
 have k := h.len
 have l := a.sq
 unfold FM
 rw [PZ, aZ]
 refine ⟨JT h.nd r, fun p hp => ?_, by rw [MP]; omega⟩
 simp only [tt, bF] at hp
 obtain ⟨w, hw, rfl⟩ := hp
 have g := h.wD ⟨r, w⟩ ((AK h.keys ⟨r, w⟩).2 hw)
 obtain ⟨c, d, hk, e⟩ := g.J5
 have := M5 (b c d) hk
 simp only at e ⊢
 rw [← e]
 unfold maxLen
 omega
theorem Mr {C : List jm} (i : qn C) (cs : List jm) (g : List (jl × List jm)) (ws : List (ByteArray × List jm)) (head : jl) : ∀ (l : List ByteArray) {T : oG} {a : List jE} {n : Int}, pT C T a n → (∀ w ∈ l, ot C ⟨head, w⟩) →
  By C T a (pE cs g ws head l (mm T) a n) (fun T' => ∀ w ∈ l, (⟨head, w⟩ : jE) ∈ FS T')
 | [], T, a, n, h, _ => ⟨T, a, n, rfl, h, zj.refl _ _, fun _ hw => by cases hw⟩
 | w :: l, T, a, n, h, j => by
  rw [pE]
  obtain ⟨T1, s, t, k, g1, x1, q⟩ := BT i h cs g ws (j w (by simp))
  rw [k]
  simp only [aA]
  obtain ⟨T2, d, p, m, g2, x2, r⟩ := Mr i cs g ws head l g1 (fun w hw => j w (by simp [hw]))
  refine ⟨T2, d, p, m, g2, x1.trans x2, fun v b => ?_⟩
  rcases aK.1 b with rfl | b
  ·exact x2.lO _ q
  ·exact r v b
theorem QB {C : List jm} (b : qn C) (g : rD C) {T : oG} {a : List jE} {n : Int} (h : pT C T a n) (cs : List jm) (d : List (jl × List jm)) (ws : List (ByteArray × List jm)) (r head : jl) (i : ∀ w, (⟨r, w⟩ : jE) ∈ FS T → ot C ⟨head, w⟩) :
  By C T a (tq (mm T) cs d ws a n r head) (fun T' => ∀ w, (⟨r, w⟩ : jE) ∈ FS T → (⟨head, w⟩ : jE) ∈ FS T') := by
 unfold tq
 rw [Gz b g h]
 simp only [aA]
 refine (Mr b cs d ws head _ h (fun w hw => i w ((AK h.keys ⟨r, w⟩).2 ((yQ _ _).1 hw)))).mono (fun T' _ j w hw => j w ((yQ _ _).2 ((AK h.keys ⟨r, w⟩).1 hw)))
def Ep (c : jm) (f : jE) (T T' : oG) : Prop :=
 (c.Kind = 2 → f.jl = c.B → (⟨c.Head, f.km⟩ : jE) ∈ FS T') ∧
 (c.Kind = 3 → f.jl = c.B → ∀ w, (⟨⟨f.km, c.kC⟩, w⟩ : jE) ∈ FS T → (⟨c.Head, w⟩ : jE) ∈ FS T') ∧
 (c.Kind = 4 → (⟨c.B, f.km⟩ : jE) ∈ FS T → (⟨c.C, f.km⟩ : jE) ∈ FS T → (⟨c.Head, f.km⟩ : jE) ∈ FS T')
theorem Ep.mono {c : jm} {f : jE} {T T' T0 T1 : oG} (h : Ep c f T T') (g : ∀ f ∈ FS T0, f ∈ FS T) (h1 : ∀ f ∈ FS T', f ∈ FS T1) : Ep c f T0 T1 :=
 ⟨fun a b => h1 _ (h.1 a b), fun a b w hw => h1 _ (h.2.1 a b w (g _ hw)), fun a b d => h1 _ (h.2.2 a (g _ b) (g _ d))⟩
theorem Pa (x : Option (List (jl × List (ByteArray × Bool)) × List jE × Int)) : (x.bind fun r => some (r.1, r.2.1, r.2.2)) = x := by cases x <;> rfl
theorem Mw {C : List jm} (p : qn C) (u : rD C) {T : oG} {i : List jE} {n : Int} (h : pT C T i n) (cs : List jm) (l : List (jl × List jm)) (ws : List (ByteArray × List jm)) {c : jm} (q : c ∈ C) {f : jE} (s : f ∈ FS T) (t : f.jl ∈ nY c) :
  By C T i (qO (mm T) cs l ws i n c f) (Ep c f T) := by
 unfold qO
 simp only [Pa, Df]
 by_cases a : c.Kind = 2
 ·have m : f.jl = c.B := by simpa [nY, a] using t
  rw [aZ (by simp [a])]
  have r : ot C ⟨c.Head, f.km⟩ := .inc c f.km q a (by rw [← m]; exact h.wD f s)
  refine (BT p h cs l ws r).mono (fun T' _ g => ⟨fun _ _ => g, fun k => absurd (a.symm.trans k) (by decide), fun k => absurd (a.symm.trans k) (by decide)⟩)
 rw [aY (by simp [a])]
 by_cases b : c.Kind = 3
 ·have m : f.jl = c.B := by simpa [nY, b] using t
  rw [aZ (by simp [b])]
  refine (QB p u h cs l ws ⟨f.km, c.kC⟩ c.Head (fun w hw => .FQ c f.km w q b (by rw [← m]; exact h.wD f s) (h.wD _ hw))).mono (fun T' _ g => ⟨fun k => absurd k a, fun _ _ w hw => g w hw, fun k => absurd (b.symm.trans k) (by decide)⟩)
 rw [aY (by simp [b])]
 by_cases j : c.Kind = 4
 ·rw [aZ (by simp [j])]
  simp only [aA]
  by_cases d : (⟨c.B, f.km⟩ : jE) ∈ FS T ∧ (⟨c.C, f.km⟩ : jE) ∈ FS T
  ·rw [aZ (by rw [bk, si h.keys, si h.keys]; exact d)]
   have r : ot C ⟨c.Head, f.km⟩ := .both c f.km q j (h.wD _ d.1) (h.wD _ d.2)
   exact (BT p h cs l ws r).mono (fun T' _ g => ⟨fun k => absurd k a, fun k => absurd k b, fun _ _ _ => g⟩)
  ·rw [aY (by rw [bk, si h.keys, si h.keys]; exact d)]
   exact ⟨T, i, n, rfl, h, zj.refl _ _, fun k => absurd k a, fun k => absurd k b, fun _ x y => absurd ⟨x, y⟩ d⟩
 ·rw [aY (by simp [j])]
  exact ⟨T, i, n, rfl, h, zj.refl _ _, fun k => absurd k a, fun k => absurd k b, fun k => absurd k j⟩
theorem IQ {C : List jm} (i : qn C) (j : rD C) (cs : List jm) (g : List (jl × List jm)) (ws : List (ByteArray × List jm)) {c : jm} (k : c ∈ C) (m : c.B ∈ nY c) : ∀ (l : List ByteArray) {T : oG} {a : List jE} {n : Int}, pT C T a n → (∀ w ∈ l, (⟨c.B, w⟩ : jE) ∈ FS T) →
  By C T a (oN cs g ws c l (mm T) a n) (fun T' => ∀ w ∈ l, Ep c ⟨c.B, w⟩ T T')
 | [], T, a, n, h, _ => ⟨T, a, n, rfl, h, zj.refl _ _, fun _ hw => by cases hw⟩
 | w :: l, T, a, n, h, hm => by
  rw [oN]
  obtain ⟨T1, u, x, p, g1, x1, s⟩ := Mw i j h cs g ws k (f := ⟨c.B, w⟩) (hm w (by simp)) m
  rw [p]
  simp only [aA]
  obtain ⟨T2, d, r, q, g2, x2, t⟩ := IQ i j cs g ws k m l g1 (fun w hw => x1.lO _ (hm w (by simp [hw])))
  refine ⟨T2, d, r, q, g2, x1.trans x2, fun v b => ?_⟩
  rcases aK.1 b with rfl | b
  ·exact s.mono (fun _ h => h) x2.lO
  ·exact (t v b).mono x1.lO (fun _ h => h)
def EN (c : jm) (T : oG) (a : List jE) : Prop :=
 (c.Kind = 1 → (⟨c.Head, c.km⟩ : jE) ∈ FS T) ∧
 (c.Kind = 2 → ∀ w, (⟨c.B, w⟩ : jE) ∈ FS T → (⟨c.B, w⟩ : jE) ∉ a → (⟨c.Head, w⟩ : jE) ∈ FS T) ∧
 (c.Kind = 3 → ∀ b w, (⟨c.B, b⟩ : jE) ∈ FS T → (⟨c.B, b⟩ : jE) ∉ a → (⟨⟨b, c.kC⟩, w⟩ : jE) ∈ FS T → (⟨⟨b, c.kC⟩, w⟩ : jE) ∉ a → (⟨c.Head, w⟩ : jE) ∈ FS T) ∧
 (c.Kind = 4 → ∀ w, (⟨c.B, w⟩ : jE) ∈ FS T → (⟨c.B, w⟩ : jE) ∉ a → (⟨c.C, w⟩ : jE) ∈ FS T → (⟨c.C, w⟩ : jE) ∉ a → (⟨c.Head, w⟩ : jE) ∈ FS T)
theorem EN.ext {c : jm} {T T' : oG} {i d : List jE} (h : EN c T i) (x : zj T i T' d) : EN c T' d := by
 have lO : ∀ f, f ∈ FS T' → f ∉ d → f ∈ FS T ∧ f ∉ i := fun f m j => by
  rcases x.new f m with h1 | h1
  ·exact ⟨h1, fun l => j (x.todo f l)⟩
  ·exact absurd h1 j
 refine ⟨fun k => x.lO _ (h.1 k), fun k w a b => ?_, fun k b w g a2 a3 a4 => ?_, fun k w g a2 a3 a4 => ?_⟩
 ·exact x.lO _ (h.2.1 k w (lO _ a b).1 (lO _ a b).2)
 ·exact x.lO _ (h.2.2.1 k b w (lO _ g a2).1 (lO _ g a2).2 (lO _ a3 a4).1 (lO _ a3 a4).2)
 ·exact x.lO _ (h.2.2.2 k w (lO _ g a2).1 (lO _ g a2).2 (lO _ a3 a4).1 (lO _ a3 a4).2)
theorem ON {C : List jm} (l : qn C) (s : rD C) {T : oG} {p : List jE} {n : Int} (h : pT C T p n) (cs : List jm) (r : List (jl × List jm)) (ws : List (ByteArray × List jm)) {c : jm} (t : c ∈ C) :
  ∃ T' d i, rI (mm T) cs r ws p n c = some (mm T', d, i) ∧ pT C T' d i ∧ zj T p T' d ∧ EN c T' d := by
 unfold rI
 simp only [Pa]
 by_cases h1 : c.Kind = 1
 ·rw [aZ (by simp [h1])]
  obtain ⟨T', d, i, e, g, x, q⟩ := BT l h cs r ws (ot.mem c t h1)
  exact ⟨T', d, i, e, g, x, fun _ => q, fun k => absurd (h1.symm.trans k) (by decide), fun k => absurd (h1.symm.trans k) (by decide), fun k => absurd (h1.symm.trans k) (by decide)⟩
 ·rw [aY (by simp [h1]), Gz l s h]
  simp only [aA]
  have y : c.B ∈ nY c := by unfold nY; rw [aY h1]; split <;> simp
  obtain ⟨T', d, i, e, g, x, q⟩ := IQ l s cs r ws t y (uz (qZ T c.B)) h (fun w hw => (AK h.keys ⟨c.B, w⟩).2 ((yQ _ _).1 hw))
  have lO : ∀ f, f ∈ FS T' → f ∉ d → f ∈ FS T := fun f u v => by
   rcases x.new f u with h1 | h1
   ·exact h1
   ·exact absurd h1 v
  have m : ∀ w, (⟨c.B, w⟩ : jE) ∈ FS T → Ep c ⟨c.B, w⟩ T T' := fun w hw => q w ((yQ _ _).2 ((AK h.keys ⟨c.B, w⟩).1 hw))
  refine ⟨T', d, i, e, g, x, fun k => absurd k h1, fun k w a b => ?_, fun k b w j a2 a3 a4 => ?_, fun k w j a2 a3 a4 => ?_⟩
  ·exact (m w (lO _ a b)).1 k rfl
  ·exact (m b (lO _ j a2)).2.1 k rfl w (lO _ a3 a4)
  ·exact (m w (lO _ j a2)).2.2 k (lO _ j a2) (lO _ a3 a4)
structure DY (C : List jm) (us : List (jl × List jm)) (ws : List (ByteArray × List jm)) : Prop where
 NT : ∀ r c, c ∈ (kJ jJ us r).getD [] ↔ c ∈ C ∧ r ∈ nY c
 word : ∀ w c, c ∈ (kJ kD ws w).getD [] ↔ c ∈ C ∧ c.Kind = 3 ∧ c.kC = w
 Q8 : ∀ r, ((kJ jJ us r).getD []).length ≤ 2 * C.length
 Rj : ∀ w, ((kJ kD ws w).getD []).length ≤ C.length
theorem Hw {C : List jm} (i : qn C) (j : rD C) (cs : List jm) (g : List (jl × List jm)) (ws : List (ByteArray × List jm)) {f : jE} : ∀ (l : List jm) {T : oG} {a : List jE} {n : Int}, pT C T a n → f ∈ FS T → (∀ c ∈ l, c ∈ C ∧ f.jl ∈ nY c) →
  By C T a (oE cs g ws f l (mm T) a n) (fun T' => ∀ c ∈ l, Ep c f T T')
 | [], T, a, n, h, _, _ => ⟨T, a, n, rfl, h, zj.refl _ _, fun _ hw => by cases hw⟩
 | c :: l, T, a, n, h, k, hm => by
  rw [oE]
  obtain ⟨T1, u, w, m, g1, x1, s⟩ := Mw i j h cs g ws (hm c (by simp)).1 k (hm c (by simp)).2
  rw [m]
  simp only [aA]
  obtain ⟨T2, d, r, p, g2, x2, t⟩ := Hw i j cs g ws l g1 (x1.lO _ k) (fun c q => hm c (by simp [q]))
  refine ⟨T2, d, r, p, g2, x1.trans x2, fun v b => ?_⟩
  rcases aK.1 b with rfl | b
  ·exact s.mono (fun _ h => h) x2.lO
  ·exact (t v b).mono x1.lO (fun _ h => h)
theorem DM {C : List jm} (m : qn C) (u : rD C) (cs : List jm) (j : List (jl × List jm)) (ws : List (ByteArray × List jm)) {f : jE} : ∀ (l : List jm) {T : oG} {g : List jE} {n : Int}, pT C T g n → f ∈ FS T → (∀ c ∈ l, c ∈ C ∧ c.Kind = 3 ∧ c.kC = f.jl.jv) →
  By C T g (nx f cs j ws l (mm T) g n) (fun T' => ∀ c ∈ l, (⟨c.B, f.jl.jq⟩ : jE) ∈ FS T → (⟨c.Head, f.km⟩ : jE) ∈ FS T')
 | [], T, g, n, h, _, _ => ⟨T, g, n, rfl, h, zj.refl _ _, fun _ hw => by cases hw⟩
 | c :: l, T, g, n, h, q, hm => by
  rw [nx]
  have hk := hm c (by simp)
  by_cases i : (⟨c.B, f.jl.jq⟩ : jE) ∈ FS T
  ·rw [aZ ((si h.keys _ _).2 i)]
   have r : f = ⟨⟨f.jl.jq, c.kC⟩, f.km⟩ := by rw [hk.2.2]
   have x : ot C ⟨c.Head, f.km⟩ := .FQ c f.jl.jq f.km hk.1 hk.2.1 (h.wD _ i) (by rw [← r]; exact h.wD f q)
   obtain ⟨T1, E, G, w, g1, x1, z⟩ := BT m h cs j ws x
   rw [w]
   simp only [aA]
   obtain ⟨T2, d, s, k, g2, x2, t⟩ := DM m u cs j ws l g1 (x1.lO _ q) (fun c p => hm c (by simp [p]))
   refine ⟨T2, d, s, k, g2, x1.trans x2, fun v b a => ?_⟩
   rcases aK.1 b with rfl | b
   ·exact x2.lO _ z
   ·exact t v b (x1.lO _ a)
  ·rw [aY (fun y => i ((si h.keys _ _).1 y))]
   obtain ⟨T2, d, s, k, g2, x2, t⟩ := DM m u cs j ws l h q (fun c p => hm c (by simp [p]))
   refine ⟨T2, d, s, k, g2, x2, fun v b a => ?_⟩
   rcases aK.1 b with rfl | b
   ·exact absurd a i
   ·exact t v b a
theorem HT {C : List jm} (I : qn C) (J : rD C) {cs : List jm} {E : List (jl × List jm)} {ws : List (ByteArray × List jm)} (u : DY C E ws) : ∀ (m : Nat) {T : oG} {l : List jE} {n : Int}, pT C T l n → (∀ c ∈ C, EN c T l) → C.length * C.length + l.length < m + (FS T).length →
  ∃ T' O, mQ cs E ws m (mm T) l n = some (mm T', [], O) ∧ pT C T' [] O ∧ (∀ c ∈ C, EN c T' []) ∧ (∀ f ∈ FS T, f ∈ FS T')
 | 0, T, l, n, h, _, hm => by have := h.len; omega
 | m + 1, T, [], n, h, q, hm => by
  rw [mQ]
  exact ⟨T, n, rfl, h, q, fun _ h => h⟩
 | m + 1, T, f :: l, n, h, q, hm => by
  rw [mQ]
  rw [aZ (by simp)]
  have M : f ∈ FS T := h.sub f (by simp)
  have W := (cR.1 h.J8)
  simp only [kV, Int.le_refl, aM, Int.toNat_zero, gl, aA]
  rw [show qR (decide ((0 : Nat) ≤ 1) && decide ((1 : Int) ≤ ((f :: l).length : Int))) = some () by simp [qR]; omega]
  simp only [aA, show Int.toNat 1 = 1 from rfl, List.drop_one, List.tail_cons]
  have L : pT C T l n := ⟨h.keys, h.nd, W.2, fun g y => h.sub g (by simp [y]), h.num, h.wD⟩
  obtain ⟨T1, a6, n1, Q, g1, x1, q1⟩ := Hw I J cs E ws ((kJ jJ E f.jl).getD []) L M (fun c i => (u.NT _ c).1 i)
  rw [Q]
  simp only [aA]
  obtain ⟨T2, r, n2, R, g2, x2, q2⟩ := DM I J cs E ws ((kJ kD ws f.jl.jv).getD []) g1 (x1.lO _ M) (fun c i => (u.word _ c).1 i)
  rw [R]
  simp only [aA]
  have x := x1.trans x2
  have lO : ∀ g, g ∈ FS T2 → g ∉ r → g ∈ FS T ∧ (g = f ∨ g ∉ f :: l) := fun g y z => by
   rcases x.new g y with h1 | h1
   ·refine ⟨h1, ?_⟩
    by_cases he : g = f
    ·exact .inl he
    ·exact .inr (fun t => by
      rcases aK.1 t with t | t
      ·exact he t
      ·exact z (x.todo g t))
   ·exact absurd h1 z
  have d1 : ∀ c ∈ C, f.jl ∈ nY c → Ep c f T T2 := fun c i Y => (q1 c ((u.NT _ c).2 ⟨i, Y⟩)).mono (fun _ h => h) x2.lO
  have v : ∀ c ∈ C, EN c T2 r := fun c i => by
   have k := q c i
   refine ⟨fun hk => x.lO _ (k.1 hk), fun hk w a b => ?_, fun hk b w G a2 a3 a4 => ?_, fun hk w G a2 a3 a4 => ?_⟩
   ·obtain ⟨p, d⟩ := lO _ a b
    rcases d with d | d
    ·subst d; exact (d1 c i (by simp [nY, hk])).1 hk rfl
    ·exact x.lO _ (k.2.1 hk w p d)
   ·obtain ⟨p, d⟩ := lO _ G a2
    obtain ⟨s, j⟩ := lO _ a3 a4
    rcases d with d | d
    ·subst d; exact (d1 c i (by simp [nY, hk])).2.1 hk rfl w s
    ·rcases j with j | j
     ·subst j
      exact q2 c ((u.word _ c).2 ⟨i, hk, rfl⟩) (x1.lO _ p)
     ·exact x.lO _ (k.2.2.1 hk b w p d s j)
   ·obtain ⟨p, d⟩ := lO _ G a2
    obtain ⟨s, j⟩ := lO _ a3 a4
    rcases d with d | d
    ·subst d; exact (d1 c i (by simp [nY, hk])).2.2 hk p s
    ·rcases j with j | j
     ·subst j; exact (d1 c i (by simp [nY, hk])).2.2 hk p s
     ·exact x.lO _ (k.2.2.2 hk w p d s j)
  have hlen : r.length + (FS T).length ≤ l.length + (FS T2).length := by
   exact g2.EX L x
  obtain ⟨T3, Z, U, g3, P, o3⟩ := HT I J u m g2 v (by simp only [aI] at hm; omega)
  exact ⟨T3, Z, U, g3, P, fun g y => o3 g (x.lO g y)⟩
theorem KG (c : jm) : ∀ (l : List jm) (i : Nat), ∃ z, pD c l i = some z ∧ (z ≥ 0 ↔ c ∈ l)
 | [], i => ⟨-1, rfl, by simp⟩
 | x :: l, i => by
  rw [pD]
  by_cases h : kU c x = true
  ·rw [aZ h]
   exact ⟨_, rfl, by simp [ns.1 h]⟩
  ·rw [aY h]
   obtain ⟨z, e, b⟩ := KG c l (i + 1)
   refine ⟨z, e, ?_⟩
   rw [b, aK]
   exact ⟨.inr, fun a => a.resolve_left (fun e => h (ns.2 e))⟩
theorem Jl (c : jm) (l : List jm) : ∃ b, pf l c = some b ∧ (b = true ↔ c ∈ l) := by
 obtain ⟨z, e, a⟩ := KG c l 0
 refine ⟨decide (z ≥ 0), ?_, by simpa using a⟩
 unfold pf ry vr
 rw [e]
 rfl
theorem Kh (c : jm) (ws : List (ByteArray × List jm)) (C : List jm) (hw : ∀ w, ((kJ kD ws w).getD []).length ≤ 2000000) : ∀ (j : List jl) (a : List (jl × List jm)), (∀ r, ((kJ jJ a r).getD []).length + j.length ≤ 4000000) →
  ∃ g i, nZ c ws C j a = some (C, g, i) ∧ (∀ r x, x ∈ (kJ jJ g r).getD [] ↔ x ∈ (kJ jJ a r).getD [] ∨ (x = c ∧ r ∈ j)) ∧
   (∀ w x, x ∈ (kJ kD i w).getD [] ↔ x ∈ (kJ kD ws w).getD [] ∨ (x = c ∧ c.Kind = 3 ∧ w = c.kC)) ∧ (∀ r, ((kJ jJ g r).getD []).length ≤ ((kJ jJ a r).getD []).length + j.length) ∧
   (∀ w, ((kJ kD i w).getD []).length ≤ ((kJ kD ws w).getD []).length + 1)
 | [], a, _ => by
  rw [nZ]
  by_cases k : c.Kind = 3
  ·rw [aZ (by simp [k])]
   have h := hw c.kC
   rw [lB (by simp; omega) (by simp; omega)]
   simp only [aA]
   refine ⟨a, _, rfl, by simp, fun w x => ?_, by simp, fun w => ?_⟩
   ·rw [D0 lI]
    by_cases hk : kD w c.kC = true
    ·rw [aZ hk, lI.1 hk]; simp [k]
    ·rw [aY hk]
     have : w ≠ c.kC := fun e => hk (lI.2 e)
     simp [this]
   ·rw [D0 lI]
    by_cases hk : kD w c.kC = true
    ·rw [aZ hk, lI.1 hk]; simp
    ·rw [aY hk]; exact iA _
  ·rw [aY (by simp [k])]
   exact ⟨a, ws, rfl, by simp, by simp [k], by simp, by simp⟩
 | b :: j, a, l => by
  rw [nZ]
  have h := l b
  simp only [aI] at h
  rw [lB (by simp; omega) (by simp; omega)]
  simp only [aA]
  have d : ∀ r, (kJ jJ (nL jJ a b (((kJ jJ a b).getD []) ++ [c])) r).getD [] = if jJ r b = true then ((kJ jJ a b).getD []) ++ [c] else (kJ jJ a r).getD [] := fun r => by
   rw [D0 jK]; by_cases hk : jJ r b = true
   ·rw [aZ hk, aZ hk]; rfl
   ·rw [aY hk, aY hk]
  obtain ⟨g, i, e, m, a2, a3, a4⟩ := Kh c ws C hw j (nL jJ a b (((kJ jJ a b).getD []) ++ [c])) (fun r => by
   rw [d r]
   have n := l r
   simp only [aI] at n
   by_cases hk : jJ r b = true
   ·rw [aZ hk]; simp; omega
   ·rw [aY hk]; omega)
  refine ⟨g, i, e, fun r x => ?_, a2, fun r => ?_, a4⟩
  ·rw [m, d]
   by_cases hk : jJ r b = true
   ·rw [aZ hk, jK.1 hk]
    simp only [aN, aK, cP, eV]
    constructor
    ·rintro ((h | h) | h)
     ·exact .inl h
     ·exact .inr ⟨h, .inl trivial⟩
     ·exact .inr ⟨h.1, .inr h.2⟩
    ·rintro (h | h)
     ·exact .inl (.inl h)
     ·exact .inl (.inr h.1)
   ·rw [aY hk]
    have : r ≠ b := fun e => hk (jK.2 e)
    simp [this]
  ·have := a3 r
   rw [d r] at this
   by_cases hk : jJ r b = true
   ·rw [aZ hk] at this; rw [jK.1 hk] at this ⊢; simp at this ⊢; omega
   ·rw [aY hk] at this; simp; omega
theorem PS {C : List jm} {j : List (jl × List jm)} {ws : List (ByteArray × List jm)} (g : DY C j ws) (q : C.length + 1 ≤ 1000000) {c : jm} (l : kY c = true) (i : List (jl × List (ByteArray × Bool))) (p : List jE) (n : Int) :
  ∃ a b, sr i C j ws p n c = some (C ++ [c], a, b) ∧ DY (C ++ [c]) a b := by
 unfold sr
 rw [lB (by simp; omega) (by simp; omega)]
 simp only [aA, Qs l]
 rw [show qR (decide ((0 : Nat) ≤ 1) && decide ((1 : Int) ≤ ((c.Head :: nY c).length : Int))) = some () by simp [qR]; omega]
 simp only [aA, show Int.toNat 1 = 1 from rfl, List.drop_one, List.tail_cons]
 have m : (nY c).length ≤ 2 := by unfold nY; split; simp; split <;> simp
 obtain ⟨a, b, e, k, a2, a3, a4⟩ := Kh c ws (C ++ [c]) (fun w => by have := g.Rj w; omega) (nY c) j (fun r => by have := g.Q8 r; omega)
 refine ⟨a, b, e, fun r x => ?_, fun w x => ?_, fun r => ?_, fun w => ?_⟩
 ·rw [k, g.NT, aN, bM]
  constructor
  ·rintro (h | h)
   ·exact ⟨.inl h.1, h.2⟩
   ·exact ⟨.inr h.1, by rw [h.1]; exact h.2⟩
  ·rintro ⟨h | h, d⟩
   ·exact .inl ⟨h, d⟩
   ·exact .inr ⟨h, by rw [← h]; exact d⟩
 ·rw [a2, g.word, aN, bM]
  constructor
  ·rintro (h | h)
   ·exact ⟨.inl h.1, h.2⟩
   ·exact ⟨.inr h.1, by rw [h.1]; exact ⟨h.2.1, h.2.2.symm⟩⟩
  ·rintro ⟨h | h, d⟩
   ·exact .inl ⟨h, d⟩
   ·subst h; exact .inr ⟨rfl, d.1, d.2.symm⟩
 ·have := a3 r; have := g.Q8 r; simp; omega
 ·have := a4 w; have := g.Rj w; simp; omega
structure MS (C : List jm) (T : oG) (us : List (jl × List jm)) (ws : List (ByteArray × List jm)) (n : Int) : Prop where
 DH : pT C T [] n
 cl : ∀ c ∈ C, EN c T []
 SU : DY C us ws
 right : rD C
theorem MS.all {C : List jm} {T : oG} {j : List (jl × List jm)} {ws : List (ByteArray × List jm)} {n : Int} (h : MS C T j ws n) (f : jE) : f ∈ FS T ↔ ot C f := by
 refine ⟨h.DH.wD f, fun i => ?_⟩
 induction i with
 | mem c a hk => exact (h.cl c a).1 hk
 | inc c w a hk _ ih => exact (h.cl c a).2.1 hk w ih (by simp)
 | FQ c b w a hk _ _ d g => exact (h.cl c a).2.2.1 hk b w d (by simp) g (by simp)
 | both c w a hk _ _ d g => exact (h.cl c a).2.2.2 hk w d (by simp) g (by simp)
theorem I3 (q : Int) (y : 0 ≤ q ∧ q ≤ 1000000000000) : ∀ (l : List jm) {C : List jm} {T : oG} {p : List jE} {z : List (jl × List jm)} {ws : List (ByteArray × List jm)} {n : Int}, pT C T p n → (∀ c ∈ C, EN c T p) → DY C z ws → rD C → C.length + l.length ≤ 1000000 →
  ∃ C' T' a d j, np q l (mm T) C z ws p n = some (j - q, mm T', C', a, d, [], j) ∧ MS C' T' a d j ∧ (∀ c, c ∈ C' ↔ c ∈ C ∨ (c ∈ l ∧ kY c = true)) ∧ C'.length ≤ C.length + l.length ∧ (∀ f ∈ FS T, f ∈ FS T')
 | [], C, T, p, z, ws, n, g, i, t, r, O => by
  rw [np]
  have Y : qn C := by unfold qn; simp at O; omega
  have a6 := Y.sq
  have hlen := g.len
  have a7 := g.Rz
  obtain ⟨T', j, e, I, c', o⟩ := HT Y r t (cs := C) jP g i (by rw [wu]; omega)
  unfold tZ
  rw [e]
  simp only [aA]
  have P := I.len
  have Z := I.num
  rw [jT (by omega) (by omega)]
  exact ⟨C, T', z, ws, j, rfl, ⟨I, c', t, r⟩, by simp, by simp, o⟩
 | x :: l, C, T, p, z, ws, n, g, i, t, r, O => by
  rw [np, vB]
  simp only [aI] at O
  obtain ⟨b, hb, u⟩ := Jl x C
  simp only [aA, hb, Df]
  by_cases k : kY x = true ∧ x ∉ C
  ·have L : b = false := by cases b with | false => rfl | true => exact absurd (u.1 rfl) k.2
   rw [k.1, L]
   simp only [dq, iN, aM]
   obtain ⟨U, W, e1, U1⟩ := PS t (by omega) k.1 (mm T) p n
   rw [e1]
   simp only [aA]
   have J : qn (C ++ [x]) := by unfold qn; simp; omega
   have s : rD (C ++ [x]) := fun c v => by
    rcases aN.1 v with h | h
    ·exact r c h
    ·simp at h; subst h; exact k.1
   have g1 : pT (C ++ [x]) T p n := g.mono (fun c v => cD _ v)
   obtain ⟨T2, R, n2, e2, g2, x2, c2⟩ := ON J s g1 (C ++ [x]) U W (c := x) (by simp)
   rw [e2]
   simp only [aA]
   have w : ∀ c ∈ C ++ [x], EN c T2 R := fun c v => by
    rcases aN.1 v with h | h
    ·exact (i c h).ext x2
    ·simp at h; subst h; exact c2
   obtain ⟨C', T', a, d, j, e, m, G, a2, a3⟩ := I3 q y l g2 w U1 s (by simp; omega)
   refine ⟨C', T', a, d, j, e, m, fun c => ?_, by simp at a2 ⊢; omega, fun f M => a3 f (x2.lO f M)⟩
   rw [G]
   simp only [aN, aK, cP, eV]
   constructor
   ·rintro ((h | h) | h)
    ·exact .inl h
    ·subst h; exact .inr ⟨.inl rfl, k.1⟩
    ·exact .inr ⟨.inr h.1, h.2⟩
   ·rintro (h | ⟨h | h, E⟩)
    ·exact .inl (.inl h)
    ·exact .inl (.inr h)
    ·exact .inr ⟨h, E⟩
  ·have M : (kY x && !b) = false := by
    cases hr : kY x with
    | false => rfl
    | true =>
     have : x ∈ C := eS fun Q => k ⟨hr, Q⟩
     rw [u.2 this]; rfl
   rw [M]
   simp only [aB, aH]
   obtain ⟨C', T', a, d, j, e, m, G, a2, a3⟩ := I3 q y l g i t r (by omega)
   refine ⟨C', T', a, d, j, e, m, fun c => ?_, by simp; omega, a3⟩
   rw [G, aK]
   constructor
   ·rintro (h | h)
    ·exact .inl h
    ·exact .inr ⟨.inr h.1, h.2⟩
   ·rintro (h | ⟨h | h, E⟩)
    ·exact .inl h
    ·subst h
     exact .inl (eS fun Q => k ⟨E, Q⟩)
    ·exact .inr ⟨h, E⟩
theorem Ql {C : List jm} {T : oG} {g : List (jl × List jm)} {ws : List (ByteArray × List jm)} {n : Int} (h : MS C T g ws n) (l : List jm) (j : C.length + l.length ≤ 1000000) :
  ∃ C' T' a b d, tp (mm T) C g ws [] n l = some (d - n, mm T', C', a, b, [], d) ∧ MS C' T' a b d ∧ (∀ c, c ∈ C' ↔ c ∈ C ∨ (c ∈ l ∧ kY c = true)) ∧ C'.length ≤ C.length + l.length ∧ (∀ f ∈ FS T, f ∈ FS T') := by
 have i : qn C := by unfold qn; omega
 have h1 := h.DH.len
 have k := i.sq
 have m := h.DH.num
 exact I3 n ⟨by omega, by omega⟩ l h.DH h.cl h.SU h.right j
theorem DY.zero : DY [] [] [] := ⟨fun r c => by simp [kJ], fun w c => by simp [kJ], fun r => by simp [kJ], fun w => by simp [kJ]⟩
theorem pT.zero : pT [] [] [] 0 := ⟨by simp, by simp [FS], by simp, by simp, by simp [FS], by simp [FS]⟩
theorem MS.zero : MS [] [] [] [] 0 := ⟨pT.zero, fun c a => (by cases a), DY.zero, fun c a => (by cases a)⟩
theorem Iq (l : List jm) (h : l.length ≤ 1000000) : ∃ C T d ws n, uM l = some (mm T, C, d, ws, [], n) ∧ MS C T d ws n ∧ (∀ c, c ∈ C ↔ c ∈ l ∧ kY c = true) ∧ C.length ≤ l.length := by
 unfold uM
 obtain ⟨C', T', a, b, i, e, m, g, a2, a3⟩ := Ql MS.zero l (by simpa using h)
 rw [show tp [] [] [] [] [] 0 l = _ from e]
 exact ⟨C', T', a, b, i, rfl, m, by simpa using g, by simpa using a2⟩
theorem ot.congr {C C' : List jm} (h : ∀ c, c ∈ C ↔ c ∈ C') (f : jE) : ot C f ↔ ot C' f := ⟨fun d => d.mono (fun c a => (h c).1 a), fun d => d.mono (fun c a => (h c).2 a)⟩
def yr (a b : jE) : Bool := Bf a.jl b.jl || (jJ a.jl b.jl && pN a.km b.km)
theorem Aa {a b : jE} : yr a b = true ↔ Bf a.jl b.jl = true ∨ (a.jl = b.jl ∧ pN a.km b.km = true) := by simp [yr, jK]
def CX (_ : jE) : Bool := true
theorem Gw : zA (fun a b => yr a b = true) (fun x => CX x = true) := by
 have H := RU (fun _ => True)
 refine ⟨fun x _ => ?_, fun x y z _ _ _ h1 d => ?_, fun x y _ _ => ?_⟩
 ·rw [Aa]
  rintro (h | ⟨_, h⟩)
  ·exact H.irrefl _ trivial h
  ·rw [sk] at h; cases h
 ·rw [Aa] at *
  rcases h1 with h1 | ⟨i, h1⟩
  ·rcases d with d | ⟨g, d⟩
   ·exact .inl (H.trans _ _ _ trivial trivial trivial h1 d)
   ·exact .inl (by rw [← g]; exact h1)
  ·rcases d with d | ⟨g, d⟩
   ·exact .inl (by rw [i]; exact d)
   ·exact .inr ⟨i.trans g, zm h1 d⟩
 ·simp only [Aa]
  rcases H.total x.jl y.jl trivial trivial with h | h | h
  ·exact .inl (.inl h)
  ·rcases zf x.km y.km with d | d | d
   ·exact .inl (.inr ⟨h, d⟩)
   ·refine .inr (.inl ?_)
    cases x; cases y; simp at h d; simp [h, d]
   ·exact .inr (.inr (.inr ⟨h.symm, d⟩))
  ·exact .inr (.inr (.inl h))
theorem Gy (a b : ByteArray) : oP a b = 0 ↔ a = b := by unfold oP; rw [FB]; exact ⟨zd, fun h => by rw [h]⟩
theorem RO (a b : ByteArray) : oP a b < 0 ↔ pN a b = true := by rw [xx]; exact BX _ _
theorem Np (a b : jl) : ∃ c, rj a b = some c ∧ (c < 0 ↔ Bf a b = true) ∧ (c = 0 ↔ a = b) := by
 obtain ⟨c, e, h⟩ := zP a b
 refine ⟨c, e, h, ?_⟩
 unfold rj at e
 simp only [pk, mZ, aA, uq, rH, nH] at e
 by_cases d : oP a.jq b.jq = 0
 ·rw [aY (by simp [d])] at e
  have h1 := (Gy _ _).1 d
  by_cases g : oP a.jv b.jv = 0
  ·rw [aY (by simp [g])] at e
   have i := (Gy _ _).1 g
   cases e
   refine ⟨fun _ => ?_, fun _ => rfl⟩
   cases a; cases b; simp at h1 i; simp [h1, i]
  ·rw [aZ (by simp [g])] at e
   cases e
   exact ⟨fun k => absurd k g, fun k => by rw [k] at g; exact absurd ((Gy _ _).2 rfl) g⟩
 ·rw [aZ (by simp [d])] at e
  cases e
  exact ⟨fun k => absurd k d, fun k => by rw [k] at d; exact absurd ((Gy _ _).2 rfl) d⟩
theorem NR (a b : jE) : ∃ c, pL a b = some c ∧ (c < 0 ↔ yr a b = true) := by
 unfold pL
 obtain ⟨c, e, h1, i⟩ := Np a.jl b.jl
 rw [e]
 simp only [pk, mZ, aA, uq, rH, nH]
 by_cases g : c = 0
 ·rw [aY (by simp [g])]
  have l := i.1 g
  have d : ¬ Bf a.jl b.jl = true := fun j => by have := h1.2 j; omega
  by_cases h : oP a.km b.km = 0
  ·rw [aY (by simp [h])]
   refine ⟨0, rfl, ?_⟩
   rw [Aa]
   simp [d, (Gy _ _).1 h, sk]
  ·rw [aZ (by simp [h])]
   refine ⟨_, rfl, ?_⟩
   rw [Aa, RO]
   exact ⟨fun k => .inr ⟨l, k⟩, fun k => k.elim (fun k => absurd k d) (·.2)⟩
 ·rw [aZ (by simp [g])]
  refine ⟨c, rfl, ?_⟩
  rw [Aa, h1]
  have : a.jl ≠ b.jl := fun k => g (i.2 k)
  simp [this]
theorem KS {α : Type} {eq : α → α → Bool} (he : ∀ x y, eq x y = true ↔ x = y) : ∀ (l : List α) (p : α), (p :: l).Nodup → mC eq p l = l
 | [], p, _ => rfl
 | y :: l, p, h => by
  have h1 := cR.1 h
  rw [mC, aY (fun e => h1.1 (by rw [← (he _ _).1 e]; simp)), KS he l y h1.2]
theorem Sh {α : Type} {eq : α → α → Bool} (he : ∀ x y, eq x y = true ↔ x = y) : ∀ l : List α, l.Nodup → dd eq l = l
 | [], _ => rfl
 | x :: l, h => by rw [dd, KS he l x h]
def Am (P : jE → Prop) (s : List jE) : Prop := s.Pairwise (fun a b => yr a b = true) ∧ ∀ f, f ∈ s ↔ P f
theorem Am.unique {P : jE → Prop} {s t : List jE} (h : Am P s) (k : Am P t) : s = t :=
 vG.unique (l := s) Gw ⟨h.1, fun x => ⟨fun a => ⟨a, rfl⟩, fun a => a.1⟩⟩ ⟨k.1, fun x => by rw [k.2, h.2]; exact ⟨fun a => ⟨a, rfl⟩, fun a => a.1⟩⟩
theorem FZ {l : List jE} (g : l.Nodup) (k : l.length ≤ 1000000000000) : ∃ s, yW (fun (x : jE × jE) => pL x.1 x.2) l = some s ∧ Am (fun f => f ∈ l) s := by
 obtain ⟨s, h1, j, d⟩ := E5 (eq := Ae) (lt := fun a b => yr a b = true) (P := fun x => CX x = true) (cf := fun (x : jE × jE) => pL x.1 x.2) (l := l) (fun x y => wH) Gw (fun _ _ => rfl) (by omega) (fun x y _ _ => NR x y)
 have i : s.Nodup := by
  have := (GH h1).2
  rw [this]
  unfold sM
  exact (gU l _).nodup_iff.2 g
 rw [Sh (fun x y => wH) s i] at d
 exact ⟨s, h1, d.1, fun f => by rw [d.2]; exact ⟨fun h => h.1, fun h => ⟨h, rfl⟩⟩⟩
theorem Qj (T : oG) : (mm T).flatMap (fun p => p.2.map (fun q => (fun (a : jl) (b : ByteArray) => (⟨a, b⟩ : jE)) p.1 q.1)) = FS T := by
 unfold mm FS tt
 rw [List.flatMap_map]
 congr 1
 funext p
 simp [fF]
theorem OF {C : List jm} (j : qn C) {T : oG} {m : List (jl × List jm)} {ws : List (ByteArray × List jm)} {n : Int} (h : MS C T m ws n) (cs : List jm) (u : List (jl × List jm)) (w : List (ByteArray × List jm)) (l : List jE) (z : Int) :
  ∃ s, vq (mm T) cs u w l z = some s ∧ Am (ot C) s := by
 have k := j.sq
 have hlen := h.DH.len
 obtain ⟨s, p, i⟩ := FZ h.DH.nd (by omega)
 have g : Am (ot C) s := ⟨i.1, fun f => (i.2 f).trans (h.all f)⟩
 refine ⟨s, ?_, g⟩
 unfold vq Nf
 rw [Qj]
 rw [aZ ⟨by omega, by unfold maxLen; omega⟩]
 simp only [aA, nH]
 refine FI (fun o b => ?_)
 obtain ⟨s', d, a⟩ := FZ ((b.nodup_iff).2 h.DH.nd) (by rw [b.length_eq]; omega)
 rw [d]
 congr 1
 exact Am.unique ⟨a.1, fun f => (a.2 f).trans (b.mem_iff.trans (h.all f))⟩ g
theorem OO (r : jl) (w : ByteArray) : ∀ l : List jE, ∃ b, wR r w l = some b ∧ (b = true ↔ (⟨r, w⟩ : jE) ∈ l)
 | [] => ⟨false, rfl, by simp⟩
 | x :: l => by
  rw [wR]
  simp only [Df, aA]
  obtain ⟨b, e, g⟩ := OO r w l
  by_cases h : (jJ x.jl r && kD x.km w) = true
  ·rw [aZ h]
   have a : x = ⟨r, w⟩ := by
    rw [bk, jK, lI] at h
    cases x; simp at h; simp [h]
   exact ⟨true, rfl, by simp [a]⟩
  ·rw [aY h]
   refine ⟨b, e, ?_⟩
   rw [g, aK]
   refine ⟨.inr, fun d => d.resolve_left (fun e => h ?_)⟩
   rw [← e]; simp [vU, uJ]
theorem yw (l : List jE) (r : jl) (w : ByteArray) : ∃ b, uP l r w = some b ∧ (b = true ↔ (⟨r, w⟩ : jE) ∈ l) := OO r w l
def wi (l : List jE) (c : jm) (names : List ByteArray) (w : ByteArray) : Prop :=
 (c.Kind = 1 ∧ c.km = w) ∨ (c.Kind = 2 ∧ (⟨c.B, w⟩ : jE) ∈ l) ∨ (c.Kind = 4 ∧ (⟨c.B, w⟩ : jE) ∈ l ∧ (⟨c.C, w⟩ : jE) ∈ l) ∨
 (c.Kind ≠ 1 ∧ c.Kind ≠ 2 ∧ c.Kind ≠ 4 ∧ ∃ b ∈ names, (⟨c.B, b⟩ : jE) ∈ l ∧ (⟨⟨b, c.kC⟩, w⟩ : jE) ∈ l)
theorem FK (l : List jE) (c : jm) (w : ByteArray) : ∀ names : List ByteArray, ∃ b, vv l c w names = some b ∧ (b = true ↔ ∃ b ∈ names, (⟨c.B, b⟩ : jE) ∈ l ∧ (⟨⟨b, c.kC⟩, w⟩ : jE) ∈ l)
 | [] => ⟨false, rfl, by simp⟩
 | x :: names => by
  rw [vv]
  obtain ⟨g, j, h1⟩ := yw l c.B x
  obtain ⟨i, k, d⟩ := yw l ⟨x, c.kC⟩ w
  obtain ⟨b, e, m⟩ := FK l c w names
  rw [j, k, e]
  simp only [aA, Df]
  by_cases h : (g && i) = true
  ·rw [aZ h]
   rw [bk, h1, d] at h
   exact ⟨true, rfl, by simp [h]⟩
  ·rw [aY h]
   rw [bk, h1, d] at h
   refine ⟨b, rfl, ?_⟩
   rw [m]
   constructor
   ·rintro ⟨y, a, q⟩; exact ⟨y, by simp [a], q⟩
   ·rintro ⟨y, a, q⟩
    rcases aK.1 a with rfl | a
    ·exact absurd q h
    ·exact ⟨y, a, q⟩
theorem PA (l : List jE) (c : jm) (names : List ByteArray) (w : ByteArray) : ∃ b, AD l c names w = some b ∧ (b = true ↔ wi l c names w) := by
 unfold AD wi
 simp only [nH]
 by_cases h1 : c.Kind = 1
 ·rw [aZ (by simp [h1])]; exact ⟨_, rfl, by simp [h1, lI]⟩
 rw [aY (by simp [h1])]
 by_cases a : c.Kind = 2
 ·rw [aZ (by simp [a])]
  obtain ⟨b, e, g⟩ := yw l c.B w
  exact ⟨b, e, by simp [a, g]⟩
 rw [aY (by simp [a])]
 by_cases d : c.Kind = 4
 ·rw [aZ (by simp [d])]
  obtain ⟨m, j, h⟩ := yw l c.B w
  obtain ⟨n, k, i⟩ := yw l c.C w
  rw [j, k]
  simp only [aA, Df]
  exact ⟨_, rfl, by simp [d, h, i]⟩
 rw [aY (by simp [d])]
 obtain ⟨b, e, g⟩ := FK l c w names
 exact ⟨b, e, by rw [g]; simp [h1, a, d]⟩
theorem wi.wD {C : List jm} {l : List jE} (a : ∀ f ∈ l, ot C f) {c : jm} (d : c ∈ C) (hk : c.Kind = 1 ∨ c.Kind = 2 ∨ c.Kind = 3 ∨ c.Kind = 4) {names : List ByteArray} {w : ByteArray} (h : wi l c names w) : ot C ⟨c.Head, w⟩ := by
 rcases h with ⟨k, rfl⟩ | ⟨k, h⟩ | ⟨k, h1, g⟩ | ⟨i, k2, j, b, _, h1, g⟩
 ·exact .mem c d k
 ·exact .inc c w d k (a _ h)
 ·exact .both c w d k (a _ h1) (a _ g)
 ·exact .FQ c b w d (by omega) (a _ h1) (a _ g)
theorem LV {c : jm} (h : kY c = true) : c.Kind = 1 ∨ c.Kind = 2 ∨ c.Kind = 3 ∨ c.Kind = 4 := by rcases oh h with h | h | h | h <;> simp [h.1]
structure DU (C : List jm) (out : List jE) : Prop where
 nd : out.Nodup
 wD : ∀ f ∈ out, ot C f
theorem DU.len {C : List jm} {out : List jE} (h : DU C out) : out.length ≤ C.length * C.length := by
 rw [← CO]; exact lA h.nd (fun f a => (h.wD f a).EZ)
theorem Fx {C : List jm} (s : qn C) (t : rD C) {c : jm} (m : c ∈ C) (names : List ByteArray) : ∀ (l : List ByteArray) (out : List jE) (i : Bool), DU C out →
  ∃ g d, vi c names l out i = some (g, d) ∧ DU C g ∧ (d = true → i = true ∨ out.length < g.length) ∧ (d = false → i = false ∧ g = out ∧ ∀ w ∈ l, wi out c names w → (⟨c.Head, w⟩ : jE) ∈ out) ∧ out.length ≤ g.length
 | [], out, i, h => ⟨out, i, rfl, h, .inl, fun h => ⟨h, rfl, fun _ hw => by cases hw⟩, aU _⟩
 | w :: l, out, i, h => by
  rw [vi]
  obtain ⟨y, I, h1⟩ := yw out c.Head w
  obtain ⟨G, J, z⟩ := PA out c names w
  rw [I, J]
  simp only [aA, Df]
  by_cases j : (!y && G) = true
  ·rw [aZ j]
   rw [bk] at j
   have u : (⟨c.Head, w⟩ : jE) ∉ out := fun M => by have := h1.2 M; rw [this] at j; exact absurd j.1 (by decide)
   have P := h.len
   have O := s.sq
   rw [lB (by simp; omega) (by simp; omega)]
   simp only [aA]
   have L : DU C (out ++ [⟨c.Head, w⟩]) := ⟨bT.2 ⟨h.nd, by simp, fun a ha b j e => by simp at j; subst j; subst e; exact u ha⟩, fun f k => by
    rcases aN.1 k with k | k
    ·exact h.wD f k
    ·simp at k; subst k; exact (z.1 j.2).wD h.wD m (LV (t c m))⟩
   obtain ⟨g, d, e, n, a2, a3, a4⟩ := Fx s t m names l _ true L
   simp at a4
   exact ⟨g, d, e, n, fun _ => .inr (by omega), fun k => (by cases (a3 k).1), by omega⟩
  ·rw [aY j]
   obtain ⟨g, d, e, n, a2, a3, a4⟩ := Fx s t m names l out i h
   refine ⟨g, d, e, n, a2, fun k => ?_, a4⟩
   obtain ⟨p, q, r⟩ := a3 k
   refine ⟨p, q, fun v x E => ?_⟩
   rcases aK.1 x with rfl | x
   ·refine eS fun u => j ?_
    rw [bk, z.2 E]
    cases y with
    | false => exact ⟨rfl, rfl⟩
    | true => exact absurd (h1.1 rfl) u
   ·exact r v x E
theorem IP {C : List jm} (m : qn C) (n : rD C) (names : List ByteArray) : ∀ (l : List jm) (out : List jE) (a : Bool), (∀ c ∈ l, c ∈ C) → DU C out →
  ∃ b g, xe names l out a = some (b, g) ∧ DU C b ∧ (g = true → a = true ∨ out.length < b.length) ∧ (g = false → a = false ∧ b = out ∧ ∀ c ∈ l, ∀ w ∈ names, wi out c names w → (⟨c.Head, w⟩ : jE) ∈ out) ∧ out.length ≤ b.length
 | [], out, a, _, h => ⟨out, a, rfl, h, .inl, fun h => ⟨h, rfl, fun _ hw => by cases hw⟩, aU _⟩
 | c :: l, out, a, p, h => by
  rw [xe]
  obtain ⟨x, c1, u, q, a2, a3, a4⟩ := Fx m n (p c (by simp)) names names out a h
  rw [u]
  simp only [aA]
  obtain ⟨y, c2, v, r, s, t, M⟩ := IP m n names l x c1 (fun d i => p d (by simp [i])) q
  refine ⟨y, c2, v, r, fun j => ?_, fun j => ?_, by omega⟩
  ·rcases s j with h1 | h1
   ·rcases a2 h1 with k | k
    ·exact .inl k
    ·exact .inr (by omega)
   ·exact .inr (by omega)
  ·obtain ⟨z, E, G⟩ := t j
   obtain ⟨I, J, L⟩ := a3 z
   subst J
   refine ⟨I, E, fun d i => ?_⟩
   rcases aK.1 i with rfl | i
   ·exact L
   ·exact G d i
def zF : jE := ⟨⟨zS, zS⟩, zS⟩
theorem IL (a b : jE) : ul a b = some (yr a b) := by
 unfold ul yr
 simp only [AU, aA, Df, QW]
def Qx (a : List jE) (b : Int) (p : Bool × jE) : Prop := (p.1 = false ∧ b = -1) ∨ (p.1 = true ∧ 0 ≤ b ∧ kV a b = some p.2)
theorem AW (out a : List jE) (i : out.length < 4611686018427387904) : ∀ (rest A : List jE) (b : Int) (p : Bool × jE), a = A ++ rest → Qx a b p →
  ∃ d, pn out a rest A.length b = some d ∧ Qx a d (qJ CX yr out.getLast? rest p.1 p.2)
 | [], A, b, p, ha, j => ⟨b, rfl, j⟩
 | x :: rest, A, b, p, ha, j => by
  rw [pn, qJ]
  simp only [CX, dL]
  have h1 : ((if ((out.length : Int) == 0) = true then some true else (kV out (wi0 .i64 ((out.length : Int) - 1))).bind fun y => (ul y x).bind fun r => some r) : Option Bool) = some (out.getLast?.all fun y => yr y x) := by
   rcases cY out with h | ⟨B, z, h⟩
   ·subst h; rfl
   ·subst h
    rw [aY (by simp; omega)]
    rw [dG] at i ⊢
    rw [Fy B z (by simp at i; omega)]
    simp [IL]
  have n : ((if decide (b < 0) = true then some true else (kV a b).bind fun y => (ul x y).bind fun r => some r) : Option Bool) = some (!p.1 || yr x p.2) := by
   rcases j with ⟨k, l⟩ | ⟨k, l, m⟩
   ·rw [aZ (by simp [l]), k]; rfl
   ·rw [aY (by simpa using l), m, k]
    simp [IL]
  rw [h1]
  simp only [aA]
  rw [n]
  simp only [aA, Df]
  have q : kV a (A.length : Int) = some x := by rw [ha]; exact mw A x rest _ rfl
  by_cases g : ((out.getLast?.all fun y => yr y x) && (!p.1 || yr x p.2)) = true
  ·rw [aZ g, aZ g]
   have := AW out a i rest (A ++ [x]) (A.length : Int) (true, x) (by rw [ha]; simp) (.inr ⟨rfl, by simp, q⟩)
   simpa using this
  ·rw [aY g, aY g]
   have := AW out a i rest (A ++ [x]) b p (by rw [ha]; simp) j
   simpa using this
theorem ER {out a : List jE} (g : out.length < 4611686018427387904) (h : (qJ CX yr out.getLast? a false zF).1 = false) : ∀ EX : List jE, pj a EX out = some out
 | [] => rfl
 | x :: EX => by
  rw [pj]
  obtain ⟨b, e, j⟩ := AW out a g a [] (-1) (false, zF) rfl (.inl ⟨rfl, rfl⟩)
  rw [show pn out a a 0 (-1) = some b from e]
  simp only [aA]
  rcases j with ⟨_, i⟩ | ⟨d, _⟩
  ·rw [aY (by simp [i])]; exact ER g h EX
  ·rw [h] at d; cases d
theorem HB (a : List jE) : ∀ (EX : List jE) (out s : List jE), zo 48 CX yr zF a (EX.length + 1) out = some s → s.length < 4611686018427387904 → pj a EX out = some s ∧ out.length ≤ s.length
 | [], out, s, h, j => by
  rw [zo] at h
  cases hp : (qJ CX yr out.getLast? a false zF).1 with
  | false =>
   rw [hp] at h
   simp only [dq, aM] at h
   cases h
   exact ⟨rfl, aU _⟩
  | true =>
   rw [hp] at h
   simp only [cH, aB, aH] at h
   obtain ⟨o, d, h⟩ := bind_some h
   replace h : zo 48 CX yr zF a 0 o = some s := h
   rw [zo] at h
   cases h
 | x :: EX, out, s, h, j => by
  rw [zo] at h
  cases hp : (qJ CX yr out.getLast? a false zF).1 with
  | false =>
   rw [hp] at h
   simp only [dq, aM] at h
   cases h
   exact ⟨ER j hp _, aU _⟩
  | true =>
   rw [hp] at h
   simp only [cH, aB, aH] at h
   obtain ⟨o, d, h⟩ := bind_some h
   have i := d
   unfold lP at d
   split at d
   case isFalse => cases d
   cases d
   obtain ⟨n, k2⟩ := HB a EX _ s h j
   simp at k2
   rw [pj]
   obtain ⟨b, e, m⟩ := AW out a (by omega) a [] (-1) (false, zF) rfl (.inl ⟨rfl, rfl⟩)
   rw [show pn out a a 0 (-1) = some b from e]
   simp only [aA]
   rcases m with ⟨g, _⟩ | ⟨g, k, l⟩
   ·rw [hp] at g; cases g
   ·rw [aZ (by simpa using k), l]
    simp only [aA]
    rw [i]
    exact ⟨n, by omega⟩
theorem Nl (l : List jE) (d : l.length ≤ 1000000000) : ∃ s, B0 l = some s ∧ Am (fun f => f ∈ l) s := by
 obtain ⟨s, h1, a⟩ := Bb Gw (w := 48) (by omega) zF l d (l.length + 1) [] (by simp) (by simp) (fun x b => by cases b) (fun x _ _ => .inr rfl)
 have hlen : s.length ≤ l.length := lA (uc Gw (fun _ _ => rfl) a.1) (fun x b => ((a.2 x).1 b).1)
 exact ⟨s, (HB l l [] s h1 (by omega)).1, a.1, fun f => by rw [a.2]; exact ⟨fun h => h.1, fun h => ⟨h, rfl⟩⟩⟩
theorem JF : ∀ (l : List jm) (acc : List ByteArray), acc.length + 4 * l.length ≤ 1000000000 → te l acc = Br (acc ++ l.flatMap fun c => [c.km, c.Head.jq, c.B.jq, c.C.jq])
 | [], acc, _ => by rw [te]; simp [nH]
 | c :: l, acc, h => by
  rw [te]
  simp only [aI] at h
  rw [lB (by simp; omega) (by simp; omega)]
  simp only [aA]
  rw [JF l _ (by simp; omega)]
  simp
def SM (C : List jm) : Prop := C.length ≤ 30000
theorem SM.small {C : List jm} (h : SM C) : qn C := by unfold SM at h; unfold qn; omega
theorem SM.sq {C : List jm} (h : SM C) : C.length * C.length ≤ 900000000 := Nat.mul_le_mul h h
theorem NN {C : List jm} (b : SM C) (g : rD C) : ∃ names, zp C = some names ∧ ∀ c ∈ C, c.Kind = 1 → c.km ∈ names := by
 have d : C.length ≤ 30000 := b
 unfold zp
 rw [JF C [] (by simp; omega)]
 obtain ⟨s, e, i⟩ := Pv ([] ++ C.flatMap fun c => [c.km, c.Head.jq, c.B.jq, c.C.jq]) (by
  have : ∀ l : List jm, (l.flatMap fun c => [c.km, c.Head.jq, c.B.jq, c.C.jq]).length = 4 * l.length := fun l => by
   induction l with
   | nil => rfl
   | cons x l ih => simp [ih]; omega
  rw [aP, this]; omega)
 refine ⟨s, e, fun c a hk => (i.2 _).2 ⟨?_, ?_⟩⟩
 ·rw [aP]; exact iT.2 ⟨c, a, by simp⟩
 ·rcases oh (g c a) with h | h | h | h
  ·exact h.2.1
  ·exact absurd (hk.symm.trans h.1) (by decide)
  ·exact absurd (hk.symm.trans h.1) (by decide)
  ·exact absurd (hk.symm.trans h.1) (by decide)
theorem Le {C : List jm} (n : rD C) {names : List ByteArray} (l : ∀ c ∈ C, c.Kind = 1 → c.km ∈ names) {out : List jE} (h : ∀ c ∈ C, ∀ w ∈ names, wi out c names w → (⟨c.Head, w⟩ : jE) ∈ out) {f : jE} (k : ot C f) : f ∈ out := by
 have hw : ∀ f, ot C f → f.km ∈ names := fun f k => by
  obtain ⟨c, a, hk, e⟩ := k.J5
  rw [← e]; exact l c a hk
 induction k with
 | mem c a hk => exact h c a _ (l c a hk) (.inl ⟨hk, rfl⟩)
 | inc c w a hk m ih => exact h c a w (hw _ m) (.inr (.inl ⟨hk, ih⟩))
 | FQ c b w a hk d j g i => exact h c a w (hw _ j) (.inr (.inr (.inr ⟨by omega, by omega, by omega, b, hw _ d, g, i⟩)))
 | both c w a hk d j g i => exact h c a w (hw _ d) (.inr (.inr (.inl ⟨hk, g, i⟩)))
theorem Jm {C : List jm} (a : SM C) (b : rD C) {names : List ByteArray} (g : ∀ c ∈ C, c.Kind = 1 → c.km ∈ names) : ∀ (m : Nat) (out : List jE), DU C out → C.length * C.length < m + out.length →
  ∃ s, wX names C m out = some s ∧ Am (ot C) s
 | 0, out, h, hm => by have := h.len; omega
 | m + 1, out, h, hm => by
  rw [wX]
  obtain ⟨o, c, e, i, a2, a3, a4⟩ := IP a.small b names C out false (fun _ h => h) h
  rw [e]
  simp only [aA, nH]
  cases c with
  | false =>
   simp only [dq, aM]
   obtain ⟨_, j, k⟩ := a3 rfl
   subst j
   have p := h.len
   have n := a.sq
   obtain ⟨s, l, d⟩ := Nl o (by omega)
   exact ⟨s, l, d.1, fun f => (d.2 f).trans ⟨h.wD f, Le b g k⟩⟩
  | true =>
   simp only [cH, aB, aH]
   rcases a2 rfl with h1 | h1
   ·cases h1
   ·exact Jm a b g m o i (by omega)
theorem P5 (l : List jm) (p : l.length ≤ 30000) : ∃ C s, wg l = some s ∧ Am (ot C) s ∧ ∀ c, c ∈ C ↔ c ∈ l ∧ kY c = true := by
 unfold wg
 obtain ⟨C, e, b⟩ := Hj l (by omega)
 have hlen := Ay Ch b
 have a : SM C := by unfold SM; omega
 have d : rD C := fun c j => ((b.2 c).1 j).2
 obtain ⟨names, g, m⟩ := NN a d
 rw [e]
 simp only [aA]
 rw [g]
 simp only [aA]
 have n := a.sq
 obtain ⟨s, h, i⟩ := Jm a d m jP [] ⟨by simp, fun f k => by cases k⟩ (by rw [wu]; simp; omega)
 exact ⟨C, s, h, i, b.2⟩
theorem Bo (w : ByteArray) : ∀ (l : List jE) (acc : List jl), acc.length + l.length ≤ 1000000000 → qX w l acc = some (acc ++ (l.filter fun f => kD f.km w).map (·.jl))
 | [], acc, _ => by rw [qX]; simp
 | x :: l, acc, h => by
  rw [qX]
  simp only [aI] at h
  by_cases a : kD x.km w = true
  ·rw [aZ a, lB (by simp; omega) (by simp; omega)]
   simp only [aA]
   rw [Bo w l _ (by simp; omega)]
   simp [a]
  ·rw [aY a, Bo w l acc (by omega)]
   simp [a]
theorem Pm {P : jE → Prop} {s t : List jE} (h : Am P s) (b : ∀ f, P f → f ∈ t) : s.length ≤ t.length := lA (uc Gw (fun _ _ => rfl) h.1) (fun f a => b f ((h.2 f).1 a))
theorem PY {C : List jm} {s : List jE} (h : Am (ot C) s) (a : SM C) : s.length ≤ 900000000 := by
 have := Pm h (t := EZ C) (fun f b => b.EZ)
 rw [CO] at this
 have := a.sq
 omega
theorem I4 {C : List jm} {T : oG} {d : List (jl × List jm)} {ws : List (ByteArray × List jm)} {n : Int} (h : MS C T d ws n) (cs : List jm) (u : List (jl × List jm)) (w : List (ByteArray × List jm)) (a : List jE) (z : Int) (r : jl) (J5 : ByteArray) :
  ∃ b, rh (mm T) cs u w a z r J5 = some b ∧ (b = true ↔ ot C ⟨r, J5⟩) :=
 ⟨_, rfl, by rw [si h.DH.keys, h.all]⟩
def qA : jl := ⟨⟨#[97]⟩, ⟨#[114]⟩⟩
def qB : jl := ⟨⟨#[98]⟩, ⟨#[115]⟩⟩
def qd : ByteArray := ⟨#[100]⟩
def j1 : jm := ⟨2, qA, zS, qB, ⟨zS, zS⟩, zS⟩
def j2 : jm := ⟨1, qB, qd, ⟨zS, zS⟩, ⟨zS, zS⟩, zS⟩
theorem N7 (n : Nat) (a : n ≤ 1000000000) : rq (n : Int) = some [] := by
 unfold rq
 rw [aY (by simp), jT (x := 0 - 0) (by omega) (by omega), show (n : Int) - (0 - 0) = n by omega, jT (x := (n : Int)) (by omega) (by omega)]
 by_cases h : 0 < n
 ·rw [aZ (by simpa using h)]
  unfold GM
  rw [aZ ⟨by omega, by omega, by unfold maxLen; omega⟩]
  simp [qR]
 ·rw [aY (by simpa using h)]; rfl
theorem HG (a b : List jm) (h : a.length + b.length ≤ 1000000000) : qp [a, b] = some (a ++ b) := by
 unfold qp
 rw [oa, jT (by omega) (by omega), aY (by simp), oa, jT (by omega) (by omega), aY (by simp; omega), oa]
 rw [show (0 : Int) + (a.length : Int) + (b.length : Int) = ((a.length + b.length : Nat) : Int) by omega, N7 _ h]
 simp only [aA]
 rw [nW, lB (by simp; omega) (by simp; omega)]
 simp only [aA, aP]
 rw [nW, lB (by omega) (by omega)]
 simp only [aA]
 rw [nW]
 rfl
theorem wi.own {l : List jE} {c : jm} {names : List ByteArray} {w : ByteArray} (h : wi l c names w) : wi l c (l.map (·.km)) w := by
 rcases h with h | h | h | ⟨d, g, i, b, _, a, j⟩
 ·exact .inl h
 ·exact .inr (.inl h)
 ·exact .inr (.inr (.inl h))
 ·exact .inr (.inr (.inr ⟨d, g, i, b, bF.2 ⟨_, a, rfl⟩, a, j⟩))
theorem wi.subset {a b : List jE} {c : jm} {names : List ByteArray} {w : ByteArray} (h : wi a c names w) (d : ∀ f ∈ a, f ∈ b) : wi b c names w := by
 rcases h with h | h | h | ⟨i, j, k, g, l, m, n⟩
 ·exact .inl h
 ·exact .inr (.inl ⟨h.1, d _ h.2⟩)
 ·exact .inr (.inr (.inl ⟨h.1, d _ h.2.1, d _ h.2.2⟩))
 ·exact .inr (.inr (.inr ⟨i, j, k, g, l, d _ m, d _ n⟩))
def up (w : ByteArray) (g : ByteArray → Nat) : ByteArray → Nat := fun x => if kD w x = true then g x + 1 else g x
theorem Mu (F : List jE) (w : ByteArray) (a : F.length ≤ 1000000000) : tC F w = some ((F.filter fun f => kD f.km w).map (·.jl)) := by
 unfold tC
 rw [Bo w F [] (by simp; omega)]
 simp
def busy : List IR → IR → IR
 | [], b => b
 | p :: l, b => busy l (if p.MW > b.MW then p else b)
def tot {α : Type} (a : List (List α)) : Nat := (a.map List.length).sum
instance Tm : DecidableEq jl := fun a b => decidable_of_iff (jJ a b = true) jK
def Gb (F : List jE) (w : ByteArray) : List jl := (F.filter fun f => kD f.km w).map (·.jl)
structure QJ (l : List jm) (F : List jE) : Prop where
 len : l.length ≤ 30000
 C : ∃ C : List jm, Am (ot C) F ∧ (∀ c, c ∈ C ↔ c ∈ l ∧ kY c = true) ∧ SM C
 ref : wg l = some F
theorem QQ (l : List jm) (g : l.length ≤ 30000) : ∃ F, QJ l F := by
 obtain ⟨C, F, e, h1, h⟩ := P5 l g
 obtain ⟨C1, T, j, ws, n, i, m1, a, d⟩ := Iq l (by omega)
 have b : ∀ c, c ∈ C ↔ c ∈ C1 := fun c => by rw [h, a]
 exact ⟨F, g, ⟨C1, ⟨h1.1, fun f => (h1.2 f).trans (ot.congr b f)⟩, a, by unfold SM; omega⟩, e⟩
theorem QJ.S0 {l : List jm} {F : List jE} (h : QJ l F) : F.length ≤ 900000000 := by
 obtain ⟨C, h1, b, a⟩ := h.C
 exact PY h1 a
def B8 (l : List Int) : Prop := ∀ x ∈ l, 0 ≤ x ∧ x < 256
def LP : List ByteArray → List Key → Int
 | _, [] => 0
 | seen, k :: l => if mY k.km = false then 30 else if k.Key.length < 1 ∨ 32 < k.Key.length then 21 else if pc kD seen k.km = true then 41 else LP (seen ++ [k.km]) l
def Od (l : List Key) : List (ByteArray × List Int) := l.map fun k => (k.km, k.Key)
def N6 (l : List Key) (o : ByteArray) : Option (List Int) := kJ kD (Od l) o
theorem QA {l : List Int} (h : l.length ≤ 1000000) : tJ l = some l := by
 unfold tJ
 rw [FC (by simpa using h)]; rfl
theorem KL : ∀ (l : List Key) (seen : List ByteArray), LP seen l = 0 → ∀ k ∈ l, 1 ≤ k.Key.length ∧ k.Key.length ≤ 32
 | [], _, _, _, hk => by cases hk
 | x :: l, seen, h, k, hk => by
  unfold LP at h
  split at h
  ·cases h
  split at h
  ·cases h
  split at h
  ·cases h
  rcases aK.1 hk with rfl | hk
  ·omega
  ·exact KL l _ h k hk
theorem Fo : ∀ (l : List Key) (o : ByteArray) (b : List Int), N6 l o = some b → ∃ k ∈ l, k.Key = b
 | [], o, b, h => by cases h
 | x :: l, o, b, h => by
  unfold N6 at h
  rw [show Od (x :: l) = (x.km, x.Key) :: Od l from rfl, AX] at h
  split at h
  ·cases h; exact ⟨x, by simp, rfl⟩
  ·obtain ⟨k, hk, e⟩ := Fo l o b h
   exact ⟨k, by simp [hk], e⟩
def K8 (l : List Key) : Prop := ∀ k ∈ l, B8 k.Key
structure Mk (ks : List Key) (c : jm) (k : List Int) : Prop where
 ok : LP [] ks = 0
 rt : kY c = true
 lk : N6 ks c.Head.jq = some k
theorem Mk.len {ks : List Key} {c : jm} {k : List Int} (h : Mk ks c k) : 1 ≤ k.length ∧ k.length ≤ 32 := by
 obtain ⟨q, a, rfl⟩ := Fo _ _ _ h.lk
 exact KL ks [] h.ok q a
theorem Mk.b8 {ks : List Key} {c : jm} {k : List Int} (h : Mk ks c k) (hk : K8 ks) : B8 k := by
 obtain ⟨q, a, rfl⟩ := Fo _ _ _ h.lk
 exact hk q a
theorem Mk.unique {ks : List Key} {c : jm} {k k' : List Int} (h : Mk ks c k) (a : Mk ks c k') : k = k' := by
 have := h.lk; rw [a.lk] at this; cases this; rfl
mutual
def yd : Formula → List Int
 | ⟨o, k, r, ks⟩ => o :: (if o = 1 then rA r else (if o = 4 then [k] else []) ++ ((ks.length : Int) :: bytesFL ks))
def bytesFL : List Formula → List Int
 | [] => []
 | k :: ks => yd k ++ bytesFL ks
end
theorem Hu (f : Formula) : yd f = f.Op :: (if f.Op = 1 then rA f.jl else (if f.Op = 4 then [f.K] else []) ++ ((f.Kids.length : Int) :: bytesFL f.Kids)) := by cases f; rw [yd]
theorem wG {f : Formula} (h : so f = true) : f.Kids.length ≤ 8 ∧ wellL f.Kids = true ∧ ((f.Op = 1 ∧ lG f.jl = true ∧ f.Kids = [] ∧ f.K = 0) ∨ ((f.Op = 2 ∨ f.Op = 3) ∧ f.jl = pw ∧ f.K = 0) ∨ (f.Op = 4 ∧ f.jl = pw ∧ 0 ≤ f.K ∧ f.K ≤ (f.Kids.length : Int) ∧ 1 ≤ f.Kids.length)) := by
 rw [Fw] at h
 simp only [bk, bL] at h
 obtain ⟨⟨h1, a⟩, b⟩ := h
 refine ⟨a, b, ?_⟩
 unfold CP at h1
 split at h1
 ·rename_i c
  simp only [bk, bL] at h1
  exact .inl ⟨c, h1.1.1, aR h1.1.2, h1.2⟩
 ·split at h1
  ·rename_i c
   simp only [bk, bL, jK] at h1
   exact .inr (.inl ⟨c, h1.1, h1.2⟩)
  ·simp only [bk, bL, jK] at h1
   exact .inr (.inr ⟨h1.1.1.1.1, h1.1.1.1.2, h1.1.1.2, h1.1.2, h1.2⟩)
theorem MB : ∀ (n : Nat) (f : Formula), nn f ≤ n → so f = true → ∀ l : List Int, l.length + 40 * jV f ≤ 8000 → pt n l f = some (l ++ yd f) ∧ (yd f).length ≤ 40 * jV f := by
 intro n
 induction n with
 | zero => intro f h; rw [mh] at h; omega
 | succ n ih =>
  intro f t hw l r
  rw [mh] at t
  have u := nE f
  obtain ⟨h1, q, m⟩ := wG hw
  rw [pt]
  unfold uT
  have d : 0 ≤ f.Op ∧ f.Op < 128 := by rcases m with h | h | h <;> omega
  rw [xz d.1 d.2 (by omega), aA, Hu]
  have key : ∀ (ks : List Formula), (∀ k ∈ ks, k ∈ f.Kids) → wellL ks = true → ∀ l : List Int, l.length + 40 * nodesL ks ≤ 8000 → pV (pt n) ks l = some (l ++ bytesFL ks) ∧ (bytesFL ks).length ≤ 40 * nodesL ks := by
   intro ks
   induction ks with
   | nil => intro _ _ l _; rw [pV, bytesFL]; simp
   | cons k ks p =>
    intro hk a l r
    rw [wellL, bk] at a
    rw [nodesL] at r
    obtain ⟨i, w⟩ := ih k (by have := qk (hk k (by simp)); omega) a.1 l (by omega)
    obtain ⟨b, j⟩ := p (fun z v => hk z (by simp [v])) a.2 (l ++ yd k) (by simp; omega)
    rw [pV, i, aA, b, bytesFL, nodesL]
    exact ⟨by simp, by simp; omega⟩
  have hlen : 0 ≤ (f.Kids.length : Int) ∧ (f.Kids.length : Int) < 128 := by omega
  by_cases c1 : f.Op = 1
  ·have s : lG f.jl = true := by rcases m with h | h | h; exact h.2.1; omega; omega
   have := ol s
   simp only [c1, aS, aM]
   rw [JB s (by simp; omega), aA]
   exact ⟨by simp, by simp; omega⟩
  ·have i : (f.Op == 1) = false := by simpa using c1
   simp only [i, aB, aH, c1]
   by_cases g : f.Op = 4
   ·have hk : 0 ≤ f.K ∧ f.K < 128 := by rcases m with h | h | h <;> omega
    simp only [g, aS, aM]
    rw [xz hk.1 hk.2 (by simp; omega)]
    simp only [aA]
    rw [xz hlen.1 hlen.2 (by simp; omega)]
    simp only [aA]
    obtain ⟨b, j⟩ := key f.Kids (fun k hk => hk) q (l ++ [4] ++ [f.K] ++ [(f.Kids.length : Int)]) (by simp; omega)
    rw [b]
    exact ⟨by simp, by simp; omega⟩
   ·have j : (f.Op == 4) = false := by simpa using g
    simp only [j, aB, aH, g, aA]
    rw [xz hlen.1 hlen.2 (by simp; omega)]
    simp only [aA]
    obtain ⟨b, x⟩ := key f.Kids (fun k hk => hk) q (l ++ [f.Op] ++ [(f.Kids.length : Int)]) (by simp; omega)
    rw [b]
    exact ⟨by simp, by simp; omega⟩
def xB (f : Formula) : List Int := if mX f then yd f else []
abbrev Gd (f : Formula) : Prop := jV f ≤ 50000000
theorem yH {f : Formula} (h : mX f = true) : jV f ≤ 64 ∧ nn f ≤ 6 ∧ so f = true := by
 unfold mX at h
 simp only [bk, bL] at h
 exact ⟨h.1.1, h.1.2, h.2⟩
theorem Qq (f : Formula) (d : Gd f) (l : List Int) (j : l.length ≤ 5000) : vz l f = some (mX f, l ++ xB f) ∧ (xB f).length ≤ 2560 := by
 unfold vz xB
 rw [Dh f d, aA]
 cases h : mX f
 ·simp
 ·obtain ⟨h1, i, b⟩ := yH h
  obtain ⟨a, g⟩ := MB jP f (by rw [lj]; omega) b l (by omega)
  simp only [cH, aB, aH, a, aA, aM]
  exact ⟨trivial, by omega⟩
theorem GL (f : Formula) (b : Gd f) : sb f = some (xB f) := by
 unfold sb
 obtain ⟨a, d⟩ := Qq f b [] (by simp)
 rw [a, aA, nH]
 unfold sS
 simp only [aP]
 rw [QA (by omega)]
 rfl
def AL (f g : Formula) : Int := xu (xB f) (xB g)
theorem LZ (f g : Formula) (a : Gd f) (b : Gd g) : rX f g = some (AL f g) := by
 unfold rX vH
 rw [GL f a, GL g b]
 rfl
theorem Ah (f g : Formula) : mV AL f g = Op.bytesLess (tu (xB f)) (tu (xB g)) := by
 rw [bH]
 have h : mV AL f g = true ↔ AL f g < 0 := by unfold mV; exact decide_eq_true_iff
 exact h.trans (BX _ _)
theorem Hs : SWO (mV AL) where
 OQ x := by rw [Ah, uI]
 tr x y z h1 a := by rw [Ah] at *; exact xl _ _ _ h1 a
 Mv x y z h := by
  rw [Ah] at h
  rw [Ah, Ah]
  rcases Ar (tu (xB x)) (tu (xB y)) with h1 | h1 | h1
  ·exact .inl h1
  ·rw [h1] at h; exact .inr h
  ·exact .inr (xl _ _ _ h1 h)
def uu (l : List Formula) : List Formula := Jy (mV AL) l
theorem Iv (l : List Formula) (a : ∀ x ∈ l, Gd x) (b : l.length ≤ 300000) : uA l = some (uu l) := by
 unfold uA ru
 rw [lB (by simp; omega) (by simp; omega)]
 simp only [aA, aP, nH]
 exact Lg Hs (fun x y d g => LZ x y d g) l a b
theorem Mb {α : Type} (lt : α → α → Bool) (l : List α) (k : α) : (AJ lt l k).Perm (l ++ [k]) := by
 unfold AJ
 refine List.perm_middle.trans ((List.Perm.cons _ ?_).trans (fL k l).symm)
 have := List.filter_append_perm (fun x => !lt k x) l
 simpa using this
theorem Me {α : Type} (lt : α → α → Bool) (l : List α) : (Jy lt l).Perm l := by
 suffices H : ∀ (l a : List α), (l.foldl (AJ lt) a).Perm (a ++ l) by have := H l []; rwa [aP] at this
 intro l
 induction l with
 | nil => intro a; simp
 | cons k l ih =>
  intro a
  rw [ga]
  refine (ih _).trans ?_
  have := (Mb lt a k).append_right l
  simpa using this
theorem xD (l : List Formula) : (uu l).Perm l := Me _ l
noncomputable def pO (a b : Formula) : Bool := @decide (a = b) (Classical.propDecidable _)
theorem Ad {a b : Formula} : pO a b = true ↔ a = b := by unfold pO; simp
theorem PH (a b : Formula) (h : Gd a) : nJ jP a b = some (pO a b) := by
 have := vn a
 obtain ⟨x, e, d⟩ := Pw jP a (by rw [lj]; omega) b
 rw [e]; congr 1
 rw [bH, d, Ad]
def SE : Formula := ⟨0, 0, ⟨zS, zS⟩, []⟩
theorem N8 (f1 : Formula × Formula → Option Bool) (i : Int) : ∀ (n : Nat) (l : List Formula) (k j : Int), (∀ x ∈ l, ∀ y ∈ l, f1 (x, y) = some (pO x y)) → mg i f1 n l k j = AN pO i n l k j
 | 0, l, k, j, _ => by rw [mg, AN]
 | n + 1, l, k, j, h => by
  rw [mg, AN]
  split
  ·cases g : kV (l.drop (Int.toNat i)) j with
   | none => rfl
   | some x =>
    cases p : kV (l.drop (Int.toNat i)) (wi0 .i64 (j - 1)) with
    | none => rfl
    | some y =>
     have d : x ∈ l := List.mem_of_mem_drop (cV (jY g))
     have r : y ∈ l := List.mem_of_mem_drop (cV (jY p))
     simp only [aA, h x d y r]
     cases pO x y
     ·simp only [dq, aM]
      cases s : kV l k with
      | none => rfl
      | some z =>
       simp only [aA]
       refine N8 f1 i n _ _ _ (fun a ha b q => ?_)
       have m : ∀ a ∈ l.set (Int.toNat k) x, a ∈ l := fun a ha => by
        rcases List.mem_or_eq_of_mem_set ha with ha | rfl
        ·exact ha
        ·exact d
       exact h a (m a ha) b (m b q)
     ·simp only [cH, aB, aH, aA]
      exact N8 f1 i n _ _ _ h
  ·rfl
theorem Rh (f1 : Formula × Formula → Option Bool) (l : List Formula) (h : ∀ x ∈ l, ∀ y ∈ l, f1 (x, y) = some (pO x y)) : ∀ (n : Nat) (i : Int), me l f1 n i = Bp pO SE l n i
 | 0, i => by rw [me, Bp]
 | n + 1, i => by
  rw [me, Bp]
  split
  ·cases a : kV l i with
   | none => rfl
   | some x =>
    cases b : kV l (wi0 .i64 (i - 1)) with
    | none => rfl
    | some y =>
     have d : x ∈ l := cV (jY a)
     have g : y ∈ l := cV (jY b)
     simp only [aA, h x d y g]
     rw [N8 f1 i jP l i 1 h, Rh f1 l h n]
     rfl
  ·rfl
theorem LC (l : List Formula) (h : ∀ x ∈ l, Gd x) (b : l.length ≤ 300000) : pb l (fun x => nJ jP x.1 x.2) = some (dd pO l) := by
 rw [← JJ pO SE l (by omega)]
 unfold pb I5
 rw [Rh _ l (fun x a y _ => PH x y (h x a))]
def kL (op : Int) (f : Formula) : Bool := decide (f.Op = op) && f.Kids.isEmpty
theorem CQ (f : Formula) (op : Int) : sH f op = some (kL op f) := by
 unfold sH kL
 rw [nH]
 by_cases h : f.Op = op
 ·simp only [h, aS, aM, bV, dL]
  congr 1
  cases hk : f.Kids with
  | nil => rfl
  | cons a l => simp; omega
 ·have e : (f.Op == op) = false := by simpa using h
  simp [e, h]
def nu (op : Int) : List Formula → List Formula
 | [] => []
 | k :: ks => (if k.Op = op then k.Kids else [k]) ++ nu op ks
theorem CA (op : Int) : ∀ ks : List Formula, nodesL (nu op ks) ≤ nodesL ks
 | [] => aU _
 | k :: ks => by
  have ih := CA op ks
  have e : ∀ a b : List Formula, nodesL (a ++ b) = nodesL a + nodesL b := by
   intro a b
   induction a with
   | nil => rw [aP, nodesL]; omega
   | cons x a d => rw [bA, nodesL, nodesL, d]; omega
  have := nE k
  rw [nu, e, nodesL]
  split
  ·omega
  ·rw [nodesL, nodesL]; omega
theorem Hb (op : Int) : ∀ (ks acc : List Formula), acc.length + nodesL ks ≤ 100000000 → pU op ks acc = some (acc ++ nu op ks)
 | [], acc, _ => by rw [pU, nu, bI]
 | k :: ks, acc, h => by
  rw [nodesL] at h
  have h1 := nE k
  have a := pp k.Kids
  rw [pU, nu]
  by_cases c : k.Op = op
  ·simp only [c, aS, aM]
   rw [lB (by omega) (by omega), aA, Hb op ks _ (by simp; omega), aG]
  ·have e : (k.Op == op) = false := by simpa using c
   simp only [e, aB, aH, c]
   rw [lB (by simp; omega) (by simp; omega), aA, Hb op ks _ (by simp; omega), aG]
noncomputable def oK (op : Int) (ks : List Formula) : Formula :=
 if (nu op ks).any (kL (5 - op)) then ⟨5 - op, 0, pw, []⟩ else
  match dd pO (uu (nu op ks)) with
  | [x] => x
  | r => ⟨op, 0, pw, r⟩
theorem Jz {α : Type} (eq : α → α → Bool) (l : List α) : (dd eq l).length ≤ l.length := by
 cases l with
 | nil => exact aU _
 | cons x l =>
  have : ∀ (l : List α) (x : α), (mC eq x l).length ≤ l.length := by
   intro l
   induction l with
   | nil => intro x; exact aU _
   | cons y l ih => intro x; rw [mC]; have := ih y; have := ih x; split <;> simp <;> omega
  have := this l x
  rw [dd, aI, aI]; omega
theorem D8 (s : kk) (op : Int) (g : op = 2 ∨ op = 3) (ks : List Formula) (h : nodesL ks ≤ 64) : nM s op ks = some (oK op ks, s) := by
 have h1 := CA op ks
 have i := pp (nu op ks)
 have b : ∀ x ∈ nu op ks, Gd x := fun x a => by have := sD a; unfold Gd; omega
 have hw : wi0 .i64 (5 - op) = 5 - op := jT (by omega) (by omega)
 unfold nM zD oK
 rw [Hb op ks [] (by simp; omega), aA, aP, hw, EQ _ (kL (5 - op)) _ (fun x _ => by unfold qf; rw [CQ, nH]), aA]
 cases j : (nu op ks).any (kL (5 - op))
 ·simp only [aB, aH]
  have hp := xD (nu op ks)
  have l := hp.length_eq
  rw [Iv _ b (by omega), aA, LC _ (fun x a => b x (hp.mem_iff.1 a)) (by omega), aA]
  have k := Jz pO (uu (nu op ks))
  have d : ¬ (((dd pO (uu (nu op ks))).length : Int) > 64) := by omega
  simp only [d, cC, aB, aH, aA]
  generalize dd pO (uu (nu op ks)) = r
  match r with
  | [] => rfl
  | [x] => rfl
  | x :: y :: r =>
   have : (((x :: y :: r).length : Int) == 1) = false := by simp; omega
   simp only [this, aB, aH]
   rfl
 ·rfl
noncomputable def rV (k : Int) (ks : List Formula) : Formula :=
 let n := k - ((ks.filter (kL 2)).length : Int)
 let l := ks.filter fun x => !kL 2 x && !kL 3 x
 if n ≤ 0 then ⟨2, 0, pw, []⟩ else if n > (l.length : Int) then ⟨3, 0, pw, []⟩ else if n = (l.length : Int) then oK 2 l else if n = 1 then oK 3 l else ⟨4, n, pw, uu l⟩
theorem yi (p : Formula → Bool) : ∀ ks : List Formula, nodesL (ks.filter p) ≤ nodesL ks
 | [] => aU _
 | k :: ks => by
  have := yi p ks
  rw [dE]
  split
  ·rw [nodesL, nodesL]; omega
  ·rw [nodesL]; omega
theorem zW (s : kk) : ∀ (ks acc : List Formula) (k : Int), -1000 ≤ k - (ks.length : Int) → k ≤ 1000 → acc.length + ks.length ≤ 1000 → nodesL (acc ++ ks.filter fun x => !kL 2 x && !kL 3 x) ≤ 64 →
  mc s ks k acc = some (let n := k - ((ks.filter (kL 2)).length : Int); let l := acc ++ ks.filter fun x => !kL 2 x && !kL 3 x; if n ≤ 0 then ⟨2, 0, pw, []⟩ else if n > (l.length : Int) then ⟨3, 0, pw, []⟩ else if n = (l.length : Int) then oK 2 l else if n = 1 then oK 3 l else ⟨4, n, pw, uu l⟩, s)
 | [], acc, k, h1, g, h, a => by
  simp only [gS, bI, bP] at a ⊢
  rw [mc]
  simp only [Int.ofNat_zero, Int.sub_zero, ye, yG, aA, Int.natCast_zero]
  have p := pp acc
  by_cases c1 : k ≤ 0
  ·simp only [c1, bV, aM]; rfl
  ·simp only [c1, cC, aB, aH]
   by_cases c2 : k > (acc.length : Int)
   ·simp only [c2, bV, aM]; rfl
   ·simp only [c2, cC, aB, aH]
    by_cases b : k = (acc.length : Int)
    ·simp only [← b, aS, aM]
     rw [D8 s 2 (.inl rfl) acc a, aA]
    ·have i : (k == (acc.length : Int)) = false := by simpa using b
     simp only [i, aB, aH, b]
     by_cases d : k = 1
     ·simp only [d, aS, aM]
      rw [D8 s 3 (.inr rfl) acc a, aA]
     ·have j : (k == 1) = false := by simpa using d
      simp only [j, aB, aH, d]
      rw [Iv acc (fun x m => by have := sD m; unfold Gd; omega) (by omega)]
      rfl
 | x :: ks, acc, k, h1, g, h, a => by
  simp only [aI] at h1 h
  rw [mc, CQ, aA, CQ, aA]
  rw [dE, dE] at *
  cases c2 : kL 2 x
  ·cases b : kL 3 x
   ·simp only [c2, b, dq, iN, aB, aH, aM] at a ⊢
    rw [lB (by simp; omega) (by simp; omega), aA, zW s ks _ k (by omega) g (by simp; omega) (by rw [aG]; exact a)]
    simp only [aG, bA, aP]
   ·simp only [c2, b, dq, cH, iz, aB, aH] at a ⊢
    rw [zW s ks _ k (by omega) g (by omega) a]
  ·simp only [c2, cH, fM, aB, aH, aM] at a ⊢
   rw [jT (by omega) (by omega), zW s ks _ (k - 1) (by omega) (by omega) (by omega) a]
   simp only [aI]
   have e : k - 1 - ((ks.filter (kL 2)).length : Int) = k - (((ks.filter (kL 2)).length + 1 : Nat) : Int) := by omega
   rw [e]
theorem LI (s : kk) (k : Int) (hk : 0 ≤ k ∧ k ≤ 1000) (ks : List Formula) (h : nodesL ks ≤ 64) : qg s k ks = some (rV k ks, s) := by
 have := pp ks
 have := yi (fun x => !kL 2 x && !kL 3 x) ks
 unfold qg rV
 rw [zW s ks [] k (by omega) (by omega) (by simp; omega) (by simpa using by omega)]
 rfl
mutual
noncomputable def ph : Formula → Formula
 | ⟨o, k, r, ks⟩ => if o = 1 then ⟨o, k, r, ks⟩ else if o = 4 then rV k (shapeL ks) else oK o (shapeL ks)
noncomputable def shapeL : List Formula → List Formula
 | [] => []
 | k :: ks => ph k :: shapeL ks
end
theorem zl (f : Formula) : ph f = if f.Op = 1 then f else if f.Op = 4 then rV f.K (shapeL f.Kids) else oK f.Op (shapeL f.Kids) := by cases f; rw [ph]
theorem EU {a b : List Formula} (h : a.Perm b) : nodesL a = nodesL b := by
 induction h with
 | nil => rfl
 | cons x _ ih => rw [nodesL, nodesL, ih]
 | swap x y l => rw [nodesL, nodesL, nodesL, nodesL]; omega
 | trans _ _ h1 d => rw [h1, d]
theorem Dg (eq : Formula → Formula → Bool) : ∀ (l : List Formula) (x : Formula), nodesL (mC eq x l) ≤ nodesL l
 | [], x => aU _
 | y :: l, x => by
  have h1 := Dg eq l y
  have a := Dg eq l x
  rw [mC]
  split
  ·rw [nodesL]; omega
  ·rw [nodesL, nodesL]; omega
theorem NV (eq : Formula → Formula → Bool) (l : List Formula) : nodesL (dd eq l) ≤ nodesL l := by
 cases l with
 | nil => exact aU _
 | cons x l => have := Dg eq l x; rw [dd, nodesL, nodesL]; omega
theorem AH (op : Int) (ks : List Formula) : jV (oK op ks) ≤ 1 + nodesL ks := by
 unfold oK
 split
 ·rw [jV, nodesL]; omega
 ·have h1 := NV pO (uu (nu op ks))
  have a := EU (xD (nu op ks))
  have b := CA op ks
  generalize dd pO (uu (nu op ks)) = r at *
  split
  ·rename_i x
   rw [nodesL, nodesL] at h1; omega
  ·rw [jV]; omega
theorem Ig (k : Int) (ks : List Formula) : jV (rV k ks) ≤ 1 + nodesL ks := by
 have h := yi (fun x => !kL 2 x && !kL 3 x) ks
 unfold rV
 simp only
 generalize ks.filter (fun x => !kL 2 x && !kL 3 x) = l at *
 generalize k - ((ks.filter (kL 2)).length : Int) = n
 split
 ·rw [jV, nodesL]; omega
 ·split
  ·rw [jV, nodesL]; omega
  ·split
   ·have := AH 2 l; omega
   ·split
    ·have := AH 3 l; omega
    ·have := EU (xD l); rw [jV]; omega
theorem yZ : ∀ f : Formula, jV (ph f) ≤ jV f := by
 refine ID fun f ih => ?_
 have h : ∀ ks : List Formula, (∀ k ∈ ks, jV (ph k) ≤ jV k) → nodesL (shapeL ks) ≤ nodesL ks := by
  intro ks
  induction ks with
  | nil => intro _; rw [shapeL]; exact aU _
  | cons k ks a =>
   intro h
   have := a (fun x b => h x (by simp [b]))
   have := h k (by simp)
   rw [shapeL, nodesL, nodesL]; omega
 have h := h f.Kids ih
 rw [zl, nE f]
 split
 ·rw [nE]; omega
 ·split
  ·have := Ig f.K (shapeL f.Kids); omega
  ·have := AH f.Op (shapeL f.Kids); omega
theorem DL (ks : List Formula) : nodesL (shapeL ks) ≤ nodesL ks := by
 induction ks with
 | nil => rw [shapeL]; exact aU _
 | cons k ks ih => have := yZ k; rw [shapeL, nodesL, nodesL]; omega
theorem Om : ∀ (n : Nat) (f : Formula), nn f ≤ n → jV f ≤ 64 → so f = true → ∀ s : kk, mK n s f = some (ph f, s) := by
 intro n
 induction n with
 | zero => intro f h; rw [mh] at h; omega
 | succ n ih =>
  intro f r v hw s
  rw [mh] at r
  have t := nE f
  obtain ⟨h1, q, l⟩ := wG hw
  rw [mK]
  unfold rk
  rw [zl]
  by_cases c1 : f.Op = 1
  ·simp only [c1, aS, aM]
  ·have m : (f.Op == 1) = false := by simpa using c1
   simp only [m, aB, aH, c1]
   have key : ∀ (ks acc : List Formula), (∀ k ∈ ks, k ∈ f.Kids) → wellL ks = true → nodesL (acc ++ shapeL ks) ≤ 64 → nodesL ks ≤ 64 → nj (mK n) f ks acc s = some (if f.Op = 4 then rV f.K (acc ++ shapeL ks) else oK f.Op (acc ++ shapeL ks), s) := by
    intro ks
    induction ks with
    | nil =>
     intro acc _ _ d _
     rw [shapeL, bI] at *
     rw [nj]
     by_cases g : f.Op = 4
     ·simp only [g, aS, aM]
      rw [LI s f.K (by rcases l with h | h | h <;> omega) acc d, aA]
     ·have p : (f.Op == 4) = false := by simpa using g
      simp only [p, aB, aH, g]
      rw [D8 s f.Op (by rcases l with h | h | h <;> omega) acc d, aA]
    | cons k ks j =>
     intro acc hk a d i
     rw [wellL, bk] at a
     rw [nodesL] at i
     rw [shapeL] at d
     have b := pp (acc ++ ph k :: shapeL ks)
     simp only [aD, aI] at b
     rw [nj, ih k (by have := qk (hk k (by simp)); omega) (by omega) a.1 s, aA, lB (by simp; omega) (by simp; omega), aA,
      j (acc ++ [ph k]) (fun z u => hk z (by simp [u])) a.2 (by rw [aG]; exact d) (by omega), shapeL]
     simp only [aG, bA, aP]
   have := DL f.Kids
   have := key f.Kids [] (fun k hk => hk) q (by simpa using by omega) (by omega)
   simpa using this
def E4 : Formula := ⟨0, 0, pw, []⟩
noncomputable def wA (f : Formula) : Formula × Int := if mX f then (if mX (ph f) then (ph f, 0) else (E4, 12)) else (E4, 11)
theorem Kc (f : Formula) (h : Gd f) : wO f = some (wA f) := by
 unfold wO wA
 rw [Dh f h, aA]
 cases b : mX f
 ·rfl
 ·obtain ⟨h1, d, a⟩ := yH b
  have g := yZ f
  simp only [cH, aB, aH, aM]
  rw [Om jP f (by rw [lj]; omega) h1 a, aA, Dh (ph f) (by omega)]
  have e : (((⟨0⟩ : kk).e) != 0) = false := rfl
  simp only [e, aB, aH, aA]
  cases mX (ph f) <;> rfl
theorem xA {f : Formula} : jV (wA f).1 ≤ 64 := by
 unfold wA
 cases h : mX f
 ·exact by simp only [aB, aH, E4]; rw [jV, nodesL]; omega
 ·obtain ⟨h1, a, b⟩ := yH h
  have := yZ f
  simp only [aM]
  split
  ·show jV (ph f) ≤ 64; omega
  ·rw [E4, jV, nodesL]; omega
theorem P6 (f g : Formula) (a : jV f ≤ 10000000) (b : jV g ≤ 10000000) : wW f g = some (wA ⟨2, 0, pw, [f, g]⟩) := by
 unfold wW
 have := Kc ⟨2, 0, pw, [f, g]⟩ (by show jV _ ≤ _; rw [jV, nodesL, nodesL, nodesL]; omega)
 rw [show (⟨2, 0, (⟨zS, zS⟩ : jl), [f, g]⟩ : Formula) = ⟨2, 0, pw, [f, g]⟩ from rfl, this]
 rfl
mutual
def pz (v : jl → Bool) : Formula → Bool
 | ⟨o, k, r, ks⟩ => if o = 1 then v r else if o = 2 then decide (evN v ks = ks.length) else if o = 3 then decide (0 < evN v ks) else decide (k ≤ (evN v ks : Int))
def evN (v : jl → Bool) : List Formula → Nat
 | [] => 0
 | k :: ks => (if pz v k then 1 else 0) + evN v ks
end
theorem uB (v : jl → Bool) (f : Formula) : pz v f = if f.Op = 1 then v f.jl else if f.Op = 2 then decide (evN v f.Kids = f.Kids.length) else if f.Op = 3 then decide (0 < evN v f.Kids) else decide (f.K ≤ (evN v f.Kids : Int)) := by cases f; rw [pz]
theorem Gi (v : jl → Bool) : ∀ ks : List Formula, evN v ks ≤ ks.length
 | [] => by rw [evN]; exact aU _
 | k :: ks => by have := Gi v ks; rw [evN, aI]; split <;> omega
theorem GW (v : jl → Bool) : ∀ ks : List Formula, evN v ks = ks.length ↔ ∀ k ∈ ks, pz v k = true
 | [] => by rw [evN]; simp
 | k :: ks => by
  have h1 := Gi v ks
  have a := GW v ks
  rw [evN, aI]
  simp only [gN, ← a]
  cases pz v k <;> simp <;> omega
theorem GY (v : jl → Bool) : ∀ ks : List Formula, 0 < evN v ks ↔ ∃ k ∈ ks, pz v k = true
 | [] => by rw [evN]; simp
 | k :: ks => by
  have a := GY v ks
  rw [evN]
  simp only [aK, exists_eq_or_imp, ← a]
  cases pz v k <;> simp <;> omega
theorem Gv (v : jl → Bool) (ks : List Formula) : evN v ks = (ks.filter (pz v)).length := by
 induction ks with
 | nil => rw [evN]; rfl
 | cons k ks ih => rw [evN, ih, dE]; cases pz v k <;> simp <;> omega
theorem Oz (v : jl → Bool) {a b : List Formula} (h : a.Perm b) : evN v a = evN v b := by
 rw [Gv, Gv]; exact (h.filter _).length_eq
theorem KC {v w : jl → Bool} (h : ∀ r, v r = true → w r = true) : ∀ f : Formula, pz v f = true → pz w f = true := by
 refine ID fun f ih => ?_
 have key : evN v f.Kids ≤ evN w f.Kids := by
  have : ∀ ks : List Formula, (∀ k ∈ ks, pz v k = true → pz w k = true) → evN v ks ≤ evN w ks := by
   intro ks
   induction ks with
   | nil => intro _; rw [evN, evN]; exact aU _
   | cons k ks a =>
    intro hk
    have h1 := a (fun x g => hk x (by simp [g]))
    have b := hk k (by simp)
    rw [evN, evN]
    cases d : pz v k
    ·simp; omega
    ·rw [b d]; simp; omega
  exact this _ ih
 have hle := Gi w f.Kids
 rw [uB, uB]
 split
 ·exact h _
 ·split
  ·simp only [bL]; omega
  ·split
   ·simp only [bL]; omega
   ·simp only [bL]; omega
theorem DP (v : jl → Bool) (f1 : jl → Option Bool) (rec : Formula → (jl → Option Bool) → Option Bool) (f : Formula) : ∀ (ks : List Formula) (x : Nat), (∀ k ∈ ks, rec k f1 = some (pz v k)) → x + ks.length ≤ 100000000 →
  oU rec f1 f ks (x : Int) = some (if f.Op = 2 then decide (x + evN v ks = f.Kids.length) else if f.Op = 3 then decide (0 < x + evN v ks) else decide (f.K ≤ ((x + evN v ks : Nat) : Int)))
 | [], x, _, _ => by
  rw [oU, evN, fN]
  by_cases c2 : f.Op = 2
  ·simp only [c2, aS, aM]
   congr 1
   rw [bH, gd, bL]; omega
  ·have b : (f.Op == 2) = false := by simpa using c2
   simp only [b, aB, aH, c2]
   by_cases a : f.Op = 3
   ·simp only [a, aS, aM]
    congr 1
    rw [bH, bL, bL]; omega
   ·have g : (f.Op == 3) = false := by simpa using a
    simp only [g, aB, aH, a]
 | k :: ks, x, h, i => by
  rw [aI] at i
  rw [oU, h k (by simp), aA, evN]
  cases pz v k
  ·simp only [aB, aH]
   rw [DP v f1 rec f ks x (fun z d => h z (by simp [d])) (by omega), dX]
  ·simp only [aM]
   have e : wi0 .i64 ((x : Int) + 1) = ((x + 1 : Nat) : Int) := by rw [jT (by omega) (by omega)]; omega
   rw [e, DP v f1 rec f ks (x + 1) (fun z d => h z (by simp [d])) (by omega)]
   have b : x + 1 + evN v ks = x + (1 + evN v ks) := by omega
   rw [b]
theorem MI (v : jl → Bool) (f1 : jl → Option Bool) (i : ∀ r, f1 r = some (v r)) : ∀ (n : Nat) (f : Formula), nn f ≤ n → Gd f → px n f f1 = some (pz v f) := by
 intro n
 induction n with
 | zero => intro f h; rw [mh] at h; omega
 | succ n ih =>
  intro f b d
  rw [mh] at b
  have g := nE f
  have j := pp f.Kids
  unfold Gd at d
  rw [px]
  unfold uN
  rw [uB]
  by_cases c1 : f.Op = 1
  ·simp only [c1, aS, aM, i, aA]
  ·have a : (f.Op == 1) = false := by simpa using c1
   simp only [a, aB, aH, c1]
   have := DP v f1 (px n) f f.Kids 0 (fun k hk => ih k (by have := qk hk; omega) (by have := sD hk; unfold Gd; omega)) (by omega)
   simpa using this
def nv (v : jl → Bool) (f : Formula) : Bool := mX f && pz v f
theorem Hq (v : jl → Bool) (f1 : jl → Option Bool) (a : ∀ r, f1 r = some (v r)) (f : Formula) (h : Gd f) : sI f f1 = some (nv v f) := by
 unfold sI nv
 rw [Dh f h, aA]
 have := vn f
 cases mX f
 ·rfl
 ·unfold Gd at h
  simp only [aM, MI v f1 a jP f (by rw [lj]; omega) h, aA, dL]
theorem F6 (op : Int) (f : Formula) : kL op f = true ↔ f.Op = op ∧ f.Kids = [] := by
 unfold kL; simp
theorem Hy (v : jl → Bool) {f : Formula} (h : kL 2 f = true) : pz v f = true := by
 obtain ⟨h1, a⟩ := (F6 2 f).1 h
 rw [uB, h1, a, evN]; rfl
theorem HL (v : jl → Bool) {f : Formula} (h : kL 3 f = true) : pz v f = false := by
 obtain ⟨h1, a⟩ := (F6 3 f).1 h
 rw [uB, h1, a, evN]; rfl
def tk (v : jl → Bool) (ks : List Formula) : Bool := ks.all (pz v)
def tU (v : jl → Bool) (ks : List Formula) : Bool := ks.any (pz v)
theorem J9 (v : jl → Bool) (k : Int) (r : jl) (ks : List Formula) : pz v ⟨2, k, r, ks⟩ = tk v ks := by
 rw [uB, bH]; simp [tk, GW]
theorem Ni (v : jl → Bool) (k : Int) (r : jl) (ks : List Formula) : pz v ⟨3, k, r, ks⟩ = tU v ks := by
 rw [uB, bH]; simp [tU, GY]
theorem II (v : jl → Bool) : ∀ ks : List Formula, tk v (nu 2 ks) = tk v ks
 | [] => rfl
 | k :: ks => by
  have ih := II v ks
  unfold tk at ih ⊢
  rw [nu, List.all_append, ih, gL]
  congr 1
  split
  ·rename_i h
   obtain ⟨o, n, r, l⟩ := k
   simp only at h; subst h
   exact (J9 v n r l).symm
  ·simp
theorem IA (v : jl → Bool) : ∀ ks : List Formula, tU v (nu 3 ks) = tU v ks
 | [] => rfl
 | k :: ks => by
  have ih := IA v ks
  unfold tU at ih ⊢
  rw [nu, List.any_append, ih, fZ]
  congr 1
  split
  ·rename_i h
   obtain ⟨o, n, r, l⟩ := k
   simp only at h; subst h
   exact (Ni v n r l).symm
  ·simp
theorem MM (l : List Formula) (x : Formula) : x ∈ dd pO (uu l) ↔ x ∈ l := by
 rw [I2 (fun _ _ => Ad), (xD l).mem_iff]
theorem M8 {v : jl → Bool} {a b : List Formula} (h : ∀ x, x ∈ a ↔ x ∈ b) : tk v a = tk v b := by
 unfold tk; rw [bH, eF, eF]
 exact ⟨fun q x d => q x ((h x).2 d), fun q x d => q x ((h x).1 d)⟩
theorem MQ {v : jl → Bool} {a b : List Formula} (h : ∀ x, x ∈ a ↔ x ∈ b) : tU v a = tU v b := by
 unfold tU; rw [bH, dU, dU]
 exact ⟨fun ⟨x, d, q⟩ => ⟨x, (h x).1 d, q⟩, fun ⟨x, d, q⟩ => ⟨x, (h x).2 d, q⟩⟩
theorem GA (v : jl → Bool) (ks : List Formula) : pz v (oK 2 ks) = tk v ks := by
 rw [← II]
 unfold oK
 split
 ·rename_i h
  rw [show (5 - 2 : Int) = 3 from rfl, Ni]
  obtain ⟨x, a, he⟩ := dU.1 h
  have : tk v (nu 2 ks) = false := by
   unfold tk; rw [List.all_eq_false]; exact ⟨x, a, by rw [HL v he]; simp⟩
  rw [this]; rfl
 ·rw [← M8 (MM (nu 2 ks))]
  generalize dd pO (uu (nu 2 ks)) = r
  split
  ·simp [tk]
  ·exact J9 v 0 pw r
theorem Gr (v : jl → Bool) (ks : List Formula) : pz v (oK 3 ks) = tU v ks := by
 rw [← IA]
 unfold oK
 split
 ·rename_i h
  rw [show (5 - 3 : Int) = 2 from rfl, J9]
  obtain ⟨x, a, he⟩ := dU.1 h
  have : tU v (nu 3 ks) = true := by
   unfold tU; rw [dU]; exact ⟨x, a, Hy v he⟩
  rw [this]; rfl
 ·rw [← MQ (MM (nu 3 ks))]
  generalize dd pO (uu (nu 3 ks)) = r
  split
  ·simp [tU]
  ·exact Ni v 0 pw r
theorem HR (v : jl → Bool) : ∀ ks : List Formula, evN v ks = (ks.filter (kL 2)).length + evN v (ks.filter fun x => !kL 2 x && !kL 3 x)
 | [] => rfl
 | k :: ks => by
  have ih := HR v ks
  rw [evN, dE, dE, ih]
  cases a : kL 2 k
  ·cases b : kL 3 k
   ·simp only [dq, iN, aB, aH, aM]
    rw [evN]; omega
   ·rw [HL v b]; simp
  ·rw [Hy v a]; simp; omega
theorem LQ (v : jl → Bool) (k : Int) (ks : List Formula) : pz v (rV k ks) = decide (k ≤ (evN v ks : Int)) := by
 have b := HR v ks
 unfold rV
 simp only
 generalize a : ks.filter (fun x => !kL 2 x && !kL 3 x) = l at *
 generalize (ks.filter (kL 2)).length = m at *
 have hle := Gi v l
 have ha := GW v l
 have hp := GY v l
 split
 ·rw [J9]; simp [tk]; omega
 ·split
  ·rw [Ni]; simp [tU]; omega
  ·split
   ·rw [GA, bH, bL]
    unfold tk
    rw [eF, ← ha]; omega
   ·split
    ·rw [Gr, bH, bL]
     unfold tU
     rw [dU, ← hp]; omega
    ·rw [uB]
     simp only [Oz v (xD l)]
     have : ¬ ((4 : Int) = 1) := by omega
     have : ¬ ((4 : Int) = 2) := by omega
     have : ¬ ((4 : Int) = 3) := by omega
     simp only [*, aH]
     rw [bH, bL, bL]; omega
theorem NZ (v : jl → Bool) : ∀ f : Formula, so f = true → pz v (ph f) = pz v f := by
 refine ID fun f ih hw => ?_
 obtain ⟨h1, g, i⟩ := wG hw
 rw [Ea, eF] at g
 have key : ∀ ks : List Formula, (∀ k ∈ ks, pz v (ph k) = pz v k) → evN v (shapeL ks) = evN v ks ∧ tk v (shapeL ks) = tk v ks ∧ tU v (shapeL ks) = tU v ks := by
  intro ks
  induction ks with
  | nil => intro _; rw [shapeL]; exact ⟨rfl, rfl, rfl⟩
  | cons k ks d =>
   intro hk
   obtain ⟨a, b, c⟩ := d (fun x j => hk x (by simp [j]))
   have h := hk k (by simp)
   unfold tk tU at *
   rw [shapeL, evN, evN, a, h, gL, gL, fZ, fZ, b, c, h]
   exact ⟨rfl, rfl, rfl⟩
 obtain ⟨a, b, c⟩ := key f.Kids (fun k hk => ih k hk (g k hk))
 obtain ⟨o, n, r, l⟩ := f
 simp only at *
 rw [zl]
 simp only
 rcases i with h | h | h
 ·simp only [h.1, aM]
 ·rcases h.1 with h | h
  ·subst h
   rw [J9]
   exact (GA v _).trans b
  ·subst h
   rw [Ni]
   exact (Gr v _).trans c
 ·obtain ⟨h, _⟩ := h
  subst h
  rw [uB v ⟨4, n, r, l⟩]
  exact (LQ v n _).trans (by rw [a]; rfl)
theorem My {f g : Formula} (h : wA f = (g, 0)) : mX f = true ∧ mX g = true ∧ ∀ v, pz v g = pz v f := by
 unfold wA at h
 cases a : mX f
 ·rw [a] at h; simp at h
 ·rw [a] at h
  simp only [aM] at h
  cases b : mX (ph f)
  ·rw [b] at h; simp at h
  ·rw [b] at h
   simp only [aM, iJ] at h
   obtain ⟨rfl, _⟩ := h
   exact ⟨rfl, b, fun v => NZ v f (yH a).2.2⟩
def S8 (l : List Signed) : Prop := ∀ s ∈ l, B8 s.Tag
theorem CD (b : List jm) (x : jm) : ry b x = some (pc kU b x) := by
 obtain ⟨q, e, h⟩ := Jl x b
 unfold pf at e
 rw [nH] at e
 rw [e, show q = pc kU b x from by rw [bH, h, tf ns]]
structure Lu (l : List jm) (F : List jE) : Prop where
 len : F.length ≤ 900000000
 ref : wg l = some F
 SN : ∃ m, uM l = some m ∧ vq m.1 m.2.1 m.2.2.1 m.2.2.2.1 m.2.2.2.2.1 m.2.2.2.2.2 = some F ∧ ∀ r w, rh m.1 m.2.1 m.2.2.1 m.2.2.2.1 m.2.2.2.2.1 m.2.2.2.2.2 r w = some (pc Ae F ⟨r, w⟩)
 wD : ∀ C : List jm, (∀ c, c ∈ C ↔ c ∈ l ∧ kY c = true) → Am (ot C) F
theorem RG (l : List jm) (x : l.length ≤ 30000) : ∃ F, Lu l F := by
 obtain ⟨F, h⟩ := QQ l x
 refine ⟨F, h.S0, h.ref, ?_, fun C t => ?_⟩
 ·obtain ⟨C, h1, d, s⟩ := h.C
  obtain ⟨C1, T, m, ws, n, p, m1, g, j⟩ := Iq l (by omega)
  have a : ∀ c, c ∈ C1 ↔ c ∈ C := fun c => by rw [d, g]
  have k : Am (ot C1) F := ⟨h1.1, fun f => (h1.2 f).trans (ot.congr a f).symm⟩
  have u : SM C1 := by unfold SM; omega
  refine ⟨_, p, ?_, fun r w => ?_⟩
  ·obtain ⟨F1, q, i⟩ := OF u.small m1 C1 m ws [] n
   rw [← i.unique k]; exact q
  ·obtain ⟨b, e, v⟩ := I4 m1 C1 m ws [] n r w
   rw [e, show b = pc Ae F ⟨r, w⟩ from by rw [bH, v, tf wH, k.2]]
 ·obtain ⟨C', h1, d, s⟩ := h.C
  have a : ∀ c, c ∈ C' ↔ c ∈ C := fun c => by rw [d, t]
  exact ⟨h1.1, fun f => (h1.2 f).trans (ot.congr a f)⟩
structure PB (p : jX) : Prop where
 It : p.jF.length ≤ 2000000
 NU : p.jS.length ≤ 2000000
 rel : ∀ x ∈ p.jF, jV x.jw ≤ 10000000
 N9 : ∀ a ∈ p.jS, jV a.jw ≤ 10000000
 Tp : ∀ a ∈ p.jS, a.mo.length ≤ 2000000
theorem Je (f : kd → Option Bool) : ∀ (l : List kd) (i : Nat), mO f l i = yB f l i
 | [], i => by rw [mO]; rfl
 | x :: l, i => by
  rw [mO, yB]
  cases f x with
  | none => rfl
  | some b =>
   simp only [aA]
   rw [Je f l (i + 1)]
theorem Iz (f : nf → Option Bool) : ∀ (l : List nf) (i : Nat), ny f l i = yB f l i
 | [], i => by rw [ny]; rfl
 | x :: l, i => by
  rw [ny, yB]
  cases f x with
  | none => rfl
  | some b =>
   simp only [aA]
   rw [Iz f l (i + 1)]
def yU (p : jX) (c : jm) : Option kd := p.jF.find? fun x => kU x.Signed.jm c
theorem Qh (p : jX) (c : jm) : ∃ z, xP p c = some (match yU p c with | some x => (x, true) | none => (z, false)) := by
 unfold xP rU yU
 rw [Je]
 rcases CE (fun x => vy x c) (fun x => kU x.Signed.jm c) p.jF 0 (fun x _ => rfl) with ⟨e, h1⟩ | ⟨A, x, B, hp, h1, b, e⟩
 ·rw [e, aA, gj.2 (fun x a => by rw [h1 x a]; simp)]
  exact ⟨_, rfl⟩
 ·rw [e, aA, hp, iG, gj.2 (fun x a => by rw [h1 x a]; simp), fw, b]
  have : ¬ (((0 + A.length : Nat) : Int) < 0) := by omega
  simp only [this, cC, aB, aH]
  rw [mw A x B _ (by omega)]
  exact ⟨x, rfl⟩
def Ru : nf := ⟨⟨zS, zS⟩, ⟨0, 0, ⟨zS, zS⟩, []⟩, []⟩
theorem IG (f : nf → Option Bool) : ∀ (n : Nat) (l : List nf) (i j : Int), ni f n l i j = CG f Ru n l i j
 | 0, _, _, _ => rfl
 | n + 1, l, i, j => by
  rw [ni, CG]
  simp only [IG f n]
  rfl
def xR (p : jX) (c : jm) : List nf := p.jS.filter fun a => pc kU a.mo c
theorem Oq (p : jX) (hp : PB p) (c : jm) : xa p c = some (xR p c) := by
 have := hp.NU
 unfold xa tS xR
 rw [lB (by simp; omega) (by simp; omega)]
 simp only [aA, aP, nH]
 have : qM p.jS (fun x => rl x c) = Ha (fun x => rl x c) Ru p.jS := by
  unfold qM Ha ud
  simp only [Iz, IG]
 rw [this, Fh _ (fun a => !pc kU a.mo c) Ru _ (by omega) (fun a _ => by unfold rl pf; rw [nH, CD]; rfl)]
 simp only [gz]
noncomputable def oL : Formula × Int → List Formula → Formula × Int
 | t, [] => t
 | t, g :: l => if t.2 = 0 then oL (wA ⟨2, 0, pw, [t.1, g]⟩) l else t
theorem J4 : ∀ (l : List Formula) (e o k : Int) (r : jl) (ks : List Formula), (∀ g ∈ l, jV g ≤ 10000000) → jV ⟨o, k, r, ks⟩ ≤ 64 →
  sG l e o k r ks = some ((oL (⟨o, k, r, ks⟩, e) l).2, (oL (⟨o, k, r, ks⟩, e) l).1.Op, (oL (⟨o, k, r, ks⟩, e) l).1.K, (oL (⟨o, k, r, ks⟩, e) l).1.jl, (oL (⟨o, k, r, ks⟩, e) l).1.Kids)
 | [], e, o, k, r, ks, _, _ => by rw [sG, oL]
 | g :: l, e, o, k, r, ks, h, m => by
  rw [sG, oL]
  by_cases c : e = 0
  ·have a : (e != 0) = false := by simp [c]
   simp only [a, aB, aH, c, aM]
   rw [P6 _ g (by omega) (h g (by simp)), aA]
   have d := xA (f := ⟨2, 0, pw, [⟨o, k, r, ks⟩, g]⟩)
   generalize wA ⟨2, 0, pw, [⟨o, k, r, ks⟩, g]⟩ = q at *
   obtain ⟨⟨o', k', j, b⟩, e'⟩ := q
   exact J4 l e' o' k' j b (fun z i => h z (by simp [i])) d
  ·have a : (e != 0) = true := by simp [c]
   simp only [a, aM, c, aH]
noncomputable def BF (g : Formula) (l : List Formula) : Formula × Int := if (oL (wA g) l).2 = 0 then oL (wA g) l else (E4, (oL (wA g) l).2)
theorem PV (g : Formula) (l : List Formula) (m : jV g ≤ 10000000) (h : ∀ x ∈ l, jV x ≤ 10000000) : vk (g :: l) = some (BF g l) := by
 unfold vk BF
 have b : kV (g :: l) 0 = some g := mw [] g l 0 rfl
 have a : qR (decide (0 ≤ 1) && decide ((1 : Int) ≤ ((g :: l).length : Int))) = some () := by
  rw [aI]
  have : (1 : Int) ≤ ((l.length + 1 : Nat) : Int) := by omega
  simp [qR]; omega
 have i := xA (f := g)
 rw [b, aA, Kc g (by unfold Gd; omega), aA, a, aA]
 generalize wA g = q at *
 obtain ⟨⟨o, k, r, ks⟩, e⟩ := q
 have d : (g :: l).drop (Int.toNat 1) = l := rfl
 rw [d, J4 l e o k r ks h i, aA]
 generalize oL (⟨o, k, r, ks⟩, e) l = t
 obtain ⟨⟨o', k', n, j⟩, e'⟩ := t
 by_cases c : e' = 0
 ·subst c; rfl
 ·have a : (e' != 0) = true := by simp [c]
  simp only [a, aM, c, aH]; rfl
noncomputable def oW (p : jX) (c : jm) : Formula × Int := match yU p c with | none => (E4, 42) | some x => BF x.jw ((xR p c).map (·.jw))
theorem Ng : ∀ (l : List nf) (acc : List Formula), acc.length + l.length ≤ 3000000 → tF l acc = vk (acc ++ l.map (·.jw))
 | [], acc, _ => by
  rw [tF, eu, bI]
  cases vk acc <;> rfl
 | a :: l, acc, h => by
  rw [aI] at h
  rw [tF, lB (by simp; omega) (by simp; omega), aA, Ng l _ (by simp; omega)]
  simp
theorem On {p : jX} {c : jm} {x : kd} (h : yU p c = some x) : x ∈ p.jF ∧ x.Signed.jm = c := by
 unfold yU at h
 have h1 := List.mem_of_find?_eq_some h
 have a := List.find?_some h
 exact ⟨h1, ns.1 a⟩
theorem Rk (p : jX) (hp : PB p) (c : jm) : zX p c = some (oW p c) := by
 unfold zX oW
 obtain ⟨z, e⟩ := Qh p c
 rw [e, aA]
 cases h : yU p c with
 | none => rfl
 | some x =>
  simp only [cH, aB, aH]
  have d := On h
  have i : (xR p c).length ≤ p.jS.length := ed _ _
  have := hp.NU
  rw [Oq p hp c, aA, Ng _ _ (by simp; omega)]
  exact PV x.jw _ (hp.rel x d.1) (fun g b => by
   obtain ⟨a, ha, rfl⟩ := bF.1 b
   exact hp.N9 a (cK.1 ha).1)
theorem Ht (p : jX) (c : jm) : jV (oW p c).1 ≤ 64 := by
 have a : jV E4 ≤ 64 := by rw [E4, jV, nodesL]; omega
 have b : ∀ (l : List Formula) (t : Formula × Int), jV t.1 ≤ 64 → jV (oL t l).1 ≤ 64 := by
  intro l
  induction l with
  | nil => intro t h; exact h
  | cons g l ih =>
   intro t h
   rw [oL]
   split
   ·exact ih _ xA
   ·exact h
 unfold oW
 split
 ·exact a
 ·unfold BF
  split
  ·exact b _ _ xA
  ·exact a
theorem Jj : ∀ (l : List Formula) (f : Formula) (e : Int), (oL (f, e) l).2 = 0 → e = 0 ∧ (mX f = true → mX (oL (f, e) l).1 = true ∧ ∀ v, pz v (oL (f, e) l).1 = (pz v f && l.all (pz v)))
 | [], f, e, h => by rw [oL] at *; exact ⟨h, fun j => ⟨j, fun v => by simp⟩⟩
 | g :: l, f, e, h => by
  rw [oL] at *
  by_cases c : e = 0
  ·simp only [c, aM] at h ⊢
   cases a : wA ⟨2, 0, pw, [f, g]⟩ with
   | mk q e' =>
    rw [a] at h
    obtain ⟨h1, i⟩ := Jj l q e' h
    subst h1
    obtain ⟨k, a2, a3⟩ := My a
    obtain ⟨b, d⟩ := i a2
    refine ⟨trivial, fun _ => ⟨b, fun v => ?_⟩⟩
    rw [d v, a3 v, J9]
    simp [tk, gy]
  ·simp only [c, aH] at h
theorem MD {p : jX} {c : jm} (h : (oW p c).2 = 0) : mX (oW p c).1 = true ∧ ∃ x, yU p c = some x ∧ ∀ v, pz v (oW p c).1 = (pz v x.jw && (xR p c).all fun a => pz v a.jw) := by
 unfold oW at *
 cases g : yU p c with
 | none => rw [g] at h; simp at h
 | some x =>
  rw [g] at h
  simp only at h ⊢
  unfold BF at *
  by_cases b : (oL (wA x.jw) ((xR p c).map (·.jw))).2 = 0
  ·simp only [b, aM] at h ⊢
   cases d : wA x.jw with
   | mk q e =>
    rw [d] at b
    obtain ⟨h1, k⟩ := Jj _ q e b
    subst h1
    obtain ⟨l, a2, a3⟩ := My d
    obtain ⟨i, j⟩ := k a2
    refine ⟨i, x, rfl, fun v => ?_⟩
    rw [j v, a3 v, List.all_map]
    rfl
  ·simp only [b, aH] at h
def vF (F : List jE) (peer : ByteArray) (r : jl) : Bool := pc Ae F ⟨r, peer⟩
theorem PL {l : List jm} {F : List jE} (h : Lu l F) (peer : ByteArray) : ∃ m, uw l peer = some m ∧ ∀ r, py r m.1 m.2.1 m.2.2.1 m.2.2.2.1 m.2.2.2.2.1 m.2.2.2.2.2.1 m.2.2.2.2.2.2 = some (vF F peer r) := by
 obtain ⟨m, e, _, a⟩ := h.SN
 unfold uw
 rw [e, aA]
 refine ⟨_, rfl, fun r => ?_⟩
 unfold py
 rw [nH]
 exact a r peer
noncomputable def yY (p : jX) (v : jl → Bool) (x : kd) : Bool := decide ((oW p x.Signed.jm).2 = 0) && nv v (oW p x.Signed.jm).1
theorem BK (p : jX) (hp : PB p) (v : jl → Bool) (m) (a : ∀ r, py r m.1 m.2.1 m.2.2.1 m.2.2.2.1 m.2.2.2.2.1 m.2.2.2.2.2.1 m.2.2.2.2.2.2 = some (v r)) : ∀ (l : List kd) (acc : List jm), acc.length + l.length ≤ 1000000000 →
  qt p m l acc = tQ (acc ++ (l.filter (yY p v)).map (·.Signed.jm))
 | [], acc, _ => by
  rw [qt, gS, eu, bI, nH]
 | x :: l, acc, h => by
  rw [aI] at h
  have b := Ht p x.Signed.jm
  rw [qt, Rk p hp, aA, Hq v _ a _ (by unfold Gd; omega), dE]
  unfold yY
  by_cases c : (oW p x.Signed.jm).2 = 0
  ·simp only [c, aS, aM, bV, dL, aA]
   cases d : nv v (oW p x.Signed.jm).1
   ·simp only [aB, aH]
    exact BK p hp v m a l acc (by omega)
   ·simp only [aM]
    rw [lB (by simp; omega) (by simp; omega), aA, BK p hp v m a l _ (by simp; omega)]
    simp only [bD, aG, bA, aP]
    rfl
  ·have e : ((oW p x.Signed.jm).2 == 0) = false := by simpa using c
   simp only [e, aB, aH, c, cC, fM, aA]
   exact BK p hp v m a l acc (by omega)
theorem Pp (p : jX) (hp : PB p) {l : List jm} {F : List jE} (h : Lu l F) (peer : ByteArray) : ∃ s, oQ p l peer = some s ∧ Jn ((p.jF.filter (yY p (vF F peer))).map (·.Signed.jm)) s := by
 obtain ⟨m, e, a⟩ := PL h peer
 have := hp.It
 unfold oQ
 rw [e, aA, BK p hp _ m a p.jF [] (by simp; omega), aP]
 have h1 : (p.jF.filter (yY p (vF F peer))).length ≤ p.jF.length := ed _ _
 exact NM _ (by simp; omega)
structure PG (p : jX) : Prop extends PB p where
 To : ∀ x ∈ p.jF, xb x.Signed.jm ≤ 1000000000
 TD : ∀ a ∈ p.jS, ∀ c ∈ a.mo, xb c ≤ 1000000000
def gX : jl := ⟨⟨#[120]⟩, ⟨#[121]⟩⟩
def gc : jm := ⟨1, gX, ⟨#[109, 101]⟩, ⟨zS, zS⟩, ⟨zS, zS⟩, zS⟩
noncomputable def vD (l : List jm) (peer : ByteArray) (r : jl) : Bool := @decide (ot (l.filter kY) ⟨r, peer⟩) (Classical.propDecidable _)
theorem B4 (l : List jm) (peer : ByteArray) (r : jl) : vD l peer r = true ↔ ot (l.filter kY) ⟨r, peer⟩ := by unfold vD; simp
theorem J6 {l m : List jm} (h : ∀ c ∈ l, c ∈ m) (peer : ByteArray) (r : jl) (b : vD l peer r = true) : vD m peer r = true := by
 rw [B4] at *
 exact b.mono (fun c a => by rw [cK] at *; exact ⟨h c a.1, a.2⟩)
theorem R4 (l : List jm) (h : l.length ≤ 1000000) (peer : ByteArray) : ∃ m, uw l peer = some m ∧ ∀ r, py r m.1 m.2.1 m.2.2.1 m.2.2.2.1 m.2.2.2.2.1 m.2.2.2.2.2.1 m.2.2.2.2.2.2 = some (vD l peer r) := by
 obtain ⟨C, T, i, ws, n, e, m, d, _⟩ := Iq l h
 unfold uw
 rw [e, aA]
 refine ⟨_, rfl, fun r => ?_⟩
 unfold py
 rw [nH]
 obtain ⟨b, a, g⟩ := I4 m C i ws [] n r peer
 rw [a]
 congr 1
 rw [bH, g, B4]
 exact ot.congr (fun c => by rw [d, cK]) _
noncomputable def Mg (p : jX) (v : jl → Bool) (c : jm) : Bool := decide ((oW p c).2 = 0) && nv v (oW p c).1
theorem NQ {p : jX} {v w : jl → Bool} (h : ∀ r, v r = true → w r = true) (c : jm) (a : Mg p v c = true) : Mg p w c = true := by
 unfold Mg nv at *
 simp only [bk, bL] at *
 exact ⟨a.1, a.2.1, KC h _ a.2.2⟩
def mE (s : List jm) : Prop := s.Pairwise (fun a b => Az a b = true) ∧ ∀ c ∈ s, kY c = true
theorem mE.nodup {s : List jm} (h : mE s) : s.Nodup := uc Ch h.2 h.1
theorem mE.le {s t : List jm} (h : mE s) (a : ∀ c ∈ s, c ∈ t) : s.length ≤ t.length := lA h.nodup a
theorem mE.ext {s t : List jm} (h : mE s) (k : mE t) (b : ∀ c, c ∈ s ↔ c ∈ t) : s = t :=
 vG.unique Ch (l := t) ⟨h.1, fun x => ⟨fun a => ⟨(b x).1 a, h.2 x a⟩, fun a => (b x).2 a.1⟩⟩ ⟨k.1, fun x => ⟨fun a => ⟨a, k.2 x a⟩, fun a => a.1⟩⟩
theorem mE.eq {s t : List jm} (h : mE s) (k : mE t) (b : ∀ c ∈ s, c ∈ t) (i : t.length ≤ s.length) : s = t := by
 refine h.ext k fun c => ⟨b c, fun d => ?_⟩
 refine eS fun g => ?_
 have := lA (l := c :: s) (m := t) (cR.2 ⟨g, h.nodup⟩) (fun x a => by
  rcases aK.1 a with rfl | a
  ·exact d
  ·exact b x a)
 simp at this; omega
theorem mE.nil : mE [] := ⟨by simp, by simp⟩
theorem mE.filter {s : List jm} (h : mE s) (p : jm → Bool) : mE (s.filter p) := ⟨h.1.filter _, fun c a => h.2 c (cK.1 a).1⟩
def DD (p : jX) (c : jm) : Prop := ∃ x ∈ p.jF, x.Signed.jm = c
def nl (p : jX) (l : List jm) (peer : ByteArray) (c : jm) : Prop := DD p c ∧ kY c = true ∧ Mg p (vD l peer) c = true
theorem qj {p : jX} {l m : List jm} (h : ∀ c ∈ l, c ∈ m) {peer : ByteArray} {c : jm} (a : nl p l peer c) : nl p m peer c := ⟨a.1, a.2.1, NQ (J6 h peer) c a.2.2⟩
theorem oz {p : jX} {s : List jm} (h : mE s) (b : ∀ c ∈ s, DD p c) : s.length ≤ p.jF.length := by
 have := h.le (t := p.jF.map (·.Signed.jm)) (fun c a => by obtain ⟨x, d, e⟩ := b c a; exact bF.2 ⟨x, d, e⟩)
 simpa using this
theorem Ck (p : jX) (hp : PB p) (l : List jm) (n : l.length ≤ 1000000) (peer : ByteArray) : ∃ s, oQ p l peer = some s ∧ mE s ∧ (∀ c, c ∈ s ↔ nl p l peer c) ∧ s.length ≤ p.jF.length := by
 obtain ⟨m, e, q⟩ := R4 l n peer
 have := hp.It
 unfold oQ
 rw [e, aA, BK p hp _ m q p.jF [] (by simp; omega), aP]
 have h1 : (p.jF.filter (yY p (vD l peer))).length ≤ p.jF.length := ed _ _
 obtain ⟨s, j, a⟩ := NM ((p.jF.filter (yY p (vD l peer))).map (·.Signed.jm)) (by simp; omega)
 have i : mE s := ⟨a.1, fun c d => ((a.2 c).1 d).2⟩
 have hm : ∀ c, c ∈ s ↔ nl p l peer c := fun c => by
  rw [a.2, bF]
  constructor
  ·rintro ⟨⟨x, h, rfl⟩, g⟩
   obtain ⟨k, b⟩ := cK.1 h
   exact ⟨⟨x, k, rfl⟩, g, b⟩
  ·rintro ⟨⟨x, h, rfl⟩, g, b⟩
   exact ⟨⟨x, cK.2 ⟨h, b⟩, rfl⟩, g⟩
 exact ⟨s, j, i, hm, oz i (fun c d => ((hm c).1 d).1)⟩
structure IV (a b : jX) (x y : List jm) : Prop where
 sx : mE x
 sy : mE y
 fx : ∀ c, c ∈ x ↔ nl a y b.Name c
 fy : ∀ c, c ∈ y ↔ nl b x a.Name c
 least : ∀ X Y : List jm, (∀ c, nl a Y b.Name c → c ∈ X) → (∀ c, nl b X a.Name c → c ∈ Y) → (∀ c ∈ x, c ∈ X) ∧ (∀ c ∈ y, c ∈ Y)
theorem IV.lx {a b : jX} {x y : List jm} (h : IV a b x y) : x.length ≤ a.jF.length := oz h.sx (fun c d => ((h.fx c).1 d).1)
theorem IV.ly {a b : jX} {x y : List jm} (h : IV a b x y) : y.length ≤ b.jF.length := oz h.sy (fun c d => ((h.fy c).1 d).1)
theorem HJ (a b : jX) (ha : PB a) (u : PB b) (J : a.jF.length ≤ 600000) (L : b.jF.length ≤ 600000) : ∀ (n : Nat) (x y : List jm) (i : Int), mE x → mE y → (∀ c ∈ x, nl a y b.Name c) → (∀ c ∈ y, nl b x a.Name c) →
  (∀ X Y : List jm, (∀ c, nl a Y b.Name c → c ∈ X) → (∀ c, nl b X a.Name c → c ∈ Y) → (∀ c ∈ x, c ∈ X) ∧ (∀ c ∈ y, c ∈ Y)) → a.jF.length + b.jF.length < n + x.length + y.length →
  ∃ v w j, nI a b n x y i = some (v, w, j) ∧ IV a b v w
 | 0, x, y, i, sx, sy, g, k, hm, I => by
  have h1 := oz sx (fun c d => (g c d).1)
  have G := oz sy (fun c d => (k c d).1)
  omega
 | n + 1, x, y, i, sx, sy, g, k, hm, I => by
  have h1 := oz sx (fun c d => (g c d).1)
  have G := oz sy (fun c d => (k c d).1)
  obtain ⟨p, z, sp, mp, Q⟩ := Ck a ha y (by omega) b.Name
  obtain ⟨q, E, sq, l, R⟩ := Ck b u x (by omega) a.Name
  have m : ∀ c ∈ x, c ∈ p := fun c d => (mp c).2 (g c d)
  have r : ∀ c ∈ y, c ∈ q := fun c d => (l c).2 (k c d)
  have O := sx.le m
  have P := sy.le r
  rw [nI, z, aA, E, aA]
  by_cases c1 : p.length = x.length ∧ q.length = y.length
  ·have e : ((if ((p.length : Int) == (x.length : Int)) then some ((q.length : Int) == (y.length : Int)) else some false) : Option Bool) = some true := by
    rw [c1.1, c1.2]; simp
   rw [e]
   simp only [aA, aM]
   obtain rfl := sx.eq sp m (by omega)
   obtain rfl := sy.eq sq r (by omega)
   exact ⟨_, _, _, rfl, sx, sy, mp, l, hm⟩
  ·have e : ((if ((p.length : Int) == (x.length : Int)) then some ((q.length : Int) == (y.length : Int)) else some false) : Option Bool) = some false := by
    by_cases c2 : p.length = x.length
    ·have M : ¬ q.length = y.length := fun h => c1 ⟨c2, h⟩
     simp [c2]; omega
    ·have : ¬ ((p.length : Int) = (x.length : Int)) := by omega
     simp [this]
   rw [e]
   simp only [aA, aB, aH]
   refine HJ a b ha u J L n p q _ sp sq (fun c d => qj r ((mp c).1 d)) (fun c d => qj m ((l c).1 d)) (fun X Y s t => ?_) (by omega)
   obtain ⟨g1, g2⟩ := hm X Y s t
   exact ⟨fun c d => s c (qj g2 ((mp c).1 d)), fun c d => t c (qj g1 ((l c).1 d))⟩
theorem Mo (a b : jX) (ha : PB a) (d : PB b) (g : a.jF.length ≤ 600000) (h : b.jF.length ≤ 600000) : ∃ x y j, sE a b = some (x, y, j) ∧ IV a b x y :=
 HJ a b ha d g h jP [] [] 0 mE.nil mE.nil (by simp) (by simp) (fun _ _ _ _ => by simp) (by rw [lj]; simp; omega)
def oJ : Formula := ⟨2, 0, pw, []⟩
def Lh (l : List kd) (d : jm) : Option Formula := (l.find? fun x => kU x.Signed.jm d).map (·.jw)
theorem Nc (n : ByteArray) (l : List kd) (k : List nf) (c : jm) : DD ⟨n, l, k⟩ c ↔ c ∈ l.map (·.Signed.jm) := by
 unfold DD; rw [bF]
theorem M4 (n : ByteArray) (l : List kd) (c : jm) : oW ⟨n, l, []⟩ c = match Lh l c with | none => (E4, 42) | some r => BF r [] := by
 unfold oW yU Lh xR
 simp only
 cases l.find? (fun x => kU x.Signed.jm c) <;> rfl
theorem Po : BF oJ [] = (oJ, 0) := by
 have h1 : mX oJ = true := by decide +kernel
 have d : ph oJ = oJ := by
  rw [zl]
  have a : ¬ (oJ.Op = 1) := by decide
  have b : ¬ (oJ.Op = 4) := by decide
  simp only [a, b, aH]
  rw [show oJ.Kids = [] from rfl, shapeL]
  unfold oK
  rw [nu]
  rfl
 have g : wA oJ = (oJ, 0) := by unfold wA; rw [h1, d, h1]; rfl
 unfold BF
 rw [g, oL]; rfl
structure PP (p : mM) : Prop where
 o : PG p.jq
 c : PG p.Client
 lo : p.jq.jF.length ≤ 600000
 lc : p.Client.jF.length ≤ 600000
 f : jV p.Formula ≤ 10000000
def NK : ByteArray := ⟨#[111, 119, 110]⟩
def Ov : ByteArray := ⟨#[99, 108, 105]⟩
def sY : jl := ⟨⟨#[120]⟩, ⟨#[121]⟩⟩
def sc : jm := ⟨1, sY, Ov, ⟨zS, zS⟩, ⟨zS, zS⟩, zS⟩
def tg (r : jl) : Formula := ⟨1, 0, r, []⟩
def Hr (c : jm) (f : Formula) : kd := ⟨⟨c, List.replicate 8 0⟩, f⟩
def sC (f : Formula) : jX := ⟨Ov, [Hr sc f], []⟩
theorem QK : kY sc = true := by decide +kernel
theorem Kn (v : jl → Bool) (r : jl) : pz v (tg r) = v r := by rw [uB]; rfl
theorem PI (c d : jm) (f : Formula) : Lh [Hr c f] d = if kU c d then some f else none := by
 unfold Lh
 rw [fw, show (Hr c f).Signed.jm = c from rfl]
 cases kU c d <;> rfl
theorem Nh {n : ByteArray} {c d : jm} {f : Formula} : DD ⟨n, [Hr c f], []⟩ d ↔ d = c := by
 rw [Nc]; show d ∈ [c] ↔ _; simp
theorem OC {n : ByteArray} {c : jm} (a : kY c = true) (l : List jm) (peer : ByteArray) (d : jm) : nl ⟨n, [Hr c oJ], []⟩ l peer d ↔ d = c := by
 unfold nl
 rw [Nh]
 constructor
 ·exact fun h => h.1
 ·rintro rfl
  refine ⟨rfl, a, ?_⟩
  unfold Mg
  rw [M4, PI, aZ (ns.2 rfl)]
  simp only [Po]
  unfold nv
  rw [show mX oJ = true by decide +kernel, uB]
  rfl
theorem Q5 {c : jm} (a : kY c = true) (hk : c.Kind = 1) {l : List jm} (h : c ∈ l) : vD l c.km c.Head = true := by
 rw [B4]
 exact .mem c (cK.2 ⟨h, a⟩) hk
theorem Qw (peer : ByteArray) (r : jl) : vD [] peer r = false := by
 rw [← eH, B4]
 intro h
 obtain ⟨c, a, _⟩ := h.head
 cases a
end Go.Proofs.YtjjjihkifgdhgaaGreat
