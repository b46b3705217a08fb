/- a part of a proof of LintFinds -/
import Derived.Test.YtjjjihkifgdhgaaGreatDoorDL3Mj
import Derived.Test.YtjjjihkifgdhgaaGreatDoorRtVj
set_option linter.all false
namespace Go.Proofs.YtjjjihkifgdhgaaGreatDoor
open Go.IntKind renaming wrap → wi0
open Go.RowKit
section
variable {α : Type}
structure SWO (lt : α → α → Bool) : Prop where
 Pc : ∀ x, lt x x = false
 tr : ∀ x y z, lt x y = true → lt y z = true → lt x z = true
 MY : ∀ x y z, lt x z = true → lt x y = true ∨ lt y z = true
variable {lt : α → α → Bool}
theorem SWO.asym (h : SWO lt) {x y : α} (a : lt x y = true) : lt y x = false := by
 cases e : lt y x
 ·rfl
 ·have := h.tr _ _ _ a e; rw [h.Pc] at this; cases this
def tl (lt : α → α → Bool) (p q : α × Nat) : Prop := lt p.1 q.1 = true ∨ (lt q.1 p.1 = false ∧ p.2 < q.2)
theorem CS (h : SWO lt) {p q r : α × Nat} (a : tl lt p q) (b : tl lt q r) : tl lt p r := by
 unfold tl at *
 rcases a with a | ⟨a, a2⟩ <;> rcases b with b | ⟨b, d⟩
 ·exact .inl (h.tr _ _ _ a b)
 ·rcases h.MY _ r.1 _ a with c | c
  ·exact .inl c
  ·rw [b] at c; cases c
 ·rcases h.MY _ p.1 _ b with c | c
  ·rw [a] at c; cases c
  ·exact .inl c
 ·refine .inr ⟨?_, by omega⟩
  cases e : lt r.1 p.1
  ·rfl
  ·rcases h.MY _ q.1 _ e with c | c
   ·rw [b] at c; cases c
   ·rw [a] at c; cases c
theorem PN (h : SWO lt) {p q : α × Nat} (a : tl lt p q) (b : tl lt q p) : False := by
 have c := CS h a b
 rcases c with c | ⟨_, c⟩
 ·rw [h.Pc] at c; cases c
 ·omega
abbrev nY (lt : α → α → Bool) (t : List (α × Nat)) : Prop := t.Pairwise (tl lt)
theorem GI (h : SWO lt) : ∀ {t u : List (α × Nat)}, nY lt t → nY lt u → t.Perm u → t = u
 | [], u, _, _, hp => by rw [List.nil_perm] at hp; exact hp.symm
 | p :: t, [], _, _, hp => by simp at hp
 | p :: t, q :: u, h1, d, hp => by
  have e : p = q := by
   rcases aQ.1 (hp.mem_iff.1 (.head _)) with e | g
   ·exact e
   ·rcases aQ.1 (hp.mem_iff.2 (.head _)) with e | b
    ·exact e.symm
    ·exact (PN h ((cJ.1 h1).1 _ b) ((cJ.1 d).1 _ g)).elim
  subst e
  rw [GI h (cJ.1 h1).2 (cJ.1 d).2 (List.Perm.cons_inv hp)]
def A8 (lt : α → α → Bool) (l : List α) (k : α) : List α := l.filter (fun x => !lt k x) ++ k :: l.filter (fun x => lt k x)
def J2 (lt : α → α → Bool) (l : List α) : List α := l.foldl (A8 lt) []
def FK (lt : α → α → Bool) (t : List (α × Nat)) (k : α × Nat) : List (α × Nat) := t.filter (fun x => !lt k.1 x.1) ++ k :: t.filter (fun x => lt k.1 x.1)
theorem On (t : List (α × Nat)) (k : α × Nat) : (FK lt t k).map (·.1) = A8 lt (t.map (·.1)) k.1 := by
 simp [FK, A8, List.filter_map, fB]
theorem NY (t : List (α × Nat)) (k : α × Nat) : (FK lt t k).Perm (t ++ [k]) := by
 unfold FK
 refine List.perm_middle.trans ?_
 refine (List.Perm.cons _ ?_).trans (fH k t).symm
 have := List.filter_append_perm (fun x : α × Nat => !lt k.1 x.1) t
 simpa using this
theorem O5 (h : SWO lt) {t : List (α × Nat)} {k : α × Nat} (j : nY lt t) (hk : ∀ x ∈ t, x.2 < k.2) : nY lt (FK lt t k) := by
 unfold FK nY
 rw [cV, cJ]
 refine ⟨j.filter _, ⟨fun x d => ?_, j.filter _⟩, fun x d y g => ?_⟩
 ·exact .inl (cZ.1 d).2
 ·obtain ⟨h1, i⟩ := cZ.1 d
  simp only [fE, ] at i
  have b : tl lt x k := .inr ⟨i, hk x h1⟩
  rcases aQ.1 g with rfl | g
  ·exact b
  ·exact CS h b (.inl (cZ.1 g).2)
theorem Sk (h : SWO lt) (l : List α) : ∃ t, nY lt t ∧ t.Perm l.zipIdx ∧ t.map (·.1) = J2 lt l := by
 suffices H : ∀ (l r : List α) (t : List (α × Nat)), nY lt t → t.Perm r.zipIdx → ∃ u, nY lt u ∧ u.Perm (r ++ l).zipIdx ∧ u.map (·.1) = l.foldl (A8 lt) (t.map (·.1)) by
  obtain ⟨u, h1, d, i⟩ := H l [] [] .nil (by simp)
  exact ⟨u, h1, by simpa using d, i⟩
 intro l
 induction l with
 | nil => intro r t h1 d; exact ⟨t, h1, by simpa using d, rfl⟩
 | cons k l ih =>
  intro r t h1 d
  obtain ⟨u, g, a2, a3⟩ := ih (r ++ [k]) (FK lt t (k, r.length)) (O5 h h1 (fun x j => by
   obtain ⟨a, b⟩ := x
   have := List.snd_lt_of_mem_zipIdx (d.mem_iff.1 j)
   simpa using this)) ((NY t _).trans (by rw [List.zipIdx_append]; simpa using d.append_right _))
  refine ⟨u, g, by simpa using a2, ?_⟩
  rw [a3, On]
  rfl
theorem Qk (h : SWO lt) {l : List α} {t : List (α × Nat)} (h1 : nY lt t) (d : t.Perm l.zipIdx) : t.map (·.1) = J2 lt l := by
 obtain ⟨u, b, a2, a3⟩ := Sk h l
 rw [← a3, GI h h1 b (d.trans a2.symm)]
end
section
variable {α : Type} {lt : α → α → Bool}
abbrev Lk (lt : α → α → Bool) (A B : List (α × Nat)) : Prop := ∀ A' a b B', A = A' ++ [a] → B = b :: B' → tl lt a b
theorem zJ (h : SWO lt) {A B : List (α × Nat)} (m : nY lt A) (n : nY lt B) (l : Lk lt A B) : ∀ a ∈ A, ∀ b ∈ B, tl lt a b := by
 intro a ha b d
 rcases du A with rfl | ⟨A', z, rfl⟩
 ·cases ha
 cases B with
 | nil => cases d
 | cons y B' =>
  have h1 : tl lt z y := l A' z y B' (by simp) rfl
  have g : a = z ∨ tl lt a z := by
   simp only [dU, aU, bV] at ha
   rcases ha with ha | ha
   ·refine .inr ?_
    simp only [dU, nY, cV] at m
    exact m.2.2 a ha z (by simp)
   ·exact .inl ha
  have i : b = y ∨ tl lt y b := by
   rcases aQ.1 d with d | d
   ·exact .inl d
   ·exact .inr ((cJ.1 n).1 b d)
  have j : tl lt a y := by
   rcases g with rfl | g
   ·exact h1
   ·exact CS h g h1
  rcases i with rfl | i
  ·exact j
  ·exact CS h j i
theorem IZ (h : SWO lt) {A B : List (α × Nat)} (b : nY lt A) (d : nY lt B) (l : Lk lt A B) : nY lt (A ++ B) :=
 cV.2 ⟨b, d, zJ h b d l⟩
theorem nY.left {A B : List (α × Nat)} (h : nY lt (A ++ B)) : nY lt A := (cV.1 h).1
theorem nY.right {A B : List (α × Nat)} (h : nY lt (A ++ B)) : nY lt B := (cV.1 h).2.1
theorem nY.two {A B : List (α × Nat)} (h : nY lt (A ++ B)) : ∀ a ∈ A, ∀ b ∈ B, tl lt a b := (cV.1 h).2.2
theorem Hx (h : SWO lt) {A B : List (α × Nat)} {x : α × Nat} (g : nY lt (A ++ B)) (j : Lk lt A [x]) (l : Lk lt [x] B) : nY lt (A ++ x :: B) := by
 have h1 := zJ h g.left (gi _ x) j
 have i := zJ h (gi _ x) g.right l
 refine cV.2 ⟨g.left, cJ.2 ⟨fun b d => i x (by simp) b d, g.right⟩, fun a ha b d => ?_⟩
 rcases aQ.1 d with rfl | d
 ·exact h1 a ha _ (by simp)
 ·exact g.two a ha b d
theorem Qq (h : SWO lt) {A1 A2 B1 B2 C1 C2 : List (α × Nat)} (g : nY lt (A1 ++ A2)) (i : nY lt (B1 ++ B2)) (l : Lk lt A1 B2) (m : Lk lt B1 A2) (n : C1.Perm (A1 ++ B1)) (p : C2.Perm (A2 ++ B2)) (h1 : nY lt C1) (j : nY lt C2) : nY lt (C1 ++ C2) := by
 have x1 := zJ h g.left i.right l
 have x2 := zJ h i.left g.right m
 refine cV.2 ⟨h1, j, fun a ha b d => ?_⟩
 rcases aU.1 (n.mem_iff.1 ha) with ha | ha <;> rcases aU.1 (p.mem_iff.1 d) with d | d
 ·exact g.two a ha b d
 ·exact x1 a ha b d
 ·exact x2 a ha b d
 ·exact i.two a ha b d
end
section
variable {α : Type}
theorem EM (p q : List α) (x y : α) : (p ++ x :: q).set p.length y = p ++ y :: q := by simp
theorem J7 (p q : List α) (x y : α) (n : Nat) (h : n = p.length) : (p ++ x :: q).set n y = p ++ y :: q := by subst h; simp
theorem FE (p m q : List α) (x y : α) : ((p ++ x :: (m ++ y :: q)).set p.length y).set (p.length + 1 + m.length) x = p ++ y :: (m ++ x :: q) := by
 rw [EM]
 have : p ++ y :: (m ++ y :: q) = (p ++ y :: m) ++ y :: q := by simp
 rw [this, show p.length + 1 + m.length = (p ++ y :: m).length by simp; omega, EM]
 simp
theorem MU (p m q : List α) (x y : α) : ((p ++ x :: (m ++ y :: q)).set (p.length + 1 + m.length) x).set p.length y = p ++ y :: (m ++ x :: q) := by
 rw [List.set_comm _ _ (by omega), FE]
theorem vW {l : List α} {n : Nat} (h : n ≤ l.length) : ∃ a b, l = a ++ b ∧ a.length = n := ⟨l.take n, l.drop n, (gB n l).symm, by simp [h]⟩
end
theorem Dw {c x : Bool} : (if c = true then some x else some false : Option Bool) = some (c && x) := by cases c <;> rfl
theorem Rh {c x : Bool} : (if c = true then some true else some x : Option Bool) = some (c || x) := by cases c <;> rfl
theorem ol {α : Type} (x : Option α) : (x.bind fun y => some y) = x := by cases x <;> rfl
theorem kA {x : Int} (b : -9223372036854775808 ≤ x) (h1 : x ≤ 9223372036854775807) : wi0 .i64 x = x := IntWalk.i64_in _ (by omega)
theorem mL {α : Type} (A : List α) (x : α) (B : List α) (i : Int) (h : i = (A.length : Int)) : lB (A ++ x :: B) i = some x := by
 subst h; rw [EP]; simp
theorem ml : jY = 18446744073709551615 + 1 := by rw [wM]
def Dg {α : Type} (f1 : α → Option Bool) (z : α) : Nat → List α → Int → Int → Option (List α)
 | 0, _, _, _ => none
 | n + 1, l, i, j => if decide (j < (l.length : Int)) then
   ((lB l j).bind fun x => (f1 x).bind fun r => if (!r) then (lB l i).bind fun _ => some (l.set (Int.toNat i) x, wi0 .i64 (i + 1)) else some (l, i) : Option (List α × Int)).bind fun (d, b) => Dg f1 z n d b (wi0 .i64 (j + 1))
  else (qW (decide (0 ≤ i) && decide (i ≤ (l.length : Int)))).bind fun _ => (qW (decide (0 ≤ i) && decide (i ≤ ((ou l (Int.toNat i) z).length : Int)))).bind fun _ => some ((ou l (Int.toNat i) z).take (Int.toNat i))
theorem DP {a b : Int} (d : 0 ≤ a) (h1 : a ≤ b) : qW (decide (0 ≤ a) && decide (a ≤ b)) = some () := by simp [qW, d, h1]
theorem JE {α : Type} (f1 : α → Option Bool) (p : α → Bool) (z : α) : ∀ (rest out mid : List α) (n : Nat), rest.length < n → (out ++ mid ++ rest).length < 4611686018427387904 → mid ≠ [] → (∀ x ∈ rest, f1 x = some (p x)) →
  Dg f1 z n (out ++ mid ++ rest) (out.length : Int) ((out.length + mid.length : Nat) : Int) = some (out ++ rest.filter fun x => !p x)
 | [], out, mid, 0, h, _, _, _ => by simp at h
 | [], out, mid, n + 1, _, d, hm, _ => by
  rw [Dg, bo (by simp)]
  have h1 : out.length ≤ (out ++ mid ++ []).length := by simp
  rw [DP (by omega) (by omega)]
  simp only [aA]
  rw [DP (by omega) (by rw [vq _ _ _ (by simpa using h1)]; omega)]
  simp only [aA, dJ]
  rw [FA _ _ _ h1]
  simp
 | x :: rest, out, mid, 0, h, _, _, _ => by simp at h
 | x :: rest, out, mid, n + 1, h, d, hm, g => by
  have hlen : (out ++ mid ++ x :: rest).length = out.length + mid.length + rest.length + 1 := by simp; omega
  rw [hlen] at d
  rw [Dg, bB (by rw [hlen]; simp; omega)]
  rw [mL (out ++ mid) x rest _ (by simp)]
  simp only [aA, g x (by simp)]
  rw [kA (x := ((out.length + mid.length : Nat) : Int) + 1) (by omega) (by omega)]
  have ih := JE f1 p z rest
  cases hp : p x with
  | true =>
   simp only [cC, aB, aJ, aA]
   have := ih out (mid ++ [x]) n (by simp at h; omega) (by simp; omega) (by simp) (fun y i => g y (by simp [i]))
   simp only [aN, bP, bE, aF, aI, bR] at this ⊢
   rw [show ((out.length + mid.length : Nat) : Int) + 1 = ((out.length + (mid.length + (0 + 1)) : Nat) : Int) by omega, this]
   simp [hp]
  | false =>
   obtain ⟨m, b, rfl⟩ : ∃ m b, mid = m :: b := by cases mid with
    | nil => exact absurd rfl hm
    | cons m b => exact ⟨m, b, rfl⟩
   simp only [cN, aO]
   rw [aN out (m :: b) (x :: rest), bP]
   rw [mL out m (b ++ x :: rest) _ rfl]
   simp only [aA]
   rw [kA (x := (out.length : Int) + 1) (by omega) (by simp at d; omega)]
   have := ih (out ++ [x]) (b ++ [x]) n (by simp at h; omega) (by simp at d ⊢; omega) (by simp) (fun y i => g y (by simp [i]))
   simp only [aN, bP, bE, aF, aI, bR] at this
   have j : (out ++ m :: (b ++ x :: rest)).set (Int.toNat (out.length : Int)) x = out ++ x :: (b ++ x :: rest) := by
    rw [dJ, List.set_append_right _ _ (aW _)]; simp
   rw [j]
   simp only [aI] at d ⊢
   rw [show (out.length : Int) + 1 = ((out.length + (0 + 1) : Nat) : Int) by omega, show ((out.length + (b.length + 1) : Nat) : Int) + 1 = ((out.length + (0 + 1) + (b.length + (0 + 1)) : Nat) : Int) by omega, this]
   simp [hp]
def yl {α : Type} (f1 : α → Option Bool) : List α → Nat → Option Int
 | [], _ => some (-1)
 | x :: xs, i => (f1 x).bind fun r => if r then some (i : Int) else yl f1 xs (i + 1)
theorem AU {α : Type} (f1 : α → Option Bool) (p : α → Bool) : ∀ (l : List α) (i : Nat), (∀ x ∈ l, f1 x = some (p x)) →
  (yl f1 l i = some (-1) ∧ ∀ x ∈ l, p x = false) ∨ ∃ A x B, l = A ++ x :: B ∧ (∀ y ∈ A, p y = false) ∧ p x = true ∧ yl f1 l i = some ((i + A.length : Nat) : Int)
 | [], i, _ => .inl ⟨rfl, by simp⟩
 | x :: l, i, h => by
  rw [yl, h x (by simp)]
  simp only [aA]
  cases hp : p x with
  | true => exact .inr ⟨[], x, l, rfl, by simp, hp, by simp⟩
  | false =>
   simp only [aB, aJ]
   rcases AU f1 p l (i + 1) (fun y b => h y (by simp [b])) with ⟨h1, d⟩ | ⟨A, y, B, rfl, h1, d, j⟩
   ·exact .inl ⟨h1, by intro y b; rcases aQ.1 b with rfl | b; exact hp; exact d y b⟩
   ·refine .inr ⟨x :: A, y, B, rfl, ?_, d, ?_⟩
    ·intro z g; rcases aQ.1 g with rfl | g
     ·exact hp
     ·exact h1 z g
    ·rw [j]; simp; omega
def Hy {α : Type} (f1 : α → Option Bool) (z : α) (l : List α) : Option (List α) :=
 (yl f1 l 0).bind fun b => if (b == (-1)) then some l else Dg f1 z jY l b (wi0 .i64 (b + 1))
theorem Jn {α : Type} (f1 : α → Option Bool) (p : α → Bool) (z : α) (l : List α) (g : l.length < 4611686018427387904) (h : ∀ x ∈ l, f1 x = some (p x)) : Hy f1 z l = some (l.filter fun x => !p x) := by
 unfold Hy
 rcases AU f1 p l 0 h with ⟨h1, d⟩ | ⟨A, x, B, rfl, h1, d, i⟩
 ·rw [h1]
  simp only [aA, bn, aO]
  rw [fQ.2 (fun y b => by simp [d y b])]
 ·rw [i]
  simp only [aA, dX]
  rw [bo (by simp), kA (by omega) (by simp at g; omega)]
  have := JE f1 p z B A [x] jY (by rw [wM]; simp at g; omega) (by simpa using g) (by simp) (fun y b => h y (by simp [b]))
  simp only [aN, bP, bE, aI, bR] at this
  rw [show (A.length : Int) + 1 = ((A.length + (0 + 1) : Nat) : Int) by omega, this]
  have j : A.filter (fun x => !p x) = A := fQ.2 (fun y b => by simp [h1 y b])
  rw [iw, j]
  simp [d]
def mN {α : Type} (eq : α → α → Bool) : α → List α → List α
 | _, [] => []
 | p, y :: ys => if eq y p then mN eq y ys else y :: mN eq y ys
def dd {α : Type} (eq : α → α → Bool) : List α → List α
 | [] => []
 | x :: xs => x :: mN eq x xs
def Be {α : Type} (eq : α → α → Bool) (i : Int) : Nat → List α → Int → Int → Option (List α × Int)
 | 0, _, _, _ => none
 | n + 1, l, k, j => if decide (j < ((l.length - Int.toNat i : Nat) : Int)) then
   ((lB (l.drop (Int.toNat i)) j).bind fun x => (lB (l.drop (Int.toNat i)) (wi0 .i64 (j - 1))).bind fun y => if !(eq x y) then (lB (l.drop (Int.toNat i)) j).bind fun z => (lB l k).bind fun _ => some (l.set (Int.toNat k) z, wi0 .i64 (k + 1)) else some (l, k) : Option (List α × Int)).bind fun (b, k') => Be eq i n b k' (wi0 .i64 (j + 1))
  else some (l, k)
def BM {α : Type} (eq : α → α → Bool) (z : α) (l : List α) : Nat → Int → Option (List α)
 | 0, _ => none
 | n + 1, i => if decide (i < (l.length : Int)) then (lB l i).bind fun x => (lB l (wi0 .i64 (i - 1))).bind fun y => if eq x y then
    (qW (decide (0 ≤ i) && decide (i ≤ (l.length : Int)))).bind fun _ => (Be eq i jY l i 1).bind fun (b, k) => (qW (decide (0 ≤ k) && decide (k ≤ (b.length : Int)))).bind fun _ => (qW (decide (0 ≤ k) && decide (k ≤ ((ou b (Int.toNat k) z).length : Int)))).bind fun _ => some ((ou b (Int.toNat k) z).take (Int.toNat k))
   else BM eq z l n (wi0 .i64 (i + 1))
  else some l
def Jt {α : Type} (eq : α → α → Bool) (z : α) (l : List α) : Option (List α) := if decide ((l.length : Int) < 2) then some l else BM eq z l jY 1
theorem IU {α : Type} (l : List α) (i : Nat) (j : Int) (b : 0 ≤ j) : lB (l.drop i) j = lB l ((i : Int) + j) := by
 obtain ⟨m, rfl⟩ : ∃ m : Nat, j = m := ⟨j.toNat, by omega⟩
 rw [show (i : Int) + (m : Int) = ((i + m : Nat) : Int) by omega, EP, EP, dW]
theorem F6 {α : Type} (eq : α → α → Bool) (i : Nat) : ∀ (rest out mid : List α) (p : α) (n : Nat), rest.length < n → (out ++ (mid ++ [p]) ++ rest).length < 4611686018427387904 → 1 ≤ i → i ≤ out.length →
  ∃ d, Be eq (i : Int) n (out ++ (mid ++ [p]) ++ rest) (out.length : Int) ((out.length + mid.length + 1 - i : Nat) : Int) = some (d, ((out ++ mN eq p rest).length : Int)) ∧ d.take (out ++ mN eq p rest).length = out ++ mN eq p rest ∧ (out ++ mN eq p rest).length ≤ d.length
 | [], out, mid, p, 0, h, _, _, _ => by simp at h
 | [], out, mid, p, n + 1, h, r, h1, q => by
  rw [Be, bo (by simp; omega)]
  exact ⟨out ++ (mid ++ [p]) ++ [], by simp [mN], by simp [mN], by simp [mN]⟩
 | x :: rest, out, mid, p, 0, h, _, _, _ => by simp at h
 | x :: rest, out, mid, p, n + 1, h, r, h1, q => by
  have hlen : (out ++ (mid ++ [p]) ++ x :: rest).length = out.length + mid.length + rest.length + 2 := by simp; omega
  rw [hlen] at r
  rw [Be, bB (by rw [hlen]; simp; omega)]
  rw [dJ, IU _ _ _ (by omega), mL (out ++ (mid ++ [p])) x rest _ (by simp; omega)]
  simp only [aA]
  rw [kA (x := ((out.length + mid.length + 1 - i : Nat) : Int) - 1) (by omega) (by omega), IU _ _ _ (by omega)]
  rw [show out ++ (mid ++ [p]) ++ x :: rest = (out ++ mid) ++ p :: (x :: rest) by simp]
  rw [mL (out ++ mid) p (x :: rest) _ (by simp; omega)]
  simp only [aA]
  rw [kA (x := ((out.length + mid.length + 1 - i : Nat) : Int) + 1) (by omega) (by omega)]
  cases hp : eq x p with
  | true =>
   simp only [cC, aB, aJ, aA]
   obtain ⟨d, g, j, l⟩ := F6 eq i rest out (mid ++ [p]) x n (by simp at h; omega) (by simp; omega) h1 q
   refine ⟨d, ?_, by rw [mN, hp]; exact j, by rw [mN, hp]; exact l⟩
   rw [mN, hp, bB rfl, ← g]
   congr 1
   ·simp
   ·simp; omega
  | false =>
   simp only [cN, aO]
   obtain ⟨m, b, hm⟩ : ∃ m b, mid ++ [p] = m :: b := by cases mid with
    | nil => exact ⟨p, [], rfl⟩
    | cons m b => exact ⟨m, b ++ [p], rfl⟩
   have t : b.length = mid.length := by have := bD List.length hm; simp at this; omega
   rw [show (out ++ mid) ++ p :: (x :: rest) = out ++ m :: (b ++ x :: rest) by rw [← bP, ← hm]; simp]
   rw [mL out m (b ++ x :: rest) _ rfl]
   simp only [aA]
   rw [kA (x := (out.length : Int) + 1) (by omega) (by omega)]
   have u : (out ++ m :: (b ++ x :: rest)).set (Int.toNat (out.length : Int)) x = (out ++ [x]) ++ (b ++ [x]) ++ rest := by
    rw [dJ, List.set_append_right _ _ (aW _)]; simp
   rw [u]
   obtain ⟨d, g, j, l⟩ := F6 eq i rest (out ++ [x]) b x n (by simp at h; omega) (by simp; omega) h1 (by simp; omega)
   refine ⟨d, ?_, ?_, ?_⟩
   ·rw [mN, hp, bo (by decide)]
    have s : ((out ++ x :: mN eq x rest).length : Int) = ((out ++ [x] ++ mN eq x rest).length : Int) := by simp
    rw [s, ← g]
    congr 1
    ·simp
    ·simp; omega
   ·rw [mN, hp, bo (by decide)]; simpa using j
   ·rw [mN, hp, bo (by decide)]; simpa using l
theorem J4 {α : Type} (eq : α → α → Bool) (z : α) : ∀ (rest pre : List α) (p : α) (n : Nat), rest.length < n → (pre ++ p :: rest).length < 4611686018427387904 →
  BM eq z (pre ++ p :: rest) n ((pre.length + 1 : Nat) : Int) = some (pre ++ p :: mN eq p rest)
 | [], pre, p, 0, h, _ => by simp at h
 | [], pre, p, n + 1, h, j => by rw [BM, bo (by simp)]; simp [mN]
 | x :: rest, pre, p, 0, h, _ => by simp at h
 | x :: rest, pre, p, n + 1, h, j => by
  have hlen : (pre ++ p :: x :: rest).length = pre.length + rest.length + 2 := by simp; omega
  rw [hlen] at j
  rw [BM, bB (by rw [hlen]; simp; omega)]
  rw [show pre ++ p :: x :: rest = (pre ++ [p]) ++ x :: rest by simp, mL (pre ++ [p]) x rest _ (by simp)]
  simp only [aA]
  rw [kA (x := ((pre.length + 1 : Nat) : Int) - 1) (by omega) (by omega)]
  rw [show (pre ++ [p]) ++ x :: rest = pre ++ p :: (x :: rest) by simp, mL pre p (x :: rest) _ (by omega)]
  simp only [aA]
  cases hp : eq x p with
  | true =>
   simp only [aO]
   rw [DP (by omega) (by rw [hlen]; omega)]
   simp only [aA]
   obtain ⟨l, b, i, g⟩ := F6 eq (pre.length + 1) rest (pre ++ [p]) [] x jY (by rw [wM]; omega) (by simp; omega) (by omega) (by simp)
   simp only [aN, bP, bE, aF, aI, bR] at b i g
   rw [show (pre.length + (0 + 1) + 0 + 1 - (pre.length + 1) : Nat) = 1 by omega] at b
   rw [show ((pre.length + 1 : Nat) : Int) = ((pre.length + (0 + 1) : Nat) : Int) by omega] at *
   have d : Be eq ((pre.length + (0 + 1) : Nat) : Int) jY (pre ++ p :: x :: rest) ((pre.length + (0 + 1) : Nat) : Int) 1 = _ := b
   rw [d]
   simp only [aA]
   rw [DP (by omega) (by omega)]
   simp only [aA, dJ]
   rw [DP (by omega) (by rw [vq _ _ _ g]; omega)]
   simp only [aA]
   rw [FA _ _ _ g, i, mN, hp]
   simp
  | false =>
   simp only [aB, aJ]
   rw [kA (x := ((pre.length + 1 : Nat) : Int) + 1) (by omega) (by omega)]
   have := J4 eq z rest (pre ++ [p]) x n (by simp at h; omega) (by simp; omega)
   simp only [aN, bP, bE, aF, aI, bR] at this
   rw [show ((pre.length + 1 : Nat) : Int) + 1 = ((pre.length + (0 + 1) + 1 : Nat) : Int) by omega, this, mN, hp]
   simp
theorem Kd {α : Type} (eq : α → α → Bool) (z : α) (l : List α) (b : l.length < 4611686018427387904) : Jt eq z l = some (dd eq l) := by
 unfold Jt
 cases l with
 | nil => rfl
 | cons x xs =>
  cases xs with
  | nil => simp [dd, mN]
  | cons y ys =>
   rw [bo (by simp; omega)]
   have := J4 eq z (y :: ys) [] x jY (by rw [wM]; simp at b ⊢; omega) (by simpa using b)
   simpa [dd] using this
structure zY {α : Type} (lt : α → α → Prop) (P : α → Prop) : Prop where
 irrefl : ∀ x, P x → ¬ lt x x
 trans : ∀ x y z, P x → P y → P z → lt x y → lt y z → lt x z
 total : ∀ x y, P x → P y → lt x y ∨ x = y ∨ lt y x
def vS {α : Type} (lt : α → α → Prop) (P : α → Prop) (l out : List α) : Prop := out.Pairwise lt ∧ ∀ x, x ∈ out ↔ x ∈ l ∧ P x
theorem vS.unique {α : Type} {lt : α → α → Prop} {P : α → Prop} (H : zY lt P) : ∀ {l a b : List α}, vS lt P l a → vS lt P l b → a = b := by
 have key : ∀ a b : List α, (∀ x ∈ a, P x) → a.Pairwise lt → b.Pairwise lt → (∀ x, x ∈ a ↔ x ∈ b) → a = b := by
  intro a
  induction a with
  | nil => intro b _ _ _ hm; cases b with
   | nil => rfl
   | cons y ys => exact absurd ((hm y).2 (by simp)) (by simp)
  | cons x xs ih =>
   intro b p ha m hm
   cases b with
   | nil => exact absurd ((hm x).1 (by simp)) (by simp)
   | cons y ys =>
    have q : P y := p y ((hm y).2 (by simp))
    have d : P x := p x (by simp)
    have g := cJ.1 ha
    have i := cJ.1 m
    have r : x = y := by
     rcases aQ.1 ((hm x).1 (by simp)) with h | h
     ·exact h
     ·rcases aQ.1 ((hm y).2 (by simp)) with n | n
      ·exact n.symm
      ·exact absurd (H.trans x y x d q d (g.1 y n) (i.1 x h)) (H.irrefl x d)
    subst r
    congr 1
    refine ih ys (fun z j => p z (by simp [j])) g.2 i.2 (fun z => ?_)
    constructor
    ·intro j
     rcases aQ.1 ((hm z).1 (by simp [j])) with h | h
     ·subst h; exact absurd (g.1 z j) (H.irrefl z d)
     ·exact h
    ·intro j
     rcases aQ.1 ((hm z).2 (by simp [j])) with h | h
     ·subst h; exact absurd (i.1 z j) (H.irrefl z d)
     ·exact h
 intro l a b ha m
 exact key a b (fun x s => ((ha.2 x).1 s).2) ha.1 m.1 (fun x => (ha.2 x).trans (m.2 x).symm)
theorem CZ {α : Type} {eq : α → α → Bool} (he : ∀ x y, eq x y = true ↔ x = y) : ∀ (l : List α) (p x : α), x ∈ p :: mN eq p l ↔ x ∈ p :: l
 | [], p, x => by simp [mN]
 | y :: l, p, x => by
  rw [mN]
  split
  ·rename_i h
   have := (he y p).1 h
   subst this
   rw [CZ he l y x]; simp
  ·have := CZ he l y x
   simp only [aQ] at this ⊢
   rw [this]
theorem Jr {α : Type} {eq : α → α → Bool} (he : ∀ x y, eq x y = true ↔ x = y) (l : List α) (x : α) : x ∈ dd eq l ↔ x ∈ l := by
 cases l with
 | nil => simp [dd]
 | cons y l => exact CZ he l y x
theorem BN {α : Type} {eq : α → α → Bool} {lt : α → α → Prop} {P : α → Prop} (he : ∀ x y, eq x y = true ↔ x = y) (H : zY lt P) : ∀ (l : List α) (p : α), (∀ x ∈ p :: l, P x) → (p :: l).Pairwise (fun a b => ¬ lt b a) → (p :: mN eq p l).Pairwise lt
 | [], p, _, _ => by simp [mN]
 | y :: l, p, d, r => by
  have h1 := cJ.1 r
  rw [mN]
  split
  ·rename_i h
   have := (he y p).1 h
   subst this
   exact BN he H l y (fun x j => d x (eW _ j)) h1.2
  ·rename_i h
   have ih := BN he H l y (fun x j => d x (eW _ j)) h1.2
   refine cJ.2 ⟨fun z q => ?_, ih⟩
   have i : lt p y := by
    rcases H.total p y (d p (by simp)) (d y (by simp)) with g | g | g
    ·exact g
    ·exact absurd ((he y p).2 g.symm) h
    ·exact absurd g (h1.1 y (by simp))
   rcases aQ.1 q with rfl | m
   ·exact i
   ·have n : z ∈ y :: l := (CZ he l y z).1 q
    exact H.trans p y z (d p (by simp)) (d y (by simp)) (d z (eW _ n)) i ((cJ.1 ih).1 z m)
theorem MR {α : Type} {eq : α → α → Bool} {lt : α → α → Prop} {P : α → Prop} (he : ∀ x y, eq x y = true ↔ x = y) (H : zY lt P) (l : List α) (d : ∀ x ∈ l, P x) (g : l.Pairwise (fun a b => ¬ lt b a)) : (dd eq l).Pairwise lt := by
 cases l with
 | nil => simp [dd]
 | cons y l => exact BN he H l y d g
theorem Ip {α : Type} {le : α → α → Bool} {P : α → Prop} (i : ∀ a b c, P a → P b → P c → le a b = true → le b c = true → le a c = true) (h : ∀ a b, P a → P b → (le a b || le b a) = true) (l : List α) (d : ∀ x ∈ l, P x) :
  (l.mergeSort le).Pairwise (fun a b => le a b = true) := by
 have e : l = (l.attachWith P d).map Subtype.val := by simp
 have hm : ((l.attachWith P d).mergeSort fun a b => le a.1 b.1).map Subtype.val = l.mergeSort le := by
  conv => rhs; rw [e]
  exact ie (fun a _ b _ => rfl)
 rw [← hm, fC]
 exact gh (le := fun (a b : {x // P x}) => le a.1 b.1) (fun a b c h1 g => i a.1 b.1 c.1 a.2 b.2 c.2 h1 g) (fun a b => h a.1 b.1 a.2 b.2) _
theorem Fz {α : Type} {eq : α → α → Bool} {lt : α → α → Prop} {P : α → Prop} {cf : α × α → Option Int} {l : List α} (he : ∀ x y, eq x y = true ↔ x = y) (H : zY lt P) (g : ∀ x ∈ l, P x) (E : l.length < 4611686018427387904) (A : ∀ x y, P x → P y → ∃ c, cf (x, y) = some c ∧ (c < 0 ↔ lt x y)) : ∃ s, zt cf l = some s ∧ s.length = l.length ∧ vS lt P l (dd eq s) := by
 have j : ∀ x y, P x → P y → (tP cf x y = true ↔ lt x y) := fun x y i p => by
  obtain ⟨c, h1, n⟩ := A x y i p
  unfold tP
  rw [h1]
  simpa using n
 have d : ∀ x y, P x → P y → (tP cf x y = false ↔ ¬ lt x y) := fun x y i p => by
  rw [← j x y i p]; simp
 have ok : Ea cf l := by
  refine ⟨fun x i y p => ?_, fun x i => ?_, fun x i y p z v h1 n => ?_, fun x i y p h1 n => ?_, E⟩
  ·obtain ⟨c, h1, _⟩ := A x y (g x i) (g y p); exact ⟨c, h1⟩
  ·exact (d x x (g x i) (g x i)).2 (H.irrefl x (g x i))
  ·rw [j _ _ (g x i) (g y p)] at h1
   rw [j _ _ (g y p) (g z v)] at n
   rw [j _ _ (g x i) (g z v)]
   exact H.trans x y z (g x i) (g y p) (g z v) h1 n
  ·rw [d _ _ (g x i) (g y p)] at h1
   rw [d _ _ (g y p) (g x i)] at n
   rcases H.total x y (g x i) (g y p) with h | h | h
   ·exact absurd h h1
   ·exact h
   ·exact absurd h n
 refine ⟨_, O1 ok, by simp [sY], ?_, ?_⟩
 ·have m : ∀ x, x ∈ sY cf l ↔ x ∈ l := fun x => by simp [sY]
  refine MR he H _ (fun x i => g x ((m x).1 i)) ?_
  have := Ip (le := fun x y => !tP cf y x) (P := P) (fun a b c ha q r h1 n => ?_) (fun a b ha q => ?_) l g
  ·refine (this.imp_of_mem ?_ : _)
   intro a b ha q h
   have t : a ∈ l := (m a).1 ha
   have u : b ∈ l := (m b).1 q
   simp at h
   exact (d b a (g b u) (g a t)).1 h
  ·simp at h1 n ⊢
   rw [d _ _ q ha] at h1
   rw [d _ _ r q] at n
   rw [d _ _ r ha]
   intro w
   rcases H.total a b ha q with h | h | h
   ·exact n (H.trans c a b r ha q w h)
   ·subst h; exact n w
   ·exact h1 h
  ·simp only [fq, fE]
   rw [d _ _ q ha, d _ _ ha q]
   by_cases h : lt b a
   ·right; intro n; exact H.irrefl a ha (H.trans a b a ha q ha n h)
   ·exact .inl h
 ·intro x
  rw [Jr he]
  constructor
  ·intro i
   have : x ∈ l := by simpa [sY] using i
   exact ⟨this, g x this⟩
  ·intro i; simpa [sY] using i.1
theorem uS : ∀ a : List UInt8, Op.bytesLess a a = false
 | [] => rfl
 | x :: a => by simp [Op.bytesLess, uS a]
theorem J1 (x y : UInt8) : x < y ∨ x = y ∨ y < x := by
 rcases Nat.lt_trichotomy x.toNat y.toNat with h | h | h
 ·exact .inl h
 ·exact .inr (.inl (UInt8.toNat_inj.1 h))
 ·exact .inr (.inr h)
theorem xL : ∀ a b c : List UInt8, Op.bytesLess a b = true → Op.bytesLess b c = true → Op.bytesLess a c = true
 | [], [], c, h1, _ => by simp [Op.bytesLess] at h1
 | _ :: _, [], c, h1, _ => by simp [Op.bytesLess] at h1
 | a, _ :: _, [], _, d => by simp [Op.bytesLess] at d
 | [], b :: bs, c :: cs, _, _ => rfl
 | a :: ax, b :: bs, c :: cs, h1, d => by
  simp only [Op.bytesLess, fq, bK, aX, fZ] at h1 d ⊢
  rcases h1 with h1 | ⟨rfl, h1⟩
  ·rcases d with d | ⟨rfl, d⟩
   ·exact .inl (UInt8.lt_trans h1 d)
   ·exact .inl h1
  ·rcases d with d | ⟨rfl, d⟩
   ·exact .inl d
   ·exact .inr ⟨rfl, xL ax bs cs h1 d⟩
theorem AM : ∀ a b : List UInt8, Op.bytesLess a b = true ∨ a = b ∨ Op.bytesLess b a = true
 | [], [] => .inr (.inl rfl)
 | [], _ :: _ => .inl rfl
 | _ :: _, [] => .inr (.inr rfl)
 | a :: ax, b :: bs => by
  simp only [Op.bytesLess, fq, bK, aX, fZ, aZ]
  rcases J1 a b with h | h | h
  ·exact .inl (.inl h)
  ·subst h
   rcases AM ax bs with h | h | h
   ·exact .inl (.inr ⟨rfl, h⟩)
   ·exact .inr (.inl ⟨rfl, h⟩)
   ·exact .inr (.inr (.inr ⟨rfl, h⟩))
  ·exact .inr (.inr (.inl h))
theorem Cu : ∀ a b : List UInt8, (Lib.compareBytes a b < 0 ↔ Op.bytesLess a b = true)
 | [], [] => by simp [Lib.compareBytes, Op.bytesLess]
 | [], _ :: _ => by simp [Lib.compareBytes, Op.bytesLess]
 | _ :: _, [] => by simp [Lib.compareBytes, Op.bytesLess]
 | a :: ax, b :: bs => by
  simp only [Lib.compareBytes, Op.bytesLess, fq, bK, aX, fZ]
  by_cases h : a < b
  ·simp [h]
  ·by_cases g : b < a
   ·have : a ≠ b := by rintro rfl; exact h g
    simp [h, g, this]
   ·have : a = b := by rcases J1 a b with d | d | d; exact absurd d h; exact d; exact absurd d g
    subst this
    simp [h, Cu ax bs]
theorem F3 : ∀ a b : List UInt8, (Lib.compareBytes a b = 0 ↔ a = b)
 | [], [] => by simp [Lib.compareBytes]
 | [], _ :: _ => by simp [Lib.compareBytes]
 | _ :: _, [] => by simp [Lib.compareBytes]
 | a :: ax, b :: bs => by
  simp only [Lib.compareBytes, aZ]
  by_cases h : a < b
  ·simp only [h, aO]
   constructor
   ·intro h; cases h
   ·rintro ⟨rfl, _⟩; exact absurd h (by simp)
  ·by_cases g : b < a
   ·simp only [h, g, aO, aJ]
    constructor
    ·intro h; cases h
    ·rintro ⟨rfl, _⟩; exact absurd g (by simp)
   ·have : a = b := by rcases J1 a b with d | d | d; exact absurd d h; exact d; exact absurd d g
    subst this
    simp [h, F3 ax bs]
theorem xW (a b : ByteArray) : pH a b = Op.bytesLess a.data.toList b.data.toList := by unfold pH; rw [fa, fa]
theorem zA {a b : ByteArray} (h : a.data.toList = b.data.toList) : a = b := fR (Array.toList_inj.1 h)
theorem sG (a : ByteArray) : pH a a = false := by rw [xW, uS]
theorem zM {a b c : ByteArray} (h1 : pH a b = true) (d : pH b c = true) : pH a c = true := by rw [xW] at *; exact xL _ _ _ h1 d
theorem zD (a b : ByteArray) : pH a b = true ∨ a = b ∨ pH b a = true := by
 rw [xW, xW]
 rcases AM a.data.toList b.data.toList with h | h | h
 ·exact .inl h
 ·exact .inr (.inl (zA h))
 ·exact .inr (.inr h)
theorem Ig {a b : ByteArray} (h : pH a b = true) : pH b a = false := by
 cases d : pH b a with
 | false => rfl
 | true => have := zM h d; rw [sG] at this; cases this
theorem Pp (P : ByteArray → Prop) : zY (fun a b => pH a b = true) P :=
 ⟨fun x _ h => (by rw [sG] at h; cases h), fun x y z _ _ _ => zM, fun x y _ _ => zD x y⟩
def AZ (b : UInt8) : Bool := decide (97 ≤ b.toNat) && decide (b.toNat ≤ 122)
def CB (b : UInt8) : Bool := AZ b || (decide (48 ≤ b.toNat) && decide (b.toNat ≤ 57)) || decide (b.toNat = 45)
def nt (s : ByteArray) : Bool := decide (1 ≤ s.size) && decide (s.size ≤ 16) && (match s.data.toList with | [] => false | b :: _ => AZ b) && s.data.toList.all CB
theorem nX {s : ByteArray} (h : nt s = true) : 1 ≤ s.size ∧ s.size ≤ 16 := by
 simp only [nt, aX, bK] at h
 exact h.1.1
theorem LR : ∀ n : Nat, n < 256 → decide (wQ (⟨#[97, 98, 99, 100, 101, 102, 103, 104, 105, 106, 107, 108, 109, 110, 111, 112, 113, 114, 115, 116, 117, 118, 119, 120, 121, 122]⟩ : ByteArray) (n : Int) ≥ 0) = AZ (UInt8.ofNat n) := by decide +kernel
theorem OY : ∀ n : Nat, n < 256 → decide (wQ (⟨#[97, 98, 99, 100, 101, 102, 103, 104, 105, 106, 107, 108, 109, 110, 111, 112, 113, 114, 115, 116, 117, 118, 119, 120, 121, 122, 48, 49, 50, 51, 52, 53, 54, 55, 56, 57, 45]⟩ : ByteArray) (n : Int) < 0) = !CB (UInt8.ofNat n) := by decide +kernel
theorem wq (s : ByteArray) : s.size = s.data.toList.length := by rw [dE]; rfl
theorem Fm {s : ByteArray} (h : s.size ≤ 16) : CD s = some (my s) := by
 unfold CD; rw [bB (by unfold maxLen; omega)]
theorem Jo : ∀ l : List UInt8, uF (l.map fun b => (b.toNat : Int)) = some (l.all CB)
 | [] => rfl
 | b :: l => by
  rw [bJ, uF]
  simp only [qY, og, aA]
  have d := OY b.toNat (iy b)
  rw [d]
  simp only [iK, gF]
  cases CB b with
  | true => simp [Jo l]
  | false => simp
theorem Ic {s : ByteArray} {b : UInt8} {l : List UInt8} (h : s.data.toList = b :: l) : Aa s 0 = some b := by
 unfold Aa
 rw [bB (Int.le_refl 0)]
 have d : s.data[0]? = some b := by rw [← dT, h]; rfl
 show s[0]? = some b
 rw [← d]
 rfl
theorem yD (s : ByteArray) : rO s = some (nt s) := by
 unfold rO
 simp only [Dw, aA, ol]
 by_cases h1 : 1 ≤ s.size
 ·by_cases d : s.size ≤ 16
  ·rw [bB (by simp; omega)]
   obtain ⟨b, l, g⟩ : ∃ b l, s.data.toList = b :: l := by
    cases h : s.data.toList with
    | nil => rw [wq, h] at h1; simp at h1
    | cons b l => exact ⟨b, l, rfl⟩
   rw [Ic g]
   simp only [aA, qY, og]
   rw [LR b.toNat (iy b)]
   simp only [iK, nt, h1, d, g, cA, dK]
   cases AZ b with
   | false => simp
   | true =>
    simp only [aO, BK, Fm d, aA, my]
    rw [Jo, g]
    simp
  ·rw [bo (by simp; omega)]
   simp [nt, d]
 ·rw [bo (by simp; omega)]
  simp [nt, h1]
theorem Py {s : ByteArray} {A B : List UInt8} {b : UInt8} (h : s.data.toList = A ++ b :: B) (i : Int) (g : i = (A.length : Int)) : Aa s i = some b := by
 subst g
 unfold Aa
 rw [bB (by omega), dJ]
 have d : s.data[A.length]? = some b := by rw [← dT, h]; simp
 show s[A.length]? = some b
 rw [← d]
 rfl
theorem Eo (s : ByteArray) (y : s.size ≤ 16) : ∀ (B A : List UInt8) (n : Nat), s.data.toList = A ++ B → B.length < n → pO s n (A.length : Int) = some (B.all CB)
  | [], A, 0, _, h => by simp at h
  | [], A, n + 1, h, _ => by
    have : s.size = A.length := by rw [wq, h]; simp
    rw [pO, bo (by rw [this]; simp)]
    rfl
  | b :: B, A, 0, _, h => by simp at h
  | b :: B, A, n + 1, h, w => by
    have p : s.size = A.length + B.length + 1 := by rw [wq, h]; simp; omega
    rw [pO, bB (by rw [p]; simp; omega)]
    rw [Py h _ rfl]
    simp only [aA]
    rw [kA (x := (A.length : Int) + 1) (by omega) (by omega)]
    have ih := Eo s y B (A ++ [b]) n (by rw [h]; simp) (by simp at w; omega)
    rw [show ((A ++ [b]).length : Int) = (A.length : Int) + 1 by simp] at ih
    simp only [gF]
    have m : ∀ n : Nat, n < 256 → CB (UInt8.ofNat n) = !((decide (n < 97) || decide (n > 122)) && (decide (n < 48) || decide (n > 57)) && decide (n ≠ 45)) := by decide +kernel
    have q := m b.toNat (iy b)
    simp only [iK] at q
    rw [q]
    by_cases h1 : b.toNat < 97 <;> by_cases r : b.toNat > 122 <;> by_cases t : b.toNat < 48 <;> by_cases u : b.toNat > 57 <;> by_cases v : b.toNat = 45 <;>
      first
      | omega
      | (have d : ((b.toNat : Int) < 97) = (b.toNat < 97) := by rw [ga]; omega
         have g : ((b.toNat : Int) > 122) = (b.toNat > 122) := by rw [ga]; omega
         have i : ((b.toNat : Int) < 48) = (b.toNat < 48) := by rw [ga]; omega
         have j : ((b.toNat : Int) > 57) = (b.toNat > 57) := by rw [ga]; omega
         have l : ((b.toNat : Int) != 45) = !decide (b.toNat = 45) := by rw [bL]; simp; omega
         simp [h1, r, t, u, v, d, g, i, j, l, ih])
theorem uT (a : ByteArray) : kP a a = true := lW.2 rfl
theorem Qw : zS.size = 0 := rfl
theorem Pk {s : ByteArray} : s = zS ↔ s.size = 0 := by
 constructor
 ·rintro rfl; rfl
 ·intro h; exact zA (by rw [wq] at h; rw [ei.1 h]; rfl)
theorem xO (s : ByteArray) : qM s = some (nt s) := by
 unfold qM
 simp only [Rh, aA, ol]
 by_cases g : s.size = 0
 ·have : s = zS := Pk.2 g
  subst this
  rw [uT]
  rfl
 ·have p : kP s zS = false := by
   cases h : kP s zS with
   | false => rfl
   | true => exact absurd (Pk.1 (lW.1 h)) g
  rw [p]
  simp only [Bool.false_or]
  by_cases i : s.size ≤ 16
  ·rw [bo (by simp; omega)]
   obtain ⟨b, l, m⟩ : ∃ b l, s.data.toList = b :: l := by
    cases h : s.data.toList with
    | nil => rw [wq, h] at g; simp at g
    | cons b l => exact ⟨b, l, rfl⟩
   rw [Ic m]
   simp only [aA, Rh]
   have n := Eo s i s.data.toList [] jY rfl (by rw [wM, ← wq]; omega)
   simp only [bR] at n
   rw [show (0 : Int) = ((0 : Nat) : Int) from rfl] at *
   rw [n]
   have j : ((b.toNat : Int) < 97) = (b.toNat < 97) := by rw [ga]; omega
   have d : ((b.toNat : Int) > 122) = (b.toNat > 122) := by rw [ga]; omega
   have h1 : 1 ≤ s.size := by omega
   simp only [nt, h1, i, m, AZ, cA, dK, j, d]
   by_cases a : b.toNat < 97
   ·simp [a, show ¬ 97 ≤ b.toNat by omega]
   ·by_cases c : b.toNat > 122
    ·simp [a, c, show ¬ b.toNat ≤ 122 by omega]
    ·simp [a, c, show 97 ≤ b.toNat by omega, show b.toNat ≤ 122 by omega]
  ·rw [bB (by simp; omega)]
   simp [nt, i]
def ma (r : jq) : Bool := nt r.js && nt r.Word
theorem yn (r : jq) : pC r = some (ma r) := by
 unfold pC ma
 simp only [yD, aA]
 cases nt r.js <;> simp
theorem AW (r : jq) : si r = some (ma r) := by
 unfold si ma
 simp only [xO, aA]
 cases nt r.js <;> simp
def BA (a b : jq) : Bool := pH a.js b.js || (kP a.js b.js && pH a.Word b.Word)
theorem Bm (a b : jq) : we a b = some (BA a b) := by
 unfold we BA
 cases pH a.js b.js <;> cases kP a.js b.js <;> simp
theorem KV {a b : ByteArray} (h : a ≠ b) : kP a b = false := by
 cases d : kP a b with
 | false => rfl
 | true => exact absurd (lW.1 d) h
theorem Ay {a b : jq} : BA a b = true ↔ pH a.js b.js = true ∨ (a.js = b.js ∧ pH a.Word b.Word = true) := by
 simp [BA, lW]
theorem Sh (P : jq → Prop) : zY (fun a b => BA a b = true) P := by
 refine ⟨fun x _ h => ?_, fun x y z _ _ _ h1 d => ?_, fun x y _ _ => ?_⟩
 ·rw [Ay] at h
  simp [sG] at h
 ·rw [Ay] at *
  rcases h1 with h1 | ⟨i, h1⟩
  ·rcases d with d | ⟨g, d⟩
   ·exact .inl (zM h1 d)
   ·exact .inl (by rw [← g]; exact h1)
  ·rcases d with d | ⟨g, d⟩
   ·exact .inl (by rw [i]; exact d)
   ·exact .inr ⟨i.trans g, zM h1 d⟩
 ·simp only [Ay]
  rcases zD x.js y.js with h | h | h
  ·exact .inl (.inl h)
  ·rcases zD x.Word y.Word with d | d | d
   ·exact .inl (.inr ⟨h, d⟩)
   ·refine .inr (.inl ?_)
    cases x; cases y; simp at h d; simp [h, d]
   ·exact .inr (.inr (.inr ⟨h.symm, d⟩))
  ·exact .inr (.inr (.inl h))
theorem Af (a b : jq) : ∃ c, rp a b = some c ∧ (c < 0 ↔ BA a b = true) := by
 unfold rp
 simp only [pf, nu, aA, uy, rV]
 have h1 : ∀ a b : ByteArray, (oQ a b < 0 ↔ pH a b = true) := fun a b => by rw [xW]; exact Cu _ _
 have g : ∀ a b : ByteArray, (oQ a b = 0 ↔ a = b) := fun a b => by
  unfold oQ; rw [F3]; exact ⟨zA, fun h => by rw [h]⟩
 by_cases e : oQ a.js b.js = 0
 ·rw [bo (by simp [e])]
  have e' := (g _ _).1 e
  by_cases d : oQ a.Word b.Word = 0
  ·rw [bo (by simp [d])]
   refine ⟨0, rfl, ?_⟩
   rw [Ay, e', (g _ _).1 d]
   simp [sG]
  ·rw [bB (by simp [d])]
   refine ⟨_, rfl, ?_⟩
   rw [Ay, e', h1]
   simp [sG]
 ·rw [bB (by simp [e])]
  refine ⟨_, rfl, ?_⟩
  rw [Ay, h1]
  have : a.js ≠ b.js := fun h => e ((g _ _).2 h)
  simp [this]
def zR : jq := ⟨zS, zS⟩
theorem H7 (a b : ByteArray) : kP a b = kP b a := by rw [bL, lW, lW]; exact eq_comm
theorem ED (a b : jq) : jR a b = jR b a := by rw [bL, jS, jS]; exact eq_comm
theorem wm (a : jq) : jR a a = true := jS.2 rfl
def lT (c : jr) : Bool := ma c.Head && (
 if c.Kind == 1 then nt c.kz && jR zR c.B && jR zR c.C && kP zS c.kK
 else if c.Kind == 2 then ma c.B && kP zS c.kz && jR zR c.C && kP zS c.kK
 else if c.Kind == 3 then ma c.B && kP c.B.js c.Head.js && nt c.kK && kP zS c.kz && jR zR c.C
 else if c.Kind == 4 then ma c.B && ma c.C && BA c.B c.C && kP zS c.kz && kP zS c.kK
 else false)
theorem vQ (c : jr) : tk c = some (lT c) := by
 unfold tk lT
 simp only [yn, yD, aA]
 obtain ⟨k, hk, b⟩ := Af c.B c.C
 rw [hk]
 have d : decide (k < 0) = BA c.B c.C := by rw [bL, ← b]; simp
 simp only [aA, d]
 by_cases h1 : c.Kind = 1
 ·cases ma c.Head <;> cases nt c.kz <;> simp [h1, lu, wm, uT, zR, gx]
 ·by_cases g : c.Kind = 2
  ·cases ma c.Head <;> cases ma c.B <;> simp [g, lu, wm, uT, zR, gx]
  ·by_cases h : c.Kind = 3
   ·cases ma c.Head <;> cases ma c.B <;> cases kP c.B.js c.Head.js <;> cases nt c.kK <;> simp [h, lu, wm, uT, zR, gx]
   ·by_cases i : c.Kind = 4
    ·cases ma c.Head <;> cases ma c.B <;> cases ma c.C <;> cases BA c.B c.C <;> simp [i, lu, wm, uT, zR, gx]
    ·simp [h1, g, h, i]
theorem AQ (c : jr) : vr c = some (lT c) := by
 unfold vr lT
 simp only [AW, xO, Bm, aA]
 rw [show (⟨zS, zS⟩ : jq) = zR from rfl, ED c.B zR, ED c.C zR, H7 c.kK zS, H7 c.kz zS]
 by_cases h1 : c.Kind = 1
 ·cases ma c.Head <;> cases nt c.kz <;> cases jR zR c.B <;> cases jR zR c.C <;> simp [h1]
 ·by_cases b : c.Kind = 2
  ·cases ma c.Head <;> cases ma c.B <;> cases kP zS c.kz <;> cases jR zR c.C <;> simp [b]
  ·by_cases d : c.Kind = 3
   ·cases ma c.Head <;> cases ma c.B <;> cases kP zS c.kz <;> cases jR zR c.C <;> cases kP c.B.js c.Head.js <;> simp [d]
   ·by_cases g : c.Kind = 4
    ·cases ma c.Head <;> cases ma c.B <;> cases kP zS c.kz <;> cases kP zS c.kK <;> cases ma c.C <;> simp [g]
    ·cases ma c.Head <;> cases ma c.B <;> cases kP zS c.kz <;> simp [h1, b, d, g]
theorem lY {α : Type} {b : Nat} {l m : List α} (h : (l.length + m.length) * b ≤ 140737488355328) (d : l.length + m.length ≤ 9223372036854775807) : lX b l m = some (l ++ m) := by
 unfold lX; rw [bB ⟨h, by unfold maxLen; omega⟩]
theorem F4 {l m : List Int} (h : l.length + m.length ≤ 1000000) : lX 1 l m = some (l ++ m) := lY (by omega) (by omega)
def vP (s : ByteArray) : List Int := (s.size : Int) :: my s
def rG (r : jq) : List Int := vP r.js ++ vP r.Word
def yE (c : jr) : List Int := if c.Kind = 1 then vP c.kz else if c.Kind = 2 then rG c.B else if c.Kind = 3 then rG c.B ++ vP c.kK else rG c.B ++ rG c.C
def sI (c : jr) : List Int := c.Kind :: (rG c.Head ++ yE c)
theorem ta (s : ByteArray) : (vP s).length = s.size + 1 := by simp [vP, mU]
theorem oq {r : jq} (h : ma r = true) : (rG r).length ≤ 34 := by
 simp only [ma, aX] at h
 have h1 := nX h.1
 have b := nX h.2
 simp [rG, ta]; omega
theorem xZ {l : List Int} {n : Int} (b : 0 ≤ n) (h1 : n < 128) (d : l.length ≤ 100000) : nP l n = some (true, l ++ [n]) := by
 have hw : IntKind.u8.wrap n = n := by
  obtain ⟨k, rfl⟩ : ∃ k : Nat, n = k := ⟨n.toNat, by omega⟩
  have : ∀ k : Nat, k < 128 → IntKind.u8.wrap (k : Int) = (k : Int) := by decide +kernel
  exact this k (by omega)
 unfold nP
 rw [bo (by simp; omega), ml, pz, bo (by simp; omega), hw, F4 (by simp; omega)]
 rfl
theorem EY {l : List Int} {s : ByteArray} (h : nt s = true) (b : l.length ≤ 10000) : th l s = some (true, l ++ vP s) := by
 have h1 := nX h
 unfold th
 simp only [yD, aA, h, aO, Fm h1.2]
 unfold xb
 rw [bo (by rw [mU]; simp; omega)]
 rw [mU, xZ (by omega) (by omega) (by omega)]
 simp only [aA]
 rw [F4 (by simp [mU]; omega)]
 simp [vP]
theorem J5 {l : List Int} {r : jq} (h : ma r = true) (d : l.length ≤ 9000) : pA l r = some (true, l ++ rG r) := by
 have b := h
 simp only [ma, aX] at h
 have h1 := nX h.1
 unfold pA
 simp only [yn, aA, b, aO]
 rw [EY h.1 (by omega)]
 simp only [aA, aO]
 rw [EY h.2 (by simp [ta]; omega)]
 simp [rG]
theorem Cy {l : List Int} {r : jq} (h : ma r = true) (b : l.length ≤ 1000) : pA l r = some (true, l ++ rG r) := J5 h (by omega)
theorem BW {c : jr} (h : lT c = true) : ma c.Head = true := by
 simp only [lT, aX] at h; exact h.1
theorem om {c : jr} (h : lT c = true) :
  (c.Kind = 1 ∧ nt c.kz = true ∧ c.B = zR ∧ c.C = zR ∧ c.kK = zS) ∨
  (c.Kind = 2 ∧ ma c.B = true ∧ c.kz = zS ∧ c.C = zR ∧ c.kK = zS) ∨
  (c.Kind = 3 ∧ ma c.B = true ∧ nt c.kK = true ∧ c.B.js = c.Head.js ∧ c.kz = zS ∧ c.C = zR) ∨
  (c.Kind = 4 ∧ ma c.B = true ∧ ma c.C = true ∧ BA c.B c.C = true ∧ c.kz = zS ∧ c.kK = zS) := by
 simp only [lT, aX] at h
 obtain ⟨_, h⟩ := h
 split at h
 ·rename_i h1
  simp only [aX, jS, lW] at h
  exact .inl ⟨by simpa using h1, h.1.1.1, h.1.1.2.symm, h.1.2.symm, h.2.symm⟩
 ·split at h
  ·rename_i h1
   simp only [aX, jS, lW] at h
   exact .inr (.inl ⟨by simpa using h1, h.1.1.1, h.1.1.2.symm, h.1.2.symm, h.2.symm⟩)
  ·split at h
   ·rename_i h1
    simp only [aX, jS, lW] at h
    exact .inr (.inr (.inl ⟨by simpa using h1, h.1.1.1.1, h.1.1.2, h.1.1.1.2, h.1.2.symm, h.2.symm⟩))
   ·split at h
    ·rename_i h1
     simp only [aX, jS, lW] at h
     exact .inr (.inr (.inr ⟨by simpa using h1, h.1.1.1.1, h.1.1.1.2, h.1.1.2, h.1.2.symm, h.2.symm⟩))
    ·cases h
theorem Bt (c : jr) : wj c = some (if lT c then sI c else []) := by
 unfold wj
 rw [vQ]
 simp only [aA]
 cases h : lT c with
 | false => simp
 | true =>
  have i := BW h
  have j := oq i
  simp only [cC, aB, aJ, aO]
  have hk : 0 ≤ c.Kind ∧ c.Kind < 128 := by rcases om h with h | h | h | h <;> omega
  rw [xZ hk.1 hk.2 (by simp)]
  simp only [aA]
  rw [Cy i (by simp)]
  simp only [aA, tg, tN]
  rcases om h with ⟨k, h1, _⟩ | ⟨k, h1, _⟩ | ⟨k, h1, b, _⟩ | ⟨k, h1, b, _⟩
  ·have d := nX h1
   simp only [k, bn, aO, EY h1 (show (([] ++ [(1:Int)]) ++ rG c.Head).length ≤ 10000 by simp; omega), aA]
   rw [F4 (by simp [ta]; omega)]
   simp [sI, yE, k]
  ·have d := oq h1
   simp only [k, show ((2 : Int) == 1) = false from rfl, aB, bn, aO, aJ, Cy h1 (show (([] ++ [(2:Int)]) ++ rG c.Head).length ≤ 1000 by simp; omega), aA]
   rw [F4 (by simp; omega)]
   simp [sI, yE, k]
  ·have d := oq h1
   have g := nX b
   simp only [k, show ((3 : Int) == 1) = false from rfl, show ((3 : Int) == 2) = false from rfl, aB, bn, aO, aJ, Cy h1 (show (([] ++ [(3:Int)]) ++ rG c.Head).length ≤ 1000 by simp; omega), aA]
   rw [EY b (by simp; omega)]
   simp only [aA]
   rw [F4 (by simp [ta]; omega)]
   simp [sI, yE, k]
  ·have d := oq h1
   have g := oq b
   simp only [k, show ((4 : Int) == 1) = false from rfl, show ((4 : Int) == 2) = false from rfl, show ((4 : Int) == 3) = false from rfl, aB, bn, aO, aJ, Cy h1 (show (([] ++ [(4:Int)]) ++ rG c.Head).length ≤ 1000 by simp; omega), aA]
   rw [Cy b (by simp; omega)]
   simp only [aA]
   rw [F4 (by simp; omega)]
   simp [sI, yE, k]
def vL (l : List Int) : ByteArray := ⟨(tC l).toArray⟩
theorem ui (l : List Int) : (vL l).data.toList = tC l := rfl
theorem GX : ∀ (l : List Int) (r : ByteArray), (l.foldl (fun r n => r.push (UInt8.ofNat n.toNat)) r).data.toList = r.data.toList ++ tC l
 | [], r => by simp [tC]
 | x :: l, r => by
  rw [fU, GX l]
  show ((r.data.push _).toList) ++ _ = _
  simp [tC]
theorem PO (l : List Int) : DO l = vL l := zA (by unfold DO; rw [GX]; rfl)
theorem Kg (l : List Int) : (vL l).size = l.length := by rw [wq, ui]; simp [tC]
theorem Mi (a b : List Int) : tC (a ++ b) = tC a ++ tC b := by simp [tC]
theorem qZ (a b : List Int) (h : a.length + b.length ≤ 1000000) : pR (vL a) (vL b) = some (vL (a ++ b)) := by
 unfold pR
 rw [bo]
 ·congr 1
  refine zA ?_
  rw [ui, Mi, ← ui a, ← ui b]
  exact ByteArray.toList_data_append ▸ rfl
 ·rw [Kg, Kg]
  show ¬ (_ > (9223372036854775807 : Int))
  omega
theorem Dv (s : ByteArray) : vL (my s) = s := zA (by rw [ui]; simp [tC, my, fB])
theorem yb {n : Int} (b : 0 ≤ n) (h1 : n < 128) : qc n = some (vL [n]) := by
 have hw : IntKind.u8.wrap n = n := by
  obtain ⟨k, rfl⟩ : ∃ k : Nat, n = k := ⟨n.toNat, by omega⟩
  have : ∀ k : Nat, k < 128 → IntKind.u8.wrap (k : Int) = (k : Int) := by decide +kernel
  exact this k (by omega)
 unfold qc
 rw [ml, sE, bo (by simp; omega), hw, PO, show zS = vL [] from rfl, qZ _ _ (by simp)]
 rfl
theorem EX {s : ByteArray} (h : nt s = true) : tp s = some (vL (vP s)) := by
 have h1 := nX h
 unfold tp
 rw [yb (by omega) (by omega)]
 simp only [aA]
 have := qZ [(s.size : Int)] (my s) (by rw [mU]; simp; omega)
 rw [Dv] at this
 rw [this]
 simp [vP]
theorem AD {r : jq} (h : ma r = true) : sk r = some (vL (rG r)) := by
 simp only [ma, aX] at h
 have h1 := nX h.1
 have b := nX h.2
 unfold sk
 rw [EX h.1, EX h.2]
 simp only [aA]
 rw [qZ _ _ (by simp [ta]; omega)]
 rfl
theorem AO (c : jr) : vj c = some (vL (if lT c then sI c else [])) := by
 unfold vj
 rw [AQ]
 simp only [aA]
 cases h : lT c with
 | false => rfl
 | true =>
  have i := BW h
  have j := oq i
  simp only [cC, aB, aJ, aO]
  have hk : 0 ≤ c.Kind ∧ c.Kind < 128 := by rcases om h with h | h | h | h <;> omega
  unfold zU
  rw [yb hk.1 hk.2, AD i]
  simp only [aA]
  rw [qZ _ _ (by simp; omega)]
  simp only [aA]
  rcases om h with ⟨k, h1, _⟩ | ⟨k, h1, _⟩ | ⟨k, h1, b, _⟩ | ⟨k, h1, b, _⟩
  ·have d := nX h1
   simp only [k, bn, aO, EX h1, aA]
   rw [qZ _ _ (by simp [ta]; omega)]
   simp [sI, yE, k]
  ·have d := oq h1
   simp only [k, show ((2 : Int) == 1) = false from rfl, show ((2 : Int) == 3) = false from rfl, show ((2 : Int) == 4) = false from rfl, aB, aJ, AD h1, aA]
   rw [qZ _ _ (by simp; omega)]
   simp [sI, yE, k]
  ·have d := oq h1
   have g := nX b
   simp only [k, show ((3 : Int) == 1) = false from rfl, show ((3 : Int) == 4) = false from rfl, aB, bn, aO, aJ, AD h1, aA]
   rw [qZ _ _ (by simp; omega)]
   simp only [aA, EX b]
   rw [qZ _ _ (by simp [ta]; omega)]
   simp [sI, yE, k]
  ·have d := oq h1
   have g := oq b
   simp only [k, show ((4 : Int) == 1) = false from rfl, show ((4 : Int) == 3) = false from rfl, aB, bn, aO, aJ, AD h1, aA]
   rw [qZ _ _ (by simp; omega)]
   simp only [aA, AD b]
   rw [qZ _ _ (by simp; omega)]
   simp [sI, yE, k]
def Jm (c : jr) : List UInt8 := tC (if lT c then sI c else [])
def AS (a b : jr) : Bool := Op.bytesLess (Jm a) (Jm b)
theorem E6 (a b : jr) : ∃ c, sW a b = some c ∧ (c < 0 ↔ AS a b = true) := by
 unfold sW
 rw [Bt, Bt]
 exact ⟨_, rfl, Cu _ _⟩
theorem Ee (a b : jr) : ∃ c, sa a b = some c ∧ (c < 0 ↔ AS a b = true) := by
 unfold sa
 rw [AO, AO]
 simp only [aA]
 have h : pH (vL (if lT a then sI a else [])) (vL (if lT b then sI b else [])) = AS a b := by rw [xW]; rfl
 rw [h]
 cases AS a b with
 | true => exact ⟨_, rfl, by decide⟩
 | false =>
  simp only [aB, aJ, Bool.false_or]
  cases d : kP (vL (if lT a then sI a else [])) (vL (if lT b then sI b else [])) with
  | true => exact ⟨0, by simp, by decide⟩
  | false => exact ⟨1, by simp, by decide⟩
theorem RS {a b : Int} (ha : 0 ≤ a ∧ a < 256) (d : 0 ≤ b ∧ b < 256) (h : a.toNat.toUInt8 = b.toNat.toUInt8) : a = b := by
 have := bD UInt8.toNat h
 simp only [UInt8.toNat_ofNat', Nat.toUInt8] at this
 simp at this
 omega
theorem Li : ∀ {a b : List Int}, (∀ x ∈ a, 0 ≤ x ∧ x < 256) → (∀ x ∈ b, 0 ≤ x ∧ x < 256) → tC a = tC b → a = b
 | [], [], _, _, _ => rfl
 | [], _ :: _, _, _, h => by simp [tC] at h
 | _ :: _, [], _, _, h => by simp [tC] at h
 | x :: a, y :: b, ha, g, h => by
  simp only [tC, bJ, aZ] at h
  rw [RS (ha x (by simp)) (g y (by simp)) h.1, Li (fun z d => ha z (by simp [d])) (fun z d => g z (by simp [d])) h.2]
theorem zm {s : ByteArray} (h : nt s = true) : ∀ x ∈ vP s, 0 ≤ x ∧ x < 256 := by
 have h1 := nX h
 intro x d
 rcases aQ.1 d with rfl | d
 ·omega
 ·simp only [my, bM] at d
  obtain ⟨b, _, rfl⟩ := d
  have := iy b
  omega
theorem xf {r : jq} (h : ma r = true) : ∀ x ∈ rG r, 0 ≤ x ∧ x < 256 := by
 simp only [ma, aX] at h
 intro x b
 rcases aU.1 b with b | b
 ·exact zm h.1 x b
 ·exact zm h.2 x b
theorem Fe {c : jr} (h : lT c = true) : ∀ x ∈ sI c, 0 ≤ x ∧ x < 256 := by
 intro x b
 rcases aQ.1 b with rfl | b
 ·rcases om h with h | h | h | h <;> omega
 ·rcases aU.1 b with b | b
  ·exact xf (BW h) x b
  ·unfold yE at b
   rcases om h with ⟨k, h1, _⟩ | ⟨k, h1, _⟩ | ⟨k, h1, d, _⟩ | ⟨k, h1, d, _⟩
   ·rw [bB k] at b; exact zm h1 x b
   ·rw [bo (by omega), bB k] at b; exact xf h1 x b
   ·rw [bo (by omega), bo (by omega), bB k] at b
    rcases aU.1 b with b | b
    ·exact xf h1 x b
    ·exact zm d x b
   ·rw [bo (by omega), bo (by omega), bo (by omega)] at b
    rcases aU.1 b with b | b
    ·exact xf h1 x b
    ·exact xf d x b
theorem MH {s t : ByteArray} (h : my s = my t) : s = t := by rw [← Dv s, h, Dv]
theorem Br {s t : ByteArray} {X Y : List Int} (h : vP s ++ X = vP t ++ Y) : s = t ∧ X = Y := by
 simp only [vP, bP, aZ] at h
 obtain ⟨h1, b⟩ := h
 have d : (my s).length = (my t).length := by rw [mU, mU]; omega
 have := List.append_inj b d
 exact ⟨MH this.1, this.2⟩
theorem zB {a b : jq} {X Y : List Int} (h : rG a ++ X = rG b ++ Y) : a = b ∧ X = Y := by
 simp only [rG, aN] at h
 obtain ⟨h1, g⟩ := Br h
 obtain ⟨d, i⟩ := Br g
 exact ⟨by cases a; cases b; simp at h1 d; simp [h1, d], i⟩
theorem M8 {a b : jr} (ha : lT a = true) (s : lT b = true) (h : sI a = sI b) : a = b := by
 simp only [sI, aZ] at h
 obtain ⟨hk, q⟩ := h
 obtain ⟨p, h⟩ := zB q
 clear q
 have l : ∀ {X Y : List Int}, X = Y → X ++ [] = Y ++ [] := fun h => by rw [h]
 unfold yE at h
 obtain ⟨z, r, E, w, x, u⟩ := a
 obtain ⟨A, t, G, bb, y, v⟩ := b
 simp only at hk p h
 subst hk p
 rcases om ha with ⟨k, h1, g, i, d⟩ | ⟨k, h1, g, i, d⟩ | ⟨k, h1, g, i, d, j⟩ | ⟨k, h1, g, i, d, j⟩ <;>
 rcases om s with ⟨k', g1, g2, g3, g4⟩ | ⟨k', g1, g2, g3, g4⟩ | ⟨k', g1, g2, g3, g4, g5⟩ | ⟨k', g1, g2, g3, g4, g5⟩ <;> simp only at k k' g i d g2 g3 g4 <;> (try omega)
 ·rw [bB k, bB k] at h
  simp [Br (l h), g, i, d, g2, g3, g4]
 ·rw [bo (by omega), bB k, bo (by omega), bB k] at h
  simp [zB (l h), g, i, d, g2, g3, g4]
 ·rw [bo (by omega), bo (by omega), bB k, bo (by omega), bo (by omega), bB k] at h
  obtain ⟨m, n⟩ := zB h
  simp only at j g5
  simp [m, Br (l n), d, j, g4, g5]
 ·rw [bo (by omega), bo (by omega), bo (by omega), bo (by omega), bo (by omega), bo (by omega)] at h
  obtain ⟨m, n⟩ := zB h
  simp only at j g5
  simp [m, zB (l n), d, j, g4, g5]
theorem CL : zY (fun a b => AS a b = true) (fun c => lT c = true) := by
 refine ⟨fun x _ h => ?_, fun x y z _ _ _ h1 i => xL _ _ _ h1 i, fun x y d g => ?_⟩
 ·unfold AS at h; rw [uS] at h; cases h
 ·rcases AM (Jm x) (Jm y) with h | h | h
  ·exact .inl h
  ·refine .inr (.inl (M8 d g ?_))
   unfold Jm at h
   rw [bB d, bB g] at h
   exact Li (Fe d) (Fe g) h
  ·exact .inr (.inr h)
section
variable {c : Formula → Formula → Int} {G : Formula → Prop} {f : Formula × Formula → Option Int}
theorem Mq (x : Formula) : (⟨x.Op, x.K, x.jq, x.Kids⟩ : Formula) = x := by cases x; rfl
abbrev nq (c : Formula → Formula → Int) (x y : Formula) : Bool := decide (c x y < 0)
abbrev Cg (f : Formula × Formula → Option Int) (c : Formula → Formula → Int) (G : Formula → Prop) : Prop := ∀ x y, G x → G y → f (x, y) = some (c x y)
theorem Tt (u : Cg f c G) (pre : List Formula) (x : Formula) (w : G x) : ∀ (k : Nat) (P S : List Formula) (n : Nat) (j a : Int), P.length = k → k < n → (∀ y ∈ P, G y) → (pre ++ (P ++ x :: S)).length ≤ 1000000 → j = ((pre.length + P.length : Nat) : Int) → a = (pre.length : Int) →
  ∃ P1 P2, P = P1 ++ P2 ∧ lK a f n (pre ++ (P ++ x :: S)) j = some (pre ++ (P1 ++ x :: (P2 ++ S))) ∧ (∀ P' z, P1 = P' ++ [z] → nq c x z = false) ∧ (∀ y P', P2 = y :: P' → nq c x y = true) := by
 intro k
 induction k with
 | zero =>
  intro P S n j a hk v d l h ha
  obtain rfl := aV hk
  obtain ⟨n, rfl⟩ := aT (by omega : n ≠ 0)
  refine ⟨[], [], rfl, ?_, by simp, by simp⟩
  rw [lK]
  have : ¬ (j > a) := by rw [h, ha]; simp
  simp [this]
 | succ k ih =>
  intro P S n j a hk v d l h ha
  rcases du P with rfl | ⟨P', z, rfl⟩
  ·simp at hk
  simp only [dU, aF, aI, bR] at hk h l d ⊢
  obtain ⟨n, rfl⟩ := aT (by omega : n ≠ 0)
  have i : j > a := by omega
  have m : pre ++ (P' ++ [z] ++ x :: S) = (pre ++ P') ++ z :: x :: S := by simp
  have hw : wi0 .i64 (j - 1) = ((pre.length + P'.length : Nat) : Int) := by rw [kA (by omega) (by omega)]; omega
  have i1 : lB ((pre ++ P') ++ z :: x :: S) j = some x := by
   rw [show (pre ++ P') ++ z :: x :: S = (pre ++ P' ++ [z]) ++ x :: S by simp]
   exact mL _ _ _ _ (by simp; omega)
  have i2 : lB ((pre ++ P') ++ z :: x :: S) ((pre.length + P'.length : Nat) : Int) = some z := mL _ _ _ _ (by simp)
  have E : G z := d z (by simp)
  have t : ∀ y ∈ P', G y := fun y A => d y (by simp [A])
  have J : j.toNat = pre.length + P'.length + 1 := by omega
  rw [lK, m]
  simp only [i, cA, aO, i1, hw, i2, aA, u x z w E]
  by_cases g : c x z < 0
  ·simp only [g, cA, aO]
   have s1 : ((pre ++ P') ++ z :: x :: S).set j.toNat z = (pre ++ P') ++ z :: z :: S := by
    have := J7 (pre ++ P' ++ [z]) S x z j.toNat (by simp; omega)
    simpa only [aN, fz, bP, bE] using this
   have s2 : ((pre ++ P') ++ z :: z :: S).set (pre.length + P'.length) x = (pre ++ P') ++ x :: z :: S := by
    exact J7 (pre ++ P') (z :: S) z x _ (by simp)
   have i3 : lB ((pre ++ P') ++ z :: z :: S) ((pre.length + P'.length : Nat) : Int) = some z := mL _ _ _ _ (by simp)
   rw [s1, i3, aA, dJ, Mq, s2]
   have p : (pre ++ P') ++ x :: z :: S = pre ++ (P' ++ x :: (z :: S)) := by simp
   obtain ⟨P1, P2, h1, q, r, s⟩ := ih P' (z :: S) n ((pre.length + P'.length : Nat) : Int) a (by omega) (by omega) t (by simp; omega) rfl ha
   rw [p, q]
   refine ⟨P1, P2 ++ [z], by rw [h1]; simp, by simp, r, ?_⟩
   intro y Q b
   cases P2 with
   | nil =>
    simp only [bE, aZ] at b
    rw [← b.1]; simp [nq, g]
   | cons I P2 =>
    simp only [bP, aZ] at b
    rw [← b.1]; exact s I P2 rfl
  ·simp only [g, cI, aB, aJ]
   refine ⟨P' ++ [z], [], by simp, by simp, ?_, by simp⟩
   intro Q y b
   have := List.append_inj' b rfl
   simp only [aZ, dC] at this
   rw [← this.2]; simp [nq, g]
theorem Pd (h : SWO (nq c)) (M : Cg f c G) (pre post : List Formula) (a b : Int) (ha : a = (pre.length : Int)) : ∀ (S t : List (Formula × Nat)) (n : Nat) (i : Int),
  S.length < n → nY (nq c) t → (∀ x ∈ t, ∀ y ∈ S, x.2 < y.2) → S.Pairwise (fun x y => x.2 < y.2) → (∀ x ∈ t ++ S, G x.1) → (pre ++ (t.map (·.1) ++ (S.map (·.1) ++ post))).length ≤ 1000000 →
  i = ((pre.length + t.length : Nat) : Int) → b = ((pre.length + t.length + S.length : Nat) : Int) →
  ∃ u, lm b a f n (pre ++ (t.map (·.1) ++ (S.map (·.1) ++ post))) i = some (pre ++ (u.map (·.1) ++ post)) ∧ nY (nq c) u ∧ u.Perm (t ++ S)
 | [], t, n, i, I, J, h1, L, v, E, O, w => by
  obtain ⟨n, rfl⟩ := aT (by simp at I; omega : n ≠ 0)
  rw [lm]
  simp only [bR] at w
  have : ¬ (i < b) := by omega
  simp only [this, cI, aB, aJ]
  exact ⟨t, by simp, J, by simp⟩
 | s :: S, t, n, i, I, J, h1, L, v, E, O, w => by
  simp only [aI] at I w
  obtain ⟨n, rfl⟩ := aT (by omega : n ≠ 0)
  rw [lm]
  have A : i < b := by omega
  simp only [A, cA, aO]
  have l := E
  simp only [aF, dq, aI] at l
  obtain ⟨P1, P2, R, T, U, W⟩ := Tt M pre s.1 (v s (by simp)) (t.map (·.1)).length (t.map (·.1)) (S.map (·.1) ++ post) jY i a rfl (by rw [ml]; simp; omega)
   (fun y q => by obtain ⟨p, hp, rfl⟩ := bM.1 q; exact v p (by simp [hp])) (by simpa using E) (by simp; omega) ha
  simp only [bJ, bP]
  rw [T, aA]
  obtain ⟨t1, t2, rfl, P, Q⟩ := List.map_eq_append_iff.1 R
  have hlen : t1.length + t2.length = (t1 ++ t2).length := by simp
  have hw : wi0 .i64 (i + 1) = ((pre.length + (t1 ++ s :: t2).length : Nat) : Int) := by rw [kA (by omega) (by omega)]; simp at O ⊢; omega
  rw [hw]
  have m : nY (nq c) (t1 ++ s :: t2) := Hx h J
   (fun A' z b B' j r => by
    simp only [aZ] at r
    rw [← r.1]
    refine .inr ⟨U (A'.map (·.1)) z.1 (by rw [← P, j]; simp), h1 z (by rw [j]; simp) s (by simp)⟩)
   (fun A' z b B' j r => by
    have Z : z = s := by
     cases A' with
     | nil => simpa using j.symm
     | cons _ A' => simp at j
    rw [Z]
    exact .inl (W b.1 (B'.map (·.1)) (by rw [← Q, r]; simp)))
  have g := cJ.1 L
  have Y : pre ++ (P1 ++ s.1 :: (P2 ++ (S.map (·.1) ++ post))) = pre ++ ((t1 ++ s :: t2).map (·.1) ++ (S.map (·.1) ++ post)) := by rw [← P, ← Q]; simp
  rw [Y]
  obtain ⟨u, u1, u2, u3⟩ := Pd h M pre post a b ha S (t1 ++ s :: t2) n _ (by omega) m
   (fun x d y q => by
    rcases aU.1 d with d | d
    ·exact h1 x (by simp [d]) y (by simp [q])
    ·rcases aQ.1 d with rfl | d
     ·exact g.1 y q
     ·exact h1 x (by simp [d]) y (by simp [q]))
   g.2 (fun x d => v x (by
    simp only [aU, aQ] at d ⊢
    rcases d with (d | d | d) | d
    ·exact .inl (.inl d)
    ·exact .inr (.inl d)
    ·exact .inl (.inr d)
    ·exact .inr (.inr d))) (by simp at l ⊢; omega) rfl (by simp at w ⊢; omega)
  refine ⟨u, u1, u2, u3.trans ?_⟩
  simp only [aN, bP]
  exact cD t1 (List.perm_middle.symm)
theorem Lq (h : SWO (nq c)) (q : Cg f c G) (pre post : List Formula) (S : List (Formula × Nat)) (a b : Int) (m : S.Pairwise (fun x y => x.2 < y.2)) (p : ∀ x ∈ S, G x.1) (l : (pre ++ (S.map (·.1) ++ post)).length ≤ 1000000) (ha : a = (pre.length : Int)) (j : b = ((pre.length + S.length : Nat) : Int)) :
  ∃ u, mS (pre ++ (S.map (·.1) ++ post)) a b f = some (pre ++ (u.map (·.1) ++ post)) ∧ nY (nq c) u ∧ u.Perm S := by
 unfold mS
 have g := l
 simp only [aF, dq] at g
 cases S with
 | nil =>
  refine ⟨[], ?_, .nil, .nil⟩
  obtain ⟨n, r⟩ := aT (by rw [ml]; omega : jY ≠ 0)
  rw [r, lm]
  have : ¬ (wi0 .i64 (a + 1) < b) := by rw [kA (by omega) (by omega)]; simp at j; omega
  simp [this]
 | cons s S =>
  simp only [aI] at j g
  have d := cJ.1 m
  obtain ⟨u, v, w, z⟩ := Pd h q pre post a b ha S [s] jY (wi0 .i64 (a + 1)) (by rw [ml]; omega) (gi _ _) (fun x i y t => by simp at i; rw [i]; exact d.1 y t) d.2
   (fun x i => p x (by simpa using i)) (by simp at l ⊢; omega) (by rw [kA (by omega) (by omega)]; simp; omega) (by simp; omega)
  exact ⟨u, by simpa using v, w, by simpa using z⟩
end
section
variable {c : Formula → Formula → Int} {G : Formula → Prop} {f : Formula × Formula → Option Int}
theorem np {x : Int} (n : Nat) (h : x = (n : Int)) (b : n ≤ 4000000) : wi0 .i64 x = (n : Int) := by rw [h, kA (by omega) (by omega)]
theorem RU (p m q : List Formula) (a b N : Int) : ∀ (k : Nat) (X1 X2 Y1 Y2 : List Formula) (n : Nat) (i : Int), X2.length = k → Y2.length = k → X1.length = Y1.length → k < n → (p ++ (Y1 ++ (X2 ++ (m ++ (X1 ++ (Y2 ++ q)))))).length ≤ 1000000 →
  i = (X1.length : Int) → N = ((X1.length + k : Nat) : Int) → a = (p.length : Int) → b = ((p.length + X1.length + k + m.length : Nat) : Int) →
  me N b a n (p ++ (Y1 ++ (X2 ++ (m ++ (X1 ++ (Y2 ++ q)))))) i = some (p ++ ((Y1 ++ Y2) ++ (m ++ ((X1 ++ X2) ++ q)))) := by
 intro k
 induction k with
 | zero =>
  intro X1 X2 Y1 Y2 n i h1 d u w r v j ha l
  obtain rfl := aV h1
  obtain rfl := aV d
  obtain ⟨n, rfl⟩ := aT (by omega : n ≠ 0)
  rw [me]
  have : ¬ (i < N) := by omega
  simp [this]
 | succ k ih =>
  intro X1 X2 Y1 Y2 n i h1 d u w r v j ha l
  cases X2 with
  | nil => simp at h1
  | cons x X2 =>
  cases Y2 with
  | nil => simp at d
  | cons y Y2 =>
  simp only [aI, Nat.add_right_cancel_iff] at h1 d
  obtain ⟨n, rfl⟩ := aT (by omega : n ≠ 0)
  have h := r
  simp only [aF, aI] at h
  have g : i < N := by omega
  have z : wi0 .i64 (b + i) = (((p ++ Y1).length + 1 + (X2 ++ (m ++ X1)).length : Nat) : Int) := np _ (by simp; omega) (by simp; omega)
  have A : wi0 .i64 (a + i) = ((p ++ Y1).length : Int) := np _ (by simp; omega) (by simp; omega)
  have E : wi0 .i64 (i + 1) = ((X1 ++ [x]).length : Int) := np _ (by simp; omega) (by simp; omega)
  have s : p ++ (Y1 ++ (x :: X2 ++ (m ++ (X1 ++ (y :: Y2 ++ q))))) = (p ++ Y1) ++ x :: ((X2 ++ (m ++ X1)) ++ y :: (Y2 ++ q)) := by simp
  have i1 : lB ((p ++ Y1) ++ x :: ((X2 ++ (m ++ X1)) ++ y :: (Y2 ++ q))) (((p ++ Y1).length + 1 + (X2 ++ (m ++ X1)).length : Nat) : Int) = some y := by
   have := mL ((p ++ Y1) ++ x :: (X2 ++ (m ++ X1))) y (Y2 ++ q) (((p ++ Y1).length + 1 + (X2 ++ (m ++ X1)).length : Nat) : Int) (by simp; omega)
   simpa using this
  have i2 : lB ((p ++ Y1) ++ x :: ((X2 ++ (m ++ X1)) ++ y :: (Y2 ++ q))) ((p ++ Y1).length : Int) = some x := mL _ _ _ _ rfl
  rw [me, s]
  simp only [g, cA, aO, z, A, i1, i2, aA, dJ, E]
  have i3 : lB (((p ++ Y1) ++ x :: ((X2 ++ (m ++ X1)) ++ y :: (Y2 ++ q))).set (p ++ Y1).length y) (((p ++ Y1).length + 1 + (X2 ++ (m ++ X1)).length : Nat) : Int) = some y := by
   rw [EM]
   have := mL ((p ++ Y1) ++ y :: (X2 ++ (m ++ X1))) y (Y2 ++ q) (((p ++ Y1).length + 1 + (X2 ++ (m ++ X1)).length : Nat) : Int) (by simp; omega)
   simpa using this
  rw [i3, aA, Mq, FE]
  have t : (p ++ Y1) ++ y :: ((X2 ++ (m ++ X1)) ++ x :: (Y2 ++ q)) = p ++ ((Y1 ++ [y]) ++ (X2 ++ (m ++ ((X1 ++ [x]) ++ (Y2 ++ q))))) := by simp
  rw [t, ih (X1 ++ [x]) X2 (Y1 ++ [y]) Y2 n _ h1 d (by simp; omega) (by omega) (by simp; omega) rfl (by rw [j]; simp; omega) ha (by rw [l]; simp; omega)]
  simp
theorem LG (p m q X Y : List Formula) (a b N : Int) (h : X.length = Y.length) (g : (p ++ (X ++ (m ++ (Y ++ q)))).length ≤ 1000000) (i : N = (X.length : Int)) (ha : a = (p.length : Int)) (j : b = ((p.length + X.length + m.length : Nat) : Int)) :
  mM (p ++ (X ++ (m ++ (Y ++ q)))) a b N f = some (p ++ (Y ++ (m ++ (X ++ q)))) := by
 unfold mM
 have d := g
 simp only [aF] at d
 have := RU p m q a b N X.length [] X [] Y jY 0 rfl h.symm rfl (by rw [ml]; omega) (by simpa using g) rfl (by simpa using i) ha (by rw [j]; simp)
 simpa using this
theorem Sa (M : Int) : ∀ (k : Nat) (A B p q : List Formula) (n : Nat) (i j : Int), A.length + B.length ≤ k → 0 < A.length → 0 < B.length → k < n → (p ++ (A ++ (B ++ q))).length ≤ 1000000 → i = (A.length : Int) → j = (B.length : Int) → M = ((p.length + A.length : Nat) : Int) →
  mx M f n (p ++ (A ++ (B ++ q))) i j = some (p ++ (B ++ (A ++ q))) := by
 intro k
 induction k with
 | zero => intro A B p q n i j h h1 v; omega
 | succ k ih =>
  intro A B p q n i j h h1 v L y d r w
  obtain ⟨n, rfl⟩ := aT (by omega : n ≠ 0)
  have b := y
  simp only [aF] at b
  rw [mx]
  by_cases he : A.length = B.length
  ·have : (i != j) = false := by rw [d, r, he]; simp
   simp only [this, aB, aJ]
   have g : wi0 .i64 (M - i) = (p.length : Int) := np _ (by omega) (by omega)
   have := LG (f := f) p [] q A B (p.length : Int) M i he (by simpa using y) d rfl (by rw [w]; simp)
   simp only [bE] at this
   rw [g, this]; rfl
  ·have t : (i != j) = true := by rw [d, r]; simp; omega
   simp only [t, aO]
   by_cases x : i > j
   ·simp only [x, cA, aO]
    obtain ⟨X, Y, rfl, J⟩ := vW (l := A) (n := B.length) (by omega)
    simp only [aF] at d h w b
    have g : wi0 .i64 (M - i) = (p.length : Int) := np _ (by omega) (by omega)
    have s := LG (f := f) p Y q X B (p.length : Int) M j (by omega) (by simp; omega) (by omega) rfl (by omega)
    have m : p ++ (X ++ Y ++ (B ++ q)) = p ++ (X ++ (Y ++ (B ++ q))) := by simp
    have u : wi0 .i64 (i - j) = (Y.length : Int) := np _ (by omega) (by omega)
    rw [m, g, s, aA, u]
    have z : p ++ (B ++ (Y ++ (X ++ q))) = (p ++ B) ++ (Y ++ (X ++ q)) := by simp
    rw [z, ih Y X (p ++ B) q n _ j (by omega) (by omega) (by omega) (by omega) (by simp; omega) rfl (by omega) (by simp; omega)]
    simp
   ·simp only [x, cI, aB, aJ]
    obtain ⟨Z, V, rfl, E⟩ := vW (l := B) (n := B.length - A.length) (by omega)
    simp only [aF] at r h b E v he
    have g : wi0 .i64 (M - i) = (p.length : Int) := np _ (by omega) (by omega)
    have G : wi0 .i64 (M + j) = ((p.length + A.length + (Z.length + V.length) : Nat) : Int) := np _ (by omega) (by omega)
    have I : wi0 .i64 (((p.length + A.length + (Z.length + V.length) : Nat) : Int) - i) = ((p.length + A.length + Z.length : Nat) : Int) := np _ (by omega) (by omega)
    have s := LG (f := f) p Z q A V (p.length : Int) ((p.length + A.length + Z.length : Nat) : Int) i (by omega) (by simp; omega) d rfl rfl
    have m : p ++ (A ++ (Z ++ V ++ q)) = p ++ (A ++ (Z ++ (V ++ q))) := by simp
    have u : wi0 .i64 (j - i) = (Z.length : Int) := np _ (by omega) (by omega)
    rw [m, g, G, I, s, aA, u]
    rw [show p ++ (V ++ (Z ++ (A ++ q))) = p ++ (V ++ (Z ++ (A ++ q))) from rfl, ih V Z p (A ++ q) n i _ (by omega) (by omega) (by omega) (by omega) (by simp; omega) (by omega) rfl (by omega)]
    simp
theorem TS (A B p q : List Formula) (a m b : Int) (h1 : 0 < A.length) (h : 0 < B.length) (g : (p ++ (A ++ (B ++ q))).length ≤ 1000000) (ha : a = (p.length : Int)) (hm : m = ((p.length + A.length : Nat) : Int)) (i : b = ((p.length + A.length + B.length : Nat) : Int)) :
  mI (p ++ (A ++ (B ++ q))) a m b f = some (p ++ (B ++ (A ++ q))) := by
 unfold mI
 have d := g
 simp only [aF] at d
 rw [np A.length (by omega) (by omega), np B.length (by omega) (by omega)]
 exact Sa m (A.length + B.length) A B p q jY _ _ (aW _) h1 h (by rw [ml]; omega) g rfl rfl hm
end
section
variable {c : Formula → Formula → Int} {G : Formula → Prop} {f : Formula × Formula → Option Int}
theorem CM {x : Int} (n : Nat) (h : x = (n : Int)) (d : n ≤ 4000000) : wi0 .i64 (Int.fdiv (IntKind.u64.wrap (wi0 .i64 x)) (2 ^ min (Int.toNat 1) (IntKind.bits .u64))) = ((n / 2 : Nat) : Int) := by
 rw [np n h d]
 have b : IntKind.u64.wrap (n : Int) = (n : Int) := by
  simp only [IntKind.wrap, IntKind.signed, IntKind.bits]
  simp
  omega
 rw [b, show (2 ^ min (Int.toNat 1) (IntKind.bits .u64) : Int) = 2 from by decide, Int.fdiv_eq_ediv_of_nonneg _ (by decide), kA (by omega) (by omega)]
 omega
abbrev Ask (a0 : List Formula) (f : Formula × Formula → Option Int) (p q : Int) (b : Bool) : Prop := ∃ x y r, lB a0 p = some x ∧ lB a0 q = some y ∧ f (x, y) = some r ∧ decide (r < 0) = b
theorem TK (a0 : List Formula) (s : Int) (g : Nat → Bool) (lo b : Nat) (L : b ≤ 1000000) (w : ∀ h, lo ≤ h → h < b → Ask a0 f (h : Int) s (g h)) : ∀ (d n i j : Nat), j - i ≤ d → d < n → lo ≤ i → i ≤ j → j ≤ b → (i = lo ∨ g (i - 1) = true) → (j = b ∨ g j = false) →
  ∃ t O, lo ≤ t ∧ t ≤ b ∧ (t = lo ∨ g (t - 1) = true) ∧ (t = b ∨ g t = false) ∧ kU a0 s f n (i : Int) (j : Int) = kU a0 s f (O + 1) (t : Int) (t : Int) := by
 intro d
 induction d with
 | zero =>
  intro n i j h1 M l I m p q
  obtain ⟨n, rfl⟩ := aT (by omega : n ≠ 0)
  obtain rfl : i = j := by omega
  exact ⟨i, n, l, m, p, q, rfl⟩
 | succ d ih =>
  intro n i j h1 M l I m p q
  obtain ⟨n, rfl⟩ := aT (by omega : n ≠ 0)
  by_cases u : i = j
  ·subst u; exact ⟨i, n, l, m, p, q, rfl⟩
  have J := CM (i + j) (x := (i : Int) + (j : Int)) (by omega) (by omega)
  obtain ⟨x, y, r, z, A, E, G⟩ := w ((i + j) / 2) (by omega) (by omega)
  rw [kU]
  have v : ((i : Int) < (j : Int)) := by omega
  simp only [v, cA, aO, J, z, A, E, G, aA]
  cases hp : g ((i + j) / 2)
  ·simp only [aB, aJ]
   exact ih n i ((i + j) / 2) (by omega) (by omega) l (by omega) (by omega) p (.inr hp)
  ·simp only [aO]
   rw [np ((i + j) / 2 + 1) (by omega) (by omega)]
   exact ih n ((i + j) / 2 + 1) j (by omega) (by omega) (by omega) (by omega) m (.inr (by simpa using hp)) q
theorem TY (a0 : List Formula) (a2 : Int) (g : Nat → Bool) (lo b : Nat) (J : b ≤ 1000000) (v : ∀ h, lo ≤ h → h < b → Ask a0 f a2 (h : Int) (!g h)) : ∀ (d n i j : Nat), j - i ≤ d → d < n → lo ≤ i → i ≤ j → j ≤ b → (i = lo ∨ g (i - 1) = true) → (j = b ∨ g j = false) →
  ∃ t M, lo ≤ t ∧ t ≤ b ∧ (t = lo ∨ g (t - 1) = true) ∧ (t = b ∨ g t = false) ∧ kV a0 a2 f n (i : Int) (j : Int) = kV a0 a2 f (M + 1) (t : Int) (t : Int) := by
 intro d
 induction d with
 | zero =>
  intro n i j h1 L l G m p q
  obtain ⟨n, rfl⟩ := aT (by omega : n ≠ 0)
  obtain rfl : i = j := by omega
  exact ⟨i, n, l, m, p, q, rfl⟩
 | succ d ih =>
  intro n i j h1 L l G m p q
  obtain ⟨n, rfl⟩ := aT (by omega : n ≠ 0)
  by_cases s : i = j
  ·subst s; exact ⟨i, n, l, m, p, q, rfl⟩
  have I := CM (i + j) (x := (i : Int) + (j : Int)) (by omega) (by omega)
  obtain ⟨x, y, r, w, z, A, E⟩ := v ((i + j) / 2) (by omega) (by omega)
  rw [kV]
  have u : ((i : Int) < (j : Int)) := by omega
  simp only [u, cA, aO, I, w, z, A, E, aA, gy]
  cases hp : g ((i + j) / 2)
  ·simp only [aB, aJ]
   exact ih n i ((i + j) / 2) (by omega) (by omega) l (by omega) (by omega) p (.inr hp)
  ·simp only [aO]
   rw [np ((i + j) / 2 + 1) (by omega) (by omega)]
   exact ih n ((i + j) / 2 + 1) j (by omega) (by omega) (by omega) (by omega) m (.inr (by simpa using hp)) q
theorem SQ (x : Formula) : ∀ (P Q R : List Formula) (n : Nat) (k i : Int), P.length < n → (Q ++ x :: (P ++ R)).length ≤ 1000000 → k = (Q.length : Int) → i = ((Q.length + P.length + 1 : Nat) : Int) → mj i n (Q ++ x :: (P ++ R)) k = some (Q ++ (P ++ x :: R))
 | [], Q, R, n, k, i, d, g, hk, b => by
  obtain ⟨n, rfl⟩ := aT (by simp at d; omega : n ≠ 0)
  simp only [aF, aI, bR] at g b
  rw [mj, np Q.length (by omega) (by omega)]
  have : ¬ (k < (Q.length : Int)) := by omega
  simp [this]
 | y :: P, Q, R, n, k, i, d, g, hk, b => by
  obtain ⟨n, rfl⟩ := aT (by simp at d; omega : n ≠ 0)
  simp only [aF, aI] at g b d
  have j : Q ++ x :: (y :: P ++ R) = Q ++ x :: ([] ++ y :: (P ++ R)) := rfl
  have l : wi0 .i64 (k + 1) = ((Q.length + 1 + ([] : List Formula).length : Nat) : Int) := np _ (by simp; omega) (by simp; omega)
  have i1 : lB (Q ++ x :: ([] ++ y :: (P ++ R))) ((Q.length + 1 + ([] : List Formula).length : Nat) : Int) = some y := by
   have := mL (Q ++ [x]) y (P ++ R) ((Q.length + 1 + ([] : List Formula).length : Nat) : Int) (by simp)
   simpa using this
  have i2 : lB (Q ++ x :: ([] ++ y :: (P ++ R))) k = some x := mL _ _ _ _ hk
  rw [mj, np (Q.length + P.length + 1) (by omega) (by omega), j]
  have h : k < ((Q.length + P.length + 1 : Nat) : Int) := by omega
  have kn : k.toNat = Q.length := by omega
  simp only [h, cA, aO, l, i1, i2, aA, kn]
  have i3 : lB ((Q ++ x :: ([] ++ y :: (P ++ R))).set Q.length y) ((Q.length + 1 + ([] : List Formula).length : Nat) : Int) = some y := by
   rw [EM]
   have := mL (Q ++ [y]) y (P ++ R) ((Q.length + 1 + ([] : List Formula).length : Nat) : Int) (by simp)
   simpa using this
  rw [i3, aA, dJ, Mq, FE]
  have := SQ x P (Q ++ [y]) R n ((Q.length + 1 + ([] : List Formula).length : Nat) : Int) i (by omega) (by simp; omega) (by simp) (by rw [b]; simp; omega)
  simpa using this
theorem TT (x : Formula) : ∀ (k : Nat) (S Q R : List Formula) (n : Nat) (j i : Int), S.length = k → k < n → (Q ++ (S ++ x :: R)).length ≤ 1000000 → j = ((Q.length + S.length : Nat) : Int) → i = (Q.length : Int) → mh i n (Q ++ (S ++ x :: R)) j = some (Q ++ x :: (S ++ R)) := by
 intro k
 induction k with
 | zero =>
  intro S Q R n j i hk p l b h
  obtain ⟨n, rfl⟩ := aT (by omega : n ≠ 0)
  obtain rfl := aV hk
  rw [mh]
  simp only [bR, gl] at b
  have : ¬ (j > i) := by omega
  simp [this]
 | succ k ih =>
  intro S Q R n j i hk p l b h
  obtain ⟨n, rfl⟩ := aT (by omega : n ≠ 0)
  rcases du S with rfl | ⟨S, z, rfl⟩
  ·simp at hk
  simp only [dU, aF, aI, bR] at hk b l ⊢
  have m : Q ++ (S ++ [z] ++ x :: R) = (Q ++ S) ++ z :: ([] ++ x :: R) := by simp
  have r : wi0 .i64 (j - 1) = ((Q ++ S).length : Int) := np _ (by simp; omega) (by simp; omega)
  have d : j = (((Q ++ S).length + 1 + ([] : List Formula).length : Nat) : Int) := by rw [b]; simp; omega
  have i1 : lB ((Q ++ S) ++ z :: ([] ++ x :: R)) j = some x := by
   have := mL (Q ++ S ++ [z]) x R j (by rw [d]; simp; omega)
   simpa using this
  have i2 : lB ((Q ++ S) ++ z :: ([] ++ x :: R)) ((Q ++ S).length : Int) = some z := mL _ _ _ _ rfl
  rw [mh, m]
  have g : j > i := by omega
  have q : j.toNat = (Q ++ S).length + 1 + ([] : List Formula).length := by omega
  simp only [g, cA, aO, r, i1, i2, aA, q]
  have i3 : lB (((Q ++ S) ++ z :: ([] ++ x :: R)).set ((Q ++ S).length + 1 + ([] : List Formula).length) z) ((Q ++ S).length : Int) = some z := by
   have : ((Q ++ S) ++ z :: ([] ++ x :: R)).set ((Q ++ S).length + 1 + ([] : List Formula).length) z = (Q ++ S) ++ z :: (z :: R) := by
    have := J7 (Q ++ S ++ [z]) R x z ((Q ++ S).length + 1 + ([] : List Formula).length) (by simp; omega)
    simpa using this
   rw [this]; exact mL _ _ _ _ rfl
  rw [i3, aA, dJ, Mq, MU]
  have := ih S Q (z :: R) n ((Q ++ S).length : Int) i (by omega) (by omega) (by simp; omega) (by simp) h
  simpa using this
end
section
variable {c : Formula → Formula → Int} {G : Formula → Prop} {f : Formula × Formula → Option Int}
theorem Td (a0 : List Formula) (q a3 a2 : Int) (rec : List Formula → Int → Int → Int → ((Formula × Formula) → Option Int) → Option (List Formula)) (mid m p : Nat) (s : q + a3 = ((2 * mid : Nat) : Int) ∨ q + a3 = ((2 * mid + 1 : Nat) : Int)) (hm : a2 = (m : Int)) (hp : p + 1 = mid + m) (l : Nat → Bool) (lo b : Nat) (R : b ≤ 1000000) (U : mid ≤ 1000000) (T : mid + m ≤ 2000000) (hle : b ≤ p + 1) (I : ∀ h, lo ≤ h → h < b → Ask a0 f ((p - h : Nat) : Int) (h : Int) (!l h)) : ∀ (d n i j : Nat), j - i ≤ d → d < n → lo ≤ i → i ≤ j → j ≤ b → (i = lo ∨ l (i - 1) = true) → (j = b ∨ l j = false) →
  ∃ t Y, lo ≤ t ∧ t ≤ b ∧ (t = lo ∨ l (t - 1) = true) ∧ (t = b ∨ l t = false) ∧ kF a0 q a3 a2 f rec n (i : Int) (j : Int) = kF a0 q a3 a2 f rec (Y + 1) (t : Int) (t : Int) := by
 have g : wi0 .i64 (Int.fdiv (IntKind.u64.wrap (wi0 .i64 (q + a3))) (2 ^ min (Int.toNat 1) (IntKind.bits .u64))) = (mid : Int) := by
  rcases s with h | h
  ·rw [CM _ h (by omega), show 2 * mid / 2 = mid by omega]
  ·rw [CM _ h (by omega), show (2 * mid + 1) / 2 = mid by omega]
 intro d
 induction d with
 | zero =>
  intro n i j h1 W v P w z A
  obtain ⟨n, rfl⟩ := aT (by omega : n ≠ 0)
  obtain rfl : i = j := by omega
  exact ⟨i, n, v, w, z, A, rfl⟩
 | succ d ih =>
  intro n i j h1 W v P w z A
  obtain ⟨n, rfl⟩ := aT (by omega : n ≠ 0)
  by_cases E : i = j
  ·subst E; exact ⟨i, n, v, w, z, A, rfl⟩
  have Q := CM (i + j) (x := (i : Int) + (j : Int)) (by omega) (by omega)
  obtain ⟨x, y, r, J, L, M, O⟩ := I ((i + j) / 2) (by omega) (by omega)
  have Z : wi0 .i64 ((mid : Int) + a2) = ((mid + m : Nat) : Int) := np _ (by omega) (by omega)
  have w2 : wi0 .i64 (((mid + m : Nat) : Int) - 1) = (p : Int) := np _ (by omega) (by omega)
  have w3 : wi0 .i64 ((p : Int) - (((i + j) / 2 : Nat) : Int)) = ((p - (i + j) / 2 : Nat) : Int) := np _ (by omega) (by omega)
  rw [kF]
  have G : ((i : Int) < (j : Int)) := by omega
  simp only [G, cA, aO, Q, g, Z, w2, w3, J, L, M, O, aA, gy]
  cases u : l ((i + j) / 2)
  ·simp only [aB, aJ]
   exact ih n i ((i + j) / 2) (by omega) (by omega) v (by omega) (by omega) z (.inr u)
  ·simp only [aO]
   rw [np ((i + j) / 2 + 1) (by omega) (by omega)]
   exact ih n ((i + j) / 2 + 1) j (by omega) (by omega) (by omega) (by omega) w (.inr (by simpa using u)) A
theorem RN (a0 : List Formula) (d a3 a2 : Int) (rec : List Formula → Int → Int → Int → ((Formula × Formula) → Option Int) → Option (List Formula)) (mid m t n : Nat) (g : d + a3 = ((2 * mid : Nat) : Int) ∨ d + a3 = ((2 * mid + 1 : Nat) : Int)) (hm : a2 = (m : Int)) (v : mid ≤ 1000000) (u : mid + m ≤ 2000000) (E : t ≤ mid + m) :
  kF a0 d a3 a2 f rec (n + 1) (t : Int) (t : Int) =
   ((if t < m ∧ m < mid + m - t then mI a0 (t : Int) a2 ((mid + m - t : Nat) : Int) f else some a0).bind fun l => ((if d < (t : Int) ∧ t < mid then rec l d (t : Int) (mid : Int) f else some l).bind fun l => if mid < mid + m - t ∧ ((mid + m - t : Nat) : Int) < a3 then rec l (mid : Int) ((mid + m - t : Nat) : Int) a3 f else some l)) := by
 have b : wi0 .i64 (Int.fdiv (IntKind.u64.wrap (wi0 .i64 (d + a3))) (2 ^ min (Int.toNat 1) (IntKind.bits .u64))) = (mid : Int) := by
  rcases g with h | h
  ·rw [CM _ h (by omega), show 2 * mid / 2 = mid by omega]
  ·rw [CM _ h (by omega), show (2 * mid + 1) / 2 = mid by omega]
 have y : wi0 .i64 ((mid : Int) + a2) = ((mid + m : Nat) : Int) := np _ (by omega) (by omega)
 have z : wi0 .i64 (((mid + m : Nat) : Int) - (t : Int)) = ((mid + m - t : Nat) : Int) := np _ (by omega) (by omega)
 rw [kF]
 simp only [Int.lt_irrefl, cI, aB, aJ, b, y, z, ol]
 subst hm
 have i : ((t : Int) < (m : Int)) = (t < m) := by simp
 have j : ((m : Int) < ((mid + m - t : Nat) : Int)) = (m < mid + m - t) := by rw [ga]; omega
 have r : ((t : Int) < (mid : Int)) = (t < mid) := by simp
 have s : ((mid : Int) < ((mid + m - t : Nat) : Int)) = (mid < mid + m - t) := by rw [ga]; omega
 simp only [i, j, r, s]
 have key : ∀ (p q : Prop) [Decidable p] [Decidable q] (A B : Option (List Formula)), ((if decide p = true then some (decide q) else some false : Option Bool).bind fun x => if x = true then A else B) = if p ∧ q then A else B := by
  intro p q _ _ A B
  by_cases hp : p <;> by_cases w : q <;> simp [hp, w]
 simp only [key]
theorem MD (p A q : List Formula) (h : Nat) (d : p.length ≤ h) (h1 : h < p.length + A.length) : ∃ x, A[h - p.length]? = some x ∧ lB (p ++ (A ++ q)) (h : Int) = some x := by
 obtain ⟨x, b⟩ : ∃ x, A[h - p.length]? = some x := ⟨_, dP (by omega)⟩
 refine ⟨x, b, ?_⟩
 rw [EP, eQ d, fM (by omega), b]
end
section
variable {c : Formula → Formula → Int} {G : Formula → Prop} {f : Formula × Formula → Option Int}
theorem Dm {α : Type} {P A' : List α} {z : α} (S : List α) (h : P = A' ++ [z]) : (P ++ S)[P.length - 1]? = some z := by subst h; simp
theorem CU {α : Type} {S B' : List α} {z : α} (P : List α) (h : S = z :: B') : (P ++ S)[P.length]? = some z := by subst h; simp
theorem xV {A : List (Formula × Nat)} {i : Nat} {z : Formula × Nat} (h : A[i]? = some z) : (A.map (·.1))[i]? = some z.1 := by simp [h]
theorem SA (h : SWO (nq c)) (T : Cg f c G) (x : Formula × Nat) (B : List (Formula × Nat)) (pre post : List Formula) (a m b : Int) (L : nY (nq c) B) (Y : ∀ y ∈ B, x.2 < y.2) (w : ∀ y ∈ x :: B, G y.1) (U : (pre ++ x.1 :: (B.map (·.1) ++ post)).length ≤ 400000) (ha : a = (pre.length : Int)) (hm : m = ((pre.length + 1 : Nat) : Int)) (R : b = ((pre.length + 1 + B.length : Nat) : Int)) :
  ∃ u, kU (pre ++ x.1 :: (B.map (·.1) ++ post)) a f jY m b = some (pre ++ (u.map (·.1) ++ post)) ∧ nY (nq c) u ∧ u.Perm (x :: B) := by
 have r := U
 simp only [aF, aI, dq] at r
 let g : Nat → Bool := fun k => match (B.map (·.1))[k - (pre.length + 1)]? with | some y => nq c y x.1 | none => false
 have j : ∀ k, pre.length + 1 ≤ k → k < pre.length + 1 + B.length → Ask (pre ++ x.1 :: (B.map (·.1) ++ post)) f (k : Int) a (g k) := by
  intro k h1 h2
  obtain ⟨y, s, A⟩ := MD (pre ++ [x.1]) (B.map (·.1)) post k (by simp; omega) (by simp; omega)
  have E : lB (pre ++ x.1 :: (B.map (·.1) ++ post)) (k : Int) = some y := by simpa using A
  have I : lB (pre ++ x.1 :: (B.map (·.1) ++ post)) a = some x.1 := mL _ _ _ _ ha
  have Z : G y := by
   obtain ⟨q, W, rfl⟩ := bM.1 (dm s)
   exact w q (by simp [W])
  refine ⟨y, x.1, _, E, I, T y x.1 Z (w x (by simp)), ?_⟩
  simp only [aF, aI, bR] at s
  simp only [g, s]
 obtain ⟨t, n', t1, t2, t3, t4, e⟩ := TK (f := f) _ a g (pre.length + 1) (pre.length + 1 + B.length) (by omega) j B.length jY (pre.length + 1) (pre.length + 1 + B.length) (by omega) (by rw [ml]; omega) (aW _) (by omega) (aW _) (.inl rfl) (.inl rfl)
 rw [hm, R, e, kU]
 simp only [Int.lt_irrefl, cI, aB, aJ, ol]
 obtain ⟨P, S, rfl, M⟩ := vW (l := B) (n := t - (pre.length + 1)) (by omega)
 simp only [aF] at r t2 t4
 have J : pre ++ x.1 :: ((P ++ S).map (·.1) ++ post) = pre ++ x.1 :: (P.map (·.1) ++ (S.map (·.1) ++ post)) := by simp
 rw [J, SQ x.1 (P.map (·.1)) pre (S.map (·.1) ++ post) jY a (t : Int) (by rw [ml]; simp; omega) (by simp; omega) ha (by simp; omega)]
 refine ⟨P ++ x :: S, by simp, Hx h L ?_ ?_, eP⟩
 ·intro A' z v B' i d
  simp only [aZ] at d
  rw [← d.1]
  have O : 0 < P.length := by rw [i]; simp
  have hp : g (t - 1) = true := by
   rcases t3 with t3 | t3
   ·omega
   ·exact t3
  have p := xV (Dm S i)
  rw [show P.length - 1 = t - 1 - (pre.length + 1) by omega] at p
  simp only [g, p] at hp
  exact .inl hp
 ·intro A' z v B' i d
  have hz : z = x := by
   cases A' with
   | nil => simpa using i.symm
   | cons _ A' => simp at i
  rw [hz]
  have Q : 0 < S.length := by rw [d]; simp
  have hp : g t = false := by
   rcases t4 with t4 | t4
   ·omega
   ·exact t4
  have p := xV (CU P d)
  rw [M] at p
  simp only [g, p] at hp
  exact .inr ⟨hp, Y v (by rw [d]; simp)⟩
theorem SK (h : SWO (nq c)) (Q : Cg f c G) (y : Formula × Nat) (A : List (Formula × Nat)) (pre post : List Formula) (a m : Int) (J : nY (nq c) A) (U : ∀ x ∈ A, x.2 < y.2) (s : ∀ x ∈ y :: A, G x.1) (R : (pre ++ (A.map (·.1) ++ y.1 :: post)).length ≤ 400000) (ha : a = (pre.length : Int)) (hm : m = ((pre.length + A.length : Nat) : Int)) :
  ∃ u, kV (pre ++ (A.map (·.1) ++ y.1 :: post)) m f jY a m = some (pre ++ (u.map (·.1) ++ post)) ∧ nY (nq c) u ∧ u.Perm (A ++ [y]) := by
 have p := R
 simp only [aF, aI, dq] at p
 let g : Nat → Bool := fun k => match (A.map (·.1))[k - pre.length]? with | some x => !nq c y.1 x | none => false
 have i : ∀ k, pre.length ≤ k → k < pre.length + A.length → Ask (pre ++ (A.map (·.1) ++ y.1 :: post)) f m (k : Int) (!g k) := by
  intro k h1 Z
  obtain ⟨x, r, w⟩ := MD pre (A.map (·.1)) (y.1 :: post) k h1 (by simp; omega)
  have E : lB (pre ++ (A.map (·.1) ++ y.1 :: post)) m = some y.1 := by
   have := mL (pre ++ A.map (·.1)) y.1 post m (by rw [hm]; simp)
   simpa using this
  have W : G x := by
   obtain ⟨q, T, rfl⟩ := bM.1 (dm r)
   exact s q (by simp [T])
  refine ⟨y.1, x, _, E, w, Q y.1 x (s y (by simp)) W, ?_⟩
  simp only [g, r, gy]
 obtain ⟨t, n', t1, t2, t3, t4, e⟩ := TY (f := f) _ m g pre.length (pre.length + A.length) (by omega) i A.length jY pre.length (pre.length + A.length) (by omega) (by rw [ml]; omega) (aW _) (by omega) (aW _) (.inl rfl) (.inl rfl)
 rw [← hm, ← ha] at e
 rw [e, kV]
 simp only [Int.lt_irrefl, cI, aB, aJ, ol]
 obtain ⟨P, S, rfl, L⟩ := vW (l := A) (n := t - pre.length) (by omega)
 simp only [aF] at p t2 t4 hm
 have I : pre ++ ((P ++ S).map (·.1) ++ y.1 :: post) = (pre ++ P.map (·.1)) ++ (S.map (·.1) ++ y.1 :: post) := by simp
 rw [I, TT y.1 S.length (S.map (·.1)) (pre ++ P.map (·.1)) post jY m (t : Int) (by simp) (by rw [ml]; omega) (by simp; omega) (by rw [hm]; simp; omega) (by simp; omega)]
 refine ⟨P ++ y :: S, by simp, Hx h J ?_ ?_, List.perm_middle.trans (fH y (P ++ S)).symm⟩
 ·intro A' z v B' b d
  simp only [aZ] at d
  rw [← d.1]
  have M : 0 < P.length := by rw [b]; simp
  have hp : g (t - 1) = true := by
   rcases t3 with t3 | t3
   ·omega
   ·exact t3
  have j := xV (Dm S b)
  rw [show P.length - 1 = t - 1 - pre.length by omega] at j
  simp only [g, j, fE] at hp
  exact .inr ⟨hp, U z (by rw [b]; simp)⟩
 ·intro A' z v B' b d
  have Y : z = y := by
   cases A' with
   | nil => simpa using b.symm
   | cons _ A' => simp at b
  rw [Y]
  have O : 0 < S.length := by rw [d]; simp
  have hp : g t = false := by
   rcases t4 with t4 | t4
   ·omega
   ·exact t4
  have j := xV (CU P d)
  rw [L] at j
  simp only [g, j, Bool.not_eq_false'] at hp
  exact .inl hp
theorem N2 {α : Type} {A1 A2 B1 B2 C1 C2 : List α} (b : C1.Perm (A1 ++ B1)) (d : C2.Perm (A2 ++ B2)) : (C1 ++ C2).Perm ((A1 ++ A2) ++ (B1 ++ B2)) := by
 refine (b.append d).trans ?_
 simp only [aN]
 refine cD A1 ?_
 exact fD B1 A2 B2
def Po (c : Formula → Formula → Int) (A B : List Formula) (b d p q : Nat) : Bool := match A[q - b]?, B[p - q - d]? with | some x, some y => !nq c y x | _, _ => false
theorem IX {A B : List Formula} {b d p q : Nat} {x y : Formula} (h1 : A[q - b]? = some x) (g : B[p - q - d]? = some y) : Po c A B b d p q = !nq c y x := by simp only [Po, h1, g]
theorem Tw (n : Cg f c G) (A B : List (Formula × Nat)) (pre post : List Formula) (b p : Nat) (r : b = pre.length + A.length) (i : ∀ x ∈ A ++ B, G x.1) (q : Nat) (u : pre.length ≤ q) (v : q < b) (w : b ≤ p - q) (E : p - q < b + B.length) :
  Ask (pre ++ (A.map (·.1) ++ (B.map (·.1) ++ post))) f ((p - q : Nat) : Int) (q : Int) (!Po c (A.map (·.1)) (B.map (·.1)) pre.length b p q) := by
 obtain ⟨x, h, j⟩ := MD pre (A.map (·.1)) (B.map (·.1) ++ post) q u (by simp; omega)
 obtain ⟨y, d, l⟩ := MD (pre ++ A.map (·.1)) (B.map (·.1)) post (p - q) (by simp; omega) (by simp; omega)
 have s : G x := by
  obtain ⟨z, g, rfl⟩ := bM.1 (dm h)
  exact i z (by simp [g])
 have t : G y := by
  obtain ⟨z, g, rfl⟩ := bM.1 (dm d)
  exact i z (by simp [g])
 have m : lB (pre ++ (A.map (·.1) ++ (B.map (·.1) ++ post))) ((p - q : Nat) : Int) = some y := by simpa using l
 refine ⟨y, x, _, m, j, n y x t s, ?_⟩
 rw [show p - q - (pre ++ A.map (·.1)).length = p - q - b by simp; omega] at d
 rw [IX h d, gy]
abbrev TN (c : Formula → Formula → Int) (G : Formula → Prop) (f : Formula × Formula → Option Int) (rec : List Formula → Int → Int → Int → ((Formula × Formula) → Option Int) → Option (List Formula)) (k : Nat) : Prop :=
 ∀ (A B : List (Formula × Nat)) (pre post : List Formula) (a m b : Int), A.length + B.length ≤ k → 0 < A.length → 0 < B.length → nY (nq c) A → nY (nq c) B →
  (∀ x ∈ A, ∀ y ∈ B, x.2 < y.2) → (∀ x ∈ A ++ B, G x.1) → (pre ++ (A.map (·.1) ++ (B.map (·.1) ++ post))).length ≤ 400000 → a = (pre.length : Int) → m = ((pre.length + A.length : Nat) : Int) → b = ((pre.length + A.length + B.length : Nat) : Int) →
  ∃ u, rec (pre ++ (A.map (·.1) ++ (B.map (·.1) ++ post))) a m b f = some (pre ++ (u.map (·.1) ++ post)) ∧ nY (nq c) u ∧ u.Perm (A ++ B)
theorem RB (h : SWO (nq c)) {rec : List Formula → Int → Int → Int → ((Formula × Formula) → Option Int) → Option (List Formula)} {k : Nat} (ih : TN c G f rec k) (A1 A2 B1 B2 : List (Formula × Nat)) (pre post : List Formula) (a m b : Int) (mid d t : Nat) (P : d = pre.length + (A1.length + A2.length)) (R : mid = (pre.length + (d + (B1.length + B2.length))) / 2) (M : A1.length = t - pre.length) (O : B1.length = mid - t) (T : pre.length ≤ t) (U : t ≤ mid) (W : t ≤ d) (hk : A1.length + A2.length + (B1.length + B2.length) ≤ k + 1) (Q : 2 ≤ A1.length + A2.length + (B1.length + B2.length)) (p : nY (nq c) (A1 ++ A2)) (q : nY (nq c) (B1 ++ B2)) (L : ∀ x ∈ A1 ++ A2, ∀ y ∈ B1 ++ B2, x.2 < y.2) (J : ∀ x ∈ (A1 ++ A2) ++ (B1 ++ B2), G x.1) (hl : pre.length + (A1.length + A2.length + (B1.length + B2.length + post.length)) ≤ 400000) (ha : a = (pre.length : Int)) (hm : m = (d : Int)) (hb : b = ((d + (B1.length + B2.length) : Nat) : Int)) (Y : Lk (nq c) A1 B2) (Z : Lk (nq c) B1 A2) :
  ∃ u, ((if t < d ∧ d < mid + d - t then mI (pre ++ ((A1 ++ A2).map (·.1) ++ ((B1 ++ B2).map (·.1) ++ post))) (t : Int) m ((mid + d - t : Nat) : Int) f else some (pre ++ ((A1 ++ A2).map (·.1) ++ ((B1 ++ B2).map (·.1) ++ post)))).bind fun l =>
   ((if a < (t : Int) ∧ t < mid then rec l a (t : Int) (mid : Int) f else some l).bind fun l => if mid < mid + d - t ∧ ((mid + d - t : Nat) : Int) < b then rec l (mid : Int) ((mid + d - t : Nat) : Int) b f else some l)) = some (pre ++ (u.map (·.1) ++ post)) ∧ nY (nq c) u ∧ u.Perm ((A1 ++ A2) ++ (B1 ++ B2)) := by
 have r1 : (if t < d ∧ d < mid + d - t then mI (pre ++ ((A1 ++ A2).map (·.1) ++ ((B1 ++ B2).map (·.1) ++ post))) (t : Int) m ((mid + d - t : Nat) : Int) f else some (pre ++ ((A1 ++ A2).map (·.1) ++ ((B1 ++ B2).map (·.1) ++ post)))) =
   some (pre ++ (A1.map (·.1) ++ (B1.map (·.1) ++ (A2.map (·.1) ++ (B2.map (·.1) ++ post))))) := by
  by_cases i : t < d ∧ d < mid + d - t
  ·rw [bB i]
   have := TS (f := f) (A2.map (·.1)) (B1.map (·.1)) (pre ++ A1.map (·.1)) (B2.map (·.1) ++ post) (t : Int) m ((mid + d - t : Nat) : Int) (by simp; omega) (by simp; omega) (by simp; omega) (by simp; omega) (by simp; omega) (by simp; omega)
   simpa using this
  ·rw [bo i]
   have : A2 = [] ∨ B1 = [] := by
    by_cases h1 : A2.length = 0
    ·exact .inl (aV h1)
    ·exact .inr (aV (by omega))
   rcases this with rfl | rfl <;> simp
 rw [r1, aA]
 have r2 : ∃ C1, (if a < (t : Int) ∧ t < mid then rec (pre ++ (A1.map (·.1) ++ (B1.map (·.1) ++ (A2.map (·.1) ++ (B2.map (·.1) ++ post))))) a (t : Int) (mid : Int) f else some (pre ++ (A1.map (·.1) ++ (B1.map (·.1) ++ (A2.map (·.1) ++ (B2.map (·.1) ++ post)))))) =
   some (pre ++ (C1.map (·.1) ++ (A2.map (·.1) ++ (B2.map (·.1) ++ post)))) ∧ nY (nq c) C1 ∧ C1.Perm (A1 ++ B1) := by
  by_cases i : a < (t : Int) ∧ t < mid
  ·rw [bB i]
   exact ih A1 B1 pre (A2.map (·.1) ++ (B2.map (·.1) ++ post)) a t mid (by omega) (by omega) (by omega) p.left q.left (fun x g y A => L x (by simp [g]) y (by simp [A])) (fun x g => J x (by simp at g ⊢; rcases g with g | g <;> simp [g]))
    (by simp; omega) ha (by omega) (by omega)
  ·rw [bo i]
   refine ⟨A1 ++ B1, by simp, IZ h p.left q.left (fun A' x y B' E I => ?_), .refl _⟩
   have g1 : 0 < A1.length := by rw [E]; simp
   have g2 : 0 < B1.length := by rw [I]; simp
   omega
 obtain ⟨C1, r, v, j⟩ := r2
 have s := j.length_eq
 simp only [aF] at s
 rw [r, aA]
 have r3 : ∃ C2, (if mid < mid + d - t ∧ ((mid + d - t : Nat) : Int) < b then rec (pre ++ (C1.map (·.1) ++ (A2.map (·.1) ++ (B2.map (·.1) ++ post)))) (mid : Int) ((mid + d - t : Nat) : Int) b f else some (pre ++ (C1.map (·.1) ++ (A2.map (·.1) ++ (B2.map (·.1) ++ post))))) =
   some ((pre ++ C1.map (·.1)) ++ (C2.map (·.1) ++ post)) ∧ nY (nq c) C2 ∧ C2.Perm (A2 ++ B2) := by
  by_cases i : mid < mid + d - t ∧ ((mid + d - t : Nat) : Int) < b
  ·rw [bB i]
   have := ih A2 B2 (pre ++ C1.map (·.1)) post mid ((mid + d - t : Nat) : Int) b (by omega) (by omega) (by omega) p.right q.right (fun x g y A => L x (by simp [g]) y (by simp [A])) (fun x g => J x (by simp at g ⊢; rcases g with g | g <;> simp [g]))
    (by simp; omega) (by simp; omega) (by simp; omega) (by simp; omega)
   simpa using this
  ·rw [bo i]
   refine ⟨A2 ++ B2, by simp, IZ h p.right q.right (fun A' x y B' E I => ?_), .refl _⟩
   have g1 : 0 < A2.length := by rw [E]; simp
   have g2 : 0 < B2.length := by rw [I]; simp
   omega
 obtain ⟨C2, w, z, n⟩ := r3
 rw [w]
 exact ⟨C1 ++ C2, by simp, Qq h p q Y Z j n v z, N2 j n⟩
theorem Og (F : Nat) (M : 1000000 < F) (L : List Formula) (rec : List Formula → Int → Int → Int → ((Formula × Formula) → Option Int) → Option (List Formula)) (pl g h mid d p : Nat) (a b m : Int) (s : Nat → Bool) (y : 0 < g) (z : 0 < h) (G : pl + (g + h) ≤ 400000) (E : mid = (pl + (pl + g + h)) / 2) (A : d = pl + g) (hp : p + 1 = mid + d) (n : a + b = ((2 * mid : Nat) : Int) ∨ a + b = ((2 * mid + 1 : Nat) : Int)) (ha : a = (pl : Int)) (l : m = (d : Int)) (O : b = ((pl + g + h : Nat) : Int)) (i : ∀ q, pl ≤ q → q < d → d ≤ p - q → p - q < d + h → Ask L f ((p - q : Nat) : Int) (q : Int) (!s q)) :
  ∃ t r lo u : Nat, (lo = pl ∧ u = d ∧ d ≤ mid ∨ lo + (pl + g + h) = mid + d ∧ u = mid ∧ mid < d) ∧ lo ≤ t ∧ t ≤ u ∧ (t = lo ∨ s (t - 1) = true) ∧ (t = u ∨ s t = false) ∧
    ((if decide (m > (mid : Int)) then some (wi0 .i64 (((mid + d : Nat) : Int) - b), (mid : Int)) else some (a, m) : Option (Int × Int)).bind fun x => kF L a b m f rec F x.1 x.2) =
     kF L a b m f rec (r + 1) (t : Int) (t : Int) := by
 by_cases w : mid < d
 ·obtain ⟨lo, v⟩ : ∃ lo : Nat, lo + (pl + g + h) = mid + d := ⟨mid + d - (pl + g + h), by omega⟩
  obtain ⟨t, r, t1, t2, t3, t4, e⟩ := Td (f := f) L a b m rec mid d p n l hp s lo mid (by omega) (by omega) (by omega) (by omega) (fun q I J => i q (by omega) (by omega) (by omega) (by omega))
   (mid - lo) F lo mid (aW _) (by omega) (aW _) (by omega) (aW _) (.inl rfl) (.inl rfl)
  refine ⟨t, r, lo, mid, .inr ⟨v, rfl, w⟩, t1, t2, t3, t4, ?_⟩
  have j : m > (mid : Int) := by omega
  simp only [j, cA, aO, aA]
  rw [np lo (by omega) (by omega), e]
 ·obtain ⟨t, r, t1, t2, t3, t4, e⟩ := Td (f := f) L a b m rec mid d p n l hp s pl d (by omega) (by omega) (by omega) (by omega) (fun q I J => i q (by omega) (by omega) (by omega) (by omega))
   (d - pl) F pl d (aW _) (by omega) (aW _) (by omega) (aW _) (.inl rfl) (.inl rfl)
  refine ⟨t, r, pl, d, .inl ⟨rfl, rfl, by omega⟩, t1, t2, t3, t4, ?_⟩
  have j : ¬ (m > (mid : Int)) := by omega
  simp only [j, cI, aB, aJ, aA]
  rw [← e, ← ha, ← l]
set_option maxHeartbeats 2000000 in
theorem Tz (h : SWO (nq c)) (hf : Cg f c G) : ∀ (k : Nat) (A B : List (Formula × Nat)) (pre post : List Formula) (n : Nat) (a m b : Int), A.length + B.length ≤ k → 0 < A.length → 0 < B.length → k < n → nY (nq c) A → nY (nq c) B →
  (∀ x ∈ A, ∀ y ∈ B, x.2 < y.2) → (∀ x ∈ A ++ B, G x.1) → (pre ++ (A.map (·.1) ++ (B.map (·.1) ++ post))).length ≤ 400000 → a = (pre.length : Int) → m = ((pre.length + A.length : Nat) : Int) → b = ((pre.length + A.length + B.length : Nat) : Int) →
  ∃ u, lx n (pre ++ (A.map (·.1) ++ (B.map (·.1) ++ post))) a m b f = some (pre ++ (u.map (·.1) ++ post)) ∧ nY (nq c) u ∧ u.Perm (A ++ B) := by
 intro k
 induction k with
 | zero => intro A B pre post n a m b h0 h1 h2; omega
 | succ k ih =>
  intro A B pre post n a m b h0 h1 h2 hn hA hB W U hl ha hm P
  obtain ⟨n, rfl⟩ := aT (by omega : n ≠ 0)
  have Q := hl
  simp only [aF, dq] at Q
  rw [lx]
  unfold oJ
  by_cases c1 : A.length = 1
  ·obtain ⟨x, rfl⟩ := List.length_eq_one_iff.1 c1
   have : (wi0 .i64 (m - a) == 1) = true := by rw [np 1 (by simp at hm; omega) (by omega)]; rfl
   simp only [this, aO]
   obtain ⟨u, u1, u2, u3⟩ := SA h hf x B pre post a m b hB (fun y hy => W x (by simp) y hy) (fun y hy => U y (by simpa using hy)) (by simpa using hl) ha (by simpa using hm) (by simpa using P)
   exact ⟨u, by simpa using u1, u2, by simpa using u3⟩
  have n1 : (wi0 .i64 (m - a) == 1) = false := by rw [np A.length (by omega) (by omega)]; simp; omega
  simp only [n1, aB, aJ]
  by_cases c2 : B.length = 1
  ·obtain ⟨y, rfl⟩ := List.length_eq_one_iff.1 c2
   have : (wi0 .i64 (b - m) == 1) = true := by rw [np 1 (by simp at P; omega) (by omega)]; rfl
   simp only [this, aO]
   obtain ⟨u, u1, u2, u3⟩ := SK h hf y A pre post a m hA (fun x Y => W x Y y (by simp)) (fun x Y => U x (by simp at Y ⊢; exact Y.symm)) (by simpa using hl) ha hm
   exact ⟨u, by simpa using u1, u2, u3⟩
  have n2 : (wi0 .i64 (b - m) == 1) = false := by rw [np B.length (by omega) (by omega)]; simp; omega
  simp only [n2, aB, aJ]
  obtain ⟨F, hF, a1⟩ : ∃ F, F = jY ∧ 1000000 < F := ⟨jY, rfl, by rw [ml]; omega⟩
  rw [← hF]
  obtain ⟨mid, I⟩ : ∃ mid : Nat, mid = (pre.length + (pre.length + A.length + B.length)) / 2 := ⟨_, rfl⟩
  obtain ⟨d, j⟩ : ∃ d : Nat, d = pre.length + A.length := ⟨_, rfl⟩
  obtain ⟨p, hp⟩ : ∃ p : Nat, p + 1 = mid + d := ⟨mid + d - 1, by omega⟩
  have w : a + b = ((2 * mid : Nat) : Int) ∨ a + b = ((2 * mid + 1 : Nat) : Int) := by omega
  have J : wi0 .i64 (Int.fdiv (IntKind.u64.wrap (wi0 .i64 (a + b))) (2 ^ min (Int.toNat 1) (IntKind.bits .u64))) = (mid : Int) := by
   rcases w with h | h
   ·rw [CM _ h (by omega), show 2 * mid / 2 = mid by omega]
   ·rw [CM _ h (by omega), show (2 * mid + 1) / 2 = mid by omega]
  have E : m = (d : Int) := by omega
  have w1 : wi0 .i64 ((mid : Int) + m) = ((mid + d : Nat) : Int) := np _ (by omega) (by omega)
  obtain ⟨L, r⟩ : ∃ L : Nat → Bool, L = Po c (A.map (·.1)) (B.map (·.1)) pre.length d p := ⟨_, rfl⟩
  have O : ∀ q, pre.length ≤ q → q < d → d ≤ p - q → p - q < d + B.length → Ask (pre ++ (A.map (·.1) ++ (B.map (·.1) ++ post))) f ((p - q : Nat) : Int) (q : Int) (!L q) := fun q g i q3 q4 => by rw [r]; exact Tw hf A B pre post d p j U q g i q3 q4
  obtain ⟨t, n', lo, hi, a6, t1, t2, t3, t4, e⟩ := Og (f := f) F a1 (pre ++ (A.map (·.1) ++ (B.map (·.1) ++ post))) (lx n) pre.length A.length B.length mid d p a b m L (by omega) (by omega) (by omega) I j hp w ha E P O
  simp only [J, w1]
  rw [e, RN (f := f) _ a b m _ mid d t n' w E (by omega) (by omega) (by omega)]
  obtain ⟨A1, A2, rfl, M⟩ := vW (l := A) (n := t - pre.length) (by omega)
  obtain ⟨B1, B2, rfl, Z⟩ := vW (l := B) (n := mid - t) (by omega)
  simp only [aF] at h0 h1 h2 Q t1 t2 t3 t4 a6 hm P j I
  have R : ∀ q x y, ((A1 ++ A2).map (·.1))[q - pre.length]? = some x → ((B1 ++ B2).map (·.1))[p - q - d]? = some y → L q = !nq c y x := fun q x y s v => by rw [r]; exact IX s v
  have l1 : Lk (nq c) A1 B2 := by
   intro A' z b' B' g i
   have g1 : 0 < A1.length := by rw [g]; simp
   have g2 : 0 < B2.length := by rw [i]; simp
   have T : L (t - 1) = true := by
    rcases t3 with t3 | t3
    ·omega
    ·exact t3
   have s := xV (Dm A2 g)
   have v := xV (CU B1 i)
   rw [show A1.length - 1 = t - 1 - pre.length by omega] at s
   rw [show B1.length = p - (t - 1) - d by omega] at v
   rw [R _ _ _ s v, fE] at T
   exact .inr ⟨T, W z (by rw [g]; simp) b' (by rw [i]; simp)⟩
  have l2 : Lk (nq c) B1 A2 := by
   intro A' z b' B' g i
   have g1 : 0 < B1.length := by rw [g]; simp
   have g2 : 0 < A2.length := by rw [i]; simp
   have T : L t = false := by
    rcases t4 with t4 | t4
    ·omega
    ·exact t4
   have s := xV (Dm B2 g)
   have v := xV (CU A1 i)
   rw [show B1.length - 1 = p - t - d by omega] at s
   rw [M] at v
   rw [R _ _ _ v s, Bool.not_eq_false'] at T
   exact .inl T
  exact RB h (fun A B pre post a m b g i q3 => ih A B pre post n a m b g i q3 (by omega)) A1 A2 B1 B2 pre post a m b mid d t j (by rw [I]; congr 1; omega) M Z (by omega) (by omega) (by omega) (by omega) (by omega) hA hB W U (by omega) ha E (by rw [P]; congr 1; omega) l1 l2
end
section
variable {c : Formula → Formula → Int} {G : Formula → Prop} {f : Formula × Formula → Option Int}
def wV (c : Formula → Formula → Int) : Nat → List (List (Formula × Nat)) → Prop
 | _, [] => True
 | o, A :: bs => nY (nq c) A ∧ (∀ x ∈ A, o ≤ x.2 ∧ x.2 < o + A.length) ∧ wV c (o + A.length) bs
def WB (s : Nat) : List (List (Formula × Nat)) → Prop
 | [] => True
 | A :: bs => A.length ≤ s ∧ (bs ≠ [] → A.length = s) ∧ WB s bs
theorem wV.append : ∀ {ds bs : List (List (Formula × Nat))} {o : Nat}, wV c o (ds ++ bs) ↔ wV c o ds ∧ wV c (o + ds.flatten.length) bs
 | [], bs, o => by simp [wV]
 | A :: ds, bs, o => by
  simp only [bP, wV, wV.append (ds := ds), bO, aF, and_assoc, eo]
def fm (bs : List (List (Formula × Nat))) : List Formula := bs.flatten.map (·.1)
theorem Ih (a b : List (List (Formula × Nat))) : fm (a ++ b) = fm a ++ fm b := by simp [fm]
theorem La (A : List (Formula × Nat)) (b : List (List (Formula × Nat))) : fm (A :: b) = A.map (·.1) ++ fm b := by simp [fm]
theorem qL (a : List (List (Formula × Nat))) : (fm a).length = a.flatten.length := by unfold fm; rw [dq]
theorem NR (ds : List (List (Formula × Nat))) (C : List (Formula × Nat)) : (ds ++ [C]).flatten.length = ds.flatten.length + C.length := by rw [cO, aF]; simp only [bO, dy, bA]
theorem Ro (C : List (Formula × Nat)) (bs : List (List (Formula × Nat))) : fm ([C] ++ bs) = C.map (·.1) ++ fm bs := by simp [fm]
theorem E2 {R : List Formula} {o : Nat} {x : Formula × Nat} (h : x ∈ R.zipIdx o) : x.1 ∈ R := List.fst_mem_of_mem_zipIdx h
theorem WB.two {s : Nat} {A : List (Formula × Nat)} {bs : List (List (Formula × Nat))} (i : 0 < s) (h : WB s (A :: bs)) (g : s < (A :: bs).flatten.length) : A.length = s ∧ ∃ B b, bs = B :: b ∧ (B.length = s ∨ b = []) ∧ B.length ≤ s ∧ WB s b := by
 cases bs with
 | nil => simp at g; have := h.1; omega
 | cons B b =>
  refine ⟨h.2.1 (by simp), B, b, rfl, ?_, h.2.2.1, h.2.2.2.2⟩
  by_cases d : b = []
  ·exact .inr d
  ·exact .inl (h.2.2.2.1 d)
theorem JY (h : SWO (nq c)) (v : Cg f c G) {ds bs : List (List (Formula × Nat))} {A B : List (Formula × Nat)} (hO : wV c 0 (ds ++ A :: B :: bs)) (t : ∀ x ∈ (ds ++ A :: B :: bs).flatten, G x.1) (i : (fm (ds ++ A :: B :: bs)).length ≤ 400000) (r : 0 < A.length) (s : 0 < B.length) (a m b : Int) (ha : a = (ds.flatten.length : Int)) (hm : m = ((ds.flatten.length + A.length : Nat) : Int)) (u : b = ((ds.flatten.length + A.length + B.length : Nat) : Int)) :
  ∃ C, lx jY (fm (ds ++ A :: B :: bs)) a m b f = some (fm ((ds ++ [C]) ++ bs)) ∧ wV c 0 ((ds ++ [C]) ++ bs) ∧ C.Perm (A ++ B) := by
 obtain ⟨h1, q⟩ := wV.append.1 hO
 obtain ⟨J, n, L, p, w⟩ := q
 have e : fm (ds ++ A :: B :: bs) = fm ds ++ (A.map (·.1) ++ (B.map (·.1) ++ fm bs)) := by rw [Ih, La, La]
 rw [e] at i ⊢
 have j := i
 simp only [aF, dq, qL] at j
 obtain ⟨C, E, I, l⟩ := Tz h v (A.length + B.length) A B (fm ds) (fm bs) jY a m b (aW _) r s (by rw [ml]; omega) J L (fun x d y z => by have := (n x d).2; have := (p y z).1; omega)
  (fun x d => t x (by
   rw [cO, bO, bO, aU, aU, aU]
   rcases aU.1 d with d | d
   ·exact .inr (.inl d)
   ·exact .inr (.inr (.inl d)))) i (by rw [ha, qL]) (by rw [hm, qL]) (by rw [u, qL])
 have g := l.length_eq
 simp only [aF] at g
 refine ⟨C, by rw [E, aN, Ih, Ro], ?_, l⟩
 ·rw [aN, wV.append]
  refine ⟨h1, I, fun x d => ?_, ?_⟩
  ·rcases aU.1 (l.mem_iff.1 d) with d | d
   ·have := n x d; omega
   ·have := p x d; omega
  ·rw [g, ← eo]; exact w
theorem Jf {ds bs : List (List (Formula × Nat))} {A B C : List (Formula × Nat)} (h : C.Perm (A ++ B)) : ((ds ++ [C]) ++ bs).flatten.Perm (ds ++ A :: B :: bs).flatten := by
 simp only [cO, bO, dy, bA, aN]
 refine cD _ ?_
 rw [← aN]
 exact h.append_right _
theorem PU (h : SWO (nq c)) (Q : Cg f c G) (s : Nat) (T : 0 < s) (U : s ≤ 1000000) (N : Nat) (hN : N ≤ 400000) : ∀ (k : Nat) (bs ds : List (List (Formula × Nat))) (n : Nat) (a b : Int), bs.length ≤ k → k < n → wV c 0 (ds ++ bs) → (∀ x ∈ (ds ++ bs).flatten, G x.1) → (ds ++ bs).flatten.length = N → WB s bs → (∀ A ∈ ds, A.length = 2 * s) →
  a = (ds.flatten.length : Int) → b = ((ds.flatten.length + 2 * s : Nat) : Int) →
  ∃ es r, mw (N : Int) (s : Int) f n (fm (ds ++ bs)) a b = some (fm (es ++ r), (es.flatten.length : Int)) ∧ wV c 0 (es ++ r) ∧ (es ++ r).flatten.Perm (ds ++ bs).flatten ∧ WB s r ∧ r.flatten.length < 2 * s ∧ (∀ A ∈ es, A.length = 2 * s) := by
 intro k
 induction k with
 | zero =>
  intro bs ds n a b hk R hO q j t l ha O
  obtain ⟨n, rfl⟩ := aT (by omega : n ≠ 0)
  obtain rfl := aV (Nat.le_zero.1 hk)
  simp only [bA] at j
  rw [mw]
  have : ¬ (b ≤ (N : Int)) := by omega
  simp only [this, cI, aB, aJ]
  exact ⟨ds, [], by rw [ha], hO, .refl _, trivial, by simp only [dy, bR]; omega, l⟩
 | succ k ih =>
  intro bs ds n a b hk R hO q j t l ha O
  obtain ⟨n, rfl⟩ := aT (by omega : n ≠ 0)
  rw [mw]
  by_cases hle : b ≤ (N : Int)
  ·simp only [hle, cA, aO]
   have d := j
   rw [cO, aF] at d
   cases bs with
   | nil => simp only [dy, bR] at d; omega
   | cons A bs =>
    obtain ⟨hA, B, i, rfl, m, L, u⟩ := WB.two T t (by omega)
    have M : B.length = s := by
     rcases m with m | rfl
     ·exact m
     ·simp only [bO, dy, bA, aF] at d; omega
    have w1 : wi0 .i64 (a + (s : Int)) = ((ds.flatten.length + A.length : Nat) : Int) := np _ (by omega) (by omega)
    obtain ⟨C, Y, Z, v⟩ := JY h Q hO q (by rw [qL]; omega) (by omega) (by omega) a _ b ha w1 (by omega)
    rw [Y, aA]
    have p := v.length_eq
    simp only [aF] at p
    have w2 : wi0 .i64 (2 * (s : Int)) = ((2 * s : Nat) : Int) := np _ (by omega) (by omega)
    have P : (ds ++ [C]).flatten.length = ds.flatten.length + 2 * s := by rw [NR]; omega
    have w3 : wi0 .i64 (b + ((2 * s : Nat) : Int)) = (((ds ++ [C]).flatten.length + 2 * s : Nat) : Int) := np _ (by omega) (by omega)
    have hp := Jf (ds := ds) (bs := i) v
    rw [w2, w3]
    obtain ⟨es, r, w, y, z, E, I, J⟩ := ih i (ds ++ [C]) n b _ (by simp at hk; omega) (by omega) Z (fun x W => q x (hp.mem_iff.1 W)) (by rw [hp.length_eq, j]) u (fun X g => by
     rcases aU.1 g with g | g
     ·exact l X g
     ·simp at g; rw [g]; omega) (by rw [P]; omega) rfl
    exact ⟨es, r, w, y, z.trans hp, E, I, J⟩
  ·simp only [hle, cI, aB, aJ]
   refine ⟨ds, bs, by rw [ha], hO, .refl _, t, ?_, l⟩
   rw [cO, aF] at j
   omega
theorem WB.GD {t : Nat} : ∀ {es : List (List (Formula × Nat))} {C : List (Formula × Nat)}, (∀ A ∈ es, A.length = t) → C.length ≤ t → WB t (es ++ [C])
 | [], C, _, b => ⟨b, fun h => absurd rfl h, trivial⟩
 | E :: es, C, h, b => ⟨by rw [h E (by simp)]; omega, fun _ => h E (by simp), WB.GD (fun A d => h A (by simp [d])) b⟩
theorem MP {s : Nat} {r : List (List (Formula × Nat))} {o : Nat} (d : WB s r) (g : r.flatten.length ≤ s) (hO : wV c o r) : nY (nq c) r.flatten ∧ ∀ x ∈ r.flatten, o ≤ x.2 ∧ x.2 < o + r.flatten.length := by
 cases r with
 | nil => exact ⟨.nil, fun x h => by cases h⟩
 | cons A r =>
  have : r.flatten = [] := by
   by_cases b : r = []
   ·rw [b]; rfl
   ·have := d.2.1 b
    rw [bO, aF] at g
    exact aV (by omega)
  rw [bO, this, bA]
  exact ⟨hO.1, hO.2.1⟩
theorem OA (h : SWO (nq c)) (W : Cg f c G) (N : Nat) (hN : N ≤ 400000) : ∀ (k s : Nat) (bs : List (List (Formula × Nat))) (n : Nat), N - s ≤ k → k < n → 0 < s → s ≤ 1000000 → wV c 0 bs → (∀ x ∈ bs.flatten, G x.1) → bs.flatten.length = N → WB s bs →
  ∃ u, lU (N : Int) f n (fm bs) (s : Int) = some (u.map (·.1)) ∧ nY (nq c) u ∧ u.Perm bs.flatten := by
 intro k
 induction k with
 | zero =>
  intro s bs n hk hn J p hO m j d
  obtain ⟨n, rfl⟩ := aT (by omega : n ≠ 0)
  rw [lU]
  have : ¬ ((s : Int) < (N : Int)) := by omega
  simp only [this, cI, aB, aJ]
  refine ⟨bs.flatten, rfl, ?_, .refl _⟩
  cases bs with
  | nil => exact .nil
  | cons A bs =>
   have : bs.flatten = [] := by
    by_cases g : bs = []
    ·rw [g]; rfl
    ·have := d.2.1 g
     rw [bO, aF] at j
     exact aV (by omega)
   rw [bO, this, bA]
   exact hO.1
 | succ k ih =>
  intro s bs n hk hn J p hO m j d
  by_cases a8 : s < N
  ·obtain ⟨n, rfl⟩ := aT (by omega : n ≠ 0)
   rw [lU]
   have : ((s : Int) < (N : Int)) := by omega
   simp only [this, cA, aO]
   have w1 : wi0 .i64 (2 * (s : Int)) = ((2 * s : Nat) : Int) := np _ (by omega) (by omega)
   have w0 : wi0 .i64 ((s : Int) * 2) = ((2 * s : Nat) : Int) := np _ (by omega) (by omega)
   have a7 : bs.length ≤ 2000000 := by
    have : ∀ {bs : List (List (Formula × Nat))}, WB s bs → bs.length ≤ bs.flatten.length + 1 := by
     intro bs
     induction bs with
     | nil => intro _; simp
     | cons A bs L =>
      intro d
      by_cases g : bs = []
      ·subst g; simp
      ·have := d.2.1 g
       have := L d.2.2
       simp only [aI, bO, aF]
       omega
    have := this d
    omega
   obtain ⟨es, r, P, Q, b, R, T, U⟩ := PU h W s J p N hN bs.length bs [] jY 0 ((2 * s : Nat) : Int) (aW _) (by rw [ml]; omega) (by simpa using hO) (by simpa using m) (by simpa using j) d (by simp) rfl (by simp)
   simp only [bE] at P b
   rw [w1, P, aA, w0]
   have l := b.length_eq
   rw [j, cO, aF] at l
   have w2 : wi0 .i64 ((es.flatten.length : Int) + (s : Int)) = ((es.flatten.length + s : Nat) : Int) := np _ (by omega) (by omega)
   simp only [w2]
   by_cases hm : es.flatten.length + s < N
   ·have : (((es.flatten.length + s : Nat) : Int) < (N : Int)) := by omega
    simp only [this, cA, aO, ol]
    cases r with
    | nil => simp only [dy, bR] at l; omega
    | cons A r =>
     obtain ⟨hA, B, r', rfl, t, a1, a6⟩ := WB.two J R (by omega)
     have I : r' = [] := by
      rcases t with t | t
      ·by_cases hr : r' = []
       ·exact hr
       ·simp only [bO, aF] at T; omega
      ·exact t
     subst I
     simp only [bO, dy, bA, aF] at l T
     obtain ⟨C, q1, Y, Z⟩ := JY h W Q (fun x q => m x (b.mem_iff.1 q)) (by rw [qL, b.length_eq]; omega) (by omega) (by omega) (es.flatten.length : Int) ((es.flatten.length + s : Nat) : Int) (N : Int) rfl (by omega) (by omega)
     rw [q1, aA]
     have w := Z.length_eq
     simp only [aF] at w
     have hp := (Jf (ds := es) (bs := []) Z).trans b
     simp only [bA] at Y hp ⊢
     obtain ⟨u, M, O, v⟩ := ih (2 * s) (es ++ [C]) n (by omega) (by omega) (by omega) (by omega) Y (fun x q => m x (hp.mem_iff.1 q)) (by rw [hp.length_eq, j]) (WB.GD U (by omega))
     exact ⟨u, M, O, v.trans hp⟩
   ·have : ¬ (((es.flatten.length + s : Nat) : Int) < (N : Int)) := by omega
    simp only [this, cI, aB, aJ, aA]
    obtain ⟨y, z⟩ := wV.append.1 Q
    obtain ⟨b1, b2⟩ := MP R (by omega) z
    have E : fm (es ++ r) = fm (es ++ [r.flatten]) := by simp [fm]
    have i : (es ++ [r.flatten]).flatten = (es ++ r).flatten := by simp
    rw [E]
    obtain ⟨u, M, O, v⟩ := ih (2 * s) (es ++ [r.flatten]) n (by omega) (by omega) (by omega) (by omega) (wV.append.2 ⟨y, b1, b2, trivial⟩) (fun x q => m x (b.mem_iff.1 (by rw [← i]; exact q))) (by rw [i, b.length_eq, j]) (WB.GD U (by omega))
    exact ⟨u, M, O, by rw [i] at v; exact v.trans b⟩
  ·obtain ⟨n, rfl⟩ := aT (by omega : n ≠ 0)
   rw [lU]
   have : ¬ ((s : Int) < (N : Int)) := by omega
   simp only [this, cI, aB, aJ]
   refine ⟨bs.flatten, rfl, ?_, .refl _⟩
   cases bs with
   | nil => exact .nil
   | cons A bs =>
    have : bs.flatten = [] := by
     by_cases g : bs = []
     ·rw [g]; rfl
     ·have := d.2.1 g
      rw [bO, aF] at j
      exact aV (by omega)
    rw [bO, this, bA]
    exact hO.1
theorem HC : ∀ (l : List Formula) (o : Nat), (l.zipIdx o).Pairwise (fun x y => x.2 < y.2)
 | [], o => by simp
 | x :: l, o => by
  rw [iR, cJ]
  refine ⟨fun y d => ?_, HC l (o + 1)⟩
  obtain ⟨a, b⟩ := y
  have := List.le_snd_of_mem_zipIdx d
  simp only at this ⊢; omega
theorem KP (l : List Formula) (o : Nat) : ∀ x ∈ l.zipIdx o, o ≤ x.2 ∧ x.2 < o + l.length := by
 rintro ⟨a, b⟩ d
 have h1 := List.le_snd_of_mem_zipIdx d
 have g := List.snd_lt_add_of_mem_zipIdx d
 simp only at h1 g ⊢; omega
theorem M5 (h : SWO (nq c)) (l : Cg f c G) (N : Nat) (t : N ≤ 300000) (R : List Formula) (ds : List (List (Formula × Nat))) (n : Nat) (a b : Int) (z : 0 < n) (hO : wV c 0 ds) (p : ∀ A ∈ ds, A.length = 20) (q : ∀ x ∈ ds.flatten, G x.1) (j : ∀ x ∈ R, G x) (y : ds.flatten.length + R.length = N) (r : R.length < 20) (ha : a = (ds.flatten.length : Int)) (w : b = ((ds.flatten.length + 20 : Nat) : Int)) :
  ∃ u, lV (N : Int) f n (fm ds ++ R) a b = some (u.map (·.1)) ∧ nY (nq c) u ∧ u.Perm (ds.flatten ++ R.zipIdx ds.flatten.length) := by
 obtain ⟨n, rfl⟩ := aT (by omega : n ≠ 0)
 rw [lV]
 have hle : ¬ (b ≤ (N : Int)) := by omega
 simp only [hle, cI, aB, aJ, ol]
 obtain ⟨u, m, s, g⟩ := Lq h l (fm ds) [] (R.zipIdx ds.flatten.length) a (N : Int) (HC _ _) (fun x d => j x.1 (E2 d)) (by simp only [aF, qL, dq, ew, bR]; omega) (by rw [qL]; exact ha) (by rw [qL, ew]; omega)
 rw [List.zipIdx_map_fst, bA, bA] at m
 have i := g.length_eq
 rw [ew] at i
 have e : fm ds ++ u.map (·.1) = fm (ds ++ [u]) := by simp [fm]
 have hp : (ds ++ [u]).flatten.Perm (ds.flatten ++ R.zipIdx ds.flatten.length) := by
  rw [cO]
  refine cD _ ?_
  simpa using g
 rw [m, aA, e]
 obtain ⟨v, v1, v2, v3⟩ := OA h l N (by omega) N 20 (ds ++ [u]) jY (by omega) (by rw [ml]; omega) (by omega) (by omega) (wV.append.2 ⟨hO, s, fun x d => by have := KP R ds.flatten.length x (g.mem_iff.1 d); omega, trivial⟩) (fun x d => by
  rw [cO, aU] at d
  rcases d with d | d
  ·exact q x d
  ·simp only [bO, dy, bA] at d
   exact j x.1 (E2 (g.mem_iff.1 d))) (by rw [hp.length_eq, aF, ew]; omega) (WB.GD p (by omega))
 exact ⟨v, v1, v2, v3.trans hp⟩
theorem OO (h : SWO (nq c)) (w : Cg f c G) (N : Nat) (E : N ≤ 300000) : ∀ (k : Nat) (R : List Formula) (ds : List (List (Formula × Nat))) (n : Nat) (a b : Int), R.length ≤ k → k < n → wV c 0 ds → (∀ A ∈ ds, A.length = 20) → (∀ x ∈ ds.flatten, G x.1) → (∀ x ∈ R, G x) → ds.flatten.length + R.length = N →
  a = (ds.flatten.length : Int) → b = ((ds.flatten.length + 20 : Nat) : Int) →
  ∃ u, lV (N : Int) f n (fm ds ++ R) a b = some (u.map (·.1)) ∧ nY (nq c) u ∧ u.Perm (ds.flatten ++ R.zipIdx ds.flatten.length) := by
 intro k
 induction k with
 | zero =>
  intro R ds n a b hk I hO p q j r ha t
  obtain rfl := aV (Nat.le_zero.1 hk)
  exact M5 h w N E [] ds n a b I hO p q j r (by simp) ha t
 | succ k ih =>
  intro R ds n a b hk I hO p q j r ha t
  by_cases z : R.length < 20
  ·exact M5 h w N E R ds n a b (by omega) hO p q j r z ha t
  obtain ⟨n, rfl⟩ := aT (by omega : n ≠ 0)
  obtain ⟨R1, R2, rfl, m⟩ := vW (l := R) (n := 20) (by omega)
  rw [aF] at r hk
  rw [lV]
  have hle : b ≤ (N : Int) := by omega
  simp only [hle, cA, aO]
  obtain ⟨u, J, L, s⟩ := Lq h w (fm ds) R2 (R1.zipIdx ds.flatten.length) a b (HC _ _) (fun x d => j x.1 (by simp [E2 d])) (by simp only [aF, qL, dq, ew, bR]; omega) (by rw [qL]; exact ha) (by rw [qL, ew]; omega)
  rw [List.zipIdx_map_fst] at J
  rw [J, aA]
  have g := s.length_eq
  rw [ew, m] at g
  have y : (ds ++ [u]).flatten.length = ds.flatten.length + 20 := by rw [NR, g]
  have M : wi0 .i64 (b + 20) = (((ds ++ [u]).flatten.length + 20 : Nat) : Int) := np _ (by omega) (by omega)
  have e : fm ds ++ (u.map (·.1) ++ R2) = fm (ds ++ [u]) ++ R2 := by simp [fm]
  rw [e, M]
  obtain ⟨v, v1, v2, v3⟩ := ih R2 (ds ++ [u]) n b _ (by omega) (by omega) (wV.append.2 ⟨hO, L, fun x d => by have := KP R1 ds.flatten.length x (s.mem_iff.1 d); omega, trivial⟩) (fun A i => by
   rcases aU.1 i with i | i
   ·exact p A i
   ·simp at i; rw [i]; exact g) (fun x d => by
   rw [cO, aU] at d
   rcases d with d | d
   ·exact q x d
   ·simp only [bO, dy, bA] at d
    exact j x.1 (by simp [E2 (s.mem_iff.1 d)])) (fun x d => j x (by simp [d])) (by omega) (by omega) rfl
  refine ⟨v, v1, v2, v3.trans ?_⟩
  rw [y, cO, List.zipIdx_append, m, aN]
  refine cD _ ?_
  simp only [bO, dy, bA]
  exact s.append_right _
theorem LL (h : SWO (nq c)) (i : Cg f c G) (l : List Formula) (g : ∀ x ∈ l, G x) (j : l.length ≤ 300000) : oz l f = some (J2 (nq c) l) := by
 unfold oz qD
 obtain ⟨u, b, m, d⟩ := OO h i l.length j l.length l [] jY 0 20 (aW _) (by rw [ml]; omega) trivial (by simp) (by simp) g (by simp) rfl rfl
 simp only [fm, dy, eF, bE, bR] at b d
 rw [b, aA, Qk h m d]
end
theorem IY {P : Formula → Prop} (h : ∀ f, (∀ k ∈ f.Kids, P k) → P f) : ∀ f, P f := by
 intro f
 refine Formula.rec (motive_1 := P) (motive_2 := fun ks => ∀ k ∈ ks, P k) ?_ ?_ ?_ f
 ·intro o k r ks ih; exact h _ ih
 ·intro k hk; cases hk
 ·intro k ks h1 d x b
  rcases aQ.1 b with rfl | b
  ·exact h1
  ·exact d x b
mutual
def kw : Formula → Nat
 | ⟨_, _, _, ks⟩ => 1 + nodesL ks
def nodesL : List Formula → Nat
 | [] => 0
 | k :: ks => kw k + nodesL ks
end
mutual
def nH : Formula → Nat
 | ⟨_, _, _, ks⟩ => deepL ks + 1
def deepL : List Formula → Nat
 | [] => 0
 | k :: ks => max (nH k) (deepL ks)
end
theorem nN (f : Formula) : kw f = 1 + nodesL f.Kids := by cases f; rw [kw]
theorem mH (f : Formula) : nH f = deepL f.Kids + 1 := by cases f; rw [nH]
theorem sN : ∀ {ks : List Formula} {k : Formula}, k ∈ ks → kw k ≤ nodesL ks
 | x :: ks, k, h => by
  rw [nodesL]
  rcases aQ.1 h with rfl | h
  ·omega
  ·have := sN h; omega
theorem qn : ∀ {ks : List Formula} {k : Formula}, k ∈ ks → nH k ≤ deepL ks
 | x :: ks, k, h => by
  rw [deepL]
  rcases aQ.1 h with rfl | h
  ·omega
  ·have := qn h; omega
theorem vE : ∀ f : Formula, nH f ≤ kw f := by
 refine IY fun f ih => ?_
 rw [mH, nN]
 have : ∀ ks : List Formula, (∀ k ∈ ks, nH k ≤ kw k) → deepL ks ≤ nodesL ks := by
  intro ks
  induction ks with
  | nil => intro _; rw [deepL]; omega
  | cons k ks b =>
   intro h
   have := b (fun x d => h x (by simp [d]))
   have := h k (by simp)
   rw [deepL, nodesL]; omega
 have := this f.Kids ih
 omega
theorem pk : ∀ ks : List Formula, ks.length ≤ nodesL ks
 | [] => by rw [nodesL]; simp
 | k :: ks => by have := pk ks; have := nN k; rw [nodesL, aI]; omega
theorem MM (b : Nat) (hm : b ≤ 4096) (rec : Formula → Int → Option (Int × Int)) : ∀ (ks : List Formula), (∀ k ∈ ks, ∀ q : Nat, q ≤ 4096 → ∃ n d : Nat, rec k (q : Int) = some ((n : Int), (d : Int)) ∧ 1 ≤ n ∧ n ≤ kw k ∧ d ≤ kw k ∧ (kw k ≤ q → n = kw k ∧ d = nH k) ∧ (q < kw k → q < n)) → ∀ x y : Nat, x + nodesL ks ≤ 100000000 →
  ∃ n d : Nat, oT (b : Int) rec ks (x : Int) (y : Int) = some ((n : Int), (d : Int)) ∧ x ≤ n ∧ n ≤ x + nodesL ks ∧ d ≤ max y (nodesL ks) ∧ (x + nodesL ks ≤ b → n = x + nodesL ks ∧ d = max y (deepL ks)) ∧ (b < x + nodesL ks → b < n)
 | [], _, x, y, _ => by
  rw [oT, nodesL, deepL]
  exact ⟨x, y, rfl, by omega, by omega, by omega, fun _ => ⟨by omega, by omega⟩, fun h => by omega⟩
 | k :: ks, i, x, y, r => by
  rw [nodesL] at r ⊢
  rw [oT, deepL]
  by_cases j : (x : Int) > (b : Int)
  ·simp only [j, cA, aO]
   exact ⟨x, y, rfl, by omega, by omega, by omega, fun _ => by omega, fun h => by omega⟩
  ·simp only [j, cI, aB, aJ]
   have t : wi0 .i64 ((b : Int) - (x : Int)) = ((b - x : Nat) : Int) := by rw [kA (by omega) (by omega)]; omega
   obtain ⟨m, d, e, h1, w, A, g, p⟩ := i k (by simp) (b - x) (by omega)
   rw [t, e, aA]
   have u : wi0 .i64 ((x : Int) + (m : Int)) = ((x + m : Nat) : Int) := by rw [kA (by omega) (by omega)]; omega
   have v : (if (d : Int) > (y : Int) then (d : Int) else (y : Int)) = ((max y d : Nat) : Int) := by split <;> omega
   simp only [u, v]
   obtain ⟨n, l, e', g1, g2, g3, g4, g5⟩ := MM b hm rec ks (fun z s => i z (by simp [s])) (x + m) (max y d) (by omega)
   refine ⟨n, l, e', by omega, by omega, by omega, fun h => ?_, fun h => ?_⟩
   ·obtain ⟨rfl, rfl⟩ := g (by omega)
    obtain ⟨rfl, rfl⟩ := g4 (by omega)
    exact ⟨by omega, by omega⟩
   ·by_cases hk : b - x < kw k
    ·have := p hk; omega
    ·obtain ⟨rfl, _⟩ := g (by omega)
     exact g5 (by omega)
theorem OT : ∀ (n : Nat) (f : Formula), nH f ≤ n → kw f ≤ 50000000 → ∀ q : Nat, q ≤ 4096 → ∃ m d : Nat, nW n f (q : Int) = some ((m : Int), (d : Int)) ∧ 1 ≤ m ∧ m ≤ kw f ∧ d ≤ kw f ∧ (kw f ≤ q → m = kw f ∧ d = nH f) ∧ (q < kw f → q < m) := by
 intro n
 induction n with
 | zero => intro f h; rw [mH] at h; omega
 | succ n ih =>
  intro f j t q b
  rw [mH] at j
  have l := nN f
  rw [nW]
  unfold uX
  obtain ⟨m, d, e, h1, r, s, g, i⟩ := MM q b (nW n) f.Kids (fun k hk q b => ih k (by have := qn hk; omega) (by have := sN hk; omega) q b) 1 0 (by omega)
  have e' : oT (q : Int) (nW n) f.Kids 1 0 = some ((m : Int), (d : Int)) := e
  rw [e', aA]
  have p : wi0 .i64 ((d : Int) + 1) = ((d + 1 : Nat) : Int) := by rw [kA (by omega) (by omega)]; omega
  simp only [p]
  refine ⟨m, d + 1, rfl, h1, by omega, by omega, fun h => ?_, fun h => i (by omega)⟩
  obtain ⟨rfl, rfl⟩ := g (by omega)
  rw [mH]
  exact ⟨by omega, by omega⟩
theorem Qf (f : Formula) (i : kw f ≤ 50000000) : wI f = some (if kw f ≤ 4096 then ((kw f : Int), (nH f : Int)) else (0, 0)) := by
 unfold wI
 have := vE f
 obtain ⟨m, d, e, h1, j, l, b, g⟩ := OT jY f (by rw [ml]; omega) i 4096 (aW _)
 have e' : nW jY f 4096 = some ((m : Int), (d : Int)) := e
 rw [e', aA]
 by_cases h : kw f ≤ 4096
 ·obtain ⟨rfl, rfl⟩ := b h
  have : ¬ ((kw f : Int) > 4096) := by omega
  simp [this, h]
 ·have := g (by omega)
  have : ((m : Int) > 4096) := by omega
  simp [this, h]
def oL : jq := ⟨zS, zS⟩
def BE (f : Formula) : Bool := if f.Op = 1 then ma f.jq && decide (f.Kids.length = 0) && decide (f.K = 0) else if f.Op = 2 ∨ f.Op = 3 then jR f.jq oL && decide (f.K = 0) else decide (f.Op = 4) && jR f.jq oL && decide (0 ≤ f.K) && decide (f.K ≤ (f.Kids.length : Int)) && decide (1 ≤ f.Kids.length)
theorem Qu (f : Formula) : wH f = some (BE f) := by
 unfold wH BE
 simp only [yn, aA, ol]
 by_cases h1 : f.Op = 1
 ·simp only [h1, bn, aO]
  cases q : ma f.jq
  ·simp
  ·by_cases l : f.Kids.length = 0
   ·have : f.Kids = [] := aV l
    by_cases hk : f.K = 0 <;> simp [this, hk]
   ·have : ((f.Kids.length : Int) == 0) = false := by simp; intro h; exact l (by simp [h])
    simp only [aO, aA, this, aB, aJ, l, cI, Bool.and_false, fh]
 ·have n : (f.Op == 1) = false := by simpa using h1
  simp only [n, aB, aJ, h1]
  by_cases d : f.Op = 2 ∨ f.Op = 3
  ·have i : (if f.Op == 2 then some (f.Op == 2) else some (f.Op == 3)) = some true := by
    rcases d with h | h <;> simp [h]
   simp only [i, aA, aO, d]
   cases g : jR f.jq ⟨zS, zS⟩ <;> by_cases hk : f.K = 0 <;> simp [oL, g, hk]
  ·have i : (if f.Op == 2 then some (f.Op == 2) else some (f.Op == 3)) = some false := by
    have a : f.Op ≠ 2 := fun h => d (.inl h)
    have b : f.Op ≠ 3 := fun h => d (.inr h)
    simp [a, b]
   simp only [i, aA, aB, aJ, d]
   by_cases j : f.Op = 4
   ·simp only [j, bn, aO, aA, cA, dK]
    cases g : jR f.jq ⟨zS, zS⟩
    ·simp [oL, g]
    ·by_cases c1 : 0 ≤ f.K <;> by_cases c2 : f.K ≤ (f.Kids.length : Int) <;> by_cases m : 1 ≤ f.Kids.length <;> simp [oL, g, c1, c2, m] <;> omega
   ·have p : (f.Op == 4) = false := by simpa using j
    simp [p, j]
mutual
def sJ : Formula → Bool
 | ⟨o, n, r, ks⟩ => BE ⟨o, n, r, ks⟩ && decide (ks.length ≤ 8) && wellL ks
def wellL : List Formula → Bool
 | [] => true
 | k :: ks => sJ k && wellL ks
end
theorem Dk (f : Formula) : sJ f = (BE f && decide (f.Kids.length ≤ 8) && wellL f.Kids) := by cases f; rw [sJ]
theorem Ew : ∀ ks : List Formula, wellL ks = ks.all sJ
 | [] => rfl
 | k :: ks => by rw [wellL, Ew ks]; rfl
theorem JA (f : Formula → Option Bool) : ∀ (l : List Formula) (i : Nat), ni f l i = yl f l i
 | [], i => by rw [ni]; rfl
 | x :: l, i => by
  rw [ni, yl]
  cases f x with
  | none => rfl
  | some b =>
   simp only [aA]
   rw [JA f l (i + 1)]
theorem Fk (f : Formula → Option Bool) (p : Formula → Bool) (l : List Formula) (h : ∀ x ∈ l, f x = some (p x)) : nM l f = some (l.any p) := by
 unfold nM sh
 rw [JA]
 rcases AU f p l 0 h with ⟨e, h1⟩ | ⟨A, x, B, rfl, h1, b, e⟩
 ·rw [e, aA]
  have : l.any p = false := by rw [List.any_eq_false]; intro x d; rw [h1 x d]; simp
  rw [this]; rfl
 ·rw [e, aA]
  have : (A ++ x :: B).any p = true := by simp [b]
  rw [this]
  congr 1
theorem Of : ∀ (n : Nat) (f : Formula), nH f ≤ n → qH n f = some (sJ f) := by
 intro n
 induction n with
 | zero => intro f h; rw [mH] at h; omega
 | succ n ih =>
  intro f h
  rw [mH] at h
  rw [qH]
  unfold vc
  rw [Qu, aA, Dk, Fk _ (fun k => !sJ k) f.Kids (fun k hk => by unfold tQ; rw [ih k (by have := qn hk; omega)]; rfl)]
  rw [Ew]
  have e : (!(f.Kids.any fun k => !sJ k)) = f.Kids.all sJ := by rw [List.all_eq_not_any_not]
  cases BE f
  ·rfl
  ·by_cases b : f.Kids.length ≤ 8
   ·have : ((f.Kids.length : Int) ≤ 8) := by omega
    simp [b, this, e]
   ·have : ¬ ((f.Kids.length : Int) ≤ 8) := by omega
    simp [b, this]
def nr (f : Formula) : Bool := decide (kw f ≤ 64) && decide (nH f ≤ 6) && sJ f
theorem Dy (f : Formula) (b : kw f ≤ 50000000) : qG f = some (nr f) := by
 unfold qG nr
 have d := vE f
 rw [Qf f b, aA, Of jY f (by rw [ml]; omega)]
 have h1 := nN f
 by_cases h : kw f ≤ 4096
 ·simp only [h, aO]
  have a : ((kw f : Int) ≥ 1) := by omega
  simp only [a, cA, aO, aA, ol]
  by_cases c1 : kw f ≤ 64 <;> by_cases c2 : nH f ≤ 6
  ·have d1 : ((kw f : Int) ≤ 64) := by omega
   have d2 : ((nH f : Int) ≤ 6) := by omega
   simp [c1, c2, d1, d2]
  ·have d1 : ((kw f : Int) ≤ 64) := by omega
   have d2 : ¬ ((nH f : Int) ≤ 6) := by omega
   simp [c1, c2, d1, d2]
  ·have d1 : ¬ ((kw f : Int) ≤ 64) := by omega
   simp [c1, d1]
  ·have d1 : ¬ ((kw f : Int) ≤ 64) := by omega
   simp [c1, d1]
 ·simp only [h, aJ]
  have : ¬ kw f ≤ 64 := by omega
  simp [this]
theorem Formula.ext' {a b : Formula} (h1 : a.Op = b.Op) (d : a.K = b.K) (g : a.jq = b.jq) (h : a.Kids = b.Kids) : a = b := by
 cases a; cases b; simp only at h1 d g h; subst h1 d g h; rfl
theorem NO (g : Formula × Formula → Option Bool) : ∀ (l m : List Formula), l.length = m.length → (∀ x ∈ l, ∀ y, ∃ b, g (x, y) = some b ∧ (b = true ↔ x = y)) → ∀ (A : List Formula),
  ∃ b, kT (A ++ m) g l A.length = some b ∧ (b = true ↔ l = m)
 | [], m, i, _, A => by
  obtain rfl := aV i.symm
  exact ⟨true, rfl, by simp⟩
 | x :: l, [], i, _, A => by simp at i
 | x :: l, y :: m, i, j, A => by
  rw [kT]
  obtain ⟨b, e, h⟩ := j x (by simp) y
  have i1 : lB (A ++ y :: m) (A.length : Int) = some y := mL _ _ _ _ rfl
  rw [i1, aA, e, aA]
  cases b with
  | false =>
   refine ⟨false, rfl, ?_⟩
   have : x ≠ y := fun d => by have := h.2 d; simp at this
   simp [this]
  | true =>
   have d := h.1 rfl
   obtain ⟨b, n, r⟩ := NO g l m (by simpa using i) (fun z s => j z (by simp [s])) (A ++ [y])
   simp only [cC, aB, aJ]
   have p : A ++ y :: m = (A ++ [y]) ++ m := by simp
   have q : A.length + 1 = (A ++ [y]).length := by simp
   rw [p, q, n]
   exact ⟨b, rfl, by rw [r]; simp [d]⟩
theorem PT : ∀ (n : Nat) (f : Formula), nH f ≤ n → ∀ g, ∃ b, nB n f g = some b ∧ (b = true ↔ f = g) := by
 intro n
 induction n with
 | zero => intro f h; rw [mH] at h; omega
 | succ n ih =>
  intro f h g
  rw [mH] at h
  rw [nB]
  unfold vH
  by_cases h1 : f.Op = g.Op
  ·by_cases d : f.K = g.K
   ·by_cases i : f.jq = g.jq
    ·have l : jR f.jq g.jq = true := jS.2 i
     simp only [h1, d, l, bn, aO, aA]
     unfold mF
     by_cases j : f.Kids.length = g.Kids.length
     ·have : ((f.Kids.length : Int) != (g.Kids.length : Int)) = false := by simp [j]
      simp only [this, aB, aJ]
      obtain ⟨b, e, q⟩ := NO (fun x => nB n x.1 x.2) f.Kids g.Kids j (fun x r y => ih x (by have := qn r; omega) y) []
      simp only [bE, bR] at e
      rw [e]
      refine ⟨b, by simp, q.trans ⟨fun hk => Formula.ext' h1 d i hk, fun hk => by rw [hk]⟩⟩
     ·have : ((f.Kids.length : Int) != (g.Kids.length : Int)) = true := by simp; omega
      simp only [this, aO]
      exact ⟨false, rfl, by simp; intro hk; rw [hk] at j; exact j rfl⟩
    ·have l : jR f.jq g.jq = false := by rw [← fL, jS]; exact i
     simp only [h1, d, l, bn, aO, aA, aB, aJ]
     exact ⟨false, rfl, by simp; intro hk; rw [hk] at i; exact i rfl⟩
   ·have p : (f.K == g.K) = false := by simpa using d
    simp only [h1, p, bn, aO, aA, aB, aJ]
    exact ⟨false, rfl, by simp; intro hk; rw [hk] at d; exact d rfl⟩
  ·have m : (f.Op == g.Op) = false := by simpa using h1
   simp only [m, aA, aB, aJ]
   exact ⟨false, rfl, by simp; intro hk; rw [hk] at h1; exact h1 rfl⟩
def qO {α : Type} (R : α → Bool) (lt : α → α → Bool) (last : Option α) : List α → Bool → α → Bool × α
 | [], ok, b => (ok, b)
 | x :: xs, ok, b => if R x && last.all (fun y => lt y x) && (!ok || lt x b) then qO R lt last xs true x else qO R lt last xs ok b
def zN {α : Type} (w : Nat) (R : α → Bool) (lt : α → α → Bool) (d : α) (l : List α) : Nat → List α → Option (List α)
 | 0, _ => none
 | n + 1, out => if !(qO R lt out.getLast? l false d).1 then some out else (lX w out [(qO R lt out.getLast? l false d).2]).bind fun o => zN w R lt d l n o
section
variable {α : Type} {R : α → Bool} {lt : α → α → Bool}
theorem EF (H : zY (fun a b => lt a b = true) (fun x => R x = true)) (last : Option α) : ∀ (l : List α) (ok : Bool) (b : α), (ok = true → R b = true ∧ last.all (fun y => lt y b) = true) →
  ((qO R lt last l ok b).1 = false → ok = false ∧ ∀ x ∈ l, R x = true → last.all (fun y => lt y x) = false) ∧
  ((qO R lt last l ok b).1 = true → R (qO R lt last l ok b).2 = true ∧ last.all (fun y => lt y (qO R lt last l ok b).2) = true ∧ ((qO R lt last l ok b).2 ∈ l ∨ (ok = true ∧ (qO R lt last l ok b).2 = b)) ∧
   (∀ x ∈ l, R x = true → last.all (fun y => lt y x) = true → lt x (qO R lt last l ok b).2 = false) ∧ (ok = true → lt b (qO R lt last l ok b).2 = false))
 | [], ok, b, m => by
  simp only [qO]
  exact ⟨fun h => ⟨h, by simp⟩, fun h => ⟨(m h).1, (m h).2, .inr ⟨h, trivial⟩, by simp, fun _ => by
   cases p : lt b b with
   | false => rfl
   | true => exact absurd p (H.irrefl b (m h).1)⟩⟩
 | x :: xs, ok, b, m => by
  rw [qO]
  by_cases n : (R x && last.all (fun y => lt y x) && (!ok || lt x b)) = true
  ·rw [bB n]
   simp only [aX, fq, fE] at n
   obtain ⟨⟨E, u⟩, v⟩ := n
   obtain ⟨h1, t⟩ := EF H last xs true x (fun _ => ⟨E, u⟩)
   refine ⟨fun h => ?_, fun h => ?_⟩
   ·cases (h1 h).1
   ·obtain ⟨r, a2, a3, a4, a5⟩ := t h
    refine ⟨r, a2, ?_, ?_, ?_⟩
    ·rcases a3 with a3 | ⟨_, a3⟩
     ·exact .inl (by simp [a3])
     ·exact .inl (by rw [a3]; simp)
    ·intro y i d g
     rcases aQ.1 i with rfl | i
     ·exact a5 rfl
     ·exact a4 y i d g
    ·intro j
     cases p : lt b (qO R lt last xs true x).2 with
     | false => rfl
     | true =>
      have w : lt x b = true := by rcases v with h | h; rw [j] at h; cases h; exact h
      have := H.trans x b _ E (m j).1 r w p
      simp only [a5 rfl] at this
      cases this
  ·rw [bo n]
   obtain ⟨h1, t⟩ := EF H last xs ok b m
   refine ⟨fun h => ⟨(h1 h).1, fun y i d => ?_⟩, fun h => ?_⟩
   ·rcases aQ.1 i with rfl | i
    ·have j := (h1 h).1
     cases u : last.all (fun z => lt z y) with
     | false => rfl
     | true => exact absurd (by simp [d, u, j]) n
    ·exact (h1 h).2 y i d
   ·obtain ⟨r, a2, a3, a4, a5⟩ := t h
    refine ⟨r, a2, ?_, ?_, a5⟩
    ·rcases a3 with a3 | a3
     ·exact .inl (by simp [a3])
     ·exact .inr a3
    ·intro y i d g
     rcases aQ.1 i with rfl | i
     ·cases p : lt y (qO R lt last xs ok b).2 with
      | false => rfl
      | true =>
       cases ok with
       | false => exact absurd (by simp [d, g]) n
       | true =>
        have A : lt y b = false := by
         cases G : lt y b with
         | false => rfl
         | true => exact absurd (by simp [d, g, G]) n
        have s := m rfl
        rcases H.total y b d s.1 with q | q | q
        ·rw [A] at q; cases q
        ·subst q; rw [a5 rfl] at p; cases p
        ·have := H.trans b y _ s.1 d r q p
         simp only [a5 rfl] at this
         cases this
     ·exact a4 y i d g
theorem uk (H : zY (fun a b => lt a b = true) (fun x => R x = true)) {l : List α} (g : ∀ x ∈ l, R x = true) (h : l.Pairwise (fun a b => lt a b = true)) : l.Nodup := by
 refine h.imp_of_mem (fun {a b} ha i d e => ?_)
 subst e
 exact H.irrefl a (g a ha) d
theorem mo : ∀ {l m : List α}, l.Nodup → (∀ x ∈ l, x ∈ m) → l.length ≤ m.length
 | [], _, _, _ => by simp
 | x :: l, m, i, d => by
  obtain ⟨A, B, rfl⟩ := List.append_of_mem (d x (by simp))
  have b := dx.1 i
  have := mo (l := l) (m := A ++ B) b.2 (fun y g => by
   have := d y (eW _ g)
   simp only [aU, aQ] at this ⊢
   rcases this with h | h | h
   ·exact .inl h
   ·subst h; exact absurd g b.1
   ·exact .inr h)
  simp at this ⊢; omega
theorem Bw (H : zY (fun a b => lt a b = true) (fun x => R x = true)) {w : Nat} (hw : w ≤ 1000) (d : α) (l : List α) (M : l.length ≤ 1000000000) : ∀ (n : Nat) (out : List α), l.length < n + out.length → out.Pairwise (fun a b => lt a b = true) → (∀ x ∈ out, x ∈ l ∧ R x = true) →
  (∀ x ∈ l, R x = true → x ∈ out ∨ out.getLast?.all (fun y => lt y x) = true) → ∃ s, zN w R lt d l n out = some s ∧ vS (fun a b => lt a b = true) (fun x => R x = true) l s
 | 0, out, O, hp, hm, E => by
  exfalso
  have := mo (uk H (fun x g => (hm x g).2) hp) (fun x g => (hm x g).1)
  omega
 | n + 1, out, O, hp, hm, E => by
  rw [zN]
  obtain ⟨h1, J⟩ := EF H out.getLast? l false d (fun h => by cases h)
  have hlen := mo (uk H (fun x g => (hm x g).2) hp) (fun x g => (hm x g).1)
  cases I : (qO R lt out.getLast? l false d).1 with
  | false =>
   rw [bB (by simp)]
   refine ⟨out, rfl, hp, fun x => ⟨hm x, fun g => ?_⟩⟩
   rcases E x g.1 g.2 with h | h
   ·exact h
   ·rw [(h1 I).2 x g.1 g.2] at h; cases h
  | true =>
   rw [bo (by simp)]
   obtain ⟨u, a2, a3, a4, _⟩ := J I
   generalize (qO R lt out.getLast? l false d).2 = b at *
   have v : b ∈ l := by rcases a3 with h | ⟨h, _⟩; exact h; cases h
   have r : ∀ y ∈ out, lt y b = true := by
    intro y i
    obtain ⟨A, z, rfl⟩ : ∃ A z, out = A ++ [z] := by
     rcases du out with h | ⟨A, z, h⟩
     ·subst h; cases i
     ·exact ⟨A, z, by rw [h]; simp⟩
    simp at a2
    rcases aU.1 i with i | i
    ·have G : lt y z = true := (cV.1 hp).2.2 y i z (by simp)
     exact H.trans y z b (hm y (by simp [i])).2 (hm z (by simp)).2 u G a2
    ·simp at i; subst i; exact a2
   have t : (out ++ [b]).Pairwise (fun a b => lt a b = true) := cV.2 ⟨hp, by simp, fun x g y i => by simp at i; subst i; exact r x g⟩
   have p : ∀ x ∈ out ++ [b], x ∈ l ∧ R x = true := fun x g => by
    rcases aU.1 g with g | g
    ·exact hm x g
    ·simp at g; subst g; exact ⟨v, u⟩
   have m := mo (uk H (fun x g => (p x g).2) t) (fun x g => (p x g).1)
   simp at m
   rw [lY (by simp only [aI, bR]; have : (out.length + (0 + 1)) * w ≤ 1000000000 * 1000 := Nat.mul_le_mul (by omega) hw; omega) (by simp; omega)]
   simp only [aA]
   refine Bw H hw d l M n (out ++ [b]) (by simp; omega) t p (fun x g j => ?_)
   rcases E x g j with h | h
   ·exact .inl (by simp [h])
   ·have L := a4 x g j h
    rcases H.total x b j u with q | q | q
    ·rw [L] at q; cases q
    ·subst q; exact .inl (by simp)
    ·exact .inr (by simp [q])
end
theorem FZ {α : Type} (A : List α) (x : α) (b : A.length < 4611686018427387904) : lB (A ++ [x]) (wi0 .i64 (((A ++ [x]).length : Int) - 1)) = some x := by
 rw [kA (by simp; try omega) (by simp; try omega)]
 rw [mL A x [] _ (by simp; try omega)]
theorem FU (out : List jr) (m : out.length < 4611686018427387904) : ∀ (l : List jr) (ok : Bool) (b : jr), rf out l ok b = some (qO lT AS out.getLast? l ok b)
 | [], ok, b => rfl
 | x :: xs, ok, b => by
  rw [rf, qO]
  have cmp : ∀ a b, ∃ c, sa a b = some c ∧ decide (c < 0) = AS a b := fun a b => by
   obtain ⟨c, h1, j⟩ := Ee a b
   exact ⟨c, h1, by rw [bL, ← j]; simp⟩
  rw [AQ, FU out m xs true x, FU out m xs ok b]
  obtain ⟨c, h1, j⟩ := cmp x b
  rcases du out with h | ⟨A, z, h⟩
  ·subst h
   simp only [h1, aA, j, bR, Option.all, List.getLast?_nil]
   generalize AS x b = p
   cases lT x <;> cases ok <;> cases p <;> simp
  ·have i : out = A ++ [z] := by rw [h]; simp
   obtain ⟨u, s, t⟩ := cmp z x
   have d : out.getLast? = some z := by rw [i]; simp
   have g : lB out (wi0 .i64 ((out.length : Int) - 1)) = some z := by rw [i]; exact FZ A z (by rw [i] at m; simp at m; omega)
   have n : ((out.length : Int) == 0) = false := by rw [i]; simp; omega
   rw [d]
   simp only [n, g, s, h1, aA, j, t, Option.all]
   rcases ed (AS x b) with hp | hp <;> rcases ed (AS z x) with q | q <;> rcases ed (lT x) with r | r <;> cases ok <;> simp [hp, q, r]
theorem TQ (a b : ByteArray) : (!(pH a b || kP a b)) = pH b a := by
 rcases zD a b with h | h | h
 ·simp [h, Ig h]
 ·subst h; simp [uT, sG]
 ·have d := Ig h
  have g : kP a b = false := KV (by rintro rfl; rw [sG] at h; cases h)
  simp [h, d, g]
theorem M2 {s : ByteArray} (h : nt s = true) : kP s zS = false := KV (fun e => by have := nX h; rw [e, Qw] at this; omega)
theorem FO (out : List ByteArray) (r : out.length < 4611686018427387904) : ∀ (l : List ByteArray) (b : ByteArray),
  ∃ s, rq out l b = some s ∧ (qO nt pH out.getLast? l (!kP b zS) b) = (!kP s zS, s)
 | [], b => ⟨b, rfl, rfl⟩
 | x :: xs, b => by
  rw [rq, qO]
  obtain ⟨E, w, g⟩ := FO out r xs x
  obtain ⟨G, y, m⟩ := FO out r xs b
  rw [xO, w, y]
  by_cases j : nt x = true
  ·rw [M2 j] at g
   simp only [cN] at g
   rcases du out with h | ⟨A, z, h⟩
   ·subst h
    simp only [aA, bR, Option.all, List.getLast?_nil, j] at *
    rw [g, m]
    generalize pH x b = p
    generalize kP b zS = q
    cases p <;> cases q <;> simp
   ·have n : out = A ++ [z] := by rw [h]; simp
    have d : out.getLast? = some z := by rw [n]; simp
    have i : lB out (wi0 .i64 ((out.length : Int) - 1)) = some z := by rw [n]; exact FZ A z (by rw [n] at r; simp at r; omega)
    have t : ((out.length : Int) == 0) = false := by rw [n]; simp; omega
    rw [d] at g m ⊢
    simp only [t, i, aA, Option.all, TQ, j]
    rw [g, m]
    rcases ed (pH x b) with hp | hp <;> rcases ed (pH z x) with u | u <;> rcases ed (kP b zS) with v | v <;> simp [hp, u, v]
  ·simp only [fL] at j
   rw [j, m]
   simp
theorem Pa (a : List jr) : ∀ (n : Nat) (out s : List jr), zN 136 lT AS (⟨0, ⟨zS, zS⟩, zS, ⟨zS, zS⟩, ⟨zS, zS⟩, zS⟩ : jr) a n out = some s → s.length < 4611686018427387904 → sV a n out = some s ∧ out.length ≤ s.length
 | 0, out, s, h, _ => by cases h
 | n + 1, out, s, h, i => by
  rw [zN] at h
  rw [sV]
  have key : out.length ≤ s.length → rf out a false (⟨0, ⟨zS, zS⟩, zS, ⟨zS, zS⟩, ⟨zS, zS⟩, zS⟩ : jr) = _ := fun l => FU out (by omega) a false _
  split at h
  ·rename_i h1
   cases h
   rw [key (aW _)]
   simp only [aA]
   rw [bB h1]
   exact ⟨rfl, aW _⟩
  ·rename_i h1
   obtain ⟨o, b, d⟩ := bind_some h
   have g := Pa a n o s d i
   have j : out.length + 1 = o.length := by
    unfold lX at b; split at b
    ·cases b; simp
    ·cases b
   rw [key (by omega)]
   simp only [aA]
   rw [bo h1, b]
   exact ⟨g.1, by omega⟩
theorem Ps (a : List ByteArray) : ∀ (n : Nat) (out s : List ByteArray), zN 16 nt pH zS a n out = some s → s.length < 4611686018427387904 → sX a n out = some s ∧ out.length ≤ s.length
 | 0, out, s, h, _ => by cases h
 | n + 1, out, s, h, l => by
  rw [zN] at h
  rw [sX]
  have key : out.length ≤ s.length → ∃ d, rq out a zS = some d ∧ qO nt pH out.getLast? a false zS = (!kP d zS, d) := fun p => by
   have := FO out (by omega) a zS
   rw [uT] at this
   exact this
  split at h
  ·rename_i h1
   cases h
   obtain ⟨d, g, k2⟩ := key (aW _)
   rw [g]
   rw [k2] at h1
   simp only [aA]
   rw [bB (by simpa using h1)]
   exact ⟨rfl, aW _⟩
  ·rename_i h1
   obtain ⟨o, b, i⟩ := bind_some h
   have j := Ps a n o s i l
   have m : out.length + 1 = o.length := by
    unfold lX at b; split at b
    ·cases b; simp
    ·cases b
   obtain ⟨d, g, k2⟩ := key (by omega)
   rw [g]
   rw [k2] at h1 b
   simp only [aA]
   rw [bo (by simpa using h1), b]
   exact ⟨j.1, by omega⟩
abbrev QK (l s : List ByteArray) := vS (fun a b => pH a b = true) (fun x => nt x = true) l s
abbrev JM (l s : List jr) := vS (fun a b => AS a b = true) (fun x => lT x = true) l s
theorem AR {α : Type} {lt : α → α → Bool} {R : α → Bool} (H : zY (fun a b => lt a b = true) (fun x => R x = true)) {l s : List α} (h : vS (fun a b => lt a b = true) (fun x => R x = true) l s) : s.length ≤ l.length :=
 mo (uk H (fun x d => ((h.2 x).1 d).2) h.1) (fun x d => ((h.2 x).1 d).1)
theorem Lj (l : List jr) (d : l.length ≤ 1000000000) : ∃ s, xr l = some s ∧ JM l s := by
 obtain ⟨s, h1, b⟩ := Bw CL (w := 136) (by omega) (⟨0, ⟨zS, zS⟩, zS, ⟨zS, zS⟩, ⟨zS, zS⟩, zS⟩ : jr) l d jY [] (by rw [wM]; omega) (by simp) (by simp) (fun x _ _ => .inr rfl)
 exact ⟨s, (Pa l jY [] s h1 (by have := AR CL b; omega)).1, b⟩
theorem PR (l : List ByteArray) (d : l.length ≤ 1000000000) : ∃ s, zg l = some s ∧ QK l s := by
 obtain ⟨s, h1, b⟩ := Bw (Pp (fun x => nt x = true)) (w := 16) (by omega) zS l d jY [] (by rw [wM]; omega) (by simp) (by simp) (fun x _ _ => .inr rfl)
 exact ⟨s, (Ps l jY [] s h1 (by have := AR (Pp _) b; omega)).1, b⟩
def zC : jr := ⟨0, ⟨zS, zS⟩, zS, ⟨zS, zS⟩, ⟨zS, zS⟩, zS⟩
theorem Lg (f : jr → Option Bool) : ∀ (n : Nat) (l : List jr) (i j : Int), nx f n l i j = Dg f zC n l i j
 | 0, _, _, _ => rfl
 | n + 1, l, i, j => by
  rw [nx, Dg]
  simp only [Lg f n]
  rfl
theorem HR (f : jr → Option Bool) : ∀ (l : List jr) (i : Nat), ot f l i = yl f l i
 | [], _ => rfl
 | x :: l, i => by rw [ot, yl]; simp only [HR f l]
theorem Oo (f : jr → Option Bool) (l : List jr) : qx l f = Hy f zC l := by
 unfold qx Hy pb
 simp only [HR, Lg]
theorem JG (i : Int) : ∀ (n : Nat) (l : List jr) (k j : Int), nS i n l k j = Be lu i n l k j
 | 0, _, _, _ => rfl
 | n + 1, l, k, j => by
  rw [nS, Be]
  simp only [JG i n]
theorem Jb (l : List jr) : ∀ (n : Nat) (i : Int), nV l n i = BM lu zC l n i
 | 0, _ => rfl
 | n + 1, i => by
  rw [nV, BM]
  simp only [Jb l n, JG]
  rfl
theorem OW (l : List jr) : rX l = Jt lu zC l := by
 unfold rX Jt
 simp only [Jb]
theorem Rx {l : List jr} (b : l.length ≤ 1000000000) : qV l = some l := by
 unfold qV
 rw [lY (by simp; omega) (by simp; omega)]
 simp
theorem QM (l : List jr) (g : l.length ≤ 1000000000) : ∃ s, yt l = some s ∧ JM l s := by
 unfold yt
 rw [Rx g]
 simp only [aA]
 rw [Oo, Jn _ (fun x => !lT x) zC l (by omega) (fun x _ => by simp [xB, vQ])]
 simp only [aA, gy]
 have j : (l.filter fun x => lT x).length ≤ l.length := eT _ _
 obtain ⟨s, h1, i, d⟩ := Fz (eq := lu) (lt := fun a b => AS a b = true) (P := fun x => lT x = true) (cf := fun x => sW x.1 x.2) (l := l.filter fun x => lT x) (fun x y => rH) CL (fun x h => (cZ.1 h).2) (by omega) (fun x y _ _ => E6 x y)
 rw [h1]
 simp only [aA]
 rw [OW, Kd _ _ _ (by omega)]
 refine ⟨_, rfl, d.1, fun x => ?_⟩
 rw [d.2]
 simp
def tt {κ : Type} (ks : List κ) : List (κ × Bool) := ks.map fun k => (k, true)
def nZ {κ : Type} (beq : κ → κ → Bool) (ks : List κ) (k : κ) : Bool := ks.any fun x => beq k x
def ins {κ : Type} (beq : κ → κ → Bool) (ks : List κ) (k : κ) : List κ := if nZ beq ks k then ks else ks ++ [k]
section
variable {κ : Type} {beq : κ → κ → Bool}
theorem xS (b : ∀ {x y}, beq x y = true ↔ x = y) (ks : List κ) (k : κ) : nZ beq ks k = true ↔ k ∈ ks := by
 simp [nZ, ej, b]
theorem Ni (ks : List κ) : (tt ks).length = ks.length := by simp [tt]
theorem N1 (ks : List κ) (k : κ) : zu beq (tt ks) k false = nZ beq ks k := by
 unfold zu kZ nZ tt
 induction ks with
 | nil => rfl
 | cons x xs ih =>
  simp only [bJ, fV, fw]
  cases h : beq k x with
  | true => simp
  | false => simpa using ih
theorem P8 (m : ∀ {x y}, beq x y = true ↔ x = y) (ks : List κ) (k : κ) : nT beq (tt ks) k true = tt (ins beq ks k) := by
 unfold nT ins
 have n : (tt ks).findIdx? (fun p => beq k p.1) = ks.findIdx? (fun x => beq k x) := by
  unfold tt; rw [gk]; rfl
 rw [n]
 cases h : ks.findIdx? (fun x => beq k x) with
 | none =>
  rw [fN] at h
  rw [bo]
  ·simp [tt]
  ·intro d
   unfold nZ at d
   rw [ej] at d
   obtain ⟨x, q, b⟩ := d
   rw [h x q] at b
   cases b
 | some i =>
  rw [ek] at h
  obtain ⟨l, h1, _⟩ := h
  have e := m.1 h1
  rw [bB]
  ·simp only [tt]
   apply eB
   intro j
   rw [eV]
   split
   ·rename_i g
    subst g
    simp [l, e]
   ·rfl
  ·unfold nZ
   exact ej.2 ⟨ks[i], List.getElem_mem l, h1⟩
end
section
variable {all : List jr} {wants : List jq} {T : List jq} {W : List ByteArray} {R : List jr}
def od (c : jr) : List jq := if c.Kind = 1 then [] else if c.Kind = 4 then [c.B, c.C] else [c.B]
end
theorem Cf (x : jr) : ∀ l : List jr, uh l x = some (nZ lu l x)
 | [] => rfl
 | y :: l => by
  have ih := Cf x l
  unfold uh at ih ⊢
  rw [wE, ih]
  have : lu y x = lu x y := by rw [bL, rH, rH]; exact eq_comm
  rw [this]
  simp only [nZ, fw]
  cases lu x y <;> simp
theorem QJ {c : jr} (h : lT c = true) : yo c = some (c.Head :: od c) := by
 unfold yo
 rw [vQ, h]
 simp only [aA, cC, aB, aJ]
 have b : c.Kind = 1 ∨ c.Kind = 2 ∨ c.Kind = 3 ∨ c.Kind = 4 := by rcases om h with h | h | h | h <;> simp [h.1]
 rcases b with k | k | k | k
 ·simp [k, od]
 ·rw [bB (by simp [k]), lY (by simp) (by simp)]
  simp [k, od]
 ·rw [bB (by simp [k]), lY (by simp) (by simp)]
  simp [k, od]
 ·rw [bB (by simp [k]), lY (by simp) (by simp)]
  simp only [aA]
  rw [bB (by simp [k]), lY (by simp) (by simp)]
  simp [k, od]
theorem vS.congr {α : Type} {lt : α → α → Prop} {P : α → Prop} {l m s : List α} (h : vS lt P l s) (hm : ∀ x, x ∈ l ↔ x ∈ m) : vS lt P m s := ⟨h.1, fun x => by rw [h.2, hm]⟩
theorem Qe {κ : Type} (ks : List κ) : (tt ks).map (·.1) = ks := by simp [tt, fB]
def xF (c : jr) : Nat := c.Head.js.size + c.Head.Word.size + c.kz.size + c.B.js.size + c.B.Word.size + c.C.js.size + c.C.Word.size + c.kK.size
section
variable {κ γ : Type} {beq : κ → κ → Bool}
theorem qt (b : ∀ {x y}, beq x y = true ↔ x = y) {A B : List (κ × γ)} {k : κ} {x : γ} (d : ∀ p ∈ A, p.1 ≠ k) : kZ beq (A ++ (k, x) :: B) k = some x := by
 unfold kZ
 rw [iL]
 have : A.find? (fun p => beq k p.1) = none := gb.2 (fun p hp h => d p hp (b.1 h).symm)
 rw [this]
 simp [b.2 (rfl : k = k)]
theorem vA (b : ∀ {x y}, beq x y = true ↔ x = y) {l : List (κ × γ)} {k : κ} (h : ∀ p ∈ l, p.1 ≠ k) : kZ beq l k = none := by
 unfold kZ
 rw [gb.2 (fun p hp d => h p hp (b.1 d).symm)]
 rfl
theorem wK (b : ∀ {x y}, beq x y = true ↔ x = y) {A B : List (κ × γ)} {k : κ} {x y : γ} (d : ∀ p ∈ A, p.1 ≠ k) : nT beq (A ++ (k, x) :: B) k y = A ++ (k, y) :: B := by
 have h1 : (A ++ (k, x) :: B).findIdx? (fun p => beq k p.1) = some A.length := by
  rw [gG, fN.2 (fun p hp => by
   cases h : beq k p.1 with
   | false => rfl
   | true => exact absurd (b.1 h).symm (d p hp))]
  simp [eS, b.2 (rfl : k = k)]
 rw [qE h1]
 simp
theorem CF (b : ∀ {x y}, beq x y = true ↔ x = y) {l : List (κ × γ)} {k : κ} {y : γ} (h : ∀ p ∈ l, p.1 ≠ k) : nT beq l k y = l ++ [(k, y)] := by
 refine uQ (fN.2 (fun p hp => ?_)) y
 cases d : beq k p.1 with
 | false => rfl
 | true => exact absurd (b.1 d).symm (h p hp)
theorem tS (k : κ) : ∀ (l : List (κ × γ)), (∀ p ∈ l, p.1 ≠ k) ∨ ∃ A x B, l = A ++ (k, x) :: B ∧ ∀ p ∈ A, p.1 ≠ k
 | [] => .inl (fun _ h => by cases h)
 | p :: l => by
  by_cases hp : p.1 = k
  ·exact .inr ⟨[], p.2, l, by rw [← hp]; rfl, fun _ h => by cases h⟩
  ·rcases tS k l with h | ⟨A, x, B, rfl, h⟩
   ·exact .inl (fun q b => by rcases aQ.1 b with rfl | b; exact hp; exact h q b)
   ·exact .inr ⟨p :: A, x, B, rfl, fun q b => by rcases aQ.1 b with rfl | b; exact hp; exact h q b⟩
theorem FT (b : ∀ {x y}, beq x y = true ↔ x = y) (A B : List (κ × γ)) (k : κ) : kZ beq (A ++ B) k = (kZ beq A k).or (kZ beq B k) := by
 unfold kZ
 rw [iL]
 cases A.find? (fun p => beq k p.1) <;> rfl
theorem Bo (p : κ × γ) (l : List (κ × γ)) (k : κ) : kZ beq (p :: l) k = if beq k p.1 = true then some p.2 else kZ beq l k := by
 unfold kZ
 rw [fV]
 cases beq k p.1 <;> simp
theorem Ei (b : ∀ {x y}, beq x y = true ↔ x = y) (l : List (κ × γ)) (k k2 : κ) (y : γ) : kZ beq (nT beq l k y) k2 = if beq k2 k = true then some y else kZ beq l k2 := by
 rcases tS k l with h | ⟨A, x, B, rfl, h⟩
 ·rw [CF b h, FT b, Bo]
  by_cases hk : beq k2 k = true
  ·have := b.1 hk
   subst this
   rw [bB hk, bB hk, vA b h]; rfl
  ·rw [bo hk, bo hk]
   show (kZ beq l k2).or none = _
   cases kZ beq l k2 <;> rfl
 ·rw [wK b h, FT b, Bo, FT b, Bo]
  by_cases hk : beq k2 k = true
  ·have := b.1 hk
   subst this
   rw [bB hk, bB hk, vA b h]; rfl
  ·rw [bo hk, bo hk, bo hk]
end
abbrev oI := List (jq × List ByteArray)
def mm (T : oI) : List (jq × List (ByteArray × Bool)) := T.map fun p => (p.1, tt p.2)
def re (T : oI) (r : jq) : List ByteArray := (kZ jR T r).getD []
def FS (T : oI) : List jJ := T.flatMap fun p => p.2.map fun w => (⟨p.1, w⟩ : jJ)
def En (T : oI) (r : jq) (w : ByteArray) : oI := nT jR T r (re T r ++ [w])
theorem DS (A B : oI) : mm (A ++ B) = mm A ++ mm B := by simp [mm]
theorem yU {A : oI} {r : jq} (h : ∀ p ∈ A, p.1 ≠ r) : ∀ p ∈ mm A, p.1 ≠ r := by
 intro p hp
 simp only [mm, bM] at hp
 obtain ⟨q, b, rfl⟩ := hp
 exact h q b
theorem PY (T : oI) (r : jq) : kZ jR (mm T) r = (kZ jR T r).map tt := by
 rcases tS r T with h | ⟨A, x, B, rfl, h⟩
 ·rw [vA jS h, vA jS (yU h)]; rfl
 ·rw [qt jS h, DS]
  exact qt jS (yU h)
theorem Ly (T : oI) (r : jq) : (kZ jR (mm T) r).getD [] = tt (re T r) := by
 rw [PY, re]; cases kZ jR T r <;> rfl
theorem GK (T : oI) (r : jq) (w : ByteArray) : (FS (En T r w)).Perm (FS T ++ [(⟨r, w⟩ : jJ)]) := by
 unfold En re
 rcases tS r T with h | ⟨A, x, B, rfl, h⟩
 ·rw [CF jS h, vA jS h]
  simp [FS]
 ·rw [wK jS h, qt jS h]
  simp only [FS, gQ, gz, gC, cE, bJ, eF, aN]
  refine cD _ (cD _ ?_)
  exact eu
theorem Ov {T : oI} (hk : (T.map (·.1)).Nodup) (r : jq) (w : ByteArray) : ((En T r w).map (·.1)).Nodup := by
 unfold En
 rcases tS r T with h | ⟨A, x, B, rfl, h⟩
 ·rw [CF jS h]
  simp only [cE, bJ, eF]
  refine bY.2 ⟨hk, by simp, fun a ha b d e => ?_⟩
  simp at d; subst d; subst e
  obtain ⟨p, hp, e⟩ := bM.1 ha
  exact h p hp e
 ·rw [wK jS h]
  simpa using hk
theorem Bb {T : oI} (hk : (T.map (·.1)).Nodup) (f : jJ) : f ∈ FS T ↔ f.kz ∈ re T f.jq := by
 simp only [FS, iW, bM]
 constructor
 ·rintro ⟨p, hp, w, hw, rfl⟩
  obtain ⟨A, B, rfl⟩ := List.append_of_mem hp
  have b : ∀ q ∈ A, q.1 ≠ p.1 := fun q g e => by
   rw [cE, bJ] at hk
   exact (bY.1 hk).2.2 q.1 (bM.2 ⟨q, g, rfl⟩) p.1 (by simp) e
  rw [re, show p = (p.1, p.2) from rfl, qt jS b]
  exact hw
 ·intro h
  unfold re at h
  rcases tS f.jq T with d | ⟨A, x, B, rfl, b⟩
  ·rw [vA jS d] at h; cases h
  ·rw [qt jS b] at h
   exact ⟨(f.jq, x), by simp, f.kz, h, rfl⟩
theorem Kq {T : oI} (h : (FS T).Nodup) (r : jq) : (re T r).Nodup := by
 unfold re
 rcases tS r T with d | ⟨A, x, B, rfl, b⟩
 ·rw [vA jS d]; simp
 ·rw [qt jS b]
  simp only [FS, gQ, gz] at h
  have h1 := (bY.1 (bY.1 h).2.1).1
  simp only [List.Nodup, fC] at h1
  exact h1.imp (fun h e => h (by rw [e]))
inductive oC (C : List jr) : jJ → Prop
 | mem (c) : c ∈ C → c.Kind = 1 → oC C ⟨c.Head, c.kz⟩
 | inc (c w) : c ∈ C → c.Kind = 2 → oC C ⟨c.B, w⟩ → oC C ⟨c.Head, w⟩
 | Gh (c b w) : c ∈ C → c.Kind = 3 → oC C ⟨c.B, b⟩ → oC C ⟨⟨b, c.kK⟩, w⟩ → oC C ⟨c.Head, w⟩
 | both (c w) : c ∈ C → c.Kind = 4 → oC C ⟨c.B, w⟩ → oC C ⟨c.C, w⟩ → oC C ⟨c.Head, w⟩
theorem oC.mono {C C' : List jr} (h : ∀ c ∈ C, c ∈ C') {f : jJ} (j : oC C f) : oC C' f := by
 induction j with
 | mem c d hk => exact .mem c (h c d) hk
 | inc c w d hk _ ih => exact .inc c w (h c d) hk ih
 | Gh c b w d hk _ _ g i => exact .Gh c b w (h c d) hk g i
 | both c w d hk _ _ g i => exact .both c w (h c d) hk g i
def Fw (C : List jr) : List jJ := (C.map (·.Head)).flatMap fun r => (C.map (·.kz)).map fun w => (⟨r, w⟩ : jJ)
theorem Dj (C : List jr) : (Fw C).length = C.length * C.length := by
 unfold Fw
 have : ∀ l : List jq, (l.flatMap fun r => (C.map (·.kz)).map fun w => (⟨r, w⟩ : jJ)).length = l.length * C.length := fun l => by
  induction l with
  | nil => simp
  | cons x l ih => simp only [gz, aF, ih, dq, aI, cP]; omega
 rw [this, dq]
theorem QA {C : List jr} {r : jq} {w : ByteArray} : (⟨r, w⟩ : jJ) ∈ Fw C ↔ (∃ c ∈ C, c.Head = r) ∧ ∃ c ∈ C, c.kz = w := by
 unfold Fw
 simp only [iW, bM, jJ.mk.injEq]
 constructor
 ·rintro ⟨h, ⟨c, g, rfl⟩, i, ⟨d, b, rfl⟩, rfl, rfl⟩; exact ⟨⟨c, g, rfl⟩, d, b, rfl⟩
 ·rintro ⟨⟨c, g, rfl⟩, d, b, rfl⟩; exact ⟨_, ⟨c, g, rfl⟩, _, ⟨d, b, rfl⟩, rfl, rfl⟩
theorem oC.KF {C : List jr} {f : jJ} (h : oC C f) : ∃ c ∈ C, c.Kind = 1 ∧ c.kz = f.kz := by
 induction h with
 | mem c i hk => exact ⟨c, i, hk, rfl⟩
 | inc c w i hk _ ih => exact ih
 | Gh c b w i hk _ _ d g => exact g
 | both c w i hk _ _ d g => exact d
theorem oC.head {C : List jr} {f : jJ} (h : oC C f) : ∃ c ∈ C, c.Head = f.jq := by
 cases h with
 | mem c d hk => exact ⟨c, d, rfl⟩
 | inc c w d hk _ => exact ⟨c, d, rfl⟩
 | Gh c b w d hk _ _ => exact ⟨c, d, rfl⟩
 | both c w d hk _ _ => exact ⟨c, d, rfl⟩
theorem oC.Fw {C : List jr} {f : jJ} (h : oC C f) : f ∈ Fw C := by
 obtain ⟨c, b, _, hw⟩ := h.KF
 exact QA.2 ⟨h.head, c, b, hw⟩
structure pT (C : List jr) (T : oI) (td : List jJ) (n : Int) : Prop where
 keys : (T.map (·.1)).Nodup
 nd : (FS T).Nodup
 KI : td.Nodup
 sub : ∀ f ∈ td, f ∈ FS T
 num : n = (FS T).length
 wU : ∀ f ∈ FS T, oC C f
theorem pT.len {C : List jr} {T : oI} {d : List jJ} {n : Int} (h : pT C T d n) : (FS T).length ≤ C.length * C.length := by
 rw [← Dj]; exact mo h.nd (fun f b => (h.wU f b).Fw)
theorem pT.RT {C : List jr} {T : oI} {b : List jJ} {n : Int} (h : pT C T b n) : b.length ≤ (FS T).length := mo h.KI h.sub
theorem pT.mono {C C' : List jr} {T : oI} {b : List jJ} {n : Int} (h : pT C T b n) (d : ∀ c ∈ C, c ∈ C') : pT C' T b n := ⟨h.keys, h.nd, h.KI, h.sub, h.num, fun f g => (h.wU f g).mono d⟩
structure zK (T : oI) (td : List jJ) (T' : oI) (td' : List jJ) : Prop where
 lZ : ∀ f ∈ FS T, f ∈ FS T'
 todo : ∀ f ∈ td, f ∈ td'
 new : ∀ f ∈ FS T', f ∈ FS T ∨ f ∈ td'
 fresh : ∀ f ∈ td', f ∈ td ∨ f ∉ FS T
theorem zK.refl (T : oI) (b : List jJ) : zK T b T b := ⟨fun _ h => h, fun _ h => h, fun _ h => .inl h, fun _ h => .inl h⟩
theorem zK.trans {T T' T'' : oI} {j i b : List jJ} (h : zK T j T' i) (k : zK T' i T'' b) : zK T j T'' b :=
 ⟨fun f d => k.lZ f (h.lZ f d), fun f d => k.todo f (h.todo f d), fun f d => by
  rcases k.new f d with h1 | h1
  ·rcases h.new f h1 with g | g
   ·exact .inl g
   ·exact .inr (k.todo f g)
  ·exact .inr h1, fun f d => by
  rcases k.fresh f d with h1 | h1
  ·exact h.fresh f h1
  ·exact .inr (fun g => h1 (h.lZ f g))⟩
theorem Hb {α : Type} (p : α → Bool) : ∀ l : List α, (l.filter p).length + (l.filter fun x => !p x).length = l.length
 | [] => rfl
 | x :: l => by
  have := Hb p l
  cases h : p x <;> simp [h] <;> omega
theorem pT.Fu {C C' : List jr} {T T' : oI} {i d : List jJ} {n q : Int} (j : pT C' T' d q) (g : pT C T i n) (x : zK T i T' d) : d.length + (FS T).length ≤ i.length + (FS T').length := by
 classical
 have h1 : (d.filter fun f => decide (f ∈ FS T)).length ≤ i.length := mo (j.KI.filter _) (fun f l => by
  have := cZ.1 l
  rcases x.fresh f this.1 with h | h
  ·exact h
  ·exact absurd (by simpa using this.2) h)
 have m : (FS T ++ d.filter fun f => !decide (f ∈ FS T)).length ≤ (FS T').length := mo (bY.2 ⟨g.nd, j.KI.filter _, fun a ha b p e => by
  subst e
  have := (cZ.1 p).2
  simp [ha] at this⟩) (fun f l => by
  rcases aU.1 l with h | h
  ·exact x.lZ f h
  ·exact j.sub f (cZ.1 h).1)
 have r : (d.filter fun f => decide (f ∈ FS T)).length + (d.filter fun f => !decide (f ∈ FS T)).length = d.length := by
  exact Hb (fun f => decide (f ∈ FS T)) d
 rw [aF] at m
 omega
def BU (C : List jr) (T : oI) (h : List jJ) (d : Option (List (jq × List (ByteArray × Bool)) × List jJ × Int)) (Q : oI → Prop) : Prop :=
 ∃ T' b g, d = some (mm T', b, g) ∧ pT C T' b g ∧ zK T h T' b ∧ Q T'
theorem BU.mono {C : List jr} {T : oI} {i : List jJ} {b : Option (List (jq × List (ByteArray × Bool)) × List jJ × Int)} {Q Q' : oI → Prop} (h : BU C T i b Q) (m : ∀ T', (∀ f ∈ FS T, f ∈ FS T') → Q T' → Q' T') : BU C T i b Q' := by
 obtain ⟨T', d, n, h1, j, g, l⟩ := h
 exact ⟨T', d, n, h1, j, g, m T' g.lZ l⟩
def qu (C : List jr) : Prop := C.length ≤ 1000000
theorem qu.sq {C : List jr} (h : qu C) : C.length * C.length ≤ 1000000000000 := Nat.mul_le_mul h h
theorem sF {T : oI} (hk : (T.map (·.1)).Nodup) (r : jq) (w : ByteArray) : zu kP ((kZ jR (mm T) r).getD []) w false = true ↔ (⟨r, w⟩ : jJ) ∈ FS T := by
 rw [Ly, N1, xS lW, Bb hk]
theorem Cp {C : List jr} (z : qu C) {T : oI} {m : List jJ} {n : Int} (h : pT C T m n) (cs : List jr) (M : List (jq × List jr)) (ws : List (ByteArray × List jr)) {r : jq} {w : ByteArray} (E : oC C ⟨r, w⟩) :
  BU C T m (nG (mm T) cs M ws m n r w) (fun T' => (⟨r, w⟩ : jJ) ∈ FS T') := by
 unfold nG
 have I := z.sq
 have O := h.len
 have J := h.RT
 by_cases g : (⟨r, w⟩ : jJ) ∈ FS T
 ·rw [bB ((sF h.keys r w).2 g)]
  exact ⟨T, m, n, rfl, h, zK.refl _ _, g⟩
 ·rw [bo (fun u => g ((sF h.keys r w).1 u))]
  have G : pT C (En T r w) (m ++ [⟨r, w⟩]) (n + 1) := by
   have hp := GK T r w
   refine ⟨Ov h.keys r w, (hp.nodup_iff).2 (bY.2 ⟨h.nd, by simp, fun a ha b q e => ?_⟩), bY.2 ⟨h.KI, by simp, fun a ha b q e => ?_⟩, fun f d => hp.mem_iff.2 ?_, ?_, fun f d => ?_⟩
   ·simp at q; subst q; subst e; exact g ha
   ·simp at q; subst q; subst e; exact g (h.sub _ ha)
   ·rcases aU.1 d with d | d
    ·exact cK _ (h.sub f d)
    ·exact dY _ d
   ·rw [hp.length_eq, h.num]; simp
   ·rcases aU.1 (hp.mem_iff.1 d) with d | d
    ·exact h.wU f d
    ·simp at d; subst d; exact E
  have v : ((if (kZ jR (mm T) r).isNone = true then ((F5 jR (mm T) r []).bind fun l => some l) else some (mm T)) : Option _).bind (fun l => (FL jR kP l r w true)) = some (mm (En T r w)) := by
   unfold En re
   rcases tS r T with j | ⟨A, x, B, rfl, t⟩
   ·have s := vA jS (yU j)
    rw [s, vA jS j, CF jS j, DS]
    simp only [Option.isNone_none, aO, F5, s, aA]
    rw [CF jS (yU j)]
    unfold FL
    rw [qt jS (yU j)]
    simp only [et]
    rw [wK jS (yU j)]
    rfl
   ·have p := yU t
    have y : kZ jR (mm (A ++ (r, x) :: B)) r = some (tt x) := by rw [DS]; exact qt jS p
    rw [y, qt jS t, wK jS t]
    simp only [Option.isNone_some, aB, aJ, aA, FL, y, et, gC]
    have L : w ∉ x := fun hw => g (by
     rw [Bb h.keys, re, qt jS t]; exact hw)
    rw [P8 lW]
    rw [show ins kP x w = x ++ [w] from by unfold ins; rw [bo (fun u => L ((xS lW x w).1 u))]]
    rw [DS, show mm ((r, x) :: B) = (r, tt x) :: mm B from rfl, wK jS p, DS]
    rfl
  refine ⟨En T r w, m ++ [⟨r, w⟩], n + 1, ?_, G, ⟨fun f d => (GK T r w).mem_iff.2 (cK _ d), fun f d => cK _ d, fun f d => ?_, fun f d => ?_⟩, (GK T r w).mem_iff.2 (by simp)⟩
  ·have i := v
   generalize ((if (kZ jR (mm T) r).isNone = true then ((F5 jR (mm T) r []).bind fun l => some l) else some (mm T)) : Option _) = o at i
   cases o with
   | none => cases i
   | some l =>
    simp only [aA] at i ⊢
    rw [i]
    simp only [aA]
    rw [lY (by simp; omega) (by simp; omega)]
    simp only [aA]
    rw [kA (by rw [h.num]; omega) (by rw [h.num]; omega)]
  ·rcases aU.1 ((GK T r w).mem_iff.1 d) with h1 | h1
   ·exact .inl h1
   ·exact .inr (dY _ h1)
  ·rcases aU.1 d with h1 | h1
   ·exact .inl h1
   ·simp at h1; subst h1; exact .inr g
theorem zk (l : List ByteArray) (x : ByteArray) : x ∈ uG l ↔ x ∈ l := by unfold uG; simp
def rM (C : List jr) : Prop := ∀ c ∈ C, lT c = true
theorem Nv {c : jr} (h : lT c = true) (hk : c.Kind = 1) : c.kz.size ≤ 16 := by
 rcases om h with h | h | h | h
 ·exact (nX h.2.1).2
 ·exact absurd (hk.symm.trans h.1) (by decide)
 ·exact absurd (hk.symm.trans h.1) (by decide)
 ·exact absurd (hk.symm.trans h.1) (by decide)
theorem N6 {T : oI} (r : jq) (hk : (T.map (·.1)).Nodup) : (re T r).length ≤ (FS T).length := by
 unfold re
 rcases tS r T with d | ⟨A, x, B, rfl, b⟩
 ·rw [vA jS d]; simp
 ·rw [qt jS b]
  simp only [FS, gQ, gz, aF, dq, gC]
  omega
theorem GQ {C : List jr} (b : qu C) (d : rM C) {T : oI} {j : List jJ} {n : Int} (h : pT C T j n) (cs : List jr) (l : List (jq × List jr)) (ws : List (ByteArray × List jr)) (q : List jJ) (z : Int) (r : jq) :
  qb (mm T) cs l ws q z r = some (uG (re T r)) := by
 unfold qb ow
 rw [Ly]
 simp only [aA, ol]
 have t := N6 r h.keys
 have m := h.len
 have s := b.sq
 unfold Gc
 rw [Qe, bB]
 refine ⟨Kq h.nd r, fun p hp => ?_, by rw [Ni]; omega⟩
 simp only [tt, bM] at hp
 obtain ⟨w, hw, rfl⟩ := hp
 have i := h.wU ⟨r, w⟩ ((Bb h.keys ⟨r, w⟩).2 hw)
 obtain ⟨c, g, hk, e⟩ := i.KF
 have := Nv (d c g) hk
 simp only at e ⊢
 rw [← e]
 unfold maxLen
 omega
theorem MW {C : List jr} (j : qu C) (cs : List jr) (i : List (jq × List jr)) (ws : List (ByteArray × List jr)) (head : jq) : ∀ (l : List ByteArray) {T : oI} {b : List jJ} {n : Int}, pT C T b n → (∀ w ∈ l, oC C ⟨head, w⟩) →
  BU C T b (px cs i ws head l (mm T) b n) (fun T' => ∀ w ∈ l, (⟨head, w⟩ : jJ) ∈ FS T')
 | [], T, b, n, h, _ => ⟨T, b, n, rfl, h, zK.refl _ _, fun _ hw => by cases hw⟩
 | w :: l, T, b, n, h, m => by
  rw [px]
  obtain ⟨T1, u, x, p, g1, x1, s⟩ := Cp j h cs i ws (m w (by simp))
  rw [p]
  simp only [aA]
  obtain ⟨T2, g, r, q, g2, x2, t⟩ := MW j cs i ws head l g1 (fun w hw => m w (by simp [hw]))
  refine ⟨T2, g, r, q, g2, x1.trans x2, fun v d => ?_⟩
  rcases aQ.1 d with rfl | d
  ·exact x2.lZ _ s
  ·exact t v d
theorem QQ {C : List jr} (d : qu C) (i : rM C) {T : oI} {b : List jJ} {n : Int} (h : pT C T b n) (cs : List jr) (g : List (jq × List jr)) (ws : List (ByteArray × List jr)) (r head : jq) (j : ∀ w, (⟨r, w⟩ : jJ) ∈ FS T → oC C ⟨head, w⟩) :
  BU C T b (tz (mm T) cs g ws b n r head) (fun T' => ∀ w, (⟨r, w⟩ : jJ) ∈ FS T → (⟨head, w⟩ : jJ) ∈ FS T') := by
 unfold tz
 rw [GQ d i h]
 simp only [aA]
 refine (MW d cs g ws head _ h (fun w hw => j w ((Bb h.keys ⟨r, w⟩).2 ((zk _ _).1 hw)))).mono (fun T' _ l w hw => l w ((zk _ _).2 ((Bb h.keys ⟨r, w⟩).1 hw)))
def EJ (c : jr) (f : jJ) (T T' : oI) : Prop :=
 (c.Kind = 2 → f.jq = c.B → (⟨c.Head, f.kz⟩ : jJ) ∈ FS T') ∧
 (c.Kind = 3 → f.jq = c.B → ∀ w, (⟨⟨f.kz, c.kK⟩, w⟩ : jJ) ∈ FS T → (⟨c.Head, w⟩ : jJ) ∈ FS T') ∧
 (c.Kind = 4 → (⟨c.B, f.kz⟩ : jJ) ∈ FS T → (⟨c.C, f.kz⟩ : jJ) ∈ FS T → (⟨c.Head, f.kz⟩ : jJ) ∈ FS T')
theorem EJ.mono {c : jr} {f : jJ} {T T' T0 T1 : oI} (h : EJ c f T T') (g : ∀ f ∈ FS T0, f ∈ FS T) (h1 : ∀ f ∈ FS T', f ∈ FS T1) : EJ c f T0 T1 :=
 ⟨fun a b => h1 _ (h.1 a b), fun a b w hw => h1 _ (h.2.1 a b w (g _ hw)), fun a b d => h1 _ (h.2.2 a (g _ b) (g _ d))⟩
theorem Pt (x : Option (List (jq × List (ByteArray × Bool)) × List jJ × Int)) : (x.bind fun r => some (r.1, r.2.1, r.2.2)) = x := by cases x <;> rfl
theorem MZ {C : List jr} (q : qu C) (v : rM C) {T : oI} {j : List jJ} {n : Int} (h : pT C T j n) (cs : List jr) (m : List (jq × List jr)) (ws : List (ByteArray × List jr)) {c : jr} (r : c ∈ C) {f : jJ} (t : f ∈ FS T) (u : f.jq ∈ od c) :
  BU C T j (qS (mm T) cs m ws j n c f) (EJ c f T) := by
 unfold qS
 simp only [Pt, Dw]
 by_cases b : c.Kind = 2
 ·have p : f.jq = c.B := by simpa [od, b] using u
  rw [bB (by simp [b])]
  have s : oC C ⟨c.Head, f.kz⟩ := .inc c f.kz r b (by rw [← p]; exact h.wU f t)
  refine (Cp q h cs m ws s).mono (fun T' _ i => ⟨fun _ _ => i, fun k => absurd (b.symm.trans k) (by decide), fun k => absurd (b.symm.trans k) (by decide)⟩)
 rw [bo (by simp [b])]
 by_cases d : c.Kind = 3
 ·have p : f.jq = c.B := by simpa [od, d] using u
  rw [bB (by simp [d])]
  refine (QQ q v h cs m ws ⟨f.kz, c.kK⟩ c.Head (fun w hw => .Gh c f.kz w r d (by rw [← p]; exact h.wU f t) (h.wU _ hw))).mono (fun T' _ i => ⟨fun k => absurd k b, fun _ _ w hw => i w hw, fun k => absurd (d.symm.trans k) (by decide)⟩)
 rw [bo (by simp [d])]
 by_cases l : c.Kind = 4
 ·rw [bB (by simp [l])]
  simp only [aA]
  by_cases g : (⟨c.B, f.kz⟩ : jJ) ∈ FS T ∧ (⟨c.C, f.kz⟩ : jJ) ∈ FS T
  ·rw [bB (by rw [aX, sF h.keys, sF h.keys]; exact g)]
   have s : oC C ⟨c.Head, f.kz⟩ := .both c f.kz r l (h.wU _ g.1) (h.wU _ g.2)
   exact (Cp q h cs m ws s).mono (fun T' _ i => ⟨fun k => absurd k b, fun k => absurd k d, fun _ _ _ => i⟩)
  ·rw [bo (by rw [aX, sF h.keys, sF h.keys]; exact g)]
   exact ⟨T, j, n, rfl, h, zK.refl _ _, fun k => absurd k b, fun k => absurd k d, fun _ x y => absurd ⟨x, y⟩ g⟩
 ·rw [bo (by simp [l])]
  exact ⟨T, j, n, rfl, h, zK.refl _ _, fun k => absurd k b, fun k => absurd k d, fun k => absurd k l⟩
theorem Jd {C : List jr} (j : qu C) (m : rM C) (cs : List jr) (i : List (jq × List jr)) (ws : List (ByteArray × List jr)) {c : jr} (p : c ∈ C) (q : c.B ∈ od c) : ∀ (l : List ByteArray) {T : oI} {b : List jJ} {n : Int}, pT C T b n → (∀ w ∈ l, (⟨c.B, w⟩ : jJ) ∈ FS T) →
  BU C T b (oO cs i ws c l (mm T) b n) (fun T' => ∀ w ∈ l, EJ c ⟨c.B, w⟩ T T')
 | [], T, b, n, h, _ => ⟨T, b, n, rfl, h, zK.refl _ _, fun _ hw => by cases hw⟩
 | w :: l, T, b, n, h, hm => by
  rw [oO]
  obtain ⟨T1, y, z, r, g1, x1, u⟩ := MZ j m h cs i ws p (f := ⟨c.B, w⟩) (hm w (by simp)) q
  rw [r]
  simp only [aA]
  obtain ⟨T2, g, t, s, g2, x2, x⟩ := Jd j m cs i ws p q l g1 (fun w hw => x1.lZ _ (hm w (by simp [hw])))
  refine ⟨T2, g, t, s, g2, x1.trans x2, fun v d => ?_⟩
  rcases aQ.1 d with rfl | d
  ·exact u.mono (fun _ h => h) x2.lZ
  ·exact (x v d).mono x1.lZ (fun _ h => h)
def Fg (c : jr) (T : oI) (d : List jJ) : Prop :=
 (c.Kind = 1 → (⟨c.Head, c.kz⟩ : jJ) ∈ FS T) ∧
 (c.Kind = 2 → ∀ w, (⟨c.B, w⟩ : jJ) ∈ FS T → (⟨c.B, w⟩ : jJ) ∉ d → (⟨c.Head, w⟩ : jJ) ∈ FS T) ∧
 (c.Kind = 3 → ∀ b w, (⟨c.B, b⟩ : jJ) ∈ FS T → (⟨c.B, b⟩ : jJ) ∉ d → (⟨⟨b, c.kK⟩, w⟩ : jJ) ∈ FS T → (⟨⟨b, c.kK⟩, w⟩ : jJ) ∉ d → (⟨c.Head, w⟩ : jJ) ∈ FS T) ∧
 (c.Kind = 4 → ∀ w, (⟨c.B, w⟩ : jJ) ∈ FS T → (⟨c.B, w⟩ : jJ) ∉ d → (⟨c.C, w⟩ : jJ) ∈ FS T → (⟨c.C, w⟩ : jJ) ∉ d → (⟨c.Head, w⟩ : jJ) ∈ FS T)
theorem Fg.ext {c : jr} {T T' : oI} {i d : List jJ} (h : Fg c T i) (x : zK T i T' d) : Fg c T' d := by
 have lZ : ∀ f, f ∈ FS T' → f ∉ d → f ∈ FS T ∧ f ∉ i := fun f m j => by
  rcases x.new f m with h1 | h1
  ·exact ⟨h1, fun l => j (x.todo f l)⟩
  ·exact absurd h1 j
 refine ⟨fun k => x.lZ _ (h.1 k), fun k w a b => ?_, fun k b w g a2 a3 a4 => ?_, fun k w g a2 a3 a4 => ?_⟩
 ·exact x.lZ _ (h.2.1 k w (lZ _ a b).1 (lZ _ a b).2)
 ·exact x.lZ _ (h.2.2.1 k b w (lZ _ g a2).1 (lZ _ g a2).2 (lZ _ a3 a4).1 (lZ _ a3 a4).2)
 ·exact x.lZ _ (h.2.2.2 k w (lZ _ g a2).1 (lZ _ g a2).2 (lZ _ a3 a4).1 (lZ _ a3 a4).2)
theorem O7 {C : List jr} (l : qu C) (s : rM C) {T : oI} {p : List jJ} {n : Int} (h : pT C T p n) (cs : List jr) (r : List (jq × List jr)) (ws : List (ByteArray × List jr)) {c : jr} (t : c ∈ C) :
  ∃ T' d i, rW (mm T) cs r ws p n c = some (mm T', d, i) ∧ pT C T' d i ∧ zK T p T' d ∧ Fg c T' d := by
 unfold rW
 simp only [Pt]
 by_cases h1 : c.Kind = 1
 ·rw [bB (by simp [h1])]
  obtain ⟨T', d, i, e, g, x, q⟩ := Cp l h cs r ws (oC.mem c t h1)
  exact ⟨T', d, i, e, g, x, fun _ => q, fun k => absurd (h1.symm.trans k) (by decide), fun k => absurd (h1.symm.trans k) (by decide), fun k => absurd (h1.symm.trans k) (by decide)⟩
 ·rw [bo (by simp [h1]), GQ l s h]
  simp only [aA]
  have y : c.B ∈ od c := by unfold od; rw [bo h1]; split <;> simp
  obtain ⟨T', d, i, e, g, x, q⟩ := Jd l s cs r ws t y (uG (re T c.B)) h (fun w hw => (Bb h.keys ⟨c.B, w⟩).2 ((zk _ _).1 hw))
  have lZ : ∀ f, f ∈ FS T' → f ∉ d → f ∈ FS T := fun f u v => by
   rcases x.new f u with h1 | h1
   ·exact h1
   ·exact absurd h1 v
  have m : ∀ w, (⟨c.B, w⟩ : jJ) ∈ FS T → EJ c ⟨c.B, w⟩ T T' := fun w hw => q w ((zk _ _).2 ((Bb h.keys ⟨c.B, w⟩).1 hw))
  refine ⟨T', d, i, e, g, x, fun k => absurd k h1, fun k w a b => ?_, fun k b w j a2 a3 a4 => ?_, fun k w j a2 a3 a4 => ?_⟩
  ·exact (m w (lZ _ a b)).1 k rfl
  ·exact (m b (lZ _ j a2)).2.1 k rfl w (lZ _ a3 a4)
  ·exact (m w (lZ _ j a2)).2.2 k (lZ _ j a2) (lZ _ a3 a4)
structure Ed (C : List jr) (us : List (jq × List jr)) (ws : List (ByteArray × List jr)) : Prop where
 Od : ∀ r c, c ∈ (kZ jR us r).getD [] ↔ c ∈ C ∧ r ∈ od c
 word : ∀ w c, c ∈ (kZ kP ws w).getD [] ↔ c ∈ C ∧ c.Kind = 3 ∧ c.kK = w
 Rt : ∀ r, ((kZ jR us r).getD []).length ≤ 2 * C.length
 RF : ∀ w, ((kZ kP ws w).getD []).length ≤ C.length
theorem HX {C : List jr} (j : qu C) (m : rM C) (cs : List jr) (i : List (jq × List jr)) (ws : List (ByteArray × List jr)) {f : jJ} : ∀ (l : List jr) {T : oI} {b : List jJ} {n : Int}, pT C T b n → f ∈ FS T → (∀ c ∈ l, c ∈ C ∧ f.jq ∈ od c) →
  BU C T b (oG cs i ws f l (mm T) b n) (fun T' => ∀ c ∈ l, EJ c f T T')
 | [], T, b, n, h, _, _ => ⟨T, b, n, rfl, h, zK.refl _ _, fun _ hw => by cases hw⟩
 | c :: l, T, b, n, h, p, hm => by
  rw [oG]
  obtain ⟨T1, x, y, q, g1, x1, u⟩ := MZ j m h cs i ws (hm c (by simp)).1 p (hm c (by simp)).2
  rw [q]
  simp only [aA]
  obtain ⟨T2, g, t, r, g2, x2, w⟩ := HX j m cs i ws l g1 (x1.lZ _ p) (fun c s => hm c (by simp [s]))
  refine ⟨T2, g, t, r, g2, x1.trans x2, fun v d => ?_⟩
  rcases aQ.1 d with rfl | d
  ·exact u.mono (fun _ h => h) x2.lZ
  ·exact (w v d).mono x1.lZ (fun _ h => h)
theorem D0 {C : List jr} (q : qu C) (x : rM C) (cs : List jr) (m : List (jq × List jr)) (ws : List (ByteArray × List jr)) {f : jJ} : ∀ (l : List jr) {T : oI} {i : List jJ} {n : Int}, pT C T i n → f ∈ FS T → (∀ c ∈ l, c ∈ C ∧ c.Kind = 3 ∧ c.kK = f.jq.Word) →
  BU C T i (nK f cs m ws l (mm T) i n) (fun T' => ∀ c ∈ l, (⟨c.B, f.jq.js⟩ : jJ) ∈ FS T → (⟨c.Head, f.kz⟩ : jJ) ∈ FS T')
 | [], T, i, n, h, _, _ => ⟨T, i, n, rfl, h, zK.refl _ _, fun _ hw => by cases hw⟩
 | c :: l, T, i, n, h, s, hm => by
  rw [nK]
  have hk := hm c (by simp)
  by_cases j : (⟨c.B, f.jq.js⟩ : jJ) ∈ FS T
  ·rw [bB ((sF h.keys _ _).2 j)]
   have t : f = ⟨⟨f.jq.js, c.kK⟩, f.kz⟩ := by rw [hk.2.2]
   have z : oC C ⟨c.Head, f.kz⟩ := .Gh c f.jq.js f.kz hk.1 hk.2.1 (h.wU _ j) (by rw [← t]; exact h.wU f s)
   obtain ⟨T1, G, I, y, g1, x1, E⟩ := Cp q h cs m ws z
   rw [y]
   simp only [aA]
   obtain ⟨T2, g, u, p, g2, x2, w⟩ := D0 q x cs m ws l g1 (x1.lZ _ s) (fun c r => hm c (by simp [r]))
   refine ⟨T2, g, u, p, g2, x1.trans x2, fun v d b => ?_⟩
   rcases aQ.1 d with rfl | d
   ·exact x2.lZ _ E
   ·exact w v d (x1.lZ _ b)
  ·rw [bo (fun A => j ((sF h.keys _ _).1 A))]
   obtain ⟨T2, g, u, p, g2, x2, w⟩ := D0 q x cs m ws l h s (fun c r => hm c (by simp [r]))
   refine ⟨T2, g, u, p, g2, x2, fun v d b => ?_⟩
   rcases aQ.1 d with rfl | d
   ·exact absurd b j
   ·exact w v d b
theorem Ik {C : List jr} (G : qu C) (I : rM C) {cs : List jr} {A : List (jq × List jr)} {ws : List (ByteArray × List jr)} (u : Ed C A ws) : ∀ (m : Nat) {T : oI} {l : List jJ} {n : Int}, pT C T l n → (∀ c ∈ C, Fg c T l) → C.length * C.length + l.length < m + (FS T).length →
  ∃ T' M, nk cs A ws m (mm T) l n = some (mm T', [], M) ∧ pT C T' [] M ∧ (∀ c ∈ C, Fg c T' []) ∧ (∀ f ∈ FS T, f ∈ FS T')
 | 0, T, l, n, h, _, hm => by have := h.len; omega
 | m + 1, T, [], n, h, q, hm => by
  rw [nk]
  exact ⟨T, n, rfl, h, q, fun _ h => h⟩
 | m + 1, T, f :: l, n, h, q, hm => by
  rw [nk]
  rw [bB (by simp)]
  have L : f ∈ FS T := h.sub f (by simp)
  have U := (dx.1 h.KI)
  simp only [lB, Int.le_refl, aO, Int.toNat_zero, gd, aA]
  rw [show qW (decide ((0 : Nat) ≤ 1) && decide ((1 : Int) ≤ ((f :: l).length : Int))) = some () by simp [qW]; omega]
  simp only [aA, show Int.toNat 1 = 1 from rfl, List.drop_one, List.tail_cons]
  have J : pT C T l n := ⟨h.keys, h.nd, U.2, fun g y => h.sub g (by simp [y]), h.num, h.wU⟩
  obtain ⟨T1, a6, n1, P, g1, x1, q1⟩ := HX G I cs A ws ((kZ jR A f.jq).getD []) J L (fun c i => (u.Od _ c).1 i)
  rw [P]
  simp only [aA]
  obtain ⟨T2, r, n2, Q, g2, x2, q2⟩ := D0 G I cs A ws ((kZ kP ws f.jq.Word).getD []) g1 (x1.lZ _ L) (fun c i => (u.word _ c).1 i)
  rw [Q]
  simp only [aA]
  have x := x1.trans x2
  have lZ : ∀ g, g ∈ FS T2 → g ∉ r → g ∈ FS T ∧ (g = f ∨ g ∉ f :: l) := fun g y z => by
   rcases x.new g y with h1 | h1
   ·refine ⟨h1, ?_⟩
    by_cases he : g = f
    ·exact .inl he
    ·exact .inr (fun t => by
      rcases aQ.1 t with t | t
      ·exact he t
      ·exact z (x.todo g t))
   ·exact absurd h1 z
  have d1 : ∀ c ∈ C, f.jq ∈ od c → EJ c f T T2 := fun c i W => (q1 c ((u.Od _ c).2 ⟨i, W⟩)).mono (fun _ h => h) x2.lZ
  have v : ∀ c ∈ C, Fg c T2 r := fun c i => by
   have k := q c i
   refine ⟨fun hk => x.lZ _ (k.1 hk), fun hk w a b => ?_, fun hk b w E a2 a3 a4 => ?_, fun hk w E a2 a3 a4 => ?_⟩
   ·obtain ⟨p, d⟩ := lZ _ a b
    rcases d with d | d
    ·subst d; exact (d1 c i (by simp [od, hk])).1 hk rfl
    ·exact x.lZ _ (k.2.1 hk w p d)
   ·obtain ⟨p, d⟩ := lZ _ E a2
    obtain ⟨s, j⟩ := lZ _ a3 a4
    rcases d with d | d
    ·subst d; exact (d1 c i (by simp [od, hk])).2.1 hk rfl w s
    ·rcases j with j | j
     ·subst j
      exact q2 c ((u.word _ c).2 ⟨i, hk, rfl⟩) (x1.lZ _ p)
     ·exact x.lZ _ (k.2.2.1 hk b w p d s j)
   ·obtain ⟨p, d⟩ := lZ _ E a2
    obtain ⟨s, j⟩ := lZ _ a3 a4
    rcases d with d | d
    ·subst d; exact (d1 c i (by simp [od, hk])).2.2 hk p s
    ·rcases j with j | j
     ·subst j; exact (d1 c i (by simp [od, hk])).2.2 hk p s
     ·exact x.lZ _ (k.2.2.2 hk w p d s j)
  have hlen : r.length + (FS T).length ≤ l.length + (FS T2).length := by
   exact g2.Fu J x
  obtain ⟨T3, Y, R, g3, O, Z⟩ := Ik G I u m g2 v (by simp only [aI] at hm; omega)
  exact ⟨T3, Y, R, g3, O, fun g y => Z g (x.lZ g y)⟩
theorem Lm (c : jr) : ∀ (l : List jr) (i : Nat), ∃ z, pw c l i = some z ∧ (z ≥ 0 ↔ c ∈ l)
 | [], i => ⟨-1, rfl, by simp⟩
 | x :: l, i => by
  rw [pw]
  by_cases h : lu c x = true
  ·rw [bB h]
   exact ⟨_, rfl, by simp [rH.1 h]⟩
  ·rw [bo h]
   obtain ⟨z, e, d⟩ := Lm c l (i + 1)
   refine ⟨z, e, ?_⟩
   rw [d, aQ]
   exact ⟨.inr, fun b => b.resolve_left (fun e => h (rH.2 e))⟩
theorem JK (c : jr) (l : List jr) : ∃ b, pM l c = some b ∧ (b = true ↔ c ∈ l) := by
 obtain ⟨z, e, d⟩ := Lm c l 0
 refine ⟨decide (z ≥ 0), ?_, by simpa using d⟩
 unfold pM rE vJ
 rw [e]
 rfl
theorem KO (c : jr) (ws : List (ByteArray × List jr)) (C : List jr) (hw : ∀ w, ((kZ kP ws w).getD []).length ≤ 2000000) : ∀ (l : List jq) (b : List (jq × List jr)), (∀ r, ((kZ jR b r).getD []).length + l.length ≤ 4000000) →
  ∃ i j, oe c ws C l b = some (C, i, j) ∧ (∀ r x, x ∈ (kZ jR i r).getD [] ↔ x ∈ (kZ jR b r).getD [] ∨ (x = c ∧ r ∈ l)) ∧
   (∀ w x, x ∈ (kZ kP j w).getD [] ↔ x ∈ (kZ kP ws w).getD [] ∨ (x = c ∧ c.Kind = 3 ∧ w = c.kK)) ∧ (∀ r, ((kZ jR i r).getD []).length ≤ ((kZ jR b r).getD []).length + l.length) ∧
   (∀ w, ((kZ kP j w).getD []).length ≤ ((kZ kP ws w).getD []).length + 1)
 | [], b, _ => by
  rw [oe]
  by_cases m : c.Kind = 3
  ·rw [bB (by simp [m])]
   have h := hw c.kK
   rw [lY (by simp; omega) (by simp; omega)]
   simp only [aA]
   refine ⟨b, _, rfl, by simp, fun w x => ?_, by simp, fun w => ?_⟩
   ·rw [Ei lW]
    by_cases hk : kP w c.kK = true
    ·rw [bB hk, lW.1 hk]; simp [m]
    ·rw [bo hk]
     have : w ≠ c.kK := fun e => hk (lW.2 e)
     simp [this]
   ·rw [Ei lW]
    by_cases hk : kP w c.kK = true
    ·rw [bB hk, lW.1 hk]; simp
    ·rw [bo hk]; exact iz _
  ·rw [bo (by simp [m])]
   exact ⟨b, ws, rfl, by simp, by simp [m], by simp, by simp⟩
 | d :: l, b, n => by
  rw [oe]
  have h := n d
  simp only [aI] at h
  rw [lY (by simp; omega) (by simp; omega)]
  simp only [aA]
  have g : ∀ r, (kZ jR (nT jR b d (((kZ jR b d).getD []) ++ [c])) r).getD [] = if jR r d = true then ((kZ jR b d).getD []) ++ [c] else (kZ jR b r).getD [] := fun r => by
   rw [Ei jS]; by_cases hk : jR r d = true
   ·rw [bB hk, bB hk]; rfl
   ·rw [bo hk, bo hk]
  obtain ⟨i, j, e, p, a2, a3, a4⟩ := KO c ws C hw l (nT jR b d (((kZ jR b d).getD []) ++ [c])) (fun r => by
   rw [g r]
   have q := n r
   simp only [aI] at q
   by_cases hk : jR r d = true
   ·rw [bB hk]; simp; omega
   ·rw [bo hk]; omega)
  refine ⟨i, j, e, fun r x => ?_, a2, fun r => ?_, a4⟩
  ·rw [p, g]
   by_cases hk : jR r d = true
   ·rw [bB hk, jS.1 hk]
    simp only [aU, aQ, cW, eX]
    constructor
    ·rintro ((h | h) | h)
     ·exact .inl h
     ·exact .inr ⟨h, .inl trivial⟩
     ·exact .inr ⟨h.1, .inr h.2⟩
    ·rintro (h | h)
     ·exact .inl (.inl h)
     ·exact .inl (.inr h.1)
   ·rw [bo hk]
    have : r ≠ d := fun e => hk (jS.2 e)
    simp [this]
  ·have := a3 r
   rw [g r] at this
   by_cases hk : jR r d = true
   ·rw [bB hk] at this; rw [jS.1 hk] at this ⊢; simp at this ⊢; omega
   ·rw [bo hk] at this; simp; omega
theorem P7 {C : List jr} {l : List (jq × List jr)} {ws : List (ByteArray × List jr)} (j : Ed C l ws) (t : C.length + 1 ≤ 1000000) {c : jr} (p : lT c = true) (i : List (jq × List (ByteArray × Bool))) (s : List jJ) (n : Int) :
  ∃ b d, sK i C l ws s n c = some (C ++ [c], b, d) ∧ Ed (C ++ [c]) b d := by
 unfold sK
 rw [lY (by simp; omega) (by simp; omega)]
 simp only [aA, QJ p]
 rw [show qW (decide ((0 : Nat) ≤ 1) && decide ((1 : Int) ≤ ((c.Head :: od c).length : Int))) = some () by simp [qW]; omega]
 simp only [aA, show Int.toNat 1 = 1 from rfl, List.drop_one, List.tail_cons]
 have q : (od c).length ≤ 2 := by unfold od; split; simp; split <;> simp
 obtain ⟨b, d, e, m, a2, a3, a4⟩ := KO c ws (C ++ [c]) (fun w => by have := j.RF w; omega) (od c) l (fun r => by have := j.Rt r; omega)
 refine ⟨b, d, e, fun r x => ?_, fun w x => ?_, fun r => ?_, fun w => ?_⟩
 ·rw [m, j.Od, aU, bV]
  constructor
  ·rintro (h | h)
   ·exact ⟨.inl h.1, h.2⟩
   ·exact ⟨.inr h.1, by rw [h.1]; exact h.2⟩
  ·rintro ⟨h | h, g⟩
   ·exact .inl ⟨h, g⟩
   ·exact .inr ⟨h, by rw [← h]; exact g⟩
 ·rw [a2, j.word, aU, bV]
  constructor
  ·rintro (h | h)
   ·exact ⟨.inl h.1, h.2⟩
   ·exact ⟨.inr h.1, by rw [h.1]; exact ⟨h.2.1, h.2.2.symm⟩⟩
  ·rintro ⟨h | h, g⟩
   ·exact .inl ⟨h, g⟩
   ·subst h; exact .inr ⟨rfl, g.1, g.2.symm⟩
 ·have := a3 r; have := j.Rt r; simp; omega
 ·have := a4 w; have := j.RF w; simp; omega
structure MS (C : List jr) (T : oI) (us : List (jq × List jr)) (ws : List (ByteArray × List jr)) (n : Int) : Prop where
 DV : pT C T [] n
 cl : ∀ c ∈ C, Fg c T []
 To : Ed C us ws
 right : rM C
theorem MS.all {C : List jr} {T : oI} {l : List (jq × List jr)} {ws : List (ByteArray × List jr)} {n : Int} (h : MS C T l ws n) (f : jJ) : f ∈ FS T ↔ oC C f := by
 refine ⟨h.DV.wU f, fun j => ?_⟩
 induction j with
 | mem c d hk => exact (h.cl c d).1 hk
 | inc c w d hk _ ih => exact (h.cl c d).2.1 hk w ih (by simp)
 | Gh c b w d hk _ _ g i => exact (h.cl c d).2.2.1 hk b w g (by simp) i (by simp)
 | both c w d hk _ _ g i => exact (h.cl c d).2.2.2 hk w g (by simp) i (by simp)
theorem Js (s : Int) (A : 0 ≤ s ∧ s ≤ 1000000000000) : ∀ (l : List jr) {C : List jr} {T : oI} {r : List jJ} {E : List (jq × List jr)} {ws : List (ByteArray × List jr)} {n : Int}, pT C T r n → (∀ c ∈ C, Fg c T r) → Ed C E ws → rM C → C.length + l.length ≤ 1000000 →
  ∃ C' T' d i p, nJ s l (mm T) C E ws r n = some (p - s, mm T', C', d, i, [], p) ∧ MS C' T' d i p ∧ (∀ c, c ∈ C' ↔ c ∈ C ∨ (c ∈ l ∧ lT c = true)) ∧ C'.length ≤ C.length + l.length ∧ (∀ f ∈ FS T, f ∈ FS T')
 | [], C, T, r, E, ws, n, g, j, v, t, P => by
  rw [nJ]
  have Z : qu C := by unfold qu; simp at P; omega
  have a7 := Z.sq
  have hlen := g.len
  have a8 := g.RT
  obtain ⟨T', p, e, J, c', o⟩ := Ik Z t v (cs := C) jY g j (by rw [wM]; omega)
  unfold ud
  rw [e]
  simp only [aA]
  have Q := J.len
  have a6 := J.num
  rw [kA (by omega) (by omega)]
  exact ⟨C, T', E, ws, p, rfl, ⟨J, c', v, t⟩, by simp, by simp, o⟩
 | x :: l, C, T, r, E, ws, n, g, j, v, t, P => by
  rw [nJ, vQ]
  simp only [aI] at P
  obtain ⟨b, hb, w⟩ := JK x C
  simp only [aA, hb, Dw]
  by_cases q : lT x = true ∧ x ∉ C
  ·have M : b = false := by cases b with | false => rfl | true => exact absurd (w.1 rfl) q.2
   rw [q.1, M]
   simp only [cN, iP, aO]
   obtain ⟨W, Y, e1, U1⟩ := P7 v (by omega) q.1 (mm T) r n
   rw [e1]
   simp only [aA]
   have L : qu (C ++ [x]) := by unfold qu; simp; omega
   have u : rM (C ++ [x]) := fun c y => by
    rcases aU.1 y with h | h
    ·exact t c h
    ·simp at h; subst h; exact q.1
   have g1 : pT (C ++ [x]) T r n := g.mono (fun c y => cK _ y)
   obtain ⟨T2, U, n2, e2, g2, x2, c2⟩ := O7 L u g1 (C ++ [x]) W Y (c := x) (by simp)
   rw [e2]
   simp only [aA]
   have z : ∀ c ∈ C ++ [x], Fg c T2 U := fun c y => by
    rcases aU.1 y with h | h
    ·exact (j c h).ext x2
    ·simp at h; subst h; exact c2
   obtain ⟨C', T', d, i, p, e, m, I, a2, a3⟩ := Js s A l g2 z U1 u (by simp; omega)
   refine ⟨C', T', d, i, p, e, m, fun c => ?_, by simp at a2 ⊢; omega, fun f O => a3 f (x2.lZ f O)⟩
   rw [I]
   simp only [aU, aQ, cW, eX]
   constructor
   ·rintro ((h | h) | h)
    ·exact .inl h
    ·subst h; exact .inr ⟨.inl rfl, q.1⟩
    ·exact .inr ⟨.inr h.1, h.2⟩
   ·rintro (h | ⟨h | h, G⟩)
    ·exact .inl (.inl h)
    ·exact .inl (.inr h)
    ·exact .inr ⟨h, G⟩
  ·have O : (lT x && !b) = false := by
    cases hr : lT x with
    | false => rfl
    | true =>
     have : x ∈ C := eU fun R => q ⟨hr, R⟩
     rw [w.2 this]; rfl
   rw [O]
   simp only [aB, aJ]
   obtain ⟨C', T', d, i, p, e, m, I, a2, a3⟩ := Js s A l g j v t (by omega)
   refine ⟨C', T', d, i, p, e, m, fun c => ?_, by simp; omega, a3⟩
   rw [I, aQ]
   constructor
   ·rintro (h | h)
    ·exact .inl h
    ·exact .inr ⟨.inr h.1, h.2⟩
   ·rintro (h | ⟨h | h, G⟩)
    ·exact .inl h
    ·subst h
     exact .inl (eU fun R => q ⟨G, R⟩)
    ·exact .inr ⟨h, G⟩
theorem QF {C : List jr} {T : oI} {i : List (jq × List jr)} {ws : List (ByteArray × List jr)} {n : Int} (h : MS C T i ws n) (l : List jr) (m : C.length + l.length ≤ 1000000) :
  ∃ C' T' b d g, tw (mm T) C i ws [] n l = some (g - n, mm T', C', b, d, [], g) ∧ MS C' T' b d g ∧ (∀ c, c ∈ C' ↔ c ∈ C ∨ (c ∈ l ∧ lT c = true)) ∧ C'.length ≤ C.length + l.length ∧ (∀ f ∈ FS T, f ∈ FS T') := by
 have j : qu C := by unfold qu; omega
 have h1 := h.DV.len
 have p := j.sq
 have q := h.DV.num
 exact Js n ⟨by omega, by omega⟩ l h.DV h.cl h.To h.right m
theorem Ed.zero : Ed [] [] [] := ⟨fun r c => by simp [kZ], fun w c => by simp [kZ], fun r => by simp [kZ], fun w => by simp [kZ]⟩
theorem pT.zero : pT [] [] [] 0 := ⟨by simp, by simp [FS], by simp, by simp, by simp [FS], by simp [FS]⟩
theorem MS.zero : MS [] [] [] [] 0 := ⟨pT.zero, fun c b => (by cases b), Ed.zero, fun c b => (by cases b)⟩
theorem L4 (l : List jr) (i : l.length ≤ 1000000) : ∃ C T g ws n, wB l = some (mm T, C, g, ws, [], n) ∧ MS C T g ws n ∧ (∀ c, c ∈ C ↔ c ∈ l ∧ lT c = true) ∧ C.length ≤ l.length := by
 unfold wB
 obtain ⟨C', T', b, d, j, e, m, h, a2, a3⟩ := QF MS.zero l (by simpa using i)
 rw [show tw [] [] [] [] [] 0 l = _ from e]
 exact ⟨C', T', b, d, j, rfl, m, by simpa using h, by simpa using a2⟩
theorem oC.congr {C C' : List jr} (h : ∀ c, c ∈ C ↔ c ∈ C') (f : jJ) : oC C f ↔ oC C' f := ⟨fun d => d.mono (fun c b => (h c).1 b), fun d => d.mono (fun c b => (h c).2 b)⟩
def yJ (a b : jJ) : Bool := BA a.jq b.jq || (jR a.jq b.jq && pH a.kz b.kz)
theorem Av {a b : jJ} : yJ a b = true ↔ BA a.jq b.jq = true ∨ (a.jq = b.jq ∧ pH a.kz b.kz = true) := by simp [yJ, jS]
def Dp (_ : jJ) : Bool := true
theorem GM : zY (fun a b => yJ a b = true) (fun x => Dp x = true) := by
 have H := Sh (fun _ => True)
 refine ⟨fun x _ => ?_, fun x y z _ _ _ h1 d => ?_, fun x y _ _ => ?_⟩
 ·rw [Av]
  rintro (h | ⟨_, h⟩)
  ·exact H.irrefl _ trivial h
  ·rw [sG] at h; cases h
 ·rw [Av] at *
  rcases h1 with h1 | ⟨i, h1⟩
  ·rcases d with d | ⟨g, d⟩
   ·exact .inl (H.trans _ _ _ trivial trivial trivial h1 d)
   ·exact .inl (by rw [← g]; exact h1)
  ·rcases d with d | ⟨g, d⟩
   ·exact .inl (by rw [i]; exact d)
   ·exact .inr ⟨i.trans g, zM h1 d⟩
 ·simp only [Av]
  rcases H.total x.jq y.jq trivial trivial with h | h | h
  ·exact .inl (.inl h)
  ·rcases zD x.kz y.kz with d | d | d
   ·exact .inl (.inr ⟨h, d⟩)
   ·refine .inr (.inl ?_)
    cases x; cases y; simp at h d; simp [h, d]
   ·exact .inr (.inr (.inr ⟨h.symm, d⟩))
  ·exact .inr (.inr (.inl h))
theorem GO (a b : ByteArray) : oQ a b = 0 ↔ a = b := by unfold oQ; rw [F3]; exact ⟨zA, fun h => by rw [h]⟩
theorem R7 (a b : ByteArray) : oQ a b < 0 ↔ pH a b = true := by rw [xW]; exact Cu _ _
theorem NP (a b : jq) : ∃ c, rp a b = some c ∧ (c < 0 ↔ BA a b = true) ∧ (c = 0 ↔ a = b) := by
 obtain ⟨c, e, h⟩ := Af a b
 refine ⟨c, e, h, ?_⟩
 unfold rp at e
 simp only [pf, nu, aA, uy, rV, ol] at e
 by_cases d : oQ a.js b.js = 0
 ·rw [bo (by simp [d])] at e
  have h1 := (GO _ _).1 d
  by_cases g : oQ a.Word b.Word = 0
  ·rw [bo (by simp [g])] at e
   have i := (GO _ _).1 g
   cases e
   refine ⟨fun _ => ?_, fun _ => rfl⟩
   cases a; cases b; simp at h1 i; simp [h1, i]
  ·rw [bB (by simp [g])] at e
   cases e
   exact ⟨fun k => absurd k g, fun k => by rw [k] at g; exact absurd ((GO _ _).2 rfl) g⟩
 ·rw [bB (by simp [d])] at e
  cases e
  exact ⟨fun k => absurd k d, fun k => by rw [k] at d; exact absurd ((GO _ _).2 rfl) d⟩
theorem Oc (a b : jJ) : ∃ c, pD a b = some c ∧ (c < 0 ↔ yJ a b = true) := by
 unfold pD
 obtain ⟨c, e, h1, i⟩ := NP a.jq b.jq
 rw [e]
 simp only [pf, nu, aA, uy, rV, ol]
 by_cases g : c = 0
 ·rw [bo (by simp [g])]
  have l := i.1 g
  have d : ¬ BA a.jq b.jq = true := fun j => by have := h1.2 j; omega
  by_cases h : oQ a.kz b.kz = 0
  ·rw [bo (by simp [h])]
   refine ⟨0, rfl, ?_⟩
   rw [Av]
   simp [d, (GO _ _).1 h, sG]
  ·rw [bB (by simp [h])]
   refine ⟨_, rfl, ?_⟩
   rw [Av, R7]
   exact ⟨fun k => .inr ⟨l, k⟩, fun k => k.elim (fun k => absurd k d) (·.2)⟩
 ·rw [bB (by simp [g])]
  refine ⟨c, rfl, ?_⟩
  rw [Av, h1]
  have : a.jq ≠ b.jq := fun k => g (i.2 k)
  simp [this]
theorem Lw {α : Type} {eq : α → α → Bool} (he : ∀ x y, eq x y = true ↔ x = y) : ∀ (l : List α) (p : α), (p :: l).Nodup → mN eq p l = l
 | [], p, _ => rfl
 | y :: l, p, h => by
  have h1 := dx.1 h
  rw [mN, bo (fun e => h1.1 (by rw [← (he _ _).1 e]; simp)), Lw he l y h1.2]
theorem SB {α : Type} {eq : α → α → Bool} (he : ∀ x y, eq x y = true ↔ x = y) : ∀ l : List α, l.Nodup → dd eq l = l
 | [], _ => rfl
 | x :: l, h => by rw [dd, Lw he l x h]
def AF (P : jJ → Prop) (s : List jJ) : Prop := s.Pairwise (fun a b => yJ a b = true) ∧ ∀ f, f ∈ s ↔ P f
theorem AF.unique {P : jJ → Prop} {s t : List jJ} (h : AF P s) (k : AF P t) : s = t :=
 vS.unique (l := s) GM ⟨h.1, fun x => ⟨fun b => ⟨b, rfl⟩, fun b => b.1⟩⟩ ⟨k.1, fun x => by rw [k.2, h.2]; exact ⟨fun b => ⟨b, rfl⟩, fun b => b.1⟩⟩
theorem Gn {l : List jJ} (g : l.Nodup) (m : l.length ≤ 1000000000000) : ∃ s, zt (fun (x : jJ × jJ) => pD x.1 x.2) l = some s ∧ AF (fun f => f ∈ l) s := by
 obtain ⟨s, h1, j, d⟩ := Fz (eq := Az) (lt := fun a b => yJ a b = true) (P := fun x => Dp x = true) (cf := fun (x : jJ × jJ) => pD x.1 x.2) (l := l) (fun x y => xe) GM (fun _ _ => rfl) (by omega) (fun x y _ _ => Oc x y)
 have i : s.Nodup := by
  have := (G2 h1).2
  rw [this]
  unfold sY
  exact (gP l _).nodup_iff.2 g
 rw [SB (fun x y => xe) s i] at d
 exact ⟨s, h1, d.1, fun f => by rw [d.2]; exact ⟨fun h => h.1, fun h => ⟨h, rfl⟩⟩⟩
theorem QE (T : oI) : (mm T).flatMap (fun p => p.2.map (fun q => (fun (a : jq) (b : ByteArray) => (⟨a, b⟩ : jJ)) p.1 q.1)) = FS T := by
 unfold mm FS tt
 rw [List.flatMap_map]
 congr 1
 funext p
 simp [fB]
theorem OX {C : List jr} (l : qu C) {T : oI} {q : List (jq × List jr)} {ws : List (ByteArray × List jr)} {n : Int} (h : MS C T q ws n) (cs : List jr) (u : List (jq × List jr)) (w : List (ByteArray × List jr)) (p : List jJ) (z : Int) :
  ∃ s, vI (mm T) cs u w p z = some s ∧ AF (oC C) s := by
 have m := l.sq
 have hlen := h.DV.len
 obtain ⟨s, r, j⟩ := Gn h.DV.nd (by omega)
 have i : AF (oC C) s := ⟨j.1, fun f => (j.2 f).trans (h.all f)⟩
 refine ⟨s, ?_, i⟩
 unfold vI ND
 rw [QE]
 rw [bB ⟨by omega, by unfold maxLen; omega⟩]
 simp only [aA, ol]
 refine F9 (fun o d => ?_)
 obtain ⟨t, g, b⟩ := Gn ((d.nodup_iff).2 h.DV.nd) (by rw [d.length_eq]; omega)
 rw [g]
 congr 1
 exact AF.unique ⟨b.1, fun f => (b.2 f).trans (d.mem_iff.trans (h.all f))⟩ i
theorem O8 (r : jq) (w : ByteArray) : ∀ l : List jJ, ∃ b, vi r w l = some b ∧ (b = true ↔ (⟨r, w⟩ : jJ) ∈ l)
 | [] => ⟨false, rfl, by simp⟩
 | x :: l => by
  rw [vi]
  simp only [Dw, aA]
  obtain ⟨b, e, i⟩ := O8 r w l
  by_cases h : (jR x.jq r && kP x.kz w) = true
  ·rw [bB h]
   have d : x = ⟨r, w⟩ := by
    rw [aX, jS, lW] at h
    cases x; simp at h; simp [h]
   exact ⟨true, rfl, by simp [d]⟩
  ·rw [bo h]
   refine ⟨b, e, ?_⟩
   rw [i, aQ]
   refine ⟨.inr, fun g => g.resolve_left (fun e => h ?_)⟩
   rw [← e]; simp [wm, uT]
theorem yM (l : List jJ) (r : jq) (w : ByteArray) : ∃ b, tT l r w = some b ∧ (b = true ↔ (⟨r, w⟩ : jJ) ∈ l) := O8 r w l
def wC (l : List jJ) (c : jr) (names : List ByteArray) (w : ByteArray) : Prop :=
 (c.Kind = 1 ∧ c.kz = w) ∨ (c.Kind = 2 ∧ (⟨c.B, w⟩ : jJ) ∈ l) ∨ (c.Kind = 4 ∧ (⟨c.B, w⟩ : jJ) ∈ l ∧ (⟨c.C, w⟩ : jJ) ∈ l) ∨
 (c.Kind ≠ 1 ∧ c.Kind ≠ 2 ∧ c.Kind ≠ 4 ∧ ∃ b ∈ names, (⟨c.B, b⟩ : jJ) ∈ l ∧ (⟨⟨b, c.kK⟩, w⟩ : jJ) ∈ l)
theorem Gb (l : List jJ) (c : jr) (w : ByteArray) : ∀ names : List ByteArray, ∃ b, tR l c w names = some b ∧ (b = true ↔ ∃ b ∈ names, (⟨c.B, b⟩ : jJ) ∈ l ∧ (⟨⟨b, c.kK⟩, w⟩ : jJ) ∈ l)
 | [] => ⟨false, rfl, by simp⟩
 | x :: names => by
  rw [tR]
  obtain ⟨i, m, h1⟩ := yM l c.B x
  obtain ⟨j, n, g⟩ := yM l ⟨x, c.kK⟩ w
  obtain ⟨b, e, p⟩ := Gb l c w names
  rw [m, n, e]
  simp only [aA, Dw]
  by_cases h : (i && j) = true
  ·rw [bB h]
   rw [aX, h1, g] at h
   exact ⟨true, rfl, by simp [h]⟩
  ·rw [bo h]
   rw [aX, h1, g] at h
   refine ⟨b, rfl, ?_⟩
   rw [p]
   constructor
   ·rintro ⟨y, d, q⟩; exact ⟨y, by simp [d], q⟩
   ·rintro ⟨y, d, q⟩
    rcases aQ.1 d with rfl | d
    ·exact absurd q h
    ·exact ⟨y, d, q⟩
theorem PV (l : List jJ) (c : jr) (names : List ByteArray) (w : ByteArray) : ∃ b, yw l c names w = some b ∧ (b = true ↔ wC l c names w) := by
 unfold yw wC
 simp only [ol]
 by_cases h1 : c.Kind = 1
 ·rw [bB (by simp [h1])]; exact ⟨_, rfl, by simp [h1, lW]⟩
 rw [bo (by simp [h1])]
 by_cases d : c.Kind = 2
 ·rw [bB (by simp [d])]
  obtain ⟨b, e, h⟩ := yM l c.B w
  exact ⟨b, e, by simp [d, h]⟩
 rw [bo (by simp [d])]
 by_cases g : c.Kind = 4
 ·rw [bB (by simp [g])]
  obtain ⟨p, m, i⟩ := yM l c.B w
  obtain ⟨q, n, j⟩ := yM l c.C w
  rw [m, n]
  simp only [aA, Dw]
  exact ⟨_, rfl, by simp [g, i, j]⟩
 rw [bo (by simp [g])]
 obtain ⟨b, e, h⟩ := Gb l c w names
 exact ⟨b, e, by rw [h]; simp [h1, d, g]⟩
theorem wC.wU {C : List jr} {l : List jJ} (d : ∀ f ∈ l, oC C f) {c : jr} (g : c ∈ C) (hk : c.Kind = 1 ∨ c.Kind = 2 ∨ c.Kind = 3 ∨ c.Kind = 4) {names : List ByteArray} {w : ByteArray} (h : wC l c names w) : oC C ⟨c.Head, w⟩ := by
 rcases h with ⟨k, rfl⟩ | ⟨k, h⟩ | ⟨k, h1, i⟩ | ⟨j, k2, m, b, _, h1, i⟩
 ·exact .mem c g k
 ·exact .inc c w g k (d _ h)
 ·exact .both c w g k (d _ h1) (d _ i)
 ·exact .Gh c b w g (by omega) (d _ h1) (d _ i)
theorem MC {c : jr} (h : lT c = true) : c.Kind = 1 ∨ c.Kind = 2 ∨ c.Kind = 3 ∨ c.Kind = 4 := by rcases om h with h | h | h | h <;> simp [h.1]
structure D7 (C : List jr) (out : List jJ) : Prop where
 nd : out.Nodup
 wU : ∀ f ∈ out, oC C f
theorem D7.len {C : List jr} {out : List jJ} (h : D7 C out) : out.length ≤ C.length * C.length := by
 rw [← Dj]; exact mo h.nd (fun f b => (h.wU f b).Fw)
theorem FY {C : List jr} (t : qu C) (u : rM C) {c : jr} (n : c ∈ C) (names : List ByteArray) : ∀ (l : List ByteArray) (out : List jJ) (i : Bool), D7 C out →
  ∃ g d, tM c names l out i = some (g, d) ∧ D7 C g ∧ (d = true → i = true ∨ out.length < g.length) ∧ (d = false → i = false ∧ g = out ∧ ∀ w ∈ l, wC out c names w → (⟨c.Head, w⟩ : jJ) ∈ out) ∧ out.length ≤ g.length
 | [], out, i, h => ⟨out, i, rfl, h, .inl, fun h => ⟨h, rfl, fun _ hw => by cases hw⟩, aW _⟩
 | w :: l, out, i, h => by
  rw [tM]
  obtain ⟨z, I, h1⟩ := yM out c.Head w
  obtain ⟨G, J, A⟩ := PV out c names w
  rw [I, J]
  simp only [aA, Dw]
  by_cases j : (!z && G) = true
  ·rw [bB j]
   rw [aX] at j
   have x : (⟨c.Head, w⟩ : jJ) ∉ out := fun M => by have := h1.2 M; rw [this] at j; exact absurd j.1 (by decide)
   have P := h.len
   have O := t.sq
   rw [lY (by simp; omega) (by simp; omega)]
   simp only [aA]
   have L : D7 C (out ++ [⟨c.Head, w⟩]) := ⟨bY.2 ⟨h.nd, by simp, fun a ha b j e => by simp at j; subst j; subst e; exact x ha⟩, fun f m => by
    rcases aU.1 m with m | m
    ·exact h.wU f m
    ·simp at m; subst m; exact (A.1 j.2).wU h.wU n (MC (u c n))⟩
   obtain ⟨g, d, e, p, a2, a3, a4⟩ := FY t u n names l _ true L
   simp at a4
   exact ⟨g, d, e, p, fun _ => .inr (by omega), fun m => (by cases (a3 m).1), by omega⟩
  ·rw [bo j]
   obtain ⟨g, d, e, p, a2, a3, a4⟩ := FY t u n names l out i h
   refine ⟨g, d, e, p, a2, fun m => ?_, a4⟩
   obtain ⟨q, r, s⟩ := a3 m
   refine ⟨q, r, fun v y E => ?_⟩
   rcases aQ.1 y with rfl | y
   ·refine eU fun x => j ?_
    rw [aX, A.2 E]
    cases z with
    | false => exact ⟨rfl, rfl⟩
    | true => exact absurd (h1.1 rfl) x
   ·exact s v y E
theorem Jc {C : List jr} (p : qu C) (q : rM C) (names : List ByteArray) : ∀ (l : List jr) (out : List jJ) (b : Bool), (∀ c ∈ l, c ∈ C) → D7 C out →
  ∃ g i, vv names l out b = some (g, i) ∧ D7 C g ∧ (i = true → b = true ∨ out.length < g.length) ∧ (i = false → b = false ∧ g = out ∧ ∀ c ∈ l, ∀ w ∈ names, wC out c names w → (⟨c.Head, w⟩ : jJ) ∈ out) ∧ out.length ≤ g.length
 | [], out, b, _, h => ⟨out, b, rfl, h, .inl, fun h => ⟨h, rfl, fun _ hw => by cases hw⟩, aW _⟩
 | c :: l, out, b, r, h => by
  rw [vv]
  obtain ⟨z, c1, x, s, a2, a3, a4⟩ := FY p q (r c (by simp)) names names out b h
  rw [x]
  simp only [aA]
  obtain ⟨A, c2, y, t, u, v, O⟩ := Jc p q names l z c1 (fun d j => r d (by simp [j])) s
  refine ⟨A, c2, y, t, fun m => ?_, fun m => ?_, by omega⟩
  ·rcases u m with h1 | h1
   ·rcases a2 h1 with n | n
    ·exact .inl n
    ·exact .inr (by omega)
   ·exact .inr (by omega)
  ·obtain ⟨E, G, I⟩ := v m
   obtain ⟨J, L, M⟩ := a3 E
   subst L
   refine ⟨J, G, fun d j => ?_⟩
   rcases aQ.1 j with rfl | j
   ·exact M
   ·exact I d j
def zF : jJ := ⟨⟨zS, zS⟩, zS⟩
theorem I8 (a b : jJ) : sZ a b = some (yJ a b) := by
 unfold sZ yJ
 simp only [Bm, aA, Dw, Rh]
def QN (a : List jJ) (b : Int) (p : Bool × jJ) : Prop := (p.1 = false ∧ b = -1) ∨ (p.1 = true ∧ 0 ≤ b ∧ lB a b = some p.2)
theorem Bn (out a : List jJ) (i : out.length < 4611686018427387904) : ∀ (rest A : List jJ) (b : Int) (p : Bool × jJ), a = A ++ rest → QN a b p →
  ∃ d, oD out a rest A.length b = some d ∧ QN a d (qO Dp yJ out.getLast? rest p.1 p.2)
 | [], A, b, p, ha, j => ⟨b, rfl, j⟩
 | x :: rest, A, b, p, ha, j => by
  rw [oD, qO]
  simp only [Dp, dK]
  have h1 : ((if ((out.length : Int) == 0) = true then some true else (lB out (wi0 .i64 ((out.length : Int) - 1))).bind fun y => (sZ y x).bind fun r => some r) : Option Bool) = some (out.getLast?.all fun y => yJ y x) := by
   rcases du out with h | ⟨B, z, h⟩
   ·subst h; rfl
   ·subst h
    rw [bo (by simp; omega)]
    rw [dU] at i ⊢
    rw [FZ B z (by simp at i; omega)]
    simp [I8]
  have q : ((if decide (b < 0) = true then some true else (lB a b).bind fun y => (sZ x y).bind fun r => some r) : Option Bool) = some (!p.1 || yJ x p.2) := by
   rcases j with ⟨l, m⟩ | ⟨l, m, n⟩
   ·rw [bB (by simp [m]), l]; rfl
   ·rw [bo (by simpa using m), n, l]
    simp [I8]
  rw [h1]
  simp only [aA]
  rw [q]
  simp only [aA, Dw]
  have s : lB a (A.length : Int) = some x := by rw [ha]; exact mL A x rest _ rfl
  by_cases g : ((out.getLast?.all fun y => yJ y x) && (!p.1 || yJ x p.2)) = true
  ·rw [bB g, bB g]
   have := Bn out a i rest (A ++ [x]) (A.length : Int) (true, x) (by rw [ha]; simp) (.inr ⟨rfl, by simp, s⟩)
   simpa using this
  ·rw [bo g, bo g]
   have := Bn out a i rest (A ++ [x]) b p (by rw [ha]; simp) j
   simpa using this
theorem Fl {out a : List jJ} (g : out.length < 4611686018427387904) (h : (qO Dp yJ out.getLast? a false zF).1 = false) : ∀ Fu : List jJ, oB a Fu out = some out
 | [] => rfl
 | x :: Fu => by
  rw [oB]
  obtain ⟨b, e, j⟩ := Bn out a g a [] (-1) (false, zF) rfl (.inl ⟨rfl, rfl⟩)
  rw [show oD out a a 0 (-1) = some b from e]
  simp only [aA]
  rcases j with ⟨_, i⟩ | ⟨d, _⟩
  ·rw [bo (by simp [i])]; exact Fl g h Fu
  ·rw [h] at d; cases d
theorem H2 (a : List jJ) : ∀ (Fu : List jJ) (out s : List jJ), zN 48 Dp yJ zF a (Fu.length + 1) out = some s → s.length < 4611686018427387904 → oB a Fu out = some s ∧ out.length ≤ s.length
 | [], out, s, h, j => by
  rw [zN] at h
  cases hp : (qO Dp yJ out.getLast? a false zF).1 with
  | false =>
   rw [hp] at h
   simp only [cN, aO] at h
   cases h
   exact ⟨rfl, aW _⟩
  | true =>
   rw [hp] at h
   simp only [cC, aB, aJ] at h
   obtain ⟨o, d, h⟩ := bind_some h
   replace h : zN 48 Dp yJ zF a 0 o = some s := h
   rw [zN] at h
   cases h
 | x :: Fu, out, s, h, j => by
  rw [zN] at h
  cases hp : (qO Dp yJ out.getLast? a false zF).1 with
  | false =>
   rw [hp] at h
   simp only [cN, aO] at h
   cases h
   exact ⟨Fl j hp _, aW _⟩
  | true =>
   rw [hp] at h
   simp only [cC, aB, aJ] at h
   obtain ⟨o, d, h⟩ := bind_some h
   have i := d
   unfold lX at d
   split at d
   case isFalse => cases d
   cases d
   obtain ⟨p, k2⟩ := H2 a Fu _ s h j
   simp at k2
   rw [oB]
   obtain ⟨b, e, n⟩ := Bn out a (by omega) a [] (-1) (false, zF) rfl (.inl ⟨rfl, rfl⟩)
   rw [show oD out a a 0 (-1) = some b from e]
   simp only [aA]
   rcases n with ⟨g, _⟩ | ⟨g, l, m⟩
   ·rw [hp] at g; cases g
   ·rw [bB (by simpa using l), m]
    simp only [aA]
    rw [i]
    exact ⟨p, by omega⟩
theorem NN (l : List jJ) (g : l.length ≤ 1000000000) : ∃ s, za l = some s ∧ AF (fun f => f ∈ l) s := by
 obtain ⟨s, h1, b⟩ := Bw GM (w := 48) (by omega) zF l g (l.length + 1) [] (by simp) (by simp) (fun x d => by cases d) (fun x _ _ => .inr rfl)
 have hlen : s.length ≤ l.length := mo (uk GM (fun _ _ => rfl) b.1) (fun x d => ((b.2 x).1 d).1)
 exact ⟨s, (H2 l l [] s h1 (by omega)).1, b.1, fun f => by rw [b.2]; exact ⟨fun h => h.1, fun h => ⟨h, rfl⟩⟩⟩
theorem J8 : ∀ (l : List jr) (acc : List ByteArray), acc.length + 4 * l.length ≤ 1000000000 → rz l acc = zg (acc ++ l.flatMap fun c => [c.kz, c.Head.js, c.B.js, c.C.js])
 | [], acc, _ => by rw [rz]; simp [ol]
 | c :: l, acc, h => by
  rw [rz]
  simp only [aI] at h
  rw [lY (by simp; omega) (by simp; omega)]
  simp only [aA]
  rw [J8 l _ (by simp; omega)]
  simp
def SM (C : List jr) : Prop := C.length ≤ 30000
theorem SM.small {C : List jr} (h : SM C) : qu C := by unfold SM at h; unfold qu; omega
theorem SM.sq {C : List jr} (h : SM C) : C.length * C.length ≤ 900000000 := Nat.mul_le_mul h h
theorem N7 {C : List jr} (d : SM C) (i : rM C) : ∃ names, xw C = some names ∧ ∀ c ∈ C, c.Kind = 1 → c.kz ∈ names := by
 have g : C.length ≤ 30000 := d
 unfold xw
 rw [J8 C [] (by simp; omega)]
 obtain ⟨s, e, j⟩ := PR ([] ++ C.flatMap fun c => [c.kz, c.Head.js, c.B.js, c.C.js]) (by
  have : ∀ l : List jr, (l.flatMap fun c => [c.kz, c.Head.js, c.B.js, c.C.js]).length = 4 * l.length := fun l => by
   induction l with
   | nil => rfl
   | cons x l ih => simp [ih]; omega
  rw [bE, this]; omega)
 refine ⟨s, e, fun c b hk => (j.2 _).2 ⟨?_, ?_⟩⟩
 ·rw [bE]; exact iW.2 ⟨c, b, by simp⟩
 ·rcases om (i c b) with h | h | h | h
  ·exact h.2.1
  ·exact absurd (hk.symm.trans h.1) (by decide)
  ·exact absurd (hk.symm.trans h.1) (by decide)
  ·exact absurd (hk.symm.trans h.1) (by decide)
theorem LI {C : List jr} (q : rM C) {names : List ByteArray} (n : ∀ c ∈ C, c.Kind = 1 → c.kz ∈ names) {out : List jJ} (h : ∀ c ∈ C, ∀ w ∈ names, wC out c names w → (⟨c.Head, w⟩ : jJ) ∈ out) {f : jJ} (m : oC C f) : f ∈ out := by
 have hw : ∀ f, oC C f → f.kz ∈ names := fun f m => by
  obtain ⟨c, d, hk, e⟩ := m.KF
  rw [← e]; exact n c d hk
 induction m with
 | mem c d hk => exact h c d _ (n c d hk) (.inl ⟨hk, rfl⟩)
 | inc c w d hk p ih => exact h c d w (hw _ p) (.inr (.inl ⟨hk, ih⟩))
 | Gh c b w d hk g l i j => exact h c d w (hw _ l) (.inr (.inr (.inr ⟨by omega, by omega, by omega, b, hw _ g, i, j⟩)))
 | both c w d hk g l i j => exact h c d w (hw _ g) (.inr (.inr (.inl ⟨hk, i, j⟩)))
theorem JL {C : List jr} (b : SM C) (d : rM C) {names : List ByteArray} (i : ∀ c ∈ C, c.Kind = 1 → c.kz ∈ names) : ∀ (m : Nat) (out : List jJ), D7 C out → C.length * C.length < m + out.length →
  ∃ s, tJ names C m out = some s ∧ AF (oC C) s
 | 0, out, h, hm => by have := h.len; omega
 | m + 1, out, h, hm => by
  rw [tJ]
  obtain ⟨o, c, e, j, a2, a3, a4⟩ := Jc b.small d names C out false (fun _ h => h) h
  rw [e]
  simp only [aA, ol]
  cases c with
  | false =>
   simp only [cN, aO]
   obtain ⟨_, l, n⟩ := a3 rfl
   subst l
   have r := h.len
   have q := b.sq
   obtain ⟨s, p, g⟩ := NN o (by omega)
   exact ⟨s, p, g.1, fun f => (g.2 f).trans ⟨h.wU f, LI d i n⟩⟩
  | true =>
   simp only [cC, aB, aJ]
   rcases a2 rfl with h1 | h1
   ·cases h1
   ·exact JL b d i m o j (by omega)
theorem Qi (l : List jr) (r : l.length ≤ 30000) : ∃ C s, uW l = some s ∧ AF (oC C) s ∧ ∀ c, c ∈ C ↔ c ∈ l ∧ lT c = true := by
 unfold uW
 obtain ⟨C, e, d⟩ := Lj l (by omega)
 have hlen := AR CL d
 have b : SM C := by unfold SM; omega
 have g : rM C := fun c m => ((d.2 c).1 m).2
 obtain ⟨names, h, p⟩ := N7 b g
 rw [e]
 simp only [aA]
 rw [h]
 simp only [aA]
 have q := b.sq
 obtain ⟨s, i, j⟩ := JL b g p jY [] ⟨by simp, fun f n => by cases n⟩ (by rw [wM]; simp; omega)
 exact ⟨C, s, i, j, d.2⟩
theorem BL (w : ByteArray) : ∀ (l : List jJ) (acc : List jq), acc.length + l.length ≤ 1000000000 → pQ w l acc = some (acc ++ (l.filter fun f => kP f.kz w).map (·.jq))
 | [], acc, _ => by rw [pQ]; simp
 | x :: l, acc, h => by
  rw [pQ]
  simp only [aI] at h
  by_cases b : kP x.kz w = true
  ·rw [bB b, lY (by simp; omega) (by simp; omega)]
   simp only [aA]
   rw [BL w l _ (by simp; omega)]
   simp [b]
  ·rw [bo b, BL w l acc (by omega)]
   simp [b]
theorem PH {P : jJ → Prop} {s t : List jJ} (h : AF P s) (d : ∀ f, P f → f ∈ t) : s.length ≤ t.length := mo (uk GM (fun _ _ => rfl) h.1) (fun f b => d f ((h.2 f).1 b))
theorem Qd {C : List jr} {s : List jJ} (h : AF (oC C) s) (b : SM C) : s.length ≤ 900000000 := by
 have := PH h (t := Fw C) (fun f d => d.Fw)
 rw [Dj] at this
 have := b.sq
 omega
theorem Ng {C : List jr} {T : oI} {g : List (jq × List jr)} {ws : List (ByteArray × List jr)} {n : Int} (h : MS C T g ws n) (cs : List jr) (u : List (jq × List jr)) (w : List (ByteArray × List jr)) (d : List jJ) (z : Int) (r : jq) (KF : ByteArray) :
  ∃ b, tf (mm T) cs u w d z r KF = some b ∧ (b = true ↔ oC C ⟨r, KF⟩) :=
 ⟨_, rfl, by rw [sF h.DV.keys, h.all]⟩
def qA : jq := ⟨⟨#[97]⟩, ⟨#[114]⟩⟩
def qB : jq := ⟨⟨#[98]⟩, ⟨#[115]⟩⟩
def qd : ByteArray := ⟨#[100]⟩
def j1 : jr := ⟨2, qA, zS, qB, ⟨zS, zS⟩, zS⟩
def j2 : jr := ⟨1, qB, qd, ⟨zS, zS⟩, ⟨zS, zS⟩, zS⟩
theorem wC.own {l : List jJ} {c : jr} {names : List ByteArray} {w : ByteArray} (h : wC l c names w) : wC l c (l.map (·.kz)) w := by
 rcases h with h | h | h | ⟨g, i, j, b, _, d, m⟩
 ·exact .inl h
 ·exact .inr (.inl h)
 ·exact .inr (.inr (.inl h))
 ·exact .inr (.inr (.inr ⟨g, i, j, b, bM.2 ⟨_, d, rfl⟩, d, m⟩))
theorem wC.subset {a b : List jJ} {c : jr} {names : List ByteArray} {w : ByteArray} (h : wC a c names w) (d : ∀ f ∈ a, f ∈ b) : wC b c names w := by
 rcases h with h | h | h | ⟨i, j, l, g, m, n, p⟩
 ·exact .inl h
 ·exact .inr (.inl ⟨h.1, d _ h.2⟩)
 ·exact .inr (.inr (.inl ⟨h.1, d _ h.2.1, d _ h.2.2⟩))
 ·exact .inr (.inr (.inr ⟨i, j, l, g, m, d _ n, d _ p⟩))
def up (w : ByteArray) (g : ByteArray → Nat) : ByteArray → Nat := fun x => if kP w x = true then g x + 1 else g x
theorem MX (F : List jJ) (w : ByteArray) (b : F.length ≤ 1000000000) : sc F w = some ((F.filter fun f => kP f.kz w).map (·.jq)) := by
 unfold sc
 rw [BL w F [] (by simp; omega)]
 simp
def tot {α : Type} (b : List (List α)) : Nat := (b.map List.length).sum
instance TG : DecidableEq jq := fun a b => decidable_of_iff (jR a b = true) jS
def Gv (F : List jJ) (w : ByteArray) : List jq := (F.filter fun f => kP f.kz w).map (·.jq)
structure QZ (l : List jr) (F : List jJ) : Prop where
 len : l.length ≤ 30000
 C : ∃ C : List jr, AF (oC C) F ∧ (∀ c, c ∈ C ↔ c ∈ l ∧ lT c = true) ∧ SM C
 ref : uW l = some F
theorem Q6 (l : List jr) (h : l.length ≤ 30000) : ∃ F, QZ l F := by
 obtain ⟨C, F, e, h1, i⟩ := Qi l h
 obtain ⟨C1, T, m, ws, n, j, m1, b, g⟩ := L4 l (by omega)
 have d : ∀ c, c ∈ C ↔ c ∈ C1 := fun c => by rw [i, b]
 exact ⟨F, h, ⟨C1, ⟨h1.1, fun f => (h1.2 f).trans (oC.congr d f)⟩, b, by unfold SM; omega⟩, e⟩
theorem QZ.Tv {l : List jr} {F : List jJ} (h : QZ l F) : F.length ≤ 900000000 := by
 obtain ⟨C, h1, d, b⟩ := h.C
 exact Qd h1 b
def B8 (l : List Int) : Prop := ∀ x ∈ l, 0 ≤ x ∧ x < 256
def Mx : List ByteArray → List Key → Int
 | _, [] => 0
 | seen, k :: l => if nt k.kz = false then 30 else if k.Key.length < 1 ∨ 32 < k.Key.length then 21 else if nZ kP seen k.kz = true then 41 else Mx (seen ++ [k.kz]) l
def Ow (l : List Key) : List (ByteArray × List Int) := l.map fun k => (k.kz, k.Key)
def Oq (l : List Key) (o : ByteArray) : Option (List Int) := kZ kP (Ow l) o
theorem QP {l : List Int} (h : l.length ≤ 1000000) : tN l = some l := by
 unfold tN
 rw [F4 (by simpa using h)]; rfl
theorem Ls : ∀ (l : List Key) (seen : List ByteArray), Mx seen l = 0 → ∀ k ∈ l, 1 ≤ k.Key.length ∧ k.Key.length ≤ 32
 | [], _, _, _, hk => by cases hk
 | x :: l, seen, h, k, hk => by
  unfold Mx at h
  split at h
  ·cases h
  split at h
  ·cases h
  split at h
  ·cases h
  rcases aQ.1 hk with rfl | hk
  ·omega
  ·exact Ls l _ h k hk
theorem FR : ∀ (l : List Key) (o : ByteArray) (b : List Int), Oq l o = some b → ∃ k ∈ l, k.Key = b
 | [], o, b, h => by cases h
 | x :: l, o, b, h => by
  unfold Oq at h
  rw [show Ow (x :: l) = (x.kz, x.Key) :: Ow l from rfl, Bo] at h
  split at h
  ·cases h; exact ⟨x, by simp, rfl⟩
  ·obtain ⟨k, hk, e⟩ := FR l o b h
   exact ⟨k, by simp [hk], e⟩
def K8 (l : List Key) : Prop := ∀ k ∈ l, B8 k.Key
structure Mk (ks : List Key) (c : jr) (k : List Int) : Prop where
 ok : Mx [] ks = 0
 rt : lT c = true
 lk : Oq ks c.Head.js = some k
theorem Mk.len {ks : List Key} {c : jr} {k : List Int} (h : Mk ks c k) : 1 ≤ k.length ∧ k.length ≤ 32 := by
 obtain ⟨q, b, rfl⟩ := FR _ _ _ h.lk
 exact Ls ks [] h.ok q b
theorem Mk.b8 {ks : List Key} {c : jr} {k : List Int} (h : Mk ks c k) (hk : K8 ks) : B8 k := by
 obtain ⟨q, b, rfl⟩ := FR _ _ _ h.lk
 exact hk q b
theorem Mk.unique {ks : List Key} {c : jr} {k k' : List Int} (h : Mk ks c k) (b : Mk ks c k') : k = k' := by
 have := h.lk; rw [b.lk] at this; cases this; rfl
mutual
def yv : Formula → List Int
 | ⟨o, k, r, ks⟩ => o :: (if o = 1 then rG r else (if o = 4 then [k] else []) ++ ((ks.length : Int) :: bytesFL ks))
def bytesFL : List Formula → List Int
 | [] => []
 | k :: ks => yv k ++ bytesFL ks
end
theorem HU (f : Formula) : yv f = f.Op :: (if f.Op = 1 then rG f.jq else (if f.Op = 4 then [f.K] else []) ++ ((f.Kids.length : Int) :: bytesFL f.Kids)) := by cases f; rw [yv]
theorem xc {f : Formula} (h : sJ f = true) : f.Kids.length ≤ 8 ∧ wellL f.Kids = true ∧ ((f.Op = 1 ∧ ma f.jq = true ∧ f.Kids = [] ∧ f.K = 0) ∨ ((f.Op = 2 ∨ f.Op = 3) ∧ f.jq = oL ∧ f.K = 0) ∨ (f.Op = 4 ∧ f.jq = oL ∧ 0 ≤ f.K ∧ f.K ≤ (f.Kids.length : Int) ∧ 1 ≤ f.Kids.length)) := by
 rw [Dk] at h
 simp only [aX, bK] at h
 obtain ⟨⟨h1, b⟩, d⟩ := h
 refine ⟨b, d, ?_⟩
 unfold BE at h1
 split at h1
 ·rename_i c
  simp only [aX, bK] at h1
  exact .inl ⟨c, h1.1.1, aV h1.1.2, h1.2⟩
 ·split at h1
  ·rename_i c
   simp only [aX, bK, jS] at h1
   exact .inr (.inl ⟨c, h1.1, h1.2⟩)
  ·simp only [aX, bK, jS] at h1
   exact .inr (.inr ⟨h1.1.1.1.1, h1.1.1.1.2, h1.1.1.2, h1.1.2, h1.2⟩)
theorem M1 : ∀ (n : Nat) (f : Formula), nH f ≤ n → sJ f = true → ∀ l : List Int, l.length + 40 * kw f ≤ 8000 → pn n l f = some (l ++ yv f) ∧ (yv f).length ≤ 40 * kw f := by
 intro n
 induction n with
 | zero => intro f h; rw [mH] at h; omega
 | succ n ih =>
  intro f u hw l s
  rw [mH] at u
  have v := nN f
  obtain ⟨h1, r, p⟩ := xc hw
  rw [pn]
  unfold vh
  have g : 0 ≤ f.Op ∧ f.Op < 128 := by rcases p with h | h | h <;> omega
  rw [xZ g.1 g.2 (by omega), aA, HU]
  have key : ∀ (ks : List Formula), (∀ k ∈ ks, k ∈ f.Kids) → wellL ks = true → ∀ l : List Int, l.length + 40 * nodesL ks ≤ 8000 → pW (pn n) ks l = some (l ++ bytesFL ks) ∧ (bytesFL ks).length ≤ 40 * nodesL ks := by
   intro ks
   induction ks with
   | nil => intro _ _ l _; rw [pW, bytesFL]; simp
   | cons k ks q =>
    intro hk b l s
    rw [wellL, aX] at b
    rw [nodesL] at s
    obtain ⟨j, x⟩ := ih k (by have := qn (hk k (by simp)); omega) b.1 l (by omega)
    obtain ⟨d, m⟩ := q (fun z w => hk z (by simp [w])) b.2 (l ++ yv k) (by simp; omega)
    rw [pW, j, aA, d, bytesFL, nodesL]
    exact ⟨by simp, by simp; omega⟩
  have hlen : 0 ≤ (f.Kids.length : Int) ∧ (f.Kids.length : Int) < 128 := by omega
  by_cases c1 : f.Op = 1
  ·have t : ma f.jq = true := by rcases p with h | h | h; exact h.2.1; omega; omega
   have := oq t
   simp only [c1, bn, aO]
   rw [J5 t (by simp; omega), aA]
   exact ⟨by simp, by simp; omega⟩
  ·have j : (f.Op == 1) = false := by simpa using c1
   simp only [j, aB, aJ, c1]
   by_cases i : f.Op = 4
   ·have hk : 0 ≤ f.K ∧ f.K < 128 := by rcases p with h | h | h <;> omega
    simp only [i, bn, aO]
    rw [xZ hk.1 hk.2 (by simp; omega)]
    simp only [aA]
    rw [xZ hlen.1 hlen.2 (by simp; omega)]
    simp only [aA]
    obtain ⟨d, m⟩ := key f.Kids (fun k hk => hk) r (l ++ [4] ++ [f.K] ++ [(f.Kids.length : Int)]) (by simp; omega)
    rw [d]
    exact ⟨by simp, by simp; omega⟩
   ·have m : (f.Op == 4) = false := by simpa using i
    simp only [m, aB, aJ, i, aA]
    rw [xZ hlen.1 hlen.2 (by simp; omega)]
    simp only [aA]
    obtain ⟨d, y⟩ := key f.Kids (fun k hk => hk) r (l ++ [f.Op] ++ [(f.Kids.length : Int)]) (by simp; omega)
    rw [d]
    exact ⟨by simp, by simp; omega⟩
def ya (f : Formula) : List Int := if nr f then yv f else []
abbrev Gd (f : Formula) : Prop := kw f ≤ 50000000
theorem zb {f : Formula} (h : nr f = true) : kw f ≤ 64 ∧ nH f ≤ 6 ∧ sJ f = true := by
 unfold nr at h
 simp only [aX, bK] at h
 exact ⟨h.1.1, h.1.2, h.2⟩
theorem QI (f : Formula) (g : Gd f) (l : List Int) (m : l.length ≤ 5000) : vO l f = some (nr f, l ++ ya f) ∧ (ya f).length ≤ 2560 := by
 unfold vO ya
 rw [Dy f g, aA]
 cases h : nr f
 ·simp
 ·obtain ⟨h1, j, d⟩ := zb h
  obtain ⟨b, i⟩ := M1 jY f (by rw [ml]; omega) d l (by omega)
  simp only [cC, aB, aJ, b, aA, aO]
  exact ⟨trivial, by omega⟩
theorem G6 (f : Formula) (d : Gd f) : sD f = some (ya f) := by
 unfold sD
 obtain ⟨b, g⟩ := QI f d [] (by simp)
 rw [b, aA, ol]
 unfold tg
 simp only [bE]
 rw [QP (by omega)]
 rfl
def Bc (f g : Formula) : Int := xU (ya f) (ya g)
theorem MF (f g : Formula) (b : Gd f) (d : Gd g) : sv f g = some (Bc f g) := by
 unfold sv vT
 rw [G6 f b, G6 g d]
 rfl
theorem AB (f g : Formula) : nq Bc f g = Op.bytesLess (tC (ya f)) (tC (ya g)) := by
 rw [bL]
 have h : nq Bc f g = true ↔ Bc f g < 0 := by unfold nq; exact decide_eq_true_iff
 exact h.trans (Cu _ _)
theorem HS : SWO (nq Bc) where
 Pc x := by rw [AB, uS]
 tr x y z h1 b := by rw [AB] at *; exact xL _ _ _ h1 b
 MY x y z h := by
  rw [AB] at h
  rw [AB, AB]
  rcases AM (tC (ya x)) (tC (ya y)) with h1 | h1 | h1
  ·exact .inl h1
  ·rw [h1] at h; exact .inr h
  ·exact .inr (xL _ _ _ h1 h)
def uA (l : List Formula) : List Formula := J2 (nq Bc) l
theorem IR (l : List Formula) (b : ∀ x ∈ l, Gd x) (d : l.length ≤ 300000) : uI l = some (uA l) := by
 unfold uI rD
 rw [lY (by simp; omega) (by simp; omega)]
 simp only [aA, bE, ol]
 exact LL HS (fun x y g h => MF x y g h) l b d
theorem MN {α : Type} (lt : α → α → Bool) (l : List α) (k : α) : (A8 lt l k).Perm (l ++ [k]) := by
 unfold A8
 refine List.perm_middle.trans ((List.Perm.cons _ ?_).trans (fH k l).symm)
 have := List.filter_append_perm (fun x => !lt k x) l
 simpa using this
theorem MO {α : Type} (lt : α → α → Bool) (l : List α) : (J2 lt l).Perm l := by
 suffices H : ∀ (l a : List α), (l.foldl (A8 lt) a).Perm (a ++ l) by have := H l []; rwa [bE] at this
 intro l
 induction l with
 | nil => intro a; simp
 | cons k l ih =>
  intro a
  rw [fU]
  refine (ih _).trans ?_
  have := (MN lt a k).append_right l
  simpa using this
theorem yc (l : List Formula) : (uA l).Perm l := MO _ l
noncomputable def pu (a b : Formula) : Bool := @decide (a = b) (Classical.propDecidable _)
theorem xX {a b : Formula} : pu a b = true ↔ a = b := by unfold pu; simp
theorem KW (a b : Formula) (h : Gd a) : nB jY a b = some (pu a b) := by
 have := vE a
 obtain ⟨x, e, d⟩ := PT jY a (by rw [ml]; omega) b
 rw [e]; congr 1
 rw [bL, d, xX]
def SS : Formula := ⟨0, 0, ⟨zS, zS⟩, []⟩
theorem Ot (f1 : Formula × Formula → Option Bool) (i : Int) : ∀ (n : Nat) (l : List Formula) (k j : Int), (∀ x ∈ l, ∀ y ∈ l, f1 (x, y) = some (pu x y)) → mG i f1 n l k j = Be pu i n l k j
 | 0, l, k, j, _ => by rw [mG, Be]
 | n + 1, l, k, j, h => by
  rw [mG, Be]
  split
  ·cases g : lB (l.drop (Int.toNat i)) j with
   | none => rfl
   | some x =>
    cases p : lB (l.drop (Int.toNat i)) (wi0 .i64 (j - 1)) with
    | none => rfl
    | some y =>
     have d : x ∈ l := List.mem_of_mem_drop (dm (ki g))
     have r : y ∈ l := List.mem_of_mem_drop (dm (ki p))
     simp only [aA, h x d y r]
     cases pu x y
     ·simp only [cN, aO]
      cases s : lB l k with
      | none => rfl
      | some z =>
       simp only [aA]
       refine Ot f1 i n _ _ _ (fun a ha b q => ?_)
       have m : ∀ a ∈ l.set (Int.toNat k) x, a ∈ l := fun a ha => by
        rcases List.mem_or_eq_of_mem_set ha with ha | rfl
        ·exact ha
        ·exact d
       exact h a (m a ha) b (m b q)
     ·simp only [cC, aB, aJ, aA]
      exact Ot f1 i n _ _ _ h
  ·rfl
theorem RD (f1 : Formula × Formula → Option Bool) (l : List Formula) (h : ∀ x ∈ l, ∀ y ∈ l, f1 (x, y) = some (pu x y)) : ∀ (n : Nat) (i : Int), mE l f1 n i = BM pu SS l n i
 | 0, i => by rw [mE, BM]
 | n + 1, i => by
  rw [mE, BM]
  split
  ·cases b : lB l i with
   | none => rfl
   | some x =>
    cases d : lB l (wi0 .i64 (i - 1)) with
    | none => rfl
    | some y =>
     have g : x ∈ l := dm (ki b)
     have j : y ∈ l := dm (ki d)
     simp only [aA, h x g y j]
     rw [Ot f1 i jY l i 1 h, RD f1 l h n]
     rfl
  ·rfl
theorem Mm (l : List Formula) (h : ∀ x ∈ l, Gd x) (d : l.length ≤ 300000) : oZ l (fun x => nB jY x.1 x.2) = some (dd pu l) := by
 rw [← Kd pu SS l (by omega)]
 unfold oZ Jt
 rw [RD _ l (fun x b y _ => KW x y (h x b))]
def ll (op : Int) (f : Formula) : Bool := decide (f.Op = op) && f.Kids.isEmpty
theorem Dl (f : Formula) (op : Int) : sS f op = some (ll op f) := by
 unfold sS ll
 rw [ol]
 by_cases h : f.Op = op
 ·simp only [h, bn, aO, cA, dK]
  congr 1
  cases hk : f.Kids with
  | nil => rfl
  | cons a l => simp; omega
 ·have e : (f.Op == op) = false := by simpa using h
  simp [e, h]
def nF (op : Int) : List Formula → List Formula
 | [] => []
 | k :: ks => (if k.Op = op then k.Kids else [k]) ++ nF op ks
theorem Dc (op : Int) : ∀ ks : List Formula, nodesL (nF op ks) ≤ nodesL ks
 | [] => aW _
 | k :: ks => by
  have ih := Dc op ks
  have e : ∀ a b : List Formula, nodesL (a ++ b) = nodesL a + nodesL b := by
   intro a b
   induction a with
   | nil => rw [bE, nodesL]; omega
   | cons x a d => rw [bP, nodesL, nodesL, d]; omega
  have := nN k
  rw [nF, e, nodesL]
  split
  ·omega
  ·rw [nodesL, nodesL]; omega
theorem HA (op : Int) : ∀ (ks acc : List Formula), acc.length + nodesL ks ≤ 100000000 → pV op ks acc = some (acc ++ nF op ks)
 | [], acc, _ => by rw [pV, nF, bA]
 | k :: ks, acc, h => by
  rw [nodesL] at h
  have h1 := nN k
  have b := pk k.Kids
  rw [pV, nF]
  by_cases c : k.Op = op
  ·simp only [c, bn, aO]
   rw [lY (by omega) (by omega), aA, HA op ks _ (by simp; omega), aN]
  ·have e : (k.Op == op) = false := by simpa using c
   simp only [e, aB, aJ, c]
   rw [lY (by simp; omega) (by simp; omega), aA, HA op ks _ (by simp; omega), aN]
noncomputable def oA (op : Int) (ks : List Formula) : Formula :=
 if (nF op ks).any (ll (5 - op)) then ⟨5 - op, 0, oL, []⟩ else
  match dd pu (uA (nF op ks)) with
  | [x] => x
  | r => ⟨op, 0, oL, r⟩
theorem J3 {α : Type} (eq : α → α → Bool) (l : List α) : (dd eq l).length ≤ l.length := by
 cases l with
 | nil => exact aW _
 | cons x l =>
  have : ∀ (l : List α) (x : α), (mN eq x l).length ≤ l.length := by
   intro l
   induction l with
   | nil => intro x; exact aW _
   | cons y l ih => intro x; rw [mN]; have := ih y; have := ih x; split <;> simp <;> omega
  have := this l x
  rw [dd, aI, aI]; omega
theorem Eu (s : kD) (op : Int) (i : op = 2 ∨ op = 3) (ks : List Formula) (h : nodesL ks ≤ 64) : nU s op ks = some (oA op ks, s) := by
 have h1 := Dc op ks
 have j := pk (nF op ks)
 have d : ∀ x ∈ nF op ks, Gd x := fun x b => by have := sN b; unfold Gd; omega
 have hw : wi0 .i64 (5 - op) = 5 - op := kA (by omega) (by omega)
 unfold nU zZ oA
 rw [HA op ks [] (by simp; omega), aA, bE, hw, Fk _ (ll (5 - op)) _ (fun x _ => by unfold qf; rw [Dl, ol]), aA]
 cases l : (nF op ks).any (ll (5 - op))
 ·simp only [aB, aJ]
  have hp := yc (nF op ks)
  have n := hp.length_eq
  rw [IR _ d (by omega), aA, Mm _ (fun x b => d x (hp.mem_iff.1 b)) (by omega), aA]
  have m := J3 pu (uA (nF op ks))
  have g : ¬ (((dd pu (uA (nF op ks))).length : Int) > 64) := by omega
  simp only [g, cI, aB, aJ, aA]
  generalize dd pu (uA (nF op ks)) = r
  match r with
  | [] => rfl
  | [x] => rfl
  | x :: y :: r =>
   have : (((x :: y :: r).length : Int) == 1) = false := by simp; omega
   simp only [this, aB, aJ]
   rfl
 ·rfl
noncomputable def sr (k : Int) (ks : List Formula) : Formula :=
 let n := k - ((ks.filter (ll 2)).length : Int)
 let l := ks.filter fun x => !ll 2 x && !ll 3 x
 if n ≤ 0 then ⟨2, 0, oL, []⟩ else if n > (l.length : Int) then ⟨3, 0, oL, []⟩ else if n = (l.length : Int) then oA 2 l else if n = 1 then oA 3 l else ⟨4, n, oL, uA l⟩
theorem yz (p : Formula → Bool) : ∀ ks : List Formula, nodesL (ks.filter p) ≤ nodesL ks
 | [] => aW _
 | k :: ks => by
  have := yz p ks
  rw [dQ]
  split
  ·rw [nodesL, nodesL]; omega
  ·rw [nodesL]; omega
theorem An (s : kD) : ∀ (ks acc : List Formula) (k : Int), -1000 ≤ k - (ks.length : Int) → k ≤ 1000 → acc.length + ks.length ≤ 1000 → nodesL (acc ++ ks.filter fun x => !ll 2 x && !ll 3 x) ≤ 64 →
  mD s ks k acc = some (let n := k - ((ks.filter (ll 2)).length : Int); let l := acc ++ ks.filter fun x => !ll 2 x && !ll 3 x; if n ≤ 0 then ⟨2, 0, oL, []⟩ else if n > (l.length : Int) then ⟨3, 0, oL, []⟩ else if n = (l.length : Int) then oA 2 l else if n = 1 then oA 3 l else ⟨4, n, oL, uA l⟩, s)
 | [], acc, k, h1, h, i, b => by
  simp only [gN, bA, bR] at b ⊢
  rw [mD]
  simp only [Int.ofNat_zero, Int.sub_zero, tU, yY, aA, Int.natCast_zero]
  have q := pk acc
  by_cases c1 : k ≤ 0
  ·simp only [c1, cA, aO]; rfl
  ·simp only [c1, cI, aB, aJ]
   by_cases c2 : k > (acc.length : Int)
   ·simp only [c2, cA, aO]; rfl
   ·simp only [c2, cI, aB, aJ]
    by_cases d : k = (acc.length : Int)
    ·simp only [← d, bn, aO]
     rw [Eu s 2 (.inl rfl) acc b, aA]
    ·have j : (k == (acc.length : Int)) = false := by simpa using d
     simp only [j, aB, aJ, d]
     by_cases g : k = 1
     ·simp only [g, bn, aO]
      rw [Eu s 3 (.inr rfl) acc b, aA]
     ·have m : (k == 1) = false := by simpa using g
      simp only [m, aB, aJ, g]
      rw [IR acc (fun x p => by have := sN p; unfold Gd; omega) (by omega)]
      rfl
 | x :: ks, acc, k, h1, h, i, b => by
  simp only [aI] at h1 i
  rw [mD, Dl, aA, Dl, aA]
  rw [dQ, dQ] at *
  cases c2 : ll 2 x
  ·cases d : ll 3 x
   ·simp only [c2, d, cN, iP, aB, aJ, aO] at b ⊢
    rw [lY (by simp; omega) (by simp; omega), aA, An s ks _ k (by omega) h (by simp; omega) (by rw [aN]; exact b)]
    simp only [aN, bP, bE]
   ·simp only [c2, d, cN, cC, Bool.and_false, aB, aJ] at b ⊢
    rw [An s ks _ k (by omega) h (by omega) b]
  ·simp only [c2, cC, fh, aB, aJ, aO] at b ⊢
   rw [kA (by omega) (by omega), An s ks _ (k - 1) (by omega) (by omega) (by omega) b]
   simp only [aI]
   have e : k - 1 - ((ks.filter (ll 2)).length : Int) = k - (((ks.filter (ll 2)).length + 1 : Nat) : Int) := by omega
   rw [e]
theorem Mr (s : kD) (k : Int) (hk : 0 ≤ k ∧ k ≤ 1000) (ks : List Formula) (h : nodesL ks ≤ 64) : qg s k ks = some (sr k ks, s) := by
 have := pk ks
 have := yz (fun x => !ll 2 x && !ll 3 x) ks
 unfold qg sr
 rw [An s ks [] k (by omega) (by omega) (by simp; omega) (by simpa using by omega)]
 rfl
mutual
noncomputable def oU : Formula → Formula
 | ⟨o, k, r, ks⟩ => if o = 1 then ⟨o, k, r, ks⟩ else if o = 4 then sr k (shapeL ks) else oA o (shapeL ks)
noncomputable def shapeL : List Formula → List Formula
 | [] => []
 | k :: ks => oU k :: shapeL ks
end
theorem yd (f : Formula) : oU f = if f.Op = 1 then f else if f.Op = 4 then sr f.K (shapeL f.Kids) else oA f.Op (shapeL f.Kids) := by cases f; rw [oU]
theorem Fp {a b : List Formula} (h : a.Perm b) : nodesL a = nodesL b := by
 induction h with
 | nil => rfl
 | cons x _ ih => rw [nodesL, nodesL, ih]
 | swap x y l => rw [nodesL, nodesL, nodesL, nodesL]; omega
 | trans _ _ h1 d => rw [h1, d]
theorem Dx (eq : Formula → Formula → Bool) : ∀ (l : List Formula) (x : Formula), nodesL (mN eq x l) ≤ nodesL l
 | [], x => aW _
 | y :: l, x => by
  have h1 := Dx eq l y
  have b := Dx eq l x
  rw [mN]
  split
  ·rw [nodesL]; omega
  ·rw [nodesL, nodesL]; omega
theorem Oe (eq : Formula → Formula → Bool) (l : List Formula) : nodesL (dd eq l) ≤ nodesL l := by
 cases l with
 | nil => exact aW _
 | cons x l => have := Dx eq l x; rw [dd, nodesL, nodesL]; omega
theorem A0 (op : Int) (ks : List Formula) : kw (oA op ks) ≤ 1 + nodesL ks := by
 unfold oA
 split
 ·rw [kw, nodesL]; omega
 ·have h1 := Oe pu (uA (nF op ks))
  have b := Fp (yc (nF op ks))
  have d := Dc op ks
  generalize dd pu (uA (nF op ks)) = r at *
  split
  ·rename_i x
   rw [nodesL, nodesL] at h1; omega
  ·rw [kw]; omega
theorem Iz (k : Int) (ks : List Formula) : kw (sr k ks) ≤ 1 + nodesL ks := by
 have h := yz (fun x => !ll 2 x && !ll 3 x) ks
 unfold sr
 simp only
 generalize ks.filter (fun x => !ll 2 x && !ll 3 x) = l at *
 generalize k - ((ks.filter (ll 2)).length : Int) = n
 split
 ·rw [kw, nodesL]; omega
 ·split
  ·rw [kw, nodesL]; omega
  ·split
   ·have := A0 2 l; omega
   ·split
    ·have := A0 3 l; omega
    ·have := Fp (yc l); rw [kw]; omega
theorem zx : ∀ f : Formula, kw (oU f) ≤ kw f := by
 refine IY fun f ih => ?_
 have h : ∀ ks : List Formula, (∀ k ∈ ks, kw (oU k) ≤ kw k) → nodesL (shapeL ks) ≤ nodesL ks := by
  intro ks
  induction ks with
  | nil => intro _; rw [shapeL]; exact aW _
  | cons k ks b =>
   intro h
   have := b (fun x d => h x (by simp [d]))
   have := h k (by simp)
   rw [shapeL, nodesL, nodesL]; omega
 have h := h f.Kids ih
 rw [yd, nN f]
 split
 ·rw [nN]; omega
 ·split
  ·have := Iz f.K (shapeL f.Kids); omega
  ·have := A0 f.Op (shapeL f.Kids); omega
theorem DZ (ks : List Formula) : nodesL (shapeL ks) ≤ nodesL ks := by
 induction ks with
 | nil => rw [shapeL]; exact aW _
 | cons k ks ih => have := zx k; rw [shapeL, nodesL, nodesL]; omega
theorem OE : ∀ (n : Nat) (f : Formula), nH f ≤ n → kw f ≤ 64 → sJ f = true → ∀ s : kD, nf n s f = some (oU f, s) := by
 intro n
 induction n with
 | zero => intro f h; rw [mH] at h; omega
 | succ n ih =>
  intro f t w hw s
  rw [mH] at t
  have u := nN f
  obtain ⟨h1, r, m⟩ := xc hw
  rw [nf]
  unfold ry
  rw [yd]
  by_cases c1 : f.Op = 1
  ·simp only [c1, bn, aO]
  ·have p : (f.Op == 1) = false := by simpa using c1
   simp only [p, aB, aJ, c1]
   have key : ∀ (ks acc : List Formula), (∀ k ∈ ks, k ∈ f.Kids) → wellL ks = true → nodesL (acc ++ shapeL ks) ≤ 64 → nodesL ks ≤ 64 → nE (nf n) f ks acc s = some (if f.Op = 4 then sr f.K (acc ++ shapeL ks) else oA f.Op (acc ++ shapeL ks), s) := by
    intro ks
    induction ks with
    | nil =>
     intro acc _ _ g _
     rw [shapeL, bA] at *
     rw [nE]
     by_cases i : f.Op = 4
     ·simp only [i, bn, aO]
      rw [Mr s f.K (by rcases m with h | h | h <;> omega) acc g, aA]
     ·have q : (f.Op == 4) = false := by simpa using i
      simp only [q, aB, aJ, i]
      rw [Eu s f.Op (by rcases m with h | h | h <;> omega) acc g, aA]
    | cons k ks l =>
     intro acc hk b g j
     rw [wellL, aX] at b
     rw [nodesL] at j
     rw [shapeL] at g
     have d := pk (acc ++ oU k :: shapeL ks)
     simp only [aF, aI] at d
     rw [nE, ih k (by have := qn (hk k (by simp)); omega) (by omega) b.1 s, aA, lY (by simp; omega) (by simp; omega), aA,
      l (acc ++ [oU k]) (fun z v => hk z (by simp [v])) b.2 (by rw [aN]; exact g) (by omega), shapeL]
     simp only [aN, bP, bE]
   have := DZ f.Kids
   have := key f.Kids [] (fun k hk => hk) r (by simpa using by omega) (by omega)
   simpa using this
def GR : Formula := ⟨0, 0, oL, []⟩
noncomputable def oM (f : Formula) : Formula × Int := if nr f then (if nr (oU f) then (oU f, 0) else (GR, 12)) else (GR, 11)
theorem Ho (f : Formula) (h : Gd f) : vG f = some (oM f) := by
 unfold vG oM
 rw [Dy f h, aA]
 cases d : nr f
 ·rfl
 ·obtain ⟨h1, g, b⟩ := zb d
  have i := zx f
  simp only [cC, aB, aJ, aO]
  rw [OE jY f (by rw [ml]; omega) h1 b, aA, Dy (oU f) (by omega)]
  have e : (((⟨0⟩ : kD).e) != 0) = false := rfl
  simp only [e, aB, aJ, aA]
  cases nr (oU f) <;> rfl
theorem wh {f : Formula} : kw (oM f).1 ≤ 64 := by
 unfold oM
 cases h : nr f
 ·exact by simp only [aB, aJ, GR]; rw [kw, nodesL]; omega
 ·obtain ⟨h1, b, d⟩ := zb h
  have := zx f
  simp only [aO]
  split
  ·show kw (oU f) ≤ 64; omega
  ·rw [GR, kw, nodesL]; omega
theorem Qj (f g : Formula) (b : kw f ≤ 10000000) (d : kw g ≤ 10000000) : xC f g = some (oM ⟨2, 0, oL, [f, g]⟩) := by
 unfold xC
 have := Ho ⟨2, 0, oL, [f, g]⟩ (by show kw _ ≤ _; rw [kw, nodesL, nodesL, nodesL]; omega)
 rw [show (⟨2, 0, (⟨zS, zS⟩ : jq), [f, g]⟩ : Formula) = ⟨2, 0, oL, [f, g]⟩ from rfl, this]
 rfl
mutual
def pG (v : jq → Bool) : Formula → Bool
 | ⟨o, k, r, ks⟩ => if o = 1 then v r else if o = 2 then decide (evN v ks = ks.length) else if o = 3 then decide (0 < evN v ks) else decide (k ≤ (evN v ks : Int))
def evN (v : jq → Bool) : List Formula → Nat
 | [] => 0
 | k :: ks => (if pG v k then 1 else 0) + evN v ks
end
theorem wk (v : jq → Bool) (f : Formula) : pG v f = if f.Op = 1 then v f.jq else if f.Op = 2 then decide (evN v f.Kids = f.Kids.length) else if f.Op = 3 then decide (0 < evN v f.Kids) else decide (f.K ≤ (evN v f.Kids : Int)) := by cases f; rw [pG]
theorem Gz (v : jq → Bool) : ∀ ks : List Formula, evN v ks ≤ ks.length
 | [] => by rw [evN]; exact aW _
 | k :: ks => by have := Gz v ks; rw [evN, aI]; split <;> omega
theorem Hg (v : jq → Bool) : ∀ ks : List Formula, evN v ks = ks.length ↔ ∀ k ∈ ks, pG v k = true
 | [] => by rw [evN]; simp
 | k :: ks => by
  have h1 := Gz v ks
  have b := Hg v ks
  rw [evN, aI]
  simp only [gI, ← b]
  cases pG v k <;> simp <;> omega
theorem Hj (v : jq → Bool) : ∀ ks : List Formula, 0 < evN v ks ↔ ∃ k ∈ ks, pG v k = true
 | [] => by rw [evN]; simp
 | k :: ks => by
  have b := Hj v ks
  rw [evN]
  simp only [aQ, exists_eq_or_imp, ← b]
  cases pG v k <;> simp <;> omega
theorem GL (v : jq → Bool) (ks : List Formula) : evN v ks = (ks.filter (pG v)).length := by
 induction ks with
 | nil => rw [evN]; rfl
 | cons k ks ih => rw [evN, ih, dQ]; cases pG v k <;> simp <;> omega
theorem OS (v : jq → Bool) {a b : List Formula} (h : a.Perm b) : evN v a = evN v b := by
 rw [GL, GL]; exact (h.filter _).length_eq
theorem Qg {v w : jq → Bool} (h : ∀ r, v r = true → w r = true) : ∀ f : Formula, pG v f = true → pG w f = true := by
 refine IY fun f ih => ?_
 have key : evN v f.Kids ≤ evN w f.Kids := by
  have : ∀ ks : List Formula, (∀ k ∈ ks, pG v k = true → pG w k = true) → evN v ks ≤ evN w ks := by
   intro ks
   induction ks with
   | nil => intro _; rw [evN, evN]; exact aW _
   | cons k ks b =>
    intro hk
    have h1 := b (fun x i => hk x (by simp [i]))
    have d := hk k (by simp)
    rw [evN, evN]
    cases g : pG v k
    ·simp; omega
    ·rw [d g]; simp; omega
  exact this _ ih
 have hle := Gz w f.Kids
 rw [wk, wk]
 split
 ·exact h _
 ·split
  ·simp only [bK]; omega
  ·split
   ·simp only [bK]; omega
   ·simp only [bK]; omega
theorem D2 (v : jq → Bool) (f1 : jq → Option Bool) (rec : Formula → (jq → Option Bool) → Option Bool) (f : Formula) : ∀ (ks : List Formula) (x : Nat), (∀ k ∈ ks, rec k f1 = some (pG v k)) → x + ks.length ≤ 100000000 →
  oS rec f1 f ks (x : Int) = some (if f.Op = 2 then decide (x + evN v ks = f.Kids.length) else if f.Op = 3 then decide (0 < x + evN v ks) else decide (f.K ≤ ((x + evN v ks : Nat) : Int)))
 | [], x, _, _ => by
  rw [oS, evN, gl]
  by_cases c2 : f.Op = 2
  ·simp only [c2, bn, aO]
   congr 1
   rw [bL, fZ, bK]; omega
  ·have d : (f.Op == 2) = false := by simpa using c2
   simp only [d, aB, aJ, c2]
   by_cases b : f.Op = 3
   ·simp only [b, bn, aO]
    congr 1
    rw [bL, bK, bK]; omega
   ·have i : (f.Op == 3) = false := by simpa using b
    simp only [i, aB, aJ, b]
 | k :: ks, x, h, j => by
  rw [aI] at j
  rw [oS, h k (by simp), aA, evN]
  cases pG v k
  ·simp only [aB, aJ]
   rw [D2 v f1 rec f ks x (fun z g => h z (by simp [g])) (by omega), dX]
  ·simp only [aO]
   have e : wi0 .i64 ((x : Int) + 1) = ((x + 1 : Nat) : Int) := by rw [kA (by omega) (by omega)]; omega
   rw [e, D2 v f1 rec f ks (x + 1) (fun z g => h z (by simp [g])) (by omega)]
   have d : x + 1 + evN v ks = x + (1 + evN v ks) := by omega
   rw [d]
theorem M6 (v : jq → Bool) (f1 : jq → Option Bool) (j : ∀ r, f1 r = some (v r)) : ∀ (n : Nat) (f : Formula), nH f ≤ n → Gd f → pp n f f1 = some (pG v f) := by
 intro n
 induction n with
 | zero => intro f h; rw [mH] at h; omega
 | succ n ih =>
  intro f d g
  rw [mH] at d
  have i := nN f
  have l := pk f.Kids
  unfold Gd at g
  rw [pp]
  unfold uZ
  rw [wk]
  by_cases c1 : f.Op = 1
  ·simp only [c1, bn, aO, j, aA]
  ·have b : (f.Op == 1) = false := by simpa using c1
   simp only [b, aB, aJ, c1]
   have := D2 v f1 (pp n) f f.Kids 0 (fun k hk => ih k (by have := qn hk; omega) (by have := sN hk; unfold Gd; omega)) (by omega)
   simpa using this
def tq (v : jq → Bool) (f : Formula) : Bool := nr f && pG v f
theorem LA (v : jq → Bool) (f1 : jq → Option Bool) (b : ∀ r, f1 r = some (v r)) (f : Formula) (h : Gd f) : uH f f1 = some (tq v f) := by
 unfold uH tq
 rw [Dy f h, aA]
 have := vE f
 cases nr f
 ·rfl
 ·unfold Gd at h
  simp only [aO, M6 v f1 b jY f (by rw [ml]; omega) h, aA, dK]
theorem Gs (op : Int) (f : Formula) : ll op f = true ↔ f.Op = op ∧ f.Kids = [] := by
 unfold ll; simp
theorem HY (v : jq → Bool) {f : Formula} (h : ll 2 f = true) : pG v f = true := by
 obtain ⟨h1, b⟩ := (Gs 2 f).1 h
 rw [wk, h1, b, evN]; rfl
theorem Ia (v : jq → Bool) {f : Formula} (h : ll 3 f = true) : pG v f = false := by
 obtain ⟨h1, b⟩ := (Gs 3 f).1 h
 rw [wk, h1, b, evN]; rfl
def tu (v : jq → Bool) (ks : List Formula) : Bool := ks.all (pG v)
def tY (v : jq → Bool) (ks : List Formula) : Bool := ks.any (pG v)
theorem KK (v : jq → Bool) (k : Int) (r : jq) (ks : List Formula) : pG v ⟨2, k, r, ks⟩ = tu v ks := by
 rw [wk, bL]; simp [tu, Hg]
theorem NG (v : jq → Bool) (k : Int) (r : jq) (ks : List Formula) : pG v ⟨3, k, r, ks⟩ = tY v ks := by
 rw [wk, bL]; simp [tY, Hj]
theorem I4 (v : jq → Bool) : ∀ ks : List Formula, tu v (nF 2 ks) = tu v ks
 | [] => rfl
 | k :: ks => by
  have ih := I4 v ks
  unfold tu at ih ⊢
  rw [nF, List.all_append, ih, gF]
  congr 1
  split
  ·rename_i h
   obtain ⟨o, n, r, l⟩ := k
   simp only at h; subst h
   exact (KK v n r l).symm
  ·simp
theorem IW (v : jq → Bool) : ∀ ks : List Formula, tY v (nF 3 ks) = tY v ks
 | [] => rfl
 | k :: ks => by
  have ih := IW v ks
  unfold tY at ih ⊢
  rw [nF, List.any_append, ih, fw]
  congr 1
  split
  ·rename_i h
   obtain ⟨o, n, r, l⟩ := k
   simp only at h; subst h
   exact (NG v n r l).symm
  ·simp
theorem M9 (l : List Formula) (x : Formula) : x ∈ dd pu (uA l) ↔ x ∈ l := by
 rw [Jr (fun _ _ => xX), (yc l).mem_iff]
theorem Nx {v : jq → Bool} {a b : List Formula} (h : ∀ x, x ∈ a ↔ x ∈ b) : tu v a = tu v b := by
 unfold tu; rw [bL, ev, ev]
 exact ⟨fun q x d => q x ((h x).2 d), fun q x d => q x ((h x).1 d)⟩
theorem Nj {v : jq → Bool} {a b : List Formula} (h : ∀ x, x ∈ a ↔ x ∈ b) : tY v a = tY v b := by
 unfold tY; rw [bL, ej, ej]
 exact ⟨fun ⟨x, d, q⟩ => ⟨x, (h x).1 d, q⟩, fun ⟨x, d, q⟩ => ⟨x, (h x).2 d, q⟩⟩
theorem GS (v : jq → Bool) (ks : List Formula) : pG v (oA 2 ks) = tu v ks := by
 rw [← I4]
 unfold oA
 split
 ·rename_i h
  rw [show (5 - 2 : Int) = 3 from rfl, NG]
  obtain ⟨x, b, he⟩ := ej.1 h
  have : tu v (nF 2 ks) = false := by
   unfold tu; rw [List.all_eq_false]; exact ⟨x, b, by rw [Ia v he]; simp⟩
  rw [this]; rfl
 ·rw [← Nx (M9 (nF 2 ks))]
  generalize dd pu (uA (nF 2 ks)) = r
  split
  ·simp [tu]
  ·exact KK v 0 oL r
theorem GG (v : jq → Bool) (ks : List Formula) : pG v (oA 3 ks) = tY v ks := by
 rw [← IW]
 unfold oA
 split
 ·rename_i h
  rw [show (5 - 3 : Int) = 2 from rfl, KK]
  obtain ⟨x, b, he⟩ := ej.1 h
  have : tY v (nF 3 ks) = true := by
   unfold tY; rw [ej]; exact ⟨x, b, HY v he⟩
  rw [this]; rfl
 ·rw [← Nj (M9 (nF 3 ks))]
  generalize dd pu (uA (nF 3 ks)) = r
  split
  ·simp [tY]
  ·exact NG v 0 oL r
theorem Ij (v : jq → Bool) : ∀ ks : List Formula, evN v ks = (ks.filter (ll 2)).length + evN v (ks.filter fun x => !ll 2 x && !ll 3 x)
 | [] => rfl
 | k :: ks => by
  have ih := Ij v ks
  rw [evN, dQ, dQ, ih]
  cases b : ll 2 k
  ·cases d : ll 3 k
   ·simp only [cN, iP, aB, aJ, aO]
    rw [evN]; omega
   ·rw [Ia v d]; simp
  ·rw [HY v b]; simp; omega
theorem Mz (v : jq → Bool) (k : Int) (ks : List Formula) : pG v (sr k ks) = decide (k ≤ (evN v ks : Int)) := by
 have d := Ij v ks
 unfold sr
 simp only
 generalize b : ks.filter (fun x => !ll 2 x && !ll 3 x) = l at *
 generalize (ks.filter (ll 2)).length = m at *
 have hle := Gz v l
 have ha := Hg v l
 have hp := Hj v l
 split
 ·rw [KK]; simp [tu]; omega
 ·split
  ·rw [NG]; simp [tY]; omega
  ·split
   ·rw [GS, bL, bK]
    unfold tu
    rw [ev, ← ha]; omega
   ·split
    ·rw [GG, bL, bK]
     unfold tY
     rw [ej, ← hp]; omega
    ·rw [wk]
     simp only [OS v (yc l)]
     have : ¬ ((4 : Int) = 1) := by omega
     have : ¬ ((4 : Int) = 2) := by omega
     have : ¬ ((4 : Int) = 3) := by omega
     simp only [*, aJ]
     rw [bL, bK, bK]; omega
theorem Oh (v : jq → Bool) : ∀ f : Formula, sJ f = true → pG v (oU f) = pG v f := by
 refine IY fun f ih hw => ?_
 obtain ⟨h1, g, i⟩ := xc hw
 rw [Ew, ev] at g
 have key : ∀ ks : List Formula, (∀ k ∈ ks, pG v (oU k) = pG v k) → evN v (shapeL ks) = evN v ks ∧ tu v (shapeL ks) = tu v ks ∧ tY v (shapeL ks) = tY v ks := by
  intro ks
  induction ks with
  | nil => intro _; rw [shapeL]; exact ⟨rfl, rfl, rfl⟩
  | cons k ks d =>
   intro hk
   obtain ⟨a, b, c⟩ := d (fun x j => hk x (by simp [j]))
   have h := hk k (by simp)
   unfold tu tY at *
   rw [shapeL, evN, evN, a, h, gF, gF, fw, fw, b, c, h]
   exact ⟨rfl, rfl, rfl⟩
 obtain ⟨a, b, c⟩ := key f.Kids (fun k hk => ih k hk (g k hk))
 obtain ⟨o, n, r, l⟩ := f
 simp only at *
 rw [yd]
 simp only
 rcases i with h | h | h
 ·simp only [h.1, aO]
 ·rcases h.1 with h | h
  ·subst h
   rw [KK]
   exact (GS v _).trans b
  ·subst h
   rw [NG]
   exact (GG v _).trans c
 ·obtain ⟨h, _⟩ := h
  subst h
  rw [wk v ⟨4, n, r, l⟩]
  exact (Mz v n _).trans (by rw [a]; rfl)
theorem I9 {f g : Formula} (h : oM f = (g, 0)) : nr f = true ∧ nr g = true ∧ ∀ v, pG v g = pG v f := by
 unfold oM at h
 cases b : nr f
 ·rw [b] at h; simp at h
 ·rw [b] at h
  simp only [aO] at h
  cases d : nr (oU f)
  ·rw [d] at h; simp at h
  ·rw [d] at h
   simp only [aO, Prod.mk.injEq] at h
   obtain ⟨rfl, _⟩ := h
   exact ⟨rfl, d, fun v => Oh v f (zb b).2.2⟩
def S8 (l : List Signed) : Prop := ∀ s ∈ l, B8 s.Tag
theorem Jy (b : List jr) (x : jr) : rE b x = some (nZ lu b x) := by
 obtain ⟨q, e, h⟩ := JK x b
 unfold pM at e
 rw [ol] at e
 rw [e, show q = nZ lu b x from by rw [bL, h, xS rH]]
structure L7 (l : List jr) (F : List jJ) : Prop where
 len : F.length ≤ 900000000
 ref : uW l = some F
 Tf : ∃ m, wB l = some m ∧ vI m.1 m.2.1 m.2.2.1 m.2.2.2.1 m.2.2.2.2.1 m.2.2.2.2.2 = some F ∧ ∀ r w, tf m.1 m.2.1 m.2.2.1 m.2.2.2.1 m.2.2.2.2.1 m.2.2.2.2.2 r w = some (nZ Az F ⟨r, w⟩)
 wU : ∀ C : List jr, (∀ c, c ∈ C ↔ c ∈ l ∧ lT c = true) → AF (oC C) F
theorem RZ (l : List jr) (z : l.length ≤ 30000) : ∃ F, L7 l F := by
 obtain ⟨F, h⟩ := Q6 l z
 refine ⟨F, h.Tv, h.ref, ?_, fun C v => ?_⟩
 ·obtain ⟨C, h1, g, u⟩ := h.C
  obtain ⟨C1, T, q, ws, n, s, m1, i, m⟩ := L4 l (by omega)
  have d : ∀ c, c ∈ C1 ↔ c ∈ C := fun c => by rw [g, i]
  have p : AF (oC C1) F := ⟨h1.1, fun f => (h1.2 f).trans (oC.congr d f).symm⟩
  have x : SM C1 := by unfold SM; omega
  refine ⟨_, s, ?_, fun r w => ?_⟩
  ·obtain ⟨F1, t, j⟩ := OX x.small m1 C1 q ws [] n
   rw [← j.unique p]; exact t
  ·obtain ⟨b, e, y⟩ := Ng m1 C1 q ws [] n r w
   rw [e, show b = nZ Az F ⟨r, w⟩ from by rw [bL, y, xS xe, p.2]]
 ·obtain ⟨C', h1, g, u⟩ := h.C
  have d : ∀ c, c ∈ C' ↔ c ∈ C := fun c => by rw [g, v]
  exact ⟨h1.1, fun f => (h1.2 f).trans (oC.congr d f)⟩
structure PB (p : kx) : Prop where
 IL : p.jF.length ≤ 2000000
 Jh : p.jP.length ≤ 2000000
 rel : ∀ x ∈ p.jF, kw x.jx ≤ 10000000
 Ou : ∀ a ∈ p.jP, kw a.jx ≤ 10000000
 TJ : ∀ a ∈ p.jP, a.lj.length ≤ 2000000
theorem JC (f : lD → Option Bool) : ∀ (l : List lD) (i : Nat), nh f l i = yl f l i
 | [], i => by rw [nh]; rfl
 | x :: l, i => by
  rw [nh, yl]
  cases f x with
  | none => rfl
  | some b =>
   simp only [aA]
   rw [JC f l (i + 1)]
theorem IV (f : nI → Option Bool) : ∀ (l : List nI) (i : Nat), nL f l i = yl f l i
 | [], i => by rw [nL]; rfl
 | x :: l, i => by
  rw [nL, yl]
  cases f x with
  | none => rfl
  | some b =>
   simp only [aA]
   rw [IV f l (i + 1)]
theorem OL {α : Type} (f : α → Option Bool) (p : α → Bool) (l : List α) (h : ∀ x ∈ l, f x = some (p x)) : ((yl f l 0).bind fun g => some (decide (g ≥ 0))) = some (l.any p) := by
 rcases AU f p l 0 h with ⟨e, h1⟩ | ⟨A, x, B, rfl, h1, b, e⟩
 ·rw [e, aA]
  have : l.any p = false := by rw [List.any_eq_false]; intro x d; rw [h1 x d]; simp
  rw [this]; rfl
 ·rw [e, aA]
  have : (A ++ x :: B).any p = true := by simp [b]
  rw [this]
  congr 1
def Ak (p : kx) (c : jr) : Option lD := p.jF.find? fun x => lu x.Signed.jr c
theorem QB (p : kx) (c : jr) : ∃ z, yk p c = some (match Ak p c with | some x => (x, true) | none => (z, false)) := by
 unfold yk sn Ak
 rw [JC]
 rcases AU (fun x => vN x c) (fun x => lu x.Signed.jr c) p.jF 0 (fun x _ => rfl) with ⟨e, h1⟩ | ⟨A, x, B, hp, h1, d, e⟩
 ·rw [e, aA, gb.2 (fun x b => by rw [h1 x b]; simp)]
  exact ⟨_, rfl⟩
 ·rw [e, aA, hp, iL, gb.2 (fun x b => by rw [h1 x b]; simp), fV, d]
  have : ¬ (((0 + A.length : Nat) : Int) < 0) := by omega
  simp only [this, cI, aB, aJ]
  rw [mL A x B _ (by omega)]
  exact ⟨x, rfl⟩
def RP : nI := ⟨⟨zS, zS⟩, ⟨0, 0, ⟨zS, zS⟩, []⟩, []⟩
theorem I2 (f : nI → Option Bool) : ∀ (n : Nat) (l : List nI) (i j : Int), nD f n l i j = Dg f RP n l i j
 | 0, _, _, _ => rfl
 | n + 1, l, i, j => by
  rw [nD, Dg]
  simp only [I2 f n]
  rfl
def zH (p : kx) (c : jr) : List nI := p.jP.filter fun a => nZ lu a.lj c
theorem OH (p : kx) (hp : PB p) (c : jr) : xE p c = some (zH p c) := by
 have := hp.Jh
 unfold xE tV zH
 rw [lY (by simp; omega) (by simp; omega)]
 simp only [aA, bE, ol]
 have : qR p.jP (fun x => rA x c) = Hy (fun x => rA x c) RP p.jP := by
  unfold qR Hy ul
  simp only [IV, I2]
 rw [this, Jn _ (fun a => !nZ lu a.lj c) RP _ (by omega) (fun a _ => by unfold rA pM; rw [ol, Jy]; rfl)]
 simp only [gy]
noncomputable def oH : Formula × Int → List Formula → Formula × Int
 | t, [] => t
 | t, g :: l => if t.2 = 0 then oH (oM ⟨2, 0, oL, [t.1, g]⟩) l else t
theorem KE : ∀ (l : List Formula) (e o k : Int) (r : jq) (ks : List Formula), (∀ g ∈ l, kw g ≤ 10000000) → kw ⟨o, k, r, ks⟩ ≤ 64 →
  sQ l e o k r ks = some ((oH (⟨o, k, r, ks⟩, e) l).2, (oH (⟨o, k, r, ks⟩, e) l).1.Op, (oH (⟨o, k, r, ks⟩, e) l).1.K, (oH (⟨o, k, r, ks⟩, e) l).1.jq, (oH (⟨o, k, r, ks⟩, e) l).1.Kids)
 | [], e, o, k, r, ks, _, _ => by rw [sQ, oH]
 | g :: l, e, o, k, r, ks, h, p => by
  rw [sQ, oH]
  by_cases c : e = 0
  ·have b : (e != 0) = false := by simp [c]
   simp only [b, aB, aJ, c, aO]
   rw [Qj _ g (by omega) (h g (by simp)), aA]
   have i := wh (f := ⟨2, 0, oL, [⟨o, k, r, ks⟩, g]⟩)
   generalize oM ⟨2, 0, oL, [⟨o, k, r, ks⟩, g]⟩ = q at *
   obtain ⟨⟨m, k', n, d⟩, e'⟩ := q
   exact KE l e' m k' n d (fun z j => h z (by simp [j])) i
  ·have b : (e != 0) = true := by simp [c]
   simp only [b, aO, c, aJ]
noncomputable def B5 (g : Formula) (l : List Formula) : Formula × Int := if (oH (oM g) l).2 = 0 then oH (oM g) l else (GR, (oH (oM g) l).2)
theorem Qa (g : Formula) (l : List Formula) (n : kw g ≤ 10000000) (i : ∀ x ∈ l, kw x ≤ 10000000) : vz (g :: l) = some (B5 g l) := by
 unfold vz B5
 have d : lB (g :: l) 0 = some g := mL [] g l 0 rfl
 have b : qW (decide (0 ≤ 1) && decide ((1 : Int) ≤ ((g :: l).length : Int))) = some () := by
  rw [aI]
  have : (1 : Int) ≤ ((l.length + 1 : Nat) : Int) := by omega
  simp [qW]; omega
 have j := wh (f := g)
 rw [d, aA, Ho g (by unfold Gd; omega), aA, b, aA]
 generalize oM g = q at *
 obtain ⟨⟨o, k, r, ks⟩, e⟩ := q
 have h : (g :: l).drop (Int.toNat 1) = l := rfl
 rw [h, KE l e o k r ks i j, aA]
 generalize oH (⟨o, k, r, ks⟩, e) l = t
 obtain ⟨⟨p, k', s, m⟩, e'⟩ := t
 by_cases c : e' = 0
 ·subst c; rfl
 ·have b : (e' != 0) = true := by simp [c]
  simp only [b, aO, c, aJ]; rfl
noncomputable def pF (p : kx) (c : jr) : Formula × Int := match Ak p c with | none => (GR, 42) | some x => B5 x.jx ((zH p c).map (·.jx))
theorem NE : ∀ (l : List nI) (acc : List Formula), acc.length + l.length ≤ 3000000 → tI l acc = vz (acc ++ l.map (·.jx))
 | [], acc, _ => by
  rw [tI, eF, bA]
  cases vz acc <;> rfl
 | a :: l, acc, h => by
  rw [aI] at h
  rw [tI, lY (by simp; omega) (by simp; omega), aA, NE l _ (by simp; omega)]
  simp
theorem OF {p : kx} {c : jr} {x : lD} (h : Ak p c = some x) : x ∈ p.jF ∧ x.Signed.jr = c := by
 unfold Ak at h
 have h1 := List.mem_of_find?_eq_some h
 have b := List.find?_some h
 exact ⟨h1, rH.1 b⟩
theorem RG (p : kx) (hp : PB p) (c : jr) : Ao p c = some (pF p c) := by
 unfold Ao pF
 obtain ⟨z, e⟩ := QB p c
 rw [e, aA]
 cases h : Ak p c with
 | none => rfl
 | some x =>
  simp only [cC, aB, aJ]
  have d := OF h
  have i : (zH p c).length ≤ p.jP.length := eT _ _
  have := hp.Jh
  rw [OH p hp c, aA, NE _ _ (by simp; omega)]
  exact Qa x.jx _ (hp.rel x d.1) (fun g b => by
   obtain ⟨a, ha, rfl⟩ := bM.1 b
   exact hp.Ou a (cZ.1 ha).1)
theorem HT (p : kx) (c : jr) : kw (pF p c).1 ≤ 64 := by
 have b : kw GR ≤ 64 := by rw [GR, kw, nodesL]; omega
 have d : ∀ (l : List Formula) (t : Formula × Int), kw t.1 ≤ 64 → kw (oH t l).1 ≤ 64 := by
  intro l
  induction l with
  | nil => intro t h; exact h
  | cons g l ih =>
   intro t h
   rw [oH]
   split
   ·exact ih _ wh
   ·exact h
 unfold pF
 split
 ·exact b
 ·unfold B5
  split
  ·exact d _ _ wh
  ·exact b
theorem JI : ∀ (l : List Formula) (f : Formula) (e : Int), (oH (f, e) l).2 = 0 → e = 0 ∧ (nr f = true → nr (oH (f, e) l).1 = true ∧ ∀ v, pG v (oH (f, e) l).1 = (pG v f && l.all (pG v)))
 | [], f, e, h => by rw [oH] at *; exact ⟨h, fun m => ⟨m, fun v => by simp⟩⟩
 | g :: l, f, e, h => by
  rw [oH] at *
  by_cases c : e = 0
  ·simp only [c, aO] at h ⊢
   cases b : oM ⟨2, 0, oL, [f, g]⟩ with
   | mk q e' =>
    rw [b] at h
    obtain ⟨h1, j⟩ := JI l q e' h
    subst h1
    obtain ⟨n, a2, a3⟩ := I9 b
    obtain ⟨d, i⟩ := j a2
    refine ⟨trivial, fun _ => ⟨d, fun v => ?_⟩⟩
    rw [i v, a3 v, KK]
    simp [tu, gx]
  ·simp only [c, aJ] at h
theorem M3 {p : kx} {c : jr} (h : (pF p c).2 = 0) : nr (pF p c).1 = true ∧ ∃ x, Ak p c = some x ∧ ∀ v, pG v (pF p c).1 = (pG v x.jx && (zH p c).all fun a => pG v a.jx) := by
 unfold pF at *
 cases g : Ak p c with
 | none => rw [g] at h; simp at h
 | some x =>
  rw [g] at h
  simp only at h ⊢
  unfold B5 at *
  by_cases b : (oH (oM x.jx) ((zH p c).map (·.jx))).2 = 0
  ·simp only [b, aO] at h ⊢
   cases d : oM x.jx with
   | mk q e =>
    rw [d] at b
    obtain ⟨h1, l⟩ := JI _ q e b
    subst h1
    obtain ⟨m, a2, a3⟩ := I9 d
    obtain ⟨i, j⟩ := l a2
    refine ⟨i, x, rfl, fun v => ?_⟩
    rw [j v, a3 v, List.all_map]
    rfl
  ·simp only [b, aJ] at h
def vF (F : List jJ) (peer : ByteArray) (r : jq) : Bool := nZ Az F ⟨r, peer⟩
theorem P3 {l : List jr} {F : List jJ} (h : L7 l F) (peer : ByteArray) : ∃ m, uE l peer = some m ∧ ∀ r, pq r m.1 m.2.1 m.2.2.1 m.2.2.2.1 m.2.2.2.2.1 m.2.2.2.2.2.1 m.2.2.2.2.2.2 = some (vF F peer r) := by
 obtain ⟨m, e, _, b⟩ := h.Tf
 unfold uE
 rw [e, aA]
 refine ⟨_, rfl, fun r => ?_⟩
 unfold pq
 rw [ol]
 exact b r peer
noncomputable def zw (p : kx) (v : jq → Bool) (x : lD) : Bool := decide ((pF p x.Signed.jr).2 = 0) && tq v (pF p x.Signed.jr).1
theorem Cd (p : kx) (hp : PB p) (v : jq → Bool) (m) (b : ∀ r, pq r m.1 m.2.1 m.2.2.1 m.2.2.2.1 m.2.2.2.2.1 m.2.2.2.2.2.1 m.2.2.2.2.2.2 = some (v r)) : ∀ (l : List lD) (acc : List jr), acc.length + l.length ≤ 1000000000 →
  qC p m l acc = yt (acc ++ (l.filter (zw p v)).map (·.Signed.jr))
 | [], acc, _ => by
  rw [qC, gN, eF, bA, ol]
 | x :: l, acc, h => by
  rw [aI] at h
  have d := HT p x.Signed.jr
  rw [qC, RG p hp, aA, LA v _ b _ (by unfold Gd; omega), dQ]
  unfold zw
  by_cases c : (pF p x.Signed.jr).2 = 0
  ·simp only [c, bn, aO, cA, dK, aA]
   cases g : tq v (pF p x.Signed.jr).1
   ·simp only [aB, aJ]
    exact Cd p hp v m b l acc (by omega)
   ·simp only [aO]
    rw [lY (by simp; omega) (by simp; omega), aA, Cd p hp v m b l _ (by simp; omega)]
    simp only [bJ, aN, bP, bE]
    rfl
  ·have e : ((pF p x.Signed.jr).2 == 0) = false := by simpa using c
   simp only [e, aB, aJ, c, cI, fh, aA]
   exact Cd p hp v m b l acc (by omega)
theorem PL (p : kx) (hp : PB p) {l : List jr} {F : List jJ} (h : L7 l F) (peer : ByteArray) : ∃ s, qv p l peer = some s ∧ JM ((p.jF.filter (zw p (vF F peer))).map (·.Signed.jr)) s := by
 obtain ⟨m, e, b⟩ := P3 h peer
 have := hp.IL
 unfold qv
 rw [e, aA, Cd p hp _ m b p.jF [] (by simp; omega), bE]
 have h1 : (p.jF.filter (zw p (vF F peer))).length ≤ p.jF.length := eT _ _
 exact QM _ (by simp; omega)
structure PG (p : kx) : Prop extends PB p where
 TI : ∀ x ∈ p.jF, xF x.Signed.jr ≤ 1000000000
 TU : ∀ a ∈ p.jP, ∀ c ∈ a.lj, xF c ≤ 1000000000
def gX : jq := ⟨⟨#[120]⟩, ⟨#[121]⟩⟩
def gc : jr := ⟨1, gX, ⟨#[109, 101]⟩, ⟨zS, zS⟩, ⟨zS, zS⟩, zS⟩
noncomputable def vD (l : List jr) (peer : ByteArray) (r : jq) : Bool := @decide (oC (l.filter lT) ⟨r, peer⟩) (Classical.propDecidable _)
theorem JN (l : List jr) (peer : ByteArray) (r : jq) : vD l peer r = true ↔ oC (l.filter lT) ⟨r, peer⟩ := by unfold vD; simp
theorem PC {l m : List jr} (h : ∀ c ∈ l, c ∈ m) (peer : ByteArray) (r : jq) (d : vD l peer r = true) : vD m peer r = true := by
 rw [JN] at *
 exact d.mono (fun c b => by rw [cZ] at *; exact ⟨h c b.1, b.2⟩)
theorem Sp (l : List jr) (i : l.length ≤ 1000000) (peer : ByteArray) : ∃ m, uE l peer = some m ∧ ∀ r, pq r m.1 m.2.1 m.2.2.1 m.2.2.2.1 m.2.2.2.2.1 m.2.2.2.2.2.1 m.2.2.2.2.2.2 = some (vD l peer r) := by
 obtain ⟨C, T, j, ws, n, e, m, g, _⟩ := L4 l i
 unfold uE
 rw [e, aA]
 refine ⟨_, rfl, fun r => ?_⟩
 unfold pq
 rw [ol]
 obtain ⟨b, d, h⟩ := Ng m C j ws [] n r peer
 rw [d]
 congr 1
 rw [bL, h, JN]
 exact oC.congr (fun c => by rw [g, cZ]) _
noncomputable def O9 (p : kx) (v : jq → Bool) (c : jr) : Bool := decide ((pF p c).2 = 0) && tq v (pF p c).1
theorem N9 {p : kx} {v w : jq → Bool} (h : ∀ r, v r = true → w r = true) (c : jr) (b : O9 p v c = true) : O9 p w c = true := by
 unfold O9 tq at *
 simp only [aX, bK] at *
 exact ⟨b.1, b.2.1, Qg h _ b.2.2⟩
def ph (s : List jr) : Prop := s.Pairwise (fun a b => AS a b = true) ∧ ∀ c ∈ s, lT c = true
theorem ph.nodup {s : List jr} (h : ph s) : s.Nodup := uk CL h.2 h.1
theorem ph.le {s t : List jr} (h : ph s) (b : ∀ c ∈ s, c ∈ t) : s.length ≤ t.length := mo h.nodup b
theorem ph.ext {s t : List jr} (h : ph s) (k : ph t) (d : ∀ c, c ∈ s ↔ c ∈ t) : s = t :=
 vS.unique CL (l := t) ⟨h.1, fun x => ⟨fun b => ⟨(d x).1 b, h.2 x b⟩, fun b => (d x).2 b.1⟩⟩ ⟨k.1, fun x => ⟨fun b => ⟨b, k.2 x b⟩, fun b => b.1⟩⟩
theorem ph.eq {s t : List jr} (h : ph s) (k : ph t) (d : ∀ c ∈ s, c ∈ t) (j : t.length ≤ s.length) : s = t := by
 refine h.ext k fun c => ⟨d c, fun g => ?_⟩
 refine eU fun i => ?_
 have := mo (l := c :: s) (m := t) (dx.2 ⟨i, h.nodup⟩) (fun x b => by
  rcases aQ.1 b with rfl | b
  ·exact g
  ·exact d x b)
 simp at this; omega
theorem ph.nil : ph [] := ⟨by simp, by simp⟩
theorem ph.filter {s : List jr} (h : ph s) (p : jr → Bool) : ph (s.filter p) := ⟨h.1.filter _, fun c b => h.2 c (cZ.1 b).1⟩
def MQ (p : kx) (c : jr) : Prop := ∃ x ∈ p.jF, x.Signed.jr = c
def sw (p : kx) (l : List jr) (peer : ByteArray) (c : jr) : Prop := MQ p c ∧ lT c = true ∧ O9 p (vD l peer) c = true
theorem vC {p : kx} {l m : List jr} (h : ∀ c ∈ l, c ∈ m) {peer : ByteArray} {c : jr} (b : sw p l peer c) : sw p m peer c := ⟨b.1, b.2.1, N9 (PC h peer) c b.2.2⟩
theorem xY {p : kx} {s : List jr} (h : ph s) (d : ∀ c ∈ s, MQ p c) : s.length ≤ p.jF.length := by
 have := h.le (t := p.jF.map (·.Signed.jr)) (fun c b => by obtain ⟨x, g, e⟩ := d c b; exact bM.2 ⟨x, g, e⟩)
 simpa using this
theorem EN (p : kx) (hp : PB p) (l : List jr) (r : l.length ≤ 1000000) (peer : ByteArray) : ∃ s, qv p l peer = some s ∧ ph s ∧ (∀ c, c ∈ s ↔ sw p l peer c) ∧ s.length ≤ p.jF.length := by
 obtain ⟨m, e, t⟩ := Sp l r peer
 have := hp.IL
 unfold qv
 rw [e, aA, Cd p hp _ m t p.jF [] (by simp; omega), bE]
 have h1 : (p.jF.filter (zw p (vD l peer))).length ≤ p.jF.length := eT _ _
 obtain ⟨s, n, b⟩ := QM ((p.jF.filter (zw p (vD l peer))).map (·.Signed.jr)) (by simp; omega)
 have j : ph s := ⟨b.1, fun c g => ((b.2 c).1 g).2⟩
 have hm : ∀ c, c ∈ s ↔ sw p l peer c := fun c => by
  rw [b.2, bM]
  constructor
  ·rintro ⟨⟨x, i, rfl⟩, h⟩
   obtain ⟨q, d⟩ := cZ.1 i
   exact ⟨⟨x, q, rfl⟩, h, d⟩
  ·rintro ⟨⟨x, i, rfl⟩, h, d⟩
   exact ⟨⟨x, cZ.2 ⟨i, d⟩, rfl⟩, h⟩
 exact ⟨s, n, j, hm, xY j (fun c g => ((hm c).1 g).1)⟩
structure KR (a b : kx) (x y : List jr) : Prop where
 sx : ph x
 sy : ph y
 fx : ∀ c, c ∈ x ↔ sw a y b.Name c
 fy : ∀ c, c ∈ y ↔ sw b x a.Name c
 least : ∀ X Y : List jr, (∀ c, sw a Y b.Name c → c ∈ X) → (∀ c, sw b X a.Name c → c ∈ Y) → (∀ c ∈ x, c ∈ X) ∧ (∀ c ∈ y, c ∈ Y)
theorem KR.ly {a b : kx} {x y : List jr} (h : KR a b x y) : y.length ≤ b.jF.length := xY h.sy (fun c d => ((h.fy c).1 d).1)
theorem H8 (a b : kx) (ha : PB a) (v : PB b) (J : a.jF.length ≤ 600000) (L : b.jF.length ≤ 600000) : ∀ (n : Nat) (x y : List jr) (i : Int), ph x → ph y → (∀ c ∈ x, sw a y b.Name c) → (∀ c ∈ y, sw b x a.Name c) →
  (∀ X Y : List jr, (∀ c, sw a Y b.Name c → c ∈ X) → (∀ c, sw b X a.Name c → c ∈ Y) → (∀ c ∈ x, c ∈ X) ∧ (∀ c ∈ y, c ∈ Y)) → a.jF.length + b.jF.length < n + x.length + y.length →
  ∃ w z j, oX a b n x y i = some (w, z, j) ∧ KR a b w z
 | 0, x, y, i, sx, sy, g, l, hm, I => by
  have h1 := xY sx (fun c d => (g c d).1)
  have G := xY sy (fun c d => (l c d).1)
  omega
 | n + 1, x, y, i, sx, sy, g, l, hm, I => by
  have h1 := xY sx (fun c d => (g c d).1)
  have G := xY sy (fun c d => (l c d).1)
  obtain ⟨p, A, sp, mp, Q⟩ := EN a ha y (by omega) b.Name
  obtain ⟨q, E, sq, m, R⟩ := EN b v x (by omega) a.Name
  have r : ∀ c ∈ x, c ∈ p := fun c d => (mp c).2 (g c d)
  have s : ∀ c ∈ y, c ∈ q := fun c d => (m c).2 (l c d)
  have O := sx.le r
  have P := sy.le s
  rw [oX, A, aA, E, aA]
  by_cases c1 : p.length = x.length ∧ q.length = y.length
  ·have e : ((if ((p.length : Int) == (x.length : Int)) then some ((q.length : Int) == (y.length : Int)) else some false) : Option Bool) = some true := by
    rw [c1.1, c1.2]; simp
   rw [e]
   simp only [aA, aO]
   obtain rfl := sx.eq sp r (by omega)
   obtain rfl := sy.eq sq s (by omega)
   exact ⟨_, _, _, rfl, sx, sy, mp, m, hm⟩
  ·have e : ((if ((p.length : Int) == (x.length : Int)) then some ((q.length : Int) == (y.length : Int)) else some false) : Option Bool) = some false := by
    by_cases c2 : p.length = x.length
    ·have M : ¬ q.length = y.length := fun h => c1 ⟨c2, h⟩
     simp [c2]; omega
    ·have : ¬ ((p.length : Int) = (x.length : Int)) := by omega
     simp [this]
   rw [e]
   simp only [aA, aB, aJ]
   refine H8 a b ha v J L n p q _ sp sq (fun c d => vC s ((mp c).1 d)) (fun c d => vC r ((m c).1 d)) (fun X Y t u => ?_) (by omega)
   obtain ⟨g1, g2⟩ := hm X Y t u
   exact ⟨fun c d => t c (vC g2 ((mp c).1 d)), fun c d => u c (vC g1 ((m c).1 d))⟩
theorem MT (a b : kx) (ha : PB a) (d : PB b) (g : a.jF.length ≤ 600000) (h : b.jF.length ≤ 600000) : ∃ x y j, ue a b = some (x, y, j) ∧ KR a b x y :=
 H8 a b ha d g h jY [] [] 0 ph.nil ph.nil (by simp) (by simp) (fun _ _ _ _ => by simp) (by rw [ml]; simp; omega)
def xN : Formula := ⟨2, 0, oL, []⟩
theorem PK : B5 xN [] = (xN, 0) := by
 have h1 : nr xN = true := by decide +kernel
 have g : oU xN = xN := by
  rw [yd]
  have b : ¬ (xN.Op = 1) := by decide
  have d : ¬ (xN.Op = 4) := by decide
  simp only [b, d, aJ]
  rw [show xN.Kids = [] from rfl, shapeL]
  unfold oA
  rw [nF]
  rfl
 have h : oM xN = (xN, 0) := by unfold oM; rw [h1, g, h1]; rfl
 unfold B5
 rw [h, oH]; rfl
structure PP (p : pU) : Prop where
 o : PG p.js
 c : PG p.Client
 lo : p.js.jF.length ≤ 600000
 lc : p.Client.jF.length ≤ 600000
 f : kw p.Formula ≤ 10000000
def Tj : ByteArray := ⟨#[111, 119, 110]⟩
def RH : ByteArray := ⟨#[99, 108, 105]⟩
theorem RK : ∀ (n : Nat) (f : Formula), nH f ≤ n → Gd f → qK n f = some (kw f : Int) := by
 intro n
 induction n with
 | zero => intro f h; rw [mH] at h; omega
 | succ n ih =>
  intro f g i
  rw [mH] at g
  have b := nN f
  unfold Gd at i
  rw [qK]
  unfold wi
  have key : ∀ (ks : List Formula) (x : Nat), (∀ k ∈ ks, k ∈ f.Kids) → x + nodesL ks ≤ 50000000 → rk (qK n) ks (x : Int) = some ((x + nodesL ks : Nat) : Int) := by
   intro ks
   induction ks with
   | nil => intro x _ _; rw [rk, nodesL]; rfl
   | cons k ks d =>
    intro x hk j
    rw [nodesL] at j
    rw [rk, ih k (by have := qn (hk k (by simp)); omega) (by have := sN (hk k (by simp)); unfold Gd; omega), aA]
    have w : wi0 .i64 ((x : Int) + (kw k : Int)) = ((x + kw k : Nat) : Int) := by rw [kA (by omega) (by omega)]; omega
    rw [w, d _ (fun z l => hk z (by simp [l])) (by omega), nodesL]
    congr 2; omega
  have := key f.Kids 1 (fun k hk => hk) (by omega)
  rw [b]
  exact this
theorem SN : ∀ (n : Nat) (f : Formula), nH f ≤ n → Gd f → rJ n f = some (nH f : Int) := by
 intro n
 induction n with
 | zero => intro f h; rw [mH] at h; omega
 | succ n ih =>
  intro f g i
  rw [mH] at g ⊢
  have j := nN f
  have hle := vE f
  rw [mH] at hle
  unfold Gd at i
  rw [rJ]
  unfold xa
  have key : ∀ (ks : List Formula) (x : Nat), (∀ k ∈ ks, k ∈ f.Kids) → max x (deepL ks) ≤ 50000000 → rT (rJ n) ks (x : Int) = some ((max x (deepL ks) + 1 : Nat) : Int) := by
   intro ks
   induction ks with
   | nil =>
    intro x _ b
    rw [deepL] at b
    rw [rT, deepL, kA (by omega) (by omega)]
    congr 1; omega
   | cons k ks d =>
    intro x hk b
    rw [deepL] at b
    rw [rT, ih k (by have := qn (hk k (by simp)); omega) (by have := sN (hk k (by simp)); unfold Gd; omega), aA]
    have w : (if (nH k : Int) > (x : Int) then (nH k : Int) else (x : Int)) = ((max x (nH k) : Nat) : Int) := by split <;> omega
    rw [w, d _ (fun z l => hk z (by simp [l])) (by omega), deepL]
    congr 2; omega
  have := key f.Kids 0 (fun k hk => hk) (by omega)
  rw [Nat.zero_max] at this
  exact this
theorem R4 : ∀ (n : Nat) (f : Formula), nH f ≤ n → rR n f = some (sJ f) := by
 intro n
 induction n with
 | zero => intro f h; rw [mH] at h; omega
 | succ n ih =>
  intro f h
  rw [mH] at h
  have key : ∀ ks : List Formula, (∀ k ∈ ks, k ∈ f.Kids) → sb (rR n) ks = some (wellL ks) := by
   intro ks
   induction ks with
   | nil => intro _; rw [sb, wellL]
   | cons k ks p =>
    intro hk
    rw [sb, ih k (by have := qn (hk k (by simp)); omega), aA, p (fun z r => hk z (by simp [r])), wellL]
    cases sJ k <;> rfl
  have hk := key f.Kids (fun k hk => hk)
  rw [rR]
  unfold wW
  rw [hk, Dk, AW]
  unfold BE
  simp only [aA]
  by_cases c1 : f.Op = 1
  ·simp only [c1, bn, aO]
   cases s : ma f.jq
   ·simp
   ·by_cases b : f.Kids.length = 0
    ·have e : f.Kids = [] := aV b
     by_cases m : f.K = 0 <;> simp [e, m, wellL]
    ·have : ((f.Kids.length : Int) == 0) = false := by rw [beq_eq_false_iff_ne]; omega
     simp [this, b]
  ·have q : (f.Op == 1) = false := by simpa using c1
   simp only [q, aB, aJ, c1]
   by_cases i : f.Op = 2 ∨ f.Op = 3
   ·have j : ¬ f.Op < 1 := by omega
    have a2 : ¬ f.Op > 4 := by omega
    have a3 : f.Op < 4 := by omega
    have a4 : (f.Op == 4) = false := by rw [beq_eq_false_iff_ne]; omega
    simp only [j, a2, a3, a4, i, cI, cA, aB, aJ, aO, aA]
    cases g : jR f.jq ⟨zS, zS⟩
    ·simp [oL, g]
    ·by_cases b : f.Kids.length ≤ 8
     ·have d : ¬ ((f.Kids.length : Int) > 8) := by omega
      by_cases m : f.K = 0 <;> simp [oL, g, b, d, m]
     ·have d : ((f.Kids.length : Int) > 8) := by omega
      simp [oL, g, b, d]
   ·by_cases l : f.Op = 4
    ·have j : ¬ f.Op < 1 := by omega
     have a2 : ¬ f.Op > 4 := by omega
     have a3 : ¬ f.Op < 4 := by omega
     simp only [j, a2, a3, i, cI, aB, aJ, aA]
     simp only [l, bn, aO, cA, dK]
     cases g : jR f.jq ⟨zS, zS⟩
     ·simp [oL, g]
     ·by_cases b : f.Kids.length ≤ 8
      ·have d : ¬ ((f.Kids.length : Int) > 8) := by omega
       by_cases d1 : 1 ≤ f.Kids.length
       ·have g1 : ¬ ((f.Kids.length : Int) < 1) := by omega
        by_cases d2 : 0 ≤ f.K
        ·have g2 : ¬ f.K < 0 := by omega
         by_cases d3 : f.K ≤ (f.Kids.length : Int)
         ·have g3 : ¬ f.K > (f.Kids.length : Int) := by omega
          simp [oL, g, b, d, d1, g1, d2, g2, d3, g3]
         ·have g3 : f.K > (f.Kids.length : Int) := by omega
          simp [oL, g, b, d, d1, g1, d2, g2, d3, g3]
        ·have g2 : f.K < 0 := by omega
         simp [oL, g, b, d, d1, g1, d2, g2]
       ·have g1 : ((f.Kids.length : Int) < 1) := by omega
        simp [oL, g, b, d, d1, g1]
      ·have d : ((f.Kids.length : Int) > 8) := by omega
       simp [oL, g, b, d]
    ·have a : f.Op < 1 ∨ f.Op > 4 := by omega
     rcases a with a | a
     ·simp [a, i, l]
     ·have : ¬ f.Op < 1 := by omega
      simp [a, this, i, l]
theorem G5 (f : Formula) (h : Gd f) : pJ f = some (nr f) := by
 have d := vE f
 have b := h
 unfold Gd at b
 unfold pJ nr
 rw [RK jY f (by rw [ml]; omega) h, SN jY f (by rw [ml]; omega) h, R4 jY f (by rw [ml]; omega)]
 simp only [aA]
 by_cases c1 : kw f ≤ 64
 ·have d1 : ((kw f : Int) ≤ 64) := by omega
  by_cases c2 : nH f ≤ 6
  ·have d2 : ((nH f : Int) ≤ 6) := by omega
   simp [c1, c2, d1, d2]
  ·have d2 : ¬ ((nH f : Int) ≤ 6) := by omega
   simp [c1, c2, d1, d2]
 ·have d1 : ¬ ((kw f : Int) ≤ 64) := by omega
  simp [c1, d1]
end Go.Proofs.YtjjjihkifgdhgaaGreatDoor
