/- a part of a proof of LintHolds -/
import Derived.Test.YtjjjihkifgdhgaaGreatDoorDL5Ml
import Derived.Test.YtjjjihkifgdhgaaGreatDoorRtVl
set_option linter.all false
namespace Go.Proofs.YtjjjihkifgdhgaaGreatDoor
open Go.IntKind renaming wrap → wi0
open Go.RowKit
section
variable {α : Type}
structure SWO (lt : α → α → Bool) : Prop where
 NZ : ∀ x, lt x x = false
 tr : ∀ x y z, lt x y = true → lt y z = true → lt x z = true
 Lx : ∀ x y z, lt x z = true → lt x y = true ∨ lt y z = true
variable {lt : α → α → Bool}
theorem SWO.asym (h : SWO lt) {x y : α} (a : lt x y = true) : lt y x = false := by
 cases e : lt y x
 ·rfl
 ·have := h.tr _ _ _ a e; rw [h.NZ] at this; cases this
def tl (lt : α → α → Bool) (p q : α × Nat) : Prop := lt p.1 q.1 = true ∨ (lt q.1 p.1 = false ∧ p.2 < q.2)
theorem BW (h : SWO lt) {p q r : α × Nat} (a : tl lt p q) (b : tl lt q r) : tl lt p r := by
 unfold tl at *
 rcases a with a | ⟨a, a2⟩ <;> rcases b with b | ⟨b, d⟩
 ·exact .inl (h.tr _ _ _ a b)
 ·rcases h.Lx _ r.1 _ a with c | c
  ·exact .inl c
  ·rw [b] at c; cases c
 ·rcases h.Lx _ p.1 _ b with c | c
  ·rw [a] at c; cases c
  ·exact .inl c
 ·refine .inr ⟨?_, by omega⟩
  cases e : lt r.1 p.1
  ·rfl
  ·rcases h.Lx _ q.1 _ e with c | c
   ·rw [b] at c; cases c
   ·rw [a] at c; cases c
theorem OA (h : SWO lt) {p q : α × Nat} (a : tl lt p q) (b : tl lt q p) : False := by
 have c := BW h a b
 rcases c with c | ⟨_, c⟩
 ·rw [h.NZ] at c; cases c
 ·omega
abbrev nB (lt : α → α → Bool) (t : List (α × Nat)) : Prop := t.Pairwise (tl lt)
theorem FC (h : SWO lt) : ∀ {t u : List (α × Nat)}, nB lt t → nB lt u → t.Perm u → t = u
 | [], u, _, _, hp => by rw [List.nil_perm] at hp; exact hp.symm
 | p :: t, [], _, _, hp => by simp at hp
 | p :: t, q :: u, h1, d, hp => by
  have e : p = q := by
   rcases aK.1 (hp.mem_iff.1 (.head _)) with e | i
   ·exact e
   ·rcases aK.1 (hp.mem_iff.2 (.head _)) with e | b
    ·exact e.symm
    ·exact (OA h ((cA.1 h1).1 _ b) ((cA.1 d).1 _ i)).elim
  subst e
  rw [FC h (cA.1 h1).2 (cA.1 d).2 (List.Perm.cons_inv hp)]
def Ab (lt : α → α → Bool) (l : List α) (k : α) : List α := l.filter (fun x => !lt k x) ++ k :: l.filter (fun x => lt k x)
def IT (lt : α → α → Bool) (l : List α) : List α := l.foldl (Ab lt) []
def Ez (lt : α → α → Bool) (t : List (α × Nat)) (k : α × Nat) : List (α × Nat) := t.filter (fun x => !lt k.1 x.1) ++ k :: t.filter (fun x => lt k.1 x.1)
theorem M8 (t : List (α × Nat)) (k : α × Nat) : (Ez lt t k).map (·.1) = Ab lt (t.map (·.1)) k.1 := by
 simp [Ez, Ab, List.filter_map, fk]
theorem MK (t : List (α × Nat)) (k : α × Nat) : (Ez lt t k).Perm (t ++ [k]) := by
 unfold Ez
 refine List.perm_middle.trans ?_
 refine (List.Perm.cons _ ?_).trans (fw k t).symm
 have := List.filter_append_perm (fun x : α × Nat => !lt k.1 x.1) t
 simpa using this
theorem NS (h : SWO lt) {t : List (α × Nat)} {k : α × Nat} (l : nB lt t) (hk : ∀ x ∈ t, x.2 < k.2) : nB lt (Ez lt t k) := by
 unfold Ez nB
 rw [cP, cA]
 refine ⟨l.filter _, ⟨fun x d => ?_, l.filter _⟩, fun x d y i => ?_⟩
 ·exact .inl (cR.1 d).2
 ·obtain ⟨h1, j⟩ := cR.1 d
  simp only [fq, ] at j
  have b : tl lt x k := .inr ⟨j, hk x h1⟩
  rcases aK.1 i with rfl | i
  ·exact b
  ·exact BW h b (.inl (cR.1 i).2)
theorem QZ (h : SWO lt) (l : List α) : ∃ t, nB lt t ∧ t.Perm l.zipIdx ∧ t.map (·.1) = IT lt l := by
 suffices H : ∀ (l r : List α) (t : List (α × Nat)), nB lt t → t.Perm r.zipIdx → ∃ u, nB lt u ∧ u.Perm (r ++ l).zipIdx ∧ u.map (·.1) = l.foldl (Ab lt) (t.map (·.1)) by
  obtain ⟨u, h1, d, j⟩ := H l [] [] .nil (by simp)
  exact ⟨u, h1, by simpa using d, j⟩
 intro l
 induction l with
 | nil => intro r t h1 d; exact ⟨t, h1, by simpa using d, rfl⟩
 | cons k l ih =>
  intro r t h1 d
  obtain ⟨u, i, a2, a3⟩ := ih (r ++ [k]) (Ez lt t (k, r.length)) (NS h h1 (fun x m => by
   obtain ⟨a, b⟩ := x
   have := List.snd_lt_of_mem_zipIdx (d.mem_iff.1 m)
   simpa using this)) ((MK t _).trans (by rw [List.zipIdx_append]; simpa using d.append_right _))
  refine ⟨u, i, by simpa using a2, ?_⟩
  rw [a3, M8]
  rfl
theorem O1 (h : SWO lt) {l : List α} {t : List (α × Nat)} (h1 : nB lt t) (d : t.Perm l.zipIdx) : t.map (·.1) = IT lt l := by
 obtain ⟨u, b, a2, a3⟩ := QZ h l
 rw [← a3, FC h h1 b (d.trans a2.symm)]
end
section
variable {α : Type} {lt : α → α → Bool}
abbrev Lk (lt : α → α → Bool) (A B : List (α × Nat)) : Prop := ∀ A' a b B', A = A' ++ [a] → B = b :: B' → tl lt a b
theorem yJ (h : SWO lt) {A B : List (α × Nat)} (n : nB lt A) (p : nB lt B) (l : Lk lt A B) : ∀ a ∈ A, ∀ b ∈ B, tl lt a b := by
 intro a ha b d
 rcases cX A with rfl | ⟨A', z, rfl⟩
 ·cases ha
 cases B with
 | nil => cases d
 | cons y B' =>
  have h1 : tl lt z y := l A' z y B' (by simp) rfl
  have i : a = z ∨ tl lt a z := by
   simp only [dH, aN, bK] at ha
   rcases ha with ha | ha
   ·refine .inr ?_
    simp only [dH, nB, cP] at n
    exact n.2.2 a ha z (by simp)
   ·exact .inl ha
  have j : b = y ∨ tl lt y b := by
   rcases aK.1 d with d | d
   ·exact .inl d
   ·exact .inr ((cA.1 p).1 b d)
  have m : tl lt a y := by
   rcases i with rfl | i
   ·exact h1
   ·exact BW h i h1
  rcases j with rfl | j
  ·exact m
  ·exact BW h m j
theorem HR (h : SWO lt) {A B : List (α × Nat)} (b : nB lt A) (d : nB lt B) (l : Lk lt A B) : nB lt (A ++ B) :=
 cP.2 ⟨b, d, yJ h b d l⟩
theorem nB.left {A B : List (α × Nat)} (h : nB lt (A ++ B)) : nB lt A := (cP.1 h).1
theorem nB.right {A B : List (α × Nat)} (h : nB lt (A ++ B)) : nB lt B := (cP.1 h).2.1
theorem nB.two {A B : List (α × Nat)} (h : nB lt (A ++ B)) : ∀ a ∈ A, ∀ b ∈ B, tl lt a b := (cP.1 h).2.2
theorem Gu (h : SWO lt) {A B : List (α × Nat)} {x : α × Nat} (i : nB lt (A ++ B)) (l : Lk lt A [x]) (m : Lk lt [x] B) : nB lt (A ++ x :: B) := by
 have h1 := yJ h i.left (fY _ x) l
 have j := yJ h (fY _ x) i.right m
 refine cP.2 ⟨i.left, cA.2 ⟨fun b d => j x (by simp) b d, i.right⟩, fun a ha b d => ?_⟩
 rcases aK.1 d with rfl | d
 ·exact h1 a ha _ (by simp)
 ·exact i.two a ha b d
theorem O7 (h : SWO lt) {A1 A2 B1 B2 C1 C2 : List (α × Nat)} (i : nB lt (A1 ++ A2)) (j : nB lt (B1 ++ B2)) (m : Lk lt A1 B2) (n : Lk lt B1 A2) (p : C1.Perm (A1 ++ B1)) (q : C2.Perm (A2 ++ B2)) (h1 : nB lt C1) (l : nB lt C2) : nB lt (C1 ++ C2) := by
 have x1 := yJ h i.left j.right m
 have x2 := yJ h j.left i.right n
 refine cP.2 ⟨h1, l, fun a ha b d => ?_⟩
 rcases aN.1 (p.mem_iff.1 ha) with ha | ha <;> rcases aN.1 (q.mem_iff.1 d) with d | d
 ·exact i.two a ha b d
 ·exact x1 a ha b d
 ·exact x2 a ha b d
 ·exact j.two a ha b d
end
section
variable {α : Type}
theorem DN (p q : List α) (x y : α) : (p ++ x :: q).set p.length y = p ++ y :: q := by simp
theorem IX (p q : List α) (x y : α) (n : Nat) (h : n = p.length) : (p ++ x :: q).set n y = p ++ y :: q := by subst h; simp
theorem Es (p m q : List α) (x y : α) : ((p ++ x :: (m ++ y :: q)).set p.length y).set (p.length + 1 + m.length) x = p ++ y :: (m ++ x :: q) := by
 rw [DN]
 have : p ++ y :: (m ++ y :: q) = (p ++ y :: m) ++ y :: q := by simp
 rw [this, show p.length + 1 + m.length = (p ++ y :: m).length by simp; omega, DN]
 simp
theorem Lt (p m q : List α) (x y : α) : ((p ++ x :: (m ++ y :: q)).set (p.length + 1 + m.length) x).set p.length y = p ++ y :: (m ++ x :: q) := by
 rw [List.set_comm _ _ (by omega), Es]
theorem uS {l : List α} {n : Nat} (h : n ≤ l.length) : ∃ a b, l = a ++ b ∧ a.length = n := ⟨l.take n, l.drop n, (gu n l).symm, by simp [h]⟩
end
theorem Cq {c x : Bool} : (if c = true then some x else some false : Option Bool) = some (c && x) := by cases c <;> rfl
theorem P4 {c x : Bool} : (if c = true then some true else some x : Option Bool) = some (c || x) := by cases c <;> rfl
theorem nK {α : Type} (x : Option α) : (x.bind fun y => some y) = x := by cases x <;> rfl
theorem jZ {x : Int} (b : -9223372036854775808 ≤ x) (h1 : x ≤ 9223372036854775807) : wi0 .i64 x = x := IntWalk.i64_in _ (by omega)
theorem my {α : Type} (A : List α) (x : α) (B : List α) (i : Int) (h : i = (A.length : Int)) : kF (A ++ x :: B) i = some x := by
 subst h; rw [DQ]; simp
theorem lN : jP = 18446744073709551615 + 1 := by rw [vA]
def Ca {α : Type} (f1 : α → Option Bool) (z : α) : Nat → List α → Int → Int → Option (List α)
 | 0, _, _, _ => none
 | n + 1, l, i, j => if decide (j < (l.length : Int)) then
   ((kF l j).bind fun x => (f1 x).bind fun r => if (!r) then (kF l i).bind fun _ => some (l.set (Int.toNat i) x, wi0 .i64 (i + 1)) else some (l, i) : Option (List α × Int)).bind fun (d, b) => Ca f1 z n d b (wi0 .i64 (j + 1))
  else (qi (decide (0 ≤ i) && decide (i ≤ (l.length : Int)))).bind fun _ => (qi (decide (0 ≤ i) && decide (i ≤ ((nO l (Int.toNat i) z).length : Int)))).bind fun _ => some ((nO l (Int.toNat i) z).take (Int.toNat i))
theorem CK {a b : Int} (d : 0 ≤ a) (h1 : a ≤ b) : qi (decide (0 ≤ a) && decide (a ≤ b)) = some () := by simp [qi, d, h1]
theorem Ix {α : Type} (f1 : α → Option Bool) (p : α → Bool) (z : α) : ∀ (rest out mid : List α) (n : Nat), rest.length < n → (out ++ mid ++ rest).length < 4611686018427387904 → mid ≠ [] → (∀ x ∈ rest, f1 x = some (p x)) →
  Ca f1 z n (out ++ mid ++ rest) (out.length : Int) ((out.length + mid.length : Nat) : Int) = some (out ++ rest.filter fun x => !p x)
 | [], out, mid, 0, h, _, _, _ => by simp at h
 | [], out, mid, n + 1, _, d, hm, _ => by
  rw [Ca, aY (by simp)]
  have h1 : out.length ≤ (out ++ mid ++ []).length := by simp
  rw [CK (by omega) (by omega)]
  simp only [aA]
  rw [CK (by omega) (by rw [uj _ _ _ (by simpa using h1)]; omega)]
  simp only [aA, dp]
  rw [En _ _ _ h1]
  simp
 | x :: rest, out, mid, 0, h, _, _, _ => by simp at h
 | x :: rest, out, mid, n + 1, h, d, hm, i => by
  have hlen : (out ++ mid ++ x :: rest).length = out.length + mid.length + rest.length + 1 := by simp; omega
  rw [hlen] at d
  rw [Ca, aZ (by rw [hlen]; simp; omega)]
  rw [my (out ++ mid) x rest _ (by simp)]
  simp only [aA, i x (by simp)]
  rw [jZ (x := ((out.length + mid.length : Nat) : Int) + 1) (by omega) (by omega)]
  have ih := Ix f1 p z rest
  cases hp : p x with
  | true =>
   simp only [bU, aB, aG, aA]
   have := ih out (mid ++ [x]) n (by simp at h; omega) (by simp; omega) (by simp) (fun y j => i y (by simp [j]))
   simp only [aI, bO, bD, aC, aH, bP] at this ⊢
   rw [show ((out.length + mid.length : Nat) : Int) + 1 = ((out.length + (mid.length + (0 + 1)) : Nat) : Int) by omega, this]
   simp [hp]
  | false =>
   obtain ⟨m, b, rfl⟩ : ∃ m b, mid = m :: b := by cases mid with
    | nil => exact absurd rfl hm
    | cons m b => exact ⟨m, b, rfl⟩
   simp only [cJ, aJ]
   rw [aI out (m :: b) (x :: rest), bO]
   rw [my out m (b ++ x :: rest) _ rfl]
   simp only [aA]
   rw [jZ (x := (out.length : Int) + 1) (by omega) (by simp at d; omega)]
   have := ih (out ++ [x]) (b ++ [x]) n (by simp at h; omega) (by simp at d ⊢; omega) (by simp) (fun y j => i y (by simp [j]))
   simp only [aI, bO, bD, aC, aH, bP] at this
   have l : (out ++ m :: (b ++ x :: rest)).set (Int.toNat (out.length : Int)) x = out ++ x :: (b ++ x :: rest) := by
    rw [dp, List.set_append_right _ _ (aR _)]; simp
   rw [l]
   simp only [aH] at d ⊢
   rw [show (out.length : Int) + 1 = ((out.length + (0 + 1) : Nat) : Int) by omega, show ((out.length + (b.length + 1) : Nat) : Int) + 1 = ((out.length + (0 + 1) + (b.length + (0 + 1)) : Nat) : Int) by omega, this]
   simp [hp]
def xn {α : Type} (f1 : α → Option Bool) : List α → Nat → Option Int
 | [], _ => some (-1)
 | x :: xs, i => (f1 x).bind fun r => if r then some (i : Int) else xn f1 xs (i + 1)
theorem zT {α : Type} (f1 : α → Option Bool) (p : α → Bool) : ∀ (l : List α) (i : Nat), (∀ x ∈ l, f1 x = some (p x)) →
  (xn f1 l i = some (-1) ∧ ∀ x ∈ l, p x = false) ∨ ∃ A x B, l = A ++ x :: B ∧ (∀ y ∈ A, p y = false) ∧ p x = true ∧ xn f1 l i = some ((i + A.length : Nat) : Int)
 | [], i, _ => .inl ⟨rfl, by simp⟩
 | x :: l, i, h => by
  rw [xn, h x (by simp)]
  simp only [aA]
  cases hp : p x with
  | true => exact .inr ⟨[], x, l, rfl, by simp, hp, by simp⟩
  | false =>
   simp only [aB, aG]
   rcases zT f1 p l (i + 1) (fun y b => h y (by simp [b])) with ⟨h1, d⟩ | ⟨A, y, B, rfl, h1, d, m⟩
   ·exact .inl ⟨h1, by intro y b; rcases aK.1 b with rfl | b; exact hp; exact d y b⟩
   ·refine .inr ⟨x :: A, y, B, rfl, ?_, d, ?_⟩
    ·intro z j; rcases aK.1 j with rfl | j
     ·exact hp
     ·exact h1 z j
    ·rw [m]; simp; omega
def Gw {α : Type} (f1 : α → Option Bool) (z : α) (l : List α) : Option (List α) :=
 (xn f1 l 0).bind fun b => if (b == (-1)) then some l else Ca f1 z jP l b (wi0 .i64 (b + 1))
theorem Ih {α : Type} (f1 : α → Option Bool) (p : α → Bool) (z : α) (l : List α) (i : l.length < 4611686018427387904) (h : ∀ x ∈ l, f1 x = some (p x)) : Gw f1 z l = some (l.filter fun x => !p x) := by
 unfold Gw
 rcases zT f1 p l 0 h with ⟨h1, d⟩ | ⟨A, x, B, rfl, h1, d, j⟩
 ·rw [h1]
  simp only [aA, aV, aJ]
  rw [fH.2 (fun y b => by simp [d y b])]
 ·rw [j]
  simp only [aA, dI]
  rw [aY (by simp), jZ (by omega) (by simp at i; omega)]
  have := Ix f1 p z B A [x] jP (by rw [vA]; simp at i; omega) (by simpa using i) (by simp) (fun y b => h y (by simp [b]))
  simp only [aI, bO, bD, aH, bP] at this
  rw [show (A.length : Int) + 1 = ((A.length + (0 + 1) : Nat) : Int) by omega, this]
  have m : A.filter (fun x => !p x) = A := fH.2 (fun y b => by simp [h1 y b])
  rw [ic, m]
  simp [d]
def mx {α : Type} (eq : α → α → Bool) : α → List α → List α
 | _, [] => []
 | p, y :: ys => if eq y p then mx eq y ys else y :: mx eq y ys
def dd {α : Type} (eq : α → α → Bool) : List α → List α
 | [] => []
 | x :: xs => x :: mx eq x xs
def Ai {α : Type} (eq : α → α → Bool) (i : Int) : Nat → List α → Int → Int → Option (List α × Int)
 | 0, _, _, _ => none
 | n + 1, l, k, j => if decide (j < ((l.length - Int.toNat i : Nat) : Int)) then
   ((kF (l.drop (Int.toNat i)) j).bind fun x => (kF (l.drop (Int.toNat i)) (wi0 .i64 (j - 1))).bind fun y => if !(eq x y) then (kF (l.drop (Int.toNat i)) j).bind fun z => (kF l k).bind fun _ => some (l.set (Int.toNat k) z, wi0 .i64 (k + 1)) else some (l, k) : Option (List α × Int)).bind fun (b, k') => Ai eq i n b k' (wi0 .i64 (j + 1))
  else some (l, k)
def AR {α : Type} (eq : α → α → Bool) (z : α) (l : List α) : Nat → Int → Option (List α)
 | 0, _ => none
 | n + 1, i => if decide (i < (l.length : Int)) then (kF l i).bind fun x => (kF l (wi0 .i64 (i - 1))).bind fun y => if eq x y then
    (qi (decide (0 ≤ i) && decide (i ≤ (l.length : Int)))).bind fun _ => (Ai eq i jP l i 1).bind fun (b, k) => (qi (decide (0 ≤ k) && decide (k ≤ (b.length : Int)))).bind fun _ => (qi (decide (0 ≤ k) && decide (k ≤ ((nO b (Int.toNat k) z).length : Int)))).bind fun _ => some ((nO b (Int.toNat k) z).take (Int.toNat k))
   else AR eq z l n (wi0 .i64 (i + 1))
  else some l
def Im {α : Type} (eq : α → α → Bool) (z : α) (l : List α) : Option (List α) := if decide ((l.length : Int) < 2) then some l else AR eq z l jP 1
theorem HK {α : Type} (l : List α) (i : Nat) (j : Int) (b : 0 ≤ j) : kF (l.drop i) j = kF l ((i : Int) + j) := by
 obtain ⟨m, rfl⟩ : ∃ m : Nat, j = m := ⟨j.toNat, by omega⟩
 rw [show (i : Int) + (m : Int) = ((i + m : Nat) : Int) by omega, DQ, DQ, dM]
theorem EW {α : Type} (eq : α → α → Bool) (i : Nat) : ∀ (rest out mid : List α) (p : α) (n : Nat), rest.length < n → (out ++ (mid ++ [p]) ++ rest).length < 4611686018427387904 → 1 ≤ i → i ≤ out.length →
  ∃ d, Ai eq (i : Int) n (out ++ (mid ++ [p]) ++ rest) (out.length : Int) ((out.length + mid.length + 1 - i : Nat) : Int) = some (d, ((out ++ mx eq p rest).length : Int)) ∧ d.take (out ++ mx eq p rest).length = out ++ mx eq p rest ∧ (out ++ mx eq p rest).length ≤ d.length
 | [], out, mid, p, 0, h, _, _, _ => by simp at h
 | [], out, mid, p, n + 1, h, s, h1, r => by
  rw [Ai, aY (by simp; omega)]
  exact ⟨out ++ (mid ++ [p]) ++ [], by simp [mx], by simp [mx], by simp [mx]⟩
 | x :: rest, out, mid, p, 0, h, _, _, _ => by simp at h
 | x :: rest, out, mid, p, n + 1, h, s, h1, r => by
  have hlen : (out ++ (mid ++ [p]) ++ x :: rest).length = out.length + mid.length + rest.length + 2 := by simp; omega
  rw [hlen] at s
  rw [Ai, aZ (by rw [hlen]; simp; omega)]
  rw [dp, HK _ _ _ (by omega), my (out ++ (mid ++ [p])) x rest _ (by simp; omega)]
  simp only [aA]
  rw [jZ (x := ((out.length + mid.length + 1 - i : Nat) : Int) - 1) (by omega) (by omega), HK _ _ _ (by omega)]
  rw [show out ++ (mid ++ [p]) ++ x :: rest = (out ++ mid) ++ p :: (x :: rest) by simp]
  rw [my (out ++ mid) p (x :: rest) _ (by simp; omega)]
  simp only [aA]
  rw [jZ (x := ((out.length + mid.length + 1 - i : Nat) : Int) + 1) (by omega) (by omega)]
  cases hp : eq x p with
  | true =>
   simp only [bU, aB, aG, aA]
   obtain ⟨d, j, l, q⟩ := EW eq i rest out (mid ++ [p]) x n (by simp at h; omega) (by simp; omega) h1 r
   refine ⟨d, ?_, by rw [mx, hp]; exact l, by rw [mx, hp]; exact q⟩
   rw [mx, hp, aZ rfl, ← j]
   congr 1
   ·simp
   ·simp; omega
  | false =>
   simp only [cJ, aJ]
   obtain ⟨m, b, hm⟩ : ∃ m b, mid ++ [p] = m :: b := by cases mid with
    | nil => exact ⟨p, [], rfl⟩
    | cons m b => exact ⟨m, b ++ [p], rfl⟩
   have u : b.length = mid.length := by have := bA List.length hm; simp at this; omega
   rw [show (out ++ mid) ++ p :: (x :: rest) = out ++ m :: (b ++ x :: rest) by rw [← bO, ← hm]; simp]
   rw [my out m (b ++ x :: rest) _ rfl]
   simp only [aA]
   rw [jZ (x := (out.length : Int) + 1) (by omega) (by omega)]
   have v : (out ++ m :: (b ++ x :: rest)).set (Int.toNat (out.length : Int)) x = (out ++ [x]) ++ (b ++ [x]) ++ rest := by
    rw [dp, List.set_append_right _ _ (aR _)]; simp
   rw [v]
   obtain ⟨d, j, l, q⟩ := EW eq i rest (out ++ [x]) b x n (by simp at h; omega) (by simp; omega) h1 (by simp; omega)
   refine ⟨d, ?_, ?_, ?_⟩
   ·rw [mx, hp, aY (by decide)]
    have t : ((out ++ x :: mx eq x rest).length : Int) = ((out ++ [x] ++ mx eq x rest).length : Int) := by simp
    rw [t, ← j]
    congr 1
    ·simp
    ·simp; omega
   ·rw [mx, hp, aY (by decide)]; simpa using l
   ·rw [mx, hp, aY (by decide)]; simpa using q
theorem IV {α : Type} (eq : α → α → Bool) (z : α) : ∀ (rest pre : List α) (p : α) (n : Nat), rest.length < n → (pre ++ p :: rest).length < 4611686018427387904 →
  AR eq z (pre ++ p :: rest) n ((pre.length + 1 : Nat) : Int) = some (pre ++ p :: mx eq p rest)
 | [], pre, p, 0, h, _ => by simp at h
 | [], pre, p, n + 1, h, l => by rw [AR, aY (by simp)]; simp [mx]
 | x :: rest, pre, p, 0, h, _ => by simp at h
 | x :: rest, pre, p, n + 1, h, l => by
  have hlen : (pre ++ p :: x :: rest).length = pre.length + rest.length + 2 := by simp; omega
  rw [hlen] at l
  rw [AR, aZ (by rw [hlen]; simp; omega)]
  rw [show pre ++ p :: x :: rest = (pre ++ [p]) ++ x :: rest by simp, my (pre ++ [p]) x rest _ (by simp)]
  simp only [aA]
  rw [jZ (x := ((pre.length + 1 : Nat) : Int) - 1) (by omega) (by omega)]
  rw [show (pre ++ [p]) ++ x :: rest = pre ++ p :: (x :: rest) by simp, my pre p (x :: rest) _ (by omega)]
  simp only [aA]
  cases hp : eq x p with
  | true =>
   simp only [aJ]
   rw [CK (by omega) (by rw [hlen]; omega)]
   simp only [aA]
   obtain ⟨m, b, j, i⟩ := EW eq (pre.length + 1) rest (pre ++ [p]) [] x jP (by rw [vA]; omega) (by simp; omega) (by omega) (by simp)
   simp only [aI, bO, bD, aC, aH, bP] at b j i
   rw [show (pre.length + (0 + 1) + 0 + 1 - (pre.length + 1) : Nat) = 1 by omega] at b
   rw [show ((pre.length + 1 : Nat) : Int) = ((pre.length + (0 + 1) : Nat) : Int) by omega] at *
   have d : Ai eq ((pre.length + (0 + 1) : Nat) : Int) jP (pre ++ p :: x :: rest) ((pre.length + (0 + 1) : Nat) : Int) 1 = _ := b
   rw [d]
   simp only [aA]
   rw [CK (by omega) (by omega)]
   simp only [aA, dp]
   rw [CK (by omega) (by rw [uj _ _ _ i]; omega)]
   simp only [aA]
   rw [En _ _ _ i, j, mx, hp]
   simp
  | false =>
   simp only [aB, aG]
   rw [jZ (x := ((pre.length + 1 : Nat) : Int) + 1) (by omega) (by omega)]
   have := IV eq z rest (pre ++ [p]) x n (by simp at h; omega) (by simp; omega)
   simp only [aI, bO, bD, aC, aH, bP] at this
   rw [show ((pre.length + 1 : Nat) : Int) + 1 = ((pre.length + (0 + 1) + 1 : Nat) : Int) by omega, this, mx, hp]
   simp
theorem I2 {α : Type} (eq : α → α → Bool) (z : α) (l : List α) (b : l.length < 4611686018427387904) : Im eq z l = some (dd eq l) := by
 unfold Im
 cases l with
 | nil => rfl
 | cons x xs =>
  cases xs with
  | nil => simp [dd, mx]
  | cons y ys =>
   rw [aY (by simp; omega)]
   have := IV eq z (y :: ys) [] x jP (by rw [vA]; simp at b ⊢; omega) (by simpa using b)
   simpa [dd] using this
structure yW {α : Type} (lt : α → α → Prop) (P : α → Prop) : Prop where
 irrefl : ∀ x, P x → ¬ lt x x
 trans : ∀ x y z, P x → P y → P z → lt x y → lt y z → lt x z
 total : ∀ x y, P x → P y → lt x y ∨ x = y ∨ lt y x
def uM {α : Type} (lt : α → α → Prop) (P : α → Prop) (l out : List α) : Prop := out.Pairwise lt ∧ ∀ x, x ∈ out ↔ x ∈ l ∧ P x
theorem uM.unique {α : Type} {lt : α → α → Prop} {P : α → Prop} (H : yW lt P) : ∀ {l a b : List α}, uM lt P l a → uM lt P l b → a = b := by
 have key : ∀ a b : List α, (∀ x ∈ a, P x) → a.Pairwise lt → b.Pairwise lt → (∀ x, x ∈ a ↔ x ∈ b) → a = b := by
  intro a
  induction a with
  | nil => intro b _ _ _ hm; cases b with
   | nil => rfl
   | cons y ys => exact absurd ((hm y).2 (by simp)) (by simp)
  | cons x xs ih =>
   intro b q ha n hm
   cases b with
   | nil => exact absurd ((hm x).1 (by simp)) (by simp)
   | cons y ys =>
    have r : P y := q y ((hm y).2 (by simp))
    have d : P x := q x (by simp)
    have i := cA.1 ha
    have j := cA.1 n
    have s : x = y := by
     rcases aK.1 ((hm x).1 (by simp)) with h | h
     ·exact h
     ·rcases aK.1 ((hm y).2 (by simp)) with p | p
      ·exact p.symm
      ·exact absurd (H.trans x y x d r d (i.1 y p) (j.1 x h)) (H.irrefl x d)
    subst s
    congr 1
    refine ih ys (fun z m => q z (by simp [m])) i.2 j.2 (fun z => ?_)
    constructor
    ·intro m
     rcases aK.1 ((hm z).1 (by simp [m])) with h | h
     ·subst h; exact absurd (i.1 z m) (H.irrefl z d)
     ·exact h
    ·intro m
     rcases aK.1 ((hm z).2 (by simp [m])) with h | h
     ·subst h; exact absurd (j.1 z m) (H.irrefl z d)
     ·exact h
 intro l a b ha n
 exact key a b (fun x t => ((ha.2 x).1 t).2) ha.1 n.1 (fun x => (ha.2 x).trans (n.2 x).symm)
theorem B4 {α : Type} {eq : α → α → Bool} (he : ∀ x y, eq x y = true ↔ x = y) : ∀ (l : List α) (p x : α), x ∈ p :: mx eq p l ↔ x ∈ p :: l
 | [], p, x => by simp [mx]
 | y :: l, p, x => by
  rw [mx]
  split
  ·rename_i h
   have := (he y p).1 h
   subst this
   rw [B4 he l y x]; simp
  ·have := B4 he l y x
   simp only [aK] at this ⊢
   rw [this]
theorem Ik {α : Type} {eq : α → α → Bool} (he : ∀ x y, eq x y = true ↔ x = y) (l : List α) (x : α) : x ∈ dd eq l ↔ x ∈ l := by
 cases l with
 | nil => simp [dd]
 | cons y l => exact B4 he l y x
theorem AS {α : Type} {eq : α → α → Bool} {lt : α → α → Prop} {P : α → Prop} (he : ∀ x y, eq x y = true ↔ x = y) (H : yW lt P) : ∀ (l : List α) (p : α), (∀ x ∈ p :: l, P x) → (p :: l).Pairwise (fun a b => ¬ lt b a) → (p :: mx eq p l).Pairwise lt
 | [], p, _, _ => by simp [mx]
 | y :: l, p, d, s => by
  have h1 := cA.1 s
  rw [mx]
  split
  ·rename_i h
   have := (he y p).1 h
   subst this
   exact AS he H l y (fun x m => d x (eL _ m)) h1.2
  ·rename_i h
   have ih := AS he H l y (fun x m => d x (eL _ m)) h1.2
   refine cA.2 ⟨fun z r => ?_, ih⟩
   have j : lt p y := by
    rcases H.total p y (d p (by simp)) (d y (by simp)) with i | i | i
    ·exact i
    ·exact absurd ((he y p).2 i.symm) h
    ·exact absurd i (h1.1 y (by simp))
   rcases aK.1 r with rfl | n
   ·exact j
   ·have q : z ∈ y :: l := (B4 he l y z).1 r
    exact H.trans p y z (d p (by simp)) (d y (by simp)) (d z (eL _ q)) j ((cA.1 ih).1 z n)
theorem Lr {α : Type} {eq : α → α → Bool} {lt : α → α → Prop} {P : α → Prop} (he : ∀ x y, eq x y = true ↔ x = y) (H : yW lt P) (l : List α) (d : ∀ x ∈ l, P x) (h : l.Pairwise (fun a b => ¬ lt b a)) : (dd eq l).Pairwise lt := by
 cases l with
 | nil => simp [dd]
 | cons y l => exact AS he H l y d h
theorem Hj {α : Type} {le : α → α → Bool} {P : α → Prop} (j : ∀ a b c, P a → P b → P c → le a b = true → le b c = true → le a c = true) (i : ∀ a b, P a → P b → (le a b || le b a) = true) (l : List α) (d : ∀ x ∈ l, P x) :
  (l.mergeSort le).Pairwise (fun a b => le a b = true) := by
 have e : l = (l.attachWith P d).map Subtype.val := by simp
 have hm : ((l.attachWith P d).mergeSort fun a b => le a.1 b.1).map Subtype.val = l.mergeSort le := by
  conv => rhs; rw [e]
  exact gU (fun a _ b _ => rfl)
 rw [← hm, fl]
 exact fV (le := fun (a b : {x // P x}) => le a.1 b.1) (fun a b c h1 h => j a.1 b.1 c.1 a.2 b.2 c.2 h1 h) (fun a b => i a.1 b.1 a.2 b.2) _
theorem Em {α : Type} {eq : α → α → Bool} {lt : α → α → Prop} {P : α → Prop} {cf : α × α → Option Int} {l : List α} (he : ∀ x y, eq x y = true ↔ x = y) (H : yW lt P) (i : ∀ x ∈ l, P x) (G : l.length < 4611686018427387904) (E : ∀ x y, P x → P y → ∃ c, cf (x, y) = some c ∧ (c < 0 ↔ lt x y)) : ∃ s, yr cf l = some s ∧ s.length = l.length ∧ uM lt P l (dd eq s) := by
 have m : ∀ x y, P x → P y → (sD cf x y = true ↔ lt x y) := fun x y j q => by
  obtain ⟨c, h1, p⟩ := E x y j q
  unfold sD
  rw [h1]
  simpa using p
 have d : ∀ x y, P x → P y → (sD cf x y = false ↔ ¬ lt x y) := fun x y j q => by
  rw [← m x y j q]; simp
 have ok : Dg cf l := by
  refine ⟨fun x j y q => ?_, fun x j => ?_, fun x j y q z w h1 p => ?_, fun x j y q h1 p => ?_, G⟩
  ·obtain ⟨c, h1, _⟩ := E x y (i x j) (i y q); exact ⟨c, h1⟩
  ·exact (d x x (i x j) (i x j)).2 (H.irrefl x (i x j))
  ·rw [m _ _ (i x j) (i y q)] at h1
   rw [m _ _ (i y q) (i z w)] at p
   rw [m _ _ (i x j) (i z w)]
   exact H.trans x y z (i x j) (i y q) (i z w) h1 p
  ·rw [d _ _ (i x j) (i y q)] at h1
   rw [d _ _ (i y q) (i x j)] at p
   rcases H.total x y (i x j) (i y q) with h | h | h
   ·exact absurd h h1
   ·exact h
   ·exact absurd h p
 refine ⟨_, NO ok, by simp [rL], ?_, ?_⟩
 ·have n : ∀ x, x ∈ rL cf l ↔ x ∈ l := fun x => by simp [rL]
  refine Lr he H _ (fun x j => i x ((n x).1 j)) ?_
  have := Hj (le := fun x y => !sD cf y x) (P := P) (fun a b c ha r t h1 p => ?_) (fun a b ha r => ?_) l i
  ·refine (this.imp_of_mem ?_ : _)
   intro a b ha r h
   have u : a ∈ l := (n a).1 ha
   have v : b ∈ l := (n b).1 r
   simp at h
   exact (d b a (i b v) (i a u)).1 h
  ·simp at h1 p ⊢
   rw [d _ _ r ha] at h1
   rw [d _ _ t r] at p
   rw [d _ _ t ha]
   intro A
   rcases H.total a b ha r with h | h | h
   ·exact p (H.trans c a b t ha r A h)
   ·subst h; exact p A
   ·exact h1 h
  ·simp only [fa, fq]
   rw [d _ _ r ha, d _ _ ha r]
   by_cases h : lt b a
   ·right; intro p; exact H.irrefl a ha (H.trans a b a ha r ha p h)
   ·exact .inl h
 ·intro x
  rw [Ik he]
  constructor
  ·intro j
   have : x ∈ l := by simpa [rL] using j
   exact ⟨this, i x this⟩
  ·intro j; simpa [rL] using j.1
theorem tO : ∀ a : List UInt8, Op.bytesLess a a = false
 | [] => rfl
 | x :: a => by simp [Op.bytesLess, tO a]
theorem IS (x y : UInt8) : x < y ∨ x = y ∨ y < x := by
 rcases Nat.lt_trichotomy x.toNat y.toNat with h | h | h
 ·exact .inl h
 ·exact .inr (.inl (UInt8.toNat_inj.1 h))
 ·exact .inr (.inr h)
theorem wG : ∀ a b c : List UInt8, Op.bytesLess a b = true → Op.bytesLess b c = true → Op.bytesLess a c = true
 | [], [], c, h1, _ => by simp [Op.bytesLess] at h1
 | _ :: _, [], c, h1, _ => by simp [Op.bytesLess] at h1
 | a, _ :: _, [], _, d => by simp [Op.bytesLess] at d
 | [], b :: bs, c :: cs, _, _ => rfl
 | a :: ax, b :: bs, c :: cs, h1, d => by
  simp only [Op.bytesLess, fa, bE, aQ, fR] at h1 d ⊢
  rcases h1 with h1 | ⟨rfl, h1⟩
  ·rcases d with d | ⟨rfl, d⟩
   ·exact .inl (UInt8.lt_trans h1 d)
   ·exact .inl h1
  ·rcases d with d | ⟨rfl, d⟩
   ·exact .inl d
   ·exact .inr ⟨rfl, wG ax bs cs h1 d⟩
theorem zJ : ∀ a b : List UInt8, Op.bytesLess a b = true ∨ a = b ∨ Op.bytesLess b a = true
 | [], [] => .inr (.inl rfl)
 | [], _ :: _ => .inl rfl
 | _ :: _, [] => .inr (.inr rfl)
 | a :: ax, b :: bs => by
  simp only [Op.bytesLess, fa, bE, aQ, fR, aT]
  rcases IS a b with h | h | h
  ·exact .inl (.inl h)
  ·subst h
   rcases zJ ax bs with h | h | h
   ·exact .inl (.inr ⟨rfl, h⟩)
   ·exact .inr (.inl ⟨rfl, h⟩)
   ·exact .inr (.inr (.inr ⟨rfl, h⟩))
  ·exact .inr (.inr (.inl h))
theorem BA : ∀ a b : List UInt8, (Lib.compareBytes a b < 0 ↔ Op.bytesLess a b = true)
 | [], [] => by simp [Lib.compareBytes, Op.bytesLess]
 | [], _ :: _ => by simp [Lib.compareBytes, Op.bytesLess]
 | _ :: _, [] => by simp [Lib.compareBytes, Op.bytesLess]
 | a :: ax, b :: bs => by
  simp only [Lib.compareBytes, Op.bytesLess, fa, bE, aQ, fR]
  by_cases h : a < b
  ·simp [h]
  ·by_cases i : b < a
   ·have : a ≠ b := by rintro rfl; exact h i
    simp [h, i, this]
   ·have : a = b := by rcases IS a b with d | d | d; exact absurd d h; exact d; exact absurd d i
    subst this
    simp [h, BA ax bs]
theorem ET : ∀ a b : List UInt8, (Lib.compareBytes a b = 0 ↔ a = b)
 | [], [] => by simp [Lib.compareBytes]
 | [], _ :: _ => by simp [Lib.compareBytes]
 | _ :: _, [] => by simp [Lib.compareBytes]
 | a :: ax, b :: bs => by
  simp only [Lib.compareBytes, aT]
  by_cases h : a < b
  ·simp only [h, aJ]
   constructor
   ·intro h; cases h
   ·rintro ⟨rfl, _⟩; exact absurd h (by simp)
  ·by_cases i : b < a
   ·simp only [h, i, aJ, aG]
    constructor
    ·intro h; cases h
    ·rintro ⟨rfl, _⟩; exact absurd i (by simp)
   ·have : a = b := by rcases IS a b with d | d | d; exact absurd d h; exact d; exact absurd d i
    subst this
    simp [h, ET ax bs]
theorem wQ (a b : ByteArray) : pg a b = Op.bytesLess a.data.toList b.data.toList := by unfold pg; rw [eP, eP]
theorem yB {a b : ByteArray} (h : a.data.toList = b.data.toList) : a = b := fI (Array.toList_inj.1 h)
theorem rk (a : ByteArray) : pg a a = false := by rw [wQ, tO]
theorem yP {a b c : ByteArray} (h1 : pg a b = true) (d : pg b c = true) : pg a c = true := by rw [wQ] at *; exact wG _ _ _ h1 d
theorem yE (a b : ByteArray) : pg a b = true ∨ a = b ∨ pg b a = true := by
 rw [wQ, wQ]
 rcases zJ a.data.toList b.data.toList with h | h | h
 ·exact .inl h
 ·exact .inr (.inl (yB h))
 ·exact .inr (.inr h)
theorem Hb {a b : ByteArray} (h : pg a b = true) : pg b a = false := by
 cases d : pg b a with
 | false => rfl
 | true => have := yP h d; rw [rk] at this; cases this
theorem Od (P : ByteArray → Prop) : yW (fun a b => pg a b = true) P :=
 ⟨fun x _ h => (by rw [rk] at h; cases h), fun x y z _ _ _ => yP, fun x y _ _ => yE x y⟩
def zY (b : UInt8) : Bool := decide (97 ≤ b.toNat) && decide (b.toNat ≤ 122)
def BG (b : UInt8) : Bool := zY b || (decide (48 ≤ b.toNat) && decide (b.toNat ≤ 57)) || decide (b.toNat = 45)
def mR (s : ByteArray) : Bool := decide (1 ≤ s.size) && decide (s.size ≤ 16) && (match s.data.toList with | [] => false | b :: _ => zY b) && s.data.toList.all BG
theorem nz {s : ByteArray} (h : mR s = true) : 1 ≤ s.size ∧ s.size ≤ 16 := by
 simp only [mR, aQ, bE] at h
 exact h.1.1
theorem Ku : ∀ n : Nat, n < 256 → decide (vG (⟨#[97, 98, 99, 100, 101, 102, 103, 104, 105, 106, 107, 108, 109, 110, 111, 112, 113, 114, 115, 116, 117, 118, 119, 120, 121, 122]⟩ : ByteArray) (n : Int) ≥ 0) = zY (UInt8.ofNat n) := by decide +kernel
theorem NL : ∀ n : Nat, n < 256 → decide (vG (⟨#[97, 98, 99, 100, 101, 102, 103, 104, 105, 106, 107, 108, 109, 110, 111, 112, 113, 114, 115, 116, 117, 118, 119, 120, 121, 122, 48, 49, 50, 51, 52, 53, 54, 55, 56, 57, 45]⟩ : ByteArray) (n : Int) < 0) = !BG (UInt8.ofNat n) := by decide +kernel
theorem vj (s : ByteArray) : s.size = s.data.toList.length := by rw [dt]; rfl
theorem Ef {s : ByteArray} (h : s.size ≤ 16) : BI s = some (lV s) := by
 unfold BI; rw [aZ (by unfold maxLen; omega)]
theorem Ii : ∀ l : List UInt8, tu (l.map fun b => (b.toNat : Int)) = some (l.all BG)
 | [] => rfl
 | b :: l => by
  rw [bF, tu]
  simp only [qj, nJ, aA]
  have d := NL b.toNat (ie b)
  rw [d]
  simp only [iB, gA]
  cases BG b with
  | true => simp [Ii l]
  | false => simp
theorem Ha {s : ByteArray} {b : UInt8} {l : List UInt8} (h : s.data.toList = b :: l) : yZ s 0 = some b := by
 unfold yZ
 rw [aZ (Int.le_refl 0)]
 have d : s.data[0]? = some b := by rw [← dG, h]; rfl
 show s[0]? = some b
 rw [← d]
 rfl
theorem xG (s : ByteArray) : qM s = some (mR s) := by
 unfold qM
 simp only [Cq, aA, nK]
 by_cases h1 : 1 ≤ s.size
 ·by_cases d : s.size ≤ 16
  ·rw [aZ (by simp; omega)]
   obtain ⟨b, l, i⟩ : ∃ b l, s.data.toList = b :: l := by
    cases h : s.data.toList with
    | nil => rw [vj, h] at h1; simp at h1
    | cons b l => exact ⟨b, l, rfl⟩
   rw [Ha i]
   simp only [aA, qj, nJ]
   rw [Ku b.toNat (ie b)]
   simp only [iB, mR, h1, d, i, bR, dx]
   cases zY b with
   | false => simp
   | true =>
    simp only [aJ, AP, Ef d, aA, lV]
    rw [Ii, i]
    simp
  ·rw [aY (by simp; omega)]
   simp [mR, d]
 ·rw [aY (by simp; omega)]
  simp [mR, h1]
theorem Oj {s : ByteArray} {A B : List UInt8} {b : UInt8} (h : s.data.toList = A ++ b :: B) (i : Int) (j : i = (A.length : Int)) : yZ s i = some b := by
 subst j
 unfold yZ
 rw [aZ (by omega), dp]
 have d : s.data[A.length]? = some b := by rw [← dG, h]; simp
 show s[A.length]? = some b
 rw [← d]
 rfl
theorem Dt (s : ByteArray) (z : s.size ≤ 16) : ∀ (B A : List UInt8) (n : Nat), s.data.toList = A ++ B → B.length < n → rM s n (A.length : Int) = some (B.all BG)
  | [], A, 0, _, h => by simp at h
  | [], A, n + 1, h, _ => by
    have : s.size = A.length := by rw [vj, h]; simp
    rw [rM, aY (by rw [this]; simp)]
    rfl
  | b :: B, A, 0, _, h => by simp at h
  | b :: B, A, n + 1, h, y => by
    have q : s.size = A.length + B.length + 1 := by rw [vj, h]; simp; omega
    rw [rM, aZ (by rw [q]; simp; omega)]
    rw [Oj h _ rfl]
    simp only [aA]
    rw [jZ (x := (A.length : Int) + 1) (by omega) (by omega)]
    have ih := Dt s z B (A ++ [b]) n (by rw [h]; simp) (by simp at y; omega)
    rw [show ((A ++ [b]).length : Int) = (A.length : Int) + 1 by simp] at ih
    simp only [gA]
    have p : ∀ n : Nat, n < 256 → BG (UInt8.ofNat n) = !((decide (n < 97) || decide (n > 122)) && (decide (n < 48) || decide (n > 57)) && decide (n ≠ 45)) := by decide +kernel
    have r := p b.toNat (ie b)
    simp only [iB] at r
    rw [r]
    by_cases h1 : b.toNat < 97 <;> by_cases t : b.toNat > 122 <;> by_cases u : b.toNat < 48 <;> by_cases v : b.toNat > 57 <;> by_cases w : b.toNat = 45 <;>
      first
      | omega
      | (have d : ((b.toNat : Int) < 97) = (b.toNat < 97) := by rw [fS]; omega
         have i : ((b.toNat : Int) > 122) = (b.toNat > 122) := by rw [fS]; omega
         have j : ((b.toNat : Int) < 48) = (b.toNat < 48) := by rw [fS]; omega
         have l : ((b.toNat : Int) > 57) = (b.toNat > 57) := by rw [fS]; omega
         have m : ((b.toNat : Int) != 45) = !decide (b.toNat = 45) := by rw [bI]; simp; omega
         simp [h1, t, u, v, w, d, i, j, l, m, ih])
theorem tP (a : ByteArray) : kv a a = true := lH.2 rfl
theorem Pd : zS.size = 0 := rfl
theorem N7 {s : ByteArray} : s = zS ↔ s.size = 0 := by
 constructor
 ·rintro rfl; rfl
 ·intro h; exact yB (by rw [vj] at h; rw [ev.1 h]; rfl)
theorem wJ (s : ByteArray) : qW s = some (mR s) := by
 unfold qW
 simp only [P4, aA, nK]
 by_cases i : s.size = 0
 ·have : s = zS := N7.2 i
  subst this
  rw [tP]
  rfl
 ·have q : kv s zS = false := by
   cases h : kv s zS with
   | false => rfl
   | true => exact absurd (N7.1 (lH.1 h)) i
  rw [q]
  simp only [Bool.false_or]
  by_cases j : s.size ≤ 16
  ·rw [aY (by simp; omega)]
   obtain ⟨b, l, n⟩ : ∃ b l, s.data.toList = b :: l := by
    cases h : s.data.toList with
    | nil => rw [vj, h] at i; simp at i
    | cons b l => exact ⟨b, l, rfl⟩
   rw [Ha n]
   simp only [aA, P4]
   have p := Dt s j s.data.toList [] jP rfl (by rw [vA, ← vj]; omega)
   simp only [bP] at p
   rw [show (0 : Int) = ((0 : Nat) : Int) from rfl] at *
   rw [p]
   have m : ((b.toNat : Int) < 97) = (b.toNat < 97) := by rw [fS]; omega
   have d : ((b.toNat : Int) > 122) = (b.toNat > 122) := by rw [fS]; omega
   have h1 : 1 ≤ s.size := by omega
   simp only [mR, h1, j, n, zY, bR, dx, m, d]
   by_cases a : b.toNat < 97
   ·simp [a, show ¬ 97 ≤ b.toNat by omega]
   ·by_cases c : b.toNat > 122
    ·simp [a, c, show ¬ b.toNat ≤ 122 by omega]
    ·simp [a, c, show 97 ≤ b.toNat by omega, show b.toNat ≤ 122 by omega]
  ·rw [aZ (by simp; omega)]
   simp [mR, j]
def lG (r : jl) : Bool := mR r.jo && mR r.Word
theorem xq (r : jl) : oX r = some (lG r) := by
 unfold oX lG
 simp only [xG, aA]
 cases mR r.jo <;> simp
theorem zV (r : jl) : su r = some (lG r) := by
 unfold su lG
 simp only [wJ, aA]
 cases mR r.jo <;> simp
def AG (a b : jl) : Bool := pg a.jo b.jo || (kv a.jo b.jo && pg a.Word b.Word)
theorem Aq (a b : jl) : xw a b = some (AG a b) := by
 unfold xw AG
 cases pg a.jo b.jo <;> cases kv a.jo b.jo <;> simp
theorem JK {a b : ByteArray} (h : a ≠ b) : kv a b = false := by
 cases d : kv a b with
 | false => rfl
 | true => exact absurd (lH.1 d) h
theorem zt {a b : jl} : AG a b = true ↔ pg a.jo b.jo = true ∨ (a.jo = b.jo ∧ pg a.Word b.Word = true) := by
 simp [AG, lH]
theorem QW (P : jl → Prop) : yW (fun a b => AG a b = true) P := by
 refine ⟨fun x _ h => ?_, fun x y z _ _ _ h1 d => ?_, fun x y _ _ => ?_⟩
 ·rw [zt] at h
  simp [rk] at h
 ·rw [zt] at *
  rcases h1 with h1 | ⟨j, h1⟩
  ·rcases d with d | ⟨i, d⟩
   ·exact .inl (yP h1 d)
   ·exact .inl (by rw [← i]; exact h1)
  ·rcases d with d | ⟨i, d⟩
   ·exact .inl (by rw [j]; exact d)
   ·exact .inr ⟨j.trans i, yP h1 d⟩
 ·simp only [zt]
  rcases yE x.jo y.jo with h | h | h
  ·exact .inl (.inl h)
  ·rcases yE x.Word y.Word with d | d | d
   ·exact .inl (.inr ⟨h, d⟩)
   ·refine .inr (.inl ?_)
    cases x; cases y; simp at h d; simp [h, d]
   ·exact .inr (.inr (.inr ⟨h.symm, d⟩))
  ·exact .inr (.inr (.inl h))
theorem zh (a b : jl) : ∃ c, qz a b = some c ∧ (c < 0 ↔ AG a b = true) := by
 unfold qz
 simp only [oF, mS, aA, tk, qO]
 have h1 : ∀ a b : ByteArray, (ot a b < 0 ↔ pg a b = true) := fun a b => by rw [wQ]; exact BA _ _
 have i : ∀ a b : ByteArray, (ot a b = 0 ↔ a = b) := fun a b => by
  unfold ot; rw [ET]; exact ⟨yB, fun h => by rw [h]⟩
 by_cases e : ot a.jo b.jo = 0
 ·rw [aY (by simp [e])]
  have e' := (i _ _).1 e
  by_cases d : ot a.Word b.Word = 0
  ·rw [aY (by simp [d])]
   refine ⟨0, rfl, ?_⟩
   rw [zt, e', (i _ _).1 d]
   simp [rk]
  ·rw [aZ (by simp [d])]
   refine ⟨_, rfl, ?_⟩
   rw [zt, e', h1]
   simp [rk]
 ·rw [aZ (by simp [e])]
  refine ⟨_, rfl, ?_⟩
  rw [zt, h1]
  have : a.jo ≠ b.jo := fun h => e ((i _ _).2 h)
  simp [this]
def zR : jl := ⟨zS, zS⟩
theorem G4 (a b : ByteArray) : kv a b = kv b a := by rw [bI, lH, lH]; exact eq_comm
theorem DE (a b : jl) : jG a b = jG b a := by rw [bI, jH, jH]; exact eq_comm
theorem vd (a : jl) : jG a a = true := jH.2 rfl
def lm (c : jm) : Bool := lG c.Head && (
 if c.Kind == 1 then mR c.ke && jG zR c.B && jG zR c.C && kv zS c.kp
 else if c.Kind == 2 then lG c.B && kv zS c.ke && jG zR c.C && kv zS c.kp
 else if c.Kind == 3 then lG c.B && kv c.B.jo c.Head.jo && mR c.kp && kv zS c.ke && jG zR c.C
 else if c.Kind == 4 then lG c.B && lG c.C && AG c.B c.C && kv zS c.ke && kv zS c.kp
 else false)
theorem uK (c : jm) : rX c = some (lm c) := by
 unfold rX lm
 simp only [xq, xG, aA]
 obtain ⟨k, hk, b⟩ := zh c.B c.C
 rw [hk]
 have d : decide (k < 0) = AG c.B c.C := by rw [bI, ← b]; simp
 simp only [aA, d]
 by_cases h1 : c.Kind = 1
 ·cases lG c.Head <;> cases mR c.ke <;> simp [h1, ko, vd, tP, zR, gn]
 ·by_cases h : c.Kind = 2
  ·cases lG c.Head <;> cases lG c.B <;> simp [h, ko, vd, tP, zR, gn]
  ·by_cases i : c.Kind = 3
   ·cases lG c.Head <;> cases lG c.B <;> cases kv c.B.jo c.Head.jo <;> cases mR c.kp <;> simp [i, ko, vd, tP, zR, gn]
   ·by_cases j : c.Kind = 4
    ·cases lG c.Head <;> cases lG c.B <;> cases lG c.C <;> cases AG c.B c.C <;> simp [j, ko, vd, tP, zR, gn]
    ·simp [h1, h, i, j]
theorem zN (c : jm) : wx c = some (lm c) := by
 unfold wx lm
 simp only [zV, wJ, Aq, aA]
 rw [show (⟨zS, zS⟩ : jl) = zR from rfl, DE c.B zR, DE c.C zR, G4 c.kp zS, G4 c.ke zS]
 by_cases h1 : c.Kind = 1
 ·cases lG c.Head <;> cases mR c.ke <;> cases jG zR c.B <;> cases jG zR c.C <;> simp [h1]
 ·by_cases b : c.Kind = 2
  ·cases lG c.Head <;> cases lG c.B <;> cases kv zS c.ke <;> cases jG zR c.C <;> simp [b]
  ·by_cases d : c.Kind = 3
   ·cases lG c.Head <;> cases lG c.B <;> cases kv zS c.ke <;> cases jG zR c.C <;> cases kv c.B.jo c.Head.jo <;> simp [d]
   ·by_cases h : c.Kind = 4
    ·cases lG c.Head <;> cases lG c.B <;> cases kv zS c.ke <;> cases kv zS c.kp <;> cases lG c.C <;> simp [h]
    ·cases lG c.Head <;> cases lG c.B <;> cases kv zS c.ke <;> simp [h1, b, d, h]
theorem lD {α : Type} {b : Nat} {l m : List α} (h : (l.length + m.length) * b ≤ 140737488355328) (d : l.length + m.length ≤ 9223372036854775807) : lC b l m = some (l ++ m) := by
 unfold lC; rw [aZ ⟨h, by unfold maxLen; omega⟩]
theorem EU {l m : List Int} (h : l.length + m.length ≤ 1000000) : lC 1 l m = some (l ++ m) := lD (by omega) (by omega)
def uJ (s : ByteArray) : List Int := (s.size : Int) :: lV s
def qJ (r : jl) : List Int := uJ r.jo ++ uJ r.Word
def xH (c : jm) : List Int := if c.Kind = 1 then uJ c.ke else if c.Kind = 2 then qJ c.B else if c.Kind = 3 then qJ c.B ++ uJ c.kp else qJ c.B ++ qJ c.C
def rl (c : jm) : List Int := c.Kind :: (qJ c.Head ++ xH c)
theorem rO (s : ByteArray) : (uJ s).length = s.size + 1 := by simp [uJ, mB]
theorem nM {r : jl} (h : lG r = true) : (qJ r).length ≤ 34 := by
 simp only [lG, aQ] at h
 have h1 := nz h.1
 have b := nz h.2
 simp [qJ, rO]; omega
theorem wT {l : List Int} {n : Int} (b : 0 ≤ n) (h1 : n < 128) (d : l.length ≤ 100000) : np l n = some (true, l ++ [n]) := by
 have hw : IntKind.u8.wrap n = n := by
  obtain ⟨k, rfl⟩ : ∃ k : Nat, n = k := ⟨n.toNat, by omega⟩
  have : ∀ k : Nat, k < 128 → IntKind.u8.wrap (k : Int) = (k : Int) := by decide +kernel
  exact this k (by omega)
 unfold np
 rw [aY (by simp; omega), lN, oU, aY (by simp; omega), hw, EU (by simp; omega)]
 rfl
theorem D0 {l : List Int} {s : ByteArray} (h : mR s = true) (b : l.length ≤ 10000) : rV l s = some (true, l ++ uJ s) := by
 have h1 := nz h
 unfold rV
 simp only [xG, aA, h, aJ, Ef h1.2]
 unfold vP
 rw [aY (by rw [mB]; simp; omega)]
 rw [mB, wT (by omega) (by omega) (by omega)]
 simp only [aA]
 rw [EU (by simp [mB]; omega)]
 simp [uJ]
theorem IW {l : List Int} {r : jl} (h : lG r = true) (d : l.length ≤ 9000) : oV l r = some (true, l ++ qJ r) := by
 have b := h
 simp only [lG, aQ] at h
 have h1 := nz h.1
 unfold oV
 simp only [xq, aA, b, aJ]
 rw [D0 h.1 (by omega)]
 simp only [aA, aJ]
 rw [D0 h.2 (by simp [rO]; omega)]
 simp [qJ]
theorem BE {l : List Int} {r : jl} (h : lG r = true) (b : l.length ≤ 1000) : oV l r = some (true, l ++ qJ r) := IW h (by omega)
theorem Ba {c : jm} (h : lm c = true) : lG c.Head = true := by
 simp only [lm, aQ] at h; exact h.1
theorem nL {c : jm} (h : lm c = true) :
  (c.Kind = 1 ∧ mR c.ke = true ∧ c.B = zR ∧ c.C = zR ∧ c.kp = zS) ∨
  (c.Kind = 2 ∧ lG c.B = true ∧ c.ke = zS ∧ c.C = zR ∧ c.kp = zS) ∨
  (c.Kind = 3 ∧ lG c.B = true ∧ mR c.kp = true ∧ c.B.jo = c.Head.jo ∧ c.ke = zS ∧ c.C = zR) ∨
  (c.Kind = 4 ∧ lG c.B = true ∧ lG c.C = true ∧ AG c.B c.C = true ∧ c.ke = zS ∧ c.kp = zS) := by
 simp only [lm, aQ] at h
 obtain ⟨_, h⟩ := h
 split at h
 ·rename_i h1
  simp only [aQ, jH, lH] at h
  exact .inl ⟨by simpa using h1, h.1.1.1, h.1.1.2.symm, h.1.2.symm, h.2.symm⟩
 ·split at h
  ·rename_i h1
   simp only [aQ, jH, lH] at h
   exact .inr (.inl ⟨by simpa using h1, h.1.1.1, h.1.1.2.symm, h.1.2.symm, h.2.symm⟩)
  ·split at h
   ·rename_i h1
    simp only [aQ, jH, lH] at h
    exact .inr (.inr (.inl ⟨by simpa using h1, h.1.1.1.1, h.1.1.2, h.1.1.1.2, h.1.2.symm, h.2.symm⟩))
   ·split at h
    ·rename_i h1
     simp only [aQ, jH, lH] at h
     exact .inr (.inr (.inr ⟨by simpa using h1, h.1.1.1.1, h.1.1.1.2, h.1.1.2, h.1.2.symm, h.2.symm⟩))
    ·cases h
theorem Ay (c : jm) : uZ c = some (if lm c then rl c else []) := by
 unfold uZ
 rw [uK]
 simp only [aA]
 cases h : lm c with
 | false => simp
 | true =>
  have j := Ba h
  have l := nM j
  simp only [bU, aB, aG, aJ]
  have hk : 0 ≤ c.Kind ∧ c.Kind < 128 := by rcases nL h with h | h | h | h <;> omega
  rw [wT hk.1 hk.2 (by simp)]
  simp only [aA]
  rw [BE j (by simp)]
  simp only [aA, rU, sC]
  rcases nL h with ⟨k, h1, _⟩ | ⟨k, h1, _⟩ | ⟨k, h1, b, _⟩ | ⟨k, h1, b, _⟩
  ·have d := nz h1
   simp only [k, aV, aJ, D0 h1 (show (([] ++ [(1:Int)]) ++ qJ c.Head).length ≤ 10000 by simp; omega), aA]
   rw [EU (by simp [rO]; omega)]
   simp [rl, xH, k]
  ·have d := nM h1
   simp only [k, show ((2 : Int) == 1) = false from rfl, aB, aV, aJ, aG, BE h1 (show (([] ++ [(2:Int)]) ++ qJ c.Head).length ≤ 1000 by simp; omega), aA]
   rw [EU (by simp; omega)]
   simp [rl, xH, k]
  ·have d := nM h1
   have i := nz b
   simp only [k, show ((3 : Int) == 1) = false from rfl, show ((3 : Int) == 2) = false from rfl, aB, aV, aJ, aG, BE h1 (show (([] ++ [(3:Int)]) ++ qJ c.Head).length ≤ 1000 by simp; omega), aA]
   rw [D0 b (by simp; omega)]
   simp only [aA]
   rw [EU (by simp [rO]; omega)]
   simp [rl, xH, k]
  ·have d := nM h1
   have i := nM b
   simp only [k, show ((4 : Int) == 1) = false from rfl, show ((4 : Int) == 2) = false from rfl, show ((4 : Int) == 3) = false from rfl, aB, aV, aJ, aG, BE h1 (show (([] ++ [(4:Int)]) ++ qJ c.Head).length ≤ 1000 by simp; omega), aA]
   rw [BE b (by simp; omega)]
   simp only [aA]
   rw [EU (by simp; omega)]
   simp [rl, xH, k]
def uD (l : List Int) : ByteArray := ⟨(sh l).toArray⟩
theorem sU (l : List Int) : (uD l).data.toList = sh l := rfl
theorem FT : ∀ (l : List Int) (r : ByteArray), (l.foldl (fun r n => r.push (UInt8.ofNat n.toNat)) r).data.toList = r.data.toList ++ sh l
 | [], r => by simp [sh]
 | x :: l, r => by
  rw [fM, FT l]
  show ((r.data.push _).toList) ++ _ = _
  simp [sh]
theorem OB (l : List Int) : Kg l = uD l := yB (by unfold Kg; rw [FT]; rfl)
theorem I5 (l : List Int) : (uD l).size = l.length := by rw [vj, sU]; simp [sh]
theorem KK (a b : List Int) : sh (a ++ b) = sh a ++ sh b := by simp [sh]
theorem qk (a b : List Int) (h : a.length + b.length ≤ 1000000) : pj (uD a) (uD b) = some (uD (a ++ b)) := by
 unfold pj
 rw [aY]
 ·congr 1
  refine yB ?_
  rw [sU, KK, ← sU a, ← sU b]
  exact ByteArray.toList_data_append ▸ rfl
 ·rw [I5, I5]
  show ¬ (_ > (9223372036854775807 : Int))
  omega
theorem Co (s : ByteArray) : uD (lV s) = s := yB (by rw [sU]; simp [sh, lV, fk])
theorem wX {n : Int} (b : 0 ≤ n) (h1 : n < 128) : qE n = some (uD [n]) := by
 have hw : IntKind.u8.wrap n = n := by
  obtain ⟨k, rfl⟩ : ∃ k : Nat, n = k := ⟨n.toNat, by omega⟩
  have : ∀ k : Nat, k < 128 → IntKind.u8.wrap (k : Int) = (k : Int) := by decide +kernel
  exact this k (by omega)
 unfold qE
 rw [lN, vO, aY (by simp; omega), hw, OB, show zS = uD [] from rfl, qk _ _ (by simp)]
 rfl
theorem DZ {s : ByteArray} (h : mR s = true) : tI s = some (uD (uJ s)) := by
 have h1 := nz h
 unfold tI
 rw [wX (by omega) (by omega)]
 simp only [aA]
 have := qk [(s.size : Int)] (lV s) (by rw [mB]; simp; omega)
 rw [Co] at this
 rw [this]
 simp [uJ]
theorem zz {r : jl} (h : lG r = true) : sv r = some (uD (qJ r)) := by
 simp only [lG, aQ] at h
 have h1 := nz h.1
 have b := nz h.2
 unfold sv
 rw [DZ h.1, DZ h.2]
 simp only [aA]
 rw [qk _ _ (by simp [rO]; omega)]
 rfl
theorem zL (c : jm) : wi c = some (uD (if lm c then rl c else [])) := by
 unfold wi
 rw [zN]
 simp only [aA]
 cases h : lm c with
 | false => rfl
 | true =>
  have j := Ba h
  have l := nM j
  simp only [bU, aB, aG, aJ]
  have hk : 0 ≤ c.Kind ∧ c.Kind < 128 := by rcases nL h with h | h | h | h <;> omega
  unfold Cw
  rw [wX hk.1 hk.2, zz j]
  simp only [aA]
  rw [qk _ _ (by simp; omega)]
  simp only [aA]
  rcases nL h with ⟨k, h1, _⟩ | ⟨k, h1, _⟩ | ⟨k, h1, b, _⟩ | ⟨k, h1, b, _⟩
  ·have d := nz h1
   simp only [k, aV, aJ, DZ h1, aA]
   rw [qk _ _ (by simp [rO]; omega)]
   simp [rl, xH, k]
  ·have d := nM h1
   simp only [k, show ((2 : Int) == 1) = false from rfl, show ((2 : Int) == 3) = false from rfl, show ((2 : Int) == 4) = false from rfl, aB, aG, zz h1, aA]
   rw [qk _ _ (by simp; omega)]
   simp [rl, xH, k]
  ·have d := nM h1
   have i := nz b
   simp only [k, show ((3 : Int) == 1) = false from rfl, show ((3 : Int) == 4) = false from rfl, aB, aV, aJ, aG, zz h1, aA]
   rw [qk _ _ (by simp; omega)]
   simp only [aA, DZ b]
   rw [qk _ _ (by simp [rO]; omega)]
   simp [rl, xH, k]
  ·have d := nM h1
   have i := nM b
   simp only [k, show ((4 : Int) == 1) = false from rfl, show ((4 : Int) == 3) = false from rfl, aB, aV, aJ, aG, zz h1, aA]
   rw [qk _ _ (by simp; omega)]
   simp only [aA, zz b]
   rw [qk _ _ (by simp; omega)]
   simp [rl, xH, k]
def Ig (c : jm) : List UInt8 := sh (if lm c then rl c else [])
def zP (a b : jm) : Bool := Op.bytesLess (Ig a) (Ig b)
theorem D6 (a b : jm) : ∃ c, rK a b = some c ∧ (c < 0 ↔ zP a b = true) := by
 unfold rK
 rw [Ay, Ay]
 exact ⟨_, rfl, BA _ _⟩
theorem Dl (a b : jm) : ∃ c, sN a b = some c ∧ (c < 0 ↔ zP a b = true) := by
 unfold sN
 rw [zL, zL]
 simp only [aA]
 have h : pg (uD (if lm a then rl a else [])) (uD (if lm b then rl b else [])) = zP a b := by rw [wQ]; rfl
 rw [h]
 cases zP a b with
 | true => exact ⟨_, rfl, by decide⟩
 | false =>
  simp only [aB, aG, Bool.false_or]
  cases d : kv (uD (if lm a then rl a else [])) (uD (if lm b then rl b else [])) with
  | true => exact ⟨0, by simp, by decide⟩
  | false => exact ⟨1, by simp, by decide⟩
theorem QC {a b : Int} (ha : 0 ≤ a ∧ a < 256) (d : 0 ≤ b ∧ b < 256) (h : a.toNat.toUInt8 = b.toNat.toUInt8) : a = b := by
 have := bA UInt8.toNat h
 simp only [UInt8.toNat_ofNat', Nat.toUInt8] at this
 simp at this
 omega
theorem JV : ∀ {a b : List Int}, (∀ x ∈ a, 0 ≤ x ∧ x < 256) → (∀ x ∈ b, 0 ≤ x ∧ x < 256) → sh a = sh b → a = b
 | [], [], _, _, _ => rfl
 | [], _ :: _, _, _, h => by simp [sh] at h
 | _ :: _, [], _, _, h => by simp [sh] at h
 | x :: a, y :: b, ha, i, h => by
  simp only [sh, bF, aT] at h
  rw [QC (ha x (by simp)) (i y (by simp)) h.1, JV (fun z d => ha z (by simp [d])) (fun z d => i z (by simp [d])) h.2]
theorem yk {s : ByteArray} (h : mR s = true) : ∀ x ∈ uJ s, 0 ≤ x ∧ x < 256 := by
 have h1 := nz h
 intro x d
 rcases aK.1 d with rfl | d
 ·omega
 ·simp only [lV, bH] at d
  obtain ⟨b, _, rfl⟩ := d
  have := ie b
  omega
theorem vU {r : jl} (h : lG r = true) : ∀ x ∈ qJ r, 0 ≤ x ∧ x < 256 := by
 simp only [lG, aQ] at h
 intro x b
 rcases aN.1 b with b | b
 ·exact yk h.1 x b
 ·exact yk h.2 x b
theorem D8 {c : jm} (h : lm c = true) : ∀ x ∈ rl c, 0 ≤ x ∧ x < 256 := by
 intro x b
 rcases aK.1 b with rfl | b
 ·rcases nL h with h | h | h | h <;> omega
 ·rcases aN.1 b with b | b
  ·exact vU (Ba h) x b
  ·unfold xH at b
   rcases nL h with ⟨k, h1, _⟩ | ⟨k, h1, _⟩ | ⟨k, h1, d, _⟩ | ⟨k, h1, d, _⟩
   ·rw [aZ k] at b; exact yk h1 x b
   ·rw [aY (by omega), aZ k] at b; exact vU h1 x b
   ·rw [aY (by omega), aY (by omega), aZ k] at b
    rcases aN.1 b with b | b
    ·exact vU h1 x b
    ·exact yk d x b
   ·rw [aY (by omega), aY (by omega), aY (by omega)] at b
    rcases aN.1 b with b | b
    ·exact vU h1 x b
    ·exact vU d x b
theorem Le {s t : ByteArray} (h : lV s = lV t) : s = t := by rw [← Co s, h, Co]
theorem Aw {s t : ByteArray} {X Y : List Int} (h : uJ s ++ X = uJ t ++ Y) : s = t ∧ X = Y := by
 simp only [uJ, bO, aT] at h
 obtain ⟨h1, b⟩ := h
 have d : (lV s).length = (lV t).length := by rw [mB, mB]; omega
 have := List.append_inj b d
 exact ⟨Le this.1, this.2⟩
theorem yD {a b : jl} {X Y : List Int} (h : qJ a ++ X = qJ b ++ Y) : a = b ∧ X = Y := by
 simp only [qJ, aI] at h
 obtain ⟨h1, i⟩ := Aw h
 obtain ⟨d, j⟩ := Aw i
 exact ⟨by cases a; cases b; simp at h1 d; simp [h1, d], j⟩
theorem LL {a b : jm} (ha : lm a = true) (t : lm b = true) (h : rl a = rl b) : a = b := by
 simp only [rl, aT] at h
 obtain ⟨hk, r⟩ := h
 obtain ⟨q, h⟩ := yD r
 clear r
 have m : ∀ {X Y : List Int}, X = Y → X ++ [] = Y ++ [] := fun h => by rw [h]
 unfold xH at h
 obtain ⟨A, s, G, x, y, v⟩ := a
 obtain ⟨E, u, I, bb, z, w⟩ := b
 simp only at hk q h
 subst hk q
 rcases nL ha with ⟨k, h1, i, j, d⟩ | ⟨k, h1, i, j, d⟩ | ⟨k, h1, i, j, d, l⟩ | ⟨k, h1, i, j, d, l⟩ <;>
 rcases nL t with ⟨k', g1, g2, g3, g4⟩ | ⟨k', g1, g2, g3, g4⟩ | ⟨k', g1, g2, g3, g4, g5⟩ | ⟨k', g1, g2, g3, g4, g5⟩ <;> simp only at k k' i j d g2 g3 g4 <;> (try omega)
 ·rw [aZ k, aZ k] at h
  simp [Aw (m h), i, j, d, g2, g3, g4]
 ·rw [aY (by omega), aZ k, aY (by omega), aZ k] at h
  simp [yD (m h), i, j, d, g2, g3, g4]
 ·rw [aY (by omega), aY (by omega), aZ k, aY (by omega), aY (by omega), aZ k] at h
  obtain ⟨n, p⟩ := yD h
  simp only at l g5
  simp [n, Aw (m p), d, l, g4, g5]
 ·rw [aY (by omega), aY (by omega), aY (by omega), aY (by omega), aY (by omega), aY (by omega)] at h
  obtain ⟨n, p⟩ := yD h
  simp only at l g5
  simp [n, yD (m p), d, l, g4, g5]
theorem BP : yW (fun a b => zP a b = true) (fun c => lm c = true) := by
 refine ⟨fun x _ h => ?_, fun x y z _ _ _ h1 j => wG _ _ _ h1 j, fun x y d i => ?_⟩
 ·unfold zP at h; rw [tO] at h; cases h
 ·rcases zJ (Ig x) (Ig y) with h | h | h
  ·exact .inl h
  ·refine .inr (.inl (LL d i ?_))
   unfold Ig at h
   rw [aZ d, aZ i] at h
   exact JV (D8 d) (D8 i) h
  ·exact .inr (.inr h)
section
variable {c : Formula → Formula → Int} {G : Formula → Prop} {f : Formula × Formula → Option Int}
theorem KR (x : Formula) : (⟨x.Op, x.K, x.jl, x.Kids⟩ : Formula) = x := by cases x; rfl
abbrev mO (c : Formula → Formula → Int) (x y : Formula) : Bool := decide (c x y < 0)
abbrev Bq (f : Formula × Formula → Option Int) (c : Formula → Formula → Int) (G : Formula → Prop) : Prop := ∀ x y, G x → G y → f (x, y) = some (c x y)
theorem RU (v : Bq f c G) (pre : List Formula) (x : Formula) (A : G x) : ∀ (k : Nat) (P S : List Formula) (n : Nat) (j a : Int), P.length = k → k < n → (∀ y ∈ P, G y) → (pre ++ (P ++ x :: S)).length ≤ 1000000 → j = ((pre.length + P.length : Nat) : Int) → a = (pre.length : Int) →
  ∃ P1 P2, P = P1 ++ P2 ∧ kY a f n (pre ++ (P ++ x :: S)) j = some (pre ++ (P1 ++ x :: (P2 ++ S))) ∧ (∀ P' z, P1 = P' ++ [z] → mO c x z = false) ∧ (∀ y P', P2 = y :: P' → mO c x y = true) := by
 intro k
 induction k with
 | zero =>
  intro P S n j a hk w d m i ha
  obtain rfl := aO hk
  obtain ⟨n, rfl⟩ := aM (by omega : n ≠ 0)
  refine ⟨[], [], rfl, ?_, by simp, by simp⟩
  rw [kY]
  have : ¬ (j > a) := by rw [i, ha]; simp
  simp [this]
 | succ k ih =>
  intro P S n j a hk w d m i ha
  rcases cX P with rfl | ⟨P', z, rfl⟩
  ·simp at hk
  simp only [dH, aC, aH, bP] at hk i m d ⊢
  obtain ⟨n, rfl⟩ := aM (by omega : n ≠ 0)
  have l : j > a := by omega
  have p : pre ++ (P' ++ [z] ++ x :: S) = (pre ++ P') ++ z :: x :: S := by simp
  have hw : wi0 .i64 (j - 1) = ((pre.length + P'.length : Nat) : Int) := by rw [jZ (by omega) (by omega)]; omega
  have i1 : kF ((pre ++ P') ++ z :: x :: S) j = some x := by
   rw [show (pre ++ P') ++ z :: x :: S = (pre ++ P' ++ [z]) ++ x :: S by simp]
   exact my _ _ _ _ (by simp; omega)
  have i2 : kF ((pre ++ P') ++ z :: x :: S) ((pre.length + P'.length : Nat) : Int) = some z := my _ _ _ _ (by simp)
  have I : G z := d z (by simp)
  have u : ∀ y ∈ P', G y := fun y E => d y (by simp [E])
  have L : j.toNat = pre.length + P'.length + 1 := by omega
  rw [kY, p]
  simp only [l, bR, aJ, i1, hw, i2, aA, v x z A I]
  by_cases h : c x z < 0
  ·simp only [h, bR, aJ]
   have s1 : ((pre ++ P') ++ z :: x :: S).set j.toNat z = (pre ++ P') ++ z :: z :: S := by
    have := IX (pre ++ P' ++ [z]) S x z j.toNat (by simp; omega)
    simpa only [aI, fi, bO, bD] using this
   have s2 : ((pre ++ P') ++ z :: z :: S).set (pre.length + P'.length) x = (pre ++ P') ++ x :: z :: S := by
    exact IX (pre ++ P') (z :: S) z x _ (by simp)
   have i3 : kF ((pre ++ P') ++ z :: z :: S) ((pre.length + P'.length : Nat) : Int) = some z := my _ _ _ _ (by simp)
   rw [s1, i3, aA, dp, KR, s2]
   have q : (pre ++ P') ++ x :: z :: S = pre ++ (P' ++ x :: (z :: S)) := by simp
   obtain ⟨P1, P2, h1, r, s, t⟩ := ih P' (z :: S) n ((pre.length + P'.length : Nat) : Int) a (by omega) (by omega) u (by simp; omega) rfl ha
   rw [q, r]
   refine ⟨P1, P2 ++ [z], by rw [h1]; simp, by simp, s, ?_⟩
   intro y Q b
   cases P2 with
   | nil =>
    simp only [bD, aT] at b
    rw [← b.1]; simp [mO, h]
   | cons J P2 =>
    simp only [bO, aT] at b
    rw [← b.1]; exact t J P2 rfl
  ·simp only [h, bT, aB, aG]
   refine ⟨P' ++ [z], [], by simp, by simp, ?_, by simp⟩
   intro Q y b
   have := List.append_inj' b rfl
   simp only [aT, dr] at this
   rw [← this.2]; simp [mO, h]
theorem N0 (h : SWO (mO c)) (O : Bq f c G) (pre post : List Formula) (a b : Int) (ha : a = (pre.length : Int)) : ∀ (S t : List (Formula × Nat)) (n : Nat) (i : Int),
  S.length < n → nB (mO c) t → (∀ x ∈ t, ∀ y ∈ S, x.2 < y.2) → S.Pairwise (fun x y => x.2 < y.2) → (∀ x ∈ t ++ S, G x.1) → (pre ++ (t.map (·.1) ++ (S.map (·.1) ++ post))).length ≤ 1000000 →
  i = ((pre.length + t.length : Nat) : Int) → b = ((pre.length + t.length + S.length : Nat) : Int) →
  ∃ u, kJ b a f n (pre ++ (t.map (·.1) ++ (S.map (·.1) ++ post))) i = some (pre ++ (u.map (·.1) ++ post)) ∧ nB (mO c) u ∧ u.Perm (t ++ S)
 | [], t, n, i, J, L, h1, M, w, I, P, A => by
  obtain ⟨n, rfl⟩ := aM (by simp at J; omega : n ≠ 0)
  rw [kJ]
  simp only [bP] at A
  have : ¬ (i < b) := by omega
  simp only [this, bT, aB, aG]
  exact ⟨t, by simp, L, by simp⟩
 | s :: S, t, n, i, J, L, h1, M, w, I, P, A => by
  simp only [aH] at J A
  obtain ⟨n, rfl⟩ := aM (by omega : n ≠ 0)
  rw [kJ]
  have E : i < b := by omega
  simp only [E, bR, aJ]
  have m := I
  simp only [aC, cZ, aH] at m
  obtain ⟨P1, P2, T, U, W, Y⟩ := RU O pre s.1 (w s (by simp)) (t.map (·.1)).length (t.map (·.1)) (S.map (·.1) ++ post) jP i a rfl (by rw [lN]; simp; omega)
   (fun y r => by obtain ⟨p, hp, rfl⟩ := bH.1 r; exact w p (by simp [hp])) (by simpa using I) (by simp; omega) ha
  simp only [bF, bO]
  rw [U, aA]
  obtain ⟨t1, t2, rfl, Q, R⟩ := List.map_eq_append_iff.1 T
  have hlen : t1.length + t2.length = (t1 ++ t2).length := by simp
  have hw : wi0 .i64 (i + 1) = ((pre.length + (t1 ++ s :: t2).length : Nat) : Int) := by rw [jZ (by omega) (by omega)]; simp at P ⊢; omega
  rw [hw]
  have q : nB (mO c) (t1 ++ s :: t2) := Gu h L
   (fun A' z b B' l v => by
    simp only [aT] at v
    rw [← v.1]
    refine .inr ⟨W (A'.map (·.1)) z.1 (by rw [← Q, l]; simp), h1 z (by rw [l]; simp) s (by simp)⟩)
   (fun A' z b B' l v => by
    have hz : z = s := by
     cases A' with
     | nil => simpa using l.symm
     | cons _ A' => simp at l
    rw [hz]
    exact .inl (Y b.1 (B'.map (·.1)) (by rw [← R, v]; simp)))
  have j := cA.1 M
  have Z : pre ++ (P1 ++ s.1 :: (P2 ++ (S.map (·.1) ++ post))) = pre ++ ((t1 ++ s :: t2).map (·.1) ++ (S.map (·.1) ++ post)) := by rw [← Q, ← R]; simp
  rw [Z]
  obtain ⟨u, u1, u2, u3⟩ := N0 h O pre post a b ha S (t1 ++ s :: t2) n _ (by omega) q
   (fun x d y r => by
    rcases aN.1 d with d | d
    ·exact h1 x (by simp [d]) y (by simp [r])
    ·rcases aK.1 d with rfl | d
     ·exact j.1 y r
     ·exact h1 x (by simp [d]) y (by simp [r]))
   j.2 (fun x d => w x (by
    simp only [aN, aK] at d ⊢
    rcases d with (d | d | d) | d
    ·exact .inl (.inl d)
    ·exact .inr (.inl d)
    ·exact .inl (.inr d)
    ·exact .inr (.inr d))) (by simp at m ⊢; omega) rfl (by simp at A ⊢; omega)
  refine ⟨u, u1, u2, u3.trans ?_⟩
  simp only [aI, bO]
  exact bV t1 (List.perm_middle.symm)
theorem J2 (h : SWO (mO c)) (r : Bq f c G) (pre post : List Formula) (S : List (Formula × Nat)) (a b : Int) (p : S.Pairwise (fun x y => x.2 < y.2)) (q : ∀ x ∈ S, G x.1) (m : (pre ++ (S.map (·.1) ++ post)).length ≤ 1000000) (ha : a = (pre.length : Int)) (l : b = ((pre.length + S.length : Nat) : Int)) :
  ∃ u, mz (pre ++ (S.map (·.1) ++ post)) a b f = some (pre ++ (u.map (·.1) ++ post)) ∧ nB (mO c) u ∧ u.Perm S := by
 unfold mz
 have i := m
 simp only [aC, cZ] at i
 cases S with
 | nil =>
  refine ⟨[], ?_, .nil, .nil⟩
  obtain ⟨n, t⟩ := aM (by rw [lN]; omega : jP ≠ 0)
  rw [t, kJ]
  have : ¬ (wi0 .i64 (a + 1) < b) := by rw [jZ (by omega) (by omega)]; simp at l; omega
  simp [this]
 | cons s S =>
  simp only [aH] at l i
  have d := cA.1 p
  obtain ⟨u, w, z, A⟩ := N0 h r pre post a b ha S [s] jP (wi0 .i64 (a + 1)) (by rw [lN]; omega) (fY _ _) (fun x j y v => by simp at j; rw [j]; exact d.1 y v) d.2
   (fun x j => q x (by simpa using j)) (by simp at m ⊢; omega) (by rw [jZ (by omega) (by omega)]; simp; omega) (by simp; omega)
  exact ⟨u, by simpa using w, z, by simpa using A⟩
end
section
variable {c : Formula → Formula → Int} {G : Formula → Prop} {f : Formula × Formula → Option Int}
theorem mN {x : Int} (n : Nat) (h : x = (n : Int)) (b : n ≤ 4000000) : wi0 .i64 x = (n : Int) := by rw [h, jZ (by omega) (by omega)]
theorem QE (p m q : List Formula) (a b N : Int) : ∀ (k : Nat) (X1 X2 Y1 Y2 : List Formula) (n : Nat) (i : Int), X2.length = k → Y2.length = k → X1.length = Y1.length → k < n → (p ++ (Y1 ++ (X2 ++ (m ++ (X1 ++ (Y2 ++ q)))))).length ≤ 1000000 →
  i = (X1.length : Int) → N = ((X1.length + k : Nat) : Int) → a = (p.length : Int) → b = ((p.length + X1.length + k + m.length : Nat) : Int) →
  lJ N b a n (p ++ (Y1 ++ (X2 ++ (m ++ (X1 ++ (Y2 ++ q)))))) i = some (p ++ ((Y1 ++ Y2) ++ (m ++ ((X1 ++ X2) ++ q)))) := by
 intro k
 induction k with
 | zero =>
  intro X1 X2 Y1 Y2 n i h1 d v z s w l ha r
  obtain rfl := aO h1
  obtain rfl := aO d
  obtain ⟨n, rfl⟩ := aM (by omega : n ≠ 0)
  rw [lJ]
  have : ¬ (i < N) := by omega
  simp [this]
 | succ k ih =>
  intro X1 X2 Y1 Y2 n i h1 d v z s w l ha r
  cases X2 with
  | nil => simp at h1
  | cons x X2 =>
  cases Y2 with
  | nil => simp at d
  | cons y Y2 =>
  simp only [aH, Nat.add_right_cancel_iff] at h1 d
  obtain ⟨n, rfl⟩ := aM (by omega : n ≠ 0)
  have j := s
  simp only [aC, aH] at j
  have h : i < N := by omega
  have A : wi0 .i64 (b + i) = (((p ++ Y1).length + 1 + (X2 ++ (m ++ X1)).length : Nat) : Int) := mN _ (by simp; omega) (by simp; omega)
  have E : wi0 .i64 (a + i) = ((p ++ Y1).length : Int) := mN _ (by simp; omega) (by simp; omega)
  have G : wi0 .i64 (i + 1) = ((X1 ++ [x]).length : Int) := mN _ (by simp; omega) (by simp; omega)
  have t : p ++ (Y1 ++ (x :: X2 ++ (m ++ (X1 ++ (y :: Y2 ++ q))))) = (p ++ Y1) ++ x :: ((X2 ++ (m ++ X1)) ++ y :: (Y2 ++ q)) := by simp
  have i1 : kF ((p ++ Y1) ++ x :: ((X2 ++ (m ++ X1)) ++ y :: (Y2 ++ q))) (((p ++ Y1).length + 1 + (X2 ++ (m ++ X1)).length : Nat) : Int) = some y := by
   have := my ((p ++ Y1) ++ x :: (X2 ++ (m ++ X1))) y (Y2 ++ q) (((p ++ Y1).length + 1 + (X2 ++ (m ++ X1)).length : Nat) : Int) (by simp; omega)
   simpa using this
  have i2 : kF ((p ++ Y1) ++ x :: ((X2 ++ (m ++ X1)) ++ y :: (Y2 ++ q))) ((p ++ Y1).length : Int) = some x := my _ _ _ _ rfl
  rw [lJ, t]
  simp only [h, bR, aJ, A, E, i1, i2, aA, dp, G]
  have i3 : kF (((p ++ Y1) ++ x :: ((X2 ++ (m ++ X1)) ++ y :: (Y2 ++ q))).set (p ++ Y1).length y) (((p ++ Y1).length + 1 + (X2 ++ (m ++ X1)).length : Nat) : Int) = some y := by
   rw [DN]
   have := my ((p ++ Y1) ++ y :: (X2 ++ (m ++ X1))) y (Y2 ++ q) (((p ++ Y1).length + 1 + (X2 ++ (m ++ X1)).length : Nat) : Int) (by simp; omega)
   simpa using this
  rw [i3, aA, KR, Es]
  have u : (p ++ Y1) ++ y :: ((X2 ++ (m ++ X1)) ++ x :: (Y2 ++ q)) = p ++ ((Y1 ++ [y]) ++ (X2 ++ (m ++ ((X1 ++ [x]) ++ (Y2 ++ q))))) := by simp
  rw [u, ih (X1 ++ [x]) X2 (Y1 ++ [y]) Y2 n _ h1 d (by simp; omega) (by omega) (by simp; omega) rfl (by rw [l]; simp; omega) ha (by rw [r]; simp; omega)]
  simp
theorem Kl (p m q X Y : List Formula) (a b N : Int) (h : X.length = Y.length) (i : (p ++ (X ++ (m ++ (Y ++ q)))).length ≤ 1000000) (j : N = (X.length : Int)) (ha : a = (p.length : Int)) (l : b = ((p.length + X.length + m.length : Nat) : Int)) :
  mr (p ++ (X ++ (m ++ (Y ++ q)))) a b N f = some (p ++ (Y ++ (m ++ (X ++ q)))) := by
 unfold mr
 have d := i
 simp only [aC] at d
 have := QE p m q a b N X.length [] X [] Y jP 0 rfl h.symm rfl (by rw [lN]; omega) (by simpa using i) rfl (by simpa using j) ha (by rw [l]; simp)
 simpa using this
theorem QR (M : Int) : ∀ (k : Nat) (A B p q : List Formula) (n : Nat) (i j : Int), A.length + B.length ≤ k → 0 < A.length → 0 < B.length → k < n → (p ++ (A ++ (B ++ q))).length ≤ 1000000 → i = (A.length : Int) → j = (B.length : Int) → M = ((p.length + A.length : Nat) : Int) →
  lU M f n (p ++ (A ++ (B ++ q))) i j = some (p ++ (B ++ (A ++ q))) := by
 intro k
 induction k with
 | zero => intro A B p q n i j h h1 w; omega
 | succ k ih =>
  intro A B p q n i j h h1 w O z d t x
  obtain ⟨n, rfl⟩ := aM (by omega : n ≠ 0)
  have b := z
  simp only [aC] at b
  rw [lU]
  by_cases he : A.length = B.length
  ·have : (i != j) = false := by rw [d, t, he]; simp
   simp only [this, aB, aG]
   have m : wi0 .i64 (M - i) = (p.length : Int) := mN _ (by omega) (by omega)
   have := Kl (f := f) p [] q A B (p.length : Int) M i he (by simpa using z) d rfl (by rw [x]; simp)
   simp only [bD] at this
   rw [m, this]; rfl
  ·have u : (i != j) = true := by rw [d, t]; simp; omega
   simp only [u, aJ]
   by_cases y : i > j
   ·simp only [y, bR, aJ]
    obtain ⟨X, Y, rfl, L⟩ := uS (l := A) (n := B.length) (by omega)
    simp only [aC] at d h x b
    have m : wi0 .i64 (M - i) = (p.length : Int) := mN _ (by omega) (by omega)
    have s := Kl (f := f) p Y q X B (p.length : Int) M j (by omega) (by simp; omega) (by omega) rfl (by omega)
    have r : p ++ (X ++ Y ++ (B ++ q)) = p ++ (X ++ (Y ++ (B ++ q))) := by simp
    have v : wi0 .i64 (i - j) = (Y.length : Int) := mN _ (by omega) (by omega)
    rw [r, m, s, aA, v]
    have E : p ++ (B ++ (Y ++ (X ++ q))) = (p ++ B) ++ (Y ++ (X ++ q)) := by simp
    rw [E, ih Y X (p ++ B) q n _ j (by omega) (by omega) (by omega) (by omega) (by simp; omega) rfl (by omega) (by simp; omega)]
    simp
   ·simp only [y, bT, aB, aG]
    obtain ⟨Z, V, rfl, G⟩ := uS (l := B) (n := B.length - A.length) (by omega)
    simp only [aC] at t h b G w he
    have m : wi0 .i64 (M - i) = (p.length : Int) := mN _ (by omega) (by omega)
    have I : wi0 .i64 (M + j) = ((p.length + A.length + (Z.length + V.length) : Nat) : Int) := mN _ (by omega) (by omega)
    have J : wi0 .i64 (((p.length + A.length + (Z.length + V.length) : Nat) : Int) - i) = ((p.length + A.length + Z.length : Nat) : Int) := mN _ (by omega) (by omega)
    have s := Kl (f := f) p Z q A V (p.length : Int) ((p.length + A.length + Z.length : Nat) : Int) i (by omega) (by simp; omega) d rfl rfl
    have r : p ++ (A ++ (Z ++ V ++ q)) = p ++ (A ++ (Z ++ (V ++ q))) := by simp
    have v : wi0 .i64 (j - i) = (Z.length : Int) := mN _ (by omega) (by omega)
    rw [r, m, I, J, s, aA, v]
    rw [show p ++ (V ++ (Z ++ (A ++ q))) = p ++ (V ++ (Z ++ (A ++ q))) from rfl, ih V Z p (A ++ q) n i _ (by omega) (by omega) (by omega) (by omega) (by simp; omega) (by omega) rfl (by omega)]
    simp
theorem Sw (A B p q : List Formula) (a m b : Int) (h1 : 0 < A.length) (i : 0 < B.length) (h : (p ++ (A ++ (B ++ q))).length ≤ 1000000) (ha : a = (p.length : Int)) (hm : m = ((p.length + A.length : Nat) : Int)) (j : b = ((p.length + A.length + B.length : Nat) : Int)) :
  me (p ++ (A ++ (B ++ q))) a m b f = some (p ++ (B ++ (A ++ q))) := by
 unfold me
 have d := h
 simp only [aC] at d
 rw [mN A.length (by omega) (by omega), mN B.length (by omega) (by omega)]
 exact QR m (A.length + B.length) A B p q jP _ _ (aR _) h1 i (by rw [lN]; omega) h rfl rfl hm
end
section
variable {c : Formula → Formula → Int} {G : Formula → Prop} {f : Formula × Formula → Option Int}
theorem BQ {x : Int} (n : Nat) (h : x = (n : Int)) (d : n ≤ 4000000) : wi0 .i64 (Int.fdiv (IntKind.u64.wrap (wi0 .i64 x)) (2 ^ min (Int.toNat 1) (IntKind.bits .u64))) = ((n / 2 : Nat) : Int) := by
 rw [mN n h d]
 have b : IntKind.u64.wrap (n : Int) = (n : Int) := by
  simp only [IntKind.wrap, IntKind.signed, IntKind.bits]
  simp
  omega
 rw [b, show (2 ^ min (Int.toNat 1) (IntKind.bits .u64) : Int) = 2 from by decide, Int.fdiv_eq_ediv_of_nonneg _ (by decide), jZ (by omega) (by omega)]
 omega
abbrev Ask (a0 : List Formula) (f : Formula × Formula → Option Int) (p q : Int) (b : Bool) : Prop := ∃ x y r, kF a0 p = some x ∧ kF a0 q = some y ∧ f (x, y) = some r ∧ decide (r < 0) = b
theorem Sg (a0 : List Formula) (u : Int) (l : Nat → Bool) (lo b : Nat) (M : b ≤ 1000000) (z : ∀ h, lo ≤ h → h < b → Ask a0 f (h : Int) u (l h)) : ∀ (d n i j : Nat), j - i ≤ d → d < n → lo ≤ i → i ≤ j → j ≤ b → (i = lo ∨ l (i - 1) = true) → (j = b ∨ l j = false) →
  ∃ t P, lo ≤ t ∧ t ≤ b ∧ (t = lo ∨ l (t - 1) = true) ∧ (t = b ∨ l t = false) ∧ kA a0 u f n (i : Int) (j : Int) = kA a0 u f (P + 1) (t : Int) (t : Int) := by
 intro d
 induction d with
 | zero =>
  intro n i j h1 O m J p q s
  obtain ⟨n, rfl⟩ := aM (by omega : n ≠ 0)
  obtain rfl : i = j := by omega
  exact ⟨i, n, m, p, q, s, rfl⟩
 | succ d ih =>
  intro n i j h1 O m J p q s
  obtain ⟨n, rfl⟩ := aM (by omega : n ≠ 0)
  by_cases v : i = j
  ·subst v; exact ⟨i, n, m, p, q, s, rfl⟩
  have L := BQ (i + j) (x := (i : Int) + (j : Int)) (by omega) (by omega)
  obtain ⟨x, y, r, A, E, G, I⟩ := z ((i + j) / 2) (by omega) (by omega)
  rw [kA]
  have w : ((i : Int) < (j : Int)) := by omega
  simp only [w, bR, aJ, L, A, E, G, I, aA]
  cases hp : l ((i + j) / 2)
  ·simp only [aB, aG]
   exact ih n i ((i + j) / 2) (by omega) (by omega) m (by omega) (by omega) q (.inr hp)
  ·simp only [aJ]
   rw [mN ((i + j) / 2 + 1) (by omega) (by omega)]
   exact ih n ((i + j) / 2 + 1) j (by omega) (by omega) (by omega) (by omega) p (.inr (by simpa using hp)) s
theorem SE (a0 : List Formula) (a2 : Int) (l : Nat → Bool) (lo b : Nat) (L : b ≤ 1000000) (w : ∀ h, lo ≤ h → h < b → Ask a0 f a2 (h : Int) (!l h)) : ∀ (d n i j : Nat), j - i ≤ d → d < n → lo ≤ i → i ≤ j → j ≤ b → (i = lo ∨ l (i - 1) = true) → (j = b ∨ l j = false) →
  ∃ t O, lo ≤ t ∧ t ≤ b ∧ (t = lo ∨ l (t - 1) = true) ∧ (t = b ∨ l t = false) ∧ kD a0 a2 f n (i : Int) (j : Int) = kD a0 a2 f (O + 1) (t : Int) (t : Int) := by
 intro d
 induction d with
 | zero =>
  intro n i j h1 M m I p q s
  obtain ⟨n, rfl⟩ := aM (by omega : n ≠ 0)
  obtain rfl : i = j := by omega
  exact ⟨i, n, m, p, q, s, rfl⟩
 | succ d ih =>
  intro n i j h1 M m I p q s
  obtain ⟨n, rfl⟩ := aM (by omega : n ≠ 0)
  by_cases u : i = j
  ·subst u; exact ⟨i, n, m, p, q, s, rfl⟩
  have J := BQ (i + j) (x := (i : Int) + (j : Int)) (by omega) (by omega)
  obtain ⟨x, y, r, z, A, E, G⟩ := w ((i + j) / 2) (by omega) (by omega)
  rw [kD]
  have v : ((i : Int) < (j : Int)) := by omega
  simp only [v, bR, aJ, J, z, A, E, G, aA, gp]
  cases hp : l ((i + j) / 2)
  ·simp only [aB, aG]
   exact ih n i ((i + j) / 2) (by omega) (by omega) m (by omega) (by omega) q (.inr hp)
  ·simp only [aJ]
   rw [mN ((i + j) / 2 + 1) (by omega) (by omega)]
   exact ih n ((i + j) / 2 + 1) j (by omega) (by omega) (by omega) (by omega) p (.inr (by simpa using hp)) s
theorem Rz (x : Formula) : ∀ (P Q R : List Formula) (n : Nat) (k i : Int), P.length < n → (Q ++ x :: (P ++ R)).length ≤ 1000000 → k = (Q.length : Int) → i = ((Q.length + P.length + 1 : Nat) : Int) → lM i n (Q ++ x :: (P ++ R)) k = some (Q ++ (P ++ x :: R))
 | [], Q, R, n, k, i, d, h, hk, b => by
  obtain ⟨n, rfl⟩ := aM (by simp at d; omega : n ≠ 0)
  simp only [aC, aH, bP] at h b
  rw [lM, mN Q.length (by omega) (by omega)]
  have : ¬ (k < (Q.length : Int)) := by omega
  simp [this]
 | y :: P, Q, R, n, k, i, d, h, hk, b => by
  obtain ⟨n, rfl⟩ := aM (by simp at d; omega : n ≠ 0)
  simp only [aC, aH] at h b d
  have l : Q ++ x :: (y :: P ++ R) = Q ++ x :: ([] ++ y :: (P ++ R)) := rfl
  have m : wi0 .i64 (k + 1) = ((Q.length + 1 + ([] : List Formula).length : Nat) : Int) := mN _ (by simp; omega) (by simp; omega)
  have i1 : kF (Q ++ x :: ([] ++ y :: (P ++ R))) ((Q.length + 1 + ([] : List Formula).length : Nat) : Int) = some y := by
   have := my (Q ++ [x]) y (P ++ R) ((Q.length + 1 + ([] : List Formula).length : Nat) : Int) (by simp)
   simpa using this
  have i2 : kF (Q ++ x :: ([] ++ y :: (P ++ R))) k = some x := my _ _ _ _ hk
  rw [lM, mN (Q.length + P.length + 1) (by omega) (by omega), l]
  have j : k < ((Q.length + P.length + 1 : Nat) : Int) := by omega
  have kn : k.toNat = Q.length := by omega
  simp only [j, bR, aJ, m, i1, i2, aA, kn]
  have i3 : kF ((Q ++ x :: ([] ++ y :: (P ++ R))).set Q.length y) ((Q.length + 1 + ([] : List Formula).length : Nat) : Int) = some y := by
   rw [DN]
   have := my (Q ++ [y]) y (P ++ R) ((Q.length + 1 + ([] : List Formula).length : Nat) : Int) (by simp)
   simpa using this
  rw [i3, aA, dp, KR, Es]
  have := Rz x P (Q ++ [y]) R n ((Q.length + 1 + ([] : List Formula).length : Nat) : Int) i (by omega) (by simp; omega) (by simp) (by rw [b]; simp; omega)
  simpa using this
theorem Sx (x : Formula) : ∀ (k : Nat) (S Q R : List Formula) (n : Nat) (j i : Int), S.length = k → k < n → (Q ++ (S ++ x :: R)).length ≤ 1000000 → j = ((Q.length + S.length : Nat) : Int) → i = (Q.length : Int) → lL i n (Q ++ (S ++ x :: R)) j = some (Q ++ x :: (S ++ R)) := by
 intro k
 induction k with
 | zero =>
  intro S Q R n j i hk q m b l
  obtain ⟨n, rfl⟩ := aM (by omega : n ≠ 0)
  obtain rfl := aO hk
  rw [lL]
  simp only [bP, gb] at b
  have : ¬ (j > i) := by omega
  simp [this]
 | succ k ih =>
  intro S Q R n j i hk q m b l
  obtain ⟨n, rfl⟩ := aM (by omega : n ≠ 0)
  rcases cX S with rfl | ⟨S, z, rfl⟩
  ·simp at hk
  simp only [dH, aC, aH, bP] at hk b m ⊢
  have p : Q ++ (S ++ [z] ++ x :: R) = (Q ++ S) ++ z :: ([] ++ x :: R) := by simp
  have s : wi0 .i64 (j - 1) = ((Q ++ S).length : Int) := mN _ (by simp; omega) (by simp; omega)
  have d : j = (((Q ++ S).length + 1 + ([] : List Formula).length : Nat) : Int) := by rw [b]; simp; omega
  have i1 : kF ((Q ++ S) ++ z :: ([] ++ x :: R)) j = some x := by
   have := my (Q ++ S ++ [z]) x R j (by rw [d]; simp; omega)
   simpa using this
  have i2 : kF ((Q ++ S) ++ z :: ([] ++ x :: R)) ((Q ++ S).length : Int) = some z := my _ _ _ _ rfl
  rw [lL, p]
  have h : j > i := by omega
  have r : j.toNat = (Q ++ S).length + 1 + ([] : List Formula).length := by omega
  simp only [h, bR, aJ, s, i1, i2, aA, r]
  have i3 : kF (((Q ++ S) ++ z :: ([] ++ x :: R)).set ((Q ++ S).length + 1 + ([] : List Formula).length) z) ((Q ++ S).length : Int) = some z := by
   have : ((Q ++ S) ++ z :: ([] ++ x :: R)).set ((Q ++ S).length + 1 + ([] : List Formula).length) z = (Q ++ S) ++ z :: (z :: R) := by
    have := IX (Q ++ S ++ [z]) R x z ((Q ++ S).length + 1 + ([] : List Formula).length) (by simp; omega)
    simpa using this
   rw [this]; exact my _ _ _ _ rfl
  rw [i3, aA, dp, KR, Lt]
  have := ih S Q (z :: R) n ((Q ++ S).length : Int) i (by omega) (by omega) (by simp; omega) (by simp) l
  simpa using this
end
section
variable {c : Formula → Formula → Int} {G : Formula → Prop} {f : Formula × Formula → Option Int}
theorem RI (a0 : List Formula) (s a3 a2 : Int) (rec : List Formula → Int → Int → Int → ((Formula × Formula) → Option Int) → Option (List Formula)) (mid m p : Nat) (u : s + a3 = ((2 * mid : Nat) : Int) ∨ s + a3 = ((2 * mid + 1 : Nat) : Int)) (hm : a2 = (m : Int)) (hp : p + 1 = mid + m) (q : Nat → Bool) (lo b : Nat) (T : b ≤ 1000000) (W : mid ≤ 1000000) (U : mid + m ≤ 2000000) (hle : b ≤ p + 1) (J : ∀ h, lo ≤ h → h < b → Ask a0 f ((p - h : Nat) : Int) (h : Int) (!q h)) : ∀ (d n i j : Nat), j - i ≤ d → d < n → lo ≤ i → i ≤ j → j ≤ b → (i = lo ∨ q (i - 1) = true) → (j = b ∨ q j = false) →
  ∃ t Z, lo ≤ t ∧ t ≤ b ∧ (t = lo ∨ q (t - 1) = true) ∧ (t = b ∨ q t = false) ∧ kh a0 s a3 a2 f rec n (i : Int) (j : Int) = kh a0 s a3 a2 f rec (Z + 1) (t : Int) (t : Int) := by
 have l : wi0 .i64 (Int.fdiv (IntKind.u64.wrap (wi0 .i64 (s + a3))) (2 ^ min (Int.toNat 1) (IntKind.bits .u64))) = (mid : Int) := by
  rcases u with h | h
  ·rw [BQ _ h (by omega), show 2 * mid / 2 = mid by omega]
  ·rw [BQ _ h (by omega), show (2 * mid + 1) / 2 = mid by omega]
 intro d
 induction d with
 | zero =>
  intro n i j h1 Y w Q z A E
  obtain ⟨n, rfl⟩ := aM (by omega : n ≠ 0)
  obtain rfl : i = j := by omega
  exact ⟨i, n, w, z, A, E, rfl⟩
 | succ d ih =>
  intro n i j h1 Y w Q z A E
  obtain ⟨n, rfl⟩ := aM (by omega : n ≠ 0)
  by_cases G : i = j
  ·subst G; exact ⟨i, n, w, z, A, E, rfl⟩
  have R := BQ (i + j) (x := (i : Int) + (j : Int)) (by omega) (by omega)
  obtain ⟨x, y, r, L, M, O, P⟩ := J ((i + j) / 2) (by omega) (by omega)
  have w1 : wi0 .i64 ((mid : Int) + a2) = ((mid + m : Nat) : Int) := mN _ (by omega) (by omega)
  have w2 : wi0 .i64 (((mid + m : Nat) : Int) - 1) = (p : Int) := mN _ (by omega) (by omega)
  have w3 : wi0 .i64 ((p : Int) - (((i + j) / 2 : Nat) : Int)) = ((p - (i + j) / 2 : Nat) : Int) := mN _ (by omega) (by omega)
  rw [kh]
  have I : ((i : Int) < (j : Int)) := by omega
  simp only [I, bR, aJ, R, l, w1, w2, w3, L, M, O, P, aA, gp]
  cases v : q ((i + j) / 2)
  ·simp only [aB, aG]
   exact ih n i ((i + j) / 2) (by omega) (by omega) w (by omega) (by omega) A (.inr v)
  ·simp only [aJ]
   rw [mN ((i + j) / 2 + 1) (by omega) (by omega)]
   exact ih n ((i + j) / 2 + 1) j (by omega) (by omega) (by omega) (by omega) z (.inr (by simpa using v)) E
theorem Qw (a0 : List Formula) (d a3 a2 : Int) (rec : List Formula → Int → Int → Int → ((Formula × Formula) → Option Int) → Option (List Formula)) (mid m t n : Nat) (i : d + a3 = ((2 * mid : Nat) : Int) ∨ d + a3 = ((2 * mid + 1 : Nat) : Int)) (hm : a2 = (m : Int)) (w : mid ≤ 1000000) (v : mid + m ≤ 2000000) (G : t ≤ mid + m) :
  kh a0 d a3 a2 f rec (n + 1) (t : Int) (t : Int) =
   ((if t < m ∧ m < mid + m - t then me a0 (t : Int) a2 ((mid + m - t : Nat) : Int) f else some a0).bind fun l => ((if d < (t : Int) ∧ t < mid then rec l d (t : Int) (mid : Int) f else some l).bind fun l => if mid < mid + m - t ∧ ((mid + m - t : Nat) : Int) < a3 then rec l (mid : Int) ((mid + m - t : Nat) : Int) a3 f else some l)) := by
 have b : wi0 .i64 (Int.fdiv (IntKind.u64.wrap (wi0 .i64 (d + a3))) (2 ^ min (Int.toNat 1) (IntKind.bits .u64))) = (mid : Int) := by
  rcases i with h | h
  ·rw [BQ _ h (by omega), show 2 * mid / 2 = mid by omega]
  ·rw [BQ _ h (by omega), show (2 * mid + 1) / 2 = mid by omega]
 have z : wi0 .i64 ((mid : Int) + a2) = ((mid + m : Nat) : Int) := mN _ (by omega) (by omega)
 have E : wi0 .i64 (((mid + m : Nat) : Int) - (t : Int)) = ((mid + m - t : Nat) : Int) := mN _ (by omega) (by omega)
 rw [kh]
 simp only [Int.lt_irrefl, bT, aB, aG, b, z, E, nK]
 subst hm
 have j : ((t : Int) < (m : Int)) = (t < m) := by simp
 have r : ((m : Int) < ((mid + m - t : Nat) : Int)) = (m < mid + m - t) := by rw [fS]; omega
 have s : ((t : Int) < (mid : Int)) = (t < mid) := by simp
 have u : ((mid : Int) < ((mid + m - t : Nat) : Int)) = (mid < mid + m - t) := by rw [fS]; omega
 simp only [j, r, s, u]
 have key : ∀ (p q : Prop) [Decidable p] [Decidable q] (A B : Option (List Formula)), ((if decide p = true then some (decide q) else some false : Option Bool).bind fun x => if x = true then A else B) = if p ∧ q then A else B := by
  intro p q _ _ A B
  by_cases hp : p <;> by_cases y : q <;> simp [hp, y]
 simp only [key]
theorem La (p A q : List Formula) (h : Nat) (d : p.length ≤ h) (h1 : h < p.length + A.length) : ∃ x, A[h - p.length]? = some x ∧ kF (p ++ (A ++ q)) (h : Int) = some x := by
 obtain ⟨x, b⟩ : ∃ x, A[h - p.length]? = some x := ⟨_, dC (by omega)⟩
 refine ⟨x, b, ?_⟩
 rw [DQ, eF d, fD (by omega), b]
end
section
variable {c : Formula → Formula → Int} {G : Formula → Prop} {f : Formula × Formula → Option Int}
theorem Ch {α : Type} {P A' : List α} {z : α} (S : List α) (h : P = A' ++ [z]) : (P ++ S)[P.length - 1]? = some z := by subst h; simp
theorem BY {α : Type} {S B' : List α} {z : α} (P : List α) (h : S = z :: B') : (P ++ S)[P.length]? = some z := by subst h; simp
theorem wP {A : List (Formula × Nat)} {i : Nat} {z : Formula × Nat} (h : A[i]? = some z) : (A.map (·.1))[i]? = some z.1 := by simp [h]
theorem Rc (h : SWO (mO c)) (U : Bq f c G) (x : Formula × Nat) (B : List (Formula × Nat)) (pre post : List Formula) (a m b : Int) (M : nB (mO c) B) (Z : ∀ y ∈ B, x.2 < y.2) (A : ∀ y ∈ x :: B, G y.1) (W : (pre ++ x.1 :: (B.map (·.1) ++ post)).length ≤ 400000) (ha : a = (pre.length : Int)) (hm : m = ((pre.length + 1 : Nat) : Int)) (T : b = ((pre.length + 1 + B.length : Nat) : Int)) :
  ∃ u, kA (pre ++ x.1 :: (B.map (·.1) ++ post)) a f jP m b = some (pre ++ (u.map (·.1) ++ post)) ∧ nB (mO c) u ∧ u.Perm (x :: B) := by
 have s := W
 simp only [aC, aH, cZ] at s
 let i : Nat → Bool := fun k => match (B.map (·.1))[k - (pre.length + 1)]? with | some y => mO c y x.1 | none => false
 have p : ∀ k, pre.length + 1 ≤ k → k < pre.length + 1 + B.length → Ask (pre ++ x.1 :: (B.map (·.1) ++ post)) f (k : Int) a (i k) := by
  intro k h1 h2
  obtain ⟨y, v, E⟩ := La (pre ++ [x.1]) (B.map (·.1)) post k (by simp; omega) (by simp; omega)
  have I : kF (pre ++ x.1 :: (B.map (·.1) ++ post)) (k : Int) = some y := by simpa using E
  have J : kF (pre ++ x.1 :: (B.map (·.1) ++ post)) a = some x.1 := my _ _ _ _ ha
  have hy : G y := by
   obtain ⟨q, Y, rfl⟩ := bH.1 (cT v)
   exact A q (by simp [Y])
  refine ⟨y, x.1, _, I, J, U y x.1 hy (A x (by simp)), ?_⟩
  simp only [aC, aH, bP] at v
  simp only [i, v]
 obtain ⟨t, n', t1, t2, t3, t4, e⟩ := Sg (f := f) _ a i (pre.length + 1) (pre.length + 1 + B.length) (by omega) p B.length jP (pre.length + 1) (pre.length + 1 + B.length) (by omega) (by rw [lN]; omega) (aR _) (by omega) (aR _) (.inl rfl) (.inl rfl)
 rw [hm, T, e, kA]
 simp only [Int.lt_irrefl, bT, aB, aG, nK]
 obtain ⟨P, S, rfl, O⟩ := uS (l := B) (n := t - (pre.length + 1)) (by omega)
 simp only [aC] at s t2 t4
 have L : pre ++ x.1 :: ((P ++ S).map (·.1) ++ post) = pre ++ x.1 :: (P.map (·.1) ++ (S.map (·.1) ++ post)) := by simp
 rw [L, Rz x.1 (P.map (·.1)) pre (S.map (·.1) ++ post) jP a (t : Int) (by rw [lN]; simp; omega) (by simp; omega) ha (by simp; omega)]
 refine ⟨P ++ x :: S, by simp, Gu h M ?_ ?_, eE⟩
 ·intro A' z w B' j d
  simp only [aT] at d
  rw [← d.1]
  have Q : 0 < P.length := by rw [j]; simp
  have hp : i (t - 1) = true := by
   rcases t3 with t3 | t3
   ·omega
   ·exact t3
  have r := wP (Ch S j)
  rw [show P.length - 1 = t - 1 - (pre.length + 1) by omega] at r
  simp only [i, r] at hp
  exact .inl hp
 ·intro A' z w B' j d
  have hz : z = x := by
   cases A' with
   | nil => simpa using j.symm
   | cons _ A' => simp at j
  rw [hz]
  have R : 0 < S.length := by rw [d]; simp
  have hp : i t = false := by
   rcases t4 with t4 | t4
   ·omega
   ·exact t4
  have r := wP (BY P d)
  rw [O] at r
  simp only [i, r] at hp
  exact .inr ⟨hp, Z w (by rw [d]; simp)⟩
theorem Rr (h : SWO (mO c)) (R : Bq f c G) (y : Formula × Nat) (A : List (Formula × Nat)) (pre post : List Formula) (a m : Int) (L : nB (mO c) A) (W : ∀ x ∈ A, x.2 < y.2) (v : ∀ x ∈ y :: A, G x.1) (T : (pre ++ (A.map (·.1) ++ y.1 :: post)).length ≤ 400000) (ha : a = (pre.length : Int)) (hm : m = ((pre.length + A.length : Nat) : Int)) :
  ∃ u, kD (pre ++ (A.map (·.1) ++ y.1 :: post)) m f jP a m = some (pre ++ (u.map (·.1) ++ post)) ∧ nB (mO c) u ∧ u.Perm (A ++ [y]) := by
 have r := T
 simp only [aC, aH, cZ] at r
 let i : Nat → Bool := fun k => match (A.map (·.1))[k - pre.length]? with | some x => !mO c y.1 x | none => false
 have j : ∀ k, pre.length ≤ k → k < pre.length + A.length → Ask (pre ++ (A.map (·.1) ++ y.1 :: post)) f m (k : Int) (!i k) := by
  intro k h1 h2
  obtain ⟨x, s, E⟩ := La pre (A.map (·.1)) (y.1 :: post) k h1 (by simp; omega)
  have I : kF (pre ++ (A.map (·.1) ++ y.1 :: post)) m = some y.1 := by
   have := my (pre ++ A.map (·.1)) y.1 post m (by rw [hm]; simp)
   simpa using this
  have Y : G x := by
   obtain ⟨q, U, rfl⟩ := bH.1 (cT s)
   exact v q (by simp [U])
  refine ⟨y.1, x, _, I, E, R y.1 x (v y (by simp)) Y, ?_⟩
  simp only [i, s, gp]
 obtain ⟨t, n', t1, t2, t3, t4, e⟩ := SE (f := f) _ m i pre.length (pre.length + A.length) (by omega) j A.length jP pre.length (pre.length + A.length) (by omega) (by rw [lN]; omega) (aR _) (by omega) (aR _) (.inl rfl) (.inl rfl)
 rw [← hm, ← ha] at e
 rw [e, kD]
 simp only [Int.lt_irrefl, bT, aB, aG, nK]
 obtain ⟨P, S, rfl, M⟩ := uS (l := A) (n := t - pre.length) (by omega)
 simp only [aC] at r t2 t4 hm
 have J : pre ++ ((P ++ S).map (·.1) ++ y.1 :: post) = (pre ++ P.map (·.1)) ++ (S.map (·.1) ++ y.1 :: post) := by simp
 rw [J, Sx y.1 S.length (S.map (·.1)) (pre ++ P.map (·.1)) post jP m (t : Int) (by simp) (by rw [lN]; omega) (by simp; omega) (by rw [hm]; simp; omega) (by simp; omega)]
 refine ⟨P ++ y :: S, by simp, Gu h L ?_ ?_, List.perm_middle.trans (fw y (P ++ S)).symm⟩
 ·intro A' z w B' b d
  simp only [aT] at d
  rw [← d.1]
  have O : 0 < P.length := by rw [b]; simp
  have hp : i (t - 1) = true := by
   rcases t3 with t3 | t3
   ·omega
   ·exact t3
  have p := wP (Ch S b)
  rw [show P.length - 1 = t - 1 - pre.length by omega] at p
  simp only [i, p, fq] at hp
  exact .inr ⟨hp, W z (by rw [b]; simp)⟩
 ·intro A' z w B' b d
  have Z : z = y := by
   cases A' with
   | nil => simpa using b.symm
   | cons _ A' => simp at b
  rw [Z]
  have Q : 0 < S.length := by rw [d]; simp
  have hp : i t = false := by
   rcases t4 with t4 | t4
   ·omega
   ·exact t4
  have p := wP (BY P d)
  rw [M] at p
  simp only [i, p, Bool.not_eq_false'] at hp
  exact .inl hp
theorem MO {α : Type} {A1 A2 B1 B2 C1 C2 : List α} (b : C1.Perm (A1 ++ B1)) (d : C2.Perm (A2 ++ B2)) : (C1 ++ C2).Perm ((A1 ++ A2) ++ (B1 ++ B2)) := by
 refine (b.append d).trans ?_
 simp only [aI]
 refine bV A1 ?_
 exact fp B1 A2 B2
def Oa (c : Formula → Formula → Int) (A B : List Formula) (b d p q : Nat) : Bool := match A[q - b]?, B[p - q - d]? with | some x, some y => !mO c y x | _, _ => false
theorem HP {A B : List Formula} {b d p q : Nat} {x y : Formula} (h1 : A[q - b]? = some x) (h : B[p - q - d]? = some y) : Oa c A B b d p q = !mO c y x := by simp only [Oa, h1, h]
theorem RX (r : Bq f c G) (A B : List (Formula × Nat)) (pre post : List Formula) (b p : Nat) (s : b = pre.length + A.length) (j : ∀ x ∈ A ++ B, G x.1) (q : Nat) (v : pre.length ≤ q) (w : q < b) (E : b ≤ p - q) (I : p - q < b + B.length) :
  Ask (pre ++ (A.map (·.1) ++ (B.map (·.1) ++ post))) f ((p - q : Nat) : Int) (q : Int) (!Oa c (A.map (·.1)) (B.map (·.1)) pre.length b p q) := by
 obtain ⟨x, i, l⟩ := La pre (A.map (·.1)) (B.map (·.1) ++ post) q v (by simp; omega)
 obtain ⟨y, d, m⟩ := La (pre ++ A.map (·.1)) (B.map (·.1)) post (p - q) (by simp; omega) (by simp; omega)
 have t : G x := by
  obtain ⟨z, h, rfl⟩ := bH.1 (cT i)
  exact j z (by simp [h])
 have u : G y := by
  obtain ⟨z, h, rfl⟩ := bH.1 (cT d)
  exact j z (by simp [h])
 have n : kF (pre ++ (A.map (·.1) ++ (B.map (·.1) ++ post))) ((p - q : Nat) : Int) = some y := by simpa using m
 refine ⟨y, x, _, n, l, r y x u t, ?_⟩
 rw [show p - q - (pre ++ A.map (·.1)).length = p - q - b by simp; omega] at d
 rw [HP i d, gp]
abbrev Sj (c : Formula → Formula → Int) (G : Formula → Prop) (f : Formula × Formula → Option Int) (rec : List Formula → Int → Int → Int → ((Formula × Formula) → Option Int) → Option (List Formula)) (k : Nat) : Prop :=
 ∀ (A B : List (Formula × Nat)) (pre post : List Formula) (a m b : Int), A.length + B.length ≤ k → 0 < A.length → 0 < B.length → nB (mO c) A → nB (mO c) B →
  (∀ x ∈ A, ∀ y ∈ B, x.2 < y.2) → (∀ x ∈ A ++ B, G x.1) → (pre ++ (A.map (·.1) ++ (B.map (·.1) ++ post))).length ≤ 400000 → a = (pre.length : Int) → m = ((pre.length + A.length : Nat) : Int) → b = ((pre.length + A.length + B.length : Nat) : Int) →
  ∃ u, rec (pre ++ (A.map (·.1) ++ (B.map (·.1) ++ post))) a m b f = some (pre ++ (u.map (·.1) ++ post)) ∧ nB (mO c) u ∧ u.Perm (A ++ B)
theorem Qi (h : SWO (mO c)) {rec : List Formula → Int → Int → Int → ((Formula × Formula) → Option Int) → Option (List Formula)} {k : Nat} (ih : Sj c G f rec k) (A1 A2 B1 B2 : List (Formula × Nat)) (pre post : List Formula) (a m b : Int) (mid d t : Nat) (Q : d = pre.length + (A1.length + A2.length)) (T : mid = (pre.length + (d + (B1.length + B2.length))) / 2) (O : A1.length = t - pre.length) (P : B1.length = mid - t) (U : pre.length ≤ t) (W : t ≤ mid) (Y : t ≤ d) (hk : A1.length + A2.length + (B1.length + B2.length) ≤ k + 1) (R : 2 ≤ A1.length + A2.length + (B1.length + B2.length)) (q : nB (mO c) (A1 ++ A2)) (r : nB (mO c) (B1 ++ B2)) (M : ∀ x ∈ A1 ++ A2, ∀ y ∈ B1 ++ B2, x.2 < y.2) (L : ∀ x ∈ (A1 ++ A2) ++ (B1 ++ B2), G x.1) (hl : pre.length + (A1.length + A2.length + (B1.length + B2.length + post.length)) ≤ 400000) (ha : a = (pre.length : Int)) (hm : m = (d : Int)) (hb : b = ((d + (B1.length + B2.length) : Nat) : Int)) (Z : Lk (mO c) A1 B2) (l2 : Lk (mO c) B1 A2) :
  ∃ u, ((if t < d ∧ d < mid + d - t then me (pre ++ ((A1 ++ A2).map (·.1) ++ ((B1 ++ B2).map (·.1) ++ post))) (t : Int) m ((mid + d - t : Nat) : Int) f else some (pre ++ ((A1 ++ A2).map (·.1) ++ ((B1 ++ B2).map (·.1) ++ post)))).bind fun l =>
   ((if a < (t : Int) ∧ t < mid then rec l a (t : Int) (mid : Int) f else some l).bind fun l => if mid < mid + d - t ∧ ((mid + d - t : Nat) : Int) < b then rec l (mid : Int) ((mid + d - t : Nat) : Int) b f else some l)) = some (pre ++ (u.map (·.1) ++ post)) ∧ nB (mO c) u ∧ u.Perm ((A1 ++ A2) ++ (B1 ++ B2)) := by
 have r1 : (if t < d ∧ d < mid + d - t then me (pre ++ ((A1 ++ A2).map (·.1) ++ ((B1 ++ B2).map (·.1) ++ post))) (t : Int) m ((mid + d - t : Nat) : Int) f else some (pre ++ ((A1 ++ A2).map (·.1) ++ ((B1 ++ B2).map (·.1) ++ post)))) =
   some (pre ++ (A1.map (·.1) ++ (B1.map (·.1) ++ (A2.map (·.1) ++ (B2.map (·.1) ++ post))))) := by
  by_cases j : t < d ∧ d < mid + d - t
  ·rw [aZ j]
   have := Sw (f := f) (A2.map (·.1)) (B1.map (·.1)) (pre ++ A1.map (·.1)) (B2.map (·.1) ++ post) (t : Int) m ((mid + d - t : Nat) : Int) (by simp; omega) (by simp; omega) (by simp; omega) (by simp; omega) (by simp; omega) (by simp; omega)
   simpa using this
  ·rw [aY j]
   have : A2 = [] ∨ B1 = [] := by
    by_cases h1 : A2.length = 0
    ·exact .inl (aO h1)
    ·exact .inr (aO (by omega))
   rcases this with rfl | rfl <;> simp
 rw [r1, aA]
 have r2 : ∃ C1, (if a < (t : Int) ∧ t < mid then rec (pre ++ (A1.map (·.1) ++ (B1.map (·.1) ++ (A2.map (·.1) ++ (B2.map (·.1) ++ post))))) a (t : Int) (mid : Int) f else some (pre ++ (A1.map (·.1) ++ (B1.map (·.1) ++ (A2.map (·.1) ++ (B2.map (·.1) ++ post)))))) =
   some (pre ++ (C1.map (·.1) ++ (A2.map (·.1) ++ (B2.map (·.1) ++ post)))) ∧ nB (mO c) C1 ∧ C1.Perm (A1 ++ B1) := by
  by_cases j : a < (t : Int) ∧ t < mid
  ·rw [aZ j]
   exact ih A1 B1 pre (A2.map (·.1) ++ (B2.map (·.1) ++ post)) a t mid (by omega) (by omega) (by omega) q.left r.left (fun x i y E => M x (by simp [i]) y (by simp [E])) (fun x i => L x (by simp at i ⊢; rcases i with i | i <;> simp [i]))
    (by simp; omega) ha (by omega) (by omega)
  ·rw [aY j]
   refine ⟨A1 ++ B1, by simp, HR h q.left r.left (fun A' x y B' I J => ?_), .refl _⟩
   have g1 : 0 < A1.length := by rw [I]; simp
   have g2 : 0 < B1.length := by rw [J]; simp
   omega
 obtain ⟨C1, s, w, n⟩ := r2
 have v := n.length_eq
 simp only [aC] at v
 rw [s, aA]
 have r3 : ∃ C2, (if mid < mid + d - t ∧ ((mid + d - t : Nat) : Int) < b then rec (pre ++ (C1.map (·.1) ++ (A2.map (·.1) ++ (B2.map (·.1) ++ post)))) (mid : Int) ((mid + d - t : Nat) : Int) b f else some (pre ++ (C1.map (·.1) ++ (A2.map (·.1) ++ (B2.map (·.1) ++ post))))) =
   some ((pre ++ C1.map (·.1)) ++ (C2.map (·.1) ++ post)) ∧ nB (mO c) C2 ∧ C2.Perm (A2 ++ B2) := by
  by_cases j : mid < mid + d - t ∧ ((mid + d - t : Nat) : Int) < b
  ·rw [aZ j]
   have := ih A2 B2 (pre ++ C1.map (·.1)) post mid ((mid + d - t : Nat) : Int) b (by omega) (by omega) (by omega) q.right r.right (fun x i y E => M x (by simp [i]) y (by simp [E])) (fun x i => L x (by simp at i ⊢; rcases i with i | i <;> simp [i]))
    (by simp; omega) (by simp; omega) (by simp; omega) (by simp; omega)
   simpa using this
  ·rw [aY j]
   refine ⟨A2 ++ B2, by simp, HR h q.right r.right (fun A' x y B' I J => ?_), .refl _⟩
   have g1 : 0 < A2.length := by rw [I]; simp
   have g2 : 0 < B2.length := by rw [J]; simp
   omega
 obtain ⟨C2, z, A, p⟩ := r3
 rw [z]
 exact ⟨C1 ++ C2, by simp, O7 h q r Z l2 n p w A, MO n p⟩
theorem M3 (F : Nat) (O : 1000000 < F) (L : List Formula) (rec : List Formula → Int → Int → Int → ((Formula × Formula) → Option Int) → Option (List Formula)) (pl h i mid d p : Nat) (a b m : Int) (u : Nat → Bool) (z : 0 < h) (A : 0 < i) (I : pl + (h + i) ≤ 400000) (G : mid = (pl + (pl + h + i)) / 2) (E : d = pl + h) (hp : p + 1 = mid + d) (r : a + b = ((2 * mid : Nat) : Int) ∨ a + b = ((2 * mid + 1 : Nat) : Int)) (ha : a = (pl : Int)) (n : m = (d : Int)) (P : b = ((pl + h + i : Nat) : Int)) (j : ∀ q, pl ≤ q → q < d → d ≤ p - q → p - q < d + i → Ask L f ((p - q : Nat) : Int) (q : Int) (!u q)) :
  ∃ t s lo v : Nat, (lo = pl ∧ v = d ∧ d ≤ mid ∨ lo + (pl + h + i) = mid + d ∧ v = mid ∧ mid < d) ∧ lo ≤ t ∧ t ≤ v ∧ (t = lo ∨ u (t - 1) = true) ∧ (t = v ∨ u t = false) ∧
    ((if decide (m > (mid : Int)) then some (wi0 .i64 (((mid + d : Nat) : Int) - b), (mid : Int)) else some (a, m) : Option (Int × Int)).bind fun x => kh L a b m f rec F x.1 x.2) =
     kh L a b m f rec (s + 1) (t : Int) (t : Int) := by
 by_cases y : mid < d
 ·obtain ⟨lo, w⟩ : ∃ lo : Nat, lo + (pl + h + i) = mid + d := ⟨mid + d - (pl + h + i), by omega⟩
  obtain ⟨t, s, t1, t2, t3, t4, e⟩ := RI (f := f) L a b m rec mid d p r n hp u lo mid (by omega) (by omega) (by omega) (by omega) (fun q J M => j q (by omega) (by omega) (by omega) (by omega))
   (mid - lo) F lo mid (aR _) (by omega) (aR _) (by omega) (aR _) (.inl rfl) (.inl rfl)
  refine ⟨t, s, lo, mid, .inr ⟨w, rfl, y⟩, t1, t2, t3, t4, ?_⟩
  have l : m > (mid : Int) := by omega
  simp only [l, bR, aJ, aA]
  rw [mN lo (by omega) (by omega), e]
 ·obtain ⟨t, s, t1, t2, t3, t4, e⟩ := RI (f := f) L a b m rec mid d p r n hp u pl d (by omega) (by omega) (by omega) (by omega) (fun q J M => j q (by omega) (by omega) (by omega) (by omega))
   (d - pl) F pl d (aR _) (by omega) (aR _) (by omega) (aR _) (.inl rfl) (.inl rfl)
  refine ⟨t, s, pl, d, .inl ⟨rfl, rfl, by omega⟩, t1, t2, t3, t4, ?_⟩
  have l : ¬ (m > (mid : Int)) := by omega
  simp only [l, bT, aB, aG, aA]
  rw [← e, ← ha, ← n]
set_option maxHeartbeats 2000000 in
theorem R0 (h : SWO (mO c)) (hf : Bq f c G) : ∀ (k : Nat) (A B : List (Formula × Nat)) (pre post : List Formula) (n : Nat) (a m b : Int), A.length + B.length ≤ k → 0 < A.length → 0 < B.length → k < n → nB (mO c) A → nB (mO c) B →
  (∀ x ∈ A, ∀ y ∈ B, x.2 < y.2) → (∀ x ∈ A ++ B, G x.1) → (pre ++ (A.map (·.1) ++ (B.map (·.1) ++ post))).length ≤ 400000 → a = (pre.length : Int) → m = ((pre.length + A.length : Nat) : Int) → b = ((pre.length + A.length + B.length : Nat) : Int) →
  ∃ u, kL n (pre ++ (A.map (·.1) ++ (B.map (·.1) ++ post))) a m b f = some (pre ++ (u.map (·.1) ++ post)) ∧ nB (mO c) u ∧ u.Perm (A ++ B) := by
 intro k
 induction k with
 | zero => intro A B pre post n a m b h0 h1 h2; omega
 | succ k ih =>
  intro A B pre post n a m b h0 h1 h2 hn hA hB Y W hl ha hm Q
  obtain ⟨n, rfl⟩ := aM (by omega : n ≠ 0)
  have R := hl
  simp only [aC, cZ] at R
  rw [kL]
  unfold ob
  by_cases c1 : A.length = 1
  ·obtain ⟨x, rfl⟩ := List.length_eq_one_iff.1 c1
   have : (wi0 .i64 (m - a) == 1) = true := by rw [mN 1 (by simp at hm; omega) (by omega)]; rfl
   simp only [this, aJ]
   obtain ⟨u, u1, u2, u3⟩ := Rc h hf x B pre post a m b hB (fun y hy => Y x (by simp) y hy) (fun y hy => W y (by simpa using hy)) (by simpa using hl) ha (by simpa using hm) (by simpa using Q)
   exact ⟨u, by simpa using u1, u2, by simpa using u3⟩
  have n1 : (wi0 .i64 (m - a) == 1) = false := by rw [mN A.length (by omega) (by omega)]; simp; omega
  simp only [n1, aB, aG]
  by_cases c2 : B.length = 1
  ·obtain ⟨y, rfl⟩ := List.length_eq_one_iff.1 c2
   have : (wi0 .i64 (b - m) == 1) = true := by rw [mN 1 (by simp at Q; omega) (by omega)]; rfl
   simp only [this, aJ]
   obtain ⟨u, u1, u2, u3⟩ := Rr h hf y A pre post a m hA (fun x Z => Y x Z y (by simp)) (fun x Z => W x (by simp at Z ⊢; exact Z.symm)) (by simpa using hl) ha hm
   exact ⟨u, by simpa using u1, u2, u3⟩
  have n2 : (wi0 .i64 (b - m) == 1) = false := by rw [mN B.length (by omega) (by omega)]; simp; omega
  simp only [n2, aB, aG]
  obtain ⟨F, hF, a6⟩ : ∃ F, F = jP ∧ 1000000 < F := ⟨jP, rfl, by rw [lN]; omega⟩
  rw [← hF]
  obtain ⟨mid, J⟩ : ∃ mid : Nat, mid = (pre.length + (pre.length + A.length + B.length)) / 2 := ⟨_, rfl⟩
  obtain ⟨d, r⟩ : ∃ d : Nat, d = pre.length + A.length := ⟨_, rfl⟩
  obtain ⟨p, hp⟩ : ∃ p : Nat, p + 1 = mid + d := ⟨mid + d - 1, by omega⟩
  have E : a + b = ((2 * mid : Nat) : Int) ∨ a + b = ((2 * mid + 1 : Nat) : Int) := by omega
  have L : wi0 .i64 (Int.fdiv (IntKind.u64.wrap (wi0 .i64 (a + b))) (2 ^ min (Int.toNat 1) (IntKind.bits .u64))) = (mid : Int) := by
   rcases E with h | h
   ·rw [BQ _ h (by omega), show 2 * mid / 2 = mid by omega]
   ·rw [BQ _ h (by omega), show (2 * mid + 1) / 2 = mid by omega]
  have I : m = (d : Int) := by omega
  have w1 : wi0 .i64 ((mid : Int) + m) = ((mid + d : Nat) : Int) := mN _ (by omega) (by omega)
  obtain ⟨M, s⟩ : ∃ M : Nat → Bool, M = Oa c (A.map (·.1)) (B.map (·.1)) pre.length d p := ⟨_, rfl⟩
  have P : ∀ q, pre.length ≤ q → q < d → d ≤ p - q → p - q < d + B.length → Ask (pre ++ (A.map (·.1) ++ (B.map (·.1) ++ post))) f ((p - q : Nat) : Int) (q : Int) (!M q) := fun q i j q3 q4 => by rw [s]; exact RX hf A B pre post d p r W q i j q3 q4
  obtain ⟨t, n', lo, hi, a7, t1, t2, t3, t4, e⟩ := M3 (f := f) F a6 (pre ++ (A.map (·.1) ++ (B.map (·.1) ++ post))) (kL n) pre.length A.length B.length mid d p a b m M (by omega) (by omega) (by omega) J r hp E ha I Q P
  simp only [L, w1]
  rw [e, Qw (f := f) _ a b m _ mid d t n' E I (by omega) (by omega) (by omega)]
  obtain ⟨A1, A2, rfl, O⟩ := uS (l := A) (n := t - pre.length) (by omega)
  obtain ⟨B1, B2, rfl, a1⟩ := uS (l := B) (n := mid - t) (by omega)
  simp only [aC] at h0 h1 h2 R t1 t2 t3 t4 a7 hm Q r J
  have T : ∀ q x y, ((A1 ++ A2).map (·.1))[q - pre.length]? = some x → ((B1 ++ B2).map (·.1))[p - q - d]? = some y → M q = !mO c y x := fun q x y v w => by rw [s]; exact HP v w
  have l1 : Lk (mO c) A1 B2 := by
   intro A' z b' B' i j
   have g1 : 0 < A1.length := by rw [i]; simp
   have g2 : 0 < B2.length := by rw [j]; simp
   have U : M (t - 1) = true := by
    rcases t3 with t3 | t3
    ·omega
    ·exact t3
   have v := wP (Ch A2 i)
   have w := wP (BY B1 j)
   rw [show A1.length - 1 = t - 1 - pre.length by omega] at v
   rw [show B1.length = p - (t - 1) - d by omega] at w
   rw [T _ _ _ v w, fq] at U
   exact .inr ⟨U, Y z (by rw [i]; simp) b' (by rw [j]; simp)⟩
  have l2 : Lk (mO c) B1 A2 := by
   intro A' z b' B' i j
   have g1 : 0 < B1.length := by rw [i]; simp
   have g2 : 0 < A2.length := by rw [j]; simp
   have U : M t = false := by
    rcases t4 with t4 | t4
    ·omega
    ·exact t4
   have v := wP (Ch B2 i)
   have w := wP (BY A1 j)
   rw [show B1.length - 1 = p - t - d by omega] at v
   rw [O] at w
   rw [T _ _ _ w v, Bool.not_eq_false'] at U
   exact .inl U
  exact Qi h (fun A B pre post a m b i j q3 => ih A B pre post n a m b i j q3 (by omega)) A1 A2 B1 B2 pre post a m b mid d t r (by rw [J]; congr 1; omega) O a1 (by omega) (by omega) (by omega) (by omega) (by omega) hA hB Y W (by omega) ha I (by rw [Q]; congr 1; omega) l1 l2
end
section
variable {c : Formula → Formula → Int} {G : Formula → Prop} {f : Formula × Formula → Option Int}
def vL (c : Formula → Formula → Int) : Nat → List (List (Formula × Nat)) → Prop
 | _, [] => True
 | o, A :: bs => nB (mO c) A ∧ (∀ x ∈ A, o ≤ x.2 ∧ x.2 < o + A.length) ∧ vL c (o + A.length) bs
def WB (s : Nat) : List (List (Formula × Nat)) → Prop
 | [] => True
 | A :: bs => A.length ≤ s ∧ (bs ≠ [] → A.length = s) ∧ WB s bs
theorem vL.append : ∀ {ds bs : List (List (Formula × Nat))} {o : Nat}, vL c o (ds ++ bs) ↔ vL c o ds ∧ vL c (o + ds.flatten.length) bs
 | [], bs, o => by simp [vL]
 | A :: ds, bs, o => by
  simp only [bO, vL, vL.append (ds := ds), bL, aC, and_assoc, dW]
def fm (bs : List (List (Formula × Nat))) : List Formula := bs.flatten.map (·.1)
theorem Hc (a b : List (List (Formula × Nat))) : fm (a ++ b) = fm a ++ fm b := by simp [fm]
theorem JQ (A : List (Formula × Nat)) (b : List (List (Formula × Nat))) : fm (A :: b) = A.map (·.1) ++ fm b := by simp [fm]
theorem pX (a : List (List (Formula × Nat))) : (fm a).length = a.flatten.length := by unfold fm; rw [cZ]
theorem MD (ds : List (List (Formula × Nat))) (C : List (Formula × Nat)) : (ds ++ [C]).flatten.length = ds.flatten.length + C.length := by rw [cK, aC]; simp only [bL, dl, bo]
theorem P5 (C : List (Formula × Nat)) (bs : List (List (Formula × Nat))) : fm ([C] ++ bs) = C.map (·.1) ++ fm bs := by simp [fm]
theorem D2 {R : List Formula} {o : Nat} {x : Formula × Nat} (h : x ∈ R.zipIdx o) : x.1 ∈ R := List.fst_mem_of_mem_zipIdx h
theorem WB.two {s : Nat} {A : List (Formula × Nat)} {bs : List (List (Formula × Nat))} (j : 0 < s) (h : WB s (A :: bs)) (i : s < (A :: bs).flatten.length) : A.length = s ∧ ∃ B b, bs = B :: b ∧ (B.length = s ∨ b = []) ∧ B.length ≤ s ∧ WB s b := by
 cases bs with
 | nil => simp at i; have := h.1; omega
 | cons B b =>
  refine ⟨h.2.1 (by simp), B, b, rfl, ?_, h.2.2.1, h.2.2.2.2⟩
  by_cases d : b = []
  ·exact .inr d
  ·exact .inl (h.2.2.2.1 d)
theorem IP (h : SWO (mO c)) (w : Bq f c G) {ds bs : List (List (Formula × Nat))} {A B : List (Formula × Nat)} (hO : vL c 0 (ds ++ A :: B :: bs)) (u : ∀ x ∈ (ds ++ A :: B :: bs).flatten, G x.1) (j : (fm (ds ++ A :: B :: bs)).length ≤ 400000) (s : 0 < A.length) (t : 0 < B.length) (a m b : Int) (ha : a = (ds.flatten.length : Int)) (hm : m = ((ds.flatten.length + A.length : Nat) : Int)) (v : b = ((ds.flatten.length + A.length + B.length : Nat) : Int)) :
  ∃ C, kL jP (fm (ds ++ A :: B :: bs)) a m b f = some (fm ((ds ++ [C]) ++ bs)) ∧ vL c 0 ((ds ++ [C]) ++ bs) ∧ C.Perm (A ++ B) := by
 obtain ⟨h1, r⟩ := vL.append.1 hO
 obtain ⟨L, p, M, q, z⟩ := r
 have e : fm (ds ++ A :: B :: bs) = fm ds ++ (A.map (·.1) ++ (B.map (·.1) ++ fm bs)) := by rw [Hc, JQ, JQ]
 rw [e] at j ⊢
 have l := j
 simp only [aC, cZ, pX] at l
 obtain ⟨C, I, J, n⟩ := R0 h w (A.length + B.length) A B (fm ds) (fm bs) jP a m b (aR _) s t (by rw [lN]; omega) L M (fun x d y E => by have := (p x d).2; have := (q y E).1; omega)
  (fun x d => u x (by
   rw [cK, bL, bL, aN, aN, aN]
   rcases aN.1 d with d | d
   ·exact .inr (.inl d)
   ·exact .inr (.inr (.inl d)))) j (by rw [ha, pX]) (by rw [hm, pX]) (by rw [v, pX])
 have i := n.length_eq
 simp only [aC] at i
 refine ⟨C, by rw [I, aI, Hc, P5], ?_, n⟩
 ·rw [aI, vL.append]
  refine ⟨h1, J, fun x d => ?_, ?_⟩
  ·rcases aN.1 (n.mem_iff.1 d) with d | d
   ·have := p x d; omega
   ·have := q x d; omega
  ·rw [i, ← dW]; exact z
theorem H7 {ds bs : List (List (Formula × Nat))} {A B C : List (Formula × Nat)} (h : C.Perm (A ++ B)) : ((ds ++ [C]) ++ bs).flatten.Perm (ds ++ A :: B :: bs).flatten := by
 simp only [cK, bL, dl, bo, aI]
 refine bV _ ?_
 rw [← aI]
 exact h.append_right _
theorem OF (h : SWO (mO c)) (R : Bq f c G) (s : Nat) (U : 0 < s) (W : s ≤ 1000000) (N : Nat) (hN : N ≤ 400000) : ∀ (k : Nat) (bs ds : List (List (Formula × Nat))) (n : Nat) (a b : Int), bs.length ≤ k → k < n → vL c 0 (ds ++ bs) → (∀ x ∈ (ds ++ bs).flatten, G x.1) → (ds ++ bs).flatten.length = N → WB s bs → (∀ A ∈ ds, A.length = 2 * s) →
  a = (ds.flatten.length : Int) → b = ((ds.flatten.length + 2 * s : Nat) : Int) →
  ∃ es r, lT (N : Int) (s : Int) f n (fm (ds ++ bs)) a b = some (fm (es ++ r), (es.flatten.length : Int)) ∧ vL c 0 (es ++ r) ∧ (es ++ r).flatten.Perm (ds ++ bs).flatten ∧ WB s r ∧ r.flatten.length < 2 * s ∧ (∀ A ∈ es, A.length = 2 * s) := by
 intro k
 induction k with
 | zero =>
  intro bs ds n a b hk T hO t l u m ha P
  obtain ⟨n, rfl⟩ := aM (by omega : n ≠ 0)
  obtain rfl := aO (Nat.le_zero.1 hk)
  simp only [bo] at l
  rw [lT]
  have : ¬ (b ≤ (N : Int)) := by omega
  simp only [this, bT, aB, aG]
  exact ⟨ds, [], by rw [ha], hO, .refl _, trivial, by simp only [dl, bP]; omega, m⟩
 | succ k ih =>
  intro bs ds n a b hk T hO t l u m ha P
  obtain ⟨n, rfl⟩ := aM (by omega : n ≠ 0)
  rw [lT]
  by_cases hle : b ≤ (N : Int)
  ·simp only [hle, bR, aJ]
   have d := l
   rw [cK, aC] at d
   cases bs with
   | nil => simp only [dl, bP] at d; omega
   | cons A bs =>
    obtain ⟨hA, B, j, rfl, p, M, v⟩ := WB.two U u (by omega)
    have O : B.length = s := by
     rcases p with p | rfl
     ·exact p
     ·simp only [bL, dl, bo, aC] at d; omega
    have w1 : wi0 .i64 (a + (s : Int)) = ((ds.flatten.length + A.length : Nat) : Int) := mN _ (by omega) (by omega)
    obtain ⟨C, Z, q2, w⟩ := IP h R hO t (by rw [pX]; omega) (by omega) (by omega) a _ b ha w1 (by omega)
    rw [Z, aA]
    have q := w.length_eq
    simp only [aC] at q
    have w2 : wi0 .i64 (2 * (s : Int)) = ((2 * s : Nat) : Int) := mN _ (by omega) (by omega)
    have Q : (ds ++ [C]).flatten.length = ds.flatten.length + 2 * s := by rw [MD]; omega
    have w3 : wi0 .i64 (b + ((2 * s : Nat) : Int)) = (((ds ++ [C]).flatten.length + 2 * s : Nat) : Int) := mN _ (by omega) (by omega)
    have hp := H7 (ds := ds) (bs := j) w
    rw [w2, w3]
    obtain ⟨es, r, y, z, E, I, J, L⟩ := ih j (ds ++ [C]) n b _ (by simp at hk; omega) (by omega) q2 (fun x Y => t x (hp.mem_iff.1 Y)) (by rw [hp.length_eq, l]) v (fun X i => by
     rcases aN.1 i with i | i
     ·exact m X i
     ·simp at i; rw [i]; omega) (by rw [Q]; omega) rfl
    exact ⟨es, r, y, z, E.trans hp, I, J, L⟩
  ·simp only [hle, bT, aB, aG]
   refine ⟨ds, bs, by rw [ha], hO, .refl _, u, ?_, m⟩
   rw [cK, aC] at l
   omega
theorem WB.Fy {t : Nat} : ∀ {es : List (List (Formula × Nat))} {C : List (Formula × Nat)}, (∀ A ∈ es, A.length = t) → C.length ≤ t → WB t (es ++ [C])
 | [], C, _, b => ⟨b, fun h => absurd rfl h, trivial⟩
 | E :: es, C, h, b => ⟨by rw [h E (by simp)]; omega, fun _ => h E (by simp), WB.Fy (fun A d => h A (by simp [d])) b⟩
theorem Lq {s : Nat} {r : List (List (Formula × Nat))} {o : Nat} (d : WB s r) (h : r.flatten.length ≤ s) (hO : vL c o r) : nB (mO c) r.flatten ∧ ∀ x ∈ r.flatten, o ≤ x.2 ∧ x.2 < o + r.flatten.length := by
 cases r with
 | nil => exact ⟨.nil, fun x i => by cases i⟩
 | cons A r =>
  have : r.flatten = [] := by
   by_cases b : r = []
   ·rw [b]; rfl
   ·have := d.2.1 b
    rw [bL, aC] at h
    exact aO (by omega)
  rw [bL, this, bo]
  exact ⟨hO.1, hO.2.1⟩
theorem Nk (h : SWO (mO c)) (Y : Bq f c G) (N : Nat) (hN : N ≤ 400000) : ∀ (k s : Nat) (bs : List (List (Formula × Nat))) (n : Nat), N - s ≤ k → k < n → 0 < s → s ≤ 1000000 → vL c 0 bs → (∀ x ∈ bs.flatten, G x.1) → bs.flatten.length = N → WB s bs →
  ∃ u, lz (N : Int) f n (fm bs) (s : Int) = some (u.map (·.1)) ∧ nB (mO c) u ∧ u.Perm bs.flatten := by
 intro k
 induction k with
 | zero =>
  intro s bs n hk hn L q hO p l d
  obtain ⟨n, rfl⟩ := aM (by omega : n ≠ 0)
  rw [lz]
  have : ¬ ((s : Int) < (N : Int)) := by omega
  simp only [this, bT, aB, aG]
  refine ⟨bs.flatten, rfl, ?_, .refl _⟩
  cases bs with
  | nil => exact .nil
  | cons A bs =>
   have : bs.flatten = [] := by
    by_cases i : bs = []
    ·rw [i]; rfl
    ·have := d.2.1 i
     rw [bL, aC] at l
     exact aO (by omega)
   rw [bL, this, bo]
   exact hO.1
 | succ k ih =>
  intro s bs n hk hn L q hO p l d
  by_cases a8 : s < N
  ·obtain ⟨n, rfl⟩ := aM (by omega : n ≠ 0)
   rw [lz]
   have : ((s : Int) < (N : Int)) := by omega
   simp only [this, bR, aJ]
   have w1 : wi0 .i64 (2 * (s : Int)) = ((2 * s : Nat) : Int) := mN _ (by omega) (by omega)
   have w0 : wi0 .i64 ((s : Int) * 2) = ((2 * s : Nat) : Int) := mN _ (by omega) (by omega)
   have a7 : bs.length ≤ 2000000 := by
    have : ∀ {bs : List (List (Formula × Nat))}, WB s bs → bs.length ≤ bs.flatten.length + 1 := by
     intro bs
     induction bs with
     | nil => intro _; simp
     | cons A bs M =>
      intro d
      by_cases i : bs = []
      ·subst i; simp
      ·have := d.2.1 i
       have := M d.2.2
       simp only [aH, bL, aC]
       omega
    have := this d
    omega
   obtain ⟨es, r, Q, R, b, T, U, W⟩ := OF h Y s L q N hN bs.length bs [] jP 0 ((2 * s : Nat) : Int) (aR _) (by rw [lN]; omega) (by simpa using hO) (by simpa using p) (by simpa using l) d (by simp) rfl (by simp)
   simp only [bD] at Q b
   rw [w1, Q, aA, w0]
   have m := b.length_eq
   rw [l, cK, aC] at m
   have w2 : wi0 .i64 ((es.flatten.length : Int) + (s : Int)) = ((es.flatten.length + s : Nat) : Int) := mN _ (by omega) (by omega)
   simp only [w2]
   by_cases hm : es.flatten.length + s < N
   ·have : (((es.flatten.length + s : Nat) : Int) < (N : Int)) := by omega
    simp only [this, bR, aJ, nK]
    cases r with
    | nil => simp only [dl, bP] at m; omega
    | cons A r =>
     obtain ⟨hA, B, r', rfl, v, a1, a6⟩ := WB.two L T (by omega)
     have J : r' = [] := by
      rcases v with v | v
      ·by_cases hr : r' = []
       ·exact hr
       ·simp only [bL, aC] at U; omega
      ·exact v
     subst J
     simp only [bL, dl, bo, aC] at m U
     obtain ⟨C, q1, Z, q3⟩ := IP h Y R (fun x t => p x (b.mem_iff.1 t)) (by rw [pX, b.length_eq]; omega) (by omega) (by omega) (es.flatten.length : Int) ((es.flatten.length + s : Nat) : Int) (N : Int) rfl (by omega) (by omega)
     rw [q1, aA]
     have y := q3.length_eq
     simp only [aC] at y
     have hp := (H7 (ds := es) (bs := []) q3).trans b
     simp only [bo] at Z hp ⊢
     obtain ⟨u, O, P, w⟩ := ih (2 * s) (es ++ [C]) n (by omega) (by omega) (by omega) (by omega) Z (fun x t => p x (hp.mem_iff.1 t)) (by rw [hp.length_eq, l]) (WB.Fy W (by omega))
     exact ⟨u, O, P, w.trans hp⟩
   ·have : ¬ (((es.flatten.length + s : Nat) : Int) < (N : Int)) := by omega
    simp only [this, bT, aB, aG, aA]
    obtain ⟨z, E⟩ := vL.append.1 R
    obtain ⟨b1, b2⟩ := Lq T (by omega) E
    have I : fm (es ++ r) = fm (es ++ [r.flatten]) := by simp [fm]
    have j : (es ++ [r.flatten]).flatten = (es ++ r).flatten := by simp
    rw [I]
    obtain ⟨u, O, P, w⟩ := ih (2 * s) (es ++ [r.flatten]) n (by omega) (by omega) (by omega) (by omega) (vL.append.2 ⟨z, b1, b2, trivial⟩) (fun x t => p x (b.mem_iff.1 (by rw [← j]; exact t))) (by rw [j, b.length_eq, l]) (WB.Fy W (by omega))
    exact ⟨u, O, P, by rw [j] at w; exact w.trans b⟩
  ·obtain ⟨n, rfl⟩ := aM (by omega : n ≠ 0)
   rw [lz]
   have : ¬ ((s : Int) < (N : Int)) := by omega
   simp only [this, bT, aB, aG]
   refine ⟨bs.flatten, rfl, ?_, .refl _⟩
   cases bs with
   | nil => exact .nil
   | cons A bs =>
    have : bs.flatten = [] := by
     by_cases i : bs = []
     ·rw [i]; rfl
     ·have := d.2.1 i
      rw [bL, aC] at l
      exact aO (by omega)
    rw [bL, this, bo]
    exact hO.1
theorem GC : ∀ (l : List Formula) (o : Nat), (l.zipIdx o).Pairwise (fun x y => x.2 < y.2)
 | [], o => by simp
 | x :: l, o => by
  rw [iI, cA]
  refine ⟨fun y d => ?_, GC l (o + 1)⟩
  obtain ⟨a, b⟩ := y
  have := List.le_snd_of_mem_zipIdx d
  simp only at this ⊢; omega
theorem JE (l : List Formula) (o : Nat) : ∀ x ∈ l.zipIdx o, o ≤ x.2 ∧ x.2 < o + l.length := by
 rintro ⟨a, b⟩ d
 have h1 := List.le_snd_of_mem_zipIdx d
 have h := List.snd_lt_add_of_mem_zipIdx d
 simp only at h1 h ⊢; omega
theorem LG (h : SWO (mO c)) (m : Bq f c G) (N : Nat) (w : N ≤ 300000) (R : List Formula) (ds : List (List (Formula × Nat))) (n : Nat) (a b : Int) (E : 0 < n) (hO : vL c 0 ds) (q : ∀ A ∈ ds, A.length = 20) (r : ∀ x ∈ ds.flatten, G x.1) (l : ∀ x ∈ R, G x) (z : ds.flatten.length + R.length = N) (s : R.length < 20) (ha : a = (ds.flatten.length : Int)) (y : b = ((ds.flatten.length + 20 : Nat) : Int)) :
  ∃ u, lA (N : Int) f n (fm ds ++ R) a b = some (u.map (·.1)) ∧ nB (mO c) u ∧ u.Perm (ds.flatten ++ R.zipIdx ds.flatten.length) := by
 obtain ⟨n, rfl⟩ := aM (by omega : n ≠ 0)
 rw [lA]
 have hle : ¬ (b ≤ (N : Int)) := by omega
 simp only [hle, bT, aB, aG, nK]
 obtain ⟨u, p, t, i⟩ := J2 h m (fm ds) [] (R.zipIdx ds.flatten.length) a (N : Int) (GC _ _) (fun x d => l x.1 (D2 d)) (by simp only [aC, pX, cZ, ej, bP]; omega) (by rw [pX]; exact ha) (by rw [pX, ej]; omega)
 rw [List.zipIdx_map_fst, bo, bo] at p
 have j := i.length_eq
 rw [ej] at j
 have e : fm ds ++ u.map (·.1) = fm (ds ++ [u]) := by simp [fm]
 have hp : (ds ++ [u]).flatten.Perm (ds.flatten ++ R.zipIdx ds.flatten.length) := by
  rw [cK]
  refine bV _ ?_
  simpa using i
 rw [p, aA, e]
 obtain ⟨v, v1, v2, v3⟩ := Nk h m N (by omega) N 20 (ds ++ [u]) jP (by omega) (by rw [lN]; omega) (by omega) (by omega) (vL.append.2 ⟨hO, t, fun x d => by have := JE R ds.flatten.length x (i.mem_iff.1 d); omega, trivial⟩) (fun x d => by
  rw [cK, aN] at d
  rcases d with d | d
  ·exact r x d
  ·simp only [bL, dl, bo] at d
   exact l x.1 (D2 (i.mem_iff.1 d))) (by rw [hp.length_eq, aC, ej]; omega) (WB.Fy q (by omega))
 exact ⟨v, v1, v2, v3.trans hp⟩
theorem NB (h : SWO (mO c)) (y : Bq f c G) (N : Nat) (I : N ≤ 300000) : ∀ (k : Nat) (R : List Formula) (ds : List (List (Formula × Nat))) (n : Nat) (a b : Int), R.length ≤ k → k < n → vL c 0 ds → (∀ A ∈ ds, A.length = 20) → (∀ x ∈ ds.flatten, G x.1) → (∀ x ∈ R, G x) → ds.flatten.length + R.length = N →
  a = (ds.flatten.length : Int) → b = ((ds.flatten.length + 20 : Nat) : Int) →
  ∃ u, lA (N : Int) f n (fm ds ++ R) a b = some (u.map (·.1)) ∧ nB (mO c) u ∧ u.Perm (ds.flatten ++ R.zipIdx ds.flatten.length) := by
 intro k
 induction k with
 | zero =>
  intro R ds n a b hk J hO q r m s ha w
  obtain rfl := aO (Nat.le_zero.1 hk)
  exact LG h y N I [] ds n a b J hO q r m s (by simp) ha w
 | succ k ih =>
  intro R ds n a b hk J hO q r m s ha w
  by_cases E : R.length < 20
  ·exact LG h y N I R ds n a b (by omega) hO q r m s E ha w
  obtain ⟨n, rfl⟩ := aM (by omega : n ≠ 0)
  obtain ⟨R1, R2, rfl, p⟩ := uS (l := R) (n := 20) (by omega)
  rw [aC] at s hk
  rw [lA]
  have hle : b ≤ (N : Int) := by omega
  simp only [hle, bR, aJ]
  obtain ⟨u, L, M, t⟩ := J2 h y (fm ds) R2 (R1.zipIdx ds.flatten.length) a b (GC _ _) (fun x d => m x.1 (by simp [D2 d])) (by simp only [aC, pX, cZ, ej, bP]; omega) (by rw [pX]; exact ha) (by rw [pX, ej]; omega)
  rw [List.zipIdx_map_fst] at L
  rw [L, aA]
  have i := t.length_eq
  rw [ej, p] at i
  have z : (ds ++ [u]).flatten.length = ds.flatten.length + 20 := by rw [MD, i]
  have O : wi0 .i64 (b + 20) = (((ds ++ [u]).flatten.length + 20 : Nat) : Int) := mN _ (by omega) (by omega)
  have e : fm ds ++ (u.map (·.1) ++ R2) = fm (ds ++ [u]) ++ R2 := by simp [fm]
  rw [e, O]
  obtain ⟨v, v1, v2, v3⟩ := ih R2 (ds ++ [u]) n b _ (by omega) (by omega) (vL.append.2 ⟨hO, M, fun x d => by have := JE R1 ds.flatten.length x (t.mem_iff.1 d); omega, trivial⟩) (fun A j => by
   rcases aN.1 j with j | j
   ·exact q A j
   ·simp at j; rw [j]; exact i) (fun x d => by
   rw [cK, aN] at d
   rcases d with d | d
   ·exact r x d
   ·simp only [bL, dl, bo] at d
    exact m x.1 (by simp [D2 (t.mem_iff.1 d)])) (fun x d => m x (by simp [d])) (by omega) (by omega) rfl
  refine ⟨v, v1, v2, v3.trans ?_⟩
  rw [z, cK, List.zipIdx_append, p, aI]
  refine bV _ ?_
  simp only [bL, dl, bo]
  exact t.append_right _
theorem Ko (h : SWO (mO c)) (j : Bq f c G) (l : List Formula) (i : ∀ x ∈ l, G x) (m : l.length ≤ 300000) : nR l f = some (IT (mO c) l) := by
 unfold nR pR
 obtain ⟨u, b, n, d⟩ := NB h j l.length m l.length l [] jP 0 20 (aR _) (by rw [lN]; omega) trivial (by simp) (by simp) i (by simp) rfl rfl
 simp only [fm, dl, ez, bD, bP] at b d
 rw [b, aA, O1 h n d]
end
theorem HQ {P : Formula → Prop} (h : ∀ f, (∀ k ∈ f.Kids, P k) → P f) : ∀ f, P f := by
 intro f
 refine Formula.rec (motive_1 := P) (motive_2 := fun ks => ∀ k ∈ ks, P k) ?_ ?_ ?_ f
 ·intro o k r ks ih; exact h _ ih
 ·intro k hk; cases hk
 ·intro k ks h1 d x b
  rcases aK.1 b with rfl | b
  ·exact h1
  ·exact d x b
mutual
def jR : Formula → Nat
 | ⟨_, _, _, ks⟩ => 1 + nodesL ks
def nodesL : List Formula → Nat
 | [] => 0
 | k :: ks => jR k + nodesL ks
end
mutual
def ng : Formula → Nat
 | ⟨_, _, _, ks⟩ => deepL ks + 1
def deepL : List Formula → Nat
 | [] => 0
 | k :: ks => max (ng k) (deepL ks)
end
theorem nn (f : Formula) : jR f = 1 + nodesL f.Kids := by cases f; rw [jR]
theorem mc (f : Formula) : ng f = deepL f.Kids + 1 := by cases f; rw [ng]
theorem ru : ∀ {ks : List Formula} {k : Formula}, k ∈ ks → jR k ≤ nodesL ks
 | x :: ks, k, h => by
  rw [nodesL]
  rcases aK.1 h with rfl | h
  ·omega
  ·have := ru h; omega
theorem pH : ∀ {ks : List Formula} {k : Formula}, k ∈ ks → ng k ≤ deepL ks
 | x :: ks, k, h => by
  rw [deepL]
  rcases aK.1 h with rfl | h
  ·omega
  ·have := pH h; omega
theorem ux : ∀ f : Formula, ng f ≤ jR f := by
 refine HQ fun f ih => ?_
 rw [mc, nn]
 have : ∀ ks : List Formula, (∀ k ∈ ks, ng k ≤ jR k) → deepL ks ≤ nodesL ks := by
  intro ks
  induction ks with
  | nil => intro _; rw [deepL]; omega
  | cons k ks b =>
   intro h
   have := b (fun x d => h x (by simp [d]))
   have := h k (by simp)
   rw [deepL, nodesL]; omega
 have := this f.Kids ih
 omega
theorem oK : ∀ ks : List Formula, ks.length ≤ nodesL ks
 | [] => by rw [nodesL]; simp
 | k :: ks => by have := oK ks; have := nn k; rw [nodesL, aH]; omega
theorem Lm (b : Nat) (hm : b ≤ 4096) (rec : Formula → Int → Option (Int × Int)) : ∀ (ks : List Formula), (∀ k ∈ ks, ∀ q : Nat, q ≤ 4096 → ∃ n d : Nat, rec k (q : Int) = some ((n : Int), (d : Int)) ∧ 1 ≤ n ∧ n ≤ jR k ∧ d ≤ jR k ∧ (jR k ≤ q → n = jR k ∧ d = ng k) ∧ (q < jR k → q < n)) → ∀ x y : Nat, x + nodesL ks ≤ 100000000 →
  ∃ n d : Nat, ov (b : Int) rec ks (x : Int) (y : Int) = some ((n : Int), (d : Int)) ∧ x ≤ n ∧ n ≤ x + nodesL ks ∧ d ≤ max y (nodesL ks) ∧ (x + nodesL ks ≤ b → n = x + nodesL ks ∧ d = max y (deepL ks)) ∧ (b < x + nodesL ks → b < n)
 | [], _, x, y, _ => by
  rw [ov, nodesL, deepL]
  exact ⟨x, y, rfl, by omega, by omega, by omega, fun _ => ⟨by omega, by omega⟩, fun h => by omega⟩
 | k :: ks, j, x, y, s => by
  rw [nodesL] at s ⊢
  rw [ov, deepL]
  by_cases l : (x : Int) > (b : Int)
  ·simp only [l, bR, aJ]
   exact ⟨x, y, rfl, by omega, by omega, by omega, fun _ => by omega, fun h => by omega⟩
  ·simp only [l, bT, aB, aG]
   have u : wi0 .i64 ((b : Int) - (x : Int)) = ((b - x : Nat) : Int) := by rw [jZ (by omega) (by omega)]; omega
   obtain ⟨m, d, e, h1, A, E, i, r⟩ := j k (by simp) (b - x) (by omega)
   rw [u, e, aA]
   have v : wi0 .i64 ((x : Int) + (m : Int)) = ((x + m : Nat) : Int) := by rw [jZ (by omega) (by omega)]; omega
   have w : (if (d : Int) > (y : Int) then (d : Int) else (y : Int)) = ((max y d : Nat) : Int) := by split <;> omega
   simp only [v, w]
   obtain ⟨n, p, e', g1, g2, g3, g4, g5⟩ := Lm b hm rec ks (fun z t => j z (by simp [t])) (x + m) (max y d) (by omega)
   refine ⟨n, p, e', by omega, by omega, by omega, fun h => ?_, fun h => ?_⟩
   ·obtain ⟨rfl, rfl⟩ := i (by omega)
    obtain ⟨rfl, rfl⟩ := g4 (by omega)
    exact ⟨by omega, by omega⟩
   ·by_cases hk : b - x < jR k
    ·have := r hk; omega
    ·obtain ⟨rfl, _⟩ := i (by omega)
     exact g5 (by omega)
theorem NG : ∀ (n : Nat) (f : Formula), ng f ≤ n → jR f ≤ 50000000 → ∀ q : Nat, q ≤ 4096 → ∃ m d : Nat, ny n f (q : Int) = some ((m : Int), (d : Int)) ∧ 1 ≤ m ∧ m ≤ jR f ∧ d ≤ jR f ∧ (jR f ≤ q → m = jR f ∧ d = ng f) ∧ (q < jR f → q < m) := by
 intro n
 induction n with
 | zero => intro f h; rw [mc] at h; omega
 | succ n ih =>
  intro f l u q b
  rw [mc] at l
  have p := nn f
  rw [ny]
  unfold tR
  obtain ⟨m, d, e, h1, s, t, i, j⟩ := Lm q b (ny n) f.Kids (fun k hk q b => ih k (by have := pH hk; omega) (by have := ru hk; omega) q b) 1 0 (by omega)
  have e' : ov (q : Int) (ny n) f.Kids 1 0 = some ((m : Int), (d : Int)) := e
  rw [e', aA]
  have r : wi0 .i64 ((d : Int) + 1) = ((d + 1 : Nat) : Int) := by rw [jZ (by omega) (by omega)]; omega
  simp only [r]
  refine ⟨m, d + 1, rfl, h1, by omega, by omega, fun h => ?_, fun h => j (by omega)⟩
  obtain ⟨rfl, rfl⟩ := i (by omega)
  rw [mc]
  exact ⟨by omega, by omega⟩
theorem OW (f : Formula) (j : jR f ≤ 50000000) : vw f = some (if jR f ≤ 4096 then ((jR f : Int), (ng f : Int)) else (0, 0)) := by
 unfold vw
 have := ux f
 obtain ⟨m, d, e, h1, l, n, b, i⟩ := NG jP f (by rw [lN]; omega) j 4096 (aR _)
 have e' : ny jP f 4096 = some ((m : Int), (d : Int)) := e
 rw [e', aA]
 by_cases h : jR f ≤ 4096
 ·obtain ⟨rfl, rfl⟩ := b h
  have : ¬ ((jR f : Int) > 4096) := by omega
  simp [this, h]
 ·have := i (by omega)
  have : ((m : Int) > 4096) := by omega
  simp [this, h]
def oe : jl := ⟨zS, zS⟩
def AL (f : Formula) : Bool := if f.Op = 1 then lG f.jl && decide (f.Kids.length = 0) && decide (f.K = 0) else if f.Op = 2 ∨ f.Op = 3 then jG f.jl oe && decide (f.K = 0) else decide (f.Op = 4) && jG f.jl oe && decide (0 ≤ f.K) && decide (f.K ≤ (f.Kids.length : Int)) && decide (1 ≤ f.Kids.length)
theorem Pa (f : Formula) : vv f = some (AL f) := by
 unfold vv AL
 simp only [xq, aA, nK]
 by_cases h1 : f.Op = 1
 ·simp only [h1, aV, aJ]
  cases r : lG f.jl
  ·simp
  ·by_cases m : f.Kids.length = 0
   ·have : f.Kids = [] := aO m
    by_cases hk : f.K = 0 <;> simp [this, hk]
   ·have : ((f.Kids.length : Int) == 0) = false := by simp; intro h; exact m (by simp [h])
    simp only [aJ, aA, this, aB, aG, m, bT, Bool.and_false, eU]
 ·have p : (f.Op == 1) = false := by simpa using h1
  simp only [p, aB, aG, h1]
  by_cases d : f.Op = 2 ∨ f.Op = 3
  ·have j : (if f.Op == 2 then some (f.Op == 2) else some (f.Op == 3)) = some true := by
    rcases d with h | h <;> simp [h]
   simp only [j, aA, aJ, d]
   cases i : jG f.jl ⟨zS, zS⟩ <;> by_cases hk : f.K = 0 <;> simp [oe, i, hk]
  ·have j : (if f.Op == 2 then some (f.Op == 2) else some (f.Op == 3)) = some false := by
    have a : f.Op ≠ 2 := fun h => d (.inl h)
    have b : f.Op ≠ 3 := fun h => d (.inr h)
    simp [a, b]
   simp only [j, aA, aB, aG, d]
   by_cases l : f.Op = 4
   ·simp only [l, aV, aJ, aA, bR, dx]
    cases i : jG f.jl ⟨zS, zS⟩
    ·simp [oe, i]
    ·by_cases c1 : 0 ≤ f.K <;> by_cases c2 : f.K ≤ (f.Kids.length : Int) <;> by_cases n : 1 ≤ f.Kids.length <;> simp [oe, i, c1, c2, n] <;> omega
   ·have q : (f.Op == 4) = false := by simpa using l
    simp [q, l]
mutual
def rn : Formula → Bool
 | ⟨o, n, r, ks⟩ => AL ⟨o, n, r, ks⟩ && decide (ks.length ≤ 8) && wellL ks
def wellL : List Formula → Bool
 | [] => true
 | k :: ks => rn k && wellL ks
end
theorem Cf (f : Formula) : rn f = (AL f && decide (f.Kids.length ≤ 8) && wellL f.Kids) := by cases f; rw [rn]
theorem DA : ∀ ks : List Formula, wellL ks = ks.all rn
 | [] => rfl
 | k :: ks => by rw [wellL, DA ks]; rfl
theorem Iu (f : Formula → Option Bool) : ∀ (l : List Formula) (i : Nat), mI f l i = xn f l i
 | [], i => by rw [mI]; rfl
 | x :: l, i => by
  rw [mI, xn]
  cases f x with
  | none => rfl
  | some b =>
   simp only [aA]
   rw [Iu f l (i + 1)]
theorem Ed (f : Formula → Option Bool) (p : Formula → Bool) (l : List Formula) (h : ∀ x ∈ l, f x = some (p x)) : nm l f = some (l.any p) := by
 unfold nm qV
 rw [Iu]
 rcases zT f p l 0 h with ⟨e, h1⟩ | ⟨A, x, B, rfl, h1, b, e⟩
 ·rw [e, aA]
  have : l.any p = false := by rw [List.any_eq_false]; intro x d; rw [h1 x d]; simp
  rw [this]; rfl
 ·rw [e, aA]
  have : (A ++ x :: B).any p = true := by simp [b]
  rw [this]
  congr 1
theorem M2 : ∀ (n : Nat) (f : Formula), ng f ≤ n → pV n f = some (rn f) := by
 intro n
 induction n with
 | zero => intro f h; rw [mc] at h; omega
 | succ n ih =>
  intro f h
  rw [mc] at h
  rw [pV]
  unfold tV
  rw [Pa, aA, Cf, Ed _ (fun k => !rn k) f.Kids (fun k hk => by unfold sE; rw [ih k (by have := pH hk; omega)]; rfl)]
  rw [DA]
  have e : (!(f.Kids.any fun k => !rn k)) = f.Kids.all rn := by rw [List.all_eq_not_any_not]
  cases AL f
  ·rfl
  ·by_cases b : f.Kids.length ≤ 8
   ·have : ((f.Kids.length : Int) ≤ 8) := by omega
    simp [b, this, e]
   ·have : ¬ ((f.Kids.length : Int) ≤ 8) := by omega
    simp [b, this]
def mQ (f : Formula) : Bool := decide (jR f ≤ 64) && decide (ng f ≤ 6) && rn f
theorem Ct (f : Formula) (b : jR f ≤ 50000000) : pU f = some (mQ f) := by
 unfold pU mQ
 have d := ux f
 rw [OW f b, aA, M2 jP f (by rw [lN]; omega)]
 have h1 := nn f
 by_cases h : jR f ≤ 4096
 ·simp only [h, aJ]
  have a : ((jR f : Int) ≥ 1) := by omega
  simp only [a, bR, aJ, aA, nK]
  by_cases c1 : jR f ≤ 64 <;> by_cases c2 : ng f ≤ 6
  ·have d1 : ((jR f : Int) ≤ 64) := by omega
   have d2 : ((ng f : Int) ≤ 6) := by omega
   simp [c1, c2, d1, d2]
  ·have d1 : ((jR f : Int) ≤ 64) := by omega
   have d2 : ¬ ((ng f : Int) ≤ 6) := by omega
   simp [c1, c2, d1, d2]
  ·have d1 : ¬ ((jR f : Int) ≤ 64) := by omega
   simp [c1, d1]
  ·have d1 : ¬ ((jR f : Int) ≤ 64) := by omega
   simp [c1, d1]
 ·simp only [h, aG]
  have : ¬ jR f ≤ 64 := by omega
  simp [this]
theorem Formula.ext' {a b : Formula} (h1 : a.Op = b.Op) (d : a.K = b.K) (h : a.jl = b.jl) (i : a.Kids = b.Kids) : a = b := by
 cases a; cases b; simp only at h1 d h i; subst h1 d h i; rfl
theorem MA (g : Formula × Formula → Option Bool) : ∀ (l m : List Formula), l.length = m.length → (∀ x ∈ l, ∀ y, ∃ b, g (x, y) = some b ∧ (b = true ↔ x = y)) → ∀ (A : List Formula),
  ∃ b, kz (A ++ m) g l A.length = some b ∧ (b = true ↔ l = m)
 | [], m, i, _, A => by
  obtain rfl := aO i.symm
  exact ⟨true, rfl, by simp⟩
 | x :: l, [], i, _, A => by simp at i
 | x :: l, y :: m, i, j, A => by
  rw [kz]
  obtain ⟨b, e, h⟩ := j x (by simp) y
  have i1 : kF (A ++ y :: m) (A.length : Int) = some y := my _ _ _ _ rfl
  rw [i1, aA, e, aA]
  cases b with
  | false =>
   refine ⟨false, rfl, ?_⟩
   have : x ≠ y := fun d => by have := h.2 d; simp at this
   simp [this]
  | true =>
   have d := h.1 rfl
   obtain ⟨b, n, r⟩ := MA g l m (by simpa using i) (fun z s => j z (by simp [s])) (A ++ [y])
   simp only [bU, aB, aG]
   have p : A ++ y :: m = (A ++ [y]) ++ m := by simp
   have q : A.length + 1 = (A ++ [y]).length := by simp
   rw [p, q, n]
   exact ⟨b, rfl, by rw [r]; simp [d]⟩
theorem OE : ∀ (n : Nat) (f : Formula), ng f ≤ n → ∀ g, ∃ b, mW n f g = some b ∧ (b = true ↔ f = g) := by
 intro n
 induction n with
 | zero => intro f h; rw [mc] at h; omega
 | succ n ih =>
  intro f h g
  rw [mc] at h
  rw [mW]
  unfold uz
  by_cases h1 : f.Op = g.Op
  ·by_cases d : f.K = g.K
   ·by_cases i : f.jl = g.jl
    ·have l : jG f.jl g.jl = true := jH.2 i
     simp only [h1, d, l, aV, aJ, aA]
     unfold lZ
     by_cases j : f.Kids.length = g.Kids.length
     ·have : ((f.Kids.length : Int) != (g.Kids.length : Int)) = false := by simp [j]
      simp only [this, aB, aG]
      obtain ⟨b, e, q⟩ := MA (fun x => mW n x.1 x.2) f.Kids g.Kids j (fun x r y => ih x (by have := pH r; omega) y) []
      simp only [bD, bP] at e
      rw [e]
      refine ⟨b, by simp, q.trans ⟨fun hk => Formula.ext' h1 d i hk, fun hk => by rw [hk]⟩⟩
     ·have : ((f.Kids.length : Int) != (g.Kids.length : Int)) = true := by simp; omega
      simp only [this, aJ]
      exact ⟨false, rfl, by simp; intro hk; rw [hk] at j; exact j rfl⟩
    ·have l : jG f.jl g.jl = false := by rw [← fC, jH]; exact i
     simp only [h1, d, l, aV, aJ, aA, aB, aG]
     exact ⟨false, rfl, by simp; intro hk; rw [hk] at i; exact i rfl⟩
   ·have p : (f.K == g.K) = false := by simpa using d
    simp only [h1, p, aV, aJ, aA, aB, aG]
    exact ⟨false, rfl, by simp; intro hk; rw [hk] at d; exact d rfl⟩
  ·have m : (f.Op == g.Op) = false := by simpa using h1
   simp only [m, aA, aB, aG]
   exact ⟨false, rfl, by simp; intro hk; rw [hk] at h1; exact h1 rfl⟩
def qa {α : Type} (R : α → Bool) (lt : α → α → Bool) (last : Option α) : List α → Bool → α → Bool × α
 | [], ok, b => (ok, b)
 | x :: xs, ok, b => if R x && last.all (fun y => lt y x) && (!ok || lt x b) then qa R lt last xs true x else qa R lt last xs ok b
def yQ {α : Type} (w : Nat) (R : α → Bool) (lt : α → α → Bool) (d : α) (l : List α) : Nat → List α → Option (List α)
 | 0, _ => none
 | n + 1, out => if !(qa R lt out.getLast? l false d).1 then some out else (lC w out [(qa R lt out.getLast? l false d).2]).bind fun o => yQ w R lt d l n o
section
variable {α : Type} {R : α → Bool} {lt : α → α → Bool}
theorem DG (H : yW (fun a b => lt a b = true) (fun x => R x = true)) (last : Option α) : ∀ (l : List α) (ok : Bool) (b : α), (ok = true → R b = true ∧ last.all (fun y => lt y b) = true) →
  ((qa R lt last l ok b).1 = false → ok = false ∧ ∀ x ∈ l, R x = true → last.all (fun y => lt y x) = false) ∧
  ((qa R lt last l ok b).1 = true → R (qa R lt last l ok b).2 = true ∧ last.all (fun y => lt y (qa R lt last l ok b).2) = true ∧ ((qa R lt last l ok b).2 ∈ l ∨ (ok = true ∧ (qa R lt last l ok b).2 = b)) ∧
   (∀ x ∈ l, R x = true → last.all (fun y => lt y x) = true → lt x (qa R lt last l ok b).2 = false) ∧ (ok = true → lt b (qa R lt last l ok b).2 = false))
 | [], ok, b, n => by
  simp only [qa]
  exact ⟨fun h => ⟨h, by simp⟩, fun h => ⟨(n h).1, (n h).2, .inr ⟨h, trivial⟩, by simp, fun _ => by
   cases q : lt b b with
   | false => rfl
   | true => exact absurd q (H.irrefl b (n h).1)⟩⟩
 | x :: xs, ok, b, n => by
  rw [qa]
  by_cases p : (R x && last.all (fun y => lt y x) && (!ok || lt x b)) = true
  ·rw [aZ p]
   simp only [aQ, fa, fq] at p
   obtain ⟨⟨G, v⟩, w⟩ := p
   obtain ⟨h1, u⟩ := DG H last xs true x (fun _ => ⟨G, v⟩)
   refine ⟨fun h => ?_, fun h => ?_⟩
   ·cases (h1 h).1
   ·obtain ⟨s, a2, a3, a4, a5⟩ := u h
    refine ⟨s, a2, ?_, ?_, ?_⟩
    ·rcases a3 with a3 | ⟨_, a3⟩
     ·exact .inl (by simp [a3])
     ·exact .inl (by rw [a3]; simp)
    ·intro y j d i
     rcases aK.1 j with rfl | j
     ·exact a5 rfl
     ·exact a4 y j d i
    ·intro m
     cases q : lt b (qa R lt last xs true x).2 with
     | false => rfl
     | true =>
      have A : lt x b = true := by rcases w with h | h; rw [m] at h; cases h; exact h
      have := H.trans x b _ G (n m).1 s A q
      simp only [a5 rfl] at this
      cases this
  ·rw [aY p]
   obtain ⟨h1, u⟩ := DG H last xs ok b n
   refine ⟨fun h => ⟨(h1 h).1, fun y j d => ?_⟩, fun h => ?_⟩
   ·rcases aK.1 j with rfl | j
    ·have m := (h1 h).1
     cases v : last.all (fun z => lt z y) with
     | false => rfl
     | true => exact absurd (by simp [d, v, m]) p
    ·exact (h1 h).2 y j d
   ·obtain ⟨s, a2, a3, a4, a5⟩ := u h
    refine ⟨s, a2, ?_, ?_, a5⟩
    ·rcases a3 with a3 | a3
     ·exact .inl (by simp [a3])
     ·exact .inr a3
    ·intro y j d i
     rcases aK.1 j with rfl | j
     ·cases q : lt y (qa R lt last xs ok b).2 with
      | false => rfl
      | true =>
       cases ok with
       | false => exact absurd (by simp [d, i]) p
       | true =>
        have E : lt y b = false := by
         cases I : lt y b with
         | false => rfl
         | true => exact absurd (by simp [d, i, I]) p
        have t := n rfl
        rcases H.total y b d t.1 with r | r | r
        ·rw [E] at r; cases r
        ·subst r; rw [a5 rfl] at q; cases q
        ·have := H.trans b y _ t.1 d s r q
         simp only [a5 rfl] at this
         cases this
     ·exact a4 y j d i
theorem sW (H : yW (fun a b => lt a b = true) (fun x => R x = true)) {l : List α} (i : ∀ x ∈ l, R x = true) (h : l.Pairwise (fun a b => lt a b = true)) : l.Nodup := by
 refine h.imp_of_mem (fun {a b} ha j d e => ?_)
 subst e
 exact H.irrefl a (i a ha) d
theorem lP : ∀ {l m : List α}, l.Nodup → (∀ x ∈ l, x ∈ m) → l.length ≤ m.length
 | [], _, _, _ => by simp
 | x :: l, m, j, d => by
  obtain ⟨A, B, rfl⟩ := List.append_of_mem (d x (by simp))
  have b := cY.1 j
  have := lP (l := l) (m := A ++ B) b.2 (fun y i => by
   have := d y (eL _ i)
   simp only [aN, aK] at this ⊢
   rcases this with h | h | h
   ·exact .inl h
   ·subst h; exact absurd i b.1
   ·exact .inr h)
  simp at this ⊢; omega
theorem AB (H : yW (fun a b => lt a b = true) (fun x => R x = true)) {w : Nat} (hw : w ≤ 1000) (d : α) (l : List α) (O : l.length ≤ 1000000000) : ∀ (n : Nat) (out : List α), l.length < n + out.length → out.Pairwise (fun a b => lt a b = true) → (∀ x ∈ out, x ∈ l ∧ R x = true) →
  (∀ x ∈ l, R x = true → x ∈ out ∨ out.getLast?.all (fun y => lt y x) = true) → ∃ s, yQ w R lt d l n out = some s ∧ uM (fun a b => lt a b = true) (fun x => R x = true) l s
 | 0, out, P, hp, hm, G => by
  exfalso
  have := lP (sW H (fun x i => (hm x i).2) hp) (fun x i => (hm x i).1)
  omega
 | n + 1, out, P, hp, hm, G => by
  rw [yQ]
  obtain ⟨h1, L⟩ := DG H out.getLast? l false d (fun h => by cases h)
  have hlen := lP (sW H (fun x i => (hm x i).2) hp) (fun x i => (hm x i).1)
  cases J : (qa R lt out.getLast? l false d).1 with
  | false =>
   rw [aZ (by simp)]
   refine ⟨out, rfl, hp, fun x => ⟨hm x, fun i => ?_⟩⟩
   rcases G x i.1 i.2 with h | h
   ·exact h
   ·rw [(h1 J).2 x i.1 i.2] at h; cases h
  | true =>
   rw [aY (by simp)]
   obtain ⟨v, a2, a3, a4, _⟩ := L J
   generalize (qa R lt out.getLast? l false d).2 = b at *
   have E : b ∈ l := by rcases a3 with h | ⟨h, _⟩; exact h; cases h
   have t : ∀ y ∈ out, lt y b = true := by
    intro y j
    obtain ⟨A, z, rfl⟩ : ∃ A z, out = A ++ [z] := by
     rcases cX out with h | ⟨A, z, h⟩
     ·subst h; cases j
     ·exact ⟨A, z, by rw [h]; simp⟩
    simp at a2
    rcases aN.1 j with j | j
    ·have I : lt y z = true := (cP.1 hp).2.2 y j z (by simp)
     exact H.trans y z b (hm y (by simp [j])).2 (hm z (by simp)).2 v I a2
    ·simp at j; subst j; exact a2
   have u : (out ++ [b]).Pairwise (fun a b => lt a b = true) := cP.2 ⟨hp, by simp, fun x i y j => by simp at j; subst j; exact t x i⟩
   have q : ∀ x ∈ out ++ [b], x ∈ l ∧ R x = true := fun x i => by
    rcases aN.1 i with i | i
    ·exact hm x i
    ·simp at i; subst i; exact ⟨E, v⟩
   have p := lP (sW H (fun x i => (q x i).2) u) (fun x i => (q x i).1)
   simp at p
   rw [lD (by simp only [aH, bP]; have : (out.length + (0 + 1)) * w ≤ 1000000000 * 1000 := Nat.mul_le_mul (by omega) hw; omega) (by simp; omega)]
   simp only [aA]
   refine AB H hw d l O n (out ++ [b]) (by simp; omega) u q (fun x i m => ?_)
   rcases G x i m with h | h
   ·exact .inl (by simp [h])
   ·have M := a4 x i m h
    rcases H.total x b m v with r | r | r
    ·rw [M] at r; cases r
    ·subst r; exact .inl (by simp)
    ·exact .inr (by simp [r])
end
theorem EQ {α : Type} (A : List α) (x : α) (b : A.length < 4611686018427387904) : kF (A ++ [x]) (wi0 .i64 (((A ++ [x]).length : Int) - 1)) = some x := by
 rw [jZ (by simp; try omega) (by simp; try omega)]
 rw [my A x [] _ (by simp; try omega)]
theorem EK (out : List jm) (n : out.length < 4611686018427387904) : ∀ (l : List jm) (ok : Bool) (b : jm), rF out l ok b = some (qa lm zP out.getLast? l ok b)
 | [], ok, b => rfl
 | x :: xs, ok, b => by
  rw [rF, qa]
  have cmp : ∀ a b, ∃ c, sN a b = some c ∧ decide (c < 0) = zP a b := fun a b => by
   obtain ⟨c, h1, m⟩ := Dl a b
   exact ⟨c, h1, by rw [bI, ← m]; simp⟩
  rw [zN, EK out n xs true x, EK out n xs ok b]
  obtain ⟨c, h1, m⟩ := cmp x b
  rcases cX out with h | ⟨A, z, h⟩
  ·subst h
   simp only [h1, aA, m, bP, Option.all, List.getLast?_nil]
   generalize zP x b = p
   cases lm x <;> cases ok <;> cases p <;> simp
  ·have j : out = A ++ [z] := by rw [h]; simp
   obtain ⟨v, t, u⟩ := cmp z x
   have d : out.getLast? = some z := by rw [j]; simp
   have i : kF out (wi0 .i64 ((out.length : Int) - 1)) = some z := by rw [j]; exact EQ A z (by rw [j] at n; simp at n; omega)
   have q : ((out.length : Int) == 0) = false := by rw [j]; simp; omega
   rw [d]
   simp only [q, i, t, h1, aA, m, u, Option.all]
   rcases dR (zP x b) with hp | hp <;> rcases dR (zP z x) with r | r <;> rcases dR (lm x) with s | s <;> cases ok <;> simp [hp, r, s]
theorem Sp (a b : ByteArray) : (!(pg a b || kv a b)) = pg b a := by
 rcases yE a b with h | h | h
 ·simp [h, Hb h]
 ·subst h; simp [tP, rk]
 ·have d := Hb h
  have i : kv a b = false := JK (by rintro rfl; rw [rk] at h; cases h)
  simp [h, d, i]
theorem LB {s : ByteArray} (h : mR s = true) : kv s zS = false := JK (fun e => by have := nz h; rw [e, Pd] at this; omega)
theorem EE (out : List ByteArray) (s : out.length < 4611686018427387904) : ∀ (l : List ByteArray) (b : ByteArray),
  ∃ t, rJ out l b = some t ∧ (qa mR pg out.getLast? l (!kv b zS) b) = (!kv t zS, t)
 | [], b => ⟨b, rfl, rfl⟩
 | x :: xs, b => by
  rw [rJ, qa]
  obtain ⟨G, y, i⟩ := EE out s xs x
  obtain ⟨I, E, n⟩ := EE out s xs b
  rw [wJ, y, E]
  by_cases m : mR x = true
  ·rw [LB m] at i
   simp only [cJ] at i
   rcases cX out with h | ⟨A, z, h⟩
   ·subst h
    simp only [aA, bP, Option.all, List.getLast?_nil, m] at *
    rw [i, n]
    generalize pg x b = p
    generalize kv b zS = q
    cases p <;> cases q <;> simp
   ·have r : out = A ++ [z] := by rw [h]; simp
    have d : out.getLast? = some z := by rw [r]; simp
    have j : kF out (wi0 .i64 ((out.length : Int) - 1)) = some z := by rw [r]; exact EQ A z (by rw [r] at s; simp at s; omega)
    have u : ((out.length : Int) == 0) = false := by rw [r]; simp; omega
    rw [d] at i n ⊢
    simp only [u, j, aA, Option.all, Sp, m]
    rw [i, n]
    rcases dR (pg x b) with hp | hp <;> rcases dR (pg z x) with v | v <;> rcases dR (kv b zS) with w | w <;> simp [hp, v, w]
  ·simp only [fC] at m
   rw [m, n]
   simp
theorem NY (a : List jm) : ∀ (n : Nat) (out s : List jm), yQ 136 lm zP (⟨0, ⟨zS, zS⟩, zS, ⟨zS, zS⟩, ⟨zS, zS⟩, zS⟩ : jm) a n out = some s → s.length < 4611686018427387904 → vz a n out = some s ∧ out.length ≤ s.length
 | 0, out, s, h, _ => by cases h
 | n + 1, out, s, h, j => by
  rw [yQ] at h
  rw [vz]
  have key : out.length ≤ s.length → rF out a false (⟨0, ⟨zS, zS⟩, zS, ⟨zS, zS⟩, ⟨zS, zS⟩, zS⟩ : jm) = _ := fun m => EK out (by omega) a false _
  split at h
  ·rename_i h1
   cases h
   rw [key (aR _)]
   simp only [aA]
   rw [aZ h1]
   exact ⟨rfl, aR _⟩
  ·rename_i h1
   obtain ⟨o, b, d⟩ := bind_some h
   have i := NY a n o s d j
   have l : out.length + 1 = o.length := by
    unfold lC at b; split at b
    ·cases b; simp
    ·cases b
   rw [key (by omega)]
   simp only [aA]
   rw [aY h1, b]
   exact ⟨i.1, by omega⟩
theorem Oe (a : List ByteArray) : ∀ (n : Nat) (out s : List ByteArray), yQ 16 mR pg zS a n out = some s → s.length < 4611686018427387904 → vE a n out = some s ∧ out.length ≤ s.length
 | 0, out, s, h, _ => by cases h
 | n + 1, out, s, h, m => by
  rw [yQ] at h
  rw [vE]
  have key : out.length ≤ s.length → ∃ d, rJ out a zS = some d ∧ qa mR pg out.getLast? a false zS = (!kv d zS, d) := fun q => by
   have := EE out (by omega) a zS
   rw [tP] at this
   exact this
  split at h
  ·rename_i h1
   cases h
   obtain ⟨d, i, k2⟩ := key (aR _)
   rw [i]
   rw [k2] at h1
   simp only [aA]
   rw [aZ (by simpa using h1)]
   exact ⟨rfl, aR _⟩
  ·rename_i h1
   obtain ⟨o, b, j⟩ := bind_some h
   have l := Oe a n o s j m
   have p : out.length + 1 = o.length := by
    unfold lC at b; split at b
    ·cases b; simp
    ·cases b
   obtain ⟨d, i, k2⟩ := key (by omega)
   rw [i]
   rw [k2] at h1 b
   simp only [aA]
   rw [aY (by simpa using h1), b]
   exact ⟨l.1, by omega⟩
abbrev Ps (l s : List ByteArray) := uM (fun a b => pg a b = true) (fun x => mR x = true) l s
abbrev IF (l s : List jm) := uM (fun a b => zP a b = true) (fun x => lm x = true) l s
theorem zO {α : Type} {lt : α → α → Bool} {R : α → Bool} (H : yW (fun a b => lt a b = true) (fun x => R x = true)) {l s : List α} (h : uM (fun a b => lt a b = true) (fun x => R x = true) l s) : s.length ≤ l.length :=
 lP (sW H (fun x d => ((h.2 x).1 d).2) h.1) (fun x d => ((h.2 x).1 d).1)
theorem JX (l : List jm) (d : l.length ≤ 1000000000) : ∃ s, yw l = some s ∧ IF l s := by
 obtain ⟨s, h1, b⟩ := AB BP (w := 136) (by omega) (⟨0, ⟨zS, zS⟩, zS, ⟨zS, zS⟩, ⟨zS, zS⟩, zS⟩ : jm) l d jP [] (by rw [vA]; omega) (by simp) (by simp) (fun x _ _ => .inr rfl)
 exact ⟨s, (NY l jP [] s h1 (by have := zO BP b; omega)).1, b⟩
theorem OC (l : List ByteArray) (d : l.length ≤ 1000000000) : ∃ s, AT l = some s ∧ Ps l s := by
 obtain ⟨s, h1, b⟩ := AB (Od (fun x => mR x = true)) (w := 16) (by omega) zS l d jP [] (by rw [vA]; omega) (by simp) (by simp) (fun x _ _ => .inr rfl)
 exact ⟨s, (Oe l jP [] s h1 (by have := zO (Od _) b; omega)).1, b⟩
def zC : jm := ⟨0, ⟨zS, zS⟩, zS, ⟨zS, zS⟩, ⟨zS, zS⟩, zS⟩
theorem JT (f : jm → Option Bool) : ∀ (n : Nat) (l : List jm) (i j : Int), mT f n l i j = Ca f zC n l i j
 | 0, _, _, _ => rfl
 | n + 1, l, i, j => by
  rw [mT, Ca]
  simp only [JT f n]
  rfl
theorem GP (f : jm → Option Bool) : ∀ (l : List jm) (i : Nat), nN f l i = xn f l i
 | [], _ => rfl
 | x :: l, i => by rw [nN, xn]; simp only [GP f l]
theorem M9 (f : jm → Option Bool) (l : List jm) : pN l f = Gw f zC l := by
 unfold pN Gw oB
 simp only [GP, JT]
theorem Iz (i : Int) : ∀ (n : Nat) (l : List jm) (k j : Int), nr i n l k j = Ai ko i n l k j
 | 0, _, _, _ => rfl
 | n + 1, l, k, j => by
  rw [nr, Ai]
  simp only [Iz i n]
theorem H3 (l : List jm) : ∀ (n : Nat) (i : Int), nx l n i = AR ko zC l n i
 | 0, _ => rfl
 | n + 1, i => by
  rw [nx, AR]
  simp only [H3 l n, Iz]
  rfl
theorem NJ (l : List jm) : qQ l = Im ko zC l := by
 unfold qQ Im
 simp only [H3]
theorem Qd {l : List jm} (b : l.length ≤ 1000000000) : qh l = some l := by
 unfold qh
 rw [lD (by simp; omega) (by simp; omega)]
 simp
theorem Pu (l : List jm) (h : l.length ≤ 1000000000) : ∃ s, xx l = some s ∧ IF l s := by
 unfold xx
 rw [Qd h]
 simp only [aA]
 rw [M9, Ih _ (fun x => !lm x) zC l (by omega) (fun x _ => by simp [wj, uK])]
 simp only [aA, gp]
 have m : (l.filter fun x => lm x).length ≤ l.length := eH _ _
 obtain ⟨s, h1, j, d⟩ := Em (eq := ko) (lt := fun a b => zP a b = true) (P := fun x => lm x = true) (cf := fun x => rK x.1 x.2) (l := l.filter fun x => lm x) (fun x y => pd) BP (fun x i => (cR.1 i).2) (by omega) (fun x y _ _ => D6 x y)
 rw [h1]
 simp only [aA]
 rw [NJ, I2 _ _ _ (by omega)]
 refine ⟨_, rfl, d.1, fun x => ?_⟩
 rw [d.2]
 simp
def tt {κ : Type} (ks : List κ) : List (κ × Bool) := ks.map fun k => (k, true)
def mM {κ : Type} (beq : κ → κ → Bool) (ks : List κ) (k : κ) : Bool := ks.any fun x => beq k x
def ins {κ : Type} (beq : κ → κ → Bool) (ks : List κ) (k : κ) : List κ := if mM beq ks k then ks else ks ++ [k]
section
variable {κ : Type} {beq : κ → κ → Bool}
theorem ub (b : ∀ {x y}, beq x y = true ↔ x = y) (ks : List κ) (k : κ) : mM beq ks k = true ↔ k ∈ ks := by
 simp [mM, dU, b]
theorem LX (ks : List κ) : (tt ks).length = ks.length := by simp [tt]
theorem MN (ks : List κ) (k : κ) : yt beq (tt ks) k false = mM beq ks k := by
 unfold yt kE mM tt
 induction ks with
 | nil => rfl
 | cons x xs ih =>
  simp only [bF, fN, fh]
  cases h : beq k x with
  | true => simp
  | false => simpa using ih
theorem OQ (n : ∀ {x y}, beq x y = true ↔ x = y) (ks : List κ) (k : κ) : ns beq (tt ks) k true = tt (ins beq ks k) := by
 unfold ns ins
 have q : (tt ks).findIdx? (fun p => beq k p.1) = ks.findIdx? (fun x => beq k x) := by
  unfold tt; rw [ga]; rfl
 rw [q]
 cases h : ks.findIdx? (fun x => beq k x) with
 | none =>
  rw [fE] at h
  rw [aY]
  ·simp [tt]
  ·intro d
   unfold mM at d
   rw [dU] at d
   obtain ⟨x, r, b⟩ := d
   rw [h x r] at b
   cases b
 | some i =>
  rw [dV] at h
  obtain ⟨m, h1, _⟩ := h
  have e := n.1 h1
  rw [aZ]
  ·simp only [tt]
   apply eu
   intro j
   rw [eK]
   split
   ·rename_i l
    subst l
    simp [m, e]
   ·rfl
  ·unfold mM
   exact dU.2 ⟨ks[i], List.getElem_mem m, h1⟩
end
section
variable {all : List jm} {wants : List jl} {T : List jl} {W : List ByteArray} {R : List jm}
def nG (c : jm) : List jl := if c.Kind = 1 then [] else if c.Kind = 4 then [c.B, c.C] else [c.B]
end
theorem xS (x : jm) : ∀ l : List jm, rA l x = some (mM ko l x)
 | [] => rfl
 | y :: l => by
  have ih := xS x l
  unfold rA at ih ⊢
  rw [vt, ih]
  have : ko y x = ko x y := by rw [bI, pd, pd]; exact eq_comm
  rw [this]
  simp only [mM, fh]
  cases ko x y <;> simp
theorem Pq {c : jm} (h : lm c = true) : xr c = some (c.Head :: nG c) := by
 unfold xr
 rw [uK, h]
 simp only [aA, bU, aB, aG]
 have b : c.Kind = 1 ∨ c.Kind = 2 ∨ c.Kind = 3 ∨ c.Kind = 4 := by rcases nL h with h | h | h | h <;> simp [h.1]
 rcases b with k | k | k | k
 ·simp [k, nG]
 ·rw [aZ (by simp [k]), lD (by simp) (by simp)]
  simp [k, nG]
 ·rw [aZ (by simp [k]), lD (by simp) (by simp)]
  simp [k, nG]
 ·rw [aZ (by simp [k]), lD (by simp) (by simp)]
  simp only [aA]
  rw [aZ (by simp [k]), lD (by simp) (by simp)]
  simp [k, nG]
theorem uM.congr {α : Type} {lt : α → α → Prop} {P : α → Prop} {l m s : List α} (h : uM lt P l s) (hm : ∀ x, x ∈ l ↔ x ∈ m) : uM lt P m s := ⟨h.1, fun x => by rw [h.2, hm]⟩
theorem OV {κ : Type} (ks : List κ) : (tt ks).map (·.1) = ks := by simp [tt, fk]
def wv (c : jm) : Nat := c.Head.jo.size + c.Head.Word.size + c.ke.size + c.B.jo.size + c.B.Word.size + c.C.jo.size + c.C.Word.size + c.kp.size
section
variable {κ γ : Type} {beq : κ → κ → Bool}
theorem pJ (b : ∀ {x y}, beq x y = true ↔ x = y) {A B : List (κ × γ)} {k : κ} {x : γ} (d : ∀ p ∈ A, p.1 ≠ k) : kE beq (A ++ (k, x) :: B) k = some x := by
 unfold kE
 rw [iC]
 have : A.find? (fun p => beq k p.1) = none := fT.2 (fun p hp h => d p hp (b.1 h).symm)
 rw [this]
 simp [b.2 (rfl : k = k)]
theorem uv (b : ∀ {x y}, beq x y = true ↔ x = y) {l : List (κ × γ)} {k : κ} (h : ∀ p ∈ l, p.1 ≠ k) : kE beq l k = none := by
 unfold kE
 rw [fT.2 (fun p hp d => h p hp (b.1 d).symm)]
 rfl
theorem vx (b : ∀ {x y}, beq x y = true ↔ x = y) {A B : List (κ × γ)} {k : κ} {x y : γ} (d : ∀ p ∈ A, p.1 ≠ k) : ns beq (A ++ (k, x) :: B) k y = A ++ (k, y) :: B := by
 have h1 : (A ++ (k, x) :: B).findIdx? (fun p => beq k p.1) = some A.length := by
  rw [gB, fE.2 (fun p hp => by
   cases h : beq k p.1 with
   | false => rfl
   | true => exact absurd (b.1 h).symm (d p hp))]
  simp [eG, b.2 (rfl : k = k)]
 rw [pS h1]
 simp
theorem BK (b : ∀ {x y}, beq x y = true ↔ x = y) {l : List (κ × γ)} {k : κ} {y : γ} (h : ∀ p ∈ l, p.1 ≠ k) : ns beq l k y = l ++ [(k, y)] := by
 refine tM (fE.2 (fun p hp => ?_)) y
 cases d : beq k p.1 with
 | false => rfl
 | true => exact absurd (b.1 d).symm (h p hp)
theorem sG (k : κ) : ∀ (l : List (κ × γ)), (∀ p ∈ l, p.1 ≠ k) ∨ ∃ A x B, l = A ++ (k, x) :: B ∧ ∀ p ∈ A, p.1 ≠ k
 | [] => .inl (fun _ h => by cases h)
 | p :: l => by
  by_cases hp : p.1 = k
  ·exact .inr ⟨[], p.2, l, by rw [← hp]; rfl, fun _ h => by cases h⟩
  ·rcases sG k l with h | ⟨A, x, B, rfl, h⟩
   ·exact .inl (fun q b => by rcases aK.1 b with rfl | b; exact hp; exact h q b)
   ·exact .inr ⟨p :: A, x, B, rfl, fun q b => by rcases aK.1 b with rfl | b; exact hp; exact h q b⟩
theorem EJ (b : ∀ {x y}, beq x y = true ↔ x = y) (A B : List (κ × γ)) (k : κ) : kE beq (A ++ B) k = (kE beq A k).or (kE beq B k) := by
 unfold kE
 rw [iC]
 cases A.find? (fun p => beq k p.1) <;> rfl
theorem As (p : κ × γ) (l : List (κ × γ)) (k : κ) : kE beq (p :: l) k = if beq k p.1 = true then some p.2 else kE beq l k := by
 unfold kE
 rw [fN]
 cases beq k p.1 <;> simp
theorem Dm (b : ∀ {x y}, beq x y = true ↔ x = y) (l : List (κ × γ)) (k k2 : κ) (y : γ) : kE beq (ns beq l k y) k2 = if beq k2 k = true then some y else kE beq l k2 := by
 rcases sG k l with h | ⟨A, x, B, rfl, h⟩
 ·rw [BK b h, EJ b, As]
  by_cases hk : beq k2 k = true
  ·have := b.1 hk
   subst this
   rw [aZ hk, aZ hk, uv b h]; rfl
  ·rw [aY hk, aY hk]
   show (kE beq l k2).or none = _
   cases kE beq l k2 <;> rfl
 ·rw [vx b h, EJ b, As, EJ b, As]
  by_cases hk : beq k2 k = true
  ·have := b.1 hk
   subst this
   rw [aZ hk, aZ hk, uv b h]; rfl
  ·rw [aY hk, aY hk, aY hk]
end
abbrev oa := List (jl × List ByteArray)
def mm (T : oa) : List (jl × List (ByteArray × Bool)) := T.map fun p => (p.1, tt p.2)
def qt (T : oa) (r : jl) : List ByteArray := (kE jG T r).getD []
def FS (T : oa) : List jz := T.flatMap fun p => p.2.map fun w => (⟨p.1, w⟩ : jz)
def Ds (T : oa) (r : jl) (w : ByteArray) : oa := ns jG T r (qt T r ++ [w])
theorem CN (A B : oa) : mm (A ++ B) = mm A ++ mm B := by simp [mm]
theorem xW {A : oa} {r : jl} (h : ∀ p ∈ A, p.1 ≠ r) : ∀ p ∈ mm A, p.1 ≠ r := by
 intro p hp
 simp only [mm, bH] at hp
 obtain ⟨q, b, rfl⟩ := hp
 exact h q b
theorem OI (T : oa) (r : jl) : kE jG (mm T) r = (kE jG T r).map tt := by
 rcases sG r T with h | ⟨A, x, B, rfl, h⟩
 ·rw [uv jH h, uv jH (xW h)]; rfl
 ·rw [pJ jH h, CN]
  exact pJ jH (xW h)
theorem Kc (T : oa) (r : jl) : (kE jG (mm T) r).getD [] = tt (qt T r) := by
 rw [OI, qt]; cases kE jG T r <;> rfl
theorem FF (T : oa) (r : jl) (w : ByteArray) : (FS (Ds T r w)).Perm (FS T ++ [(⟨r, w⟩ : jz)]) := by
 unfold Ds qt
 rcases sG r T with h | ⟨A, x, B, rfl, h⟩
 ·rw [BK jH h, uv jH h]
  simp [FS]
 ·rw [vx jH h, pJ jH h]
  simp only [FS, gL, gq, gv, bY, bF, ez, aI]
  refine bV _ (bV _ ?_)
  exact ed
theorem Nf {T : oa} (hk : (T.map (·.1)).Nodup) (r : jl) (w : ByteArray) : ((Ds T r w).map (·.1)).Nodup := by
 unfold Ds
 rcases sG r T with h | ⟨A, x, B, rfl, h⟩
 ·rw [BK jH h]
  simp only [bY, bF, ez]
  refine bQ.2 ⟨hk, by simp, fun a ha b d e => ?_⟩
  simp at d; subst d; subst e
  obtain ⟨p, hp, e⟩ := bH.1 ha
  exact h p hp e
 ·rw [vx jH h]
  simpa using hk
theorem Ad {T : oa} (hk : (T.map (·.1)).Nodup) (f : jz) : f ∈ FS T ↔ f.ke ∈ qt T f.jl := by
 simp only [FS, iO, bH]
 constructor
 ·rintro ⟨p, hp, w, hw, rfl⟩
  obtain ⟨A, B, rfl⟩ := List.append_of_mem hp
  have b : ∀ q ∈ A, q.1 ≠ p.1 := fun q i e => by
   rw [bY, bF] at hk
   exact (bQ.1 hk).2.2 q.1 (bH.2 ⟨q, i, rfl⟩) p.1 (by simp) e
  rw [qt, show p = (p.1, p.2) from rfl, pJ jH b]
  exact hw
 ·intro h
  unfold qt at h
  rcases sG f.jl T with d | ⟨A, x, B, rfl, b⟩
  ·rw [uv jH d] at h; cases h
  ·rw [pJ jH b] at h
   exact ⟨(f.jl, x), by simp, f.ke, h, rfl⟩
theorem Je {T : oa} (h : (FS T).Nodup) (r : jl) : (qt T r).Nodup := by
 unfold qt
 rcases sG r T with d | ⟨A, x, B, rfl, b⟩
 ·rw [uv jH d]; simp
 ·rw [pJ jH b]
  simp only [FS, gL, gq] at h
  have h1 := (bQ.1 (bQ.1 h).2.1).1
  simp only [List.Nodup, fl] at h1
  exact h1.imp (fun h e => h (by rw [e]))
inductive nU (C : List jm) : jz → Prop
 | mem (c) : c ∈ C → c.Kind = 1 → nU C ⟨c.Head, c.ke⟩
 | inc (c w) : c ∈ C → c.Kind = 2 → nU C ⟨c.B, w⟩ → nU C ⟨c.Head, w⟩
 | E7 (c b w) : c ∈ C → c.Kind = 3 → nU C ⟨c.B, b⟩ → nU C ⟨⟨b, c.kp⟩, w⟩ → nU C ⟨c.Head, w⟩
 | both (c w) : c ∈ C → c.Kind = 4 → nU C ⟨c.B, w⟩ → nU C ⟨c.C, w⟩ → nU C ⟨c.Head, w⟩
theorem nU.mono {C C' : List jm} (h : ∀ c ∈ C, c ∈ C') {f : jz} (l : nU C f) : nU C' f := by
 induction l with
 | mem c d hk => exact .mem c (h c d) hk
 | inc c w d hk _ ih => exact .inc c w (h c d) hk ih
 | E7 c b w d hk _ _ i j => exact .E7 c b w (h c d) hk i j
 | both c w d hk _ _ i j => exact .both c w (h c d) hk i j
def El (C : List jm) : List jz := (C.map (·.Head)).flatMap fun r => (C.map (·.ke)).map fun w => (⟨r, w⟩ : jz)
theorem Ce (C : List jm) : (El C).length = C.length * C.length := by
 unfold El
 have : ∀ l : List jl, (l.flatMap fun r => (C.map (·.ke)).map fun w => (⟨r, w⟩ : jz)).length = l.length * C.length := fun l => by
  induction l with
  | nil => simp
  | cons x l ih => simp only [gq, aC, ih, cZ, aH, cM]; omega
 rw [this, cZ]
theorem Pg {C : List jm} {r : jl} {w : ByteArray} : (⟨r, w⟩ : jz) ∈ El C ↔ (∃ c ∈ C, c.Head = r) ∧ ∃ c ∈ C, c.ke = w := by
 unfold El
 simp only [iO, bH, jz.mk.injEq]
 constructor
 ·rintro ⟨i, ⟨c, h, rfl⟩, j, ⟨d, b, rfl⟩, rfl, rfl⟩; exact ⟨⟨c, h, rfl⟩, d, b, rfl⟩
 ·rintro ⟨⟨c, h, rfl⟩, d, b, rfl⟩; exact ⟨_, ⟨c, h, rfl⟩, _, ⟨d, b, rfl⟩, rfl, rfl⟩
theorem nU.Jt {C : List jm} {f : jz} (h : nU C f) : ∃ c ∈ C, c.Kind = 1 ∧ c.ke = f.ke := by
 induction h with
 | mem c j hk => exact ⟨c, j, hk, rfl⟩
 | inc c w j hk _ ih => exact ih
 | E7 c b w j hk _ _ d i => exact i
 | both c w j hk _ _ d i => exact d
theorem nU.head {C : List jm} {f : jz} (h : nU C f) : ∃ c ∈ C, c.Head = f.jl := by
 cases h with
 | mem c d hk => exact ⟨c, d, rfl⟩
 | inc c w d hk _ => exact ⟨c, d, rfl⟩
 | E7 c b w d hk _ _ => exact ⟨c, d, rfl⟩
 | both c w d hk _ _ => exact ⟨c, d, rfl⟩
theorem nU.El {C : List jm} {f : jz} (h : nU C f) : f ∈ El C := by
 obtain ⟨c, b, _, hw⟩ := h.Jt
 exact Pg.2 ⟨h.head, c, b, hw⟩
structure po (C : List jm) (T : oa) (td : List jz) (n : Int) : Prop where
 keys : (T.map (·.1)).Nodup
 nd : (FS T).Nodup
 Jw : td.Nodup
 sub : ∀ f ∈ td, f ∈ FS T
 num : n = (FS T).length
 vK : ∀ f ∈ FS T, nU C f
theorem po.len {C : List jm} {T : oa} {d : List jz} {n : Int} (h : po C T d n) : (FS T).length ≤ C.length * C.length := by
 rw [← Ce]; exact lP h.nd (fun f b => (h.vK f b).El)
theorem po.QD {C : List jm} {T : oa} {b : List jz} {n : Int} (h : po C T b n) : b.length ≤ (FS T).length := lP h.Jw h.sub
theorem po.mono {C C' : List jm} {T : oa} {b : List jz} {n : Int} (h : po C T b n) (d : ∀ c ∈ C, c ∈ C') : po C' T b n := ⟨h.keys, h.nd, h.Jw, h.sub, h.num, fun f i => (h.vK f i).mono d⟩
structure yL (T : oa) (td : List jz) (T' : oa) (td' : List jz) : Prop where
 lF : ∀ f ∈ FS T, f ∈ FS T'
 todo : ∀ f ∈ td, f ∈ td'
 new : ∀ f ∈ FS T', f ∈ FS T ∨ f ∈ td'
 fresh : ∀ f ∈ td', f ∈ td ∨ f ∉ FS T
theorem yL.refl (T : oa) (b : List jz) : yL T b T b := ⟨fun _ h => h, fun _ h => h, fun _ h => .inl h, fun _ h => .inl h⟩
theorem yL.trans {T T' T'' : oa} {l j b : List jz} (h : yL T l T' j) (k : yL T' j T'' b) : yL T l T'' b :=
 ⟨fun f d => k.lF f (h.lF f d), fun f d => k.todo f (h.todo f d), fun f d => by
  rcases k.new f d with h1 | h1
  ·rcases h.new f h1 with i | i
   ·exact .inl i
   ·exact .inr (k.todo f i)
  ·exact .inr h1, fun f d => by
  rcases k.fresh f d with h1 | h1
  ·exact h.fresh f h1
  ·exact .inr (fun i => h1 (h.lF f i))⟩
theorem F7 {α : Type} (p : α → Bool) : ∀ l : List α, (l.filter p).length + (l.filter fun x => !p x).length = l.length
 | [] => rfl
 | x :: l => by
  have := F7 p l
  cases h : p x <;> simp [h] <;> omega
theorem po.Ek {C C' : List jm} {T T' : oa} {i d : List jz} {n q : Int} (j : po C' T' d q) (g : po C T i n) (x : yL T i T' d) : d.length + (FS T).length ≤ i.length + (FS T').length := by
 classical
 have h1 : (d.filter fun f => decide (f ∈ FS T)).length ≤ i.length := lP (j.Jw.filter _) (fun f l => by
  have := cR.1 l
  rcases x.fresh f this.1 with h | h
  ·exact h
  ·exact absurd (by simpa using this.2) h)
 have m : (FS T ++ d.filter fun f => !decide (f ∈ FS T)).length ≤ (FS T').length := lP (bQ.2 ⟨g.nd, j.Jw.filter _, fun a ha b p e => by
  subst e
  have := (cR.1 p).2
  simp [ha] at this⟩) (fun f l => by
  rcases aN.1 l with h | h
  ·exact x.lF f h
  ·exact j.sub f (cR.1 h).1)
 have r : (d.filter fun f => decide (f ∈ FS T)).length + (d.filter fun f => !decide (f ∈ FS T)).length = d.length := by
  exact F7 (fun f => decide (f ∈ FS T)) d
 rw [aC] at m
 omega
def A4 (C : List jm) (T : oa) (i : List jz) (d : Option (List (jl × List (ByteArray × Bool)) × List jz × Int)) (Q : oa → Prop) : Prop :=
 ∃ T' b h, d = some (mm T', b, h) ∧ po C T' b h ∧ yL T i T' b ∧ Q T'
theorem A4.mono {C : List jm} {T : oa} {j : List jz} {b : Option (List (jl × List (ByteArray × Bool)) × List jz × Int)} {Q Q' : oa → Prop} (h : A4 C T j b Q) (n : ∀ T', (∀ f ∈ FS T, f ∈ FS T') → Q T' → Q' T') : A4 C T j b Q' := by
 obtain ⟨T', d, p, h1, l, i, m⟩ := h
 exact ⟨T', d, p, h1, l, i, n T' i.lF m⟩
def pL (C : List jm) : Prop := C.length ≤ 1000000
theorem pL.sq {C : List jm} (h : pL C) : C.length * C.length ≤ 1000000000000 := Nat.mul_le_mul h h
theorem rj {T : oa} (hk : (T.map (·.1)).Nodup) (r : jl) (w : ByteArray) : yt kv ((kE jG (mm T) r).getD []) w false = true ↔ (⟨r, w⟩ : jz) ∈ FS T := by
 rw [Kc, MN, ub lH, Ad hk]
theorem Bw {C : List jm} (E : pL C) {T : oa} {p : List jz} {n : Int} (h : po C T p n) (cs : List jm) (O : List (jl × List jm)) (ws : List (ByteArray × List jm)) {r : jl} {w : ByteArray} (G : nU C ⟨r, w⟩) :
  A4 C T p (nf (mm T) cs O ws p n r w) (fun T' => (⟨r, w⟩ : jz) ∈ FS T') := by
 unfold nf
 have J := E.sq
 have P := h.len
 have L := h.QD
 by_cases i : (⟨r, w⟩ : jz) ∈ FS T
 ·rw [aZ ((rj h.keys r w).2 i)]
  exact ⟨T, p, n, rfl, h, yL.refl _ _, i⟩
 ·rw [aY (fun v => i ((rj h.keys r w).1 v))]
  have I : po C (Ds T r w) (p ++ [⟨r, w⟩]) (n + 1) := by
   have hp := FF T r w
   refine ⟨Nf h.keys r w, (hp.nodup_iff).2 (bQ.2 ⟨h.nd, by simp, fun a ha b s e => ?_⟩), bQ.2 ⟨h.Jw, by simp, fun a ha b s e => ?_⟩, fun f d => hp.mem_iff.2 ?_, ?_, fun f d => ?_⟩
   ·simp at s; subst s; subst e; exact i ha
   ·simp at s; subst s; subst e; exact i (h.sub _ ha)
   ·rcases aN.1 d with d | d
    ·exact cC _ (h.sub f d)
    ·exact dO _ d
   ·rw [hp.length_eq, h.num]; simp
   ·rcases aN.1 (hp.mem_iff.1 d) with d | d
    ·exact h.vK f d
    ·simp at d; subst d; exact G
  have y : ((if (kE jG (mm T) r).isNone = true then ((EV jG (mm T) r []).bind fun l => some l) else some (mm T)) : Option _).bind (fun l => (EA jG kv l r w true)) = some (mm (Ds T r w)) := by
   unfold Ds qt
   rcases sG r T with m | ⟨A, x, B, rfl, u⟩
   ·have t := uv jH (xW m)
    rw [t, uv jH m, BK jH m, CN]
    simp only [Option.isNone_none, aJ, EV, t, aA]
    rw [BK jH (xW m)]
    unfold EA
    rw [pJ jH (xW m)]
    simp only [dZ]
    rw [vx jH (xW m)]
    rfl
   ·have q := xW u
    have z : kE jG (mm (A ++ (r, x) :: B)) r = some (tt x) := by rw [CN]; exact pJ jH q
    rw [z, pJ jH u, vx jH u]
    simp only [Option.isNone_some, aB, aG, aA, EA, z, dZ, gv]
    have M : w ∉ x := fun hw => i (by
     rw [Ad h.keys, qt, pJ jH u]; exact hw)
    rw [OQ lH]
    rw [show ins kv x w = x ++ [w] from by unfold ins; rw [aY (fun v => M ((ub lH x w).1 v))]]
    rw [CN, show mm ((r, x) :: B) = (r, tt x) :: mm B from rfl, vx jH q, CN]
    rfl
  refine ⟨Ds T r w, p ++ [⟨r, w⟩], n + 1, ?_, I, ⟨fun f d => (FF T r w).mem_iff.2 (cC _ d), fun f d => cC _ d, fun f d => ?_, fun f d => ?_⟩, (FF T r w).mem_iff.2 (by simp)⟩
  ·have j := y
   generalize ((if (kE jG (mm T) r).isNone = true then ((EV jG (mm T) r []).bind fun l => some l) else some (mm T)) : Option _) = o at j
   cases o with
   | none => cases j
   | some l =>
    simp only [aA] at j ⊢
    rw [j]
    simp only [aA]
    rw [lD (by simp; omega) (by simp; omega)]
    simp only [aA]
    rw [jZ (by rw [h.num]; omega) (by rw [h.num]; omega)]
  ·rcases aN.1 ((FF T r w).mem_iff.1 d) with h1 | h1
   ·exact .inl h1
   ·exact .inr (dO _ h1)
  ·rcases aN.1 d with h1 | h1
   ·exact .inl h1
   ·simp at h1; subst h1; exact .inr i
theorem yj (l : List ByteArray) (x : ByteArray) : x ∈ tz l ↔ x ∈ l := by unfold tz; simp
def qL (C : List jm) : Prop := ∀ c ∈ C, lm c = true
theorem Me {c : jm} (h : lm c = true) (hk : c.Kind = 1) : c.ke.size ≤ 16 := by
 rcases nL h with h | h | h | h
 ·exact (nz h.2.1).2
 ·exact absurd (hk.symm.trans h.1) (by decide)
 ·exact absurd (hk.symm.trans h.1) (by decide)
 ·exact absurd (hk.symm.trans h.1) (by decide)
theorem MT {T : oa} (r : jl) (hk : (T.map (·.1)).Nodup) : (qt T r).length ≤ (FS T).length := by
 unfold qt
 rcases sG r T with d | ⟨A, x, B, rfl, b⟩
 ·rw [uv jH d]; simp
 ·rw [pJ jH b]
  simp only [FS, gL, gq, aC, cZ, gv]
  omega
theorem FL {C : List jm} (b : pL C) (d : qL C) {T : oa} {l : List jz} {n : Int} (h : po C T l n) (cs : List jm) (m : List (jl × List jm)) (ws : List (ByteArray × List jm)) (q : List jz) (z : Int) (r : jl) :
  py (mm T) cs m ws q z r = some (tz (qt T r)) := by
 unfold py nP
 rw [Kc]
 simp only [aA, nK]
 have u := MT r h.keys
 have s := h.len
 have t := b.sq
 unfold E4
 rw [OV, aZ]
 refine ⟨Je h.nd r, fun p hp => ?_, by rw [LX]; omega⟩
 simp only [tt, bH] at hp
 obtain ⟨w, hw, rfl⟩ := hp
 have j := h.vK ⟨r, w⟩ ((Ad h.keys ⟨r, w⟩).2 hw)
 obtain ⟨c, i, hk, e⟩ := j.Jt
 have := Me (d c i) hk
 simp only at e ⊢
 rw [← e]
 unfold maxLen
 omega
theorem Lv {C : List jm} (m : pL C) (cs : List jm) (j : List (jl × List jm)) (ws : List (ByteArray × List jm)) (head : jl) : ∀ (l : List ByteArray) {T : oa} {b : List jz} {n : Int}, po C T b n → (∀ w ∈ l, nU C ⟨head, w⟩) →
  A4 C T b (oT cs j ws head l (mm T) b n) (fun T' => ∀ w ∈ l, (⟨head, w⟩ : jz) ∈ FS T')
 | [], T, b, n, h, _ => ⟨T, b, n, rfl, h, yL.refl _ _, fun _ hw => by cases hw⟩
 | w :: l, T, b, n, h, p => by
  rw [oT]
  obtain ⟨T1, x, y, q, g1, x1, t⟩ := Bw m h cs j ws (p w (by simp))
  rw [q]
  simp only [aA]
  obtain ⟨T2, i, s, r, g2, x2, u⟩ := Lv m cs j ws head l g1 (fun w hw => p w (by simp [hw]))
  refine ⟨T2, i, s, r, g2, x1.trans x2, fun v d => ?_⟩
  rcases aK.1 d with rfl | d
  ·exact x2.lF _ t
  ·exact u v d
theorem Py {C : List jm} (d : pL C) (j : qL C) {T : oa} {b : List jz} {n : Int} (h : po C T b n) (cs : List jm) (i : List (jl × List jm)) (ws : List (ByteArray × List jm)) (r head : jl) (l : ∀ w, (⟨r, w⟩ : jz) ∈ FS T → nU C ⟨head, w⟩) :
  A4 C T b (se (mm T) cs i ws b n r head) (fun T' => ∀ w, (⟨r, w⟩ : jz) ∈ FS T → (⟨head, w⟩ : jz) ∈ FS T') := by
 unfold se
 rw [FL d j h]
 simp only [aA]
 refine (Lv d cs i ws head _ h (fun w hw => l w ((Ad h.keys ⟨r, w⟩).2 ((yj _ _).1 hw)))).mono (fun T' _ m w hw => m w ((yj _ _).2 ((Ad h.keys ⟨r, w⟩).1 hw)))
def DK (c : jm) (f : jz) (T T' : oa) : Prop :=
 (c.Kind = 2 → f.jl = c.B → (⟨c.Head, f.ke⟩ : jz) ∈ FS T') ∧
 (c.Kind = 3 → f.jl = c.B → ∀ w, (⟨⟨f.ke, c.kp⟩, w⟩ : jz) ∈ FS T → (⟨c.Head, w⟩ : jz) ∈ FS T') ∧
 (c.Kind = 4 → (⟨c.B, f.ke⟩ : jz) ∈ FS T → (⟨c.C, f.ke⟩ : jz) ∈ FS T → (⟨c.Head, f.ke⟩ : jz) ∈ FS T')
theorem DK.mono {c : jm} {f : jz} {T T' T0 T1 : oa} (h : DK c f T T') (i : ∀ f ∈ FS T0, f ∈ FS T) (h1 : ∀ f ∈ FS T', f ∈ FS T1) : DK c f T0 T1 :=
 ⟨fun a b => h1 _ (h.1 a b), fun a b w hw => h1 _ (h.2.1 a b w (i _ hw)), fun a b d => h1 _ (h.2.2 a (i _ b) (i _ d))⟩
theorem Of (x : Option (List (jl × List (ByteArray × Bool)) × List jz × Int)) : (x.bind fun r => some (r.1, r.2.1, r.2.2)) = x := by cases x <;> rfl
theorem Ly {C : List jm} (r : pL C) (z : qL C) {T : oa} {l : List jz} {n : Int} (h : po C T l n) (cs : List jm) (p : List (jl × List jm)) (ws : List (ByteArray × List jm)) {c : jm} (s : c ∈ C) {f : jz} (u : f ∈ FS T) (v : f.jl ∈ nG c) :
  A4 C T l (qf (mm T) cs p ws l n c f) (DK c f T) := by
 unfold qf
 simp only [Of, Cq]
 by_cases b : c.Kind = 2
 ·have q : f.jl = c.B := by simpa [nG, b] using v
  rw [aZ (by simp [b])]
  have t : nU C ⟨c.Head, f.ke⟩ := .inc c f.ke s b (by rw [← q]; exact h.vK f u)
  refine (Bw r h cs p ws t).mono (fun T' _ j => ⟨fun _ _ => j, fun k => absurd (b.symm.trans k) (by decide), fun k => absurd (b.symm.trans k) (by decide)⟩)
 rw [aY (by simp [b])]
 by_cases d : c.Kind = 3
 ·have q : f.jl = c.B := by simpa [nG, d] using v
  rw [aZ (by simp [d])]
  refine (Py r z h cs p ws ⟨f.ke, c.kp⟩ c.Head (fun w hw => .E7 c f.ke w s d (by rw [← q]; exact h.vK f u) (h.vK _ hw))).mono (fun T' _ j => ⟨fun k => absurd k b, fun _ _ w hw => j w hw, fun k => absurd (d.symm.trans k) (by decide)⟩)
 rw [aY (by simp [d])]
 by_cases m : c.Kind = 4
 ·rw [aZ (by simp [m])]
  simp only [aA]
  by_cases i : (⟨c.B, f.ke⟩ : jz) ∈ FS T ∧ (⟨c.C, f.ke⟩ : jz) ∈ FS T
  ·rw [aZ (by rw [aQ, rj h.keys, rj h.keys]; exact i)]
   have t : nU C ⟨c.Head, f.ke⟩ := .both c f.ke s m (h.vK _ i.1) (h.vK _ i.2)
   exact (Bw r h cs p ws t).mono (fun T' _ j => ⟨fun k => absurd k b, fun k => absurd k d, fun _ _ _ => j⟩)
  ·rw [aY (by rw [aQ, rj h.keys, rj h.keys]; exact i)]
   exact ⟨T, l, n, rfl, h, yL.refl _ _, fun k => absurd k b, fun k => absurd k d, fun _ x y => absurd ⟨x, y⟩ i⟩
 ·rw [aY (by simp [m])]
  exact ⟨T, l, n, rfl, h, yL.refl _ _, fun k => absurd k b, fun k => absurd k d, fun k => absurd k m⟩
theorem H5 {C : List jm} (m : pL C) (p : qL C) (cs : List jm) (j : List (jl × List jm)) (ws : List (ByteArray × List jm)) {c : jm} (q : c ∈ C) (r : c.B ∈ nG c) : ∀ (l : List ByteArray) {T : oa} {b : List jz} {n : Int}, po C T b n → (∀ w ∈ l, (⟨c.B, w⟩ : jz) ∈ FS T) →
  A4 C T b (oq cs j ws c l (mm T) b n) (fun T' => ∀ w ∈ l, DK c ⟨c.B, w⟩ T T')
 | [], T, b, n, h, _ => ⟨T, b, n, rfl, h, yL.refl _ _, fun _ hw => by cases hw⟩
 | w :: l, T, b, n, h, hm => by
  rw [oq]
  obtain ⟨T1, z, A, s, g1, x1, x⟩ := Ly m p h cs j ws q (f := ⟨c.B, w⟩) (hm w (by simp)) r
  rw [s]
  simp only [aA]
  obtain ⟨T2, i, u, t, g2, x2, y⟩ := H5 m p cs j ws q r l g1 (fun w hw => x1.lF _ (hm w (by simp [hw])))
  refine ⟨T2, i, u, t, g2, x1.trans x2, fun v d => ?_⟩
  rcases aK.1 d with rfl | d
  ·exact x.mono (fun _ h => h) x2.lF
  ·exact (y v d).mono x1.lF (fun _ h => h)
def D9 (c : jm) (T : oa) (d : List jz) : Prop :=
 (c.Kind = 1 → (⟨c.Head, c.ke⟩ : jz) ∈ FS T) ∧
 (c.Kind = 2 → ∀ w, (⟨c.B, w⟩ : jz) ∈ FS T → (⟨c.B, w⟩ : jz) ∉ d → (⟨c.Head, w⟩ : jz) ∈ FS T) ∧
 (c.Kind = 3 → ∀ b w, (⟨c.B, b⟩ : jz) ∈ FS T → (⟨c.B, b⟩ : jz) ∉ d → (⟨⟨b, c.kp⟩, w⟩ : jz) ∈ FS T → (⟨⟨b, c.kp⟩, w⟩ : jz) ∉ d → (⟨c.Head, w⟩ : jz) ∈ FS T) ∧
 (c.Kind = 4 → ∀ w, (⟨c.B, w⟩ : jz) ∈ FS T → (⟨c.B, w⟩ : jz) ∉ d → (⟨c.C, w⟩ : jz) ∈ FS T → (⟨c.C, w⟩ : jz) ∉ d → (⟨c.Head, w⟩ : jz) ∈ FS T)
theorem D9.ext {c : jm} {T T' : oa} {j d : List jz} (h : D9 c T j) (x : yL T j T' d) : D9 c T' d := by
 have lF : ∀ f, f ∈ FS T' → f ∉ d → f ∈ FS T ∧ f ∉ j := fun f n l => by
  rcases x.new f n with h1 | h1
  ·exact ⟨h1, fun m => l (x.todo f m)⟩
  ·exact absurd h1 l
 refine ⟨fun k => x.lF _ (h.1 k), fun k w a b => ?_, fun k b w i a2 a3 a4 => ?_, fun k w i a2 a3 a4 => ?_⟩
 ·exact x.lF _ (h.2.1 k w (lF _ a b).1 (lF _ a b).2)
 ·exact x.lF _ (h.2.2.1 k b w (lF _ i a2).1 (lF _ i a2).2 (lF _ a3 a4).1 (lF _ a3 a4).2)
 ·exact x.lF _ (h.2.2.2 k w (lF _ i a2).1 (lF _ i a2).2 (lF _ a3 a4).1 (lF _ a3 a4).2)
theorem NU {C : List jm} (l : pL C) (s : qL C) {T : oa} {p : List jz} {n : Int} (h : po C T p n) (cs : List jm) (r : List (jl × List jm)) (ws : List (ByteArray × List jm)) {c : jm} (t : c ∈ C) :
  ∃ T' d i, qP (mm T) cs r ws p n c = some (mm T', d, i) ∧ po C T' d i ∧ yL T p T' d ∧ D9 c T' d := by
 unfold qP
 simp only [Of]
 by_cases h1 : c.Kind = 1
 ·rw [aZ (by simp [h1])]
  obtain ⟨T', d, i, e, g, x, q⟩ := Bw l h cs r ws (nU.mem c t h1)
  exact ⟨T', d, i, e, g, x, fun _ => q, fun k => absurd (h1.symm.trans k) (by decide), fun k => absurd (h1.symm.trans k) (by decide), fun k => absurd (h1.symm.trans k) (by decide)⟩
 ·rw [aY (by simp [h1]), FL l s h]
  simp only [aA]
  have y : c.B ∈ nG c := by unfold nG; rw [aY h1]; split <;> simp
  obtain ⟨T', d, i, e, g, x, q⟩ := H5 l s cs r ws t y (tz (qt T c.B)) h (fun w hw => (Ad h.keys ⟨c.B, w⟩).2 ((yj _ _).1 hw))
  have lF : ∀ f, f ∈ FS T' → f ∉ d → f ∈ FS T := fun f u v => by
   rcases x.new f u with h1 | h1
   ·exact h1
   ·exact absurd h1 v
  have m : ∀ w, (⟨c.B, w⟩ : jz) ∈ FS T → DK c ⟨c.B, w⟩ T T' := fun w hw => q w ((yj _ _).2 ((Ad h.keys ⟨c.B, w⟩).1 hw))
  refine ⟨T', d, i, e, g, x, fun k => absurd k h1, fun k w a b => ?_, fun k b w j a2 a3 a4 => ?_, fun k w j a2 a3 a4 => ?_⟩
  ·exact (m w (lF _ a b)).1 k rfl
  ·exact (m b (lF _ j a2)).2.1 k rfl w (lF _ a3 a4)
  ·exact (m w (lF _ j a2)).2.2 k (lF _ j a2) (lF _ a3 a4)
structure Dk (C : List jm) (us : List (jl × List jm)) (ws : List (ByteArray × List jm)) : Prop where
 M0 : ∀ r c, c ∈ (kE jG us r).getD [] ↔ c ∈ C ∧ r ∈ nG c
 word : ∀ w c, c ∈ (kE kv ws w).getD [] ↔ c ∈ C ∧ c.Kind = 3 ∧ c.kp = w
 P9 : ∀ r, ((kE jG us r).getD []).length ≤ 2 * C.length
 Qm : ∀ w, ((kE kv ws w).getD []).length ≤ C.length
theorem GV {C : List jm} (m : pL C) (p : qL C) (cs : List jm) (j : List (jl × List jm)) (ws : List (ByteArray × List jm)) {f : jz} : ∀ (l : List jm) {T : oa} {b : List jz} {n : Int}, po C T b n → f ∈ FS T → (∀ c ∈ l, c ∈ C ∧ f.jl ∈ nG c) →
  A4 C T b (nX cs j ws f l (mm T) b n) (fun T' => ∀ c ∈ l, DK c f T T')
 | [], T, b, n, h, _, _ => ⟨T, b, n, rfl, h, yL.refl _ _, fun _ hw => by cases hw⟩
 | c :: l, T, b, n, h, q, hm => by
  rw [nX]
  obtain ⟨T1, y, z, r, g1, x1, w⟩ := Ly m p h cs j ws (hm c (by simp)).1 q (hm c (by simp)).2
  rw [r]
  simp only [aA]
  obtain ⟨T2, i, u, s, g2, x2, x⟩ := GV m p cs j ws l g1 (x1.lF _ q) (fun c t => hm c (by simp [t]))
  refine ⟨T2, i, u, s, g2, x1.trans x2, fun v d => ?_⟩
  rcases aK.1 d with rfl | d
  ·exact w.mono (fun _ h => h) x2.lF
  ·exact (x v d).mono x1.lF (fun _ h => h)
theorem CU {C : List jm} (r : pL C) (y : qL C) (cs : List jm) (p : List (jl × List jm)) (ws : List (ByteArray × List jm)) {f : jz} : ∀ (l : List jm) {T : oa} {j : List jz} {n : Int}, po C T j n → f ∈ FS T → (∀ c ∈ l, c ∈ C ∧ c.Kind = 3 ∧ c.kp = f.jl.Word) →
  A4 C T j (nj f cs p ws l (mm T) j n) (fun T' => ∀ c ∈ l, (⟨c.B, f.jl.jo⟩ : jz) ∈ FS T → (⟨c.Head, f.ke⟩ : jz) ∈ FS T')
 | [], T, j, n, h, _, _ => ⟨T, j, n, rfl, h, yL.refl _ _, fun _ hw => by cases hw⟩
 | c :: l, T, j, n, h, t, hm => by
  rw [nj]
  have hk := hm c (by simp)
  by_cases m : (⟨c.B, f.jl.jo⟩ : jz) ∈ FS T
  ·rw [aZ ((rj h.keys _ _).2 m)]
   have u : f = ⟨⟨f.jl.jo, c.kp⟩, f.ke⟩ := by rw [hk.2.2]
   have A : nU C ⟨c.Head, f.ke⟩ := .E7 c f.jl.jo f.ke hk.1 hk.2.1 (h.vK _ m) (by rw [← u]; exact h.vK f t)
   obtain ⟨T1, I, J, z, g1, x1, G⟩ := Bw r h cs p ws A
   rw [z]
   simp only [aA]
   obtain ⟨T2, i, w, q, g2, x2, x⟩ := CU r y cs p ws l g1 (x1.lF _ t) (fun c s => hm c (by simp [s]))
   refine ⟨T2, i, w, q, g2, x1.trans x2, fun v d b => ?_⟩
   rcases aK.1 d with rfl | d
   ·exact x2.lF _ G
   ·exact x v d (x1.lF _ b)
  ·rw [aY (fun E => m ((rj h.keys _ _).1 E))]
   obtain ⟨T2, i, w, q, g2, x2, x⟩ := CU r y cs p ws l h t (fun c s => hm c (by simp [s]))
   refine ⟨T2, i, w, q, g2, x2, fun v d b => ?_⟩
   rcases aK.1 d with rfl | d
   ·exact absurd b m
   ·exact x v d b
theorem Hf {C : List jm} (G : pL C) (I : qL C) {cs : List jm} {A : List (jl × List jm)} {ws : List (ByteArray × List jm)} (u : Dk C A ws) : ∀ (m : Nat) {T : oa} {l : List jz} {n : Int}, po C T l n → (∀ c ∈ C, D9 c T l) → C.length * C.length + l.length < m + (FS T).length →
  ∃ T' M, mK cs A ws m (mm T) l n = some (mm T', [], M) ∧ po C T' [] M ∧ (∀ c ∈ C, D9 c T' []) ∧ (∀ f ∈ FS T, f ∈ FS T')
 | 0, T, l, n, h, _, hm => by have := h.len; omega
 | m + 1, T, [], n, h, q, hm => by
  rw [mK]
  exact ⟨T, n, rfl, h, q, fun _ h => h⟩
 | m + 1, T, f :: l, n, h, q, hm => by
  rw [mK]
  rw [aZ (by simp)]
  have L : f ∈ FS T := h.sub f (by simp)
  have U := (cY.1 h.Jw)
  simp only [kF, Int.le_refl, aJ, Int.toNat_zero, fU, aA]
  rw [show qi (decide ((0 : Nat) ≤ 1) && decide ((1 : Int) ≤ ((f :: l).length : Int))) = some () by simp [qi]; omega]
  simp only [aA, show Int.toNat 1 = 1 from rfl, List.drop_one, List.tail_cons]
  have J : po C T l n := ⟨h.keys, h.nd, U.2, fun g y => h.sub g (by simp [y]), h.num, h.vK⟩
  obtain ⟨T1, a6, n1, P, g1, x1, q1⟩ := GV G I cs A ws ((kE jG A f.jl).getD []) J L (fun c i => (u.M0 _ c).1 i)
  rw [P]
  simp only [aA]
  obtain ⟨T2, r, n2, Q, g2, x2, q2⟩ := CU G I cs A ws ((kE kv ws f.jl.Word).getD []) g1 (x1.lF _ L) (fun c i => (u.word _ c).1 i)
  rw [Q]
  simp only [aA]
  have x := x1.trans x2
  have lF : ∀ g, g ∈ FS T2 → g ∉ r → g ∈ FS T ∧ (g = f ∨ g ∉ f :: l) := fun g y z => by
   rcases x.new g y with h1 | h1
   ·refine ⟨h1, ?_⟩
    by_cases he : g = f
    ·exact .inl he
    ·exact .inr (fun t => by
      rcases aK.1 t with t | t
      ·exact he t
      ·exact z (x.todo g t))
   ·exact absurd h1 z
  have d1 : ∀ c ∈ C, f.jl ∈ nG c → DK c f T T2 := fun c i W => (q1 c ((u.M0 _ c).2 ⟨i, W⟩)).mono (fun _ h => h) x2.lF
  have v : ∀ c ∈ C, D9 c T2 r := fun c i => by
   have k := q c i
   refine ⟨fun hk => x.lF _ (k.1 hk), fun hk w a b => ?_, fun hk b w E a2 a3 a4 => ?_, fun hk w E a2 a3 a4 => ?_⟩
   ·obtain ⟨p, d⟩ := lF _ a b
    rcases d with d | d
    ·subst d; exact (d1 c i (by simp [nG, hk])).1 hk rfl
    ·exact x.lF _ (k.2.1 hk w p d)
   ·obtain ⟨p, d⟩ := lF _ E a2
    obtain ⟨s, j⟩ := lF _ a3 a4
    rcases d with d | d
    ·subst d; exact (d1 c i (by simp [nG, hk])).2.1 hk rfl w s
    ·rcases j with j | j
     ·subst j
      exact q2 c ((u.word _ c).2 ⟨i, hk, rfl⟩) (x1.lF _ p)
     ·exact x.lF _ (k.2.2.1 hk b w p d s j)
   ·obtain ⟨p, d⟩ := lF _ E a2
    obtain ⟨s, j⟩ := lF _ a3 a4
    rcases d with d | d
    ·subst d; exact (d1 c i (by simp [nG, hk])).2.2 hk p s
    ·rcases j with j | j
     ·subst j; exact (d1 c i (by simp [nG, hk])).2.2 hk p s
     ·exact x.lF _ (k.2.2.2 hk w p d s j)
  have hlen : r.length + (FS T).length ≤ l.length + (FS T2).length := by
   exact g2.Ek J x
  obtain ⟨T3, Y, R, g3, O, Z⟩ := Hf G I u m g2 v (by simp only [aH] at hm; omega)
  exact ⟨T3, Y, R, g3, O, fun g y => Z g (x.lF g y)⟩
theorem JZ (c : jm) : ∀ (l : List jm) (i : Nat), ∃ z, oS c l i = some z ∧ (z ≥ 0 ↔ c ∈ l)
 | [], i => ⟨-1, rfl, by simp⟩
 | x :: l, i => by
  rw [oS]
  by_cases h : ko c x = true
  ·rw [aZ h]
   exact ⟨_, rfl, by simp [pd.1 h]⟩
  ·rw [aY h]
   obtain ⟨z, e, d⟩ := JZ c l (i + 1)
   refine ⟨z, e, ?_⟩
   rw [d, aK]
   exact ⟨.inr, fun b => b.resolve_left (fun e => h (pd.2 e))⟩
theorem ID (c : jm) (l : List jm) : ∃ b, pf l c = some b ∧ (b = true ↔ c ∈ l) := by
 obtain ⟨z, e, d⟩ := JZ c l 0
 refine ⟨decide (z ≥ 0), ?_, by simpa using d⟩
 unfold pf qH uB
 rw [e]
 rfl
theorem JD (c : jm) (ws : List (ByteArray × List jm)) (C : List jm) (hw : ∀ w, ((kE kv ws w).getD []).length ≤ 2000000) : ∀ (m : List jl) (b : List (jl × List jm)), (∀ r, ((kE jG b r).getD []).length + m.length ≤ 4000000) →
  ∃ j l, nH c ws C m b = some (C, j, l) ∧ (∀ r x, x ∈ (kE jG j r).getD [] ↔ x ∈ (kE jG b r).getD [] ∨ (x = c ∧ r ∈ m)) ∧
   (∀ w x, x ∈ (kE kv l w).getD [] ↔ x ∈ (kE kv ws w).getD [] ∨ (x = c ∧ c.Kind = 3 ∧ w = c.kp)) ∧ (∀ r, ((kE jG j r).getD []).length ≤ ((kE jG b r).getD []).length + m.length) ∧
   (∀ w, ((kE kv l w).getD []).length ≤ ((kE kv ws w).getD []).length + 1)
 | [], b, _ => by
  rw [nH]
  by_cases n : c.Kind = 3
  ·rw [aZ (by simp [n])]
   have h := hw c.kp
   rw [lD (by simp; omega) (by simp; omega)]
   simp only [aA]
   refine ⟨b, _, rfl, by simp, fun w x => ?_, by simp, fun w => ?_⟩
   ·rw [Dm lH]
    by_cases hk : kv w c.kp = true
    ·rw [aZ hk, lH.1 hk]; simp [n]
    ·rw [aY hk]
     have : w ≠ c.kp := fun e => hk (lH.2 e)
     simp [this]
   ·rw [Dm lH]
    by_cases hk : kv w c.kp = true
    ·rw [aZ hk, lH.1 hk]; simp
    ·rw [aY hk]; exact ig _
  ·rw [aY (by simp [n])]
   exact ⟨b, ws, rfl, by simp, by simp [n], by simp, by simp⟩
 | d :: m, b, p => by
  rw [nH]
  have h := p d
  simp only [aH] at h
  rw [lD (by simp; omega) (by simp; omega)]
  simp only [aA]
  have i : ∀ r, (kE jG (ns jG b d (((kE jG b d).getD []) ++ [c])) r).getD [] = if jG r d = true then ((kE jG b d).getD []) ++ [c] else (kE jG b r).getD [] := fun r => by
   rw [Dm jH]; by_cases hk : jG r d = true
   ·rw [aZ hk, aZ hk]; rfl
   ·rw [aY hk, aY hk]
  obtain ⟨j, l, e, q, a2, a3, a4⟩ := JD c ws C hw m (ns jG b d (((kE jG b d).getD []) ++ [c])) (fun r => by
   rw [i r]
   have s := p r
   simp only [aH] at s
   by_cases hk : jG r d = true
   ·rw [aZ hk]; simp; omega
   ·rw [aY hk]; omega)
  refine ⟨j, l, e, fun r x => ?_, a2, fun r => ?_, a4⟩
  ·rw [q, i]
   by_cases hk : jG r d = true
   ·rw [aZ hk, jH.1 hk]
    simp only [aN, aK, cV, eS]
    constructor
    ·rintro ((h | h) | h)
     ·exact .inl h
     ·exact .inr ⟨h, .inl trivial⟩
     ·exact .inr ⟨h.1, .inr h.2⟩
    ·rintro (h | h)
     ·exact .inl (.inl h)
     ·exact .inl (.inr h.1)
   ·rw [aY hk]
    have : r ≠ d := fun e => hk (jH.2 e)
    simp [this]
  ·have := a3 r
   rw [i r] at this
   by_cases hk : jG r d = true
   ·rw [aZ hk] at this; rw [jH.1 hk] at this ⊢; simp at this ⊢; omega
   ·rw [aY hk] at this; simp; omega
theorem OP {C : List jm} {m : List (jl × List jm)} {ws : List (ByteArray × List jm)} (l : Dk C m ws) (u : C.length + 1 ≤ 1000000) {c : jm} (q : lm c = true) (i : List (jl × List (ByteArray × Bool))) (t : List jz) (n : Int) :
  ∃ b d, rp i C m ws t n c = some (C ++ [c], b, d) ∧ Dk (C ++ [c]) b d := by
 unfold rp
 rw [lD (by simp; omega) (by simp; omega)]
 simp only [aA, Pq q]
 rw [show qi (decide ((0 : Nat) ≤ 1) && decide ((1 : Int) ≤ ((c.Head :: nG c).length : Int))) = some () by simp [qi]; omega]
 simp only [aA, show Int.toNat 1 = 1 from rfl, List.drop_one, List.tail_cons]
 have s : (nG c).length ≤ 2 := by unfold nG; split; simp; split <;> simp
 obtain ⟨b, d, e, p, a2, a3, a4⟩ := JD c ws (C ++ [c]) (fun w => by have := l.Qm w; omega) (nG c) m (fun r => by have := l.P9 r; omega)
 refine ⟨b, d, e, fun r x => ?_, fun w x => ?_, fun r => ?_, fun w => ?_⟩
 ·rw [p, l.M0, aN, bK]
  constructor
  ·rintro (h | h)
   ·exact ⟨.inl h.1, h.2⟩
   ·exact ⟨.inr h.1, by rw [h.1]; exact h.2⟩
  ·rintro ⟨h | h, j⟩
   ·exact .inl ⟨h, j⟩
   ·exact .inr ⟨h, by rw [← h]; exact j⟩
 ·rw [a2, l.word, aN, bK]
  constructor
  ·rintro (h | h)
   ·exact ⟨.inl h.1, h.2⟩
   ·exact ⟨.inr h.1, by rw [h.1]; exact ⟨h.2.1, h.2.2.symm⟩⟩
  ·rintro ⟨h | h, j⟩
   ·exact .inl ⟨h, j⟩
   ·subst h; exact .inr ⟨rfl, j.1, j.2.symm⟩
 ·have := a3 r; have := l.P9 r; simp; omega
 ·have := a4 w; have := l.Qm w; simp; omega
structure MS (C : List jm) (T : oa) (us : List (jl × List jm)) (ws : List (ByteArray × List jm)) (n : Int) : Prop where
 CP : po C T [] n
 cl : ∀ c ∈ C, D9 c T []
 RQ : Dk C us ws
 right : qL C
theorem MS.all {C : List jm} {T : oa} {m : List (jl × List jm)} {ws : List (ByteArray × List jm)} {n : Int} (h : MS C T m ws n) (f : jz) : f ∈ FS T ↔ nU C f := by
 refine ⟨h.CP.vK f, fun l => ?_⟩
 induction l with
 | mem c d hk => exact (h.cl c d).1 hk
 | inc c w d hk _ ih => exact (h.cl c d).2.1 hk w ih (by simp)
 | E7 c b w d hk _ _ i j => exact (h.cl c d).2.2.1 hk b w i (by simp) j (by simp)
 | both c w d hk _ _ i j => exact (h.cl c d).2.2.2 hk w i (by simp) j (by simp)
theorem Il (s : Int) (A : 0 ≤ s ∧ s ≤ 1000000000000) : ∀ (l : List jm) {C : List jm} {T : oa} {r : List jz} {E : List (jl × List jm)} {ws : List (ByteArray × List jm)} {n : Int}, po C T r n → (∀ c ∈ C, D9 c T r) → Dk C E ws → qL C → C.length + l.length ≤ 1000000 →
  ∃ C' T' d i p, ni s l (mm T) C E ws r n = some (p - s, mm T', C', d, i, [], p) ∧ MS C' T' d i p ∧ (∀ c, c ∈ C' ↔ c ∈ C ∨ (c ∈ l ∧ lm c = true)) ∧ C'.length ≤ C.length + l.length ∧ (∀ f ∈ FS T, f ∈ FS T')
 | [], C, T, r, E, ws, n, g, j, v, t, P => by
  rw [ni]
  have Z : pL C := by unfold pL; simp at P; omega
  have a7 := Z.sq
  have hlen := g.len
  have a8 := g.QD
  obtain ⟨T', p, e, J, c', o⟩ := Hf Z t v (cs := C) jP g j (by rw [vA]; omega)
  unfold sS
  rw [e]
  simp only [aA]
  have Q := J.len
  have a6 := J.num
  rw [jZ (by omega) (by omega)]
  exact ⟨C, T', E, ws, p, rfl, ⟨J, c', v, t⟩, by simp, by simp, o⟩
 | x :: l, C, T, r, E, ws, n, g, j, v, t, P => by
  rw [ni, uK]
  simp only [aH] at P
  obtain ⟨b, hb, w⟩ := ID x C
  simp only [aA, hb, Cq]
  by_cases q : lm x = true ∧ x ∉ C
  ·have M : b = false := by cases b with | false => rfl | true => exact absurd (w.1 rfl) q.2
   rw [q.1, M]
   simp only [cJ, iG, aJ]
   obtain ⟨W, Y, e1, U1⟩ := OP v (by omega) q.1 (mm T) r n
   rw [e1]
   simp only [aA]
   have L : pL (C ++ [x]) := by unfold pL; simp; omega
   have u : qL (C ++ [x]) := fun c y => by
    rcases aN.1 y with h | h
    ·exact t c h
    ·simp at h; subst h; exact q.1
   have g1 : po (C ++ [x]) T r n := g.mono (fun c y => cC _ y)
   obtain ⟨T2, U, n2, e2, g2, x2, c2⟩ := NU L u g1 (C ++ [x]) W Y (c := x) (by simp)
   rw [e2]
   simp only [aA]
   have z : ∀ c ∈ C ++ [x], D9 c T2 U := fun c y => by
    rcases aN.1 y with h | h
    ·exact (j c h).ext x2
    ·simp at h; subst h; exact c2
   obtain ⟨C', T', d, i, p, e, m, I, a2, a3⟩ := Il s A l g2 z U1 u (by simp; omega)
   refine ⟨C', T', d, i, p, e, m, fun c => ?_, by simp at a2 ⊢; omega, fun f O => a3 f (x2.lF f O)⟩
   rw [I]
   simp only [aN, aK, cV, eS]
   constructor
   ·rintro ((h | h) | h)
    ·exact .inl h
    ·subst h; exact .inr ⟨.inl rfl, q.1⟩
    ·exact .inr ⟨.inr h.1, h.2⟩
   ·rintro (h | ⟨h | h, G⟩)
    ·exact .inl (.inl h)
    ·exact .inl (.inr h)
    ·exact .inr ⟨h, G⟩
  ·have O : (lm x && !b) = false := by
    cases hr : lm x with
    | false => rfl
    | true =>
     have : x ∈ C := eJ fun R => q ⟨hr, R⟩
     rw [w.2 this]; rfl
   rw [O]
   simp only [aB, aG]
   obtain ⟨C', T', d, i, p, e, m, I, a2, a3⟩ := Il s A l g j v t (by omega)
   refine ⟨C', T', d, i, p, e, m, fun c => ?_, by simp; omega, a3⟩
   rw [I, aK]
   constructor
   ·rintro (h | h)
    ·exact .inl h
    ·exact .inr ⟨.inr h.1, h.2⟩
   ·rintro (h | ⟨h | h, G⟩)
    ·exact .inl h
    ·subst h
     exact .inl (eJ fun R => q ⟨G, R⟩)
    ·exact .inr ⟨h, G⟩
theorem Pm {C : List jm} {T : oa} {j : List (jl × List jm)} {ws : List (ByteArray × List jm)} {n : Int} (h : MS C T j ws n) (l : List jm) (p : C.length + l.length ≤ 1000000) :
  ∃ C' T' b d i, sd (mm T) C j ws [] n l = some (i - n, mm T', C', b, d, [], i) ∧ MS C' T' b d i ∧ (∀ c, c ∈ C' ↔ c ∈ C ∨ (c ∈ l ∧ lm c = true)) ∧ C'.length ≤ C.length + l.length ∧ (∀ f ∈ FS T, f ∈ FS T') := by
 have m : pL C := by unfold pL; omega
 have h1 := h.CP.len
 have q := m.sq
 have r := h.CP.num
 exact Il n ⟨by omega, by omega⟩ l h.CP h.cl h.RQ h.right p
theorem Dk.zero : Dk [] [] [] := ⟨fun r c => by simp [kE], fun w c => by simp [kE], fun r => by simp [kE], fun w => by simp [kE]⟩
theorem po.zero : po [] [] [] 0 := ⟨by simp, by simp [FS], by simp, by simp, by simp [FS], by simp [FS]⟩
theorem MS.zero : MS [] [] [] [] 0 := ⟨po.zero, fun c b => (by cases b), Dk.zero, fun c b => (by cases b)⟩
theorem Kz (l : List jm) (j : l.length ≤ 1000000) : ∃ C T h ws n, vo l = some (mm T, C, h, ws, [], n) ∧ MS C T h ws n ∧ (∀ c, c ∈ C ↔ c ∈ l ∧ lm c = true) ∧ C.length ≤ l.length := by
 unfold vo
 obtain ⟨C', T', b, d, p, e, m, i, a2, a3⟩ := Pm MS.zero l (by simpa using j)
 rw [show sd [] [] [] [] [] 0 l = _ from e]
 exact ⟨C', T', b, d, p, rfl, m, by simpa using i, by simpa using a2⟩
theorem nU.congr {C C' : List jm} (h : ∀ c, c ∈ C ↔ c ∈ C') (f : jz) : nU C f ↔ nU C' f := ⟨fun d => d.mono (fun c b => (h c).1 b), fun d => d.mono (fun c b => (h c).2 b)⟩
def xK (a b : jz) : Bool := AG a.jl b.jl || (jG a.jl b.jl && pg a.ke b.ke)
theorem zq {a b : jz} : xK a b = true ↔ AG a.jl b.jl = true ∨ (a.jl = b.jl ∧ pg a.ke b.ke = true) := by simp [xK, jH]
def Cj (_ : jz) : Bool := true
theorem FH : yW (fun a b => xK a b = true) (fun x => Cj x = true) := by
 have H := QW (fun _ => True)
 refine ⟨fun x _ => ?_, fun x y z _ _ _ h1 d => ?_, fun x y _ _ => ?_⟩
 ·rw [zq]
  rintro (h | ⟨_, h⟩)
  ·exact H.irrefl _ trivial h
  ·rw [rk] at h; cases h
 ·rw [zq] at *
  rcases h1 with h1 | ⟨j, h1⟩
  ·rcases d with d | ⟨i, d⟩
   ·exact .inl (H.trans _ _ _ trivial trivial trivial h1 d)
   ·exact .inl (by rw [← i]; exact h1)
  ·rcases d with d | ⟨i, d⟩
   ·exact .inl (by rw [j]; exact d)
   ·exact .inr ⟨j.trans i, yP h1 d⟩
 ·simp only [zq]
  rcases H.total x.jl y.jl trivial trivial with h | h | h
  ·exact .inl (.inl h)
  ·rcases yE x.ke y.ke with d | d | d
   ·exact .inl (.inr ⟨h, d⟩)
   ·refine .inr (.inl ?_)
    cases x; cases y; simp at h d; simp [h, d]
   ·exact .inr (.inr (.inr ⟨h.symm, d⟩))
  ·exact .inr (.inr (.inl h))
theorem FJ (a b : ByteArray) : ot a b = 0 ↔ a = b := by unfold ot; rw [ET]; exact ⟨yB, fun h => by rw [h]⟩
theorem QP (a b : ByteArray) : ot a b < 0 ↔ pg a b = true := by rw [wQ]; exact BA _ _
theorem MB (a b : jl) : ∃ c, qz a b = some c ∧ (c < 0 ↔ AG a b = true) ∧ (c = 0 ↔ a = b) := by
 obtain ⟨c, e, h⟩ := zh a b
 refine ⟨c, e, h, ?_⟩
 unfold qz at e
 simp only [oF, mS, aA, tk, qO, nK] at e
 by_cases d : ot a.jo b.jo = 0
 ·rw [aY (by simp [d])] at e
  have h1 := (FJ _ _).1 d
  by_cases i : ot a.Word b.Word = 0
  ·rw [aY (by simp [i])] at e
   have j := (FJ _ _).1 i
   cases e
   refine ⟨fun _ => ?_, fun _ => rfl⟩
   cases a; cases b; simp at h1 j; simp [h1, j]
  ·rw [aZ (by simp [i])] at e
   cases e
   exact ⟨fun k => absurd k i, fun k => by rw [k] at i; exact absurd ((FJ _ _).2 rfl) i⟩
 ·rw [aZ (by simp [d])] at e
  cases e
  exact ⟨fun k => absurd k d, fun k => by rw [k] at d; exact absurd ((FJ _ _).2 rfl) d⟩
theorem MZ (a b : jz) : ∃ c, oY a b = some c ∧ (c < 0 ↔ xK a b = true) := by
 unfold oY
 obtain ⟨c, e, h1, j⟩ := MB a.jl b.jl
 rw [e]
 simp only [oF, mS, aA, tk, qO, nK]
 by_cases h : c = 0
 ·rw [aY (by simp [h])]
  have m := j.1 h
  have d : ¬ AG a.jl b.jl = true := fun l => by have := h1.2 l; omega
  by_cases i : ot a.ke b.ke = 0
  ·rw [aY (by simp [i])]
   refine ⟨0, rfl, ?_⟩
   rw [zq]
   simp [d, (FJ _ _).1 i, rk]
  ·rw [aZ (by simp [i])]
   refine ⟨_, rfl, ?_⟩
   rw [zq, QP]
   exact ⟨fun k => .inr ⟨m, k⟩, fun k => k.elim (fun k => absurd k d) (·.2)⟩
 ·rw [aZ (by simp [h])]
  refine ⟨c, rfl, ?_⟩
  rw [zq, h1]
  have : a.jl ≠ b.jl := fun k => h (j.2 k)
  simp [this]
theorem J8 {α : Type} {eq : α → α → Bool} (he : ∀ x y, eq x y = true ↔ x = y) : ∀ (l : List α) (p : α), (p :: l).Nodup → mx eq p l = l
 | [], p, _ => rfl
 | y :: l, p, h => by
  have h1 := cY.1 h
  rw [mx, aY (fun e => h1.1 (by rw [← (he _ _).1 e]; simp)), J8 he l y h1.2]
theorem Re {α : Type} {eq : α → α → Bool} (he : ∀ x y, eq x y = true ↔ x = y) : ∀ l : List α, l.Nodup → dd eq l = l
 | [], _ => rfl
 | x :: l, h => by rw [dd, J8 he l x h]
def zA (P : jz → Prop) (s : List jz) : Prop := s.Pairwise (fun a b => xK a b = true) ∧ ∀ f, f ∈ s ↔ P f
theorem zA.unique {P : jz → Prop} {s t : List jz} (h : zA P s) (k : zA P t) : s = t :=
 uM.unique (l := s) FH ⟨h.1, fun x => ⟨fun b => ⟨b, rfl⟩, fun b => b.1⟩⟩ ⟨k.1, fun x => by rw [k.2, h.2]; exact ⟨fun b => ⟨b, rfl⟩, fun b => b.1⟩⟩
theorem Fe {l : List jz} (i : l.Nodup) (n : l.length ≤ 1000000000000) : ∃ s, yr (fun (x : jz × jz) => oY x.1 x.2) l = some s ∧ zA (fun f => f ∈ l) s := by
 obtain ⟨s, h1, m, d⟩ := Em (eq := zw) (lt := fun a b => xK a b = true) (P := fun x => Cj x = true) (cf := fun (x : jz × jz) => oY x.1 x.2) (l := l) (fun x y => vT) FH (fun _ _ => rfl) (by omega) (fun x y _ _ => MZ x y)
 have j : s.Nodup := by
  have := (FY h1).2
  rw [this]
  unfold rL
  exact (gK l _).nodup_iff.2 i
 rw [Re (fun x y => vT) s j] at d
 exact ⟨s, h1, d.1, fun f => by rw [d.2]; exact ⟨fun h => h.1, fun h => ⟨h, rfl⟩⟩⟩
theorem Pk (T : oa) : (mm T).flatMap (fun p => p.2.map (fun q => (fun (a : jl) (b : ByteArray) => (⟨a, b⟩ : jz)) p.1 q.1)) = FS T := by
 unfold mm FS tt
 rw [List.flatMap_map]
 congr 1
 funext p
 simp [fk]
theorem NK {C : List jm} (m : pL C) {T : oa} {r : List (jl × List jm)} {ws : List (ByteArray × List jm)} {n : Int} (h : MS C T r ws n) (cs : List jm) (u : List (jl × List jm)) (w : List (ByteArray × List jm)) (q : List jz) (z : Int) :
  ∃ s, uA (mm T) cs u w q z = some s ∧ zA (nU C) s := by
 have p := m.sq
 have hlen := h.CP.len
 obtain ⟨s, t, l⟩ := Fe h.CP.nd (by omega)
 have j : zA (nU C) s := ⟨l.1, fun f => (l.2 f).trans (h.all f)⟩
 refine ⟨s, ?_, j⟩
 unfold uA Mq
 rw [Pk]
 rw [aZ ⟨by omega, by unfold maxLen; omega⟩]
 simp only [aA, nK]
 refine E1 (fun o d => ?_)
 obtain ⟨v, i, b⟩ := Fe ((d.nodup_iff).2 h.CP.nd) (by rw [d.length_eq]; omega)
 rw [i]
 congr 1
 exact zA.unique ⟨b.1, fun f => (b.2 f).trans (d.mem_iff.trans (h.all f))⟩ j
theorem NV (r : jl) (w : ByteArray) : ∀ l : List jz, ∃ b, wg r w l = some b ∧ (b = true ↔ (⟨r, w⟩ : jz) ∈ l)
 | [] => ⟨false, rfl, by simp⟩
 | x :: l => by
  rw [wg]
  simp only [Cq, aA]
  obtain ⟨b, e, j⟩ := NV r w l
  by_cases h : (jG x.jl r && kv x.ke w) = true
  ·rw [aZ h]
   have d : x = ⟨r, w⟩ := by
    rw [aQ, jH, lH] at h
    cases x; simp at h; simp [h]
   exact ⟨true, rfl, by simp [d]⟩
  ·rw [aY h]
   refine ⟨b, e, ?_⟩
   rw [j, aK]
   refine ⟨.inr, fun i => i.resolve_left (fun e => h ?_)⟩
   rw [← e]; simp [vd, tP]
theorem xN (l : List jz) (r : jl) (w : ByteArray) : ∃ b, tW l r w = some b ∧ (b = true ↔ (⟨r, w⟩ : jz) ∈ l) := NV r w l
def vq (l : List jz) (c : jm) (names : List ByteArray) (w : ByteArray) : Prop :=
 (c.Kind = 1 ∧ c.ke = w) ∨ (c.Kind = 2 ∧ (⟨c.B, w⟩ : jz) ∈ l) ∨ (c.Kind = 4 ∧ (⟨c.B, w⟩ : jz) ∈ l ∧ (⟨c.C, w⟩ : jz) ∈ l) ∨
 (c.Kind ≠ 1 ∧ c.Kind ≠ 2 ∧ c.Kind ≠ 4 ∧ ∃ b ∈ names, (⟨c.B, b⟩ : jz) ∈ l ∧ (⟨⟨b, c.kp⟩, w⟩ : jz) ∈ l)
theorem E2 (l : List jz) (c : jm) (w : ByteArray) : ∀ names : List ByteArray, ∃ b, uE l c w names = some b ∧ (b = true ↔ ∃ b ∈ names, (⟨c.B, b⟩ : jz) ∈ l ∧ (⟨⟨b, c.kp⟩, w⟩ : jz) ∈ l)
 | [] => ⟨false, rfl, by simp⟩
 | x :: names => by
  rw [uE]
  obtain ⟨j, n, h1⟩ := xN l c.B x
  obtain ⟨m, p, i⟩ := xN l ⟨x, c.kp⟩ w
  obtain ⟨b, e, r⟩ := E2 l c w names
  rw [n, p, e]
  simp only [aA, Cq]
  by_cases h : (j && m) = true
  ·rw [aZ h]
   rw [aQ, h1, i] at h
   exact ⟨true, rfl, by simp [h]⟩
  ·rw [aY h]
   rw [aQ, h1, i] at h
   refine ⟨b, rfl, ?_⟩
   rw [r]
   constructor
   ·rintro ⟨y, d, q⟩; exact ⟨y, by simp [d], q⟩
   ·rintro ⟨y, d, q⟩
    rcases aK.1 d with rfl | d
    ·exact absurd q h
    ·exact ⟨y, d, q⟩
theorem OG (l : List jz) (c : jm) (names : List ByteArray) (w : ByteArray) : ∃ b, zU l c names w = some b ∧ (b = true ↔ vq l c names w) := by
 unfold zU vq
 simp only [nK]
 by_cases h1 : c.Kind = 1
 ·rw [aZ (by simp [h1])]; exact ⟨_, rfl, by simp [h1, lH]⟩
 rw [aY (by simp [h1])]
 by_cases d : c.Kind = 2
 ·rw [aZ (by simp [d])]
  obtain ⟨b, e, i⟩ := xN l c.B w
  exact ⟨b, e, by simp [d, i]⟩
 rw [aY (by simp [d])]
 by_cases h : c.Kind = 4
 ·rw [aZ (by simp [h])]
  obtain ⟨q, n, j⟩ := xN l c.B w
  obtain ⟨r, p, m⟩ := xN l c.C w
  rw [n, p]
  simp only [aA, Cq]
  exact ⟨_, rfl, by simp [h, j, m]⟩
 rw [aY (by simp [h])]
 obtain ⟨b, e, i⟩ := E2 l c w names
 exact ⟨b, e, by rw [i]; simp [h1, d, h]⟩
theorem vq.vK {C : List jm} {l : List jz} (d : ∀ f ∈ l, nU C f) {c : jm} (i : c ∈ C) (hk : c.Kind = 1 ∨ c.Kind = 2 ∨ c.Kind = 3 ∨ c.Kind = 4) {names : List ByteArray} {w : ByteArray} (h : vq l c names w) : nU C ⟨c.Head, w⟩ := by
 rcases h with ⟨k, rfl⟩ | ⟨k, h⟩ | ⟨k, h1, j⟩ | ⟨m, k2, n, b, _, h1, j⟩
 ·exact .mem c i k
 ·exact .inc c w i k (d _ h)
 ·exact .both c w i k (d _ h1) (d _ j)
 ·exact .E7 c b w i (by omega) (d _ h1) (d _ j)
theorem K9 {c : jm} (h : lm c = true) : c.Kind = 1 ∨ c.Kind = 2 ∨ c.Kind = 3 ∨ c.Kind = 4 := by rcases nL h with h | h | h | h <;> simp [h.1]
structure Df (C : List jm) (out : List jz) : Prop where
 nd : out.Nodup
 vK : ∀ f ∈ out, nU C f
theorem Df.len {C : List jm} {out : List jz} (h : Df C out) : out.length ≤ C.length * C.length := by
 rw [← Ce]; exact lP h.nd (fun f b => (h.vK f b).El)
theorem EP {C : List jm} (u : pL C) (x : qL C) {c : jm} (p : c ∈ C) (names : List ByteArray) : ∀ (l : List ByteArray) (out : List jz) (j : Bool), Df C out →
  ∃ i d, uq c names l out j = some (i, d) ∧ Df C i ∧ (d = true → j = true ∨ out.length < i.length) ∧ (d = false → j = false ∧ i = out ∧ ∀ w ∈ l, vq out c names w → (⟨c.Head, w⟩ : jz) ∈ out) ∧ out.length ≤ i.length
 | [], out, j, h => ⟨out, j, rfl, h, .inl, fun h => ⟨h, rfl, fun _ hw => by cases hw⟩, aR _⟩
 | w :: l, out, j, h => by
  rw [uq]
  obtain ⟨A, J, h1⟩ := xN out c.Head w
  obtain ⟨I, L, E⟩ := OG out c names w
  rw [J, L]
  simp only [aA, Cq]
  by_cases m : (!A && I) = true
  ·rw [aZ m]
   rw [aQ] at m
   have y : (⟨c.Head, w⟩ : jz) ∉ out := fun O => by have := h1.2 O; rw [this] at m; exact absurd m.1 (by decide)
   have Q := h.len
   have P := u.sq
   rw [lD (by simp; omega) (by simp; omega)]
   simp only [aA]
   have M : Df C (out ++ [⟨c.Head, w⟩]) := ⟨bQ.2 ⟨h.nd, by simp, fun a ha b m e => by simp at m; subst m; subst e; exact y ha⟩, fun f n => by
    rcases aN.1 n with n | n
    ·exact h.vK f n
    ·simp at n; subst n; exact (E.1 m.2).vK h.vK p (K9 (x c p))⟩
   obtain ⟨i, d, e, q, a2, a3, a4⟩ := EP u x p names l _ true M
   simp at a4
   exact ⟨i, d, e, q, fun _ => .inr (by omega), fun n => (by cases (a3 n).1), by omega⟩
  ·rw [aY m]
   obtain ⟨i, d, e, q, a2, a3, a4⟩ := EP u x p names l out j h
   refine ⟨i, d, e, q, a2, fun n => ?_, a4⟩
   obtain ⟨r, s, t⟩ := a3 n
   refine ⟨r, s, fun v z G => ?_⟩
   rcases aK.1 z with rfl | z
   ·refine eJ fun y => m ?_
    rw [aQ, E.2 G]
    cases A with
    | false => exact ⟨rfl, rfl⟩
    | true => exact absurd (h1.1 rfl) y
   ·exact t v z G
theorem H4 {C : List jm} (q : pL C) (r : qL C) (names : List ByteArray) : ∀ (l : List jm) (out : List jz) (b : Bool), (∀ c ∈ l, c ∈ C) → Df C out →
  ∃ i j, wA names l out b = some (i, j) ∧ Df C i ∧ (j = true → b = true ∨ out.length < i.length) ∧ (j = false → b = false ∧ i = out ∧ ∀ c ∈ l, ∀ w ∈ names, vq out c names w → (⟨c.Head, w⟩ : jz) ∈ out) ∧ out.length ≤ i.length
 | [], out, b, _, h => ⟨out, b, rfl, h, .inl, fun h => ⟨h, rfl, fun _ hw => by cases hw⟩, aR _⟩
 | c :: l, out, b, s, h => by
  rw [wA]
  obtain ⟨A, c1, y, t, a2, a3, a4⟩ := EP q r (s c (by simp)) names names out b h
  rw [y]
  simp only [aA]
  obtain ⟨E, c2, z, u, v, x, P⟩ := H4 q r names l A c1 (fun d m => s d (by simp [m])) t
  refine ⟨E, c2, z, u, fun n => ?_, fun n => ?_, by omega⟩
  ·rcases v n with h1 | h1
   ·rcases a2 h1 with p | p
    ·exact .inl p
    ·exact .inr (by omega)
   ·exact .inr (by omega)
  ·obtain ⟨G, I, J⟩ := x n
   obtain ⟨L, M, O⟩ := a3 G
   subst M
   refine ⟨L, I, fun d m => ?_⟩
   rcases aK.1 m with rfl | m
   ·exact O
   ·exact J d m
def zF : jz := ⟨⟨zS, zS⟩, zS⟩
theorem H0 (a b : jz) : th a b = some (xK a b) := by
 unfold th xK
 simp only [Aq, aA, Cq, P4]
def Pv (a : List jz) (b : Int) (p : Bool × jz) : Prop := (p.1 = false ∧ b = -1) ∨ (p.1 = true ∧ 0 ≤ b ∧ kF a b = some p.2)
theorem Ar (out a : List jz) (j : out.length < 4611686018427387904) : ∀ (rest A : List jz) (b : Int) (p : Bool × jz), a = A ++ rest → Pv a b p →
  ∃ d, oG out a rest A.length b = some d ∧ Pv a d (qa Cj xK out.getLast? rest p.1 p.2)
 | [], A, b, p, ha, l => ⟨b, rfl, l⟩
 | x :: rest, A, b, p, ha, l => by
  rw [oG, qa]
  simp only [Cj, dx]
  have h1 : ((if ((out.length : Int) == 0) = true then some true else (kF out (wi0 .i64 ((out.length : Int) - 1))).bind fun y => (th y x).bind fun r => some r) : Option Bool) = some (out.getLast?.all fun y => xK y x) := by
   rcases cX out with h | ⟨B, z, h⟩
   ·subst h; rfl
   ·subst h
    rw [aY (by simp; omega)]
    rw [dH] at j ⊢
    rw [EQ B z (by simp at j; omega)]
    simp [H0]
  have s : ((if decide (b < 0) = true then some true else (kF a b).bind fun y => (th x y).bind fun r => some r) : Option Bool) = some (!p.1 || xK x p.2) := by
   rcases l with ⟨m, n⟩ | ⟨m, n, q⟩
   ·rw [aZ (by simp [n]), m]; rfl
   ·rw [aY (by simpa using n), q, m]
    simp [H0]
  rw [h1]
  simp only [aA]
  rw [s]
  simp only [aA, Cq]
  have t : kF a (A.length : Int) = some x := by rw [ha]; exact my A x rest _ rfl
  by_cases i : ((out.getLast?.all fun y => xK y x) && (!p.1 || xK x p.2)) = true
  ·rw [aZ i, aZ i]
   have := Ar out a j rest (A ++ [x]) (A.length : Int) (true, x) (by rw [ha]; simp) (.inr ⟨rfl, by simp, t⟩)
   simpa using this
  ·rw [aY i, aY i]
   have := Ar out a j rest (A ++ [x]) b p (by rw [ha]; simp) l
   simpa using this
theorem Ee {out a : List jz} (i : out.length < 4611686018427387904) (h : (qa Cj xK out.getLast? a false zF).1 = false) : ∀ Ek : List jz, oE a Ek out = some out
 | [] => rfl
 | x :: Ek => by
  rw [oE]
  obtain ⟨b, e, l⟩ := Ar out a i a [] (-1) (false, zF) rfl (.inl ⟨rfl, rfl⟩)
  rw [show oG out a a 0 (-1) = some b from e]
  simp only [aA]
  rcases l with ⟨_, j⟩ | ⟨d, _⟩
  ·rw [aY (by simp [j])]; exact Ee i h Ek
  ·rw [h] at d; cases d
theorem GZ (a : List jz) : ∀ (Ek : List jz) (out s : List jz), yQ 48 Cj xK zF a (Ek.length + 1) out = some s → s.length < 4611686018427387904 → oE a Ek out = some s ∧ out.length ≤ s.length
 | [], out, s, h, l => by
  rw [yQ] at h
  cases hp : (qa Cj xK out.getLast? a false zF).1 with
  | false =>
   rw [hp] at h
   simp only [cJ, aJ] at h
   cases h
   exact ⟨rfl, aR _⟩
  | true =>
   rw [hp] at h
   simp only [bU, aB, aG] at h
   obtain ⟨o, d, h⟩ := bind_some h
   replace h : yQ 48 Cj xK zF a 0 o = some s := h
   rw [yQ] at h
   cases h
 | x :: Ek, out, s, h, l => by
  rw [yQ] at h
  cases hp : (qa Cj xK out.getLast? a false zF).1 with
  | false =>
   rw [hp] at h
   simp only [cJ, aJ] at h
   cases h
   exact ⟨Ee l hp _, aR _⟩
  | true =>
   rw [hp] at h
   simp only [bU, aB, aG] at h
   obtain ⟨o, d, h⟩ := bind_some h
   have j := d
   unfold lC at d
   split at d
   case isFalse => cases d
   cases d
   obtain ⟨q, k2⟩ := GZ a Ek _ s h l
   simp at k2
   rw [oE]
   obtain ⟨b, e, p⟩ := Ar out a (by omega) a [] (-1) (false, zF) rfl (.inl ⟨rfl, rfl⟩)
   rw [show oG out a a 0 (-1) = some b from e]
   simp only [aA]
   rcases p with ⟨i, _⟩ | ⟨i, m, n⟩
   ·rw [hp] at i; cases i
   ·rw [aZ (by simpa using m), n]
    simp only [aA]
    rw [j]
    exact ⟨q, by omega⟩
theorem Mz (l : List jz) (i : l.length ≤ 1000000000) : ∃ s, BC l = some s ∧ zA (fun f => f ∈ l) s := by
 obtain ⟨s, h1, b⟩ := AB FH (w := 48) (by omega) zF l i (l.length + 1) [] (by simp) (by simp) (fun x d => by cases d) (fun x _ _ => .inr rfl)
 have hlen : s.length ≤ l.length := lP (sW FH (fun _ _ => rfl) b.1) (fun x d => ((b.2 x).1 d).1)
 exact ⟨s, (GZ l l [] s h1 (by omega)).1, b.1, fun f => by rw [b.2]; exact ⟨fun h => h.1, fun h => ⟨h, rfl⟩⟩⟩
theorem IY : ∀ (l : List jm) (acc : List ByteArray), acc.length + 4 * l.length ≤ 1000000000 → sb l acc = AT (acc ++ l.flatMap fun c => [c.ke, c.Head.jo, c.B.jo, c.C.jo])
 | [], acc, _ => by rw [sb]; simp [nK]
 | c :: l, acc, h => by
  rw [sb]
  simp only [aH] at h
  rw [lD (by simp; omega) (by simp; omega)]
  simp only [aA]
  rw [IY l _ (by simp; omega)]
  simp
def SM (C : List jm) : Prop := C.length ≤ 30000
theorem SM.small {C : List jm} (h : SM C) : pL C := by unfold SM at h; unfold pL; omega
theorem SM.sq {C : List jm} (h : SM C) : C.length * C.length ≤ 900000000 := Nat.mul_le_mul h h
theorem MU {C : List jm} (d : SM C) (j : qL C) : ∃ names, yR C = some names ∧ ∀ c ∈ C, c.Kind = 1 → c.ke ∈ names := by
 have i : C.length ≤ 30000 := d
 unfold yR
 rw [IY C [] (by simp; omega)]
 obtain ⟨s, e, m⟩ := OC ([] ++ C.flatMap fun c => [c.ke, c.Head.jo, c.B.jo, c.C.jo]) (by
  have : ∀ l : List jm, (l.flatMap fun c => [c.ke, c.Head.jo, c.B.jo, c.C.jo]).length = 4 * l.length := fun l => by
   induction l with
   | nil => rfl
   | cons x l ih => simp [ih]; omega
  rw [bD, this]; omega)
 refine ⟨s, e, fun c b hk => (m.2 _).2 ⟨?_, ?_⟩⟩
 ·rw [bD]; exact iO.2 ⟨c, b, by simp⟩
 ·rcases nL (j c b) with h | h | h | h
  ·exact h.2.1
  ·exact absurd (hk.symm.trans h.1) (by decide)
  ·exact absurd (hk.symm.trans h.1) (by decide)
  ·exact absurd (hk.symm.trans h.1) (by decide)
theorem Kn {C : List jm} (r : qL C) {names : List ByteArray} (p : ∀ c ∈ C, c.Kind = 1 → c.ke ∈ names) {out : List jz} (h : ∀ c ∈ C, ∀ w ∈ names, vq out c names w → (⟨c.Head, w⟩ : jz) ∈ out) {f : jz} (n : nU C f) : f ∈ out := by
 have hw : ∀ f, nU C f → f.ke ∈ names := fun f n => by
  obtain ⟨c, d, hk, e⟩ := n.Jt
  rw [← e]; exact p c d hk
 induction n with
 | mem c d hk => exact h c d _ (p c d hk) (.inl ⟨hk, rfl⟩)
 | inc c w d hk q ih => exact h c d w (hw _ q) (.inr (.inl ⟨hk, ih⟩))
 | E7 c b w d hk i m j l => exact h c d w (hw _ m) (.inr (.inr (.inr ⟨by omega, by omega, by omega, b, hw _ i, j, l⟩)))
 | both c w d hk i m j l => exact h c d w (hw _ i) (.inr (.inr (.inl ⟨hk, j, l⟩)))
theorem IE {C : List jm} (b : SM C) (d : qL C) {names : List ByteArray} (j : ∀ c ∈ C, c.Kind = 1 → c.ke ∈ names) : ∀ (m : Nat) (out : List jz), Df C out → C.length * C.length < m + out.length →
  ∃ s, wo names C m out = some s ∧ zA (nU C) s
 | 0, out, h, hm => by have := h.len; omega
 | m + 1, out, h, hm => by
  rw [wo]
  obtain ⟨o, c, e, l, a2, a3, a4⟩ := H4 b.small d names C out false (fun _ h => h) h
  rw [e]
  simp only [aA, nK]
  cases c with
  | false =>
   simp only [cJ, aJ]
   obtain ⟨_, n, p⟩ := a3 rfl
   subst n
   have t := h.len
   have r := b.sq
   obtain ⟨s, q, i⟩ := Mz o (by omega)
   exact ⟨s, q, i.1, fun f => (i.2 f).trans ⟨h.vK f, Kn d j p⟩⟩
  | true =>
   simp only [bU, aB, aG]
   rcases a2 rfl with h1 | h1
   ·cases h1
   ·exact IE b d j m o l (by omega)
theorem OZ (l : List jm) (t : l.length ≤ 30000) : ∃ C s, vm l = some s ∧ zA (nU C) s ∧ ∀ c, c ∈ C ↔ c ∈ l ∧ lm c = true := by
 unfold vm
 obtain ⟨C, e, d⟩ := JX l (by omega)
 have hlen := zO BP d
 have b : SM C := by unfold SM; omega
 have h : qL C := fun c n => ((d.2 c).1 n).2
 obtain ⟨names, i, q⟩ := MU b h
 rw [e]
 simp only [aA]
 rw [i]
 simp only [aA]
 have r := b.sq
 obtain ⟨s, j, m⟩ := IE b h q jP [] ⟨by simp, fun f p => by cases p⟩ (by rw [vA]; simp; omega)
 exact ⟨C, s, j, m, d.2⟩
theorem AQ (w : ByteArray) : ∀ (l : List jz) (acc : List jl), acc.length + l.length ≤ 1000000000 → qo w l acc = some (acc ++ (l.filter fun f => kv f.ke w).map (·.jl))
 | [], acc, _ => by rw [qo]; simp
 | x :: l, acc, h => by
  rw [qo]
  simp only [aH] at h
  by_cases b : kv x.ke w = true
  ·rw [aZ b, lD (by simp; omega) (by simp; omega)]
   simp only [aA]
   rw [AQ w l _ (by simp; omega)]
   simp [b]
  ·rw [aY b, AQ w l acc (by omega)]
   simp [b]
theorem Ou {P : jz → Prop} {s t : List jz} (h : zA P s) (d : ∀ f, P f → f ∈ t) : s.length ≤ t.length := lP (sW FH (fun _ _ => rfl) h.1) (fun f b => d f ((h.2 f).1 b))
theorem OU {C : List jm} {s : List jz} (h : zA (nU C) s) (b : SM C) : s.length ≤ 900000000 := by
 have := Ou h (t := El C) (fun f d => d.El)
 rw [Ce] at this
 have := b.sq
 omega
theorem LS {C : List jm} {T : oa} {i : List (jl × List jm)} {ws : List (ByteArray × List jm)} {n : Int} (h : MS C T i ws n) (cs : List jm) (u : List (jl × List jm)) (w : List (ByteArray × List jm)) (d : List jz) (z : Int) (r : jl) (Jt : ByteArray) :
  ∃ b, rS (mm T) cs u w d z r Jt = some b ∧ (b = true ↔ nU C ⟨r, Jt⟩) :=
 ⟨_, rfl, by rw [rj h.CP.keys, h.all]⟩
def qA : jl := ⟨⟨#[97]⟩, ⟨#[114]⟩⟩
def qB : jl := ⟨⟨#[98]⟩, ⟨#[115]⟩⟩
def qd : ByteArray := ⟨#[100]⟩
def j1 : jm := ⟨2, qA, zS, qB, ⟨zS, zS⟩, zS⟩
def j2 : jm := ⟨1, qB, qd, ⟨zS, zS⟩, ⟨zS, zS⟩, zS⟩
theorem vq.own {l : List jz} {c : jm} {names : List ByteArray} {w : ByteArray} (h : vq l c names w) : vq l c (l.map (·.ke)) w := by
 rcases h with h | h | h | ⟨i, j, m, b, _, d, n⟩
 ·exact .inl h
 ·exact .inr (.inl h)
 ·exact .inr (.inr (.inl h))
 ·exact .inr (.inr (.inr ⟨i, j, m, b, bH.2 ⟨_, d, rfl⟩, d, n⟩))
theorem vq.subset {a b : List jz} {c : jm} {names : List ByteArray} {w : ByteArray} (h : vq a c names w) (d : ∀ f ∈ a, f ∈ b) : vq b c names w := by
 rcases h with h | h | h | ⟨j, l, m, i, n, p, q⟩
 ·exact .inl h
 ·exact .inr (.inl ⟨h.1, d _ h.2⟩)
 ·exact .inr (.inr (.inl ⟨h.1, d _ h.2.1, d _ h.2.2⟩))
 ·exact .inr (.inr (.inr ⟨j, l, m, i, n, d _ p, d _ q⟩))
def up (w : ByteArray) (g : ByteArray → Nat) : ByteArray → Nat := fun x => if kv w x = true then g x + 1 else g x
theorem Lw (F : List jz) (w : ByteArray) (b : F.length ≤ 1000000000) : sk F w = some ((F.filter fun f => kv f.ke w).map (·.jl)) := by
 unfold sk
 rw [AQ w F [] (by simp; omega)]
 simp
def tot {α : Type} (b : List (List α)) : Nat := (b.map List.length).sum
instance Sc : DecidableEq jl := fun a b => decidable_of_iff (jG a b = true) jH
def Fo (F : List jz) (w : ByteArray) : List jl := (F.filter fun f => kv f.ke w).map (·.jl)
structure PL (l : List jm) (F : List jz) : Prop where
 len : l.length ≤ 30000
 C : ∃ C : List jm, zA (nU C) F ∧ (∀ c, c ∈ C ↔ c ∈ l ∧ lm c = true) ∧ SM C
 ref : vm l = some F
theorem PU (l : List jm) (i : l.length ≤ 30000) : ∃ F, PL l F := by
 obtain ⟨C, F, e, h1, j⟩ := OZ l i
 obtain ⟨C1, T, p, ws, n, m, m1, b, h⟩ := Kz l (by omega)
 have d : ∀ c, c ∈ C ↔ c ∈ C1 := fun c => by rw [j, b]
 exact ⟨F, i, ⟨C1, ⟨h1.1, fun f => (h1.2 f).trans (nU.congr d f)⟩, b, by unfold SM; omega⟩, e⟩
theorem PL.RW {l : List jm} {F : List jz} (h : PL l F) : F.length ≤ 900000000 := by
 obtain ⟨C, h1, d, b⟩ := h.C
 exact OU h1 b
def B8 (l : List Int) : Prop := ∀ x ∈ l, 0 ≤ x ∧ x < 256
def KW : List ByteArray → List Key → Int
 | _, [] => 0
 | seen, k :: l => if mR k.ke = false then 30 else if k.Key.length < 1 ∨ 32 < k.Key.length then 21 else if mM kv seen k.ke = true then 41 else KW (seen ++ [k.ke]) l
def Ng (l : List Key) : List (ByteArray × List Int) := l.map fun k => (k.ke, k.Key)
def Na (l : List Key) (o : ByteArray) : Option (List Int) := kE kv (Ng l) o
theorem Px {l : List Int} (h : l.length ≤ 1000000) : sC l = some l := by
 unfold sC
 rw [EU (by simpa using h)]; rfl
theorem J4 : ∀ (l : List Key) (seen : List ByteArray), KW seen l = 0 → ∀ k ∈ l, 1 ≤ k.Key.length ∧ k.Key.length ≤ 32
 | [], _, _, _, hk => by cases hk
 | x :: l, seen, h, k, hk => by
  unfold KW at h
  split at h
  ·cases h
  split at h
  ·cases h
  split at h
  ·cases h
  rcases aK.1 hk with rfl | hk
  ·omega
  ·exact J4 l _ h k hk
theorem EI : ∀ (l : List Key) (o : ByteArray) (b : List Int), Na l o = some b → ∃ k ∈ l, k.Key = b
 | [], o, b, h => by cases h
 | x :: l, o, b, h => by
  unfold Na at h
  rw [show Ng (x :: l) = (x.ke, x.Key) :: Ng l from rfl, As] at h
  split at h
  ·cases h; exact ⟨x, by simp, rfl⟩
  ·obtain ⟨k, hk, e⟩ := EI l o b h
   exact ⟨k, by simp [hk], e⟩
def K8 (l : List Key) : Prop := ∀ k ∈ l, B8 k.Key
structure Mk (ks : List Key) (c : jm) (k : List Int) : Prop where
 ok : KW [] ks = 0
 rt : lm c = true
 lk : Na ks c.Head.jo = some k
theorem Mk.len {ks : List Key} {c : jm} {k : List Int} (h : Mk ks c k) : 1 ≤ k.length ∧ k.length ≤ 32 := by
 obtain ⟨q, b, rfl⟩ := EI _ _ _ h.lk
 exact J4 ks [] h.ok q b
theorem Mk.b8 {ks : List Key} {c : jm} {k : List Int} (h : Mk ks c k) (hk : K8 ks) : B8 k := by
 obtain ⟨q, b, rfl⟩ := EI _ _ _ h.lk
 exact hk q b
theorem Mk.unique {ks : List Key} {c : jm} {k k' : List Int} (h : Mk ks c k) (b : Mk ks c k') : k = k' := by
 have := h.lk; rw [b.lk] at this; cases this; rfl
mutual
def xz : Formula → List Int
 | ⟨o, k, r, ks⟩ => o :: (if o = 1 then qJ r else (if o = 4 then [k] else []) ++ ((ks.length : Int) :: bytesFL ks))
def bytesFL : List Formula → List Int
 | [] => []
 | k :: ks => xz k ++ bytesFL ks
end
theorem GS (f : Formula) : xz f = f.Op :: (if f.Op = 1 then qJ f.jl else (if f.Op = 4 then [f.K] else []) ++ ((f.Kids.length : Int) :: bytesFL f.Kids)) := by cases f; rw [xz]
theorem vQ {f : Formula} (h : rn f = true) : f.Kids.length ≤ 8 ∧ wellL f.Kids = true ∧ ((f.Op = 1 ∧ lG f.jl = true ∧ f.Kids = [] ∧ f.K = 0) ∨ ((f.Op = 2 ∨ f.Op = 3) ∧ f.jl = oe ∧ f.K = 0) ∨ (f.Op = 4 ∧ f.jl = oe ∧ 0 ≤ f.K ∧ f.K ≤ (f.Kids.length : Int) ∧ 1 ≤ f.Kids.length)) := by
 rw [Cf] at h
 simp only [aQ, bE] at h
 obtain ⟨⟨h1, b⟩, d⟩ := h
 refine ⟨b, d, ?_⟩
 unfold AL at h1
 split at h1
 ·rename_i c
  simp only [aQ, bE] at h1
  exact .inl ⟨c, h1.1.1, aO h1.1.2, h1.2⟩
 ·split at h1
  ·rename_i c
   simp only [aQ, bE, jH] at h1
   exact .inr (.inl ⟨c, h1.1, h1.2⟩)
  ·simp only [aQ, bE, jH] at h1
   exact .inr (.inr ⟨h1.1.1.1.1, h1.1.1.1.2, h1.1.1.2, h1.1.2, h1.2⟩)
theorem LA : ∀ (n : Nat) (f : Formula), ng f ≤ n → rn f = true → ∀ l : List Int, l.length + 40 * jR f ≤ 8000 → oM n l f = some (l ++ xz f) ∧ (xz f).length ≤ 40 * jR f := by
 intro n
 induction n with
 | zero => intro f h; rw [mc] at h; omega
 | succ n ih =>
  intro f v hw l t
  rw [mc] at v
  have w := nn f
  obtain ⟨h1, s, q⟩ := vQ hw
  rw [oM]
  unfold ua
  have i : 0 ≤ f.Op ∧ f.Op < 128 := by rcases q with h | h | h <;> omega
  rw [wT i.1 i.2 (by omega), aA, GS]
  have key : ∀ (ks : List Formula), (∀ k ∈ ks, k ∈ f.Kids) → wellL ks = true → ∀ l : List Int, l.length + 40 * nodesL ks ≤ 8000 → pq (oM n) ks l = some (l ++ bytesFL ks) ∧ (bytesFL ks).length ≤ 40 * nodesL ks := by
   intro ks
   induction ks with
   | nil => intro _ _ l _; rw [pq, bytesFL]; simp
   | cons k ks r =>
    intro hk b l t
    rw [wellL, aQ] at b
    rw [nodesL] at t
    obtain ⟨m, y⟩ := ih k (by have := pH (hk k (by simp)); omega) b.1 l (by omega)
    obtain ⟨d, p⟩ := r (fun z x => hk z (by simp [x])) b.2 (l ++ xz k) (by simp; omega)
    rw [pq, m, aA, d, bytesFL, nodesL]
    exact ⟨by simp, by simp; omega⟩
  have hlen : 0 ≤ (f.Kids.length : Int) ∧ (f.Kids.length : Int) < 128 := by omega
  by_cases c1 : f.Op = 1
  ·have u : lG f.jl = true := by rcases q with h | h | h; exact h.2.1; omega; omega
   have := nM u
   simp only [c1, aV, aJ]
   rw [IW u (by simp; omega), aA]
   exact ⟨by simp, by simp; omega⟩
  ·have m : (f.Op == 1) = false := by simpa using c1
   simp only [m, aB, aG, c1]
   by_cases j : f.Op = 4
   ·have hk : 0 ≤ f.K ∧ f.K < 128 := by rcases q with h | h | h <;> omega
    simp only [j, aV, aJ]
    rw [wT hk.1 hk.2 (by simp; omega)]
    simp only [aA]
    rw [wT hlen.1 hlen.2 (by simp; omega)]
    simp only [aA]
    obtain ⟨d, p⟩ := key f.Kids (fun k hk => hk) s (l ++ [4] ++ [f.K] ++ [(f.Kids.length : Int)]) (by simp; omega)
    rw [d]
    exact ⟨by simp, by simp; omega⟩
   ·have p : (f.Op == 4) = false := by simpa using j
    simp only [p, aB, aG, j, aA]
    rw [wT hlen.1 hlen.2 (by simp; omega)]
    simp only [aA]
    obtain ⟨d, A⟩ := key f.Kids (fun k hk => hk) s (l ++ [f.Op] ++ [(f.Kids.length : Int)]) (by simp; omega)
    rw [d]
    exact ⟨by simp, by simp; omega⟩
def wU (f : Formula) : List Int := if mQ f then xz f else []
abbrev Gd (f : Formula) : Prop := jR f ≤ 50000000
theorem yc {f : Formula} (h : mQ f = true) : jR f ≤ 64 ∧ ng f ≤ 6 ∧ rn f = true := by
 unfold mQ at h
 simp only [aQ, bE] at h
 exact ⟨h.1.1, h.1.2, h.2⟩
theorem Pp (f : Formula) (i : Gd f) (l : List Int) (n : l.length ≤ 5000) : uI l f = some (mQ f, l ++ wU f) ∧ (wU f).length ≤ 2560 := by
 unfold uI wU
 rw [Ct f i, aA]
 cases h : mQ f
 ·simp
 ·obtain ⟨h1, m, d⟩ := yc h
  obtain ⟨b, j⟩ := LA jP f (by rw [lN]; omega) d l (by omega)
  simp only [bU, aB, aG, b, aA, aJ]
  exact ⟨trivial, by omega⟩
theorem F3 (f : Formula) (d : Gd f) : rh f = some (wU f) := by
 unfold rh
 obtain ⟨b, h⟩ := Pp f d [] (by simp)
 rw [b, aA, nK]
 unfold rU
 simp only [bD]
 rw [Px (by omega)]
 rfl
def Ae (f g : Formula) : Int := wO (wU f) (wU g)
theorem Lc (f g : Formula) (b : Gd f) (d : Gd g) : rb f g = some (Ae f g) := by
 unfold rb uN
 rw [F3 f b, F3 g d]
 rfl
theorem zy (f g : Formula) : mO Ae f g = Op.bytesLess (sh (wU f)) (sh (wU g)) := by
 rw [bI]
 have h : mO Ae f g = true ↔ Ae f g < 0 := by unfold mO; exact decide_eq_true_iff
 exact h.trans (BA _ _)
theorem GQ : SWO (mO Ae) where
 NZ x := by rw [zy, tO]
 tr x y z h1 b := by rw [zy] at *; exact wG _ _ _ h1 b
 Lx x y z h := by
  rw [zy] at h
  rw [zy, zy]
  rcases zJ (sh (wU x)) (sh (wU y)) with h1 | h1 | h1
  ·exact .inl h1
  ·rw [h1] at h; exact .inr h
  ·exact .inr (wG _ _ _ h1 h)
def tm (l : List Formula) : List Formula := IT (mO Ae) l
theorem HF (l : List Formula) (b : ∀ x ∈ l, Gd x) (d : l.length ≤ 300000) : tE l = some (tm l) := by
 unfold tE qG
 rw [lD (by simp; omega) (by simp; omega)]
 simp only [aA, bD, nK]
 exact Ko GQ (fun x y h i => Lc x y h i) l b d
theorem Ln {α : Type} (lt : α → α → Bool) (l : List α) (k : α) : (Ab lt l k).Perm (l ++ [k]) := by
 unfold Ab
 refine List.perm_middle.trans ((List.Perm.cons _ ?_).trans (fw k l).symm)
 have := List.filter_append_perm (fun x => !lt k x) l
 simpa using this
theorem Lp {α : Type} (lt : α → α → Bool) (l : List α) : (IT lt l).Perm l := by
 suffices H : ∀ (l a : List α), (l.foldl (Ab lt) a).Perm (a ++ l) by have := H l []; rwa [bD] at this
 intro l
 induction l with
 | nil => intro a; simp
 | cons k l ih =>
  intro a
  rw [fM]
  refine (ih _).trans ?_
  have := (Ln lt a k).append_right l
  simpa using this
theorem wY (l : List Formula) : (tm l).Perm l := Lp _ l
noncomputable def oQ (a b : Formula) : Bool := @decide (a = b) (Classical.propDecidable _)
theorem vr {a b : Formula} : oQ a b = true ↔ a = b := by unfold oQ; simp
theorem JL (a b : Formula) (h : Gd a) : mW jP a b = some (oQ a b) := by
 have := ux a
 obtain ⟨x, e, d⟩ := OE jP a (by rw [lN]; omega) b
 rw [e]; congr 1
 rw [bI, d, vr]
def RB : Formula := ⟨0, 0, ⟨zS, zS⟩, []⟩
theorem Nc (f1 : Formula × Formula → Option Bool) (i : Int) : ∀ (n : Nat) (l : List Formula) (k j : Int), (∀ x ∈ l, ∀ y ∈ l, f1 (x, y) = some (oQ x y)) → ma i f1 n l k j = Ai oQ i n l k j
 | 0, l, k, j, _ => by rw [ma, Ai]
 | n + 1, l, k, j, h => by
  rw [ma, Ai]
  split
  ·cases p : kF (l.drop (Int.toNat i)) j with
   | none => rfl
   | some x =>
    cases q : kF (l.drop (Int.toNat i)) (wi0 .i64 (j - 1)) with
    | none => rfl
    | some y =>
     have d : x ∈ l := List.mem_of_mem_drop (cT (jS p))
     have s : y ∈ l := List.mem_of_mem_drop (cT (jS q))
     simp only [aA, h x d y s]
     cases oQ x y
     ·simp only [cJ, aJ]
      cases t : kF l k with
      | none => rfl
      | some z =>
       simp only [aA]
       refine Nc f1 i n _ _ _ (fun a ha b r => ?_)
       have m : ∀ a ∈ l.set (Int.toNat k) x, a ∈ l := fun a ha => by
        rcases List.mem_or_eq_of_mem_set ha with ha | rfl
        ·exact ha
        ·exact d
       exact h a (m a ha) b (m b r)
     ·simp only [bU, aB, aG, aA]
      exact Nc f1 i n _ _ _ h
  ·rfl
theorem Qk (f1 : Formula × Formula → Option Bool) (l : List Formula) (h : ∀ x ∈ l, ∀ y ∈ l, f1 (x, y) = some (oQ x y)) : ∀ (n : Nat) (i : Int), lY l f1 n i = AR oQ RB l n i
 | 0, i => by rw [lY, AR]
 | n + 1, i => by
  rw [lY, AR]
  split
  ·cases b : kF l i with
   | none => rfl
   | some x =>
    cases d : kF l (wi0 .i64 (i - 1)) with
    | none => rfl
    | some y =>
     have j : x ∈ l := cT (jS b)
     have m : y ∈ l := cT (jS d)
     simp only [aA, h x j y m]
     rw [Nc f1 i jP l i 1 h, Qk f1 l h n]
     rfl
  ·rfl
theorem KN (l : List Formula) (h : ∀ x ∈ l, Gd x) (d : l.length ≤ 300000) : oz l (fun x => mW jP x.1 x.2) = some (dd oQ l) := by
 rw [← I2 oQ RB l (by omega)]
 unfold oz Im
 rw [Qk _ l (fun x b y _ => JL x y (h x b))]
def kI (op : Int) (f : Formula) : Bool := decide (f.Op = op) && f.Kids.isEmpty
theorem Cg (f : Formula) (op : Int) : rH f op = some (kI op f) := by
 unfold rH kI
 rw [nK]
 by_cases h : f.Op = op
 ·simp only [h, aV, aJ, bR, dx]
  congr 1
  cases hk : f.Kids with
  | nil => rfl
  | cons a l => simp; omega
 ·have e : (f.Op == op) = false := by simpa using h
  simp [e, h]
def na (op : Int) : List Formula → List Formula
 | [] => []
 | k :: ks => (if k.Op = op then k.Kids else [k]) ++ na op ks
theorem B6 (op : Int) : ∀ ks : List Formula, nodesL (na op ks) ≤ nodesL ks
 | [] => aR _
 | k :: ks => by
  have ih := B6 op ks
  have e : ∀ a b : List Formula, nodesL (a ++ b) = nodesL a + nodesL b := by
   intro a b
   induction a with
   | nil => rw [bD, nodesL]; omega
   | cons x a d => rw [bO, nodesL, nodesL, d]; omega
  have := nn k
  rw [na, e, nodesL]
  split
  ·omega
  ·rw [nodesL, nodesL]; omega
theorem Gy (op : Int) : ∀ (ks acc : List Formula), acc.length + nodesL ks ≤ 100000000 → pp op ks acc = some (acc ++ na op ks)
 | [], acc, _ => by rw [pp, na, bo]
 | k :: ks, acc, h => by
  rw [nodesL] at h
  have h1 := nn k
  have b := oK k.Kids
  rw [pp, na]
  by_cases c : k.Op = op
  ·simp only [c, aV, aJ]
   rw [lD (by omega) (by omega), aA, Gy op ks _ (by simp; omega), aI]
  ·have e : (k.Op == op) = false := by simpa using c
   simp only [e, aB, aG, c]
   rw [lD (by simp; omega) (by simp; omega), aA, Gy op ks _ (by simp; omega), aI]
noncomputable def nS (op : Int) (ks : List Formula) : Formula :=
 if (na op ks).any (kI (5 - op)) then ⟨5 - op, 0, oe, []⟩ else
  match dd oQ (tm (na op ks)) with
  | [x] => x
  | r => ⟨op, 0, oe, r⟩
theorem IU {α : Type} (eq : α → α → Bool) (l : List α) : (dd eq l).length ≤ l.length := by
 cases l with
 | nil => exact aR _
 | cons x l =>
  have : ∀ (l : List α) (x : α), (mx eq x l).length ≤ l.length := by
   intro l
   induction l with
   | nil => intro x; exact aR _
   | cons y l ih => intro x; rw [mx]; have := ih y; have := ih x; split <;> simp <;> omega
  have := this l x
  rw [dd, aH, aH]; omega
theorem Dy (s : kc) (op : Int) (j : op = 2 ∨ op = 3) (ks : List Formula) (h : nodesL ks ≤ 64) : nu s op ks = some (nS op ks, s) := by
 have h1 := B6 op ks
 have l := oK (na op ks)
 have d : ∀ x ∈ na op ks, Gd x := fun x b => by have := ru b; unfold Gd; omega
 have hw : wi0 .i64 (5 - op) = 5 - op := jZ (by omega) (by omega)
 unfold nu yX nS
 rw [Gy op ks [] (by simp; omega), aA, bD, hw, Ed _ (kI (5 - op)) _ (fun x _ => by unfold pz; rw [Cg, nK]), aA]
 cases m : (na op ks).any (kI (5 - op))
 ·simp only [aB, aG]
  have hp := wY (na op ks)
  have p := hp.length_eq
  rw [HF _ d (by omega), aA, KN _ (fun x b => d x (hp.mem_iff.1 b)) (by omega), aA]
  have n := IU oQ (tm (na op ks))
  have i : ¬ (((dd oQ (tm (na op ks))).length : Int) > 64) := by omega
  simp only [i, bT, aB, aG, aA]
  generalize dd oQ (tm (na op ks)) = r
  match r with
  | [] => rfl
  | [x] => rfl
  | x :: y :: r =>
   have : (((x :: y :: r).length : Int) == 1) = false := by simp; omega
   simp only [this, aB, aG]
   rfl
 ·rfl
noncomputable def qZ (k : Int) (ks : List Formula) : Formula :=
 let n := k - ((ks.filter (kI 2)).length : Int)
 let l := ks.filter fun x => !kI 2 x && !kI 3 x
 if n ≤ 0 then ⟨2, 0, oe, []⟩ else if n > (l.length : Int) then ⟨3, 0, oe, []⟩ else if n = (l.length : Int) then nS 2 l else if n = 1 then nS 3 l else ⟨4, n, oe, tm l⟩
theorem xC (p : Formula → Bool) : ∀ ks : List Formula, nodesL (ks.filter p) ≤ nodesL ks
 | [] => aR _
 | k :: ks => by
  have := xC p ks
  rw [dD]
  split
  ·rw [nodesL, nodesL]; omega
  ·rw [nodesL]; omega
theorem zm (s : kc) : ∀ (ks acc : List Formula) (k : Int), -1000 ≤ k - (ks.length : Int) → k ≤ 1000 → acc.length + ks.length ≤ 1000 → nodesL (acc ++ ks.filter fun x => !kI 2 x && !kI 3 x) ≤ 64 →
  lW s ks k acc = some (let n := k - ((ks.filter (kI 2)).length : Int); let l := acc ++ ks.filter fun x => !kI 2 x && !kI 3 x; if n ≤ 0 then ⟨2, 0, oe, []⟩ else if n > (l.length : Int) then ⟨3, 0, oe, []⟩ else if n = (l.length : Int) then nS 2 l else if n = 1 then nS 3 l else ⟨4, n, oe, tm l⟩, s)
 | [], acc, k, h1, i, j, b => by
  simp only [gI, bo, bP] at b ⊢
  rw [lW]
  simp only [Int.ofNat_zero, Int.sub_zero, sH, ya, aA, Int.natCast_zero]
  have r := oK acc
  by_cases c1 : k ≤ 0
  ·simp only [c1, bR, aJ]; rfl
  ·simp only [c1, bT, aB, aG]
   by_cases c2 : k > (acc.length : Int)
   ·simp only [c2, bR, aJ]; rfl
   ·simp only [c2, bT, aB, aG]
    by_cases d : k = (acc.length : Int)
    ·simp only [← d, aV, aJ]
     rw [Dy s 2 (.inl rfl) acc b, aA]
    ·have m : (k == (acc.length : Int)) = false := by simpa using d
     simp only [m, aB, aG, d]
     by_cases h : k = 1
     ·simp only [h, aV, aJ]
      rw [Dy s 3 (.inr rfl) acc b, aA]
     ·have p : (k == 1) = false := by simpa using h
      simp only [p, aB, aG, h]
      rw [HF acc (fun x q => by have := ru q; unfold Gd; omega) (by omega)]
      rfl
 | x :: ks, acc, k, h1, i, j, b => by
  simp only [aH] at h1 j
  rw [lW, Cg, aA, Cg, aA]
  rw [dD, dD] at *
  cases c2 : kI 2 x
  ·cases d : kI 3 x
   ·simp only [c2, d, cJ, iG, aB, aG, aJ] at b ⊢
    rw [lD (by simp; omega) (by simp; omega), aA, zm s ks _ k (by omega) i (by simp; omega) (by rw [aI]; exact b)]
    simp only [aI, bO, bD]
   ·simp only [c2, d, cJ, bU, Bool.and_false, aB, aG] at b ⊢
    rw [zm s ks _ k (by omega) i (by omega) b]
  ·simp only [c2, bU, eU, aB, aG, aJ] at b ⊢
   rw [jZ (by omega) (by omega), zm s ks _ (k - 1) (by omega) (by omega) (by omega) b]
   simp only [aH]
   have e : k - 1 - ((ks.filter (kI 2)).length : Int) = k - (((ks.filter (kI 2)).length + 1 : Nat) : Int) := by omega
   rw [e]
theorem KS (s : kc) (k : Int) (hk : 0 ≤ k ∧ k ≤ 1000) (ks : List Formula) (h : nodesL ks ≤ 64) : pB s k ks = some (qZ k ks, s) := by
 have := oK ks
 have := xC (fun x => !kI 2 x && !kI 3 x) ks
 unfold pB qZ
 rw [zm s ks [] k (by omega) (by omega) (by simp; omega) (by simpa using by omega)]
 rfl
mutual
noncomputable def ow : Formula → Formula
 | ⟨o, k, r, ks⟩ => if o = 1 then ⟨o, k, r, ks⟩ else if o = 4 then qZ k (shapeL ks) else nS o (shapeL ks)
noncomputable def shapeL : List Formula → List Formula
 | [] => []
 | k :: ks => ow k :: shapeL ks
end
theorem wZ (f : Formula) : ow f = if f.Op = 1 then f else if f.Op = 4 then qZ f.K (shapeL f.Kids) else nS f.Op (shapeL f.Kids) := by cases f; rw [ow]
theorem Ei {a b : List Formula} (h : a.Perm b) : nodesL a = nodesL b := by
 induction h with
 | nil => rfl
 | cons x _ ih => rw [nodesL, nodesL, ih]
 | swap x y l => rw [nodesL, nodesL, nodesL, nodesL]; omega
 | trans _ _ h1 d => rw [h1, d]
theorem Cs (eq : Formula → Formula → Bool) : ∀ (l : List Formula) (x : Formula), nodesL (mx eq x l) ≤ nodesL l
 | [], x => aR _
 | y :: l, x => by
  have h1 := Cs eq l y
  have b := Cs eq l x
  rw [mx]
  split
  ·rw [nodesL]; omega
  ·rw [nodesL, nodesL]; omega
theorem M1 (eq : Formula → Formula → Bool) (l : List Formula) : nodesL (dd eq l) ≤ nodesL l := by
 cases l with
 | nil => exact aR _
 | cons x l => have := Cs eq l x; rw [dd, nodesL, nodesL]; omega
theorem zZ (op : Int) (ks : List Formula) : jR (nS op ks) ≤ 1 + nodesL ks := by
 unfold nS
 split
 ·rw [jR, nodesL]; omega
 ·have h1 := M1 oQ (tm (na op ks))
  have b := Ei (wY (na op ks))
  have d := B6 op ks
  generalize dd oQ (tm (na op ks)) = r at *
  split
  ·rename_i x
   rw [nodesL, nodesL] at h1; omega
  ·rw [jR]; omega
theorem Hq (k : Int) (ks : List Formula) : jR (qZ k ks) ≤ 1 + nodesL ks := by
 have h := xC (fun x => !kI 2 x && !kI 3 x) ks
 unfold qZ
 simp only
 generalize ks.filter (fun x => !kI 2 x && !kI 3 x) = l at *
 generalize k - ((ks.filter (kI 2)).length : Int) = n
 split
 ·rw [jR, nodesL]; omega
 ·split
  ·rw [jR, nodesL]; omega
  ·split
   ·have := zZ 2 l; omega
   ·split
    ·have := zZ 3 l; omega
    ·have := Ei (wY l); rw [jR]; omega
theorem yv : ∀ f : Formula, jR (ow f) ≤ jR f := by
 refine HQ fun f ih => ?_
 have h : ∀ ks : List Formula, (∀ k ∈ ks, jR (ow k) ≤ jR k) → nodesL (shapeL ks) ≤ nodesL ks := by
  intro ks
  induction ks with
  | nil => intro _; rw [shapeL]; exact aR _
  | cons k ks b =>
   intro h
   have := b (fun x d => h x (by simp [d]))
   have := h k (by simp)
   rw [shapeL, nodesL, nodesL]; omega
 have h := h f.Kids ih
 rw [wZ, nn f]
 split
 ·rw [nn]; omega
 ·split
  ·have := Hq f.K (shapeL f.Kids); omega
  ·have := zZ f.Op (shapeL f.Kids); omega
theorem CT (ks : List Formula) : nodesL (shapeL ks) ≤ nodesL ks := by
 induction ks with
 | nil => rw [shapeL]; exact aR _
 | cons k ks ih => have := yv k; rw [shapeL, nodesL, nodesL]; omega
theorem Np : ∀ (n : Nat) (f : Formula), ng f ≤ n → jR f ≤ 64 → rn f = true → ∀ s : kc, mG n s f = some (ow f, s) := by
 intro n
 induction n with
 | zero => intro f h; rw [mc] at h; omega
 | succ n ih =>
  intro f u x hw s
  rw [mc] at u
  have v := nn f
  obtain ⟨h1, t, p⟩ := vQ hw
  rw [mG]
  unfold qC
  rw [wZ]
  by_cases c1 : f.Op = 1
  ·simp only [c1, aV, aJ]
  ·have q : (f.Op == 1) = false := by simpa using c1
   simp only [q, aB, aG, c1]
   have key : ∀ (ks acc : List Formula), (∀ k ∈ ks, k ∈ f.Kids) → wellL ks = true → nodesL (acc ++ shapeL ks) ≤ 64 → nodesL ks ≤ 64 → mZ (mG n) f ks acc s = some (if f.Op = 4 then qZ f.K (acc ++ shapeL ks) else nS f.Op (acc ++ shapeL ks), s) := by
    intro ks
    induction ks with
    | nil =>
     intro acc _ _ i _
     rw [shapeL, bo] at *
     rw [mZ]
     by_cases j : f.Op = 4
     ·simp only [j, aV, aJ]
      rw [KS s f.K (by rcases p with h | h | h <;> omega) acc i, aA]
     ·have r : (f.Op == 4) = false := by simpa using j
      simp only [r, aB, aG, j]
      rw [Dy s f.Op (by rcases p with h | h | h <;> omega) acc i, aA]
    | cons k ks m =>
     intro acc hk b i l
     rw [wellL, aQ] at b
     rw [nodesL] at l
     rw [shapeL] at i
     have d := oK (acc ++ ow k :: shapeL ks)
     simp only [aC, aH] at d
     rw [mZ, ih k (by have := pH (hk k (by simp)); omega) (by omega) b.1 s, aA, lD (by simp; omega) (by simp; omega), aA,
      m (acc ++ [ow k]) (fun z w => hk z (by simp [w])) b.2 (by rw [aI]; exact i) (by omega), shapeL]
     simp only [aI, bO, bD]
   have := CT f.Kids
   have := key f.Kids [] (fun k hk => hk) t (by simpa using by omega) (by omega)
   simpa using this
def FM : Formula := ⟨0, 0, oe, []⟩
noncomputable def od (f : Formula) : Formula × Int := if mQ f then (if mQ (ow f) then (ow f, 0) else (FM, 12)) else (FM, 11)
theorem Gk (f : Formula) (h : Gd f) : uy f = some (od f) := by
 unfold uy od
 rw [Ct f h, aA]
 cases d : mQ f
 ·rfl
 ·obtain ⟨h1, i, b⟩ := yc d
  have j := yv f
  simp only [bU, aB, aG, aJ]
  rw [Np jP f (by rw [lN]; omega) h1 b, aA, Ct (ow f) (by omega)]
  have e : (((⟨0⟩ : kc).e) != 0) = false := rfl
  simp only [e, aB, aG, aA]
  cases mQ (ow f) <;> rfl
theorem uY {f : Formula} : jR (od f).1 ≤ 64 := by
 unfold od
 cases h : mQ f
 ·exact by simp only [aB, aG, FM]; rw [jR, nodesL]; omega
 ·obtain ⟨h1, b, d⟩ := yc h
  have := yv f
  simp only [aJ]
  split
  ·show jR (ow f) ≤ 64; omega
  ·rw [FM, jR, nodesL]; omega
theorem O0 (f g : Formula) (b : jR f ≤ 10000000) (d : jR g ≤ 10000000) : wk f g = some (od ⟨2, 0, oe, [f, g]⟩) := by
 unfold wk
 have := Gk ⟨2, 0, oe, [f, g]⟩ (by show jR _ ≤ _; rw [jR, nodesL, nodesL, nodesL]; omega)
 rw [show (⟨2, 0, (⟨zS, zS⟩ : jl), [f, g]⟩ : Formula) = ⟨2, 0, oe, [f, g]⟩ from rfl, this]
 rfl
mutual
def pc (v : jl → Bool) : Formula → Bool
 | ⟨o, k, r, ks⟩ => if o = 1 then v r else if o = 2 then decide (evN v ks = ks.length) else if o = 3 then decide (0 < evN v ks) else decide (k ≤ (evN v ks : Int))
def evN (v : jl → Bool) : List Formula → Nat
 | [] => 0
 | k :: ks => (if pc v k then 1 else 0) + evN v ks
end
theorem uk (v : jl → Bool) (f : Formula) : pc v f = if f.Op = 1 then v f.jl else if f.Op = 2 then decide (evN v f.Kids = f.Kids.length) else if f.Op = 3 then decide (0 < evN v f.Kids) else decide (f.K ≤ (evN v f.Kids : Int)) := by cases f; rw [pc]
theorem Fv (v : jl → Bool) : ∀ ks : List Formula, evN v ks ≤ ks.length
 | [] => by rw [evN]; exact aR _
 | k :: ks => by have := Fv v ks; rw [evN, aH]; split <;> omega
theorem Gc (v : jl → Bool) : ∀ ks : List Formula, evN v ks = ks.length ↔ ∀ k ∈ ks, pc v k = true
 | [] => by rw [evN]; simp
 | k :: ks => by
  have h1 := Fv v ks
  have b := Gc v ks
  rw [evN, aH]
  simp only [gD, ← b]
  cases pc v k <;> simp <;> omega
theorem Gg (v : jl → Bool) : ∀ ks : List Formula, 0 < evN v ks ↔ ∃ k ∈ ks, pc v k = true
 | [] => by rw [evN]; simp
 | k :: ks => by
  have b := Gg v ks
  rw [evN]
  simp only [aK, exists_eq_or_imp, ← b]
  cases pc v k <;> simp <;> omega
theorem FG (v : jl → Bool) (ks : List Formula) : evN v ks = (ks.filter (pc v)).length := by
 induction ks with
 | nil => rw [evN]; rfl
 | cons k ks ih => rw [evN, ih, dD]; cases pc v k <;> simp <;> omega
theorem NF (v : jl → Bool) {a b : List Formula} (h : a.Perm b) : evN v a = evN v b := by
 rw [FG, FG]; exact (h.filter _).length_eq
theorem OX {v w : jl → Bool} (h : ∀ r, v r = true → w r = true) : ∀ f : Formula, pc v f = true → pc w f = true := by
 refine HQ fun f ih => ?_
 have key : evN v f.Kids ≤ evN w f.Kids := by
  have : ∀ ks : List Formula, (∀ k ∈ ks, pc v k = true → pc w k = true) → evN v ks ≤ evN w ks := by
   intro ks
   induction ks with
   | nil => intro _; rw [evN, evN]; exact aR _
   | cons k ks b =>
    intro hk
    have h1 := b (fun x j => hk x (by simp [j]))
    have d := hk k (by simp)
    rw [evN, evN]
    cases i : pc v k
    ·simp; omega
    ·rw [d i]; simp; omega
  exact this _ ih
 have hle := Fv w f.Kids
 rw [uk, uk]
 split
 ·exact h _
 ·split
  ·simp only [bE]; omega
  ·split
   ·simp only [bE]; omega
   ·simp only [bE]; omega
theorem CY (v : jl → Bool) (f1 : jl → Option Bool) (rec : Formula → (jl → Option Bool) → Option Bool) (f : Formula) : ∀ (ks : List Formula) (x : Nat), (∀ k ∈ ks, rec k f1 = some (pc v k)) → x + ks.length ≤ 100000000 →
  ou rec f1 f ks (x : Int) = some (if f.Op = 2 then decide (x + evN v ks = f.Kids.length) else if f.Op = 3 then decide (0 < x + evN v ks) else decide (f.K ≤ ((x + evN v ks : Nat) : Int)))
 | [], x, _, _ => by
  rw [ou, evN, gb]
  by_cases c2 : f.Op = 2
  ·simp only [c2, aV, aJ]
   congr 1
   rw [bI, fR, bE]; omega
  ·have d : (f.Op == 2) = false := by simpa using c2
   simp only [d, aB, aG, c2]
   by_cases b : f.Op = 3
   ·simp only [b, aV, aJ]
    congr 1
    rw [bI, bE, bE]; omega
   ·have j : (f.Op == 3) = false := by simpa using b
    simp only [j, aB, aG, b]
 | k :: ks, x, h, l => by
  rw [aH] at l
  rw [ou, h k (by simp), aA, evN]
  cases pc v k
  ·simp only [aB, aG]
   rw [CY v f1 rec f ks x (fun z i => h z (by simp [i])) (by omega), dI]
  ·simp only [aJ]
   have e : wi0 .i64 ((x : Int) + 1) = ((x + 1 : Nat) : Int) := by rw [jZ (by omega) (by omega)]; omega
   rw [e, CY v f1 rec f ks (x + 1) (fun z i => h z (by simp [i])) (by omega)]
   have d : x + 1 + evN v ks = x + (1 + evN v ks) := by omega
   rw [d]
theorem LH (v : jl → Bool) (f1 : jl → Option Bool) (l : ∀ r, f1 r = some (v r)) : ∀ (n : Nat) (f : Formula), ng f ≤ n → Gd f → oN n f f1 = some (pc v f) := by
 intro n
 induction n with
 | zero => intro f h; rw [mc] at h; omega
 | succ n ih =>
  intro f d i
  rw [mc] at d
  have j := nn f
  have m := oK f.Kids
  unfold Gd at i
  rw [oN]
  unfold tT
  rw [uk]
  by_cases c1 : f.Op = 1
  ·simp only [c1, aV, aJ, l, aA]
  ·have b : (f.Op == 1) = false := by simpa using c1
   simp only [b, aB, aG, c1]
   have := CY v f1 (oN n) f f.Kids 0 (fun k hk => ih k (by have := pH hk; omega) (by have := ru hk; unfold Gd; omega)) (by omega)
   simpa using this
def qN (v : jl → Bool) (f : Formula) : Bool := mQ f && pc v f
theorem Ke (v : jl → Bool) (f1 : jl → Option Bool) (b : ∀ r, f1 r = some (v r)) (f : Formula) (h : Gd f) : tC f f1 = some (qN v f) := by
 unfold tC qN
 rw [Ct f h, aA]
 have := ux f
 cases mQ f
 ·rfl
 ·unfold Gd at h
  simp only [aJ, LH v f1 b jP f (by rw [lN]; omega) h, aA, dx]
theorem Fk (op : Int) (f : Formula) : kI op f = true ↔ f.Op = op ∧ f.Kids = [] := by
 unfold kI; simp
theorem GW (v : jl → Bool) {f : Formula} (h : kI 2 f = true) : pc v f = true := by
 obtain ⟨h1, b⟩ := (Fk 2 f).1 h
 rw [uk, h1, b, evN]; rfl
theorem G8 (v : jl → Bool) {f : Formula} (h : kI 3 f = true) : pc v f = false := by
 obtain ⟨h1, b⟩ := (Fk 3 f).1 h
 rw [uk, h1, b, evN]; rfl
def sc (v : jl → Bool) (ks : List Formula) : Bool := ks.all (pc v)
def sM (v : jl → Bool) (ks : List Formula) : Bool := ks.any (pc v)
theorem Jy (v : jl → Bool) (k : Int) (r : jl) (ks : List Formula) : pc v ⟨2, k, r, ks⟩ = sc v ks := by
 rw [uk, bI]; simp [sc, Gc]
theorem Ms (v : jl → Bool) (k : Int) (r : jl) (ks : List Formula) : pc v ⟨3, k, r, ks⟩ = sM v ks := by
 rw [uk, bI]; simp [sM, Gg]
theorem HW (v : jl → Bool) : ∀ ks : List Formula, sc v (na 2 ks) = sc v ks
 | [] => rfl
 | k :: ks => by
  have ih := HW v ks
  unfold sc at ih ⊢
  rw [na, List.all_append, ih, gA]
  congr 1
  split
  ·rename_i h
   obtain ⟨o, n, r, l⟩ := k
   simp only at h; subst h
   exact (Jy v n r l).symm
  ·simp
theorem HM (v : jl → Bool) : ∀ ks : List Formula, sM v (na 3 ks) = sM v ks
 | [] => rfl
 | k :: ks => by
  have ih := HM v ks
  unfold sM at ih ⊢
  rw [na, List.any_append, ih, fh]
  congr 1
  split
  ·rename_i h
   obtain ⟨o, n, r, l⟩ := k
   simp only at h; subst h
   exact (Ms v n r l).symm
  ·simp
theorem LN (l : List Formula) (x : Formula) : x ∈ dd oQ (tm l) ↔ x ∈ l := by
 rw [Ik (fun _ _ => vr), (wY l).mem_iff]
theorem Mg {v : jl → Bool} {a b : List Formula} (h : ∀ x, x ∈ a ↔ x ∈ b) : sc v a = sc v b := by
 unfold sc; rw [bI, ei, ei]
 exact ⟨fun q x d => q x ((h x).2 d), fun q x d => q x ((h x).1 d)⟩
theorem LY {v : jl → Bool} {a b : List Formula} (h : ∀ x, x ∈ a ↔ x ∈ b) : sM v a = sM v b := by
 unfold sM; rw [bI, dU, dU]
 exact ⟨fun ⟨x, d, q⟩ => ⟨x, (h x).1 d, q⟩, fun ⟨x, d, q⟩ => ⟨x, (h x).2 d, q⟩⟩
theorem FN (v : jl → Bool) (ks : List Formula) : pc v (nS 2 ks) = sc v ks := by
 rw [← HW]
 unfold nS
 split
 ·rename_i h
  rw [show (5 - 2 : Int) = 3 from rfl, Ms]
  obtain ⟨x, b, he⟩ := dU.1 h
  have : sc v (na 2 ks) = false := by
   unfold sc; rw [List.all_eq_false]; exact ⟨x, b, by rw [G8 v he]; simp⟩
  rw [this]; rfl
 ·rw [← Mg (LN (na 2 ks))]
  generalize dd oQ (tm (na 2 ks)) = r
  split
  ·simp [sc]
  ·exact Jy v 0 oe r
theorem FA (v : jl → Bool) (ks : List Formula) : pc v (nS 3 ks) = sM v ks := by
 rw [← HM]
 unfold nS
 split
 ·rename_i h
  rw [show (5 - 3 : Int) = 2 from rfl, Jy]
  obtain ⟨x, b, he⟩ := dU.1 h
  have : sM v (na 3 ks) = true := by
   unfold sM; rw [dU]; exact ⟨x, b, GW v he⟩
  rw [this]; rfl
 ·rw [← LY (LN (na 3 ks))]
  generalize dd oQ (tm (na 3 ks)) = r
  split
  ·simp [sM]
  ·exact Ms v 0 oe r
theorem He (v : jl → Bool) : ∀ ks : List Formula, evN v ks = (ks.filter (kI 2)).length + evN v (ks.filter fun x => !kI 2 x && !kI 3 x)
 | [] => rfl
 | k :: ks => by
  have ih := He v ks
  rw [evN, dD, dD, ih]
  cases b : kI 2 k
  ·cases d : kI 3 k
   ·simp only [cJ, iG, aB, aG, aJ]
    rw [evN]; omega
   ·rw [G8 v d]; simp
  ·rw [GW v b]; simp; omega
theorem KY (v : jl → Bool) (k : Int) (ks : List Formula) : pc v (qZ k ks) = decide (k ≤ (evN v ks : Int)) := by
 have d := He v ks
 unfold qZ
 simp only
 generalize b : ks.filter (fun x => !kI 2 x && !kI 3 x) = l at *
 generalize (ks.filter (kI 2)).length = m at *
 have hle := Fv v l
 have ha := Gc v l
 have hp := Gg v l
 split
 ·rw [Jy]; simp [sc]; omega
 ·split
  ·rw [Ms]; simp [sM]; omega
  ·split
   ·rw [FN, bI, bE]
    unfold sc
    rw [ei, ← ha]; omega
   ·split
    ·rw [FA, bI, bE]
     unfold sM
     rw [dU, ← hp]; omega
    ·rw [uk]
     simp only [NF v (wY l)]
     have : ¬ ((4 : Int) = 1) := by omega
     have : ¬ ((4 : Int) = 2) := by omega
     have : ¬ ((4 : Int) = 3) := by omega
     simp only [*, aG]
     rw [bI, bE, bE]; omega
theorem M4 (v : jl → Bool) : ∀ f : Formula, rn f = true → pc v (ow f) = pc v f := by
 refine HQ fun f ih hw => ?_
 obtain ⟨h1, i, j⟩ := vQ hw
 rw [DA, ei] at i
 have key : ∀ ks : List Formula, (∀ k ∈ ks, pc v (ow k) = pc v k) → evN v (shapeL ks) = evN v ks ∧ sc v (shapeL ks) = sc v ks ∧ sM v (shapeL ks) = sM v ks := by
  intro ks
  induction ks with
  | nil => intro _; rw [shapeL]; exact ⟨rfl, rfl, rfl⟩
  | cons k ks d =>
   intro hk
   obtain ⟨a, b, c⟩ := d (fun x m => hk x (by simp [m]))
   have h := hk k (by simp)
   unfold sc sM at *
   rw [shapeL, evN, evN, a, h, gA, gA, fh, fh, b, c, h]
   exact ⟨rfl, rfl, rfl⟩
 obtain ⟨a, b, c⟩ := key f.Kids (fun k hk => ih k hk (i k hk))
 obtain ⟨o, n, r, l⟩ := f
 simp only at *
 rw [wZ]
 simp only
 rcases j with h | h | h
 ·simp only [h.1, aJ]
 ·rcases h.1 with h | h
  ·subst h
   rw [Jy]
   exact (FN v _).trans b
  ·subst h
   rw [Ms]
   exact (FA v _).trans c
 ·obtain ⟨h, _⟩ := h
  subst h
  rw [uk v ⟨4, n, r, l⟩]
  exact (KY v n _).trans (by rw [a]; rfl)
theorem E6 {f g : Formula} (h : od f = (g, 0)) : mQ f = true ∧ mQ g = true ∧ ∀ v, pc v g = pc v f := by
 unfold od at h
 cases b : mQ f
 ·rw [b] at h; simp at h
 ·rw [b] at h
  simp only [aJ] at h
  cases d : mQ (ow f)
  ·rw [d] at h; simp at h
  ·rw [d] at h
   simp only [aJ, Prod.mk.injEq] at h
   obtain ⟨rfl, _⟩ := h
   exact ⟨rfl, d, fun v => M4 v f (yc b).2.2⟩
def S8 (l : List Signed) : Prop := ∀ s ∈ l, B8 s.Tag
theorem It (b : List jm) (x : jm) : qH b x = some (mM ko b x) := by
 obtain ⟨q, e, h⟩ := ID x b
 unfold pf at e
 rw [nK] at e
 rw [e, show q = mM ko b x from by rw [bI, h, ub pd]]
structure KD (l : List jm) (F : List jz) : Prop where
 len : F.length ≤ 900000000
 ref : vm l = some F
 RK : ∃ m, vo l = some m ∧ uA m.1 m.2.1 m.2.2.1 m.2.2.2.1 m.2.2.2.2.1 m.2.2.2.2.2 = some F ∧ ∀ r w, rS m.1 m.2.1 m.2.2.1 m.2.2.2.1 m.2.2.2.2.1 m.2.2.2.2.2 r w = some (mM zw F ⟨r, w⟩)
 vK : ∀ C : List jm, (∀ c, c ∈ C ↔ c ∈ l ∧ lm c = true) → zA (nU C) F
theorem QK (l : List jm) (A : l.length ≤ 30000) : ∃ F, KD l F := by
 obtain ⟨F, h⟩ := PU l A
 refine ⟨F, h.RW, h.ref, ?_, fun C x => ?_⟩
 ·obtain ⟨C, h1, i, v⟩ := h.C
  obtain ⟨C1, T, s, ws, n, t, m1, j, p⟩ := Kz l (by omega)
  have d : ∀ c, c ∈ C1 ↔ c ∈ C := fun c => by rw [i, j]
  have q : zA (nU C1) F := ⟨h1.1, fun f => (h1.2 f).trans (nU.congr d f).symm⟩
  have y : SM C1 := by unfold SM; omega
  refine ⟨_, t, ?_, fun r w => ?_⟩
  ·obtain ⟨F1, u, m⟩ := NK y.small m1 C1 s ws [] n
   rw [← m.unique q]; exact u
  ·obtain ⟨b, e, z⟩ := LS m1 C1 s ws [] n r w
   rw [e, show b = mM zw F ⟨r, w⟩ from by rw [bI, z, ub vT, q.2]]
 ·obtain ⟨C', h1, i, v⟩ := h.C
  have d : ∀ c, c ∈ C' ↔ c ∈ C := fun c => by rw [i, x]
  exact ⟨h1.1, fun f => (h1.2 f).trans (nU.congr d f)⟩
structure PB (p : jQ) : Prop where
 HB : p.jA.length ≤ 2000000
 H9 : p.jO.length ≤ 2000000
 rel : ∀ x ∈ p.jA, jR x.ju ≤ 10000000
 Nd : ∀ a ∈ p.jO, jR a.ju ≤ 10000000
 Sf : ∀ a ∈ p.jO, a.lx.length ≤ 2000000
theorem Iv (f : kK → Option Bool) : ∀ (l : List kK) (i : Nat), mH f l i = xn f l i
 | [], i => by rw [mH]; rfl
 | x :: l, i => by
  rw [mH, xn]
  cases f x with
  | none => rfl
  | some b =>
   simp only [aA]
   rw [Iv f l (i + 1)]
theorem HL (f : nh → Option Bool) : ∀ (l : List nh) (i : Nat), nk f l i = xn f l i
 | [], i => by rw [nk]; rfl
 | x :: l, i => by
  rw [nk, xn]
  cases f x with
  | none => rfl
  | some b =>
   simp only [aA]
   rw [HL f l (i + 1)]
theorem Nx {α : Type} (f : α → Option Bool) (p : α → Bool) (l : List α) (h : ∀ x ∈ l, f x = some (p x)) : ((xn f l 0).bind fun i => some (decide (i ≥ 0))) = some (l.any p) := by
 rcases zT f p l 0 h with ⟨e, h1⟩ | ⟨A, x, B, rfl, h1, b, e⟩
 ·rw [e, aA]
  have : l.any p = false := by rw [List.any_eq_false]; intro x d; rw [h1 x d]; simp
  rw [this]; rfl
 ·rw [e, aA]
  have : (A ++ x :: B).any p = true := by simp [b]
  rw [this]
  congr 1
def zj (p : jQ) (c : jm) : Option kK := p.jA.find? fun x => ko x.Signed.jm c
theorem Ph (p : jQ) (c : jm) : ∃ z, xm p c = some (match zj p c with | some x => (x, true) | none => (z, false)) := by
 unfold xm qY zj
 rw [Iv]
 rcases zT (fun x => uH x c) (fun x => ko x.Signed.jm c) p.jA 0 (fun x _ => rfl) with ⟨e, h1⟩ | ⟨A, x, B, hp, h1, d, e⟩
 ·rw [e, aA, fT.2 (fun x b => by rw [h1 x b]; simp)]
  exact ⟨_, rfl⟩
 ·rw [e, aA, hp, iC, fT.2 (fun x b => by rw [h1 x b]; simp), fN, d]
  have : ¬ (((0 + A.length : Nat) : Int) < 0) := by omega
  simp only [this, bT, aB, aG]
  rw [my A x B _ (by omega)]
  exact ⟨x, rfl⟩
def Qy : nh := ⟨⟨zS, zS⟩, ⟨0, 0, ⟨zS, zS⟩, []⟩, []⟩
theorem HU (f : nh → Option Bool) : ∀ (n : Nat) (l : List nh) (i j : Int), mY f n l i j = Ca f Qy n l i j
 | 0, _, _, _ => rfl
 | n + 1, l, i, j => by
  rw [mY, Ca]
  simp only [HU f n]
  rfl
def yG (p : jQ) (c : jm) : List nh := p.jO.filter fun a => mM ko a.lx c
theorem Nt (p : jQ) (hp : PB p) (c : jm) : wu p c = some (yG p c) := by
 have := hp.H9
 unfold wu sJ yG
 rw [lD (by simp; omega) (by simp; omega)]
 simp only [aA, bD, nK]
 have : qe p.jO (fun x => qD x c) = Gw (fun x => qD x c) Qy p.jO := by
  unfold qe Gw sX
  simp only [HL, HU]
 rw [this, Ih _ (fun a => !mM ko a.lx c) Qy _ (by omega) (fun a _ => by unfold qD pf; rw [nK, It]; rfl)]
 simp only [gp]
noncomputable def nZ : Formula × Int → List Formula → Formula × Int
 | t, [] => t
 | t, g :: l => if t.2 = 0 then nZ (od ⟨2, 0, oe, [t.1, g]⟩) l else t
theorem Jr : ∀ (l : List Formula) (e o k : Int) (r : jl) (ks : List Formula), (∀ g ∈ l, jR g ≤ 10000000) → jR ⟨o, k, r, ks⟩ ≤ 64 →
  rE l e o k r ks = some ((nZ (⟨o, k, r, ks⟩, e) l).2, (nZ (⟨o, k, r, ks⟩, e) l).1.Op, (nZ (⟨o, k, r, ks⟩, e) l).1.K, (nZ (⟨o, k, r, ks⟩, e) l).1.jl, (nZ (⟨o, k, r, ks⟩, e) l).1.Kids)
 | [], e, o, k, r, ks, _, _ => by rw [rE, nZ]
 | g :: l, e, o, k, r, ks, h, p => by
  rw [rE, nZ]
  by_cases c : e = 0
  ·have b : (e != 0) = false := by simp [c]
   simp only [b, aB, aG, c, aJ]
   rw [O0 _ g (by omega) (h g (by simp)), aA]
   have i := uY (f := ⟨2, 0, oe, [⟨o, k, r, ks⟩, g]⟩)
   generalize od ⟨2, 0, oe, [⟨o, k, r, ks⟩, g]⟩ = q at *
   obtain ⟨⟨m, k', n, d⟩, e'⟩ := q
   exact Jr l e' m k' n d (fun z j => h z (by simp [j])) i
  ·have b : (e != 0) = true := by simp [c]
   simp only [b, aJ, c, aG]
noncomputable def Bh (g : Formula) (l : List Formula) : Formula × Int := if (nZ (od g) l).2 = 0 then nZ (od g) l else (FM, (nZ (od g) l).2)
theorem OS (g : Formula) (l : List Formula) (n : jR g ≤ 10000000) (i : ∀ x ∈ l, jR x ≤ 10000000) : uu (g :: l) = some (Bh g l) := by
 unfold uu Bh
 have d : kF (g :: l) 0 = some g := my [] g l 0 rfl
 have b : qi (decide (0 ≤ 1) && decide ((1 : Int) ≤ ((g :: l).length : Int))) = some () := by
  rw [aH]
  have : (1 : Int) ≤ ((l.length + 1 : Nat) : Int) := by omega
  simp [qi]; omega
 have j := uY (f := g)
 rw [d, aA, Gk g (by unfold Gd; omega), aA, b, aA]
 generalize od g = q at *
 obtain ⟨⟨o, k, r, ks⟩, e⟩ := q
 have h : (g :: l).drop (Int.toNat 1) = l := rfl
 rw [h, Jr l e o k r ks i j, aA]
 generalize nZ (⟨o, k, r, ks⟩, e) l = t
 obtain ⟨⟨p, k', s, m⟩, e'⟩ := t
 by_cases c : e' = 0
 ·subst c; rfl
 ·have b : (e' != 0) = true := by simp [c]
  simp only [b, aJ, c, aG]; rfl
noncomputable def pb (p : jQ) (c : jm) : Formula × Int := match zj p c with | none => (FM, 42) | some x => Bh x.ju ((yG p c).map (·.ju))
theorem Mr : ∀ (l : List nh) (acc : List Formula), acc.length + l.length ≤ 3000000 → sr l acc = uu (acc ++ l.map (·.ju))
 | [], acc, _ => by
  rw [sr, ez, bo]
  cases uu acc <;> rfl
 | a :: l, acc, h => by
  rw [aH] at h
  rw [sr, lD (by simp; omega) (by simp; omega), aA, Mr l _ (by simp; omega)]
  simp
theorem Nq {p : jQ} {c : jm} {x : kK} (h : zj p c = some x) : x ∈ p.jA ∧ x.Signed.jm = c := by
 unfold zj at h
 have h1 := List.mem_of_find?_eq_some h
 have b := List.find?_some h
 exact ⟨h1, pd.1 b⟩
theorem Qn (p : jQ) (hp : PB p) (c : jm) : zn p c = some (pb p c) := by
 unfold zn pb
 obtain ⟨z, e⟩ := Ph p c
 rw [e, aA]
 cases h : zj p c with
 | none => rfl
 | some x =>
  simp only [bU, aB, aG]
  have d := Nq h
  have i : (yG p c).length ≤ p.jO.length := eH _ _
  have := hp.H9
  rw [Nt p hp c, aA, Mr _ _ (by simp; omega)]
  exact OS x.ju _ (hp.rel x d.1) (fun g b => by
   obtain ⟨a, ha, rfl⟩ := bH.1 b
   exact hp.Nd a (cR.1 ha).1)
theorem GR (p : jQ) (c : jm) : jR (pb p c).1 ≤ 64 := by
 have b : jR FM ≤ 64 := by rw [FM, jR, nodesL]; omega
 have d : ∀ (l : List Formula) (t : Formula × Int), jR t.1 ≤ 64 → jR (nZ t l).1 ≤ 64 := by
  intro l
  induction l with
  | nil => intro t h; exact h
  | cons g l ih =>
   intro t h
   rw [nZ]
   split
   ·exact ih _ uY
   ·exact h
 unfold pb
 split
 ·exact b
 ·unfold Bh
  split
  ·exact d _ _ uY
  ·exact b
theorem IB : ∀ (l : List Formula) (f : Formula) (e : Int), (nZ (f, e) l).2 = 0 → e = 0 ∧ (mQ f = true → mQ (nZ (f, e) l).1 = true ∧ ∀ v, pc v (nZ (f, e) l).1 = (pc v f && l.all (pc v)))
 | [], f, e, h => by rw [nZ] at *; exact ⟨h, fun m => ⟨m, fun v => by simp⟩⟩
 | g :: l, f, e, h => by
  rw [nZ] at *
  by_cases c : e = 0
  ·simp only [c, aJ] at h ⊢
   cases b : od ⟨2, 0, oe, [f, g]⟩ with
   | mk q e' =>
    rw [b] at h
    obtain ⟨h1, j⟩ := IB l q e' h
    subst h1
    obtain ⟨n, a2, a3⟩ := E6 b
    obtain ⟨d, i⟩ := j a2
    refine ⟨trivial, fun _ => ⟨d, fun v => ?_⟩⟩
    rw [i v, a3 v, Jy]
    simp [sc, gn]
  ·simp only [c, aG] at h
theorem LD {p : jQ} {c : jm} (h : (pb p c).2 = 0) : mQ (pb p c).1 = true ∧ ∃ x, zj p c = some x ∧ ∀ v, pc v (pb p c).1 = (pc v x.ju && (yG p c).all fun a => pc v a.ju) := by
 unfold pb at *
 cases i : zj p c with
 | none => rw [i] at h; simp at h
 | some x =>
  rw [i] at h
  simp only at h ⊢
  unfold Bh at *
  by_cases b : (nZ (od x.ju) ((yG p c).map (·.ju))).2 = 0
  ·simp only [b, aJ] at h ⊢
   cases d : od x.ju with
   | mk q e =>
    rw [d] at b
    obtain ⟨h1, m⟩ := IB _ q e b
    subst h1
    obtain ⟨n, a2, a3⟩ := E6 d
    obtain ⟨j, l⟩ := m a2
    refine ⟨j, x, rfl, fun v => ?_⟩
    rw [l v, a3 v, List.all_map]
    rfl
  ·simp only [b, aG] at h
def vF (F : List jz) (peer : ByteArray) (r : jl) : Bool := mM zw F ⟨r, peer⟩
theorem OL {l : List jm} {F : List jz} (h : KD l F) (peer : ByteArray) : ∃ m, tq l peer = some m ∧ ∀ r, oO r m.1 m.2.1 m.2.2.1 m.2.2.2.1 m.2.2.2.2.1 m.2.2.2.2.2.1 m.2.2.2.2.2.2 = some (vF F peer r) := by
 obtain ⟨m, e, _, b⟩ := h.RK
 unfold tq
 rw [e, aA]
 refine ⟨_, rfl, fun r => ?_⟩
 unfold oO
 rw [nK]
 exact b r peer
noncomputable def yu (p : jQ) (v : jl → Bool) (x : kK) : Bool := decide ((pb p x.Signed.jm).2 = 0) && qN v (pb p x.Signed.jm).1
theorem Bo (p : jQ) (hp : PB p) (v : jl → Bool) (m) (b : ∀ r, oO r m.1 m.2.1 m.2.2.1 m.2.2.2.1 m.2.2.2.2.1 m.2.2.2.2.2.1 m.2.2.2.2.2.2 = some (v r)) : ∀ (l : List kK) (acc : List jm), acc.length + l.length ≤ 1000000000 →
  pQ p m l acc = xx (acc ++ (l.filter (yu p v)).map (·.Signed.jm))
 | [], acc, _ => by
  rw [pQ, gI, ez, bo, nK]
 | x :: l, acc, h => by
  rw [aH] at h
  have d := GR p x.Signed.jm
  rw [pQ, Qn p hp, aA, Ke v _ b _ (by unfold Gd; omega), dD]
  unfold yu
  by_cases c : (pb p x.Signed.jm).2 = 0
  ·simp only [c, aV, aJ, bR, dx, aA]
   cases i : qN v (pb p x.Signed.jm).1
   ·simp only [aB, aG]
    exact Bo p hp v m b l acc (by omega)
   ·simp only [aJ]
    rw [lD (by simp; omega) (by simp; omega), aA, Bo p hp v m b l _ (by simp; omega)]
    simp only [bF, aI, bO, bD]
    rfl
  ·have e : ((pb p x.Signed.jm).2 == 0) = false := by simpa using c
   simp only [e, aB, aG, c, bT, eU, aA]
   exact Bo p hp v m b l acc (by omega)
theorem Ox (p : jQ) (hp : PB p) {l : List jm} {F : List jz} (h : KD l F) (peer : ByteArray) : ∃ s, pM p l peer = some s ∧ IF ((p.jA.filter (yu p (vF F peer))).map (·.Signed.jm)) s := by
 obtain ⟨m, e, b⟩ := OL h peer
 have := hp.HB
 unfold pM
 rw [e, aA, Bo p hp _ m b p.jA [] (by simp; omega), bD]
 have h1 : (p.jA.filter (yu p (vF F peer))).length ≤ p.jA.length := eH _ _
 exact Pu _ (by simp; omega)
structure PG (p : jQ) : Prop extends PB p where
 Se : ∀ x ∈ p.jA, wv x.Signed.jm ≤ 1000000000
 Sy : ∀ a ∈ p.jO, ∀ c ∈ a.lx, wv c ≤ 1000000000
def gX : jl := ⟨⟨#[120]⟩, ⟨#[121]⟩⟩
def gc : jm := ⟨1, gX, ⟨#[109, 101]⟩, ⟨zS, zS⟩, ⟨zS, zS⟩, zS⟩
noncomputable def vD (l : List jm) (peer : ByteArray) (r : jl) : Bool := @decide (nU (l.filter lm) ⟨r, peer⟩) (Classical.propDecidable _)
theorem IG (l : List jm) (peer : ByteArray) (r : jl) : vD l peer r = true ↔ nU (l.filter lm) ⟨r, peer⟩ := by unfold vD; simp
theorem On {l m : List jm} (h : ∀ c ∈ l, c ∈ m) (peer : ByteArray) (r : jl) (d : vD l peer r = true) : vD m peer r = true := by
 rw [IG] at *
 exact d.mono (fun c b => by rw [cR] at *; exact ⟨h c b.1, b.2⟩)
theorem Q1 (l : List jm) (j : l.length ≤ 1000000) (peer : ByteArray) : ∃ m, tq l peer = some m ∧ ∀ r, oO r m.1 m.2.1 m.2.2.1 m.2.2.2.1 m.2.2.2.2.1 m.2.2.2.2.2.1 m.2.2.2.2.2.2 = some (vD l peer r) := by
 obtain ⟨C, T, p, ws, n, e, m, h, _⟩ := Kz l j
 unfold tq
 rw [e, aA]
 refine ⟨_, rfl, fun r => ?_⟩
 unfold oO
 rw [nK]
 obtain ⟨b, d, i⟩ := LS m C p ws [] n r peer
 rw [d]
 congr 1
 rw [bI, i, IG]
 exact nU.congr (fun c => by rw [h, cR]) _
noncomputable def NX (p : jQ) (v : jl → Bool) (c : jm) : Bool := decide ((pb p c).2 = 0) && qN v (pb p c).1
theorem MW {p : jQ} {v w : jl → Bool} (h : ∀ r, v r = true → w r = true) (c : jm) (b : NX p v c = true) : NX p w c = true := by
 unfold NX qN at *
 simp only [aQ, bE] at *
 exact ⟨b.1, b.2.1, OX h _ b.2.2⟩
def oI (s : List jm) : Prop := s.Pairwise (fun a b => zP a b = true) ∧ ∀ c ∈ s, lm c = true
theorem oI.nodup {s : List jm} (h : oI s) : s.Nodup := sW BP h.2 h.1
theorem oI.le {s t : List jm} (h : oI s) (b : ∀ c ∈ s, c ∈ t) : s.length ≤ t.length := lP h.nodup b
theorem oI.ext {s t : List jm} (h : oI s) (k : oI t) (d : ∀ c, c ∈ s ↔ c ∈ t) : s = t :=
 uM.unique BP (l := t) ⟨h.1, fun x => ⟨fun b => ⟨(d x).1 b, h.2 x b⟩, fun b => (d x).2 b.1⟩⟩ ⟨k.1, fun x => ⟨fun b => ⟨b, k.2 x b⟩, fun b => b.1⟩⟩
theorem oI.eq {s t : List jm} (h : oI s) (k : oI t) (d : ∀ c ∈ s, c ∈ t) (n : t.length ≤ s.length) : s = t := by
 refine h.ext k fun c => ⟨d c, fun i => ?_⟩
 refine eJ fun j => ?_
 have := lP (l := c :: s) (m := t) (cY.2 ⟨j, h.nodup⟩) (fun x b => by
  rcases aK.1 b with rfl | b
  ·exact i
  ·exact d x b)
 simp at this; omega
theorem oI.nil : oI [] := ⟨by simp, by simp⟩
theorem oI.filter {s : List jm} (h : oI s) (p : jm → Bool) : oI (s.filter p) := ⟨h.1.filter _, fun c b => h.2 c (cR.1 b).1⟩
def HJ (p : jQ) (c : jm) : Prop := ∃ x ∈ p.jA, x.Signed.jm = c
def rc (p : jQ) (l : List jm) (peer : ByteArray) (c : jm) : Prop := HJ p c ∧ lm c = true ∧ NX p (vD l peer) c = true
theorem rB {p : jQ} {l m : List jm} (h : ∀ c ∈ l, c ∈ m) {peer : ByteArray} {c : jm} (b : rc p l peer c) : rc p m peer c := ⟨b.1, b.2.1, MW (On h peer) c b.2.2⟩
theorem wS {p : jQ} {s : List jm} (h : oI s) (d : ∀ c ∈ s, HJ p c) : s.length ≤ p.jA.length := by
 have := h.le (t := p.jA.map (·.Signed.jm)) (fun c b => by obtain ⟨x, i, e⟩ := d c b; exact bH.2 ⟨x, i, e⟩)
 simpa using this
theorem DO (p : jQ) (hp : PB p) (l : List jm) (t : l.length ≤ 1000000) (peer : ByteArray) : ∃ s, pM p l peer = some s ∧ oI s ∧ (∀ c, c ∈ s ↔ rc p l peer c) ∧ s.length ≤ p.jA.length := by
 obtain ⟨m, e, u⟩ := Q1 l t peer
 have := hp.HB
 unfold pM
 rw [e, aA, Bo p hp _ m u p.jA [] (by simp; omega), bD]
 have h1 : (p.jA.filter (yu p (vD l peer))).length ≤ p.jA.length := eH _ _
 obtain ⟨s, q, b⟩ := Pu ((p.jA.filter (yu p (vD l peer))).map (·.Signed.jm)) (by simp; omega)
 have n : oI s := ⟨b.1, fun c h => ((b.2 c).1 h).2⟩
 have hm : ∀ c, c ∈ s ↔ rc p l peer c := fun c => by
  rw [b.2, bH]
  constructor
  ·rintro ⟨⟨x, j, rfl⟩, i⟩
   obtain ⟨r, d⟩ := cR.1 j
   exact ⟨⟨x, r, rfl⟩, i, d⟩
  ·rintro ⟨⟨x, j, rfl⟩, i, d⟩
   exact ⟨⟨x, cR.2 ⟨j, d⟩, rfl⟩, i⟩
 exact ⟨s, q, n, hm, wS n (fun c h => ((hm c).1 h).1)⟩
structure JG (a b : jQ) (x y : List jm) : Prop where
 sx : oI x
 sy : oI y
 fx : ∀ c, c ∈ x ↔ rc a y b.Name c
 fy : ∀ c, c ∈ y ↔ rc b x a.Name c
 least : ∀ X Y : List jm, (∀ c, rc a Y b.Name c → c ∈ X) → (∀ c, rc b X a.Name c → c ∈ Y) → (∀ c ∈ x, c ∈ X) ∧ (∀ c ∈ y, c ∈ Y)
theorem JG.ly {a b : jQ} {x y : List jm} (h : JG a b x y) : y.length ≤ b.jA.length := wS h.sy (fun c d => ((h.fy c).1 d).1)
theorem G6 (a b : jQ) (ha : PB a) (w : PB b) (L : a.jA.length ≤ 600000) (M : b.jA.length ≤ 600000) : ∀ (n : Nat) (x y : List jm) (i : Int), oI x → oI y → (∀ c ∈ x, rc a y b.Name c) → (∀ c ∈ y, rc b x a.Name c) →
  (∀ X Y : List jm, (∀ c, rc a Y b.Name c → c ∈ X) → (∀ c, rc b X a.Name c → c ∈ Y) → (∀ c ∈ x, c ∈ X) ∧ (∀ c ∈ y, c ∈ Y)) → a.jA.length + b.jA.length < n + x.length + y.length →
  ∃ z A j, ox a b n x y i = some (z, A, j) ∧ JG a b z A
 | 0, x, y, i, sx, sy, l, m, hm, J => by
  have h1 := wS sx (fun c d => (l c d).1)
  have I := wS sy (fun c d => (m c d).1)
  omega
 | n + 1, x, y, i, sx, sy, l, m, hm, J => by
  have h1 := wS sx (fun c d => (l c d).1)
  have I := wS sy (fun c d => (m c d).1)
  obtain ⟨p, E, sp, mp, R⟩ := DO a ha y (by omega) b.Name
  obtain ⟨q, G, sq, r, T⟩ := DO b w x (by omega) a.Name
  have s : ∀ c ∈ x, c ∈ p := fun c d => (mp c).2 (l c d)
  have t : ∀ c ∈ y, c ∈ q := fun c d => (r c).2 (m c d)
  have P := sx.le s
  have Q := sy.le t
  rw [ox, E, aA, G, aA]
  by_cases c1 : p.length = x.length ∧ q.length = y.length
  ·have e : ((if ((p.length : Int) == (x.length : Int)) then some ((q.length : Int) == (y.length : Int)) else some false) : Option Bool) = some true := by
    rw [c1.1, c1.2]; simp
   rw [e]
   simp only [aA, aJ]
   obtain rfl := sx.eq sp s (by omega)
   obtain rfl := sy.eq sq t (by omega)
   exact ⟨_, _, _, rfl, sx, sy, mp, r, hm⟩
  ·have e : ((if ((p.length : Int) == (x.length : Int)) then some ((q.length : Int) == (y.length : Int)) else some false) : Option Bool) = some false := by
    by_cases c2 : p.length = x.length
    ·have O : ¬ q.length = y.length := fun h => c1 ⟨c2, h⟩
     simp [c2]; omega
    ·have : ¬ ((p.length : Int) = (x.length : Int)) := by omega
     simp [this]
   rw [e]
   simp only [aA, aB, aG]
   refine G6 a b ha w L M n p q _ sp sq (fun c d => rB t ((mp c).1 d)) (fun c d => rB s ((r c).1 d)) (fun X Y u v => ?_) (by omega)
   obtain ⟨g1, g2⟩ := hm X Y u v
   exact ⟨fun c d => u c (rB g2 ((mp c).1 d)), fun c d => v c (rB g1 ((r c).1 d))⟩
theorem Ls (a b : jQ) (ha : PB a) (d : PB b) (h : a.jA.length ≤ 600000) (i : b.jA.length ≤ 600000) : ∃ x y j, rz a b = some (x, y, j) ∧ JG a b x y :=
 G6 a b ha d h i jP [] [] 0 oI.nil oI.nil (by simp) (by simp) (fun _ _ _ _ => by simp) (by rw [lN]; simp; omega)
def wI : Formula := ⟨2, 0, oe, []⟩
theorem Ow : Bh wI [] = (wI, 0) := by
 have h1 : mQ wI = true := by decide +kernel
 have h : ow wI = wI := by
  rw [wZ]
  have b : ¬ (wI.Op = 1) := by decide
  have d : ¬ (wI.Op = 4) := by decide
  simp only [b, d, aG]
  rw [show wI.Kids = [] from rfl, shapeL]
  unfold nS
  rw [na]
  rfl
 have i : od wI = (wI, 0) := by unfold od; rw [h1, h, h1]; rfl
 unfold Bh
 rw [i, nZ]; rfl
structure PP (p : oH) : Prop where
 o : PG p.jo
 c : PG p.Client
 lo : p.jo.jA.length ≤ 600000
 lc : p.Client.jA.length ≤ 600000
 f : jR p.Formula ≤ 10000000
def RN : ByteArray := ⟨#[111, 119, 110]⟩
def Qo : ByteArray := ⟨#[99, 108, 105]⟩
theorem Qt : ∀ (n : Nat) (f : Formula), ng f ≤ n → Gd f → uc n f = some (jR f : Int) := by
 intro n
 induction n with
 | zero => intro f h; rw [mc] at h; omega
 | succ n ih =>
  intro f i j
  rw [mc] at i
  have b := nn f
  unfold Gd at j
  rw [uc]
  unfold yM
  have key : ∀ (ks : List Formula) (x : Nat), (∀ k ∈ ks, k ∈ f.Kids) → x + nodesL ks ≤ 50000000 → rT (uc n) ks (x : Int) = some ((x + nodesL ks : Nat) : Int) := by
   intro ks
   induction ks with
   | nil => intro x _ _; rw [rT, nodesL]; rfl
   | cons k ks d =>
    intro x hk l
    rw [nodesL] at l
    rw [rT, ih k (by have := pH (hk k (by simp)); omega) (by have := ru (hk k (by simp)); unfold Gd; omega), aA]
    have w : wi0 .i64 ((x : Int) + (jR k : Int)) = ((x + jR k : Nat) : Int) := by rw [jZ (by omega) (by omega)]; omega
    rw [w, d _ (fun z m => hk z (by simp [m])) (by omega), nodesL]
    congr 2; omega
  have := key f.Kids 1 (fun k hk => hk) (by omega)
  rw [b]
  exact this
theorem Rw : ∀ (n : Nat) (f : Formula), ng f ≤ n → Gd f → uR n f = some (ng f : Int) := by
 intro n
 induction n with
 | zero => intro f h; rw [mc] at h; omega
 | succ n ih =>
  intro f i j
  rw [mc] at i ⊢
  have l := nn f
  have hle := ux f
  rw [mc] at hle
  unfold Gd at j
  rw [uR]
  unfold ze
  have key : ∀ (ks : List Formula) (x : Nat), (∀ k ∈ ks, k ∈ f.Kids) → max x (deepL ks) ≤ 50000000 → sF (uR n) ks (x : Int) = some ((max x (deepL ks) + 1 : Nat) : Int) := by
   intro ks
   induction ks with
   | nil =>
    intro x _ b
    rw [deepL] at b
    rw [sF, deepL, jZ (by omega) (by omega)]
    congr 1; omega
   | cons k ks d =>
    intro x hk b
    rw [deepL] at b
    rw [sF, ih k (by have := pH (hk k (by simp)); omega) (by have := ru (hk k (by simp)); unfold Gd; omega), aA]
    have w : (if (ng k : Int) > (x : Int) then (ng k : Int) else (x : Int)) = ((max x (ng k) : Nat) : Int) := by split <;> omega
    rw [w, d _ (fun z m => hk z (by simp [m])) (by omega), deepL]
    congr 2; omega
  have := key f.Kids 0 (fun k hk => hk) (by omega)
  rw [Nat.zero_max] at this
  exact this
theorem QN : ∀ (n : Nat) (f : Formula), ng f ≤ n → vh n f = some (rn f) := by
 intro n
 induction n with
 | zero => intro f h; rw [mc] at h; omega
 | succ n ih =>
  intro f h
  rw [mc] at h
  have key : ∀ ks : List Formula, (∀ k ∈ ks, k ∈ f.Kids) → sP (vh n) ks = some (wellL ks) := by
   intro ks
   induction ks with
   | nil => intro _; rw [sP, wellL]
   | cons k ks q =>
    intro hk
    rw [sP, ih k (by have := pH (hk k (by simp)); omega), aA, q (fun z s => hk z (by simp [s])), wellL]
    cases rn k <;> rfl
  have hk := key f.Kids (fun k hk => hk)
  rw [vh]
  unfold za
  rw [hk, Cf, zV]
  unfold AL
  simp only [aA]
  by_cases c1 : f.Op = 1
  ·simp only [c1, aV, aJ]
   cases t : lG f.jl
   ·simp
   ·by_cases b : f.Kids.length = 0
    ·have e : f.Kids = [] := aO b
     by_cases p : f.K = 0 <;> simp [e, p, wellL]
    ·have : ((f.Kids.length : Int) == 0) = false := by rw [beq_eq_false_iff_ne]; omega
     simp [this, b]
  ·have r : (f.Op == 1) = false := by simpa using c1
   simp only [r, aB, aG, c1]
   by_cases j : f.Op = 2 ∨ f.Op = 3
   ·have l : ¬ f.Op < 1 := by omega
    have a2 : ¬ f.Op > 4 := by omega
    have a3 : f.Op < 4 := by omega
    have a4 : (f.Op == 4) = false := by rw [beq_eq_false_iff_ne]; omega
    simp only [l, a2, a3, a4, j, bT, bR, aB, aG, aJ, aA]
    cases i : jG f.jl ⟨zS, zS⟩
    ·simp [oe, i]
    ·by_cases b : f.Kids.length ≤ 8
     ·have d : ¬ ((f.Kids.length : Int) > 8) := by omega
      by_cases p : f.K = 0 <;> simp [oe, i, b, d, p]
     ·have d : ((f.Kids.length : Int) > 8) := by omega
      simp [oe, i, b, d]
   ·by_cases m : f.Op = 4
    ·have l : ¬ f.Op < 1 := by omega
     have a2 : ¬ f.Op > 4 := by omega
     have a3 : ¬ f.Op < 4 := by omega
     simp only [l, a2, a3, j, bT, aB, aG, aA]
     simp only [m, aV, aJ, bR, dx]
     cases i : jG f.jl ⟨zS, zS⟩
     ·simp [oe, i]
     ·by_cases b : f.Kids.length ≤ 8
      ·have d : ¬ ((f.Kids.length : Int) > 8) := by omega
       by_cases d1 : 1 ≤ f.Kids.length
       ·have g1 : ¬ ((f.Kids.length : Int) < 1) := by omega
        by_cases d2 : 0 ≤ f.K
        ·have g2 : ¬ f.K < 0 := by omega
         by_cases d3 : f.K ≤ (f.Kids.length : Int)
         ·have g3 : ¬ f.K > (f.Kids.length : Int) := by omega
          simp [oe, i, b, d, d1, g1, d2, g2, d3, g3]
         ·have g3 : f.K > (f.Kids.length : Int) := by omega
          simp [oe, i, b, d, d1, g1, d2, g2, d3, g3]
        ·have g2 : f.K < 0 := by omega
         simp [oe, i, b, d, d1, g1, d2, g2]
       ·have g1 : ((f.Kids.length : Int) < 1) := by omega
        simp [oe, i, b, d, d1, g1]
      ·have d : ((f.Kids.length : Int) > 8) := by omega
       simp [oe, i, b, d]
    ·have a : f.Op < 1 ∨ f.Op > 4 := by omega
     rcases a with a | a
     ·simp [a, j, m]
     ·have : ¬ f.Op < 1 := by omega
      simp [a, this, j, m]
theorem F2 (f : Formula) (h : Gd f) : pW f = some (mQ f) := by
 have d := ux f
 have b := h
 unfold Gd at b
 unfold pW mQ
 rw [Qt jP f (by rw [lN]; omega) h, Rw jP f (by rw [lN]; omega) h, QN jP f (by rw [lN]; omega)]
 simp only [aA]
 by_cases c1 : jR f ≤ 64
 ·have d1 : ((jR f : Int) ≤ 64) := by omega
  by_cases c2 : ng f ≤ 6
  ·have d2 : ((ng f : Int) ≤ 6) := by omega
   simp [c1, c2, d1, d2]
  ·have d2 : ¬ ((ng f : Int) ≤ 6) := by omega
   simp [c1, c2, d1, d2]
 ·have d1 : ¬ ((jR f : Int) ≤ 64) := by omega
  simp [c1, d1]
end Go.Proofs.YtjjjihkifgdhgaaGreatDoor
