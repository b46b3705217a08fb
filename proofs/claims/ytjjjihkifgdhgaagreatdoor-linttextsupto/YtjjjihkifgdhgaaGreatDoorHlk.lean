/- a part of a proof of LintTexts -/
import Derived.Test.YtjjjihkifgdhgaaGreatDoorRtWk
import Derived.Test.YtjjjihkifgdhgaaGreatDoorDL4Mk
set_option linter.all false
namespace Go.Proofs.YtjjjihkifgdhgaaGreatDoor
open Go.IntKind renaming wrap → wi0
open Go.RowKit
section
variable {α : Type}
structure SWO (lt : α → α → Bool) : Prop where
 Me : ∀ x, lt x x = false
 tr : ∀ x y z, lt x y = true → lt y z = true → lt x z = true
 JW : ∀ x y z, lt x z = true → lt x y = true ∨ lt y z = true
variable {lt : α → α → Bool}
theorem SWO.asym (h : SWO lt) {x y : α} (a : lt x y = true) : lt y x = false := by
 cases e : lt y x
 ·rfl
 ·have := h.tr _ _ _ a e; rw [h.Me] at this; cases this
def tl (lt : α → α → Bool) (p q : α × Nat) : Prop := lt p.1 q.1 = true ∨ (lt q.1 p.1 = false ∧ p.2 < q.2)
theorem AW (h : SWO lt) {p q r : α × Nat} (a : tl lt p q) (b : tl lt q r) : tl lt p r := by
 unfold tl at *
 rcases a with a | ⟨a, a2⟩ <;> rcases b with b | ⟨b, d⟩
 ·exact .inl (h.tr _ _ _ a b)
 ·rcases h.JW _ r.1 _ a with c | c
  ·exact .inl c
  ·rw [b] at c; cases c
 ·rcases h.JW _ p.1 _ b with c | c
  ·rw [a] at c; cases c
  ·exact .inl c
 ·refine .inr ⟨?_, by omega⟩
  cases e : lt r.1 p.1
  ·rfl
  ·rcases h.JW _ q.1 _ e with c | c
   ·rw [b] at c; cases c
   ·rw [a] at c; cases c
theorem MT (h : SWO lt) {p q : α × Nat} (a : tl lt p q) (b : tl lt q p) : False := by
 have c := AW h a b
 rcases c with c | ⟨_, c⟩
 ·rw [h.Me] at c; cases c
 ·omega
abbrev mZ (lt : α → α → Bool) (t : List (α × Nat)) : Prop := t.Pairwise (tl lt)
theorem Eb (h : SWO lt) : ∀ {t u : List (α × Nat)}, mZ lt t → mZ lt u → t.Perm u → t = u
 | [], u, _, _, hp => by rw [List.nil_perm] at hp; exact hp.symm
 | p :: t, [], _, _, hp => by simp at hp
 | p :: t, q :: u, h1, c, hp => by
  have e : p = q := by
   rcases aM.1 (hp.mem_iff.1 (.head _)) with e | d
   ·exact e
   ·rcases aM.1 (hp.mem_iff.2 (.head _)) with e | b
    ·exact e.symm
    ·exact (MT h ((bZ.1 h1).1 _ b) ((bZ.1 c).1 _ d)).elim
  subst e
  rw [Eb h (bZ.1 h1).2 (bZ.1 c).2 (List.Perm.cons_inv hp)]
def yO (lt : α → α → Bool) (l : List α) (k : α) : List α := l.filter (fun x => !lt k x) ++ k :: l.filter (fun x => lt k x)
def Hd (lt : α → α → Bool) (l : List α) : List α := l.foldl (yO lt) []
def DE (lt : α → α → Bool) (t : List (α × Nat)) (k : α × Nat) : List (α × Nat) := t.filter (fun x => !lt k.1 x.1) ++ k :: t.filter (fun x => lt k.1 x.1)
theorem L3 (t : List (α × Nat)) (k : α × Nat) : (DE lt t k).map (·.1) = yO lt (t.map (·.1)) k.1 := by
 simp [DE, yO, List.filter_map, eZ]
theorem KC (t : List (α × Nat)) (k : α × Nat) : (DE lt t k).Perm (t ++ [k]) := by
 unfold DE
 refine List.perm_middle.trans ?_
 refine (List.Perm.cons _ ?_).trans (fk k t).symm
 have := List.filter_append_perm (fun x : α × Nat => !lt k.1 x.1) t
 simpa using this
theorem LZ (h : SWO lt) {t : List (α × Nat)} {k : α × Nat} (i : mZ lt t) (hk : ∀ x ∈ t, x.2 < k.2) : mZ lt (DE lt t k) := by
 unfold DE mZ
 rw [cL, bZ]
 refine ⟨i.filter _, ⟨fun x c => ?_, i.filter _⟩, fun x c y d => ?_⟩
 ·exact .inl (cN.1 c).2
 ·obtain ⟨h1, g⟩ := cN.1 c
  simp only [fe, ] at g
  have b : tl lt x k := .inr ⟨g, hk x h1⟩
  rcases aM.1 d with rfl | d
  ·exact b
  ·exact AW h b (.inl (cN.1 d).2)
theorem Pg (h : SWO lt) (l : List α) : ∃ t, mZ lt t ∧ t.Perm l.zipIdx ∧ t.map (·.1) = Hd lt l := by
 suffices H : ∀ (l r : List α) (t : List (α × Nat)), mZ lt t → t.Perm r.zipIdx → ∃ u, mZ lt u ∧ u.Perm (r ++ l).zipIdx ∧ u.map (·.1) = l.foldl (yO lt) (t.map (·.1)) by
  obtain ⟨u, h1, c, g⟩ := H l [] [] .nil (by simp)
  exact ⟨u, h1, by simpa using c, g⟩
 intro l
 induction l with
 | nil => intro r t h1 c; exact ⟨t, h1, by simpa using c, rfl⟩
 | cons k l ih =>
  intro r t h1 c
  obtain ⟨u, d, a2, a3⟩ := ih (r ++ [k]) (DE lt t (k, r.length)) (LZ h h1 (fun x i => by
   obtain ⟨a, b⟩ := x
   have := List.snd_lt_of_mem_zipIdx (c.mem_iff.1 i)
   simpa using this)) ((KC t _).trans (by rw [List.zipIdx_append]; simpa using c.append_right _))
  refine ⟨u, d, by simpa using a2, ?_⟩
  rw [a3, L3]
  rfl
theorem M0 (h : SWO lt) {l : List α} {t : List (α × Nat)} (h1 : mZ lt t) (c : t.Perm l.zipIdx) : t.map (·.1) = Hd lt l := by
 obtain ⟨u, b, a2, a3⟩ := Pg h l
 rw [← a3, Eb h h1 b (c.trans a2.symm)]
end
section
variable {α : Type} {lt : α → α → Bool}
abbrev Lk (lt : α → α → Bool) (A B : List (α × Nat)) : Prop := ∀ A' a b B', A = A' ++ [a] → B = b :: B' → tl lt a b
theorem xJ (h : SWO lt) {A B : List (α × Nat)} (j : mZ lt A) (m : mZ lt B) (l : Lk lt A B) : ∀ a ∈ A, ∀ b ∈ B, tl lt a b := by
 intro a ha b c
 rcases cQ A with rfl | ⟨A', z, rfl⟩
 ·cases ha
 cases B with
 | nil => cases c
 | cons y B' =>
  have h1 : tl lt z y := l A' z y B' (by simp) rfl
  have d : a = z ∨ tl lt a z := by
   simp only [dC, aO, cK] at ha
   rcases ha with ha | ha
   ·refine .inr ?_
    simp only [dC, mZ, cL] at j
    exact j.2.2 a ha z (by simp)
   ·exact .inl ha
  have g : b = y ∨ tl lt y b := by
   rcases aM.1 c with c | c
   ·exact .inl c
   ·exact .inr ((bZ.1 m).1 b c)
  have i : tl lt a y := by
   rcases d with rfl | d
   ·exact h1
   ·exact AW h d h1
  rcases g with rfl | g
  ·exact i
  ·exact AW h i g
theorem GG (h : SWO lt) {A B : List (α × Nat)} (b : mZ lt A) (c : mZ lt B) (l : Lk lt A B) : mZ lt (A ++ B) :=
 cL.2 ⟨b, c, xJ h b c l⟩
theorem mZ.left {A B : List (α × Nat)} (h : mZ lt (A ++ B)) : mZ lt A := (cL.1 h).1
theorem mZ.right {A B : List (α × Nat)} (h : mZ lt (A ++ B)) : mZ lt B := (cL.1 h).2.1
theorem mZ.two {A B : List (α × Nat)} (h : mZ lt (A ++ B)) : ∀ a ∈ A, ∀ b ∈ B, tl lt a b := (cL.1 h).2.2
theorem Fk (h : SWO lt) {A B : List (α × Nat)} {x : α × Nat} (d : mZ lt (A ++ B)) (i : Lk lt A [x]) (j : Lk lt [x] B) : mZ lt (A ++ x :: B) := by
 have h1 := xJ h d.left (fQ _ x) i
 have g := xJ h (fQ _ x) d.right j
 refine cL.2 ⟨d.left, bZ.2 ⟨fun b c => g x (by simp) b c, d.right⟩, fun a ha b c => ?_⟩
 rcases aM.1 c with rfl | c
 ·exact h1 a ha _ (by simp)
 ·exact d.two a ha b c
theorem M7 (h : SWO lt) {A1 A2 B1 B2 C1 C2 : List (α × Nat)} (d : mZ lt (A1 ++ A2)) (g : mZ lt (B1 ++ B2)) (j : Lk lt A1 B2) (l : Lk lt B1 A2) (m : C1.Perm (A1 ++ B1)) (n : C2.Perm (A2 ++ B2)) (h1 : mZ lt C1) (i : mZ lt C2) : mZ lt (C1 ++ C2) := by
 have x1 := xJ h d.left g.right j
 have x2 := xJ h g.left d.right l
 refine cL.2 ⟨h1, i, fun a ha b c => ?_⟩
 rcases aO.1 (m.mem_iff.1 ha) with ha | ha <;> rcases aO.1 (n.mem_iff.1 c) with c | c
 ·exact d.two a ha b c
 ·exact x1 a ha b c
 ·exact x2 a ha b c
 ·exact g.two a ha b c
end
section
variable {α : Type}
theorem Cx (p q : List α) (x y : α) : (p ++ x :: q).set p.length y = p ++ y :: q := by simp
theorem Hn (p q : List α) (x y : α) (n : Nat) (h : n = p.length) : (p ++ x :: q).set n y = p ++ y :: q := by subst h; simp
theorem Dq (p m q : List α) (x y : α) : ((p ++ x :: (m ++ y :: q)).set p.length y).set (p.length + 1 + m.length) x = p ++ y :: (m ++ x :: q) := by
 rw [Cx]
 have : p ++ y :: (m ++ y :: q) = (p ++ y :: m) ++ y :: q := by simp
 rw [this, show p.length + 1 + m.length = (p ++ y :: m).length by simp; omega, Cx]
 simp
theorem JR (p m q : List α) (x y : α) : ((p ++ x :: (m ++ y :: q)).set (p.length + 1 + m.length) x).set p.length y = p ++ y :: (m ++ x :: q) := by
 rw [List.set_comm _ _ (by omega), Dq]
theorem tW {l : List α} {n : Nat} (h : n ≤ l.length) : ∃ a b, l = a ++ b ∧ a.length = n := ⟨l.take n, l.drop n, (gj n l).symm, by simp [h]⟩
end
theorem Bk {c x : Bool} : (if c = true then some x else some false : Option Bool) = some (c && x) := by cases c <;> rfl
theorem NC {c x : Bool} : (if c = true then some true else some x : Option Bool) = some (c || x) := by cases c <;> rfl
theorem nq {α : Type} (x : Option α) : (x.bind fun y => some y) = x := by cases x <;> rfl
theorem kk {x : Int} (b : -9223372036854775808 ≤ x) (h1 : x ≤ 9223372036854775807) : wi0 .i64 x = x := IntWalk.i64_in _ (by omega)
theorem lV {α : Type} (A : List α) (x : α) (B : List α) (i : Int) (h : i = (A.length : Int)) : kp (A ++ x :: B) i = some x := by
 subst h; rw [CD]; simp
theorem ll : jB = 18446744073709551615 + 1 := by rw [uz]
def AR {α : Type} (f1 : α → Option Bool) (z : α) : Nat → List α → Int → Int → Option (List α)
 | 0, _, _, _ => none
 | n + 1, l, i, j => if decide (j < (l.length : Int)) then
   ((kp l j).bind fun x => (f1 x).bind fun r => if (!r) then (kp l i).bind fun _ => some (l.set (Int.toNat i) x, wi0 .i64 (i + 1)) else some (l, i) : Option (List α × Int)).bind fun (c, b) => AR f1 z n c b (wi0 .i64 (j + 1))
  else (pH (decide (0 ≤ i) && decide (i ≤ (l.length : Int)))).bind fun _ => (pH (decide (0 ≤ i) && decide (i ≤ ((nv l (Int.toNat i) z).length : Int)))).bind fun _ => some ((nv l (Int.toNat i) z).take (Int.toNat i))
theorem BG {a b : Int} (c : 0 ≤ a) (h1 : a ≤ b) : pH (decide (0 ≤ a) && decide (a ≤ b)) = some () := by simp [pH, c, h1]
theorem Gw {α : Type} (f1 : α → Option Bool) (p : α → Bool) (z : α) : ∀ (rest out mid : List α) (n : Nat), rest.length < n → (out ++ mid ++ rest).length < 4611686018427387904 → mid ≠ [] → (∀ x ∈ rest, f1 x = some (p x)) →
  AR f1 z n (out ++ mid ++ rest) (out.length : Int) ((out.length + mid.length : Nat) : Int) = some (out ++ rest.filter fun x => !p x)
 | [], out, mid, 0, h, _, _, _ => by simp at h
 | [], out, mid, n + 1, _, c, hm, _ => by
  rw [AR, aU (by simp)]
  have h1 : out.length ≤ (out ++ mid ++ []).length := by simp
  rw [BG (by omega) (by omega)]
  simp only [aA]
  rw [BG (by omega) (by rw [te _ _ _ (by simpa using h1)]; omega)]
  simp only [aA, dp]
  rw [Dj _ _ _ h1]
  simp
 | x :: rest, out, mid, 0, h, _, _, _ => by simp at h
 | x :: rest, out, mid, n + 1, h, c, hm, d => by
  have hlen : (out ++ mid ++ x :: rest).length = out.length + mid.length + rest.length + 1 := by simp; omega
  rw [hlen] at c
  rw [AR, aW (by rw [hlen]; simp; omega)]
  rw [lV (out ++ mid) x rest _ (by simp)]
  simp only [aA, d x (by simp)]
  rw [kk (x := ((out.length + mid.length : Nat) : Int) + 1) (by omega) (by omega)]
  have ih := Gw f1 p z rest
  cases hp : p x with
  | true =>
   simp only [bQ, aB, aF, aA]
   have := ih out (mid ++ [x]) n (by simp at h; omega) (by simp; omega) (by simp) (fun y g => d y (by simp [g]))
   simp only [aI, bJ, aX, aC, aH, bN] at this ⊢
   rw [show ((out.length + mid.length : Nat) : Int) + 1 = ((out.length + (mid.length + (0 + 1)) : Nat) : Int) by omega, this]
   simp [hp]
  | false =>
   obtain ⟨m, b, rfl⟩ : ∃ m b, mid = m :: b := by cases mid with
    | nil => exact absurd rfl hm
    | cons m b => exact ⟨m, b, rfl⟩
   simp only [cD, aJ]
   rw [aI out (m :: b) (x :: rest), bJ]
   rw [lV out m (b ++ x :: rest) _ rfl]
   simp only [aA]
   rw [kk (x := (out.length : Int) + 1) (by omega) (by simp at c; omega)]
   have := ih (out ++ [x]) (b ++ [x]) n (by simp at h; omega) (by simp at c ⊢; omega) (by simp) (fun y g => d y (by simp [g]))
   simp only [aI, bJ, aX, aC, aH, bN] at this
   have i : (out ++ m :: (b ++ x :: rest)).set (Int.toNat (out.length : Int)) x = out ++ x :: (b ++ x :: rest) := by
    rw [dp, List.set_append_right _ _ (aQ _)]; simp
   rw [i]
   simp only [aH] at c ⊢
   rw [show (out.length : Int) + 1 = ((out.length + (0 + 1) : Nat) : Int) by omega, show ((out.length + (b.length + 1) : Nat) : Int) + 1 = ((out.length + (0 + 1) + (b.length + (0 + 1)) : Nat) : Int) by omega, this]
   simp [hp]
def wh {α : Type} (f1 : α → Option Bool) : List α → Nat → Option Int
 | [], _ => some (-1)
 | x :: xs, i => (f1 x).bind fun r => if r then some (i : Int) else wh f1 xs (i + 1)
theorem yA {α : Type} (f1 : α → Option Bool) (p : α → Bool) : ∀ (l : List α) (i : Nat), (∀ x ∈ l, f1 x = some (p x)) →
  (wh f1 l i = some (-1) ∧ ∀ x ∈ l, p x = false) ∨ ∃ A x B, l = A ++ x :: B ∧ (∀ y ∈ A, p y = false) ∧ p x = true ∧ wh f1 l i = some ((i + A.length : Nat) : Int)
 | [], i, _ => .inl ⟨rfl, by simp⟩
 | x :: l, i, h => by
  rw [wh, h x (by simp)]
  simp only [aA]
  cases hp : p x with
  | true => exact .inr ⟨[], x, l, rfl, by simp, hp, by simp⟩
  | false =>
   simp only [aB, aF]
   rcases yA f1 p l (i + 1) (fun y b => h y (by simp [b])) with ⟨h1, c⟩ | ⟨A, y, B, rfl, h1, c, g⟩
   ·exact .inl ⟨h1, by intro y b; rcases aM.1 b with rfl | b; exact hp; exact c y b⟩
   ·refine .inr ⟨x :: A, y, B, rfl, ?_, c, ?_⟩
    ·intro z d; rcases aM.1 d with rfl | d
     ·exact hp
     ·exact h1 z d
    ·rw [g]; simp; omega
def Fo {α : Type} (f1 : α → Option Bool) (z : α) (l : List α) : Option (List α) :=
 (wh f1 l 0).bind fun b => if (b == (-1)) then some l else AR f1 z jB l b (wi0 .i64 (b + 1))
theorem Hk {α : Type} (f1 : α → Option Bool) (p : α → Bool) (z : α) (l : List α) (d : l.length < 4611686018427387904) (h : ∀ x ∈ l, f1 x = some (p x)) : Fo f1 z l = some (l.filter fun x => !p x) := by
 unfold Fo
 rcases yA f1 p l 0 h with ⟨h1, c⟩ | ⟨A, x, B, rfl, h1, c, g⟩
 ·rw [h1]
  simp only [aA, aS, aJ]
  rw [fA.2 (fun y b => by simp [c y b])]
 ·rw [g]
  simp only [aA, dL]
  rw [aU (by simp), kk (by omega) (by simp at d; omega)]
  have := Gw f1 p z B A [x] jB (by rw [uz]; simp at d; omega) (by simpa using d) (by simp) (fun y b => h y (by simp [b]))
  simp only [aI, bJ, aX, aH, bN] at this
  rw [show (A.length : Int) + 1 = ((A.length + (0 + 1) : Nat) : Int) by omega, this]
  have i : A.filter (fun x => !p x) = A := fA.2 (fun y b => by simp [h1 y b])
  rw [gT, i]
  simp [c]
def lU {α : Type} (eq : α → α → Bool) : α → List α → List α
 | _, [] => []
 | p, y :: ys => if eq y p then lU eq y ys else y :: lU eq y ys
def dd {α : Type} (eq : α → α → Bool) : List α → List α
 | [] => []
 | x :: xs => x :: lU eq x xs
def za {α : Type} (eq : α → α → Bool) (i : Int) : Nat → List α → Int → Int → Option (List α × Int)
 | 0, _, _, _ => none
 | n + 1, l, k, j => if decide (j < ((l.length - Int.toNat i : Nat) : Int)) then
   ((kp (l.drop (Int.toNat i)) j).bind fun x => (kp (l.drop (Int.toNat i)) (wi0 .i64 (j - 1))).bind fun y => if !(eq x y) then (kp (l.drop (Int.toNat i)) j).bind fun z => (kp l k).bind fun _ => some (l.set (Int.toNat k) z, wi0 .i64 (k + 1)) else some (l, k) : Option (List α × Int)).bind fun (b, k') => za eq i n b k' (wi0 .i64 (j + 1))
  else some (l, k)
def zN {α : Type} (eq : α → α → Bool) (z : α) (l : List α) : Nat → Int → Option (List α)
 | 0, _ => none
 | n + 1, i => if decide (i < (l.length : Int)) then (kp l i).bind fun x => (kp l (wi0 .i64 (i - 1))).bind fun y => if eq x y then
    (pH (decide (0 ≤ i) && decide (i ≤ (l.length : Int)))).bind fun _ => (za eq i jB l i 1).bind fun (b, k) => (pH (decide (0 ≤ k) && decide (k ≤ (b.length : Int)))).bind fun _ => (pH (decide (0 ≤ k) && decide (k ≤ ((nv b (Int.toNat k) z).length : Int)))).bind fun _ => some ((nv b (Int.toNat k) z).take (Int.toNat k))
   else zN eq z l n (wi0 .i64 (i + 1))
  else some l
def Hw {α : Type} (eq : α → α → Bool) (z : α) (l : List α) : Option (List α) := if decide ((l.length : Int) < 2) then some l else zN eq z l jB 1
theorem Gu {α : Type} (l : List α) (i : Nat) (j : Int) (b : 0 ≤ j) : kp (l.drop i) j = kp l ((i : Int) + j) := by
 obtain ⟨m, rfl⟩ : ∃ m : Nat, j = m := ⟨j.toNat, by omega⟩
 rw [show (i : Int) + (m : Int) = ((i + m : Nat) : Int) by omega, CD, CD, dE]
theorem DN {α : Type} (eq : α → α → Bool) (i : Nat) : ∀ (rest out mid : List α) (p : α) (n : Nat), rest.length < n → (out ++ (mid ++ [p]) ++ rest).length < 4611686018427387904 → 1 ≤ i → i ≤ out.length →
  ∃ c, za eq (i : Int) n (out ++ (mid ++ [p]) ++ rest) (out.length : Int) ((out.length + mid.length + 1 - i : Nat) : Int) = some (c, ((out ++ lU eq p rest).length : Int)) ∧ c.take (out ++ lU eq p rest).length = out ++ lU eq p rest ∧ (out ++ lU eq p rest).length ≤ c.length
 | [], out, mid, p, 0, h, _, _, _ => by simp at h
 | [], out, mid, p, n + 1, h, o, h1, l => by
  rw [za, aU (by simp; omega)]
  exact ⟨out ++ (mid ++ [p]) ++ [], by simp [lU], by simp [lU], by simp [lU]⟩
 | x :: rest, out, mid, p, 0, h, _, _, _ => by simp at h
 | x :: rest, out, mid, p, n + 1, h, o, h1, l => by
  have hlen : (out ++ (mid ++ [p]) ++ x :: rest).length = out.length + mid.length + rest.length + 2 := by simp; omega
  rw [hlen] at o
  rw [za, aW (by rw [hlen]; simp; omega)]
  rw [dp, Gu _ _ _ (by omega), lV (out ++ (mid ++ [p])) x rest _ (by simp; omega)]
  simp only [aA]
  rw [kk (x := ((out.length + mid.length + 1 - i : Nat) : Int) - 1) (by omega) (by omega), Gu _ _ _ (by omega)]
  rw [show out ++ (mid ++ [p]) ++ x :: rest = (out ++ mid) ++ p :: (x :: rest) by simp]
  rw [lV (out ++ mid) p (x :: rest) _ (by simp; omega)]
  simp only [aA]
  rw [kk (x := ((out.length + mid.length + 1 - i : Nat) : Int) + 1) (by omega) (by omega)]
  cases hp : eq x p with
  | true =>
   simp only [bQ, aB, aF, aA]
   obtain ⟨c, d, g, j⟩ := DN eq i rest out (mid ++ [p]) x n (by simp at h; omega) (by simp; omega) h1 l
   refine ⟨c, ?_, by rw [lU, hp]; exact g, by rw [lU, hp]; exact j⟩
   rw [lU, hp, aW rfl, ← d]
   congr 1
   ·simp
   ·simp; omega
  | false =>
   simp only [cD, aJ]
   obtain ⟨m, b, hm⟩ : ∃ m b, mid ++ [p] = m :: b := by cases mid with
    | nil => exact ⟨p, [], rfl⟩
    | cons m b => exact ⟨m, b ++ [p], rfl⟩
   have r : b.length = mid.length := by have := bA List.length hm; simp at this; omega
   rw [show (out ++ mid) ++ p :: (x :: rest) = out ++ m :: (b ++ x :: rest) by rw [← bJ, ← hm]; simp]
   rw [lV out m (b ++ x :: rest) _ rfl]
   simp only [aA]
   rw [kk (x := (out.length : Int) + 1) (by omega) (by omega)]
   have s : (out ++ m :: (b ++ x :: rest)).set (Int.toNat (out.length : Int)) x = (out ++ [x]) ++ (b ++ [x]) ++ rest := by
    rw [dp, List.set_append_right _ _ (aQ _)]; simp
   rw [s]
   obtain ⟨c, d, g, j⟩ := DN eq i rest (out ++ [x]) b x n (by simp at h; omega) (by simp; omega) h1 (by simp; omega)
   refine ⟨c, ?_, ?_, ?_⟩
   ·rw [lU, hp, aU (by decide)]
    have q : ((out ++ x :: lU eq x rest).length : Int) = ((out ++ [x] ++ lU eq x rest).length : Int) := by simp
    rw [q, ← d]
    congr 1
    ·simp
    ·simp; omega
   ·rw [lU, hp, aU (by decide)]; simpa using g
   ·rw [lU, hp, aU (by decide)]; simpa using j
theorem Hf {α : Type} (eq : α → α → Bool) (z : α) : ∀ (rest pre : List α) (p : α) (n : Nat), rest.length < n → (pre ++ p :: rest).length < 4611686018427387904 →
  zN eq z (pre ++ p :: rest) n ((pre.length + 1 : Nat) : Int) = some (pre ++ p :: lU eq p rest)
 | [], pre, p, 0, h, _ => by simp at h
 | [], pre, p, n + 1, h, i => by rw [zN, aU (by simp)]; simp [lU]
 | x :: rest, pre, p, 0, h, _ => by simp at h
 | x :: rest, pre, p, n + 1, h, i => by
  have hlen : (pre ++ p :: x :: rest).length = pre.length + rest.length + 2 := by simp; omega
  rw [hlen] at i
  rw [zN, aW (by rw [hlen]; simp; omega)]
  rw [show pre ++ p :: x :: rest = (pre ++ [p]) ++ x :: rest by simp, lV (pre ++ [p]) x rest _ (by simp)]
  simp only [aA]
  rw [kk (x := ((pre.length + 1 : Nat) : Int) - 1) (by omega) (by omega)]
  rw [show (pre ++ [p]) ++ x :: rest = pre ++ p :: (x :: rest) by simp, lV pre p (x :: rest) _ (by omega)]
  simp only [aA]
  cases hp : eq x p with
  | true =>
   simp only [aJ]
   rw [BG (by omega) (by rw [hlen]; omega)]
   simp only [aA]
   obtain ⟨j, b, g, d⟩ := DN eq (pre.length + 1) rest (pre ++ [p]) [] x jB (by rw [uz]; omega) (by simp; omega) (by omega) (by simp)
   simp only [aI, bJ, aX, aC, aH, bN] at b g d
   rw [show (pre.length + (0 + 1) + 0 + 1 - (pre.length + 1) : Nat) = 1 by omega] at b
   rw [show ((pre.length + 1 : Nat) : Int) = ((pre.length + (0 + 1) : Nat) : Int) by omega] at *
   have c : za eq ((pre.length + (0 + 1) : Nat) : Int) jB (pre ++ p :: x :: rest) ((pre.length + (0 + 1) : Nat) : Int) 1 = _ := b
   rw [c]
   simp only [aA]
   rw [BG (by omega) (by omega)]
   simp only [aA, dp]
   rw [BG (by omega) (by rw [te _ _ _ d]; omega)]
   simp only [aA]
   rw [Dj _ _ _ d, g, lU, hp]
   simp
  | false =>
   simp only [aB, aF]
   rw [kk (x := ((pre.length + 1 : Nat) : Int) + 1) (by omega) (by omega)]
   have := Hf eq z rest (pre ++ [p]) x n (by simp at h; omega) (by simp; omega)
   simp only [aI, bJ, aX, aC, aH, bN] at this
   rw [show ((pre.length + 1 : Nat) : Int) + 1 = ((pre.length + (0 + 1) + 1 : Nat) : Int) by omega, this, lU, hp]
   simp
theorem Hu {α : Type} (eq : α → α → Bool) (z : α) (l : List α) (b : l.length < 4611686018427387904) : Hw eq z l = some (dd eq l) := by
 unfold Hw
 cases l with
 | nil => rfl
 | cons x xs =>
  cases xs with
  | nil => simp [dd, lU]
  | cons y ys =>
   rw [aU (by simp; omega)]
   have := Hf eq z (y :: ys) [] x jB (by rw [uz]; simp at b ⊢; omega) (by simpa using b)
   simpa [dd] using this
structure xN {α : Type} (lt : α → α → Prop) (P : α → Prop) : Prop where
 irrefl : ∀ x, P x → ¬ lt x x
 trans : ∀ x y z, P x → P y → P z → lt x y → lt y z → lt x z
 total : ∀ x y, P x → P y → lt x y ∨ x = y ∨ lt y x
def tP {α : Type} (lt : α → α → Prop) (P : α → Prop) (l out : List α) : Prop := out.Pairwise lt ∧ ∀ x, x ∈ out ↔ x ∈ l ∧ P x
theorem tP.unique {α : Type} {lt : α → α → Prop} {P : α → Prop} (H : xN lt P) : ∀ {l a b : List α}, tP lt P l a → tP lt P l b → a = b := by
 have key : ∀ a b : List α, (∀ x ∈ a, P x) → a.Pairwise lt → b.Pairwise lt → (∀ x, x ∈ a ↔ x ∈ b) → a = b := by
  intro a
  induction a with
  | nil => intro b _ _ _ hm; cases b with
   | nil => rfl
   | cons y ys => exact absurd ((hm y).2 (by simp)) (by simp)
  | cons x xs ih =>
   intro b n ha j hm
   cases b with
   | nil => exact absurd ((hm x).1 (by simp)) (by simp)
   | cons y ys =>
    have o : P y := n y ((hm y).2 (by simp))
    have c : P x := n x (by simp)
    have d := bZ.1 ha
    have g := bZ.1 j
    have p : x = y := by
     rcases aM.1 ((hm x).1 (by simp)) with h | h
     ·exact h
     ·rcases aM.1 ((hm y).2 (by simp)) with m | m
      ·exact m.symm
      ·exact absurd (H.trans x y x c o c (d.1 y m) (g.1 x h)) (H.irrefl x c)
    subst p
    congr 1
    refine ih ys (fun z i => n z (by simp [i])) d.2 g.2 (fun z => ?_)
    constructor
    ·intro i
     rcases aM.1 ((hm z).1 (by simp [i])) with h | h
     ·subst h; exact absurd (d.1 z i) (H.irrefl z c)
     ·exact h
    ·intro i
     rcases aM.1 ((hm z).2 (by simp [i])) with h | h
     ·subst h; exact absurd (g.1 z i) (H.irrefl z c)
     ·exact h
 intro l a b ha j
 exact key a b (fun x q => ((ha.2 x).1 q).2) ha.1 j.1 (fun x => (ha.2 x).trans (j.2 x).symm)
theorem Bl {α : Type} {eq : α → α → Bool} (he : ∀ x y, eq x y = true ↔ x = y) : ∀ (l : List α) (p x : α), x ∈ p :: lU eq p l ↔ x ∈ p :: l
 | [], p, x => by simp [lU]
 | y :: l, p, x => by
  rw [lU]
  split
  ·rename_i h
   have := (he y p).1 h
   subst this
   rw [Bl he l y x]; simp
  ·have := Bl he l y x
   simp only [aM] at this ⊢
   rw [this]
theorem Ht {α : Type} {eq : α → α → Bool} (he : ∀ x y, eq x y = true ↔ x = y) (l : List α) (x : α) : x ∈ dd eq l ↔ x ∈ l := by
 cases l with
 | nil => simp [dd]
 | cons y l => exact Bl he l y x
theorem zO {α : Type} {eq : α → α → Bool} {lt : α → α → Prop} {P : α → Prop} (he : ∀ x y, eq x y = true ↔ x = y) (H : xN lt P) : ∀ (l : List α) (p : α), (∀ x ∈ p :: l, P x) → (p :: l).Pairwise (fun a b => ¬ lt b a) → (p :: lU eq p l).Pairwise lt
 | [], p, _, _ => by simp [lU]
 | y :: l, p, c, o => by
  have h1 := bZ.1 o
  rw [lU]
  split
  ·rename_i h
   have := (he y p).1 h
   subst this
   exact zO he H l y (fun x i => c x (eB _ i)) h1.2
  ·rename_i h
   have ih := zO he H l y (fun x i => c x (eB _ i)) h1.2
   refine bZ.2 ⟨fun z n => ?_, ih⟩
   have g : lt p y := by
    rcases H.total p y (c p (by simp)) (c y (by simp)) with d | d | d
    ·exact d
    ·exact absurd ((he y p).2 d.symm) h
    ·exact absurd d (h1.1 y (by simp))
   rcases aM.1 n with rfl | j
   ·exact g
   ·have m : z ∈ y :: l := (Bl he l y z).1 n
    exact H.trans p y z (c p (by simp)) (c y (by simp)) (c z (eB _ m)) g ((bZ.1 ih).1 z j)
theorem JJ {α : Type} {eq : α → α → Bool} {lt : α → α → Prop} {P : α → Prop} (he : ∀ x y, eq x y = true ↔ x = y) (H : xN lt P) (l : List α) (c : ∀ x ∈ l, P x) (d : l.Pairwise (fun a b => ¬ lt b a)) : (dd eq l).Pairwise lt := by
 cases l with
 | nil => simp [dd]
 | cons y l => exact zO he H l y c d
theorem F0 {α : Type} {le : α → α → Bool} {P : α → Prop} (i : ∀ a b c, P a → P b → P c → le a b = true → le b c = true → le a c = true) (h : ∀ a b, P a → P b → (le a b || le b a) = true) (l : List α) (d : ∀ x ∈ l, P x) :
  (l.mergeSort le).Pairwise (fun a b => le a b = true) := by
 have e : l = (l.attachWith P d).map Subtype.val := by simp
 have hm : ((l.attachWith P d).mergeSort fun a b => le a.1 b.1).map Subtype.val = l.mergeSort le := by
  conv => rhs; rw [e]
  exact gN (fun a _ b _ => rfl)
 rw [← hm, fa]
 exact fO (le := fun (a b : {x // P x}) => le a.1 b.1) (fun a b c h1 g => i a.1 b.1 c.1 a.2 b.2 c.2 h1 g) (fun a b => h a.1 b.1 a.2 b.2) _
theorem Dh {α : Type} {eq : α → α → Bool} {lt : α → α → Prop} {P : α → Prop} {cf : α × α → Option Int} {l : List α} (he : ∀ x y, eq x y = true ↔ x = y) (H : xN lt P) (g : ∀ x ∈ l, P x) (A : l.length < 4611686018427387904) (w : ∀ x y, P x → P y → ∃ c, cf (x, y) = some c ∧ (c < 0 ↔ lt x y)) : ∃ s, xh cf l = some s ∧ s.length = l.length ∧ tP lt P l (dd eq s) := by
 have j : ∀ x y, P x → P y → (rH cf x y = true ↔ lt x y) := fun x y i o => by
  obtain ⟨c, h1, n⟩ := w x y i o
  unfold rH
  rw [h1]
  simpa using n
 have d : ∀ x y, P x → P y → (rH cf x y = false ↔ ¬ lt x y) := fun x y i o => by
  rw [← j x y i o]; simp
 have ok : Cl cf l := by
  refine ⟨fun x i y o => ?_, fun x i => ?_, fun x i y o z u h1 n => ?_, fun x i y o h1 n => ?_, A⟩
  ·obtain ⟨c, h1, _⟩ := w x y (g x i) (g y o); exact ⟨c, h1⟩
  ·exact (d x x (g x i) (g x i)).2 (H.irrefl x (g x i))
  ·rw [j _ _ (g x i) (g y o)] at h1
   rw [j _ _ (g y o) (g z u)] at n
   rw [j _ _ (g x i) (g z u)]
   exact H.trans x y z (g x i) (g y o) (g z u) h1 n
  ·rw [d _ _ (g x i) (g y o)] at h1
   rw [d _ _ (g y o) (g x i)] at n
   rcases H.total x y (g x i) (g y o) with h | h | h
   ·exact absurd h h1
   ·exact h
   ·exact absurd h n
 refine ⟨_, LR ok, by simp [qR], ?_, ?_⟩
 ·have m : ∀ x, x ∈ qR cf l ↔ x ∈ l := fun x => by simp [qR]
  refine JJ he H _ (fun x i => g x ((m x).1 i)) ?_
  have := F0 (le := fun x y => !rH cf y x) (P := P) (fun a b c ha p q h1 n => ?_) (fun a b ha p => ?_) l g
  ·refine (this.imp_of_mem ?_ : _)
   intro a b ha p h
   have r : a ∈ l := (m a).1 ha
   have t : b ∈ l := (m b).1 p
   simp at h
   exact (d b a (g b t) (g a r)).1 h
  ·simp at h1 n ⊢
   rw [d _ _ p ha] at h1
   rw [d _ _ q p] at n
   rw [d _ _ q ha]
   intro v
   rcases H.total a b ha p with h | h | h
   ·exact n (H.trans c a b q ha p v h)
   ·subst h; exact n v
   ·exact h1 h
  ·simp only [eQ, fe]
   rw [d _ _ p ha, d _ _ ha p]
   by_cases h : lt b a
   ·right; intro n; exact H.irrefl a ha (H.trans a b a ha p ha n h)
   ·exact .inl h
 ·intro x
  rw [Ht he]
  constructor
  ·intro i
   have : x ∈ l := by simpa [qR] using i
   exact ⟨this, g x this⟩
  ·intro i; simpa [qR] using i.1
theorem sO : ∀ a : List UInt8, Op.bytesLess a a = false
 | [] => rfl
 | x :: a => by simp [Op.bytesLess, sO a]
theorem Hb (x y : UInt8) : x < y ∨ x = y ∨ y < x := by
 rcases Nat.lt_trichotomy x.toNat y.toNat with h | h | h
 ·exact .inl h
 ·exact .inr (.inl (UInt8.toNat_inj.1 h))
 ·exact .inr (.inr h)
theorem vt : ∀ a b c : List UInt8, Op.bytesLess a b = true → Op.bytesLess b c = true → Op.bytesLess a c = true
 | [], [], c, h1, _ => by simp [Op.bytesLess] at h1
 | _ :: _, [], c, h1, _ => by simp [Op.bytesLess] at h1
 | a, _ :: _, [], _, d => by simp [Op.bytesLess] at d
 | [], b :: bs, c :: cs, _, _ => rfl
 | a :: ax, b :: bs, c :: cs, h1, d => by
  simp only [Op.bytesLess, eQ, bD, aP, fJ] at h1 d ⊢
  rcases h1 with h1 | ⟨rfl, h1⟩
  ·rcases d with d | ⟨rfl, d⟩
   ·exact .inl (UInt8.lt_trans h1 d)
   ·exact .inl h1
  ·rcases d with d | ⟨rfl, d⟩
   ·exact .inl d
   ·exact .inr ⟨rfl, vt ax bs cs h1 d⟩
theorem yM : ∀ a b : List UInt8, Op.bytesLess a b = true ∨ a = b ∨ Op.bytesLess b a = true
 | [], [] => .inr (.inl rfl)
 | [], _ :: _ => .inl rfl
 | _ :: _, [] => .inr (.inr rfl)
 | a :: ax, b :: bs => by
  simp only [Op.bytesLess, eQ, bD, aP, fJ, cM]
  rcases Hb a b with h | h | h
  ·exact .inl (.inl h)
  ·subst h
   rcases yM ax bs with h | h | h
   ·exact .inl (.inr ⟨rfl, h⟩)
   ·exact .inr (.inl ⟨rfl, h⟩)
   ·exact .inr (.inr (.inr ⟨rfl, h⟩))
  ·exact .inr (.inr (.inl h))
theorem Ak : ∀ a b : List UInt8, (Lib.compareBytes a b < 0 ↔ Op.bytesLess a b = true)
 | [], [] => by simp [Lib.compareBytes, Op.bytesLess]
 | [], _ :: _ => by simp [Lib.compareBytes, Op.bytesLess]
 | _ :: _, [] => by simp [Lib.compareBytes, Op.bytesLess]
 | a :: ax, b :: bs => by
  simp only [Lib.compareBytes, Op.bytesLess, eQ, bD, aP, fJ]
  by_cases h : a < b
  ·simp [h]
  ·by_cases d : b < a
   ·have : a ≠ b := by rintro rfl; exact h d
    simp [h, d, this]
   ·have : a = b := by rcases Hb a b with c | c | c; exact absurd c h; exact c; exact absurd c d
    subst this
    simp [h, Ak ax bs]
theorem DI : ∀ a b : List UInt8, (Lib.compareBytes a b = 0 ↔ a = b)
 | [], [] => by simp [Lib.compareBytes]
 | [], _ :: _ => by simp [Lib.compareBytes]
 | _ :: _, [] => by simp [Lib.compareBytes]
 | a :: ax, b :: bs => by
  simp only [Lib.compareBytes, cM]
  by_cases h : a < b
  ·simp only [h, aJ]
   constructor
   ·intro h; cases h
   ·rintro ⟨rfl, _⟩; exact absurd h (by simp)
  ·by_cases d : b < a
   ·simp only [h, d, aJ, aF]
    constructor
    ·intro h; cases h
    ·rintro ⟨rfl, _⟩; exact absurd d (by simp)
   ·have : a = b := by rcases Hb a b with c | c | c; exact absurd c h; exact c; exact absurd c d
    subst this
    simp [h, DI ax bs]
theorem vG (a b : ByteArray) : oJ a b = Op.bytesLess a.data.toList b.data.toList := by unfold oJ; rw [eF, eF]
theorem xz {a b : ByteArray} (h : a.data.toList = b.data.toList) : a = b := fB (Array.toList_inj.1 h)
theorem qE (a : ByteArray) : oJ a a = false := by rw [vG, sO]
theorem xF {a b c : ByteArray} (h1 : oJ a b = true) (d : oJ b c = true) : oJ a c = true := by rw [vG] at *; exact vt _ _ _ h1 d
theorem xD (a b : ByteArray) : oJ a b = true ∨ a = b ∨ oJ b a = true := by
 rw [vG, vG]
 rcases yM a.data.toList b.data.toList with h | h | h
 ·exact .inl h
 ·exact .inr (.inl (xz h))
 ·exact .inr (.inr h)
theorem Fx {a b : ByteArray} (h : oJ a b = true) : oJ b a = false := by
 cases c : oJ b a with
 | false => rfl
 | true => have := xF h c; rw [qE] at this; cases this
theorem Mp (P : ByteArray → Prop) : xN (fun a b => oJ a b = true) P :=
 ⟨fun x _ h => (by rw [qE] at h; cases h), fun x y z _ _ _ => xF, fun x y _ _ => xD x y⟩
def yH (b : UInt8) : Bool := decide (97 ≤ b.toNat) && decide (b.toNat ≤ 122)
def Ay (b : UInt8) : Bool := yH b || (decide (48 ≤ b.toNat) && decide (b.toNat ≤ 57)) || decide (b.toNat = 45)
def mx (s : ByteArray) : Bool := decide (1 ≤ s.size) && decide (s.size ≤ 16) && (match s.data.toList with | [] => false | b :: _ => yH b) && s.data.toList.all Ay
theorem mY {s : ByteArray} (h : mx s = true) : 1 ≤ s.size ∧ s.size ≤ 16 := by
 simp only [mx, aP, bD] at h
 exact h.1.1
theorem I0 : ∀ n : Nat, n < 256 → decide (uF (⟨#[97, 98, 99, 100, 101, 102, 103, 104, 105, 106, 107, 108, 109, 110, 111, 112, 113, 114, 115, 116, 117, 118, 119, 120, 121, 122]⟩ : ByteArray) (n : Int) ≥ 0) = yH (UInt8.ofNat n) := by decide +kernel
theorem LN : ∀ n : Nat, n < 256 → decide (uF (⟨#[97, 98, 99, 100, 101, 102, 103, 104, 105, 106, 107, 108, 109, 110, 111, 112, 113, 114, 115, 116, 117, 118, 119, 120, 121, 122, 48, 49, 50, 51, 52, 53, 54, 55, 56, 57, 45]⟩ : ByteArray) (n : Int) < 0) = !Ay (UInt8.ofNat n) := by decide +kernel
theorem ui (s : ByteArray) : s.size = s.data.toList.length := by rw [dz]; rfl
theorem Df {s : ByteArray} (h : s.size ≤ 16) : AB s = some (lB s) := by
 unfold AB; rw [aW (by unfold maxLen; omega)]
theorem Hl : ∀ l : List UInt8, sk (l.map fun b => (b.toNat : Int)) = some (l.all Ay)
 | [] => rfl
 | b :: l => by
  rw [bI, sk]
  simp only [pJ, nn, aA]
  have c := LN b.toNat (gU b)
  rw [c]
  simp only [iq, gq]
  cases Ay b with
  | true => simp [Hl l]
  | false => simp
theorem FV {s : ByteArray} {b : UInt8} {l : List UInt8} (h : s.data.toList = b :: l) : xT s 0 = some b := by
 unfold xT
 rw [aW (Int.le_refl 0)]
 have c : s.data[0]? = some b := by rw [← dB, h]; rfl
 show s[0]? = some b
 rw [← c]
 rfl
theorem wy (s : ByteArray) : qc s = some (mx s) := by
 unfold qc
 simp only [Bk, aA, nq]
 by_cases h1 : 1 ≤ s.size
 ·by_cases c : s.size ≤ 16
  ·rw [aW (by simp; omega)]
   obtain ⟨b, l, d⟩ : ∃ b l, s.data.toList = b :: l := by
    cases h : s.data.toList with
    | nil => rw [ui, h] at h1; simp at h1
    | cons b l => exact ⟨b, l, rfl⟩
   rw [FV d]
   simp only [aA, pJ, nn]
   rw [I0 b.toNat (gU b)]
   simp only [iq, mx, h1, c, d, bP, dq]
   cases yH b with
   | false => simp
   | true =>
    simp only [aJ, zL, Df c, aA, lB]
    rw [Hl, d]
    simp
  ·rw [aU (by simp; omega)]
   simp [mx, c]
 ·rw [aU (by simp; omega)]
  simp [mx, h1]
theorem My {s : ByteArray} {A B : List UInt8} {b : UInt8} (h : s.data.toList = A ++ b :: B) (i : Int) (d : i = (A.length : Int)) : xT s i = some b := by
 subst d
 unfold xT
 rw [aW (by omega), dp]
 have c : s.data[A.length]? = some b := by rw [← dB, h]; simp
 show s[A.length]? = some b
 rw [← c]
 rfl
theorem BT (s : ByteArray) (v : s.size ≤ 16) : ∀ (B A : List UInt8) (n : Nat), s.data.toList = A ++ B → B.length < n → qT s n (A.length : Int) = some (B.all Ay)
  | [], A, 0, _, h => by simp at h
  | [], A, n + 1, h, _ => by
    have : s.size = A.length := by rw [ui, h]; simp
    rw [qT, aU (by rw [this]; simp)]
    rfl
  | b :: B, A, 0, _, h => by simp at h
  | b :: B, A, n + 1, h, u => by
    have m : s.size = A.length + B.length + 1 := by rw [ui, h]; simp; omega
    rw [qT, aW (by rw [m]; simp; omega)]
    rw [My h _ rfl]
    simp only [aA]
    rw [kk (x := (A.length : Int) + 1) (by omega) (by omega)]
    have ih := BT s v B (A ++ [b]) n (by rw [h]; simp) (by simp at u; omega)
    rw [show ((A ++ [b]).length : Int) = (A.length : Int) + 1 by simp] at ih
    simp only [gq]
    have l : ∀ n : Nat, n < 256 → Ay (UInt8.ofNat n) = !((decide (n < 97) || decide (n > 122)) && (decide (n < 48) || decide (n > 57)) && decide (n ≠ 45)) := by decide +kernel
    have o := l b.toNat (gU b)
    simp only [iq] at o
    rw [o]
    by_cases h1 : b.toNat < 97 <;> by_cases p : b.toNat > 122 <;> by_cases q : b.toNat < 48 <;> by_cases r : b.toNat > 57 <;> by_cases t : b.toNat = 45 <;>
      first
      | omega
      | (have c : ((b.toNat : Int) < 97) = (b.toNat < 97) := by rw [fK]; omega
         have d : ((b.toNat : Int) > 122) = (b.toNat > 122) := by rw [fK]; omega
         have g : ((b.toNat : Int) < 48) = (b.toNat < 48) := by rw [fK]; omega
         have i : ((b.toNat : Int) > 57) = (b.toNat > 57) := by rw [fK]; omega
         have j : ((b.toNat : Int) != 45) = !decide (b.toNat = 45) := by rw [bF]; simp; omega
         simp [h1, p, q, r, t, c, d, g, i, j, ih])
theorem sP (a : ByteArray) : jP a a = true := kU.2 rfl
theorem Na : zS.size = 0 := rfl
theorem Mf {s : ByteArray} : s = zS ↔ s.size = 0 := by
 constructor
 ·rintro rfl; rfl
 ·intro h; exact xz (by rw [ui] at h; rw [ej.1 h]; rfl)
theorem vy (s : ByteArray) : qu s = some (mx s) := by
 unfold qu
 simp only [NC, aA, nq]
 by_cases g : s.size = 0
 ·have : s = zS := Mf.2 g
  subst this
  rw [sP]
  rfl
 ·have o : jP s zS = false := by
   cases h : jP s zS with
   | false => rfl
   | true => exact absurd (Mf.1 (kU.1 h)) g
  rw [o]
  simp only [Bool.false_or]
  by_cases i : s.size ≤ 16
  ·rw [aU (by simp; omega)]
   obtain ⟨b, l, m⟩ : ∃ b l, s.data.toList = b :: l := by
    cases h : s.data.toList with
    | nil => rw [ui, h] at g; simp at g
    | cons b l => exact ⟨b, l, rfl⟩
   rw [FV m]
   simp only [aA, NC]
   have n := BT s i s.data.toList [] jB rfl (by rw [uz, ← ui]; omega)
   simp only [bN] at n
   rw [show (0 : Int) = ((0 : Nat) : Int) from rfl] at *
   rw [n]
   have j : ((b.toNat : Int) < 97) = (b.toNat < 97) := by rw [fK]; omega
   have d : ((b.toNat : Int) > 122) = (b.toNat > 122) := by rw [fK]; omega
   have h1 : 1 ≤ s.size := by omega
   simp only [mx, h1, i, m, yH, bP, dq, j, d]
   by_cases a : b.toNat < 97
   ·simp [a, show ¬ 97 ≤ b.toNat by omega]
   ·by_cases c : b.toNat > 122
    ·simp [a, c, show ¬ b.toNat ≤ 122 by omega]
    ·simp [a, c, show 97 ≤ b.toNat by omega, show b.toNat ≤ 122 by omega]
  ·rw [aW (by simp; omega)]
   simp [mx, i]
def kR (r : iX) : Bool := mx r.ja && mx r.Word
theorem wk (r : iX) : oz r = some (kR r) := by
 unfold oz kR
 simp only [wy, aA]
 cases mx r.ja <;> simp
theorem yD (r : iX) : ru r = some (kR r) := by
 unfold ru kR
 simp only [vy, aA]
 cases mx r.ja <;> simp
def zh (a b : iX) : Bool := oJ a.ja b.ja || (jP a.ja b.ja && oJ a.Word b.Word)
theorem zn (a b : iX) : wz a b = some (zh a b) := by
 unfold wz zh
 cases oJ a.ja b.ja <;> cases jP a.ja b.ja <;> simp
theorem Iv {a b : ByteArray} (h : a ≠ b) : jP a b = false := by
 cases c : jP a b with
 | false => rfl
 | true => exact absurd (kU.1 c) h
theorem ym {a b : iX} : zh a b = true ↔ oJ a.ja b.ja = true ∨ (a.ja = b.ja ∧ oJ a.Word b.Word = true) := by
 simp [zh, kU]
theorem Pa (P : iX → Prop) : xN (fun a b => zh a b = true) P := by
 refine ⟨fun x _ h => ?_, fun x y z _ _ _ h1 c => ?_, fun x y _ _ => ?_⟩
 ·rw [ym] at h
  simp [qE] at h
 ·rw [ym] at *
  rcases h1 with h1 | ⟨g, h1⟩
  ·rcases c with c | ⟨d, c⟩
   ·exact .inl (xF h1 c)
   ·exact .inl (by rw [← d]; exact h1)
  ·rcases c with c | ⟨d, c⟩
   ·exact .inl (by rw [g]; exact c)
   ·exact .inr ⟨g.trans d, xF h1 c⟩
 ·simp only [ym]
  rcases xD x.ja y.ja with h | h | h
  ·exact .inl (.inl h)
  ·rcases xD x.Word y.Word with c | c | c
   ·exact .inl (.inr ⟨h, c⟩)
   ·refine .inr (.inl ?_)
    cases x; cases y; simp at h c; simp [h, c]
   ·exact .inr (.inr (.inr ⟨h.symm, c⟩))
  ·exact .inr (.inr (.inl h))
theorem ya (a b : iX) : ∃ c, pL a b = some c ∧ (c < 0 ↔ zh a b = true) := by
 unfold pL
 simp only [ob, my, aA, sC, qi]
 have h1 : ∀ a b : ByteArray, (nQ a b < 0 ↔ oJ a b = true) := fun a b => by rw [vG]; exact Ak _ _
 have g : ∀ a b : ByteArray, (nQ a b = 0 ↔ a = b) := fun a b => by
  unfold nQ; rw [DI]; exact ⟨xz, fun h => by rw [h]⟩
 by_cases e : nQ a.ja b.ja = 0
 ·rw [aU (by simp [e])]
  have e' := (g _ _).1 e
  by_cases d : nQ a.Word b.Word = 0
  ·rw [aU (by simp [d])]
   refine ⟨0, rfl, ?_⟩
   rw [ym, e', (g _ _).1 d]
   simp [qE]
  ·rw [aW (by simp [d])]
   refine ⟨_, rfl, ?_⟩
   rw [ym, e', h1]
   simp [qE]
 ·rw [aW (by simp [e])]
  refine ⟨_, rfl, ?_⟩
  rw [ym, h1]
  have : a.ja ≠ b.ja := fun h => e ((g _ _).2 h)
  simp [this]
def zR : iX := ⟨zS, zS⟩
theorem FP (a b : ByteArray) : jP a b = jP b a := by rw [bF, kU, kU]; exact eq_comm
theorem Ci (a b : iX) : jr a b = jr b a := by rw [bF, js, js]; exact eq_comm
theorem ub (a : iX) : jr a a = true := js.2 rfl
def kG (c : iY) : Bool := kR c.Head && (
 if c.Kind == 1 then mx c.jM && jr zR c.B && jr zR c.C && jP zS c.ki
 else if c.Kind == 2 then kR c.B && jP zS c.jM && jr zR c.C && jP zS c.ki
 else if c.Kind == 3 then kR c.B && jP c.B.ja c.Head.ja && mx c.ki && jP zS c.jM && jr zR c.C
 else if c.Kind == 4 then kR c.B && kR c.C && zh c.B c.C && jP zS c.jM && jP zS c.ki
 else false)
theorem tL (c : iY) : qY c = some (kG c) := by
 unfold qY kG
 simp only [wk, wy, aA]
 obtain ⟨k, hk, b⟩ := ya c.B c.C
 rw [hk]
 have d : decide (k < 0) = zh c.B c.C := by rw [bF, ← b]; simp
 simp only [aA, d]
 by_cases h1 : c.Kind = 1
 ·cases kR c.Head <;> cases mx c.jM <;> simp [h1, kh, ub, sP, zR, gb]
 ·by_cases g : c.Kind = 2
  ·cases kR c.Head <;> cases kR c.B <;> simp [g, kh, ub, sP, zR, gb]
  ·by_cases h : c.Kind = 3
   ·cases kR c.Head <;> cases kR c.B <;> cases jP c.B.ja c.Head.ja <;> cases mx c.ki <;> simp [h, kh, ub, sP, zR, gb]
   ·by_cases i : c.Kind = 4
    ·cases kR c.Head <;> cases kR c.B <;> cases kR c.C <;> cases zh c.B c.C <;> simp [i, kh, ub, sP, zR, gb]
    ·simp [h1, g, h, i]
theorem yX (c : iY) : vd c = some (kG c) := by
 unfold vd kG
 simp only [yD, vy, zn, aA]
 rw [show (⟨zS, zS⟩ : iX) = zR from rfl, Ci c.B zR, Ci c.C zR, FP c.ki zS, FP c.jM zS]
 by_cases h1 : c.Kind = 1
 ·cases kR c.Head <;> cases mx c.jM <;> cases jr zR c.B <;> cases jr zR c.C <;> simp [h1]
 ·by_cases b : c.Kind = 2
  ·cases kR c.Head <;> cases kR c.B <;> cases jP zS c.jM <;> cases jr zR c.C <;> simp [b]
  ·by_cases d : c.Kind = 3
   ·cases kR c.Head <;> cases kR c.B <;> cases jP zS c.jM <;> cases jr zR c.C <;> cases jP c.B.ja c.Head.ja <;> simp [d]
   ·by_cases g : c.Kind = 4
    ·cases kR c.Head <;> cases kR c.B <;> cases jP zS c.jM <;> cases jP zS c.ki <;> cases kR c.C <;> simp [g]
    ·cases kR c.Head <;> cases kR c.B <;> cases jP zS c.jM <;> simp [h1, b, d, g]
theorem kQ {α : Type} {b : Nat} {l m : List α} (h : (l.length + m.length) * b ≤ 140737488355328) (c : l.length + m.length ≤ 9223372036854775807) : kN b l m = some (l ++ m) := by
 unfold kN; rw [aW ⟨h, by unfold maxLen; omega⟩]
theorem DK {l m : List Int} (h : l.length + m.length ≤ 1000000) : kN 1 l m = some (l ++ m) := kQ (by omega) (by omega)
def tK (s : ByteArray) : List Int := (s.size : Int) :: lB s
def pZ (r : iX) : List Int := tK r.ja ++ tK r.Word
def wC (c : iY) : List Int := if c.Kind = 1 then tK c.jM else if c.Kind = 2 then pZ c.B else if c.Kind = 3 then pZ c.B ++ tK c.ki else pZ c.B ++ pZ c.C
def qG (c : iY) : List Int := c.Kind :: (pZ c.Head ++ wC c)
theorem re (s : ByteArray) : (tK s).length = s.size + 1 := by simp [tK, lX]
theorem ns {r : iX} (h : kR r = true) : (pZ r).length ≤ 34 := by
 simp only [kR, aP] at h
 have h1 := mY h.1
 have b := mY h.2
 simp [pZ, re]; omega
theorem vN {l : List Int} {n : Int} (b : 0 ≤ n) (h1 : n < 128) (c : l.length ≤ 100000) : mQ l n = some (true, l ++ [n]) := by
 have hw : IntKind.u8.wrap n = n := by
  obtain ⟨k, rfl⟩ : ∃ k : Nat, n = k := ⟨n.toNat, by omega⟩
  have : ∀ k : Nat, k < 128 → IntKind.u8.wrap (k : Int) = (k : Int) := by decide +kernel
  exact this k (by omega)
 unfold mQ
 rw [aU (by simp; omega), ll, ov, aU (by simp; omega), hw, DK (by simp; omega)]
 rfl
theorem CL {l : List Int} {s : ByteArray} (h : mx s = true) (b : l.length ≤ 10000) : qV l s = some (true, l ++ tK s) := by
 have h1 := mY h
 unfold qV
 simp only [wy, aA, h, aJ, Df h1.2]
 unfold uN
 rw [aU (by rw [lX]; simp; omega)]
 rw [lX, vN (by omega) (by omega) (by omega)]
 simp only [aA]
 rw [DK (by simp [lX]; omega)]
 simp [tK]
theorem Hm {l : List Int} {r : iX} (h : kR r = true) (c : l.length ≤ 9000) : ox l r = some (true, l ++ pZ r) := by
 have b := h
 simp only [kR, aP] at h
 have h1 := mY h.1
 unfold ox
 simp only [wk, aA, b, aJ]
 rw [CL h.1 (by omega)]
 simp only [aA, aJ]
 rw [CL h.2 (by simp [re]; omega)]
 simp [pZ]
theorem Ar {l : List Int} {r : iX} (h : kR r = true) (b : l.length ≤ 1000) : ox l r = some (true, l ++ pZ r) := Hm h (by omega)
theorem Ac {c : iY} (h : kG c = true) : kR c.Head = true := by
 simp only [kG, aP] at h; exact h.1
theorem nr {c : iY} (h : kG c = true) :
  (c.Kind = 1 ∧ mx c.jM = true ∧ c.B = zR ∧ c.C = zR ∧ c.ki = zS) ∨
  (c.Kind = 2 ∧ kR c.B = true ∧ c.jM = zS ∧ c.C = zR ∧ c.ki = zS) ∨
  (c.Kind = 3 ∧ kR c.B = true ∧ mx c.ki = true ∧ c.B.ja = c.Head.ja ∧ c.jM = zS ∧ c.C = zR) ∨
  (c.Kind = 4 ∧ kR c.B = true ∧ kR c.C = true ∧ zh c.B c.C = true ∧ c.jM = zS ∧ c.ki = zS) := by
 simp only [kG, aP] at h
 obtain ⟨_, h⟩ := h
 split at h
 ·rename_i h1
  simp only [aP, js, kU] at h
  exact .inl ⟨by simpa using h1, h.1.1.1, h.1.1.2.symm, h.1.2.symm, h.2.symm⟩
 ·split at h
  ·rename_i h1
   simp only [aP, js, kU] at h
   exact .inr (.inl ⟨by simpa using h1, h.1.1.1, h.1.1.2.symm, h.1.2.symm, h.2.symm⟩)
  ·split at h
   ·rename_i h1
    simp only [aP, js, kU] at h
    exact .inr (.inr (.inl ⟨by simpa using h1, h.1.1.1.1, h.1.1.2, h.1.1.1.2, h.1.2.symm, h.2.symm⟩))
   ·split at h
    ·rename_i h1
     simp only [aP, js, kU] at h
     exact .inr (.inr (.inr ⟨by simpa using h1, h.1.1.1.1, h.1.1.1.2, h.1.1.2, h.1.2.symm, h.2.symm⟩))
    ·cases h
theorem zz (c : iY) : tX c = some (if kG c then qG c else []) := by
 unfold tX
 rw [tL]
 simp only [aA]
 cases h : kG c with
 | false => simp
 | true =>
  have i := Ac h
  have j := ns i
  simp only [bQ, aB, aF, aJ]
  have hk : 0 ≤ c.Kind ∧ c.Kind < 128 := by rcases nr h with h | h | h | h <;> omega
  rw [vN hk.1 hk.2 (by simp)]
  simp only [aA]
  rw [Ar i (by simp)]
  simp only [aA, qU, rD]
  rcases nr h with ⟨k, h1, _⟩ | ⟨k, h1, _⟩ | ⟨k, h1, b, _⟩ | ⟨k, h1, b, _⟩
  ·have d := mY h1
   simp only [k, aS, aJ, CL h1 (show (([] ++ [(1:Int)]) ++ pZ c.Head).length ≤ 10000 by simp; omega), aA]
   rw [DK (by simp [re]; omega)]
   simp [qG, wC, k]
  ·have d := ns h1
   simp only [k, show ((2 : Int) == 1) = false from rfl, aB, aS, aJ, aF, Ar h1 (show (([] ++ [(2:Int)]) ++ pZ c.Head).length ≤ 1000 by simp; omega), aA]
   rw [DK (by simp; omega)]
   simp [qG, wC, k]
  ·have d := ns h1
   have g := mY b
   simp only [k, show ((3 : Int) == 1) = false from rfl, show ((3 : Int) == 2) = false from rfl, aB, aS, aJ, aF, Ar h1 (show (([] ++ [(3:Int)]) ++ pZ c.Head).length ≤ 1000 by simp; omega), aA]
   rw [CL b (by simp; omega)]
   simp only [aA]
   rw [DK (by simp [re]; omega)]
   simp [qG, wC, k]
  ·have d := ns h1
   have g := ns b
   simp only [k, show ((4 : Int) == 1) = false from rfl, show ((4 : Int) == 2) = false from rfl, show ((4 : Int) == 3) = false from rfl, aB, aS, aJ, aF, Ar h1 (show (([] ++ [(4:Int)]) ++ pZ c.Head).length ≤ 1000 by simp; omega), aA]
   rw [Ar b (by simp; omega)]
   simp only [aA]
   rw [DK (by simp; omega)]
   simp [qG, wC, k]
def tI (l : List Int) : ByteArray := ⟨(rq l).toArray⟩
theorem rV (l : List Int) : (tI l).data.toList = rq l := rfl
theorem Et : ∀ (l : List Int) (r : ByteArray), (l.foldl (fun r n => r.push (UInt8.ofNat n.toNat)) r).data.toList = r.data.toList ++ rq l
 | [], r => by simp [rq]
 | x :: l, r => by
  rw [fE, Et l]
  show ((r.data.push _).toList) ++ _ = _
  simp [rq]
theorem MV (l : List Int) : IE l = tI l := xz (by unfold IE; rw [Et]; rfl)
theorem HC (l : List Int) : (tI l).size = l.length := by rw [ui, rV]; simp [rq]
theorem Jy (a b : List Int) : rq (a ++ b) = rq a ++ rq b := by simp [rq]
theorem pM (a b : List Int) (h : a.length + b.length ≤ 1000000) : oN (tI a) (tI b) = some (tI (a ++ b)) := by
 unfold oN
 rw [aU]
 ·congr 1
  refine xz ?_
  rw [rV, Jy, ← rV a, ← rV b]
  exact ByteArray.toList_data_append ▸ rfl
 ·rw [HC, HC]
  show ¬ (_ > (9223372036854775807 : Int))
  omega
theorem Bi (s : ByteArray) : tI (lB s) = s := xz (by rw [rV]; simp [rq, lB, eZ])
theorem vH {n : Int} (b : 0 ≤ n) (h1 : n < 128) : pT n = some (tI [n]) := by
 have hw : IntKind.u8.wrap n = n := by
  obtain ⟨k, rfl⟩ : ∃ k : Nat, n = k := ⟨n.toNat, by omega⟩
  have : ∀ k : Nat, k < 128 → IntKind.u8.wrap (k : Int) = (k : Int) := by decide +kernel
  exact this k (by omega)
 unfold pT
 rw [ll, uM, aU (by simp; omega), hw, MV, show zS = tI [] from rfl, pM _ _ (by simp)]
 rfl
theorem CK {s : ByteArray} (h : mx s = true) : sE s = some (tI (tK s)) := by
 have h1 := mY h
 unfold sE
 rw [vH (by omega) (by omega)]
 simp only [aA]
 have := pM [(s.size : Int)] (lB s) (by rw [lX]; simp; omega)
 rw [Bi] at this
 rw [this]
 simp [tK]
theorem yp {r : iX} (h : kR r = true) : rB r = some (tI (pZ r)) := by
 simp only [kR, aP] at h
 have h1 := mY h.1
 have b := mY h.2
 unfold rB
 rw [CK h.1, CK h.2]
 simp only [aA]
 rw [pM _ _ (by simp [re]; omega)]
 rfl
theorem yU (c : iY) : vc c = some (tI (if kG c then qG c else [])) := by
 unfold vc
 rw [yX]
 simp only [aA]
 cases h : kG c with
 | false => rfl
 | true =>
  have i := Ac h
  have j := ns i
  simp only [bQ, aB, aF, aJ]
  have hk : 0 ≤ c.Kind ∧ c.Kind < 128 := by rcases nr h with h | h | h | h <;> omega
  unfold Bs
  rw [vH hk.1 hk.2, yp i]
  simp only [aA]
  rw [pM _ _ (by simp; omega)]
  simp only [aA]
  rcases nr h with ⟨k, h1, _⟩ | ⟨k, h1, _⟩ | ⟨k, h1, b, _⟩ | ⟨k, h1, b, _⟩
  ·have d := mY h1
   simp only [k, aS, aJ, CK h1, aA]
   rw [pM _ _ (by simp [re]; omega)]
   simp [qG, wC, k]
  ·have d := ns h1
   simp only [k, show ((2 : Int) == 1) = false from rfl, show ((2 : Int) == 3) = false from rfl, show ((2 : Int) == 4) = false from rfl, aB, aF, yp h1, aA]
   rw [pM _ _ (by simp; omega)]
   simp [qG, wC, k]
  ·have d := ns h1
   have g := mY b
   simp only [k, show ((3 : Int) == 1) = false from rfl, show ((3 : Int) == 4) = false from rfl, aB, aS, aJ, aF, yp h1, aA]
   rw [pM _ _ (by simp; omega)]
   simp only [aA, CK b]
   rw [pM _ _ (by simp [re]; omega)]
   simp [qG, wC, k]
  ·have d := ns h1
   have g := ns b
   simp only [k, show ((4 : Int) == 1) = false from rfl, show ((4 : Int) == 3) = false from rfl, aB, aS, aJ, aF, yp h1, aA]
   rw [pM _ _ (by simp; omega)]
   simp only [aA, yp b]
   rw [pM _ _ (by simp; omega)]
   simp [qG, wC, k]
def Hj (c : iY) : List UInt8 := rq (if kG c then qG c else [])
def zb (a b : iY) : Bool := Op.bytesLess (Hj a) (Hj b)
theorem CO (a b : iY) : ∃ c, qO a b = some c ∧ (c < 0 ↔ zb a b = true) := by
 unfold qO
 rw [zz, zz]
 exact ⟨_, rfl, Ak _ _⟩
theorem Cu (a b : iY) : ∃ c, rJ a b = some c ∧ (c < 0 ↔ zb a b = true) := by
 unfold rJ
 rw [yU, yU]
 simp only [aA]
 have h : oJ (tI (if kG a then qG a else [])) (tI (if kG b then qG b else [])) = zb a b := by rw [vG]; rfl
 rw [h]
 cases zb a b with
 | true => exact ⟨_, rfl, by decide⟩
 | false =>
  simp only [aB, aF, Bool.false_or]
  cases d : jP (tI (if kG a then qG a else [])) (tI (if kG b then qG b else [])) with
  | true => exact ⟨0, by simp, by decide⟩
  | false => exact ⟨1, by simp, by decide⟩
theorem Ow {a b : Int} (ha : 0 ≤ a ∧ a < 256) (c : 0 ≤ b ∧ b < 256) (h : a.toNat.toUInt8 = b.toNat.toUInt8) : a = b := by
 have := bA UInt8.toNat h
 simp only [UInt8.toNat_ofNat', Nat.toUInt8] at this
 simp at this
 omega
theorem Ig : ∀ {a b : List Int}, (∀ x ∈ a, 0 ≤ x ∧ x < 256) → (∀ x ∈ b, 0 ≤ x ∧ x < 256) → rq a = rq b → a = b
 | [], [], _, _, _ => rfl
 | [], _ :: _, _, _, h => by simp [rq] at h
 | _ :: _, [], _, _, h => by simp [rq] at h
 | x :: a, y :: b, ha, d, h => by
  simp only [rq, bI, cM] at h
  rw [Ow (ha x (by simp)) (d y (by simp)) h.1, Ig (fun z c => ha z (by simp [c])) (fun z c => d z (by simp [c])) h.2]
theorem xm {s : ByteArray} (h : mx s = true) : ∀ x ∈ tK s, 0 ≤ x ∧ x < 256 := by
 have h1 := mY h
 intro x c
 rcases aM.1 c with rfl | c
 ·omega
 ·simp only [lB, bG] at c
  obtain ⟨b, _, rfl⟩ := c
  have := gU b
  omega
theorem uQ {r : iX} (h : kR r = true) : ∀ x ∈ pZ r, 0 ≤ x ∧ x < 256 := by
 simp only [kR, aP] at h
 intro x b
 rcases aO.1 b with b | b
 ·exact xm h.1 x b
 ·exact xm h.2 x b
theorem CT {c : iY} (h : kG c = true) : ∀ x ∈ qG c, 0 ≤ x ∧ x < 256 := by
 intro x b
 rcases aM.1 b with rfl | b
 ·rcases nr h with h | h | h | h <;> omega
 ·rcases aO.1 b with b | b
  ·exact uQ (Ac h) x b
  ·unfold wC at b
   rcases nr h with ⟨k, h1, _⟩ | ⟨k, h1, _⟩ | ⟨k, h1, d, _⟩ | ⟨k, h1, d, _⟩
   ·rw [aW k] at b; exact xm h1 x b
   ·rw [aU (by omega), aW k] at b; exact uQ h1 x b
   ·rw [aU (by omega), aU (by omega), aW k] at b
    rcases aO.1 b with b | b
    ·exact uQ h1 x b
    ·exact xm d x b
   ·rw [aU (by omega), aU (by omega), aU (by omega)] at b
    rcases aO.1 b with b | b
    ·exact uQ h1 x b
    ·exact uQ d x b
theorem Jp {s t : ByteArray} (h : lB s = lB t) : s = t := by rw [← Bi s, h, Bi]
theorem zw {s t : ByteArray} {X Y : List Int} (h : tK s ++ X = tK t ++ Y) : s = t ∧ X = Y := by
 simp only [tK, bJ, cM] at h
 obtain ⟨h1, b⟩ := h
 have c : (lB s).length = (lB t).length := by rw [lX, lX]; omega
 have := List.append_inj b c
 exact ⟨Jp this.1, this.2⟩
theorem xB {a b : iX} {X Y : List Int} (h : pZ a ++ X = pZ b ++ Y) : a = b ∧ X = Y := by
 simp only [pZ, aI] at h
 obtain ⟨h1, d⟩ := zw h
 obtain ⟨c, g⟩ := zw d
 exact ⟨by cases a; cases b; simp at h1 c; simp [h1, c], g⟩
theorem Kl {a b : iY} (ha : kG a = true) (q : kG b = true) (h : qG a = qG b) : a = b := by
 simp only [qG, cM] at h
 obtain ⟨hk, o⟩ := h
 obtain ⟨n, h⟩ := xB o
 clear o
 have j : ∀ {X Y : List Int}, X = Y → X ++ [] = Y ++ [] := fun h => by rw [h]
 unfold wC at h
 obtain ⟨x, p, z, u, v, s⟩ := a
 obtain ⟨y, r, A, bb, w, t⟩ := b
 simp only at hk n h
 subst hk n
 rcases nr ha with ⟨k, h1, d, g, c⟩ | ⟨k, h1, d, g, c⟩ | ⟨k, h1, d, g, c, i⟩ | ⟨k, h1, d, g, c, i⟩ <;>
 rcases nr q with ⟨k', g1, g2, g3, g4⟩ | ⟨k', g1, g2, g3, g4⟩ | ⟨k', g1, g2, g3, g4, g5⟩ | ⟨k', g1, g2, g3, g4, g5⟩ <;> simp only at k k' d g c g2 g3 g4 <;> (try omega)
 ·rw [aW k, aW k] at h
  simp [zw (j h), d, g, c, g2, g3, g4]
 ·rw [aU (by omega), aW k, aU (by omega), aW k] at h
  simp [xB (j h), d, g, c, g2, g3, g4]
 ·rw [aU (by omega), aU (by omega), aW k, aU (by omega), aU (by omega), aW k] at h
  obtain ⟨l, m⟩ := xB h
  simp only at i g5
  simp [l, zw (j m), c, i, g4, g5]
 ·rw [aU (by omega), aU (by omega), aU (by omega), aU (by omega), aU (by omega), aU (by omega)] at h
  obtain ⟨l, m⟩ := xB h
  simp only at i g5
  simp [l, xB (j m), c, i, g4, g5]
theorem AO : xN (fun a b => zb a b = true) (fun c => kG c = true) := by
 refine ⟨fun x _ h => ?_, fun x y z _ _ _ h1 i => vt _ _ _ h1 i, fun x y d g => ?_⟩
 ·unfold zb at h; rw [sO] at h; cases h
 ·rcases yM (Hj x) (Hj y) with h | h | h
  ·exact .inl h
  ·refine .inr (.inl (Kl d g ?_))
   unfold Hj at h
   rw [aW d, aW g] at h
   exact Ig (CT d) (CT g) h
  ·exact .inr (.inr h)
section
variable {c : Formula → Formula → Int} {G : Formula → Prop} {f : Formula × Formula → Option Int}
theorem IR (x : Formula) : (⟨x.Op, x.K, x.iX, x.Kids⟩ : Formula) = x := by cases x; rfl
abbrev mo (c : Formula → Formula → Int) (x y : Formula) : Bool := decide (c x y < 0)
abbrev Au (f : Formula × Formula → Option Int) (c : Formula → Formula → Int) (G : Formula → Prop) : Prop := ∀ x y, G x → G y → f (x, y) = some (c x y)
theorem PD (t : Au f c G) (pre : List Formula) (x : Formula) (v : G x) : ∀ (k : Nat) (P S : List Formula) (n : Nat) (j a : Int), P.length = k → k < n → (∀ y ∈ P, G y) → (pre ++ (P ++ x :: S)).length ≤ 1000000 → j = ((pre.length + P.length : Nat) : Int) → a = (pre.length : Int) →
  ∃ P1 P2, P = P1 ++ P2 ∧ kB a f n (pre ++ (P ++ x :: S)) j = some (pre ++ (P1 ++ x :: (P2 ++ S))) ∧ (∀ P' z, P1 = P' ++ [z] → mo c x z = false) ∧ (∀ y P', P2 = y :: P' → mo c x y = true) := by
 intro k
 induction k with
 | zero =>
  intro P S n j a hk u d l h ha
  obtain rfl := aN hk
  obtain ⟨n, rfl⟩ := aK (by omega : n ≠ 0)
  refine ⟨[], [], rfl, ?_, by simp, by simp⟩
  rw [kB]
  have : ¬ (j > a) := by rw [h, ha]; simp
  simp [this]
 | succ k ih =>
  intro P S n j a hk u d l h ha
  rcases cQ P with rfl | ⟨P', z, rfl⟩
  ·simp at hk
  simp only [dC, aC, aH, bN] at hk h l d ⊢
  obtain ⟨n, rfl⟩ := aK (by omega : n ≠ 0)
  have i : j > a := by omega
  have m : pre ++ (P' ++ [z] ++ x :: S) = (pre ++ P') ++ z :: x :: S := by simp
  have hw : wi0 .i64 (j - 1) = ((pre.length + P'.length : Nat) : Int) := by rw [kk (by omega) (by omega)]; omega
  have i1 : kp ((pre ++ P') ++ z :: x :: S) j = some x := by
   rw [show (pre ++ P') ++ z :: x :: S = (pre ++ P' ++ [z]) ++ x :: S by simp]
   exact lV _ _ _ _ (by simp; omega)
  have i2 : kp ((pre ++ P') ++ z :: x :: S) ((pre.length + P'.length : Nat) : Int) = some z := lV _ _ _ _ (by simp)
  have A : G z := d z (by simp)
  have s : ∀ y ∈ P', G y := fun y w => d y (by simp [w])
  have I : j.toNat = pre.length + P'.length + 1 := by omega
  rw [kB, m]
  simp only [i, bP, aJ, i1, hw, i2, aA, t x z v A]
  by_cases g : c x z < 0
  ·simp only [g, bP, aJ]
   have s1 : ((pre ++ P') ++ z :: x :: S).set j.toNat z = (pre ++ P') ++ z :: z :: S := by
    have := Hn (pre ++ P' ++ [z]) S x z j.toNat (by simp; omega)
    simpa only [aI, eW, bJ, aX] using this
   have s2 : ((pre ++ P') ++ z :: z :: S).set (pre.length + P'.length) x = (pre ++ P') ++ x :: z :: S := by
    exact Hn (pre ++ P') (z :: S) z x _ (by simp)
   have i3 : kp ((pre ++ P') ++ z :: z :: S) ((pre.length + P'.length : Nat) : Int) = some z := lV _ _ _ _ (by simp)
   rw [s1, i3, aA, dp, IR, s2]
   have o : (pre ++ P') ++ x :: z :: S = pre ++ (P' ++ x :: (z :: S)) := by simp
   obtain ⟨P1, P2, h1, p, q, r⟩ := ih P' (z :: S) n ((pre.length + P'.length : Nat) : Int) a (by omega) (by omega) s (by simp; omega) rfl ha
   rw [o, p]
   refine ⟨P1, P2 ++ [z], by rw [h1]; simp, by simp, q, ?_⟩
   intro y Q b
   cases P2 with
   | nil =>
    simp only [aX, cM] at b
    rw [← b.1]; simp [mo, g]
   | cons E P2 =>
    simp only [bJ, cM] at b
    rw [← b.1]; exact r E P2 rfl
  ·simp only [g, bW, aB, aF]
   refine ⟨P' ++ [z], [], by simp, by simp, ?_, by simp⟩
   intro Q y b
   have := List.append_inj' b rfl
   simp only [cM, and_true] at this
   rw [← this.2]; simp [mo, g]
theorem Mg (h : SWO (mo c)) (L : Au f c G) (pre post : List Formula) (a b : Int) (ha : a = (pre.length : Int)) : ∀ (S t : List (Formula × Nat)) (n : Nat) (i : Int),
  S.length < n → mZ (mo c) t → (∀ x ∈ t, ∀ y ∈ S, x.2 < y.2) → S.Pairwise (fun x y => x.2 < y.2) → (∀ x ∈ t ++ S, G x.1) → (pre ++ (t.map (·.1) ++ (S.map (·.1) ++ post))).length ≤ 1000000 →
  i = ((pre.length + t.length : Nat) : Int) → b = ((pre.length + t.length + S.length : Nat) : Int) →
  ∃ u, kf b a f n (pre ++ (t.map (·.1) ++ (S.map (·.1) ++ post))) i = some (pre ++ (u.map (·.1) ++ post)) ∧ mZ (mo c) u ∧ u.Perm (t ++ S)
 | [], t, n, i, E, I, h1, J, r, A, M, v => by
  obtain ⟨n, rfl⟩ := aK (by simp at E; omega : n ≠ 0)
  rw [kf]
  simp only [bN] at v
  have : ¬ (i < b) := by omega
  simp only [this, bW, aB, aF]
  exact ⟨t, by simp, I, by simp⟩
 | s :: S, t, n, i, E, I, h1, J, r, A, M, v => by
  simp only [aH] at E v
  obtain ⟨n, rfl⟩ := aK (by omega : n ≠ 0)
  rw [kf]
  have w : i < b := by omega
  simp only [w, bP, aJ]
  have l := A
  simp only [aC, cU, aH] at l
  obtain ⟨P1, P2, Q, R, T, U⟩ := PD L pre s.1 (r s (by simp)) (t.map (·.1)).length (t.map (·.1)) (S.map (·.1) ++ post) jB i a rfl (by rw [ll]; simp; omega)
   (fun y o => by obtain ⟨p, hp, rfl⟩ := bG.1 o; exact r p (by simp [hp])) (by simpa using A) (by simp; omega) ha
  simp only [bI, bJ]
  rw [R, aA]
  obtain ⟨t1, t2, rfl, O, P⟩ := List.map_eq_append_iff.1 Q
  have hlen : t1.length + t2.length = (t1 ++ t2).length := by simp
  have hw : wi0 .i64 (i + 1) = ((pre.length + (t1 ++ s :: t2).length : Nat) : Int) := by rw [kk (by omega) (by omega)]; simp at M ⊢; omega
  rw [hw]
  have m : mZ (mo c) (t1 ++ s :: t2) := Fk h I
   (fun A' z b B' j q => by
    simp only [cM] at q
    rw [← q.1]
    refine .inr ⟨T (A'.map (·.1)) z.1 (by rw [← O, j]; simp), h1 z (by rw [j]; simp) s (by simp)⟩)
   (fun A' z b B' j q => by
    have Y : z = s := by
     cases A' with
     | nil => simpa using j.symm
     | cons _ A' => simp at j
    rw [Y]
    exact .inl (U b.1 (B'.map (·.1)) (by rw [← P, q]; simp)))
  have g := bZ.1 J
  have W : pre ++ (P1 ++ s.1 :: (P2 ++ (S.map (·.1) ++ post))) = pre ++ ((t1 ++ s :: t2).map (·.1) ++ (S.map (·.1) ++ post)) := by rw [← O, ← P]; simp
  rw [W]
  obtain ⟨u, Z, u2, u3⟩ := Mg h L pre post a b ha S (t1 ++ s :: t2) n _ (by omega) m
   (fun x d y o => by
    rcases aO.1 d with d | d
    ·exact h1 x (by simp [d]) y (by simp [o])
    ·rcases aM.1 d with rfl | d
     ·exact g.1 y o
     ·exact h1 x (by simp [d]) y (by simp [o]))
   g.2 (fun x d => r x (by
    simp only [aO, aM] at d ⊢
    rcases d with (d | d | d) | d
    ·exact .inl (.inl d)
    ·exact .inr (.inl d)
    ·exact .inl (.inr d)
    ·exact .inr (.inr d))) (by simp at l ⊢; omega) rfl (by simp at v ⊢; omega)
  refine ⟨u, Z, u2, u3.trans ?_⟩
  simp only [aI, bJ]
  exact bR t1 (List.perm_middle.symm)
theorem Io (h : SWO (mo c)) (p : Au f c G) (pre post : List Formula) (S : List (Formula × Nat)) (a b : Int) (m : S.Pairwise (fun x y => x.2 < y.2)) (o : ∀ x ∈ S, G x.1) (l : (pre ++ (S.map (·.1) ++ post)).length ≤ 1000000) (ha : a = (pre.length : Int)) (j : b = ((pre.length + S.length : Nat) : Int)) :
  ∃ u, lW (pre ++ (S.map (·.1) ++ post)) a b f = some (pre ++ (u.map (·.1) ++ post)) ∧ mZ (mo c) u ∧ u.Perm S := by
 unfold lW
 have g := l
 simp only [aC, cU] at g
 cases S with
 | nil =>
  refine ⟨[], ?_, .nil, .nil⟩
  obtain ⟨n, q⟩ := aK (by rw [ll]; omega : jB ≠ 0)
  rw [q, kf]
  have : ¬ (wi0 .i64 (a + 1) < b) := by rw [kk (by omega) (by omega)]; simp at j; omega
  simp [this]
 | cons s S =>
  simp only [aH] at j g
  have d := bZ.1 m
  obtain ⟨u, t, v, w⟩ := Mg h p pre post a b ha S [s] jB (wi0 .i64 (a + 1)) (by rw [ll]; omega) (fQ _ _) (fun x i y r => by simp at i; rw [i]; exact d.1 y r) d.2
   (fun x i => o x (by simpa using i)) (by simp at l ⊢; omega) (by rw [kk (by omega) (by omega)]; simp; omega) (by simp; omega)
  exact ⟨u, by simpa using t, v, by simpa using w⟩
end
section
variable {c : Formula → Formula → Int} {G : Formula → Prop} {f : Formula × Formula → Option Int}
theorem mr {x : Int} (n : Nat) (h : x = (n : Int)) (b : n ≤ 4000000) : wi0 .i64 x = (n : Int) := by rw [h, kk (by omega) (by omega)]
theorem Oy (p m q : List Formula) (a b N : Int) : ∀ (k : Nat) (X1 X2 Y1 Y2 : List Formula) (n : Nat) (i : Int), X2.length = k → Y2.length = k → X1.length = Y1.length → k < n → (p ++ (Y1 ++ (X2 ++ (m ++ (X1 ++ (Y2 ++ q)))))).length ≤ 1000000 →
  i = (X1.length : Int) → N = ((X1.length + k : Nat) : Int) → a = (p.length : Int) → b = ((p.length + X1.length + k + m.length : Nat) : Int) →
  kV N b a n (p ++ (Y1 ++ (X2 ++ (m ++ (X1 ++ (Y2 ++ q)))))) i = some (p ++ ((Y1 ++ Y2) ++ (m ++ ((X1 ++ X2) ++ q)))) := by
 intro k
 induction k with
 | zero =>
  intro X1 X2 Y1 Y2 n i h1 c s u l t h ha j
  obtain rfl := aN h1
  obtain rfl := aN c
  obtain ⟨n, rfl⟩ := aK (by omega : n ≠ 0)
  rw [kV]
  have : ¬ (i < N) := by omega
  simp [this]
 | succ k ih =>
  intro X1 X2 Y1 Y2 n i h1 c s u l t h ha j
  cases X2 with
  | nil => simp at h1
  | cons x X2 =>
  cases Y2 with
  | nil => simp at c
  | cons y Y2 =>
  simp only [aH, Nat.add_right_cancel_iff] at h1 c
  obtain ⟨n, rfl⟩ := aK (by omega : n ≠ 0)
  have g := l
  simp only [aC, aH] at g
  have d : i < N := by omega
  have v : wi0 .i64 (b + i) = (((p ++ Y1).length + 1 + (X2 ++ (m ++ X1)).length : Nat) : Int) := mr _ (by simp; omega) (by simp; omega)
  have w : wi0 .i64 (a + i) = ((p ++ Y1).length : Int) := mr _ (by simp; omega) (by simp; omega)
  have z : wi0 .i64 (i + 1) = ((X1 ++ [x]).length : Int) := mr _ (by simp; omega) (by simp; omega)
  have o : p ++ (Y1 ++ (x :: X2 ++ (m ++ (X1 ++ (y :: Y2 ++ q))))) = (p ++ Y1) ++ x :: ((X2 ++ (m ++ X1)) ++ y :: (Y2 ++ q)) := by simp
  have i1 : kp ((p ++ Y1) ++ x :: ((X2 ++ (m ++ X1)) ++ y :: (Y2 ++ q))) (((p ++ Y1).length + 1 + (X2 ++ (m ++ X1)).length : Nat) : Int) = some y := by
   have := lV ((p ++ Y1) ++ x :: (X2 ++ (m ++ X1))) y (Y2 ++ q) (((p ++ Y1).length + 1 + (X2 ++ (m ++ X1)).length : Nat) : Int) (by simp; omega)
   simpa using this
  have i2 : kp ((p ++ Y1) ++ x :: ((X2 ++ (m ++ X1)) ++ y :: (Y2 ++ q))) ((p ++ Y1).length : Int) = some x := lV _ _ _ _ rfl
  rw [kV, o]
  simp only [d, bP, aJ, v, w, i1, i2, aA, dp, z]
  have i3 : kp (((p ++ Y1) ++ x :: ((X2 ++ (m ++ X1)) ++ y :: (Y2 ++ q))).set (p ++ Y1).length y) (((p ++ Y1).length + 1 + (X2 ++ (m ++ X1)).length : Nat) : Int) = some y := by
   rw [Cx]
   have := lV ((p ++ Y1) ++ y :: (X2 ++ (m ++ X1))) y (Y2 ++ q) (((p ++ Y1).length + 1 + (X2 ++ (m ++ X1)).length : Nat) : Int) (by simp; omega)
   simpa using this
  rw [i3, aA, IR, Dq]
  have r : (p ++ Y1) ++ y :: ((X2 ++ (m ++ X1)) ++ x :: (Y2 ++ q)) = p ++ ((Y1 ++ [y]) ++ (X2 ++ (m ++ ((X1 ++ [x]) ++ (Y2 ++ q))))) := by simp
  rw [r, ih (X1 ++ [x]) X2 (Y1 ++ [y]) Y2 n _ h1 c (by simp; omega) (by omega) (by simp; omega) rfl (by rw [h]; simp; omega) ha (by rw [j]; simp; omega)]
  simp
theorem IP (p m q X Y : List Formula) (a b N : Int) (h : X.length = Y.length) (d : (p ++ (X ++ (m ++ (Y ++ q)))).length ≤ 1000000) (g : N = (X.length : Int)) (ha : a = (p.length : Int)) (i : b = ((p.length + X.length + m.length : Nat) : Int)) :
  lP (p ++ (X ++ (m ++ (Y ++ q)))) a b N f = some (p ++ (Y ++ (m ++ (X ++ q)))) := by
 unfold lP
 have c := d
 simp only [aC] at c
 have := Oy p m q a b N X.length [] X [] Y jB 0 rfl h.symm rfl (by rw [ll]; omega) (by simpa using d) rfl (by simpa using g) ha (by rw [i]; simp)
 simpa using this
theorem OV (M : Int) : ∀ (k : Nat) (A B p q : List Formula) (n : Nat) (i j : Int), A.length + B.length ≤ k → 0 < A.length → 0 < B.length → k < n → (p ++ (A ++ (B ++ q))).length ≤ 1000000 → i = (A.length : Int) → j = (B.length : Int) → M = ((p.length + A.length : Nat) : Int) →
  lm M f n (p ++ (A ++ (B ++ q))) i j = some (p ++ (B ++ (A ++ q))) := by
 intro k
 induction k with
 | zero => intro A B p q n i j h h1 t; omega
 | succ k ih =>
  intro A B p q n i j h h1 t I w c m u
  obtain ⟨n, rfl⟩ := aK (by omega : n ≠ 0)
  have b := w
  simp only [aC] at b
  rw [lm]
  by_cases he : A.length = B.length
  ·have : (i != j) = false := by rw [c, m, he]; simp
   simp only [this, aB, aF]
   have d : wi0 .i64 (M - i) = (p.length : Int) := mr _ (by omega) (by omega)
   have := IP (f := f) p [] q A B (p.length : Int) M i he (by simpa using w) c rfl (by rw [u]; simp)
   simp only [aX] at this
   rw [d, this]; rfl
  ·have o : (i != j) = true := by rw [c, m]; simp; omega
   simp only [o, aJ]
   by_cases v : i > j
   ·simp only [v, bP, aJ]
    obtain ⟨X, Y, rfl, G⟩ := tW (l := A) (n := B.length) (by omega)
    simp only [aC] at c h u b
    have d : wi0 .i64 (M - i) = (p.length : Int) := mr _ (by omega) (by omega)
    have s := IP (f := f) p Y q X B (p.length : Int) M j (by omega) (by simp; omega) (by omega) rfl (by omega)
    have g : p ++ (X ++ Y ++ (B ++ q)) = p ++ (X ++ (Y ++ (B ++ q))) := by simp
    have r : wi0 .i64 (i - j) = (Y.length : Int) := mr _ (by omega) (by omega)
    rw [g, d, s, aA, r]
    have x : p ++ (B ++ (Y ++ (X ++ q))) = (p ++ B) ++ (Y ++ (X ++ q)) := by simp
    rw [x, ih Y X (p ++ B) q n _ j (by omega) (by omega) (by omega) (by omega) (by simp; omega) rfl (by omega) (by simp; omega)]
    simp
   ·simp only [v, bW, aB, aF]
    obtain ⟨Z, V, rfl, y⟩ := tW (l := B) (n := B.length - A.length) (by omega)
    simp only [aC] at m h b y t he
    have d : wi0 .i64 (M - i) = (p.length : Int) := mr _ (by omega) (by omega)
    have z : wi0 .i64 (M + j) = ((p.length + A.length + (Z.length + V.length) : Nat) : Int) := mr _ (by omega) (by omega)
    have E : wi0 .i64 (((p.length + A.length + (Z.length + V.length) : Nat) : Int) - i) = ((p.length + A.length + Z.length : Nat) : Int) := mr _ (by omega) (by omega)
    have s := IP (f := f) p Z q A V (p.length : Int) ((p.length + A.length + Z.length : Nat) : Int) i (by omega) (by simp; omega) c rfl rfl
    have g : p ++ (A ++ (Z ++ V ++ q)) = p ++ (A ++ (Z ++ (V ++ q))) := by simp
    have r : wi0 .i64 (j - i) = (Z.length : Int) := mr _ (by omega) (by omega)
    rw [g, d, z, E, s, aA, r]
    rw [show p ++ (V ++ (Z ++ (A ++ q))) = p ++ (V ++ (Z ++ (A ++ q))) from rfl, ih V Z p (A ++ q) n i _ (by omega) (by omega) (by omega) (by omega) (by simp; omega) (by omega) rfl (by omega)]
    simp
theorem P8 (A B p q : List Formula) (a m b : Int) (h1 : 0 < A.length) (g : 0 < B.length) (d : (p ++ (A ++ (B ++ q))).length ≤ 1000000) (ha : a = (p.length : Int)) (hm : m = ((p.length + A.length : Nat) : Int)) (h : b = ((p.length + A.length + B.length : Nat) : Int)) :
  lH (p ++ (A ++ (B ++ q))) a m b f = some (p ++ (B ++ (A ++ q))) := by
 unfold lH
 have c := d
 simp only [aC] at c
 rw [mr A.length (by omega) (by omega), mr B.length (by omega) (by omega)]
 exact OV m (A.length + B.length) A B p q jB _ _ (aQ _) h1 g (by rw [ll]; omega) d rfl rfl hm
end
section
variable {c : Formula → Formula → Int} {G : Formula → Prop} {f : Formula × Formula → Option Int}
theorem AP {x : Int} (n : Nat) (h : x = (n : Int)) (c : n ≤ 4000000) : wi0 .i64 (Int.fdiv (IntKind.u64.wrap (wi0 .i64 x)) (2 ^ min (Int.toNat 1) (IntKind.bits .u64))) = ((n / 2 : Nat) : Int) := by
 rw [mr n h c]
 have b : IntKind.u64.wrap (n : Int) = (n : Int) := by
  simp only [IntKind.wrap, IntKind.signed, IntKind.bits]
  simp
  omega
 rw [b, show (2 ^ min (Int.toNat 1) (IntKind.bits .u64) : Int) = 2 from by decide, Int.fdiv_eq_ediv_of_nonneg _ (by decide), kk (by omega) (by omega)]
 omega
abbrev Ask (a0 : List Formula) (f : Formula × Formula → Option Int) (p q : Int) (b : Bool) : Prop := ∃ x y r, kp a0 p = some x ∧ kp a0 q = some y ∧ f (x, y) = some r ∧ decide (r < 0) = b
theorem P5 (a0 : List Formula) (q : Int) (c : Nat → Bool) (g b : Nat) (J : b ≤ 1000000) (v : ∀ h, g ≤ h → h < b → Ask a0 f (h : Int) q (c h)) : ∀ (d n i j : Nat), j - i ≤ d → d < n → g ≤ i → i ≤ j → j ≤ b → (i = g ∨ c (i - 1) = true) → (j = b ∨ c j = false) →
  ∃ t M, g ≤ t ∧ t ≤ b ∧ (t = g ∨ c (t - 1) = true) ∧ (t = b ∨ c t = false) ∧ jU a0 q f n (i : Int) (j : Int) = jU a0 q f (M + 1) (t : Int) (t : Int) := by
 intro d
 induction d with
 | zero =>
  intro n i j h1 L l G m o p
  obtain ⟨n, rfl⟩ := aK (by omega : n ≠ 0)
  obtain rfl : i = j := by omega
  exact ⟨i, n, l, m, o, p, rfl⟩
 | succ d ih =>
  intro n i j h1 L l G m o p
  obtain ⟨n, rfl⟩ := aK (by omega : n ≠ 0)
  by_cases s : i = j
  ·subst s; exact ⟨i, n, l, m, o, p, rfl⟩
  have I := AP (i + j) (x := (i : Int) + (j : Int)) (by omega) (by omega)
  obtain ⟨x, y, r, w, z, A, E⟩ := v ((i + j) / 2) (by omega) (by omega)
  rw [jU]
  have u : ((i : Int) < (j : Int)) := by omega
  simp only [u, bP, aJ, I, w, z, A, E, aA]
  cases hp : c ((i + j) / 2)
  ·simp only [aB, aF]
   exact ih n i ((i + j) / 2) (by omega) (by omega) l (by omega) (by omega) o (.inr hp)
  ·simp only [aJ]
   rw [mr ((i + j) / 2 + 1) (by omega) (by omega)]
   exact ih n ((i + j) / 2 + 1) j (by omega) (by omega) (by omega) (by omega) m (.inr (by simpa using hp)) p
theorem Qi (a0 : List Formula) (a2 : Int) (c : Nat → Bool) (g b : Nat) (I : b ≤ 1000000) (u : ∀ h, g ≤ h → h < b → Ask a0 f a2 (h : Int) (!c h)) : ∀ (d n i j : Nat), j - i ≤ d → d < n → g ≤ i → i ≤ j → j ≤ b → (i = g ∨ c (i - 1) = true) → (j = b ∨ c j = false) →
  ∃ t L, g ≤ t ∧ t ≤ b ∧ (t = g ∨ c (t - 1) = true) ∧ (t = b ∨ c t = false) ∧ jV a0 a2 f n (i : Int) (j : Int) = jV a0 a2 f (L + 1) (t : Int) (t : Int) := by
 intro d
 induction d with
 | zero =>
  intro n i j h1 J l E m o p
  obtain ⟨n, rfl⟩ := aK (by omega : n ≠ 0)
  obtain rfl : i = j := by omega
  exact ⟨i, n, l, m, o, p, rfl⟩
 | succ d ih =>
  intro n i j h1 J l E m o p
  obtain ⟨n, rfl⟩ := aK (by omega : n ≠ 0)
  by_cases q : i = j
  ·subst q; exact ⟨i, n, l, m, o, p, rfl⟩
  have G := AP (i + j) (x := (i : Int) + (j : Int)) (by omega) (by omega)
  obtain ⟨x, y, r, v, w, z, A⟩ := u ((i + j) / 2) (by omega) (by omega)
  rw [jV]
  have s : ((i : Int) < (j : Int)) := by omega
  simp only [s, bP, aJ, G, v, w, z, A, aA, gd]
  cases hp : c ((i + j) / 2)
  ·simp only [aB, aF]
   exact ih n i ((i + j) / 2) (by omega) (by omega) l (by omega) (by omega) o (.inr hp)
  ·simp only [aJ]
   rw [mr ((i + j) / 2 + 1) (by omega) (by omega)]
   exact ih n ((i + j) / 2 + 1) j (by omega) (by omega) (by omega) (by omega) m (.inr (by simpa using hp)) p
theorem Ps (x : Formula) : ∀ (P Q R : List Formula) (n : Nat) (k i : Int), P.length < n → (Q ++ x :: (P ++ R)).length ≤ 1000000 → k = (Q.length : Int) → i = ((Q.length + P.length + 1 : Nat) : Int) → kZ i n (Q ++ x :: (P ++ R)) k = some (Q ++ (P ++ x :: R))
 | [], Q, R, n, k, i, c, d, hk, b => by
  obtain ⟨n, rfl⟩ := aK (by simp at c; omega : n ≠ 0)
  simp only [aC, aH, bN] at d b
  rw [kZ, mr Q.length (by omega) (by omega)]
  have : ¬ (k < (Q.length : Int)) := by omega
  simp [this]
 | y :: P, Q, R, n, k, i, c, d, hk, b => by
  obtain ⟨n, rfl⟩ := aK (by simp at c; omega : n ≠ 0)
  simp only [aC, aH] at d b c
  have h : Q ++ x :: (y :: P ++ R) = Q ++ x :: ([] ++ y :: (P ++ R)) := rfl
  have j : wi0 .i64 (k + 1) = ((Q.length + 1 + ([] : List Formula).length : Nat) : Int) := mr _ (by simp; omega) (by simp; omega)
  have i1 : kp (Q ++ x :: ([] ++ y :: (P ++ R))) ((Q.length + 1 + ([] : List Formula).length : Nat) : Int) = some y := by
   have := lV (Q ++ [x]) y (P ++ R) ((Q.length + 1 + ([] : List Formula).length : Nat) : Int) (by simp)
   simpa using this
  have i2 : kp (Q ++ x :: ([] ++ y :: (P ++ R))) k = some x := lV _ _ _ _ hk
  rw [kZ, mr (Q.length + P.length + 1) (by omega) (by omega), h]
  have g : k < ((Q.length + P.length + 1 : Nat) : Int) := by omega
  have kn : k.toNat = Q.length := by omega
  simp only [g, bP, aJ, j, i1, i2, aA, kn]
  have i3 : kp ((Q ++ x :: ([] ++ y :: (P ++ R))).set Q.length y) ((Q.length + 1 + ([] : List Formula).length : Nat) : Int) = some y := by
   rw [Cx]
   have := lV (Q ++ [y]) y (P ++ R) ((Q.length + 1 + ([] : List Formula).length : Nat) : Int) (by simp)
   simpa using this
  rw [i3, aA, dp, IR, Dq]
  have := Ps x P (Q ++ [y]) R n ((Q.length + 1 + ([] : List Formula).length : Nat) : Int) i (by omega) (by simp; omega) (by simp) (by rw [b]; simp; omega)
  simpa using this
theorem P9 (x : Formula) : ∀ (k : Nat) (S Q R : List Formula) (n : Nat) (j i : Int), S.length = k → k < n → (Q ++ (S ++ x :: R)).length ≤ 1000000 → j = ((Q.length + S.length : Nat) : Int) → i = (Q.length : Int) → kY i n (Q ++ (S ++ x :: R)) j = some (Q ++ x :: (S ++ R)) := by
 intro k
 induction k with
 | zero =>
  intro S Q R n j i hk m h b g
  obtain ⟨n, rfl⟩ := aK (by omega : n ≠ 0)
  obtain rfl := aN hk
  rw [kY]
  simp only [bN, fT] at b
  have : ¬ (j > i) := by omega
  simp [this]
 | succ k ih =>
  intro S Q R n j i hk m h b g
  obtain ⟨n, rfl⟩ := aK (by omega : n ≠ 0)
  rcases cQ S with rfl | ⟨S, z, rfl⟩
  ·simp at hk
  simp only [dC, aC, aH, bN] at hk b h ⊢
  have l : Q ++ (S ++ [z] ++ x :: R) = (Q ++ S) ++ z :: ([] ++ x :: R) := by simp
  have p : wi0 .i64 (j - 1) = ((Q ++ S).length : Int) := mr _ (by simp; omega) (by simp; omega)
  have c : j = (((Q ++ S).length + 1 + ([] : List Formula).length : Nat) : Int) := by rw [b]; simp; omega
  have i1 : kp ((Q ++ S) ++ z :: ([] ++ x :: R)) j = some x := by
   have := lV (Q ++ S ++ [z]) x R j (by rw [c]; simp; omega)
   simpa using this
  have i2 : kp ((Q ++ S) ++ z :: ([] ++ x :: R)) ((Q ++ S).length : Int) = some z := lV _ _ _ _ rfl
  rw [kY, l]
  have d : j > i := by omega
  have o : j.toNat = (Q ++ S).length + 1 + ([] : List Formula).length := by omega
  simp only [d, bP, aJ, p, i1, i2, aA, o]
  have i3 : kp (((Q ++ S) ++ z :: ([] ++ x :: R)).set ((Q ++ S).length + 1 + ([] : List Formula).length) z) ((Q ++ S).length : Int) = some z := by
   have : ((Q ++ S) ++ z :: ([] ++ x :: R)).set ((Q ++ S).length + 1 + ([] : List Formula).length) z = (Q ++ S) ++ z :: (z :: R) := by
    have := Hn (Q ++ S ++ [z]) R x z ((Q ++ S).length + 1 + ([] : List Formula).length) (by simp; omega)
    simpa using this
   rw [this]; exact lV _ _ _ _ rfl
  rw [i3, aA, dp, IR, JR]
  have := ih S Q (z :: R) n ((Q ++ S).length : Int) i (by omega) (by omega) (by simp; omega) (by simp) g
  simpa using this
end
section
variable {c : Formula → Formula → Int} {G : Formula → Prop} {f : Formula × Formula → Option Int}
theorem Pu (a0 : List Formula) (l a3 a2 : Int) (rec : List Formula → Int → Int → Int → ((Formula × Formula) → Option Int) → Option (List Formula)) (mid m p : Nat) (o : l + a3 = ((2 * mid : Nat) : Int) ∨ l + a3 = ((2 * mid + 1 : Nat) : Int)) (hm : a2 = (m : Int)) (hp : p + 1 = mid + m) (g : Nat → Bool) (s b : Nat) (Q : b ≤ 1000000) (T : mid ≤ 1000000) (R : mid + m ≤ 2000000) (hle : b ≤ p + 1) (G : ∀ h, s ≤ h → h < b → Ask a0 f ((p - h : Nat) : Int) (h : Int) (!g h)) : ∀ (d n i j : Nat), j - i ≤ d → d < n → s ≤ i → i ≤ j → j ≤ b → (i = s ∨ g (i - 1) = true) → (j = b ∨ g j = false) →
  ∃ t W, s ≤ t ∧ t ≤ b ∧ (t = s ∨ g (t - 1) = true) ∧ (t = b ∨ g t = false) ∧ jI a0 l a3 a2 f rec n (i : Int) (j : Int) = jI a0 l a3 a2 f rec (W + 1) (t : Int) (t : Int) := by
 have c : wi0 .i64 (Int.fdiv (IntKind.u64.wrap (wi0 .i64 (l + a3))) (2 ^ min (Int.toNat 1) (IntKind.bits .u64))) = (mid : Int) := by
  rcases o with h | h
  ·rw [AP _ h (by omega), show 2 * mid / 2 = mid by omega]
  ·rw [AP _ h (by omega), show (2 * mid + 1) / 2 = mid by omega]
 intro d
 induction d with
 | zero =>
  intro n i j h1 U u O v w z
  obtain ⟨n, rfl⟩ := aK (by omega : n ≠ 0)
  obtain rfl : i = j := by omega
  exact ⟨i, n, u, v, w, z, rfl⟩
 | succ d ih =>
  intro n i j h1 U u O v w z
  obtain ⟨n, rfl⟩ := aK (by omega : n ≠ 0)
  by_cases A : i = j
  ·subst A; exact ⟨i, n, u, v, w, z, rfl⟩
  have P := AP (i + j) (x := (i : Int) + (j : Int)) (by omega) (by omega)
  obtain ⟨x, y, r, I, J, L, M⟩ := G ((i + j) / 2) (by omega) (by omega)
  have Y : wi0 .i64 ((mid : Int) + a2) = ((mid + m : Nat) : Int) := mr _ (by omega) (by omega)
  have Z : wi0 .i64 (((mid + m : Nat) : Int) - 1) = (p : Int) := mr _ (by omega) (by omega)
  have w3 : wi0 .i64 ((p : Int) - (((i + j) / 2 : Nat) : Int)) = ((p - (i + j) / 2 : Nat) : Int) := mr _ (by omega) (by omega)
  rw [jI]
  have E : ((i : Int) < (j : Int)) := by omega
  simp only [E, bP, aJ, P, c, Y, Z, w3, I, J, L, M, aA, gd]
  cases q : g ((i + j) / 2)
  ·simp only [aB, aF]
   exact ih n i ((i + j) / 2) (by omega) (by omega) u (by omega) (by omega) w (.inr q)
  ·simp only [aJ]
   rw [mr ((i + j) / 2 + 1) (by omega) (by omega)]
   exact ih n ((i + j) / 2 + 1) j (by omega) (by omega) (by omega) (by omega) v (.inr (by simpa using q)) z
theorem Of (a0 : List Formula) (c a3 a2 : Int) (rec : List Formula → Int → Int → Int → ((Formula × Formula) → Option Int) → Option (List Formula)) (mid m t n : Nat) (d : c + a3 = ((2 * mid : Nat) : Int) ∨ c + a3 = ((2 * mid + 1 : Nat) : Int)) (hm : a2 = (m : Int)) (s : mid ≤ 1000000) (r : mid + m ≤ 2000000) (y : t ≤ mid + m) :
  jI a0 c a3 a2 f rec (n + 1) (t : Int) (t : Int) =
   ((if t < m ∧ m < mid + m - t then lH a0 (t : Int) a2 ((mid + m - t : Nat) : Int) f else some a0).bind fun l => ((if c < (t : Int) ∧ t < mid then rec l c (t : Int) (mid : Int) f else some l).bind fun l => if mid < mid + m - t ∧ ((mid + m - t : Nat) : Int) < a3 then rec l (mid : Int) ((mid + m - t : Nat) : Int) a3 f else some l)) := by
 have b : wi0 .i64 (Int.fdiv (IntKind.u64.wrap (wi0 .i64 (c + a3))) (2 ^ min (Int.toNat 1) (IntKind.bits .u64))) = (mid : Int) := by
  rcases d with h | h
  ·rw [AP _ h (by omega), show 2 * mid / 2 = mid by omega]
  ·rw [AP _ h (by omega), show (2 * mid + 1) / 2 = mid by omega]
 have v : wi0 .i64 ((mid : Int) + a2) = ((mid + m : Nat) : Int) := mr _ (by omega) (by omega)
 have w : wi0 .i64 (((mid + m : Nat) : Int) - (t : Int)) = ((mid + m - t : Nat) : Int) := mr _ (by omega) (by omega)
 rw [jI]
 simp only [Int.lt_irrefl, bW, aB, aF, b, v, w, nq]
 subst hm
 have g : ((t : Int) < (m : Int)) = (t < m) := by simp
 have i : ((m : Int) < ((mid + m - t : Nat) : Int)) = (m < mid + m - t) := by rw [fK]; omega
 have j : ((t : Int) < (mid : Int)) = (t < mid) := by simp
 have o : ((mid : Int) < ((mid + m - t : Nat) : Int)) = (mid < mid + m - t) := by rw [fK]; omega
 simp only [g, i, j, o]
 have key : ∀ (p q : Prop) [Decidable p] [Decidable q] (A B : Option (List Formula)), ((if decide p = true then some (decide q) else some false : Option Bool).bind fun x => if x = true then A else B) = if p ∧ q then A else B := by
  intro p q _ _ A B
  by_cases hp : p <;> by_cases u : q <;> simp [hp, u]
 simp only [key]
theorem Jf (p A q : List Formula) (h : Nat) (c : p.length ≤ h) (h1 : h < p.length + A.length) : ∃ x, A[h - p.length]? = some x ∧ kp (p ++ (A ++ q)) (h : Int) = some x := by
 obtain ⟨x, b⟩ : ∃ x, A[h - p.length]? = some x := ⟨_, dx (by omega)⟩
 refine ⟨x, b, ?_⟩
 rw [CD, ev c, ft (by omega), b]
end
section
variable {c : Formula → Formula → Int} {G : Formula → Prop} {f : Formula × Formula → Option Int}
theorem A8 {α : Type} {P A' : List α} {z : α} (S : List α) (h : P = A' ++ [z]) : (P ++ S)[P.length - 1]? = some z := by subst h; simp
theorem AZ {α : Type} {S B' : List α} {z : α} (P : List α) (h : S = z :: B') : (P ++ S)[P.length]? = some z := by subst h; simp
theorem vE {A : List (Formula × Nat)} {i : Nat} {z : Formula × Nat} (h : A[i]? = some z) : (A.map (·.1))[i]? = some z.1 := by simp [h]
theorem OY (h : SWO (mo c)) (R : Au f c G) (x : Formula × Nat) (B : List (Formula × Nat)) (pre post : List Formula) (a m b : Int) (J : mZ (mo c) B) (W : ∀ y ∈ B, x.2 < y.2) (v : ∀ y ∈ x :: B, G y.1) (T : (pre ++ x.1 :: (B.map (·.1) ++ post)).length ≤ 400000) (ha : a = (pre.length : Int)) (hm : m = ((pre.length + 1 : Nat) : Int)) (Q : b = ((pre.length + 1 + B.length : Nat) : Int)) :
  ∃ u, jU (pre ++ x.1 :: (B.map (·.1) ++ post)) a f jB m b = some (pre ++ (u.map (·.1) ++ post)) ∧ mZ (mo c) u ∧ u.Perm (x :: B) := by
 have p := T
 simp only [aC, aH, cU] at p
 let g : Nat → Bool := fun k => match (B.map (·.1))[k - (pre.length + 1)]? with | some y => mo c y x.1 | none => false
 have j : ∀ k, pre.length + 1 ≤ k → k < pre.length + 1 + B.length → Ask (pre ++ x.1 :: (B.map (·.1) ++ post)) f (k : Int) a (g k) := by
  intro k h1 h2
  obtain ⟨y, r, w⟩ := Jf (pre ++ [x.1]) (B.map (·.1)) post k (by simp; omega) (by simp; omega)
  have A : kp (pre ++ x.1 :: (B.map (·.1) ++ post)) (k : Int) = some y := by simpa using w
  have E : kp (pre ++ x.1 :: (B.map (·.1) ++ post)) a = some x.1 := lV _ _ _ _ ha
  have Y : G y := by
   obtain ⟨q, U, rfl⟩ := bG.1 (cX r)
   exact v q (by simp [U])
  refine ⟨y, x.1, _, A, E, R y x.1 Y (v x (by simp)), ?_⟩
  simp only [aC, aH, bN] at r
  simp only [g, r]
 obtain ⟨t, n', t1, t2, t3, t4, e⟩ := P5 (f := f) _ a g (pre.length + 1) (pre.length + 1 + B.length) (by omega) j B.length jB (pre.length + 1) (pre.length + 1 + B.length) (by omega) (by rw [ll]; omega) (aQ _) (by omega) (aQ _) (.inl rfl) (.inl rfl)
 rw [hm, Q, e, jU]
 simp only [Int.lt_irrefl, bW, aB, aF, nq]
 obtain ⟨P, S, rfl, L⟩ := tW (l := B) (n := t - (pre.length + 1)) (by omega)
 simp only [aC] at p t2 t4
 have I : pre ++ x.1 :: ((P ++ S).map (·.1) ++ post) = pre ++ x.1 :: (P.map (·.1) ++ (S.map (·.1) ++ post)) := by simp
 rw [I, Ps x.1 (P.map (·.1)) pre (S.map (·.1) ++ post) jB a (t : Int) (by rw [ll]; simp; omega) (by simp; omega) ha (by simp; omega)]
 refine ⟨P ++ x :: S, by simp, Fk h J ?_ ?_, eu⟩
 ·intro A' z s B' i d
  simp only [cM] at d
  rw [← d.1]
  have M : 0 < P.length := by rw [i]; simp
  have hp : g (t - 1) = true := by
   rcases t3 with t3 | t3
   ·omega
   ·exact t3
  have o := vE (A8 S i)
  rw [show P.length - 1 = t - 1 - (pre.length + 1) by omega] at o
  simp only [g, o] at hp
  exact .inl hp
 ·intro A' z s B' i d
  have Z : z = x := by
   cases A' with
   | nil => simpa using i.symm
   | cons _ A' => simp at i
  rw [Z]
  have O : 0 < S.length := by rw [d]; simp
  have hp : g t = false := by
   rcases t4 with t4 | t4
   ·omega
   ·exact t4
  have o := vE (AZ P d)
  rw [L] at o
  simp only [g, o] at hp
  exact .inr ⟨hp, W s (by rw [d]; simp)⟩
theorem O8 (h : SWO (mo c)) (O : Au f c G) (y : Formula × Nat) (A : List (Formula × Nat)) (pre post : List Formula) (a m : Int) (I : mZ (mo c) A) (T : ∀ x ∈ A, x.2 < y.2) (r : ∀ x ∈ y :: A, G x.1) (Q : (pre ++ (A.map (·.1) ++ y.1 :: post)).length ≤ 400000) (ha : a = (pre.length : Int)) (hm : m = ((pre.length + A.length : Nat) : Int)) :
  ∃ u, jV (pre ++ (A.map (·.1) ++ y.1 :: post)) m f jB a m = some (pre ++ (u.map (·.1) ++ post)) ∧ mZ (mo c) u ∧ u.Perm (A ++ [y]) := by
 have o := Q
 simp only [aC, aH, cU] at o
 let g : Nat → Bool := fun k => match (A.map (·.1))[k - pre.length]? with | some x => !mo c y.1 x | none => false
 have i : ∀ k, pre.length ≤ k → k < pre.length + A.length → Ask (pre ++ (A.map (·.1) ++ y.1 :: post)) f m (k : Int) (!g k) := by
  intro k h1 Y
  obtain ⟨x, p, v⟩ := Jf pre (A.map (·.1)) (y.1 :: post) k h1 (by simp; omega)
  have w : kp (pre ++ (A.map (·.1) ++ y.1 :: post)) m = some y.1 := by
   have := lV (pre ++ A.map (·.1)) y.1 post m (by rw [hm]; simp)
   simpa using this
  have U : G x := by
   obtain ⟨q, R, rfl⟩ := bG.1 (cX p)
   exact r q (by simp [R])
  refine ⟨y.1, x, _, w, v, O y.1 x (r y (by simp)) U, ?_⟩
  simp only [g, p, gd]
 obtain ⟨t, Z, t1, t2, t3, t4, e⟩ := Qi (f := f) _ m g pre.length (pre.length + A.length) (by omega) i A.length jB pre.length (pre.length + A.length) (by omega) (by rw [ll]; omega) (aQ _) (by omega) (aQ _) (.inl rfl) (.inl rfl)
 rw [← hm, ← ha] at e
 rw [e, jV]
 simp only [Int.lt_irrefl, bW, aB, aF, nq]
 obtain ⟨P, S, rfl, J⟩ := tW (l := A) (n := t - pre.length) (by omega)
 simp only [aC] at o t2 t4 hm
 have E : pre ++ ((P ++ S).map (·.1) ++ y.1 :: post) = (pre ++ P.map (·.1)) ++ (S.map (·.1) ++ y.1 :: post) := by simp
 rw [E, P9 y.1 S.length (S.map (·.1)) (pre ++ P.map (·.1)) post jB m (t : Int) (by simp) (by rw [ll]; omega) (by simp; omega) (by rw [hm]; simp; omega) (by simp; omega)]
 refine ⟨P ++ y :: S, by simp, Fk h I ?_ ?_, List.perm_middle.trans (fk y (P ++ S)).symm⟩
 ·intro A' z s B' b d
  simp only [cM] at d
  rw [← d.1]
  have L : 0 < P.length := by rw [b]; simp
  have hp : g (t - 1) = true := by
   rcases t3 with t3 | t3
   ·omega
   ·exact t3
  have j := vE (A8 S b)
  rw [show P.length - 1 = t - 1 - pre.length by omega] at j
  simp only [g, j, fe] at hp
  exact .inr ⟨hp, T z (by rw [b]; simp)⟩
 ·intro A' z s B' b d
  have W : z = y := by
   cases A' with
   | nil => simpa using b.symm
   | cons _ A' => simp at b
  rw [W]
  have M : 0 < S.length := by rw [d]; simp
  have hp : g t = false := by
   rcases t4 with t4 | t4
   ·omega
   ·exact t4
  have j := vE (AZ P d)
  rw [J] at j
  simp only [g, j, Bool.not_eq_false'] at hp
  exact .inl hp
theorem KR {α : Type} {A1 A2 B1 B2 C1 C2 : List α} (b : C1.Perm (A1 ++ B1)) (c : C2.Perm (A2 ++ B2)) : (C1 ++ C2).Perm ((A1 ++ A2) ++ (B1 ++ B2)) := by
 refine (b.append c).trans ?_
 simp only [aI]
 refine bR A1 ?_
 exact fb B1 A2 B2
def Mn (c : Formula → Formula → Int) (A B : List Formula) (b d p q : Nat) : Bool := match A[q - b]?, B[p - q - d]? with | some x, some y => !mo c y x | _, _ => false
theorem Gz {A B : List Formula} {b d p q : Nat} {x y : Formula} (h1 : A[q - b]? = some x) (g : B[p - q - d]? = some y) : Mn c A B b d p q = !mo c y x := by simp only [Mn, h1, g]
theorem PK (n : Au f c G) (A B : List (Formula × Nat)) (pre post : List Formula) (b p : Nat) (o : b = pre.length + A.length) (i : ∀ x ∈ A ++ B, G x.1) (q : Nat) (t : pre.length ≤ q) (u : q < b) (v : b ≤ p - q) (w : p - q < b + B.length) :
  Ask (pre ++ (A.map (·.1) ++ (B.map (·.1) ++ post))) f ((p - q : Nat) : Int) (q : Int) (!Mn c (A.map (·.1)) (B.map (·.1)) pre.length b p q) := by
 obtain ⟨x, h, j⟩ := Jf pre (A.map (·.1)) (B.map (·.1) ++ post) q t (by simp; omega)
 obtain ⟨y, d, l⟩ := Jf (pre ++ A.map (·.1)) (B.map (·.1)) post (p - q) (by simp; omega) (by simp; omega)
 have r : G x := by
  obtain ⟨z, g, rfl⟩ := bG.1 (cX h)
  exact i z (by simp [g])
 have s : G y := by
  obtain ⟨z, g, rfl⟩ := bG.1 (cX d)
  exact i z (by simp [g])
 have m : kp (pre ++ (A.map (·.1) ++ (B.map (·.1) ++ post))) ((p - q : Nat) : Int) = some y := by simpa using l
 refine ⟨y, x, _, m, j, n y x s r, ?_⟩
 rw [show p - q - (pre ++ A.map (·.1)).length = p - q - b by simp; omega] at d
 rw [Gz h d, gd]
abbrev Qf (c : Formula → Formula → Int) (G : Formula → Prop) (f : Formula × Formula → Option Int) (rec : List Formula → Int → Int → Int → ((Formula × Formula) → Option Int) → Option (List Formula)) (k : Nat) : Prop :=
 ∀ (A B : List (Formula × Nat)) (pre post : List Formula) (a m b : Int), A.length + B.length ≤ k → 0 < A.length → 0 < B.length → mZ (mo c) A → mZ (mo c) B →
  (∀ x ∈ A, ∀ y ∈ B, x.2 < y.2) → (∀ x ∈ A ++ B, G x.1) → (pre ++ (A.map (·.1) ++ (B.map (·.1) ++ post))).length ≤ 400000 → a = (pre.length : Int) → m = ((pre.length + A.length : Nat) : Int) → b = ((pre.length + A.length + B.length : Nat) : Int) →
  ∃ u, rec (pre ++ (A.map (·.1) ++ (B.map (·.1) ++ post))) a m b f = some (pre ++ (u.map (·.1) ++ post)) ∧ mZ (mo c) u ∧ u.Perm (A ++ B)
theorem NW (h : SWO (mo c)) {rec : List Formula → Int → Int → Int → ((Formula × Formula) → Option Int) → Option (List Formula)} {k : Nat} (ih : Qf c G f rec k) (A1 A2 B1 B2 : List (Formula × Nat)) (pre post : List Formula) (a m b : Int) (mid d t : Nat) (O : d = pre.length + (A1.length + A2.length)) (Q : mid = (pre.length + (d + (B1.length + B2.length))) / 2) (L : A1.length = t - pre.length) (M : B1.length = mid - t) (R : pre.length ≤ t) (T : t ≤ mid) (U : t ≤ d) (hk : A1.length + A2.length + (B1.length + B2.length) ≤ k + 1) (P : 2 ≤ A1.length + A2.length + (B1.length + B2.length)) (o : mZ (mo c) (A1 ++ A2)) (p : mZ (mo c) (B1 ++ B2)) (J : ∀ x ∈ A1 ++ A2, ∀ y ∈ B1 ++ B2, x.2 < y.2) (I : ∀ x ∈ (A1 ++ A2) ++ (B1 ++ B2), G x.1) (hl : pre.length + (A1.length + A2.length + (B1.length + B2.length + post.length)) ≤ 400000) (ha : a = (pre.length : Int)) (hm : m = (d : Int)) (hb : b = ((d + (B1.length + B2.length) : Nat) : Int)) (W : Lk (mo c) A1 B2) (Y : Lk (mo c) B1 A2) :
  ∃ u, ((if t < d ∧ d < mid + d - t then lH (pre ++ ((A1 ++ A2).map (·.1) ++ ((B1 ++ B2).map (·.1) ++ post))) (t : Int) m ((mid + d - t : Nat) : Int) f else some (pre ++ ((A1 ++ A2).map (·.1) ++ ((B1 ++ B2).map (·.1) ++ post)))).bind fun l =>
   ((if a < (t : Int) ∧ t < mid then rec l a (t : Int) (mid : Int) f else some l).bind fun l => if mid < mid + d - t ∧ ((mid + d - t : Nat) : Int) < b then rec l (mid : Int) ((mid + d - t : Nat) : Int) b f else some l)) = some (pre ++ (u.map (·.1) ++ post)) ∧ mZ (mo c) u ∧ u.Perm ((A1 ++ A2) ++ (B1 ++ B2)) := by
 have Z : (if t < d ∧ d < mid + d - t then lH (pre ++ ((A1 ++ A2).map (·.1) ++ ((B1 ++ B2).map (·.1) ++ post))) (t : Int) m ((mid + d - t : Nat) : Int) f else some (pre ++ ((A1 ++ A2).map (·.1) ++ ((B1 ++ B2).map (·.1) ++ post)))) =
   some (pre ++ (A1.map (·.1) ++ (B1.map (·.1) ++ (A2.map (·.1) ++ (B2.map (·.1) ++ post))))) := by
  by_cases i : t < d ∧ d < mid + d - t
  ·rw [aW i]
   have := P8 (f := f) (A2.map (·.1)) (B1.map (·.1)) (pre ++ A1.map (·.1)) (B2.map (·.1) ++ post) (t : Int) m ((mid + d - t : Nat) : Int) (by simp; omega) (by simp; omega) (by simp; omega) (by simp; omega) (by simp; omega) (by simp; omega)
   simpa using this
  ·rw [aU i]
   have : A2 = [] ∨ B1 = [] := by
    by_cases h1 : A2.length = 0
    ·exact .inl (aN h1)
    ·exact .inr (aN (by omega))
   rcases this with rfl | rfl <;> simp
 rw [Z, aA]
 have r2 : ∃ C1, (if a < (t : Int) ∧ t < mid then rec (pre ++ (A1.map (·.1) ++ (B1.map (·.1) ++ (A2.map (·.1) ++ (B2.map (·.1) ++ post))))) a (t : Int) (mid : Int) f else some (pre ++ (A1.map (·.1) ++ (B1.map (·.1) ++ (A2.map (·.1) ++ (B2.map (·.1) ++ post)))))) =
   some (pre ++ (C1.map (·.1) ++ (A2.map (·.1) ++ (B2.map (·.1) ++ post)))) ∧ mZ (mo c) C1 ∧ C1.Perm (A1 ++ B1) := by
  by_cases i : a < (t : Int) ∧ t < mid
  ·rw [aW i]
   exact ih A1 B1 pre (A2.map (·.1) ++ (B2.map (·.1) ++ post)) a t mid (by omega) (by omega) (by omega) o.left p.left (fun x g y z => J x (by simp [g]) y (by simp [z])) (fun x g => I x (by simp at g ⊢; rcases g with g | g <;> simp [g]))
    (by simp; omega) ha (by omega) (by omega)
  ·rw [aU i]
   refine ⟨A1 ++ B1, by simp, GG h o.left p.left (fun A' x y B' A E => ?_), .refl _⟩
   have g1 : 0 < A1.length := by rw [A]; simp
   have g2 : 0 < B1.length := by rw [E]; simp
   omega
 obtain ⟨C1, q, s, j⟩ := r2
 have r := j.length_eq
 simp only [aC] at r
 rw [q, aA]
 have r3 : ∃ C2, (if mid < mid + d - t ∧ ((mid + d - t : Nat) : Int) < b then rec (pre ++ (C1.map (·.1) ++ (A2.map (·.1) ++ (B2.map (·.1) ++ post)))) (mid : Int) ((mid + d - t : Nat) : Int) b f else some (pre ++ (C1.map (·.1) ++ (A2.map (·.1) ++ (B2.map (·.1) ++ post))))) =
   some ((pre ++ C1.map (·.1)) ++ (C2.map (·.1) ++ post)) ∧ mZ (mo c) C2 ∧ C2.Perm (A2 ++ B2) := by
  by_cases i : mid < mid + d - t ∧ ((mid + d - t : Nat) : Int) < b
  ·rw [aW i]
   have := ih A2 B2 (pre ++ C1.map (·.1)) post mid ((mid + d - t : Nat) : Int) b (by omega) (by omega) (by omega) o.right p.right (fun x g y z => J x (by simp [g]) y (by simp [z])) (fun x g => I x (by simp at g ⊢; rcases g with g | g <;> simp [g]))
    (by simp; omega) (by simp; omega) (by simp; omega) (by simp; omega)
   simpa using this
  ·rw [aU i]
   refine ⟨A2 ++ B2, by simp, GG h o.right p.right (fun A' x y B' A E => ?_), .refl _⟩
   have g1 : 0 < A2.length := by rw [A]; simp
   have g2 : 0 < B2.length := by rw [E]; simp
   omega
 obtain ⟨C2, v, w, n⟩ := r3
 rw [v]
 exact ⟨C1 ++ C2, by simp, M7 h o p W Y j n s w, KR j n⟩
theorem LC (F : Nat) (J : 1000000 < F) (L : List Formula) (rec : List Formula → Int → Int → Int → ((Formula × Formula) → Option Int) → Option (List Formula)) (pl g h mid c p : Nat) (a b m : Int) (r : Nat → Bool) (w : 0 < g) (y : 0 < h) (E : pl + (g + h) ≤ 400000) (A : mid = (pl + (pl + g + h)) / 2) (z : c = pl + g) (hp : p + 1 = mid + c) (n : a + b = ((2 * mid : Nat) : Int) ∨ a + b = ((2 * mid + 1 : Nat) : Int)) (ha : a = (pl : Int)) (l : m = (c : Int)) (M : b = ((pl + g + h : Nat) : Int)) (i : ∀ q, pl ≤ q → q < c → c ≤ p - q → p - q < c + h → Ask L f ((p - q : Nat) : Int) (q : Int) (!r q)) :
  ∃ t o d s : Nat, (d = pl ∧ s = c ∧ c ≤ mid ∨ d + (pl + g + h) = mid + c ∧ s = mid ∧ mid < c) ∧ d ≤ t ∧ t ≤ s ∧ (t = d ∨ r (t - 1) = true) ∧ (t = s ∨ r t = false) ∧
    ((if decide (m > (mid : Int)) then some (wi0 .i64 (((mid + c : Nat) : Int) - b), (mid : Int)) else some (a, m) : Option (Int × Int)).bind fun x => jI L a b m f rec F x.1 x.2) =
     jI L a b m f rec (o + 1) (t : Int) (t : Int) := by
 by_cases v : mid < c
 ·obtain ⟨d, u⟩ : ∃ d : Nat, d + (pl + g + h) = mid + c := ⟨mid + c - (pl + g + h), by omega⟩
  obtain ⟨t, o, t1, t2, t3, t4, e⟩ := Pu (f := f) L a b m rec mid c p n l hp r d mid (by omega) (by omega) (by omega) (by omega) (fun q G I => i q (by omega) (by omega) (by omega) (by omega))
   (mid - d) F d mid (aQ _) (by omega) (aQ _) (by omega) (aQ _) (.inl rfl) (.inl rfl)
  refine ⟨t, o, d, mid, .inr ⟨u, rfl, v⟩, t1, t2, t3, t4, ?_⟩
  have j : m > (mid : Int) := by omega
  simp only [j, bP, aJ, aA]
  rw [mr d (by omega) (by omega), e]
 ·obtain ⟨t, o, t1, t2, t3, t4, e⟩ := Pu (f := f) L a b m rec mid c p n l hp r pl c (by omega) (by omega) (by omega) (by omega) (fun q G I => i q (by omega) (by omega) (by omega) (by omega))
   (c - pl) F pl c (aQ _) (by omega) (aQ _) (by omega) (aQ _) (.inl rfl) (.inl rfl)
  refine ⟨t, o, pl, c, .inl ⟨rfl, rfl, by omega⟩, t1, t2, t3, t4, ?_⟩
  have j : ¬ (m > (mid : Int)) := by omega
  simp only [j, bW, aB, aF, aA]
  rw [← e, ← ha, ← l]
set_option maxHeartbeats 2000000 in
theorem PL (h : SWO (mo c)) (hf : Au f c G) : ∀ (k : Nat) (A B : List (Formula × Nat)) (pre post : List Formula) (n : Nat) (a m b : Int), A.length + B.length ≤ k → 0 < A.length → 0 < B.length → k < n → mZ (mo c) A → mZ (mo c) B →
  (∀ x ∈ A, ∀ y ∈ B, x.2 < y.2) → (∀ x ∈ A ++ B, G x.1) → (pre ++ (A.map (·.1) ++ (B.map (·.1) ++ post))).length ≤ 400000 → a = (pre.length : Int) → m = ((pre.length + A.length : Nat) : Int) → b = ((pre.length + A.length + B.length : Nat) : Int) →
  ∃ u, kj n (pre ++ (A.map (·.1) ++ (B.map (·.1) ++ post))) a m b f = some (pre ++ (u.map (·.1) ++ post)) ∧ mZ (mo c) u ∧ u.Perm (A ++ B) := by
 intro k
 induction k with
 | zero => intro A B pre post n a m b h0 h1 h2; omega
 | succ k ih =>
  intro A B pre post n a m b h0 h1 h2 hn hA hB U T hl ha hm O
  obtain ⟨n, rfl⟩ := aK (by omega : n ≠ 0)
  have P := hl
  simp only [aC, cU] at P
  rw [kj]
  unfold nJ
  by_cases c1 : A.length = 1
  ·obtain ⟨x, rfl⟩ := List.length_eq_one_iff.1 c1
   have : (wi0 .i64 (m - a) == 1) = true := by rw [mr 1 (by simp at hm; omega) (by omega)]; rfl
   simp only [this, aJ]
   obtain ⟨u, u1, u2, u3⟩ := OY h hf x B pre post a m b hB (fun y hy => U x (by simp) y hy) (fun y hy => T y (by simpa using hy)) (by simpa using hl) ha (by simpa using hm) (by simpa using O)
   exact ⟨u, by simpa using u1, u2, by simpa using u3⟩
  have n1 : (wi0 .i64 (m - a) == 1) = false := by rw [mr A.length (by omega) (by omega)]; simp; omega
  simp only [n1, aB, aF]
  by_cases c2 : B.length = 1
  ·obtain ⟨y, rfl⟩ := List.length_eq_one_iff.1 c2
   have : (wi0 .i64 (b - m) == 1) = true := by rw [mr 1 (by simp at O; omega) (by omega)]; rfl
   simp only [this, aJ]
   obtain ⟨u, u1, u2, u3⟩ := O8 h hf y A pre post a m hA (fun x W => U x W y (by simp)) (fun x W => T x (by simp at W ⊢; exact W.symm)) (by simpa using hl) ha hm
   exact ⟨u, by simpa using u1, u2, u3⟩
  have n2 : (wi0 .i64 (b - m) == 1) = false := by rw [mr B.length (by omega) (by omega)]; simp; omega
  simp only [n2, aB, aF]
  obtain ⟨F, hF, Z⟩ : ∃ F, F = jB ∧ 1000000 < F := ⟨jB, rfl, by rw [ll]; omega⟩
  rw [← hF]
  obtain ⟨mid, E⟩ : ∃ mid : Nat, mid = (pre.length + (pre.length + A.length + B.length)) / 2 := ⟨_, rfl⟩
  obtain ⟨d, j⟩ : ∃ d : Nat, d = pre.length + A.length := ⟨_, rfl⟩
  obtain ⟨p, hp⟩ : ∃ p : Nat, p + 1 = mid + d := ⟨mid + d - 1, by omega⟩
  have v : a + b = ((2 * mid : Nat) : Int) ∨ a + b = ((2 * mid + 1 : Nat) : Int) := by omega
  have I : wi0 .i64 (Int.fdiv (IntKind.u64.wrap (wi0 .i64 (a + b))) (2 ^ min (Int.toNat 1) (IntKind.bits .u64))) = (mid : Int) := by
   rcases v with h | h
   ·rw [AP _ h (by omega), show 2 * mid / 2 = mid by omega]
   ·rw [AP _ h (by omega), show (2 * mid + 1) / 2 = mid by omega]
  have w : m = (d : Int) := by omega
  have w1 : wi0 .i64 ((mid : Int) + m) = ((mid + d : Nat) : Int) := mr _ (by omega) (by omega)
  obtain ⟨J, o⟩ : ∃ J : Nat → Bool, J = Mn c (A.map (·.1)) (B.map (·.1)) pre.length d p := ⟨_, rfl⟩
  have M : ∀ q, pre.length ≤ q → q < d → d ≤ p - q → p - q < d + B.length → Ask (pre ++ (A.map (·.1) ++ (B.map (·.1) ++ post))) f ((p - q : Nat) : Int) (q : Int) (!J q) := fun q g i q3 q4 => by rw [o]; exact PK hf A B pre post d p j T q g i q3 q4
  obtain ⟨t, n', lo, hi, a1, t1, t2, t3, t4, e⟩ := LC (f := f) F Z (pre ++ (A.map (·.1) ++ (B.map (·.1) ++ post))) (kj n) pre.length A.length B.length mid d p a b m J (by omega) (by omega) (by omega) E j hp v ha w O M
  simp only [I, w1]
  rw [e, Of (f := f) _ a b m _ mid d t n' v w (by omega) (by omega) (by omega)]
  obtain ⟨A1, A2, rfl, L⟩ := tW (l := A) (n := t - pre.length) (by omega)
  obtain ⟨B1, B2, rfl, Y⟩ := tW (l := B) (n := mid - t) (by omega)
  simp only [aC] at h0 h1 h2 P t1 t2 t3 t4 a1 hm O j E
  have Q : ∀ q x y, ((A1 ++ A2).map (·.1))[q - pre.length]? = some x → ((B1 ++ B2).map (·.1))[p - q - d]? = some y → J q = !mo c y x := fun q x y r s => by rw [o]; exact Gz r s
  have l1 : Lk (mo c) A1 B2 := by
   intro A' z b' B' g i
   have g1 : 0 < A1.length := by rw [g]; simp
   have g2 : 0 < B2.length := by rw [i]; simp
   have R : J (t - 1) = true := by
    rcases t3 with t3 | t3
    ·omega
    ·exact t3
   have r := vE (A8 A2 g)
   have s := vE (AZ B1 i)
   rw [show A1.length - 1 = t - 1 - pre.length by omega] at r
   rw [show B1.length = p - (t - 1) - d by omega] at s
   rw [Q _ _ _ r s, fe] at R
   exact .inr ⟨R, U z (by rw [g]; simp) b' (by rw [i]; simp)⟩
  have l2 : Lk (mo c) B1 A2 := by
   intro A' z b' B' g i
   have g1 : 0 < B1.length := by rw [g]; simp
   have g2 : 0 < A2.length := by rw [i]; simp
   have R : J t = false := by
    rcases t4 with t4 | t4
    ·omega
    ·exact t4
   have r := vE (A8 B2 g)
   have s := vE (AZ A1 i)
   rw [show B1.length - 1 = p - t - d by omega] at r
   rw [L] at s
   rw [Q _ _ _ s r, Bool.not_eq_false'] at R
   exact .inl R
  exact NW h (fun A B pre post a m b g i q3 => ih A B pre post n a m b g i q3 (by omega)) A1 A2 B1 B2 pre post a m b mid d t j (by rw [E]; congr 1; omega) L Y (by omega) (by omega) (by omega) (by omega) (by omega) hA hB U T (by omega) ha w (by rw [O]; congr 1; omega) l1 l2
end
section
variable {c : Formula → Formula → Int} {G : Formula → Prop} {f : Formula × Formula → Option Int}
def uJ (c : Formula → Formula → Int) : Nat → List (List (Formula × Nat)) → Prop
 | _, [] => True
 | o, A :: bs => mZ (mo c) A ∧ (∀ x ∈ A, o ≤ x.2 ∧ x.2 < o + A.length) ∧ uJ c (o + A.length) bs
def WB (s : Nat) : List (List (Formula × Nat)) → Prop
 | [] => True
 | A :: bs => A.length ≤ s ∧ (bs ≠ [] → A.length = s) ∧ WB s bs
theorem uJ.append : ∀ {ds bs : List (List (Formula × Nat))} {o : Nat}, uJ c o (ds ++ bs) ↔ uJ c o ds ∧ uJ c (o + ds.flatten.length) bs
 | [], bs, o => by simp [uJ]
 | A :: ds, bs, o => by
  simp only [bJ, uJ, uJ.append (ds := ds), bH, aC, and_assoc, dT]
def fm (bs : List (List (Formula × Nat))) : List Formula := bs.flatten.map (·.1)
theorem FA (a b : List (List (Formula × Nat))) : fm (a ++ b) = fm a ++ fm b := by simp [fm]
theorem H5 (A : List (Formula × Nat)) (b : List (List (Formula × Nat))) : fm (A :: b) = A.map (·.1) ++ fm b := by simp [fm]
theorem pB (a : List (List (Formula × Nat))) : (fm a).length = a.flatten.length := by unfold fm; rw [cU]
theorem Kq (ds : List (List (Formula × Nat))) (C : List (Formula × Nat)) : (ds ++ [C]).flatten.length = ds.flatten.length + C.length := by rw [cE, aC]; simp only [bH, cV, aT]
theorem NF (C : List (Formula × Nat)) (bs : List (List (Formula × Nat))) : fm ([C] ++ bs) = C.map (·.1) ++ fm bs := by simp [fm]
theorem CN {R : List Formula} {o : Nat} {x : Formula × Nat} (h : x ∈ R.zipIdx o) : x.1 ∈ R := List.fst_mem_of_mem_zipIdx h
theorem WB.two {s : Nat} {A : List (Formula × Nat)} {bs : List (List (Formula × Nat))} (g : 0 < s) (h : WB s (A :: bs)) (d : s < (A :: bs).flatten.length) : A.length = s ∧ ∃ B b, bs = B :: b ∧ (B.length = s ∨ b = []) ∧ B.length ≤ s ∧ WB s b := by
 cases bs with
 | nil => simp at d; have := h.1; omega
 | cons B b =>
  refine ⟨h.2.1 (by simp), B, b, rfl, ?_, h.2.2.1, h.2.2.2.2⟩
  by_cases c : b = []
  ·exact .inr c
  ·exact .inl (h.2.2.2.1 c)
theorem G6 (h : SWO (mo c)) (u : Au f c G) {ds bs : List (List (Formula × Nat))} {A B : List (Formula × Nat)} (hO : uJ c 0 (ds ++ A :: B :: bs)) (s : ∀ x ∈ (ds ++ A :: B :: bs).flatten, G x.1) (i : (fm (ds ++ A :: B :: bs)).length ≤ 400000) (q : 0 < A.length) (r : 0 < B.length) (a m b : Int) (ha : a = (ds.flatten.length : Int)) (hm : m = ((ds.flatten.length + A.length : Nat) : Int)) (t : b = ((ds.flatten.length + A.length + B.length : Nat) : Int)) :
  ∃ C, kj jB (fm (ds ++ A :: B :: bs)) a m b f = some (fm ((ds ++ [C]) ++ bs)) ∧ uJ c 0 ((ds ++ [C]) ++ bs) ∧ C.Perm (A ++ B) := by
 obtain ⟨h1, p⟩ := uJ.append.1 hO
 obtain ⟨I, n, J, o, v⟩ := p
 have e : fm (ds ++ A :: B :: bs) = fm ds ++ (A.map (·.1) ++ (B.map (·.1) ++ fm bs)) := by rw [FA, H5, H5]
 rw [e] at i ⊢
 have j := i
 simp only [aC, cU, pB] at j
 obtain ⟨C, z, E, l⟩ := PL h u (A.length + B.length) A B (fm ds) (fm bs) jB a m b (aQ _) q r (by rw [ll]; omega) I J (fun x d y w => by have := (n x d).2; have := (o y w).1; omega)
  (fun x d => s x (by
   rw [cE, bH, bH, aO, aO, aO]
   rcases aO.1 d with d | d
   ·exact .inr (.inl d)
   ·exact .inr (.inr (.inl d)))) i (by rw [ha, pB]) (by rw [hm, pB]) (by rw [t, pB])
 have g := l.length_eq
 simp only [aC] at g
 refine ⟨C, by rw [z, aI, FA, NF], ?_, l⟩
 ·rw [aI, uJ.append]
  refine ⟨h1, E, fun x d => ?_, ?_⟩
  ·rcases aO.1 (l.mem_iff.1 d) with d | d
   ·have := n x d; omega
   ·have := o x d; omega
  ·rw [g, ← dT]; exact v
theorem G7 {ds bs : List (List (Formula × Nat))} {A B C : List (Formula × Nat)} (h : C.Perm (A ++ B)) : ((ds ++ [C]) ++ bs).flatten.Perm (ds ++ A :: B :: bs).flatten := by
 simp only [cE, bH, cV, aT, aI]
 refine bR _ ?_
 rw [← aI]
 exact h.append_right _
theorem M1 (h : SWO (mo c)) (P : Au f c G) (s : Nat) (R : 0 < s) (T : s ≤ 1000000) (N : Nat) (hN : N ≤ 400000) : ∀ (k : Nat) (bs ds : List (List (Formula × Nat))) (n : Nat) (a b : Int), bs.length ≤ k → k < n → uJ c 0 (ds ++ bs) → (∀ x ∈ (ds ++ bs).flatten, G x.1) → (ds ++ bs).flatten.length = N → WB s bs → (∀ A ∈ ds, A.length = 2 * s) →
  a = (ds.flatten.length : Int) → b = ((ds.flatten.length + 2 * s : Nat) : Int) →
  ∃ es r, lz (N : Int) (s : Int) f n (fm (ds ++ bs)) a b = some (fm (es ++ r), (es.flatten.length : Int)) ∧ uJ c 0 (es ++ r) ∧ (es ++ r).flatten.Perm (ds ++ bs).flatten ∧ WB s r ∧ r.flatten.length < 2 * s ∧ (∀ A ∈ es, A.length = 2 * s) := by
 intro k
 induction k with
 | zero =>
  intro bs ds n a b hk Q hO p j q l ha M
  obtain ⟨n, rfl⟩ := aK (by omega : n ≠ 0)
  obtain rfl := aN (Nat.le_zero.1 hk)
  simp only [aT] at j
  rw [lz]
  have : ¬ (b ≤ (N : Int)) := by omega
  simp only [this, bW, aB, aF]
  exact ⟨ds, [], by rw [ha], hO, .refl _, trivial, by simp only [cV, bN]; omega, l⟩
 | succ k ih =>
  intro bs ds n a b hk Q hO p j q l ha M
  obtain ⟨n, rfl⟩ := aK (by omega : n ≠ 0)
  rw [lz]
  by_cases hle : b ≤ (N : Int)
  ·simp only [hle, bP, aJ]
   have d := j
   rw [cE, aC] at d
   cases bs with
   | nil => simp only [cV, bN] at d; omega
   | cons A bs =>
    obtain ⟨hA, B, i, rfl, m, J, t⟩ := WB.two R q (by omega)
    have L : B.length = s := by
     rcases m with m | rfl
     ·exact m
     ·simp only [bH, cV, aT, aC] at d; omega
    have Z : wi0 .i64 (a + (s : Int)) = ((ds.flatten.length + A.length : Nat) : Int) := mr _ (by omega) (by omega)
    obtain ⟨C, W, Y, u⟩ := G6 h P hO p (by rw [pB]; omega) (by omega) (by omega) a _ b ha Z (by omega)
    rw [W, aA]
    have o := u.length_eq
    simp only [aC] at o
    have w2 : wi0 .i64 (2 * (s : Int)) = ((2 * s : Nat) : Int) := mr _ (by omega) (by omega)
    have O : (ds ++ [C]).flatten.length = ds.flatten.length + 2 * s := by rw [Kq]; omega
    have w3 : wi0 .i64 (b + ((2 * s : Nat) : Int)) = (((ds ++ [C]).flatten.length + 2 * s : Nat) : Int) := mr _ (by omega) (by omega)
    have hp := G7 (ds := ds) (bs := i) u
    rw [w2, w3]
    obtain ⟨es, r, v, w, y, z, E, I⟩ := ih i (ds ++ [C]) n b _ (by simp at hk; omega) (by omega) Y (fun x U => p x (hp.mem_iff.1 U)) (by rw [hp.length_eq, j]) t (fun X g => by
     rcases aO.1 g with g | g
     ·exact l X g
     ·simp at g; rw [g]; omega) (by rw [O]; omega) rfl
    exact ⟨es, r, v, w, y.trans hp, z, E, I⟩
  ·simp only [hle, bW, aB, aF]
   refine ⟨ds, bs, by rw [ha], hO, .refl _, q, ?_, l⟩
   rw [cE, aC] at j
   omega
theorem WB.D2 {t : Nat} : ∀ {es : List (List (Formula × Nat))} {C : List (Formula × Nat)}, (∀ A ∈ es, A.length = t) → C.length ≤ t → WB t (es ++ [C])
 | [], C, _, b => ⟨b, fun h => absurd rfl h, trivial⟩
 | E :: es, C, h, b => ⟨by rw [h E (by simp)]; omega, fun _ => h E (by simp), WB.D2 (fun A c => h A (by simp [c])) b⟩
theorem JE {s : Nat} {r : List (List (Formula × Nat))} {o : Nat} (d : WB s r) (g : r.flatten.length ≤ s) (hO : uJ c o r) : mZ (mo c) r.flatten ∧ ∀ x ∈ r.flatten, o ≤ x.2 ∧ x.2 < o + r.flatten.length := by
 cases r with
 | nil => exact ⟨.nil, fun x h => by cases h⟩
 | cons A r =>
  have : r.flatten = [] := by
   by_cases b : r = []
   ·rw [b]; rfl
   ·have := d.2.1 b
    rw [bH, aC] at g
    exact aN (by omega)
  rw [bH, this, aT]
  exact ⟨hO.1, hO.2.1⟩
theorem KY (h : SWO (mo c)) (U : Au f c G) (N : Nat) (hN : N ≤ 400000) : ∀ (k s : Nat) (bs : List (List (Formula × Nat))) (n : Nat), N - s ≤ k → k < n → 0 < s → s ≤ 1000000 → uJ c 0 bs → (∀ x ∈ bs.flatten, G x.1) → bs.flatten.length = N → WB s bs →
  ∃ u, kM (N : Int) f n (fm bs) (s : Int) = some (u.map (·.1)) ∧ mZ (mo c) u ∧ u.Perm bs.flatten := by
 intro k
 induction k with
 | zero =>
  intro s bs n hk hn I o hO m j d
  obtain ⟨n, rfl⟩ := aK (by omega : n ≠ 0)
  rw [kM]
  have : ¬ ((s : Int) < (N : Int)) := by omega
  simp only [this, bW, aB, aF]
  refine ⟨bs.flatten, rfl, ?_, .refl _⟩
  cases bs with
  | nil => exact .nil
  | cons A bs =>
   have : bs.flatten = [] := by
    by_cases g : bs = []
    ·rw [g]; rfl
    ·have := d.2.1 g
     rw [bH, aC] at j
     exact aN (by omega)
   rw [bH, this, aT]
   exact hO.1
 | succ k ih =>
  intro s bs n hk hn I o hO m j d
  by_cases a8 : s < N
  ·obtain ⟨n, rfl⟩ := aK (by omega : n ≠ 0)
   rw [kM]
   have : ((s : Int) < (N : Int)) := by omega
   simp only [this, bP, aJ]
   have w1 : wi0 .i64 (2 * (s : Int)) = ((2 * s : Nat) : Int) := mr _ (by omega) (by omega)
   have w0 : wi0 .i64 ((s : Int) * 2) = ((2 * s : Nat) : Int) := mr _ (by omega) (by omega)
   have a7 : bs.length ≤ 2000000 := by
    have : ∀ {bs : List (List (Formula × Nat))}, WB s bs → bs.length ≤ bs.flatten.length + 1 := by
     intro bs
     induction bs with
     | nil => intro _; simp
     | cons A bs J =>
      intro d
      by_cases g : bs = []
      ·subst g; simp
      ·have := d.2.1 g
       have := J d.2.2
       simp only [aH, bH, aC]
       omega
    have := this d
    omega
   obtain ⟨es, r, O, P, b, Q, R, T⟩ := M1 h U s I o N hN bs.length bs [] jB 0 ((2 * s : Nat) : Int) (aQ _) (by rw [ll]; omega) (by simpa using hO) (by simpa using m) (by simpa using j) d (by simp) rfl (by simp)
   simp only [aX] at O b
   rw [w1, O, aA, w0]
   have l := b.length_eq
   rw [j, cE, aC] at l
   have w2 : wi0 .i64 ((es.flatten.length : Int) + (s : Int)) = ((es.flatten.length + s : Nat) : Int) := mr _ (by omega) (by omega)
   simp only [w2]
   by_cases hm : es.flatten.length + s < N
   ·have : (((es.flatten.length + s : Nat) : Int) < (N : Int)) := by omega
    simp only [this, bP, aJ, nq]
    cases r with
    | nil => simp only [cV, bN] at l; omega
    | cons A r =>
     obtain ⟨hA, B, Z, rfl, q, a1, a6⟩ := WB.two I Q (by omega)
     have E : Z = [] := by
      rcases q with q | q
      ·by_cases hr : Z = []
       ·exact hr
       ·simp only [bH, aC] at R; omega
      ·exact q
     subst E
     simp only [bH, cV, aT, aC] at l R
     obtain ⟨C, q1, W, Y⟩ := G6 h U P (fun x p => m x (b.mem_iff.1 p)) (by rw [pB, b.length_eq]; omega) (by omega) (by omega) (es.flatten.length : Int) ((es.flatten.length + s : Nat) : Int) (N : Int) rfl (by omega) (by omega)
     rw [q1, aA]
     have v := Y.length_eq
     simp only [aC] at v
     have hp := (G7 (ds := es) (bs := []) Y).trans b
     simp only [aT] at W hp ⊢
     obtain ⟨u, L, M, t⟩ := ih (2 * s) (es ++ [C]) n (by omega) (by omega) (by omega) (by omega) W (fun x p => m x (hp.mem_iff.1 p)) (by rw [hp.length_eq, j]) (WB.D2 T (by omega))
     exact ⟨u, L, M, t.trans hp⟩
   ·have : ¬ (((es.flatten.length + s : Nat) : Int) < (N : Int)) := by omega
    simp only [this, bW, aB, aF, aA]
    obtain ⟨w, y⟩ := uJ.append.1 P
    obtain ⟨b1, b2⟩ := JE Q (by omega) y
    have z : fm (es ++ r) = fm (es ++ [r.flatten]) := by simp [fm]
    have i : (es ++ [r.flatten]).flatten = (es ++ r).flatten := by simp
    rw [z]
    obtain ⟨u, L, M, t⟩ := ih (2 * s) (es ++ [r.flatten]) n (by omega) (by omega) (by omega) (by omega) (uJ.append.2 ⟨w, b1, b2, trivial⟩) (fun x p => m x (b.mem_iff.1 (by rw [← i]; exact p))) (by rw [i, b.length_eq, j]) (WB.D2 T (by omega))
    exact ⟨u, L, M, by rw [i] at t; exact t.trans b⟩
  ·obtain ⟨n, rfl⟩ := aK (by omega : n ≠ 0)
   rw [kM]
   have : ¬ ((s : Int) < (N : Int)) := by omega
   simp only [this, bW, aB, aF]
   refine ⟨bs.flatten, rfl, ?_, .refl _⟩
   cases bs with
   | nil => exact .nil
   | cons A bs =>
    have : bs.flatten = [] := by
     by_cases g : bs = []
     ·rw [g]; rfl
     ·have := d.2.1 g
      rw [bH, aC] at j
      exact aN (by omega)
    rw [bH, this, aT]
    exact hO.1
theorem E1 : ∀ (l : List Formula) (o : Nat), (l.zipIdx o).Pairwise (fun x y => x.2 < y.2)
 | [], o => by simp
 | x :: l, o => by
  rw [iA, bZ]
  refine ⟨fun y c => ?_, E1 l (o + 1)⟩
  obtain ⟨a, b⟩ := y
  have := List.le_snd_of_mem_zipIdx c
  simp only at this ⊢; omega
theorem Im (l : List Formula) (o : Nat) : ∀ x ∈ l.zipIdx o, o ≤ x.2 ∧ x.2 < o + l.length := by
 rintro ⟨a, b⟩ c
 have h1 := List.le_snd_of_mem_zipIdx c
 have d := List.snd_lt_add_of_mem_zipIdx c
 simp only at h1 d ⊢; omega
theorem Ka (h : SWO (mo c)) (l : Au f c G) (N : Nat) (s : N ≤ 300000) (R : List Formula) (ds : List (List (Formula × Nat))) (n : Nat) (a b : Int) (y : 0 < n) (hO : uJ c 0 ds) (o : ∀ A ∈ ds, A.length = 20) (p : ∀ x ∈ ds.flatten, G x.1) (j : ∀ x ∈ R, G x) (w : ds.flatten.length + R.length = N) (q : R.length < 20) (ha : a = (ds.flatten.length : Int)) (t : b = ((ds.flatten.length + 20 : Nat) : Int)) :
  ∃ u, kK (N : Int) f n (fm ds ++ R) a b = some (u.map (·.1)) ∧ mZ (mo c) u ∧ u.Perm (ds.flatten ++ R.zipIdx ds.flatten.length) := by
 obtain ⟨n, rfl⟩ := aK (by omega : n ≠ 0)
 rw [kK]
 have hle : ¬ (b ≤ (N : Int)) := by omega
 simp only [hle, bW, aB, aF, nq]
 obtain ⟨u, m, r, g⟩ := Io h l (fm ds) [] (R.zipIdx ds.flatten.length) a (N : Int) (E1 _ _) (fun x d => j x.1 (CN d)) (by simp only [aC, pB, cU, eb, bN]; omega) (by rw [pB]; exact ha) (by rw [pB, eb]; omega)
 rw [List.zipIdx_map_fst, aT, aT] at m
 have i := g.length_eq
 rw [eb] at i
 have e : fm ds ++ u.map (·.1) = fm (ds ++ [u]) := by simp [fm]
 have hp : (ds ++ [u]).flatten.Perm (ds.flatten ++ R.zipIdx ds.flatten.length) := by
  rw [cE]
  refine bR _ ?_
  simpa using g
 rw [m, aA, e]
 obtain ⟨v, v1, v2, v3⟩ := KY h l N (by omega) N 20 (ds ++ [u]) jB (by omega) (by rw [ll]; omega) (by omega) (by omega) (uJ.append.2 ⟨hO, r, fun x d => by have := Im R ds.flatten.length x (g.mem_iff.1 d); omega, trivial⟩) (fun x d => by
  rw [cE, aO] at d
  rcases d with d | d
  ·exact p x d
  ·simp only [bH, cV, aT] at d
   exact j x.1 (CN (g.mem_iff.1 d))) (by rw [hp.length_eq, aC, eb]; omega) (WB.D2 o (by omega))
 exact ⟨v, v1, v2, v3.trans hp⟩
theorem Lx (h : SWO (mo c)) (t : Au f c G) (N : Nat) (z : N ≤ 300000) : ∀ (k : Nat) (R : List Formula) (ds : List (List (Formula × Nat))) (n : Nat) (a b : Int), R.length ≤ k → k < n → uJ c 0 ds → (∀ A ∈ ds, A.length = 20) → (∀ x ∈ ds.flatten, G x.1) → (∀ x ∈ R, G x) → ds.flatten.length + R.length = N →
  a = (ds.flatten.length : Int) → b = ((ds.flatten.length + 20 : Nat) : Int) →
  ∃ u, kK (N : Int) f n (fm ds ++ R) a b = some (u.map (·.1)) ∧ mZ (mo c) u ∧ u.Perm (ds.flatten ++ R.zipIdx ds.flatten.length) := by
 intro k
 induction k with
 | zero =>
  intro R ds n a b hk E hO o p j q ha s
  obtain rfl := aN (Nat.le_zero.1 hk)
  exact Ka h t N z [] ds n a b E hO o p j q (by simp) ha s
 | succ k ih =>
  intro R ds n a b hk E hO o p j q ha s
  by_cases y : R.length < 20
  ·exact Ka h t N z R ds n a b (by omega) hO o p j q y ha s
  obtain ⟨n, rfl⟩ := aK (by omega : n ≠ 0)
  obtain ⟨R1, R2, rfl, m⟩ := tW (l := R) (n := 20) (by omega)
  rw [aC] at q hk
  rw [kK]
  have hle : b ≤ (N : Int) := by omega
  simp only [hle, bP, aJ]
  obtain ⟨u, I, J, r⟩ := Io h t (fm ds) R2 (R1.zipIdx ds.flatten.length) a b (E1 _ _) (fun x d => j x.1 (by simp [CN d])) (by simp only [aC, pB, cU, eb, bN]; omega) (by rw [pB]; exact ha) (by rw [pB, eb]; omega)
  rw [List.zipIdx_map_fst] at I
  rw [I, aA]
  have g := r.length_eq
  rw [eb, m] at g
  have w : (ds ++ [u]).flatten.length = ds.flatten.length + 20 := by rw [Kq, g]
  have L : wi0 .i64 (b + 20) = (((ds ++ [u]).flatten.length + 20 : Nat) : Int) := mr _ (by omega) (by omega)
  have e : fm ds ++ (u.map (·.1) ++ R2) = fm (ds ++ [u]) ++ R2 := by simp [fm]
  rw [e, L]
  obtain ⟨v, v1, v2, v3⟩ := ih R2 (ds ++ [u]) n b _ (by omega) (by omega) (uJ.append.2 ⟨hO, J, fun x d => by have := Im R1 ds.flatten.length x (r.mem_iff.1 d); omega, trivial⟩) (fun A i => by
   rcases aO.1 i with i | i
   ·exact o A i
   ·simp at i; rw [i]; exact g) (fun x d => by
   rw [cE, aO] at d
   rcases d with d | d
   ·exact p x d
   ·simp only [bH, cV, aT] at d
    exact j x.1 (by simp [CN (r.mem_iff.1 d)])) (fun x d => j x (by simp [d])) (by omega) (by omega) rfl
  refine ⟨v, v1, v2, v3.trans ?_⟩
  rw [w, cE, List.zipIdx_append, m, aI]
  refine bR _ ?_
  simp only [bH, cV, aT]
  exact r.append_right _
theorem IV (h : SWO (mo c)) (i : Au f c G) (l : List Formula) (g : ∀ x ∈ l, G x) (j : l.length ≤ 300000) : nx l f = some (Hd (mo c) l) := by
 unfold nx pe
 obtain ⟨u, b, m, d⟩ := Lx h i l.length j l.length l [] jB 0 20 (aQ _) (by rw [ll]; omega) trivial (by simp) (by simp) g (by simp) rfl rfl
 simp only [fm, cV, eo, aX, bN] at b d
 rw [b, aA, M0 h m d]
end
theorem IQ {P : Formula → Prop} (h : ∀ f, (∀ k ∈ f.Kids, P k) → P f) : ∀ f, P f := by
 intro f
 refine Formula.rec (motive_1 := P) (motive_2 := fun c => ∀ k ∈ c, P k) ?_ ?_ ?_ f
 ·intro o k r c ih; exact h _ ih
 ·intro k hk; cases hk
 ·intro k c h1 d x b
  rcases aM.1 b with rfl | b
  ·exact h1
  ·exact d x b
mutual
def jE : Formula → Nat
 | ⟨_, _, _, ks⟩ => 1 + nodesL ks
def nodesL : List Formula → Nat
 | [] => 0
 | k :: ks => jE k + nodesL ks
end
mutual
def mJ : Formula → Nat
 | ⟨_, _, _, ks⟩ => deepL ks + 1
def deepL : List Formula → Nat
 | [] => 0
 | k :: ks => max (mJ k) (deepL ks)
end
theorem ni (f : Formula) : jE f = 1 + nodesL f.Kids := by cases f; rw [jE]
theorem lL (f : Formula) : mJ f = deepL f.Kids + 1 := by cases f; rw [mJ]
theorem qH : ∀ {b : List Formula} {k : Formula}, k ∈ b → jE k ≤ nodesL b
 | x :: b, k, h => by
  rw [nodesL]
  rcases aM.1 h with rfl | h
  ·omega
  ·have := qH h; omega
theorem pg : ∀ {b : List Formula} {k : Formula}, k ∈ b → mJ k ≤ deepL b
 | x :: b, k, h => by
  rw [deepL]
  rcases aM.1 h with rfl | h
  ·omega
  ·have := pg h; omega
theorem uC : ∀ f : Formula, mJ f ≤ jE f := by
 refine IQ fun f ih => ?_
 rw [lL, ni]
 have : ∀ b : List Formula, (∀ k ∈ b, mJ k ≤ jE k) → deepL b ≤ nodesL b := by
  intro b
  induction b with
  | nil => intro _; rw [deepL]; omega
  | cons k b c =>
   intro h
   have := c (fun x d => h x (by simp [d]))
   have := h k (by simp)
   rw [deepL, nodesL]; omega
 have := this f.Kids ih
 omega
theorem ol : ∀ b : List Formula, b.length ≤ nodesL b
 | [] => by rw [nodesL]; simp
 | k :: b => by have := ol b; have := ni k; rw [nodesL, aH]; omega
theorem JA (b : Nat) (hm : b ≤ 4096) (rec : Formula → Int → Option (Int × Int)) : ∀ (c : List Formula), (∀ k ∈ c, ∀ q : Nat, q ≤ 4096 → ∃ n d : Nat, rec k (q : Int) = some ((n : Int), (d : Int)) ∧ 1 ≤ n ∧ n ≤ jE k ∧ d ≤ jE k ∧ (jE k ≤ q → n = jE k ∧ d = mJ k) ∧ (q < jE k → q < n)) → ∀ x y : Nat, x + nodesL c ≤ 100000000 →
  ∃ n d : Nat, nR (b : Int) rec c (x : Int) (y : Int) = some ((n : Int), (d : Int)) ∧ x ≤ n ∧ n ≤ x + nodesL c ∧ d ≤ max y (nodesL c) ∧ (x + nodesL c ≤ b → n = x + nodesL c ∧ d = max y (deepL c)) ∧ (b < x + nodesL c → b < n)
 | [], _, x, y, _ => by
  rw [nR, nodesL, deepL]
  exact ⟨x, y, rfl, by omega, by omega, by omega, fun _ => ⟨by omega, by omega⟩, fun h => by omega⟩
 | k :: c, i, x, y, p => by
  rw [nodesL] at p ⊢
  rw [nR, deepL]
  by_cases j : (x : Int) > (b : Int)
  ·simp only [j, bP, aJ]
   exact ⟨x, y, rfl, by omega, by omega, by omega, fun _ => by omega, fun h => by omega⟩
  ·simp only [j, bW, aB, aF]
   have s : wi0 .i64 ((b : Int) - (x : Int)) = ((b - x : Nat) : Int) := by rw [kk (by omega) (by omega)]; omega
   obtain ⟨m, d, e, h1, v, w, g, o⟩ := i k (by simp) (b - x) (by omega)
   rw [s, e, aA]
   have t : wi0 .i64 ((x : Int) + (m : Int)) = ((x + m : Nat) : Int) := by rw [kk (by omega) (by omega)]; omega
   have u : (if (d : Int) > (y : Int) then (d : Int) else (y : Int)) = ((max y d : Nat) : Int) := by split <;> omega
   simp only [t, u]
   obtain ⟨n, l, e', g1, g2, g3, g4, g5⟩ := JA b hm rec c (fun z r => i z (by simp [r])) (x + m) (max y d) (by omega)
   refine ⟨n, l, e', by omega, by omega, by omega, fun h => ?_, fun h => ?_⟩
   ·obtain ⟨rfl, rfl⟩ := g (by omega)
    obtain ⟨rfl, rfl⟩ := g4 (by omega)
    exact ⟨by omega, by omega⟩
   ·by_cases hk : b - x < jE k
    ·have := o hk; omega
    ·obtain ⟨rfl, _⟩ := g (by omega)
     exact g5 (by omega)
theorem LB : ∀ (n : Nat) (f : Formula), mJ f ≤ n → jE f ≤ 50000000 → ∀ q : Nat, q ≤ 4096 → ∃ m d : Nat, na n f (q : Int) = some ((m : Int), (d : Int)) ∧ 1 ≤ m ∧ m ≤ jE f ∧ d ≤ jE f ∧ (jE f ≤ q → m = jE f ∧ d = mJ f) ∧ (q < jE f → q < m) := by
 intro n
 induction n with
 | zero => intro f h; rw [lL] at h; omega
 | succ n ih =>
  intro f i r q b
  rw [lL] at i
  have j := ni f
  rw [na]
  unfold sV
  obtain ⟨m, d, e, h1, o, p, c, g⟩ := JA q b (na n) f.Kids (fun k hk q b => ih k (by have := pg hk; omega) (by have := qH hk; omega) q b) 1 0 (by omega)
  have e' : nR (q : Int) (na n) f.Kids 1 0 = some ((m : Int), (d : Int)) := e
  rw [e', aA]
  have l : wi0 .i64 ((d : Int) + 1) = ((d + 1 : Nat) : Int) := by rw [kk (by omega) (by omega)]; omega
  simp only [l]
  refine ⟨m, d + 1, rfl, h1, by omega, by omega, fun h => ?_, fun h => g (by omega)⟩
  obtain ⟨rfl, rfl⟩ := c (by omega)
  rw [lL]
  exact ⟨by omega, by omega⟩
theorem MI (f : Formula) (g : jE f ≤ 50000000) : ul f = some (if jE f ≤ 4096 then ((jE f : Int), (mJ f : Int)) else (0, 0)) := by
 unfold ul
 have := uC f
 obtain ⟨m, d, e, h1, i, j, b, c⟩ := LB jB f (by rw [ll]; omega) g 4096 (aQ _)
 have e' : na jB f 4096 = some ((m : Int), (d : Int)) := e
 rw [e', aA]
 by_cases h : jE f ≤ 4096
 ·obtain ⟨rfl, rfl⟩ := b h
  have : ¬ ((jE f : Int) > 4096) := by omega
  simp [this, h]
 ·have := c (by omega)
  have : ((m : Int) > 4096) := by omega
  simp [this, h]
def nK : iX := ⟨zS, zS⟩
def zo (f : Formula) : Bool := if f.Op = 1 then kR f.iX && decide (f.Kids.length = 0) && decide (f.K = 0) else if f.Op = 2 ∨ f.Op = 3 then jr f.iX nK && decide (f.K = 0) else decide (f.Op = 4) && jr f.iX nK && decide (0 ≤ f.K) && decide (f.K ≤ (f.Kids.length : Int)) && decide (1 ≤ f.Kids.length)
theorem M9 (f : Formula) : uD f = some (zo f) := by
 unfold uD zo
 simp only [wk, aA, nq]
 by_cases h1 : f.Op = 1
 ·simp only [h1, aS, aJ]
  cases o : kR f.iX
  ·simp
  ·by_cases j : f.Kids.length = 0
   ·have : f.Kids = [] := aN j
    by_cases hk : f.K = 0 <;> simp [this, hk]
   ·have : ((f.Kids.length : Int) == 0) = false := by simp; intro h; exact j (by simp [h])
    simp only [aJ, aA, this, aB, aF, j, bW, Bool.and_false, eJ]
 ·have m : (f.Op == 1) = false := by simpa using h1
  simp only [m, aB, aF, h1]
  by_cases c : f.Op = 2 ∨ f.Op = 3
  ·have g : (if f.Op == 2 then some (f.Op == 2) else some (f.Op == 3)) = some true := by
    rcases c with h | h <;> simp [h]
   simp only [g, aA, aJ, c]
   cases d : jr f.iX ⟨zS, zS⟩ <;> by_cases hk : f.K = 0 <;> simp [nK, d, hk]
  ·have g : (if f.Op == 2 then some (f.Op == 2) else some (f.Op == 3)) = some false := by
    have a : f.Op ≠ 2 := fun h => c (.inl h)
    have b : f.Op ≠ 3 := fun h => c (.inr h)
    simp [a, b]
   simp only [g, aA, aB, aF, c]
   by_cases i : f.Op = 4
   ·simp only [i, aS, aJ, aA, bP, dq]
    cases d : jr f.iX ⟨zS, zS⟩
    ·simp [nK, d]
    ·by_cases c1 : 0 ≤ f.K <;> by_cases c2 : f.K ≤ (f.Kids.length : Int) <;> by_cases l : 1 ≤ f.Kids.length <;> simp [nK, d, c1, c2, l] <;> omega
   ·have n : (f.Op == 4) = false := by simpa using i
    simp [n, i]
mutual
def qz : Formula → Bool
 | ⟨o, n, r, ks⟩ => zo ⟨o, n, r, ks⟩ && decide (ks.length ≤ 8) && wellL ks
def wellL : List Formula → Bool
 | [] => true
 | k :: ks => qz k && wellL ks
end
theorem A0 (f : Formula) : qz f = (zo f && decide (f.Kids.length ≤ 8) && wellL f.Kids) := by cases f; rw [qz]
theorem B4 : ∀ b : List Formula, wellL b = b.all qz
 | [] => rfl
 | k :: b => by rw [wellL, B4 b]; rfl
theorem HE (f : Formula → Option Bool) : ∀ (l : List Formula) (i : Nat), me f l i = wh f l i
 | [], i => by rw [me]; rfl
 | x :: l, i => by
  rw [me, wh]
  cases f x with
  | none => rfl
  | some b =>
   simp only [aA]
   rw [HE f l (i + 1)]
theorem Da (f : Formula → Option Bool) (p : Formula → Bool) (l : List Formula) (h : ∀ x ∈ l, f x = some (p x)) : mP l f = some (l.any p) := by
 unfold mP qo
 rw [HE]
 rcases yA f p l 0 h with ⟨e, h1⟩ | ⟨A, x, B, rfl, h1, b, e⟩
 ·rw [e, aA]
  have : l.any p = false := by rw [List.any_eq_false]; intro x c; rw [h1 x c]; simp
  rw [this]; rfl
 ·rw [e, aA]
  have : (A ++ x :: B).any p = true := by simp [b]
  rw [this]
  congr 1
theorem Lu : ∀ (n : Nat) (f : Formula), mJ f ≤ n → po n f = some (qz f) := by
 intro n
 induction n with
 | zero => intro f h; rw [lL] at h; omega
 | succ n ih =>
  intro f h
  rw [lL] at h
  rw [po]
  unfold sY
  rw [M9, aA, A0, Da _ (fun k => !qz k) f.Kids (fun k hk => by unfold rK; rw [ih k (by have := pg hk; omega)]; rfl)]
  rw [B4]
  have e : (!(f.Kids.any fun k => !qz k)) = f.Kids.all qz := by rw [List.all_eq_not_any_not]
  cases zo f
  ·rfl
  ·by_cases b : f.Kids.length ≤ 8
   ·have : ((f.Kids.length : Int) ≤ 8) := by omega
    simp [b, this, e]
   ·have : ¬ ((f.Kids.length : Int) ≤ 8) := by omega
    simp [b, this]
def mw (f : Formula) : Bool := decide (jE f ≤ 64) && decide (mJ f ≤ 6) && qz f
theorem Bp (f : Formula) (b : jE f ≤ 50000000) : pn f = some (mw f) := by
 unfold pn mw
 have c := uC f
 rw [MI f b, aA, Lu jB f (by rw [ll]; omega)]
 have h1 := ni f
 by_cases h : jE f ≤ 4096
 ·simp only [h, aJ]
  have a : ((jE f : Int) ≥ 1) := by omega
  simp only [a, bP, aJ, aA, nq]
  by_cases c1 : jE f ≤ 64 <;> by_cases c2 : mJ f ≤ 6
  ·have d1 : ((jE f : Int) ≤ 64) := by omega
   have d2 : ((mJ f : Int) ≤ 6) := by omega
   simp [c1, c2, d1, d2]
  ·have d1 : ((jE f : Int) ≤ 64) := by omega
   have d2 : ¬ ((mJ f : Int) ≤ 6) := by omega
   simp [c1, c2, d1, d2]
  ·have d1 : ¬ ((jE f : Int) ≤ 64) := by omega
   simp [c1, d1]
  ·have d1 : ¬ ((jE f : Int) ≤ 64) := by omega
   simp [c1, d1]
 ·simp only [h, aF]
  have : ¬ jE f ≤ 64 := by omega
  simp [this]
theorem Formula.ext' {a b : Formula} (h1 : a.Op = b.Op) (c : a.K = b.K) (d : a.iX = b.iX) (g : a.Kids = b.Kids) : a = b := by
 cases a; cases b; simp only at h1 c d g; subst h1 c d g; rfl
theorem Kj (g : Formula × Formula → Option Bool) : ∀ (l m : List Formula), l.length = m.length → (∀ x ∈ l, ∀ y, ∃ b, g (x, y) = some b ∧ (b = true ↔ x = y)) → ∀ (A : List Formula),
  ∃ b, jS (A ++ m) g l A.length = some b ∧ (b = true ↔ l = m)
 | [], m, d, _, A => by
  obtain rfl := aN d.symm
  exact ⟨true, rfl, by simp⟩
 | x :: l, [], d, _, A => by simp at d
 | x :: l, y :: m, d, i, A => by
  rw [jS]
  obtain ⟨b, e, h⟩ := i x (by simp) y
  have i1 : kp (A ++ y :: m) (A.length : Int) = some y := lV _ _ _ _ rfl
  rw [i1, aA, e, aA]
  cases b with
  | false =>
   refine ⟨false, rfl, ?_⟩
   have : x ≠ y := fun c => by have := h.2 c; simp at this
   simp [this]
  | true =>
   have c := h.1 rfl
   obtain ⟨b, j, p⟩ := Kj g l m (by simpa using d) (fun z q => i z (by simp [q])) (A ++ [y])
   simp only [bQ, aB, aF]
   have n : A ++ y :: m = (A ++ [y]) ++ m := by simp
   have o : A.length + 1 = (A ++ [y]).length := by simp
   rw [n, o, j]
   exact ⟨b, rfl, by rw [p]; simp [c]⟩
theorem MZ : ∀ (n : Nat) (f : Formula), mJ f ≤ n → ∀ g, ∃ b, mE n f g = some b ∧ (b = true ↔ f = g) := by
 intro n
 induction n with
 | zero => intro f h; rw [lL] at h; omega
 | succ n ih =>
  intro f h g
  rw [lL] at h
  rw [mE]
  unfold tD
  by_cases h1 : f.Op = g.Op
  ·by_cases c : f.K = g.K
   ·by_cases d : f.iX = g.iX
    ·have j : jr f.iX g.iX = true := js.2 d
     simp only [h1, c, j, aS, aJ, aA]
     unfold lE
     by_cases i : f.Kids.length = g.Kids.length
     ·have : ((f.Kids.length : Int) != (g.Kids.length : Int)) = false := by simp [i]
      simp only [this, aB, aF]
      obtain ⟨b, e, o⟩ := Kj (fun x => mE n x.1 x.2) f.Kids g.Kids i (fun x p y => ih x (by have := pg p; omega) y) []
      simp only [aX, bN] at e
      rw [e]
      refine ⟨b, by simp, o.trans ⟨fun hk => Formula.ext' h1 c d hk, fun hk => by rw [hk]⟩⟩
     ·have : ((f.Kids.length : Int) != (g.Kids.length : Int)) = true := by simp; omega
      simp only [this, aJ]
      exact ⟨false, rfl, by simp; intro hk; rw [hk] at i; exact i rfl⟩
    ·have j : jr f.iX g.iX = false := by rw [← fq, js]; exact d
     simp only [h1, c, j, aS, aJ, aA, aB, aF]
     exact ⟨false, rfl, by simp; intro hk; rw [hk] at d; exact d rfl⟩
   ·have m : (f.K == g.K) = false := by simpa using c
    simp only [h1, m, aS, aJ, aA, aB, aF]
    exact ⟨false, rfl, by simp; intro hk; rw [hk] at c; exact c rfl⟩
  ·have l : (f.Op == g.Op) = false := by simpa using h1
   simp only [l, aA, aB, aF]
   exact ⟨false, rfl, by simp; intro hk; rw [hk] at h1; exact h1 rfl⟩
def pC {α : Type} (R : α → Bool) (lt : α → α → Bool) (last : Option α) : List α → Bool → α → Bool × α
 | [], ok, b => (ok, b)
 | x :: xs, ok, b => if R x && last.all (fun y => lt y x) && (!ok || lt x b) then pC R lt last xs true x else pC R lt last xs ok b
def xK {α : Type} (w : Nat) (R : α → Bool) (lt : α → α → Bool) (d : α) (l : List α) : Nat → List α → Option (List α)
 | 0, _ => none
 | n + 1, out => if !(pC R lt out.getLast? l false d).1 then some out else (kN w out [(pC R lt out.getLast? l false d).2]).bind fun o => xK w R lt d l n o
section
variable {α : Type} {R : α → Bool} {lt : α → α → Bool}
theorem Cp (H : xN (fun a b => lt a b = true) (fun x => R x = true)) (last : Option α) : ∀ (l : List α) (ok : Bool) (b : α), (ok = true → R b = true ∧ last.all (fun y => lt y b) = true) →
  ((pC R lt last l ok b).1 = false → ok = false ∧ ∀ x ∈ l, R x = true → last.all (fun y => lt y x) = false) ∧
  ((pC R lt last l ok b).1 = true → R (pC R lt last l ok b).2 = true ∧ last.all (fun y => lt y (pC R lt last l ok b).2) = true ∧ ((pC R lt last l ok b).2 ∈ l ∨ (ok = true ∧ (pC R lt last l ok b).2 = b)) ∧
   (∀ x ∈ l, R x = true → last.all (fun y => lt y x) = true → lt x (pC R lt last l ok b).2 = false) ∧ (ok = true → lt b (pC R lt last l ok b).2 = false))
 | [], ok, b, j => by
  simp only [pC]
  exact ⟨fun h => ⟨h, by simp⟩, fun h => ⟨(j h).1, (j h).2, .inr ⟨h, trivial⟩, by simp, fun _ => by
   cases n : lt b b with
   | false => rfl
   | true => exact absurd n (H.irrefl b (j h).1)⟩⟩
 | x :: xs, ok, b, j => by
  rw [pC]
  by_cases m : (R x && last.all (fun y => lt y x) && (!ok || lt x b)) = true
  ·rw [aW m]
   simp only [aP, eQ, fe] at m
   obtain ⟨⟨w, s⟩, t⟩ := m
   obtain ⟨h1, r⟩ := Cp H last xs true x (fun _ => ⟨w, s⟩)
   refine ⟨fun h => ?_, fun h => ?_⟩
   ·cases (h1 h).1
   ·obtain ⟨p, a2, a3, a4, a5⟩ := r h
    refine ⟨p, a2, ?_, ?_, ?_⟩
    ·rcases a3 with a3 | ⟨_, a3⟩
     ·exact .inl (by simp [a3])
     ·exact .inl (by rw [a3]; simp)
    ·intro y g c d
     rcases aM.1 g with rfl | g
     ·exact a5 rfl
     ·exact a4 y g c d
    ·intro i
     cases n : lt b (pC R lt last xs true x).2 with
     | false => rfl
     | true =>
      have u : lt x b = true := by rcases t with h | h; rw [i] at h; cases h; exact h
      have := H.trans x b _ w (j i).1 p u n
      simp only [a5 rfl] at this
      cases this
  ·rw [aU m]
   obtain ⟨h1, r⟩ := Cp H last xs ok b j
   refine ⟨fun h => ⟨(h1 h).1, fun y g c => ?_⟩, fun h => ?_⟩
   ·rcases aM.1 g with rfl | g
    ·have i := (h1 h).1
     cases s : last.all (fun z => lt z y) with
     | false => rfl
     | true => exact absurd (by simp [c, s, i]) m
    ·exact (h1 h).2 y g c
   ·obtain ⟨p, a2, a3, a4, a5⟩ := r h
    refine ⟨p, a2, ?_, ?_, a5⟩
    ·rcases a3 with a3 | a3
     ·exact .inl (by simp [a3])
     ·exact .inr a3
    ·intro y g c d
     rcases aM.1 g with rfl | g
     ·cases n : lt y (pC R lt last xs ok b).2 with
      | false => rfl
      | true =>
       cases ok with
       | false => exact absurd (by simp [c, d]) m
       | true =>
        have v : lt y b = false := by
         cases A : lt y b with
         | false => rfl
         | true => exact absurd (by simp [c, d, A]) m
        have q := j rfl
        rcases H.total y b c q.1 with o | o | o
        ·rw [v] at o; cases o
        ·subst o; rw [a5 rfl] at n; cases n
        ·have := H.trans b y _ q.1 c p o n
         simp only [a5 rfl] at this
         cases this
     ·exact a4 y g c d
theorem rY (H : xN (fun a b => lt a b = true) (fun x => R x = true)) {l : List α} (d : ∀ x ∈ l, R x = true) (h : l.Pairwise (fun a b => lt a b = true)) : l.Nodup := by
 refine h.imp_of_mem (fun {a b} ha g c e => ?_)
 subst e
 exact H.irrefl a (d a ha) c
theorem lh : ∀ {l m : List α}, l.Nodup → (∀ x ∈ l, x ∈ m) → l.length ≤ m.length
 | [], _, _, _ => by simp
 | x :: l, m, g, c => by
  obtain ⟨A, B, rfl⟩ := List.append_of_mem (c x (by simp))
  have b := cT.1 g
  have := lh (l := l) (m := A ++ B) b.2 (fun y d => by
   have := c y (eB _ d)
   simp only [aO, aM] at this ⊢
   rcases this with h | h | h
   ·exact .inl h
   ·subst h; exact absurd d b.1
   ·exact .inr h)
  simp at this ⊢; omega
theorem zD (H : xN (fun a b => lt a b = true) (fun x => R x = true)) {w : Nat} (hw : w ≤ 1000) (d : α) (l : List α) (J : l.length ≤ 1000000000) : ∀ (n : Nat) (out : List α), l.length < n + out.length → out.Pairwise (fun a b => lt a b = true) → (∀ x ∈ out, x ∈ l ∧ R x = true) →
  (∀ x ∈ l, R x = true → x ∈ out ∨ out.getLast?.all (fun y => lt y x) = true) → ∃ s, xK w R lt d l n out = some s ∧ tP (fun a b => lt a b = true) (fun x => R x = true) l s
 | 0, out, L, hp, hm, u => by
  exfalso
  have := lh (rY H (fun x c => (hm x c).2) hp) (fun x c => (hm x c).1)
  omega
 | n + 1, out, L, hp, hm, u => by
  rw [xK]
  obtain ⟨h1, G⟩ := Cp H out.getLast? l false d (fun h => by cases h)
  have hlen := lh (rY H (fun x c => (hm x c).2) hp) (fun x c => (hm x c).1)
  cases E : (pC R lt out.getLast? l false d).1 with
  | false =>
   rw [aW (by simp)]
   refine ⟨out, rfl, hp, fun x => ⟨hm x, fun c => ?_⟩⟩
   rcases u x c.1 c.2 with h | h
   ·exact h
   ·rw [(h1 E).2 x c.1 c.2] at h; cases h
  | true =>
   rw [aU (by simp)]
   obtain ⟨r, a2, a3, a4, _⟩ := G E
   generalize (pC R lt out.getLast? l false d).2 = b at *
   have t : b ∈ l := by rcases a3 with h | ⟨h, _⟩; exact h; cases h
   have p : ∀ y ∈ out, lt y b = true := by
    intro y g
    obtain ⟨A, z, rfl⟩ : ∃ A z, out = A ++ [z] := by
     rcases cQ out with h | ⟨A, z, h⟩
     ·subst h; cases g
     ·exact ⟨A, z, by rw [h]; simp⟩
    simp at a2
    rcases aO.1 g with g | g
    ·have v : lt y z = true := (cL.1 hp).2.2 y g z (by simp)
     exact H.trans y z b (hm y (by simp [g])).2 (hm z (by simp)).2 r v a2
    ·simp at g; subst g; exact a2
   have q : (out ++ [b]).Pairwise (fun a b => lt a b = true) := cL.2 ⟨hp, by simp, fun x c y g => by simp at g; subst g; exact p x c⟩
   have m : ∀ x ∈ out ++ [b], x ∈ l ∧ R x = true := fun x c => by
    rcases aO.1 c with c | c
    ·exact hm x c
    ·simp at c; subst c; exact ⟨t, r⟩
   have j := lh (rY H (fun x c => (m x c).2) q) (fun x c => (m x c).1)
   simp at j
   rw [kQ (by simp only [aH, bN]; have : (out.length + (0 + 1)) * w ≤ 1000000000 * 1000 := Nat.mul_le_mul (by omega) hw; omega) (by simp; omega)]
   simp only [aA]
   refine zD H hw d l J n (out ++ [b]) (by simp; omega) q m (fun x c i => ?_)
   rcases u x c i with h | h
   ·exact .inl (by simp [h])
   ·have I := a4 x c i h
    rcases H.total x b i r with o | o | o
    ·rw [I] at o; cases o
    ·subst o; exact .inl (by simp)
    ·exact .inr (by simp [o])
end
theorem DF {α : Type} (A : List α) (x : α) (b : A.length < 4611686018427387904) : kp (A ++ [x]) (wi0 .i64 (((A ++ [x]).length : Int) - 1)) = some x := by
 rw [kk (by simp; try omega) (by simp; try omega)]
 rw [lV A x [] _ (by simp; try omega)]
theorem Dw (out : List iY) (m : out.length < 4611686018427387904) : ∀ (l : List iY) (ok : Bool) (b : iY), qP out l ok b = some (pC kG zb out.getLast? l ok b)
 | [], ok, b => rfl
 | x :: xs, ok, b => by
  rw [qP, pC]
  have cmp : ∀ a b, ∃ c, rJ a b = some c ∧ decide (c < 0) = zb a b := fun a b => by
   obtain ⟨c, h1, j⟩ := Cu a b
   exact ⟨c, h1, by rw [bF, ← j]; simp⟩
  rw [yX, Dw out m xs true x, Dw out m xs ok b]
  obtain ⟨c, h1, j⟩ := cmp x b
  rcases cQ out with h | ⟨A, z, h⟩
  ·subst h
   simp only [h1, aA, j, bN, Option.all, List.getLast?_nil]
   generalize zb x b = p
   cases kG x <;> cases ok <;> cases p <;> simp
  ·have i : out = A ++ [z] := by rw [h]; simp
   obtain ⟨t, r, s⟩ := cmp z x
   have d : out.getLast? = some z := by rw [i]; simp
   have g : kp out (wi0 .i64 ((out.length : Int) - 1)) = some z := by rw [i]; exact DF A z (by rw [i] at m; simp at m; omega)
   have n : ((out.length : Int) == 0) = false := by rw [i]; simp; omega
   rw [d]
   simp only [n, g, r, h1, aA, j, s, Option.all]
   rcases dK (zb x b) with hp | hp <;> rcases dK (zb z x) with o | o <;> rcases dK (kG x) with q | q <;> cases ok <;> simp [hp, o, q]
theorem P3 (a b : ByteArray) : (!(oJ a b || jP a b)) = oJ b a := by
 rcases xD a b with h | h | h
 ·simp [h, Fx h]
 ·subst h; simp [sP, qE]
 ·have c := Fx h
  have d : jP a b = false := Iv (by rintro rfl; rw [qE] at h; cases h)
  simp [h, c, d]
theorem J2 {s : ByteArray} (h : mx s = true) : jP s zS = false := Iv (fun e => by have := mY h; rw [e, Na] at this; omega)
theorem DP (out : List ByteArray) (n : out.length < 4611686018427387904) : ∀ (l : List ByteArray) (b : ByteArray),
  ∃ o, qM out l b = some o ∧ (pC mx oJ out.getLast? l (!jP b zS) b) = (!jP o zS, o)
 | [], b => ⟨b, rfl, rfl⟩
 | x :: xs, b => by
  rw [qM, pC]
  obtain ⟨w, u, d⟩ := DP out n xs x
  obtain ⟨y, v, j⟩ := DP out n xs b
  rw [vy, u, v]
  by_cases i : mx x = true
  ·rw [J2 i] at d
   simp only [cD] at d
   rcases cQ out with h | ⟨A, z, h⟩
   ·subst h
    simp only [aA, bN, Option.all, List.getLast?_nil, i] at *
    rw [d, j]
    generalize oJ x b = p
    generalize jP b zS = q
    cases p <;> cases q <;> simp
   ·have m : out = A ++ [z] := by rw [h]; simp
    have c : out.getLast? = some z := by rw [m]; simp
    have g : kp out (wi0 .i64 ((out.length : Int) - 1)) = some z := by rw [m]; exact DF A z (by rw [m] at n; simp at n; omega)
    have r : ((out.length : Int) == 0) = false := by rw [m]; simp; omega
    rw [c] at d j ⊢
    simp only [r, g, aA, Option.all, P3, i]
    rw [d, j]
    rcases dK (oJ x b) with hp | hp <;> rcases dK (oJ z x) with s | s <;> rcases dK (jP b zS) with t | t <;> simp [hp, s, t]
  ·simp only [fq] at i
   rw [i, j]
   simp
theorem Mb (a : List iY) : ∀ (n : Nat) (out s : List iY), xK 136 kG zb (⟨0, ⟨zS, zS⟩, zS, ⟨zS, zS⟩, ⟨zS, zS⟩, zS⟩ : iY) a n out = some s → s.length < 4611686018427387904 → ur a n out = some s ∧ out.length ≤ s.length
 | 0, out, s, h, _ => by cases h
 | n + 1, out, s, h, g => by
  rw [xK] at h
  rw [ur]
  have key : out.length ≤ s.length → qP out a false (⟨0, ⟨zS, zS⟩, zS, ⟨zS, zS⟩, ⟨zS, zS⟩, zS⟩ : iY) = _ := fun j => Dw out (by omega) a false _
  split at h
  ·rename_i h1
   cases h
   rw [key (aQ _)]
   simp only [aA]
   rw [aW h1]
   exact ⟨rfl, aQ _⟩
  ·rename_i h1
   obtain ⟨o, b, c⟩ := bind_some h
   have d := Mb a n o s c g
   have i : out.length + 1 = o.length := by
    unfold kN at b; split at b
    ·cases b; simp
    ·cases b
   rw [key (by omega)]
   simp only [aA]
   rw [aU h1, b]
   exact ⟨d.1, by omega⟩
theorem Ms (a : List ByteArray) : ∀ (n : Nat) (out s : List ByteArray), xK 16 mx oJ zS a n out = some s → s.length < 4611686018427387904 → uE a n out = some s ∧ out.length ≤ s.length
 | 0, out, s, h, _ => by cases h
 | n + 1, out, s, h, j => by
  rw [xK] at h
  rw [uE]
  have key : out.length ≤ s.length → ∃ c, qM out a zS = some c ∧ pC mx oJ out.getLast? a false zS = (!jP c zS, c) := fun m => by
   have := DP out (by omega) a zS
   rw [sP] at this
   exact this
  split at h
  ·rename_i h1
   cases h
   obtain ⟨c, d, k2⟩ := key (aQ _)
   rw [d]
   rw [k2] at h1
   simp only [aA]
   rw [aW (by simpa using h1)]
   exact ⟨rfl, aQ _⟩
  ·rename_i h1
   obtain ⟨o, b, g⟩ := bind_some h
   have i := Ms a n o s g j
   have l : out.length + 1 = o.length := by
    unfold kN at b; split at b
    ·cases b; simp
    ·cases b
   obtain ⟨c, d, k2⟩ := key (by omega)
   rw [d]
   rw [k2] at h1 b
   simp only [aA]
   rw [aU (by simpa using h1), b]
   exact ⟨i.1, by omega⟩
abbrev NB (l s : List ByteArray) := tP (fun a b => oJ a b = true) (fun x => mx x = true) l s
abbrev GM (l s : List iY) := tP (fun a b => zb a b = true) (fun x => kG x = true) l s
theorem yY {α : Type} {lt : α → α → Bool} {R : α → Bool} (H : xN (fun a b => lt a b = true) (fun x => R x = true)) {l s : List α} (h : tP (fun a b => lt a b = true) (fun x => R x = true) l s) : s.length ≤ l.length :=
 lh (rY H (fun x c => ((h.2 x).1 c).2) h.1) (fun x c => ((h.2 x).1 c).1)
theorem Ij (l : List iY) (c : l.length ≤ 1000000000) : ∃ s, xq l = some s ∧ GM l s := by
 obtain ⟨s, h1, b⟩ := zD AO (w := 136) (by omega) (⟨0, ⟨zS, zS⟩, zS, ⟨zS, zS⟩, ⟨zS, zS⟩, zS⟩ : iY) l c jB [] (by rw [uz]; omega) (by simp) (by simp) (fun x _ _ => .inr rfl)
 exact ⟨s, (Mb l jB [] s h1 (by have := yY AO b; omega)).1, b⟩
theorem MX (l : List ByteArray) (c : l.length ≤ 1000000000) : ∃ s, zP l = some s ∧ NB l s := by
 obtain ⟨s, h1, b⟩ := zD (Mp (fun x => mx x = true)) (w := 16) (by omega) zS l c jB [] (by rw [uz]; omega) (by simp) (by simp) (fun x _ _ => .inr rfl)
 exact ⟨s, (Ms l jB [] s h1 (by have := yY (Mp _) b; omega)).1, b⟩
def zC : iY := ⟨0, ⟨zS, zS⟩, zS, ⟨zS, zS⟩, ⟨zS, zS⟩, zS⟩
theorem Ib (f : iY → Option Bool) : ∀ (n : Nat) (l : List iY) (i j : Int), mz f n l i j = AR f zC n l i j
 | 0, _, _, _ => rfl
 | n + 1, l, i, j => by
  rw [mz, AR]
  simp only [Ib f n]
  rfl
theorem Ft (f : iY → Option Bool) : ∀ (l : List iY) (i : Nat), nt f l i = wh f l i
 | [], _ => rfl
 | x :: l, i => by rw [nt, wh]; simp only [Ft f l]
theorem L4 (f : iY → Option Bool) (l : List iY) : pu l f = Fo f zC l := by
 unfold pu Fo nW
 simp only [Ft, Ib]
theorem GA (i : Int) : ∀ (n : Nat) (l : List iY) (k j : Int), mV i n l k j = za kh i n l k j
 | 0, _, _, _ => rfl
 | n + 1, l, k, j => by
  rw [mV, za]
  simp only [GA i n]
theorem GY (l : List iY) : ∀ (n : Nat) (i : Int), mX l n i = zN kh zC l n i
 | 0, _ => rfl
 | n + 1, i => by
  rw [mX, zN]
  simp only [GY l n, GA]
  rfl
theorem LI (l : List iY) : qk l = Hw kh zC l := by
 unfold qk Hw
 simp only [GY]
theorem NR {l : List iY} (b : l.length ≤ 1000000000) : pG l = some l := by
 unfold pG
 rw [kQ (by simp; omega) (by simp; omega)]
 simp
theorem NI (l : List iY) (d : l.length ≤ 1000000000) : ∃ s, wA l = some s ∧ GM l s := by
 unfold wA
 rw [NR d]
 simp only [aA]
 rw [L4, Hk _ (fun x => !kG x) zC l (by omega) (fun x _ => by simp [vg, tL])]
 simp only [aA, gd]
 have i : (l.filter fun x => kG x).length ≤ l.length := ey _ _
 obtain ⟨s, h1, h, c⟩ := Dh (eq := kh) (lt := fun a b => zb a b = true) (P := fun x => kG x = true) (cf := fun x => qO x.1 x.2) (l := l.filter fun x => kG x) (fun x y => qa) AO (fun x g => (cN.1 g).2) (by omega) (fun x y _ _ => CO x y)
 rw [h1]
 simp only [aA]
 rw [LI, Hu _ _ _ (by omega)]
 refine ⟨_, rfl, c.1, fun x => ?_⟩
 rw [c.2]
 simp
def tt {κ : Type} (b : List κ) : List (κ × Bool) := b.map fun k => (k, true)
def nc {κ : Type} (beq : κ → κ → Bool) (b : List κ) (k : κ) : Bool := b.any fun x => beq k x
def ins {κ : Type} (beq : κ → κ → Bool) (b : List κ) (k : κ) : List κ := if nc beq b k then b else b ++ [k]
section
variable {κ : Type} {beq : κ → κ → Bool}
theorem vx (c : ∀ {x y}, beq x y = true ↔ x = y) (b : List κ) (k : κ) : nc beq b k = true ↔ k ∈ b := by
 simp [nc, dR, c]
theorem KD (b : List κ) : (tt b).length = b.length := by simp [tt]
theorem KQ (b : List κ) (k : κ) : xi beq (tt b) k false = nc beq b k := by
 unfold xi jX nc tt
 induction b with
 | nil => rfl
 | cons x xs ih =>
  simp only [bI, fF, eV]
  cases h : beq k x with
  | true => simp
  | false => simpa using ih
theorem Mx (m : ∀ {x y}, beq x y = true ↔ x = y) (b : List κ) (k : κ) : mS beq (tt b) k true = tt (ins beq b k) := by
 unfold mS ins
 have n : (tt b).findIdx? (fun p => beq k p.1) = b.findIdx? (fun x => beq k x) := by
  unfold tt; rw [fS]; rfl
 rw [n]
 cases h : b.findIdx? (fun x => beq k x) with
 | none =>
  rw [fu] at h
  rw [aU]
  ·simp [tt]
  ·intro d
   unfold nc at d
   rw [dR] at d
   obtain ⟨x, o, c⟩ := d
   rw [h x o] at c
   cases c
 | some i =>
  rw [dS] at h
  obtain ⟨l, h1, _⟩ := h
  have e := m.1 h1
  rw [aW]
  ·simp only [tt]
   apply ei
   intro j
   rw [eA]
   split
   ·rename_i g
    subst g
    simp [l, e]
   ·rfl
  ·unfold nc
   exact dR.2 ⟨b[i], List.getElem_mem l, h1⟩
end
section
variable {all : List iY} {wants : List iX} {T : List iX} {W : List ByteArray} {R : List iY}
def nk (c : iY) : List iX := if c.Kind = 1 then [] else if c.Kind = 4 then [c.B, c.C] else [c.B]
end
theorem As (x : iY) : ∀ l : List iY, tm l x = some (nc kh l x)
 | [] => rfl
 | y :: l => by
  have ih := As x l
  unfold tm at ih ⊢
  rw [wW, ih]
  have : kh y x = kh x y := by rw [bF, qa, qa]; exact eq_comm
  rw [this]
  simp only [nc, eV]
  cases kh x y <;> simp
theorem NA {c : iY} (h : kG c = true) : wm c = some (c.Head :: nk c) := by
 unfold wm
 rw [tL, h]
 simp only [aA, bQ, aB, aF]
 have b : c.Kind = 1 ∨ c.Kind = 2 ∨ c.Kind = 3 ∨ c.Kind = 4 := by rcases nr h with h | h | h | h <;> simp [h.1]
 rcases b with k | k | k | k
 ·simp [k, nk]
 ·rw [aW (by simp [k]), kQ (by simp) (by simp)]
  simp [k, nk]
 ·rw [aW (by simp [k]), kQ (by simp) (by simp)]
  simp [k, nk]
 ·rw [aW (by simp [k]), kQ (by simp) (by simp)]
  simp only [aA]
  rw [aW (by simp [k]), kQ (by simp) (by simp)]
  simp [k, nk]
theorem tP.congr {α : Type} {lt : α → α → Prop} {P : α → Prop} {l m s : List α} (h : tP lt P l s) (hm : ∀ x, x ∈ l ↔ x ∈ m) : tP lt P m s := ⟨h.1, fun x => by rw [h.2, hm]⟩
theorem MH {κ : Type} (b : List κ) : (tt b).map (·.1) = b := by simp [tt, eZ]
def DY (c : iY) : Nat := c.Head.ja.size + c.Head.Word.size + c.jM.size + c.B.ja.size + c.B.Word.size + c.C.ja.size + c.C.Word.size + c.ki.size
section
variable {κ γ : Type} {beq : κ → κ → Bool}
theorem pk (b : ∀ {x y}, beq x y = true ↔ x = y) {A B : List (κ × γ)} {k : κ} {x : γ} (c : ∀ p ∈ A, p.1 ≠ k) : jX beq (A ++ (k, x) :: B) k = some x := by
 unfold jX
 rw [ir]
 have : A.find? (fun p => beq k p.1) = none := fL.2 (fun p hp h => c p hp (b.1 h).symm)
 rw [this]
 simp [b.2 (rfl : k = k)]
theorem tk (b : ∀ {x y}, beq x y = true ↔ x = y) {l : List (κ × γ)} {k : κ} (h : ∀ p ∈ l, p.1 ≠ k) : jX beq l k = none := by
 unfold jX
 rw [fL.2 (fun p hp c => h p hp (b.1 c).symm)]
 rfl
theorem um (b : ∀ {x y}, beq x y = true ↔ x = y) {A B : List (κ × γ)} {k : κ} {x y : γ} (c : ∀ p ∈ A, p.1 ≠ k) : mS beq (A ++ (k, x) :: B) k y = A ++ (k, y) :: B := by
 have h1 : (A ++ (k, x) :: B).findIdx? (fun p => beq k p.1) = some A.length := by
  rw [gr, fu.2 (fun p hp => by
   cases h : beq k p.1 with
   | false => rfl
   | true => exact absurd (b.1 h).symm (c p hp))]
  simp [ew, b.2 (rfl : k = k)]
 rw [pf h1]
 simp
theorem AH (b : ∀ {x y}, beq x y = true ↔ x = y) {l : List (κ × γ)} {k : κ} {y : γ} (h : ∀ p ∈ l, p.1 ≠ k) : mS beq l k y = l ++ [(k, y)] := by
 refine sQ (fu.2 (fun p hp => ?_)) y
 cases c : beq k p.1 with
 | false => rfl
 | true => exact absurd (b.1 c).symm (h p hp)
theorem rR (k : κ) : ∀ (l : List (κ × γ)), (∀ p ∈ l, p.1 ≠ k) ∨ ∃ A x B, l = A ++ (k, x) :: B ∧ ∀ p ∈ A, p.1 ≠ k
 | [] => .inl (fun _ h => by cases h)
 | p :: l => by
  by_cases hp : p.1 = k
  ·exact .inr ⟨[], p.2, l, by rw [← hp]; rfl, fun _ h => by cases h⟩
  ·rcases rR k l with h | ⟨A, x, B, rfl, h⟩
   ·exact .inl (fun q b => by rcases aM.1 b with rfl | b; exact hp; exact h q b)
   ·exact .inr ⟨p :: A, x, B, rfl, fun q b => by rcases aM.1 b with rfl | b; exact hp; exact h q b⟩
theorem Dv (b : ∀ {x y}, beq x y = true ↔ x = y) (A B : List (κ × γ)) (k : κ) : jX beq (A ++ B) k = (jX beq A k).or (jX beq B k) := by
 unfold jX
 rw [ir]
 cases A.find? (fun p => beq k p.1) <;> rfl
theorem zr (p : κ × γ) (l : List (κ × γ)) (k : κ) : jX beq (p :: l) k = if beq k p.1 = true then some p.2 else jX beq l k := by
 unfold jX
 rw [fF]
 cases beq k p.1 <;> simp
theorem BL (b : ∀ {x y}, beq x y = true ↔ x = y) (l : List (κ × γ)) (k k2 : κ) (y : γ) : jX beq (mS beq l k y) k2 = if beq k2 k = true then some y else jX beq l k2 := by
 rcases rR k l with h | ⟨A, x, B, rfl, h⟩
 ·rw [AH b h, Dv b, zr]
  by_cases hk : beq k2 k = true
  ·have := b.1 hk
   subst this
   rw [aW hk, aW hk, tk b h]; rfl
  ·rw [aU hk, aU hk]
   show (jX beq l k2).or none = _
   cases jX beq l k2 <;> rfl
 ·rw [um b h, Dv b, zr, Dv b, zr]
  by_cases hk : beq k2 k = true
  ·have := b.1 hk
   subst this
   rw [aW hk, aW hk, tk b h]; rfl
  ·rw [aU hk, aU hk, aU hk]
end
abbrev nG := List (iX × List ByteArray)
def mm (T : nG) : List (iX × List (ByteArray × Bool)) := T.map fun p => (p.1, tt p.2)
def pS (T : nG) (r : iX) : List ByteArray := (jX jr T r).getD []
def FS (T : nG) : List jg := T.flatMap fun p => p.2.map fun w => (⟨p.1, w⟩ : jg)
def BR (T : nG) (r : iX) (w : ByteArray) : nG := mS jr T r (pS T r ++ [w])
theorem BJ (A B : nG) : mm (A ++ B) = mm A ++ mm B := by simp [mm]
theorem wY {A : nG} {r : iX} (h : ∀ p ∈ A, p.1 ≠ r) : ∀ p ∈ mm A, p.1 ≠ r := by
 intro p hp
 simp only [mm, bG] at hp
 obtain ⟨q, b, rfl⟩ := hp
 exact h q b
theorem M5 (T : nG) (r : iX) : jX jr (mm T) r = (jX jr T r).map tt := by
 rcases rR r T with h | ⟨A, x, B, rfl, h⟩
 ·rw [tk js h, tk js (wY h)]; rfl
 ·rw [pk js h, BJ]
  exact pk js (wY h)
theorem Iz (T : nG) (r : iX) : (jX jr (mm T) r).getD [] = tt (pS T r) := by
 rw [M5, pS]; cases jX jr T r <;> rfl
theorem Ed (T : nG) (r : iX) (w : ByteArray) : (FS (BR T r w)).Perm (FS T ++ [(⟨r, w⟩ : jg)]) := by
 unfold BR pS
 rcases rR r T with h | ⟨A, x, B, rfl, h⟩
 ·rw [AH js h, tk js h]
  simp [FS]
 ·rw [um js h, pk js h]
  simp only [FS, gD, gf, gk, bV, bI, eo, aI]
  refine bR _ (bR _ ?_)
  exact dX
theorem KO {T : nG} (hk : (T.map (·.1)).Nodup) (r : iX) (w : ByteArray) : ((BR T r w).map (·.1)).Nodup := by
 unfold BR
 rcases rR r T with h | ⟨A, x, B, rfl, h⟩
 ·rw [AH js h]
  simp only [bV, bI, eo]
  refine bO.2 ⟨hk, by simp, fun a ha b c e => ?_⟩
  simp at c; subst c; subst e
  obtain ⟨p, hp, e⟩ := bG.1 ha
  exact h p hp e
 ·rw [um js h]
  simpa using hk
theorem yS {T : nG} (hk : (T.map (·.1)).Nodup) (f : jg) : f ∈ FS T ↔ f.jM ∈ pS T f.iX := by
 simp only [FS, iE, bG]
 constructor
 ·rintro ⟨p, hp, w, hw, rfl⟩
  obtain ⟨A, B, rfl⟩ := List.append_of_mem hp
  have b : ∀ q ∈ A, q.1 ≠ p.1 := fun q d e => by
   rw [bV, bI] at hk
   exact (bO.1 hk).2.2 q.1 (bG.2 ⟨q, d, rfl⟩) p.1 (by simp) e
  rw [pS, show p = (p.1, p.2) from rfl, pk js b]
  exact hw
 ·intro h
  unfold pS at h
  rcases rR f.iX T with c | ⟨A, x, B, rfl, b⟩
  ·rw [tk js c] at h; cases h
  ·rw [pk js b] at h
   exact ⟨(f.iX, x), by simp, f.jM, h, rfl⟩
theorem HT {T : nG} (h : (FS T).Nodup) (r : iX) : (pS T r).Nodup := by
 unfold pS
 rcases rR r T with c | ⟨A, x, B, rfl, b⟩
 ·rw [tk js c]; simp
 ·rw [pk js b]
  simp only [FS, gD, gf] at h
  have h1 := (bO.1 (bO.1 h).2.1).1
  simp only [List.Nodup, fa] at h1
  exact h1.imp (fun h e => h (by rw [e]))
inductive nB (C : List iY) : jg → Prop
 | mem (c) : c ∈ C → c.Kind = 1 → nB C ⟨c.Head, c.jM⟩
 | inc (c w) : c ∈ C → c.Kind = 2 → nB C ⟨c.B, w⟩ → nB C ⟨c.Head, w⟩
 | D3 (c b w) : c ∈ C → c.Kind = 3 → nB C ⟨c.B, b⟩ → nB C ⟨⟨b, c.ki⟩, w⟩ → nB C ⟨c.Head, w⟩
 | both (c w) : c ∈ C → c.Kind = 4 → nB C ⟨c.B, w⟩ → nB C ⟨c.C, w⟩ → nB C ⟨c.Head, w⟩
theorem nB.mono {C C' : List iY} (h : ∀ c ∈ C, c ∈ C') {f : jg} (j : nB C f) : nB C' f := by
 induction j with
 | mem c d hk => exact .mem c (h c d) hk
 | inc c w d hk _ ih => exact .inc c w (h c d) hk ih
 | D3 c b w d hk _ _ g i => exact .D3 c b w (h c d) hk g i
 | both c w d hk _ _ g i => exact .both c w (h c d) hk g i
def Dd (C : List iY) : List jg := (C.map (·.Head)).flatMap fun r => (C.map (·.jM)).map fun w => (⟨r, w⟩ : jg)
theorem AY (C : List iY) : (Dd C).length = C.length * C.length := by
 unfold Dd
 have : ∀ l : List iX, (l.flatMap fun r => (C.map (·.jM)).map fun w => (⟨r, w⟩ : jg)).length = l.length * C.length := fun l => by
  induction l with
  | nil => simp
  | cons x l ih => simp only [gf, aC, ih, cU, aH, cH]; omega
 rw [this, cU]
theorem Nd {C : List iY} {r : iX} {w : ByteArray} : (⟨r, w⟩ : jg) ∈ Dd C ↔ (∃ c ∈ C, c.Head = r) ∧ ∃ c ∈ C, c.jM = w := by
 unfold Dd
 simp only [iE, bG, jg.mk.injEq]
 constructor
 ·rintro ⟨h, ⟨c, g, rfl⟩, i, ⟨d, b, rfl⟩, rfl, rfl⟩; exact ⟨⟨c, g, rfl⟩, d, b, rfl⟩
 ·rintro ⟨⟨c, g, rfl⟩, d, b, rfl⟩; exact ⟨_, ⟨c, g, rfl⟩, _, ⟨d, b, rfl⟩, rfl, rfl⟩
theorem nB.H3 {C : List iY} {f : jg} (h : nB C f) : ∃ c ∈ C, c.Kind = 1 ∧ c.jM = f.jM := by
 induction h with
 | mem c i hk => exact ⟨c, i, hk, rfl⟩
 | inc c w i hk _ ih => exact ih
 | D3 c b w i hk _ _ d g => exact g
 | both c w i hk _ _ d g => exact d
theorem nB.head {C : List iY} {f : jg} (h : nB C f) : ∃ c ∈ C, c.Head = f.iX := by
 cases h with
 | mem c d hk => exact ⟨c, d, rfl⟩
 | inc c w d hk _ => exact ⟨c, d, rfl⟩
 | D3 c b w d hk _ _ => exact ⟨c, d, rfl⟩
 | both c w d hk _ _ => exact ⟨c, d, rfl⟩
theorem nB.Dd {C : List iY} {f : jg} (h : nB C f) : f ∈ Dd C := by
 obtain ⟨c, b, _, hw⟩ := h.H3
 exact Nd.2 ⟨h.head, c, b, hw⟩
structure oM (C : List iY) (T : nG) (td : List jg) (n : Int) : Prop where
 keys : (T.map (·.1)).Nodup
 nd : (FS T).Nodup
 H7 : td.Nodup
 sub : ∀ f ∈ td, f ∈ FS T
 num : n = (FS T).length
 uK : ∀ f ∈ FS T, nB C f
theorem oM.len {C : List iY} {T : nG} {c : List jg} {n : Int} (h : oM C T c n) : (FS T).length ≤ C.length * C.length := by
 rw [← AY]; exact lh h.nd (fun f b => (h.uK f b).Dd)
theorem oM.Ox {C : List iY} {T : nG} {b : List jg} {n : Int} (h : oM C T b n) : b.length ≤ (FS T).length := lh h.H7 h.sub
theorem oM.mono {C C' : List iY} {T : nG} {b : List jg} {n : Int} (h : oM C T b n) (d : ∀ c ∈ C, c ∈ C') : oM C' T b n := ⟨h.keys, h.nd, h.H7, h.sub, h.num, fun f g => (h.uK f g).mono d⟩
structure xx (T : nG) (td : List jg) (T' : nG) (td' : List jg) : Prop where
 kO : ∀ f ∈ FS T, f ∈ FS T'
 todo : ∀ f ∈ td, f ∈ td'
 new : ∀ f ∈ FS T', f ∈ FS T ∨ f ∈ td'
 fresh : ∀ f ∈ td', f ∈ td ∨ f ∉ FS T
theorem xx.refl (T : nG) (b : List jg) : xx T b T b := ⟨fun _ h => h, fun _ h => h, fun _ h => .inl h, fun _ h => .inl h⟩
theorem xx.trans {T T' T'' : nG} {i g b : List jg} (h : xx T i T' g) (k : xx T' g T'' b) : xx T i T'' b :=
 ⟨fun f c => k.kO f (h.kO f c), fun f c => k.todo f (h.todo f c), fun f c => by
  rcases k.new f c with h1 | h1
  ·rcases h.new f h1 with d | d
   ·exact .inl d
   ·exact .inr (k.todo f d)
  ·exact .inr h1, fun f c => by
  rcases k.fresh f c with h1 | h1
  ·exact h.fresh f h1
  ·exact .inr (fun d => h1 (h.kO f d))⟩
theorem EO {α : Type} (p : α → Bool) : ∀ l : List α, (l.filter p).length + (l.filter fun x => !p x).length = l.length
 | [] => rfl
 | x :: l => by
  have := EO p l
  cases h : p x <;> simp [h] <;> omega
theorem oM.CY {C C' : List iY} {T T' : nG} {d c : List jg} {n o : Int} (i : oM C' T' c o) (g : oM C T d n) (x : xx T d T' c) : c.length + (FS T).length ≤ d.length + (FS T').length := by
 classical
 have h1 : (c.filter fun f => decide (f ∈ FS T)).length ≤ d.length := lh (i.H7.filter _) (fun f j => by
  have := cN.1 j
  rcases x.fresh f this.1 with h | h
  ·exact h
  ·exact absurd (by simpa using this.2) h)
 have l : (FS T ++ c.filter fun f => !decide (f ∈ FS T)).length ≤ (FS T').length := lh (bO.2 ⟨g.nd, i.H7.filter _, fun a ha b m e => by
  subst e
  have := (cN.1 m).2
  simp [ha] at this⟩) (fun f j => by
  rcases aO.1 j with h | h
  ·exact x.kO f h
  ·exact i.sub f (cN.1 h).1)
 have p : (c.filter fun f => decide (f ∈ FS T)).length + (c.filter fun f => !decide (f ∈ FS T)).length = c.length := by
  exact EO (fun f => decide (f ∈ FS T)) c
 rw [aC] at l
 omega
def z6 (C : List iY) (T : nG) (g : List jg) (c : Option (List (iX × List (ByteArray × Bool)) × List jg × Int)) (Q : nG → Prop) : Prop :=
 ∃ T' b d, c = some (mm T', b, d) ∧ oM C T' b d ∧ xx T g T' b ∧ Q T'
theorem z6.mono {C : List iY} {T : nG} {g : List jg} {b : Option (List (iX × List (ByteArray × Bool)) × List jg × Int)} {Q Q' : nG → Prop} (h : z6 C T g b Q) (l : ∀ T', (∀ f ∈ FS T, f ∈ FS T') → Q T' → Q' T') : z6 C T g b Q' := by
 obtain ⟨T', c, m, h1, i, d, j⟩ := h
 exact ⟨T', c, m, h1, i, d, l T' d.kO j⟩
def pp (C : List iY) : Prop := C.length ≤ 1000000
theorem pp.sq {C : List iY} (h : pp C) : C.length * C.length ≤ 1000000000000 := Nat.mul_le_mul h h
theorem qD {T : nG} (hk : (T.map (·.1)).Nodup) (r : iX) (w : ByteArray) : xi jP ((jX jr (mm T) r).getD []) w false = true ↔ (⟨r, w⟩ : jg) ∈ FS T := by
 rw [Iz, KQ, vx kU, yS hk]
theorem AG {C : List iY} (y : pp C) {T : nG} {j : List jg} {n : Int} (h : oM C T j n) (cs : List iY) (L : List (iX × List iY)) (ws : List (ByteArray × List iY)) {r : iX} {w : ByteArray} (z : nB C ⟨r, w⟩) :
  z6 C T j (mK (mm T) cs L ws j n r w) (fun T' => (⟨r, w⟩ : jg) ∈ FS T') := by
 unfold mK
 have G := y.sq
 have M := h.len
 have I := h.Ox
 by_cases d : (⟨r, w⟩ : jg) ∈ FS T
 ·rw [aW ((qD h.keys r w).2 d)]
  exact ⟨T, j, n, rfl, h, xx.refl _ _, d⟩
 ·rw [aU (fun t => d ((qD h.keys r w).1 t))]
  have E : oM C (BR T r w) (j ++ [⟨r, w⟩]) (n + 1) := by
   have hp := Ed T r w
   refine ⟨KO h.keys r w, (hp.nodup_iff).2 (bO.2 ⟨h.nd, by simp, fun a ha b p e => ?_⟩), bO.2 ⟨h.H7, by simp, fun a ha b p e => ?_⟩, fun f c => hp.mem_iff.2 ?_, ?_, fun f c => ?_⟩
   ·simp at p; subst p; subst e; exact d ha
   ·simp at p; subst p; subst e; exact d (h.sub _ ha)
   ·rcases aO.1 c with c | c
    ·exact cA _ (h.sub f c)
    ·exact dI _ c
   ·rw [hp.length_eq, h.num]; simp
   ·rcases aO.1 (hp.mem_iff.1 c) with c | c
    ·exact h.uK f c
    ·simp at c; subst c; exact z
  have u : ((if (jX jr (mm T) r).isNone = true then ((DM jr (mm T) r []).bind fun l => some l) else some (mm T)) : Option _).bind (fun l => (DJ jr jP l r w true)) = some (mm (BR T r w)) := by
   unfold BR pS
   rcases rR r T with i | ⟨A, x, B, rfl, s⟩
   ·have q := tk js (wY i)
    rw [q, tk js i, AH js i, BJ]
    simp only [Option.isNone_none, aJ, DM, q, aA]
    rw [AH js (wY i)]
    unfold DJ
    rw [pk js (wY i)]
    simp only [dW]
    rw [um js (wY i)]
    rfl
   ·have m := wY s
    have v : jX jr (mm (A ++ (r, x) :: B)) r = some (tt x) := by rw [BJ]; exact pk js m
    rw [v, pk js s, um js s]
    simp only [Option.isNone_some, aB, aF, aA, DJ, v, dW, gk]
    have J : w ∉ x := fun hw => d (by
     rw [yS h.keys, pS, pk js s]; exact hw)
    rw [Mx kU]
    rw [show ins jP x w = x ++ [w] from by unfold ins; rw [aU (fun t => J ((vx kU x w).1 t))]]
    rw [BJ, show mm ((r, x) :: B) = (r, tt x) :: mm B from rfl, um js m, BJ]
    rfl
  refine ⟨BR T r w, j ++ [⟨r, w⟩], n + 1, ?_, E, ⟨fun f c => (Ed T r w).mem_iff.2 (cA _ c), fun f c => cA _ c, fun f c => ?_, fun f c => ?_⟩, (Ed T r w).mem_iff.2 (by simp)⟩
  ·have g := u
   generalize ((if (jX jr (mm T) r).isNone = true then ((DM jr (mm T) r []).bind fun l => some l) else some (mm T)) : Option _) = o at g
   cases o with
   | none => cases g
   | some l =>
    simp only [aA] at g ⊢
    rw [g]
    simp only [aA]
    rw [kQ (by simp; omega) (by simp; omega)]
    simp only [aA]
    rw [kk (by rw [h.num]; omega) (by rw [h.num]; omega)]
  ·rcases aO.1 ((Ed T r w).mem_iff.1 c) with h1 | h1
   ·exact .inl h1
   ·exact .inr (dI _ h1)
  ·rcases aO.1 c with h1 | h1
   ·exact .inl h1
   ·simp at h1; subst h1; exact .inr d
theorem xl (l : List ByteArray) (x : ByteArray) : x ∈ sn l ↔ x ∈ l := by unfold sn; simp
def qe (C : List iY) : Prop := ∀ c ∈ C, kG c = true
theorem JN {c : iY} (h : kG c = true) (hk : c.Kind = 1) : c.jM.size ≤ 16 := by
 rcases nr h with h | h | h | h
 ·exact (mY h.2.1).2
 ·exact absurd (hk.symm.trans h.1) (by decide)
 ·exact absurd (hk.symm.trans h.1) (by decide)
 ·exact absurd (hk.symm.trans h.1) (by decide)
theorem KZ {T : nG} (r : iX) (hk : (T.map (·.1)).Nodup) : (pS T r).length ≤ (FS T).length := by
 unfold pS
 rcases rR r T with c | ⟨A, x, B, rfl, b⟩
 ·rw [tk js c]; simp
 ·rw [pk js b]
  simp only [FS, gD, gf, aC, cU, gk]
  omega
theorem Ek {C : List iY} (b : pp C) (d : qe C) {T : nG} {j : List jg} {n : Int} (h : oM C T j n) (cs : List iY) (l : List (iX × List iY)) (ws : List (ByteArray × List iY)) (q : List jg) (z : Int) (r : iX) :
  oT (mm T) cs l ws q z r = some (sn (pS T r)) := by
 unfold oT nu
 rw [Iz]
 simp only [aA, nq]
 have s := KZ r h.keys
 have m := h.len
 have o := b.sq
 unfold DZ
 rw [MH, aW]
 refine ⟨HT h.nd r, fun p hp => ?_, by rw [KD]; omega⟩
 simp only [tt, bG] at hp
 obtain ⟨w, hw, rfl⟩ := hp
 have i := h.uK ⟨r, w⟩ ((yS h.keys ⟨r, w⟩).2 hw)
 obtain ⟨c, g, hk, e⟩ := i.H3
 have := JN (d c g) hk
 simp only at e ⊢
 rw [← e]
 unfold maxLen
 omega
theorem JT {C : List iY} (i : pp C) (cs : List iY) (g : List (iX × List iY)) (ws : List (ByteArray × List iY)) (head : iX) : ∀ (l : List ByteArray) {T : nG} {b : List jg} {n : Int}, oM C T b n → (∀ w ∈ l, nB C ⟨head, w⟩) →
  z6 C T b (oB cs g ws head l (mm T) b n) (fun T' => ∀ w ∈ l, (⟨head, w⟩ : jg) ∈ FS T')
 | [], T, b, n, h, _ => ⟨T, b, n, rfl, h, xx.refl _ _, fun _ hw => by cases hw⟩
 | w :: l, T, b, n, h, j => by
  rw [oB]
  obtain ⟨T1, s, t, m, g1, x1, q⟩ := AG i h cs g ws (j w (by simp))
  rw [m]
  simp only [aA]
  obtain ⟨T2, d, p, o, g2, x2, r⟩ := JT i cs g ws head l g1 (fun w hw => j w (by simp [hw]))
  refine ⟨T2, d, p, o, g2, x1.trans x2, fun v c => ?_⟩
  rcases aM.1 c with rfl | c
  ·exact x2.kO _ q
  ·exact r v c
theorem NT {C : List iY} (c : pp C) (g : qe C) {T : nG} {b : List jg} {n : Int} (h : oM C T b n) (cs : List iY) (d : List (iX × List iY)) (ws : List (ByteArray × List iY)) (r head : iX) (i : ∀ w, (⟨r, w⟩ : jg) ∈ FS T → nB C ⟨head, w⟩) :
  z6 C T b (rp (mm T) cs d ws b n r head) (fun T' => ∀ w, (⟨r, w⟩ : jg) ∈ FS T → (⟨head, w⟩ : jg) ∈ FS T') := by
 unfold rp
 rw [Ek c g h]
 simp only [aA]
 refine (JT c cs d ws head _ h (fun w hw => i w ((yS h.keys ⟨r, w⟩).2 ((xl _ _).1 hw)))).mono (fun T' _ j w hw => j w ((xl _ _).2 ((yS h.keys ⟨r, w⟩).1 hw)))
def Cv (c : iY) (f : jg) (T T' : nG) : Prop :=
 (c.Kind = 2 → f.iX = c.B → (⟨c.Head, f.jM⟩ : jg) ∈ FS T') ∧
 (c.Kind = 3 → f.iX = c.B → ∀ w, (⟨⟨f.jM, c.ki⟩, w⟩ : jg) ∈ FS T → (⟨c.Head, w⟩ : jg) ∈ FS T') ∧
 (c.Kind = 4 → (⟨c.B, f.jM⟩ : jg) ∈ FS T → (⟨c.C, f.jM⟩ : jg) ∈ FS T → (⟨c.Head, f.jM⟩ : jg) ∈ FS T')
theorem Cv.mono {c : iY} {f : jg} {T T' T0 T1 : nG} (h : Cv c f T T') (g : ∀ f ∈ FS T0, f ∈ FS T) (h1 : ∀ f ∈ FS T', f ∈ FS T1) : Cv c f T0 T1 :=
 ⟨fun a b => h1 _ (h.1 a b), fun a b w hw => h1 _ (h.2.1 a b w (g _ hw)), fun a b d => h1 _ (h.2.2 a (g _ b) (g _ d))⟩
theorem Mu (x : Option (List (iX × List (ByteArray × Bool)) × List jg × Int)) : (x.bind fun r => some (r.1, r.2.1, r.2.2)) = x := by cases x <;> rfl
theorem JZ {C : List iY} (p : pp C) (u : qe C) {T : nG} {j : List jg} {n : Int} (h : oM C T j n) (cs : List iY) (m : List (iX × List iY)) (ws : List (ByteArray × List iY)) {c : iY} (q : c ∈ C) {f : jg} (s : f ∈ FS T) (t : f.iX ∈ nk c) :
  z6 C T j (pI (mm T) cs m ws j n c f) (Cv c f T) := by
 unfold pI
 simp only [Mu, Bk]
 by_cases b : c.Kind = 2
 ·have o : f.iX = c.B := by simpa [nk, b] using t
  rw [aW (by simp [b])]
  have r : nB C ⟨c.Head, f.jM⟩ := .inc c f.jM q b (by rw [← o]; exact h.uK f s)
  refine (AG p h cs m ws r).mono (fun T' _ i => ⟨fun _ _ => i, fun k => absurd (b.symm.trans k) (by decide), fun k => absurd (b.symm.trans k) (by decide)⟩)
 rw [aU (by simp [b])]
 by_cases d : c.Kind = 3
 ·have o : f.iX = c.B := by simpa [nk, d] using t
  rw [aW (by simp [d])]
  refine (NT p u h cs m ws ⟨f.jM, c.ki⟩ c.Head (fun w hw => .D3 c f.jM w q d (by rw [← o]; exact h.uK f s) (h.uK _ hw))).mono (fun T' _ i => ⟨fun k => absurd k b, fun _ _ w hw => i w hw, fun k => absurd (d.symm.trans k) (by decide)⟩)
 rw [aU (by simp [d])]
 by_cases l : c.Kind = 4
 ·rw [aW (by simp [l])]
  simp only [aA]
  by_cases g : (⟨c.B, f.jM⟩ : jg) ∈ FS T ∧ (⟨c.C, f.jM⟩ : jg) ∈ FS T
  ·rw [aW (by rw [aP, qD h.keys, qD h.keys]; exact g)]
   have r : nB C ⟨c.Head, f.jM⟩ := .both c f.jM q l (h.uK _ g.1) (h.uK _ g.2)
   exact (AG p h cs m ws r).mono (fun T' _ i => ⟨fun k => absurd k b, fun k => absurd k d, fun _ _ _ => i⟩)
  ·rw [aU (by rw [aP, qD h.keys, qD h.keys]; exact g)]
   exact ⟨T, j, n, rfl, h, xx.refl _ _, fun k => absurd k b, fun k => absurd k d, fun _ x y => absurd ⟨x, y⟩ g⟩
 ·rw [aU (by simp [l])]
  exact ⟨T, j, n, rfl, h, xx.refl _ _, fun k => absurd k b, fun k => absurd k d, fun k => absurd k l⟩
theorem G4 {C : List iY} (j : pp C) (m : qe C) (cs : List iY) (i : List (iX × List iY)) (ws : List (ByteArray × List iY)) {c : iY} (o : c ∈ C) (p : c.B ∈ nk c) : ∀ (l : List ByteArray) {T : nG} {b : List jg} {n : Int}, oM C T b n → (∀ w ∈ l, (⟨c.B, w⟩ : jg) ∈ FS T) →
  z6 C T b (nO cs i ws c l (mm T) b n) (fun T' => ∀ w ∈ l, Cv c ⟨c.B, w⟩ T T')
 | [], T, b, n, h, _ => ⟨T, b, n, rfl, h, xx.refl _ _, fun _ hw => by cases hw⟩
 | w :: l, T, b, n, h, hm => by
  rw [nO]
  obtain ⟨T1, x, y, q, g1, x1, t⟩ := JZ j m h cs i ws o (f := ⟨c.B, w⟩) (hm w (by simp)) p
  rw [q]
  simp only [aA]
  obtain ⟨T2, g, s, r, g2, x2, u⟩ := G4 j m cs i ws o p l g1 (fun w hw => x1.kO _ (hm w (by simp [hw])))
  refine ⟨T2, g, s, r, g2, x1.trans x2, fun v d => ?_⟩
  rcases aM.1 d with rfl | d
  ·exact t.mono (fun _ h => h) x2.kO
  ·exact (u v d).mono x1.kO (fun _ h => h)
def CU (c : iY) (T : nG) (d : List jg) : Prop :=
 (c.Kind = 1 → (⟨c.Head, c.jM⟩ : jg) ∈ FS T) ∧
 (c.Kind = 2 → ∀ w, (⟨c.B, w⟩ : jg) ∈ FS T → (⟨c.B, w⟩ : jg) ∉ d → (⟨c.Head, w⟩ : jg) ∈ FS T) ∧
 (c.Kind = 3 → ∀ b w, (⟨c.B, b⟩ : jg) ∈ FS T → (⟨c.B, b⟩ : jg) ∉ d → (⟨⟨b, c.ki⟩, w⟩ : jg) ∈ FS T → (⟨⟨b, c.ki⟩, w⟩ : jg) ∉ d → (⟨c.Head, w⟩ : jg) ∈ FS T) ∧
 (c.Kind = 4 → ∀ w, (⟨c.B, w⟩ : jg) ∈ FS T → (⟨c.B, w⟩ : jg) ∉ d → (⟨c.C, w⟩ : jg) ∈ FS T → (⟨c.C, w⟩ : jg) ∉ d → (⟨c.Head, w⟩ : jg) ∈ FS T)
theorem CU.ext {c : iY} {T T' : nG} {i d : List jg} (h : CU c T i) (x : xx T i T' d) : CU c T' d := by
 have kO : ∀ f, f ∈ FS T' → f ∉ d → f ∈ FS T ∧ f ∉ i := fun f m j => by
  rcases x.new f m with h1 | h1
  ·exact ⟨h1, fun l => j (x.todo f l)⟩
  ·exact absurd h1 j
 refine ⟨fun k => x.kO _ (h.1 k), fun k w a b => ?_, fun k b w g a2 a3 a4 => ?_, fun k w g a2 a3 a4 => ?_⟩
 ·exact x.kO _ (h.2.1 k w (kO _ a b).1 (kO _ a b).2)
 ·exact x.kO _ (h.2.2.1 k b w (kO _ g a2).1 (kO _ g a2).2 (kO _ a3 a4).1 (kO _ a3 a4).2)
 ·exact x.kO _ (h.2.2.2 k w (kO _ g a2).1 (kO _ g a2).2 (kO _ a3 a4).1 (kO _ a3 a4).2)
theorem L5 {C : List iY} (l : pp C) (r : qe C) {T : nG} {o : List jg} {n : Int} (h : oM C T o n) (cs : List iY) (p : List (iX × List iY)) (ws : List (ByteArray × List iY)) {c : iY} (s : c ∈ C) :
  ∃ T' d i, qj (mm T) cs p ws o n c = some (mm T', d, i) ∧ oM C T' d i ∧ xx T o T' d ∧ CU c T' d := by
 unfold qj
 simp only [Mu]
 by_cases h1 : c.Kind = 1
 ·rw [aW (by simp [h1])]
  obtain ⟨T', d, i, e, g, x, q⟩ := AG l h cs p ws (nB.mem c s h1)
  exact ⟨T', d, i, e, g, x, fun _ => q, fun k => absurd (h1.symm.trans k) (by decide), fun k => absurd (h1.symm.trans k) (by decide), fun k => absurd (h1.symm.trans k) (by decide)⟩
 ·rw [aU (by simp [h1]), Ek l r h]
  simp only [aA]
  have v : c.B ∈ nk c := by unfold nk; rw [aU h1]; split <;> simp
  obtain ⟨T', d, i, e, g, x, q⟩ := G4 l r cs p ws s v (sn (pS T c.B)) h (fun w hw => (yS h.keys ⟨c.B, w⟩).2 ((xl _ _).1 hw))
  have kO : ∀ f, f ∈ FS T' → f ∉ d → f ∈ FS T := fun f t u => by
   rcases x.new f t with h1 | h1
   ·exact h1
   ·exact absurd h1 u
  have m : ∀ w, (⟨c.B, w⟩ : jg) ∈ FS T → Cv c ⟨c.B, w⟩ T T' := fun w hw => q w ((xl _ _).2 ((yS h.keys ⟨c.B, w⟩).1 hw))
  refine ⟨T', d, i, e, g, x, fun k => absurd k h1, fun k w a b => ?_, fun k b w j a2 a3 a4 => ?_, fun k w j a2 a3 a4 => ?_⟩
  ·exact (m w (kO _ a b)).1 k rfl
  ·exact (m b (kO _ j a2)).2.1 k rfl w (kO _ a3 a4)
  ·exact (m w (kO _ j a2)).2.2 k (kO _ j a2) (kO _ a3 a4)
structure Ct (C : List iY) (us : List (iX × List iY)) (ws : List (ByteArray × List iY)) : Prop where
 Lr : ∀ r c, c ∈ (jX jr us r).getD [] ↔ c ∈ C ∧ r ∈ nk c
 word : ∀ w c, c ∈ (jX jP ws w).getD [] ↔ c ∈ C ∧ c.Kind = 3 ∧ c.ki = w
 NN : ∀ r, ((jX jr us r).getD []).length ≤ 2 * C.length
 N3 : ∀ w, ((jX jP ws w).getD []).length ≤ C.length
theorem FE {C : List iY} (j : pp C) (m : qe C) (cs : List iY) (i : List (iX × List iY)) (ws : List (ByteArray × List iY)) {f : jg} : ∀ (l : List iY) {T : nG} {b : List jg} {n : Int}, oM C T b n → f ∈ FS T → (∀ c ∈ l, c ∈ C ∧ f.iX ∈ nk c) →
  z6 C T b (nF cs i ws f l (mm T) b n) (fun T' => ∀ c ∈ l, Cv c f T T')
 | [], T, b, n, h, _, _ => ⟨T, b, n, rfl, h, xx.refl _ _, fun _ hw => by cases hw⟩
 | c :: l, T, b, n, h, o, hm => by
  rw [nF]
  obtain ⟨T1, w, x, p, g1, x1, t⟩ := JZ j m h cs i ws (hm c (by simp)).1 o (hm c (by simp)).2
  rw [p]
  simp only [aA]
  obtain ⟨T2, g, s, q, g2, x2, u⟩ := FE j m cs i ws l g1 (x1.kO _ o) (fun c r => hm c (by simp [r]))
  refine ⟨T2, g, s, q, g2, x1.trans x2, fun v d => ?_⟩
  rcases aM.1 d with rfl | d
  ·exact t.mono (fun _ h => h) x2.kO
  ·exact (u v d).mono x1.kO (fun _ h => h)
theorem BZ {C : List iY} (p : pp C) (w : qe C) (cs : List iY) (m : List (iX × List iY)) (ws : List (ByteArray × List iY)) {f : jg} : ∀ (l : List iY) {T : nG} {i : List jg} {n : Int}, oM C T i n → f ∈ FS T → (∀ c ∈ l, c ∈ C ∧ c.Kind = 3 ∧ c.ki = f.iX.Word) →
  z6 C T i (mN f cs m ws l (mm T) i n) (fun T' => ∀ c ∈ l, (⟨c.B, f.iX.ja⟩ : jg) ∈ FS T → (⟨c.Head, f.jM⟩ : jg) ∈ FS T')
 | [], T, i, n, h, _, _ => ⟨T, i, n, rfl, h, xx.refl _ _, fun _ hw => by cases hw⟩
 | c :: l, T, i, n, h, r, hm => by
  rw [mN]
  have hk := hm c (by simp)
  by_cases j : (⟨c.B, f.iX.ja⟩ : jg) ∈ FS T
  ·rw [aW ((qD h.keys _ _).2 j)]
   have s : f = ⟨⟨f.iX.ja, c.ki⟩, f.jM⟩ := by rw [hk.2.2]
   have y : nB C ⟨c.Head, f.jM⟩ := .D3 c f.iX.ja f.jM hk.1 hk.2.1 (h.uK _ j) (by rw [← s]; exact h.uK f r)
   obtain ⟨T1, E, G, x, g1, x1, A⟩ := AG p h cs m ws y
   rw [x]
   simp only [aA]
   obtain ⟨T2, g, t, o, g2, x2, u⟩ := BZ p w cs m ws l g1 (x1.kO _ r) (fun c q => hm c (by simp [q]))
   refine ⟨T2, g, t, o, g2, x1.trans x2, fun v d b => ?_⟩
   rcases aM.1 d with rfl | d
   ·exact x2.kO _ A
   ·exact u v d (x1.kO _ b)
  ·rw [aU (fun z => j ((qD h.keys _ _).1 z))]
   obtain ⟨T2, g, t, o, g2, x2, u⟩ := BZ p w cs m ws l h r (fun c q => hm c (by simp [q]))
   refine ⟨T2, g, t, o, g2, x2, fun v d b => ?_⟩
   rcases aM.1 d with rfl | d
   ·exact absurd b j
   ·exact u v d b
theorem FK {C : List iY} (E : pp C) (G : qe C) {cs : List iY} {z : List (iX × List iY)} {ws : List (ByteArray × List iY)} (t : Ct C z ws) : ∀ (m : Nat) {T : nG} {l : List jg} {n : Int}, oM C T l n → (∀ c ∈ C, CU c T l) → C.length * C.length + l.length < m + (FS T).length →
  ∃ T' L, mj cs z ws m (mm T) l n = some (mm T', [], L) ∧ oM C T' [] L ∧ (∀ c ∈ C, CU c T' []) ∧ (∀ f ∈ FS T, f ∈ FS T')
 | 0, T, l, n, h, _, hm => by have := h.len; omega
 | m + 1, T, [], n, h, p, hm => by
  rw [mj]
  exact ⟨T, n, rfl, h, p, fun _ h => h⟩
 | m + 1, T, f :: l, n, h, p, hm => by
  rw [mj]
  rw [aW (by simp)]
  have J : f ∈ FS T := h.sub f (by simp)
  have R := (cT.1 h.H7)
  simp only [kp, Int.le_refl, aJ, Int.toNat_zero, fN, aA]
  rw [show pH (decide ((0 : Nat) ≤ 1) && decide ((1 : Int) ≤ ((f :: l).length : Int))) = some () by simp [pH]; omega]
  simp only [aA, show Int.toNat 1 = 1 from rfl, List.drop_one, List.tail_cons]
  have I : oM C T l n := ⟨h.keys, h.nd, R.2, fun g v => h.sub g (by simp [v]), h.num, h.uK⟩
  obtain ⟨T1, a6, n1, O, g1, x1, Z⟩ := FE E G cs z ws ((jX jr z f.iX).getD []) I J (fun c i => (t.Lr _ c).1 i)
  rw [O]
  simp only [aA]
  obtain ⟨T2, q, n2, P, g2, x2, q2⟩ := BZ E G cs z ws ((jX jP ws f.iX.Word).getD []) g1 (x1.kO _ J) (fun c i => (t.word _ c).1 i)
  rw [P]
  simp only [aA]
  have x := x1.trans x2
  have kO : ∀ g, g ∈ FS T2 → g ∉ q → g ∈ FS T ∧ (g = f ∨ g ∉ f :: l) := fun g v y => by
   rcases x.new g v with h1 | h1
   ·refine ⟨h1, ?_⟩
    by_cases he : g = f
    ·exact .inl he
    ·exact .inr (fun s => by
      rcases aM.1 s with s | s
      ·exact he s
      ·exact y (x.todo g s))
   ·exact absurd h1 y
  have d1 : ∀ c ∈ C, f.iX ∈ nk c → Cv c f T T2 := fun c i U => (Z c ((t.Lr _ c).2 ⟨i, U⟩)).mono (fun _ h => h) x2.kO
  have u : ∀ c ∈ C, CU c T2 q := fun c i => by
   have k := p c i
   refine ⟨fun hk => x.kO _ (k.1 hk), fun hk w a b => ?_, fun hk b w A a2 a3 a4 => ?_, fun hk w A a2 a3 a4 => ?_⟩
   ·obtain ⟨o, d⟩ := kO _ a b
    rcases d with d | d
    ·subst d; exact (d1 c i (by simp [nk, hk])).1 hk rfl
    ·exact x.kO _ (k.2.1 hk w o d)
   ·obtain ⟨o, d⟩ := kO _ A a2
    obtain ⟨r, j⟩ := kO _ a3 a4
    rcases d with d | d
    ·subst d; exact (d1 c i (by simp [nk, hk])).2.1 hk rfl w r
    ·rcases j with j | j
     ·subst j
      exact q2 c ((t.word _ c).2 ⟨i, hk, rfl⟩) (x1.kO _ o)
     ·exact x.kO _ (k.2.2.1 hk b w o d r j)
   ·obtain ⟨o, d⟩ := kO _ A a2
    obtain ⟨r, j⟩ := kO _ a3 a4
    rcases d with d | d
    ·subst d; exact (d1 c i (by simp [nk, hk])).2.2 hk o r
    ·rcases j with j | j
     ·subst j; exact (d1 c i (by simp [nk, hk])).2.2 hk o r
     ·exact x.kO _ (k.2.2.2 hk w o d r j)
  have hlen : q.length + (FS T).length ≤ l.length + (FS T2).length := by
   exact g2.CY I x
  obtain ⟨T3, W, Q, g3, M, Y⟩ := FK E G t m g2 u (by simp only [aH] at hm; omega)
  exact ⟨T3, W, Q, g3, M, fun g v => Y g (x.kO g v)⟩
theorem Ik (c : iY) : ∀ (l : List iY) (i : Nat), ∃ z, ow c l i = some z ∧ (z ≥ 0 ↔ c ∈ l)
 | [], i => ⟨-1, rfl, by simp⟩
 | x :: l, i => by
  rw [ow]
  by_cases h : kh c x = true
  ·rw [aW h]
   exact ⟨_, rfl, by simp [qa.1 h]⟩
  ·rw [aU h]
   obtain ⟨z, e, d⟩ := Ik c l (i + 1)
   refine ⟨z, e, ?_⟩
   rw [d, aM]
   exact ⟨.inr, fun b => b.resolve_left (fun e => h (qa.2 e))⟩
theorem GF (c : iY) (l : List iY) : ∃ b, oH l c = some b ∧ (b = true ↔ c ∈ l) := by
 obtain ⟨z, e, d⟩ := Ik c l 0
 refine ⟨decide (z ≥ 0), ?_, by simpa using d⟩
 unfold oH pW tF
 rw [e]
 rfl
theorem Il (c : iY) (ws : List (ByteArray × List iY)) (C : List iY) (hw : ∀ w, ((jX jP ws w).getD []).length ≤ 2000000) : ∀ (l : List iX) (b : List (iX × List iY)), (∀ r, ((jX jr b r).getD []).length + l.length ≤ 4000000) →
  ∃ i j, nl c ws C l b = some (C, i, j) ∧ (∀ r x, x ∈ (jX jr i r).getD [] ↔ x ∈ (jX jr b r).getD [] ∨ (x = c ∧ r ∈ l)) ∧
   (∀ w x, x ∈ (jX jP j w).getD [] ↔ x ∈ (jX jP ws w).getD [] ∨ (x = c ∧ c.Kind = 3 ∧ w = c.ki)) ∧ (∀ r, ((jX jr i r).getD []).length ≤ ((jX jr b r).getD []).length + l.length) ∧
   (∀ w, ((jX jP j w).getD []).length ≤ ((jX jP ws w).getD []).length + 1)
 | [], b, _ => by
  rw [nl]
  by_cases m : c.Kind = 3
  ·rw [aW (by simp [m])]
   have h := hw c.ki
   rw [kQ (by simp; omega) (by simp; omega)]
   simp only [aA]
   refine ⟨b, _, rfl, by simp, fun w x => ?_, by simp, fun w => ?_⟩
   ·rw [BL kU]
    by_cases hk : jP w c.ki = true
    ·rw [aW hk, kU.1 hk]; simp [m]
    ·rw [aU hk]
     have : w ≠ c.ki := fun e => hk (kU.2 e)
     simp [this]
   ·rw [BL kU]
    by_cases hk : jP w c.ki = true
    ·rw [aW hk, kU.1 hk]; simp
    ·rw [aU hk]; exact gV _
  ·rw [aU (by simp [m])]
   exact ⟨b, ws, rfl, by simp, by simp [m], by simp, by simp⟩
 | d :: l, b, n => by
  rw [nl]
  have h := n d
  simp only [aH] at h
  rw [kQ (by simp; omega) (by simp; omega)]
  simp only [aA]
  have g : ∀ r, (jX jr (mS jr b d (((jX jr b d).getD []) ++ [c])) r).getD [] = if jr r d = true then ((jX jr b d).getD []) ++ [c] else (jX jr b r).getD [] := fun r => by
   rw [BL js]; by_cases hk : jr r d = true
   ·rw [aW hk, aW hk]; rfl
   ·rw [aU hk, aU hk]
  obtain ⟨i, j, e, o, a2, a3, a4⟩ := Il c ws C hw l (mS jr b d (((jX jr b d).getD []) ++ [c])) (fun r => by
   rw [g r]
   have p := n r
   simp only [aH] at p
   by_cases hk : jr r d = true
   ·rw [aW hk]; simp; omega
   ·rw [aU hk]; omega)
  refine ⟨i, j, e, fun r x => ?_, a2, fun r => ?_, a4⟩
  ·rw [o, g]
   by_cases hk : jr r d = true
   ·rw [aW hk, js.1 hk]
    simp only [aO, aM, dm, fj]
    constructor
    ·rintro ((h | h) | h)
     ·exact .inl h
     ·exact .inr ⟨h, .inl trivial⟩
     ·exact .inr ⟨h.1, .inr h.2⟩
    ·rintro (h | h)
     ·exact .inl (.inl h)
     ·exact .inl (.inr h.1)
   ·rw [aU hk]
    have : r ≠ d := fun e => hk (js.2 e)
    simp [this]
  ·have := a3 r
   rw [g r] at this
   by_cases hk : jr r d = true
   ·rw [aW hk] at this; rw [js.1 hk] at this ⊢; simp at this ⊢; omega
   ·rw [aU hk] at this; simp; omega
theorem Nn {C : List iY} {l : List (iX × List iY)} {ws : List (ByteArray × List iY)} (j : Ct C l ws) (s : C.length + 1 ≤ 1000000) {c : iY} (o : kG c = true) (i : List (iX × List (ByteArray × Bool))) (q : List jg) (n : Int) :
  ∃ b d, qC i C l ws q n c = some (C ++ [c], b, d) ∧ Ct (C ++ [c]) b d := by
 unfold qC
 rw [kQ (by simp; omega) (by simp; omega)]
 simp only [aA, NA o]
 rw [show pH (decide ((0 : Nat) ≤ 1) && decide ((1 : Int) ≤ ((c.Head :: nk c).length : Int))) = some () by simp [pH]; omega]
 simp only [aA, show Int.toNat 1 = 1 from rfl, List.drop_one, List.tail_cons]
 have p : (nk c).length ≤ 2 := by unfold nk; split; simp; split <;> simp
 obtain ⟨b, d, e, m, a2, a3, a4⟩ := Il c ws (C ++ [c]) (fun w => by have := j.N3 w; omega) (nk c) l (fun r => by have := j.NN r; omega)
 refine ⟨b, d, e, fun r x => ?_, fun w x => ?_, fun r => ?_, fun w => ?_⟩
 ·rw [m, j.Lr, aO, cK]
  constructor
  ·rintro (h | h)
   ·exact ⟨.inl h.1, h.2⟩
   ·exact ⟨.inr h.1, by rw [h.1]; exact h.2⟩
  ·rintro ⟨h | h, g⟩
   ·exact .inl ⟨h, g⟩
   ·exact .inr ⟨h, by rw [← h]; exact g⟩
 ·rw [a2, j.word, aO, cK]
  constructor
  ·rintro (h | h)
   ·exact ⟨.inl h.1, h.2⟩
   ·exact ⟨.inr h.1, by rw [h.1]; exact ⟨h.2.1, h.2.2.symm⟩⟩
  ·rintro ⟨h | h, g⟩
   ·exact .inl ⟨h, g⟩
   ·subst h; exact .inr ⟨rfl, g.1, g.2.symm⟩
 ·have := a3 r; have := j.NN r; simp; omega
 ·have := a4 w; have := j.N3 w; simp; omega
structure MS (C : List iY) (T : nG) (us : List (iX × List iY)) (ws : List (ByteArray × List iY)) (n : Int) : Prop where
 BN : oM C T [] n
 cl : ∀ c ∈ C, CU c T []
 PP : Ct C us ws
 right : qe C
theorem MS.all {C : List iY} {T : nG} {l : List (iX × List iY)} {ws : List (ByteArray × List iY)} {n : Int} (h : MS C T l ws n) (f : jg) : f ∈ FS T ↔ nB C f := by
 refine ⟨h.BN.uK f, fun j => ?_⟩
 induction j with
 | mem c d hk => exact (h.cl c d).1 hk
 | inc c w d hk _ ih => exact (h.cl c d).2.1 hk w ih (by simp)
 | D3 c b w d hk _ _ g i => exact (h.cl c d).2.2.1 hk b w g (by simp) i (by simp)
 | both c w d hk _ _ g i => exact (h.cl c d).2.2.2 hk w g (by simp) i (by simp)
theorem Hv (s : Int) (A : 0 ≤ s ∧ s ≤ 1000000000000) : ∀ (l : List iY) {C : List iY} {T : nG} {r : List jg} {E : List (iX × List iY)} {ws : List (ByteArray × List iY)} {n : Int}, oM C T r n → (∀ c ∈ C, CU c T r) → Ct C E ws → qe C → C.length + l.length ≤ 1000000 →
  ∃ C' T' d i p, mL s l (mm T) C E ws r n = some (p - s, mm T', C', d, i, [], p) ∧ MS C' T' d i p ∧ (∀ c, c ∈ C' ↔ c ∈ C ∨ (c ∈ l ∧ kG c = true)) ∧ C'.length ≤ C.length + l.length ∧ (∀ f ∈ FS T, f ∈ FS T')
 | [], C, T, r, E, ws, n, g, j, v, t, P => by
  rw [mL]
  have Z : pp C := by unfold pp; simp at P; omega
  have a7 := Z.sq
  have hlen := g.len
  have a8 := g.Ox
  obtain ⟨T', p, e, J, c', o⟩ := FK Z t v (cs := C) jB g j (by rw [uz]; omega)
  unfold rW
  rw [e]
  simp only [aA]
  have Q := J.len
  have a6 := J.num
  rw [kk (by omega) (by omega)]
  exact ⟨C, T', E, ws, p, rfl, ⟨J, c', v, t⟩, by simp, by simp, o⟩
 | x :: l, C, T, r, E, ws, n, g, j, v, t, P => by
  rw [mL, tL]
  simp only [aH] at P
  obtain ⟨b, hb, w⟩ := GF x C
  simp only [aA, hb, Bk]
  by_cases q : kG x = true ∧ x ∉ C
  ·have M : b = false := by cases b with | false => rfl | true => exact absurd (w.1 rfl) q.2
   rw [q.1, M]
   simp only [cD, iw, aJ]
   obtain ⟨W, Y, e1, U1⟩ := Nn v (by omega) q.1 (mm T) r n
   rw [e1]
   simp only [aA]
   have L : pp (C ++ [x]) := by unfold pp; simp; omega
   have u : qe (C ++ [x]) := fun c y => by
    rcases aO.1 y with h | h
    ·exact t c h
    ·simp at h; subst h; exact q.1
   have g1 : oM (C ++ [x]) T r n := g.mono (fun c y => cA _ y)
   obtain ⟨T2, U, n2, e2, g2, x2, c2⟩ := L5 L u g1 (C ++ [x]) W Y (c := x) (by simp)
   rw [e2]
   simp only [aA]
   have z : ∀ c ∈ C ++ [x], CU c T2 U := fun c y => by
    rcases aO.1 y with h | h
    ·exact (j c h).ext x2
    ·simp at h; subst h; exact c2
   obtain ⟨C', T', d, i, p, e, m, I, a2, a3⟩ := Hv s A l g2 z U1 u (by simp; omega)
   refine ⟨C', T', d, i, p, e, m, fun c => ?_, by simp at a2 ⊢; omega, fun f O => a3 f (x2.kO f O)⟩
   rw [I]
   simp only [aO, aM, dm, fj]
   constructor
   ·rintro ((h | h) | h)
    ·exact .inl h
    ·subst h; exact .inr ⟨.inl rfl, q.1⟩
    ·exact .inr ⟨.inr h.1, h.2⟩
   ·rintro (h | ⟨h | h, G⟩)
    ·exact .inl (.inl h)
    ·exact .inl (.inr h)
    ·exact .inr ⟨h, G⟩
  ·have O : (kG x && !b) = false := by
    cases hr : kG x with
    | false => rfl
    | true =>
     have : x ∈ C := ez fun R => q ⟨hr, R⟩
     rw [w.2 this]; rfl
   rw [O]
   simp only [aB, aF]
   obtain ⟨C', T', d, i, p, e, m, I, a2, a3⟩ := Hv s A l g j v t (by omega)
   refine ⟨C', T', d, i, p, e, m, fun c => ?_, by simp; omega, a3⟩
   rw [I, aM]
   constructor
   ·rintro (h | h)
    ·exact .inl h
    ·exact .inr ⟨.inr h.1, h.2⟩
   ·rintro (h | ⟨h | h, G⟩)
    ·exact .inl h
    ·subst h
     exact .inl (ez fun R => q ⟨G, R⟩)
    ·exact .inr ⟨h, G⟩
theorem Np {C : List iY} {T : nG} {i : List (iX × List iY)} {ws : List (ByteArray × List iY)} {n : Int} (h : MS C T i ws n) (l : List iY) (m : C.length + l.length ≤ 1000000) :
  ∃ C' T' b d g, rn (mm T) C i ws [] n l = some (g - n, mm T', C', b, d, [], g) ∧ MS C' T' b d g ∧ (∀ c, c ∈ C' ↔ c ∈ C ∨ (c ∈ l ∧ kG c = true)) ∧ C'.length ≤ C.length + l.length ∧ (∀ f ∈ FS T, f ∈ FS T') := by
 have j : pp C := by unfold pp; omega
 have h1 := h.BN.len
 have o := j.sq
 have p := h.BN.num
 exact Hv n ⟨by omega, by omega⟩ l h.BN h.cl h.PP h.right m
theorem Ct.zero : Ct [] [] [] := ⟨fun r c => by simp [jX], fun w c => by simp [jX], fun r => by simp [jX], fun w => by simp [jX]⟩
theorem oM.zero : oM [] [] [] 0 := ⟨by simp, by simp [FS], by simp, by simp, by simp [FS], by simp [FS]⟩
theorem MS.zero : MS [] [] [] [] 0 := ⟨oM.zero, fun c b => (by cases b), Ct.zero, fun c b => (by cases b)⟩
theorem Je (l : List iY) (i : l.length ≤ 1000000) : ∃ C T g ws n, uv l = some (mm T, C, g, ws, [], n) ∧ MS C T g ws n ∧ (∀ c, c ∈ C ↔ c ∈ l ∧ kG c = true) ∧ C.length ≤ l.length := by
 unfold uv
 obtain ⟨C', T', b, d, j, e, m, h, a2, a3⟩ := Np MS.zero l (by simpa using i)
 rw [show rn [] [] [] [] [] 0 l = _ from e]
 exact ⟨C', T', b, d, j, rfl, m, by simpa using h, by simpa using a2⟩
theorem nB.congr {C C' : List iY} (h : ∀ c, c ∈ C ↔ c ∈ C') (f : jg) : nB C f ↔ nB C' f := ⟨fun d => d.mono (fun c b => (h c).1 b), fun d => d.mono (fun c b => (h c).2 b)⟩
def wF (a b : jg) : Bool := zh a.iX b.iX || (jr a.iX b.iX && oJ a.jM b.jM)
theorem yl {a b : jg} : wF a b = true ↔ zh a.iX b.iX = true ∨ (a.iX = b.iX ∧ oJ a.jM b.jM = true) := by simp [wF, js]
def Be (_ : jg) : Bool := true
theorem Ef : xN (fun a b => wF a b = true) (fun x => Be x = true) := by
 have H := Pa (fun _ => True)
 refine ⟨fun x _ => ?_, fun x y z _ _ _ h1 c => ?_, fun x y _ _ => ?_⟩
 ·rw [yl]
  rintro (h | ⟨_, h⟩)
  ·exact H.irrefl _ trivial h
  ·rw [qE] at h; cases h
 ·rw [yl] at *
  rcases h1 with h1 | ⟨g, h1⟩
  ·rcases c with c | ⟨d, c⟩
   ·exact .inl (H.trans _ _ _ trivial trivial trivial h1 c)
   ·exact .inl (by rw [← d]; exact h1)
  ·rcases c with c | ⟨d, c⟩
   ·exact .inl (by rw [g]; exact c)
   ·exact .inr ⟨g.trans d, xF h1 c⟩
 ·simp only [yl]
  rcases H.total x.iX y.iX trivial trivial with h | h | h
  ·exact .inl (.inl h)
  ·rcases xD x.jM y.jM with c | c | c
   ·exact .inl (.inr ⟨h, c⟩)
   ·refine .inr (.inl ?_)
    cases x; cases y; simp at h c; simp [h, c]
   ·exact .inr (.inr (.inr ⟨h.symm, c⟩))
  ·exact .inr (.inr (.inl h))
theorem Ei (a b : ByteArray) : nQ a b = 0 ↔ a = b := by unfold nQ; rw [DI]; exact ⟨xz, fun h => by rw [h]⟩
theorem OT (a b : ByteArray) : nQ a b < 0 ↔ oJ a b = true := by rw [vG]; exact Ak _ _
theorem Km (a b : iX) : ∃ c, pL a b = some c ∧ (c < 0 ↔ zh a b = true) ∧ (c = 0 ↔ a = b) := by
 obtain ⟨c, e, h⟩ := ya a b
 refine ⟨c, e, h, ?_⟩
 unfold pL at e
 simp only [ob, my, aA, sC, qi, nq] at e
 by_cases d : nQ a.ja b.ja = 0
 ·rw [aU (by simp [d])] at e
  have h1 := (Ei _ _).1 d
  by_cases g : nQ a.Word b.Word = 0
  ·rw [aU (by simp [g])] at e
   have i := (Ei _ _).1 g
   cases e
   refine ⟨fun _ => ?_, fun _ => rfl⟩
   cases a; cases b; simp at h1 i; simp [h1, i]
  ·rw [aW (by simp [g])] at e
   cases e
   exact ⟨fun k => absurd k g, fun k => by rw [k] at g; exact absurd ((Ei _ _).2 rfl) g⟩
 ·rw [aW (by simp [d])] at e
  cases e
  exact ⟨fun k => absurd k d, fun k => by rw [k] at d; exact absurd ((Ei _ _).2 rfl) d⟩
theorem Lm (a b : jg) : ∃ c, oA a b = some c ∧ (c < 0 ↔ wF a b = true) := by
 unfold oA
 obtain ⟨c, e, h1, i⟩ := Km a.iX b.iX
 rw [e]
 simp only [ob, my, aA, sC, qi, nq]
 by_cases g : c = 0
 ·rw [aU (by simp [g])]
  have l := i.1 g
  have d : ¬ zh a.iX b.iX = true := fun j => by have := h1.2 j; omega
  by_cases h : nQ a.jM b.jM = 0
  ·rw [aU (by simp [h])]
   refine ⟨0, rfl, ?_⟩
   rw [yl]
   simp [d, (Ei _ _).1 h, qE]
  ·rw [aW (by simp [h])]
   refine ⟨_, rfl, ?_⟩
   rw [yl, OT]
   exact ⟨fun k => .inr ⟨l, k⟩, fun k => k.elim (fun k => absurd k d) (·.2)⟩
 ·rw [aW (by simp [g])]
  refine ⟨c, rfl, ?_⟩
  rw [yl, h1]
  have : a.iX ≠ b.iX := fun k => g (i.2 k)
  simp [this]
theorem Iy {α : Type} {eq : α → α → Bool} (he : ∀ x y, eq x y = true ↔ x = y) : ∀ (l : List α) (p : α), (p :: l).Nodup → lU eq p l = l
 | [], p, _ => rfl
 | y :: l, p, h => by
  have h1 := cT.1 h
  rw [lU, aU (fun e => h1.1 (by rw [← (he _ _).1 e]; simp)), Iy he l y h1.2]
theorem O0 {α : Type} {eq : α → α → Bool} (he : ∀ x y, eq x y = true ↔ x = y) : ∀ l : List α, l.Nodup → dd eq l = l
 | [], _ => rfl
 | x :: l, h => by rw [dd, Iy he l x h]
def yv (P : jg → Prop) (s : List jg) : Prop := s.Pairwise (fun a b => wF a b = true) ∧ ∀ f, f ∈ s ↔ P f
theorem yv.unique {P : jg → Prop} {s t : List jg} (h : yv P s) (k : yv P t) : s = t :=
 tP.unique (l := s) Ef ⟨h.1, fun x => ⟨fun b => ⟨b, rfl⟩, fun b => b.1⟩⟩ ⟨k.1, fun x => by rw [k.2, h.2]; exact ⟨fun b => ⟨b, rfl⟩, fun b => b.1⟩⟩
theorem Em {l : List jg} (d : l.Nodup) (j : l.length ≤ 1000000000000) : ∃ s, xh (fun (x : jg × jg) => oA x.1 x.2) l = some s ∧ yv (fun f => f ∈ l) s := by
 obtain ⟨s, h1, i, c⟩ := Dh (eq := yr) (lt := fun a b => wF a b = true) (P := fun x => Be x = true) (cf := fun (x : jg × jg) => oA x.1 x.2) (l := l) (fun x y => uP) Ef (fun _ _ => rfl) (by omega) (fun x y _ _ => Lm x y)
 have g : s.Nodup := by
  have := (EE h1).2
  rw [this]
  unfold qR
  exact (gC l _).nodup_iff.2 d
 rw [O0 (fun x y => uP) s g] at c
 exact ⟨s, h1, c.1, fun f => by rw [c.2]; exact ⟨fun h => h.1, fun h => ⟨h, rfl⟩⟩⟩
theorem No (T : nG) : (mm T).flatMap (fun p => p.2.map (fun q => (fun (a : iX) (b : ByteArray) => (⟨a, b⟩ : jg)) p.1 q.1)) = FS T := by
 unfold mm FS tt
 rw [List.flatMap_map]
 congr 1
 funext p
 simp [eZ]
theorem LL {C : List iY} (j : pp C) {T : nG} {p : List (iX × List iY)} {ws : List (ByteArray × List iY)} {n : Int} (h : MS C T p ws n) (cs : List iY) (u : List (iX × List iY)) (w : List (ByteArray × List iY)) (m : List jg) (z : Int) :
  ∃ s, tE (mm T) cs u w m z = some s ∧ yv (nB C) s := by
 have l := j.sq
 have hlen := h.BN.len
 obtain ⟨s, q, i⟩ := Em h.BN.nd (by omega)
 have g : yv (nB C) s := ⟨i.1, fun f => (i.2 f).trans (h.all f)⟩
 refine ⟨s, ?_, g⟩
 unfold tE J4
 rw [No]
 rw [aW ⟨by omega, by unfold maxLen; omega⟩]
 simp only [aA, nq]
 refine DS (fun o c => ?_)
 obtain ⟨r, d, b⟩ := Em ((c.nodup_iff).2 h.BN.nd) (by rw [c.length_eq]; omega)
 rw [d]
 congr 1
 exact yv.unique ⟨b.1, fun f => (b.2 f).trans (c.mem_iff.trans (h.all f))⟩ g
theorem L6 (r : iX) (w : ByteArray) : ∀ l : List jg, ∃ b, uZ r w l = some b ∧ (b = true ↔ (⟨r, w⟩ : jg) ∈ l)
 | [] => ⟨false, rfl, by simp⟩
 | x :: l => by
  rw [uZ]
  simp only [Bk, aA]
  obtain ⟨b, e, g⟩ := L6 r w l
  by_cases h : (jr x.iX r && jP x.jM w) = true
  ·rw [aW h]
   have c : x = ⟨r, w⟩ := by
    rw [aP, js, kU] at h
    cases x; simp at h; simp [h]
   exact ⟨true, rfl, by simp [c]⟩
  ·rw [aU h]
   refine ⟨b, e, ?_⟩
   rw [g, aM]
   refine ⟨.inr, fun d => d.resolve_left (fun e => h ?_)⟩
   rw [← e]; simp [ub, sP]
theorem wK (l : List jg) (r : iX) (w : ByteArray) : ∃ b, ta l r w = some b ∧ (b = true ↔ (⟨r, w⟩ : jg) ∈ l) := L6 r w l
def uy (l : List jg) (c : iY) (names : List ByteArray) (w : ByteArray) : Prop :=
 (c.Kind = 1 ∧ c.jM = w) ∨ (c.Kind = 2 ∧ (⟨c.B, w⟩ : jg) ∈ l) ∨ (c.Kind = 4 ∧ (⟨c.B, w⟩ : jg) ∈ l ∧ (⟨c.C, w⟩ : jg) ∈ l) ∨
 (c.Kind ≠ 1 ∧ c.Kind ≠ 2 ∧ c.Kind ≠ 4 ∧ ∃ b ∈ names, (⟨c.B, b⟩ : jg) ∈ l ∧ (⟨⟨b, c.ki⟩, w⟩ : jg) ∈ l)
theorem DV (l : List jg) (c : iY) (w : ByteArray) : ∀ names : List ByteArray, ∃ b, tM l c w names = some b ∧ (b = true ↔ ∃ b ∈ names, (⟨c.B, b⟩ : jg) ∈ l ∧ (⟨⟨b, c.ki⟩, w⟩ : jg) ∈ l)
 | [] => ⟨false, rfl, by simp⟩
 | x :: names => by
  rw [tM]
  obtain ⟨i, m, h1⟩ := wK l c.B x
  obtain ⟨j, n, g⟩ := wK l ⟨x, c.ki⟩ w
  obtain ⟨b, e, o⟩ := DV l c w names
  rw [m, n, e]
  simp only [aA, Bk]
  by_cases h : (i && j) = true
  ·rw [aW h]
   rw [aP, h1, g] at h
   exact ⟨true, rfl, by simp [h]⟩
  ·rw [aU h]
   rw [aP, h1, g] at h
   refine ⟨b, rfl, ?_⟩
   rw [o]
   constructor
   ·rintro ⟨y, d, q⟩; exact ⟨y, by simp [d], q⟩
   ·rintro ⟨y, d, q⟩
    rcases aM.1 d with rfl | d
    ·exact absurd q h
    ·exact ⟨y, d, q⟩
theorem M2 (l : List jg) (c : iY) (names : List ByteArray) (w : ByteArray) : ∃ b, yB l c names w = some b ∧ (b = true ↔ uy l c names w) := by
 unfold yB uy
 simp only [nq]
 by_cases h1 : c.Kind = 1
 ·rw [aW (by simp [h1])]; exact ⟨_, rfl, by simp [h1, kU]⟩
 rw [aU (by simp [h1])]
 by_cases d : c.Kind = 2
 ·rw [aW (by simp [d])]
  obtain ⟨b, e, h⟩ := wK l c.B w
  exact ⟨b, e, by simp [d, h]⟩
 rw [aU (by simp [d])]
 by_cases g : c.Kind = 4
 ·rw [aW (by simp [g])]
  obtain ⟨o, m, i⟩ := wK l c.B w
  obtain ⟨p, n, j⟩ := wK l c.C w
  rw [m, n]
  simp only [aA, Bk]
  exact ⟨_, rfl, by simp [g, i, j]⟩
 rw [aU (by simp [g])]
 obtain ⟨b, e, h⟩ := DV l c w names
 exact ⟨b, e, by rw [h]; simp [h1, d, g]⟩
theorem uy.uK {C : List iY} {l : List jg} (d : ∀ f ∈ l, nB C f) {c : iY} (g : c ∈ C) (hk : c.Kind = 1 ∨ c.Kind = 2 ∨ c.Kind = 3 ∨ c.Kind = 4) {names : List ByteArray} {w : ByteArray} (h : uy l c names w) : nB C ⟨c.Head, w⟩ := by
 rcases h with ⟨k, rfl⟩ | ⟨k, h⟩ | ⟨k, h1, i⟩ | ⟨j, k2, m, b, _, h1, i⟩
 ·exact .mem c g k
 ·exact .inc c w g k (d _ h)
 ·exact .both c w g k (d _ h1) (d _ i)
 ·exact .D3 c b w g (by omega) (d _ h1) (d _ i)
theorem Jc {c : iY} (h : kG c = true) : c.Kind = 1 ∨ c.Kind = 2 ∨ c.Kind = 3 ∨ c.Kind = 4 := by rcases nr h with h | h | h | h <;> simp [h.1]
structure Cj (C : List iY) (out : List jg) : Prop where
 nd : out.Nodup
 uK : ∀ f ∈ out, nB C f
theorem Cj.len {C : List iY} {out : List jg} (h : Cj C out) : out.length ≤ C.length * C.length := by
 rw [← AY]; exact lh h.nd (fun f b => (h.uK f b).Dd)
theorem DC {C : List iY} (s : pp C) (t : qe C) {c : iY} (n : c ∈ C) (names : List ByteArray) : ∀ (l : List ByteArray) (out : List jg) (i : Bool), Cj C out →
  ∃ g d, tj c names l out i = some (g, d) ∧ Cj C g ∧ (d = true → i = true ∨ out.length < g.length) ∧ (d = false → i = false ∧ g = out ∧ ∀ w ∈ l, uy out c names w → (⟨c.Head, w⟩ : jg) ∈ out) ∧ out.length ≤ g.length
 | [], out, i, h => ⟨out, i, rfl, h, .inl, fun h => ⟨h, rfl, fun _ hw => by cases hw⟩, aQ _⟩
 | w :: l, out, i, h => by
  rw [tj]
  obtain ⟨y, G, h1⟩ := wK out c.Head w
  obtain ⟨E, I, z⟩ := M2 out c names w
  rw [G, I]
  simp only [aA, Bk]
  by_cases j : (!y && E) = true
  ·rw [aW j]
   rw [aP] at j
   have u : (⟨c.Head, w⟩ : jg) ∉ out := fun L => by have := h1.2 L; rw [this] at j; exact absurd j.1 (by decide)
   have O := h.len
   have M := s.sq
   rw [kQ (by simp; omega) (by simp; omega)]
   simp only [aA]
   have J : Cj C (out ++ [⟨c.Head, w⟩]) := ⟨bO.2 ⟨h.nd, by simp, fun a ha b j e => by simp at j; subst j; subst e; exact u ha⟩, fun f m => by
    rcases aO.1 m with m | m
    ·exact h.uK f m
    ·simp at m; subst m; exact (z.1 j.2).uK h.uK n (Jc (t c n))⟩
   obtain ⟨g, d, e, o, a2, a3, a4⟩ := DC s t n names l _ true J
   simp at a4
   exact ⟨g, d, e, o, fun _ => .inr (by omega), fun m => (by cases (a3 m).1), by omega⟩
  ·rw [aU j]
   obtain ⟨g, d, e, o, a2, a3, a4⟩ := DC s t n names l out i h
   refine ⟨g, d, e, o, a2, fun m => ?_, a4⟩
   obtain ⟨p, q, r⟩ := a3 m
   refine ⟨p, q, fun v x A => ?_⟩
   rcases aM.1 x with rfl | x
   ·refine ez fun u => j ?_
    rw [aP, z.2 A]
    cases y with
    | false => exact ⟨rfl, rfl⟩
    | true => exact absurd (h1.1 rfl) u
   ·exact r v x A
theorem GZ {C : List iY} (o : pp C) (p : qe C) (names : List ByteArray) : ∀ (l : List iY) (out : List jg) (b : Bool), (∀ c ∈ l, c ∈ C) → Cj C out →
  ∃ g i, vj names l out b = some (g, i) ∧ Cj C g ∧ (i = true → b = true ∨ out.length < g.length) ∧ (i = false → b = false ∧ g = out ∧ ∀ c ∈ l, ∀ w ∈ names, uy out c names w → (⟨c.Head, w⟩ : jg) ∈ out) ∧ out.length ≤ g.length
 | [], out, b, _, h => ⟨out, b, rfl, h, .inl, fun h => ⟨h, rfl, fun _ hw => by cases hw⟩, aQ _⟩
 | c :: l, out, b, q, h => by
  rw [vj]
  obtain ⟨y, c1, v, r, a2, a3, a4⟩ := DC o p (q c (by simp)) names names out b h
  rw [v]
  simp only [aA]
  obtain ⟨z, c2, x, s, t, u, M⟩ := GZ o p names l y c1 (fun d j => q d (by simp [j])) r
  refine ⟨z, c2, x, s, fun m => ?_, fun m => ?_, by omega⟩
  ·rcases t m with h1 | h1
   ·rcases a2 h1 with n | n
    ·exact .inl n
    ·exact .inr (by omega)
   ·exact .inr (by omega)
  ·obtain ⟨A, E, G⟩ := u m
   obtain ⟨I, J, L⟩ := a3 A
   subst J
   refine ⟨I, E, fun d j => ?_⟩
   rcases aM.1 j with rfl | j
   ·exact L
   ·exact G d j
def zF : jg := ⟨⟨zS, zS⟩, zS⟩
theorem GW (a b : jg) : si a b = some (wF a b) := by
 unfold si wF
 simp only [zn, aA, Bk, NC]
def NL (a : List jg) (b : Int) (p : Bool × jg) : Prop := (p.1 = false ∧ b = -1) ∨ (p.1 = true ∧ 0 ≤ b ∧ kp a b = some p.2)
theorem zq (out a : List jg) (g : out.length < 4611686018427387904) : ∀ (rest A : List jg) (b : Int) (p : Bool × jg), a = A ++ rest → NL a b p →
  ∃ c, od out a rest A.length b = some c ∧ NL a c (pC Be wF out.getLast? rest p.1 p.2)
 | [], A, b, p, ha, i => ⟨b, rfl, i⟩
 | x :: rest, A, b, p, ha, i => by
  rw [od, pC]
  simp only [Be, dq]
  have h1 : ((if ((out.length : Int) == 0) = true then some true else (kp out (wi0 .i64 ((out.length : Int) - 1))).bind fun y => (si y x).bind fun r => some r) : Option Bool) = some (out.getLast?.all fun y => wF y x) := by
   rcases cQ out with h | ⟨B, z, h⟩
   ·subst h; rfl
   ·subst h
    rw [aU (by simp; omega)]
    rw [dC] at g ⊢
    rw [DF B z (by simp at g; omega)]
    simp [GW]
  have n : ((if decide (b < 0) = true then some true else (kp a b).bind fun y => (si x y).bind fun r => some r) : Option Bool) = some (!p.1 || wF x p.2) := by
   rcases i with ⟨j, l⟩ | ⟨j, l, m⟩
   ·rw [aW (by simp [l]), j]; rfl
   ·rw [aU (by simpa using l), m, j]
    simp [GW]
  rw [h1]
  simp only [aA]
  rw [n]
  simp only [aA, Bk]
  have o : kp a (A.length : Int) = some x := by rw [ha]; exact lV A x rest _ rfl
  by_cases d : ((out.getLast?.all fun y => wF y x) && (!p.1 || wF x p.2)) = true
  ·rw [aW d, aW d]
   have := zq out a g rest (A ++ [x]) (A.length : Int) (true, x) (by rw [ha]; simp) (.inr ⟨rfl, by simp, o⟩)
   simpa using this
  ·rw [aU d, aU d]
   have := zq out a g rest (A ++ [x]) b p (by rw [ha]; simp) i
   simpa using this
theorem De {out a : List jg} (d : out.length < 4611686018427387904) (h : (pC Be wF out.getLast? a false zF).1 = false) : ∀ CY : List jg, nZ a CY out = some out
 | [] => rfl
 | x :: CY => by
  rw [nZ]
  obtain ⟨b, e, i⟩ := zq out a d a [] (-1) (false, zF) rfl (.inl ⟨rfl, rfl⟩)
  rw [show od out a a 0 (-1) = some b from e]
  simp only [aA]
  rcases i with ⟨_, g⟩ | ⟨c, _⟩
  ·rw [aU (by simp [g])]; exact De d h CY
  ·rw [h] at c; cases c
theorem FI (a : List jg) : ∀ (CY : List jg) (out s : List jg), xK 48 Be wF zF a (CY.length + 1) out = some s → s.length < 4611686018427387904 → nZ a CY out = some s ∧ out.length ≤ s.length
 | [], out, s, h, i => by
  rw [xK] at h
  cases hp : (pC Be wF out.getLast? a false zF).1 with
  | false =>
   rw [hp] at h
   simp only [cD, aJ] at h
   cases h
   exact ⟨rfl, aQ _⟩
  | true =>
   rw [hp] at h
   simp only [bQ, aB, aF] at h
   obtain ⟨o, c, h⟩ := bind_some h
   replace h : xK 48 Be wF zF a 0 o = some s := h
   rw [xK] at h
   cases h
 | x :: CY, out, s, h, i => by
  rw [xK] at h
  cases hp : (pC Be wF out.getLast? a false zF).1 with
  | false =>
   rw [hp] at h
   simp only [cD, aJ] at h
   cases h
   exact ⟨De i hp _, aQ _⟩
  | true =>
   rw [hp] at h
   simp only [bQ, aB, aF] at h
   obtain ⟨o, c, h⟩ := bind_some h
   have g := c
   unfold kN at c
   split at c
   case isFalse => cases c
   cases c
   obtain ⟨n, k2⟩ := FI a CY _ s h i
   simp at k2
   rw [nZ]
   obtain ⟨b, e, m⟩ := zq out a (by omega) a [] (-1) (false, zF) rfl (.inl ⟨rfl, rfl⟩)
   rw [show od out a a 0 (-1) = some b from e]
   simp only [aA]
   rcases m with ⟨d, _⟩ | ⟨d, j, l⟩
   ·rw [hp] at d; cases d
   ·rw [aW (by simpa using j), l]
    simp only [aA]
    rw [g]
    exact ⟨n, by omega⟩
theorem Ki (l : List jg) (d : l.length ≤ 1000000000) : ∃ s, Aq l = some s ∧ yv (fun f => f ∈ l) s := by
 obtain ⟨s, h1, b⟩ := zD Ef (w := 48) (by omega) zF l d (l.length + 1) [] (by simp) (by simp) (fun x c => by cases c) (fun x _ _ => .inr rfl)
 have hlen : s.length ≤ l.length := lh (rY Ef (fun _ _ => rfl) b.1) (fun x c => ((b.2 x).1 c).1)
 exact ⟨s, (FI l l [] s h1 (by omega)).1, b.1, fun f => by rw [b.2]; exact ⟨fun h => h.1, fun h => ⟨h, rfl⟩⟩⟩
theorem Hp : ∀ (l : List iY) (acc : List ByteArray), acc.length + 4 * l.length ≤ 1000000000 → rf l acc = zP (acc ++ l.flatMap fun c => [c.jM, c.Head.ja, c.B.ja, c.C.ja])
 | [], acc, _ => by rw [rf]; simp [nq]
 | c :: l, acc, h => by
  rw [rf]
  simp only [aH] at h
  rw [kQ (by simp; omega) (by simp; omega)]
  simp only [aA]
  rw [Hp l _ (by simp; omega)]
  simp
def SM (C : List iY) : Prop := C.length ≤ 30000
theorem SM.small {C : List iY} (h : SM C) : pp C := by unfold SM at h; unfold pp; omega
theorem SM.sq {C : List iY} (h : SM C) : C.length * C.length ≤ 900000000 := Nat.mul_le_mul h h
theorem La {C : List iY} (d : SM C) (i : qe C) : ∃ names, xL C = some names ∧ ∀ c ∈ C, c.Kind = 1 → c.jM ∈ names := by
 have g : C.length ≤ 30000 := d
 unfold xL
 rw [Hp C [] (by simp; omega)]
 obtain ⟨s, e, j⟩ := MX ([] ++ C.flatMap fun c => [c.jM, c.Head.ja, c.B.ja, c.C.ja]) (by
  have : ∀ l : List iY, (l.flatMap fun c => [c.jM, c.Head.ja, c.B.ja, c.C.ja]).length = 4 * l.length := fun l => by
   induction l with
   | nil => rfl
   | cons x l ih => simp [ih]; omega
  rw [aX, this]; omega)
 refine ⟨s, e, fun c b hk => (j.2 _).2 ⟨?_, ?_⟩⟩
 ·rw [aX]; exact iE.2 ⟨c, b, by simp⟩
 ·rcases nr (i c b) with h | h | h | h
  ·exact h.2.1
  ·exact absurd (hk.symm.trans h.1) (by decide)
  ·exact absurd (hk.symm.trans h.1) (by decide)
  ·exact absurd (hk.symm.trans h.1) (by decide)
theorem IU {C : List iY} (p : qe C) {names : List ByteArray} (n : ∀ c ∈ C, c.Kind = 1 → c.jM ∈ names) {out : List jg} (h : ∀ c ∈ C, ∀ w ∈ names, uy out c names w → (⟨c.Head, w⟩ : jg) ∈ out) {f : jg} (m : nB C f) : f ∈ out := by
 have hw : ∀ f, nB C f → f.jM ∈ names := fun f m => by
  obtain ⟨c, d, hk, e⟩ := m.H3
  rw [← e]; exact n c d hk
 induction m with
 | mem c d hk => exact h c d _ (n c d hk) (.inl ⟨hk, rfl⟩)
 | inc c w d hk o ih => exact h c d w (hw _ o) (.inr (.inl ⟨hk, ih⟩))
 | D3 c b w d hk g l i j => exact h c d w (hw _ l) (.inr (.inr (.inr ⟨by omega, by omega, by omega, b, hw _ g, i, j⟩)))
 | both c w d hk g l i j => exact h c d w (hw _ g) (.inr (.inr (.inl ⟨hk, i, j⟩)))
theorem GK {C : List iY} (b : SM C) (d : qe C) {names : List ByteArray} (i : ∀ c ∈ C, c.Kind = 1 → c.jM ∈ names) : ∀ (m : Nat) (out : List jg), Cj C out → C.length * C.length < m + out.length →
  ∃ s, vl names C m out = some s ∧ yv (nB C) s
 | 0, out, h, hm => by have := h.len; omega
 | m + 1, out, h, hm => by
  rw [vl]
  obtain ⟨o, c, e, j, a2, a3, a4⟩ := GZ b.small d names C out false (fun _ h => h) h
  rw [e]
  simp only [aA, nq]
  cases c with
  | false =>
   simp only [cD, aJ]
   obtain ⟨_, l, n⟩ := a3 rfl
   subst l
   have r := h.len
   have q := b.sq
   obtain ⟨s, p, g⟩ := Ki o (by omega)
   exact ⟨s, p, g.1, fun f => (g.2 f).trans ⟨h.uK f, IU d i n⟩⟩
  | true =>
   simp only [bQ, aB, aF]
   rcases a2 rfl with h1 | h1
   ·cases h1
   ·exact GK b d i m o j (by omega)
theorem MU (l : List iY) (q : l.length ≤ 30000) : ∃ C s, uq l = some s ∧ yv (nB C) s ∧ ∀ c, c ∈ C ↔ c ∈ l ∧ kG c = true := by
 unfold uq
 obtain ⟨C, e, d⟩ := Ij l (by omega)
 have hlen := yY AO d
 have b : SM C := by unfold SM; omega
 have g : qe C := fun c m => ((d.2 c).1 m).2
 obtain ⟨names, h, o⟩ := La b g
 rw [e]
 simp only [aA]
 rw [h]
 simp only [aA]
 have p := b.sq
 obtain ⟨s, i, j⟩ := GK b g o jB [] ⟨by simp, fun f n => by cases n⟩ (by rw [uz]; simp; omega)
 exact ⟨C, s, i, j, d.2⟩
theorem zM (w : ByteArray) : ∀ (l : List jg) (acc : List iX), acc.length + l.length ≤ 1000000000 → pP w l acc = some (acc ++ (l.filter fun f => jP f.jM w).map (·.iX))
 | [], acc, _ => by rw [pP]; simp
 | x :: l, acc, h => by
  rw [pP]
  simp only [aH] at h
  by_cases b : jP x.jM w = true
  ·rw [aW b, kQ (by simp; omega) (by simp; omega)]
   simp only [aA]
   rw [zM w l _ (by simp; omega)]
   simp [b]
  ·rw [aU b, zM w l acc (by omega)]
   simp [b]
theorem MJ {P : jg → Prop} {s t : List jg} (h : yv P s) (c : ∀ f, P f → f ∈ t) : s.length ≤ t.length := lh (rY Ef (fun _ _ => rfl) h.1) (fun f b => c f ((h.2 f).1 b))
theorem MF {C : List iY} {s : List jg} (h : yv (nB C) s) (b : SM C) : s.length ≤ 900000000 := by
 have := MJ h (t := Dd C) (fun f c => c.Dd)
 rw [AY] at this
 have := b.sq
 omega
theorem Kz {C : List iY} {T : nG} {d : List (iX × List iY)} {ws : List (ByteArray × List iY)} {n : Int} (h : MS C T d ws n) (cs : List iY) (u : List (iX × List iY)) (w : List (ByteArray × List iY)) (c : List jg) (z : Int) (r : iX) (H3 : ByteArray) :
  ∃ b, ri (mm T) cs u w c z r H3 = some b ∧ (b = true ↔ nB C ⟨r, H3⟩) :=
 ⟨_, rfl, by rw [qD h.BN.keys, h.all]⟩
def qA : iX := ⟨⟨#[97]⟩, ⟨#[114]⟩⟩
def qB : iX := ⟨⟨#[98]⟩, ⟨#[115]⟩⟩
def qd : ByteArray := ⟨#[100]⟩
def j1 : iY := ⟨2, qA, zS, qB, ⟨zS, zS⟩, zS⟩
def j2 : iY := ⟨1, qB, qd, ⟨zS, zS⟩, ⟨zS, zS⟩, zS⟩
theorem uy.own {l : List jg} {c : iY} {names : List ByteArray} {w : ByteArray} (h : uy l c names w) : uy l c (l.map (·.jM)) w := by
 rcases h with h | h | h | ⟨g, i, j, b, _, d, m⟩
 ·exact .inl h
 ·exact .inr (.inl h)
 ·exact .inr (.inr (.inl h))
 ·exact .inr (.inr (.inr ⟨g, i, j, b, bG.2 ⟨_, d, rfl⟩, d, m⟩))
theorem uy.subset {a b : List jg} {c : iY} {names : List ByteArray} {w : ByteArray} (h : uy a c names w) (d : ∀ f ∈ a, f ∈ b) : uy b c names w := by
 rcases h with h | h | h | ⟨i, j, l, g, m, n, o⟩
 ·exact .inl h
 ·exact .inr (.inl ⟨h.1, d _ h.2⟩)
 ·exact .inr (.inr (.inl ⟨h.1, d _ h.2.1, d _ h.2.2⟩))
 ·exact .inr (.inr (.inr ⟨i, j, l, g, m, d _ n, d _ o⟩))
def up (w : ByteArray) (g : ByteArray → Nat) : ByteArray → Nat := fun x => if jP w x = true then g x + 1 else g x
theorem JU (F : List jg) (w : ByteArray) (b : F.length ≤ 1000000000) : ry F w = some ((F.filter fun f => jP f.jM w).map (·.iX)) := by
 unfold ry
 rw [zM w F [] (by simp; omega)]
 simp
def tot {α : Type} (b : List (List α)) : Nat := (b.map List.length).sum
instance PV : DecidableEq iX := fun a b => decidable_of_iff (jr a b = true) js
def EJ (F : List jg) (w : ByteArray) : List iX := (F.filter fun f => jP f.jM w).map (·.iX)
structure Oq (l : List iY) (F : List jg) : Prop where
 len : l.length ≤ 30000
 C : ∃ C : List iY, yv (nB C) F ∧ (∀ c, c ∈ C ↔ c ∈ l ∧ kG c = true) ∧ SM C
 ref : uq l = some F
theorem OG (l : List iY) (h : l.length ≤ 30000) : ∃ F, Oq l F := by
 obtain ⟨C, F, e, h1, i⟩ := MU l h
 obtain ⟨C1, T, m, ws, n, j, m1, b, g⟩ := Je l (by omega)
 have d : ∀ c, c ∈ C ↔ c ∈ C1 := fun c => by rw [i, b]
 exact ⟨F, h, ⟨C1, ⟨h1.1, fun f => (h1.2 f).trans (nB.congr d f)⟩, b, by unfold SM; omega⟩, e⟩
theorem Oq.PI {l : List iY} {F : List jg} (h : Oq l F) : F.length ≤ 900000000 := by
 obtain ⟨C, h1, c, b⟩ := h.C
 exact MF h1 b
def B8 (l : List Int) : Prop := ∀ x ∈ l, 0 ≤ x ∧ x < 256
def I5 : List ByteArray → List Key → Int
 | _, [] => 0
 | seen, k :: l => if mx k.jM = false then 30 else if k.Key.length < 1 ∨ 32 < k.Key.length then 21 else if nc jP seen k.jM = true then 41 else I5 (seen ++ [k.jM]) l
def KP (l : List Key) : List (ByteArray × List Int) := l.map fun k => (k.jM, k.Key)
def KL (l : List Key) (o : ByteArray) : Option (List Int) := jX jP (KP l) o
theorem NS {l : List Int} (h : l.length ≤ 1000000) : rD l = some l := by
 unfold rD
 rw [DK (by simpa using h)]; rfl
theorem Is : ∀ (l : List Key) (seen : List ByteArray), I5 seen l = 0 → ∀ k ∈ l, 1 ≤ k.Key.length ∧ k.Key.length ≤ 32
 | [], _, _, _, hk => by cases hk
 | x :: l, seen, h, k, hk => by
  unfold I5 at h
  split at h
  ·cases h
  split at h
  ·cases h
  split at h
  ·cases h
  rcases aM.1 hk with rfl | hk
  ·omega
  ·exact Is l _ h k hk
theorem Du : ∀ (l : List Key) (o : ByteArray) (b : List Int), KL l o = some b → ∃ k ∈ l, k.Key = b
 | [], o, b, h => by cases h
 | x :: l, o, b, h => by
  unfold KL at h
  rw [show KP (x :: l) = (x.jM, x.Key) :: KP l from rfl, zr] at h
  split at h
  ·cases h; exact ⟨x, by simp, rfl⟩
  ·obtain ⟨k, hk, e⟩ := Du l o b h
   exact ⟨k, by simp [hk], e⟩
def K8 (l : List Key) : Prop := ∀ k ∈ l, B8 k.Key
structure Mk (ks : List Key) (c : iY) (k : List Int) : Prop where
 ok : I5 [] ks = 0
 rt : kG c = true
 lk : KL ks c.Head.ja = some k
theorem Mk.len {b : List Key} {c : iY} {k : List Int} (h : Mk b c k) : 1 ≤ k.length ∧ k.length ≤ 32 := by
 obtain ⟨q, d, rfl⟩ := Du _ _ _ h.lk
 exact Is b [] h.ok q d
theorem Mk.b8 {b : List Key} {c : iY} {k : List Int} (h : Mk b c k) (hk : K8 b) : B8 k := by
 obtain ⟨q, d, rfl⟩ := Du _ _ _ h.lk
 exact hk q d
theorem Mk.unique {b : List Key} {c : iY} {k k' : List Int} (h : Mk b c k) (d : Mk b c k') : k = k' := by
 have := h.lk; rw [d.lk] at this; cases this; rfl
mutual
def wE : Formula → List Int
 | ⟨o, k, r, ks⟩ => o :: (if o = 1 then pZ r else (if o = 4 then [k] else []) ++ ((ks.length : Int) :: bytesFL ks))
def bytesFL : List Formula → List Int
 | [] => []
 | k :: ks => wE k ++ bytesFL ks
end
theorem Fz (f : Formula) : wE f = f.Op :: (if f.Op = 1 then pZ f.iX else (if f.Op = 4 then [f.K] else []) ++ ((f.Kids.length : Int) :: bytesFL f.Kids)) := by cases f; rw [wE]
theorem uO {f : Formula} (h : qz f = true) : f.Kids.length ≤ 8 ∧ wellL f.Kids = true ∧ ((f.Op = 1 ∧ kR f.iX = true ∧ f.Kids = [] ∧ f.K = 0) ∨ ((f.Op = 2 ∨ f.Op = 3) ∧ f.iX = nK ∧ f.K = 0) ∨ (f.Op = 4 ∧ f.iX = nK ∧ 0 ≤ f.K ∧ f.K ≤ (f.Kids.length : Int) ∧ 1 ≤ f.Kids.length)) := by
 rw [A0] at h
 simp only [aP, bD] at h
 obtain ⟨⟨h1, b⟩, d⟩ := h
 refine ⟨b, d, ?_⟩
 unfold zo at h1
 split at h1
 ·rename_i c
  simp only [aP, bD] at h1
  exact .inl ⟨c, h1.1.1, aN h1.1.2, h1.2⟩
 ·split at h1
  ·rename_i c
   simp only [aP, bD, js] at h1
   exact .inr (.inl ⟨c, h1.1, h1.2⟩)
  ·simp only [aP, bD, js] at h1
   exact .inr (.inr ⟨h1.1.1.1.1, h1.1.1.1.2, h1.1.1.2, h1.1.2, h1.2⟩)
theorem J1 : ∀ (n : Nat) (f : Formula), mJ f ≤ n → qz f = true → ∀ l : List Int, l.length + 40 * jE f ≤ 8000 → ot n l f = some (l ++ wE f) ∧ (wE f).length ≤ 40 * jE f := by
 intro n
 induction n with
 | zero => intro f h; rw [lL] at h; omega
 | succ n ih =>
  intro f t hw l r
  rw [lL] at t
  have u := ni f
  obtain ⟨h1, q, o⟩ := uO hw
  rw [ot]
  unfold sW
  have g : 0 ≤ f.Op ∧ f.Op < 128 := by rcases o with h | h | h <;> omega
  rw [vN g.1 g.2 (by omega), aA, Fz]
  have key : ∀ (b : List Formula), (∀ k ∈ b, k ∈ f.Kids) → wellL b = true → ∀ l : List Int, l.length + 40 * nodesL b ≤ 8000 → oQ (ot n) b l = some (l ++ bytesFL b) ∧ (bytesFL b).length ≤ 40 * nodesL b := by
   intro b
   induction b with
   | nil => intro _ _ l _; rw [oQ, bytesFL]; simp
   | cons k b p =>
    intro hk c l r
    rw [wellL, aP] at c
    rw [nodesL] at r
    obtain ⟨j, w⟩ := ih k (by have := pg (hk k (by simp)); omega) c.1 l (by omega)
    obtain ⟨d, m⟩ := p (fun z v => hk z (by simp [v])) c.2 (l ++ wE k) (by simp; omega)
    rw [oQ, j, aA, d, bytesFL, nodesL]
    exact ⟨by simp, by simp; omega⟩
  have hlen : 0 ≤ (f.Kids.length : Int) ∧ (f.Kids.length : Int) < 128 := by omega
  by_cases c1 : f.Op = 1
  ·have s : kR f.iX = true := by rcases o with h | h | h; exact h.2.1; omega; omega
   have := ns s
   simp only [c1, aS, aJ]
   rw [Hm s (by simp; omega), aA]
   exact ⟨by simp, by simp; omega⟩
  ·have j : (f.Op == 1) = false := by simpa using c1
   simp only [j, aB, aF, c1]
   by_cases i : f.Op = 4
   ·have hk : 0 ≤ f.K ∧ f.K < 128 := by rcases o with h | h | h <;> omega
    simp only [i, aS, aJ]
    rw [vN hk.1 hk.2 (by simp; omega)]
    simp only [aA]
    rw [vN hlen.1 hlen.2 (by simp; omega)]
    simp only [aA]
    obtain ⟨d, m⟩ := key f.Kids (fun k hk => hk) q (l ++ [4] ++ [f.K] ++ [(f.Kids.length : Int)]) (by simp; omega)
    rw [d]
    exact ⟨by simp, by simp; omega⟩
   ·have m : (f.Op == 4) = false := by simpa using i
    simp only [m, aB, aF, i, aA]
    rw [vN hlen.1 hlen.2 (by simp; omega)]
    simp only [aA]
    obtain ⟨d, x⟩ := key f.Kids (fun k hk => hk) q (l ++ [f.Op] ++ [(f.Kids.length : Int)]) (by simp; omega)
    rw [d]
    exact ⟨by simp, by simp; omega⟩
def vz (f : Formula) : List Int := if mw f then wE f else []
abbrev Gd (f : Formula) : Prop := jE f ≤ 50000000
theorem wP {f : Formula} (h : mw f = true) : jE f ≤ 64 ∧ mJ f ≤ 6 ∧ qz f = true := by
 unfold mw at h
 simp only [aP, bD] at h
 exact ⟨h.1.1, h.1.2, h.2⟩
theorem Nv (f : Formula) (d : Gd f) (l : List Int) (j : l.length ≤ 5000) : tJ l f = some (mw f, l ++ vz f) ∧ (vz f).length ≤ 2560 := by
 unfold tJ vz
 rw [Bp f d, aA]
 cases h : mw f
 ·simp
 ·obtain ⟨h1, i, c⟩ := wP h
  obtain ⟨b, g⟩ := J1 jB f (by rw [ll]; omega) c l (by omega)
  simp only [bQ, aB, aF, b, aA, aJ]
  exact ⟨trivial, by omega⟩
theorem EI (f : Formula) (c : Gd f) : qw f = some (vz f) := by
 unfold qw
 obtain ⟨b, d⟩ := Nv f c [] (by simp)
 rw [b, aA, nq]
 unfold qU
 simp only [aX]
 rw [NS (by omega)]
 rfl
def yT (f g : Formula) : Int := vC (vz f) (vz g)
theorem Jk (f g : Formula) (b : Gd f) (c : Gd g) : qv f g = some (yT f g) := by
 unfold qv tQ
 rw [EI f b, EI g c]
 rfl
theorem yn (f g : Formula) : mo yT f g = Op.bytesLess (rq (vz f)) (rq (vz g)) := by
 rw [bF]
 have h : mo yT f g = true ↔ yT f g < 0 := by unfold mo; exact decide_eq_true_iff
 exact h.trans (Ak _ _)
theorem Fw : SWO (mo yT) where
 Me x := by rw [yn, sO]
 tr x y z h1 b := by rw [yn] at *; exact vt _ _ _ h1 b
 JW x y z h := by
  rw [yn] at h
  rw [yn, yn]
  rcases yM (rq (vz x)) (rq (vz y)) with h1 | h1 | h1
  ·exact .inl h1
  ·rw [h1] at h; exact .inr h
  ·exact .inr (vt _ _ _ h1 h)
def sJ (l : List Formula) : List Formula := Hd (mo yT) l
theorem Gn (l : List Formula) (b : ∀ x ∈ l, Gd x) (c : l.length ≤ 300000) : sr l = some (sJ l) := by
 unfold sr qb
 rw [kQ (by simp; omega) (by simp; omega)]
 simp only [aA, aX, nq]
 exact IV Fw (fun x y d g => Jk x y d g) l b c
theorem JB {α : Type} (lt : α → α → Bool) (l : List α) (k : α) : (yO lt l k).Perm (l ++ [k]) := by
 unfold yO
 refine List.perm_middle.trans ((List.Perm.cons _ ?_).trans (fk k l).symm)
 have := List.filter_append_perm (fun x => !lt k x) l
 simpa using this
theorem JD {α : Type} (lt : α → α → Bool) (l : List α) : (Hd lt l).Perm l := by
 suffices H : ∀ (l a : List α), (l.foldl (yO lt) a).Perm (a ++ l) by have := H l []; rwa [aX] at this
 intro l
 induction l with
 | nil => intro a; simp
 | cons k l ih =>
  intro a
  rw [fE]
  refine (ih _).trans ?_
  have := (JB lt a k).append_right l
  simpa using this
theorem vI (l : List Formula) : (sJ l).Perm l := JD _ l
noncomputable def ou (a b : Formula) : Bool := @decide (a = b) (Classical.propDecidable _)
theorem vJ {a b : Formula} : ou a b = true ↔ a = b := by unfold ou; simp
theorem Iw (a b : Formula) (h : Gd a) : mE jB a b = some (ou a b) := by
 have := uC a
 obtain ⟨x, e, c⟩ := MZ jB a (by rw [ll]; omega) b
 rw [e]; congr 1
 rw [bF, c, vJ]
def Pw : Formula := ⟨0, 0, ⟨zS, zS⟩, []⟩
theorem KN (f1 : Formula × Formula → Option Bool) (i : Int) : ∀ (n : Nat) (l : List Formula) (k j : Int), (∀ x ∈ l, ∀ y ∈ l, f1 (x, y) = some (ou x y)) → lF i f1 n l k j = za ou i n l k j
 | 0, l, k, j, _ => by rw [lF, za]
 | n + 1, l, k, j, h => by
  rw [lF, za]
  split
  ·cases d : kp (l.drop (Int.toNat i)) j with
   | none => rfl
   | some x =>
    cases g : kp (l.drop (Int.toNat i)) (wi0 .i64 (j - 1)) with
    | none => rfl
    | some y =>
     have c : x ∈ l := List.mem_of_mem_drop (cX (jD d))
     have p : y ∈ l := List.mem_of_mem_drop (cX (jD g))
     simp only [aA, h x c y p]
     cases ou x y
     ·simp only [cD, aJ]
      cases q : kp l k with
      | none => rfl
      | some z =>
       simp only [aA]
       refine KN f1 i n _ _ _ (fun a ha b o => ?_)
       have m : ∀ a ∈ l.set (Int.toNat k) x, a ∈ l := fun a ha => by
        rcases List.mem_or_eq_of_mem_set ha with ha | rfl
        ·exact ha
        ·exact c
       exact h a (m a ha) b (m b o)
     ·simp only [bQ, aB, aF, aA]
      exact KN f1 i n _ _ _ h
  ·rfl
theorem NY (f1 : Formula × Formula → Option Bool) (l : List Formula) (h : ∀ x ∈ l, ∀ y ∈ l, f1 (x, y) = some (ou x y)) : ∀ (n : Nat) (i : Int), lD l f1 n i = zN ou Pw l n i
 | 0, i => by rw [lD, zN]
 | n + 1, i => by
  rw [lD, zN]
  split
  ·cases b : kp l i with
   | none => rfl
   | some x =>
    cases c : kp l (wi0 .i64 (i - 1)) with
    | none => rfl
    | some y =>
     have d : x ∈ l := cX (jD b)
     have g : y ∈ l := cX (jD c)
     simp only [aA, h x d y g]
     rw [KN f1 i jB l i 1 h, NY f1 l h n]
     rfl
  ·rfl
theorem IJ (l : List Formula) (h : ∀ x ∈ l, Gd x) (c : l.length ≤ 300000) : nT l (fun x => mE jB x.1 x.2) = some (dd ou l) := by
 rw [← Hu ou Pw l (by omega)]
 unfold nT Hw
 rw [NY _ l (fun x b y _ => Iw x y (h x b))]
def kc (op : Int) (f : Formula) : Bool := decide (f.Op = op) && f.Kids.isEmpty
theorem A6 (f : Formula) (op : Int) : qK f op = some (kc op f) := by
 unfold qK kc
 rw [nq]
 by_cases h : f.Op = op
 ·simp only [h, aS, aJ, bP, dq]
  congr 1
  cases hk : f.Kids with
  | nil => rfl
  | cons a l => simp; omega
 ·have e : (f.Op == op) = false := by simpa using h
  simp [e, h]
def mG (op : Int) : List Formula → List Formula
 | [] => []
 | k :: b => (if k.Op = op then k.Kids else [k]) ++ mG op b
theorem Bo (op : Int) : ∀ c : List Formula, nodesL (mG op c) ≤ nodesL c
 | [] => aQ _
 | k :: c => by
  have ih := Bo op c
  have e : ∀ a b : List Formula, nodesL (a ++ b) = nodesL a + nodesL b := by
   intro a b
   induction a with
   | nil => rw [aX, nodesL]; omega
   | cons x a d => rw [bJ, nodesL, nodesL, d]; omega
  have := ni k
  rw [mG, e, nodesL]
  split
  ·omega
  ·rw [nodesL, nodesL]; omega
theorem Fu (op : Int) : ∀ (b acc : List Formula), acc.length + nodesL b ≤ 100000000 → oO op b acc = some (acc ++ mG op b)
 | [], acc, _ => by rw [oO, mG, aT]
 | k :: b, acc, h => by
  rw [nodesL] at h
  have h1 := ni k
  have d := ol k.Kids
  rw [oO, mG]
  by_cases c : k.Op = op
  ·simp only [c, aS, aJ]
   rw [kQ (by omega) (by omega), aA, Fu op b _ (by simp; omega), aI]
  ·have e : (k.Op == op) = false := by simpa using c
   simp only [e, aB, aF, c]
   rw [kQ (by simp; omega) (by simp; omega), aA, Fu op b _ (by simp; omega), aI]
noncomputable def nz (op : Int) (b : List Formula) : Formula :=
 if (mG op b).any (kc (5 - op)) then ⟨5 - op, 0, nK, []⟩ else
  match dd ou (sJ (mG op b)) with
  | [x] => x
  | r => ⟨op, 0, nK, r⟩
theorem He {α : Type} (eq : α → α → Bool) (l : List α) : (dd eq l).length ≤ l.length := by
 cases l with
 | nil => exact aQ _
 | cons x l =>
  have : ∀ (l : List α) (x : α), (lU eq x l).length ≤ l.length := by
   intro l
   induction l with
   | nil => intro x; exact aQ _
   | cons y l ih => intro x; rw [lU]; have := ih y; have := ih x; split <;> simp <;> omega
  have := this l x
  rw [dd, aH, aH]; omega
theorem B3 (s : jF) (op : Int) (i : op = 2 ∨ op = 3) (b : List Formula) (h : nodesL b ≤ 64) : mT s op b = some (nz op b, s) := by
 have h1 := Bo op b
 have j := ol (mG op b)
 have d : ∀ x ∈ mG op b, Gd x := fun x c => by have := qH c; unfold Gd; omega
 have hw : wi0 .i64 (5 - op) = 5 - op := kk (by omega) (by omega)
 unfold mT xQ nz
 rw [Fu op b [] (by simp; omega), aA, aX, hw, Da _ (kc (5 - op)) _ (fun x _ => by unfold oX; rw [A6, nq]), aA]
 cases l : (mG op b).any (kc (5 - op))
 ·simp only [aB, aF]
  have hp := vI (mG op b)
  have n := hp.length_eq
  rw [Gn _ d (by omega), aA, IJ _ (fun x c => d x (hp.mem_iff.1 c)) (by omega), aA]
  have m := He ou (sJ (mG op b))
  have g : ¬ (((dd ou (sJ (mG op b))).length : Int) > 64) := by omega
  simp only [g, bW, aB, aF, aA]
  generalize dd ou (sJ (mG op b)) = r
  match r with
  | [] => rfl
  | [x] => rfl
  | x :: y :: r =>
   have : (((x :: y :: r).length : Int) == 1) = false := by simp; omega
   simp only [this, aB, aF]
   rfl
 ·rfl
noncomputable def qp (k : Int) (b : List Formula) : Formula :=
 let n := k - ((b.filter (kc 2)).length : Int)
 let l := b.filter fun x => !kc 2 x && !kc 3 x
 if n ≤ 0 then ⟨2, 0, nK, []⟩ else if n > (l.length : Int) then ⟨3, 0, nK, []⟩ else if n = (l.length : Int) then nz 2 l else if n = 1 then nz 3 l else ⟨4, n, nK, sJ l⟩
theorem wj (p : Formula → Bool) : ∀ b : List Formula, nodesL (b.filter p) ≤ nodesL b
 | [] => aQ _
 | k :: b => by
  have := wj p b
  rw [dy]
  split
  ·rw [nodesL, nodesL]; omega
  ·rw [nodesL]; omega
theorem yh (s : jF) : ∀ (b acc : List Formula) (k : Int), -1000 ≤ k - (b.length : Int) → k ≤ 1000 → acc.length + b.length ≤ 1000 → nodesL (acc ++ b.filter fun x => !kc 2 x && !kc 3 x) ≤ 64 →
  lC s b k acc = some (let n := k - ((b.filter (kc 2)).length : Int); let l := acc ++ b.filter fun x => !kc 2 x && !kc 3 x; if n ≤ 0 then ⟨2, 0, nK, []⟩ else if n > (l.length : Int) then ⟨3, 0, nK, []⟩ else if n = (l.length : Int) then nz 2 l else if n = 1 then nz 3 l else ⟨4, n, nK, sJ l⟩, s)
 | [], acc, k, h1, h, i, c => by
  simp only [gA, aT, bN] at c ⊢
  rw [lC]
  simp only [Int.ofNat_zero, Int.sub_zero, rT, wJ, aA, Int.natCast_zero]
  have p := ol acc
  by_cases c1 : k ≤ 0
  ·simp only [c1, bP, aJ]; rfl
  ·simp only [c1, bW, aB, aF]
   by_cases c2 : k > (acc.length : Int)
   ·simp only [c2, bP, aJ]; rfl
   ·simp only [c2, bW, aB, aF]
    by_cases d : k = (acc.length : Int)
    ·simp only [← d, aS, aJ]
     rw [B3 s 2 (.inl rfl) acc c, aA]
    ·have j : (k == (acc.length : Int)) = false := by simpa using d
     simp only [j, aB, aF, d]
     by_cases g : k = 1
     ·simp only [g, aS, aJ]
      rw [B3 s 3 (.inr rfl) acc c, aA]
     ·have m : (k == 1) = false := by simpa using g
      simp only [m, aB, aF, g]
      rw [Gn acc (fun x o => by have := qH o; unfold Gd; omega) (by omega)]
      rfl
 | x :: b, acc, k, h1, h, i, c => by
  simp only [aH] at h1 i
  rw [lC, A6, aA, A6, aA]
  rw [dy, dy] at *
  cases c2 : kc 2 x
  ·cases d : kc 3 x
   ·simp only [c2, d, cD, iw, aB, aF, aJ] at c ⊢
    rw [kQ (by simp; omega) (by simp; omega), aA, yh s b _ k (by omega) h (by simp; omega) (by rw [aI]; exact c)]
    simp only [aI, bJ, aX]
   ·simp only [c2, d, cD, bQ, Bool.and_false, aB, aF] at c ⊢
    rw [yh s b _ k (by omega) h (by omega) c]
  ·simp only [c2, bQ, eJ, aB, aF, aJ] at c ⊢
   rw [kk (by omega) (by omega), yh s b _ (k - 1) (by omega) (by omega) (by omega) c]
   simp only [aH]
   have e : k - 1 - ((b.filter (kc 2)).length : Int) = k - (((b.filter (kc 2)).length + 1 : Nat) : Int) := by omega
   rw [e]
theorem IS (s : jF) (k : Int) (hk : 0 ≤ k ∧ k ≤ 1000) (b : List Formula) (h : nodesL b ≤ 64) : oW s k b = some (qp k b, s) := by
 have := ol b
 have := wj (fun x => !kc 2 x && !kc 3 x) b
 unfold oW qp
 rw [yh s b [] k (by omega) (by omega) (by simp; omega) (by simpa using by omega)]
 rfl
mutual
noncomputable def nS : Formula → Formula
 | ⟨o, k, r, ks⟩ => if o = 1 then ⟨o, k, r, ks⟩ else if o = 4 then qp k (shapeL ks) else nz o (shapeL ks)
noncomputable def shapeL : List Formula → List Formula
 | [] => []
 | k :: ks => nS k :: shapeL ks
end
theorem vK (f : Formula) : nS f = if f.Op = 1 then f else if f.Op = 4 then qp f.K (shapeL f.Kids) else nz f.Op (shapeL f.Kids) := by cases f; rw [nS]
theorem Dk {a b : List Formula} (h : a.Perm b) : nodesL a = nodesL b := by
 induction h with
 | nil => rfl
 | cons x _ ih => rw [nodesL, nodesL, ih]
 | swap x y l => rw [nodesL, nodesL, nodesL, nodesL]; omega
 | trans _ _ h1 c => rw [h1, c]
theorem Bn (eq : Formula → Formula → Bool) : ∀ (l : List Formula) (x : Formula), nodesL (lU eq x l) ≤ nodesL l
 | [], x => aQ _
 | y :: l, x => by
  have h1 := Bn eq l y
  have b := Bn eq l x
  rw [lU]
  split
  ·rw [nodesL]; omega
  ·rw [nodesL, nodesL]; omega
theorem Lt (eq : Formula → Formula → Bool) (l : List Formula) : nodesL (dd eq l) ≤ nodesL l := by
 cases l with
 | nil => exact aQ _
 | cons x l => have := Bn eq l x; rw [dd, nodesL, nodesL]; omega
theorem yI (op : Int) (b : List Formula) : jE (nz op b) ≤ 1 + nodesL b := by
 unfold nz
 split
 ·rw [jE, nodesL]; omega
 ·have h1 := Lt ou (sJ (mG op b))
  have c := Dk (vI (mG op b))
  have d := Bo op b
  generalize dd ou (sJ (mG op b)) = r at *
  split
  ·rename_i x
   rw [nodesL, nodesL] at h1; omega
  ·rw [jE]; omega
theorem F5 (k : Int) (b : List Formula) : jE (qp k b) ≤ 1 + nodesL b := by
 have h := wj (fun x => !kc 2 x && !kc 3 x) b
 unfold qp
 simp only
 generalize b.filter (fun x => !kc 2 x && !kc 3 x) = l at *
 generalize k - ((b.filter (kc 2)).length : Int) = n
 split
 ·rw [jE, nodesL]; omega
 ·split
  ·rw [jE, nodesL]; omega
  ·split
   ·have := yI 2 l; omega
   ·split
    ·have := yI 3 l; omega
    ·have := Dk (vI l); rw [jE]; omega
theorem xo : ∀ f : Formula, jE (nS f) ≤ jE f := by
 refine IQ fun f ih => ?_
 have h : ∀ b : List Formula, (∀ k ∈ b, jE (nS k) ≤ jE k) → nodesL (shapeL b) ≤ nodesL b := by
  intro b
  induction b with
  | nil => intro _; rw [shapeL]; exact aQ _
  | cons k b c =>
   intro h
   have := c (fun x d => h x (by simp [d]))
   have := h k (by simp)
   rw [shapeL, nodesL, nodesL]; omega
 have h := h f.Kids ih
 rw [vK, ni f]
 split
 ·rw [ni]; omega
 ·split
  ·have := F5 f.K (shapeL f.Kids); omega
  ·have := yI f.Op (shapeL f.Kids); omega
theorem BY (b : List Formula) : nodesL (shapeL b) ≤ nodesL b := by
 induction b with
 | nil => rw [shapeL]; exact aQ _
 | cons k b ih => have := xo k; rw [shapeL, nodesL, nodesL]; omega
theorem Le : ∀ (n : Nat) (f : Formula), mJ f ≤ n → jE f ≤ 64 → qz f = true → ∀ s : jF, lZ n s f = some (nS f, s) := by
 intro n
 induction n with
 | zero => intro f h; rw [lL] at h; omega
 | succ n ih =>
  intro f r v hw s
  rw [lL] at r
  have t := ni f
  obtain ⟨h1, q, m⟩ := uO hw
  rw [lZ]
  unfold pQ
  rw [vK]
  by_cases c1 : f.Op = 1
  ·simp only [c1, aS, aJ]
  ·have o : (f.Op == 1) = false := by simpa using c1
   simp only [o, aB, aF, c1]
   have key : ∀ (b acc : List Formula), (∀ k ∈ b, k ∈ f.Kids) → wellL b = true → nodesL (acc ++ shapeL b) ≤ 64 → nodesL b ≤ 64 → mD (lZ n) f b acc s = some (if f.Op = 4 then qp f.K (acc ++ shapeL b) else nz f.Op (acc ++ shapeL b), s) := by
    intro b
    induction b with
    | nil =>
     intro acc _ _ g _
     rw [shapeL, aT] at *
     rw [mD]
     by_cases i : f.Op = 4
     ·simp only [i, aS, aJ]
      rw [IS s f.K (by rcases m with h | h | h <;> omega) acc g, aA]
     ·have p : (f.Op == 4) = false := by simpa using i
      simp only [p, aB, aF, i]
      rw [B3 s f.Op (by rcases m with h | h | h <;> omega) acc g, aA]
    | cons k b l =>
     intro acc hk c g j
     rw [wellL, aP] at c
     rw [nodesL] at j
     rw [shapeL] at g
     have d := ol (acc ++ nS k :: shapeL b)
     simp only [aC, aH] at d
     rw [mD, ih k (by have := pg (hk k (by simp)); omega) (by omega) c.1 s, aA, kQ (by simp; omega) (by simp; omega), aA,
      l (acc ++ [nS k]) (fun z u => hk z (by simp [u])) c.2 (by rw [aI]; exact g) (by omega), shapeL]
     simp only [aI, bJ, aX]
   have := BY f.Kids
   have := key f.Kids [] (fun k hk => hk) q (by simpa using by omega) (by omega)
   simpa using this
def El : Formula := ⟨0, 0, nK, []⟩
noncomputable def nM (f : Formula) : Formula × Int := if mw f then (if mw (nS f) then (nS f, 0) else (El, 12)) else (El, 11)
theorem E5 (f : Formula) (h : Gd f) : tC f = some (nM f) := by
 unfold tC nM
 rw [Bp f h, aA]
 cases c : mw f
 ·rfl
 ·obtain ⟨h1, d, b⟩ := wP c
  have g := xo f
  simp only [bQ, aB, aF, aJ]
  rw [Le jB f (by rw [ll]; omega) h1 b, aA, Bp (nS f) (by omega)]
  have e : (((⟨0⟩ : jF).e) != 0) = false := rfl
  simp only [e, aB, aF, aA]
  cases mw (nS f) <;> rfl
theorem tT {f : Formula} : jE (nM f).1 ≤ 64 := by
 unfold nM
 cases h : mw f
 ·exact by simp only [aB, aF, El]; rw [jE, nodesL]; omega
 ·obtain ⟨h1, b, c⟩ := wP h
  have := xo f
  simp only [aJ]
  split
  ·show jE (nS f) ≤ 64; omega
  ·rw [El, jE, nodesL]; omega
theorem MW (f g : Formula) (b : jE f ≤ 10000000) (c : jE g ≤ 10000000) : vi f g = some (nM ⟨2, 0, nK, [f, g]⟩) := by
 unfold vi
 have := E5 ⟨2, 0, nK, [f, g]⟩ (by show jE _ ≤ _; rw [jE, nodesL, nodesL, nodesL]; omega)
 rw [show (⟨2, 0, (⟨zS, zS⟩ : iX), [f, g]⟩ : Formula) = ⟨2, 0, nK, [f, g]⟩ from rfl, this]
 rfl
mutual
def oE (v : iX → Bool) : Formula → Bool
 | ⟨o, k, r, ks⟩ => if o = 1 then v r else if o = 2 then decide (evN v ks = ks.length) else if o = 3 then decide (0 < evN v ks) else decide (k ≤ (evN v ks : Int))
def evN (v : iX → Bool) : List Formula → Nat
 | [] => 0
 | k :: ks => (if oE v k then 1 else 0) + evN v ks
end
theorem tY (v : iX → Bool) (f : Formula) : oE v f = if f.Op = 1 then v f.iX else if f.Op = 2 then decide (evN v f.Kids = f.Kids.length) else if f.Op = 3 then decide (0 < evN v f.Kids) else decide (f.K ≤ (evN v f.Kids : Int)) := by cases f; rw [oE]
theorem DU (v : iX → Bool) : ∀ b : List Formula, evN v b ≤ b.length
 | [] => by rw [evN]; exact aQ _
 | k :: b => by have := DU v b; rw [evN, aH]; split <;> omega
theorem EV (v : iX → Bool) : ∀ b : List Formula, evN v b = b.length ↔ ∀ k ∈ b, oE v k = true
 | [] => by rw [evN]; simp
 | k :: b => by
  have h1 := DU v b
  have c := EV v b
  rw [evN, aH]
  simp only [gv, ← c]
  cases oE v k <;> simp <;> omega
theorem EY (v : iX → Bool) : ∀ b : List Formula, 0 < evN v b ↔ ∃ k ∈ b, oE v k = true
 | [] => by rw [evN]; simp
 | k :: b => by
  have c := EY v b
  rw [evN]
  simp only [aM, exists_eq_or_imp, ← c]
  cases oE v k <;> simp <;> omega
theorem Ee (v : iX → Bool) (b : List Formula) : evN v b = (b.filter (oE v)).length := by
 induction b with
 | nil => rw [evN]; rfl
 | cons k b ih => rw [evN, ih, dy]; cases oE v k <;> simp <;> omega
theorem LA (v : iX → Bool) {a b : List Formula} (h : a.Perm b) : evN v a = evN v b := by
 rw [Ee, Ee]; exact (h.filter _).length_eq
theorem MO {v w : iX → Bool} (h : ∀ r, v r = true → w r = true) : ∀ f : Formula, oE v f = true → oE w f = true := by
 refine IQ fun f ih => ?_
 have key : evN v f.Kids ≤ evN w f.Kids := by
  have : ∀ b : List Formula, (∀ k ∈ b, oE v k = true → oE w k = true) → evN v b ≤ evN w b := by
   intro b
   induction b with
   | nil => intro _; rw [evN, evN]; exact aQ _
   | cons k b c =>
    intro hk
    have h1 := c (fun x i => hk x (by simp [i]))
    have d := hk k (by simp)
    rw [evN, evN]
    cases g : oE v k
    ·simp; omega
    ·rw [d g]; simp; omega
  exact this _ ih
 have hle := DU w f.Kids
 rw [tY, tY]
 split
 ·exact h _
 ·split
  ·simp only [bD]; omega
  ·split
   ·simp only [bD]; omega
   ·simp only [bD]; omega
theorem B7 (v : iX → Bool) (f1 : iX → Option Bool) (rec : Formula → (iX → Option Bool) → Option Bool) (f : Formula) : ∀ (b : List Formula) (x : Nat), (∀ k ∈ b, rec k f1 = some (oE v k)) → x + b.length ≤ 100000000 →
  nP rec f1 f b (x : Int) = some (if f.Op = 2 then decide (x + evN v b = f.Kids.length) else if f.Op = 3 then decide (0 < x + evN v b) else decide (f.K ≤ ((x + evN v b : Nat) : Int)))
 | [], x, _, _ => by
  rw [nP, evN, fT]
  by_cases c2 : f.Op = 2
  ·simp only [c2, aS, aJ]
   congr 1
   rw [bF, fJ, bD]; omega
  ·have d : (f.Op == 2) = false := by simpa using c2
   simp only [d, aB, aF, c2]
   by_cases c : f.Op = 3
   ·simp only [c, aS, aJ]
    congr 1
    rw [bF, bD, bD]; omega
   ·have i : (f.Op == 3) = false := by simpa using c
    simp only [i, aB, aF, c]
 | k :: b, x, h, j => by
  rw [aH] at j
  rw [nP, h k (by simp), aA, evN]
  cases oE v k
  ·simp only [aB, aF]
   rw [B7 v f1 rec f b x (fun z g => h z (by simp [g])) (by omega), dL]
  ·simp only [aJ]
   have e : wi0 .i64 ((x : Int) + 1) = ((x + 1 : Nat) : Int) := by rw [kk (by omega) (by omega)]; omega
   rw [e, B7 v f1 rec f b (x + 1) (fun z g => h z (by simp [g])) (by omega)]
   have d : x + 1 + evN v b = x + (1 + evN v b) := by omega
   rw [d]
theorem Kf (v : iX → Bool) (f1 : iX → Option Bool) (i : ∀ r, f1 r = some (v r)) : ∀ (n : Nat) (f : Formula), mJ f ≤ n → Gd f → om n f f1 = some (oE v f) := by
 intro n
 induction n with
 | zero => intro f h; rw [lL] at h; omega
 | succ n ih =>
  intro f c d
  rw [lL] at c
  have g := ni f
  have j := ol f.Kids
  unfold Gd at d
  rw [om]
  unfold sX
  rw [tY]
  by_cases c1 : f.Op = 1
  ·simp only [c1, aS, aJ, i, aA]
  ·have b : (f.Op == 1) = false := by simpa using c1
   simp only [b, aB, aF, c1]
   have := B7 v f1 (om n) f f.Kids 0 (fun k hk => ih k (by have := pg hk; omega) (by have := qH hk; unfold Gd; omega)) (by omega)
   simpa using this
def rk (v : iX → Bool) (f : Formula) : Bool := mw f && oE v f
theorem ID (v : iX → Bool) (f1 : iX → Option Bool) (b : ∀ r, f1 r = some (v r)) (f : Formula) (h : Gd f) : so f f1 = some (rk v f) := by
 unfold so rk
 rw [Bp f h, aA]
 have := uC f
 cases mw f
 ·rfl
 ·unfold Gd at h
  simp only [aJ, Kf v f1 b jB f (by rw [ll]; omega) h, aA, dq]
theorem Ez (op : Int) (f : Formula) : kc op f = true ↔ f.Op = op ∧ f.Kids = [] := by
 unfold kc; simp
theorem FF (v : iX → Bool) {f : Formula} (h : kc 2 f = true) : oE v f = true := by
 obtain ⟨h1, b⟩ := (Ez 2 f).1 h
 rw [tY, h1, b, evN]; rfl
theorem FT (v : iX → Bool) {f : Formula} (h : kc 3 f = true) : oE v f = false := by
 obtain ⟨h1, b⟩ := (Ez 3 f).1 h
 rw [tY, h1, b, evN]; rfl
def rl (v : iX → Bool) (b : List Formula) : Bool := b.all (oE v)
def rI (v : iX → Bool) (b : List Formula) : Bool := b.any (oE v)
theorem Ia (v : iX → Bool) (k : Int) (r : iX) (b : List Formula) : oE v ⟨2, k, r, b⟩ = rl v b := by
 rw [tY, bF]; simp [rl, EV]
theorem J8 (v : iX → Bool) (k : Int) (r : iX) (b : List Formula) : oE v ⟨3, k, r, b⟩ = rI v b := by
 rw [tY, bF]; simp [rI, EY]
theorem GQ (v : iX → Bool) : ∀ b : List Formula, rl v (mG 2 b) = rl v b
 | [] => rfl
 | k :: b => by
  have ih := GQ v b
  unfold rl at ih ⊢
  rw [mG, List.all_append, ih, gq]
  congr 1
  split
  ·rename_i h
   obtain ⟨o, n, r, l⟩ := k
   simp only at h; subst h
   exact (Ia v n r l).symm
  ·simp
theorem Gx (v : iX → Bool) : ∀ b : List Formula, rI v (mG 3 b) = rI v b
 | [] => rfl
 | k :: b => by
  have ih := Gx v b
  unfold rI at ih ⊢
  rw [mG, List.any_append, ih, eV]
  congr 1
  split
  ·rename_i h
   obtain ⟨o, n, r, l⟩ := k
   simp only at h; subst h
   exact (J8 v n r l).symm
  ·simp
theorem Ko (l : List Formula) (x : Formula) : x ∈ dd ou (sJ l) ↔ x ∈ l := by
 rw [Ht (fun _ _ => vJ), (vI l).mem_iff]
theorem JP {v : iX → Bool} {a b : List Formula} (h : ∀ x, x ∈ a ↔ x ∈ b) : rl v a = rl v b := by
 unfold rl; rw [bF, dZ, dZ]
 exact ⟨fun q x c => q x ((h x).2 c), fun q x c => q x ((h x).1 c)⟩
theorem KF {v : iX → Bool} {a b : List Formula} (h : ∀ x, x ∈ a ↔ x ∈ b) : rI v a = rI v b := by
 unfold rI; rw [bF, dR, dR]
 exact ⟨fun ⟨x, c, q⟩ => ⟨x, (h x).1 c, q⟩, fun ⟨x, c, q⟩ => ⟨x, (h x).2 c, q⟩⟩
theorem En (v : iX → Bool) (b : List Formula) : oE v (nz 2 b) = rl v b := by
 rw [← GQ]
 unfold nz
 split
 ·rename_i h
  rw [show (5 - 2 : Int) = 3 from rfl, J8]
  obtain ⟨x, c, he⟩ := dR.1 h
  have : rl v (mG 2 b) = false := by
   unfold rl; rw [List.all_eq_false]; exact ⟨x, c, by rw [FT v he]; simp⟩
  rw [this]; rfl
 ·rw [← JP (Ko (mG 2 b))]
  generalize dd ou (sJ (mG 2 b)) = r
  split
  ·simp [rl]
  ·exact Ia v 0 nK r
theorem D5 (v : iX → Bool) (b : List Formula) : oE v (nz 3 b) = rI v b := by
 rw [← Gx]
 unfold nz
 split
 ·rename_i h
  rw [show (5 - 3 : Int) = 2 from rfl, Ia]
  obtain ⟨x, c, he⟩ := dR.1 h
  have : rI v (mG 3 b) = true := by
   unfold rI; rw [dR]; exact ⟨x, c, FF v he⟩
  rw [this]; rfl
 ·rw [← KF (Ko (mG 3 b))]
  generalize dd ou (sJ (mG 3 b)) = r
  split
  ·simp [rI]
  ·exact J8 v 0 nK r
theorem FD (v : iX → Bool) : ∀ b : List Formula, evN v b = (b.filter (kc 2)).length + evN v (b.filter fun x => !kc 2 x && !kc 3 x)
 | [] => rfl
 | k :: b => by
  have ih := FD v b
  rw [evN, dy, dy, ih]
  cases c : kc 2 k
  ·cases d : kc 3 k
   ·simp only [cD, iw, aB, aF, aJ]
    rw [evN]; omega
   ·rw [FT v d]; simp
  ·rw [FF v c]; simp; omega
theorem I8 (v : iX → Bool) (k : Int) (b : List Formula) : oE v (qp k b) = decide (k ≤ (evN v b : Int)) := by
 have d := FD v b
 unfold qp
 simp only
 generalize c : b.filter (fun x => !kc 2 x && !kc 3 x) = l at *
 generalize (b.filter (kc 2)).length = m at *
 have hle := DU v l
 have ha := EV v l
 have hp := EY v l
 split
 ·rw [Ia]; simp [rl]; omega
 ·split
  ·rw [J8]; simp [rI]; omega
  ·split
   ·rw [En, bF, bD]
    unfold rl
    rw [dZ, ← ha]; omega
   ·split
    ·rw [D5, bF, bD]
     unfold rI
     rw [dR, ← hp]; omega
    ·rw [tY]
     simp only [LA v (vI l)]
     have : ¬ ((4 : Int) = 1) := by omega
     have : ¬ ((4 : Int) = 2) := by omega
     have : ¬ ((4 : Int) = 3) := by omega
     simp only [*, aF]
     rw [bF, bD, bD]; omega
theorem LG (v : iX → Bool) : ∀ f : Formula, qz f = true → oE v (nS f) = oE v f := by
 refine IQ fun f ih hw => ?_
 obtain ⟨h1, i, j⟩ := uO hw
 rw [B4, dZ] at i
 have key : ∀ d : List Formula, (∀ k ∈ d, oE v (nS k) = oE v k) → evN v (shapeL d) = evN v d ∧ rl v (shapeL d) = rl v d ∧ rI v (shapeL d) = rI v d := by
  intro d
  induction d with
  | nil => intro _; rw [shapeL]; exact ⟨rfl, rfl, rfl⟩
  | cons k d g =>
   intro hk
   obtain ⟨a, b, c⟩ := g (fun x m => hk x (by simp [m]))
   have h := hk k (by simp)
   unfold rl rI at *
   rw [shapeL, evN, evN, a, h, gq, gq, eV, eV, b, c, h]
   exact ⟨rfl, rfl, rfl⟩
 obtain ⟨a, b, c⟩ := key f.Kids (fun k hk => ih k hk (i k hk))
 obtain ⟨o, n, r, l⟩ := f
 simp only at *
 rw [vK]
 simp only
 rcases j with h | h | h
 ·simp only [h.1, aJ]
 ·rcases h.1 with h | h
  ·subst h
   rw [Ia]
   exact (En v _).trans b
  ·subst h
   rw [J8]
   exact (D5 v _).trans c
 ·obtain ⟨h, _⟩ := h
  subst h
  rw [tY v ⟨4, n, r, l⟩]
  exact (I8 v n _).trans (by rw [a]; rfl)
theorem GX {f g : Formula} (h : nM f = (g, 0)) : mw f = true ∧ mw g = true ∧ ∀ v, oE v g = oE v f := by
 unfold nM at h
 cases b : mw f
 ·rw [b] at h; simp at h
 ·rw [b] at h
  simp only [aJ] at h
  cases c : mw (nS f)
  ·rw [c] at h; simp at h
  ·rw [c] at h
   simp only [aJ, Prod.mk.injEq] at h
   obtain ⟨rfl, _⟩ := h
   exact ⟨rfl, c, fun v => LG v f (wP b).2.2⟩
def S8 (l : List Signed) : Prop := ∀ s ∈ l, B8 s.Tag
theorem HA (b : List iY) (x : iY) : pW b x = some (nc kh b x) := by
 obtain ⟨q, e, h⟩ := GF x b
 unfold oH at e
 rw [nq] at e
 rw [e, show q = nc kh b x from by rw [bF, h, vx qa]]
structure Jm (l : List iY) (F : List jg) : Prop where
 len : F.length ≤ 900000000
 ref : uq l = some F
 Px : ∃ m, uv l = some m ∧ tE m.1 m.2.1 m.2.2.1 m.2.2.2.1 m.2.2.2.2.1 m.2.2.2.2.2 = some F ∧ ∀ r w, ri m.1 m.2.1 m.2.2.1 m.2.2.2.1 m.2.2.2.2.1 m.2.2.2.2.2 r w = some (nc yr F ⟨r, w⟩)
 uK : ∀ C : List iY, (∀ c, c ∈ C ↔ c ∈ l ∧ kG c = true) → yv (nB C) F
theorem OJ (l : List iY) (y : l.length ≤ 30000) : ∃ F, Jm l F := by
 obtain ⟨F, h⟩ := OG l y
 refine ⟨F, h.PI, h.ref, ?_, fun C u => ?_⟩
 ·obtain ⟨C, h1, g, t⟩ := h.C
  obtain ⟨C1, T, p, ws, n, q, m1, i, m⟩ := Je l (by omega)
  have d : ∀ c, c ∈ C1 ↔ c ∈ C := fun c => by rw [g, i]
  have o : yv (nB C1) F := ⟨h1.1, fun f => (h1.2 f).trans (nB.congr d f).symm⟩
  have v : SM C1 := by unfold SM; omega
  refine ⟨_, q, ?_, fun r w => ?_⟩
  ·obtain ⟨F1, s, j⟩ := LL v.small m1 C1 p ws [] n
   rw [← j.unique o]; exact s
  ·obtain ⟨b, e, x⟩ := Kz m1 C1 p ws [] n r w
   rw [e, show b = nc yr F ⟨r, w⟩ from by rw [bF, x, vx uP, o.2]]
 ·obtain ⟨C', h1, g, t⟩ := h.C
  have d : ∀ c, c ∈ C' ↔ c ∈ C := fun c => by rw [g, u]
  exact ⟨h1.1, fun f => (h1.2 f).trans (nB.congr d f)⟩
structure PB (p : jL) : Prop where
 IK : p.jv.length ≤ 2000000
 Oa : p.ke.length ≤ 2000000
 rel : ∀ x ∈ p.jv, jE x.ji ≤ 10000000
 Ns : ∀ a ∈ p.ke, jE a.ji ≤ 10000000
 Qj : ∀ a ∈ p.ke, a.mn.length ≤ 2000000
theorem Gq (f : kP → Option Bool) : ∀ (l : List kP) (i : Nat), mc f l i = wh f l i
 | [], i => by rw [mc]; rfl
 | x :: l, i => by
  rw [mc, wh]
  cases f x with
  | none => rfl
  | some b =>
   simp only [aA]
   rw [Gq f l (i + 1)]
theorem Gv (f : nA → Option Bool) : ∀ (l : List nA) (i : Nat), mM f l i = wh f l i
 | [], i => by rw [mM]; rfl
 | x :: l, i => by
  rw [mM, wh]
  cases f x with
  | none => rfl
  | some b =>
   simp only [aA]
   rw [Gv f l (i + 1)]
theorem Ls {α : Type} (f : α → Option Bool) (p : α → Bool) (l : List α) (h : ∀ x ∈ l, f x = some (p x)) : ((wh f l 0).bind fun d => some (decide (d ≥ 0))) = some (l.any p) := by
 rcases yA f p l 0 h with ⟨e, h1⟩ | ⟨A, x, B, rfl, h1, b, e⟩
 ·rw [e, aA]
  have : l.any p = false := by rw [List.any_eq_false]; intro x c; rw [h1 x c]; simp
  rw [this]; rfl
 ·rw [e, aA]
  have : (A ++ x :: B).any p = true := by simp [b]
  rw [this]
  congr 1
def yd (p : jL) (c : iY) : Option kP := p.jv.find? fun x => kh x.Signed.iY c
theorem Nf (p : jL) (c : iY) : ∃ z, wg p c = some (match yd p c with | some x => (x, true) | none => (z, false)) := by
 unfold wg qn yd
 rw [Gq]
 rcases yA (fun x => tG x c) (fun x => kh x.Signed.iY c) p.jv 0 (fun x _ => rfl) with ⟨e, h1⟩ | ⟨A, x, B, hp, h1, d, e⟩
 ·rw [e, aA, fL.2 (fun x b => by rw [h1 x b]; simp)]
  exact ⟨_, rfl⟩
 ·rw [e, aA, hp, ir, fL.2 (fun x b => by rw [h1 x b]; simp), fF, d]
  have : ¬ (((0 + A.length : Nat) : Int) < 0) := by omega
  simp only [this, bW, aB, aF]
  rw [lV A x B _ (by omega)]
  exact ⟨x, rfl⟩
def Oh : nA := ⟨⟨zS, zS⟩, ⟨0, 0, ⟨zS, zS⟩, []⟩, []⟩
theorem GJ (f : nA → Option Bool) : ∀ (n : Nat) (l : List nA) (i j : Int), mC f n l i j = AR f Oh n l i j
 | 0, _, _, _ => rfl
 | n + 1, l, i, j => by
  rw [mC, AR]
  simp only [GJ f n]
  rfl
def xG (p : jL) (c : iY) : List nA := p.ke.filter fun a => nc kh a.mn c
theorem Ll (p : jL) (hp : PB p) (c : iY) : uY p c = some (xG p c) := by
 have := hp.Oa
 unfold uY rE xG
 rw [kQ (by simp; omega) (by simp; omega)]
 simp only [aA, aX, nq]
 have : pF p.ke (fun x => pR x c) = Fo (fun x => pR x c) Oh p.ke := by
  unfold pF Fo rZ
  simp only [Gv, GJ]
 rw [this, Hk _ (fun a => !nc kh a.mn c) Oh _ (by omega) (fun a _ => by unfold pR oH; rw [nq, HA]; rfl)]
 simp only [gd]
noncomputable def nE : Formula × Int → List Formula → Formula × Int
 | t, [] => t
 | t, g :: l => if t.2 = 0 then nE (nM ⟨2, 0, nK, [t.1, g]⟩) l else t
theorem H2 : ∀ (l : List Formula) (e o k : Int) (r : iX) (b : List Formula), (∀ g ∈ l, jE g ≤ 10000000) → jE ⟨o, k, r, b⟩ ≤ 64 →
  qN l e o k r b = some ((nE (⟨o, k, r, b⟩, e) l).2, (nE (⟨o, k, r, b⟩, e) l).1.Op, (nE (⟨o, k, r, b⟩, e) l).1.K, (nE (⟨o, k, r, b⟩, e) l).1.iX, (nE (⟨o, k, r, b⟩, e) l).1.Kids)
 | [], e, o, k, r, b, _, _ => by rw [qN, nE]
 | g :: l, e, o, k, r, b, h, s => by
  rw [qN, nE]
  by_cases c : e = 0
  ·have d : (e != 0) = false := by simp [c]
   simp only [d, aB, aF, c, aJ]
   rw [MW _ g (by omega) (h g (by simp)), aA]
   have j := tT (f := ⟨2, 0, nK, [⟨o, k, r, b⟩, g]⟩)
   generalize nM ⟨2, 0, nK, [⟨o, k, r, b⟩, g]⟩ = q at *
   obtain ⟨⟨n, k', p, i⟩, e'⟩ := q
   exact H2 l e' n k' p i (fun z m => h z (by simp [m])) j
  ·have d : (e != 0) = true := by simp [c]
   simp only [d, aJ, c, aF]
noncomputable def zV (g : Formula) (l : List Formula) : Formula × Int := if (nE (nM g) l).2 = 0 then nE (nM g) l else (El, (nE (nM g) l).2)
theorem ME (g : Formula) (l : List Formula) (p : jE g ≤ 10000000) (j : ∀ x ∈ l, jE x ≤ 10000000) : tz (g :: l) = some (zV g l) := by
 unfold tz zV
 have h : kp (g :: l) 0 = some g := lV [] g l 0 rfl
 have b : pH (decide (0 ≤ 1) && decide ((1 : Int) ≤ ((g :: l).length : Int))) = some () := by
  rw [aH]
  have : (1 : Int) ≤ ((l.length + 1 : Nat) : Int) := by omega
  simp [pH]; omega
 have m := tT (f := g)
 rw [h, aA, E5 g (by unfold Gd; omega), aA, b, aA]
 generalize nM g = q at *
 obtain ⟨⟨o, k, r, d⟩, e⟩ := q
 have i : (g :: l).drop (Int.toNat 1) = l := rfl
 rw [i, H2 l e o k r d j m, aA]
 generalize nE (⟨o, k, r, d⟩, e) l = t
 obtain ⟨⟨s, k', u, n⟩, e'⟩ := t
 by_cases c : e' = 0
 ·subst c; rfl
 ·have b : (e' != 0) = true := by simp [c]
  simp only [b, aJ, c, aF]; rfl
noncomputable def oD (p : jL) (c : iY) : Formula × Int := match yd p c with | none => (El, 42) | some x => zV x.ji ((xG p c).map (·.ji))
theorem J7 : ∀ (l : List nA) (acc : List Formula), acc.length + l.length ≤ 3000000 → rC l acc = tz (acc ++ l.map (·.ji))
 | [], acc, _ => by
  rw [rC, eo, aT]
  cases tz acc <;> rfl
 | a :: l, acc, h => by
  rw [aH] at h
  rw [rC, kQ (by simp; omega) (by simp; omega), aA, J7 l _ (by simp; omega)]
  simp
theorem Li {p : jL} {c : iY} {x : kP} (h : yd p c = some x) : x ∈ p.jv ∧ x.Signed.iY = c := by
 unfold yd at h
 have h1 := List.mem_of_find?_eq_some h
 have b := List.find?_some h
 exact ⟨h1, qa.1 b⟩
theorem N4 (p : jL) (hp : PB p) (c : iY) : yi p c = some (oD p c) := by
 unfold yi oD
 obtain ⟨z, e⟩ := Nf p c
 rw [e, aA]
 cases h : yd p c with
 | none => rfl
 | some x =>
  simp only [bQ, aB, aF]
  have d := Li h
  have i : (xG p c).length ≤ p.ke.length := ey _ _
  have := hp.Oa
  rw [Ll p hp c, aA, J7 _ _ (by simp; omega)]
  exact ME x.ji _ (hp.rel x d.1) (fun g b => by
   obtain ⟨a, ha, rfl⟩ := bG.1 b
   exact hp.Ns a (cN.1 ha).1)
theorem Fy (p : jL) (c : iY) : jE (oD p c).1 ≤ 64 := by
 have b : jE El ≤ 64 := by rw [El, jE, nodesL]; omega
 have d : ∀ (l : List Formula) (t : Formula × Int), jE t.1 ≤ 64 → jE (nE t l).1 ≤ 64 := by
  intro l
  induction l with
  | nil => intro t h; exact h
  | cons g l ih =>
   intro t h
   rw [nE]
   split
   ·exact ih _ tT
   ·exact h
 unfold oD
 split
 ·exact b
 ·unfold zV
  split
  ·exact d _ _ tT
  ·exact b
theorem GC : ∀ (l : List Formula) (f : Formula) (e : Int), (nE (f, e) l).2 = 0 → e = 0 ∧ (mw f = true → mw (nE (f, e) l).1 = true ∧ ∀ v, oE v (nE (f, e) l).1 = (oE v f && l.all (oE v)))
 | [], f, e, h => by rw [nE] at *; exact ⟨h, fun m => ⟨m, fun v => by simp⟩⟩
 | g :: l, f, e, h => by
  rw [nE] at *
  by_cases c : e = 0
  ·simp only [c, aJ] at h ⊢
   cases b : nM ⟨2, 0, nK, [f, g]⟩ with
   | mk q e' =>
    rw [b] at h
    obtain ⟨h1, j⟩ := GC l q e' h
    subst h1
    obtain ⟨n, a2, a3⟩ := GX b
    obtain ⟨d, i⟩ := j a2
    refine ⟨trivial, fun _ => ⟨d, fun v => ?_⟩⟩
    rw [i v, a3 v, Ia]
    simp [rl, gb]
  ·simp only [c, aF] at h
theorem J5 {p : jL} {c : iY} (h : (oD p c).2 = 0) : mw (oD p c).1 = true ∧ ∃ x, yd p c = some x ∧ ∀ v, oE v (oD p c).1 = (oE v x.ji && (xG p c).all fun a => oE v a.ji) := by
 unfold oD at *
 cases g : yd p c with
 | none => rw [g] at h; simp at h
 | some x =>
  rw [g] at h
  simp only at h ⊢
  unfold zV at *
  by_cases b : (nE (nM x.ji) ((xG p c).map (·.ji))).2 = 0
  ·simp only [b, aJ] at h ⊢
   cases d : nM x.ji with
   | mk q e =>
    rw [d] at b
    obtain ⟨h1, l⟩ := GC _ q e b
    subst h1
    obtain ⟨m, a2, a3⟩ := GX d
    obtain ⟨i, j⟩ := l a2
    refine ⟨i, x, rfl, fun v => ?_⟩
    rw [j v, a3 v, List.all_map]
    rfl
  ·simp only [b, aF] at h
def vF (F : List jg) (peer : ByteArray) (r : iX) : Bool := nc yr F ⟨r, peer⟩
theorem Ng {l : List iY} {F : List jg} (h : Jm l F) (peer : ByteArray) : ∃ m, sL l peer = some m ∧ ∀ r, oq r m.1 m.2.1 m.2.2.1 m.2.2.2.1 m.2.2.2.2.1 m.2.2.2.2.2.1 m.2.2.2.2.2.2 = some (vF F peer r) := by
 obtain ⟨m, e, _, b⟩ := h.Px
 unfold sL
 rw [e, aA]
 refine ⟨_, rfl, fun r => ?_⟩
 unfold oq
 rw [nq]
 exact b r peer
noncomputable def xk (p : jL) (v : iX → Bool) (x : kP) : Bool := decide ((oD p x.Signed.iY).2 = 0) && rk v (oD p x.Signed.iY).1
theorem An (p : jL) (hp : PB p) (v : iX → Bool) (m) (b : ∀ r, oq r m.1 m.2.1 m.2.2.1 m.2.2.2.1 m.2.2.2.2.1 m.2.2.2.2.2.1 m.2.2.2.2.2.2 = some (v r)) : ∀ (l : List kP) (acc : List iY), acc.length + l.length ≤ 1000000000 →
  pd p m l acc = wA (acc ++ (l.filter (xk p v)).map (·.Signed.iY))
 | [], acc, _ => by
  rw [pd, gA, eo, aT, nq]
 | x :: l, acc, h => by
  rw [aH] at h
  have d := Fy p x.Signed.iY
  rw [pd, N4 p hp, aA, ID v _ b _ (by unfold Gd; omega), dy]
  unfold xk
  by_cases c : (oD p x.Signed.iY).2 = 0
  ·simp only [c, aS, aJ, bP, dq, aA]
   cases g : rk v (oD p x.Signed.iY).1
   ·simp only [aB, aF]
    exact An p hp v m b l acc (by omega)
   ·simp only [aJ]
    rw [kQ (by simp; omega) (by simp; omega), aA, An p hp v m b l _ (by simp; omega)]
    simp only [bI, aI, bJ, aX]
    rfl
  ·have e : ((oD p x.Signed.iY).2 == 0) = false := by simpa using c
   simp only [e, aB, aF, c, bW, eJ, aA]
   exact An p hp v m b l acc (by omega)
theorem MM (p : jL) (hp : PB p) {l : List iY} {F : List jg} (h : Jm l F) (peer : ByteArray) : ∃ s, pq p l peer = some s ∧ GM ((p.jv.filter (xk p (vF F peer))).map (·.Signed.iY)) s := by
 obtain ⟨m, e, b⟩ := Ng h peer
 have := hp.IK
 unfold pq
 rw [e, aA, An p hp _ m b p.jv [] (by simp; omega), aX]
 have h1 : (p.jv.filter (xk p (vF F peer))).length ≤ p.jv.length := ey _ _
 exact NI _ (by simp; omega)
noncomputable def vD (l : List iY) (peer : ByteArray) (r : iX) : Bool := @decide (nB (l.filter kG) ⟨r, peer⟩) (Classical.propDecidable _)
theorem GN (l : List iY) (peer : ByteArray) (r : iX) : vD l peer r = true ↔ nB (l.filter kG) ⟨r, peer⟩ := by unfold vD; simp
theorem MB {l m : List iY} (h : ∀ c ∈ l, c ∈ m) (peer : ByteArray) (r : iX) (d : vD l peer r = true) : vD m peer r = true := by
 rw [GN] at *
 exact d.mono (fun c b => by rw [cN] at *; exact ⟨h c b.1, b.2⟩)
theorem Pm (l : List iY) (i : l.length ≤ 1000000) (peer : ByteArray) : ∃ m, sL l peer = some m ∧ ∀ r, oq r m.1 m.2.1 m.2.2.1 m.2.2.2.1 m.2.2.2.2.1 m.2.2.2.2.2.1 m.2.2.2.2.2.2 = some (vD l peer r) := by
 obtain ⟨C, T, j, ws, n, e, m, g, _⟩ := Je l i
 unfold sL
 rw [e, aA]
 refine ⟨_, rfl, fun r => ?_⟩
 unfold oq
 rw [nq]
 obtain ⟨b, d, h⟩ := Kz m C j ws [] n r peer
 rw [d]
 congr 1
 rw [bF, h, GN]
 exact nB.congr (fun c => by rw [g, cN]) _
noncomputable def L8 (p : jL) (v : iX → Bool) (c : iY) : Bool := decide ((oD p c).2 = 0) && rk v (oD p c).1
theorem Lg {p : jL} {v w : iX → Bool} (h : ∀ r, v r = true → w r = true) (c : iY) (b : L8 p v c = true) : L8 p w c = true := by
 unfold L8 rk at *
 simp only [aP, bD] at *
 exact ⟨b.1, b.2.1, MO h _ b.2.2⟩
def oe (s : List iY) : Prop := s.Pairwise (fun a b => zb a b = true) ∧ ∀ c ∈ s, kG c = true
theorem oe.nodup {s : List iY} (h : oe s) : s.Nodup := rY AO h.2 h.1
theorem oe.le {s t : List iY} (h : oe s) (b : ∀ c ∈ s, c ∈ t) : s.length ≤ t.length := lh h.nodup b
theorem oe.ext {s t : List iY} (h : oe s) (k : oe t) (d : ∀ c, c ∈ s ↔ c ∈ t) : s = t :=
 tP.unique AO (l := t) ⟨h.1, fun x => ⟨fun b => ⟨(d x).1 b, h.2 x b⟩, fun b => (d x).2 b.1⟩⟩ ⟨k.1, fun x => ⟨fun b => ⟨b, k.2 x b⟩, fun b => b.1⟩⟩
theorem oe.eq {s t : List iY} (h : oe s) (k : oe t) (d : ∀ c ∈ s, c ∈ t) (j : t.length ≤ s.length) : s = t := by
 refine h.ext k fun c => ⟨d c, fun g => ?_⟩
 refine ez fun i => ?_
 have := lh (l := c :: s) (m := t) (cT.2 ⟨i, h.nodup⟩) (fun x b => by
  rcases aM.1 b with rfl | b
  ·exact g
  ·exact d x b)
 simp at this; omega
theorem oe.nil : oe [] := ⟨by simp, by simp⟩
theorem oe.filter {s : List iY} (h : oe s) (p : iY → Bool) : oe (s.filter p) := ⟨h.1.filter _, fun c b => h.2 c (cN.1 b).1⟩
def JF (p : jL) (c : iY) : Prop := ∃ x ∈ p.jv, x.Signed.iY = c
def qy (p : jL) (l : List iY) (peer : ByteArray) (c : iY) : Prop := JF p c ∧ kG c = true ∧ L8 p (vD l peer) c = true
theorem tw {p : jL} {l m : List iY} (h : ∀ c ∈ l, c ∈ m) {peer : ByteArray} {c : iY} (b : qy p l peer c) : qy p m peer c := ⟨b.1, b.2.1, Lg (MB h peer) c b.2.2⟩
theorem vM {p : jL} {s : List iY} (h : oe s) (d : ∀ c ∈ s, JF p c) : s.length ≤ p.jv.length := by
 have := h.le (t := p.jv.map (·.Signed.iY)) (fun c b => by obtain ⟨x, g, e⟩ := d c b; exact bG.2 ⟨x, g, e⟩)
 simpa using this
theorem Cy (p : jL) (hp : PB p) (l : List iY) (q : l.length ≤ 1000000) (peer : ByteArray) : ∃ s, pq p l peer = some s ∧ oe s ∧ (∀ c, c ∈ s ↔ qy p l peer c) ∧ s.length ≤ p.jv.length := by
 obtain ⟨m, e, r⟩ := Pm l q peer
 have := hp.IK
 unfold pq
 rw [e, aA, An p hp _ m r p.jv [] (by simp; omega), aX]
 have h1 : (p.jv.filter (xk p (vD l peer))).length ≤ p.jv.length := ey _ _
 obtain ⟨s, n, b⟩ := NI ((p.jv.filter (xk p (vD l peer))).map (·.Signed.iY)) (by simp; omega)
 have j : oe s := ⟨b.1, fun c g => ((b.2 c).1 g).2⟩
 have hm : ∀ c, c ∈ s ↔ qy p l peer c := fun c => by
  rw [b.2, bG]
  constructor
  ·rintro ⟨⟨x, i, rfl⟩, h⟩
   obtain ⟨o, d⟩ := cN.1 i
   exact ⟨⟨x, o, rfl⟩, h, d⟩
  ·rintro ⟨⟨x, i, rfl⟩, h, d⟩
   exact ⟨⟨x, cN.2 ⟨i, d⟩, rfl⟩, h⟩
 exact ⟨s, n, j, hm, vM j (fun c g => ((hm c).1 g).1)⟩
structure Iq (a b : jL) (x y : List iY) : Prop where
 sx : oe x
 sy : oe y
 fx : ∀ c, c ∈ x ↔ qy a y b.Name c
 fy : ∀ c, c ∈ y ↔ qy b x a.Name c
 least : ∀ X Y : List iY, (∀ c, qy a Y b.Name c → c ∈ X) → (∀ c, qy b X a.Name c → c ∈ Y) → (∀ c ∈ x, c ∈ X) ∧ (∀ c ∈ y, c ∈ Y)
theorem Iq.ly {a b : jL} {x y : List iY} (h : Iq a b x y) : y.length ≤ b.jv.length := vM h.sy (fun c d => ((h.fy c).1 d).1)
theorem FQ (a b : jL) (ha : PB a) (u : PB b) (I : a.jv.length ≤ 600000) (J : b.jv.length ≤ 600000) : ∀ (n : Nat) (x y : List iY) (i : Int), oe x → oe y → (∀ c ∈ x, qy a y b.Name c) → (∀ c ∈ y, qy b x a.Name c) →
  (∀ X Y : List iY, (∀ c, qy a Y b.Name c → c ∈ X) → (∀ c, qy b X a.Name c → c ∈ Y) → (∀ c ∈ x, c ∈ X) ∧ (∀ c ∈ y, c ∈ Y)) → a.jv.length + b.jv.length < n + x.length + y.length →
  ∃ v w j, nV a b n x y i = some (v, w, j) ∧ Iq a b v w
 | 0, x, y, i, sx, sy, g, l, hm, G => by
  have h1 := vM sx (fun c d => (g c d).1)
  have E := vM sy (fun c d => (l c d).1)
  omega
 | n + 1, x, y, i, sx, sy, g, l, hm, G => by
  have h1 := vM sx (fun c d => (g c d).1)
  have E := vM sy (fun c d => (l c d).1)
  obtain ⟨p, z, sp, mp, P⟩ := Cy a ha y (by omega) b.Name
  obtain ⟨q, A, sq, m, Q⟩ := Cy b u x (by omega) a.Name
  have o : ∀ c ∈ x, c ∈ p := fun c d => (mp c).2 (g c d)
  have r : ∀ c ∈ y, c ∈ q := fun c d => (m c).2 (l c d)
  have M := sx.le o
  have O := sy.le r
  rw [nV, z, aA, A, aA]
  by_cases c1 : p.length = x.length ∧ q.length = y.length
  ·have e : ((if ((p.length : Int) == (x.length : Int)) then some ((q.length : Int) == (y.length : Int)) else some false) : Option Bool) = some true := by
    rw [c1.1, c1.2]; simp
   rw [e]
   simp only [aA, aJ]
   obtain rfl := sx.eq sp o (by omega)
   obtain rfl := sy.eq sq r (by omega)
   exact ⟨_, _, _, rfl, sx, sy, mp, m, hm⟩
  ·have e : ((if ((p.length : Int) == (x.length : Int)) then some ((q.length : Int) == (y.length : Int)) else some false) : Option Bool) = some false := by
    by_cases c2 : p.length = x.length
    ·have L : ¬ q.length = y.length := fun h => c1 ⟨c2, h⟩
     simp [c2]; omega
    ·have : ¬ ((p.length : Int) = (x.length : Int)) := by omega
     simp [this]
   rw [e]
   simp only [aA, aB, aF]
   refine FQ a b ha u I J n p q _ sp sq (fun c d => tw r ((mp c).1 d)) (fun c d => tw o ((m c).1 d)) (fun X Y s t => ?_) (by omega)
   obtain ⟨g1, g2⟩ := hm X Y s t
   exact ⟨fun c d => s c (tw g2 ((mp c).1 d)), fun c d => t c (tw g1 ((m c).1 d))⟩
theorem JQ (a b : jL) (ha : PB a) (c : PB b) (d : a.jv.length ≤ 600000) (g : b.jv.length ≤ 600000) : ∃ x y j, rX a b = some (x, y, j) ∧ Iq a b x y :=
 FQ a b ha c d g jB [] [] 0 oe.nil oe.nil (by simp) (by simp) (fun _ _ _ _ => by simp) (by rw [ll]; simp; omega)
def vw : Formula := ⟨2, 0, nK, []⟩
theorem ML : zV vw [] = (vw, 0) := by
 have h1 : mw vw = true := by decide +kernel
 have d : nS vw = vw := by
  rw [vK]
  have b : ¬ (vw.Op = 1) := by decide
  have c : ¬ (vw.Op = 4) := by decide
  simp only [b, c, aF]
  rw [show vw.Kids = [] from rfl, shapeL]
  unfold nz
  rw [mG]
  rfl
 have g : nM vw = (vw, 0) := by unfold nM; rw [h1, d, h1]; rfl
 unfold zV
 rw [g, nE]; rfl
def PH : ByteArray := ⟨#[111, 119, 110]⟩
def N5 : ByteArray := ⟨#[99, 108, 105]⟩
theorem N9 : ∀ (n : Nat) (f : Formula), mJ f ≤ n → Gd f → tb n f = some (jE f : Int) := by
 intro n
 induction n with
 | zero => intro f h; rw [lL] at h; omega
 | succ n ih =>
  intro f g i
  rw [lL] at g
  have c := ni f
  unfold Gd at i
  rw [tb]
  unfold xA
  have key : ∀ (b : List Formula) (x : Nat), (∀ k ∈ b, k ∈ f.Kids) → x + nodesL b ≤ 50000000 → rj (tb n) b (x : Int) = some ((x + nodesL b : Nat) : Int) := by
   intro b
   induction b with
   | nil => intro x _ _; rw [rj, nodesL]; rfl
   | cons k b d =>
    intro x hk j
    rw [nodesL] at j
    rw [rj, ih k (by have := pg (hk k (by simp)); omega) (by have := qH (hk k (by simp)); unfold Gd; omega), aA]
    have w : wi0 .i64 ((x : Int) + (jE k : Int)) = ((x + jE k : Nat) : Int) := by rw [kk (by omega) (by omega)]; omega
    rw [w, d _ (fun z l => hk z (by simp [l])) (by omega), nodesL]
    congr 2; omega
  have := key f.Kids 1 (fun k hk => hk) (by omega)
  rw [c]
  exact this
theorem Pk : ∀ (n : Nat) (f : Formula), mJ f ≤ n → Gd f → tV n f = some (mJ f : Int) := by
 intro n
 induction n with
 | zero => intro f h; rw [lL] at h; omega
 | succ n ih =>
  intro f g i
  rw [lL] at g ⊢
  have j := ni f
  have hle := uC f
  rw [lL] at hle
  unfold Gd at i
  rw [tV]
  unfold xU
  have key : ∀ (b : List Formula) (x : Nat), (∀ k ∈ b, k ∈ f.Kids) → max x (deepL b) ≤ 50000000 → rN (tV n) b (x : Int) = some ((max x (deepL b) + 1 : Nat) : Int) := by
   intro b
   induction b with
   | nil =>
    intro x _ c
    rw [deepL] at c
    rw [rN, deepL, kk (by omega) (by omega)]
    congr 1; omega
   | cons k b d =>
    intro x hk c
    rw [deepL] at c
    rw [rN, ih k (by have := pg (hk k (by simp)); omega) (by have := qH (hk k (by simp)); unfold Gd; omega), aA]
    have w : (if (mJ k : Int) > (x : Int) then (mJ k : Int) else (x : Int)) = ((max x (mJ k) : Nat) : Int) := by split <;> omega
    rw [w, d _ (fun z l => hk z (by simp [l])) (by omega), deepL]
    congr 2; omega
  have := key f.Kids 0 (fun k hk => hk) (by omega)
  rw [Nat.zero_max] at this
  exact this
theorem OP : ∀ (n : Nat) (f : Formula), mJ f ≤ n → ue n f = some (qz f) := by
 intro n
 induction n with
 | zero => intro f h; rw [lL] at h; omega
 | succ n ih =>
  intro f h
  rw [lL] at h
  have key : ∀ i : List Formula, (∀ k ∈ i, k ∈ f.Kids) → rS (ue n) i = some (wellL i) := by
   intro i
   induction i with
   | nil => intro _; rw [rS, wellL]
   | cons k i o =>
    intro hk
    rw [rS, ih k (by have := pg (hk k (by simp)); omega), aA, o (fun z q => hk z (by simp [q])), wellL]
    cases qz k <;> rfl
  have hk := key f.Kids (fun k hk => hk)
  rw [ue]
  unfold xV
  rw [hk, A0, yD]
  unfold zo
  simp only [aA]
  by_cases c1 : f.Op = 1
  ·simp only [c1, aS, aJ]
   cases r : kR f.iX
   ·simp
   ·by_cases b : f.Kids.length = 0
    ·have e : f.Kids = [] := aN b
     by_cases m : f.K = 0 <;> simp [e, m, wellL]
    ·have : ((f.Kids.length : Int) == 0) = false := by rw [beq_eq_false_iff_ne]; omega
     simp [this, b]
  ·have p : (f.Op == 1) = false := by simpa using c1
   simp only [p, aB, aF, c1]
   by_cases g : f.Op = 2 ∨ f.Op = 3
   ·have j : ¬ f.Op < 1 := by omega
    have a2 : ¬ f.Op > 4 := by omega
    have a3 : f.Op < 4 := by omega
    have a4 : (f.Op == 4) = false := by rw [beq_eq_false_iff_ne]; omega
    simp only [j, a2, a3, a4, g, bW, bP, aB, aF, aJ, aA]
    cases d : jr f.iX ⟨zS, zS⟩
    ·simp [nK, d]
    ·by_cases b : f.Kids.length ≤ 8
     ·have c : ¬ ((f.Kids.length : Int) > 8) := by omega
      by_cases m : f.K = 0 <;> simp [nK, d, b, c, m]
     ·have c : ((f.Kids.length : Int) > 8) := by omega
      simp [nK, d, b, c]
   ·by_cases l : f.Op = 4
    ·have j : ¬ f.Op < 1 := by omega
     have a2 : ¬ f.Op > 4 := by omega
     have a3 : ¬ f.Op < 4 := by omega
     simp only [j, a2, a3, g, bW, aB, aF, aA]
     simp only [l, aS, aJ, bP, dq]
     cases d : jr f.iX ⟨zS, zS⟩
     ·simp [nK, d]
     ·by_cases b : f.Kids.length ≤ 8
      ·have c : ¬ ((f.Kids.length : Int) > 8) := by omega
       by_cases d1 : 1 ≤ f.Kids.length
       ·have g1 : ¬ ((f.Kids.length : Int) < 1) := by omega
        by_cases d2 : 0 ≤ f.K
        ·have g2 : ¬ f.K < 0 := by omega
         by_cases d3 : f.K ≤ (f.Kids.length : Int)
         ·have g3 : ¬ f.K > (f.Kids.length : Int) := by omega
          simp [nK, d, b, c, d1, g1, d2, g2, d3, g3]
         ·have g3 : f.K > (f.Kids.length : Int) := by omega
          simp [nK, d, b, c, d1, g1, d2, g2, d3, g3]
        ·have g2 : f.K < 0 := by omega
         simp [nK, d, b, c, d1, g1, d2, g2]
       ·have g1 : ((f.Kids.length : Int) < 1) := by omega
        simp [nK, d, b, c, d1, g1]
      ·have c : ((f.Kids.length : Int) > 8) := by omega
       simp [nK, d, b, c]
    ·have a : f.Op < 1 ∨ f.Op > 4 := by omega
     rcases a with a | a
     ·simp [a, g, l]
     ·have : ¬ f.Op < 1 := by omega
      simp [a, this, g, l]
theorem EH (f : Formula) (h : Gd f) : pA f = some (mw f) := by
 have c := uC f
 have b := h
 unfold Gd at b
 unfold pA mw
 rw [N9 jB f (by rw [ll]; omega) h, Pk jB f (by rw [ll]; omega) h, OP jB f (by rw [ll]; omega)]
 simp only [aA]
 by_cases c1 : jE f ≤ 64
 ·have d1 : ((jE f : Int) ≤ 64) := by omega
  by_cases c2 : mJ f ≤ 6
  ·have d2 : ((mJ f : Int) ≤ 6) := by omega
   simp [c1, c2, d1, d2]
  ·have d2 : ¬ ((mJ f : Int) ≤ 6) := by omega
   simp [c1, c2, d1, d2]
 ·have d1 : ¬ ((jE f : Int) ≤ 64) := by omega
  simp [c1, d1]
end Go.Proofs.YtjjjihkifgdhgaaGreatDoor
