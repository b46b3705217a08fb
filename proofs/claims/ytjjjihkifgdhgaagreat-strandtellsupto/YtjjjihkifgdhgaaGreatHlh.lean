/- a part of a proof of StrandTells -/
import Derived.Test.YtjjjihkifgdhgaaGreatS3Mh
import Derived.Test.YtjjjihkifgdhgaaGreatRtUh
set_option linter.all false
namespace Go.Proofs.YtjjjihkifgdhgaaGreat
open Go.IntKind renaming wrap → wi0
open Go.RowKit
section
variable {α : Type}
structure SWO (lt : α → α → Bool) : Prop where
 Pg : ∀ x, lt x x = false
 tr : ∀ x y z, lt x y = true → lt y z = true → lt x z = true
 MZ : ∀ x y z, lt x z = true → lt x y = true ∨ lt y z = true
variable {lt : α → α → Bool}
theorem SWO.asym (h : SWO lt) {x y : α} (a : lt x y = true) : lt y x = false := by
 cases e : lt y x
 ·rfl
 ·have := h.tr _ _ _ a e; rw [h.Pg] at this; cases this
def tl (lt : α → α → Bool) (p q : α × Nat) : Prop := lt p.1 q.1 = true ∨ (lt q.1 p.1 = false ∧ p.2 < q.2)
theorem CO (h : SWO lt) {p q r : α × Nat} (a : tl lt p q) (b : tl lt q r) : tl lt p r := by
 unfold tl at *
 rcases a with a | ⟨a, a2⟩ <;> rcases b with b | ⟨b, d⟩
 ·exact .inl (h.tr _ _ _ a b)
 ·rcases h.MZ _ r.1 _ a with c | c
  ·exact .inl c
  ·rw [b] at c; cases c
 ·rcases h.MZ _ p.1 _ b with c | c
  ·rw [a] at c; cases c
  ·exact .inl c
 ·refine .inr ⟨?_, by omega⟩
  cases e : lt r.1 p.1
  ·rfl
  ·rcases h.MZ _ q.1 _ e with c | c
   ·rw [b] at c; cases c
   ·rw [a] at c; cases c
theorem PW (h : SWO lt) {p q : α × Nat} (a : tl lt p q) (b : tl lt q p) : False := by
 have c := CO h a b
 rcases c with c | ⟨_, c⟩
 ·rw [h.Pg] at c; cases c
 ·omega
abbrev oq (lt : α → α → Bool) (t : List (α × Nat)) : Prop := t.Pairwise (tl lt)
theorem GV (h : SWO lt) : ∀ {t u : List (α × Nat)}, oq lt t → oq lt u → t.Perm u → t = u
 | [], u, _, _, hp => by rw [List.nil_perm] at hp; exact hp.symm
 | p :: t, [], _, _, hp => by simp at hp
 | p :: t, q :: u, h1, b, hp => by
  have e : p = q := by
   rcases aP.1 (hp.mem_iff.1 (.head _)) with e | d
   ·exact e
   ·rcases aP.1 (hp.mem_iff.2 (.head _)) with e | a
    ·exact e.symm
    ·exact (PW h ((cJ.1 h1).1 _ a) ((cJ.1 b).1 _ d)).elim
  subst e
  rw [GV h (cJ.1 h1).2 (cJ.1 b).2 (List.Perm.cons_inv hp)]
def Bc (lt : α → α → Bool) (l : List α) (k : α) : List α := l.filter (fun x => !lt k x) ++ k :: l.filter (fun x => lt k x)
def J0 (lt : α → α → Bool) (l : List α) : List α := l.foldl (Bc lt) []
def FN (lt : α → α → Bool) (t : List (α × Nat)) (k : α × Nat) : List (α × Nat) := t.filter (fun x => !lt k.1 x.1) ++ k :: t.filter (fun x => lt k.1 x.1)
theorem Oz (t : List (α × Nat)) (k : α × Nat) : (FN lt t k).map (·.1) = Bc lt (t.map (·.1)) k.1 := by
 simp [FN, Bc, List.filter_map, fP]
theorem NX (t : List (α × Nat)) (k : α × Nat) : (FN lt t k).Perm (t ++ [k]) := by
 unfold FN
 refine List.perm_middle.trans ?_
 refine (List.Perm.cons _ ?_).trans (fU k t).symm
 have := List.filter_append_perm (fun x : α × Nat => !lt k.1 x.1) t
 simpa using this
theorem Pa (h : SWO lt) {t : List (α × Nat)} {k : α × Nat} (i : oq lt t) (hk : ∀ x ∈ t, x.2 < k.2) : oq lt (FN lt t k) := by
 unfold FN oq
 rw [cR, cJ]
 refine ⟨i.filter _, ⟨fun x b => ?_, i.filter _⟩, fun x b y d => ?_⟩
 ·exact .inl (cN.1 b).2
 ·obtain ⟨h1, g⟩ := cN.1 b
  simp only [fj, ] at g
  have a : tl lt x k := .inr ⟨g, hk x h1⟩
  rcases aP.1 d with rfl | d
  ·exact a
  ·exact CO h a (.inl (cN.1 d).2)
theorem Ss (h : SWO lt) (l : List α) : ∃ t, oq lt t ∧ t.Perm l.zipIdx ∧ t.map (·.1) = J0 lt l := by
 suffices H : ∀ (l r : List α) (t : List (α × Nat)), oq lt t → t.Perm r.zipIdx → ∃ u, oq lt u ∧ u.Perm (r ++ l).zipIdx ∧ u.map (·.1) = l.foldl (Bc lt) (t.map (·.1)) by
  obtain ⟨u, h1, d, i⟩ := H l [] [] .nil (by simp)
  exact ⟨u, h1, by simpa using d, i⟩
 intro l
 induction l with
 | nil => intro r t h1 d; exact ⟨t, h1, by simpa using d, rfl⟩
 | cons k l ih =>
  intro r t h1 d
  obtain ⟨u, g, a2, a3⟩ := ih (r ++ [k]) (FN lt t (k, r.length)) (Pa h h1 (fun x j => by
   obtain ⟨a, b⟩ := x
   have := List.snd_lt_of_mem_zipIdx (d.mem_iff.1 j)
   simpa using this)) ((NX t _).trans (by rw [List.zipIdx_append]; simpa using d.append_right _))
  refine ⟨u, g, by simpa using a2, ?_⟩
  rw [a3, Oz]
  rfl
theorem Qv (h : SWO lt) {l : List α} {t : List (α × Nat)} (h1 : oq lt t) (b : t.Perm l.zipIdx) : t.map (·.1) = J0 lt l := by
 obtain ⟨u, a, a2, a3⟩ := Ss h l
 rw [← a3, GV h h1 a (b.trans a2.symm)]
end
section
variable {α : Type} {lt : α → α → Bool}
abbrev Lk (lt : α → α → Bool) (A B : List (α × Nat)) : Prop := ∀ A' a b B', A = A' ++ [a] → B = b :: B' → tl lt a b
theorem zT (h : SWO lt) {A B : List (α × Nat)} (k : oq lt A) (m : oq lt B) (l : Lk lt A B) : ∀ a ∈ A, ∀ b ∈ B, tl lt a b := by
 intro a ha b d
 rcases dl A with rfl | ⟨A', z, rfl⟩
 ·cases ha
 cases B with
 | nil => cases d
 | cons y B' =>
  have h1 : tl lt z y := l A' z y B' (by simp) rfl
  have g : a = z ∨ tl lt a z := by
   simp only [dL, aU, bO] at ha
   rcases ha with ha | ha
   ·refine .inr ?_
    simp only [dL, oq, cR] at k
    exact k.2.2 a ha z (by simp)
   ·exact .inl ha
  have i : b = y ∨ tl lt y b := by
   rcases aP.1 d with d | d
   ·exact .inl d
   ·exact .inr ((cJ.1 m).1 b d)
  have j : tl lt a y := by
   rcases g with rfl | g
   ·exact h1
   ·exact CO h g h1
  rcases i with rfl | i
  ·exact j
  ·exact CO h j i
theorem I5 (h : SWO lt) {A B : List (α × Nat)} (a : oq lt A) (b : oq lt B) (l : Lk lt A B) : oq lt (A ++ B) :=
 cR.2 ⟨a, b, zT h a b l⟩
theorem oq.left {A B : List (α × Nat)} (h : oq lt (A ++ B)) : oq lt A := (cR.1 h).1
theorem oq.right {A B : List (α × Nat)} (h : oq lt (A ++ B)) : oq lt B := (cR.1 h).2.1
theorem oq.two {A B : List (α × Nat)} (h : oq lt (A ++ B)) : ∀ a ∈ A, ∀ b ∈ B, tl lt a b := (cR.1 h).2.2
theorem Hz (h : SWO lt) {A B : List (α × Nat)} {x : α × Nat} (g : oq lt (A ++ B)) (j : Lk lt A [x]) (k : Lk lt [x] B) : oq lt (A ++ x :: B) := by
 have h1 := zT h g.left (gy _ x) j
 have i := zT h (gy _ x) g.right k
 refine cR.2 ⟨g.left, cJ.2 ⟨fun b d => i x (by simp) b d, g.right⟩, fun a ha b d => ?_⟩
 rcases aP.1 d with rfl | d
 ·exact h1 a ha _ (by simp)
 ·exact g.two a ha b d
theorem Qy (h : SWO lt) {A1 A2 B1 B2 C1 C2 : List (α × Nat)} (g : oq lt (A1 ++ A2)) (i : oq lt (B1 ++ B2)) (k : Lk lt A1 B2) (l : Lk lt B1 A2) (m : C1.Perm (A1 ++ B1)) (n : C2.Perm (A2 ++ B2)) (h1 : oq lt C1) (j : oq lt C2) : oq lt (C1 ++ C2) := by
 have x1 := zT h g.left i.right k
 have x2 := zT h i.left g.right l
 refine cR.2 ⟨h1, j, fun a ha b d => ?_⟩
 rcases aU.1 (m.mem_iff.1 ha) with ha | ha <;> rcases aU.1 (n.mem_iff.1 d) with d | d
 ·exact g.two a ha b d
 ·exact x1 a ha b d
 ·exact x2 a ha b d
 ·exact i.two a ha b d
end
section
variable {α : Type}
theorem EV (p q : List α) (x y : α) : (p ++ x :: q).set p.length y = p ++ y :: q := by simp
theorem J6 (p q : List α) (x y : α) (n : Nat) (h : n = p.length) : (p ++ x :: q).set n y = p ++ y :: q := by subst h; simp
theorem FK (p m q : List α) (x y : α) : ((p ++ x :: (m ++ y :: q)).set p.length y).set (p.length + 1 + m.length) x = p ++ y :: (m ++ x :: q) := by
 rw [EV]
 have : p ++ y :: (m ++ y :: q) = (p ++ y :: m) ++ y :: q := by simp
 rw [this, show p.length + 1 + m.length = (p ++ y :: m).length by simp; omega, EV]
 simp
theorem MV (p m q : List α) (x y : α) : ((p ++ x :: (m ++ y :: q)).set (p.length + 1 + m.length) x).set p.length y = p ++ y :: (m ++ x :: q) := by
 rw [List.set_comm _ _ (by omega), FK]
theorem wB {l : List α} {n : Nat} (h : n ≤ l.length) : ∃ a b, l = a ++ b ∧ a.length = n := ⟨l.take n, l.drop n, (gL n l).symm, by simp [h]⟩
end
theorem DA {c x : Bool} : (if c = true then some x else some false : Option Bool) = some (c && x) := by cases c <;> rfl
theorem Rq {c x : Bool} : (if c = true then some true else some x : Option Bool) = some (c || x) := by cases c <;> rfl
theorem ot {α : Type} (x : Option α) : (x.bind fun y => some y) = x := by cases x <;> rfl
theorem ko {x : Int} (a : -9223372036854775808 ≤ x) (h1 : x ≤ 9223372036854775807) : wi0 .i64 x = x := IntWalk.i64_in _ (by omega)
theorem mL {α : Type} (A : List α) (x : α) (B : List α) (i : Int) (h : i = (A.length : Int)) : lE (A ++ x :: B) i = some x := by
 subst h; rw [EY]; simp
theorem lX : kd = 18446744073709551615 + 1 := by rw [xf]
def Dg {α : Type} (f1 : α → Option Bool) (z : α) : Nat → List α → Int → Int → Option (List α)
 | 0, _, _, _ => none
 | n + 1, l, i, j => if decide (j < (l.length : Int)) then
   ((lE l j).bind fun x => (f1 x).bind fun r => if (!r) then (lE l i).bind fun _ => some (l.set (Int.toNat i) x, wi0 .i64 (i + 1)) else some (l, i) : Option (List α × Int)).bind fun (b, a) => Dg f1 z n b a (wi0 .i64 (j + 1))
  else (rF (decide (0 ≤ i) && decide (i ≤ (l.length : Int)))).bind fun _ => (rF (decide (0 ≤ i) && decide (i ≤ ((oI l (Int.toNat i) z).length : Int)))).bind fun _ => some ((oI l (Int.toNat i) z).take (Int.toNat i))
theorem DV {a b : Int} (d : 0 ≤ a) (h1 : a ≤ b) : rF (decide (0 ≤ a) && decide (a ≤ b)) = some () := by simp [rF, d, h1]
theorem JF {α : Type} (f1 : α → Option Bool) (p : α → Bool) (z : α) : ∀ (rest out mid : List α) (n : Nat), rest.length < n → (out ++ mid ++ rest).length < 4611686018427387904 → mid ≠ [] → (∀ x ∈ rest, f1 x = some (p x)) →
  Dg f1 z n (out ++ mid ++ rest) (out.length : Int) ((out.length + mid.length : Nat) : Int) = some (out ++ rest.filter fun x => !p x)
 | [], out, mid, 0, h, _, _, _ => by simp at h
 | [], out, mid, n + 1, _, b, hm, _ => by
  rw [Dg, bB (by simp)]
  have h1 : out.length ≤ (out ++ mid ++ []).length := by simp
  rw [DV (by omega) (by omega)]
  simp only [aA]
  rw [DV (by omega) (by rw [vR _ _ _ (by simpa using h1)]; omega)]
  simp only [aA, dC]
  rw [FF _ _ _ h1]
  simp
 | x :: rest, out, mid, 0, h, _, _, _ => by simp at h
 | x :: rest, out, mid, n + 1, h, b, hm, d => by
  have hlen : (out ++ mid ++ x :: rest).length = out.length + mid.length + rest.length + 1 := by simp; omega
  rw [hlen] at b
  rw [Dg, bD (by rw [hlen]; simp; omega)]
  rw [mL (out ++ mid) x rest _ (by simp)]
  simp only [aA, d x (by simp)]
  rw [ko (x := ((out.length + mid.length : Nat) : Int) + 1) (by omega) (by omega)]
  have ih := JF f1 p z rest
  cases hp : p x with
  | true =>
   simp only [cI, aB, aI, aA]
   have := ih out (mid ++ [x]) n (by simp at h; omega) (by simp; omega) (by simp) (fun y g => d y (by simp [g]))
   simp only [aJ, bE, aV, aF, aK, bL] at this ⊢
   rw [show ((out.length + mid.length : Nat) : Int) + 1 = ((out.length + (mid.length + (0 + 1)) : Nat) : Int) by omega, this]
   simp [hp]
  | false =>
   obtain ⟨m, a, rfl⟩ : ∃ m a, mid = m :: a := by cases mid with
    | nil => exact absurd rfl hm
    | cons m a => exact ⟨m, a, rfl⟩
   simp only [dt, aR]
   rw [aJ out (m :: a) (x :: rest), bE]
   rw [mL out m (a ++ x :: rest) _ rfl]
   simp only [aA]
   rw [ko (x := (out.length : Int) + 1) (by omega) (by simp at b; omega)]
   have := ih (out ++ [x]) (a ++ [x]) n (by simp at h; omega) (by simp at b ⊢; omega) (by simp) (fun y g => d y (by simp [g]))
   simp only [aJ, bE, aV, aF, aK, bL] at this
   have i : (out ++ m :: (a ++ x :: rest)).set (Int.toNat (out.length : Int)) x = out ++ x :: (a ++ x :: rest) := by
    rw [dC, List.set_append_right _ _ (aY _)]; simp
   rw [i]
   simp only [aK] at b ⊢
   rw [show (out.length : Int) + 1 = ((out.length + (0 + 1) : Nat) : Int) by omega, show ((out.length + (a.length + 1) : Nat) : Int) + 1 = ((out.length + (0 + 1) + (a.length + (0 + 1)) : Nat) : Int) by omega, this]
   simp [hp]
def zg {α : Type} (f1 : α → Option Bool) : List α → Nat → Option Int
 | [], _ => some (-1)
 | x :: xs, i => (f1 x).bind fun r => if r then some (i : Int) else zg f1 xs (i + 1)
theorem De {α : Type} (f1 : α → Option Bool) (p : α → Bool) : ∀ (l : List α) (i : Nat), (∀ x ∈ l, f1 x = some (p x)) →
  (zg f1 l i = some (-1) ∧ ∀ x ∈ l, p x = false) ∨ ∃ A x B, l = A ++ x :: B ∧ (∀ y ∈ A, p y = false) ∧ p x = true ∧ zg f1 l i = some ((i + A.length : Nat) : Int)
 | [], i, _ => .inl ⟨rfl, by simp⟩
 | x :: l, i, h => by
  rw [zg, h x (by simp)]
  simp only [aA]
  cases hp : p x with
  | true => exact .inr ⟨[], x, l, rfl, by simp, hp, by simp⟩
  | false =>
   simp only [aB, aI]
   rcases De f1 p l (i + 1) (fun y a => h y (by simp [a])) with ⟨h1, b⟩ | ⟨A, y, B, rfl, h1, b, g⟩
   ·exact .inl ⟨h1, by intro y a; rcases aP.1 a with rfl | a; exact hp; exact b y a⟩
   ·refine .inr ⟨x :: A, y, B, rfl, ?_, b, ?_⟩
    ·intro z d; rcases aP.1 d with rfl | d
     ·exact hp
     ·exact h1 z d
    ·rw [g]; simp; omega
def HB {α : Type} (f1 : α → Option Bool) (z : α) (l : List α) : Option (List α) :=
 (zg f1 l 0).bind fun a => if (a == (-1)) then some l else Dg f1 z kd l a (wi0 .i64 (a + 1))
theorem FP {α : Type} (f1 : α → Option Bool) (p : α → Bool) (z : α) (l : List α) (d : l.length < 4611686018427387904) (h : ∀ x ∈ l, f1 x = some (p x)) : HB f1 z l = some (l.filter fun x => !p x) := by
 unfold HB
 rcases De f1 p l 0 h with ⟨h1, b⟩ | ⟨A, x, B, rfl, h1, b, g⟩
 ·rw [h1]
  simp only [aA, aX, aR]
  rw [gf.2 (fun y a => by simp [b y a])]
 ·rw [g]
  simp only [aA, dV]
  rw [bB (by simp), ko (by omega) (by simp at d; omega)]
  have := JF f1 p z B A [x] kd (by rw [xf]; simp at d; omega) (by simpa using d) (by simp) (fun y a => h y (by simp [a]))
  simp only [aJ, bE, aV, aK, bL] at this
  rw [show (A.length : Int) + 1 = ((A.length + (0 + 1) : Nat) : Int) by omega, this]
  have i : A.filter (fun x => !p x) = A := gf.2 (fun y a => by simp [h1 y a])
  rw [iE, i]
  simp [b]
def mO {α : Type} (eq : α → α → Bool) : α → List α → List α
 | _, [] => []
 | p, y :: ys => if eq y p then mO eq y ys else y :: mO eq y ys
def dd {α : Type} (eq : α → α → Bool) : List α → List α
 | [] => []
 | x :: xs => x :: mO eq x xs
def Bh {α : Type} (eq : α → α → Bool) (i : Int) : Nat → List α → Int → Int → Option (List α × Int)
 | 0, _, _, _ => none
 | n + 1, l, k, j => if decide (j < ((l.length - Int.toNat i : Nat) : Int)) then
   ((lE (l.drop (Int.toNat i)) j).bind fun x => (lE (l.drop (Int.toNat i)) (wi0 .i64 (j - 1))).bind fun y => if !(eq x y) then (lE (l.drop (Int.toNat i)) j).bind fun z => (lE l k).bind fun _ => some (l.set (Int.toNat k) z, wi0 .i64 (k + 1)) else some (l, k) : Option (List α × Int)).bind fun (a, k') => Bh eq i n a k' (wi0 .i64 (j + 1))
  else some (l, k)
def BN {α : Type} (eq : α → α → Bool) (z : α) (l : List α) : Nat → Int → Option (List α)
 | 0, _ => none
 | n + 1, i => if decide (i < (l.length : Int)) then (lE l i).bind fun x => (lE l (wi0 .i64 (i - 1))).bind fun y => if eq x y then
    (rF (decide (0 ≤ i) && decide (i ≤ (l.length : Int)))).bind fun _ => (Bh eq i kd l i 1).bind fun (a, k) => (rF (decide (0 ≤ k) && decide (k ≤ (a.length : Int)))).bind fun _ => (rF (decide (0 ≤ k) && decide (k ≤ ((oI a (Int.toNat k) z).length : Int)))).bind fun _ => some ((oI a (Int.toNat k) z).take (Int.toNat k))
   else BN eq z l n (wi0 .i64 (i + 1))
  else some l
def Jv {α : Type} (eq : α → α → Bool) (z : α) (l : List α) : Option (List α) := if decide ((l.length : Int) < 2) then some l else BN eq z l kd 1
theorem IZ {α : Type} (l : List α) (i : Nat) (j : Int) (a : 0 ≤ j) : lE (l.drop i) j = lE l ((i : Int) + j) := by
 obtain ⟨m, rfl⟩ : ∃ m : Nat, j = m := ⟨j.toNat, by omega⟩
 rw [show (i : Int) + (m : Int) = ((i + m : Nat) : Int) by omega, EY, EY, dN]
theorem Gb {α : Type} (eq : α → α → Bool) (i : Nat) : ∀ (rest out mid : List α) (p : α) (n : Nat), rest.length < n → (out ++ (mid ++ [p]) ++ rest).length < 4611686018427387904 → 1 ≤ i → i ≤ out.length →
  ∃ b, Bh eq (i : Int) n (out ++ (mid ++ [p]) ++ rest) (out.length : Int) ((out.length + mid.length + 1 - i : Nat) : Int) = some (b, ((out ++ mO eq p rest).length : Int)) ∧ b.take (out ++ mO eq p rest).length = out ++ mO eq p rest ∧ (out ++ mO eq p rest).length ≤ b.length
 | [], out, mid, p, 0, h, _, _, _ => by simp at h
 | [], out, mid, p, n + 1, h, l, h1, k => by
  rw [Bh, bB (by simp; omega)]
  exact ⟨out ++ (mid ++ [p]) ++ [], by simp [mO], by simp [mO], by simp [mO]⟩
 | x :: rest, out, mid, p, 0, h, _, _, _ => by simp at h
 | x :: rest, out, mid, p, n + 1, h, l, h1, k => by
  have hlen : (out ++ (mid ++ [p]) ++ x :: rest).length = out.length + mid.length + rest.length + 2 := by simp; omega
  rw [hlen] at l
  rw [Bh, bD (by rw [hlen]; simp; omega)]
  rw [dC, IZ _ _ _ (by omega), mL (out ++ (mid ++ [p])) x rest _ (by simp; omega)]
  simp only [aA]
  rw [ko (x := ((out.length + mid.length + 1 - i : Nat) : Int) - 1) (by omega) (by omega), IZ _ _ _ (by omega)]
  rw [show out ++ (mid ++ [p]) ++ x :: rest = (out ++ mid) ++ p :: (x :: rest) by simp]
  rw [mL (out ++ mid) p (x :: rest) _ (by simp; omega)]
  simp only [aA]
  rw [ko (x := ((out.length + mid.length + 1 - i : Nat) : Int) + 1) (by omega) (by omega)]
  cases hp : eq x p with
  | true =>
   simp only [cI, aB, aI, aA]
   obtain ⟨b, d, g, j⟩ := Gb eq i rest out (mid ++ [p]) x n (by simp at h; omega) (by simp; omega) h1 k
   refine ⟨b, ?_, by rw [mO, hp]; exact g, by rw [mO, hp]; exact j⟩
   rw [mO, hp, bD rfl, ← d]
   congr 1
   ·simp
   ·simp; omega
  | false =>
   simp only [dt, aR]
   obtain ⟨m, a, hm⟩ : ∃ m a, mid ++ [p] = m :: a := by cases mid with
    | nil => exact ⟨p, [], rfl⟩
    | cons m a => exact ⟨m, a ++ [p], rfl⟩
   have r : a.length = mid.length := by have := bN List.length hm; simp at this; omega
   rw [show (out ++ mid) ++ p :: (x :: rest) = out ++ m :: (a ++ x :: rest) by rw [← bE, ← hm]; simp]
   rw [mL out m (a ++ x :: rest) _ rfl]
   simp only [aA]
   rw [ko (x := (out.length : Int) + 1) (by omega) (by omega)]
   have s : (out ++ m :: (a ++ x :: rest)).set (Int.toNat (out.length : Int)) x = (out ++ [x]) ++ (a ++ [x]) ++ rest := by
    rw [dC, List.set_append_right _ _ (aY _)]; simp
   rw [s]
   obtain ⟨b, d, g, j⟩ := Gb eq i rest (out ++ [x]) a x n (by simp at h; omega) (by simp; omega) h1 (by simp; omega)
   refine ⟨b, ?_, ?_, ?_⟩
   ·rw [mO, hp, bB (by decide)]
    have q : ((out ++ x :: mO eq x rest).length : Int) = ((out ++ [x] ++ mO eq x rest).length : Int) := by simp
    rw [q, ← d]
    congr 1
    ·simp
    ·simp; omega
   ·rw [mO, hp, bB (by decide)]; simpa using g
   ·rw [mO, hp, bB (by decide)]; simpa using j
theorem J2 {α : Type} (eq : α → α → Bool) (z : α) : ∀ (rest pre : List α) (p : α) (n : Nat), rest.length < n → (pre ++ p :: rest).length < 4611686018427387904 →
  BN eq z (pre ++ p :: rest) n ((pre.length + 1 : Nat) : Int) = some (pre ++ p :: mO eq p rest)
 | [], pre, p, 0, h, _ => by simp at h
 | [], pre, p, n + 1, h, i => by rw [BN, bB (by simp)]; simp [mO]
 | x :: rest, pre, p, 0, h, _ => by simp at h
 | x :: rest, pre, p, n + 1, h, i => by
  have hlen : (pre ++ p :: x :: rest).length = pre.length + rest.length + 2 := by simp; omega
  rw [hlen] at i
  rw [BN, bD (by rw [hlen]; simp; omega)]
  rw [show pre ++ p :: x :: rest = (pre ++ [p]) ++ x :: rest by simp, mL (pre ++ [p]) x rest _ (by simp)]
  simp only [aA]
  rw [ko (x := ((pre.length + 1 : Nat) : Int) - 1) (by omega) (by omega)]
  rw [show (pre ++ [p]) ++ x :: rest = pre ++ p :: (x :: rest) by simp, mL pre p (x :: rest) _ (by omega)]
  simp only [aA]
  cases hp : eq x p with
  | true =>
   simp only [aR]
   rw [DV (by omega) (by rw [hlen]; omega)]
   simp only [aA]
   obtain ⟨j, a, g, d⟩ := Gb eq (pre.length + 1) rest (pre ++ [p]) [] x kd (by rw [xf]; omega) (by simp; omega) (by omega) (by simp)
   simp only [aJ, bE, aV, aF, aK, bL] at a g d
   rw [show (pre.length + (0 + 1) + 0 + 1 - (pre.length + 1) : Nat) = 1 by omega] at a
   rw [show ((pre.length + 1 : Nat) : Int) = ((pre.length + (0 + 1) : Nat) : Int) by omega] at *
   have b : Bh eq ((pre.length + (0 + 1) : Nat) : Int) kd (pre ++ p :: x :: rest) ((pre.length + (0 + 1) : Nat) : Int) 1 = _ := a
   rw [b]
   simp only [aA]
   rw [DV (by omega) (by omega)]
   simp only [aA, dC]
   rw [DV (by omega) (by rw [vR _ _ _ d]; omega)]
   simp only [aA]
   rw [FF _ _ _ d, g, mO, hp]
   simp
  | false =>
   simp only [aB, aI]
   rw [ko (x := ((pre.length + 1 : Nat) : Int) + 1) (by omega) (by omega)]
   have := J2 eq z rest (pre ++ [p]) x n (by simp at h; omega) (by simp; omega)
   simp only [aJ, bE, aV, aF, aK, bL] at this
   rw [show ((pre.length + 1 : Nat) : Int) + 1 = ((pre.length + (0 + 1) + 1 : Nat) : Int) by omega, this, mO, hp]
   simp
theorem Kd {α : Type} (eq : α → α → Bool) (z : α) (l : List α) (a : l.length < 4611686018427387904) : Jv eq z l = some (dd eq l) := by
 unfold Jv
 cases l with
 | nil => rfl
 | cons x xs =>
  cases xs with
  | nil => simp [dd, mO]
  | cons y ys =>
   rw [bB (by simp; omega)]
   have := J2 eq z (y :: ys) [] x kd (by rw [xf]; simp at a ⊢; omega) (by simpa using a)
   simpa [dd] using this
structure Af {α : Type} (lt : α → α → Prop) (P : α → Prop) : Prop where
 irrefl : ∀ x, P x → ¬ lt x x
 trans : ∀ x y z, P x → P y → P z → lt x y → lt y z → lt x z
 total : ∀ x y, P x → P y → lt x y ∨ x = y ∨ lt y x
def wx {α : Type} (lt : α → α → Prop) (P : α → Prop) (l out : List α) : Prop := out.Pairwise lt ∧ ∀ x, x ∈ out ↔ x ∈ l ∧ P x
theorem wx.unique {α : Type} {lt : α → α → Prop} {P : α → Prop} (H : Af lt P) : ∀ {l a b : List α}, wx lt P l a → wx lt P l b → a = b := by
 have key : ∀ a b : List α, (∀ x ∈ a, P x) → a.Pairwise lt → b.Pairwise lt → (∀ x, x ∈ a ↔ x ∈ b) → a = b := by
  intro a
  induction a with
  | nil => intro b _ _ _ hm; cases b with
   | nil => rfl
   | cons y ys => exact absurd ((hm y).2 (by simp)) (by simp)
  | cons x xs ih =>
   intro b n ha k hm
   cases b with
   | nil => exact absurd ((hm x).1 (by simp)) (by simp)
   | cons y ys =>
    have p : P y := n y ((hm y).2 (by simp))
    have d : P x := n x (by simp)
    have g := cJ.1 ha
    have i := cJ.1 k
    have q : x = y := by
     rcases aP.1 ((hm x).1 (by simp)) with h | h
     ·exact h
     ·rcases aP.1 ((hm y).2 (by simp)) with m | m
      ·exact m.symm
      ·exact absurd (H.trans x y x d p d (g.1 y m) (i.1 x h)) (H.irrefl x d)
    subst q
    congr 1
    refine ih ys (fun z j => n z (by simp [j])) g.2 i.2 (fun z => ?_)
    constructor
    ·intro j
     rcases aP.1 ((hm z).1 (by simp [j])) with h | h
     ·subst h; exact absurd (g.1 z j) (H.irrefl z d)
     ·exact h
    ·intro j
     rcases aP.1 ((hm z).2 (by simp [j])) with h | h
     ·subst h; exact absurd (i.1 z j) (H.irrefl z d)
     ·exact h
 intro l a b ha k
 exact key a b (fun x r => ((ha.2 x).1 r).2) ha.1 k.1 (fun x => (ha.2 x).trans (k.2 x).symm)
theorem CY {α : Type} {eq : α → α → Bool} (he : ∀ x y, eq x y = true ↔ x = y) : ∀ (l : List α) (p x : α), x ∈ p :: mO eq p l ↔ x ∈ p :: l
 | [], p, x => by simp [mO]
 | y :: l, p, x => by
  rw [mO]
  split
  ·rename_i h
   have := (he y p).1 h
   subst this
   rw [CY he l y x]; simp
  ·have := CY he l y x
   simp only [aP] at this ⊢
   rw [this]
theorem Jr {α : Type} {eq : α → α → Bool} (he : ∀ x y, eq x y = true ↔ x = y) (l : List α) (x : α) : x ∈ dd eq l ↔ x ∈ l := by
 cases l with
 | nil => simp [dd]
 | cons y l => exact CY he l y x
theorem BO {α : Type} {eq : α → α → Bool} {lt : α → α → Prop} {P : α → Prop} (he : ∀ x y, eq x y = true ↔ x = y) (H : Af lt P) : ∀ (l : List α) (p : α), (∀ x ∈ p :: l, P x) → (p :: l).Pairwise (fun a b => ¬ lt b a) → (p :: mO eq p l).Pairwise lt
 | [], p, _, _ => by simp [mO]
 | y :: l, p, d, q => by
  have h1 := cJ.1 q
  rw [mO]
  split
  ·rename_i h
   have := (he y p).1 h
   subst this
   exact BO he H l y (fun x j => d x (dq _ j)) h1.2
  ·rename_i h
   have ih := BO he H l y (fun x j => d x (dq _ j)) h1.2
   refine cJ.2 ⟨fun z n => ?_, ih⟩
   have i : lt p y := by
    rcases H.total p y (d p (by simp)) (d y (by simp)) with g | g | g
    ·exact g
    ·exact absurd ((he y p).2 g.symm) h
    ·exact absurd g (h1.1 y (by simp))
   rcases aP.1 n with rfl | k
   ·exact i
   ·have m : z ∈ y :: l := (CY he l y z).1 n
    exact H.trans p y z (d p (by simp)) (d y (by simp)) (d z (dq _ m)) i ((cJ.1 ih).1 z k)
theorem MR {α : Type} {eq : α → α → Bool} {lt : α → α → Prop} {P : α → Prop} (he : ∀ x y, eq x y = true ↔ x = y) (H : Af lt P) (l : List α) (d : ∀ x ∈ l, P x) (g : l.Pairwise (fun a b => ¬ lt b a)) : (dd eq l).Pairwise lt := by
 cases l with
 | nil => simp [dd]
 | cons y l => exact BO he H l y d g
theorem Is {α : Type} {le : α → α → Bool} {P : α → Prop} (i : ∀ a b c, P a → P b → P c → le a b = true → le b c = true → le a c = true) (h : ∀ a b, P a → P b → (le a b || le b a) = true) (l : List α) (d : ∀ x ∈ l, P x) :
  (l.mergeSort le).Pairwise (fun a b => le a b = true) := by
 have e : l = (l.attachWith P d).map Subtype.val := by simp
 have hm : ((l.attachWith P d).mergeSort fun a b => le a.1 b.1).map Subtype.val = l.mergeSort le := by
  conv => rhs; rw [e]
  exact iB (fun a _ b _ => rfl)
 rw [← hm, fQ]
 exact gw (le := fun (a b : {x // P x}) => le a.1 b.1) (fun a b c h1 g => i a.1 b.1 c.1 a.2 b.2 c.2 h1 g) (fun a b => h a.1 b.1 a.2 b.2) _
theorem FE {α : Type} {eq : α → α → Bool} {lt : α → α → Prop} {P : α → Prop} {cf : α × α → Option Int} {l : List α} (he : ∀ x y, eq x y = true ↔ x = y) (H : Af lt P) (g : ∀ x ∈ l, P x) (E : l.length < 4611686018427387904) (w : ∀ x y, P x → P y → ∃ c, cf (x, y) = some c ∧ (c < 0 ↔ lt x y)) : ∃ s, zG cf l = some s ∧ s.length = l.length ∧ wx lt P l (dd eq s) := by
 have j : ∀ x y, P x → P y → (uy cf x y = true ↔ lt x y) := fun x y i n => by
  obtain ⟨c, h1, m⟩ := w x y i n
  unfold uy
  rw [h1]
  simpa using m
 have d : ∀ x y, P x → P y → (uy cf x y = false ↔ ¬ lt x y) := fun x y i n => by
  rw [← j x y i n]; simp
 have ok : Ei cf l := by
  refine ⟨fun x i y n => ?_, fun x i => ?_, fun x i y n z u h1 m => ?_, fun x i y n h1 m => ?_, E⟩
  ·obtain ⟨c, h1, _⟩ := w x y (g x i) (g y n); exact ⟨c, h1⟩
  ·exact (d x x (g x i) (g x i)).2 (H.irrefl x (g x i))
  ·rw [j _ _ (g x i) (g y n)] at h1
   rw [j _ _ (g y n) (g z u)] at m
   rw [j _ _ (g x i) (g z u)]
   exact H.trans x y z (g x i) (g y n) (g z u) h1 m
  ·rw [d _ _ (g x i) (g y n)] at h1
   rw [d _ _ (g y n) (g x i)] at m
   rcases H.total x y (g x i) (g y n) with h | h | h
   ·exact absurd h h1
   ·exact h
   ·exact absurd h m
 refine ⟨_, O7 ok, by simp [tL], ?_, ?_⟩
 ·have k : ∀ x, x ∈ tL cf l ↔ x ∈ l := fun x => by simp [tL]
  refine MR he H _ (fun x i => g x ((k x).1 i)) ?_
  have := Is (le := fun x y => !uy cf y x) (P := P) (fun a b c ha p q h1 m => ?_) (fun a b ha p => ?_) l g
  ·refine (this.imp_of_mem ?_ : _)
   intro a b ha p h
   have r : a ∈ l := (k a).1 ha
   have t : b ∈ l := (k b).1 p
   simp at h
   exact (d b a (g b t) (g a r)).1 h
  ·simp at h1 m ⊢
   rw [d _ _ p ha] at h1
   rw [d _ _ q p] at m
   rw [d _ _ q ha]
   intro v
   rcases H.total a b ha p with h | h | h
   ·exact m (H.trans c a b q ha p v h)
   ·subst h; exact m v
   ·exact h1 h
  ·simp only [fL, fj]
   rw [d _ _ p ha, d _ _ ha p]
   by_cases h : lt b a
   ·right; intro m; exact H.irrefl a ha (H.trans a b a ha p ha m h)
   ·exact .inl h
 ·intro x
  rw [Jr he]
  constructor
  ·intro i
   have : x ∈ l := by simpa [tL] using i
   exact ⟨this, g x this⟩
  ·intro i; simpa [tL] using i.1
theorem vw : ∀ a : List UInt8, Op.bytesLess a a = false
 | [] => rfl
 | x :: a => by simp [Op.bytesLess, vw a]
theorem JY (x y : UInt8) : x < y ∨ x = y ∨ y < x := by
 rcases Nat.lt_trichotomy x.toNat y.toNat with h | h | h
 ·exact .inl h
 ·exact .inr (.inl (UInt8.toNat_inj.1 h))
 ·exact .inr (.inr h)
theorem yd : ∀ a b c : List UInt8, Op.bytesLess a b = true → Op.bytesLess b c = true → Op.bytesLess a c = true
 | [], [], c, h1, _ => by simp [Op.bytesLess] at h1
 | _ :: _, [], c, h1, _ => by simp [Op.bytesLess] at h1
 | a, _ :: _, [], _, d => by simp [Op.bytesLess] at d
 | [], b :: bs, c :: cs, _, _ => rfl
 | a :: ax, b :: bs, c :: cs, h1, d => by
  simp only [Op.bytesLess, fL, bW, bF, iA] at h1 d ⊢
  rcases h1 with h1 | ⟨rfl, h1⟩
  ·rcases d with d | ⟨rfl, d⟩
   ·exact .inl (UInt8.lt_trans h1 d)
   ·exact .inl h1
  ·rcases d with d | ⟨rfl, d⟩
   ·exact .inl d
   ·exact .inr ⟨rfl, yd ax bs cs h1 d⟩
theorem AO : ∀ a b : List UInt8, Op.bytesLess a b = true ∨ a = b ∨ Op.bytesLess b a = true
 | [], [] => .inr (.inl rfl)
 | [], _ :: _ => .inl rfl
 | _ :: _, [] => .inr (.inr rfl)
 | a :: ax, b :: bs => by
  simp only [Op.bytesLess, fL, bW, bF, iA, bk]
  rcases JY a b with h | h | h
  ·exact .inl (.inl h)
  ·subst h
   rcases AO ax bs with h | h | h
   ·exact .inl (.inr ⟨rfl, h⟩)
   ·exact .inr (.inl ⟨rfl, h⟩)
   ·exact .inr (.inr (.inr ⟨rfl, h⟩))
  ·exact .inr (.inr (.inl h))
theorem Cs : ∀ a b : List UInt8, (Lib.compareBytes a b < 0 ↔ Op.bytesLess a b = true)
 | [], [] => by simp [Lib.compareBytes, Op.bytesLess]
 | [], _ :: _ => by simp [Lib.compareBytes, Op.bytesLess]
 | _ :: _, [] => by simp [Lib.compareBytes, Op.bytesLess]
 | a :: ax, b :: bs => by
  simp only [Lib.compareBytes, Op.bytesLess, fL, bW, bF, iA]
  by_cases h : a < b
  ·simp [h]
  ·by_cases g : b < a
   ·have : a ≠ b := by rintro rfl; exact h g
    simp [h, g, this]
   ·have : a = b := by rcases JY a b with d | d | d; exact absurd d h; exact d; exact absurd d g
    subst this
    simp [h, Cs ax bs]
theorem F8 : ∀ a b : List UInt8, (Lib.compareBytes a b = 0 ↔ a = b)
 | [], [] => by simp [Lib.compareBytes]
 | [], _ :: _ => by simp [Lib.compareBytes]
 | _ :: _, [] => by simp [Lib.compareBytes]
 | a :: ax, b :: bs => by
  simp only [Lib.compareBytes, bk]
  by_cases h : a < b
  ·simp only [h, aR]
   constructor
   ·intro h; cases h
   ·rintro ⟨rfl, _⟩; exact absurd h (by simp)
  ·by_cases g : b < a
   ·simp only [h, g, aR, aI]
    constructor
    ·intro h; cases h
    ·rintro ⟨rfl, _⟩; exact absurd g (by simp)
   ·have : a = b := by rcases JY a b with d | d | d; exact absurd d h; exact d; exact absurd d g
    subst this
    simp [h, F8 ax bs]
theorem ym (a b : ByteArray) : qe a b = Op.bytesLess a.data.toList b.data.toList := by unfold qe; rw [fu, fu]
theorem zN {a b : ByteArray} (h : a.data.toList = b.data.toList) : a = b := iO (Array.toList_inj.1 h)
theorem th (a : ByteArray) : qe a a = false := by rw [ym, vw]
theorem zX {a b c : ByteArray} (h1 : qe a b = true) (d : qe b c = true) : qe a c = true := by rw [ym] at *; exact yd _ _ _ h1 d
theorem zP (a b : ByteArray) : qe a b = true ∨ a = b ∨ qe b a = true := by
 rw [ym, ym]
 rcases AO a.data.toList b.data.toList with h | h | h
 ·exact .inl h
 ·exact .inr (.inl (zN h))
 ·exact .inr (.inr h)
theorem Ii {a b : ByteArray} (h : qe a b = true) : qe b a = false := by
 cases d : qe b a with
 | false => rfl
 | true => have := zX h d; rw [th] at this; cases this
theorem PC (P : ByteArray → Prop) : Af (fun a b => qe a b = true) P :=
 ⟨fun x _ h => (by rw [th] at h; cases h), fun x y z _ _ _ => zX, fun x y _ _ => zP x y⟩
def A4 (b : UInt8) : Bool := decide (97 ≤ b.toNat) && decide (b.toNat ≤ 122)
def Cy (b : UInt8) : Bool := A4 b || (decide (48 ≤ b.toNat) && decide (b.toNat ≤ 57)) || decide (b.toNat = 45)
def nr (s : ByteArray) : Bool := decide (1 ≤ s.size) && decide (s.size ≤ 16) && (match s.data.toList with | [] => false | b :: _ => A4 b) && s.data.toList.all Cy
theorem om {s : ByteArray} (h : nr s = true) : 1 ≤ s.size ∧ s.size ≤ 16 := by
 simp only [nr, bF, bW] at h
 exact h.1.1
theorem LZ : ∀ n : Nat, n < 256 → decide (xl (⟨#[97, 98, 99, 100, 101, 102, 103, 104, 105, 106, 107, 108, 109, 110, 111, 112, 113, 114, 115, 116, 117, 118, 119, 120, 121, 122]⟩ : ByteArray) (n : Int) ≥ 0) = A4 (UInt8.ofNat n) := by decide +kernel
theorem O5 : ∀ n : Nat, n < 256 → decide (xl (⟨#[97, 98, 99, 100, 101, 102, 103, 104, 105, 106, 107, 108, 109, 110, 111, 112, 113, 114, 115, 116, 117, 118, 119, 120, 121, 122, 48, 49, 50, 51, 52, 53, 54, 55, 56, 57, 45]⟩ : ByteArray) (n : Int) < 0) = !Cy (UInt8.ofNat n) := by decide +kernel
theorem wP (s : ByteArray) : s.size = s.data.toList.length := by rw [dm]; rfl
theorem Fx {s : ByteArray} (h : s.size ≤ 16) : CB s = some (tb s) := by
 unfold CB; rw [bD (by unfold maxLen; omega)]
theorem Jq : ∀ l : List UInt8, vl (l.map fun b => (b.toNat : Int)) = some (l.all Cy)
 | [] => rfl
 | b :: l => by
  rw [bH, vl]
  simp only [rI, oB, aA]
  have a := O5 b.toNat (iF b)
  rw [a]
  simp only [iM, gQ]
  cases Cy b with
  | true => simp [Jq l]
  | false => simp
theorem Ig {s : ByteArray} {b : UInt8} {l : List UInt8} (h : s.data.toList = b :: l) : Ak s 0 = some b := by
 unfold Ak
 rw [bD (Int.le_refl 0)]
 have a : s.data[0]? = some b := by rw [← dK, h]; rfl
 show s[0]? = some b
 rw [← a]
 rfl
theorem yV (s : ByteArray) : sD s = some (nr s) := by
 unfold sD
 simp only [DA, aA, ot]
 by_cases h1 : 1 ≤ s.size
 ·by_cases a : s.size ≤ 16
  ·rw [bD (by simp; omega)]
   obtain ⟨b, l, d⟩ : ∃ b l, s.data.toList = b :: l := by
    cases h : s.data.toList with
    | nil => rw [wP, h] at h1; simp at h1
    | cons b l => exact ⟨b, l, rfl⟩
   rw [Ig d]
   simp only [aA, rI, oB]
   rw [LZ b.toNat (iF b)]
   simp only [iM, nr, h1, a, d, bY, dO]
   cases A4 b with
   | false => simp
   | true =>
    simp only [aR, BL, Fx a, aA, tb]
    rw [Jq, d]
    simp
  ·rw [bB (by simp; omega)]
   simp [nr, a]
 ·rw [bB (by simp; omega)]
  simp [nr, h1]
theorem PM {s : ByteArray} {A B : List UInt8} {b : UInt8} (h : s.data.toList = A ++ b :: B) (i : Int) (d : i = (A.length : Int)) : Ak s i = some b := by
 subst d
 unfold Ak
 rw [bD (by omega), dC]
 have a : s.data[A.length]? = some b := by rw [← dK, h]; simp
 show s[A.length]? = some b
 rw [← a]
 rfl
theorem Ew (s : ByteArray) (v : s.size ≤ 16) : ∀ (B A : List UInt8) (n : Nat), s.data.toList = A ++ B → B.length < n → qg s n (A.length : Int) = some (B.all Cy)
  | [], A, 0, _, h => by simp at h
  | [], A, n + 1, h, _ => by
    have : s.size = A.length := by rw [wP, h]; simp
    rw [qg, bB (by rw [this]; simp)]
    rfl
  | b :: B, A, 0, _, h => by simp at h
  | b :: B, A, n + 1, h, u => by
    have l : s.size = A.length + B.length + 1 := by rw [wP, h]; simp; omega
    rw [qg, bD (by rw [l]; simp; omega)]
    rw [PM h _ rfl]
    simp only [aA]
    rw [ko (x := (A.length : Int) + 1) (by omega) (by omega)]
    have ih := Ew s v B (A ++ [b]) n (by rw [h]; simp) (by simp at u; omega)
    rw [show ((A ++ [b]).length : Int) = (A.length : Int) + 1 by simp] at ih
    simp only [gQ]
    have k : ∀ n : Nat, n < 256 → Cy (UInt8.ofNat n) = !((decide (n < 97) || decide (n > 122)) && (decide (n < 48) || decide (n > 57)) && decide (n ≠ 45)) := by decide +kernel
    have m := k b.toNat (iF b)
    simp only [iM] at m
    rw [m]
    by_cases h1 : b.toNat < 97 <;> by_cases p : b.toNat > 122 <;> by_cases q : b.toNat < 48 <;> by_cases r : b.toNat > 57 <;> by_cases t : b.toNat = 45 <;>
      first
      | omega
      | (have a : ((b.toNat : Int) < 97) = (b.toNat < 97) := by rw [gq]; omega
         have d : ((b.toNat : Int) > 122) = (b.toNat > 122) := by rw [gq]; omega
         have g : ((b.toNat : Int) < 48) = (b.toNat < 48) := by rw [gq]; omega
         have i : ((b.toNat : Int) > 57) = (b.toNat > 57) := by rw [gq]; omega
         have j : ((b.toNat : Int) != 45) = !decide (b.toNat = 45) := by rw [bU]; simp; omega
         simp [h1, p, q, r, t, a, d, g, i, j, ih])
theorem vx (a : ByteArray) : kU a a = true := mg.2 rfl
theorem QC : zS.size = 0 := rfl
theorem Pt {s : ByteArray} : s = zS ↔ s.size = 0 := by
 constructor
 ·rintro rfl; rfl
 ·intro h; exact zN (by rw [wP] at h; rw [ed.1 h]; rfl)
theorem yf (s : ByteArray) : rn s = some (nr s) := by
 unfold rn
 simp only [Rq, aA, ot]
 by_cases g : s.size = 0
 ·have : s = zS := Pt.2 g
  subst this
  rw [vx]
  rfl
 ·have n : kU s zS = false := by
   cases h : kU s zS with
   | false => rfl
   | true => exact absurd (Pt.1 (mg.1 h)) g
  rw [n]
  simp only [Bool.false_or]
  by_cases i : s.size ≤ 16
  ·rw [bB (by simp; omega)]
   obtain ⟨b, l, k⟩ : ∃ b l, s.data.toList = b :: l := by
    cases h : s.data.toList with
    | nil => rw [wP, h] at g; simp at g
    | cons b l => exact ⟨b, l, rfl⟩
   rw [Ig k]
   simp only [aA, Rq]
   have m := Ew s i s.data.toList [] kd rfl (by rw [xf, ← wP]; omega)
   simp only [bL] at m
   rw [show (0 : Int) = ((0 : Nat) : Int) from rfl] at *
   rw [m]
   have j : ((b.toNat : Int) < 97) = (b.toNat < 97) := by rw [gq]; omega
   have d : ((b.toNat : Int) > 122) = (b.toNat > 122) := by rw [gq]; omega
   have h1 : 1 ≤ s.size := by omega
   simp only [nr, h1, i, k, A4, bY, dO, j, d]
   by_cases a : b.toNat < 97
   ·simp [a, show ¬ 97 ≤ b.toNat by omega]
   ·by_cases c : b.toNat > 122
    ·simp [a, c, show ¬ b.toNat ≤ 122 by omega]
    ·simp [a, c, show 97 ≤ b.toNat by omega, show b.toNat ≤ 122 by omega]
  ·rw [bD (by simp; omega)]
   simp [nr, i]
def lZ (r : jr) : Bool := nr r.ju && nr r.jy
theorem yK (r : jr) : qa r = some (lZ r) := by
 unfold qa lZ
 simp only [yV, aA]
 cases nr r.ju <;> simp
theorem AY (r : jr) : sT r = some (lZ r) := by
 unfold sT lZ
 simp only [yf, aA]
 cases nr r.ju <;> simp
def BD (a b : jr) : Bool := qe a.ju b.ju || (kU a.ju b.ju && qe a.jy b.jy)
theorem Bo (a b : jr) : wG a b = some (BD a b) := by
 unfold wG BD
 cases qe a.ju b.ju <;> cases kU a.ju b.ju <;> simp
theorem KT {a b : ByteArray} (h : a ≠ b) : kU a b = false := by
 cases d : kU a b with
 | false => rfl
 | true => exact absurd (mg.1 d) h
theorem AA {a b : jr} : BD a b = true ↔ qe a.ju b.ju = true ∨ (a.ju = b.ju ∧ qe a.jy b.jy = true) := by
 simp [BD, mg]
theorem Sm (P : jr → Prop) : Af (fun a b => BD a b = true) P := by
 refine ⟨fun x _ h => ?_, fun x y z _ _ _ h1 d => ?_, fun x y _ _ => ?_⟩
 ·rw [AA] at h
  simp [th] at h
 ·rw [AA] at *
  rcases h1 with h1 | ⟨i, h1⟩
  ·rcases d with d | ⟨g, d⟩
   ·exact .inl (zX h1 d)
   ·exact .inl (by rw [← g]; exact h1)
  ·rcases d with d | ⟨g, d⟩
   ·exact .inl (by rw [i]; exact d)
   ·exact .inr ⟨i.trans g, zX h1 d⟩
 ·simp only [AA]
  rcases zP x.ju y.ju with h | h | h
  ·exact .inl (.inl h)
  ·rcases zP x.jy y.jy with d | d | d
   ·exact .inl (.inr ⟨h, d⟩)
   ·refine .inr (.inl ?_)
    cases x; cases y; simp at h d; simp [h, d]
   ·exact .inr (.inr (.inr ⟨h.symm, d⟩))
  ·exact .inr (.inr (.inl h))
theorem Ap (a b : jr) : ∃ c, rV a b = some c ∧ (c < 0 ↔ BD a b = true) := by
 unfold rV
 simp only [pH, ns, aA, uZ, sJ]
 have h1 : ∀ a b : ByteArray, (ph a b < 0 ↔ qe a b = true) := fun a b => by rw [ym]; exact Cs _ _
 have g : ∀ a b : ByteArray, (ph a b = 0 ↔ a = b) := fun a b => by
  unfold ph; rw [F8]; exact ⟨zN, fun h => by rw [h]⟩
 by_cases e : ph a.ju b.ju = 0
 ·rw [bB (by simp [e])]
  have e' := (g _ _).1 e
  by_cases d : ph a.jy b.jy = 0
  ·rw [bB (by simp [d])]
   refine ⟨0, rfl, ?_⟩
   rw [AA, e', (g _ _).1 d]
   simp [th]
  ·rw [bD (by simp [d])]
   refine ⟨_, rfl, ?_⟩
   rw [AA, e', h1]
   simp [th]
 ·rw [bD (by simp [e])]
  refine ⟨_, rfl, ?_⟩
  rw [AA, h1]
  have : a.ju ≠ b.ju := fun h => e ((g _ _).2 h)
  simp [this]
def zR : jr := ⟨zS, zS⟩
theorem H9 (a b : ByteArray) : kU a b = kU b a := by rw [bU, mg, mg]; exact eq_comm
theorem EK (a b : jr) : jQ a b = jQ b a := by rw [bU, jR, jR]; exact eq_comm
theorem wK (a : jr) : jQ a a = true := jR.2 rfl
def lK (c : js) : Bool := lZ c.Head && (
 if c.Kind == 1 then nr c.kE && jQ zR c.B && jQ zR c.C && kU zS c.kM
 else if c.Kind == 2 then lZ c.B && kU zS c.kE && jQ zR c.C && kU zS c.kM
 else if c.Kind == 3 then lZ c.B && kU c.B.ju c.Head.ju && nr c.kM && kU zS c.kE && jQ zR c.C
 else if c.Kind == 4 then lZ c.B && lZ c.C && BD c.B c.C && kU zS c.kE && kU zS c.kM
 else false)
theorem wv (c : js) : tW c = some (lK c) := by
 unfold tW lK
 simp only [yK, yV, aA]
 obtain ⟨k, hk, a⟩ := Ap c.B c.C
 rw [hk]
 have b : decide (k < 0) = BD c.B c.C := by rw [bU, ← a]; simp
 simp only [aA, b]
 by_cases h1 : c.Kind = 1
 ·cases lZ c.Head <;> cases nr c.kE <;> simp [h1, lD, wK, vx, zR, gF]
 ·by_cases d : c.Kind = 2
  ·cases lZ c.Head <;> cases lZ c.B <;> simp [d, lD, wK, vx, zR, gF]
  ·by_cases g : c.Kind = 3
   ·cases lZ c.Head <;> cases lZ c.B <;> cases kU c.B.ju c.Head.ju <;> cases nr c.kM <;> simp [g, lD, wK, vx, zR, gF]
   ·by_cases h : c.Kind = 4
    ·cases lZ c.Head <;> cases lZ c.B <;> cases lZ c.C <;> cases BD c.B c.C <;> simp [h, lD, wK, vx, zR, gF]
    ·simp [h1, d, g, h]
theorem AS (c : js) : vS c = some (lK c) := by
 unfold vS lK
 simp only [AY, yf, Bo, aA]
 rw [show (⟨zS, zS⟩ : jr) = zR from rfl, EK c.B zR, EK c.C zR, H9 c.kM zS, H9 c.kE zS]
 by_cases h1 : c.Kind = 1
 ·cases lZ c.Head <;> cases nr c.kE <;> cases jQ zR c.B <;> cases jQ zR c.C <;> simp [h1]
 ·by_cases a : c.Kind = 2
  ·cases lZ c.Head <;> cases lZ c.B <;> cases kU zS c.kE <;> cases jQ zR c.C <;> simp [a]
  ·by_cases b : c.Kind = 3
   ·cases lZ c.Head <;> cases lZ c.B <;> cases kU zS c.kE <;> cases jQ zR c.C <;> cases kU c.B.ju c.Head.ju <;> simp [b]
   ·by_cases d : c.Kind = 4
    ·cases lZ c.Head <;> cases lZ c.B <;> cases kU zS c.kE <;> cases kU zS c.kM <;> cases lZ c.C <;> simp [d]
    ·cases lZ c.Head <;> cases lZ c.B <;> cases kU zS c.kE <;> simp [h1, a, b, d]
theorem me {α : Type} {b : Nat} {l m : List α} (h : (l.length + m.length) * b ≤ 140737488355328) (a : l.length + m.length ≤ 9223372036854775807) : mn b l m = some (l ++ m) := by
 unfold mn; rw [bD ⟨h, by unfold maxLen; omega⟩]
theorem F9 {l m : List Int} (h : l.length + m.length ≤ 1000000) : mn 1 l m = some (l ++ m) := me (by omega) (by omega)
def wu (s : ByteArray) : List Int := (s.size : Int) :: tb s
def sm (r : jr) : List Int := wu r.ju ++ wu r.jy
def yX (c : js) : List Int := if c.Kind = 1 then wu c.kE else if c.Kind = 2 then sm c.B else if c.Kind = 3 then sm c.B ++ wu c.kM else sm c.B ++ sm c.C
def tk (c : js) : List Int := c.Kind :: (sm c.Head ++ yX c)
theorem tP (s : ByteArray) : (wu s).length = s.size + 1 := by simp [wu, pw]
theorem oG {r : jr} (h : lZ r = true) : (sm r).length ≤ 34 := by
 simp only [lZ, bF] at h
 have h1 := om h.1
 have a := om h.2
 simp [sm, tP]; omega
theorem yo {l : List Int} {n : Int} (a : 0 ≤ n) (h1 : n < 128) (b : l.length ≤ 100000) : nV l n = some (true, l ++ [n]) := by
 have hw : IntKind.u8.wrap n = n := by
  obtain ⟨k, rfl⟩ : ∃ k : Nat, n = k := ⟨n.toNat, by omega⟩
  have : ∀ k : Nat, k < 128 → IntKind.u8.wrap (k : Int) = (k : Int) := by decide +kernel
  exact this k (by omega)
 unfold nV
 rw [bB (by simp; omega), lX, pX, bB (by simp; omega), hw, F9 (by simp; omega)]
 rfl
theorem Fa {l : List Int} {s : ByteArray} (h : nr s = true) (a : l.length ≤ 10000) : tV l s = some (true, l ++ wu s) := by
 have h1 := om h
 unfold tV
 simp only [yV, aA, h, aR, Fx h1.2]
 unfold xz
 rw [bB (by rw [pw]; simp; omega)]
 rw [pw, yo (by omega) (by omega) (by omega)]
 simp only [aA]
 rw [F9 (by simp [pw]; omega)]
 simp [wu]
theorem J4 {l : List Int} {r : jr} (h : lZ r = true) (b : l.length ≤ 9000) : pY l r = some (true, l ++ sm r) := by
 have a := h
 simp only [lZ, bF] at h
 have h1 := om h.1
 unfold pY
 simp only [yK, aA, a, aR]
 rw [Fa h.1 (by omega)]
 simp only [aA, aR]
 rw [Fa h.2 (by simp [tP]; omega)]
 simp [sm]
theorem Cv {l : List Int} {r : jr} (h : lZ r = true) (a : l.length ≤ 1000) : pY l r = some (true, l ++ sm r) := J4 h (by omega)
theorem BW {c : js} (h : lK c = true) : lZ c.Head = true := by
 simp only [lK, bF] at h; exact h.1
theorem oF {c : js} (h : lK c = true) :
  (c.Kind = 1 ∧ nr c.kE = true ∧ c.B = zR ∧ c.C = zR ∧ c.kM = zS) ∨
  (c.Kind = 2 ∧ lZ c.B = true ∧ c.kE = zS ∧ c.C = zR ∧ c.kM = zS) ∨
  (c.Kind = 3 ∧ lZ c.B = true ∧ nr c.kM = true ∧ c.B.ju = c.Head.ju ∧ c.kE = zS ∧ c.C = zR) ∨
  (c.Kind = 4 ∧ lZ c.B = true ∧ lZ c.C = true ∧ BD c.B c.C = true ∧ c.kE = zS ∧ c.kM = zS) := by
 simp only [lK, bF] at h
 obtain ⟨_, h⟩ := h
 split at h
 ·rename_i h1
  simp only [bF, jR, mg] at h
  exact .inl ⟨by simpa using h1, h.1.1.1, h.1.1.2.symm, h.1.2.symm, h.2.symm⟩
 ·split at h
  ·rename_i h1
   simp only [bF, jR, mg] at h
   exact .inr (.inl ⟨by simpa using h1, h.1.1.1, h.1.1.2.symm, h.1.2.symm, h.2.symm⟩)
  ·split at h
   ·rename_i h1
    simp only [bF, jR, mg] at h
    exact .inr (.inr (.inl ⟨by simpa using h1, h.1.1.1.1, h.1.1.2, h.1.1.1.2, h.1.2.symm, h.2.symm⟩))
   ·split at h
    ·rename_i h1
     simp only [bF, jR, mg] at h
     exact .inr (.inr (.inr ⟨by simpa using h1, h.1.1.1.1, h.1.1.1.2, h.1.1.2, h.1.2.symm, h.2.symm⟩))
    ·cases h
theorem Bw (c : js) : wJ c = some (if lK c then tk c else []) := by
 unfold wJ
 rw [wv]
 simp only [aA]
 cases h : lK c with
 | false => simp
 | true =>
  have g := BW h
  have i := oG g
  simp only [cI, aB, aI, aR]
  have hk : 0 ≤ c.Kind ∧ c.Kind < 128 := by rcases oF h with h | h | h | h <;> omega
  rw [yo hk.1 hk.2 (by simp)]
  simp only [aA]
  rw [Cv g (by simp)]
  simp only [aA, tU, uu]
  rcases oF h with ⟨k, h1, _⟩ | ⟨k, h1, _⟩ | ⟨k, h1, a, _⟩ | ⟨k, h1, a, _⟩
  ·have b := om h1
   simp only [k, aX, aR, Fa h1 (show (([] ++ [(1:Int)]) ++ sm c.Head).length ≤ 10000 by simp; omega), aA]
   rw [F9 (by simp [tP]; omega)]
   simp [tk, yX, k]
  ·have b := oG h1
   simp only [k, show ((2 : Int) == 1) = false from rfl, aB, aX, aR, aI, Cv h1 (show (([] ++ [(2:Int)]) ++ sm c.Head).length ≤ 1000 by simp; omega), aA]
   rw [F9 (by simp; omega)]
   simp [tk, yX, k]
  ·have b := oG h1
   have d := om a
   simp only [k, show ((3 : Int) == 1) = false from rfl, show ((3 : Int) == 2) = false from rfl, aB, aX, aR, aI, Cv h1 (show (([] ++ [(3:Int)]) ++ sm c.Head).length ≤ 1000 by simp; omega), aA]
   rw [Fa a (by simp; omega)]
   simp only [aA]
   rw [F9 (by simp [tP]; omega)]
   simp [tk, yX, k]
  ·have b := oG h1
   have d := oG a
   simp only [k, show ((4 : Int) == 1) = false from rfl, show ((4 : Int) == 2) = false from rfl, show ((4 : Int) == 3) = false from rfl, aB, aX, aR, aI, Cv h1 (show (([] ++ [(4:Int)]) ++ sm c.Head).length ≤ 1000 by simp; omega), aA]
   rw [Cv a (by simp; omega)]
   simp only [aA]
   rw [F9 (by simp; omega)]
   simp [tk, yX, k]
def wi (l : List Int) : ByteArray := ⟨(ui l).toArray⟩
theorem uM (l : List Int) : (wi l).data.toList = ui l := rfl
theorem G4 : ∀ (l : List Int) (r : ByteArray), (l.foldl (fun r n => r.push (UInt8.ofNat n.toNat)) r).data.toList = r.data.toList ++ ui l
 | [], r => by simp [ui]
 | x :: l, r => by
  rw [gl, G4 l]
  show ((r.data.push _).toList) ++ _ = _
  simp [ui]
theorem PY (l : List Int) : DU l = wi l := zN (by unfold DU; rw [G4]; rfl)
theorem Kh (l : List Int) : (wi l).size = l.length := by rw [wP, uM]; simp [ui]
theorem Mj (a b : List Int) : ui (a ++ b) = ui a ++ ui b := by simp [ui]
theorem rJ (a b : List Int) (h : a.length + b.length ≤ 1000000) : wD (wi a) (wi b) = some (wi (a ++ b)) := by
 unfold wD
 rw [bB]
 ·congr 1
  refine zN ?_
  rw [uM, Mj, ← uM a, ← uM b]
  exact ByteArray.toList_data_append ▸ rfl
 ·rw [Kh, Kh]
  show ¬ (_ > (9223372036854775807 : Int))
  omega
theorem Dz (s : ByteArray) : wi (tb s) = s := zN (by rw [uM]; simp [ui, tb, fP])
theorem yu {n : Int} (a : 0 ≤ n) (h1 : n < 128) : qx n = some (wi [n]) := by
 have hw : IntKind.u8.wrap n = n := by
  obtain ⟨k, rfl⟩ : ∃ k : Nat, n = k := ⟨n.toNat, by omega⟩
  have : ∀ k : Nat, k < 128 → IntKind.u8.wrap (k : Int) = (k : Int) := by decide +kernel
  exact this k (by omega)
 unfold qx
 rw [lX, tf, bB (by simp; omega), hw, PY, show zS = wi [] from rfl, rJ _ _ (by simp)]
 rfl
theorem E9 {s : ByteArray} (h : nr s = true) : tY s = some (wi (wu s)) := by
 have h1 := om h
 unfold tY
 rw [yu (by omega) (by omega)]
 simp only [aA]
 have := rJ [(s.size : Int)] (tb s) (by rw [pw]; simp; omega)
 rw [Dz] at this
 rw [this]
 simp [wu]
theorem AF {r : jr} (h : lZ r = true) : sU r = some (wi (sm r)) := by
 simp only [lZ, bF] at h
 have h1 := om h.1
 have a := om h.2
 unfold sU
 rw [E9 h.1, E9 h.2]
 simp only [aA]
 rw [rJ _ _ (by simp [tP]; omega)]
 rfl
theorem AQ (c : js) : vK c = some (wi (if lK c then tk c else [])) := by
 unfold vK
 rw [AS]
 simp only [aA]
 cases h : lK c with
 | false => rfl
 | true =>
  have g := BW h
  have i := oG g
  simp only [cI, aB, aI, aR]
  have hk : 0 ≤ c.Kind ∧ c.Kind < 128 := by rcases oF h with h | h | h | h <;> omega
  unfold Ab
  rw [yu hk.1 hk.2, AF g]
  simp only [aA]
  rw [rJ _ _ (by simp; omega)]
  simp only [aA]
  rcases oF h with ⟨k, h1, _⟩ | ⟨k, h1, _⟩ | ⟨k, h1, a, _⟩ | ⟨k, h1, a, _⟩
  ·have b := om h1
   simp only [k, aX, aR, E9 h1, aA]
   rw [rJ _ _ (by simp [tP]; omega)]
   simp [tk, yX, k]
  ·have b := oG h1
   simp only [k, show ((2 : Int) == 1) = false from rfl, show ((2 : Int) == 3) = false from rfl, show ((2 : Int) == 4) = false from rfl, aB, aI, AF h1, aA]
   rw [rJ _ _ (by simp; omega)]
   simp [tk, yX, k]
  ·have b := oG h1
   have d := om a
   simp only [k, show ((3 : Int) == 1) = false from rfl, show ((3 : Int) == 4) = false from rfl, aB, aX, aR, aI, AF h1, aA]
   rw [rJ _ _ (by simp; omega)]
   simp only [aA, E9 a]
   rw [rJ _ _ (by simp [tP]; omega)]
   simp [tk, yX, k]
  ·have b := oG h1
   have d := oG a
   simp only [k, show ((4 : Int) == 1) = false from rfl, show ((4 : Int) == 3) = false from rfl, aB, aX, aR, aI, AF h1, aA]
   rw [rJ _ _ (by simp; omega)]
   simp only [aA, AF a]
   rw [rJ _ _ (by simp; omega)]
   simp [tk, yX, k]
def Jo (c : js) : List UInt8 := ui (if lK c then tk c else [])
def AV (a b : js) : Bool := Op.bytesLess (Jo a) (Jo b)
theorem Fg (a b : js) : ∃ c, tJ a b = some c ∧ (c < 0 ↔ AV a b = true) := by
 unfold tJ
 rw [Bw, Bw]
 exact ⟨_, rfl, Cs _ _⟩
theorem En (a b : js) : ∃ c, sO a b = some c ∧ (c < 0 ↔ AV a b = true) := by
 unfold sO
 rw [AQ, AQ]
 simp only [aA]
 have h : qe (wi (if lK a then tk a else [])) (wi (if lK b then tk b else [])) = AV a b := by rw [ym]; rfl
 rw [h]
 cases AV a b with
 | true => exact ⟨_, rfl, by decide⟩
 | false =>
  simp only [aB, aI, Bool.false_or]
  cases d : kU (wi (if lK a then tk a else [])) (wi (if lK b then tk b else [])) with
  | true => exact ⟨0, by simp, by decide⟩
  | false => exact ⟨1, by simp, by decide⟩
theorem RV {a b : Int} (ha : 0 ≤ a ∧ a < 256) (d : 0 ≤ b ∧ b < 256) (h : a.toNat.toUInt8 = b.toNat.toUInt8) : a = b := by
 have := bN UInt8.toNat h
 simp only [UInt8.toNat_ofNat', Nat.toUInt8] at this
 simp at this
 omega
theorem Li : ∀ {a b : List Int}, (∀ x ∈ a, 0 ≤ x ∧ x < 256) → (∀ x ∈ b, 0 ≤ x ∧ x < 256) → ui a = ui b → a = b
 | [], [], _, _, _ => rfl
 | [], _ :: _, _, _, h => by simp [ui] at h
 | _ :: _, [], _, _, h => by simp [ui] at h
 | x :: a, y :: b, ha, g, h => by
  simp only [ui, bH, bk] at h
  rw [RV (ha x (by simp)) (g y (by simp)) h.1, Li (fun z d => ha z (by simp [d])) (fun z d => g z (by simp [d])) h.2]
theorem zz {s : ByteArray} (h : nr s = true) : ∀ x ∈ wu s, 0 ≤ x ∧ x < 256 := by
 have h1 := om h
 intro x a
 rcases aP.1 a with rfl | a
 ·omega
 ·simp only [tb, bI] at a
  obtain ⟨b, _, rfl⟩ := a
  have := iF b
  omega
theorem xB {r : jr} (h : lZ r = true) : ∀ x ∈ sm r, 0 ≤ x ∧ x < 256 := by
 simp only [lZ, bF] at h
 intro x a
 rcases aU.1 a with a | a
 ·exact zz h.1 x a
 ·exact zz h.2 x a
theorem Fl {c : js} (h : lK c = true) : ∀ x ∈ tk c, 0 ≤ x ∧ x < 256 := by
 intro x a
 rcases aP.1 a with rfl | a
 ·rcases oF h with h | h | h | h <;> omega
 ·rcases aU.1 a with a | a
  ·exact xB (BW h) x a
  ·unfold yX at a
   rcases oF h with ⟨k, h1, _⟩ | ⟨k, h1, _⟩ | ⟨k, h1, b, _⟩ | ⟨k, h1, b, _⟩
   ·rw [bD k] at a; exact zz h1 x a
   ·rw [bB (by omega), bD k] at a; exact xB h1 x a
   ·rw [bB (by omega), bB (by omega), bD k] at a
    rcases aU.1 a with a | a
    ·exact xB h1 x a
    ·exact zz b x a
   ·rw [bB (by omega), bB (by omega), bB (by omega)] at a
    rcases aU.1 a with a | a
    ·exact xB h1 x a
    ·exact xB b x a
theorem MF {s t : ByteArray} (h : tb s = tb t) : s = t := by rw [← Dz s, h, Dz]
theorem Bu {s t : ByteArray} {X Y : List Int} (h : wu s ++ X = wu t ++ Y) : s = t ∧ X = Y := by
 simp only [wu, bE, bk] at h
 obtain ⟨h1, a⟩ := h
 have b : (tb s).length = (tb t).length := by rw [pw, pw]; omega
 have := List.append_inj a b
 exact ⟨MF this.1, this.2⟩
theorem zO {a b : jr} {X Y : List Int} (h : sm a ++ X = sm b ++ Y) : a = b ∧ X = Y := by
 simp only [sm, aJ] at h
 obtain ⟨h1, g⟩ := Bu h
 obtain ⟨d, i⟩ := Bu g
 exact ⟨by cases a; cases b; simp at h1 d; simp [h1, d], i⟩
theorem Nh {a b : js} (ha : lK a = true) (s : lK b = true) (h : tk a = tk b) : a = b := by
 simp only [tk, bk] at h
 obtain ⟨hk, q⟩ := h
 obtain ⟨p, h⟩ := zO q
 clear q
 have l : ∀ {X Y : List Int}, X = Y → X ++ [] = Y ++ [] := fun h => by rw [h]
 unfold yX at h
 obtain ⟨E, r, I, w, y, u⟩ := a
 obtain ⟨G, t, J, x, z, v⟩ := b
 simp only at hk p h
 subst hk p
 rcases oF ha with ⟨k, h1, g, i, d⟩ | ⟨k, h1, g, i, d⟩ | ⟨k, h1, g, i, d, j⟩ | ⟨k, h1, g, i, d, j⟩ <;>
 rcases oF s with ⟨k', g1, g2, g3, g4⟩ | ⟨k', g1, g2, g3, g4⟩ | ⟨k', g1, g2, g3, g4, g5⟩ | ⟨k', g1, g2, g3, g4, g5⟩ <;> simp only at k k' g i d g2 g3 g4 <;> (try omega)
 ·rw [bD k, bD k] at h
  simp [Bu (l h), g, i, d, g2, g3, g4]
 ·rw [bB (by omega), bD k, bB (by omega), bD k] at h
  simp [zO (l h), g, i, d, g2, g3, g4]
 ·rw [bB (by omega), bB (by omega), bD k, bB (by omega), bB (by omega), bD k] at h
  obtain ⟨m, n⟩ := zO h
  simp only at j g5
  simp [m, Bu (l n), d, j, g4, g5]
 ·rw [bB (by omega), bB (by omega), bB (by omega), bB (by omega), bB (by omega), bB (by omega)] at h
  obtain ⟨m, n⟩ := zO h
  simp only at j g5
  simp [m, zO (l n), d, j, g4, g5]
theorem CF : Af (fun a b => AV a b = true) (fun c => lK c = true) := by
 refine ⟨fun x _ h => ?_, fun x y z _ _ _ h1 i => yd _ _ _ h1 i, fun x y d g => ?_⟩
 ·unfold AV at h; rw [vw] at h; cases h
 ·rcases AO (Jo x) (Jo y) with h | h | h
  ·exact .inl h
  ·refine .inr (.inl (Nh d g ?_))
   unfold Jo at h
   rw [bD d, bD g] at h
   exact Li (Fl d) (Fl g) h
  ·exact .inr (.inr h)
section
variable {c : Formula → Formula → Int} {G : Formula → Prop} {f : Formula × Formula → Option Int}
theorem Mq (x : Formula) : (⟨x.Op, x.K, x.jr, x.Kids⟩ : Formula) = x := by cases x; rfl
abbrev nq (c : Formula → Formula → Int) (x y : Formula) : Bool := decide (c x y < 0)
abbrev Cg (f : Formula × Formula → Option Int) (c : Formula → Formula → Int) (G : Formula → Prop) : Prop := ∀ x y, G x → G y → f (x, y) = some (c x y)
theorem Tu (u : Cg f c G) (pre : List Formula) (x : Formula) (w : G x) : ∀ (k : Nat) (P S : List Formula) (n : Nat) (j a : Int), P.length = k → k < n → (∀ y ∈ P, G y) → (pre ++ (P ++ x :: S)).length ≤ 1000000 → j = ((pre.length + P.length : Nat) : Int) → a = (pre.length : Int) →
  ∃ P1 P2, P = P1 ++ P2 ∧ lJ a f n (pre ++ (P ++ x :: S)) j = some (pre ++ (P1 ++ x :: (P2 ++ S))) ∧ (∀ P' z, P1 = P' ++ [z] → nq c x z = false) ∧ (∀ y P', P2 = y :: P' → nq c x y = true) := by
 intro k
 induction k with
 | zero =>
  intro P S n j a hk v d l h ha
  obtain rfl := aW hk
  obtain ⟨n, rfl⟩ := aT (by omega : n ≠ 0)
  refine ⟨[], [], rfl, ?_, by simp, by simp⟩
  rw [lJ]
  have : ¬ (j > a) := by rw [h, ha]; simp
  simp [this]
 | succ k ih =>
  intro P S n j a hk v d l h ha
  rcases dl P with rfl | ⟨P', z, rfl⟩
  ·simp at hk
  simp only [dL, aF, aK, bL] at hk h l d ⊢
  obtain ⟨n, rfl⟩ := aT (by omega : n ≠ 0)
  have i : j > a := by omega
  have m : pre ++ (P' ++ [z] ++ x :: S) = (pre ++ P') ++ z :: x :: S := by simp
  have hw : wi0 .i64 (j - 1) = ((pre.length + P'.length : Nat) : Int) := by rw [ko (by omega) (by omega)]; omega
  have i1 : lE ((pre ++ P') ++ z :: x :: S) j = some x := by
   rw [show (pre ++ P') ++ z :: x :: S = (pre ++ P' ++ [z]) ++ x :: S by simp]
   exact mL _ _ _ _ (by simp; omega)
  have i2 : lE ((pre ++ P') ++ z :: x :: S) ((pre.length + P'.length : Nat) : Int) = some z := mL _ _ _ _ (by simp)
  have I : G z := d z (by simp)
  have t : ∀ y ∈ P', G y := fun y E => d y (by simp [E])
  have L : j.toNat = pre.length + P'.length + 1 := by omega
  rw [lJ, m]
  simp only [i, bY, aR, i1, hw, i2, aA, u x z w I]
  by_cases g : c x z < 0
  ·simp only [g, bY, aR]
   have s1 : ((pre ++ P') ++ z :: x :: S).set j.toNat z = (pre ++ P') ++ z :: z :: S := by
    have := J6 (pre ++ P' ++ [z]) S x z j.toNat (by simp; omega)
    simpa only [aJ, fN, bE, aV] using this
   have s2 : ((pre ++ P') ++ z :: z :: S).set (pre.length + P'.length) x = (pre ++ P') ++ x :: z :: S := by
    exact J6 (pre ++ P') (z :: S) z x _ (by simp)
   have i3 : lE ((pre ++ P') ++ z :: z :: S) ((pre.length + P'.length : Nat) : Int) = some z := mL _ _ _ _ (by simp)
   rw [s1, i3, aA, dC, Mq, s2]
   have p : (pre ++ P') ++ x :: z :: S = pre ++ (P' ++ x :: (z :: S)) := by simp
   obtain ⟨P1, P2, h1, q, r, s⟩ := ih P' (z :: S) n ((pre.length + P'.length : Nat) : Int) a (by omega) (by omega) t (by simp; omega) rfl ha
   rw [p, q]
   refine ⟨P1, P2 ++ [z], by rw [h1]; simp, by simp, r, ?_⟩
   intro y Q b
   cases P2 with
   | nil =>
    simp only [aV, bk] at b
    rw [← b.1]; simp [nq, g]
   | cons J P2 =>
    simp only [bE, bk] at b
    rw [← b.1]; exact s J P2 rfl
  ·simp only [g, cD, aB, aI]
   refine ⟨P' ++ [z], [], by simp, by simp, ?_, by simp⟩
   intro Q y b
   have := List.append_inj' b rfl
   simp only [bk, dv] at this
   rw [← this.2]; simp [nq, g]
theorem Ph (h : SWO (nq c)) (M : Cg f c G) (pre post : List Formula) (a b : Int) (ha : a = (pre.length : Int)) : ∀ (S t : List (Formula × Nat)) (n : Nat) (i : Int),
  S.length < n → oq (nq c) t → (∀ x ∈ t, ∀ y ∈ S, x.2 < y.2) → S.Pairwise (fun x y => x.2 < y.2) → (∀ x ∈ t ++ S, G x.1) → (pre ++ (t.map (·.1) ++ (S.map (·.1) ++ post))).length ≤ 1000000 →
  i = ((pre.length + t.length : Nat) : Int) → b = ((pre.length + t.length + S.length : Nat) : Int) →
  ∃ u, lu b a f n (pre ++ (t.map (·.1) ++ (S.map (·.1) ++ post))) i = some (pre ++ (u.map (·.1) ++ post)) ∧ oq (nq c) u ∧ u.Perm (t ++ S)
 | [], t, n, i, I, J, h1, L, r, E, O, v => by
  obtain ⟨n, rfl⟩ := aT (by simp at I; omega : n ≠ 0)
  rw [lu]
  simp only [bL] at v
  have : ¬ (i < b) := by omega
  simp only [this, cD, aB, aI]
  exact ⟨t, by simp, J, by simp⟩
 | s :: S, t, n, i, I, J, h1, L, r, E, O, v => by
  simp only [aK] at I v
  obtain ⟨n, rfl⟩ := aT (by omega : n ≠ 0)
  rw [lu]
  have w : i < b := by omega
  simp only [w, bY, aR]
  have k := E
  simp only [aF, cP, aK] at k
  obtain ⟨P1, P2, R, T, U, W⟩ := Tu M pre s.1 (r s (by simp)) (t.map (·.1)).length (t.map (·.1)) (S.map (·.1) ++ post) kd i a rfl (by rw [lX]; simp; omega)
   (fun y m => by obtain ⟨p, hp, rfl⟩ := bI.1 m; exact r p (by simp [hp])) (by simpa using E) (by simp; omega) ha
  simp only [bH, bE]
  rw [T, aA]
  obtain ⟨t1, t2, rfl, P, Q⟩ := List.map_eq_append_iff.1 R
  have hlen : t1.length + t2.length = (t1 ++ t2).length := by simp
  have hw : wi0 .i64 (i + 1) = ((pre.length + (t1 ++ s :: t2).length : Nat) : Int) := by rw [ko (by omega) (by omega)]; simp at O ⊢; omega
  rw [hw]
  have l : oq (nq c) (t1 ++ s :: t2) := Hz h J
   (fun A' z b B' j q => by
    simp only [bk] at q
    rw [← q.1]
    refine .inr ⟨U (A'.map (·.1)) z.1 (by rw [← P, j]; simp), h1 z (by rw [j]; simp) s (by simp)⟩)
   (fun A' z b B' j q => by
    have Z : z = s := by
     cases A' with
     | nil => simpa using j.symm
     | cons _ A' => simp at j
    rw [Z]
    exact .inl (W b.1 (B'.map (·.1)) (by rw [← Q, q]; simp)))
  have g := cJ.1 L
  have Y : pre ++ (P1 ++ s.1 :: (P2 ++ (S.map (·.1) ++ post))) = pre ++ ((t1 ++ s :: t2).map (·.1) ++ (S.map (·.1) ++ post)) := by rw [← P, ← Q]; simp
  rw [Y]
  obtain ⟨u, u1, u2, u3⟩ := Ph h M pre post a b ha S (t1 ++ s :: t2) n _ (by omega) l
   (fun x d y m => by
    rcases aU.1 d with d | d
    ·exact h1 x (by simp [d]) y (by simp [m])
    ·rcases aP.1 d with rfl | d
     ·exact g.1 y m
     ·exact h1 x (by simp [d]) y (by simp [m]))
   g.2 (fun x d => r x (by
    simp only [aU, aP] at d ⊢
    rcases d with (d | d | d) | d
    ·exact .inl (.inl d)
    ·exact .inr (.inl d)
    ·exact .inl (.inr d)
    ·exact .inr (.inr d))) (by simp at k ⊢; omega) rfl (by simp at v ⊢; omega)
  refine ⟨u, u1, u2, u3.trans ?_⟩
  simp only [aJ, bE]
  exact cC t1 (List.perm_middle.symm)
theorem Lr (h : SWO (nq c)) (p : Cg f c G) (pre post : List Formula) (S : List (Formula × Nat)) (a b : Int) (l : S.Pairwise (fun x y => x.2 < y.2)) (m : ∀ x ∈ S, G x.1) (k : (pre ++ (S.map (·.1) ++ post)).length ≤ 1000000) (ha : a = (pre.length : Int)) (j : b = ((pre.length + S.length : Nat) : Int)) :
  ∃ u, mS (pre ++ (S.map (·.1) ++ post)) a b f = some (pre ++ (u.map (·.1) ++ post)) ∧ oq (nq c) u ∧ u.Perm S := by
 unfold mS
 have g := k
 simp only [aF, cP] at g
 cases S with
 | nil =>
  refine ⟨[], ?_, .nil, .nil⟩
  obtain ⟨n, q⟩ := aT (by rw [lX]; omega : kd ≠ 0)
  rw [q, lu]
  have : ¬ (wi0 .i64 (a + 1) < b) := by rw [ko (by omega) (by omega)]; simp at j; omega
  simp [this]
 | cons s S =>
  simp only [aK] at j g
  have d := cJ.1 l
  obtain ⟨u, t, v, w⟩ := Ph h p pre post a b ha S [s] kd (wi0 .i64 (a + 1)) (by rw [lX]; omega) (gy _ _) (fun x i y r => by simp at i; rw [i]; exact d.1 y r) d.2
   (fun x i => m x (by simpa using i)) (by simp at k ⊢; omega) (by rw [ko (by omega) (by omega)]; simp; omega) (by simp; omega)
  exact ⟨u, by simpa using t, v, by simpa using w⟩
end
section
variable {c : Formula → Formula → Int} {G : Formula → Prop} {f : Formula × Formula → Option Int}
theorem np {x : Int} (n : Nat) (h : x = (n : Int)) (a : n ≤ 4000000) : wi0 .i64 x = (n : Int) := by rw [h, ko (by omega) (by omega)]
theorem RX (p m q : List Formula) (a b N : Int) : ∀ (k : Nat) (X1 X2 Y1 Y2 : List Formula) (n : Nat) (i : Int), X2.length = k → Y2.length = k → X1.length = Y1.length → k < n → (p ++ (Y1 ++ (X2 ++ (m ++ (X1 ++ (Y2 ++ q)))))).length ≤ 1000000 →
  i = (X1.length : Int) → N = ((X1.length + k : Nat) : Int) → a = (p.length : Int) → b = ((p.length + X1.length + k + m.length : Nat) : Int) →
  ma N b a n (p ++ (Y1 ++ (X2 ++ (m ++ (X1 ++ (Y2 ++ q)))))) i = some (p ++ ((Y1 ++ Y2) ++ (m ++ ((X1 ++ X2) ++ q)))) := by
 intro k
 induction k with
 | zero =>
  intro X1 X2 Y1 Y2 n i h1 d u w r v j ha l
  obtain rfl := aW h1
  obtain rfl := aW d
  obtain ⟨n, rfl⟩ := aT (by omega : n ≠ 0)
  rw [ma]
  have : ¬ (i < N) := by omega
  simp [this]
 | succ k ih =>
  intro X1 X2 Y1 Y2 n i h1 d u w r v j ha l
  cases X2 with
  | nil => simp at h1
  | cons x X2 =>
  cases Y2 with
  | nil => simp at d
  | cons y Y2 =>
  simp only [aK, Nat.add_right_cancel_iff] at h1 d
  obtain ⟨n, rfl⟩ := aT (by omega : n ≠ 0)
  have h := r
  simp only [aF, aK] at h
  have g : i < N := by omega
  have z : wi0 .i64 (b + i) = (((p ++ Y1).length + 1 + (X2 ++ (m ++ X1)).length : Nat) : Int) := np _ (by simp; omega) (by simp; omega)
  have E : wi0 .i64 (a + i) = ((p ++ Y1).length : Int) := np _ (by simp; omega) (by simp; omega)
  have G : wi0 .i64 (i + 1) = ((X1 ++ [x]).length : Int) := np _ (by simp; omega) (by simp; omega)
  have s : p ++ (Y1 ++ (x :: X2 ++ (m ++ (X1 ++ (y :: Y2 ++ q))))) = (p ++ Y1) ++ x :: ((X2 ++ (m ++ X1)) ++ y :: (Y2 ++ q)) := by simp
  have i1 : lE ((p ++ Y1) ++ x :: ((X2 ++ (m ++ X1)) ++ y :: (Y2 ++ q))) (((p ++ Y1).length + 1 + (X2 ++ (m ++ X1)).length : Nat) : Int) = some y := by
   have := mL ((p ++ Y1) ++ x :: (X2 ++ (m ++ X1))) y (Y2 ++ q) (((p ++ Y1).length + 1 + (X2 ++ (m ++ X1)).length : Nat) : Int) (by simp; omega)
   simpa using this
  have i2 : lE ((p ++ Y1) ++ x :: ((X2 ++ (m ++ X1)) ++ y :: (Y2 ++ q))) ((p ++ Y1).length : Int) = some x := mL _ _ _ _ rfl
  rw [ma, s]
  simp only [g, bY, aR, z, E, i1, i2, aA, dC, G]
  have i3 : lE (((p ++ Y1) ++ x :: ((X2 ++ (m ++ X1)) ++ y :: (Y2 ++ q))).set (p ++ Y1).length y) (((p ++ Y1).length + 1 + (X2 ++ (m ++ X1)).length : Nat) : Int) = some y := by
   rw [EV]
   have := mL ((p ++ Y1) ++ y :: (X2 ++ (m ++ X1))) y (Y2 ++ q) (((p ++ Y1).length + 1 + (X2 ++ (m ++ X1)).length : Nat) : Int) (by simp; omega)
   simpa using this
  rw [i3, aA, Mq, FK]
  have t : (p ++ Y1) ++ y :: ((X2 ++ (m ++ X1)) ++ x :: (Y2 ++ q)) = p ++ ((Y1 ++ [y]) ++ (X2 ++ (m ++ ((X1 ++ [x]) ++ (Y2 ++ q))))) := by simp
  rw [t, ih (X1 ++ [x]) X2 (Y1 ++ [y]) Y2 n _ h1 d (by simp; omega) (by omega) (by simp; omega) rfl (by rw [j]; simp; omega) ha (by rw [l]; simp; omega)]
  simp
theorem LP (p m q X Y : List Formula) (a b N : Int) (h : X.length = Y.length) (g : (p ++ (X ++ (m ++ (Y ++ q)))).length ≤ 1000000) (i : N = (X.length : Int)) (ha : a = (p.length : Int)) (j : b = ((p.length + X.length + m.length : Nat) : Int)) :
  mM (p ++ (X ++ (m ++ (Y ++ q)))) a b N f = some (p ++ (Y ++ (m ++ (X ++ q)))) := by
 unfold mM
 have d := g
 simp only [aF] at d
 have := RX p m q a b N X.length [] X [] Y kd 0 rfl h.symm rfl (by rw [lX]; omega) (by simpa using g) rfl (by simpa using i) ha (by rw [j]; simp)
 simpa using this
theorem Sh (M : Int) : ∀ (k : Nat) (A B p q : List Formula) (n : Nat) (i j : Int), A.length + B.length ≤ k → 0 < A.length → 0 < B.length → k < n → (p ++ (A ++ (B ++ q))).length ≤ 1000000 → i = (A.length : Int) → j = (B.length : Int) → M = ((p.length + A.length : Nat) : Int) →
  ms M f n (p ++ (A ++ (B ++ q))) i j = some (p ++ (B ++ (A ++ q))) := by
 intro k
 induction k with
 | zero => intro A B p q n i j h h1 u; omega
 | succ k ih =>
  intro A B p q n i j h h1 u J x b m v
  obtain ⟨n, rfl⟩ := aT (by omega : n ≠ 0)
  have a := x
  simp only [aF] at a
  rw [ms]
  by_cases he : A.length = B.length
  ·have : (i != j) = false := by rw [b, m, he]; simp
   simp only [this, aB, aI]
   have d : wi0 .i64 (M - i) = (p.length : Int) := np _ (by omega) (by omega)
   have := LP (f := f) p [] q A B (p.length : Int) M i he (by simpa using x) b rfl (by rw [v]; simp)
   simp only [aV] at this
   rw [d, this]; rfl
  ·have r : (i != j) = true := by rw [b, m]; simp; omega
   simp only [r, aR]
   by_cases w : i > j
   ·simp only [w, bY, aR]
    obtain ⟨X, Y, rfl, I⟩ := wB (l := A) (n := B.length) (by omega)
    simp only [aF] at b h v a
    have d : wi0 .i64 (M - i) = (p.length : Int) := np _ (by omega) (by omega)
    have s := LP (f := f) p Y q X B (p.length : Int) M j (by omega) (by simp; omega) (by omega) rfl (by omega)
    have g : p ++ (X ++ Y ++ (B ++ q)) = p ++ (X ++ (Y ++ (B ++ q))) := by simp
    have t : wi0 .i64 (i - j) = (Y.length : Int) := np _ (by omega) (by omega)
    rw [g, d, s, aA, t]
    have y : p ++ (B ++ (Y ++ (X ++ q))) = (p ++ B) ++ (Y ++ (X ++ q)) := by simp
    rw [y, ih Y X (p ++ B) q n _ j (by omega) (by omega) (by omega) (by omega) (by simp; omega) rfl (by omega) (by simp; omega)]
    simp
   ·simp only [w, cD, aB, aI]
    obtain ⟨Z, V, rfl, z⟩ := wB (l := B) (n := B.length - A.length) (by omega)
    simp only [aF] at m h a z u he
    have d : wi0 .i64 (M - i) = (p.length : Int) := np _ (by omega) (by omega)
    have E : wi0 .i64 (M + j) = ((p.length + A.length + (Z.length + V.length) : Nat) : Int) := np _ (by omega) (by omega)
    have G : wi0 .i64 (((p.length + A.length + (Z.length + V.length) : Nat) : Int) - i) = ((p.length + A.length + Z.length : Nat) : Int) := np _ (by omega) (by omega)
    have s := LP (f := f) p Z q A V (p.length : Int) ((p.length + A.length + Z.length : Nat) : Int) i (by omega) (by simp; omega) b rfl rfl
    have g : p ++ (A ++ (Z ++ V ++ q)) = p ++ (A ++ (Z ++ (V ++ q))) := by simp
    have t : wi0 .i64 (j - i) = (Z.length : Int) := np _ (by omega) (by omega)
    rw [g, d, E, G, s, aA, t]
    rw [show p ++ (V ++ (Z ++ (A ++ q))) = p ++ (V ++ (Z ++ (A ++ q))) from rfl, ih V Z p (A ++ q) n i _ (by omega) (by omega) (by omega) (by omega) (by simp; omega) (by omega) rfl (by omega)]
    simp
theorem TX (A B p q : List Formula) (a m b : Int) (h1 : 0 < A.length) (h : 0 < B.length) (g : (p ++ (A ++ (B ++ q))).length ≤ 1000000) (ha : a = (p.length : Int)) (hm : m = ((p.length + A.length : Nat) : Int)) (i : b = ((p.length + A.length + B.length : Nat) : Int)) :
  mG (p ++ (A ++ (B ++ q))) a m b f = some (p ++ (B ++ (A ++ q))) := by
 unfold mG
 have d := g
 simp only [aF] at d
 rw [np A.length (by omega) (by omega), np B.length (by omega) (by omega)]
 exact Sh m (A.length + B.length) A B p q kd _ _ (aY _) h1 h (by rw [lX]; omega) g rfl rfl hm
end
section
variable {c : Formula → Formula → Int} {G : Formula → Prop} {f : Formula × Formula → Option Int}
theorem CG {x : Int} (n : Nat) (h : x = (n : Int)) (b : n ≤ 4000000) : wi0 .i64 (Int.fdiv (IntKind.u64.wrap (wi0 .i64 x)) (2 ^ min (Int.toNat 1) (IntKind.bits .u64))) = ((n / 2 : Nat) : Int) := by
 rw [np n h b]
 have a : IntKind.u64.wrap (n : Int) = (n : Int) := by
  simp only [IntKind.wrap, IntKind.signed, IntKind.bits]
  simp
  omega
 rw [a, show (2 ^ min (Int.toNat 1) (IntKind.bits .u64) : Int) = 2 from by decide, Int.fdiv_eq_ediv_of_nonneg _ (by decide), ko (by omega) (by omega)]
 omega
abbrev Ask (a0 : List Formula) (f : Formula × Formula → Option Int) (p q : Int) (b : Bool) : Prop := ∃ x y r, lE a0 p = some x ∧ lE a0 q = some y ∧ f (x, y) = some r ∧ decide (r < 0) = b
theorem TM (a0 : List Formula) (p : Int) (b : Nat → Bool) (lo a : Nat) (J : a ≤ 1000000) (u : ∀ h, lo ≤ h → h < a → Ask a0 f (h : Int) p (b h)) : ∀ (d n i j : Nat), j - i ≤ d → d < n → lo ≤ i → i ≤ j → j ≤ a → (i = lo ∨ b (i - 1) = true) → (j = a ∨ b j = false) →
  ∃ t M, lo ≤ t ∧ t ≤ a ∧ (t = lo ∨ b (t - 1) = true) ∧ (t = a ∨ b t = false) ∧ kW a0 p f n (i : Int) (j : Int) = kW a0 p f (M + 1) (t : Int) (t : Int) := by
 intro d
 induction d with
 | zero =>
  intro n i j h1 L g G k l m
  obtain ⟨n, rfl⟩ := aT (by omega : n ≠ 0)
  obtain rfl : i = j := by omega
  exact ⟨i, n, g, k, l, m, rfl⟩
 | succ d ih =>
  intro n i j h1 L g G k l m
  obtain ⟨n, rfl⟩ := aT (by omega : n ≠ 0)
  by_cases q : i = j
  ·subst q; exact ⟨i, n, g, k, l, m, rfl⟩
  have I := CG (i + j) (x := (i : Int) + (j : Int)) (by omega) (by omega)
  obtain ⟨x, y, r, v, w, z, E⟩ := u ((i + j) / 2) (by omega) (by omega)
  rw [kW]
  have s : ((i : Int) < (j : Int)) := by omega
  simp only [s, bY, aR, I, v, w, z, E, aA]
  cases hp : b ((i + j) / 2)
  ·simp only [aB, aI]
   exact ih n i ((i + j) / 2) (by omega) (by omega) g (by omega) (by omega) l (.inr hp)
  ·simp only [aR]
   rw [np ((i + j) / 2 + 1) (by omega) (by omega)]
   exact ih n ((i + j) / 2 + 1) j (by omega) (by omega) (by omega) (by omega) k (.inr (by simpa using hp)) m
theorem T7 (a0 : List Formula) (a2 : Int) (b : Nat → Bool) (lo a : Nat) (I : a ≤ 1000000) (s : ∀ h, lo ≤ h → h < a → Ask a0 f a2 (h : Int) (!b h)) : ∀ (d n i j : Nat), j - i ≤ d → d < n → lo ≤ i → i ≤ j → j ≤ a → (i = lo ∨ b (i - 1) = true) → (j = a ∨ b j = false) →
  ∃ t L, lo ≤ t ∧ t ≤ a ∧ (t = lo ∨ b (t - 1) = true) ∧ (t = a ∨ b t = false) ∧ kX a0 a2 f n (i : Int) (j : Int) = kX a0 a2 f (L + 1) (t : Int) (t : Int) := by
 intro d
 induction d with
 | zero =>
  intro n i j h1 J g E k l m
  obtain ⟨n, rfl⟩ := aT (by omega : n ≠ 0)
  obtain rfl : i = j := by omega
  exact ⟨i, n, g, k, l, m, rfl⟩
 | succ d ih =>
  intro n i j h1 J g E k l m
  obtain ⟨n, rfl⟩ := aT (by omega : n ≠ 0)
  by_cases p : i = j
  ·subst p; exact ⟨i, n, g, k, l, m, rfl⟩
  have G := CG (i + j) (x := (i : Int) + (j : Int)) (by omega) (by omega)
  obtain ⟨x, y, r, u, v, w, z⟩ := s ((i + j) / 2) (by omega) (by omega)
  rw [kX]
  have q : ((i : Int) < (j : Int)) := by omega
  simp only [q, bY, aR, G, u, v, w, z, aA, gG]
  cases hp : b ((i + j) / 2)
  ·simp only [aB, aI]
   exact ih n i ((i + j) / 2) (by omega) (by omega) g (by omega) (by omega) l (.inr hp)
  ·simp only [aR]
   rw [np ((i + j) / 2 + 1) (by omega) (by omega)]
   exact ih n ((i + j) / 2 + 1) j (by omega) (by omega) (by omega) (by omega) k (.inr (by simpa using hp)) m
theorem SZ (x : Formula) : ∀ (P Q R : List Formula) (n : Nat) (k i : Int), P.length < n → (Q ++ x :: (P ++ R)).length ≤ 1000000 → k = (Q.length : Int) → i = ((Q.length + P.length + 1 : Nat) : Int) → mi i n (Q ++ x :: (P ++ R)) k = some (Q ++ (P ++ x :: R))
 | [], Q, R, n, k, i, b, d, hk, a => by
  obtain ⟨n, rfl⟩ := aT (by simp at b; omega : n ≠ 0)
  simp only [aF, aK, bL] at d a
  rw [mi, np Q.length (by omega) (by omega)]
  have : ¬ (k < (Q.length : Int)) := by omega
  simp [this]
 | y :: P, Q, R, n, k, i, b, d, hk, a => by
  obtain ⟨n, rfl⟩ := aT (by simp at b; omega : n ≠ 0)
  simp only [aF, aK] at d a b
  have h : Q ++ x :: (y :: P ++ R) = Q ++ x :: ([] ++ y :: (P ++ R)) := rfl
  have j : wi0 .i64 (k + 1) = ((Q.length + 1 + ([] : List Formula).length : Nat) : Int) := np _ (by simp; omega) (by simp; omega)
  have i1 : lE (Q ++ x :: ([] ++ y :: (P ++ R))) ((Q.length + 1 + ([] : List Formula).length : Nat) : Int) = some y := by
   have := mL (Q ++ [x]) y (P ++ R) ((Q.length + 1 + ([] : List Formula).length : Nat) : Int) (by simp)
   simpa using this
  have i2 : lE (Q ++ x :: ([] ++ y :: (P ++ R))) k = some x := mL _ _ _ _ hk
  rw [mi, np (Q.length + P.length + 1) (by omega) (by omega), h]
  have g : k < ((Q.length + P.length + 1 : Nat) : Int) := by omega
  have kn : k.toNat = Q.length := by omega
  simp only [g, bY, aR, j, i1, i2, aA, kn]
  have i3 : lE ((Q ++ x :: ([] ++ y :: (P ++ R))).set Q.length y) ((Q.length + 1 + ([] : List Formula).length : Nat) : Int) = some y := by
   rw [EV]
   have := mL (Q ++ [y]) y (P ++ R) ((Q.length + 1 + ([] : List Formula).length : Nat) : Int) (by simp)
   simpa using this
  rw [i3, aA, dC, Mq, FK]
  have := SZ x P (Q ++ [y]) R n ((Q.length + 1 + ([] : List Formula).length : Nat) : Int) i (by omega) (by simp; omega) (by simp) (by rw [a]; simp; omega)
  simpa using this
theorem TY (x : Formula) : ∀ (k : Nat) (S Q R : List Formula) (n : Nat) (j i : Int), S.length = k → k < n → (Q ++ (S ++ x :: R)).length ≤ 1000000 → j = ((Q.length + S.length : Nat) : Int) → i = (Q.length : Int) → mh i n (Q ++ (S ++ x :: R)) j = some (Q ++ x :: (S ++ R)) := by
 intro k
 induction k with
 | zero =>
  intro S Q R n j i hk m h a g
  obtain ⟨n, rfl⟩ := aT (by omega : n ≠ 0)
  obtain rfl := aW hk
  rw [mh]
  simp only [bL, fW] at a
  have : ¬ (j > i) := by omega
  simp [this]
 | succ k ih =>
  intro S Q R n j i hk m h a g
  obtain ⟨n, rfl⟩ := aT (by omega : n ≠ 0)
  rcases dl S with rfl | ⟨S, z, rfl⟩
  ·simp at hk
  simp only [dL, aF, aK, bL] at hk a h ⊢
  have l : Q ++ (S ++ [z] ++ x :: R) = (Q ++ S) ++ z :: ([] ++ x :: R) := by simp
  have q : wi0 .i64 (j - 1) = ((Q ++ S).length : Int) := np _ (by simp; omega) (by simp; omega)
  have b : j = (((Q ++ S).length + 1 + ([] : List Formula).length : Nat) : Int) := by rw [a]; simp; omega
  have i1 : lE ((Q ++ S) ++ z :: ([] ++ x :: R)) j = some x := by
   have := mL (Q ++ S ++ [z]) x R j (by rw [b]; simp; omega)
   simpa using this
  have i2 : lE ((Q ++ S) ++ z :: ([] ++ x :: R)) ((Q ++ S).length : Int) = some z := mL _ _ _ _ rfl
  rw [mh, l]
  have d : j > i := by omega
  have p : j.toNat = (Q ++ S).length + 1 + ([] : List Formula).length := by omega
  simp only [d, bY, aR, q, i1, i2, aA, p]
  have i3 : lE (((Q ++ S) ++ z :: ([] ++ x :: R)).set ((Q ++ S).length + 1 + ([] : List Formula).length) z) ((Q ++ S).length : Int) = some z := by
   have : ((Q ++ S) ++ z :: ([] ++ x :: R)).set ((Q ++ S).length + 1 + ([] : List Formula).length) z = (Q ++ S) ++ z :: (z :: R) := by
    have := J6 (Q ++ S ++ [z]) R x z ((Q ++ S).length + 1 + ([] : List Formula).length) (by simp; omega)
    simpa using this
   rw [this]; exact mL _ _ _ _ rfl
  rw [i3, aA, dC, Mq, MV]
  have := ih S Q (z :: R) n ((Q ++ S).length : Int) i (by omega) (by omega) (by simp; omega) (by simp) g
  simpa using this
end
section
variable {c : Formula → Formula → Int} {G : Formula → Prop} {f : Formula × Formula → Option Int}
theorem Th (a0 : List Formula) (k a3 a2 : Int) (rec : List Formula → Int → Int → Int → ((Formula × Formula) → Option Int) → Option (List Formula)) (mid m p : Nat) (l : k + a3 = ((2 * mid : Nat) : Int) ∨ k + a3 = ((2 * mid + 1 : Nat) : Int)) (hm : a2 = (m : Int)) (hp : p + 1 = mid + m) (g : Nat → Bool) (lo a : Nat) (Q : a ≤ 1000000) (T : mid ≤ 1000000) (R : mid + m ≤ 2000000) (hle : a ≤ p + 1) (G : ∀ h, lo ≤ h → h < a → Ask a0 f ((p - h : Nat) : Int) (h : Int) (!g h)) : ∀ (d n i j : Nat), j - i ≤ d → d < n → lo ≤ i → i ≤ j → j ≤ a → (i = lo ∨ g (i - 1) = true) → (j = a ∨ g j = false) →
  ∃ t W, lo ≤ t ∧ t ≤ a ∧ (t = lo ∨ g (t - 1) = true) ∧ (t = a ∨ g t = false) ∧ kJ a0 k a3 a2 f rec n (i : Int) (j : Int) = kJ a0 k a3 a2 f rec (W + 1) (t : Int) (t : Int) := by
 have b : wi0 .i64 (Int.fdiv (IntKind.u64.wrap (wi0 .i64 (k + a3))) (2 ^ min (Int.toNat 1) (IntKind.bits .u64))) = (mid : Int) := by
  rcases l with h | h
  ·rw [CG _ h (by omega), show 2 * mid / 2 = mid by omega]
  ·rw [CG _ h (by omega), show (2 * mid + 1) / 2 = mid by omega]
 intro d
 induction d with
 | zero =>
  intro n i j h1 U s O u v w
  obtain ⟨n, rfl⟩ := aT (by omega : n ≠ 0)
  obtain rfl : i = j := by omega
  exact ⟨i, n, s, u, v, w, rfl⟩
 | succ d ih =>
  intro n i j h1 U s O u v w
  obtain ⟨n, rfl⟩ := aT (by omega : n ≠ 0)
  by_cases z : i = j
  ·subst z; exact ⟨i, n, s, u, v, w, rfl⟩
  have P := CG (i + j) (x := (i : Int) + (j : Int)) (by omega) (by omega)
  obtain ⟨x, y, r, I, J, L, M⟩ := G ((i + j) / 2) (by omega) (by omega)
  have Y : wi0 .i64 ((mid : Int) + a2) = ((mid + m : Nat) : Int) := np _ (by omega) (by omega)
  have Z : wi0 .i64 (((mid + m : Nat) : Int) - 1) = (p : Int) := np _ (by omega) (by omega)
  have w3 : wi0 .i64 ((p : Int) - (((i + j) / 2 : Nat) : Int)) = ((p - (i + j) / 2 : Nat) : Int) := np _ (by omega) (by omega)
  rw [kJ]
  have E : ((i : Int) < (j : Int)) := by omega
  simp only [E, bY, aR, P, b, Y, Z, w3, I, J, L, M, aA, gG]
  cases q : g ((i + j) / 2)
  ·simp only [aB, aI]
   exact ih n i ((i + j) / 2) (by omega) (by omega) s (by omega) (by omega) v (.inr q)
  ·simp only [aR]
   rw [np ((i + j) / 2 + 1) (by omega) (by omega)]
   exact ih n ((i + j) / 2 + 1) j (by omega) (by omega) (by omega) (by omega) u (.inr (by simpa using q)) w
theorem RQ (a0 : List Formula) (b a3 a2 : Int) (rec : List Formula → Int → Int → Int → ((Formula × Formula) → Option Int) → Option (List Formula)) (mid m t n : Nat) (d : b + a3 = ((2 * mid : Nat) : Int) ∨ b + a3 = ((2 * mid + 1 : Nat) : Int)) (hm : a2 = (m : Int)) (s : mid ≤ 1000000) (r : mid + m ≤ 2000000) (y : t ≤ mid + m) :
  kJ a0 b a3 a2 f rec (n + 1) (t : Int) (t : Int) =
   ((if t < m ∧ m < mid + m - t then mG a0 (t : Int) a2 ((mid + m - t : Nat) : Int) f else some a0).bind fun l => ((if b < (t : Int) ∧ t < mid then rec l b (t : Int) (mid : Int) f else some l).bind fun l => if mid < mid + m - t ∧ ((mid + m - t : Nat) : Int) < a3 then rec l (mid : Int) ((mid + m - t : Nat) : Int) a3 f else some l)) := by
 have a : wi0 .i64 (Int.fdiv (IntKind.u64.wrap (wi0 .i64 (b + a3))) (2 ^ min (Int.toNat 1) (IntKind.bits .u64))) = (mid : Int) := by
  rcases d with h | h
  ·rw [CG _ h (by omega), show 2 * mid / 2 = mid by omega]
  ·rw [CG _ h (by omega), show (2 * mid + 1) / 2 = mid by omega]
 have v : wi0 .i64 ((mid : Int) + a2) = ((mid + m : Nat) : Int) := np _ (by omega) (by omega)
 have w : wi0 .i64 (((mid + m : Nat) : Int) - (t : Int)) = ((mid + m - t : Nat) : Int) := np _ (by omega) (by omega)
 rw [kJ]
 simp only [Int.lt_irrefl, cD, aB, aI, a, v, w, ot]
 subst hm
 have g : ((t : Int) < (m : Int)) = (t < m) := by simp
 have i : ((m : Int) < ((mid + m - t : Nat) : Int)) = (m < mid + m - t) := by rw [gq]; omega
 have j : ((t : Int) < (mid : Int)) = (t < mid) := by simp
 have k : ((mid : Int) < ((mid + m - t : Nat) : Int)) = (mid < mid + m - t) := by rw [gq]; omega
 simp only [g, i, j, k]
 have key : ∀ (p q : Prop) [Decidable p] [Decidable q] (A B : Option (List Formula)), ((if decide p = true then some (decide q) else some false : Option Bool).bind fun x => if x = true then A else B) = if p ∧ q then A else B := by
  intro p q _ _ A B
  by_cases hp : p <;> by_cases u : q <;> simp [hp, u]
 simp only [key]
theorem MC (p A q : List Formula) (h : Nat) (b : p.length ≤ h) (h1 : h < p.length + A.length) : ∃ x, A[h - p.length]? = some x ∧ lE (p ++ (A ++ q)) (h : Int) = some x := by
 obtain ⟨x, a⟩ : ∃ x, A[h - p.length]? = some x := ⟨_, cX (by omega)⟩
 refine ⟨x, a, ?_⟩
 rw [EY, eX b, ga (by omega), a]
end
section
variable {c : Formula → Formula → Int} {G : Formula → Prop} {f : Formula × Formula → Option Int}
theorem Dq {α : Type} {P A' : List α} {z : α} (S : List α) (h : P = A' ++ [z]) : (P ++ S)[P.length - 1]? = some z := by subst h; simp
theorem CQ {α : Type} {S B' : List α} {z : α} (P : List α) (h : S = z :: B') : (P ++ S)[P.length]? = some z := by subst h; simp
theorem yk {A : List (Formula × Nat)} {i : Nat} {z : Formula × Nat} (h : A[i]? = some z) : (A.map (·.1))[i]? = some z.1 := by simp [h]
theorem SE (h : SWO (nq c)) (U : Cg f c G) (x : Formula × Nat) (B : List (Formula × Nat)) (pre post : List Formula) (a m b : Int) (M : oq (nq c) B) (Z : ∀ y ∈ B, x.2 < y.2) (w : ∀ y ∈ x :: B, G y.1) (W : (pre ++ x.1 :: (B.map (·.1) ++ post)).length ≤ 400000) (ha : a = (pre.length : Int)) (hm : m = ((pre.length + 1 : Nat) : Int)) (T : b = ((pre.length + 1 + B.length : Nat) : Int)) :
  ∃ u, kW (pre ++ x.1 :: (B.map (·.1) ++ post)) a f kd m b = some (pre ++ (u.map (·.1) ++ post)) ∧ oq (nq c) u ∧ u.Perm (x :: B) := by
 have r := W
 simp only [aF, aK, cP] at r
 let g : Nat → Bool := fun k => match (B.map (·.1))[k - (pre.length + 1)]? with | some y => nq c y x.1 | none => false
 have j : ∀ k, pre.length + 1 ≤ k → k < pre.length + 1 + B.length → Ask (pre ++ x.1 :: (B.map (·.1) ++ post)) f (k : Int) a (g k) := by
  intro k h1 h2
  obtain ⟨y, s, E⟩ := MC (pre ++ [x.1]) (B.map (·.1)) post k (by simp; omega) (by simp; omega)
  have I : lE (pre ++ x.1 :: (B.map (·.1) ++ post)) (k : Int) = some y := by simpa using E
  have J : lE (pre ++ x.1 :: (B.map (·.1) ++ post)) a = some x.1 := mL _ _ _ _ ha
  have hy : G y := by
   obtain ⟨q, Y, rfl⟩ := bI.1 (cY s)
   exact w q (by simp [Y])
  refine ⟨y, x.1, _, I, J, U y x.1 hy (w x (by simp)), ?_⟩
  simp only [aF, aK, bL] at s
  simp only [g, s]
 obtain ⟨t, n', t1, t2, t3, t4, e⟩ := TM (f := f) _ a g (pre.length + 1) (pre.length + 1 + B.length) (by omega) j B.length kd (pre.length + 1) (pre.length + 1 + B.length) (by omega) (by rw [lX]; omega) (aY _) (by omega) (aY _) (.inl rfl) (.inl rfl)
 rw [hm, T, e, kW]
 simp only [Int.lt_irrefl, cD, aB, aI, ot]
 obtain ⟨P, S, rfl, O⟩ := wB (l := B) (n := t - (pre.length + 1)) (by omega)
 simp only [aF] at r t2 t4
 have L : pre ++ x.1 :: ((P ++ S).map (·.1) ++ post) = pre ++ x.1 :: (P.map (·.1) ++ (S.map (·.1) ++ post)) := by simp
 rw [L, SZ x.1 (P.map (·.1)) pre (S.map (·.1) ++ post) kd a (t : Int) (by rw [lX]; simp; omega) (by simp; omega) ha (by simp; omega)]
 refine ⟨P ++ x :: S, by simp, Hz h M ?_ ?_, eV⟩
 ·intro A' z v B' i d
  simp only [bk] at d
  rw [← d.1]
  have Q : 0 < P.length := by rw [i]; simp
  have hp : g (t - 1) = true := by
   rcases t3 with t3 | t3
   ·omega
   ·exact t3
  have p := yk (Dq S i)
  rw [show P.length - 1 = t - 1 - (pre.length + 1) by omega] at p
  simp only [g, p] at hp
  exact .inl hp
 ·intro A' z v B' i d
  have hz : z = x := by
   cases A' with
   | nil => simpa using i.symm
   | cons _ A' => simp at i
  rw [hz]
  have R : 0 < S.length := by rw [d]; simp
  have hp : g t = false := by
   rcases t4 with t4 | t4
   ·omega
   ·exact t4
  have p := yk (CQ P d)
  rw [O] at p
  simp only [g, p] at hp
  exact .inr ⟨hp, Z v (by rw [d]; simp)⟩
theorem SP (h : SWO (nq c)) (Q : Cg f c G) (y : Formula × Nat) (A : List (Formula × Nat)) (pre post : List Formula) (a m : Int) (J : oq (nq c) A) (U : ∀ x ∈ A, x.2 < y.2) (s : ∀ x ∈ y :: A, G x.1) (R : (pre ++ (A.map (·.1) ++ y.1 :: post)).length ≤ 400000) (ha : a = (pre.length : Int)) (hm : m = ((pre.length + A.length : Nat) : Int)) :
  ∃ u, kX (pre ++ (A.map (·.1) ++ y.1 :: post)) m f kd a m = some (pre ++ (u.map (·.1) ++ post)) ∧ oq (nq c) u ∧ u.Perm (A ++ [y]) := by
 have p := R
 simp only [aF, aK, cP] at p
 let g : Nat → Bool := fun k => match (A.map (·.1))[k - pre.length]? with | some x => !nq c y.1 x | none => false
 have i : ∀ k, pre.length ≤ k → k < pre.length + A.length → Ask (pre ++ (A.map (·.1) ++ y.1 :: post)) f m (k : Int) (!g k) := by
  intro k h1 Z
  obtain ⟨x, r, w⟩ := MC pre (A.map (·.1)) (y.1 :: post) k h1 (by simp; omega)
  have E : lE (pre ++ (A.map (·.1) ++ y.1 :: post)) m = some y.1 := by
   have := mL (pre ++ A.map (·.1)) y.1 post m (by rw [hm]; simp)
   simpa using this
  have W : G x := by
   obtain ⟨q, T, rfl⟩ := bI.1 (cY r)
   exact s q (by simp [T])
  refine ⟨y.1, x, _, E, w, Q y.1 x (s y (by simp)) W, ?_⟩
  simp only [g, r, gG]
 obtain ⟨t, n', t1, t2, t3, t4, e⟩ := T7 (f := f) _ m g pre.length (pre.length + A.length) (by omega) i A.length kd pre.length (pre.length + A.length) (by omega) (by rw [lX]; omega) (aY _) (by omega) (aY _) (.inl rfl) (.inl rfl)
 rw [← hm, ← ha] at e
 rw [e, kX]
 simp only [Int.lt_irrefl, cD, aB, aI, ot]
 obtain ⟨P, S, rfl, L⟩ := wB (l := A) (n := t - pre.length) (by omega)
 simp only [aF] at p t2 t4 hm
 have I : pre ++ ((P ++ S).map (·.1) ++ y.1 :: post) = (pre ++ P.map (·.1)) ++ (S.map (·.1) ++ y.1 :: post) := by simp
 rw [I, TY y.1 S.length (S.map (·.1)) (pre ++ P.map (·.1)) post kd m (t : Int) (by simp) (by rw [lX]; omega) (by simp; omega) (by rw [hm]; simp; omega) (by simp; omega)]
 refine ⟨P ++ y :: S, by simp, Hz h J ?_ ?_, List.perm_middle.trans (fU y (P ++ S)).symm⟩
 ·intro A' z v B' b d
  simp only [bk] at d
  rw [← d.1]
  have M : 0 < P.length := by rw [b]; simp
  have hp : g (t - 1) = true := by
   rcases t3 with t3 | t3
   ·omega
   ·exact t3
  have j := yk (Dq S b)
  rw [show P.length - 1 = t - 1 - pre.length by omega] at j
  simp only [g, j, fj] at hp
  exact .inr ⟨hp, U z (by rw [b]; simp)⟩
 ·intro A' z v B' b d
  have Y : z = y := by
   cases A' with
   | nil => simpa using b.symm
   | cons _ A' => simp at b
  rw [Y]
  have O : 0 < S.length := by rw [d]; simp
  have hp : g t = false := by
   rcases t4 with t4 | t4
   ·omega
   ·exact t4
  have j := yk (CQ P d)
  rw [L] at j
  simp only [g, j, Bool.not_eq_false'] at hp
  exact .inl hp
theorem N5 {α : Type} {A1 A2 B1 B2 C1 C2 : List α} (a : C1.Perm (A1 ++ B1)) (b : C2.Perm (A2 ++ B2)) : (C1 ++ C2).Perm ((A1 ++ A2) ++ (B1 ++ B2)) := by
 refine (a.append b).trans ?_
 simp only [aJ]
 refine cC A1 ?_
 exact fR B1 A2 B2
def PA (c : Formula → Formula → Int) (A B : List Formula) (a b p q : Nat) : Bool := match A[q - a]?, B[p - q - b]? with | some x, some y => !nq c y x | _, _ => false
theorem I3 {A B : List Formula} {a b p q : Nat} {x y : Formula} (h1 : A[q - a]? = some x) (d : B[p - q - b]? = some y) : PA c A B a b p q = !nq c y x := by simp only [PA, h1, d]
theorem Tx (l : Cg f c G) (A B : List (Formula × Nat)) (pre post : List Formula) (a p : Nat) (m : a = pre.length + A.length) (h : ∀ x ∈ A ++ B, G x.1) (q : Nat) (s : pre.length ≤ q) (t : q < a) (u : a ≤ p - q) (v : p - q < a + B.length) :
  Ask (pre ++ (A.map (·.1) ++ (B.map (·.1) ++ post))) f ((p - q : Nat) : Int) (q : Int) (!PA c (A.map (·.1)) (B.map (·.1)) pre.length a p q) := by
 obtain ⟨x, g, i⟩ := MC pre (A.map (·.1)) (B.map (·.1) ++ post) q s (by simp; omega)
 obtain ⟨y, b, j⟩ := MC (pre ++ A.map (·.1)) (B.map (·.1)) post (p - q) (by simp; omega) (by simp; omega)
 have n : G x := by
  obtain ⟨z, d, rfl⟩ := bI.1 (cY g)
  exact h z (by simp [d])
 have r : G y := by
  obtain ⟨z, d, rfl⟩ := bI.1 (cY b)
  exact h z (by simp [d])
 have k : lE (pre ++ (A.map (·.1) ++ (B.map (·.1) ++ post))) ((p - q : Nat) : Int) = some y := by simpa using j
 refine ⟨y, x, _, k, i, l y x r n, ?_⟩
 rw [show p - q - (pre ++ A.map (·.1)).length = p - q - a by simp; omega] at b
 rw [I3 g b, gG]
abbrev TO (c : Formula → Formula → Int) (G : Formula → Prop) (f : Formula × Formula → Option Int) (rec : List Formula → Int → Int → Int → ((Formula × Formula) → Option Int) → Option (List Formula)) (k : Nat) : Prop :=
 ∀ (A B : List (Formula × Nat)) (pre post : List Formula) (a m b : Int), A.length + B.length ≤ k → 0 < A.length → 0 < B.length → oq (nq c) A → oq (nq c) B →
  (∀ x ∈ A, ∀ y ∈ B, x.2 < y.2) → (∀ x ∈ A ++ B, G x.1) → (pre ++ (A.map (·.1) ++ (B.map (·.1) ++ post))).length ≤ 400000 → a = (pre.length : Int) → m = ((pre.length + A.length : Nat) : Int) → b = ((pre.length + A.length + B.length : Nat) : Int) →
  ∃ u, rec (pre ++ (A.map (·.1) ++ (B.map (·.1) ++ post))) a m b f = some (pre ++ (u.map (·.1) ++ post)) ∧ oq (nq c) u ∧ u.Perm (A ++ B)
theorem RI (h : SWO (nq c)) {rec : List Formula → Int → Int → Int → ((Formula × Formula) → Option Int) → Option (List Formula)} {k : Nat} (ih : TO c G f rec k) (A1 A2 B1 B2 : List (Formula × Nat)) (pre post : List Formula) (a m b : Int) (mid d t : Nat) (Q : d = pre.length + (A1.length + A2.length)) (T : mid = (pre.length + (d + (B1.length + B2.length))) / 2) (O : A1.length = t - pre.length) (P : B1.length = mid - t) (U : pre.length ≤ t) (W : t ≤ mid) (Y : t ≤ d) (hk : A1.length + A2.length + (B1.length + B2.length) ≤ k + 1) (R : 2 ≤ A1.length + A2.length + (B1.length + B2.length)) (p : oq (nq c) (A1 ++ A2)) (q : oq (nq c) (B1 ++ B2)) (M : ∀ x ∈ A1 ++ A2, ∀ y ∈ B1 ++ B2, x.2 < y.2) (L : ∀ x ∈ (A1 ++ A2) ++ (B1 ++ B2), G x.1) (hl : pre.length + (A1.length + A2.length + (B1.length + B2.length + post.length)) ≤ 400000) (ha : a = (pre.length : Int)) (hm : m = (d : Int)) (hb : b = ((d + (B1.length + B2.length) : Nat) : Int)) (Z : Lk (nq c) A1 B2) (l2 : Lk (nq c) B1 A2) :
  ∃ u, ((if t < d ∧ d < mid + d - t then mG (pre ++ ((A1 ++ A2).map (·.1) ++ ((B1 ++ B2).map (·.1) ++ post))) (t : Int) m ((mid + d - t : Nat) : Int) f else some (pre ++ ((A1 ++ A2).map (·.1) ++ ((B1 ++ B2).map (·.1) ++ post)))).bind fun l =>
   ((if a < (t : Int) ∧ t < mid then rec l a (t : Int) (mid : Int) f else some l).bind fun l => if mid < mid + d - t ∧ ((mid + d - t : Nat) : Int) < b then rec l (mid : Int) ((mid + d - t : Nat) : Int) b f else some l)) = some (pre ++ (u.map (·.1) ++ post)) ∧ oq (nq c) u ∧ u.Perm ((A1 ++ A2) ++ (B1 ++ B2)) := by
 have r1 : (if t < d ∧ d < mid + d - t then mG (pre ++ ((A1 ++ A2).map (·.1) ++ ((B1 ++ B2).map (·.1) ++ post))) (t : Int) m ((mid + d - t : Nat) : Int) f else some (pre ++ ((A1 ++ A2).map (·.1) ++ ((B1 ++ B2).map (·.1) ++ post)))) =
   some (pre ++ (A1.map (·.1) ++ (B1.map (·.1) ++ (A2.map (·.1) ++ (B2.map (·.1) ++ post))))) := by
  by_cases i : t < d ∧ d < mid + d - t
  ·rw [bD i]
   have := TX (f := f) (A2.map (·.1)) (B1.map (·.1)) (pre ++ A1.map (·.1)) (B2.map (·.1) ++ post) (t : Int) m ((mid + d - t : Nat) : Int) (by simp; omega) (by simp; omega) (by simp; omega) (by simp; omega) (by simp; omega) (by simp; omega)
   simpa using this
  ·rw [bB i]
   have : A2 = [] ∨ B1 = [] := by
    by_cases h1 : A2.length = 0
    ·exact .inl (aW h1)
    ·exact .inr (aW (by omega))
   rcases this with rfl | rfl <;> simp
 rw [r1, aA]
 have r2 : ∃ C1, (if a < (t : Int) ∧ t < mid then rec (pre ++ (A1.map (·.1) ++ (B1.map (·.1) ++ (A2.map (·.1) ++ (B2.map (·.1) ++ post))))) a (t : Int) (mid : Int) f else some (pre ++ (A1.map (·.1) ++ (B1.map (·.1) ++ (A2.map (·.1) ++ (B2.map (·.1) ++ post)))))) =
   some (pre ++ (C1.map (·.1) ++ (A2.map (·.1) ++ (B2.map (·.1) ++ post)))) ∧ oq (nq c) C1 ∧ C1.Perm (A1 ++ B1) := by
  by_cases i : a < (t : Int) ∧ t < mid
  ·rw [bD i]
   exact ih A1 B1 pre (A2.map (·.1) ++ (B2.map (·.1) ++ post)) a t mid (by omega) (by omega) (by omega) p.left q.left (fun x g y E => M x (by simp [g]) y (by simp [E])) (fun x g => L x (by simp at g ⊢; rcases g with g | g <;> simp [g]))
    (by simp; omega) ha (by omega) (by omega)
  ·rw [bB i]
   refine ⟨A1 ++ B1, by simp, I5 h p.left q.left (fun A' x y B' I J => ?_), .refl _⟩
   have g1 : 0 < A1.length := by rw [I]; simp
   have g2 : 0 < B1.length := by rw [J]; simp
   omega
 obtain ⟨C1, r, v, j⟩ := r2
 have s := j.length_eq
 simp only [aF] at s
 rw [r, aA]
 have r3 : ∃ C2, (if mid < mid + d - t ∧ ((mid + d - t : Nat) : Int) < b then rec (pre ++ (C1.map (·.1) ++ (A2.map (·.1) ++ (B2.map (·.1) ++ post)))) (mid : Int) ((mid + d - t : Nat) : Int) b f else some (pre ++ (C1.map (·.1) ++ (A2.map (·.1) ++ (B2.map (·.1) ++ post))))) =
   some ((pre ++ C1.map (·.1)) ++ (C2.map (·.1) ++ post)) ∧ oq (nq c) C2 ∧ C2.Perm (A2 ++ B2) := by
  by_cases i : mid < mid + d - t ∧ ((mid + d - t : Nat) : Int) < b
  ·rw [bD i]
   have := ih A2 B2 (pre ++ C1.map (·.1)) post mid ((mid + d - t : Nat) : Int) b (by omega) (by omega) (by omega) p.right q.right (fun x g y E => M x (by simp [g]) y (by simp [E])) (fun x g => L x (by simp at g ⊢; rcases g with g | g <;> simp [g]))
    (by simp; omega) (by simp; omega) (by simp; omega) (by simp; omega)
   simpa using this
  ·rw [bB i]
   refine ⟨A2 ++ B2, by simp, I5 h p.right q.right (fun A' x y B' I J => ?_), .refl _⟩
   have g1 : 0 < A2.length := by rw [I]; simp
   have g2 : 0 < B2.length := by rw [J]; simp
   omega
 obtain ⟨C2, w, z, n⟩ := r3
 rw [w]
 exact ⟨C1 ++ C2, by simp, Qy h p q Z l2 j n v z, N5 j n⟩
theorem Ot (F : Nat) (M : 1000000 < F) (L : List Formula) (rec : List Formula → Int → Int → Int → ((Formula × Formula) → Option Int) → Option (List Formula)) (pl g h mid d p : Nat) (a b m : Int) (r : Nat → Bool) (w : 0 < g) (y : 0 < h) (G : pl + (g + h) ≤ 400000) (E : mid = (pl + (pl + g + h)) / 2) (z : d = pl + g) (hp : p + 1 = mid + d) (l : a + b = ((2 * mid : Nat) : Int) ∨ a + b = ((2 * mid + 1 : Nat) : Int)) (ha : a = (pl : Int)) (k : m = (d : Int)) (O : b = ((pl + g + h : Nat) : Int)) (i : ∀ q, pl ≤ q → q < d → d ≤ p - q → p - q < d + h → Ask L f ((p - q : Nat) : Int) (q : Int) (!r q)) :
  ∃ t n lo s : Nat, (lo = pl ∧ s = d ∧ d ≤ mid ∨ lo + (pl + g + h) = mid + d ∧ s = mid ∧ mid < d) ∧ lo ≤ t ∧ t ≤ s ∧ (t = lo ∨ r (t - 1) = true) ∧ (t = s ∨ r t = false) ∧
    ((if decide (m > (mid : Int)) then some (wi0 .i64 (((mid + d : Nat) : Int) - b), (mid : Int)) else some (a, m) : Option (Int × Int)).bind fun x => kJ L a b m f rec F x.1 x.2) =
     kJ L a b m f rec (n + 1) (t : Int) (t : Int) := by
 by_cases v : mid < d
 ·obtain ⟨lo, u⟩ : ∃ lo : Nat, lo + (pl + g + h) = mid + d := ⟨mid + d - (pl + g + h), by omega⟩
  obtain ⟨t, n, t1, t2, t3, t4, e⟩ := Th (f := f) L a b m rec mid d p l k hp r lo mid (by omega) (by omega) (by omega) (by omega) (fun q I J => i q (by omega) (by omega) (by omega) (by omega))
   (mid - lo) F lo mid (aY _) (by omega) (aY _) (by omega) (aY _) (.inl rfl) (.inl rfl)
  refine ⟨t, n, lo, mid, .inr ⟨u, rfl, v⟩, t1, t2, t3, t4, ?_⟩
  have j : m > (mid : Int) := by omega
  simp only [j, bY, aR, aA]
  rw [np lo (by omega) (by omega), e]
 ·obtain ⟨t, n, t1, t2, t3, t4, e⟩ := Th (f := f) L a b m rec mid d p l k hp r pl d (by omega) (by omega) (by omega) (by omega) (fun q I J => i q (by omega) (by omega) (by omega) (by omega))
   (d - pl) F pl d (aY _) (by omega) (aY _) (by omega) (aY _) (.inl rfl) (.inl rfl)
  refine ⟨t, n, pl, d, .inl ⟨rfl, rfl, by omega⟩, t1, t2, t3, t4, ?_⟩
  have j : ¬ (m > (mid : Int)) := by omega
  simp only [j, cD, aB, aI, aA]
  rw [← e, ← ha, ← k]
set_option maxHeartbeats 2000000 in
theorem TA (h : SWO (nq c)) (hf : Cg f c G) : ∀ (k : Nat) (A B : List (Formula × Nat)) (pre post : List Formula) (n : Nat) (a m b : Int), A.length + B.length ≤ k → 0 < A.length → 0 < B.length → k < n → oq (nq c) A → oq (nq c) B →
  (∀ x ∈ A, ∀ y ∈ B, x.2 < y.2) → (∀ x ∈ A ++ B, G x.1) → (pre ++ (A.map (·.1) ++ (B.map (·.1) ++ post))).length ≤ 400000 → a = (pre.length : Int) → m = ((pre.length + A.length : Nat) : Int) → b = ((pre.length + A.length + B.length : Nat) : Int) →
  ∃ u, lA n (pre ++ (A.map (·.1) ++ (B.map (·.1) ++ post))) a m b f = some (pre ++ (u.map (·.1) ++ post)) ∧ oq (nq c) u ∧ u.Perm (A ++ B) := by
 intro k
 induction k with
 | zero => intro A B pre post n a m b h0 h1 h2; omega
 | succ k ih =>
  intro A B pre post n a m b h0 h1 h2 hn hA hB W U hl ha hm P
  obtain ⟨n, rfl⟩ := aT (by omega : n ≠ 0)
  have Q := hl
  simp only [aF, cP] at Q
  rw [lA]
  unfold oX
  by_cases c1 : A.length = 1
  ·obtain ⟨x, rfl⟩ := List.length_eq_one_iff.1 c1
   have : (wi0 .i64 (m - a) == 1) = true := by rw [np 1 (by simp at hm; omega) (by omega)]; rfl
   simp only [this, aR]
   obtain ⟨u, u1, u2, u3⟩ := SE h hf x B pre post a m b hB (fun y hy => W x (by simp) y hy) (fun y hy => U y (by simpa using hy)) (by simpa using hl) ha (by simpa using hm) (by simpa using P)
   exact ⟨u, by simpa using u1, u2, by simpa using u3⟩
  have n1 : (wi0 .i64 (m - a) == 1) = false := by rw [np A.length (by omega) (by omega)]; simp; omega
  simp only [n1, aB, aI]
  by_cases c2 : B.length = 1
  ·obtain ⟨y, rfl⟩ := List.length_eq_one_iff.1 c2
   have : (wi0 .i64 (b - m) == 1) = true := by rw [np 1 (by simp at P; omega) (by omega)]; rfl
   simp only [this, aR]
   obtain ⟨u, u1, u2, u3⟩ := SP h hf y A pre post a m hA (fun x Y => W x Y y (by simp)) (fun x Y => U x (by simp at Y ⊢; exact Y.symm)) (by simpa using hl) ha hm
   exact ⟨u, by simpa using u1, u2, u3⟩
  have n2 : (wi0 .i64 (b - m) == 1) = false := by rw [np B.length (by omega) (by omega)]; simp; omega
  simp only [n2, aB, aI]
  obtain ⟨F, hF, a1⟩ : ∃ F, F = kd ∧ 1000000 < F := ⟨kd, rfl, by rw [lX]; omega⟩
  rw [← hF]
  obtain ⟨mid, I⟩ : ∃ mid : Nat, mid = (pre.length + (pre.length + A.length + B.length)) / 2 := ⟨_, rfl⟩
  obtain ⟨d, j⟩ : ∃ d : Nat, d = pre.length + A.length := ⟨_, rfl⟩
  obtain ⟨p, hp⟩ : ∃ p : Nat, p + 1 = mid + d := ⟨mid + d - 1, by omega⟩
  have w : a + b = ((2 * mid : Nat) : Int) ∨ a + b = ((2 * mid + 1 : Nat) : Int) := by omega
  have J : wi0 .i64 (Int.fdiv (IntKind.u64.wrap (wi0 .i64 (a + b))) (2 ^ min (Int.toNat 1) (IntKind.bits .u64))) = (mid : Int) := by
   rcases w with h | h
   ·rw [CG _ h (by omega), show 2 * mid / 2 = mid by omega]
   ·rw [CG _ h (by omega), show (2 * mid + 1) / 2 = mid by omega]
  have E : m = (d : Int) := by omega
  have w1 : wi0 .i64 ((mid : Int) + m) = ((mid + d : Nat) : Int) := np _ (by omega) (by omega)
  obtain ⟨L, r⟩ : ∃ L : Nat → Bool, L = PA c (A.map (·.1)) (B.map (·.1)) pre.length d p := ⟨_, rfl⟩
  have O : ∀ q, pre.length ≤ q → q < d → d ≤ p - q → p - q < d + B.length → Ask (pre ++ (A.map (·.1) ++ (B.map (·.1) ++ post))) f ((p - q : Nat) : Int) (q : Int) (!L q) := fun q g i q3 q4 => by rw [r]; exact Tx hf A B pre post d p j U q g i q3 q4
  obtain ⟨t, n', lo, hi, a6, t1, t2, t3, t4, e⟩ := Ot (f := f) F a1 (pre ++ (A.map (·.1) ++ (B.map (·.1) ++ post))) (lA n) pre.length A.length B.length mid d p a b m L (by omega) (by omega) (by omega) I j hp w ha E P O
  simp only [J, w1]
  rw [e, RQ (f := f) _ a b m _ mid d t n' w E (by omega) (by omega) (by omega)]
  obtain ⟨A1, A2, rfl, M⟩ := wB (l := A) (n := t - pre.length) (by omega)
  obtain ⟨B1, B2, rfl, Z⟩ := wB (l := B) (n := mid - t) (by omega)
  simp only [aF] at h0 h1 h2 Q t1 t2 t3 t4 a6 hm P j I
  have R : ∀ q x y, ((A1 ++ A2).map (·.1))[q - pre.length]? = some x → ((B1 ++ B2).map (·.1))[p - q - d]? = some y → L q = !nq c y x := fun q x y s v => by rw [r]; exact I3 s v
  have l1 : Lk (nq c) A1 B2 := by
   intro A' z b' B' g i
   have g1 : 0 < A1.length := by rw [g]; simp
   have g2 : 0 < B2.length := by rw [i]; simp
   have T : L (t - 1) = true := by
    rcases t3 with t3 | t3
    ·omega
    ·exact t3
   have s := yk (Dq A2 g)
   have v := yk (CQ B1 i)
   rw [show A1.length - 1 = t - 1 - pre.length by omega] at s
   rw [show B1.length = p - (t - 1) - d by omega] at v
   rw [R _ _ _ s v, fj] at T
   exact .inr ⟨T, W z (by rw [g]; simp) b' (by rw [i]; simp)⟩
  have l2 : Lk (nq c) B1 A2 := by
   intro A' z b' B' g i
   have g1 : 0 < B1.length := by rw [g]; simp
   have g2 : 0 < A2.length := by rw [i]; simp
   have T : L t = false := by
    rcases t4 with t4 | t4
    ·omega
    ·exact t4
   have s := yk (Dq B2 g)
   have v := yk (CQ A1 i)
   rw [show B1.length - 1 = p - t - d by omega] at s
   rw [M] at v
   rw [R _ _ _ v s, Bool.not_eq_false'] at T
   exact .inl T
  exact RI h (fun A B pre post a m b g i q3 => ih A B pre post n a m b g i q3 (by omega)) A1 A2 B1 B2 pre post a m b mid d t j (by rw [I]; congr 1; omega) M Z (by omega) (by omega) (by omega) (by omega) (by omega) hA hB W U (by omega) ha E (by rw [P]; congr 1; omega) l1 l2
end
section
variable {c : Formula → Formula → Int} {G : Formula → Prop} {f : Formula × Formula → Option Int}
def xu (c : Formula → Formula → Int) : Nat → List (List (Formula × Nat)) → Prop
 | _, [] => True
 | o, A :: bs => oq (nq c) A ∧ (∀ x ∈ A, o ≤ x.2 ∧ x.2 < o + A.length) ∧ xu c (o + A.length) bs
def WB (s : Nat) : List (List (Formula × Nat)) → Prop
 | [] => True
 | A :: bs => A.length ≤ s ∧ (bs ≠ [] → A.length = s) ∧ WB s bs
theorem xu.append : ∀ {ds bs : List (List (Formula × Nat))} {o : Nat}, xu c o (ds ++ bs) ↔ xu c o ds ∧ xu c (o + ds.flatten.length) bs
 | [], bs, o => by simp [xu]
 | A :: ds, bs, o => by
  simp only [bE, xu, xu.append (ds := ds), bP, aF, and_assoc, eF]
def fm (bs : List (List (Formula × Nat))) : List Formula := bs.flatten.map (·.1)
theorem Ij (a b : List (List (Formula × Nat))) : fm (a ++ b) = fm a ++ fm b := by simp [fm]
theorem La (A : List (Formula × Nat)) (b : List (List (Formula × Nat))) : fm (A :: b) = A.map (·.1) ++ fm b := by simp [fm]
theorem rl (a : List (List (Formula × Nat))) : (fm a).length = a.flatten.length := by unfold fm; rw [cP]
theorem NR (ds : List (List (Formula × Nat))) (C : List (Formula × Nat)) : (ds ++ [C]).flatten.length = ds.flatten.length + C.length := by rw [cQ, aF]; simp only [bP, dp, bJ]
theorem Rx (C : List (Formula × Nat)) (bs : List (List (Formula × Nat))) : fm ([C] ++ bs) = C.map (·.1) ++ fm bs := by simp [fm]
theorem Fb {R : List Formula} {o : Nat} {x : Formula × Nat} (h : x ∈ R.zipIdx o) : x.1 ∈ R := List.fst_mem_of_mem_zipIdx h
theorem WB.two {s : Nat} {A : List (Formula × Nat)} {bs : List (List (Formula × Nat))} (g : 0 < s) (h : WB s (A :: bs)) (d : s < (A :: bs).flatten.length) : A.length = s ∧ ∃ B a, bs = B :: a ∧ (B.length = s ∨ a = []) ∧ B.length ≤ s ∧ WB s a := by
 cases bs with
 | nil => simp at d; have := h.1; omega
 | cons B a =>
  refine ⟨h.2.1 (by simp), B, a, rfl, ?_, h.2.2.1, h.2.2.2.2⟩
  by_cases b : a = []
  ·exact .inr b
  ·exact .inl (h.2.2.2.1 b)
theorem JW (h : SWO (nq c)) (u : Cg f c G) {ds bs : List (List (Formula × Nat))} {A B : List (Formula × Nat)} (hO : xu c 0 (ds ++ A :: B :: bs)) (s : ∀ x ∈ (ds ++ A :: B :: bs).flatten, G x.1) (i : (fm (ds ++ A :: B :: bs)).length ≤ 400000) (q : 0 < A.length) (r : 0 < B.length) (a m b : Int) (ha : a = (ds.flatten.length : Int)) (hm : m = ((ds.flatten.length + A.length : Nat) : Int)) (t : b = ((ds.flatten.length + A.length + B.length : Nat) : Int)) :
  ∃ C, lA kd (fm (ds ++ A :: B :: bs)) a m b f = some (fm ((ds ++ [C]) ++ bs)) ∧ xu c 0 ((ds ++ [C]) ++ bs) ∧ C.Perm (A ++ B) := by
 obtain ⟨h1, p⟩ := xu.append.1 hO
 obtain ⟨I, l, J, n, v⟩ := p
 have e : fm (ds ++ A :: B :: bs) = fm ds ++ (A.map (·.1) ++ (B.map (·.1) ++ fm bs)) := by rw [Ij, La, La]
 rw [e] at i ⊢
 have j := i
 simp only [aF, cP, rl] at j
 obtain ⟨C, z, E, k⟩ := TA h u (A.length + B.length) A B (fm ds) (fm bs) kd a m b (aY _) q r (by rw [lX]; omega) I J (fun x d y w => by have := (l x d).2; have := (n y w).1; omega)
  (fun x d => s x (by
   rw [cQ, bP, bP, aU, aU, aU]
   rcases aU.1 d with d | d
   ·exact .inr (.inl d)
   ·exact .inr (.inr (.inl d)))) i (by rw [ha, rl]) (by rw [hm, rl]) (by rw [t, rl])
 have g := k.length_eq
 simp only [aF] at g
 refine ⟨C, by rw [z, aJ, Ij, Rx], ?_, k⟩
 ·rw [aJ, xu.append]
  refine ⟨h1, E, fun x d => ?_, ?_⟩
  ·rcases aU.1 (k.mem_iff.1 d) with d | d
   ·have := l x d; omega
   ·have := n x d; omega
  ·rw [g, ← eF]; exact v
theorem Jh {ds bs : List (List (Formula × Nat))} {A B C : List (Formula × Nat)} (h : C.Perm (A ++ B)) : ((ds ++ [C]) ++ bs).flatten.Perm (ds ++ A :: B :: bs).flatten := by
 simp only [cQ, bP, dp, bJ, aJ]
 refine cC _ ?_
 rw [← aJ]
 exact h.append_right _
theorem P5 (h : SWO (nq c)) (Q : Cg f c G) (s : Nat) (T : 0 < s) (U : s ≤ 1000000) (N : Nat) (hN : N ≤ 400000) : ∀ (k : Nat) (bs ds : List (List (Formula × Nat))) (n : Nat) (a b : Int), bs.length ≤ k → k < n → xu c 0 (ds ++ bs) → (∀ x ∈ (ds ++ bs).flatten, G x.1) → (ds ++ bs).flatten.length = N → WB s bs → (∀ A ∈ ds, A.length = 2 * s) →
  a = (ds.flatten.length : Int) → b = ((ds.flatten.length + 2 * s : Nat) : Int) →
  ∃ es r, mr (N : Int) (s : Int) f n (fm (ds ++ bs)) a b = some (fm (es ++ r), (es.flatten.length : Int)) ∧ xu c 0 (es ++ r) ∧ (es ++ r).flatten.Perm (ds ++ bs).flatten ∧ WB s r ∧ r.flatten.length < 2 * s ∧ (∀ A ∈ es, A.length = 2 * s) := by
 intro k
 induction k with
 | zero =>
  intro bs ds n a b hk R hO q j t l ha O
  obtain ⟨n, rfl⟩ := aT (by omega : n ≠ 0)
  obtain rfl := aW (Nat.le_zero.1 hk)
  simp only [bJ] at j
  rw [mr]
  have : ¬ (b ≤ (N : Int)) := by omega
  simp only [this, cD, aB, aI]
  exact ⟨ds, [], by rw [ha], hO, .refl _, trivial, by simp only [dp, bL]; omega, l⟩
 | succ k ih =>
  intro bs ds n a b hk R hO q j t l ha O
  obtain ⟨n, rfl⟩ := aT (by omega : n ≠ 0)
  rw [mr]
  by_cases hle : b ≤ (N : Int)
  ·simp only [hle, bY, aR]
   have d := j
   rw [cQ, aF] at d
   cases bs with
   | nil => simp only [dp, bL] at d; omega
   | cons A bs =>
    obtain ⟨hA, B, i, rfl, m, L, u⟩ := WB.two T t (by omega)
    have M : B.length = s := by
     rcases m with m | rfl
     ·exact m
     ·simp only [bP, dp, bJ, aF] at d; omega
    have w1 : wi0 .i64 (a + (s : Int)) = ((ds.flatten.length + A.length : Nat) : Int) := np _ (by omega) (by omega)
    obtain ⟨C, Y, Z, v⟩ := JW h Q hO q (by rw [rl]; omega) (by omega) (by omega) a _ b ha w1 (by omega)
    rw [Y, aA]
    have p := v.length_eq
    simp only [aF] at p
    have w2 : wi0 .i64 (2 * (s : Int)) = ((2 * s : Nat) : Int) := np _ (by omega) (by omega)
    have P : (ds ++ [C]).flatten.length = ds.flatten.length + 2 * s := by rw [NR]; omega
    have w3 : wi0 .i64 (b + ((2 * s : Nat) : Int)) = (((ds ++ [C]).flatten.length + 2 * s : Nat) : Int) := np _ (by omega) (by omega)
    have hp := Jh (ds := ds) (bs := i) v
    rw [w2, w3]
    obtain ⟨es, r, w, y, z, E, I, J⟩ := ih i (ds ++ [C]) n b _ (by simp at hk; omega) (by omega) Z (fun x W => q x (hp.mem_iff.1 W)) (by rw [hp.length_eq, j]) u (fun X g => by
     rcases aU.1 g with g | g
     ·exact l X g
     ·simp at g; rw [g]; omega) (by rw [P]; omega) rfl
    exact ⟨es, r, w, y, z.trans hp, E, I, J⟩
  ·simp only [hle, cD, aB, aI]
   refine ⟨ds, bs, by rw [ha], hO, .refl _, t, ?_, l⟩
   rw [cQ, aF] at j
   omega
theorem WB.GP {t : Nat} : ∀ {es : List (List (Formula × Nat))} {C : List (Formula × Nat)}, (∀ A ∈ es, A.length = t) → C.length ≤ t → WB t (es ++ [C])
 | [], C, _, a => ⟨a, fun h => absurd rfl h, trivial⟩
 | E :: es, C, h, a => ⟨by rw [h E (by simp)]; omega, fun _ => h E (by simp), WB.GP (fun A b => h A (by simp [b])) a⟩
theorem MP {s : Nat} {r : List (List (Formula × Nat))} {o : Nat} (b : WB s r) (d : r.flatten.length ≤ s) (hO : xu c o r) : oq (nq c) r.flatten ∧ ∀ x ∈ r.flatten, o ≤ x.2 ∧ x.2 < o + r.flatten.length := by
 cases r with
 | nil => exact ⟨.nil, fun x g => by cases g⟩
 | cons A r =>
  have : r.flatten = [] := by
   by_cases a : r = []
   ·rw [a]; rfl
   ·have := b.2.1 a
    rw [bP, aF] at d
    exact aW (by omega)
  rw [bP, this, bJ]
  exact ⟨hO.1, hO.2.1⟩
theorem OL (h : SWO (nq c)) (U : Cg f c G) (N : Nat) (hN : N ≤ 400000) : ∀ (k s : Nat) (bs : List (List (Formula × Nat))) (n : Nat), N - s ≤ k → k < n → 0 < s → s ≤ 1000000 → xu c 0 bs → (∀ x ∈ bs.flatten, G x.1) → bs.flatten.length = N → WB s bs →
  ∃ u, lV (N : Int) f n (fm bs) (s : Int) = some (u.map (·.1)) ∧ oq (nq c) u ∧ u.Perm bs.flatten := by
 intro k
 induction k with
 | zero =>
  intro s bs n hk hn I m hO l i b
  obtain ⟨n, rfl⟩ := aT (by omega : n ≠ 0)
  rw [lV]
  have : ¬ ((s : Int) < (N : Int)) := by omega
  simp only [this, cD, aB, aI]
  refine ⟨bs.flatten, rfl, ?_, .refl _⟩
  cases bs with
  | nil => exact .nil
  | cons A bs =>
   have : bs.flatten = [] := by
    by_cases d : bs = []
    ·rw [d]; rfl
    ·have := b.2.1 d
     rw [bP, aF] at i
     exact aW (by omega)
   rw [bP, this, bJ]
   exact hO.1
 | succ k ih =>
  intro s bs n hk hn I m hO l i b
  by_cases a8 : s < N
  ·obtain ⟨n, rfl⟩ := aT (by omega : n ≠ 0)
   rw [lV]
   have : ((s : Int) < (N : Int)) := by omega
   simp only [this, bY, aR]
   have w1 : wi0 .i64 (2 * (s : Int)) = ((2 * s : Nat) : Int) := np _ (by omega) (by omega)
   have w0 : wi0 .i64 ((s : Int) * 2) = ((2 * s : Nat) : Int) := np _ (by omega) (by omega)
   have a7 : bs.length ≤ 2000000 := by
    have : ∀ {bs : List (List (Formula × Nat))}, WB s bs → bs.length ≤ bs.flatten.length + 1 := by
     intro bs
     induction bs with
     | nil => intro _; simp
     | cons A bs J =>
      intro b
      by_cases d : bs = []
      ·subst d; simp
      ·have := b.2.1 d
       have := J b.2.2
       simp only [aK, bP, aF]
       omega
    have := this b
    omega
   obtain ⟨es, r, O, P, a, Q, R, T⟩ := P5 h U s I m N hN bs.length bs [] kd 0 ((2 * s : Nat) : Int) (aY _) (by rw [lX]; omega) (by simpa using hO) (by simpa using l) (by simpa using i) b (by simp) rfl (by simp)
   simp only [aV] at O a
   rw [w1, O, aA, w0]
   have j := a.length_eq
   rw [i, cQ, aF] at j
   have w2 : wi0 .i64 ((es.flatten.length : Int) + (s : Int)) = ((es.flatten.length + s : Nat) : Int) := np _ (by omega) (by omega)
   simp only [w2]
   by_cases hm : es.flatten.length + s < N
   ·have : (((es.flatten.length + s : Nat) : Int) < (N : Int)) := by omega
    simp only [this, bY, aR, ot]
    cases r with
    | nil => simp only [dp, bL] at j; omega
    | cons A r =>
     obtain ⟨hA, B, Z, rfl, q, a1, a6⟩ := WB.two I Q (by omega)
     have E : Z = [] := by
      rcases q with q | q
      ·by_cases hr : Z = []
       ·exact hr
       ·simp only [bP, aF] at R; omega
      ·exact q
     subst E
     simp only [bP, dp, bJ, aF] at j R
     obtain ⟨C, q1, W, Y⟩ := JW h U P (fun x p => l x (a.mem_iff.1 p)) (by rw [rl, a.length_eq]; omega) (by omega) (by omega) (es.flatten.length : Int) ((es.flatten.length + s : Nat) : Int) (N : Int) rfl (by omega) (by omega)
     rw [q1, aA]
     have v := Y.length_eq
     simp only [aF] at v
     have hp := (Jh (ds := es) (bs := []) Y).trans a
     simp only [bJ] at W hp ⊢
     obtain ⟨u, L, M, t⟩ := ih (2 * s) (es ++ [C]) n (by omega) (by omega) (by omega) (by omega) W (fun x p => l x (hp.mem_iff.1 p)) (by rw [hp.length_eq, i]) (WB.GP T (by omega))
     exact ⟨u, L, M, t.trans hp⟩
   ·have : ¬ (((es.flatten.length + s : Nat) : Int) < (N : Int)) := by omega
    simp only [this, cD, aB, aI, aA]
    obtain ⟨w, y⟩ := xu.append.1 P
    obtain ⟨b1, b2⟩ := MP Q (by omega) y
    have z : fm (es ++ r) = fm (es ++ [r.flatten]) := by simp [fm]
    have g : (es ++ [r.flatten]).flatten = (es ++ r).flatten := by simp
    rw [z]
    obtain ⟨u, L, M, t⟩ := ih (2 * s) (es ++ [r.flatten]) n (by omega) (by omega) (by omega) (by omega) (xu.append.2 ⟨w, b1, b2, trivial⟩) (fun x p => l x (a.mem_iff.1 (by rw [← g]; exact p))) (by rw [g, a.length_eq, i]) (WB.GP T (by omega))
    exact ⟨u, L, M, by rw [g] at t; exact t.trans a⟩
  ·obtain ⟨n, rfl⟩ := aT (by omega : n ≠ 0)
   rw [lV]
   have : ¬ ((s : Int) < (N : Int)) := by omega
   simp only [this, cD, aB, aI]
   refine ⟨bs.flatten, rfl, ?_, .refl _⟩
   cases bs with
   | nil => exact .nil
   | cons A bs =>
    have : bs.flatten = [] := by
     by_cases d : bs = []
     ·rw [d]; rfl
     ·have := b.2.1 d
      rw [bP, aF] at i
      exact aW (by omega)
    rw [bP, this, bJ]
    exact hO.1
theorem HE : ∀ (l : List Formula) (o : Nat), (l.zipIdx o).Pairwise (fun x y => x.2 < y.2)
 | [], o => by simp
 | x :: l, o => by
  rw [iT, cJ]
  refine ⟨fun y d => ?_, HE l (o + 1)⟩
  obtain ⟨a, b⟩ := y
  have := List.le_snd_of_mem_zipIdx d
  simp only at this ⊢; omega
theorem KM (l : List Formula) (o : Nat) : ∀ x ∈ l.zipIdx o, o ≤ x.2 ∧ x.2 < o + l.length := by
 rintro ⟨a, b⟩ d
 have h1 := List.le_snd_of_mem_zipIdx d
 have g := List.snd_lt_add_of_mem_zipIdx d
 simp only at h1 g ⊢; omega
theorem Nc (h : SWO (nq c)) (k : Cg f c G) (N : Nat) (s : N ≤ 300000) (R : List Formula) (ds : List (List (Formula × Nat))) (n : Nat) (a b : Int) (y : 0 < n) (hO : xu c 0 ds) (m : ∀ A ∈ ds, A.length = 20) (p : ∀ x ∈ ds.flatten, G x.1) (j : ∀ x ∈ R, G x) (w : ds.flatten.length + R.length = N) (q : R.length < 20) (ha : a = (ds.flatten.length : Int)) (t : b = ((ds.flatten.length + 20 : Nat) : Int)) :
  ∃ u, lW (N : Int) f n (fm ds ++ R) a b = some (u.map (·.1)) ∧ oq (nq c) u ∧ u.Perm (ds.flatten ++ R.zipIdx ds.flatten.length) := by
 obtain ⟨n, rfl⟩ := aT (by omega : n ≠ 0)
 rw [lW]
 have hle : ¬ (b ≤ (N : Int)) := by omega
 simp only [hle, cD, aB, aI, ot]
 obtain ⟨u, l, r, g⟩ := Lr h k (fm ds) [] (R.zipIdx ds.flatten.length) a (N : Int) (HE _ _) (fun x d => j x.1 (Fb d)) (by simp only [aF, rl, cP, eB, bL]; omega) (by rw [rl]; exact ha) (by rw [rl, eB]; omega)
 rw [List.zipIdx_map_fst, bJ, bJ] at l
 have i := g.length_eq
 rw [eB] at i
 have e : fm ds ++ u.map (·.1) = fm (ds ++ [u]) := by simp [fm]
 have hp : (ds ++ [u]).flatten.Perm (ds.flatten ++ R.zipIdx ds.flatten.length) := by
  rw [cQ]
  refine cC _ ?_
  simpa using g
 rw [l, aA, e]
 obtain ⟨v, v1, v2, v3⟩ := OL h k N (by omega) N 20 (ds ++ [u]) kd (by omega) (by rw [lX]; omega) (by omega) (by omega) (xu.append.2 ⟨hO, r, fun x d => by have := KM R ds.flatten.length x (g.mem_iff.1 d); omega, trivial⟩) (fun x d => by
  rw [cQ, aU] at d
  rcases d with d | d
  ·exact p x d
  ·simp only [bP, dp, bJ] at d
   exact j x.1 (Fb (g.mem_iff.1 d))) (by rw [hp.length_eq, aF, eB]; omega) (WB.GP m (by omega))
 exact ⟨v, v1, v2, v3.trans hp⟩
theorem OW (h : SWO (nq c)) (w : Cg f c G) (N : Nat) (E : N ≤ 300000) : ∀ (k : Nat) (R : List Formula) (ds : List (List (Formula × Nat))) (n : Nat) (a b : Int), R.length ≤ k → k < n → xu c 0 ds → (∀ A ∈ ds, A.length = 20) → (∀ x ∈ ds.flatten, G x.1) → (∀ x ∈ R, G x) → ds.flatten.length + R.length = N →
  a = (ds.flatten.length : Int) → b = ((ds.flatten.length + 20 : Nat) : Int) →
  ∃ u, lW (N : Int) f n (fm ds ++ R) a b = some (u.map (·.1)) ∧ oq (nq c) u ∧ u.Perm (ds.flatten ++ R.zipIdx ds.flatten.length) := by
 intro k
 induction k with
 | zero =>
  intro R ds n a b hk I hO p q j r ha t
  obtain rfl := aW (Nat.le_zero.1 hk)
  exact Nc h w N E [] ds n a b I hO p q j r (by simp) ha t
 | succ k ih =>
  intro R ds n a b hk I hO p q j r ha t
  by_cases z : R.length < 20
  ·exact Nc h w N E R ds n a b (by omega) hO p q j r z ha t
  obtain ⟨n, rfl⟩ := aT (by omega : n ≠ 0)
  obtain ⟨R1, R2, rfl, m⟩ := wB (l := R) (n := 20) (by omega)
  rw [aF] at r hk
  rw [lW]
  have hle : b ≤ (N : Int) := by omega
  simp only [hle, bY, aR]
  obtain ⟨u, J, L, s⟩ := Lr h w (fm ds) R2 (R1.zipIdx ds.flatten.length) a b (HE _ _) (fun x d => j x.1 (by simp [Fb d])) (by simp only [aF, rl, cP, eB, bL]; omega) (by rw [rl]; exact ha) (by rw [rl, eB]; omega)
  rw [List.zipIdx_map_fst] at J
  rw [J, aA]
  have g := s.length_eq
  rw [eB, m] at g
  have y : (ds ++ [u]).flatten.length = ds.flatten.length + 20 := by rw [NR, g]
  have M : wi0 .i64 (b + 20) = (((ds ++ [u]).flatten.length + 20 : Nat) : Int) := np _ (by omega) (by omega)
  have e : fm ds ++ (u.map (·.1) ++ R2) = fm (ds ++ [u]) ++ R2 := by simp [fm]
  rw [e, M]
  obtain ⟨v, v1, v2, v3⟩ := ih R2 (ds ++ [u]) n b _ (by omega) (by omega) (xu.append.2 ⟨hO, L, fun x d => by have := KM R1 ds.flatten.length x (s.mem_iff.1 d); omega, trivial⟩) (fun A i => by
   rcases aU.1 i with i | i
   ·exact p A i
   ·simp at i; rw [i]; exact g) (fun x d => by
   rw [cQ, aU] at d
   rcases d with d | d
   ·exact q x d
   ·simp only [bP, dp, bJ] at d
    exact j x.1 (by simp [Fb (s.mem_iff.1 d)])) (fun x d => j x (by simp [d])) (by omega) (by omega) rfl
  refine ⟨v, v1, v2, v3.trans ?_⟩
  rw [y, cQ, List.zipIdx_append, m, aJ]
  refine cC _ ?_
  simp only [bP, dp, bJ]
  exact s.append_right _
theorem LS (h : SWO (nq c)) (g : Cg f c G) (l : List Formula) (d : ∀ x ∈ l, G x) (i : l.length ≤ 300000) : oO l f = some (J0 (nq c) l) := by
 unfold oO qU
 obtain ⟨u, a, j, b⟩ := OW h g l.length i l.length l [] kd 0 20 (aY _) (by rw [lX]; omega) trivial (by simp) (by simp) d (by simp) rfl rfl
 simp only [fm, dp, eG, aV, bL] at a b
 rw [a, aA, Qv h j b]
end
theorem I4 {P : Formula → Prop} (h : ∀ f, (∀ k ∈ f.Kids, P k) → P f) : ∀ f, P f := by
 intro f
 refine Formula.rec (motive_1 := P) (motive_2 := fun ks => ∀ k ∈ ks, P k) ?_ ?_ ?_ f
 ·intro o k r ks ih; exact h _ ih
 ·intro k hk; cases hk
 ·intro k ks h1 b x a
  rcases aP.1 a with rfl | a
  ·exact h1
  ·exact b x a
mutual
def kx : Formula → Nat
 | ⟨_, _, _, ks⟩ => 1 + nodesL ks
def nodesL : List Formula → Nat
 | [] => 0
 | k :: ks => kx k + nodesL ks
end
mutual
def nJ : Formula → Nat
 | ⟨_, _, _, ks⟩ => deepL ks + 1
def deepL : List Formula → Nat
 | [] => 0
 | k :: ks => max (nJ k) (deepL ks)
end
theorem nU (f : Formula) : kx f = 1 + nodesL f.Kids := by cases f; rw [kx]
theorem mF (f : Formula) : nJ f = deepL f.Kids + 1 := by cases f; rw [nJ]
theorem tD : ∀ {ks : List Formula} {k : Formula}, k ∈ ks → kx k ≤ nodesL ks
 | x :: ks, k, h => by
  rw [nodesL]
  rcases aP.1 h with rfl | h
  ·omega
  ·have := tD h; omega
theorem qK : ∀ {ks : List Formula} {k : Formula}, k ∈ ks → nJ k ≤ deepL ks
 | x :: ks, k, h => by
  rw [deepL]
  rcases aP.1 h with rfl | h
  ·omega
  ·have := qK h; omega
theorem xh : ∀ f : Formula, nJ f ≤ kx f := by
 refine I4 fun f ih => ?_
 rw [mF, nU]
 have : ∀ ks : List Formula, (∀ k ∈ ks, nJ k ≤ kx k) → deepL ks ≤ nodesL ks := by
  intro ks
  induction ks with
  | nil => intro _; rw [deepL]; omega
  | cons k ks a =>
   intro h
   have := a (fun x b => h x (by simp [b]))
   have := h k (by simp)
   rw [deepL, nodesL]; omega
 have := this f.Kids ih
 omega
theorem pM : ∀ ks : List Formula, ks.length ≤ nodesL ks
 | [] => by rw [nodesL]; simp
 | k :: ks => by have := pM ks; have := nU k; rw [nodesL, aK]; omega
theorem ML (a : Nat) (hm : a ≤ 4096) (rec : Formula → Int → Option (Int × Int)) : ∀ (ks : List Formula), (∀ k ∈ ks, ∀ q : Nat, q ≤ 4096 → ∃ n d : Nat, rec k (q : Int) = some ((n : Int), (d : Int)) ∧ 1 ≤ n ∧ n ≤ kx k ∧ d ≤ kx k ∧ (kx k ≤ q → n = kx k ∧ d = nJ k) ∧ (q < kx k → q < n)) → ∀ x y : Nat, x + nodesL ks ≤ 100000000 →
  ∃ n d : Nat, pt (a : Int) rec ks (x : Int) (y : Int) = some ((n : Int), (d : Int)) ∧ x ≤ n ∧ n ≤ x + nodesL ks ∧ d ≤ max y (nodesL ks) ∧ (x + nodesL ks ≤ a → n = x + nodesL ks ∧ d = max y (deepL ks)) ∧ (a < x + nodesL ks → a < n)
 | [], _, x, y, _ => by
  rw [pt, nodesL, deepL]
  exact ⟨x, y, rfl, by omega, by omega, by omega, fun _ => ⟨by omega, by omega⟩, fun h => by omega⟩
 | k :: ks, g, x, y, p => by
  rw [nodesL] at p ⊢
  rw [pt, deepL]
  by_cases i : (x : Int) > (a : Int)
  ·simp only [i, bY, aR]
   exact ⟨x, y, rfl, by omega, by omega, by omega, fun _ => by omega, fun h => by omega⟩
  ·simp only [i, cD, aB, aI]
   have s : wi0 .i64 ((a : Int) - (x : Int)) = ((a - x : Nat) : Int) := by rw [ko (by omega) (by omega)]; omega
   obtain ⟨m, d, e, h1, v, w, b, l⟩ := g k (by simp) (a - x) (by omega)
   rw [s, e, aA]
   have t : wi0 .i64 ((x : Int) + (m : Int)) = ((x + m : Nat) : Int) := by rw [ko (by omega) (by omega)]; omega
   have u : (if (d : Int) > (y : Int) then (d : Int) else (y : Int)) = ((max y d : Nat) : Int) := by split <;> omega
   simp only [t, u]
   obtain ⟨n, j, e', g1, g2, g3, g4, g5⟩ := ML a hm rec ks (fun z r => g z (by simp [r])) (x + m) (max y d) (by omega)
   refine ⟨n, j, e', by omega, by omega, by omega, fun h => ?_, fun h => ?_⟩
   ·obtain ⟨rfl, rfl⟩ := b (by omega)
    obtain ⟨rfl, rfl⟩ := g4 (by omega)
    exact ⟨by omega, by omega⟩
   ·by_cases hk : a - x < kx k
    ·have := l hk; omega
    ·obtain ⟨rfl, _⟩ := b (by omega)
     exact g5 (by omega)
theorem OZ : ∀ (n : Nat) (f : Formula), nJ f ≤ n → kx f ≤ 50000000 → ∀ q : Nat, q ≤ 4096 → ∃ m d : Nat, oh n f (q : Int) = some ((m : Int), (d : Int)) ∧ 1 ≤ m ∧ m ≤ kx f ∧ d ≤ kx f ∧ (kx f ≤ q → m = kx f ∧ d = nJ f) ∧ (q < kx f → q < m) := by
 intro n
 induction n with
 | zero => intro f h; rw [mF] at h; omega
 | succ n ih =>
  intro f i s q a
  rw [mF] at i
  have j := nU f
  rw [oh]
  unfold vz
  obtain ⟨m, d, e, h1, p, r, b, g⟩ := ML q a (oh n) f.Kids (fun k hk q a => ih k (by have := qK hk; omega) (by have := tD hk; omega) q a) 1 0 (by omega)
  have e' : pt (q : Int) (oh n) f.Kids 1 0 = some ((m : Int), (d : Int)) := e
  rw [e', aA]
  have l : wi0 .i64 ((d : Int) + 1) = ((d + 1 : Nat) : Int) := by rw [ko (by omega) (by omega)]; omega
  simp only [l]
  refine ⟨m, d + 1, rfl, h1, by omega, by omega, fun h => ?_, fun h => g (by omega)⟩
  obtain ⟨rfl, rfl⟩ := b (by omega)
  rw [mF]
  exact ⟨by omega, by omega⟩
theorem Qo (f : Formula) (g : kx f ≤ 50000000) : xd f = some (if kx f ≤ 4096 then ((kx f : Int), (nJ f : Int)) else (0, 0)) := by
 unfold xd
 have := xh f
 obtain ⟨m, d, e, h1, i, j, a, b⟩ := OZ kd f (by rw [lX]; omega) g 4096 (aY _)
 have e' : oh kd f 4096 = some ((m : Int), (d : Int)) := e
 rw [e', aA]
 by_cases h : kx f ≤ 4096
 ·obtain ⟨rfl, rfl⟩ := a h
  have : ¬ ((kx f : Int) > 4096) := by omega
  simp [this, h]
 ·have := b (by omega)
  have : ((m : Int) > 4096) := by omega
  simp [this, h]
def pO : jr := ⟨zS, zS⟩
def Dn (f : Formula) : Bool := if f.Op = 1 then lZ f.jr && decide (f.Kids.length = 0) && decide (f.K = 0) else if f.Op = 2 ∨ f.Op = 3 then jQ f.jr pO && decide (f.K = 0) else decide (f.Op = 4) && jQ f.jr pO && decide (0 ≤ f.K) && decide (f.K ≤ (f.Kids.length : Int)) && decide (1 ≤ f.Kids.length)
theorem QB (f : Formula) : xb f = some (Dn f) := by
 unfold xb Dn
 simp only [yK, aA, ot]
 by_cases h1 : f.Op = 1
 ·simp only [h1, aX, aR]
  cases p : lZ f.jr
  ·simp
  ·by_cases k : f.Kids.length = 0
   ·have : f.Kids = [] := aW k
    by_cases hk : f.K = 0 <;> simp [this, hk]
   ·have : ((f.Kids.length : Int) == 0) = false := by simp; intro h; exact k (by simp [h])
    simp only [aR, aA, this, aB, aI, k, cD, iG, fV]
 ·have m : (f.Op == 1) = false := by simpa using h1
  simp only [m, aB, aI, h1]
  by_cases d : f.Op = 2 ∨ f.Op = 3
  ·have i : (if f.Op == 2 then some (f.Op == 2) else some (f.Op == 3)) = some true := by
    rcases d with h | h <;> simp [h]
   simp only [i, aA, aR, d]
   cases g : jQ f.jr ⟨zS, zS⟩ <;> by_cases hk : f.K = 0 <;> simp [pO, g, hk]
  ·have i : (if f.Op == 2 then some (f.Op == 2) else some (f.Op == 3)) = some false := by
    have a : f.Op ≠ 2 := fun h => d (.inl h)
    have b : f.Op ≠ 3 := fun h => d (.inr h)
    simp [a, b]
   simp only [i, aA, aB, aI, d]
   by_cases j : f.Op = 4
   ·simp only [j, aX, aR, aA, bY, dO]
    cases g : jQ f.jr ⟨zS, zS⟩
    ·simp [pO, g]
    ·by_cases c1 : 0 ≤ f.K <;> by_cases c2 : f.K ≤ (f.Kids.length : Int) <;> by_cases l : 1 ≤ f.Kids.length <;> simp [pO, g, c1, c2, l] <;> omega
   ·have n : (f.Op == 4) = false := by simpa using j
    simp [n, j]
mutual
def tp : Formula → Bool
 | ⟨o, n, r, ks⟩ => Dn ⟨o, n, r, ks⟩ && decide (ks.length ≤ 8) && wellL ks
def wellL : List Formula → Bool
 | [] => true
 | k :: ks => tp k && wellL ks
end
theorem F2 (f : Formula) : tp f = (Dn f && decide (f.Kids.length ≤ 8) && wellL f.Kids) := by cases f; rw [tp]
theorem EE : ∀ ks : List Formula, wellL ks = ks.all tp
 | [] => rfl
 | k :: ks => by rw [wellL, EE ks]; rfl
theorem JB (f : Formula → Option Bool) : ∀ (l : List Formula) (i : Nat), nh f l i = zg f l i
 | [], i => by rw [nh]; rfl
 | x :: l, i => by
  rw [nh, zg]
  cases f x with
  | none => rfl
  | some b =>
   simp only [aA]
   rw [JB f l (i + 1)]
theorem Fu (f : Formula → Option Bool) (p : Formula → Bool) (l : List Formula) (h : ∀ x ∈ l, f x = some (p x)) : nS l f = some (l.any p) := by
 unfold nS sS
 rw [JB]
 rcases De f p l 0 h with ⟨e, h1⟩ | ⟨A, x, B, rfl, h1, a, e⟩
 ·rw [e, aA]
  have : l.any p = false := by rw [List.any_eq_false]; intro x b; rw [h1 x b]; simp
  rw [this]; rfl
 ·rw [e, aA]
  have : (A ++ x :: B).any p = true := by simp [a]
  rw [this]
  congr 1
theorem Oo : ∀ (n : Nat) (f : Formula), nJ f ≤ n → qZ n f = some (tp f) := by
 intro n
 induction n with
 | zero => intro f h; rw [mF] at h; omega
 | succ n ih =>
  intro f h
  rw [mF] at h
  rw [qZ]
  unfold vB
  rw [QB, aA, F2, Fu _ (fun k => !tp k) f.Kids (fun k hk => by unfold uz; rw [ih k (by have := qK hk; omega)]; rfl)]
  rw [EE]
  have e : (!(f.Kids.any fun k => !tp k)) = f.Kids.all tp := by rw [List.all_eq_not_any_not]
  cases Dn f
  ·rfl
  ·by_cases a : f.Kids.length ≤ 8
   ·have : ((f.Kids.length : Int) ≤ 8) := by omega
    simp [a, this, e]
   ·have : ¬ ((f.Kids.length : Int) ≤ 8) := by omega
    simp [a, this]
def nB (f : Formula) : Bool := decide (kx f ≤ 64) && decide (nJ f ≤ 6) && tp f
theorem DC (f : Formula) (b : kx f ≤ 50000000) : qY f = some (nB f) := by
 unfold qY nB
 have d := xh f
 rw [Qo f b, aA, Oo kd f (by rw [lX]; omega)]
 have h1 := nU f
 by_cases h : kx f ≤ 4096
 ·simp only [h, aR]
  have a : ((kx f : Int) ≥ 1) := by omega
  simp only [a, bY, aR, aA, ot]
  by_cases c1 : kx f ≤ 64 <;> by_cases c2 : nJ f ≤ 6
  ·have d1 : ((kx f : Int) ≤ 64) := by omega
   have d2 : ((nJ f : Int) ≤ 6) := by omega
   simp [c1, c2, d1, d2]
  ·have d1 : ((kx f : Int) ≤ 64) := by omega
   have d2 : ¬ ((nJ f : Int) ≤ 6) := by omega
   simp [c1, c2, d1, d2]
  ·have d1 : ¬ ((kx f : Int) ≤ 64) := by omega
   simp [c1, d1]
  ·have d1 : ¬ ((kx f : Int) ≤ 64) := by omega
   simp [c1, d1]
 ·simp only [h, aI]
  have : ¬ kx f ≤ 64 := by omega
  simp [this]
theorem Formula.ext' {a b : Formula} (h1 : a.Op = b.Op) (d : a.K = b.K) (g : a.jr = b.jr) (h : a.Kids = b.Kids) : a = b := by
 cases a; cases b; simp only at h1 d g h; subst h1 d g h; rfl
theorem NO (g : Formula × Formula → Option Bool) : ∀ (l m : List Formula), l.length = m.length → (∀ x ∈ l, ∀ y, ∃ b, g (x, y) = some b ∧ (b = true ↔ x = y)) → ∀ (A : List Formula),
  ∃ b, kV (A ++ m) g l A.length = some b ∧ (b = true ↔ l = m)
 | [], m, d, _, A => by
  obtain rfl := aW d.symm
  exact ⟨true, rfl, by simp⟩
 | x :: l, [], d, _, A => by simp at d
 | x :: l, y :: m, d, i, A => by
  rw [kV]
  obtain ⟨b, e, h⟩ := i x (by simp) y
  have i1 : lE (A ++ y :: m) (A.length : Int) = some y := mL _ _ _ _ rfl
  rw [i1, aA, e, aA]
  cases b with
  | false =>
   refine ⟨false, rfl, ?_⟩
   have : x ≠ y := fun a => by have := h.2 a; simp at this
   simp [this]
  | true =>
   have a := h.1 rfl
   obtain ⟨b, j, p⟩ := NO g l m (by simpa using d) (fun z q => i z (by simp [q])) (A ++ [y])
   simp only [cI, aB, aI]
   have k : A ++ y :: m = (A ++ [y]) ++ m := by simp
   have n : A.length + 1 = (A ++ [y]).length := by simp
   rw [k, n, j]
   exact ⟨b, rfl, by rw [p]; simp [a]⟩
theorem P3 : ∀ (n : Nat) (f : Formula), nJ f ≤ n → ∀ g, ∃ b, nX n f g = some b ∧ (b = true ↔ f = g) := by
 intro n
 induction n with
 | zero => intro f h; rw [mF] at h; omega
 | succ n ih =>
  intro f h g
  rw [mF] at h
  rw [nX]
  unfold wc
  by_cases h1 : f.Op = g.Op
  ·by_cases a : f.K = g.K
   ·by_cases d : f.jr = g.jr
    ·have j : jQ f.jr g.jr = true := jR.2 d
     simp only [h1, a, j, aX, aR, aA]
     unfold mD
     by_cases i : f.Kids.length = g.Kids.length
     ·have : ((f.Kids.length : Int) != (g.Kids.length : Int)) = false := by simp [i]
      simp only [this, aB, aI]
      obtain ⟨b, e, m⟩ := NO (fun x => nX n x.1 x.2) f.Kids g.Kids i (fun x p y => ih x (by have := qK p; omega) y) []
      simp only [aV, bL] at e
      rw [e]
      refine ⟨b, by simp, m.trans ⟨fun hk => Formula.ext' h1 a d hk, fun hk => by rw [hk]⟩⟩
     ·have : ((f.Kids.length : Int) != (g.Kids.length : Int)) = true := by simp; omega
      simp only [this, aR]
      exact ⟨false, rfl, by simp; intro hk; rw [hk] at i; exact i rfl⟩
    ·have j : jQ f.jr g.jr = false := by rw [← eC, jR]; exact d
     simp only [h1, a, j, aX, aR, aA, aB, aI]
     exact ⟨false, rfl, by simp; intro hk; rw [hk] at d; exact d rfl⟩
   ·have l : (f.K == g.K) = false := by simpa using a
    simp only [h1, l, aX, aR, aA, aB, aI]
    exact ⟨false, rfl, by simp; intro hk; rw [hk] at a; exact a rfl⟩
  ·have k : (f.Op == g.Op) = false := by simpa using h1
   simp only [k, aA, aB, aI]
   exact ⟨false, rfl, by simp; intro hk; rw [hk] at h1; exact h1 rfl⟩
def ru {α : Type} (R : α → Bool) (lt : α → α → Bool) (last : Option α) : List α → Bool → α → Bool × α
 | [], ok, b => (ok, b)
 | x :: xs, ok, b => if R x && last.all (fun y => lt y x) && (!ok || lt x b) then ru R lt last xs true x else ru R lt last xs ok b
def zY {α : Type} (w : Nat) (R : α → Bool) (lt : α → α → Bool) (d : α) (l : List α) : Nat → List α → Option (List α)
 | 0, _ => none
 | n + 1, out => if !(ru R lt out.getLast? l false d).1 then some out else (mn w out [(ru R lt out.getLast? l false d).2]).bind fun o => zY w R lt d l n o
section
variable {α : Type} {R : α → Bool} {lt : α → α → Bool}
theorem EO (H : Af (fun a b => lt a b = true) (fun x => R x = true)) (last : Option α) : ∀ (l : List α) (ok : Bool) (b : α), (ok = true → R b = true ∧ last.all (fun y => lt y b) = true) →
  ((ru R lt last l ok b).1 = false → ok = false ∧ ∀ x ∈ l, R x = true → last.all (fun y => lt y x) = false) ∧
  ((ru R lt last l ok b).1 = true → R (ru R lt last l ok b).2 = true ∧ last.all (fun y => lt y (ru R lt last l ok b).2) = true ∧ ((ru R lt last l ok b).2 ∈ l ∨ (ok = true ∧ (ru R lt last l ok b).2 = b)) ∧
   (∀ x ∈ l, R x = true → last.all (fun y => lt y x) = true → lt x (ru R lt last l ok b).2 = false) ∧ (ok = true → lt b (ru R lt last l ok b).2 = false))
 | [], ok, b, k => by
  simp only [ru]
  exact ⟨fun h => ⟨h, by simp⟩, fun h => ⟨(k h).1, (k h).2, .inr ⟨h, trivial⟩, by simp, fun _ => by
   cases n : lt b b with
   | false => rfl
   | true => exact absurd n (H.irrefl b (k h).1)⟩⟩
 | x :: xs, ok, b, k => by
  rw [ru]
  by_cases m : (R x && last.all (fun y => lt y x) && (!ok || lt x b)) = true
  ·rw [bD m]
   simp only [bF, fL, fj] at m
   obtain ⟨⟨E, t⟩, u⟩ := m
   obtain ⟨h1, s⟩ := EO H last xs true x (fun _ => ⟨E, t⟩)
   refine ⟨fun h => ?_, fun h => ?_⟩
   ·cases (h1 h).1
   ·obtain ⟨q, a2, a3, a4, a5⟩ := s h
    refine ⟨q, a2, ?_, ?_, ?_⟩
    ·rcases a3 with a3 | ⟨_, a3⟩
     ·exact .inl (by simp [a3])
     ·exact .inl (by rw [a3]; simp)
    ·intro y i d g
     rcases aP.1 i with rfl | i
     ·exact a5 rfl
     ·exact a4 y i d g
    ·intro j
     cases n : lt b (ru R lt last xs true x).2 with
     | false => rfl
     | true =>
      have v : lt x b = true := by rcases u with h | h; rw [j] at h; cases h; exact h
      have := H.trans x b _ E (k j).1 q v n
      simp only [a5 rfl] at this
      cases this
  ·rw [bB m]
   obtain ⟨h1, s⟩ := EO H last xs ok b k
   refine ⟨fun h => ⟨(h1 h).1, fun y i d => ?_⟩, fun h => ?_⟩
   ·rcases aP.1 i with rfl | i
    ·have j := (h1 h).1
     cases t : last.all (fun z => lt z y) with
     | false => rfl
     | true => exact absurd (by simp [d, t, j]) m
    ·exact (h1 h).2 y i d
   ·obtain ⟨q, a2, a3, a4, a5⟩ := s h
    refine ⟨q, a2, ?_, ?_, a5⟩
    ·rcases a3 with a3 | a3
     ·exact .inl (by simp [a3])
     ·exact .inr a3
    ·intro y i d g
     rcases aP.1 i with rfl | i
     ·cases n : lt y (ru R lt last xs ok b).2 with
      | false => rfl
      | true =>
       cases ok with
       | false => exact absurd (by simp [d, g]) m
       | true =>
        have w : lt y b = false := by
         cases G : lt y b with
         | false => rfl
         | true => exact absurd (by simp [d, g, G]) m
        have r := k rfl
        rcases H.total y b d r.1 with p | p | p
        ·rw [w] at p; cases p
        ·subst p; rw [a5 rfl] at n; cases n
        ·have := H.trans b y _ r.1 d q p n
         simp only [a5 rfl] at this
         cases this
     ·exact a4 y i d g
theorem uN (H : Af (fun a b => lt a b = true) (fun x => R x = true)) {l : List α} (g : ∀ x ∈ l, R x = true) (h : l.Pairwise (fun a b => lt a b = true)) : l.Nodup := by
 refine h.imp_of_mem (fun {a b} ha i d e => ?_)
 subst e
 exact H.irrefl a (g a ha) d
theorem lQ : ∀ {l m : List α}, l.Nodup → (∀ x ∈ l, x ∈ m) → l.length ≤ m.length
 | [], _, _, _ => by simp
 | x :: l, m, g, b => by
  obtain ⟨A, B, rfl⟩ := List.append_of_mem (b x (by simp))
  have a := cV.1 g
  have := lQ (l := l) (m := A ++ B) a.2 (fun y d => by
   have := b y (dq _ d)
   simp only [aU, aP] at this ⊢
   rcases this with h | h | h
   ·exact .inl h
   ·subst h; exact absurd d a.1
   ·exact .inr h)
  simp at this ⊢; omega
theorem Bz (H : Af (fun a b => lt a b = true) (fun x => R x = true)) {w : Nat} (hw : w ≤ 1000) (d : α) (l : List α) (L : l.length ≤ 1000000000) : ∀ (n : Nat) (out : List α), l.length < n + out.length → out.Pairwise (fun a b => lt a b = true) → (∀ x ∈ out, x ∈ l ∧ R x = true) →
  (∀ x ∈ l, R x = true → x ∈ out ∨ out.getLast?.all (fun y => lt y x) = true) → ∃ s, zY w R lt d l n out = some s ∧ wx (fun a b => lt a b = true) (fun x => R x = true) l s
 | 0, out, M, hp, hm, v => by
  exfalso
  have := lQ (uN H (fun x g => (hm x g).2) hp) (fun x g => (hm x g).1)
  omega
 | n + 1, out, M, hp, hm, v => by
  rw [zY]
  obtain ⟨h1, I⟩ := EO H out.getLast? l false d (fun h => by cases h)
  have hlen := lQ (uN H (fun x g => (hm x g).2) hp) (fun x g => (hm x g).1)
  cases G : (ru R lt out.getLast? l false d).1 with
  | false =>
   rw [bD (by simp)]
   refine ⟨out, rfl, hp, fun x => ⟨hm x, fun g => ?_⟩⟩
   rcases v x g.1 g.2 with h | h
   ·exact h
   ·rw [(h1 G).2 x g.1 g.2] at h; cases h
  | true =>
   rw [bB (by simp)]
   obtain ⟨t, a2, a3, a4, _⟩ := I G
   generalize (ru R lt out.getLast? l false d).2 = b at *
   have u : b ∈ l := by rcases a3 with h | ⟨h, _⟩; exact h; cases h
   have q : ∀ y ∈ out, lt y b = true := by
    intro y i
    obtain ⟨A, z, rfl⟩ : ∃ A z, out = A ++ [z] := by
     rcases dl out with h | ⟨A, z, h⟩
     ·subst h; cases i
     ·exact ⟨A, z, by rw [h]; simp⟩
    simp at a2
    rcases aU.1 i with i | i
    ·have E : lt y z = true := (cR.1 hp).2.2 y i z (by simp)
     exact H.trans y z b (hm y (by simp [i])).2 (hm z (by simp)).2 t E a2
    ·simp at i; subst i; exact a2
   have r : (out ++ [b]).Pairwise (fun a b => lt a b = true) := cR.2 ⟨hp, by simp, fun x g y i => by simp at i; subst i; exact q x g⟩
   have m : ∀ x ∈ out ++ [b], x ∈ l ∧ R x = true := fun x g => by
    rcases aU.1 g with g | g
    ·exact hm x g
    ·simp at g; subst g; exact ⟨u, t⟩
   have k := lQ (uN H (fun x g => (m x g).2) r) (fun x g => (m x g).1)
   simp at k
   rw [me (by simp only [aK, bL]; have : (out.length + (0 + 1)) * w ≤ 1000000000 * 1000 := Nat.mul_le_mul (by omega) hw; omega) (by simp; omega)]
   simp only [aA]
   refine Bz H hw d l L n (out ++ [b]) (by simp; omega) r m (fun x g j => ?_)
   rcases v x g j with h | h
   ·exact .inl (by simp [h])
   ·have J := a4 x g j h
    rcases H.total x b j t with p | p | p
    ·rw [J] at p; cases p
    ·subst p; exact .inl (by simp)
    ·exact .inr (by simp [p])
end
theorem F5 {α : Type} (A : List α) (x : α) (a : A.length < 4611686018427387904) : lE (A ++ [x]) (wi0 .i64 (((A ++ [x]).length : Int) - 1)) = some x := by
 rw [ko (by simp; try omega) (by simp; try omega)]
 rw [mL A x [] _ (by simp; try omega)]
theorem FX (out : List js) (k : out.length < 4611686018427387904) : ∀ (l : List js) (ok : Bool) (b : js), rO out l ok b = some (ru lK AV out.getLast? l ok b)
 | [], ok, b => rfl
 | x :: xs, ok, b => by
  rw [rO, ru]
  have cmp : ∀ a b, ∃ c, sO a b = some c ∧ decide (c < 0) = AV a b := fun a b => by
   obtain ⟨c, h1, j⟩ := En a b
   exact ⟨c, h1, by rw [bU, ← j]; simp⟩
  rw [AS, FX out k xs true x, FX out k xs ok b]
  obtain ⟨c, h1, j⟩ := cmp x b
  rcases dl out with h | ⟨A, z, h⟩
  ·subst h
   simp only [h1, aA, j, bL, Option.all, List.getLast?_nil]
   generalize AV x b = p
   cases lK x <;> cases ok <;> cases p <;> simp
  ·have i : out = A ++ [z] := by rw [h]; simp
   obtain ⟨t, r, s⟩ := cmp z x
   have d : out.getLast? = some z := by rw [i]; simp
   have g : lE out (wi0 .i64 ((out.length : Int) - 1)) = some z := by rw [i]; exact F5 A z (by rw [i] at k; simp at k; omega)
   have m : ((out.length : Int) == 0) = false := by rw [i]; simp; omega
   rw [d]
   simp only [m, g, r, h1, aA, j, s, Option.all]
   rcases dU (AV x b) with hp | hp <;> rcases dU (AV z x) with n | n <;> rcases dU (lK x) with q | q <;> cases ok <;> simp [hp, n, q]
theorem TT (a b : ByteArray) : (!(qe a b || kU a b)) = qe b a := by
 rcases zP a b with h | h | h
 ·simp [h, Ii h]
 ·subst h; simp [vx, th]
 ·have d := Ii h
  have g : kU a b = false := KT (by rintro rfl; rw [th] at h; cases h)
  simp [h, d, g]
theorem M6 {s : ByteArray} (h : nr s = true) : kU s zS = false := KT (fun e => by have := om h; rw [e, QC] at this; omega)
theorem FR (out : List ByteArray) (m : out.length < 4611686018427387904) : ∀ (l : List ByteArray) (b : ByteArray),
  ∃ n, rW out l b = some n ∧ (ru nr qe out.getLast? l (!kU b zS) b) = (!kU n zS, n)
 | [], b => ⟨b, rfl, rfl⟩
 | x :: xs, b => by
  rw [rW, ru]
  obtain ⟨w, u, d⟩ := FR out m xs x
  obtain ⟨y, v, j⟩ := FR out m xs b
  rw [yf, u, v]
  by_cases i : nr x = true
  ·rw [M6 i] at d
   simp only [dt] at d
   rcases dl out with h | ⟨A, z, h⟩
   ·subst h
    simp only [aA, bL, Option.all, List.getLast?_nil, i] at *
    rw [d, j]
    generalize qe x b = p
    generalize kU b zS = q
    cases p <;> cases q <;> simp
   ·have k : out = A ++ [z] := by rw [h]; simp
    have a : out.getLast? = some z := by rw [k]; simp
    have g : lE out (wi0 .i64 ((out.length : Int) - 1)) = some z := by rw [k]; exact F5 A z (by rw [k] at m; simp at m; omega)
    have r : ((out.length : Int) == 0) = false := by rw [k]; simp; omega
    rw [a] at d j ⊢
    simp only [r, g, aA, Option.all, TT, i]
    rw [d, j]
    rcases dU (qe x b) with hp | hp <;> rcases dU (qe z x) with s | s <;> rcases dU (kU b zS) with t | t <;> simp [hp, s, t]
  ·simp only [eC] at i
   rw [i, j]
   simp
theorem Pf (a : List js) : ∀ (n : Nat) (out s : List js), zY 136 lK AV (⟨0, ⟨zS, zS⟩, zS, ⟨zS, zS⟩, ⟨zS, zS⟩, zS⟩ : js) a n out = some s → s.length < 4611686018427387904 → tI a n out = some s ∧ out.length ≤ s.length
 | 0, out, s, h, _ => by cases h
 | n + 1, out, s, h, i => by
  rw [zY] at h
  rw [tI]
  have key : out.length ≤ s.length → rO out a false (⟨0, ⟨zS, zS⟩, zS, ⟨zS, zS⟩, ⟨zS, zS⟩, zS⟩ : js) = _ := fun k => FX out (by omega) a false _
  split at h
  ·rename_i h1
   cases h
   rw [key (aY _)]
   simp only [aA]
   rw [bD h1]
   exact ⟨rfl, aY _⟩
  ·rename_i h1
   obtain ⟨o, b, d⟩ := bind_some h
   have g := Pf a n o s d i
   have j : out.length + 1 = o.length := by
    unfold mn at b; split at b
    ·cases b; simp
    ·cases b
   rw [key (by omega)]
   simp only [aA]
   rw [bB h1, b]
   exact ⟨g.1, by omega⟩
theorem PD (a : List ByteArray) : ∀ (n : Nat) (out s : List ByteArray), zY 16 nr qe zS a n out = some s → s.length < 4611686018427387904 → tK a n out = some s ∧ out.length ≤ s.length
 | 0, out, s, h, _ => by cases h
 | n + 1, out, s, h, k => by
  rw [zY] at h
  rw [tK]
  have key : out.length ≤ s.length → ∃ d, rW out a zS = some d ∧ ru nr qe out.getLast? a false zS = (!kU d zS, d) := fun m => by
   have := FR out (by omega) a zS
   rw [vx] at this
   exact this
  split at h
  ·rename_i h1
   cases h
   obtain ⟨d, g, k2⟩ := key (aY _)
   rw [g]
   rw [k2] at h1
   simp only [aA]
   rw [bD (by simpa using h1)]
   exact ⟨rfl, aY _⟩
  ·rename_i h1
   obtain ⟨o, b, i⟩ := bind_some h
   have j := PD a n o s i k
   have l : out.length + 1 = o.length := by
    unfold mn at b; split at b
    ·cases b; simp
    ·cases b
   obtain ⟨d, g, k2⟩ := key (by omega)
   rw [g]
   rw [k2] at h1 b
   simp only [aA]
   rw [bB (by simpa using h1), b]
   exact ⟨j.1, by omega⟩
abbrev QQ (l s : List ByteArray) := wx (fun a b => qe a b = true) (fun x => nr x = true) l s
abbrev JO (l s : List js) := wx (fun a b => AV a b = true) (fun x => lK x = true) l s
theorem AU {α : Type} {lt : α → α → Bool} {R : α → Bool} (H : Af (fun a b => lt a b = true) (fun x => R x = true)) {l s : List α} (h : wx (fun a b => lt a b = true) (fun x => R x = true) l s) : s.length ≤ l.length :=
 lQ (uN H (fun x d => ((h.2 x).1 d).2) h.1) (fun x d => ((h.2 x).1 d).1)
theorem Lj (l : List js) (b : l.length ≤ 1000000000) : ∃ s, xK l = some s ∧ JO l s := by
 obtain ⟨s, h1, a⟩ := Bz CF (w := 136) (by omega) (⟨0, ⟨zS, zS⟩, zS, ⟨zS, zS⟩, ⟨zS, zS⟩, zS⟩ : js) l b kd [] (by rw [xf]; omega) (by simp) (by simp) (fun x _ _ => .inr rfl)
 exact ⟨s, (Pf l kd [] s h1 (by have := AU CF a; omega)).1, a⟩
theorem P0 (l : List ByteArray) (b : l.length ≤ 1000000000) : ∃ s, zu l = some s ∧ QQ l s := by
 obtain ⟨s, h1, a⟩ := Bz (PC (fun x => nr x = true)) (w := 16) (by omega) zS l b kd [] (by rw [xf]; omega) (by simp) (by simp) (fun x _ _ => .inr rfl)
 exact ⟨s, (PD l kd [] s h1 (by have := AU (PC _) a; omega)).1, a⟩
def zC : js := ⟨0, ⟨zS, zS⟩, zS, ⟨zS, zS⟩, ⟨zS, zS⟩, zS⟩
theorem Lg (f : js → Option Bool) : ∀ (n : Nat) (l : List js) (i j : Int), nx f n l i j = Dg f zC n l i j
 | 0, _, _, _ => rfl
 | n + 1, l, i, j => by
  rw [nx, Dg]
  simp only [Lg f n]
  rfl
theorem LH (f : js → Option Bool) : ∀ (l : List js) (i : Nat), oH f l i = zg f l i
 | [], _ => rfl
 | x :: l, i => by rw [oH, zg]; simp only [LH f l]
theorem JA (f : js → Option Bool) (l : List js) : pk l f = HB f zC l := by
 unfold pk HB uj
 simp only [LH, Lg]
theorem JG (i : Int) : ∀ (n : Nat) (l : List js) (k j : Int), nY i n l k j = Bh lD i n l k j
 | 0, _, _, _ => rfl
 | n + 1, l, k, j => by
  rw [nY, Bh]
  simp only [JG i n]
theorem Jd (l : List js) : ∀ (n : Nat) (i : Int), og l n i = BN lD zC l n i
 | 0, _ => rfl
 | n + 1, i => by
  rw [og, BN]
  simp only [Jd l n, JG]
  rfl
theorem O3 (l : List js) : sM l = Jv lD zC l := by
 unfold sM Jv
 simp only [Jd]
theorem RF {l : List js} (a : l.length ≤ 1000000000) : rE l = some l := by
 unfold rE
 rw [me (by simp; omega) (by simp; omega)]
 simp
theorem Oc (l : List js) (g : l.length ≤ 1000000000) : ∃ s, uD l = some s ∧ JO l s := by
 unfold uD
 rw [RF g]
 simp only [aA]
 rw [JA, FP _ (fun x => !lK x) zC l (by omega) (fun x _ => by simp [xR, wv])]
 simp only [aA, gG]
 have j : (l.filter fun x => lK x).length ≤ l.length := eu _ _
 obtain ⟨s, h1, i, d⟩ := FE (eq := lD) (lt := fun a b => AV a b = true) (P := fun x => lK x = true) (cf := fun x => tJ x.1 x.2) (l := l.filter fun x => lK x) (fun x y => nN) CF (fun x h => (cN.1 h).2) (by omega) (fun x y _ _ => Fg x y)
 rw [h1]
 simp only [aA]
 rw [O3, Kd _ _ _ (by omega)]
 refine ⟨_, rfl, d.1, fun x => ?_⟩
 rw [d.2]
 simp
theorem Ir (b : List js) : ∀ (A l : List js), uG (A ++ l) l A.length = some true
 | A, [] => rfl
 | A, x :: l => by
  rw [uG, mL A x l _ rfl]
  simp only [aA]
  rw [nN.2 rfl]
  simp only [cI, aB, aI]
  have := Ir b (A ++ [x]) l
  simpa using this
theorem Pw (l : List js) : wE l l = some true := by
 unfold wE
 rw [bB (by simp)]
 exact Ir [] [] l
def tt {κ : Type} (ks : List κ) : List (κ × Bool) := ks.map fun k => (k, true)
def po {κ : Type} (beq : κ → κ → Bool) (ks : List κ) (k : κ) : Bool := ks.any fun x => beq k x
def ins {κ : Type} (beq : κ → κ → Bool) (ks : List κ) (k : κ) : List κ := if po beq ks k then ks else ks ++ [k]
section
variable {κ : Type} {beq : κ → κ → Bool}
theorem sX (a : ∀ {x y}, beq x y = true ↔ x = y) (ks : List κ) (k : κ) : po beq ks k = true ↔ k ∈ ks := by
 simp [po, ei, a]
theorem Nl (ks : List κ) : (tt ks).length = ks.length := by simp [tt]
theorem N4 (ks : List κ) (k : κ) : zH beq (tt ks) k false = po beq ks k := by
 unfold zH kZ po tt
 induction ks with
 | nil => rfl
 | cons x xs ih =>
  simp only [bH, fK, gk]
  cases h : beq k x with
  | true => simp
  | false => simpa using ih
theorem Qj (l : ∀ {x y}, beq x y = true ↔ x = y) (ks : List κ) (k : κ) : nZ beq (tt ks) k true = tt (ins beq ks k) := by
 unfold nZ ins
 have m : (tt ks).findIdx? (fun p => beq k p.1) = ks.findIdx? (fun x => beq k x) := by
  unfold tt; rw [gB]; rfl
 rw [m]
 cases h : ks.findIdx? (fun x => beq k x) with
 | none =>
  rw [gb] at h
  rw [bB]
  ·simp [tt]
  ·intro b
   unfold po at b
   rw [ei] at b
   obtain ⟨x, n, a⟩ := b
   rw [h x n] at a
   cases a
 | some i =>
  rw [ek] at h
  obtain ⟨g, h1, _⟩ := h
  have e := l.1 h1
  rw [bD]
  ·simp only [tt]
   apply eK
   intro j
   rw [fe]
   split
   ·rename_i d
    subst d
    simp [g, e]
   ·rfl
  ·unfold po
   exact ei.2 ⟨ks[i], List.getElem_mem g, h1⟩
end
section
variable {all : List js} {wants : List jr} {T : List jr} {W : List ByteArray} {R : List js}
def ox (c : js) : List jr := if c.Kind = 1 then [] else if c.Kind = 4 then [c.B, c.C] else [c.B]
end
theorem Ht (x : js) : ∀ l : List js, xH l x = some (po lD l x)
 | [] => rfl
 | y :: l => by
  have ih := Ht x l
  unfold xH at ih ⊢
  rw [wZ, ih]
  have : lD y x = lD x y := by rw [bU, nN, nN]; exact eq_comm
  rw [this]
  simp only [po, gk]
  cases lD x y <;> simp
theorem QP {c : js} (h : lK c = true) : yL c = some (c.Head :: ox c) := by
 unfold yL
 rw [wv, h]
 simp only [aA, cI, aB, aI]
 have a : c.Kind = 1 ∨ c.Kind = 2 ∨ c.Kind = 3 ∨ c.Kind = 4 := by rcases oF h with h | h | h | h <;> simp [h.1]
 rcases a with k | k | k | k
 ·simp [k, ox]
 ·rw [bD (by simp [k]), me (by simp) (by simp)]
  simp [k, ox]
 ·rw [bD (by simp [k]), me (by simp) (by simp)]
  simp [k, ox]
 ·rw [bD (by simp [k]), me (by simp) (by simp)]
  simp only [aA]
  rw [bD (by simp [k]), me (by simp) (by simp)]
  simp [k, ox]
theorem wx.congr {α : Type} {lt : α → α → Prop} {P : α → Prop} {l m s : List α} (h : wx lt P l s) (hm : ∀ x, x ∈ l ↔ x ∈ m) : wx lt P m s := ⟨h.1, fun x => by rw [h.2, hm]⟩
theorem Qn {κ : Type} (ks : List κ) : (tt ks).map (·.1) = ks := by simp [tt, fP]
def xV (c : js) : Nat := c.Head.ju.size + c.Head.jy.size + c.kE.size + c.B.ju.size + c.B.jy.size + c.C.ju.size + c.C.jy.size + c.kM.size
section
variable {κ γ : Type} {beq : κ → κ → Bool}
theorem qM (a : ∀ {x y}, beq x y = true ↔ x = y) {A B : List (κ × γ)} {k : κ} {x : γ} (b : ∀ p ∈ A, p.1 ≠ k) : kZ beq (A ++ (k, x) :: B) k = some x := by
 unfold kZ
 rw [iN]
 have : A.find? (fun p => beq k p.1) = none := gr.2 (fun p hp h => b p hp (a.1 h).symm)
 rw [this]
 simp [a.2 (rfl : k = k)]
theorem vX (a : ∀ {x y}, beq x y = true ↔ x = y) {l : List (κ × γ)} {k : κ} (h : ∀ p ∈ l, p.1 ≠ k) : kZ beq l k = none := by
 unfold kZ
 rw [gr.2 (fun p hp b => h p hp (a.1 b).symm)]
 rfl
theorem xe (a : ∀ {x y}, beq x y = true ↔ x = y) {A B : List (κ × γ)} {k : κ} {x y : γ} (b : ∀ p ∈ A, p.1 ≠ k) : nZ beq (A ++ (k, x) :: B) k y = A ++ (k, y) :: B := by
 have h1 : (A ++ (k, x) :: B).findIdx? (fun p => beq k p.1) = some A.length := by
  rw [gS, gb.2 (fun p hp => by
   cases h : beq k p.1 with
   | false => rfl
   | true => exact absurd (a.1 h).symm (b p hp))]
  simp [eY, a.2 (rfl : k = k)]
 rw [qV h1]
 simp
theorem CD (a : ∀ {x y}, beq x y = true ↔ x = y) {l : List (κ × γ)} {k : κ} {y : γ} (h : ∀ p ∈ l, p.1 ≠ k) : nZ beq l k y = l ++ [(k, y)] := by
 refine vv (gb.2 (fun p hp => ?_)) y
 cases b : beq k p.1 with
 | false => rfl
 | true => exact absurd (a.1 b).symm (h p hp)
theorem uC (k : κ) : ∀ (l : List (κ × γ)), (∀ p ∈ l, p.1 ≠ k) ∨ ∃ A x B, l = A ++ (k, x) :: B ∧ ∀ p ∈ A, p.1 ≠ k
 | [] => .inl (fun _ h => by cases h)
 | p :: l => by
  by_cases hp : p.1 = k
  ·exact .inr ⟨[], p.2, l, by rw [← hp]; rfl, fun _ h => by cases h⟩
  ·rcases uC k l with h | ⟨A, x, B, rfl, h⟩
   ·exact .inl (fun q a => by rcases aP.1 a with rfl | a; exact hp; exact h q a)
   ·exact .inr ⟨p :: A, x, B, rfl, fun q a => by rcases aP.1 a with rfl | a; exact hp; exact h q a⟩
theorem FW (a : ∀ {x y}, beq x y = true ↔ x = y) (A B : List (κ × γ)) (k : κ) : kZ beq (A ++ B) k = (kZ beq A k).or (kZ beq B k) := by
 unfold kZ
 rw [iN]
 cases A.find? (fun p => beq k p.1) <;> rfl
theorem Br (p : κ × γ) (l : List (κ × γ)) (k : κ) : kZ beq (p :: l) k = if beq k p.1 = true then some p.2 else kZ beq l k := by
 unfold kZ
 rw [fK]
 cases beq k p.1 <;> simp
theorem Ep (a : ∀ {x y}, beq x y = true ↔ x = y) (l : List (κ × γ)) (k k2 : κ) (y : γ) : kZ beq (nZ beq l k y) k2 = if beq k2 k = true then some y else kZ beq l k2 := by
 rcases uC k l with h | ⟨A, x, B, rfl, h⟩
 ·rw [CD a h, FW a, Br]
  by_cases hk : beq k2 k = true
  ·have := a.1 hk
   subst this
   rw [bD hk, bD hk, vX a h]; rfl
  ·rw [bB hk, bB hk]
   show (kZ beq l k2).or none = _
   cases kZ beq l k2 <;> rfl
 ·rw [xe a h, FW a, Br, FW a, Br]
  by_cases hk : beq k2 k = true
  ·have := a.1 hk
   subst this
   rw [bD hk, bD hk, vX a h]; rfl
  ·rw [bB hk, bB hk, bB hk]
end
abbrev oV := List (jr × List ByteArray)
def mm (T : oV) : List (jr × List (ByteArray × Bool)) := T.map fun p => (p.1, tt p.2)
def rM (T : oV) (r : jr) : List ByteArray := (kZ jQ T r).getD []
def FS (T : oV) : List jM := T.flatMap fun p => p.2.map fun w => (⟨p.1, w⟩ : jM)
def Ev (T : oV) (r : jr) (w : ByteArray) : oV := nZ jQ T r (rM T r ++ [w])
theorem DY (A B : oV) : mm (A ++ B) = mm A ++ mm B := by simp [mm]
theorem zh {A : oV} {r : jr} (h : ∀ p ∈ A, p.1 ≠ r) : ∀ p ∈ mm A, p.1 ≠ r := by
 intro p hp
 simp only [mm, bI] at hp
 obtain ⟨q, a, rfl⟩ := hp
 exact h q a
theorem P8 (T : oV) (r : jr) : kZ jQ (mm T) r = (kZ jQ T r).map tt := by
 rcases uC r T with h | ⟨A, x, B, rfl, h⟩
 ·rw [vX jR h, vX jR (zh h)]; rfl
 ·rw [qM jR h, DY]
  exact qM jR (zh h)
theorem LB (T : oV) (r : jr) : (kZ jQ (mm T) r).getD [] = tt (rM T r) := by
 rw [P8, rM]; cases kZ jQ T r <;> rfl
theorem GW (T : oV) (r : jr) (w : ByteArray) : (FS (Ev T r w)).Perm (FS T ++ [(⟨r, w⟩ : jM)]) := by
 unfold Ev rM
 rcases uC r T with h | ⟨A, x, B, rfl, h⟩
 ·rw [CD jR h, vX jR h]
  simp [FS]
 ·rw [xe jR h, qM jR h]
  simp only [FS, ie, gH, gO, cE, bH, eG, aJ]
  refine cC _ (cC _ ?_)
  exact fb
theorem OF {T : oV} (hk : (T.map (·.1)).Nodup) (r : jr) (w : ByteArray) : ((Ev T r w).map (·.1)).Nodup := by
 unfold Ev
 rcases uC r T with h | ⟨A, x, B, rfl, h⟩
 ·rw [CD jR h]
  simp only [cE, bH, eG]
  refine bX.2 ⟨hk, by simp, fun a ha b d e => ?_⟩
  simp at d; subst d; subst e
  obtain ⟨p, hp, e⟩ := bI.1 ha
  exact h p hp e
 ·rw [xe jR h]
  simpa using hk
theorem Be {T : oV} (hk : (T.map (·.1)).Nodup) (f : jM) : f ∈ FS T ↔ f.kE ∈ rM T f.jr := by
 simp only [FS, iX, bI]
 constructor
 ·rintro ⟨p, hp, w, hw, rfl⟩
  obtain ⟨A, B, rfl⟩ := List.append_of_mem hp
  have a : ∀ q ∈ A, q.1 ≠ p.1 := fun q d e => by
   rw [cE, bH] at hk
   exact (bX.1 hk).2.2 q.1 (bI.2 ⟨q, d, rfl⟩) p.1 (by simp) e
  rw [rM, show p = (p.1, p.2) from rfl, qM jR a]
  exact hw
 ·intro h
  unfold rM at h
  rcases uC f.jr T with b | ⟨A, x, B, rfl, a⟩
  ·rw [vX jR b] at h; cases h
  ·rw [qM jR a] at h
   exact ⟨(f.jr, x), by simp, f.kE, h, rfl⟩
theorem Kp {T : oV} (h : (FS T).Nodup) (r : jr) : (rM T r).Nodup := by
 unfold rM
 rcases uC r T with b | ⟨A, x, B, rfl, a⟩
 ·rw [vX jR b]; simp
 ·rw [qM jR a]
  simp only [FS, ie, gH] at h
  have h1 := (bX.1 (bX.1 h).2.1).1
  simp only [List.Nodup, fQ] at h1
  exact h1.imp (fun h e => h (by rw [e]))
inductive oJ (C : List js) : jM → Prop
 | mem (c) : c ∈ C → c.Kind = 1 → oJ C ⟨c.Head, c.kE⟩
 | inc (c w) : c ∈ C → c.Kind = 2 → oJ C ⟨c.B, w⟩ → oJ C ⟨c.Head, w⟩
 | Gn (c b w) : c ∈ C → c.Kind = 3 → oJ C ⟨c.B, b⟩ → oJ C ⟨⟨b, c.kM⟩, w⟩ → oJ C ⟨c.Head, w⟩
 | both (c w) : c ∈ C → c.Kind = 4 → oJ C ⟨c.B, w⟩ → oJ C ⟨c.C, w⟩ → oJ C ⟨c.Head, w⟩
theorem oJ.mono {C C' : List js} (h : ∀ c ∈ C, c ∈ C') {f : jM} (i : oJ C f) : oJ C' f := by
 induction i with
 | mem c a hk => exact .mem c (h c a) hk
 | inc c w a hk _ ih => exact .inc c w (h c a) hk ih
 | Gn c b w a hk _ _ d g => exact .Gn c b w (h c a) hk d g
 | both c w a hk _ _ d g => exact .both c w (h c a) hk d g
def FC (C : List js) : List jM := (C.map (·.Head)).flatMap fun r => (C.map (·.kE)).map fun w => (⟨r, w⟩ : jM)
theorem Dm (C : List js) : (FC C).length = C.length * C.length := by
 unfold FC
 have : ∀ l : List jr, (l.flatMap fun r => (C.map (·.kE)).map fun w => (⟨r, w⟩ : jM)).length = l.length * C.length := fun l => by
  induction l with
  | nil => simp
  | cons x l ih => simp only [gH, aF, ih, cP, aK, cL]; omega
 rw [this, cP]
theorem QE {C : List js} {r : jr} {w : ByteArray} : (⟨r, w⟩ : jM) ∈ FC C ↔ (∃ c ∈ C, c.Head = r) ∧ ∃ c ∈ C, c.kE = w := by
 unfold FC
 simp only [iX, bI, jM.mk.injEq]
 constructor
 ·rintro ⟨g, ⟨c, d, rfl⟩, h, ⟨b, a, rfl⟩, rfl, rfl⟩; exact ⟨⟨c, d, rfl⟩, b, a, rfl⟩
 ·rintro ⟨⟨c, d, rfl⟩, b, a, rfl⟩; exact ⟨_, ⟨c, d, rfl⟩, _, ⟨b, a, rfl⟩, rfl, rfl⟩
theorem oJ.KD {C : List js} {f : jM} (h : oJ C f) : ∃ c ∈ C, c.Kind = 1 ∧ c.kE = f.kE := by
 induction h with
 | mem c g hk => exact ⟨c, g, hk, rfl⟩
 | inc c w g hk _ ih => exact ih
 | Gn c b w g hk _ _ a d => exact d
 | both c w g hk _ _ a d => exact a
theorem oJ.head {C : List js} {f : jM} (h : oJ C f) : ∃ c ∈ C, c.Head = f.jr := by
 cases h with
 | mem c a hk => exact ⟨c, a, rfl⟩
 | inc c w a hk _ => exact ⟨c, a, rfl⟩
 | Gn c b w a hk _ _ => exact ⟨c, a, rfl⟩
 | both c w a hk _ _ => exact ⟨c, a, rfl⟩
theorem oJ.FC {C : List js} {f : jM} (h : oJ C f) : f ∈ FC C := by
 obtain ⟨c, a, _, hw⟩ := h.KD
 exact QE.2 ⟨h.head, c, a, hw⟩
structure ql (C : List js) (T : oV) (td : List jM) (n : Int) : Prop where
 keys : (T.map (·.1)).Nodup
 nd : (FS T).Nodup
 KF : td.Nodup
 sub : ∀ f ∈ td, f ∈ FS T
 num : n = (FS T).length
 xC : ∀ f ∈ FS T, oJ C f
theorem ql.len {C : List js} {T : oV} {b : List jM} {n : Int} (h : ql C T b n) : (FS T).length ≤ C.length * C.length := by
 rw [← Dm]; exact lQ h.nd (fun f a => (h.xC f a).FC)
theorem ql.RW {C : List js} {T : oV} {a : List jM} {n : Int} (h : ql C T a n) : a.length ≤ (FS T).length := lQ h.KF h.sub
theorem ql.mono {C C' : List js} {T : oV} {a : List jM} {n : Int} (h : ql C T a n) (b : ∀ c ∈ C, c ∈ C') : ql C' T a n := ⟨h.keys, h.nd, h.KF, h.sub, h.num, fun f d => (h.xC f d).mono b⟩
structure zU (T : oV) (td : List jM) (T' : oV) (td' : List jM) : Prop where
 mj : ∀ f ∈ FS T, f ∈ FS T'
 todo : ∀ f ∈ td, f ∈ td'
 new : ∀ f ∈ FS T', f ∈ FS T ∨ f ∈ td'
 fresh : ∀ f ∈ td', f ∈ td ∨ f ∉ FS T
theorem zU.refl (T : oV) (a : List jM) : zU T a T a := ⟨fun _ h => h, fun _ h => h, fun _ h => .inl h, fun _ h => .inl h⟩
theorem zU.trans {T T' T'' : oV} {i g a : List jM} (h : zU T i T' g) (k : zU T' g T'' a) : zU T i T'' a :=
 ⟨fun f b => k.mj f (h.mj f b), fun f b => k.todo f (h.todo f b), fun f b => by
  rcases k.new f b with h1 | h1
  ·rcases h.new f h1 with d | d
   ·exact .inl d
   ·exact .inr (k.todo f d)
  ·exact .inr h1, fun f b => by
  rcases k.fresh f b with h1 | h1
  ·exact h.fresh f h1
  ·exact .inr (fun d => h1 (h.mj f d))⟩
theorem Hi {α : Type} (p : α → Bool) : ∀ l : List α, (l.filter p).length + (l.filter fun x => !p x).length = l.length
 | [] => rfl
 | x :: l => by
  have := Hi p l
  cases h : p x <;> simp [h] <;> omega
theorem ql.FB {C C' : List js} {T T' : oV} {i d : List jM} {n p : Int} (j : ql C' T' d p) (g : ql C T i n) (x : zU T i T' d) : d.length + (FS T).length ≤ i.length + (FS T').length := by
 classical
 have h1 : (d.filter fun f => decide (f ∈ FS T)).length ≤ i.length := lQ (j.KF.filter _) (fun f k => by
  have := cN.1 k
  rcases x.fresh f this.1 with h | h
  ·exact h
  ·exact absurd (by simpa using this.2) h)
 have l : (FS T ++ d.filter fun f => !decide (f ∈ FS T)).length ≤ (FS T').length := lQ (bX.2 ⟨g.nd, j.KF.filter _, fun a ha b m e => by
  subst e
  have := (cN.1 m).2
  simp [ha] at this⟩) (fun f k => by
  rcases aU.1 k with h | h
  ·exact x.mj f h
  ·exact j.sub f (cN.1 h).1)
 have q : (d.filter fun f => decide (f ∈ FS T)).length + (d.filter fun f => !decide (f ∈ FS T)).length = d.length := by
  exact Hi (fun f => decide (f ∈ FS T)) d
 rw [aF] at l
 omega
def BU (C : List js) (T : oV) (g : List jM) (b : Option (List (jr × List (ByteArray × Bool)) × List jM × Int)) (Q : oV → Prop) : Prop :=
 ∃ T' a d, b = some (mm T', a, d) ∧ ql C T' a d ∧ zU T g T' a ∧ Q T'
theorem BU.mono {C : List js} {T : oV} {g : List jM} {a : Option (List (jr × List (ByteArray × Bool)) × List jM × Int)} {Q Q' : oV → Prop} (h : BU C T g a Q) (k : ∀ T', (∀ f ∈ FS T, f ∈ FS T') → Q T' → Q' T') : BU C T g a Q' := by
 obtain ⟨T', b, l, h1, i, d, j⟩ := h
 exact ⟨T', b, l, h1, i, d, k T' d.mj j⟩
def qO (C : List js) : Prop := C.length ≤ 1000000
theorem qO.sq {C : List js} (h : qO C) : C.length * C.length ≤ 1000000000000 := Nat.mul_le_mul h h
theorem tg {T : oV} (hk : (T.map (·.1)).Nodup) (r : jr) (w : ByteArray) : zH kU ((kZ jQ (mm T) r).getD []) w false = true ↔ (⟨r, w⟩ : jM) ∈ FS T := by
 rw [LB, N4, sX mg, Be hk]
theorem Cm {C : List js} (y : qO C) {T : oV} {k : List jM} {n : Int} (h : ql C T k n) (cs : List js) (L : List (jr × List js)) (ws : List (ByteArray × List js)) {r : jr} {w : ByteArray} (z : oJ C ⟨r, w⟩) :
  BU C T k (nI (mm T) cs L ws k n r w) (fun T' => (⟨r, w⟩ : jM) ∈ FS T') := by
 unfold nI
 have G := y.sq
 have M := h.len
 have I := h.RW
 by_cases g : (⟨r, w⟩ : jM) ∈ FS T
 ·rw [bD ((tg h.keys r w).2 g)]
  exact ⟨T, k, n, rfl, h, zU.refl _ _, g⟩
 ·rw [bB (fun t => g ((tg h.keys r w).1 t))]
  have E : ql C (Ev T r w) (k ++ [⟨r, w⟩]) (n + 1) := by
   have hp := GW T r w
   refine ⟨OF h.keys r w, (hp.nodup_iff).2 (bX.2 ⟨h.nd, by simp, fun a ha b p e => ?_⟩), bX.2 ⟨h.KF, by simp, fun a ha b p e => ?_⟩, fun f d => hp.mem_iff.2 ?_, ?_, fun f d => ?_⟩
   ·simp at p; subst p; subst e; exact g ha
   ·simp at p; subst p; subst e; exact g (h.sub _ ha)
   ·rcases aU.1 d with d | d
    ·exact cH _ (h.sub f d)
    ·exact dw _ d
   ·rw [hp.length_eq, h.num]; simp
   ·rcases aU.1 (hp.mem_iff.1 d) with d | d
    ·exact h.xC f d
    ·simp at d; subst d; exact z
  have u : ((if (kZ jQ (mm T) r).isNone = true then ((Ga jQ (mm T) r []).bind fun l => some l) else some (mm T)) : Option _).bind (fun l => (FQ jQ kU l r w true)) = some (mm (Ev T r w)) := by
   unfold Ev rM
   rcases uC r T with j | ⟨A, x, B, rfl, s⟩
   ·have q := vX jR (zh j)
    rw [q, vX jR j, CD jR j, DY]
    simp only [Option.isNone_none, aR, Ga, q, aA]
    rw [CD jR (zh j)]
    unfold FQ
    rw [qM jR (zh j)]
    simp only [dI]
    rw [xe jR (zh j)]
    rfl
   ·have m := zh s
    have v : kZ jQ (mm (A ++ (r, x) :: B)) r = some (tt x) := by rw [DY]; exact qM jR m
    rw [v, qM jR s, xe jR s]
    simp only [Option.isNone_some, aB, aI, aA, FQ, v, dI, gO]
    have J : w ∉ x := fun hw => g (by
     rw [Be h.keys, rM, qM jR s]; exact hw)
    rw [Qj mg]
    rw [show ins kU x w = x ++ [w] from by unfold ins; rw [bB (fun t => J ((sX mg x w).1 t))]]
    rw [DY, show mm ((r, x) :: B) = (r, tt x) :: mm B from rfl, xe jR m, DY]
    rfl
  refine ⟨Ev T r w, k ++ [⟨r, w⟩], n + 1, ?_, E, ⟨fun f d => (GW T r w).mem_iff.2 (cH _ d), fun f d => cH _ d, fun f d => ?_, fun f d => ?_⟩, (GW T r w).mem_iff.2 (by simp)⟩
  ·have i := u
   generalize ((if (kZ jQ (mm T) r).isNone = true then ((Ga jQ (mm T) r []).bind fun l => some l) else some (mm T)) : Option _) = o at i
   cases o with
   | none => cases i
   | some l =>
    simp only [aA] at i ⊢
    rw [i]
    simp only [aA]
    rw [me (by simp; omega) (by simp; omega)]
    simp only [aA]
    rw [ko (by rw [h.num]; omega) (by rw [h.num]; omega)]
  ·rcases aU.1 ((GW T r w).mem_iff.1 d) with h1 | h1
   ·exact .inl h1
   ·exact .inr (dw _ h1)
  ·rcases aU.1 d with h1 | h1
   ·exact .inl h1
   ·simp at h1; subst h1; exact .inr g
theorem zx (l : List ByteArray) (x : ByteArray) : x ∈ vm l ↔ x ∈ l := by unfold vm; simp
def sv (C : List js) : Prop := ∀ c ∈ C, lK c = true
theorem NA {c : js} (h : lK c = true) (hk : c.Kind = 1) : c.kE.size ≤ 16 := by
 rcases oF h with h | h | h | h
 ·exact (om h.2.1).2
 ·exact absurd (hk.symm.trans h.1) (by decide)
 ·exact absurd (hk.symm.trans h.1) (by decide)
 ·exact absurd (hk.symm.trans h.1) (by decide)
theorem Oa {T : oV} (r : jr) (hk : (T.map (·.1)).Nodup) : (rM T r).length ≤ (FS T).length := by
 unfold rM
 rcases uC r T with b | ⟨A, x, B, rfl, a⟩
 ·rw [vX jR b]; simp
 ·rw [qM jR a]
  simp only [FS, ie, gH, aF, cP, gO]
  omega
theorem G1 {C : List js} (a : qO C) (b : sv C) {T : oV} {i : List jM} {n : Int} (h : ql C T i n) (cs : List js) (j : List (jr × List js)) (ws : List (ByteArray × List js)) (q : List jM) (z : Int) (r : jr) :
  qw (mm T) cs j ws q z r = some (vm (rM T r)) := by
 unfold qw oL
 rw [LB]
 simp only [aA, ot]
 have m := Oa r h.keys
 have k := h.len
 have l := a.sq
 unfold Gi
 rw [Qn, bD]
 refine ⟨Kp h.nd r, fun p hp => ?_, by rw [Nl]; omega⟩
 simp only [tt, bI] at hp
 obtain ⟨w, hw, rfl⟩ := hp
 have g := h.xC ⟨r, w⟩ ((Be h.keys ⟨r, w⟩).2 hw)
 obtain ⟨c, d, hk, e⟩ := g.KD
 have := NA (b c d) hk
 simp only at e ⊢
 rw [← e]
 unfold maxLen
 omega
theorem MX {C : List js} (i : qO C) (cs : List js) (g : List (jr × List js)) (ws : List (ByteArray × List js)) (head : jr) : ∀ (l : List ByteArray) {T : oV} {a : List jM} {n : Int}, ql C T a n → (∀ w ∈ l, oJ C ⟨head, w⟩) →
  BU C T a (pV cs g ws head l (mm T) a n) (fun T' => ∀ w ∈ l, (⟨head, w⟩ : jM) ∈ FS T')
 | [], T, a, n, h, _ => ⟨T, a, n, rfl, h, zU.refl _ _, fun _ hw => by cases hw⟩
 | w :: l, T, a, n, h, j => by
  rw [pV]
  obtain ⟨T1, s, t, k, g1, x1, q⟩ := Cm i h cs g ws (j w (by simp))
  rw [k]
  simp only [aA]
  obtain ⟨T2, d, p, m, g2, x2, r⟩ := MX i cs g ws head l g1 (fun w hw => j w (by simp [hw]))
  refine ⟨T2, d, p, m, g2, x1.trans x2, fun v b => ?_⟩
  rcases aP.1 b with rfl | b
  ·exact x2.mj _ q
  ·exact r v b
theorem QX {C : List js} (b : qO C) (g : sv C) {T : oV} {a : List jM} {n : Int} (h : ql C T a n) (cs : List js) (d : List (jr × List js)) (ws : List (ByteArray × List js)) (r head : jr) (i : ∀ w, (⟨r, w⟩ : jM) ∈ FS T → oJ C ⟨head, w⟩) :
  BU C T a (uh (mm T) cs d ws a n r head) (fun T' => ∀ w, (⟨r, w⟩ : jM) ∈ FS T → (⟨head, w⟩ : jM) ∈ FS T') := by
 unfold uh
 rw [G1 b g h]
 simp only [aA]
 refine (MX b cs d ws head _ h (fun w hw => i w ((Be h.keys ⟨r, w⟩).2 ((zx _ _).1 hw)))).mono (fun T' _ j w hw => j w ((zx _ _).2 ((Be h.keys ⟨r, w⟩).1 hw)))
def ET (c : js) (f : jM) (T T' : oV) : Prop :=
 (c.Kind = 2 → f.jr = c.B → (⟨c.Head, f.kE⟩ : jM) ∈ FS T') ∧
 (c.Kind = 3 → f.jr = c.B → ∀ w, (⟨⟨f.kE, c.kM⟩, w⟩ : jM) ∈ FS T → (⟨c.Head, w⟩ : jM) ∈ FS T') ∧
 (c.Kind = 4 → (⟨c.B, f.kE⟩ : jM) ∈ FS T → (⟨c.C, f.kE⟩ : jM) ∈ FS T → (⟨c.Head, f.kE⟩ : jM) ∈ FS T')
theorem ET.mono {c : js} {f : jM} {T T' T0 T1 : oV} (h : ET c f T T') (g : ∀ f ∈ FS T0, f ∈ FS T) (h1 : ∀ f ∈ FS T', f ∈ FS T1) : ET c f T0 T1 :=
 ⟨fun a b => h1 _ (h.1 a b), fun a b w hw => h1 _ (h.2.1 a b w (g _ hw)), fun a b d => h1 _ (h.2.2 a (g _ b) (g _ d))⟩
theorem PE (x : Option (List (jr × List (ByteArray × Bool)) × List jM × Int)) : (x.bind fun r => some (r.1, r.2.1, r.2.2)) = x := by cases x <;> rfl
theorem M0 {C : List js} (p : qO C) (u : sv C) {T : oV} {i : List jM} {n : Int} (h : ql C T i n) (cs : List js) (l : List (jr × List js)) (ws : List (ByteArray × List js)) {c : js} (q : c ∈ C) {f : jM} (s : f ∈ FS T) (t : f.jr ∈ ox c) :
  BU C T i (rC (mm T) cs l ws i n c f) (ET c f T) := by
 unfold rC
 simp only [PE, DA]
 by_cases a : c.Kind = 2
 ·have m : f.jr = c.B := by simpa [ox, a] using t
  rw [bD (by simp [a])]
  have r : oJ C ⟨c.Head, f.kE⟩ := .inc c f.kE q a (by rw [← m]; exact h.xC f s)
  refine (Cm p h cs l ws r).mono (fun T' _ g => ⟨fun _ _ => g, fun k => absurd (a.symm.trans k) (by decide), fun k => absurd (a.symm.trans k) (by decide)⟩)
 rw [bB (by simp [a])]
 by_cases b : c.Kind = 3
 ·have m : f.jr = c.B := by simpa [ox, b] using t
  rw [bD (by simp [b])]
  refine (QX p u h cs l ws ⟨f.kE, c.kM⟩ c.Head (fun w hw => .Gn c f.kE w q b (by rw [← m]; exact h.xC f s) (h.xC _ hw))).mono (fun T' _ g => ⟨fun k => absurd k a, fun _ _ w hw => g w hw, fun k => absurd (b.symm.trans k) (by decide)⟩)
 rw [bB (by simp [b])]
 by_cases j : c.Kind = 4
 ·rw [bD (by simp [j])]
  simp only [aA]
  by_cases d : (⟨c.B, f.kE⟩ : jM) ∈ FS T ∧ (⟨c.C, f.kE⟩ : jM) ∈ FS T
  ·rw [bD (by rw [bF, tg h.keys, tg h.keys]; exact d)]
   have r : oJ C ⟨c.Head, f.kE⟩ := .both c f.kE q j (h.xC _ d.1) (h.xC _ d.2)
   exact (Cm p h cs l ws r).mono (fun T' _ g => ⟨fun k => absurd k a, fun k => absurd k b, fun _ _ _ => g⟩)
  ·rw [bB (by rw [bF, tg h.keys, tg h.keys]; exact d)]
   exact ⟨T, i, n, rfl, h, zU.refl _ _, fun k => absurd k a, fun k => absurd k b, fun _ x y => absurd ⟨x, y⟩ d⟩
 ·rw [bB (by simp [j])]
  exact ⟨T, i, n, rfl, h, zU.refl _ _, fun k => absurd k a, fun k => absurd k b, fun k => absurd k j⟩
theorem Jf {C : List js} (i : qO C) (j : sv C) (cs : List js) (g : List (jr × List js)) (ws : List (ByteArray × List js)) {c : js} (k : c ∈ C) (m : c.B ∈ ox c) : ∀ (l : List ByteArray) {T : oV} {a : List jM} {n : Int}, ql C T a n → (∀ w ∈ l, (⟨c.B, w⟩ : jM) ∈ FS T) →
  BU C T a (pf cs g ws c l (mm T) a n) (fun T' => ∀ w ∈ l, ET c ⟨c.B, w⟩ T T')
 | [], T, a, n, h, _ => ⟨T, a, n, rfl, h, zU.refl _ _, fun _ hw => by cases hw⟩
 | w :: l, T, a, n, h, hm => by
  rw [pf]
  obtain ⟨T1, u, x, p, g1, x1, s⟩ := M0 i j h cs g ws k (f := ⟨c.B, w⟩) (hm w (by simp)) m
  rw [p]
  simp only [aA]
  obtain ⟨T2, d, r, q, g2, x2, t⟩ := Jf i j cs g ws k m l g1 (fun w hw => x1.mj _ (hm w (by simp [hw])))
  refine ⟨T2, d, r, q, g2, x1.trans x2, fun v b => ?_⟩
  rcases aP.1 b with rfl | b
  ·exact s.mono (fun _ h => h) x2.mj
  ·exact (t v b).mono x1.mj (fun _ h => h)
def Fo (c : js) (T : oV) (a : List jM) : Prop :=
 (c.Kind = 1 → (⟨c.Head, c.kE⟩ : jM) ∈ FS T) ∧
 (c.Kind = 2 → ∀ w, (⟨c.B, w⟩ : jM) ∈ FS T → (⟨c.B, w⟩ : jM) ∉ a → (⟨c.Head, w⟩ : jM) ∈ FS T) ∧
 (c.Kind = 3 → ∀ b w, (⟨c.B, b⟩ : jM) ∈ FS T → (⟨c.B, b⟩ : jM) ∉ a → (⟨⟨b, c.kM⟩, w⟩ : jM) ∈ FS T → (⟨⟨b, c.kM⟩, w⟩ : jM) ∉ a → (⟨c.Head, w⟩ : jM) ∈ FS T) ∧
 (c.Kind = 4 → ∀ w, (⟨c.B, w⟩ : jM) ∈ FS T → (⟨c.B, w⟩ : jM) ∉ a → (⟨c.C, w⟩ : jM) ∈ FS T → (⟨c.C, w⟩ : jM) ∉ a → (⟨c.Head, w⟩ : jM) ∈ FS T)
theorem Fo.ext {c : js} {T T' : oV} {i d : List jM} (h : Fo c T i) (x : zU T i T' d) : Fo c T' d := by
 have mj : ∀ f, f ∈ FS T' → f ∉ d → f ∈ FS T ∧ f ∉ i := fun f m j => by
  rcases x.new f m with h1 | h1
  ·exact ⟨h1, fun l => j (x.todo f l)⟩
  ·exact absurd h1 j
 refine ⟨fun k => x.mj _ (h.1 k), fun k w a b => ?_, fun k b w g a2 a3 a4 => ?_, fun k w g a2 a3 a4 => ?_⟩
 ·exact x.mj _ (h.2.1 k w (mj _ a b).1 (mj _ a b).2)
 ·exact x.mj _ (h.2.2.1 k b w (mj _ g a2).1 (mj _ g a2).2 (mj _ a3 a4).1 (mj _ a3 a4).2)
 ·exact x.mj _ (h.2.2.2 k w (mj _ g a2).1 (mj _ g a2).2 (mj _ a3 a4).1 (mj _ a3 a4).2)
theorem Pd {C : List js} (l : qO C) (s : sv C) {T : oV} {p : List jM} {n : Int} (h : ql C T p n) (cs : List js) (r : List (jr × List js)) (ws : List (ByteArray × List js)) {c : js} (t : c ∈ C) :
  ∃ T' d i, sK (mm T) cs r ws p n c = some (mm T', d, i) ∧ ql C T' d i ∧ zU T p T' d ∧ Fo c T' d := by
 unfold sK
 simp only [PE]
 by_cases h1 : c.Kind = 1
 ·rw [bD (by simp [h1])]
  obtain ⟨T', d, i, e, g, x, q⟩ := Cm l h cs r ws (oJ.mem c t h1)
  exact ⟨T', d, i, e, g, x, fun _ => q, fun k => absurd (h1.symm.trans k) (by decide), fun k => absurd (h1.symm.trans k) (by decide), fun k => absurd (h1.symm.trans k) (by decide)⟩
 ·rw [bB (by simp [h1]), G1 l s h]
  simp only [aA]
  have y : c.B ∈ ox c := by unfold ox; rw [bB h1]; split <;> simp
  obtain ⟨T', d, i, e, g, x, q⟩ := Jf l s cs r ws t y (vm (rM T c.B)) h (fun w hw => (Be h.keys ⟨c.B, w⟩).2 ((zx _ _).1 hw))
  have mj : ∀ f, f ∈ FS T' → f ∉ d → f ∈ FS T := fun f u v => by
   rcases x.new f u with h1 | h1
   ·exact h1
   ·exact absurd h1 v
  have m : ∀ w, (⟨c.B, w⟩ : jM) ∈ FS T → ET c ⟨c.B, w⟩ T T' := fun w hw => q w ((zx _ _).2 ((Be h.keys ⟨c.B, w⟩).1 hw))
  refine ⟨T', d, i, e, g, x, fun k => absurd k h1, fun k w a b => ?_, fun k b w j a2 a3 a4 => ?_, fun k w j a2 a3 a4 => ?_⟩
  ·exact (m w (mj _ a b)).1 k rfl
  ·exact (m b (mj _ j a2)).2.1 k rfl w (mj _ a3 a4)
  ·exact (m w (mj _ j a2)).2.2 k (mj _ j a2) (mj _ a3 a4)
structure Em (C : List js) (us : List (jr × List js)) (ws : List (ByteArray × List js)) : Prop where
 Oi : ∀ r c, c ∈ (kZ jQ us r).getD [] ↔ c ∈ C ∧ r ∈ ox c
 word : ∀ w c, c ∈ (kZ kU ws w).getD [] ↔ c ∈ C ∧ c.Kind = 3 ∧ c.kM = w
 RC : ∀ r, ((kZ jQ us r).getD []).length ≤ 2 * C.length
 RM : ∀ w, ((kZ kU ws w).getD []).length ≤ C.length
theorem HX {C : List js} (i : qO C) (j : sv C) (cs : List js) (g : List (jr × List js)) (ws : List (ByteArray × List js)) {f : jM} : ∀ (l : List js) {T : oV} {a : List jM} {n : Int}, ql C T a n → f ∈ FS T → (∀ c ∈ l, c ∈ C ∧ f.jr ∈ ox c) →
  BU C T a (oU cs g ws f l (mm T) a n) (fun T' => ∀ c ∈ l, ET c f T T')
 | [], T, a, n, h, _, _ => ⟨T, a, n, rfl, h, zU.refl _ _, fun _ hw => by cases hw⟩
 | c :: l, T, a, n, h, k, hm => by
  rw [oU]
  obtain ⟨T1, u, w, m, g1, x1, s⟩ := M0 i j h cs g ws (hm c (by simp)).1 k (hm c (by simp)).2
  rw [m]
  simp only [aA]
  obtain ⟨T2, d, r, p, g2, x2, t⟩ := HX i j cs g ws l g1 (x1.mj _ k) (fun c q => hm c (by simp [q]))
  refine ⟨T2, d, r, p, g2, x1.trans x2, fun v b => ?_⟩
  rcases aP.1 b with rfl | b
  ·exact s.mono (fun _ h => h) x2.mj
  ·exact (t v b).mono x1.mj (fun _ h => h)
theorem D6 {C : List js} (m : qO C) (u : sv C) (cs : List js) (j : List (jr × List js)) (ws : List (ByteArray × List js)) {f : jM} : ∀ (l : List js) {T : oV} {g : List jM} {n : Int}, ql C T g n → f ∈ FS T → (∀ c ∈ l, c ∈ C ∧ c.Kind = 3 ∧ c.kM = f.jr.jy) →
  BU C T g (nQ f cs j ws l (mm T) g n) (fun T' => ∀ c ∈ l, (⟨c.B, f.jr.ju⟩ : jM) ∈ FS T → (⟨c.Head, f.kE⟩ : jM) ∈ FS T')
 | [], T, g, n, h, _, _ => ⟨T, g, n, rfl, h, zU.refl _ _, fun _ hw => by cases hw⟩
 | c :: l, T, g, n, h, q, hm => by
  rw [nQ]
  have hk := hm c (by simp)
  by_cases i : (⟨c.B, f.jr.ju⟩ : jM) ∈ FS T
  ·rw [bD ((tg h.keys _ _).2 i)]
   have r : f = ⟨⟨f.jr.ju, c.kM⟩, f.kE⟩ := by rw [hk.2.2]
   have x : oJ C ⟨c.Head, f.kE⟩ := .Gn c f.jr.ju f.kE hk.1 hk.2.1 (h.xC _ i) (by rw [← r]; exact h.xC f q)
   obtain ⟨T1, E, G, w, g1, x1, z⟩ := Cm m h cs j ws x
   rw [w]
   simp only [aA]
   obtain ⟨T2, d, s, k, g2, x2, t⟩ := D6 m u cs j ws l g1 (x1.mj _ q) (fun c p => hm c (by simp [p]))
   refine ⟨T2, d, s, k, g2, x1.trans x2, fun v b a => ?_⟩
   rcases aP.1 b with rfl | b
   ·exact x2.mj _ z
   ·exact t v b (x1.mj _ a)
  ·rw [bB (fun y => i ((tg h.keys _ _).1 y))]
   obtain ⟨T2, d, s, k, g2, x2, t⟩ := D6 m u cs j ws l h q (fun c p => hm c (by simp [p]))
   refine ⟨T2, d, s, k, g2, x2, fun v b a => ?_⟩
   rcases aP.1 b with rfl | b
   ·exact absurd a i
   ·exact t v b a
theorem Im {C : List js} (I : qO C) (J : sv C) {cs : List js} {E : List (jr × List js)} {ws : List (ByteArray × List js)} (u : Em C E ws) : ∀ (m : Nat) {T : oV} {l : List jM} {n : Int}, ql C T l n → (∀ c ∈ C, Fo c T l) → C.length * C.length + l.length < m + (FS T).length →
  ∃ T' O, nj cs E ws m (mm T) l n = some (mm T', [], O) ∧ ql C T' [] O ∧ (∀ c ∈ C, Fo c T' []) ∧ (∀ f ∈ FS T, f ∈ FS T')
 | 0, T, l, n, h, _, hm => by have := h.len; omega
 | m + 1, T, [], n, h, q, hm => by
  rw [nj]
  exact ⟨T, n, rfl, h, q, fun _ h => h⟩
 | m + 1, T, f :: l, n, h, q, hm => by
  rw [nj]
  rw [bD (by simp)]
  have M : f ∈ FS T := h.sub f (by simp)
  have W := (cV.1 h.KF)
  simp only [lE, Int.le_refl, aR, Int.toNat_zero, gv, aA]
  rw [show rF (decide ((0 : Nat) ≤ 1) && decide ((1 : Int) ≤ ((f :: l).length : Int))) = some () by simp [rF]; omega]
  simp only [aA, show Int.toNat 1 = 1 from rfl, List.drop_one, List.tail_cons]
  have L : ql C T l n := ⟨h.keys, h.nd, W.2, fun g y => h.sub g (by simp [y]), h.num, h.xC⟩
  obtain ⟨T1, a6, n1, Q, g1, x1, q1⟩ := HX I J cs E ws ((kZ jQ E f.jr).getD []) L M (fun c i => (u.Oi _ c).1 i)
  rw [Q]
  simp only [aA]
  obtain ⟨T2, r, n2, R, g2, x2, q2⟩ := D6 I J cs E ws ((kZ kU ws f.jr.jy).getD []) g1 (x1.mj _ M) (fun c i => (u.word _ c).1 i)
  rw [R]
  simp only [aA]
  have x := x1.trans x2
  have mj : ∀ g, g ∈ FS T2 → g ∉ r → g ∈ FS T ∧ (g = f ∨ g ∉ f :: l) := fun g y z => by
   rcases x.new g y with h1 | h1
   ·refine ⟨h1, ?_⟩
    by_cases he : g = f
    ·exact .inl he
    ·exact .inr (fun t => by
      rcases aP.1 t with t | t
      ·exact he t
      ·exact z (x.todo g t))
   ·exact absurd h1 z
  have d1 : ∀ c ∈ C, f.jr ∈ ox c → ET c f T T2 := fun c i Y => (q1 c ((u.Oi _ c).2 ⟨i, Y⟩)).mono (fun _ h => h) x2.mj
  have v : ∀ c ∈ C, Fo c T2 r := fun c i => by
   have k := q c i
   refine ⟨fun hk => x.mj _ (k.1 hk), fun hk w a b => ?_, fun hk b w G a2 a3 a4 => ?_, fun hk w G a2 a3 a4 => ?_⟩
   ·obtain ⟨p, d⟩ := mj _ a b
    rcases d with d | d
    ·subst d; exact (d1 c i (by simp [ox, hk])).1 hk rfl
    ·exact x.mj _ (k.2.1 hk w p d)
   ·obtain ⟨p, d⟩ := mj _ G a2
    obtain ⟨s, j⟩ := mj _ a3 a4
    rcases d with d | d
    ·subst d; exact (d1 c i (by simp [ox, hk])).2.1 hk rfl w s
    ·rcases j with j | j
     ·subst j
      exact q2 c ((u.word _ c).2 ⟨i, hk, rfl⟩) (x1.mj _ p)
     ·exact x.mj _ (k.2.2.1 hk b w p d s j)
   ·obtain ⟨p, d⟩ := mj _ G a2
    obtain ⟨s, j⟩ := mj _ a3 a4
    rcases d with d | d
    ·subst d; exact (d1 c i (by simp [ox, hk])).2.2 hk p s
    ·rcases j with j | j
     ·subst j; exact (d1 c i (by simp [ox, hk])).2.2 hk p s
     ·exact x.mj _ (k.2.2.2 hk w p d s j)
  have hlen : r.length + (FS T).length ≤ l.length + (FS T2).length := by
   exact g2.FB L x
  obtain ⟨T3, Z, U, g3, P, o3⟩ := Im I J u m g2 v (by simp only [aK] at hm; omega)
  exact ⟨T3, Z, U, g3, P, fun g y => o3 g (x.mj g y)⟩
theorem Ll (c : js) : ∀ (l : List js) (i : Nat), ∃ z, pU c l i = some z ∧ (z ≥ 0 ↔ c ∈ l)
 | [], i => ⟨-1, rfl, by simp⟩
 | x :: l, i => by
  rw [pU]
  by_cases h : lD c x = true
  ·rw [bD h]
   exact ⟨_, rfl, by simp [nN.1 h]⟩
  ·rw [bB h]
   obtain ⟨z, e, b⟩ := Ll c l (i + 1)
   refine ⟨z, e, ?_⟩
   rw [b, aP]
   exact ⟨.inr, fun a => a.resolve_left (fun e => h (nN.2 e))⟩
theorem JK (c : js) (l : List js) : ∃ b, pB l c = some b ∧ (b = true ↔ c ∈ l) := by
 obtain ⟨z, e, a⟩ := Ll c l 0
 refine ⟨decide (z ≥ 0), ?_, by simpa using a⟩
 unfold pB si wg
 rw [e]
 rfl
theorem KL (c : js) (ws : List (ByteArray × List js)) (C : List js) (hw : ∀ w, ((kZ kU ws w).getD []).length ≤ 2000000) : ∀ (j : List jr) (a : List (jr × List js)), (∀ r, ((kZ jQ a r).getD []).length + j.length ≤ 4000000) →
  ∃ g i, oy c ws C j a = some (C, g, i) ∧ (∀ r x, x ∈ (kZ jQ g r).getD [] ↔ x ∈ (kZ jQ a r).getD [] ∨ (x = c ∧ r ∈ j)) ∧
   (∀ w x, x ∈ (kZ kU i w).getD [] ↔ x ∈ (kZ kU ws w).getD [] ∨ (x = c ∧ c.Kind = 3 ∧ w = c.kM)) ∧ (∀ r, ((kZ jQ g r).getD []).length ≤ ((kZ jQ a r).getD []).length + j.length) ∧
   (∀ w, ((kZ kU i w).getD []).length ≤ ((kZ kU ws w).getD []).length + 1)
 | [], a, _ => by
  rw [oy]
  by_cases k : c.Kind = 3
  ·rw [bD (by simp [k])]
   have h := hw c.kM
   rw [me (by simp; omega) (by simp; omega)]
   simp only [aA]
   refine ⟨a, _, rfl, by simp, fun w x => ?_, by simp, fun w => ?_⟩
   ·rw [Ep mg]
    by_cases hk : kU w c.kM = true
    ·rw [bD hk, mg.1 hk]; simp [k]
    ·rw [bB hk]
     have : w ≠ c.kM := fun e => hk (mg.2 e)
     simp [this]
   ·rw [Ep mg]
    by_cases hk : kU w c.kM = true
    ·rw [bD hk, mg.1 hk]; simp
    ·rw [bB hk]; exact iH _
  ·rw [bB (by simp [k])]
   exact ⟨a, ws, rfl, by simp, by simp [k], by simp, by simp⟩
 | b :: j, a, l => by
  rw [oy]
  have h := l b
  simp only [aK] at h
  rw [me (by simp; omega) (by simp; omega)]
  simp only [aA]
  have d : ∀ r, (kZ jQ (nZ jQ a b (((kZ jQ a b).getD []) ++ [c])) r).getD [] = if jQ r b = true then ((kZ jQ a b).getD []) ++ [c] else (kZ jQ a r).getD [] := fun r => by
   rw [Ep jR]; by_cases hk : jQ r b = true
   ·rw [bD hk, bD hk]; rfl
   ·rw [bB hk, bB hk]
  obtain ⟨g, i, e, m, a2, a3, a4⟩ := KL c ws C hw j (nZ jQ a b (((kZ jQ a b).getD []) ++ [c])) (fun r => by
   rw [d r]
   have n := l r
   simp only [aK] at n
   by_cases hk : jQ r b = true
   ·rw [bD hk]; simp; omega
   ·rw [bB hk]; omega)
  refine ⟨g, i, e, fun r x => ?_, a2, fun r => ?_, a4⟩
  ·rw [m, d]
   by_cases hk : jQ r b = true
   ·rw [bD hk, jR.1 hk]
    simp only [aU, aP, cO, eZ]
    constructor
    ·rintro ((h | h) | h)
     ·exact .inl h
     ·exact .inr ⟨h, .inl trivial⟩
     ·exact .inr ⟨h.1, .inr h.2⟩
    ·rintro (h | h)
     ·exact .inl (.inl h)
     ·exact .inl (.inr h.1)
   ·rw [bB hk]
    have : r ≠ b := fun e => hk (jR.2 e)
    simp [this]
  ·have := a3 r
   rw [d r] at this
   by_cases hk : jQ r b = true
   ·rw [bD hk] at this; rw [jR.1 hk] at this ⊢; simp at this ⊢; omega
   ·rw [bB hk] at this; simp; omega
theorem Qi {C : List js} {j : List (jr × List js)} {ws : List (ByteArray × List js)} (g : Em C j ws) (q : C.length + 1 ≤ 1000000) {c : js} (l : lK c = true) (i : List (jr × List (ByteArray × Bool))) (p : List jM) (n : Int) :
  ∃ a b, tu i C j ws p n c = some (C ++ [c], a, b) ∧ Em (C ++ [c]) a b := by
 unfold tu
 rw [me (by simp; omega) (by simp; omega)]
 simp only [aA, QP l]
 rw [show rF (decide ((0 : Nat) ≤ 1) && decide ((1 : Int) ≤ ((c.Head :: ox c).length : Int))) = some () by simp [rF]; omega]
 simp only [aA, show Int.toNat 1 = 1 from rfl, List.drop_one, List.tail_cons]
 have m : (ox c).length ≤ 2 := by unfold ox; split; simp; split <;> simp
 obtain ⟨a, b, e, k, a2, a3, a4⟩ := KL c ws (C ++ [c]) (fun w => by have := g.RM w; omega) (ox c) j (fun r => by have := g.RC r; omega)
 refine ⟨a, b, e, fun r x => ?_, fun w x => ?_, fun r => ?_, fun w => ?_⟩
 ·rw [k, g.Oi, aU, bO]
  constructor
  ·rintro (h | h)
   ·exact ⟨.inl h.1, h.2⟩
   ·exact ⟨.inr h.1, by rw [h.1]; exact h.2⟩
  ·rintro ⟨h | h, d⟩
   ·exact .inl ⟨h, d⟩
   ·exact .inr ⟨h, by rw [← h]; exact d⟩
 ·rw [a2, g.word, aU, bO]
  constructor
  ·rintro (h | h)
   ·exact ⟨.inl h.1, h.2⟩
   ·exact ⟨.inr h.1, by rw [h.1]; exact ⟨h.2.1, h.2.2.symm⟩⟩
  ·rintro ⟨h | h, d⟩
   ·exact .inl ⟨h, d⟩
   ·subst h; exact .inr ⟨rfl, d.1, d.2.symm⟩
 ·have := a3 r; have := g.RC r; simp; omega
 ·have := a4 w; have := g.RM w; simp; omega
structure MS (C : List js) (T : oV) (us : List (jr × List js)) (ws : List (ByteArray × List js)) (n : Int) : Prop where
 D2 : ql C T [] n
 cl : ∀ c ∈ C, Fo c T []
 Tq : Em C us ws
 right : sv C
theorem MS.all {C : List js} {T : oV} {j : List (jr × List js)} {ws : List (ByteArray × List js)} {n : Int} (h : MS C T j ws n) (f : jM) : f ∈ FS T ↔ oJ C f := by
 refine ⟨h.D2.xC f, fun i => ?_⟩
 induction i with
 | mem c a hk => exact (h.cl c a).1 hk
 | inc c w a hk _ ih => exact (h.cl c a).2.1 hk w ih (by simp)
 | Gn c b w a hk _ _ d g => exact (h.cl c a).2.2.1 hk b w d (by simp) g (by simp)
 | both c w a hk _ _ d g => exact (h.cl c a).2.2.2 hk w d (by simp) g (by simp)
theorem Js (q : Int) (y : 0 ≤ q ∧ q ≤ 1000000000000) : ∀ (l : List js) {C : List js} {T : oV} {p : List jM} {z : List (jr × List js)} {ws : List (ByteArray × List js)} {n : Int}, ql C T p n → (∀ c ∈ C, Fo c T p) → Em C z ws → sv C → C.length + l.length ≤ 1000000 →
  ∃ C' T' a d j, nK q l (mm T) C z ws p n = some (j - q, mm T', C', a, d, [], j) ∧ MS C' T' a d j ∧ (∀ c, c ∈ C' ↔ c ∈ C ∨ (c ∈ l ∧ lK c = true)) ∧ C'.length ≤ C.length + l.length ∧ (∀ f ∈ FS T, f ∈ FS T')
 | [], C, T, p, z, ws, n, g, i, t, r, O => by
  rw [nK]
  have Y : qO C := by unfold qO; simp at O; omega
  have a6 := Y.sq
  have hlen := g.len
  have a7 := g.RW
  obtain ⟨T', j, e, I, c', o⟩ := Im Y r t (cs := C) kd g i (by rw [xf]; omega)
  unfold uJ
  rw [e]
  simp only [aA]
  have P := I.len
  have Z := I.num
  rw [ko (by omega) (by omega)]
  exact ⟨C, T', z, ws, j, rfl, ⟨I, c', t, r⟩, by simp, by simp, o⟩
 | x :: l, C, T, p, z, ws, n, g, i, t, r, O => by
  rw [nK, wv]
  simp only [aK] at O
  obtain ⟨b, hb, u⟩ := JK x C
  simp only [aA, hb, DA]
  by_cases k : lK x = true ∧ x ∉ C
  ·have L : b = false := by cases b with | false => rfl | true => exact absurd (u.1 rfl) k.2
   rw [k.1, L]
   simp only [dt, iR, aR]
   obtain ⟨U, W, e1, U1⟩ := Qi t (by omega) k.1 (mm T) p n
   rw [e1]
   simp only [aA]
   have J : qO (C ++ [x]) := by unfold qO; simp; omega
   have s : sv (C ++ [x]) := fun c v => by
    rcases aU.1 v with h | h
    ·exact r c h
    ·simp at h; subst h; exact k.1
   have g1 : ql (C ++ [x]) T p n := g.mono (fun c v => cH _ v)
   obtain ⟨T2, R, n2, e2, g2, x2, c2⟩ := Pd J s g1 (C ++ [x]) U W (c := x) (by simp)
   rw [e2]
   simp only [aA]
   have w : ∀ c ∈ C ++ [x], Fo c T2 R := fun c v => by
    rcases aU.1 v with h | h
    ·exact (i c h).ext x2
    ·simp at h; subst h; exact c2
   obtain ⟨C', T', a, d, j, e, m, G, a2, a3⟩ := Js q y l g2 w U1 s (by simp; omega)
   refine ⟨C', T', a, d, j, e, m, fun c => ?_, by simp at a2 ⊢; omega, fun f M => a3 f (x2.mj f M)⟩
   rw [G]
   simp only [aU, aP, cO, eZ]
   constructor
   ·rintro ((h | h) | h)
    ·exact .inl h
    ·subst h; exact .inr ⟨.inl rfl, k.1⟩
    ·exact .inr ⟨.inr h.1, h.2⟩
   ·rintro (h | ⟨h | h, E⟩)
    ·exact .inl (.inl h)
    ·exact .inl (.inr h)
    ·exact .inr ⟨h, E⟩
  ·have M : (lK x && !b) = false := by
    cases hr : lK x with
    | false => rfl
    | true =>
     have : x ∈ C := fc fun Q => k ⟨hr, Q⟩
     rw [u.2 this]; rfl
   rw [M]
   simp only [aB, aI]
   obtain ⟨C', T', a, d, j, e, m, G, a2, a3⟩ := Js q y l g i t r (by omega)
   refine ⟨C', T', a, d, j, e, m, fun c => ?_, by simp; omega, a3⟩
   rw [G, aP]
   constructor
   ·rintro (h | h)
    ·exact .inl h
    ·exact .inr ⟨.inr h.1, h.2⟩
   ·rintro (h | ⟨h | h, E⟩)
    ·exact .inl h
    ·subst h
     exact .inl (fc fun Q => k ⟨E, Q⟩)
    ·exact .inr ⟨h, E⟩
theorem QJ {C : List js} {T : oV} {g : List (jr × List js)} {ws : List (ByteArray × List js)} {n : Int} (h : MS C T g ws n) (l : List js) (j : C.length + l.length ≤ 1000000) :
  ∃ C' T' a b d, uf (mm T) C g ws [] n l = some (d - n, mm T', C', a, b, [], d) ∧ MS C' T' a b d ∧ (∀ c, c ∈ C' ↔ c ∈ C ∨ (c ∈ l ∧ lK c = true)) ∧ C'.length ≤ C.length + l.length ∧ (∀ f ∈ FS T, f ∈ FS T') := by
 have i : qO C := by unfold qO; omega
 have h1 := h.D2.len
 have k := i.sq
 have m := h.D2.num
 exact Js n ⟨by omega, by omega⟩ l h.D2 h.cl h.Tq h.right j
theorem Em.zero : Em [] [] [] := ⟨fun r c => by simp [kZ], fun w c => by simp [kZ], fun r => by simp [kZ], fun w => by simp [kZ]⟩
theorem ql.zero : ql [] [] [] 0 := ⟨by simp, by simp [FS], by simp, by simp, by simp [FS], by simp [FS]⟩
theorem MS.zero : MS [] [] [] [] 0 := ⟨ql.zero, fun c a => (by cases a), Em.zero, fun c a => (by cases a)⟩
theorem IQ (l : List js) (h : l.length ≤ 1000000) : ∃ C T d ws n, wW l = some (mm T, C, d, ws, [], n) ∧ MS C T d ws n ∧ (∀ c, c ∈ C ↔ c ∈ l ∧ lK c = true) ∧ C.length ≤ l.length := by
 unfold wW
 obtain ⟨C', T', a, b, i, e, m, g, a2, a3⟩ := QJ MS.zero l (by simpa using h)
 rw [show uf [] [] [] [] [] 0 l = _ from e]
 exact ⟨C', T', a, b, i, rfl, m, by simpa using g, by simpa using a2⟩
theorem oJ.congr {C C' : List js} (h : ∀ c, c ∈ C ↔ c ∈ C') (f : jM) : oJ C f ↔ oJ C' f := ⟨fun d => d.mono (fun c a => (h c).1 a), fun d => d.mono (fun c a => (h c).2 a)⟩
def za (a b : jM) : Bool := BD a.jr b.jr || (jQ a.jr b.jr && qe a.kE b.kE)
theorem Ay {a b : jM} : za a b = true ↔ BD a.jr b.jr = true ∨ (a.jr = b.jr ∧ qe a.kE b.kE = true) := by simp [za, jR]
def Du (_ : jM) : Bool := true
theorem GY : Af (fun a b => za a b = true) (fun x => Du x = true) := by
 have H := Sm (fun _ => True)
 refine ⟨fun x _ => ?_, fun x y z _ _ _ h1 d => ?_, fun x y _ _ => ?_⟩
 ·rw [Ay]
  rintro (h | ⟨_, h⟩)
  ·exact H.irrefl _ trivial h
  ·rw [th] at h; cases h
 ·rw [Ay] at *
  rcases h1 with h1 | ⟨i, h1⟩
  ·rcases d with d | ⟨g, d⟩
   ·exact .inl (H.trans _ _ _ trivial trivial trivial h1 d)
   ·exact .inl (by rw [← g]; exact h1)
  ·rcases d with d | ⟨g, d⟩
   ·exact .inl (by rw [i]; exact d)
   ·exact .inr ⟨i.trans g, zX h1 d⟩
 ·simp only [Ay]
  rcases H.total x.jr y.jr trivial trivial with h | h | h
  ·exact .inl (.inl h)
  ·rcases zP x.kE y.kE with d | d | d
   ·exact .inl (.inr ⟨h, d⟩)
   ·refine .inr (.inl ?_)
    cases x; cases y; simp at h d; simp [h, d]
   ·exact .inr (.inr (.inr ⟨h.symm, d⟩))
  ·exact .inr (.inr (.inl h))
theorem G0 (a b : ByteArray) : ph a b = 0 ↔ a = b := by unfold ph; rw [F8]; exact ⟨zN, fun h => by rw [h]⟩
theorem Se (a b : ByteArray) : ph a b < 0 ↔ qe a b = true := by rw [ym]; exact Cs _ _
theorem NP (a b : jr) : ∃ c, rV a b = some c ∧ (c < 0 ↔ BD a b = true) ∧ (c = 0 ↔ a = b) := by
 obtain ⟨c, e, h⟩ := Ap a b
 refine ⟨c, e, h, ?_⟩
 unfold rV at e
 simp only [pH, ns, aA, uZ, sJ, ot] at e
 by_cases d : ph a.ju b.ju = 0
 ·rw [bB (by simp [d])] at e
  have h1 := (G0 _ _).1 d
  by_cases g : ph a.jy b.jy = 0
  ·rw [bB (by simp [g])] at e
   have i := (G0 _ _).1 g
   cases e
   refine ⟨fun _ => ?_, fun _ => rfl⟩
   cases a; cases b; simp at h1 i; simp [h1, i]
  ·rw [bD (by simp [g])] at e
   cases e
   exact ⟨fun k => absurd k g, fun k => by rw [k] at g; exact absurd ((G0 _ _).2 rfl) g⟩
 ·rw [bD (by simp [d])] at e
  cases e
  exact ⟨fun k => absurd k d, fun k => by rw [k] at d; exact absurd ((G0 _ _).2 rfl) d⟩
theorem Oh (a b : jM) : ∃ c, qb a b = some c ∧ (c < 0 ↔ za a b = true) := by
 unfold qb
 obtain ⟨c, e, h1, i⟩ := NP a.jr b.jr
 rw [e]
 simp only [pH, ns, aA, uZ, sJ, ot]
 by_cases g : c = 0
 ·rw [bB (by simp [g])]
  have l := i.1 g
  have d : ¬ BD a.jr b.jr = true := fun j => by have := h1.2 j; omega
  by_cases h : ph a.kE b.kE = 0
  ·rw [bB (by simp [h])]
   refine ⟨0, rfl, ?_⟩
   rw [Ay]
   simp [d, (G0 _ _).1 h, th]
  ·rw [bD (by simp [h])]
   refine ⟨_, rfl, ?_⟩
   rw [Ay, Se]
   exact ⟨fun k => .inr ⟨l, k⟩, fun k => k.elim (fun k => absurd k d) (·.2)⟩
 ·rw [bD (by simp [g])]
  refine ⟨c, rfl, ?_⟩
  rw [Ay, h1]
  have : a.jr ≠ b.jr := fun k => g (i.2 k)
  simp [this]
theorem Lz {α : Type} {eq : α → α → Bool} (he : ∀ x y, eq x y = true ↔ x = y) : ∀ (l : List α) (p : α), (p :: l).Nodup → mO eq p l = l
 | [], p, _ => rfl
 | y :: l, p, h => by
  have h1 := cV.1 h
  rw [mO, bB (fun e => h1.1 (by rw [← (he _ _).1 e]; simp)), Lz he l y h1.2]
theorem SG {α : Type} {eq : α → α → Bool} (he : ∀ x y, eq x y = true ↔ x = y) : ∀ l : List α, l.Nodup → dd eq l = l
 | [], _ => rfl
 | x :: l, h => by rw [dd, Lz he l x h]
def AI (P : jM → Prop) (s : List jM) : Prop := s.Pairwise (fun a b => za a b = true) ∧ ∀ f, f ∈ s ↔ P f
theorem AI.unique {P : jM → Prop} {s t : List jM} (h : AI P s) (k : AI P t) : s = t :=
 wx.unique (l := s) GY ⟨h.1, fun x => ⟨fun a => ⟨a, rfl⟩, fun a => a.1⟩⟩ ⟨k.1, fun x => by rw [k.2, h.2]; exact ⟨fun a => ⟨a, rfl⟩, fun a => a.1⟩⟩
theorem Gv {l : List jM} (g : l.Nodup) (k : l.length ≤ 1000000000000) : ∃ s, zG (fun (x : jM × jM) => qb x.1 x.2) l = some s ∧ AI (fun f => f ∈ l) s := by
 obtain ⟨s, h1, j, d⟩ := FE (eq := AD) (lt := fun a b => za a b = true) (P := fun x => Du x = true) (cf := fun (x : jM × jM) => qb x.1 x.2) (l := l) (fun x y => zt) GY (fun _ _ => rfl) (by omega) (fun x y _ _ => Oh x y)
 have i : s.Nodup := by
  have := (G9 h1).2
  rw [this]
  unfold tL
  exact (ic l _).nodup_iff.2 g
 rw [SG (fun x y => zt) s i] at d
 exact ⟨s, h1, d.1, fun f => by rw [d.2]; exact ⟨fun h => h.1, fun h => ⟨h, rfl⟩⟩⟩
theorem QH (T : oV) : (mm T).flatMap (fun p => p.2.map (fun q => (fun (a : jr) (b : ByteArray) => (⟨a, b⟩ : jM)) p.1 q.1)) = FS T := by
 unfold mm FS tt
 rw [List.flatMap_map]
 congr 1
 funext p
 simp [fP]
theorem O4 {C : List js} (j : qO C) {T : oV} {m : List (jr × List js)} {ws : List (ByteArray × List js)} {n : Int} (h : MS C T m ws n) (cs : List js) (u : List (jr × List js)) (w : List (ByteArray × List js)) (l : List jM) (z : Int) :
  ∃ s, we (mm T) cs u w l z = some s ∧ AI (oJ C) s := by
 have k := j.sq
 have hlen := h.D2.len
 obtain ⟨s, p, i⟩ := Gv h.D2.nd (by omega)
 have g : AI (oJ C) s := ⟨i.1, fun f => (i.2 f).trans (h.all f)⟩
 refine ⟨s, ?_, g⟩
 unfold we NG
 rw [QH]
 rw [bD ⟨by omega, by unfold maxLen; omega⟩]
 simp only [aA, ot]
 refine Ge (fun o b => ?_)
 obtain ⟨s', d, a⟩ := Gv ((b.nodup_iff).2 h.D2.nd) (by rw [b.length_eq]; omega)
 rw [d]
 congr 1
 exact AI.unique ⟨a.1, fun f => (a.2 f).trans (b.mem_iff.trans (h.all f))⟩ g
theorem Pe (r : jr) (w : ByteArray) : ∀ l : List jM, ∃ b, vJ r w l = some b ∧ (b = true ↔ (⟨r, w⟩ : jM) ∈ l)
 | [] => ⟨false, rfl, by simp⟩
 | x :: l => by
  rw [vJ]
  simp only [DA, aA]
  obtain ⟨b, e, g⟩ := Pe r w l
  by_cases h : (jQ x.jr r && kU x.kE w) = true
  ·rw [bD h]
   have a : x = ⟨r, w⟩ := by
    rw [bF, jR, mg] at h
    cases x; simp at h; simp [h]
   exact ⟨true, rfl, by simp [a]⟩
  ·rw [bB h]
   refine ⟨b, e, ?_⟩
   rw [g, aP]
   refine ⟨.inr, fun d => d.resolve_left (fun e => h ?_)⟩
   rw [← e]; simp [wK, vx]
theorem zd (l : List jM) (r : jr) (w : ByteArray) : ∃ b, uE l r w = some b ∧ (b = true ↔ (⟨r, w⟩ : jM) ∈ l) := Pe r w l
def wX (l : List jM) (c : js) (names : List ByteArray) (w : ByteArray) : Prop :=
 (c.Kind = 1 ∧ c.kE = w) ∨ (c.Kind = 2 ∧ (⟨c.B, w⟩ : jM) ∈ l) ∨ (c.Kind = 4 ∧ (⟨c.B, w⟩ : jM) ∈ l ∧ (⟨c.C, w⟩ : jM) ∈ l) ∨
 (c.Kind ≠ 1 ∧ c.Kind ≠ 2 ∧ c.Kind ≠ 4 ∧ ∃ b ∈ names, (⟨c.B, b⟩ : jM) ∈ l ∧ (⟨⟨b, c.kM⟩, w⟩ : jM) ∈ l)
theorem Gf (l : List jM) (c : js) (w : ByteArray) : ∀ names : List ByteArray, ∃ b, uA l c w names = some b ∧ (b = true ↔ ∃ b ∈ names, (⟨c.B, b⟩ : jM) ∈ l ∧ (⟨⟨b, c.kM⟩, w⟩ : jM) ∈ l)
 | [] => ⟨false, rfl, by simp⟩
 | x :: names => by
  rw [uA]
  obtain ⟨g, j, h1⟩ := zd l c.B x
  obtain ⟨i, k, d⟩ := zd l ⟨x, c.kM⟩ w
  obtain ⟨b, e, m⟩ := Gf l c w names
  rw [j, k, e]
  simp only [aA, DA]
  by_cases h : (g && i) = true
  ·rw [bD h]
   rw [bF, h1, d] at h
   exact ⟨true, rfl, by simp [h]⟩
  ·rw [bB h]
   rw [bF, h1, d] at h
   refine ⟨b, rfl, ?_⟩
   rw [m]
   constructor
   ·rintro ⟨y, a, q⟩; exact ⟨y, by simp [a], q⟩
   ·rintro ⟨y, a, q⟩
    rcases aP.1 a with rfl | a
    ·exact absurd q h
    ·exact ⟨y, a, q⟩
theorem P6 (l : List jM) (c : js) (names : List ByteArray) (w : ByteArray) : ∃ b, yR l c names w = some b ∧ (b = true ↔ wX l c names w) := by
 unfold yR wX
 simp only [ot]
 by_cases h1 : c.Kind = 1
 ·rw [bD (by simp [h1])]; exact ⟨_, rfl, by simp [h1, mg]⟩
 rw [bB (by simp [h1])]
 by_cases a : c.Kind = 2
 ·rw [bD (by simp [a])]
  obtain ⟨b, e, g⟩ := zd l c.B w
  exact ⟨b, e, by simp [a, g]⟩
 rw [bB (by simp [a])]
 by_cases d : c.Kind = 4
 ·rw [bD (by simp [d])]
  obtain ⟨m, j, h⟩ := zd l c.B w
  obtain ⟨n, k, i⟩ := zd l c.C w
  rw [j, k]
  simp only [aA, DA]
  exact ⟨_, rfl, by simp [d, h, i]⟩
 rw [bB (by simp [d])]
 obtain ⟨b, e, g⟩ := Gf l c w names
 exact ⟨b, e, by rw [g]; simp [h1, a, d]⟩
theorem wX.xC {C : List js} {l : List jM} (a : ∀ f ∈ l, oJ C f) {c : js} (d : c ∈ C) (hk : c.Kind = 1 ∨ c.Kind = 2 ∨ c.Kind = 3 ∨ c.Kind = 4) {names : List ByteArray} {w : ByteArray} (h : wX l c names w) : oJ C ⟨c.Head, w⟩ := by
 rcases h with ⟨k, rfl⟩ | ⟨k, h⟩ | ⟨k, h1, g⟩ | ⟨i, k2, j, b, _, h1, g⟩
 ·exact .mem c d k
 ·exact .inc c w d k (a _ h)
 ·exact .both c w d k (a _ h1) (a _ g)
 ·exact .Gn c b w d (by omega) (a _ h1) (a _ g)
theorem MB {c : js} (h : lK c = true) : c.Kind = 1 ∨ c.Kind = 2 ∨ c.Kind = 3 ∨ c.Kind = 4 := by rcases oF h with h | h | h | h <;> simp [h.1]
structure Ef (C : List js) (out : List jM) : Prop where
 nd : out.Nodup
 xC : ∀ f ∈ out, oJ C f
theorem Ef.len {C : List js} {out : List jM} (h : Ef C out) : out.length ≤ C.length * C.length := by
 rw [← Dm]; exact lQ h.nd (fun f a => (h.xC f a).FC)
theorem F3 {C : List js} (s : qO C) (t : sv C) {c : js} (m : c ∈ C) (names : List ByteArray) : ∀ (l : List ByteArray) (out : List jM) (i : Bool), Ef C out →
  ∃ g d, ur c names l out i = some (g, d) ∧ Ef C g ∧ (d = true → i = true ∨ out.length < g.length) ∧ (d = false → i = false ∧ g = out ∧ ∀ w ∈ l, wX out c names w → (⟨c.Head, w⟩ : jM) ∈ out) ∧ out.length ≤ g.length
 | [], out, i, h => ⟨out, i, rfl, h, .inl, fun h => ⟨h, rfl, fun _ hw => by cases hw⟩, aY _⟩
 | w :: l, out, i, h => by
  rw [ur]
  obtain ⟨y, I, h1⟩ := zd out c.Head w
  obtain ⟨G, J, z⟩ := P6 out c names w
  rw [I, J]
  simp only [aA, DA]
  by_cases j : (!y && G) = true
  ·rw [bD j]
   rw [bF] at j
   have u : (⟨c.Head, w⟩ : jM) ∉ out := fun M => by have := h1.2 M; rw [this] at j; exact absurd j.1 (by decide)
   have P := h.len
   have O := s.sq
   rw [me (by simp; omega) (by simp; omega)]
   simp only [aA]
   have L : Ef C (out ++ [⟨c.Head, w⟩]) := ⟨bX.2 ⟨h.nd, by simp, fun a ha b j e => by simp at j; subst j; subst e; exact u ha⟩, fun f k => by
    rcases aU.1 k with k | k
    ·exact h.xC f k
    ·simp at k; subst k; exact (z.1 j.2).xC h.xC m (MB (t c m))⟩
   obtain ⟨g, d, e, n, a2, a3, a4⟩ := F3 s t m names l _ true L
   simp at a4
   exact ⟨g, d, e, n, fun _ => .inr (by omega), fun k => (by cases (a3 k).1), by omega⟩
  ·rw [bB j]
   obtain ⟨g, d, e, n, a2, a3, a4⟩ := F3 s t m names l out i h
   refine ⟨g, d, e, n, a2, fun k => ?_, a4⟩
   obtain ⟨p, q, r⟩ := a3 k
   refine ⟨p, q, fun v x E => ?_⟩
   rcases aP.1 x with rfl | x
   ·refine fc fun u => j ?_
    rw [bF, z.2 E]
    cases y with
    | false => exact ⟨rfl, rfl⟩
    | true => exact absurd (h1.1 rfl) u
   ·exact r v x E
theorem Je {C : List js} (m : qO C) (n : sv C) (names : List ByteArray) : ∀ (l : List js) (out : List jM) (a : Bool), (∀ c ∈ l, c ∈ C) → Ef C out →
  ∃ b g, vU names l out a = some (b, g) ∧ Ef C b ∧ (g = true → a = true ∨ out.length < b.length) ∧ (g = false → a = false ∧ b = out ∧ ∀ c ∈ l, ∀ w ∈ names, wX out c names w → (⟨c.Head, w⟩ : jM) ∈ out) ∧ out.length ≤ b.length
 | [], out, a, _, h => ⟨out, a, rfl, h, .inl, fun h => ⟨h, rfl, fun _ hw => by cases hw⟩, aY _⟩
 | c :: l, out, a, p, h => by
  rw [vU]
  obtain ⟨x, c1, u, q, a2, a3, a4⟩ := F3 m n (p c (by simp)) names names out a h
  rw [u]
  simp only [aA]
  obtain ⟨y, c2, v, r, s, t, M⟩ := Je m n names l x c1 (fun d i => p d (by simp [i])) q
  refine ⟨y, c2, v, r, fun j => ?_, fun j => ?_, by omega⟩
  ·rcases s j with h1 | h1
   ·rcases a2 h1 with k | k
    ·exact .inl k
    ·exact .inr (by omega)
   ·exact .inr (by omega)
  ·obtain ⟨z, E, G⟩ := t j
   obtain ⟨I, J, L⟩ := a3 z
   subst J
   refine ⟨I, E, fun d i => ?_⟩
   rcases aP.1 i with rfl | i
   ·exact L
   ·exact G d i
def zF : jM := ⟨⟨zS, zS⟩, zS⟩
theorem Jb (a b : jM) : tN a b = some (za a b) := by
 unfold tN za
 simp only [Bo, aA, DA, Rq]
def QU (a : List jM) (b : Int) (p : Bool × jM) : Prop := (p.1 = false ∧ b = -1) ∨ (p.1 = true ∧ 0 ≤ b ∧ lE a b = some p.2)
theorem Bq (out a : List jM) (i : out.length < 4611686018427387904) : ∀ (rest A : List jM) (b : Int) (p : Bool × jM), a = A ++ rest → QU a b p →
  ∃ d, oS out a rest A.length b = some d ∧ QU a d (ru Du za out.getLast? rest p.1 p.2)
 | [], A, b, p, ha, j => ⟨b, rfl, j⟩
 | x :: rest, A, b, p, ha, j => by
  rw [oS, ru]
  simp only [Du, dO]
  have h1 : ((if ((out.length : Int) == 0) = true then some true else (lE out (wi0 .i64 ((out.length : Int) - 1))).bind fun y => (tN y x).bind fun r => some r) : Option Bool) = some (out.getLast?.all fun y => za y x) := by
   rcases dl out with h | ⟨B, z, h⟩
   ·subst h; rfl
   ·subst h
    rw [bB (by simp; omega)]
    rw [dL] at i ⊢
    rw [F5 B z (by simp at i; omega)]
    simp [Jb]
  have n : ((if decide (b < 0) = true then some true else (lE a b).bind fun y => (tN x y).bind fun r => some r) : Option Bool) = some (!p.1 || za x p.2) := by
   rcases j with ⟨k, l⟩ | ⟨k, l, m⟩
   ·rw [bD (by simp [l]), k]; rfl
   ·rw [bB (by simpa using l), m, k]
    simp [Jb]
  rw [h1]
  simp only [aA]
  rw [n]
  simp only [aA, DA]
  have q : lE a (A.length : Int) = some x := by rw [ha]; exact mL A x rest _ rfl
  by_cases g : ((out.getLast?.all fun y => za y x) && (!p.1 || za x p.2)) = true
  ·rw [bD g, bD g]
   have := Bq out a i rest (A ++ [x]) (A.length : Int) (true, x) (by rw [ha]; simp) (.inr ⟨rfl, by simp, q⟩)
   simpa using this
  ·rw [bB g, bB g]
   have := Bq out a i rest (A ++ [x]) b p (by rw [ha]; simp) j
   simpa using this
theorem Fw {out a : List jM} (g : out.length < 4611686018427387904) (h : (ru Du za out.getLast? a false zF).1 = false) : ∀ FB : List jM, oR a FB out = some out
 | [] => rfl
 | x :: FB => by
  rw [oR]
  obtain ⟨b, e, j⟩ := Bq out a g a [] (-1) (false, zF) rfl (.inl ⟨rfl, rfl⟩)
  rw [show oS out a a 0 (-1) = some b from e]
  simp only [aA]
  rcases j with ⟨_, i⟩ | ⟨d, _⟩
  ·rw [bB (by simp [i])]; exact Fw g h FB
  ·rw [h] at d; cases d
theorem H3 (a : List jM) : ∀ (FB : List jM) (out s : List jM), zY 48 Du za zF a (FB.length + 1) out = some s → s.length < 4611686018427387904 → oR a FB out = some s ∧ out.length ≤ s.length
 | [], out, s, h, j => by
  rw [zY] at h
  cases hp : (ru Du za out.getLast? a false zF).1 with
  | false =>
   rw [hp] at h
   simp only [dt, aR] at h
   cases h
   exact ⟨rfl, aY _⟩
  | true =>
   rw [hp] at h
   simp only [cI, aB, aI] at h
   obtain ⟨o, d, h⟩ := bind_some h
   replace h : zY 48 Du za zF a 0 o = some s := h
   rw [zY] at h
   cases h
 | x :: FB, out, s, h, j => by
  rw [zY] at h
  cases hp : (ru Du za out.getLast? a false zF).1 with
  | false =>
   rw [hp] at h
   simp only [dt, aR] at h
   cases h
   exact ⟨Fw j hp _, aY _⟩
  | true =>
   rw [hp] at h
   simp only [cI, aB, aI] at h
   obtain ⟨o, d, h⟩ := bind_some h
   have i := d
   unfold mn at d
   split at d
   case isFalse => cases d
   cases d
   obtain ⟨n, k2⟩ := H3 a FB _ s h j
   simp at k2
   rw [oR]
   obtain ⟨b, e, m⟩ := Bq out a (by omega) a [] (-1) (false, zF) rfl (.inl ⟨rfl, rfl⟩)
   rw [show oS out a a 0 (-1) = some b from e]
   simp only [aA]
   rcases m with ⟨g, _⟩ | ⟨g, k, l⟩
   ·rw [hp] at g; cases g
   ·rw [bD (by simpa using k), l]
    simp only [aA]
    rw [i]
    exact ⟨n, by omega⟩
theorem NN (l : List jM) (d : l.length ≤ 1000000000) : ∃ s, zm l = some s ∧ AI (fun f => f ∈ l) s := by
 obtain ⟨s, h1, a⟩ := Bz GY (w := 48) (by omega) zF l d (l.length + 1) [] (by simp) (by simp) (fun x b => by cases b) (fun x _ _ => .inr rfl)
 have hlen : s.length ≤ l.length := lQ (uN GY (fun _ _ => rfl) a.1) (fun x b => ((a.2 x).1 b).1)
 exact ⟨s, (H3 l l [] s h1 (by omega)).1, a.1, fun f => by rw [a.2]; exact ⟨fun h => h.1, fun h => ⟨h, rfl⟩⟩⟩
theorem J8 : ∀ (l : List js) (acc : List ByteArray), acc.length + 4 * l.length ≤ 1000000000 → rZ l acc = zu (acc ++ l.flatMap fun c => [c.kE, c.Head.ju, c.B.ju, c.C.ju])
 | [], acc, _ => by rw [rZ]; simp [ot]
 | c :: l, acc, h => by
  rw [rZ]
  simp only [aK] at h
  rw [me (by simp; omega) (by simp; omega)]
  simp only [aA]
  rw [J8 l _ (by simp; omega)]
  simp
def SM (C : List js) : Prop := C.length ≤ 30000
theorem SM.small {C : List js} (h : SM C) : qO C := by unfold SM at h; unfold qO; omega
theorem SM.sq {C : List js} (h : SM C) : C.length * C.length ≤ 900000000 := Nat.mul_le_mul h h
theorem Od {C : List js} (b : SM C) (g : sv C) : ∃ names, xM C = some names ∧ ∀ c ∈ C, c.Kind = 1 → c.kE ∈ names := by
 have d : C.length ≤ 30000 := b
 unfold xM
 rw [J8 C [] (by simp; omega)]
 obtain ⟨s, e, i⟩ := P0 ([] ++ C.flatMap fun c => [c.kE, c.Head.ju, c.B.ju, c.C.ju]) (by
  have : ∀ l : List js, (l.flatMap fun c => [c.kE, c.Head.ju, c.B.ju, c.C.ju]).length = 4 * l.length := fun l => by
   induction l with
   | nil => rfl
   | cons x l ih => simp [ih]; omega
  rw [aV, this]; omega)
 refine ⟨s, e, fun c a hk => (i.2 _).2 ⟨?_, ?_⟩⟩
 ·rw [aV]; exact iX.2 ⟨c, a, by simp⟩
 ·rcases oF (g c a) with h | h | h | h
  ·exact h.2.1
  ·exact absurd (hk.symm.trans h.1) (by decide)
  ·exact absurd (hk.symm.trans h.1) (by decide)
  ·exact absurd (hk.symm.trans h.1) (by decide)
theorem LR {C : List js} (n : sv C) {names : List ByteArray} (l : ∀ c ∈ C, c.Kind = 1 → c.kE ∈ names) {out : List jM} (h : ∀ c ∈ C, ∀ w ∈ names, wX out c names w → (⟨c.Head, w⟩ : jM) ∈ out) {f : jM} (k : oJ C f) : f ∈ out := by
 have hw : ∀ f, oJ C f → f.kE ∈ names := fun f k => by
  obtain ⟨c, a, hk, e⟩ := k.KD
  rw [← e]; exact l c a hk
 induction k with
 | mem c a hk => exact h c a _ (l c a hk) (.inl ⟨hk, rfl⟩)
 | inc c w a hk m ih => exact h c a w (hw _ m) (.inr (.inl ⟨hk, ih⟩))
 | Gn c b w a hk d j g i => exact h c a w (hw _ j) (.inr (.inr (.inr ⟨by omega, by omega, by omega, b, hw _ d, g, i⟩)))
 | both c w a hk d j g i => exact h c a w (hw _ d) (.inr (.inr (.inl ⟨hk, g, i⟩)))
theorem JM {C : List js} (a : SM C) (b : sv C) {names : List ByteArray} (g : ∀ c ∈ C, c.Kind = 1 → c.kE ∈ names) : ∀ (m : Nat) (out : List jM), Ef C out → C.length * C.length < m + out.length →
  ∃ s, ul names C m out = some s ∧ AI (oJ C) s
 | 0, out, h, hm => by have := h.len; omega
 | m + 1, out, h, hm => by
  rw [ul]
  obtain ⟨o, c, e, i, a2, a3, a4⟩ := Je a.small b names C out false (fun _ h => h) h
  rw [e]
  simp only [aA, ot]
  cases c with
  | false =>
   simp only [dt, aR]
   obtain ⟨_, j, k⟩ := a3 rfl
   subst j
   have p := h.len
   have n := a.sq
   obtain ⟨s, l, d⟩ := NN o (by omega)
   exact ⟨s, l, d.1, fun f => (d.2 f).trans ⟨h.xC f, LR b g k⟩⟩
  | true =>
   simp only [cI, aB, aI]
   rcases a2 rfl with h1 | h1
   ·cases h1
   ·exact JM a b g m o i (by omega)
theorem Qt (l : List js) (p : l.length ≤ 30000) : ∃ C s, wV l = some s ∧ AI (oJ C) s ∧ ∀ c, c ∈ C ↔ c ∈ l ∧ lK c = true := by
 unfold wV
 obtain ⟨C, e, b⟩ := Lj l (by omega)
 have hlen := AU CF b
 have a : SM C := by unfold SM; omega
 have d : sv C := fun c j => ((b.2 c).1 j).2
 obtain ⟨names, g, m⟩ := Od a d
 rw [e]
 simp only [aA]
 rw [g]
 simp only [aA]
 have n := a.sq
 obtain ⟨s, h, i⟩ := JM a d m kd [] ⟨by simp, fun f k => by cases k⟩ (by rw [xf]; simp; omega)
 exact ⟨C, s, h, i, b.2⟩
theorem BM (w : ByteArray) : ∀ (l : List jM) (acc : List jr), acc.length + l.length ≤ 1000000000 → qj w l acc = some (acc ++ (l.filter fun f => kU f.kE w).map (·.jr))
 | [], acc, _ => by rw [qj]; simp
 | x :: l, acc, h => by
  rw [qj]
  simp only [aK] at h
  by_cases a : kU x.kE w = true
  ·rw [bD a, me (by simp; omega) (by simp; omega)]
   simp only [aA]
   rw [BM w l _ (by simp; omega)]
   simp [a]
  ·rw [bB a, BM w l acc (by omega)]
   simp [a]
theorem PS {P : jM → Prop} {s t : List jM} (h : AI P s) (b : ∀ f, P f → f ∈ t) : s.length ≤ t.length := lQ (uN GY (fun _ _ => rfl) h.1) (fun f a => b f ((h.2 f).1 a))
theorem Qm {C : List js} {s : List jM} (h : AI (oJ C) s) (a : SM C) : s.length ≤ 900000000 := by
 have := PS h (t := FC C) (fun f b => b.FC)
 rw [Dm] at this
 have := a.sq
 omega
theorem Ju {C : List js} {T : oV} {d : List (jr × List js)} {ws : List (ByteArray × List js)} {n : Int} (h : MS C T d ws n) (cs : List js) (u : List (jr × List js)) (w : List (ByteArray × List js)) (a : List jM) (z : Int) (r : jr) (KD : ByteArray) :
  ∃ b, tT (mm T) cs u w a z r KD = some b ∧ (b = true ↔ oJ C ⟨r, KD⟩) :=
 ⟨_, rfl, by rw [tg h.D2.keys, h.all]⟩
def qA : jr := ⟨⟨#[97]⟩, ⟨#[114]⟩⟩
def qB : jr := ⟨⟨#[98]⟩, ⟨#[115]⟩⟩
def qd : ByteArray := ⟨#[100]⟩
def j1 : js := ⟨2, qA, zS, qB, ⟨zS, zS⟩, zS⟩
def j2 : js := ⟨1, qB, qd, ⟨zS, zS⟩, ⟨zS, zS⟩, zS⟩
theorem OC (n : Nat) (a : n ≤ 1000000000) : se (n : Int) = some [] := by
 unfold se
 rw [bB (by simp), ko (x := 0 - 0) (by omega) (by omega), show (n : Int) - (0 - 0) = n by omega, ko (x := (n : Int)) (by omega) (by omega)]
 by_cases h : 0 < n
 ·rw [bD (by simpa using h)]
  unfold He
  rw [bD ⟨by omega, by omega, by unfold maxLen; omega⟩]
  simp [rF]
 ·rw [bB (by simpa using h)]; rfl
theorem H8 (a b : List js) (h : a.length + b.length ≤ 1000000000) : qR [a, b] = some (a ++ b) := by
 unfold qR
 rw [oz, ko (by omega) (by omega), bB (by simp), oz, ko (by omega) (by omega), bB (by simp; omega), oz]
 rw [show (0 : Int) + (a.length : Int) + (b.length : Int) = ((a.length + b.length : Nat) : Int) by omega, OC _ h]
 simp only [aA]
 rw [ow, me (by simp; omega) (by simp; omega)]
 simp only [aA, aV]
 rw [ow, me (by omega) (by omega)]
 simp only [aA]
 rw [ow]
 rfl
theorem wX.own {l : List jM} {c : js} {names : List ByteArray} {w : ByteArray} (h : wX l c names w) : wX l c (l.map (·.kE)) w := by
 rcases h with h | h | h | ⟨d, g, i, b, _, a, j⟩
 ·exact .inl h
 ·exact .inr (.inl h)
 ·exact .inr (.inr (.inl h))
 ·exact .inr (.inr (.inr ⟨d, g, i, b, bI.2 ⟨_, a, rfl⟩, a, j⟩))
theorem wX.subset {a b : List jM} {c : js} {names : List ByteArray} {w : ByteArray} (h : wX a c names w) (d : ∀ f ∈ a, f ∈ b) : wX b c names w := by
 rcases h with h | h | h | ⟨i, j, k, g, l, m, n⟩
 ·exact .inl h
 ·exact .inr (.inl ⟨h.1, d _ h.2⟩)
 ·exact .inr (.inr (.inl ⟨h.1, d _ h.2.1, d _ h.2.2⟩))
 ·exact .inr (.inr (.inr ⟨i, j, k, g, l, d _ m, d _ n⟩))
def up (w : ByteArray) (g : ByteArray → Nat) : ByteArray → Nat := fun x => if kU w x = true then g x + 1 else g x
theorem QT (F : List jM) (w : ByteArray) (a : F.length ≤ 1000000000) : vH F w = some ((F.filter fun f => kU f.kE w).map (·.jr)) := by
 unfold vH
 rw [BM w F [] (by simp; omega)]
 simp
def busy : List Jg → Jg → Jg
 | [], b => b
 | p :: l, b => busy l (if p.Nq > b.Nq then p else b)
def tot {α : Type} (a : List (List α)) : Nat := (a.map List.length).sum
instance TJ : DecidableEq jr := fun a b => decidable_of_iff (jQ a b = true) jR
def Jt (F : List jM) (w : ByteArray) : List jr := (F.filter fun f => kU f.kE w).map (·.jr)
structure Q5 (l : List js) (F : List jM) : Prop where
 len : l.length ≤ 30000
 C : ∃ C : List js, AI (oJ C) F ∧ (∀ c, c ∈ C ↔ c ∈ l ∧ lK c = true) ∧ SM C
 ref : wV l = some F
theorem Rf (l : List js) (g : l.length ≤ 30000) : ∃ F, Q5 l F := by
 obtain ⟨C, F, e, h1, h⟩ := Qt l g
 obtain ⟨C1, T, j, ws, n, i, m1, a, d⟩ := IQ l (by omega)
 have b : ∀ c, c ∈ C ↔ c ∈ C1 := fun c => by rw [h, a]
 exact ⟨F, g, ⟨C1, ⟨h1.1, fun f => (h1.2 f).trans (oJ.congr b f)⟩, a, by unfold SM; omega⟩, e⟩
theorem Q5.Tw {l : List js} {F : List jM} (h : Q5 l F) : F.length ≤ 900000000 := by
 obtain ⟨C, h1, b, a⟩ := h.C
 exact Qm h1 a
def B8 (l : List Int) : Prop := ∀ x ∈ l, 0 ≤ x ∧ x < 256
def Mw : List ByteArray → List Key → Int
 | _, [] => 0
 | seen, k :: l => if nr k.kE = false then 30 else if k.Key.length < 1 ∨ 32 < k.Key.length then 21 else if po kU seen k.kE = true then 41 else Mw (seen ++ [k.kE]) l
def OH (l : List Key) : List (ByteArray × List Int) := l.map fun k => (k.kE, k.Key)
def OB (l : List Key) (o : ByteArray) : Option (List Int) := kZ kU (OH l) o
theorem QW {l : List Int} (h : l.length ≤ 1000000) : uu l = some l := by
 unfold uu
 rw [F9 (by simpa using h)]; rfl
theorem Ls : ∀ (l : List Key) (seen : List ByteArray), Mw seen l = 0 → ∀ k ∈ l, 1 ≤ k.Key.length ∧ k.Key.length ≤ 32
 | [], _, _, _, hk => by cases hk
 | x :: l, seen, h, k, hk => by
  unfold Mw at h
  split at h
  ·cases h
  split at h
  ·cases h
  split at h
  ·cases h
  rcases aP.1 hk with rfl | hk
  ·omega
  ·exact Ls l _ h k hk
theorem FV : ∀ (l : List Key) (o : ByteArray) (b : List Int), OB l o = some b → ∃ k ∈ l, k.Key = b
 | [], o, b, h => by cases h
 | x :: l, o, b, h => by
  unfold OB at h
  rw [show OH (x :: l) = (x.kE, x.Key) :: OH l from rfl, Br] at h
  split at h
  ·cases h; exact ⟨x, by simp, rfl⟩
  ·obtain ⟨k, hk, e⟩ := FV l o b h
   exact ⟨k, by simp [hk], e⟩
def K8 (l : List Key) : Prop := ∀ k ∈ l, B8 k.Key
structure Mk (ks : List Key) (c : js) (k : List Int) : Prop where
 ok : Mw [] ks = 0
 rt : lK c = true
 lk : OB ks c.Head.ju = some k
theorem Mk.len {ks : List Key} {c : js} {k : List Int} (h : Mk ks c k) : 1 ≤ k.length ∧ k.length ≤ 32 := by
 obtain ⟨q, a, rfl⟩ := FV _ _ _ h.lk
 exact Ls ks [] h.ok q a
theorem Mk.b8 {ks : List Key} {c : js} {k : List Int} (h : Mk ks c k) (hk : K8 ks) : B8 k := by
 obtain ⟨q, a, rfl⟩ := FV _ _ _ h.lk
 exact hk q a
theorem Mk.unique {ks : List Key} {c : js} {k k' : List Int} (h : Mk ks c k) (a : Mk ks c k') : k = k' := by
 have := h.lk; rw [a.lk] at this; cases this; rfl
mutual
def yO : Formula → List Int
 | ⟨o, k, r, ks⟩ => o :: (if o = 1 then sm r else (if o = 4 then [k] else []) ++ ((ks.length : Int) :: bytesFL ks))
def bytesFL : List Formula → List Int
 | [] => []
 | k :: ks => yO k ++ bytesFL ks
end
theorem HV (f : Formula) : yO f = f.Op :: (if f.Op = 1 then sm f.jr else (if f.Op = 4 then [f.K] else []) ++ ((f.Kids.length : Int) :: bytesFL f.Kids)) := by cases f; rw [yO]
theorem xA {f : Formula} (h : tp f = true) : f.Kids.length ≤ 8 ∧ wellL f.Kids = true ∧ ((f.Op = 1 ∧ lZ f.jr = true ∧ f.Kids = [] ∧ f.K = 0) ∨ ((f.Op = 2 ∨ f.Op = 3) ∧ f.jr = pO ∧ f.K = 0) ∨ (f.Op = 4 ∧ f.jr = pO ∧ 0 ≤ f.K ∧ f.K ≤ (f.Kids.length : Int) ∧ 1 ≤ f.Kids.length)) := by
 rw [F2] at h
 simp only [bF, bW] at h
 obtain ⟨⟨h1, a⟩, b⟩ := h
 refine ⟨a, b, ?_⟩
 unfold Dn at h1
 split at h1
 ·rename_i c
  simp only [bF, bW] at h1
  exact .inl ⟨c, h1.1.1, aW h1.1.2, h1.2⟩
 ·split at h1
  ·rename_i c
   simp only [bF, bW, jR] at h1
   exact .inr (.inl ⟨c, h1.1, h1.2⟩)
  ·simp only [bF, bW, jR] at h1
   exact .inr (.inr ⟨h1.1.1.1.1, h1.1.1.1.2, h1.1.1.2, h1.1.2, h1.2⟩)
theorem M5 : ∀ (n : Nat) (f : Formula), nJ f ≤ n → tp f = true → ∀ l : List Int, l.length + 40 * kx f ≤ 8000 → pN n l f = some (l ++ yO f) ∧ (yO f).length ≤ 40 * kx f := by
 intro n
 induction n with
 | zero => intro f h; rw [mF] at h; omega
 | succ n ih =>
  intro f t hw l r
  rw [mF] at t
  have u := nU f
  obtain ⟨h1, q, m⟩ := xA hw
  rw [pN]
  unfold vG
  have d : 0 ≤ f.Op ∧ f.Op < 128 := by rcases m with h | h | h <;> omega
  rw [yo d.1 d.2 (by omega), aA, HV]
  have key : ∀ (ks : List Formula), (∀ k ∈ ks, k ∈ f.Kids) → wellL ks = true → ∀ l : List Int, l.length + 40 * nodesL ks ≤ 8000 → qn (pN n) ks l = some (l ++ bytesFL ks) ∧ (bytesFL ks).length ≤ 40 * nodesL ks := by
   intro ks
   induction ks with
   | nil => intro _ _ l _; rw [qn, bytesFL]; simp
   | cons k ks p =>
    intro hk a l r
    rw [wellL, bF] at a
    rw [nodesL] at r
    obtain ⟨i, w⟩ := ih k (by have := qK (hk k (by simp)); omega) a.1 l (by omega)
    obtain ⟨b, j⟩ := p (fun z v => hk z (by simp [v])) a.2 (l ++ yO k) (by simp; omega)
    rw [qn, i, aA, b, bytesFL, nodesL]
    exact ⟨by simp, by simp; omega⟩
  have hlen : 0 ≤ (f.Kids.length : Int) ∧ (f.Kids.length : Int) < 128 := by omega
  by_cases c1 : f.Op = 1
  ·have s : lZ f.jr = true := by rcases m with h | h | h; exact h.2.1; omega; omega
   have := oG s
   simp only [c1, aX, aR]
   rw [J4 s (by simp; omega), aA]
   exact ⟨by simp, by simp; omega⟩
  ·have i : (f.Op == 1) = false := by simpa using c1
   simp only [i, aB, aI, c1]
   by_cases g : f.Op = 4
   ·have hk : 0 ≤ f.K ∧ f.K < 128 := by rcases m with h | h | h <;> omega
    simp only [g, aX, aR]
    rw [yo hk.1 hk.2 (by simp; omega)]
    simp only [aA]
    rw [yo hlen.1 hlen.2 (by simp; omega)]
    simp only [aA]
    obtain ⟨b, j⟩ := key f.Kids (fun k hk => hk) q (l ++ [4] ++ [f.K] ++ [(f.Kids.length : Int)]) (by simp; omega)
    rw [b]
    exact ⟨by simp, by simp; omega⟩
   ·have j : (f.Op == 4) = false := by simpa using g
    simp only [j, aB, aI, g, aA]
    rw [yo hlen.1 hlen.2 (by simp; omega)]
    simp only [aA]
    obtain ⟨b, x⟩ := key f.Kids (fun k hk => hk) q (l ++ [f.Op] ++ [(f.Kids.length : Int)]) (by simp; omega)
    rw [b]
    exact ⟨by simp, by simp; omega⟩
def yr (f : Formula) : List Int := if nB f then yO f else []
abbrev Gd (f : Formula) : Prop := kx f ≤ 50000000
theorem zn {f : Formula} (h : nB f = true) : kx f ≤ 64 ∧ nJ f ≤ 6 ∧ tp f = true := by
 unfold nB at h
 simp only [bF, bW] at h
 exact ⟨h.1.1, h.1.2, h.2⟩
theorem QO (f : Formula) (d : Gd f) (l : List Int) (j : l.length ≤ 5000) : wq l f = some (nB f, l ++ yr f) ∧ (yr f).length ≤ 2560 := by
 unfold wq yr
 rw [DC f d, aA]
 cases h : nB f
 ·simp
 ·obtain ⟨h1, i, b⟩ := zn h
  obtain ⟨a, g⟩ := M5 kd f (by rw [lX]; omega) b l (by omega)
  simp only [cI, aB, aI, a, aA, aR]
  exact ⟨trivial, by omega⟩
theorem Hd (f : Formula) (b : Gd f) : te f = some (yr f) := by
 unfold te
 obtain ⟨a, d⟩ := QO f b [] (by simp)
 rw [a, aA, ot]
 unfold tU
 simp only [aV]
 rw [QW (by omega)]
 rfl
def Bf (f g : Formula) : Int := yj (yr f) (yr g)
theorem ME (f g : Formula) (a : Gd f) (b : Gd g) : ta f g = some (Bf f g) := by
 unfold ta wy
 rw [Hd f a, Hd g b]
 rfl
theorem AE (f g : Formula) : nq Bf f g = Op.bytesLess (ui (yr f)) (ui (yr g)) := by
 rw [bU]
 have h : nq Bf f g = true ↔ Bf f g < 0 := by unfold nq; exact decide_eq_true_iff
 exact h.trans (Cs _ _)
theorem HS : SWO (nq Bf) where
 Pg x := by rw [AE, vw]
 tr x y z h1 a := by rw [AE] at *; exact yd _ _ _ h1 a
 MZ x y z h := by
  rw [AE] at h
  rw [AE, AE]
  rcases AO (ui (yr x)) (ui (yr y)) with h1 | h1 | h1
  ·exact .inl h1
  ·rw [h1] at h; exact .inr h
  ·exact .inr (yd _ _ _ h1 h)
def vg (l : List Formula) : List Formula := J0 (nq Bf) l
theorem IW (l : List Formula) (a : ∀ x ∈ l, Gd x) (b : l.length ≤ 300000) : vo l = some (vg l) := by
 unfold vo sf
 rw [me (by simp; omega) (by simp; omega)]
 simp only [aA, aV, ot]
 exact LS HS (fun x y d g => ME x y d g) l a b
theorem MM {α : Type} (lt : α → α → Bool) (l : List α) (k : α) : (Bc lt l k).Perm (l ++ [k]) := by
 unfold Bc
 refine List.perm_middle.trans ((List.Perm.cons _ ?_).trans (fU k l).symm)
 have := List.filter_append_perm (fun x => !lt k x) l
 simpa using this
theorem MO {α : Type} (lt : α → α → Bool) (l : List α) : (J0 lt l).Perm l := by
 suffices H : ∀ (l a : List α), (l.foldl (Bc lt) a).Perm (a ++ l) by have := H l []; rwa [aV] at this
 intro l
 induction l with
 | nil => intro a; simp
 | cons k l ih =>
  intro a
  rw [gl]
  refine (ih _).trans ?_
  have := (MM lt a k).append_right l
  simpa using this
theorem yw (l : List Formula) : (vg l).Perm l := MO _ l
noncomputable def qf (a b : Formula) : Bool := @decide (a = b) (Classical.propDecidable _)
theorem AB {a b : Formula} : qf a b = true ↔ a = b := by unfold qf; simp
theorem Qa (a b : Formula) (h : Gd a) : nX kd a b = some (qf a b) := by
 have := xh a
 obtain ⟨x, e, d⟩ := P3 kd a (by rw [lX]; omega) b
 rw [e]; congr 1
 rw [bU, d, AB]
def S5 : Formula := ⟨0, 0, ⟨zS, zS⟩, []⟩
theorem OD (f1 : Formula × Formula → Option Bool) (i : Int) : ∀ (n : Nat) (l : List Formula) (k j : Int), (∀ x ∈ l, ∀ y ∈ l, f1 (x, y) = some (qf x y)) → mE i f1 n l k j = Bh qf i n l k j
 | 0, l, k, j, _ => by rw [mE, Bh]
 | n + 1, l, k, j, h => by
  rw [mE, Bh]
  split
  ·cases g : lE (l.drop (Int.toNat i)) j with
   | none => rfl
   | some x =>
    cases p : lE (l.drop (Int.toNat i)) (wi0 .i64 (j - 1)) with
    | none => rfl
    | some y =>
     have d : x ∈ l := List.mem_of_mem_drop (cY (kj g))
     have r : y ∈ l := List.mem_of_mem_drop (cY (kj p))
     simp only [aA, h x d y r]
     cases qf x y
     ·simp only [dt, aR]
      cases s : lE l k with
      | none => rfl
      | some z =>
       simp only [aA]
       refine OD f1 i n _ _ _ (fun a ha b q => ?_)
       have m : ∀ a ∈ l.set (Int.toNat k) x, a ∈ l := fun a ha => by
        rcases List.mem_or_eq_of_mem_set ha with ha | rfl
        ·exact ha
        ·exact d
       exact h a (m a ha) b (m b q)
     ·simp only [cI, aB, aI, aA]
      exact OD f1 i n _ _ _ h
  ·rfl
theorem RJ (f1 : Formula × Formula → Option Bool) (l : List Formula) (h : ∀ x ∈ l, ∀ y ∈ l, f1 (x, y) = some (qf x y)) : ∀ (n : Nat) (i : Int), mC l f1 n i = BN qf S5 l n i
 | 0, i => by rw [mC, BN]
 | n + 1, i => by
  rw [mC, BN]
  split
  ·cases a : lE l i with
   | none => rfl
   | some x =>
    cases b : lE l (wi0 .i64 (i - 1)) with
    | none => rfl
    | some y =>
     have d : x ∈ l := cY (kj a)
     have g : y ∈ l := cY (kj b)
     simp only [aA, h x d y g]
     rw [OD f1 i kd l i 1 h, RJ f1 l h n]
     rfl
  ·rfl
theorem Mn (l : List Formula) (h : ∀ x ∈ l, Gd x) (b : l.length ≤ 300000) : pz l (fun x => nX kd x.1 x.2) = some (dd qf l) := by
 rw [← Kd qf S5 l (by omega)]
 unfold pz Jv
 rw [RJ _ l (fun x a y _ => Qa x y (h x a))]
def li (op : Int) (f : Formula) : Bool := decide (f.Op = op) && f.Kids.isEmpty
theorem Dp (f : Formula) (op : Int) : tH f op = some (li op f) := by
 unfold tH li
 rw [ot]
 by_cases h : f.Op = op
 ·simp only [h, aX, aR, bY, dO]
  congr 1
  cases hk : f.Kids with
  | nil => rfl
  | cons a l => simp; omega
 ·have e : (f.Op == op) = false := by simpa using h
  simp [e, h]
def nP (op : Int) : List Formula → List Formula
 | [] => []
 | k :: ks => (if k.Op = op then k.Kids else [k]) ++ nP op ks
theorem CZ (op : Int) : ∀ ks : List Formula, nodesL (nP op ks) ≤ nodesL ks
 | [] => aY _
 | k :: ks => by
  have ih := CZ op ks
  have e : ∀ a b : List Formula, nodesL (a ++ b) = nodesL a + nodesL b := by
   intro a b
   induction a with
   | nil => rw [aV, nodesL]; omega
   | cons x a d => rw [bE, nodesL, nodesL, d]; omega
  have := nU k
  rw [nP, e, nodesL]
  split
  ·omega
  ·rw [nodesL, nodesL]; omega
theorem HC (op : Int) : ∀ (ks acc : List Formula), acc.length + nodesL ks ≤ 100000000 → qm op ks acc = some (acc ++ nP op ks)
 | [], acc, _ => by rw [qm, nP, bJ]
 | k :: ks, acc, h => by
  rw [nodesL] at h
  have h1 := nU k
  have a := pM k.Kids
  rw [qm, nP]
  by_cases c : k.Op = op
  ·simp only [c, aX, aR]
   rw [me (by omega) (by omega), aA, HC op ks _ (by simp; omega), aJ]
  ·have e : (k.Op == op) = false := by simpa using c
   simp only [e, aB, aI, c]
   rw [me (by simp; omega) (by simp; omega), aA, HC op ks _ (by simp; omega), aJ]
noncomputable def oZ (op : Int) (ks : List Formula) : Formula :=
 if (nP op ks).any (li (5 - op)) then ⟨5 - op, 0, pO, []⟩ else
  match dd qf (vg (nP op ks)) with
  | [x] => x
  | r => ⟨op, 0, pO, r⟩
theorem J1 {α : Type} (eq : α → α → Bool) (l : List α) : (dd eq l).length ≤ l.length := by
 cases l with
 | nil => exact aY _
 | cons x l =>
  have : ∀ (l : List α) (x : α), (mO eq x l).length ≤ l.length := by
   intro l
   induction l with
   | nil => intro x; exact aY _
   | cons y l ih => intro x; rw [mO]; have := ih y; have := ih x; split <;> simp <;> omega
  have := this l x
  rw [dd, aK, aK]; omega
theorem EC (s : kG) (op : Int) (g : op = 2 ∨ op = 3) (ks : List Formula) (h : nodesL ks ≤ 64) : ob s op ks = some (oZ op ks, s) := by
 have h1 := CZ op ks
 have i := pM (nP op ks)
 have b : ∀ x ∈ nP op ks, Gd x := fun x a => by have := tD a; unfold Gd; omega
 have hw : wi0 .i64 (5 - op) = 5 - op := ko (by omega) (by omega)
 unfold ob Ah oZ
 rw [HC op ks [] (by simp; omega), aA, aV, hw, Fu _ (li (5 - op)) _ (fun x _ => by unfold qD; rw [Dp, ot]), aA]
 cases j : (nP op ks).any (li (5 - op))
 ·simp only [aB, aI]
  have hp := yw (nP op ks)
  have l := hp.length_eq
  rw [IW _ b (by omega), aA, Mn _ (fun x a => b x (hp.mem_iff.1 a)) (by omega), aA]
  have k := J1 qf (vg (nP op ks))
  have d : ¬ (((dd qf (vg (nP op ks))).length : Int) > 64) := by omega
  simp only [d, cD, aB, aI, aA]
  generalize dd qf (vg (nP op ks)) = r
  match r with
  | [] => rfl
  | [x] => rfl
  | x :: y :: r =>
   have : (((x :: y :: r).length : Int) == 1) = false := by simp; omega
   simp only [this, aB, aI]
   rfl
 ·rfl
noncomputable def sW (k : Int) (ks : List Formula) : Formula :=
 let n := k - ((ks.filter (li 2)).length : Int)
 let l := ks.filter fun x => !li 2 x && !li 3 x
 if n ≤ 0 then ⟨2, 0, pO, []⟩ else if n > (l.length : Int) then ⟨3, 0, pO, []⟩ else if n = (l.length : Int) then oZ 2 l else if n = 1 then oZ 3 l else ⟨4, n, pO, vg l⟩
theorem yT (p : Formula → Bool) : ∀ ks : List Formula, nodesL (ks.filter p) ≤ nodesL ks
 | [] => aY _
 | k :: ks => by
  have := yT p ks
  rw [dJ]
  split
  ·rw [nodesL, nodesL]; omega
  ·rw [nodesL]; omega
theorem As (s : kG) : ∀ (ks acc : List Formula) (k : Int), -1000 ≤ k - (ks.length : Int) → k ≤ 1000 → acc.length + ks.length ≤ 1000 → nodesL (acc ++ ks.filter fun x => !li 2 x && !li 3 x) ≤ 64 →
  mB s ks k acc = some (let n := k - ((ks.filter (li 2)).length : Int); let l := acc ++ ks.filter fun x => !li 2 x && !li 3 x; if n ≤ 0 then ⟨2, 0, pO, []⟩ else if n > (l.length : Int) then ⟨3, 0, pO, []⟩ else if n = (l.length : Int) then oZ 2 l else if n = 1 then oZ 3 l else ⟨4, n, pO, vg l⟩, s)
 | [], acc, k, h1, g, h, a => by
  simp only [gZ, bJ, bL] at a ⊢
  rw [mB]
  simp only [Int.ofNat_zero, Int.sub_zero, yP, zl, aA, Int.natCast_zero]
  have p := pM acc
  by_cases c1 : k ≤ 0
  ·simp only [c1, bY, aR]; rfl
  ·simp only [c1, cD, aB, aI]
   by_cases c2 : k > (acc.length : Int)
   ·simp only [c2, bY, aR]; rfl
   ·simp only [c2, cD, aB, aI]
    by_cases b : k = (acc.length : Int)
    ·simp only [← b, aX, aR]
     rw [EC s 2 (.inl rfl) acc a, aA]
    ·have i : (k == (acc.length : Int)) = false := by simpa using b
     simp only [i, aB, aI, b]
     by_cases d : k = 1
     ·simp only [d, aX, aR]
      rw [EC s 3 (.inr rfl) acc a, aA]
     ·have j : (k == 1) = false := by simpa using d
      simp only [j, aB, aI, d]
      rw [IW acc (fun x m => by have := tD m; unfold Gd; omega) (by omega)]
      rfl
 | x :: ks, acc, k, h1, g, h, a => by
  simp only [aK] at h1 h
  rw [mB, Dp, aA, Dp, aA]
  rw [dJ, dJ] at *
  cases c2 : li 2 x
  ·cases b : li 3 x
   ·simp only [c2, b, dt, iR, aB, aI, aR] at a ⊢
    rw [me (by simp; omega) (by simp; omega), aA, As s ks _ k (by omega) g (by simp; omega) (by rw [aJ]; exact a)]
    simp only [aJ, bE, aV]
   ·simp only [c2, b, dt, cI, iG, aB, aI] at a ⊢
    rw [As s ks _ k (by omega) g (by omega) a]
  ·simp only [c2, cI, fV, aB, aI, aR] at a ⊢
   rw [ko (by omega) (by omega), As s ks _ (k - 1) (by omega) (by omega) (by omega) a]
   simp only [aK]
   have e : k - 1 - ((ks.filter (li 2)).length : Int) = k - (((ks.filter (li 2)).length + 1 : Nat) : Int) := by omega
   rw [e]
theorem Mr (s : kG) (k : Int) (hk : 0 ≤ k ∧ k ≤ 1000) (ks : List Formula) (h : nodesL ks ≤ 64) : qE s k ks = some (sW k ks, s) := by
 have := pM ks
 have := yT (fun x => !li 2 x && !li 3 x) ks
 unfold qE sW
 rw [As s ks [] k (by omega) (by omega) (by simp; omega) (by simpa using by omega)]
 rfl
mutual
noncomputable def pE : Formula → Formula
 | ⟨o, k, r, ks⟩ => if o = 1 then ⟨o, k, r, ks⟩ else if o = 4 then sW k (shapeL ks) else oZ o (shapeL ks)
noncomputable def shapeL : List Formula → List Formula
 | [] => []
 | k :: ks => pE k :: shapeL ks
end
theorem zW (f : Formula) : pE f = if f.Op = 1 then f else if f.Op = 4 then sW f.K (shapeL f.Kids) else oZ f.Op (shapeL f.Kids) := by cases f; rw [pE]
theorem Fy {a b : List Formula} (h : a.Perm b) : nodesL a = nodesL b := by
 induction h with
 | nil => rfl
 | cons x _ ih => rw [nodesL, nodesL, ih]
 | swap x y l => rw [nodesL, nodesL, nodesL, nodesL]; omega
 | trans _ _ h1 d => rw [h1, d]
theorem DB (eq : Formula → Formula → Bool) : ∀ (l : List Formula) (x : Formula), nodesL (mO eq x l) ≤ nodesL l
 | [], x => aY _
 | y :: l, x => by
  have h1 := DB eq l y
  have a := DB eq l x
  rw [mO]
  split
  ·rw [nodesL]; omega
  ·rw [nodesL, nodesL]; omega
theorem On (eq : Formula → Formula → Bool) (l : List Formula) : nodesL (dd eq l) ≤ nodesL l := by
 cases l with
 | nil => exact aY _
 | cons x l => have := DB eq l x; rw [dd, nodesL, nodesL]; omega
theorem A8 (op : Int) (ks : List Formula) : kx (oZ op ks) ≤ 1 + nodesL ks := by
 unfold oZ
 split
 ·rw [kx, nodesL]; omega
 ·have h1 := On qf (vg (nP op ks))
  have a := Fy (yw (nP op ks))
  have b := CZ op ks
  generalize dd qf (vg (nP op ks)) = r at *
  split
  ·rename_i x
   rw [nodesL, nodesL] at h1; omega
  ·rw [kx]; omega
theorem IH (k : Int) (ks : List Formula) : kx (sW k ks) ≤ 1 + nodesL ks := by
 have h := yT (fun x => !li 2 x && !li 3 x) ks
 unfold sW
 simp only
 generalize ks.filter (fun x => !li 2 x && !li 3 x) = l at *
 generalize k - ((ks.filter (li 2)).length : Int) = n
 split
 ·rw [kx, nodesL]; omega
 ·split
  ·rw [kx, nodesL]; omega
  ·split
   ·have := A8 2 l; omega
   ·split
    ·have := A8 3 l; omega
    ·have := Fy (yw l); rw [kx]; omega
theorem zK : ∀ f : Formula, kx (pE f) ≤ kx f := by
 refine I4 fun f ih => ?_
 have h : ∀ ks : List Formula, (∀ k ∈ ks, kx (pE k) ≤ kx k) → nodesL (shapeL ks) ≤ nodesL ks := by
  intro ks
  induction ks with
  | nil => intro _; rw [shapeL]; exact aY _
  | cons k ks a =>
   intro h
   have := a (fun x b => h x (by simp [b]))
   have := h k (by simp)
   rw [shapeL, nodesL, nodesL]; omega
 have h := h f.Kids ih
 rw [zW, nU f]
 split
 ·rw [nU]; omega
 ·split
  ·have := IH f.K (shapeL f.Kids); omega
  ·have := A8 f.Op (shapeL f.Kids); omega
theorem D5 (ks : List Formula) : nodesL (shapeL ks) ≤ nodesL ks := by
 induction ks with
 | nil => rw [shapeL]; exact aY _
 | cons k ks ih => have := zK k; rw [shapeL, nodesL, nodesL]; omega
theorem OO : ∀ (n : Nat) (f : Formula), nJ f ≤ n → kx f ≤ 64 → tp f = true → ∀ s : kG, nc n s f = some (pE f, s) := by
 intro n
 induction n with
 | zero => intro f h; rw [mF] at h; omega
 | succ n ih =>
  intro f r v hw s
  rw [mF] at r
  have t := nU f
  obtain ⟨h1, q, l⟩ := xA hw
  rw [nc]
  unfold rY
  rw [zW]
  by_cases c1 : f.Op = 1
  ·simp only [c1, aX, aR]
  ·have m : (f.Op == 1) = false := by simpa using c1
   simp only [m, aB, aI, c1]
   have key : ∀ (ks acc : List Formula), (∀ k ∈ ks, k ∈ f.Kids) → wellL ks = true → nodesL (acc ++ shapeL ks) ≤ 64 → nodesL ks ≤ 64 → nH (nc n) f ks acc s = some (if f.Op = 4 then sW f.K (acc ++ shapeL ks) else oZ f.Op (acc ++ shapeL ks), s) := by
    intro ks
    induction ks with
    | nil =>
     intro acc _ _ d _
     rw [shapeL, bJ] at *
     rw [nH]
     by_cases g : f.Op = 4
     ·simp only [g, aX, aR]
      rw [Mr s f.K (by rcases l with h | h | h <;> omega) acc d, aA]
     ·have p : (f.Op == 4) = false := by simpa using g
      simp only [p, aB, aI, g]
      rw [EC s f.Op (by rcases l with h | h | h <;> omega) acc d, aA]
    | cons k ks j =>
     intro acc hk a d i
     rw [wellL, bF] at a
     rw [nodesL] at i
     rw [shapeL] at d
     have b := pM (acc ++ pE k :: shapeL ks)
     simp only [aF, aK] at b
     rw [nH, ih k (by have := qK (hk k (by simp)); omega) (by omega) a.1 s, aA, me (by simp; omega) (by simp; omega), aA,
      j (acc ++ [pE k]) (fun z u => hk z (by simp [u])) a.2 (by rw [aJ]; exact d) (by omega), shapeL]
     simp only [aJ, bE, aV]
   have := D5 f.Kids
   have := key f.Kids [] (fun k hk => hk) q (by simpa using by omega) (by omega)
   simpa using this
def FD : Formula := ⟨0, 0, pO, []⟩
noncomputable def xn (f : Formula) : Formula × Int := if nB f then (if nB (pE f) then (pE f, 0) else (FD, 12)) else (FD, 11)
theorem KI (f : Formula) (h : Gd f) : xJ f = some (xn f) := by
 unfold xJ xn
 rw [DC f h, aA]
 cases b : nB f
 ·rfl
 ·obtain ⟨h1, d, a⟩ := zn b
  have g := zK f
  simp only [cI, aB, aI, aR]
  rw [OO kd f (by rw [lX]; omega) h1 a, aA, DC (pE f) (by omega)]
  have e : (((⟨0⟩ : kG).e) != 0) = false := rfl
  simp only [e, aB, aI, aA]
  cases nB (pE f) <;> rfl
theorem yp {f : Formula} : kx (xn f).1 ≤ 64 := by
 unfold xn
 cases h : nB f
 ·exact by simp only [aB, aI, FD]; rw [kx, nodesL]; omega
 ·obtain ⟨h1, a, b⟩ := zn h
  have := zK f
  simp only [aR]
  split
  ·show kx (pE f) ≤ 64; omega
  ·rw [FD, kx, nodesL]; omega
theorem Qu (f g : Formula) (a : kx f ≤ 10000000) (b : kx g ≤ 10000000) : xS f g = some (xn ⟨2, 0, pO, [f, g]⟩) := by
 unfold xS
 have := KI ⟨2, 0, pO, [f, g]⟩ (by show kx _ ≤ _; rw [kx, nodesL, nodesL, nodesL]; omega)
 rw [show (⟨2, 0, (⟨zS, zS⟩ : jr), [f, g]⟩ : Formula) = ⟨2, 0, pO, [f, g]⟩ from rfl, this]
 rfl
mutual
def pR (v : jr → Bool) : Formula → Bool
 | ⟨o, k, r, ks⟩ => if o = 1 then v r else if o = 2 then decide (evN v ks = ks.length) else if o = 3 then decide (0 < evN v ks) else decide (k ≤ (evN v ks : Int))
def evN (v : jr → Bool) : List Formula → Nat
 | [] => 0
 | k :: ks => (if pR v k then 1 else 0) + evN v ks
end
theorem vp (v : jr → Bool) (f : Formula) : pR v f = if f.Op = 1 then v f.jr else if f.Op = 2 then decide (evN v f.Kids = f.Kids.length) else if f.Op = 3 then decide (0 < evN v f.Kids) else decide (f.K ≤ (evN v f.Kids : Int)) := by cases f; rw [pR]
theorem GL (v : jr → Bool) : ∀ ks : List Formula, evN v ks ≤ ks.length
 | [] => by rw [evN]; exact aY _
 | k :: ks => by have := GL v ks; rw [evN, aK]; split <;> omega
theorem Hm (v : jr → Bool) : ∀ ks : List Formula, evN v ks = ks.length ↔ ∀ k ∈ ks, pR v k = true
 | [] => by rw [evN]; simp
 | k :: ks => by
  have h1 := GL v ks
  have a := Hm v ks
  rw [evN, aK]
  simp only [gT, ← a]
  cases pR v k <;> simp <;> omega
theorem Ho (v : jr → Bool) : ∀ ks : List Formula, 0 < evN v ks ↔ ∃ k ∈ ks, pR v k = true
 | [] => by rw [evN]; simp
 | k :: ks => by
  have a := Ho v ks
  rw [evN]
  simp only [aP, exists_eq_or_imp, ← a]
  cases pR v k <;> simp <;> omega
theorem GX (v : jr → Bool) (ks : List Formula) : evN v ks = (ks.filter (pR v)).length := by
 induction ks with
 | nil => rw [evN]; rfl
 | cons k ks ih => rw [evN, ih, dJ]; cases pR v k <;> simp <;> omega
theorem OY (v : jr → Bool) {a b : List Formula} (h : a.Perm b) : evN v a = evN v b := by
 rw [GX, GX]; exact (h.filter _).length_eq
theorem Qq {v w : jr → Bool} (h : ∀ r, v r = true → w r = true) : ∀ f : Formula, pR v f = true → pR w f = true := by
 refine I4 fun f ih => ?_
 have key : evN v f.Kids ≤ evN w f.Kids := by
  have : ∀ ks : List Formula, (∀ k ∈ ks, pR v k = true → pR w k = true) → evN v ks ≤ evN w ks := by
   intro ks
   induction ks with
   | nil => intro _; rw [evN, evN]; exact aY _
   | cons k ks a =>
    intro hk
    have h1 := a (fun x g => hk x (by simp [g]))
    have b := hk k (by simp)
    rw [evN, evN]
    cases d : pR v k
    ·simp; omega
    ·rw [b d]; simp; omega
  exact this _ ih
 have hle := GL w f.Kids
 rw [vp, vp]
 split
 ·exact h _
 ·split
  ·simp only [bW]; omega
  ·split
   ·simp only [bW]; omega
   ·simp only [bW]; omega
theorem D8 (v : jr → Bool) (f1 : jr → Option Bool) (rec : Formula → (jr → Option Bool) → Option Bool) (f : Formula) : ∀ (ks : List Formula) (x : Nat), (∀ k ∈ ks, rec k f1 = some (pR v k)) → x + ks.length ≤ 100000000 →
  pq rec f1 f ks (x : Int) = some (if f.Op = 2 then decide (x + evN v ks = f.Kids.length) else if f.Op = 3 then decide (0 < x + evN v ks) else decide (f.K ≤ ((x + evN v ks : Nat) : Int)))
 | [], x, _, _ => by
  rw [pq, evN, fW]
  by_cases c2 : f.Op = 2
  ·simp only [c2, aX, aR]
   congr 1
   rw [bU, iA, bW]; omega
  ·have b : (f.Op == 2) = false := by simpa using c2
   simp only [b, aB, aI, c2]
   by_cases a : f.Op = 3
   ·simp only [a, aX, aR]
    congr 1
    rw [bU, bW, bW]; omega
   ·have g : (f.Op == 3) = false := by simpa using a
    simp only [g, aB, aI, a]
 | k :: ks, x, h, i => by
  rw [aK] at i
  rw [pq, h k (by simp), aA, evN]
  cases pR v k
  ·simp only [aB, aI]
   rw [D8 v f1 rec f ks x (fun z d => h z (by simp [d])) (by omega), dV]
  ·simp only [aR]
   have e : wi0 .i64 ((x : Int) + 1) = ((x + 1 : Nat) : Int) := by rw [ko (by omega) (by omega)]; omega
   rw [e, D8 v f1 rec f ks (x + 1) (fun z d => h z (by simp [d])) (by omega)]
   have b : x + 1 + evN v ks = x + (1 + evN v ks) := by omega
   rw [b]
theorem Nd (v : jr → Bool) (f1 : jr → Option Bool) (i : ∀ r, f1 r = some (v r)) : ∀ (n : Nat) (f : Formula), nJ f ≤ n → Gd f → pP n f f1 = some (pR v f) := by
 intro n
 induction n with
 | zero => intro f h; rw [mF] at h; omega
 | succ n ih =>
  intro f b d
  rw [mF] at b
  have g := nU f
  have j := pM f.Kids
  unfold Gd at d
  rw [pP]
  unfold vA
  rw [vp]
  by_cases c1 : f.Op = 1
  ·simp only [c1, aX, aR, i, aA]
  ·have a : (f.Op == 1) = false := by simpa using c1
   simp only [a, aB, aI, c1]
   have := D8 v f1 (pP n) f f.Kids 0 (fun k hk => ih k (by have := qK hk; omega) (by have := tD hk; unfold Gd; omega)) (by omega)
   simpa using this
def ux (v : jr → Bool) (f : Formula) : Bool := nB f && pR v f
theorem LG (v : jr → Bool) (f1 : jr → Option Bool) (a : ∀ r, f1 r = some (v r)) (f : Formula) (h : Gd f) : vn f f1 = some (ux v f) := by
 unfold vn ux
 rw [DC f h, aA]
 have := xh f
 cases nB f
 ·rfl
 ·unfold Gd at h
  simp only [aR, Nd v f1 a kd f (by rw [lX]; omega) h, aA, dO]
theorem GB (op : Int) (f : Formula) : li op f = true ↔ f.Op = op ∧ f.Kids = [] := by
 unfold li; simp
theorem HZ (v : jr → Bool) {f : Formula} (h : li 2 f = true) : pR v f = true := by
 obtain ⟨h1, a⟩ := (GB 2 f).1 h
 rw [vp, h1, a, evN]; rfl
theorem Ic (v : jr → Bool) {f : Formula} (h : li 3 f = true) : pR v f = false := by
 obtain ⟨h1, a⟩ := (GB 3 f).1 h
 rw [vp, h1, a, evN]; rfl
def uc (v : jr → Bool) (ks : List Formula) : Bool := ks.all (pR v)
def uH (v : jr → Bool) (ks : List Formula) : Bool := ks.any (pR v)
theorem KG (v : jr → Bool) (k : Int) (r : jr) (ks : List Formula) : pR v ⟨2, k, r, ks⟩ = uc v ks := by
 rw [vp, bU]; simp [uc, Hm]
theorem NK (v : jr → Bool) (k : Int) (r : jr) (ks : List Formula) : pR v ⟨3, k, r, ks⟩ = uH v ks := by
 rw [vp, bU]; simp [uH, Ho]
theorem I8 (v : jr → Bool) : ∀ ks : List Formula, uc v (nP 2 ks) = uc v ks
 | [] => rfl
 | k :: ks => by
  have ih := I8 v ks
  unfold uc at ih ⊢
  rw [nP, List.all_append, ih, gQ]
  congr 1
  split
  ·rename_i h
   obtain ⟨o, n, r, l⟩ := k
   simp only at h; subst h
   exact (KG v n r l).symm
  ·simp
theorem I2 (v : jr → Bool) : ∀ ks : List Formula, uH v (nP 3 ks) = uH v ks
 | [] => rfl
 | k :: ks => by
  have ih := I2 v ks
  unfold uH at ih ⊢
  rw [nP, List.any_append, ih, gk]
  congr 1
  split
  ·rename_i h
   obtain ⟨o, n, r, l⟩ := k
   simp only at h; subst h
   exact (NK v n r l).symm
  ·simp
theorem Ni (l : List Formula) (x : Formula) : x ∈ dd qf (vg l) ↔ x ∈ l := by
 rw [Jr (fun _ _ => AB), (yw l).mem_iff]
theorem NC {v : jr → Bool} {a b : List Formula} (h : ∀ x, x ∈ a ↔ x ∈ b) : uc v a = uc v b := by
 unfold uc; rw [bU, eW, eW]
 exact ⟨fun q x d => q x ((h x).2 d), fun q x d => q x ((h x).1 d)⟩
theorem Nn {v : jr → Bool} {a b : List Formula} (h : ∀ x, x ∈ a ↔ x ∈ b) : uH v a = uH v b := by
 unfold uH; rw [bU, ei, ei]
 exact ⟨fun ⟨x, d, q⟩ => ⟨x, (h x).1 d, q⟩, fun ⟨x, d, q⟩ => ⟨x, (h x).2 d, q⟩⟩
theorem G2 (v : jr → Bool) (ks : List Formula) : pR v (oZ 2 ks) = uc v ks := by
 rw [← I8]
 unfold oZ
 split
 ·rename_i h
  rw [show (5 - 2 : Int) = 3 from rfl, NK]
  obtain ⟨x, a, he⟩ := ei.1 h
  have : uc v (nP 2 ks) = false := by
   unfold uc; rw [List.all_eq_false]; exact ⟨x, a, by rw [Ic v he]; simp⟩
  rw [this]; rfl
 ·rw [← NC (Ni (nP 2 ks))]
  generalize dd qf (vg (nP 2 ks)) = r
  split
  ·simp [uc]
  ·exact KG v 0 pO r
theorem GR (v : jr → Bool) (ks : List Formula) : pR v (oZ 3 ks) = uH v ks := by
 rw [← I2]
 unfold oZ
 split
 ·rename_i h
  rw [show (5 - 3 : Int) = 2 from rfl, KG]
  obtain ⟨x, a, he⟩ := ei.1 h
  have : uH v (nP 3 ks) = true := by
   unfold uH; rw [ei]; exact ⟨x, a, HZ v he⟩
  rw [this]; rfl
 ·rw [← Nn (Ni (nP 3 ks))]
  generalize dd qf (vg (nP 3 ks)) = r
  split
  ·simp [uH]
  ·exact NK v 0 pO r
theorem Il (v : jr → Bool) : ∀ ks : List Formula, evN v ks = (ks.filter (li 2)).length + evN v (ks.filter fun x => !li 2 x && !li 3 x)
 | [] => rfl
 | k :: ks => by
  have ih := Il v ks
  rw [evN, dJ, dJ, ih]
  cases a : li 2 k
  ·cases b : li 3 k
   ·simp only [dt, iR, aB, aI, aR]
    rw [evN]; omega
   ·rw [Ic v b]; simp
  ·rw [HZ v a]; simp; omega
theorem Mx (v : jr → Bool) (k : Int) (ks : List Formula) : pR v (sW k ks) = decide (k ≤ (evN v ks : Int)) := by
 have b := Il v ks
 unfold sW
 simp only
 generalize a : ks.filter (fun x => !li 2 x && !li 3 x) = l at *
 generalize (ks.filter (li 2)).length = m at *
 have hle := GL v l
 have ha := Hm v l
 have hp := Ho v l
 split
 ·rw [KG]; simp [uc]; omega
 ·split
  ·rw [NK]; simp [uH]; omega
  ·split
   ·rw [G2, bU, bW]
    unfold uc
    rw [eW, ← ha]; omega
   ·split
    ·rw [GR, bU, bW]
     unfold uH
     rw [ei, ← hp]; omega
    ·rw [vp]
     simp only [OY v (yw l)]
     have : ¬ ((4 : Int) = 1) := by omega
     have : ¬ ((4 : Int) = 2) := by omega
     have : ¬ ((4 : Int) = 3) := by omega
     simp only [*, aI]
     rw [bU, bW, bW]; omega
theorem Ov (v : jr → Bool) : ∀ f : Formula, tp f = true → pR v (pE f) = pR v f := by
 refine I4 fun f ih hw => ?_
 obtain ⟨h1, g, i⟩ := xA hw
 rw [EE, eW] at g
 have key : ∀ ks : List Formula, (∀ k ∈ ks, pR v (pE k) = pR v k) → evN v (shapeL ks) = evN v ks ∧ uc v (shapeL ks) = uc v ks ∧ uH v (shapeL ks) = uH v ks := by
  intro ks
  induction ks with
  | nil => intro _; rw [shapeL]; exact ⟨rfl, rfl, rfl⟩
  | cons k ks d =>
   intro hk
   obtain ⟨a, b, c⟩ := d (fun x j => hk x (by simp [j]))
   have h := hk k (by simp)
   unfold uc uH at *
   rw [shapeL, evN, evN, a, h, gQ, gQ, gk, gk, b, c, h]
   exact ⟨rfl, rfl, rfl⟩
 obtain ⟨a, b, c⟩ := key f.Kids (fun k hk => ih k hk (g k hk))
 obtain ⟨o, n, r, l⟩ := f
 simp only at *
 rw [zW]
 simp only
 rcases i with h | h | h
 ·simp only [h.1, aR]
 ·rcases h.1 with h | h
  ·subst h
   rw [KG]
   exact (G2 v _).trans b
  ·subst h
   rw [NK]
   exact (GR v _).trans c
 ·obtain ⟨h, _⟩ := h
  subst h
  rw [vp v ⟨4, n, r, l⟩]
  exact (Mx v n _).trans (by rw [a]; rfl)
theorem M2 {f g : Formula} (h : xn f = (g, 0)) : nB f = true ∧ nB g = true ∧ ∀ v, pR v g = pR v f := by
 unfold xn at h
 cases a : nB f
 ·rw [a] at h; simp at h
 ·rw [a] at h
  simp only [aR] at h
  cases b : nB (pE f)
  ·rw [b] at h; simp at h
  ·rw [b] at h
   simp only [aR, Prod.mk.injEq] at h
   obtain ⟨rfl, _⟩ := h
   exact ⟨rfl, b, fun v => Ov v f (zn a).2.2⟩
def S8 (l : List Signed) : Prop := ∀ s ∈ l, B8 s.Tag
theorem Dd (b : List js) (x : js) : si b x = some (po lD b x) := by
 obtain ⟨q, e, h⟩ := JK x b
 unfold pB at e
 rw [ot] at e
 rw [e, show q = po lD b x from by rw [bU, h, sX nN]]
structure Ou (l : List js) (F : List jM) : Prop where
 len : F.length ≤ 900000000
 ref : wV l = some F
 T6 : ∃ m, wW l = some m ∧ we m.1 m.2.1 m.2.2.1 m.2.2.2.1 m.2.2.2.2.1 m.2.2.2.2.2 = some F ∧ ∀ r w, tT m.1 m.2.1 m.2.2.1 m.2.2.2.1 m.2.2.2.2.1 m.2.2.2.2.2 r w = some (po AD F ⟨r, w⟩)
 xC : ∀ C : List js, (∀ c, c ∈ C ↔ c ∈ l ∧ lK c = true) → AI (oJ C) F
theorem TH (l : List js) (x : l.length ≤ 30000) : ∃ F, Ou l F := by
 obtain ⟨F, h⟩ := Rf l x
 refine ⟨F, h.Tw, h.ref, ?_, fun C t => ?_⟩
 ·obtain ⟨C, h1, d, s⟩ := h.C
  obtain ⟨C1, T, m, ws, n, p, m1, g, j⟩ := IQ l (by omega)
  have a : ∀ c, c ∈ C1 ↔ c ∈ C := fun c => by rw [d, g]
  have k : AI (oJ C1) F := ⟨h1.1, fun f => (h1.2 f).trans (oJ.congr a f).symm⟩
  have u : SM C1 := by unfold SM; omega
  refine ⟨_, p, ?_, fun r w => ?_⟩
  ·obtain ⟨F1, q, i⟩ := O4 u.small m1 C1 m ws [] n
   rw [← i.unique k]; exact q
  ·obtain ⟨b, e, v⟩ := Ju m1 C1 m ws [] n r w
   rw [e, show b = po AD F ⟨r, w⟩ from by rw [bU, v, sX zt, k.2]]
 ·obtain ⟨C', h1, d, s⟩ := h.C
  have a : ∀ c, c ∈ C' ↔ c ∈ C := fun c => by rw [d, t]
  exact ⟨h1.1, fun f => (h1.2 f).trans (oJ.congr a f)⟩
structure PB (p : kL) : Prop where
 IT : p.jN.length ≤ 2000000
 Om : p.ky.length ≤ 2000000
 rel : ∀ x ∈ p.jN, kx x.jB ≤ 10000000
 OE : ∀ a ∈ p.ky, kx a.jB ≤ 10000000
 TL : ∀ a ∈ p.ky, a.mu.length ≤ 2000000
theorem JD (f : kD → Option Bool) : ∀ (l : List kD) (i : Nat), ng f l i = zg f l i
 | [], i => by rw [ng]; rfl
 | x :: l, i => by
  rw [ng, zg]
  cases f x with
  | none => rfl
  | some b =>
   simp only [aA]
   rw [JD f l (i + 1)]
theorem I1 (f : nF → Option Bool) : ∀ (l : List nF) (i : Nat), nR f l i = zg f l i
 | [], i => by rw [nR]; rfl
 | x :: l, i => by
  rw [nR, zg]
  cases f x with
  | none => rfl
  | some b =>
   simp only [aA]
   rw [I1 f l (i + 1)]
def zD (p : kL) (c : js) : Option kD := p.jN.find? fun x => lD x.Signed.js c
theorem QF (p : kL) (c : js) : ∃ z, yH p c = some (match zD p c with | some x => (x, true) | none => (z, false)) := by
 unfold yH sV zD
 rw [JD]
 rcases De (fun x => wo x c) (fun x => lD x.Signed.js c) p.jN 0 (fun x _ => rfl) with ⟨e, h1⟩ | ⟨A, x, B, hp, h1, b, e⟩
 ·rw [e, aA, gr.2 (fun x a => by rw [h1 x a]; simp)]
  exact ⟨_, rfl⟩
 ·rw [e, aA, hp, iN, gr.2 (fun x a => by rw [h1 x a]; simp), fK, b]
  have : ¬ (((0 + A.length : Nat) : Int) < 0) := by omega
  simp only [this, cD, aB, aI]
  rw [mL A x B _ (by omega)]
  exact ⟨x, rfl⟩
def RS : nF := ⟨⟨zS, zS⟩, ⟨0, 0, ⟨zS, zS⟩, []⟩, []⟩
theorem I6 (f : nF → Option Bool) : ∀ (n : Nat) (l : List nF) (i j : Int), nG f n l i j = Dg f RS n l i j
 | 0, _, _, _ => rfl
 | n + 1, l, i, j => by
  rw [nG, Dg]
  simp only [I6 f n]
  rfl
def yJ (p : kL) (c : js) : List nF := p.ky.filter fun a => po lD a.mu c
theorem OR (p : kL) (hp : PB p) (c : js) : xU p c = some (yJ p c) := by
 have := hp.Om
 unfold xU uF yJ
 rw [me (by simp; omega) (by simp; omega)]
 simp only [aA, aV, ot]
 have : rA p.ky (fun x => sa x c) = HB (fun x => sa x c) RS p.ky := by
  unfold rA HB uO
  simp only [I1, I6]
 rw [this, FP _ (fun a => !po lD a.mu c) RS _ (by omega) (fun a _ => by unfold sa pB; rw [ot, Dd]; rfl)]
 simp only [gG]
noncomputable def pc : Formula × Int → List Formula → Formula × Int
 | t, [] => t
 | t, g :: l => if t.2 = 0 then pc (xn ⟨2, 0, pO, [t.1, g]⟩) l else t
theorem KC : ∀ (l : List Formula) (e o k : Int) (r : jr) (ks : List Formula), (∀ g ∈ l, kx g ≤ 10000000) → kx ⟨o, k, r, ks⟩ ≤ 64 →
  tF l e o k r ks = some ((pc (⟨o, k, r, ks⟩, e) l).2, (pc (⟨o, k, r, ks⟩, e) l).1.Op, (pc (⟨o, k, r, ks⟩, e) l).1.K, (pc (⟨o, k, r, ks⟩, e) l).1.jr, (pc (⟨o, k, r, ks⟩, e) l).1.Kids)
 | [], e, o, k, r, ks, _, _ => by rw [tF, pc]
 | g :: l, e, o, k, r, ks, h, m => by
  rw [tF, pc]
  by_cases c : e = 0
  ·have a : (e != 0) = false := by simp [c]
   simp only [a, aB, aI, c, aR]
   rw [Qu _ g (by omega) (h g (by simp)), aA]
   have d := yp (f := ⟨2, 0, pO, [⟨o, k, r, ks⟩, g]⟩)
   generalize xn ⟨2, 0, pO, [⟨o, k, r, ks⟩, g]⟩ = q at *
   obtain ⟨⟨o', k', j, b⟩, e'⟩ := q
   exact KC l e' o' k' j b (fun z i => h z (by simp [i])) d
  ·have a : (e != 0) = true := by simp [c]
   simp only [a, aR, c, aI]
noncomputable def B4 (g : Formula) (l : List Formula) : Formula × Int := if (pc (xn g) l).2 = 0 then pc (xn g) l else (FD, (pc (xn g) l).2)
theorem Ql (g : Formula) (l : List Formula) (m : kx g ≤ 10000000) (h : ∀ x ∈ l, kx x ≤ 10000000) : vW (g :: l) = some (B4 g l) := by
 unfold vW B4
 have b : lE (g :: l) 0 = some g := mL [] g l 0 rfl
 have a : rF (decide (0 ≤ 1) && decide ((1 : Int) ≤ ((g :: l).length : Int))) = some () := by
  rw [aK]
  have : (1 : Int) ≤ ((l.length + 1 : Nat) : Int) := by omega
  simp [rF]; omega
 have i := yp (f := g)
 rw [b, aA, KI g (by unfold Gd; omega), aA, a, aA]
 generalize xn g = q at *
 obtain ⟨⟨o, k, r, ks⟩, e⟩ := q
 have d : (g :: l).drop (Int.toNat 1) = l := rfl
 rw [d, KC l e o k r ks h i, aA]
 generalize pc (⟨o, k, r, ks⟩, e) l = t
 obtain ⟨⟨o', k', n, j⟩, e'⟩ := t
 by_cases c : e' = 0
 ·subst c; rfl
 ·have a : (e' != 0) = true := by simp [c]
  simp only [a, aR, c, aI]; rfl
noncomputable def pv (p : kL) (c : js) : Formula × Int := match zD p c with | none => (FD, 42) | some x => B4 x.jB ((yJ p c).map (·.jB))
theorem NH : ∀ (l : List nF) (acc : List Formula), acc.length + l.length ≤ 3000000 → uk l acc = vW (acc ++ l.map (·.jB))
 | [], acc, _ => by
  rw [uk, eG, bJ]
  cases vW acc <;> rfl
 | a :: l, acc, h => by
  rw [aK] at h
  rw [uk, me (by simp; omega) (by simp; omega), aA, NH l _ (by simp; omega)]
  simp
theorem OP {p : kL} {c : js} {x : kD} (h : zD p c = some x) : x ∈ p.jN ∧ x.Signed.js = c := by
 unfold zD at h
 have h1 := List.mem_of_find?_eq_some h
 have a := List.find?_some h
 exact ⟨h1, nN.1 a⟩
theorem RN (p : kL) (hp : PB p) (c : js) : Au p c = some (pv p c) := by
 unfold Au pv
 obtain ⟨z, e⟩ := QF p c
 rw [e, aA]
 cases h : zD p c with
 | none => rfl
 | some x =>
  simp only [cI, aB, aI]
  have d := OP h
  have i : (yJ p c).length ≤ p.ky.length := eu _ _
  have := hp.Om
  rw [OR p hp c, aA, NH _ _ (by simp; omega)]
  exact Ql x.jB _ (hp.rel x d.1) (fun g b => by
   obtain ⟨a, ha, rfl⟩ := bI.1 b
   exact hp.OE a (cN.1 ha).1)
theorem HT (p : kL) (c : js) : kx (pv p c).1 ≤ 64 := by
 have a : kx FD ≤ 64 := by rw [FD, kx, nodesL]; omega
 have b : ∀ (l : List Formula) (t : Formula × Int), kx t.1 ≤ 64 → kx (pc t l).1 ≤ 64 := by
  intro l
  induction l with
  | nil => intro t h; exact h
  | cons g l ih =>
   intro t h
   rw [pc]
   split
   ·exact ih _ yp
   ·exact h
 unfold pv
 split
 ·exact a
 ·unfold B4
  split
  ·exact b _ _ yp
  ·exact a
theorem JI : ∀ (l : List Formula) (f : Formula) (e : Int), (pc (f, e) l).2 = 0 → e = 0 ∧ (nB f = true → nB (pc (f, e) l).1 = true ∧ ∀ v, pR v (pc (f, e) l).1 = (pR v f && l.all (pR v)))
 | [], f, e, h => by rw [pc] at *; exact ⟨h, fun j => ⟨j, fun v => by simp⟩⟩
 | g :: l, f, e, h => by
  rw [pc] at *
  by_cases c : e = 0
  ·simp only [c, aR] at h ⊢
   cases a : xn ⟨2, 0, pO, [f, g]⟩ with
   | mk q e' =>
    rw [a] at h
    obtain ⟨h1, i⟩ := JI l q e' h
    subst h1
    obtain ⟨k, a2, a3⟩ := M2 a
    obtain ⟨b, d⟩ := i a2
    refine ⟨trivial, fun _ => ⟨b, fun v => ?_⟩⟩
    rw [d v, a3 v, KG]
    simp [uc, gF]
  ·simp only [c, aI] at h
theorem M7 {p : kL} {c : js} (h : (pv p c).2 = 0) : nB (pv p c).1 = true ∧ ∃ x, zD p c = some x ∧ ∀ v, pR v (pv p c).1 = (pR v x.jB && (yJ p c).all fun a => pR v a.jB) := by
 unfold pv at *
 cases g : zD p c with
 | none => rw [g] at h; simp at h
 | some x =>
  rw [g] at h
  simp only at h ⊢
  unfold B4 at *
  by_cases b : (pc (xn x.jB) ((yJ p c).map (·.jB))).2 = 0
  ·simp only [b, aR] at h ⊢
   cases d : xn x.jB with
   | mk q e =>
    rw [d] at b
    obtain ⟨h1, k⟩ := JI _ q e b
    subst h1
    obtain ⟨l, a2, a3⟩ := M2 d
    obtain ⟨i, j⟩ := k a2
    refine ⟨i, x, rfl, fun v => ?_⟩
    rw [j v, a3 v, List.all_map]
    rfl
  ·simp only [b, aI] at h
def vF (F : List jM) (peer : ByteArray) (r : jr) : Bool := po AD F ⟨r, peer⟩
theorem Qe {l : List js} {F : List jM} (h : Ou l F) (peer : ByteArray) : ∃ m, vj l peer = some m ∧ ∀ r, pQ r m.1 m.2.1 m.2.2.1 m.2.2.2.1 m.2.2.2.2.1 m.2.2.2.2.2.1 m.2.2.2.2.2.2 = some (vF F peer r) := by
 obtain ⟨m, e, _, a⟩ := h.T6
 unfold vj
 rw [e, aA]
 refine ⟨_, rfl, fun r => ?_⟩
 unfold pQ
 rw [ot]
 exact a r peer
noncomputable def zI (p : kL) (v : jr → Bool) (x : kD) : Bool := decide ((pv p x.Signed.js).2 = 0) && ux v (pv p x.Signed.js).1
theorem Ca (p : kL) (hp : PB p) (v : jr → Bool) (m) (a : ∀ r, pQ r m.1 m.2.1 m.2.2.1 m.2.2.2.1 m.2.2.2.2.1 m.2.2.2.2.2.1 m.2.2.2.2.2.2 = some (v r)) : ∀ (l : List kD) (acc : List js), acc.length + l.length ≤ 1000000000 →
  qT p m l acc = uD (acc ++ (l.filter (zI p v)).map (·.Signed.js))
 | [], acc, _ => by
  rw [qT, gZ, eG, bJ, ot]
 | x :: l, acc, h => by
  rw [aK] at h
  have b := HT p x.Signed.js
  rw [qT, RN p hp, aA, LG v _ a _ (by unfold Gd; omega), dJ]
  unfold zI
  by_cases c : (pv p x.Signed.js).2 = 0
  ·simp only [c, aX, aR, bY, dO, aA]
   cases d : ux v (pv p x.Signed.js).1
   ·simp only [aB, aI]
    exact Ca p hp v m a l acc (by omega)
   ·simp only [aR]
    rw [me (by simp; omega) (by simp; omega), aA, Ca p hp v m a l _ (by simp; omega)]
    simp only [bH, aJ, bE, aV]
    rfl
  ·have e : ((pv p x.Signed.js).2 == 0) = false := by simpa using c
   simp only [e, aB, aI, c, cD, fV, aA]
   exact Ca p hp v m a l acc (by omega)
theorem PU (p : kL) (hp : PB p) {l : List js} {F : List jM} (h : Ou l F) (peer : ByteArray) : ∃ s, pj p l peer = some s ∧ JO ((p.jN.filter (zI p (vF F peer))).map (·.Signed.js)) s := by
 obtain ⟨m, e, a⟩ := Qe h peer
 have := hp.IT
 unfold pj
 rw [e, aA, Ca p hp _ m a p.jN [] (by simp; omega), aV]
 have h1 : (p.jN.filter (zI p (vF F peer))).length ≤ p.jN.length := eu _ _
 exact Oc _ (by simp; omega)
structure PG (p : kL) : Prop extends PB p where
 TK : ∀ x ∈ p.jN, xV x.Signed.js ≤ 1000000000
 TZ : ∀ a ∈ p.ky, ∀ c ∈ a.mu, xV c ≤ 1000000000
def gX : jr := ⟨⟨#[120]⟩, ⟨#[121]⟩⟩
def gc : js := ⟨1, gX, ⟨#[109, 101]⟩, ⟨zS, zS⟩, ⟨zS, zS⟩, zS⟩
noncomputable def vD (l : List js) (peer : ByteArray) (r : jr) : Bool := @decide (oJ (l.filter lK) ⟨r, peer⟩) (Classical.propDecidable _)
theorem EA (l : List js) (peer : ByteArray) (r : jr) : vD l peer r = true ↔ oJ (l.filter lK) ⟨r, peer⟩ := by unfold vD; simp
theorem PO {l m : List js} (h : ∀ c ∈ l, c ∈ m) (peer : ByteArray) (r : jr) (b : vD l peer r = true) : vD m peer r = true := by
 rw [EA] at *
 exact b.mono (fun c a => by rw [cN] at *; exact ⟨h c a.1, a.2⟩)
theorem Sw (l : List js) (h : l.length ≤ 1000000) (peer : ByteArray) : ∃ m, vj l peer = some m ∧ ∀ r, pQ r m.1 m.2.1 m.2.2.1 m.2.2.2.1 m.2.2.2.2.1 m.2.2.2.2.2.1 m.2.2.2.2.2.2 = some (vD l peer r) := by
 obtain ⟨C, T, i, ws, n, e, m, d, _⟩ := IQ l h
 unfold vj
 rw [e, aA]
 refine ⟨_, rfl, fun r => ?_⟩
 unfold pQ
 rw [ot]
 obtain ⟨b, a, g⟩ := Ju m C i ws [] n r peer
 rw [a]
 congr 1
 rw [bU, g, EA]
 exact oJ.congr (fun c => by rw [d, cN]) _
noncomputable def MQ (p : kL) (v : jr → Bool) (c : js) : Bool := decide ((pv p c).2 = 0) && ux v (pv p c).1
theorem Og {p : kL} {v w : jr → Bool} (h : ∀ r, v r = true → w r = true) (c : js) (a : MQ p v c = true) : MQ p w c = true := by
 unfold MQ ux at *
 simp only [bF, bW] at *
 exact ⟨a.1, a.2.1, Qq h _ a.2.2⟩
def oe (s : List js) : Prop := s.Pairwise (fun a b => AV a b = true) ∧ ∀ c ∈ s, lK c = true
theorem oe.nodup {s : List js} (h : oe s) : s.Nodup := uN CF h.2 h.1
theorem oe.le {s t : List js} (h : oe s) (a : ∀ c ∈ s, c ∈ t) : s.length ≤ t.length := lQ h.nodup a
theorem oe.ext {s t : List js} (h : oe s) (k : oe t) (b : ∀ c, c ∈ s ↔ c ∈ t) : s = t :=
 wx.unique CF (l := t) ⟨h.1, fun x => ⟨fun a => ⟨(b x).1 a, h.2 x a⟩, fun a => (b x).2 a.1⟩⟩ ⟨k.1, fun x => ⟨fun a => ⟨a, k.2 x a⟩, fun a => a.1⟩⟩
theorem oe.eq {s t : List js} (h : oe s) (k : oe t) (b : ∀ c ∈ s, c ∈ t) (i : t.length ≤ s.length) : s = t := by
 refine h.ext k fun c => ⟨b c, fun d => ?_⟩
 refine fc fun g => ?_
 have := lQ (l := c :: s) (m := t) (cV.2 ⟨g, h.nodup⟩) (fun x a => by
  rcases aP.1 a with rfl | a
  ·exact d
  ·exact b x a)
 simp at this; omega
theorem oe.nil : oe [] := ⟨by simp, by simp⟩
theorem oe.filter {s : List js} (h : oe s) (p : js → Bool) : oe (s.filter p) := ⟨h.1.filter _, fun c a => h.2 c (cN.1 a).1⟩
def DX (p : kL) (c : js) : Prop := ∃ x ∈ p.jN, x.Signed.js = c
def qS (p : kL) (l : List js) (peer : ByteArray) (c : js) : Prop := DX p c ∧ lK c = true ∧ MQ p (vD l peer) c = true
theorem zJ {p : kL} {l m : List js} (h : ∀ c ∈ l, c ∈ m) {peer : ByteArray} {c : js} (a : qS p l peer c) : qS p m peer c := ⟨a.1, a.2.1, Og (PO h peer) c a.2.2⟩
theorem tG {p : kL} {s : List js} (h : oe s) (b : ∀ c ∈ s, DX p c) : s.length ≤ p.jN.length := by
 have := h.le (t := p.jN.map (·.Signed.js)) (fun c a => by obtain ⟨x, d, e⟩ := b c a; exact bI.2 ⟨x, d, e⟩)
 simpa using this
theorem LN (p : kL) (hp : PB p) (l : List js) (n : l.length ≤ 1000000) (peer : ByteArray) : ∃ s, pj p l peer = some s ∧ oe s ∧ (∀ c, c ∈ s ↔ qS p l peer c) ∧ s.length ≤ p.jN.length := by
 obtain ⟨m, e, q⟩ := Sw l n peer
 have := hp.IT
 unfold pj
 rw [e, aA, Ca p hp _ m q p.jN [] (by simp; omega), aV]
 have h1 : (p.jN.filter (zI p (vD l peer))).length ≤ p.jN.length := eu _ _
 obtain ⟨s, j, a⟩ := Oc ((p.jN.filter (zI p (vD l peer))).map (·.Signed.js)) (by simp; omega)
 have i : oe s := ⟨a.1, fun c d => ((a.2 c).1 d).2⟩
 have hm : ∀ c, c ∈ s ↔ qS p l peer c := fun c => by
  rw [a.2, bI]
  constructor
  ·rintro ⟨⟨x, h, rfl⟩, g⟩
   obtain ⟨k, b⟩ := cN.1 h
   exact ⟨⟨x, k, rfl⟩, g, b⟩
  ·rintro ⟨⟨x, h, rfl⟩, g, b⟩
   exact ⟨⟨x, cN.2 ⟨h, b⟩, rfl⟩, g⟩
 exact ⟨s, j, i, hm, tG i (fun c d => ((hm c).1 d).1)⟩
def oY : Formula := ⟨2, 0, pO, []⟩
def LU (l : List kD) (d : js) : Option Formula := (l.find? fun x => lD x.Signed.js d).map (·.jB)
theorem NE (n : ByteArray) (l : List kD) (k : List nF) (c : js) : DX ⟨n, l, k⟩ c ↔ c ∈ l.map (·.Signed.js) := by
 unfold DX; rw [bI]
theorem Ny (n : ByteArray) (l : List kD) (c : js) : pv ⟨n, l, []⟩ c = match LU l c with | none => (FD, 42) | some r => B4 r [] := by
 unfold pv zD LU yJ
 simp only
 cases l.find? (fun x => lD x.Signed.js c) <;> rfl
theorem PT : B4 oY [] = (oY, 0) := by
 have h1 : nB oY = true := by decide +kernel
 have d : pE oY = oY := by
  rw [zW]
  have a : ¬ (oY.Op = 1) := by decide
  have b : ¬ (oY.Op = 4) := by decide
  simp only [a, b, aI]
  rw [show oY.Kids = [] from rfl, shapeL]
  unfold oZ
  rw [nP]
  rfl
 have g : xn oY = (oY, 0) := by unfold xn; rw [h1, d, h1]; rfl
 unfold B4
 rw [g, pc]; rfl
structure PP (p : na) : Prop where
 o : PG p.ju
 c : PG p.Client
 lo : p.ju.jN.length ≤ 600000
 lc : p.Client.jN.length ≤ 600000
 f : kx p.Formula ≤ 10000000
def N9 : ByteArray := ⟨#[111, 119, 110]⟩
def OU : ByteArray := ⟨#[99, 108, 105]⟩
def sY : jr := ⟨⟨#[120]⟩, ⟨#[121]⟩⟩
def sc : js := ⟨1, sY, OU, ⟨zS, zS⟩, ⟨zS, zS⟩, zS⟩
def ua (r : jr) : Formula := ⟨1, 0, r, []⟩
def HR (c : js) (f : Formula) : kD := ⟨⟨c, List.replicate 8 0⟩, f⟩
def sC (f : Formula) : kL := ⟨OU, [HR sc f], []⟩
theorem Q6 : lK sc = true := by decide +kernel
theorem KQ (v : jr → Bool) (r : jr) : pR v (ua r) = v r := by rw [vp]; rfl
theorem Qc (c d : js) (f : Formula) : LU [HR c f] d = if lD c d then some f else none := by
 unfold LU
 rw [fK, show (HR c f).Signed.js = c from rfl]
 cases lD c d <;> rfl
theorem NJ {n : ByteArray} {c d : js} {f : Formula} : DX ⟨n, [HR c f], []⟩ d ↔ d = c := by
 rw [NE]; show d ∈ [c] ↔ _; simp
theorem O1 {n : ByteArray} {c : js} (a : lK c = true) (l : List js) (peer : ByteArray) (d : js) : qS ⟨n, [HR c oY], []⟩ l peer d ↔ d = c := by
 unfold qS
 rw [NJ]
 constructor
 ·exact fun h => h.1
 ·rintro rfl
  refine ⟨rfl, a, ?_⟩
  unfold MQ
  rw [Ny, Qc, bD (nN.2 rfl)]
  simp only [PT]
  unfold ux
  rw [show nB oY = true by decide +kernel, vp]
  rfl
theorem Rz {c : js} (a : lK c = true) (hk : c.Kind = 1) {l : List js} (h : c ∈ l) : vD l c.kE c.Head = true := by
 rw [EA]
 exact .mem c (cN.2 ⟨h, a⟩) hk
theorem QS (peer : ByteArray) (r : jr) : vD [] peer r = false := by
 rw [← eC, EA]
 intro h
 obtain ⟨c, a, _⟩ := h.head
 cases a
theorem RP : ∀ (n : Nat) (f : Formula), nJ f ≤ n → Gd f → ri n f = some (kx f : Int) := by
 intro n
 induction n with
 | zero => intro f h; rw [mF] at h; omega
 | succ n ih =>
  intro f d g
  rw [mF] at d
  have a := nU f
  unfold Gd at g
  rw [ri]
  unfold wI
  have key : ∀ (ks : List Formula) (x : Nat), (∀ k ∈ ks, k ∈ f.Kids) → x + nodesL ks ≤ 50000000 → rT (ri n) ks (x : Int) = some ((x + nodesL ks : Nat) : Int) := by
   intro ks
   induction ks with
   | nil => intro x _ _; rw [rT, nodesL]; rfl
   | cons k ks b =>
    intro x hk i
    rw [nodesL] at i
    rw [rT, ih k (by have := qK (hk k (by simp)); omega) (by have := tD (hk k (by simp)); unfold Gd; omega), aA]
    have w : wi0 .i64 ((x : Int) + (kx k : Int)) = ((x + kx k : Nat) : Int) := by rw [ko (by omega) (by omega)]; omega
    rw [w, b _ (fun z j => hk z (by simp [j])) (by omega), nodesL]
    congr 2; omega
  have := key f.Kids 1 (fun k hk => hk) (by omega)
  rw [a]
  exact this
theorem SX : ∀ (n : Nat) (f : Formula), nJ f ≤ n → Gd f → sn n f = some (nJ f : Int) := by
 intro n
 induction n with
 | zero => intro f h; rw [mF] at h; omega
 | succ n ih =>
  intro f d g
  rw [mF] at d ⊢
  have i := nU f
  have hle := xh f
  rw [mF] at hle
  unfold Gd at g
  rw [sn]
  unfold xy
  have key : ∀ (ks : List Formula) (x : Nat), (∀ k ∈ ks, k ∈ f.Kids) → max x (deepL ks) ≤ 50000000 → sI (sn n) ks (x : Int) = some ((max x (deepL ks) + 1 : Nat) : Int) := by
   intro ks
   induction ks with
   | nil =>
    intro x _ a
    rw [deepL] at a
    rw [sI, deepL, ko (by omega) (by omega)]
    congr 1; omega
   | cons k ks b =>
    intro x hk a
    rw [deepL] at a
    rw [sI, ih k (by have := qK (hk k (by simp)); omega) (by have := tD (hk k (by simp)); unfold Gd; omega), aA]
    have w : (if (nJ k : Int) > (x : Int) then (nJ k : Int) else (x : Int)) = ((max x (nJ k) : Nat) : Int) := by split <;> omega
    rw [w, b _ (fun z j => hk z (by simp [j])) (by omega), deepL]
    congr 2; omega
  have := key f.Kids 0 (fun k hk => hk) (by omega)
  rw [Nat.zero_max] at this
  exact this
theorem Sd : ∀ (n : Nat) (f : Formula), nJ f ≤ n → sF n f = some (tp f) := by
 intro n
 induction n with
 | zero => intro f h; rw [mF] at h; omega
 | succ n ih =>
  intro f h
  rw [mF] at h
  have key : ∀ ks : List Formula, (∀ k ∈ ks, k ∈ f.Kids) → sP (sF n) ks = some (wellL ks) := by
   intro ks
   induction ks with
   | nil => intro _; rw [sP, wellL]
   | cons k ks p =>
    intro hk
    rw [sP, ih k (by have := qK (hk k (by simp)); omega), aA, p (fun z r => hk z (by simp [r])), wellL]
    cases tp k <;> rfl
  have hk := key f.Kids (fun k hk => hk)
  rw [sF]
  unfold xv
  rw [hk, F2, AY]
  unfold Dn
  simp only [aA]
  by_cases c1 : f.Op = 1
  ·simp only [c1, aX, aR]
   cases s : lZ f.jr
   ·simp
   ·by_cases b : f.Kids.length = 0
    ·have e : f.Kids = [] := aW b
     by_cases m : f.K = 0 <;> simp [e, m, wellL]
    ·have : ((f.Kids.length : Int) == 0) = false := by rw [fz]; omega
     simp [this, b]
  ·have q : (f.Op == 1) = false := by simpa using c1
   simp only [q, aB, aI, c1]
   by_cases i : f.Op = 2 ∨ f.Op = 3
   ·have j : ¬ f.Op < 1 := by omega
    have a2 : ¬ f.Op > 4 := by omega
    have a3 : f.Op < 4 := by omega
    have a4 : (f.Op == 4) = false := by rw [fz]; omega
    simp only [j, a2, a3, a4, i, cD, bY, aB, aI, aR, aA]
    cases g : jQ f.jr ⟨zS, zS⟩
    ·simp [pO, g]
    ·by_cases b : f.Kids.length ≤ 8
     ·have d : ¬ ((f.Kids.length : Int) > 8) := by omega
      by_cases m : f.K = 0 <;> simp [pO, g, b, d, m]
     ·have d : ((f.Kids.length : Int) > 8) := by omega
      simp [pO, g, b, d]
   ·by_cases l : f.Op = 4
    ·have j : ¬ f.Op < 1 := by omega
     have a2 : ¬ f.Op > 4 := by omega
     have a3 : ¬ f.Op < 4 := by omega
     simp only [j, a2, a3, i, cD, aB, aI, aA]
     simp only [l, aX, aR, bY, dO]
     cases g : jQ f.jr ⟨zS, zS⟩
     ·simp [pO, g]
     ·by_cases b : f.Kids.length ≤ 8
      ·have d : ¬ ((f.Kids.length : Int) > 8) := by omega
       by_cases d1 : 1 ≤ f.Kids.length
       ·have g1 : ¬ ((f.Kids.length : Int) < 1) := by omega
        by_cases d2 : 0 ≤ f.K
        ·have g2 : ¬ f.K < 0 := by omega
         by_cases d3 : f.K ≤ (f.Kids.length : Int)
         ·have g3 : ¬ f.K > (f.Kids.length : Int) := by omega
          simp [pO, g, b, d, d1, g1, d2, g2, d3, g3]
         ·have g3 : f.K > (f.Kids.length : Int) := by omega
          simp [pO, g, b, d, d1, g1, d2, g2, d3, g3]
        ·have g2 : f.K < 0 := by omega
         simp [pO, g, b, d, d1, g1, d2, g2]
       ·have g1 : ((f.Kids.length : Int) < 1) := by omega
        simp [pO, g, b, d, d1, g1]
      ·have d : ((f.Kids.length : Int) > 8) := by omega
       simp [pO, g, b, d]
    ·have a : f.Op < 1 ∨ f.Op > 4 := by omega
     rcases a with a | a
     ·simp [a, i, l]
     ·have : ¬ f.Op < 1 := by omega
      simp [a, this, i, l]
theorem Ke (f : Formula) (h : Gd f) : rk f = some (nB f) := by
 have b := xh f
 have a := h
 unfold Gd at a
 unfold rk nB
 rw [RP kd f (by rw [lX]; omega) h, SX kd f (by rw [lX]; omega) h, Sd kd f (by rw [lX]; omega)]
 simp only [aA]
 by_cases c1 : kx f ≤ 64
 ·have d1 : ((kx f : Int) ≤ 64) := by omega
  by_cases c2 : nJ f ≤ 6
  ·have d2 : ((nJ f : Int) ≤ 6) := by omega
   simp [c1, c2, d1, d2]
  ·have d2 : ¬ ((nJ f : Int) ≤ 6) := by omega
   simp [c1, c2, d1, d2]
 ·have d1 : ¬ ((kx f : Int) ≤ 64) := by omega
  simp [c1, d1]
end Go.Proofs.YtjjjihkifgdhgaaGreat
