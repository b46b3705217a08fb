/- a part of a proof of ChangeMoves -/
import Derived.Test.YtjjjihkifgdhgaaGreatDoorRtWm
import Derived.Test.YtjjjihkifgdhgaaGreatDoorDM6Mm
set_option linter.all false
namespace Go.Proofs.YtjjjihkifgdhgaaGreatDoor
open Go.IntKind renaming wrap → wi0
open Go.RowKit
section
variable {α : Type}
structure SWO (lt : α → α → Bool) : Prop where
 Qn : ∀ x, lt x x = false
 tr : ∀ x y z, lt x y = true → lt y z = true → lt x z = true
 NZ : ∀ x y z, lt x z = true → lt x y = true ∨ lt y z = true
variable {lt : α → α → Bool}
theorem SWO.asym (h : SWO lt) {x y : α} (a : lt x y = true) : lt y x = false := by
 cases e : lt y x
 ·rfl
 ·have := h.tr _ _ _ a e; rw [h.Qn] at this; cases this
def tl (lt : α → α → Bool) (p q : α × Nat) : Prop := lt p.1 q.1 = true ∨ (lt q.1 p.1 = false ∧ p.2 < q.2)
theorem DG (h : SWO lt) {p q r : α × Nat} (a : tl lt p q) (b : tl lt q r) : tl lt p r := by
 unfold tl at *
 rcases a with a | ⟨a, a2⟩ <;> rcases b with b | ⟨b, d⟩
 ·exact .inl (h.tr _ _ _ a b)
 ·rcases h.NZ _ r.1 _ a with c | c
  ·exact .inl c
  ·rw [b] at c; cases c
 ·rcases h.NZ _ p.1 _ b with c | c
  ·rw [a] at c; cases c
  ·exact .inl c
 ·refine .inr ⟨?_, by omega⟩
  cases e : lt r.1 p.1
  ·rfl
  ·rcases h.NZ _ q.1 _ e with c | c
   ·rw [b] at c; cases c
   ·rw [a] at c; cases c
theorem QW (h : SWO lt) {p q : α × Nat} (a : tl lt p q) (b : tl lt q p) : False := by
 have c := DG h a b
 rcases c with c | ⟨_, c⟩
 ·rw [h.Qn] at c; cases c
 ·omega
abbrev og (lt : α → α → Bool) (t : List (α × Nat)) : Prop := t.Pairwise (tl lt)
theorem HV (h : SWO lt) : ∀ {t u : List (α × Nat)}, og lt t → og lt u → t.Perm u → t = u
 | [], u, _, _, hp => by rw [List.nil_perm] at hp; exact hp.symm
 | p :: t, [], _, _, hp => by simp at hp
 | p :: t, q :: u, h1, b, hp => by
  have e : p = q := by
   rcases aR.1 (hp.mem_iff.1 (.head _)) with e | d
   ·exact e
   ·rcases aR.1 (hp.mem_iff.2 (.head _)) with e | a
    ·exact e.symm
    ·exact (QW h ((cH.1 h1).1 _ a) ((cH.1 b).1 _ d)).elim
  subst e
  rw [HV h (cH.1 h1).2 (cH.1 b).2 (List.Perm.cons_inv hp)]
def BI (lt : α → α → Bool) (l : List α) (k : α) : List α := l.filter (fun x => !lt k x) ++ k :: l.filter (fun x => lt k x)
def KS (lt : α → α → Bool) (l : List α) : List α := l.foldl (BI lt) []
def GQ (lt : α → α → Bool) (t : List (α × Nat)) (k : α × Nat) : List (α × Nat) := t.filter (fun x => !lt k.1 x.1) ++ k :: t.filter (fun x => lt k.1 x.1)
theorem Pu (t : List (α × Nat)) (k : α × Nat) : (GQ lt t k).map (·.1) = BI lt (t.map (·.1)) k.1 := by
 simp [GQ, BI, List.filter_map, fA]
theorem OZ (t : List (α × Nat)) (k : α × Nat) : (GQ lt t k).Perm (t ++ [k]) := by
 unfold GQ
 refine List.perm_middle.trans ?_
 refine (List.Perm.cons _ ?_).trans (fG k t).symm
 have := List.filter_append_perm (fun x : α × Nat => !lt k.1 x.1) t
 simpa using this
theorem Qj (h : SWO lt) {t : List (α × Nat)} {k : α × Nat} (i : og lt t) (hk : ∀ x ∈ t, x.2 < k.2) : og lt (GQ lt t k) := by
 unfold GQ og
 rw [cU, cH]
 refine ⟨i.filter _, ⟨fun x b => ?_, i.filter _⟩, fun x b y d => ?_⟩
 ·exact .inl (cT.1 b).2
 ·obtain ⟨h1, g⟩ := cT.1 b
  simp only [fD, ] at g
  have a : tl lt x k := .inr ⟨g, hk x h1⟩
  rcases aR.1 d with rfl | d
  ·exact a
  ·exact DG h a (.inl (cT.1 d).2)
theorem TJ (h : SWO lt) (l : List α) : ∃ t, og lt t ∧ t.Perm l.zipIdx ∧ t.map (·.1) = KS lt l := by
 suffices H : ∀ (l r : List α) (t : List (α × Nat)), og lt t → t.Perm r.zipIdx → ∃ u, og lt u ∧ u.Perm (r ++ l).zipIdx ∧ u.map (·.1) = l.foldl (BI lt) (t.map (·.1)) by
  obtain ⟨u, h1, d, i⟩ := H l [] [] .nil (by simp)
  exact ⟨u, h1, by simpa using d, i⟩
 intro l
 induction l with
 | nil => intro r t h1 d; exact ⟨t, h1, by simpa using d, rfl⟩
 | cons k l ih =>
  intro r t h1 d
  obtain ⟨u, g, a2, a3⟩ := ih (r ++ [k]) (GQ lt t (k, r.length)) (Qj h h1 (fun x j => by
   obtain ⟨a, b⟩ := x
   have := List.snd_lt_of_mem_zipIdx (d.mem_iff.1 j)
   simpa using this)) ((OZ t _).trans (by rw [List.zipIdx_append]; simpa using d.append_right _))
  refine ⟨u, g, by simpa using a2, ?_⟩
  rw [a3, Pu]
  rfl
theorem Ry (h : SWO lt) {l : List α} {t : List (α × Nat)} (h1 : og lt t) (b : t.Perm l.zipIdx) : t.map (·.1) = KS lt l := by
 obtain ⟨u, a, a2, a3⟩ := TJ h l
 rw [← a3, HV h h1 a (b.trans a2.symm)]
end
section
variable {α : Type} {lt : α → α → Bool}
abbrev Lk (lt : α → α → Bool) (A B : List (α × Nat)) : Prop := ∀ A' a b B', A = A' ++ [a] → B = b :: B' → tl lt a b
theorem As (h : SWO lt) {A B : List (α × Nat)} (k : og lt A) (m : og lt B) (l : Lk lt A B) : ∀ a ∈ A, ∀ b ∈ B, tl lt a b := by
 intro a ha b d
 rcases du A with rfl | ⟨A', z, rfl⟩
 ·cases ha
 cases B with
 | nil => cases d
 | cons y B' =>
  have h1 : tl lt z y := l A' z y B' (by simp) rfl
  have g : a = z ∨ tl lt a z := by
   simp only [dO, aW, bP] at ha
   rcases ha with ha | ha
   ·refine .inr ?_
    simp only [dO, og, cU] at k
    exact k.2.2 a ha z (by simp)
   ·exact .inl ha
  have i : b = y ∨ tl lt y b := by
   rcases aR.1 d with d | d
   ·exact .inl d
   ·exact .inr ((cH.1 m).1 b d)
  have j : tl lt a y := by
   rcases g with rfl | g
   ·exact h1
   ·exact DG h g h1
  rcases i with rfl | i
  ·exact j
  ·exact DG h j i
theorem JZ (h : SWO lt) {A B : List (α × Nat)} (a : og lt A) (b : og lt B) (l : Lk lt A B) : og lt (A ++ B) :=
 cU.2 ⟨a, b, As h a b l⟩
theorem og.left {A B : List (α × Nat)} (h : og lt (A ++ B)) : og lt A := (cU.1 h).1
theorem og.right {A B : List (α × Nat)} (h : og lt (A ++ B)) : og lt B := (cU.1 h).2.1
theorem og.two {A B : List (α × Nat)} (h : og lt (A ++ B)) : ∀ a ∈ A, ∀ b ∈ B, tl lt a b := (cU.1 h).2.2
theorem II (h : SWO lt) {A B : List (α × Nat)} {x : α × Nat} (g : og lt (A ++ B)) (j : Lk lt A [x]) (k : Lk lt [x] B) : og lt (A ++ x :: B) := by
 have h1 := As h g.left (gi _ x) j
 have i := As h (gi _ x) g.right k
 refine cU.2 ⟨g.left, cH.2 ⟨fun b d => i x (by simp) b d, g.right⟩, fun a ha b d => ?_⟩
 rcases aR.1 d with rfl | d
 ·exact h1 a ha _ (by simp)
 ·exact g.two a ha b d
theorem RD (h : SWO lt) {A1 A2 B1 B2 C1 C2 : List (α × Nat)} (g : og lt (A1 ++ A2)) (i : og lt (B1 ++ B2)) (k : Lk lt A1 B2) (l : Lk lt B1 A2) (m : C1.Perm (A1 ++ B1)) (n : C2.Perm (A2 ++ B2)) (h1 : og lt C1) (j : og lt C2) : og lt (C1 ++ C2) := by
 have x1 := As h g.left i.right k
 have x2 := As h i.left g.right l
 refine cU.2 ⟨h1, j, fun a ha b d => ?_⟩
 rcases aW.1 (m.mem_iff.1 ha) with ha | ha <;> rcases aW.1 (n.mem_iff.1 d) with d | d
 ·exact g.two a ha b d
 ·exact x1 a ha b d
 ·exact x2 a ha b d
 ·exact i.two a ha b d
end
section
variable {α : Type}
theorem FJ (p q : List α) (x y : α) : (p ++ x :: q).set p.length y = p ++ y :: q := by simp
theorem KW (p q : List α) (x y : α) (n : Nat) (h : n = p.length) : (p ++ x :: q).set n y = p ++ y :: q := by subst h; simp
theorem GJ (p m q : List α) (x y : α) : ((p ++ x :: (m ++ y :: q)).set p.length y).set (p.length + 1 + m.length) x = p ++ y :: (m ++ x :: q) := by
 rw [FJ]
 have : p ++ y :: (m ++ y :: q) = (p ++ y :: m) ++ y :: q := by simp
 rw [this, show p.length + 1 + m.length = (p ++ y :: m).length by simp; omega, FJ]
 simp
theorem NV (p m q : List α) (x y : α) : ((p ++ x :: (m ++ y :: q)).set (p.length + 1 + m.length) x).set p.length y = p ++ y :: (m ++ x :: q) := by
 rw [List.set_comm _ _ (by omega), GJ]
theorem wN {l : List α} {n : Nat} (h : n ≤ l.length) : ∃ a b, l = a ++ b ∧ a.length = n := ⟨l.take n, l.drop n, (gF n l).symm, by simp [h]⟩
end
theorem D9 {c x : Bool} : (if c = true then some x else some false : Option Bool) = some (c && x) := by cases c <;> rfl
theorem SD {c x : Bool} : (if c = true then some true else some x : Option Bool) = some (c || x) := by cases c <;> rfl
theorem oC {α : Type} (x : Option α) : (x.bind fun y => some y) = x := by cases x <;> rfl
theorem kO {x : Int} (a : -9223372036854775808 ≤ x) (h1 : x ≤ 9223372036854775807) : wi0 .i64 x = x := IntWalk.i64_in _ (by omega)
theorem mR {α : Type} (A : List α) (x : α) (B : List α) (i : Int) (h : i = (A.length : Int)) : lG (A ++ x :: B) i = some x := by
 subst h; rw [FM]; simp
theorem mn : ki = 18446744073709551615 + 1 := by rw [xv]
def DU {α : Type} (f1 : α → Option Bool) (z : α) : Nat → List α → Int → Int → Option (List α)
 | 0, _, _, _ => none
 | n + 1, l, i, j => if decide (j < (l.length : Int)) then
   ((lG l j).bind fun x => (f1 x).bind fun r => if (!r) then (lG l i).bind fun _ => some (l.set (Int.toNat i) x, wi0 .i64 (i + 1)) else some (l, i) : Option (List α × Int)).bind fun (b, a) => DU f1 z n b a (wi0 .i64 (j + 1))
  else (sf (decide (0 ≤ i) && decide (i ≤ (l.length : Int)))).bind fun _ => (sf (decide (0 ≤ i) && decide (i ≤ ((oy l (Int.toNat i) z).length : Int)))).bind fun _ => some ((oy l (Int.toNat i) z).take (Int.toNat i))
theorem EC {a b : Int} (d : 0 ≤ a) (h1 : a ≤ b) : sf (decide (0 ≤ a) && decide (a ≤ b)) = some () := by simp [sf, d, h1]
theorem Kx {α : Type} (f1 : α → Option Bool) (p : α → Bool) (z : α) : ∀ (rest out mid : List α) (n : Nat), rest.length < n → (out ++ mid ++ rest).length < 4611686018427387904 → mid ≠ [] → (∀ x ∈ rest, f1 x = some (p x)) →
  DU f1 z n (out ++ mid ++ rest) (out.length : Int) ((out.length + mid.length : Nat) : Int) = some (out ++ rest.filter fun x => !p x)
 | [], out, mid, 0, h, _, _, _ => by simp at h
 | [], out, mid, n + 1, _, b, hm, _ => by
  rw [DU, bE (by simp)]
  have h1 : out.length ≤ (out ++ mid ++ []).length := by simp
  rw [EC (by omega) (by omega)]
  simp only [aA]
  rw [EC (by omega) (by rw [vX _ _ _ (by simpa using h1)]; omega)]
  simp only [aA, dH]
  rw [GD _ _ _ h1]
  simp
 | x :: rest, out, mid, 0, h, _, _, _ => by simp at h
 | x :: rest, out, mid, n + 1, h, b, hm, d => by
  have hlen : (out ++ mid ++ x :: rest).length = out.length + mid.length + rest.length + 1 := by simp; omega
  rw [hlen] at b
  rw [DU, bB (by rw [hlen]; simp; omega)]
  rw [mR (out ++ mid) x rest _ (by simp)]
  simp only [aA, d x (by simp)]
  rw [kO (x := ((out.length + mid.length : Nat) : Int) + 1) (by omega) (by omega)]
  have ih := Kx f1 p z rest
  cases hp : p x with
  | true =>
   simp only [cJ, aC, aK, aA]
   have := ih out (mid ++ [x]) n (by simp at h; omega) (by simp; omega) (by simp) (fun y g => d y (by simp [g]))
   simp only [aM, bU, bH, aF, aQ, bV] at this ⊢
   rw [show ((out.length + mid.length : Nat) : Int) + 1 = ((out.length + (mid.length + (0 + 1)) : Nat) : Int) by omega, this]
   simp [hp]
  | false =>
   obtain ⟨m, a, rfl⟩ : ∃ m a, mid = m :: a := by cases mid with
    | nil => exact absurd rfl hm
    | cons m a => exact ⟨m, a, rfl⟩
   simp only [dp, aU]
   rw [aM out (m :: a) (x :: rest), bU]
   rw [mR out m (a ++ x :: rest) _ rfl]
   simp only [aA]
   rw [kO (x := (out.length : Int) + 1) (by omega) (by simp at b; omega)]
   have := ih (out ++ [x]) (a ++ [x]) n (by simp at h; omega) (by simp at b ⊢; omega) (by simp) (fun y g => d y (by simp [g]))
   simp only [aM, bU, bH, aF, aQ, bV] at this
   have i : (out ++ m :: (a ++ x :: rest)).set (Int.toNat (out.length : Int)) x = out ++ x :: (a ++ x :: rest) := by
    rw [dH, List.set_append_right _ _ (aX _)]; simp
   rw [i]
   simp only [aQ] at b ⊢
   rw [show (out.length : Int) + 1 = ((out.length + (0 + 1) : Nat) : Int) by omega, show ((out.length + (a.length + 1) : Nat) : Int) + 1 = ((out.length + (0 + 1) + (a.length + (0 + 1)) : Nat) : Int) by omega, this]
   simp [hp]
def yW {α : Type} (f1 : α → Option Bool) : List α → Nat → Option Int
 | [], _ => some (-1)
 | x :: xs, i => (f1 x).bind fun r => if r then some (i : Int) else yW f1 xs (i + 1)
theorem Bx {α : Type} (f1 : α → Option Bool) (p : α → Bool) : ∀ (l : List α) (i : Nat), (∀ x ∈ l, f1 x = some (p x)) →
  (yW f1 l i = some (-1) ∧ ∀ x ∈ l, p x = false) ∨ ∃ A x B, l = A ++ x :: B ∧ (∀ y ∈ A, p y = false) ∧ p x = true ∧ yW f1 l i = some ((i + A.length : Nat) : Int)
 | [], i, _ => .inl ⟨rfl, by simp⟩
 | x :: l, i, h => by
  rw [yW, h x (by simp)]
  simp only [aA]
  cases hp : p x with
  | true => exact .inr ⟨[], x, l, rfl, by simp, hp, by simp⟩
  | false =>
   simp only [aC, aK]
   rcases Bx f1 p l (i + 1) (fun y a => h y (by simp [a])) with ⟨h1, b⟩ | ⟨A, y, B, rfl, h1, b, g⟩
   ·exact .inl ⟨h1, by intro y a; rcases aR.1 a with rfl | a; exact hp; exact b y a⟩
   ·refine .inr ⟨x :: A, y, B, rfl, ?_, b, ?_⟩
    ·intro z d; rcases aR.1 d with rfl | d
     ·exact hp
     ·exact h1 z d
    ·rw [g]; simp; omega
def IK {α : Type} (f1 : α → Option Bool) (z : α) (l : List α) : Option (List α) :=
 (yW f1 l 0).bind fun a => if (a == (-1)) then some l else DU f1 z ki l a (wi0 .i64 (a + 1))
theorem Kh {α : Type} (f1 : α → Option Bool) (p : α → Bool) (z : α) (l : List α) (d : l.length < 4611686018427387904) (h : ∀ x ∈ l, f1 x = some (p x)) : IK f1 z l = some (l.filter fun x => !p x) := by
 unfold IK
 rcases Bx f1 p l 0 h with ⟨h1, b⟩ | ⟨A, x, B, rfl, h1, b, g⟩
 ·rw [h1]
  simp only [aA, aZ, aU]
  rw [fP.2 (fun y a => by simp [b y a])]
 ·rw [g]
  simp only [aA, ew]
  rw [bE (by simp), kO (by omega) (by simp at d; omega)]
  have := Kx f1 p z B A [x] ki (by rw [xv]; simp at d; omega) (by simpa using d) (by simp) (fun y a => h y (by simp [a]))
  simp only [aM, bU, bH, aQ, bV] at this
  rw [show (A.length : Int) + 1 = ((A.length + (0 + 1) : Nat) : Int) by omega, this]
  have i : A.filter (fun x => !p x) = A := fP.2 (fun y a => by simp [h1 y a])
  rw [iz, i]
  simp [b]
def mU {α : Type} (eq : α → α → Bool) : α → List α → List α
 | _, [] => []
 | p, y :: ys => if eq y p then mU eq y ys else y :: mU eq y ys
def dd {α : Type} (eq : α → α → Bool) : List α → List α
 | [] => []
 | x :: xs => x :: mU eq x xs
def BP {α : Type} (eq : α → α → Bool) (i : Int) : Nat → List α → Int → Int → Option (List α × Int)
 | 0, _, _, _ => none
 | n + 1, l, k, j => if decide (j < ((l.length - Int.toNat i : Nat) : Int)) then
   ((lG (l.drop (Int.toNat i)) j).bind fun x => (lG (l.drop (Int.toNat i)) (wi0 .i64 (j - 1))).bind fun y => if !(eq x y) then (lG (l.drop (Int.toNat i)) j).bind fun z => (lG l k).bind fun _ => some (l.set (Int.toNat k) z, wi0 .i64 (k + 1)) else some (l, k) : Option (List α × Int)).bind fun (a, k') => BP eq i n a k' (wi0 .i64 (j + 1))
  else some (l, k)
def Cs {α : Type} (eq : α → α → Bool) (z : α) (l : List α) : Nat → Int → Option (List α)
 | 0, _ => none
 | n + 1, i => if decide (i < (l.length : Int)) then (lG l i).bind fun x => (lG l (wi0 .i64 (i - 1))).bind fun y => if eq x y then
    (sf (decide (0 ≤ i) && decide (i ≤ (l.length : Int)))).bind fun _ => (BP eq i ki l i 1).bind fun (a, k) => (sf (decide (0 ≤ k) && decide (k ≤ (a.length : Int)))).bind fun _ => (sf (decide (0 ≤ k) && decide (k ≤ ((oy a (Int.toNat k) z).length : Int)))).bind fun _ => some ((oy a (Int.toNat k) z).take (Int.toNat k))
   else Cs eq z l n (wi0 .i64 (i + 1))
  else some l
def Kn {α : Type} (eq : α → α → Bool) (z : α) (l : List α) : Option (List α) := if decide ((l.length : Int) < 2) then some l else Cs eq z l ki 1
theorem JU {α : Type} (l : List α) (i : Nat) (j : Int) (a : 0 ≤ j) : lG (l.drop i) j = lG l ((i : Int) + j) := by
 obtain ⟨m, rfl⟩ : ∃ m : Nat, j = m := ⟨j.toNat, by omega⟩
 rw [show (i : Int) + (m : Int) = ((i + m : Nat) : Int) by omega, FM, FM, dS]
theorem Hh {α : Type} (eq : α → α → Bool) (i : Nat) : ∀ (rest out mid : List α) (p : α) (n : Nat), rest.length < n → (out ++ (mid ++ [p]) ++ rest).length < 4611686018427387904 → 1 ≤ i → i ≤ out.length →
  ∃ b, BP eq (i : Int) n (out ++ (mid ++ [p]) ++ rest) (out.length : Int) ((out.length + mid.length + 1 - i : Nat) : Int) = some (b, ((out ++ mU eq p rest).length : Int)) ∧ b.take (out ++ mU eq p rest).length = out ++ mU eq p rest ∧ (out ++ mU eq p rest).length ≤ b.length
 | [], out, mid, p, 0, h, _, _, _ => by simp at h
 | [], out, mid, p, n + 1, h, l, h1, k => by
  rw [BP, bE (by simp; omega)]
  exact ⟨out ++ (mid ++ [p]) ++ [], by simp [mU], by simp [mU], by simp [mU]⟩
 | x :: rest, out, mid, p, 0, h, _, _, _ => by simp at h
 | x :: rest, out, mid, p, n + 1, h, l, h1, k => by
  have hlen : (out ++ (mid ++ [p]) ++ x :: rest).length = out.length + mid.length + rest.length + 2 := by simp; omega
  rw [hlen] at l
  rw [BP, bB (by rw [hlen]; simp; omega)]
  rw [dH, JU _ _ _ (by omega), mR (out ++ (mid ++ [p])) x rest _ (by simp; omega)]
  simp only [aA]
  rw [kO (x := ((out.length + mid.length + 1 - i : Nat) : Int) - 1) (by omega) (by omega), JU _ _ _ (by omega)]
  rw [show out ++ (mid ++ [p]) ++ x :: rest = (out ++ mid) ++ p :: (x :: rest) by simp]
  rw [mR (out ++ mid) p (x :: rest) _ (by simp; omega)]
  simp only [aA]
  rw [kO (x := ((out.length + mid.length + 1 - i : Nat) : Int) + 1) (by omega) (by omega)]
  cases hp : eq x p with
  | true =>
   simp only [cJ, aC, aK, aA]
   obtain ⟨b, d, g, j⟩ := Hh eq i rest out (mid ++ [p]) x n (by simp at h; omega) (by simp; omega) h1 k
   refine ⟨b, ?_, by rw [mU, hp]; exact g, by rw [mU, hp]; exact j⟩
   rw [mU, hp, bB rfl, ← d]
   congr 1
   ·simp
   ·simp; omega
  | false =>
   simp only [dp, aU]
   obtain ⟨m, a, hm⟩ : ∃ m a, mid ++ [p] = m :: a := by cases mid with
    | nil => exact ⟨p, [], rfl⟩
    | cons m a => exact ⟨m, a ++ [p], rfl⟩
   have u : a.length = mid.length := by have := bA List.length hm; simp at this; omega
   rw [show (out ++ mid) ++ p :: (x :: rest) = out ++ m :: (a ++ x :: rest) by rw [← bU, ← hm]; simp]
   rw [mR out m (a ++ x :: rest) _ rfl]
   simp only [aA]
   rw [kO (x := (out.length : Int) + 1) (by omega) (by omega)]
   have v : (out ++ m :: (a ++ x :: rest)).set (Int.toNat (out.length : Int)) x = (out ++ [x]) ++ (a ++ [x]) ++ rest := by
    rw [dH, List.set_append_right _ _ (aX _)]; simp
   rw [v]
   obtain ⟨b, d, g, j⟩ := Hh eq i rest (out ++ [x]) a x n (by simp at h; omega) (by simp; omega) h1 (by simp; omega)
   refine ⟨b, ?_, ?_, ?_⟩
   ·rw [mU, hp, bE (by decide)]
    have t : ((out ++ x :: mU eq x rest).length : Int) = ((out ++ [x] ++ mU eq x rest).length : Int) := by simp
    rw [t, ← d]
    congr 1
    ·simp
    ·simp; omega
   ·rw [mU, hp, bE (by decide)]; simpa using g
   ·rw [mU, hp, bE (by decide)]; simpa using j
theorem KU {α : Type} (eq : α → α → Bool) (z : α) : ∀ (rest pre : List α) (p : α) (n : Nat), rest.length < n → (pre ++ p :: rest).length < 4611686018427387904 →
  Cs eq z (pre ++ p :: rest) n ((pre.length + 1 : Nat) : Int) = some (pre ++ p :: mU eq p rest)
 | [], pre, p, 0, h, _ => by simp at h
 | [], pre, p, n + 1, h, i => by rw [Cs, bE (by simp)]; simp [mU]
 | x :: rest, pre, p, 0, h, _ => by simp at h
 | x :: rest, pre, p, n + 1, h, i => by
  have hlen : (pre ++ p :: x :: rest).length = pre.length + rest.length + 2 := by simp; omega
  rw [hlen] at i
  rw [Cs, bB (by rw [hlen]; simp; omega)]
  rw [show pre ++ p :: x :: rest = (pre ++ [p]) ++ x :: rest by simp, mR (pre ++ [p]) x rest _ (by simp)]
  simp only [aA]
  rw [kO (x := ((pre.length + 1 : Nat) : Int) - 1) (by omega) (by omega)]
  rw [show (pre ++ [p]) ++ x :: rest = pre ++ p :: (x :: rest) by simp, mR pre p (x :: rest) _ (by omega)]
  simp only [aA]
  cases hp : eq x p with
  | true =>
   simp only [aU]
   rw [EC (by omega) (by rw [hlen]; omega)]
   simp only [aA]
   obtain ⟨j, a, g, d⟩ := Hh eq (pre.length + 1) rest (pre ++ [p]) [] x ki (by rw [xv]; omega) (by simp; omega) (by omega) (by simp)
   simp only [aM, bU, bH, aF, aQ, bV] at a g d
   rw [show (pre.length + (0 + 1) + 0 + 1 - (pre.length + 1) : Nat) = 1 by omega] at a
   rw [show ((pre.length + 1 : Nat) : Int) = ((pre.length + (0 + 1) : Nat) : Int) by omega] at *
   have b : BP eq ((pre.length + (0 + 1) : Nat) : Int) ki (pre ++ p :: x :: rest) ((pre.length + (0 + 1) : Nat) : Int) 1 = _ := a
   rw [b]
   simp only [aA]
   rw [EC (by omega) (by omega)]
   simp only [aA, dH]
   rw [EC (by omega) (by rw [vX _ _ _ d]; omega)]
   simp only [aA]
   rw [GD _ _ _ d, g, mU, hp]
   simp
  | false =>
   simp only [aC, aK]
   rw [kO (x := ((pre.length + 1 : Nat) : Int) + 1) (by omega) (by omega)]
   have := KU eq z rest (pre ++ [p]) x n (by simp at h; omega) (by simp; omega)
   simp only [aM, bU, bH, aF, aQ, bV] at this
   rw [show ((pre.length + 1 : Nat) : Int) + 1 = ((pre.length + (0 + 1) + 1 : Nat) : Int) by omega, this, mU, hp]
   simp
theorem Lc {α : Type} (eq : α → α → Bool) (z : α) (l : List α) (a : l.length < 4611686018427387904) : Kn eq z l = some (dd eq l) := by
 unfold Kn
 cases l with
 | nil => rfl
 | cons x xs =>
  cases xs with
  | nil => simp [dd, mU]
  | cons y ys =>
   rw [bE (by simp; omega)]
   have := KU eq z (y :: ys) [] x ki (by rw [xv]; simp at a ⊢; omega) (by simpa using a)
   simpa [dd] using this
structure AI {α : Type} (lt : α → α → Prop) (P : α → Prop) : Prop where
 irrefl : ∀ x, P x → ¬ lt x x
 trans : ∀ x y z, P x → P y → P z → lt x y → lt y z → lt x z
 total : ∀ x y, P x → P y → lt x y ∨ x = y ∨ lt y x
def wJ {α : Type} (lt : α → α → Prop) (P : α → Prop) (l out : List α) : Prop := out.Pairwise lt ∧ ∀ x, x ∈ out ↔ x ∈ l ∧ P x
theorem wJ.unique {α : Type} {lt : α → α → Prop} {P : α → Prop} (H : AI lt P) : ∀ {l a b : List α}, wJ lt P l a → wJ lt P l b → a = b := by
 have key : ∀ a b : List α, (∀ x ∈ a, P x) → a.Pairwise lt → b.Pairwise lt → (∀ x, x ∈ a ↔ x ∈ b) → a = b := by
  intro a
  induction a with
  | nil => intro b _ _ _ hm; cases b with
   | nil => rfl
   | cons y ys => exact absurd ((hm y).2 (by simp)) (by simp)
  | cons x xs ih =>
   intro b n ha k hm
   cases b with
   | nil => exact absurd ((hm x).1 (by simp)) (by simp)
   | cons y ys =>
    have p : P y := n y ((hm y).2 (by simp))
    have d : P x := n x (by simp)
    have g := cH.1 ha
    have i := cH.1 k
    have t : x = y := by
     rcases aR.1 ((hm x).1 (by simp)) with h | h
     ·exact h
     ·rcases aR.1 ((hm y).2 (by simp)) with m | m
      ·exact m.symm
      ·exact absurd (H.trans x y x d p d (g.1 y m) (i.1 x h)) (H.irrefl x d)
    subst t
    congr 1
    refine ih ys (fun z j => n z (by simp [j])) g.2 i.2 (fun z => ?_)
    constructor
    ·intro j
     rcases aR.1 ((hm z).1 (by simp [j])) with h | h
     ·subst h; exact absurd (g.1 z j) (H.irrefl z d)
     ·exact h
    ·intro j
     rcases aR.1 ((hm z).2 (by simp [j])) with h | h
     ·subst h; exact absurd (i.1 z j) (H.irrefl z d)
     ·exact h
 intro l a b ha k
 exact key a b (fun x u => ((ha.2 x).1 u).2) ha.1 k.1 (fun x => (ha.2 x).trans (k.2 x).symm)
theorem DO {α : Type} {eq : α → α → Bool} (he : ∀ x y, eq x y = true ↔ x = y) : ∀ (l : List α) (p x : α), x ∈ p :: mU eq p l ↔ x ∈ p :: l
 | [], p, x => by simp [mU]
 | y :: l, p, x => by
  rw [mU]
  split
  ·rename_i h
   have := (he y p).1 h
   subst this
   rw [DO he l y x]; simp
  ·have := DO he l y x
   simp only [aR] at this ⊢
   rw [this]
theorem Kl {α : Type} {eq : α → α → Bool} (he : ∀ x y, eq x y = true ↔ x = y) (l : List α) (x : α) : x ∈ dd eq l ↔ x ∈ l := by
 cases l with
 | nil => simp [dd]
 | cons y l => exact DO he l y x
theorem Ct {α : Type} {eq : α → α → Bool} {lt : α → α → Prop} {P : α → Prop} (he : ∀ x y, eq x y = true ↔ x = y) (H : AI lt P) : ∀ (l : List α) (p : α), (∀ x ∈ p :: l, P x) → (p :: l).Pairwise (fun a b => ¬ lt b a) → (p :: mU eq p l).Pairwise lt
 | [], p, _, _ => by simp [mU]
 | y :: l, p, d, t => by
  have h1 := cH.1 t
  rw [mU]
  split
  ·rename_i h
   have := (he y p).1 h
   subst this
   exact Ct he H l y (fun x j => d x (eS _ j)) h1.2
  ·rename_i h
   have ih := Ct he H l y (fun x j => d x (eS _ j)) h1.2
   refine cH.2 ⟨fun z n => ?_, ih⟩
   have i : lt p y := by
    rcases H.total p y (d p (by simp)) (d y (by simp)) with g | g | g
    ·exact g
    ·exact absurd ((he y p).2 g.symm) h
    ·exact absurd g (h1.1 y (by simp))
   rcases aR.1 n with rfl | k
   ·exact i
   ·have m : z ∈ y :: l := (DO he l y z).1 n
    exact H.trans p y z (d p (by simp)) (d y (by simp)) (d z (eS _ m)) i ((cH.1 ih).1 z k)
theorem NS {α : Type} {eq : α → α → Bool} {lt : α → α → Prop} {P : α → Prop} (he : ∀ x y, eq x y = true ↔ x = y) (H : AI lt P) (l : List α) (d : ∀ x ∈ l, P x) (g : l.Pairwise (fun a b => ¬ lt b a)) : (dd eq l).Pairwise lt := by
 cases l with
 | nil => simp [dd]
 | cons y l => exact Ct he H l y d g
theorem Js {α : Type} {le : α → α → Bool} {P : α → Prop} (i : ∀ a b c, P a → P b → P c → le a b = true → le b c = true → le a c = true) (h : ∀ a b, P a → P b → (le a b || le b a) = true) (l : List α) (d : ∀ x ∈ l, P x) :
  (l.mergeSort le).Pairwise (fun a b => le a b = true) := by
 have e : l = (l.attachWith P d).map Subtype.val := by simp
 have hm : ((l.attachWith P d).mergeSort fun a b => le a.1 b.1).map Subtype.val = l.mergeSort le := by
  conv => rhs; rw [e]
  exact iq (fun a _ b _ => rfl)
 rw [← hm, fB]
 exact gh (le := fun (a b : {x // P x}) => le a.1 b.1) (fun a b c h1 g => i a.1 b.1 c.1 a.2 b.2 c.2 h1 g) (fun a b => h a.1 b.1 a.2 b.2) _
theorem GC {α : Type} {eq : α → α → Bool} {lt : α → α → Prop} {P : α → Prop} {cf : α × α → Option Int} {l : List α} (he : ∀ x y, eq x y = true ↔ x = y) (H : AI lt P) (g : ∀ x ∈ l, P x) (G : l.length < 4611686018427387904) (E : ∀ x y, P x → P y → ∃ c, cf (x, y) = some c ∧ (c < 0 ↔ lt x y)) : ∃ s, Af cf l = some s ∧ s.length = l.length ∧ wJ lt P l (dd eq s) := by
 have j : ∀ x y, P x → P y → (uv cf x y = true ↔ lt x y) := fun x y i n => by
  obtain ⟨c, h1, m⟩ := E x y i n
  unfold uv
  rw [h1]
  simpa using m
 have d : ∀ x y, P x → P y → (uv cf x y = false ↔ ¬ lt x y) := fun x y i n => by
  rw [← j x y i n]; simp
 have ok : E4 cf l := by
  refine ⟨fun x i y n => ?_, fun x i => ?_, fun x i y n z w h1 m => ?_, fun x i y n h1 m => ?_, G⟩
  ·obtain ⟨c, h1, _⟩ := E x y (g x i) (g y n); exact ⟨c, h1⟩
  ·exact (d x x (g x i) (g x i)).2 (H.irrefl x (g x i))
  ·rw [j _ _ (g x i) (g y n)] at h1
   rw [j _ _ (g y n) (g z w)] at m
   rw [j _ _ (g x i) (g z w)]
   exact H.trans x y z (g x i) (g y n) (g z w) h1 m
  ·rw [d _ _ (g x i) (g y n)] at h1
   rw [d _ _ (g y n) (g x i)] at m
   rcases H.total x y (g x i) (g y n) with h | h | h
   ·exact absurd h h1
   ·exact h
   ·exact absurd h m
 refine ⟨_, Qf ok, by simp [tD], ?_, ?_⟩
 ·have k : ∀ x, x ∈ tD cf l ↔ x ∈ l := fun x => by simp [tD]
  refine NS he H _ (fun x i => g x ((k x).1 i)) ?_
  have := Js (le := fun x y => !uv cf y x) (P := P) (fun a b c ha p t h1 m => ?_) (fun a b ha p => ?_) l g
  ·refine (this.imp_of_mem ?_ : _)
   intro a b ha p h
   have u : a ∈ l := (k a).1 ha
   have v : b ∈ l := (k b).1 p
   simp at h
   exact (d b a (g b v) (g a u)).1 h
  ·simp at h1 m ⊢
   rw [d _ _ p ha] at h1
   rw [d _ _ t p] at m
   rw [d _ _ t ha]
   intro A
   rcases H.total a b ha p with h | h | h
   ·exact m (H.trans c a b t ha p A h)
   ·subst h; exact m A
   ·exact h1 h
  ·simp only [ft, fD]
   rw [d _ _ p ha, d _ _ ha p]
   by_cases h : lt b a
   ·right; intro m; exact H.irrefl a ha (H.trans a b a ha p ha m h)
   ·exact .inl h
 ·intro x
  rw [Kl he]
  constructor
  ·intro i
   have : x ∈ l := by simpa [tD] using i
   exact ⟨this, g x this⟩
  ·intro i; simpa [tD] using i.1
theorem vy : ∀ a : List UInt8, Op.bytesLess a a = false
 | [] => rfl
 | x :: a => by simp [Op.bytesLess, vy a]
theorem KQ (x y : UInt8) : x < y ∨ x = y ∨ y < x := by
 rcases Nat.lt_trichotomy x.toNat y.toNat with h | h | h
 ·exact .inl h
 ·exact .inr (.inl (UInt8.toNat_inj.1 h))
 ·exact .inr (.inr h)
theorem yv : ∀ a b c : List UInt8, Op.bytesLess a b = true → Op.bytesLess b c = true → Op.bytesLess a c = true
 | [], [], c, h1, _ => by simp [Op.bytesLess] at h1
 | _ :: _, [], c, h1, _ => by simp [Op.bytesLess] at h1
 | a, _ :: _, [], _, d => by simp [Op.bytesLess] at d
 | [], b :: bs, c :: cs, _, _ => rfl
 | a :: ax, b :: bs, c :: cs, h1, d => by
  simp only [Op.bytesLess, ft, bO, bo, ga] at h1 d ⊢
  rcases h1 with h1 | ⟨rfl, h1⟩
  ·rcases d with d | ⟨rfl, d⟩
   ·exact .inl (UInt8.lt_trans h1 d)
   ·exact .inl h1
  ·rcases d with d | ⟨rfl, d⟩
   ·exact .inl d
   ·exact .inr ⟨rfl, yv ax bs cs h1 d⟩
theorem Bo : ∀ a b : List UInt8, Op.bytesLess a b = true ∨ a = b ∨ Op.bytesLess b a = true
 | [], [] => .inr (.inl rfl)
 | [], _ :: _ => .inl rfl
 | _ :: _, [] => .inr (.inr rfl)
 | a :: ax, b :: bs => by
  simp only [Op.bytesLess, ft, bO, bo, ga, aS]
  rcases KQ a b with h | h | h
  ·exact .inl (.inl h)
  ·subst h
   rcases Bo ax bs with h | h | h
   ·exact .inl (.inr ⟨rfl, h⟩)
   ·exact .inr (.inl ⟨rfl, h⟩)
   ·exact .inr (.inr (.inr ⟨rfl, h⟩))
  ·exact .inr (.inr (.inl h))
theorem Dk : ∀ a b : List UInt8, (Lib.compareBytes a b < 0 ↔ Op.bytesLess a b = true)
 | [], [] => by simp [Lib.compareBytes, Op.bytesLess]
 | [], _ :: _ => by simp [Lib.compareBytes, Op.bytesLess]
 | _ :: _, [] => by simp [Lib.compareBytes, Op.bytesLess]
 | a :: ax, b :: bs => by
  simp only [Lib.compareBytes, Op.bytesLess, ft, bO, bo, ga]
  by_cases h : a < b
  ·simp [h]
  ·by_cases g : b < a
   ·have : a ≠ b := by rintro rfl; exact h g
    simp [h, g, this]
   ·have : a = b := by rcases KQ a b with d | d | d; exact absurd d h; exact d; exact absurd d g
    subst this
    simp [h, Dk ax bs]
theorem He : ∀ a b : List UInt8, (Lib.compareBytes a b = 0 ↔ a = b)
 | [], [] => by simp [Lib.compareBytes]
 | [], _ :: _ => by simp [Lib.compareBytes]
 | _ :: _, [] => by simp [Lib.compareBytes]
 | a :: ax, b :: bs => by
  simp only [Lib.compareBytes, aS]
  by_cases h : a < b
  ·simp only [h, aU]
   constructor
   ·intro h; cases h
   ·rintro ⟨rfl, _⟩; exact absurd h (by simp)
  ·by_cases g : b < a
   ·simp only [h, g, aU, aK]
    constructor
    ·intro h; cases h
    ·rintro ⟨rfl, _⟩; exact absurd g (by simp)
   ·have : a = b := by rcases KQ a b with d | d | d; exact absurd d h; exact d; exact absurd d g
    subst this
    simp [h, He ax bs]
theorem yE (a b : ByteArray) : pY a b = Op.bytesLess a.data.toList b.data.toList := by unfold pY; rw [eX, eX]
theorem An {a b : ByteArray} (h : a.data.toList = b.data.toList) : a = b := fQ (Array.toList_inj.1 h)
theorem ta (a : ByteArray) : pY a a = false := by rw [yE, vy]
theorem Ax {a b c : ByteArray} (h1 : pY a b = true) (d : pY b c = true) : pY a c = true := by rw [yE] at *; exact yv _ _ _ h1 d
theorem Ap (a b : ByteArray) : pY a b = true ∨ a = b ∨ pY b a = true := by
 rw [yE, yE]
 rcases Bo a.data.toList b.data.toList with h | h | h
 ·exact .inl h
 ·exact .inr (.inl (An h))
 ·exact .inr (.inr h)
theorem Ji {a b : ByteArray} (h : pY a b = true) : pY b a = false := by
 cases d : pY b a with
 | false => rfl
 | true => have := Ax h d; rw [ta] at this; cases this
theorem QG (P : ByteArray → Prop) : AI (fun a b => pY a b = true) P :=
 ⟨fun x _ h => (by rw [ta] at h; cases h), fun x y z _ _ _ => Ax, fun x y _ _ => Ap x y⟩
def BD (b : UInt8) : Bool := decide (97 ≤ b.toNat) && decide (b.toNat ≤ 122)
def Ds (b : UInt8) : Bool := BD b || (decide (48 ≤ b.toNat) && decide (b.toNat ≤ 57)) || decide (b.toNat = 45)
def nx (s : ByteArray) : Bool := decide (1 ≤ s.size) && decide (s.size ≤ 16) && (match s.data.toList with | [] => false | b :: _ => BD b) && s.data.toList.all Ds
theorem oe {s : ByteArray} (h : nx s = true) : 1 ≤ s.size ∧ s.size ≤ 16 := by
 simp only [nx, bo, bO] at h
 exact h.1.1
theorem M2 : ∀ n : Nat, n < 256 → decide (xx (⟨#[97, 98, 99, 100, 101, 102, 103, 104, 105, 106, 107, 108, 109, 110, 111, 112, 113, 114, 115, 116, 117, 118, 119, 120, 121, 122]⟩ : ByteArray) (n : Int) ≥ 0) = BD (UInt8.ofNat n) := by decide +kernel
theorem Qc : ∀ n : Nat, n < 256 → decide (xx (⟨#[97, 98, 99, 100, 101, 102, 103, 104, 105, 106, 107, 108, 109, 110, 111, 112, 113, 114, 115, 116, 117, 118, 119, 120, 121, 122, 48, 49, 50, 51, 52, 53, 54, 55, 56, 57, 45]⟩ : ByteArray) (n : Int) < 0) = !Ds (UInt8.ofNat n) := by decide +kernel
theorem xc (s : ByteArray) : s.size = s.data.toList.length := by rw [dv]; rfl
theorem Gs {s : ByteArray} (h : s.size ≤ 16) : Dt s = some (mz s) := by
 unfold Dt; rw [bB (by unfold maxLen; omega)]
theorem Ki : ∀ l : List UInt8, vn (l.map fun b => (b.toNat : Int)) = some (l.all Ds)
 | [] => rfl
 | b :: l => by
  rw [bL, vn]
  simp only [ry, ot, aA]
  have a := Qc b.toNat (iA b)
  rw [a]
  simp only [iL, fV]
  cases Ds b with
  | true => simp [Ki l]
  | false => simp
theorem Jh {s : ByteArray} {b : UInt8} {l : List UInt8} (h : s.data.toList = b :: l) : AM s 0 = some b := by
 unfold AM
 rw [bB (Int.le_refl 0)]
 have a : s.data[0]? = some b := by rw [← dN, h]; rfl
 show s[0]? = some b
 rw [← a]
 rfl
theorem zl (s : ByteArray) : sh s = some (nx s) := by
 unfold sh
 simp only [D9, aA, oC]
 by_cases h1 : 1 ≤ s.size
 ·by_cases a : s.size ≤ 16
  ·rw [bB (by simp; omega)]
   obtain ⟨b, l, d⟩ : ∃ b l, s.data.toList = b :: l := by
    cases h : s.data.toList with
    | nil => rw [xc, h] at h1; simp at h1
    | cons b l => exact ⟨b, l, rfl⟩
   rw [Jh d]
   simp only [aA, ry, ot]
   rw [M2 b.toNat (iA b)]
   simp only [iL, nx, h1, a, d, cA, dW]
   cases BD b with
   | false => simp
   | true =>
    simp only [aU, Cp, Gs a, aA, mz]
    rw [Ki, d]
    simp
  ·rw [bE (by simp; omega)]
   simp [nx, a]
 ·rw [bE (by simp; omega)]
  simp [nx, h1]
theorem QM {s : ByteArray} {A B : List UInt8} {b : UInt8} (h : s.data.toList = A ++ b :: B) (i : Int) (d : i = (A.length : Int)) : AM s i = some b := by
 subst d
 unfold AM
 rw [bB (by omega), dH]
 have a : s.data[A.length]? = some b := by rw [← dN, h]; simp
 show s[A.length]? = some b
 rw [← a]
 rfl
theorem Fj (s : ByteArray) (y : s.size ≤ 16) : ∀ (B A : List UInt8) (n : Nat), s.data.toList = A ++ B → B.length < n → qg s n (A.length : Int) = some (B.all Ds)
  | [], A, 0, _, h => by simp at h
  | [], A, n + 1, h, _ => by
    have : s.size = A.length := by rw [xc, h]; simp
    rw [qg, bE (by rw [this]; simp)]
    rfl
  | b :: B, A, 0, _, h => by simp at h
  | b :: B, A, n + 1, h, w => by
    have l : s.size = A.length + B.length + 1 := by rw [xc, h]; simp; omega
    rw [qg, bB (by rw [l]; simp; omega)]
    rw [QM h _ rfl]
    simp only [aA]
    rw [kO (x := (A.length : Int) + 1) (by omega) (by omega)]
    have ih := Fj s y B (A ++ [b]) n (by rw [h]; simp) (by simp at w; omega)
    rw [show ((A ++ [b]).length : Int) = (A.length : Int) + 1 by simp] at ih
    simp only [fV]
    have k : ∀ n : Nat, n < 256 → Ds (UInt8.ofNat n) = !((decide (n < 97) || decide (n > 122)) && (decide (n < 48) || decide (n > 57)) && decide (n ≠ 45)) := by decide +kernel
    have m := k b.toNat (iA b)
    simp only [iL] at m
    rw [m]
    by_cases h1 : b.toNat < 97 <;> by_cases p : b.toNat > 122 <;> by_cases t : b.toNat < 48 <;> by_cases u : b.toNat > 57 <;> by_cases v : b.toNat = 45 <;>
      first
      | omega
      | (have a : ((b.toNat : Int) < 97) = (b.toNat < 97) := by rw [gb]; omega
         have d : ((b.toNat : Int) > 122) = (b.toNat > 122) := by rw [gb]; omega
         have g : ((b.toNat : Int) < 48) = (b.toNat < 48) := by rw [gb]; omega
         have i : ((b.toNat : Int) > 57) = (b.toNat > 57) := by rw [gb]; omega
         have j : ((b.toNat : Int) != 45) = !decide (b.toNat = 45) := by rw [bQ]; simp; omega
         simp [h1, p, t, u, v, a, d, g, i, j, ih])
theorem tm (a : ByteArray) : kV a a = true := mf.2 rfl
theorem RH : zS.size = 0 := rfl
theorem Qy {s : ByteArray} : s = zS ↔ s.size = 0 := by
 constructor
 ·rintro rfl; rfl
 ·intro h; exact An (by rw [xc] at h; rw [eb.1 h]; rfl)
theorem yx (s : ByteArray) : rf s = some (nx s) := by
 unfold rf
 simp only [SD, aA, oC]
 by_cases g : s.size = 0
 ·have : s = zS := Qy.2 g
  subst this
  rw [tm]
  rfl
 ·have n : kV s zS = false := by
   cases h : kV s zS with
   | false => rfl
   | true => exact absurd (Qy.1 (mf.1 h)) g
  rw [n]
  simp only [Bool.false_or]
  by_cases i : s.size ≤ 16
  ·rw [bE (by simp; omega)]
   obtain ⟨b, l, k⟩ : ∃ b l, s.data.toList = b :: l := by
    cases h : s.data.toList with
    | nil => rw [xc, h] at g; simp at g
    | cons b l => exact ⟨b, l, rfl⟩
   rw [Jh k]
   simp only [aA, SD]
   have m := Fj s i s.data.toList [] ki rfl (by rw [xv, ← xc]; omega)
   simp only [bV] at m
   rw [show (0 : Int) = ((0 : Nat) : Int) from rfl] at *
   rw [m]
   have j : ((b.toNat : Int) < 97) = (b.toNat < 97) := by rw [gb]; omega
   have d : ((b.toNat : Int) > 122) = (b.toNat > 122) := by rw [gb]; omega
   have h1 : 1 ≤ s.size := by omega
   simp only [nx, h1, i, k, BD, cA, dW, j, d]
   by_cases a : b.toNat < 97
   ·simp [a, show ¬ 97 ≤ b.toNat by omega]
   ·by_cases c : b.toNat > 122
    ·simp [a, c, show ¬ b.toNat ≤ 122 by omega]
    ·simp [a, c, show 97 ≤ b.toNat by omega, show b.toNat ≤ 122 by omega]
  ·rw [bB (by simp; omega)]
   simp [nx, i]
def ma (r : ju) : Bool := nx r.jw && nx r.Word
theorem yZ (r : ju) : pV r = some (ma r) := by
 unfold pV ma
 simp only [zl, aA]
 cases nx r.jw <;> simp
theorem Bz (r : ju) : sO r = some (ma r) := by
 unfold sO ma
 simp only [yx, aA]
 cases nx r.jw <;> simp
def Ce (a b : ju) : Bool := pY a.jw b.jw || (kV a.jw b.jw && pY a.Word b.Word)
theorem BW (a b : ju) : wR a b = some (Ce a b) := by
 unfold wR Ce
 cases pY a.jw b.jw <;> cases kV a.jw b.jw <;> simp
theorem Mc {a b : ByteArray} (h : a ≠ b) : kV a b = false := by
 cases d : kV a b with
 | false => rfl
 | true => exact absurd (mf.1 d) h
theorem Ba {a b : ju} : Ce a b = true ↔ pY a.jw b.jw = true ∨ (a.jw = b.jw ∧ pY a.Word b.Word = true) := by
 simp [Ce, mf]
theorem TG (P : ju → Prop) : AI (fun a b => Ce a b = true) P := by
 refine ⟨fun x _ h => ?_, fun x y z _ _ _ h1 d => ?_, fun x y _ _ => ?_⟩
 ·rw [Ba] at h
  simp [ta] at h
 ·rw [Ba] at *
  rcases h1 with h1 | ⟨i, h1⟩
  ·rcases d with d | ⟨g, d⟩
   ·exact .inl (Ax h1 d)
   ·exact .inl (by rw [← g]; exact h1)
  ·rcases d with d | ⟨g, d⟩
   ·exact .inl (by rw [i]; exact d)
   ·exact .inr ⟨i.trans g, Ax h1 d⟩
 ·simp only [Ba]
  rcases Ap x.jw y.jw with h | h | h
  ·exact .inl (.inl h)
  ·rcases Ap x.Word y.Word with d | d | d
   ·exact .inl (.inr ⟨h, d⟩)
   ·refine .inr (.inl ?_)
    cases x; cases y; simp at h d; simp [h, d]
   ·exact .inr (.inr (.inr ⟨h.symm, d⟩))
  ·exact .inr (.inr (.inl h))
theorem AQ (a b : ju) : ∃ c, pn a b = some c ∧ (c < 0 ↔ Ce a b = true) := by
 unfold pn
 simp only [pB, ny, aA, vc, sw]
 have h1 : ∀ a b : ByteArray, (oX a b < 0 ↔ pY a b = true) := fun a b => by rw [yE]; exact Dk _ _
 have g : ∀ a b : ByteArray, (oX a b = 0 ↔ a = b) := fun a b => by
  unfold oX; rw [He]; exact ⟨An, fun h => by rw [h]⟩
 by_cases e : oX a.jw b.jw = 0
 ·rw [bE (by simp [e])]
  have e' := (g _ _).1 e
  by_cases d : oX a.Word b.Word = 0
  ·rw [bE (by simp [d])]
   refine ⟨0, rfl, ?_⟩
   rw [Ba, e', (g _ _).1 d]
   simp [ta]
  ·rw [bB (by simp [d])]
   refine ⟨_, rfl, ?_⟩
   rw [Ba, e', h1]
   simp [ta]
 ·rw [bB (by simp [e])]
  refine ⟨_, rfl, ?_⟩
  rw [Ba, h1]
  have : a.jw ≠ b.jw := fun h => e ((g _ _).2 h)
  simp [this]
def zR : ju := ⟨zS, zS⟩
theorem Jc (a b : ByteArray) : kV a b = kV b a := by rw [bQ, mf, mf]; exact eq_comm
theorem FA (a b : ju) : jY a b = jY b a := by rw [bQ, kc, kc]; exact eq_comm
theorem wW (a : ju) : jY a a = true := kc.2 rfl
def lH (c : jv) : Bool := ma c.Head && (
 if c.Kind == 1 then nx c.kE && jY zR c.B && jY zR c.C && kV zS c.kL
 else if c.Kind == 2 then ma c.B && kV zS c.kE && jY zR c.C && kV zS c.kL
 else if c.Kind == 3 then ma c.B && kV c.B.jw c.Head.jw && nx c.kL && kV zS c.kE && jY zR c.C
 else if c.Kind == 4 then ma c.B && ma c.C && Ce c.B c.C && kV zS c.kE && kV zS c.kL
 else false)
theorem wG (c : jv) : si c = some (lH c) := by
 unfold si lH
 simp only [yZ, zl, aA]
 obtain ⟨k, hk, a⟩ := AQ c.B c.C
 rw [hk]
 have b : decide (k < 0) = Ce c.B c.C := by rw [bQ, ← a]; simp
 simp only [aA, b]
 by_cases h1 : c.Kind = 1
 ·cases ma c.Head <;> cases nx c.kE <;> simp [h1, lI, wW, tm, zR, gv]
 ·by_cases d : c.Kind = 2
  ·cases ma c.Head <;> cases ma c.B <;> simp [d, lI, wW, tm, zR, gv]
  ·by_cases g : c.Kind = 3
   ·cases ma c.Head <;> cases ma c.B <;> cases kV c.B.jw c.Head.jw <;> cases nx c.kL <;> simp [g, lI, wW, tm, zR, gv]
   ·by_cases h : c.Kind = 4
    ·cases ma c.Head <;> cases ma c.B <;> cases ma c.C <;> cases Ce c.B c.C <;> simp [h, lI, wW, tm, zR, gv]
    ·simp [h1, d, g, h]
theorem Bs (c : jv) : vZ c = some (lH c) := by
 unfold vZ lH
 simp only [Bz, yx, BW, aA]
 rw [show (⟨zS, zS⟩ : ju) = zR from rfl, FA c.B zR, FA c.C zR, Jc c.kL zS, Jc c.kE zS]
 by_cases h1 : c.Kind = 1
 ·cases ma c.Head <;> cases nx c.kE <;> cases jY zR c.B <;> cases jY zR c.C <;> simp [h1]
 ·by_cases a : c.Kind = 2
  ·cases ma c.Head <;> cases ma c.B <;> cases kV zS c.kE <;> cases jY zR c.C <;> simp [a]
  ·by_cases b : c.Kind = 3
   ·cases ma c.Head <;> cases ma c.B <;> cases kV zS c.kE <;> cases jY zR c.C <;> cases kV c.B.jw c.Head.jw <;> simp [b]
   ·by_cases d : c.Kind = 4
    ·cases ma c.Head <;> cases ma c.B <;> cases kV zS c.kE <;> cases kV zS c.kL <;> cases ma c.C <;> simp [d]
    ·cases ma c.Head <;> cases ma c.B <;> cases kV zS c.kE <;> simp [h1, a, b, d]
theorem mZ {α : Type} {b : Nat} {l m : List α} (h : (l.length + m.length) * b ≤ 140737488355328) (a : l.length + m.length ≤ 9223372036854775807) : mE b l m = some (l ++ m) := by
 unfold mE; rw [bB ⟨h, by unfold maxLen; omega⟩]
theorem Hf {l m : List Int} (h : l.length + m.length ≤ 1000000) : mE 1 l m = some (l ++ m) := mZ (by omega) (by omega)
def wF (s : ByteArray) : List Int := (s.size : Int) :: mz s
def rU (r : ju) : List Int := wF r.jw ++ wF r.Word
def zm (c : jv) : List Int := if c.Kind = 1 then wF c.kE else if c.Kind = 2 then rU c.B else if c.Kind = 3 then rU c.B ++ wF c.kL else rU c.B ++ rU c.C
def te (c : jv) : List Int := c.Kind :: (rU c.Head ++ zm c)
theorem tI (s : ByteArray) : (wF s).length = s.size + 1 := by simp [wF, mX]
theorem ow {r : ju} (h : ma r = true) : (rU r).length ≤ 34 := by
 simp only [ma, bo] at h
 have h1 := oe h.1
 have a := oe h.2
 simp [rU, tI]; omega
theorem yI {l : List Int} {n : Int} (a : 0 ≤ n) (h1 : n < 128) (b : l.length ≤ 100000) : nT l n = some (true, l ++ [n]) := by
 have hw : IntKind.u8.wrap n = n := by
  obtain ⟨k, rfl⟩ : ∃ k : Nat, n = k := ⟨n.toNat, by omega⟩
  have : ∀ k : Nat, k < 128 → IntKind.u8.wrap (k : Int) = (k : Int) := by decide +kernel
  exact this k (by omega)
 unfold nT
 rw [bE (by simp; omega), mn, pT, bE (by simp; omega), hw, Hf (by simp; omega)]
 rfl
theorem FZ {l : List Int} {s : ByteArray} (h : nx s = true) (a : l.length ≤ 10000) : tP l s = some (true, l ++ wF s) := by
 have h1 := oe h
 unfold tP
 simp only [zl, aA, h, aU, Gs h1.2]
 unfold xQ
 rw [bE (by rw [mX]; simp; omega)]
 rw [mX, yI (by omega) (by omega) (by omega)]
 simp only [aA]
 rw [Hf (by simp [mX]; omega)]
 simp [wF]
theorem KV {l : List Int} {r : ju} (h : ma r = true) (b : l.length ≤ 9000) : pU l r = some (true, l ++ rU r) := by
 have a := h
 simp only [ma, bo] at h
 have h1 := oe h.1
 unfold pU
 simp only [yZ, aA, a, aU]
 rw [FZ h.1 (by omega)]
 simp only [aA, aU]
 rw [FZ h.2 (by simp [tI]; omega)]
 simp [rU]
theorem Dn {l : List Int} {r : ju} (h : ma r = true) (a : l.length ≤ 1000) : pU l r = some (true, l ++ rU r) := KV h (by omega)
theorem CB {c : jv} (h : lH c = true) : ma c.Head = true := by
 simp only [lH, bo] at h; exact h.1
theorem ov {c : jv} (h : lH c = true) :
  (c.Kind = 1 ∧ nx c.kE = true ∧ c.B = zR ∧ c.C = zR ∧ c.kL = zS) ∨
  (c.Kind = 2 ∧ ma c.B = true ∧ c.kE = zS ∧ c.C = zR ∧ c.kL = zS) ∨
  (c.Kind = 3 ∧ ma c.B = true ∧ nx c.kL = true ∧ c.B.jw = c.Head.jw ∧ c.kE = zS ∧ c.C = zR) ∨
  (c.Kind = 4 ∧ ma c.B = true ∧ ma c.C = true ∧ Ce c.B c.C = true ∧ c.kE = zS ∧ c.kL = zS) := by
 simp only [lH, bo] at h
 obtain ⟨_, h⟩ := h
 split at h
 ·rename_i h1
  simp only [bo, kc, mf] at h
  exact .inl ⟨by simpa using h1, h.1.1.1, h.1.1.2.symm, h.1.2.symm, h.2.symm⟩
 ·split at h
  ·rename_i h1
   simp only [bo, kc, mf] at h
   exact .inr (.inl ⟨by simpa using h1, h.1.1.1, h.1.1.2.symm, h.1.2.symm, h.2.symm⟩)
  ·split at h
   ·rename_i h1
    simp only [bo, kc, mf] at h
    exact .inr (.inr (.inl ⟨by simpa using h1, h.1.1.1.1, h.1.1.2, h.1.1.1.2, h.1.2.symm, h.2.symm⟩))
   ·split at h
    ·rename_i h1
     simp only [bo, kc, mf] at h
     exact .inr (.inr (.inr ⟨by simpa using h1, h.1.1.1.1, h.1.1.1.2, h.1.1.2, h.1.2.symm, h.2.symm⟩))
    ·cases h
theorem B4 (c : jv) : wT c = some (if lH c then te c else []) := by
 unfold wT
 rw [wG]
 simp only [aA]
 cases h : lH c with
 | false => simp
 | true =>
  have g := CB h
  have i := ow g
  simp only [cJ, aC, aK, aU]
  have hk : 0 ≤ c.Kind ∧ c.Kind < 128 := by rcases ov h with h | h | h | h <;> omega
  rw [yI hk.1 hk.2 (by simp)]
  simp only [aA]
  rw [Dn g (by simp)]
  simp only [aA, tO, ur]
  rcases ov h with ⟨k, h1, _⟩ | ⟨k, h1, _⟩ | ⟨k, h1, a, _⟩ | ⟨k, h1, a, _⟩
  ·have b := oe h1
   simp only [k, aZ, aU, FZ h1 (show (([] ++ [(1:Int)]) ++ rU c.Head).length ≤ 10000 by simp; omega), aA]
   rw [Hf (by simp [tI]; omega)]
   simp [te, zm, k]
  ·have b := ow h1
   simp only [k, show ((2 : Int) == 1) = false from rfl, aC, aZ, aU, aK, Dn h1 (show (([] ++ [(2:Int)]) ++ rU c.Head).length ≤ 1000 by simp; omega), aA]
   rw [Hf (by simp; omega)]
   simp [te, zm, k]
  ·have b := ow h1
   have d := oe a
   simp only [k, show ((3 : Int) == 1) = false from rfl, show ((3 : Int) == 2) = false from rfl, aC, aZ, aU, aK, Dn h1 (show (([] ++ [(3:Int)]) ++ rU c.Head).length ≤ 1000 by simp; omega), aA]
   rw [FZ a (by simp; omega)]
   simp only [aA]
   rw [Hf (by simp [tI]; omega)]
   simp [te, zm, k]
  ·have b := ow h1
   have d := ow a
   simp only [k, show ((4 : Int) == 1) = false from rfl, show ((4 : Int) == 2) = false from rfl, show ((4 : Int) == 3) = false from rfl, aC, aZ, aU, aK, Dn h1 (show (([] ++ [(4:Int)]) ++ rU c.Head).length ≤ 1000 by simp; omega), aA]
   rw [Dn a (by simp; omega)]
   simp only [aA]
   rw [Hf (by simp; omega)]
   simp [te, zm, k]
def wA (l : List Int) : ByteArray := ⟨(ud l).toArray⟩
theorem uP (l : List Int) : (wA l).data.toList = ud l := rfl
theorem H5 : ∀ (l : List Int) (r : ByteArray), (l.foldl (fun r n => r.push (UInt8.ofNat n.toNat)) r).data.toList = r.data.toList ++ ud l
 | [], r => by simp [ud]
 | x :: l, r => by
  rw [fX, H5 l]
  show ((r.data.push _).toList) ++ _ = _
  simp [ud]
theorem QX (l : List Int) : EB l = wA l := An (by unfold EB; rw [H5]; rfl)
theorem Lh (l : List Int) : (wA l).size = l.length := by rw [xc, uP]; simp [ud]
theorem Nk (a b : List Int) : ud (a ++ b) = ud a ++ ud b := by simp [ud]
theorem rz (a b : List Int) (h : a.length + b.length ≤ 1000000) : pS (wA a) (wA b) = some (wA (a ++ b)) := by
 unfold pS
 rw [bE]
 ·congr 1
  refine An ?_
  rw [uP, Nk, ← uP a, ← uP b]
  exact ByteArray.toList_data_append ▸ rfl
 ·rw [Lh, Lh]
  show ¬ (_ > (9223372036854775807 : Int))
  omega
theorem D8 (s : ByteArray) : wA (mz s) = s := An (by rw [uP]; simp [ud, mz, fA])
theorem yL {n : Int} (a : 0 ≤ n) (h1 : n < 128) : qw n = some (wA [n]) := by
 have hw : IntKind.u8.wrap n = n := by
  obtain ⟨k, rfl⟩ : ∃ k : Nat, n = k := ⟨n.toNat, by omega⟩
  have : ∀ k : Nat, k < 128 → IntKind.u8.wrap (k : Int) = (k : Int) := by decide +kernel
  exact this k (by omega)
 unfold qw
 rw [mn, sY, bE (by simp; omega), hw, QX, show zS = wA [] from rfl, rz _ _ (by simp)]
 rfl
theorem FX {s : ByteArray} (h : nx s = true) : tT s = some (wA (wF s)) := by
 have h1 := oe h
 unfold tT
 rw [yL (by omega) (by omega)]
 simp only [aA]
 have := rz [(s.size : Int)] (mz s) (by rw [mX]; simp; omega)
 rw [D8] at this
 rw [this]
 simp [wF]
theorem Bg {r : ju} (h : ma r = true) : sQ r = some (wA (rU r)) := by
 simp only [ma, bo] at h
 have h1 := oe h.1
 have a := oe h.2
 unfold sQ
 rw [FX h.1, FX h.2]
 simp only [aA]
 rw [rz _ _ (by simp [tI]; omega)]
 rfl
theorem Bq (c : jv) : vQ c = some (wA (if lH c then te c else [])) := by
 unfold vQ
 rw [Bs]
 simp only [aA]
 cases h : lH c with
 | false => rfl
 | true =>
  have g := CB h
  have i := ow g
  simp only [cJ, aC, aK, aU]
  have hk : 0 ≤ c.Kind ∧ c.Kind < 128 := by rcases ov h with h | h | h | h <;> omega
  unfold AD
  rw [yL hk.1 hk.2, Bg g]
  simp only [aA]
  rw [rz _ _ (by simp; omega)]
  simp only [aA]
  rcases ov h with ⟨k, h1, _⟩ | ⟨k, h1, _⟩ | ⟨k, h1, a, _⟩ | ⟨k, h1, a, _⟩
  ·have b := oe h1
   simp only [k, aZ, aU, FX h1, aA]
   rw [rz _ _ (by simp [tI]; omega)]
   simp [te, zm, k]
  ·have b := ow h1
   simp only [k, show ((2 : Int) == 1) = false from rfl, show ((2 : Int) == 3) = false from rfl, show ((2 : Int) == 4) = false from rfl, aC, aK, Bg h1, aA]
   rw [rz _ _ (by simp; omega)]
   simp [te, zm, k]
  ·have b := ow h1
   have d := oe a
   simp only [k, show ((3 : Int) == 1) = false from rfl, show ((3 : Int) == 4) = false from rfl, aC, aZ, aU, aK, Bg h1, aA]
   rw [rz _ _ (by simp; omega)]
   simp only [aA, FX a]
   rw [rz _ _ (by simp [tI]; omega)]
   simp [te, zm, k]
  ·have b := ow h1
   have d := ow a
   simp only [k, show ((4 : Int) == 1) = false from rfl, show ((4 : Int) == 3) = false from rfl, aC, aZ, aU, aK, Bg h1, aA]
   rw [rz _ _ (by simp; omega)]
   simp only [aA, Bg a]
   rw [rz _ _ (by simp; omega)]
   simp [te, zm, k]
def Kg (c : jv) : List UInt8 := ud (if lH c then te c else [])
def Bu (a b : jv) : Bool := Op.bytesLess (Kg a) (Kg b)
theorem F8 (a b : jv) : ∃ c, qv a b = some c ∧ (c < 0 ↔ Bu a b = true) := by
 unfold qv
 rw [B4, B4]
 exact ⟨_, rfl, Dk _ _⟩
theorem E8 (a b : jv) : ∃ c, sI a b = some c ∧ (c < 0 ↔ Bu a b = true) := by
 unfold sI
 rw [Bq, Bq]
 simp only [aA]
 have h : pY (wA (if lH a then te a else [])) (wA (if lH b then te b else [])) = Bu a b := by rw [yE]; rfl
 rw [h]
 cases Bu a b with
 | true => exact ⟨_, rfl, by decide⟩
 | false =>
  simp only [aC, aK, Bool.false_or]
  cases d : kV (wA (if lH a then te a else [])) (wA (if lH b then te b else [])) with
  | true => exact ⟨0, by simp, by decide⟩
  | false => exact ⟨1, by simp, by decide⟩
theorem Tl {a b : Int} (ha : 0 ≤ a ∧ a < 256) (d : 0 ≤ b ∧ b < 256) (h : a.toNat.toUInt8 = b.toNat.toUInt8) : a = b := by
 have := bA UInt8.toNat h
 simp only [UInt8.toNat_ofNat', Nat.toUInt8] at this
 simp at this
 omega
theorem Mr : ∀ {a b : List Int}, (∀ x ∈ a, 0 ≤ x ∧ x < 256) → (∀ x ∈ b, 0 ≤ x ∧ x < 256) → ud a = ud b → a = b
 | [], [], _, _, _ => rfl
 | [], _ :: _, _, _, h => by simp [ud] at h
 | _ :: _, [], _, _, h => by simp [ud] at h
 | x :: a, y :: b, ha, g, h => by
  simp only [ud, bL, aS] at h
  rw [Tl (ha x (by simp)) (g y (by simp)) h.1, Mr (fun z d => ha z (by simp [d])) (fun z d => g z (by simp [d])) h.2]
theorem Ab {s : ByteArray} (h : nx s = true) : ∀ x ∈ wF s, 0 ≤ x ∧ x < 256 := by
 have h1 := oe h
 intro x a
 rcases aR.1 a with rfl | a
 ·omega
 ·simp only [mz, bJ] at a
  obtain ⟨b, _, rfl⟩ := a
  have := iA b
  omega
theorem xT {r : ju} (h : ma r = true) : ∀ x ∈ rU r, 0 ≤ x ∧ x < 256 := by
 simp only [ma, bo] at h
 intro x a
 rcases aW.1 a with a | a
 ·exact Ab h.1 x a
 ·exact Ab h.2 x a
theorem Gj {c : jv} (h : lH c = true) : ∀ x ∈ te c, 0 ≤ x ∧ x < 256 := by
 intro x a
 rcases aR.1 a with rfl | a
 ·rcases ov h with h | h | h | h <;> omega
 ·rcases aW.1 a with a | a
  ·exact xT (CB h) x a
  ·unfold zm at a
   rcases ov h with ⟨k, h1, _⟩ | ⟨k, h1, _⟩ | ⟨k, h1, b, _⟩ | ⟨k, h1, b, _⟩
   ·rw [bB k] at a; exact Ab h1 x a
   ·rw [bE (by omega), bB k] at a; exact xT h1 x a
   ·rw [bE (by omega), bE (by omega), bB k] at a
    rcases aW.1 a with a | a
    ·exact xT h1 x a
    ·exact Ab b x a
   ·rw [bE (by omega), bE (by omega), bE (by omega)] at a
    rcases aW.1 a with a | a
    ·exact xT h1 x a
    ·exact xT b x a
theorem NK {s t : ByteArray} (h : mz s = mz t) : s = t := by rw [← D8 s, h, D8]
theorem B0 {s t : ByteArray} {X Y : List Int} (h : wF s ++ X = wF t ++ Y) : s = t ∧ X = Y := by
 simp only [wF, bU, aS] at h
 obtain ⟨h1, a⟩ := h
 have b : (mz s).length = (mz t).length := by rw [mX, mX]; omega
 have := List.append_inj a b
 exact ⟨NK this.1, this.2⟩
theorem Ao {a b : ju} {X Y : List Int} (h : rU a ++ X = rU b ++ Y) : a = b ∧ X = Y := by
 simp only [rU, aM] at h
 obtain ⟨h1, g⟩ := B0 h
 obtain ⟨d, i⟩ := B0 g
 exact ⟨by cases a; cases b; simp at h1 d; simp [h1, d], i⟩
theorem Oc {a b : jv} (ha : lH a = true) (v : lH b = true) (h : te a = te b) : a = b := by
 simp only [te, aS] at h
 obtain ⟨hk, t⟩ := h
 obtain ⟨p, h⟩ := Ao t
 clear t
 have l : ∀ {X Y : List Int}, X = Y → X ++ [] = Y ++ [] := fun h => by rw [h]
 unfold zm at h
 obtain ⟨G, u, J, z, A, x⟩ := a
 obtain ⟨I, w, L, bb, E, y⟩ := b
 simp only at hk p h
 subst hk p
 rcases ov ha with ⟨k, h1, g, i, d⟩ | ⟨k, h1, g, i, d⟩ | ⟨k, h1, g, i, d, j⟩ | ⟨k, h1, g, i, d, j⟩ <;>
 rcases ov v with ⟨k', g1, g2, g3, g4⟩ | ⟨k', g1, g2, g3, g4⟩ | ⟨k', g1, g2, g3, g4, g5⟩ | ⟨k', g1, g2, g3, g4, g5⟩ <;> simp only at k k' g i d g2 g3 g4 <;> (try omega)
 ·rw [bB k, bB k] at h
  simp [B0 (l h), g, i, d, g2, g3, g4]
 ·rw [bE (by omega), bB k, bE (by omega), bB k] at h
  simp [Ao (l h), g, i, d, g2, g3, g4]
 ·rw [bE (by omega), bE (by omega), bB k, bE (by omega), bE (by omega), bB k] at h
  obtain ⟨m, n⟩ := Ao h
  simp only at j g5
  simp [m, B0 (l n), d, j, g4, g5]
 ·rw [bE (by omega), bE (by omega), bE (by omega), bE (by omega), bE (by omega), bE (by omega)] at h
  obtain ⟨m, n⟩ := Ao h
  simp only at j g5
  simp [m, Ao (l n), d, j, g4, g5]
theorem Dz : AI (fun a b => Bu a b = true) (fun c => lH c = true) := by
 refine ⟨fun x _ h => ?_, fun x y z _ _ _ h1 i => yv _ _ _ h1 i, fun x y d g => ?_⟩
 ·unfold Bu at h; rw [vy] at h; cases h
 ·rcases Bo (Kg x) (Kg y) with h | h | h
  ·exact .inl h
  ·refine .inr (.inl (Oc d g ?_))
   unfold Kg at h
   rw [bB d, bB g] at h
   exact Mr (Gj d) (Gj g) h
  ·exact .inr (.inr h)
section
variable {c : Formula → Formula → Int} {G : Formula → Prop} {f : Formula × Formula → Option Int}
theorem Nt (x : Formula) : (⟨x.Op, x.K, x.ju, x.Kids⟩ : Formula) = x := by cases x; rfl
abbrev nv (c : Formula → Formula → Int) (x y : Formula) : Bool := decide (c x y < 0)
abbrev CU (f : Formula × Formula → Option Int) (c : Formula → Formula → Int) (G : Formula → Prop) : Prop := ∀ x y, G x → G y → f (x, y) = some (c x y)
theorem UA (A : CU f c G) (pre : List Formula) (x : Formula) (I : G x) : ∀ (k : Nat) (P S : List Formula) (n : Nat) (j a : Int), P.length = k → k < n → (∀ y ∈ P, G y) → (pre ++ (P ++ x :: S)).length ≤ 1000000 → j = ((pre.length + P.length : Nat) : Int) → a = (pre.length : Int) →
  ∃ P1 P2, P = P1 ++ P2 ∧ lL a f n (pre ++ (P ++ x :: S)) j = some (pre ++ (P1 ++ x :: (P2 ++ S))) ∧ (∀ P' z, P1 = P' ++ [z] → nv c x z = false) ∧ (∀ y P', P2 = y :: P' → nv c x y = true) := by
 intro k
 induction k with
 | zero =>
  intro P S n j a hk E d l h ha
  obtain rfl := aV hk
  obtain ⟨n, rfl⟩ := aT (by omega : n ≠ 0)
  refine ⟨[], [], rfl, ?_, by simp, by simp⟩
  rw [lL]
  have : ¬ (j > a) := by rw [h, ha]; simp
  simp [this]
 | succ k ih =>
  intro P S n j a hk E d l h ha
  rcases du P with rfl | ⟨P', z, rfl⟩
  ·simp at hk
  simp only [dO, aF, aQ, bV] at hk h l d ⊢
  obtain ⟨n, rfl⟩ := aT (by omega : n ≠ 0)
  have i : j > a := by omega
  have m : pre ++ (P' ++ [z] ++ x :: S) = (pre ++ P') ++ z :: x :: S := by simp
  have hw : wi0 .i64 (j - 1) = ((pre.length + P'.length : Nat) : Int) := by rw [kO (by omega) (by omega)]; omega
  have i1 : lG ((pre ++ P') ++ z :: x :: S) j = some x := by
   rw [show (pre ++ P') ++ z :: x :: S = (pre ++ P' ++ [z]) ++ x :: S by simp]
   exact mR _ _ _ _ (by simp; omega)
  have i2 : lG ((pre ++ P') ++ z :: x :: S) ((pre.length + P'.length : Nat) : Int) = some z := mR _ _ _ _ (by simp)
  have L : G z := d z (by simp)
  have w : ∀ y ∈ P', G y := fun y J => d y (by simp [J])
  have O : j.toNat = pre.length + P'.length + 1 := by omega
  rw [lL, m]
  simp only [i, cA, aU, i1, hw, i2, aA, A x z I L]
  by_cases g : c x z < 0
  ·simp only [g, cA, aU]
   have s1 : ((pre ++ P') ++ z :: x :: S).set j.toNat z = (pre ++ P') ++ z :: z :: S := by
    have := KW (pre ++ P' ++ [z]) S x z j.toNat (by simp; omega)
    simpa only [aM, gC, bU, bH] using this
   have s2 : ((pre ++ P') ++ z :: z :: S).set (pre.length + P'.length) x = (pre ++ P') ++ x :: z :: S := by
    exact KW (pre ++ P') (z :: S) z x _ (by simp)
   have i3 : lG ((pre ++ P') ++ z :: z :: S) ((pre.length + P'.length : Nat) : Int) = some z := mR _ _ _ _ (by simp)
   rw [s1, i3, aA, dH, Nt, s2]
   have p : (pre ++ P') ++ x :: z :: S = pre ++ (P' ++ x :: (z :: S)) := by simp
   obtain ⟨P1, P2, h1, t, u, v⟩ := ih P' (z :: S) n ((pre.length + P'.length : Nat) : Int) a (by omega) (by omega) w (by simp; omega) rfl ha
   rw [p, t]
   refine ⟨P1, P2 ++ [z], by rw [h1]; simp, by simp, u, ?_⟩
   intro y Q b
   cases P2 with
   | nil =>
    simp only [bH, aS] at b
    rw [← b.1]; simp [nv, g]
   | cons M P2 =>
    simp only [bU, aS] at b
    rw [← b.1]; exact v M P2 rfl
  ·simp only [g, cD, aC, aK]
   refine ⟨P' ++ [z], [], by simp, by simp, ?_, by simp⟩
   intro Q y b
   have := List.append_inj' b rfl
   simp only [aS, cK] at this
   rw [← this.2]; simp [nv, g]
theorem Qo (h : SWO (nv c)) (O : CU f c G) (pre post : List Formula) (a b : Int) (ha : a = (pre.length : Int)) : ∀ (S t : List (Formula × Nat)) (n : Nat) (i : Int),
  S.length < n → og (nv c) t → (∀ x ∈ t, ∀ y ∈ S, x.2 < y.2) → S.Pairwise (fun x y => x.2 < y.2) → (∀ x ∈ t ++ S, G x.1) → (pre ++ (t.map (·.1) ++ (S.map (·.1) ++ post))).length ≤ 1000000 →
  i = ((pre.length + t.length : Nat) : Int) → b = ((pre.length + t.length + S.length : Nat) : Int) →
  ∃ u, lA b a f n (pre ++ (t.map (·.1) ++ (S.map (·.1) ++ post))) i = some (pre ++ (u.map (·.1) ++ post)) ∧ og (nv c) u ∧ u.Perm (t ++ S)
 | [], t, n, i, J, L, h1, M, w, I, P, A => by
  obtain ⟨n, rfl⟩ := aT (by simp at J; omega : n ≠ 0)
  rw [lA]
  simp only [bV] at A
  have : ¬ (i < b) := by omega
  simp only [this, cD, aC, aK]
  exact ⟨t, by simp, L, by simp⟩
 | s :: S, t, n, i, J, L, h1, M, w, I, P, A => by
  simp only [aQ] at J A
  obtain ⟨n, rfl⟩ := aT (by omega : n ≠ 0)
  rw [lA]
  have E : i < b := by omega
  simp only [E, cA, aU]
  have k := I
  simp only [aF, dm, aQ] at k
  obtain ⟨P1, P2, T, U, W, Y⟩ := UA O pre s.1 (w s (by simp)) (t.map (·.1)).length (t.map (·.1)) (S.map (·.1) ++ post) ki i a rfl (by rw [mn]; simp; omega)
   (fun y m => by obtain ⟨p, hp, rfl⟩ := bJ.1 m; exact w p (by simp [hp])) (by simpa using I) (by simp; omega) ha
  simp only [bL, bU]
  rw [U, aA]
  obtain ⟨t1, t2, rfl, Q, R⟩ := List.map_eq_append_iff.1 T
  have hlen : t1.length + t2.length = (t1 ++ t2).length := by simp
  have hw : wi0 .i64 (i + 1) = ((pre.length + (t1 ++ s :: t2).length : Nat) : Int) := by rw [kO (by omega) (by omega)]; simp at P ⊢; omega
  rw [hw]
  have l : og (nv c) (t1 ++ s :: t2) := II h L
   (fun A' z b B' j v => by
    simp only [aS] at v
    rw [← v.1]
    refine .inr ⟨W (A'.map (·.1)) z.1 (by rw [← Q, j]; simp), h1 z (by rw [j]; simp) s (by simp)⟩)
   (fun A' z b B' j v => by
    have hz : z = s := by
     cases A' with
     | nil => simpa using j.symm
     | cons _ A' => simp at j
    rw [hz]
    exact .inl (Y b.1 (B'.map (·.1)) (by rw [← R, v]; simp)))
  have g := cH.1 M
  have Z : pre ++ (P1 ++ s.1 :: (P2 ++ (S.map (·.1) ++ post))) = pre ++ ((t1 ++ s :: t2).map (·.1) ++ (S.map (·.1) ++ post)) := by rw [← Q, ← R]; simp
  rw [Z]
  obtain ⟨u, u1, u2, u3⟩ := Qo h O pre post a b ha S (t1 ++ s :: t2) n _ (by omega) l
   (fun x d y m => by
    rcases aW.1 d with d | d
    ·exact h1 x (by simp [d]) y (by simp [m])
    ·rcases aR.1 d with rfl | d
     ·exact g.1 y m
     ·exact h1 x (by simp [d]) y (by simp [m]))
   g.2 (fun x d => w x (by
    simp only [aW, aR] at d ⊢
    rcases d with (d | d | d) | d
    ·exact .inl (.inl d)
    ·exact .inr (.inl d)
    ·exact .inl (.inr d)
    ·exact .inr (.inr d))) (by simp at k ⊢; omega) rfl (by simp at A ⊢; omega)
  refine ⟨u, u1, u2, u3.trans ?_⟩
  simp only [aM, bU]
  exact cC t1 (List.perm_middle.symm)
theorem Mx (h : SWO (nv c)) (p : CU f c G) (pre post : List Formula) (S : List (Formula × Nat)) (a b : Int) (l : S.Pairwise (fun x y => x.2 < y.2)) (m : ∀ x ∈ S, G x.1) (k : (pre ++ (S.map (·.1) ++ post)).length ≤ 1000000) (ha : a = (pre.length : Int)) (j : b = ((pre.length + S.length : Nat) : Int)) :
  ∃ u, mW (pre ++ (S.map (·.1) ++ post)) a b f = some (pre ++ (u.map (·.1) ++ post)) ∧ og (nv c) u ∧ u.Perm S := by
 unfold mW
 have g := k
 simp only [aF, dm] at g
 cases S with
 | nil =>
  refine ⟨[], ?_, .nil, .nil⟩
  obtain ⟨n, t⟩ := aT (by rw [mn]; omega : ki ≠ 0)
  rw [t, lA]
  have : ¬ (wi0 .i64 (a + 1) < b) := by rw [kO (by omega) (by omega)]; simp at j; omega
  simp [this]
 | cons s S =>
  simp only [aQ] at j g
  have d := cH.1 l
  obtain ⟨u, w, z, A⟩ := Qo h p pre post a b ha S [s] ki (wi0 .i64 (a + 1)) (by rw [mn]; omega) (gi _ _) (fun x i y v => by simp at i; rw [i]; exact d.1 y v) d.2
   (fun x i => m x (by simpa using i)) (by simp at k ⊢; omega) (by rw [kO (by omega) (by omega)]; simp; omega) (by simp; omega)
  exact ⟨u, by simpa using w, z, by simpa using A⟩
end
section
variable {c : Formula → Formula → Int} {G : Formula → Prop} {f : Formula × Formula → Option Int}
theorem nt {x : Int} (n : Nat) (h : x = (n : Int)) (a : n ≤ 4000000) : wi0 .i64 x = (n : Int) := by rw [h, kO (by omega) (by omega)]
theorem To (p m q : List Formula) (a b N : Int) : ∀ (k : Nat) (X1 X2 Y1 Y2 : List Formula) (n : Nat) (i : Int), X2.length = k → Y2.length = k → X1.length = Y1.length → k < n → (p ++ (Y1 ++ (X2 ++ (m ++ (X1 ++ (Y2 ++ q)))))).length ≤ 1000000 →
  i = (X1.length : Int) → N = ((X1.length + k : Nat) : Int) → a = (p.length : Int) → b = ((p.length + X1.length + k + m.length : Nat) : Int) →
  mc N b a n (p ++ (Y1 ++ (X2 ++ (m ++ (X1 ++ (Y2 ++ q)))))) i = some (p ++ ((Y1 ++ Y2) ++ (m ++ ((X1 ++ X2) ++ q)))) := by
 intro k
 induction k with
 | zero =>
  intro X1 X2 Y1 Y2 n i h1 d w A t z j ha l
  obtain rfl := aV h1
  obtain rfl := aV d
  obtain ⟨n, rfl⟩ := aT (by omega : n ≠ 0)
  rw [mc]
  have : ¬ (i < N) := by omega
  simp [this]
 | succ k ih =>
  intro X1 X2 Y1 Y2 n i h1 d w A t z j ha l
  cases X2 with
  | nil => simp at h1
  | cons x X2 =>
  cases Y2 with
  | nil => simp at d
  | cons y Y2 =>
  simp only [aQ, Nat.add_right_cancel_iff] at h1 d
  obtain ⟨n, rfl⟩ := aT (by omega : n ≠ 0)
  have h := t
  simp only [aF, aQ] at h
  have g : i < N := by omega
  have E : wi0 .i64 (b + i) = (((p ++ Y1).length + 1 + (X2 ++ (m ++ X1)).length : Nat) : Int) := nt _ (by simp; omega) (by simp; omega)
  have G : wi0 .i64 (a + i) = ((p ++ Y1).length : Int) := nt _ (by simp; omega) (by simp; omega)
  have I : wi0 .i64 (i + 1) = ((X1 ++ [x]).length : Int) := nt _ (by simp; omega) (by simp; omega)
  have u : p ++ (Y1 ++ (x :: X2 ++ (m ++ (X1 ++ (y :: Y2 ++ q))))) = (p ++ Y1) ++ x :: ((X2 ++ (m ++ X1)) ++ y :: (Y2 ++ q)) := by simp
  have i1 : lG ((p ++ Y1) ++ x :: ((X2 ++ (m ++ X1)) ++ y :: (Y2 ++ q))) (((p ++ Y1).length + 1 + (X2 ++ (m ++ X1)).length : Nat) : Int) = some y := by
   have := mR ((p ++ Y1) ++ x :: (X2 ++ (m ++ X1))) y (Y2 ++ q) (((p ++ Y1).length + 1 + (X2 ++ (m ++ X1)).length : Nat) : Int) (by simp; omega)
   simpa using this
  have i2 : lG ((p ++ Y1) ++ x :: ((X2 ++ (m ++ X1)) ++ y :: (Y2 ++ q))) ((p ++ Y1).length : Int) = some x := mR _ _ _ _ rfl
  rw [mc, u]
  simp only [g, cA, aU, E, G, i1, i2, aA, dH, I]
  have i3 : lG (((p ++ Y1) ++ x :: ((X2 ++ (m ++ X1)) ++ y :: (Y2 ++ q))).set (p ++ Y1).length y) (((p ++ Y1).length + 1 + (X2 ++ (m ++ X1)).length : Nat) : Int) = some y := by
   rw [FJ]
   have := mR ((p ++ Y1) ++ y :: (X2 ++ (m ++ X1))) y (Y2 ++ q) (((p ++ Y1).length + 1 + (X2 ++ (m ++ X1)).length : Nat) : Int) (by simp; omega)
   simpa using this
  rw [i3, aA, Nt, GJ]
  have v : (p ++ Y1) ++ y :: ((X2 ++ (m ++ X1)) ++ x :: (Y2 ++ q)) = p ++ ((Y1 ++ [y]) ++ (X2 ++ (m ++ ((X1 ++ [x]) ++ (Y2 ++ q))))) := by simp
  rw [v, ih (X1 ++ [x]) X2 (Y1 ++ [y]) Y2 n _ h1 d (by simp; omega) (by omega) (by simp; omega) rfl (by rw [j]; simp; omega) ha (by rw [l]; simp; omega)]
  simp
theorem MT (p m q X Y : List Formula) (a b N : Int) (h : X.length = Y.length) (g : (p ++ (X ++ (m ++ (Y ++ q)))).length ≤ 1000000) (i : N = (X.length : Int)) (ha : a = (p.length : Int)) (j : b = ((p.length + X.length + m.length : Nat) : Int)) :
  mS (p ++ (X ++ (m ++ (Y ++ q)))) a b N f = some (p ++ (Y ++ (m ++ (X ++ q)))) := by
 unfold mS
 have d := g
 simp only [aF] at d
 have := To p m q a b N X.length [] X [] Y ki 0 rfl h.symm rfl (by rw [mn]; omega) (by simpa using g) rfl (by simpa using i) ha (by rw [j]; simp)
 simpa using this
theorem TB (M : Int) : ∀ (k : Nat) (A B p q : List Formula) (n : Nat) (i j : Int), A.length + B.length ≤ k → 0 < A.length → 0 < B.length → k < n → (p ++ (A ++ (B ++ q))).length ≤ 1000000 → i = (A.length : Int) → j = (B.length : Int) → M = ((p.length + A.length : Nat) : Int) →
  mx M f n (p ++ (A ++ (B ++ q))) i j = some (p ++ (B ++ (A ++ q))) := by
 intro k
 induction k with
 | zero => intro A B p q n i j h h1 v; omega
 | succ k ih =>
  intro A B p q n i j h h1 v L y b m w
  obtain ⟨n, rfl⟩ := aT (by omega : n ≠ 0)
  have a := y
  simp only [aF] at a
  rw [mx]
  by_cases he : A.length = B.length
  ·have : (i != j) = false := by rw [b, m, he]; simp
   simp only [this, aC, aK]
   have d : wi0 .i64 (M - i) = (p.length : Int) := nt _ (by omega) (by omega)
   have := MT (f := f) p [] q A B (p.length : Int) M i he (by simpa using y) b rfl (by rw [w]; simp)
   simp only [bH] at this
   rw [d, this]; rfl
  ·have t : (i != j) = true := by rw [b, m]; simp; omega
   simp only [t, aU]
   by_cases x : i > j
   ·simp only [x, cA, aU]
    obtain ⟨X, Y, rfl, J⟩ := wN (l := A) (n := B.length) (by omega)
    simp only [aF] at b h w a
    have d : wi0 .i64 (M - i) = (p.length : Int) := nt _ (by omega) (by omega)
    have s := MT (f := f) p Y q X B (p.length : Int) M j (by omega) (by simp; omega) (by omega) rfl (by omega)
    have g : p ++ (X ++ Y ++ (B ++ q)) = p ++ (X ++ (Y ++ (B ++ q))) := by simp
    have u : wi0 .i64 (i - j) = (Y.length : Int) := nt _ (by omega) (by omega)
    rw [g, d, s, aA, u]
    have z : p ++ (B ++ (Y ++ (X ++ q))) = (p ++ B) ++ (Y ++ (X ++ q)) := by simp
    rw [z, ih Y X (p ++ B) q n _ j (by omega) (by omega) (by omega) (by omega) (by simp; omega) rfl (by omega) (by simp; omega)]
    simp
   ·simp only [x, cD, aC, aK]
    obtain ⟨Z, V, rfl, E⟩ := wN (l := B) (n := B.length - A.length) (by omega)
    simp only [aF] at m h a E v he
    have d : wi0 .i64 (M - i) = (p.length : Int) := nt _ (by omega) (by omega)
    have G : wi0 .i64 (M + j) = ((p.length + A.length + (Z.length + V.length) : Nat) : Int) := nt _ (by omega) (by omega)
    have I : wi0 .i64 (((p.length + A.length + (Z.length + V.length) : Nat) : Int) - i) = ((p.length + A.length + Z.length : Nat) : Int) := nt _ (by omega) (by omega)
    have s := MT (f := f) p Z q A V (p.length : Int) ((p.length + A.length + Z.length : Nat) : Int) i (by omega) (by simp; omega) b rfl rfl
    have g : p ++ (A ++ (Z ++ V ++ q)) = p ++ (A ++ (Z ++ (V ++ q))) := by simp
    have u : wi0 .i64 (j - i) = (Z.length : Int) := nt _ (by omega) (by omega)
    rw [g, d, G, I, s, aA, u]
    rw [show p ++ (V ++ (Z ++ (A ++ q))) = p ++ (V ++ (Z ++ (A ++ q))) from rfl, ih V Z p (A ++ q) n i _ (by omega) (by omega) (by omega) (by omega) (by simp; omega) (by omega) rfl (by omega)]
    simp
theorem U4 (A B p q : List Formula) (a m b : Int) (h1 : 0 < A.length) (h : 0 < B.length) (g : (p ++ (A ++ (B ++ q))).length ≤ 1000000) (ha : a = (p.length : Int)) (hm : m = ((p.length + A.length : Nat) : Int)) (i : b = ((p.length + A.length + B.length : Nat) : Int)) :
  mM (p ++ (A ++ (B ++ q))) a m b f = some (p ++ (B ++ (A ++ q))) := by
 unfold mM
 have d := g
 simp only [aF] at d
 rw [nt A.length (by omega) (by omega), nt B.length (by omega) (by omega)]
 exact TB m (A.length + B.length) A B p q ki _ _ (aX _) h1 h (by rw [mn]; omega) g rfl rfl hm
end
section
variable {c : Formula → Formula → Int} {G : Formula → Prop} {f : Formula × Formula → Option Int}
theorem DA {x : Int} (n : Nat) (h : x = (n : Int)) (b : n ≤ 4000000) : wi0 .i64 (Int.fdiv (IntKind.u64.wrap (wi0 .i64 x)) (2 ^ min (Int.toNat 1) (IntKind.bits .u64))) = ((n / 2 : Nat) : Int) := by
 rw [nt n h b]
 have a : IntKind.u64.wrap (n : Int) = (n : Int) := by
  simp only [IntKind.wrap, IntKind.signed, IntKind.bits]
  simp
  omega
 rw [a, show (2 ^ min (Int.toNat 1) (IntKind.bits .u64) : Int) = 2 from by decide, Int.fdiv_eq_ediv_of_nonneg _ (by decide), kO (by omega) (by omega)]
 omega
abbrev Ask (a0 : List Formula) (f : Formula × Formula → Option Int) (p q : Int) (b : Bool) : Prop := ∃ x y r, lG a0 p = some x ∧ lG a0 q = some y ∧ f (x, y) = some r ∧ decide (r < 0) = b
theorem UR (a0 : List Formula) (p : Int) (b : Nat → Bool) (lo a : Nat) (L : a ≤ 1000000) (w : ∀ h, lo ≤ h → h < a → Ask a0 f (h : Int) p (b h)) : ∀ (d n i j : Nat), j - i ≤ d → d < n → lo ≤ i → i ≤ j → j ≤ a → (i = lo ∨ b (i - 1) = true) → (j = a ∨ b j = false) →
  ∃ t O, lo ≤ t ∧ t ≤ a ∧ (t = lo ∨ b (t - 1) = true) ∧ (t = a ∨ b t = false) ∧ lh a0 p f n (i : Int) (j : Int) = lh a0 p f (O + 1) (t : Int) (t : Int) := by
 intro d
 induction d with
 | zero =>
  intro n i j h1 M g I k l m
  obtain ⟨n, rfl⟩ := aT (by omega : n ≠ 0)
  obtain rfl : i = j := by omega
  exact ⟨i, n, g, k, l, m, rfl⟩
 | succ d ih =>
  intro n i j h1 M g I k l m
  obtain ⟨n, rfl⟩ := aT (by omega : n ≠ 0)
  by_cases u : i = j
  ·subst u; exact ⟨i, n, g, k, l, m, rfl⟩
  have J := DA (i + j) (x := (i : Int) + (j : Int)) (by omega) (by omega)
  obtain ⟨x, y, r, z, A, E, G⟩ := w ((i + j) / 2) (by omega) (by omega)
  rw [lh]
  have v : ((i : Int) < (j : Int)) := by omega
  simp only [v, cA, aU, J, z, A, E, G, aA]
  cases hp : b ((i + j) / 2)
  ·simp only [aC, aK]
   exact ih n i ((i + j) / 2) (by omega) (by omega) g (by omega) (by omega) l (.inr hp)
  ·simp only [aU]
   rw [nt ((i + j) / 2 + 1) (by omega) (by omega)]
   exact ih n ((i + j) / 2 + 1) j (by omega) (by omega) (by omega) (by omega) k (.inr (by simpa using hp)) m
theorem Va (a0 : List Formula) (a2 : Int) (b : Nat → Bool) (lo a : Nat) (J : a ≤ 1000000) (v : ∀ h, lo ≤ h → h < a → Ask a0 f a2 (h : Int) (!b h)) : ∀ (d n i j : Nat), j - i ≤ d → d < n → lo ≤ i → i ≤ j → j ≤ a → (i = lo ∨ b (i - 1) = true) → (j = a ∨ b j = false) →
  ∃ t M, lo ≤ t ∧ t ≤ a ∧ (t = lo ∨ b (t - 1) = true) ∧ (t = a ∨ b t = false) ∧ lj a0 a2 f n (i : Int) (j : Int) = lj a0 a2 f (M + 1) (t : Int) (t : Int) := by
 intro d
 induction d with
 | zero =>
  intro n i j h1 L g G k l m
  obtain ⟨n, rfl⟩ := aT (by omega : n ≠ 0)
  obtain rfl : i = j := by omega
  exact ⟨i, n, g, k, l, m, rfl⟩
 | succ d ih =>
  intro n i j h1 L g G k l m
  obtain ⟨n, rfl⟩ := aT (by omega : n ≠ 0)
  by_cases p : i = j
  ·subst p; exact ⟨i, n, g, k, l, m, rfl⟩
  have I := DA (i + j) (x := (i : Int) + (j : Int)) (by omega) (by omega)
  obtain ⟨x, y, r, w, z, A, E⟩ := v ((i + j) / 2) (by omega) (by omega)
  rw [lj]
  have u : ((i : Int) < (j : Int)) := by omega
  simp only [u, cA, aU, I, w, z, A, E, aA, gw]
  cases hp : b ((i + j) / 2)
  ·simp only [aC, aK]
   exact ih n i ((i + j) / 2) (by omega) (by omega) g (by omega) (by omega) l (.inr hp)
  ·simp only [aU]
   rw [nt ((i + j) / 2 + 1) (by omega) (by omega)]
   exact ih n ((i + j) / 2 + 1) j (by omega) (by omega) (by omega) (by omega) k (.inr (by simpa using hp)) m
theorem Ub (x : Formula) : ∀ (P Q R : List Formula) (n : Nat) (k i : Int), P.length < n → (Q ++ x :: (P ++ R)).length ≤ 1000000 → k = (Q.length : Int) → i = ((Q.length + P.length + 1 : Nat) : Int) → mh i n (Q ++ x :: (P ++ R)) k = some (Q ++ (P ++ x :: R))
 | [], Q, R, n, k, i, b, d, hk, a => by
  obtain ⟨n, rfl⟩ := aT (by simp at b; omega : n ≠ 0)
  simp only [aF, aQ, bV] at d a
  rw [mh, nt Q.length (by omega) (by omega)]
  have : ¬ (k < (Q.length : Int)) := by omega
  simp [this]
 | y :: P, Q, R, n, k, i, b, d, hk, a => by
  obtain ⟨n, rfl⟩ := aT (by simp at b; omega : n ≠ 0)
  simp only [aF, aQ] at d a b
  have h : Q ++ x :: (y :: P ++ R) = Q ++ x :: ([] ++ y :: (P ++ R)) := rfl
  have j : wi0 .i64 (k + 1) = ((Q.length + 1 + ([] : List Formula).length : Nat) : Int) := nt _ (by simp; omega) (by simp; omega)
  have i1 : lG (Q ++ x :: ([] ++ y :: (P ++ R))) ((Q.length + 1 + ([] : List Formula).length : Nat) : Int) = some y := by
   have := mR (Q ++ [x]) y (P ++ R) ((Q.length + 1 + ([] : List Formula).length : Nat) : Int) (by simp)
   simpa using this
  have i2 : lG (Q ++ x :: ([] ++ y :: (P ++ R))) k = some x := mR _ _ _ _ hk
  rw [mh, nt (Q.length + P.length + 1) (by omega) (by omega), h]
  have g : k < ((Q.length + P.length + 1 : Nat) : Int) := by omega
  have kn : k.toNat = Q.length := by omega
  simp only [g, cA, aU, j, i1, i2, aA, kn]
  have i3 : lG ((Q ++ x :: ([] ++ y :: (P ++ R))).set Q.length y) ((Q.length + 1 + ([] : List Formula).length : Nat) : Int) = some y := by
   rw [FJ]
   have := mR (Q ++ [y]) y (P ++ R) ((Q.length + 1 + ([] : List Formula).length : Nat) : Int) (by simp)
   simpa using this
  rw [i3, aA, dH, Nt, GJ]
  have := Ub x P (Q ++ [y]) R n ((Q.length + 1 + ([] : List Formula).length : Nat) : Int) i (by omega) (by simp; omega) (by simp) (by rw [a]; simp; omega)
  simpa using this
theorem U5 (x : Formula) : ∀ (k : Nat) (S Q R : List Formula) (n : Nat) (j i : Int), S.length = k → k < n → (Q ++ (S ++ x :: R)).length ≤ 1000000 → j = ((Q.length + S.length : Nat) : Int) → i = (Q.length : Int) → mg i n (Q ++ (S ++ x :: R)) j = some (Q ++ x :: (S ++ R)) := by
 intro k
 induction k with
 | zero =>
  intro S Q R n j i hk m h a g
  obtain ⟨n, rfl⟩ := aT (by omega : n ≠ 0)
  obtain rfl := aV hk
  rw [mg]
  simp only [bV, gl] at a
  have : ¬ (j > i) := by omega
  simp [this]
 | succ k ih =>
  intro S Q R n j i hk m h a g
  obtain ⟨n, rfl⟩ := aT (by omega : n ≠ 0)
  rcases du S with rfl | ⟨S, z, rfl⟩
  ·simp at hk
  simp only [dO, aF, aQ, bV] at hk a h ⊢
  have l : Q ++ (S ++ [z] ++ x :: R) = (Q ++ S) ++ z :: ([] ++ x :: R) := by simp
  have t : wi0 .i64 (j - 1) = ((Q ++ S).length : Int) := nt _ (by simp; omega) (by simp; omega)
  have b : j = (((Q ++ S).length + 1 + ([] : List Formula).length : Nat) : Int) := by rw [a]; simp; omega
  have i1 : lG ((Q ++ S) ++ z :: ([] ++ x :: R)) j = some x := by
   have := mR (Q ++ S ++ [z]) x R j (by rw [b]; simp; omega)
   simpa using this
  have i2 : lG ((Q ++ S) ++ z :: ([] ++ x :: R)) ((Q ++ S).length : Int) = some z := mR _ _ _ _ rfl
  rw [mg, l]
  have d : j > i := by omega
  have p : j.toNat = (Q ++ S).length + 1 + ([] : List Formula).length := by omega
  simp only [d, cA, aU, t, i1, i2, aA, p]
  have i3 : lG (((Q ++ S) ++ z :: ([] ++ x :: R)).set ((Q ++ S).length + 1 + ([] : List Formula).length) z) ((Q ++ S).length : Int) = some z := by
   have : ((Q ++ S) ++ z :: ([] ++ x :: R)).set ((Q ++ S).length + 1 + ([] : List Formula).length) z = (Q ++ S) ++ z :: (z :: R) := by
    have := KW (Q ++ S ++ [z]) R x z ((Q ++ S).length + 1 + ([] : List Formula).length) (by simp; omega)
    simpa using this
   rw [this]; exact mR _ _ _ _ rfl
  rw [i3, aA, dH, Nt, NV]
  have := ih S Q (z :: R) n ((Q ++ S).length : Int) i (by omega) (by omega) (by simp; omega) (by simp) g
  simpa using this
end
section
variable {c : Formula → Formula → Int} {G : Formula → Prop} {f : Formula × Formula → Option Int}
theorem Uo (a0 : List Formula) (k a3 a2 : Int) (rec : List Formula → Int → Int → Int → ((Formula × Formula) → Option Int) → Option (List Formula)) (mid m p : Nat) (l : k + a3 = ((2 * mid : Nat) : Int) ∨ k + a3 = ((2 * mid + 1 : Nat) : Int)) (hm : a2 = (m : Int)) (hp : p + 1 = mid + m) (g : Nat → Bool) (lo a : Nat) (R : a ≤ 1000000) (U : mid ≤ 1000000) (T : mid + m ≤ 2000000) (hle : a ≤ p + 1) (I : ∀ h, lo ≤ h → h < a → Ask a0 f ((p - h : Nat) : Int) (h : Int) (!g h)) : ∀ (d n i j : Nat), j - i ≤ d → d < n → lo ≤ i → i ≤ j → j ≤ a → (i = lo ∨ g (i - 1) = true) → (j = a ∨ g j = false) →
  ∃ t Y, lo ≤ t ∧ t ≤ a ∧ (t = lo ∨ g (t - 1) = true) ∧ (t = a ∨ g t = false) ∧ kP a0 k a3 a2 f rec n (i : Int) (j : Int) = kP a0 k a3 a2 f rec (Y + 1) (t : Int) (t : Int) := by
 have b : wi0 .i64 (Int.fdiv (IntKind.u64.wrap (wi0 .i64 (k + a3))) (2 ^ min (Int.toNat 1) (IntKind.bits .u64))) = (mid : Int) := by
  rcases l with h | h
  ·rw [DA _ h (by omega), show 2 * mid / 2 = mid by omega]
  ·rw [DA _ h (by omega), show (2 * mid + 1) / 2 = mid by omega]
 intro d
 induction d with
 | zero =>
  intro n i j h1 W v P w z A
  obtain ⟨n, rfl⟩ := aT (by omega : n ≠ 0)
  obtain rfl : i = j := by omega
  exact ⟨i, n, v, w, z, A, rfl⟩
 | succ d ih =>
  intro n i j h1 W v P w z A
  obtain ⟨n, rfl⟩ := aT (by omega : n ≠ 0)
  by_cases E : i = j
  ·subst E; exact ⟨i, n, v, w, z, A, rfl⟩
  have Q := DA (i + j) (x := (i : Int) + (j : Int)) (by omega) (by omega)
  obtain ⟨x, y, r, J, L, M, O⟩ := I ((i + j) / 2) (by omega) (by omega)
  have Z : wi0 .i64 ((mid : Int) + a2) = ((mid + m : Nat) : Int) := nt _ (by omega) (by omega)
  have w2 : wi0 .i64 (((mid + m : Nat) : Int) - 1) = (p : Int) := nt _ (by omega) (by omega)
  have w3 : wi0 .i64 ((p : Int) - (((i + j) / 2 : Nat) : Int)) = ((p - (i + j) / 2 : Nat) : Int) := nt _ (by omega) (by omega)
  rw [kP]
  have G : ((i : Int) < (j : Int)) := by omega
  simp only [G, cA, aU, Q, b, Z, w2, w3, J, L, M, O, aA, gw]
  cases u : g ((i + j) / 2)
  ·simp only [aC, aK]
   exact ih n i ((i + j) / 2) (by omega) (by omega) v (by omega) (by omega) z (.inr u)
  ·simp only [aU]
   rw [nt ((i + j) / 2 + 1) (by omega) (by omega)]
   exact ih n ((i + j) / 2 + 1) j (by omega) (by omega) (by omega) (by omega) w (.inr (by simpa using u)) A
theorem Tg (a0 : List Formula) (b a3 a2 : Int) (rec : List Formula → Int → Int → Int → ((Formula × Formula) → Option Int) → Option (List Formula)) (mid m t n : Nat) (d : b + a3 = ((2 * mid : Nat) : Int) ∨ b + a3 = ((2 * mid + 1 : Nat) : Int)) (hm : a2 = (m : Int)) (v : mid ≤ 1000000) (u : mid + m ≤ 2000000) (E : t ≤ mid + m) :
  kP a0 b a3 a2 f rec (n + 1) (t : Int) (t : Int) =
   ((if t < m ∧ m < mid + m - t then mM a0 (t : Int) a2 ((mid + m - t : Nat) : Int) f else some a0).bind fun l => ((if b < (t : Int) ∧ t < mid then rec l b (t : Int) (mid : Int) f else some l).bind fun l => if mid < mid + m - t ∧ ((mid + m - t : Nat) : Int) < a3 then rec l (mid : Int) ((mid + m - t : Nat) : Int) a3 f else some l)) := by
 have a : wi0 .i64 (Int.fdiv (IntKind.u64.wrap (wi0 .i64 (b + a3))) (2 ^ min (Int.toNat 1) (IntKind.bits .u64))) = (mid : Int) := by
  rcases d with h | h
  ·rw [DA _ h (by omega), show 2 * mid / 2 = mid by omega]
  ·rw [DA _ h (by omega), show (2 * mid + 1) / 2 = mid by omega]
 have y : wi0 .i64 ((mid : Int) + a2) = ((mid + m : Nat) : Int) := nt _ (by omega) (by omega)
 have z : wi0 .i64 (((mid + m : Nat) : Int) - (t : Int)) = ((mid + m - t : Nat) : Int) := nt _ (by omega) (by omega)
 rw [kP]
 simp only [Int.lt_irrefl, cD, aC, aK, a, y, z, oC]
 subst hm
 have g : ((t : Int) < (m : Int)) = (t < m) := by simp
 have i : ((m : Int) < ((mid + m - t : Nat) : Int)) = (m < mid + m - t) := by rw [gb]; omega
 have j : ((t : Int) < (mid : Int)) = (t < mid) := by simp
 have k : ((mid : Int) < ((mid + m - t : Nat) : Int)) = (mid < mid + m - t) := by rw [gb]; omega
 simp only [g, i, j, k]
 have key : ∀ (p q : Prop) [Decidable p] [Decidable q] (A B : Option (List Formula)), ((if decide p = true then some (decide q) else some false : Option Bool).bind fun x => if x = true then A else B) = if p ∧ q then A else B := by
  intro p q _ _ A B
  by_cases hp : p <;> by_cases w : q <;> simp [hp, w]
 simp only [key]
theorem NG (p A q : List Formula) (h : Nat) (b : p.length ≤ h) (h1 : h < p.length + A.length) : ∃ x, A[h - p.length]? = some x ∧ lG (p ++ (A ++ q)) (h : Int) = some x := by
 obtain ⟨x, a⟩ : ∃ x, A[h - p.length]? = some x := ⟨_, cX (by omega)⟩
 refine ⟨x, a, ?_⟩
 rw [FM, eK b, fM (by omega), a]
end
section
variable {c : Formula → Formula → Int} {G : Formula → Prop} {f : Formula × Formula → Option Int}
theorem D0 {α : Type} {P A' : List α} {z : α} (S : List α) (h : P = A' ++ [z]) : (P ++ S)[P.length - 1]? = some z := by subst h; simp
theorem DI {α : Type} {S B' : List α} {z : α} (P : List α) (h : S = z :: B') : (P ++ S)[P.length]? = some z := by subst h; simp
theorem yC {A : List (Formula × Nat)} {i : Nat} {z : Formula × Nat} (h : A[i]? = some z) : (A.map (·.1))[i]? = some z.1 := by simp [h]
theorem TT (h : SWO (nv c)) (W : CU f c G) (x : Formula × Nat) (B : List (Formula × Nat)) (pre post : List Formula) (a m b : Int) (O : og (nv c) B) (ht : ∀ y ∈ B, x.2 < y.2) (E : ∀ y ∈ x :: B, G y.1) (Y : (pre ++ x.1 :: (B.map (·.1) ++ post)).length ≤ 400000) (ha : a = (pre.length : Int)) (hm : m = ((pre.length + 1 : Nat) : Int)) (U : b = ((pre.length + 1 + B.length : Nat) : Int)) :
  ∃ u, lh (pre ++ x.1 :: (B.map (·.1) ++ post)) a f ki m b = some (pre ++ (u.map (·.1) ++ post)) ∧ og (nv c) u ∧ u.Perm (x :: B) := by
 have v := Y
 simp only [aF, aQ, dm] at v
 let g : Nat → Bool := fun k => match (B.map (·.1))[k - (pre.length + 1)]? with | some y => nv c y x.1 | none => false
 have j : ∀ k, pre.length + 1 ≤ k → k < pre.length + 1 + B.length → Ask (pre ++ x.1 :: (B.map (·.1) ++ post)) f (k : Int) a (g k) := by
  intro k h1 h2
  obtain ⟨y, w, I⟩ := NG (pre ++ [x.1]) (B.map (·.1)) post k (by simp; omega) (by simp; omega)
  have J : lG (pre ++ x.1 :: (B.map (·.1) ++ post)) (k : Int) = some y := by simpa using I
  have L : lG (pre ++ x.1 :: (B.map (·.1) ++ post)) a = some x.1 := mR _ _ _ _ ha
  have hy : G y := by
   obtain ⟨q, Z, rfl⟩ := bJ.1 (cY w)
   exact E q (by simp [Z])
  refine ⟨y, x.1, _, J, L, W y x.1 hy (E x (by simp)), ?_⟩
  simp only [aF, aQ, bV] at w
  simp only [g, w]
 obtain ⟨t, n', t1, t2, t3, t4, e⟩ := UR (f := f) _ a g (pre.length + 1) (pre.length + 1 + B.length) (by omega) j B.length ki (pre.length + 1) (pre.length + 1 + B.length) (by omega) (by rw [mn]; omega) (aX _) (by omega) (aX _) (.inl rfl) (.inl rfl)
 rw [hm, U, e, lh]
 simp only [Int.lt_irrefl, cD, aC, aK, oC]
 obtain ⟨P, S, rfl, Q⟩ := wN (l := B) (n := t - (pre.length + 1)) (by omega)
 simp only [aF] at v t2 t4
 have M : pre ++ x.1 :: ((P ++ S).map (·.1) ++ post) = pre ++ x.1 :: (P.map (·.1) ++ (S.map (·.1) ++ post)) := by simp
 rw [M, Ub x.1 (P.map (·.1)) pre (S.map (·.1) ++ post) ki a (t : Int) (by rw [mn]; simp; omega) (by simp; omega) ha (by simp; omega)]
 refine ⟨P ++ x :: S, by simp, II h O ?_ ?_, eY⟩
 ·intro A' z A B' i d
  simp only [aS] at d
  rw [← d.1]
  have R : 0 < P.length := by rw [i]; simp
  have hp : g (t - 1) = true := by
   rcases t3 with t3 | t3
   ·omega
   ·exact t3
  have p := yC (D0 S i)
  rw [show P.length - 1 = t - 1 - (pre.length + 1) by omega] at p
  simp only [g, p] at hp
  exact .inl hp
 ·intro A' z A B' i d
  have hz : z = x := by
   cases A' with
   | nil => simpa using i.symm
   | cons _ A' => simp at i
  rw [hz]
  have T : 0 < S.length := by rw [d]; simp
  have hp : g t = false := by
   rcases t4 with t4 | t4
   ·omega
   ·exact t4
  have p := yC (DI P d)
  rw [Q] at p
  simp only [g, p] at hp
  exact .inr ⟨hp, ht A (by rw [d]; simp)⟩
theorem T7 (h : SWO (nv c)) (T : CU f c G) (y : Formula × Nat) (A : List (Formula × Nat)) (pre post : List Formula) (a m : Int) (M : og (nv c) A) (Y : ∀ x ∈ A, x.2 < y.2) (w : ∀ x ∈ y :: A, G x.1) (U : (pre ++ (A.map (·.1) ++ y.1 :: post)).length ≤ 400000) (ha : a = (pre.length : Int)) (hm : m = ((pre.length + A.length : Nat) : Int)) :
  ∃ u, lj (pre ++ (A.map (·.1) ++ y.1 :: post)) m f ki a m = some (pre ++ (u.map (·.1) ++ post)) ∧ og (nv c) u ∧ u.Perm (A ++ [y]) := by
 have p := U
 simp only [aF, aQ, dm] at p
 let g : Nat → Bool := fun k => match (A.map (·.1))[k - pre.length]? with | some x => !nv c y.1 x | none => false
 have i : ∀ k, pre.length ≤ k → k < pre.length + A.length → Ask (pre ++ (A.map (·.1) ++ y.1 :: post)) f m (k : Int) (!g k) := by
  intro k h1 h2
  obtain ⟨x, v, I⟩ := NG pre (A.map (·.1)) (y.1 :: post) k h1 (by simp; omega)
  have J : lG (pre ++ (A.map (·.1) ++ y.1 :: post)) m = some y.1 := by
   have := mR (pre ++ A.map (·.1)) y.1 post m (by rw [hm]; simp)
   simpa using this
  have Z : G x := by
   obtain ⟨q, W, rfl⟩ := bJ.1 (cY v)
   exact w q (by simp [W])
  refine ⟨y.1, x, _, J, I, T y.1 x (w y (by simp)) Z, ?_⟩
  simp only [g, v, gw]
 obtain ⟨t, n', t1, t2, t3, t4, e⟩ := Va (f := f) _ m g pre.length (pre.length + A.length) (by omega) i A.length ki pre.length (pre.length + A.length) (by omega) (by rw [mn]; omega) (aX _) (by omega) (aX _) (.inl rfl) (.inl rfl)
 rw [← hm, ← ha] at e
 rw [e, lj]
 simp only [Int.lt_irrefl, cD, aC, aK, oC]
 obtain ⟨P, S, rfl, O⟩ := wN (l := A) (n := t - pre.length) (by omega)
 simp only [aF] at p t2 t4 hm
 have L : pre ++ ((P ++ S).map (·.1) ++ y.1 :: post) = (pre ++ P.map (·.1)) ++ (S.map (·.1) ++ y.1 :: post) := by simp
 rw [L, U5 y.1 S.length (S.map (·.1)) (pre ++ P.map (·.1)) post ki m (t : Int) (by simp) (by rw [mn]; omega) (by simp; omega) (by rw [hm]; simp; omega) (by simp; omega)]
 refine ⟨P ++ y :: S, by simp, II h M ?_ ?_, List.perm_middle.trans (fG y (P ++ S)).symm⟩
 ·intro A' z E B' b d
  simp only [aS] at d
  rw [← d.1]
  have Q : 0 < P.length := by rw [b]; simp
  have hp : g (t - 1) = true := by
   rcases t3 with t3 | t3
   ·omega
   ·exact t3
  have j := yC (D0 S b)
  rw [show P.length - 1 = t - 1 - pre.length by omega] at j
  simp only [g, j, fD] at hp
  exact .inr ⟨hp, Y z (by rw [b]; simp)⟩
 ·intro A' z E B' b d
  have hz : z = y := by
   cases A' with
   | nil => simpa using b.symm
   | cons _ A' => simp at b
  rw [hz]
  have R : 0 < S.length := by rw [d]; simp
  have hp : g t = false := by
   rcases t4 with t4 | t4
   ·omega
   ·exact t4
  have j := yC (DI P d)
  rw [O] at j
  simp only [g, j, Bool.not_eq_false'] at hp
  exact .inl hp
theorem O5 {α : Type} {A1 A2 B1 B2 C1 C2 : List α} (a : C1.Perm (A1 ++ B1)) (b : C2.Perm (A2 ++ B2)) : (C1 ++ C2).Perm ((A1 ++ A2) ++ (B1 ++ B2)) := by
 refine (a.append b).trans ?_
 simp only [aM]
 refine cC A1 ?_
 exact fC B1 A2 B2
def QF (c : Formula → Formula → Int) (A B : List Formula) (a b p q : Nat) : Bool := match A[q - a]?, B[p - q - b]? with | some x, some y => !nv c y x | _, _ => false
theorem JX {A B : List Formula} {a b p q : Nat} {x y : Formula} (h1 : A[q - a]? = some x) (d : B[p - q - b]? = some y) : QF c A B a b p q = !nv c y x := by simp only [QF, h1, d]
theorem UE (l : CU f c G) (A B : List (Formula × Nat)) (pre post : List Formula) (a p : Nat) (m : a = pre.length + A.length) (h : ∀ x ∈ A ++ B, G x.1) (q : Nat) (u : pre.length ≤ q) (v : q < a) (w : a ≤ p - q) (E : p - q < a + B.length) :
  Ask (pre ++ (A.map (·.1) ++ (B.map (·.1) ++ post))) f ((p - q : Nat) : Int) (q : Int) (!QF c (A.map (·.1)) (B.map (·.1)) pre.length a p q) := by
 obtain ⟨x, g, i⟩ := NG pre (A.map (·.1)) (B.map (·.1) ++ post) q u (by simp; omega)
 obtain ⟨y, b, j⟩ := NG (pre ++ A.map (·.1)) (B.map (·.1)) post (p - q) (by simp; omega) (by simp; omega)
 have n : G x := by
  obtain ⟨z, d, rfl⟩ := bJ.1 (cY g)
  exact h z (by simp [d])
 have t : G y := by
  obtain ⟨z, d, rfl⟩ := bJ.1 (cY b)
  exact h z (by simp [d])
 have k : lG (pre ++ (A.map (·.1) ++ (B.map (·.1) ++ post))) ((p - q : Nat) : Int) = some y := by simpa using j
 refine ⟨y, x, _, k, i, l y x t n, ?_⟩
 rw [show p - q - (pre ++ A.map (·.1)).length = p - q - a by simp; omega] at b
 rw [JX g b, gw]
abbrev UW (c : Formula → Formula → Int) (G : Formula → Prop) (f : Formula × Formula → Option Int) (rec : List Formula → Int → Int → Int → ((Formula × Formula) → Option Int) → Option (List Formula)) (k : Nat) : Prop :=
 ∀ (A B : List (Formula × Nat)) (pre post : List Formula) (a m b : Int), A.length + B.length ≤ k → 0 < A.length → 0 < B.length → og (nv c) A → og (nv c) B →
  (∀ x ∈ A, ∀ y ∈ B, x.2 < y.2) → (∀ x ∈ A ++ B, G x.1) → (pre ++ (A.map (·.1) ++ (B.map (·.1) ++ post))).length ≤ 400000 → a = (pre.length : Int) → m = ((pre.length + A.length : Nat) : Int) → b = ((pre.length + A.length + B.length : Nat) : Int) →
  ∃ u, rec (pre ++ (A.map (·.1) ++ (B.map (·.1) ++ post))) a m b f = some (pre ++ (u.map (·.1) ++ post)) ∧ og (nv c) u ∧ u.Perm (A ++ B)
theorem SS (h : SWO (nv c)) {rec : List Formula → Int → Int → Int → ((Formula × Formula) → Option Int) → Option (List Formula)} {k : Nat} (ih : UW c G f rec k) (A1 A2 B1 B2 : List (Formula × Nat)) (pre post : List Formula) (a m b : Int) (mid d t : Nat) (T : d = pre.length + (A1.length + A2.length)) (W : mid = (pre.length + (d + (B1.length + B2.length))) / 2) (Q : A1.length = t - pre.length) (R : B1.length = mid - t) (Y : pre.length ≤ t) (Z : t ≤ mid) (a1 : t ≤ d) (hk : A1.length + A2.length + (B1.length + B2.length) ≤ k + 1) (U : 2 ≤ A1.length + A2.length + (B1.length + B2.length)) (p : og (nv c) (A1 ++ A2)) (v : og (nv c) (B1 ++ B2)) (P : ∀ x ∈ A1 ++ A2, ∀ y ∈ B1 ++ B2, x.2 < y.2) (O : ∀ x ∈ (A1 ++ A2) ++ (B1 ++ B2), G x.1) (hl : pre.length + (A1.length + A2.length + (B1.length + B2.length + post.length)) ≤ 400000) (ha : a = (pre.length : Int)) (hm : m = (d : Int)) (hb : b = ((d + (B1.length + B2.length) : Nat) : Int)) (l1 : Lk (nv c) A1 B2) (l2 : Lk (nv c) B1 A2) :
  ∃ u, ((if t < d ∧ d < mid + d - t then mM (pre ++ ((A1 ++ A2).map (·.1) ++ ((B1 ++ B2).map (·.1) ++ post))) (t : Int) m ((mid + d - t : Nat) : Int) f else some (pre ++ ((A1 ++ A2).map (·.1) ++ ((B1 ++ B2).map (·.1) ++ post)))).bind fun l =>
   ((if a < (t : Int) ∧ t < mid then rec l a (t : Int) (mid : Int) f else some l).bind fun l => if mid < mid + d - t ∧ ((mid + d - t : Nat) : Int) < b then rec l (mid : Int) ((mid + d - t : Nat) : Int) b f else some l)) = some (pre ++ (u.map (·.1) ++ post)) ∧ og (nv c) u ∧ u.Perm ((A1 ++ A2) ++ (B1 ++ B2)) := by
 have r1 : (if t < d ∧ d < mid + d - t then mM (pre ++ ((A1 ++ A2).map (·.1) ++ ((B1 ++ B2).map (·.1) ++ post))) (t : Int) m ((mid + d - t : Nat) : Int) f else some (pre ++ ((A1 ++ A2).map (·.1) ++ ((B1 ++ B2).map (·.1) ++ post)))) =
   some (pre ++ (A1.map (·.1) ++ (B1.map (·.1) ++ (A2.map (·.1) ++ (B2.map (·.1) ++ post))))) := by
  by_cases i : t < d ∧ d < mid + d - t
  ·rw [bB i]
   have := U4 (f := f) (A2.map (·.1)) (B1.map (·.1)) (pre ++ A1.map (·.1)) (B2.map (·.1) ++ post) (t : Int) m ((mid + d - t : Nat) : Int) (by simp; omega) (by simp; omega) (by simp; omega) (by simp; omega) (by simp; omega) (by simp; omega)
   simpa using this
  ·rw [bE i]
   have : A2 = [] ∨ B1 = [] := by
    by_cases h1 : A2.length = 0
    ·exact .inl (aV h1)
    ·exact .inr (aV (by omega))
   rcases this with rfl | rfl <;> simp
 rw [r1, aA]
 have r2 : ∃ C1, (if a < (t : Int) ∧ t < mid then rec (pre ++ (A1.map (·.1) ++ (B1.map (·.1) ++ (A2.map (·.1) ++ (B2.map (·.1) ++ post))))) a (t : Int) (mid : Int) f else some (pre ++ (A1.map (·.1) ++ (B1.map (·.1) ++ (A2.map (·.1) ++ (B2.map (·.1) ++ post)))))) =
   some (pre ++ (C1.map (·.1) ++ (A2.map (·.1) ++ (B2.map (·.1) ++ post)))) ∧ og (nv c) C1 ∧ C1.Perm (A1 ++ B1) := by
  by_cases i : a < (t : Int) ∧ t < mid
  ·rw [bB i]
   exact ih A1 B1 pre (A2.map (·.1) ++ (B2.map (·.1) ++ post)) a t mid (by omega) (by omega) (by omega) p.left v.left (fun x g y J => P x (by simp [g]) y (by simp [J])) (fun x g => O x (by simp at g ⊢; rcases g with g | g <;> simp [g]))
    (by simp; omega) ha (by omega) (by omega)
  ·rw [bE i]
   refine ⟨A1 ++ B1, by simp, JZ h p.left v.left (fun A' x y B' L M => ?_), .refl _⟩
   have g1 : 0 < A1.length := by rw [L]; simp
   have g2 : 0 < B1.length := by rw [M]; simp
   omega
 obtain ⟨C1, w, A, j⟩ := r2
 have z := j.length_eq
 simp only [aF] at z
 rw [w, aA]
 have r3 : ∃ C2, (if mid < mid + d - t ∧ ((mid + d - t : Nat) : Int) < b then rec (pre ++ (C1.map (·.1) ++ (A2.map (·.1) ++ (B2.map (·.1) ++ post)))) (mid : Int) ((mid + d - t : Nat) : Int) b f else some (pre ++ (C1.map (·.1) ++ (A2.map (·.1) ++ (B2.map (·.1) ++ post))))) =
   some ((pre ++ C1.map (·.1)) ++ (C2.map (·.1) ++ post)) ∧ og (nv c) C2 ∧ C2.Perm (A2 ++ B2) := by
  by_cases i : mid < mid + d - t ∧ ((mid + d - t : Nat) : Int) < b
  ·rw [bB i]
   have := ih A2 B2 (pre ++ C1.map (·.1)) post mid ((mid + d - t : Nat) : Int) b (by omega) (by omega) (by omega) p.right v.right (fun x g y J => P x (by simp [g]) y (by simp [J])) (fun x g => O x (by simp at g ⊢; rcases g with g | g <;> simp [g]))
    (by simp; omega) (by simp; omega) (by simp; omega) (by simp; omega)
   simpa using this
  ·rw [bE i]
   refine ⟨A2 ++ B2, by simp, JZ h p.right v.right (fun A' x y B' L M => ?_), .refl _⟩
   have g1 : 0 < A2.length := by rw [L]; simp
   have g2 : 0 < B2.length := by rw [M]; simp
   omega
 obtain ⟨C2, E, I, n⟩ := r3
 rw [E]
 exact ⟨C1 ++ C2, by simp, RD h p v l1 l2 j n A I, O5 j n⟩
theorem Pm (F : Nat) (O : 1000000 < F) (L : List Formula) (rec : List Formula → Int → Int → Int → ((Formula × Formula) → Option Int) → Option (List Formula)) (pl g h mid d p : Nat) (a b m : Int) (u : Nat → Bool) (z : 0 < g) (A : 0 < h) (I : pl + (g + h) ≤ 400000) (G : mid = (pl + (pl + g + h)) / 2) (E : d = pl + g) (hp : p + 1 = mid + d) (l : a + b = ((2 * mid : Nat) : Int) ∨ a + b = ((2 * mid + 1 : Nat) : Int)) (ha : a = (pl : Int)) (k : m = (d : Int)) (P : b = ((pl + g + h : Nat) : Int)) (i : ∀ q, pl ≤ q → q < d → d ≤ p - q → p - q < d + h → Ask L f ((p - q : Nat) : Int) (q : Int) (!u q)) :
  ∃ t n lo v : Nat, (lo = pl ∧ v = d ∧ d ≤ mid ∨ lo + (pl + g + h) = mid + d ∧ v = mid ∧ mid < d) ∧ lo ≤ t ∧ t ≤ v ∧ (t = lo ∨ u (t - 1) = true) ∧ (t = v ∨ u t = false) ∧
    ((if decide (m > (mid : Int)) then some (wi0 .i64 (((mid + d : Nat) : Int) - b), (mid : Int)) else some (a, m) : Option (Int × Int)).bind fun x => kP L a b m f rec F x.1 x.2) =
     kP L a b m f rec (n + 1) (t : Int) (t : Int) := by
 by_cases y : mid < d
 ·obtain ⟨lo, w⟩ : ∃ lo : Nat, lo + (pl + g + h) = mid + d := ⟨mid + d - (pl + g + h), by omega⟩
  obtain ⟨t, n, t1, t2, t3, t4, e⟩ := Uo (f := f) L a b m rec mid d p l k hp u lo mid (by omega) (by omega) (by omega) (by omega) (fun q J M => i q (by omega) (by omega) (by omega) (by omega))
   (mid - lo) F lo mid (aX _) (by omega) (aX _) (by omega) (aX _) (.inl rfl) (.inl rfl)
  refine ⟨t, n, lo, mid, .inr ⟨w, rfl, y⟩, t1, t2, t3, t4, ?_⟩
  have j : m > (mid : Int) := by omega
  simp only [j, cA, aU, aA]
  rw [nt lo (by omega) (by omega), e]
 ·obtain ⟨t, n, t1, t2, t3, t4, e⟩ := Uo (f := f) L a b m rec mid d p l k hp u pl d (by omega) (by omega) (by omega) (by omega) (fun q J M => i q (by omega) (by omega) (by omega) (by omega))
   (d - pl) F pl d (aX _) (by omega) (aX _) (by omega) (aX _) (.inl rfl) (.inl rfl)
  refine ⟨t, n, pl, d, .inl ⟨rfl, rfl, by omega⟩, t1, t2, t3, t4, ?_⟩
  have j : ¬ (m > (mid : Int)) := by omega
  simp only [j, cD, aC, aK, aA]
  rw [← e, ← ha, ← k]
set_option maxHeartbeats 2000000 in
theorem UH (h : SWO (nv c)) (hf : CU f c G) : ∀ (k : Nat) (A B : List (Formula × Nat)) (pre post : List Formula) (n : Nat) (a m b : Int), A.length + B.length ≤ k → 0 < A.length → 0 < B.length → k < n → og (nv c) A → og (nv c) B →
  (∀ x ∈ A, ∀ y ∈ B, x.2 < y.2) → (∀ x ∈ A ++ B, G x.1) → (pre ++ (A.map (·.1) ++ (B.map (·.1) ++ post))).length ≤ 400000 → a = (pre.length : Int) → m = ((pre.length + A.length : Nat) : Int) → b = ((pre.length + A.length + B.length : Nat) : Int) →
  ∃ u, lD n (pre ++ (A.map (·.1) ++ (B.map (·.1) ++ post))) a m b f = some (pre ++ (u.map (·.1) ++ post)) ∧ og (nv c) u ∧ u.Perm (A ++ B) := by
 intro k
 induction k with
 | zero => intro A B pre post n a m b h0 h1 h2; omega
 | succ k ih =>
  intro A B pre post n a m b h0 h1 h2 hn hA hB Z Y hl ha hm R
  obtain ⟨n, rfl⟩ := aT (by omega : n ≠ 0)
  have T := hl
  simp only [aF, dm] at T
  rw [lD]
  unfold oO
  by_cases c1 : A.length = 1
  ·obtain ⟨x, rfl⟩ := List.length_eq_one_iff.1 c1
   have : (wi0 .i64 (m - a) == 1) = true := by rw [nt 1 (by simp at hm; omega) (by omega)]; rfl
   simp only [this, aU]
   obtain ⟨u, u1, u2, u3⟩ := TT h hf x B pre post a m b hB (fun y hy => Z x (by simp) y hy) (fun y hy => Y y (by simpa using hy)) (by simpa using hl) ha (by simpa using hm) (by simpa using R)
   exact ⟨u, by simpa using u1, u2, by simpa using u3⟩
  have n1 : (wi0 .i64 (m - a) == 1) = false := by rw [nt A.length (by omega) (by omega)]; simp; omega
  simp only [n1, aC, aK]
  by_cases c2 : B.length = 1
  ·obtain ⟨y, rfl⟩ := List.length_eq_one_iff.1 c2
   have : (wi0 .i64 (b - m) == 1) = true := by rw [nt 1 (by simp at R; omega) (by omega)]; rfl
   simp only [this, aU]
   obtain ⟨u, u1, u2, u3⟩ := T7 h hf y A pre post a m hA (fun x hx => Z x hx y (by simp)) (fun x hx => Y x (by simp at hx ⊢; exact hx.symm)) (by simpa using hl) ha hm
   exact ⟨u, by simpa using u1, u2, u3⟩
  have n2 : (wi0 .i64 (b - m) == 1) = false := by rw [nt B.length (by omega) (by omega)]; simp; omega
  simp only [n2, aC, aK]
  obtain ⟨F, hF, a6⟩ : ∃ F, F = ki ∧ 1000000 < F := ⟨ki, rfl, by rw [mn]; omega⟩
  rw [← hF]
  obtain ⟨mid, L⟩ : ∃ mid : Nat, mid = (pre.length + (pre.length + A.length + B.length)) / 2 := ⟨_, rfl⟩
  obtain ⟨d, j⟩ : ∃ d : Nat, d = pre.length + A.length := ⟨_, rfl⟩
  obtain ⟨p, hp⟩ : ∃ p : Nat, p + 1 = mid + d := ⟨mid + d - 1, by omega⟩
  have I : a + b = ((2 * mid : Nat) : Int) ∨ a + b = ((2 * mid + 1 : Nat) : Int) := by omega
  have M : wi0 .i64 (Int.fdiv (IntKind.u64.wrap (wi0 .i64 (a + b))) (2 ^ min (Int.toNat 1) (IntKind.bits .u64))) = (mid : Int) := by
   rcases I with h | h
   ·rw [DA _ h (by omega), show 2 * mid / 2 = mid by omega]
   ·rw [DA _ h (by omega), show (2 * mid + 1) / 2 = mid by omega]
  have J : m = (d : Int) := by omega
  have w1 : wi0 .i64 ((mid : Int) + m) = ((mid + d : Nat) : Int) := nt _ (by omega) (by omega)
  obtain ⟨O, v⟩ : ∃ O : Nat → Bool, O = QF c (A.map (·.1)) (B.map (·.1)) pre.length d p := ⟨_, rfl⟩
  have Q : ∀ q, pre.length ≤ q → q < d → d ≤ p - q → p - q < d + B.length → Ask (pre ++ (A.map (·.1) ++ (B.map (·.1) ++ post))) f ((p - q : Nat) : Int) (q : Int) (!O q) := fun q g i q3 q4 => by rw [v]; exact UE hf A B pre post d p j Y q g i q3 q4
  obtain ⟨t, n', lo, hi, a7, t1, t2, t3, t4, e⟩ := Pm (f := f) F a6 (pre ++ (A.map (·.1) ++ (B.map (·.1) ++ post))) (lD n) pre.length A.length B.length mid d p a b m O (by omega) (by omega) (by omega) L j hp I ha J R Q
  simp only [M, w1]
  rw [e, Tg (f := f) _ a b m _ mid d t n' I J (by omega) (by omega) (by omega)]
  obtain ⟨A1, A2, rfl, P⟩ := wN (l := A) (n := t - pre.length) (by omega)
  obtain ⟨B1, B2, rfl, a1⟩ := wN (l := B) (n := mid - t) (by omega)
  simp only [aF] at h0 h1 h2 T t1 t2 t3 t4 a7 hm R j L
  have U : ∀ q x y, ((A1 ++ A2).map (·.1))[q - pre.length]? = some x → ((B1 ++ B2).map (·.1))[p - q - d]? = some y → O q = !nv c y x := fun q x y w E => by rw [v]; exact JX w E
  have l1 : Lk (nv c) A1 B2 := by
   intro A' z b' B' g i
   have g1 : 0 < A1.length := by rw [g]; simp
   have g2 : 0 < B2.length := by rw [i]; simp
   have W : O (t - 1) = true := by
    rcases t3 with t3 | t3
    ·omega
    ·exact t3
   have w := yC (D0 A2 g)
   have E := yC (DI B1 i)
   rw [show A1.length - 1 = t - 1 - pre.length by omega] at w
   rw [show B1.length = p - (t - 1) - d by omega] at E
   rw [U _ _ _ w E, fD] at W
   exact .inr ⟨W, Z z (by rw [g]; simp) b' (by rw [i]; simp)⟩
  have l2 : Lk (nv c) B1 A2 := by
   intro A' z b' B' g i
   have g1 : 0 < B1.length := by rw [g]; simp
   have g2 : 0 < A2.length := by rw [i]; simp
   have W : O t = false := by
    rcases t4 with t4 | t4
    ·omega
    ·exact t4
   have w := yC (D0 B2 g)
   have E := yC (DI A1 i)
   rw [show B1.length - 1 = p - t - d by omega] at w
   rw [P] at E
   rw [U _ _ _ E w, Bool.not_eq_false'] at W
   exact .inl W
  exact SS h (fun A B pre post a m b g i q3 => ih A B pre post n a m b g i q3 (by omega)) A1 A2 B1 B2 pre post a m b mid d t j (by rw [L]; congr 1; omega) P a1 (by omega) (by omega) (by omega) (by omega) (by omega) hA hB Z Y (by omega) ha J (by rw [R]; congr 1; omega) l1 l2
end
section
variable {c : Formula → Formula → Int} {G : Formula → Prop} {f : Formula × Formula → Option Int}
def xE (c : Formula → Formula → Int) : Nat → List (List (Formula × Nat)) → Prop
 | _, [] => True
 | o, A :: bs => og (nv c) A ∧ (∀ x ∈ A, o ≤ x.2 ∧ x.2 < o + A.length) ∧ xE c (o + A.length) bs
def WB (s : Nat) : List (List (Formula × Nat)) → Prop
 | [] => True
 | A :: bs => A.length ≤ s ∧ (bs ≠ [] → A.length = s) ∧ WB s bs
theorem xE.append : ∀ {ds bs : List (List (Formula × Nat))} {o : Nat}, xE c o (ds ++ bs) ↔ xE c o ds ∧ xE c (o + ds.flatten.length) bs
 | [], bs, o => by simp [xE]
 | A :: ds, bs, o => by
  simp only [bU, xE, xE.append (ds := ds), bN, aF, and_assoc, ev]
def fm (bs : List (List (Formula × Nat))) : List Formula := bs.flatten.map (·.1)
theorem Jj (a b : List (List (Formula × Nat))) : fm (a ++ b) = fm a ++ fm b := by simp [fm]
theorem Mj (A : List (Formula × Nat)) (b : List (List (Formula × Nat))) : fm (A :: b) = A.map (·.1) ++ fm b := by simp [fm]
theorem re (a : List (List (Formula × Nat))) : (fm a).length = a.flatten.length := by unfold fm; rw [dm]
theorem OS (ds : List (List (Formula × Nat))) (C : List (Formula × Nat)) : (ds ++ [C]).flatten.length = ds.flatten.length + C.length := by rw [cM, aF]; simp only [bN, dy, bI]
theorem SG (C : List (Formula × Nat)) (bs : List (List (Formula × Nat))) : fm ([C] ++ bs) = C.map (·.1) ++ fm bs := by simp [fm]
theorem F2 {R : List Formula} {o : Nat} {x : Formula × Nat} (h : x ∈ R.zipIdx o) : x.1 ∈ R := List.fst_mem_of_mem_zipIdx h
theorem WB.two {s : Nat} {A : List (Formula × Nat)} {bs : List (List (Formula × Nat))} (g : 0 < s) (h : WB s (A :: bs)) (d : s < (A :: bs).flatten.length) : A.length = s ∧ ∃ B a, bs = B :: a ∧ (B.length = s ∨ a = []) ∧ B.length ≤ s ∧ WB s a := by
 cases bs with
 | nil => simp at d; have := h.1; omega
 | cons B a =>
  refine ⟨h.2.1 (by simp), B, a, rfl, ?_, h.2.2.1, h.2.2.2.2⟩
  by_cases b : a = []
  ·exact .inr b
  ·exact .inl (h.2.2.2.1 b)
theorem KN (h : SWO (nv c)) (z : CU f c G) {ds bs : List (List (Formula × Nat))} {A B : List (Formula × Nat)} (hO : xE c 0 (ds ++ A :: B :: bs)) (v : ∀ x ∈ (ds ++ A :: B :: bs).flatten, G x.1) (i : (fm (ds ++ A :: B :: bs)).length ≤ 400000) (t : 0 < A.length) (u : 0 < B.length) (a m b : Int) (ha : a = (ds.flatten.length : Int)) (hm : m = ((ds.flatten.length + A.length : Nat) : Int)) (w : b = ((ds.flatten.length + A.length + B.length : Nat) : Int)) :
  ∃ C, lD ki (fm (ds ++ A :: B :: bs)) a m b f = some (fm ((ds ++ [C]) ++ bs)) ∧ xE c 0 ((ds ++ [C]) ++ bs) ∧ C.Perm (A ++ B) := by
 obtain ⟨h1, p⟩ := xE.append.1 hO
 obtain ⟨M, l, O, n, E⟩ := p
 have e : fm (ds ++ A :: B :: bs) = fm ds ++ (A.map (·.1) ++ (B.map (·.1) ++ fm bs)) := by rw [Jj, Mj, Mj]
 rw [e] at i ⊢
 have j := i
 simp only [aF, dm, re] at j
 obtain ⟨C, J, L, k⟩ := UH h z (A.length + B.length) A B (fm ds) (fm bs) ki a m b (aX _) t u (by rw [mn]; omega) M O (fun x d y I => by have := (l x d).2; have := (n y I).1; omega)
  (fun x d => v x (by
   rw [cM, bN, bN, aW, aW, aW]
   rcases aW.1 d with d | d
   ·exact .inr (.inl d)
   ·exact .inr (.inr (.inl d)))) i (by rw [ha, re]) (by rw [hm, re]) (by rw [w, re])
 have g := k.length_eq
 simp only [aF] at g
 refine ⟨C, by rw [J, aM, Jj, SG], ?_, k⟩
 ·rw [aM, xE.append]
  refine ⟨h1, L, fun x d => ?_, ?_⟩
  ·rcases aW.1 (k.mem_iff.1 d) with d | d
   ·have := l x d; omega
   ·have := n x d; omega
  ·rw [g, ← ev]; exact E
theorem Ka {ds bs : List (List (Formula × Nat))} {A B C : List (Formula × Nat)} (h : C.Perm (A ++ B)) : ((ds ++ [C]) ++ bs).flatten.Perm (ds ++ A :: B :: bs).flatten := by
 simp only [cM, bN, dy, bI, aM]
 refine cC _ ?_
 rw [← aM]
 exact h.append_right _
theorem Q0 (h : SWO (nv c)) (R : CU f c G) (s : Nat) (U : 0 < s) (W : s ≤ 1000000) (N : Nat) (hN : N ≤ 400000) : ∀ (k : Nat) (bs ds : List (List (Formula × Nat))) (n : Nat) (a b : Int), bs.length ≤ k → k < n → xE c 0 (ds ++ bs) → (∀ x ∈ (ds ++ bs).flatten, G x.1) → (ds ++ bs).flatten.length = N → WB s bs → (∀ A ∈ ds, A.length = 2 * s) →
  a = (ds.flatten.length : Int) → b = ((ds.flatten.length + 2 * s : Nat) : Int) →
  ∃ es r, mw (N : Int) (s : Int) f n (fm (ds ++ bs)) a b = some (fm (es ++ r), (es.flatten.length : Int)) ∧ xE c 0 (es ++ r) ∧ (es ++ r).flatten.Perm (ds ++ bs).flatten ∧ WB s r ∧ r.flatten.length < 2 * s ∧ (∀ A ∈ es, A.length = 2 * s) := by
 intro k
 induction k with
 | zero =>
  intro bs ds n a b hk T hO t j u l ha P
  obtain ⟨n, rfl⟩ := aT (by omega : n ≠ 0)
  obtain rfl := aV (Nat.le_zero.1 hk)
  simp only [bI] at j
  rw [mw]
  have : ¬ (b ≤ (N : Int)) := by omega
  simp only [this, cD, aC, aK]
  exact ⟨ds, [], by rw [ha], hO, .refl _, trivial, by simp only [dy, bV]; omega, l⟩
 | succ k ih =>
  intro bs ds n a b hk T hO t j u l ha P
  obtain ⟨n, rfl⟩ := aT (by omega : n ≠ 0)
  rw [mw]
  by_cases hle : b ≤ (N : Int)
  ·simp only [hle, cA, aU]
   have d := j
   rw [cM, aF] at d
   cases bs with
   | nil => simp only [dy, bV] at d; omega
   | cons A bs =>
    obtain ⟨hA, B, i, rfl, m, M, v⟩ := WB.two U u (by omega)
    have O : B.length = s := by
     rcases m with m | rfl
     ·exact m
     ·simp only [bN, dy, bI, aF] at d; omega
    have w1 : wi0 .i64 (a + (s : Int)) = ((ds.flatten.length + A.length : Nat) : Int) := nt _ (by omega) (by omega)
    obtain ⟨C, Z, q2, w⟩ := KN h R hO t (by rw [re]; omega) (by omega) (by omega) a _ b ha w1 (by omega)
    rw [Z, aA]
    have p := w.length_eq
    simp only [aF] at p
    have w2 : wi0 .i64 (2 * (s : Int)) = ((2 * s : Nat) : Int) := nt _ (by omega) (by omega)
    have Q : (ds ++ [C]).flatten.length = ds.flatten.length + 2 * s := by rw [OS]; omega
    have w3 : wi0 .i64 (b + ((2 * s : Nat) : Int)) = (((ds ++ [C]).flatten.length + 2 * s : Nat) : Int) := nt _ (by omega) (by omega)
    have hp := Ka (ds := ds) (bs := i) w
    rw [w2, w3]
    obtain ⟨es, r, y, z, E, I, J, L⟩ := ih i (ds ++ [C]) n b _ (by simp at hk; omega) (by omega) q2 (fun x Y => t x (hp.mem_iff.1 Y)) (by rw [hp.length_eq, j]) v (fun X g => by
     rcases aW.1 g with g | g
     ·exact l X g
     ·simp at g; rw [g]; omega) (by rw [Q]; omega) rfl
    exact ⟨es, r, y, z, E.trans hp, I, J, L⟩
  ·simp only [hle, cD, aC, aK]
   refine ⟨ds, bs, by rw [ha], hO, .refl _, u, ?_, l⟩
   rw [cM, aF] at j
   omega
theorem WB.HR {t : Nat} : ∀ {es : List (List (Formula × Nat))} {C : List (Formula × Nat)}, (∀ A ∈ es, A.length = t) → C.length ≤ t → WB t (es ++ [C])
 | [], C, _, a => ⟨a, fun h => absurd rfl h, trivial⟩
 | E :: es, C, h, a => ⟨by rw [h E (by simp)]; omega, fun _ => h E (by simp), WB.HR (fun A b => h A (by simp [b])) a⟩
theorem NQ {s : Nat} {r : List (List (Formula × Nat))} {o : Nat} (b : WB s r) (d : r.flatten.length ≤ s) (hO : xE c o r) : og (nv c) r.flatten ∧ ∀ x ∈ r.flatten, o ≤ x.2 ∧ x.2 < o + r.flatten.length := by
 cases r with
 | nil => exact ⟨.nil, fun x g => by cases g⟩
 | cons A r =>
  have : r.flatten = [] := by
   by_cases a : r = []
   ·rw [a]; rfl
   ·have := b.2.1 a
    rw [bN, aF] at d
    exact aV (by omega)
  rw [bN, this, bI]
  exact ⟨hO.1, hO.2.1⟩
theorem PF (h : SWO (nv c)) (W : CU f c G) (N : Nat) (hN : N ≤ 400000) : ∀ (k s : Nat) (bs : List (List (Formula × Nat))) (n : Nat), N - s ≤ k → k < n → 0 < s → s ≤ 1000000 → xE c 0 bs → (∀ x ∈ bs.flatten, G x.1) → bs.flatten.length = N → WB s bs →
  ∃ u, lX (N : Int) f n (fm bs) (s : Int) = some (u.map (·.1)) ∧ og (nv c) u ∧ u.Perm bs.flatten := by
 intro k
 induction k with
 | zero =>
  intro s bs n hk hn J m hO l i b
  obtain ⟨n, rfl⟩ := aT (by omega : n ≠ 0)
  rw [lX]
  have : ¬ ((s : Int) < (N : Int)) := by omega
  simp only [this, cD, aC, aK]
  refine ⟨bs.flatten, rfl, ?_, .refl _⟩
  cases bs with
  | nil => exact .nil
  | cons A bs =>
   have : bs.flatten = [] := by
    by_cases d : bs = []
    ·rw [d]; rfl
    ·have := b.2.1 d
     rw [bN, aF] at i
     exact aV (by omega)
   rw [bN, this, bI]
   exact hO.1
 | succ k ih =>
  intro s bs n hk hn J m hO l i b
  by_cases a8 : s < N
  ·obtain ⟨n, rfl⟩ := aT (by omega : n ≠ 0)
   rw [lX]
   have : ((s : Int) < (N : Int)) := by omega
   simp only [this, cA, aU]
   have w1 : wi0 .i64 (2 * (s : Int)) = ((2 * s : Nat) : Int) := nt _ (by omega) (by omega)
   have w0 : wi0 .i64 ((s : Int) * 2) = ((2 * s : Nat) : Int) := nt _ (by omega) (by omega)
   have a7 : bs.length ≤ 2000000 := by
    have : ∀ {bs : List (List (Formula × Nat))}, WB s bs → bs.length ≤ bs.flatten.length + 1 := by
     intro bs
     induction bs with
     | nil => intro _; simp
     | cons A bs L =>
      intro b
      by_cases d : bs = []
      ·subst d; simp
      ·have := b.2.1 d
       have := L b.2.2
       simp only [aQ, bN, aF]
       omega
    have := this b
    omega
   obtain ⟨es, r, P, Q, a, R, T, U⟩ := Q0 h W s J m N hN bs.length bs [] ki 0 ((2 * s : Nat) : Int) (aX _) (by rw [mn]; omega) (by simpa using hO) (by simpa using l) (by simpa using i) b (by simp) rfl (by simp)
   simp only [bH] at P a
   rw [w1, P, aA, w0]
   have j := a.length_eq
   rw [i, cM, aF] at j
   have w2 : wi0 .i64 ((es.flatten.length : Int) + (s : Int)) = ((es.flatten.length + s : Nat) : Int) := nt _ (by omega) (by omega)
   simp only [w2]
   by_cases hm : es.flatten.length + s < N
   ·have : (((es.flatten.length + s : Nat) : Int) < (N : Int)) := by omega
    simp only [this, cA, aU, oC]
    cases r with
    | nil => simp only [dy, bV] at j; omega
    | cons A r =>
     obtain ⟨hA, B, r', rfl, t, a1, a6⟩ := WB.two J R (by omega)
     have I : r' = [] := by
      rcases t with t | t
      ·by_cases hr : r' = []
       ·exact hr
       ·simp only [bN, aF] at T; omega
      ·exact t
     subst I
     simp only [bN, dy, bI, aF] at j T
     obtain ⟨C, q1, Y, Z⟩ := KN h W Q (fun x p => l x (a.mem_iff.1 p)) (by rw [re, a.length_eq]; omega) (by omega) (by omega) (es.flatten.length : Int) ((es.flatten.length + s : Nat) : Int) (N : Int) rfl (by omega) (by omega)
     rw [q1, aA]
     have w := Z.length_eq
     simp only [aF] at w
     have hp := (Ka (ds := es) (bs := []) Z).trans a
     simp only [bI] at Y hp ⊢
     obtain ⟨u, M, O, v⟩ := ih (2 * s) (es ++ [C]) n (by omega) (by omega) (by omega) (by omega) Y (fun x p => l x (hp.mem_iff.1 p)) (by rw [hp.length_eq, i]) (WB.HR U (by omega))
     exact ⟨u, M, O, v.trans hp⟩
   ·have : ¬ (((es.flatten.length + s : Nat) : Int) < (N : Int)) := by omega
    simp only [this, cD, aC, aK, aA]
    obtain ⟨y, z⟩ := xE.append.1 Q
    obtain ⟨b1, b2⟩ := NQ R (by omega) z
    have E : fm (es ++ r) = fm (es ++ [r.flatten]) := by simp [fm]
    have g : (es ++ [r.flatten]).flatten = (es ++ r).flatten := by simp
    rw [E]
    obtain ⟨u, M, O, v⟩ := ih (2 * s) (es ++ [r.flatten]) n (by omega) (by omega) (by omega) (by omega) (xE.append.2 ⟨y, b1, b2, trivial⟩) (fun x p => l x (a.mem_iff.1 (by rw [← g]; exact p))) (by rw [g, a.length_eq, i]) (WB.HR U (by omega))
    exact ⟨u, M, O, by rw [g] at v; exact v.trans a⟩
  ·obtain ⟨n, rfl⟩ := aT (by omega : n ≠ 0)
   rw [lX]
   have : ¬ ((s : Int) < (N : Int)) := by omega
   simp only [this, cD, aC, aK]
   refine ⟨bs.flatten, rfl, ?_, .refl _⟩
   cases bs with
   | nil => exact .nil
   | cons A bs =>
    have : bs.flatten = [] := by
     by_cases d : bs = []
     ·rw [d]; rfl
     ·have := b.2.1 d
      rw [bN, aF] at i
      exact aV (by omega)
    rw [bN, this, bI]
    exact hO.1
theorem IP : ∀ (l : List Formula) (o : Nat), (l.zipIdx o).Pairwise (fun x y => x.2 < y.2)
 | [], o => by simp
 | x :: l, o => by
  rw [iT, cH]
  refine ⟨fun y d => ?_, IP l (o + 1)⟩
  obtain ⟨a, b⟩ := y
  have := List.le_snd_of_mem_zipIdx d
  simp only at this ⊢; omega
theorem L5 (l : List Formula) (o : Nat) : ∀ x ∈ l.zipIdx o, o ≤ x.2 ∧ x.2 < o + l.length := by
 rintro ⟨a, b⟩ d
 have h1 := List.le_snd_of_mem_zipIdx d
 have g := List.snd_lt_add_of_mem_zipIdx d
 simp only at h1 g ⊢; omega
theorem N7 (h : SWO (nv c)) (k : CU f c G) (N : Nat) (y : N ≤ 300000) (R : List Formula) (ds : List (List (Formula × Nat))) (n : Nat) (a b : Int) (I : 0 < n) (hO : xE c 0 ds) (m : ∀ A ∈ ds, A.length = 20) (p : ∀ x ∈ ds.flatten, G x.1) (j : ∀ x ∈ R, G x) (E : ds.flatten.length + R.length = N) (t : R.length < 20) (ha : a = (ds.flatten.length : Int)) (z : b = ((ds.flatten.length + 20 : Nat) : Int)) :
  ∃ u, lY (N : Int) f n (fm ds ++ R) a b = some (u.map (·.1)) ∧ og (nv c) u ∧ u.Perm (ds.flatten ++ R.zipIdx ds.flatten.length) := by
 obtain ⟨n, rfl⟩ := aT (by omega : n ≠ 0)
 rw [lY]
 have hle : ¬ (b ≤ (N : Int)) := by omega
 simp only [hle, cD, aC, aK, oC]
 obtain ⟨u, l, w, g⟩ := Mx h k (fm ds) [] (R.zipIdx ds.flatten.length) a (N : Int) (IP _ _) (fun x d => j x.1 (F2 d)) (by simp only [aF, re, dm, eu, bV]; omega) (by rw [re]; exact ha) (by rw [re, eu]; omega)
 rw [List.zipIdx_map_fst, bI, bI] at l
 have i := g.length_eq
 rw [eu] at i
 have e : fm ds ++ u.map (·.1) = fm (ds ++ [u]) := by simp [fm]
 have hp : (ds ++ [u]).flatten.Perm (ds.flatten ++ R.zipIdx ds.flatten.length) := by
  rw [cM]
  refine cC _ ?_
  simpa using g
 rw [l, aA, e]
 obtain ⟨v, v1, v2, v3⟩ := PF h k N (by omega) N 20 (ds ++ [u]) ki (by omega) (by rw [mn]; omega) (by omega) (by omega) (xE.append.2 ⟨hO, w, fun x d => by have := L5 R ds.flatten.length x (g.mem_iff.1 d); omega, trivial⟩) (fun x d => by
  rw [cM, aW] at d
  rcases d with d | d
  ·exact p x d
  ·simp only [bN, dy, bI] at d
   exact j x.1 (F2 (g.mem_iff.1 d))) (by rw [hp.length_eq, aF, eu]; omega) (WB.HR m (by omega))
 exact ⟨v, v1, v2, v3.trans hp⟩
theorem PZ (h : SWO (nv c)) (E : CU f c G) (N : Nat) (L : N ≤ 300000) : ∀ (k : Nat) (R : List Formula) (ds : List (List (Formula × Nat))) (n : Nat) (a b : Int), R.length ≤ k → k < n → xE c 0 ds → (∀ A ∈ ds, A.length = 20) → (∀ x ∈ ds.flatten, G x.1) → (∀ x ∈ R, G x) → ds.flatten.length + R.length = N →
  a = (ds.flatten.length : Int) → b = ((ds.flatten.length + 20 : Nat) : Int) →
  ∃ u, lY (N : Int) f n (fm ds ++ R) a b = some (u.map (·.1)) ∧ og (nv c) u ∧ u.Perm (ds.flatten ++ R.zipIdx ds.flatten.length) := by
 intro k
 induction k with
 | zero =>
  intro R ds n a b hk M hO p t j w ha z
  obtain rfl := aV (Nat.le_zero.1 hk)
  exact N7 h E N L [] ds n a b M hO p t j w (by simp) ha z
 | succ k ih =>
  intro R ds n a b hk M hO p t j w ha z
  by_cases J : R.length < 20
  ·exact N7 h E N L R ds n a b (by omega) hO p t j w J ha z
  obtain ⟨n, rfl⟩ := aT (by omega : n ≠ 0)
  obtain ⟨R1, R2, rfl, m⟩ := wN (l := R) (n := 20) (by omega)
  rw [aF] at w hk
  rw [lY]
  have hle : b ≤ (N : Int) := by omega
  simp only [hle, cA, aU]
  obtain ⟨u, O, P, y⟩ := Mx h E (fm ds) R2 (R1.zipIdx ds.flatten.length) a b (IP _ _) (fun x d => j x.1 (by simp [F2 d])) (by simp only [aF, re, dm, eu, bV]; omega) (by rw [re]; exact ha) (by rw [re, eu]; omega)
  rw [List.zipIdx_map_fst] at O
  rw [O, aA]
  have g := y.length_eq
  rw [eu, m] at g
  have I : (ds ++ [u]).flatten.length = ds.flatten.length + 20 := by rw [OS, g]
  have Q : wi0 .i64 (b + 20) = (((ds ++ [u]).flatten.length + 20 : Nat) : Int) := nt _ (by omega) (by omega)
  have e : fm ds ++ (u.map (·.1) ++ R2) = fm (ds ++ [u]) ++ R2 := by simp [fm]
  rw [e, Q]
  obtain ⟨v, v1, v2, v3⟩ := ih R2 (ds ++ [u]) n b _ (by omega) (by omega) (xE.append.2 ⟨hO, P, fun x d => by have := L5 R1 ds.flatten.length x (y.mem_iff.1 d); omega, trivial⟩) (fun A i => by
   rcases aW.1 i with i | i
   ·exact p A i
   ·simp at i; rw [i]; exact g) (fun x d => by
   rw [cM, aW] at d
   rcases d with d | d
   ·exact t x d
   ·simp only [bN, dy, bI] at d
    exact j x.1 (by simp [F2 (y.mem_iff.1 d)])) (fun x d => j x (by simp [d])) (by omega) (by omega) rfl
  refine ⟨v, v1, v2, v3.trans ?_⟩
  rw [I, cM, List.zipIdx_append, m, aM]
  refine cC _ ?_
  simp only [bN, dy, bI]
  exact y.append_right _
theorem MW (h : SWO (nv c)) (g : CU f c G) (l : List Formula) (d : ∀ x ∈ l, G x) (i : l.length ≤ 300000) : oB l f = some (KS (nv c) l) := by
 unfold oB qT
 obtain ⟨u, a, j, b⟩ := PZ h g l.length i l.length l [] ki 0 20 (aX _) (by rw [mn]; omega) trivial (by simp) (by simp) d (by simp) rfl rfl
 simp only [fm, dy, eT, bH, bV] at a b
 rw [a, aA, Ry h j b]
end
theorem JY {P : Formula → Prop} (h : ∀ f, (∀ k ∈ f.Kids, P k) → P f) : ∀ f, P f := by
 intro f
 refine Formula.rec (motive_1 := P) (motive_2 := fun ks => ∀ k ∈ ks, P k) ?_ ?_ ?_ f
 ·intro o k r ks ih; exact h _ ih
 ·intro k hk; cases hk
 ·intro k ks h1 b x a
  rcases aR.1 a with rfl | a
  ·exact h1
  ·exact b x a
mutual
def kB : Formula → Nat
 | ⟨_, _, _, ks⟩ => 1 + nodesL ks
def nodesL : List Formula → Nat
 | [] => 0
 | k :: ks => kB k + nodesL ks
end
mutual
def nI : Formula → Nat
 | ⟨_, _, _, ks⟩ => deepL ks + 1
def deepL : List Formula → Nat
 | [] => 0
 | k :: ks => max (nI k) (deepL ks)
end
theorem nR (f : Formula) : kB f = 1 + nodesL f.Kids := by cases f; rw [kB]
theorem mK (f : Formula) : nI f = deepL f.Kids + 1 := by cases f; rw [nI]
theorem tk : ∀ {ks : List Formula} {k : Formula}, k ∈ ks → kB k ≤ nodesL ks
 | x :: ks, k, h => by
  rw [nodesL]
  rcases aR.1 h with rfl | h
  ·omega
  ·have := tk h; omega
theorem qK : ∀ {ks : List Formula} {k : Formula}, k ∈ ks → nI k ≤ deepL ks
 | x :: ks, k, h => by
  rw [deepL]
  rcases aR.1 h with rfl | h
  ·omega
  ·have := qK h; omega
theorem wu : ∀ f : Formula, nI f ≤ kB f := by
 refine JY fun f ih => ?_
 rw [mK, nR]
 have : ∀ ks : List Formula, (∀ k ∈ ks, nI k ≤ kB k) → deepL ks ≤ nodesL ks := by
  intro ks
  induction ks with
  | nil => intro _; rw [deepL]; omega
  | cons k ks a =>
   intro h
   have := a (fun x b => h x (by simp [b]))
   have := h k (by simp)
   rw [deepL, nodesL]; omega
 have := this f.Kids ih
 omega
theorem pF : ∀ ks : List Formula, ks.length ≤ nodesL ks
 | [] => by rw [nodesL]; simp
 | k :: ks => by have := pF ks; have := nR k; rw [nodesL, aQ]; omega
theorem NN (a : Nat) (hm : a ≤ 4096) (rec : Formula → Int → Option (Int × Int)) : ∀ (ks : List Formula), (∀ k ∈ ks, ∀ q : Nat, q ≤ 4096 → ∃ n d : Nat, rec k (q : Int) = some ((n : Int), (d : Int)) ∧ 1 ≤ n ∧ n ≤ kB k ∧ d ≤ kB k ∧ (kB k ≤ q → n = kB k ∧ d = nI k) ∧ (q < kB k → q < n)) → ∀ x y : Nat, x + nodesL ks ≤ 100000000 →
  ∃ n d : Nat, pa (a : Int) rec ks (x : Int) (y : Int) = some ((n : Int), (d : Int)) ∧ x ≤ n ∧ n ≤ x + nodesL ks ∧ d ≤ max y (nodesL ks) ∧ (x + nodesL ks ≤ a → n = x + nodesL ks ∧ d = max y (deepL ks)) ∧ (a < x + nodesL ks → a < n)
 | [], _, x, y, _ => by
  rw [pa, nodesL, deepL]
  exact ⟨x, y, rfl, by omega, by omega, by omega, fun _ => ⟨by omega, by omega⟩, fun h => by omega⟩
 | k :: ks, g, x, y, p => by
  rw [nodesL] at p ⊢
  rw [pa, deepL]
  by_cases i : (x : Int) > (a : Int)
  ·simp only [i, cA, aU]
   exact ⟨x, y, rfl, by omega, by omega, by omega, fun _ => by omega, fun h => by omega⟩
  ·simp only [i, cD, aC, aK]
   have u : wi0 .i64 ((a : Int) - (x : Int)) = ((a - x : Nat) : Int) := by rw [kO (by omega) (by omega)]; omega
   obtain ⟨m, d, e, h1, A, E, b, l⟩ := g k (by simp) (a - x) (by omega)
   rw [u, e, aA]
   have v : wi0 .i64 ((x : Int) + (m : Int)) = ((x + m : Nat) : Int) := by rw [kO (by omega) (by omega)]; omega
   have w : (if (d : Int) > (y : Int) then (d : Int) else (y : Int)) = ((max y d : Nat) : Int) := by split <;> omega
   simp only [v, w]
   obtain ⟨n, j, e', g1, g2, g3, g4, g5⟩ := NN a hm rec ks (fun z t => g z (by simp [t])) (x + m) (max y d) (by omega)
   refine ⟨n, j, e', by omega, by omega, by omega, fun h => ?_, fun h => ?_⟩
   ·obtain ⟨rfl, rfl⟩ := b (by omega)
    obtain ⟨rfl, rfl⟩ := g4 (by omega)
    exact ⟨by omega, by omega⟩
   ·by_cases hk : a - x < kB k
    ·have := l hk; omega
    ·obtain ⟨rfl, _⟩ := b (by omega)
     exact g5 (by omega)
theorem P5 : ∀ (n : Nat) (f : Formula), nI f ≤ n → kB f ≤ 50000000 → ∀ q : Nat, q ≤ 4096 → ∃ m d : Nat, od n f (q : Int) = some ((m : Int), (d : Int)) ∧ 1 ≤ m ∧ m ≤ kB f ∧ d ≤ kB f ∧ (kB f ≤ q → m = kB f ∧ d = nI f) ∧ (q < kB f → q < m) := by
 intro n
 induction n with
 | zero => intro f h; rw [mK] at h; omega
 | succ n ih =>
  intro f i u q a
  rw [mK] at i
  have j := nR f
  rw [od]
  unfold vC
  obtain ⟨m, d, e, h1, p, t, b, g⟩ := NN q a (od n) f.Kids (fun k hk q a => ih k (by have := qK hk; omega) (by have := tk hk; omega) q a) 1 0 (by omega)
  have e' : pa (q : Int) (od n) f.Kids 1 0 = some ((m : Int), (d : Int)) := e
  rw [e', aA]
  have l : wi0 .i64 ((d : Int) + 1) = ((d + 1 : Nat) : Int) := by rw [kO (by omega) (by omega)]; omega
  simp only [l]
  refine ⟨m, d + 1, rfl, h1, by omega, by omega, fun h => ?_, fun h => g (by omega)⟩
  obtain ⟨rfl, rfl⟩ := b (by omega)
  rw [mK]
  exact ⟨by omega, by omega⟩
theorem Rr (f : Formula) (g : kB f ≤ 50000000) : xo f = some (if kB f ≤ 4096 then ((kB f : Int), (nI f : Int)) else (0, 0)) := by
 unfold xo
 have := wu f
 obtain ⟨m, d, e, h1, i, j, a, b⟩ := P5 ki f (by rw [mn]; omega) g 4096 (aX _)
 have e' : od ki f 4096 = some ((m : Int), (d : Int)) := e
 rw [e', aA]
 by_cases h : kB f ≤ 4096
 ·obtain ⟨rfl, rfl⟩ := a h
  have : ¬ ((kB f : Int) > 4096) := by omega
  simp [this, h]
 ·have := b (by omega)
  have : ((m : Int) > 4096) := by omega
  simp [this, h]
def px : ju := ⟨zS, zS⟩
def DY (f : Formula) : Bool := if f.Op = 1 then ma f.ju && decide (f.Kids.length = 0) && decide (f.K = 0) else if f.Op = 2 ∨ f.Op = 3 then jY f.ju px && decide (f.K = 0) else decide (f.Op = 4) && jY f.ju px && decide (0 ≤ f.K) && decide (f.K ≤ (f.Kids.length : Int)) && decide (1 ≤ f.Kids.length)
theorem RF (f : Formula) : xn f = some (DY f) := by
 unfold xn DY
 simp only [yZ, aA, oC]
 by_cases h1 : f.Op = 1
 ·simp only [h1, aZ, aU]
  cases p : ma f.ju
  ·simp
  ·by_cases k : f.Kids.length = 0
   ·have : f.Kids = [] := aV k
    by_cases hk : f.K = 0 <;> simp [this, hk]
   ·have : ((f.Kids.length : Int) == 0) = false := by simp; intro h; exact k (by simp [h])
    simp only [aU, aA, this, aC, aK, k, cD, iB, fe]
 ·have m : (f.Op == 1) = false := by simpa using h1
  simp only [m, aC, aK, h1]
  by_cases d : f.Op = 2 ∨ f.Op = 3
  ·have i : (if f.Op == 2 then some (f.Op == 2) else some (f.Op == 3)) = some true := by
    rcases d with h | h <;> simp [h]
   simp only [i, aA, aU, d]
   cases g : jY f.ju ⟨zS, zS⟩ <;> by_cases hk : f.K = 0 <;> simp [px, g, hk]
  ·have i : (if f.Op == 2 then some (f.Op == 2) else some (f.Op == 3)) = some false := by
    have a : f.Op ≠ 2 := fun h => d (.inl h)
    have b : f.Op ≠ 3 := fun h => d (.inr h)
    simp [a, b]
   simp only [i, aA, aC, aK, d]
   by_cases j : f.Op = 4
   ·simp only [j, aZ, aU, aA, cA, dW]
    cases g : jY f.ju ⟨zS, zS⟩
    ·simp [px, g]
    ·by_cases c1 : 0 ≤ f.K <;> by_cases c2 : f.K ≤ (f.Kids.length : Int) <;> by_cases l : 1 ≤ f.Kids.length <;> simp [px, g, c1, c2, l] <;> omega
   ·have n : (f.Op == 4) = false := by simpa using j
    simp [n, j]
mutual
def tf : Formula → Bool
 | ⟨o, n, r, ks⟩ => DY ⟨o, n, r, ks⟩ && decide (ks.length ≤ 8) && wellL ks
def wellL : List Formula → Bool
 | [] => true
 | k :: ks => tf k && wellL ks
end
theorem G8 (f : Formula) : tf f = (DY f && decide (f.Kids.length ≤ 8) && wellL f.Kids) := by cases f; rw [tf]
theorem Fu : ∀ ks : List Formula, wellL ks = ks.all tf
 | [] => rfl
 | k :: ks => by rw [wellL, Fu ks]; rfl
theorem Kv (f : Formula → Option Bool) : ∀ (l : List Formula) (i : Nat), nk f l i = yW f l i
 | [], i => by rw [nk]; rfl
 | x :: l, i => by
  rw [nk, yW]
  cases f x with
  | none => rfl
  | some b =>
   simp only [aA]
   rw [Kv f l (i + 1)]
theorem Gq (f : Formula → Option Bool) (p : Formula → Bool) (l : List Formula) (h : ∀ x ∈ l, f x = some (p x)) : nP l f = some (l.any p) := by
 unfold nP sN
 rw [Kv]
 rcases Bx f p l 0 h with ⟨e, h1⟩ | ⟨A, x, B, rfl, h1, a, e⟩
 ·rw [e, aA]
  have : l.any p = false := by rw [List.any_eq_false]; intro x b; rw [h1 x b]; simp
  rw [this]; rfl
 ·rw [e, aA]
  have : (A ++ x :: B).any p = true := by simp [a]
  rw [this]
  congr 1
theorem Pj : ∀ (n : Nat) (f : Formula), nI f ≤ n → qY n f = some (tf f) := by
 intro n
 induction n with
 | zero => intro f h; rw [mK] at h; omega
 | succ n ih =>
  intro f h
  rw [mK] at h
  rw [qY]
  unfold vI
  rw [RF, aA, G8, Gq _ (fun k => !tf k) f.Kids (fun k hk => by unfold uw; rw [ih k (by have := qK hk; omega)]; rfl)]
  rw [Fu]
  have e : (!(f.Kids.any fun k => !tf k)) = f.Kids.all tf := by rw [List.all_eq_not_any_not]
  cases DY f
  ·rfl
  ·by_cases a : f.Kids.length ≤ 8
   ·have : ((f.Kids.length : Int) ≤ 8) := by omega
    simp [a, this, e]
   ·have : ¬ ((f.Kids.length : Int) ≤ 8) := by omega
    simp [a, this]
def nn (f : Formula) : Bool := decide (kB f ≤ 64) && decide (nI f ≤ 6) && tf f
theorem Eb (f : Formula) (b : kB f ≤ 50000000) : qX f = some (nn f) := by
 unfold qX nn
 have d := wu f
 rw [Rr f b, aA, Pj ki f (by rw [mn]; omega)]
 have h1 := nR f
 by_cases h : kB f ≤ 4096
 ·simp only [h, aU]
  have a : ((kB f : Int) ≥ 1) := by omega
  simp only [a, cA, aU, aA, oC]
  by_cases c1 : kB f ≤ 64 <;> by_cases c2 : nI f ≤ 6
  ·have d1 : ((kB f : Int) ≤ 64) := by omega
   have d2 : ((nI f : Int) ≤ 6) := by omega
   simp [c1, c2, d1, d2]
  ·have d1 : ((kB f : Int) ≤ 64) := by omega
   have d2 : ¬ ((nI f : Int) ≤ 6) := by omega
   simp [c1, c2, d1, d2]
  ·have d1 : ¬ ((kB f : Int) ≤ 64) := by omega
   simp [c1, d1]
  ·have d1 : ¬ ((kB f : Int) ≤ 64) := by omega
   simp [c1, d1]
 ·simp only [h, aK]
  have : ¬ kB f ≤ 64 := by omega
  simp [this]
theorem Formula.ext' {a b : Formula} (h1 : a.Op = b.Op) (d : a.K = b.K) (g : a.ju = b.ju) (h : a.Kids = b.Kids) : a = b := by
 cases a; cases b; simp only at h1 d g h; subst h1 d g h; rfl
theorem OQ (g : Formula × Formula → Option Bool) : ∀ (l m : List Formula), l.length = m.length → (∀ x ∈ l, ∀ y, ∃ b, g (x, y) = some b ∧ (b = true ↔ x = y)) → ∀ (A : List Formula),
  ∃ b, lg (A ++ m) g l A.length = some b ∧ (b = true ↔ l = m)
 | [], m, d, _, A => by
  obtain rfl := aV d.symm
  exact ⟨true, rfl, by simp⟩
 | x :: l, [], d, _, A => by simp at d
 | x :: l, y :: m, d, i, A => by
  rw [lg]
  obtain ⟨b, e, h⟩ := i x (by simp) y
  have i1 : lG (A ++ y :: m) (A.length : Int) = some y := mR _ _ _ _ rfl
  rw [i1, aA, e, aA]
  cases b with
  | false =>
   refine ⟨false, rfl, ?_⟩
   have : x ≠ y := fun a => by have := h.2 a; simp at this
   simp [this]
  | true =>
   have a := h.1 rfl
   obtain ⟨b, j, p⟩ := OQ g l m (by simpa using d) (fun z t => i z (by simp [t])) (A ++ [y])
   simp only [cJ, aC, aK]
   have k : A ++ y :: m = (A ++ [y]) ++ m := by simp
   have n : A.length + 1 = (A ++ [y]).length := by simp
   rw [k, n, j]
   exact ⟨b, rfl, by rw [p]; simp [a]⟩
theorem QZ : ∀ (n : Nat) (f : Formula), nI f ≤ n → ∀ g, ∃ b, nE n f g = some b ∧ (b = true ↔ f = g) := by
 intro n
 induction n with
 | zero => intro f h; rw [mK] at h; omega
 | succ n ih =>
  intro f h g
  rw [mK] at h
  rw [nE]
  unfold wv
  by_cases h1 : f.Op = g.Op
  ·by_cases a : f.K = g.K
   ·by_cases d : f.ju = g.ju
    ·have j : jY f.ju g.ju = true := kc.2 d
     simp only [h1, a, j, aZ, aU, aA]
     unfold mI
     by_cases i : f.Kids.length = g.Kids.length
     ·have : ((f.Kids.length : Int) != (g.Kids.length : Int)) = false := by simp [i]
      simp only [this, aC, aK]
      obtain ⟨b, e, m⟩ := OQ (fun x => nE n x.1 x.2) f.Kids g.Kids i (fun x p y => ih x (by have := qK p; omega) y) []
      simp only [bH, bV] at e
      rw [e]
      refine ⟨b, by simp, m.trans ⟨fun hk => Formula.ext' h1 a d hk, fun hk => by rw [hk]⟩⟩
     ·have : ((f.Kids.length : Int) != (g.Kids.length : Int)) = true := by simp; omega
      simp only [this, aU]
      exact ⟨false, rfl, by simp; intro hk; rw [hk] at i; exact i rfl⟩
    ·have j : jY f.ju g.ju = false := by rw [← fg, kc]; exact d
     simp only [h1, a, j, aZ, aU, aA, aC, aK]
     exact ⟨false, rfl, by simp; intro hk; rw [hk] at d; exact d rfl⟩
   ·have l : (f.K == g.K) = false := by simpa using a
    simp only [h1, l, aZ, aU, aA, aC, aK]
    exact ⟨false, rfl, by simp; intro hk; rw [hk] at a; exact a rfl⟩
  ·have k : (f.Op == g.Op) = false := by simpa using h1
   simp only [k, aA, aC, aK]
   exact ⟨false, rfl, by simp; intro hk; rw [hk] at h1; exact h1 rfl⟩
def rj {α : Type} (R : α → Bool) (lt : α → α → Bool) (last : Option α) : List α → Bool → α → Bool × α
 | [], ok, b => (ok, b)
 | x :: xs, ok, b => if R x && last.all (fun y => lt y x) && (!ok || lt x b) then rj R lt last xs true x else rj R lt last xs ok b
def Ay {α : Type} (w : Nat) (R : α → Bool) (lt : α → α → Bool) (d : α) (l : List α) : Nat → List α → Option (List α)
 | 0, _ => none
 | n + 1, out => if !(rj R lt out.getLast? l false d).1 then some out else (mE w out [(rj R lt out.getLast? l false d).2]).bind fun o => Ay w R lt d l n o
section
variable {α : Type} {R : α → Bool} {lt : α → α → Bool}
theorem FD (H : AI (fun a b => lt a b = true) (fun x => R x = true)) (last : Option α) : ∀ (l : List α) (ok : Bool) (b : α), (ok = true → R b = true ∧ last.all (fun y => lt y b) = true) →
  ((rj R lt last l ok b).1 = false → ok = false ∧ ∀ x ∈ l, R x = true → last.all (fun y => lt y x) = false) ∧
  ((rj R lt last l ok b).1 = true → R (rj R lt last l ok b).2 = true ∧ last.all (fun y => lt y (rj R lt last l ok b).2) = true ∧ ((rj R lt last l ok b).2 ∈ l ∨ (ok = true ∧ (rj R lt last l ok b).2 = b)) ∧
   (∀ x ∈ l, R x = true → last.all (fun y => lt y x) = true → lt x (rj R lt last l ok b).2 = false) ∧ (ok = true → lt b (rj R lt last l ok b).2 = false))
 | [], ok, b, k => by
  simp only [rj]
  exact ⟨fun h => ⟨h, by simp⟩, fun h => ⟨(k h).1, (k h).2, .inr ⟨h, trivial⟩, by simp, fun _ => by
   cases n : lt b b with
   | false => rfl
   | true => exact absurd n (H.irrefl b (k h).1)⟩⟩
 | x :: xs, ok, b, k => by
  rw [rj]
  by_cases m : (R x && last.all (fun y => lt y x) && (!ok || lt x b)) = true
  ·rw [bB m]
   simp only [bo, ft, fD] at m
   obtain ⟨⟨I, w⟩, A⟩ := m
   obtain ⟨h1, v⟩ := FD H last xs true x (fun _ => ⟨I, w⟩)
   refine ⟨fun h => ?_, fun h => ?_⟩
   ·cases (h1 h).1
   ·obtain ⟨t, a2, a3, a4, a5⟩ := v h
    refine ⟨t, a2, ?_, ?_, ?_⟩
    ·rcases a3 with a3 | ⟨_, a3⟩
     ·exact .inl (by simp [a3])
     ·exact .inl (by rw [a3]; simp)
    ·intro y i d g
     rcases aR.1 i with rfl | i
     ·exact a5 rfl
     ·exact a4 y i d g
    ·intro j
     cases n : lt b (rj R lt last xs true x).2 with
     | false => rfl
     | true =>
      have E : lt x b = true := by rcases A with h | h; rw [j] at h; cases h; exact h
      have := H.trans x b _ I (k j).1 t E n
      simp only [a5 rfl] at this
      cases this
  ·rw [bE m]
   obtain ⟨h1, v⟩ := FD H last xs ok b k
   refine ⟨fun h => ⟨(h1 h).1, fun y i d => ?_⟩, fun h => ?_⟩
   ·rcases aR.1 i with rfl | i
    ·have j := (h1 h).1
     cases w : last.all (fun z => lt z y) with
     | false => rfl
     | true => exact absurd (by simp [d, w, j]) m
    ·exact (h1 h).2 y i d
   ·obtain ⟨t, a2, a3, a4, a5⟩ := v h
    refine ⟨t, a2, ?_, ?_, a5⟩
    ·rcases a3 with a3 | a3
     ·exact .inl (by simp [a3])
     ·exact .inr a3
    ·intro y i d g
     rcases aR.1 i with rfl | i
     ·cases n : lt y (rj R lt last xs ok b).2 with
      | false => rfl
      | true =>
       cases ok with
       | false => exact absurd (by simp [d, g]) m
       | true =>
        have G : lt y b = false := by
         cases J : lt y b with
         | false => rfl
         | true => exact absurd (by simp [d, g, J]) m
        have u := k rfl
        rcases H.total y b d u.1 with p | p | p
        ·rw [G] at p; cases p
        ·subst p; rw [a5 rfl] at n; cases n
        ·have := H.trans b y _ u.1 d t p n
         simp only [a5 rfl] at this
         cases this
     ·exact a4 y i d g
theorem uQ (H : AI (fun a b => lt a b = true) (fun x => R x = true)) {l : List α} (g : ∀ x ∈ l, R x = true) (h : l.Pairwise (fun a b => lt a b = true)) : l.Nodup := by
 refine h.imp_of_mem (fun {a b} ha i d e => ?_)
 subst e
 exact H.irrefl a (g a ha) d
theorem mo : ∀ {l m : List α}, l.Nodup → (∀ x ∈ l, x ∈ m) → l.length ≤ m.length
 | [], _, _, _ => by simp
 | x :: l, m, g, b => by
  obtain ⟨A, B, rfl⟩ := List.append_of_mem (b x (by simp))
  have a := dE.1 g
  have := mo (l := l) (m := A ++ B) a.2 (fun y d => by
   have := b y (eS _ d)
   simp only [aW, aR] at this ⊢
   rcases this with h | h | h
   ·exact .inl h
   ·subst h; exact absurd d a.1
   ·exact .inr h)
  simp at this ⊢; omega
theorem B7 (H : AI (fun a b => lt a b = true) (fun x => R x = true)) {w : Nat} (hw : w ≤ 1000) (d : α) (l : List α) (O : l.length ≤ 1000000000) : ∀ (n : Nat) (out : List α), l.length < n + out.length → out.Pairwise (fun a b => lt a b = true) → (∀ x ∈ out, x ∈ l ∧ R x = true) →
  (∀ x ∈ l, R x = true → x ∈ out ∨ out.getLast?.all (fun y => lt y x) = true) → ∃ s, Ay w R lt d l n out = some s ∧ wJ (fun a b => lt a b = true) (fun x => R x = true) l s
 | 0, out, P, hp, hm, G => by
  exfalso
  have := mo (uQ H (fun x g => (hm x g).2) hp) (fun x g => (hm x g).1)
  omega
 | n + 1, out, P, hp, hm, G => by
  rw [Ay]
  obtain ⟨h1, L⟩ := FD H out.getLast? l false d (fun h => by cases h)
  have hlen := mo (uQ H (fun x g => (hm x g).2) hp) (fun x g => (hm x g).1)
  cases J : (rj R lt out.getLast? l false d).1 with
  | false =>
   rw [bB (by simp)]
   refine ⟨out, rfl, hp, fun x => ⟨hm x, fun g => ?_⟩⟩
   rcases G x g.1 g.2 with h | h
   ·exact h
   ·rw [(h1 J).2 x g.1 g.2] at h; cases h
  | true =>
   rw [bE (by simp)]
   obtain ⟨v, a2, a3, a4, _⟩ := L J
   generalize (rj R lt out.getLast? l false d).2 = b at *
   have E : b ∈ l := by rcases a3 with h | ⟨h, _⟩; exact h; cases h
   have t : ∀ y ∈ out, lt y b = true := by
    intro y i
    obtain ⟨A, z, rfl⟩ : ∃ A z, out = A ++ [z] := by
     rcases du out with h | ⟨A, z, h⟩
     ·subst h; cases i
     ·exact ⟨A, z, by rw [h]; simp⟩
    simp at a2
    rcases aW.1 i with i | i
    ·have I : lt y z = true := (cU.1 hp).2.2 y i z (by simp)
     exact H.trans y z b (hm y (by simp [i])).2 (hm z (by simp)).2 v I a2
    ·simp at i; subst i; exact a2
   have u : (out ++ [b]).Pairwise (fun a b => lt a b = true) := cU.2 ⟨hp, by simp, fun x g y i => by simp at i; subst i; exact t x g⟩
   have m : ∀ x ∈ out ++ [b], x ∈ l ∧ R x = true := fun x g => by
    rcases aW.1 g with g | g
    ·exact hm x g
    ·simp at g; subst g; exact ⟨E, v⟩
   have k := mo (uQ H (fun x g => (m x g).2) u) (fun x g => (m x g).1)
   simp at k
   rw [mZ (by simp only [aQ, bV]; have : (out.length + (0 + 1)) * w ≤ 1000000000 * 1000 := Nat.mul_le_mul (by omega) hw; omega) (by simp; omega)]
   simp only [aA]
   refine B7 H hw d l O n (out ++ [b]) (by simp; omega) u m (fun x g j => ?_)
   rcases G x g j with h | h
   ·exact .inl (by simp [h])
   ·have M := a4 x g j h
    rcases H.total x b j v with p | p | p
    ·rw [M] at p; cases p
    ·subst p; exact .inl (by simp)
    ·exact .inr (by simp [p])
end
theorem Ha {α : Type} (A : List α) (x : α) (a : A.length < 4611686018427387904) : lG (A ++ [x]) (wi0 .i64 (((A ++ [x]).length : Int) - 1)) = some x := by
 rw [kO (by simp; try omega) (by simp; try omega)]
 rw [mR A x [] _ (by simp; try omega)]
theorem G5 (out : List jv) (k : out.length < 4611686018427387904) : ∀ (l : List jv) (ok : Bool) (b : jv), rD out l ok b = some (rj lH Bu out.getLast? l ok b)
 | [], ok, b => rfl
 | x :: xs, ok, b => by
  rw [rD, rj]
  have cmp : ∀ a b, ∃ c, sI a b = some c ∧ decide (c < 0) = Bu a b := fun a b => by
   obtain ⟨c, h1, j⟩ := E8 a b
   exact ⟨c, h1, by rw [bQ, ← j]; simp⟩
  rw [Bs, G5 out k xs true x, G5 out k xs ok b]
  obtain ⟨c, h1, j⟩ := cmp x b
  rcases du out with h | ⟨A, z, h⟩
  ·subst h
   simp only [h1, aA, j, bV, Option.all, List.getLast?_nil]
   generalize Bu x b = p
   cases lH x <;> cases ok <;> cases p <;> simp
  ·have i : out = A ++ [z] := by rw [h]; simp
   obtain ⟨w, u, v⟩ := cmp z x
   have d : out.getLast? = some z := by rw [i]; simp
   have g : lG out (wi0 .i64 ((out.length : Int) - 1)) = some z := by rw [i]; exact Ha A z (by rw [i] at k; simp at k; omega)
   have m : ((out.length : Int) == 0) = false := by rw [i]; simp; omega
   rw [d]
   simp only [m, g, u, h1, aA, j, v, Option.all]
   rcases dX (Bu x b) with hp | hp <;> rcases dX (Bu z x) with n | n <;> rcases dX (lH x) with t | t <;> cases ok <;> simp [hp, n, t]
theorem U0 (a b : ByteArray) : (!(pY a b || kV a b)) = pY b a := by
 rcases Ap a b with h | h | h
 ·simp [h, Ji h]
 ·subst h; simp [tm, ta]
 ·have d := Ji h
  have g : kV a b = false := Mc (by rintro rfl; rw [ta] at h; cases h)
  simp [h, d, g]
theorem N4 {s : ByteArray} (h : nx s = true) : kV s zS = false := Mc (fun e => by have := oe h; rw [e, RH] at this; omega)
theorem GX (out : List ByteArray) (m : out.length < 4611686018427387904) : ∀ (l : List ByteArray) (b : ByteArray),
  ∃ n, rI out l b = some n ∧ (rj nx pY out.getLast? l (!kV b zS) b) = (!kV n zS, n)
 | [], b => ⟨b, rfl, rfl⟩
 | x :: xs, b => by
  rw [rI, rj]
  obtain ⟨E, w, d⟩ := GX out m xs x
  obtain ⟨G, y, j⟩ := GX out m xs b
  rw [yx, w, y]
  by_cases i : nx x = true
  ·rw [N4 i] at d
   simp only [dp] at d
   rcases du out with h | ⟨A, z, h⟩
   ·subst h
    simp only [aA, bV, Option.all, List.getLast?_nil, i] at *
    rw [d, j]
    generalize pY x b = p
    generalize kV b zS = q
    cases p <;> cases q <;> simp
   ·have k : out = A ++ [z] := by rw [h]; simp
    have a : out.getLast? = some z := by rw [k]; simp
    have g : lG out (wi0 .i64 ((out.length : Int) - 1)) = some z := by rw [k]; exact Ha A z (by rw [k] at m; simp at m; omega)
    have t : ((out.length : Int) == 0) = false := by rw [k]; simp; omega
    rw [a] at d j ⊢
    simp only [t, g, aA, Option.all, U0, i]
    rw [d, j]
    rcases dX (pY x b) with hp | hp <;> rcases dX (pY z x) with u | u <;> rcases dX (kV b zS) with v | v <;> simp [hp, u, v]
  ·simp only [fg] at i
   rw [i, j]
   simp
theorem Qm (a : List jv) : ∀ (n : Nat) (out s : List jv), Ay 136 lH Bu (⟨0, ⟨zS, zS⟩, zS, ⟨zS, zS⟩, ⟨zS, zS⟩, zS⟩ : jv) a n out = some s → s.length < 4611686018427387904 → tz a n out = some s ∧ out.length ≤ s.length
 | 0, out, s, h, _ => by cases h
 | n + 1, out, s, h, i => by
  rw [Ay] at h
  rw [tz]
  have key : out.length ≤ s.length → rD out a false (⟨0, ⟨zS, zS⟩, zS, ⟨zS, zS⟩, ⟨zS, zS⟩, zS⟩ : jv) = _ := fun k => G5 out (by omega) a false _
  split at h
  ·rename_i h1
   cases h
   rw [key (aX _)]
   simp only [aA]
   rw [bB h1]
   exact ⟨rfl, aX _⟩
  ·rename_i h1
   obtain ⟨o, b, d⟩ := bind_some h
   have g := Qm a n o s d i
   have j : out.length + 1 = o.length := by
    unfold mE at b; split at b
    ·cases b; simp
    ·cases b
   rw [key (by omega)]
   simp only [aA]
   rw [bE h1, b]
   exact ⟨g.1, by omega⟩
theorem QH (a : List ByteArray) : ∀ (n : Nat) (out s : List ByteArray), Ay 16 nx pY zS a n out = some s → s.length < 4611686018427387904 → tC a n out = some s ∧ out.length ≤ s.length
 | 0, out, s, h, _ => by cases h
 | n + 1, out, s, h, l => by
  rw [Ay] at h
  rw [tC]
  have key : out.length ≤ s.length → ∃ d, rI out a zS = some d ∧ rj nx pY out.getLast? a false zS = (!kV d zS, d) := fun p => by
   have := GX out (by omega) a zS
   rw [tm] at this
   exact this
  split at h
  ·rename_i h1
   cases h
   obtain ⟨d, g, i⟩ := key (aX _)
   rw [g]
   rw [i] at h1
   simp only [aA]
   rw [bB (by simpa using h1)]
   exact ⟨rfl, aX _⟩
  ·rename_i h1
   obtain ⟨o, b, j⟩ := bind_some h
   have k := QH a n o s j l
   have m : out.length + 1 = o.length := by
    unfold mE at b; split at b
    ·cases b; simp
    ·cases b
   obtain ⟨d, g, i⟩ := key (by omega)
   rw [g]
   rw [i] at h1 b
   simp only [aA]
   rw [bE (by simpa using h1), b]
   exact ⟨k.1, by omega⟩
abbrev RS (l s : List ByteArray) := wJ (fun a b => pY a b = true) (fun x => nx x = true) l s
abbrev KE (l s : List jv) := wJ (fun a b => Bu a b = true) (fun x => lH x = true) l s
theorem Bt {α : Type} {lt : α → α → Bool} {R : α → Bool} (H : AI (fun a b => lt a b = true) (fun x => R x = true)) {l s : List α} (h : wJ (fun a b => lt a b = true) (fun x => R x = true) l s) : s.length ≤ l.length :=
 mo (uQ H (fun x d => ((h.2 x).1 d).2) h.1) (fun x d => ((h.2 x).1 d).1)
theorem Mu (l : List jv) (b : l.length ≤ 1000000000) : ∃ s, yc l = some s ∧ KE l s := by
 obtain ⟨s, h1, a⟩ := B7 Dz (w := 136) (by omega) (⟨0, ⟨zS, zS⟩, zS, ⟨zS, zS⟩, ⟨zS, zS⟩, zS⟩ : jv) l b ki [] (by rw [xv]; omega) (by simp) (by simp) (fun x _ _ => .inr rfl)
 exact ⟨s, (Qm l ki [] s h1 (by have := Bt Dz a; omega)).1, a⟩
theorem QY (l : List ByteArray) (b : l.length ≤ 1000000000) : ∃ s, zY l = some s ∧ RS l s := by
 obtain ⟨s, h1, a⟩ := B7 (QG (fun x => nx x = true)) (w := 16) (by omega) zS l b ki [] (by rw [xv]; omega) (by simp) (by simp) (fun x _ _ => .inr rfl)
 exact ⟨s, (QH l ki [] s h1 (by have := Bt (QG _) a; omega)).1, a⟩
def zC : jv := ⟨0, ⟨zS, zS⟩, zS, ⟨zS, zS⟩, ⟨zS, zS⟩, zS⟩
theorem Mo (f : jv → Option Bool) : ∀ (n : Nat) (l : List jv) (i j : Int), nA f n l i j = DU f zC n l i j
 | 0, _, _, _ => rfl
 | n + 1, l, i, j => by
  rw [nA, DU]
  simp only [Mo f n]
  rfl
theorem IX (f : jv → Option Bool) : ∀ (l : List jv) (i : Nat), ox f l i = yW f l i
 | [], _ => rfl
 | x :: l, i => by rw [ox, yW]; simp only [IX f l]
theorem Pv (f : jv → Option Bool) (l : List jv) : qQ l f = IK f zC l := by
 unfold qQ IK pq
 simp only [IX, Mo]
theorem Ky (i : Int) : ∀ (n : Nat) (l : List jv) (k j : Int), nY i n l k j = BP lI i n l k j
 | 0, _, _, _ => rfl
 | n + 1, l, k, j => by
  rw [nY, BP]
  simp only [Ky i n]
theorem J7 (l : List jv) : ∀ (n : Nat) (i : Int), ob l n i = Cs lI zC l n i
 | 0, _ => rfl
 | n + 1, i => by
  rw [ob, Cs]
  simp only [J7 l n, Ky]
  rfl
theorem P9 (l : List jv) : sE l = Kn lI zC l := by
 unfold sE Kn
 simp only [J7]
theorem SP {l : List jv} (a : l.length ≤ 1000000000) : rq l = some l := by
 unfold rq
 rw [mZ (by simp; omega) (by simp; omega)]
 simp
theorem RY (l : List jv) (g : l.length ≤ 1000000000) : ∃ s, zd l = some s ∧ KE l s := by
 unfold zd
 rw [SP g]
 simp only [aA]
 rw [Pv, Kh _ (fun x => !lH x) zC l (by omega) (fun x _ => by simp [yi, wG])]
 simp only [aA, gw]
 have j : (l.filter fun x => lH x).length ≤ l.length := eO _ _
 obtain ⟨s, h1, i, d⟩ := GC (eq := lI) (lt := fun a b => Bu a b = true) (P := fun x => lH x = true) (cf := fun x => qv x.1 x.2) (l := l.filter fun x => lH x) (fun x y => oE) Dz (fun x h => (cT.1 h).2) (by omega) (fun x y _ _ => F8 x y)
 rw [h1]
 simp only [aA]
 rw [P9, Lc _ _ _ (by omega)]
 refine ⟨_, rfl, d.1, fun x => ?_⟩
 rw [d.2]
 simp
def tt {κ : Type} (ks : List κ) : List (κ × Bool) := ks.map fun k => (k, true)
def qF {κ : Type} (beq : κ → κ → Bool) (ks : List κ) (k : κ) : Bool := ks.any fun x => beq k x
def ins {κ : Type} (beq : κ → κ → Bool) (ks : List κ) (k : κ) : List κ := if qF beq ks k then ks else ks ++ [k]
section
variable {κ : Type} {beq : κ → κ → Bool}
theorem xa (a : ∀ {x y}, beq x y = true ↔ x = y) (ks : List κ) (k : κ) : qF beq ks k = true ↔ k ∈ ks := by
 simp [qF, ef, a]
theorem Oi (ks : List κ) : (tt ks).length = ks.length := by simp [tt]
theorem O4 (ks : List κ) (k : κ) : Ah beq (tt ks) k false = qF beq ks k := by
 unfold Ah lm qF tt
 induction ks with
 | nil => rfl
 | cons x xs ih =>
  simp only [bL, fp, fW]
  cases h : beq k x with
  | true => simp
  | false => simpa using ih
theorem Rg (l : ∀ {x y}, beq x y = true ↔ x = y) (ks : List κ) (k : κ) : nZ beq (tt ks) k true = tt (ins beq ks k) := by
 unfold nZ ins
 have m : (tt ks).findIdx? (fun p => beq k p.1) = ks.findIdx? (fun x => beq k x) := by
  unfold tt; rw [gk]; rfl
 rw [m]
 cases h : ks.findIdx? (fun x => beq k x) with
 | none =>
  rw [fN] at h
  rw [bE]
  ·simp [tt]
  ·intro b
   unfold qF at b
   rw [ef] at b
   obtain ⟨x, n, a⟩ := b
   rw [h x n] at a
   cases a
 | some i =>
  rw [ei] at h
  obtain ⟨g, h1, _⟩ := h
  have e := l.1 h1
  rw [bB]
  ·simp only [tt]
   apply eA
   intro j
   rw [eQ]
   split
   ·rename_i d
    subst d
    simp [g, e]
   ·rfl
  ·unfold qF
   exact ef.2 ⟨ks[i], List.getElem_mem g, h1⟩
end
section
variable {all : List jv} {wants : List ju} {T : List ju} {W : List ByteArray} {R : List jv}
def om (c : jv) : List ju := if c.Kind = 1 then [] else if c.Kind = 4 then [c.B, c.C] else [c.B]
end
theorem Iy (x : jv) : ∀ l : List jv, xY l x = some (qF lI l x)
 | [] => rfl
 | y :: l => by
  have ih := Iy x l
  unfold xY at ih ⊢
  rw [xk, ih]
  have : lI y x = lI x y := by rw [bQ, oE, oE]; exact eq_comm
  rw [this]
  simp only [qF, fW]
  cases lI x y <;> simp
theorem RR {c : jv} (h : lH c = true) : za c = some (c.Head :: om c) := by
 unfold za
 rw [wG, h]
 simp only [aA, cJ, aC, aK]
 have a : c.Kind = 1 ∨ c.Kind = 2 ∨ c.Kind = 3 ∨ c.Kind = 4 := by rcases ov h with h | h | h | h <;> simp [h.1]
 rcases a with k | k | k | k
 ·simp [k, om]
 ·rw [bB (by simp [k]), mZ (by simp) (by simp)]
  simp [k, om]
 ·rw [bB (by simp [k]), mZ (by simp) (by simp)]
  simp [k, om]
 ·rw [bB (by simp [k]), mZ (by simp) (by simp)]
  simp only [aA]
  rw [bB (by simp [k]), mZ (by simp) (by simp)]
  simp [k, om]
theorem wJ.congr {α : Type} {lt : α → α → Prop} {P : α → Prop} {l m s : List α} (h : wJ lt P l s) (hm : ∀ x, x ∈ l ↔ x ∈ m) : wJ lt P m s := ⟨h.1, fun x => by rw [h.2, hm]⟩
theorem Ro {κ : Type} (ks : List κ) : (tt ks).map (·.1) = ks := by simp [tt, fA]
def yn (c : jv) : Nat := c.Head.jw.size + c.Head.Word.size + c.kE.size + c.B.jw.size + c.B.Word.size + c.C.jw.size + c.C.Word.size + c.kL.size
section
variable {κ γ : Type} {beq : κ → κ → Bool}
theorem qM (a : ∀ {x y}, beq x y = true ↔ x = y) {A B : List (κ × γ)} {k : κ} {x : γ} (b : ∀ p ∈ A, p.1 ≠ k) : lm beq (A ++ (k, x) :: B) k = some x := by
 unfold lm
 rw [iM]
 have : A.find? (fun p => beq k p.1) = none := gd.2 (fun p hp h => b p hp (a.1 h).symm)
 rw [this]
 simp [a.2 (rfl : k = k)]
theorem wo (a : ∀ {x y}, beq x y = true ↔ x = y) {l : List (κ × γ)} {k : κ} (h : ∀ p ∈ l, p.1 ≠ k) : lm beq l k = none := by
 unfold lm
 rw [gd.2 (fun p hp b => h p hp (a.1 b).symm)]
 rfl
theorem xr (a : ∀ {x y}, beq x y = true ↔ x = y) {A B : List (κ × γ)} {k : κ} {x y : γ} (b : ∀ p ∈ A, p.1 ≠ k) : nZ beq (A ++ (k, x) :: B) k y = A ++ (k, y) :: B := by
 have h1 : (A ++ (k, x) :: B).findIdx? (fun p => beq k p.1) = some A.length := by
  rw [gJ, fN.2 (fun p hp => by
   cases h : beq k p.1 with
   | false => rfl
   | true => exact absurd (a.1 h).symm (b p hp))]
  simp [eL, a.2 (rfl : k = k)]
 rw [qU h1]
 simp
theorem Dw (a : ∀ {x y}, beq x y = true ↔ x = y) {l : List (κ × γ)} {k : κ} {y : γ} (h : ∀ p ∈ l, p.1 ≠ k) : nZ beq l k y = l ++ [(k, y)] := by
 refine vw (fN.2 (fun p hp => ?_)) y
 cases b : beq k p.1 with
 | false => rfl
 | true => exact absurd (a.1 b).symm (h p hp)
theorem uA (k : κ) : ∀ (l : List (κ × γ)), (∀ p ∈ l, p.1 ≠ k) ∨ ∃ A x B, l = A ++ (k, x) :: B ∧ ∀ p ∈ A, p.1 ≠ k
 | [] => .inl (fun _ h => by cases h)
 | p :: l => by
  by_cases hp : p.1 = k
  ·exact .inr ⟨[], p.2, l, by rw [← hp]; rfl, fun _ h => by cases h⟩
  ·rcases uA k l with h | ⟨A, x, B, rfl, h⟩
   ·exact .inl (fun q a => by rcases aR.1 a with rfl | a; exact hp; exact h q a)
   ·exact .inr ⟨p :: A, x, B, rfl, fun q a => by rcases aR.1 a with rfl | a; exact hp; exact h q a⟩
theorem G4 (a : ∀ {x y}, beq x y = true ↔ x = y) (A B : List (κ × γ)) (k : κ) : lm beq (A ++ B) k = (lm beq A k).or (lm beq B k) := by
 unfold lm
 rw [iM]
 cases A.find? (fun p => beq k p.1) <;> rfl
theorem BY (p : κ × γ) (l : List (κ × γ)) (k : κ) : lm beq (p :: l) k = if beq k p.1 = true then some p.2 else lm beq l k := by
 unfold lm
 rw [fp]
 cases beq k p.1 <;> simp
theorem Fe (a : ∀ {x y}, beq x y = true ↔ x = y) (l : List (κ × γ)) (k b : κ) (y : γ) : lm beq (nZ beq l k y) b = if beq b k = true then some y else lm beq l b := by
 rcases uA k l with h | ⟨A, x, B, rfl, h⟩
 ·rw [Dw a h, G4 a, BY]
  by_cases hk : beq b k = true
  ·have := a.1 hk
   subst this
   rw [bB hk, bB hk, wo a h]; rfl
  ·rw [bE hk, bE hk]
   show (lm beq l b).or none = _
   cases lm beq l b <;> rfl
 ·rw [xr a h, G4 a, BY, G4 a, BY]
  by_cases hk : beq b k = true
  ·have := a.1 hk
   subst this
   rw [bB hk, bB hk, wo a h]; rfl
  ·rw [bE hk, bE hk, bE hk]
end
abbrev oN := List (ju × List ByteArray)
def mm (T : oN) : List (ju × List (ByteArray × Bool)) := T.map fun p => (p.1, tt p.2)
def rC (T : oN) (r : ju) : List ByteArray := (lm jY T r).getD []
def FS (T : oN) : List jN := T.flatMap fun p => p.2.map fun w => (⟨p.1, w⟩ : jN)
def Fi (T : oN) (r : ju) (w : ByteArray) : oN := nZ jY T r (rC T r ++ [w])
theorem EG (A B : oN) : mm (A ++ B) = mm A ++ mm B := by simp [mm]
theorem zH {A : oN} {r : ju} (h : ∀ p ∈ A, p.1 ≠ r) : ∀ p ∈ mm A, p.1 ≠ r := by
 intro p hp
 simp only [mm, bJ] at hp
 obtain ⟨q, a, rfl⟩ := hp
 exact h q a
theorem Q2 (T : oN) (r : ju) : lm jY (mm T) r = (lm jY T r).map tt := by
 rcases uA r T with h | ⟨A, x, B, rfl, h⟩
 ·rw [wo kc h, wo kc (zH h)]; rfl
 ·rw [qM kc h, EG]
  exact qM kc (zH h)
theorem MJ (T : oN) (r : ju) : (lm jY (mm T) r).getD [] = tt (rC T r) := by
 rw [Q2, rC]; cases lm jY T r <;> rfl
theorem HW (T : oN) (r : ju) (w : ByteArray) : (FS (Fi T r w)).Perm (FS T ++ [(⟨r, w⟩ : jN)]) := by
 unfold Fi rC
 rcases uA r T with h | ⟨A, x, B, rfl, h⟩
 ·rw [Dw kc h, wo kc h]
  simp [FS]
 ·rw [xr kc h, qM kc h]
  simp only [FS, gT, gx, gG, cE, bL, eT, aM]
  refine cC _ (cC _ ?_)
  exact et
theorem Py {T : oN} (hk : (T.map (·.1)).Nodup) (r : ju) (w : ByteArray) : ((Fi T r w).map (·.1)).Nodup := by
 unfold Fi
 rcases uA r T with h | ⟨A, x, B, rfl, h⟩
 ·rw [Dw kc h]
  simp only [cE, bL, eT]
  refine bX.2 ⟨hk, by simp, fun a ha b d e => ?_⟩
  simp at d; subst d; subst e
  obtain ⟨p, hp, e⟩ := bJ.1 ha
  exact h p hp e
 ·rw [xr kc h]
  simpa using hk
theorem BL {T : oN} (hk : (T.map (·.1)).Nodup) (f : jN) : f ∈ FS T ↔ f.kE ∈ rC T f.ju := by
 simp only [FS, iY, bJ]
 constructor
 ·rintro ⟨p, hp, w, hw, rfl⟩
  obtain ⟨A, B, rfl⟩ := List.append_of_mem hp
  have a : ∀ q ∈ A, q.1 ≠ p.1 := fun q d e => by
   rw [cE, bL] at hk
   exact (bX.1 hk).2.2 q.1 (bJ.2 ⟨q, d, rfl⟩) p.1 (by simp) e
  rw [rC, show p = (p.1, p.2) from rfl, qM kc a]
  exact hw
 ·intro h
  unfold rC at h
  rcases uA f.ju T with b | ⟨A, x, B, rfl, a⟩
  ·rw [wo kc b] at h; cases h
  ·rw [qM kc a] at h
   exact ⟨(f.ju, x), by simp, f.kE, h, rfl⟩
theorem Lv {T : oN} (h : (FS T).Nodup) (r : ju) : (rC T r).Nodup := by
 unfold rC
 rcases uA r T with b | ⟨A, x, B, rfl, a⟩
 ·rw [wo kc b]; simp
 ·rw [qM kc a]
  simp only [FS, gT, gx] at h
  have h1 := (bX.1 (bX.1 h).2.1).1
  simp only [List.Nodup, fB] at h1
  exact h1.imp (fun h e => h (by rw [e]))
inductive oH (C : List jv) : jN → Prop
 | mem (c) : c ∈ C → c.Kind = 1 → oH C ⟨c.Head, c.kE⟩
 | inc (c w) : c ∈ C → c.Kind = 2 → oH C ⟨c.B, w⟩ → oH C ⟨c.Head, w⟩
 | Hw (c b w) : c ∈ C → c.Kind = 3 → oH C ⟨c.B, b⟩ → oH C ⟨⟨b, c.kL⟩, w⟩ → oH C ⟨c.Head, w⟩
 | both (c w) : c ∈ C → c.Kind = 4 → oH C ⟨c.B, w⟩ → oH C ⟨c.C, w⟩ → oH C ⟨c.Head, w⟩
theorem oH.mono {C C' : List jv} (h : ∀ c ∈ C, c ∈ C') {f : jN} (i : oH C f) : oH C' f := by
 induction i with
 | mem c a hk => exact .mem c (h c a) hk
 | inc c w a hk _ ih => exact .inc c w (h c a) hk ih
 | Hw c b w a hk _ _ d g => exact .Hw c b w (h c a) hk d g
 | both c w a hk _ _ d g => exact .both c w (h c a) hk d g
def GA (C : List jv) : List jN := (C.map (·.Head)).flatMap fun r => (C.map (·.kE)).map fun w => (⟨r, w⟩ : jN)
theorem DX (C : List jv) : (GA C).length = C.length * C.length := by
 unfold GA
 have : ∀ l : List ju, (l.flatMap fun r => (C.map (·.kE)).map fun w => (⟨r, w⟩ : jN)).length = l.length * C.length := fun l => by
  induction l with
  | nil => simp
  | cons x l ih => simp only [gx, aF, ih, dm, aQ, cR]; omega
 rw [this, dm]
theorem RI {C : List jv} {r : ju} {w : ByteArray} : (⟨r, w⟩ : jN) ∈ GA C ↔ (∃ c ∈ C, c.Head = r) ∧ ∃ c ∈ C, c.kE = w := by
 unfold GA
 simp only [iY, bJ, jN.mk.injEq]
 constructor
 ·rintro ⟨g, ⟨c, d, rfl⟩, h, ⟨b, a, rfl⟩, rfl, rfl⟩; exact ⟨⟨c, d, rfl⟩, b, a, rfl⟩
 ·rintro ⟨⟨c, d, rfl⟩, b, a, rfl⟩; exact ⟨_, ⟨c, d, rfl⟩, _, ⟨b, a, rfl⟩, rfl, rfl⟩
theorem oH.LN {C : List jv} {f : jN} (h : oH C f) : ∃ c ∈ C, c.Kind = 1 ∧ c.kE = f.kE := by
 induction h with
 | mem c g hk => exact ⟨c, g, hk, rfl⟩
 | inc c w g hk _ ih => exact ih
 | Hw c b w g hk _ _ a d => exact d
 | both c w g hk _ _ a d => exact a
theorem oH.head {C : List jv} {f : jN} (h : oH C f) : ∃ c ∈ C, c.Head = f.ju := by
 cases h with
 | mem c a hk => exact ⟨c, a, rfl⟩
 | inc c w a hk _ => exact ⟨c, a, rfl⟩
 | Hw c b w a hk _ _ => exact ⟨c, a, rfl⟩
 | both c w a hk _ _ => exact ⟨c, a, rfl⟩
theorem oH.GA {C : List jv} {f : jN} (h : oH C f) : f ∈ GA C := by
 obtain ⟨c, a, _, hw⟩ := h.LN
 exact RI.2 ⟨h.head, c, a, hw⟩
structure ql (C : List jv) (T : oN) (td : List jN) (n : Int) : Prop where
 keys : (T.map (·.1)).Nodup
 nd : (FS T).Nodup
 LS : td.Nodup
 sub : ∀ f ∈ td, f ∈ FS T
 num : n = (FS T).length
 xC : ∀ f ∈ FS T, oH C f
theorem ql.len {C : List jv} {T : oN} {b : List jN} {n : Int} (h : ql C T b n) : (FS T).length ≤ C.length * C.length := by
 rw [← DX]; exact mo h.nd (fun f a => (h.xC f a).GA)
theorem ql.Tm {C : List jv} {T : oN} {a : List jN} {n : Int} (h : ql C T a n) : a.length ≤ (FS T).length := mo h.LS h.sub
theorem ql.mono {C C' : List jv} {T : oN} {a : List jN} {n : Int} (h : ql C T a n) (b : ∀ c ∈ C, c ∈ C') : ql C' T a n := ⟨h.keys, h.nd, h.LS, h.sub, h.num, fun f d => (h.xC f d).mono b⟩
structure Au (T : oN) (td : List jN) (T' : oN) (td' : List jN) : Prop where
 lZ : ∀ f ∈ FS T, f ∈ FS T'
 todo : ∀ f ∈ td, f ∈ td'
 new : ∀ f ∈ FS T', f ∈ FS T ∨ f ∈ td'
 fresh : ∀ f ∈ td', f ∈ td ∨ f ∉ FS T
theorem Au.refl (T : oN) (a : List jN) : Au T a T a := ⟨fun _ h => h, fun _ h => h, fun _ h => .inl h, fun _ h => .inl h⟩
theorem Au.trans {T T' T'' : oN} {i g a : List jN} (h : Au T i T' g) (k : Au T' g T'' a) : Au T i T'' a :=
 ⟨fun f b => k.lZ f (h.lZ f b), fun f b => k.todo f (h.todo f b), fun f b => by
  rcases k.new f b with h1 | h1
  ·rcases h.new f h1 with d | d
   ·exact .inl d
   ·exact .inr (k.todo f d)
  ·exact .inr h1, fun f b => by
  rcases k.fresh f b with h1 | h1
  ·exact h.fresh f h1
  ·exact .inr (fun d => h1 (h.lZ f d))⟩
theorem Il {α : Type} (p : α → Bool) : ∀ l : List α, (l.filter p).length + (l.filter fun x => !p x).length = l.length
 | [] => rfl
 | x :: l => by
  have := Il p l
  cases h : p x <;> simp [h] <;> omega
theorem ql.Gx {C C' : List jv} {T T' : oN} {i d : List jN} {n p : Int} (j : ql C' T' d p) (g : ql C T i n) (x : Au T i T' d) : d.length + (FS T).length ≤ i.length + (FS T').length := by
 classical
 have h1 : (d.filter fun f => decide (f ∈ FS T)).length ≤ i.length := mo (j.LS.filter _) (fun f k => by
  have := cT.1 k
  rcases x.fresh f this.1 with h | h
  ·exact h
  ·exact absurd (by simpa using this.2) h)
 have l : (FS T ++ d.filter fun f => !decide (f ∈ FS T)).length ≤ (FS T').length := mo (bX.2 ⟨g.nd, j.LS.filter _, fun a ha b m e => by
  subst e
  have := (cT.1 m).2
  simp [ha] at this⟩) (fun f k => by
  rcases aW.1 k with h | h
  ·exact x.lZ f h
  ·exact j.sub f (cT.1 h).1)
 have t : (d.filter fun f => decide (f ∈ FS T)).length + (d.filter fun f => !decide (f ∈ FS T)).length = d.length := by
  exact Il (fun f => decide (f ∈ FS T)) d
 rw [aF] at l
 omega
def Cz (C : List jv) (T : oN) (g : List jN) (b : Option (List (ju × List (ByteArray × Bool)) × List jN × Int)) (Q : oN → Prop) : Prop :=
 ∃ T' a d, b = some (mm T', a, d) ∧ ql C T' a d ∧ Au T g T' a ∧ Q T'
theorem Cz.mono {C : List jv} {T : oN} {g : List jN} {a : Option (List (ju × List (ByteArray × Bool)) × List jN × Int)} {Q Q' : oN → Prop} (h : Cz C T g a Q) (k : ∀ T', (∀ f ∈ FS T, f ∈ FS T') → Q T' → Q' T') : Cz C T g a Q' := by
 obtain ⟨T', b, l, h1, i, d, j⟩ := h
 exact ⟨T', b, l, h1, i, d, k T' d.lZ j⟩
def qN (C : List jv) : Prop := C.length ≤ 1000000
theorem qN.sq {C : List jv} (h : qN C) : C.length * C.length ≤ 1000000000000 := Nat.mul_le_mul h h
theorem sZ {T : oN} (hk : (T.map (·.1)).Nodup) (r : ju) (w : ByteArray) : Ah kV ((lm jY (mm T) r).getD []) w false = true ↔ (⟨r, w⟩ : jN) ∈ FS T := by
 rw [MJ, O4, xa mf, BL hk]
theorem De {C : List jv} (E : qN C) {T : oN} {k : List jN} {n : Int} (h : ql C T k n) (cs : List jv) (O : List (ju × List jv)) (ws : List (ByteArray × List jv)) {r : ju} {w : ByteArray} (G : oH C ⟨r, w⟩) :
  Cz C T k (nH (mm T) cs O ws k n r w) (fun T' => (⟨r, w⟩ : jN) ∈ FS T') := by
 unfold nH
 have J := E.sq
 have P := h.len
 have L := h.Tm
 by_cases g : (⟨r, w⟩ : jN) ∈ FS T
 ·rw [bB ((sZ h.keys r w).2 g)]
  exact ⟨T, k, n, rfl, h, Au.refl _ _, g⟩
 ·rw [bE (fun v => g ((sZ h.keys r w).1 v))]
  have I : ql C (Fi T r w) (k ++ [⟨r, w⟩]) (n + 1) := by
   have hp := HW T r w
   refine ⟨Py h.keys r w, (hp.nodup_iff).2 (bX.2 ⟨h.nd, by simp, fun a ha b p e => ?_⟩), bX.2 ⟨h.LS, by simp, fun a ha b p e => ?_⟩, fun f d => hp.mem_iff.2 ?_, ?_, fun f d => ?_⟩
   ·simp at p; subst p; subst e; exact g ha
   ·simp at p; subst p; subst e; exact g (h.sub _ ha)
   ·rcases aW.1 d with d | d
    ·exact cI _ (h.sub f d)
    ·exact dU _ d
   ·rw [hp.length_eq, h.num]; simp
   ·rcases aW.1 (hp.mem_iff.1 d) with d | d
    ·exact h.xC f d
    ·simp at d; subst d; exact G
  have y : ((if (lm jY (mm T) r).isNone = true then ((Hg jY (mm T) r []).bind fun l => some l) else some (mm T)) : Option _).bind (fun l => (GU jY kV l r w true)) = some (mm (Fi T r w)) := by
   unfold Fi rC
   rcases uA r T with j | ⟨A, x, B, rfl, u⟩
   ·have t := wo kc (zH j)
    rw [t, wo kc j, Dw kc j, EG]
    simp only [Option.isNone_none, aU, Hg, t, aA]
    rw [Dw kc (zH j)]
    unfold GU
    rw [qM kc (zH j)]
    simp only [ep]
    rw [xr kc (zH j)]
    rfl
   ·have m := zH u
    have z : lm jY (mm (A ++ (r, x) :: B)) r = some (tt x) := by rw [EG]; exact qM kc m
    rw [z, qM kc u, xr kc u]
    simp only [Option.isNone_some, aC, aK, aA, GU, z, ep, gG]
    have M : w ∉ x := fun hw => g (by
     rw [BL h.keys, rC, qM kc u]; exact hw)
    rw [Rg mf]
    rw [show ins kV x w = x ++ [w] from by unfold ins; rw [bE (fun v => M ((xa mf x w).1 v))]]
    rw [EG, show mm ((r, x) :: B) = (r, tt x) :: mm B from rfl, xr kc m, EG]
    rfl
  refine ⟨Fi T r w, k ++ [⟨r, w⟩], n + 1, ?_, I, ⟨fun f d => (HW T r w).mem_iff.2 (cI _ d), fun f d => cI _ d, fun f d => ?_, fun f d => ?_⟩, (HW T r w).mem_iff.2 (by simp)⟩
  ·have i := y
   generalize ((if (lm jY (mm T) r).isNone = true then ((Hg jY (mm T) r []).bind fun l => some l) else some (mm T)) : Option _) = o at i
   cases o with
   | none => cases i
   | some l =>
    simp only [aA] at i ⊢
    rw [i]
    simp only [aA]
    rw [mZ (by simp; omega) (by simp; omega)]
    simp only [aA]
    rw [kO (by rw [h.num]; omega) (by rw [h.num]; omega)]
  ·rcases aW.1 ((HW T r w).mem_iff.1 d) with h1 | h1
   ·exact .inl h1
   ·exact .inr (dU _ h1)
  ·rcases aW.1 d with h1 | h1
   ·exact .inl h1
   ·simp at h1; subst h1; exact .inr g
theorem z6 (l : List ByteArray) (x : ByteArray) : x ∈ vo l ↔ x ∈ l := by unfold vo; simp
def sc (C : List jv) : Prop := ∀ c ∈ C, lH c = true
theorem Oy {c : jv} (h : lH c = true) (hk : c.Kind = 1) : c.kE.size ≤ 16 := by
 rcases ov h with h | h | h | h
 ·exact (oe h.2.1).2
 ·exact absurd (hk.symm.trans h.1) (by decide)
 ·exact absurd (hk.symm.trans h.1) (by decide)
 ·exact absurd (hk.symm.trans h.1) (by decide)
theorem O9 {T : oN} (r : ju) (hk : (T.map (·.1)).Nodup) : (rC T r).length ≤ (FS T).length := by
 unfold rC
 rcases uA r T with b | ⟨A, x, B, rfl, a⟩
 ·rw [wo kc b]; simp
 ·rw [qM kc a]
  simp only [FS, gT, gx, aF, dm, gG]
  omega
theorem H2 {C : List jv} (a : qN C) (b : sc C) {T : oN} {i : List jN} {n : Int} (h : ql C T i n) (cs : List jv) (j : List (ju × List jv)) (ws : List (ByteArray × List jv)) (q : List jN) (z : Int) (r : ju) :
  qu (mm T) cs j ws q z r = some (vo (rC T r)) := by
 unfold qu oz
 rw [MJ]
 simp only [aA, oC]
 have m := O9 r h.keys
 have k := h.len
 have l := a.sq
 unfold Hr
 rw [Ro, bB]
 refine ⟨Lv h.nd r, fun p hp => ?_, by rw [Oi]; omega⟩
 simp only [tt, bJ] at hp
 obtain ⟨w, hw, rfl⟩ := hp
 have g := h.xC ⟨r, w⟩ ((BL h.keys ⟨r, w⟩).2 hw)
 obtain ⟨c, d, hk, e⟩ := g.LN
 have := Oy (b c d) hk
 simp only at e ⊢
 rw [← e]
 unfold maxLen
 omega
theorem NX {C : List jv} (i : qN C) (cs : List jv) (g : List (ju × List jv)) (ws : List (ByteArray × List jv)) (head : ju) : ∀ (l : List ByteArray) {T : oN} {a : List jN} {n : Int}, ql C T a n → (∀ w ∈ l, oH C ⟨head, w⟩) →
  Cz C T a (pP cs g ws head l (mm T) a n) (fun T' => ∀ w ∈ l, (⟨head, w⟩ : jN) ∈ FS T')
 | [], T, a, n, h, _ => ⟨T, a, n, rfl, h, Au.refl _ _, fun _ hw => by cases hw⟩
 | w :: l, T, a, n, h, j => by
  rw [pP]
  obtain ⟨T1, x, y, k, g1, x1, t⟩ := De i h cs g ws (j w (by simp))
  rw [k]
  simp only [aA]
  obtain ⟨T2, d, p, m, g2, x2, u⟩ := NX i cs g ws head l g1 (fun w hw => j w (by simp [hw]))
  refine ⟨T2, d, p, m, g2, x1.trans x2, fun v b => ?_⟩
  rcases aR.1 b with rfl | b
  ·exact x2.lZ _ t
  ·exact u v b
theorem R7 {C : List jv} (b : qN C) (g : sc C) {T : oN} {a : List jN} {n : Int} (h : ql C T a n) (cs : List jv) (d : List (ju × List jv)) (ws : List (ByteArray × List jv)) (r head : ju) (i : ∀ w, (⟨r, w⟩ : jN) ∈ FS T → oH C ⟨head, w⟩) :
  Cz C T a (tY (mm T) cs d ws a n r head) (fun T' => ∀ w, (⟨r, w⟩ : jN) ∈ FS T → (⟨head, w⟩ : jN) ∈ FS T') := by
 unfold tY
 rw [H2 b g h]
 simp only [aA]
 refine (NX b cs d ws head _ h (fun w hw => i w ((BL h.keys ⟨r, w⟩).2 ((z6 _ _).1 hw)))).mono (fun T' _ j w hw => j w ((z6 _ _).2 ((BL h.keys ⟨r, w⟩).1 hw)))
def FH (c : jv) (f : jN) (T T' : oN) : Prop :=
 (c.Kind = 2 → f.ju = c.B → (⟨c.Head, f.kE⟩ : jN) ∈ FS T') ∧
 (c.Kind = 3 → f.ju = c.B → ∀ w, (⟨⟨f.kE, c.kL⟩, w⟩ : jN) ∈ FS T → (⟨c.Head, w⟩ : jN) ∈ FS T') ∧
 (c.Kind = 4 → (⟨c.B, f.kE⟩ : jN) ∈ FS T → (⟨c.C, f.kE⟩ : jN) ∈ FS T → (⟨c.Head, f.kE⟩ : jN) ∈ FS T')
theorem FH.mono {c : jv} {f : jN} {T T' T0 T1 : oN} (h : FH c f T T') (g : ∀ f ∈ FS T0, f ∈ FS T) (h1 : ∀ f ∈ FS T', f ∈ FS T1) : FH c f T0 T1 :=
 ⟨fun a b => h1 _ (h.1 a b), fun a b w hw => h1 _ (h.2.1 a b w (g _ hw)), fun a b d => h1 _ (h.2.2 a (g _ b) (g _ d))⟩
theorem QI (x : Option (List (ju × List (ByteArray × Bool)) × List jN × Int)) : (x.bind fun r => some (r.1, r.2.1, r.2.2)) = x := by cases x <;> rfl
theorem N0 {C : List jv} (p : qN C) (A : sc C) {T : oN} {i : List jN} {n : Int} (h : ql C T i n) (cs : List jv) (l : List (ju × List jv)) (ws : List (ByteArray × List jv)) {c : jv} (t : c ∈ C) {f : jN} (v : f ∈ FS T) (z : f.ju ∈ om c) :
  Cz C T i (rn (mm T) cs l ws i n c f) (FH c f T) := by
 unfold rn
 simp only [QI, D9]
 by_cases a : c.Kind = 2
 ·have m : f.ju = c.B := by simpa [om, a] using z
  rw [bB (by simp [a])]
  have u : oH C ⟨c.Head, f.kE⟩ := .inc c f.kE t a (by rw [← m]; exact h.xC f v)
  refine (De p h cs l ws u).mono (fun T' _ g => ⟨fun _ _ => g, fun k => absurd (a.symm.trans k) (by decide), fun k => absurd (a.symm.trans k) (by decide)⟩)
 rw [bE (by simp [a])]
 by_cases b : c.Kind = 3
 ·have m : f.ju = c.B := by simpa [om, b] using z
  rw [bB (by simp [b])]
  refine (R7 p A h cs l ws ⟨f.kE, c.kL⟩ c.Head (fun w hw => .Hw c f.kE w t b (by rw [← m]; exact h.xC f v) (h.xC _ hw))).mono (fun T' _ g => ⟨fun k => absurd k a, fun _ _ w hw => g w hw, fun k => absurd (b.symm.trans k) (by decide)⟩)
 rw [bE (by simp [b])]
 by_cases j : c.Kind = 4
 ·rw [bB (by simp [j])]
  simp only [aA]
  by_cases d : (⟨c.B, f.kE⟩ : jN) ∈ FS T ∧ (⟨c.C, f.kE⟩ : jN) ∈ FS T
  ·rw [bB (by rw [bo, sZ h.keys, sZ h.keys]; exact d)]
   have u : oH C ⟨c.Head, f.kE⟩ := .both c f.kE t j (h.xC _ d.1) (h.xC _ d.2)
   exact (De p h cs l ws u).mono (fun T' _ g => ⟨fun k => absurd k a, fun k => absurd k b, fun _ _ _ => g⟩)
  ·rw [bE (by rw [bo, sZ h.keys, sZ h.keys]; exact d)]
   exact ⟨T, i, n, rfl, h, Au.refl _ _, fun k => absurd k a, fun k => absurd k b, fun _ x y => absurd ⟨x, y⟩ d⟩
 ·rw [bE (by simp [j])]
  exact ⟨T, i, n, rfl, h, Au.refl _ _, fun k => absurd k a, fun k => absurd k b, fun k => absurd k j⟩
theorem J9 {C : List jv} (i : qN C) (j : sc C) (cs : List jv) (g : List (ju × List jv)) (ws : List (ByteArray × List jv)) {c : jv} (k : c ∈ C) (m : c.B ∈ om c) : ∀ (l : List ByteArray) {T : oN} {a : List jN} {n : Int}, ql C T a n → (∀ w ∈ l, (⟨c.B, w⟩ : jN) ∈ FS T) →
  Cz C T a (oV cs g ws c l (mm T) a n) (fun T' => ∀ w ∈ l, FH c ⟨c.B, w⟩ T T')
 | [], T, a, n, h, _ => ⟨T, a, n, rfl, h, Au.refl _ _, fun _ hw => by cases hw⟩
 | w :: l, T, a, n, h, hm => by
  rw [oV]
  obtain ⟨T1, z, A, p, g1, x1, x⟩ := N0 i j h cs g ws k (f := ⟨c.B, w⟩) (hm w (by simp)) m
  rw [p]
  simp only [aA]
  obtain ⟨T2, d, u, t, g2, x2, y⟩ := J9 i j cs g ws k m l g1 (fun w hw => x1.lZ _ (hm w (by simp [hw])))
  refine ⟨T2, d, u, t, g2, x1.trans x2, fun v b => ?_⟩
  rcases aR.1 b with rfl | b
  ·exact x.mono (fun _ h => h) x2.lZ
  ·exact (y v b).mono x1.lZ (fun _ h => h)
def Gl (c : jv) (T : oN) (a : List jN) : Prop :=
 (c.Kind = 1 → (⟨c.Head, c.kE⟩ : jN) ∈ FS T) ∧
 (c.Kind = 2 → ∀ w, (⟨c.B, w⟩ : jN) ∈ FS T → (⟨c.B, w⟩ : jN) ∉ a → (⟨c.Head, w⟩ : jN) ∈ FS T) ∧
 (c.Kind = 3 → ∀ b w, (⟨c.B, b⟩ : jN) ∈ FS T → (⟨c.B, b⟩ : jN) ∉ a → (⟨⟨b, c.kL⟩, w⟩ : jN) ∈ FS T → (⟨⟨b, c.kL⟩, w⟩ : jN) ∉ a → (⟨c.Head, w⟩ : jN) ∈ FS T) ∧
 (c.Kind = 4 → ∀ w, (⟨c.B, w⟩ : jN) ∈ FS T → (⟨c.B, w⟩ : jN) ∉ a → (⟨c.C, w⟩ : jN) ∈ FS T → (⟨c.C, w⟩ : jN) ∉ a → (⟨c.Head, w⟩ : jN) ∈ FS T)
theorem Gl.ext {c : jv} {T T' : oN} {i d : List jN} (h : Gl c T i) (x : Au T i T' d) : Gl c T' d := by
 have lZ : ∀ f, f ∈ FS T' → f ∉ d → f ∈ FS T ∧ f ∉ i := fun f m j => by
  rcases x.new f m with h1 | h1
  ·exact ⟨h1, fun l => j (x.todo f l)⟩
  ·exact absurd h1 j
 refine ⟨fun k => x.lZ _ (h.1 k), fun k w a b => ?_, fun k b w g a2 a3 a4 => ?_, fun k w g a2 a3 a4 => ?_⟩
 ·exact x.lZ _ (h.2.1 k w (lZ _ a b).1 (lZ _ a b).2)
 ·exact x.lZ _ (h.2.2.1 k b w (lZ _ g a2).1 (lZ _ g a2).2 (lZ _ a3 a4).1 (lZ _ a3 a4).2)
 ·exact x.lZ _ (h.2.2.2 k w (lZ _ g a2).1 (lZ _ g a2).2 (lZ _ a3 a4).1 (lZ _ a3 a4).2)
theorem Qk {C : List jv} (l : qN C) (u : sc C) {T : oN} {p : List jN} {n : Int} (h : ql C T p n) (cs : List jv) (t : List (ju × List jv)) (ws : List (ByteArray × List jv)) {c : jv} (v : c ∈ C) :
  ∃ T' d i, sC (mm T) cs t ws p n c = some (mm T', d, i) ∧ ql C T' d i ∧ Au T p T' d ∧ Gl c T' d := by
 unfold sC
 simp only [QI]
 by_cases h1 : c.Kind = 1
 ·rw [bB (by simp [h1])]
  obtain ⟨T', d, i, e, g, x, q⟩ := De l h cs t ws (oH.mem c v h1)
  exact ⟨T', d, i, e, g, x, fun _ => q, fun k => absurd (h1.symm.trans k) (by decide), fun k => absurd (h1.symm.trans k) (by decide), fun k => absurd (h1.symm.trans k) (by decide)⟩
 ·rw [bE (by simp [h1]), H2 l u h]
  simp only [aA]
  have A : c.B ∈ om c := by unfold om; rw [bE h1]; split <;> simp
  obtain ⟨T', d, i, e, g, x, q⟩ := J9 l u cs t ws v A (vo (rC T c.B)) h (fun w hw => (BL h.keys ⟨c.B, w⟩).2 ((z6 _ _).1 hw))
  have lZ : ∀ f, f ∈ FS T' → f ∉ d → f ∈ FS T := fun f y z => by
   rcases x.new f y with h1 | h1
   ·exact h1
   ·exact absurd h1 z
  have m : ∀ w, (⟨c.B, w⟩ : jN) ∈ FS T → FH c ⟨c.B, w⟩ T T' := fun w hw => q w ((z6 _ _).2 ((BL h.keys ⟨c.B, w⟩).1 hw))
  refine ⟨T', d, i, e, g, x, fun k => absurd k h1, fun k w a b => ?_, fun k b w j a2 a3 a4 => ?_, fun k w j a2 a3 a4 => ?_⟩
  ·exact (m w (lZ _ a b)).1 k rfl
  ·exact (m b (lZ _ j a2)).2.1 k rfl w (lZ _ a3 a4)
  ·exact (m w (lZ _ j a2)).2.2 k (lZ _ j a2) (lZ _ a3 a4)
structure E7 (C : List jv) (us : List (ju × List jv)) (ws : List (ByteArray × List jv)) : Prop where
 Pg : ∀ r c, c ∈ (lm jY us r).getD [] ↔ c ∈ C ∧ r ∈ om c
 word : ∀ w c, c ∈ (lm kV ws w).getD [] ↔ c ∈ C ∧ c.Kind = 3 ∧ c.kL = w
 SK : ∀ r, ((lm jY us r).getD []).length ≤ 2 * C.length
 SZ : ∀ w, ((lm kV ws w).getD []).length ≤ C.length
theorem I3 {C : List jv} (i : qN C) (j : sc C) (cs : List jv) (g : List (ju × List jv)) (ws : List (ByteArray × List jv)) {f : jN} : ∀ (l : List jv) {T : oN} {a : List jN} {n : Int}, ql C T a n → f ∈ FS T → (∀ c ∈ l, c ∈ C ∧ f.ju ∈ om c) →
  Cz C T a (oL cs g ws f l (mm T) a n) (fun T' => ∀ c ∈ l, FH c f T T')
 | [], T, a, n, h, _, _ => ⟨T, a, n, rfl, h, Au.refl _ _, fun _ hw => by cases hw⟩
 | c :: l, T, a, n, h, k, hm => by
  rw [oL]
  obtain ⟨T1, y, z, m, g1, x1, w⟩ := N0 i j h cs g ws (hm c (by simp)).1 k (hm c (by simp)).2
  rw [m]
  simp only [aA]
  obtain ⟨T2, d, u, p, g2, x2, x⟩ := I3 i j cs g ws l g1 (x1.lZ _ k) (fun c t => hm c (by simp [t]))
  refine ⟨T2, d, u, p, g2, x1.trans x2, fun v b => ?_⟩
  rcases aR.1 b with rfl | b
  ·exact w.mono (fun _ h => h) x2.lZ
  ·exact (x v b).mono x1.lZ (fun _ h => h)
theorem EO {C : List jv} (m : qN C) (y : sc C) (cs : List jv) (j : List (ju × List jv)) (ws : List (ByteArray × List jv)) {f : jN} : ∀ (l : List jv) {T : oN} {g : List jN} {n : Int}, ql C T g n → f ∈ FS T → (∀ c ∈ l, c ∈ C ∧ c.Kind = 3 ∧ c.kL = f.ju.Word) →
  Cz C T g (nL f cs j ws l (mm T) g n) (fun T' => ∀ c ∈ l, (⟨c.B, f.ju.jw⟩ : jN) ∈ FS T → (⟨c.Head, f.kE⟩ : jN) ∈ FS T')
 | [], T, g, n, h, _, _ => ⟨T, g, n, rfl, h, Au.refl _ _, fun _ hw => by cases hw⟩
 | c :: l, T, g, n, h, t, hm => by
  rw [nL]
  have hk := hm c (by simp)
  by_cases i : (⟨c.B, f.ju.jw⟩ : jN) ∈ FS T
  ·rw [bB ((sZ h.keys _ _).2 i)]
   have u : f = ⟨⟨f.ju.jw, c.kL⟩, f.kE⟩ := by rw [hk.2.2]
   have A : oH C ⟨c.Head, f.kE⟩ := .Hw c f.ju.jw f.kE hk.1 hk.2.1 (h.xC _ i) (by rw [← u]; exact h.xC f t)
   obtain ⟨T1, I, J, z, g1, x1, G⟩ := De m h cs j ws A
   rw [z]
   simp only [aA]
   obtain ⟨T2, d, w, k, g2, x2, x⟩ := EO m y cs j ws l g1 (x1.lZ _ t) (fun c p => hm c (by simp [p]))
   refine ⟨T2, d, w, k, g2, x1.trans x2, fun v b a => ?_⟩
   rcases aR.1 b with rfl | b
   ·exact x2.lZ _ G
   ·exact x v b (x1.lZ _ a)
  ·rw [bE (fun E => i ((sZ h.keys _ _).1 E))]
   obtain ⟨T2, d, w, k, g2, x2, x⟩ := EO m y cs j ws l h t (fun c p => hm c (by simp [p]))
   refine ⟨T2, d, w, k, g2, x2, fun v b a => ?_⟩
   rcases aR.1 b with rfl | b
   ·exact absurd a i
   ·exact x v b a
theorem Jm {C : List jv} (L : qN C) (M : sc C) {cs : List jv} {I : List (ju × List jv)} {ws : List (ByteArray × List jv)} (z : E7 C I ws) : ∀ (m : Nat) {T : oN} {l : List jN} {n : Int}, ql C T l n → (∀ c ∈ C, Gl c T l) → C.length * C.length + l.length < m + (FS T).length →
  ∃ T' Q, nl cs I ws m (mm T) l n = some (mm T', [], Q) ∧ ql C T' [] Q ∧ (∀ c ∈ C, Gl c T' []) ∧ (∀ f ∈ FS T, f ∈ FS T')
 | 0, T, l, n, h, _, hm => by have := h.len; omega
 | m + 1, T, [], n, h, t, hm => by
  rw [nl]
  exact ⟨T, n, rfl, h, t, fun _ h => h⟩
 | m + 1, T, f :: l, n, h, t, hm => by
  rw [nl]
  rw [bB (by simp)]
  have P : f ∈ FS T := h.sub f (by simp)
  have Z := (dE.1 h.LS)
  simp only [lG, Int.le_refl, aU, Int.toNat_zero, gf, aA]
  rw [show sf (decide ((0 : Nat) ≤ 1) && decide ((1 : Int) ≤ ((f :: l).length : Int))) = some () by simp [sf]; omega]
  simp only [aA, show Int.toNat 1 = 1 from rfl, List.drop_one, List.tail_cons]
  have O : ql C T l n := ⟨h.keys, h.nd, Z.2, fun g E => h.sub g (by simp [E]), h.num, h.xC⟩
  obtain ⟨T1, a6, n1, U, g1, x1, q1⟩ := I3 L M cs I ws ((lm jY I f.ju).getD []) O P (fun c i => (z.Pg _ c).1 i)
  rw [U]
  simp only [aA]
  obtain ⟨T2, u, n2, W, g2, x2, q2⟩ := EO L M cs I ws ((lm kV ws f.ju.Word).getD []) g1 (x1.lZ _ P) (fun c i => (z.word _ c).1 i)
  rw [W]
  simp only [aA]
  have x := x1.trans x2
  have lZ : ∀ g, g ∈ FS T2 → g ∉ u → g ∈ FS T ∧ (g = f ∨ g ∉ f :: l) := fun g E G => by
   rcases x.new g E with h1 | h1
   ·refine ⟨h1, ?_⟩
    by_cases he : g = f
    ·exact .inl he
    ·exact .inr (fun y => by
      rcases aR.1 y with y | y
      ·exact he y
      ·exact G (x.todo g y))
   ·exact absurd h1 G
  have d1 : ∀ c ∈ C, f.ju ∈ om c → FH c f T T2 := fun c i hr => (q1 c ((z.Pg _ c).2 ⟨i, hr⟩)).mono (fun _ h => h) x2.lZ
  have A : ∀ c ∈ C, Gl c T2 u := fun c i => by
   have k := t c i
   refine ⟨fun hk => x.lZ _ (k.1 hk), fun hk w a b => ?_, fun hk b w J a2 a3 a4 => ?_, fun hk w J a2 a3 a4 => ?_⟩
   ·obtain ⟨p, d⟩ := lZ _ a b
    rcases d with d | d
    ·subst d; exact (d1 c i (by simp [om, hk])).1 hk rfl
    ·exact x.lZ _ (k.2.1 hk w p d)
   ·obtain ⟨p, d⟩ := lZ _ J a2
    obtain ⟨v, j⟩ := lZ _ a3 a4
    rcases d with d | d
    ·subst d; exact (d1 c i (by simp [om, hk])).2.1 hk rfl w v
    ·rcases j with j | j
     ·subst j
      exact q2 c ((z.word _ c).2 ⟨i, hk, rfl⟩) (x1.lZ _ p)
     ·exact x.lZ _ (k.2.2.1 hk b w p d v j)
   ·obtain ⟨p, d⟩ := lZ _ J a2
    obtain ⟨v, j⟩ := lZ _ a3 a4
    rcases d with d | d
    ·subst d; exact (d1 c i (by simp [om, hk])).2.2 hk p v
    ·rcases j with j | j
     ·subst j; exact (d1 c i (by simp [om, hk])).2.2 hk p v
     ·exact x.lZ _ (k.2.2.2 hk w p d v j)
  have hlen : u.length + (FS T).length ≤ l.length + (FS T2).length := by
   exact g2.Gx O x
  obtain ⟨T3, n3, Y, g3, R, o3⟩ := Jm L M z m g2 A (by simp only [aQ] at hm; omega)
  exact ⟨T3, n3, Y, g3, R, fun g E => o3 g (x.lZ g E)⟩
theorem Mv (c : jv) : ∀ (l : List jv) (i : Nat), ∃ z, pO c l i = some z ∧ (z ≥ 0 ↔ c ∈ l)
 | [], i => ⟨-1, rfl, by simp⟩
 | x :: l, i => by
  rw [pO]
  by_cases h : lI c x = true
  ·rw [bB h]
   exact ⟨_, rfl, by simp [oE.1 h]⟩
  ·rw [bE h]
   obtain ⟨z, e, b⟩ := Mv c l (i + 1)
   refine ⟨z, e, ?_⟩
   rw [b, aR]
   exact ⟨.inr, fun a => a.resolve_left (fun e => h (oE.2 e))⟩
theorem KC (c : jv) (l : List jv) : ∃ b, th l c = some b ∧ (b = true ↔ c ∈ l) := by
 obtain ⟨z, e, a⟩ := Mv c l 0
 refine ⟨decide (z ≥ 0), ?_, by simpa using a⟩
 unfold th rS wy
 rw [e]
 rfl
theorem L4 (c : jv) (ws : List (ByteArray × List jv)) (C : List jv) (hw : ∀ w, ((lm kV ws w).getD []).length ≤ 2000000) : ∀ (j : List ju) (a : List (ju × List jv)), (∀ r, ((lm jY a r).getD []).length + j.length ≤ 4000000) →
  ∃ g i, oq c ws C j a = some (C, g, i) ∧ (∀ r x, x ∈ (lm jY g r).getD [] ↔ x ∈ (lm jY a r).getD [] ∨ (x = c ∧ r ∈ j)) ∧
   (∀ w x, x ∈ (lm kV i w).getD [] ↔ x ∈ (lm kV ws w).getD [] ∨ (x = c ∧ c.Kind = 3 ∧ w = c.kL)) ∧ (∀ r, ((lm jY g r).getD []).length ≤ ((lm jY a r).getD []).length + j.length) ∧
   (∀ w, ((lm kV i w).getD []).length ≤ ((lm kV ws w).getD []).length + 1)
 | [], a, _ => by
  rw [oq]
  by_cases k : c.Kind = 3
  ·rw [bB (by simp [k])]
   have h := hw c.kL
   rw [mZ (by simp; omega) (by simp; omega)]
   simp only [aA]
   refine ⟨a, _, rfl, by simp, fun w x => ?_, by simp, fun w => ?_⟩
   ·rw [Fe mf]
    by_cases hk : kV w c.kL = true
    ·rw [bB hk, mf.1 hk]; simp [k]
    ·rw [bE hk]
     have : w ≠ c.kL := fun e => hk (mf.2 e)
     simp [this]
   ·rw [Fe mf]
    by_cases hk : kV w c.kL = true
    ·rw [bB hk, mf.1 hk]; simp
    ·rw [bE hk]; exact iC _
  ·rw [bE (by simp [k])]
   exact ⟨a, ws, rfl, by simp, by simp [k], by simp, by simp⟩
 | b :: j, a, l => by
  rw [oq]
  have h := l b
  simp only [aQ] at h
  rw [mZ (by simp; omega) (by simp; omega)]
  simp only [aA]
  have d : ∀ r, (lm jY (nZ jY a b (((lm jY a b).getD []) ++ [c])) r).getD [] = if jY r b = true then ((lm jY a b).getD []) ++ [c] else (lm jY a r).getD [] := fun r => by
   rw [Fe kc]; by_cases hk : jY r b = true
   ·rw [bB hk, bB hk]; rfl
   ·rw [bE hk, bE hk]
  obtain ⟨g, i, e, m, a2, a3, a4⟩ := L4 c ws C hw j (nZ jY a b (((lm jY a b).getD []) ++ [c])) (fun r => by
   rw [d r]
   have n := l r
   simp only [aQ] at n
   by_cases hk : jY r b = true
   ·rw [bB hk]; simp; omega
   ·rw [bE hk]; omega)
  refine ⟨g, i, e, fun r x => ?_, a2, fun r => ?_, a4⟩
  ·rw [m, d]
   by_cases hk : jY r b = true
   ·rw [bB hk, kc.1 hk]
    simp only [aW, aR, dl, fa]
    constructor
    ·rintro ((h | h) | h)
     ·exact .inl h
     ·exact .inr ⟨h, .inl trivial⟩
     ·exact .inr ⟨h.1, .inr h.2⟩
    ·rintro (h | h)
     ·exact .inl (.inl h)
     ·exact .inl (.inr h.1)
   ·rw [bE hk]
    have : r ≠ b := fun e => hk (kc.2 e)
    simp [this]
  ·have := a3 r
   rw [d r] at this
   by_cases hk : jY r b = true
   ·rw [bB hk] at this; rw [kc.1 hk] at this ⊢; simp at this ⊢; omega
   ·rw [bE hk] at this; simp; omega
theorem Rf {C : List jv} {j : List (ju × List jv)} {ws : List (ByteArray × List jv)} (g : E7 C j ws) (t : C.length + 1 ≤ 1000000) {c : jv} (l : lH c = true) (i : List (ju × List (ByteArray × Bool))) (p : List jN) (n : Int) :
  ∃ a b, tg i C j ws p n c = some (C ++ [c], a, b) ∧ E7 (C ++ [c]) a b := by
 unfold tg
 rw [mZ (by simp; omega) (by simp; omega)]
 simp only [aA, RR l]
 rw [show sf (decide ((0 : Nat) ≤ 1) && decide ((1 : Int) ≤ ((c.Head :: om c).length : Int))) = some () by simp [sf]; omega]
 simp only [aA, show Int.toNat 1 = 1 from rfl, List.drop_one, List.tail_cons]
 have m : (om c).length ≤ 2 := by unfold om; split; simp; split <;> simp
 obtain ⟨a, b, e, k, a2, a3, a4⟩ := L4 c ws (C ++ [c]) (fun w => by have := g.SZ w; omega) (om c) j (fun r => by have := g.SK r; omega)
 refine ⟨a, b, e, fun r x => ?_, fun w x => ?_, fun r => ?_, fun w => ?_⟩
 ·rw [k, g.Pg, aW, bP]
  constructor
  ·rintro (h | h)
   ·exact ⟨.inl h.1, h.2⟩
   ·exact ⟨.inr h.1, by rw [h.1]; exact h.2⟩
  ·rintro ⟨h | h, d⟩
   ·exact .inl ⟨h, d⟩
   ·exact .inr ⟨h, by rw [← h]; exact d⟩
 ·rw [a2, g.word, aW, bP]
  constructor
  ·rintro (h | h)
   ·exact ⟨.inl h.1, h.2⟩
   ·exact ⟨.inr h.1, by rw [h.1]; exact ⟨h.2.1, h.2.2.symm⟩⟩
  ·rintro ⟨h | h, d⟩
   ·exact .inl ⟨h, d⟩
   ·subst h; exact .inr ⟨rfl, d.1, d.2.symm⟩
 ·have := a3 r; have := g.SK r; simp; omega
 ·have := a4 w; have := g.SZ w; simp; omega
structure MS (C : List jv) (T : oN) (us : List (ju × List jv)) (ws : List (ByteArray × List jv)) (n : Int) : Prop where
 EJ : ql C T [] n
 cl : ∀ c ∈ C, Gl c T []
 Uw : E7 C us ws
 right : sc C
theorem MS.all {C : List jv} {T : oN} {j : List (ju × List jv)} {ws : List (ByteArray × List jv)} {n : Int} (h : MS C T j ws n) (f : jN) : f ∈ FS T ↔ oH C f := by
 refine ⟨h.EJ.xC f, fun i => ?_⟩
 induction i with
 | mem c a hk => exact (h.cl c a).1 hk
 | inc c w a hk _ ih => exact (h.cl c a).2.1 hk w ih (by simp)
 | Hw c b w a hk _ _ d g => exact (h.cl c a).2.2.1 hk b w d (by simp) g (by simp)
 | both c w a hk _ _ d g => exact (h.cl c a).2.2.2 hk w d (by simp) g (by simp)
theorem Km (t : Int) (E : 0 ≤ t ∧ t ≤ 1000000000000) : ∀ (l : List jv) {C : List jv} {T : oN} {p : List jN} {G : List (ju × List jv)} {ws : List (ByteArray × List jv)} {n : Int}, ql C T p n → (∀ c ∈ C, Gl c T p) → E7 C G ws → sc C → C.length + l.length ≤ 1000000 →
  ∃ C' T' a d j, nJ t l (mm T) C G ws p n = some (j - t, mm T', C', a, d, [], j) ∧ MS C' T' a d j ∧ (∀ c, c ∈ C' ↔ c ∈ C ∨ (c ∈ l ∧ lH c = true)) ∧ C'.length ≤ C.length + l.length ∧ (∀ f ∈ FS T, f ∈ FS T')
 | [], C, T, p, G, ws, n, g, i, w, u, Q => by
  rw [nJ]
  have hC : qN C := by unfold qN; simp at Q; omega
  have a7 := hC.sq
  have hlen := g.len
  have a8 := g.Tm
  obtain ⟨T', j, e, L, c', o⟩ := Jm hC u w (cs := C) ki g i (by rw [xv]; omega)
  unfold uM
  rw [e]
  simp only [aA]
  have R := L.len
  have a6 := L.num
  rw [kO (by omega) (by omega)]
  exact ⟨C, T', G, ws, j, rfl, ⟨L, c', w, u⟩, by simp, by simp, o⟩
 | x :: l, C, T, p, G, ws, n, g, i, w, u, Q => by
  rw [nJ, wG]
  simp only [aQ] at Q
  obtain ⟨b, hb, y⟩ := KC x C
  simp only [aA, hb, D9]
  by_cases k : lH x = true ∧ x ∉ C
  ·have O : b = false := by cases b with | false => rfl | true => exact absurd (y.1 rfl) k.2
   rw [k.1, O]
   simp only [dp, iR, aU]
   obtain ⟨Y, Z, e1, U1⟩ := Rf w (by omega) k.1 (mm T) p n
   rw [e1]
   simp only [aA]
   have M : qN (C ++ [x]) := by unfold qN; simp; omega
   have v : sc (C ++ [x]) := fun c z => by
    rcases aW.1 z with h | h
    ·exact u c h
    ·simp at h; subst h; exact k.1
   have g1 : ql (C ++ [x]) T p n := g.mono (fun c z => cI _ z)
   obtain ⟨T2, W, n2, e2, g2, x2, c2⟩ := Qk M v g1 (C ++ [x]) Y Z (c := x) (by simp)
   rw [e2]
   simp only [aA]
   have A : ∀ c ∈ C ++ [x], Gl c T2 W := fun c z => by
    rcases aW.1 z with h | h
    ·exact (i c h).ext x2
    ·simp at h; subst h; exact c2
   obtain ⟨C', T', a, d, j, e, m, J, a2, a3⟩ := Km t E l g2 A U1 v (by simp; omega)
   refine ⟨C', T', a, d, j, e, m, fun c => ?_, by simp at a2 ⊢; omega, fun f P => a3 f (x2.lZ f P)⟩
   rw [J]
   simp only [aW, aR, dl, fa]
   constructor
   ·rintro ((h | h) | h)
    ·exact .inl h
    ·subst h; exact .inr ⟨.inl rfl, k.1⟩
    ·exact .inr ⟨.inr h.1, h.2⟩
   ·rintro (h | ⟨h | h, I⟩)
    ·exact .inl (.inl h)
    ·exact .inl (.inr h)
    ·exact .inr ⟨h, I⟩
  ·have P : (lH x && !b) = false := by
    cases hr : lH x with
    | false => rfl
    | true =>
     have : x ∈ C := eP fun U => k ⟨hr, U⟩
     rw [y.2 this]; rfl
   rw [P]
   simp only [aC, aK]
   obtain ⟨C', T', a, d, j, e, m, J, a2, a3⟩ := Km t E l g i w u (by omega)
   refine ⟨C', T', a, d, j, e, m, fun c => ?_, by simp; omega, a3⟩
   rw [J, aR]
   constructor
   ·rintro (h | h)
    ·exact .inl h
    ·exact .inr ⟨.inr h.1, h.2⟩
   ·rintro (h | ⟨h | h, I⟩)
    ·exact .inl h
    ·subst h
     exact .inl (eP fun U => k ⟨I, U⟩)
    ·exact .inr ⟨h, I⟩
theorem RM {C : List jv} {T : oN} {g : List (ju × List jv)} {ws : List (ByteArray × List jv)} {n : Int} (h : MS C T g ws n) (l : List jv) (j : C.length + l.length ≤ 1000000) :
  ∃ C' T' a b d, tX (mm T) C g ws [] n l = some (d - n, mm T', C', a, b, [], d) ∧ MS C' T' a b d ∧ (∀ c, c ∈ C' ↔ c ∈ C ∨ (c ∈ l ∧ lH c = true)) ∧ C'.length ≤ C.length + l.length ∧ (∀ f ∈ FS T, f ∈ FS T') := by
 have i : qN C := by unfold qN; omega
 have h1 := h.EJ.len
 have k := i.sq
 have m := h.EJ.num
 exact Km n ⟨by omega, by omega⟩ l h.EJ h.cl h.Uw h.right j
theorem E7.zero : E7 [] [] [] := ⟨fun r c => by simp [lm], fun w c => by simp [lm], fun r => by simp [lm], fun w => by simp [lm]⟩
theorem ql.zero : ql [] [] [] 0 := ⟨by simp, by simp [FS], by simp, by simp, by simp [FS], by simp [FS]⟩
theorem MS.zero : MS [] [] [] [] 0 := ⟨ql.zero, fun c a => (by cases a), E7.zero, fun c a => (by cases a)⟩
theorem M8 (l : List jv) (h : l.length ≤ 1000000) : ∃ C T d ws n, xh l = some (mm T, C, d, ws, [], n) ∧ MS C T d ws n ∧ (∀ c, c ∈ C ↔ c ∈ l ∧ lH c = true) ∧ C.length ≤ l.length := by
 unfold xh
 obtain ⟨C', T', a, b, i, e, m, g, a2, a3⟩ := RM MS.zero l (by simpa using h)
 rw [show tX [] [] [] [] [] 0 l = _ from e]
 exact ⟨C', T', a, b, i, rfl, m, by simpa using g, by simpa using a2⟩
theorem oH.congr {C C' : List jv} (h : ∀ c, c ∈ C ↔ c ∈ C') (f : jN) : oH C f ↔ oH C' f := ⟨fun d => d.mono (fun c a => (h c).1 a), fun d => d.mono (fun c a => (h c).2 a)⟩
def zr (a b : jN) : Bool := Ce a.ju b.ju || (jY a.ju b.ju && pY a.kE b.kE)
theorem A6 {a b : jN} : zr a b = true ↔ Ce a.ju b.ju = true ∨ (a.ju = b.ju ∧ pY a.kE b.kE = true) := by simp [zr, kc]
def D3 (_ : jN) : Bool := true
theorem HY : AI (fun a b => zr a b = true) (fun x => D3 x = true) := by
 have H := TG (fun _ => True)
 refine ⟨fun x _ => ?_, fun x y z _ _ _ h1 d => ?_, fun x y _ _ => ?_⟩
 ·rw [A6]
  rintro (h | ⟨_, h⟩)
  ·exact H.irrefl _ trivial h
  ·rw [ta] at h; cases h
 ·rw [A6] at *
  rcases h1 with h1 | ⟨i, h1⟩
  ·rcases d with d | ⟨g, d⟩
   ·exact .inl (H.trans _ _ _ trivial trivial trivial h1 d)
   ·exact .inl (by rw [← g]; exact h1)
  ·rcases d with d | ⟨g, d⟩
   ·exact .inl (by rw [i]; exact d)
   ·exact .inr ⟨i.trans g, Ax h1 d⟩
 ·simp only [A6]
  rcases H.total x.ju y.ju trivial trivial with h | h | h
  ·exact .inl (.inl h)
  ·rcases Ap x.kE y.kE with d | d | d
   ·exact .inl (.inr ⟨h, d⟩)
   ·refine .inr (.inl ?_)
    cases x; cases y; simp at h d; simp [h, d]
   ·exact .inr (.inr (.inr ⟨h.symm, d⟩))
  ·exact .inr (.inr (.inl h))
theorem H0 (a b : ByteArray) : oX a b = 0 ↔ a = b := by unfold oX; rw [He]; exact ⟨An, fun h => by rw [h]⟩
theorem Tz (a b : ByteArray) : oX a b < 0 ↔ pY a b = true := by rw [yE]; exact Dk _ _
theorem OR (a b : ju) : ∃ c, pn a b = some c ∧ (c < 0 ↔ Ce a b = true) ∧ (c = 0 ↔ a = b) := by
 obtain ⟨c, e, h⟩ := AQ a b
 refine ⟨c, e, h, ?_⟩
 unfold pn at e
 simp only [pB, ny, aA, vc, sw, oC] at e
 by_cases d : oX a.jw b.jw = 0
 ·rw [bE (by simp [d])] at e
  have h1 := (H0 _ _).1 d
  by_cases g : oX a.Word b.Word = 0
  ·rw [bE (by simp [g])] at e
   have i := (H0 _ _).1 g
   cases e
   refine ⟨fun _ => ?_, fun _ => rfl⟩
   cases a; cases b; simp at h1 i; simp [h1, i]
  ·rw [bB (by simp [g])] at e
   cases e
   exact ⟨fun k => absurd k g, fun k => by rw [k] at g; exact absurd ((H0 _ _).2 rfl) g⟩
 ·rw [bB (by simp [d])] at e
  cases e
  exact ⟨fun k => absurd k d, fun k => by rw [k] at d; exact absurd ((H0 _ _).2 rfl) d⟩
theorem Pf (a b : jN) : ∃ c, pW a b = some c ∧ (c < 0 ↔ zr a b = true) := by
 unfold pW
 obtain ⟨c, e, h1, i⟩ := OR a.ju b.ju
 rw [e]
 simp only [pB, ny, aA, vc, sw, oC]
 by_cases g : c = 0
 ·rw [bE (by simp [g])]
  have l := i.1 g
  have d : ¬ Ce a.ju b.ju = true := fun j => by have := h1.2 j; omega
  by_cases h : oX a.kE b.kE = 0
  ·rw [bE (by simp [h])]
   refine ⟨0, rfl, ?_⟩
   rw [A6]
   simp [d, (H0 _ _).1 h, ta]
  ·rw [bB (by simp [h])]
   refine ⟨_, rfl, ?_⟩
   rw [A6, Tz]
   exact ⟨fun k => .inr ⟨l, k⟩, fun k => k.elim (fun k => absurd k d) (·.2)⟩
 ·rw [bB (by simp [g])]
  refine ⟨c, rfl, ?_⟩
  rw [A6, h1]
  have : a.ju ≠ b.ju := fun k => g (i.2 k)
  simp [this]
theorem MH {α : Type} {eq : α → α → Bool} (he : ∀ x y, eq x y = true ↔ x = y) : ∀ (l : List α) (p : α), (p :: l).Nodup → mU eq p l = l
 | [], p, _ => rfl
 | y :: l, p, h => by
  have h1 := dE.1 h
  rw [mU, bE (fun e => h1.1 (by rw [← (he _ _).1 e]; simp)), MH he l y h1.2]
theorem TU {α : Type} {eq : α → α → Bool} (he : ∀ x y, eq x y = true ↔ x = y) : ∀ l : List α, l.Nodup → dd eq l = l
 | [], _ => rfl
 | x :: l, h => by rw [dd, MH he l x h]
def Bk (P : jN → Prop) (s : List jN) : Prop := s.Pairwise (fun a b => zr a b = true) ∧ ∀ f, f ∈ s ↔ P f
theorem Bk.unique {P : jN → Prop} {s t : List jN} (h : Bk P s) (k : Bk P t) : s = t :=
 wJ.unique (l := s) HY ⟨h.1, fun x => ⟨fun a => ⟨a, rfl⟩, fun a => a.1⟩⟩ ⟨k.1, fun x => by rw [k.2, h.2]; exact ⟨fun a => ⟨a, rfl⟩, fun a => a.1⟩⟩
theorem HB {l : List jN} (g : l.Nodup) (k : l.length ≤ 1000000000000) : ∃ s, Af (fun (x : jN × jN) => pW x.1 x.2) l = some s ∧ Bk (fun f => f ∈ l) s := by
 obtain ⟨s, h1, j, d⟩ := GC (eq := Bc) (lt := fun a b => zr a b = true) (P := fun x => D3 x = true) (cf := fun (x : jN × jN) => pW x.1 x.2) (l := l) (fun x y => xS) HY (fun _ _ => rfl) (by omega) (fun x y _ _ => Pf x y)
 have i : s.Nodup := by
  have := (Ib h1).2
  rw [this]
  unfold tD
  exact (gS l _).nodup_iff.2 g
 rw [TU (fun x y => xS) s i] at d
 exact ⟨s, h1, d.1, fun f => by rw [d.2]; exact ⟨fun h => h.1, fun h => ⟨h, rfl⟩⟩⟩
theorem RL (T : oN) : (mm T).flatMap (fun p => p.2.map (fun q => (fun (a : ju) (b : ByteArray) => (⟨a, b⟩ : jN)) p.1 q.1)) = FS T := by
 unfold mm FS tt
 rw [List.flatMap_map]
 congr 1
 funext p
 simp [fA]
theorem Qa {C : List jv} (j : qN C) {T : oN} {m : List (ju × List jv)} {ws : List (ByteArray × List jv)} {n : Int} (h : MS C T m ws n) (cs : List jv) (u : List (ju × List jv)) (w : List (ByteArray × List jv)) (l : List jN) (z : Int) :
  ∃ s, wx (mm T) cs u w l z = some s ∧ Bk (oH C) s := by
 have k := j.sq
 have hlen := h.EJ.len
 obtain ⟨s, p, i⟩ := HB h.EJ.nd (by omega)
 have g : Bk (oH C) s := ⟨i.1, fun f => (i.2 f).trans (h.all f)⟩
 refine ⟨s, ?_, g⟩
 unfold wx OE
 rw [RL]
 rw [bB ⟨by omega, by unfold maxLen; omega⟩]
 simp only [aA, oC]
 refine Hl (fun o b => ?_)
 obtain ⟨t, d, a⟩ := HB ((b.nodup_iff).2 h.EJ.nd) (by rw [b.length_eq]; omega)
 rw [d]
 congr 1
 exact Bk.unique ⟨a.1, fun f => (a.2 f).trans (b.mem_iff.trans (h.all f))⟩ g
theorem Ql (r : ju) (w : ByteArray) : ∀ l : List jN, ∃ b, vM r w l = some b ∧ (b = true ↔ (⟨r, w⟩ : jN) ∈ l)
 | [] => ⟨false, rfl, by simp⟩
 | x :: l => by
  rw [vM]
  simp only [D9, aA]
  obtain ⟨b, e, g⟩ := Ql r w l
  by_cases h : (jY x.ju r && kV x.kE w) = true
  ·rw [bB h]
   have a : x = ⟨r, w⟩ := by
    rw [bo, kc, mf] at h
    cases x; simp at h; simp [h]
   exact ⟨true, rfl, by simp [a]⟩
  ·rw [bE h]
   refine ⟨b, e, ?_⟩
   rw [g, aR]
   refine ⟨.inr, fun d => d.resolve_left (fun e => h ?_)⟩
   rw [← e]; simp [wW, tm]
theorem zy (l : List jN) (r : ju) (w : ByteArray) : ∃ b, uB l r w = some b ∧ (b = true ↔ (⟨r, w⟩ : jN) ∈ l) := Ql r w l
def xi (l : List jN) (c : jv) (names : List ByteArray) (w : ByteArray) : Prop :=
 (c.Kind = 1 ∧ c.kE = w) ∨ (c.Kind = 2 ∧ (⟨c.B, w⟩ : jN) ∈ l) ∨ (c.Kind = 4 ∧ (⟨c.B, w⟩ : jN) ∈ l ∧ (⟨c.C, w⟩ : jN) ∈ l) ∨
 (c.Kind ≠ 1 ∧ c.Kind ≠ 2 ∧ c.Kind ≠ 4 ∧ ∃ b ∈ names, (⟨c.B, b⟩ : jN) ∈ l ∧ (⟨⟨b, c.kL⟩, w⟩ : jN) ∈ l)
theorem Ho (l : List jN) (c : jv) (w : ByteArray) : ∀ names : List ByteArray, ∃ b, ux l c w names = some b ∧ (b = true ↔ ∃ b ∈ names, (⟨c.B, b⟩ : jN) ∈ l ∧ (⟨⟨b, c.kL⟩, w⟩ : jN) ∈ l)
 | [] => ⟨false, rfl, by simp⟩
 | x :: names => by
  rw [ux]
  obtain ⟨g, j, h1⟩ := zy l c.B x
  obtain ⟨i, k, d⟩ := zy l ⟨x, c.kL⟩ w
  obtain ⟨b, e, m⟩ := Ho l c w names
  rw [j, k, e]
  simp only [aA, D9]
  by_cases h : (g && i) = true
  ·rw [bB h]
   rw [bo, h1, d] at h
   exact ⟨true, rfl, by simp [h]⟩
  ·rw [bE h]
   rw [bo, h1, d] at h
   refine ⟨b, rfl, ?_⟩
   rw [m]
   constructor
   ·rintro ⟨y, a, q⟩; exact ⟨y, by simp [a], q⟩
   ·rintro ⟨y, a, q⟩
    rcases aR.1 a with rfl | a
    ·exact absurd q h
    ·exact ⟨y, a, q⟩
theorem Q1 (l : List jN) (c : jv) (names : List ByteArray) (w : ByteArray) : ∃ b, zh l c names w = some b ∧ (b = true ↔ xi l c names w) := by
 unfold zh xi
 simp only [oC]
 by_cases h1 : c.Kind = 1
 ·rw [bB (by simp [h1])]; exact ⟨_, rfl, by simp [h1, mf]⟩
 rw [bE (by simp [h1])]
 by_cases a : c.Kind = 2
 ·rw [bB (by simp [a])]
  obtain ⟨b, e, g⟩ := zy l c.B w
  exact ⟨b, e, by simp [a, g]⟩
 rw [bE (by simp [a])]
 by_cases d : c.Kind = 4
 ·rw [bB (by simp [d])]
  obtain ⟨m, j, h⟩ := zy l c.B w
  obtain ⟨n, k, i⟩ := zy l c.C w
  rw [j, k]
  simp only [aA, D9]
  exact ⟨_, rfl, by simp [d, h, i]⟩
 rw [bE (by simp [d])]
 obtain ⟨b, e, g⟩ := Ho l c w names
 exact ⟨b, e, by rw [g]; simp [h1, a, d]⟩
theorem xi.xC {C : List jv} {l : List jN} (a : ∀ f ∈ l, oH C f) {c : jv} (d : c ∈ C) (hk : c.Kind = 1 ∨ c.Kind = 2 ∨ c.Kind = 3 ∨ c.Kind = 4) {names : List ByteArray} {w : ByteArray} (h : xi l c names w) : oH C ⟨c.Head, w⟩ := by
 rcases h with ⟨k, rfl⟩ | ⟨k, h⟩ | ⟨k, h1, g⟩ | ⟨i, j, m, b, _, h1, g⟩
 ·exact .mem c d k
 ·exact .inc c w d k (a _ h)
 ·exact .both c w d k (a _ h1) (a _ g)
 ·exact .Hw c b w d (by omega) (a _ h1) (a _ g)
theorem NF {c : jv} (h : lH c = true) : c.Kind = 1 ∨ c.Kind = 2 ∨ c.Kind = 3 ∨ c.Kind = 4 := by rcases ov h with h | h | h | h <;> simp [h.1]
structure E1 (C : List jv) (out : List jN) : Prop where
 nd : out.Nodup
 xC : ∀ f ∈ out, oH C f
theorem E1.len {C : List jv} {out : List jN} (h : E1 C out) : out.length ≤ C.length * C.length := by
 rw [← DX]; exact mo h.nd (fun f a => (h.xC f a).GA)
theorem G9 {C : List jv} (x : qN C) (y : sc C) {c : jv} (m : c ∈ C) (names : List ByteArray) : ∀ (l : List ByteArray) (out : List jN) (i : Bool), E1 C out →
  ∃ g d, uq c names l out i = some (g, d) ∧ E1 C g ∧ (d = true → i = true ∨ out.length < g.length) ∧ (d = false → i = false ∧ g = out ∧ ∀ w ∈ l, xi out c names w → (⟨c.Head, w⟩ : jN) ∈ out) ∧ out.length ≤ g.length
 | [], out, i, h => ⟨out, i, rfl, h, .inl, fun h => ⟨h, rfl, fun _ hw => by cases hw⟩, aX _⟩
 | w :: l, out, i, h => by
  rw [uq]
  obtain ⟨E, L, h1⟩ := zy out c.Head w
  obtain ⟨J, M, G⟩ := Q1 out c names w
  rw [L, M]
  simp only [aA, D9]
  by_cases j : (!E && J) = true
  ·rw [bB j]
   rw [bo] at j
   have z : (⟨c.Head, w⟩ : jN) ∉ out := fun P => by have := h1.2 P; rw [this] at j; exact absurd j.1 (by decide)
   have R := h.len
   have Q := x.sq
   rw [mZ (by simp; omega) (by simp; omega)]
   simp only [aA]
   have O : E1 C (out ++ [⟨c.Head, w⟩]) := ⟨bX.2 ⟨h.nd, by simp, fun a ha b j e => by simp at j; subst j; subst e; exact z ha⟩, fun f k => by
    rcases aW.1 k with k | k
    ·exact h.xC f k
    ·simp at k; subst k; exact (G.1 j.2).xC h.xC m (NF (y c m))⟩
   obtain ⟨g, d, e, n, a2, a3, a4⟩ := G9 x y m names l _ true O
   simp at a4
   exact ⟨g, d, e, n, fun _ => .inr (by omega), fun k => (by cases (a3 k).1), by omega⟩
  ·rw [bE j]
   obtain ⟨g, d, e, n, a2, a3, a4⟩ := G9 x y m names l out i h
   refine ⟨g, d, e, n, a2, fun k => ?_, a4⟩
   obtain ⟨p, t, u⟩ := a3 k
   refine ⟨p, t, fun v A I => ?_⟩
   rcases aR.1 A with rfl | A
   ·refine eP fun z => j ?_
    rw [bo, G.2 I]
    cases E with
    | false => exact ⟨rfl, rfl⟩
    | true => exact absurd (h1.1 rfl) z
   ·exact u v A I
theorem J8 {C : List jv} (m : qN C) (n : sc C) (names : List ByteArray) : ∀ (l : List jv) (out : List jN) (a : Bool), (∀ c ∈ l, c ∈ C) → E1 C out →
  ∃ b g, we names l out a = some (b, g) ∧ E1 C b ∧ (g = true → a = true ∨ out.length < b.length) ∧ (g = false → a = false ∧ b = out ∧ ∀ c ∈ l, ∀ w ∈ names, xi out c names w → (⟨c.Head, w⟩ : jN) ∈ out) ∧ out.length ≤ b.length
 | [], out, a, _, h => ⟨out, a, rfl, h, .inl, fun h => ⟨h, rfl, fun _ hw => by cases hw⟩, aX _⟩
 | c :: l, out, a, p, h => by
  rw [we]
  obtain ⟨A, c1, y, t, a2, a3, a4⟩ := G9 m n (p c (by simp)) names names out a h
  rw [y]
  simp only [aA]
  obtain ⟨E, c2, z, u, v, x, P⟩ := J8 m n names l A c1 (fun d i => p d (by simp [i])) t
  refine ⟨E, c2, z, u, fun j => ?_, fun j => ?_, by omega⟩
  ·rcases v j with h1 | h1
   ·rcases a2 h1 with k | k
    ·exact .inl k
    ·exact .inr (by omega)
   ·exact .inr (by omega)
  ·obtain ⟨G, I, J⟩ := x j
   obtain ⟨L, M, O⟩ := a3 G
   subst M
   refine ⟨L, I, fun d i => ?_⟩
   rcases aR.1 i with rfl | i
   ·exact O
   ·exact J d i
def zF : jN := ⟨⟨zS, zS⟩, zS⟩
theorem J6 (a b : jN) : tE a b = some (zr a b) := by
 unfold tE zr
 simp only [BW, aA, D9, SD]
def R0 (a : List jN) (b : Int) (p : Bool × jN) : Prop := (p.1 = false ∧ b = -1) ∨ (p.1 = true ∧ 0 ≤ b ∧ lG a b = some p.2)
theorem BX (out a : List jN) (i : out.length < 4611686018427387904) : ∀ (rest A : List jN) (b : Int) (p : Bool × jN), a = A ++ rest → R0 a b p →
  ∃ d, oI out a rest A.length b = some d ∧ R0 a d (rj D3 zr out.getLast? rest p.1 p.2)
 | [], A, b, p, ha, j => ⟨b, rfl, j⟩
 | x :: rest, A, b, p, ha, j => by
  rw [oI, rj]
  simp only [D3, dW]
  have h1 : ((if ((out.length : Int) == 0) = true then some true else (lG out (wi0 .i64 ((out.length : Int) - 1))).bind fun y => (tE y x).bind fun r => some r) : Option Bool) = some (out.getLast?.all fun y => zr y x) := by
   rcases du out with h | ⟨B, z, h⟩
   ·subst h; rfl
   ·subst h
    rw [bE (by simp; omega)]
    rw [dO] at i ⊢
    rw [Ha B z (by simp at i; omega)]
    simp [J6]
  have n : ((if decide (b < 0) = true then some true else (lG a b).bind fun y => (tE x y).bind fun r => some r) : Option Bool) = some (!p.1 || zr x p.2) := by
   rcases j with ⟨k, l⟩ | ⟨k, l, m⟩
   ·rw [bB (by simp [l]), k]; rfl
   ·rw [bE (by simpa using l), m, k]
    simp [J6]
  rw [h1]
  simp only [aA]
  rw [n]
  simp only [aA, D9]
  have t : lG a (A.length : Int) = some x := by rw [ha]; exact mR A x rest _ rfl
  by_cases g : ((out.getLast?.all fun y => zr y x) && (!p.1 || zr x p.2)) = true
  ·rw [bB g, bB g]
   have := BX out a i rest (A ++ [x]) (A.length : Int) (true, x) (by rw [ha]; simp) (.inr ⟨rfl, by simp, t⟩)
   simpa using this
  ·rw [bE g, bE g]
   have := BX out a i rest (A ++ [x]) b p (by rw [ha]; simp) j
   simpa using this
theorem Gr {out a : List jN} (g : out.length < 4611686018427387904) (h : (rj D3 zr out.getLast? a false zF).1 = false) : ∀ Gx : List jN, oF a Gx out = some out
 | [] => rfl
 | x :: Gx => by
  rw [oF]
  obtain ⟨b, e, j⟩ := BX out a g a [] (-1) (false, zF) rfl (.inl ⟨rfl, rfl⟩)
  rw [show oI out a a 0 (-1) = some b from e]
  simp only [aA]
  rcases j with ⟨_, i⟩ | ⟨d, _⟩
  ·rw [bE (by simp [i])]; exact Gr g h Gx
  ·rw [h] at d; cases d
theorem I7 (a : List jN) : ∀ (Gx : List jN) (out s : List jN), Ay 48 D3 zr zF a (Gx.length + 1) out = some s → s.length < 4611686018427387904 → oF a Gx out = some s ∧ out.length ≤ s.length
 | [], out, s, h, j => by
  rw [Ay] at h
  cases hp : (rj D3 zr out.getLast? a false zF).1 with
  | false =>
   rw [hp] at h
   simp only [dp, aU] at h
   cases h
   exact ⟨rfl, aX _⟩
  | true =>
   rw [hp] at h
   simp only [cJ, aC, aK] at h
   obtain ⟨o, d, h⟩ := bind_some h
   replace h : Ay 48 D3 zr zF a 0 o = some s := h
   rw [Ay] at h
   cases h
 | x :: Gx, out, s, h, j => by
  rw [Ay] at h
  cases hp : (rj D3 zr out.getLast? a false zF).1 with
  | false =>
   rw [hp] at h
   simp only [dp, aU] at h
   cases h
   exact ⟨Gr j hp _, aX _⟩
  | true =>
   rw [hp] at h
   simp only [cJ, aC, aK] at h
   obtain ⟨o, d, h⟩ := bind_some h
   have i := d
   unfold mE at d
   split at d
   case isFalse => cases d
   cases d
   obtain ⟨n, p⟩ := I7 a Gx _ s h j
   simp at p
   rw [oF]
   obtain ⟨b, e, m⟩ := BX out a (by omega) a [] (-1) (false, zF) rfl (.inl ⟨rfl, rfl⟩)
   rw [show oI out a a 0 (-1) = some b from e]
   simp only [aA]
   rcases m with ⟨g, _⟩ | ⟨g, k, l⟩
   ·rw [hp] at g; cases g
   ·rw [bB (by simpa using k), l]
    simp only [aA]
    rw [i]
    exact ⟨n, by omega⟩
theorem OP (l : List jN) (d : l.length ≤ 1000000000) : ∃ s, zQ l = some s ∧ Bk (fun f => f ∈ l) s := by
 obtain ⟨s, h1, a⟩ := B7 HY (w := 48) (by omega) zF l d (l.length + 1) [] (by simp) (by simp) (fun x b => by cases b) (fun x _ _ => .inr rfl)
 have hlen : s.length ≤ l.length := mo (uQ HY (fun _ _ => rfl) a.1) (fun x b => ((a.2 x).1 b).1)
 exact ⟨s, (I7 l l [] s h1 (by omega)).1, a.1, fun f => by rw [a.2]; exact ⟨fun h => h.1, fun h => ⟨h, rfl⟩⟩⟩
theorem KX : ∀ (l : List jv) (acc : List ByteArray), acc.length + 4 * l.length ≤ 1000000000 → rL l acc = zY (acc ++ l.flatMap fun c => [c.kE, c.Head.jw, c.B.jw, c.C.jw])
 | [], acc, _ => by rw [rL]; simp [oC]
 | c :: l, acc, h => by
  rw [rL]
  simp only [aQ] at h
  rw [mZ (by simp; omega) (by simp; omega)]
  simp only [aA]
  rw [KX l _ (by simp; omega)]
  simp
def SM (C : List jv) : Prop := C.length ≤ 30000
theorem SM.small {C : List jv} (h : SM C) : qN C := by unfold SM at h; unfold qN; omega
theorem SM.sq {C : List jv} (h : SM C) : C.length * C.length ≤ 900000000 := Nat.mul_le_mul h h
theorem Pa {C : List jv} (b : SM C) (g : sc C) : ∃ names, ye C = some names ∧ ∀ c ∈ C, c.Kind = 1 → c.kE ∈ names := by
 have d : C.length ≤ 30000 := b
 unfold ye
 rw [KX C [] (by simp; omega)]
 obtain ⟨s, e, i⟩ := QY ([] ++ C.flatMap fun c => [c.kE, c.Head.jw, c.B.jw, c.C.jw]) (by
  have : ∀ l : List jv, (l.flatMap fun c => [c.kE, c.Head.jw, c.B.jw, c.C.jw]).length = 4 * l.length := fun l => by
   induction l with
   | nil => rfl
   | cons x l ih => simp [ih]; omega
  rw [bH, this]; omega)
 refine ⟨s, e, fun c a hk => (i.2 _).2 ⟨?_, ?_⟩⟩
 ·rw [bH]; exact iY.2 ⟨c, a, by simp⟩
 ·rcases ov (g c a) with h | h | h | h
  ·exact h.2.1
  ·exact absurd (hk.symm.trans h.1) (by decide)
  ·exact absurd (hk.symm.trans h.1) (by decide)
  ·exact absurd (hk.symm.trans h.1) (by decide)
theorem MV {C : List jv} (n : sc C) {names : List ByteArray} (l : ∀ c ∈ C, c.Kind = 1 → c.kE ∈ names) {out : List jN} (h : ∀ c ∈ C, ∀ w ∈ names, xi out c names w → (⟨c.Head, w⟩ : jN) ∈ out) {f : jN} (k : oH C f) : f ∈ out := by
 have hw : ∀ f, oH C f → f.kE ∈ names := fun f k => by
  obtain ⟨c, a, hk, e⟩ := k.LN
  rw [← e]; exact l c a hk
 induction k with
 | mem c a hk => exact h c a _ (l c a hk) (.inl ⟨hk, rfl⟩)
 | inc c w a hk m ih => exact h c a w (hw _ m) (.inr (.inl ⟨hk, ih⟩))
 | Hw c b w a hk d j g i => exact h c a w (hw _ j) (.inr (.inr (.inr ⟨by omega, by omega, by omega, b, hw _ d, g, i⟩)))
 | both c w a hk d j g i => exact h c a w (hw _ d) (.inr (.inr (.inl ⟨hk, g, i⟩)))
theorem KD {C : List jv} (a : SM C) (b : sc C) {names : List ByteArray} (g : ∀ c ∈ C, c.Kind = 1 → c.kE ∈ names) : ∀ (m : Nat) (out : List jN), E1 C out → C.length * C.length < m + out.length →
  ∃ s, um names C m out = some s ∧ Bk (oH C) s
 | 0, out, h, hm => by have := h.len; omega
 | m + 1, out, h, hm => by
  rw [um]
  obtain ⟨o, c, e, i, a2, a3, a4⟩ := J8 a.small b names C out false (fun _ h => h) h
  rw [e]
  simp only [aA, oC]
  cases c with
  | false =>
   simp only [dp, aU]
   obtain ⟨_, j, k⟩ := a3 rfl
   subst j
   have p := h.len
   have n := a.sq
   obtain ⟨s, l, d⟩ := OP o (by omega)
   exact ⟨s, l, d.1, fun f => (d.2 f).trans ⟨h.xC f, MV b g k⟩⟩
  | true =>
   simp only [cJ, aC, aK]
   rcases a2 rfl with h1 | h1
   ·cases h1
   ·exact KD a b g m o i (by omega)
theorem Rw (l : List jv) (p : l.length ≤ 30000) : ∃ C s, vB l = some s ∧ Bk (oH C) s ∧ ∀ c, c ∈ C ↔ c ∈ l ∧ lH c = true := by
 unfold vB
 obtain ⟨C, e, b⟩ := Mu l (by omega)
 have hlen := Bt Dz b
 have a : SM C := by unfold SM; omega
 have d : sc C := fun c j => ((b.2 c).1 j).2
 obtain ⟨names, g, m⟩ := Pa a d
 rw [e]
 simp only [aA]
 rw [g]
 simp only [aA]
 have n := a.sq
 obtain ⟨s, h, i⟩ := KD a d m ki [] ⟨by simp, fun f k => by cases k⟩ (by rw [xv]; simp; omega)
 exact ⟨C, s, h, i, b.2⟩
theorem Cq (w : ByteArray) : ∀ (l : List jN) (acc : List ju), acc.length + l.length ≤ 1000000000 → qi w l acc = some (acc ++ (l.filter fun f => kV f.kE w).map (·.ju))
 | [], acc, _ => by rw [qi]; simp
 | x :: l, acc, h => by
  rw [qi]
  simp only [aQ] at h
  by_cases a : kV x.kE w = true
  ·rw [bB a, mZ (by simp; omega) (by simp; omega)]
   simp only [aA]
   rw [Cq w l _ (by simp; omega)]
   simp [a]
  ·rw [bE a, Cq w l acc (by omega)]
   simp [a]
theorem QT {P : jN → Prop} {s t : List jN} (h : Bk P s) (b : ∀ f, P f → f ∈ t) : s.length ≤ t.length := mo (uQ HY (fun _ _ => rfl) h.1) (fun f a => b f ((h.2 f).1 a))
theorem Rk {C : List jv} {s : List jN} (h : Bk (oH C) s) (a : SM C) : s.length ≤ 900000000 := by
 have := QT h (t := GA C) (fun f b => b.GA)
 rw [DX] at this
 have := a.sq
 omega
theorem Of {C : List jv} {T : oN} {d : List (ju × List jv)} {ws : List (ByteArray × List jv)} {n : Int} (h : MS C T d ws n) (cs : List jv) (u : List (ju × List jv)) (w : List (ByteArray × List jv)) (a : List jN) (z : Int) (r : ju) (LN : ByteArray) :
  ∃ b, tM (mm T) cs u w a z r LN = some b ∧ (b = true ↔ oH C ⟨r, LN⟩) :=
 ⟨_, rfl, by rw [sZ h.EJ.keys, h.all]⟩
def qA : ju := ⟨⟨#[97]⟩, ⟨#[114]⟩⟩
def qB : ju := ⟨⟨#[98]⟩, ⟨#[115]⟩⟩
def qd : ByteArray := ⟨#[100]⟩
def j1 : jv := ⟨2, qA, zS, qB, ⟨zS, zS⟩, zS⟩
def j2 : jv := ⟨1, qB, qd, ⟨zS, zS⟩, ⟨zS, zS⟩, zS⟩
theorem xi.own {l : List jN} {c : jv} {names : List ByteArray} {w : ByteArray} (h : xi l c names w) : xi l c (l.map (·.kE)) w := by
 rcases h with h | h | h | ⟨d, g, i, b, _, a, j⟩
 ·exact .inl h
 ·exact .inr (.inl h)
 ·exact .inr (.inr (.inl h))
 ·exact .inr (.inr (.inr ⟨d, g, i, b, bJ.2 ⟨_, a, rfl⟩, a, j⟩))
theorem xi.subset {a b : List jN} {c : jv} {names : List ByteArray} {w : ByteArray} (h : xi a c names w) (d : ∀ f ∈ a, f ∈ b) : xi b c names w := by
 rcases h with h | h | h | ⟨i, j, k, g, l, m, n⟩
 ·exact .inl h
 ·exact .inr (.inl ⟨h.1, d _ h.2⟩)
 ·exact .inr (.inr (.inl ⟨h.1, d _ h.2.1, d _ h.2.2⟩))
 ·exact .inr (.inr (.inr ⟨i, j, k, g, l, d _ m, d _ n⟩))
def up (w : ByteArray) (g : ByteArray → Nat) : ByteArray → Nat := fun x => if kV w x = true then g x + 1 else g x
theorem NY (F : List jN) (w : ByteArray) (a : F.length ≤ 1000000000) : sK F w = some ((F.filter fun f => kV f.kE w).map (·.ju)) := by
 unfold sK
 rw [Cq w F [] (by simp; omega)]
 simp
def tot {α : Type} (a : List (List α)) : Nat := (a.map List.length).sum
instance UN : DecidableEq ju := fun a b => decidable_of_iff (jY a b = true) kc
def HI (F : List jN) (w : ByteArray) : List ju := (F.filter fun f => kV f.kE w).map (·.ju)
structure Sk (l : List jv) (F : List jN) : Prop where
 len : l.length ≤ 30000
 C : ∃ C : List jv, Bk (oH C) F ∧ (∀ c, c ∈ C ↔ c ∈ l ∧ lH c = true) ∧ SM C
 ref : vB l = some F
theorem Sv (l : List jv) (g : l.length ≤ 30000) : ∃ F, Sk l F := by
 obtain ⟨C, F, e, h1, h⟩ := Rw l g
 obtain ⟨C1, T, j, ws, n, i, m1, a, d⟩ := M8 l (by omega)
 have b : ∀ c, c ∈ C ↔ c ∈ C1 := fun c => by rw [h, a]
 exact ⟨F, g, ⟨C1, ⟨h1.1, fun f => (h1.2 f).trans (oH.congr b f)⟩, a, by unfold SM; omega⟩, e⟩
theorem Sk.UD {l : List jv} {F : List jN} (h : Sk l F) : F.length ≤ 900000000 := by
 obtain ⟨C, h1, b, a⟩ := h.C
 exact Rk h1 a
def B8 (l : List Int) : Prop := ∀ x ∈ l, 0 ≤ x ∧ x < 256
def NA : List ByteArray → List Key → Int
 | _, [] => 0
 | seen, k :: l => if nx k.kE = false then 30 else if k.Key.length < 1 ∨ 32 < k.Key.length then 21 else if qF kV seen k.kE = true then 41 else NA (seen ++ [k.kE]) l
def PA (l : List Key) : List (ByteArray × List Int) := l.map fun k => (k.kE, k.Key)
def Pw (l : List Key) (o : ByteArray) : Option (List Int) := lm kV (PA l) o
theorem R5 {l : List Int} (h : l.length ≤ 1000000) : ur l = some l := by
 unfold ur
 rw [Hf (by simpa using h)]; rfl
theorem MB : ∀ (l : List Key) (seen : List ByteArray), NA seen l = 0 → ∀ k ∈ l, 1 ≤ k.Key.length ∧ k.Key.length ≤ 32
 | [], _, _, _, hk => by cases hk
 | x :: l, seen, h, k, hk => by
  unfold NA at h
  split at h
  ·cases h
  split at h
  ·cases h
  split at h
  ·cases h
  rcases aR.1 hk with rfl | hk
  ·omega
  ·exact MB l _ h k hk
theorem G3 : ∀ (l : List Key) (o : ByteArray) (b : List Int), Pw l o = some b → ∃ k ∈ l, k.Key = b
 | [], o, b, h => by cases h
 | x :: l, o, b, h => by
  unfold Pw at h
  rw [show PA (x :: l) = (x.kE, x.Key) :: PA l from rfl, BY] at h
  split at h
  ·cases h; exact ⟨x, by simp, rfl⟩
  ·obtain ⟨k, hk, e⟩ := G3 l o b h
   exact ⟨k, by simp [hk], e⟩
def K8 (l : List Key) : Prop := ∀ k ∈ l, B8 k.Key
structure Mk (ks : List Key) (c : jv) (k : List Int) : Prop where
 ok : NA [] ks = 0
 rt : lH c = true
 lk : Pw ks c.Head.jw = some k
theorem Mk.len {ks : List Key} {c : jv} {k : List Int} (h : Mk ks c k) : 1 ≤ k.length ∧ k.length ≤ 32 := by
 obtain ⟨q, a, rfl⟩ := G3 _ _ _ h.lk
 exact MB ks [] h.ok q a
theorem Mk.b8 {ks : List Key} {c : jv} {k : List Int} (h : Mk ks c k) (hk : K8 ks) : B8 k := by
 obtain ⟨q, a, rfl⟩ := G3 _ _ _ h.lk
 exact hk q a
theorem Mk.unique {ks : List Key} {c : jv} {k k' : List Int} (h : Mk ks c k) (a : Mk ks c k') : k = k' := by
 have := h.lk; rw [a.lk] at this; cases this; rfl
mutual
def zf : Formula → List Int
 | ⟨o, k, r, ks⟩ => o :: (if o = 1 then rU r else (if o = 4 then [k] else []) ++ ((ks.length : Int) :: bytesFL ks))
def bytesFL : List Formula → List Int
 | [] => []
 | k :: ks => zf k ++ bytesFL ks
end
theorem I1 (f : Formula) : zf f = f.Op :: (if f.Op = 1 then rU f.ju else (if f.Op = 4 then [f.K] else []) ++ ((f.Kids.length : Int) :: bytesFL f.Kids)) := by cases f; rw [zf]
theorem xR {f : Formula} (h : tf f = true) : f.Kids.length ≤ 8 ∧ wellL f.Kids = true ∧ ((f.Op = 1 ∧ ma f.ju = true ∧ f.Kids = [] ∧ f.K = 0) ∨ ((f.Op = 2 ∨ f.Op = 3) ∧ f.ju = px ∧ f.K = 0) ∨ (f.Op = 4 ∧ f.ju = px ∧ 0 ≤ f.K ∧ f.K ≤ (f.Kids.length : Int) ∧ 1 ≤ f.Kids.length)) := by
 rw [G8] at h
 simp only [bo, bO] at h
 obtain ⟨⟨h1, a⟩, b⟩ := h
 refine ⟨a, b, ?_⟩
 unfold DY at h1
 split at h1
 ·rename_i c
  simp only [bo, bO] at h1
  exact .inl ⟨c, h1.1.1, aV h1.1.2, h1.2⟩
 ·split at h1
  ·rename_i c
   simp only [bo, bO, kc] at h1
   exact .inr (.inl ⟨c, h1.1, h1.2⟩)
  ·simp only [bo, bO, kc] at h1
   exact .inr (.inr ⟨h1.1.1.1.1, h1.1.1.1.2, h1.1.1.2, h1.1.2, h1.2⟩)
theorem N3 : ∀ (n : Nat) (f : Formula), nI f ≤ n → tf f = true → ∀ l : List Int, l.length + 40 * kB f ≤ 8000 → pI n l f = some (l ++ zf f) ∧ (zf f).length ≤ 40 * kB f := by
 intro n
 induction n with
 | zero => intro f h; rw [mK] at h; omega
 | succ n ih =>
  intro f w hw l u
  rw [mK] at w
  have x := nR f
  obtain ⟨h1, t, m⟩ := xR hw
  rw [pI]
  unfold vK
  have d : 0 ≤ f.Op ∧ f.Op < 128 := by rcases m with h | h | h <;> omega
  rw [yI d.1 d.2 (by omega), aA, I1]
  have key : ∀ (ks : List Formula), (∀ k ∈ ks, k ∈ f.Kids) → wellL ks = true → ∀ l : List Int, l.length + 40 * nodesL ks ≤ 8000 → qn (pI n) ks l = some (l ++ bytesFL ks) ∧ (bytesFL ks).length ≤ 40 * nodesL ks := by
   intro ks
   induction ks with
   | nil => intro _ _ l _; rw [qn, bytesFL]; simp
   | cons k ks p =>
    intro hk a l u
    rw [wellL, bo] at a
    rw [nodesL] at u
    obtain ⟨i, A⟩ := ih k (by have := qK (hk k (by simp)); omega) a.1 l (by omega)
    obtain ⟨b, j⟩ := p (fun z y => hk z (by simp [y])) a.2 (l ++ zf k) (by simp; omega)
    rw [qn, i, aA, b, bytesFL, nodesL]
    exact ⟨by simp, by simp; omega⟩
  have hlen : 0 ≤ (f.Kids.length : Int) ∧ (f.Kids.length : Int) < 128 := by omega
  by_cases c1 : f.Op = 1
  ·have v : ma f.ju = true := by rcases m with h | h | h; exact h.2.1; omega; omega
   have := ow v
   simp only [c1, aZ, aU]
   rw [KV v (by simp; omega), aA]
   exact ⟨by simp, by simp; omega⟩
  ·have i : (f.Op == 1) = false := by simpa using c1
   simp only [i, aC, aK, c1]
   by_cases g : f.Op = 4
   ·have hk : 0 ≤ f.K ∧ f.K < 128 := by rcases m with h | h | h <;> omega
    simp only [g, aZ, aU]
    rw [yI hk.1 hk.2 (by simp; omega)]
    simp only [aA]
    rw [yI hlen.1 hlen.2 (by simp; omega)]
    simp only [aA]
    obtain ⟨b, j⟩ := key f.Kids (fun k hk => hk) t (l ++ [4] ++ [f.K] ++ [(f.Kids.length : Int)]) (by simp; omega)
    rw [b]
    exact ⟨by simp, by simp; omega⟩
   ·have j : (f.Op == 4) = false := by simpa using g
    simp only [j, aC, aK, g, aA]
    rw [yI hlen.1 hlen.2 (by simp; omega)]
    simp only [aA]
    obtain ⟨b, E⟩ := key f.Kids (fun k hk => hk) t (l ++ [f.Op] ++ [(f.Kids.length : Int)]) (by simp; omega)
    rw [b]
    exact ⟨by simp, by simp; omega⟩
def yK (f : Formula) : List Int := if nn f then zf f else []
abbrev Gd (f : Formula) : Prop := kB f ≤ 50000000
theorem zT {f : Formula} (h : nn f = true) : kB f ≤ 64 ∧ nI f ≤ 6 ∧ tf f = true := by
 unfold nn at h
 simp only [bo, bO] at h
 exact ⟨h.1.1, h.1.2, h.2⟩
theorem RQ (f : Formula) (d : Gd f) (l : List Int) (j : l.length ≤ 5000) : wE l f = some (nn f, l ++ yK f) ∧ (yK f).length ≤ 2560 := by
 unfold wE yK
 rw [Eb f d, aA]
 cases h : nn f
 ·simp
 ·obtain ⟨h1, i, b⟩ := zT h
  obtain ⟨a, g⟩ := N3 ki f (by rw [mn]; omega) b l (by omega)
  simp only [cJ, aC, aK, a, aA, aU]
  exact ⟨trivial, by omega⟩
theorem Ih (f : Formula) (b : Gd f) : sX f = some (yK f) := by
 unfold sX
 obtain ⟨a, d⟩ := RQ f b [] (by simp)
 rw [a, aA, oC]
 unfold tO
 simp only [bH]
 rw [R5 (by omega)]
 rfl
def BM (f g : Formula) : Int := yB (yK f) (yK g)
theorem NI (f g : Formula) (a : Gd f) (b : Gd g) : sU f g = some (BM f g) := by
 unfold sU wK
 rw [Ih f a, Ih g b]
 rfl
theorem Be (f g : Formula) : nv BM f g = Op.bytesLess (ud (yK f)) (ud (yK g)) := by
 rw [bQ]
 have h : nv BM f g = true ↔ BM f g < 0 := by unfold nv; exact decide_eq_true_iff
 exact h.trans (Dk _ _)
theorem IY : SWO (nv BM) where
 Qn x := by rw [Be, vy]
 tr x y z h1 a := by rw [Be] at *; exact yv _ _ _ h1 a
 NZ x y z h := by
  rw [Be] at h
  rw [Be, Be]
  rcases Bo (ud (yK x)) (ud (yK y)) with h1 | h1 | h1
  ·exact .inl h1
  ·rw [h1] at h; exact .inr h
  ·exact .inr (yv _ _ _ h1 h)
def vg (l : List Formula) : List Formula := KS (nv BM) l
theorem JR (l : List Formula) (a : ∀ x ∈ l, Gd x) (b : l.length ≤ 300000) : vq l = some (vg l) := by
 unfold vq rO
 rw [mZ (by simp; omega) (by simp; omega)]
 simp only [aA, bH, oC]
 exact MW IY (fun x y d g => NI x y d g) l a b
theorem NO {α : Type} (lt : α → α → Bool) (l : List α) (k : α) : (BI lt l k).Perm (l ++ [k]) := by
 unfold BI
 refine List.perm_middle.trans ((List.Perm.cons _ ?_).trans (fG k l).symm)
 have := List.filter_append_perm (fun x => !lt k x) l
 simpa using this
theorem NP {α : Type} (lt : α → α → Bool) (l : List α) : (KS lt l).Perm l := by
 suffices H : ∀ (l a : List α), (l.foldl (BI lt) a).Perm (a ++ l) by have := H l []; rwa [bH] at this
 intro l
 induction l with
 | nil => intro a; simp
 | cons k l ih =>
  intro a
  rw [fX]
  refine (ih _).trans ?_
  have := (NO lt a k).append_right l
  simpa using this
theorem yM (l : List Formula) : (vg l).Perm l := NP _ l
noncomputable def qf (a b : Formula) : Bool := @decide (a = b) (Classical.propDecidable _)
theorem Bb {a b : Formula} : qf a b = true ↔ a = b := by unfold qf; simp
theorem Q4 (a b : Formula) (h : Gd a) : nE ki a b = some (qf a b) := by
 have := wu a
 obtain ⟨x, e, d⟩ := QZ ki a (by rw [mn]; omega) b
 rw [e]; congr 1
 rw [bQ, d, Bb]
def Ue : Formula := ⟨0, 0, ⟨zS, zS⟩, []⟩
theorem Px (f1 : Formula × Formula → Option Bool) (i : Int) : ∀ (n : Nat) (l : List Formula) (k j : Int), (∀ x ∈ l, ∀ y ∈ l, f1 (x, y) = some (qf x y)) → mJ i f1 n l k j = BP qf i n l k j
 | 0, l, k, j, _ => by rw [mJ, BP]
 | n + 1, l, k, j, h => by
  rw [mJ, BP]
  split
  ·cases g : lG (l.drop (Int.toNat i)) j with
   | none => rfl
   | some x =>
    cases p : lG (l.drop (Int.toNat i)) (wi0 .i64 (j - 1)) with
    | none => rfl
    | some y =>
     have d : x ∈ l := List.mem_of_mem_drop (cY (kv g))
     have u : y ∈ l := List.mem_of_mem_drop (cY (kv p))
     simp only [aA, h x d y u]
     cases qf x y
     ·simp only [dp, aU]
      cases v : lG l k with
      | none => rfl
      | some z =>
       simp only [aA]
       refine Px f1 i n _ _ _ (fun a ha b t => ?_)
       have m : ∀ a ∈ l.set (Int.toNat k) x, a ∈ l := fun a ha => by
        rcases List.mem_or_eq_of_mem_set ha with ha | rfl
        ·exact ha
        ·exact d
       exact h a (m a ha) b (m b t)
     ·simp only [cJ, aC, aK, aA]
      exact Px f1 i n _ _ _ h
  ·rfl
theorem SX (f1 : Formula × Formula → Option Bool) (l : List Formula) (h : ∀ x ∈ l, ∀ y ∈ l, f1 (x, y) = some (qf x y)) : ∀ (n : Nat) (i : Int), mH l f1 n i = Cs qf Ue l n i
 | 0, i => by rw [mH, Cs]
 | n + 1, i => by
  rw [mH, Cs]
  split
  ·cases a : lG l i with
   | none => rfl
   | some x =>
    cases b : lG l (wi0 .i64 (i - 1)) with
    | none => rfl
    | some y =>
     have d : x ∈ l := cY (kv a)
     have g : y ∈ l := cY (kv b)
     simp only [aA, h x d y g]
     rw [Px f1 i ki l i 1 h, SX f1 l h n]
     rfl
  ·rfl
theorem Nn (l : List Formula) (h : ∀ x ∈ l, Gd x) (b : l.length ≤ 300000) : po l (fun x => nE ki x.1 x.2) = some (dd qf l) := by
 rw [← Lc qf Ue l (by omega)]
 unfold po Kn
 rw [SX _ l (fun x a y _ => Q4 x y (h x a))]
def lz (op : Int) (f : Formula) : Bool := decide (f.Op = op) && f.Kids.isEmpty
theorem DZ (f : Formula) (op : Int) : tw f op = some (lz op f) := by
 unfold tw lz
 rw [oC]
 by_cases h : f.Op = op
 ·simp only [h, aZ, aU, cA, dW]
  congr 1
  cases hk : f.Kids with
  | nil => rfl
  | cons a l => simp; omega
 ·have e : (f.Op == op) = false := by simpa using h
  simp [e, h]
def nK (op : Int) : List Formula → List Formula
 | [] => []
 | k :: ks => (if k.Op = op then k.Kids else [k]) ++ nK op ks
theorem DP (op : Int) : ∀ ks : List Formula, nodesL (nK op ks) ≤ nodesL ks
 | [] => aX _
 | k :: ks => by
  have ih := DP op ks
  have e : ∀ a b : List Formula, nodesL (a ++ b) = nodesL a + nodesL b := by
   intro a b
   induction a with
   | nil => rw [bH, nodesL]; omega
   | cons x a d => rw [bU, nodesL, nodesL, d]; omega
  have := nR k
  rw [nK, e, nodesL]
  split
  ·omega
  ·rw [nodesL, nodesL]; omega
theorem IM (op : Int) : ∀ (ks acc : List Formula), acc.length + nodesL ks ≤ 100000000 → qm op ks acc = some (acc ++ nK op ks)
 | [], acc, _ => by rw [qm, nK, bI]
 | k :: ks, acc, h => by
  rw [nodesL] at h
  have h1 := nR k
  have a := pF k.Kids
  rw [qm, nK]
  by_cases c : k.Op = op
  ·simp only [c, aZ, aU]
   rw [mZ (by omega) (by omega), aA, IM op ks _ (by simp; omega), aM]
  ·have e : (k.Op == op) = false := by simpa using c
   simp only [e, aC, aK, c]
   rw [mZ (by simp; omega) (by simp; omega), aA, IM op ks _ (by simp; omega), aM]
noncomputable def oP (op : Int) (ks : List Formula) : Formula :=
 if (nK op ks).any (lz (5 - op)) then ⟨5 - op, 0, px, []⟩ else
  match dd qf (vg (nK op ks)) with
  | [x] => x
  | r => ⟨op, 0, px, r⟩
theorem KT {α : Type} (eq : α → α → Bool) (l : List α) : (dd eq l).length ≤ l.length := by
 cases l with
 | nil => exact aX _
 | cons x l =>
  have : ∀ (l : List α) (x : α), (mU eq x l).length ≤ l.length := by
   intro l
   induction l with
   | nil => intro x; exact aX _
   | cons y l ih => intro x; rw [mU]; have := ih y; have := ih x; split <;> simp <;> omega
  have := this l x
  rw [dd, aQ, aQ]; omega
theorem Fq (s : kJ) (op : Int) (g : op = 2 ∨ op = 3) (ks : List Formula) (h : nodesL ks ≤ 64) : oa s op ks = some (oP op ks, s) := by
 have h1 := DP op ks
 have i := pF (nK op ks)
 have b : ∀ x ∈ nK op ks, Gd x := fun x a => by have := tk a; unfold Gd; omega
 have hw : wi0 .i64 (5 - op) = 5 - op := kO (by omega) (by omega)
 unfold oa AJ oP
 rw [IM op ks [] (by simp; omega), aA, bH, hw, Gq _ (lz (5 - op)) _ (fun x _ => by unfold qx; rw [DZ, oC]), aA]
 cases j : (nK op ks).any (lz (5 - op))
 ·simp only [aC, aK]
  have hp := yM (nK op ks)
  have l := hp.length_eq
  rw [JR _ b (by omega), aA, Nn _ (fun x a => b x (hp.mem_iff.1 a)) (by omega), aA]
  have k := KT qf (vg (nK op ks))
  have d : ¬ (((dd qf (vg (nK op ks))).length : Int) > 64) := by omega
  simp only [d, cD, aC, aK, aA]
  generalize dd qf (vg (nK op ks)) = r
  match r with
  | [] => rfl
  | [x] => rfl
  | x :: y :: r =>
   have : (((x :: y :: r).length : Int) == 1) = false := by simp; omega
   simp only [this, aC, aK]
   rfl
 ·rfl
noncomputable def sS (k : Int) (ks : List Formula) : Formula :=
 let n := k - ((ks.filter (lz 2)).length : Int)
 let l := ks.filter fun x => !lz 2 x && !lz 3 x
 if n ≤ 0 then ⟨2, 0, px, []⟩ else if n > (l.length : Int) then ⟨3, 0, px, []⟩ else if n = (l.length : Int) then oP 2 l else if n = 1 then oP 3 l else ⟨4, n, px, vg l⟩
theorem zk (p : Formula → Bool) : ∀ ks : List Formula, nodesL (ks.filter p) ≤ nodesL ks
 | [] => aX _
 | k :: ks => by
  have := zk p ks
  rw [dL]
  split
  ·rw [nodesL, nodesL]; omega
  ·rw [nodesL]; omega
theorem AX (s : kJ) : ∀ (ks acc : List Formula) (k : Int), -1000 ≤ k - (ks.length : Int) → k ≤ 1000 → acc.length + ks.length ≤ 1000 → nodesL (acc ++ ks.filter fun x => !lz 2 x && !lz 3 x) ≤ 64 →
  mD s ks k acc = some (let n := k - ((ks.filter (lz 2)).length : Int); let l := acc ++ ks.filter fun x => !lz 2 x && !lz 3 x; if n ≤ 0 then ⟨2, 0, px, []⟩ else if n > (l.length : Int) then ⟨3, 0, px, []⟩ else if n = (l.length : Int) then oP 2 l else if n = 1 then oP 3 l else ⟨4, n, px, vg l⟩, s)
 | [], acc, k, h1, g, h, a => by
  simp only [gP, bI, bV] at a ⊢
  rw [mD]
  simp only [Int.ofNat_zero, Int.sub_zero, zg, zO, aA, Int.natCast_zero]
  have p := pF acc
  by_cases c1 : k ≤ 0
  ·simp only [c1, cA, aU]; rfl
  ·simp only [c1, cD, aC, aK]
   by_cases c2 : k > (acc.length : Int)
   ·simp only [c2, cA, aU]; rfl
   ·simp only [c2, cD, aC, aK]
    by_cases b : k = (acc.length : Int)
    ·simp only [← b, aZ, aU]
     rw [Fq s 2 (.inl rfl) acc a, aA]
    ·have i : (k == (acc.length : Int)) = false := by simpa using b
     simp only [i, aC, aK, b]
     by_cases d : k = 1
     ·simp only [d, aZ, aU]
      rw [Fq s 3 (.inr rfl) acc a, aA]
     ·have j : (k == 1) = false := by simpa using d
      simp only [j, aC, aK, d]
      rw [JR acc (fun x m => by have := tk m; unfold Gd; omega) (by omega)]
      rfl
 | x :: ks, acc, k, h1, g, h, a => by
  simp only [aQ] at h1 h
  rw [mD, DZ, aA, DZ, aA]
  rw [dL, dL] at *
  cases c2 : lz 2 x
  ·cases b : lz 3 x
   ·simp only [c2, b, dp, iR, aC, aK, aU] at a ⊢
    rw [mZ (by simp; omega) (by simp; omega), aA, AX s ks _ k (by omega) g (by simp; omega) (by rw [aM]; exact a)]
    simp only [aM, bU, bH]
   ·simp only [c2, b, dp, cJ, iB, aC, aK] at a ⊢
    rw [AX s ks _ k (by omega) g (by omega) a]
  ·simp only [c2, cJ, fe, aC, aK, aU] at a ⊢
   rw [kO (by omega) (by omega), AX s ks _ (k - 1) (by omega) (by omega) (by omega) a]
   simp only [aQ]
   have e : k - 1 - ((ks.filter (lz 2)).length : Int) = k - (((ks.filter (lz 2)).length + 1 : Nat) : Int) := by omega
   rw [e]
theorem Nu (s : kJ) (k : Int) (hk : 0 ≤ k ∧ k ≤ 1000) (ks : List Formula) (h : nodesL ks ≤ 64) : qy s k ks = some (sS k ks, s) := by
 have := pF ks
 have := zk (fun x => !lz 2 x && !lz 3 x) ks
 unfold qy sS
 rw [AX s ks [] k (by omega) (by omega) (by simp; omega) (by simpa using by omega)]
 rfl
mutual
noncomputable def py : Formula → Formula
 | ⟨o, k, r, ks⟩ => if o = 1 then ⟨o, k, r, ks⟩ else if o = 4 then sS k (shapeL ks) else oP o (shapeL ks)
noncomputable def shapeL : List Formula → List Formula
 | [] => []
 | k :: ks => py k :: shapeL ks
end
theorem Aw (f : Formula) : py f = if f.Op = 1 then f else if f.Op = 4 then sS f.K (shapeL f.Kids) else oP f.Op (shapeL f.Kids) := by cases f; rw [py]
theorem Gt {a b : List Formula} (h : a.Perm b) : nodesL a = nodesL b := by
 induction h with
 | nil => rfl
 | cons x _ ih => rw [nodesL, nodesL, ih]
 | swap x y l => rw [nodesL, nodesL, nodesL, nodesL]; omega
 | trans _ _ h1 d => rw [h1, d]
theorem Ea (eq : Formula → Formula → Bool) : ∀ (l : List Formula) (x : Formula), nodesL (mU eq x l) ≤ nodesL l
 | [], x => aX _
 | y :: l, x => by
  have h1 := Ea eq l y
  have a := Ea eq l x
  rw [mU]
  split
  ·rw [nodesL]; omega
  ·rw [nodesL, nodesL]; omega
theorem Ph (eq : Formula → Formula → Bool) (l : List Formula) : nodesL (dd eq l) ≤ nodesL l := by
 cases l with
 | nil => exact aX _
 | cons x l => have := Ea eq l x; rw [dd, nodesL, nodesL]; omega
theorem BE (op : Int) (ks : List Formula) : kB (oP op ks) ≤ 1 + nodesL ks := by
 unfold oP
 split
 ·rw [kB, nodesL]; omega
 ·have h1 := Ph qf (vg (nK op ks))
  have a := Gt (yM (nK op ks))
  have b := DP op ks
  generalize dd qf (vg (nK op ks)) = r at *
  split
  ·rename_i x
   rw [nodesL, nodesL] at h1; omega
  ·rw [kB]; omega
theorem JD (k : Int) (ks : List Formula) : kB (sS k ks) ≤ 1 + nodesL ks := by
 have h := zk (fun x => !lz 2 x && !lz 3 x) ks
 unfold sS
 simp only
 generalize ks.filter (fun x => !lz 2 x && !lz 3 x) = l at *
 generalize k - ((ks.filter (lz 2)).length : Int) = n
 split
 ·rw [kB, nodesL]; omega
 ·split
  ·rw [kB, nodesL]; omega
  ·split
   ·have := BE 2 l; omega
   ·split
    ·have := BE 3 l; omega
    ·have := Gt (yM l); rw [kB]; omega
theorem Aj : ∀ f : Formula, kB (py f) ≤ kB f := by
 refine JY fun f ih => ?_
 have h : ∀ ks : List Formula, (∀ k ∈ ks, kB (py k) ≤ kB k) → nodesL (shapeL ks) ≤ nodesL ks := by
  intro ks
  induction ks with
  | nil => intro _; rw [shapeL]; exact aX _
  | cons k ks a =>
   intro h
   have := a (fun x b => h x (by simp [b]))
   have := h k (by simp)
   rw [shapeL, nodesL, nodesL]; omega
 have h := h f.Kids ih
 rw [Aw, nR f]
 split
 ·rw [nR]; omega
 ·split
  ·have := JD f.K (shapeL f.Kids); omega
  ·have := BE f.Op (shapeL f.Kids); omega
theorem EN (ks : List Formula) : nodesL (shapeL ks) ≤ nodesL ks := by
 induction ks with
 | nil => rw [shapeL]; exact aX _
 | cons k ks ih => have := Aj k; rw [shapeL, nodesL, nodesL]; omega
theorem PM : ∀ (n : Nat) (f : Formula), nI f ≤ n → kB f ≤ 64 → tf f = true → ∀ s : kJ, nh n s f = some (py f, s) := by
 intro n
 induction n with
 | zero => intro f h; rw [mK] at h; omega
 | succ n ih =>
  intro f u x hw s
  rw [mK] at u
  have v := nR f
  obtain ⟨h1, t, l⟩ := xR hw
  rw [nh]
  unfold rK
  rw [Aw]
  by_cases c1 : f.Op = 1
  ·simp only [c1, aZ, aU]
  ·have m : (f.Op == 1) = false := by simpa using c1
   simp only [m, aC, aK, c1]
   have key : ∀ (ks acc : List Formula), (∀ k ∈ ks, k ∈ f.Kids) → wellL ks = true → nodesL (acc ++ shapeL ks) ≤ 64 → nodesL ks ≤ 64 → nG (nh n) f ks acc s = some (if f.Op = 4 then sS f.K (acc ++ shapeL ks) else oP f.Op (acc ++ shapeL ks), s) := by
    intro ks
    induction ks with
    | nil =>
     intro acc _ _ d _
     rw [shapeL, bI] at *
     rw [nG]
     by_cases g : f.Op = 4
     ·simp only [g, aZ, aU]
      rw [Nu s f.K (by rcases l with h | h | h <;> omega) acc d, aA]
     ·have p : (f.Op == 4) = false := by simpa using g
      simp only [p, aC, aK, g]
      rw [Fq s f.Op (by rcases l with h | h | h <;> omega) acc d, aA]
    | cons k ks j =>
     intro acc hk a d i
     rw [wellL, bo] at a
     rw [nodesL] at i
     rw [shapeL] at d
     have b := pF (acc ++ py k :: shapeL ks)
     simp only [aF, aQ] at b
     rw [nG, ih k (by have := qK (hk k (by simp)); omega) (by omega) a.1 s, aA, mZ (by simp; omega) (by simp; omega), aA,
      j (acc ++ [py k]) (fun z w => hk z (by simp [w])) a.2 (by rw [aM]; exact d) (by omega), shapeL]
     simp only [aM, bU, bH]
   have := EN f.Kids
   have := key f.Kids [] (fun k hk => hk) t (by simpa using by omega) (by omega)
   simpa using this
def GB : Formula := ⟨0, 0, px, []⟩
noncomputable def xz (f : Formula) : Formula × Int := if nn f then (if nn (py f) then (py f, 0) else (GB, 12)) else (GB, 11)
theorem LY (f : Formula) (h : Gd f) : yb f = some (xz f) := by
 unfold yb xz
 rw [Eb f h, aA]
 cases b : nn f
 ·rfl
 ·obtain ⟨h1, d, a⟩ := zT b
  have g := Aj f
  simp only [cJ, aC, aK, aU]
  rw [PM ki f (by rw [mn]; omega) h1 a, aA, Eb (py f) (by omega)]
  have e : (((⟨0⟩ : kJ).e) != 0) = false := rfl
  simp only [e, aC, aK, aA]
  cases nn (py f) <;> rfl
theorem yJ {f : Formula} : kB (xz f).1 ≤ 64 := by
 unfold xz
 cases h : nn f
 ·exact by simp only [aC, aK, GB]; rw [kB, nodesL]; omega
 ·obtain ⟨h1, a, b⟩ := zT h
  have := Aj f
  simp only [aU]
  split
  ·show kB (py f) ≤ 64; omega
  ·rw [GB, kB, nodesL]; omega
theorem Rx (f g : Formula) (a : kB f ≤ 10000000) (b : kB g ≤ 10000000) : yj f g = some (xz ⟨2, 0, px, [f, g]⟩) := by
 unfold yj
 have := LY ⟨2, 0, px, [f, g]⟩ (by show kB _ ≤ _; rw [kB, nodesL, nodesL, nodesL]; omega)
 rw [show (⟨2, 0, (⟨zS, zS⟩ : ju), [f, g]⟩ : Formula) = ⟨2, 0, px, [f, g]⟩ from rfl, this]
 rfl
mutual
def ph (v : ju → Bool) : Formula → Bool
 | ⟨o, k, r, ks⟩ => if o = 1 then v r else if o = 2 then decide (evN v ks = ks.length) else if o = 3 then decide (0 < evN v ks) else decide (k ≤ (evN v ks : Int))
def evN (v : ju → Bool) : List Formula → Nat
 | [] => 0
 | k :: ks => (if ph v k then 1 else 0) + evN v ks
end
theorem vY (v : ju → Bool) (f : Formula) : ph v f = if f.Op = 1 then v f.ju else if f.Op = 2 then decide (evN v f.Kids = f.Kids.length) else if f.Op = 3 then decide (0 < evN v f.Kids) else decide (f.K ≤ (evN v f.Kids : Int)) := by cases f; rw [ph]
theorem HN (v : ju → Bool) : ∀ ks : List Formula, evN v ks ≤ ks.length
 | [] => by rw [evN]; exact aX _
 | k :: ks => by have := HN v ks; rw [evN, aQ]; split <;> omega
theorem Iq (v : ju → Bool) : ∀ ks : List Formula, evN v ks = ks.length ↔ ∀ k ∈ ks, ph v k = true
 | [] => by rw [evN]; simp
 | k :: ks => by
  have h1 := HN v ks
  have a := Iq v ks
  rw [evN, aQ]
  simp only [gL, ← a]
  cases ph v k <;> simp <;> omega
theorem It (v : ju → Bool) : ∀ ks : List Formula, 0 < evN v ks ↔ ∃ k ∈ ks, ph v k = true
 | [] => by rw [evN]; simp
 | k :: ks => by
  have a := It v ks
  rw [evN]
  simp only [aR, exists_eq_or_imp, ← a]
  cases ph v k <;> simp <;> omega
theorem HX (v : ju → Bool) (ks : List Formula) : evN v ks = (ks.filter (ph v)).length := by
 induction ks with
 | nil => rw [evN]; rfl
 | cons k ks ih => rw [evN, ih, dL]; cases ph v k <;> simp <;> omega
theorem P4 (v : ju → Bool) {a b : List Formula} (h : a.Perm b) : evN v a = evN v b := by
 rw [HX, HX]; exact (h.filter _).length_eq
theorem Rs {v w : ju → Bool} (h : ∀ r, v r = true → w r = true) : ∀ f : Formula, ph v f = true → ph w f = true := by
 refine JY fun f ih => ?_
 have key : evN v f.Kids ≤ evN w f.Kids := by
  have : ∀ ks : List Formula, (∀ k ∈ ks, ph v k = true → ph w k = true) → evN v ks ≤ evN w ks := by
   intro ks
   induction ks with
   | nil => intro _; rw [evN, evN]; exact aX _
   | cons k ks a =>
    intro hk
    have h1 := a (fun x g => hk x (by simp [g]))
    have b := hk k (by simp)
    rw [evN, evN]
    cases d : ph v k
    ·simp; omega
    ·rw [b d]; simp; omega
  exact this _ ih
 have hle := HN w f.Kids
 rw [vY, vY]
 split
 ·exact h _
 ·split
  ·simp only [bO]; omega
  ·split
   ·simp only [bO]; omega
   ·simp only [bO]; omega
theorem EQ (v : ju → Bool) (f1 : ju → Option Bool) (rec : Formula → (ju → Option Bool) → Option Bool) (f : Formula) : ∀ (ks : List Formula) (x : Nat), (∀ k ∈ ks, rec k f1 = some (ph v k)) → x + ks.length ≤ 100000000 →
  oZ rec f1 f ks (x : Int) = some (if f.Op = 2 then decide (x + evN v ks = f.Kids.length) else if f.Op = 3 then decide (0 < x + evN v ks) else decide (f.K ≤ ((x + evN v ks : Nat) : Int)))
 | [], x, _, _ => by
  rw [oZ, evN, gl]
  by_cases c2 : f.Op = 2
  ·simp only [c2, aZ, aU]
   congr 1
   rw [bQ, ga, bO]; omega
  ·have b : (f.Op == 2) = false := by simpa using c2
   simp only [b, aC, aK, c2]
   by_cases a : f.Op = 3
   ·simp only [a, aZ, aU]
    congr 1
    rw [bQ, bO, bO]; omega
   ·have g : (f.Op == 3) = false := by simpa using a
    simp only [g, aC, aK, a]
 | k :: ks, x, h, i => by
  rw [aQ] at i
  rw [oZ, h k (by simp), aA, evN]
  cases ph v k
  ·simp only [aC, aK]
   rw [EQ v f1 rec f ks x (fun z d => h z (by simp [d])) (by omega), ew]
  ·simp only [aU]
   have e : wi0 .i64 ((x : Int) + 1) = ((x + 1 : Nat) : Int) := by rw [kO (by omega) (by omega)]; omega
   rw [e, EQ v f1 rec f ks (x + 1) (fun z d => h z (by simp [d])) (by omega)]
   have b : x + 1 + evN v ks = x + (1 + evN v ks) := by omega
   rw [b]
theorem N9 (v : ju → Bool) (f1 : ju → Option Bool) (i : ∀ r, f1 r = some (v r)) : ∀ (n : Nat) (f : Formula), nI f ≤ n → Gd f → pK n f f1 = some (ph v f) := by
 intro n
 induction n with
 | zero => intro f h; rw [mK] at h; omega
 | succ n ih =>
  intro f b d
  rw [mK] at b
  have g := nR f
  have j := pF f.Kids
  unfold Gd at d
  rw [pK]
  unfold vG
  rw [vY]
  by_cases c1 : f.Op = 1
  ·simp only [c1, aZ, aU, i, aA]
  ·have a : (f.Op == 1) = false := by simpa using c1
   simp only [a, aC, aK, c1]
   have := EQ v f1 (pK n) f f.Kids 0 (fun k hk => ih k (by have := qK hk; omega) (by have := tk hk; unfold Gd; omega)) (by omega)
   simpa using this
def vA (v : ju → Bool) (f : Formula) : Bool := nn f && ph v f
theorem MN (v : ju → Bool) (f1 : ju → Option Bool) (a : ∀ r, f1 r = some (v r)) (f : Formula) (h : Gd f) : vp f f1 = some (vA v f) := by
 unfold vp vA
 rw [Eb f h, aA]
 have := wu f
 cases nn f
 ·rfl
 ·unfold Gd at h
  simp only [aU, N9 v f1 a ki f (by rw [mn]; omega) h, aA, dW]
theorem HE (op : Int) (f : Formula) : lz op f = true ↔ f.Op = op ∧ f.Kids = [] := by
 unfold lz; simp
theorem I4 (v : ju → Bool) {f : Formula} (h : lz 2 f = true) : ph v f = true := by
 obtain ⟨h1, a⟩ := (HE 2 f).1 h
 rw [vY, h1, a, evN]; rfl
theorem Jf (v : ju → Bool) {f : Formula} (h : lz 3 f = true) : ph v f = false := by
 obtain ⟨h1, a⟩ := (HE 3 f).1 h
 rw [vY, h1, a, evN]; rfl
def tW (v : ju → Bool) (ks : List Formula) : Bool := ks.all (ph v)
def uE (v : ju → Bool) (ks : List Formula) : Bool := ks.any (ph v)
theorem LV (v : ju → Bool) (k : Int) (r : ju) (ks : List Formula) : ph v ⟨2, k, r, ks⟩ = tW v ks := by
 rw [vY, bQ]; simp [tW, Iq]
theorem OJ (v : ju → Bool) (k : Int) (r : ju) (ks : List Formula) : ph v ⟨3, k, r, ks⟩ = uE v ks := by
 rw [vY, bQ]; simp [uE, It]
theorem J4 (v : ju → Bool) : ∀ ks : List Formula, tW v (nK 2 ks) = tW v ks
 | [] => rfl
 | k :: ks => by
  have ih := J4 v ks
  unfold tW at ih ⊢
  rw [nK, List.all_append, ih, fV]
  congr 1
  split
  ·rename_i h
   obtain ⟨o, n, r, l⟩ := k
   simp only at h; subst h
   exact (LV v n r l).symm
  ·simp
theorem JW (v : ju → Bool) : ∀ ks : List Formula, uE v (nK 3 ks) = uE v ks
 | [] => rfl
 | k :: ks => by
  have ih := JW v ks
  unfold uE at ih ⊢
  rw [nK, List.any_append, ih, fW]
  congr 1
  split
  ·rename_i h
   obtain ⟨o, n, r, l⟩ := k
   simp only at h; subst h
   exact (OJ v n r l).symm
  ·simp
theorem Od (l : List Formula) (x : Formula) : x ∈ dd qf (vg l) ↔ x ∈ l := by
 rw [Kl (fun _ _ => Bb), (yM l).mem_iff]
theorem OA {v : ju → Bool} {a b : List Formula} (h : ∀ x, x ∈ a ↔ x ∈ b) : tW v a = tW v b := by
 unfold tW; rw [bQ, ed, ed]
 exact ⟨fun q x d => q x ((h x).2 d), fun q x d => q x ((h x).1 d)⟩
theorem Oj {v : ju → Bool} {a b : List Formula} (h : ∀ x, x ∈ a ↔ x ∈ b) : uE v a = uE v b := by
 unfold uE; rw [bQ, ef, ef]
 exact ⟨fun ⟨x, d, q⟩ => ⟨x, (h x).1 d, q⟩, fun ⟨x, d, q⟩ => ⟨x, (h x).2 d, q⟩⟩
theorem H3 (v : ju → Bool) (ks : List Formula) : ph v (oP 2 ks) = tW v ks := by
 rw [← J4]
 unfold oP
 split
 ·rename_i h
  rw [show (5 - 2 : Int) = 3 from rfl, OJ]
  obtain ⟨x, a, he⟩ := ef.1 h
  have : tW v (nK 2 ks) = false := by
   unfold tW; rw [List.all_eq_false]; exact ⟨x, a, by rw [Jf v he]; simp⟩
  rw [this]; rfl
 ·rw [← OA (Od (nK 2 ks))]
  generalize dd qf (vg (nK 2 ks)) = r
  split
  ·simp [tW]
  ·exact LV v 0 px r
theorem HT (v : ju → Bool) (ks : List Formula) : ph v (oP 3 ks) = uE v ks := by
 rw [← JW]
 unfold oP
 split
 ·rename_i h
  rw [show (5 - 3 : Int) = 2 from rfl, LV]
  obtain ⟨x, a, he⟩ := ef.1 h
  have : uE v (nK 3 ks) = true := by
   unfold uE; rw [ef]; exact ⟨x, a, I4 v he⟩
  rw [this]; rfl
 ·rw [← Oj (Od (nK 3 ks))]
  generalize dd qf (vg (nK 3 ks)) = r
  split
  ·simp [uE]
  ·exact OJ v 0 px r
theorem Jl (v : ju → Bool) : ∀ ks : List Formula, evN v ks = (ks.filter (lz 2)).length + evN v (ks.filter fun x => !lz 2 x && !lz 3 x)
 | [] => rfl
 | k :: ks => by
  have ih := Jl v ks
  rw [evN, dL, dL, ih]
  cases a : lz 2 k
  ·cases b : lz 3 k
   ·simp only [dp, iR, aC, aK, aU]
    rw [evN]; omega
   ·rw [Jf v b]; simp
  ·rw [I4 v a]; simp; omega
theorem NC (v : ju → Bool) (k : Int) (ks : List Formula) : ph v (sS k ks) = decide (k ≤ (evN v ks : Int)) := by
 have b := Jl v ks
 unfold sS
 simp only
 generalize a : ks.filter (fun x => !lz 2 x && !lz 3 x) = l at *
 generalize (ks.filter (lz 2)).length = m at *
 have hle := HN v l
 have ha := Iq v l
 have hp := It v l
 split
 ·rw [LV]; simp [tW]; omega
 ·split
  ·rw [OJ]; simp [uE]; omega
  ·split
   ·rw [H3, bQ, bO]
    unfold tW
    rw [ed, ← ha]; omega
   ·split
    ·rw [HT, bQ, bO]
     unfold uE
     rw [ef, ← hp]; omega
    ·rw [vY]
     simp only [P4 v (yM l)]
     have : ¬ ((4 : Int) = 1) := by omega
     have : ¬ ((4 : Int) = 2) := by omega
     have : ¬ ((4 : Int) = 3) := by omega
     simp only [*, aK]
     rw [bQ, bO, bO]; omega
theorem Pp (v : ju → Bool) : ∀ f : Formula, tf f = true → ph v (py f) = ph v f := by
 refine JY fun f ih hw => ?_
 obtain ⟨h1, g, i⟩ := xR hw
 rw [Fu, ed] at g
 have key : ∀ ks : List Formula, (∀ k ∈ ks, ph v (py k) = ph v k) → evN v (shapeL ks) = evN v ks ∧ tW v (shapeL ks) = tW v ks ∧ uE v (shapeL ks) = uE v ks := by
  intro ks
  induction ks with
  | nil => intro _; rw [shapeL]; exact ⟨rfl, rfl, rfl⟩
  | cons k ks d =>
   intro hk
   obtain ⟨a, b, c⟩ := d (fun x j => hk x (by simp [j]))
   have h := hk k (by simp)
   unfold tW uE at *
   rw [shapeL, evN, evN, a, h, fV, fV, fW, fW, b, c, h]
   exact ⟨rfl, rfl, rfl⟩
 obtain ⟨a, b, c⟩ := key f.Kids (fun k hk => ih k hk (g k hk))
 obtain ⟨o, n, r, l⟩ := f
 simp only at *
 rw [Aw]
 simp only
 rcases i with h | h | h
 ·simp only [h.1, aU]
 ·rcases h.1 with h | h
  ·subst h
   rw [LV]
   exact (H3 v _).trans b
  ·subst h
   rw [OJ]
   exact (HT v _).trans c
 ·obtain ⟨h, _⟩ := h
  subst h
  rw [vY v ⟨4, n, r, l⟩]
  exact (NC v n _).trans (by rw [a]; rfl)
theorem N2 {f g : Formula} (h : xz f = (g, 0)) : nn f = true ∧ nn g = true ∧ ∀ v, ph v g = ph v f := by
 unfold xz at h
 cases a : nn f
 ·rw [a] at h; simp at h
 ·rw [a] at h
  simp only [aU] at h
  cases b : nn (py f)
  ·rw [b] at h; simp at h
  ·rw [b] at h
   simp only [aU, Prod.mk.injEq] at h
   obtain ⟨rfl, _⟩ := h
   exact ⟨rfl, b, fun v => Pp v f (zT a).2.2⟩
def S8 (l : List Signed) : Prop := ∀ s ∈ l, B8 s.Tag
theorem Ku (b : List jv) (x : jv) : rS b x = some (qF lI b x) := by
 obtain ⟨q, e, h⟩ := KC x b
 unfold th at e
 rw [oC] at e
 rw [e, show q = qF lI b x from by rw [bQ, h, xa oE]]
structure Nc (l : List jv) (F : List jN) : Prop where
 len : F.length ≤ 900000000
 ref : vB l = some F
 Uq : ∃ m, xh l = some m ∧ wx m.1 m.2.1 m.2.2.1 m.2.2.2.1 m.2.2.2.2.1 m.2.2.2.2.2 = some F ∧ ∀ r w, tM m.1 m.2.1 m.2.2.1 m.2.2.2.1 m.2.2.2.2.1 m.2.2.2.2.2 r w = some (qF Bc F ⟨r, w⟩)
 xC : ∀ C : List jv, (∀ c, c ∈ C ↔ c ∈ l ∧ lH c = true) → Bk (oH C) F
theorem Tu (l : List jv) (z : l.length ≤ 30000) : ∃ F, Nc l F := by
 obtain ⟨F, h⟩ := Sv l z
 refine ⟨F, h.UD, h.ref, ?_, fun C v => ?_⟩
 ·obtain ⟨C, h1, d, u⟩ := h.C
  obtain ⟨C1, T, m, ws, n, p, m1, g, j⟩ := M8 l (by omega)
  have a : ∀ c, c ∈ C1 ↔ c ∈ C := fun c => by rw [d, g]
  have k : Bk (oH C1) F := ⟨h1.1, fun f => (h1.2 f).trans (oH.congr a f).symm⟩
  have x : SM C1 := by unfold SM; omega
  refine ⟨_, p, ?_, fun r w => ?_⟩
  ·obtain ⟨F1, t, i⟩ := Qa x.small m1 C1 m ws [] n
   rw [← i.unique k]; exact t
  ·obtain ⟨b, e, y⟩ := Of m1 C1 m ws [] n r w
   rw [e, show b = qF Bc F ⟨r, w⟩ from by rw [bQ, y, xa xS, k.2]]
 ·obtain ⟨C', h1, d, u⟩ := h.C
  have a : ∀ c, c ∈ C' ↔ c ∈ C := fun c => by rw [d, v]
  exact ⟨h1.1, fun f => (h1.2 f).trans (oH.congr a f)⟩
structure PB (p : kD) : Prop where
 Cc : p.jJ.length ≤ 2000000
 GP : p.jW.length ≤ 2000000
 rel : ∀ x ∈ p.jJ, kB x.jC ≤ 10000000
 GZ : ∀ a ∈ p.jW, kB a.jC ≤ 10000000
 NT : ∀ a ∈ p.jW, a.me.length ≤ 2000000
theorem Kw (f : ke → Option Bool) : ∀ (l : List ke) (i : Nat), nj f l i = yW f l i
 | [], i => by rw [nj]; rfl
 | x :: l, i => by
  rw [nj, yW]
  cases f x with
  | none => rfl
  | some b =>
   simp only [aA]
   rw [Kw f l (i + 1)]
theorem JV (f : mj → Option Bool) : ∀ (l : List mj) (i : Nat), nN f l i = yW f l i
 | [], i => by rw [nN]; rfl
 | x :: l, i => by
  rw [nN, yW]
  cases f x with
  | none => rfl
  | some b =>
   simp only [aA]
   rw [JV f l (i + 1)]
theorem PV {α : Type} (f : α → Option Bool) (p : α → Bool) (l : List α) (h : ∀ x ∈ l, f x = some (p x)) : ((yW f l 0).bind fun d => some (decide (d ≥ 0))) = some (l.any p) := by
 rcases Bx f p l 0 h with ⟨e, h1⟩ | ⟨A, x, B, rfl, h1, a, e⟩
 ·rw [e, aA]
  have : l.any p = false := by rw [List.any_eq_false]; intro x b; rw [h1 x b]; simp
  rw [this]; rfl
 ·rw [e, aA]
  have : (A ++ x :: B).any p = true := by simp [a]
  rw [this]
  congr 1
def Ae (p : kD) (c : jv) : Option ke := p.jJ.find? fun x => lI x.Signed.jv c
theorem RJ (p : kD) (c : jv) : ∃ z, yV p c = some (match Ae p c with | some x => (x, true) | none => (z, false)) := by
 unfold yV qb Ae
 rw [Kw]
 rcases Bx (fun x => wD x c) (fun x => lI x.Signed.jv c) p.jJ 0 (fun x _ => rfl) with ⟨e, h1⟩ | ⟨A, x, B, hp, h1, b, e⟩
 ·rw [e, aA, gd.2 (fun x a => by rw [h1 x a]; simp)]
  exact ⟨_, rfl⟩
 ·rw [e, aA, hp, iM, gd.2 (fun x a => by rw [h1 x a]; simp), fp, b]
  have : ¬ (((0 + A.length : Nat) : Int) < 0) := by omega
  simp only [this, cD, aC, aK]
  rw [mR A x B _ (by omega)]
  exact ⟨x, rfl⟩
def Ti : mj := ⟨⟨zS, zS⟩, ⟨0, 0, ⟨zS, zS⟩, []⟩, []⟩
theorem J2 (f : mj → Option Bool) : ∀ (n : Nat) (l : List mj) (i j : Int), nF f n l i j = DU f Ti n l i j
 | 0, _, _, _ => rfl
 | n + 1, l, i, j => by
  rw [nF, DU]
  simp only [J2 f n]
  rfl
def yX (p : kD) (c : jv) : List mj := p.jW.filter fun a => qF lI a.me c
theorem PR (p : kD) (hp : PB p) (c : jv) : yl p c = some (yX p c) := by
 have := hp.GP
 unfold yl uC yX
 rw [mZ (by simp; omega) (by simp; omega)]
 simp only [aA, bH, oC]
 have : rl p.jW (fun x => rM x c) = IK (fun x => rM x c) Ti p.jW := by
  unfold rl IK uR
  simp only [JV, J2]
 rw [this, Kh _ (fun a => !qF lI a.me c) Ti _ (by omega) (fun a _ => by unfold rM th; rw [oC, Ku]; rfl)]
 simp only [gw]
noncomputable def oS : Formula × Int → List Formula → Formula × Int
 | t, [] => t
 | t, g :: l => if t.2 = 0 then oS (xz ⟨2, 0, px, [t.1, g]⟩) l else t
theorem LL : ∀ (l : List Formula) (e o k : Int) (r : ju) (ks : List Formula), (∀ g ∈ l, kB g ≤ 10000000) → kB ⟨o, k, r, ks⟩ ≤ 64 →
  tp l e o k r ks = some ((oS (⟨o, k, r, ks⟩, e) l).2, (oS (⟨o, k, r, ks⟩, e) l).1.Op, (oS (⟨o, k, r, ks⟩, e) l).1.K, (oS (⟨o, k, r, ks⟩, e) l).1.ju, (oS (⟨o, k, r, ks⟩, e) l).1.Kids)
 | [], e, o, k, r, ks, _, _ => by rw [tp, oS]
 | g :: l, e, o, k, r, ks, h, n => by
  rw [tp, oS]
  by_cases c : e = 0
  ·have a : (e != 0) = false := by simp [c]
   simp only [a, aC, aK, c, aU]
   rw [Rx _ g (by omega) (h g (by simp)), aA]
   have d := yJ (f := ⟨2, 0, px, [⟨o, k, r, ks⟩, g]⟩)
   generalize xz ⟨2, 0, px, [⟨o, k, r, ks⟩, g]⟩ = q at *
   obtain ⟨⟨j, k', m, b⟩, e'⟩ := q
   exact LL l e' j k' m b (fun z i => h z (by simp [i])) d
  ·have a : (e != 0) = true := by simp [c]
   simp only [a, aU, c, aK]
noncomputable def CM (g : Formula) (l : List Formula) : Formula × Int := if (oS (xz g) l).2 = 0 then oS (xz g) l else (GB, (oS (xz g) l).2)
theorem Ri (g : Formula) (l : List Formula) (m : kB g ≤ 10000000) (h : ∀ x ∈ l, kB x ≤ 10000000) : wm (g :: l) = some (CM g l) := by
 unfold wm CM
 have b : lG (g :: l) 0 = some g := mR [] g l 0 rfl
 have a : sf (decide (0 ≤ 1) && decide ((1 : Int) ≤ ((g :: l).length : Int))) = some () := by
  rw [aQ]
  have : (1 : Int) ≤ ((l.length + 1 : Nat) : Int) := by omega
  simp [sf]; omega
 have i := yJ (f := g)
 rw [b, aA, LY g (by unfold Gd; omega), aA, a, aA]
 generalize xz g = q at *
 obtain ⟨⟨o, k, r, ks⟩, e⟩ := q
 have d : (g :: l).drop (Int.toNat 1) = l := rfl
 rw [d, LL l e o k r ks h i, aA]
 generalize oS (⟨o, k, r, ks⟩, e) l = t
 obtain ⟨⟨n, k', p, j⟩, e'⟩ := t
 by_cases c : e' = 0
 ·subst c; rfl
 ·have a : (e' != 0) = true := by simp [c]
  simp only [a, aU, c, aK]; rfl
noncomputable def pb (p : kD) (c : jv) : Formula × Int := match Ae p c with | none => (GB, 42) | some x => CM x.jC ((yX p c).map (·.jC))
theorem OF : ∀ (l : List mj) (acc : List Formula), acc.length + l.length ≤ 3000000 → ul l acc = wm (acc ++ l.map (·.jC))
 | [], acc, _ => by
  rw [ul, eT, bI]
  cases wm acc <;> rfl
 | a :: l, acc, h => by
  rw [aQ] at h
  rw [ul, mZ (by simp; omega) (by simp; omega), aA, OF l _ (by simp; omega)]
  simp
theorem PN {p : kD} {c : jv} {x : ke} (h : Ae p c = some x) : x ∈ p.jJ ∧ x.Signed.jv = c := by
 unfold Ae at h
 have h1 := List.mem_of_find?_eq_some h
 have a := List.find?_some h
 exact ⟨h1, oE.1 a⟩
theorem S0 (p : kD) (hp : PB p) (c : jv) : AY p c = some (pb p c) := by
 unfold AY pb
 obtain ⟨z, e⟩ := RJ p c
 rw [e, aA]
 cases h : Ae p c with
 | none => rfl
 | some x =>
  simp only [cJ, aC, aK]
  have d := PN h
  have i : (yX p c).length ≤ p.jW.length := eO _ _
  have := hp.GP
  rw [PR p hp c, aA, OF _ _ (by simp; omega)]
  exact Ri x.jC _ (hp.rel x d.1) (fun g b => by
   obtain ⟨a, ha, rfl⟩ := bJ.1 b
   exact hp.GZ a (cT.1 ha).1)
theorem I0 (p : kD) (c : jv) : kB (pb p c).1 ≤ 64 := by
 have a : kB GB ≤ 64 := by rw [GB, kB, nodesL]; omega
 have b : ∀ (l : List Formula) (t : Formula × Int), kB t.1 ≤ 64 → kB (oS t l).1 ≤ 64 := by
  intro l
  induction l with
  | nil => intro t h; exact h
  | cons g l ih =>
   intro t h
   rw [oS]
   split
   ·exact ih _ yJ
   ·exact h
 unfold pb
 split
 ·exact a
 ·unfold CM
  split
  ·exact b _ _ yJ
  ·exact a
theorem KA : ∀ (l : List Formula) (f : Formula) (e : Int), (oS (f, e) l).2 = 0 → e = 0 ∧ (nn f = true → nn (oS (f, e) l).1 = true ∧ ∀ v, ph v (oS (f, e) l).1 = (ph v f && l.all (ph v)))
 | [], f, e, h => by rw [oS] at *; exact ⟨h, fun j => ⟨j, fun v => by simp⟩⟩
 | g :: l, f, e, h => by
  rw [oS] at *
  by_cases c : e = 0
  ·simp only [c, aU] at h ⊢
   cases a : xz ⟨2, 0, px, [f, g]⟩ with
   | mk q e' =>
    rw [a] at h
    obtain ⟨h1, i⟩ := KA l q e' h
    subst h1
    obtain ⟨k, a2, a3⟩ := N2 a
    obtain ⟨b, d⟩ := i a2
    refine ⟨trivial, fun _ => ⟨b, fun v => ?_⟩⟩
    rw [d v, a3 v, LV]
    simp [tW, gv]
  ·simp only [c, aK] at h
theorem N5 {p : kD} {c : jv} (h : (pb p c).2 = 0) : nn (pb p c).1 = true ∧ ∃ x, Ae p c = some x ∧ ∀ v, ph v (pb p c).1 = (ph v x.jC && (yX p c).all fun a => ph v a.jC) := by
 unfold pb at *
 cases g : Ae p c with
 | none => rw [g] at h; simp at h
 | some x =>
  rw [g] at h
  simp only at h ⊢
  unfold CM at *
  by_cases b : (oS (xz x.jC) ((yX p c).map (·.jC))).2 = 0
  ·simp only [b, aU] at h ⊢
   cases d : xz x.jC with
   | mk q e =>
    rw [d] at b
    obtain ⟨h1, k⟩ := KA _ q e b
    subst h1
    obtain ⟨l, a2, a3⟩ := N2 d
    obtain ⟨i, j⟩ := k a2
    refine ⟨i, x, rfl, fun v => ?_⟩
    rw [j v, a3 v, List.all_map]
    rfl
  ·simp only [b, aK] at h
def vF (F : List jN) (peer : ByteArray) (r : ju) : Bool := qF Bc F ⟨r, peer⟩
theorem Q8 {l : List jv} {F : List jN} (h : Nc l F) (peer : ByteArray) : ∃ m, vl l peer = some m ∧ ∀ r, pL r m.1 m.2.1 m.2.2.1 m.2.2.2.1 m.2.2.2.2.1 m.2.2.2.2.2.1 m.2.2.2.2.2.2 = some (vF F peer r) := by
 obtain ⟨m, e, _, a⟩ := h.Uq
 unfold vl
 rw [e, aA]
 refine ⟨_, rfl, fun r => ?_⟩
 unfold pL
 rw [oC]
 exact a r peer
noncomputable def Ai (p : kD) (v : ju → Bool) (x : ke) : Bool := decide ((pb p x.Signed.jv).2 = 0) && vA v (pb p x.Signed.jv).1
theorem CR (p : kD) (hp : PB p) (v : ju → Bool) (m) (a : ∀ r, pL r m.1 m.2.1 m.2.2.1 m.2.2.2.1 m.2.2.2.2.1 m.2.2.2.2.2.1 m.2.2.2.2.2.2 = some (v r)) : ∀ (l : List ke) (acc : List jv), acc.length + l.length ≤ 1000000000 →
  qS p m l acc = zd (acc ++ (l.filter (Ai p v)).map (·.Signed.jv))
 | [], acc, _ => by
  rw [qS, gP, eT, bI, oC]
 | x :: l, acc, h => by
  rw [aQ] at h
  have b := I0 p x.Signed.jv
  rw [qS, S0 p hp, aA, MN v _ a _ (by unfold Gd; omega), dL]
  unfold Ai
  by_cases c : (pb p x.Signed.jv).2 = 0
  ·simp only [c, aZ, aU, cA, dW, aA]
   cases d : vA v (pb p x.Signed.jv).1
   ·simp only [aC, aK]
    exact CR p hp v m a l acc (by omega)
   ·simp only [aU]
    rw [mZ (by simp; omega) (by simp; omega), aA, CR p hp v m a l _ (by simp; omega)]
    simp only [bL, aM, bU, bH]
    rfl
  ·have e : ((pb p x.Signed.jv).2 == 0) = false := by simpa using c
   simp only [e, aC, aK, c, cD, fe, aA]
   exact CR p hp v m a l acc (by omega)
theorem QV (p : kD) (hp : PB p) {l : List jv} {F : List jN} (h : Nc l F) (peer : ByteArray) : ∃ s, sd p l peer = some s ∧ KE ((p.jJ.filter (Ai p (vF F peer))).map (·.Signed.jv)) s := by
 obtain ⟨m, e, a⟩ := Q8 h peer
 have := hp.Cc
 unfold sd
 rw [e, aA, CR p hp _ m a p.jJ [] (by simp; omega), bH]
 have h1 : (p.jJ.filter (Ai p (vF F peer))).length ≤ p.jJ.length := eO _ _
 exact RY _ (by simp; omega)
theorem Jq : ∀ (l m A : List jv), l.length = m.length → ∃ b, pQ (A ++ m) l A.length = some b ∧ (b = true ↔ l = m)
 | [], m, A, d => by
  obtain rfl := aV d.symm
  exact ⟨true, rfl, by simp⟩
 | x :: l, [], A, d => by simp at d
 | x :: l, y :: m, A, d => by
  have i1 : lG (A ++ y :: m) (A.length : Int) = some y := mR _ _ _ _ rfl
  rw [pQ, i1, aA]
  cases g : lI x y with
  | false =>
   refine ⟨false, rfl, ?_⟩
   have : x ≠ y := fun a => by have := oE.2 a; rw [this] at g; cases g
   simp [this]
  | true =>
   have a := oE.1 g
   obtain ⟨b, h, k⟩ := Jq l m (A ++ [y]) (by simpa using d)
   simp only [cJ, aC, aK]
   have i : A ++ y :: m = (A ++ [y]) ++ m := by simp
   have j : A.length + 1 = (A ++ [y]).length := by simp
   rw [i, j, h]
   exact ⟨b, rfl, by rw [k]; simp [a]⟩
theorem OI (l m : List jv) : ∃ b, ru l m = some b ∧ (b = true ↔ l = m) := by
 unfold ru
 by_cases h : l.length = m.length
 ·have : ((l.length : Int) != (m.length : Int)) = false := by simp [h]
  simp only [this, aC, aK]
  exact Jq l m [] h
 ·have : ((l.length : Int) != (m.length : Int)) = true := by simp; omega
  simp only [this, aU]
  exact ⟨false, rfl, by simp; intro hk; rw [hk] at h; exact h rfl⟩
structure PG (p : kD) : Prop extends PB p where
 UP : ∀ x ∈ p.jJ, yn x.Signed.jv ≤ 1000000000
 U6 : ∀ a ∈ p.jW, ∀ c ∈ a.me, yn c ≤ 1000000000
def gX : ju := ⟨⟨#[120]⟩, ⟨#[121]⟩⟩
def gc : jv := ⟨1, gX, ⟨#[109, 101]⟩, ⟨zS, zS⟩, ⟨zS, zS⟩, zS⟩
noncomputable def vD (l : List jv) (peer : ByteArray) (r : ju) : Bool := @decide (oH (l.filter lH) ⟨r, peer⟩) (Classical.propDecidable _)
theorem Fo (l : List jv) (peer : ByteArray) (r : ju) : vD l peer r = true ↔ oH (l.filter lH) ⟨r, peer⟩ := by unfold vD; simp
theorem QO {l m : List jv} (h : ∀ c ∈ l, c ∈ m) (peer : ByteArray) (r : ju) (b : vD l peer r = true) : vD m peer r = true := by
 rw [Fo] at *
 exact b.mono (fun c a => by rw [cT] at *; exact ⟨h c a.1, a.2⟩)
theorem TL (l : List jv) (h : l.length ≤ 1000000) (peer : ByteArray) : ∃ m, vl l peer = some m ∧ ∀ r, pL r m.1 m.2.1 m.2.2.1 m.2.2.2.1 m.2.2.2.2.1 m.2.2.2.2.2.1 m.2.2.2.2.2.2 = some (vD l peer r) := by
 obtain ⟨C, T, i, ws, n, e, m, d, _⟩ := M8 l h
 unfold vl
 rw [e, aA]
 refine ⟨_, rfl, fun r => ?_⟩
 unfold pL
 rw [oC]
 obtain ⟨b, a, g⟩ := Of m C i ws [] n r peer
 rw [a]
 congr 1
 rw [bQ, g, Fo]
 exact oH.congr (fun c => by rw [d, cT]) _
noncomputable def NR (p : kD) (v : ju → Bool) (c : jv) : Bool := decide ((pb p c).2 = 0) && vA v (pb p c).1
theorem Pd {p : kD} {v w : ju → Bool} (h : ∀ r, v r = true → w r = true) (c : jv) (a : NR p v c = true) : NR p w c = true := by
 unfold NR vA at *
 simp only [bo, bO] at *
 exact ⟨a.1, a.2.1, Rs h _ a.2.2⟩
def ou (s : List jv) : Prop := s.Pairwise (fun a b => Bu a b = true) ∧ ∀ c ∈ s, lH c = true
theorem ou.nodup {s : List jv} (h : ou s) : s.Nodup := uQ Dz h.2 h.1
theorem ou.le {s t : List jv} (h : ou s) (a : ∀ c ∈ s, c ∈ t) : s.length ≤ t.length := mo h.nodup a
theorem ou.ext {s t : List jv} (h : ou s) (k : ou t) (b : ∀ c, c ∈ s ↔ c ∈ t) : s = t :=
 wJ.unique Dz (l := t) ⟨h.1, fun x => ⟨fun a => ⟨(b x).1 a, h.2 x a⟩, fun a => (b x).2 a.1⟩⟩ ⟨k.1, fun x => ⟨fun a => ⟨a, k.2 x a⟩, fun a => a.1⟩⟩
theorem ou.eq {s t : List jv} (h : ou s) (k : ou t) (b : ∀ c ∈ s, c ∈ t) (i : t.length ≤ s.length) : s = t := by
 refine h.ext k fun c => ⟨b c, fun d => ?_⟩
 refine eP fun g => ?_
 have := mo (l := c :: s) (m := t) (dE.2 ⟨g, h.nodup⟩) (fun x a => by
  rcases aR.1 a with rfl | a
  ·exact d
  ·exact b x a)
 simp at this; omega
theorem ou.nil : ou [] := ⟨by simp, by simp⟩
theorem ou.filter {s : List jv} (h : ou s) (p : jv → Bool) : ou (s.filter p) := ⟨h.1.filter _, fun c a => h.2 c (cT.1 a).1⟩
def EE (p : kD) (c : jv) : Prop := ∃ x ∈ p.jJ, x.Signed.jv = c
def se (p : kD) (l : List jv) (peer : ByteArray) (c : jv) : Prop := EE p c ∧ lH c = true ∧ NR p (vD l peer) c = true
theorem wq {p : kD} {l m : List jv} (h : ∀ c ∈ l, c ∈ m) {peer : ByteArray} {c : jv} (a : se p l peer c) : se p m peer c := ⟨a.1, a.2.1, Pd (QO h peer) c a.2.2⟩
theorem yG {p : kD} {s : List jv} (h : ou s) (b : ∀ c ∈ s, EE p c) : s.length ≤ p.jJ.length := by
 have := h.le (t := p.jJ.map (·.Signed.jv)) (fun c a => by obtain ⟨x, d, e⟩ := b c a; exact bJ.2 ⟨x, d, e⟩)
 simpa using this
theorem JJ (p : kD) (hp : PB p) (l : List jv) (n : l.length ≤ 1000000) (peer : ByteArray) : ∃ s, sd p l peer = some s ∧ ou s ∧ (∀ c, c ∈ s ↔ se p l peer c) ∧ s.length ≤ p.jJ.length := by
 obtain ⟨m, e, t⟩ := TL l n peer
 have := hp.Cc
 unfold sd
 rw [e, aA, CR p hp _ m t p.jJ [] (by simp; omega), bH]
 have h1 : (p.jJ.filter (Ai p (vD l peer))).length ≤ p.jJ.length := eO _ _
 obtain ⟨s, j, a⟩ := RY ((p.jJ.filter (Ai p (vD l peer))).map (·.Signed.jv)) (by simp; omega)
 have i : ou s := ⟨a.1, fun c d => ((a.2 c).1 d).2⟩
 have hm : ∀ c, c ∈ s ↔ se p l peer c := fun c => by
  rw [a.2, bJ]
  constructor
  ·rintro ⟨⟨x, h, rfl⟩, g⟩
   obtain ⟨k, b⟩ := cT.1 h
   exact ⟨⟨x, k, rfl⟩, g, b⟩
  ·rintro ⟨⟨x, h, rfl⟩, g, b⟩
   exact ⟨⟨x, cT.2 ⟨h, b⟩, rfl⟩, g⟩
 exact ⟨s, j, i, hm, yG i (fun c d => ((hm c).1 d).1)⟩
structure N8 (a b : kD) (x y : List jv) : Prop where
 sx : ou x
 sy : ou y
 fx : ∀ c, c ∈ x ↔ se a y b.Name c
 fy : ∀ c, c ∈ y ↔ se b x a.Name c
 least : ∀ X Y : List jv, (∀ c, se a Y b.Name c → c ∈ X) → (∀ c, se b X a.Name c → c ∈ Y) → (∀ c ∈ x, c ∈ X) ∧ (∀ c ∈ y, c ∈ Y)
theorem N8.ly {a b : kD} {x y : List jv} (h : N8 a b x y) : y.length ≤ b.jJ.length := yG h.sy (fun c d => ((h.fy c).1 d).1)
theorem Jd (a b : kD) (ha : PB a) (w : PB b) (L : a.jJ.length ≤ 600000) (M : b.jJ.length ≤ 600000) : ∀ (n : Nat) (x y : List jv) (i : Int), ou x → ou y → (∀ c ∈ x, se a y b.Name c) → (∀ c ∈ y, se b x a.Name c) →
  (∀ X Y : List jv, (∀ c, se a Y b.Name c → c ∈ X) → (∀ c, se b X a.Name c → c ∈ Y) → (∀ c ∈ x, c ∈ X) ∧ (∀ c ∈ y, c ∈ Y)) → a.jJ.length + b.jJ.length < n + x.length + y.length →
  ∃ z A j, pj a b n x y i = some (z, A, j) ∧ N8 a b z A
 | 0, x, y, i, sx, sy, g, k, hm, J => by
  have h1 := yG sx (fun c d => (g c d).1)
  have I := yG sy (fun c d => (k c d).1)
  omega
 | n + 1, x, y, i, sx, sy, g, k, hm, J => by
  have h1 := yG sx (fun c d => (g c d).1)
  have I := yG sy (fun c d => (k c d).1)
  obtain ⟨p, E, sp, mp, R⟩ := JJ a ha y (by omega) b.Name
  obtain ⟨q, G, sq, l, T⟩ := JJ b w x (by omega) a.Name
  have m : ∀ c ∈ x, c ∈ p := fun c d => (mp c).2 (g c d)
  have t : ∀ c ∈ y, c ∈ q := fun c d => (l c).2 (k c d)
  have P := sx.le m
  have Q := sy.le t
  rw [pj, E, aA, G, aA]
  by_cases c1 : p.length = x.length ∧ q.length = y.length
  ·have e : ((if ((p.length : Int) == (x.length : Int)) then some ((q.length : Int) == (y.length : Int)) else some false) : Option Bool) = some true := by
    rw [c1.1, c1.2]; simp
   rw [e]
   simp only [aA, aU]
   obtain rfl := sx.eq sp m (by omega)
   obtain rfl := sy.eq sq t (by omega)
   exact ⟨_, _, _, rfl, sx, sy, mp, l, hm⟩
  ·have e : ((if ((p.length : Int) == (x.length : Int)) then some ((q.length : Int) == (y.length : Int)) else some false) : Option Bool) = some false := by
    by_cases c2 : p.length = x.length
    ·have O : ¬ q.length = y.length := fun h => c1 ⟨c2, h⟩
     simp [c2]; omega
    ·have : ¬ ((p.length : Int) = (x.length : Int)) := by omega
     simp [this]
   rw [e]
   simp only [aA, aC, aK]
   refine Jd a b ha w L M n p q _ sp sq (fun c d => wq t ((mp c).1 d)) (fun c d => wq m ((l c).1 d)) (fun X Y u v => ?_) (by omega)
   obtain ⟨g1, g2⟩ := hm X Y u v
   exact ⟨fun c d => u c (wq g2 ((mp c).1 d)), fun c d => v c (wq g1 ((l c).1 d))⟩
theorem NU (a b : kD) (ha : PB a) (d : PB b) (g : a.jJ.length ≤ 600000) (h : b.jJ.length ≤ 600000) : ∃ x y j, wj a b = some (x, y, j) ∧ N8 a b x y :=
 Jd a b ha d g h ki [] [] 0 ou.nil ou.nil (by simp) (by simp) (fun _ _ _ _ => by simp) (by rw [mn]; simp; omega)
def zc : Formula := ⟨2, 0, px, []⟩
def MX (l : List ke) (d : jv) : Option Formula := (l.find? fun x => lI x.Signed.jv d).map (·.jC)
theorem Ci (n : ByteArray) (l : List ke) (k : List mj) (c : jv) : EE ⟨n, l, k⟩ c ↔ c ∈ l.map (·.Signed.jv) := by
 unfold EE; rw [bJ]
theorem Ox (n : ByteArray) (l : List ke) (c : jv) : pb ⟨n, l, []⟩ c = match MX l c with | none => (GB, 42) | some r => CM r [] := by
 unfold pb Ae MX yX
 simp only
 cases l.find? (fun x => lI x.Signed.jv c) <;> rfl
theorem QU : CM zc [] = (zc, 0) := by
 have h1 : nn zc = true := by decide +kernel
 have d : py zc = zc := by
  rw [Aw]
  have a : ¬ (zc.Op = 1) := by decide
  have b : ¬ (zc.Op = 4) := by decide
  simp only [a, b, aK]
  rw [show zc.Kids = [] from rfl, shapeL]
  unfold oP
  rw [nK]
  rfl
 have g : xz zc = (zc, 0) := by unfold xz; rw [h1, d, h1]; rfl
 unfold CM
 rw [g, oS]; rfl
structure PP (p : mQ) : Prop where
 o : PG p.jw
 c : PG p.Client
 lo : p.jw.jJ.length ≤ 600000
 lc : p.Client.jJ.length ≤ 600000
 f : kB p.Formula ≤ 10000000
def zX (r : ju) : Formula := ⟨1, 0, r, []⟩
def Hi (c : jv) (f : Formula) : ke := ⟨⟨c, List.replicate 8 0⟩, f⟩
theorem L8 (v : ju → Bool) (r : ju) : ph v (zX r) = v r := by rw [vY]; rfl
theorem Q6 (c d : jv) (f : Formula) : MX [Hi c f] d = if lI c d then some f else none := by
 unfold MX
 rw [fp, show (Hi c f).Signed.jv = c from rfl]
 cases lI c d <;> rfl
theorem OH {n : ByteArray} {c d : jv} {f : Formula} : EE ⟨n, [Hi c f], []⟩ d ↔ d = c := by
 rw [Ci]; show d ∈ [c] ↔ _; simp
theorem P8 {n : ByteArray} {c : jv} (a : lH c = true) (l : List jv) (peer : ByteArray) (d : jv) : se ⟨n, [Hi c zc], []⟩ l peer d ↔ d = c := by
 unfold se
 rw [OH]
 constructor
 ·exact fun h => h.1
 ·rintro rfl
  refine ⟨rfl, a, ?_⟩
  unfold NR
  rw [Ox, Q6, bB (oE.2 rfl)]
  simp only [QU]
  unfold vA
  rw [show nn zc = true by decide +kernel, vY]
  rfl
theorem SI {c : jv} (a : lH c = true) (hk : c.Kind = 1) {l : List jv} (h : c ∈ l) : vD l c.kE c.Head = true := by
 rw [Fo]
 exact .mem c (cT.2 ⟨h, a⟩) hk
theorem RW (peer : ByteArray) (r : ju) : vD [] peer r = false := by
 rw [← fg, Fo]
 intro h
 obtain ⟨c, a, _⟩ := h.head
 cases a
theorem Sg {n : ByteArray} {c : jv} {f : Formula} (h : kB f ≤ 10000000) : PB ⟨n, [Hi c f], []⟩ where
 Cc := by simp
 GP := by simp
 rel := fun x a => by obtain rfl := bP.1 a; exact h
 GZ := fun x a => by cases a
 NT := fun x a => by cases a
theorem Q3 {c : jv} (a : lH c = true) : ou [c] := ⟨by simp, fun x b => by obtain rfl := bP.1 b; exact a⟩
theorem SU {s : List jv} {c : jv} (d : ou s) (h1 : ∀ x ∈ s, x = c) (a : c ∈ s) (b : lH c = true) : s = [c] :=
 d.ext (Q3 b) (fun x => by
  rw [bP]
  exact ⟨h1 x, fun e => by rw [e]; exact a⟩)
end Go.Proofs.YtjjjihkifgdhgaaGreatDoor
