/- a part of a proof of LintHolds -/
import Derived.Test.YtjjjihkifgdhgaaGreatDoorHll
import Derived.Test.YtjjjihkifgdhgaaGreatDoorRtVl
import Derived.Test.YtjjjihkifgdhgaaGreatDoorRows
import Derived.WalkKit
import Derived.ProofKit
import Derived.OpenShut
import Derived.JoinedCond
import Derived.Deep.Slices
import Derived.Carry
import Derived.ChangeArms
import Derived.ChangeSame
import Derived.Test.YtjjjihkifgdhgaaGreatDoorCards
import Derived.Test.YtjjjihkifgdhgaaGreatDoorTie
import Derived.Deep.DeepHandedRow
import Derived.Lib.LaidTab
import Derived.SevenTiedAt
import Derived.Test.YtjjjihkifgdhgaaGreatDoorDL5W2l
set_option linter.all false
namespace Go.Proofs.YtjjjihkifgdhgaaGreatDoor
open Go.Proofs.Tryz renaming prog → pg0
open Go.RowKit
theorem L7 {f : Formula} (hw : rn f = true) (b : jR f ≤ 200) : (xz f).length ≤ 40 * jR f := (LA (ng f) f (aR _) hw [] (by simp; omega)).2
theorem PA : ∀ (n : Nat) (f : Formula), ng f ≤ n → rn f = true → jR f ≤ 64 → qX n f = some (uD (xz f)) := by
 intro n
 induction n with
 | zero => intro f h; rw [mc] at h; omega
 | succ n ih =>
  intro f u hw A
  rw [mc] at u
  have w := nn f
  obtain ⟨h1, q, j⟩ := vQ hw
  have d : 0 ≤ f.Op ∧ f.Op < 128 := by rcases j with h | h | h <;> omega
  have hlen : 0 ≤ (f.Kids.length : Int) ∧ (f.Kids.length : Int) < 128 := by omega
  have key : ∀ (ks : List Formula) (l : List Int), (∀ k ∈ ks, k ∈ f.Kids) → wellL ks = true → l.length + 40 * nodesL ks ≤ 8000 → nodesL ks ≤ 64 → rW (qX n) ks (uD l) = some (uD (l ++ bytesFL ks)) := by
   intro ks
   induction ks with
   | nil => intro l _ _ _ _; rw [rW, bytesFL, bo]
   | cons k ks p =>
    intro l hk b v m
    rw [wellL, aQ] at b
    rw [nodesL] at v m
    have y := L7 b.1 (by omega)
    rw [rW, ih k (by have := pH (hk k (by simp)); omega) b.1 (by omega), aA, qk _ _ (by omega), aA,
     p _ (fun z x => hk z (by simp [x])) b.2 (by simp; omega) (by omega), bytesFL, aI]
  rw [qX]
  unfold yH
  rw [wX d.1 d.2, aA, GS]
  by_cases c1 : f.Op = 1
  ·have r : lG f.jl = true := by rcases j with h | h | h; exact h.2.1; omega; omega
   have := nM r
   simp only [c1, aV, aJ]
   rw [zz r, aA, qk _ _ (by simp; omega)]
   rfl
  ·have s : (f.Op == 1) = false := by simpa using c1
   simp only [s, aB, aG, c1]
   by_cases i : f.Op = 4
   ·have hk : 0 ≤ f.K ∧ f.K < 128 := by rcases j with h | h | h <;> omega
    simp only [i, aV, aJ]
    rw [wX hk.1 hk.2, aA, qk _ _ (by simp), aA, aA, wX hlen.1 hlen.2, aA, qk _ _ (by simp), aA,
     key f.Kids _ (fun k hk => hk) q (by simp; omega) (by omega)]
    simp
   ·have t : (f.Op == 4) = false := by simpa using i
    simp only [t, aB, aG, i, aA]
    rw [wX hlen.1 hlen.2, aA, qk _ _ (by simp), aA, key f.Kids _ (fun k hk => hk) q (by simp; omega) (by omega)]
    simp
theorem RA (f : Formula) (h : Gd f) : ((pW f).bind fun r => if r then (qX jP f).bind fun b => some b else some zS) = some (uD (wU f)) := by
 rw [F2 f h, aA]
 unfold wU
 cases i : mQ f
 ·rfl
 ·obtain ⟨h1, j, d⟩ := yc i
  simp only [aJ]
  rw [PA jP f (by rw [lN]; omega) d h1, nK]
theorem HG (f g : Formula) (j : Gd f) (l : Gd g) : ∃ c : Int, xj f g = some c ∧ (c > 0 ↔ mO Ae g f = true) := by
 unfold xj
 rw [RA f j, aA, RA g l, aA, wQ, sU, sU, zy]
 rcases zJ (sh (wU f)) (sh (wU g)) with h | h | h
 ·rw [aZ h]
  refine ⟨-1, rfl, iff_of_false (by omega) (fun b => ?_)⟩
  have := wG _ _ _ h b
  rw [tO] at this; cases this
 ·have e : kv (uD (wU f)) (uD (wU g)) = true := lH.2 (yB (by rw [sU, sU, h]))
  rw [h, tO, e]
  exact ⟨0, rfl, iff_of_false (by omega) (by simp)⟩
 ·have e : Op.bytesLess (sh (wU f)) (sh (wU g)) = false := by
   rw [← fC]
   intro b
   have := wG _ _ _ h b
   rw [tO] at this; cases this
  have i : kv (uD (wU f)) (uD (wU g)) = false := by
   rw [← fC, lH]
   intro b
   have d := bA (fun s : ByteArray => s.data.toList) b
   simp only [sU] at d
   rw [d, tO] at h; cases h
  rw [e, i]
  exact ⟨1, rfl, iff_of_true (by omega) h⟩
theorem QT : ∀ (n : Nat) (f : Formula), ng f ≤ n → ∀ g, ∃ b, tp n f g = some b ∧ (b = true ↔ f = g) := by
 intro n
 induction n with
 | zero => intro f h; rw [mc] at h; omega
 | succ n ih =>
  intro f h g
  rw [mc] at h
  have key : ∀ (l m A : List Formula), (∀ x ∈ l, x ∈ f.Kids) → g.Kids = A ++ m → l.length = m.length → ∃ b, sK g (tp n) l A.length = some b ∧ (b = true ↔ l = m) := by
   intro l
   induction l with
   | nil =>
    intro m A _ _ d
    obtain rfl := aO d.symm
    exact ⟨true, by rw [sK], by simp⟩
   | cons x l t =>
    intro m A s v d
    match m, d with
    | y :: m, d =>
     obtain ⟨b, e, r⟩ := ih x (by have := pH (s x (by simp)); omega) y
     rw [sK, v, my A y m _ rfl, aA, e, aA]
     cases b with
     | false =>
      refine ⟨false, rfl, ?_⟩
      have : x ≠ y := fun j => by have := r.2 j; simp at this
      simp [this]
     | true =>
      have j := r.1 rfl
      obtain ⟨b, u, i⟩ := t m (A ++ [y]) (fun z w => s z (by simp [w])) (by rw [v]; simp) (by simpa using d)
      rw [aC, List.length_singleton] at u
      simp only [bU, aB, aG]
      rw [u]
      exact ⟨b, rfl, by rw [i]; simp [j]⟩
  rw [tp]
  unfold zc
  by_cases h1 : f.Op = g.Op
  ·by_cases i : f.K = g.K
   ·by_cases p : f.jl = g.jl
    ·have q : jG f.jl g.jl = true := jH.2 p
     by_cases d : f.Kids.length = g.Kids.length
     ·obtain ⟨b, e, r⟩ := key f.Kids g.Kids [] (fun x s => s) rfl d
      rw [bP] at e
      refine ⟨b, ?_, r.trans ⟨fun hk => Formula.ext' h1 i p hk, fun hk => by rw [hk]⟩⟩
      simp [h1, i, q, d, e]
     ·refine ⟨false, ?_, by simp; intro hk; rw [hk] at d; exact d rfl⟩
      have : ((f.Kids.length : Int) != (g.Kids.length : Int)) = true := by simp; omega
      simp [h1, i, q, this]
    ·have q : jG f.jl g.jl = false := by rw [← fC, jH]; exact p
     exact ⟨false, by simp [h1, i, q], by simp; intro hk; rw [hk] at p; exact p rfl⟩
   ·exact ⟨false, by simp [h1, i], by simp; intro hk; rw [hk] at i; exact i rfl⟩
  ·exact ⟨false, by simp [h1], by simp; intro hk; rw [hk] at h1; exact h1 rfl⟩
theorem MR (a b : Formula) (h : Gd a) : tp jP a b = some (oQ a b) := by
 have := ux a
 unfold Gd at h
 obtain ⟨x, e, d⟩ := QT jP a (by rw [lN]; omega) b
 rw [e]; congr 1
 rw [bI, d, vr]
section
variable {α : Type} {lt : α → α → Bool}
def J6 (lt : α → α → Bool) (l : List α) : Prop := l.Pairwise fun x y => lt y x = false
theorem Da (h : SWO lt) (k : α) : ∀ {l : List α}, J6 lt l → ∃ A B, l = A ++ B ∧ (∀ x ∈ A, lt k x = false) ∧ (∀ x ∈ B, lt k x = true)
 | [], _ => ⟨[], [], rfl, by simp, by simp⟩
 | x :: l, m => by
  obtain ⟨h1, d⟩ := cA.1 m
  cases e : lt k x with
  | true =>
   refine ⟨[], x :: l, rfl, by simp, fun y b => ?_⟩
   rcases aK.1 b with rfl | b
   ·exact e
   ·rcases h.Lx _ y _ e with q | q
    ·exact q
    ·rw [h1 y b] at q; cases q
  | false =>
   obtain ⟨A, B, rfl, i, j⟩ := Da h k d
   exact ⟨x :: A, B, rfl, fun y b => by
    rcases aK.1 b with rfl | b
    ·exact e
    ·exact i y b, j⟩
theorem FQ {k : α} {A B : List α} (d : ∀ x ∈ A, lt k x = false) (h : ∀ x ∈ B, lt k x = true) : Ab lt (A ++ B) k = A ++ k :: B := by
 unfold Ab
 rw [ic, ic]
 rw [fH.2 (fun x b => by rw [d x b]; rfl), List.filter_eq_nil_iff.2 (fun x b => by rw [h x b]; simp), List.filter_eq_nil_iff.2 (fun x b => by rw [d x b]; simp), fH.2 (fun x b => h x b)]
 simp
theorem JU (h : SWO lt) {k : α} {A B : List α} (i : J6 lt (A ++ B)) (j : ∀ x ∈ A, lt k x = false) (l : ∀ x ∈ B, lt k x = true) : J6 lt (A ++ k :: B) := by
 unfold J6 at *
 rw [cP] at *
 refine ⟨i.1, cA.2 ⟨fun x m => h.asym (l x m), i.2.1⟩, fun a ha b d => ?_⟩
 rcases aK.1 d with rfl | d
 ·exact j a ha
 ·exact i.2.2 a ha b d
variable {eq : α → α → Bool}
theorem G1 (he : ∀ x y, eq x y = true ↔ x = y) (k : α) : ∀ (l : List α) (p : α), mx eq p (l ++ [k]) = if eq k ((l.getLast?).getD p) then mx eq p l else mx eq p l ++ [k]
 | [], p => by
  rw [bD, mx, mx]
  rfl
 | y :: l, p => by
  have e : ((y :: l).getLast?).getD p = (l.getLast?).getD y := by cases l <;> rfl
  rw [bO, mx, mx, G1 he k l y, e]
  by_cases h1 : eq y p = true
  ·rw [aZ h1, aZ h1]
  ·rw [aY h1, aY h1]
   split <;> rfl
def yi (eq : α → α → Bool) (l : List α) (k : α) : Bool := match l.getLast? with | some y => eq y k | none => false
theorem Mf (x : α) (l : List α) : (x :: l).getLast? = some ((l.getLast?).getD x) := by cases l <;> rfl
theorem Oo (he : ∀ x y, eq x y = true ↔ x = y) (k : α) (l : List α) : dd eq (l ++ [k]) = if yi eq l k then dd eq l else dd eq l ++ [k] := by
 cases l with
 | nil => rfl
 | cons x l =>
  have b : dd eq ((x :: l) ++ [k]) = x :: mx eq x (l ++ [k]) := rfl
  have d : dd eq (x :: l) = x :: mx eq x l := rfl
  unfold yi
  rw [b, d, G1 he, Mf]
  simp only
  by_cases h : (l.getLast?).getD x = k
  ·rw [h, aZ ((he k k).2 rfl), aZ ((he k k).2 rfl)]
  ·rw [aY (fun q => h ((he _ _).1 q).symm), aY (fun q => h ((he _ _).1 q))]; rfl
theorem IN (he : ∀ x y, eq x y = true ↔ x = y) (y : α) (B : List α) : ∀ (l : List α) (p : α), y ≠ (l.getLast?).getD p → mx eq p (l ++ y :: B) = mx eq p l ++ y :: mx eq y B
 | [], p, h => by
  have h : y ≠ p := h
  rw [bD]
  have e : mx eq p (y :: B) = if eq y p then mx eq y B else y :: mx eq y B := rfl
  rw [e, aY (fun q => h ((he _ _).1 q))]; rfl
 | z :: l, p, h => by
  have e : ((z :: l).getLast?).getD p = (l.getLast?).getD z := by cases l <;> rfl
  rw [e] at h
  rw [bO, mx, mx, IN he y B l z h]
  split <;> rfl
theorem Mj (he : ∀ x y, eq x y = true ↔ x = y) (A : List α) : ∀ B : List α, (∀ y, B.head? = some y → A.getLast? ≠ some y) → dd eq (A ++ B) = dd eq A ++ dd eq B
 | [], _ => by rw [bo]; show _ = dd eq A ++ []; rw [bo]
 | y :: B, h => by
  have h := h y rfl
  cases A with
  | nil => rfl
  | cons x A =>
   have e : (x :: A).getLast? = some ((A.getLast?).getD x) := by cases A <;> rfl
   rw [e] at h
   rw [bO, dd, dd, dd, IN he y B A x (fun q => h (by rw [q]))]; rfl
theorem G9 (he : ∀ x y, eq x y = true ↔ x = y) : ∀ (l : List α) (p : α), ((mx eq p l).getLast?).getD p = (l.getLast?).getD p
 | [], p => by rw [mx]
 | y :: l, p => by
  have e : ((y :: l).getLast?).getD p = (l.getLast?).getD y := by cases l <;> rfl
  rw [mx, e, ← G9 he l y]
  by_cases h : eq y p = true
  ·rw [aZ h, (he _ _).1 h]
  ·rw [aY h]
   cases mx eq y l <;> rfl
theorem OY (he : ∀ x y, eq x y = true ↔ x = y) (l : List α) : (dd eq l).getLast? = l.getLast? := by
 cases l with
 | nil => rfl
 | cons x l =>
  have e : ∀ m : List α, (x :: m).getLast? = some ((m.getLast?).getD x) := by intro m; cases m <;> rfl
  rw [dd, e, e, G9 he]
theorem PW (h : SWO lt) (he : ∀ x y, eq x y = true ↔ x = y) {k : α} {A B : List α} (j : ∀ x ∈ A, lt k x = false) (i : ∀ x ∈ B, lt k x = true) :
  dd eq (A ++ B) = dd eq A ++ dd eq B ∧ dd eq (A ++ k :: B) = (if yi eq A k then dd eq A else dd eq A ++ [k]) ++ dd eq B := by
 have h1 : ∀ y, B.head? = some y → A.getLast? ≠ some y := fun y d b => by
  have := i y (List.mem_of_mem_head? d)
  rw [j y (List.mem_of_getLast? b)] at this; cases this
 refine ⟨Mj he A B h1, ?_⟩
 have e : A ++ k :: B = (A ++ [k]) ++ B := by simp
 rw [e, Mj he (A ++ [k]) B, Oo he]
 intro y d b
 rw [List.getLast?_append] at b
 simp only [List.getLast?_singleton, Option.some_or, gd] at b
 have := i y (List.mem_of_mem_head? d)
 rw [b, h.NZ] at this; cases this
end
theorem E8 (l : List Formula) (k : Formula) (i : ∀ x ∈ l, Gd x) (hk : Gd k) (A : List Formula) (r : ∀ x ∈ A, mO Ae k x = false) : ∀ (m : Nat) (B C : List Formula), B.length = m → l = A ++ B ++ C → (∀ x ∈ B, mO Ae k x = true) → l.length ≤ 1000000 → ∀ n, m < n →
  ri l k n ((A.length + B.length : Nat) : Int) = some (A.length : Int)
 | 0, B, C, hm, b, h, hlen, n + 1, t => by
  obtain rfl := aO hm
  rw [ri]
  simp only [bP, gb]
  rcases cX A with rfl | ⟨A', y, rfl⟩
  ·rfl
  ·rw [dH] at *
   have hp : ((A' ++ [y]).length : Int) > 0 := by simp
   simp only [hp, bR, aJ]
   have hw : IntKind.i64.wrap (((A' ++ [y]).length : Int) - 1) = (A'.length : Int) := by
    simp at hlen b ⊢
    rw [b] at hlen
    simp at hlen
    rw [jZ (by omega) (by omega)]
   rw [hw, show kF l (A'.length : Int) = some y from by rw [b]; simp only [bo, aI]; exact my A' y C _ rfl, aA]
   have p : y ∈ l := by rw [b]; simp
   obtain ⟨c, e, j⟩ := HG y k (i y p) hk
   have d : ¬ c > 0 := fun q => by have := j.1 q; rw [r y (by simp)] at this; cases this
   rw [e, aA]
   simp [d]
 | m + 1, B, C, hm, b, h, hlen, n + 1, t => by
  rcases cX B with rfl | ⟨B', y, rfl⟩
  ·simp at hm
  ·rw [dH] at *
   rw [ri]
   have hp : ((A.length + (B' ++ [y]).length : Nat) : Int) > 0 := by simp; omega
   simp only [hp, bR, aJ]
   have hw : IntKind.i64.wrap (((A.length + (B' ++ [y]).length : Nat) : Int) - 1) = ((A.length + B'.length : Nat) : Int) := by
    rw [b] at hlen
    simp at hlen
    rw [jZ (by simp; omega) (by simp; omega)]; simp; omega
   have s : kF l ((A.length + B'.length : Nat) : Int) = some y := by
    rw [b]
    have e : A ++ (B' ++ [y]) ++ C = (A ++ B') ++ y :: C := by simp
    rw [e]
    exact my (A ++ B') y C _ (by simp)
   rw [hw, s, aA]
   have p : y ∈ l := by rw [b]; simp
   obtain ⟨c, e, j⟩ := HG y k (i y p) hk
   have d : c > 0 := j.2 (h y (by simp))
   rw [e, aA]
   simp only [d, bR, aA, aJ]
   exact E8 l k i hk A r m B' (y :: C) (by simp at hm; omega) (by rw [b]; simp) (fun x u => h x (by simp [u])) hlen n (by omega)
theorem RV {b : Bool} (h : b = true) : qi b = some () := by rw [h]; rfl
theorem Ea (b : Bool) (k : Formula) (ks A B : List Formula) (m : ∀ x ∈ A ++ B, Gd x) (hk : Gd k) (n : ∀ x ∈ A, mO Ae k x = false) (p : ∀ x ∈ B, mO Ae k x = true) (hlen : (A ++ B).length ≤ 1000000) :
  mj b (k :: ks) (A ++ B) = if b && yi oQ A k then mj b ks (A ++ B) else mj b ks (A ++ k :: B) := by
 have l := E8 (A ++ B) k m hk A n B.length B [] rfl (by simp) p hlen jP (by rw [lN]; simp at hlen; omega)
 have d : A.length + B.length ≤ 1000000 := by simpa using hlen
 rw [mj, aC, l, aA]
 have rest : ((qi (decide ((0 : Int) ≤ (A.length : Int)) && decide ((A.length : Int) ≤ ((A ++ B).length : Int)))).bind fun _ => (lC 72 ([]) ((A ++ B).take (Int.toNat (A.length : Int)))).bind fun h => (lC 72 h ([k])).bind fun i => (qi (decide ((0 : Int) ≤ (A.length : Int)) && decide ((A.length : Int) ≤ ((A ++ B).length : Int)))).bind fun _ => (lC 72 i ((A ++ B).drop (Int.toNat (A.length : Int)))).bind fun j => mj b ks j) = mj b ks (A ++ k :: B) := by
  rw [RV (by simp; omega), aA, dp, gi, List.drop_left, lD (by simp; omega) (by simp; omega), aA, lD (by simp; omega) (by simp; omega), aA, aA, lD (by simp; omega) (by simp; omega), aA]
  simp
 rw [aC] at rest
 cases b with
 | false => exact rest
 | true =>
  simp only [aJ, aA, dx]
  rcases cX A with rfl | ⟨A', y, rfl⟩
  ·exact rest
  ·rw [dH] at *
   have hp : ((A' ++ [y]).length : Int) > 0 := by simp
   simp only [hp, bR, aJ]
   have hw : IntKind.i64.wrap (((A' ++ [y]).length : Int) - 1) = (A'.length : Int) := by
    simp at d ⊢
    rw [jZ (by omega) (by omega)]
   have r : kF ((A' ++ [y]) ++ B) (A'.length : Int) = some y := by
    simp only [aI, bO, bD]
    exact my A' y B _ rfl
   rw [hw, r, aA, MR y k (m y (by simp)), aA, aA]
   have q : yi oQ (A' ++ [y]) k = oQ y k := by unfold yi; rw [List.getLast?_append]; rfl
   rw [q]
   cases oQ y k
   ·simp only [aB, aG]; exact rest
   ·rfl
theorem FI {x : Formula} {l : List Formula} (h : x ∈ dd oQ l) : x ∈ l := (Ik (fun _ _ => vr) l x).1 h
theorem Eo : ∀ (ks S : List Formula), J6 (mO Ae) S → (∀ x ∈ S, Gd x) → (∀ x ∈ ks, Gd x) → S.length + ks.length ≤ 1000000 → mj true ks (dd oQ S) = some (dd oQ (ks.foldl (Ab (mO Ae)) S))
 | [], S, _, _, _, _ => by rw [mj]; rfl
 | k :: ks, S, m, j, hk, p => by
  rw [aH] at p
  obtain ⟨A, B, rfl, d, i⟩ := Da GQ k m
  obtain ⟨q, r⟩ := PW (eq := oQ) GQ (fun _ _ => vr) d i
  have l := IU oQ (A ++ B)
  rw [q] at l ⊢
  rw [Ea true k ks (dd oQ A) (dd oQ B) (fun x b => by
   rcases aN.1 b with h | h
   ·exact j x (by simp [FI h])
   ·exact j x (by simp [FI h])) (hk k (by simp)) (fun x b => d x (FI b)) (fun x b => i x (FI b)) (by omega), fM, FQ d i]
  have s : yi oQ (dd oQ A) k = yi oQ A k := by unfold yi; rw [OY (eq := oQ) (fun _ _ => vr)]
  rw [s, dx]
  have ih := Eo ks (A ++ k :: B) (JU GQ m d i) (fun x b => by
   rcases aN.1 b with h | h
   ·exact j x (by simp [h])
   ·rcases aK.1 h with rfl | h
    ·exact hk _ (by simp)
    ·exact j x (by simp [h])) (fun x b => hk x (by simp [b])) (by simp at p ⊢; omega)
  rw [r] at ih
  cases n : yi oQ A k
  ·rw [n] at ih
   simp only [aB, aG] at ih ⊢
   rw [← ih]; simp
  ·rw [n] at ih
   simp only [aJ] at ih ⊢
   exact ih
theorem Fx : ∀ (ks S : List Formula), J6 (mO Ae) S → (∀ x ∈ S, Gd x) → (∀ x ∈ ks, Gd x) → S.length + ks.length ≤ 1000000 → mj false ks S = some (ks.foldl (Ab (mO Ae)) S)
 | [], S, _, _, _, _ => by rw [mj]; rfl
 | k :: ks, S, l, i, hk, m => by
  rw [aH] at m
  obtain ⟨A, B, rfl, b, d⟩ := Da GQ k l
  rw [Ea false k ks A B i (hk k (by simp)) b d (by omega), fM, FQ b d, eU]
  simp only [aB, aG]
  exact Fx ks (A ++ k :: B) (JU GQ l b d) (fun x j => by
   rcases aN.1 j with h | h
   ·exact i x (by simp [h])
   ·rcases aK.1 h with rfl | h
    ·exact hk _ (by simp)
    ·exact i x (by simp [h])) (fun x j => hk x (by simp [j])) (by simp at m ⊢; omega)
theorem Q2 (l : List Formula) (h : ∀ x ∈ l, Gd x) (b : l.length ≤ 1000000) : vp l true = some (dd oQ (tm l)) := Eo l [] List.Pairwise.nil (by simp) h (by simpa using b)
theorem R3 (l : List Formula) (h : ∀ x ∈ l, Gd x) (b : l.length ≤ 1000000) : vp l false = some (tm l) := Fx l [] List.Pairwise.nil (by simp) h (by simpa using b)
theorem DY (f : Formula) (op : Int) : vi f op = some (kI op f) := Cg f op
theorem HI (op : Int) (b : op = 2 ∨ op = 3) (s : mu) : ∀ l : List Formula, pI op s l = some (if l.any (kI (5 - op)) then .inl (⟨5 - op, 0, oe, []⟩, s) else .inr ())
 | [] => rfl
 | x :: l => by
  have hw : IntKind.i64.wrap (5 - op) = 5 - op := jZ (by omega) (by omega)
  rw [pI, hw, DY, aA, fh, HI op b s l]
  cases kI (5 - op) x <;> rfl
theorem L4 (op : Int) (b : op = 2 ∨ op = 3) (l : List Formula) (n : nodesL l ≤ 64) : mP op ⟨false⟩ [] l = some (if l.any (kI (5 - op)) then ⟨5 - op, 0, oe, []⟩ else match dd oQ (tm l) with | [x] => x | r => ⟨op, 0, oe, r⟩, ⟨false⟩) := by
 have i := oK l
 rw [mP, HI op b, aA]
 cases j : l.any (kI (5 - op))
 ·simp only [aB, aG]
  rw [Q2 l (fun x h => by have := ru h; unfold Gd; omega) (by omega), aA]
  have m := IU oQ (tm l)
  have hp := (wY l).length_eq
  have d : ¬ (((dd oQ (tm l)).length : Int) > 64) := by omega
  simp only [d, bT, aB, aG, aA]
  generalize dd oQ (tm l) = r
  match r with
  | [] => rfl
  | [x] => rfl
  | x :: y :: r =>
   have : (((x :: y :: r).length : Int) == 1) = false := by simp; omega
   simp only [this, aB, aG]
   rfl
 ·rfl
theorem ES (op : Int) (d : op = 2 ∨ op = 3) : ∀ (ks acc : List Formula), nodesL acc + nodesL ks ≤ 64 →
  mP op ⟨false⟩ ks acc = some (if (acc ++ na op ks).any (kI (5 - op)) then ⟨5 - op, 0, oe, []⟩ else match dd oQ (tm (acc ++ na op ks)) with | [x] => x | r => ⟨op, 0, oe, r⟩, ⟨false⟩)
 | [], acc, h => by
  rw [nodesL] at h
  rw [na, bo]
  exact L4 op d acc (by omega)
 | k :: ks, acc, h => by
  rw [nodesL] at h
  have h1 := nn k
  have m := oK k.Kids
  have n := oK acc
  have e : ∀ a b : List Formula, nodesL (a ++ b) = nodesL a + nodesL b := by
   intro a b
   induction a with
   | nil => rw [bD, nodesL]; omega
   | cons x a i => rw [bO, nodesL, nodesL, i]; omega
  have hw : IntKind.i64.wrap (5 - op) = 5 - op := jZ (by omega) (by omega)
  rw [mP, na]
  by_cases c : k.Op = op
  ·simp only [c, aV, aJ]
   rw [lD (by omega) (by omega), aA, ES op d ks _ (by rw [e]; omega), aI]
  ·have j : (k.Op == op) = false := by simpa using c
   simp only [j, aB, aG, c]
   rw [DY, hw, aA]
   cases l : kI (5 - op) k
   ·simp only [aB, aG]
    rw [lD (by simp; omega) (by simp; omega), aA, ES op d ks _ (by rw [e, nodesL, nodesL]; omega), aI]
   ·simp only [aJ]
    have : (acc ++ ([k] ++ na op ks)).any (kI (5 - op)) = true := by simp [l]
    rw [this]; rfl
theorem Kj (op : Int) (b : op = 2 ∨ op = 3) (ks : List Formula) (h : nodesL ks ≤ 64) : pw ⟨false⟩ op ks = some (nS op ks, ⟨false⟩) := by
 unfold pw nS
 rw [ES op b ks [] (by rw [nodesL]; omega), bD]
 rfl
theorem AF : ∀ (ks acc : List Formula) (k : Int), -1000 ≤ k - (ks.length : Int) → k ≤ 1000 → acc.length + ks.length ≤ 1000 →
  mL ks k acc = some (k - ((ks.filter (kI 2)).length : Int), acc ++ ks.filter fun x => !kI 2 x && !kI 3 x)
 | [], acc, k, h1, b, d => by rw [mL]; simp
 | x :: ks, acc, k, h1, b, d => by
  simp only [aH] at h1 d
  rw [mL, DY, aA, DY, aA]
  rw [dD, dD]
  cases c2 : kI 2 x
  ·cases h : kI 3 x
   ·simp only [cJ, iG, aB, aG, aJ]
    rw [lD (by simp; omega) (by simp; omega), aA, AF ks _ k (by omega) b (by simp; omega)]
    simp only [aI, bO, bD]
   ·simp only [cJ, bU, Bool.and_false, aB, aG]
    rw [AF ks _ k (by omega) b (by omega)]
  ·simp only [bU, eU, aB, aG, aJ]
   rw [jZ (by omega) (by omega), AF ks _ (k - 1) (by omega) (by omega) (by omega)]
   simp only [aH]
   have e : k - 1 - ((ks.filter (kI 2)).length : Int) = k - (((ks.filter (kI 2)).length + 1 : Nat) : Int) := by omega
   rw [e]
theorem PT : ∀ (n : Nat) (f : Formula), ng f ≤ n → jR f ≤ 64 → rn f = true → nT n ⟨false⟩ f = some (ow f, ⟨false⟩) := by
 intro n
 induction n with
 | zero => intro f h; rw [mc] at h; omega
 | succ n ih =>
  intro f y J hw
  rw [mc] at y
  have A := nn f
  obtain ⟨h1, w, s⟩ := vQ hw
  rw [nT]
  unfold tL
  rw [wZ]
  by_cases c1 : f.Op = 1
  ·simp only [c1, aV, aJ]
  ·have t : (f.Op == 1) = false := by simpa using c1
   simp only [t, aB, aG, c1]
   have last : ∀ acc : List Formula, nodesL acc ≤ 64 → nl (nT n) f [] acc ⟨false⟩ = some (if f.Op = 4 then qZ f.K acc else nS f.Op acc, ⟨false⟩) := by
    intro acc d
    have hlen := oK acc
    have I := xC (fun x => !kI 2 x && !kI 3 x) acc
    rw [nl]
    by_cases r : f.Op = 4
    ·have hk : 0 ≤ f.K ∧ f.K ≤ (f.Kids.length : Int) := by rcases s with h | h | h <;> omega
     have m : ¬ f.Op < 4 := by omega
     simp only [m, r, bT, aB, aG, aJ]
     rw [AF acc [] f.K (by omega) (by omega) (by simp; omega), aA, bD]
     unfold qZ
     simp only
     have j := oK (acc.filter fun x => !kI 2 x && !kI 3 x)
     have hm : ∀ x ∈ (acc.filter fun x => !kI 2 x && !kI 3 x), Gd x := fun x E => by have := ru E; unfold Gd; omega
     generalize (acc.filter fun x => !kI 2 x && !kI 3 x) = l at *
     generalize f.K - ((acc.filter (kI 2)).length : Int) = k
     by_cases d1 : k ≤ 0
     ·simp only [d1, bR, aJ]; rfl
     ·simp only [d1, bT, aB, aG]
      by_cases d2 : k > (l.length : Int)
      ·simp only [d2, bR, aJ]; rfl
      ·simp only [d2, bT, aB, aG]
       by_cases d3 : k = (l.length : Int)
       ·simp only [← d3, aV, aJ]
        rw [Kj 2 (.inl rfl) l (by omega), aA]
        rfl
       ·have u : (k == (l.length : Int)) = false := by simpa using d3
        simp only [u, aB, aG, d3]
        by_cases d4 : k = 1
        ·simp only [d4, aV, aJ]
         rw [Kj 3 (.inr rfl) l (by omega), aA]
         rfl
        ·have v : (k == 1) = false := by simpa using d4
         simp only [v, aB, aG, d4]
         rw [R3 l hm (by omega)]
         rfl
    ·have p : f.Op = 2 ∨ f.Op = 3 := by rcases s with h | h | h <;> omega
     have m : f.Op < 4 := by omega
     simp only [m, r, bR, aJ, aG]
     rw [Kj f.Op p acc d, aA]
   have key : ∀ (ks acc : List Formula), (∀ k ∈ ks, k ∈ f.Kids) → wellL ks = true → nodesL (acc ++ shapeL ks) ≤ 64 → nodesL ks ≤ 64 → nl (nT n) f ks acc ⟨false⟩ = some (if f.Op = 4 then qZ f.K (acc ++ shapeL ks) else nS f.Op (acc ++ shapeL ks), ⟨false⟩) := by
    intro ks
    induction ks with
    | nil =>
     intro acc _ _ d _
     rw [shapeL, bo] at *
     exact last acc d
    | cons k ks q =>
     intro acc hk b d j
     rw [wellL, aQ] at b
     rw [nodesL] at j
     rw [shapeL] at d
     have i := oK (acc ++ ow k :: shapeL ks)
     simp only [aC, aH] at i
     rw [nl, ih k (by have := pH (hk k (by simp)); omega) (by omega) b.1, aA, lD (by simp; omega) (by simp; omega), aA,
      q (acc ++ [ow k]) (fun z G => hk z (by simp [G])) b.2 (by rw [aI]; exact d) (by omega), shapeL]
     simp only [aI, bO, bD]
   have := CT f.Kids
   have := key f.Kids [] (fun k hk => hk) w (by simpa using by omega) (by omega)
   simpa using this
theorem Lh (f : Formula) (h : Gd f) : xf f = some (od f) := by
 unfold xf od
 rw [F2 f h, aA]
 cases d : mQ f
 ·rfl
 ·obtain ⟨h1, i, b⟩ := yc d
  have j := yv f
  simp only [bU, aB, aG, aJ]
  rw [PT jP f (by rw [lN]; omega) h1 b, aA, F2 (ow f) (by unfold Gd; omega)]
  simp only [aB, aG, aA]
  cases mQ (ow f) <;> rfl
theorem F6 (c : jm) : ∀ (l : List nh) (e o k : Int) (r : jl) (ks : List Formula), (∀ a ∈ l, jR a.ju ≤ 10000000) → jR ⟨o, k, r, ks⟩ ≤ 64 →
  sn c l e o k r ks = some (let t := nZ (⟨o, k, r, ks⟩, e) ((l.filter fun a => mM ko a.lx c).map (·.ju)); (t.2, t.1.Op, t.1.K, t.1.jl, t.1.Kids))
 | [], e, o, k, r, ks, _, _ => by rw [sn, gI, ez, nZ]
 | a :: l, e, o, k, r, ks, h, p => by
  have ha := h a (by simp)
  have j : ∀ x ∈ l, jR x.ju ≤ 10000000 := fun x v => h x (by simp [v])
  rw [sn, dD, xS]
  by_cases d : e = 0
  ·have i : (e == 0) = true := by simp [d]
   simp only [i, aJ, aA]
   cases z : mM ko a.lx c
   ·simp only [aB, aG]
    exact F6 c l e o k r ks j p
   ·simp only [aJ]
    rw [bF, nZ]
    simp only [d, aJ]
    have s : Gd ⟨2, 0, oe, [⟨o, k, r, ks⟩, a.ju]⟩ := by show jR _ ≤ _; rw [jR, nodesL, nodesL, nodesL]; omega
    rw [show (⟨2, 0, (⟨zS, zS⟩ : jl), [(⟨o, k, r, ks⟩ : Formula), a.ju]⟩ : Formula) = ⟨2, 0, oe, [⟨o, k, r, ks⟩, a.ju]⟩ from rfl, Lh _ s, aA]
    have u := uY (f := ⟨2, 0, oe, [⟨o, k, r, ks⟩, a.ju]⟩)
    generalize od ⟨2, 0, oe, [⟨o, k, r, ks⟩, a.ju]⟩ = q at *
    obtain ⟨⟨w, k', y, n⟩, e'⟩ := q
    exact F6 c l e' w k' y n j u
  ·have i : (e == 0) = false := by simpa using d
   simp only [i, aB, aG, aA]
   rw [F6 c l e o k r ks j p]
   have b : ∀ m : List Formula, nZ (⟨o, k, r, ks⟩, e) m = (⟨o, k, r, ks⟩, e) := by
    intro m
    cases m with
    | nil => rw [nZ]
    | cons g m => rw [nZ]; simp only [d, aG]
   rw [b, b]
theorem Lu (c : jm) (p : jQ) (hp : PB p) : ∀ l : List kK, (∀ x ∈ l, x ∈ p.jA) → wy c p l = some (match l.find? (fun x => ko x.Signed.jm c) with | none => (FM, 42) | some x => Bh x.ju ((yG p c).map (·.ju)))
 | [], _ => rfl
 | x :: l, h => by
  rw [wy, fN]
  cases m : ko x.Signed.jm c
  ·simp only [cJ, aJ]
   exact Lu c p hp l (fun z i => h z (by simp [i]))
  ·simp only [bU, aB, aG]
   have n := hp.rel x (h x (by simp))
   have d := uY (f := x.ju)
   rw [Lh _ (by unfold Gd; omega), aA]
   unfold Bh yG
   generalize od x.ju = q at *
   obtain ⟨⟨o, k, r, ks⟩, e⟩ := q
   rw [F6 c p.jO e o k r ks hp.Nd d, aA]
   simp only
   generalize nZ (⟨o, k, r, ks⟩, e) ((p.jO.filter fun a => mM ko a.lx c).map (·.ju)) = t
   obtain ⟨⟨s, k', u, j⟩, e'⟩ := t
   by_cases c1 : e' = 0
   ·subst c1; rfl
   ·have b : (e' != 0) = true := by simp [c1]
    simp only [b, aJ, c1, aG]; rfl
theorem Q4 (p : jQ) (hp : PB p) (c : jm) : Cp p c = some (pb p c) := by
 unfold Cp pb zj
 refine (Lu c p hp _ (fun x b => b)).trans ?_
 cases p.jA.find? (fun x => ko x.Signed.jm c) <;> rfl
theorem RT (l : List jl) (r : jl) : A0 l r = some (mM jG l r) := by
 unfold A0
 induction l with
 | nil => rfl
 | cons x l ih =>
  rw [xU, ih]
  have e : mM jG (x :: l) r = (jG r x || mM jG l r) := rfl
  have b : jG x r = jG r x := by rw [bI, jH, jH]; exact eq_comm
  rw [e, b]
  cases jG r x <;> rfl
theorem EF (l : List jl) (rec : Formula → List jl → Option Bool) (f : Formula) (v : jl → Bool) : ∀ (ks : List Formula) (x : Nat), (∀ k ∈ ks, rec k l = some (pc v k)) → x + ks.length ≤ 100000000 →
  qS rec l f ks (x : Int) = some (if f.Op = 2 then decide (x + evN v ks = f.Kids.length) else if f.Op = 3 then decide (0 < x + evN v ks) else decide (f.K ≤ ((x + evN v ks : Nat) : Int)))
 | [], x, _, _ => by
  rw [qS, evN, gb]
  by_cases c2 : f.Op = 2
  ·simp only [c2, aV, aJ]
   congr 1
   rw [bI, fR, bE]; omega
  ·have d : (f.Op == 2) = false := by simpa using c2
   simp only [d, aB, aG, c2]
   by_cases b : f.Op = 3
   ·simp only [b, aV, aJ]
    congr 1
    rw [bI, bE, bE]; omega
   ·have j : (f.Op == 3) = false := by simpa using b
    simp only [j, aB, aG, b]
    first | done | rfl
 | k :: ks, x, h, m => by
  rw [aH] at m
  rw [qS, h k (by simp), aA, evN]
  cases pc v k
  ·simp only [aB, aG]
   rw [EF l rec f v ks x (fun z i => h z (by simp [i])) (by omega), dI]
  ·simp only [aJ]
   have e : IntKind.i64.wrap ((x : Int) + 1) = ((x + 1 : Nat) : Int) := by rw [jZ (by omega) (by omega)]; omega
   rw [e, EF l rec f v ks (x + 1) (fun z i => h z (by simp [i])) (by omega)]
   have d : x + 1 + evN v ks = x + (1 + evN v ks) := by omega
   rw [d]
theorem N2 (l : List jl) : ∀ (n : Nat) (f : Formula), ng f ≤ n → Gd f → tj n f l = some (pc (mM jG l) f) := by
 intro n
 induction n with
 | zero => intro f h; rw [mc] at h; omega
 | succ n ih =>
  intro f d i
  rw [mc] at d
  have j := nn f
  have m := oK f.Kids
  unfold Gd at i
  rw [tj]
  unfold zd
  rw [uk, RT]
  by_cases c1 : f.Op = 1
  ·simp only [c1, aV, aJ, aA]
  ·have b : (f.Op == 1) = false := by simpa using c1
   simp only [b, aB, aG, c1]
   have := EF l (tj n) f (mM jG l) f.Kids 0 (fun k hk => ih k (by have := pH hk; omega) (by have := ru hk; unfold Gd; omega)) (by omega)
   simpa using this
theorem Hi (F : List jz) (w : ByteArray) : mM jG (Fo F w) = vF F w := by
 funext r
 unfold vF Fo
 rw [bI, ub jH, ub vT, bH]
 constructor
 ·rintro ⟨f, d, rfl⟩
  obtain ⟨h1, b⟩ := cR.1 d
  have := lH.1 b
  rw [← this]; exact h1
 ·intro h
  exact ⟨⟨r, w⟩, cR.2 ⟨h, lH.2 rfl⟩, rfl⟩
theorem Ck (p : jQ) (hp : PB p) (l : List jl) (v : jl → Bool) (b : mM jG l = v) : ∀ (xs : List kK) (acc : List jm), acc.length + xs.length ≤ 1000000000 → qR p l xs acc = yw (acc ++ (xs.filter (yu p v)).map (·.Signed.jm))
 | [], acc, _ => by rw [qR, gI, ez, bo, nK]
 | x :: xs, acc, h => by
  rw [aH] at h
  have j := GR p x.Signed.jm
  have i := ux (pb p x.Signed.jm).1
  rw [qR, Q4 p hp, aA, N2 l jP _ (by rw [lN]; omega) (by unfold Gd; omega), b, dD]
  unfold yu
  by_cases c : (pb p x.Signed.jm).2 = 0
  ·have d := (LD c).1
   simp only [c, aV, aJ, bR, dx, aA]
   unfold qN
   rw [d, dx]
   cases m : pc v (pb p x.Signed.jm).1
   ·simp only [aB, aG]
    exact Ck p hp l v b xs acc (by omega)
   ·simp only [aJ]
    rw [lD (by simp; omega) (by simp; omega), aA, Ck p hp l v b xs _ (by simp; omega)]
    simp only [bF, aI, bO, bD]
    rfl
  ·have e : ((pb p x.Signed.jm).2 == 0) = false := by simpa using c
   simp only [e, aB, aG, c, bT, eU, aA]
   exact Ck p hp l v b xs acc (by omega)
theorem QO {l : List jm} {F : List jz} (h : KD l F) (peer : ByteArray) : vF F peer = vD l peer := by
 funext r
 rw [bI, IG]
 unfold vF
 rw [ub vT, (h.vK (l.filter lm) (fun c => by rw [cR])).2]
theorem HC (p : jQ) (hp : PB p) (l : List jm) (h : l.length ≤ 30000) (peer : ByteArray) : vg p l peer = pM p l peer := by
 obtain ⟨F, b⟩ := QK l h
 obtain ⟨s, e, i⟩ := Ox p hp b peer
 have := hp.HB
 have h1 : (p.jA.filter (yu p (vF F peer))).length ≤ p.jA.length := eH _ _
 have hlen := b.len
 unfold vg
 rw [b.ref, aA, show sk F peer = some (Fo F peer) from Lw F peer (by omega), aA, e]
 rw [Ck p hp _ (vF F peer) (Hi F peer) p.jA [] (by simp; omega), bD]
 obtain ⟨t, d, j⟩ := JX ((p.jA.filter (yu p (vF F peer))).map (·.Signed.jm)) (by simp; omega)
 rw [d, uM.unique BP j i]
theorem I6 : ∀ (l m A : List jm), l.length = m.length → ∃ b, sL (A ++ m) l A.length = some b ∧ (b = true ↔ l = m)
 | [], m, A, h => by
  obtain rfl := aO h.symm
  exact ⟨true, by rw [sL], by simp⟩
 | x :: l, [], A, h => by simp at h
 | x :: l, y :: m, A, h => by
  have i1 : kF (A ++ y :: m) (A.length : Int) = some y := my _ _ _ _ rfl
  rw [sL, i1, aA]
  cases i : ko x y with
  | false =>
   refine ⟨false, by simp [i], ?_⟩
   have : x ≠ y := fun d => by have := pd.2 d; rw [this] at i; cases i
   simp [this]
  | true =>
   have d := pd.1 i
   obtain ⟨b, j, q⟩ := I6 l m (A ++ [y]) (by simpa using h)
   have n : A ++ y :: m = (A ++ [y]) ++ m := by simp
   have p : A.length + 1 = (A ++ [y]).length := by simp
   simp only [bU, aB, aG]
   rw [n, p, j]
   exact ⟨b, rfl, by rw [q]; simp [d]⟩
theorem Q8 (l m : List jm) : ∃ b, uX l m = some b ∧ (b = true ↔ l = m) := by
 unfold uX
 by_cases h : l.length = m.length
 ·have : ((l.length : Int) != (m.length : Int)) = false := by simp [h]
  simp only [this, aB, aG]
  exact I6 l m [] h
 ·have : ((l.length : Int) != (m.length : Int)) = true := by simp; omega
  simp only [this, aJ]
  exact ⟨false, rfl, by simp; intro hk; rw [hk] at h; exact h rfl⟩
theorem Iq {x p : List jm} (sx : oI x) (sp : oI p) (h : ∀ c ∈ x, c ∈ p) : uX p x = some (decide (p.length = x.length)) := by
 obtain ⟨b, e, d⟩ := Q8 p x
 rw [e]; congr 1
 rw [bI, d, bE]
 exact ⟨fun q => by rw [q], fun q => (sx.eq sp h (by omega)).symm⟩
theorem E9 (a b : jQ) (ha : PB a) (h : PB b) (v : a.jA.length ≤ 30000) (w : b.jA.length ≤ 30000) : ∀ (n : Nat) (x y : List jm) (i : Int), oI x → oI y → (∀ c ∈ x, rc a y b.Name c) → (∀ c ∈ y, rc b x a.Name c) →
  um a b n x y i = ox a b n x y i
 | 0, x, y, i, sx, sy, j, l => by rw [um, ox]
 | n + 1, x, y, i, sx, sy, j, l => by
  have h1 := wS sx (fun c d => (j c d).1)
  have z := wS sy (fun c d => (l c d).1)
  obtain ⟨p, t, sp, mp, A⟩ := DO a ha y (by omega) b.Name
  obtain ⟨q, u, sq, m, E⟩ := DO b h x (by omega) a.Name
  have r : ∀ c ∈ x, c ∈ p := fun c d => (mp c).2 (j c d)
  have s : ∀ c ∈ y, c ∈ q := fun c d => (m c).2 (l c d)
  rw [um, ox, HC a ha y (by omega), HC b h x (by omega), t, u]
  simp only [aA]
  rw [Iq sx sp r, Iq sy sq s]
  simp only [aA]
  have ih := E9 a b ha h v w n p q (IntKind.i64.wrap (i + 1)) sp sq (fun c d => rB s ((mp c).1 d)) (fun c d => rB r ((m c).1 d))
  rw [ih]
  have d1 : ((p.length : Int) == (x.length : Int)) = decide (p.length = x.length) := by
   rw [bI, fR, bE]; omega
  have d2 : ((q.length : Int) == (y.length : Int)) = decide (q.length = y.length) := by
   rw [bI, fR, bE]; omega
  rw [d1, d2]
theorem JH (a b : jQ) (ha : PB a) (d : PB b) (h : a.jA.length ≤ 30000) (i : b.jA.length ≤ 30000) : BN a b = rz a b :=
 E9 a b ha d h i jP [] [] 0 oI.nil oI.nil (by simp) (by simp)
mutual
def xL : Formula → Nat
 | ⟨_, _, r, ks⟩ => 1 + r.jo.size + r.Word.size + szFL ks
def szFL : List Formula → Nat
 | [] => 0
 | k :: ks => xL k + szFL ks
end
theorem IM (f : Formula) : xL f = 1 + f.jl.jo.size + f.jl.Word.size + szFL f.Kids := by cases f; rw [xL]
theorem AI : ∀ f : Formula, jR f ≤ xL f := by
 refine HQ fun f ih => ?_
 have : ∀ ks : List Formula, (∀ k ∈ ks, jR k ≤ xL k) → nodesL ks ≤ szFL ks := by
  intro ks
  induction ks with
  | nil => intro _; rw [nodesL]; omega
  | cons k ks b =>
   intro h
   have := b (fun x d => h x (by simp [d]))
   have := h k (by simp)
   rw [nodesL, szFL]; omega
 have := this f.Kids ih
 rw [nn, IM]; omega
def wH : List jm → Nat
 | [] => 0
 | c :: l => 20 + wv c + wH l
theorem g5 : ∀ (l : List jm) (n : Int), 0 ≤ n → n + (wH l : Int) ≤ 4000000000000000000 → qn l n = some (n + (wH l : Int))
 | [], n, _, _ => by rw [qn, wH]; simp
 | c :: l, n, d, b => by
  have e : wv c = c.Head.jo.size + c.Head.Word.size + c.ke.size + c.B.jo.size + c.B.Word.size + c.C.jo.size + c.C.Word.size + c.kp.size := rfl
  rw [wH] at b
  rw [qn]
  rw [jZ (x := 20 + (c.Head.jo.size : Int)) (by omega) (by omega), jZ (x := 20 + (c.Head.jo.size : Int) + (c.Head.Word.size : Int)) (by omega) (by omega), jZ (x := 20 + (c.Head.jo.size : Int) + (c.Head.Word.size : Int) + (c.ke.size : Int)) (by omega) (by omega), jZ (x := 20 + (c.Head.jo.size : Int) + (c.Head.Word.size : Int) + (c.ke.size : Int) + (c.B.jo.size : Int)) (by omega) (by omega), jZ (x := 20 + (c.Head.jo.size : Int) + (c.Head.Word.size : Int) + (c.ke.size : Int) + (c.B.jo.size : Int) + (c.B.Word.size : Int)) (by omega) (by omega), jZ (x := 20 + (c.Head.jo.size : Int) + (c.Head.Word.size : Int) + (c.ke.size : Int) + (c.B.jo.size : Int) + (c.B.Word.size : Int) + (c.C.jo.size : Int)) (by omega) (by omega), jZ (x := 20 + (c.Head.jo.size : Int) + (c.Head.Word.size : Int) + (c.ke.size : Int) + (c.B.jo.size : Int) + (c.B.Word.size : Int) + (c.C.jo.size : Int) + (c.C.Word.size : Int)) (by omega) (by omega), jZ (x := 20 + (c.Head.jo.size : Int) + (c.Head.Word.size : Int) + (c.ke.size : Int) + (c.B.jo.size : Int) + (c.B.Word.size : Int) + (c.C.jo.size : Int) + (c.C.Word.size : Int) + (c.kp.size : Int)) (by omega) (by omega), jZ (by omega) (by omega)]
  rw [g5 l _ (by omega) (by omega), wH]
  congr 1; omega
theorem SB : ∀ (n : Nat) (l : List Formula), deepL l < n → szFL l ≤ 1000000000000 → ∃ r : Int, nQ n l = some r ∧ 0 ≤ r ∧ r ≤ (szFL l : Int) := by
 intro n
 induction n with
 | zero => intro l h; omega
 | succ n ih =>
  intro l h j
  rw [nQ]
  unfold uT
  have key : ∀ (l : List Formula) (x : Int), deepL l < n + 1 → 0 ≤ x → x + (szFL l : Int) ≤ 1000000000000 → ∃ r : Int, qu (nQ n) l x = some r ∧ 0 ≤ r ∧ r ≤ x + (szFL l : Int) := by
   intro l
   induction l with
   | nil => intro x _ m _; exact ⟨x, by rw [qu], m, by rw [szFL]; simp⟩
   | cons k l i =>
    intro x h m j
    rw [deepL] at h
    rw [szFL] at j
    have hk := IM k
    have := mc k
    obtain ⟨r, e, h1, p⟩ := ih k.Kids (by omega) (by omega)
    rw [qu, e, aA]
    have t : 0 ≤ Int.tdiv ((k.jl.jo.size : Int) + (k.jl.Word.size : Int)) 16 ∧ Int.tdiv ((k.jl.jo.size : Int) + (k.jl.Word.size : Int)) 16 ≤ (k.jl.jo.size : Int) + (k.jl.Word.size : Int) := by
     rw [Int.tdiv_eq_ediv_of_nonneg (by omega)]
     omega
    rw [jZ (x := (k.jl.jo.size : Int) + (k.jl.Word.size : Int)) (by omega) (by omega)]
    generalize Int.tdiv ((k.jl.jo.size : Int) + (k.jl.Word.size : Int)) 16 = d at *
    rw [jZ (x := d) (by omega) (by omega), jZ (x := 1 + d) (by omega) (by omega), jZ (x := 1 + d + r) (by omega) (by omega), jZ (x := x + (1 + d + r)) (by omega) (by omega)]
    obtain ⟨s, e', b, q⟩ := i (x + (1 + d + r)) (by omega) (by omega) (by omega)
    exact ⟨s, e', b, by rw [szFL]; omega⟩
  obtain ⟨r, e, h1, p⟩ := key l 0 h (by omega) (by omega)
  exact ⟨r, e, h1, by omega⟩
theorem Gr (f : Formula) (h : xL f ≤ 50000000) : ∃ r : Int, nQ jP [f] = some r ∧ 0 ≤ r ∧ r ≤ (xL f : Int) := by
 have h1 := AI f
 have d := ux f
 obtain ⟨r, e, a, b⟩ := SB jP [f] (by rw [deepL, deepL, lN]; omega) (by rw [szFL, szFL]; omega)
 refine ⟨r, e, a, ?_⟩
 rw [szFL, szFL] at b; omega
theorem g6 (s : Signed) (h : wv s.jm + s.Tag.length ≤ 1000000000) : sw [] [s] = some (20 + (wv s.jm : Int) + (s.Tag.length : Int)) := by
 unfold sw
 rw [pn, qv]
 have := g5 [s.jm] 0 (by omega) (by rw [wH, wH]; omega)
 rw [show ud [s.jm] = _ from this, aA, qv, wH, wH]
 rw [jZ (x := 0 + ((20 + wv s.jm + 0 : Nat) : Int) + (s.Tag.length : Int)) (by omega) (by omega), jZ (by omega) (by omega)]
 simp only [aA]
 congr 1; omega
def AW : List kK → Nat
 | [] => 0
 | x :: l => 20 + wv x.Signed.jm + x.Signed.Tag.length + 20 * xL x.ju + AW l
def zG : List nh → Nat
 | [] => 0
 | a :: l => a.jl.jo.size + a.jl.Word.size + 20 * xL a.ju + wH a.lx + zG l
def G2 (p : jQ) : Nat := p.Name.size + AW p.jA + zG p.jO
theorem MG : ∀ (l : List nh) (x : Int), 0 ≤ x → x + (zG l : Int) ≤ 1000000000 → ∃ r : Int, qx l x = some r ∧ x ≤ r ∧ r ≤ x + (zG l : Int)
 | [], x, _, _ => ⟨x, by rw [qx], by omega, by rw [zG]; omega⟩
 | a :: l, x, j, h => by
  rw [zG] at h
  obtain ⟨r, e, h1, m⟩ := Gr a.ju (by omega)
  have b := g5 a.lx 0 (by omega) (by omega)
  rw [qx, e, aA, show ud a.lx = _ from b, aA]
  rw [jZ (x := (a.jl.jo.size : Int) + (a.jl.Word.size : Int)) (by omega) (by omega), jZ (x := 20 * r) (by omega) (by omega), jZ (x := (a.jl.jo.size : Int) + (a.jl.Word.size : Int) + 20 * r) (by omega) (by omega), jZ (x := (a.jl.jo.size : Int) + (a.jl.Word.size : Int) + 20 * r + (0 + (wH a.lx : Int))) (by omega) (by omega), jZ (by omega) (by omega)]
  obtain ⟨d, e', i, a2⟩ := MG l (x + ((a.jl.jo.size : Int) + (a.jl.Word.size : Int) + 20 * r + (0 + (wH a.lx : Int)))) (by omega) (by omega)
  exact ⟨d, e', by omega, by rw [zG]; omega⟩
theorem RC (p : jQ) (i : G2 p ≤ 1000000000) : ∃ r : Int, uo p = some r ∧ 20 * (p.jA.length : Int) ≤ r ∧ r ≤ (G2 p : Int) := by
 unfold G2 at i
 have key : ∀ (l : List kK) (x : Int), 0 ≤ x → x + (AW l : Int) + (zG p.jO : Int) ≤ 1000000000 → ∃ r : Int, qp p l x = some r ∧ x + 20 * (l.length : Int) ≤ r ∧ r ≤ x + (AW l : Int) + (zG p.jO : Int) := by
  intro l
  induction l with
  | nil =>
   intro x d h
   rw [AW] at h
   obtain ⟨r, e, a, b⟩ := MG p.jO x d (by omega)
   exact ⟨r, by rw [qp, e]; rfl, by simp; omega, by rw [AW]; omega⟩
  | cons y l ih =>
   intro x d h
   rw [AW] at h
   obtain ⟨r, e, h1, m⟩ := Gr y.ju (by omega)
   rw [qp, g6 y.Signed (by omega)]
   simp only [aA]
   rw [e, aA]
   rw [jZ (x := 20 * r) (by omega) (by omega), jZ (x := 20 + (wv y.Signed.jm : Int) + (y.Signed.Tag.length : Int) + 20 * r) (by omega) (by omega), jZ (by omega) (by omega)]
   obtain ⟨j, e', a, b⟩ := ih (x + (20 + (wv y.Signed.jm : Int) + (y.Signed.Tag.length : Int) + 20 * r)) (by omega) (by omega)
   exact ⟨j, e', by rw [aH]; omega, by rw [AW]; omega⟩
 obtain ⟨r, e, a, b⟩ := key p.jA (p.Name.size : Int) (by omega) (by omega)
 unfold uo
 exact ⟨r, e, by omega, by unfold G2; omega⟩
def BT : List Key → Nat
 | [] => 0
 | k :: l => 10 + k.ke.size + k.Key.length + BT l
theorem RF : ∀ (ks : List Key) (x : Int), 0 ≤ x → x + (BT ks : Int) ≤ 2000000000 → pn [] ks x = some (x + (BT ks : Int))
 | [], x, _, _ => by rw [pn, qv, BT]; simp
 | k :: ks, x, b, h => by
  rw [BT] at h
  rw [pn, jZ (x := 10 + (k.ke.size : Int)) (by omega) (by omega), jZ (x := 10 + (k.ke.size : Int) + (k.Key.length : Int)) (by omega) (by omega), jZ (by omega) (by omega), RF ks _ (by omega) (by omega), BT]
  congr 1; omega
structure PQ (p : oH) : Prop extends PP p where
 go : G2 p.jo ≤ 1000000000
 gc : G2 p.Client ≤ 1000000000
 fs : xL p.Formula ≤ 50000000
 ks : BT p.Keys ≤ 1000000000
theorem Ss (p : oH) (hp : PQ p) : ∃ r : Int, wB p = some r ∧ 20 * (p.jo.jA.length : Int) + 20 * (p.Client.jA.length : Int) ≤ r := by
 have h := hp.go
 have d := hp.gc
 have t := hp.ks
 have b := hp.fs
 obtain ⟨i, m, u, v⟩ := RC p.jo h
 obtain ⟨j, n, a2, w⟩ := RC p.Client d
 obtain ⟨l, q, a3, y⟩ := Gr p.Formula b
 have s := RF p.Keys 0 (by omega) (by omega)
 unfold wB
 rw [m, aA, n, aA]
 simp only [aA]
 rw [q, aA, show sw p.Keys [] = _ from s, aA]
 rw [jZ (x := i + j) (by omega) (by omega), jZ (x := 20 * l) (by omega) (by omega), jZ (x := i + j + 20 * l) (by omega) (by omega), jZ (by omega) (by omega)]
 exact ⟨_, rfl, by omega⟩
theorem Ov (a b : jQ) (f : Formula) (ha : PB a) (i : PB b) (q : a.jA.length ≤ 30000) (s : b.jA.length ≤ 30000) (h : Gd f) :
  ∃ x y j, rz a b = some (x, y, j) ∧ JG a b x y ∧ pT a b f = some (qN (vD y b.Name) f) ∧ xX a b f = some (qN (vD y b.Name) f) := by
 obtain ⟨x, y, j, e, F⟩ := Ls a b ha i (by omega) (by omega)
 have v := F.ly
 obtain ⟨G, d⟩ := QK y (by omega)
 obtain ⟨m, n, _, p⟩ := d.RK
 have l := QO d b.Name
 refine ⟨x, y, j, e, F, ?_, ?_⟩
 ·unfold pT yS
  rw [e, aA, n, aA, aA]
  rw [Ke (vD y b.Name) _ (fun r => by unfold tX; rw [nK, p, ← l]; rfl) f h]
  rfl
 ·have t := ux f
  unfold xX
  rw [F2 f h, aA]
  unfold qN
  cases u : mQ f
  ·rfl
  ·simp only [aJ]
   unfold Cv
   rw [JH a b ha i q s, e, aA, d.ref, aA, show sk G b.Name = some (Fo G b.Name) from Lw G b.Name (by have := d.len; omega)]
   simp only [aA]
   rw [N2 _ jP f (by rw [lN]; unfold Gd at h; omega) h, Hi, l]
   rfl
def Ry (l : List kK) (i : Int) : Prop := 0 ≤ i ∧ i < l.length
instance (l : List kK) (i : Int) : Decidable (Ry l i) := by unfold Ry; infer_instance
theorem oI.take {s : List jm} (h : oI s) (n : Nat) : oI (s.take n) := ⟨h.1.sublist (List.take_sublist n s), fun c b => h.2 c (List.mem_of_mem_take b)⟩
theorem bb {α β γ : Type} (x : Option α) (f : α → Option β) (g : β → Option γ) : (x.bind fun a => (f a).bind g) = (x.bind f).bind g := by cases x <;> rfl
theorem Kt (f : jm → Option Bool) (p : jm → Bool) (l : List jm) (h : ∀ x ∈ l, f x = some (p x)) : pe l f = some (l.any p) := by
 unfold pe oB
 rw [GP]; exact Nx f p l h
def ta (k e : Int) (i : Nat) : jK := ⟨k, e, (i : Int)⟩
def wR (e : Int) (free goes : List jm) : List kK → Nat → List jK
 | [], _ => []
 | x :: xs, i => (if mM ko free x.Signed.jm then (if mM ko goes x.Signed.jm then [] else [ta 1 e i]) else [ta 2 e i]) ++ wR e free goes xs (i + 1)
def vR (e : Int) (all : List jm) : List nh → Nat → List jK
 | [], _ => []
 | a :: l, i => (if a.lx.any (mM ko all) then [] else [ta 3 e i]) ++ vR e all l (i + 1)
theorem GN (e : Int) (free goes : List jm) : ∀ (l : List kK) (i : Nat), (wR e free goes l i).length ≤ l.length
 | [], i => by simp [wR]
 | x :: l, i => by
  have := GN e free goes l (i + 1)
  rw [wR, aC, aH]
  split
  ·split <;> simp <;> omega
  ·simp; omega
theorem GA (e : Int) (all : List jm) : ∀ (l : List nh) (i : Nat), (vR e all l i).length ≤ l.length
 | [], i => by simp [vR]
 | x :: l, i => by
  have := GA e all l (i + 1)
  rw [vR, aC, aH]
  split <;> simp <;> omega
def qU (p : jQ) : List jm := p.jA.map (·.Signed.jm)
theorem HE (p : jQ) (h : p.jA.length ≤ 1000000) : xI p = some (qU p) ∧ yp p = some (qU p) := by
 have key : ∀ (l : List kK) (acc : List jm), acc.length + l.length ≤ 1000000 → so l acc = some (acc ++ l.map (·.Signed.jm)) ∧ tF l acc = some (acc ++ l.map (·.Signed.jm)) := by
  intro l
  induction l with
  | nil => intro acc _; rw [so, tF]; simp
  | cons x l ih =>
   intro acc h
   rw [aH] at h
   obtain ⟨a, b⟩ := ih (acc ++ [x.Signed.jm]) (by simp; omega)
   rw [so, tF, lD (by simp; omega) (by simp; omega), aA, aA, a, b]
   simp
 have := key p.jA [] (by simpa using h)
 simpa [xI, yp, qU] using this
theorem GO (l : List jm) (c : jm) : pf l c = some (mM ko l c) := by unfold pf; rw [nK, It]
theorem yF (e : Int) (free goes : List jm) : ∀ (l : List kK) (i : Nat) (acc : List jK), acc.length + l.length ≤ 1000000 → oJ free e goes l i acc = some (acc ++ wR e free goes l i)
 | [], i, acc, _ => by rw [oJ, wR, bo]
 | x :: l, i, acc, h => by
  rw [aH] at h
  rw [oJ, wR, GO, aA, GO, aA]
  cases mM ko free x.Signed.jm
  ·simp only [cJ, aJ, aB, aG]
   rw [lD (by simp; omega) (by simp; omega), aA, yF e free goes l (i + 1) _ (by simp; omega)]
   simp [ta]
  ·simp only [bU, aB, aG, aJ]
   cases mM ko goes x.Signed.jm
   ·simp only [cJ, aJ, aB, aG]
    rw [lD (by simp; omega) (by simp; omega), aA, yF e free goes l (i + 1) _ (by simp; omega)]
    simp [ta]
   ·simp only [bU, aB, aG, aJ]
    rw [yF e free goes l (i + 1) acc (by omega)]
    simp
theorem B5 (e : Int) (all : List jm) : ∀ (l : List nh) (i : Nat) (acc : List jK), acc.length + l.length ≤ 3000000 → qw all e l i acc = some (acc ++ vR e all l i)
 | [], i, acc, _ => by rw [qw, vR, bo]
 | a :: l, i, acc, h => by
  rw [aH] at h
  rw [qw, vR, Kt _ (mM ko all) a.lx (fun c _ => by unfold vn; rw [nK, GO]), aA]
  cases a.lx.any (mM ko all)
  ·simp only [cJ, aJ, aB, aG]
   rw [lD (by simp; omega) (by simp; omega), aA, B5 e all l (i + 1) _ (by simp; omega)]
   simp [ta]
  ·simp only [bU, aB, aG, aJ]
   rw [B5 e all l (i + 1) acc (by omega)]
   simp
theorem GM (p : jQ) (hp : p.jA.length ≤ 1000000) : ∀ (cs : List jm) (b : Bool), tG p cs b = some (b && !(cs.any (mM ko (qU p))))
 | [], b => by rw [tG]; simp
 | c :: cs, b => by
  rw [tG, (HE p hp).2]
  simp only [aA, xS]
  cases b
  ·simp only [aB, aG, aA]
   rw [GM p hp cs false]
   simp
  ·simp only [aJ, aA]
   rw [GM p hp cs _]
   rw [fh]
   cases mM ko (qU p) c <;> simp
theorem GK (p : jQ) (hp : p.jA.length ≤ 1000000) (e : Int) : ∀ (l : List nh) (i : Nat) (acc : List jK), acc.length + l.length ≤ 3000000 → rI p e l i acc = some (acc ++ vR e (qU p) l i)
 | [], i, acc, _ => by rw [rI, vR, bo]
 | a :: l, i, acc, h => by
  rw [aH] at h
  rw [rI, vR, GM p hp, aA, dx]
  cases a.lx.any (mM ko (qU p))
  ·simp only [cJ, aJ, aB, aG]
   rw [lD (by simp; omega) (by simp; omega), aA, GK p hp e l (i + 1) _ (by simp; omega)]
   simp [ta]
  ·simp only [bU, aB, aG, aJ]
   rw [GK p hp e l (i + 1) acc (by omega)]
   simp
theorem Bp (p : jQ) (hp : p.jA.length ≤ 1000000) (ha : p.jO.length ≤ 2000000) (e : Int) (free goes : List jm) : ∀ (l : List kK) (i : Nat) (acc : List jK), acc.length + l.length ≤ 1000000 →
  qm free e goes p l i acc = some (acc ++ wR e free goes l i ++ vR e (qU p) p.jO 0)
 | [], i, acc, h => by rw [qm, wR, bo, GK p hp e p.jO 0 acc (by simp at h; omega)]; rfl
 | x :: l, i, acc, h => by
  rw [aH] at h
  rw [qm, wR, xS, aA, xS, aA]
  cases mM ko free x.Signed.jm
  ·simp only [cJ, aJ, aB, aG]
   rw [lD (by simp; omega) (by simp; omega), aA, Bp p hp ha e free goes l (i + 1) _ (by simp; omega)]
   simp [ta]
  ·simp only [bU, aB, aG, aJ]
   cases mM ko goes x.Signed.jm
   ·simp only [cJ, aJ, aB, aG]
    rw [lD (by simp; omega) (by simp; omega), aA, Bp p hp ha e free goes l (i + 1) _ (by simp; omega)]
    simp [ta]
   ·simp only [bU, aB, aG, aJ]
    rw [Bp p hp ha e free goes l (i + 1) acc (by omega)]
    simp
theorem Mn (n : Nat) (b : n ≤ 1000000000) : pC (n : Int) = some [] := by
 unfold pC
 rw [aY (by simp), jZ (x := 0 - 0) (by omega) (by omega), show (n : Int) - (0 - 0) = n by omega, jZ (x := (n : Int)) (by omega) (by omega)]
 by_cases h : 0 < n
 ·rw [aZ (by simpa using h)]
  unfold F4
  rw [aZ ⟨by omega, by omega, by unfold maxLen; omega⟩]
  simp [qi]
 ·rw [aY (by simpa using h)]; rfl
theorem FK : ∀ (b : List (List jK)) (acc : List jK), acc.length + (b.map List.length).sum ≤ 1000000000 → mX b acc = some (acc ++ b.flatten)
 | [], acc, _ => by rw [mX]; simp
 | x :: b, acc, h => by
  rw [bF, ek] at h
  rw [mX, lD (by omega) (by omega), aA, FK b _ (by simp; omega)]
  simp
theorem FD (a0 : List (List jK)) (d : (a0.map List.length).sum ≤ 1000000000) : ∀ (b : List (List jK)) (n : Nat), n + (b.map List.length).sum ≤ 1000000000 → mV a0 b (n : Int) = some a0.flatten
 | [], n, h => by
  rw [mV, Mn n (by omega), aA, FK a0 [] (by simpa using d)]
  simp
 | x :: b, n, h => by
  rw [bF, ek] at h
  rw [mV, jZ (by omega) (by omega), aY (by simp; omega), show (n : Int) + (x.length : Int) = ((n + x.length : Nat) : Int) by omega]
  exact FD a0 d b (n + x.length) (by omega)
theorem OH (b : List (List jK)) (h : (b.map List.length).sum ≤ 1000000000) : qc b = some b.flatten := by
 unfold qc
 exact FD b h b 0 (by omega)
noncomputable def A8 (f : Formula) : Bool := decide ((od f).2 = 0) && oQ (od f).1 ⟨2, 0, oe, []⟩
theorem JN (f : Formula) : A8 f = (decide ((od f).2 = 0) && (decide ((od f).1.Op = 2) && decide ((od f).1.Kids.length = 0))) := by
 unfold A8
 by_cases h : (od f).2 = 0
 ·have j := (E6 (f := f) (g := (od f).1) (by rw [← h])).2.1
  unfold mQ at j
  rw [aQ, Cf, aQ, aQ] at j
  have d := j.2.1
  rw [aQ] at d
  have i := d.1
  rw [bI]
  simp only [aQ, bE, vr]
  refine ⟨fun ⟨a, b⟩ => ⟨a, by rw [b], by rw [b]; rfl⟩, fun ⟨a, b, c⟩ => ⟨a, ?_⟩⟩
  unfold AL at i
  have p : ¬ (od f).1.Op = 1 := by omega
  rw [aY p, aZ (.inl b), aQ, bE] at i
  have l := jH.1 i.1
  have m := aO c
  have n := i.2
  generalize (od f).1 = g at *
  obtain ⟨o, k, r, ks⟩ := g
  simp only at b l m n
  rw [b, l, m, n]
 ·simp [h]
noncomputable def HH (p : oH) (y : List jm) : List jK := if A8 p.Formula then [⟨4, 0, 0⟩] else if qN (vD y p.Client.Name) p.Formula then [] else [⟨5, 0, 0⟩]
structure QH (p : oH) (x y f g : List jm) : Prop where
 F : JG p.jo p.Client x y
 ff : ∀ c, c ∈ f ↔ rc p.jo (qU p.Client) p.Client.Name c
 fg : ∀ c, c ∈ g ↔ rc p.Client (qU p.jo) p.jo.Name c
noncomputable def D3 (p : oH) (x y f g : List jm) : List jK := wR 0 f x p.jo.jA 0 ++ vR 0 (qU p.jo) p.jo.jO 0 ++ (wR 1 g y p.Client.jA 0 ++ vR 1 (qU p.Client) p.Client.jO 0) ++ HH p y
theorem JO (p : oH) (ha : PB p.jo) (d : PB p.Client) (q : p.jo.jA.length ≤ 30000) (r : p.Client.jA.length ≤ 30000) (E : p.jo.jO.length ≤ 2000000) (I : p.Client.jO.length ≤ 2000000) (n : Gd p.Formula) :
  ∃ x y j f g, rz p.jo p.Client = some (x, y, j) ∧ QH p x y f g ∧ pT p.jo p.Client p.Formula = some (qN (vD y p.Client.Name) p.Formula) ∧
   sV p = some (D3 p x y f g) ∧ CV p = some (D3 p x y f g) := by
 obtain ⟨x, y, j, e, w, g1, g2⟩ := Ov p.jo p.Client p.Formula ha d q r n
 have Og : (qU p.jo).length ≤ 30000 := by simpa [qU] using q
 have J : (qU p.Client).length ≤ 30000 := by simpa [qU] using r
 obtain ⟨f, s, Y, L, U⟩ := DO p.jo ha (qU p.Client) (by omega) p.Client.Name
 obtain ⟨g, t, sg, M, W⟩ := DO p.Client d (qU p.jo) (by omega) p.jo.Name
 have P := GN 0 f x p.jo.jA 0
 have k2 := GN 1 g y p.Client.jA 0
 have Q := GA 0 (qU p.jo) p.jo.jO 0
 have R := GA 1 (qU p.Client) p.Client.jO 0
 have T : (HH p y).length ≤ 1 := by unfold HH; split; exact aR _; split <;> simp
 refine ⟨x, y, j, f, g, e, ⟨w, L, M⟩, g1, ?_, ?_⟩
 ·have G : xF p = some (HH p y) := by
   unfold xF HH A8
   rw [Gk p.Formula n, g1]
   have O := uY (f := p.Formula)
   have z : Gd (od p.Formula).1 := by unfold Gd; omega
   unfold sH
   simp only [aA, JL _ _ z]
   have A : (⟨2, 0, (⟨zS, zS⟩ : jl), []⟩ : Formula) = ⟨2, 0, oe, []⟩ := rfl
   rw [A]
   by_cases h : (od p.Formula).2 = 0
   ·simp only [h, aV, aJ, aA, bR, dx]
    cases oQ (od p.Formula).1 ⟨2, 0, oe, []⟩ <;> cases qN (vD y p.Client.Name) p.Formula <;> rfl
   ·have : ((od p.Formula).2 == 0) = false := by simpa using h
    simp only [this, h, aB, aG, aA, bT, eU]
    cases qN (vD y p.Client.Name) p.Formula <;> rfl
  unfold sV
  rw [e, G]
  unfold xD yn
  rw [(HE p.jo (by omega)).1, (HE p.Client (by omega)).1]
  simp only [aA]
  rw [s, t]
  simp only [aA]
  rw [yF 0 f x _ 0 [] (by simp; omega), yF 1 g y _ 0 [] (by simp; omega), B5 0 _ _ 0 [] (by simp; omega), B5 1 _ _ 0 [] (by simp; omega)]
  simp only [aA, bD]
  rw [OH _ (by simp; omega)]
  unfold D3
  simp
 ·unfold CV
  rw [JH p.jo p.Client ha d q r, e, aA]
  unfold AZ
  rw [(HE p.jo (by omega)).2, (HE p.Client (by omega)).2]
  simp only [aA]
  rw [HC _ ha _ (by omega), HC _ d _ (by omega), s, t]
  simp only [aA]
  rw [Bp p.jo (by omega) E 0 f x _ 0 [] (by simp; omega), aA, Bp p.Client (by omega) I 1 g y _ 0 [] (by simp; omega), aA, bD, bD, lD (by simp; omega) (by simp; omega), aA, Lh p.Formula n, aA, g2]
  have i := JN p.Formula
  have L1 : (wR 0 f x p.jo.jA 0 ++ vR 0 (qU p.jo) p.jo.jO 0 ++ (wR 1 g y p.Client.jA 0 ++ vR 1 (qU p.Client) p.Client.jO 0)).length ≤ 5000000 := by simp; omega
  unfold D3 HH
  rw [i]
  generalize wR 0 f x p.jo.jA 0 ++ vR 0 (qU p.jo) p.jo.jO 0 ++ (wR 1 g y p.Client.jA 0 ++ vR 1 (qU p.Client) p.Client.jO 0) = l at *
  have a4 := lD (b := 24) (l := l) (m := [(⟨4, 0, 0⟩ : jK)]) (by simp; omega) (by simp; omega)
  have a5 := lD (b := 24) (l := l) (m := [(⟨5, 0, 0⟩ : jK)]) (by simp; omega) (by simp; omega)
  have d3 : (((od p.Formula).1.Kids.length : Int) == 0) = decide ((od p.Formula).1.Kids.length = 0) := by rw [bI]; simp
  rw [a4, a5]
  simp only [aA, d3]
  have u : ((od p.Formula).2 == 0) = decide ((od p.Formula).2 = 0) := by rw [bI]; simp
  have v : ((od p.Formula).1.Op == 2) = decide ((od p.Formula).1.Op = 2) := by rw [bI]; simp
  rw [u, v]
  cases decide ((od p.Formula).2 = 0) <;> cases decide ((od p.Formula).1.Op = 2) <;> cases decide ((od p.Formula).1.Kids.length = 0) <;> cases qN (vD y p.Client.Name) p.Formula <;> simp
theorem KV : ∀ (k u : Nat), u < 10 ^ (k + 1) → (Go.Lib.decDigits u).length ≤ k + 1
 | 0, u, h => by rw [Go.Lib.decDigits, dif_pos (by simpa using h)]; simp
 | k + 1, u, h => by
  rw [Nat.pow_succ] at h
  by_cases h1 : u < 10
  ·rw [Go.Lib.decDigits, dif_pos h1]; simp
  ·have := KV k (u / 10) (by omega)
   rw [Go.Lib.decDigits, dif_neg h1]; simp; omega
def HN (n : Int) : Prop := -9223372036854775808 ≤ n ∧ n ≤ 9223372036854775807
theorem GH {n : Int} (h : HN n) : yo n = some (vB n) := aZ h
theorem xT {n : Int} (h : HN n) : (vB n).size ≤ 20 := by
 obtain ⟨b, h1⟩ := h
 show (Go.Lib.itoa n).toArray.size ≤ 20
 unfold Go.Lib.itoa
 split
 ·have := KV 18 n.natAbs (by omega)
  simp; omega
 ·have := KV 18 n.toNat (by omega)
  simp; omega
theorem SD : zS.size = 0 := rfl
def HY : ByteArray := ⟨#[32]⟩
def Mm : ByteArray := ⟨#[10]⟩
def ym (x : jK) : ByteArray := vB x.Kind ++ HY ++ vB x.End ++ HY ++ vB x.At ++ Mm
def DW : List jK → ByteArray → ByteArray
 | [], acc => acc
 | x :: l, acc => DW l (acc ++ ym x)
structure Rx (x : jK) : Prop where
 k : HN x.Kind
 e : HN x.End
 a : HN x.At
theorem LQ {x : jK} (h : Rx x) : (ym x).size ≤ 63 := by
 have h1 := xT h.k
 have b := xT h.e
 have d := xT h.a
 have s1 : HY.size = 1 := rfl
 have s2 : Mm.size = 1 := rfl
 unfold ym
 simp only [dP]; omega
theorem Bn {a b : ByteArray} (h : a.size + b.size ≤ 1000000000) : pj a b = some (a ++ b) := by
 unfold pj
 rw [aY]
 have : IntKind.i64.max = 9223372036854775807 := rfl
 rw [this]; omega
theorem JW : ∀ (l : List jK) (acc : ByteArray), (∀ x ∈ l, Rx x) → acc.size + 63 * l.length ≤ 1000000000 → rG l acc = some (DW l acc) ∧ uG l acc = some (DW l acc)
 | [], acc, _, _ => by rw [rG, uG]; exact ⟨rfl, rfl⟩
 | x :: l, acc, i, h => by
  have d := i x (by simp)
  rw [aH] at h
  have h1 := xT d.k
  have q := xT d.e
  have r := xT d.a
  have s := LQ d
  have s1 : HY.size = 1 := rfl
  have s2 : Mm.size = 1 := rfl
  obtain ⟨a, b⟩ := JW l (acc ++ ym x) (fun y p => i y (by simp [p])) (by rw [dP]; omega)
  have j : (⟨#[32]⟩ : ByteArray) = HY := rfl
  have m : (⟨#[10]⟩ : ByteArray) = Mm := rfl
  rw [rG, uG, GH d.k, GH d.e, GH d.a, j, m]
  simp only [aA]
  rw [Bn (by omega)]
  simp only [aA]
  rw [Bn (by simp only [dP]; omega)]
  simp only [aA]
  rw [Bn (by simp only [dP]; omega)]
  simp only [aA]
  rw [Bn (by simp only [dP]; omega)]
  simp only [aA]
  rw [Bn (by simp only [dP]; omega)]
  simp only [aA]
  have hw : EX acc (ym x) = some (acc ++ ym x) := aZ (by omega)
  have n : pj acc (ym x) = some (acc ++ ym x) := Bn (by omega)
  rw [show vB x.Kind ++ HY ++ vB x.End ++ HY ++ vB x.At ++ Mm = ym x from rfl, hw, n]
  exact ⟨a, b⟩
def EL (k : Int) : List jK → Nat
 | [] => 0
 | x :: l => (if x.Kind == k then 1 else 0) + EL k l
theorem Ew (k : Int) : ∀ (l : List jK) (n : Nat), n + l.length ≤ 1000000000 → pP k l (n : Int) = some ((n + EL k l : Nat) : Int)
 | [], n, _ => by rw [pP, EL]; rfl
 | x :: l, n, h => by
  rw [aH] at h
  rw [pP, EL]
  cases x.Kind == k
  ·simp only [aB, aG]
   rw [Ew k l n (by omega), dI]
  ·simp only [aJ]
   rw [jZ (by omega) (by omega), show (n : Int) + 1 = ((n + 1 : Nat) : Int) by omega, Ew k l (n + 1) (by omega), dW]
theorem J9 (k : Int) (l : List jK) (h : l.length ≤ 1000000000) : ve l k = some (EL k l : Int) := by
 unfold ve
 have := Ew k l 0 (by omega)
 rw [dI] at this
 exact this
theorem Rs (a : ByteArray) : kv a a = true := lH.2 rfl
def Eb (f : Formula) : oH := ⟨⟨RN, [], []⟩, ⟨Qo, [], []⟩, f, 0, ⟨0, 0⟩, 0, 0, 0, []⟩
theorem MC (f : Formula) (l : Gd f) : sV (Eb f) = some (if A8 f then [⟨4, 0, 0⟩] else if qN (vD [] Qo) f then [] else [⟨5, 0, 0⟩]) := by
 have b : ∀ n, PB ⟨n, [], []⟩ := fun n => ⟨by simp, by simp, by simp, by simp, by simp⟩
 obtain ⟨x, y, j, q, g, e, h, _, d, _⟩ := JO (Eb f) (b _) (b _) (by simp [Eb]) (by simp [Eb]) (by simp [Eb]) (by simp [Eb]) l
 have m : y = [] := List.eq_nil_iff_forall_not_mem.2 fun c i => by
  obtain ⟨z, p, _⟩ := ((h.F.fy c).1 i).1
  cases p
 rw [d]
 unfold D3
 rw [show (Eb f).jo.jA = [] from rfl, show (Eb f).Client.jA = [] from rfl, show (Eb f).jo.jO = [] from rfl, show (Eb f).Client.jO = [] from rfl, wR, vR, wR, vR, m]
 rfl
def wz : Formula := ⟨3, 0, oe, []⟩
theorem OD : A8 wI = true := by
 have h1 : mQ wI = true := by decide +kernel
 have b : od wI = (wI, 0) := by
  have := Ow
  unfold Bh at this
  rw [nZ] at this
  split at this
  ·exact this
  ·rename_i d
   exact absurd (bA Prod.snd this) d
 unfold A8
 rw [b]
 simp only [bR, dx]
 exact vr.2 rfl
theorem NE : A8 wz = false := by
 rw [JN]
 have h : ow wz = wz := by
  rw [wZ]
  have b : ¬ (wz.Op = 1) := by decide
  have d : ¬ (wz.Op = 4) := by decide
  simp only [b, d, aG]
  rw [show wz.Kids = [] from rfl, shapeL]
  unfold nS
  rw [na]
  rfl
 have h1 : mQ wz = true := by decide +kernel
 have i : od wz = (wz, 0) := by unfold od; rw [h1, h, h1]; rfl
 rw [i]
 rfl
theorem O6 (v : jl → Bool) : qN v wz = false := by
 unfold qN
 rw [uk]
 simp [wz, evN]
theorem Rt : vB 4 = ⟨#[52]⟩ := by
 unfold vB Go.Lib.itoa
 rw [aY (by omega), Go.Lib.decDigits, dif_pos (by decide)]
 rfl
theorem QV : vB 0 = ⟨#[48]⟩ := by
 unfold vB Go.Lib.itoa
 rw [aY (by omega), Go.Lib.decDigits, dif_pos (by decide)]
 rfl
theorem Oy : ul = some true := by
 have f1 := MC wI (by unfold Gd; decide +kernel)
 have f2 := MC wz (by unfold Gd; decide +kernel)
 rw [OD] at f1
 rw [NE, O6] at f2
 simp only [aJ, aB, aG] at f1 f2
 have b := (JW [⟨4, 0, 0⟩] zS (by simp; exact ⟨by constructor <;> simp, by constructor <;> simp, by constructor <;> simp⟩) (by rw [SD]; simp)).1
 have d : DW [⟨4, 0, 0⟩] zS = ⟨#[52, 32, 48, 32, 48, 10]⟩ := by
  rw [DW, DW]
  unfold ym
  simp only [Rt, QV]
  rfl
 rw [d] at b
 have c1 := J9 4 [⟨4, 0, 0⟩] (by simp)
 have c2 := J9 5 [⟨4, 0, 0⟩] (by simp)
 unfold ul
 erw [f1]
 simp only [aA]
 erw [f2]
 simp only [aA, aH, bP]
 unfold Bk
 rw [b, c1, c2, show EL 4 [(⟨4, 0, 0⟩ : jK)] = 1 from rfl, show EL 5 [(⟨4, 0, 0⟩ : jK)] = 0 from rfl, show kF [(⟨4, 0, 0⟩ : jK)] 0 = some ⟨4, 0, 0⟩ from rfl, show kF [(⟨5, 0, 0⟩ : jK)] 0 = some ⟨5, 0, 0⟩ from rfl]
 simp only [aA, Rs]
 rfl
theorem Gt (e : Int) (free goes : List jm) (d : ∀ c, mM ko goes c = true → mM ko free c = true) : ∀ (l : List kK) (i : Nat) (z : jK), z ∈ wR e free goes l i → ∃ j x, l[j]? = some x ∧ (z = ta 1 e (i + j) ∨ z = ta 2 e (i + j)) ∧ mM ko goes x.Signed.jm = false
 | [], i, z, h => by cases h
 | y :: l, i, z, h => by
  rw [wR] at h
  rcases aN.1 h with h | h
  ·refine ⟨0, y, rfl, ?_⟩
   split at h
   ·split at h
    ·cases h
    ·rename_i b
     rw [bK] at h
     exact ⟨.inl h, by simpa using b⟩
   ·rename_i p
    rw [bK] at h
    refine ⟨.inr h, ?_⟩
    cases b : mM ko goes y.Signed.jm
    ·rfl
    ·exact absurd (d _ b) p
  ·obtain ⟨j, x, h1, m, n⟩ := Gt e free goes d l (i + 1) z h
   refine ⟨j + 1, x, by simpa using h1, ?_, n⟩
   rw [show i + (j + 1) = i + 1 + j by omega]
   exact m
theorem Gf (e : Int) (all : List jm) : ∀ (l : List nh) (i : Nat) (z : jK), z ∈ vR e all l i → ∃ j, z = ta 3 e j
 | [], i, z, h => by cases h
 | y :: l, i, z, h => by
  rw [vR] at h
  rcases aN.1 h with h | h
  ·split at h
   ·cases h
   ·rw [bK] at h; exact ⟨i, h⟩
  ·exact Gf e all l (i + 1) z h
structure SC (p : oH) (x y : List jm) (b : Bool) (z : jK) : Prop where
 e : z.End = 0 ∨ z.End = 1
 k : z.Kind ≤ 2 → ∃ (i : Nat) (c : kK), z.At = (i : Int) ∧ (if z.End = 0 then p.jo.jA else p.Client.jA)[i]? = some c ∧ mM ko (if z.End = 0 then x else y) c.Signed.jm = false
 g : z.Kind = 4 → b = true
theorem Mo {α : Type} {l : List α} {i : Nat} {x : α} (h : l[i]? = some x) : kF l (i : Int) = some x := by
 unfold kF
 rw [aZ (by omega), dp]; exact h
theorem G5 (p : oH) (x y : List jm) (j : Int) (b : Bool) (v : pT p.jo p.Client p.Formula = some b) : ∀ l : List jK, (∀ z ∈ l, SC p x y b z) → oy p (x, y, j) l = some true
 | [], _ => by rw [oy]
 | z :: l, h => by
  have ih := G5 p x y j b v l fun q I => h q (by simp [I])
  have r := h z (by simp)
  have G : (⟨p.jo.Name, p.jo.jA, p.jo.jO⟩ : jQ) = p.jo := rfl
  have A : (⟨p.Client.Name, p.Client.jA, p.Client.jO⟩ : jQ) = p.Client := rfl
  have E : (⟨p.Formula.Op, p.Formula.K, p.Formula.jl, p.Formula.Kids⟩ : Formula) = p.Formula := by cases p.Formula; rfl
  have i0 : kF [p.jo, p.Client] 0 = some p.jo := rfl
  have i1 : kF [p.jo, p.Client] 1 = some p.Client := rfl
  have J : kF [x, y] 0 = some x := rfl
  have j1 : kF [x, y] 1 = some y := rfl
  rw [oy, G, A, E, v, ih]
  simp only [aA]
  have L : ¬ z.End < 0 := by rcases r.e with h | h <;> omega
  have M : ¬ z.End > 1 := by rcases r.e with h | h <;> omega
  simp only [L, M, bT, aB, aG, aA]
  have key : ∀ m : (z.Kind == 4) = true → b = true, ((if (z.Kind == 4) = true then some !b else some false) : Option Bool) = some false := by
   intro m
   cases t : z.Kind == 4
   ·rfl
   ·rw [m t]; rfl
  have m := key fun t => r.g (by simpa using t)
  by_cases hk : z.Kind ≤ 2
  ·obtain ⟨i, c, w, d, s⟩ := r.k hk
   simp only [hk, bR, aJ]
   have m1 : ¬ z.At < 0 := by omega
   simp only [m1, bT, aB, aG]
   rcases r.e with n | n
   ·rw [aZ n] at d
    rw [aZ n] at s
    have u := (aW.1 d).1
    rw [n, i0, J]
    simp only [aA]
    have m2 : ¬ z.At ≥ (p.jo.jA.length : Int) := by omega
    rw [decide_eq_false m2, w, Mo d]
    simp only [aA, aB, aG]
    rw [xS, s]
    simp only [aA, aB, aG]
    rw [m]
    rfl
   ·have h1 : ¬ z.End = 0 := by omega
    rw [aY h1] at d
    rw [aY h1] at s
    have u := (aW.1 d).1
    rw [n, i1, j1]
    simp only [aA]
    have m2 : ¬ z.At ≥ (p.Client.jA.length : Int) := by omega
    rw [decide_eq_false m2, w, Mo d]
    simp only [aA, aB, aG]
    rw [xS, s]
    simp only [aA, aB, aG]
    rw [m]
    rfl
  ·simp only [hk, bT, aB, aG, aA]
   rw [m]
   rfl
theorem MY {f : Formula} (h : A8 f = true) (v : jl → Bool) : qN v f = true := by
 unfold A8 at h
 rw [aQ, bE, vr] at h
 obtain ⟨h1, d, b⟩ := E6 (f := f) (g := (od f).1) (by rw [← h.1])
 unfold qN
 rw [h1, ← b v, h.2, uk]
 rfl
theorem GB (M : ul = some true) (p : oH) (hp : PQ p) : tg p = some true := by
 obtain ⟨g, J, Q⟩ := Ss p hp
 have L : Gd p.Formula := by have := hp.f; unfold Gd; omega
 unfold tg
 rw [M, J]
 simp only [aA, bU, aB, aG]
 by_cases v : g > 6000
 ·simp only [v, bR, aJ]
 ·simp only [v, bT, aB, aG]
  have O := hp.o.toPB.H9
  have P := hp.c.toPB.H9
  obtain ⟨x, y, j, f, A, E, b, r, G, _⟩ := JO p hp.o.toPB hp.c.toPB (by omega) (by omega) O P L
  have I : (⟨p.Formula.Op, p.Formula.K, p.Formula.jl, p.Formula.Kids⟩ : Formula) = p.Formula := by cases p.Formula; rfl
  rw [E, I]
  simp only [aA]
  rw [show (⟨(⟨p.jo.Name, p.jo.jA, p.jo.jO⟩ : jQ), (⟨p.Client.Name, p.Client.jA, p.Client.jO⟩ : jQ), p.Formula, p.zH, p.qT, p.tD, p.xl, p.uV, p.Keys⟩ : oH) = p from rfl, G]
  simp only [aA]
  have hold : ∀ {q : jQ} {s : List jm} {c : jm}, HJ q c → c ∈ qU q := fun ⟨w, hw, e⟩ => bH.2 ⟨w, hw, e⟩
  have s1 : ∀ c, mM ko x c = true → mM ko f c = true := fun c n => by
   rw [ub pd] at n ⊢
   exact (b.ff c).2 (rB (fun d t => hold (s := x) ((b.F.fy d).1 t).1) ((b.F.fx c).1 n))
  have s2 : ∀ c, mM ko y c = true → mM ko A c = true := fun c n => by
   rw [ub pd] at n ⊢
   exact (b.fg c).2 (rB (fun d t => hold (s := x) ((b.F.fx d).1 t).1) ((b.F.fy c).1 n))
  refine G5 p x y j _ r _ fun z u => ?_
  unfold D3 at u
  simp only [aN] at u
  rcases u with (((h | h) | (h | h)) | h)
  ·obtain ⟨i, c, h1, l, m⟩ := Gt 0 f x s1 _ 0 z h
   rw [dI] at l
   rcases l with rfl | rfl
   ·exact ⟨.inl rfl, fun _ => ⟨i, c, rfl, by simpa [ta] using h1, by simpa [ta] using m⟩, fun h => by simp [ta] at h⟩
   ·exact ⟨.inl rfl, fun _ => ⟨i, c, rfl, by simpa [ta] using h1, by simpa [ta] using m⟩, fun h => by simp [ta] at h⟩
  ·obtain ⟨i, rfl⟩ := Gf 0 _ _ 0 z h
   exact ⟨.inl rfl, fun h => by simp [ta] at h, fun h => by simp [ta] at h⟩
  ·obtain ⟨i, c, h1, l, m⟩ := Gt 1 A y s2 _ 0 z h
   rw [dI] at l
   rcases l with rfl | rfl
   ·exact ⟨.inr rfl, fun _ => ⟨i, c, rfl, by simpa [ta] using h1, by simpa [ta] using m⟩, fun h => by simp [ta] at h⟩
   ·exact ⟨.inr rfl, fun _ => ⟨i, c, rfl, by simpa [ta] using h1, by simpa [ta] using m⟩, fun h => by simp [ta] at h⟩
  ·obtain ⟨i, rfl⟩ := Gf 1 _ _ 0 z h
   exact ⟨.inr rfl, fun h => by simp [ta] at h, fun h => by simp [ta] at h⟩
  ·unfold HH at h
   split at h
   ·rename_i ha
    rw [bK] at h
    subst h
    exact ⟨.inl rfl, fun h => by simp at h, fun _ => MY ha _⟩
   ·split at h
    ·cases h
    ·rw [bK] at h
     subst h
     exact ⟨.inl rfl, fun h => by simp at h, fun h => by simp at h⟩
end Go.Proofs.YtjjjihkifgdhgaaGreatDoor
namespace Go.Proofs.YtjjjihkifgdhgaaGreatDoor.Lf
open Go.ChangeShapes Go.WideShapes Go.ChangeAt Go.RowKit
open Go.Proofs.YtjjjihkifgdhgaaGreatDoor (Rows.uptoBulk Rows.uptoBulkAll Rows.uptoSmall)
theorem QJ {H : Type} (d : DataW H) : 1 ≤ Rows.uptoBulk d := by
 cases d with
 | lit l => cases l <;> simp [Rows.uptoBulk]
 | nil => simp [Rows.uptoBulk]
 | ptr d => simp [Rows.uptoBulk]
 | slice b spare => simp [Rows.uptoBulk]
 | agg parts => simp [Rows.uptoBulk]
 | iface t d => simp [Rows.uptoBulk]
 | map entries => simp [Rows.uptoBulk]
 | held h => simp [Rows.uptoBulk]
def F5 {α : Type} (P : Program) (t : TypeId) (enc : α → List Value) (sz : α → Nat) : Prop :=
 ∀ (H : Type) (b : TypeId × Value → H) (W : World) (base : Nat) (sp : Nat → Bool) (d : Bool) (fuel : Nat) (cs : List Value) (x : DataW H × List MemPlace),
  DataW.trod b P W base sp d fuel t cs = some x → ∃ a : α, cs = enc a ∧ sz a ≤ Rows.uptoBulk x.1
theorem Ks {P : Program} {t : TypeId} (b : P.underlying t = some .string) : F5 P t (fun s : ByteArray => [.string s]) (fun s => s.size) := by
 intro H d W base sp i fuel cs x h
 obtain ⟨s, rfl, rfl, _⟩ := DataW.trod_string b h
 refine ⟨s, rfl, ?_⟩
 have e : s.data.toList.length = s.size := by rw [dt]; rfl
 simp [Rows.uptoBulk, e]
theorem OR {P : Program} {t : TypeId} {k : IntKind} (b : P.underlying t = some (.int k)) : F5 P t (fun n : Int => [.int k n]) (fun _ => 0) := by
 intro H d W base sp i fuel cs x h
 obtain ⟨n, rfl, rfl, _⟩ := DataW.trod_int b h
 exact ⟨n, rfl, ep _⟩
theorem O4 {α : Type} {n : Nat} {p : Nat → α → Prop} (h : ∀ i, i < n → ∃ x, p i x) : ∃ l : List α, l.length = n ∧ ∀ i x, l[i]? = some x → p i x := by
 induction n with
 | zero => exact ⟨[], rfl, by simp⟩
 | succ n ih =>
  obtain ⟨l, h1, j⟩ := ih fun i d => h i (by omega)
  obtain ⟨x, r⟩ := h n (by omega)
  refine ⟨l ++ [x], by simp [h1], fun i y b => ?_⟩
  by_cases d : i < l.length
  ·rw [fD d] at b
   exact j i y b
  ·rw [eF (by omega)] at b
   have : i - l.length = 0 := by
    cases q : i - l.length with
    | zero => rfl
    | succ m => rw [q] at b; simp at b
   rw [this] at b
   have e : i = n := by omega
   simp at b
   subst b; rw [e]; exact r
theorem Io {W : World} {a : Addr} {v : Value} (h : W.cell? a = some v) : ∃ cs T fr, W.heap[a.block]? = some (.cells cs T fr) ∧ a.spot = none ∧ cs[a.off]? = some v := by
 unfold World.cell? at h
 split at h
 ·rename_i c T fr d
  by_cases b : a.spot.isSome
  ·simp [b] at h
  ·simp only [b] at h
   exact ⟨c, T, fr, d, by simpa using b, by simpa using h⟩
 ·cases h
theorem Ex.below {dd : Bool} {W W' : World} (h : Ex dd W W') : Below W.heap.size W W' := ⟨h.os, h.tape, h.output, h.size, h.lF⟩
theorem CA {H : Type} {n : TypeId × Value → H} {P : Program} (s : laidOutB P = true) {W W' : World} {i : Nat → Bool} :
  ∀ {l : List TypeId} {vs : List Value} {ds : List (DataW H)} {j : List MemPlace}, (∀ t ∈ l, P.readableRec t = true ∧ t < P.types.size) →
   DataW.TrodAll n P W 0 (fun _ => true) true l vs ds j → (∀ p ∈ j, W.sameAt W' p) → (∀ p ∈ j, i p.block = true) → DataW.TrodAll n P W' 0 i true l vs ds j
 | [], _, _, _, _, h, _, _ => by
  obtain ⟨rfl, rfl, rfl⟩ := trodAll_nil h
  exact trodAll_mk0
 | t :: l, _, _, _, m, h, h1, r => by
  obtain ⟨v, vs, d, ds, p, q, rfl, rfl, rfl, w, y⟩ := trodAll_cons h
  exact trodAll_cons_mk (WideElems.Trod_stays s (m t (by simp)).1 (m t (by simp)).2 w (fun x b => h1 x (by simp [b])) (fun x b => r x (by simp [b])))
   (CA s (fun u hu => m u (by simp [hu])) y (fun x b => h1 x (by simp [b])) (fun x b => r x (by simp [b])))
theorem Km {H : Type} {enc : TypeId × Value → H} {P : Program} (R : laidOutB P = true) {f : Func} {s : ChangeSpec} {apart fresh handsOn again : Bool} {W W' : World} {args : Array Value} {v : Value} {ds gs : List (DataW H)} {before : List MemPlace} (U : ∀ t ∈ f.params.toList, P.readableRec t = true ∧ t < P.types.size) (y : s.vars = []) (A : DataW.Whole enc P f.params.toList s.vars apart W args.toList ds gs before) {dd : Bool} (L : Ex dd W W') (d : ∀ (b : Nat) (sp : Nat → Bool) (Q : Bool), DataW.TrodAll enc P W' b sp Q f.resultTypes.toList (v.resultList f.resultTypes.size) (s.fn H (ds ++ gs)).results []) (h : (s.fn H (ds ++ gs)).args = ds) (l : (s.fn H (ds ++ gs)).vars = []) (I : ∀ (j : Nat) (t : TypeId) (r : Value), f.resultTypes[j]? = some t → (v.resultList f.resultTypes.size)[j]? = some r → Value.okWide P W' .any 0 t r) :
  s.post enc P f apart fresh handsOn again W args v W' := by
 have i := A.lt
 have hold : ∀ p ∈ before, (fun b => decide (b < W.heap.size)) p.block = true := fun p hp => by simpa using i p hp
 have G := Ex.below L
 have E := A
 obtain ⟨p, q, O, M, n, Y, T⟩ := A
 rw [y] at M
 obtain ⟨rfl, rfl⟩ := trodVars_none M
 rw [bo] at n
 subst n
 have u : ∀ sp : Nat → Bool, (∀ p ∈ before, sp p.block = true) → DataW.TrodAll enc P W' 0 sp true f.params.toList args.toList (s.fn H (ds ++ [])).args before := fun sp J => by
  rw [h]
  exact CA R U O (fun x L => G.same (i x L)) J
 have z : ∀ sp : Nat → Bool, DataW.TrodVars enc P W' sp s.vars (s.fn H (ds ++ [])).vars [] := fun sp => by
  rw [l, y]; rfl
 refine ⟨ds, [], before, [], before, [], E, d _ _ _, u _ hold, z _, World.keptBut_mono (fun p hp => ⟨hp, ?_⟩) (G.frame (· ∈ before)), fun _ => ?_⟩
 ·exact Or.inr (Or.inl hp)
 ·refine ⟨I, _, _, ([] ++ before) ++ [], ⟨[] ++ before, [], trodAll_append (u _ (fun _ _ => rfl)) (d _ _ _), z _, rfl, ?_, ?_⟩, ?_⟩
  ·intro b off hp
   have m : MemPlace.cell b off ∈ before := by simpa using hp
   rw [World.frozen?_of_block (w := W) (G.block b (i _ m))]
   exact Y b off m
  ·intro ha
   simpa using T ha
  ·intro p hp _
   simpa using hp
end Go.Proofs.YtjjjihkifgdhgaaGreatDoor.Lf
namespace Go.Proofs.YtjjjihkifgdhgaaGreatDoor.Lf
open Go.ChangeShapes Go.WideShapes Go.ChangeAt Go.RowKit
open Go.Proofs.YtjjjihkifgdhgaaGreatDoor (Rows.uptoBulk Rows.uptoBulkAll Rows.uptoSmall)
def DM {α : Type} (P : Program) (t : TypeId) (R : oP α) (sz : α → Nat) : Prop :=
 ∀ (H : Type) (b : TypeId × Value → H) (W : World) (base : Nat) (sp : Nat → Bool) (d : Bool) (fuel : Nat) (cs : List Value) (x : DataW H × List MemPlace),
  DataW.trod b P W base sp d fuel t cs = some x → ∃ a : α, R (hp W) cs a ∧ sz a ≤ Rows.uptoBulk x.1
theorem F5.rel {α : Type} {P : Program} {t : TypeId} {enc : α → List Value} {sz : α → Nat} (h : F5 P t enc sz) : DM P t (Pl enc) sz := fun H b W base sp d fuel cs x i => h H b W base sp d fuel cs x i
end Go.Proofs.YtjjjihkifgdhgaaGreatDoor.Lf
namespace Go.Proofs.YtjjjihkifgdhgaaGreatDoor.Lf
open Go.ChangeShapes Go.WideShapes Go.ChangeAt Go.RowKit
open Go.Proofs.YtjjjihkifgdhgaaGreatDoor (Rows.uptoBulk Rows.uptoBulkAll Rows.uptoSmall)
theorem Ep {H : Type} : ∀ l : List (DataW H), Rows.uptoBulkAll l = (l.map Rows.uptoBulk).sum
 | [] => by simp [Rows.uptoBulkAll]
 | d :: l => by simp [Rows.uptoBulkAll, Ep l]
theorem LU {α : Type} (g : α → Nat) : ∀ (n : Nat) (f : Nat → Nat) {l : List α}, l.length = n → (∀ i x, l[i]? = some x → g x ≤ f i) → (l.map g).sum ≤ ((List.range n).map f).sum
 | 0, f, l, b, h => by
  obtain rfl := ev.1 b
  simp
 | n + 1, f, [], b, h => by cases b
 | n + 1, f, a :: l, b, h => by
  rw [List.range_succ_eq_map, bF, bF, ek, ek, eA]
  have h1 := h 0 a rfl
  have j := LU g n (f ∘ Nat.succ) (l := l) (by simpa using b) (fun i x d => h (i + 1) x (by simpa using d))
  omega
def qK {α : Type} (sz : α → Nat) (l : List α) : Nat := (l.map fun a => max 1 (sz a)).sum
theorem BD {α : Type} (sz : α → Nat) : ∀ l : List α, l.length ≤ qK sz l
 | [] => aR _
 | a :: l => by have := BD sz l; simp only [qK, bF, ek, aH] at this ⊢; omega
theorem FZ {α : Type} {sz : α → Nat} : ∀ {l : List α} {a : α}, a ∈ l → sz a ≤ qK sz l
 | b :: l, a, h => by
  simp only [qK, bF, ek]
  rcases aK.1 h with rfl | h
  ·omega
  ·have := FZ (sz := sz) h; simp only [qK] at this; omega
theorem Ec {α : Type} {P : Program} {t e : TypeId} {k : Nat} {R : oP α} {sz : α → Nat} (hk : P.cellsOf e = k) (O : 0 < k) (ht : P.underlying t = some (.slice e)) {H : Type} {eh : TypeId × Value → H} {W : World} {base : Nat} {sp : Nat → Bool} {held : Bool} {fuel : Nat} {cs : List Value} {x : DataW H × List MemPlace} (hd : ∀ (fuel : Nat) (cs : List Value) (y : DataW H × List MemPlace), DataW.trod eh P W base sp held fuel e cs = some y → SizeOf.sizeOf y.1 < SizeOf.sizeOf x.1 → ∃ a : α, R (hp W) cs a ∧ sz a ≤ Rows.uptoBulk y.1) (hf : DataW.trod eh P W base sp held fuel t cs = some x) :
  ∃ v l, cs = [v] ∧ Sl R k (hp W) v l ∧ qK sz l ≤ Rows.uptoBulk x.1 := by
 rcases Go.Deep.open_slice ht hf with ⟨rfl, rfl⟩ | ⟨a, ln, cp, m, n, D, Q, rfl, hb, hl, hm, Y, rfl, L⟩
 ·exact ⟨_, [], rfl, ⟨none, 0, rfl, aR _, ep _, fun h => absurd h (Nat.lt_irrefl _)⟩, ep _⟩
 ·have aa : ln ≤ m := by rw [Y]; split <;> omega
  have hB : ((List.range ln).map fun i => Rows.uptoBulk (D i)).sum ≤ Rows.uptoBulk (DataW.slice ((List.range ln).map D) ((List.range (m - ln)).map fun j => D (ln + j))) := by
   simp only [Rows.uptoBulk]
   rw [Ep, eA]
   have e : ((List.range ln).map fun i => Rows.uptoBulk (D i)) = (List.range ln).map (Rows.uptoBulk ∘ D) := rfl
   rw [e]
   omega
  have hS : ∀ i, i < ln → SizeOf.sizeOf (D i) < SizeOf.sizeOf (DataW.slice ((List.range ln).map D) ((List.range (m - ln)).map fun j => D (ln + j))) := fun i M => by
   have := List.sizeOf_lt_of_mem (bH.2 ⟨i, List.mem_range.2 M, rfl⟩ : D i ∈ (List.range ln).map D)
   rw [DataW.slice.sizeOf_spec]; omega
  simp only at hd ⊢
  generalize Rows.uptoBulk (DataW.slice ((List.range ln).map D) ((List.range (m - ln)).map fun j => D (ln + j))) = B at hB
  obtain ⟨l, U, u⟩ := O4 (α := α) (n := ln) (p := fun i x => ∃ b, W.cells? base (a.add (i * k)) k = some b ∧ R (hp W) b x ∧ sz x ≤ Rows.uptoBulk (D i)) fun i M => by
   obtain ⟨b, h1, E⟩ := L i (by omega)
   obtain ⟨x, hR, G⟩ := hd _ _ _ E (hS i M)
   rw [hk] at h1
   exact ⟨x, b, h1, hR, G⟩
  subst U
  refine ⟨_, l, rfl, ⟨some a, cp, rfl, hl, hm, fun h0 => ?_⟩, ?_⟩
  ·have d : ∀ i x, l[i]? = some x → ∃ b, R (hp W) b x ∧ b.length = k ∧ ∀ j, j < k → W.cell? ((a.add (i * k)).add j) = b[j]? := fun i x w =>
    let ⟨b, h1, E, _⟩ := u i x w
    let ⟨_, G, h4⟩ := World.cells?_some h1
    ⟨b, E, G, h4⟩
   obtain ⟨a6, _, h4, h5⟩ := d 0 l[0] (by simp [h0])
   have I := h5 0 O
   rw [Nat.zero_mul, dC (by omega)] at I
   have e0 : (a.add 0).add 0 = a := rfl
   rw [e0] at I
   obtain ⟨cs, T, fr, J, h8, _⟩ := Io I
   obtain ⟨z, A, a1⟩ := a
   simp only at J h8
   subst h8
   refine ⟨z, A, cs, T, fr, rfl, J, fun i x w => ?_⟩
   obtain ⟨b, gR, g1, g2⟩ := d i x w
   refine ⟨b, g1, gR, fun j y hy => ?_⟩
   have hj : j < k := by
    rw [← g1]
    exact (aW.1 hy).1
   have h9 := g2 j hj
   rw [Go.Deep.add_add, hy] at h9
   obtain ⟨Z, T', a7, q, a8, r⟩ := Io h9
   have s : (Addr.add ⟨z, A, none⟩ (i * k + j)).block = z ∧ (Addr.add ⟨z, A, none⟩ (i * k + j)).off = A + (i * k + j) := by
    unfold Addr.add
    split
    ·rename_i hz
     rw [hz]; exact ⟨rfl, rfl⟩
    ·exact ⟨rfl, rfl⟩
   rw [s.1, J] at q
   cases q
   rw [s.2, ← dW] at r
   exact r
  ·refine dy (LU _ _ _ rfl fun i x w => ?_) hB
   exact Nat.max_le.2 ⟨QJ _, (u i x w).elim fun _ h => h.2.2⟩
theorem rr {α : Type} {P : Program} {t e : TypeId} {k : Nat} {R : oP α} {sz : α → Nat} (hk : P.cellsOf e = k) (b : 0 < k) (i : DM P e R sz) (m : P.underlying t = some (.slice e)) {H : Type} {d : TypeId × Value → H} {W : World} {base : Nat} {sp : Nat → Bool} {held : Bool} {fuel : Nat} {cs : List Value} {x : DataW H × List MemPlace} (j : DataW.trod d P W base sp held fuel t cs = some x) :
  ∃ v l, cs = [v] ∧ Sl R k (hp W) v l ∧ qK sz l ≤ Rows.uptoBulk x.1 := Ec hk b m (fun _ _ _ h _ => i _ _ _ _ _ _ _ _ _ h) j
end Go.Proofs.YtjjjihkifgdhgaaGreatDoor.Lf
namespace Go.Proofs.YtjjjihkifgdhgaaGreatDoor.Lf
open Go.ChangeShapes Go.WideShapes Go.ChangeAt Go.RowKit
open Go.Proofs.YtjjjihkifgdhgaaGreatDoor (Rows.uptoBulk Rows.uptoBulkAll Rows.uptoSmall)
def J1 {α : Type} (R : oP α) (Q : α → Prop) : oP α := fun μ ys x => R μ ys x ∧ Q x
theorem Sl.all {α : Type} {R : oP α} {Q : α → Prop} {k : Nat} {μ : jN} {v : Value} {l : List α} (h : Sl (J1 R Q) k μ v l) : Sl R k μ v l ∧ ∀ x ∈ l, Q x := by
 obtain ⟨A, c, rfl, h1, m, r⟩ := h
 cases l with
 | nil => exact ⟨⟨A, c, rfl, h1, m, fun h => absurd h (by simp)⟩, by simp⟩
 | cons a l =>
  obtain ⟨b, o, cs, T, fr, e, s, n⟩ := r (by simp)
  refine ⟨⟨A, c, rfl, h1, m, fun _ => ⟨b, o, cs, T, fr, e, s, fun i x j => ?_⟩⟩, fun x j => ?_⟩
  ·obtain ⟨ys, p, d, q⟩ := n i x j
   exact ⟨ys, p, d.1, q⟩
  ·obtain ⟨i, t⟩ := List.mem_iff_getElem?.1 j
   obtain ⟨ys, p, d, q⟩ := n i x t
   exact d.2
theorem OT {P : Program} {t : TypeId} (b : P.underlying t = some (.int .u8)) : DM P t (J1 (Pl (ku .u8)) (fun x => 0 ≤ x ∧ x < 256)) (fun _ => 0) := by
 intro H d W base sp i fuel cs x h
 obtain ⟨n, rfl, rfl, hw⟩ := DataW.trod_int b h
 refine ⟨n, ⟨rfl, ?_⟩, ep _⟩
 simp [Lit.wf, IntKind.min, IntKind.max, IntKind.bits, IntKind.signed] at hw
 omega
end Go.Proofs.YtjjjihkifgdhgaaGreatDoor.Lf
namespace Go.Proofs.YtjjjihkifgdhgaaGreatDoor
open Go.Proofs.Tryz renaming prog → pg0
set_option maxRecDepth 10000
open Go.ChangeShapes Go.WideShapes Go.ChangeAt Go.RowKit
open Go.Proofs.YtjjjihkifgdhgaaGreatDoor Go.Proofs.YtjjjihkifgdhgaaGreatDoor.Lf
theorem OK : Tryz.prog.cellsOf 34 = 18 := by kernel_rfl
theorem Po {α : Type} {l : List α} (h : l.length = 9) : ∃ a0 b a2 a3 a4 a5 d i j, l = [a0, b, a2, a3, a4, a5, d, i, j] := by
 match l, h with
 | [a0, b, a2, a3, a4, a5, d, i, j], _ => exact ⟨a0, b, a2, a3, a4, a5, d, i, j, rfl⟩
theorem Rf {α : Type} {l : List α} (h : l.length = 18) : ∃ a0 p a2 a3 a4 a5 q r s a9 b d a12 i j m n a17, l = [a0, p, a2, a3, a4, a5, q, r, s, a9, b, d, a12, i, j, m, n, a17] := by
 match l, h with
 | [a0, p, a2, a3, a4, a5, q, r, s, a9, b, d, a12, i, j, m, n, a17], _ => exact ⟨a0, p, a2, a3, a4, a5, q, r, s, a9, b, d, a12, i, j, m, n, a17, rfl⟩
theorem Pf : Tryz.prog.cellsOf 25 = 3 := by kernel_rfl
theorem NT {α : Type} {l : List α} (h : l.length = 3) : ∃ a0 b a2, l = [a0, b, a2] := by
 match l, h with
 | [a0, b, a2], _ => exact ⟨a0, b, a2, rfl⟩
theorem Dn : Tryz.prog.cellsOf 9 = 1 := by kernel_rfl
theorem EH : F5 pg0 9 (fun s : ByteArray => [.string s]) (fun s => s.size) := Ks Tryz.underlying9
theorem Jz : Tryz.prog.cellsOf 22 = 1 := by kernel_rfl
theorem Gx : Tryz.prog.cellsOf 57 = 15 := by kernel_rfl
theorem Dz {α : Type} {l : List α} (h : l.length = 2) : ∃ a0 b, l = [a0, b] := by
 match l, h with
 | [a0, b], _ => exact ⟨a0, b, rfl⟩
theorem QQ {α : Type} {l : List α} (h : l.length = 15) : ∃ a0 m a2 a3 a4 a5 n p q a9 b d a12 i j, l = [a0, m, a2, a3, a4, a5, n, p, q, a9, b, d, a12, i, j] := by
 match l, h with
 | [a0, m, a2, a3, a4, a5, n, p, q, a9, b, d, a12, i, j], _ => exact ⟨a0, m, a2, a3, a4, a5, n, p, q, a9, b, d, a12, i, j, rfl⟩
theorem Pc : Tryz.prog.cellsOf 55 = 10 := by kernel_rfl
theorem Gp : Tryz.prog.cellsOf 52 = 9 := by kernel_rfl
theorem B7 : F5 pg0 3 (fun n : Int => [.int .i64 n]) (fun _ => 0) := OR Tryz.underlying3
theorem Fi : Tryz.prog.cellsOf 3 = 1 := by kernel_rfl
theorem DP : Tryz.prog.cellsOf 27 = 2 := by kernel_rfl
def vX (x : jl) : Nat := x.jo.size + x.Word.size
theorem Fc : F5 pg0 27 jw vX := by
 intro H j W base sp m fuel cs x h
 obtain ⟨xs, n, _, rfl, s, hlen, p⟩ := dK Tryz.underlying27 h
 obtain ⟨u, v, rfl⟩ := Dz hlen
 obtain ⟨b, c1, rfl⟩ := Dz (s.trans DP)
 have l : DataW.trod j pg0 W base sp m n 9 (([b, c1].drop 0).take (Tryz.prog.cellsOf 9)) = some u := p 0 _ rfl
 have h1 : DataW.trod j pg0 W base sp m n 9 (([b, c1].drop 1).take (Tryz.prog.cellsOf 9)) = some v := p 1 _ rfl
 simp only [Dn, List.drop, List.take] at l h1
 obtain ⟨t, d, q⟩ := EH _ _ _ _ _ _ _ _ _ l
 obtain ⟨s1, i, r⟩ := EH _ _ _ _ _ _ _ _ _ h1
 simp only [aT, dr] at d i
 obtain rfl := d
 obtain rfl := i
 refine ⟨⟨t, s1⟩, rfl, ?_⟩
 simp only [List.map, Rows.uptoBulk, Rows.uptoBulkAll, vX] at q r ⊢
 omega
theorem RL {α : Type} {l : List α} (h : l.length = 6) : ∃ a0 b a2 a3 a4 a5, l = [a0, b, a2, a3, a4, a5] := by
 match l, h with
 | [a0, b, a2, a3, a4, a5], _ => exact ⟨a0, b, a2, a3, a4, a5, rfl⟩
def tH (x : jm) : Nat := vX x.Head + x.ke.size + vX x.B + vX x.C + x.kp.size
theorem N1 : F5 pg0 52 js tH := by
 intro H q W base sp r fuel cs x h
 obtain ⟨xs, n, _, rfl, T, hlen, s⟩ := dK Tryz.underlying52 h
 obtain ⟨y0, y1, y2, y3, y4, y5, rfl⟩ := RL hlen
 obtain ⟨b, c1, c2, d, i, j, l, m, p, rfl⟩ := Po (T.trans Gp)
 have A : DataW.trod q pg0 W base sp r n 3 (([b, c1, c2, d, i, j, l, m, p].drop 0).take (Tryz.prog.cellsOf 3)) = some y0 := s 0 _ rfl
 have h1 : DataW.trod q pg0 W base sp r n 27 (([b, c1, c2, d, i, j, l, m, p].drop 1).take (Tryz.prog.cellsOf 27)) = some y1 := s 1 _ rfl
 have E : DataW.trod q pg0 W base sp r n 9 (([b, c1, c2, d, i, j, l, m, p].drop 3).take (Tryz.prog.cellsOf 9)) = some y2 := s 2 _ rfl
 have G : DataW.trod q pg0 W base sp r n 27 (([b, c1, c2, d, i, j, l, m, p].drop 4).take (Tryz.prog.cellsOf 27)) = some y3 := s 3 _ rfl
 have I : DataW.trod q pg0 W base sp r n 27 (([b, c1, c2, d, i, j, l, m, p].drop 6).take (Tryz.prog.cellsOf 27)) = some y4 := s 4 _ rfl
 have J : DataW.trod q pg0 W base sp r n 9 (([b, c1, c2, d, i, j, l, m, p].drop 8).take (Tryz.prog.cellsOf 9)) = some y5 := s 5 _ rfl
 simp only [DP, Fi, Dn, List.drop, List.take] at A h1 E G I J
 obtain ⟨U, t, L⟩ := B7 _ _ _ _ _ _ _ _ _ A
 obtain ⟨s1, u, M⟩ := Fc _ _ _ _ _ _ _ _ _ h1
 obtain ⟨s2, v, O⟩ := EH _ _ _ _ _ _ _ _ _ E
 obtain ⟨Y, w, P⟩ := Fc _ _ _ _ _ _ _ _ _ G
 obtain ⟨Z, y, Q⟩ := Fc _ _ _ _ _ _ _ _ _ I
 obtain ⟨s5, z, R⟩ := EH _ _ _ _ _ _ _ _ _ J
 simp only [jw, aT, dr] at t u v w y z
 obtain rfl := t
 obtain ⟨rfl, rfl⟩ := u
 obtain rfl := v
 obtain ⟨rfl, rfl⟩ := w
 obtain ⟨rfl, rfl⟩ := y
 obtain rfl := z
 refine ⟨⟨U, s1, s2, Y, Z, s5⟩, rfl, ?_⟩
 simp only [List.map, Rows.uptoBulk, Rows.uptoBulkAll, tH] at L M O P Q R ⊢
 omega
theorem Jv : Tryz.prog.cellsOf 53 = 1 := by kernel_rfl
theorem LF : Tryz.prog.cellsOf 5 = 1 := by kernel_rfl
theorem N8 : DM pg0 5 (J1 (Pl (ku .u8)) (fun x => 0 ≤ x ∧ x < 256)) (fun _ => 0) := OT Tryz.underlying5
theorem BH : Tryz.prog.cellsOf 30 = 5 := by kernel_rfl
theorem RZ {α : Type} {l : List α} (h : l.length = 4) : ∃ a0 b a2 a3, l = [a0, b, a2, a3] := by
 match l, h with
 | [a0, b, a2, a3], _ => exact ⟨a0, b, a2, a3, rfl⟩
theorem RY {α : Type} {l : List α} (h : l.length = 5) : ∃ a0 b a2 a3 a4, l = [a0, b, a2, a3, a4] := by
 match l, h with
 | [a0, b, a2, a3, a4], _ => exact ⟨a0, b, a2, a3, a4, rfl⟩
theorem Oi : Tryz.prog.cellsOf 28 = 1 := by kernel_rfl
theorem RS {H : Type} {x : DataW H × List MemPlace} {ys : List (DataW H × List MemPlace)} {p : List MemPlace} (b : x = (.agg (ys.map (·.1)), p)) (i : Nat) {y : DataW H × List MemPlace} (h : ys[i]? = some y) : SizeOf.sizeOf y.1 < SizeOf.sizeOf x.1 := by
 subst b
 have := List.sizeOf_lt_of_mem (bH.2 ⟨y, cT h, rfl⟩ : y.1 ∈ ys.map (·.1))
 simp only [DataW.agg.sizeOf_spec]; omega
theorem Ir : ∀ l : List Formula, szFL l ≤ qK xL l
 | [] => aR _
 | k :: l => by have := Ir l; rw [szFL]; simp only [qK, bF, ek] at this ⊢; omega
theorem QA : ∀ (N : Nat) (H : Type) (O : TypeId × Value → H) (W : World) (base : Nat) (sp : Nat → Bool) (P : Bool) (fuel : Nat) (cs : List Value) (x : DataW H × List MemPlace),
  DataW.trod O pg0 W base sp P fuel 30 cs = some x → SizeOf.sizeOf x.1 < N → ∃ a : Formula, jq (hp W) cs a ∧ xL a ≤ Rows.uptoBulk x.1 := by
 intro N
 induction N with
 | zero => intro _ _ _ _ _ _ _ _ _ _ h; exact absurd h (Nat.not_lt_zero _)
 | succ N ih =>
  intro H O W base sp P fuel cs x h hN
  obtain ⟨a1, E, _, t, G, s, m⟩ := dK Tryz.underlying30 h
  obtain ⟨u, v, w, A, rfl⟩ := RZ s
  obtain ⟨b, d, i, j, l, rfl⟩ := RY (G.trans BH)
  have n : DataW.trod _ pg0 W _ _ _ E 3 (([b, d, i, j, l].drop 0).take (Tryz.prog.cellsOf 3)) = some u := m 0 _ rfl
  have p : DataW.trod _ pg0 W _ _ _ E 3 (([b, d, i, j, l].drop 1).take (Tryz.prog.cellsOf 3)) = some v := m 1 _ rfl
  have q : DataW.trod _ pg0 W _ _ _ E 27 (([b, d, i, j, l].drop 2).take (Tryz.prog.cellsOf 27)) = some w := m 2 _ rfl
  have r : DataW.trod _ pg0 W _ _ _ E 28 (([b, d, i, j, l].drop 4).take (Tryz.prog.cellsOf 28)) = some A := m 3 _ rfl
  simp only [DP, Oi, Fi, List.drop, List.take] at n p q r
  obtain ⟨s2, I, T⟩ := B7 _ _ _ _ _ _ _ _ _ n
  simp only [aT, dr] at I
  obtain rfl := I
  obtain ⟨s3, J, U⟩ := B7 _ _ _ _ _ _ _ _ _ p
  simp only [aT, dr] at J
  obtain rfl := J
  obtain ⟨s4, L, Y⟩ := Fc _ _ _ _ _ _ _ _ _ q
  simp only [jw, aT, dr] at L
  obtain ⟨rfl, rfl⟩ := L
  obtain ⟨v5, Q, M, q5, Z⟩ := Ec BH (by decide) Tryz.underlying28 (fun f cs y h hz => ih _ _ _ _ _ _ _ _ _ h (by have := RS t 3 rfl; omega)) r
  simp only [aT, dr] at M
  obtain rfl := M
  have R := bA (fun z => Rows.uptoBulk z.1) t
  refine ⟨⟨s2, s3, s4, Q⟩, jq.mk ⟨_, rfl, q5⟩, ?_⟩
  have hz := Ir Q
  simp only [List.map, Rows.uptoBulk, Rows.uptoBulkAll, vX] at T U Y Z R ⊢
  rw [IM]
  simp only
  omega
theorem H2 : DM pg0 30 jq xL := fun H b W base sp d fuel cs x h => QA _ H b W base sp d fuel cs x h (bN _)
def sQ (x : kK) : Nat := tH x.Signed.jm + qK (fun _ : Int => 0) x.Signed.Tag + 1 + xL x.ju + 1
def Mx (x : kK) : Prop := (∀ y ∈ x.Signed.Tag, 0 ≤ y ∧ y < 256)
theorem LR : DM pg0 57 (J1 ki Mx) sQ := by
 intro H eh W base sp hd fuel cs x h
 obtain ⟨aa, n6, _, a1, Z, I, O⟩ := dK Tryz.underlying57 h
 obtain ⟨Q, R, rfl⟩ := Dz I
 obtain ⟨b, d, i, j, l, m, n, p, q, r, s, t, u, v, w, rfl⟩ := QQ (Z.trans Gx)
 have y : DataW.trod _ pg0 W _ _ _ n6 55 (([b, d, i, j, l, m, n, p, q, r, s, t, u, v, w].drop 0).take (Tryz.prog.cellsOf 55)) = some Q := O 0 _ rfl
 have A : DataW.trod _ pg0 W _ _ _ n6 30 (([b, d, i, j, l, m, n, p, q, r, s, t, u, v, w].drop 10).take (Tryz.prog.cellsOf 30)) = some R := O 1 _ rfl
 simp only [BH, Pc, List.drop, List.take] at y A
 obtain ⟨ab, n7, _, a6, a8, J, P⟩ := dK Tryz.underlying55 y
 obtain ⟨T, U, rfl⟩ := Dz J
 have E : DataW.trod _ pg0 W _ _ _ n7 52 (([b, d, i, j, l, m, n, p, q, r].drop 0).take (Tryz.prog.cellsOf 52)) = some T := P 0 _ rfl
 have G : DataW.trod _ pg0 W _ _ _ n7 53 (([b, d, i, j, l, m, n, p, q, r].drop 9).take (Tryz.prog.cellsOf 53)) = some U := P 1 _ rfl
 simp only [Gp, Jv, List.drop, List.take] at E G
 obtain ⟨s8, e8, b8⟩ := N1 _ _ _ _ _ _ _ _ _ E
 simp only [js, jw, aT, dr] at e8
 obtain ⟨rfl, rfl, rfl, rfl, rfl, rfl, rfl, rfl, rfl⟩ := e8
 obtain ⟨v9, s9, e9, q9, b9⟩ := rr LF (by decide) N8 Tryz.underlying53 G
 simp only [aT, dr] at e9
 obtain rfl := e9
 obtain ⟨q9, g9⟩ := Lf.Sl.all q9
 have b7 := bA (fun z => Rows.uptoBulk z.1) a6
 obtain ⟨a7, L, Y⟩ := H2 _ _ _ _ _ _ _ _ _ A
 obtain ⟨v10, M, L⟩ := L.out
 simp only [aT, dr] at M
 obtain ⟨rfl, rfl, rfl, rfl, rfl⟩ := M
 have b6 := bA (fun z => Rows.uptoBulk z.1) a1
 refine ⟨⟨⟨s8, s9⟩, a7⟩, ⟨ki.mk ⟨_, _, rfl, q9, L⟩, g9⟩, ?_⟩
 simp only [List.map, Rows.uptoBulk, Rows.uptoBulkAll, sQ] at b8 b9 b7 Y b6 ⊢
 omega
theorem JR : Tryz.prog.cellsOf 23 = 1 := by kernel_rfl
theorem EM : Tryz.prog.cellsOf 132 = 8 := by kernel_rfl
theorem R5 {α : Type} {l : List α} (h : l.length = 8) : ∃ a0 b a2 a3 a4 a5 d i, l = [a0, b, a2, a3, a4, a5, d, i] := by
 match l, h with
 | [a0, b, a2, a3, a4, a5, d, i], _ => exact ⟨a0, b, a2, a3, a4, a5, d, i, rfl⟩
theorem O2 : Tryz.prog.cellsOf 45 = 1 := by kernel_rfl
def wq (x : nh) : Nat := vX x.jl + xL x.ju + qK tH x.lx + 1
def Ri (x : nh) : Prop := True
theorem JY : DM pg0 132 (J1 kT Ri) wq := by
 intro H eh W base sp hd fuel cs x h
 obtain ⟨Z, n11, _, L, J, u, t⟩ := dK Tryz.underlying132 h
 obtain ⟨w, y, A, rfl⟩ := NT u
 obtain ⟨b, d, i, j, l, m, n, p, rfl⟩ := R5 (J.trans EM)
 have q : DataW.trod _ pg0 W _ _ _ n11 27 (([b, d, i, j, l, m, n, p].drop 0).take (Tryz.prog.cellsOf 27)) = some w := t 0 _ rfl
 have r : DataW.trod _ pg0 W _ _ _ n11 30 (([b, d, i, j, l, m, n, p].drop 2).take (Tryz.prog.cellsOf 30)) = some y := t 1 _ rfl
 have s : DataW.trod _ pg0 W _ _ _ n11 45 (([b, d, i, j, l, m, n, p].drop 7).take (Tryz.prog.cellsOf 45)) = some A := t 2 _ rfl
 simp only [DP, BH, O2, List.drop, List.take] at q r s
 obtain ⟨T, E, O⟩ := Fc _ _ _ _ _ _ _ _ _ q
 simp only [jw, aT, dr] at E
 obtain ⟨rfl, rfl⟩ := E
 obtain ⟨U, v, P⟩ := H2 _ _ _ _ _ _ _ _ _ r
 obtain ⟨a1, G, v⟩ := v.out
 simp only [aT, dr] at G
 obtain ⟨rfl, rfl, rfl, rfl, rfl⟩ := G
 obtain ⟨a6, Y, I, R, Q⟩ := rr Gp (by decide) N1.rel Tryz.underlying45 s
 simp only [aT, dr] at I
 obtain rfl := I
 have M := bA (fun z => Rows.uptoBulk z.1) L
 refine ⟨⟨T, U, Y⟩, ⟨kT.mk ⟨_, _, rfl, v, R⟩, trivial⟩, ?_⟩
 simp only [List.map, Rows.uptoBulk, Rows.uptoBulkAll, wq] at O P Q M ⊢
 omega
theorem J0 : Tryz.prog.cellsOf 31 = 2 := by kernel_rfl
def DJ (x : xR) : Nat := 0
theorem Q9 : F5 pg0 31 FR DJ := by
 intro H j W base sp m fuel cs x h
 obtain ⟨xs, n, _, rfl, s, hlen, p⟩ := DataW.trod_array Tryz.underlying31 h
 obtain ⟨u, v, rfl⟩ := Dz hlen
 obtain ⟨b, c1, rfl⟩ := Dz (s.trans J0)
 have l : DataW.trod j pg0 W base sp m n 3 (([b, c1].drop (0 * Tryz.prog.cellsOf 3)).take (Tryz.prog.cellsOf 3)) = some u := p 0 (by decide)
 have h1 : DataW.trod j pg0 W base sp m n 3 (([b, c1].drop (1 * Tryz.prog.cellsOf 3)).take (Tryz.prog.cellsOf 3)) = some v := p 1 (by decide)
 simp only [Fi, List.drop, List.take, Nat.reduceMul] at l h1
 obtain ⟨t, d, q⟩ := B7 _ _ _ _ _ _ _ _ _ l
 obtain ⟨s1, i, r⟩ := B7 _ _ _ _ _ _ _ _ _ h1
 simp only [aT, dr] at d i
 obtain rfl := d
 obtain rfl := i
 refine ⟨⟨t, s1⟩, rfl, ?_⟩
 simp only [List.map, Rows.uptoBulk, Rows.uptoBulkAll, DJ] at q r ⊢
 omega
theorem O5 : Tryz.prog.cellsOf 32 = 1 := by kernel_rfl
theorem Iy : Tryz.prog.cellsOf 119 = 2 := by kernel_rfl
def AA (x : Key) : Nat := x.ke.size + qK (fun _ : Int => 0) x.Key + 1
def Rh (x : Key) : Prop := (∀ y ∈ x.Key, 0 ≤ y ∧ y < 256)
theorem Pe : DM pg0 119 (J1 tw Rh) AA := by
 intro H I W base sp J fuel cs x h
 obtain ⟨G, n15, _, u, t, l, m⟩ := dK Tryz.underlying119 h
 obtain ⟨p, q, rfl⟩ := Dz l
 obtain ⟨b, d, rfl⟩ := Dz (t.trans Iy)
 have i : DataW.trod _ pg0 W _ _ _ n15 9 (([b, d].drop 0).take (Tryz.prog.cellsOf 9)) = some p := m 0 _ rfl
 have j : DataW.trod _ pg0 W _ _ _ n15 53 (([b, d].drop 1).take (Tryz.prog.cellsOf 53)) = some q := m 1 _ rfl
 simp only [Jv, Dn, List.drop, List.take] at i j
 obtain ⟨A, r, w⟩ := EH _ _ _ _ _ _ _ _ _ i
 simp only [aT, dr] at r
 obtain rfl := r
 obtain ⟨v17, E, s, n, y⟩ := rr LF (by decide) N8 Tryz.underlying53 j
 simp only [aT, dr] at s
 obtain rfl := s
 obtain ⟨n, g17⟩ := Lf.Sl.all n
 have v := bA (fun z => Rows.uptoBulk z.1) u
 refine ⟨⟨A, E⟩, ⟨tw.mk ⟨_, rfl, n⟩, g17⟩, ?_⟩
 simp only [List.map, Rows.uptoBulk, Rows.uptoBulkAll, AA] at w y v ⊢
 omega
def Ft (x : oH) : Nat := x.jo.Name.size + qK sQ x.jo.jA + qK wq x.jo.jO + 1 + x.Client.Name.size + qK sQ x.Client.jA + qK wq x.Client.jO + 1 + xL x.Formula + DJ x.qT + qK AA x.Keys + 1
theorem RO : Tryz.prog.readableRec 34 = true ∧ 34 < Tryz.prog.types.size := ⟨by kernel_rfl, iD (by kernel_rfl)⟩
theorem B9 (c : jm) : wv c = tH c := by unfold wv tH vX; omega
theorem JF {α : Type} (sz : α → Nat) (h : ∀ a, 2 ≤ sz a) : ∀ l : List α, 2 * l.length ≤ qK sz l
 | [] => ep _
 | a :: l => by have := JF sz h l; have := h a; simp only [qK, bF, ek, aH] at *; omega
theorem zQ (y : kK) : sQ y = tH y.Signed.jm + qK (fun _ : Int => 0) y.Signed.Tag + 1 + xL y.ju + 1 := rfl
theorem I4 (y : nh) : wq y = vX y.jl + xL y.ju + qK tH y.lx + 1 := rfl
theorem ND (y : Key) : AA y = y.ke.size + qK (fun _ : Int => 0) y.Key + 1 := rfl
theorem JM : ∀ l : List jm, wH l ≤ 21 * qK tH l
 | [] => ep _
 | c :: l => by have := JM l; rw [wH, B9]; simp only [qK, bF, ek] at *; omega
theorem JJ : ∀ l : List kK, AW l ≤ 21 * qK sQ l
 | [] => ep _
 | x :: l => by
  have := JJ l
  have := BD (fun _ : Int => 0) x.Signed.Tag
  rw [AW, B9]
  have e := zQ x
  simp only [qK, bF, ek] at *; omega
theorem Kd : ∀ l : List nh, zG l ≤ 21 * qK wq l
 | [] => ep _
 | x :: l => by
  have := Kd l
  have := JM x.lx
  rw [zG]
  have e := I4 x
  unfold vX at e
  have b : qK wq (x :: l) = max 1 (wq x) + qK wq l := rfl
  omega
theorem J5 : ∀ l : List Key, BT l ≤ 11 * qK AA l
 | [] => ep _
 | x :: l => by
  have := J5 l
  have := BD (fun _ : Int => 0) x.Key
  rw [BT]
  have e := ND x
  have b : qK AA (x :: l) = max 1 (AA x) + qK AA l := rfl
  omega
theorem Is (x : jQ) (h : x.Name.size ≤ 1048576) (h1 : qK sQ x.jA ≤ 1048576) (i : qK wq x.jO ≤ 1048576) : PG x ∧ x.jA.length ≤ 600000 ∧ G2 x ≤ 1000000000 := by
 have c1 := JF sQ (fun y => by rw [zQ]; omega) x.jA
 have c2 := BD wq x.jO
 have g1 : ∀ y ∈ x.jA, tH y.Signed.jm ≤ 1048576 ∧ jR y.ju ≤ 1048576 := fun y b => by
  have := FZ (sz := sQ) b
  have e := zQ y
  have := AI y.ju
  omega
 have g2 : ∀ y ∈ x.jO, jR y.ju ≤ 1048576 ∧ qK tH y.lx ≤ 1048576 := fun y b => by
  have := FZ (sz := wq) b
  have e := I4 y
  have := AI y.ju
  omega
 refine ⟨{ HB := by omega, H9 := by omega, rel := fun y b => ?_, Nd := fun y b => ?_, Sf := fun y b => ?_, Se := fun y b => ?_, Sy := fun y b c d => ?_ }, by omega, ?_⟩
 ·have := (g1 y b).2; omega
 ·have := (g2 y b).1; omega
 ·have := (g2 y b).2; have := BD tH y.lx; omega
 ·have := (g1 y b).1; rw [B9]; omega
 ·have := (g2 y b).2; have := FZ (sz := tH) d; rw [B9]; omega
 ·have := JJ x.jA; have := Kd x.jO; unfold G2; omega
theorem O8 (p : oH) (h : Ft p ≤ 1048576) : PQ p := by
 unfold Ft at h
 have a := Is p.jo (by omega) (by omega) (by omega)
 have b := Is p.Client (by omega) (by omega) (by omega)
 have k := J5 p.Keys
 have f := AI p.Formula
 exact { o := a.1, c := b.1, lo := a.2.1, lc := b.2.1, f := by omega, go := a.2.2, gc := b.2.2, fs := by omega, ks := by omega }
theorem own : ownKnob Tryz.prog.godebug = none := by kernel_rfl
theorem Nu : laidOutB pg0 = true := by kernel_rfl
theorem Nj : Tryz.prog.globalNamed "internal/strconv.uint64pow10" = some 3 := by kernel_rfl
theorem NC : (Tryz.prog.globals[3]?).map (·.type) = some 331 := by kernel_rfl
theorem PK : Tryz.prog.cellsOf 331 = 20 := by kernel_rfl
theorem Qv : Tryz.prog.cellsOf 272 = 1 := by kernel_rfl
theorem HS {P : Program} {x : String × DataW Unit} {r : List (String × DataW Unit)} {w : World} (h : laidMet P (x :: r) w) : laidMet P r w := by
 obtain ⟨u, ⟨g, t, cs, fuel, p, q, h1, m, n, s, d, rfl⟩, l, j⟩ := h
 exact ⟨q, d, (bQ.1 l).2.1, fun b off i => j b off (aN.2 (.inr i))⟩
theorem RM {W : World} (h : laidMetH pg0 Rows.lintHoldsUptoRow.laid W) : BR pg0 (hp W) := by
 have d : laidMet pg0 [("math/bits.deBruijn32tab", Rows.laid_math_bits_deBruijn32tab), ("math/bits.deBruijn64tab", Rows.laid_math_bits_deBruijn64tab), ("internal/strconv.uint64pow10", Go.Lib.tabData .u64 Go.Lib.pow10Tab)] W := h
 have h1 := Go.Lib.tabIs_of_head (rest := []) Nj NC Tryz.underlying331 Tryz.underlying272 Qv PK (HS (HS d))
 unfold Go.Lib.TabIs World.var? at h1
 rw [Nj] at h1
 simp only [aA] at h1
 cases b : W.heap[3]? with
 | none => rw [b] at h1; cases h1
 | some o =>
  rw [b] at h1
  cases o with
  | cells cs T fr =>
   obtain rfl := fO h1
   exact ⟨3, _, _, Nj, b⟩
  | _ => exact absurd (show (none : Option (Array Value)) = some _ from h1) (fun h => by cases h)
def Rg : DataW Unit → Array Value
 | .agg l => (l.map fun x => match x with | .lit (.int k z) => Value.int k z | _ => Value.nilIface).toArray
 | _ => #[]
def Ij (d : DataW Unit) (o : Obj) : Obj := match o with | .cells _ t frozen => .cells (Rg d) t frozen | o => o
theorem Nl (H : Type) (enc : TypeId × Value → H) (W : World) (base : Nat) (args : Array Value) (ds gs : List (DataW H)) (before : List MemPlace) (aj : ∀ (j : Nat) t v, Tryz.f5.params[j]? = some t → args[j]? = some v → Value.okWide pg0 W .any base t v) (hW : DataW.Whole enc pg0 Tryz.f5.params.toList Rows.lintHoldsSpec.vars false W args.toList ds gs before) (hk : Rows.uptoSmall H (ds ++ gs) = true) (hL : laidMetH pg0 Rows.lintHoldsUptoRow.laid W) :
  Calls pg0 5 args W fun e W' => ∃ v, e = .returned v ∧ Rows.lintHoldsSpec.post enc pg0 Tryz.f5 false true false false W args v W' := by
 have da := hW
 obtain ⟨p, q, cS, hV, rfl, e5, e6⟩ := hW
 have hA : DataW.TrodAll enc pg0 W 0 (fun _ => true) true Tryz.f5.params.toList args.toList ds p := cS
 have hr : ∀ t ∈ Tryz.f5.params.toList, Tryz.prog.readableRec t = true ∧ t < Tryz.prog.types.size := by
  rw [Tryz.params5]
  intro t ht
  simp only [aK, cV, eS] at ht
  subst ht
  exact RO
 rw [Tryz.params5] at hA aj
 obtain ⟨v0, e7, d0, e0, p0, q0, db, rfl, rfl, h0, r0⟩ := trodAll_cons hA
 obtain ⟨rfl, rfl, rfl⟩ := trodAll_nil r0
 obtain rfl : args = #[v0] := by cases args; simp_all
 obtain ⟨rfl, rfl⟩ := trodVars_none hV
 have k0 := aj 0 34 v0 rfl rfl
 obtain ⟨bt, rfl, _⟩ := okWide_struct Tryz.underlying34 k0
 obtain ⟨e1, cb⟩ := h0
 obtain ⟨de, rfl⟩ : ∃ l : List Value, bt = l.toArray := ⟨bt.toList, by simp⟩
 change DataW.trod _ _ _ _ _ _ _ _ de = some _ at cb
 obtain ⟨di, n18, _, cd, cc, ag, M⟩ := dK Tryz.underlying34 cb
 obtain ⟨b6, b7, b9, ba, bc, bd, bf, bh, bi, rfl⟩ := Po ag
 obtain ⟨r, b, d, s, h, i, G, I, J, L, m, u, w, x, y, A, E, n, rfl⟩ := Rf (cc.trans OK)
 have O : DataW.trod _ pg0 W _ _ _ n18 25 (([r, b, d, s, h, i, G, I, J, L, m, u, w, x, y, A, E, n].drop 0).take (Tryz.prog.cellsOf 25)) = some b6 := M 0 _ rfl
 have P : DataW.trod _ pg0 W _ _ _ n18 25 (([r, b, d, s, h, i, G, I, J, L, m, u, w, x, y, A, E, n].drop 3).take (Tryz.prog.cellsOf 25)) = some b7 := M 1 _ rfl
 have Q : DataW.trod _ pg0 W _ _ _ n18 30 (([r, b, d, s, h, i, G, I, J, L, m, u, w, x, y, A, E, n].drop 6).take (Tryz.prog.cellsOf 30)) = some b9 := M 2 _ rfl
 have R : DataW.trod _ pg0 W _ _ _ n18 3 (([r, b, d, s, h, i, G, I, J, L, m, u, w, x, y, A, E, n].drop 11).take (Tryz.prog.cellsOf 3)) = some ba := M 3 _ rfl
 have T : DataW.trod _ pg0 W _ _ _ n18 31 (([r, b, d, s, h, i, G, I, J, L, m, u, w, x, y, A, E, n].drop 12).take (Tryz.prog.cellsOf 31)) = some bc := M 4 _ rfl
 have U : DataW.trod _ pg0 W _ _ _ n18 3 (([r, b, d, s, h, i, G, I, J, L, m, u, w, x, y, A, E, n].drop 14).take (Tryz.prog.cellsOf 3)) = some bd := M 5 _ rfl
 have Y : DataW.trod _ pg0 W _ _ _ n18 3 (([r, b, d, s, h, i, G, I, J, L, m, u, w, x, y, A, E, n].drop 15).take (Tryz.prog.cellsOf 3)) = some bf := M 6 _ rfl
 have Z : DataW.trod _ pg0 W _ _ _ n18 3 (([r, b, d, s, h, i, G, I, J, L, m, u, w, x, y, A, E, n].drop 16).take (Tryz.prog.cellsOf 3)) = some bh := M 7 _ rfl
 have a1 : DataW.trod _ pg0 W _ _ _ n18 32 (([r, b, d, s, h, i, G, I, J, L, m, u, w, x, y, A, E, n].drop 17).take (Tryz.prog.cellsOf 32)) = some bi := M 8 _ rfl
 simp only [Pf, Fi, BH, J0, O5, List.drop, List.take] at O P Q R T U Y Z a1
 obtain ⟨dj, n19, _, cf, df, ah, ae⟩ := dK Tryz.underlying25 O
 obtain ⟨bj, bk, bl, rfl⟩ := NT ah
 have a6 : DataW.trod _ pg0 W _ _ _ n19 9 (([r, b, d].drop 0).take (Tryz.prog.cellsOf 9)) = some bj := ae 0 _ rfl
 have a7 : DataW.trod _ pg0 W _ _ _ n19 22 (([r, b, d].drop 1).take (Tryz.prog.cellsOf 22)) = some bk := ae 1 _ rfl
 have a8 : DataW.trod _ pg0 W _ _ _ n19 23 (([r, b, d].drop 2).take (Tryz.prog.cellsOf 23)) = some bl := ae 2 _ rfl
 simp only [Jz, JR, Dn, List.drop, List.take] at a6 a7 a8
 obtain ⟨ar, bu, ck⟩ := EH _ _ _ _ _ _ _ _ _ a6
 simp only [aT, dr] at bu
 obtain rfl := bu
 obtain ⟨v21, au, bw, ak, cm⟩ := rr Gx (by decide) LR Tryz.underlying22 a7
 simp only [aT, dr] at bw
 obtain rfl := bw
 obtain ⟨ak, g21⟩ := Lf.Sl.all ak
 obtain ⟨v22, av, bx, al, cn⟩ := rr EM (by decide) JY Tryz.underlying23 a8
 simp only [aT, dr] at bx
 obtain rfl := bx
 obtain ⟨al, g22⟩ := Lf.Sl.all al
 have cj := bA (fun z => Rows.uptoBulk z.1) cf
 obtain ⟨dk, n23, _, cg, dh, ai, af⟩ := dK Tryz.underlying25 P
 obtain ⟨bp, bq, bs, rfl⟩ := NT ai
 have aa : DataW.trod _ pg0 W _ _ _ n23 9 (([s, h, i].drop 0).take (Tryz.prog.cellsOf 9)) = some bp := af 0 _ rfl
 have ab : DataW.trod _ pg0 W _ _ _ n23 22 (([s, h, i].drop 1).take (Tryz.prog.cellsOf 22)) = some bq := af 1 _ rfl
 have ad : DataW.trod _ pg0 W _ _ _ n23 23 (([s, h, i].drop 2).take (Tryz.prog.cellsOf 23)) = some bs := af 2 _ rfl
 simp only [Jz, JR, Dn, List.drop, List.take] at aa ab ad
 obtain ⟨aw, bz, cq⟩ := EH _ _ _ _ _ _ _ _ _ aa
 simp only [aT, dr] at bz
 obtain rfl := bz
 obtain ⟨v25, ay, c0, an, cr⟩ := rr Gx (by decide) LR Tryz.underlying22 ab
 simp only [aT, dr] at c0
 obtain rfl := c0
 obtain ⟨an, e2⟩ := Lf.Sl.all an
 obtain ⟨v26, az, c3, ao, cs⟩ := rr EM (by decide) JY Tryz.underlying23 ad
 simp only [aT, dr] at c3
 obtain rfl := c3
 obtain ⟨ao, e3⟩ := Lf.Sl.all ao
 have cp := bA (fun z => Rows.uptoBulk z.1) cg
 obtain ⟨aE, ap, ct⟩ := H2 _ _ _ _ _ _ _ _ _ Q
 obtain ⟨v27, c4, ap⟩ := ap.out
 simp only [aT, dr] at c4
 obtain ⟨rfl, rfl, rfl, rfl, rfl⟩ := c4
 obtain ⟨b0, c5, cu⟩ := B7 _ _ _ _ _ _ _ _ _ R
 simp only [aT, dr] at c5
 obtain rfl := c5
 obtain ⟨b1, c6, cv⟩ := Q9 _ _ _ _ _ _ _ _ _ T
 simp only [FR, aT, dr] at c6
 obtain ⟨rfl, rfl⟩ := c6
 obtain ⟨b2, c7, cw⟩ := B7 _ _ _ _ _ _ _ _ _ U
 simp only [aT, dr] at c7
 obtain rfl := c7
 obtain ⟨b3, c8, cx⟩ := B7 _ _ _ _ _ _ _ _ _ Y
 simp only [aT, dr] at c8
 obtain rfl := c8
 obtain ⟨b4, c9, cy⟩ := B7 _ _ _ _ _ _ _ _ _ Z
 simp only [aT, dr] at c9
 obtain rfl := c9
 obtain ⟨v33, b5, ca, aq, cz⟩ := rr Iy (by decide) Pe Tryz.underlying32 a1
 simp only [aT, dr] at ca
 obtain rfl := ca
 obtain ⟨aq, e4⟩ := Lf.Sl.all aq
 have ch := bA (fun z => Rows.uptoBulk z.1) cd
 simp only [List.map, Rows.uptoBulk, Rows.uptoBulkAll] at ck cm cn cj cq cr cs cp ct cu cv cw cx cy cz ch
 have z0 : Ft (⟨⟨ar, au, av⟩, ⟨aw, ay, az⟩, aE, b0, b1, b2, b3, b4, b5⟩ : oH) ≤ Rows.uptoBulk d0 := by simp only [Ft]; omega
 have hB : Rows.uptoBulkAll ([d0] ++ []) ≤ 1048576 := iD hk
 simp only [bo, Rows.uptoBulkAll] at hB
 have hm : tg (⟨⟨ar, au, av⟩, ⟨aw, ay, az⟩, aE, b0, b1, b2, b3, b4, b5⟩ : oH) = some true := GB Oy _ (O8 _ (by omega))
 have hg := D4 (⟨⟨ar, au, av⟩, ⟨aw, ay, az⟩, aE, b0, b1, b2, b3, b4, b5⟩ : oH) b d h i m n true W (RM hL) ak al an ao ap aq hm
 refine cW hg fun e W' ⟨he, hx⟩ => ?_
 subst he
 exact ⟨_, rfl, Km Nu hr rfl da hx (fun _ _ _ => trodAll_cons_mk (shut_bool Tryz.underlying4 _) trodAll_mk0) rfl rfl (ok_one (by kernel_rfl) rfl (okWide_bool_mk Tryz.underlying4 _))⟩
noncomputable def CM (os : Os) : World :=
 { World.holding pg0 os ⟨#[], #[], []⟩ with heap := (((World.holding pg0 os ⟨#[], #[], []⟩).heap.modify 4 (Ij Rows.laid_math_bits_deBruijn32tab)).modify 5 (Ij Rows.laid_math_bits_deBruijn64tab)).modify 3 (Ij Rows.laid_internal_strconv_uint64pow10) }
theorem Nv (os : Os) : laidMet pg0 Rows.lintHoldsUptoRow.laid ((CM os).forCall (fun _ _ => 0) ⟨#[], #[.agg #[.string ⟨#[]⟩, .slice none 0 0, .slice none 0 0, .string ⟨#[]⟩, .slice none 0 0, .slice none 0 0, .int .i64 0, .int .i64 0, .string ⟨#[]⟩, .string ⟨#[]⟩, .slice none 0 0, .int .i64 0, .int .i64 0, .int .i64 0, .int .i64 0, .int .i64 0, .int .i64 0, .slice none 0 0]], []⟩).memory :=
 laidMet_of_run' 8 (by kernel_rfl) (by kernel_rfl)
theorem QS (os : Os) {H : Type} (enc : TypeId × Value → H) : ∃ places, DataW.whole enc pg0 ((CM os).forCall (fun _ _ => 0) ⟨#[], #[.agg #[.string ⟨#[]⟩, .slice none 0 0, .slice none 0 0, .string ⟨#[]⟩, .slice none 0 0, .slice none 0 0, .int .i64 0, .int .i64 0, .string ⟨#[]⟩, .string ⟨#[]⟩, .slice none 0 0, .int .i64 0, .int .i64 0, .int .i64 0, .int .i64 0, .int .i64 0, .int .i64 0, .slice none 0 0]], []⟩).memory Tryz.f5.params.toList Rows.lintHoldsSpec.vars false #[.agg #[.string ⟨#[]⟩, .slice none 0 0, .slice none 0 0, .string ⟨#[]⟩, .slice none 0 0, .slice none 0 0, .int .i64 0, .int .i64 0, .string ⟨#[]⟩, .string ⟨#[]⟩, .slice none 0 0, .int .i64 0, .int .i64 0, .int .i64 0, .int .i64 0, .int .i64 0, .int .i64 0, .slice none 0 0]].toList 8 = some ([.agg [.agg [.lit (.string []), .nil, .nil], .agg [.lit (.string []), .nil, .nil], .agg [.lit (.int .i64 0), .lit (.int .i64 0), .agg [.lit (.string []), .lit (.string [])], .nil], .lit (.int .i64 0), .agg [.lit (.int .i64 0), .lit (.int .i64 0)], .lit (.int .i64 0), .lit (.int .i64 0), .lit (.int .i64 0), .nil]], [], places) :=
 ⟨[], by kernel_rfl⟩
set_option maxRecDepth 100000 in
theorem P6 (os : Os) (started : os.Started) (H : Type) (enc : TypeId × Value → H) (F : Stop.Interp) :
  ReturnsInHanded {} Tryz.checked os 5 .any ((Rows.OpenSpec.upto Rows.lintHoldsSpec).preRow enc pg0 Tryz.f5 Rows.lintHoldsUptoRow.domain false Rows.lintHoldsUptoRow.laid) (((Rows.OpenSpec.upto Rows.lintHoldsSpec).at F).post enc pg0 Tryz.f5 false true false false) := by
 obtain ⟨places, j⟩ := QS os enc
 refine returnsInHanded_of_row (C := Tryz.checked) (s := Rows.OpenSpec.upto Rows.lintHoldsSpec) own started (by kernel_rfl) Tryz.func5
  (witness_row_at (enc := enc) (C := Tryz.checked) false (CM os) #[.agg #[.string ⟨#[]⟩, .slice none 0 0, .slice none 0 0, .string ⟨#[]⟩, .slice none 0 0, .slice none 0 0, .int .i64 0, .int .i64 0, .string ⟨#[]⟩, .string ⟨#[]⟩, .slice none 0 0, .int .i64 0, .int .i64 0, .int .i64 0, .int .i64 0, .int .i64 0, .int .i64 0, .slice none 0 0]] rfl (by kernel_rfl) (by kernel_rfl) (by kernel_rfl)
   (OpenSpec.preRow_of_cond 8 j (by kernel_rfl) (fun k hk => by cases hk; kernel_rfl) (by kernel_rfl) (Nv os))) ?_
 intro W base args ds gs before d i _ b _ h _ _
 exact Nl H enc W base args ds gs before d i (b _ rfl) h
theorem Q5 {a b : Bool} (ha : a = true) (d : b = true) : (a && b) = true := by rw [ha, d]; rfl
set_option maxHeartbeats 40000000 in
theorem Om : joinedFacts Tryz.checked.prog 5 Tryz.f5 (Rows.OpenSpec.upto Rows.lintHoldsSpec).bare Rows.lintHoldsUptoRow = true := by
 unfold joinedFacts
 repeat' with_reducible refine Q5 ?_ ?_
 all_goals as_aux_lemma => kernel_rfl
theorem RP : Rows.LintHoldsUptoSaid :=
 OpenClaim.holds_of_cond 5 Tryz.f5 rfl rfl rfl rfl rfl rfl rfl ⟨rfl, rfl, rfl, rfl, rfl⟩ rfl rfl rfl rfl rfl (by kernel_rfl) Tryz.func5 Om
  (iD (by kernel_rfl)) (by unfold Func.isWrapper; first | (rw [aZ (by decide +kernel)]; kernel_rfl) | (rw [aY (by decide +kernel)]; exact ⟨rfl, rfl⟩))
  (fun os started H enc _ F => by rw [OpenClaim.pre_eq_preRow]; exact P6 os started H enc F)
theorem PM (f : FuncId) (fn : Func) (i : Tryz.pinned.checked.prog.funcNamed "entente/ententelaw31.LintHolds" = some f) (d : Tryz.pinned.checked.prog.funcs[f]? = some fn) :
  true = Tryz.pinned.checked.prog.looks [] ∧ ∀ (j : Nat) t, fn.params[j]? = some t → Tryz.pinned.checked.prog.wantsStandIn t = false := by
 obtain rfl : f = 5 := fO ((show Tryz.prog.funcNamed "entente/ententelaw31.LintHolds" = some 5 by kernel_rfl).symm.trans i) |>.symm
 obtain rfl : fn = Tryz.f5 := (fO (Tryz.func5.symm.trans d)).symm
 refine ⟨by kernel_rfl, fun j t h => ?_⟩
 rw [Tryz.params5] at h
 have hm : t ∈ [34] := by simpa using Array.mem_of_getElem? h
 have b : ([34].all fun u => !Tryz.prog.wantsStandIn u) = true := by kernel_rfl
 exact (show Tryz.prog.wantsStandIn t = false by simpa using ei.1 b t hm)
theorem Si : Rows.lintHoldsUptoRow.wfByText (Rows.OpenSpec.upto Rows.lintHoldsSpec) = true := by kernel_rfl
theorem Sm : Tryz.pinned.checked.prog.mainIs = some (Rows.lintHoldsUptoCard.stood.harness.1, Rows.lintHoldsUptoCard.stood.harness.2.toList) := by kernel_rfl
theorem Sd : false = Rows.lintHoldsUptoRow.goesBy Tryz.pinned.checked.prog := by kernel_rfl
theorem proved : Rows.LintHoldsUptoCardSaid :=
 Claim7.holds_tied_plain_at .later [] _ _ _ _ RP (fun _ h => by cases h) Si (fun _ h => by cases h) lintHoldsUpto_row_tie rfl ⟨rfl, rfl⟩ Sm rfl PM Sd
end Go.Proofs.YtjjjihkifgdhgaaGreatDoor
