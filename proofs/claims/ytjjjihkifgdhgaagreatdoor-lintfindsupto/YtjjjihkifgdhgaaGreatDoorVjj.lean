/- a part of a proof of LintFinds -/
import Derived.Test.YtjjjihkifgdhgaaGreatDoorHlj
import Derived.Test.YtjjjihkifgdhgaaGreatDoorRtVj
import Derived.Test.YtjjjihkifgdhgaaGreatDoorRows
import Derived.WalkKit
import Derived.ProofKit
import Derived.OpenShut
import Derived.JoinedCond
import Derived.Deep.Slices
import Derived.Carry
import Derived.ChangeArms
import Derived.ChangeSame
import Derived.Test.YtjjjihkifgdhgaaGreatDoorCards
import Derived.Test.YtjjjihkifgdhgaaGreatDoorTie
import Derived.Deep.DeepHandedRow
import Derived.Lib.LaidTab
import Derived.SevenTiedAt
import Derived.Test.YtjjjihkifgdhgaaGreatDoorDL3W3j
set_option linter.all false
namespace Go.Proofs.YtjjjihkifgdhgaaGreatDoor
open Go.Proofs.Tryz renaming prog → pg0
open Go.RowKit
theorem Np {f : Formula} (hw : sJ f = true) (b : kw f ≤ 200) : (yv f).length ≤ 40 * kw f := (M1 (nH f) f (aW _) hw [] (by simp; omega)).2
theorem QR : ∀ (n : Nat) (f : Formula), nH f ≤ n → sJ f = true → kw f ≤ 64 → oV n f = some (vL (yv f)) := by
 intro n
 induction n with
 | zero => intro f h; rw [mH] at h; omega
 | succ n ih =>
  intro f t hw y
  rw [mH] at t
  have v := nN f
  obtain ⟨h1, p, i⟩ := xc hw
  have d : 0 ≤ f.Op ∧ f.Op < 128 := by rcases i with h | h | h <;> omega
  have hlen : 0 ≤ (f.Kids.length : Int) ∧ (f.Kids.length : Int) < 128 := by omega
  have key : ∀ (ks : List Formula) (l : List Int), (∀ k ∈ ks, k ∈ f.Kids) → wellL ks = true → l.length + 40 * nodesL ks ≤ 8000 → nodesL ks ≤ 64 → rr (oV n) ks (vL l) = some (vL (l ++ bytesFL ks)) := by
   intro ks
   induction ks with
   | nil => intro l _ _ _ _; rw [rr, bytesFL, bA]
   | cons k ks m =>
    intro l hk b u j
    rw [wellL, aX] at b
    rw [nodesL] at u j
    have x := Np b.1 (by omega)
    rw [rr, ih k (by have := qn (hk k (by simp)); omega) b.1 (by omega), aA, qZ _ _ (by omega), aA,
     m _ (fun z w => hk z (by simp [w])) b.2 (by simp; omega) (by omega), bytesFL, aN]
  rw [oV]
  unfold wc
  rw [yb d.1 d.2, aA, HU]
  by_cases c1 : f.Op = 1
  ·have q : ma f.jq = true := by rcases i with h | h | h; exact h.2.1; omega; omega
   have := oq q
   simp only [c1, bn, aO]
   rw [AD q, aA, qZ _ _ (by simp; omega)]
   rfl
  ·have r : (f.Op == 1) = false := by simpa using c1
   simp only [r, aB, aJ, c1]
   by_cases g : f.Op = 4
   ·have hk : 0 ≤ f.K ∧ f.K < 128 := by rcases i with h | h | h <;> omega
    simp only [g, bn, aO]
    rw [yb hk.1 hk.2, aA, qZ _ _ (by simp), aA, aA, yb hlen.1 hlen.2, aA, qZ _ _ (by simp), aA,
     key f.Kids _ (fun k hk => hk) p (by simp; omega) (by omega)]
    simp
   ·have s : (f.Op == 4) = false := by simpa using g
    simp only [s, aB, aJ, g, aA]
    rw [yb hlen.1 hlen.2, aA, qZ _ _ (by simp), aA, key f.Kids _ (fun k hk => hk) p (by simp; omega) (by omega)]
    simp
theorem SR (f : Formula) (h : Gd f) : ((pJ f).bind fun r => if r then (oV jY f).bind fun b => some b else some zS) = some (vL (ya f)) := by
 rw [G5 f h, aA]
 unfold ya
 cases g : nr f
 ·rfl
 ·obtain ⟨h1, i, d⟩ := zb g
  simp only [aO]
  rw [QR jY f (by rw [ml]; omega) d h1, ol]
theorem IS (f g : Formula) (j : Gd f) (l : Gd g) : ∃ c : Int, vM f g = some c ∧ (c > 0 ↔ nq Bc g f = true) := by
 unfold vM
 rw [SR f j, aA, SR g l, aA, xW, ui, ui, AB]
 rcases AM (tC (ya f)) (tC (ya g)) with h | h | h
 ·rw [bB h]
  refine ⟨-1, rfl, iff_of_false (by omega) (fun b => ?_)⟩
  have := xL _ _ _ h b
  rw [uS] at this; cases this
 ·have e : kP (vL (ya f)) (vL (ya g)) = true := lW.2 (zA (by rw [ui, ui, h]))
  rw [h, uS, e]
  exact ⟨0, rfl, iff_of_false (by omega) (by simp)⟩
 ·have e : Op.bytesLess (tC (ya f)) (tC (ya g)) = false := by
   rw [← fL]
   intro b
   have := xL _ _ _ h b
   rw [uS] at this; cases this
  have i : kP (vL (ya f)) (vL (ya g)) = false := by
   rw [← fL, lW]
   intro b
   have d := bD (fun s : ByteArray => s.data.toList) b
   simp only [ui] at d
   rw [d, uS] at h; cases h
  rw [e, i]
  exact ⟨1, rfl, iff_of_true (by omega) h⟩
theorem Se : ∀ (n : Nat) (f : Formula), nH f ≤ n → ∀ g, ∃ b, qw n f g = some b ∧ (b = true ↔ f = g) := by
 intro n
 induction n with
 | zero => intro f h; rw [mH] at h; omega
 | succ n ih =>
  intro f h g
  rw [mH] at h
  have key : ∀ (l m A : List Formula), (∀ x ∈ l, x ∈ f.Kids) → g.Kids = A ++ m → l.length = m.length → ∃ b, rY g (qw n) l A.length = some b ∧ (b = true ↔ l = m) := by
   intro l
   induction l with
   | nil =>
    intro m A _ _ d
    obtain rfl := aV d.symm
    exact ⟨true, by rw [rY], by simp⟩
   | cons x l t =>
    intro m A s v d
    match m, d with
    | y :: m, d =>
     obtain ⟨b, e, r⟩ := ih x (by have := qn (s x (by simp)); omega) y
     rw [rY, v, mL A y m _ rfl, aA, e, aA]
     cases b with
     | false =>
      refine ⟨false, rfl, ?_⟩
      have : x ≠ y := fun j => by have := r.2 j; simp at this
      simp [this]
     | true =>
      have j := r.1 rfl
      obtain ⟨b, u, i⟩ := t m (A ++ [y]) (fun z w => s z (by simp [w])) (by rw [v]; simp) (by simpa using d)
      rw [aF, List.length_singleton] at u
      simp only [cC, aB, aJ]
      rw [u]
      exact ⟨b, rfl, by rw [i]; simp [j]⟩
  rw [qw]
  unfold wY
  by_cases h1 : f.Op = g.Op
  ·by_cases i : f.K = g.K
   ·by_cases p : f.jq = g.jq
    ·have q : jR f.jq g.jq = true := jS.2 p
     by_cases d : f.Kids.length = g.Kids.length
     ·obtain ⟨b, e, r⟩ := key f.Kids g.Kids [] (fun x s => s) rfl d
      rw [bR] at e
      refine ⟨b, ?_, r.trans ⟨fun hk => Formula.ext' h1 i p hk, fun hk => by rw [hk]⟩⟩
      simp [h1, i, q, d, e]
     ·refine ⟨false, ?_, by simp; intro hk; rw [hk] at d; exact d rfl⟩
      have : ((f.Kids.length : Int) != (g.Kids.length : Int)) = true := by simp; omega
      simp [h1, i, q, this]
    ·have q : jR f.jq g.jq = false := by rw [← fL, jS]; exact p
     exact ⟨false, by simp [h1, i, q], by simp; intro hk; rw [hk] at p; exact p rfl⟩
   ·exact ⟨false, by simp [h1, i], by simp; intro hk; rw [hk] at i; exact i rfl⟩
  ·exact ⟨false, by simp [h1], by simp; intro hk; rw [hk] at h1; exact h1 rfl⟩
theorem N5 (a b : Formula) (h : Gd a) : qw jY a b = some (pu a b) := by
 have := vE a
 unfold Gd at h
 obtain ⟨x, e, d⟩ := Se jY a (by rw [ml]; omega) b
 rw [e]; congr 1
 rw [bL, d, xX]
section
variable {α : Type} {lt : α → α → Bool}
def Lu (lt : α → α → Bool) (l : List α) : Prop := l.Pairwise fun x y => lt y x = false
theorem D4 (h : SWO lt) (k : α) : ∀ {l : List α}, Lu lt l → ∃ A B, l = A ++ B ∧ (∀ x ∈ A, lt k x = false) ∧ (∀ x ∈ B, lt k x = true)
 | [], _ => ⟨[], [], rfl, by simp, by simp⟩
 | x :: l, j => by
  obtain ⟨h1, d⟩ := cJ.1 j
  cases e : lt k x with
  | true =>
   refine ⟨[], x :: l, rfl, by simp, fun y b => ?_⟩
   rcases aQ.1 b with rfl | b
   ·exact e
   ·rcases h.MY _ y _ e with q | q
    ·exact q
    ·rw [h1 y b] at q; cases q
  | false =>
   obtain ⟨A, B, rfl, g, i⟩ := D4 h k d
   exact ⟨x :: A, B, rfl, fun y b => by
    rcases aQ.1 b with rfl | b
    ·exact e
    ·exact g y b, i⟩
theorem GV {k : α} {A B : List α} (d : ∀ x ∈ A, lt k x = false) (g : ∀ x ∈ B, lt k x = true) : A8 lt (A ++ B) k = A ++ k :: B := by
 unfold A8
 rw [iw, iw]
 rw [fQ.2 (fun x b => by rw [d x b]; rfl), List.filter_eq_nil_iff.2 (fun x b => by rw [g x b]; simp), List.filter_eq_nil_iff.2 (fun x b => by rw [d x b]; simp), fQ.2 (fun x b => g x b)]
 simp
theorem Lh (h : SWO lt) {k : α} {A B : List α} (g : Lu lt (A ++ B)) (i : ∀ x ∈ A, lt k x = false) (j : ∀ x ∈ B, lt k x = true) : Lu lt (A ++ k :: B) := by
 unfold Lu at *
 rw [cV] at *
 refine ⟨g.1, cJ.2 ⟨fun x l => h.asym (j x l), g.2.1⟩, fun a ha b d => ?_⟩
 rcases aQ.1 d with rfl | d
 ·exact i a ha
 ·exact g.2.2 a ha b d
variable {eq : α → α → Bool}
theorem H4 (he : ∀ x y, eq x y = true ↔ x = y) (k : α) : ∀ (l : List α) (p : α), mN eq p (l ++ [k]) = if eq k ((l.getLast?).getD p) then mN eq p l else mN eq p l ++ [k]
 | [], p => by
  rw [bE, mN, mN]
  rfl
 | y :: l, p => by
  have e : ((y :: l).getLast?).getD p = (l.getLast?).getD y := by cases l <;> rfl
  rw [bP, mN, mN, H4 he k l y, e]
  by_cases h1 : eq y p = true
  ·rw [bB h1, bB h1]
  ·rw [bo h1, bo h1]
   split <;> rfl
def zj (eq : α → α → Bool) (l : List α) (k : α) : Bool := match l.getLast? with | some y => eq y k | none => false
theorem Nw (x : α) (l : List α) : (x :: l).getLast? = some ((l.getLast?).getD x) := by cases l <;> rfl
theorem PD (he : ∀ x y, eq x y = true ↔ x = y) (k : α) (l : List α) : dd eq (l ++ [k]) = if zj eq l k then dd eq l else dd eq l ++ [k] := by
 cases l with
 | nil => rfl
 | cons x l =>
  have b : dd eq ((x :: l) ++ [k]) = x :: mN eq x (l ++ [k]) := rfl
  have d : dd eq (x :: l) = x :: mN eq x l := rfl
  unfold zj
  rw [b, d, H4 he, Nw]
  simp only
  by_cases h : (l.getLast?).getD x = k
  ·rw [h, bB ((he k k).2 rfl), bB ((he k k).2 rfl)]
  ·rw [bo (fun q => h ((he _ _).1 q).symm), bo (fun q => h ((he _ _).1 q))]; rfl
theorem JX (he : ∀ x y, eq x y = true ↔ x = y) (y : α) (B : List α) : ∀ (l : List α) (p : α), y ≠ (l.getLast?).getD p → mN eq p (l ++ y :: B) = mN eq p l ++ y :: mN eq y B
 | [], p, h => by
  have h : y ≠ p := h
  rw [bE]
  have e : mN eq p (y :: B) = if eq y p then mN eq y B else y :: mN eq y B := rfl
  rw [e, bo (fun q => h ((he _ _).1 q))]; rfl
 | z :: l, p, h => by
  have e : ((z :: l).getLast?).getD p = (l.getLast?).getD z := by cases l <;> rfl
  rw [e] at h
  rw [bP, mN, mN, JX he y B l z h]
  split <;> rfl
theorem Ny (he : ∀ x y, eq x y = true ↔ x = y) (A : List α) : ∀ B : List α, (∀ y, B.head? = some y → A.getLast? ≠ some y) → dd eq (A ++ B) = dd eq A ++ dd eq B
 | [], _ => by rw [bA]; show _ = dd eq A ++ []; rw [bA]
 | y :: B, h => by
  have h := h y rfl
  cases A with
  | nil => rfl
  | cons x A =>
   have e : (x :: A).getLast? = some ((A.getLast?).getD x) := by cases A <;> rfl
   rw [e] at h
   rw [bP, dd, dd, dd, JX he y B A x (fun q => h (by rw [q]))]; rfl
theorem Ib (he : ∀ x y, eq x y = true ↔ x = y) : ∀ (l : List α) (p : α), ((mN eq p l).getLast?).getD p = (l.getLast?).getD p
 | [], p => by rw [mN]
 | y :: l, p => by
  have e : ((y :: l).getLast?).getD p = (l.getLast?).getD y := by cases l <;> rfl
  rw [mN, e, ← Ib he l y]
  by_cases h : eq y p = true
  ·rw [bB h, (he _ _).1 h]
  ·rw [bo h]
   cases mN eq y l <;> rfl
theorem Qh (he : ∀ x y, eq x y = true ↔ x = y) (l : List α) : (dd eq l).getLast? = l.getLast? := by
 cases l with
 | nil => rfl
 | cons x l =>
  have e : ∀ m : List α, (x :: m).getLast? = some ((m.getLast?).getD x) := by intro m; cases m <;> rfl
  rw [dd, e, e, Ib he]
theorem Q7 (h : SWO lt) (he : ∀ x y, eq x y = true ↔ x = y) {k : α} {A B : List α} (i : ∀ x ∈ A, lt k x = false) (g : ∀ x ∈ B, lt k x = true) :
  dd eq (A ++ B) = dd eq A ++ dd eq B ∧ dd eq (A ++ k :: B) = (if zj eq A k then dd eq A else dd eq A ++ [k]) ++ dd eq B := by
 have h1 : ∀ y, B.head? = some y → A.getLast? ≠ some y := fun y d b => by
  have := g y (List.mem_of_mem_head? d)
  rw [i y (List.mem_of_getLast? b)] at this; cases this
 refine ⟨Ny he A B h1, ?_⟩
 have e : A ++ k :: B = (A ++ [k]) ++ B := by simp
 rw [e, Ny he (A ++ [k]) B, PD he]
 intro y d b
 rw [List.getLast?_append] at b
 simp only [List.getLast?_singleton, Option.some_or, gm] at b
 have := g y (List.mem_of_mem_head? d)
 rw [b, h.Pc] at this; cases this
end
theorem Gi (l : List Formula) (k : Formula) (h : ∀ x ∈ l, Gd x) (hk : Gd k) (A : List Formula) (p : ∀ x ∈ A, nq Bc k x = false) : ∀ (m : Nat) (B C : List Formula), B.length = m → l = A ++ B ++ C → (∀ x ∈ B, nq Bc k x = true) → l.length ≤ 1000000 → ∀ n, m < n →
  pg l k n ((A.length + B.length : Nat) : Int) = some (A.length : Int)
 | 0, B, C, hm, b, g, hlen, n + 1, s => by
  obtain rfl := aV hm
  rw [pg]
  simp only [bR, gl]
  rcases du A with rfl | ⟨A', y, rfl⟩
  ·rfl
  ·rw [dU] at *
   have hp : ((A' ++ [y]).length : Int) > 0 := by simp
   simp only [hp, cA, aO]
   have hw : IntKind.i64.wrap (((A' ++ [y]).length : Int) - 1) = (A'.length : Int) := by
    simp at hlen b ⊢
    rw [b] at hlen
    simp at hlen
    rw [kA (by omega) (by omega)]
   rw [hw, show lB l (A'.length : Int) = some y from by rw [b]; simp only [bA, aN]; exact mL A' y C _ rfl, aA]
   have j : y ∈ l := by rw [b]; simp
   obtain ⟨c, e, i⟩ := IS y k (h y j) hk
   have d : ¬ c > 0 := fun q => by have := i.1 q; rw [p y (by simp)] at this; cases this
   rw [e, aA]
   simp [d]
 | m + 1, B, C, hm, b, g, hlen, n + 1, s => by
  rcases du B with rfl | ⟨B', y, rfl⟩
  ·simp at hm
  ·rw [dU] at *
   rw [pg]
   have hp : ((A.length + (B' ++ [y]).length : Nat) : Int) > 0 := by simp; omega
   simp only [hp, cA, aO]
   have hw : IntKind.i64.wrap (((A.length + (B' ++ [y]).length : Nat) : Int) - 1) = ((A.length + B'.length : Nat) : Int) := by
    rw [b] at hlen
    simp at hlen
    rw [kA (by simp; omega) (by simp; omega)]; simp; omega
   have r : lB l ((A.length + B'.length : Nat) : Int) = some y := by
    rw [b]
    have e : A ++ (B' ++ [y]) ++ C = (A ++ B') ++ y :: C := by simp
    rw [e]
    exact mL (A ++ B') y C _ (by simp)
   rw [hw, r, aA]
   have j : y ∈ l := by rw [b]; simp
   obtain ⟨c, e, i⟩ := IS y k (h y j) hk
   have d : c > 0 := i.2 (g y (by simp))
   rw [e, aA]
   simp only [d, cA, aA, aO]
   exact Gi l k h hk A p m B' (y :: C) (by simp at hm; omega) (by rw [b]; simp) (fun x t => g x (by simp [t])) hlen n (by omega)
theorem Tu {b : Bool} (h : b = true) : qW b = some () := by rw [h]; rfl
theorem Fh (b : Bool) (k : Formula) (ks A B : List Formula) (l : ∀ x ∈ A ++ B, Gd x) (hk : Gd k) (m : ∀ x ∈ A, nq Bc k x = false) (n : ∀ x ∈ B, nq Bc k x = true) (hlen : (A ++ B).length ≤ 1000000) :
  mB b (k :: ks) (A ++ B) = if b && zj pu A k then mB b ks (A ++ B) else mB b ks (A ++ k :: B) := by
 have j := Gi (A ++ B) k l hk A m B.length B [] rfl (by simp) n hlen jY (by rw [ml]; simp at hlen; omega)
 have d : A.length + B.length ≤ 1000000 := by simpa using hlen
 rw [mB, aF, j, aA]
 have rest : ((qW (decide ((0 : Int) ≤ (A.length : Int)) && decide ((A.length : Int) ≤ ((A ++ B).length : Int)))).bind fun _ => (lX 72 ([]) ((A ++ B).take (Int.toNat (A.length : Int)))).bind fun g => (lX 72 g ([k])).bind fun h => (qW (decide ((0 : Int) ≤ (A.length : Int)) && decide ((A.length : Int) ≤ ((A ++ B).length : Int)))).bind fun _ => (lX 72 h ((A ++ B).drop (Int.toNat (A.length : Int)))).bind fun i => mB b ks i) = mB b ks (A ++ k :: B) := by
  rw [Tu (by simp; omega), aA, dJ, gp, List.drop_left, lY (by simp; omega) (by simp; omega), aA, lY (by simp; omega) (by simp; omega), aA, aA, lY (by simp; omega) (by simp; omega), aA]
  simp
 rw [aF] at rest
 cases b with
 | false => exact rest
 | true =>
  simp only [aO, aA, dK]
  rcases du A with rfl | ⟨A', y, rfl⟩
  ·exact rest
  ·rw [dU] at *
   have hp : ((A' ++ [y]).length : Int) > 0 := by simp
   simp only [hp, cA, aO]
   have hw : IntKind.i64.wrap (((A' ++ [y]).length : Int) - 1) = (A'.length : Int) := by
    simp at d ⊢
    rw [kA (by omega) (by omega)]
   have q : lB ((A' ++ [y]) ++ B) (A'.length : Int) = some y := by
    simp only [aN, bP, bE]
    exact mL A' y B _ rfl
   rw [hw, q, aA, N5 y k (l y (by simp)), aA, aA]
   have p : zj pu (A' ++ [y]) k = pu y k := by unfold zj; rw [List.getLast?_append]; rfl
   rw [p]
   cases pu y k
   ·simp only [aB, aJ]; exact rest
   ·rfl
theorem GN {x : Formula} {l : List Formula} (h : x ∈ dd pu l) : x ∈ l := (Jr (fun _ _ => xX) l x).1 h
theorem FB : ∀ (ks S : List Formula), Lu (nq Bc) S → (∀ x ∈ S, Gd x) → (∀ x ∈ ks, Gd x) → S.length + ks.length ≤ 1000000 → mB true ks (dd pu S) = some (dd pu (ks.foldl (A8 (nq Bc)) S))
 | [], S, _, _, _, _ => by rw [mB]; rfl
 | k :: ks, S, l, i, hk, n => by
  rw [aI] at n
  obtain ⟨A, B, rfl, d, g⟩ := D4 HS k l
  obtain ⟨p, q⟩ := Q7 (eq := pu) HS (fun _ _ => xX) d g
  have j := J3 pu (A ++ B)
  rw [p] at j ⊢
  rw [Fh true k ks (dd pu A) (dd pu B) (fun x b => by
   rcases aU.1 b with h | h
   ·exact i x (by simp [GN h])
   ·exact i x (by simp [GN h])) (hk k (by simp)) (fun x b => d x (GN b)) (fun x b => g x (GN b)) (by omega), fU, GV d g]
  have r : zj pu (dd pu A) k = zj pu A k := by unfold zj; rw [Qh (eq := pu) (fun _ _ => xX)]
  rw [r, dK]
  have ih := FB ks (A ++ k :: B) (Lh HS l d g) (fun x b => by
   rcases aU.1 b with h | h
   ·exact i x (by simp [h])
   ·rcases aQ.1 h with rfl | h
    ·exact hk _ (by simp)
    ·exact i x (by simp [h])) (fun x b => hk x (by simp [b])) (by simp at n ⊢; omega)
  rw [q] at ih
  cases m : zj pu A k
  ·rw [m] at ih
   simp only [aB, aJ] at ih ⊢
   rw [← ih]; simp
  ·rw [m] at ih
   simp only [aO] at ih ⊢
   exact ih
theorem GC : ∀ (ks S : List Formula), Lu (nq Bc) S → (∀ x ∈ S, Gd x) → (∀ x ∈ ks, Gd x) → S.length + ks.length ≤ 1000000 → mB false ks S = some (ks.foldl (A8 (nq Bc)) S)
 | [], S, _, _, _, _ => by rw [mB]; rfl
 | k :: ks, S, j, g, hk, l => by
  rw [aI] at l
  obtain ⟨A, B, rfl, b, d⟩ := D4 HS k j
  rw [Fh false k ks A B g (hk k (by simp)) b d (by omega), fU, GV b d, fh]
  simp only [aB, aJ]
  exact GC ks (A ++ k :: B) (Lh HS j b d) (fun x i => by
   rcases aU.1 i with h | h
   ·exact g x (by simp [h])
   ·rcases aQ.1 h with rfl | h
    ·exact hk _ (by simp)
    ·exact g x (by simp [h])) (fun x i => hk x (by simp [i])) (by simp at l ⊢; omega)
theorem Sq (l : List Formula) (h : ∀ x ∈ l, Gd x) (b : l.length ≤ 1000000) : uz l true = some (dd pu (uA l)) := FB l [] List.Pairwise.nil (by simp) h (by simpa using b)
theorem TA (l : List Formula) (h : ∀ x ∈ l, Gd x) (b : l.length ≤ 1000000) : uz l false = some (uA l) := GC l [] List.Pairwise.nil (by simp) h (by simpa using b)
theorem EW (f : Formula) (op : Int) : uP f op = some (ll op f) := Dl f op
theorem IT (op : Int) (b : op = 2 ∨ op = 3) (s : kW) : ∀ l : List Formula, oP op s l = some (if l.any (ll (5 - op)) then .inl (⟨5 - op, 0, oL, []⟩, s) else .inr ())
 | [] => rfl
 | x :: l => by
  have hw : IntKind.i64.wrap (5 - op) = 5 - op := kA (by omega) (by omega)
  rw [oP, hw, EW, aA, fw, IT op b s l]
  cases ll (5 - op) x <;> rfl
theorem Nl (op : Int) (b : op = 2 ∨ op = 3) (l : List Formula) (m : nodesL l ≤ 64) : mW op ⟨false⟩ [] l = some (if l.any (ll (5 - op)) then ⟨5 - op, 0, oL, []⟩ else match dd pu (uA l) with | [x] => x | r => ⟨op, 0, oL, r⟩, ⟨false⟩) := by
 have h := pk l
 rw [mW, IT op b, aA]
 cases i : l.any (ll (5 - op))
 ·simp only [aB, aJ]
  rw [Sq l (fun x g => by have := sN g; unfold Gd; omega) (by omega), aA]
  have j := J3 pu (uA l)
  have hp := (yc l).length_eq
  have d : ¬ (((dd pu (uA l)).length : Int) > 64) := by omega
  simp only [d, cI, aB, aJ, aA]
  generalize dd pu (uA l) = r
  match r with
  | [] => rfl
  | [x] => rfl
  | x :: y :: r =>
   have : (((x :: y :: r).length : Int) == 1) = false := by simp; omega
   simp only [this, aB, aJ]
   rfl
 ·rfl
theorem F2 (op : Int) (d : op = 2 ∨ op = 3) : ∀ (ks acc : List Formula), nodesL acc + nodesL ks ≤ 64 →
  mW op ⟨false⟩ ks acc = some (if (acc ++ nF op ks).any (ll (5 - op)) then ⟨5 - op, 0, oL, []⟩ else match dd pu (uA (acc ++ nF op ks)) with | [x] => x | r => ⟨op, 0, oL, r⟩, ⟨false⟩)
 | [], acc, h => by
  rw [nodesL] at h
  rw [nF, bA]
  exact Nl op d acc (by omega)
 | k :: ks, acc, h => by
  rw [nodesL] at h
  have h1 := nN k
  have l := pk k.Kids
  have m := pk acc
  have e : ∀ a b : List Formula, nodesL (a ++ b) = nodesL a + nodesL b := by
   intro a b
   induction a with
   | nil => rw [bE, nodesL]; omega
   | cons x a g => rw [bP, nodesL, nodesL, g]; omega
  have hw : IntKind.i64.wrap (5 - op) = 5 - op := kA (by omega) (by omega)
  rw [mW, nF]
  by_cases c : k.Op = op
  ·simp only [c, bn, aO]
   rw [lY (by omega) (by omega), aA, F2 op d ks _ (by rw [e]; omega), aN]
  ·have i : (k.Op == op) = false := by simpa using c
   simp only [i, aB, aJ, c]
   rw [EW, hw, aA]
   cases j : ll (5 - op) k
   ·simp only [aB, aJ]
    rw [lY (by simp; omega) (by simp; omega), aA, F2 op d ks _ (by rw [e, nodesL, nodesL]; omega), aN]
   ·simp only [aO]
    have : (acc ++ ([k] ++ nF op ks)).any (ll (5 - op)) = true := by simp [j]
    rw [this]; rfl
theorem LF (op : Int) (b : op = 2 ∨ op = 3) (ks : List Formula) (h : nodesL ks ≤ 64) : oK ⟨false⟩ op ks = some (oA op ks, ⟨false⟩) := by
 unfold oK oA
 rw [F2 op b ks [] (by rw [nodesL]; omega), bE]
 rfl
theorem Bz : ∀ (ks acc : List Formula) (k : Int), -1000 ≤ k - (ks.length : Int) → k ≤ 1000 → acc.length + ks.length ≤ 1000 →
  mP ks k acc = some (k - ((ks.filter (ll 2)).length : Int), acc ++ ks.filter fun x => !ll 2 x && !ll 3 x)
 | [], acc, k, h1, b, d => by rw [mP]; simp
 | x :: ks, acc, k, h1, b, d => by
  simp only [aI] at h1 d
  rw [mP, EW, aA, EW, aA]
  rw [dQ, dQ]
  cases c2 : ll 2 x
  ·cases g : ll 3 x
   ·simp only [cN, iP, aB, aJ, aO]
    rw [lY (by simp; omega) (by simp; omega), aA, Bz ks _ k (by omega) b (by simp; omega)]
    simp only [aN, bP, bE]
   ·simp only [cN, cC, Bool.and_false, aB, aJ]
    rw [Bz ks _ k (by omega) b (by omega)]
  ·simp only [cC, fh, aB, aJ, aO]
   rw [kA (by omega) (by omega), Bz ks _ (k - 1) (by omega) (by omega) (by omega)]
   simp only [aI]
   have e : k - 1 - ((ks.filter (ll 2)).length : Int) = k - (((ks.filter (ll 2)).length + 1 : Nat) : Int) := by omega
   rw [e]
theorem Q5 : ∀ (n : Nat) (f : Formula), nH f ≤ n → kw f ≤ 64 → sJ f = true → mV n ⟨false⟩ f = some (oU f, ⟨false⟩) := by
 intro n
 induction n with
 | zero => intro f h; rw [mH] at h; omega
 | succ n ih =>
  intro f w I hw
  rw [mH] at w
  have y := nN f
  obtain ⟨h1, v, r⟩ := xc hw
  rw [mV]
  unfold rK
  rw [yd]
  by_cases c1 : f.Op = 1
  ·simp only [c1, bn, aO]
  ·have s : (f.Op == 1) = false := by simpa using c1
   simp only [s, aB, aJ, c1]
   have last : ∀ acc : List Formula, nodesL acc ≤ 64 → nl (mV n) f [] acc ⟨false⟩ = some (if f.Op = 4 then sr f.K acc else oA f.Op acc, ⟨false⟩) := by
    intro acc d
    have hlen := pk acc
    have G := yz (fun x => !ll 2 x && !ll 3 x) acc
    rw [nl]
    by_cases q : f.Op = 4
    ·have hk : 0 ≤ f.K ∧ f.K ≤ (f.Kids.length : Int) := by rcases r with h | h | h <;> omega
     have j : ¬ f.Op < 4 := by omega
     simp only [j, q, cI, aB, aJ, aO]
     rw [Bz acc [] f.K (by omega) (by omega) (by simp; omega), aA, bE]
     unfold sr
     simp only
     have i := pk (acc.filter fun x => !ll 2 x && !ll 3 x)
     have hm : ∀ x ∈ (acc.filter fun x => !ll 2 x && !ll 3 x), Gd x := fun x A => by have := sN A; unfold Gd; omega
     generalize (acc.filter fun x => !ll 2 x && !ll 3 x) = l at *
     generalize f.K - ((acc.filter (ll 2)).length : Int) = k
     by_cases d1 : k ≤ 0
     ·simp only [d1, cA, aO]; rfl
     ·simp only [d1, cI, aB, aJ]
      by_cases d2 : k > (l.length : Int)
      ·simp only [d2, cA, aO]; rfl
      ·simp only [d2, cI, aB, aJ]
       by_cases d3 : k = (l.length : Int)
       ·simp only [← d3, bn, aO]
        rw [LF 2 (.inl rfl) l (by omega), aA]
        rfl
       ·have t : (k == (l.length : Int)) = false := by simpa using d3
        simp only [t, aB, aJ, d3]
        by_cases d4 : k = 1
        ·simp only [d4, bn, aO]
         rw [LF 3 (.inr rfl) l (by omega), aA]
         rfl
        ·have u : (k == 1) = false := by simpa using d4
         simp only [u, aB, aJ, d4]
         rw [TA l hm (by omega)]
         rfl
    ·have m : f.Op = 2 ∨ f.Op = 3 := by rcases r with h | h | h <;> omega
     have j : f.Op < 4 := by omega
     simp only [j, q, cA, aO, aJ]
     rw [LF f.Op m acc d, aA]
   have key : ∀ (ks acc : List Formula), (∀ k ∈ ks, k ∈ f.Kids) → wellL ks = true → nodesL (acc ++ shapeL ks) ≤ 64 → nodesL ks ≤ 64 → nl (mV n) f ks acc ⟨false⟩ = some (if f.Op = 4 then sr f.K (acc ++ shapeL ks) else oA f.Op (acc ++ shapeL ks), ⟨false⟩) := by
    intro ks
    induction ks with
    | nil =>
     intro acc _ _ d _
     rw [shapeL, bA] at *
     exact last acc d
    | cons k ks p =>
     intro acc hk b d i
     rw [wellL, aX] at b
     rw [nodesL] at i
     rw [shapeL] at d
     have g := pk (acc ++ oU k :: shapeL ks)
     simp only [aF, aI] at g
     rw [nl, ih k (by have := qn (hk k (by simp)); omega) (by omega) b.1, aA, lY (by simp; omega) (by simp; omega), aA,
      p (acc ++ [oU k]) (fun z E => hk z (by simp [E])) b.2 (by rw [aN]; exact d) (by omega), shapeL]
     simp only [aN, bP, bE]
   have := DZ f.Kids
   have := key f.Kids [] (fun k hk => hk) v (by simpa using by omega) (by omega)
   simpa using this
theorem MJ (f : Formula) (h : Gd f) : wz f = some (oM f) := by
 unfold wz oM
 rw [G5 f h, aA]
 cases d : nr f
 ·rfl
 ·obtain ⟨h1, g, b⟩ := zb d
  have i := zx f
  simp only [cC, aB, aJ, aO]
  rw [Q5 jY f (by rw [ml]; omega) h1 b, aA, G5 (oU f) (by unfold Gd; omega)]
  simp only [aB, aJ, aA]
  cases nr (oU f) <;> rfl
theorem G9 (c : jr) : ∀ (l : List nI) (e o k : Int) (r : jq) (ks : List Formula), (∀ a ∈ l, kw a.jx ≤ 10000000) → kw ⟨o, k, r, ks⟩ ≤ 64 →
  se c l e o k r ks = some (let t := oH (⟨o, k, r, ks⟩, e) ((l.filter fun a => nZ lu a.lj c).map (·.jx)); (t.2, t.1.Op, t.1.K, t.1.jq, t.1.Kids))
 | [], e, o, k, r, ks, _, _ => by rw [se, gN, eF, oH]
 | a :: l, e, o, k, r, ks, h, p => by
  have ha := h a (by simp)
  have j : ∀ x ∈ l, kw x.jx ≤ 10000000 := fun x v => h x (by simp [v])
  rw [se, dQ, Cf]
  by_cases d : e = 0
  ·have i : (e == 0) = true := by simp [d]
   simp only [i, aO, aA]
   cases z : nZ lu a.lj c
   ·simp only [aB, aJ]
    exact G9 c l e o k r ks j p
   ·simp only [aO]
    rw [bJ, oH]
    simp only [d, aO]
    have s : Gd ⟨2, 0, oL, [⟨o, k, r, ks⟩, a.jx]⟩ := by show kw _ ≤ _; rw [kw, nodesL, nodesL, nodesL]; omega
    rw [show (⟨2, 0, (⟨zS, zS⟩ : jq), [(⟨o, k, r, ks⟩ : Formula), a.jx]⟩ : Formula) = ⟨2, 0, oL, [⟨o, k, r, ks⟩, a.jx]⟩ from rfl, MJ _ s, aA]
    have u := wh (f := ⟨2, 0, oL, [⟨o, k, r, ks⟩, a.jx]⟩)
    generalize oM ⟨2, 0, oL, [⟨o, k, r, ks⟩, a.jx]⟩ = q at *
    obtain ⟨⟨w, k', y, n⟩, e'⟩ := q
    exact G9 c l e' w k' y n j u
  ·have i : (e == 0) = false := by simpa using d
   simp only [i, aB, aJ, aA]
   rw [G9 c l e o k r ks j p]
   have b : ∀ m : List Formula, oH (⟨o, k, r, ks⟩, e) m = (⟨o, k, r, ks⟩, e) := by
    intro m
    cases m with
    | nil => rw [oH]
    | cons g m => rw [oH]; simp only [d, aJ]
   rw [b, b]
theorem MV (c : jr) (p : kx) (hp : PB p) : ∀ l : List lD, (∀ x ∈ l, x ∈ p.jF) → vt c p l = some (match l.find? (fun x => lu x.Signed.jr c) with | none => (GR, 42) | some x => B5 x.jx ((zH p c).map (·.jx)))
 | [], _ => rfl
 | x :: l, h => by
  rw [vt, fV]
  cases j : lu x.Signed.jr c
  ·simp only [cN, aO]
   exact MV c p hp l (fun z g => h z (by simp [g]))
  ·simp only [cC, aB, aJ]
   have m := hp.rel x (h x (by simp))
   have d := wh (f := x.jx)
   rw [MJ _ (by unfold Gd; omega), aA]
   unfold B5 zH
   generalize oM x.jx = q at *
   obtain ⟨⟨o, k, r, ks⟩, e⟩ := q
   rw [G9 c p.jP e o k r ks hp.Ou d, aA]
   simp only
   generalize oH (⟨o, k, r, ks⟩, e) ((p.jP.filter fun a => nZ lu a.lj c).map (·.jx)) = t
   obtain ⟨⟨n, k', s, i⟩, e'⟩ := t
   by_cases c1 : e' = 0
   ·subst c1; rfl
   ·have b : (e' != 0) = true := by simp [c1]
    simp only [b, aO, c1, aJ]; rfl
theorem Su (p : kx) (hp : PB p) (c : jr) : Aq p c = some (pF p c) := by
 unfold Aq pF Ak
 refine (MV c p hp _ (fun x b => b)).trans ?_
 cases p.jF.find? (fun x => lu x.Signed.jr c) <;> rfl
theorem Ts (l : List jq) (r : jq) : zl l r = some (nZ jR l r) := by
 unfold zl
 induction l with
 | nil => rfl
 | cons x l ih =>
  rw [wD, ih]
  have e : nZ jR (x :: l) r = (jR r x || nZ jR l r) := rfl
  have b : jR x r = jR r x := by rw [bL, jS, jS]; exact eq_comm
  rw [e, b]
  cases jR r x <;> rfl
theorem FP (l : List jq) (rec : Formula → List jq → Option Bool) (f : Formula) (v : jq → Bool) : ∀ (ks : List Formula) (x : Nat), (∀ k ∈ ks, rec k l = some (pG v k)) → x + ks.length ≤ 100000000 →
  qI rec l f ks (x : Int) = some (if f.Op = 2 then decide (x + evN v ks = f.Kids.length) else if f.Op = 3 then decide (0 < x + evN v ks) else decide (f.K ≤ ((x + evN v ks : Nat) : Int)))
 | [], x, _, _ => by
  rw [qI, evN, gl]
  by_cases c2 : f.Op = 2
  ·simp only [c2, bn, aO]
   congr 1
   rw [bL, fZ, bK]; omega
  ·have d : (f.Op == 2) = false := by simpa using c2
   simp only [d, aB, aJ, c2]
   by_cases b : f.Op = 3
   ·simp only [b, bn, aO]
    congr 1
    rw [bL, bK, bK]; omega
   ·have i : (f.Op == 3) = false := by simpa using b
    simp only [i, aB, aJ, b]
    first | done | rfl
 | k :: ks, x, h, j => by
  rw [aI] at j
  rw [qI, h k (by simp), aA, evN]
  cases pG v k
  ·simp only [aB, aJ]
   rw [FP l rec f v ks x (fun z g => h z (by simp [g])) (by omega), dX]
  ·simp only [aO]
   have e : IntKind.i64.wrap ((x : Int) + 1) = ((x + 1 : Nat) : Int) := by rw [kA (by omega) (by omega)]; omega
   rw [e, FP l rec f v ks (x + 1) (fun z g => h z (by simp [g])) (by omega)]
   have d : x + 1 + evN v ks = x + (1 + evN v ks) := by omega
   rw [d]
theorem Pf (l : List jq) : ∀ (n : Nat) (f : Formula), nH f ≤ n → Gd f → qo n f l = some (pG (nZ jR l) f) := by
 intro n
 induction n with
 | zero => intro f h; rw [mH] at h; omega
 | succ n ih =>
  intro f d g
  rw [mH] at d
  have i := nN f
  have j := pk f.Kids
  unfold Gd at g
  rw [qo]
  unfold wZ
  rw [wk, Ts]
  by_cases c1 : f.Op = 1
  ·simp only [c1, bn, aO, aA]
  ·have b : (f.Op == 1) = false := by simpa using c1
   simp only [b, aB, aJ, c1]
   have := FP l (qo n) f (nZ jR l) f.Kids 0 (fun k hk => ih k (by have := qn hk; omega) (by have := sN hk; unfold Gd; omega)) (by omega)
   simpa using this
theorem Io (F : List jJ) (w : ByteArray) : nZ jR (Gv F w) = vF F w := by
 funext r
 unfold vF Gv
 rw [bL, xS jS, xS xe, bM]
 constructor
 ·rintro ⟨f, d, rfl⟩
  obtain ⟨h1, b⟩ := cZ.1 d
  have := lW.1 b
  rw [← this]; exact h1
 ·intro h
  exact ⟨⟨r, w⟩, cZ.2 ⟨h, lW.2 rfl⟩, rfl⟩
theorem Ds (p : kx) (hp : PB p) (l : List jq) (v : jq → Bool) (b : nZ jR l = v) : ∀ (xs : List lD) (acc : List jr), acc.length + xs.length ≤ 1000000000 → qF p l xs acc = xr (acc ++ (xs.filter (zw p v)).map (·.Signed.jr))
 | [], acc, _ => by rw [qF, gN, eF, bA, ol]
 | x :: xs, acc, h => by
  rw [aI] at h
  have i := HT p x.Signed.jr
  have g := vE (pF p x.Signed.jr).1
  rw [qF, Su p hp, aA, Pf l jY _ (by rw [ml]; omega) (by unfold Gd; omega), b, dQ]
  unfold zw
  by_cases c : (pF p x.Signed.jr).2 = 0
  ·have d := (M3 c).1
   simp only [c, bn, aO, cA, dK, aA]
   unfold tq
   rw [d, dK]
   cases j : pG v (pF p x.Signed.jr).1
   ·simp only [aB, aJ]
    exact Ds p hp l v b xs acc (by omega)
   ·simp only [aO]
    rw [lY (by simp; omega) (by simp; omega), aA, Ds p hp l v b xs _ (by simp; omega)]
    simp only [bJ, aN, bP, bE]
    rfl
  ·have e : ((pF p x.Signed.jr).2 == 0) = false := by simpa using c
   simp only [e, aB, aJ, c, cI, fh, aA]
   exact Ds p hp l v b xs acc (by omega)
theorem R5 {l : List jr} {F : List jJ} (h : L7 l F) (peer : ByteArray) : vF F peer = vD l peer := by
 funext r
 rw [bL, JN]
 unfold vF
 rw [xS xe, (h.wU (l.filter lT) (fun c => by rw [cZ])).2]
theorem IM (p : kx) (hp : PB p) (l : List jr) (g : l.length ≤ 30000) (peer : ByteArray) : uO p l peer = qv p l peer := by
 obtain ⟨F, b⟩ := RZ l g
 obtain ⟨s, e, h⟩ := PL p hp b peer
 have := hp.IL
 have h1 : (p.jF.filter (zw p (vF F peer))).length ≤ p.jF.length := eT _ _
 have hlen := b.len
 unfold uO
 rw [b.ref, aA, show sc F peer = some (Gv F peer) from MX F peer (by omega), aA, e]
 rw [Ds p hp _ (vF F peer) (Io F peer) p.jF [] (by simp; omega), bE]
 obtain ⟨t, d, i⟩ := Lj ((p.jF.filter (zw p (vF F peer))).map (·.Signed.jr)) (by simp; omega)
 rw [d, vS.unique CL i h]
theorem Kh : ∀ (l m A : List jr), l.length = m.length → ∃ b, rZ (A ++ m) l A.length = some b ∧ (b = true ↔ l = m)
 | [], m, A, g => by
  obtain rfl := aV g.symm
  exact ⟨true, by rw [rZ], by simp⟩
 | x :: l, [], A, g => by simp at g
 | x :: l, y :: m, A, g => by
  have i1 : lB (A ++ y :: m) (A.length : Int) = some y := mL _ _ _ _ rfl
  rw [rZ, i1, aA]
  cases h : lu x y with
  | false =>
   refine ⟨false, by simp [h], ?_⟩
   have : x ≠ y := fun d => by have := rH.2 d; rw [this] at h; cases h
   simp [this]
  | true =>
   have d := rH.1 h
   obtain ⟨b, i, p⟩ := Kh l m (A ++ [y]) (by simpa using g)
   have j : A ++ y :: m = (A ++ [y]) ++ m := by simp
   have n : A.length + 1 = (A ++ [y]).length := by simp
   simp only [cC, aB, aJ]
   rw [j, n, i]
   exact ⟨b, rfl, by rw [p]; simp [d]⟩
theorem Sy (l m : List jr) : ∃ b, uB l m = some b ∧ (b = true ↔ l = m) := by
 unfold uB
 by_cases h : l.length = m.length
 ·have : ((l.length : Int) != (m.length : Int)) = false := by simp [h]
  simp only [this, aB, aJ]
  exact Kh l m [] h
 ·have : ((l.length : Int) != (m.length : Int)) = true := by simp; omega
  simp only [this, aO]
  exact ⟨false, rfl, by simp; intro hk; rw [hk] at h; exact h rfl⟩
theorem Jv {x p : List jr} (sx : ph x) (sp : ph p) (h : ∀ c ∈ x, c ∈ p) : uB p x = some (decide (p.length = x.length)) := by
 obtain ⟨b, e, d⟩ := Sy p x
 rw [e]; congr 1
 rw [bL, d, bK]
 exact ⟨fun q => by rw [q], fun q => (sx.eq sp h (by omega)).symm⟩
theorem Gj (a b : kx) (ha : PB a) (g : PB b) (u : a.jF.length ≤ 30000) (v : b.jF.length ≤ 30000) : ∀ (n : Nat) (x y : List jr) (i : Int), ph x → ph y → (∀ c ∈ x, sw a y b.Name c) → (∀ c ∈ y, sw b x a.Name c) →
  so a b n x y i = oX a b n x y i
 | 0, x, y, i, sx, sy, h, j => by rw [so, oX]
 | n + 1, x, y, i, sx, sy, h, j => by
  have h1 := xY sx (fun c d => (h c d).1)
  have w := xY sy (fun c d => (j c d).1)
  obtain ⟨p, s, sp, mp, z⟩ := EN a ha y (by omega) b.Name
  obtain ⟨q, t, sq, l, A⟩ := EN b g x (by omega) a.Name
  have m : ∀ c ∈ x, c ∈ p := fun c d => (mp c).2 (h c d)
  have r : ∀ c ∈ y, c ∈ q := fun c d => (l c).2 (j c d)
  rw [so, oX, IM a ha y (by omega), IM b g x (by omega), s, t]
  simp only [aA]
  rw [Jv sx sp m, Jv sy sq r]
  simp only [aA]
  have ih := Gj a b ha g u v n p q (IntKind.i64.wrap (i + 1)) sp sq (fun c d => vC r ((mp c).1 d)) (fun c d => vC m ((l c).1 d))
  rw [ih]
  have d1 : ((p.length : Int) == (x.length : Int)) = decide (p.length = x.length) := by
   rw [bL, fZ, bK]; omega
  have d2 : ((q.length : Int) == (y.length : Int)) = decide (q.length = y.length) := by
   rw [bL, fZ, bK]; omega
  rw [d1, d2]
theorem KS (a b : kx) (ha : PB a) (d : PB b) (g : a.jF.length ≤ 30000) (h : b.jF.length ≤ 30000) : Ah a b = ue a b :=
 Gj a b ha d g h jY [] [] 0 ph.nil ph.nil (by simp) (by simp)
mutual
def yK : Formula → Nat
 | ⟨_, _, r, ks⟩ => 1 + r.js.size + r.Word.size + szFL ks
def szFL : List Formula → Nat
 | [] => 0
 | k :: ks => yK k + szFL ks
end
theorem JW (f : Formula) : yK f = 1 + f.jq.js.size + f.jq.Word.size + szFL f.Kids := by cases f; rw [yK]
theorem BB : ∀ f : Formula, kw f ≤ yK f := by
 refine IY fun f ih => ?_
 have : ∀ ks : List Formula, (∀ k ∈ ks, kw k ≤ yK k) → nodesL ks ≤ szFL ks := by
  intro ks
  induction ks with
  | nil => intro _; rw [nodesL]; omega
  | cons k ks b =>
   intro h
   have := b (fun x d => h x (by simp [d]))
   have := h k (by simp)
   rw [nodesL, szFL]; omega
 have := this f.Kids ih
 rw [nN, JW]; omega
def xM : List jr → Nat
 | [] => 0
 | c :: l => 20 + xF c + xM l
theorem g5 : ∀ (l : List jr) (n : Int), 0 ≤ n → n + (xM l : Int) ≤ 4000000000000000000 → ra l n = some (n + (xM l : Int))
 | [], n, _, _ => by rw [ra, xM]; simp
 | c :: l, n, d, b => by
  have e : xF c = c.Head.js.size + c.Head.Word.size + c.kz.size + c.B.js.size + c.B.Word.size + c.C.js.size + c.C.Word.size + c.kK.size := rfl
  rw [xM] at b
  rw [ra]
  rw [kA (x := 20 + (c.Head.js.size : Int)) (by omega) (by omega), kA (x := 20 + (c.Head.js.size : Int) + (c.Head.Word.size : Int)) (by omega) (by omega), kA (x := 20 + (c.Head.js.size : Int) + (c.Head.Word.size : Int) + (c.kz.size : Int)) (by omega) (by omega), kA (x := 20 + (c.Head.js.size : Int) + (c.Head.Word.size : Int) + (c.kz.size : Int) + (c.B.js.size : Int)) (by omega) (by omega), kA (x := 20 + (c.Head.js.size : Int) + (c.Head.Word.size : Int) + (c.kz.size : Int) + (c.B.js.size : Int) + (c.B.Word.size : Int)) (by omega) (by omega), kA (x := 20 + (c.Head.js.size : Int) + (c.Head.Word.size : Int) + (c.kz.size : Int) + (c.B.js.size : Int) + (c.B.Word.size : Int) + (c.C.js.size : Int)) (by omega) (by omega), kA (x := 20 + (c.Head.js.size : Int) + (c.Head.Word.size : Int) + (c.kz.size : Int) + (c.B.js.size : Int) + (c.B.Word.size : Int) + (c.C.js.size : Int) + (c.C.Word.size : Int)) (by omega) (by omega), kA (x := 20 + (c.Head.js.size : Int) + (c.Head.Word.size : Int) + (c.kz.size : Int) + (c.B.js.size : Int) + (c.B.Word.size : Int) + (c.C.js.size : Int) + (c.C.Word.size : Int) + (c.kK.size : Int)) (by omega) (by omega), kA (by omega) (by omega)]
  rw [g5 l _ (by omega) (by omega), xM]
  congr 1; omega
theorem TX : ∀ (n : Nat) (l : List Formula), deepL l < n → szFL l ≤ 1000000000000 → ∃ r : Int, oy n l = some r ∧ 0 ≤ r ∧ r ≤ (szFL l : Int) := by
 intro n
 induction n with
 | zero => intro l h; omega
 | succ n ih =>
  intro l h i
  rw [oy]
  unfold vX
  have key : ∀ (l : List Formula) (x : Int), deepL l < n + 1 → 0 ≤ x → x + (szFL l : Int) ≤ 1000000000000 → ∃ r : Int, rh (oy n) l x = some r ∧ 0 ≤ r ∧ r ≤ x + (szFL l : Int) := by
   intro l
   induction l with
   | nil => intro x _ j _; exact ⟨x, by rw [rh], j, by rw [szFL]; simp⟩
   | cons k l g =>
    intro x h j i
    rw [deepL] at h
    rw [szFL] at i
    have hk := JW k
    have := mH k
    obtain ⟨r, e, h1, m⟩ := ih k.Kids (by omega) (by omega)
    rw [rh, e, aA]
    have s : 0 ≤ Int.tdiv ((k.jq.js.size : Int) + (k.jq.Word.size : Int)) 16 ∧ Int.tdiv ((k.jq.js.size : Int) + (k.jq.Word.size : Int)) 16 ≤ (k.jq.js.size : Int) + (k.jq.Word.size : Int) := by
     rw [Int.tdiv_eq_ediv_of_nonneg (by omega)]
     omega
    rw [kA (x := (k.jq.js.size : Int) + (k.jq.Word.size : Int)) (by omega) (by omega)]
    generalize Int.tdiv ((k.jq.js.size : Int) + (k.jq.Word.size : Int)) 16 = d at *
    rw [kA (x := d) (by omega) (by omega), kA (x := 1 + d) (by omega) (by omega), kA (x := 1 + d + r) (by omega) (by omega), kA (x := x + (1 + d + r)) (by omega) (by omega)]
    obtain ⟨q, e', b, p⟩ := g (x + (1 + d + r)) (by omega) (by omega) (by omega)
    exact ⟨q, e', b, by rw [szFL]; omega⟩
  obtain ⟨r, e, h1, m⟩ := key l 0 h (by omega) (by omega)
  exact ⟨r, e, h1, by omega⟩
theorem Hv (f : Formula) (h : yK f ≤ 50000000) : ∃ r : Int, oy jY [f] = some r ∧ 0 ≤ r ∧ r ≤ (yK f : Int) := by
 have h1 := BB f
 have d := vE f
 obtain ⟨r, e, a, b⟩ := TX jY [f] (by rw [deepL, deepL, ml]; omega) (by rw [szFL, szFL]; omega)
 refine ⟨r, e, a, ?_⟩
 rw [szFL, szFL] at b; omega
theorem g6 (s : Signed) (h : xF s.jr + s.Tag.length ≤ 1000000000) : tL [] [s] = some (20 + (xF s.jr : Int) + (s.Tag.length : Int)) := by
 unfold tL
 rw [pS, ri]
 have := g5 [s.jr] 0 (by omega) (by rw [xM, xM]; omega)
 rw [show vk [s.jr] = _ from this, aA, ri, xM, xM]
 rw [kA (x := 0 + ((20 + xF s.jr + 0 : Nat) : Int) + (s.Tag.length : Int)) (by omega) (by omega), kA (by omega) (by omega)]
 simp only [aA]
 congr 1; omega
def BQ : List lD → Nat
 | [] => 0
 | x :: l => 20 + xF x.Signed.jr + x.Signed.Tag.length + 20 * yK x.jx + BQ l
def AI : List nI → Nat
 | [] => 0
 | a :: l => a.jq.js.size + a.jq.Word.size + 20 * yK a.jx + xM a.lj + AI l
def H5 (p : kx) : Nat := p.Name.size + BQ p.jF + AI p.jP
theorem NU : ∀ (l : List nI) (x : Int), 0 ≤ x → x + (AI l : Int) ≤ 1000000000 → ∃ r : Int, rl l x = some r ∧ x ≤ r ∧ r ≤ x + (AI l : Int)
 | [], x, _, _ => ⟨x, by rw [rl], by omega, by rw [AI]; omega⟩
 | a :: l, x, i, h => by
  rw [AI] at h
  obtain ⟨r, e, h1, j⟩ := Hv a.jx (by omega)
  have b := g5 a.lj 0 (by omega) (by omega)
  rw [rl, e, aA, show vk a.lj = _ from b, aA]
  rw [kA (x := (a.jq.js.size : Int) + (a.jq.Word.size : Int)) (by omega) (by omega), kA (x := 20 * r) (by omega) (by omega), kA (x := (a.jq.js.size : Int) + (a.jq.Word.size : Int) + 20 * r) (by omega) (by omega), kA (x := (a.jq.js.size : Int) + (a.jq.Word.size : Int) + 20 * r + (0 + (xM a.lj : Int))) (by omega) (by omega), kA (by omega) (by omega)]
  obtain ⟨d, e', g, a2⟩ := NU l (x + ((a.jq.js.size : Int) + (a.jq.Word.size : Int) + 20 * r + (0 + (xM a.lj : Int)))) (by omega) (by omega)
  exact ⟨d, e', by omega, by rw [AI]; omega⟩
theorem SV (p : kx) (g : H5 p ≤ 1000000000) : ∃ r : Int, vw p = some r ∧ 20 * (p.jF.length : Int) ≤ r ∧ r ≤ (H5 p : Int) := by
 unfold H5 at g
 have key : ∀ (l : List lD) (x : Int), 0 ≤ x → x + (BQ l : Int) + (AI p.jP : Int) ≤ 1000000000 → ∃ r : Int, rc p l x = some r ∧ x + 20 * (l.length : Int) ≤ r ∧ r ≤ x + (BQ l : Int) + (AI p.jP : Int) := by
  intro l
  induction l with
  | nil =>
   intro x d h
   rw [BQ] at h
   obtain ⟨r, e, a, b⟩ := NU p.jP x d (by omega)
   exact ⟨r, by rw [rc, e]; rfl, by simp; omega, by rw [BQ]; omega⟩
  | cons y l ih =>
   intro x d h
   rw [BQ] at h
   obtain ⟨r, e, h1, j⟩ := Hv y.jx (by omega)
   rw [rc, g6 y.Signed (by omega)]
   simp only [aA]
   rw [e, aA]
   rw [kA (x := 20 * r) (by omega) (by omega), kA (x := 20 + (xF y.Signed.jr : Int) + (y.Signed.Tag.length : Int) + 20 * r) (by omega) (by omega), kA (by omega) (by omega)]
   obtain ⟨i, e', a, b⟩ := ih (x + (20 + (xF y.Signed.jr : Int) + (y.Signed.Tag.length : Int) + 20 * r)) (by omega) (by omega)
   exact ⟨i, e', by rw [aI]; omega, by rw [BQ]; omega⟩
 obtain ⟨r, e, a, b⟩ := key p.jF (p.Name.size : Int) (by omega) (by omega)
 unfold vw
 exact ⟨r, e, by omega, by unfold H5; omega⟩
def CP : List Key → Nat
 | [] => 0
 | k :: l => 10 + k.kz.size + k.Key.length + CP l
theorem SZ : ∀ (ks : List Key) (x : Int), 0 ≤ x → x + (CP ks : Int) ≤ 2000000000 → pS [] ks x = some (x + (CP ks : Int))
 | [], x, _, _ => by rw [pS, ri, CP]; simp
 | k :: ks, x, b, h => by
  rw [CP] at h
  rw [pS, kA (x := 10 + (k.kz.size : Int)) (by omega) (by omega), kA (x := 10 + (k.kz.size : Int) + (k.Key.length : Int)) (by omega) (by omega), kA (by omega) (by omega), SZ ks _ (by omega) (by omega), CP]
  congr 1; omega
structure PQ (p : pU) : Prop extends PP p where
 go : H5 p.js ≤ 1000000000
 gc : H5 p.Client ≤ 1000000000
 fs : yK p.Formula ≤ 50000000
 ks : CP p.Keys ≤ 1000000000
theorem TR (p : pU) (hp : PQ p) : ∃ r : Int, xH p = some r ∧ 20 * (p.js.jF.length : Int) + 20 * (p.Client.jF.length : Int) ≤ r := by
 have g := hp.go
 have d := hp.gc
 have s := hp.ks
 have b := hp.fs
 obtain ⟨h, l, t, u⟩ := SV p.js g
 obtain ⟨i, m, a2, v⟩ := SV p.Client d
 obtain ⟨j, n, a3, w⟩ := Hv p.Formula b
 have q := SZ p.Keys 0 (by omega) (by omega)
 unfold xH
 rw [l, aA, m, aA]
 simp only [aA]
 rw [n, aA, show tL p.Keys [] = _ from q, aA]
 rw [kA (x := h + i) (by omega) (by omega), kA (x := 20 * j) (by omega) (by omega), kA (x := h + i + 20 * j) (by omega) (by omega), kA (by omega) (by omega)]
 exact ⟨_, rfl, by omega⟩
theorem PI (a b : kx) (f : Formula) (ha : PB a) (h : PB b) (p : a.jF.length ≤ 30000) (q : b.jF.length ≤ 30000) (g : Gd f) :
  ∃ x y j, ue a b = some (x, y, j) ∧ KR a b x y ∧ tZ a b f = some (tq (vD y b.Name) f) ∧ wG a b f = some (tq (vD y b.Name) f) := by
 obtain ⟨x, y, j, e, F⟩ := MT a b ha h (by omega) (by omega)
 have u := F.ly
 obtain ⟨G, d⟩ := RZ y (by omega)
 obtain ⟨m, l, _, n⟩ := d.Tf
 have i := R5 d b.Name
 refine ⟨x, y, j, e, F, ?_, ?_⟩
 ·unfold tZ zO
  rw [e, aA, l, aA, aA]
  rw [LA (vD y b.Name) _ (fun r => by unfold vd; rw [ol, n, ← i]; rfl) f g]
  rfl
 ·have s := vE f
  unfold wG
  rw [G5 f g, aA]
  unfold tq
  cases t : nr f
  ·rfl
  ·simp only [aO]
   unfold zT
   rw [KS a b ha h p q, e, aA, d.ref, aA, show sc G b.Name = some (Gv G b.Name) from MX G b.Name (by have := d.len; omega)]
   simp only [aA]
   rw [Pf _ jY f (by rw [ml]; unfold Gd at g; omega) g, Io, i]
   rfl
def SP (l : List lD) (i : Int) : Prop := 0 ≤ i ∧ i < l.length
instance (l : List lD) (i : Int) : Decidable (SP l i) := by unfold SP; infer_instance
theorem ph.take {s : List jr} (h : ph s) (n : Nat) : ph (s.take n) := ⟨h.1.sublist (List.take_sublist n s), fun c b => h.2 c (List.mem_of_mem_take b)⟩
theorem bb {α β γ : Type} (x : Option α) (f : α → Option β) (g : β → Option γ) : (x.bind fun a => (f a).bind g) = (x.bind f).bind g := by cases x <;> rfl
theorem LQ (f : jr → Option Bool) (p : jr → Bool) (l : List jr) (h : ∀ x ∈ l, f x = some (p x)) : pK l f = some (l.any p) := by
 unfold pK pb
 rw [HR]; exact OL f p l h
def Co (k e : Int) (i : Nat) : jV := ⟨k, e, (i : Int)⟩
def xh (e : Int) (free goes : List jr) : List lD → Nat → List jV
 | [], _ => []
 | x :: xs, i => (if nZ lu free x.Signed.jr then (if nZ lu goes x.Signed.jr then [] else [Co 1 e i]) else [Co 2 e i]) ++ xh e free goes xs (i + 1)
def wR (e : Int) (all : List jr) : List nI → Nat → List jV
 | [], _ => []
 | a :: l, i => (if a.lj.any (nZ lu all) then [] else [Co 3 e i]) ++ wR e all l (i + 1)
theorem CH (e : Int) (free goes : List jr) : ∀ (l : List lD) (i : Nat), (xh e free goes l i).length ≤ l.length
 | [], i => by simp [xh]
 | x :: l, i => by
  have := CH e free goes l (i + 1)
  rw [xh, aF, aI]
  split
  ·split <;> simp <;> omega
  ·simp; omega
theorem Cv (e : Int) (all : List jr) : ∀ (l : List nI) (i : Nat), (wR e all l i).length ≤ l.length
 | [], i => by simp [wR]
 | x :: l, i => by
  have := Cv e all l (i + 1)
  rw [wR, aF, aI]
  split <;> simp <;> omega
def rN (p : kx) : List jr := p.jF.map (·.Signed.jr)
theorem IP (p : kx) (h : p.jF.length ≤ 1000000) : yF p = some (rN p) ∧ xn p = some (rN p) := by
 have key : ∀ (l : List lD) (acc : List jr), acc.length + l.length ≤ 1000000 → tH l acc = some (acc ++ l.map (·.Signed.jr)) ∧ sT l acc = some (acc ++ l.map (·.Signed.jr)) := by
  intro l
  induction l with
  | nil => intro acc _; rw [tH, sT]; simp
  | cons x l ih =>
   intro acc h
   rw [aI] at h
   obtain ⟨a, b⟩ := ih (acc ++ [x.Signed.jr]) (by simp; omega)
   rw [tH, sT, lY (by simp; omega) (by simp; omega), aA, aA, a, b]
   simp
 have := key p.jF [] (by simpa using h)
 simpa [yF, xn, rN] using this
theorem HQ (l : List jr) (c : jr) : pM l c = some (nZ lu l c) := by unfold pM; rw [ol, Jy]
theorem zG (e : Int) (free goes : List jr) : ∀ (l : List lD) (i : Nat) (acc : List jV), acc.length + l.length ≤ 1000000 → pj free e goes l i acc = some (acc ++ xh e free goes l i)
 | [], i, acc, _ => by rw [pj, xh, bA]
 | x :: l, i, acc, h => by
  rw [aI] at h
  rw [pj, xh, HQ, aA, HQ, aA]
  cases nZ lu free x.Signed.jr
  ·simp only [cN, aO, aB, aJ]
   rw [lY (by simp; omega) (by simp; omega), aA, zG e free goes l (i + 1) _ (by simp; omega)]
   simp [Co]
  ·simp only [cC, aB, aJ, aO]
   cases nZ lu goes x.Signed.jr
   ·simp only [cN, aO, aB, aJ]
    rw [lY (by simp; omega) (by simp; omega), aA, zG e free goes l (i + 1) _ (by simp; omega)]
    simp [Co]
   ·simp only [cC, aB, aJ, aO]
    rw [zG e free goes l (i + 1) acc (by omega)]
    simp
theorem Da (e : Int) (all : List jr) : ∀ (l : List nI) (i : Nat) (acc : List jV), acc.length + l.length ≤ 3000000 → rj all e l i acc = some (acc ++ wR e all l i)
 | [], i, acc, _ => by rw [rj, wR, bA]
 | a :: l, i, acc, h => by
  rw [aI] at h
  rw [rj, wR, LQ _ (nZ lu all) a.lj (fun c _ => by unfold wA; rw [ol, HQ]), aA]
  cases a.lj.any (nZ lu all)
  ·simp only [cN, aO, aB, aJ]
   rw [lY (by simp; omega) (by simp; omega), aA, Da e all l (i + 1) _ (by simp; omega)]
   simp [Co]
  ·simp only [cC, aB, aJ, aO]
   rw [Da e all l (i + 1) acc (by omega)]
   simp
theorem HO (p : kx) (hp : p.jF.length ≤ 1000000) : ∀ (cs : List jr) (b : Bool), sU p cs b = some (b && !(cs.any (nZ lu (rN p))))
 | [], b => by rw [sU]; simp
 | c :: cs, b => by
  rw [sU, (IP p hp).2]
  simp only [aA, Cf]
  cases b
  ·simp only [aB, aJ, aA]
   rw [HO p hp cs false]
   simp
  ·simp only [aO, aA]
   rw [HO p hp cs _]
   rw [fw]
   cases nZ lu (rN p) c <;> simp
theorem HL (p : kx) (hp : p.jF.length ≤ 1000000) (e : Int) : ∀ (l : List nI) (i : Nat) (acc : List jV), acc.length + l.length ≤ 3000000 → rn p e l i acc = some (acc ++ wR e (rN p) l i)
 | [], i, acc, _ => by rw [rn, wR, bA]
 | a :: l, i, acc, h => by
  rw [aI] at h
  rw [rn, wR, HO p hp, aA, dK]
  cases a.lj.any (nZ lu (rN p))
  ·simp only [cN, aO, aB, aJ]
   rw [lY (by simp; omega) (by simp; omega), aA, HL p hp e l (i + 1) _ (by simp; omega)]
   simp [Co]
  ·simp only [cC, aB, aJ, aO]
   rw [HL p hp e l (i + 1) acc (by omega)]
   simp
theorem Ce (p : kx) (hp : p.jF.length ≤ 1000000) (ha : p.jP.length ≤ 2000000) (e : Int) (free goes : List jr) : ∀ (l : List lD) (i : Nat) (acc : List jV), acc.length + l.length ≤ 1000000 →
  pX free e goes p l i acc = some (acc ++ xh e free goes l i ++ wR e (rN p) p.jP 0)
 | [], i, acc, h => by rw [pX, xh, bA, HL p hp e p.jP 0 acc (by simp at h; omega)]; rfl
 | x :: l, i, acc, h => by
  rw [aI] at h
  rw [pX, xh, Cf, aA, Cf, aA]
  cases nZ lu free x.Signed.jr
  ·simp only [cN, aO, aB, aJ]
   rw [lY (by simp; omega) (by simp; omega), aA, Ce p hp ha e free goes l (i + 1) _ (by simp; omega)]
   simp [Co]
  ·simp only [cC, aB, aJ, aO]
   cases nZ lu goes x.Signed.jr
   ·simp only [cN, aO, aB, aJ]
    rw [lY (by simp; omega) (by simp; omega), aA, Ce p hp ha e free goes l (i + 1) _ (by simp; omega)]
    simp [Co]
   ·simp only [cC, aB, aJ, aO]
    rw [Ce p hp ha e free goes l (i + 1) acc (by omega)]
    simp
theorem NB (n : Nat) (b : n ≤ 1000000000) : qi (n : Int) = some [] := by
 unfold qi
 rw [bo (by simp), kA (x := 0 - 0) (by omega) (by omega), show (n : Int) - (0 - 0) = n by omega, kA (x := (n : Int)) (by omega) (by omega)]
 by_cases h : 0 < n
 ·rw [bB (by simpa using h)]
  unfold G7
  rw [bB ⟨by omega, by omega, by unfold maxLen; omega⟩]
  simp [qW]
 ·rw [bo (by simpa using h)]; rfl
theorem GP : ∀ (b : List (List jV)) (acc : List jV), acc.length + (b.map List.length).sum ≤ 1000000000 → nC b acc = some (acc ++ b.flatten)
 | [], acc, _ => by rw [nC]; simp
 | x :: b, acc, h => by
  rw [bJ, ey] at h
  rw [nC, lY (by omega) (by omega), aA, GP b _ (by simp; omega)]
  simp
theorem GJ (a0 : List (List jV)) (d : (a0.map List.length).sum ≤ 1000000000) : ∀ (b : List (List jV)) (n : Nat), n + (b.map List.length).sum ≤ 1000000000 → nA a0 b (n : Int) = some a0.flatten
 | [], n, h => by
  rw [nA, NB n (by omega), aA, GP a0 [] (by simpa using d)]
  simp
 | x :: b, n, h => by
  rw [bJ, ey] at h
  rw [nA, kA (by omega) (by omega), bo (by simp; omega), show (n : Int) + (x.length : Int) = ((n + x.length : Nat) : Int) by omega]
  exact GJ a0 d b (n + x.length) (by omega)
theorem PW (b : List (List jV)) (h : (b.map List.length).sum ≤ 1000000000) : qQ b = some b.flatten := by
 unfold qQ
 exact GJ b h b 0 (by omega)
noncomputable def D9 (f : Formula) : Bool := decide ((oM f).2 = 0) && pu (oM f).1 ⟨2, 0, oL, []⟩
theorem KY (f : Formula) : D9 f = (decide ((oM f).2 = 0) && (decide ((oM f).1.Op = 2) && decide ((oM f).1.Kids.length = 0))) := by
 unfold D9
 by_cases h : (oM f).2 = 0
 ·have j := (I9 (f := f) (g := (oM f).1) (by rw [← h])).2.1
  unfold nr at j
  rw [aX, Dk, aX, aX] at j
  have d := j.2.1
  rw [aX] at d
  have i := d.1
  rw [bL]
  simp only [aX, bK, xX]
  refine ⟨fun ⟨a, b⟩ => ⟨a, by rw [b], by rw [b]; rfl⟩, fun ⟨a, b, c⟩ => ⟨a, ?_⟩⟩
  unfold BE at i
  have p : ¬ (oM f).1.Op = 1 := by omega
  rw [bo p, bB (.inl b), aX, bK] at i
  have l := jS.1 i.1
  have m := aV c
  have n := i.2
  generalize (oM f).1 = g at *
  obtain ⟨o, k, r, ks⟩ := g
  simp only at b l m n
  rw [b, l, m, n]
 ·simp [h]
noncomputable def Fb (p : pU) (y : List jr) : List jV := if D9 p.Formula then [⟨4, 0, 0⟩] else if tq (vD y p.Client.Name) p.Formula then [] else [⟨5, 0, 0⟩]
structure RW (p : pU) (x y f g : List jr) : Prop where
 F : KR p.js p.Client x y
 ff : ∀ c, c ∈ f ↔ sw p.js (rN p.Client) p.Client.Name c
 fg : ∀ c, c ∈ g ↔ sw p.Client (rN p.js) p.js.Name c
noncomputable def Au (p : pU) (x y f g : List jr) : List jV := xh 0 f x p.js.jF 0 ++ wR 0 (rN p.js) p.js.jP 0 ++ (xh 1 g y p.Client.jF 0 ++ wR 1 (rN p.Client) p.Client.jP 0) ++ Fb p y
theorem KZ (p : pU) (ha : PB p.js) (d : PB p.Client) (q : p.js.jF.length ≤ 30000) (r : p.Client.jF.length ≤ 30000) (E : p.js.jP.length ≤ 2000000) (I : p.Client.jP.length ≤ 2000000) (n : Gd p.Formula) :
  ∃ x y j f g, ue p.js p.Client = some (x, y, j) ∧ RW p x y f g ∧ tZ p.js p.Client p.Formula = some (tq (vD y p.Client.Name) p.Formula) ∧
   uj p = some (Au p x y f g) ∧ vY p = some (Au p x y f g) := by
 obtain ⟨x, y, j, e, w, g1, g2⟩ := PI p.js p.Client p.Formula ha d q r n
 have Pu : (rN p.js).length ≤ 30000 := by simpa [rN] using q
 have J : (rN p.Client).length ≤ 30000 := by simpa [rN] using r
 obtain ⟨f, s, Y, L, U⟩ := EN p.js ha (rN p.Client) (by omega) p.Client.Name
 obtain ⟨g, t, sg, M, W⟩ := EN p.Client d (rN p.js) (by omega) p.js.Name
 have P := CH 0 f x p.js.jF 0
 have k2 := CH 1 g y p.Client.jF 0
 have Q := Cv 0 (rN p.js) p.js.jP 0
 have R := Cv 1 (rN p.Client) p.Client.jP 0
 have T : (Fb p y).length ≤ 1 := by unfold Fb; split; exact aW _; split <;> simp
 refine ⟨x, y, j, f, g, e, ⟨w, L, M⟩, g1, ?_, ?_⟩
 ·have G : yC p = some (Fb p y) := by
   unfold yC Fb D9
   rw [Ho p.Formula n, g1]
   have O := wh (f := p.Formula)
   have z : Gd (oM p.Formula).1 := by unfold Gd; omega
   unfold tU
   simp only [aA, KW _ _ z]
   have A : (⟨2, 0, (⟨zS, zS⟩ : jq), []⟩ : Formula) = ⟨2, 0, oL, []⟩ := rfl
   rw [A]
   by_cases h : (oM p.Formula).2 = 0
   ·simp only [h, bn, aO, aA, cA, dK]
    cases pu (oM p.Formula).1 ⟨2, 0, oL, []⟩ <;> cases tq (vD y p.Client.Name) p.Formula <;> rfl
   ·have : ((oM p.Formula).2 == 0) = false := by simpa using h
    simp only [this, h, aB, aJ, aA, cI, fh]
    cases tq (vD y p.Client.Name) p.Formula <;> rfl
  unfold uj
  rw [e, G]
  unfold yA zp
  rw [(IP p.js (by omega)).1, (IP p.Client (by omega)).1]
  simp only [aA]
  rw [s, t]
  simp only [aA]
  rw [zG 0 f x _ 0 [] (by simp; omega), zG 1 g y _ 0 [] (by simp; omega), Da 0 _ _ 0 [] (by simp; omega), Da 1 _ _ 0 [] (by simp; omega)]
  simp only [aA, bE]
  rw [PW _ (by simp; omega)]
  unfold Au
  simp
 ·unfold vY
  rw [KS p.js p.Client ha d q r, e, aA]
  unfold zi
  rw [(IP p.js (by omega)).2, (IP p.Client (by omega)).2]
  simp only [aA]
  rw [IM _ ha _ (by omega), IM _ d _ (by omega), s, t]
  simp only [aA]
  rw [Ce p.js (by omega) E 0 f x _ 0 [] (by simp; omega), aA, Ce p.Client (by omega) I 1 g y _ 0 [] (by simp; omega), aA, bE, bE, lY (by simp; omega) (by simp; omega), aA, MJ p.Formula n, aA, g2]
  have i := KY p.Formula
  have L1 : (xh 0 f x p.js.jF 0 ++ wR 0 (rN p.js) p.js.jP 0 ++ (xh 1 g y p.Client.jF 0 ++ wR 1 (rN p.Client) p.Client.jP 0)).length ≤ 5000000 := by simp; omega
  unfold Au Fb
  rw [i]
  generalize xh 0 f x p.js.jF 0 ++ wR 0 (rN p.js) p.js.jP 0 ++ (xh 1 g y p.Client.jF 0 ++ wR 1 (rN p.Client) p.Client.jP 0) = l at *
  have a4 := lY (b := 24) (l := l) (m := [(⟨4, 0, 0⟩ : jV)]) (by simp; omega) (by simp; omega)
  have a5 := lY (b := 24) (l := l) (m := [(⟨5, 0, 0⟩ : jV)]) (by simp; omega) (by simp; omega)
  have d3 : (((oM p.Formula).1.Kids.length : Int) == 0) = decide ((oM p.Formula).1.Kids.length = 0) := by rw [bL]; simp
  rw [a4, a5]
  simp only [aA, d3]
  have u : ((oM p.Formula).2 == 0) = decide ((oM p.Formula).2 = 0) := by rw [bL]; simp
  have v : ((oM p.Formula).1.Op == 2) = decide ((oM p.Formula).1.Op = 2) := by rw [bL]; simp
  rw [u, v]
  cases decide ((oM p.Formula).2 = 0) <;> cases decide ((oM p.Formula).1.Op = 2) <;> cases decide ((oM p.Formula).1.Kids.length = 0) <;> cases tq (vD y p.Client.Name) p.Formula <;> simp
theorem Mw : ∀ (k u : Nat), u < 10 ^ (k + 1) → (Go.Lib.decDigits u).length ≤ k + 1
 | 0, u, h => by rw [Go.Lib.decDigits, dif_pos (by simpa using h)]; simp
 | k + 1, u, h => by
  rw [Nat.pow_succ] at h
  by_cases h1 : u < 10
  ·rw [Go.Lib.decDigits, dif_pos h1]; simp
  ·have := Mw k (u / 10) (by omega)
   rw [Go.Lib.decDigits, dif_neg h1]; simp; omega
def BJ (n : Int) : Prop := -9223372036854775808 ≤ n ∧ n ≤ 9223372036854775807
theorem HH {n : Int} (h : BJ n) : zr n = some (wO n) := bB h
theorem yS {n : Int} (h : BJ n) : (wO n).size ≤ 20 := by
 obtain ⟨b, h1⟩ := h
 show (Go.Lib.itoa n).toArray.size ≤ 20
 unfold Go.Lib.itoa
 split
 ·have := Mw 18 n.natAbs (by omega)
  simp; omega
 ·have := Mw 18 n.toNat (by omega)
  simp; omega
theorem Tg : zS.size = 0 := rfl
def I6 : ByteArray := ⟨#[32]⟩
def NA : ByteArray := ⟨#[10]⟩
def zo (x : jV) : ByteArray := wO x.Kind ++ I6 ++ wO x.End ++ I6 ++ wO x.At ++ NA
def EU : List jV → ByteArray → ByteArray
 | [], acc => acc
 | x :: l, acc => EU l (acc ++ zo x)
structure HW (x : jV) : Prop where
 k : BJ x.Kind
 e : BJ x.End
 a : BJ x.At
theorem Nd {x : jV} (h : HW x) : (zo x).size ≤ 63 := by
 have h1 := yS h.k
 have b := yS h.e
 have d := yS h.a
 have s1 : I6.size = 1 := rfl
 have s2 : NA.size = 1 := rfl
 unfold zo
 simp only [dZ]; omega
theorem Cc {a b : ByteArray} (h : a.size + b.size ≤ 1000000000) : pR a b = some (a ++ b) := by
 unfold pR
 rw [bo]
 have : IntKind.i64.max = 9223372036854775807 := rfl
 rw [this]; omega
theorem HI : ∀ (l : List jV) (acc : ByteArray), (∀ x ∈ l, HW x) → acc.size + 63 * l.length ≤ 1000000000 → sR l acc = some (EU l acc) ∧ rU l acc = some (EU l acc)
 | [], acc, _, _ => by rw [sR, rU]; exact ⟨rfl, rfl⟩
 | x :: l, acc, g, h => by
  have d := g x (by simp)
  rw [aI] at h
  have h1 := yS d.k
  have p := yS d.e
  have q := yS d.a
  have r := Nd d
  have s1 : I6.size = 1 := rfl
  have s2 : NA.size = 1 := rfl
  obtain ⟨a, b⟩ := HI l (acc ++ zo x) (fun y n => g y (by simp [n])) (by rw [dZ]; omega)
  have i : (⟨#[32]⟩ : ByteArray) = I6 := rfl
  have j : (⟨#[10]⟩ : ByteArray) = NA := rfl
  rw [sR, rU, HH d.k, HH d.e, HH d.a, i, j]
  simp only [aA]
  rw [Cc (by omega)]
  simp only [aA]
  rw [Cc (by simp only [dZ]; omega)]
  simp only [aA]
  rw [Cc (by simp only [dZ]; omega)]
  simp only [aA]
  rw [Cc (by simp only [dZ]; omega)]
  simp only [aA]
  rw [Cc (by simp only [dZ]; omega)]
  simp only [aA]
  have hw : F7 acc (zo x) = some (acc ++ zo x) := bB (by omega)
  have m : pR acc (zo x) = some (acc ++ zo x) := Cc (by omega)
  rw [show wO x.Kind ++ I6 ++ wO x.End ++ I6 ++ wO x.At ++ NA = zo x from rfl, hw, m]
  exact ⟨a, b⟩
def xP (k : Int) : List jV → Nat
 | [] => 0
 | x :: l => (if x.Kind == k then 1 else 0) + xP k l
theorem Ld (k : Int) : ∀ l : List jV, xP k l ≤ l.length
 | [] => aW _
 | x :: l => by have := Ld k l; rw [xP, aI]; split <;> omega
theorem FI (k : Int) : ∀ (l : List jV) (n : Nat), n + l.length ≤ 1000000000 → qz k l (n : Int) = some ((n + xP k l : Nat) : Int)
 | [], n, _ => by rw [qz, xP]; rfl
 | x :: l, n, h => by
  rw [aI] at h
  rw [qz, xP]
  cases x.Kind == k
  ·simp only [aB, aJ]
   rw [FI k l n (by omega), dX]
  ·simp only [aO]
   rw [kA (by omega) (by omega), show (n : Int) + 1 = ((n + 1 : Nat) : Int) by omega, FI k l (n + 1) (by omega), eo]
theorem HN (k : Int) (l : List jV) (h : l.length ≤ 1000000000) : uN l k = some (xP k l : Int) := by
 unfold uN
 have := FI k l 0 (by omega)
 rw [dX] at this
 exact this
theorem Pq (a : ByteArray) : kP a a = true := lW.2 rfl
theorem Ji (e : Int) (he : BJ e) (free goes : List jr) : ∀ (l : List lD) (i : Nat), i + l.length ≤ 1000000000 → ∀ x ∈ xh e free goes l i, HW x
 | [], i, _ => by simp [xh]
 | y :: l, i, h => by
  rw [aI] at h
  intro x b
  rw [xh] at b
  have mk : ∀ k : Int, BJ k → HW (Co k e i) := fun k hk => ⟨hk, he, by constructor <;> simp [Co] <;> omega⟩
  rcases aU.1 b with b | b
  ·split at b
   ·split at b
    ·cases b
    ·rw [bV] at b; rw [b]; exact mk 1 (by constructor <;> omega)
   ·rw [bV] at b; rw [b]; exact mk 2 (by constructor <;> omega)
  ·exact Ji e he free goes l (i + 1) (by omega) x b
theorem JS (e : Int) (he : BJ e) (all : List jr) : ∀ (l : List nI) (i : Nat), i + l.length ≤ 1000000000 → ∀ x ∈ wR e all l i, HW x
 | [], i, _ => by simp [wR]
 | y :: l, i, h => by
  rw [aI] at h
  intro x b
  rw [wR] at b
  rcases aU.1 b with b | b
  ·split at b
   ·cases b
   ·rw [bV] at b; rw [b]; exact ⟨by constructor <;> simp [Co], he, by constructor <;> simp [Co] <;> omega⟩
  ·exact JS e he all l (i + 1) (by omega) x b
theorem Rk (p : pU) (y : List jr) : ∀ x ∈ Fb p y, HW x := by
 intro x b
 unfold Fb at b
 split at b
 ·rw [bV] at b; rw [b]; exact ⟨by constructor <;> simp, by constructor <;> simp, by constructor <;> simp⟩
 ·split at b
  ·cases b
  ·rw [bV] at b; rw [b]; exact ⟨by constructor <;> simp, by constructor <;> simp, by constructor <;> simp⟩
theorem Rr (p : pU) (x y f g : List jr) (j : p.js.jF.length ≤ 1000000) (l : p.Client.jF.length ≤ 1000000) (d : p.js.jP.length ≤ 2000000) (i : p.Client.jP.length ≤ 2000000) : ∀ z ∈ Au p x y f g, HW z := by
 intro z b
 have i0 : BJ 0 := by constructor <;> omega
 have i1 : BJ 1 := by constructor <;> omega
 unfold Au at b
 simp only [aU] at b
 rcases b with (((h | h) | (h | h)) | h)
 ·exact Ji 0 i0 _ _ _ 0 (by omega) z h
 ·exact JS 0 i0 _ _ 0 (by omega) z h
 ·exact Ji 1 i1 _ _ _ 0 (by omega) z h
 ·exact JS 1 i1 _ _ 0 (by omega) z h
 ·exact Rk p y z h
theorem QC (p : pU) (x y f g : List jr) : (Au p x y f g).length ≤ p.js.jF.length + p.js.jP.length + p.Client.jF.length + p.Client.jP.length + 1 := by
 have b := CH 0 f x p.js.jF 0
 have k2 := CH 1 g y p.Client.jF 0
 have d := Cv 0 (rN p.js) p.js.jP 0
 have h := Cv 1 (rN p.Client) p.Client.jP 0
 have i : (Fb p y).length ≤ 1 := by unfold Fb; split; exact aW _; split <;> simp
 unfold Au
 simp; omega
def Fi (f : Formula) : pU := ⟨⟨Tj, [], []⟩, ⟨RH, [], []⟩, f, 0, ⟨0, 0⟩, 0, 0, 0, []⟩
theorem NQ (f : Formula) (l : Gd f) : uj (Fi f) = some (if D9 f then [⟨4, 0, 0⟩] else if tq (vD [] RH) f then [] else [⟨5, 0, 0⟩]) := by
 have b : ∀ n, PB ⟨n, [], []⟩ := fun n => ⟨by simp, by simp, by simp, by simp, by simp⟩
 obtain ⟨x, y, j, q, g, e, h, _, d, _⟩ := KZ (Fi f) (b _) (b _) (by simp [Fi]) (by simp [Fi]) (by simp [Fi]) (by simp [Fi]) l
 have m : y = [] := List.eq_nil_iff_forall_not_mem.2 fun c i => by
  obtain ⟨z, p, _⟩ := ((h.F.fy c).1 i).1
  cases p
 rw [d]
 unfold Au
 rw [show (Fi f).js.jF = [] from rfl, show (Fi f).Client.jF = [] from rfl, show (Fi f).js.jP = [] from rfl, show (Fi f).Client.jP = [] from rfl, xh, wR, xh, wR, m]
 rfl
def xG : Formula := ⟨3, 0, oL, []⟩
theorem PS : D9 xN = true := by
 have h1 : nr xN = true := by decide +kernel
 have b : oM xN = (xN, 0) := by
  have := PK
  unfold B5 at this
  rw [oH] at this
  split at this
  ·exact this
  ·rename_i d
   exact absurd (bD Prod.snd this) d
 unfold D9
 rw [b]
 simp only [cA, dK]
 exact xX.2 rfl
theorem OR : D9 xG = false := by
 rw [KY]
 have g : oU xG = xG := by
  rw [yd]
  have b : ¬ (xG.Op = 1) := by decide
  have d : ¬ (xG.Op = 4) := by decide
  simp only [b, d, aJ]
  rw [show xG.Kids = [] from rfl, shapeL]
  unfold oA
  rw [nF]
  rfl
 have h1 : nr xG = true := by decide +kernel
 have h : oM xG = (xG, 0) := by unfold oM; rw [h1, g, h1]; rfl
 rw [h]
 rfl
theorem Qp (v : jq → Bool) : tq v xG = false := by
 unfold tq
 rw [wk]
 simp [xG, evN]
theorem SL : wO 4 = ⟨#[52]⟩ := by
 unfold wO Go.Lib.itoa
 rw [bo (by omega), Go.Lib.decDigits, dif_pos (by decide)]
 rfl
theorem Sg : wO 0 = ⟨#[48]⟩ := by
 unfold wO Go.Lib.itoa
 rw [bo (by omega), Go.Lib.decDigits, dif_pos (by decide)]
 rfl
theorem PM : vu = some true := by
 have f1 := NQ xN (by unfold Gd; decide +kernel)
 have f2 := NQ xG (by unfold Gd; decide +kernel)
 rw [PS] at f1
 rw [OR, Qp] at f2
 simp only [aO, aB, aJ] at f1 f2
 have b := (HI [⟨4, 0, 0⟩] zS (by simp; exact ⟨by constructor <;> simp, by constructor <;> simp, by constructor <;> simp⟩) (by rw [Tg]; simp)).1
 have d : EU [⟨4, 0, 0⟩] zS = ⟨#[52, 32, 48, 32, 48, 10]⟩ := by
  rw [EU, EU]
  unfold zo
  simp only [SL, Sg]
  rfl
 rw [d] at b
 have c1 := HN 4 [⟨4, 0, 0⟩] (by simp)
 have c2 := HN 5 [⟨4, 0, 0⟩] (by simp)
 unfold vu
 erw [f1]
 simp only [aA]
 erw [f2]
 simp only [aA, aI, bR]
 unfold xu
 rw [b, c1, c2, show xP 4 [(⟨4, 0, 0⟩ : jV)] = 1 from rfl, show xP 5 [(⟨4, 0, 0⟩ : jV)] = 0 from rfl, show lB [(⟨4, 0, 0⟩ : jV)] 0 = some ⟨4, 0, 0⟩ from rfl, show lB [(⟨5, 0, 0⟩ : jV)] 0 = some ⟨5, 0, 0⟩ from rfl]
 simp only [aA, Pq]
 rfl
theorem JT (F : List jV) (g : ∀ x ∈ F, HW x) (p : F.length ≤ 10000000) : ∀ (M A : List jV) (n : Nat), F = A ++ M → n = xP 2 A → oh F F M A.length (n : Int) = some true
 | [], A, n, h, d => by
  obtain ⟨a, b⟩ := HI F zS g (by rw [Tg]; omega)
  rw [oh]
  unfold xu AV
  rw [a, b, HN 2 F (by omega)]
  simp only [aA, Pq, aO]
  rw [h, bA, d]
  simp
 | x :: M, A, n, h, d => by
  have m : lB F (A.length : Int) = some x := by rw [h]; exact mL A x M _ rfl
  have l : yy x x = true := HD.2 rfl
  have i : ∀ (A : List jV), xP 2 (A ++ [x]) = xP 2 A + (if x.Kind == 2 then 1 else 0) := by
   intro A
   induction A with
   | nil => simp [xP]
   | cons y A ih => rw [bP, xP, xP, ih]; omega
  have q := Ld 2 A
  have j : A.length ≤ F.length := by rw [h]; simp
  have ih := fun n d => JT F g p M (A ++ [x]) n (by rw [h]; simp) d
  rw [aF, aI, bR, dX] at ih
  rw [oh, m, aA, l]
  simp only [cC, aB, aJ]
  cases hk : x.Kind == 2
  ·simp only [aB, aJ]
   exact ih n (by rw [i, hk, d]; simp)
  ·simp only [aO]
   rw [kA (by omega) (by omega), show (n : Int) + 1 = ((n + 1 : Nat) : Int) by omega]
   exact ih (n + 1) (by rw [i, hk, d]; simp)
theorem Hl (s : vu = some true) (p : pU) (hp : PQ p) : uq p = some true := by
 obtain ⟨g, q, t⟩ := TR p hp
 have r : Gd p.Formula := by have := hp.f; unfold Gd; omega
 unfold uq
 rw [s, q]
 simp only [aA, cC, aB, aJ]
 by_cases d : g > 6000
 ·simp only [d, cA, aO]
 ·simp only [d, cI, aB, aJ]
  have i := hp.o.toPB.Jh
  have l := hp.c.toPB.Jh
  obtain ⟨x, y, j, f, h, _, _, _, m, n⟩ := KZ p hp.o.toPB hp.c.toPB (by omega) (by omega) i l r
  have b := Rr p x y f h (by omega) (by omega) i l
  have u := QC p x y f h
  rw [m, n]
  simp only [aA, bne_self_eq_false, aB, aJ]
  exact JT _ b (by omega) _ [] 0 rfl rfl
end Go.Proofs.YtjjjihkifgdhgaaGreatDoor
namespace Go.Proofs.YtjjjihkifgdhgaaGreatDoor.Lf
open Go.ChangeShapes Go.WideShapes Go.ChangeAt Go.RowKit
open Go.Proofs.YtjjjihkifgdhgaaGreatDoor (Rows.uptoBulk Rows.uptoBulkAll Rows.uptoSmall)
theorem RY {H : Type} (d : DataW H) : 1 ≤ Rows.uptoBulk d := by
 cases d with
 | lit l => cases l <;> simp [Rows.uptoBulk]
 | nil => simp [Rows.uptoBulk]
 | ptr d => simp [Rows.uptoBulk]
 | slice b spare => simp [Rows.uptoBulk]
 | agg parts => simp [Rows.uptoBulk]
 | iface t d => simp [Rows.uptoBulk]
 | map entries => simp [Rows.uptoBulk]
 | held h => simp [Rows.uptoBulk]
def G8 {α : Type} (P : Program) (t : TypeId) (enc : α → List Value) (sz : α → Nat) : Prop :=
 ∀ (H : Type) (b : TypeId × Value → H) (W : World) (base : Nat) (sp : Nat → Bool) (d : Bool) (fuel : Nat) (cs : List Value) (x : DataW H × List MemPlace),
  DataW.trod b P W base sp d fuel t cs = some x → ∃ a : α, cs = enc a ∧ sz a ≤ Rows.uptoBulk x.1
theorem LP {P : Program} {t : TypeId} (b : P.underlying t = some .string) : G8 P t (fun s : ByteArray => [.string s]) (fun s => s.size) := by
 intro H d W base sp g fuel cs x h
 obtain ⟨s, rfl, rfl, _⟩ := DataW.trod_string b h
 refine ⟨s, rfl, ?_⟩
 have e : s.data.toList.length = s.size := by rw [dE]; rfl
 simp [Rows.uptoBulk, e]
theorem P9 {P : Program} {t : TypeId} {k : IntKind} (b : P.underlying t = some (.int k)) : G8 P t (fun n : Int => [.int k n]) (fun _ => 0) := by
 intro H d W base sp g fuel cs x h
 obtain ⟨n, rfl, rfl, _⟩ := DataW.trod_int b h
 exact ⟨n, rfl, ez _⟩
theorem Qn {α : Type} {n : Nat} {p : Nat → α → Prop} (h : ∀ i, i < n → ∃ x, p i x) : ∃ l : List α, l.length = n ∧ ∀ i x, l[i]? = some x → p i x := by
 induction n with
 | zero => exact ⟨[], rfl, by simp⟩
 | succ n ih =>
  obtain ⟨l, h1, g⟩ := ih fun i d => h i (by omega)
  obtain ⟨x, q⟩ := h n (by omega)
  refine ⟨l ++ [x], by simp [h1], fun i y b => ?_⟩
  by_cases d : i < l.length
  ·rw [fM d] at b
   exact g i y b
  ·rw [eQ (by omega)] at b
   have : i - l.length = 0 := by
    cases j : i - l.length with
    | zero => rfl
    | succ m => rw [j] at b; simp at b
   rw [this] at b
   have e : i = n := by omega
   simp at b
   subst b; rw [e]; exact q
theorem Ju {W : World} {a : Addr} {v : Value} (h : W.cell? a = some v) : ∃ cs T fr, W.heap[a.block]? = some (.cells cs T fr) ∧ a.spot = none ∧ cs[a.off]? = some v := by
 unfold World.cell? at h
 split at h
 ·rename_i c T fr d
  by_cases b : a.spot.isSome
  ·simp [b] at h
  ·simp only [b] at h
   exact ⟨c, T, fr, d, by simpa using b, by simpa using h⟩
 ·cases h
theorem Ex.below {dd : Bool} {W W' : World} (h : Ex dd W W') : Below W.heap.size W W' := ⟨h.os, h.tape, h.output, h.size, h.lZ⟩
theorem DG {H : Type} {m : TypeId × Value → H} {P : Program} (r : laidOutB P = true) {W W' : World} {g : Nat → Bool} :
  ∀ {j : List TypeId} {vs : List Value} {ds : List (DataW H)} {i : List MemPlace}, (∀ t ∈ j, P.readableRec t = true ∧ t < P.types.size) →
   DataW.TrodAll m P W 0 (fun _ => true) true j vs ds i → (∀ p ∈ i, W.sameAt W' p) → (∀ p ∈ i, g p.block = true) → DataW.TrodAll m P W' 0 g true j vs ds i
 | [], _, _, _, _, h, _, _ => by
  obtain ⟨rfl, rfl, rfl⟩ := trodAll_nil h
  exact trodAll_mk0
 | t :: j, _, _, _, l, h, h1, n => by
  obtain ⟨v, vs, d, ds, p, q, rfl, rfl, rfl, s, w⟩ := trodAll_cons h
  exact trodAll_cons_mk (WideElems.Trod_stays r (l t (by simp)).1 (l t (by simp)).2 s (fun x b => h1 x (by simp [b])) (fun x b => n x (by simp [b])))
   (DG r (fun u hu => l u (by simp [hu])) w (fun x b => h1 x (by simp [b])) (fun x b => n x (by simp [b])))
theorem LH {H : Type} {enc : TypeId × Value → H} {P : Program} (Q : laidOutB P = true) {f : Func} {s : ChangeSpec} {apart fresh handsOn again : Bool} {W W' : World} {args : Array Value} {v : Value} {ds gs : List (DataW H)} {before : List MemPlace} (T : ∀ t ∈ f.params.toList, P.readableRec t = true ∧ t < P.types.size) (u : s.vars = []) (z : DataW.Whole enc P f.params.toList s.vars apart W args.toList ds gs before) {dd : Bool} (J : Ex dd W W') (d : ∀ (b : Nat) (sp : Nat → Bool) (O : Bool), DataW.TrodAll enc P W' b sp O f.resultTypes.toList (v.resultList f.resultTypes.size) (s.fn H (ds ++ gs)).results []) (g : (s.fn H (ds ++ gs)).args = ds) (i : (s.fn H (ds ++ gs)).vars = []) (G : ∀ (j : Nat) (t : TypeId) (r : Value), f.resultTypes[j]? = some t → (v.resultList f.resultTypes.size)[j]? = some r → Value.okWide P W' .any 0 t r) :
  s.post enc P f apart fresh handsOn again W args v W' := by
 have h := z.lt
 have hold : ∀ p ∈ before, (fun b => decide (b < W.heap.size)) p.block = true := fun p hp => by simpa using h p hp
 have E := Ex.below J
 have A := z
 obtain ⟨p, q, M, L, m, U, R⟩ := z
 rw [u] at L
 obtain ⟨rfl, rfl⟩ := trodVars_none L
 rw [bA] at m
 subst m
 have n : ∀ sp : Nat → Bool, (∀ p ∈ before, sp p.block = true) → DataW.TrodAll enc P W' 0 sp true f.params.toList args.toList (s.fn H (ds ++ [])).args before := fun sp I => by
  rw [g]
  exact DG Q T M (fun x J => E.same (h x J)) I
 have y : ∀ sp : Nat → Bool, DataW.TrodVars enc P W' sp s.vars (s.fn H (ds ++ [])).vars [] := fun sp => by
  rw [i, u]; rfl
 refine ⟨ds, [], before, [], before, [], A, d _ _ _, n _ hold, y _, World.keptBut_mono (fun p hp => ⟨hp, ?_⟩) (E.frame (· ∈ before)), fun _ => ?_⟩
 ·exact Or.inr (Or.inl hp)
 ·refine ⟨G, _, _, ([] ++ before) ++ [], ⟨[] ++ before, [], trodAll_append (n _ (fun _ _ => rfl)) (d _ _ _), y _, rfl, ?_, ?_⟩, ?_⟩
  ·intro b off hp
   have l : MemPlace.cell b off ∈ before := by simpa using hp
   rw [World.frozen?_of_block (w := W) (E.block b (h _ l))]
   exact U b off l
  ·intro ha
   simpa using R ha
  ·intro p hp _
   simpa using hp
end Go.Proofs.YtjjjihkifgdhgaaGreatDoor.Lf
namespace Go.Proofs.YtjjjihkifgdhgaaGreatDoor.Lf
open Go.ChangeShapes Go.WideShapes Go.ChangeAt Go.RowKit
open Go.Proofs.YtjjjihkifgdhgaaGreatDoor (Rows.uptoBulk Rows.uptoBulkAll Rows.uptoSmall)
def EL {α : Type} (P : Program) (t : TypeId) (R : pI α) (sz : α → Nat) : Prop :=
 ∀ (H : Type) (b : TypeId × Value → H) (W : World) (base : Nat) (sp : Nat → Bool) (d : Bool) (fuel : Nat) (cs : List Value) (x : DataW H × List MemPlace),
  DataW.trod b P W base sp d fuel t cs = some x → ∃ a : α, R (hp W) cs a ∧ sz a ≤ Rows.uptoBulk x.1
theorem G8.rel {α : Type} {P : Program} {t : TypeId} {enc : α → List Value} {sz : α → Nat} (h : G8 P t enc sz) : EL P t (Pl enc) sz := fun H b W base sp d fuel cs x g => h H b W base sp d fuel cs x g
end Go.Proofs.YtjjjihkifgdhgaaGreatDoor.Lf
namespace Go.Proofs.YtjjjihkifgdhgaaGreatDoor.Lf
open Go.ChangeShapes Go.WideShapes Go.ChangeAt Go.RowKit
open Go.Proofs.YtjjjihkifgdhgaaGreatDoor (Rows.uptoBulk Rows.uptoBulkAll Rows.uptoSmall)
theorem FC {H : Type} : ∀ l : List (DataW H), Rows.uptoBulkAll l = (l.map Rows.uptoBulk).sum
 | [] => by simp [Rows.uptoBulkAll]
 | d :: l => by simp [Rows.uptoBulkAll, FC l]
theorem Nh {α : Type} (g : α → Nat) : ∀ (n : Nat) (f : Nat → Nat) {l : List α}, l.length = n → (∀ i x, l[i]? = some x → g x ≤ f i) → (l.map g).sum ≤ ((List.range n).map f).sum
 | 0, f, l, b, h => by
  obtain rfl := ei.1 b
  simp
 | n + 1, f, [], b, h => by cases b
 | n + 1, f, a :: l, b, h => by
  rw [List.range_succ_eq_map, bJ, bJ, ey, ey, eG]
  have h1 := h 0 a rfl
  have j := Nh g n (f ∘ Nat.succ) (l := l) (by simpa using b) (fun i x d => h (i + 1) x (by simpa using d))
  omega
def rL {α : Type} (sz : α → Nat) (l : List α) : Nat := (l.map fun a => max 1 (sz a)).sum
theorem Cw {α : Type} (sz : α → Nat) : ∀ l : List α, l.length ≤ rL sz l
 | [] => aW _
 | a :: l => by have := Cw sz l; simp only [rL, bJ, ey, aI] at this ⊢; omega
theorem G3 {α : Type} {sz : α → Nat} : ∀ {l : List α} {a : α}, a ∈ l → sz a ≤ rL sz l
 | b :: l, a, h => by
  simp only [rL, bJ, ey]
  rcases aQ.1 h with rfl | h
  ·omega
  ·have := G3 (sz := sz) h; simp only [rL] at this; omega
theorem Fj {α : Type} {P : Program} {t e : TypeId} {k : Nat} {R : pI α} {sz : α → Nat} (hk : P.cellsOf e = k) (M : 0 < k) (ht : P.underlying t = some (.slice e)) {H : Type} {Z : TypeId × Value → H} {W : World} {base : Nat} {sp : Nat → Bool} {held : Bool} {fuel : Nat} {cs : List Value} {x : DataW H × List MemPlace} (hd : ∀ (fuel : Nat) (cs : List Value) (y : DataW H × List MemPlace), DataW.trod Z P W base sp held fuel e cs = some y → SizeOf.sizeOf y.1 < SizeOf.sizeOf x.1 → ∃ a : α, R (hp W) cs a ∧ sz a ≤ Rows.uptoBulk y.1) (hf : DataW.trod Z P W base sp held fuel t cs = some x) :
  ∃ v l, cs = [v] ∧ Sl R k (hp W) v l ∧ rL sz l ≤ Rows.uptoBulk x.1 := by
 rcases Go.Deep.open_slice ht hf with ⟨rfl, rfl⟩ | ⟨a, ln, cp, m, n, D, Q, rfl, hb, hl, hm, U, rfl, J⟩
 ·exact ⟨_, [], rfl, ⟨none, 0, rfl, aW _, ez _, fun h => absurd h (Nat.lt_irrefl _)⟩, ez _⟩
 ·have aa : ln ≤ m := by rw [U]; split <;> omega
  have hB : ((List.range ln).map fun i => Rows.uptoBulk (D i)).sum ≤ Rows.uptoBulk (DataW.slice ((List.range ln).map D) ((List.range (m - ln)).map fun j => D (ln + j))) := by
   simp only [Rows.uptoBulk]
   rw [FC, eG]
   have e : ((List.range ln).map fun i => Rows.uptoBulk (D i)) = (List.range ln).map (Rows.uptoBulk ∘ D) := rfl
   rw [e]
   omega
  have hS : ∀ i, i < ln → SizeOf.sizeOf (D i) < SizeOf.sizeOf (DataW.slice ((List.range ln).map D) ((List.range (m - ln)).map fun j => D (ln + j))) := fun i L => by
   have := List.sizeOf_lt_of_mem (bM.2 ⟨i, List.mem_range.2 L, rfl⟩ : D i ∈ (List.range ln).map D)
   rw [DataW.slice.sizeOf_spec]; omega
  simp only at hd ⊢
  generalize Rows.uptoBulk (DataW.slice ((List.range ln).map D) ((List.range (m - ln)).map fun j => D (ln + j))) = B at hB
  obtain ⟨l, O, s⟩ := Qn (α := α) (n := ln) (p := fun i x => ∃ b, W.cells? base (a.add (i * k)) k = some b ∧ R (hp W) b x ∧ sz x ≤ Rows.uptoBulk (D i)) fun i L => by
   obtain ⟨b, h1, A⟩ := J i (by omega)
   obtain ⟨x, hR, E⟩ := hd _ _ _ A (hS i L)
   rw [hk] at h1
   exact ⟨x, b, h1, hR, E⟩
  subst O
  refine ⟨_, l, rfl, ⟨some a, cp, rfl, hl, hm, fun h0 => ?_⟩, ?_⟩
  ·have d : ∀ i x, l[i]? = some x → ∃ b, R (hp W) b x ∧ b.length = k ∧ ∀ j, j < k → W.cell? ((a.add (i * k)).add j) = b[j]? := fun i x u =>
    let ⟨b, h1, A, _⟩ := s i x u
    let ⟨_, E, h4⟩ := World.cells?_some h1
    ⟨b, A, E, h4⟩
   obtain ⟨a6, _, h4, h5⟩ := d 0 l[0] (by simp [h0])
   have G := h5 0 M
   rw [Nat.zero_mul, dP (by omega)] at G
   have e0 : (a.add 0).add 0 = a := rfl
   rw [e0] at G
   obtain ⟨cs, T, fr, I, h8, _⟩ := Ju G
   obtain ⟨w, z, a1⟩ := a
   simp only at I h8
   subst h8
   refine ⟨w, z, cs, T, fr, rfl, I, fun i x u => ?_⟩
   obtain ⟨b, gR, g1, g2⟩ := d i x u
   refine ⟨b, g1, gR, fun j y hy => ?_⟩
   have hj : j < k := by
    rw [← g1]
    exact (bH.1 hy).1
   have h9 := g2 j hj
   rw [Go.Deep.add_add, hy] at h9
   obtain ⟨Y, T', a7, g, a8, q⟩ := Ju h9
   have r : (Addr.add ⟨w, z, none⟩ (i * k + j)).block = w ∧ (Addr.add ⟨w, z, none⟩ (i * k + j)).off = z + (i * k + j) := by
    unfold Addr.add
    split
    ·rename_i hz
     rw [hz]; exact ⟨rfl, rfl⟩
    ·exact ⟨rfl, rfl⟩
   rw [r.1, I] at g
   cases g
   rw [r.2, ← eo] at q
   exact q
  ·refine dL (Nh _ _ _ rfl fun i x u => ?_) hB
   exact Nat.max_le.2 ⟨RY _, (s i x u).elim fun _ h => h.2.2⟩
theorem sM {α : Type} {P : Program} {t e : TypeId} {k : Nat} {R : pI α} {sz : α → Nat} (hk : P.cellsOf e = k) (b : 0 < k) (g : EL P e R sz) (j : P.underlying t = some (.slice e)) {H : Type} {d : TypeId × Value → H} {W : World} {base : Nat} {sp : Nat → Bool} {held : Bool} {fuel : Nat} {cs : List Value} {x : DataW H × List MemPlace} (i : DataW.trod d P W base sp held fuel t cs = some x) :
  ∃ v l, cs = [v] ∧ Sl R k (hp W) v l ∧ rL sz l ≤ Rows.uptoBulk x.1 := Fj hk b j (fun _ _ _ h _ => g _ _ _ _ _ _ _ _ _ h) i
end Go.Proofs.YtjjjihkifgdhgaaGreatDoor.Lf
namespace Go.Proofs.YtjjjihkifgdhgaaGreatDoor.Lf
open Go.ChangeShapes Go.WideShapes Go.ChangeAt Go.RowKit
open Go.Proofs.YtjjjihkifgdhgaaGreatDoor (Rows.uptoBulk Rows.uptoBulkAll Rows.uptoSmall)
def Lp {α : Type} (R : pI α) (Q : α → Prop) : pI α := fun μ ys x => R μ ys x ∧ Q x
theorem Sl.all {α : Type} {R : pI α} {Q : α → Prop} {k : Nat} {μ : kk} {v : Value} {l : List α} (h : Sl (Lp R Q) k μ v l) : Sl R k μ v l ∧ ∀ x ∈ l, Q x := by
 obtain ⟨A, c, rfl, h1, j, q⟩ := h
 cases l with
 | nil => exact ⟨⟨A, c, rfl, h1, j, fun h => absurd h (by simp)⟩, by simp⟩
 | cons a l =>
  obtain ⟨b, o, cs, T, fr, e, r, m⟩ := q (by simp)
  refine ⟨⟨A, c, rfl, h1, j, fun _ => ⟨b, o, cs, T, fr, e, r, fun i x g => ?_⟩⟩, fun x g => ?_⟩
  ·obtain ⟨ys, n, d, p⟩ := m i x g
   exact ⟨ys, n, d.1, p⟩
  ·obtain ⟨i, s⟩ := List.mem_iff_getElem?.1 g
   obtain ⟨ys, n, d, p⟩ := m i x s
   exact d.2
theorem Qc {P : Program} {t : TypeId} (b : P.underlying t = some (.int .u8)) : EL P t (Lp (Pl (kN .u8)) (fun x => 0 ≤ x ∧ x < 256)) (fun _ => 0) := by
 intro H d W base sp g fuel cs x h
 obtain ⟨n, rfl, rfl, hw⟩ := DataW.trod_int b h
 refine ⟨n, ⟨rfl, ?_⟩, ez _⟩
 simp [Lit.wf, IntKind.min, IntKind.max, IntKind.bits, IntKind.signed] at hw
 omega
end Go.Proofs.YtjjjihkifgdhgaaGreatDoor.Lf
namespace Go.Proofs.YtjjjihkifgdhgaaGreatDoor
open Go.Proofs.Tryz renaming prog → pg0
set_option maxRecDepth 10000
open Go.ChangeShapes Go.WideShapes Go.ChangeAt Go.RowKit
open Go.Proofs.YtjjjihkifgdhgaaGreatDoor Go.Proofs.YtjjjihkifgdhgaaGreatDoor.Lf
theorem P0 : Tryz.prog.cellsOf 34 = 18 := by kernel_rfl
theorem QH {α : Type} {l : List α} (h : l.length = 9) : ∃ a0 b a2 a3 a4 a5 d g i, l = [a0, b, a2, a3, a4, a5, d, g, i] := by
 match l, h with
 | [a0, b, a2, a3, a4, a5, d, g, i], _ => exact ⟨a0, b, a2, a3, a4, a5, d, g, i, rfl⟩
theorem SC {α : Type} {l : List α} (h : l.length = 18) : ∃ a0 n a2 a3 a4 a5 p q r a9 b d a12 g i j m a17, l = [a0, n, a2, a3, a4, a5, p, q, r, a9, b, d, a12, g, i, j, m, a17] := by
 match l, h with
 | [a0, n, a2, a3, a4, a5, p, q, r, a9, b, d, a12, g, i, j, m, a17], _ => exact ⟨a0, n, a2, a3, a4, a5, p, q, r, a9, b, d, a12, g, i, j, m, a17, rfl⟩
theorem Qy : Tryz.prog.cellsOf 25 = 3 := by kernel_rfl
theorem O6 {α : Type} {l : List α} (h : l.length = 3) : ∃ a0 b a2, l = [a0, b, a2] := by
 match l, h with
 | [a0, b, a2], _ => exact ⟨a0, b, a2, rfl⟩
theorem Ej : Tryz.prog.cellsOf 9 = 1 := by kernel_rfl
theorem FQ : G8 pg0 9 (fun s : ByteArray => [.string s]) (fun s => s.size) := LP Tryz.underlying9
theorem KL : Tryz.prog.cellsOf 22 = 1 := by kernel_rfl
theorem Hz : Tryz.prog.cellsOf 57 = 15 := by kernel_rfl
theorem Ev {α : Type} {l : List α} (h : l.length = 2) : ∃ a0 b, l = [a0, b] := by
 match l, h with
 | [a0, b], _ => exact ⟨a0, b, rfl⟩
theorem R9 {α : Type} {l : List α} (h : l.length = 15) : ∃ a0 j a2 a3 a4 a5 m n p a9 b d a12 g i, l = [a0, j, a2, a3, a4, a5, m, n, p, a9, b, d, a12, g, i] := by
 match l, h with
 | [a0, j, a2, a3, a4, a5, m, n, p, a9, b, d, a12, g, i], _ => exact ⟨a0, j, a2, a3, a4, a5, m, n, p, a9, b, d, a12, g, i, rfl⟩
theorem Qv : Tryz.prog.cellsOf 55 = 10 := by kernel_rfl
theorem Ht : Tryz.prog.cellsOf 52 = 9 := by kernel_rfl
theorem Dd : G8 pg0 3 (fun n : Int => [.int .i64 n]) (fun _ => 0) := P9 Tryz.underlying3
theorem Gq : Tryz.prog.cellsOf 3 = 1 := by kernel_rfl
theorem EO : Tryz.prog.cellsOf 27 = 2 := by kernel_rfl
def xk (x : jq) : Nat := x.js.size + x.Word.size
theorem Gm : G8 pg0 27 jA xk := by
 intro H i W base sp l fuel cs x h
 obtain ⟨xs, n, _, rfl, r, hlen, m⟩ := dV Tryz.underlying27 h
 obtain ⟨t, u, rfl⟩ := Ev hlen
 obtain ⟨b, c1, rfl⟩ := Ev (r.trans EO)
 have j : DataW.trod i pg0 W base sp l n 9 (([b, c1].drop 0).take (Tryz.prog.cellsOf 9)) = some t := m 0 _ rfl
 have h1 : DataW.trod i pg0 W base sp l n 9 (([b, c1].drop 1).take (Tryz.prog.cellsOf 9)) = some u := m 1 _ rfl
 simp only [Ej, List.drop, List.take] at j h1
 obtain ⟨s, d, p⟩ := FQ _ _ _ _ _ _ _ _ _ j
 obtain ⟨s1, g, q⟩ := FQ _ _ _ _ _ _ _ _ _ h1
 simp only [aZ, dC] at d g
 obtain rfl := d
 obtain rfl := g
 refine ⟨⟨s, s1⟩, rfl, ?_⟩
 simp only [List.map, Rows.uptoBulk, Rows.uptoBulkAll, xk] at p q ⊢
 omega
theorem Th {α : Type} {l : List α} (h : l.length = 6) : ∃ a0 b a2 a3 a4 a5, l = [a0, b, a2, a3, a4, a5] := by
 match l, h with
 | [a0, b, a2, a3, a4, a5], _ => exact ⟨a0, b, a2, a3, a4, a5, rfl⟩
def uK (x : jr) : Nat := xk x.Head + x.kz.size + xk x.B + xk x.C + x.kK.size
theorem Pe : G8 pg0 52 jw uK := by
 intro H p W base sp q fuel cs x h
 obtain ⟨xs, n, _, rfl, R, hlen, r⟩ := dV Tryz.underlying52 h
 obtain ⟨y0, y1, y2, y3, y4, y5, rfl⟩ := Th hlen
 obtain ⟨b, c1, c2, d, g, i, j, l, m, rfl⟩ := QH (R.trans Ht)
 have z : DataW.trod p pg0 W base sp q n 3 (([b, c1, c2, d, g, i, j, l, m].drop 0).take (Tryz.prog.cellsOf 3)) = some y0 := r 0 _ rfl
 have h1 : DataW.trod p pg0 W base sp q n 27 (([b, c1, c2, d, g, i, j, l, m].drop 1).take (Tryz.prog.cellsOf 27)) = some y1 := r 1 _ rfl
 have A : DataW.trod p pg0 W base sp q n 9 (([b, c1, c2, d, g, i, j, l, m].drop 3).take (Tryz.prog.cellsOf 9)) = some y2 := r 2 _ rfl
 have E : DataW.trod p pg0 W base sp q n 27 (([b, c1, c2, d, g, i, j, l, m].drop 4).take (Tryz.prog.cellsOf 27)) = some y3 := r 3 _ rfl
 have G : DataW.trod p pg0 W base sp q n 27 (([b, c1, c2, d, g, i, j, l, m].drop 6).take (Tryz.prog.cellsOf 27)) = some y4 := r 4 _ rfl
 have I : DataW.trod p pg0 W base sp q n 9 (([b, c1, c2, d, g, i, j, l, m].drop 8).take (Tryz.prog.cellsOf 9)) = some y5 := r 5 _ rfl
 simp only [EO, Gq, Ej, List.drop, List.take] at z h1 A E G I
 obtain ⟨T, s, J⟩ := Dd _ _ _ _ _ _ _ _ _ z
 obtain ⟨s1, t, L⟩ := Gm _ _ _ _ _ _ _ _ _ h1
 obtain ⟨s2, u, M⟩ := FQ _ _ _ _ _ _ _ _ _ A
 obtain ⟨U, v, O⟩ := Gm _ _ _ _ _ _ _ _ _ E
 obtain ⟨Y, w, P⟩ := Gm _ _ _ _ _ _ _ _ _ G
 obtain ⟨Z, y, Q⟩ := FQ _ _ _ _ _ _ _ _ _ I
 simp only [jA, aZ, dC] at s t u v w y
 obtain rfl := s
 obtain ⟨rfl, rfl⟩ := t
 obtain rfl := u
 obtain ⟨rfl, rfl⟩ := v
 obtain ⟨rfl, rfl⟩ := w
 obtain rfl := y
 refine ⟨⟨T, s1, s2, U, Y, Z⟩, rfl, ?_⟩
 simp only [List.map, Rows.uptoBulk, Rows.uptoBulkAll, uK] at J L M O P Q ⊢
 omega
theorem KH : Tryz.prog.cellsOf 53 = 1 := by kernel_rfl
theorem M4 : Tryz.prog.cellsOf 5 = 1 := by kernel_rfl
theorem Pm : EL pg0 5 (Lp (Pl (kN .u8)) (fun x => 0 ≤ x ∧ x < 256)) (fun _ => 0) := Qc Tryz.underlying5
theorem CC : Tryz.prog.cellsOf 30 = 5 := by kernel_rfl
theorem Ty {α : Type} {l : List α} (h : l.length = 4) : ∃ a0 b a2 a3, l = [a0, b, a2, a3] := by
 match l, h with
 | [a0, b, a2, a3], _ => exact ⟨a0, b, a2, a3, rfl⟩
theorem Tx {α : Type} {l : List α} (h : l.length = 5) : ∃ a0 b a2 a3 a4, l = [a0, b, a2, a3, a4] := by
 match l, h with
 | [a0, b, a2, a3, a4], _ => exact ⟨a0, b, a2, a3, a4, rfl⟩
theorem Px : Tryz.prog.cellsOf 28 = 1 := by kernel_rfl
theorem Tq {H : Type} {x : DataW H × List MemPlace} {ys : List (DataW H × List MemPlace)} {p : List MemPlace} (b : x = (.agg (ys.map (·.1)), p)) (i : Nat) {y : DataW H × List MemPlace} (h : ys[i]? = some y) : SizeOf.sizeOf y.1 < SizeOf.sizeOf x.1 := by
 subst b
 have := List.sizeOf_lt_of_mem (bM.2 ⟨y, dm h, rfl⟩ : y.1 ∈ ys.map (·.1))
 simp only [DataW.agg.sizeOf_spec]; omega
theorem Jw : ∀ l : List Formula, szFL l ≤ rL yK l
 | [] => aW _
 | k :: l => by have := Jw l; rw [szFL]; simp only [rL, bJ, ey] at this ⊢; omega
theorem RQ : ∀ (N : Nat) (H : Type) (M : TypeId × Value → H) (W : World) (base : Nat) (sp : Nat → Bool) (O : Bool) (fuel : Nat) (cs : List Value) (x : DataW H × List MemPlace),
  DataW.trod M pg0 W base sp O fuel 30 cs = some x → SizeOf.sizeOf x.1 < N → ∃ a : Formula, jt (hp W) cs a ∧ yK a ≤ Rows.uptoBulk x.1 := by
 intro N
 induction N with
 | zero => intro _ _ _ _ _ _ _ _ _ _ h; exact absurd h (Nat.not_lt_zero _)
 | succ N ih =>
  intro H M W base sp O fuel cs x h hN
  obtain ⟨a1, A, _, s, E, r, l⟩ := dV Tryz.underlying30 h
  obtain ⟨t, u, v, w, rfl⟩ := Ty r
  obtain ⟨b, d, g, i, j, rfl⟩ := Tx (E.trans CC)
  have m : DataW.trod _ pg0 W _ _ _ A 3 (([b, d, g, i, j].drop 0).take (Tryz.prog.cellsOf 3)) = some t := l 0 _ rfl
  have n : DataW.trod _ pg0 W _ _ _ A 3 (([b, d, g, i, j].drop 1).take (Tryz.prog.cellsOf 3)) = some u := l 1 _ rfl
  have p : DataW.trod _ pg0 W _ _ _ A 27 (([b, d, g, i, j].drop 2).take (Tryz.prog.cellsOf 27)) = some v := l 2 _ rfl
  have q : DataW.trod _ pg0 W _ _ _ A 28 (([b, d, g, i, j].drop 4).take (Tryz.prog.cellsOf 28)) = some w := l 3 _ rfl
  simp only [EO, Px, Gq, List.drop, List.take] at m n p q
  obtain ⟨s2, G, R⟩ := Dd _ _ _ _ _ _ _ _ _ m
  simp only [aZ, dC] at G
  obtain rfl := G
  obtain ⟨s3, I, T⟩ := Dd _ _ _ _ _ _ _ _ _ n
  simp only [aZ, dC] at I
  obtain rfl := I
  obtain ⟨s4, J, U⟩ := Gm _ _ _ _ _ _ _ _ _ p
  simp only [jA, aZ, dC] at J
  obtain ⟨rfl, rfl⟩ := J
  obtain ⟨v5, P, L, q5, Y⟩ := Fj CC (by decide) Tryz.underlying28 (fun f cs y h Z => ih _ _ _ _ _ _ _ _ _ h (by have := Tq s 3 rfl; omega)) q
  simp only [aZ, dC] at L
  obtain rfl := L
  have Q := bD (fun z => Rows.uptoBulk z.1) s
  refine ⟨⟨s2, s3, s4, P⟩, jt.mk ⟨_, rfl, q5⟩, ?_⟩
  have Z := Jw P
  simp only [List.map, Rows.uptoBulk, Rows.uptoBulkAll, xk] at R T U Y Q ⊢
  rw [JW]
  simp only
  omega
theorem Ja : EL pg0 30 jt yK := fun H b W base sp d fuel cs x h => RQ _ H b W base sp d fuel cs x h (bI _)
def ub (x : lD) : Nat := uK x.Signed.jr + rL (fun _ : Int => 0) x.Signed.Tag + 1 + yK x.jx + 1
def NL (x : lD) : Prop := (∀ y ∈ x.Signed.Tag, 0 ≤ y ∧ y < 256)
theorem Nf : EL pg0 57 (Lp ko NL) ub := by
 intro H eh W base sp hd fuel cs x h
 obtain ⟨a8, n6, _, Z, Y, G, M⟩ := dV Tryz.underlying57 h
 obtain ⟨P, Q, rfl⟩ := Ev G
 obtain ⟨b, d, g, i, j, l, m, n, p, q, r, s, t, u, v, rfl⟩ := R9 (Y.trans Hz)
 have w : DataW.trod _ pg0 W _ _ _ n6 55 (([b, d, g, i, j, l, m, n, p, q, r, s, t, u, v].drop 0).take (Tryz.prog.cellsOf 55)) = some P := M 0 _ rfl
 have y : DataW.trod _ pg0 W _ _ _ n6 30 (([b, d, g, i, j, l, m, n, p, q, r, s, t, u, v].drop 10).take (Tryz.prog.cellsOf 30)) = some Q := M 1 _ rfl
 simp only [CC, Qv, List.drop, List.take] at w y
 obtain ⟨aa, n7, _, a1, a7, I, O⟩ := dV Tryz.underlying55 w
 obtain ⟨R, T, rfl⟩ := Ev I
 have A : DataW.trod _ pg0 W _ _ _ n7 52 (([b, d, g, i, j, l, m, n, p, q].drop 0).take (Tryz.prog.cellsOf 52)) = some R := O 0 _ rfl
 have E : DataW.trod _ pg0 W _ _ _ n7 53 (([b, d, g, i, j, l, m, n, p, q].drop 9).take (Tryz.prog.cellsOf 53)) = some T := O 1 _ rfl
 simp only [Ht, KH, List.drop, List.take] at A E
 obtain ⟨s8, e8, b8⟩ := Pe _ _ _ _ _ _ _ _ _ A
 simp only [jw, jA, aZ, dC] at e8
 obtain ⟨rfl, rfl, rfl, rfl, rfl, rfl, rfl, rfl, rfl⟩ := e8
 obtain ⟨v9, s9, e9, q9, b9⟩ := sM M4 (by decide) Pm Tryz.underlying53 E
 simp only [aZ, dC] at e9
 obtain rfl := e9
 obtain ⟨q9, g9⟩ := Lf.Sl.all q9
 have b7 := bD (fun z => Rows.uptoBulk z.1) a1
 obtain ⟨a6, J, U⟩ := Ja _ _ _ _ _ _ _ _ _ y
 obtain ⟨v10, L, J⟩ := J.out
 simp only [aZ, dC] at L
 obtain ⟨rfl, rfl, rfl, rfl, rfl⟩ := L
 have b6 := bD (fun z => Rows.uptoBulk z.1) Z
 refine ⟨⟨⟨s8, s9⟩, a6⟩, ⟨ko.mk ⟨_, _, rfl, q9, J⟩, g9⟩, ?_⟩
 simp only [List.map, Rows.uptoBulk, Rows.uptoBulkAll, ub] at b8 b9 b7 U b6 ⊢
 omega
theorem Lc : Tryz.prog.cellsOf 23 = 1 := by kernel_rfl
theorem FV : Tryz.prog.cellsOf 132 = 8 := by kernel_rfl
theorem TC {α : Type} {l : List α} (h : l.length = 8) : ∃ a0 b a2 a3 a4 a5 d g, l = [a0, b, a2, a3, a4, a5, d, g] := by
 match l, h with
 | [a0, b, a2, a3, a4, a5, d, g], _ => exact ⟨a0, b, a2, a3, a4, a5, d, g, rfl⟩
theorem Ql : Tryz.prog.cellsOf 45 = 1 := by kernel_rfl
def xD (x : nI) : Nat := xk x.jq + yK x.jx + rL uK x.lj + 1
def SF (x : nI) : Prop := True
theorem Ll : EL pg0 132 (Lp kQ SF) xD := by
 intro H eh W base sp hd fuel cs x h
 obtain ⟨Y, n11, _, J, I, t, s⟩ := dV Tryz.underlying132 h
 obtain ⟨v, w, y, rfl⟩ := O6 t
 obtain ⟨b, d, g, i, j, l, m, n, rfl⟩ := TC (I.trans FV)
 have p : DataW.trod _ pg0 W _ _ _ n11 27 (([b, d, g, i, j, l, m, n].drop 0).take (Tryz.prog.cellsOf 27)) = some v := s 0 _ rfl
 have q : DataW.trod _ pg0 W _ _ _ n11 30 (([b, d, g, i, j, l, m, n].drop 2).take (Tryz.prog.cellsOf 30)) = some w := s 1 _ rfl
 have r : DataW.trod _ pg0 W _ _ _ n11 45 (([b, d, g, i, j, l, m, n].drop 7).take (Tryz.prog.cellsOf 45)) = some y := s 2 _ rfl
 simp only [EO, CC, Ql, List.drop, List.take] at p q r
 obtain ⟨R, A, M⟩ := Gm _ _ _ _ _ _ _ _ _ p
 simp only [jA, aZ, dC] at A
 obtain ⟨rfl, rfl⟩ := A
 obtain ⟨T, u, O⟩ := Ja _ _ _ _ _ _ _ _ _ q
 obtain ⟨Z, E, u⟩ := u.out
 simp only [aZ, dC] at E
 obtain ⟨rfl, rfl, rfl, rfl, rfl⟩ := E
 obtain ⟨a1, U, G, Q, P⟩ := sM Ht (by decide) Pe.rel Tryz.underlying45 r
 simp only [aZ, dC] at G
 obtain rfl := G
 have L := bD (fun z => Rows.uptoBulk z.1) J
 refine ⟨⟨R, T, U⟩, ⟨kQ.mk ⟨_, _, rfl, u, Q⟩, trivial⟩, ?_⟩
 simp only [List.map, Rows.uptoBulk, Rows.uptoBulkAll, xD] at M O P L ⊢
 omega
theorem Ln : Tryz.prog.cellsOf 31 = 2 := by kernel_rfl
def EI (x : yQ) : Nat := 0
theorem Sz : G8 pg0 31 GW EI := by
 intro H i W base sp l fuel cs x h
 obtain ⟨xs, n, _, rfl, r, hlen, m⟩ := DataW.trod_array Tryz.underlying31 h
 obtain ⟨t, u, rfl⟩ := Ev hlen
 obtain ⟨b, c1, rfl⟩ := Ev (r.trans Ln)
 have j : DataW.trod i pg0 W base sp l n 3 (([b, c1].drop (0 * Tryz.prog.cellsOf 3)).take (Tryz.prog.cellsOf 3)) = some t := m 0 (by decide)
 have h1 : DataW.trod i pg0 W base sp l n 3 (([b, c1].drop (1 * Tryz.prog.cellsOf 3)).take (Tryz.prog.cellsOf 3)) = some u := m 1 (by decide)
 simp only [Gq, List.drop, List.take, Nat.reduceMul] at j h1
 obtain ⟨s, d, p⟩ := Dd _ _ _ _ _ _ _ _ _ j
 obtain ⟨s1, g, q⟩ := Dd _ _ _ _ _ _ _ _ _ h1
 simp only [aZ, dC] at d g
 obtain rfl := d
 obtain rfl := g
 refine ⟨⟨s, s1⟩, rfl, ?_⟩
 simp only [List.map, Rows.uptoBulk, Rows.uptoBulkAll, EI] at p q ⊢
 omega
theorem Qo : Tryz.prog.cellsOf 32 = 1 := by kernel_rfl
theorem JF : Tryz.prog.cellsOf 119 = 2 := by kernel_rfl
def Bv (x : Key) : Nat := x.kz.size + rL (fun _ : Int => 0) x.Key + 1
def SE (x : Key) : Prop := (∀ y ∈ x.Key, 0 ≤ y ∧ y < 256)
theorem Qx : EL pg0 119 (Lp tW SE) Bv := by
 intro H G W base sp I fuel cs x h
 obtain ⟨E, n15, _, t, s, j, l⟩ := dV Tryz.underlying119 h
 obtain ⟨n, p, rfl⟩ := Ev j
 obtain ⟨b, d, rfl⟩ := Ev (s.trans JF)
 have g : DataW.trod _ pg0 W _ _ _ n15 9 (([b, d].drop 0).take (Tryz.prog.cellsOf 9)) = some n := l 0 _ rfl
 have i : DataW.trod _ pg0 W _ _ _ n15 53 (([b, d].drop 1).take (Tryz.prog.cellsOf 53)) = some p := l 1 _ rfl
 simp only [KH, Ej, List.drop, List.take] at g i
 obtain ⟨y, q, v⟩ := FQ _ _ _ _ _ _ _ _ _ g
 simp only [aZ, dC] at q
 obtain rfl := q
 obtain ⟨v17, A, r, m, w⟩ := sM M4 (by decide) Pm Tryz.underlying53 i
 simp only [aZ, dC] at r
 obtain rfl := r
 obtain ⟨m, g17⟩ := Lf.Sl.all m
 have u := bD (fun z => Rows.uptoBulk z.1) t
 refine ⟨⟨y, A⟩, ⟨tW.mk ⟨_, rfl, m⟩, g17⟩, ?_⟩
 simp only [List.map, Rows.uptoBulk, Rows.uptoBulkAll, Bv] at v w u ⊢
 omega
def Gx (x : pU) : Nat := x.js.Name.size + rL ub x.js.jF + rL xD x.js.jP + 1 + x.Client.Name.size + rL ub x.Client.jF + rL xD x.Client.jP + 1 + yK x.Formula + EI x.pL + rL Bv x.Keys + 1
theorem Tk : Tryz.prog.readableRec 34 = true ∧ 34 < Tryz.prog.types.size := ⟨by kernel_rfl, iM (by kernel_rfl)⟩
theorem De (c : jr) : xF c = uK c := by unfold xF uK xk; omega
theorem KQ {α : Type} (sz : α → Nat) (h : ∀ a, 2 ≤ sz a) : ∀ l : List α, 2 * l.length ≤ rL sz l
 | [] => ez _
 | a :: l => by have := KQ sz h l; have := h a; simp only [rL, bJ, ey, aI] at *; omega
theorem AT (y : lD) : ub y = uK y.Signed.jr + rL (fun _ : Int => 0) y.Signed.Tag + 1 + yK y.jx + 1 := rfl
theorem Kf (y : nI) : xD y = xk y.jq + yK y.jx + rL uK y.lj + 1 := rfl
theorem OQ (y : Key) : Bv y = y.kz.size + rL (fun _ : Int => 0) y.Key + 1 := rfl
theorem KX : ∀ l : List jr, xM l ≤ 21 * rL uK l
 | [] => ez _
 | c :: l => by have := KX l; rw [xM, De]; simp only [rL, bJ, ey] at *; omega
theorem KU : ∀ l : List lD, BQ l ≤ 21 * rL ub l
 | [] => ez _
 | x :: l => by
  have := KU l
  have := Cw (fun _ : Int => 0) x.Signed.Tag
  rw [BQ, De]
  have e := AT x
  simp only [rL, bJ, ey] at *; omega
theorem Lz : ∀ l : List nI, AI l ≤ 21 * rL xD l
 | [] => ez _
 | x :: l => by
  have := Lz l
  have := KX x.lj
  rw [AI]
  have e := Kf x
  unfold xk at e
  have b : rL xD (x :: l) = max 1 (xD x) + rL xD l := rfl
  omega
theorem Lt : ∀ l : List Key, CP l ≤ 11 * rL Bv l
 | [] => ez _
 | x :: l => by
  have := Lt l
  have := Cw (fun _ : Int => 0) x.Key
  rw [CP]
  have e := OQ x
  have b : rL Bv (x :: l) = max 1 (Bv x) + rL Bv l := rfl
  omega
theorem Jx (x : kx) (g : x.Name.size ≤ 1048576) (h1 : rL ub x.jF ≤ 1048576) (h : rL xD x.jP ≤ 1048576) : PG x ∧ x.jF.length ≤ 600000 ∧ H5 x ≤ 1000000000 := by
 have c1 := KQ ub (fun y => by rw [AT]; omega) x.jF
 have c2 := Cw xD x.jP
 have g1 : ∀ y ∈ x.jF, uK y.Signed.jr ≤ 1048576 ∧ kw y.jx ≤ 1048576 := fun y b => by
  have := G3 (sz := ub) b
  have e := AT y
  have := BB y.jx
  omega
 have g2 : ∀ y ∈ x.jP, kw y.jx ≤ 1048576 ∧ rL uK y.lj ≤ 1048576 := fun y b => by
  have := G3 (sz := xD) b
  have e := Kf y
  have := BB y.jx
  omega
 refine ⟨{ IL := by omega, Jh := by omega, rel := fun y b => ?_, Ou := fun y b => ?_, TJ := fun y b => ?_, TI := fun y b => ?_, TU := fun y b c d => ?_ }, by omega, ?_⟩
 ·have := (g1 y b).2; omega
 ·have := (g2 y b).1; omega
 ·have := (g2 y b).2; have := Cw uK y.lj; omega
 ·have := (g1 y b).1; rw [De]; omega
 ·have := (g2 y b).2; have := G3 (sz := uK) d; rw [De]; omega
 ·have := KU x.jF; have := Lz x.jP; unfold H5; omega
theorem Qs (p : pU) (h : Gx p ≤ 1048576) : PQ p := by
 unfold Gx at h
 have a := Jx p.js (by omega) (by omega) (by omega)
 have b := Jx p.Client (by omega) (by omega) (by omega)
 have k := Lt p.Keys
 have f := BB p.Formula
 exact { o := a.1, c := b.1, lo := a.2.1, lc := b.2.1, f := by omega, go := a.2.2, gc := b.2.2, fs := by omega, ks := by omega }
theorem own : ownKnob Tryz.prog.godebug = none := by kernel_rfl
theorem OI : laidOutB pg0 = true := by kernel_rfl
theorem Oz : Tryz.prog.globalNamed "internal/strconv.uint64pow10" = some 3 := by kernel_rfl
theorem OP : (Tryz.prog.globals[3]?).map (·.type) = some 331 := by kernel_rfl
theorem QY : Tryz.prog.cellsOf 331 = 20 := by kernel_rfl
theorem RM : Tryz.prog.cellsOf 272 = 1 := by kernel_rfl
theorem I0 {P : Program} {x : String × DataW Unit} {r : List (String × DataW Unit)} {w : World} (h : laidMet P (x :: r) w) : laidMet P r w := by
 obtain ⟨u, ⟨g, t, cs, fuel, p, q, h1, m, n, s, d, rfl⟩, l, j⟩ := h
 exact ⟨q, d, (bY.1 l).2.1, fun b off i => j b off (aU.2 (.inr i))⟩
theorem Ti {W : World} (h : laidMetH pg0 Rows.lintFindsUptoRow.laid W) : BH pg0 (hp W) := by
 have d : laidMet pg0 [("math/bits.deBruijn32tab", Rows.laid_math_bits_deBruijn32tab), ("math/bits.deBruijn64tab", Rows.laid_math_bits_deBruijn64tab), ("internal/strconv.uint64pow10", Go.Lib.tabData .u64 Go.Lib.pow10Tab)] W := h
 have h1 := Go.Lib.tabIs_of_head (rest := []) Oz OP Tryz.underlying331 Tryz.underlying272 RM QY (I0 (I0 d))
 unfold Go.Lib.TabIs World.var? at h1
 rw [Oz] at h1
 simp only [aA] at h1
 cases b : W.heap[3]? with
 | none => rw [b] at h1; cases h1
 | some o =>
  rw [b] at h1
  cases o with
  | cells cs T fr =>
   obtain rfl := fW h1
   exact ⟨3, _, _, Oz, b⟩
  | _ => exact absurd (show (none : Option (Array Value)) = some _ from h1) (fun h => by cases h)
def SD : DataW Unit → Array Value
 | .agg l => (l.map fun x => match x with | .lit (.int k z) => Value.int k z | _ => Value.nilIface).toArray
 | _ => #[]
def Jp (d : DataW Unit) (o : Obj) : Obj := match o with | .cells _ t frozen => .cells (SD d) t frozen | o => o
theorem OB (H : Type) (enc : TypeId × Value → H) (W : World) (base : Nat) (args : Array Value) (ds gs : List (DataW H)) (before : List MemPlace) (ai : ∀ (j : Nat) t v, Tryz.f3.params[j]? = some t → args[j]? = some v → Value.okWide pg0 W .any base t v) (hW : DataW.Whole enc pg0 Tryz.f3.params.toList Rows.lintFindsSpec.vars false W args.toList ds gs before) (hk : Rows.uptoSmall H (ds ++ gs) = true) (hL : laidMetH pg0 Rows.lintFindsUptoRow.laid W) :
  Calls pg0 3 args W fun e W' => ∃ v, e = .returned v ∧ Rows.lintFindsSpec.post enc pg0 Tryz.f3 false true false false W args v W' := by
 have cS := hW
 obtain ⟨p, q, cz, hV, rfl, e4, e5⟩ := hW
 have hA : DataW.TrodAll enc pg0 W 0 (fun _ => true) true Tryz.f3.params.toList args.toList ds p := cz
 have hr : ∀ t ∈ Tryz.f3.params.toList, Tryz.prog.readableRec t = true ∧ t < Tryz.prog.types.size := by
  rw [Tryz.params3]
  intro t ht
  simp only [aQ, cW, eX] at ht
  subst ht
  exact Tk
 rw [Tryz.params3] at hA ai
 obtain ⟨v0, e6, d0, dk, p0, q0, da, rfl, rfl, h0, r0⟩ := trodAll_cons hA
 obtain ⟨rfl, rfl, rfl⟩ := trodAll_nil r0
 obtain rfl : args = #[v0] := by cases args; simp_all
 obtain ⟨rfl, rfl⟩ := trodVars_none hV
 have k0 := ai 0 34 v0 rfl rfl
 obtain ⟨bs, rfl, _⟩ := okWide_struct Tryz.underlying34 k0
 obtain ⟨e0, ca⟩ := h0
 obtain ⟨db, rfl⟩ : ∃ l : List Value, bs = l.toArray := ⟨bs.toList, by simp⟩
 change DataW.trod _ _ _ _ _ _ _ _ db = some _ at ca
 obtain ⟨dh, n18, _, cc, cb, af, L⟩ := dV Tryz.underlying34 ca
 obtain ⟨b5, b6, b7, b9, ba, bc, bd, bf, bh, rfl⟩ := QH af
 obtain ⟨n, b, d, r, g, h, E, G, I, J, i, s, u, w, x, y, A, m, rfl⟩ := SC (cb.trans P0)
 have M : DataW.trod _ pg0 W _ _ _ n18 25 (([n, b, d, r, g, h, E, G, I, J, i, s, u, w, x, y, A, m].drop 0).take (Tryz.prog.cellsOf 25)) = some b5 := L 0 _ rfl
 have O : DataW.trod _ pg0 W _ _ _ n18 25 (([n, b, d, r, g, h, E, G, I, J, i, s, u, w, x, y, A, m].drop 3).take (Tryz.prog.cellsOf 25)) = some b6 := L 1 _ rfl
 have P : DataW.trod _ pg0 W _ _ _ n18 30 (([n, b, d, r, g, h, E, G, I, J, i, s, u, w, x, y, A, m].drop 6).take (Tryz.prog.cellsOf 30)) = some b7 := L 2 _ rfl
 have Q : DataW.trod _ pg0 W _ _ _ n18 3 (([n, b, d, r, g, h, E, G, I, J, i, s, u, w, x, y, A, m].drop 11).take (Tryz.prog.cellsOf 3)) = some b9 := L 3 _ rfl
 have R : DataW.trod _ pg0 W _ _ _ n18 31 (([n, b, d, r, g, h, E, G, I, J, i, s, u, w, x, y, A, m].drop 12).take (Tryz.prog.cellsOf 31)) = some ba := L 4 _ rfl
 have T : DataW.trod _ pg0 W _ _ _ n18 3 (([n, b, d, r, g, h, E, G, I, J, i, s, u, w, x, y, A, m].drop 14).take (Tryz.prog.cellsOf 3)) = some bc := L 5 _ rfl
 have U : DataW.trod _ pg0 W _ _ _ n18 3 (([n, b, d, r, g, h, E, G, I, J, i, s, u, w, x, y, A, m].drop 15).take (Tryz.prog.cellsOf 3)) = some bd := L 6 _ rfl
 have Y : DataW.trod _ pg0 W _ _ _ n18 3 (([n, b, d, r, g, h, E, G, I, J, i, s, u, w, x, y, A, m].drop 16).take (Tryz.prog.cellsOf 3)) = some bf := L 7 _ rfl
 have Z : DataW.trod _ pg0 W _ _ _ n18 32 (([n, b, d, r, g, h, E, G, I, J, i, s, u, w, x, y, A, m].drop 17).take (Tryz.prog.cellsOf 32)) = some bh := L 8 _ rfl
 simp only [Qy, Gq, CC, Ln, Qo, List.drop, List.take] at M O P Q R T U Y Z
 obtain ⟨di, n19, _, cd, de, ag, ad⟩ := dV Tryz.underlying25 M
 obtain ⟨bi, bj, bk, rfl⟩ := O6 ag
 have a1 : DataW.trod _ pg0 W _ _ _ n19 9 (([n, b, d].drop 0).take (Tryz.prog.cellsOf 9)) = some bi := ad 0 _ rfl
 have a6 : DataW.trod _ pg0 W _ _ _ n19 22 (([n, b, d].drop 1).take (Tryz.prog.cellsOf 22)) = some bj := ad 1 _ rfl
 have a7 : DataW.trod _ pg0 W _ _ _ n19 23 (([n, b, d].drop 2).take (Tryz.prog.cellsOf 23)) = some bk := ad 2 _ rfl
 simp only [KL, Lc, Ej, List.drop, List.take] at a1 a6 a7
 obtain ⟨aq, bt, cj⟩ := FQ _ _ _ _ _ _ _ _ _ a1
 simp only [aZ, dC] at bt
 obtain rfl := bt
 obtain ⟨v21, ar, bu, aj, ck⟩ := sM Hz (by decide) Nf Tryz.underlying22 a6
 simp only [aZ, dC] at bu
 obtain rfl := bu
 obtain ⟨aj, g21⟩ := Lf.Sl.all aj
 obtain ⟨v22, au, bw, ak, cm⟩ := sM FV (by decide) Ll Tryz.underlying23 a7
 simp only [aZ, dC] at bw
 obtain rfl := bw
 obtain ⟨ak, g22⟩ := Lf.Sl.all ak
 have ch := bD (fun z => Rows.uptoBulk z.1) cd
 obtain ⟨dj, n23, _, cf, df, ah, ae⟩ := dV Tryz.underlying25 O
 obtain ⟨bl, bp, bq, rfl⟩ := O6 ah
 have a8 : DataW.trod _ pg0 W _ _ _ n23 9 (([r, g, h].drop 0).take (Tryz.prog.cellsOf 9)) = some bl := ae 0 _ rfl
 have aa : DataW.trod _ pg0 W _ _ _ n23 22 (([r, g, h].drop 1).take (Tryz.prog.cellsOf 22)) = some bp := ae 1 _ rfl
 have ab : DataW.trod _ pg0 W _ _ _ n23 23 (([r, g, h].drop 2).take (Tryz.prog.cellsOf 23)) = some bq := ae 2 _ rfl
 simp only [KL, Lc, Ej, List.drop, List.take] at a8 aa ab
 obtain ⟨av, bx, cp⟩ := FQ _ _ _ _ _ _ _ _ _ a8
 simp only [aZ, dC] at bx
 obtain rfl := bx
 obtain ⟨v25, aw, bz, al, cq⟩ := sM Hz (by decide) Nf Tryz.underlying22 aa
 simp only [aZ, dC] at bz
 obtain rfl := bz
 obtain ⟨al, e1⟩ := Lf.Sl.all al
 obtain ⟨v26, ay, c0, an, cr⟩ := sM FV (by decide) Ll Tryz.underlying23 ab
 simp only [aZ, dC] at c0
 obtain rfl := c0
 obtain ⟨an, e2⟩ := Lf.Sl.all an
 have cn := bD (fun z => Rows.uptoBulk z.1) cf
 obtain ⟨az, ao, cs⟩ := Ja _ _ _ _ _ _ _ _ _ P
 obtain ⟨v27, c3, ao⟩ := ao.out
 simp only [aZ, dC] at c3
 obtain ⟨rfl, rfl, rfl, rfl, rfl⟩ := c3
 obtain ⟨aE, c4, ct⟩ := Dd _ _ _ _ _ _ _ _ _ Q
 simp only [aZ, dC] at c4
 obtain rfl := c4
 obtain ⟨b0, c5, cu⟩ := Sz _ _ _ _ _ _ _ _ _ R
 simp only [GW, aZ, dC] at c5
 obtain ⟨rfl, rfl⟩ := c5
 obtain ⟨b1, c6, cv⟩ := Dd _ _ _ _ _ _ _ _ _ T
 simp only [aZ, dC] at c6
 obtain rfl := c6
 obtain ⟨b2, c7, cw⟩ := Dd _ _ _ _ _ _ _ _ _ U
 simp only [aZ, dC] at c7
 obtain rfl := c7
 obtain ⟨b3, c8, cx⟩ := Dd _ _ _ _ _ _ _ _ _ Y
 simp only [aZ, dC] at c8
 obtain rfl := c8
 obtain ⟨v33, b4, c9, ap, cy⟩ := sM JF (by decide) Qx Tryz.underlying32 Z
 simp only [aZ, dC] at c9
 obtain rfl := c9
 obtain ⟨ap, e3⟩ := Lf.Sl.all ap
 have cg := bD (fun z => Rows.uptoBulk z.1) cc
 simp only [List.map, Rows.uptoBulk, Rows.uptoBulkAll] at cj ck cm ch cp cq cr cn cs ct cu cv cw cx cy cg
 have z0 : Gx (⟨⟨aq, ar, au⟩, ⟨av, aw, ay⟩, az, aE, b0, b1, b2, b3, b4⟩ : pU) ≤ Rows.uptoBulk d0 := by simp only [Gx]; omega
 have hB : Rows.uptoBulkAll ([d0] ++ []) ≤ 1048576 := iM hk
 simp only [bA, Rows.uptoBulkAll] at hB
 have hm : uq (⟨⟨aq, ar, au⟩, ⟨av, aw, ay⟩, az, aE, b0, b1, b2, b3, b4⟩ : pU) = some true := Hl PM _ (Qs _ (by omega))
 have hg := E5 (⟨⟨aq, ar, au⟩, ⟨av, aw, ay⟩, az, aE, b0, b1, b2, b3, b4⟩ : pU) b d g h i m true W (Ti hL) aj ak al an ao ap hm
 refine dr hg fun e W' ⟨he, hx⟩ => ?_
 subst he
 exact ⟨_, rfl, LH OI hr rfl cS hx (fun _ _ _ => trodAll_cons_mk (shut_bool Tryz.underlying4 _) trodAll_mk0) rfl rfl (ok_one (by kernel_rfl) rfl (okWide_bool_mk Tryz.underlying4 _))⟩
noncomputable def DR (os : Os) : World :=
 { World.holding pg0 os ⟨#[], #[], []⟩ with heap := (((World.holding pg0 os ⟨#[], #[], []⟩).heap.modify 4 (Jp Rows.laid_math_bits_deBruijn32tab)).modify 5 (Jp Rows.laid_math_bits_deBruijn64tab)).modify 3 (Jp Rows.laid_internal_strconv_uint64pow10) }
theorem OJ (os : Os) : laidMet pg0 Rows.lintFindsUptoRow.laid ((DR os).forCall (fun _ _ => 0) ⟨#[], #[.agg #[.string ⟨#[]⟩, .slice none 0 0, .slice none 0 0, .string ⟨#[]⟩, .slice none 0 0, .slice none 0 0, .int .i64 0, .int .i64 0, .string ⟨#[]⟩, .string ⟨#[]⟩, .slice none 0 0, .int .i64 0, .int .i64 0, .int .i64 0, .int .i64 0, .int .i64 0, .int .i64 0, .slice none 0 0]], []⟩).memory :=
 laidMet_of_run' 8 (by kernel_rfl) (by kernel_rfl)
theorem Sc (os : Os) {H : Type} (enc : TypeId × Value → H) : ∃ places, DataW.whole enc pg0 ((DR os).forCall (fun _ _ => 0) ⟨#[], #[.agg #[.string ⟨#[]⟩, .slice none 0 0, .slice none 0 0, .string ⟨#[]⟩, .slice none 0 0, .slice none 0 0, .int .i64 0, .int .i64 0, .string ⟨#[]⟩, .string ⟨#[]⟩, .slice none 0 0, .int .i64 0, .int .i64 0, .int .i64 0, .int .i64 0, .int .i64 0, .int .i64 0, .slice none 0 0]], []⟩).memory Tryz.f3.params.toList Rows.lintFindsSpec.vars false #[.agg #[.string ⟨#[]⟩, .slice none 0 0, .slice none 0 0, .string ⟨#[]⟩, .slice none 0 0, .slice none 0 0, .int .i64 0, .int .i64 0, .string ⟨#[]⟩, .string ⟨#[]⟩, .slice none 0 0, .int .i64 0, .int .i64 0, .int .i64 0, .int .i64 0, .int .i64 0, .int .i64 0, .slice none 0 0]].toList 8 = some ([.agg [.agg [.lit (.string []), .nil, .nil], .agg [.lit (.string []), .nil, .nil], .agg [.lit (.int .i64 0), .lit (.int .i64 0), .agg [.lit (.string []), .lit (.string [])], .nil], .lit (.int .i64 0), .agg [.lit (.int .i64 0), .lit (.int .i64 0)], .lit (.int .i64 0), .lit (.int .i64 0), .lit (.int .i64 0), .nil]], [], places) :=
 ⟨[], by kernel_rfl⟩
set_option maxRecDepth 100000 in
theorem Rq (os : Os) (started : os.Started) (H : Type) (enc : TypeId × Value → H) (F : Stop.Interp) :
  ReturnsInHanded {} Tryz.checked os 3 .any ((Rows.OpenSpec.upto Rows.lintFindsSpec).preRow enc pg0 Tryz.f3 Rows.lintFindsUptoRow.domain false Rows.lintFindsUptoRow.laid) (((Rows.OpenSpec.upto Rows.lintFindsSpec).at F).post enc pg0 Tryz.f3 false true false false) := by
 obtain ⟨places, i⟩ := Sc os enc
 refine returnsInHanded_of_row (C := Tryz.checked) (s := Rows.OpenSpec.upto Rows.lintFindsSpec) own started (by kernel_rfl) Tryz.func3
  (witness_row_at (enc := enc) (C := Tryz.checked) false (DR os) #[.agg #[.string ⟨#[]⟩, .slice none 0 0, .slice none 0 0, .string ⟨#[]⟩, .slice none 0 0, .slice none 0 0, .int .i64 0, .int .i64 0, .string ⟨#[]⟩, .string ⟨#[]⟩, .slice none 0 0, .int .i64 0, .int .i64 0, .int .i64 0, .int .i64 0, .int .i64 0, .int .i64 0, .slice none 0 0]] rfl (by kernel_rfl) (by kernel_rfl) (by kernel_rfl)
   (OpenSpec.preRow_of_cond 8 i (by kernel_rfl) (fun k hk => by cases hk; kernel_rfl) (by kernel_rfl) (OJ os))) ?_
 intro W base args ds gs before d h _ b _ g _ _
 exact OB H enc W base args ds gs before d h (b _ rfl) g
theorem Sv {a b : Bool} (ha : a = true) (d : b = true) : (a && b) = true := by rw [ha, d]; rfl
set_option maxHeartbeats 40000000 in
theorem PA : joinedFacts Tryz.checked.prog 3 Tryz.f3 (Rows.OpenSpec.upto Rows.lintFindsSpec).bare Rows.lintFindsUptoRow = true := by
 unfold joinedFacts
 repeat' with_reducible refine Sv ?_ ?_
 all_goals as_aux_lemma => kernel_rfl
theorem Tl : Rows.LintFindsUptoSaid :=
 OpenClaim.holds_of_cond 3 Tryz.f3 rfl rfl rfl rfl rfl rfl rfl ⟨rfl, rfl, rfl, rfl, rfl⟩ rfl rfl rfl rfl rfl (by kernel_rfl) Tryz.func3 PA
  (iM (by kernel_rfl)) (by unfold Func.isWrapper; first | (rw [bB (by decide +kernel)]; kernel_rfl) | (rw [bo (by decide +kernel)]; exact ⟨rfl, rfl⟩))
  (fun os started H enc _ F => by rw [OpenClaim.pre_eq_preRow]; exact Rq os started H enc F)
theorem Q0 (f : FuncId) (fn : Func) (h : Tryz.pinned.checked.prog.funcNamed "entente/ententelaw31.LintFinds" = some f) (d : Tryz.pinned.checked.prog.funcs[f]? = some fn) :
  true = Tryz.pinned.checked.prog.looks [] ∧ ∀ (j : Nat) t, fn.params[j]? = some t → Tryz.pinned.checked.prog.wantsStandIn t = false := by
 obtain rfl : f = 3 := fW ((show Tryz.prog.funcNamed "entente/ententelaw31.LintFinds" = some 3 by kernel_rfl).symm.trans h) |>.symm
 obtain rfl : fn = Tryz.f3 := (fW (Tryz.func3.symm.trans d)).symm
 refine ⟨by kernel_rfl, fun j t g => ?_⟩
 rw [Tryz.params3] at g
 have hm : t ∈ [34] := by simpa using Array.mem_of_getElem? g
 have b : ([34].all fun u => !Tryz.prog.wantsStandIn u) = true := by kernel_rfl
 exact (show Tryz.prog.wantsStandIn t = false by simpa using ev.1 b t hm)
theorem TM : Rows.lintFindsUptoRow.wfByText (Rows.OpenSpec.upto Rows.lintFindsSpec) = true := by kernel_rfl
theorem TP : Tryz.pinned.checked.prog.mainIs = some (Rows.lintFindsUptoCard.stood.harness.1, Rows.lintFindsUptoCard.stood.harness.2.toList) := by kernel_rfl
theorem TH : false = Rows.lintFindsUptoRow.goesBy Tryz.pinned.checked.prog := by kernel_rfl
theorem proved : Rows.LintFindsUptoCardSaid :=
 Claim7.holds_tied_plain_at .later [] _ _ _ _ Tl (fun _ h => by cases h) TM (fun _ h => by cases h) lintFindsUpto_row_tie rfl ⟨rfl, rfl⟩ TP rfl Q0 TH
end Go.Proofs.YtjjjihkifgdhgaaGreatDoor
