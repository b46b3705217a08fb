/- a part of a proof of LeastNeeds -/
import Derived.Test.YtklbhegeiijbjaaGreatHkm
import Derived.Test.YtklbhegeiijbjaaGreatRtUm
import Derived.Test.YtklbhegeiijbjaaGreatRows
import Derived.WalkKit
import Derived.ProofKit
import Derived.OpenShut
import Derived.JoinedCond
import Derived.Deep.Slices
import Derived.Carry
import Derived.ChangeArms
import Derived.ChangeSame
import Derived.Test.YtklbhegeiijbjaaGreatN3W3m
set_option linter.all false
namespace Go.Proofs.YtklbhegeiijbjaaGreat
open Go.RowKit
theorem Sx : ∀ (n : Nat) (f : Formula), oW f ≤ n → Gd f → sr n f = some (lZ f : Int) := by
 intro n
 induction n with
 | zero => intro f h; rw [nQ] at h; omega
 | succ n ih =>
  intro f d g
  rw [nQ] at d
  have a := pe f
  unfold Gd at g
  rw [sr]
  unfold xI
  have key : ∀ (ks : List Formula) (x : Nat), (∀ k ∈ ks, k ∈ f.Kids) → x + nodesL ks ≤ 50000000 → sW (sr n) ks (x : Int) = some ((x + nodesL ks : Nat) : Int) := by
   intro ks
   induction ks with
   | nil => intro x _ _; rw [sW, nodesL]; rfl
   | cons k ks b =>
    intro x hk i
    rw [nodesL] at i
    rw [sW, ih k (by have := rV (hk k (by simp)); omega) (by have := uB (hk k (by simp)); unfold Gd; omega), aA]
    have w : IntKind.i64.wrap ((x : Int) + (lZ k : Int)) = ((x + lZ k : Nat) : Int) := by rw [mg (by omega) (by omega)]; omega
    rw [w, b _ (fun z j => hk z (by simp [j])) (by omega), nodesL]
    congr 2; omega
  have := key f.Kids 1 (fun k hk => hk) (by omega)
  rw [a]
  exact this
theorem Ty : ∀ (n : Nat) (f : Formula), oW f ≤ n → Gd f → tE n f = some (oW f : Int) := by
 intro n
 induction n with
 | zero => intro f h; rw [nQ] at h; omega
 | succ n ih =>
  intro f d g
  rw [nQ] at d ⊢
  have i := pe f
  have hle := xf f
  rw [nQ] at hle
  unfold Gd at g
  rw [tE]
  unfold yx
  have key : ∀ (ks : List Formula) (x : Nat), (∀ k ∈ ks, k ∈ f.Kids) → max x (deepL ks) ≤ 50000000 → tM (tE n) ks (x : Int) = some ((max x (deepL ks) + 1 : Nat) : Int) := by
   intro ks
   induction ks with
   | nil =>
    intro x _ a
    rw [deepL] at a
    rw [tM, deepL, mg (by omega) (by omega)]
    congr 1; omega
   | cons k ks b =>
    intro x hk a
    rw [deepL] at a
    rw [tM, ih k (by have := rV (hk k (by simp)); omega) (by have := uB (hk k (by simp)); unfold Gd; omega), aA]
    have w : (if (oW k : Int) > (x : Int) then (oW k : Int) else (x : Int)) = ((max x (oW k) : Nat) : Int) := by split <;> omega
    rw [w, b _ (fun z j => hk z (by simp [j])) (by omega), deepL]
    congr 2; omega
  have := key f.Kids 0 (fun k hk => hk) (by omega)
  rw [Nat.zero_max] at this
  exact this
theorem SN : ∀ (n : Nat) (f : Formula), oW f ≤ n → tL n f = some (ux f) := by
 intro n
 induction n with
 | zero => intro f h; rw [nQ] at h; omega
 | succ n ih =>
  intro f h
  rw [nQ] at h
  have key : ∀ ks : List Formula, (∀ k ∈ ks, k ∈ f.Kids) → tU (tL n) ks = some (wellL ks) := by
   intro ks
   induction ks with
   | nil => intro _; rw [tU, wellL]
   | cons k ks p =>
    intro hk
    rw [tU, ih k (by have := rV (hk k (by simp)); omega), aA, p (fun z r => hk z (by simp [r])), wellL]
    cases ux k <;> rfl
  have hk := key f.Kids (fun k hk => hk)
  rw [tL]
  unfold yu
  rw [hk, GH, B3]
  unfold D6
  simp only [aA]
  by_cases c1 : f.Op = 1
  ·simp only [c1, bA, aN]
   cases s : nv f.kD
   ·simp
   ·by_cases b : f.Kids.length = 0
    ·have e : f.Kids = [] := aU b
     by_cases m : f.K = 0 <;> simp [e, m, wellL]
    ·have : ((f.Kids.length : Int) == 0) = false := by rw [beq_eq_false_iff_ne]; omega
     simp [this, b]
  ·have q : (f.Op == 1) = false := by simpa using c1
   simp only [q, aB, aG, c1]
   by_cases i : f.Op = 2 ∨ f.Op = 3
   ·have j : ¬ f.Op < 1 := by omega
    have a2 : ¬ f.Op > 4 := by omega
    have a3 : f.Op < 4 := by omega
    have a4 : (f.Op == 4) = false := by rw [beq_eq_false_iff_ne]; omega
    simp only [j, a2, a3, a4, i, cC, bZ, aB, aG, aN, aA]
    cases g : lx f.kD ⟨zS, zS⟩
    ·simp [qT, g]
    ·by_cases b : f.Kids.length ≤ 8
     ·have d : ¬ ((f.Kids.length : Int) > 8) := by omega
      by_cases m : f.K = 0 <;> simp [qT, g, b, d, m]
     ·have d : ((f.Kids.length : Int) > 8) := by omega
      simp [qT, g, b, d]
   ·by_cases l : f.Op = 4
    ·have j : ¬ f.Op < 1 := by omega
     have a2 : ¬ f.Op > 4 := by omega
     have a3 : ¬ f.Op < 4 := by omega
     simp only [j, a2, a3, i, cC, aB, aG, aA]
     simp only [l, bA, aN, bZ, eO]
     cases g : lx f.kD ⟨zS, zS⟩
     ·simp [qT, g]
     ·by_cases b : f.Kids.length ≤ 8
      ·have d : ¬ ((f.Kids.length : Int) > 8) := by omega
       by_cases d1 : 1 ≤ f.Kids.length
       ·have g1 : ¬ ((f.Kids.length : Int) < 1) := by omega
        by_cases d2 : 0 ≤ f.K
        ·have g2 : ¬ f.K < 0 := by omega
         by_cases d3 : f.K ≤ (f.Kids.length : Int)
         ·have g3 : ¬ f.K > (f.Kids.length : Int) := by omega
          simp [qT, g, b, d, d1, g1, d2, g2, d3, g3]
         ·have g3 : f.K > (f.Kids.length : Int) := by omega
          simp [qT, g, b, d, d1, g1, d2, g2, d3, g3]
        ·have g2 : f.K < 0 := by omega
         simp [qT, g, b, d, d1, g1, d2, g2]
       ·have g1 : ((f.Kids.length : Int) < 1) := by omega
        simp [qT, g, b, d, d1, g1]
      ·have d : ((f.Kids.length : Int) > 8) := by omega
       simp [qT, g, b, d]
    ·have a : f.Op < 1 ∨ f.Op > 4 := by omega
     rcases a with a | a
     ·simp [a, i, l]
     ·have : ¬ f.Op < 1 := by omega
      simp [a, this, i, l]
theorem HO (f : Formula) (h : Gd f) : ru f = some (oO f) := by
 have b := xf f
 have a := h
 unfold Gd at a
 unfold ru oO
 rw [Sx lF f (by rw [nt]; omega) h, Ty lF f (by rw [nt]; omega) h, SN lF f (by rw [nt]; omega)]
 simp only [aA]
 by_cases c1 : lZ f ≤ 64
 ·have d1 : ((lZ f : Int) ≤ 64) := by omega
  by_cases c2 : oW f ≤ 6
  ·have d2 : ((oW f : Int) ≤ 6) := by omega
   simp [c1, c2, d1, d2]
  ·have d2 : ¬ ((oW f : Int) ≤ 6) := by omega
   simp [c1, c2, d1, d2]
 ·have d1 : ¬ ((lZ f : Int) ≤ 64) := by omega
  simp [c1, d1]
end Go.Proofs.YtklbhegeiijbjaaGreat
namespace Go.Proofs.YtklbhegeiijbjaaGreat
open Go.RowKit
theorem N7 {f : Formula} (hw : ux f = true) (a : lZ f ≤ 200) : (zO f).length ≤ 40 * lZ f := (NI (oW f) f (aZ _) hw [] (by simp; omega)).2
theorem RL : ∀ (n : Nat) (f : Formula), oW f ≤ n → ux f = true → lZ f ≤ 64 → qu n f = some (xk (zO f)) := by
 intro n
 induction n with
 | zero => intro f h; rw [nQ] at h; omega
 | succ n ih =>
  intro f s hw x
  rw [nQ] at s
  have u := pe f
  obtain ⟨h1, m, g⟩ := yA hw
  have b : 0 ≤ f.Op ∧ f.Op < 128 := by rcases g with h | h | h <;> omega
  have hlen : 0 ≤ (f.Kids.length : Int) ∧ (f.Kids.length : Int) < 128 := by omega
  have key : ∀ (ks : List Formula) (l : List Int), (∀ k ∈ ks, k ∈ f.Kids) → wellL ks = true → l.length + 40 * nodesL ks ≤ 8000 → nodesL ks ≤ 64 → tf (qu n) ks (xk l) = some (xk (l ++ bytesFL ks)) := by
   intro ks
   induction ks with
   | nil => intro l _ _ _ _; rw [tf, bytesFL, bG]
   | cons k ks j =>
    intro l hk a t i
    rw [wellL, bJ] at a
    rw [nodesL] at t i
    have w := N7 a.1 (by omega)
    rw [tf, ih k (by have := rV (hk k (by simp)); omega) a.1 (by omega), aA, sP _ _ (by omega), aA,
     j _ (fun z v => hk z (by simp [v])) a.2 (by simp; omega) (by omega), bytesFL, aM]
  rw [qu]
  unfold xE
  rw [zq b.1 b.2, aA, IC]
  by_cases c1 : f.Op = 1
  ·have p : nv f.kD = true := by rcases g with h | h | h; exact h.2.1; omega; omega
   have := pG p
   simp only [c1, bA, aN]
   rw [BJ p, aA, sP _ _ (by simp; omega)]
   rfl
  ·have q : (f.Op == 1) = false := by simpa using c1
   simp only [q, aB, aG, c1]
   by_cases d : f.Op = 4
   ·have hk : 0 ≤ f.K ∧ f.K < 128 := by rcases g with h | h | h <;> omega
    simp only [d, bA, aN]
    rw [zq hk.1 hk.2, aA, sP _ _ (by simp), aA, aA, zq hlen.1 hlen.2, aA, sP _ _ (by simp), aA,
     key f.Kids _ (fun k hk => hk) m (by simp; omega) (by omega)]
    simp
   ·have r : (f.Op == 4) = false := by simpa using d
    simp only [r, aB, aG, d, aA]
    rw [zq hlen.1 hlen.2, aA, sP _ _ (by simp), aA, key f.Kids _ (fun k hk => hk) m (by simp; omega) (by omega)]
    simp
theorem TA (f : Formula) (h : Gd f) : ((ru f).bind fun r => if r then (qu lF f).bind fun a => some a else some zS) = some (xk (zp f)) := by
 rw [HO f h, aA]
 unfold zp
 cases d : oO f
 ·rfl
 ·obtain ⟨h1, g, b⟩ := Au d
  simp only [aN]
  rw [RL lF f (by rw [nt]; omega) b h1, pW]
theorem JF (f g : Formula) (i : Gd f) (j : Gd g) : ∃ c : Int, xl f g = some c ∧ (c > 0 ↔ oF Cg g f = true) := by
 unfold xl
 rw [TA f i, aA, TA g j, aA, zl, vK, vK, BI]
 rcases BU (vg (zp f)) (vg (zp g)) with h | h | h
 ·rw [aX h]
  refine ⟨-1, rfl, iff_of_false (by omega) (fun a => ?_)⟩
  have := zc _ _ _ h a
  rw [wq] at this; cases this
 ·have e : mx (xk (zp f)) (xk (zp g)) = true := np.2 (AR (by rw [vK, vK, h]))
  rw [h, wq, e]
  exact ⟨0, rfl, iff_of_false (by omega) (by simp)⟩
 ·have e : Op.bytesLess (vg (zp f)) (vg (zp g)) = false := by
   rw [← fW]
   intro a
   have := zc _ _ _ h a
   rw [wq] at this; cases this
  have d : mx (xk (zp f)) (xk (zp g)) = false := by
   rw [← fW, np]
   intro a
   have b := bL (fun s : ByteArray => s.data.toList) a
   simp only [vK] at b
   rw [b, wq] at h; cases h
  rw [e, d]
  exact ⟨1, rfl, iff_of_true (by omega) h⟩
theorem SV : ∀ (n : Nat) (f : Formula), oW f ≤ n → ∀ g, ∃ b, ql n f g = some b ∧ (b = true ↔ f = g) := by
 intro n
 induction n with
 | zero => intro f h; rw [nQ] at h; omega
 | succ n ih =>
  intro f h g
  rw [nQ] at h
  have key : ∀ (l m A : List Formula), (∀ x ∈ l, x ∈ f.Kids) → g.Kids = A ++ m → l.length = m.length → ∃ b, tS g (ql n) l A.length = some b ∧ (b = true ↔ l = m) := by
   intro l
   induction l with
   | nil =>
    intro m A _ _ a
    obtain rfl := aU a.symm
    exact ⟨true, by rw [tS], by simp⟩
   | cons x l r =>
    intro m A q t a
    match m, a with
    | y :: m, a =>
     obtain ⟨b, e, p⟩ := ih x (by have := rV (q x (by simp)); omega) y
     rw [tS, t, nL A y m _ rfl, aA, e, aA]
     cases b with
     | false =>
      refine ⟨false, rfl, ?_⟩
      have : x ≠ y := fun i => by have := p.2 i; simp at this
      simp [this]
     | true =>
      have i := p.1 rfl
      obtain ⟨b, s, d⟩ := r m (A ++ [y]) (fun z u => q z (by simp [u])) (by rw [t]; simp) (by simpa using a)
      rw [aF, List.length_singleton] at s
      simp only [bU, aB, aG]
      rw [s]
      exact ⟨b, rfl, by rw [d]; simp [i]⟩
  rw [ql]
  unfold yv
  by_cases h1 : f.Op = g.Op
  ·by_cases d : f.K = g.K
   ·by_cases j : f.kD = g.kD
    ·have k : lx f.kD g.kD = true := lz.2 j
     by_cases a : f.Kids.length = g.Kids.length
     ·obtain ⟨b, e, p⟩ := key f.Kids g.Kids [] (fun x q => q) rfl a
      rw [bV] at e
      refine ⟨b, ?_, p.trans ⟨fun hk => Formula.ext' h1 d j hk, fun hk => by rw [hk]⟩⟩
      simp [h1, d, k, a, e]
     ·refine ⟨false, ?_, by simp; intro hk; rw [hk] at a; exact a rfl⟩
      have : ((f.Kids.length : Int) != (g.Kids.length : Int)) = true := by simp; omega
      simp [h1, d, k, this]
    ·have k : lx f.kD g.kD = false := by rw [← fW, lz]; exact j
     exact ⟨false, by simp [h1, d, k], by simp; intro hk; rw [hk] at j; exact j rfl⟩
   ·exact ⟨false, by simp [h1, d], by simp; intro hk; rw [hk] at d; exact d rfl⟩
  ·exact ⟨false, by simp [h1], by simp; intro hk; rw [hk] at h1; exact h1 rfl⟩
theorem Gp (a b : Formula) (h : Gd a) : ql lF a b = some (rr a b) := by
 have := xf a
 unfold Gd at h
 obtain ⟨x, e, d⟩ := SV lF a (by rw [nt]; omega) b
 rw [e]; congr 1
 rw [bT, d, Am]
end Go.Proofs.YtklbhegeiijbjaaGreat
namespace Go.Proofs.YtklbhegeiijbjaaGreat
open Go.RowKit
section
variable {α : Type} {lt : α → α → Bool}
def Mj (lt : α → α → Bool) (l : List α) : Prop := l.Pairwise fun x y => lt y x = false
theorem EM (h : SWO lt) (k : α) : ∀ {l : List α}, Mj lt l → ∃ A B, l = A ++ B ∧ (∀ x ∈ A, lt k x = false) ∧ (∀ x ∈ B, lt k x = true)
 | [], _ => ⟨[], [], rfl, by simp, by simp⟩
 | x :: l, i => by
  obtain ⟨h1, b⟩ := cN.1 i
  cases e : lt k x with
  | true =>
   refine ⟨[], x :: l, rfl, by simp, fun y a => ?_⟩
   rcases aQ.1 a with rfl | a
   ·exact e
   ·rcases h.NE _ y _ e with q | q
    ·exact q
    ·rw [h1 y a] at q; cases q
  | false =>
   obtain ⟨A, B, rfl, d, g⟩ := EM h k b
   exact ⟨x :: A, B, rfl, fun y a => by
    rcases aQ.1 a with rfl | a
    ·exact e
    ·exact d y a, g⟩
theorem HG {k : α} {A B : List α} (b : ∀ x ∈ A, lt k x = false) (d : ∀ x ∈ B, lt k x = true) : Cd lt (A ++ B) k = A ++ k :: B := by
 unfold Cd
 rw [jO, jO]
 rw [iP.2 (fun x a => by rw [b x a]; rfl), List.filter_eq_nil_iff.2 (fun x a => by rw [d x a]; simp), List.filter_eq_nil_iff.2 (fun x a => by rw [b x a]; simp), iP.2 (fun x a => d x a)]
 simp
theorem L5 (h : SWO lt) {k : α} {A B : List α} (g : Mj lt (A ++ B)) (i : ∀ x ∈ A, lt k x = false) (j : ∀ x ∈ B, lt k x = true) : Mj lt (A ++ k :: B) := by
 unfold Mj at *
 rw [cY] at *
 refine ⟨g.1, cN.2 ⟨fun x l => h.asym (j x l), g.2.1⟩, fun a ha b d => ?_⟩
 rcases aQ.1 d with rfl | d
 ·exact i a ha
 ·exact g.2.2 a ha b d
variable {eq : α → α → Bool}
theorem IM (he : ∀ x y, eq x y = true ↔ x = y) (k : α) : ∀ (l : List α) (p : α), oa eq p (l ++ [k]) = if eq k ((l.getLast?).getD p) then oa eq p l else oa eq p l ++ [k]
 | [], p => by
  rw [bD, oa, oa]
  rfl
 | y :: l, p => by
  have e : ((y :: l).getLast?).getD p = (l.getLast?).getD y := by cases l <;> rfl
  rw [bY, oa, oa, IM he k l y, e]
  by_cases h1 : eq y p = true
  ·rw [aX h1, aX h1]
  ·rw [bB h1, bB h1]
   split <;> rfl
def AB (eq : α → α → Bool) (l : List α) (k : α) : Bool := match l.getLast? with | some y => eq y k | none => false
theorem Of (x : α) (l : List α) : (x :: l).getLast? = some ((l.getLast?).getD x) := by cases l <;> rfl
theorem Qv (he : ∀ x y, eq x y = true ↔ x = y) (k : α) (l : List α) : dd eq (l ++ [k]) = if AB eq l k then dd eq l else dd eq l ++ [k] := by
 cases l with
 | nil => rfl
 | cons x l =>
  have a : dd eq ((x :: l) ++ [k]) = x :: oa eq x (l ++ [k]) := rfl
  have b : dd eq (x :: l) = x :: oa eq x l := rfl
  unfold AB
  rw [a, b, IM he, Of]
  simp only
  by_cases h : (l.getLast?).getD x = k
  ·rw [h, aX ((he k k).2 rfl), aX ((he k k).2 rfl)]
  ·rw [bB (fun q => h ((he _ _).1 q).symm), bB (fun q => h ((he _ _).1 q))]; rfl
theorem Kz (he : ∀ x y, eq x y = true ↔ x = y) (y : α) (B : List α) : ∀ (l : List α) (p : α), y ≠ (l.getLast?).getD p → oa eq p (l ++ y :: B) = oa eq p l ++ y :: oa eq y B
 | [], p, h => by
  have h : y ≠ p := h
  rw [bD]
  have e : oa eq p (y :: B) = if eq y p then oa eq y B else y :: oa eq y B := rfl
  rw [e, bB (fun q => h ((he _ _).1 q))]; rfl
 | z :: l, p, h => by
  have e : ((z :: l).getLast?).getD p = (l.getLast?).getD z := by cases l <;> rfl
  rw [e] at h
  rw [bY, oa, oa, Kz he y B l z h]
  split <;> rfl
theorem Oi (he : ∀ x y, eq x y = true ↔ x = y) (A : List α) : ∀ B : List α, (∀ y, B.head? = some y → A.getLast? ≠ some y) → dd eq (A ++ B) = dd eq A ++ dd eq B
 | [], _ => by rw [bG]; show _ = dd eq A ++ []; rw [bG]
 | y :: B, h => by
  have h := h y rfl
  cases A with
  | nil => rfl
  | cons x A =>
   have e : (x :: A).getLast? = some ((A.getLast?).getD x) := by cases A <;> rfl
   rw [e] at h
   rw [bY, dd, dd, dd, Kz he y B A x (fun q => h (by rw [q]))]; rfl
theorem IV (he : ∀ x y, eq x y = true ↔ x = y) : ∀ (l : List α) (p : α), ((oa eq p l).getLast?).getD p = (l.getLast?).getD p
 | [], p => by rw [oa]
 | y :: l, p => by
  have e : ((y :: l).getLast?).getD p = (l.getLast?).getD y := by cases l <;> rfl
  rw [oa, e, ← IV he l y]
  by_cases h : eq y p = true
  ·rw [aX h, (he _ _).1 h]
  ·rw [bB h]
   cases oa eq y l <;> rfl
theorem Q2 (he : ∀ x y, eq x y = true ↔ x = y) (l : List α) : (dd eq l).getLast? = l.getLast? := by
 cases l with
 | nil => rfl
 | cons x l =>
  have e : ∀ m : List α, (x :: m).getLast? = some ((m.getLast?).getD x) := by intro m; cases m <;> rfl
  rw [dd, e, e, IV he]
theorem R4 (h : SWO lt) (he : ∀ x y, eq x y = true ↔ x = y) {k : α} {A B : List α} (g : ∀ x ∈ A, lt k x = false) (d : ∀ x ∈ B, lt k x = true) :
  dd eq (A ++ B) = dd eq A ++ dd eq B ∧ dd eq (A ++ k :: B) = (if AB eq A k then dd eq A else dd eq A ++ [k]) ++ dd eq B := by
 have h1 : ∀ y, B.head? = some y → A.getLast? ≠ some y := fun y b a => by
  have := d y (List.mem_of_mem_head? b)
  rw [g y (List.mem_of_getLast? a)] at this; cases this
 refine ⟨Oi he A B h1, ?_⟩
 have e : A ++ k :: B = (A ++ [k]) ++ B := by simp
 rw [e, Oi he (A ++ [k]) B, Qv he]
 intro y b a
 rw [List.getLast?_append] at a
 simp only [List.getLast?_singleton, Option.some_or, iA] at a
 have := d y (List.mem_of_mem_head? b)
 rw [a, h.PZ] at this; cases this
end
end Go.Proofs.YtklbhegeiijbjaaGreat
namespace Go.Proofs.YtklbhegeiijbjaaGreat
open Go.RowKit
theorem G8 (l : List Formula) (k : Formula) (g : ∀ x ∈ l, Gd x) (hk : Gd k) (A : List Formula) (j : ∀ x ∈ A, oF Cg k x = false) : ∀ (m : Nat) (B C : List Formula), B.length = m → l = A ++ B ++ C → (∀ x ∈ B, oF Cg k x = true) → l.length ≤ 1000000 → ∀ n, m < n →
  qM l k n ((A.length + B.length : Nat) : Int) = some (A.length : Int)
 | 0, B, C, hm, a, d, hlen, n + 1, r => by
  obtain rfl := aU hm
  rw [qM]
  simp only [bV, jh]
  rcases dI A with rfl | ⟨A', y, rfl⟩
  ·rfl
  ·rw [eH] at *
   have hp : ((A' ++ [y]).length : Int) > 0 := by simp
   simp only [hp, bZ, aN]
   have hw : IntKind.i64.wrap (((A' ++ [y]).length : Int) - 1) = (A'.length : Int) := by
    simp at hlen a ⊢
    rw [a] at hlen
    simp at hlen
    rw [mg (by omega) (by omega)]
   rw [hw, show mP l (A'.length : Int) = some y from by rw [a]; simp only [bG, aM]; exact nL A' y C _ rfl, aA]
   have i : y ∈ l := by rw [a]; simp
   obtain ⟨c, e, h⟩ := JF y k (g y i) hk
   have b : ¬ c > 0 := fun q => by have := h.1 q; rw [j y (by simp)] at this; cases this
   rw [e, aA]
   simp [b]
 | m + 1, B, C, hm, a, d, hlen, n + 1, r => by
  rcases dI B with rfl | ⟨B', y, rfl⟩
  ·simp at hm
  ·rw [eH] at *
   rw [qM]
   have hp : ((A.length + (B' ++ [y]).length : Nat) : Int) > 0 := by simp; omega
   simp only [hp, bZ, aN]
   have hw : IntKind.i64.wrap (((A.length + (B' ++ [y]).length : Nat) : Int) - 1) = ((A.length + B'.length : Nat) : Int) := by
    rw [a] at hlen
    simp at hlen
    rw [mg (by simp; omega) (by simp; omega)]; simp; omega
   have p : mP l ((A.length + B'.length : Nat) : Int) = some y := by
    rw [a]
    have e : A ++ (B' ++ [y]) ++ C = (A ++ B') ++ y :: C := by simp
    rw [e]
    exact nL (A ++ B') y C _ (by simp)
   rw [hw, p, aA]
   have i : y ∈ l := by rw [a]; simp
   obtain ⟨c, e, h⟩ := JF y k (g y i) hk
   have b : c > 0 := h.2 (d y (by simp))
   rw [e, aA]
   simp only [b, bZ, aA, aN]
   exact G8 l k g hk A j m B' (y :: C) (by simp at hm; omega) (by rw [a]; simp) (fun x s => d x (by simp [s])) hlen n (by omega)
theorem T6 {b : Bool} (h : b = true) : rh b = some () := by rw [h]; rfl
theorem FZ (a : Bool) (k : Formula) (ks A B : List Formula) (j : ∀ x ∈ A ++ B, Gd x) (hk : Gd k) (l : ∀ x ∈ A, oF Cg k x = false) (m : ∀ x ∈ B, oF Cg k x = true) (hlen : (A ++ B).length ≤ 1000000) :
  nK a (k :: ks) (A ++ B) = if a && AB rr A k then nK a ks (A ++ B) else nK a ks (A ++ k :: B) := by
 have i := G8 (A ++ B) k j hk A l B.length B [] rfl (by simp) m hlen lF (by rw [nt]; simp at hlen; omega)
 have b : A.length + B.length ≤ 1000000 := by simpa using hlen
 rw [nK, aF, i, aA]
 have rest : ((rh (decide ((0 : Int) ≤ (A.length : Int)) && decide ((A.length : Int) ≤ ((A ++ B).length : Int)))).bind fun _ => (nG 72 ([]) ((A ++ B).take (Int.toNat (A.length : Int)))).bind fun d => (nG 72 d ([k])).bind fun g => (rh (decide ((0 : Int) ≤ (A.length : Int)) && decide ((A.length : Int) ≤ ((A ++ B).length : Int)))).bind fun _ => (nG 72 g ((A ++ B).drop (Int.toNat (A.length : Int)))).bind fun h => nK a ks h) = nK a ks (A ++ k :: B) := by
  rw [T6 (by simp; omega), aA, dO, jj, List.drop_left, nS (by simp; omega) (by simp; omega), aA, nS (by simp; omega) (by simp; omega), aA, aA, nS (by simp; omega) (by simp; omega), aA]
  simp
 rw [aF] at rest
 cases a with
 | false => exact rest
 | true =>
  simp only [aN, aA, eO]
  rcases dI A with rfl | ⟨A', y, rfl⟩
  ·exact rest
  ·rw [eH] at *
   have hp : ((A' ++ [y]).length : Int) > 0 := by simp
   simp only [hp, bZ, aN]
   have hw : IntKind.i64.wrap (((A' ++ [y]).length : Int) - 1) = (A'.length : Int) := by
    simp at b ⊢
    rw [mg (by omega) (by omega)]
   have p : mP ((A' ++ [y]) ++ B) (A'.length : Int) = some y := by
    simp only [aM, bY, bD]
    exact nL A' y B _ rfl
   rw [hw, p, aA, Gp y k (j y (by simp)), aA, aA]
   have n : AB rr (A' ++ [y]) k = rr y k := by unfold AB; rw [List.getLast?_append]; rfl
   rw [n]
   cases rr y k
   ·simp only [aB, aG]; exact rest
   ·rfl
theorem HC {x : Formula} {l : List Formula} (h : x ∈ dd rr l) : x ∈ l := (J7 (fun _ _ => Am) l x).1 h
theorem Gj : ∀ (ks S : List Formula), Mj (oF Cg) S → (∀ x ∈ S, Gd x) → (∀ x ∈ ks, Gd x) → S.length + ks.length ≤ 1000000 → nK true ks (dd rr S) = some (dd rr (ks.foldl (Cd (oF Cg)) S))
 | [], S, _, _, _, _ => by rw [nK]; rfl
 | k :: ks, S, j, g, hk, m => by
  rw [aJ] at m
  obtain ⟨A, B, rfl, b, d⟩ := EM IA k j
  obtain ⟨n, p⟩ := R4 (eq := rr) IA (fun _ _ => Am) b d
  have i := KI rr (A ++ B)
  rw [n] at i ⊢
  rw [FZ true k ks (dd rr A) (dd rr B) (fun x a => by
   rcases aW.1 a with h | h
   ·exact g x (by simp [HC h])
   ·exact g x (by simp [HC h])) (hk k (by simp)) (fun x a => b x (HC a)) (fun x a => d x (HC a)) (by omega), iV, HG b d]
  have q : AB rr (dd rr A) k = AB rr A k := by unfold AB; rw [Q2 (eq := rr) (fun _ _ => Am)]
  rw [q, eO]
  have ih := Gj ks (A ++ k :: B) (L5 IA j b d) (fun x a => by
   rcases aW.1 a with h | h
   ·exact g x (by simp [h])
   ·rcases aQ.1 h with rfl | h
    ·exact hk _ (by simp)
    ·exact g x (by simp [h])) (fun x a => hk x (by simp [a])) (by simp at m ⊢; omega)
  rw [p] at ih
  cases l : AB rr A k
  ·rw [l] at ih
   simp only [aB, aG] at ih ⊢
   rw [← ih]; simp
  ·rw [l] at ih
   simp only [aN] at ih ⊢
   exact ih
theorem Ht : ∀ (ks S : List Formula), Mj (oF Cg) S → (∀ x ∈ S, Gd x) → (∀ x ∈ ks, Gd x) → S.length + ks.length ≤ 1000000 → nK false ks S = some (ks.foldl (Cd (oF Cg)) S)
 | [], S, _, _, _, _ => by rw [nK]; rfl
 | k :: ks, S, i, d, hk, j => by
  rw [aJ] at j
  obtain ⟨A, B, rfl, a, b⟩ := EM IA k i
  rw [FZ false k ks A B d (hk k (by simp)) a b (by omega), iV, HG a b, iK]
  simp only [aB, aG]
  exact Ht ks (A ++ k :: B) (L5 IA i a b) (fun x g => by
   rcases aW.1 g with h | h
   ·exact d x (by simp [h])
   ·rcases aQ.1 h with rfl | h
    ·exact hk _ (by simp)
    ·exact d x (by simp [h])) (fun x g => hk x (by simp [g])) (by simp at j ⊢; omega)
theorem Tf (l : List Formula) (h : ∀ x ∈ l, Gd x) (a : l.length ≤ 1000000) : vS l true = some (dd rr (vU l)) := Gj l [] List.Pairwise.nil (by simp) h (by simpa using a)
theorem Uc (l : List Formula) (h : ∀ x ∈ l, Gd x) (a : l.length ≤ 1000000) : vS l false = some (vU l) := Ht l [] List.Pairwise.nil (by simp) h (by simpa using a)
end Go.Proofs.YtklbhegeiijbjaaGreat
namespace Go.Proofs.YtklbhegeiijbjaaGreat
open Go.RowKit
theorem FJ (f : Formula) (op : Int) : wj f op = some (mN op f) := D7 f op
theorem JG (op : Int) (a : op = 2 ∨ op = 3) (s : mA) : ∀ l : List Formula, qj op s l = some (if l.any (mN (5 - op)) then .inl (⟨5 - op, 0, qT, []⟩, s) else .inr ())
 | [] => rfl
 | x :: l => by
  have hw : IntKind.i64.wrap (5 - op) = 5 - op := mg (by omega) (by omega)
  rw [qj, hw, FJ, aA, iS, JG op a s l]
  cases mN (5 - op) x <;> rfl
theorem N3 (op : Int) (a : op = 2 ∨ op = 3) (l : List Formula) (j : nodesL l ≤ 64) : oh op ⟨false⟩ [] l = some (if l.any (mN (5 - op)) then ⟨5 - op, 0, qT, []⟩ else match dd rr (vU l) with | [x] => x | r => ⟨op, 0, qT, r⟩, ⟨false⟩) := by
 have g := qP l
 rw [oh, JG op a, aA]
 cases h : l.any (mN (5 - op))
 ·simp only [aB, aG]
  rw [Tf l (fun x d => by have := uB d; unfold Gd; omega) (by omega), aA]
  have i := KI rr (vU l)
  have hp := (zr l).length_eq
  have b : ¬ (((dd rr (vU l)).length : Int) > 64) := by omega
  simp only [b, cC, aB, aG, aA]
  generalize dd rr (vU l) = r
  match r with
  | [] => rfl
  | [x] => rfl
  | x :: y :: r =>
   have : (((x :: y :: r).length : Int) == 1) = false := by simp; omega
   simp only [this, aB, aG]
   rfl
 ·rfl
theorem GL (op : Int) (d : op = 2 ∨ op = 3) : ∀ (ks acc : List Formula), nodesL acc + nodesL ks ≤ 64 →
  oh op ⟨false⟩ ks acc = some (if (acc ++ oZ op ks).any (mN (5 - op)) then ⟨5 - op, 0, qT, []⟩ else match dd rr (vU (acc ++ oZ op ks)) with | [x] => x | r => ⟨op, 0, qT, r⟩, ⟨false⟩)
 | [], acc, h => by
  rw [nodesL] at h
  rw [oZ, bG]
  exact N3 op d acc (by omega)
 | k :: ks, acc, h => by
  rw [nodesL] at h
  have h1 := pe k
  have l := qP k.Kids
  have m := qP acc
  have e : ∀ a b : List Formula, nodesL (a ++ b) = nodesL a + nodesL b := by
   intro a b
   induction a with
   | nil => rw [bD, nodesL]; omega
   | cons x a g => rw [bY, nodesL, nodesL, g]; omega
  have hw : IntKind.i64.wrap (5 - op) = 5 - op := mg (by omega) (by omega)
  rw [oh, oZ]
  by_cases c : k.Op = op
  ·simp only [c, bA, aN]
   rw [nS (by omega) (by omega), aA, GL op d ks _ (by rw [e]; omega), aM]
  ·have i : (k.Op == op) = false := by simpa using c
   simp only [i, aB, aG, c]
   rw [FJ, hw, aA]
   cases j : mN (5 - op) k
   ·simp only [aB, aG]
    rw [nS (by simp; omega) (by simp; omega), aA, GL op d ks _ (by rw [e, nodesL, nodesL]; omega), aM]
   ·simp only [aN]
    have : (acc ++ ([k] ++ oZ op ks)).any (mN (5 - op)) = true := by simp [j]
    rw [this]; rfl
theorem Mv (op : Int) (a : op = 2 ∨ op = 3) (ks : List Formula) (h : nodesL ks ≤ 64) : qb ⟨false⟩ op ks = some (qa op ks, ⟨false⟩) := by
 unfold qb qa
 rw [GL op a ks [] (by rw [nodesL]; omega), bD]
 rfl
theorem CC : ∀ (ks acc : List Formula) (k : Int), -1000 ≤ k - (ks.length : Int) → k ≤ 1000 → acc.length + ks.length ≤ 1000 →
  ob ks k acc = some (k - ((ks.filter (mN 2)).length : Int), acc ++ ks.filter fun x => !mN 2 x && !mN 3 x)
 | [], acc, k, h1, a, b => by rw [ob]; simp
 | x :: ks, acc, k, h1, a, b => by
  simp only [aJ] at h1 b
  rw [ob, FJ, aA, FJ, aA]
  rw [eF, eF]
  cases c2 : mN 2 x
  ·cases d : mN 3 x
   ·simp only [cZ, kd, aB, aG, aN]
    rw [nS (by simp; omega) (by simp; omega), aA, CC ks _ k (by omega) a (by simp; omega)]
    simp only [aM, bY, bD]
   ·simp only [cZ, bU, Bool.and_false, aB, aG]
    rw [CC ks _ k (by omega) a (by omega)]
  ·simp only [bU, iK, aB, aG, aN]
   rw [mg (by omega) (by omega), CC ks _ (k - 1) (by omega) (by omega) (by omega)]
   simp only [aJ]
   have e : k - 1 - ((ks.filter (mN 2)).length : Int) = k - (((ks.filter (mN 2)).length + 1 : Nat) : Int) := by omega
   rw [e]
theorem RW : ∀ (n : Nat) (f : Formula), oW f ≤ n → lZ f ≤ 64 → ux f = true → og n ⟨false⟩ f = some (qC f, ⟨false⟩) := by
 intro n
 induction n with
 | zero => intro f h; rw [nQ] at h; omega
 | succ n ih =>
  intro f v E hw
  rw [nQ] at v
  have w := pe f
  obtain ⟨h1, u, q⟩ := yA hw
  rw [og]
  unfold tF
  rw [A4]
  by_cases c1 : f.Op = 1
  ·simp only [c1, bA, aN]
  ·have r : (f.Op == 1) = false := by simpa using c1
   simp only [r, aB, aG, c1]
   have last : ∀ acc : List Formula, nodesL acc ≤ 64 → oz (og n) f [] acc ⟨false⟩ = some (if f.Op = 4 then uh f.K acc else qa f.Op acc, ⟨false⟩) := by
    intro acc b
    have hlen := qP acc
    have D := zX (fun x => !mN 2 x && !mN 3 x) acc
    rw [oz]
    by_cases p : f.Op = 4
    ·have hk : 0 ≤ f.K ∧ f.K ≤ (f.Kids.length : Int) := by rcases q with h | h | h <;> omega
     have i : ¬ f.Op < 4 := by omega
     simp only [i, p, cC, aB, aG, aN]
     rw [CC acc [] f.K (by omega) (by omega) (by simp; omega), aA, bD]
     unfold uh
     simp only
     have g := qP (acc.filter fun x => !mN 2 x && !mN 3 x)
     have hm : ∀ x ∈ (acc.filter fun x => !mN 2 x && !mN 3 x), Gd x := fun x y => by have := uB y; unfold Gd; omega
     generalize (acc.filter fun x => !mN 2 x && !mN 3 x) = l at *
     generalize f.K - ((acc.filter (mN 2)).length : Int) = k
     by_cases d1 : k ≤ 0
     ·simp only [d1, bZ, aN]; rfl
     ·simp only [d1, cC, aB, aG]
      by_cases d2 : k > (l.length : Int)
      ·simp only [d2, bZ, aN]; rfl
      ·simp only [d2, cC, aB, aG]
       by_cases d3 : k = (l.length : Int)
       ·simp only [← d3, bA, aN]
        rw [Mv 2 (.inl rfl) l (by omega), aA]
        rfl
       ·have s : (k == (l.length : Int)) = false := by simpa using d3
        simp only [s, aB, aG, d3]
        by_cases d4 : k = 1
        ·simp only [d4, bA, aN]
         rw [Mv 3 (.inr rfl) l (by omega), aA]
         rfl
        ·have t : (k == 1) = false := by simpa using d4
         simp only [t, aB, aG, d4]
         rw [Uc l hm (by omega)]
         rfl
    ·have j : f.Op = 2 ∨ f.Op = 3 := by rcases q with h | h | h <;> omega
     have i : f.Op < 4 := by omega
     simp only [i, p, bZ, aN, aG]
     rw [Mv f.Op j acc b, aA]
   have key : ∀ (ks acc : List Formula), (∀ k ∈ ks, k ∈ f.Kids) → wellL ks = true → nodesL (acc ++ shapeL ks) ≤ 64 → nodesL ks ≤ 64 → oz (og n) f ks acc ⟨false⟩ = some (if f.Op = 4 then uh f.K (acc ++ shapeL ks) else qa f.Op (acc ++ shapeL ks), ⟨false⟩) := by
    intro ks
    induction ks with
    | nil =>
     intro acc _ _ b _
     rw [shapeL, bG] at *
     exact last acc b
    | cons k ks m =>
     intro acc hk a b g
     rw [wellL, bJ] at a
     rw [nodesL] at g
     rw [shapeL] at b
     have d := qP (acc ++ qC k :: shapeL ks)
     simp only [aF, aJ] at d
     rw [oz, ih k (by have := rV (hk k (by simp)); omega) (by omega) a.1, aA, nS (by simp; omega) (by simp; omega), aA,
      m (acc ++ [qC k]) (fun z A => hk z (by simp [A])) a.2 (by rw [aM]; exact b) (by omega), shapeL]
     simp only [aM, bY, bD]
   have := EI f.Kids
   have := key f.Kids [] (fun k hk => hk) u (by simpa using by omega) (by omega)
   simpa using this
theorem Qj (f : Formula) (h : Gd f) : zy f = some (yn f) := by
 unfold zy yn
 rw [HO f h, aA]
 cases b : oO f
 ·rfl
 ·obtain ⟨h1, d, a⟩ := Au b
  have g := AO f
  simp only [bU, aB, aG, aN]
  rw [RW lF f (by rw [nt]; omega) h1 a, aA, HO (qC f) (by unfold Gd; omega)]
  simp only [aB, aG, aA]
  cases oO (qC f) <;> rfl
theorem HS (c : kF) : ∀ (l : List nY) (e o k : Int) (r : kD) (ks : List Formula), (∀ a ∈ l, lZ a.kJ ≤ 10000000) → lZ ⟨o, k, r, ks⟩ ≤ 64 →
  tY c l e o k r ks = some (let t := qe (⟨o, k, r, ks⟩, e) ((l.filter fun a => sF ng a.nf c).map (·.kJ)); (t.2, t.1.Op, t.1.K, t.1.kD, t.1.Kids))
 | [], e, o, k, r, ks, _, _ => by rw [tY, jD, gI, qe]
 | a :: l, e, o, k, r, ks, h, p => by
  have ha := h a (by simp)
  have j : ∀ x ∈ l, lZ x.kJ ≤ 10000000 := fun x v => h x (by simp [v])
  rw [tY, eF, LC]
  by_cases d : e = 0
  ·have i : (e == 0) = true := by simp [d]
   simp only [i, aN, aA]
   cases z : sF ng a.nf c
   ·simp only [aB, aG]
    exact HS c l e o k r ks j p
   ·simp only [aN]
    rw [bP, qe]
    simp only [d, aN]
    have s : Gd ⟨2, 0, qT, [⟨o, k, r, ks⟩, a.kJ]⟩ := by show lZ _ ≤ _; rw [lZ, nodesL, nodesL, nodesL]; omega
    rw [show (⟨2, 0, (⟨zS, zS⟩ : kD), [(⟨o, k, r, ks⟩ : Formula), a.kJ]⟩ : Formula) = ⟨2, 0, qT, [⟨o, k, r, ks⟩, a.kJ]⟩ from rfl, Qj _ s, aA]
    have u := zo (f := ⟨2, 0, qT, [⟨o, k, r, ks⟩, a.kJ]⟩)
    generalize yn ⟨2, 0, qT, [⟨o, k, r, ks⟩, a.kJ]⟩ = q at *
    obtain ⟨⟨w, k', y, n⟩, e'⟩ := q
    exact HS c l e' w k' y n j u
  ·have i : (e == 0) = false := by simpa using d
   simp only [i, aB, aG, aA]
   rw [HS c l e o k r ks j p]
   have b : ∀ m : List Formula, qe (⟨o, k, r, ks⟩, e) m = (⟨o, k, r, ks⟩, e) := by
    intro m
    cases m with
    | nil => rw [qe]
    | cons g m => rw [qe]; simp only [d, aG]
   rw [b, b]
theorem NB (c : kF) (p : lW) (hp : PB p) : ∀ l : List lm, (∀ x ∈ l, x ∈ p.kQ) → wT c p l = some (match l.find? (fun x => ng x.Signed.kF c) with | none => (Gf, 42) | some x => Dg x.kJ ((zD p c).map (·.kJ)))
 | [], _ => rfl
 | x :: l, h => by
  rw [wT, gU]
  cases j : ng x.Signed.kF c
  ·simp only [cZ, aN]
   exact NB c p hp l (fun z g => h z (by simp [g]))
  ·simp only [bU, aB, aG]
   have m := hp.rel x (h x (by simp))
   have d := zo (f := x.kJ)
   rw [Qj _ (by unfold Gd; omega), aA]
   unfold Dg zD
   generalize yn x.kJ = q at *
   obtain ⟨⟨o, k, r, ks⟩, e⟩ := q
   rw [HS c p.li e o k r ks hp.Gz d, aA]
   simp only
   generalize qe (⟨o, k, r, ks⟩, e) ((p.li.filter fun a => sF ng a.nf c).map (·.kJ)) = t
   obtain ⟨⟨n, k', s, i⟩, e'⟩ := t
   by_cases c1 : e' = 0
   ·subst c1; rfl
   ·have b : (e' != 0) = true := by simp [c1]
    simp only [b, aN, c1, aG]; rfl
theorem Tg (p : lW) (hp : PB p) (c : kF) : BB p c = some (qo p c) := by
 unfold BB qo AJ
 refine (NB c p hp _ (fun x a => a)).trans ?_
 cases p.kQ.find? (fun x => ng x.Signed.kF c) <;> rfl
end Go.Proofs.YtklbhegeiijbjaaGreat
namespace Go.Proofs.YtklbhegeiijbjaaGreat
open Go.RowKit
theorem TZ (l : List kD) (r : kD) : AE l r = some (sF lx l r) := by
 unfold AE
 induction l with
 | nil => rfl
 | cons x l ih =>
  rw [xX, ih]
  have e : sF lx (x :: l) r = (lx r x || sF lx l r) := rfl
  have a : lx x r = lx r x := by rw [bT, lz, lz]; exact eq_comm
  rw [e, a]
  cases lx r x <;> rfl
theorem Gy (l : List kD) (rec : Formula → List kD → Option Bool) (f : Formula) (v : kD → Bool) : ∀ (ks : List Formula) (x : Nat), (∀ k ∈ ks, rec k l = some (qW v k)) → x + ks.length ≤ 100000000 →
  so rec l f ks (x : Int) = some (if f.Op = 2 then decide (x + evN v ks = f.Kids.length) else if f.Op = 3 then decide (0 < x + evN v ks) else decide (f.K ≤ ((x + evN v ks : Nat) : Int)))
 | [], x, _, _ => by
  rw [so, evN, jh]
  by_cases c2 : f.Op = 2
  ·simp only [c2, bA, aN]
   congr 1
   rw [bT, iY, bO]; omega
  ·have b : (f.Op == 2) = false := by simpa using c2
   simp only [b, aB, aG, c2]
   by_cases a : f.Op = 3
   ·simp only [a, bA, aN]
    congr 1
    rw [bT, bO, bO]; omega
   ·have g : (f.Op == 3) = false := by simpa using a
    simp only [g, aB, aG, a]
    first | done | rfl
 | k :: ks, x, h, i => by
  rw [aJ] at i
  rw [so, h k (by simp), aA, evN]
  cases qW v k
  ·simp only [aB, aG]
   rw [Gy l rec f v ks x (fun z d => h z (by simp [d])) (by omega), fO]
  ·simp only [aN]
   have e : IntKind.i64.wrap ((x : Int) + 1) = ((x + 1 : Nat) : Int) := by rw [mg (by omega) (by omega)]; omega
   rw [e, Gy l rec f v ks (x + 1) (fun z d => h z (by simp [d])) (by omega)]
   have b : x + 1 + evN v ks = x + (1 + evN v ks) := by omega
   rw [b]
theorem P7 (l : List kD) : ∀ (n : Nat) (f : Formula), oW f ≤ n → Gd f → rW n f l = some (qW (sF lx l) f) := by
 intro n
 induction n with
 | zero => intro f h; rw [nQ] at h; omega
 | succ n ih =>
  intro f b d
  rw [nQ] at b
  have g := pe f
  have i := qP f.Kids
  unfold Gd at d
  rw [rW]
  unfold yw
  rw [wR, TZ]
  by_cases c1 : f.Op = 1
  ·simp only [c1, bA, aN, aA]
  ·have a : (f.Op == 1) = false := by simpa using c1
   simp only [a, aB, aG, c1]
   have := Gy l (rW n) f (sF lx l) f.Kids 0 (fun k hk => ih k (by have := rV hk; omega) (by have := uB hk; unfold Gd; omega)) (by omega)
   simpa using this
theorem I6 (F : List lf) (w : ByteArray) : sF lx (Hk F w) = vF F w := by
 funext r
 unfold vF Hk
 rw [bT, tk lz, tk wX, bN]
 constructor
 ·rintro ⟨f, b, rfl⟩
  obtain ⟨h1, a⟩ := cH.1 b
  have := np.1 a
  rw [← this]; exact h1
 ·intro h
  exact ⟨⟨r, w⟩, cH.2 ⟨h, np.2 rfl⟩, rfl⟩
theorem Eb (p : lW) (hp : PB p) (l : List kD) (v : kD → Bool) (a : sF lx l = v) : ∀ (xs : List lm) (acc : List kF), acc.length + xs.length ≤ 1000000000 → sk p l xs acc = yK (acc ++ (xs.filter (AN p v)).map (·.Signed.kF))
 | [], acc, _ => by rw [sk, jD, gI, bG, pW]
 | x :: xs, acc, h => by
  rw [aJ] at h
  have g := IB p x.Signed.kF
  have d := xf (qo p x.Signed.kF).1
  rw [sk, Tg p hp, aA, P7 l lF _ (by rw [nt]; omega) (by unfold Gd; omega), a, eF]
  unfold AN
  by_cases c : (qo p x.Signed.kF).2 = 0
  ·have b := (NN c).1
   simp only [c, bA, aN, bZ, eO, aA]
   unfold xT
   rw [b, eO]
   cases i : qW v (qo p x.Signed.kF).1
   ·simp only [aB, aG]
    exact Eb p hp l v a xs acc (by omega)
   ·simp only [aN]
    rw [nS (by simp; omega) (by simp; omega), aA, Eb p hp l v a xs _ (by simp; omega)]
    simp only [bP, aM, bY, bD]
    rfl
  ·have e : ((qo p x.Signed.kF).2 == 0) = false := by simpa using c
   simp only [e, aB, aG, c, cC, iK, aA]
   exact Eb p hp l v a xs acc (by omega)
theorem SO {l : List kF} {F : List lf} (h : J5 l F) (peer : ByteArray) : vF F peer = vD l peer := by
 funext r
 rw [bT, E9]
 unfold vF
 rw [tk wX, (h.xG (l.filter mS) (fun c => by rw [cH])).2]
theorem Qd (p : lW) (hp : PB p) (l : List kF) (d : l.length ≤ 30000) (peer : ByteArray) : xO p l peer = tI p l peer := by
 obtain ⟨F, a⟩ := SJ l d
 obtain ⟨s, e, g⟩ := Qy p hp a peer
 have := hp.DZ
 have h1 : (p.kQ.filter (AN p (vF F peer))).length ≤ p.kQ.length := gD _ _
 have hlen := a.len
 unfold xO
 rw [a.ref, aA, show tW F peer = some (Hk F peer) from ND F peer (by omega), aA, e]
 rw [Eb p hp _ (vF F peer) (I6 F peer) p.kQ [] (by simp; omega), bD]
 obtain ⟨t, b, h⟩ := Mb ((p.kQ.filter (AN p (vF F peer))).map (·.Signed.kF)) (by simp; omega)
 rw [b, xu.unique DJ h g]
end Go.Proofs.YtklbhegeiijbjaaGreat
namespace Go.Proofs.YtklbhegeiijbjaaGreat
open Go.RowKit
theorem KW : ∀ (l m A : List kF), l.length = m.length → ∃ b, qS (A ++ m) l A.length = some b ∧ (b = true ↔ l = m)
 | [], m, A, d => by
  obtain rfl := aU d.symm
  exact ⟨true, by rw [qS], by simp⟩
 | x :: l, [], A, d => by simp at d
 | x :: l, y :: m, A, d => by
  have i1 : mP (A ++ y :: m) (A.length : Int) = some y := nL _ _ _ _ rfl
  rw [qS, i1, aA]
  cases g : ng x y with
  | false =>
   refine ⟨false, by simp [g], ?_⟩
   have : x ≠ y := fun a => by have := om.2 a; rw [this] at g; cases g
   simp [this]
  | true =>
   have a := om.1 g
   obtain ⟨b, h, k⟩ := KW l m (A ++ [y]) (by simpa using d)
   have i : A ++ y :: m = (A ++ [y]) ++ m := by simp
   have j : A.length + 1 = (A ++ [y]).length := by simp
   simp only [bU, aB, aG]
   rw [i, j, h]
   exact ⟨b, rfl, by rw [k]; simp [a]⟩
theorem Tk (l m : List kF) : ∃ b, sa l m = some b ∧ (b = true ↔ l = m) := by
 unfold sa
 by_cases h : l.length = m.length
 ·have : ((l.length : Int) != (m.length : Int)) = false := by simp [h]
  simp only [this, aB, aG]
  exact KW l m [] h
 ·have : ((l.length : Int) != (m.length : Int)) = true := by simp; omega
  simp only [this, aN]
  exact ⟨false, rfl, by simp; intro hk; rw [hk] at h; exact h rfl⟩
theorem Ke {x p : List kF} (sx : qN x) (sp : qN p) (h : ∀ c ∈ x, c ∈ p) : sa p x = some (decide (p.length = x.length)) := by
 obtain ⟨b, e, a⟩ := Tk p x
 rw [e]; congr 1
 rw [bT, a, bO]
 exact ⟨fun q => by rw [q], fun q => (sx.eq sp h (by omega)).symm⟩
theorem G9 (a b : lW) (ha : PB a) (g : PB b) (t : a.kQ.length ≤ 30000) (u : b.kQ.length ≤ 30000) : ∀ (n : Nat) (x y : List kF) (i : Int), qN x → qN y → (∀ c ∈ x, uk a y b.Name c) → (∀ c ∈ y, uk b x a.Name c) →
  uf a b n x y i = qv a b n x y i
 | 0, x, y, i, sx, sy, h, j => by rw [uf, qv]
 | n + 1, x, y, i, sx, sy, h, j => by
  have h1 := zm sx (fun c d => (h c d).1)
  have v := zm sy (fun c d => (j c d).1)
  obtain ⟨p, r, sp, mp, w⟩ := Jt a ha y (by omega) b.Name
  obtain ⟨q, s, sq, k, z⟩ := Jt b g x (by omega) a.Name
  have l : ∀ c ∈ x, c ∈ p := fun c d => (mp c).2 (h c d)
  have m : ∀ c ∈ y, c ∈ q := fun c d => (k c).2 (j c d)
  rw [uf, qv, Qd a ha y (by omega), Qd b g x (by omega), r, s]
  simp only [aA]
  rw [Ke sx sp l, Ke sy sq m]
  simp only [aA]
  have ih := G9 a b ha g t u n p q (IntKind.i64.wrap (i + 1)) sp sq (fun c d => xe m ((mp c).1 d)) (fun c d => xe l ((k c).1 d))
  rw [ih]
  have d1 : ((p.length : Int) == (x.length : Int)) = decide (p.length = x.length) := by
   rw [bT, iY, bO]; omega
  have d2 : ((q.length : Int) == (y.length : Int)) = decide (q.length = y.length) := by
   rw [bT, iY, bO]; omega
  rw [d1, d2]
theorem LI (a b : lW) (ha : PB a) (d : PB b) (g : a.kQ.length ≤ 30000) (h : b.kQ.length ≤ 30000) : Bs a b = wY a b :=
 G9 a b ha d g h lF [] [] 0 qN.nil qN.nil (by simp) (by simp)
end Go.Proofs.YtklbhegeiijbjaaGreat
namespace Go.Proofs.YtklbhegeiijbjaaGreat
open Go.RowKit
mutual
def Ae : Formula → Nat
 | ⟨_, _, r, ks⟩ => 1 + r.kE.size + r.kL.size + szFL ks
def szFL : List Formula → Nat
 | [] => 0
 | k :: ks => Ae k + szFL ks
end
theorem Ky (f : Formula) : Ae f = 1 + f.kD.kE.size + f.kD.kL.size + szFL f.Kids := by cases f; rw [Ae]
theorem CE : ∀ f : Formula, lZ f ≤ Ae f := by
 refine JM fun f ih => ?_
 have : ∀ ks : List Formula, (∀ k ∈ ks, lZ k ≤ Ae k) → nodesL ks ≤ szFL ks := by
  intro ks
  induction ks with
  | nil => intro _; rw [nodesL]; omega
  | cons k ks a =>
   intro h
   have := a (fun x b => h x (by simp [b]))
   have := h k (by simp)
   rw [nodesL, szFL]; omega
 have := this f.Kids ih
 rw [pe, Ky]; omega
def zd : List kF → Nat
 | [] => 0
 | c :: l => 20 + yW c + zd l
theorem g5 : ∀ (l : List kF) (n : Int), 0 ≤ n → n + (zd l : Int) ≤ 4000000000000000000 → sQ l n = some (n + (zd l : Int))
 | [], n, _, _ => by rw [sQ, zd]; simp
 | c :: l, n, b, a => by
  have e : yW c = c.Head.kE.size + c.Head.kL.size + c.ma.size + c.B.kE.size + c.B.kL.size + c.C.kE.size + c.C.kL.size + c.mc.size := rfl
  rw [zd] at a
  rw [sQ]
  rw [mg (x := 20 + (c.Head.kE.size : Int)) (by omega) (by omega), mg (x := 20 + (c.Head.kE.size : Int) + (c.Head.kL.size : Int)) (by omega) (by omega), mg (x := 20 + (c.Head.kE.size : Int) + (c.Head.kL.size : Int) + (c.ma.size : Int)) (by omega) (by omega), mg (x := 20 + (c.Head.kE.size : Int) + (c.Head.kL.size : Int) + (c.ma.size : Int) + (c.B.kE.size : Int)) (by omega) (by omega), mg (x := 20 + (c.Head.kE.size : Int) + (c.Head.kL.size : Int) + (c.ma.size : Int) + (c.B.kE.size : Int) + (c.B.kL.size : Int)) (by omega) (by omega), mg (x := 20 + (c.Head.kE.size : Int) + (c.Head.kL.size : Int) + (c.ma.size : Int) + (c.B.kE.size : Int) + (c.B.kL.size : Int) + (c.C.kE.size : Int)) (by omega) (by omega), mg (x := 20 + (c.Head.kE.size : Int) + (c.Head.kL.size : Int) + (c.ma.size : Int) + (c.B.kE.size : Int) + (c.B.kL.size : Int) + (c.C.kE.size : Int) + (c.C.kL.size : Int)) (by omega) (by omega), mg (x := 20 + (c.Head.kE.size : Int) + (c.Head.kL.size : Int) + (c.ma.size : Int) + (c.B.kE.size : Int) + (c.B.kL.size : Int) + (c.C.kE.size : Int) + (c.C.kL.size : Int) + (c.mc.size : Int)) (by omega) (by omega), mg (by omega) (by omega)]
  rw [g5 l _ (by omega) (by omega), zd]
  congr 1; omega
theorem UA : ∀ (n : Nat) (l : List Formula), deepL l < n → szFL l ≤ 1000000000000 → ∃ r : Int, pJ n l = some r ∧ 0 ≤ r ∧ r ≤ (szFL l : Int) := by
 intro n
 induction n with
 | zero => intro l h; omega
 | succ n ih =>
  intro l h g
  rw [pJ]
  unfold xB
  have key : ∀ (l : List Formula) (x : Int), deepL l < n + 1 → 0 ≤ x → x + (szFL l : Int) ≤ 1000000000000 → ∃ r : Int, sU (pJ n) l x = some r ∧ 0 ≤ r ∧ r ≤ x + (szFL l : Int) := by
   intro l
   induction l with
   | nil => intro x _ i _; exact ⟨x, by rw [sU], i, by rw [szFL]; simp⟩
   | cons k l b =>
    intro x h i g
    rw [deepL] at h
    rw [szFL] at g
    have hk := Ky k
    have := nQ k
    obtain ⟨r, e, h1, j⟩ := ih k.Kids (by omega) (by omega)
    rw [sU, e, aA]
    have q : 0 ≤ Int.tdiv ((k.kD.kE.size : Int) + (k.kD.kL.size : Int)) 16 ∧ Int.tdiv ((k.kD.kE.size : Int) + (k.kD.kL.size : Int)) 16 ≤ (k.kD.kE.size : Int) + (k.kD.kL.size : Int) := by
     rw [Int.tdiv_eq_ediv_of_nonneg (by omega)]
     omega
    rw [mg (x := (k.kD.kE.size : Int) + (k.kD.kL.size : Int)) (by omega) (by omega)]
    generalize Int.tdiv ((k.kD.kE.size : Int) + (k.kD.kL.size : Int)) 16 = d at *
    rw [mg (x := d) (by omega) (by omega), mg (x := 1 + d) (by omega) (by omega), mg (x := 1 + d + r) (by omega) (by omega), mg (x := x + (1 + d + r)) (by omega) (by omega)]
    obtain ⟨p, e', a, m⟩ := b (x + (1 + d + r)) (by omega) (by omega) (by omega)
    exact ⟨p, e', a, by rw [szFL]; omega⟩
  obtain ⟨r, e, h1, j⟩ := key l 0 h (by omega) (by omega)
  exact ⟨r, e, h1, by omega⟩
theorem Ig (f : Formula) (h : Ae f ≤ 50000000) : ∃ r : Int, pJ lF [f] = some r ∧ 0 ≤ r ∧ r ≤ (Ae f : Int) := by
 have h1 := CE f
 have d := xf f
 obtain ⟨r, e, a, b⟩ := UA lF [f] (by rw [deepL, deepL, nt]; omega) (by rw [szFL, szFL]; omega)
 refine ⟨r, e, a, ?_⟩
 rw [szFL, szFL] at b; omega
theorem g6 (s : Signed) (h : yW s.kF + s.Tag.length ≤ 1000000000) : vo [] [s] = some (20 + (yW s.kF : Int) + (s.Tag.length : Int)) := by
 unfold vo
 rw [rE, sV]
 have := g5 [s.kF] 0 (by omega) (by rw [zd, zd]; omega)
 rw [show wK [s.kF] = _ from this, aA, sV, zd, zd]
 rw [mg (x := 0 + ((20 + yW s.kF + 0 : Nat) : Int) + (s.Tag.length : Int)) (by omega) (by omega), mg (by omega) (by omega)]
 simp only [aA]
 congr 1; omega
def CT : List lm → Nat
 | [] => 0
 | x :: l => 20 + yW x.Signed.kF + x.Signed.Tag.length + 20 * Ae x.kJ + CT l
def BR : List nY → Nat
 | [] => 0
 | a :: l => a.kD.kE.size + a.kD.kL.size + 20 * Ae a.kJ + zd a.nf + BR l
def IN (p : lW) : Nat := p.Name.size + CT p.kQ + BR p.li
theorem OJ : ∀ (l : List nY) (x : Int), 0 ≤ x → x + (BR l : Int) ≤ 1000000000 → ∃ r : Int, ta l x = some r ∧ x ≤ r ∧ r ≤ x + (BR l : Int)
 | [], x, _, _ => ⟨x, by rw [ta], by omega, by rw [BR]; omega⟩
 | a :: l, x, i, h => by
  rw [BR] at h
  obtain ⟨r, e, h1, j⟩ := Ig a.kJ (by omega)
  have b := g5 a.nf 0 (by omega) (by omega)
  rw [ta, e, aA, show wK a.nf = _ from b, aA]
  rw [mg (x := (a.kD.kE.size : Int) + (a.kD.kL.size : Int)) (by omega) (by omega), mg (x := 20 * r) (by omega) (by omega), mg (x := (a.kD.kE.size : Int) + (a.kD.kL.size : Int) + 20 * r) (by omega) (by omega), mg (x := (a.kD.kE.size : Int) + (a.kD.kL.size : Int) + 20 * r + (0 + (zd a.nf : Int))) (by omega) (by omega), mg (by omega) (by omega)]
  obtain ⟨d, e', g, a2⟩ := OJ l (x + ((a.kD.kE.size : Int) + (a.kD.kL.size : Int) + 20 * r + (0 + (zd a.nf : Int)))) (by omega) (by omega)
  exact ⟨d, e', by omega, by rw [BR]; omega⟩
theorem TG (p : lW) (g : IN p ≤ 1000000000) : ∃ r : Int, wV p = some r ∧ 20 * (p.kQ.length : Int) ≤ r ∧ r ≤ (IN p : Int) := by
 unfold IN at g
 have key : ∀ (l : List lm) (x : Int), 0 ≤ x → x + (CT l : Int) + (BR p.li : Int) ≤ 1000000000 → ∃ r : Int, sR p l x = some r ∧ x + 20 * (l.length : Int) ≤ r ∧ r ≤ x + (CT l : Int) + (BR p.li : Int) := by
  intro l
  induction l with
  | nil =>
   intro x d h
   rw [CT] at h
   obtain ⟨r, e, a, b⟩ := OJ p.li x d (by omega)
   exact ⟨r, by rw [sR, e]; rfl, by simp; omega, by rw [CT]; omega⟩
  | cons y l ih =>
   intro x d h
   rw [CT] at h
   obtain ⟨r, e, h1, j⟩ := Ig y.kJ (by omega)
   rw [sR, g6 y.Signed (by omega)]
   simp only [aA]
   rw [e, aA]
   rw [mg (x := 20 * r) (by omega) (by omega), mg (x := 20 + (yW y.Signed.kF : Int) + (y.Signed.Tag.length : Int) + 20 * r) (by omega) (by omega), mg (by omega) (by omega)]
   obtain ⟨i, e', a, b⟩ := ih (x + (20 + (yW y.Signed.kF : Int) + (y.Signed.Tag.length : Int) + 20 * r)) (by omega) (by omega)
   exact ⟨i, e', by rw [aJ]; omega, by rw [CT]; omega⟩
 obtain ⟨r, e, a, b⟩ := key p.kQ (p.Name.size : Int) (by omega) (by omega)
 unfold wV
 exact ⟨r, e, by omega, by unfold IN; omega⟩
end Go.Proofs.YtklbhegeiijbjaaGreat
namespace Go.Proofs.YtklbhegeiijbjaaGreat
open Go.RowKit
def DP : List Key → Nat
 | [] => 0
 | k :: l => 10 + k.ma.size + k.Key.length + DP l
theorem TI : ∀ (ks : List Key) (x : Int), 0 ≤ x → x + (DP ks : Int) ≤ 2000000000 → rE [] ks x = some (x + (DP ks : Int))
 | [], x, _, _ => by rw [rE, sV, DP]; simp
 | k :: ks, x, a, h => by
  rw [DP] at h
  rw [rE, mg (x := 10 + (k.ma.size : Int)) (by omega) (by omega), mg (x := 10 + (k.ma.size : Int) + (k.Key.length : Int)) (by omega) (by omega), mg (by omega) (by omega), TI ks _ (by omega) (by omega), DP]
  congr 1; omega
structure PQ (p : mI) : Prop extends PP p where
 go : IN p.kE ≤ 1000000000
 gc : IN p.Client ≤ 1000000000
 fs : Ae p.Formula ≤ 50000000
 ks : DP p.Keys ≤ 1000000000
theorem Us (p : mI) (hp : PQ p) : ∃ r : Int, yX p = some r ∧ 20 * (p.kE.kQ.length : Int) + 20 * (p.Client.kQ.length : Int) ≤ r := by
 have d := hp.go
 have b := hp.gc
 have n := hp.ks
 have a := hp.fs
 obtain ⟨g, j, q, s⟩ := TG p.kE d
 obtain ⟨h, k, a2, t⟩ := TG p.Client b
 obtain ⟨i, l, a3, u⟩ := Ig p.Formula a
 have m := TI p.Keys 0 (by omega) (by omega)
 unfold yX
 rw [j, aA, k, aA]
 simp only [aA]
 rw [l, aA, show vo p.Keys [] = _ from m, aA]
 rw [mg (x := g + h) (by omega) (by omega), mg (x := 20 * i) (by omega) (by omega), mg (x := g + h + 20 * i) (by omega) (by omega), mg (by omega) (by omega)]
 exact ⟨_, rfl, by omega⟩
end Go.Proofs.YtklbhegeiijbjaaGreat
namespace Go.Proofs.YtklbhegeiijbjaaGreat
open Go.RowKit
theorem H3 (a b : lW) (f : Formula) (ha : PB a) (h : PB b) (n : a.kQ.length ≤ 30000) (p : b.kQ.length ≤ 30000) (g : Gd f) :
  ∃ x y j, wY a b = some (x, y, j) ∧ NQ a b x y ∧ vC a b f = some (xT (vD y b.Name) f) ∧ yc a b f = some (xT (vD y b.Name) f) := by
 obtain ⟨x, y, j, e, F⟩ := Ny a b ha h (by omega) (by omega)
 have t := F.ly
 obtain ⟨G, d⟩ := SJ y (by omega)
 obtain ⟨m, k, _, l⟩ := d.TQ
 have i := SO d b.Name
 refine ⟨x, y, j, e, F, ?_, ?_⟩
 ·unfold vC Bc
  rw [e, aA, k, aA, aA]
  rw [Mr (vD y b.Name) _ (fun r => by unfold wC; rw [pW, l, ← i]; rfl) f g]
  rfl
 ·have q := xf f
  unfold yc
  rw [HO f g, aA]
  unfold xT
  cases s : oO f
  ·rfl
  ·simp only [aN]
   unfold Be
   rw [LI a b ha h n p, e, aA, d.ref, aA, show tW G b.Name = some (Hk G b.Name) from ND G b.Name (by have := d.len; omega)]
   simp only [aA]
   rw [P7 _ lF f (by rw [nt]; unfold Gd at g; omega) g, I6, i]
   rfl
structure PL (p : mI) : Prop where
 o : PB p.kE
 c : PB p.Client
 lo : p.kE.kQ.length ≤ 30000
 lc : p.Client.kQ.length ≤ 30000
 f : Gd p.Formula
noncomputable def yp (p : mI) : Bool := (vC p.kE p.Client p.Formula).getD false
theorem yb {p : mI} (h : PL p) : qx p = some (yp p) ∧ uG p = some (yp p) := by
 obtain ⟨x, y, j, _, _, a, b⟩ := H3 p.kE p.Client p.Formula h.o h.c h.lo h.lc h.f
 unfold yp qx uG
 rw [a, b]
 exact ⟨rfl, rfl⟩
def zi (l : List lm) (i : Int) : Prop := 0 ≤ i ∧ i < l.length
instance (l : List lm) (i : Int) : Decidable (zi l i) := by unfold zi; infer_instance
def wB (l : List lm) (i : Int) : List lm := if zi l i then l.eraseIdx i.toNat else l
def ry (p : mI) (e i : Int) : mI :=
 if e = 0 then ⟨⟨p.kE.Name, wB p.kE.kQ i, p.kE.li⟩, p.Client, p.Formula, p.oN, p.mw, p.mW, p.nU, p.ny, p.Keys⟩
 else if e = 1 then ⟨p.kE, ⟨p.Client.Name, wB p.Client.kQ i, p.Client.li⟩, p.Formula, p.oN, p.mw, p.mW, p.nU, p.ny, p.Keys⟩
 else p
theorem GU (l : List lm) (i : Int) : (wB l i).length ≤ l.length := by
 unfold wB
 split
 ·rw [List.length_eraseIdx]; split <;> omega
 ·omega
theorem Pk {l : List lm} {i : Int} {x : lm} (h : x ∈ wB l i) : x ∈ l := by
 unfold wB at h
 split at h
 ·exact List.mem_of_mem_eraseIdx h
 ·exact h
theorem PB.cut {n : ByteArray} {l : List lm} {k : List nY} (h : PB ⟨n, l, k⟩) (i : Int) : PB ⟨n, wB l i, k⟩ where
 DZ := dF (GU l i) h.DZ
 Ia := h.Ia
 rel := fun x a => h.rel x (Pk a)
 Gz := h.Gz
 P4 := h.P4
theorem PL.drop {p : mI} (h : PL p) (e i : Int) : PL (ry p e i) := by
 unfold ry
 split
 ·exact ⟨PB.cut (n := p.kE.Name) (k := p.kE.li) h.o i, h.c, dF (GU _ i) h.lo, h.lc, h.f⟩
 ·split
  ·exact ⟨h.o, PB.cut (n := p.Client.Name) (k := p.Client.li) h.c i, h.lo, dF (GU _ i) h.lc, h.f⟩
  ·exact h
theorem LY {l : List lm} (a : l.length ≤ 1000000) : pM l = some l := by
 unfold pM
 rw [nS (by simp; omega) (by simp; omega)]
 rfl
theorem M2 {p : Prop} [Decidable p] (h : p) : rh (decide p) = some () := by simp [rh, h]
theorem PS (A : List lm) (x : lm) (B : List lm) (i : (A ++ x :: B).length ≤ 1000000) : pz (A ++ x :: B) (A.length : Int) ((A.length : Int) + 1) = some (A ++ B) := by
 have hlen : (A ++ x :: B).length = A.length + (B.length + 1) := by simp
 have a : (A ++ x :: B).take (Int.toNat (A.length : Int)) = A := by simp
 have b : (A ++ x :: B).drop (Int.toNat ((A.length : Int) + 1)) = B := by
  rw [show Int.toNat ((A.length : Int) + 1) = A.length + 1 by omega, List.drop_append]
  simp
 have d : (yy (A ++ x :: B) (Int.toNat (A.length : Int)) (Int.toNat ((A.length : Int) + 1))) = A ++ B ++ (A ++ x :: B).drop ((A ++ x :: B).length - (Int.toNat ((A.length : Int) + 1) - Int.toNat (A.length : Int))) := by
  unfold yy; rw [a, b]
 have g : (A ++ B ++ (A ++ x :: B).drop ((A ++ x :: B).length - (Int.toNat ((A.length : Int) + 1) - Int.toNat (A.length : Int)))).length = (A ++ x :: B).length := by
  rw [aF, eP, hlen, aF]; omega
 unfold pz
 rw [M2 (by omega)]
 simp only [aA]
 rw [bB (by simp; omega), BN (by omega) (by omega), BN (by omega) (by omega), M2 (by omega)]
 simp only [aA]
 rw [a, b, d, g, M2 (by simp; omega)]
 simp only [aA]
 congr 1
 unfold pk
 have h : (Int.toNat ((A ++ B).length : Int)) = (A ++ B).length := by omega
 rw [h, jj, jj]
theorem OC {α : Type} (l : List α) (i : Nat) (h : i < l.length) : ∃ A x B, l = A ++ x :: B ∧ A.length = i := ⟨l.take i, l[i], l.drop (i + 1), by simp, by simp; omega⟩
theorem G5 {l : List lm} {i : Int} (d : l.length ≤ 1000000) (h : zi l i) : pz l i (IntKind.i64.wrap (i + 1)) = some (wB l i) := by
 have a := h
 obtain ⟨g, h1⟩ := h
 rw [mg (by omega) (by omega)]
 obtain ⟨A, x, B, rfl, j⟩ := OC l i.toNat (by omega)
 have b : i = (A.length : Int) := by omega
 subst b
 rw [PS A x B d]
 unfold wB
 rw [aX a]
 congr 1
 rw [show Int.toNat (A.length : Int) = A.length by omega, List.eraseIdx_append_of_length_le (aZ _)]
 simp
theorem Ng (p : mI) : (⟨p.Formula.Op, p.Formula.K, p.Formula.kD, p.Formula.Kids⟩ : Formula) = p.Formula := by cases p.Formula; rfl
theorem FF (p : mI) (h : PL p) (e i : Int) : rl p e i = some (ry p e i) := by
 have h1 := h.lo
 have l := h.lc
 unfold rl pu ry
 by_cases d : e < 0
 ·have : ¬ e = 0 := by omega
  have : ¬ e = 1 := by omega
  simp only [d, bZ, aN, aA, *, aG]
 ·by_cases c1 : e > 1
  ·have : ¬ e = 0 := by omega
   have : ¬ e = 1 := by omega
   simp only [d, c1, bZ, cC, aB, aN, aA, *, aG]
  ·simp only [d, c1, cC, aB, aG, aA]
   by_cases g : e = 0
   ·subst g
    simp only [bA, aN, aA]
    by_cases n : zi p.kE.kQ i
    ·have a : ¬ i < 0 := by unfold zi at n; omega
     have b : ¬ i ≥ (p.kE.kQ.length : Int) := by unfold zi at n; omega
     simp only [a, b, cC, aB, aG, aA]
     rw [LY (by omega), aA, G5 (by omega) n, aA, Ng]
    ·unfold wB
     rw [bB n]
     by_cases a : i < 0
     ·simp only [a, bZ, aN, aA]
     ·have b : i ≥ (p.kE.kQ.length : Int) := by unfold zi at n; omega
      simp only [a, b, bZ, cC, aB, aG, aN, aA]
   ·have j : e = 1 := by omega
    subst j
    have q : ((1 : Int) == 0) = false := rfl
    have k : ((3 : Nat) == 0) = false := rfl
    simp only [q, k, aB, aG, aA, aN, show ¬ ((1 : Int) = 0) by omega]
    by_cases n : zi p.Client.kQ i
    ·have a : ¬ i < 0 := by unfold zi at n; omega
     have b : ¬ i ≥ (p.Client.kQ.length : Int) := by unfold zi at n; omega
     simp only [a, b, cC, aB, aG, aA]
     rw [LY (by omega), aA, G5 (by omega) n, aA, Ng]
    ·unfold wB
     rw [bB n]
     by_cases a : i < 0
     ·simp only [a, bZ, aN, aA]
     ·have b : i ≥ (p.Client.kQ.length : Int) := by unfold zi at n; omega
      simp only [a, b, bZ, cC, aB, aG, aN, aA]
theorem Ip (a : Int) : ∀ (l : List lm) (k : Nat) (acc : List lm), acc.length + l.length ≤ 1000000 → sX a l k acc = some (acc ++ wB l (a - k))
 | [], k, acc, _ => by
  rw [sX]; unfold wB; rw [bB (fun h => by obtain ⟨b, h1⟩ := h; rw [bV] at h1; omega), bG]
 | x :: l, k, acc, h => by
  rw [aJ] at h
  rw [sX]
  by_cases c : (k : Int) = a
  ·have : ((k : Int) != a) = false := by simpa using c
   simp only [this, aB, aG]
   rw [Ip a l (k + 1) acc (by omega)]
   subst c
   unfold wB
   rw [bB (by unfold zi; omega), aX (by unfold zi; rw [aJ]; omega), show Int.toNat ((k : Int) - k) = 0 by omega]
   rfl
  ·have : ((k : Int) != a) = true := by simpa using c
   simp only [this, aN]
   rw [nS (by simp; omega) (by simp; omega), aA, Ip a l (k + 1) _ (by simp; omega)]
   unfold wB
   by_cases n : zi l (a - ((k + 1 : Nat) : Int))
   ·rw [aX n, aX (by unfold zi at *; rw [aJ]; omega)]
    obtain ⟨d, g⟩ := n
    rw [show Int.toNat (a - k) = Int.toNat (a - ((k + 1 : Nat) : Int)) + 1 by omega, List.eraseIdx_cons_succ]
    simp
   ·rw [bB n, bB (by unfold zi at *; rw [aJ]; omega)]
    simp
theorem RR (l : List lm) (a : Int) (h : l.length ≤ 1000000) : yI l a = some (wB l a) := by
 unfold yI
 rw [Ip a l 0 [] (by simp; omega)]
 simp
theorem MU (p : mI) (h : PL p) (e i : Int) : wh p e i = some (ry p e i) := by
 have h1 := h.lo
 have g := h.lc
 unfold wh ry
 by_cases a : e = 0
 ·subst a
  have q : ((0 : Int) == 1) = false := rfl
  simp only [bA, aN, q, aB, aG]
  rw [RR _ _ (by omega)]
  rfl
 ·have q : (e == 0) = false := by simpa using a
  simp only [q, aB, aG, a, aA]
  by_cases b : e = 1
  ·subst b
   simp only [bA, aN]
   rw [RR _ _ (by omega)]
   rfl
  ·have d : (e == 1) = false := by simpa using b
   simp only [d, aB, aG, b, aA]
end Go.Proofs.YtklbhegeiijbjaaGreat
namespace Go.Proofs.YtklbhegeiijbjaaGreat
open Go.RowKit
noncomputable def sH (p : mI) (e : Int) : List lm → Nat → List mj
 | [], _ => []
 | _ :: l, k => (if yp (ry p e k) then [] else [⟨e, (k : Int)⟩]) ++ sH p e l (k + 1)
theorem IH (p : mI) (e : Int) : ∀ (l : List lm) (k : Nat), (sH p e l k).length ≤ l.length
 | [], _ => by simp [sH]
 | _ :: l, k => by
  have := IH p e l (k + 1)
  rw [sH, aF, aJ]
  split <;> simp <;> omega
theorem Ju {l m : List mj} (h : l.length + m.length ≤ 1000000) : nG 16 l m = some (l ++ m) := nS (by omega) (by omega)
theorem Gu (p : mI) (h : PL p) (e : Int) : ∀ (l : List lm) (k : Nat) (acc : List mj), acc.length + l.length ≤ 500000 → qL p e l k acc = some (acc ++ sH p e l k)
 | [], k, acc, _ => by rw [qL, sH, bG]
 | x :: l, k, acc, a => by
  rw [aJ] at a
  rw [qL, FF p h, aA, (yb (h.drop e k)).1, aA, sH]
  cases yp (ry p e k)
  ·simp only [cZ, aN, aB, aG]
   rw [Ju (by simp; omega), aA, Gu p h e l (k + 1) _ (by simp; omega), aM]
  ·simp only [bU, aB, aG, aN, bD]
   exact Gu p h e l (k + 1) acc (by omega)
theorem Gs (p : mI) (h : PL p) (e : Int) : ∀ (l : List lm) (k : Nat) (acc : List mj), acc.length + l.length ≤ 500000 → qH p e l k acc = some (acc ++ sH p e l k)
 | [], k, acc, _ => by rw [qH, sH, bG]
 | x :: l, k, acc, a => by
  rw [aJ] at a
  rw [qH, FF p h, aA, (yb (h.drop e k)).1, aA, sH]
  cases yp (ry p e k)
  ·simp only [cZ, aN, aB, aG]
   rw [Ju (by simp; omega), aA, Gs p h e l (k + 1) _ (by simp; omega), aM]
  ·simp only [bU, aB, aG, aN, bD]
   exact Gs p h e l (k + 1) acc (by omega)
theorem GN (p : mI) (h : PL p) : ∀ (l : List lm) (k : Nat) (acc : List mj), acc.length + l.length ≤ 500000 → qF p l k acc = some (acc ++ sH p 1 l k)
 | [], k, acc, _ => by rw [qF, sH, bG]
 | x :: l, k, acc, a => by
  rw [aJ] at a
  rw [qF, MU p h, aA, (yb (h.drop 1 k)).2, aA, sH]
  cases yp (ry p 1 k)
  ·simp only [cZ, aN, aB, aG]
   rw [Ju (by simp; omega), aA, GN p h l (k + 1) _ (by simp; omega), aM]
  ·simp only [bU, aB, aG, aN, bD]
   exact GN p h l (k + 1) acc (by omega)
theorem GQ (p : mI) (h : PL p) : ∀ (l : List lm) (k : Nat) (acc : List mj), acc.length + l.length ≤ 400000 → qI p l k acc = some (acc ++ sH p 0 l k ++ sH p 1 p.Client.kQ 0)
 | [], k, acc, a => by
  have := h.lc
  rw [qI, GN p h _ _ _ (by simp at a; omega), sH, bG]
  rfl
 | x :: l, k, acc, a => by
  rw [aJ] at a
  rw [qI, MU p h, aA, (yb (h.drop 0 k)).2, aA, sH]
  cases yp (ry p 0 k)
  ·simp only [cZ, aN, aB, aG]
   rw [Ju (by simp; omega), aA, GQ p h l (k + 1) _ (by simp; omega)]
   simp only [aM]
  ·simp only [bU, aB, aG, aN, bD]
   exact GQ p h l (k + 1) acc (by omega)
noncomputable def DM (p : mI) : List mj := if yp p then sH p 0 p.kE.kQ 0 ++ sH p 1 p.Client.kQ 0 else []
theorem Tc (p : mI) (h : PL p) : ye p = some (DM p) := by
 have := h.lo
 unfold ye DM
 rw [(yb h).2, aA]
 cases yp p
 ·rfl
 ·simp only [bU, aB, aG, aN]
  rw [GQ p h _ _ _ (by simp; omega), bD]
theorem Qm (p : mI) (h : PL p) : uF p = some (DM p) := by
 have h1 := h.lo
 have g := h.lc
 unfold uF DM
 rw [(yb h).1, aA]
 cases yp p
 ·rfl
 ·simp only [bU, aB, aG, aN]
  have i := IH p 0 p.kE.kQ 0
  obtain ⟨n, a⟩ : ∃ n, lF = n + 3 := ⟨18446744073709551613, by rw [nt]⟩
  rw [a]
  generalize n = n
  have b : pu p 0 = some 0 := rfl
  have d : pu p 1 = some 3 := rfl
  rw [pR, aX (by decide), b, aA, aX (by decide), Gu p h 0 _ _ _ (by simp; omega), aA, bD]
  rw [show IntKind.i64.wrap ((0 : Int) + 1) = 1 from rfl, pR, aX (by decide), d, aA, bB (by decide), Gs p h 1 _ _ _ (by omega), aA]
  rw [show IntKind.i64.wrap ((1 : Int) + 1) = 2 from rfl, pR, bB (by decide)]
theorem JZ (f : Formula) : rr f f = true := Am.2 rfl
theorem QZ (x : lm) (h : Gd x.kJ) : zV x x = some true := by
 unfold zV
 rw [aX (om.2 rfl)]
 simp only [aA]
 rw [aX (np.2 rfl), Gp _ _ h, JZ]
 rfl
theorem IX (p : lW) (b : ∀ a ∈ p.li, Gd a.kJ) : ∀ (A l : List nY), p.li = A ++ l → tV p l A.length = some (Sum.inr ())
 | A, [], _ => by rw [tV]
 | A, x :: l, e => by
  rw [tV, e, nL A x l _ rfl, aA]
  have d : lx x.kD x.kD = true := lz.2 rfl
  simp only [d, bU, aB, aG]
  rw [Gp _ _ (b x (by rw [e]; simp)), JZ]
  simp only [aA, bU, aB, aG]
  rw [Tv]
  simp only [aA, bU, aB, aG]
  have := IX p b (A ++ [x]) l (by rw [e]; simp)
  rw [aF] at this
  exact this
theorem I3 (p : lW) (b : ∀ x ∈ p.kQ, Gd x.kJ) (d : ∀ a ∈ p.li, Gd a.kJ) : ∀ (A l : List lm), p.kQ = A ++ l → tN p p l A.length = some true
 | A, [], _ => by
  rw [tN, show (0 : Nat) = ([] : List nY).length from rfl, IX p d [] p.li rfl]; rfl
 | A, x :: l, e => by
  rw [tN, e, nL A x l _ rfl, aA, QZ x (b x (by rw [e]; simp)), aA]
  simp only [bU, aB, aG]
  have := I3 p b d (A ++ [x]) l (by rw [e]; simp)
  rw [aF] at this
  exact this
theorem OF (p : lW) (h : PB p) : xz p p = some true := by
 unfold xz
 have b : mx p.Name p.Name = true := np.2 rfl
 simp only [b, bU, aB, aG, aA, bne_self_eq_false]
 exact I3 p (fun x a => by have := h.rel x a; unfold Gd; omega) (fun x a => by have := h.Gz x a; unfold Gd; omega) [] p.kQ rfl
theorem R0 (p : mI) (h : PL p) : zW p p = some true := by
 unfold zW
 rw [OF _ h.o, aA, aX rfl, OF _ h.c]
 rfl
theorem Kj (p : mI) (h : PL p) (n : mj) (r : List mj) : ∀ (A l : List mj), r = A ++ l → qc r p n l A.length = some true
 | A, [], _ => by
  rw [qc]
  obtain ⟨x, y, j, e, _, _, _⟩ := H3 p.kE p.Client p.Formula h.o h.c h.lo h.lc h.f
  have a : qt p = some (IntKind.i64.wrap ((x.length : Int) + (y.length : Int))) := by
   unfold qt; rw [e]; rfl
  have b : yN p = some (IntKind.i64.wrap ((x.length : Int) + (y.length : Int))) := by
   unfold yN; rw [LI _ _ h.o h.c h.lo h.lc, e]; rfl
  rw [a, b, aA, aA, aX (by simp), FF p h, MU p h]
  simp only [aA]
  rw [R0 _ (h.drop _ _)]
  rfl
 | A, x :: l, e => by
  rw [qc, e, nL A x l _ rfl, aA, DC.2 rfl]
  simp only [bU, aB, aG]
  have := Kj p h n r (A ++ [x]) l (by rw [e]; simp)
  rw [aF, e] at this
  exact this
theorem HQ (d : wQ = some true) (p : mI) (n : mj) (hp : PQ p) : vE p n = some true := by
 obtain ⟨g, b, i⟩ := Us p hp
 unfold vE
 rw [d, b]
 simp only [aA, bU, aB, aG]
 by_cases a : g > 4000
 ·simp only [a, bZ, aN]
 ·simp only [a, cC, aB, aG]
  have h : PL p := ⟨hp.o.toPB, hp.c.toPB, by omega, by omega, by have := hp.f; unfold Gd; omega⟩
  rw [Qm p h, Tc p h]
  simp only [aA, bne_self_eq_false, aB, aG]
  exact Kj p h n (DM p) [] (DM p) rfl
end Go.Proofs.YtklbhegeiijbjaaGreat
namespace Go.Proofs.YtklbhegeiijbjaaGreat
open Go.RowKit
noncomputable def shr (e : Int) : Nat → mI → mI
 | 0, p => p
 | k + 1, p => shr e k (if yp (ry p e k) then ry p e k else p)
theorem JB (p : mI) : (⟨⟨p.kE.Name, p.kE.kQ, p.kE.li⟩, ⟨p.Client.Name, p.Client.kQ, p.Client.li⟩, ⟨p.Formula.Op, p.Formula.K, p.Formula.kD, p.Formula.Kids⟩, p.oN, p.mw, p.mW, p.nU, p.ny, p.Keys⟩ : mI) = p := by
 rw [Ng]
def Ss (p : mI) : ByteArray × List lm × List nY × ByteArray × List lm × List nY × Int × Int × kD × List Formula × Int × mj × Int × Int × Int × List Key :=
 (p.kE.Name, p.kE.kQ, p.kE.li, p.Client.Name, p.Client.kQ, p.Client.li, p.Formula.Op, p.Formula.K, p.Formula.kD, p.Formula.Kids, p.oN, p.mw, p.mW, p.nU, p.ny, p.Keys)
theorem KX : ∀ (k n : Nat) (p : mI), PL p → k < n → k ≤ 30000 → qJ n ((k : Int) - 1) p.kE.Name p.kE.kQ p.kE.li p.Client.Name p.Client.kQ p.Client.li p.Formula.Op p.Formula.K p.Formula.kD p.Formula.Kids p.oN p.mw p.mW p.nU p.ny p.Keys = some (Ss (shr 0 k p))
 | k, 0, p, _, a, _ => absurd a (by omega)
 | 0, n + 1, p, _, _, _ => by rw [qJ, bB (by decide)]; rfl
 | k + 1, n + 1, p, h, a, hk => by
  rw [qJ, aX (by rw [bO]; omega), JB, show ((k + 1 : Nat) : Int) - 1 = (k : Int) by omega, FF p h, aA, (yb (h.drop 0 k)).1, aA, mg (by omega) (by omega), shr]
  cases yp (ry p 0 k)
  ·simp only [aB, aG, aA]
   exact KX k n p h (by omega) (by omega)
  ·simp only [aN, aA]
   exact KX k n _ (h.drop 0 k) (by omega) (by omega)
theorem JS : ∀ (k n : Nat) (p : mI), PL p → k < n → k ≤ 30000 → qD n ((k : Int) - 1) p.kE.Name p.kE.kQ p.kE.li p.Client.Name p.Client.kQ p.Client.li p.Formula.Op p.Formula.K p.Formula.kD p.Formula.Kids p.oN p.mw p.mW p.nU p.ny p.Keys = some (shr 0 (shr 1 k p).kE.kQ.length (shr 1 k p), true)
 | k, 0, p, _, a, _ => absurd a (by omega)
 | 0, n + 1, p, h, _, _ => by
  have b := h.lo
  rw [qD, bB (by decide), JB]
  have d : pu p 0 = some 0 := rfl
  rw [d, aA, mg (by omega) (by omega), KX _ lF p h (by rw [nt]; omega) b, aA]
  unfold Ss
  simp only [JB]
  rfl
 | k + 1, n + 1, p, h, a, hk => by
  rw [qD, aX (by rw [bO]; omega), JB, show ((k + 1 : Nat) : Int) - 1 = (k : Int) by omega, FF p h, aA, (yb (h.drop 1 k)).1, aA, mg (by omega) (by omega), shr]
  cases yp (ry p 1 k)
  ·simp only [aB, aG, aA]
   exact JS k n p h (by omega) (by omega)
  ·simp only [aN, aA]
   exact JS k n _ (h.drop 1 k) (by omega) (by omega)
noncomputable def Rx (p : mI) : mI := shr 0 (shr 1 p.Client.kQ.length p).kE.kQ.length (shr 1 p.Client.kQ.length p)
theorem Qo (p : mI) (h : PL p) : wk p = some (if yp p then (Rx p, true) else (p, false)) := by
 have a := h.lc
 unfold wk
 rw [(yb h).1, aA]
 cases yp p
 ·rfl
 ·simp only [bU, aB, aG, aN]
  have b : pu p 1 = some 3 := rfl
  rw [b, aA, mg (by omega) (by omega), JS _ lF p h (by rw [nt]; omega) a]
  rfl
end Go.Proofs.YtklbhegeiijbjaaGreat
namespace Go.Proofs.YtklbhegeiijbjaaGreat
open Go.RowKit
def sD : kF := ⟨1, sZ, M9, ⟨zS, zS⟩, ⟨zS, zS⟩, zS⟩
def Bg (l : List kF) : List lm := l.map fun c => Ci c tZ
def lP (l : List kF) : mI := ⟨⟨RC, [], []⟩, ⟨M9, Bg l, []⟩, GX sY, 0, ⟨0, 0⟩, 0, 0, 0, []⟩
theorem Ux : mS sD = true := by decide +kernel
theorem TS : sZ ≠ sY := fun h => absurd (bL (fun c => c.kL.data.toList) h) (by decide)
theorem TO : sc ≠ sD := fun h => TS (bL (fun c => c.Head) h).symm
theorem Nx {n : ByteArray} {l : List kF} {k : List nY} {d : kF} : EB ⟨n, Bg l, k⟩ d ↔ d ∈ l := by
 rw [Oj]
 unfold Bg
 rw [fJ]
 have : ((fun x : lm => x.Signed.kF) ∘ fun c => Ci c tZ) = id := rfl
 rw [this, List.map_id]
theorem NX : ∀ (l : List kF) (d : kF), d ∈ l → MB (Bg l) d = some tZ
 | [], d, h => by cases h
 | c :: l, d, h => by
  have ih := NX l d
  unfold MB Bg at *
  rw [bP, gU, show (Ci c tZ).Signed.kF = c from rfl]
  cases e : ng c d
  ·have : d ≠ c := fun he => by rw [he, om.2 rfl] at e; cases e
   exact ih ((aQ.1 h).resolve_left this)
  ·rfl
theorem NS {n : ByteArray} {l : List kF} (a : ∀ c ∈ l, mS c = true) (m : List kF) (peer : ByteArray) (d : kF) : uk ⟨n, Bg l, []⟩ m peer d ↔ d ∈ l := by
 unfold uk
 rw [Nx]
 refine ⟨fun h => h.1, fun h => ⟨h, a d h, ?_⟩⟩
 unfold Nv
 rw [Od, NX l d h]
 simp only [Qx]
 unfold xT
 rw [show oO tZ = true by decide +kernel, wR]
 rfl
theorem NM {n : ByteArray} {l : List kF} (h : l.length ≤ 100) : PB ⟨n, Bg l, []⟩ where
 DZ := by simp [Bg]; omega
 Ia := by simp
 rel := fun x a => by
  obtain ⟨c, _, rfl⟩ := bN.1 a
  exact Mw
 Gz := fun x a => by cases a
 P4 := fun x a => by cases a
theorem JD {l : List kF} (h : l.length ≤ 100) : PL (lP l) where
 o := by
  have := NM (n := RC) (l := []) (by simp)
  exact this
 c := NM h
 lo := by simp [lP]
 lc := by simp [lP, Bg]; omega
 f := by show lZ (GX sY) ≤ 50000000; decide +kernel
theorem Jv {l : List kF} (k : l.length ≤ 100) (hm : ∀ c ∈ l, c = sc ∨ c = sD) (m : l.Nodup) : yp (lP l) = sF ng l sc ∧ qt (lP l) = some (l.length : Int) := by
 have n : ∀ c ∈ l, mS c = true := fun c a => by rcases hm c a with rfl | rfl; exact TB; exact Ux
 have b := JD k
 obtain ⟨x, y, j, e, F, g, s⟩ := H3 (lP l).kE (lP l).Client (lP l).Formula b.o b.c b.lo b.lc b.f
 have d : ∀ c, c ∈ y ↔ c ∈ l := fun c => by rw [F.fy c]; exact NS n _ _ _
 have p : x = [] := List.eq_nil_iff_forall_not_mem.2 (fun c a => by
  have := ((F.fx c).1 a).1
  obtain ⟨z, q, _⟩ := this
  cases q)
 constructor
 ·unfold yp
  rw [g]
  show xT (vD y M9) (GX sY) = _
  unfold xT
  rw [RO, eO, QI, bT, tk om]
  constructor
  ·intro h
   rw [E9] at h
   obtain ⟨c, a, i⟩ := h.head
   have h1 := (d c).1 (cH.1 a).1
   rcases hm c h1 with rfl | rfl
   ·exact h1
   ·exact absurd i TS
  ·intro h
   exact Sh TB rfl ((d sc).2 h)
 ·unfold qt
  rw [e, aA, p]
  have r : y.length ≤ l.length := nm F.sy.nodup (fun c a => (d c).1 a)
  have a2 : l.length ≤ y.length := nm m (fun c a => (d c).2 a)
  rw [show y.length = l.length by omega]
  congr 1
  rw [mg (by simp) (by simp; omega)]
  simp
theorem RT : yp (lP [sc, sD]) = true ∧ qt (lP [sc, sD]) = some 2 := by
 have := Jv (l := [sc, sD]) (by simp) (by simp) (by simp [TO])
 rw [this.1, this.2]
 exact ⟨(tk om _ sc).2 (by simp), rfl⟩
theorem SH : yp (lP [sc]) = true ∧ qt (lP [sc]) = some 1 := by
 have := Jv (l := [sc]) (by simp) (by simp) (by simp)
 rw [this.1, this.2]
 exact ⟨(tk om _ sc).2 (by simp), rfl⟩
theorem Ug : yp (lP [sD]) = false := by
 have := Jv (l := [sD]) (by simp) (by simp) (by simp)
 rw [this.1, ← fW, tk om]; simp [TO]
theorem UB : yp (lP []) = false := by
 have := Jv (l := []) (by simp) (by simp) (by simp)
 rw [this.1, ← fW, tk om]; simp
theorem TM : ry (lP [sc, sD]) 1 0 = lP [sD] := by
 unfold ry wB
 rw [bB (by decide), aX rfl, aX (by unfold zi lP Bg; simp)]
 rfl
theorem TC : ry (lP [sc, sD]) 1 1 = lP [sc] := by
 unfold ry wB
 rw [bB (by decide), aX rfl, aX (by unfold zi lP Bg; simp)]
 rfl
theorem UE : ry (lP [sc]) 1 0 = lP [] := by
 unfold ry wB
 rw [bB (by decide), aX rfl, aX (by unfold zi lP Bg; simp)]
 rfl
theorem Tx : uF (lP [sc, sD]) = some [⟨1, 0⟩] := by
 rw [Qm _ (JD (by simp))]
 unfold DM
 rw [RT.1, aX rfl]
 show some (sH (lP [sc, sD]) 0 [] 0 ++ sH (lP [sc, sD]) 1 [Ci sc tZ, Ci sD tZ] 0) = _
 simp only [sH]
 rw [show ry (lP [sc, sD]) 1 ((0 : Nat) : Int) = _ from TM, show ry (lP [sc, sD]) 1 ((0 + 1 : Nat) : Int) = _ from TC, Ug, SH.1]
 rfl
theorem Qp : wk (lP [sc, sD]) = some (lP [sc], true) := by
 rw [Qo _ (JD (by simp)), RT.1, aX rfl]
 have : shr 1 2 (lP [sc, sD]) = lP [sc] := by
  rw [shr, show ry (lP [sc, sD]) 1 ((1 : Nat) : Int) = _ from TC, SH.1, aX rfl, shr, show ry (lP [sc]) 1 ((0 : Nat) : Int) = _ from UE, UB]
  rfl
 unfold Rx
 rw [show (lP [sc, sD]).Client.kQ.length = 2 from rfl, this]
 rfl
theorem QP : wQ = some true := by
 have d : Fl 1 (0 : Int) 8 = some (List.replicate 8 0) := by unfold Fl; rw [aX (by decide)]; rfl
 have k : pC sc = some (Ci sc tZ) := by unfold pC; rw [d]; rfl
 have l : pC sD = some (Ci sD tZ) := by unfold pC; rw [d]; rfl
 have a : pC (⟨1, (⟨(⟨#[120]⟩ : ByteArray), (⟨#[121]⟩ : ByteArray)⟩ : kD), (⟨#[99, 108, 105]⟩ : ByteArray), (⟨zS, zS⟩ : kD), (⟨zS, zS⟩ : kD), zS⟩ : kF) = _ := k
 have b : pC (⟨1, (⟨(⟨(⟨#[120]⟩ : ByteArray), (⟨#[121]⟩ : ByteArray)⟩ : kD).kE, (⟨#[122]⟩ : ByteArray)⟩ : kD), (⟨#[99, 108, 105]⟩ : ByteArray), (⟨zS, zS⟩ : kD), (⟨zS, zS⟩ : kD), zS⟩ : kF) = _ := l
 unfold wQ
 rw [a, aA, b, aA, aA]
 simp only
 have j : rl (lP [sc, sD]) 1 0 = some (lP [sD]) := by rw [FF _ (JD (by simp)), TM]
 rw [show (⟨⟨(⟨#[111, 119, 110]⟩ : ByteArray), [], []⟩, ⟨(⟨#[99, 108, 105]⟩ : ByteArray), [Ci sc tZ, Ci sD tZ], []⟩, ⟨1, 0, (⟨(⟨#[120]⟩ : ByteArray), (⟨#[121]⟩ : ByteArray)⟩ : kD), []⟩, 0, (⟨0, 0⟩ : mj), 0, 0, 0, []⟩ : mI) = lP [sc, sD] from rfl]
 rw [Tx, aA, Qp, aA, RT.2, SH.2, j]
 have g : xU (⟨1, 0⟩ : mj) ⟨1, 0⟩ = true := DC.2 rfl
 have h : mP (lP [sc]).Client.kQ 0 = some (Ci sc tZ) := rfl
 have i : ng (Ci sc tZ).Signed.kF sc = true := om.2 rfl
 rw [show mP [(⟨1, 0⟩ : mj)] 0 = some ⟨1, 0⟩ from rfl]
 simp only [aA, aJ, bV]
 rw [g, h]
 simp only [aA]
 rw [show (⟨1, (⟨(⟨#[120]⟩ : ByteArray), (⟨#[121]⟩ : ByteArray)⟩ : kD), (⟨#[99, 108, 105]⟩ : ByteArray), (⟨zS, zS⟩ : kD), (⟨zS, zS⟩ : kD), zS⟩ : kF) = sc from rfl, i]
 rfl
end Go.Proofs.YtklbhegeiijbjaaGreat
namespace Go.Proofs.YtklbhegeiijbjaaGreat
open Go.RowKit
theorem qN.take {s : List kF} (h : qN s) (n : Nat) : qN (s.take n) := ⟨h.1.sublist (List.take_sublist n s), fun c a => h.2 c (List.mem_of_mem_take a)⟩
end Go.Proofs.YtklbhegeiijbjaaGreat
namespace Go.Proofs.YtklbhegeiijbjaaGreat
open Go.RowKit
theorem bb {α β γ : Type} (x : Option α) (f : α → Option β) (g : β → Option γ) : (x.bind fun a => (f a).bind g) = (x.bind f).bind g := by cases x <;> rfl
end Go.Proofs.YtklbhegeiijbjaaGreat
namespace Go.Proofs.YtklbhegeiijbjaaGreat.Lf
open Go.ChangeShapes Go.WideShapes Go.ChangeAt Go.RowKit
open Go.Proofs.YtklbhegeiijbjaaGreat (Rows.uptoBulk Rows.uptoBulkAll Rows.uptoSmall)
theorem SI {H : Type} (d : DataW H) : 1 ≤ Rows.uptoBulk d := by
 cases d with
 | lit l => cases l <;> simp [Rows.uptoBulk]
 | nil => simp [Rows.uptoBulk]
 | ptr d => simp [Rows.uptoBulk]
 | slice a spare => simp [Rows.uptoBulk]
 | agg parts => simp [Rows.uptoBulk]
 | iface t d => simp [Rows.uptoBulk]
 | map entries => simp [Rows.uptoBulk]
 | held h => simp [Rows.uptoBulk]
def HR {α : Type} (P : Program) (t : TypeId) (enc : α → List Value) (sz : α → Nat) : Prop :=
 ∀ (H : Type) (b : TypeId × Value → H) (W : World) (base : Nat) (sp : Nat → Bool) (d : Bool) (fuel : Nat) (cs : List Value) (x : DataW H × List MemPlace),
  DataW.trod b P W base sp d fuel t cs = some x → ∃ a : α, cs = enc a ∧ sz a ≤ Rows.uptoBulk x.1
theorem ME {P : Program} {t : TypeId} (a : P.underlying t = some .string) : HR P t (fun s : ByteArray => [.string s]) (fun s => s.size) := by
 intro H b W base sp d fuel cs x h
 obtain ⟨s, rfl, rfl, _⟩ := DataW.trod_string a h
 refine ⟨s, rfl, ?_⟩
 have e : s.data.toList.length = s.size := by rw [dJ]; rfl
 simp [Rows.uptoBulk, e]
theorem QT {P : Program} {t : TypeId} {k : IntKind} (a : P.underlying t = some (.int k)) : HR P t (fun n : Int => [.int k n]) (fun _ => 0) := by
 intro H b W base sp d fuel cs x h
 obtain ⟨n, rfl, rfl, _⟩ := DataW.trod_int a h
 exact ⟨n, rfl, fL _⟩
theorem Q7 {α : Type} {n : Nat} {p : Nat → α → Prop} (h : ∀ i, i < n → ∃ x, p i x) : ∃ l : List α, l.length = n ∧ ∀ i x, l[i]? = some x → p i x := by
 induction n with
 | zero => exact ⟨[], rfl, by simp⟩
 | succ n ih =>
  obtain ⟨l, h1, d⟩ := ih fun i b => h i (by omega)
  obtain ⟨x, j⟩ := h n (by omega)
  refine ⟨l ++ [x], by simp [h1], fun i y a => ?_⟩
  by_cases b : i < l.length
  ·rw [iN b] at a
   exact d i y a
  ·rw [fX (by omega)] at a
   have : i - l.length = 0 := by
    cases g : i - l.length with
    | zero => rfl
    | succ m => rw [g] at a; simp at a
   rw [this] at a
   have e : i = n := by omega
   simp at a
   subst a; rw [e]; exact j
theorem Kc {W : World} {a : Addr} {v : Value} (h : W.cell? a = some v) : ∃ cs T fr, W.heap[a.block]? = some (.cells cs T fr) ∧ a.spot = none ∧ cs[a.off]? = some v := by
 unfold World.cell? at h
 split at h
 ·rename_i c T fr d
  by_cases b : a.spot.isSome
  ·simp [b] at h
  ·simp only [b] at h
   exact ⟨c, T, fr, d, by simpa using b, by simpa using h⟩
 ·cases h
theorem Ex.below {dd : Bool} {W W' : World} (h : Ex dd W W') : Below W.heap.size W W' := ⟨h.os, h.tape, h.output, h.size, h.nI⟩
theorem Es {H : Type} {k : TypeId × Value → H} {P : Program} (m : laidOutB P = true) {W W' : World} {b : Nat → Bool} :
  ∀ {i : List TypeId} {vs : List Value} {ds : List (DataW H)} {g : List MemPlace}, (∀ t ∈ i, P.readableRec t = true ∧ t < P.types.size) →
   DataW.TrodAll k P W 0 (fun _ => true) true i vs ds g → (∀ p ∈ g, W.sameAt W' p) → (∀ p ∈ g, b p.block = true) → DataW.TrodAll k P W' 0 b true i vs ds g
 | [], _, _, _, _, h, _, _ => by
  obtain ⟨rfl, rfl, rfl⟩ := trodAll_nil h
  exact trodAll_mk0
 | t :: i, _, _, _, j, h, h1, l => by
  obtain ⟨v, vs, d, ds, p, q, rfl, rfl, rfl, n, r⟩ := trodAll_cons h
  exact trodAll_cons_mk (WideElems.Trod_stays m (j t (by simp)).1 (j t (by simp)).2 n (fun x a => h1 x (by simp [a])) (fun x a => l x (by simp [a])))
   (Es m (fun u hu => j u (by simp [hu])) r (fun x a => h1 x (by simp [a])) (fun x a => l x (by simp [a])))
theorem My {H : Type} {enc : TypeId × Value → H} {P : Program} (J : laidOutB P = true) {f : Func} {s : ChangeSpec} {apart fresh handsOn again : Bool} {W W' : World} {args : Array Value} {v : Value} {ds gs : List (DataW H)} {before : List MemPlace} (M : ∀ t ∈ f.params.toList, P.readableRec t = true ∧ t < P.types.size) (m : s.vars = []) (u : DataW.Whole enc P f.params.toList s.vars apart W args.toList ds gs before) {dd : Bool} (E : Ex dd W W') (a : ∀ (b : Nat) (sp : Nat → Bool) (I : Bool), DataW.TrodAll enc P W' b sp I f.resultTypes.toList (v.resultList f.resultTypes.size) (s.fn H (ds ++ gs)).results []) (d : (s.fn H (ds ++ gs)).args = ds) (h : (s.fn H (ds ++ gs)).vars = []) (A : ∀ (j : Nat) (t : TypeId) (r : Value), f.resultTypes[j]? = some t → (v.resultList f.resultTypes.size)[j]? = some r → Value.okWide P W' .any 0 t r) :
  s.post enc P f apart fresh handsOn again W args v W' := by
 have g := u.lt
 have hold : ∀ p ∈ before, (fun b => decide (b < W.heap.size)) p.block = true := fun p hp => by simpa using g p hp
 have z := Ex.below E
 have y := u
 obtain ⟨p, q, G, F, k, O, L⟩ := u
 rw [m] at F
 obtain ⟨rfl, rfl⟩ := trodVars_none F
 rw [bG] at k
 subst k
 have l : ∀ sp : Nat → Bool, (∀ p ∈ before, sp p.block = true) → DataW.TrodAll enc P W' 0 sp true f.params.toList args.toList (s.fn H (ds ++ [])).args before := fun sp D => by
  rw [d]
  exact Es J M G (fun x E => z.same (g x E)) D
 have n : ∀ sp : Nat → Bool, DataW.TrodVars enc P W' sp s.vars (s.fn H (ds ++ [])).vars [] := fun sp => by
  rw [h, m]; rfl
 refine ⟨ds, [], before, [], before, [], y, a _ _ _, l _ hold, n _, World.keptBut_mono (fun p hp => ⟨hp, ?_⟩) (z.frame (· ∈ before)), fun _ => ?_⟩
 ·exact Or.inr (Or.inl hp)
 ·refine ⟨A, _, _, ([] ++ before) ++ [], ⟨[] ++ before, [], trodAll_append (l _ (fun _ _ => rfl)) (a _ _ _), n _, rfl, ?_, ?_⟩, ?_⟩
  ·intro b off hp
   have i : MemPlace.cell b off ∈ before := by simpa using hp
   rw [World.frozen?_of_block (w := W) (z.block b (g _ i))]
   exact O b off i
  ·intro ha
   simpa using L ha
  ·intro p hp _
   simpa using hp
end Go.Proofs.YtklbhegeiijbjaaGreat.Lf
namespace Go.Proofs.YtklbhegeiijbjaaGreat.Lf
open Go.ChangeShapes Go.WideShapes Go.ChangeAt Go.RowKit
open Go.Proofs.YtklbhegeiijbjaaGreat (Rows.uptoBulk Rows.uptoBulkAll Rows.uptoSmall)
def Fy {α : Type} (P : Program) (t : TypeId) (R : rA α) (sz : α → Nat) : Prop :=
 ∀ (H : Type) (b : TypeId × Value → H) (W : World) (base : Nat) (sp : Nat → Bool) (d : Bool) (fuel : Nat) (cs : List Value) (x : DataW H × List MemPlace),
  DataW.trod b P W base sp d fuel t cs = some x → ∃ a : α, R (hp W) cs a ∧ sz a ≤ Rows.uptoBulk x.1
theorem HR.rel {α : Type} {P : Program} {t : TypeId} {enc : α → List Value} {sz : α → Nat} (h : HR P t enc sz) : Fy P t (Pl enc) sz := fun H a W base sp b fuel cs x d => h H a W base sp b fuel cs x d
end Go.Proofs.YtklbhegeiijbjaaGreat.Lf
namespace Go.Proofs.YtklbhegeiijbjaaGreat.Lf
open Go.ChangeShapes Go.WideShapes Go.ChangeAt Go.RowKit
open Go.Proofs.YtklbhegeiijbjaaGreat (Rows.uptoBulk Rows.uptoBulkAll Rows.uptoSmall)
theorem Gk {H : Type} : ∀ l : List (DataW H), Rows.uptoBulkAll l = (l.map Rows.uptoBulk).sum
 | [] => by simp [Rows.uptoBulkAll]
 | d :: l => by simp [Rows.uptoBulkAll, Gk l]
theorem NZ {α : Type} (g : α → Nat) : ∀ (n : Nat) (f : Nat → Nat) {l : List α}, l.length = n → (∀ i x, l[i]? = some x → g x ≤ f i) → (l.map g).sum ≤ ((List.range n).map f).sum
 | 0, f, l, b, h => by
  obtain rfl := eZ.1 b
  simp
 | n + 1, f, [], b, h => by cases b
 | n + 1, f, a :: l, b, h => by
  rw [List.range_succ_eq_map, bP, bP, gM, gM, fJ]
  have h1 := h 0 a rfl
  have j := NZ g n (f ∘ Nat.succ) (l := l) (by simpa using b) (fun i x d => h (i + 1) x (by simpa using d))
  omega
def tG {α : Type} (sz : α → Nat) (l : List α) : Nat := (l.map fun a => max 1 (sz a)).sum
theorem DA {α : Type} (sz : α → Nat) : ∀ l : List α, l.length ≤ tG sz l
 | [] => aZ _
 | a :: l => by have := DA sz l; simp only [tG, bP, gM, aJ] at this ⊢; omega
theorem HM {α : Type} {sz : α → Nat} : ∀ {l : List α} {a : α}, a ∈ l → sz a ≤ tG sz l
 | b :: l, a, h => by
  simp only [tG, bP, gM]
  rcases aQ.1 h with rfl | h
  ·omega
  ·have := HM (sz := sz) h; simp only [tG] at this; omega
theorem F2 {α : Type} {P : Program} {t e : TypeId} {k : Nat} {R : rA α} {sz : α → Nat} (hk : P.cellsOf e = k) (L : 0 < k) (ht : P.underlying t = some (.slice e)) {H : Type} {Y : TypeId × Value → H} {W : World} {base : Nat} {sp : Nat → Bool} {held : Bool} {fuel : Nat} {cs : List Value} {x : DataW H × List MemPlace} (hd : ∀ (fuel : Nat) (cs : List Value) (y : DataW H × List MemPlace), DataW.trod Y P W base sp held fuel e cs = some y → SizeOf.sizeOf y.1 < SizeOf.sizeOf x.1 → ∃ a : α, R (hp W) cs a ∧ sz a ≤ Rows.uptoBulk y.1) (hf : DataW.trod Y P W base sp held fuel t cs = some x) :
  ∃ v l, cs = [v] ∧ Sl R k (hp W) v l ∧ tG sz l ≤ Rows.uptoBulk x.1 := by
 rcases Go.Deep.open_slice ht hf with ⟨rfl, rfl⟩ | ⟨a, ln, cp, m, n, D, Q, rfl, hb, hl, hm, O, rfl, I⟩
 ·exact ⟨_, [], rfl, ⟨none, 0, rfl, aZ _, fL _, fun h => absurd h (Nat.lt_irrefl _)⟩, fL _⟩
 ·have aa : ln ≤ m := by rw [O]; split <;> omega
  have hB : ((List.range ln).map fun i => Rows.uptoBulk (D i)).sum ≤ Rows.uptoBulk (DataW.slice ((List.range ln).map D) ((List.range (m - ln)).map fun j => D (ln + j))) := by
   simp only [Rows.uptoBulk]
   rw [Gk, fJ]
   have e : ((List.range ln).map fun i => Rows.uptoBulk (D i)) = (List.range ln).map (Rows.uptoBulk ∘ D) := rfl
   rw [e]
   omega
  have hS : ∀ i, i < ln → SizeOf.sizeOf (D i) < SizeOf.sizeOf (DataW.slice ((List.range ln).map D) ((List.range (m - ln)).map fun j => D (ln + j))) := fun i J => by
   have := List.sizeOf_lt_of_mem (bN.2 ⟨i, List.mem_range.2 J, rfl⟩ : D i ∈ (List.range ln).map D)
   rw [DataW.slice.sizeOf_spec]; omega
  simp only at hd ⊢
  generalize Rows.uptoBulk (DataW.slice ((List.range ln).map D) ((List.range (m - ln)).map fun j => D (ln + j))) = B at hB
  obtain ⟨l, M, s⟩ := Q7 (α := α) (n := ln) (p := fun i x => ∃ b, W.cells? base (a.add (i * k)) k = some b ∧ R (hp W) b x ∧ sz x ≤ Rows.uptoBulk (D i)) fun i J => by
   obtain ⟨b, h1, A⟩ := I i (by omega)
   obtain ⟨x, hR, E⟩ := hd _ _ _ A (hS i J)
   rw [hk] at h1
   exact ⟨x, b, h1, hR, E⟩
  subst M
  refine ⟨_, l, rfl, ⟨some a, cp, rfl, hl, hm, fun h0 => ?_⟩, ?_⟩
  ·have d : ∀ i x, l[i]? = some x → ∃ b, R (hp W) b x ∧ b.length = k ∧ ∀ j, j < k → W.cell? ((a.add (i * k)).add j) = b[j]? := fun i x u =>
    let ⟨b, h1, A, _⟩ := s i x u
    let ⟨_, E, Z⟩ := World.cells?_some h1
    ⟨b, A, E, Z⟩
   obtain ⟨a6, _, Z, h5⟩ := d 0 l[0] (by simp [h0])
   have F := h5 0 L
   rw [Nat.zero_mul, dB (by omega)] at F
   have e0 : (a.add 0).add 0 = a := rfl
   rw [e0] at F
   obtain ⟨cs, T, fr, G, h8, _⟩ := Kc F
   obtain ⟨w, z, a1⟩ := a
   simp only at G h8
   subst h8
   refine ⟨w, z, cs, T, fr, rfl, G, fun i x u => ?_⟩
   obtain ⟨b, gR, g1, g2⟩ := d i x u
   refine ⟨b, g1, gR, fun j y hy => ?_⟩
   have hj : j < k := by
    rw [← g1]
    exact (bM.1 hy).1
   have h9 := g2 j hj
   rw [Go.Deep.add_add, hy] at h9
   obtain ⟨U, T', a7, g, a8, q⟩ := Kc h9
   have r : (Addr.add ⟨w, z, none⟩ (i * k + j)).block = w ∧ (Addr.add ⟨w, z, none⟩ (i * k + j)).off = z + (i * k + j) := by
    unfold Addr.add
    split
    ·rename_i hz
     rw [hz]; exact ⟨rfl, rfl⟩
    ·exact ⟨rfl, rfl⟩
   rw [r.1, G] at g
   cases g
   rw [r.2, ← fI] at q
   exact q
  ·refine dF (NZ _ _ _ rfl fun i x u => ?_) hB
   exact Nat.max_le.2 ⟨SI _, (s i x u).elim fun _ h => h.2.2⟩
theorem uA {α : Type} {P : Program} {t e : TypeId} {k : Nat} {R : rA α} {sz : α → Nat} (hk : P.cellsOf e = k) (a : 0 < k) (d : Fy P e R sz) (i : P.underlying t = some (.slice e)) {H : Type} {b : TypeId × Value → H} {W : World} {base : Nat} {sp : Nat → Bool} {held : Bool} {fuel : Nat} {cs : List Value} {x : DataW H × List MemPlace} (g : DataW.trod b P W base sp held fuel t cs = some x) :
  ∃ v l, cs = [v] ∧ Sl R k (hp W) v l ∧ tG sz l ≤ Rows.uptoBulk x.1 := F2 hk a i (fun _ _ _ h _ => d _ _ _ _ _ _ _ _ _ h) g
end Go.Proofs.YtklbhegeiijbjaaGreat.Lf
namespace Go.Proofs.YtklbhegeiijbjaaGreat.Lf
open Go.ChangeShapes Go.WideShapes Go.ChangeAt Go.RowKit
open Go.Proofs.YtklbhegeiijbjaaGreat (Rows.uptoBulk Rows.uptoBulkAll Rows.uptoSmall)
def Md {α : Type} (R : rA α) (Q : α → Prop) : rA α := fun μ ys x => R μ ys x ∧ Q x
theorem Sl.all {α : Type} {R : rA α} {Q : α → Prop} {k : Nat} {μ : lQ} {v : Value} {l : List α} (h : Sl (Md R Q) k μ v l) : Sl R k μ v l ∧ ∀ x ∈ l, Q x := by
 obtain ⟨A, c, rfl, h1, j, q⟩ := h
 cases l with
 | nil => exact ⟨⟨A, c, rfl, h1, j, fun h => absurd h (by simp)⟩, by simp⟩
 | cons a l =>
  obtain ⟨b, o, cs, T, fr, e, r, m⟩ := q (by simp)
  refine ⟨⟨A, c, rfl, h1, j, fun _ => ⟨b, o, cs, T, fr, e, r, fun i x g => ?_⟩⟩, fun x g => ?_⟩
  ·obtain ⟨ys, n, d, p⟩ := m i x g
   exact ⟨ys, n, d.1, p⟩
  ·obtain ⟨i, s⟩ := List.mem_iff_getElem?.1 g
   obtain ⟨ys, n, d, p⟩ := m i x s
   exact d.2
theorem QW {P : Program} {t : TypeId} (a : P.underlying t = some (.int .u8)) : Fy P t (Md (Pl (mM .u8)) (fun x => 0 ≤ x ∧ x < 256)) (fun _ => 0) := by
 intro H b W base sp d fuel cs x h
 obtain ⟨n, rfl, rfl, hw⟩ := DataW.trod_int a h
 refine ⟨n, ⟨rfl, ?_⟩, fL _⟩
 simp [Lit.wf, IntKind.min, IntKind.max, IntKind.bits, IntKind.signed] at hw
 omega
theorem Lr {P : Program} {W : World} {r : Reach} {base n : Nat} {t e : TypeId} {v : Value} (b : P.underlying t = some (.array n e)) (h : Value.okWide P W r base t v) : ∃ cs, v = .agg cs ∧ cs.size = P.cellsOf t := by
 simp only [Value.okWide, b] at h
 obtain ⟨cs, h1, a, _⟩ := h
 exact ⟨cs, h1, a⟩
end Go.Proofs.YtklbhegeiijbjaaGreat.Lf
namespace Go.Proofs.YtklbhegeiijbjaaGreat
set_option maxRecDepth 10000
open Go.ChangeShapes Go.WideShapes Go.ChangeAt Go.RowKit
open Go.Proofs.YtklbhegeiijbjaaGreat Go.Proofs.YtklbhegeiijbjaaGreat.Lf
theorem Rq : Tryz.prog.cellsOf 93 = 18 := by kernel_rfl
theorem Rw {α : Type} {l : List α} (h : l.length = 9) : ∃ a0 a a2 a3 a4 a5 b d g, l = [a0, a, a2, a3, a4, a5, b, d, g] := by
 match l, h with
 | [a0, a, a2, a3, a4, a5, b, d, g], _ => exact ⟨a0, a, a2, a3, a4, a5, b, d, g, rfl⟩
theorem Tp {α : Type} {l : List α} (h : l.length = 18) : ∃ a0 k a2 a3 a4 a5 m n p a9 a b a12 d g i j a17, l = [a0, k, a2, a3, a4, a5, m, n, p, a9, a, b, a12, d, g, i, j, a17] := by
 match l, h with
 | [a0, k, a2, a3, a4, a5, m, n, p, a9, a, b, a12, d, g, i, j, a17], _ => exact ⟨a0, k, a2, a3, a4, a5, m, n, p, a9, a, b, a12, d, g, i, j, a17, rfl⟩
theorem Ri : Tryz.prog.cellsOf 25 = 3 := by kernel_rfl
theorem PT {α : Type} {l : List α} (h : l.length = 3) : ∃ a0 a a2, l = [a0, a, a2] := by
 match l, h with
 | [a0, a, a2], _ => exact ⟨a0, a, a2, rfl⟩
theorem E1 : Tryz.prog.cellsOf 9 = 1 := by kernel_rfl
theorem GA : HR Tryz.prog 9 (fun s : ByteArray => [.string s]) (fun s => s.size) := ME Tryz.underlying9
theorem LA : Tryz.prog.cellsOf 22 = 1 := by kernel_rfl
theorem Ii : Tryz.prog.cellsOf 60 = 15 := by kernel_rfl
theorem Ff {α : Type} {l : List α} (h : l.length = 2) : ∃ a0 a, l = [a0, a] := by
 match l, h with
 | [a0, a], _ => exact ⟨a0, a, rfl⟩
theorem SQ {α : Type} {l : List α} (h : l.length = 15) : ∃ a0 i a2 a3 a4 a5 j k m a9 a b a12 d g, l = [a0, i, a2, a3, a4, a5, j, k, m, a9, a, b, a12, d, g] := by
 match l, h with
 | [a0, i, a2, a3, a4, a5, j, k, m, a9, a, b, a12, d, g], _ => exact ⟨a0, i, a2, a3, a4, a5, j, k, m, a9, a, b, a12, d, g, rfl⟩
theorem Rg : Tryz.prog.cellsOf 55 = 10 := by kernel_rfl
theorem Ib : Tryz.prog.cellsOf 52 = 9 := by kernel_rfl
theorem DX : HR Tryz.prog 3 (fun n : Int => [.int .i64 n]) (fun _ => 0) := QT Tryz.underlying3
theorem Hf : Tryz.prog.cellsOf 3 = 1 := by kernel_rfl
theorem Fz : Tryz.prog.cellsOf 50 = 2 := by kernel_rfl
def yE (x : kD) : Nat := x.kE.size + x.kL.size
theorem Hs : HR Tryz.prog 50 kR yE := by
 intro H g W base sp j fuel cs x h
 obtain ⟨xs, n, _, rfl, p, hlen, k⟩ := eK Tryz.underlying50 h
 obtain ⟨r, s, rfl⟩ := Ff hlen
 obtain ⟨a, c1, rfl⟩ := Ff (p.trans Fz)
 have i : DataW.trod g Tryz.prog W base sp j n 9 (([a, c1].drop 0).take (Tryz.prog.cellsOf 9)) = some r := k 0 _ rfl
 have h1 : DataW.trod g Tryz.prog W base sp j n 9 (([a, c1].drop 1).take (Tryz.prog.cellsOf 9)) = some s := k 1 _ rfl
 simp only [E1, List.drop, List.take] at i h1
 obtain ⟨q, b, l⟩ := GA _ _ _ _ _ _ _ _ _ i
 obtain ⟨s1, d, m⟩ := GA _ _ _ _ _ _ _ _ _ h1
 simp only [bE, dS] at b d
 obtain rfl := b
 obtain rfl := d
 refine ⟨⟨q, s1⟩, rfl, ?_⟩
 simp only [List.map, Rows.uptoBulk, Rows.uptoBulkAll, yE] at l m ⊢
 omega
theorem TT {α : Type} {l : List α} (h : l.length = 6) : ∃ a0 a a2 a3 a4 a5, l = [a0, a, a2, a3, a4, a5] := by
 match l, h with
 | [a0, a, a2, a3, a4, a5], _ => exact ⟨a0, a, a2, a3, a4, a5, rfl⟩
def wg (x : kF) : Nat := yE x.Head + x.ma.size + yE x.B + yE x.C + x.mc.size
theorem P6 : HR Tryz.prog 52 kK wg := by
 intro H l W base sp m fuel cs x h
 obtain ⟨xs, n, _, rfl, M, hlen, p⟩ := eK Tryz.underlying52 h
 obtain ⟨T, U, Y, Z, y4, y5, rfl⟩ := TT hlen
 obtain ⟨a, c1, c2, b, d, g, i, j, k, rfl⟩ := Rw (M.trans Ib)
 have w : DataW.trod l Tryz.prog W base sp m n 3 (([a, c1, c2, b, d, g, i, j, k].drop 0).take (Tryz.prog.cellsOf 3)) = some T := p 0 _ rfl
 have h1 : DataW.trod l Tryz.prog W base sp m n 50 (([a, c1, c2, b, d, g, i, j, k].drop 1).take (Tryz.prog.cellsOf 50)) = some U := p 1 _ rfl
 have y : DataW.trod l Tryz.prog W base sp m n 9 (([a, c1, c2, b, d, g, i, j, k].drop 3).take (Tryz.prog.cellsOf 9)) = some Y := p 2 _ rfl
 have z : DataW.trod l Tryz.prog W base sp m n 50 (([a, c1, c2, b, d, g, i, j, k].drop 4).take (Tryz.prog.cellsOf 50)) = some Z := p 3 _ rfl
 have A : DataW.trod l Tryz.prog W base sp m n 50 (([a, c1, c2, b, d, g, i, j, k].drop 6).take (Tryz.prog.cellsOf 50)) = some y4 := p 4 _ rfl
 have D : DataW.trod l Tryz.prog W base sp m n 9 (([a, c1, c2, b, d, g, i, j, k].drop 8).take (Tryz.prog.cellsOf 9)) = some y5 := p 5 _ rfl
 simp only [Hf, Fz, E1, List.drop, List.take] at w h1 y z A D
 obtain ⟨O, q, E⟩ := DX _ _ _ _ _ _ _ _ _ w
 obtain ⟨s1, r, F⟩ := Hs _ _ _ _ _ _ _ _ _ h1
 obtain ⟨s2, s, G⟩ := GA _ _ _ _ _ _ _ _ _ y
 obtain ⟨P, t, I⟩ := Hs _ _ _ _ _ _ _ _ _ z
 obtain ⟨Q, u, J⟩ := Hs _ _ _ _ _ _ _ _ _ A
 obtain ⟨R, v, L⟩ := GA _ _ _ _ _ _ _ _ _ D
 simp only [kR, bE, dS] at q r s t u v
 obtain rfl := q
 obtain ⟨rfl, rfl⟩ := r
 obtain rfl := s
 obtain ⟨rfl, rfl⟩ := t
 obtain ⟨rfl, rfl⟩ := u
 obtain rfl := v
 refine ⟨⟨O, s1, s2, P, Q, R⟩, rfl, ?_⟩
 simp only [List.map, Rows.uptoBulk, Rows.uptoBulkAll, wg] at E F G I J L ⊢
 omega
theorem Lx : Tryz.prog.cellsOf 53 = 1 := by kernel_rfl
theorem NO : Tryz.prog.cellsOf 5 = 1 := by kernel_rfl
theorem Qc : Fy Tryz.prog 5 (Md (Pl (mM .u8)) (fun x => 0 ≤ x ∧ x < 256)) (fun _ => 0) := QW Tryz.underlying5
theorem Dz : Tryz.prog.cellsOf 58 = 5 := by kernel_rfl
theorem Ua {α : Type} {l : List α} (h : l.length = 4) : ∃ a0 a a2 a3, l = [a0, a, a2, a3] := by
 match l, h with
 | [a0, a, a2, a3], _ => exact ⟨a0, a, a2, a3, rfl⟩
theorem T9 {α : Type} {l : List α} (h : l.length = 5) : ∃ a0 a a2 a3 a4, l = [a0, a, a2, a3, a4] := by
 match l, h with
 | [a0, a, a2, a3, a4], _ => exact ⟨a0, a, a2, a3, a4, rfl⟩
theorem Q8 : Tryz.prog.cellsOf 56 = 1 := by kernel_rfl
theorem TX {H : Type} {x : DataW H × List MemPlace} {ys : List (DataW H × List MemPlace)} {p : List MemPlace} (a : x = (.agg (ys.map (·.1)), p)) (i : Nat) {y : DataW H × List MemPlace} (h : ys[i]? = some y) : SizeOf.sizeOf y.1 < SizeOf.sizeOf x.1 := by
 subst a
 have := List.sizeOf_lt_of_mem (bN.2 ⟨y, dP h, rfl⟩ : y.1 ∈ ys.map (·.1))
 simp only [DataW.agg.sizeOf_spec]; omega
theorem Kf : ∀ l : List Formula, szFL l ≤ tG Ae l
 | [] => aZ _
 | k :: l => by have := Kf l; rw [szFL]; simp only [tG, bP, gM] at this ⊢; omega
theorem RS : ∀ (N : Nat) (H : Type) (I : TypeId × Value → H) (W : World) (base : Nat) (sp : Nat → Bool) (J : Bool) (fuel : Nat) (cs : List Value) (x : DataW H × List MemPlace),
  DataW.trod I Tryz.prog W base sp J fuel 58 cs = some x → SizeOf.sizeOf x.1 < N → ∃ a : Formula, kG (hp W) cs a ∧ Ae a ≤ Rows.uptoBulk x.1 := by
 intro N
 induction N with
 | zero => intro _ _ _ _ _ _ _ _ _ _ h; exact absurd h (Nat.not_lt_zero _)
 | succ N ih =>
  intro H I W base sp J fuel cs x h hN
  obtain ⟨a1, w, _, r, A, q, k⟩ := eK Tryz.underlying58 h
  obtain ⟨s, t, u, v, rfl⟩ := Ua q
  obtain ⟨b, d, g, i, j, rfl⟩ := T9 (A.trans Dz)
  have l : DataW.trod _ Tryz.prog W _ _ _ w 3 (([b, d, g, i, j].drop 0).take (Tryz.prog.cellsOf 3)) = some s := k 0 _ rfl
  have m : DataW.trod _ Tryz.prog W _ _ _ w 3 (([b, d, g, i, j].drop 1).take (Tryz.prog.cellsOf 3)) = some t := k 1 _ rfl
  have n : DataW.trod _ Tryz.prog W _ _ _ w 50 (([b, d, g, i, j].drop 2).take (Tryz.prog.cellsOf 50)) = some u := k 2 _ rfl
  have p : DataW.trod _ Tryz.prog W _ _ _ w 56 (([b, d, g, i, j].drop 4).take (Tryz.prog.cellsOf 56)) = some v := k 3 _ rfl
  simp only [Hf, Fz, Q8, List.drop, List.take] at l m n p
  obtain ⟨s2, D, O⟩ := DX _ _ _ _ _ _ _ _ _ l
  simp only [bE, dS] at D
  obtain rfl := D
  obtain ⟨Y, E, P⟩ := DX _ _ _ _ _ _ _ _ _ m
  simp only [bE, dS] at E
  obtain rfl := E
  obtain ⟨Z, F, Q⟩ := Hs _ _ _ _ _ _ _ _ _ n
  simp only [kR, bE, dS] at F
  obtain ⟨rfl, rfl⟩ := F
  obtain ⟨v5, L, G, U, R⟩ := F2 Dz (by decide) Tryz.underlying56 (fun f cs y h T => ih _ _ _ _ _ _ _ _ _ h (by have := TX r 3 rfl; omega)) p
  simp only [bE, dS] at G
  obtain rfl := G
  have M := bL (fun z => Rows.uptoBulk z.1) r
  refine ⟨⟨s2, Y, Z, L⟩, kG.mk ⟨_, rfl, U⟩, ?_⟩
  have T := Kf L
  simp only [List.map, Rows.uptoBulk, Rows.uptoBulkAll, yE] at O P Q R M ⊢
  rw [Ky]
  simp only
  omega
theorem JI : Fy Tryz.prog 58 kG Ae := fun H a W base sp b fuel cs x h => RS _ H a W base sp b fuel cs x h (bF _)
def vH (x : lm) : Nat := wg x.Signed.kF + tG (fun _ : Int => 0) x.Signed.Tag + 1 + Ae x.kJ + 1
def Ow (x : lm) : Prop := (∀ y ∈ x.Signed.Tag, 0 ≤ y ∧ y < 256)
theorem Oh : Fy Tryz.prog 60 (Md kY Ow) vH := by
 intro H eh W base sp hd fuel cs x h
 obtain ⟨a6, n6, _, R, Q, A, G⟩ := eK Tryz.underlying60 h
 obtain ⟨J, L, rfl⟩ := Ff A
 obtain ⟨a, b, d, g, i, j, k, l, m, n, p, q, r, s, t, rfl⟩ := SQ (Q.trans Ii)
 have u : DataW.trod _ Tryz.prog W _ _ _ n6 55 (([a, b, d, g, i, j, k, l, m, n, p, q, r, s, t].drop 0).take (Tryz.prog.cellsOf 55)) = some J := G 0 _ rfl
 have v : DataW.trod _ Tryz.prog W _ _ _ n6 58 (([a, b, d, g, i, j, k, l, m, n, p, q, r, s, t].drop 10).take (Tryz.prog.cellsOf 58)) = some L := G 1 _ rfl
 simp only [Rg, Dz, List.drop, List.take] at u v
 obtain ⟨a7, n7, _, T, a1, D, I⟩ := eK Tryz.underlying55 u
 obtain ⟨M, O, rfl⟩ := Ff D
 have w : DataW.trod _ Tryz.prog W _ _ _ n7 52 (([a, b, d, g, i, j, k, l, m, n].drop 0).take (Tryz.prog.cellsOf 52)) = some M := I 0 _ rfl
 have y : DataW.trod _ Tryz.prog W _ _ _ n7 53 (([a, b, d, g, i, j, k, l, m, n].drop 9).take (Tryz.prog.cellsOf 53)) = some O := I 1 _ rfl
 simp only [Ib, Lx, List.drop, List.take] at w y
 obtain ⟨s8, Z, b8⟩ := P6 _ _ _ _ _ _ _ _ _ w
 simp only [kK, kR, bE, dS] at Z
 obtain ⟨rfl, rfl, rfl, rfl, rfl, rfl, rfl, rfl, rfl⟩ := Z
 obtain ⟨v9, s9, e9, U, b9⟩ := uA NO (by decide) Qc Tryz.underlying53 y
 simp only [bE, dS] at e9
 obtain rfl := e9
 obtain ⟨U, g9⟩ := Lf.Sl.all U
 have b7 := bL (fun z => Rows.uptoBulk z.1) T
 obtain ⟨Y, E, P⟩ := JI _ _ _ _ _ _ _ _ _ v
 obtain ⟨v10, F, E⟩ := E.out
 simp only [bE, dS] at F
 obtain ⟨rfl, rfl, rfl, rfl, rfl⟩ := F
 have b6 := bL (fun z => Rows.uptoBulk z.1) R
 refine ⟨⟨⟨s8, s9⟩, Y⟩, ⟨kY.mk ⟨_, _, rfl, U, E⟩, g9⟩, ?_⟩
 simp only [List.map, Rows.uptoBulk, Rows.uptoBulkAll, vH] at b8 b9 b7 P b6 ⊢
 omega
theorem LX : Tryz.prog.cellsOf 23 = 1 := by kernel_rfl
theorem Iq : Tryz.prog.cellsOf 87 = 8 := by kernel_rfl
theorem Ud {α : Type} {l : List α} (h : l.length = 8) : ∃ a0 a a2 a3 a4 a5 b d, l = [a0, a, a2, a3, a4, a5, b, d] := by
 match l, h with
 | [a0, a, a2, a3, a4, a5, b, d], _ => exact ⟨a0, a, a2, a3, a4, a5, b, d, rfl⟩
theorem Qn : Tryz.prog.cellsOf 28 = 1 := by kernel_rfl
def yU (x : nY) : Nat := yE x.kD + Ae x.kJ + tG wg x.nf + 1
def Ts (x : nY) : Prop := True
theorem OE : Fy Tryz.prog 87 (Md lO Ts) yU := by
 intro H U W base sp Y fuel cs x h
 obtain ⟨Q, n11, _, E, D, r, q⟩ := eK Tryz.underlying87 h
 obtain ⟨t, u, v, rfl⟩ := PT r
 obtain ⟨a, b, d, g, i, j, k, l, rfl⟩ := Ud (D.trans Iq)
 have m : DataW.trod _ Tryz.prog W _ _ _ n11 50 (([a, b, d, g, i, j, k, l].drop 0).take (Tryz.prog.cellsOf 50)) = some t := q 0 _ rfl
 have n : DataW.trod _ Tryz.prog W _ _ _ n11 58 (([a, b, d, g, i, j, k, l].drop 2).take (Tryz.prog.cellsOf 58)) = some u := q 1 _ rfl
 have p : DataW.trod _ Tryz.prog W _ _ _ n11 28 (([a, b, d, g, i, j, k, l].drop 7).take (Tryz.prog.cellsOf 28)) = some v := q 2 _ rfl
 simp only [Qn, Fz, Dz, List.drop, List.take] at m n p
 obtain ⟨M, w, G⟩ := Hs _ _ _ _ _ _ _ _ _ m
 simp only [kR, bE, dS] at w
 obtain ⟨rfl, rfl⟩ := w
 obtain ⟨O, s, I⟩ := JI _ _ _ _ _ _ _ _ _ n
 obtain ⟨R, y, s⟩ := s.out
 simp only [bE, dS] at y
 obtain ⟨rfl, rfl, rfl, rfl, rfl⟩ := y
 obtain ⟨T, P, A, L, J⟩ := uA Ib (by decide) P6.rel Tryz.underlying28 p
 simp only [bE, dS] at A
 obtain rfl := A
 have F := bL (fun z => Rows.uptoBulk z.1) E
 refine ⟨⟨M, O, P⟩, ⟨lO.mk ⟨_, _, rfl, s, L⟩, trivial⟩, ?_⟩
 simp only [List.map, Rows.uptoBulk, Rows.uptoBulkAll, yU] at G I J F ⊢
 omega
theorem Mm : Tryz.prog.cellsOf 91 = 2 := by kernel_rfl
def Fw (x : mj) : Nat := 0
theorem PY : HR Tryz.prog 91 mE Fw := by
 intro H g W base sp j fuel cs x h
 obtain ⟨xs, n, _, rfl, p, hlen, k⟩ := DataW.trod_array Tryz.underlying91 h
 obtain ⟨r, s, rfl⟩ := Ff hlen
 obtain ⟨a, c1, rfl⟩ := Ff (p.trans Mm)
 have i : DataW.trod g Tryz.prog W base sp j n 3 (([a, c1].drop (0 * Tryz.prog.cellsOf 3)).take (Tryz.prog.cellsOf 3)) = some r := k 0 (by decide)
 have h1 : DataW.trod g Tryz.prog W base sp j n 3 (([a, c1].drop (1 * Tryz.prog.cellsOf 3)).take (Tryz.prog.cellsOf 3)) = some s := k 1 (by decide)
 simp only [Hf, List.drop, List.take, Nat.reduceMul] at i h1
 obtain ⟨q, b, l⟩ := DX _ _ _ _ _ _ _ _ _ i
 obtain ⟨s1, d, m⟩ := DX _ _ _ _ _ _ _ _ _ h1
 simp only [bE, dS] at b d
 obtain rfl := b
 obtain rfl := d
 refine ⟨⟨q, s1⟩, rfl, ?_⟩
 simp only [List.map, Rows.uptoBulk, Rows.uptoBulkAll, Fw] at l m ⊢
 omega
theorem QS : Tryz.prog.cellsOf 37 = 1 := by kernel_rfl
theorem KK : Tryz.prog.cellsOf 118 = 2 := by kernel_rfl
def Cx (x : Key) : Nat := x.ma.size + tG (fun _ : Int => 0) x.Key + 1
def Tq (x : Key) : Prop := (∀ y ∈ x.Key, 0 ≤ y ∧ y < 256)
theorem Rj : Fy Tryz.prog 118 (Md ou Tq) Cx := by
 intro H A W base sp D fuel cs x h
 obtain ⟨y, n15, _, r, q, i, j⟩ := eK Tryz.underlying118 h
 obtain ⟨l, m, rfl⟩ := Ff i
 obtain ⟨a, b, rfl⟩ := Ff (q.trans KK)
 have d : DataW.trod _ Tryz.prog W _ _ _ n15 9 (([a, b].drop 0).take (Tryz.prog.cellsOf 9)) = some l := j 0 _ rfl
 have g : DataW.trod _ Tryz.prog W _ _ _ n15 53 (([a, b].drop 1).take (Tryz.prog.cellsOf 53)) = some m := j 1 _ rfl
 simp only [Lx, E1, List.drop, List.take] at d g
 obtain ⟨v, n, t⟩ := GA _ _ _ _ _ _ _ _ _ d
 simp only [bE, dS] at n
 obtain rfl := n
 obtain ⟨v17, w, p, k, u⟩ := uA NO (by decide) Qc Tryz.underlying53 g
 simp only [bE, dS] at p
 obtain rfl := p
 obtain ⟨k, g17⟩ := Lf.Sl.all k
 have s := bL (fun z => Rows.uptoBulk z.1) r
 refine ⟨⟨v, w⟩, ⟨ou.mk ⟨_, rfl, k⟩, g17⟩, ?_⟩
 simp only [List.map, Rows.uptoBulk, Rows.uptoBulkAll, Cx] at t u s ⊢
 omega
def Hn (x : mI) : Nat := x.kE.Name.size + tG vH x.kE.kQ + tG yU x.kE.li + 1 + x.Client.Name.size + tG vH x.Client.kQ + tG yU x.Client.li + 1 + Ae x.Formula + Fw x.mw + tG Cx x.Keys + 1
theorem TU : Tryz.prog.readableRec 93 = true ∧ 93 < Tryz.prog.types.size := ⟨by kernel_rfl, iB (by kernel_rfl)⟩
theorem T4 : Tryz.prog.readableRec 91 = true ∧ 91 < Tryz.prog.types.size := ⟨by kernel_rfl, iB (by kernel_rfl)⟩
theorem DY (c : kF) : yW c = wg c := by unfold yW wg yE; omega
theorem LH {α : Type} (sz : α → Nat) (h : ∀ a, 2 ≤ sz a) : ∀ l : List α, 2 * l.length ≤ tG sz l
 | [] => fL _
 | a :: l => by have := LH sz h l; have := h a; simp only [tG, bP, gM, aJ] at *; omega
theorem B0 (y : lm) : vH y = wg y.Signed.kF + tG (fun _ : Int => 0) y.Signed.Tag + 1 + Ae y.kJ + 1 := rfl
theorem KU (y : nY) : yU y = yE y.kD + Ae y.kJ + tG wg y.nf + 1 := rfl
theorem Px (y : Key) : Cx y = y.ma.size + tG (fun _ : Int => 0) y.Key + 1 := rfl
theorem LQ : ∀ l : List kF, zd l ≤ 21 * tG wg l
 | [] => fL _
 | c :: l => by have := LQ l; rw [zd, DY]; simp only [tG, bP, gM] at *; omega
theorem LN : ∀ l : List lm, CT l ≤ 21 * tG vH l
 | [] => fL _
 | x :: l => by
  have := LN l
  have := DA (fun _ : Int => 0) x.Signed.Tag
  rw [CT, DY]
  have e := B0 x
  simp only [tG, bP, gM] at *; omega
theorem Mq : ∀ l : List nY, BR l ≤ 21 * tG yU l
 | [] => fL _
 | x :: l => by
  have := Mq l
  have := LQ x.nf
  rw [BR]
  have e := KU x
  unfold yE at e
  have a : tG yU (x :: l) = max 1 (yU x) + tG yU l := rfl
  omega
theorem Mi : ∀ l : List Key, DP l ≤ 11 * tG Cx l
 | [] => fL _
 | x :: l => by
  have := Mi l
  have := DA (fun _ : Int => 0) x.Key
  rw [DP]
  have e := Px x
  have a : tG Cx (x :: l) = max 1 (Cx x) + tG Cx l := rfl
  omega
theorem Kg (x : lW) (d : x.Name.size ≤ 1048576) (h1 : tG vH x.kQ ≤ 1048576) (g : tG yU x.li ≤ 1048576) : PG x ∧ x.kQ.length ≤ 600000 ∧ IN x ≤ 1000000000 := by
 have c1 := LH vH (fun y => by rw [B0]; omega) x.kQ
 have c2 := DA yU x.li
 have g1 : ∀ y ∈ x.kQ, wg y.Signed.kF ≤ 1048576 ∧ lZ y.kJ ≤ 1048576 := fun y a => by
  have := HM (sz := vH) a
  have e := B0 y
  have := CE y.kJ
  omega
 have g2 : ∀ y ∈ x.li, lZ y.kJ ≤ 1048576 ∧ tG wg y.nf ≤ 1048576 := fun y a => by
  have := HM (sz := yU) a
  have e := KU y
  have := CE y.kJ
  omega
 refine ⟨{ DZ := by omega, Ia := by omega, rel := fun y a => ?_, Gz := fun y a => ?_, P4 := fun y a => ?_, Ui := fun y a => ?_, Uw := fun y a c b => ?_ }, by omega, ?_⟩
 ·have := (g1 y a).2; omega
 ·have := (g2 y a).1; omega
 ·have := (g2 y a).2; have := DA wg y.nf; omega
 ·have := (g1 y a).1; rw [DY]; omega
 ·have := (g2 y a).2; have := HM (sz := wg) b; rw [DY]; omega
 ·have := LN x.kQ; have := Mq x.li; unfold IN; omega
theorem Re (p : mI) (h : Hn p ≤ 1048576) : PQ p := by
 unfold Hn at h
 have a := Kg p.kE (by omega) (by omega) (by omega)
 have b := Kg p.Client (by omega) (by omega) (by omega)
 have k := Mi p.Keys
 have f := CE p.Formula
 exact { o := a.1, c := b.1, lo := a.2.1, lc := b.2.1, f := by omega, go := a.2.2, gc := b.2.2, fs := by omega, ks := by omega }
theorem own : ownKnob Tryz.prog.godebug = none := by kernel_rfl
theorem Pt : laidOutB Tryz.prog = true := by kernel_rfl
theorem Pn (H : Type) (enc : TypeId × Value → H) (W : World) (base : Nat) (args : Array Value) (ds gs : List (DataW H)) (before : List MemPlace) (ab : ∀ (j : Nat) t v, Tryz.f8.params[j]? = some t → args[j]? = some v → Value.okWide Tryz.prog W .any base t v) (hW : DataW.Whole enc Tryz.prog Tryz.f8.params.toList Rows.leastNeedsSpec.vars false W args.toList ds gs before) (hk : Rows.uptoSmall H (ds ++ gs) = true) :
  Calls Tryz.prog 8 args W fun e W' => ∃ v, e = .returned v ∧ Rows.leastNeedsSpec.post enc Tryz.prog Tryz.f8 false true false false W args v W' := by
 have cx := hW
 obtain ⟨p, q, cw, hV, rfl, dp, dq⟩ := hW
 have hA : DataW.TrodAll enc Tryz.prog W 0 (fun _ => true) true Tryz.f8.params.toList args.toList ds p := cw
 have hr : ∀ t ∈ Tryz.f8.params.toList, Tryz.prog.readableRec t = true ∧ t < Tryz.prog.types.size := by
  rw [Tryz.params8]
  intro t ht
  simp only [aQ, dM, gV] at ht
  rcases ht with rfl | rfl
  ·exact TU
  ·exact T4
 rw [Tryz.params8] at hA ab
 obtain ⟨v0, dr, d0, dh, p0, q0, cy, rfl, rfl, h0, r0⟩ := trodAll_cons hA
 obtain ⟨v1, dt, d1, di, p1, q1, rfl, rfl, rfl, h1, r1⟩ := trodAll_cons r0
 obtain ⟨rfl, rfl, rfl⟩ := trodAll_nil r1
 obtain rfl : args = #[v0, v1] := by cases args; simp_all
 obtain ⟨rfl, rfl⟩ := trodVars_none hV
 have k0 := ab 0 93 v0 rfl rfl
 have k1 := ab 1 91 v1 rfl rfl
 obtain ⟨bl, rfl, _⟩ := okWide_struct Tryz.underlying93 k0
 obtain ⟨dj, c6⟩ := h0
 obtain ⟨cS, rfl⟩ : ∃ l : List Value, bl = l.toArray := ⟨bl.toList, by simp⟩
 change DataW.trod _ _ _ _ _ _ _ _ cS = some _ at c6
 obtain ⟨de, n18, _, c8, c7, ad, F⟩ := eK Tryz.underlying93 c6
 obtain ⟨b2, b3, b4, b5, b6, b7, b9, ba, bc, rfl⟩ := Rw ad
 obtain ⟨k, a, b, m, d, g, y, A, D, E, h, n, r, s, u, w, x, i, rfl⟩ := Tp (c7.trans Rq)
 have G : DataW.trod _ Tryz.prog W _ _ _ n18 25 (([k, a, b, m, d, g, y, A, D, E, h, n, r, s, u, w, x, i].drop 0).take (Tryz.prog.cellsOf 25)) = some b2 := F 0 _ rfl
 have I : DataW.trod _ Tryz.prog W _ _ _ n18 25 (([k, a, b, m, d, g, y, A, D, E, h, n, r, s, u, w, x, i].drop 3).take (Tryz.prog.cellsOf 25)) = some b3 := F 1 _ rfl
 have J : DataW.trod _ Tryz.prog W _ _ _ n18 58 (([k, a, b, m, d, g, y, A, D, E, h, n, r, s, u, w, x, i].drop 6).take (Tryz.prog.cellsOf 58)) = some b4 := F 2 _ rfl
 have L : DataW.trod _ Tryz.prog W _ _ _ n18 3 (([k, a, b, m, d, g, y, A, D, E, h, n, r, s, u, w, x, i].drop 11).take (Tryz.prog.cellsOf 3)) = some b5 := F 3 _ rfl
 have M : DataW.trod _ Tryz.prog W _ _ _ n18 91 (([k, a, b, m, d, g, y, A, D, E, h, n, r, s, u, w, x, i].drop 12).take (Tryz.prog.cellsOf 91)) = some b6 := F 4 _ rfl
 have O : DataW.trod _ Tryz.prog W _ _ _ n18 3 (([k, a, b, m, d, g, y, A, D, E, h, n, r, s, u, w, x, i].drop 14).take (Tryz.prog.cellsOf 3)) = some b7 := F 5 _ rfl
 have P : DataW.trod _ Tryz.prog W _ _ _ n18 3 (([k, a, b, m, d, g, y, A, D, E, h, n, r, s, u, w, x, i].drop 15).take (Tryz.prog.cellsOf 3)) = some b9 := F 6 _ rfl
 have Q : DataW.trod _ Tryz.prog W _ _ _ n18 3 (([k, a, b, m, d, g, y, A, D, E, h, n, r, s, u, w, x, i].drop 16).take (Tryz.prog.cellsOf 3)) = some ba := F 7 _ rfl
 have R : DataW.trod _ Tryz.prog W _ _ _ n18 37 (([k, a, b, m, d, g, y, A, D, E, h, n, r, s, u, w, x, i].drop 17).take (Tryz.prog.cellsOf 37)) = some bc := F 8 _ rfl
 simp only [Ri, Hf, QS, Dz, Mm, List.drop, List.take] at G I J L M O P Q R
 obtain ⟨df, n19, _, c9, da, ae, a8⟩ := eK Tryz.underlying25 G
 obtain ⟨bd, bf, bh, rfl⟩ := PT ae
 have T : DataW.trod _ Tryz.prog W _ _ _ n19 9 (([k, a, b].drop 0).take (Tryz.prog.cellsOf 9)) = some bd := a8 0 _ rfl
 have U : DataW.trod _ Tryz.prog W _ _ _ n19 22 (([k, a, b].drop 1).take (Tryz.prog.cellsOf 22)) = some bf := a8 1 _ rfl
 have Y : DataW.trod _ Tryz.prog W _ _ _ n19 23 (([k, a, b].drop 2).take (Tryz.prog.cellsOf 23)) = some bh := a8 2 _ rfl
 simp only [LA, LX, E1, List.drop, List.take] at T U Y
 obtain ⟨an, bn, cd⟩ := GA _ _ _ _ _ _ _ _ _ T
 simp only [bE, dS] at bn
 obtain rfl := bn
 obtain ⟨v21, ao, bo, ag, cf⟩ := uA Ii (by decide) Oh Tryz.underlying22 U
 simp only [bE, dS] at bo
 obtain rfl := bo
 obtain ⟨ag, g21⟩ := Lf.Sl.all ag
 obtain ⟨v22, ap, bp, ah, cg⟩ := uA Iq (by decide) OE Tryz.underlying23 Y
 simp only [bE, dS] at bp
 obtain rfl := bp
 obtain ⟨ah, g22⟩ := Lf.Sl.all ah
 have cc := bL (fun z => Rows.uptoBulk z.1) c9
 obtain ⟨dg, n23, _, ca, db, af, aa⟩ := eK Tryz.underlying25 I
 obtain ⟨bi, bj, bk, rfl⟩ := PT af
 have Z : DataW.trod _ Tryz.prog W _ _ _ n23 9 (([m, d, g].drop 0).take (Tryz.prog.cellsOf 9)) = some bi := aa 0 _ rfl
 have a6 : DataW.trod _ Tryz.prog W _ _ _ n23 22 (([m, d, g].drop 1).take (Tryz.prog.cellsOf 22)) = some bj := aa 1 _ rfl
 have a7 : DataW.trod _ Tryz.prog W _ _ _ n23 23 (([m, d, g].drop 2).take (Tryz.prog.cellsOf 23)) = some bk := aa 2 _ rfl
 simp only [LA, LX, E1, List.drop, List.take] at Z a6 a7
 obtain ⟨aq, bq, cj⟩ := GA _ _ _ _ _ _ _ _ _ Z
 simp only [bE, dS] at bq
 obtain rfl := bq
 obtain ⟨v25, ar, bs, ai, ck⟩ := uA Ii (by decide) Oh Tryz.underlying22 a6
 simp only [bE, dS] at bs
 obtain rfl := bs
 obtain ⟨ai, dl⟩ := Lf.Sl.all ai
 obtain ⟨v26, au, bt, aj, cm⟩ := uA Iq (by decide) OE Tryz.underlying23 a7
 simp only [bE, dS] at bt
 obtain rfl := bt
 obtain ⟨aj, dm⟩ := Lf.Sl.all aj
 have ch := bL (fun z => Rows.uptoBulk z.1) ca
 obtain ⟨av, ak, cn⟩ := JI _ _ _ _ _ _ _ _ _ J
 obtain ⟨v27, bu, ak⟩ := ak.out
 simp only [bE, dS] at bu
 obtain ⟨rfl, rfl, rfl, rfl, rfl⟩ := bu
 obtain ⟨aw, bw, cp⟩ := DX _ _ _ _ _ _ _ _ _ L
 simp only [bE, dS] at bw
 obtain rfl := bw
 obtain ⟨ay, bx, cq⟩ := PY _ _ _ _ _ _ _ _ _ M
 simp only [mE, bE, dS] at bx
 obtain ⟨rfl, rfl⟩ := bx
 obtain ⟨az, bz, cr⟩ := DX _ _ _ _ _ _ _ _ _ O
 simp only [bE, dS] at bz
 obtain rfl := bz
 obtain ⟨aE, c0, cs⟩ := DX _ _ _ _ _ _ _ _ _ P
 simp only [bE, dS] at c0
 obtain rfl := c0
 obtain ⟨b0, c3, ct⟩ := DX _ _ _ _ _ _ _ _ _ Q
 simp only [bE, dS] at c3
 obtain rfl := c3
 obtain ⟨v33, b1, c4, al, cu⟩ := uA KK (by decide) Rj Tryz.underlying37 R
 simp only [bE, dS] at c4
 obtain rfl := c4
 obtain ⟨al, dn⟩ := Lf.Sl.all al
 have cb := bL (fun z => Rows.uptoBulk z.1) c8
 simp only [List.map, Rows.uptoBulk, Rows.uptoBulkAll] at cd cf cg cc cj ck cm ch cn cp cq cr cs ct cu cb
 have z0 : Hn (⟨⟨an, ao, ap⟩, ⟨aq, ar, au⟩, av, aw, ay, az, aE, b0, b1⟩ : mI) ≤ Rows.uptoBulk d0 := by simp only [Hn]; omega
 obtain ⟨cv, rfl, _⟩ := Lr Tryz.underlying91 k1
 obtain ⟨dk, cz⟩ := h1
 obtain ⟨a1, c5, z1⟩ := PY _ _ _ _ _ _ _ _ _ cz
 simp only [Value.cells] at c5
 obtain rfl : cv = (mE a1).toArray := by rw [← c5]
 have hB : Rows.uptoBulkAll ([d0, d1] ++ []) ≤ 1048576 := iB hk
 simp only [bG, Rows.uptoBulkAll] at hB
 have hm : vE (⟨⟨an, ao, ap⟩, ⟨aq, ar, au⟩, av, aw, ay, az, aE, b0, b1⟩ : mI) a1 = some true := HQ QP _ _ (Re _ (by omega))
 have hg := Fo (⟨⟨an, ao, ap⟩, ⟨aq, ar, au⟩, av, aw, ay, az, aE, b0, b1⟩ : mI) a b d g h i a1 true W ag ah ai aj ak al hm
 refine dZ hg fun e W' ⟨he, hx⟩ => ?_
 subst he
 exact ⟨_, rfl, My Pt hr rfl cx hx (fun _ _ _ => trodAll_cons_mk (shut_bool Tryz.underlying4 _) trodAll_mk0) rfl rfl (ok_one (by kernel_rfl) rfl (okWide_bool_mk Tryz.underlying4 _))⟩
set_option maxRecDepth 100000 in
theorem Sg (os : Os) (started : os.Started) (H : Type) (enc : TypeId × Value → H) (F : Stop.Interp) :
  ReturnsInHanded {} Tryz.checked os 8 .any ((Rows.OpenSpec.upto Rows.leastNeedsSpec).pre6 enc Tryz.prog Tryz.f8 Rows.leastNeedsUptoRow.domain false) (((Rows.OpenSpec.upto Rows.leastNeedsSpec).at F).post enc Tryz.prog Tryz.f8 false true false false) := by
 refine returnsInHanded_of_cond (C := Tryz.checked) (s := Rows.OpenSpec.upto Rows.leastNeedsSpec) (k := Rows.uptoSmall) rfl own started (by kernel_rfl) Tryz.func8
  (OpenSpec.witness (enc := enc) (C := Tryz.checked) (s := Rows.OpenSpec.upto Rows.leastNeedsSpec) (k := Rows.uptoSmall) rfl false ⟨#[], #[.agg #[.string ⟨#[]⟩, .slice none 0 0, .slice none 0 0, .string ⟨#[]⟩, .slice none 0 0, .slice none 0 0, .int .i64 0, .int .i64 0, .string ⟨#[]⟩, .string ⟨#[]⟩, .slice none 0 0, .int .i64 0, .int .i64 0, .int .i64 0, .int .i64 0, .int .i64 0, .int .i64 0, .slice none 0 0], .agg #[.int .i64 0, .int .i64 0]], []⟩ 8 (by kernel_rfl) (by kernel_rfl) (by kernel_rfl)
   (x := ([.agg [.agg [.lit (.string []), .nil, .nil], .agg [.lit (.string []), .nil, .nil], .agg [.lit (.int .i64 0), .lit (.int .i64 0), .agg [.lit (.string []), .lit (.string [])], .nil], .lit (.int .i64 0), .agg [.lit (.int .i64 0), .lit (.int .i64 0)], .lit (.int .i64 0), .lit (.int .i64 0), .lit (.int .i64 0), .nil], .agg [.lit (.int .i64 0), .lit (.int .i64 0)]], [], [])) (by kernel_rfl) rfl (by kernel_rfl)) ?_
 intro W base args ds gs before a b _ hk _
 exact Pn H enc W base args ds gs before a b hk
theorem Th {a b : Bool} (ha : a = true) (d : b = true) : (a && b) = true := by rw [ha, d]; rfl
set_option maxHeartbeats 40000000 in
theorem Qs : joinedFacts Tryz.checked.prog 8 Tryz.f8 (Rows.OpenSpec.upto Rows.leastNeedsSpec).bare Rows.leastNeedsUptoRow = true := by
 unfold joinedFacts
 repeat' with_reducible refine Th ?_ ?_
 all_goals as_aux_lemma => kernel_rfl
theorem proved : Rows.LeastNeedsUptoSaid :=
 OpenClaim.holds_of_cond 8 Tryz.f8 rfl rfl rfl rfl rfl rfl rfl ⟨rfl, rfl, rfl, rfl, rfl⟩ rfl rfl rfl rfl rfl (by kernel_rfl) Tryz.func8 Qs
  (iB (by kernel_rfl)) (by unfold Func.isWrapper; first | (rw [aX (by decide +kernel)]; kernel_rfl) | (rw [bB (by decide +kernel)]; exact ⟨rfl, rfl⟩))
  (fun os started H enc _ F => Sg os started H enc F)
end Go.Proofs.YtklbhegeiijbjaaGreat
