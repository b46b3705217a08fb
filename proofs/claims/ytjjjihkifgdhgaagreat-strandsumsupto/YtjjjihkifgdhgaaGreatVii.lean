/- a part of a proof of StrandSums -/
import Derived.Test.YtjjjihkifgdhgaaGreatHki
import Derived.Test.YtjjjihkifgdhgaaGreatRtVi
import Derived.Test.YtjjjihkifgdhgaaGreatRows
import Derived.WalkKit
import Derived.ProofKit
import Derived.OpenShut
import Derived.JoinedCond
import Derived.Deep.Slices
import Derived.Carry
import Derived.ChangeArms
import Derived.ChangeSame
import Derived.Test.YtjjjihkifgdhgaaGreatS4W2i
set_option linter.all false
namespace Go.Proofs.YtjjjihkifgdhgaaGreat
open Go.IntKind renaming wrap → wi0
open Go.Proofs.Tryz renaming prog → pg0
open Go.RowKit
theorem Rr : ∀ (n : Nat) (f : Formula), nn f ≤ n → Gd f → uU n f = some (jV f : Int) := by
 intro n
 induction n with
 | zero => intro f h; rw [mh] at h; omega
 | succ n ih =>
  intro f d g
  rw [mh] at d
  have a := nE f
  unfold Gd at g
  rw [uU]
  unfold zk
  have key : ∀ (ks : List Formula) (x : Nat), (∀ k ∈ ks, k ∈ f.Kids) → x + nodesL ks ≤ 50000000 → sR (uU n) ks (x : Int) = some ((x + nodesL ks : Nat) : Int) := by
   intro ks
   induction ks with
   | nil => intro x _ _; rw [sR, nodesL]; rfl
   | cons k ks b =>
    intro x hk i
    rw [nodesL] at i
    rw [sR, ih k (by have := qk (hk k (by simp)); omega) (by have := sD (hk k (by simp)); unfold Gd; omega), aA]
    have w : wi0 .i64 ((x : Int) + (jV k : Int)) = ((x + jV k : Nat) : Int) := by rw [jT (by omega) (by omega)]; omega
    rw [w, b _ (fun z j => hk z (by simp [j])) (by omega), nodesL]
    congr 2; omega
  have := key f.Kids 1 (fun k hk => hk) (by omega)
  rw [a]
  exact this
theorem SA : ∀ (n : Nat) (f : Formula), nn f ≤ n → Gd f → vL n f = some (nn f : Int) := by
 intro n
 induction n with
 | zero => intro f h; rw [mh] at h; omega
 | succ n ih =>
  intro f d g
  rw [mh] at d ⊢
  have i := nE f
  have hle := vn f
  rw [mh] at hle
  unfold Gd at g
  rw [vL]
  unfold zM
  have key : ∀ (ks : List Formula) (x : Nat), (∀ k ∈ ks, k ∈ f.Kids) → max x (deepL ks) ≤ 50000000 → tO (vL n) ks (x : Int) = some ((max x (deepL ks) + 1 : Nat) : Int) := by
   intro ks
   induction ks with
   | nil =>
    intro x _ a
    rw [deepL] at a
    rw [tO, deepL, jT (by omega) (by omega)]
    congr 1; omega
   | cons k ks b =>
    intro x hk a
    rw [deepL] at a
    rw [tO, ih k (by have := qk (hk k (by simp)); omega) (by have := sD (hk k (by simp)); unfold Gd; omega), aA]
    have w : (if (nn k : Int) > (x : Int) then (nn k : Int) else (x : Int)) = ((max x (nn k) : Nat) : Int) := by split <;> omega
    rw [w, b _ (fun z j => hk z (by simp [j])) (by omega), deepL]
    congr 2; omega
  have := key f.Kids 0 (fun k hk => hk) (by omega)
  rw [Nat.zero_max] at this
  exact this
theorem RM : ∀ (n : Nat) (f : Formula), nn f ≤ n → vW n f = some (so f) := by
 intro n
 induction n with
 | zero => intro f h; rw [mh] at h; omega
 | succ n ih =>
  intro f h
  rw [mh] at h
  have key : ∀ ks : List Formula, (∀ k ∈ ks, k ∈ f.Kids) → tX (vW n) ks = some (wellL ks) := by
   intro ks
   induction ks with
   | nil => intro _; rw [tX, wellL]
   | cons k ks p =>
    intro hk
    rw [tX, ih k (by have := qk (hk k (by simp)); omega), aA, p (fun z r => hk z (by simp [r])), wellL]
    cases so k <;> rfl
  have hk := key f.Kids (fun k hk => hk)
  rw [vW]
  unfold zJ
  rw [hk, Fw, AE]
  unfold CP
  simp only [aA]
  by_cases c1 : f.Op = 1
  ·simp only [c1, aS, aM]
   cases s : lG f.jl
   ·simp
   ·by_cases b : f.Kids.length = 0
    ·have e : f.Kids = [] := aR b
     by_cases m : f.K = 0 <;> simp [e, m, wellL]
    ·have : ((f.Kids.length : Int) == 0) = false := by rw [fb]; omega
     simp [this, b]
  ·have q : (f.Op == 1) = false := by simpa using c1
   simp only [q, aB, aH, c1]
   by_cases i : f.Op = 2 ∨ f.Op = 3
   ·have j : ¬ f.Op < 1 := by omega
    have a2 : ¬ f.Op > 4 := by omega
    have a3 : f.Op < 4 := by omega
    have a4 : (f.Op == 4) = false := by rw [fb]; omega
    simp only [j, a2, a3, a4, i, cC, bV, aB, aH, aM, aA]
    cases g : jJ f.jl ⟨zS, zS⟩
    ·simp [pw, g]
    ·by_cases b : f.Kids.length ≤ 8
     ·have d : ¬ ((f.Kids.length : Int) > 8) := by omega
      by_cases m : f.K = 0 <;> simp [pw, g, b, d, m]
     ·have d : ((f.Kids.length : Int) > 8) := by omega
      simp [pw, g, b, d]
   ·by_cases l : f.Op = 4
    ·have j : ¬ f.Op < 1 := by omega
     have a2 : ¬ f.Op > 4 := by omega
     have a3 : ¬ f.Op < 4 := by omega
     simp only [j, a2, a3, i, cC, aB, aH, aA]
     simp only [l, aS, aM, bV, dL]
     cases g : jJ f.jl ⟨zS, zS⟩
     ·simp [pw, g]
     ·by_cases b : f.Kids.length ≤ 8
      ·have d : ¬ ((f.Kids.length : Int) > 8) := by omega
       by_cases d1 : 1 ≤ f.Kids.length
       ·have g1 : ¬ ((f.Kids.length : Int) < 1) := by omega
        by_cases d2 : 0 ≤ f.K
        ·have g2 : ¬ f.K < 0 := by omega
         by_cases d3 : f.K ≤ (f.Kids.length : Int)
         ·have g3 : ¬ f.K > (f.Kids.length : Int) := by omega
          simp [pw, g, b, d, d1, g1, d2, g2, d3, g3]
         ·have g3 : f.K > (f.Kids.length : Int) := by omega
          simp [pw, g, b, d, d1, g1, d2, g2, d3, g3]
        ·have g2 : f.K < 0 := by omega
         simp [pw, g, b, d, d1, g1, d2, g2]
       ·have g1 : ((f.Kids.length : Int) < 1) := by omega
        simp [pw, g, b, d, d1, g1]
      ·have d : ((f.Kids.length : Int) > 8) := by omega
       simp [pw, g, b, d]
    ·have a : f.Op < 1 ∨ f.Op > 4 := by omega
     rcases a with a | a
     ·simp [a, i, l]
     ·have : ¬ f.Op < 1 := by omega
      simp [a, this, i, l]
theorem GK (f : Formula) (h : Gd f) : qC f = some (mX f) := by
 have b := vn f
 have a := h
 unfold Gd at a
 unfold qC mX
 rw [Rr jP f (by rw [lj]; omega) h, SA jP f (by rw [lj]; omega) h, RM jP f (by rw [lj]; omega)]
 simp only [aA]
 by_cases c1 : jV f ≤ 64
 ·have d1 : ((jV f : Int) ≤ 64) := by omega
  by_cases c2 : nn f ≤ 6
  ·have d2 : ((nn f : Int) ≤ 6) := by omega
   simp [c1, c2, d1, d2]
  ·have d2 : ¬ ((nn f : Int) ≤ 6) := by omega
   simp [c1, c2, d1, d2]
 ·have d1 : ¬ ((jV f : Int) ≤ 64) := by omega
  simp [c1, d1]
theorem MZ {f : Formula} (hw : so f = true) (a : jV f ≤ 200) : (yd f).length ≤ 40 * jV f := (MB (nn f) f (aU _) hw [] (by simp; omega)).2
theorem QD : ∀ (n : Nat) (f : Formula), nn f ≤ n → so f = true → jV f ≤ 64 → rS n f = some (vu (yd f)) := by
 intro n
 induction n with
 | zero => intro f h; rw [mh] at h; omega
 | succ n ih =>
  intro f s hw x
  rw [mh] at s
  have u := nE f
  obtain ⟨h1, m, g⟩ := wG hw
  have b : 0 ≤ f.Op ∧ f.Op < 128 := by rcases g with h | h | h <;> omega
  have hlen : 0 ≤ (f.Kids.length : Int) ∧ (f.Kids.length : Int) < 128 := by omega
  have key : ∀ (ks : List Formula) (l : List Int), (∀ k ∈ ks, k ∈ f.Kids) → wellL ks = true → l.length + 40 * nodesL ks ≤ 8000 → nodesL ks ≤ 64 → sU (rS n) ks (vu l) = some (vu (l ++ bytesFL ks)) := by
   intro ks
   induction ks with
   | nil => intro l _ _ _ _; rw [sU, bytesFL, bI]
   | cons k ks j =>
    intro l hk a t i
    rw [wellL, bk] at a
    rw [nodesL] at t i
    have w := MZ a.1 (by omega)
    rw [sU, ih k (by have := qk (hk k (by simp)); omega) a.1 (by omega), aA, qT _ _ (by omega), aA,
     j _ (fun z v => hk z (by simp [v])) a.2 (by simp; omega) (by omega), bytesFL, aG]
  rw [rS]
  unfold zg
  rw [xC b.1 b.2, aA, Hu]
  by_cases c1 : f.Op = 1
  ·have p : lG f.jl = true := by rcases g with h | h | h; exact h.2.1; omega; omega
   have := ol p
   simp only [c1, aS, aM]
   rw [Ai p, aA, qT _ _ (by simp; omega)]
   rfl
  ·have q : (f.Op == 1) = false := by simpa using c1
   simp only [q, aB, aH, c1]
   by_cases d : f.Op = 4
   ·have hk : 0 ≤ f.K ∧ f.K < 128 := by rcases g with h | h | h <;> omega
    simp only [d, aS, aM]
    rw [xC hk.1 hk.2, aA, qT _ _ (by simp), aA, aA, xC hlen.1 hlen.2, aA, qT _ _ (by simp), aA,
     key f.Kids _ (fun k hk => hk) m (by simp; omega) (by omega)]
    simp
   ·have r : (f.Op == 4) = false := by simpa using d
    simp only [r, aB, aH, d, aA]
    rw [xC hlen.1 hlen.2, aA, qT _ _ (by simp), aA, key f.Kids _ (fun k hk => hk) m (by simp; omega) (by omega)]
    simp
theorem SD (f : Formula) (h : Gd f) : ((qC f).bind fun r => if r then (rS jP f).bind fun a => some a else some zS) = some (vu (xB f)) := by
 rw [GK f h, aA]
 unfold xB
 cases d : mX f
 ·rfl
 ·obtain ⟨h1, g, b⟩ := yH d
  simp only [aM]
  rw [QD jP f (by rw [lj]; omega) b h1, nH]
theorem Iw (f g : Formula) (i : Gd f) (j : Gd g) : ∃ c : Int, xM f g = some c ∧ (c > 0 ↔ mV AL g f = true) := by
 unfold xM
 rw [SD f i, aA, SD g j, aA, xx, ub, ub, Ah]
 rcases Ar (tu (xB f)) (tu (xB g)) with h | h | h
 ·rw [aZ h]
  refine ⟨-1, rfl, iff_of_false (by omega) (fun a => ?_)⟩
  have := xl _ _ _ h a
  rw [uI] at this; cases this
 ·have e : kD (vu (xB f)) (vu (xB g)) = true := lI.2 (zd (by rw [ub, ub, h]))
  rw [h, uI, e]
  exact ⟨0, rfl, iff_of_false (by omega) (by simp)⟩
 ·have e : Op.bytesLess (tu (xB f)) (tu (xB g)) = false := by
   rw [← eH]
   intro a
   have := xl _ _ _ h a
   rw [uI] at this; cases this
  have d : kD (vu (xB f)) (vu (xB g)) = false := by
   rw [← eH, lI]
   intro a
   have b := bN (fun s : ByteArray => s.data.toList) a
   simp only [ub] at b
   rw [b, uI] at h; cases h
  rw [e, d]
  exact ⟨1, rfl, iff_of_true (by omega) h⟩
theorem RS : ∀ (n : Nat) (f : Formula), nn f ≤ n → ∀ g, ∃ b, uv n f g = some b ∧ (b = true ↔ f = g) := by
 intro n
 induction n with
 | zero => intro f h; rw [mh] at h; omega
 | succ n ih =>
  intro f h g
  rw [mh] at h
  have key : ∀ (l m A : List Formula), (∀ x ∈ l, x ∈ f.Kids) → g.Kids = A ++ m → l.length = m.length → ∃ b, tT g (uv n) l A.length = some b ∧ (b = true ↔ l = m) := by
   intro l
   induction l with
   | nil =>
    intro m A _ _ a
    obtain rfl := aR a.symm
    exact ⟨true, by rw [tT], by simp⟩
   | cons x l r =>
    intro m A q t a
    match m, a with
    | y :: m, a =>
     obtain ⟨b, e, p⟩ := ih x (by have := qk (q x (by simp)); omega) y
     rw [tT, t, mw A y m _ rfl, aA, e, aA]
     cases b with
     | false =>
      refine ⟨false, rfl, ?_⟩
      have : x ≠ y := fun i => by have := p.2 i; simp at this
      simp [this]
     | true =>
      have i := p.1 rfl
      obtain ⟨b, s, d⟩ := r m (A ++ [y]) (fun z u => q z (by simp [u])) (by rw [t]; simp) (by simpa using a)
      rw [aD, List.length_singleton] at s
      simp only [cH, aB, aH]
      rw [s]
      exact ⟨b, rfl, by rw [d]; simp [i]⟩
  rw [uv]
  unfold zK
  by_cases h1 : f.Op = g.Op
  ·by_cases d : f.K = g.K
   ·by_cases j : f.jl = g.jl
    ·have k : jJ f.jl g.jl = true := jK.2 j
     by_cases a : f.Kids.length = g.Kids.length
     ·obtain ⟨b, e, p⟩ := key f.Kids g.Kids [] (fun x q => q) rfl a
      rw [bP] at e
      refine ⟨b, ?_, p.trans ⟨fun hk => Formula.ext' h1 d j hk, fun hk => by rw [hk]⟩⟩
      simp [h1, d, k, a, e]
     ·refine ⟨false, ?_, by simp; intro hk; rw [hk] at a; exact a rfl⟩
      have : ((f.Kids.length : Int) != (g.Kids.length : Int)) = true := by simp; omega
      simp [h1, d, k, this]
    ·have k : jJ f.jl g.jl = false := by rw [← eH, jK]; exact j
     exact ⟨false, by simp [h1, d, k], by simp; intro hk; rw [hk] at j; exact j rfl⟩
   ·exact ⟨false, by simp [h1, d], by simp; intro hk; rw [hk] at d; exact d rfl⟩
  ·exact ⟨false, by simp [h1], by simp; intro hk; rw [hk] at h1; exact h1 rfl⟩
theorem NJ (a b : Formula) (h : Gd a) : uv jP a b = some (pO a b) := by
 have := vn a
 unfold Gd at h
 obtain ⟨x, e, d⟩ := RS jP a (by rw [lj]; omega) b
 rw [e]; congr 1
 rw [bH, d, Ad]
section
variable {α : Type} {lt : α → α → Bool}
def KO (lt : α → α → Bool) (l : List α) : Prop := l.Pairwise fun x y => lt y x = false
theorem DQ (h : SWO lt) (k : α) : ∀ {l : List α}, KO lt l → ∃ A B, l = A ++ B ∧ (∀ x ∈ A, lt k x = false) ∧ (∀ x ∈ B, lt k x = true)
 | [], _ => ⟨[], [], rfl, by simp, by simp⟩
 | x :: l, i => by
  obtain ⟨h1, b⟩ := cI.1 i
  cases e : lt k x with
  | true =>
   refine ⟨[], x :: l, rfl, by simp, fun y a => ?_⟩
   rcases aK.1 a with rfl | a
   ·exact e
   ·rcases h.Mv _ y _ e with q | q
    ·exact q
    ·rw [h1 y a] at q; cases q
  | false =>
   obtain ⟨A, B, rfl, d, g⟩ := DQ h k b
   exact ⟨x :: A, B, rfl, fun y a => by
    rcases aK.1 a with rfl | a
    ·exact e
    ·exact d y a, g⟩
theorem GB {k : α} {A B : List α} (b : ∀ x ∈ A, lt k x = false) (d : ∀ x ∈ B, lt k x = true) : AJ lt (A ++ B) k = A ++ k :: B := by
 unfold AJ
 rw [iw, iw]
 rw [fU.2 (fun x a => by rw [b x a]; rfl), List.filter_eq_nil_iff.2 (fun x a => by rw [d x a]; simp), List.filter_eq_nil_iff.2 (fun x a => by rw [b x a]; simp), fU.2 (fun x a => d x a)]
 simp
theorem KE (h : SWO lt) {k : α} {A B : List α} (g : KO lt (A ++ B)) (i : ∀ x ∈ A, lt k x = false) (j : ∀ x ∈ B, lt k x = true) : KO lt (A ++ k :: B) := by
 unfold KO at *
 rw [cO] at *
 refine ⟨g.1, cI.2 ⟨fun x l => h.asym (j x l), g.2.1⟩, fun a ha b d => ?_⟩
 rcases aK.1 d with rfl | d
 ·exact i a ha
 ·exact g.2.2 a ha b d
variable {eq : α → α → Bool}
theorem HD (he : ∀ x y, eq x y = true ↔ x = y) (k : α) : ∀ (l : List α) (p : α), mC eq p (l ++ [k]) = if eq k ((l.getLast?).getD p) then mC eq p l else mC eq p l ++ [k]
 | [], p => by
  rw [aP, mC, mC]
  rfl
 | y :: l, p => by
  have e : ((y :: l).getLast?).getD p = (l.getLast?).getD y := by cases l <;> rfl
  rw [bA, mC, mC, HD he k l y, e]
  by_cases h1 : eq y p = true
  ·rw [aZ h1, aZ h1]
  ·rw [aY h1, aY h1]
   split <;> rfl
def yP (eq : α → α → Bool) (l : List α) (k : α) : Bool := match l.getLast? with | some y => eq y k | none => false
theorem M7 (x : α) (l : List α) : (x :: l).getLast? = some ((l.getLast?).getD x) := by cases l <;> rfl
theorem Pk (he : ∀ x y, eq x y = true ↔ x = y) (k : α) (l : List α) : dd eq (l ++ [k]) = if yP eq l k then dd eq l else dd eq l ++ [k] := by
 cases l with
 | nil => rfl
 | cons x l =>
  have a : dd eq ((x :: l) ++ [k]) = x :: mC eq x (l ++ [k]) := rfl
  have b : dd eq (x :: l) = x :: mC eq x l := rfl
  unfold yP
  rw [a, b, HD he, M7]
  simp only
  by_cases h : (l.getLast?).getD x = k
  ·rw [h, aZ ((he k k).2 rfl), aZ ((he k k).2 rfl)]
  ·rw [aY (fun q => h ((he _ _).1 q).symm), aY (fun q => h ((he _ _).1 q))]; rfl
theorem Js (he : ∀ x y, eq x y = true ↔ x = y) (y : α) (B : List α) : ∀ (l : List α) (p : α), y ≠ (l.getLast?).getD p → mC eq p (l ++ y :: B) = mC eq p l ++ y :: mC eq y B
 | [], p, h => by
  have h : y ≠ p := h
  rw [aP]
  have e : mC eq p (y :: B) = if eq y p then mC eq y B else y :: mC eq y B := rfl
  rw [e, aY (fun q => h ((he _ _).1 q))]; rfl
 | z :: l, p, h => by
  have e : ((z :: l).getLast?).getD p = (l.getLast?).getD z := by cases l <;> rfl
  rw [e] at h
  rw [bA, mC, mC, Js he y B l z h]
  split <;> rfl
theorem M9 (he : ∀ x y, eq x y = true ↔ x = y) (A : List α) : ∀ B : List α, (∀ y, B.head? = some y → A.getLast? ≠ some y) → dd eq (A ++ B) = dd eq A ++ dd eq B
 | [], _ => by rw [bI]; show _ = dd eq A ++ []; rw [bI]
 | y :: B, h => by
  have h := h y rfl
  cases A with
  | nil => rfl
  | cons x A =>
   have e : (x :: A).getLast? = some ((A.getLast?).getD x) := by cases A <;> rfl
   rw [e] at h
   rw [bA, dd, dd, dd, Js he y B A x (fun q => h (by rw [q]))]; rfl
theorem HM (he : ∀ x y, eq x y = true ↔ x = y) : ∀ (l : List α) (p : α), ((mC eq p l).getLast?).getD p = (l.getLast?).getD p
 | [], p => by rw [mC]
 | y :: l, p => by
  have e : ((y :: l).getLast?).getD p = (l.getLast?).getD y := by cases l <;> rfl
  rw [mC, e, ← HM he l y]
  by_cases h : eq y p = true
  ·rw [aZ h, (he _ _).1 h]
  ·rw [aY h]
   cases mC eq y l <;> rfl
theorem P4 (he : ∀ x y, eq x y = true ↔ x = y) (l : List α) : (dd eq l).getLast? = l.getLast? := by
 cases l with
 | nil => rfl
 | cons x l =>
  have e : ∀ m : List α, (x :: m).getLast? = some ((m.getLast?).getD x) := by intro m; cases m <;> rfl
  rw [dd, e, e, HM he]
theorem QR (h : SWO lt) (he : ∀ x y, eq x y = true ↔ x = y) {k : α} {A B : List α} (g : ∀ x ∈ A, lt k x = false) (d : ∀ x ∈ B, lt k x = true) :
  dd eq (A ++ B) = dd eq A ++ dd eq B ∧ dd eq (A ++ k :: B) = (if yP eq A k then dd eq A else dd eq A ++ [k]) ++ dd eq B := by
 have h1 : ∀ y, B.head? = some y → A.getLast? ≠ some y := fun y b a => by
  have := d y (List.mem_of_mem_head? b)
  rw [g y (List.mem_of_getLast? a)] at this; cases this
 refine ⟨M9 he A B h1, ?_⟩
 have e : A ++ k :: B = (A ++ [k]) ++ B := by simp
 rw [e, M9 he (A ++ [k]) B, Pk he]
 intro y b a
 rw [List.getLast?_append] at a
 simp only [List.getLast?_singleton, Option.some_or, gw] at a
 have := d y (List.mem_of_mem_head? b)
 rw [a, h.OQ] at this; cases this
end
theorem FU (l : List Formula) (k : Formula) (g : ∀ x ∈ l, Gd x) (hk : Gd k) (A : List Formula) (j : ∀ x ∈ A, mV AL k x = false) : ∀ (m : Nat) (B C : List Formula), B.length = m → l = A ++ B ++ C → (∀ x ∈ B, mV AL k x = true) → l.length ≤ 1000000 → ∀ n, m < n →
  se l k n ((A.length + B.length : Nat) : Int) = some (A.length : Int)
 | 0, B, C, hm, a, d, hlen, n + 1, r => by
  obtain rfl := aR hm
  rw [se]
  simp only [bP, fN]
  rcases cY A with rfl | ⟨A', y, rfl⟩
  ·rfl
  ·rw [dG] at *
   have hp : ((A' ++ [y]).length : Int) > 0 := by simp
   simp only [hp, bV, aM]
   have hw : wi0 .i64 (((A' ++ [y]).length : Int) - 1) = (A'.length : Int) := by
    simp at hlen a ⊢
    rw [a] at hlen
    simp at hlen
    rw [jT (by omega) (by omega)]
   rw [hw, show kV l (A'.length : Int) = some y from by rw [a]; simp only [bI, aG]; exact mw A' y C _ rfl, aA]
   have i : y ∈ l := by rw [a]; simp
   obtain ⟨c, e, h⟩ := Iw y k (g y i) hk
   have b : ¬ c > 0 := fun q => by have := h.1 q; rw [j y (by simp)] at this; cases this
   rw [e, aA]
   simp [b]
 | m + 1, B, C, hm, a, d, hlen, n + 1, r => by
  rcases cY B with rfl | ⟨B', y, rfl⟩
  ·simp at hm
  ·rw [dG] at *
   rw [se]
   have hp : ((A.length + (B' ++ [y]).length : Nat) : Int) > 0 := by simp; omega
   simp only [hp, bV, aM]
   have hw : wi0 .i64 (((A.length + (B' ++ [y]).length : Nat) : Int) - 1) = ((A.length + B'.length : Nat) : Int) := by
    rw [a] at hlen
    simp at hlen
    rw [jT (by simp; omega) (by simp; omega)]; simp; omega
   have p : kV l ((A.length + B'.length : Nat) : Int) = some y := by
    rw [a]
    have e : A ++ (B' ++ [y]) ++ C = (A ++ B') ++ y :: C := by simp
    rw [e]
    exact mw (A ++ B') y C _ (by simp)
   rw [hw, p, aA]
   have i : y ∈ l := by rw [a]; simp
   obtain ⟨c, e, h⟩ := Iw y k (g y i) hk
   have b : c > 0 := h.2 (d y (by simp))
   rw [e, aA]
   simp only [b, bV, aA, aM]
   exact FU l k g hk A j m B' (y :: C) (by simp at hm; omega) (by rw [a]; simp) (fun x s => d x (by simp [s])) hlen n (by omega)
theorem SZ {b : Bool} (h : b = true) : qR b = some () := by rw [h]; rfl
theorem EO (a : Bool) (k : Formula) (ks A B : List Formula) (j : ∀ x ∈ A ++ B, Gd x) (hk : Gd k) (l : ∀ x ∈ A, mV AL k x = false) (m : ∀ x ∈ B, mV AL k x = true) (hlen : (A ++ B).length ≤ 1000000) :
  ms a (k :: ks) (A ++ B) = if a && yP pO A k then ms a ks (A ++ B) else ms a ks (A ++ k :: B) := by
 have i := FU (A ++ B) k j hk A l B.length B [] rfl (by simp) m hlen jP (by rw [lj]; simp at hlen; omega)
 have b : A.length + B.length ≤ 1000000 := by simpa using hlen
 rw [ms, aD, i, aA]
 have rest : ((qR (decide ((0 : Int) ≤ (A.length : Int)) && decide ((A.length : Int) ≤ ((A ++ B).length : Int)))).bind fun _ => (lP 72 ([]) ((A ++ B).take (Int.toNat (A.length : Int)))).bind fun d => (lP 72 d ([k])).bind fun g => (qR (decide ((0 : Int) ≤ (A.length : Int)) && decide ((A.length : Int) ≤ ((A ++ B).length : Int)))).bind fun _ => (lP 72 g ((A ++ B).drop (Int.toNat (A.length : Int)))).bind fun h => ms a ks h) = ms a ks (A ++ k :: B) := by
  rw [SZ (by simp; omega), aA, dy, List.take_left, List.drop_left, lB (by simp; omega) (by simp; omega), aA, lB (by simp; omega) (by simp; omega), aA, aA, lB (by simp; omega) (by simp; omega), aA]
  simp
 rw [aD] at rest
 cases a with
 | false => exact rest
 | true =>
  simp only [aM, aA, dL]
  rcases cY A with rfl | ⟨A', y, rfl⟩
  ·exact rest
  ·rw [dG] at *
   have hp : ((A' ++ [y]).length : Int) > 0 := by simp
   simp only [hp, bV, aM]
   have hw : wi0 .i64 (((A' ++ [y]).length : Int) - 1) = (A'.length : Int) := by
    simp at b ⊢
    rw [jT (by omega) (by omega)]
   have p : kV ((A' ++ [y]) ++ B) (A'.length : Int) = some y := by
    simp only [aG, bA, aP]
    exact mw A' y B _ rfl
   rw [hw, p, aA, NJ y k (j y (by simp)), aA, aA]
   have n : yP pO (A' ++ [y]) k = pO y k := by unfold yP; rw [List.getLast?_append]; rfl
   rw [n]
   cases pO y k
   ·simp only [aB, aH]; exact rest
   ·rfl
theorem Gx {x : Formula} {l : List Formula} (h : x ∈ dd pO l) : x ∈ l := (I2 (fun _ _ => Ad) l x).1 h
theorem E8 : ∀ (ks S : List Formula), KO (mV AL) S → (∀ x ∈ S, Gd x) → (∀ x ∈ ks, Gd x) → S.length + ks.length ≤ 1000000 → ms true ks (dd pO S) = some (dd pO (ks.foldl (AJ (mV AL)) S))
 | [], S, _, _, _, _ => by rw [ms]; rfl
 | k :: ks, S, j, g, hk, m => by
  rw [aI] at m
  obtain ⟨A, B, rfl, b, d⟩ := DQ Hs k j
  obtain ⟨n, p⟩ := QR (eq := pO) Hs (fun _ _ => Ad) b d
  have i := Jz pO (A ++ B)
  rw [n] at i ⊢
  rw [EO true k ks (dd pO A) (dd pO B) (fun x a => by
   rcases aN.1 a with h | h
   ·exact g x (by simp [Gx h])
   ·exact g x (by simp [Gx h])) (hk k (by simp)) (fun x a => b x (Gx a)) (fun x a => d x (Gx a)) (by omega), ga, GB b d]
  have q : yP pO (dd pO A) k = yP pO A k := by unfold yP; rw [P4 (eq := pO) (fun _ _ => Ad)]
  rw [q, dL]
  have ih := E8 ks (A ++ k :: B) (KE Hs j b d) (fun x a => by
   rcases aN.1 a with h | h
   ·exact g x (by simp [h])
   ·rcases aK.1 h with rfl | h
    ·exact hk _ (by simp)
    ·exact g x (by simp [h])) (fun x a => hk x (by simp [a])) (by simp at m ⊢; omega)
  rw [p] at ih
  cases l : yP pO A k
  ·rw [l] at ih
   simp only [aB, aH] at ih ⊢
   rw [← ih]; simp
  ·rw [l] at ih
   simp only [aM] at ih ⊢
   exact ih
theorem Gn : ∀ (ks S : List Formula), KO (mV AL) S → (∀ x ∈ S, Gd x) → (∀ x ∈ ks, Gd x) → S.length + ks.length ≤ 1000000 → ms false ks S = some (ks.foldl (AJ (mV AL)) S)
 | [], S, _, _, _, _ => by rw [ms]; rfl
 | k :: ks, S, i, d, hk, j => by
  rw [aI] at j
  obtain ⟨A, B, rfl, a, b⟩ := DQ Hs k i
  rw [EO false k ks A B d (hk k (by simp)) a b (by omega), ga, GB a b, fM]
  simp only [aB, aH]
  exact Gn ks (A ++ k :: B) (KE Hs i a b) (fun x g => by
   rcases aN.1 g with h | h
   ·exact d x (by simp [h])
   ·rcases aK.1 h with rfl | h
    ·exact hk _ (by simp)
    ·exact d x (by simp [h])) (fun x g => hk x (by simp [g])) (by simp at j ⊢; omega)
theorem R5 (l : List Formula) (h : ∀ x ∈ l, Gd x) (a : l.length ≤ 1000000) : wh l true = some (dd pO (uu l)) := E8 l [] List.Pairwise.nil (by simp) h (by simpa using a)
theorem Tg (l : List Formula) (h : ∀ x ∈ l, Gd x) (a : l.length ≤ 1000000) : wh l false = some (uu l) := Gn l [] List.Pairwise.nil (by simp) h (by simpa using a)
theorem EB (f : Formula) (op : Int) : vY f op = some (kL op f) := CQ f op
theorem Ix (op : Int) (a : op = 2 ∨ op = 3) (s : mA) : ∀ l : List Formula, ql op s l = some (if l.any (kL (5 - op)) then .inl (⟨5 - op, 0, pw, []⟩, s) else .inr ())
 | [] => rfl
 | x :: l => by
  have hw : wi0 .i64 (5 - op) = 5 - op := jT (by omega) (by omega)
  rw [ql, hw, EB, aA, fZ, Ix op a s l]
  cases kL (5 - op) x <;> rfl
theorem MV (op : Int) (a : op = 2 ∨ op = 3) (l : List Formula) (j : nodesL l ≤ 64) : mW op ⟨false⟩ [] l = some (if l.any (kL (5 - op)) then ⟨5 - op, 0, pw, []⟩ else match dd pO (uu l) with | [x] => x | r => ⟨op, 0, pw, r⟩, ⟨false⟩) := by
 have g := pp l
 rw [mW, Ix op a, aA]
 cases h : l.any (kL (5 - op))
 ·simp only [aB, aH]
  rw [R5 l (fun x d => by have := sD d; unfold Gd; omega) (by omega), aA]
  have i := Jz pO (uu l)
  have hp := (xD l).length_eq
  have b : ¬ (((dd pO (uu l)).length : Int) > 64) := by omega
  simp only [b, cC, aB, aH, aA]
  generalize dd pO (uu l) = r
  match r with
  | [] => rfl
  | [x] => rfl
  | x :: y :: r =>
   have : (((x :: y :: r).length : Int) == 1) = false := by simp; omega
   simp only [this, aB, aH]
   rfl
 ·rfl
theorem FA (op : Int) (d : op = 2 ∨ op = 3) : ∀ (ks acc : List Formula), nodesL acc + nodesL ks ≤ 64 →
  mW op ⟨false⟩ ks acc = some (if (acc ++ nu op ks).any (kL (5 - op)) then ⟨5 - op, 0, pw, []⟩ else match dd pO (uu (acc ++ nu op ks)) with | [x] => x | r => ⟨op, 0, pw, r⟩, ⟨false⟩)
 | [], acc, h => by
  rw [nodesL] at h
  rw [nu, bI]
  exact MV op d acc (by omega)
 | k :: ks, acc, h => by
  rw [nodesL] at h
  have h1 := nE k
  have l := pp k.Kids
  have m := pp acc
  have e : ∀ a b : List Formula, nodesL (a ++ b) = nodesL a + nodesL b := by
   intro a b
   induction a with
   | nil => rw [aP, nodesL]; omega
   | cons x a g => rw [bA, nodesL, nodesL, g]; omega
  have hw : wi0 .i64 (5 - op) = 5 - op := jT (by omega) (by omega)
  rw [mW, nu]
  by_cases c : k.Op = op
  ·simp only [c, aS, aM]
   rw [lB (by omega) (by omega), aA, FA op d ks _ (by rw [e]; omega), aG]
  ·have i : (k.Op == op) = false := by simpa using c
   simp only [i, aB, aH, c]
   rw [EB, hw, aA]
   cases j : kL (5 - op) k
   ·simp only [aB, aH]
    rw [lB (by simp; omega) (by simp; omega), aA, FA op d ks _ (by rw [e, nodesL, nodesL]; omega), aG]
   ·simp only [aM]
    have : (acc ++ ([k] ++ nu op ks)).any (kL (5 - op)) = true := by simp [j]
    rw [this]; rfl
theorem Lb (op : Int) (a : op = 2 ∨ op = 3) (ks : List Formula) (h : nodesL ks ≤ 64) : pZ ⟨false⟩ op ks = some (oK op ks, ⟨false⟩) := by
 unfold pZ oK
 rw [FA op a ks [] (by rw [nodesL]; omega), aP]
 rfl
theorem Be : ∀ (ks acc : List Formula) (k : Int), -1000 ≤ k - (ks.length : Int) → k ≤ 1000 → acc.length + ks.length ≤ 1000 →
  mR ks k acc = some (k - ((ks.filter (kL 2)).length : Int), acc ++ ks.filter fun x => !kL 2 x && !kL 3 x)
 | [], acc, k, h1, a, b => by rw [mR]; simp
 | x :: ks, acc, k, h1, a, b => by
  simp only [aI] at h1 b
  rw [mR, EB, aA, EB, aA]
  rw [dE, dE]
  cases c2 : kL 2 x
  ·cases d : kL 3 x
   ·simp only [dq, iN, aB, aH, aM]
    rw [lB (by simp; omega) (by simp; omega), aA, Be ks _ k (by omega) a (by simp; omega)]
    simp only [aG, bA, aP]
   ·simp only [dq, cH, iz, aB, aH]
    rw [Be ks _ k (by omega) a (by omega)]
  ·simp only [cH, fM, aB, aH, aM]
   rw [jT (by omega) (by omega), Be ks _ (k - 1) (by omega) (by omega) (by omega)]
   simp only [aI]
   have e : k - 1 - ((ks.filter (kL 2)).length : Int) = k - (((ks.filter (kL 2)).length + 1 : Nat) : Int) := by omega
   rw [e]
theorem QO : ∀ (n : Nat) (f : Formula), nn f ≤ n → jV f ≤ 64 → so f = true → oA n ⟨false⟩ f = some (ph f, ⟨false⟩) := by
 intro n
 induction n with
 | zero => intro f h; rw [mh] at h; omega
 | succ n ih =>
  intro f v I hw
  rw [mh] at v
  have w := nE f
  obtain ⟨h1, u, q⟩ := wG hw
  rw [oA]
  unfold uG
  rw [zl]
  by_cases c1 : f.Op = 1
  ·simp only [c1, aS, aM]
  ·have r : (f.Op == 1) = false := by simpa using c1
   simp only [r, aB, aH, c1]
   have last : ∀ acc : List Formula, nodesL acc ≤ 64 → nz (oA n) f [] acc ⟨false⟩ = some (if f.Op = 4 then rV f.K acc else oK f.Op acc, ⟨false⟩) := by
    intro acc b
    have hlen := pp acc
    have G := yi (fun x => !kL 2 x && !kL 3 x) acc
    rw [nz]
    by_cases p : f.Op = 4
    ·have hk : 0 ≤ f.K ∧ f.K ≤ (f.Kids.length : Int) := by rcases q with h | h | h <;> omega
     have i : ¬ f.Op < 4 := by omega
     simp only [i, p, cC, aB, aH, aM]
     rw [Be acc [] f.K (by omega) (by omega) (by simp; omega), aA, aP]
     unfold rV
     simp only
     have g := pp (acc.filter fun x => !kL 2 x && !kL 3 x)
     have hm : ∀ x ∈ (acc.filter fun x => !kL 2 x && !kL 3 x), Gd x := fun x y => by have := sD y; unfold Gd; omega
     generalize (acc.filter fun x => !kL 2 x && !kL 3 x) = l at *
     generalize f.K - ((acc.filter (kL 2)).length : Int) = k
     by_cases d1 : k ≤ 0
     ·simp only [d1, bV, aM]; rfl
     ·simp only [d1, cC, aB, aH]
      by_cases d2 : k > (l.length : Int)
      ·simp only [d2, bV, aM]; rfl
      ·simp only [d2, cC, aB, aH]
       by_cases d3 : k = (l.length : Int)
       ·simp only [← d3, aS, aM]
        rw [Lb 2 (.inl rfl) l (by omega), aA]
        rfl
       ·have s : (k == (l.length : Int)) = false := by simpa using d3
        simp only [s, aB, aH, d3]
        by_cases d4 : k = 1
        ·simp only [d4, aS, aM]
         rw [Lb 3 (.inr rfl) l (by omega), aA]
         rfl
        ·have t : (k == 1) = false := by simpa using d4
         simp only [t, aB, aH, d4]
         rw [Tg l hm (by omega)]
         rfl
    ·have j : f.Op = 2 ∨ f.Op = 3 := by rcases q with h | h | h <;> omega
     have i : f.Op < 4 := by omega
     simp only [i, p, bV, aM, aH]
     rw [Lb f.Op j acc b, aA]
   have key : ∀ (ks acc : List Formula), (∀ k ∈ ks, k ∈ f.Kids) → wellL ks = true → nodesL (acc ++ shapeL ks) ≤ 64 → nodesL ks ≤ 64 → nz (oA n) f ks acc ⟨false⟩ = some (if f.Op = 4 then rV f.K (acc ++ shapeL ks) else oK f.Op (acc ++ shapeL ks), ⟨false⟩) := by
    intro ks
    induction ks with
    | nil =>
     intro acc _ _ b _
     rw [shapeL, bI] at *
     exact last acc b
    | cons k ks m =>
     intro acc hk a b g
     rw [wellL, bk] at a
     rw [nodesL] at g
     rw [shapeL] at b
     have d := pp (acc ++ ph k :: shapeL ks)
     simp only [aD, aI] at d
     rw [nz, ih k (by have := qk (hk k (by simp)); omega) (by omega) a.1, aA, lB (by simp; omega) (by simp; omega), aA,
      m (acc ++ [ph k]) (fun z E => hk z (by simp [E])) a.2 (by rw [aG]; exact b) (by omega), shapeL]
     simp only [aG, bA, aP]
   have := DL f.Kids
   have := key f.Kids [] (fun k hk => hk) u (by simpa using by omega) (by omega)
   simpa using this
theorem Pc (f : Formula) (h : Gd f) : zU f = some (wA f) := by
 unfold zU wA
 rw [GK f h, aA]
 cases b : mX f
 ·rfl
 ·obtain ⟨h1, d, a⟩ := yH b
  have g := yZ f
  simp only [cH, aB, aH, aM]
  rw [QO jP f (by rw [lj]; omega) h1 a, aA, GK (ph f) (by unfold Gd; omega)]
  simp only [aB, aH, aA]
  cases mX (ph f) <;> rfl
theorem GP (c : jm) : ∀ (l : List nf) (e o k : Int) (r : jl) (ks : List Formula), (∀ a ∈ l, jV a.jw ≤ 10000000) → jV ⟨o, k, r, ks⟩ ≤ 64 →
  tD c l e o k r ks = some (let t := oL (⟨o, k, r, ks⟩, e) ((l.filter fun a => pc kU a.mo c).map (·.jw)); (t.2, t.1.Op, t.1.K, t.1.jl, t.1.Kids))
 | [], e, o, k, r, ks, _, _ => by rw [tD, gS, eu, oL]
 | a :: l, e, o, k, r, ks, h, p => by
  have ha := h a (by simp)
  have j : ∀ x ∈ l, jV x.jw ≤ 10000000 := fun x v => h x (by simp [v])
  rw [tD, dE, G3]
  by_cases d : e = 0
  ·have i : (e == 0) = true := by simp [d]
   simp only [i, aM, aA]
   cases y : pc kU a.mo c
   ·simp only [aB, aH]
    exact GP c l e o k r ks j p
   ·simp only [aM]
    rw [bD, oL]
    simp only [d, aM]
    have s : Gd ⟨2, 0, pw, [⟨o, k, r, ks⟩, a.jw]⟩ := by show jV _ ≤ _; rw [jV, nodesL, nodesL, nodesL]; omega
    rw [show (⟨2, 0, (⟨zS, zS⟩ : jl), [(⟨o, k, r, ks⟩ : Formula), a.jw]⟩ : Formula) = ⟨2, 0, pw, [⟨o, k, r, ks⟩, a.jw]⟩ from rfl, Pc _ s, aA]
    have u := xA (f := ⟨2, 0, pw, [⟨o, k, r, ks⟩, a.jw]⟩)
    generalize wA ⟨2, 0, pw, [⟨o, k, r, ks⟩, a.jw]⟩ = q at *
    obtain ⟨⟨o', k', w, n⟩, e'⟩ := q
    exact GP c l e' o' k' w n j u
  ·have i : (e == 0) = false := by simpa using d
   simp only [i, aB, aH, aA]
   rw [GP c l e o k r ks j p]
   have b : ∀ m : List Formula, oL (⟨o, k, r, ks⟩, e) m = (⟨o, k, r, ks⟩, e) := by
    intro m
    cases m with
    | nil => rw [oL]
    | cons g m => rw [oL]; simp only [d, aH]
   rw [b, b]
theorem Mq (c : jm) (p : jX) (hp : PB p) : ∀ l : List kd, (∀ x ∈ l, x ∈ p.jF) → xc c p l = some (match l.find? (fun x => kU x.Signed.jm c) with | none => (E4, 42) | some x => BF x.jw ((xR p c).map (·.jw)))
 | [], _ => rfl
 | x :: l, h => by
  rw [xc, fw]
  cases j : kU x.Signed.jm c
  ·simp only [dq, aM]
   exact Mq c p hp l (fun z g => h z (by simp [g]))
  ·simp only [cH, aB, aH]
   have m := hp.rel x (h x (by simp))
   have d := xA (f := x.jw)
   rw [Pc _ (by unfold Gd; omega), aA]
   unfold BF xR
   generalize wA x.jw = q at *
   obtain ⟨⟨o, k, r, ks⟩, e⟩ := q
   rw [GP c p.jS e o k r ks hp.N9 d, aA]
   simp only
   generalize oL (⟨o, k, r, ks⟩, e) ((p.jS.filter fun a => pc kU a.mo c).map (·.jw)) = t
   obtain ⟨⟨o', k', n, i⟩, e'⟩ := t
   by_cases c1 : e' = 0
   ·subst c1; rfl
   ·have b : (e' != 0) = true := by simp [c1]
    simp only [b, aM, c1, aH]; rfl
theorem R9 (p : jX) (hp : PB p) (c : jm) : De p c = some (oW p c) := by
 unfold De oW yU
 refine (Mq c p hp _ (fun x a => a)).trans ?_
 cases p.jF.find? (fun x => kU x.Signed.jm c) <;> rfl
theorem SX (l : List jl) (r : jl) : Bx l r = some (pc jJ l r) := by
 unfold Bx
 induction l with
 | nil => rfl
 | cons x l ih =>
  rw [yz, ih]
  have e : pc jJ (x :: l) r = (jJ r x || pc jJ l r) := rfl
  have a : jJ x r = jJ r x := by rw [bH, jK, jK]; exact eq_comm
  rw [e, a]
  cases jJ r x <;> rfl
theorem Fl (l : List jl) (rec : Formula → List jl → Option Bool) (f : Formula) (v : jl → Bool) : ∀ (ks : List Formula) (x : Nat), (∀ k ∈ ks, rec k l = some (pz v k)) → x + ks.length ≤ 100000000 →
  rN rec l f ks (x : Int) = some (if f.Op = 2 then decide (x + evN v ks = f.Kids.length) else if f.Op = 3 then decide (0 < x + evN v ks) else decide (f.K ≤ ((x + evN v ks : Nat) : Int)))
 | [], x, _, _ => by
  rw [rN, evN, fN]
  by_cases c2 : f.Op = 2
  ·simp only [c2, aS, aM]
   congr 1
   rw [bH, gd, bL]; omega
  ·have b : (f.Op == 2) = false := by simpa using c2
   simp only [b, aB, aH, c2]
   by_cases a : f.Op = 3
   ·simp only [a, aS, aM]
    congr 1
    rw [bH, bL, bL]; omega
   ·have g : (f.Op == 3) = false := by simpa using a
    simp only [g, aB, aH, a]
    first | done | rfl
 | k :: ks, x, h, i => by
  rw [aI] at i
  rw [rN, h k (by simp), aA, evN]
  cases pz v k
  ·simp only [aB, aH]
   rw [Fl l rec f v ks x (fun z d => h z (by simp [d])) (by omega), dX]
  ·simp only [aM]
   have e : wi0 .i64 ((x : Int) + 1) = ((x + 1 : Nat) : Int) := by rw [jT (by omega) (by omega)]; omega
   rw [e, Fl l rec f v ks (x + 1) (fun z d => h z (by simp [d])) (by omega)]
   have b : x + 1 + evN v ks = x + (1 + evN v ks) := by omega
   rw [b]
theorem OT (l : List jl) : ∀ (n : Nat) (f : Formula), nn f ≤ n → Gd f → uo n f l = some (pz (pc jJ l) f) := by
 intro n
 induction n with
 | zero => intro f h; rw [mh] at h; omega
 | succ n ih =>
  intro f b d
  rw [mh] at b
  have g := nE f
  have i := pp f.Kids
  unfold Gd at d
  rw [uo]
  unfold zL
  rw [uB, SX]
  by_cases c1 : f.Op = 1
  ·simp only [c1, aS, aM, aA]
  ·have a : (f.Op == 1) = false := by simpa using c1
   simp only [a, aB, aH, c1]
   have := Fl l (uo n) f (pc jJ l) f.Kids 0 (fun k hk => ih k (by have := qk hk; omega) (by have := sD hk; unfold Gd; omega)) (by omega)
   simpa using this
theorem HY (F : List jE) (w : ByteArray) : pc jJ (Gb F w) = vF F w := by
 funext r
 unfold vF Gb
 rw [bH, tf jK, tf wH, bF]
 constructor
 ·rintro ⟨f, b, rfl⟩
  obtain ⟨h1, a⟩ := cK.1 b
  have := lI.1 a
  rw [← this]; exact h1
 ·intro h
  exact ⟨⟨r, w⟩, cK.2 ⟨h, lI.2 rfl⟩, rfl⟩
theorem CZ (p : jX) (hp : PB p) (l : List jl) (v : jl → Bool) (a : pc jJ l = v) : ∀ (xs : List kd) (acc : List jm), acc.length + xs.length ≤ 1000000000 → rM p l xs acc = sF (acc ++ (xs.filter (yY p v)).map (·.Signed.jm))
 | [], acc, _ => by rw [rM, gS, eu, bI, nH]
 | x :: xs, acc, h => by
  rw [aI] at h
  have g := Ht p x.Signed.jm
  have d := vn (oW p x.Signed.jm).1
  rw [rM, R9 p hp, aA, OT l jP _ (by rw [lj]; omega) (by unfold Gd; omega), a, dE]
  unfold yY
  by_cases c : (oW p x.Signed.jm).2 = 0
  ·have b := (MD c).1
   simp only [c, aS, aM, bV, dL, aA]
   unfold nv
   rw [b, dL]
   cases i : pz v (oW p x.Signed.jm).1
   ·simp only [aB, aH]
    exact CZ p hp l v a xs acc (by omega)
   ·simp only [aM]
    rw [lB (by simp; omega) (by simp; omega), aA, CZ p hp l v a xs _ (by simp; omega)]
    simp only [bD, aG, bA, aP]
    rfl
  ·have e : ((oW p x.Signed.jm).2 == 0) = false := by simpa using c
   simp only [e, aB, aH, c, cC, fM, aA]
   exact CZ p hp l v a xs acc (by omega)
theorem RN {l : List jm} {F : List jE} (h : Lu l F) (peer : ByteArray) : vF F peer = vD l peer := by
 funext r
 rw [bH, B4]
 unfold vF
 rw [tf wH, (h.wD (l.filter kY) (fun c => by rw [cK])).2]
theorem EC (p : jX) (hp : PB p) (l : List jm) (d : l.length ≤ 30000) (peer : ByteArray) : uE p l peer = oQ p l peer := by
 obtain ⟨F, a⟩ := RG l d
 obtain ⟨s, e, g⟩ := Pp p hp a peer
 have := hp.It
 have h1 : (p.jF.filter (yY p (vF F peer))).length ≤ p.jF.length := ed _ _
 have hlen := a.len
 unfold uE
 rw [a.ref, aA, show tC F peer = some (Gb F peer) from Mu F peer (by omega), aA, e]
 rw [CZ p hp _ (vF F peer) (HY F peer) p.jF [] (by simp; omega), aP]
 obtain ⟨t, b, h⟩ := Hj ((p.jF.filter (yY p (vF F peer))).map (·.Signed.jm)) (by simp; omega)
 rw [b, vG.unique Ch h g]
theorem JN : ∀ (l m A : List jm), l.length = m.length → ∃ b, pv (A ++ m) l A.length = some b ∧ (b = true ↔ l = m)
 | [], m, A, d => by
  obtain rfl := aR d.symm
  exact ⟨true, by rw [pv], by simp⟩
 | x :: l, [], A, d => by simp at d
 | x :: l, y :: m, A, d => by
  have i1 : kV (A ++ y :: m) (A.length : Int) = some y := mw _ _ _ _ rfl
  rw [pv, i1, aA]
  cases g : kU x y with
  | false =>
   refine ⟨false, by simp [g], ?_⟩
   have : x ≠ y := fun a => by have := ns.2 a; rw [this] at g; cases g
   simp [this]
  | true =>
   have a := ns.1 g
   obtain ⟨b, h, k⟩ := JN l m (A ++ [y]) (by simpa using d)
   have i : A ++ y :: m = (A ++ [y]) ++ m := by simp
   have j : A.length + 1 = (A ++ [y]).length := by simp
   simp only [cH, aB, aH]
   rw [i, j, h]
   exact ⟨b, rfl, by rw [k]; simp [a]⟩
theorem Se (l m : List jm) : ∃ b, pF l m = some b ∧ (b = true ↔ l = m) := by
 unfold pF
 by_cases h : l.length = m.length
 ·have : ((l.length : Int) != (m.length : Int)) = false := by simp [h]
  simp only [this, aB, aH]
  exact JN l m [] h
 ·have : ((l.length : Int) != (m.length : Int)) = true := by simp; omega
  simp only [this, aM]
  exact ⟨false, rfl, by simp; intro hk; rw [hk] at h; exact h rfl⟩
theorem I7 {x p : List jm} (sx : mE x) (sp : mE p) (h : ∀ c ∈ x, c ∈ p) : pF p x = some (decide (p.length = x.length)) := by
 obtain ⟨b, e, a⟩ := Se p x
 rw [e]; congr 1
 rw [bH, a, bL]
 exact ⟨fun q => by rw [q], fun q => (sx.eq sp h (by omega)).symm⟩
theorem FV (a b : jX) (ha : PB a) (g : PB b) (t : a.jF.length ≤ 30000) (u : b.jF.length ≤ 30000) : ∀ (n : Nat) (x y : List jm) (i : Int), mE x → mE y → (∀ c ∈ x, nl a y b.Name c) → (∀ c ∈ y, nl b x a.Name c) →
  vg a b n x y i = nI a b n x y i
 | 0, x, y, i, sx, sy, h, j => by rw [vg, nI]
 | n + 1, x, y, i, sx, sy, h, j => by
  have h1 := oz sx (fun c d => (h c d).1)
  have v := oz sy (fun c d => (j c d).1)
  obtain ⟨p, r, sp, mp, w⟩ := Ck a ha y (by omega) b.Name
  obtain ⟨q, s, sq, k, z⟩ := Ck b g x (by omega) a.Name
  have l : ∀ c ∈ x, c ∈ p := fun c d => (mp c).2 (h c d)
  have m : ∀ c ∈ y, c ∈ q := fun c d => (k c).2 (j c d)
  rw [vg, nI, EC a ha y (by omega), EC b g x (by omega), r, s]
  simp only [aA]
  rw [I7 sx sp l, I7 sy sq m]
  simp only [aA]
  have ih := FV a b ha g t u n p q (wi0 .i64 (i + 1)) sp sq (fun c d => qj m ((mp c).1 d)) (fun c d => qj l ((k c).1 d))
  rw [ih]
  have d1 : ((p.length : Int) == (x.length : Int)) = decide (p.length = x.length) := by
   rw [bH, gd, bL]; omega
  have d2 : ((q.length : Int) == (y.length : Int)) = decide (q.length = y.length) := by
   rw [bH, gd, bL]; omega
  rw [d1, d2]
theorem PD (a b : jX) (ha : PB a) (d : PB b) (g : a.jF.length ≤ 30000) (h : b.jF.length ≤ 30000) : FG a b = sE a b :=
 FV a b ha d g h jP [] [] 0 mE.nil mE.nil (by simp) (by simp)
mutual
def yt : Formula → Nat
 | ⟨_, _, r, ks⟩ => 1 + r.jq.size + r.jv.size + szFL ks
def szFL : List Formula → Nat
 | [] => 0
 | k :: ks => yt k + szFL ks
end
theorem Jr (f : Formula) : yt f = 1 + f.jl.jq.size + f.jl.jv.size + szFL f.Kids := by cases f; rw [yt]
theorem Bg : ∀ f : Formula, jV f ≤ yt f := by
 refine ID fun f ih => ?_
 have : ∀ ks : List Formula, (∀ k ∈ ks, jV k ≤ yt k) → nodesL ks ≤ szFL ks := by
  intro ks
  induction ks with
  | nil => intro _; rw [nodesL]; omega
  | cons k ks a =>
   intro h
   have := a (fun x b => h x (by simp [b]))
   have := h k (by simp)
   rw [nodesL, szFL]; omega
 have := this f.Kids ih
 rw [nE, Jr]; omega
def xm : List jm → Nat
 | [] => 0
 | c :: l => 20 + xb c + xm l
theorem g5 : ∀ (l : List jm) (n : Int), 0 ≤ n → n + (xm l : Int) ≤ 4000000000000000000 → qW l n = some (n + (xm l : Int))
 | [], n, _, _ => by rw [qW, xm]; simp
 | c :: l, n, b, a => by
  have e : xb c = c.Head.jq.size + c.Head.jv.size + c.km.size + c.B.jq.size + c.B.jv.size + c.C.jq.size + c.C.jv.size + c.kC.size := rfl
  rw [xm] at a
  rw [qW]
  rw [jT (x := 20 + (c.Head.jq.size : Int)) (by omega) (by omega), jT (x := 20 + (c.Head.jq.size : Int) + (c.Head.jv.size : Int)) (by omega) (by omega), jT (x := 20 + (c.Head.jq.size : Int) + (c.Head.jv.size : Int) + (c.km.size : Int)) (by omega) (by omega), jT (x := 20 + (c.Head.jq.size : Int) + (c.Head.jv.size : Int) + (c.km.size : Int) + (c.B.jq.size : Int)) (by omega) (by omega), jT (x := 20 + (c.Head.jq.size : Int) + (c.Head.jv.size : Int) + (c.km.size : Int) + (c.B.jq.size : Int) + (c.B.jv.size : Int)) (by omega) (by omega), jT (x := 20 + (c.Head.jq.size : Int) + (c.Head.jv.size : Int) + (c.km.size : Int) + (c.B.jq.size : Int) + (c.B.jv.size : Int) + (c.C.jq.size : Int)) (by omega) (by omega), jT (x := 20 + (c.Head.jq.size : Int) + (c.Head.jv.size : Int) + (c.km.size : Int) + (c.B.jq.size : Int) + (c.B.jv.size : Int) + (c.C.jq.size : Int) + (c.C.jv.size : Int)) (by omega) (by omega), jT (x := 20 + (c.Head.jq.size : Int) + (c.Head.jv.size : Int) + (c.km.size : Int) + (c.B.jq.size : Int) + (c.B.jv.size : Int) + (c.C.jq.size : Int) + (c.C.jv.size : Int) + (c.kC.size : Int)) (by omega) (by omega), jT (by omega) (by omega)]
  rw [g5 l _ (by omega) (by omega), xm]
  congr 1; omega
theorem TG : ∀ (n : Nat) (l : List Formula), deepL l < n → szFL l ≤ 1000000000000 → ∃ r : Int, ow n l = some r ∧ 0 ≤ r ∧ r ≤ (szFL l : Int) := by
 intro n
 induction n with
 | zero => intro l h; omega
 | succ n ih =>
  intro l h g
  rw [ow]
  unfold vN
  have key : ∀ (l : List Formula) (x : Int), deepL l < n + 1 → 0 ≤ x → x + (szFL l : Int) ≤ 1000000000000 → ∃ r : Int, re (ow n) l x = some r ∧ 0 ≤ r ∧ r ≤ x + (szFL l : Int) := by
   intro l
   induction l with
   | nil => intro x _ i _; exact ⟨x, by rw [re], i, by rw [szFL]; simp⟩
   | cons k l b =>
    intro x h i g
    rw [deepL] at h
    rw [szFL] at g
    have hk := Jr k
    have := mh k
    obtain ⟨r, e, h1, j⟩ := ih k.Kids (by omega) (by omega)
    rw [re, e, aA]
    have q : 0 ≤ Int.tdiv ((k.jl.jq.size : Int) + (k.jl.jv.size : Int)) 16 ∧ Int.tdiv ((k.jl.jq.size : Int) + (k.jl.jv.size : Int)) 16 ≤ (k.jl.jq.size : Int) + (k.jl.jv.size : Int) := by
     rw [Int.tdiv_eq_ediv_of_nonneg (by omega)]
     omega
    rw [jT (x := (k.jl.jq.size : Int) + (k.jl.jv.size : Int)) (by omega) (by omega)]
    generalize Int.tdiv ((k.jl.jq.size : Int) + (k.jl.jv.size : Int)) 16 = d at *
    rw [jT (x := d) (by omega) (by omega), jT (x := 1 + d) (by omega) (by omega), jT (x := 1 + d + r) (by omega) (by omega), jT (x := x + (1 + d + r)) (by omega) (by omega)]
    obtain ⟨p, e', a, m⟩ := b (x + (1 + d + r)) (by omega) (by omega) (by omega)
    exact ⟨p, e', a, by rw [szFL]; omega⟩
  obtain ⟨r, e, h1, j⟩ := key l 0 h (by omega) (by omega)
  exact ⟨r, e, h1, by omega⟩
theorem G7 (f : Formula) (h : yt f ≤ 50000000) : ∃ r : Int, ow jP [f] = some r ∧ 0 ≤ r ∧ r ≤ (yt f : Int) := by
 have h1 := Bg f
 have d := vn f
 obtain ⟨r, e, a, b⟩ := TG jP [f] (by rw [deepL, deepL, lj]; omega) (by rw [szFL, szFL]; omega)
 refine ⟨r, e, a, ?_⟩
 rw [szFL, szFL] at b; omega
theorem g6 (s : Signed) (h : xb s.jm + s.Tag.length ≤ 1000000000) : tI [] [s] = some (20 + (xb s.jm : Int) + (s.Tag.length : Int)) := by
 unfold tI
 rw [pS, rf]
 have := g5 [s.jm] 0 (by omega) (by rw [xm, xm]; omega)
 rw [show uX [s.jm] = _ from this, aA, rf, xm, xm]
 rw [jT (x := 0 + ((20 + xb s.jm + 0 : Nat) : Int) + (s.Tag.length : Int)) (by omega) (by omega), jT (by omega) (by omega)]
 simp only [aA]
 congr 1; omega
def Bu : List kd → Nat
 | [] => 0
 | x :: l => 20 + xb x.Signed.jm + x.Signed.Tag.length + 20 * yt x.jw + Bu l
def Ao : List nf → Nat
 | [] => 0
 | a :: l => a.jl.jq.size + a.jl.jv.size + 20 * yt a.jw + xm a.mo + Ao l
def HE (p : jX) : Nat := p.Name.size + Bu p.jF + Ao p.jS
theorem Nv : ∀ (l : List nf) (x : Int), 0 ≤ x → x + (Ao l : Int) ≤ 1000000000 → ∃ r : Int, ri l x = some r ∧ x ≤ r ∧ r ≤ x + (Ao l : Int)
 | [], x, _, _ => ⟨x, by rw [ri], by omega, by rw [Ao]; omega⟩
 | a :: l, x, i, h => by
  rw [Ao] at h
  obtain ⟨r, e, h1, j⟩ := G7 a.jw (by omega)
  have b := g5 a.mo 0 (by omega) (by omega)
  rw [ri, e, aA, show uX a.mo = _ from b, aA]
  rw [jT (x := (a.jl.jq.size : Int) + (a.jl.jv.size : Int)) (by omega) (by omega), jT (x := 20 * r) (by omega) (by omega), jT (x := (a.jl.jq.size : Int) + (a.jl.jv.size : Int) + 20 * r) (by omega) (by omega), jT (x := (a.jl.jq.size : Int) + (a.jl.jv.size : Int) + 20 * r + (0 + (xm a.mo : Int))) (by omega) (by omega), jT (by omega) (by omega)]
  obtain ⟨d, e', g, a2⟩ := Nv l (x + ((a.jl.jq.size : Int) + (a.jl.jv.size : Int) + 20 * r + (0 + (xm a.mo : Int)))) (by omega) (by omega)
  exact ⟨d, e', by omega, by rw [Ao]; omega⟩
theorem SF (p : jX) (g : HE p ≤ 1000000000) : ∃ r : Int, vh p = some r ∧ 20 * (p.jF.length : Int) ≤ r ∧ r ≤ (HE p : Int) := by
 unfold HE at g
 have key : ∀ (l : List kd) (x : Int), 0 ≤ x → x + (Bu l : Int) + (Ao p.jS : Int) ≤ 1000000000 → ∃ r : Int, qY p l x = some r ∧ x + 20 * (l.length : Int) ≤ r ∧ r ≤ x + (Bu l : Int) + (Ao p.jS : Int) := by
  intro l
  induction l with
  | nil =>
   intro x d h
   rw [Bu] at h
   obtain ⟨r, e, a, b⟩ := Nv p.jS x d (by omega)
   exact ⟨r, by rw [qY, e]; rfl, by simp; omega, by rw [Bu]; omega⟩
  | cons y l ih =>
   intro x d h
   rw [Bu] at h
   obtain ⟨r, e, h1, j⟩ := G7 y.jw (by omega)
   rw [qY, g6 y.Signed (by omega)]
   simp only [aA]
   rw [e, aA]
   rw [jT (x := 20 * r) (by omega) (by omega), jT (x := 20 + (xb y.Signed.jm : Int) + (y.Signed.Tag.length : Int) + 20 * r) (by omega) (by omega), jT (by omega) (by omega)]
   obtain ⟨i, e', a, b⟩ := ih (x + (20 + (xb y.Signed.jm : Int) + (y.Signed.Tag.length : Int) + 20 * r)) (by omega) (by omega)
   exact ⟨i, e', by rw [aI]; omega, by rw [Bu]; omega⟩
 obtain ⟨r, e, a, b⟩ := key p.jF (p.Name.size : Int) (by omega) (by omega)
 unfold vh
 exact ⟨r, e, by omega, by unfold HE; omega⟩
def Cl : List Key → Nat
 | [] => 0
 | k :: l => 10 + k.km.size + k.Key.length + Cl l
theorem SH : ∀ (ks : List Key) (x : Int), 0 ≤ x → x + (Cl ks : Int) ≤ 2000000000 → pS [] ks x = some (x + (Cl ks : Int))
 | [], x, _, _ => by rw [pS, rf, Cl]; simp
 | k :: ks, x, a, h => by
  rw [Cl] at h
  rw [pS, jT (x := 10 + (k.km.size : Int)) (by omega) (by omega), jT (x := 10 + (k.km.size : Int) + (k.Key.length : Int)) (by omega) (by omega), jT (by omega) (by omega), SH ks _ (by omega) (by omega), Cl]
  congr 1; omega
structure PQ (p : mM) : Prop extends PP p where
 go : HE p.jq ≤ 1000000000
 gc : HE p.Client ≤ 1000000000
 fs : yt p.Formula ≤ 50000000
 ks : Cl p.Keys ≤ 1000000000
theorem Tx (p : mM) (hp : PQ p) : ∃ r : Int, xg p = some r ∧ 20 * (p.jq.jF.length : Int) + 20 * (p.Client.jF.length : Int) ≤ r := by
 have d := hp.go
 have b := hp.gc
 have n := hp.ks
 have a := hp.fs
 obtain ⟨g, j, q, s⟩ := SF p.jq d
 obtain ⟨h, k, a2, t⟩ := SF p.Client b
 obtain ⟨i, l, a3, u⟩ := G7 p.Formula a
 have m := SH p.Keys 0 (by omega) (by omega)
 unfold xg
 rw [j, aA, k, aA]
 simp only [aA]
 rw [l, aA, show tI p.Keys [] = _ from m, aA]
 rw [jT (x := g + h) (by omega) (by omega), jT (x := 20 * i) (by omega) (by omega), jT (x := g + h + 20 * i) (by omega) (by omega), jT (by omega) (by omega)]
 exact ⟨_, rfl, by omega⟩
theorem Pn (a b : jX) (f : Formula) (ha : PB a) (h : PB b) (n : a.jF.length ≤ 30000) (p : b.jF.length ≤ 30000) (g : Gd f) :
  ∃ x y j, sE a b = some (x, y, j) ∧ IV a b x y ∧ vC a b f = some (nv (vD y b.Name) f) ∧ BQ a b f = some (nv (vD y b.Name) f) := by
 obtain ⟨x, y, j, e, F⟩ := Mo a b ha h (by omega) (by omega)
 have t := F.ly
 obtain ⟨G, d⟩ := RG y (by omega)
 obtain ⟨m, k, _, l⟩ := d.SN
 have i := RN d b.Name
 refine ⟨x, y, j, e, F, ?_, ?_⟩
 ·unfold vC zr
  rw [e, aA, k, aA, aA]
  rw [Hq (vD y b.Name) _ (fun r => by unfold uQ; rw [nH, l, ← i]; rfl) f g]
  rfl
 ·have q := vn f
  unfold BQ
  rw [GK f g, aA]
  unfold nv
  cases s : mX f
  ·rfl
  ·simp only [aM]
   unfold Dj
   rw [PD a b ha h n p, e, aA, d.ref, aA, show tC G b.Name = some (Gb G b.Name) from Mu G b.Name (by have := d.len; omega)]
   simp only [aA]
   rw [OT _ jP f (by rw [lj]; unfold Gd at g; omega) g, HY, i]
   rfl
def SB (l : List kd) (i : Int) : Prop := 0 ≤ i ∧ i < l.length
instance (l : List kd) (i : Int) : Decidable (SB l i) := by unfold SB; infer_instance
theorem Sx {p x q y : Nat} : ((if ((p : Int) == (x : Int)) then some ((q : Int) == (y : Int)) else some false) : Option Bool) = some (decide (p = x ∧ q = y)) := by
 by_cases h : p = x
 ·subst h
  simp only [aS, aM, true_and]
  congr 1
  rw [bH]; simp; omega
 ·have : ((p : Int) == (x : Int)) = false := by rw [fb]; omega
  rw [this]; simp [h]
abbrev RL := List (List jm × List jm)
def oT (p x : List jm) : List jm := p.filter fun c => !pc kU x c
theorem oX {p x : List jm} {c : jm} : c ∈ oT p x ↔ c ∈ p ∧ c ∉ x := by
 unfold oT
 rw [cK, eX, ← eH, tf ns]
inductive zn (a b : jX) : List jm → List jm → RL → List jm → List jm → Prop
 | done {x y : List jm} : mE x → mE y → (∀ c, c ∈ x ↔ nl a y b.Name c) → (∀ c, c ∈ y ↔ nl b x a.Name c) → zn a b x y [] x y
 | step {x y p q X Y : List jm} {L : RL} : mE x → mE y → mE p → mE q → (∀ c ∈ x, c ∈ p) → (∀ c ∈ y, c ∈ q) → (∀ c, c ∈ p ↔ nl a y b.Name c) → (∀ c, c ∈ q ↔ nl b x a.Name c) → ¬ (p.length = x.length ∧ q.length = y.length) → zn a b p q L X Y → zn a b x y ((oT p x, oT q y) :: L) X Y
theorem xy {p : jX} (hp : PB p) {l : List jm} (a : l.length ≤ 1000000) {peer : ByteArray} {s : List jm} (sx : mE s) (h : ∀ c, c ∈ s ↔ nl p l peer c) : oQ p l peer = some s := by
 obtain ⟨t, e, st, b, _⟩ := Ck p hp l a peer
 rw [e, st.ext sx (fun c => by rw [b, h])]
theorem Ms (a b : jX) (ha : PB a) (m : PB b) (E : a.jF.length ≤ 600000) (G : b.jF.length ≤ 600000) : ∀ (n : Nat) (x y : List jm) (i : Nat), mE x → mE y → (∀ c ∈ x, nl a y b.Name c) → (∀ c ∈ y, nl b x a.Name c) →
  a.jF.length + b.jF.length < n + x.length + y.length → i + a.jF.length + b.jF.length ≤ 10000000 + x.length + y.length →
  ∃ L X Y, zn a b x y L X Y ∧ nI a b n x y (i : Int) = some (X, Y, ((i + L.length : Nat) : Int)) ∧ L.length + x.length + y.length ≤ a.jF.length + b.jF.length
 | 0, x, y, i, sx, sy, g, h, z, w => by
  have h1 := oz sx (fun c d => (g c d).1)
  have u := oz sy (fun c d => (h c d).1)
  omega
 | n + 1, x, y, i, sx, sy, g, h, z, w => by
  have h1 := oz sx (fun c d => (g c d).1)
  have u := oz sy (fun c d => (h c d).1)
  obtain ⟨p, r, sp, mp, O⟩ := Ck a ha y (by omega) b.Name
  obtain ⟨q, s, sq, j, P⟩ := Ck b m x (by omega) a.Name
  have k : ∀ c ∈ x, c ∈ p := fun c d => (mp c).2 (g c d)
  have l : ∀ c ∈ y, c ∈ q := fun c d => (j c).2 (h c d)
  have J := sx.le k
  have M := sy.le l
  rw [nI, r, aA, s, aA, Sx]
  by_cases c1 : p.length = x.length ∧ q.length = y.length
  ·rw [gB c1]
   simp only [aA, aM]
   obtain rfl := sx.eq sp k (by omega)
   obtain rfl := sy.eq sq l (by omega)
   exact ⟨[], _, _, .done sx sy mp j, by simp, by simp; omega⟩
  ·rw [decide_eq_false c1]
   simp only [aA, aB, aH]
   obtain ⟨L, X, Y, v, t, I⟩ := Ms a b ha m E G n p q (i + 1) sp sq (fun c d => qj l ((mp c).1 d)) (fun c d => qj k ((j c).1 d)) (by omega) (by omega)
   refine ⟨_, X, Y, .step sx sy sp sq k l mp j c1 v, ?_, by simp; omega⟩
   rw [jT (by omega) (by omega), show ((i : Int) + 1) = ((i + 1 : Nat) : Int) by omega, t, aI]
   congr 3; omega
theorem GQ (p x : List jm) (h : p.length ≤ 1000000) : ux p x = some (oT p x) := by
 unfold ux
 rw [nH, Ja, Fh _ (fun c => pc kU x c) zC p (by omega) (fun c _ => by unfold ui pf; rw [nH, nH, CD])]
 rfl
theorem BH (x : List jm) : ∀ (p acc : List jm), acc.length + p.length ≤ 1000000 → qV x p acc = some (acc ++ oT p x)
 | [], acc, _ => by rw [qV]; simp [oT]
 | c :: p, acc, h => by
  rw [aI] at h
  rw [qV, G3, aA]
  cases a : pc kU x c
  ·simp only [dq, aM]
   rw [lB (by simp; omega) (by simp; omega), aA, BH x p _ (by simp; omega)]
   simp [oT, a]
  ·simp only [cH, aB, aH]
   rw [BH x p acc (by omega)]
   simp [oT, a]
theorem CL (p x : List jm) (h : p.length ≤ 1000000) : wQ p x = some (oT p x) := by
 unfold wQ
 rw [BH x p [] (by simpa using h), aP]
theorem KW {p x : List jm} (sx : mE x) (sp : mE p) (b : ∀ c ∈ x, c ∈ p) (j : p.length ≤ 600000) : tQ (x ++ oT p x) = some p := by
 have h1 : (oT p x).length ≤ p.length := ed _ _
 have i := sx.le b
 obtain ⟨s, e, h⟩ := NM (x ++ oT p x) (by simp; omega)
 have g : mE s := ⟨h.1, fun c a => ((h.2 c).1 a).2⟩
 rw [e, g.ext sp fun c => by
  rw [h.2, aN, oX]
  constructor
  ·rintro ⟨h | h, _⟩
   ·exact b c h
   ·exact h.1
  ·intro a
   exact ⟨(ie (c ∈ x)).imp id fun d => ⟨a, d⟩, sp.2 c a⟩]
theorem z6 {p x : List jm} (sx : mE x) (sp : mE p) (j : ∀ c ∈ x, c ∈ p) : x.length + (oT p x).length = p.length := by
 have b : (x ++ oT p x).Nodup := bT.2 ⟨sx.nodup, sp.nodup.filter _, fun c a d i h => (oX.1 (h ▸ i)).2 a⟩
 have h1 := lA b (m := p) (fun c a => (aN.1 a).elim (j c) fun h => (oX.1 h).1)
 have g := lA sp.nodup (m := x ++ oT p x) (fun c a => aN.2 ((ie (c ∈ x)).imp id fun b => oX.2 ⟨a, b⟩))
 simp at h1 g
 omega
def xo {σ : Type} (f : σ → Int × kf → Option (Bool × σ)) : Nat → RL → σ → Option σ
 | _, [], s => some s
 | i, r :: L, s => (f s ((i : Int), ⟨r.1, r.2⟩)).bind fun z => if z.1 then xo f (i + 1) L z.2 else some z.2
theorem zn.len {a b : jX} {x y X Y : List jm} {L : RL} (h : zn a b x y L X Y) : mE X ∧ mE Y ∧ (∀ c, c ∈ X ↔ nl a Y b.Name c) ∧ (∀ c, c ∈ Y ↔ nl b X a.Name c) ∧ (∀ c ∈ x, c ∈ X) ∧ (∀ c ∈ y, c ∈ Y) := by
 induction h with
 | done sx sy fx fy => exact ⟨sx, sy, fx, fy, fun _ h => h, fun _ h => h⟩
 | step _ _ _ _ g i _ _ _ _ ih => exact ⟨ih.1, ih.2.1, ih.2.2.1, ih.2.2.2.1, fun c d => ih.2.2.2.2.1 c (g c d), fun c d => ih.2.2.2.2.2 c (i c d)⟩
theorem FP {σ : Type} {a b : jX} (ha : PB a) (u : PB b) (J : a.jF.length ≤ 600000) (M : b.jF.length ≤ 600000) (f : σ → Int × kf → Option (Bool × σ)) {x y X Y : List jm} {L : RL} (h : zn a b x y L X Y) :
  ∀ (n i : Nat) (s : σ), L.length < n → i + L.length ≤ 10000000 → mB a.Name a.jF a.jS b.Name b.jF b.jS f n x y (i : Int) s = xo f i L s := by
 have k : (⟨a.Name, a.jF, a.jS⟩ : jX) = a := rfl
 have l : (⟨b.Name, b.jF, b.jS⟩ : jX) = b := rfl
 induction h with
 | @done x y sx sy fx fy =>
  intro n i s w v
  obtain ⟨n, rfl⟩ : ∃ m, n = m + 1 := ⟨n - 1, by omega⟩
  have lx := oz sx (fun c d => ((fx c).1 d).1)
  have ly := oz sy (fun c d => ((fy c).1 d).1)
  have E : oT x x = [] := ej.2 fun c d => (oX.1 d).2 (oX.1 d).1
  have G : oT y y = [] := ej.2 fun c d => (oX.1 d).2 (oX.1 d).1
  rw [mB, k, l, xy ha (by omega) sx fx, aA, GQ _ _ (by omega), aA, xy u (by omega) sy fy, aA, GQ _ _ (by omega), E, G]
  rfl
 | @step x y p q X Y L sx sy sp sq g j r t c1 I ih =>
  intro n i s w v
  obtain ⟨n, rfl⟩ : ∃ m, n = m + 1 := ⟨n - 1, by omega⟩
  rw [aI] at w v
  have O := oz sp (fun c d => ((r c).1 d).1)
  have P := oz sq (fun c d => ((t c).1 d).1)
  have lx := sx.le g
  have ly := sy.le j
  have m1 := z6 sx sp g
  have m2 := z6 sy sq j
  rw [mB, k, l, xy ha (by omega) sp r, aA, GQ _ _ (by omega), aA, xy u (by omega) sq t, aA, GQ _ _ (by omega), aA]
  have d1 : (wi0 .i64 (((oT p x).length : Int) + ((oT q y).length : Int)) == 0) = false := by
   rw [jT (by omega) (by omega), fb]; omega
  rw [d1, xo]
  simp only [aB, aH]
  cases f s ((i : Int), ⟨oT p x, oT q y⟩) with
  | none => rfl
  | some z =>
   obtain ⟨go, s'⟩ := z
   cases go
   ·rfl
   ·simp only [aA, cH, aB, aH, aM]
    rw [HG _ _ (by omega), aA, KW sx sp g (by omega), aA, HG _ _ (by omega), aA, KW sy sq j (by omega), aA, jT (by omega) (by omega)]
    exact ih n (i + 1) s' (by omega) (by omega)
theorem NX {P : mM} (ha : PB P.jq) (t : PB P.Client) (Q : P.jq.jF.length ≤ 30000) (R : P.Client.jF.length ≤ 30000) {x y X Y : List jm} {L : RL} (h : zn P.jq P.Client x y L X Y) :
  ∀ (n : Nat) (d j : List jm) (acc : List yo), L.length < n → acc.length + L.length ≤ 1000000 → (∀ c, c ∈ d ↔ c ∈ x) → (∀ c, c ∈ j ↔ c ∈ y) → d.length = x.length → j.length = y.length →
  sf P n d j acc = some (acc ++ L.map fun r => ⟨r.1, r.2⟩) := by
 have g : ∀ {p x d : List jm}, (∀ c, c ∈ d ↔ c ∈ x) → oT p d = oT p x := by
  intro p x d h
  unfold oT
  congr 1
  funext c
  congr 1
  rw [bH, tf ns, tf ns, h]
 have b : ∀ {p : jX} {l G : List jm} {peer : ByteArray} {c : jm}, (∀ c, c ∈ G ↔ c ∈ l) → (nl p l peer c ↔ nl p G peer c) := fun h => ⟨qj fun c a => (h c).2 a, qj fun c a => (h c).1 a⟩
 induction h with
 | @done x y sx sy fx fy =>
  intro n d j acc u E i k ex I
  obtain ⟨n, rfl⟩ : ∃ m, n = m + 1 := ⟨n - 1, by omega⟩
  have lx := oz sx (fun c a => ((fx c).1 a).1)
  have ly := oz sy (fun c a => ((fy c).1 a).1)
  have J : oT x x = [] := ej.2 fun c a => (oX.1 a).2 (oX.1 a).1
  have M : oT y y = [] := ej.2 fun c a => (oX.1 a).2 (oX.1 a).1
  rw [sf, EC _ ha j (by omega), xy ha (by omega) sx (fun c => (fx c).trans (b k)), aA, CL _ _ (by omega), aA, EC _ t d (by omega), xy t (by omega) sy (fun c => (fy c).trans (b i)), aA, CL _ _ (by omega), g i, g k, J, M]
  simp
 | @step x y p q X Y L sx sy sp sq s v w z c1 O ih =>
  intro n d j acc u E i k ex I
  obtain ⟨n, rfl⟩ : ∃ m, n = m + 1 := ⟨n - 1, by omega⟩
  rw [aI] at u E
  have T := oz sp (fun c a => ((w c).1 a).1)
  have U := oz sq (fun c a => ((z c).1 a).1)
  have lx := sx.le s
  have ly := sy.le v
  have m1 := z6 sx sp s
  have m2 := z6 sy sq v
  rw [sf, EC _ ha j (by omega), xy ha (by omega) sp (fun c => (w c).trans (b k)), aA, CL _ _ (by omega), aA, EC _ t d (by omega), xy t (by omega) sq (fun c => (z c).trans (b i)), aA, CL _ _ (by omega), g i, g k]
  simp only [aA]
  have d1 : ((if (((oT p x).length : Int) == 0) then some (((oT q y).length : Int) == 0) else some false) : Option Bool) = some false := by
   by_cases c2 : (oT p x).length = 0
   ·have : ¬ (oT q y).length = 0 := by omega
    rw [c2]; simp; intro h; rw [h] at this; simp at this
   ·have : (((oT p x).length : Int) == 0) = false := by rw [fb]; omega
    rw [this]; simp
  rw [d1]
  simp only [aA, aB, aH]
  rw [lB (by simp; omega) (by simp; omega), aA, lB (by simp; omega) (by simp; omega), aA, aP, lB (by omega) (by omega), aA, lB (by simp; omega) (by simp; omega), aA, aP, lB (by omega) (by omega), aA]
  have mem : ∀ {p x d : List jm}, (∀ c ∈ x, c ∈ p) → (∀ c, c ∈ d ↔ c ∈ x) → ∀ c, c ∈ d ++ oT p x ↔ c ∈ p := by
   intro p x d s i c
   rw [aN, i, oX]
   constructor
   ·rintro (h | h)
    ·exact s c h
    ·exact h.1
   ·exact fun a => (ie (c ∈ x)).imp id fun u => ⟨a, u⟩
  rw [ih n _ _ _ (by omega) (by simp; omega) (mem s i) (mem v k) (by simp; omega) (by simp; omega)]
  simp
theorem Mn (P : mM) (ha : PB P.jq) (b : PB P.Client) (g : P.jq.jF.length ≤ 30000) (h : P.Client.jF.length ≤ 30000) :
  ∃ L X Y, zn P.jq P.Client [] [] L X Y ∧ sE P.jq P.Client = some (X, Y, (L.length : Int)) ∧ L.length ≤ 60000 ∧ Cc P = some (L.map fun r => ⟨r.1, r.2⟩) ∧
   ∀ {σ : Type} (f : σ → Int × kf → Option (Bool × σ)) (s : σ), mB P.jq.Name P.jq.jF P.jq.jS P.Client.Name P.Client.jF P.Client.jS f jP [] [] 0 s = xo f 0 L s := by
 obtain ⟨L, X, Y, a, e, d⟩ := Ms P.jq P.Client ha b (by omega) (by omega) jP [] [] 0 mE.nil mE.nil (by simp) (by simp) (by rw [lj]; simp; omega) (by simp; omega)
 simp only [bP, fN] at d
 refine ⟨L, X, Y, a, ?_, by omega, ?_, fun f s => ?_⟩
 ·unfold sE
  rw [show (0 : Int) = ((0 : Nat) : Int) from rfl, e, dX]
 ·unfold Cc
  rw [NX ha b g h a jP [] [] [] (by rw [lj]; omega) (by simp; omega) (fun _ => Iff.rfl) (fun _ => Iff.rfl) rfl rfl, aP]
 ·exact FP ha b (by omega) (by omega) f a jP 0 s (by rw [lj]; omega) (by omega)
theorem zn.new {a b : jX} {x y X Y : List jm} {L : RL} (h : zn a b x y L X Y) : (∀ r ∈ L, ∀ c ∈ r.1, c ∉ x) ∧ ∀ r ∈ L, ∀ c ∈ r.2, c ∉ y := by
 induction h with
 | done => exact ⟨by simp, by simp⟩
 | step _ _ _ _ j k _ _ _ _ ih =>
  refine ⟨fun r d c g => ?_, fun r d c g => ?_⟩
  ·rcases aK.1 d with rfl | d
   ·exact (oX.1 g).2
   ·exact fun i => ih.1 r d c g (j c i)
  ·rcases aK.1 d with rfl | d
   ·exact (oX.1 g).2
   ·exact fun i => ih.2 r d c g (k c i)
theorem R7 (c : jm) (n : Int) (l : kf) : oS 0 c n l = some (if pc kU l.og c then Sum.inr (true, n) else Sum.inl ()) := by
 unfold oS pf
 have c1 : (0 : Int) ≥ 0 := by omega
 have c2 : (0 : Int) < 2 := by omega
 simp only [gB c1, gB c2, aM, aA, aS, CD]
 cases pc kU l.og c <;> rfl
theorem Sv (c : jm) (n : Int) (l : kf) : oS 1 c n l = some (if pc kU l.nB c then Sum.inr (true, n) else Sum.inl ()) := by
 unfold oS pf
 have c1 : (1 : Int) ≥ 0 := by omega
 have c2 : (1 : Int) < 2 := by omega
 have a : ((1 : Int) == 0) = false := rfl
 simp only [gB c1, gB c2, a, aM, aA, aS, CD, aB, aH]
 cases pc kU l.nB c <;> rfl
theorem CU (P : mM) (l : List jm) (i : l.length ≤ 1000000) (h : Gd P.Formula) : tb P l = some (nv (vD l P.Client.Name) P.Formula) := by
 obtain ⟨C, T, j, ws, n, e, m, d, _⟩ := Iq l i
 unfold tb
 rw [e, aA]
 rw [Hq (vD l P.Client.Name) _ (fun r => by
  unfold tj
  rw [nH]
  obtain ⟨b, a, g⟩ := I4 m C j ws [] n r P.Client.Name
  rw [a]
  congr 1
  rw [bH, g, B4]
  exact ot.congr (fun c => by rw [d, cK]) _) _ h]
 rfl
theorem OZ (P : mM) (h : Gd P.Formula) (n : Int) (l : kf) (out : List ky) (s : ky) (a : List jm) (h1 : a.length + l.nB.length ≤ 1000000) (k : out.length ≤ 1000000) :
  pR P n l out s a = some (let s' : ky := ⟨wi0 .i64 (s.og + (l.og.length : Int)), wi0 .i64 (s.nB + (l.nB.length : Int))⟩; if nv (vD (a ++ l.nB) P.Client.Name) P.Formula then Sum.inr (true, out ++ [s']) else Sum.inl (out ++ [s'], s', a ++ l.nB)) := by
 obtain ⟨f, g⟩ : ∃ f, jP = f + 3 := ⟨18446744073709551613, by rw [lj]⟩
 unfold pR
 rw [lB (by omega) (by omega), aA, g]
 have i : wi0 .i64 ((0 : Int) + 1) = 1 := jT (by omega) (by omega)
 have j : wi0 .i64 ((1 : Int) + 1) = 2 := jT (by omega) (by omega)
 have b : ((0 : Int) < 2) := by omega
 have c1 : ((1 : Int) < 2) := by omega
 have c2 : ¬ ((2 : Int) < 2) := by omega
 have d : ((1 : Int) == 0) = false := rfl
 rw [nq, i, nq, j]
 simp only [b, c1, c2, d, bV, cC, aM, aB, aH, aS]
 rw [nq]
 simp only [c2, cC, aM, aB, aH]
 rw [lB (by simp; omega) (by simp; omega), aA, CU P _ (by simp; omega) h, aA]
 cases nv (vD (a ++ l.nB) P.Client.Name) P.Formula <;> rfl
noncomputable def HU (P : mM) : List jm → RL → Bool
 | _, [] => false
 | a, r :: L => nv (vD (a ++ r.2) P.Client.Name) P.Formula || HU P (a ++ r.2) L
theorem Ju (P : mM) (b : Gd P.Formula) : ∀ (L : RL) (i : Nat) (out : List ky) (s : ky) (a : List jm), (∀ r ∈ L, r.2.length ≤ 1000000) → a.length + (L.map fun r => r.2.length).sum ≤ 1000000 → out.length + L.length ≤ 1000000 →
  ∃ z, xo (wT fun (s : List ky × ky × List jm) (x : Int × kf) => pR P x.1 x.2 s.1 s.2.1 s.2.2) i L (Sum.inl (out, s, a)) = some z ∧
   if HU P a L then ∃ l, z = Sum.inr (true, l) else ∃ q, z = Sum.inl q
 | [], i, out, s, a, _, _, _ => ⟨_, by rw [xo], by unfold HU; exact ⟨_, rfl⟩⟩
 | r :: L, i, out, s, a, g, h1, d => by
  simp only [bD, eC, aI] at h1 d
  have e := OZ P b (i : Int) ⟨r.1, r.2⟩ out s a (by simp; omega) (by omega)
  rw [xo]
  simp only [wT]
  simp only at e
  rw [e]
  simp only [dD, aA]
  unfold HU
  cases j : nv (vD (a ++ r.2) P.Client.Name) P.Formula
  ·simp only [aB, aH, aM, iM]
   exact Ju P b L (i + 1) _ _ _ (fun x h => g x (by simp [h])) (by simp; omega) (by simp; omega)
  ·simp only [aM, Bool.true_or, aB, aH]
   exact ⟨_, rfl, _, rfl⟩
theorem LS {σ : Type} (f : σ → Int × kf → Option (Bool × σ)) (i : Nat) (r : List jm × List jm) (s : σ) : xo f i [r] s = (f s ((i : Int), ⟨r.1, r.2⟩)).map fun z => z.2 := by
 rw [xo]
 cases f s ((i : Int), ⟨r.1, r.2⟩) with
 | none => rfl
 | some z => simp only [aA, xo, ite_self, dD]
def nO : jX := ⟨NK, [], []⟩
def nC : jX := ⟨Ov, [], []⟩
def uY (c : jX) (f : Formula) : mM := ⟨nO, c, f, 0, ⟨0, 0⟩, 0, 0, 0, []⟩
theorem RE (n : ByteArray) : PB ⟨n, [], []⟩ := ⟨by simp, by simp, by simp, by simp, by simp⟩
theorem RQ (f : Formula) (h : jV f ≤ 10000000) : PB (sC f) := ⟨by simp [sC], by simp [sC], by simpa [sC, Hr] using h, by simp [sC], by simp [sC]⟩
theorem JE {n : ByteArray} {l : List jm} {peer : ByteArray} {c : jm} : ¬ nl ⟨n, [], []⟩ l peer c := fun h => by obtain ⟨x, a, _⟩ := h.1; cases a
theorem OX : mE [sc] := ⟨by simp, by simp [QK]⟩
theorem MF (l : List jm) (c : jm) : c ∈ [sc] ↔ nl (sC oJ) l NK c := by rw [bM]; exact (OC QK l NK c).symm
theorem SS : oT [sc] [] = [sc] := by unfold oT; rfl
theorem Oc : zn nO (sC oJ) [] [] [([], [sc])] [] [sc] := by
 have := zn.step (a := nO) (b := sC oJ) mE.nil mE.nil mE.nil OX (by simp) (by simp) (fun c => ⟨(by simp), fun h => absurd h JE⟩) (MF []) (by simp) (zn.done mE.nil OX (fun c => ⟨(by simp), fun h => absurd h JE⟩) (MF []))
 rw [SS] at this
 exact this
theorem LL {P : mM} (ha : PB P.jq) (a : PB P.Client) (d : P.jq.jF.length ≤ 30000) (g : P.Client.jF.length ≤ 30000) {L : RL} {X Y : List jm} (h : zn P.jq P.Client [] [] L X Y) (b : L.length ≤ 10) {σ : Type} (f : σ → Int × kf → Option (Bool × σ)) (s : σ) :
  mB P.jq.Name P.jq.jF P.jq.jS P.Client.Name P.Client.jF P.Client.jS f jP [] [] 0 s = xo f 0 L s :=
 FP ha a (by omega) (by omega) f h jP 0 s (by rw [lj]; omega) (by omega)
theorem RI : Gd oJ := by unfold Gd; decide +kernel
theorem KQ : Gd (tg sY) := by unfold Gd; decide +kernel
theorem PN : qE (uY nC oJ) = some ([], true) := by
 unfold qE
 rw [CU _ _ (by simp) RI]
 have : nv (vD [] (uY nC oJ).Client.Name) (uY nC oJ).Formula = true := by
  unfold nv
  rw [show mX (uY nC oJ).Formula = true by decide +kernel, show (uY nC oJ).Formula = oJ from rfl, uB]
  rfl
 rw [this]
 rfl
theorem Hf : PB (uY (sC oJ) (tg sY)).jq ∧ PB (uY (sC oJ) (tg sY)).Client := ⟨RE _, RQ _ (by decide +kernel)⟩
theorem Kg : qE (uY (sC oJ) (tg sY)) = some ([⟨0, 1⟩], true) := by
 unfold qE
 rw [CU _ _ (by simp) KQ]
 have v0 : nv (vD [] (uY (sC oJ) (tg sY)).Client.Name) (uY (sC oJ) (tg sY)).Formula = false := by
  unfold nv
  rw [show (uY (sC oJ) (tg sY)).Formula = tg sY from rfl, Kn, Qw, iz]
 rw [v0]
 unfold nQ
 simp only [aA, aB, aH]
 unfold mG
 rw [LL Hf.1 Hf.2 (by simp [uY, nO]) (by simp [uY, sC]) Oc (by simp)]
 have e := OZ (uY (sC oJ) (tg sY)) KQ ((0 : Nat) : Int) ⟨[], [sc]⟩ [] ⟨0, 0⟩ [] (by simp) (by simp)
 rw [LS]
 simp only [wT]
 simp only at e
 rw [e]
 have v1 : nv (vD ([] ++ [sc]) (uY (sC oJ) (tg sY)).Client.Name) (uY (sC oJ) (tg sY)).Formula = true := by
  unfold nv
  rw [show (uY (sC oJ) (tg sY)).Formula = tg sY from rfl, Kn, show mX (tg sY) = true by decide +kernel, dL]
  exact Q5 QK rfl (by simp)
 rw [v1]
 simp only [aM, dD, aA, aB, aH, aP, bP, aI]
 rw [jT (by omega) (by omega), jT (by omega) (by omega)]
 rfl
theorem MA (e : Int) (he : e = 0 ∨ e = 1) : vj (uY (sC oJ) (tg sY)) e sc = some (0, decide (e = 1)) := by
 unfold vj nQ
 simp only [aA]
 unfold mG
 rw [LL Hf.1 Hf.2 (by simp [uY, nO]) (by simp [uY, sC]) Oc (by simp), LS]
 simp only [wT]
 rcases he with rfl | rfl
 ·have a := R7 sc ((0 : Nat) : Int) ⟨[], [sc]⟩
  rw [a]
  rfl
 ·have a := Sv sc ((0 : Nat) : Int) ⟨[], [sc]⟩
  rw [a, (tf ns _ sc).2 (by simp)]
  rfl
theorem PF : tG = some true := by
 have b : Eh 1 (0 : Int) 8 = some (List.replicate 8 0) := by unfold Eh; rw [aZ (by decide)]; rfl
 have g1 : oB (uY nC oJ) = some (0, true) := by unfold oB; rw [PN]; rfl
 have g2 : oB (uY (sC oJ) (tg sY)) = some (1, true) := by unfold oB; rw [Kg]; rfl
 have g3 : xf (uY (sC oJ) (tg sY)) = some ([⟨0, 1⟩], true) := by unfold xf; rw [Kg]; rfl
 have d := MA 0 (.inl rfl)
 have h1 := MA 1 (.inr rfl)
 have a := LL Hf.1 Hf.2 (by simp [uY, nO]) (by simp [uY, sC]) Oc (by simp) (fun (s : Int) (x : Int × kf) => pW x.1 x.2 s) 0
 have hk : xo (fun (s : Int) (x : Int × kf) => pW x.1 x.2 s) 0 [([], [sc])] 0 = some 1 := by
  rw [LS]
  unfold pW
  rw [jT (by omega) (by omega)]
  rfl
 rw [hk] at a
 unfold tG
 rw [b]
 erw [g1]
 simp only [aA]
 erw [g2]
 simp only [aA]
 erw [h1]
 simp only [aA]
 erw [d]
 simp only [aA]
 erw [g3]
 unfold nQ mG
 simp only [aA]
 erw [a]
 rfl
def Ef (L : RL) : List jm := (L.map fun r => r.1).flatten
def xY (L : RL) : List jm := (L.map fun r => r.2).flatten
theorem DN (r : List jm × List jm) (L : RL) : Ef (r :: L) = r.1 ++ Ef L := rfl
theorem zb (r : List jm × List jm) (L : RL) : xY (r :: L) = r.2 ++ xY L := rfl
theorem zn.sum {a b : jX} {x y X Y : List jm} {L : RL} (h : zn a b x y L X Y) : (∀ c, c ∈ X ↔ c ∈ x ∨ c ∈ Ef L) ∧ (∀ c, c ∈ Y ↔ c ∈ y ∨ c ∈ xY L) ∧ X.length = x.length + (Ef L).length ∧ Y.length = y.length + (xY L).length := by
 induction h with
 | done => simp [Ef, xY]
 | @step x y p q X Y L sx sy sp sq g i j k c1 l ih =>
  obtain ⟨i1, i2, i3, i4⟩ := ih
  have m1 := z6 sx sp g
  have m2 := z6 sy sq i
  rw [DN, zb]
  refine ⟨fun c => ?_, fun c => ?_, by simp; omega, by simp; omega⟩
  ·rw [i1, aN, oX]
   constructor
   ·rintro (h | h)
    ·exact (ie (c ∈ x)).imp id fun d => .inl ⟨h, d⟩
    ·exact .inr (.inr h)
   ·rintro (h | h | h)
    ·exact .inl (g c h)
    ·exact .inl h.1
    ·exact .inr h
  ·rw [i2, aN, oX]
   constructor
   ·rintro (h | h)
    ·exact (ie (c ∈ y)).imp id fun d => .inl ⟨h, d⟩
    ·exact .inr (.inr h)
   ·rintro (h | h | h)
    ·exact .inl (i c h)
    ·exact .inl h.1
    ·exact .inr h
theorem Jo : ∀ (L : RL) (i : Nat) (A B : List jm) (k : Nat), A.length + (Ef L).length ≤ 1000000 → B.length + (xY L).length ≤ 1000000 → k + L.length ≤ 1000000 →
  xo (fun (s : List jm × List jm × Int) (x : Int × kf) => nX x.1 x.2 s.1 s.2.1 s.2.2) i L (A, B, (k : Int)) = some (A ++ Ef L, B ++ xY L, ((k + L.length : Nat) : Int))
 | [], i, A, B, k, _, _, _ => by rw [xo]; simp [Ef, xY]
 | r :: L, i, A, B, k, ha, a, hk => by
  rw [DN, aD] at ha
  rw [zb, aD] at a
  rw [aI] at hk
  rw [xo]
  have e : nX (i : Int) ⟨r.1, r.2⟩ A B (k : Int) = some (true, A ++ r.1, B ++ r.2, ((k + 1 : Nat) : Int)) := by
   unfold nX
   simp only
   rw [lB (by omega) (by omega), aA, lB (by omega) (by omega), aA, jT (by omega) (by omega)]
   congr 5
  simp only at e ⊢
  rw [e]
  simp only [aA, aM]
  rw [Jo L (i + 1) (A ++ r.1) (B ++ r.2) (k + 1) (by simp; omega) (by simp; omega) (by omega), DN, zb, aG, aG, aI]
  congr 4; omega
theorem Cu {l m : List jm} (h : ∀ c ∈ l, c ∈ m) {peer : ByteArray} {f : Formula} (a : nv (vD l peer) f = true) : nv (vD m peer) f = true := by
 unfold nv at *
 rw [bk] at *
 exact ⟨a.1, KC (J6 h peer) f a.2⟩
theorem LG {l m : List jm} (h : ∀ c, c ∈ l ↔ c ∈ m) (peer : ByteArray) (f : Formula) : nv (vD l peer) f = nv (vD m peer) f := by
 rw [bH]
 exact ⟨Cu fun c a => (h c).1 a, Cu fun c a => (h c).2 a⟩
theorem ND (P : mM) : ∀ (L : RL) (a : List jm), (nv (vD a P.Client.Name) P.Formula || HU P a L) = nv (vD (a ++ xY L) P.Client.Name) P.Formula
 | [], a => by rw [HU, Bool.or_false]; simp [xY]
 | r :: L, a => by
  have ih := ND P L (a ++ r.2)
  rw [aG] at ih
  rw [HU, ih, zb]
  cases h : nv (vD a P.Client.Name) P.Formula
  ·rfl
  ·rw [Bool.true_or, Cu (fun c b => by simp [b]) h]
theorem N3 (L : RL) : (L.map fun r => r.2.length).sum = (xY L).length := by
 unfold xY
 rw [List.length_flatten, eo]; rfl
theorem Mm {L : RL} {r : List jm × List jm} (h : r ∈ L) : r.2.length ≤ (xY L).length := by
 induction L with
 | nil => cases h
 | cons z L ih =>
  rw [zb, aD]
  rcases aK.1 h with rfl | h
  ·omega
  ·have := ih h; omega
theorem M0 {l X : List jm} (b : mE X) (h : ∀ c, c ∈ X ↔ c ∈ l) (g : l.length ≤ 1000000) : sF l = some X := by
 obtain ⟨s, e, a⟩ := Hj l (by omega)
 have h1 : mE s := ⟨a.1, fun c d => ((a.2 c).1 d).2⟩
 rw [e, h1.ext b fun c => by rw [a.2, h]; exact ⟨fun q => q.1, fun q => ⟨q, b.2 c ((h c).2 q)⟩⟩]
theorem FH (M : tG = some true) (p : mM) (hp : PQ p) : tK p = some true := by
 obtain ⟨g, E, T⟩ := Tx p hp
 have h : Gd p.Formula := by have := hp.f; unfold Gd; omega
 unfold tK
 rw [M, E]
 simp only [aA, cH, aB, aH]
 by_cases i : g > 6000
 ·simp only [i, bV, aM]
 ·simp only [i, cC, aB, aH]
  have ha := hp.o.toPB
  have n := hp.c.toPB
  obtain ⟨L, X, Y, J, k, U, Q, m⟩ := Mn p ha n (by omega) (by omega)
  obtain ⟨X', Y', j, v, b, P, _⟩ := Pn p.jq p.Client p.Formula ha n (by omega) (by omega) h
  rw [k] at v
  have x := jb v
  simp only [iJ] at x
  obtain ⟨rfl, rfl, rfl⟩ := x
  have W := b.lx
  have Z := b.ly
  obtain ⟨s1, s2, t, u⟩ := J.sum
  rw [bP, dX] at t u
  rw [k, P]
  unfold nQ
  simp only [aA]
  unfold mG
  rw [m]
  have d := Jo L 0 [] [] 0 (by simp; omega) (by simp; omega) (by omega)
  rw [show ((0 : Nat) : Int) = 0 from rfl, aP, aP, dX] at d
  rw [d, aA]
  have I : ∃ w, oB p = some (w, nv (vD Y p.Client.Name) p.Formula) := by
   have O : nv (vD Y p.Client.Name) p.Formula = nv (vD (xY L) p.Client.Name) p.Formula := LG (fun c => by rw [s2]; simp) _ _
   have s := ND p L []
   rw [aP] at s
   unfold oB qE
   rw [CU p [] (by simp) h, aA, O, ← s]
   cases R : nv (vD [] p.Client.Name) p.Formula
   ·simp only [aB, aH, iM]
    unfold nQ
    simp only [aA]
    unfold mG
    rw [m]
    obtain ⟨z, G, a⟩ := Ju p h L 0 [] ⟨0, 0⟩ [] (fun r d => by have := Mm d; omega) (by rw [N3]; simp; omega) (by simp; omega)
    rw [G, aA]
    cases hk : HU p [] L
    ·rw [hk] at a
     simp only [aB, aH] at a
     obtain ⟨q, rfl⟩ := a
     exact ⟨_, rfl⟩
    ·rw [hk] at a
     simp only [aM] at a
     obtain ⟨l, rfl⟩ := a
     exact ⟨_, rfl⟩
   ·exact ⟨_, rfl⟩
  obtain ⟨w, y⟩ := I
  rw [y, M0 b.sx (fun c => by rw [s1]; simp) (by simp only; omega), M0 b.sy (fun c => by rw [s2]; simp) (by simp only; omega)]
  simp only [aA]
  rw [O2, O2, t, u]
  simp only [aA, aS, aM]
end Go.Proofs.YtjjjihkifgdhgaaGreat
namespace Go.Proofs.YtjjjihkifgdhgaaGreat.Lf
open Go.ChangeShapes Go.WideShapes Go.ChangeAt Go.RowKit
open Go.Proofs.YtjjjihkifgdhgaaGreat (Rows.uptoBulk Rows.uptoBulkAll Rows.uptoSmall)
theorem RF {H : Type} (d : DataW H) : 1 ≤ Rows.uptoBulk d := by
 cases d with
 | lit l => cases l <;> simp [Rows.uptoBulk]
 | nil => simp [Rows.uptoBulk]
 | ptr d => simp [Rows.uptoBulk]
 | slice a spare => simp [Rows.uptoBulk]
 | agg parts => simp [Rows.uptoBulk]
 | iface t d => simp [Rows.uptoBulk]
 | map entries => simp [Rows.uptoBulk]
 | held h => simp [Rows.uptoBulk]
def GN {α : Type} (P : Program) (t : TypeId) (enc : α → List Value) (sz : α → Nat) : Prop :=
 ∀ (H : Type) (b : TypeId × Value → H) (W : World) (base : Nat) (sp : Nat → Bool) (d : Bool) (fuel : Nat) (cs : List Value) (x : DataW H × List MemPlace),
  DataW.trod b P W base sp d fuel t cs = some x → ∃ a : α, cs = enc a ∧ sz a ≤ Rows.uptoBulk x.1
theorem Ll {P : Program} {t : TypeId} (a : P.underlying t = some .string) : GN P t (fun s : ByteArray => [.string s]) (fun s => s.size) := by
 intro H b W base sp d fuel cs x h
 obtain ⟨s, rfl, rfl, _⟩ := DataW.trod_string a h
 refine ⟨s, rfl, ?_⟩
 have e : s.data.toList.length = s.size := by rw [cZ]; rfl
 simp [Rows.uptoBulk, e]
theorem PU {P : Program} {t : TypeId} {k : IntKind} (a : P.underlying t = some (.int k)) : GN P t (fun n : Int => [.int k n]) (fun _ => 0) := by
 intro H b W base sp d fuel cs x h
 obtain ⟨n, rfl, rfl, _⟩ := DataW.trod_int a h
 exact ⟨n, rfl, ep _⟩
theorem P8 {α : Type} {n : Nat} {p : Nat → α → Prop} (h : ∀ i, i < n → ∃ x, p i x) : ∃ l : List α, l.length = n ∧ ∀ i x, l[i]? = some x → p i x := by
 induction n with
 | zero => exact ⟨[], rfl, by simp⟩
 | succ n ih =>
  obtain ⟨l, h1, d⟩ := ih fun i b => h i (by omega)
  obtain ⟨x, j⟩ := h n (by omega)
  refine ⟨l ++ [x], by simp [h1], fun i y a => ?_⟩
  by_cases b : i < l.length
  ·rw [fR b] at a
   exact d i y a
  ·rw [eJ (by omega)] at a
   have : i - l.length = 0 := by
    cases g : i - l.length with
    | zero => rfl
    | succ m => rw [g] at a; simp at a
   rw [this] at a
   have e : i = n := by omega
   simp at a
   subst a; rw [e]; exact j
theorem I6 {W : World} {a : Addr} {v : Value} (h : W.cell? a = some v) : ∃ cs T fr, W.heap[a.block]? = some (.cells cs T fr) ∧ a.spot = none ∧ cs[a.off]? = some v := by
 unfold World.cell? at h
 split at h
 ·rename_i c T fr d
  by_cases b : a.spot.isSome
  ·simp [b] at h
  ·simp only [b] at h
   exact ⟨c, T, fr, d, by simpa using b, by simpa using h⟩
 ·cases h
theorem Ex.below {dd : Bool} {W W' : World} (h : Ex dd W W') : Below W.heap.size W W' := ⟨h.os, h.tape, h.output, h.size, h.lO⟩
theorem Dn {H : Type} {k : TypeId × Value → H} {P : Program} (m : laidOutB P = true) {W W' : World} {b : Nat → Bool} :
  ∀ {i : List TypeId} {vs : List Value} {ds : List (DataW H)} {g : List MemPlace}, (∀ t ∈ i, P.readableRec t = true ∧ t < P.types.size) →
   DataW.TrodAll k P W 0 (fun _ => true) true i vs ds g → (∀ p ∈ g, W.sameAt W' p) → (∀ p ∈ g, b p.block = true) → DataW.TrodAll k P W' 0 b true i vs ds g
 | [], _, _, _, _, h, _, _ => by
  obtain ⟨rfl, rfl, rfl⟩ := trodAll_nil h
  exact trodAll_mk0
 | t :: i, _, _, _, j, h, h1, l => by
  obtain ⟨v, vs, d, ds, p, q, rfl, rfl, rfl, n, r⟩ := trodAll_cons h
  exact trodAll_cons_mk (WideElems.Trod_stays m (j t (by simp)).1 (j t (by simp)).2 n (fun x a => h1 x (by simp [a])) (fun x a => l x (by simp [a])))
   (Dn m (fun u hu => j u (by simp [hu])) r (fun x a => h1 x (by simp [a])) (fun x a => l x (by simp [a])))
theorem Ld {H : Type} {enc : TypeId × Value → H} {P : Program} (O : laidOutB P = true) {f : Func} {s : ChangeSpec} {apart fresh handsOn again : Bool} {W W' : World} {args : Array Value} {v : Value} {ds gs : List (DataW H)} {before : List MemPlace} (R : ∀ t ∈ f.params.toList, P.readableRec t = true ∧ t < P.types.size) (m : s.vars = []) (u : DataW.Whole enc P f.params.toList s.vars apart W args.toList ds gs before) {dd : Bool} (I : Ex dd W W') (a : ∀ (b : Nat) (sp : Nat → Bool) (M : Bool), DataW.TrodAll enc P W' b sp M f.resultTypes.toList (v.resultList f.resultTypes.size) (s.fn H (ds ++ gs)).results []) (d : (s.fn H (ds ++ gs)).args = ds) (h : (s.fn H (ds ++ gs)).vars = []) (E : ∀ (j : Nat) (t : TypeId) (r : Value), f.resultTypes[j]? = some t → (v.resultList f.resultTypes.size)[j]? = some r → Value.okWide P W' .any 0 t r) :
  s.post enc P f apart fresh handsOn again W args v W' := by
 have g := u.lt
 have hold : ∀ p ∈ before, (fun b => decide (b < W.heap.size)) p.block = true := fun p hp => by simpa using g p hp
 have z := Ex.below I
 have y := u
 obtain ⟨p, q, L, J, k, T, Q⟩ := u
 rw [m] at J
 obtain ⟨rfl, rfl⟩ := trodVars_none J
 rw [bI] at k
 subst k
 have l : ∀ sp : Nat → Bool, (∀ p ∈ before, sp p.block = true) → DataW.TrodAll enc P W' 0 sp true f.params.toList args.toList (s.fn H (ds ++ [])).args before := fun sp G => by
  rw [d]
  exact Dn O R L (fun x I => z.same (g x I)) G
 have n : ∀ sp : Nat → Bool, DataW.TrodVars enc P W' sp s.vars (s.fn H (ds ++ [])).vars [] := fun sp => by
  rw [h, m]; rfl
 refine ⟨ds, [], before, [], before, [], y, a _ _ _, l _ hold, n _, World.keptBut_mono (fun p hp => ⟨hp, ?_⟩) (z.frame (· ∈ before)), fun _ => ?_⟩
 ·exact Or.inr (Or.inl hp)
 ·refine ⟨E, _, _, ([] ++ before) ++ [], ⟨[] ++ before, [], trodAll_append (l _ (fun _ _ => rfl)) (a _ _ _), n _, rfl, ?_, ?_⟩, ?_⟩
  ·intro b off hp
   have i : MemPlace.cell b off ∈ before := by simpa using hp
   rw [World.frozen?_of_block (w := W) (z.block b (g _ i))]
   exact T b off i
  ·intro ha
   simpa using Q ha
  ·intro p hp _
   simpa using hp
end Go.Proofs.YtjjjihkifgdhgaaGreat.Lf
namespace Go.Proofs.YtjjjihkifgdhgaaGreat.Lf
open Go.ChangeShapes Go.WideShapes Go.ChangeAt Go.RowKit
open Go.Proofs.YtjjjihkifgdhgaaGreat (Rows.uptoBulk Rows.uptoBulkAll Rows.uptoSmall)
def Er {α : Type} (P : Program) (t : TypeId) (R : pA α) (sz : α → Nat) : Prop :=
 ∀ (H : Type) (b : TypeId × Value → H) (W : World) (base : Nat) (sp : Nat → Bool) (d : Bool) (fuel : Nat) (cs : List Value) (x : DataW H × List MemPlace),
  DataW.trod b P W base sp d fuel t cs = some x → ∃ a : α, R (hp W) cs a ∧ sz a ≤ Rows.uptoBulk x.1
theorem GN.rel {α : Type} {P : Program} {t : TypeId} {enc : α → List Value} {sz : α → Nat} (h : GN P t enc sz) : Er P t (Pl enc) sz := fun H a W base sp b fuel cs x d => h H a W base sp b fuel cs x d
end Go.Proofs.YtjjjihkifgdhgaaGreat.Lf
namespace Go.Proofs.YtjjjihkifgdhgaaGreat.Lf
open Go.ChangeShapes Go.WideShapes Go.ChangeAt Go.RowKit
open Go.Proofs.YtjjjihkifgdhgaaGreat (Rows.uptoBulk Rows.uptoBulkAll Rows.uptoSmall)
theorem E9 {H : Type} : ∀ l : List (DataW H), Rows.uptoBulkAll l = (l.map Rows.uptoBulk).sum
 | [] => by simp [Rows.uptoBulkAll]
 | d :: l => by simp [Rows.uptoBulkAll, E9 l]
theorem MO {α : Type} (g : α → Nat) : ∀ (n : Nat) (f : Nat → Nat) {l : List α}, l.length = n → (∀ i x, l[i]? = some x → g x ≤ f i) → (l.map g).sum ≤ ((List.range n).map f).sum
 | 0, f, l, b, h => by
  obtain rfl := dT.1 b
  simp
 | n + 1, f, [], b, h => by cases b
 | n + 1, f, a :: l, b, h => by
  rw [List.range_succ_eq_map, bD, bD, eC, eC, eo]
  have h1 := h 0 a rfl
  have j := MO g n (f ∘ Nat.succ) (l := l) (by simpa using b) (fun i x d => h (i + 1) x (by simpa using d))
  omega
def rB {α : Type} (sz : α → Nat) (l : List α) : Nat := (l.map fun a => max 1 (sz a)).sum
theorem B3 {α : Type} (sz : α → Nat) : ∀ l : List α, l.length ≤ rB sz l
 | [] => aU _
 | a :: l => by have := B3 sz l; simp only [rB, bD, eC, aI] at this ⊢; omega
theorem GI {α : Type} {sz : α → Nat} : ∀ {l : List α} {a : α}, a ∈ l → sz a ≤ rB sz l
 | b :: l, a, h => by
  simp only [rB, bD, eC]
  rcases aK.1 h with rfl | h
  ·omega
  ·have := GI (sz := sz) h; simp only [rB] at this; omega
theorem EP {α : Type} {P : Program} {t e : TypeId} {k : Nat} {R : pA α} {sz : α → Nat} (hk : P.cellsOf e = k) (O : 0 < k) (ht : P.underlying t = some (.slice e)) {H : Type} {eh : TypeId × Value → H} {W : World} {base : Nat} {sp : Nat → Bool} {held : Bool} {fuel : Nat} {cs : List Value} {x : DataW H × List MemPlace} (hd : ∀ (fuel : Nat) (cs : List Value) (y : DataW H × List MemPlace), DataW.trod eh P W base sp held fuel e cs = some y → SizeOf.sizeOf y.1 < SizeOf.sizeOf x.1 → ∃ a : α, R (hp W) cs a ∧ sz a ≤ Rows.uptoBulk y.1) (hf : DataW.trod eh P W base sp held fuel t cs = some x) :
  ∃ v l, cs = [v] ∧ Sl R k (hp W) v l ∧ rB sz l ≤ Rows.uptoBulk x.1 := by
 rcases Go.Deep.open_slice ht hf with ⟨rfl, rfl⟩ | ⟨a, ln, cp, m, n, D, Q, rfl, hb, hl, hm, Y, rfl, L⟩
 ·exact ⟨_, [], rfl, ⟨none, 0, rfl, aU _, ep _, fun h => absurd h (Nat.lt_irrefl _)⟩, ep _⟩
 ·have aa : ln ≤ m := by rw [Y]; split <;> omega
  have hB : ((List.range ln).map fun i => Rows.uptoBulk (D i)).sum ≤ Rows.uptoBulk (DataW.slice ((List.range ln).map D) ((List.range (m - ln)).map fun j => D (ln + j))) := by
   simp only [Rows.uptoBulk]
   rw [E9, eo]
   have e : ((List.range ln).map fun i => Rows.uptoBulk (D i)) = (List.range ln).map (Rows.uptoBulk ∘ D) := rfl
   rw [e]
   omega
  have hS : ∀ i, i < ln → SizeOf.sizeOf (D i) < SizeOf.sizeOf (DataW.slice ((List.range ln).map D) ((List.range (m - ln)).map fun j => D (ln + j))) := fun i M => by
   have := List.sizeOf_lt_of_mem (bF.2 ⟨i, List.mem_range.2 M, rfl⟩ : D i ∈ (List.range ln).map D)
   rw [DataW.slice.sizeOf_spec]; omega
  simp only at hd ⊢
  generalize Rows.uptoBulk (DataW.slice ((List.range ln).map D) ((List.range (m - ln)).map fun j => D (ln + j))) = B at hB
  obtain ⟨l, U, s⟩ := P8 (α := α) (n := ln) (p := fun i x => ∃ b, W.cells? base (a.add (i * k)) k = some b ∧ R (hp W) b x ∧ sz x ≤ Rows.uptoBulk (D i)) fun i M => by
   obtain ⟨b, h1, E⟩ := L i (by omega)
   obtain ⟨x, hR, G⟩ := hd _ _ _ E (hS i M)
   rw [hk] at h1
   exact ⟨x, b, h1, hR, G⟩
  subst U
  refine ⟨_, l, rfl, ⟨some a, cp, rfl, hl, hm, fun h0 => ?_⟩, ?_⟩
  ·have d : ∀ i x, l[i]? = some x → ∃ b, R (hp W) b x ∧ b.length = k ∧ ∀ j, j < k → W.cell? ((a.add (i * k)).add j) = b[j]? := fun i x u =>
    let ⟨b, h1, E, _⟩ := s i x u
    let ⟨_, G, h4⟩ := World.cells?_some h1
    ⟨b, E, G, h4⟩
   obtain ⟨a6, _, h4, h5⟩ := d 0 l[0] (by simp [h0])
   have I := h5 0 O
   rw [Nat.zero_mul, cU (by omega)] at I
   have e0 : (a.add 0).add 0 = a := rfl
   rw [e0] at I
   obtain ⟨cs, T, fr, J, h8, _⟩ := I6 I
   obtain ⟨w, z, a1⟩ := a
   simp only at J h8
   subst h8
   refine ⟨w, z, cs, T, fr, rfl, J, fun i x u => ?_⟩
   obtain ⟨b, gR, g1, g2⟩ := d i x u
   refine ⟨b, g1, gR, fun j y hy => ?_⟩
   have hj : j < k := by
    rw [← g1]
    exact (bJ.1 hy).1
   have h9 := g2 j hj
   rw [Go.Deep.add_add, hy] at h9
   obtain ⟨Z, T', a7, g, a8, q⟩ := I6 h9
   have r : (Addr.add ⟨w, z, none⟩ (i * k + j)).block = w ∧ (Addr.add ⟨w, z, none⟩ (i * k + j)).off = z + (i * k + j) := by
    unfold Addr.add
    split
    ·rename_i hz
     rw [hz]; exact ⟨rfl, rfl⟩
    ·exact ⟨rfl, rfl⟩
   rw [r.1, J] at g
   cases g
   rw [r.2, ← ek] at q
   exact q
  ·refine dz (MO _ _ _ rfl fun i x u => ?_) hB
   exact Nat.max_le.2 ⟨RF _, (s i x u).elim fun _ h => h.2.2⟩
theorem sw {α : Type} {P : Program} {t e : TypeId} {k : Nat} {R : pA α} {sz : α → Nat} (hk : P.cellsOf e = k) (a : 0 < k) (d : Er P e R sz) (i : P.underlying t = some (.slice e)) {H : Type} {b : TypeId × Value → H} {W : World} {base : Nat} {sp : Nat → Bool} {held : Bool} {fuel : Nat} {cs : List Value} {x : DataW H × List MemPlace} (g : DataW.trod b P W base sp held fuel t cs = some x) :
  ∃ v l, cs = [v] ∧ Sl R k (hp W) v l ∧ rB sz l ≤ Rows.uptoBulk x.1 := EP hk a i (fun _ _ _ h _ => d _ _ _ _ _ _ _ _ _ h) g
end Go.Proofs.YtjjjihkifgdhgaaGreat.Lf
namespace Go.Proofs.YtjjjihkifgdhgaaGreat.Lf
open Go.ChangeShapes Go.WideShapes Go.ChangeAt Go.RowKit
open Go.Proofs.YtjjjihkifgdhgaaGreat (Rows.uptoBulk Rows.uptoBulkAll Rows.uptoSmall)
def KJ {α : Type} (R : pA α) (Q : α → Prop) : pA α := fun μ ys x => R μ ys x ∧ Q x
theorem Sl.all {α : Type} {R : pA α} {Q : α → Prop} {k : Nat} {μ : jN} {v : Value} {l : List α} (h : Sl (KJ R Q) k μ v l) : Sl R k μ v l ∧ ∀ x ∈ l, Q x := by
 obtain ⟨A, c, rfl, h1, j, q⟩ := h
 cases l with
 | nil => exact ⟨⟨A, c, rfl, h1, j, fun h => absurd h (by simp)⟩, by simp⟩
 | cons a l =>
  obtain ⟨b, o, cs, T, fr, e, r, m⟩ := q (by simp)
  refine ⟨⟨A, c, rfl, h1, j, fun _ => ⟨b, o, cs, T, fr, e, r, fun i x g => ?_⟩⟩, fun x g => ?_⟩
  ·obtain ⟨ys, n, d, p⟩ := m i x g
   exact ⟨ys, n, d.1, p⟩
  ·obtain ⟨i, s⟩ := List.mem_iff_getElem?.1 g
   obtain ⟨ys, n, d, p⟩ := m i x s
   exact d.2
theorem PW {P : Program} {t : TypeId} (a : P.underlying t = some (.int .u8)) : Er P t (KJ (Pl (kP .u8)) (fun x => 0 ≤ x ∧ x < 256)) (fun _ => 0) := by
 intro H b W base sp d fuel cs x h
 obtain ⟨n, rfl, rfl, hw⟩ := DataW.trod_int a h
 refine ⟨n, ⟨rfl, ?_⟩, ep _⟩
 simp [Lit.wf, IntKind.min, IntKind.max, IntKind.bits, IntKind.signed] at hw
 omega
end Go.Proofs.YtjjjihkifgdhgaaGreat.Lf
namespace Go.Proofs.YtjjjihkifgdhgaaGreat
open Go.IntKind renaming wrap → wi0
open Go.Proofs.Tryz renaming prog → pg0
set_option maxRecDepth 10000
open Go.ChangeShapes Go.WideShapes Go.ChangeAt Go.RowKit
open Go.Proofs.YtjjjihkifgdhgaaGreat Go.Proofs.YtjjjihkifgdhgaaGreat.Lf
theorem PK : Tryz.prog.cellsOf 34 = 18 := by kernel_rfl
theorem Qn {α : Type} {l : List α} (h : l.length = 9) : ∃ a0 a a2 a3 a4 a5 b d g, l = [a0, a, a2, a3, a4, a5, b, d, g] := by
 match l, h with
 | [a0, a, a2, a3, a4, a5, b, d, g], _ => exact ⟨a0, a, a2, a3, a4, a5, b, d, g, rfl⟩
theorem Si {α : Type} {l : List α} (h : l.length = 18) : ∃ a0 k a2 a3 a4 a5 m n p a9 a b a12 d g i j a17, l = [a0, k, a2, a3, a4, a5, m, n, p, a9, a, b, a12, d, g, i, j, a17] := by
 match l, h with
 | [a0, k, a2, a3, a4, a5, m, n, p, a9, a, b, a12, d, g, i, j, a17], _ => exact ⟨a0, k, a2, a3, a4, a5, m, n, p, a9, a, b, a12, d, g, i, j, a17, rfl⟩
theorem Qf : Tryz.prog.cellsOf 25 = 3 := by kernel_rfl
theorem OM {α : Type} {l : List α} (h : l.length = 3) : ∃ a0 a a2, l = [a0, a, a2] := by
 match l, h with
 | [a0, a, a2], _ => exact ⟨a0, a, a2, rfl⟩
theorem D1 : Tryz.prog.cellsOf 9 = 1 := by kernel_rfl
theorem Fm : GN pg0 9 (fun s : ByteArray => [.string s]) (fun s => s.size) := Ll Tryz.underlying9
theorem Ka : Tryz.prog.cellsOf 22 = 1 := by kernel_rfl
theorem Ho : Tryz.prog.cellsOf 63 = 15 := by kernel_rfl
theorem D9 {α : Type} {l : List α} (h : l.length = 2) : ∃ a0 a, l = [a0, a] := by
 match l, h with
 | [a0, a], _ => exact ⟨a0, a, rfl⟩
theorem RP {α : Type} {l : List α} (h : l.length = 15) : ∃ a0 i a2 a3 a4 a5 j k m a9 a b a12 d g, l = [a0, i, a2, a3, a4, a5, j, k, m, a9, a, b, a12, d, g] := by
 match l, h with
 | [a0, i, a2, a3, a4, a5, j, k, m, a9, a, b, a12, d, g], _ => exact ⟨a0, i, a2, a3, a4, a5, j, k, m, a9, a, b, a12, d, g, rfl⟩
theorem Px : Tryz.prog.cellsOf 61 = 10 := by kernel_rfl
theorem GU : Tryz.prog.cellsOf 49 = 9 := by kernel_rfl
theorem CB : GN pg0 3 (fun n : Int => [.int .i64 n]) (fun _ => 0) := PU Tryz.underlying3
theorem F4 : Tryz.prog.cellsOf 3 = 1 := by kernel_rfl
theorem Et : Tryz.prog.cellsOf 27 = 2 := by kernel_rfl
def wL (x : jl) : Nat := x.jq.size + x.jv.size
theorem FY : GN pg0 27 ju wL := by
 intro H g W base sp j fuel cs x h
 obtain ⟨xs, n, _, rfl, p, hlen, k⟩ := dI Tryz.underlying27 h
 obtain ⟨r, s, rfl⟩ := D9 hlen
 obtain ⟨a, c1, rfl⟩ := D9 (p.trans Et)
 have i : DataW.trod g pg0 W base sp j n 9 (([a, c1].drop 0).take (Tryz.prog.cellsOf 9)) = some r := k 0 _ rfl
 have h1 : DataW.trod g pg0 W base sp j n 9 (([a, c1].drop 1).take (Tryz.prog.cellsOf 9)) = some s := k 1 _ rfl
 simp only [D1, List.drop, List.take] at i h1
 obtain ⟨q, b, l⟩ := Fm _ _ _ _ _ _ _ _ _ i
 obtain ⟨s1, d, m⟩ := Fm _ _ _ _ _ _ _ _ _ h1
 simp only [aW, dr] at b d
 obtain rfl := b
 obtain rfl := d
 refine ⟨⟨q, s1⟩, rfl, ?_⟩
 simp only [List.map, Rows.uptoBulk, Rows.uptoBulkAll, wL] at l m ⊢
 omega
theorem SP {α : Type} {l : List α} (h : l.length = 6) : ∃ a0 a a2 a3 a4 a5, l = [a0, a, a2, a3, a4, a5] := by
 match l, h with
 | [a0, a, a2, a3, a4, a5], _ => exact ⟨a0, a, a2, a3, a4, a5, rfl⟩
def uC (x : jm) : Nat := wL x.Head + x.km.size + wL x.B + wL x.C + x.kC.size
theorem OU : GN pg0 49 jr uC := by
 intro H l W base sp m fuel cs x h
 obtain ⟨xs, n, _, rfl, Q, hlen, p⟩ := dI Tryz.underlying49 h
 obtain ⟨Z, y1, y2, y3, y4, y5, rfl⟩ := SP hlen
 obtain ⟨a, c1, c2, b, d, g, i, j, k, rfl⟩ := Qn (Q.trans GU)
 have w : DataW.trod l pg0 W base sp m n 3 (([a, c1, c2, b, d, g, i, j, k].drop 0).take (Tryz.prog.cellsOf 3)) = some Z := p 0 _ rfl
 have h1 : DataW.trod l pg0 W base sp m n 27 (([a, c1, c2, b, d, g, i, j, k].drop 1).take (Tryz.prog.cellsOf 27)) = some y1 := p 1 _ rfl
 have y : DataW.trod l pg0 W base sp m n 9 (([a, c1, c2, b, d, g, i, j, k].drop 3).take (Tryz.prog.cellsOf 9)) = some y2 := p 2 _ rfl
 have z : DataW.trod l pg0 W base sp m n 27 (([a, c1, c2, b, d, g, i, j, k].drop 4).take (Tryz.prog.cellsOf 27)) = some y3 := p 3 _ rfl
 have E : DataW.trod l pg0 W base sp m n 27 (([a, c1, c2, b, d, g, i, j, k].drop 6).take (Tryz.prog.cellsOf 27)) = some y4 := p 4 _ rfl
 have G : DataW.trod l pg0 W base sp m n 9 (([a, c1, c2, b, d, g, i, j, k].drop 8).take (Tryz.prog.cellsOf 9)) = some y5 := p 5 _ rfl
 simp only [Et, F4, D1, List.drop, List.take] at w h1 y z E G
 obtain ⟨R, q, I⟩ := CB _ _ _ _ _ _ _ _ _ w
 obtain ⟨s1, r, J⟩ := FY _ _ _ _ _ _ _ _ _ h1
 obtain ⟨s2, s, L⟩ := Fm _ _ _ _ _ _ _ _ _ y
 obtain ⟨T, t, M⟩ := FY _ _ _ _ _ _ _ _ _ z
 obtain ⟨U, u, O⟩ := FY _ _ _ _ _ _ _ _ _ E
 obtain ⟨Y, v, P⟩ := Fm _ _ _ _ _ _ _ _ _ G
 simp only [ju, aW, dr] at q r s t u v
 obtain rfl := q
 obtain ⟨rfl, rfl⟩ := r
 obtain rfl := s
 obtain ⟨rfl, rfl⟩ := t
 obtain ⟨rfl, rfl⟩ := u
 obtain rfl := v
 refine ⟨⟨R, s1, s2, T, U, Y⟩, rfl, ?_⟩
 simp only [List.map, Rows.uptoBulk, Rows.uptoBulkAll, uC] at I J L M O P ⊢
 omega
theorem Kw : Tryz.prog.cellsOf 59 = 1 := by kernel_rfl
theorem ME : Tryz.prog.cellsOf 5 = 1 := by kernel_rfl
theorem O0 : Er pg0 5 (KJ (Pl (kP .u8)) (fun x => 0 ≤ x ∧ x < 256)) (fun _ => 0) := PW Tryz.underlying5
theorem Ca : Tryz.prog.cellsOf 30 = 5 := by kernel_rfl
theorem Td {α : Type} {l : List α} (h : l.length = 4) : ∃ a0 a a2 a3, l = [a0, a, a2, a3] := by
 match l, h with
 | [a0, a, a2, a3], _ => exact ⟨a0, a, a2, a3, rfl⟩
theorem Tc {α : Type} {l : List α} (h : l.length = 5) : ∃ a0 a a2 a3 a4, l = [a0, a, a2, a3, a4] := by
 match l, h with
 | [a0, a, a2, a3, a4], _ => exact ⟨a0, a, a2, a3, a4, rfl⟩
theorem Pf : Tryz.prog.cellsOf 28 = 1 := by kernel_rfl
theorem SV {H : Type} {x : DataW H × List MemPlace} {ys : List (DataW H × List MemPlace)} {p : List MemPlace} (a : x = (.agg (ys.map (·.1)), p)) (i : Nat) {y : DataW H × List MemPlace} (h : ys[i]? = some y) : SizeOf.sizeOf y.1 < SizeOf.sizeOf x.1 := by
 subst a
 have := List.sizeOf_lt_of_mem (bF.2 ⟨y, cV h, rfl⟩ : y.1 ∈ ys.map (·.1))
 simp only [DataW.agg.sizeOf_spec]; omega
theorem I8 : ∀ l : List Formula, szFL l ≤ rB yt l
 | [] => aU _
 | k :: l => by have := I8 l; rw [szFL]; simp only [rB, bD, eC] at this ⊢; omega
theorem Rw : ∀ (N : Nat) (H : Type) (M : TypeId × Value → H) (W : World) (base : Nat) (sp : Nat → Bool) (O : Bool) (fuel : Nat) (cs : List Value) (x : DataW H × List MemPlace),
  DataW.trod M pg0 W base sp O fuel 30 cs = some x → SizeOf.sizeOf x.1 < N → ∃ a : Formula, jo (hp W) cs a ∧ yt a ≤ Rows.uptoBulk x.1 := by
 intro N
 induction N with
 | zero => intro _ _ _ _ _ _ _ _ _ _ h; exact absurd h (Nat.not_lt_zero _)
 | succ N ih =>
  intro H M W base sp O fuel cs x h hN
  obtain ⟨a1, w, _, r, E, q, k⟩ := dI Tryz.underlying30 h
  obtain ⟨s, t, u, v, rfl⟩ := Td q
  obtain ⟨b, d, g, i, j, rfl⟩ := Tc (E.trans Ca)
  have l : DataW.trod _ pg0 W _ _ _ w 3 (([b, d, g, i, j].drop 0).take (Tryz.prog.cellsOf 3)) = some s := k 0 _ rfl
  have m : DataW.trod _ pg0 W _ _ _ w 3 (([b, d, g, i, j].drop 1).take (Tryz.prog.cellsOf 3)) = some t := k 1 _ rfl
  have n : DataW.trod _ pg0 W _ _ _ w 27 (([b, d, g, i, j].drop 2).take (Tryz.prog.cellsOf 27)) = some u := k 2 _ rfl
  have p : DataW.trod _ pg0 W _ _ _ w 28 (([b, d, g, i, j].drop 4).take (Tryz.prog.cellsOf 28)) = some v := k 3 _ rfl
  simp only [Et, Pf, F4, List.drop, List.take] at l m n p
  obtain ⟨s2, G, R⟩ := CB _ _ _ _ _ _ _ _ _ l
  simp only [aW, dr] at G
  obtain rfl := G
  obtain ⟨s3, I, T⟩ := CB _ _ _ _ _ _ _ _ _ m
  simp only [aW, dr] at I
  obtain rfl := I
  obtain ⟨s4, J, U⟩ := FY _ _ _ _ _ _ _ _ _ n
  simp only [ju, aW, dr] at J
  obtain ⟨rfl, rfl⟩ := J
  obtain ⟨v5, P, L, q5, Y⟩ := EP Ca (by decide) Tryz.underlying28 (fun f cs y h Z => ih _ _ _ _ _ _ _ _ _ h (by have := SV r 3 rfl; omega)) p
  simp only [aW, dr] at L
  obtain rfl := L
  have Q := bN (fun z => Rows.uptoBulk z.1) r
  refine ⟨⟨s2, s3, s4, P⟩, jo.mk ⟨_, rfl, q5⟩, ?_⟩
  have Z := I8 P
  simp only [List.map, Rows.uptoBulk, Rows.uptoBulkAll, wL] at R T U Y Q ⊢
  rw [Jr]
  simp only
  omega
theorem IM : Er pg0 30 jo yt := fun H a W base sp b fuel cs x h => Rw _ H a W base sp b fuel cs x h (bn _)
def tY (x : kd) : Nat := uC x.Signed.jm + rB (fun _ : Int => 0) x.Signed.Tag + 1 + yt x.jw + 1
def Nk (x : kd) : Prop := (∀ y ∈ x.Signed.Tag, 0 ≤ y ∧ y < 256)
theorem MG : Er pg0 63 (KJ jW Nk) tY := by
 intro H eh W base sp hd fuel cs x h
 obtain ⟨a7, n6, _, Y, U, E, L⟩ := dI Tryz.underlying63 h
 obtain ⟨O, P, rfl⟩ := D9 E
 obtain ⟨a, b, d, g, i, j, k, l, m, n, p, q, r, s, t, rfl⟩ := RP (U.trans Ho)
 have u : DataW.trod _ pg0 W _ _ _ n6 61 (([a, b, d, g, i, j, k, l, m, n, p, q, r, s, t].drop 0).take (Tryz.prog.cellsOf 61)) = some O := L 0 _ rfl
 have v : DataW.trod _ pg0 W _ _ _ n6 30 (([a, b, d, g, i, j, k, l, m, n, p, q, r, s, t].drop 10).take (Tryz.prog.cellsOf 30)) = some P := L 1 _ rfl
 simp only [Ca, Px, List.drop, List.take] at u v
 obtain ⟨a8, n7, _, Z, a6, G, M⟩ := dI Tryz.underlying61 u
 obtain ⟨Q, R, rfl⟩ := D9 G
 have w : DataW.trod _ pg0 W _ _ _ n7 49 (([a, b, d, g, i, j, k, l, m, n].drop 0).take (Tryz.prog.cellsOf 49)) = some Q := M 0 _ rfl
 have y : DataW.trod _ pg0 W _ _ _ n7 59 (([a, b, d, g, i, j, k, l, m, n].drop 9).take (Tryz.prog.cellsOf 59)) = some R := M 1 _ rfl
 simp only [GU, Kw, List.drop, List.take] at w y
 obtain ⟨s8, e8, b8⟩ := OU _ _ _ _ _ _ _ _ _ w
 simp only [jr, ju, aW, dr] at e8
 obtain ⟨rfl, rfl, rfl, rfl, rfl, rfl, rfl, rfl, rfl⟩ := e8
 obtain ⟨v9, s9, e9, q9, b9⟩ := sw ME (by decide) O0 Tryz.underlying59 y
 simp only [aW, dr] at e9
 obtain rfl := e9
 obtain ⟨q9, g9⟩ := Lf.Sl.all q9
 have b7 := bN (fun z => Rows.uptoBulk z.1) Z
 obtain ⟨a1, I, T⟩ := IM _ _ _ _ _ _ _ _ _ v
 obtain ⟨v10, J, I⟩ := I.out
 simp only [aW, dr] at J
 obtain ⟨rfl, rfl, rfl, rfl, rfl⟩ := J
 have b6 := bN (fun z => Rows.uptoBulk z.1) Y
 refine ⟨⟨⟨s8, s9⟩, a1⟩, ⟨jW.mk ⟨_, _, rfl, q9, I⟩, g9⟩, ?_⟩
 simp only [List.map, Rows.uptoBulk, Rows.uptoBulkAll, tY] at b8 b9 b7 T b6 ⊢
 omega
theorem KA : Tryz.prog.cellsOf 23 = 1 := by kernel_rfl
theorem G0 : Tryz.prog.cellsOf 82 = 8 := by kernel_rfl
theorem Ti {α : Type} {l : List α} (h : l.length = 8) : ∃ a0 a a2 a3 a4 a5 b d, l = [a0, a, a2, a3, a4, a5, b, d] := by
 match l, h with
 | [a0, a, a2, a3, a4, a5, b, d], _ => exact ⟨a0, a, a2, a3, a4, a5, b, d, rfl⟩
theorem Pq : Tryz.prog.cellsOf 42 = 1 := by kernel_rfl
def wY (x : nf) : Nat := wL x.jl + yt x.jw + rB uC x.mo + 1
def Sk (x : nf) : Prop := True
theorem Mj : Er pg0 82 (KJ kQ Sk) wY := by
 intro H eh W base sp hd fuel cs x h
 obtain ⟨U, n11, _, I, G, r, q⟩ := dI Tryz.underlying82 h
 obtain ⟨t, u, v, rfl⟩ := OM r
 obtain ⟨a, b, d, g, i, j, k, l, rfl⟩ := Ti (G.trans G0)
 have m : DataW.trod _ pg0 W _ _ _ n11 27 (([a, b, d, g, i, j, k, l].drop 0).take (Tryz.prog.cellsOf 27)) = some t := q 0 _ rfl
 have n : DataW.trod _ pg0 W _ _ _ n11 30 (([a, b, d, g, i, j, k, l].drop 2).take (Tryz.prog.cellsOf 30)) = some u := q 1 _ rfl
 have p : DataW.trod _ pg0 W _ _ _ n11 42 (([a, b, d, g, i, j, k, l].drop 7).take (Tryz.prog.cellsOf 42)) = some v := q 2 _ rfl
 simp only [Et, Ca, Pq, List.drop, List.take] at m n p
 obtain ⟨Q, w, L⟩ := FY _ _ _ _ _ _ _ _ _ m
 simp only [ju, aW, dr] at w
 obtain ⟨rfl, rfl⟩ := w
 obtain ⟨R, s, M⟩ := IM _ _ _ _ _ _ _ _ _ n
 obtain ⟨Y, y, s⟩ := s.out
 simp only [aW, dr] at y
 obtain ⟨rfl, rfl, rfl, rfl, rfl⟩ := y
 obtain ⟨Z, T, E, P, O⟩ := sw GU (by decide) OU.rel Tryz.underlying42 p
 simp only [aW, dr] at E
 obtain rfl := E
 have J := bN (fun z => Rows.uptoBulk z.1) I
 refine ⟨⟨Q, R, T⟩, ⟨kQ.mk ⟨_, _, rfl, s, P⟩, trivial⟩, ?_⟩
 simp only [List.map, Rows.uptoBulk, Rows.uptoBulkAll, wY] at L M O J ⊢
 omega
theorem KI : Tryz.prog.cellsOf 31 = 2 := by kernel_rfl
def Eo (x : ky) : Nat := 0
theorem Sf : GN pg0 31 lu Eo := by
 intro H g W base sp j fuel cs x h
 obtain ⟨xs, n, _, rfl, p, hlen, k⟩ := DataW.trod_array Tryz.underlying31 h
 obtain ⟨r, s, rfl⟩ := D9 hlen
 obtain ⟨a, c1, rfl⟩ := D9 (p.trans KI)
 have i : DataW.trod g pg0 W base sp j n 3 (([a, c1].drop (0 * Tryz.prog.cellsOf 3)).take (Tryz.prog.cellsOf 3)) = some r := k 0 (by decide)
 have h1 : DataW.trod g pg0 W base sp j n 3 (([a, c1].drop (1 * Tryz.prog.cellsOf 3)).take (Tryz.prog.cellsOf 3)) = some s := k 1 (by decide)
 simp only [F4, List.drop, List.take, Nat.reduceMul] at i h1
 obtain ⟨q, b, l⟩ := CB _ _ _ _ _ _ _ _ _ i
 obtain ⟨s1, d, m⟩ := CB _ _ _ _ _ _ _ _ _ h1
 simp only [aW, dr] at b d
 obtain rfl := b
 obtain rfl := d
 refine ⟨⟨q, s1⟩, rfl, ?_⟩
 simp only [List.map, Rows.uptoBulk, Rows.uptoBulkAll, Eo] at l m ⊢
 omega
theorem P9 : Tryz.prog.cellsOf 32 = 1 := by kernel_rfl
theorem Ko : Tryz.prog.cellsOf 86 = 2 := by kernel_rfl
def Ba (x : Key) : Nat := x.km.size + rB (fun _ : Int => 0) x.Key + 1
def Sj (x : Key) : Prop := (∀ y ∈ x.Key, 0 ≤ y ∧ y < 256)
theorem QC : Er pg0 86 (KJ qw Sj) Ba := by
 intro H E W base sp G fuel cs x h
 obtain ⟨y, n15, _, r, q, i, j⟩ := dI Tryz.underlying86 h
 obtain ⟨l, m, rfl⟩ := D9 i
 obtain ⟨a, b, rfl⟩ := D9 (q.trans Ko)
 have d : DataW.trod _ pg0 W _ _ _ n15 9 (([a, b].drop 0).take (Tryz.prog.cellsOf 9)) = some l := j 0 _ rfl
 have g : DataW.trod _ pg0 W _ _ _ n15 59 (([a, b].drop 1).take (Tryz.prog.cellsOf 59)) = some m := j 1 _ rfl
 simp only [Kw, D1, List.drop, List.take] at d g
 obtain ⟨v, n, t⟩ := Fm _ _ _ _ _ _ _ _ _ d
 simp only [aW, dr] at n
 obtain rfl := n
 obtain ⟨v17, w, p, k, u⟩ := sw ME (by decide) O0 Tryz.underlying59 g
 simp only [aW, dr] at p
 obtain rfl := p
 obtain ⟨k, g17⟩ := Lf.Sl.all k
 have s := bN (fun z => Rows.uptoBulk z.1) r
 refine ⟨⟨v, w⟩, ⟨qw.mk ⟨_, rfl, k⟩, g17⟩, ?_⟩
 simp only [List.map, Rows.uptoBulk, Rows.uptoBulkAll, Ba] at t u s ⊢
 omega
def Gg (x : mM) : Nat := x.jq.Name.size + rB tY x.jq.jF + rB wY x.jq.jS + 1 + x.Client.Name.size + rB tY x.Client.jF + rB wY x.Client.jS + 1 + yt x.Formula + Eo x.nG + rB Ba x.Keys + 1
theorem SR : Tryz.prog.readableRec 34 = true ∧ 34 < Tryz.prog.types.size := ⟨by kernel_rfl, iH (by kernel_rfl)⟩
theorem CC (c : jm) : xb c = uC c := by unfold xb uC wL; omega
theorem Kl {α : Type} (sz : α → Nat) (h : ∀ a, 2 ≤ sz a) : ∀ l : List α, 2 * l.length ≤ rB sz l
 | [] => ep _
 | a :: l => by have := Kl sz h l; have := h a; simp only [rB, bD, eC, aI] at *; omega
theorem AA (y : kd) : tY y = uC y.Signed.jm + rB (fun _ : Int => 0) y.Signed.Tag + 1 + yt y.jw + 1 := rfl
theorem JL (y : nf) : wY y = wL y.jl + yt y.jw + rB uC y.mo + 1 := rfl
theorem Oy (y : Key) : Ba y = y.km.size + rB (fun _ : Int => 0) y.Key + 1 := rfl
theorem Kt : ∀ l : List jm, xm l ≤ 21 * rB uC l
 | [] => ep _
 | c :: l => by have := Kt l; rw [xm, CC]; simp only [rB, bD, eC] at *; omega
theorem Kp : ∀ l : List kd, Bu l ≤ 21 * rB tY l
 | [] => ep _
 | x :: l => by
  have := Kp l
  have := B3 (fun _ : Int => 0) x.Signed.Tag
  rw [Bu, CC]
  have e := AA x
  simp only [rB, bD, eC] at *; omega
theorem KX : ∀ l : List nf, Ao l ≤ 21 * rB wY l
 | [] => ep _
 | x :: l => by
  have := KX l
  have := Kt x.mo
  rw [Ao]
  have e := JL x
  unfold wL at e
  have a : rB wY (x :: l) = max 1 (wY x) + rB wY l := rfl
  omega
theorem KM : ∀ l : List Key, Cl l ≤ 11 * rB Ba l
 | [] => ep _
 | x :: l => by
  have := KM l
  have := B3 (fun _ : Int => 0) x.Key
  rw [Cl]
  have e := Oy x
  have a : rB Ba (x :: l) = max 1 (Ba x) + rB Ba l := rfl
  omega
theorem I9 (x : jX) (d : x.Name.size ≤ 1048576) (h1 : rB tY x.jF ≤ 1048576) (g : rB wY x.jS ≤ 1048576) : PG x ∧ x.jF.length ≤ 600000 ∧ HE x ≤ 1000000000 := by
 have c1 := Kl tY (fun y => by rw [AA]; omega) x.jF
 have c2 := B3 wY x.jS
 have g1 : ∀ y ∈ x.jF, uC y.Signed.jm ≤ 1048576 ∧ jV y.jw ≤ 1048576 := fun y a => by
  have := GI (sz := tY) a
  have e := AA y
  have := Bg y.jw
  omega
 have g2 : ∀ y ∈ x.jS, jV y.jw ≤ 1048576 ∧ rB uC y.mo ≤ 1048576 := fun y a => by
  have := GI (sz := wY) a
  have e := JL y
  have := Bg y.jw
  omega
 refine ⟨{ It := by omega, NU := by omega, rel := fun y a => ?_, N9 := fun y a => ?_, Tp := fun y a => ?_, To := fun y a => ?_, TD := fun y a c b => ?_ }, by omega, ?_⟩
 ·have := (g1 y a).2; omega
 ·have := (g2 y a).1; omega
 ·have := (g2 y a).2; have := B3 uC y.mo; omega
 ·have := (g1 y a).1; rw [CC]; omega
 ·have := (g2 y a).2; have := GI (sz := uC) b; rw [CC]; omega
 ·have := Kp x.jF; have := KX x.jS; unfold HE; omega
theorem Qc (p : mM) (h : Gg p ≤ 1048576) : PQ p := by
 unfold Gg at h
 have a := I9 p.jq (by omega) (by omega) (by omega)
 have b := I9 p.Client (by omega) (by omega) (by omega)
 have k := KM p.Keys
 have f := Bg p.Formula
 exact { o := a.1, c := b.1, lo := a.2.1, lc := b.2.1, f := by omega, go := a.2.2, gc := b.2.2, fs := by omega, ks := by omega }
theorem own : ownKnob Tryz.prog.godebug = none := by kernel_rfl
theorem Ot : laidOutB pg0 = true := by kernel_rfl
theorem Oi (H : Type) (enc : TypeId × Value → H) (W : World) (base : Nat) (args : Array Value) (ds gs : List (DataW H)) (before : List MemPlace) (ah : ∀ (j : Nat) t v, Tryz.f4.params[j]? = some t → args[j]? = some v → Value.okWide pg0 W .any base t v) (hW : DataW.Whole enc pg0 Tryz.f4.params.toList Rows.strandSumsSpec.vars false W args.toList ds gs before) (hk : Rows.uptoSmall H (ds ++ gs) = true) :
  Calls pg0 4 args W fun e W' => ∃ v, e = .returned v ∧ Rows.strandSumsSpec.post enc pg0 Tryz.f4 false true false false W args v W' := by
 have cz := hW
 obtain ⟨p, q, cy, hV, rfl, e2, e3⟩ := hW
 have hA : DataW.TrodAll enc pg0 W 0 (fun _ => true) true Tryz.f4.params.toList args.toList ds p := cy
 have hr : ∀ t ∈ Tryz.f4.params.toList, Tryz.prog.readableRec t = true ∧ t < Tryz.prog.types.size := by
  rw [Tryz.params4]
  intro t ht
  simp only [aK, cP, eV] at ht
  subst ht
  exact SR
 rw [Tryz.params4] at hA ah
 obtain ⟨v0, e4, d0, di, p0, q0, cS, rfl, rfl, h0, r0⟩ := trodAll_cons hA
 obtain ⟨rfl, rfl, rfl⟩ := trodAll_nil r0
 obtain rfl : args = #[v0] := by cases args; simp_all
 obtain ⟨rfl, rfl⟩ := trodVars_none hV
 have k0 := ah 0 34 v0 rfl rfl
 obtain ⟨bq, rfl, _⟩ := okWide_struct Tryz.underlying34 k0
 obtain ⟨dj, c9⟩ := h0
 obtain ⟨da, rfl⟩ : ∃ l : List Value, bq = l.toArray := ⟨bq.toList, by simp⟩
 change DataW.trod _ _ _ _ _ _ _ _ da = some _ at c9
 obtain ⟨df, n18, _, cb, ca, ae, J⟩ := dI Tryz.underlying34 c9
 obtain ⟨b4, b5, b6, b7, b9, ba, bb, bc, bd, rfl⟩ := Qn ae
 obtain ⟨k, a, b, m, d, g, y, E, G, I, h, n, r, s, u, w, x, i, rfl⟩ := Si (ca.trans PK)
 have L : DataW.trod _ pg0 W _ _ _ n18 25 (([k, a, b, m, d, g, y, E, G, I, h, n, r, s, u, w, x, i].drop 0).take (Tryz.prog.cellsOf 25)) = some b4 := J 0 _ rfl
 have M : DataW.trod _ pg0 W _ _ _ n18 25 (([k, a, b, m, d, g, y, E, G, I, h, n, r, s, u, w, x, i].drop 3).take (Tryz.prog.cellsOf 25)) = some b5 := J 1 _ rfl
 have O : DataW.trod _ pg0 W _ _ _ n18 30 (([k, a, b, m, d, g, y, E, G, I, h, n, r, s, u, w, x, i].drop 6).take (Tryz.prog.cellsOf 30)) = some b6 := J 2 _ rfl
 have P : DataW.trod _ pg0 W _ _ _ n18 3 (([k, a, b, m, d, g, y, E, G, I, h, n, r, s, u, w, x, i].drop 11).take (Tryz.prog.cellsOf 3)) = some b7 := J 3 _ rfl
 have Q : DataW.trod _ pg0 W _ _ _ n18 31 (([k, a, b, m, d, g, y, E, G, I, h, n, r, s, u, w, x, i].drop 12).take (Tryz.prog.cellsOf 31)) = some b9 := J 4 _ rfl
 have R : DataW.trod _ pg0 W _ _ _ n18 3 (([k, a, b, m, d, g, y, E, G, I, h, n, r, s, u, w, x, i].drop 14).take (Tryz.prog.cellsOf 3)) = some ba := J 5 _ rfl
 have T : DataW.trod _ pg0 W _ _ _ n18 3 (([k, a, b, m, d, g, y, E, G, I, h, n, r, s, u, w, x, i].drop 15).take (Tryz.prog.cellsOf 3)) = some bb := J 6 _ rfl
 have U : DataW.trod _ pg0 W _ _ _ n18 3 (([k, a, b, m, d, g, y, E, G, I, h, n, r, s, u, w, x, i].drop 16).take (Tryz.prog.cellsOf 3)) = some bc := J 7 _ rfl
 have Y : DataW.trod _ pg0 W _ _ _ n18 32 (([k, a, b, m, d, g, y, E, G, I, h, n, r, s, u, w, x, i].drop 17).take (Tryz.prog.cellsOf 32)) = some bd := J 8 _ rfl
 simp only [Qf, F4, Ca, KI, P9, List.drop, List.take] at L M O P Q R T U Y
 obtain ⟨dg, n19, _, cc, db, af, ab⟩ := dI Tryz.underlying25 L
 obtain ⟨bf, bh, bi, rfl⟩ := OM af
 have Z : DataW.trod _ pg0 W _ _ _ n19 9 (([k, a, b].drop 0).take (Tryz.prog.cellsOf 9)) = some bf := ab 0 _ rfl
 have a1 : DataW.trod _ pg0 W _ _ _ n19 22 (([k, a, b].drop 1).take (Tryz.prog.cellsOf 22)) = some bh := ab 1 _ rfl
 have a6 : DataW.trod _ pg0 W _ _ _ n19 23 (([k, a, b].drop 2).take (Tryz.prog.cellsOf 23)) = some bi := ab 2 _ rfl
 simp only [Ka, KA, D1, List.drop, List.take] at Z a1 a6
 obtain ⟨ap, bs, ch⟩ := Fm _ _ _ _ _ _ _ _ _ Z
 simp only [aW, dr] at bs
 obtain rfl := bs
 obtain ⟨v21, aq, bt, ai, cj⟩ := sw Ho (by decide) MG Tryz.underlying22 a1
 simp only [aW, dr] at bt
 obtain rfl := bt
 obtain ⟨ai, g21⟩ := Lf.Sl.all ai
 obtain ⟨v22, ar, bu, aj, ck⟩ := sw G0 (by decide) Mj Tryz.underlying23 a6
 simp only [aW, dr] at bu
 obtain rfl := bu
 obtain ⟨aj, g22⟩ := Lf.Sl.all aj
 have cg := bN (fun z => Rows.uptoBulk z.1) cc
 obtain ⟨dh, n23, _, cd, de, ag, ad⟩ := dI Tryz.underlying25 M
 obtain ⟨bj, bl, bp, rfl⟩ := OM ag
 have a7 : DataW.trod _ pg0 W _ _ _ n23 9 (([m, d, g].drop 0).take (Tryz.prog.cellsOf 9)) = some bj := ad 0 _ rfl
 have a8 : DataW.trod _ pg0 W _ _ _ n23 22 (([m, d, g].drop 1).take (Tryz.prog.cellsOf 22)) = some bl := ad 1 _ rfl
 have aa : DataW.trod _ pg0 W _ _ _ n23 23 (([m, d, g].drop 2).take (Tryz.prog.cellsOf 23)) = some bp := ad 2 _ rfl
 simp only [Ka, KA, D1, List.drop, List.take] at a7 a8 aa
 obtain ⟨au, bw, cn⟩ := Fm _ _ _ _ _ _ _ _ _ a7
 simp only [aW, dr] at bw
 obtain rfl := bw
 obtain ⟨v25, av, bx, ak, cp⟩ := sw Ho (by decide) MG Tryz.underlying22 a8
 simp only [aW, dr] at bx
 obtain rfl := bx
 obtain ⟨ak, dk⟩ := Lf.Sl.all ak
 obtain ⟨v26, aw, bz, al, cq⟩ := sw G0 (by decide) Mj Tryz.underlying23 aa
 simp only [aW, dr] at bz
 obtain rfl := bz
 obtain ⟨al, e0⟩ := Lf.Sl.all al
 have cm := bN (fun z => Rows.uptoBulk z.1) cd
 obtain ⟨ay, an, cr⟩ := IM _ _ _ _ _ _ _ _ _ O
 obtain ⟨v27, c0, an⟩ := an.out
 simp only [aW, dr] at c0
 obtain ⟨rfl, rfl, rfl, rfl, rfl⟩ := c0
 obtain ⟨az, c3, cs⟩ := CB _ _ _ _ _ _ _ _ _ P
 simp only [aW, dr] at c3
 obtain rfl := c3
 obtain ⟨aE, c4, ct⟩ := Sf _ _ _ _ _ _ _ _ _ Q
 simp only [lu, aW, dr] at c4
 obtain ⟨rfl, rfl⟩ := c4
 obtain ⟨b0, c5, cu⟩ := CB _ _ _ _ _ _ _ _ _ R
 simp only [aW, dr] at c5
 obtain rfl := c5
 obtain ⟨b1, c6, cv⟩ := CB _ _ _ _ _ _ _ _ _ T
 simp only [aW, dr] at c6
 obtain rfl := c6
 obtain ⟨b2, c7, cw⟩ := CB _ _ _ _ _ _ _ _ _ U
 simp only [aW, dr] at c7
 obtain rfl := c7
 obtain ⟨v33, b3, c8, ao, cx⟩ := sw Ko (by decide) QC Tryz.underlying32 Y
 simp only [aW, dr] at c8
 obtain rfl := c8
 obtain ⟨ao, e1⟩ := Lf.Sl.all ao
 have cf := bN (fun z => Rows.uptoBulk z.1) cb
 simp only [List.map, Rows.uptoBulk, Rows.uptoBulkAll] at ch cj ck cg cn cp cq cm cr cs ct cu cv cw cx cf
 have z0 : Gg (⟨⟨ap, aq, ar⟩, ⟨au, av, aw⟩, ay, az, aE, b0, b1, b2, b3⟩ : mM) ≤ Rows.uptoBulk d0 := by simp only [Gg]; omega
 have hB : Rows.uptoBulkAll ([d0] ++ []) ≤ 1048576 := iH hk
 simp only [bI, Rows.uptoBulkAll] at hB
 have hm : tK (⟨⟨ap, aq, ar⟩, ⟨au, av, aw⟩, ay, az, aE, b0, b1, b2, b3⟩ : mM) = some true := FH PF _ (Qc _ (by omega))
 have hg := Ei (⟨⟨ap, aq, ar⟩, ⟨au, av, aw⟩, ay, az, aE, b0, b1, b2, b3⟩ : mM) a b d g h i true W ai aj ak al an ao hm
 refine cT hg fun e W' ⟨he, hx⟩ => ?_
 subst he
 exact ⟨_, rfl, Ld Ot hr rfl cz hx (fun _ _ _ => trodAll_cons_mk (shut_bool Tryz.underlying4 _) trodAll_mk0) rfl rfl (ok_one (by kernel_rfl) rfl (okWide_bool_mk Tryz.underlying4 _))⟩
set_option maxRecDepth 100000 in
theorem Q3 (os : Os) (started : os.Started) (H : Type) (enc : TypeId × Value → H) (F : Stop.Interp) :
  ReturnsInHanded {} Tryz.checked os 4 .any ((Rows.OpenSpec.upto Rows.strandSumsSpec).pre6 enc pg0 Tryz.f4 Rows.strandSumsUptoRow.domain false) (((Rows.OpenSpec.upto Rows.strandSumsSpec).at F).post enc pg0 Tryz.f4 false true false false) := by
 refine returnsInHanded_of_cond (C := Tryz.checked) (s := Rows.OpenSpec.upto Rows.strandSumsSpec) (k := Rows.uptoSmall) rfl own started (by kernel_rfl) Tryz.func4
  (OpenSpec.witness (enc := enc) (C := Tryz.checked) (s := Rows.OpenSpec.upto Rows.strandSumsSpec) (k := Rows.uptoSmall) rfl false ⟨#[], #[.agg #[.string ⟨#[]⟩, .slice none 0 0, .slice none 0 0, .string ⟨#[]⟩, .slice none 0 0, .slice none 0 0, .int .i64 0, .int .i64 0, .string ⟨#[]⟩, .string ⟨#[]⟩, .slice none 0 0, .int .i64 0, .int .i64 0, .int .i64 0, .int .i64 0, .int .i64 0, .int .i64 0, .slice none 0 0]], []⟩ 8 (by kernel_rfl) (by kernel_rfl) (by kernel_rfl)
   (x := ([.agg [.agg [.lit (.string []), .nil, .nil], .agg [.lit (.string []), .nil, .nil], .agg [.lit (.int .i64 0), .lit (.int .i64 0), .agg [.lit (.string []), .lit (.string [])], .nil], .lit (.int .i64 0), .agg [.lit (.int .i64 0), .lit (.int .i64 0)], .lit (.int .i64 0), .lit (.int .i64 0), .lit (.int .i64 0), .nil]], [], [])) (by kernel_rfl) rfl (by kernel_rfl)) ?_
 intro W base args ds gs before a b _ hk _
 exact Oi H enc W base args ds gs before a b hk
theorem Sa {a b : Bool} (ha : a = true) (d : b = true) : (a && b) = true := by rw [ha, d]; rfl
set_option maxHeartbeats 40000000 in
theorem Pj : joinedFacts Tryz.checked.prog 4 Tryz.f4 (Rows.OpenSpec.upto Rows.strandSumsSpec).bare Rows.strandSumsUptoRow = true := by
 unfold joinedFacts
 repeat' with_reducible refine Sa ?_ ?_
 all_goals as_aux_lemma => kernel_rfl
theorem proved : Rows.StrandSumsUptoSaid :=
 OpenClaim.holds_of_cond 4 Tryz.f4 rfl rfl rfl rfl rfl rfl rfl ⟨rfl, rfl, rfl, rfl, rfl⟩ rfl rfl rfl rfl rfl (by kernel_rfl) Tryz.func4 Pj
  (iH (by kernel_rfl)) (by unfold Func.isWrapper; first | (rw [aZ (by decide +kernel)]; kernel_rfl) | (rw [aY (by decide +kernel)]; exact ⟨rfl, rfl⟩))
  (fun os started H enc _ F => Q3 os started H enc F)
end Go.Proofs.YtjjjihkifgdhgaaGreat
