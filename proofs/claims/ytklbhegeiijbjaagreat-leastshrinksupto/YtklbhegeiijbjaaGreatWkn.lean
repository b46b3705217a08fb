/- a part of a proof of LeastShrinks -/
import Derived.Test.YtklbhegeiijbjaaGreatHkn
import Derived.Test.YtklbhegeiijbjaaGreatRtUn
import Derived.Test.YtklbhegeiijbjaaGreatRows
import Derived.WalkKit
import Derived.ProofKit
import Derived.OpenShut
import Derived.JoinedCond
import Derived.Deep.Slices
import Derived.Carry
import Derived.ChangeArms
import Derived.ChangeSame
import Derived.Test.YtklbhegeiijbjaaGreatN4W3n
set_option linter.all false
namespace Go.Proofs.YtklbhegeiijbjaaGreat
open Go.RowKit
theorem Sm : ∀ (n : Nat) (f : Formula), oV f ≤ n → Gd f → sk n f = some (lY f : Int) := by
 intro n
 induction n with
 | zero => intro f h; rw [nQ] at h; omega
 | succ n ih =>
  intro f d g
  rw [nQ] at d
  have a := pd f
  unfold Gd at g
  rw [sk]
  unfold xE
  have key : ∀ (ks : List Formula) (x : Nat), (∀ k ∈ ks, k ∈ f.Kids) → x + nodesL ks ≤ 50000000 → sT (sk n) ks (x : Int) = some ((x + nodesL ks : Nat) : Int) := by
   intro ks
   induction ks with
   | nil => intro x _ _; rw [sT, nodesL]; rfl
   | cons k ks b =>
    intro x hk i
    rw [nodesL] at i
    rw [sT, ih k (by have := rR (hk k (by simp)); omega) (by have := uw (hk k (by simp)); unfold Gd; omega), aA]
    have w : IntKind.i64.wrap ((x : Int) + (lY k : Int)) = ((x + lY k : Nat) : Int) := by rw [me (by omega) (by omega)]; omega
    rw [w, b _ (fun z j => hk z (by simp [j])) (by omega), nodesL]
    congr 2; omega
  have := key f.Kids 1 (fun k hk => hk) (by omega)
  rw [a]
  exact this
theorem Tq : ∀ (n : Nat) (f : Formula), oV f ≤ n → Gd f → tu n f = some (oV f : Int) := by
 intro n
 induction n with
 | zero => intro f h; rw [nQ] at h; omega
 | succ n ih =>
  intro f d g
  rw [nQ] at d ⊢
  have i := pd f
  have hle := wZ f
  rw [nQ] at hle
  unfold Gd at g
  rw [tu]
  unfold yr
  have key : ∀ (ks : List Formula) (x : Nat), (∀ k ∈ ks, k ∈ f.Kids) → max x (deepL ks) ≤ 50000000 → tH (tu n) ks (x : Int) = some ((max x (deepL ks) + 1 : Nat) : Int) := by
   intro ks
   induction ks with
   | nil =>
    intro x _ a
    rw [deepL] at a
    rw [tH, deepL, me (by omega) (by omega)]
    congr 1; omega
   | cons k ks b =>
    intro x hk a
    rw [deepL] at a
    rw [tH, ih k (by have := rR (hk k (by simp)); omega) (by have := uw (hk k (by simp)); unfold Gd; omega), aA]
    have w : (if (oV k : Int) > (x : Int) then (oV k : Int) else (x : Int)) = ((max x (oV k) : Nat) : Int) := by split <;> omega
    rw [w, b _ (fun z j => hk z (by simp [j])) (by omega), deepL]
    congr 2; omega
  have := key f.Kids 0 (fun k hk => hk) (by omega)
  rw [Nat.zero_max] at this
  exact this
theorem SF : ∀ (n : Nat) (f : Formula), oV f ≤ n → tG n f = some (uq f) := by
 intro n
 induction n with
 | zero => intro f h; rw [nQ] at h; omega
 | succ n ih =>
  intro f h
  rw [nQ] at h
  have key : ∀ ks : List Formula, (∀ k ∈ ks, k ∈ f.Kids) → tP (tG n) ks = some (wellL ks) := by
   intro ks
   induction ks with
   | nil => intro _; rw [tP, wellL]
   | cons k ks p =>
    intro hk
    rw [tP, ih k (by have := rR (hk k (by simp)); omega), aA, p (fun z r => hk z (by simp [r])), wellL]
    cases uq k <;> rfl
  have hk := key f.Kids (fun k hk => hk)
  rw [tG]
  unfold yn
  rw [hk, Gz, BT]
  unfold DZ
  simp only [aA]
  by_cases c1 : f.Op = 1
  ·simp only [c1, bD, aM]
   cases s : nv f.kC
   ·simp
   ·by_cases b : f.Kids.length = 0
    ·have e : f.Kids = [] := aU b
     by_cases m : f.K = 0 <;> simp [e, m, wellL]
    ·have : ((f.Kids.length : Int) == 0) = false := by rw [beq_eq_false_iff_ne]; omega
     simp [this, b]
  ·have q : (f.Op == 1) = false := by simpa using c1
   simp only [q, aB, aG, c1]
   by_cases i : f.Op = 2 ∨ f.Op = 3
   ·have j : ¬ f.Op < 1 := by omega
    have a2 : ¬ f.Op > 4 := by omega
    have a3 : f.Op < 4 := by omega
    have a4 : (f.Op == 4) = false := by rw [beq_eq_false_iff_ne]; omega
    simp only [j, a2, a3, a4, i, cC, bZ, aB, aG, aM, aA]
    cases g : lu f.kC ⟨zS, zS⟩
    ·simp [qP, g]
    ·by_cases b : f.Kids.length ≤ 8
     ·have d : ¬ ((f.Kids.length : Int) > 8) := by omega
      by_cases m : f.K = 0 <;> simp [qP, g, b, d, m]
     ·have d : ((f.Kids.length : Int) > 8) := by omega
      simp [qP, g, b, d]
   ·by_cases l : f.Op = 4
    ·have j : ¬ f.Op < 1 := by omega
     have a2 : ¬ f.Op > 4 := by omega
     have a3 : ¬ f.Op < 4 := by omega
     simp only [j, a2, a3, i, cC, aB, aG, aA]
     simp only [l, bD, aM, bZ, eO]
     cases g : lu f.kC ⟨zS, zS⟩
     ·simp [qP, g]
     ·by_cases b : f.Kids.length ≤ 8
      ·have d : ¬ ((f.Kids.length : Int) > 8) := by omega
       by_cases d1 : 1 ≤ f.Kids.length
       ·have g1 : ¬ ((f.Kids.length : Int) < 1) := by omega
        by_cases d2 : 0 ≤ f.K
        ·have g2 : ¬ f.K < 0 := by omega
         by_cases d3 : f.K ≤ (f.Kids.length : Int)
         ·have g3 : ¬ f.K > (f.Kids.length : Int) := by omega
          simp [qP, g, b, d, d1, g1, d2, g2, d3, g3]
         ·have g3 : f.K > (f.Kids.length : Int) := by omega
          simp [qP, g, b, d, d1, g1, d2, g2, d3, g3]
        ·have g2 : f.K < 0 := by omega
         simp [qP, g, b, d, d1, g1, d2, g2]
       ·have g1 : ((f.Kids.length : Int) < 1) := by omega
        simp [qP, g, b, d, d1, g1]
      ·have d : ((f.Kids.length : Int) > 8) := by omega
       simp [qP, g, b, d]
    ·have a : f.Op < 1 ∨ f.Op > 4 := by omega
     rcases a with a | a
     ·simp [a, i, l]
     ·have : ¬ f.Op < 1 := by omega
      simp [a, this, i, l]
theorem HI (f : Formula) (h : Gd f) : rl f = some (oM f) := by
 have b := wZ f
 have a := h
 unfold Gd at a
 unfold rl oM
 rw [Sm lB f (by rw [nh]; omega) h, Tq lB f (by rw [nh]; omega) h, SF lB f (by rw [nh]; omega)]
 simp only [aA]
 by_cases c1 : lY f ≤ 64
 ·have d1 : ((lY f : Int) ≤ 64) := by omega
  by_cases c2 : oV f ≤ 6
  ·have d2 : ((oV f : Int) ≤ 6) := by omega
   simp [c1, c2, d1, d2]
  ·have d2 : ¬ ((oV f : Int) ≤ 6) := by omega
   simp [c1, c2, d1, d2]
 ·have d1 : ¬ ((lY f : Int) ≤ 64) := by omega
  simp [c1, d1]
end Go.Proofs.YtklbhegeiijbjaaGreat
namespace Go.Proofs.YtklbhegeiijbjaaGreat
open Go.RowKit
theorem N2 {f : Formula} (hw : uq f = true) (a : lY f ≤ 200) : (zK f).length ≤ 40 * lY f := (NC (oV f) f (aZ _) hw [] (by simp; omega)).2
theorem RG : ∀ (n : Nat) (f : Formula), oV f ≤ n → uq f = true → lY f ≤ 64 → qo n f = some (xe (zK f)) := by
 intro n
 induction n with
 | zero => intro f h; rw [nQ] at h; omega
 | succ n ih =>
  intro f s hw x
  rw [nQ] at s
  have u := pd f
  obtain ⟨h1, m, g⟩ := yv hw
  have b : 0 ≤ f.Op ∧ f.Op < 128 := by rcases g with h | h | h <;> omega
  have hlen : 0 ≤ (f.Kids.length : Int) ∧ (f.Kids.length : Int) < 128 := by omega
  have key : ∀ (ks : List Formula) (l : List Int), (∀ k ∈ ks, k ∈ f.Kids) → wellL ks = true → l.length + 40 * nodesL ks ≤ 8000 → nodesL ks ≤ 64 → ta (qo n) ks (xe l) = some (xe (l ++ bytesFL ks)) := by
   intro ks
   induction ks with
   | nil => intro l _ _ _ _; rw [ta, bytesFL, bJ]
   | cons k ks j =>
    intro l hk a t i
    rw [wellL, bH] at a
    rw [nodesL] at t i
    have w := N2 a.1 (by omega)
    rw [ta, ih k (by have := rR (hk k (by simp)); omega) a.1 (by omega), aA, sM _ _ (by omega), aA,
     j _ (fun z v => hk z (by simp [v])) a.2 (by simp; omega) (by omega), bytesFL, aN]
  rw [qo]
  unfold xA
  rw [zl b.1 b.2, aA, Ix]
  by_cases c1 : f.Op = 1
  ·have p : nv f.kC = true := by rcases g with h | h | h; exact h.2.1; omega; omega
   have := pE p
   simp only [c1, bD, aM]
   rw [BC p, aA, sM _ _ (by simp; omega)]
   rfl
  ·have q : (f.Op == 1) = false := by simpa using c1
   simp only [q, aB, aG, c1]
   by_cases d : f.Op = 4
   ·have hk : 0 ≤ f.K ∧ f.K < 128 := by rcases g with h | h | h <;> omega
    simp only [d, bD, aM]
    rw [zl hk.1 hk.2, aA, sM _ _ (by simp), aA, aA, zl hlen.1 hlen.2, aA, sM _ _ (by simp), aA,
     key f.Kids _ (fun k hk => hk) m (by simp; omega) (by omega)]
    simp
   ·have r : (f.Op == 4) = false := by simpa using d
    simp only [r, aB, aG, d, aA]
    rw [zl hlen.1 hlen.2, aA, sM _ _ (by simp), aA, key f.Kids _ (fun k hk => hk) m (by simp; omega) (by omega)]
    simp
theorem Tu (f : Formula) (h : Gd f) : ((rl f).bind fun r => if r then (qo lB f).bind fun a => some a else some zS) = some (xe (zk f)) := by
 rw [HI f h, aA]
 unfold zk
 cases d : oM f
 ·rfl
 ·obtain ⟨h1, g, b⟩ := An d
  simp only [aM]
  rw [RG lB f (by rw [nh]; omega) b h1, pV]
theorem Jx (f g : Formula) (i : Gd f) (j : Gd g) : ∃ c : Int, xf f g = some c ∧ (c > 0 ↔ oE B6 g f = true) := by
 unfold xf
 rw [Tu f i, aA, Tu g j, aA, zg, vE, vE, BB]
 rcases BM (uZ (zk f)) (uZ (zk g)) with h | h | h
 ·rw [aY h]
  refine ⟨-1, rfl, iff_of_false (by omega) (fun a => ?_)⟩
  have := yX _ _ _ h a
  rw [wg] at this; cases this
 ·have e : mu (xe (zk f)) (xe (zk g)) = true := nm.2 (AL (by rw [vE, vE, h]))
  rw [h, wg, e]
  exact ⟨0, rfl, iff_of_false (by omega) (by simp)⟩
 ·have e : Op.bytesLess (uZ (zk f)) (uZ (zk g)) = false := by
   rw [← fT]
   intro a
   have := yX _ _ _ h a
   rw [wg] at this; cases this
  have d : mu (xe (zk f)) (xe (zk g)) = false := by
   rw [← fT, nm]
   intro a
   have b := bM (fun s : ByteArray => s.data.toList) a
   simp only [vE] at b
   rw [b, wg] at h; cases h
  rw [e, d]
  exact ⟨1, rfl, iff_of_true (by omega) h⟩
theorem SO : ∀ (n : Nat) (f : Formula), oV f ≤ n → ∀ g, ∃ b, qj n f g = some b ∧ (b = true ↔ f = g) := by
 intro n
 induction n with
 | zero => intro f h; rw [nQ] at h; omega
 | succ n ih =>
  intro f h g
  rw [nQ] at h
  have key : ∀ (l m A : List Formula), (∀ x ∈ l, x ∈ f.Kids) → g.Kids = A ++ m → l.length = m.length → ∃ b, tN g (qj n) l A.length = some b ∧ (b = true ↔ l = m) := by
   intro l
   induction l with
   | nil =>
    intro m A _ _ a
    obtain rfl := aU a.symm
    exact ⟨true, by rw [tN], by simp⟩
   | cons x l r =>
    intro m A q t a
    match m, a with
    | y :: m, a =>
     obtain ⟨b, e, p⟩ := ih x (by have := rR (q x (by simp)); omega) y
     rw [tN, t, nR A y m _ rfl, aA, e, aA]
     cases b with
     | false =>
      refine ⟨false, rfl, ?_⟩
      have : x ≠ y := fun i => by have := p.2 i; simp at this
      simp [this]
     | true =>
      have i := p.1 rfl
      obtain ⟨b, s, d⟩ := r m (A ++ [y]) (fun z u => q z (by simp [u])) (by rw [t]; simp) (by simpa using a)
      rw [aF, List.length_singleton] at s
      simp only [cA, aB, aG]
      rw [s]
      exact ⟨b, rfl, by rw [d]; simp [i]⟩
  rw [qj]
  unfold yo
  by_cases h1 : f.Op = g.Op
  ·by_cases d : f.K = g.K
   ·by_cases j : f.kC = g.kC
    ·have k : lu f.kC g.kC = true := lx.2 j
     by_cases a : f.Kids.length = g.Kids.length
     ·obtain ⟨b, e, p⟩ := key f.Kids g.Kids [] (fun x q => q) rfl a
      rw [bU] at e
      refine ⟨b, ?_, p.trans ⟨fun hk => Formula.ext' h1 d j hk, fun hk => by rw [hk]⟩⟩
      simp [h1, d, k, a, e]
     ·refine ⟨false, ?_, by simp; intro hk; rw [hk] at a; exact a rfl⟩
      have : ((f.Kids.length : Int) != (g.Kids.length : Int)) = true := by simp; omega
      simp [h1, d, k, this]
    ·have k : lu f.kC g.kC = false := by rw [← fT, lx]; exact j
     exact ⟨false, by simp [h1, d, k], by simp; intro hk; rw [hk] at j; exact j rfl⟩
   ·exact ⟨false, by simp [h1, d], by simp; intro hk; rw [hk] at d; exact d rfl⟩
  ·exact ⟨false, by simp [h1], by simp; intro hk; rw [hk] at h1; exact h1 rfl⟩
theorem Gh (a b : Formula) (h : Gd a) : qj lB a b = some (rk a b) := by
 have := wZ a
 unfold Gd at h
 obtain ⟨x, e, d⟩ := SO lB a (by rw [nh]; omega) b
 rw [e]; congr 1
 rw [bT, d, Af]
end Go.Proofs.YtklbhegeiijbjaaGreat
namespace Go.Proofs.YtklbhegeiijbjaaGreat
open Go.RowKit
section
variable {α : Type} {lt : α → α → Bool}
def L7 (lt : α → α → Bool) (l : List α) : Prop := l.Pairwise fun x y => lt y x = false
theorem EH (h : SWO lt) (k : α) : ∀ {l : List α}, L7 lt l → ∃ A B, l = A ++ B ∧ (∀ x ∈ A, lt k x = false) ∧ (∀ x ∈ B, lt k x = true)
 | [], _ => ⟨[], [], rfl, by simp, by simp⟩
 | x :: l, i => by
  obtain ⟨h1, b⟩ := cN.1 i
  cases e : lt k x with
  | true =>
   refine ⟨[], x :: l, rfl, by simp, fun y a => ?_⟩
   rcases aQ.1 a with rfl | a
   ·exact e
   ·rcases h.Nx _ y _ e with q | q
    ·exact q
    ·rw [h1 y a] at q; cases q
  | false =>
   obtain ⟨A, B, rfl, d, g⟩ := EH h k b
   exact ⟨x :: A, B, rfl, fun y a => by
    rcases aQ.1 a with rfl | a
    ·exact e
    ·exact d y a, g⟩
theorem HA {k : α} {A B : List α} (b : ∀ x ∈ A, lt k x = false) (d : ∀ x ∈ B, lt k x = true) : B3 lt (A ++ B) k = A ++ k :: B := by
 unfold B3
 rw [jL, jL]
 rw [iL.2 (fun x a => by rw [b x a]; rfl), List.filter_eq_nil_iff.2 (fun x a => by rw [d x a]; simp), List.filter_eq_nil_iff.2 (fun x a => by rw [b x a]; simp), iL.2 (fun x a => d x a)]
 simp
theorem LQ (h : SWO lt) {k : α} {A B : List α} (g : L7 lt (A ++ B)) (i : ∀ x ∈ A, lt k x = false) (j : ∀ x ∈ B, lt k x = true) : L7 lt (A ++ k :: B) := by
 unfold L7 at *
 rw [cZ] at *
 refine ⟨g.1, cN.2 ⟨fun x l => h.asym (j x l), g.2.1⟩, fun a ha b d => ?_⟩
 rcases aQ.1 d with rfl | d
 ·exact i a ha
 ·exact g.2.2 a ha b d
variable {eq : α → α → Bool}
theorem IH (he : ∀ x y, eq x y = true ↔ x = y) (k : α) : ∀ (l : List α) (p : α), oa eq p (l ++ [k]) = if eq k ((l.getLast?).getD p) then oa eq p l else oa eq p l ++ [k]
 | [], p => by
  rw [bI, oa, oa]
  rfl
 | y :: l, p => by
  have e : ((y :: l).getLast?).getD p = (l.getLast?).getD y := by cases l <;> rfl
  rw [bX, oa, oa, IH he k l y, e]
  by_cases h1 : eq y p = true
  ·rw [aY h1, aY h1]
  ·rw [bA h1, bA h1]
   split <;> rfl
def Av (eq : α → α → Bool) (l : List α) (k : α) : Bool := match l.getLast? with | some y => eq y k | none => false
theorem N9 (x : α) (l : List α) : (x :: l).getLast? = some ((l.getLast?).getD x) := by cases l <;> rfl
theorem Qp (he : ∀ x y, eq x y = true ↔ x = y) (k : α) (l : List α) : dd eq (l ++ [k]) = if Av eq l k then dd eq l else dd eq l ++ [k] := by
 cases l with
 | nil => rfl
 | cons x l =>
  have a : dd eq ((x :: l) ++ [k]) = x :: oa eq x (l ++ [k]) := rfl
  have b : dd eq (x :: l) = x :: oa eq x l := rfl
  unfold Av
  rw [a, b, IH he, N9]
  simp only
  by_cases h : (l.getLast?).getD x = k
  ·rw [h, aY ((he k k).2 rfl), aY ((he k k).2 rfl)]
  ·rw [bA (fun q => h ((he _ _).1 q).symm), bA (fun q => h ((he _ _).1 q))]; rfl
theorem Ko (he : ∀ x y, eq x y = true ↔ x = y) (y : α) (B : List α) : ∀ (l : List α) (p : α), y ≠ (l.getLast?).getD p → oa eq p (l ++ y :: B) = oa eq p l ++ y :: oa eq y B
 | [], p, h => by
  have h : y ≠ p := h
  rw [bI]
  have e : oa eq p (y :: B) = if eq y p then oa eq y B else y :: oa eq y B := rfl
  rw [e, bA (fun q => h ((he _ _).1 q))]; rfl
 | z :: l, p, h => by
  have e : ((z :: l).getLast?).getD p = (l.getLast?).getD z := by cases l <;> rfl
  rw [e] at h
  rw [bX, oa, oa, Ko he y B l z h]
  split <;> rfl
theorem Od (he : ∀ x y, eq x y = true ↔ x = y) (A : List α) : ∀ B : List α, (∀ y, B.head? = some y → A.getLast? ≠ some y) → dd eq (A ++ B) = dd eq A ++ dd eq B
 | [], _ => by rw [bJ]; show _ = dd eq A ++ []; rw [bJ]
 | y :: B, h => by
  have h := h y rfl
  cases A with
  | nil => rfl
  | cons x A =>
   have e : (x :: A).getLast? = some ((A.getLast?).getD x) := by cases A <;> rfl
   rw [e] at h
   rw [bX, dd, dd, dd, Ko he y B A x (fun q => h (by rw [q]))]; rfl
theorem IQ (he : ∀ x y, eq x y = true ↔ x = y) : ∀ (l : List α) (p : α), ((oa eq p l).getLast?).getD p = (l.getLast?).getD p
 | [], p => by rw [oa]
 | y :: l, p => by
  have e : ((y :: l).getLast?).getD p = (l.getLast?).getD y := by cases l <;> rfl
  rw [oa, e, ← IQ he l y]
  by_cases h : eq y p = true
  ·rw [aY h, (he _ _).1 h]
  ·rw [bA h]
   cases oa eq y l <;> rfl
theorem QY (he : ∀ x y, eq x y = true ↔ x = y) (l : List α) : (dd eq l).getLast? = l.getLast? := by
 cases l with
 | nil => rfl
 | cons x l =>
  have e : ∀ m : List α, (x :: m).getLast? = some ((m.getLast?).getD x) := by intro m; cases m <;> rfl
  rw [dd, e, e, IQ he]
theorem RW (h : SWO lt) (he : ∀ x y, eq x y = true ↔ x = y) {k : α} {A B : List α} (g : ∀ x ∈ A, lt k x = false) (d : ∀ x ∈ B, lt k x = true) :
  dd eq (A ++ B) = dd eq A ++ dd eq B ∧ dd eq (A ++ k :: B) = (if Av eq A k then dd eq A else dd eq A ++ [k]) ++ dd eq B := by
 have h1 : ∀ y, B.head? = some y → A.getLast? ≠ some y := fun y b a => by
  have := d y (List.mem_of_mem_head? b)
  rw [g y (List.mem_of_getLast? a)] at this; cases this
 refine ⟨Od he A B h1, ?_⟩
 have e : A ++ k :: B = (A ++ [k]) ++ B := by simp
 rw [e, Od he (A ++ [k]) B, Qp he]
 intro y b a
 rw [List.getLast?_append] at a
 simp only [List.getLast?_singleton, Option.some_or, gZ] at a
 have := d y (List.mem_of_mem_head? b)
 rw [a, h.PS] at this; cases this
end
end Go.Proofs.YtklbhegeiijbjaaGreat
namespace Go.Proofs.YtklbhegeiijbjaaGreat
open Go.RowKit
theorem GY (l : List Formula) (k : Formula) (g : ∀ x ∈ l, Gd x) (hk : Gd k) (A : List Formula) (j : ∀ x ∈ A, oE B6 k x = false) : ∀ (m : Nat) (B C : List Formula), B.length = m → l = A ++ B ++ C → (∀ x ∈ B, oE B6 k x = true) → l.length ≤ 1000000 → ∀ n, m < n →
  qJ l k n ((A.length + B.length : Nat) : Int) = some (A.length : Int)
 | 0, B, C, hm, a, d, hlen, n + 1, r => by
  obtain rfl := aU hm
  rw [qJ]
  simp only [bU, je]
  rcases dG A with rfl | ⟨A', y, rfl⟩
  ·rfl
  ·rw [eF] at *
   have hp : ((A' ++ [y]).length : Int) > 0 := by simp
   simp only [hp, bZ, aM]
   have hw : IntKind.i64.wrap (((A' ++ [y]).length : Int) - 1) = (A'.length : Int) := by
    simp at hlen a ⊢
    rw [a] at hlen
    simp at hlen
    rw [me (by omega) (by omega)]
   rw [hw, show mQ l (A'.length : Int) = some y from by rw [a]; simp only [bJ, aN]; exact nR A' y C _ rfl, aA]
   have i : y ∈ l := by rw [a]; simp
   obtain ⟨c, e, h⟩ := Jx y k (g y i) hk
   have b : ¬ c > 0 := fun q => by have := h.1 q; rw [j y (by simp)] at this; cases this
   rw [e, aA]
   simp [b]
 | m + 1, B, C, hm, a, d, hlen, n + 1, r => by
  rcases dG B with rfl | ⟨B', y, rfl⟩
  ·simp at hm
  ·rw [eF] at *
   rw [qJ]
   have hp : ((A.length + (B' ++ [y]).length : Nat) : Int) > 0 := by simp; omega
   simp only [hp, bZ, aM]
   have hw : IntKind.i64.wrap (((A.length + (B' ++ [y]).length : Nat) : Int) - 1) = ((A.length + B'.length : Nat) : Int) := by
    rw [a] at hlen
    simp at hlen
    rw [me (by simp; omega) (by simp; omega)]; simp; omega
   have p : mQ l ((A.length + B'.length : Nat) : Int) = some y := by
    rw [a]
    have e : A ++ (B' ++ [y]) ++ C = (A ++ B') ++ y :: C := by simp
    rw [e]
    exact nR (A ++ B') y C _ (by simp)
   rw [hw, p, aA]
   have i : y ∈ l := by rw [a]; simp
   obtain ⟨c, e, h⟩ := Jx y k (g y i) hk
   have b : c > 0 := h.2 (d y (by simp))
   rw [e, aA]
   simp only [b, bZ, aA, aM]
   exact GY l k g hk A j m B' (y :: C) (by simp at hm; omega) (by rw [a]; simp) (fun x s => d x (by simp [s])) hlen n (by omega)
theorem TV {b : Bool} (h : b = true) : rb b = some () := by rw [h]; rfl
theorem FU (a : Bool) (k : Formula) (ks A B : List Formula) (j : ∀ x ∈ A ++ B, Gd x) (hk : Gd k) (l : ∀ x ∈ A, oE B6 k x = false) (m : ∀ x ∈ B, oE B6 k x = true) (hlen : (A ++ B).length ≤ 1000000) :
  nK a (k :: ks) (A ++ B) = if a && Av rk A k then nK a ks (A ++ B) else nK a ks (A ++ k :: B) := by
 have i := GY (A ++ B) k j hk A l B.length B [] rfl (by simp) m hlen lB (by rw [nh]; simp at hlen; omega)
 have b : A.length + B.length ≤ 1000000 := by simpa using hlen
 rw [nK, aF, i, aA]
 have rest : ((rb (decide ((0 : Int) ≤ (A.length : Int)) && decide ((A.length : Int) ≤ ((A ++ B).length : Int)))).bind fun _ => (nJ 72 ([]) ((A ++ B).take (Int.toNat (A.length : Int)))).bind fun d => (nJ 72 d ([k])).bind fun g => (rb (decide ((0 : Int) ≤ (A.length : Int)) && decide ((A.length : Int) ≤ ((A ++ B).length : Int)))).bind fun _ => (nJ 72 g ((A ++ B).drop (Int.toNat (A.length : Int)))).bind fun h => nK a ks h) = nK a ks (A ++ k :: B) := by
  rw [TV (by simp; omega), aA, dO, jh, List.drop_left, nU (by simp; omega) (by simp; omega), aA, nU (by simp; omega) (by simp; omega), aA, aA, nU (by simp; omega) (by simp; omega), aA]
  simp
 rw [aF] at rest
 cases a with
 | false => exact rest
 | true =>
  simp only [aM, aA, eO]
  rcases dG A with rfl | ⟨A', y, rfl⟩
  ·exact rest
  ·rw [eF] at *
   have hp : ((A' ++ [y]).length : Int) > 0 := by simp
   simp only [hp, bZ, aM]
   have hw : IntKind.i64.wrap (((A' ++ [y]).length : Int) - 1) = (A'.length : Int) := by
    simp at b ⊢
    rw [me (by omega) (by omega)]
   have p : mQ ((A' ++ [y]) ++ B) (A'.length : Int) = some y := by
    simp only [aN, bX, bI]
    exact nR A' y B _ rfl
   rw [hw, p, aA, Gh y k (j y (by simp)), aA, aA]
   have n : Av rk (A' ++ [y]) k = rk y k := by unfold Av; rw [List.getLast?_append]; rfl
   rw [n]
   cases rk y k
   ·simp only [aB, aG]; exact rest
   ·rfl
theorem Hw {x : Formula} {l : List Formula} (h : x ∈ dd rk l) : x ∈ l := (JY (fun _ _ => Af) l x).1 h
theorem Gb : ∀ (ks S : List Formula), L7 (oE B6) S → (∀ x ∈ S, Gd x) → (∀ x ∈ ks, Gd x) → S.length + ks.length ≤ 1000000 → nK true ks (dd rk S) = some (dd rk (ks.foldl (B3 (oE B6)) S))
 | [], S, _, _, _, _ => by rw [nK]; rfl
 | k :: ks, S, j, g, hk, m => by
  rw [aJ] at m
  obtain ⟨A, B, rfl, b, d⟩ := EH Iv k j
  obtain ⟨n, p⟩ := RW (eq := rk) Iv (fun _ _ => Af) b d
  have i := Ky rk (A ++ B)
  rw [n] at i ⊢
  rw [FU true k ks (dd rk A) (dd rk B) (fun x a => by
   rcases aV.1 a with h | h
   ·exact g x (by simp [Hw h])
   ·exact g x (by simp [Hw h])) (hk k (by simp)) (fun x a => b x (Hw a)) (fun x a => d x (Hw a)) (by omega), iS, HA b d]
  have q : Av rk (dd rk A) k = Av rk A k := by unfold Av; rw [QY (eq := rk) (fun _ _ => Af)]
  rw [q, eO]
  have ih := Gb ks (A ++ k :: B) (LQ Iv j b d) (fun x a => by
   rcases aV.1 a with h | h
   ·exact g x (by simp [h])
   ·rcases aQ.1 h with rfl | h
    ·exact hk _ (by simp)
    ·exact g x (by simp [h])) (fun x a => hk x (by simp [a])) (by simp at m ⊢; omega)
  rw [p] at ih
  cases l : Av rk A k
  ·rw [l] at ih
   simp only [aB, aG] at ih ⊢
   rw [← ih]; simp
  ·rw [l] at ih
   simp only [aM] at ih ⊢
   exact ih
theorem Hn : ∀ (ks S : List Formula), L7 (oE B6) S → (∀ x ∈ S, Gd x) → (∀ x ∈ ks, Gd x) → S.length + ks.length ≤ 1000000 → nK false ks S = some (ks.foldl (B3 (oE B6)) S)
 | [], S, _, _, _, _ => by rw [nK]; rfl
 | k :: ks, S, i, d, hk, j => by
  rw [aJ] at j
  obtain ⟨A, B, rfl, a, b⟩ := EH Iv k i
  rw [FU false k ks A B d (hk k (by simp)) a b (by omega), iS, HA a b, iF]
  simp only [aB, aG]
  exact Hn ks (A ++ k :: B) (LQ Iv i a b) (fun x g => by
   rcases aV.1 g with h | h
   ·exact d x (by simp [h])
   ·rcases aQ.1 h with rfl | h
    ·exact hk _ (by simp)
    ·exact d x (by simp [h])) (fun x g => hk x (by simp [g])) (by simp at j ⊢; omega)
theorem SY (l : List Formula) (h : ∀ x ∈ l, Gd x) (a : l.length ≤ 1000000) : vN l true = some (dd rk (vO l)) := Gb l [] List.Pairwise.nil (by simp) h (by simpa using a)
theorem T5 (l : List Formula) (h : ∀ x ∈ l, Gd x) (a : l.length ≤ 1000000) : vN l false = some (vO l) := Hn l [] List.Pairwise.nil (by simp) h (by simpa using a)
end Go.Proofs.YtklbhegeiijbjaaGreat
namespace Go.Proofs.YtklbhegeiijbjaaGreat
open Go.RowKit
theorem FC (f : Formula) (op : Int) : vZ f op = some (mL op f) := D0 f op
theorem Jy (op : Int) (a : op = 2 ∨ op = 3) (s : mA) : ∀ l : List Formula, qh op s l = some (if l.any (mL (5 - op)) then .inl (⟨5 - op, 0, qP, []⟩, s) else .inr ())
 | [] => rfl
 | x :: l => by
  have hw : IntKind.i64.wrap (5 - op) = 5 - op := me (by omega) (by omega)
  rw [qh, hw, FC, aA, iP, Jy op a s l]
  cases mL (5 - op) x <;> rfl
theorem NX (op : Int) (a : op = 2 ∨ op = 3) (l : List Formula) (j : nodesL l ≤ 64) : oh op ⟨false⟩ [] l = some (if l.any (mL (5 - op)) then ⟨5 - op, 0, qP, []⟩ else match dd rk (vO l) with | [x] => x | r => ⟨op, 0, qP, r⟩, ⟨false⟩) := by
 have g := qM l
 rw [oh, Jy op a, aA]
 cases h : l.any (mL (5 - op))
 ·simp only [aB, aG]
  rw [SY l (fun x d => by have := uw d; unfold Gd; omega) (by omega), aA]
  have i := Ky rk (vO l)
  have hp := (zm l).length_eq
  have b : ¬ (((dd rk (vO l)).length : Int) > 64) := by omega
  simp only [b, cC, aB, aG, aA]
  generalize dd rk (vO l) = r
  match r with
  | [] => rfl
  | [x] => rfl
  | x :: y :: r =>
   have : (((x :: y :: r).length : Int) == 1) = false := by simp; omega
   simp only [this, aB, aG]
   rfl
 ·rfl
theorem GD (op : Int) (d : op = 2 ∨ op = 3) : ∀ (ks acc : List Formula), nodesL acc + nodesL ks ≤ 64 →
  oh op ⟨false⟩ ks acc = some (if (acc ++ oY op ks).any (mL (5 - op)) then ⟨5 - op, 0, qP, []⟩ else match dd rk (vO (acc ++ oY op ks)) with | [x] => x | r => ⟨op, 0, qP, r⟩, ⟨false⟩)
 | [], acc, h => by
  rw [nodesL] at h
  rw [oY, bJ]
  exact NX op d acc (by omega)
 | k :: ks, acc, h => by
  rw [nodesL] at h
  have h1 := pd k
  have l := qM k.Kids
  have m := qM acc
  have e : ∀ a b : List Formula, nodesL (a ++ b) = nodesL a + nodesL b := by
   intro a b
   induction a with
   | nil => rw [bI, nodesL]; omega
   | cons x a g => rw [bX, nodesL, nodesL, g]; omega
  have hw : IntKind.i64.wrap (5 - op) = 5 - op := me (by omega) (by omega)
  rw [oh, oY]
  by_cases c : k.Op = op
  ·simp only [c, bD, aM]
   rw [nU (by omega) (by omega), aA, GD op d ks _ (by rw [e]; omega), aN]
  ·have i : (k.Op == op) = false := by simpa using c
   simp only [i, aB, aG, c]
   rw [FC, hw, aA]
   cases j : mL (5 - op) k
   ·simp only [aB, aG]
    rw [nU (by simp; omega) (by simp; omega), aA, GD op d ks _ (by rw [e, nodesL, nodesL]; omega), aN]
   ·simp only [aM]
    have : (acc ++ ([k] ++ oY op ks)).any (mL (5 - op)) = true := by simp [j]
    rw [this]; rfl
theorem Mj (op : Int) (a : op = 2 ∨ op = 3) (ks : List Formula) (h : nodesL ks ≤ 64) : pZ ⟨false⟩ op ks = some (pY op ks, ⟨false⟩) := by
 unfold pZ pY
 rw [GD op a ks [] (by rw [nodesL]; omega), bI]
 rfl
theorem Cu : ∀ (ks acc : List Formula) (k : Int), -1000 ≤ k - (ks.length : Int) → k ≤ 1000 → acc.length + ks.length ≤ 1000 →
  od ks k acc = some (k - ((ks.filter (mL 2)).length : Int), acc ++ ks.filter fun x => !mL 2 x && !mL 3 x)
 | [], acc, k, h1, a, b => by rw [od]; simp
 | x :: ks, acc, k, h1, a, b => by
  simp only [aJ] at h1 b
  rw [od, FC, aA, FC, aA]
  rw [eC, eC]
  cases c2 : mL 2 x
  ·cases d : mL 3 x
   ·simp only [dA, jZ, aB, aG, aM]
    rw [nU (by simp; omega) (by simp; omega), aA, Cu ks _ k (by omega) a (by simp; omega)]
    simp only [aN, bX, bI]
   ·simp only [dA, cA, Bool.and_false, aB, aG]
    rw [Cu ks _ k (by omega) a (by omega)]
  ·simp only [cA, iF, aB, aG, aM]
   rw [me (by omega) (by omega), Cu ks _ (k - 1) (by omega) (by omega) (by omega)]
   simp only [aJ]
   have e : k - 1 - ((ks.filter (mL 2)).length : Int) = k - (((ks.filter (mL 2)).length + 1 : Nat) : Int) := by omega
   rw [e]
theorem RR : ∀ (n : Nat) (f : Formula), oV f ≤ n → lY f ≤ 64 → uq f = true → og n ⟨false⟩ f = some (qx f, ⟨false⟩) := by
 intro n
 induction n with
 | zero => intro f h; rw [nQ] at h; omega
 | succ n ih =>
  intro f v E hw
  rw [nQ] at v
  have w := pd f
  obtain ⟨h1, u, q⟩ := yv hw
  rw [og]
  unfold tw
  rw [AX]
  by_cases c1 : f.Op = 1
  ·simp only [c1, bD, aM]
  ·have r : (f.Op == 1) = false := by simpa using c1
   simp only [r, aB, aG, c1]
   have last : ∀ acc : List Formula, nodesL acc ≤ 64 → oz (og n) f [] acc ⟨false⟩ = some (if f.Op = 4 then ub f.K acc else pY f.Op acc, ⟨false⟩) := by
    intro acc b
    have hlen := qM acc
    have D := zT (fun x => !mL 2 x && !mL 3 x) acc
    rw [oz]
    by_cases p : f.Op = 4
    ·have hk : 0 ≤ f.K ∧ f.K ≤ (f.Kids.length : Int) := by rcases q with h | h | h <;> omega
     have i : ¬ f.Op < 4 := by omega
     simp only [i, p, cC, aB, aG, aM]
     rw [Cu acc [] f.K (by omega) (by omega) (by simp; omega), aA, bI]
     unfold ub
     simp only
     have g := qM (acc.filter fun x => !mL 2 x && !mL 3 x)
     have hm : ∀ x ∈ (acc.filter fun x => !mL 2 x && !mL 3 x), Gd x := fun x y => by have := uw y; unfold Gd; omega
     generalize (acc.filter fun x => !mL 2 x && !mL 3 x) = l at *
     generalize f.K - ((acc.filter (mL 2)).length : Int) = k
     by_cases d1 : k ≤ 0
     ·simp only [d1, bZ, aM]; rfl
     ·simp only [d1, cC, aB, aG]
      by_cases d2 : k > (l.length : Int)
      ·simp only [d2, bZ, aM]; rfl
      ·simp only [d2, cC, aB, aG]
       by_cases d3 : k = (l.length : Int)
       ·simp only [← d3, bD, aM]
        rw [Mj 2 (.inl rfl) l (by omega), aA]
        rfl
       ·have s : (k == (l.length : Int)) = false := by simpa using d3
        simp only [s, aB, aG, d3]
        by_cases d4 : k = 1
        ·simp only [d4, bD, aM]
         rw [Mj 3 (.inr rfl) l (by omega), aA]
         rfl
        ·have t : (k == 1) = false := by simpa using d4
         simp only [t, aB, aG, d4]
         rw [T5 l hm (by omega)]
         rfl
    ·have j : f.Op = 2 ∨ f.Op = 3 := by rcases q with h | h | h <;> omega
     have i : f.Op < 4 := by omega
     simp only [i, p, bZ, aM, aG]
     rw [Mj f.Op j acc b, aA]
   have key : ∀ (ks acc : List Formula), (∀ k ∈ ks, k ∈ f.Kids) → wellL ks = true → nodesL (acc ++ shapeL ks) ≤ 64 → nodesL ks ≤ 64 → oz (og n) f ks acc ⟨false⟩ = some (if f.Op = 4 then ub f.K (acc ++ shapeL ks) else pY f.Op (acc ++ shapeL ks), ⟨false⟩) := by
    intro ks
    induction ks with
    | nil =>
     intro acc _ _ b _
     rw [shapeL, bJ] at *
     exact last acc b
    | cons k ks m =>
     intro acc hk a b g
     rw [wellL, bH] at a
     rw [nodesL] at g
     rw [shapeL] at b
     have d := qM (acc ++ qx k :: shapeL ks)
     simp only [aF, aJ] at d
     rw [oz, ih k (by have := rR (hk k (by simp)); omega) (by omega) a.1, aA, nU (by simp; omega) (by simp; omega), aA,
      m (acc ++ [qx k]) (fun z A => hk z (by simp [A])) a.2 (by rw [aN]; exact b) (by omega), shapeL]
     simp only [aN, bX, bI]
   have := ED f.Kids
   have := key f.Kids [] (fun k hk => hk) u (by simpa using by omega) (by omega)
   simpa using this
theorem Qf (f : Formula) (h : Gd f) : zt f = some (yi f) := by
 unfold zt yi
 rw [HI f h, aA]
 cases b : oM f
 ·rfl
 ·obtain ⟨h1, d, a⟩ := An b
  have g := AI f
  simp only [cA, aB, aG, aM]
  rw [RR lB f (by rw [nh]; omega) h1 a, aA, HI (qx f) (by unfold Gd; omega)]
  simp only [aB, aG, aA]
  cases oM (qx f) <;> rfl
theorem HL (c : kE) : ∀ (l : List nE) (e o k : Int) (r : kC) (ks : List Formula), (∀ a ∈ l, lY a.kH ≤ 10000000) → lY ⟨o, k, r, ks⟩ ≤ 64 →
  tT c l e o k r ks = some (let t := qa (⟨o, k, r, ks⟩, e) ((l.filter fun a => sv nc a.na c).map (·.kH)); (t.2, t.1.Op, t.1.K, t.1.kC, t.1.Kids))
 | [], e, o, k, r, ks, _, _ => by rw [tT, jA, gF, qa]
 | a :: l, e, o, k, r, ks, h, p => by
  have ha := h a (by simp)
  have j : ∀ x ∈ l, lY x.kH ≤ 10000000 := fun x v => h x (by simp [v])
  rw [tT, eC, Lu]
  by_cases d : e = 0
  ·have i : (e == 0) = true := by simp [d]
   simp only [i, aM, aA]
   cases z : sv nc a.na c
   ·simp only [aB, aG]
    exact HL c l e o k r ks j p
   ·simp only [aM]
    rw [bP, qa]
    simp only [d, aM]
    have s : Gd ⟨2, 0, qP, [⟨o, k, r, ks⟩, a.kH]⟩ := by show lY _ ≤ _; rw [lY, nodesL, nodesL, nodesL]; omega
    rw [show (⟨2, 0, (⟨zS, zS⟩ : kC), [(⟨o, k, r, ks⟩ : Formula), a.kH]⟩ : Formula) = ⟨2, 0, qP, [⟨o, k, r, ks⟩, a.kH]⟩ from rfl, Qf _ s, aA]
    have u := zj (f := ⟨2, 0, qP, [⟨o, k, r, ks⟩, a.kH]⟩)
    generalize yi ⟨2, 0, qP, [⟨o, k, r, ks⟩, a.kH]⟩ = q at *
    obtain ⟨⟨w, k', y, n⟩, e'⟩ := q
    exact HL c l e' w k' y n j u
  ·have i : (e == 0) = false := by simpa using d
   simp only [i, aB, aG, aA]
   rw [HL c l e o k r ks j p]
   have b : ∀ m : List Formula, qa (⟨o, k, r, ks⟩, e) m = (⟨o, k, r, ks⟩, e) := by
    intro m
    cases m with
    | nil => rw [qa]
    | cons g m => rw [qa]; simp only [d, aG]
   rw [b, b]
theorem Nu (c : kE) (p : lI) (hp : PB p) : ∀ l : List ll, (∀ x ∈ l, x ∈ p.kO) → wN c p l = some (match l.find? (fun x => nc x.Signed.kE c) with | none => (F8, 42) | some x => CX x.kH ((zz p c).map (·.kH)))
 | [], _ => rfl
 | x :: l, h => by
  rw [wN, gP]
  cases j : nc x.Signed.kE c
  ·simp only [dA, aM]
   exact Nu c p hp l (fun z g => h z (by simp [g]))
  ·simp only [cA, aB, aG]
   have m := hp.rel x (h x (by simp))
   have d := zj (f := x.kH)
   rw [Qf _ (by unfold Gd; omega), aA]
   unfold CX zz
   generalize yi x.kH = q at *
   obtain ⟨⟨o, k, r, ks⟩, e⟩ := q
   rw [HL c p.lg e o k r ks hp.Gs d, aA]
   simp only
   generalize qa (⟨o, k, r, ks⟩, e) ((p.lg.filter fun a => sv nc a.na c).map (·.kH)) = t
   obtain ⟨⟨n, k', s, i⟩, e'⟩ := t
   by_cases c1 : e' = 0
   ·subst c1; rfl
   ·have b : (e' != 0) = true := by simp [c1]
    simp only [b, aM, c1, aG]; rfl
theorem SZ (p : lI) (hp : PB p) (c : kE) : Bt p c = some (qm p c) := by
 unfold Bt qm AD
 refine (Nu c p hp _ (fun x a => a)).trans ?_
 cases p.kO.find? (fun x => nc x.Signed.kE c) <;> rfl
end Go.Proofs.YtklbhegeiijbjaaGreat
namespace Go.Proofs.YtklbhegeiijbjaaGreat
open Go.RowKit
theorem TT (l : List kC) (r : kC) : Ax l r = some (sv lu l r) := by
 unfold Ax
 induction l with
 | nil => rfl
 | cons x l ih =>
  rw [xS, ih]
  have e : sv lu (x :: l) r = (lu r x || sv lu l r) := rfl
  have a : lu x r = lu r x := by rw [bT, lx, lx]; exact eq_comm
  rw [e, a]
  cases lu r x <;> rfl
theorem Gr (l : List kC) (rec : Formula → List kC → Option Bool) (f : Formula) (v : kC → Bool) : ∀ (ks : List Formula) (x : Nat), (∀ k ∈ ks, rec k l = some (qS v k)) → x + ks.length ≤ 100000000 →
  si rec l f ks (x : Int) = some (if f.Op = 2 then decide (x + evN v ks = f.Kids.length) else if f.Op = 3 then decide (0 < x + evN v ks) else decide (f.K ≤ ((x + evN v ks : Nat) : Int)))
 | [], x, _, _ => by
  rw [si, evN, je]
  by_cases c2 : f.Op = 2
  ·simp only [c2, bD, aM]
   congr 1
   rw [bT, iV, bK]; omega
  ·have b : (f.Op == 2) = false := by simpa using c2
   simp only [b, aB, aG, c2]
   by_cases a : f.Op = 3
   ·simp only [a, bD, aM]
    congr 1
    rw [bT, bK, bK]; omega
   ·have g : (f.Op == 3) = false := by simpa using a
    simp only [g, aB, aG, a]
    first | done | rfl
 | k :: ks, x, h, i => by
  rw [aJ] at i
  rw [si, h k (by simp), aA, evN]
  cases qS v k
  ·simp only [aB, aG]
   rw [Gr l rec f v ks x (fun z d => h z (by simp [d])) (by omega), fN]
  ·simp only [aM]
   have e : IntKind.i64.wrap ((x : Int) + 1) = ((x + 1 : Nat) : Int) := by rw [me (by omega) (by omega)]; omega
   rw [e, Gr l rec f v ks (x + 1) (fun z d => h z (by simp [d])) (by omega)]
   have b : x + 1 + evN v ks = x + (1 + evN v ks) := by omega
   rw [b]
theorem P0 (l : List kC) : ∀ (n : Nat) (f : Formula), oV f ≤ n → Gd f → rS n f l = some (qS (sv lu l) f) := by
 intro n
 induction n with
 | zero => intro f h; rw [nQ] at h; omega
 | succ n ih =>
  intro f b d
  rw [nQ] at b
  have g := pd f
  have i := qM f.Kids
  unfold Gd at d
  rw [rS]
  unfold yp
  rw [wL, TT]
  by_cases c1 : f.Op = 1
  ·simp only [c1, bD, aM, aA]
  ·have a : (f.Op == 1) = false := by simpa using c1
   simp only [a, aB, aG, c1]
   have := Gr l (rS n) f (sv lu l) f.Kids 0 (fun k hk => ih k (by have := rR hk; omega) (by have := uw hk; unfold Gd; omega)) (by omega)
   simpa using this
theorem I1 (F : List kZ) (w : ByteArray) : sv lu (Hc F w) = vF F w := by
 funext r
 unfold vF Hc
 rw [bT, tg lx, tg wR, bO]
 constructor
 ·rintro ⟨f, b, rfl⟩
  obtain ⟨h1, a⟩ := cH.1 b
  have := nm.1 a
  rw [← this]; exact h1
 ·intro h
  exact ⟨⟨r, w⟩, cH.2 ⟨h, nm.2 rfl⟩, rfl⟩
theorem D5 (p : lI) (hp : PB p) (l : List kC) (v : kC → Bool) (a : sv lu l = v) : ∀ (xs : List ll) (acc : List kE), acc.length + xs.length ≤ 1000000000 → se p l xs acc = yG (acc ++ (xs.filter (AH p v)).map (·.Signed.kE))
 | [], acc, _ => by rw [se, jA, gF, bJ, pV]
 | x :: xs, acc, h => by
  rw [aJ] at h
  have g := Iw p x.Signed.kE
  have d := wZ (qm p x.Signed.kE).1
  rw [se, SZ p hp, aA, P0 l lB _ (by rw [nh]; omega) (by unfold Gd; omega), a, eC]
  unfold AH
  by_cases c : (qm p x.Signed.kE).2 = 0
  ·have b := (NH c).1
   simp only [c, bD, aM, bZ, eO, aA]
   unfold xP
   rw [b, eO]
   cases i : qS v (qm p x.Signed.kE).1
   ·simp only [aB, aG]
    exact D5 p hp l v a xs acc (by omega)
   ·simp only [aM]
    rw [nU (by simp; omega) (by simp; omega), aA, D5 p hp l v a xs _ (by simp; omega)]
    simp only [bP, aN, bX, bI]
    rfl
  ·have e : ((qm p x.Signed.kE).2 == 0) = false := by simpa using c
   simp only [e, aB, aG, c, cC, iF, aA]
   exact D5 p hp l v a xs acc (by omega)
theorem SG {l : List kE} {F : List kZ} (h : JW l F) (peer : ByteArray) : vF F peer = vD l peer := by
 funext r
 rw [bT, E4]
 unfold vF
 rw [tg wR, (h.xC (l.filter mR) (fun c => by rw [cH])).2]
theorem P8 (p : lI) (hp : PB p) (l : List kE) (d : l.length ≤ 30000) (peer : ByteArray) : xJ p l peer = tD p l peer := by
 obtain ⟨F, a⟩ := SC l d
 obtain ⟨s, e, g⟩ := Qt p hp a peer
 have := hp.DR
 have h1 : (p.kO.filter (AH p (vF F peer))).length ≤ p.kO.length := fY _ _
 have hlen := a.len
 unfold xJ
 rw [a.ref, aA, show tR F peer = some (Hc F peer) from Nw F peer (by omega), aA, e]
 rw [D5 p hp _ (vF F peer) (I1 F peer) p.kO [] (by simp; omega), bI]
 obtain ⟨t, b, h⟩ := LV ((p.kO.filter (AH p (vF F peer))).map (·.Signed.kE)) (by simp; omega)
 rw [b, xn.unique DB h g]
end Go.Proofs.YtklbhegeiijbjaaGreat
namespace Go.Proofs.YtklbhegeiijbjaaGreat
open Go.RowKit
theorem KM : ∀ (l m A : List kE), l.length = m.length → ∃ b, qO (A ++ m) l A.length = some b ∧ (b = true ↔ l = m)
 | [], m, A, d => by
  obtain rfl := aU d.symm
  exact ⟨true, by rw [qO], by simp⟩
 | x :: l, [], A, d => by simp at d
 | x :: l, y :: m, A, d => by
  have i1 : mQ (A ++ y :: m) (A.length : Int) = some y := nR _ _ _ _ rfl
  rw [qO, i1, aA]
  cases g : nc x y with
  | false =>
   refine ⟨false, by simp [g], ?_⟩
   have : x ≠ y := fun a => by have := ol.2 a; rw [this] at g; cases g
   simp [this]
  | true =>
   have a := ol.1 g
   obtain ⟨b, h, k⟩ := KM l m (A ++ [y]) (by simpa using d)
   have i : A ++ y :: m = (A ++ [y]) ++ m := by simp
   have j : A.length + 1 = (A ++ [y]).length := by simp
   simp only [cA, aB, aG]
   rw [i, j, h]
   exact ⟨b, rfl, by rw [k]; simp [a]⟩
theorem Td (l m : List kE) : ∃ b, rW l m = some b ∧ (b = true ↔ l = m) := by
 unfold rW
 by_cases h : l.length = m.length
 ·have : ((l.length : Int) != (m.length : Int)) = false := by simp [h]
  simp only [this, aB, aG]
  exact KM l m [] h
 ·have : ((l.length : Int) != (m.length : Int)) = true := by simp; omega
  simp only [this, aM]
  exact ⟨false, rfl, by simp; intro hk; rw [hk] at h; exact h rfl⟩
theorem J4 {x p : List kE} (sx : qK x) (sp : qK p) (h : ∀ c ∈ x, c ∈ p) : rW p x = some (decide (p.length = x.length)) := by
 obtain ⟨b, e, a⟩ := Td p x
 rw [e]; congr 1
 rw [bT, a, bK]
 exact ⟨fun q => by rw [q], fun q => (sx.eq sp h (by omega)).symm⟩
theorem GZ (a b : lI) (ha : PB a) (g : PB b) (t : a.kO.length ≤ 30000) (u : b.kO.length ≤ 30000) : ∀ (n : Nat) (x y : List kE) (i : Int), qK x → qK y → (∀ c ∈ x, ud a y b.Name c) → (∀ c ∈ y, ud b x a.Name c) →
  ua a b n x y i = qp a b n x y i
 | 0, x, y, i, sx, sy, h, j => by rw [ua, qp]
 | n + 1, x, y, i, sx, sy, h, j => by
  have h1 := zh sx (fun c d => (h c d).1)
  have v := zh sy (fun c d => (j c d).1)
  obtain ⟨p, r, sp, mp, w⟩ := Jn a ha y (by omega) b.Name
  obtain ⟨q, s, sq, k, z⟩ := Jn b g x (by omega) a.Name
  have l : ∀ c ∈ x, c ∈ p := fun c d => (mp c).2 (h c d)
  have m : ∀ c ∈ y, c ∈ q := fun c d => (k c).2 (j c d)
  rw [ua, qp, P8 a ha y (by omega), P8 b g x (by omega), r, s]
  simp only [aA]
  rw [J4 sx sp l, J4 sy sq m]
  simp only [aA]
  have ih := GZ a b ha g t u n p q (IntKind.i64.wrap (i + 1)) sp sq (fun c d => wY m ((mp c).1 d)) (fun c d => wY l ((k c).1 d))
  rw [ih]
  have d1 : ((p.length : Int) == (x.length : Int)) = decide (p.length = x.length) := by
   rw [bT, iV, bK]; omega
  have d2 : ((q.length : Int) == (y.length : Int)) = decide (q.length = y.length) := by
   rw [bT, iV, bK]; omega
  rw [d1, d2]
theorem QC (a b : lI) (ha : PB a) (d : PB b) (g : a.kO.length ≤ 30000) (h : b.kO.length ≤ 30000) : Dz a b = wS a b :=
 GZ a b ha d g h lB [] [] 0 qK.nil qK.nil (by simp) (by simp)
end Go.Proofs.YtklbhegeiijbjaaGreat
namespace Go.Proofs.YtklbhegeiijbjaaGreat
open Go.RowKit
mutual
def Aa : Formula → Nat
 | ⟨_, _, r, ks⟩ => 1 + r.kD.size + r.kJ.size + szFL ks
def szFL : List Formula → Nat
 | [] => 0
 | k :: ks => Aa k + szFL ks
end
theorem Kn (f : Formula) : Aa f = 1 + f.kC.kD.size + f.kC.kJ.size + szFL f.Kids := by cases f; rw [Aa]
theorem Cw : ∀ f : Formula, lY f ≤ Aa f := by
 refine JE fun f ih => ?_
 have : ∀ ks : List Formula, (∀ k ∈ ks, lY k ≤ Aa k) → nodesL ks ≤ szFL ks := by
  intro ks
  induction ks with
  | nil => intro _; rw [nodesL]; omega
  | cons k ks a =>
   intro h
   have := a (fun x b => h x (by simp [b]))
   have := h k (by simp)
   rw [nodesL, szFL]; omega
 have := this f.Kids ih
 rw [pd, Kn]; omega
def yY : List kE → Nat
 | [] => 0
 | c :: l => 20 + yR c + yY l
theorem g5 : ∀ (l : List kE) (n : Int), 0 ≤ n → n + (yY l : Int) ≤ 4000000000000000000 → sN l n = some (n + (yY l : Int))
 | [], n, _, _ => by rw [sN, yY]; simp
 | c :: l, n, b, a => by
  have e : yR c = c.Head.kD.size + c.Head.kJ.size + c.lZ.size + c.B.kD.size + c.B.kJ.size + c.C.kD.size + c.C.kJ.size + c.mc.size := rfl
  rw [yY] at a
  rw [sN]
  rw [me (x := 20 + (c.Head.kD.size : Int)) (by omega) (by omega), me (x := 20 + (c.Head.kD.size : Int) + (c.Head.kJ.size : Int)) (by omega) (by omega), me (x := 20 + (c.Head.kD.size : Int) + (c.Head.kJ.size : Int) + (c.lZ.size : Int)) (by omega) (by omega), me (x := 20 + (c.Head.kD.size : Int) + (c.Head.kJ.size : Int) + (c.lZ.size : Int) + (c.B.kD.size : Int)) (by omega) (by omega), me (x := 20 + (c.Head.kD.size : Int) + (c.Head.kJ.size : Int) + (c.lZ.size : Int) + (c.B.kD.size : Int) + (c.B.kJ.size : Int)) (by omega) (by omega), me (x := 20 + (c.Head.kD.size : Int) + (c.Head.kJ.size : Int) + (c.lZ.size : Int) + (c.B.kD.size : Int) + (c.B.kJ.size : Int) + (c.C.kD.size : Int)) (by omega) (by omega), me (x := 20 + (c.Head.kD.size : Int) + (c.Head.kJ.size : Int) + (c.lZ.size : Int) + (c.B.kD.size : Int) + (c.B.kJ.size : Int) + (c.C.kD.size : Int) + (c.C.kJ.size : Int)) (by omega) (by omega), me (x := 20 + (c.Head.kD.size : Int) + (c.Head.kJ.size : Int) + (c.lZ.size : Int) + (c.B.kD.size : Int) + (c.B.kJ.size : Int) + (c.C.kD.size : Int) + (c.C.kJ.size : Int) + (c.mc.size : Int)) (by omega) (by omega), me (by omega) (by omega)]
  rw [g5 l _ (by omega) (by omega), yY]
  congr 1; omega
theorem Ut : ∀ (n : Nat) (l : List Formula), deepL l < n → szFL l ≤ 1000000000000 → ∃ r : Int, pH n l = some r ∧ 0 ≤ r ∧ r ≤ (szFL l : Int) := by
 intro n
 induction n with
 | zero => intro l h; omega
 | succ n ih =>
  intro l h g
  rw [pH]
  unfold xw
  have key : ∀ (l : List Formula) (x : Int), deepL l < n + 1 → 0 ≤ x → x + (szFL l : Int) ≤ 1000000000000 → ∃ r : Int, sR (pH n) l x = some r ∧ 0 ≤ r ∧ r ≤ x + (szFL l : Int) := by
   intro l
   induction l with
   | nil => intro x _ i _; exact ⟨x, by rw [sR], i, by rw [szFL]; simp⟩
   | cons k l b =>
    intro x h i g
    rw [deepL] at h
    rw [szFL] at g
    have hk := Kn k
    have := nQ k
    obtain ⟨r, e, h1, j⟩ := ih k.Kids (by omega) (by omega)
    rw [sR, e, aA]
    have q : 0 ≤ Int.tdiv ((k.kC.kD.size : Int) + (k.kC.kJ.size : Int)) 16 ∧ Int.tdiv ((k.kC.kD.size : Int) + (k.kC.kJ.size : Int)) 16 ≤ (k.kC.kD.size : Int) + (k.kC.kJ.size : Int) := by
     rw [Int.tdiv_eq_ediv_of_nonneg (by omega)]
     omega
    rw [me (x := (k.kC.kD.size : Int) + (k.kC.kJ.size : Int)) (by omega) (by omega)]
    generalize Int.tdiv ((k.kC.kD.size : Int) + (k.kC.kJ.size : Int)) 16 = d at *
    rw [me (x := d) (by omega) (by omega), me (x := 1 + d) (by omega) (by omega), me (x := 1 + d + r) (by omega) (by omega), me (x := x + (1 + d + r)) (by omega) (by omega)]
    obtain ⟨p, e', a, m⟩ := b (x + (1 + d + r)) (by omega) (by omega) (by omega)
    exact ⟨p, e', a, by rw [szFL]; omega⟩
  obtain ⟨r, e, h1, j⟩ := key l 0 h (by omega) (by omega)
  exact ⟨r, e, h1, by omega⟩
theorem H6 (f : Formula) (h : Aa f ≤ 50000000) : ∃ r : Int, pH lB [f] = some r ∧ 0 ≤ r ∧ r ≤ (Aa f : Int) := by
 have h1 := Cw f
 have d := wZ f
 obtain ⟨r, e, a, b⟩ := Ut lB [f] (by rw [deepL, deepL, nh]; omega) (by rw [szFL, szFL]; omega)
 refine ⟨r, e, a, ?_⟩
 rw [szFL, szFL] at b; omega
theorem g6 (s : Signed) (h : yR s.kE + s.Tag.length ≤ 1000000000) : vj [] [s] = some (20 + (yR s.kE : Int) + (s.Tag.length : Int)) := by
 unfold vj
 rw [rz, sS]
 have := g5 [s.kE] 0 (by omega) (by rw [yY, yY]; omega)
 rw [show wE [s.kE] = _ from this, aA, sS, yY, yY]
 rw [me (x := 0 + ((20 + yR s.kE + 0 : Nat) : Int) + (s.Tag.length : Int)) (by omega) (by omega), me (by omega) (by omega)]
 simp only [aA]
 congr 1; omega
def CL : List ll → Nat
 | [] => 0
 | x :: l => 20 + yR x.Signed.kE + x.Signed.Tag.length + 20 * Aa x.kH + CL l
def BJ : List nE → Nat
 | [] => 0
 | a :: l => a.kC.kD.size + a.kC.kJ.size + 20 * Aa a.kH + yY a.na + BJ l
def II (p : lI) : Nat := p.Name.size + CL p.kO + BJ p.lg
theorem OE : ∀ (l : List nE) (x : Int), 0 ≤ x → x + (BJ l : Int) ≤ 1000000000 → ∃ r : Int, sV l x = some r ∧ x ≤ r ∧ r ≤ x + (BJ l : Int)
 | [], x, _, _ => ⟨x, by rw [sV], by omega, by rw [BJ]; omega⟩
 | a :: l, x, i, h => by
  rw [BJ] at h
  obtain ⟨r, e, h1, j⟩ := H6 a.kH (by omega)
  have b := g5 a.na 0 (by omega) (by omega)
  rw [sV, e, aA, show wE a.na = _ from b, aA]
  rw [me (x := (a.kC.kD.size : Int) + (a.kC.kJ.size : Int)) (by omega) (by omega), me (x := 20 * r) (by omega) (by omega), me (x := (a.kC.kD.size : Int) + (a.kC.kJ.size : Int) + 20 * r) (by omega) (by omega), me (x := (a.kC.kD.size : Int) + (a.kC.kJ.size : Int) + 20 * r + (0 + (yY a.na : Int))) (by omega) (by omega), me (by omega) (by omega)]
  obtain ⟨d, e', g, a2⟩ := OE l (x + ((a.kC.kD.size : Int) + (a.kC.kJ.size : Int) + 20 * r + (0 + (yY a.na : Int)))) (by omega) (by omega)
  exact ⟨d, e', by omega, by rw [BJ]; omega⟩
theorem TA (p : lI) (g : II p ≤ 1000000000) : ∃ r : Int, wP p = some r ∧ 20 * (p.kO.length : Int) ≤ r ∧ r ≤ (II p : Int) := by
 unfold II at g
 have key : ∀ (l : List ll) (x : Int), 0 ≤ x → x + (CL l : Int) + (BJ p.lg : Int) ≤ 1000000000 → ∃ r : Int, sO p l x = some r ∧ x + 20 * (l.length : Int) ≤ r ∧ r ≤ x + (CL l : Int) + (BJ p.lg : Int) := by
  intro l
  induction l with
  | nil =>
   intro x d h
   rw [CL] at h
   obtain ⟨r, e, a, b⟩ := OE p.lg x d (by omega)
   exact ⟨r, by rw [sO, e]; rfl, by simp; omega, by rw [CL]; omega⟩
  | cons y l ih =>
   intro x d h
   rw [CL] at h
   obtain ⟨r, e, h1, j⟩ := H6 y.kH (by omega)
   rw [sO, g6 y.Signed (by omega)]
   simp only [aA]
   rw [e, aA]
   rw [me (x := 20 * r) (by omega) (by omega), me (x := 20 + (yR y.Signed.kE : Int) + (y.Signed.Tag.length : Int) + 20 * r) (by omega) (by omega), me (by omega) (by omega)]
   obtain ⟨i, e', a, b⟩ := ih (x + (20 + (yR y.Signed.kE : Int) + (y.Signed.Tag.length : Int) + 20 * r)) (by omega) (by omega)
   exact ⟨i, e', by rw [aJ]; omega, by rw [CL]; omega⟩
 obtain ⟨r, e, a, b⟩ := key p.kO (p.Name.size : Int) (by omega) (by omega)
 unfold wP
 exact ⟨r, e, by omega, by unfold II; omega⟩
end Go.Proofs.YtklbhegeiijbjaaGreat
namespace Go.Proofs.YtklbhegeiijbjaaGreat
open Go.RowKit
def DG : List Key → Nat
 | [] => 0
 | k :: l => 10 + k.lZ.size + k.Key.length + DG l
theorem TC : ∀ (ks : List Key) (x : Int), 0 ≤ x → x + (DG ks : Int) ≤ 2000000000 → rz [] ks x = some (x + (DG ks : Int))
 | [], x, _, _ => by rw [rz, sS, DG]; simp
 | k :: ks, x, a, h => by
  rw [DG] at h
  rw [rz, me (x := 10 + (k.lZ.size : Int)) (by omega) (by omega), me (x := 10 + (k.lZ.size : Int) + (k.Key.length : Int)) (by omega) (by omega), me (by omega) (by omega), TC ks _ (by omega) (by omega), DG]
  congr 1; omega
structure PQ (p : mw) : Prop extends PP p where
 go : II p.kD ≤ 1000000000
 gc : II p.Client ≤ 1000000000
 fs : Aa p.Formula ≤ 50000000
 ks : DG p.Keys ≤ 1000000000
theorem Ul (p : mw) (hp : PQ p) : ∃ r : Int, yS p = some r ∧ 20 * (p.kD.kO.length : Int) + 20 * (p.Client.kO.length : Int) ≤ r := by
 have d := hp.go
 have b := hp.gc
 have n := hp.ks
 have a := hp.fs
 obtain ⟨g, j, q, s⟩ := TA p.kD d
 obtain ⟨h, k, a2, t⟩ := TA p.Client b
 obtain ⟨i, l, a3, u⟩ := H6 p.Formula a
 have m := TC p.Keys 0 (by omega) (by omega)
 unfold yS
 rw [j, aA, k, aA]
 simp only [aA]
 rw [l, aA, show vj p.Keys [] = _ from m, aA]
 rw [me (x := g + h) (by omega) (by omega), me (x := 20 * i) (by omega) (by omega), me (x := g + h + 20 * i) (by omega) (by omega), me (by omega) (by omega)]
 exact ⟨_, rfl, by omega⟩
end Go.Proofs.YtklbhegeiijbjaaGreat
namespace Go.Proofs.YtklbhegeiijbjaaGreat
open Go.RowKit
theorem Lq (a b : lI) (f : Formula) (ha : PB a) (h : PB b) (n : a.kO.length ≤ 30000) (p : b.kO.length ≤ 30000) (g : Gd f) :
  ∃ x y j, wS a b = some (x, y, j) ∧ NK a b x y ∧ vx a b f = some (xP (vD y b.Name) f) ∧ xX a b f = some (xP (vD y b.Name) f) := by
 obtain ⟨x, y, j, e, F⟩ := Ns a b ha h (by omega) (by omega)
 have t := F.ly
 obtain ⟨G, d⟩ := SC y (by omega)
 obtain ⟨m, k, _, l⟩ := d.TK
 have i := SG d b.Name
 refine ⟨x, y, j, e, F, ?_, ?_⟩
 ·unfold vx A6
  rw [e, aA, k, aA, aA]
  rw [Mf (vD y b.Name) _ (fun r => by unfold wu; rw [pV, l, ← i]; rfl) f g]
  rfl
 ·have q := wZ f
  unfold xX
  rw [HI f g, aA]
  unfold xP
  cases s : oM f
  ·rfl
  ·simp only [aM]
   unfold Ba
   rw [QC a b ha h n p, e, aA, d.ref, aA, show tR G b.Name = some (Hc G b.Name) from Nw G b.Name (by have := d.len; omega)]
   simp only [aA]
   rw [P0 _ lB f (by rw [nh]; unfold Gd at g; omega) g, I1, i]
   rfl
structure PL (p : mw) : Prop where
 o : PB p.kD
 c : PB p.Client
 lo : p.kD.kO.length ≤ 30000
 lc : p.Client.kO.length ≤ 30000
 f : Gd p.Formula
noncomputable def yk (p : mw) : Bool := (vx p.kD p.Client p.Formula).getD false
theorem xW {p : mw} (h : PL p) : qu p = some (yk p) ∧ uA p = some (yk p) := by
 obtain ⟨x, y, j, _, _, a, b⟩ := Lq p.kD p.Client p.Formula h.o h.c h.lo h.lc h.f
 unfold yk qu uA
 rw [a, b]
 exact ⟨rfl, rfl⟩
def zd (l : List ll) (i : Int) : Prop := 0 ≤ i ∧ i < l.length
instance (l : List ll) (i : Int) : Decidable (zd l i) := by unfold zd; infer_instance
def wq (l : List ll) (i : Int) : List ll := if zd l i then l.eraseIdx i.toNat else l
def rn (p : mw) (e i : Int) : mw :=
 if e = 0 then ⟨⟨p.kD.Name, wq p.kD.kO i, p.kD.lg⟩, p.Client, p.Formula, p.nZ, p.mh, p.my, p.nx, p.mU, p.Keys⟩
 else if e = 1 then ⟨p.kD, ⟨p.Client.Name, wq p.Client.kO i, p.Client.lg⟩, p.Formula, p.nZ, p.mh, p.my, p.nx, p.mU, p.Keys⟩
 else p
theorem GK (l : List ll) (i : Int) : (wq l i).length ≤ l.length := by
 unfold wq
 split
 ·rw [List.length_eraseIdx]; split <;> omega
 ·omega
theorem Pe {l : List ll} {i : Int} {x : ll} (h : x ∈ wq l i) : x ∈ l := by
 unfold wq at h
 split at h
 ·exact List.mem_of_mem_eraseIdx h
 ·exact h
theorem PB.cut {n : ByteArray} {l : List ll} {k : List nE} (h : PB ⟨n, l, k⟩) (i : Int) : PB ⟨n, wq l i, k⟩ where
 DR := dE (GK l i) h.DR
 H2 := h.H2
 rel := fun x a => h.rel x (Pe a)
 Gs := h.Gs
 PV := h.PV
theorem PL.drop {p : mw} (h : PL p) (e i : Int) : PL (rn p e i) := by
 unfold rn
 split
 ·exact ⟨PB.cut (n := p.kD.Name) (k := p.kD.lg) h.o i, h.c, dE (GK _ i) h.lo, h.lc, h.f⟩
 ·split
  ·exact ⟨h.o, PB.cut (n := p.Client.Name) (k := p.Client.lg) h.c i, h.lo, dE (GK _ i) h.lc, h.f⟩
  ·exact h
theorem LL {l : List ll} (a : l.length ≤ 1000000) : pK l = some l := by
 unfold pK
 rw [nU (by simp; omega) (by simp; omega)]
 rfl
theorem MV {p : Prop} [Decidable p] (h : p) : rb (decide p) = some () := by simp [rb, h]
theorem PK (A : List ll) (x : ll) (B : List ll) (i : (A ++ x :: B).length ≤ 1000000) : pz (A ++ x :: B) (A.length : Int) ((A.length : Int) + 1) = some (A ++ B) := by
 have hlen : (A ++ x :: B).length = A.length + (B.length + 1) := by simp
 have a : (A ++ x :: B).take (Int.toNat (A.length : Int)) = A := by simp
 have b : (A ++ x :: B).drop (Int.toNat ((A.length : Int) + 1)) = B := by
  rw [show Int.toNat ((A.length : Int) + 1) = A.length + 1 by omega, List.drop_append]
  simp
 have d : (yt (A ++ x :: B) (Int.toNat (A.length : Int)) (Int.toNat ((A.length : Int) + 1))) = A ++ B ++ (A ++ x :: B).drop ((A ++ x :: B).length - (Int.toNat ((A.length : Int) + 1) - Int.toNat (A.length : Int))) := by
  unfold yt; rw [a, b]
 have g : (A ++ B ++ (A ++ x :: B).drop ((A ++ x :: B).length - (Int.toNat ((A.length : Int) + 1) - Int.toNat (A.length : Int)))).length = (A ++ x :: B).length := by
  rw [aF, eP, hlen, aF]; omega
 unfold pz
 rw [MV (by omega)]
 simp only [aA]
 rw [bA (by simp; omega), BG (by omega) (by omega), BG (by omega) (by omega), MV (by omega)]
 simp only [aA]
 rw [a, b, d, g, MV (by simp; omega)]
 simp only [aA]
 congr 1
 unfold ph
 have h : (Int.toNat ((A ++ B).length : Int)) = (A ++ B).length := by omega
 rw [h, jh, jh]
theorem Ox {α : Type} (l : List α) (i : Nat) (h : i < l.length) : ∃ A x B, l = A ++ x :: B ∧ A.length = i := ⟨l.take i, l[i], l.drop (i + 1), by simp, by simp; omega⟩
theorem GV {l : List ll} {i : Int} (d : l.length ≤ 1000000) (h : zd l i) : pz l i (IntKind.i64.wrap (i + 1)) = some (wq l i) := by
 have a := h
 obtain ⟨g, h1⟩ := h
 rw [me (by omega) (by omega)]
 obtain ⟨A, x, B, rfl, j⟩ := Ox l i.toNat (by omega)
 have b : i = (A.length : Int) := by omega
 subst b
 rw [PK A x B d]
 unfold wq
 rw [aY a]
 congr 1
 rw [show Int.toNat (A.length : Int) = A.length by omega, List.eraseIdx_append_of_length_le (aZ _)]
 simp
theorem M8 (p : mw) : (⟨p.Formula.Op, p.Formula.K, p.Formula.kC, p.Formula.Kids⟩ : Formula) = p.Formula := by cases p.Formula; rfl
theorem G3 (p : mw) (h : PL p) (e i : Int) : sd p e i = some (rn p e i) := by
 have h1 := h.lo
 have l := h.lc
 unfold sd pu rn
 by_cases d : e < 0
 ·have : ¬ e = 0 := by omega
  have : ¬ e = 1 := by omega
  simp only [d, bZ, aM, aA, *, aG]
 ·by_cases c1 : e > 1
  ·have : ¬ e = 0 := by omega
   have : ¬ e = 1 := by omega
   simp only [d, c1, bZ, cC, aB, aM, aA, *, aG]
  ·simp only [d, c1, cC, aB, aG, aA]
   by_cases g : e = 0
   ·subst g
    simp only [bD, aM, aA]
    by_cases n : zd p.kD.kO i
    ·have a : ¬ i < 0 := by unfold zd at n; omega
     have b : ¬ i ≥ (p.kD.kO.length : Int) := by unfold zd at n; omega
     simp only [a, b, cC, aB, aG, aA]
     rw [LL (by omega), aA, GV (by omega) n, aA, M8]
    ·unfold wq
     rw [bA n]
     by_cases a : i < 0
     ·simp only [a, bZ, aM, aA]
     ·have b : i ≥ (p.kD.kO.length : Int) := by unfold zd at n; omega
      simp only [a, b, bZ, cC, aB, aG, aM, aA]
   ·have j : e = 1 := by omega
    subst j
    have q : ((1 : Int) == 0) = false := rfl
    have k : ((3 : Nat) == 0) = false := rfl
    simp only [q, k, aB, aG, aA, aM, show ¬ ((1 : Int) = 0) by omega]
    by_cases n : zd p.Client.kO i
    ·have a : ¬ i < 0 := by unfold zd at n; omega
     have b : ¬ i ≥ (p.Client.kO.length : Int) := by unfold zd at n; omega
     simp only [a, b, cC, aB, aG, aA]
     rw [LL (by omega), aA, GV (by omega) n, aA, M8]
    ·unfold wq
     rw [bA n]
     by_cases a : i < 0
     ·simp only [a, bZ, aM, aA]
     ·have b : i ≥ (p.Client.kO.length : Int) := by unfold zd at n; omega
      simp only [a, b, bZ, cC, aB, aG, aM, aA]
theorem Ig (a : Int) : ∀ (l : List ll) (k : Nat) (acc : List ll), acc.length + l.length ≤ 1000000 → sU a l k acc = some (acc ++ wq l (a - k))
 | [], k, acc, _ => by
  rw [sU]; unfold wq; rw [bA (fun h => by obtain ⟨b, h1⟩ := h; rw [bU] at h1; omega), bJ]
 | x :: l, k, acc, h => by
  rw [aJ] at h
  rw [sU]
  by_cases c : (k : Int) = a
  ·have : ((k : Int) != a) = false := by simpa using c
   simp only [this, aB, aG]
   rw [Ig a l (k + 1) acc (by omega)]
   subst c
   unfold wq
   rw [bA (by unfold zd; omega), aY (by unfold zd; rw [aJ]; omega), show Int.toNat ((k : Int) - k) = 0 by omega]
   rfl
  ·have : ((k : Int) != a) = true := by simpa using c
   simp only [this, aM]
   rw [nU (by simp; omega) (by simp; omega), aA, Ig a l (k + 1) _ (by simp; omega)]
   unfold wq
   by_cases n : zd l (a - ((k + 1 : Nat) : Int))
   ·rw [aY n, aY (by unfold zd at *; rw [aJ]; omega)]
    obtain ⟨d, g⟩ := n
    rw [show Int.toNat (a - k) = Int.toNat (a - ((k + 1 : Nat) : Int)) + 1 by omega, List.eraseIdx_cons_succ]
    simp
   ·rw [bA n, bA (by unfold zd at *; rw [aJ]; omega)]
    simp
theorem RM (l : List ll) (a : Int) (h : l.length ≤ 1000000) : yE l a = some (wq l a) := by
 unfold yE
 rw [Ig a l 0 [] (by simp; omega)]
 simp
theorem P3 (p : mw) (h : PL p) (e i : Int) : uS p e i = some (rn p e i) := by
 have h1 := h.lo
 have g := h.lc
 unfold uS rn
 by_cases a : e = 0
 ·subst a
  have q : ((0 : Int) == 1) = false := rfl
  simp only [bD, aM, q, aB, aG]
  rw [RM _ _ (by omega)]
  rfl
 ·have q : (e == 0) = false := by simpa using a
  simp only [q, aB, aG, a, aA]
  by_cases b : e = 1
  ·subst b
   simp only [bD, aM]
   rw [RM _ _ (by omega)]
   rfl
  ·have d : (e == 1) = false := by simpa using b
   simp only [d, aB, aG, b, aA]
end Go.Proofs.YtklbhegeiijbjaaGreat
namespace Go.Proofs.YtklbhegeiijbjaaGreat
open Go.RowKit
noncomputable def wx (p : mw) (e : Int) : List ll → Nat → List mN
 | [], _ => []
 | _ :: l, k => (if yk (rn p e k) then [] else [⟨e, (k : Int)⟩]) ++ wx p e l (k + 1)
theorem IC (p : mw) (e : Int) : ∀ (l : List ll) (k : Nat), (wx p e l k).length ≤ l.length
 | [], _ => by simp [wx]
 | _ :: l, k => by
  have := IC p e l (k + 1)
  rw [wx, aF, aJ]
  split <;> simp <;> omega
theorem PW {l m : List mN} (h : l.length + m.length ≤ 1000000) : nJ 16 l m = some (l ++ m) := nU (by omega) (by omega)
theorem Gm (p : mw) (h : PL p) (e : Int) : ∀ (l : List ll) (k : Nat) (acc : List mN), acc.length + l.length ≤ 500000 → qH p e l k acc = some (acc ++ wx p e l k)
 | [], k, acc, _ => by rw [qH, wx, bJ]
 | x :: l, k, acc, a => by
  rw [aJ] at a
  rw [qH, G3 p h, aA, (xW (h.drop e k)).1, aA, wx]
  cases yk (rn p e k)
  ·simp only [dA, aM, aB, aG]
   rw [PW (by simp; omega), aA, Gm p h e l (k + 1) _ (by simp; omega), aN]
  ·simp only [cA, aB, aG, aM, bI]
   exact Gm p h e l (k + 1) acc (by omega)
theorem Gk (p : mw) (h : PL p) (e : Int) : ∀ (l : List ll) (k : Nat) (acc : List mN), acc.length + l.length ≤ 500000 → qD p e l k acc = some (acc ++ wx p e l k)
 | [], k, acc, _ => by rw [qD, wx, bJ]
 | x :: l, k, acc, a => by
  rw [aJ] at a
  rw [qD, G3 p h, aA, (xW (h.drop e k)).1, aA, wx]
  cases yk (rn p e k)
  ·simp only [dA, aM, aB, aG]
   rw [PW (by simp; omega), aA, Gk p h e l (k + 1) _ (by simp; omega), aN]
  ·simp only [cA, aB, aG, aM, bI]
   exact Gk p h e l (k + 1) acc (by omega)
noncomputable def Mm (p : mw) : List mN := if yk p then wx p 0 p.kD.kO 0 ++ wx p 1 p.Client.kO 0 else []
theorem Ts (p : mw) (h : PL p) : vS p = some (Mm p) := by
 have h1 := h.lo
 have g := h.lc
 unfold vS Mm
 rw [(xW h).1, aA]
 cases yk p
 ·rfl
 ·simp only [cA, aB, aG, aM]
  have i := IC p 0 p.kD.kO 0
  obtain ⟨n, a⟩ : ∃ n, lB = n + 3 := ⟨18446744073709551613, by rw [nh]⟩
  rw [a]
  generalize n = n
  have b : pu p 0 = some 0 := rfl
  have d : pu p 1 = some 3 := rfl
  rw [pP, aY (by decide), b, aA, aY (by decide), Gm p h 0 _ _ _ (by simp; omega), aA, bI]
  rw [show IntKind.i64.wrap ((0 : Int) + 1) = 1 from rfl, pP, aY (by decide), d, aA, bA (by decide), Gk p h 1 _ _ _ (by omega), aA]
  rw [show IntKind.i64.wrap ((1 : Int) + 1) = 2 from rfl, pP, bA (by decide)]
theorem JQ (f : Formula) : rk f f = true := Af.2 rfl
theorem QV (x : ll) (h : Gd x.kH) : zQ x x = some true := by
 unfold zQ
 rw [aY (ol.2 rfl)]
 simp only [aA]
 rw [aY (nm.2 rfl), Gh _ _ h, JQ]
 rfl
theorem IS (p : lI) (b : ∀ a ∈ p.lg, Gd a.kH) : ∀ (A l : List nE), p.lg = A ++ l → tQ p l A.length = some (Sum.inr ())
 | A, [], _ => by rw [tQ]
 | A, x :: l, e => by
  rw [tQ, e, nR A x l _ rfl, aA]
  have d : lu x.kC x.kC = true := lx.2 rfl
  simp only [d, cA, aB, aG]
  rw [Gh _ _ (b x (by rw [e]; simp)), JQ]
  simp only [aA, cA, aB, aG]
  rw [Tm]
  simp only [aA, cA, aB, aG]
  have := IS p b (A ++ [x]) l (by rw [e]; simp)
  rw [aF] at this
  exact this
theorem IY (p : lI) (b : ∀ x ∈ p.kO, Gd x.kH) (d : ∀ a ∈ p.lg, Gd a.kH) : ∀ (A l : List ll), p.kO = A ++ l → tI p p l A.length = some true
 | A, [], _ => by
  rw [tI, show (0 : Nat) = ([] : List nE).length from rfl, IS p d [] p.lg rfl]; rfl
 | A, x :: l, e => by
  rw [tI, e, nR A x l _ rfl, aA, QV x (b x (by rw [e]; simp)), aA]
  simp only [cA, aB, aG]
  have := IY p b d (A ++ [x]) l (by rw [e]; simp)
  rw [aF] at this
  exact this
theorem OA (p : lI) (h : PB p) : xu p p = some true := by
 unfold xu
 have b : mu p.Name p.Name = true := nm.2 rfl
 simp only [b, cA, aB, aG, aA, bne_self_eq_false]
 exact IY p (fun x a => by have := h.rel x a; unfold Gd; omega) (fun x a => by have := h.Gs x a; unfold Gd; omega) [] p.kO rfl
theorem NY (p : mw) (h : PL p) : xK p p = some true := by
 unfold xK
 rw [OA _ h.o, aA, aY rfl, OA _ h.c]
 rfl
end Go.Proofs.YtklbhegeiijbjaaGreat
namespace Go.Proofs.YtklbhegeiijbjaaGreat
open Go.RowKit
noncomputable def shr (e : Int) : Nat → mw → mw
 | 0, p => p
 | k + 1, p => shr e k (if yk (rn p e k) then rn p e k else p)
theorem Hl (e : Int) : ∀ (k : Nat) (p : mw), PL p → PL (shr e k p)
 | 0, p, h => h
 | k + 1, p, h => by
  rw [shr]
  split
  ·exact Hl e k _ (h.drop e k)
  ·exact Hl e k _ h
theorem DV (p : mw) : (⟨⟨p.kD.Name, p.kD.kO, p.kD.lg⟩, ⟨p.Client.Name, p.Client.kO, p.Client.lg⟩, ⟨p.Formula.Op, p.Formula.K, p.Formula.kC, p.Formula.Kids⟩, p.nZ, p.mh, p.my, p.nx, p.mU, p.Keys⟩ : mw) = p := by
 rw [M8]
def M2 (p : mw) : ByteArray × List ll × List nE × ByteArray × List ll × List nE × Int × Int × kC × List Formula × Int × mN × Int × Int × Int × List Key :=
 (p.kD.Name, p.kD.kO, p.kD.lg, p.Client.Name, p.Client.kO, p.Client.lg, p.Formula.Op, p.Formula.K, p.Formula.kC, p.Formula.Kids, p.nZ, p.mh, p.my, p.nx, p.mU, p.Keys)
theorem KN : ∀ (k n : Nat) (p : mw), PL p → k < n → k ≤ 30000 → qF n ((k : Int) - 1) p.kD.Name p.kD.kO p.kD.lg p.Client.Name p.Client.kO p.Client.lg p.Formula.Op p.Formula.K p.Formula.kC p.Formula.Kids p.nZ p.mh p.my p.nx p.mU p.Keys = some (M2 (shr 0 k p))
 | k, 0, p, _, a, _ => absurd a (by omega)
 | 0, n + 1, p, _, _, _ => by rw [qF, bA (by decide)]; rfl
 | k + 1, n + 1, p, h, a, hk => by
  rw [qF, aY (by rw [bK]; omega), DV, show ((k + 1 : Nat) : Int) - 1 = (k : Int) by omega, G3 p h, aA, (xW (h.drop 0 k)).1, aA, me (by omega) (by omega), shr]
  cases yk (rn p 0 k)
  ·simp only [aB, aG, aA]
   exact KN k n p h (by omega) (by omega)
  ·simp only [aM, aA]
   exact KN k n _ (h.drop 0 k) (by omega) (by omega)
theorem JJ : ∀ (k n : Nat) (p : mw), PL p → k < n → k ≤ 30000 → qz n ((k : Int) - 1) p.kD.Name p.kD.kO p.kD.lg p.Client.Name p.Client.kO p.Client.lg p.Formula.Op p.Formula.K p.Formula.kC p.Formula.Kids p.nZ p.mh p.my p.nx p.mU p.Keys = some (shr 0 (shr 1 k p).kD.kO.length (shr 1 k p), true)
 | k, 0, p, _, a, _ => absurd a (by omega)
 | 0, n + 1, p, h, _, _ => by
  have b := h.lo
  rw [qz, bA (by decide), DV]
  have d : pu p 0 = some 0 := rfl
  rw [d, aA, me (by omega) (by omega), KN _ lB p h (by rw [nh]; omega) b, aA]
  unfold M2
  simp only [DV]
  rfl
 | k + 1, n + 1, p, h, a, hk => by
  rw [qz, aY (by rw [bK]; omega), DV, show ((k + 1 : Nat) : Int) - 1 = (k : Int) by omega, G3 p h, aA, (xW (h.drop 1 k)).1, aA, me (by omega) (by omega), shr]
  cases yk (rn p 1 k)
  ·simp only [aB, aG, aA]
   exact JJ k n p h (by omega) (by omega)
  ·simp only [aM, aA]
   exact JJ k n _ (h.drop 1 k) (by omega) (by omega)
noncomputable def Mn (p : mw) : mw := shr 0 (shr 1 p.Client.kO.length p).kD.kO.length (shr 1 p.Client.kO.length p)
theorem Li (p : mw) (h : PL p) : uE p = some (if yk p then (Mn p, true) else (p, false)) := by
 have a := h.lc
 unfold uE
 rw [(xW h).1, aA]
 cases yk p
 ·rfl
 ·simp only [cA, aB, aG, aM]
  have b : pu p 1 = some 3 := rfl
  rw [b, aA, me (by omega) (by omega), JJ _ lB p h (by rw [nh]; omega) a]
  rfl
theorem Ih : ∀ (k n : Nat) (p : mw), PL p → k < n → k ≤ 30000 → qy n ((k : Int) - 1) p.kD.Name p.kD.kO p.kD.lg p.Client.Name p.Client.kO p.Client.lg p.Formula.Op p.Formula.K p.Formula.kC p.Formula.Kids p.nZ p.mh p.my p.nx p.mU p.Keys = some (M2 (shr 0 k p))
 | k, 0, p, _, a, _ => absurd a (by omega)
 | 0, n + 1, p, _, _, _ => by rw [qy, bA (by decide)]; rfl
 | k + 1, n + 1, p, h, a, hk => by
  rw [qy, aY (by rw [bK]; omega), DV, show ((k + 1 : Nat) : Int) - 1 = (k : Int) by omega, P3 p h, aA, (xW (h.drop 0 k)).2, aA, me (by omega) (by omega), shr]
  cases yk (rn p 0 k)
  ·simp only [aB, aG, aA]
   exact Ih k n p h (by omega) (by omega)
  ·simp only [aM, aA]
   exact Ih k n _ (h.drop 0 k) (by omega) (by omega)
theorem Ip : ∀ (k n : Nat) (p : mw), PL p → k < n → k ≤ 30000 → qE n ((k : Int) - 1) p.kD.Name p.kD.kO p.kD.lg p.Client.Name p.Client.kO p.Client.lg p.Formula.Op p.Formula.K p.Formula.kC p.Formula.Kids p.nZ p.mh p.my p.nx p.mU p.Keys = some (shr 0 (shr 1 k p).kD.kO.length (shr 1 k p))
 | k, 0, p, _, a, _ => absurd a (by omega)
 | 0, n + 1, p, h, _, _ => by
  have b := h.lo
  rw [qE, bA (by decide)]
  rw [me (by omega) (by omega), Ih _ lB p h (by rw [nh]; omega) b, aA]
  unfold M2
  simp only [DV]
  rfl
 | k + 1, n + 1, p, h, a, hk => by
  rw [qE, aY (by rw [bK]; omega), DV, show ((k + 1 : Nat) : Int) - 1 = (k : Int) by omega, P3 p h, aA, (xW (h.drop 1 k)).2, aA, me (by omega) (by omega), shr]
  cases yk (rn p 1 k)
  ·simp only [aB, aG, aA]
   exact Ip k n p h (by omega) (by omega)
  ·simp only [aM, aA]
   exact Ip k n _ (h.drop 1 k) (by omega) (by omega)
theorem Qo (p : mw) (h : PL p) : yc p = some (Mn p) := by
 have a := h.lc
 unfold yc
 rw [me (by omega) (by omega), Ip _ lB p h (by rw [nh]; omega) a]
 rfl
theorem FK (d : wK = some true) (p : mw) (hp : PQ p) : uo p = some true := by
 obtain ⟨g, b, i⟩ := Ul p hp
 unfold uo
 rw [d, b]
 simp only [aA, cA, aB, aG]
 by_cases a : g > 4000
 ·simp only [a, bZ, aM]
 ·simp only [a, cC, aB, aG]
  have h : PL p := ⟨hp.o.toPB, hp.c.toPB, by omega, by omega, by have := hp.f; unfold Gd; omega⟩
  rw [Li p h, aA, (xW h).2, aA]
  cases yk p
  ·simp only [dA, aM, aB, aG]
   rw [NY p h]; rfl
  ·simp only [cA, aB, aG, aM]
   rw [Qo p h, aA, NY (Mn p) (Hl _ _ _ (Hl _ _ _ h))]; rfl
end Go.Proofs.YtklbhegeiijbjaaGreat
namespace Go.Proofs.YtklbhegeiijbjaaGreat
open Go.RowKit
def sD : kE := ⟨1, sZ, M3, ⟨zS, zS⟩, ⟨zS, zS⟩, zS⟩
def Bc (l : List kE) : List ll := l.map fun c => B9 c tU
def lP (l : List kE) : mw := ⟨⟨Rx, [], []⟩, ⟨M3, Bc l, []⟩, GN sY, 0, ⟨0, 0⟩, 0, 0, 0, []⟩
theorem Uq : mR sD = true := by decide +kernel
theorem TM : sZ ≠ sY := fun h => absurd (bM (fun c => c.kJ.data.toList) h) (by decide)
theorem TI : sc ≠ sD := fun h => TM (bM (fun c => c.Head) h).symm
theorem Nq {n : ByteArray} {l : List kE} {k : List nE} {d : kE} : Eu ⟨n, Bc l, k⟩ d ↔ d ∈ l := by
 rw [Oe]
 unfold Bc
 rw [fI]
 have : ((fun x : ll => x.Signed.kE) ∘ fun c => B9 c tU) = id := rfl
 rw [this, List.map_id]
theorem NR : ∀ (l : List kE) (d : kE), d ∈ l → Mv (Bc l) d = some tU
 | [], d, h => by cases h
 | c :: l, d, h => by
  have ih := NR l d
  unfold Mv Bc at *
  rw [bP, gP, show (B9 c tU).Signed.kE = c from rfl]
  cases e : nc c d
  ·have : d ≠ c := fun he => by rw [he, ol.2 rfl] at e; cases e
   exact ih ((aQ.1 h).resolve_left this)
  ·rfl
theorem NM {n : ByteArray} {l : List kE} (a : ∀ c ∈ l, mR c = true) (m : List kE) (peer : ByteArray) (d : kE) : ud ⟨n, Bc l, []⟩ m peer d ↔ d ∈ l := by
 unfold ud
 rw [Nq]
 refine ⟨fun h => h.1, fun h => ⟨h, a d h, ?_⟩⟩
 unfold No
 rw [N7, NR l d h]
 simp only [Qs]
 unfold xP
 rw [show oM tU = true by decide +kernel, wL]
 rfl
theorem NG {n : ByteArray} {l : List kE} (h : l.length ≤ 100) : PB ⟨n, Bc l, []⟩ where
 DR := by simp [Bc]; omega
 H2 := by simp
 rel := fun x a => by
  obtain ⟨c, _, rfl⟩ := bO.1 a
  exact Mo
 Gs := fun x a => by cases a
 PV := fun x a => by cases a
theorem Jv {l : List kE} (h : l.length ≤ 100) : PL (lP l) where
 o := by
  have := NG (n := Rx) (l := []) (by simp)
  exact this
 c := NG h
 lo := by simp [lP]
 lc := by simp [lP, Bc]; omega
 f := by show lY (GN sY) ≤ 50000000; decide +kernel
theorem Jo {l : List kE} (k : l.length ≤ 100) (hm : ∀ c ∈ l, c = sc ∨ c = sD) (m : l.Nodup) : yk (lP l) = sv nc l sc ∧ tX (lP l) = some (l.length : Int) := by
 have n : ∀ c ∈ l, mR c = true := fun c a => by rcases hm c a with rfl | rfl; exact Tv; exact Uq
 have b := Jv k
 obtain ⟨x, y, j, e, F, g, s⟩ := Lq (lP l).kD (lP l).Client (lP l).Formula b.o b.c b.lo b.lc b.f
 have d : ∀ c, c ∈ y ↔ c ∈ l := fun c => by rw [F.fy c]; exact NM n _ _ _
 have p : x = [] := List.eq_nil_iff_forall_not_mem.2 (fun c a => by
  have := ((F.fx c).1 a).1
  obtain ⟨z, q, _⟩ := this
  cases q)
 constructor
 ·unfold yk
  rw [g]
  show xP (vD y M3) (GN sY) = _
  unfold xP
  rw [RJ, eO, QE, bT, tg ol]
  constructor
  ·intro h
   rw [E4] at h
   obtain ⟨c, a, i⟩ := h.head
   have h1 := (d c).1 (cH.1 a).1
   rcases hm c h1 with rfl | rfl
   ·exact h1
   ·exact absurd i TM
  ·intro h
   exact Sa Tv rfl ((d sc).2 h)
 ·unfold tX
  rw [e, aA, p]
  have r : y.length ≤ l.length := nk F.sy.nodup (fun c a => (d c).1 a)
  have a2 : l.length ≤ y.length := nk m (fun c a => (d c).2 a)
  rw [show y.length = l.length by omega]
  congr 1
  rw [me (by simp) (by simp; omega)]
  simp
theorem RO : yk (lP [sc, sD]) = true ∧ tX (lP [sc, sD]) = some 2 := by
 have := Jo (l := [sc, sD]) (by simp) (by simp) (by simp [TI])
 rw [this.1, this.2]
 exact ⟨(tg ol _ sc).2 (by simp), rfl⟩
theorem SA : yk (lP [sc]) = true ∧ tX (lP [sc]) = some 1 := by
 have := Jo (l := [sc]) (by simp) (by simp) (by simp)
 rw [this.1, this.2]
 exact ⟨(tg ol _ sc).2 (by simp), rfl⟩
theorem T9 : yk (lP [sD]) = false := by
 have := Jo (l := [sD]) (by simp) (by simp) (by simp)
 rw [this.1, ← fT, tg ol]; simp [TI]
theorem Uu : yk (lP []) = false := by
 have := Jo (l := []) (by simp) (by simp) (by simp)
 rw [this.1, ← fT, tg ol]; simp
theorem TG : rn (lP [sc, sD]) 1 0 = lP [sD] := by
 unfold rn wq
 rw [bA (by decide), aY rfl, aY (by unfold zd lP Bc; simp)]
 rfl
theorem Tw : rn (lP [sc, sD]) 1 1 = lP [sc] := by
 unfold rn wq
 rw [bA (by decide), aY rfl, aY (by unfold zd lP Bc; simp)]
 rfl
theorem Ux : rn (lP [sc]) 1 0 = lP [] := by
 unfold rn wq
 rw [bA (by decide), aY rfl, aY (by unfold zd lP Bc; simp)]
 rfl
theorem Tp : vS (lP [sc, sD]) = some [⟨1, 0⟩] := by
 rw [Ts _ (Jv (by simp))]
 unfold Mm
 rw [RO.1, aY rfl]
 show some (wx (lP [sc, sD]) 0 [] 0 ++ wx (lP [sc, sD]) 1 [B9 sc tU, B9 sD tU] 0) = _
 simp only [wx]
 rw [show rn (lP [sc, sD]) 1 ((0 : Nat) : Int) = _ from TG, show rn (lP [sc, sD]) 1 ((0 + 1 : Nat) : Int) = _ from Tw, T9, SA.1]
 rfl
theorem Qj : uE (lP [sc, sD]) = some (lP [sc], true) := by
 rw [Li _ (Jv (by simp)), RO.1, aY rfl]
 have : shr 1 2 (lP [sc, sD]) = lP [sc] := by
  rw [shr, show rn (lP [sc, sD]) 1 ((1 : Nat) : Int) = _ from Tw, SA.1, aY rfl, shr, show rn (lP [sc]) 1 ((0 : Nat) : Int) = _ from Ux, Uu]
  rfl
 unfold Mn
 rw [show (lP [sc, sD]).Client.kO.length = 2 from rfl, this]
 rfl
theorem QL : wK = some true := by
 have d : Fg 1 (0 : Int) 8 = some (List.replicate 8 0) := by unfold Fg; rw [aY (by decide)]; rfl
 have k : pC sc = some (B9 sc tU) := by unfold pC; rw [d]; rfl
 have l : pC sD = some (B9 sD tU) := by unfold pC; rw [d]; rfl
 have a : pC (⟨1, (⟨(⟨#[120]⟩ : ByteArray), (⟨#[121]⟩ : ByteArray)⟩ : kC), (⟨#[99, 108, 105]⟩ : ByteArray), (⟨zS, zS⟩ : kC), (⟨zS, zS⟩ : kC), zS⟩ : kE) = _ := k
 have b : pC (⟨1, (⟨(⟨(⟨#[120]⟩ : ByteArray), (⟨#[121]⟩ : ByteArray)⟩ : kC).kD, (⟨#[122]⟩ : ByteArray)⟩ : kC), (⟨#[99, 108, 105]⟩ : ByteArray), (⟨zS, zS⟩ : kC), (⟨zS, zS⟩ : kC), zS⟩ : kE) = _ := l
 unfold wK
 rw [a, aA, b, aA, aA]
 simp only
 have j : sd (lP [sc, sD]) 1 0 = some (lP [sD]) := by rw [G3 _ (Jv (by simp)), TG]
 rw [show (⟨⟨(⟨#[111, 119, 110]⟩ : ByteArray), [], []⟩, ⟨(⟨#[99, 108, 105]⟩ : ByteArray), [B9 sc tU, B9 sD tU], []⟩, ⟨1, 0, (⟨(⟨#[120]⟩ : ByteArray), (⟨#[121]⟩ : ByteArray)⟩ : kC), []⟩, 0, (⟨0, 0⟩ : mN), 0, 0, 0, []⟩ : mw) = lP [sc, sD] from rfl]
 rw [Tp, aA, Qj, aA, RO.2, SA.2, j]
 have g : zw (⟨1, 0⟩ : mN) ⟨1, 0⟩ = true := Io.2 rfl
 have h : mQ (lP [sc]).Client.kO 0 = some (B9 sc tU) := rfl
 have i : nc (B9 sc tU).Signed.kE sc = true := ol.2 rfl
 rw [show mQ [(⟨1, 0⟩ : mN)] 0 = some ⟨1, 0⟩ from rfl]
 simp only [aA, aJ, bU]
 rw [g, h]
 simp only [aA]
 rw [show (⟨1, (⟨(⟨#[120]⟩ : ByteArray), (⟨#[121]⟩ : ByteArray)⟩ : kC), (⟨#[99, 108, 105]⟩ : ByteArray), (⟨zS, zS⟩ : kC), (⟨zS, zS⟩ : kC), zS⟩ : kE) = sc from rfl, i]
 rfl
end Go.Proofs.YtklbhegeiijbjaaGreat
namespace Go.Proofs.YtklbhegeiijbjaaGreat
open Go.RowKit
theorem qK.take {s : List kE} (h : qK s) (n : Nat) : qK (s.take n) := ⟨h.1.sublist (List.take_sublist n s), fun c a => h.2 c (List.mem_of_mem_take a)⟩
end Go.Proofs.YtklbhegeiijbjaaGreat
namespace Go.Proofs.YtklbhegeiijbjaaGreat
open Go.RowKit
theorem bb {α β γ : Type} (x : Option α) (f : α → Option β) (g : β → Option γ) : (x.bind fun a => (f a).bind g) = (x.bind f).bind g := by cases x <;> rfl
end Go.Proofs.YtklbhegeiijbjaaGreat
namespace Go.Proofs.YtklbhegeiijbjaaGreat.Lf
open Go.ChangeShapes Go.WideShapes Go.ChangeAt Go.RowKit
open Go.Proofs.YtklbhegeiijbjaaGreat (Rows.uptoBulk Rows.uptoBulkAll Rows.uptoSmall)
theorem SB {H : Type} (d : DataW H) : 1 ≤ Rows.uptoBulk d := by
 cases d with
 | lit l => cases l <;> simp [Rows.uptoBulk]
 | nil => simp [Rows.uptoBulk]
 | ptr d => simp [Rows.uptoBulk]
 | slice a spare => simp [Rows.uptoBulk]
 | agg parts => simp [Rows.uptoBulk]
 | iface t d => simp [Rows.uptoBulk]
 | map entries => simp [Rows.uptoBulk]
 | held h => simp [Rows.uptoBulk]
def HK {α : Type} (P : Program) (t : TypeId) (enc : α → List Value) (sz : α → Nat) : Prop :=
 ∀ (H : Type) (b : TypeId × Value → H) (W : World) (base : Nat) (sp : Nat → Bool) (d : Bool) (fuel : Nat) (cs : List Value) (x : DataW H × List MemPlace),
  DataW.trod b P W base sp d fuel t cs = some x → ∃ a : α, cs = enc a ∧ sz a ≤ Rows.uptoBulk x.1
theorem My {P : Program} {t : TypeId} (a : P.underlying t = some .string) : HK P t (fun s : ByteArray => [.string s]) (fun s => s.size) := by
 intro H b W base sp d fuel cs x h
 obtain ⟨s, rfl, rfl, _⟩ := DataW.trod_string a h
 refine ⟨s, rfl, ?_⟩
 have e : s.data.toList.length = s.size := by rw [dH]; rfl
 simp [Rows.uptoBulk, e]
theorem QP {P : Program} {t : TypeId} {k : IntKind} (a : P.underlying t = some (.int k)) : HK P t (fun n : Int => [.int k n]) (fun _ => 0) := by
 intro H b W base sp d fuel cs x h
 obtain ⟨n, rfl, rfl, _⟩ := DataW.trod_int a h
 exact ⟨n, rfl, fK _⟩
theorem Q3 {α : Type} {n : Nat} {p : Nat → α → Prop} (h : ∀ i, i < n → ∃ x, p i x) : ∃ l : List α, l.length = n ∧ ∀ i x, l[i]? = some x → p i x := by
 induction n with
 | zero => exact ⟨[], rfl, by simp⟩
 | succ n ih =>
  obtain ⟨l, h1, d⟩ := ih fun i b => h i (by omega)
  obtain ⟨x, j⟩ := h n (by omega)
  refine ⟨l ++ [x], by simp [h1], fun i y a => ?_⟩
  by_cases b : i < l.length
  ·rw [iJ b] at a
   exact d i y a
  ·rw [fU (by omega)] at a
   have : i - l.length = 0 := by
    cases g : i - l.length with
    | zero => rfl
    | succ m => rw [g] at a; simp at a
   rw [this] at a
   have e : i = n := by omega
   simp at a
   subst a; rw [e]; exact j
theorem J2 {W : World} {a : Addr} {v : Value} (h : W.cell? a = some v) : ∃ cs T fr, W.heap[a.block]? = some (.cells cs T fr) ∧ a.spot = none ∧ cs[a.off]? = some v := by
 unfold World.cell? at h
 split at h
 ·rename_i c T fr d
  by_cases b : a.spot.isSome
  ·simp [b] at h
  ·simp only [b] at h
   exact ⟨c, T, fr, d, by simpa using b, by simpa using h⟩
 ·cases h
theorem Ex.below {dd : Bool} {W W' : World} (h : Ex dd W W') : Below W.heap.size W W' := ⟨h.os, h.tape, h.output, h.size, h.nI⟩
theorem Ek {H : Type} {k : TypeId × Value → H} {P : Program} (m : laidOutB P = true) {W W' : World} {b : Nat → Bool} :
  ∀ {i : List TypeId} {vs : List Value} {ds : List (DataW H)} {g : List MemPlace}, (∀ t ∈ i, P.readableRec t = true ∧ t < P.types.size) →
   DataW.TrodAll k P W 0 (fun _ => true) true i vs ds g → (∀ p ∈ g, W.sameAt W' p) → (∀ p ∈ g, b p.block = true) → DataW.TrodAll k P W' 0 b true i vs ds g
 | [], _, _, _, _, h, _, _ => by
  obtain ⟨rfl, rfl, rfl⟩ := trodAll_nil h
  exact trodAll_mk0
 | t :: i, _, _, _, j, h, h1, l => by
  obtain ⟨v, vs, d, ds, p, q, rfl, rfl, rfl, n, r⟩ := trodAll_cons h
  exact trodAll_cons_mk (WideElems.Trod_stays m (j t (by simp)).1 (j t (by simp)).2 n (fun x a => h1 x (by simp [a])) (fun x a => l x (by simp [a])))
   (Ek m (fun u hu => j u (by simp [hu])) r (fun x a => h1 x (by simp [a])) (fun x a => l x (by simp [a])))
theorem Mr {H : Type} {enc : TypeId × Value → H} {P : Program} (J : laidOutB P = true) {f : Func} {s : ChangeSpec} {apart fresh handsOn again : Bool} {W W' : World} {args : Array Value} {v : Value} {ds gs : List (DataW H)} {before : List MemPlace} (M : ∀ t ∈ f.params.toList, P.readableRec t = true ∧ t < P.types.size) (m : s.vars = []) (u : DataW.Whole enc P f.params.toList s.vars apart W args.toList ds gs before) {dd : Bool} (E : Ex dd W W') (a : ∀ (b : Nat) (sp : Nat → Bool) (I : Bool), DataW.TrodAll enc P W' b sp I f.resultTypes.toList (v.resultList f.resultTypes.size) (s.fn H (ds ++ gs)).results []) (d : (s.fn H (ds ++ gs)).args = ds) (h : (s.fn H (ds ++ gs)).vars = []) (A : ∀ (j : Nat) (t : TypeId) (r : Value), f.resultTypes[j]? = some t → (v.resultList f.resultTypes.size)[j]? = some r → Value.okWide P W' .any 0 t r) :
  s.post enc P f apart fresh handsOn again W args v W' := by
 have g := u.lt
 have hold : ∀ p ∈ before, (fun b => decide (b < W.heap.size)) p.block = true := fun p hp => by simpa using g p hp
 have z := Ex.below E
 have y := u
 obtain ⟨p, q, G, F, k, O, L⟩ := u
 rw [m] at F
 obtain ⟨rfl, rfl⟩ := trodVars_none F
 rw [bJ] at k
 subst k
 have l : ∀ sp : Nat → Bool, (∀ p ∈ before, sp p.block = true) → DataW.TrodAll enc P W' 0 sp true f.params.toList args.toList (s.fn H (ds ++ [])).args before := fun sp D => by
  rw [d]
  exact Ek J M G (fun x E => z.same (g x E)) D
 have n : ∀ sp : Nat → Bool, DataW.TrodVars enc P W' sp s.vars (s.fn H (ds ++ [])).vars [] := fun sp => by
  rw [h, m]; rfl
 refine ⟨ds, [], before, [], before, [], y, a _ _ _, l _ hold, n _, World.keptBut_mono (fun p hp => ⟨hp, ?_⟩) (z.frame (· ∈ before)), fun _ => ?_⟩
 ·exact Or.inr (Or.inl hp)
 ·refine ⟨A, _, _, ([] ++ before) ++ [], ⟨[] ++ before, [], trodAll_append (l _ (fun _ _ => rfl)) (a _ _ _), n _, rfl, ?_, ?_⟩, ?_⟩
  ·intro b off hp
   have i : MemPlace.cell b off ∈ before := by simpa using hp
   rw [World.frozen?_of_block (w := W) (z.block b (g _ i))]
   exact O b off i
  ·intro ha
   simpa using L ha
  ·intro p hp _
   simpa using hp
end Go.Proofs.YtklbhegeiijbjaaGreat.Lf
namespace Go.Proofs.YtklbhegeiijbjaaGreat.Lf
open Go.ChangeShapes Go.WideShapes Go.ChangeAt Go.RowKit
open Go.Proofs.YtklbhegeiijbjaaGreat (Rows.uptoBulk Rows.uptoBulkAll Rows.uptoSmall)
def Fq {α : Type} (P : Program) (t : TypeId) (R : rq α) (sz : α → Nat) : Prop :=
 ∀ (H : Type) (b : TypeId × Value → H) (W : World) (base : Nat) (sp : Nat → Bool) (d : Bool) (fuel : Nat) (cs : List Value) (x : DataW H × List MemPlace),
  DataW.trod b P W base sp d fuel t cs = some x → ∃ a : α, R (hp W) cs a ∧ sz a ≤ Rows.uptoBulk x.1
theorem HK.rel {α : Type} {P : Program} {t : TypeId} {enc : α → List Value} {sz : α → Nat} (h : HK P t enc sz) : Fq P t (Pl enc) sz := fun H a W base sp b fuel cs x d => h H a W base sp b fuel cs x d
end Go.Proofs.YtklbhegeiijbjaaGreat.Lf
namespace Go.Proofs.YtklbhegeiijbjaaGreat.Lf
open Go.ChangeShapes Go.WideShapes Go.ChangeAt Go.RowKit
open Go.Proofs.YtklbhegeiijbjaaGreat (Rows.uptoBulk Rows.uptoBulkAll Rows.uptoSmall)
theorem Gc {H : Type} : ∀ l : List (DataW H), Rows.uptoBulkAll l = (l.map Rows.uptoBulk).sum
 | [] => by simp [Rows.uptoBulkAll]
 | d :: l => by simp [Rows.uptoBulkAll, Gc l]
theorem NT {α : Type} (g : α → Nat) : ∀ (n : Nat) (f : Nat → Nat) {l : List α}, l.length = n → (∀ i x, l[i]? = some x → g x ≤ f i) → (l.map g).sum ≤ ((List.range n).map f).sum
 | 0, f, l, b, h => by
  obtain rfl := eZ.1 b
  simp
 | n + 1, f, [], b, h => by cases b
 | n + 1, f, a :: l, b, h => by
  rw [List.range_succ_eq_map, bP, bP, gJ, gJ, fI]
  have h1 := h 0 a rfl
  have j := NT g n (f ∘ Nat.succ) (l := l) (by simpa using b) (fun i x d => h (i + 1) x (by simpa using d))
  omega
def tz {α : Type} (sz : α → Nat) (l : List α) : Nat := (l.map fun a => max 1 (sz a)).sum
theorem Ds {α : Type} (sz : α → Nat) : ∀ l : List α, l.length ≤ tz sz l
 | [] => aZ _
 | a :: l => by have := Ds sz l; simp only [tz, bP, gJ, aJ] at this ⊢; omega
theorem HG {α : Type} {sz : α → Nat} : ∀ {l : List α} {a : α}, a ∈ l → sz a ≤ tz sz l
 | b :: l, a, h => by
  simp only [tz, bP, gJ]
  rcases aQ.1 h with rfl | h
  ·omega
  ·have := HG (sz := sz) h; simp only [tz] at this; omega
theorem FW {α : Type} {P : Program} {t e : TypeId} {k : Nat} {R : rq α} {sz : α → Nat} (hk : P.cellsOf e = k) (L : 0 < k) (ht : P.underlying t = some (.slice e)) {H : Type} {Y : TypeId × Value → H} {W : World} {base : Nat} {sp : Nat → Bool} {held : Bool} {fuel : Nat} {cs : List Value} {x : DataW H × List MemPlace} (hd : ∀ (fuel : Nat) (cs : List Value) (y : DataW H × List MemPlace), DataW.trod Y P W base sp held fuel e cs = some y → SizeOf.sizeOf y.1 < SizeOf.sizeOf x.1 → ∃ a : α, R (hp W) cs a ∧ sz a ≤ Rows.uptoBulk y.1) (hf : DataW.trod Y P W base sp held fuel t cs = some x) :
  ∃ v l, cs = [v] ∧ Sl R k (hp W) v l ∧ tz sz l ≤ Rows.uptoBulk x.1 := by
 rcases Go.Deep.open_slice ht hf with ⟨rfl, rfl⟩ | ⟨a, ln, cp, m, n, D, Q, rfl, hb, hl, hm, O, rfl, I⟩
 ·exact ⟨_, [], rfl, ⟨none, 0, rfl, aZ _, fK _, fun h => absurd h (Nat.lt_irrefl _)⟩, fK _⟩
 ·have aa : ln ≤ m := by rw [O]; split <;> omega
  have hB : ((List.range ln).map fun i => Rows.uptoBulk (D i)).sum ≤ Rows.uptoBulk (DataW.slice ((List.range ln).map D) ((List.range (m - ln)).map fun j => D (ln + j))) := by
   simp only [Rows.uptoBulk]
   rw [Gc, fI]
   have e : ((List.range ln).map fun i => Rows.uptoBulk (D i)) = (List.range ln).map (Rows.uptoBulk ∘ D) := rfl
   rw [e]
   omega
  have hS : ∀ i, i < ln → SizeOf.sizeOf (D i) < SizeOf.sizeOf (DataW.slice ((List.range ln).map D) ((List.range (m - ln)).map fun j => D (ln + j))) := fun i J => by
   have := List.sizeOf_lt_of_mem (bO.2 ⟨i, List.mem_range.2 J, rfl⟩ : D i ∈ (List.range ln).map D)
   rw [DataW.slice.sizeOf_spec]; omega
  simp only at hd ⊢
  generalize Rows.uptoBulk (DataW.slice ((List.range ln).map D) ((List.range (m - ln)).map fun j => D (ln + j))) = B at hB
  obtain ⟨l, M, s⟩ := Q3 (α := α) (n := ln) (p := fun i x => ∃ b, W.cells? base (a.add (i * k)) k = some b ∧ R (hp W) b x ∧ sz x ≤ Rows.uptoBulk (D i)) fun i J => by
   obtain ⟨b, h1, A⟩ := I i (by omega)
   obtain ⟨x, hR, E⟩ := hd _ _ _ A (hS i J)
   rw [hk] at h1
   exact ⟨x, b, h1, hR, E⟩
  subst M
  refine ⟨_, l, rfl, ⟨some a, cp, rfl, hl, hm, fun h0 => ?_⟩, ?_⟩
  ·have d : ∀ i x, l[i]? = some x → ∃ b, R (hp W) b x ∧ b.length = k ∧ ∀ j, j < k → W.cell? ((a.add (i * k)).add j) = b[j]? := fun i x u =>
    let ⟨b, h1, A, _⟩ := s i x u
    let ⟨_, E, Z⟩ := World.cells?_some h1
    ⟨b, A, E, Z⟩
   obtain ⟨a6, _, Z, h5⟩ := d 0 l[0] (by simp [h0])
   have F := h5 0 L
   rw [Nat.zero_mul, dB (by omega)] at F
   have e0 : (a.add 0).add 0 = a := rfl
   rw [e0] at F
   obtain ⟨cs, T, fr, G, h8, _⟩ := J2 F
   obtain ⟨w, z, a1⟩ := a
   simp only at G h8
   subst h8
   refine ⟨w, z, cs, T, fr, rfl, G, fun i x u => ?_⟩
   obtain ⟨b, gR, g1, g2⟩ := d i x u
   refine ⟨b, g1, gR, fun j y hy => ?_⟩
   have hj : j < k := by
    rw [← g1]
    exact (bN.1 hy).1
   have h9 := g2 j hj
   rw [Go.Deep.add_add, hy] at h9
   obtain ⟨U, T', a7, g, a8, q⟩ := J2 h9
   have r : (Addr.add ⟨w, z, none⟩ (i * k + j)).block = w ∧ (Addr.add ⟨w, z, none⟩ (i * k + j)).off = z + (i * k + j) := by
    unfold Addr.add
    split
    ·rename_i hz
     rw [hz]; exact ⟨rfl, rfl⟩
    ·exact ⟨rfl, rfl⟩
   rw [r.1, G] at g
   cases g
   rw [r.2, ← fH] at q
   exact q
  ·refine dE (NT _ _ _ rfl fun i x u => ?_) hB
   exact Nat.max_le.2 ⟨SB _, (s i x u).elim fun _ h => h.2.2⟩
theorem uv {α : Type} {P : Program} {t e : TypeId} {k : Nat} {R : rq α} {sz : α → Nat} (hk : P.cellsOf e = k) (a : 0 < k) (d : Fq P e R sz) (i : P.underlying t = some (.slice e)) {H : Type} {b : TypeId × Value → H} {W : World} {base : Nat} {sp : Nat → Bool} {held : Bool} {fuel : Nat} {cs : List Value} {x : DataW H × List MemPlace} (g : DataW.trod b P W base sp held fuel t cs = some x) :
  ∃ v l, cs = [v] ∧ Sl R k (hp W) v l ∧ tz sz l ≤ Rows.uptoBulk x.1 := FW hk a i (fun _ _ _ h _ => d _ _ _ _ _ _ _ _ _ h) g
end Go.Proofs.YtklbhegeiijbjaaGreat.Lf
namespace Go.Proofs.YtklbhegeiijbjaaGreat.Lf
open Go.ChangeShapes Go.WideShapes Go.ChangeAt Go.RowKit
open Go.Proofs.YtklbhegeiijbjaaGreat (Rows.uptoBulk Rows.uptoBulkAll Rows.uptoSmall)
def LY {α : Type} (R : rq α) (Q : α → Prop) : rq α := fun μ ys x => R μ ys x ∧ Q x
theorem Sl.all {α : Type} {R : rq α} {Q : α → Prop} {k : Nat} {μ : lO} {v : Value} {l : List α} (h : Sl (LY R Q) k μ v l) : Sl R k μ v l ∧ ∀ x ∈ l, Q x := by
 obtain ⟨A, c, rfl, h1, j, q⟩ := h
 cases l with
 | nil => exact ⟨⟨A, c, rfl, h1, j, fun h => absurd h (by simp)⟩, by simp⟩
 | cons a l =>
  obtain ⟨b, o, cs, T, fr, e, r, m⟩ := q (by simp)
  refine ⟨⟨A, c, rfl, h1, j, fun _ => ⟨b, o, cs, T, fr, e, r, fun i x g => ?_⟩⟩, fun x g => ?_⟩
  ·obtain ⟨ys, n, d, p⟩ := m i x g
   exact ⟨ys, n, d.1, p⟩
  ·obtain ⟨i, s⟩ := List.mem_iff_getElem?.1 g
   obtain ⟨ys, n, d, p⟩ := m i x s
   exact d.2
theorem QS {P : Program} {t : TypeId} (a : P.underlying t = some (.int .u8)) : Fq P t (LY (Pl (mK .u8)) (fun x => 0 ≤ x ∧ x < 256)) (fun _ => 0) := by
 intro H b W base sp d fuel cs x h
 obtain ⟨n, rfl, rfl, hw⟩ := DataW.trod_int a h
 refine ⟨n, ⟨rfl, ?_⟩, fK _⟩
 simp [Lit.wf, IntKind.min, IntKind.max, IntKind.bits, IntKind.signed] at hw
 omega
end Go.Proofs.YtklbhegeiijbjaaGreat.Lf
namespace Go.Proofs.YtklbhegeiijbjaaGreat
set_option maxRecDepth 10000
open Go.ChangeShapes Go.WideShapes Go.ChangeAt Go.RowKit
open Go.Proofs.YtklbhegeiijbjaaGreat Go.Proofs.YtklbhegeiijbjaaGreat.Lf
theorem Ri : Tryz.prog.cellsOf 93 = 18 := by kernel_rfl
theorem Rr {α : Type} {l : List α} (h : l.length = 9) : ∃ a0 a a2 a3 a4 a5 b d g, l = [a0, a, a2, a3, a4, a5, b, d, g] := by
 match l, h with
 | [a0, a, a2, a3, a4, a5, b, d, g], _ => exact ⟨a0, a, a2, a3, a4, a5, b, d, g, rfl⟩
theorem Th {α : Type} {l : List α} (h : l.length = 18) : ∃ a0 k a2 a3 a4 a5 m n p a9 a b a12 d g i j a17, l = [a0, k, a2, a3, a4, a5, m, n, p, a9, a, b, a12, d, g, i, j, a17] := by
 match l, h with
 | [a0, k, a2, a3, a4, a5, m, n, p, a9, a, b, a12, d, g, i, j, a17], _ => exact ⟨a0, k, a2, a3, a4, a5, m, n, p, a9, a, b, a12, d, g, i, j, a17, rfl⟩
theorem Re : Tryz.prog.cellsOf 25 = 3 := by kernel_rfl
theorem PM {α : Type} {l : List α} (h : l.length = 3) : ∃ a0 a a2, l = [a0, a, a2] := by
 match l, h with
 | [a0, a, a2], _ => exact ⟨a0, a, a2, rfl⟩
theorem EW : Tryz.prog.cellsOf 9 = 1 := by kernel_rfl
theorem Gt : HK Tryz.prog 9 (fun s : ByteArray => [.string s]) (fun s => s.size) := My Tryz.underlying9
theorem Ls : Tryz.prog.cellsOf 22 = 1 := by kernel_rfl
theorem H8 : Tryz.prog.cellsOf 60 = 15 := by kernel_rfl
theorem E9 {α : Type} {l : List α} (h : l.length = 2) : ∃ a0 a, l = [a0, a] := by
 match l, h with
 | [a0, a], _ => exact ⟨a0, a, rfl⟩
theorem SI {α : Type} {l : List α} (h : l.length = 15) : ∃ a0 i a2 a3 a4 a5 j k m a9 a b a12 d g, l = [a0, i, a2, a3, a4, a5, j, k, m, a9, a, b, a12, d, g] := by
 match l, h with
 | [a0, i, a2, a3, a4, a5, j, k, m, a9, a, b, a12, d, g], _ => exact ⟨a0, i, a2, a3, a4, a5, j, k, m, a9, a, b, a12, d, g, rfl⟩
theorem Q9 : Tryz.prog.cellsOf 55 = 10 := by kernel_rfl
theorem H3 : Tryz.prog.cellsOf 52 = 9 := by kernel_rfl
theorem DP : HK Tryz.prog 3 (fun n : Int => [.int .i64 n]) (fun _ => 0) := QP Tryz.underlying3
theorem G6 : Tryz.prog.cellsOf 3 = 1 := by kernel_rfl
theorem Ft : Tryz.prog.cellsOf 50 = 2 := by kernel_rfl
def yz (x : kC) : Nat := x.kD.size + x.kJ.size
theorem Hm : HK Tryz.prog 50 kQ yz := by
 intro H g W base sp j fuel cs x h
 obtain ⟨xs, n, _, rfl, p, hlen, k⟩ := eH Tryz.underlying50 h
 obtain ⟨r, s, rfl⟩ := E9 hlen
 obtain ⟨a, c1, rfl⟩ := E9 (p.trans Ft)
 have i : DataW.trod g Tryz.prog W base sp j n 9 (([a, c1].drop 0).take (Tryz.prog.cellsOf 9)) = some r := k 0 _ rfl
 have h1 : DataW.trod g Tryz.prog W base sp j n 9 (([a, c1].drop 1).take (Tryz.prog.cellsOf 9)) = some s := k 1 _ rfl
 simp only [EW, List.drop, List.take] at i h1
 obtain ⟨q, b, l⟩ := Gt _ _ _ _ _ _ _ _ _ i
 obtain ⟨s1, d, m⟩ := Gt _ _ _ _ _ _ _ _ _ h1
 simp only [bE, dS] at b d
 obtain rfl := b
 obtain rfl := d
 refine ⟨⟨q, s1⟩, rfl, ?_⟩
 simp only [List.map, Rows.uptoBulk, Rows.uptoBulkAll, yz] at l m ⊢
 omega
theorem TN {α : Type} {l : List α} (h : l.length = 6) : ∃ a0 a a2 a3 a4 a5, l = [a0, a, a2, a3, a4, a5] := by
 match l, h with
 | [a0, a, a2, a3, a4, a5], _ => exact ⟨a0, a, a2, a3, a4, a5, rfl⟩
def vX (x : kE) : Nat := yz x.Head + x.lZ.size + yz x.B + yz x.C + x.mc.size
theorem PZ : HK Tryz.prog 52 kK vX := by
 intro H l W base sp m fuel cs x h
 obtain ⟨xs, n, _, rfl, M, hlen, p⟩ := eH Tryz.underlying52 h
 obtain ⟨T, U, Y, Z, y4, y5, rfl⟩ := TN hlen
 obtain ⟨a, c1, c2, b, d, g, i, j, k, rfl⟩ := Rr (M.trans H3)
 have w : DataW.trod l Tryz.prog W base sp m n 3 (([a, c1, c2, b, d, g, i, j, k].drop 0).take (Tryz.prog.cellsOf 3)) = some T := p 0 _ rfl
 have h1 : DataW.trod l Tryz.prog W base sp m n 50 (([a, c1, c2, b, d, g, i, j, k].drop 1).take (Tryz.prog.cellsOf 50)) = some U := p 1 _ rfl
 have y : DataW.trod l Tryz.prog W base sp m n 9 (([a, c1, c2, b, d, g, i, j, k].drop 3).take (Tryz.prog.cellsOf 9)) = some Y := p 2 _ rfl
 have z : DataW.trod l Tryz.prog W base sp m n 50 (([a, c1, c2, b, d, g, i, j, k].drop 4).take (Tryz.prog.cellsOf 50)) = some Z := p 3 _ rfl
 have A : DataW.trod l Tryz.prog W base sp m n 50 (([a, c1, c2, b, d, g, i, j, k].drop 6).take (Tryz.prog.cellsOf 50)) = some y4 := p 4 _ rfl
 have D : DataW.trod l Tryz.prog W base sp m n 9 (([a, c1, c2, b, d, g, i, j, k].drop 8).take (Tryz.prog.cellsOf 9)) = some y5 := p 5 _ rfl
 simp only [G6, Ft, EW, List.drop, List.take] at w h1 y z A D
 obtain ⟨O, q, E⟩ := DP _ _ _ _ _ _ _ _ _ w
 obtain ⟨s1, r, F⟩ := Hm _ _ _ _ _ _ _ _ _ h1
 obtain ⟨s2, s, G⟩ := Gt _ _ _ _ _ _ _ _ _ y
 obtain ⟨P, t, I⟩ := Hm _ _ _ _ _ _ _ _ _ z
 obtain ⟨Q, u, J⟩ := Hm _ _ _ _ _ _ _ _ _ A
 obtain ⟨R, v, L⟩ := Gt _ _ _ _ _ _ _ _ _ D
 simp only [kQ, bE, dS] at q r s t u v
 obtain rfl := q
 obtain ⟨rfl, rfl⟩ := r
 obtain rfl := s
 obtain ⟨rfl, rfl⟩ := t
 obtain ⟨rfl, rfl⟩ := u
 obtain rfl := v
 refine ⟨⟨O, s1, s2, P, Q, R⟩, rfl, ?_⟩
 simp only [List.map, Rows.uptoBulk, Rows.uptoBulkAll, vX] at E F G I J L ⊢
 omega
theorem Ln : Tryz.prog.cellsOf 53 = 1 := by kernel_rfl
theorem NI : Tryz.prog.cellsOf 5 = 1 := by kernel_rfl
theorem P7 : Fq Tryz.prog 5 (LY (Pl (mK .u8)) (fun x => 0 ≤ x ∧ x < 256)) (fun _ => 0) := QS Tryz.underlying5
theorem Dq : Tryz.prog.cellsOf 58 = 5 := by kernel_rfl
theorem TZ {α : Type} {l : List α} (h : l.length = 4) : ∃ a0 a a2 a3, l = [a0, a, a2, a3] := by
 match l, h with
 | [a0, a, a2, a3], _ => exact ⟨a0, a, a2, a3, rfl⟩
theorem TY {α : Type} {l : List α} (h : l.length = 5) : ∃ a0 a a2 a3 a4, l = [a0, a, a2, a3, a4] := by
 match l, h with
 | [a0, a, a2, a3, a4], _ => exact ⟨a0, a, a2, a3, a4, rfl⟩
theorem Q4 : Tryz.prog.cellsOf 56 = 1 := by kernel_rfl
theorem TR {H : Type} {x : DataW H × List MemPlace} {ys : List (DataW H × List MemPlace)} {p : List MemPlace} (a : x = (.agg (ys.map (·.1)), p)) (i : Nat) {y : DataW H × List MemPlace} (h : ys[i]? = some y) : SizeOf.sizeOf y.1 < SizeOf.sizeOf x.1 := by
 subst a
 have := List.sizeOf_lt_of_mem (bO.2 ⟨y, dP h, rfl⟩ : y.1 ∈ ys.map (·.1))
 simp only [DataW.agg.sizeOf_spec]; omega
theorem J5 : ∀ l : List Formula, szFL l ≤ tz Aa l
 | [] => aZ _
 | k :: l => by have := J5 l; rw [szFL]; simp only [tz, bP, gJ] at this ⊢; omega
theorem RN : ∀ (N : Nat) (H : Type) (I : TypeId × Value → H) (W : World) (base : Nat) (sp : Nat → Bool) (J : Bool) (fuel : Nat) (cs : List Value) (x : DataW H × List MemPlace),
  DataW.trod I Tryz.prog W base sp J fuel 58 cs = some x → SizeOf.sizeOf x.1 < N → ∃ a : Formula, kF (hp W) cs a ∧ Aa a ≤ Rows.uptoBulk x.1 := by
 intro N
 induction N with
 | zero => intro _ _ _ _ _ _ _ _ _ _ h; exact absurd h (Nat.not_lt_zero _)
 | succ N ih =>
  intro H I W base sp J fuel cs x h hN
  obtain ⟨a1, w, _, r, A, q, k⟩ := eH Tryz.underlying58 h
  obtain ⟨s, t, u, v, rfl⟩ := TZ q
  obtain ⟨b, d, g, i, j, rfl⟩ := TY (A.trans Dq)
  have l : DataW.trod _ Tryz.prog W _ _ _ w 3 (([b, d, g, i, j].drop 0).take (Tryz.prog.cellsOf 3)) = some s := k 0 _ rfl
  have m : DataW.trod _ Tryz.prog W _ _ _ w 3 (([b, d, g, i, j].drop 1).take (Tryz.prog.cellsOf 3)) = some t := k 1 _ rfl
  have n : DataW.trod _ Tryz.prog W _ _ _ w 50 (([b, d, g, i, j].drop 2).take (Tryz.prog.cellsOf 50)) = some u := k 2 _ rfl
  have p : DataW.trod _ Tryz.prog W _ _ _ w 56 (([b, d, g, i, j].drop 4).take (Tryz.prog.cellsOf 56)) = some v := k 3 _ rfl
  simp only [G6, Ft, Q4, List.drop, List.take] at l m n p
  obtain ⟨s2, D, O⟩ := DP _ _ _ _ _ _ _ _ _ l
  simp only [bE, dS] at D
  obtain rfl := D
  obtain ⟨Y, E, P⟩ := DP _ _ _ _ _ _ _ _ _ m
  simp only [bE, dS] at E
  obtain rfl := E
  obtain ⟨Z, F, Q⟩ := Hm _ _ _ _ _ _ _ _ _ n
  simp only [kQ, bE, dS] at F
  obtain ⟨rfl, rfl⟩ := F
  obtain ⟨v5, L, G, U, R⟩ := FW Dq (by decide) Tryz.underlying56 (fun f cs y h T => ih _ _ _ _ _ _ _ _ _ h (by have := TR r 3 rfl; omega)) p
  simp only [bE, dS] at G
  obtain rfl := G
  have M := bM (fun z => Rows.uptoBulk z.1) r
  refine ⟨⟨s2, Y, Z, L⟩, kF.mk ⟨_, rfl, U⟩, ?_⟩
  have T := J5 L
  simp only [List.map, Rows.uptoBulk, Rows.uptoBulkAll, yz] at O P Q R M ⊢
  rw [Kn]
  simp only
  omega
theorem JA : Fq Tryz.prog 58 kF Aa := fun H a W base sp b fuel cs x h => RN _ H a W base sp b fuel cs x h (bB _)
def vz (x : ll) : Nat := vX x.Signed.kE + tz (fun _ : Int => 0) x.Signed.Tag + 1 + Aa x.kH + 1
def Oo (x : ll) : Prop := (∀ y ∈ x.Signed.Tag, 0 ≤ y ∧ y < 256)
theorem Oc : Fq Tryz.prog 60 (LY kW Oo) vz := by
 intro H eh W base sp hd fuel cs x h
 obtain ⟨a6, n6, _, R, Q, A, G⟩ := eH Tryz.underlying60 h
 obtain ⟨J, L, rfl⟩ := E9 A
 obtain ⟨a, b, d, g, i, j, k, l, m, n, p, q, r, s, t, rfl⟩ := SI (Q.trans H8)
 have u : DataW.trod _ Tryz.prog W _ _ _ n6 55 (([a, b, d, g, i, j, k, l, m, n, p, q, r, s, t].drop 0).take (Tryz.prog.cellsOf 55)) = some J := G 0 _ rfl
 have v : DataW.trod _ Tryz.prog W _ _ _ n6 58 (([a, b, d, g, i, j, k, l, m, n, p, q, r, s, t].drop 10).take (Tryz.prog.cellsOf 58)) = some L := G 1 _ rfl
 simp only [Q9, Dq, List.drop, List.take] at u v
 obtain ⟨a7, n7, _, T, a1, D, I⟩ := eH Tryz.underlying55 u
 obtain ⟨M, O, rfl⟩ := E9 D
 have w : DataW.trod _ Tryz.prog W _ _ _ n7 52 (([a, b, d, g, i, j, k, l, m, n].drop 0).take (Tryz.prog.cellsOf 52)) = some M := I 0 _ rfl
 have y : DataW.trod _ Tryz.prog W _ _ _ n7 53 (([a, b, d, g, i, j, k, l, m, n].drop 9).take (Tryz.prog.cellsOf 53)) = some O := I 1 _ rfl
 simp only [H3, Ln, List.drop, List.take] at w y
 obtain ⟨s8, Z, b8⟩ := PZ _ _ _ _ _ _ _ _ _ w
 simp only [kK, kQ, bE, dS] at Z
 obtain ⟨rfl, rfl, rfl, rfl, rfl, rfl, rfl, rfl, rfl⟩ := Z
 obtain ⟨v9, s9, e9, U, b9⟩ := uv NI (by decide) P7 Tryz.underlying53 y
 simp only [bE, dS] at e9
 obtain rfl := e9
 obtain ⟨U, g9⟩ := Lf.Sl.all U
 have b7 := bM (fun z => Rows.uptoBulk z.1) T
 obtain ⟨Y, E, P⟩ := JA _ _ _ _ _ _ _ _ _ v
 obtain ⟨v10, F, E⟩ := E.out
 simp only [bE, dS] at F
 obtain ⟨rfl, rfl, rfl, rfl, rfl⟩ := F
 have b6 := bM (fun z => Rows.uptoBulk z.1) R
 refine ⟨⟨⟨s8, s9⟩, Y⟩, ⟨kW.mk ⟨_, _, rfl, U, E⟩, g9⟩, ?_⟩
 simp only [List.map, Rows.uptoBulk, Rows.uptoBulkAll, vz] at b8 b9 b7 P b6 ⊢
 omega
theorem LI : Tryz.prog.cellsOf 23 = 1 := by kernel_rfl
theorem Ii : Tryz.prog.cellsOf 87 = 8 := by kernel_rfl
theorem T6 {α : Type} {l : List α} (h : l.length = 8) : ∃ a0 a a2 a3 a4 a5 b d, l = [a0, a, a2, a3, a4, a5, b, d] := by
 match l, h with
 | [a0, a, a2, a3, a4, a5, b, d], _ => exact ⟨a0, a, a2, a3, a4, a5, b, d, rfl⟩
theorem Qi : Tryz.prog.cellsOf 28 = 1 := by kernel_rfl
def yP (x : nE) : Nat := yz x.kC + Aa x.kH + tz vX x.na + 1
def Tj (x : nE) : Prop := True
theorem Oz : Fq Tryz.prog 87 (LY lF Tj) yP := by
 intro H U W base sp Y fuel cs x h
 obtain ⟨Q, n11, _, E, D, r, q⟩ := eH Tryz.underlying87 h
 obtain ⟨t, u, v, rfl⟩ := PM r
 obtain ⟨a, b, d, g, i, j, k, l, rfl⟩ := T6 (D.trans Ii)
 have m : DataW.trod _ Tryz.prog W _ _ _ n11 50 (([a, b, d, g, i, j, k, l].drop 0).take (Tryz.prog.cellsOf 50)) = some t := q 0 _ rfl
 have n : DataW.trod _ Tryz.prog W _ _ _ n11 58 (([a, b, d, g, i, j, k, l].drop 2).take (Tryz.prog.cellsOf 58)) = some u := q 1 _ rfl
 have p : DataW.trod _ Tryz.prog W _ _ _ n11 28 (([a, b, d, g, i, j, k, l].drop 7).take (Tryz.prog.cellsOf 28)) = some v := q 2 _ rfl
 simp only [Qi, Ft, Dq, List.drop, List.take] at m n p
 obtain ⟨M, w, G⟩ := Hm _ _ _ _ _ _ _ _ _ m
 simp only [kQ, bE, dS] at w
 obtain ⟨rfl, rfl⟩ := w
 obtain ⟨O, s, I⟩ := JA _ _ _ _ _ _ _ _ _ n
 obtain ⟨R, y, s⟩ := s.out
 simp only [bE, dS] at y
 obtain ⟨rfl, rfl, rfl, rfl, rfl⟩ := y
 obtain ⟨T, P, A, L, J⟩ := uv H3 (by decide) PZ.rel Tryz.underlying28 p
 simp only [bE, dS] at A
 obtain rfl := A
 have F := bM (fun z => Rows.uptoBulk z.1) E
 refine ⟨⟨M, O, P⟩, ⟨lF.mk ⟨_, _, rfl, s, L⟩, trivial⟩, ?_⟩
 simp only [List.map, Rows.uptoBulk, Rows.uptoBulkAll, yP] at G I J F ⊢
 omega
theorem L8 : Tryz.prog.cellsOf 91 = 2 := by kernel_rfl
def Fo (x : mN) : Nat := 0
theorem SL : HK Tryz.prog 91 nY Fo := by
 intro H g W base sp j fuel cs x h
 obtain ⟨xs, n, _, rfl, p, hlen, k⟩ := DataW.trod_array Tryz.underlying91 h
 obtain ⟨r, s, rfl⟩ := E9 hlen
 obtain ⟨a, c1, rfl⟩ := E9 (p.trans L8)
 have i : DataW.trod g Tryz.prog W base sp j n 3 (([a, c1].drop (0 * Tryz.prog.cellsOf 3)).take (Tryz.prog.cellsOf 3)) = some r := k 0 (by decide)
 have h1 : DataW.trod g Tryz.prog W base sp j n 3 (([a, c1].drop (1 * Tryz.prog.cellsOf 3)).take (Tryz.prog.cellsOf 3)) = some s := k 1 (by decide)
 simp only [G6, List.drop, List.take, Nat.reduceMul] at i h1
 obtain ⟨q, b, l⟩ := DP _ _ _ _ _ _ _ _ _ i
 obtain ⟨s1, d, m⟩ := DP _ _ _ _ _ _ _ _ _ h1
 simp only [bE, dS] at b d
 obtain rfl := b
 obtain rfl := d
 refine ⟨⟨q, s1⟩, rfl, ?_⟩
 simp only [List.map, Rows.uptoBulk, Rows.uptoBulkAll, Fo] at l m ⊢
 omega
theorem QO : Tryz.prog.cellsOf 37 = 1 := by kernel_rfl
theorem KA : Tryz.prog.cellsOf 118 = 2 := by kernel_rfl
def Co (x : Key) : Nat := x.lZ.size + tz (fun _ : Int => 0) x.Key + 1
def Ti (x : Key) : Prop := (∀ y ∈ x.Key, 0 ≤ y ∧ y < 256)
theorem Rf : Fq Tryz.prog 118 (LY nW Ti) Co := by
 intro H A W base sp D fuel cs x h
 obtain ⟨y, n15, _, r, q, i, j⟩ := eH Tryz.underlying118 h
 obtain ⟨l, m, rfl⟩ := E9 i
 obtain ⟨a, b, rfl⟩ := E9 (q.trans KA)
 have d : DataW.trod _ Tryz.prog W _ _ _ n15 9 (([a, b].drop 0).take (Tryz.prog.cellsOf 9)) = some l := j 0 _ rfl
 have g : DataW.trod _ Tryz.prog W _ _ _ n15 53 (([a, b].drop 1).take (Tryz.prog.cellsOf 53)) = some m := j 1 _ rfl
 simp only [Ln, EW, List.drop, List.take] at d g
 obtain ⟨v, n, t⟩ := Gt _ _ _ _ _ _ _ _ _ d
 simp only [bE, dS] at n
 obtain rfl := n
 obtain ⟨v17, w, p, k, u⟩ := uv NI (by decide) P7 Tryz.underlying53 g
 simp only [bE, dS] at p
 obtain rfl := p
 obtain ⟨k, g17⟩ := Lf.Sl.all k
 have s := bM (fun z => Rows.uptoBulk z.1) r
 refine ⟨⟨v, w⟩, ⟨nW.mk ⟨_, rfl, k⟩, g17⟩, ?_⟩
 simp only [List.map, Rows.uptoBulk, Rows.uptoBulkAll, Co] at t u s ⊢
 omega
def Hg (x : mw) : Nat := x.kD.Name.size + tz vz x.kD.kO + tz yP x.kD.lg + 1 + x.Client.Name.size + tz vz x.Client.kO + tz yP x.Client.lg + 1 + Aa x.Formula + Fo x.mh + tz Co x.Keys + 1
theorem TO : Tryz.prog.readableRec 93 = true ∧ 93 < Tryz.prog.types.size := ⟨by kernel_rfl, jg (by kernel_rfl)⟩
theorem DQ (c : kE) : yR c = vX c := by unfold yR vX yz; omega
theorem Ly {α : Type} (sz : α → Nat) (h : ∀ a, 2 ≤ sz a) : ∀ l : List α, 2 * l.length ≤ tz sz l
 | [] => fK _
 | a :: l => by have := Ly sz h l; have := h a; simp only [tz, bP, gJ, aJ] at *; omega
theorem BS (y : ll) : vz y = vX y.Signed.kE + tz (fun _ : Int => 0) y.Signed.Tag + 1 + Aa y.kH + 1 := rfl
theorem KK (y : nE) : yP y = yz y.kC + Aa y.kH + tz vX y.na + 1 := rfl
theorem Ps (y : Key) : Co y = y.lZ.size + tz (fun _ : Int => 0) y.Key + 1 := rfl
theorem LC : ∀ l : List kE, yY l ≤ 21 * tz vX l
 | [] => fK _
 | c :: l => by have := LC l; rw [yY, DQ]; simp only [tz, bP, gJ] at *; omega
theorem LA : ∀ l : List ll, CL l ≤ 21 * tz vz l
 | [] => fK _
 | x :: l => by
  have := LA l
  have := Ds (fun _ : Int => 0) x.Signed.Tag
  rw [CL, DQ]
  have e := BS x
  simp only [tz, bP, gJ] at *; omega
theorem Me : ∀ l : List nE, BJ l ≤ 21 * tz yP l
 | [] => fK _
 | x :: l => by
  have := Me l
  have := LC x.na
  rw [BJ]
  have e := KK x
  unfold yz at e
  have a : tz yP (x :: l) = max 1 (yP x) + tz yP l := rfl
  omega
theorem L6 : ∀ l : List Key, DG l ≤ 11 * tz Co l
 | [] => fK _
 | x :: l => by
  have := L6 l
  have := Ds (fun _ : Int => 0) x.Key
  rw [DG]
  have e := Ps x
  have a : tz Co (x :: l) = max 1 (Co x) + tz Co l := rfl
  omega
theorem J6 (x : lI) (d : x.Name.size ≤ 1048576) (h1 : tz vz x.kO ≤ 1048576) (g : tz yP x.lg ≤ 1048576) : PG x ∧ x.kO.length ≤ 600000 ∧ II x ≤ 1000000000 := by
 have c1 := Ly vz (fun y => by rw [BS]; omega) x.kO
 have c2 := Ds yP x.lg
 have g1 : ∀ y ∈ x.kO, vX y.Signed.kE ≤ 1048576 ∧ lY y.kH ≤ 1048576 := fun y a => by
  have := HG (sz := vz) a
  have e := BS y
  have := Cw y.kH
  omega
 have g2 : ∀ y ∈ x.lg, lY y.kH ≤ 1048576 ∧ tz vX y.na ≤ 1048576 := fun y a => by
  have := HG (sz := yP) a
  have e := KK y
  have := Cw y.kH
  omega
 refine ⟨{ DR := by omega, H2 := by omega, rel := fun y a => ?_, Gs := fun y a => ?_, PV := fun y a => ?_, Ub := fun y a => ?_, Up := fun y a c b => ?_ }, by omega, ?_⟩
 ·have := (g1 y a).2; omega
 ·have := (g2 y a).1; omega
 ·have := (g2 y a).2; have := Ds vX y.na; omega
 ·have := (g1 y a).1; rw [DQ]; omega
 ·have := (g2 y a).2; have := HG (sz := vX) b; rw [DQ]; omega
 ·have := LA x.kO; have := Me x.lg; unfold II; omega
theorem Q7 (p : mw) (h : Hg p ≤ 1048576) : PQ p := by
 unfold Hg at h
 have a := J6 p.kD (by omega) (by omega) (by omega)
 have b := J6 p.Client (by omega) (by omega) (by omega)
 have k := L6 p.Keys
 have f := Cw p.Formula
 exact { o := a.1, c := b.1, lo := a.2.1, lc := b.2.1, f := by omega, go := a.2.2, gc := b.2.2, fs := by omega, ks := by omega }
theorem own : ownKnob Tryz.prog.godebug = none := by kernel_rfl
theorem Pn : laidOutB Tryz.prog = true := by kernel_rfl
theorem Pg (H : Type) (enc : TypeId × Value → H) (W : World) (base : Nat) (args : Array Value) (ds gs : List (DataW H)) (before : List MemPlace) (ae : ∀ (j : Nat) t v, Tryz.f7.params[j]? = some t → args[j]? = some v → Value.okWide Tryz.prog W .any base t v) (hW : DataW.Whole enc Tryz.prog Tryz.f7.params.toList Rows.leastShrinksSpec.vars false W args.toList ds gs before) (hk : Rows.uptoSmall H (ds ++ gs) = true) :
  Calls Tryz.prog 7 args W fun e W' => ∃ v, e = .returned v ∧ Rows.leastShrinksSpec.post enc Tryz.prog Tryz.f7 false true false false W args v W' := by
 have cu := hW
 obtain ⟨p, q, ct, hV, rfl, di, dj⟩ := hW
 have hA : DataW.TrodAll enc Tryz.prog W 0 (fun _ => true) true Tryz.f7.params.toList args.toList ds p := ct
 have hr : ∀ t ∈ Tryz.f7.params.toList, Tryz.prog.readableRec t = true ∧ t < Tryz.prog.types.size := by
  rw [Tryz.params7]
  intro t ht
  simp only [aQ, dL, gQ] at ht
  subst ht
  exact TO
 rw [Tryz.params7] at hA ae
 obtain ⟨v0, dk, d0, db, p0, q0, cv, rfl, rfl, h0, r0⟩ := trodAll_cons hA
 obtain ⟨rfl, rfl, rfl⟩ := trodAll_nil r0
 obtain rfl : args = #[v0] := by cases args; simp_all
 obtain ⟨rfl, rfl⟩ := trodVars_none hV
 have k0 := ae 0 93 v0 rfl rfl
 obtain ⟨bk, rfl, _⟩ := okWide_struct Tryz.underlying93 k0
 obtain ⟨de, c4⟩ := h0
 obtain ⟨cw, rfl⟩ : ∃ l : List Value, bk = l.toArray := ⟨bk.toList, by simp⟩
 change DataW.trod _ _ _ _ _ _ _ _ cw = some _ at c4
 obtain ⟨cz, n18, _, c6, c5, aa, F⟩ := eH Tryz.underlying93 c4
 obtain ⟨b1, b2, b3, b4, b5, b6, b7, b9, ba, rfl⟩ := Rr aa
 obtain ⟨k, a, b, m, d, g, y, A, D, E, h, n, r, s, u, w, x, i, rfl⟩ := Th (c5.trans Ri)
 have G : DataW.trod _ Tryz.prog W _ _ _ n18 25 (([k, a, b, m, d, g, y, A, D, E, h, n, r, s, u, w, x, i].drop 0).take (Tryz.prog.cellsOf 25)) = some b1 := F 0 _ rfl
 have I : DataW.trod _ Tryz.prog W _ _ _ n18 25 (([k, a, b, m, d, g, y, A, D, E, h, n, r, s, u, w, x, i].drop 3).take (Tryz.prog.cellsOf 25)) = some b2 := F 1 _ rfl
 have J : DataW.trod _ Tryz.prog W _ _ _ n18 58 (([k, a, b, m, d, g, y, A, D, E, h, n, r, s, u, w, x, i].drop 6).take (Tryz.prog.cellsOf 58)) = some b3 := F 2 _ rfl
 have L : DataW.trod _ Tryz.prog W _ _ _ n18 3 (([k, a, b, m, d, g, y, A, D, E, h, n, r, s, u, w, x, i].drop 11).take (Tryz.prog.cellsOf 3)) = some b4 := F 3 _ rfl
 have M : DataW.trod _ Tryz.prog W _ _ _ n18 91 (([k, a, b, m, d, g, y, A, D, E, h, n, r, s, u, w, x, i].drop 12).take (Tryz.prog.cellsOf 91)) = some b5 := F 4 _ rfl
 have O : DataW.trod _ Tryz.prog W _ _ _ n18 3 (([k, a, b, m, d, g, y, A, D, E, h, n, r, s, u, w, x, i].drop 14).take (Tryz.prog.cellsOf 3)) = some b6 := F 5 _ rfl
 have P : DataW.trod _ Tryz.prog W _ _ _ n18 3 (([k, a, b, m, d, g, y, A, D, E, h, n, r, s, u, w, x, i].drop 15).take (Tryz.prog.cellsOf 3)) = some b7 := F 6 _ rfl
 have Q : DataW.trod _ Tryz.prog W _ _ _ n18 3 (([k, a, b, m, d, g, y, A, D, E, h, n, r, s, u, w, x, i].drop 16).take (Tryz.prog.cellsOf 3)) = some b9 := F 7 _ rfl
 have R : DataW.trod _ Tryz.prog W _ _ _ n18 37 (([k, a, b, m, d, g, y, A, D, E, h, n, r, s, u, w, x, i].drop 17).take (Tryz.prog.cellsOf 37)) = some ba := F 8 _ rfl
 simp only [Re, G6, QO, Dq, L8, List.drop, List.take] at G I J L M O P Q R
 obtain ⟨cS, n19, _, c7, cx, ab, a7⟩ := eH Tryz.underlying25 G
 obtain ⟨bc, bd, bf, rfl⟩ := PM ab
 have T : DataW.trod _ Tryz.prog W _ _ _ n19 9 (([k, a, b].drop 0).take (Tryz.prog.cellsOf 9)) = some bc := a7 0 _ rfl
 have U : DataW.trod _ Tryz.prog W _ _ _ n19 22 (([k, a, b].drop 1).take (Tryz.prog.cellsOf 22)) = some bd := a7 1 _ rfl
 have Y : DataW.trod _ Tryz.prog W _ _ _ n19 23 (([k, a, b].drop 2).take (Tryz.prog.cellsOf 23)) = some bf := a7 2 _ rfl
 simp only [Ls, LI, EW, List.drop, List.take] at T U Y
 obtain ⟨al, bl, cb⟩ := Gt _ _ _ _ _ _ _ _ _ T
 simp only [bE, dS] at bl
 obtain rfl := bl
 obtain ⟨v21, an, bn, af, cc⟩ := uv H8 (by decide) Oc Tryz.underlying22 U
 simp only [bE, dS] at bn
 obtain rfl := bn
 obtain ⟨af, g21⟩ := Lf.Sl.all af
 obtain ⟨v22, ao, bo, ag, cd⟩ := uv Ii (by decide) Oz Tryz.underlying23 Y
 simp only [bE, dS] at bo
 obtain rfl := bo
 obtain ⟨ag, g22⟩ := Lf.Sl.all ag
 have ca := bM (fun z => Rows.uptoBulk z.1) c7
 obtain ⟨da, n23, _, c8, cy, ad, a8⟩ := eH Tryz.underlying25 I
 obtain ⟨bh, bi, bj, rfl⟩ := PM ad
 have Z : DataW.trod _ Tryz.prog W _ _ _ n23 9 (([m, d, g].drop 0).take (Tryz.prog.cellsOf 9)) = some bh := a8 0 _ rfl
 have a1 : DataW.trod _ Tryz.prog W _ _ _ n23 22 (([m, d, g].drop 1).take (Tryz.prog.cellsOf 22)) = some bi := a8 1 _ rfl
 have a6 : DataW.trod _ Tryz.prog W _ _ _ n23 23 (([m, d, g].drop 2).take (Tryz.prog.cellsOf 23)) = some bj := a8 2 _ rfl
 simp only [Ls, LI, EW, List.drop, List.take] at Z a1 a6
 obtain ⟨ap, bp, cg⟩ := Gt _ _ _ _ _ _ _ _ _ Z
 simp only [bE, dS] at bp
 obtain rfl := bp
 obtain ⟨v25, aq, bq, ah, ch⟩ := uv H8 (by decide) Oc Tryz.underlying22 a1
 simp only [bE, dS] at bq
 obtain rfl := bq
 obtain ⟨ah, df⟩ := Lf.Sl.all ah
 obtain ⟨v26, ar, bs, ai, cj⟩ := uv Ii (by decide) Oz Tryz.underlying23 a6
 simp only [bE, dS] at bs
 obtain rfl := bs
 obtain ⟨ai, dg⟩ := Lf.Sl.all ai
 have cf := bM (fun z => Rows.uptoBulk z.1) c8
 obtain ⟨au, aj, ck⟩ := JA _ _ _ _ _ _ _ _ _ J
 obtain ⟨v27, bt, aj⟩ := aj.out
 simp only [bE, dS] at bt
 obtain ⟨rfl, rfl, rfl, rfl, rfl⟩ := bt
 obtain ⟨av, bu, cm⟩ := DP _ _ _ _ _ _ _ _ _ L
 simp only [bE, dS] at bu
 obtain rfl := bu
 obtain ⟨aw, bw, cn⟩ := SL _ _ _ _ _ _ _ _ _ M
 simp only [nY, bE, dS] at bw
 obtain ⟨rfl, rfl⟩ := bw
 obtain ⟨ay, bx, cp⟩ := DP _ _ _ _ _ _ _ _ _ O
 simp only [bE, dS] at bx
 obtain rfl := bx
 obtain ⟨az, bz, cq⟩ := DP _ _ _ _ _ _ _ _ _ P
 simp only [bE, dS] at bz
 obtain rfl := bz
 obtain ⟨aE, c0, cr⟩ := DP _ _ _ _ _ _ _ _ _ Q
 simp only [bE, dS] at c0
 obtain rfl := c0
 obtain ⟨v33, b0, c3, ak, cs⟩ := uv KA (by decide) Rf Tryz.underlying37 R
 simp only [bE, dS] at c3
 obtain rfl := c3
 obtain ⟨ak, dh⟩ := Lf.Sl.all ak
 have c9 := bM (fun z => Rows.uptoBulk z.1) c6
 simp only [List.map, Rows.uptoBulk, Rows.uptoBulkAll] at cb cc cd ca cg ch cj cf ck cm cn cp cq cr cs c9
 have z0 : Hg (⟨⟨al, an, ao⟩, ⟨ap, aq, ar⟩, au, av, aw, ay, az, aE, b0⟩ : mw) ≤ Rows.uptoBulk d0 := by simp only [Hg]; omega
 have hB : Rows.uptoBulkAll ([d0] ++ []) ≤ 1048576 := jg hk
 simp only [bJ, Rows.uptoBulkAll] at hB
 have hm : uo (⟨⟨al, an, ao⟩, ⟨ap, aq, ar⟩, au, av, aw, ay, az, aE, b0⟩ : mw) = some true := FK QL _ (Q7 _ (by omega))
 have hg := D3 (⟨⟨al, an, ao⟩, ⟨ap, aq, ar⟩, au, av, aw, ay, az, aE, b0⟩ : mw) a b d g h i true W af ag ah ai aj ak hm
 refine dY hg fun e W' ⟨he, hx⟩ => ?_
 subst he
 exact ⟨_, rfl, Mr Pn hr rfl cu hx (fun _ _ _ => trodAll_cons_mk (shut_bool Tryz.underlying4 _) trodAll_mk0) rfl rfl (ok_one (by kernel_rfl) rfl (okWide_bool_mk Tryz.underlying4 _))⟩
set_option maxRecDepth 100000 in
theorem R9 (os : Os) (started : os.Started) (H : Type) (enc : TypeId × Value → H) (F : Stop.Interp) :
  ReturnsInHanded {} Tryz.checked os 7 .any ((Rows.OpenSpec.upto Rows.leastShrinksSpec).pre6 enc Tryz.prog Tryz.f7 Rows.leastShrinksUptoRow.domain false) (((Rows.OpenSpec.upto Rows.leastShrinksSpec).at F).post enc Tryz.prog Tryz.f7 false true false false) := by
 refine returnsInHanded_of_cond (C := Tryz.checked) (s := Rows.OpenSpec.upto Rows.leastShrinksSpec) (k := Rows.uptoSmall) rfl own started (by kernel_rfl) Tryz.func7
  (OpenSpec.witness (enc := enc) (C := Tryz.checked) (s := Rows.OpenSpec.upto Rows.leastShrinksSpec) (k := Rows.uptoSmall) rfl false ⟨#[], #[.agg #[.string ⟨#[]⟩, .slice none 0 0, .slice none 0 0, .string ⟨#[]⟩, .slice none 0 0, .slice none 0 0, .int .i64 0, .int .i64 0, .string ⟨#[]⟩, .string ⟨#[]⟩, .slice none 0 0, .int .i64 0, .int .i64 0, .int .i64 0, .int .i64 0, .int .i64 0, .int .i64 0, .slice none 0 0]], []⟩ 8 (by kernel_rfl) (by kernel_rfl) (by kernel_rfl)
   (x := ([.agg [.agg [.lit (.string []), .nil, .nil], .agg [.lit (.string []), .nil, .nil], .agg [.lit (.int .i64 0), .lit (.int .i64 0), .agg [.lit (.string []), .lit (.string [])], .nil], .lit (.int .i64 0), .agg [.lit (.int .i64 0), .lit (.int .i64 0)], .lit (.int .i64 0), .lit (.int .i64 0), .lit (.int .i64 0), .nil]], [], [])) (by kernel_rfl) rfl (by kernel_rfl)) ?_
 intro W base args ds gs before a b _ hk _
 exact Pg H enc W base args ds gs before a b hk
theorem S0 {a b : Bool} (ha : a = true) (d : b = true) : (a && b) = true := by rw [ha, d]; rfl
set_option maxHeartbeats 40000000 in
theorem Ql : joinedFacts Tryz.checked.prog 7 Tryz.f7 (Rows.OpenSpec.upto Rows.leastShrinksSpec).bare Rows.leastShrinksUptoRow = true := by
 unfold joinedFacts
 repeat' with_reducible refine S0 ?_ ?_
 all_goals as_aux_lemma => kernel_rfl
theorem proved : Rows.LeastShrinksUptoSaid :=
 OpenClaim.holds_of_cond 7 Tryz.f7 rfl rfl rfl rfl rfl rfl rfl ⟨rfl, rfl, rfl, rfl, rfl⟩ rfl rfl rfl rfl rfl (by kernel_rfl) Tryz.func7 Ql
  (jg (by kernel_rfl)) (by unfold Func.isWrapper; first | (rw [aY (by decide +kernel)]; kernel_rfl) | (rw [bA (by decide +kernel)]; exact ⟨rfl, rfl⟩))
  (fun os started H enc _ F => R9 os started H enc F)
end Go.Proofs.YtklbhegeiijbjaaGreat
