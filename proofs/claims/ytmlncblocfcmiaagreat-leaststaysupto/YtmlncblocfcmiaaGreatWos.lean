/- a part of a proof of LeastStays -/
import Derived.Test.YtmlncblocfcmiaaGreatHks
import Derived.Test.YtmlncblocfcmiaaGreatRtVs
import Derived.Test.YtmlncblocfcmiaaGreatRows
import Derived.WalkKit
import Derived.ProofKit
import Derived.OpenShut
import Derived.JoinedCond
import Derived.Deep.Slices
import Derived.Carry
import Derived.ChangeArms
import Derived.ChangeSame
import Derived.Test.YtmlncblocfcmiaaGreatL5W2s
set_option linter.all false
namespace Go.Proofs.YtmlncblocfcmiaaGreat
open Go.RowKit
theorem RP : ∀ (n : Nat) (f : Formula), oK f ≤ n → Gd f → wu n f = some (lF f : Int) := by
 intro n
 induction n with
 | zero => intro f h; rw [nI] at h; omega
 | succ n ih =>
  intro f d g
  rw [nI] at d
  have a := oV f
  unfold Gd at g
  rw [wu]
  unfold AA
  have key : ∀ (ks : List Formula) (x : Nat), (∀ k ∈ ks, k ∈ f.Kids) → x + nodesL ks ≤ 50000000 → uy (wu n) ks (x : Int) = some ((x + nodesL ks : Nat) : Int) := by
   intro ks
   induction ks with
   | nil => intro x _ _; rw [uy, nodesL]; rfl
   | cons k ks b =>
    intro x hk i
    rw [nodesL] at i
    rw [uy, ih k (by have := rN (hk k (by simp)); omega) (by have := ud (hk k (by simp)); unfold Gd; omega), aA]
    have w : IntKind.i64.wrap ((x : Int) + (lF k : Int)) = ((x + lF k : Nat) : Int) := by rw [lJ (by omega) (by omega)]; omega
    rw [w, b _ (fun z j => hk z (by simp [j])) (by omega), nodesL]
    congr 2; omega
  have := key f.Kids 1 (fun k hk => hk) (by omega)
  rw [a]
  exact this
theorem SQ : ∀ (n : Nat) (f : Formula), oK f ≤ n → Gd f → xf n f = some (oK f : Int) := by
 intro n
 induction n with
 | zero => intro f h; rw [nI] at h; omega
 | succ n ih =>
  intro f d g
  rw [nI] at d ⊢
  have i := oV f
  have hle := wL f
  rw [nI] at hle
  unfold Gd at g
  rw [xf]
  unfold AV
  have key : ∀ (ks : List Formula) (x : Nat), (∀ k ∈ ks, k ∈ f.Kids) → max x (deepL ks) ≤ 50000000 → vc (xf n) ks (x : Int) = some ((max x (deepL ks) + 1 : Nat) : Int) := by
   intro ks
   induction ks with
   | nil =>
    intro x _ a
    rw [deepL] at a
    rw [vc, deepL, lJ (by omega) (by omega)]
    congr 1; omega
   | cons k ks b =>
    intro x hk a
    rw [deepL] at a
    rw [vc, ih k (by have := rN (hk k (by simp)); omega) (by have := ud (hk k (by simp)); unfold Gd; omega), aA]
    have w : (if (oK k : Int) > (x : Int) then (oK k : Int) else (x : Int)) = ((max x (oK k) : Nat) : Int) := by split <;> omega
    rw [w, b _ (fun z j => hk z (by simp [j])) (by omega), deepL]
    congr 2; omega
  have := key f.Kids 0 (fun k hk => hk) (by omega)
  rw [Nat.zero_max] at this
  exact this
theorem Sa : ∀ (n : Nat) (f : Formula), oK f ≤ n → xv n f = some (tZ f) := by
 intro n
 induction n with
 | zero => intro f h; rw [nI] at h; omega
 | succ n ih =>
  intro f h
  rw [nI] at h
  have key : ∀ ks : List Formula, (∀ k ∈ ks, k ∈ f.Kids) → vo (xv n) ks = some (wellL ks) := by
   intro ks
   induction ks with
   | nil => intro _; rw [vo, wellL]
   | cons k ks p =>
    intro hk
    rw [vo, ih k (by have := rN (hk k (by simp)); omega), aA, p (fun z r => hk z (by simp [r])), wellL]
    cases tZ k <;> rfl
  have hk := key f.Kids (fun k hk => hk)
  rw [xv]
  unfold AS
  rw [hk, Gj, BL]
  unfold D2
  simp only [aA]
  by_cases c1 : f.Op = 1
  ·simp only [c1, aV, aJ]
   cases s : nj f.kI
   ·simp
   ·by_cases b : f.Kids.length = 0
    ·have e : f.Kids = [] := aR b
     by_cases m : f.K = 0 <;> simp [e, m, wellL]
    ·have : ((f.Kids.length : Int) == 0) = false := by rw [beq_eq_false_iff_ne]; omega
     simp [this, b]
  ·have q : (f.Op == 1) = false := by simpa using c1
   simp only [q, aB, aG, c1]
   by_cases i : f.Op = 2 ∨ f.Op = 3
   ·have j : ¬ f.Op < 1 := by omega
    have a2 : ¬ f.Op > 4 := by omega
    have a3 : f.Op < 4 := by omega
    have a4 : (f.Op == 4) = false := by rw [beq_eq_false_iff_ne]; omega
    simp only [j, a2, a3, a4, i, bV, bT, aB, aG, aJ, aA]
    cases g : lu f.kI ⟨zS, zS⟩
    ·simp [qL, g]
    ·by_cases b : f.Kids.length ≤ 8
     ·have d : ¬ ((f.Kids.length : Int) > 8) := by omega
      by_cases m : f.K = 0 <;> simp [qL, g, b, d, m]
     ·have d : ((f.Kids.length : Int) > 8) := by omega
      simp [qL, g, b, d]
   ·by_cases l : f.Op = 4
    ·have j : ¬ f.Op < 1 := by omega
     have a2 : ¬ f.Op > 4 := by omega
     have a3 : ¬ f.Op < 4 := by omega
     simp only [j, a2, a3, i, bV, aB, aG, aA]
     simp only [l, aV, aJ, bT, eJ]
     cases g : lu f.kI ⟨zS, zS⟩
     ·simp [qL, g]
     ·by_cases b : f.Kids.length ≤ 8
      ·have d : ¬ ((f.Kids.length : Int) > 8) := by omega
       by_cases d1 : 1 ≤ f.Kids.length
       ·have g1 : ¬ ((f.Kids.length : Int) < 1) := by omega
        by_cases d2 : 0 ≤ f.K
        ·have g2 : ¬ f.K < 0 := by omega
         by_cases d3 : f.K ≤ (f.Kids.length : Int)
         ·have g3 : ¬ f.K > (f.Kids.length : Int) := by omega
          simp [qL, g, b, d, d1, g1, d2, g2, d3, g3]
         ·have g3 : f.K > (f.Kids.length : Int) := by omega
          simp [qL, g, b, d, d1, g1, d2, g2, d3, g3]
        ·have g2 : f.K < 0 := by omega
         simp [qL, g, b, d, d1, g1, d2, g2]
       ·have g1 : ((f.Kids.length : Int) < 1) := by omega
        simp [qL, g, b, d, d1, g1]
      ·have d : ((f.Kids.length : Int) > 8) := by omega
       simp [qL, g, b, d]
    ·have a : f.Op < 1 ∨ f.Op > 4 := by omega
     rcases a with a | a
     ·simp [a, i, l]
     ·have : ¬ f.Op < 1 := by omega
      simp [a, this, i, l]
theorem Hn (f : Formula) (h : Gd f) : sh f = some (oD f) := by
 have b := wL f
 have a := h
 unfold Gd at a
 unfold sh oD
 rw [RP lE f (by rw [ni]; omega) h, SQ lE f (by rw [ni]; omega) h, Sa lE f (by rw [ni]; omega)]
 simp only [aA]
 by_cases c1 : lF f ≤ 64
 ·have d1 : ((lF f : Int) ≤ 64) := by omega
  by_cases c2 : oK f ≤ 6
  ·have d2 : ((oK f : Int) ≤ 6) := by omega
   simp [c1, c2, d1, d2]
  ·have d2 : ¬ ((oK f : Int) ≤ 6) := by omega
   simp [c1, c2, d1, d2]
 ·have d1 : ¬ ((lF f : Int) ≤ 64) := by omega
  simp [c1, d1]
end Go.Proofs.YtmlncblocfcmiaaGreat
namespace Go.Proofs.YtmlncblocfcmiaaGreat
open Go.RowKit
theorem Nx {f : Formula} (hw : tZ f = true) (a : lF f ≤ 200) : (zo f).length ≤ 40 * lF f := (M6 (oK f) f (aO _) hw [] (by simp; omega)).2
theorem Q7 : ∀ (n : Nat) (f : Formula), oK f ≤ n → tZ f = true → lF f ≤ 64 → tO n f = some (wQ (zo f)) := by
 intro n
 induction n with
 | zero => intro f h; rw [nI] at h; omega
 | succ n ih =>
  intro f s hw x
  rw [nI] at s
  have u := oV f
  obtain ⟨h1, m, g⟩ := yc hw
  have b : 0 ≤ f.Op ∧ f.Op < 128 := by rcases g with h | h | h <;> omega
  have hlen : 0 ≤ (f.Kids.length : Int) ∧ (f.Kids.length : Int) < 128 := by omega
  have key : ∀ (ks : List Formula) (l : List Int), (∀ k ∈ ks, k ∈ f.Kids) → wellL ks = true → l.length + 40 * nodesL ks ≤ 8000 → nodesL ks ≤ 64 → uB (tO n) ks (wQ l) = some (wQ (l ++ bytesFL ks)) := by
   intro ks
   induction ks with
   | nil => intro l _ _ _ _; rw [uB, bytesFL, aQ]
   | cons k ks j =>
    intro l hk a t i
    rw [wellL, aZ] at a
    rw [nodesL] at t i
    have w := Nx a.1 (by omega)
    rw [uB, ih k (by have := rN (hk k (by simp)); omega) a.1 (by omega), aA, sL _ _ (by omega), aA,
     j _ (fun z v => hk z (by simp [v])) a.2 (by simp; omega) (by omega), bytesFL, aH]
  rw [tO]
  unfold Av
  rw [yU b.1 b.2, aA, HX]
  by_cases c1 : f.Op = 1
  ·have p : nj f.kI = true := by rcases g with h | h | h; exact h.2.1; omega; omega
   have := pB p
   simp only [c1, aV, aJ]
   rw [Bo p, aA, sL _ _ (by simp; omega)]
   rfl
  ·have q : (f.Op == 1) = false := by simpa using c1
   simp only [q, aB, aG, c1]
   by_cases d : f.Op = 4
   ·have hk : 0 ≤ f.K ∧ f.K < 128 := by rcases g with h | h | h <;> omega
    simp only [d, aV, aJ]
    rw [yU hk.1 hk.2, aA, sL _ _ (by simp), aA, aA, yU hlen.1 hlen.2, aA, sL _ _ (by simp), aA,
     key f.Kids _ (fun k hk => hk) m (by simp; omega) (by omega)]
    simp
   ·have r : (f.Op == 4) = false := by simpa using d
    simp only [r, aB, aG, d, aA]
    rw [yU hlen.1 hlen.2, aA, sL _ _ (by simp), aA, key f.Kids _ (fun k hk => hk) m (by simp; omega) (by omega)]
    simp
theorem SS (f : Formula) (h : Gd f) : ((sh f).bind fun r => if r then (tO lE f).bind fun a => some a else some zS) = some (wQ (yS f)) := by
 rw [Hn f h, aA]
 unfold yS
 cases d : oD f
 ·rfl
 ·obtain ⟨h1, g, b⟩ := zX d
  simp only [aJ]
  rw [Q7 lE f (by rw [ni]; omega) b h1, pU]
theorem I2 (f g : Formula) (i : Gd f) (j : Gd g) : ∃ c : Int, zf f g = some c ∧ (c > 0 ↔ ow BV g f = true) := by
 unfold zf
 rw [SS f i, aA, SS g j, aA, yO, vw, vw, Bn]
 rcases Bz (uK (yS f)) (uK (yS g)) with h | h | h
 ·rw [aT h]
  refine ⟨-1, rfl, iff_of_false (by omega) (fun a => ?_)⟩
  have := yE _ _ _ h a
  rw [vU] at this; cases this
 ·have e : mn (wQ (yS f)) (wQ (yS g)) = true := nh.2 (Ap (by rw [vw, vw, h]))
  rw [h, vU, e]
  exact ⟨0, rfl, iff_of_false (by omega) (by simp)⟩
 ·have e : Op.bytesLess (uK (yS f)) (uK (yS g)) = false := by
   rw [← eZ]
   intro a
   have := yE _ _ _ h a
   rw [vU] at this; cases this
  have d : mn (wQ (yS f)) (wQ (yS g)) = false := by
   rw [← eZ, nh]
   intro a
   have b := bI (fun s : ByteArray => s.data.toList) a
   simp only [vw] at b
   rw [b, vU] at h; cases h
  rw [e, d]
  exact ⟨1, rfl, iff_of_true (by omega) h⟩
theorem Sh : ∀ (n : Nat) (f : Formula), oK f ≤ n → ∀ g, ∃ b, vH n f g = some b ∧ (b = true ↔ f = g) := by
 intro n
 induction n with
 | zero => intro f h; rw [nI] at h; omega
 | succ n ih =>
  intro f h g
  rw [nI] at h
  have key : ∀ (l m A : List Formula), (∀ x ∈ l, x ∈ f.Kids) → g.Kids = A ++ m → l.length = m.length → ∃ b, vh g (vH n) l A.length = some b ∧ (b = true ↔ l = m) := by
   intro l
   induction l with
   | nil =>
    intro m A _ _ a
    obtain rfl := aR a.symm
    exact ⟨true, by rw [vh], by simp⟩
   | cons x l r =>
    intro m A q t a
    match m, a with
    | y :: m, a =>
     obtain ⟨b, e, p⟩ := ih x (by have := rN (q x (by simp)); omega) y
     rw [vh, t, nP A y m _ rfl, aA, e, aA]
     cases b with
     | false =>
      refine ⟨false, rfl, ?_⟩
      have : x ≠ y := fun i => by have := p.2 i; simp at this
      simp [this]
     | true =>
      have i := p.1 rfl
      obtain ⟨b, s, d⟩ := r m (A ++ [y]) (fun z u => q z (by simp [u])) (by rw [t]; simp) (by simpa using a)
      rw [aD, List.length_singleton] at s
      simp only [cA, aB, aG]
      rw [s]
      exact ⟨b, rfl, by rw [d]; simp [i]⟩
  rw [vH]
  unfold AT
  by_cases h1 : f.Op = g.Op
  ·by_cases d : f.K = g.K
   ·by_cases j : f.kI = g.kI
    ·have k : lu f.kI g.kI = true := lx.2 j
     by_cases a : f.Kids.length = g.Kids.length
     ·obtain ⟨b, e, p⟩ := key f.Kids g.Kids [] (fun x q => q) rfl a
      rw [bU] at e
      refine ⟨b, ?_, p.trans ⟨fun hk => Formula.ext' h1 d j hk, fun hk => by rw [hk]⟩⟩
      simp [h1, d, k, a, e]
     ·refine ⟨false, ?_, by simp; intro hk; rw [hk] at a; exact a rfl⟩
      have : ((f.Kids.length : Int) != (g.Kids.length : Int)) = true := by simp; omega
      simp [h1, d, k, this]
    ·have k : lu f.kI g.kI = false := by rw [← eZ, lx]; exact j
     exact ⟨false, by simp [h1, d, k], by simp; intro hk; rw [hk] at j; exact j rfl⟩
   ·exact ⟨false, by simp [h1, d], by simp; intro hk; rw [hk] at d; exact d rfl⟩
  ·exact ⟨false, by simp [h1], by simp; intro hk; rw [hk] at h1; exact h1 rfl⟩
theorem Oe (a b : Formula) (h : Gd a) : vH lE a b = some (ru a b) := by
 have := wL a
 unfold Gd at h
 obtain ⟨x, e, d⟩ := Sh lE a (by rw [ni]; omega) b
 rw [e]; congr 1
 rw [bN, d, Bi]
end Go.Proofs.YtmlncblocfcmiaaGreat
namespace Go.Proofs.YtmlncblocfcmiaaGreat
open Go.RowKit
section
variable {α : Type} {lt : α → α → Bool}
def Lt (lt : α → α → Bool) (l : List α) : Prop := l.Pairwise fun x y => lt y x = false
theorem EE (h : SWO lt) (k : α) : ∀ {l : List α}, Lt lt l → ∃ A B, l = A ++ B ∧ (∀ x ∈ A, lt k x = false) ∧ (∀ x ∈ B, lt k x = true)
 | [], _ => ⟨[], [], rfl, by simp, by simp⟩
 | x :: l, i => by
  obtain ⟨h1, b⟩ := cK.1 i
  cases e : lt k x with
  | true =>
   refine ⟨[], x :: l, rfl, by simp, fun y a => ?_⟩
   rcases aK.1 a with rfl | a
   ·exact e
   ·rcases h.M2 _ y _ e with q | q
    ·exact q
    ·rw [h1 y a] at q; cases q
  | false =>
   obtain ⟨A, B, rfl, d, g⟩ := EE h k b
   exact ⟨x :: A, B, rfl, fun y a => by
    rcases aK.1 a with rfl | a
    ·exact e
    ·exact d y a, g⟩
theorem Hg {k : α} {A B : List α} (b : ∀ x ∈ A, lt k x = false) (d : ∀ x ∈ B, lt k x = true) : BS lt (A ++ B) k = A ++ k :: B := by
 unfold BS
 rw [jO, jO]
 rw [iL.2 (fun x a => by rw [b x a]; rfl), List.filter_eq_nil_iff.2 (fun x a => by rw [d x a]; simp), List.filter_eq_nil_iff.2 (fun x a => by rw [b x a]; simp), iL.2 (fun x a => d x a)]
 simp
theorem Le (h : SWO lt) {k : α} {A B : List α} (g : Lt lt (A ++ B)) (i : ∀ x ∈ A, lt k x = false) (j : ∀ x ∈ B, lt k x = true) : Lt lt (A ++ k :: B) := by
 unfold Lt at *
 rw [cU] at *
 refine ⟨g.1, cK.2 ⟨fun x l => h.asym (j x l), g.2.1⟩, fun a ha b d => ?_⟩
 rcases aK.1 d with rfl | d
 ·exact i a ha
 ·exact g.2.2 a ha b d
variable {eq : α → α → Bool}
theorem H8 (he : ∀ x y, eq x y = true ↔ x = y) (k : α) : ∀ (l : List α) (p : α), nV eq p (l ++ [k]) = if eq k ((l.getLast?).getD p) then nV eq p l else nV eq p l ++ [k]
 | [], p => by
  rw [aU, nV, nV]
  rfl
 | y :: l, p => by
  have e : ((y :: l).getLast?).getD p = (l.getLast?).getD y := by cases l <;> rfl
  rw [bO, nV, nV, H8 he k l y, e]
  by_cases h1 : eq y p = true
  ·rw [aT h1, aT h1]
  ·rw [aY h1, aY h1]
   split <;> rfl
def Ad (eq : α → α → Bool) (l : List α) (k : α) : Bool := match l.getLast? with | some y => eq y k | none => false
theorem NG (x : α) (l : List α) : (x :: l).getLast? = some ((l.getLast?).getD x) := by cases l <;> rfl
theorem PT (he : ∀ x y, eq x y = true ↔ x = y) (k : α) (l : List α) : dd eq (l ++ [k]) = if Ad eq l k then dd eq l else dd eq l ++ [k] := by
 cases l with
 | nil => rfl
 | cons x l =>
  have a : dd eq ((x :: l) ++ [k]) = x :: nV eq x (l ++ [k]) := rfl
  have b : dd eq (x :: l) = x :: nV eq x l := rfl
  unfold Ad
  rw [a, b, H8 he, NG]
  simp only
  by_cases h : (l.getLast?).getD x = k
  ·rw [h, aT ((he k k).2 rfl), aT ((he k k).2 rfl)]
  ·rw [aY (fun q => h ((he _ _).1 q).symm), aY (fun q => h ((he _ _).1 q))]; rfl
theorem JT (he : ∀ x y, eq x y = true ↔ x = y) (y : α) (B : List α) : ∀ (l : List α) (p : α), y ≠ (l.getLast?).getD p → nV eq p (l ++ y :: B) = nV eq p l ++ y :: nV eq y B
 | [], p, h => by
  have h : y ≠ p := h
  rw [aU]
  have e : nV eq p (y :: B) = if eq y p then nV eq y B else y :: nV eq y B := rfl
  rw [e, aY (fun q => h ((he _ _).1 q))]; rfl
 | z :: l, p, h => by
  have e : ((z :: l).getLast?).getD p = (l.getLast?).getD z := by cases l <;> rfl
  rw [e] at h
  rw [bO, nV, nV, JT he y B l z h]
  split <;> rfl
theorem NJ (he : ∀ x y, eq x y = true ↔ x = y) (A : List α) : ∀ B : List α, (∀ y, B.head? = some y → A.getLast? ≠ some y) → dd eq (A ++ B) = dd eq A ++ dd eq B
 | [], _ => by rw [aQ]; show _ = dd eq A ++ []; rw [aQ]
 | y :: B, h => by
  have h := h y rfl
  cases A with
  | nil => rfl
  | cons x A =>
   have e : (x :: A).getLast? = some ((A.getLast?).getD x) := by cases A <;> rfl
   rw [e] at h
   rw [bO, dd, dd, dd, JT he y B A x (fun q => h (by rw [q]))]; rfl
theorem Ik (he : ∀ x y, eq x y = true ↔ x = y) : ∀ (l : List α) (p : α), ((nV eq p l).getLast?).getD p = (l.getLast?).getD p
 | [], p => by rw [nV]
 | y :: l, p => by
  have e : ((y :: l).getLast?).getD p = (l.getLast?).getD y := by cases l <;> rfl
  rw [nV, e, ← Ik he l y]
  by_cases h : eq y p = true
  ·rw [aT h, (he _ _).1 h]
  ·rw [aY h]
   cases nV eq y l <;> rfl
theorem QA (he : ∀ x y, eq x y = true ↔ x = y) (l : List α) : (dd eq l).getLast? = l.getLast? := by
 cases l with
 | nil => rfl
 | cons x l =>
  have e : ∀ m : List α, (x :: m).getLast? = some ((m.getLast?).getD x) := by intro m; cases m <;> rfl
  rw [dd, e, e, Ik he]
theorem Rs (h : SWO lt) (he : ∀ x y, eq x y = true ↔ x = y) {k : α} {A B : List α} (g : ∀ x ∈ A, lt k x = false) (d : ∀ x ∈ B, lt k x = true) :
  dd eq (A ++ B) = dd eq A ++ dd eq B ∧ dd eq (A ++ k :: B) = (if Ad eq A k then dd eq A else dd eq A ++ [k]) ++ dd eq B := by
 have h1 : ∀ y, B.head? = some y → A.getLast? ≠ some y := fun y b a => by
  have := d y (List.mem_of_mem_head? b)
  rw [g y (List.mem_of_getLast? a)] at this; cases this
 refine ⟨NJ he A B h1, ?_⟩
 have e : A ++ k :: B = (A ++ [k]) ++ B := by simp
 rw [e, NJ he (A ++ [k]) B, PT he]
 intro y b a
 rw [List.getLast?_append] at a
 simp only [List.getLast?_singleton, Option.some_or, gW] at a
 have := d y (List.mem_of_mem_head? b)
 rw [a, h.Pn] at this; cases this
end
end Go.Proofs.YtmlncblocfcmiaaGreat
namespace Go.Proofs.YtmlncblocfcmiaaGreat
open Go.RowKit
theorem GJ (l : List Formula) (k : Formula) (g : ∀ x ∈ l, Gd x) (hk : Gd k) (A : List Formula) (j : ∀ x ∈ A, ow BV k x = false) : ∀ (m : Nat) (B C : List Formula), B.length = m → l = A ++ B ++ C → (∀ x ∈ B, ow BV k x = true) → l.length ≤ 1000000 → ∀ n, m < n →
  tV l k n ((A.length + B.length : Nat) : Int) = some (A.length : Int)
 | 0, B, C, hm, a, d, hlen, n + 1, r => by
  obtain rfl := aR hm
  rw [tV]
  simp only [bU, iE]
  rcases cW A with rfl | ⟨A', y, rfl⟩
  ·rfl
  ·rw [eE] at *
   have hp : ((A' ++ [y]).length : Int) > 0 := by simp
   simp only [hp, bT, aJ]
   have hw : IntKind.i64.wrap (((A' ++ [y]).length : Int) - 1) = (A'.length : Int) := by
    simp at hlen a ⊢
    rw [a] at hlen
    simp at hlen
    rw [lJ (by omega) (by omega)]
   rw [hw, show mF l (A'.length : Int) = some y from by rw [a]; simp only [aQ, aH]; exact nP A' y C _ rfl, aA]
   have i : y ∈ l := by rw [a]; simp
   obtain ⟨c, e, h⟩ := I2 y k (g y i) hk
   have b : ¬ c > 0 := fun q => by have := h.1 q; rw [j y (by simp)] at this; cases this
   rw [e, aA]
   simp [b]
 | m + 1, B, C, hm, a, d, hlen, n + 1, r => by
  rcases cW B with rfl | ⟨B', y, rfl⟩
  ·simp at hm
  ·rw [eE] at *
   rw [tV]
   have hp : ((A.length + (B' ++ [y]).length : Nat) : Int) > 0 := by simp; omega
   simp only [hp, bT, aJ]
   have hw : IntKind.i64.wrap (((A.length + (B' ++ [y]).length : Nat) : Int) - 1) = ((A.length + B'.length : Nat) : Int) := by
    rw [a] at hlen
    simp at hlen
    rw [lJ (by simp; omega) (by simp; omega)]; simp; omega
   have p : mF l ((A.length + B'.length : Nat) : Int) = some y := by
    rw [a]
    have e : A ++ (B' ++ [y]) ++ C = (A ++ B') ++ y :: C := by simp
    rw [e]
    exact nP (A ++ B') y C _ (by simp)
   rw [hw, p, aA]
   have i : y ∈ l := by rw [a]; simp
   obtain ⟨c, e, h⟩ := I2 y k (g y i) hk
   have b : c > 0 := h.2 (d y (by simp))
   rw [e, aA]
   simp only [b, bT, aA, aJ]
   exact GJ l k g hk A j m B' (y :: C) (by simp at hm; omega) (by rw [a]; simp) (fun x s => d x (by simp [s])) hlen n (by omega)
theorem Tu {b : Bool} (h : b = true) : qZ b = some () := by rw [h]; rfl
theorem FF (a : Bool) (k : Formula) (ks A B : List Formula) (j : ∀ x ∈ A ++ B, Gd x) (hk : Gd k) (l : ∀ x ∈ A, ow BV k x = false) (m : ∀ x ∈ B, ow BV k x = true) (hlen : (A ++ B).length ≤ 1000000) :
  nN a (k :: ks) (A ++ B) = if a && Ad ru A k then nN a ks (A ++ B) else nN a ks (A ++ k :: B) := by
 have i := GJ (A ++ B) k j hk A l B.length B [] rfl (by simp) m hlen lE (by rw [ni]; simp at hlen; omega)
 have b : A.length + B.length ≤ 1000000 := by simpa using hlen
 rw [nN, aD, i, aA]
 have rest : ((qZ (decide ((0 : Int) ≤ (A.length : Int)) && decide ((A.length : Int) ≤ ((A ++ B).length : Int)))).bind fun _ => (nE 72 ([]) ((A ++ B).take (Int.toNat (A.length : Int)))).bind fun d => (nE 72 d ([k])).bind fun g => (qZ (decide ((0 : Int) ≤ (A.length : Int)) && decide ((A.length : Int) ≤ ((A ++ B).length : Int)))).bind fun _ => (nE 72 g ((A ++ B).drop (Int.toNat (A.length : Int)))).bind fun h => nN a ks h) = nN a ks (A ++ k :: B) := by
  rw [Tu (by simp; omega), aA, dJ, je, List.drop_left, nR (by simp; omega) (by simp; omega), aA, nR (by simp; omega) (by simp; omega), aA, aA, nR (by simp; omega) (by simp; omega), aA]
  simp
 rw [aD] at rest
 cases a with
 | false => exact rest
 | true =>
  simp only [aJ, aA, eJ]
  rcases cW A with rfl | ⟨A', y, rfl⟩
  ·exact rest
  ·rw [eE] at *
   have hp : ((A' ++ [y]).length : Int) > 0 := by simp
   simp only [hp, bT, aJ]
   have hw : IntKind.i64.wrap (((A' ++ [y]).length : Int) - 1) = (A'.length : Int) := by
    simp at b ⊢
    rw [lJ (by omega) (by omega)]
   have p : mF ((A' ++ [y]) ++ B) (A'.length : Int) = some y := by
    simp only [aH, bO, aU]
    exact nP A' y B _ rfl
   rw [hw, p, aA, Oe y k (j y (by simp)), aA, aA]
   have n : Ad ru (A' ++ [y]) k = ru y k := by unfold Ad; rw [List.getLast?_append]; rfl
   rw [n]
   cases ru y k
   ·simp only [aB, aG]; exact rest
   ·rfl
theorem Hb {x : Formula} {l : List Formula} (h : x ∈ dd ru l) : x ∈ l := (Jx (fun _ _ => Bi) l x).1 h
theorem FV : ∀ (ks S : List Formula), Lt (ow BV) S → (∀ x ∈ S, Gd x) → (∀ x ∈ ks, Gd x) → S.length + ks.length ≤ 1000000 → nN true ks (dd ru S) = some (dd ru (ks.foldl (BS (ow BV)) S))
 | [], S, _, _, _, _ => by rw [nN]; rfl
 | k :: ks, S, j, g, hk, m => by
  rw [aI] at m
  obtain ⟨A, B, rfl, b, d⟩ := EE HV k j
  obtain ⟨n, p⟩ := Rs (eq := ru) HV (fun _ _ => Bi) b d
  have i := J2 ru (A ++ B)
  rw [n] at i ⊢
  rw [FF true k ks (dd ru A) (dd ru B) (fun x a => by
   rcases aN.1 a with h | h
   ·exact g x (by simp [Hb h])
   ·exact g x (by simp [Hb h])) (hk k (by simp)) (fun x a => b x (Hb a)) (fun x a => d x (Hb a)) (by omega), iR, Hg b d]
  have q : Ad ru (dd ru A) k = Ad ru A k := by unfold Ad; rw [QA (eq := ru) (fun _ _ => Bi)]
  rw [q, eJ]
  have ih := FV ks (A ++ k :: B) (Le HV j b d) (fun x a => by
   rcases aN.1 a with h | h
   ·exact g x (by simp [h])
   ·rcases aK.1 h with rfl | h
    ·exact hk _ (by simp)
    ·exact g x (by simp [h])) (fun x a => hk x (by simp [a])) (by simp at m ⊢; omega)
  rw [p] at ih
  cases l : Ad ru A k
  ·rw [l] at ih
   simp only [aB, aG] at ih ⊢
   rw [← ih]; simp
  ·rw [l] at ih
   simp only [aJ] at ih ⊢
   exact ih
theorem G3 : ∀ (ks S : List Formula), Lt (ow BV) S → (∀ x ∈ S, Gd x) → (∀ x ∈ ks, Gd x) → S.length + ks.length ≤ 1000000 → nN false ks S = some (ks.foldl (BS (ow BV)) S)
 | [], S, _, _, _, _ => by rw [nN]; rfl
 | k :: ks, S, i, d, hk, j => by
  rw [aI] at j
  obtain ⟨A, B, rfl, a, b⟩ := EE HV k i
  rw [FF false k ks A B d (hk k (by simp)) a b (by omega), iR, Hg a b, iC]
  simp only [aB, aG]
  exact G3 ks (A ++ k :: B) (Le HV i a b) (fun x g => by
   rcases aN.1 g with h | h
   ·exact d x (by simp [h])
   ·rcases aK.1 h with rfl | h
    ·exact hk _ (by simp)
    ·exact d x (by simp [h])) (fun x g => hk x (by simp [g])) (by simp at j ⊢; omega)
theorem Sv (l : List Formula) (h : ∀ x ∈ l, Gd x) (a : l.length ≤ 1000000) : xC l true = some (dd ru (vG l)) := FV l [] List.Pairwise.nil (by simp) h (by simpa using a)
theorem TA (l : List Formula) (h : ∀ x ∈ l, Gd x) (a : l.length ≤ 1000000) : xC l false = some (vG l) := G3 l [] List.Pairwise.nil (by simp) h (by simpa using a)
end Go.Proofs.YtmlncblocfcmiaaGreat
namespace Go.Proofs.YtmlncblocfcmiaaGreat
open Go.RowKit
theorem Fv (f : Formula) (op : Int) : xw f op = some (mB op f) := D3 f op
theorem I3 (op : Int) (a : op = 2 ∨ op = 3) (s : nJ) : ∀ l : List Formula, rO op s l = some (if l.any (mB (5 - op)) then .inl (⟨5 - op, 0, qL, []⟩, s) else .inr ())
 | [] => rfl
 | x :: l => by
  have hw : IntKind.i64.wrap (5 - op) = 5 - op := lJ (by omega) (by omega)
  rw [rO, hw, Fv, aA, iO, I3 op a s l]
  cases mB (5 - op) x <;> rfl
theorem Nt (op : Int) (a : op = 2 ∨ op = 3) (l : List Formula) (j : nodesL l ≤ 64) : ox op ⟨false⟩ [] l = some (if l.any (mB (5 - op)) then ⟨5 - op, 0, qL, []⟩ else match dd ru (vG l) with | [x] => x | r => ⟨op, 0, qL, r⟩, ⟨false⟩) := by
 have g := qJ l
 rw [ox, I3 op a, aA]
 cases h : l.any (mB (5 - op))
 ·simp only [aB, aG]
  rw [Sv l (fun x d => by have := ud d; unfold Gd; omega) (by omega), aA]
  have i := J2 ru (vG l)
  have hp := (yV l).length_eq
  have b : ¬ (((dd ru (vG l)).length : Int) > 64) := by omega
  simp only [b, bV, aB, aG, aA]
  generalize dd ru (vG l) = r
  match r with
  | [] => rfl
  | [x] => rfl
  | x :: y :: r =>
   have : (((x :: y :: r).length : Int) == 1) = false := by simp; omega
   simp only [this, aB, aG]
   rfl
 ·rfl
theorem Gn (op : Int) (d : op = 2 ∨ op = 3) : ∀ (ks acc : List Formula), nodesL acc + nodesL ks ≤ 64 →
  ox op ⟨false⟩ ks acc = some (if (acc ++ oN op ks).any (mB (5 - op)) then ⟨5 - op, 0, qL, []⟩ else match dd ru (vG (acc ++ oN op ks)) with | [x] => x | r => ⟨op, 0, qL, r⟩, ⟨false⟩)
 | [], acc, h => by
  rw [nodesL] at h
  rw [oN, aQ]
  exact Nt op d acc (by omega)
 | k :: ks, acc, h => by
  rw [nodesL] at h
  have h1 := oV k
  have l := qJ k.Kids
  have m := qJ acc
  have e : ∀ a b : List Formula, nodesL (a ++ b) = nodesL a + nodesL b := by
   intro a b
   induction a with
   | nil => rw [aU, nodesL]; omega
   | cons x a g => rw [bO, nodesL, nodesL, g]; omega
  have hw : IntKind.i64.wrap (5 - op) = 5 - op := lJ (by omega) (by omega)
  rw [ox, oN]
  by_cases c : k.Op = op
  ·simp only [c, aV, aJ]
   rw [nR (by omega) (by omega), aA, Gn op d ks _ (by rw [e]; omega), aH]
  ·have i : (k.Op == op) = false := by simpa using c
   simp only [i, aB, aG, c]
   rw [Fv, hw, aA]
   cases j : mB (5 - op) k
   ·simp only [aB, aG]
    rw [nR (by simp; omega) (by simp; omega), aA, Gn op d ks _ (by rw [e, nodesL, nodesL]; omega), aH]
   ·simp only [aJ]
    have : (acc ++ ([k] ++ oN op ks)).any (mB (5 - op)) = true := by simp [j]
    rw [this]; rfl
theorem LL (op : Int) (a : op = 2 ∨ op = 3) (ks : List Formula) (h : nodesL ks ≤ 64) : rE ⟨false⟩ op ks = some (pX op ks, ⟨false⟩) := by
 unfold rE pX
 rw [Gn op a ks [] (by rw [nodesL]; omega), aU]
 rfl
theorem Co : ∀ (ks acc : List Formula) (k : Int), -1000 ≤ k - (ks.length : Int) → k ≤ 1000 → acc.length + ks.length ≤ 1000 →
  oq ks k acc = some (k - ((ks.filter (mB 2)).length : Int), acc ++ ks.filter fun x => !mB 2 x && !mB 3 x)
 | [], acc, k, h1, a, b => by rw [oq]; simp
 | x :: ks, acc, k, h1, a, b => by
  simp only [aI] at h1 b
  rw [oq, Fv, aA, Fv, aA]
  rw [eB, eB]
  cases c2 : mB 2 x
  ·cases d : mB 3 x
   ·simp only [cX, ke, aB, aG, aJ]
    rw [nR (by simp; omega) (by simp; omega), aA, Co ks _ k (by omega) a (by simp; omega)]
    simp only [aH, bO, aU]
   ·simp only [cX, cA, Bool.and_false, aB, aG]
    rw [Co ks _ k (by omega) a (by omega)]
  ·simp only [cA, iC, aB, aG, aJ]
   rw [lJ (by omega) (by omega), Co ks _ (k - 1) (by omega) (by omega) (by omega)]
   simp only [aI]
   have e : k - 1 - ((ks.filter (mB 2)).length : Int) = k - (((ks.filter (mB 2)).length + 1 : Nat) : Int) := by omega
   rw [e]
theorem Rk : ∀ (n : Nat) (f : Formula), oK f ≤ n → lF f ≤ 64 → tZ f = true → pK n ⟨false⟩ f = some (qw f, ⟨false⟩) := by
 intro n
 induction n with
 | zero => intro f h; rw [nI] at h; omega
 | succ n ih =>
  intro f v E hw
  rw [nI] at v
  have w := oV f
  obtain ⟨h1, u, q⟩ := yc hw
  rw [pK]
  unfold vR
  rw [AB]
  by_cases c1 : f.Op = 1
  ·simp only [c1, aV, aJ]
  ·have r : (f.Op == 1) = false := by simpa using c1
   simp only [r, aB, aG, c1]
   have last : ∀ acc : List Formula, nodesL acc ≤ 64 → oR (pK n) f [] acc ⟨false⟩ = some (if f.Op = 4 then tQ f.K acc else pX f.Op acc, ⟨false⟩) := by
    intro acc b
    have hlen := qJ acc
    have D := zx (fun x => !mB 2 x && !mB 3 x) acc
    rw [oR]
    by_cases p : f.Op = 4
    ·have hk : 0 ≤ f.K ∧ f.K ≤ (f.Kids.length : Int) := by rcases q with h | h | h <;> omega
     have i : ¬ f.Op < 4 := by omega
     simp only [i, p, bV, aB, aG, aJ]
     rw [Co acc [] f.K (by omega) (by omega) (by simp; omega), aA, aU]
     unfold tQ
     simp only
     have g := qJ (acc.filter fun x => !mB 2 x && !mB 3 x)
     have hm : ∀ x ∈ (acc.filter fun x => !mB 2 x && !mB 3 x), Gd x := fun x y => by have := ud y; unfold Gd; omega
     generalize (acc.filter fun x => !mB 2 x && !mB 3 x) = l at *
     generalize f.K - ((acc.filter (mB 2)).length : Int) = k
     by_cases d1 : k ≤ 0
     ·simp only [d1, bT, aJ]; rfl
     ·simp only [d1, bV, aB, aG]
      by_cases d2 : k > (l.length : Int)
      ·simp only [d2, bT, aJ]; rfl
      ·simp only [d2, bV, aB, aG]
       by_cases d3 : k = (l.length : Int)
       ·simp only [← d3, aV, aJ]
        rw [LL 2 (.inl rfl) l (by omega), aA]
        rfl
       ·have s : (k == (l.length : Int)) = false := by simpa using d3
        simp only [s, aB, aG, d3]
        by_cases d4 : k = 1
        ·simp only [d4, aV, aJ]
         rw [LL 3 (.inr rfl) l (by omega), aA]
         rfl
        ·have t : (k == 1) = false := by simpa using d4
         simp only [t, aB, aG, d4]
         rw [TA l hm (by omega)]
         rfl
    ·have j : f.Op = 2 ∨ f.Op = 3 := by rcases q with h | h | h <;> omega
     have i : f.Op < 4 := by omega
     simp only [i, p, bT, aJ, aG]
     rw [LL f.Op j acc b, aA]
   have key : ∀ (ks acc : List Formula), (∀ k ∈ ks, k ∈ f.Kids) → wellL ks = true → nodesL (acc ++ shapeL ks) ≤ 64 → nodesL ks ≤ 64 → oR (pK n) f ks acc ⟨false⟩ = some (if f.Op = 4 then tQ f.K (acc ++ shapeL ks) else pX f.Op (acc ++ shapeL ks), ⟨false⟩) := by
    intro ks
    induction ks with
    | nil =>
     intro acc _ _ b _
     rw [shapeL, aQ] at *
     exact last acc b
    | cons k ks m =>
     intro acc hk a b g
     rw [wellL, aZ] at a
     rw [nodesL] at g
     rw [shapeL] at b
     have d := qJ (acc ++ qw k :: shapeL ks)
     simp only [aD, aI] at d
     rw [oR, ih k (by have := rN (hk k (by simp)); omega) (by omega) a.1, aA, nR (by simp; omega) (by simp; omega), aA,
      m (acc ++ [qw k]) (fun z A => hk z (by simp [A])) a.2 (by rw [aH]; exact b) (by omega), shapeL]
     simp only [aH, bO, aU]
   have := EA f.Kids
   have := key f.Kids [] (fun k hk => hk) u (by simpa using by omega) (by omega)
   simpa using this
theorem PI (f : Formula) (h : Gd f) : A0 f = some (xU f) := by
 unfold A0 xU
 rw [Hn f h, aA]
 cases b : oD f
 ·rfl
 ·obtain ⟨h1, d, a⟩ := zX b
  have g := Am f
  simp only [cA, aB, aG, aJ]
  rw [Rk lE f (by rw [ni]; omega) h1 a, aA, Hn (qw f) (by unfold Gd; omega)]
  simp only [aB, aG, aA]
  cases oD (qw f) <;> rfl
theorem Hq (c : kJ) : ∀ (l : List nS) (e o k : Int) (r : kI) (ks : List Formula), (∀ a ∈ l, lF a.kO ≤ 10000000) → lF ⟨o, k, r, ks⟩ ≤ 64 →
  uO c l e o k r ks = some (let t := qa (⟨o, k, r, ks⟩, e) ((l.filter fun a => rZ lV a.nM c).map (·.kO)); (t.2, t.1.Op, t.1.K, t.1.kI, t.1.Kids))
 | [], e, o, k, r, ks, _, _ => by rw [uO, jB, gD, qa]
 | a :: l, e, o, k, r, ks, h, p => by
  have ha := h a (by simp)
  have j : ∀ x ∈ l, lF x.kO ≤ 10000000 := fun x v => h x (by simp [v])
  rw [uO, eB, KM]
  by_cases d : e = 0
  ·have i : (e == 0) = true := by simp [d]
   simp only [i, aJ, aA]
   cases z : rZ lV a.nM c
   ·simp only [aB, aG]
    exact Hq c l e o k r ks j p
   ·simp only [aJ]
    rw [bP, qa]
    simp only [d, aJ]
    have s : Gd ⟨2, 0, qL, [⟨o, k, r, ks⟩, a.kO]⟩ := by show lF _ ≤ _; rw [lF, nodesL, nodesL, nodesL]; omega
    rw [show (⟨2, 0, (⟨zS, zS⟩ : kI), [(⟨o, k, r, ks⟩ : Formula), a.kO]⟩ : Formula) = ⟨2, 0, qL, [⟨o, k, r, ks⟩, a.kO]⟩ from rfl, PI _ s, aA]
    have u := yR (f := ⟨2, 0, qL, [⟨o, k, r, ks⟩, a.kO]⟩)
    generalize xU ⟨2, 0, qL, [⟨o, k, r, ks⟩, a.kO]⟩ = q at *
    obtain ⟨⟨w, k', y, n⟩, e'⟩ := q
    exact Hq c l e' w k' y n j u
  ·have i : (e == 0) = false := by simpa using d
   simp only [i, aB, aG, aA]
   rw [Hq c l e o k r ks j p]
   have b : ∀ m : List Formula, qa (⟨o, k, r, ks⟩, e) m = (⟨o, k, r, ks⟩, e) := by
    intro m
    cases m with
    | nil => rw [qa]
    | cons g m => rw [qa]; simp only [d, aG]
   rw [b, b]
theorem MZ (c : kJ) (p : lT) (hp : PB p) : ∀ l : List kY, (∀ x ∈ l, x ∈ p.kR) → yx c p l = some (match l.find? (fun x => lV x.Signed.kJ c) with | none => (E4, 42) | some x => BQ x.kO ((xk p c).map (·.kO)))
 | [], _ => rfl
 | x :: l, h => by
  rw [yx, fX]
  cases j : lV x.Signed.kJ c
  ·simp only [cX, aJ]
   exact MZ c p hp l (fun z g => h z (by simp [g]))
  ·simp only [cA, aB, aG]
   have m := hp.rel x (h x (by simp))
   have d := yR (f := x.kO)
   rw [PI _ (by unfold Gd; omega), aA]
   unfold BQ xk
   generalize xU x.kO = q at *
   obtain ⟨⟨o, k, r, ks⟩, e⟩ := q
   rw [Hq c p.lC e o k r ks hp.CQ d, aA]
   simp only
   generalize qa (⟨o, k, r, ks⟩, e) ((p.lC.filter fun a => rZ lV a.nM c).map (·.kO)) = t
   obtain ⟨⟨n, k', s, i⟩, e'⟩ := t
   by_cases c1 : e' = 0
   ·subst c1; rfl
   ·have b : (e' != 0) = true := by simp [c1]
    simp only [b, aJ, c1, aG]; rfl
theorem Sx (p : lT) (hp : PB p) (c : kJ) : Eb p c = some (pG p c) := by
 unfold Eb pG zq
 refine (MZ c p hp _ (fun x a => a)).trans ?_
 cases p.kR.find? (fun x => lV x.Signed.kJ c) <;> rfl
end Go.Proofs.YtmlncblocfcmiaaGreat
namespace Go.Proofs.YtmlncblocfcmiaaGreat
open Go.RowKit
theorem Ts (l : List kI) (r : kI) : CH l r = some (rZ lu l r) := by
 unfold CH
 induction l with
 | nil => rfl
 | cons x l ih =>
  rw [zO, ih]
  have e : rZ lu (x :: l) r = (lu r x || rZ lu l r) := rfl
  have a : lu x r = lu r x := by rw [bN, lx, lx]; exact eq_comm
  rw [e, a]
  cases lu r x <;> rfl
theorem Gb (l : List kI) (rec : Formula → List kI → Option Bool) (f : Formula) (v : kI → Bool) : ∀ (ks : List Formula) (x : Nat), (∀ k ∈ ks, rec k l = some (qP v k)) → x + ks.length ≤ 100000000 →
  tJ rec l f ks (x : Int) = some (if f.Op = 2 then decide (x + evN v ks = f.Kids.length) else if f.Op = 3 then decide (0 < x + evN v ks) else decide (f.K ≤ ((x + evN v ks : Nat) : Int)))
 | [], x, _, _ => by
  rw [tJ, evN, iE]
  by_cases c2 : f.Op = 2
  ·simp only [c2, aV, aJ]
   congr 1
   rw [bN, iT, bK]; omega
  ·have b : (f.Op == 2) = false := by simpa using c2
   simp only [b, aB, aG, c2]
   by_cases a : f.Op = 3
   ·simp only [a, aV, aJ]
    congr 1
    rw [bN, bK, bK]; omega
   ·have g : (f.Op == 3) = false := by simpa using a
    simp only [g, aB, aG, a]
    first | done | rfl
 | k :: ks, x, h, i => by
  rw [aI] at i
  rw [tJ, h k (by simp), aA, evN]
  cases qP v k
  ·simp only [aB, aG]
   rw [Gb l rec f v ks x (fun z d => h z (by simp [d])) (by omega), eL]
  ·simp only [aJ]
   have e : IntKind.i64.wrap ((x : Int) + 1) = ((x + 1 : Nat) : Int) := by rw [lJ (by omega) (by omega)]; omega
   rw [e, Gb l rec f v ks (x + 1) (fun z d => h z (by simp [d])) (by omega)]
   have b : x + 1 + evN v ks = x + (1 + evN v ks) := by omega
   rw [b]
theorem Pq (l : List kI) : ∀ (n : Nat) (f : Formula), oK f ≤ n → Gd f → vC n f l = some (qP (rZ lu l) f) := by
 intro n
 induction n with
 | zero => intro f h; rw [nI] at h; omega
 | succ n ih =>
  intro f b d
  rw [nI] at b
  have g := oV f
  have i := qJ f.Kids
  unfold Gd at d
  rw [vC]
  unfold AU
  rw [wB, Ts]
  by_cases c1 : f.Op = 1
  ·simp only [c1, aV, aJ, aA]
  ·have a : (f.Op == 1) = false := by simpa using c1
   simp only [a, aB, aG, c1]
   have := Gb l (vC n) f (rZ lu l) f.Kids 0 (fun k hk => ih k (by have := rN hk; omega) (by have := ud hk; unfold Gd; omega)) (by omega)
   simpa using this
theorem Ix (F : List lf) (w : ByteArray) : rZ lu (GX F w) = vF F w := by
 funext r
 unfold vF GX
 rw [bN, pz lx, pz wF, bB]
 constructor
 ·rintro ⟨f, b, rfl⟩
  obtain ⟨h1, a⟩ := cD.1 b
  have := nh.1 a
  rw [← this]; exact h1
 ·intro h
  exact ⟨⟨r, w⟩, cD.2 ⟨h, nh.2 rfl⟩, rfl⟩
theorem D7 (p : lT) (hp : PB p) (l : List kI) (v : kI → Bool) (a : rZ lu l = v) : ∀ (xs : List kY) (acc : List kJ), acc.length + xs.length ≤ 1000000000 → tI p l xs acc = An (acc ++ (xs.filter (Al p v)).map (·.Signed.kJ))
 | [], acc, _ => by rw [tI, jB, gD, aQ, pU]
 | x :: xs, acc, h => by
  rw [aI] at h
  have g := HW p x.Signed.kJ
  have d := wL (pG p x.Signed.kJ).1
  rw [tI, Sx p hp, aA, Pq l lE _ (by rw [ni]; omega) (by unfold Gd; omega), a, eB]
  unfold Al
  by_cases c : (pG p x.Signed.kJ).2 = 0
  ·have b := (M9 c).1
   simp only [c, aV, aJ, bT, eJ, aA]
   unfold uW
   rw [b, eJ]
   cases i : qP v (pG p x.Signed.kJ).1
   ·simp only [aB, aG]
    exact D7 p hp l v a xs acc (by omega)
   ·simp only [aJ]
    rw [nR (by simp; omega) (by simp; omega), aA, D7 p hp l v a xs _ (by simp; omega)]
    simp only [bP, aH, bO, aU]
    rfl
  ·have e : ((pG p x.Signed.kJ).2 == 0) = false := by simpa using c
   simp only [e, aB, aG, c, bV, iC, aA]
   exact D7 p hp l v a xs acc (by omega)
theorem Sd {l : List kJ} {F : List lf} (h : Jv l F) (peer : ByteArray) : vF F peer = vD l peer := by
 funext r
 rw [bN, EY]
 unfold vF
 rw [pz wF, (h.xo (l.filter mI) (fun c => by rw [cD])).2]
theorem PA (p : lT) (hp : PB p) (l : List kJ) (d : l.length ≤ 30000) (peer : ByteArray) : zw p l peer = tz p l peer := by
 obtain ⟨F, a⟩ := R4 l d
 obtain ⟨s, e, g⟩ := PW p hp a peer
 have := hp.DV
 have h1 : (p.kR.filter (Al p (vF F peer))).length ≤ p.kR.length := fV _ _
 have hlen := a.len
 unfold zw
 rw [a.ref, aA, show uN F peer = some (GX F peer) from M1 F peer (by omega), aA, e]
 rw [D7 p hp _ (vF F peer) (Ix F peer) p.kR [] (by simp; omega), aU]
 obtain ⟨t, b, h⟩ := Lj ((p.kR.filter (Al p (vF F peer))).map (·.Signed.kJ)) (by simp; omega)
 rw [b, wZ.unique DC h g]
end Go.Proofs.YtmlncblocfcmiaaGreat
namespace Go.Proofs.YtmlncblocfcmiaaGreat
open Go.RowKit
theorem Kf : ∀ (l m A : List kJ), l.length = m.length → ∃ b, vi (A ++ m) l A.length = some b ∧ (b = true ↔ l = m)
 | [], m, A, d => by
  obtain rfl := aR d.symm
  exact ⟨true, by rw [vi], by simp⟩
 | x :: l, [], A, d => by simp at d
 | x :: l, y :: m, A, d => by
  have i1 : mF (A ++ y :: m) (A.length : Int) = some y := nP _ _ _ _ rfl
  rw [vi, i1, aA]
  cases g : lV x y with
  | false =>
   refine ⟨false, by simp [g], ?_⟩
   have : x ≠ y := fun a => by have := mC.2 a; rw [this] at g; cases g
   simp [this]
  | true =>
   have a := mC.1 g
   obtain ⟨b, h, k⟩ := Kf l m (A ++ [y]) (by simpa using d)
   have i : A ++ y :: m = (A ++ [y]) ++ m := by simp
   have j : A.length + 1 = (A ++ [y]).length := by simp
   simp only [cA, aB, aG]
   rw [i, j, h]
   exact ⟨b, rfl, by rw [k]; simp [a]⟩
theorem SD (l m : List kJ) : ∃ b, xl l m = some b ∧ (b = true ↔ l = m) := by
 unfold xl
 by_cases h : l.length = m.length
 ·have : ((l.length : Int) != (m.length : Int)) = false := by simp [h]
  simp only [this, aB, aG]
  exact Kf l m [] h
 ·have : ((l.length : Int) != (m.length : Int)) = true := by simp; omega
  simp only [this, aJ]
  exact ⟨false, rfl, by simp; intro hk; rw [hk] at h; exact h rfl⟩
theorem JD {x p : List kJ} (sx : qH x) (sp : qH p) (h : ∀ c ∈ x, c ∈ p) : xl p x = some (decide (p.length = x.length)) := by
 obtain ⟨b, e, a⟩ := SD p x
 rw [e]; congr 1
 rw [bN, a, bK]
 exact ⟨fun q => by rw [q], fun q => (sx.eq sp h (by omega)).symm⟩
theorem GK (a b : lT) (ha : PB a) (g : PB b) (t : a.kR.length ≤ 30000) (u : b.kR.length ≤ 30000) : ∀ (n : Nat) (x y : List kJ) (i : Int), qH x → qH y → (∀ c ∈ x, sI a y b.Name c) → (∀ c ∈ y, sI b x a.Name c) →
  wC a b n x y i = qm a b n x y i
 | 0, x, y, i, sx, sy, h, j => by rw [wC, qm]
 | n + 1, x, y, i, sx, sy, h, j => by
  have h1 := yP sx (fun c d => (h c d).1)
  have v := yP sy (fun c d => (j c d).1)
  obtain ⟨p, r, sp, mp, w⟩ := IR a ha y (by omega) b.Name
  obtain ⟨q, s, sq, k, z⟩ := IR b g x (by omega) a.Name
  have l : ∀ c ∈ x, c ∈ p := fun c d => (mp c).2 (h c d)
  have m : ∀ c ∈ y, c ∈ q := fun c d => (k c).2 (j c d)
  rw [wC, qm, PA a ha y (by omega), PA b g x (by omega), r, s]
  simp only [aA]
  rw [JD sx sp l, JD sy sq m]
  simp only [aA]
  have ih := GK a b ha g t u n p q (IntKind.i64.wrap (i + 1)) sp sq (fun c d => wK m ((mp c).1 d)) (fun c d => wK l ((k c).1 d))
  rw [ih]
  have d1 : ((p.length : Int) == (x.length : Int)) = decide (p.length = x.length) := by
   rw [bN, iT, bK]; omega
  have d2 : ((q.length : Int) == (y.length : Int)) = decide (q.length = y.length) := by
   rw [bN, iT, bK]; omega
  rw [d1, d2]
theorem Qc (a b : lT) (ha : PB a) (d : PB b) (g : a.kR.length ≤ 30000) (h : b.kR.length ≤ 30000) : Gy a b = wG a b :=
 GK a b ha d g h lE [] [] 0 qH.nil qH.nil (by simp) (by simp)
end Go.Proofs.YtmlncblocfcmiaaGreat
namespace Go.Proofs.YtmlncblocfcmiaaGreat
open Go.RowKit
mutual
def zJ : Formula → Nat
 | ⟨_, _, r, ks⟩ => 1 + r.kK.size + r.kP.size + szFL ks
def szFL : List Formula → Nat
 | [] => 0
 | k :: ks => zJ k + szFL ks
end
theorem JS (f : Formula) : zJ f = 1 + f.kI.kK.size + f.kI.kP.size + szFL f.Kids := by cases f; rw [zJ]
theorem Cs : ∀ f : Formula, lF f ≤ zJ f := by
 refine Ja fun f ih => ?_
 have : ∀ ks : List Formula, (∀ k ∈ ks, lF k ≤ zJ k) → nodesL ks ≤ szFL ks := by
  intro ks
  induction ks with
  | nil => intro _; rw [nodesL]; omega
  | cons k ks a =>
   intro h
   have := a (fun x b => h x (by simp [b]))
   have := h k (by simp)
   rw [nodesL, szFL]; omega
 have := this f.Kids ih
 rw [oV, JS]; omega
def yF : List kJ → Nat
 | [] => 0
 | c :: l => 20 + yv c + yF l
theorem g5 : ∀ (l : List kJ) (n : Int), 0 ≤ n → n + (yF l : Int) ≤ 4000000000000000000 → sM l n = some (n + (yF l : Int))
 | [], n, _, _ => by rw [sM, yF]; simp
 | c :: l, n, b, a => by
  have e : yv c = c.Head.kK.size + c.Head.kP.size + c.lH.size + c.B.kK.size + c.B.kP.size + c.C.kK.size + c.C.kP.size + c.lM.size := rfl
  rw [yF] at a
  rw [sM]
  rw [lJ (x := 20 + (c.Head.kK.size : Int)) (by omega) (by omega), lJ (x := 20 + (c.Head.kK.size : Int) + (c.Head.kP.size : Int)) (by omega) (by omega), lJ (x := 20 + (c.Head.kK.size : Int) + (c.Head.kP.size : Int) + (c.lH.size : Int)) (by omega) (by omega), lJ (x := 20 + (c.Head.kK.size : Int) + (c.Head.kP.size : Int) + (c.lH.size : Int) + (c.B.kK.size : Int)) (by omega) (by omega), lJ (x := 20 + (c.Head.kK.size : Int) + (c.Head.kP.size : Int) + (c.lH.size : Int) + (c.B.kK.size : Int) + (c.B.kP.size : Int)) (by omega) (by omega), lJ (x := 20 + (c.Head.kK.size : Int) + (c.Head.kP.size : Int) + (c.lH.size : Int) + (c.B.kK.size : Int) + (c.B.kP.size : Int) + (c.C.kK.size : Int)) (by omega) (by omega), lJ (x := 20 + (c.Head.kK.size : Int) + (c.Head.kP.size : Int) + (c.lH.size : Int) + (c.B.kK.size : Int) + (c.B.kP.size : Int) + (c.C.kK.size : Int) + (c.C.kP.size : Int)) (by omega) (by omega), lJ (x := 20 + (c.Head.kK.size : Int) + (c.Head.kP.size : Int) + (c.lH.size : Int) + (c.B.kK.size : Int) + (c.B.kP.size : Int) + (c.C.kK.size : Int) + (c.C.kP.size : Int) + (c.lM.size : Int)) (by omega) (by omega), lJ (by omega) (by omega)]
  rw [g5 l _ (by omega) (by omega), yF]
  congr 1; omega
theorem TZ : ∀ (n : Nat) (l : List Formula), deepL l < n → szFL l ≤ 1000000000000 → ∃ r : Int, pH n l = some r ∧ 0 ≤ r ∧ r ≤ (szFL l : Int) := by
 intro n
 induction n with
 | zero => intro l h; omega
 | succ n ih =>
  intro l h g
  rw [pH]
  unfold xh
  have key : ∀ (l : List Formula) (x : Int), deepL l < n + 1 → 0 ≤ x → x + (szFL l : Int) ≤ 1000000000000 → ∃ r : Int, sQ (pH n) l x = some r ∧ 0 ≤ r ∧ r ≤ x + (szFL l : Int) := by
   intro l
   induction l with
   | nil => intro x _ i _; exact ⟨x, by rw [sQ], i, by rw [szFL]; simp⟩
   | cons k l b =>
    intro x h i g
    rw [deepL] at h
    rw [szFL] at g
    have hk := JS k
    have := nI k
    obtain ⟨r, e, h1, j⟩ := ih k.Kids (by omega) (by omega)
    rw [sQ, e, aA]
    have q : 0 ≤ Int.tdiv ((k.kI.kK.size : Int) + (k.kI.kP.size : Int)) 16 ∧ Int.tdiv ((k.kI.kK.size : Int) + (k.kI.kP.size : Int)) 16 ≤ (k.kI.kK.size : Int) + (k.kI.kP.size : Int) := by
     rw [Int.tdiv_eq_ediv_of_nonneg (by omega)]
     omega
    rw [lJ (x := (k.kI.kK.size : Int) + (k.kI.kP.size : Int)) (by omega) (by omega)]
    generalize Int.tdiv ((k.kI.kK.size : Int) + (k.kI.kP.size : Int)) 16 = d at *
    rw [lJ (x := d) (by omega) (by omega), lJ (x := 1 + d) (by omega) (by omega), lJ (x := 1 + d + r) (by omega) (by omega), lJ (x := x + (1 + d + r)) (by omega) (by omega)]
    obtain ⟨p, e', a, m⟩ := b (x + (1 + d + r)) (by omega) (by omega) (by omega)
    exact ⟨p, e', a, by rw [szFL]; omega⟩
  obtain ⟨r, e, h1, j⟩ := key l 0 h (by omega) (by omega)
  exact ⟨r, e, h1, by omega⟩
theorem HF (f : Formula) (h : zJ f ≤ 50000000) : ∃ r : Int, pH lE [f] = some r ∧ 0 ≤ r ∧ r ≤ (zJ f : Int) := by
 have h1 := Cs f
 have d := wL f
 obtain ⟨r, e, a, b⟩ := TZ lE [f] (by rw [deepL, deepL, ni]; omega) (by rw [szFL, szFL]; omega)
 refine ⟨r, e, a, ?_⟩
 rw [szFL, szFL] at b; omega
theorem g6 (s : Signed) (h : yv s.kJ + s.Tag.length ≤ 1000000000) : uU [] [s] = some (20 + (yv s.kJ : Int) + (s.Tag.length : Int)) := by
 unfold uU
 rw [rz, sR]
 have := g5 [s.kJ] 0 (by omega) (by rw [yF, yF]; omega)
 rw [show wx [s.kJ] = _ from this, aA, sR, yF, yF]
 rw [lJ (x := 0 + ((20 + yv s.kJ + 0 : Nat) : Int) + (s.Tag.length : Int)) (by omega) (by omega), lJ (by omega) (by omega)]
 simp only [aA]
 congr 1; omega
def CD : List kY → Nat
 | [] => 0
 | x :: l => 20 + yv x.Signed.kJ + x.Signed.Tag.length + 20 * zJ x.kO + CD l
def Bv : List nS → Nat
 | [] => 0
 | a :: l => a.kI.kK.size + a.kI.kP.size + 20 * zJ a.kO + yF a.nM + Bv l
def H9 (p : lT) : Nat := p.Name.size + CD p.kR + Bv p.lC
theorem N1 : ∀ (l : List nS) (x : Int), 0 ≤ x → x + (Bv l : Int) ≤ 1000000000 → ∃ r : Int, sS l x = some r ∧ x ≤ r ∧ r ≤ x + (Bv l : Int)
 | [], x, _, _ => ⟨x, by rw [sS], by omega, by rw [Bv]; omega⟩
 | a :: l, x, i, h => by
  rw [Bv] at h
  obtain ⟨r, e, h1, j⟩ := HF a.kO (by omega)
  have b := g5 a.nM 0 (by omega) (by omega)
  rw [sS, e, aA, show wx a.nM = _ from b, aA]
  rw [lJ (x := (a.kI.kK.size : Int) + (a.kI.kP.size : Int)) (by omega) (by omega), lJ (x := 20 * r) (by omega) (by omega), lJ (x := (a.kI.kK.size : Int) + (a.kI.kP.size : Int) + 20 * r) (by omega) (by omega), lJ (x := (a.kI.kK.size : Int) + (a.kI.kP.size : Int) + 20 * r + (0 + (yF a.nM : Int))) (by omega) (by omega), lJ (by omega) (by omega)]
  obtain ⟨d, e', g, a2⟩ := N1 l (x + ((a.kI.kK.size : Int) + (a.kI.kP.size : Int) + 20 * r + (0 + (yF a.nM : Int)))) (by omega) (by omega)
  exact ⟨d, e', by omega, by rw [Bv]; omega⟩
theorem SZ (p : lT) (g : H9 p ≤ 1000000000) : ∃ r : Int, wD p = some r ∧ 20 * (p.kR.length : Int) ≤ r ∧ r ≤ (H9 p : Int) := by
 unfold H9 at g
 have key : ∀ (l : List kY) (x : Int), 0 ≤ x → x + (CD l : Int) + (Bv p.lC : Int) ≤ 1000000000 → ∃ r : Int, sO p l x = some r ∧ x + 20 * (l.length : Int) ≤ r ∧ r ≤ x + (CD l : Int) + (Bv p.lC : Int) := by
  intro l
  induction l with
  | nil =>
   intro x d h
   rw [CD] at h
   obtain ⟨r, e, a, b⟩ := N1 p.lC x d (by omega)
   exact ⟨r, by rw [sO, e]; rfl, by simp; omega, by rw [CD]; omega⟩
  | cons y l ih =>
   intro x d h
   rw [CD] at h
   obtain ⟨r, e, h1, j⟩ := HF y.kO (by omega)
   rw [sO, g6 y.Signed (by omega)]
   simp only [aA]
   rw [e, aA]
   rw [lJ (x := 20 * r) (by omega) (by omega), lJ (x := 20 + (yv y.Signed.kJ : Int) + (y.Signed.Tag.length : Int) + 20 * r) (by omega) (by omega), lJ (by omega) (by omega)]
   obtain ⟨i, e', a, b⟩ := ih (x + (20 + (yv y.Signed.kJ : Int) + (y.Signed.Tag.length : Int) + 20 * r)) (by omega) (by omega)
   exact ⟨i, e', by rw [aI]; omega, by rw [CD]; omega⟩
 obtain ⟨r, e, a, b⟩ := key p.kR (p.Name.size : Int) (by omega) (by omega)
 unfold wD
 exact ⟨r, e, by omega, by unfold H9; omega⟩
end Go.Proofs.YtmlncblocfcmiaaGreat
namespace Go.Proofs.YtmlncblocfcmiaaGreat
open Go.RowKit
def DH : List Key → Nat
 | [] => 0
 | k :: l => 10 + k.lH.size + k.Key.length + DH l
theorem Ta : ∀ (ks : List Key) (x : Int), 0 ≤ x → x + (DH ks : Int) ≤ 2000000000 → rz [] ks x = some (x + (DH ks : Int))
 | [], x, _, _ => by rw [rz, sR, DH]; simp
 | k :: ks, x, a, h => by
  rw [DH] at h
  rw [rz, lJ (x := 10 + (k.lH.size : Int)) (by omega) (by omega), lJ (x := 10 + (k.lH.size : Int) + (k.Key.length : Int)) (by omega) (by omega), lJ (by omega) (by omega), Ta ks _ (by omega) (by omega), DH]
  congr 1; omega
structure PQ (p : mj) : Prop extends PP p where
 go : H9 p.kK ≤ 1000000000
 gc : H9 p.Client ≤ 1000000000
 fs : zJ p.Formula ≤ 50000000
 ks : DH p.Keys ≤ 1000000000
theorem TR (p : mj) (hp : PQ p) : ∃ r : Int, yz p = some r ∧ 20 * (p.kK.kR.length : Int) + 20 * (p.Client.kR.length : Int) ≤ r := by
 have d := hp.go
 have b := hp.gc
 have n := hp.ks
 have a := hp.fs
 obtain ⟨g, j, q, s⟩ := SZ p.kK d
 obtain ⟨h, k, a2, t⟩ := SZ p.Client b
 obtain ⟨i, l, a3, u⟩ := HF p.Formula a
 have m := Ta p.Keys 0 (by omega) (by omega)
 unfold yz
 rw [j, aA, k, aA]
 simp only [aA]
 rw [l, aA, show uU p.Keys [] = _ from m, aA]
 rw [lJ (x := g + h) (by omega) (by omega), lJ (x := 20 * i) (by omega) (by omega), lJ (x := g + h + 20 * i) (by omega) (by omega), lJ (by omega) (by omega)]
 exact ⟨_, rfl, by omega⟩
end Go.Proofs.YtmlncblocfcmiaaGreat
namespace Go.Proofs.YtmlncblocfcmiaaGreat
open Go.RowKit
theorem Be (a b : lT) (f : Formula) (ha : PB a) (h : PB b) (n : a.kR.length ≤ 30000) (p : b.kR.length ≤ 30000) (g : Gd f) :
  ∃ x y j, wG a b = some (x, y, j) ∧ Nd a b x y ∧ qO a b f = some (uW (vD y b.Name) f) ∧ zU a b f = some (uW (vD y b.Name) f) := by
 obtain ⟨x, y, j, e, F⟩ := MX a b ha h (by omega) (by omega)
 have t := F.ly
 obtain ⟨G, d⟩ := R4 y (by omega)
 obtain ⟨m, k, _, l⟩ := d.Tj
 have i := Sd d b.Name
 refine ⟨x, y, j, e, F, ?_, ?_⟩
 ·unfold qO AJ
  rw [e, aA, k, aA, aA]
  rw [Lz (vD y b.Name) _ (fun r => by unfold wi; rw [pU, l, ← i]; rfl) f g]
  rfl
 ·have q := wL f
  unfold zU
  rw [Hn f g, aA]
  unfold uW
  cases s : oD f
  ·rfl
  ·simp only [aJ]
   unfold Eh
   rw [Qc a b ha h n p, e, aA, d.ref, aA, show uN G b.Name = some (GX G b.Name) from M1 G b.Name (by have := d.len; omega)]
   simp only [aA]
   rw [Pq _ lE f (by rw [ni]; unfold Gd at g; omega) g, Ix, i]
   rfl
structure PL (p : mj) : Prop where
 o : PB p.kK
 c : PB p.Client
 lo : p.kK.kR.length ≤ 30000
 lc : p.Client.kR.length ≤ 30000
 f : Gd p.Formula
noncomputable def qj (p : mj) : Bool := (qO p.kK p.Client p.Formula).getD false
theorem Bj {p : mj} (h : PL p) : qo p = some (qj p) ∧ Dp p = some (qj p) := by
 obtain ⟨x, y, j, _, _, a, b⟩ := Be p.kK p.Client p.Formula h.o h.c h.lo h.lc h.f
 unfold qj qo Dp
 rw [a, b]
 exact ⟨rfl, rfl⟩
def AR (l : List kY) (i : Int) : Prop := 0 ≤ i ∧ i < l.length
instance (l : List kY) (i : Int) : Decidable (AR l i) := by unfold AR; infer_instance
def xY (l : List kY) (i : Int) : List kY := if AR l i then l.eraseIdx i.toNat else l
def oP (p : mj) (e i : Int) : mj :=
 if e = 0 then ⟨⟨p.kK.Name, xY p.kK.kR i, p.kK.lC⟩, p.Client, p.Formula, p.pQ, p.mX, p.nw, p.oB, p.nU, p.Keys⟩
 else if e = 1 then ⟨p.kK, ⟨p.Client.Name, xY p.Client.kR i, p.Client.lC⟩, p.Formula, p.pQ, p.mX, p.nw, p.oB, p.nU, p.Keys⟩
 else p
theorem Gu (l : List kY) (i : Int) : (xY l i).length ≤ l.length := by
 unfold xY
 split
 ·rw [iD]; split <;> omega
 ·omega
theorem OM {l : List kY} {i : Int} {x : kY} (h : x ∈ xY l i) : x ∈ l := by
 unfold xY at h
 split at h
 ·exact List.mem_of_mem_eraseIdx h
 ·exact h
theorem PB.cut {n : ByteArray} {l : List kY} {k : List nS} (h : PB ⟨n, l, k⟩) (i : Int) : PB ⟨n, xY l i, k⟩ where
 DV := dB (Gu l i) h.DV
 CG := h.CG
 rel := fun x a => h.rel x (OM a)
 CQ := h.CQ
 H3 := h.H3
theorem PL.drop {p : mj} (h : PL p) (e i : Int) : PL (oP p e i) := by
 unfold oP
 split
 ·exact ⟨PB.cut (n := p.kK.Name) (k := p.kK.lC) h.o i, h.c, dB (Gu _ i) h.lo, h.lc, h.f⟩
 ·split
  ·exact ⟨h.o, PB.cut (n := p.Client.Name) (k := p.Client.lC) h.c i, h.lo, dB (Gu _ i) h.lc, h.f⟩
  ·exact h
theorem La {l : List kY} (a : l.length ≤ 1000000) : pL l = some l := by
 unfold pL
 rw [nR (by simp; omega) (by simp; omega)]
 rfl
theorem Ms {p : Prop} [Decidable p] (h : p) : qZ (decide p) = some () := by simp [qZ, h]
theorem Pg (A : List kY) (x : kY) (B : List kY) (i : (A ++ x :: B).length ≤ 1000000) : pw (A ++ x :: B) (A.length : Int) ((A.length : Int) + 1) = some (A ++ B) := by
 have hlen : (A ++ x :: B).length = A.length + (B.length + 1) := by simp
 have a : (A ++ x :: B).take (Int.toNat (A.length : Int)) = A := by simp
 have b : (A ++ x :: B).drop (Int.toNat ((A.length : Int) + 1)) = B := by
  rw [show Int.toNat ((A.length : Int) + 1) = A.length + 1 by omega, List.drop_append]
  simp
 have d : (xZ (A ++ x :: B) (Int.toNat (A.length : Int)) (Int.toNat ((A.length : Int) + 1))) = A ++ B ++ (A ++ x :: B).drop ((A ++ x :: B).length - (Int.toNat ((A.length : Int) + 1) - Int.toNat (A.length : Int))) := by
  unfold xZ; rw [a, b]
 have g : (A ++ B ++ (A ++ x :: B).drop ((A ++ x :: B).length - (Int.toNat ((A.length : Int) + 1) - Int.toNat (A.length : Int)))).length = (A ++ x :: B).length := by
  rw [aD, eK, hlen, aD]; omega
 unfold pw
 rw [Ms (by omega)]
 simp only [aA]
 rw [aY (by simp; omega), Bs (by omega) (by omega), Bs (by omega) (by omega), Ms (by omega)]
 simp only [aA]
 rw [a, b, d, g, Ms (by simp; omega)]
 simp only [aA]
 congr 1
 unfold pa
 have h : (Int.toNat ((A ++ B).length : Int)) = (A ++ B).length := by omega
 rw [h, je, je]
theorem E9 {α : Type} (l : List α) (i : Nat) (h : i < l.length) : ∃ A x B, l = A ++ x :: B ∧ A.length = i := ⟨l.take i, l[i], l.drop (i + 1), by simp, by simp; omega⟩
theorem GH {l : List kY} {i : Int} (d : l.length ≤ 1000000) (h : AR l i) : pw l i (IntKind.i64.wrap (i + 1)) = some (xY l i) := by
 have a := h
 obtain ⟨g, h1⟩ := h
 rw [lJ (by omega) (by omega)]
 obtain ⟨A, x, B, rfl, j⟩ := E9 l i.toNat (by omega)
 have b : i = (A.length : Int) := by omega
 subst b
 rw [Pg A x B d]
 unfold xY
 rw [aT a]
 congr 1
 rw [show Int.toNat (A.length : Int) = A.length by omega, fW (aO _)]
 simp
theorem MG (p : mj) : (⟨p.Formula.Op, p.Formula.K, p.Formula.kI, p.Formula.Kids⟩ : Formula) = p.Formula := by cases p.Formula; rfl
theorem GN (p : mj) (h : PL p) (e i : Int) : sa p e i = some (oP p e i) := by
 have h1 := h.lo
 have l := h.lc
 unfold sa pj oP
 by_cases d : e < 0
 ·have : ¬ e = 0 := by omega
  have : ¬ e = 1 := by omega
  simp only [d, bT, aJ, aA, *, aG]
 ·by_cases c1 : e > 1
  ·have : ¬ e = 0 := by omega
   have : ¬ e = 1 := by omega
   simp only [d, c1, bT, bV, aB, aJ, aA, *, aG]
  ·simp only [d, c1, bV, aB, aG, aA]
   by_cases g : e = 0
   ·subst g
    simp only [aV, aJ, aA]
    by_cases n : AR p.kK.kR i
    ·have a : ¬ i < 0 := by unfold AR at n; omega
     have b : ¬ i ≥ (p.kK.kR.length : Int) := by unfold AR at n; omega
     simp only [a, b, bV, aB, aG, aA]
     rw [La (by omega), aA, GH (by omega) n, aA, MG]
    ·unfold xY
     rw [aY n]
     by_cases a : i < 0
     ·simp only [a, bT, aJ, aA]
     ·have b : i ≥ (p.kK.kR.length : Int) := by unfold AR at n; omega
      simp only [a, b, bT, bV, aB, aG, aJ, aA]
   ·have j : e = 1 := by omega
    subst j
    have q : ((1 : Int) == 0) = false := rfl
    have k : ((3 : Nat) == 0) = false := rfl
    simp only [q, k, aB, aG, aA, aJ, show ¬ ((1 : Int) = 0) by omega]
    by_cases n : AR p.Client.kR i
    ·have a : ¬ i < 0 := by unfold AR at n; omega
     have b : ¬ i ≥ (p.Client.kR.length : Int) := by unfold AR at n; omega
     simp only [a, b, bV, aB, aG, aA]
     rw [La (by omega), aA, GH (by omega) n, aA, MG]
    ·unfold xY
     rw [aY n]
     by_cases a : i < 0
     ·simp only [a, bT, aJ, aA]
     ·have b : i ≥ (p.Client.kR.length : Int) := by unfold AR at n; omega
      simp only [a, b, bT, bV, aB, aG, aJ, aA]
end Go.Proofs.YtmlncblocfcmiaaGreat
namespace Go.Proofs.YtmlncblocfcmiaaGreat
open Go.RowKit
noncomputable def tk (p : mj) (e : Int) : List kY → Nat → List mM
 | [], _ => []
 | _ :: l, k => (if qj (oP p e k) then [] else [⟨e, (k : Int)⟩]) ++ tk p e l (k + 1)
theorem H4 (p : mj) (e : Int) : ∀ (l : List kY) (k : Nat), (tk p e l k).length ≤ l.length
 | [], _ => by simp [tk]
 | _ :: l, k => by
  have := H4 p e l (k + 1)
  rw [tk, aD, aI]
  split <;> simp <;> omega
theorem Po {l m : List mM} (h : l.length + m.length ≤ 1000000) : nE 16 l m = some (l ++ m) := nR (by omega) (by omega)
theorem F6 (p : mj) (h : PL p) (e : Int) : ∀ (l : List kY) (k : Nat) (acc : List mM), acc.length + l.length ≤ 500000 → qG p e l k acc = some (acc ++ tk p e l k)
 | [], k, acc, _ => by rw [qG, tk, aQ]
 | x :: l, k, acc, a => by
  rw [aI] at a
  rw [qG, GN p h, aA, (Bj (h.drop e k)).1, aA, tk]
  cases qj (oP p e k)
  ·simp only [cX, aJ, aB, aG]
   rw [Po (by simp; omega), aA, F6 p h e l (k + 1) _ (by simp; omega), aH]
  ·simp only [cA, aB, aG, aJ, aU]
   exact F6 p h e l (k + 1) acc (by omega)
theorem F4 (p : mj) (h : PL p) (e : Int) : ∀ (l : List kY) (k : Nat) (acc : List mM), acc.length + l.length ≤ 500000 → qD p e l k acc = some (acc ++ tk p e l k)
 | [], k, acc, _ => by rw [qD, tk, aQ]
 | x :: l, k, acc, a => by
  rw [aI] at a
  rw [qD, GN p h, aA, (Bj (h.drop e k)).1, aA, tk]
  cases qj (oP p e k)
  ·simp only [cX, aJ, aB, aG]
   rw [Po (by simp; omega), aA, F4 p h e l (k + 1) _ (by simp; omega), aH]
  ·simp only [cA, aB, aG, aJ, aU]
   exact F4 p h e l (k + 1) acc (by omega)
noncomputable def DF (p : mj) : List mM := if qj p then tk p 0 p.kK.kR 0 ++ tk p 1 p.Client.kR 0 else []
theorem MO (p : mj) (h : PL p) : sT p = some (DF p) := by
 have h1 := h.lo
 have g := h.lc
 unfold sT DF
 rw [(Bj h).1, aA]
 cases qj p
 ·rfl
 ·simp only [cA, aB, aG, aJ]
  have i := H4 p 0 p.kK.kR 0
  obtain ⟨n, a⟩ : ∃ n, lE = n + 3 := ⟨18446744073709551613, by rw [ni]⟩
  rw [a]
  generalize n = n
  have b : pj p 0 = some 0 := rfl
  have d : pj p 1 = some 3 := rfl
  rw [pO, aT (by decide), b, aA, aT (by decide), F6 p h 0 _ _ _ (by simp; omega), aA, aU]
  rw [show IntKind.i64.wrap ((0 : Int) + 1) = 1 from rfl, pO, aT (by decide), d, aA, aY (by decide), F4 p h 1 _ _ _ (by omega), aA]
  rw [show IntKind.i64.wrap ((1 : Int) + 1) = 2 from rfl, pO, aY (by decide)]
end Go.Proofs.YtmlncblocfcmiaaGreat
namespace Go.Proofs.YtmlncblocfcmiaaGreat
open Go.RowKit
noncomputable def shr (e : Int) : Nat → mj → mj
 | 0, p => p
 | k + 1, p => shr e k (if qj (oP p e k) then oP p e k else p)
theorem IY (p : mj) : (⟨⟨p.kK.Name, p.kK.kR, p.kK.lC⟩, ⟨p.Client.Name, p.Client.kR, p.Client.lC⟩, ⟨p.Formula.Op, p.Formula.K, p.Formula.kI, p.Formula.Kids⟩, p.pQ, p.mX, p.nw, p.oB, p.nU, p.Keys⟩ : mj) = p := by
 rw [MG]
def RK (p : mj) : ByteArray × List kY × List nS × ByteArray × List kY × List nS × Int × Int × kI × List Formula × Int × mM × Int × Int × Int × List Key :=
 (p.kK.Name, p.kK.kR, p.kK.lC, p.Client.Name, p.Client.kR, p.Client.lC, p.Formula.Op, p.Formula.K, p.Formula.kI, p.Formula.Kids, p.pQ, p.mX, p.nw, p.oB, p.nU, p.Keys)
theorem Kg : ∀ (k n : Nat) (p : mj), PL p → k < n → k ≤ 30000 → qF n ((k : Int) - 1) p.kK.Name p.kK.kR p.kK.lC p.Client.Name p.Client.kR p.Client.lC p.Formula.Op p.Formula.K p.Formula.kI p.Formula.Kids p.pQ p.mX p.nw p.oB p.nU p.Keys = some (RK (shr 0 k p))
 | k, 0, p, _, a, _ => absurd a (by omega)
 | 0, n + 1, p, _, _, _ => by rw [qF, aY (by decide)]; rfl
 | k + 1, n + 1, p, h, a, hk => by
  rw [qF, aT (by rw [bK]; omega), IY, show ((k + 1 : Nat) : Int) - 1 = (k : Int) by omega, GN p h, aA, (Bj (h.drop 0 k)).1, aA, lJ (by omega) (by omega), shr]
  cases qj (oP p 0 k)
  ·simp only [aB, aG, aA]
   exact Kg k n p h (by omega) (by omega)
  ·simp only [aJ, aA]
   exact Kg k n _ (h.drop 0 k) (by omega) (by omega)
theorem Jf : ∀ (k n : Nat) (p : mj), PL p → k < n → k ≤ 30000 → qy n ((k : Int) - 1) p.kK.Name p.kK.kR p.kK.lC p.Client.Name p.Client.kR p.Client.lC p.Formula.Op p.Formula.K p.Formula.kI p.Formula.Kids p.pQ p.mX p.nw p.oB p.nU p.Keys = some (shr 0 (shr 1 k p).kK.kR.length (shr 1 k p), true)
 | k, 0, p, _, a, _ => absurd a (by omega)
 | 0, n + 1, p, h, _, _ => by
  have b := h.lo
  rw [qy, aY (by decide), IY]
  have d : pj p 0 = some 0 := rfl
  rw [d, aA, lJ (by omega) (by omega), Kg _ lE p h (by rw [ni]; omega) b, aA]
  unfold RK
  simp only [IY]
  rfl
 | k + 1, n + 1, p, h, a, hk => by
  rw [qy, aT (by rw [bK]; omega), IY, show ((k + 1 : Nat) : Int) - 1 = (k : Int) by omega, GN p h, aA, (Bj (h.drop 1 k)).1, aA, lJ (by omega) (by omega), shr]
  cases qj (oP p 1 k)
  ·simp only [aB, aG, aA]
   exact Jf k n p h (by omega) (by omega)
  ·simp only [aJ, aA]
   exact Jf k n _ (h.drop 1 k) (by omega) (by omega)
noncomputable def LN (p : mj) : mj := shr 0 (shr 1 p.Client.kR.length p).kK.kR.length (shr 1 p.Client.kR.length p)
theorem KA (p : mj) (h : PL p) : uq p = some (if qj p then (LN p, true) else (p, false)) := by
 have a := h.lc
 unfold uq
 rw [(Bj h).1, aA]
 cases qj p
 ·rfl
 ·simp only [cA, aB, aG, aJ]
  have b : pj p 1 = some 3 := rfl
  rw [b, aA, lJ (by omega) (by omega), Jf _ lE p h (by rw [ni]; omega) a]
  rfl
end Go.Proofs.YtmlncblocfcmiaaGreat
namespace Go.Proofs.YtmlncblocfcmiaaGreat
open Go.RowKit
def sD : kJ := ⟨1, sZ, MB, ⟨zS, zS⟩, ⟨zS, zS⟩, zS⟩
def AL (l : List kJ) : List kY := l.map fun c => BY c tK
def lP (l : List kJ) : mj := ⟨⟨QX, [], []⟩, ⟨MB, AL l, []⟩, GB sY, 0, ⟨0, 0⟩, 0, 0, 0, []⟩
theorem TW : mI sD = true := by decide +kernel
theorem Tl : sZ ≠ sY := fun h => absurd (bI (fun c => c.kP.data.toList) h) (by decide)
theorem Th : sc ≠ sD := fun h => Tl (bI (fun c => c.Head) h).symm
theorem MW {n : ByteArray} {l : List kJ} {k : List nS} {d : kJ} : CY ⟨n, AL l, k⟩ d ↔ d ∈ l := by
 rw [Is]
 unfold AL
 rw [fG]
 have : ((fun x : kY => x.Signed.kJ) ∘ fun c => BY c tK) = id := rfl
 rw [this, List.map_id]
theorem Nk : ∀ (l : List kJ) (d : kJ), d ∈ l → sr (AL l) d = some tK
 | [], d, h => by cases h
 | c :: l, d, h => by
  have ih := Nk l d
  unfold sr AL at *
  rw [bP, fX, show (BY c tK).Signed.kJ = c from rfl]
  cases e : lV c d
  ·have : d ≠ c := fun he => by rw [he, mC.2 rfl] at e; cases e
   exact ih ((aK.1 h).resolve_left this)
  ·rfl
theorem Ng {n : ByteArray} {l : List kJ} (a : ∀ c ∈ l, mI c = true) (m : List kJ) (peer : ByteArray) (d : kJ) : sI ⟨n, AL l, []⟩ m peer d ↔ d ∈ l := by
 unfold sI
 rw [MW]
 refine ⟨fun h => h.1, fun h => ⟨h, a d h, ?_⟩⟩
 unfold KC
 rw [NE, Nk l d h]
 simp only [PV]
 unfold uW
 rw [show oD tK = true by decide +kernel, wB]
 rfl
theorem M8 {n : ByteArray} {l : List kJ} (h : l.length ≤ 100) : PB ⟨n, AL l, []⟩ where
 DV := by simp [AL]; omega
 CG := by simp
 rel := fun x a => by
  obtain ⟨c, _, rfl⟩ := bB.1 a
  exact LP
 CQ := fun x a => by cases a
 H3 := fun x a => by cases a
theorem I0 {l : List kJ} (h : l.length ≤ 100) : PL (lP l) where
 o := by
  have := M8 (n := QX) (l := []) (by simp)
  exact this
 c := M8 h
 lo := by simp [lP]
 lc := by simp [lP, AL]; omega
 f := by show lF (GB sY) ≤ 50000000; decide +kernel
theorem IT {l : List kJ} (k : l.length ≤ 100) (hm : ∀ c ∈ l, c = sc ∨ c = sD) (m : l.Nodup) : qj (lP l) = rZ lV l sc ∧ tN (lP l) = some (l.length : Int) := by
 have n : ∀ c ∈ l, mI c = true := fun c a => by rcases hm c a with rfl | rfl; exact SU; exact TW
 have b := I0 k
 obtain ⟨x, y, j, e, F, g, s⟩ := Be (lP l).kK (lP l).Client (lP l).Formula b.o b.c b.lo b.lc b.f
 have d : ∀ c, c ∈ y ↔ c ∈ l := fun c => by rw [F.fy c]; exact Ng n _ _ _
 have p : x = [] := List.eq_nil_iff_forall_not_mem.2 (fun c a => by
  have := ((F.fx c).1 a).1
  obtain ⟨z, q, _⟩ := this
  cases q)
 constructor
 ·unfold qj
  rw [g]
  show uW (vD y MB) (GB sY) = _
  unfold uW
  rw [Rc, eJ, Qg, bN, pz mC]
  constructor
  ·intro h
   rw [EY] at h
   obtain ⟨c, a, i⟩ := h.head
   have h1 := (d c).1 (cD.1 a).1
   rcases hm c h1 with rfl | rfl
   ·exact h1
   ·exact absurd i Tl
  ·intro h
   exact RE SU rfl ((d sc).2 h)
 ·unfold tN
  rw [e, aA, p]
  have r : y.length ≤ l.length := mZ F.sy.nodup (fun c a => (d c).1 a)
  have a2 : l.length ≤ y.length := mZ m (fun c a => (d c).2 a)
  rw [show y.length = l.length by omega]
  congr 1
  rw [lJ (by simp) (by simp; omega)]
  simp
theorem Rg : qj (lP [sc, sD]) = true ∧ tN (lP [sc, sD]) = some 2 := by
 have := IT (l := [sc, sD]) (by simp) (by simp) (by simp [Th])
 rw [this.1, this.2]
 exact ⟨(pz mC _ sc).2 (by simp), rfl⟩
theorem R0 : qj (lP [sc]) = true ∧ tN (lP [sc]) = some 1 := by
 have := IT (l := [sc]) (by simp) (by simp) (by simp)
 rw [this.1, this.2]
 exact ⟨(pz mC _ sc).2 (by simp), rfl⟩
theorem TE : qj (lP [sD]) = false := by
 have := IT (l := [sD]) (by simp) (by simp) (by simp)
 rw [this.1, ← eZ, pz mC]; simp [Th]
theorem T4 : qj (lP []) = false := by
 have := IT (l := []) (by simp) (by simp) (by simp)
 rw [this.1, ← eZ, pz mC]; simp
theorem Te : oP (lP [sc, sD]) 1 0 = lP [sD] := by
 unfold oP xY
 rw [aY (by decide), aT rfl, aT (by unfold AR lP AL; simp)]
 rfl
theorem SV : oP (lP [sc, sD]) 1 1 = lP [sc] := by
 unfold oP xY
 rw [aY (by decide), aT rfl, aT (by unfold AR lP AL; simp)]
 rfl
theorem T6 : oP (lP [sc]) 1 0 = lP [] := by
 unfold oP xY
 rw [aY (by decide), aT rfl, aT (by unfold AR lP AL; simp)]
 rfl
theorem SN : sT (lP [sc, sD]) = some [⟨1, 0⟩] := by
 rw [MO _ (I0 (by simp))]
 unfold DF
 rw [Rg.1, aT rfl]
 show some (tk (lP [sc, sD]) 0 [] 0 ++ tk (lP [sc, sD]) 1 [BY sc tK, BY sD tK] 0) = _
 simp only [tk]
 rw [show oP (lP [sc, sD]) 1 ((0 : Nat) : Int) = _ from Te, show oP (lP [sc, sD]) 1 ((0 + 1 : Nat) : Int) = _ from SV, TE, R0.1]
 rfl
theorem PN : uq (lP [sc, sD]) = some (lP [sc], true) := by
 rw [KA _ (I0 (by simp)), Rg.1, aT rfl]
 have : shr 1 2 (lP [sc, sD]) = lP [sc] := by
  rw [shr, show oP (lP [sc, sD]) 1 ((1 : Nat) : Int) = _ from SV, R0.1, aT rfl, shr, show oP (lP [sc]) 1 ((0 : Nat) : Int) = _ from T6, T4]
  rfl
 unfold LN
 rw [show (lP [sc, sD]).Client.kR.length = 2 from rfl, this]
 rfl
theorem Ql : wA = some true := by
 have d : E7 1 (0 : Int) 8 = some (List.replicate 8 0) := by unfold E7; rw [aT (by decide)]; rfl
 have k : py sc = some (BY sc tK) := by unfold py; rw [d]; rfl
 have l : py sD = some (BY sD tK) := by unfold py; rw [d]; rfl
 have a : py (⟨1, (⟨(⟨#[120]⟩ : ByteArray), (⟨#[121]⟩ : ByteArray)⟩ : kI), (⟨#[99, 108, 105]⟩ : ByteArray), (⟨zS, zS⟩ : kI), (⟨zS, zS⟩ : kI), zS⟩ : kJ) = _ := k
 have b : py (⟨1, (⟨(⟨(⟨#[120]⟩ : ByteArray), (⟨#[121]⟩ : ByteArray)⟩ : kI).kK, (⟨#[122]⟩ : ByteArray)⟩ : kI), (⟨#[99, 108, 105]⟩ : ByteArray), (⟨zS, zS⟩ : kI), (⟨zS, zS⟩ : kI), zS⟩ : kJ) = _ := l
 unfold wA
 rw [a, aA, b, aA, aA]
 simp only
 have j : sa (lP [sc, sD]) 1 0 = some (lP [sD]) := by rw [GN _ (I0 (by simp)), Te]
 rw [show (⟨⟨(⟨#[111, 119, 110]⟩ : ByteArray), [], []⟩, ⟨(⟨#[99, 108, 105]⟩ : ByteArray), [BY sc tK, BY sD tK], []⟩, ⟨1, 0, (⟨(⟨#[120]⟩ : ByteArray), (⟨#[121]⟩ : ByteArray)⟩ : kI), []⟩, 0, (⟨0, 0⟩ : mM), 0, 0, 0, []⟩ : mj) = lP [sc, sD] from rfl]
 rw [SN, aA, PN, aA, Rg.2, R0.2, j]
 have g : ze (⟨1, 0⟩ : mM) ⟨1, 0⟩ = true := HR.2 rfl
 have h : mF (lP [sc]).Client.kR 0 = some (BY sc tK) := rfl
 have i : lV (BY sc tK).Signed.kJ sc = true := mC.2 rfl
 rw [show mF [(⟨1, 0⟩ : mM)] 0 = some ⟨1, 0⟩ from rfl]
 simp only [aA, aI, bU]
 rw [g, h]
 simp only [aA]
 rw [show (⟨1, (⟨(⟨#[120]⟩ : ByteArray), (⟨#[121]⟩ : ByteArray)⟩ : kI), (⟨#[99, 108, 105]⟩ : ByteArray), (⟨zS, zS⟩ : kI), (⟨zS, zS⟩ : kI), zS⟩ : kJ) = sc from rfl, i]
 rfl
end Go.Proofs.YtmlncblocfcmiaaGreat
namespace Go.Proofs.YtmlncblocfcmiaaGreat
open Go.RowKit
theorem qH.take {s : List kJ} (h : qH s) (n : Nat) : qH (s.take n) := ⟨h.1.sublist (List.take_sublist n s), fun c a => h.2 c (List.mem_of_mem_take a)⟩
end Go.Proofs.YtmlncblocfcmiaaGreat
namespace Go.Proofs.YtmlncblocfcmiaaGreat
open Go.RowKit
theorem bb {α β γ : Type} (x : Option α) (f : α → Option β) (g : β → Option γ) : (x.bind fun a => (f a).bind g) = (x.bind f).bind g := by cases x <;> rfl
end Go.Proofs.YtmlncblocfcmiaaGreat
namespace Go.Proofs.YtmlncblocfcmiaaGreat
open Go.RowKit
def zz (mp : List (kJ × Bool)) (s : List kJ) : Prop := ∀ c, wX lV mp c false = rZ lV s c
theorem zz.put {mp : List (kJ × Bool)} {s : List kJ} (h : zz mp s) (k : kJ) : zz (oy lV mp k true) (s ++ [k]) := fun c => by
 have h1 := h c
 unfold wX at *
 rw [Cm mC]
 have a := pz mC (s ++ [k]) c
 have b := pz mC s c
 cases e : lV c k
 ·simp only [aB, aG]
  rw [h1, bN, a, b]
  have : c ≠ k := fun d => by rw [d, mC.2 rfl] at e; cases e
  simp [this]
 ·simp only [aJ, iF]
  rw [eq_comm, a]
  simp [mC.1 e]
theorem zz.congr {mp : List (kJ × Bool)} {s t : List kJ} (h : zz mp s) (e : ∀ c, c ∈ s ↔ c ∈ t) : zz mp t := fun c => by
 rw [h c, bN, pz mC, pz mC, e]
end Go.Proofs.YtmlncblocfcmiaaGreat
namespace Go.Proofs.YtmlncblocfcmiaaGreat
open Go.RowKit
def TY : ByteArray := ⟨#[109, 101]⟩
def eC : kJ := ⟨1, sY, TY, ⟨zS, zS⟩, ⟨zS, zS⟩, zS⟩
end Go.Proofs.YtmlncblocfcmiaaGreat
namespace Go.Proofs.YtmlncblocfcmiaaGreat
open Go.RowKit
def sw (a l : List kY) : Prop := ∀ c r, sr a c = some r → sr l c = some r
theorem sw.refl (l : List kY) : sw l l := fun _ _ h => h
theorem sw.trans {a b c : List kY} (h : sw a b) (k : sw b c) : sw a c := fun x r d => k x r (h x r d)
theorem GV (n : ByteArray) (l : List kY) (k : List nS) (c : kJ) : pG ⟨n, l, k⟩ c = match sr l c with | none => (E4, 42) | some r => BQ r ((xk ⟨n, [], k⟩ c).map (·.kO)) := by
 unfold pG zq sr xk
 simp only
 cases l.find? (fun x => lV x.Signed.kJ c) <;> rfl
theorem Gw {n : ByteArray} {l : List kY} {k : List nS} {c : kJ} : CY ⟨n, l, k⟩ c ↔ ∃ r, sr l c = some r := by
 rw [Is]
 constructor
 ·exact Ny
 ·rintro ⟨r, h⟩
  unfold sr at h
  cases e : l.find? (fun x => lV x.Signed.kJ c) with
  | none => rw [e] at h; cases h
  | some x => exact bB.2 ⟨x, iJ e, mC.1 (by simpa using ku e)⟩
theorem sw.free {n : ByteArray} {d l : List kY} {k : List nS} (h : sw d l) {m : List kJ} {peer : ByteArray} {c : kJ} (i : sI ⟨n, d, k⟩ m peer c) : sI ⟨n, l, k⟩ m peer c := by
 obtain ⟨h1, g, b⟩ := i
 obtain ⟨r, a⟩ := Gw.1 h1
 refine ⟨Gw.2 ⟨r, h c r a⟩, g, ?_⟩
 unfold KC at *
 rw [GV, h c r a]
 rw [GV, a] at b
 exact b
def RC (q p : mj) : Prop := q.kK.Name = p.kK.Name ∧ q.kK.lC = p.kK.lC ∧ q.Client.Name = p.Client.Name ∧ q.Client.lC = p.Client.lC ∧ q.Formula = p.Formula ∧ sw q.kK.kR p.kK.kR ∧ sw q.Client.kR p.Client.kR
theorem L7 {v w : kI → Bool} (h : ∀ r, v r = true → w r = true) (f : Formula) (a : uW v f = true) : uW w f = true := by
 unfold uW at *
 simp only [aZ] at *
 exact ⟨a.1, Lb h _ a.2⟩
theorem BE {q p : mj} (a : PL q) (hp : PL p) (h : RC q p) (g : qj q = true) : qj p = true := by
 obtain ⟨O, P, t, _, F', b, _⟩ := Be q.kK q.Client q.Formula a.o a.c a.lo a.lc a.f
 obtain ⟨x, y, j, _, F, i, _⟩ := Be p.kK p.Client p.Formula hp.o hp.c hp.lo hp.lc hp.f
 obtain ⟨⟨E, D, A⟩, ⟨J, I, G⟩, z, _, _, _, _, _, _⟩ := q
 obtain ⟨⟨w, pl, v⟩, ⟨M, sl, L⟩, u, _, _, _, _, _, _⟩ := p
 obtain ⟨h1, k, l, m, n, r, s⟩ := h
 dsimp only at *
 subst h1 k l m n
 unfold qj at *
 dsimp only at *
 rw [b] at g
 rw [i]
 have := F'.least x y (fun c d => (F.fx c).2 (r.free d)) (fun c d => (F.fy c).2 (s.free d))
 exact L7 (KE this.2 _) _ g
theorem O2 (c : kJ) : sr [] c = none := rfl
theorem yY (x : kY) (l : List kY) (c : kJ) : sr (x :: l) c = if lV x.Signed.kJ c then some x.kO else sr l c := by
 unfold sr
 rw [fX]
 cases lV x.Signed.kJ c <;> rfl
theorem D0 (x : kY) (B : List kY) (c : kJ) : ∀ A : List kY, sr (A ++ x :: B) c = if lV x.Signed.kJ c ∧ sr A c = none then some x.kO else sr (A ++ B) c
 | [] => by rw [aU, yY, O2]; simp
 | y :: A => by
  rw [bO, bO, yY, yY, yY, D0 x B c A]
  cases lV y.Signed.kJ c <;> simp
theorem IK {A B : List kY} {c : kJ} (h : sr A c = none) : sr (A ++ B) c = sr B c := by
 induction A with
 | nil => rfl
 | cons y A ih =>
  rw [yY] at h
  rw [bO, yY]
  cases e : lV y.Signed.kJ c
  ·rw [e] at h; exact ih (by simpa using h)
  ·rw [e] at h; simp at h
theorem AE {l : List kY} {c : kJ} : sr l c = none ↔ ∀ x ∈ l, x.Signed.kJ ≠ c := by
 unfold sr
 rw [Option.map_eq_none_iff, fS]
 refine forall_congr' fun x => forall_congr' fun a => ?_
 rw [mC]
theorem sw.mid {A B : List kY} {x : kY} (h : ∀ y ∈ B, y.Signed.kJ ≠ x.Signed.kJ) : sw (A ++ B) (A ++ x :: B) := fun c r a => by
 rw [D0]
 split
 ·rename_i d
  obtain ⟨h1, b⟩ := d
  have : x.Signed.kJ = c := mC.1 h1
  subst this
  rw [IK b, AE.2 h] at a
  cases a
 ·exact a
theorem OF {A B : List kY} {x : kY} (h : ∃ y ∈ A, y.Signed.kJ = x.Signed.kJ) (c : kJ) : sr (A ++ B) c = sr (A ++ x :: B) c := by
 rw [D0]
 split
 ·rename_i b
  obtain ⟨h1, a⟩ := b
  have : x.Signed.kJ = c := mC.1 h1
  subst this
  obtain ⟨y, d, he⟩ := h
  exact absurd he (AE.1 a y d)
 ·rfl
noncomputable def Aa (G : List kY → Bool) : Nat → List kY → List kY
 | 0, l => l
 | k + 1, l => Aa G k (if G (l.eraseIdx k) then l.eraseIdx k else l)
def HT (G : List kY → Bool) (A B : List kY) : Prop := ∀ B1 x B2, B = B1 ++ x :: B2 → (∀ y ∈ A ++ B1 ++ B2, y.Signed.kJ ≠ x.Signed.kJ) ∧ G (A ++ B1 ++ B2) = false
theorem Lu (G : List kY → Bool) (n : Nat) (P : kY → Prop) (D : ∀ a b : List kY, a.length ≤ n → b.length ≤ n → (∀ x ∈ a, P x) → (∀ x ∈ b, P x) → sw a b → G a = true → G b = true) : ∀ (A B : List kY), (A ++ B).length ≤ n → (∀ x ∈ A ++ B, P x) → G (A ++ B) = true → HT G A B →
  G (Aa G A.length (A ++ B)) = true ∧ sw (Aa G A.length (A ++ B)) (A ++ B) ∧ HT G [] (Aa G A.length (A ++ B)) ∧ (Aa G A.length (A ++ B)).length ≤ (A ++ B).length ∧ ∀ x ∈ Aa G A.length (A ++ B), P x := by
 intro A
 induction s : A.length generalizing A with
 | zero =>
  intro B j i l hk
  obtain rfl := eW.1 s
  exact ⟨l, sw.refl _, hk, aO _, i⟩
 | succ k ih =>
  intro B j i l hk
  obtain ⟨A1, x, rfl⟩ : ∃ A1 x, A = A1 ++ [x] := by
   rcases cW A with rfl | ⟨A1, x, rfl⟩
   ·cases s
   ·exact ⟨A1, x, by simp⟩
  have g : A1.length = k := by simpa using s
  have he : (A1 ++ [x] ++ B).eraseIdx k = A1 ++ B := by
   rw [aH, ← g]
   exact (by rw [show A1 ++ ([x] ++ B) = A1 ++ x :: B from rfl, fW (aO _)]; simp)
  have v : ∀ y ∈ B, y.Signed.kJ ≠ x.Signed.kJ := fun y d e => by
   obtain ⟨B1, B2, rfl⟩ := jQ d
   exact (hk B1 y B2 rfl).1 x (by simp) e.symm
  have M : sw (A1 ++ B) (A1 ++ [x] ++ B) := by
   rw [aH]; exact sw.mid v
  have hlen : (A1 ++ [x] ++ B).length = (A1 ++ B).length + 1 := by simp; omega
  have h : ∀ y ∈ A1 ++ B, P y := fun y d => i y (by simp at d ⊢; rcases d with d | d <;> simp [d])
  have eC : A1 ++ x :: B = A1 ++ [x] ++ B := by simp
  rw [Aa, he]
  cases t : G (A1 ++ B)
  ·simp only [aB, aG]
   have := ih A1 g (x :: B) (by rw [eC]; exact j) (by rw [eC]; exact i) (by rw [eC]; exact l) (fun B1 z B2 e => by
    cases B1 with
    | nil =>
     injection e with m p
     subst m p
     refine ⟨fun y d => ?_, by rw [aQ]; exact t⟩
     rw [aQ] at d
     rcases aN.1 d with d | d
     ·intro E
      have q : ∀ c, sr (A1 ++ B) c = sr (A1 ++ x :: B) c := OF ⟨y, d, E⟩
      have := D (A1 ++ [x] ++ B) (A1 ++ B) j (by omega) i h (fun c r L => by rw [q, eC]; exact L) l
      rw [t] at this; cases this
     ·exact v y d
    | cons w B1 =>
     injection e with m p
     subst m
     have := hk B1 z B2 p
     rw [show A1 ++ x :: B1 ++ B2 = A1 ++ [x] ++ B1 ++ B2 by simp]
     exact this)
   rw [eC] at this
   exact this
  ·simp only [aJ]
   obtain ⟨h1, q, F, U, I⟩ := ih A1 g B (by omega) h t (fun B1 z B2 e => by
    obtain ⟨R, T⟩ := hk B1 z B2 e
    subst e
    refine ⟨fun y d => R y (by simp at d ⊢; rcases d with d | d | d <;> simp [d]), ?_⟩
    rw [← eZ]
    intro J
    have u : sw (A1 ++ B1 ++ B2) (A1 ++ [x] ++ B1 ++ B2) := by
     rw [show A1 ++ B1 ++ B2 = A1 ++ (B1 ++ B2) by simp, show A1 ++ [x] ++ B1 ++ B2 = A1 ++ x :: (B1 ++ B2) by simp]
     exact sw.mid (fun y d => v y (by simp at d ⊢; rcases d with d | d <;> simp [d]))
    have O : (A1 ++ B1 ++ B2).length ≤ n := by simp at j ⊢; omega
    have Q : (A1 ++ [x] ++ B1 ++ B2).length ≤ n := by simp at j ⊢; omega
    have := D _ _ O Q (fun y d => h y (by simp at d ⊢; rcases d with d | d | d <;> simp [d])) (fun y d => i y (by simp at d ⊢; rcases d with d | d | d | d <;> simp [d])) u J
    rw [T] at this; cases this)
   exact ⟨h1, q.trans M, F, by omega, I⟩
end Go.Proofs.YtmlncblocfcmiaaGreat
namespace Go.Proofs.YtmlncblocfcmiaaGreat
open Go.RowKit
def nW (p : mj) (l : List kY) : mj := ⟨p.kK, ⟨p.Client.Name, l, p.Client.lC⟩, p.Formula, p.pQ, p.mX, p.nw, p.oB, p.nU, p.Keys⟩
def ov (p : mj) (l : List kY) : mj := ⟨⟨p.kK.Name, l, p.kK.lC⟩, p.Client, p.Formula, p.pQ, p.mX, p.nw, p.oB, p.nU, p.Keys⟩
theorem KX {l : List kY} {k : Nat} (h : k < l.length) : xY l (k : Int) = l.eraseIdx k := by
 unfold xY
 rw [aT (by unfold AR; omega)]
 rw [show Int.toNat (k : Int) = k by omega]
theorem MJ (p : mj) (l : List kY) {k : Nat} (h : k < l.length) : oP (nW p l) 1 (k : Int) = nW p (l.eraseIdx k) := by
 unfold oP
 rw [aY (by decide), aT rfl]
 rw [show (nW p l).Client.kR = l from rfl, KX h]
 rfl
theorem Mw (p : mj) (l : List kY) {k : Nat} (h : k < l.length) : oP (ov p l) 0 (k : Int) = ov p (l.eraseIdx k) := by
 unfold oP
 rw [aT rfl]
 rw [show (ov p l).kK.kR = l from rfl, KX h]
 rfl
theorem OE (p : mj) : ∀ (k : Nat) (l : List kY), k ≤ l.length → shr 1 k (nW p l) = nW p (Aa (fun m => qj (nW p m)) k l)
 | 0, l, _ => rfl
 | k + 1, l, h => by
  rw [shr, Aa, MJ p l (by omega)]
  split
  ·exact OE p k _ (by rw [iD, aT (by omega)]; omega)
  ·exact OE p k l (by omega)
theorem Ox (p : mj) : ∀ (k : Nat) (l : List kY), k ≤ l.length → shr 0 k (ov p l) = ov p (Aa (fun m => qj (ov p m)) k l)
 | 0, l, _ => rfl
 | k + 1, l, h => by
  rw [shr, Aa, Mw p l (by omega)]
  split
  ·exact Ox p k _ (by rw [iD, aT (by omega)]; omega)
  ·exact Ox p k l (by omega)
theorem PL.of {p q : mj} (h : PL p) (a : RC q p) (lo : q.kK.kR.length ≤ 30000) (lc : q.Client.kR.length ≤ 30000) (ro : ∀ x ∈ q.kK.kR, lF x.kO ≤ 10000000) (rc : ∀ x ∈ q.Client.kR, lF x.kO ≤ 10000000) : PL q where
 o := ⟨by omega, by rw [a.2.1]; exact h.o.CG, ro, by rw [a.2.1]; exact h.o.CQ, by rw [a.2.1]; exact h.o.H3⟩
 c := ⟨by omega, by rw [a.2.2.2.1]; exact h.c.CG, rc, by rw [a.2.2.2.1]; exact h.c.CQ, by rw [a.2.2.2.1]; exact h.c.H3⟩
 lo := lo
 lc := lc
 f := by rw [a.2.2.2.2.1]; exact h.f
theorem PL.nW {p : mj} (h : PL p) {l : List kY} (a : l.length ≤ 30000) (b : ∀ x ∈ l, lF x.kO ≤ 10000000) : PL (nW p l) where
 o := h.o
 c := ⟨by show l.length ≤ _; omega, h.c.CG, b, h.c.CQ, h.c.H3⟩
 lo := h.lo
 lc := a
 f := h.f
theorem PL.ov {p : mj} (h : PL p) {l : List kY} (a : l.length ≤ 30000) (b : ∀ x ∈ l, lF x.kO ≤ 10000000) : PL (ov p l) where
 o := ⟨by show l.length ≤ _; omega, h.o.CG, b, h.o.CQ, h.o.H3⟩
 c := h.c
 lo := a
 lc := h.lc
 f := h.f
abbrev CF (x : kY) : Prop := lF x.kO ≤ 10000000
theorem HT.nil (G : List kY → Bool) (A : List kY) : HT G A [] := fun B1 x B2 e => by
 cases B1 <;> cases e
theorem Sc {p : mj} (h : PL p) : ∀ a b : List kY, a.length ≤ 30000 → b.length ≤ 30000 → (∀ x ∈ a, CF x) → (∀ x ∈ b, CF x) → sw a b → qj (nW p a) = true → qj (nW p b) = true :=
 fun a b i j k l g d => BE (h.nW i k) (h.nW j l) ⟨rfl, rfl, rfl, rfl, rfl, sw.refl _, g⟩ d
theorem SC {p : mj} (h : PL p) : ∀ a b : List kY, a.length ≤ 30000 → b.length ≤ 30000 → (∀ x ∈ a, CF x) → (∀ x ∈ b, CF x) → sw a b → qj (ov p a) = true → qj (ov p b) = true :=
 fun a b i j k l g d => BE (h.ov i k) (h.ov j l) ⟨rfl, rfl, rfl, rfl, rfl, g, sw.refl _⟩ d
structure Ib (p : mj) (o c : List kY) : Prop where
 is : LN p = ov (nW p c) o
 pl : PL (ov (nW p c) o)
 gr : qj (ov (nW p c) o) = true
 so : sw o p.kK.kR
 sc : sw c p.Client.kR
 lo : o.length ≤ 30000
 lc : c.length ≤ 30000
 ro : ∀ x ∈ o, CF x
 rc : ∀ x ∈ c, CF x
 ko : ∀ i, i < o.length → qj (ov (nW p c) (o.eraseIdx i)) = false
 kc : ∀ i, i < c.length → qj (ov (nW p (c.eraseIdx i)) o) = false
theorem CT {l : List kY} {i : Nat} (h : i < l.length) : ∃ A x B, l = A ++ x :: B ∧ l.eraseIdx i = A ++ B ∧ A.length = i := by
 obtain ⟨A, x, B, rfl, a⟩ := E9 l i h
 refine ⟨A, x, B, rfl, ?_, a⟩
 subst a
 rw [fW (aO _)]; simp
theorem Cq {l : List kY} {i : Nat} (h : ∀ x ∈ l, CF x) : ∀ x ∈ l.eraseIdx i, CF x := fun x a => h x (List.mem_of_mem_eraseIdx a)
theorem B4 {l : List kY} {i : Nat} (h : l.length ≤ 30000) : (l.eraseIdx i).length ≤ 30000 := by
 rw [iD]; split <;> omega
theorem P0 (p : mj) (h : PL p) (t : qj p = true) : ∃ o c, Ib p o c := by
 have j := Lu (fun m => qj (nW p m)) 30000 CF (Sc h) p.Client.kR [] (by rw [aQ]; exact h.lc) (by rw [aQ]; exact h.c.rel) (by rw [aQ]; exact t) (HT.nil _ _)
 rw [aQ] at j
 have q := OE p p.Client.kR.length p.Client.kR (aO _)
 generalize s : Aa (fun m => qj (nW p m)) p.Client.kR.length p.Client.kR = c at *
 obtain ⟨c1, c2, n, z, a⟩ := j
 have lc : c.length ≤ 30000 := by have := h.lc; omega
 have h1 : PL (nW p c) := h.nW lc a
 have k := Lu (fun m => qj (ov (nW p c) m)) 30000 CF (SC h1) p.kK.kR [] (by rw [aQ]; exact h.lo) (by rw [aQ]; exact h.o.rel) (by rw [aQ]; exact c1) (HT.nil _ _)
 rw [aQ] at k
 have r := Ox (nW p c) p.kK.kR.length p.kK.kR (aO _)
 generalize u : Aa (fun m => qj (ov (nW p c) m)) p.kK.kR.length p.kK.kR = o at *
 obtain ⟨w, l, y, D, g⟩ := k
 have lo : o.length ≤ 30000 := by have := h.lo; omega
 refine ⟨o, c, ?_, h1.ov lo g, w, l, c2, lo, lc, g, a, fun i d => ?_, fun i d => ?_⟩
 ·unfold LN
  rw [show shr 1 p.Client.kR.length p = nW p c from q]
  exact r
 ·obtain ⟨A, x, B, e, b, _⟩ := CT d
  rw [b]
  have := (y A x B e).2
  rw [aU] at this
  exact this
 ·obtain ⟨A, x, B, e, b, _⟩ := CT d
  have := (n A x B e).2
  rw [aU, ← b] at this
  change qj (nW p (c.eraseIdx i)) = false at this
  rw [← eZ]
  intro v
  have hm := BE ((h.nW (B4 (i := i) lc) (Cq a)).ov lo g) (h.nW (B4 (i := i) lc) (Cq a)) ⟨rfl, rfl, rfl, rfl, rfl, l, sw.refl _⟩ v
  rw [this] at hm; cases hm
theorem EX (p : mj) (e : Int) : ∀ (l : List kY) (k : Nat) (n : mM), n ∈ tk p e l k → ∃ i, i < l.length ∧ n = ⟨e, ((k + i : Nat) : Int)⟩ ∧ qj (oP p e ((k + i : Nat) : Int)) = false
 | [], _, n, h => by rw [tk] at h; cases h
 | x :: l, k, n, h => by
  rw [tk] at h
  rcases aN.1 h with h | h
  ·cases a : qj (oP p e k)
   ·rw [a] at h
    simp at h
    exact ⟨0, by simp, h, a⟩
   ·rw [a] at h; simp at h
  ·obtain ⟨i, h1, b, d⟩ := EX p e l (k + 1) n h
   exact ⟨i + 1, by simp; omega, by rw [b]; congr 2; omega, by rw [show k + (i + 1) = k + 1 + i by omega]; exact d⟩
theorem ES (p : mj) (e : Int) : ∀ (l : List kY) (k : Nat), (∀ i, i < l.length → qj (oP p e ((k + i : Nat) : Int)) = false) → (tk p e l k).length = l.length
 | [], _, _ => by simp [tk]
 | x :: l, k, h => by
  have a := h 0 (by simp)
  rw [iE] at a
  rw [tk, a, aD, ES p e l (k + 1) (fun i b => by rw [show k + 1 + i = k + (i + 1) by omega]; exact h (i + 1) (by simp; omega))]
  simp; omega
theorem Ib.all {p : mj} {o c : List kY} (s : Ib p o c) : (DF (ov (nW p c) o)).length = o.length + c.length := by
 unfold DF
 rw [s.gr, aT rfl, aD]
 rw [ES _ 0 _ 0 (fun i a => by
  rw [eL, show oP (ov (nW p c) o) 0 (i : Int) = ov (nW p c) (o.eraseIdx i) from Mw _ o a]
  exact s.ko i a)]
 rw [ES _ 1 _ 0 (fun i a => by
  rw [eL, show oP (ov (nW p c) o) 1 (i : Int) = ov (nW p (c.eraseIdx i)) o from MJ (ov p o) c a]
  exact s.kc i a)]
 rfl
theorem Jl {l m : List kY} {i : Nat} {x : kY} (j : sw m l) (h : i < l.length) (b : l[i]? = some x) (hm : ∀ y ∈ m, y.Signed.kJ ≠ x.Signed.kJ) : sw m (l.eraseIdx i) := by
 obtain ⟨A, z, B, rfl, e, d⟩ := CT h
 have : z = x := by
  subst d
  rw [eH (aO _)] at b
  simpa using b
 subst this
 rw [e]
 intro c r a
 have h1 := j c r a
 rw [D0] at h1
 split at h1
 ·rename_i g
  have : z.Signed.kJ = c := mC.1 g.1
  subst this
  rw [AE.2 hm] at a
  cases a
 ·exact h1
theorem Ib.Q2 {p : mj} (h : PL p) {o c : List kY} (s : Ib p o c) {i : Nat} {x : kY} (a : i < p.Client.kR.length) (j : p.Client.kR[i]? = some x) (b : qj (oP p 1 (i : Int)) = false) : x.Signed.kJ ∈ c.map (·.Signed.kJ) := by
 refine eQ fun g => ?_
 have hm : ∀ y ∈ c, y.Signed.kJ ≠ x.Signed.kJ := fun y k e => g (bB.2 ⟨y, k, e⟩)
 have d := Jl s.sc a j hm
 rw [show oP p 1 (i : Int) = nW p (p.Client.kR.eraseIdx i) from MJ p p.Client.kR a] at b
 have := BE s.pl (h.nW (B4 (i := i) h.lc) (Cq h.c.rel)) ⟨rfl, rfl, rfl, rfl, rfl, s.so, d⟩ s.gr
 rw [b] at this; cases this
theorem Ib.Rt {p : mj} (h : PL p) {o c : List kY} (s : Ib p o c) {i : Nat} {x : kY} (a : i < p.kK.kR.length) (j : p.kK.kR[i]? = some x) (b : qj (oP p 0 (i : Int)) = false) : x.Signed.kJ ∈ o.map (·.Signed.kJ) := by
 refine eQ fun g => ?_
 have hm : ∀ y ∈ o, y.Signed.kJ ≠ x.Signed.kJ := fun y k e => g (bB.2 ⟨y, k, e⟩)
 have d := Jl s.so a j hm
 rw [show oP p 0 (i : Int) = ov p (p.kK.kR.eraseIdx i) from Mw p p.kK.kR a] at b
 have := BE s.pl (h.ov (B4 (i := i) h.lo) (Cq h.o.rel)) ⟨rfl, rfl, rfl, rfl, rfl, d, s.sc⟩ s.gr
 rw [b] at this; cases this
end Go.Proofs.YtmlncblocfcmiaaGreat
namespace Go.Proofs.YtmlncblocfcmiaaGreat
open Go.RowKit
theorem J0 : ∀ (l : List kY) (mp : List (kJ × Bool)) (s : List kJ), zz mp s → ∃ a, pZ l mp = some a ∧ zz a (s ++ l.map (·.Signed.kJ))
 | [], mp, s, h => ⟨mp, by rw [pZ], by simpa using h⟩
 | x :: l, mp, s, h => by
  obtain ⟨a, e, b⟩ := J0 l _ _ (h.put x.Signed.kJ)
  exact ⟨a, by rw [pZ]; exact e, by simpa using b⟩
theorem JP (p : mj) (q k : List (kJ × Bool)) (so sc : List kJ) (t : zz q so) (r : zz k sc) : ∀ l : List mM,
  (∀ n ∈ l, ∃ (i : Nat) (x : kY), n.qv = (i : Int) ∧ ((n.qu = 0 ∧ p.kK.kR[i]? = some x ∧ x.Signed.kJ ∈ so) ∨ (n.qu = 1 ∧ p.Client.kR[i]? = some x ∧ x.Signed.kJ ∈ sc))) →
  pe p q k l = some (.inr ())
 | [], _ => by rw [pe]
 | n :: l, h => by
  have ih := JP p q k so sc t r l (fun m hm => h m (by simp [hm]))
  obtain ⟨i, x, h1, u⟩ := h n (by simp)
  have w : ((IntKind.i64.wrap (BitVec.ofInt (IntKind.bits .i64) 0 &&& BitVec.ofInt (IntKind.bits .i64) 1).toNat) == 0) = true := by decide
  have z : ((IntKind.i64.wrap (BitVec.ofInt (IntKind.bits .i64) 1 &&& BitVec.ofInt (IntKind.bits .i64) 1).toNat) == 0) = false := by decide
  have D : ((IntKind.i64.wrap (BitVec.ofInt (IntKind.bits .i64) 1 &&& BitVec.ofInt (IntKind.bits .i64) 1).toNat) == 1) = true := by decide
  have s : ∀ (L : List kY), L[i]? = some x → ¬ ((i : Int) < 0) ∧ ¬ ((i : Int) ≥ (L.length : Int)) ∧ mF L (i : Int) = some x := fun L a => by
   have g := (bH.1 a).1
   refine ⟨by omega, by omega, ?_⟩
   obtain ⟨A, y, B, rfl, v⟩ := E9 L i g
   subst v
   rw [eH (aO _)] at a
   simp at a
   subst a
   exact nP A y B _ rfl
  rcases u with ⟨d, j, hm⟩ | ⟨d, j, hm⟩
  ·obtain ⟨b, a2, a3⟩ := s _ j
   rw [pe, h1, d]
   simp only [show ((0 : Int) == 1) = false from rfl, aB, aG, aA, b, a2, bV, w, aJ, a3]
   rw [t, (pz mC _ _).2 hm]
   simp only [cA, aB, aG, aA]
   exact ih
  ·obtain ⟨b, a2, a3⟩ := s _ j
   rw [pe, h1, d]
   simp only [aV, aB, aG, aA, b, a2, bV, z, D, aJ, a3]
   rw [r, (pz mC _ _).2 hm]
   simp only [cA, aB, aG, aA]
   exact ih
theorem Jn (p : mj) (h : PL p) {o c : List kY} (s : Ib p o c) (q : qj p = true) : ∀ (l A : List kY) (mp : List (kJ × Bool)), o = A ++ l → zz mp (A.map (·.Signed.kJ)) → pY (ov (nW p c) o, true) p l mp = some true
 | [], A, mp, e, hm => by
  rw [aQ] at e
  subst e
  obtain ⟨k, r, m⟩ := J0 c [] [] (fun _ => rfl)
  rw [aU] at m
  rw [pY]
  rw [show (ov (nW p c) o, true).1.Client.kR = c from rfl, r, aA, MO p h, aA]
  rw [JP p mp k _ _ hm m (DF p) (fun n a => by
   unfold DF at a
   rw [q, aT rfl] at a
   rcases aN.1 a with a | a
   ·obtain ⟨i, g, rfl, d⟩ := EX p 0 _ 0 n a
    rw [eL] at *
    refine ⟨i, p.kK.kR[i], rfl, .inl ⟨rfl, by simp, ?_⟩⟩
    exact s.Rt h g (by simp) d
   ·obtain ⟨i, g, rfl, d⟩ := EX p 1 _ 0 n a
    rw [eL] at *
    refine ⟨i, p.Client.kR[i], rfl, .inr ⟨rfl, by simp, ?_⟩⟩
    exact s.Q2 h g (by simp) d)]
  simp only [aA]
  have b := s.pl
  obtain ⟨x, y, j, _, _, g1, _⟩ := Be (ov (nW p c) o).kK (ov (nW p c) o).Client (ov (nW p c) o).Formula b.o b.c b.lo b.lc b.f
  have g2 : qO (ov (nW p c) o).kK (ov (nW p c) o).Client (ov (nW p c) o).Formula = some true := by
   have := s.gr
   unfold qj at this
   rw [g1] at this
   rw [g1]
   exact bI some this
  rw [g2, aA, aT rfl, MO _ b]
  simp only [aA]
  rw [s.all]
  have t := s.lo
  have u := s.lc
  rw [show (ov (nW p c) o).kK.kR = o from rfl, lJ (by omega) (by omega)]
  simp
 | x :: l, A, mp, e, hm => by
  rw [pY]
  exact Jn p h s q l (A ++ [x]) _ (by rw [e]; simp) (by rw [cI]; exact hm.put x.Signed.kJ)
theorem GA (i : wA = some true) (p : mj) (hp : PQ p) : uZ p = some true := by
 obtain ⟨g, d, a⟩ := TR p hp
 unfold uZ
 rw [i, d]
 simp only [aA, cA, aB, aG]
 by_cases b : g > 4000
 ·simp only [b, bT, aJ]
 ·simp only [b, bV, aB, aG]
  have h : PL p := ⟨hp.o.toPB, hp.c.toPB, by omega, by omega, by have := hp.f; unfold Gd; omega⟩
  rw [KA p h, aA]
  cases a : qj p
  ·simp only [aB, aG, cX, aJ]
   obtain ⟨x, y, j, _, _, g1, _⟩ := Be p.kK p.Client p.Formula h.o h.c h.lo h.lc h.f
   have : uW (vD y p.Client.Name) p.Formula = false := by
    unfold qj at a
    rw [g1] at a
    exact a
   rw [g1, this]
   rfl
  ·obtain ⟨o, c, s⟩ := P0 p h a
   simp only [aJ, cA, aB, aG]
   rw [s.is]
   exact Jn p h s a o [] [] rfl (fun _ => rfl)
end Go.Proofs.YtmlncblocfcmiaaGreat
namespace Go.Proofs.YtmlncblocfcmiaaGreat.Lf
open Go.ChangeShapes Go.WideShapes Go.ChangeAt Go.RowKit
open Go.Proofs.YtmlncblocfcmiaaGreat (Rows.uptoBulk Rows.uptoBulkAll Rows.uptoSmall)
theorem R3 {H : Type} (d : DataW H) : 1 ≤ Rows.uptoBulk d := by
 cases d with
 | lit l => cases l <;> simp [Rows.uptoBulk]
 | nil => simp [Rows.uptoBulk]
 | ptr d => simp [Rows.uptoBulk]
 | slice a spare => simp [Rows.uptoBulk]
 | agg parts => simp [Rows.uptoBulk]
 | iface t d => simp [Rows.uptoBulk]
 | map entries => simp [Rows.uptoBulk]
 | held h => simp [Rows.uptoBulk]
def Hp {α : Type} (P : Program) (t : TypeId) (enc : α → List Value) (sz : α → Nat) : Prop :=
 ∀ (H : Type) (b : TypeId × Value → H) (W : World) (base : Nat) (sp : Nat → Bool) (d : Bool) (fuel : Nat) (cs : List Value) (x : DataW H × List MemPlace),
  DataW.trod b P W base sp d fuel t cs = some x → ∃ a : α, cs = enc a ∧ sz a ≤ Rows.uptoBulk x.1
theorem LY {P : Program} {t : TypeId} (a : P.underlying t = some .string) : Hp P t (fun s : ByteArray => [.string s]) (fun s => s.size) := by
 intro H b W base sp d fuel cs x h
 obtain ⟨s, rfl, rfl, _⟩ := DataW.trod_string a h
 refine ⟨s, rfl, ?_⟩
 have e : s.data.toList.length = s.size := by rw [dD]; rfl
 simp [Rows.uptoBulk, e]
theorem Qq {P : Program} {t : TypeId} {k : IntKind} (a : P.underlying t = some (.int k)) : Hp P t (fun n : Int => [.int k n]) (fun _ => 0) := by
 intro H b W base sp d fuel cs x h
 obtain ⟨n, rfl, rfl, _⟩ := DataW.trod_int a h
 exact ⟨n, rfl, fI _⟩
theorem QF {α : Type} {n : Nat} {p : Nat → α → Prop} (h : ∀ i, i < n → ∃ x, p i x) : ∃ l : List α, l.length = n ∧ ∀ i x, l[i]? = some x → p i x := by
 induction n with
 | zero => exact ⟨[], rfl, by simp⟩
 | succ n ih =>
  obtain ⟨l, h1, d⟩ := ih fun i b => h i (by omega)
  obtain ⟨x, j⟩ := h n (by omega)
  refine ⟨l ++ [x], by simp [h1], fun i y a => ?_⟩
  by_cases b : i < l.length
  ·rw [iI b] at a
   exact d i y a
  ·rw [eH (by omega)] at a
   have : i - l.length = 0 := by
    cases g : i - l.length with
    | zero => rfl
    | succ m => rw [g] at a; simp at a
   rw [this] at a
   have e : i = n := by omega
   simp at a
   subst a; rw [e]; exact j
theorem JB {W : World} {a : Addr} {v : Value} (h : W.cell? a = some v) : ∃ cs T fr, W.heap[a.block]? = some (.cells cs T fr) ∧ a.spot = none ∧ cs[a.off]? = some v := by
 unfold World.cell? at h
 split at h
 ·rename_i c T fr d
  by_cases b : a.spot.isSome
  ·simp [b] at h
  ·simp only [b] at h
   exact ⟨c, T, fr, d, by simpa using b, by simpa using h⟩
 ·cases h
theorem Ex.below {dd : Bool} {W W' : World} (h : Ex dd W W') : Below W.heap.size W W' := ⟨h.os, h.tape, h.output, h.size, h.nA⟩
theorem En {H : Type} {k : TypeId × Value → H} {P : Program} (m : laidOutB P = true) {W W' : World} {b : Nat → Bool} :
  ∀ {i : List TypeId} {vs : List Value} {ds : List (DataW H)} {g : List MemPlace}, (∀ t ∈ i, P.readableRec t = true ∧ t < P.types.size) →
   DataW.TrodAll k P W 0 (fun _ => true) true i vs ds g → (∀ p ∈ g, W.sameAt W' p) → (∀ p ∈ g, b p.block = true) → DataW.TrodAll k P W' 0 b true i vs ds g
 | [], _, _, _, _, h, _, _ => by
  obtain ⟨rfl, rfl, rfl⟩ := trodAll_nil h
  exact trodAll_mk0
 | t :: i, _, _, _, j, h, h1, l => by
  obtain ⟨v, vs, d, ds, p, q, rfl, rfl, rfl, n, r⟩ := trodAll_cons h
  exact trodAll_cons_mk (WideElems.Trod_stays m (j t (by simp)).1 (j t (by simp)).2 n (fun x a => h1 x (by simp [a])) (fun x a => l x (by simp [a])))
   (En m (fun u hu => j u (by simp [hu])) r (fun x a => h1 x (by simp [a])) (fun x a => l x (by simp [a])))
theorem LR {H : Type} {enc : TypeId × Value → H} {P : Program} (J : laidOutB P = true) {f : Func} {s : ChangeSpec} {apart fresh handsOn again : Bool} {W W' : World} {args : Array Value} {v : Value} {ds gs : List (DataW H)} {before : List MemPlace} (M : ∀ t ∈ f.params.toList, P.readableRec t = true ∧ t < P.types.size) (m : s.vars = []) (u : DataW.Whole enc P f.params.toList s.vars apart W args.toList ds gs before) {dd : Bool} (E : Ex dd W W') (a : ∀ (b : Nat) (sp : Nat → Bool) (I : Bool), DataW.TrodAll enc P W' b sp I f.resultTypes.toList (v.resultList f.resultTypes.size) (s.fn H (ds ++ gs)).results []) (d : (s.fn H (ds ++ gs)).args = ds) (h : (s.fn H (ds ++ gs)).vars = []) (A : ∀ (j : Nat) (t : TypeId) (r : Value), f.resultTypes[j]? = some t → (v.resultList f.resultTypes.size)[j]? = some r → Value.okWide P W' .any 0 t r) :
  s.post enc P f apart fresh handsOn again W args v W' := by
 have g := u.lt
 have hold : ∀ p ∈ before, (fun b => decide (b < W.heap.size)) p.block = true := fun p hp => by simpa using g p hp
 have z := Ex.below E
 have y := u
 obtain ⟨p, q, G, F, k, O, L⟩ := u
 rw [m] at F
 obtain ⟨rfl, rfl⟩ := trodVars_none F
 rw [aQ] at k
 subst k
 have l : ∀ sp : Nat → Bool, (∀ p ∈ before, sp p.block = true) → DataW.TrodAll enc P W' 0 sp true f.params.toList args.toList (s.fn H (ds ++ [])).args before := fun sp D => by
  rw [d]
  exact En J M G (fun x E => z.same (g x E)) D
 have n : ∀ sp : Nat → Bool, DataW.TrodVars enc P W' sp s.vars (s.fn H (ds ++ [])).vars [] := fun sp => by
  rw [h, m]; rfl
 refine ⟨ds, [], before, [], before, [], y, a _ _ _, l _ hold, n _, World.keptBut_mono (fun p hp => ⟨hp, ?_⟩) (z.frame (· ∈ before)), fun _ => ?_⟩
 ·exact Or.inr (Or.inl hp)
 ·refine ⟨A, _, _, ([] ++ before) ++ [], ⟨[] ++ before, [], trodAll_append (l _ (fun _ _ => rfl)) (a _ _ _), n _, rfl, ?_, ?_⟩, ?_⟩
  ·intro b off hp
   have i : MemPlace.cell b off ∈ before := by simpa using hp
   rw [World.frozen?_of_block (w := W) (z.block b (g _ i))]
   exact O b off i
  ·intro ha
   simpa using L ha
  ·intro p hp _
   simpa using hp
end Go.Proofs.YtmlncblocfcmiaaGreat.Lf
namespace Go.Proofs.YtmlncblocfcmiaaGreat.Lf
open Go.ChangeShapes Go.WideShapes Go.ChangeAt Go.RowKit
open Go.Proofs.YtmlncblocfcmiaaGreat (Rows.uptoBulk Rows.uptoBulkAll Rows.uptoSmall)
def Fg {α : Type} (P : Program) (t : TypeId) (R : rr α) (sz : α → Nat) : Prop :=
 ∀ (H : Type) (b : TypeId × Value → H) (W : World) (base : Nat) (sp : Nat → Bool) (d : Bool) (fuel : Nat) (cs : List Value) (x : DataW H × List MemPlace),
  DataW.trod b P W base sp d fuel t cs = some x → ∃ a : α, R (hp W) cs a ∧ sz a ≤ Rows.uptoBulk x.1
theorem Hp.rel {α : Type} {P : Program} {t : TypeId} {enc : α → List Value} {sz : α → Nat} (h : Hp P t enc sz) : Fg P t (Pl enc) sz := fun H a W base sp b fuel cs x d => h H a W base sp b fuel cs x d
end Go.Proofs.YtmlncblocfcmiaaGreat.Lf
namespace Go.Proofs.YtmlncblocfcmiaaGreat.Lf
open Go.ChangeShapes Go.WideShapes Go.ChangeAt Go.RowKit
open Go.Proofs.YtmlncblocfcmiaaGreat (Rows.uptoBulk Rows.uptoBulkAll Rows.uptoSmall)
theorem FW {H : Type} : ∀ l : List (DataW H), Rows.uptoBulkAll l = (l.map Rows.uptoBulk).sum
 | [] => by simp [Rows.uptoBulkAll]
 | d :: l => by simp [Rows.uptoBulkAll, FW l]
theorem Nn {α : Type} (g : α → Nat) : ∀ (n : Nat) (f : Nat → Nat) {l : List α}, l.length = n → (∀ i x, l[i]? = some x → g x ≤ f i) → (l.map g).sum ≤ ((List.range n).map f).sum
 | 0, f, l, b, h => by
  obtain rfl := eW.1 b
  simp
 | n + 1, f, [], b, h => by cases b
 | n + 1, f, a :: l, b, h => by
  rw [List.range_succ_eq_map, bP, bP, gF, gF, fG]
  have h1 := h 0 a rfl
  have j := Nn g n (f ∘ Nat.succ) (l := l) (by simpa using b) (fun i x d => h (i + 1) x (by simpa using d))
  omega
def tu {α : Type} (sz : α → Nat) (l : List α) : Nat := (l.map fun a => max 1 (sz a)).sum
theorem Ds {α : Type} (sz : α → Nat) : ∀ l : List α, l.length ≤ tu sz l
 | [] => aO _
 | a :: l => by have := Ds sz l; simp only [tu, bP, gF, aI] at this ⊢; omega
theorem Hl {α : Type} {sz : α → Nat} : ∀ {l : List α} {a : α}, a ∈ l → sz a ≤ tu sz l
 | b :: l, a, h => by
  simp only [tu, bP, gF]
  rcases aK.1 h with rfl | h
  ·omega
  ·have := Hl (sz := sz) h; simp only [tu] at this; omega
theorem FI {α : Type} {P : Program} {t e : TypeId} {k : Nat} {R : rr α} {sz : α → Nat} (hk : P.cellsOf e = k) (L : 0 < k) (ht : P.underlying t = some (.slice e)) {H : Type} {Y : TypeId × Value → H} {W : World} {base : Nat} {sp : Nat → Bool} {held : Bool} {fuel : Nat} {cs : List Value} {x : DataW H × List MemPlace} (hd : ∀ (fuel : Nat) (cs : List Value) (y : DataW H × List MemPlace), DataW.trod Y P W base sp held fuel e cs = some y → SizeOf.sizeOf y.1 < SizeOf.sizeOf x.1 → ∃ a : α, R (hp W) cs a ∧ sz a ≤ Rows.uptoBulk y.1) (hf : DataW.trod Y P W base sp held fuel t cs = some x) :
  ∃ v l, cs = [v] ∧ Sl R k (hp W) v l ∧ tu sz l ≤ Rows.uptoBulk x.1 := by
 rcases Go.Deep.open_slice ht hf with ⟨rfl, rfl⟩ | ⟨a, ln, cp, m, n, D, Q, rfl, hb, hl, hm, O, rfl, I⟩
 ·exact ⟨_, [], rfl, ⟨none, 0, rfl, aO _, fI _, fun h => absurd h (Nat.lt_irrefl _)⟩, fI _⟩
 ·have aa : ln ≤ m := by rw [O]; split <;> omega
  have hB : ((List.range ln).map fun i => Rows.uptoBulk (D i)).sum ≤ Rows.uptoBulk (DataW.slice ((List.range ln).map D) ((List.range (m - ln)).map fun j => D (ln + j))) := by
   simp only [Rows.uptoBulk]
   rw [FW, fG]
   have e : ((List.range ln).map fun i => Rows.uptoBulk (D i)) = (List.range ln).map (Rows.uptoBulk ∘ D) := rfl
   rw [e]
   omega
  have hS : ∀ i, i < ln → SizeOf.sizeOf (D i) < SizeOf.sizeOf (DataW.slice ((List.range ln).map D) ((List.range (m - ln)).map fun j => D (ln + j))) := fun i J => by
   have := List.sizeOf_lt_of_mem (bB.2 ⟨i, List.mem_range.2 J, rfl⟩ : D i ∈ (List.range ln).map D)
   rw [DataW.slice.sizeOf_spec]; omega
  simp only at hd ⊢
  generalize Rows.uptoBulk (DataW.slice ((List.range ln).map D) ((List.range (m - ln)).map fun j => D (ln + j))) = B at hB
  obtain ⟨l, M, s⟩ := QF (α := α) (n := ln) (p := fun i x => ∃ b, W.cells? base (a.add (i * k)) k = some b ∧ R (hp W) b x ∧ sz x ≤ Rows.uptoBulk (D i)) fun i J => by
   obtain ⟨b, h1, A⟩ := I i (by omega)
   obtain ⟨x, hR, E⟩ := hd _ _ _ A (hS i J)
   rw [hk] at h1
   exact ⟨x, b, h1, hR, E⟩
  subst M
  refine ⟨_, l, rfl, ⟨some a, cp, rfl, hl, hm, fun h0 => ?_⟩, ?_⟩
  ·have d : ∀ i x, l[i]? = some x → ∃ b, R (hp W) b x ∧ b.length = k ∧ ∀ j, j < k → W.cell? ((a.add (i * k)).add j) = b[j]? := fun i x u =>
    let ⟨b, h1, A, _⟩ := s i x u
    let ⟨_, E, Z⟩ := World.cells?_some h1
    ⟨b, A, E, Z⟩
   obtain ⟨a6, _, Z, h5⟩ := d 0 l[0] (by simp [h0])
   have F := h5 0 L
   rw [Nat.zero_mul, cY (by omega)] at F
   have e0 : (a.add 0).add 0 = a := rfl
   rw [e0] at F
   obtain ⟨cs, T, fr, G, h8, _⟩ := JB F
   obtain ⟨w, z, a1⟩ := a
   simp only at G h8
   subst h8
   refine ⟨w, z, cs, T, fr, rfl, G, fun i x u => ?_⟩
   obtain ⟨b, gR, g1, g2⟩ := d i x u
   refine ⟨b, g1, gR, fun j y hy => ?_⟩
   have hj : j < k := by
    rw [← g1]
    exact (bH.1 hy).1
   have h9 := g2 j hj
   rw [Go.Deep.add_add, hy] at h9
   obtain ⟨U, T', a7, g, a8, q⟩ := JB h9
   have r : (Addr.add ⟨w, z, none⟩ (i * k + j)).block = w ∧ (Addr.add ⟨w, z, none⟩ (i * k + j)).off = z + (i * k + j) := by
    unfold Addr.add
    split
    ·rename_i hz
     rw [hz]; exact ⟨rfl, rfl⟩
    ·exact ⟨rfl, rfl⟩
   rw [r.1, G] at g
   cases g
   rw [r.2, ← fF] at q
   exact q
  ·refine dB (Nn _ _ _ rfl fun i x u => ?_) hB
   exact Nat.max_le.2 ⟨R3 _, (s i x u).elim fun _ h => h.2.2⟩
theorem uc {α : Type} {P : Program} {t e : TypeId} {k : Nat} {R : rr α} {sz : α → Nat} (hk : P.cellsOf e = k) (a : 0 < k) (d : Fg P e R sz) (i : P.underlying t = some (.slice e)) {H : Type} {b : TypeId × Value → H} {W : World} {base : Nat} {sp : Nat → Bool} {held : Bool} {fuel : Nat} {cs : List Value} {x : DataW H × List MemPlace} (g : DataW.trod b P W base sp held fuel t cs = some x) :
  ∃ v l, cs = [v] ∧ Sl R k (hp W) v l ∧ tu sz l ≤ Rows.uptoBulk x.1 := FI hk a i (fun _ _ _ h _ => d _ _ _ _ _ _ _ _ _ h) g
end Go.Proofs.YtmlncblocfcmiaaGreat.Lf
namespace Go.Proofs.YtmlncblocfcmiaaGreat.Lf
open Go.ChangeShapes Go.WideShapes Go.ChangeAt Go.RowKit
open Go.Proofs.YtmlncblocfcmiaaGreat (Rows.uptoBulk Rows.uptoBulkAll Rows.uptoSmall)
def Ln {α : Type} (R : rr α) (Q : α → Prop) : rr α := fun μ ys x => R μ ys x ∧ Q x
theorem Sl.all {α : Type} {R : rr α} {Q : α → Prop} {k : Nat} {μ : lG} {v : Value} {l : List α} (h : Sl (Ln R Q) k μ v l) : Sl R k μ v l ∧ ∀ x ∈ l, Q x := by
 obtain ⟨A, c, rfl, h1, j, q⟩ := h
 cases l with
 | nil => exact ⟨⟨A, c, rfl, h1, j, fun h => absurd h (by simp)⟩, by simp⟩
 | cons a l =>
  obtain ⟨b, o, cs, T, fr, e, r, m⟩ := q (by simp)
  refine ⟨⟨A, c, rfl, h1, j, fun _ => ⟨b, o, cs, T, fr, e, r, fun i x g => ?_⟩⟩, fun x g => ?_⟩
  ·obtain ⟨ys, n, d, p⟩ := m i x g
   exact ⟨ys, n, d.1, p⟩
  ·obtain ⟨i, s⟩ := List.mem_iff_getElem?.1 g
   obtain ⟨ys, n, d, p⟩ := m i x s
   exact d.2
theorem Qt {P : Program} {t : TypeId} (a : P.underlying t = some (.int .u8)) : Fg P t (Ln (Pl (mJ .u8)) (fun x => 0 ≤ x ∧ x < 256)) (fun _ => 0) := by
 intro H b W base sp d fuel cs x h
 obtain ⟨n, rfl, rfl, hw⟩ := DataW.trod_int a h
 refine ⟨n, ⟨rfl, ?_⟩, fI _⟩
 simp [Lit.wf, IntKind.min, IntKind.max, IntKind.bits, IntKind.signed] at hw
 omega
end Go.Proofs.YtmlncblocfcmiaaGreat.Lf
namespace Go.Proofs.YtmlncblocfcmiaaGreat
set_option maxRecDepth 10000
open Go.ChangeShapes Go.WideShapes Go.ChangeAt Go.RowKit
open Go.Proofs.YtmlncblocfcmiaaGreat Go.Proofs.YtmlncblocfcmiaaGreat.Lf
theorem OR : Tryz.prog.cellsOf 116 = 18 := by kernel_rfl
theorem QS {α : Type} {l : List α} (h : l.length = 9) : ∃ a0 a a2 a3 a4 a5 b d g, l = [a0, a, a2, a3, a4, a5, b, d, g] := by
 match l, h with
 | [a0, a, a2, a3, a4, a5, b, d, g], _ => exact ⟨a0, a, a2, a3, a4, a5, b, d, g, rfl⟩
theorem SG {α : Type} {l : List α} (h : l.length = 18) : ∃ a0 k a2 a3 a4 a5 m n p a9 a b a12 d g i j a17, l = [a0, k, a2, a3, a4, a5, m, n, p, a9, a, b, a12, d, g, i, j, a17] := by
 match l, h with
 | [a0, k, a2, a3, a4, a5, m, n, p, a9, a, b, a12, d, g, i, j, a17], _ => exact ⟨a0, k, a2, a3, a4, a5, m, n, p, a9, a, b, a12, d, g, i, j, a17, rfl⟩
theorem N7 : Tryz.prog.cellsOf 110 = 3 := by kernel_rfl
theorem Ph {α : Type} {l : List α} (h : l.length = 3) : ∃ a0 a a2, l = [a0, a, a2] := by
 match l, h with
 | [a0, a, a2], _ => exact ⟨a0, a, a2, rfl⟩
theorem EP : Tryz.prog.cellsOf 9 = 1 := by kernel_rfl
theorem Gc : Hp Tryz.prog 9 (fun s : ByteArray => [.string s]) (fun s => s.size) := LY Tryz.underlying9
theorem Jw : Tryz.prog.cellsOf 107 = 1 := by kernel_rfl
theorem FY : Tryz.prog.cellsOf 138 = 15 := by kernel_rfl
theorem E0 {α : Type} {l : List α} (h : l.length = 2) : ∃ a0 a, l = [a0, a] := by
 match l, h with
 | [a0, a], _ => exact ⟨a0, a, rfl⟩
theorem Sf {α : Type} {l : List α} (h : l.length = 15) : ∃ a0 i a2 a3 a4 a5 j k m a9 a b a12 d g, l = [a0, i, a2, a3, a4, a5, j, k, m, a9, a, b, a12, d, g] := by
 match l, h with
 | [a0, i, a2, a3, a4, a5, j, k, m, a9, a, b, a12, d, g], _ => exact ⟨a0, i, a2, a3, a4, a5, j, k, m, a9, a, b, a12, d, g, rfl⟩
theorem QG : Tryz.prog.cellsOf 56 = 10 := by kernel_rfl
theorem Hy : Tryz.prog.cellsOf 53 = 9 := by kernel_rfl
theorem DT : Hp Tryz.prog 3 (fun n : Int => [.int .i64 n]) (fun _ => 0) := Qq Tryz.underlying3
theorem GQ : Tryz.prog.cellsOf 3 = 1 := by kernel_rfl
theorem Fh : Tryz.prog.cellsOf 28 = 2 := by kernel_rfl
def yf (x : kI) : Nat := x.kK.size + x.kP.size
theorem He : Hp Tryz.prog 28 kW yf := by
 intro H g W base sp j fuel cs x h
 obtain ⟨xs, n, _, rfl, p, hlen, k⟩ := eG Tryz.underlying28 h
 obtain ⟨r, s, rfl⟩ := E0 hlen
 obtain ⟨a, c1, rfl⟩ := E0 (p.trans Fh)
 have i : DataW.trod g Tryz.prog W base sp j n 9 (([a, c1].drop 0).take (Tryz.prog.cellsOf 9)) = some r := k 0 _ rfl
 have h1 : DataW.trod g Tryz.prog W base sp j n 9 (([a, c1].drop 1).take (Tryz.prog.cellsOf 9)) = some s := k 1 _ rfl
 simp only [EP, List.drop, List.take] at i h1
 obtain ⟨q, b, l⟩ := Gc _ _ _ _ _ _ _ _ _ i
 obtain ⟨s1, d, m⟩ := Gc _ _ _ _ _ _ _ _ _ h1
 simp only [aX, dL] at b d
 obtain rfl := b
 obtain rfl := d
 refine ⟨⟨q, s1⟩, rfl, ?_⟩
 simp only [List.map, Rows.uptoBulk, Rows.uptoBulkAll, yf] at l m ⊢
 omega
theorem Tm {α : Type} {l : List α} (h : l.length = 6) : ∃ a0 a a2 a3 a4 a5, l = [a0, a, a2, a3, a4, a5] := by
 match l, h with
 | [a0, a, a2, a3, a4, a5], _ => exact ⟨a0, a, a2, a3, a4, a5, rfl⟩
def vO (x : kJ) : Nat := yf x.Head + x.lH.size + yf x.B + yf x.C + x.lM.size
theorem Pu : Hp Tryz.prog 53 kN vO := by
 intro H l W base sp m fuel cs x h
 obtain ⟨xs, n, _, rfl, M, hlen, p⟩ := eG Tryz.underlying53 h
 obtain ⟨T, U, Y, Z, y4, y5, rfl⟩ := Tm hlen
 obtain ⟨a, c1, c2, b, d, g, i, j, k, rfl⟩ := QS (M.trans Hy)
 have w : DataW.trod l Tryz.prog W base sp m n 3 (([a, c1, c2, b, d, g, i, j, k].drop 0).take (Tryz.prog.cellsOf 3)) = some T := p 0 _ rfl
 have h1 : DataW.trod l Tryz.prog W base sp m n 28 (([a, c1, c2, b, d, g, i, j, k].drop 1).take (Tryz.prog.cellsOf 28)) = some U := p 1 _ rfl
 have y : DataW.trod l Tryz.prog W base sp m n 9 (([a, c1, c2, b, d, g, i, j, k].drop 3).take (Tryz.prog.cellsOf 9)) = some Y := p 2 _ rfl
 have z : DataW.trod l Tryz.prog W base sp m n 28 (([a, c1, c2, b, d, g, i, j, k].drop 4).take (Tryz.prog.cellsOf 28)) = some Z := p 3 _ rfl
 have A : DataW.trod l Tryz.prog W base sp m n 28 (([a, c1, c2, b, d, g, i, j, k].drop 6).take (Tryz.prog.cellsOf 28)) = some y4 := p 4 _ rfl
 have D : DataW.trod l Tryz.prog W base sp m n 9 (([a, c1, c2, b, d, g, i, j, k].drop 8).take (Tryz.prog.cellsOf 9)) = some y5 := p 5 _ rfl
 simp only [Fh, GQ, EP, List.drop, List.take] at w h1 y z A D
 obtain ⟨O, q, E⟩ := DT _ _ _ _ _ _ _ _ _ w
 obtain ⟨s1, r, F⟩ := He _ _ _ _ _ _ _ _ _ h1
 obtain ⟨s2, s, G⟩ := Gc _ _ _ _ _ _ _ _ _ y
 obtain ⟨P, t, I⟩ := He _ _ _ _ _ _ _ _ _ z
 obtain ⟨Q, u, J⟩ := He _ _ _ _ _ _ _ _ _ A
 obtain ⟨R, v, L⟩ := Gc _ _ _ _ _ _ _ _ _ D
 simp only [kW, aX, dL] at q r s t u v
 obtain rfl := q
 obtain ⟨rfl, rfl⟩ := r
 obtain rfl := s
 obtain ⟨rfl, rfl⟩ := t
 obtain ⟨rfl, rfl⟩ := u
 obtain rfl := v
 refine ⟨⟨O, s1, s2, P, Q, R⟩, rfl, ?_⟩
 simp only [List.map, Rows.uptoBulk, Rows.uptoBulkAll, vO] at E F G I J L ⊢
 omega
theorem Ld : Tryz.prog.cellsOf 54 = 1 := by kernel_rfl
theorem Na : Tryz.prog.cellsOf 5 = 1 := by kernel_rfl
theorem Py : Fg Tryz.prog 5 (Ln (Pl (mJ .u8)) (fun x => 0 ≤ x ∧ x < 256)) (fun _ => 0) := Qt Tryz.underlying5
theorem BA : Tryz.prog.cellsOf 113 = 5 := by kernel_rfl
theorem Ty {α : Type} {l : List α} (h : l.length = 4) : ∃ a0 a a2 a3, l = [a0, a, a2, a3] := by
 match l, h with
 | [a0, a, a2, a3], _ => exact ⟨a0, a, a2, a3, rfl⟩
theorem Tx {α : Type} {l : List α} (h : l.length = 5) : ∃ a0 a a2 a3 a4, l = [a0, a, a2, a3, a4] := by
 match l, h with
 | [a0, a, a2, a3, a4], _ => exact ⟨a0, a, a2, a3, a4, rfl⟩
theorem OU : Tryz.prog.cellsOf 111 = 1 := by kernel_rfl
theorem Tq {H : Type} {x : DataW H × List MemPlace} {ys : List (DataW H × List MemPlace)} {p : List MemPlace} (a : x = (.agg (ys.map (·.1)), p)) (i : Nat) {y : DataW H × List MemPlace} (h : ys[i]? = some y) : SizeOf.sizeOf y.1 < SizeOf.sizeOf x.1 := by
 subst a
 have := List.sizeOf_lt_of_mem (bB.2 ⟨y, dK h, rfl⟩ : y.1 ∈ ys.map (·.1))
 simp only [DataW.agg.sizeOf_spec]; omega
theorem JE : ∀ l : List Formula, szFL l ≤ tu zJ l
 | [] => aO _
 | k :: l => by have := JE l; rw [szFL]; simp only [tu, bP, gF] at this ⊢; omega
theorem Qy : ∀ (N : Nat) (H : Type) (I : TypeId × Value → H) (W : World) (base : Nat) (sp : Nat → Bool) (J : Bool) (fuel : Nat) (cs : List Value) (x : DataW H × List MemPlace),
  DataW.trod I Tryz.prog W base sp J fuel 113 cs = some x → SizeOf.sizeOf x.1 < N → ∃ a : Formula, kL (hp W) cs a ∧ zJ a ≤ Rows.uptoBulk x.1 := by
 intro N
 induction N with
 | zero => intro _ _ _ _ _ _ _ _ _ _ h; exact absurd h (Nat.not_lt_zero _)
 | succ N ih =>
  intro H I W base sp J fuel cs x h hN
  obtain ⟨a1, w, _, r, A, q, k⟩ := eG Tryz.underlying113 h
  obtain ⟨s, t, u, v, rfl⟩ := Ty q
  obtain ⟨b, d, g, i, j, rfl⟩ := Tx (A.trans BA)
  have l : DataW.trod _ Tryz.prog W _ _ _ w 3 (([b, d, g, i, j].drop 0).take (Tryz.prog.cellsOf 3)) = some s := k 0 _ rfl
  have m : DataW.trod _ Tryz.prog W _ _ _ w 3 (([b, d, g, i, j].drop 1).take (Tryz.prog.cellsOf 3)) = some t := k 1 _ rfl
  have n : DataW.trod _ Tryz.prog W _ _ _ w 28 (([b, d, g, i, j].drop 2).take (Tryz.prog.cellsOf 28)) = some u := k 2 _ rfl
  have p : DataW.trod _ Tryz.prog W _ _ _ w 111 (([b, d, g, i, j].drop 4).take (Tryz.prog.cellsOf 111)) = some v := k 3 _ rfl
  simp only [OU, Fh, GQ, List.drop, List.take] at l m n p
  obtain ⟨s2, D, O⟩ := DT _ _ _ _ _ _ _ _ _ l
  simp only [aX, dL] at D
  obtain rfl := D
  obtain ⟨Y, E, P⟩ := DT _ _ _ _ _ _ _ _ _ m
  simp only [aX, dL] at E
  obtain rfl := E
  obtain ⟨Z, F, Q⟩ := He _ _ _ _ _ _ _ _ _ n
  simp only [kW, aX, dL] at F
  obtain ⟨rfl, rfl⟩ := F
  obtain ⟨v5, L, G, U, R⟩ := FI BA (by decide) Tryz.underlying111 (fun f cs y h T => ih _ _ _ _ _ _ _ _ _ h (by have := Tq r 3 rfl; omega)) p
  simp only [aX, dL] at G
  obtain rfl := G
  have M := bI (fun z => Rows.uptoBulk z.1) r
  refine ⟨⟨s2, Y, Z, L⟩, kL.mk ⟨_, rfl, U⟩, ?_⟩
  have T := JE L
  simp only [List.map, Rows.uptoBulk, Rows.uptoBulkAll, yf] at O P Q R M ⊢
  rw [JS]
  simp only
  omega
theorem HH : Fg Tryz.prog 113 kL zJ := fun H a W base sp b fuel cs x h => Qy _ H a W base sp b fuel cs x h (bL _)
def vp (x : kY) : Nat := vO x.Signed.kJ + tu (fun _ : Int => 0) x.Signed.Tag + 1 + zJ x.kO + 1
def NQ (x : kY) : Prop := (∀ y ∈ x.Signed.Tag, 0 ≤ y ∧ y < 256)
theorem Lm : Fg Tryz.prog 138 (Ln lm NQ) vp := by
 intro H eh W base sp hd fuel cs x h
 obtain ⟨a6, n6, _, R, Q, A, G⟩ := eG Tryz.underlying138 h
 obtain ⟨J, L, rfl⟩ := E0 A
 obtain ⟨a, b, d, g, i, j, k, l, m, n, p, q, r, s, t, rfl⟩ := Sf (Q.trans FY)
 have u : DataW.trod _ Tryz.prog W _ _ _ n6 56 (([a, b, d, g, i, j, k, l, m, n, p, q, r, s, t].drop 0).take (Tryz.prog.cellsOf 56)) = some J := G 0 _ rfl
 have v : DataW.trod _ Tryz.prog W _ _ _ n6 113 (([a, b, d, g, i, j, k, l, m, n, p, q, r, s, t].drop 10).take (Tryz.prog.cellsOf 113)) = some L := G 1 _ rfl
 simp only [BA, QG, List.drop, List.take] at u v
 obtain ⟨a7, n7, _, T, a1, D, I⟩ := eG Tryz.underlying56 u
 obtain ⟨M, O, rfl⟩ := E0 D
 have w : DataW.trod _ Tryz.prog W _ _ _ n7 53 (([a, b, d, g, i, j, k, l, m, n].drop 0).take (Tryz.prog.cellsOf 53)) = some M := I 0 _ rfl
 have y : DataW.trod _ Tryz.prog W _ _ _ n7 54 (([a, b, d, g, i, j, k, l, m, n].drop 9).take (Tryz.prog.cellsOf 54)) = some O := I 1 _ rfl
 simp only [Hy, Ld, List.drop, List.take] at w y
 obtain ⟨s8, Z, b8⟩ := Pu _ _ _ _ _ _ _ _ _ w
 simp only [kN, kW, aX, dL] at Z
 obtain ⟨rfl, rfl, rfl, rfl, rfl, rfl, rfl, rfl, rfl⟩ := Z
 obtain ⟨v9, s9, e9, U, b9⟩ := uc Na (by decide) Py Tryz.underlying54 y
 simp only [aX, dL] at e9
 obtain rfl := e9
 obtain ⟨U, g9⟩ := Lf.Sl.all U
 have b7 := bI (fun z => Rows.uptoBulk z.1) T
 obtain ⟨Y, E, P⟩ := HH _ _ _ _ _ _ _ _ _ v
 obtain ⟨v10, F, E⟩ := E.out
 simp only [aX, dL] at F
 obtain ⟨rfl, rfl, rfl, rfl, rfl⟩ := F
 have b6 := bI (fun z => Rows.uptoBulk z.1) R
 refine ⟨⟨⟨s8, s9⟩, Y⟩, ⟨lm.mk ⟨_, _, rfl, U, E⟩, g9⟩, ?_⟩
 simp only [List.map, Rows.uptoBulk, Rows.uptoBulkAll, vp] at b8 b9 b7 P b6 ⊢
 omega
theorem JW : Tryz.prog.cellsOf 108 = 1 := by kernel_rfl
theorem Ga : Tryz.prog.cellsOf 263 = 8 := by kernel_rfl
theorem TB {α : Type} {l : List α} (h : l.length = 8) : ∃ a0 a a2 a3 a4 a5 b d, l = [a0, a, a2, a3, a4, a5, b, d] := by
 match l, h with
 | [a0, a, a2, a3, a4, a5, b, d], _ => exact ⟨a0, a, a2, a3, a4, a5, b, d, rfl⟩
theorem PY : Tryz.prog.cellsOf 22 = 1 := by kernel_rfl
def yt (x : nS) : Nat := yf x.kI + zJ x.kO + tu vO x.nM + 1
def SI (x : nS) : Prop := True
theorem KW : Fg Tryz.prog 263 (Ln lX SI) yt := by
 intro H U W base sp Y fuel cs x h
 obtain ⟨Q, n11, _, E, D, r, q⟩ := eG Tryz.underlying263 h
 obtain ⟨t, u, v, rfl⟩ := Ph r
 obtain ⟨a, b, d, g, i, j, k, l, rfl⟩ := TB (D.trans Ga)
 have m : DataW.trod _ Tryz.prog W _ _ _ n11 28 (([a, b, d, g, i, j, k, l].drop 0).take (Tryz.prog.cellsOf 28)) = some t := q 0 _ rfl
 have n : DataW.trod _ Tryz.prog W _ _ _ n11 113 (([a, b, d, g, i, j, k, l].drop 2).take (Tryz.prog.cellsOf 113)) = some u := q 1 _ rfl
 have p : DataW.trod _ Tryz.prog W _ _ _ n11 22 (([a, b, d, g, i, j, k, l].drop 7).take (Tryz.prog.cellsOf 22)) = some v := q 2 _ rfl
 simp only [BA, PY, Fh, List.drop, List.take] at m n p
 obtain ⟨M, w, G⟩ := He _ _ _ _ _ _ _ _ _ m
 simp only [kW, aX, dL] at w
 obtain ⟨rfl, rfl⟩ := w
 obtain ⟨O, s, I⟩ := HH _ _ _ _ _ _ _ _ _ n
 obtain ⟨R, y, s⟩ := s.out
 simp only [aX, dL] at y
 obtain ⟨rfl, rfl, rfl, rfl, rfl⟩ := y
 obtain ⟨T, P, A, L, J⟩ := uc Hy (by decide) Pu.rel Tryz.underlying22 p
 simp only [aX, dL] at A
 obtain rfl := A
 have F := bI (fun z => Rows.uptoBulk z.1) E
 refine ⟨⟨M, O, P⟩, ⟨lX.mk ⟨_, _, rfl, s, L⟩, trivial⟩, ?_⟩
 simp only [List.map, Rows.uptoBulk, Rows.uptoBulkAll, yt] at G I J F ⊢
 omega
theorem Ju : Tryz.prog.cellsOf 114 = 2 := by kernel_rfl
def Fe (x : mM) : Nat := 0
theorem RD : Hp Tryz.prog 114 nC Fe := by
 intro H g W base sp j fuel cs x h
 obtain ⟨xs, n, _, rfl, p, hlen, k⟩ := DataW.trod_array Tryz.underlying114 h
 obtain ⟨r, s, rfl⟩ := E0 hlen
 obtain ⟨a, c1, rfl⟩ := E0 (p.trans Ju)
 have i : DataW.trod g Tryz.prog W base sp j n 3 (([a, c1].drop (0 * Tryz.prog.cellsOf 3)).take (Tryz.prog.cellsOf 3)) = some r := k 0 (by decide)
 have h1 : DataW.trod g Tryz.prog W base sp j n 3 (([a, c1].drop (1 * Tryz.prog.cellsOf 3)).take (Tryz.prog.cellsOf 3)) = some s := k 1 (by decide)
 simp only [GQ, List.drop, List.take, Nat.reduceMul] at i h1
 obtain ⟨q, b, l⟩ := DT _ _ _ _ _ _ _ _ _ i
 obtain ⟨s1, d, m⟩ := DT _ _ _ _ _ _ _ _ _ h1
 simp only [aX, dL] at b d
 obtain rfl := b
 obtain rfl := d
 refine ⟨⟨q, s1⟩, rfl, ?_⟩
 simp only [List.map, Rows.uptoBulk, Rows.uptoBulkAll, Fe] at l m ⊢
 omega
theorem PM : Tryz.prog.cellsOf 49 = 1 := by kernel_rfl
theorem Jh : Tryz.prog.cellsOf 196 = 2 := by kernel_rfl
def Ch (x : Key) : Nat := x.lH.size + tu (fun _ : Int => 0) x.Key + 1
def SH (x : Key) : Prop := (∀ y ∈ x.Key, 0 ≤ y ∧ y < 256)
theorem PZ : Fg Tryz.prog 196 (Ln pq SH) Ch := by
 intro H A W base sp D fuel cs x h
 obtain ⟨y, n15, _, r, q, i, j⟩ := eG Tryz.underlying196 h
 obtain ⟨l, m, rfl⟩ := E0 i
 obtain ⟨a, b, rfl⟩ := E0 (q.trans Jh)
 have d : DataW.trod _ Tryz.prog W _ _ _ n15 9 (([a, b].drop 0).take (Tryz.prog.cellsOf 9)) = some l := j 0 _ rfl
 have g : DataW.trod _ Tryz.prog W _ _ _ n15 54 (([a, b].drop 1).take (Tryz.prog.cellsOf 54)) = some m := j 1 _ rfl
 simp only [Ld, EP, List.drop, List.take] at d g
 obtain ⟨v, n, t⟩ := Gc _ _ _ _ _ _ _ _ _ d
 simp only [aX, dL] at n
 obtain rfl := n
 obtain ⟨v17, w, p, k, u⟩ := uc Na (by decide) Py Tryz.underlying54 g
 simp only [aX, dL] at p
 obtain rfl := p
 obtain ⟨k, g17⟩ := Lf.Sl.all k
 have s := bI (fun z => Rows.uptoBulk z.1) r
 refine ⟨⟨v, w⟩, ⟨pq.mk ⟨_, rfl, k⟩, g17⟩, ?_⟩
 simp only [List.map, Rows.uptoBulk, Rows.uptoBulkAll, Ch] at t u s ⊢
 omega
def GZ (x : mj) : Nat := x.kK.Name.size + tu vp x.kK.kR + tu yt x.kK.lC + 1 + x.Client.Name.size + tu vp x.Client.kR + tu yt x.Client.lC + 1 + zJ x.Formula + Fe x.mX + tu Ch x.Keys + 1
theorem Sj : Tryz.prog.readableRec 116 = true ∧ 116 < Tryz.prog.types.size := ⟨by kernel_rfl, jd (by kernel_rfl)⟩
theorem DU (c : kJ) : yv c = vO c := by unfold yv vO yf; omega
theorem KQ {α : Type} (sz : α → Nat) (h : ∀ a, 2 ≤ sz a) : ∀ l : List α, 2 * l.length ≤ tu sz l
 | [] => fI _
 | a :: l => by have := KQ sz h l; have := h a; simp only [tu, bP, gF, aI] at *; omega
theorem BJ (y : kY) : vp y = vO y.Signed.kJ + tu (fun _ : Int => 0) y.Signed.Tag + 1 + zJ y.kO + 1 := rfl
theorem Kd (y : nS) : yt y = yf y.kI + zJ y.kO + tu vO y.nM + 1 := rfl
theorem O0 (y : Key) : Ch y = y.lH.size + tu (fun _ : Int => 0) y.Key + 1 := rfl
theorem KU : ∀ l : List kJ, yF l ≤ 21 * tu vO l
 | [] => fI _
 | c :: l => by have := KU l; rw [yF, DU]; simp only [tu, bP, gF] at *; omega
theorem KS : ∀ l : List kY, CD l ≤ 21 * tu vp l
 | [] => fI _
 | x :: l => by
  have := KS l
  have := Ds (fun _ : Int => 0) x.Signed.Tag
  rw [CD, DU]
  have e := BJ x
  simp only [tu, bP, gF] at *; omega
theorem Ly : ∀ l : List nS, Bv l ≤ 21 * tu yt l
 | [] => fI _
 | x :: l => by
  have := Ly l
  have := KU x.nM
  rw [Bv]
  have e := Kd x
  unfold yf at e
  have a : tu yt (x :: l) = max 1 (yt x) + tu yt l := rfl
  omega
theorem Ls : ∀ l : List Key, DH l ≤ 11 * tu Ch l
 | [] => fI _
 | x :: l => by
  have := Ls l
  have := Ds (fun _ : Int => 0) x.Key
  rw [DH]
  have e := O0 x
  have a : tu Ch (x :: l) = max 1 (Ch x) + tu Ch l := rfl
  omega
theorem JF (x : lT) (d : x.Name.size ≤ 1048576) (h1 : tu vp x.kR ≤ 1048576) (g : tu yt x.lC ≤ 1048576) : PG x ∧ x.kR.length ≤ 600000 ∧ H9 x ≤ 1000000000 := by
 have c1 := KQ vp (fun y => by rw [BJ]; omega) x.kR
 have c2 := Ds yt x.lC
 have g1 : ∀ y ∈ x.kR, vO y.Signed.kJ ≤ 1048576 ∧ lF y.kO ≤ 1048576 := fun y a => by
  have := Hl (sz := vp) a
  have e := BJ y
  have := Cs y.kO
  omega
 have g2 : ∀ y ∈ x.lC, lF y.kO ≤ 1048576 ∧ tu vO y.nM ≤ 1048576 := fun y a => by
  have := Hl (sz := yt) a
  have e := Kd y
  have := Cs y.kO
  omega
 refine ⟨{ DV := by omega, CG := by omega, rel := fun y a => ?_, CQ := fun y a => ?_, H3 := fun y a => ?_, TH := fun y a => ?_, TV := fun y a c b => ?_ }, by omega, ?_⟩
 ·have := (g1 y a).2; omega
 ·have := (g2 y a).1; omega
 ·have := (g2 y a).2; have := Ds vO y.nM; omega
 ·have := (g1 y a).1; rw [DU]; omega
 ·have := (g2 y a).2; have := Hl (sz := vO) b; rw [DU]; omega
 ·have := KS x.kR; have := Ly x.lC; unfold H9; omega
theorem QI (p : mj) (h : GZ p ≤ 1048576) : PQ p := by
 unfold GZ at h
 have a := JF p.kK (by omega) (by omega) (by omega)
 have b := JF p.Client (by omega) (by omega) (by omega)
 have k := Ls p.Keys
 have f := Cs p.Formula
 exact { o := a.1, c := b.1, lo := a.2.1, lc := b.2.1, f := by omega, go := a.2.2, gc := b.2.2, fs := by omega, ks := by omega }
theorem own : ownKnob Tryz.prog.godebug = none := by kernel_rfl
theorem OW : laidOutB Tryz.prog = true := by kernel_rfl
theorem OO (H : Type) (enc : TypeId × Value → H) (W : World) (base : Nat) (args : Array Value) (ds gs : List (DataW H)) (before : List MemPlace) (ae : ∀ (j : Nat) t v, Tryz.f15.params[j]? = some t → args[j]? = some v → Value.okWide Tryz.prog W .any base t v) (hW : DataW.Whole enc Tryz.prog Tryz.f15.params.toList Rows.leastStaysSpec.vars false W args.toList ds gs before) (hk : Rows.uptoSmall H (ds ++ gs) = true) :
  Calls Tryz.prog 15 args W fun e W' => ∃ v, e = .returned v ∧ Rows.leastStaysSpec.post enc Tryz.prog Tryz.f15 false true false false W args v W' := by
 have cu := hW
 obtain ⟨p, q, ct, hV, rfl, di, dj⟩ := hW
 have hA : DataW.TrodAll enc Tryz.prog W 0 (fun _ => true) true Tryz.f15.params.toList args.toList ds p := ct
 have hr : ∀ t ∈ Tryz.f15.params.toList, Tryz.prog.readableRec t = true ∧ t < Tryz.prog.types.size := by
  rw [Tryz.params15]
  intro t ht
  simp only [aK, dG, gM] at ht
  subst ht
  exact Sj
 rw [Tryz.params15] at hA ae
 obtain ⟨v0, dk, d0, db, p0, q0, cv, rfl, rfl, h0, r0⟩ := trodAll_cons hA
 obtain ⟨rfl, rfl, rfl⟩ := trodAll_nil r0
 obtain rfl : args = #[v0] := by cases args; simp_all
 obtain ⟨rfl, rfl⟩ := trodVars_none hV
 have k0 := ae 0 116 v0 rfl rfl
 obtain ⟨bk, rfl, _⟩ := okWide_struct Tryz.underlying116 k0
 obtain ⟨de, c4⟩ := h0
 obtain ⟨cw, rfl⟩ : ∃ l : List Value, bk = l.toArray := ⟨bk.toList, by simp⟩
 change DataW.trod _ _ _ _ _ _ _ _ cw = some _ at c4
 obtain ⟨cz, n18, _, c6, c5, aa, F⟩ := eG Tryz.underlying116 c4
 obtain ⟨b1, b2, b3, b4, b5, b6, b7, b9, ba, rfl⟩ := QS aa
 obtain ⟨k, a, b, m, d, g, y, A, D, E, h, n, r, s, u, w, x, i, rfl⟩ := SG (c5.trans OR)
 have G : DataW.trod _ Tryz.prog W _ _ _ n18 110 (([k, a, b, m, d, g, y, A, D, E, h, n, r, s, u, w, x, i].drop 0).take (Tryz.prog.cellsOf 110)) = some b1 := F 0 _ rfl
 have I : DataW.trod _ Tryz.prog W _ _ _ n18 110 (([k, a, b, m, d, g, y, A, D, E, h, n, r, s, u, w, x, i].drop 3).take (Tryz.prog.cellsOf 110)) = some b2 := F 1 _ rfl
 have J : DataW.trod _ Tryz.prog W _ _ _ n18 113 (([k, a, b, m, d, g, y, A, D, E, h, n, r, s, u, w, x, i].drop 6).take (Tryz.prog.cellsOf 113)) = some b3 := F 2 _ rfl
 have L : DataW.trod _ Tryz.prog W _ _ _ n18 3 (([k, a, b, m, d, g, y, A, D, E, h, n, r, s, u, w, x, i].drop 11).take (Tryz.prog.cellsOf 3)) = some b4 := F 3 _ rfl
 have M : DataW.trod _ Tryz.prog W _ _ _ n18 114 (([k, a, b, m, d, g, y, A, D, E, h, n, r, s, u, w, x, i].drop 12).take (Tryz.prog.cellsOf 114)) = some b5 := F 4 _ rfl
 have O : DataW.trod _ Tryz.prog W _ _ _ n18 3 (([k, a, b, m, d, g, y, A, D, E, h, n, r, s, u, w, x, i].drop 14).take (Tryz.prog.cellsOf 3)) = some b6 := F 5 _ rfl
 have P : DataW.trod _ Tryz.prog W _ _ _ n18 3 (([k, a, b, m, d, g, y, A, D, E, h, n, r, s, u, w, x, i].drop 15).take (Tryz.prog.cellsOf 3)) = some b7 := F 6 _ rfl
 have Q : DataW.trod _ Tryz.prog W _ _ _ n18 3 (([k, a, b, m, d, g, y, A, D, E, h, n, r, s, u, w, x, i].drop 16).take (Tryz.prog.cellsOf 3)) = some b9 := F 7 _ rfl
 have R : DataW.trod _ Tryz.prog W _ _ _ n18 49 (([k, a, b, m, d, g, y, A, D, E, h, n, r, s, u, w, x, i].drop 17).take (Tryz.prog.cellsOf 49)) = some ba := F 8 _ rfl
 simp only [N7, BA, Ju, GQ, PM, List.drop, List.take] at G I J L M O P Q R
 obtain ⟨cS, n19, _, c7, cx, ab, a7⟩ := eG Tryz.underlying110 G
 obtain ⟨bc, bd, bf, rfl⟩ := Ph ab
 have T : DataW.trod _ Tryz.prog W _ _ _ n19 9 (([k, a, b].drop 0).take (Tryz.prog.cellsOf 9)) = some bc := a7 0 _ rfl
 have U : DataW.trod _ Tryz.prog W _ _ _ n19 107 (([k, a, b].drop 1).take (Tryz.prog.cellsOf 107)) = some bd := a7 1 _ rfl
 have Y : DataW.trod _ Tryz.prog W _ _ _ n19 108 (([k, a, b].drop 2).take (Tryz.prog.cellsOf 108)) = some bf := a7 2 _ rfl
 simp only [Jw, JW, EP, List.drop, List.take] at T U Y
 obtain ⟨al, bl, cb⟩ := Gc _ _ _ _ _ _ _ _ _ T
 simp only [aX, dL] at bl
 obtain rfl := bl
 obtain ⟨v21, an, bn, af, cc⟩ := uc FY (by decide) Lm Tryz.underlying107 U
 simp only [aX, dL] at bn
 obtain rfl := bn
 obtain ⟨af, g21⟩ := Lf.Sl.all af
 obtain ⟨v22, ao, bo, ag, cd⟩ := uc Ga (by decide) KW Tryz.underlying108 Y
 simp only [aX, dL] at bo
 obtain rfl := bo
 obtain ⟨ag, g22⟩ := Lf.Sl.all ag
 have ca := bI (fun z => Rows.uptoBulk z.1) c7
 obtain ⟨da, n23, _, c8, cy, ad, a8⟩ := eG Tryz.underlying110 I
 obtain ⟨bh, bi, bj, rfl⟩ := Ph ad
 have Z : DataW.trod _ Tryz.prog W _ _ _ n23 9 (([m, d, g].drop 0).take (Tryz.prog.cellsOf 9)) = some bh := a8 0 _ rfl
 have a1 : DataW.trod _ Tryz.prog W _ _ _ n23 107 (([m, d, g].drop 1).take (Tryz.prog.cellsOf 107)) = some bi := a8 1 _ rfl
 have a6 : DataW.trod _ Tryz.prog W _ _ _ n23 108 (([m, d, g].drop 2).take (Tryz.prog.cellsOf 108)) = some bj := a8 2 _ rfl
 simp only [Jw, JW, EP, List.drop, List.take] at Z a1 a6
 obtain ⟨ap, bp, cg⟩ := Gc _ _ _ _ _ _ _ _ _ Z
 simp only [aX, dL] at bp
 obtain rfl := bp
 obtain ⟨v25, aq, bq, ah, ch⟩ := uc FY (by decide) Lm Tryz.underlying107 a1
 simp only [aX, dL] at bq
 obtain rfl := bq
 obtain ⟨ah, df⟩ := Lf.Sl.all ah
 obtain ⟨v26, ar, bs, ai, cj⟩ := uc Ga (by decide) KW Tryz.underlying108 a6
 simp only [aX, dL] at bs
 obtain rfl := bs
 obtain ⟨ai, dg⟩ := Lf.Sl.all ai
 have cf := bI (fun z => Rows.uptoBulk z.1) c8
 obtain ⟨au, aj, ck⟩ := HH _ _ _ _ _ _ _ _ _ J
 obtain ⟨v27, bt, aj⟩ := aj.out
 simp only [aX, dL] at bt
 obtain ⟨rfl, rfl, rfl, rfl, rfl⟩ := bt
 obtain ⟨av, bu, cm⟩ := DT _ _ _ _ _ _ _ _ _ L
 simp only [aX, dL] at bu
 obtain rfl := bu
 obtain ⟨aw, bw, cn⟩ := RD _ _ _ _ _ _ _ _ _ M
 simp only [nC, aX, dL] at bw
 obtain ⟨rfl, rfl⟩ := bw
 obtain ⟨ay, bx, cp⟩ := DT _ _ _ _ _ _ _ _ _ O
 simp only [aX, dL] at bx
 obtain rfl := bx
 obtain ⟨az, bz, cq⟩ := DT _ _ _ _ _ _ _ _ _ P
 simp only [aX, dL] at bz
 obtain rfl := bz
 obtain ⟨aE, c0, cr⟩ := DT _ _ _ _ _ _ _ _ _ Q
 simp only [aX, dL] at c0
 obtain rfl := c0
 obtain ⟨v33, b0, c3, ak, cs⟩ := uc Jh (by decide) PZ Tryz.underlying49 R
 simp only [aX, dL] at c3
 obtain rfl := c3
 obtain ⟨ak, dh⟩ := Lf.Sl.all ak
 have c9 := bI (fun z => Rows.uptoBulk z.1) c6
 simp only [List.map, Rows.uptoBulk, Rows.uptoBulkAll] at cb cc cd ca cg ch cj cf ck cm cn cp cq cr cs c9
 have z0 : GZ (⟨⟨al, an, ao⟩, ⟨ap, aq, ar⟩, au, av, aw, ay, az, aE, b0⟩ : mj) ≤ Rows.uptoBulk d0 := by simp only [GZ]; omega
 have hB : Rows.uptoBulkAll ([d0] ++ []) ≤ 1048576 := jd hk
 simp only [aQ, Rows.uptoBulkAll] at hB
 have hm : uZ (⟨⟨al, an, ao⟩, ⟨ap, aq, ar⟩, au, av, aw, ay, az, aE, b0⟩ : mj) = some true := GA Ql _ (QI _ (by omega))
 have hg := EH (⟨⟨al, an, ao⟩, ⟨ap, aq, ar⟩, au, av, aw, ay, az, aE, b0⟩ : mj) a b d g h i true W af ag ah ai aj ak hm
 refine dV hg fun e W' ⟨he, hx⟩ => ?_
 subst he
 exact ⟨_, rfl, LR OW hr rfl cu hx (fun _ _ _ => trodAll_cons_mk (shut_bool Tryz.underlying4 _) trodAll_mk0) rfl rfl (ok_one (by kernel_rfl) rfl (okWide_bool_mk Tryz.underlying4 _))⟩
set_option maxRecDepth 100000 in
theorem RB (os : Os) (started : os.Started) (H : Type) (enc : TypeId × Value → H) (F : Stop.Interp) :
  ReturnsInHanded {} Tryz.checked os 15 .any ((Rows.OpenSpec.upto Rows.leastStaysSpec).pre6 enc Tryz.prog Tryz.f15 Rows.leastStaysUptoRow.domain false) (((Rows.OpenSpec.upto Rows.leastStaysSpec).at F).post enc Tryz.prog Tryz.f15 false true false false) := by
 refine returnsInHanded_of_cond (C := Tryz.checked) (s := Rows.OpenSpec.upto Rows.leastStaysSpec) (k := Rows.uptoSmall) rfl own started (by kernel_rfl) Tryz.func15
  (OpenSpec.witness (enc := enc) (C := Tryz.checked) (s := Rows.OpenSpec.upto Rows.leastStaysSpec) (k := Rows.uptoSmall) rfl false ⟨#[], #[.agg #[.string ⟨#[]⟩, .slice none 0 0, .slice none 0 0, .string ⟨#[]⟩, .slice none 0 0, .slice none 0 0, .int .i64 0, .int .i64 0, .string ⟨#[]⟩, .string ⟨#[]⟩, .slice none 0 0, .int .i64 0, .int .i64 0, .int .i64 0, .int .i64 0, .int .i64 0, .int .i64 0, .slice none 0 0]], []⟩ 8 (by kernel_rfl) (by kernel_rfl) (by kernel_rfl)
   (x := ([.agg [.agg [.lit (.string []), .nil, .nil], .agg [.lit (.string []), .nil, .nil], .agg [.lit (.int .i64 0), .lit (.int .i64 0), .agg [.lit (.string []), .lit (.string [])], .nil], .lit (.int .i64 0), .agg [.lit (.int .i64 0), .lit (.int .i64 0)], .lit (.int .i64 0), .lit (.int .i64 0), .lit (.int .i64 0), .nil]], [], [])) (by kernel_rfl) rfl (by kernel_rfl)) ?_
 intro W base args ds gs before a b _ hk _
 exact OO H enc W base args ds gs before a b hk
theorem Sz {a b : Bool} (ha : a = true) (d : b = true) : (a && b) = true := by rw [ha, d]; rfl
set_option maxHeartbeats 40000000 in
theorem PS : joinedFacts Tryz.checked.prog 15 Tryz.f15 (Rows.OpenSpec.upto Rows.leastStaysSpec).bare Rows.leastStaysUptoRow = true := by
 unfold joinedFacts
 repeat' with_reducible refine Sz ?_ ?_
 all_goals as_aux_lemma => kernel_rfl
theorem proved : Rows.LeastStaysUptoSaid :=
 OpenClaim.holds_of_cond 15 Tryz.f15 rfl rfl rfl rfl rfl rfl rfl ⟨rfl, rfl, rfl, rfl, rfl⟩ rfl rfl rfl rfl rfl (by kernel_rfl) Tryz.func15 PS
  (jd (by kernel_rfl)) (by unfold Func.isWrapper; first | (rw [aT (by decide +kernel)]; kernel_rfl) | (rw [aY (by decide +kernel)]; exact ⟨rfl, rfl⟩))
  (fun os started H enc _ F => RB os started H enc F)
end Go.Proofs.YtmlncblocfcmiaaGreat
