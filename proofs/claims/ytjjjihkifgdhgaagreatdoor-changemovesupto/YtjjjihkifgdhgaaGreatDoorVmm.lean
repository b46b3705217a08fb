/- a part of a proof of ChangeMoves -/
import Derived.Test.YtjjjihkifgdhgaaGreatDoorHkm
import Derived.Test.YtjjjihkifgdhgaaGreatDoorRtWm
import Derived.Test.YtjjjihkifgdhgaaGreatDoorRows
import Derived.WalkKit
import Derived.ProofKit
import Derived.OpenShut
import Derived.JoinedCond
import Derived.Deep.Slices
import Derived.Carry
import Derived.ChangeArms
import Derived.ChangeSame
import Derived.Test.YtjjjihkifgdhgaaGreatDoorCards
import Derived.Test.YtjjjihkifgdhgaaGreatDoorTie
import Derived.Deep.DeepHandedRow
import Derived.Lib.LaidTab
import Derived.SevenTiedAt
import Derived.Test.YtjjjihkifgdhgaaGreatDoorDM6W3m
set_option linter.all false
namespace Go.Proofs.YtjjjihkifgdhgaaGreatDoor
open Go.Proofs.Tryz renaming prog → pg0
open Go.RowKit
theorem Td : ∀ (n : Nat) (f : Formula), nI f ≤ n → Gd f → rc n f = some (kB f : Int) := by
 intro n
 induction n with
 | zero => intro f h; rw [mK] at h; omega
 | succ n ih =>
  intro f d g
  rw [mK] at d
  have a := nR f
  unfold Gd at g
  rw [rc]
  unfold wS
  have key : ∀ (ks : List Formula) (x : Nat), (∀ k ∈ ks, k ∈ f.Kids) → x + nodesL ks ≤ 50000000 → rG (rc n) ks (x : Int) = some ((x + nodesL ks : Nat) : Int) := by
   intro ks
   induction ks with
   | nil => intro x _ _; rw [rG, nodesL]; rfl
   | cons k ks b =>
    intro x hk i
    rw [nodesL] at i
    rw [rG, ih k (by have := qK (hk k (by simp)); omega) (by have := tk (hk k (by simp)); unfold Gd; omega), aA]
    have w : IntKind.i64.wrap ((x : Int) + (kB k : Int)) = ((x + kB k : Nat) : Int) := by rw [kO (by omega) (by omega)]; omega
    rw [w, b _ (fun z j => hk z (by simp [j])) (by omega), nodesL]
    congr 2; omega
  have := key f.Kids 1 (fun k hk => hk) (by omega)
  rw [a]
  exact this
theorem T9 : ∀ (n : Nat) (f : Formula), nI f ≤ n → Gd f → rW n f = some (nI f : Int) := by
 intro n
 induction n with
 | zero => intro f h; rw [mK] at h; omega
 | succ n ih =>
  intro f d g
  rw [mK] at d ⊢
  have i := nR f
  have hle := wu f
  rw [mK] at hle
  unfold Gd at g
  rw [rW]
  unfold xL
  have key : ∀ (ks : List Formula) (x : Nat), (∀ k ∈ ks, k ∈ f.Kids) → max x (deepL ks) ≤ 50000000 → sv (rW n) ks (x : Int) = some ((max x (deepL ks) + 1 : Nat) : Int) := by
   intro ks
   induction ks with
   | nil =>
    intro x _ a
    rw [deepL] at a
    rw [sv, deepL, kO (by omega) (by omega)]
    congr 1; omega
   | cons k ks b =>
    intro x hk a
    rw [deepL] at a
    rw [sv, ih k (by have := qK (hk k (by simp)); omega) (by have := tk (hk k (by simp)); unfold Gd; omega), aA]
    have w : (if (nI k : Int) > (x : Int) then (nI k : Int) else (x : Int)) = ((max x (nI k) : Nat) : Int) := by split <;> omega
    rw [w, b _ (fun z j => hk z (by simp [j])) (by omega), deepL]
    congr 2; omega
  have := key f.Kids 0 (fun k hk => hk) (by omega)
  rw [Nat.zero_max] at this
  exact this
theorem Tx : ∀ (n : Nat) (f : Formula), nI f ≤ n → sn n f = some (tf f) := by
 intro n
 induction n with
 | zero => intro f h; rw [mK] at h; omega
 | succ n ih =>
  intro f h
  rw [mK] at h
  have key : ∀ ks : List Formula, (∀ k ∈ ks, k ∈ f.Kids) → sJ (sn n) ks = some (wellL ks) := by
   intro ks
   induction ks with
   | nil => intro _; rw [sJ, wellL]
   | cons k ks p =>
    intro hk
    rw [sJ, ih k (by have := qK (hk k (by simp)); omega), aA, p (fun z u => hk z (by simp [u])), wellL]
    cases tf k <;> rfl
  have hk := key f.Kids (fun k hk => hk)
  rw [sn]
  unfold xF
  rw [hk, G8, Bz]
  unfold DY
  simp only [aA]
  by_cases c1 : f.Op = 1
  ·simp only [c1, aZ, aU]
   cases v : ma f.ju
   ·simp
   ·by_cases b : f.Kids.length = 0
    ·have e : f.Kids = [] := aV b
     by_cases m : f.K = 0 <;> simp [e, m, wellL]
    ·have : ((f.Kids.length : Int) == 0) = false := by rw [beq_eq_false_iff_ne]; omega
     simp [this, b]
  ·have t : (f.Op == 1) = false := by simpa using c1
   simp only [t, aC, aK, c1]
   by_cases i : f.Op = 2 ∨ f.Op = 3
   ·have j : ¬ f.Op < 1 := by omega
    have a2 : ¬ f.Op > 4 := by omega
    have a3 : f.Op < 4 := by omega
    have a4 : (f.Op == 4) = false := by rw [beq_eq_false_iff_ne]; omega
    simp only [j, a2, a3, a4, i, cD, cA, aC, aK, aU, aA]
    cases g : jY f.ju ⟨zS, zS⟩
    ·simp [px, g]
    ·by_cases b : f.Kids.length ≤ 8
     ·have d : ¬ ((f.Kids.length : Int) > 8) := by omega
      by_cases m : f.K = 0 <;> simp [px, g, b, d, m]
     ·have d : ((f.Kids.length : Int) > 8) := by omega
      simp [px, g, b, d]
   ·by_cases l : f.Op = 4
    ·have j : ¬ f.Op < 1 := by omega
     have a2 : ¬ f.Op > 4 := by omega
     have a3 : ¬ f.Op < 4 := by omega
     simp only [j, a2, a3, i, cD, aC, aK, aA]
     simp only [l, aZ, aU, cA, dW]
     cases g : jY f.ju ⟨zS, zS⟩
     ·simp [px, g]
     ·by_cases b : f.Kids.length ≤ 8
      ·have d : ¬ ((f.Kids.length : Int) > 8) := by omega
       by_cases d1 : 1 ≤ f.Kids.length
       ·have g1 : ¬ ((f.Kids.length : Int) < 1) := by omega
        by_cases d2 : 0 ≤ f.K
        ·have g2 : ¬ f.K < 0 := by omega
         by_cases d3 : f.K ≤ (f.Kids.length : Int)
         ·have g3 : ¬ f.K > (f.Kids.length : Int) := by omega
          simp [px, g, b, d, d1, g1, d2, g2, d3, g3]
         ·have g3 : f.K > (f.Kids.length : Int) := by omega
          simp [px, g, b, d, d1, g1, d2, g2, d3, g3]
        ·have g2 : f.K < 0 := by omega
         simp [px, g, b, d, d1, g1, d2, g2]
       ·have g1 : ((f.Kids.length : Int) < 1) := by omega
        simp [px, g, b, d, d1, g1]
      ·have d : ((f.Kids.length : Int) > 8) := by omega
       simp [px, g, b, d]
    ·have a : f.Op < 1 ∨ f.Op > 4 := by omega
     rcases a with a | a
     ·simp [a, i, l]
     ·have : ¬ f.Op < 1 := by omega
      simp [a, this, i, l]
theorem Ig (f : Formula) (h : Gd f) : pZ f = some (nn f) := by
 have b := wu f
 have a := h
 unfold Gd at a
 unfold pZ nn
 rw [Td ki f (by rw [mn]; omega) h, T9 ki f (by rw [mn]; omega) h, Tx ki f (by rw [mn]; omega)]
 simp only [aA]
 by_cases c1 : kB f ≤ 64
 ·have d1 : ((kB f : Int) ≤ 64) := by omega
  by_cases c2 : nI f ≤ 6
  ·have d2 : ((nI f : Int) ≤ 6) := by omega
   simp [c1, c2, d1, d2]
  ·have d2 : ¬ ((nI f : Int) ≤ 6) := by omega
   simp [c1, c2, d1, d2]
 ·have d1 : ¬ ((kB f : Int) ≤ 64) := by omega
  simp [c1, d1]
theorem Ot {f : Formula} (hw : tf f = true) (a : kB f ≤ 200) : (zf f).length ≤ 40 * kB f := (N3 (nI f) f (aX _) hw [] (by simp; omega)).2
theorem R9 : ∀ (n : Nat) (f : Formula), nI f ≤ n → tf f = true → kB f ≤ 64 → pe n f = some (wA (zf f)) := by
 intro n
 induction n with
 | zero => intro f h; rw [mK] at h; omega
 | succ n ih =>
  intro f v hw E
  rw [mK] at v
  have x := nR f
  obtain ⟨h1, m, g⟩ := xR hw
  have b : 0 ≤ f.Op ∧ f.Op < 128 := by rcases g with h | h | h <;> omega
  have hlen : 0 ≤ (f.Kids.length : Int) ∧ (f.Kids.length : Int) < 128 := by omega
  have key : ∀ (ks : List Formula) (l : List Int), (∀ k ∈ ks, k ∈ f.Kids) → wellL ks = true → l.length + 40 * nodesL ks ≤ 8000 → nodesL ks ≤ 64 → rJ (pe n) ks (wA l) = some (wA (l ++ bytesFL ks)) := by
   intro ks
   induction ks with
   | nil => intro l _ _ _ _; rw [rJ, bytesFL, bI]
   | cons k ks j =>
    intro l hk a w i
    rw [wellL, bo] at a
    rw [nodesL] at w i
    have A := Ot a.1 (by omega)
    rw [rJ, ih k (by have := qK (hk k (by simp)); omega) a.1 (by omega), aA, rz _ _ (by omega), aA,
     j _ (fun z y => hk z (by simp [y])) a.2 (by simp; omega) (by omega), bytesFL, aM]
  rw [pe]
  unfold wQ
  rw [yL b.1 b.2, aA, I1]
  by_cases c1 : f.Op = 1
  ·have p : ma f.ju = true := by rcases g with h | h | h; exact h.2.1; omega; omega
   have := ow p
   simp only [c1, aZ, aU]
   rw [Bg p, aA, rz _ _ (by simp; omega)]
   rfl
  ·have t : (f.Op == 1) = false := by simpa using c1
   simp only [t, aC, aK, c1]
   by_cases d : f.Op = 4
   ·have hk : 0 ≤ f.K ∧ f.K < 128 := by rcases g with h | h | h <;> omega
    simp only [d, aZ, aU]
    rw [yL hk.1 hk.2, aA, rz _ _ (by simp), aA, aA, yL hlen.1 hlen.2, aA, rz _ _ (by simp), aA,
     key f.Kids _ (fun k hk => hk) m (by simp; omega) (by omega)]
    simp
   ·have u : (f.Op == 4) = false := by simpa using d
    simp only [u, aC, aK, d, aA]
    rw [yL hlen.1 hlen.2, aA, rz _ _ (by simp), aA, key f.Kids _ (fun k hk => hk) m (by simp; omega) (by omega)]
    simp
theorem Uc (f : Formula) (h : Gd f) : ((pZ f).bind fun r => if r then (pe ki f).bind fun a => some a else some zS) = some (wA (yK f)) := by
 rw [Ig f h, aA]
 unfold yK
 cases d : nn f
 ·rfl
 ·obtain ⟨h1, g, b⟩ := zT d
  simp only [aU]
  rw [R9 ki f (by rw [mn]; omega) b h1, oC]
theorem JS (f g : Formula) (i : Gd f) (j : Gd g) : ∃ c : Int, wC f g = some c ∧ (c > 0 ↔ nv BM g f = true) := by
 unfold wC
 rw [Uc f i, aA, Uc g j, aA, yE, uP, uP, Be]
 rcases Bo (ud (yK f)) (ud (yK g)) with h | h | h
 ·rw [bB h]
  refine ⟨-1, rfl, iff_of_false (by omega) (fun a => ?_)⟩
  have := yv _ _ _ h a
  rw [vy] at this; cases this
 ·have e : kV (wA (yK f)) (wA (yK g)) = true := mf.2 (An (by rw [uP, uP, h]))
  rw [h, vy, e]
  exact ⟨0, rfl, iff_of_false (by omega) (by simp)⟩
 ·have e : Op.bytesLess (ud (yK f)) (ud (yK g)) = false := by
   rw [← fg]
   intro a
   have := yv _ _ _ h a
   rw [vy] at this; cases this
  have d : kV (wA (yK f)) (wA (yK g)) = false := by
   rw [← fg, mf]
   intro a
   have b := bA (fun s : ByteArray => s.data.toList) a
   simp only [uP] at b
   rw [b, vy] at h; cases h
  rw [e, d]
  exact ⟨1, rfl, iff_of_true (by omega) h⟩
theorem TE : ∀ (n : Nat) (f : Formula), nI f ≤ n → ∀ g, ∃ b, qP n f g = some b ∧ (b = true ↔ f = g) := by
 intro n
 induction n with
 | zero => intro f h; rw [mK] at h; omega
 | succ n ih =>
  intro f h g
  rw [mK] at h
  have key : ∀ (l m A : List Formula), (∀ x ∈ l, x ∈ f.Kids) → g.Kids = A ++ m → l.length = m.length → ∃ b, sF g (qP n) l A.length = some b ∧ (b = true ↔ l = m) := by
   intro l
   induction l with
   | nil =>
    intro m A _ _ a
    obtain rfl := aV a.symm
    exact ⟨true, by rw [sF], by simp⟩
   | cons x l u =>
    intro m A t w a
    match m, a with
    | y :: m, a =>
     obtain ⟨b, e, p⟩ := ih x (by have := qK (t x (by simp)); omega) y
     rw [sF, w, mR A y m _ rfl, aA, e, aA]
     cases b with
     | false =>
      refine ⟨false, rfl, ?_⟩
      have : x ≠ y := fun i => by have := p.2 i; simp at this
      simp [this]
     | true =>
      have i := p.1 rfl
      obtain ⟨b, v, d⟩ := u m (A ++ [y]) (fun z E => t z (by simp [E])) (by rw [w]; simp) (by simpa using a)
      rw [aF, List.length_singleton] at v
      simp only [cJ, aC, aK]
      rw [v]
      exact ⟨b, rfl, by rw [d]; simp [i]⟩
  rw [qP]
  unfold xJ
  by_cases h1 : f.Op = g.Op
  ·by_cases d : f.K = g.K
   ·by_cases j : f.ju = g.ju
    ·have k : jY f.ju g.ju = true := kc.2 j
     by_cases a : f.Kids.length = g.Kids.length
     ·obtain ⟨b, e, p⟩ := key f.Kids g.Kids [] (fun x t => t) rfl a
      rw [bV] at e
      refine ⟨b, ?_, p.trans ⟨fun hk => Formula.ext' h1 d j hk, fun hk => by rw [hk]⟩⟩
      simp [h1, d, k, a, e]
     ·refine ⟨false, ?_, by simp; intro hk; rw [hk] at a; exact a rfl⟩
      have : ((f.Kids.length : Int) != (g.Kids.length : Int)) = true := by simp; omega
      simp [h1, d, k, this]
    ·have k : jY f.ju g.ju = false := by rw [← fg, kc]; exact j
     exact ⟨false, by simp [h1, d, k], by simp; intro hk; rw [hk] at j; exact j rfl⟩
   ·exact ⟨false, by simp [h1, d], by simp; intro hk; rw [hk] at d; exact d rfl⟩
  ·exact ⟨false, by simp [h1], by simp; intro hk; rw [hk] at h1; exact h1 rfl⟩
theorem O8 (a b : Formula) (h : Gd a) : qP ki a b = some (qf a b) := by
 have := wu a
 unfold Gd at h
 obtain ⟨x, e, d⟩ := TE ki a (by rw [mn]; omega) b
 rw [e]; congr 1
 rw [bQ, d, Bb]
section
variable {α : Type} {lt : α → α → Bool}
def MD (lt : α → α → Bool) (l : List α) : Prop := l.Pairwise fun x y => lt y x = false
theorem ES (h : SWO lt) (k : α) : ∀ {l : List α}, MD lt l → ∃ A B, l = A ++ B ∧ (∀ x ∈ A, lt k x = false) ∧ (∀ x ∈ B, lt k x = true)
 | [], _ => ⟨[], [], rfl, by simp, by simp⟩
 | x :: l, i => by
  obtain ⟨h1, b⟩ := cH.1 i
  cases e : lt k x with
  | true =>
   refine ⟨[], x :: l, rfl, by simp, fun y a => ?_⟩
   rcases aR.1 a with rfl | a
   ·exact e
   ·rcases h.NZ _ y _ e with q | q
    ·exact q
    ·rw [h1 y a] at q; cases q
  | false =>
   obtain ⟨A, B, rfl, d, g⟩ := ES h k b
   exact ⟨x :: A, B, rfl, fun y a => by
    rcases aR.1 a with rfl | a
    ·exact e
    ·exact d y a, g⟩
theorem H4 {k : α} {A B : List α} (b : ∀ x ∈ A, lt k x = false) (d : ∀ x ∈ B, lt k x = true) : BI lt (A ++ B) k = A ++ k :: B := by
 unfold BI
 rw [iz, iz]
 rw [fP.2 (fun x a => by rw [b x a]; rfl), List.filter_eq_nil_iff.2 (fun x a => by rw [d x a]; simp), List.filter_eq_nil_iff.2 (fun x a => by rw [b x a]; simp), fP.2 (fun x a => d x a)]
 simp
theorem Mp (h : SWO lt) {k : α} {A B : List α} (g : MD lt (A ++ B)) (i : ∀ x ∈ A, lt k x = false) (j : ∀ x ∈ B, lt k x = true) : MD lt (A ++ k :: B) := by
 unfold MD at *
 rw [cU] at *
 refine ⟨g.1, cH.2 ⟨fun x l => h.asym (j x l), g.2.1⟩, fun a ha b d => ?_⟩
 rcases aR.1 d with rfl | d
 ·exact i a ha
 ·exact g.2.2 a ha b d
variable {eq : α → α → Bool}
theorem I9 (he : ∀ x y, eq x y = true ↔ x = y) (k : α) : ∀ (l : List α) (p : α), mU eq p (l ++ [k]) = if eq k ((l.getLast?).getD p) then mU eq p l else mU eq p l ++ [k]
 | [], p => by
  rw [bH, mU, mU]
  rfl
 | y :: l, p => by
  have e : ((y :: l).getLast?).getD p = (l.getLast?).getD y := by cases l <;> rfl
  rw [bU, mU, mU, I9 he k l y, e]
  by_cases h1 : eq y p = true
  ·rw [bB h1, bB h1]
  ·rw [bE h1, bE h1]
   split <;> rfl
def zZ (eq : α → α → Bool) (l : List α) (k : α) : Bool := match l.getLast? with | some y => eq y k | none => false
theorem Oz (x : α) (l : List α) : (x :: l).getLast? = some ((l.getLast?).getD x) := by cases l <;> rfl
theorem QP (he : ∀ x y, eq x y = true ↔ x = y) (k : α) (l : List α) : dd eq (l ++ [k]) = if zZ eq l k then dd eq l else dd eq l ++ [k] := by
 cases l with
 | nil => rfl
 | cons x l =>
  have a : dd eq ((x :: l) ++ [k]) = x :: mU eq x (l ++ [k]) := rfl
  have b : dd eq (x :: l) = x :: mU eq x l := rfl
  unfold zZ
  rw [a, b, I9 he, Oz]
  simp only
  by_cases h : (l.getLast?).getD x = k
  ·rw [h, bB ((he k k).2 rfl), bB ((he k k).2 rfl)]
  ·rw [bE (fun q => h ((he _ _).1 q).symm), bE (fun q => h ((he _ _).1 q))]; rfl
theorem KL (he : ∀ x y, eq x y = true ↔ x = y) (y : α) (B : List α) : ∀ (l : List α) (p : α), y ≠ (l.getLast?).getD p → mU eq p (l ++ y :: B) = mU eq p l ++ y :: mU eq y B
 | [], p, h => by
  have h : y ≠ p := h
  rw [bH]
  have e : mU eq p (y :: B) = if eq y p then mU eq y B else y :: mU eq y B := rfl
  rw [e, bE (fun q => h ((he _ _).1 q))]; rfl
 | z :: l, p, h => by
  have e : ((z :: l).getLast?).getD p = (l.getLast?).getD z := by cases l <;> rfl
  rw [e] at h
  rw [bU, mU, mU, KL he y B l z h]
  split <;> rfl
theorem OB (he : ∀ x y, eq x y = true ↔ x = y) (A : List α) : ∀ B : List α, (∀ y, B.head? = some y → A.getLast? ≠ some y) → dd eq (A ++ B) = dd eq A ++ dd eq B
 | [], _ => by rw [bI]; show _ = dd eq A ++ []; rw [bI]
 | y :: B, h => by
  have h := h y rfl
  cases A with
  | nil => rfl
  | cons x A =>
   have e : (x :: A).getLast? = some ((A.getLast?).getD x) := by cases A <;> rfl
   rw [e] at h
   rw [bU, dd, dd, dd, KL he y B A x (fun q => h (by rw [q]))]; rfl
theorem Jg (he : ∀ x y, eq x y = true ↔ x = y) : ∀ (l : List α) (p : α), ((mU eq p l).getLast?).getD p = (l.getLast?).getD p
 | [], p => by rw [mU]
 | y :: l, p => by
  have e : ((y :: l).getLast?).getD p = (l.getLast?).getD y := by cases l <;> rfl
  rw [mU, e, ← Jg he l y]
  by_cases h : eq y p = true
  ·rw [bB h, (he _ _).1 h]
  ·rw [bE h]
   cases mU eq y l <;> rfl
theorem Rt (he : ∀ x y, eq x y = true ↔ x = y) (l : List α) : (dd eq l).getLast? = l.getLast? := by
 cases l with
 | nil => rfl
 | cons x l =>
  have e : ∀ m : List α, (x :: m).getLast? = some ((m.getLast?).getD x) := by intro m; cases m <;> rfl
  rw [dd, e, e, Jg he]
theorem Sw (h : SWO lt) (he : ∀ x y, eq x y = true ↔ x = y) {k : α} {A B : List α} (g : ∀ x ∈ A, lt k x = false) (d : ∀ x ∈ B, lt k x = true) :
  dd eq (A ++ B) = dd eq A ++ dd eq B ∧ dd eq (A ++ k :: B) = (if zZ eq A k then dd eq A else dd eq A ++ [k]) ++ dd eq B := by
 have h1 : ∀ y, B.head? = some y → A.getLast? ≠ some y := fun y b a => by
  have := d y (List.mem_of_mem_head? b)
  rw [g y (List.mem_of_getLast? a)] at this; cases this
 refine ⟨OB he A B h1, ?_⟩
 have e : A ++ k :: B = (A ++ [k]) ++ B := by simp
 rw [e, OB he (A ++ [k]) B, QP he]
 intro y b a
 rw [List.getLast?_append] at a
 simp only [List.getLast?_singleton, Option.some_or, gm] at a
 have := d y (List.mem_of_mem_head? b)
 rw [a, h.Qn] at this; cases this
end
theorem Hx (l : List Formula) (k : Formula) (g : ∀ x ∈ l, Gd x) (hk : Gd k) (A : List Formula) (j : ∀ x ∈ A, nv BM k x = false) : ∀ (m : Nat) (B C : List Formula), B.length = m → l = A ++ B ++ C → (∀ x ∈ B, nv BM k x = true) → l.length ≤ 1000000 → ∀ n, m < n →
  pC l k n ((A.length + B.length : Nat) : Int) = some (A.length : Int)
 | 0, B, C, hm, a, d, hlen, n + 1, t => by
  obtain rfl := aV hm
  rw [pC]
  simp only [bV, gl]
  rcases du A with rfl | ⟨A', y, rfl⟩
  ·rfl
  ·rw [dO] at *
   have hp : ((A' ++ [y]).length : Int) > 0 := by simp
   simp only [hp, cA, aU]
   have hw : IntKind.i64.wrap (((A' ++ [y]).length : Int) - 1) = (A'.length : Int) := by
    simp at hlen a ⊢
    rw [a] at hlen
    simp at hlen
    rw [kO (by omega) (by omega)]
   rw [hw, show lG l (A'.length : Int) = some y from by rw [a]; simp only [bI, aM]; exact mR A' y C _ rfl, aA]
   have i : y ∈ l := by rw [a]; simp
   obtain ⟨c, e, h⟩ := JS y k (g y i) hk
   have b : ¬ c > 0 := fun q => by have := h.1 q; rw [j y (by simp)] at this; cases this
   rw [e, aA]
   simp [b]
 | m + 1, B, C, hm, a, d, hlen, n + 1, t => by
  rcases du B with rfl | ⟨B', y, rfl⟩
  ·simp at hm
  ·rw [dO] at *
   rw [pC]
   have hp : ((A.length + (B' ++ [y]).length : Nat) : Int) > 0 := by simp; omega
   simp only [hp, cA, aU]
   have hw : IntKind.i64.wrap (((A.length + (B' ++ [y]).length : Nat) : Int) - 1) = ((A.length + B'.length : Nat) : Int) := by
    rw [a] at hlen
    simp at hlen
    rw [kO (by simp; omega) (by simp; omega)]; simp; omega
   have p : lG l ((A.length + B'.length : Nat) : Int) = some y := by
    rw [a]
    have e : A ++ (B' ++ [y]) ++ C = (A ++ B') ++ y :: C := by simp
    rw [e]
    exact mR (A ++ B') y C _ (by simp)
   rw [hw, p, aA]
   have i : y ∈ l := by rw [a]; simp
   obtain ⟨c, e, h⟩ := JS y k (g y i) hk
   have b : c > 0 := h.2 (d y (by simp))
   rw [e, aA]
   simp only [b, cA, aA, aU]
   exact Hx l k g hk A j m B' (y :: C) (by simp at hm; omega) (by rw [a]; simp) (fun x u => d x (by simp [u])) hlen n (by omega)
theorem UB {b : Bool} (h : b = true) : sf b = some () := by rw [h]; rfl
theorem Gm (a : Bool) (k : Formula) (ks A B : List Formula) (j : ∀ x ∈ A ++ B, Gd x) (hk : Gd k) (l : ∀ x ∈ A, nv BM k x = false) (m : ∀ x ∈ B, nv BM k x = true) (hlen : (A ++ B).length ≤ 1000000) :
  mC a (k :: ks) (A ++ B) = if a && zZ qf A k then mC a ks (A ++ B) else mC a ks (A ++ k :: B) := by
 have i := Hx (A ++ B) k j hk A l B.length B [] rfl (by simp) m hlen ki (by rw [mn]; simp at hlen; omega)
 have b : A.length + B.length ≤ 1000000 := by simpa using hlen
 rw [mC, aF, i, aA]
 have rest : ((sf (decide ((0 : Int) ≤ (A.length : Int)) && decide ((A.length : Int) ≤ ((A ++ B).length : Int)))).bind fun _ => (mE 72 ([]) ((A ++ B).take (Int.toNat (A.length : Int)))).bind fun d => (mE 72 d ([k])).bind fun g => (sf (decide ((0 : Int) ≤ (A.length : Int)) && decide ((A.length : Int) ≤ ((A ++ B).length : Int)))).bind fun _ => (mE 72 g ((A ++ B).drop (Int.toNat (A.length : Int)))).bind fun h => mC a ks h) = mC a ks (A ++ k :: B) := by
  rw [UB (by simp; omega), aA, dH, ij, List.drop_left, mZ (by simp; omega) (by simp; omega), aA, mZ (by simp; omega) (by simp; omega), aA, aA, mZ (by simp; omega) (by simp; omega), aA]
  simp
 rw [aF] at rest
 cases a with
 | false => exact rest
 | true =>
  simp only [aU, aA, dW]
  rcases du A with rfl | ⟨A', y, rfl⟩
  ·exact rest
  ·rw [dO] at *
   have hp : ((A' ++ [y]).length : Int) > 0 := by simp
   simp only [hp, cA, aU]
   have hw : IntKind.i64.wrap (((A' ++ [y]).length : Int) - 1) = (A'.length : Int) := by
    simp at b ⊢
    rw [kO (by omega) (by omega)]
   have p : lG ((A' ++ [y]) ++ B) (A'.length : Int) = some y := by
    simp only [aM, bU, bH]
    exact mR A' y B _ rfl
   rw [hw, p, aA, O8 y k (j y (by simp)), aA, aA]
   have n : zZ qf (A' ++ [y]) k = qf y k := by unfold zZ; rw [List.getLast?_append]; rfl
   rw [n]
   cases qf y k
   ·simp only [aC, aK]; exact rest
   ·rfl
theorem HZ {x : Formula} {l : List Formula} (h : x ∈ dd qf l) : x ∈ l := (Kl (fun _ _ => Bb) l x).1 h
theorem GG : ∀ (ks S : List Formula), MD (nv BM) S → (∀ x ∈ S, Gd x) → (∀ x ∈ ks, Gd x) → S.length + ks.length ≤ 1000000 → mC true ks (dd qf S) = some (dd qf (ks.foldl (BI (nv BM)) S))
 | [], S, _, _, _, _ => by rw [mC]; rfl
 | k :: ks, S, j, g, hk, m => by
  rw [aQ] at m
  obtain ⟨A, B, rfl, b, d⟩ := ES IY k j
  obtain ⟨n, p⟩ := Sw (eq := qf) IY (fun _ _ => Bb) b d
  have i := KT qf (A ++ B)
  rw [n] at i ⊢
  rw [Gm true k ks (dd qf A) (dd qf B) (fun x a => by
   rcases aW.1 a with h | h
   ·exact g x (by simp [HZ h])
   ·exact g x (by simp [HZ h])) (hk k (by simp)) (fun x a => b x (HZ a)) (fun x a => d x (HZ a)) (by omega), fX, H4 b d]
  have t : zZ qf (dd qf A) k = zZ qf A k := by unfold zZ; rw [Rt (eq := qf) (fun _ _ => Bb)]
  rw [t, dW]
  have ih := GG ks (A ++ k :: B) (Mp IY j b d) (fun x a => by
   rcases aW.1 a with h | h
   ·exact g x (by simp [h])
   ·rcases aR.1 h with rfl | h
    ·exact hk _ (by simp)
    ·exact g x (by simp [h])) (fun x a => hk x (by simp [a])) (by simp at m ⊢; omega)
  rw [p] at ih
  cases l : zZ qf A k
  ·rw [l] at ih
   simp only [aC, aK] at ih ⊢
   rw [← ih]; simp
  ·rw [l] at ih
   simp only [aU] at ih ⊢
   exact ih
theorem HQ : ∀ (ks S : List Formula), MD (nv BM) S → (∀ x ∈ S, Gd x) → (∀ x ∈ ks, Gd x) → S.length + ks.length ≤ 1000000 → mC false ks S = some (ks.foldl (BI (nv BM)) S)
 | [], S, _, _, _, _ => by rw [mC]; rfl
 | k :: ks, S, i, d, hk, j => by
  rw [aQ] at j
  obtain ⟨A, B, rfl, a, b⟩ := ES IY k i
  rw [Gm false k ks A B d (hk k (by simp)) a b (by omega), fX, H4 a b, fe]
  simp only [aC, aK]
  exact HQ ks (A ++ k :: B) (Mp IY i a b) (fun x g => by
   rcases aW.1 g with h | h
   ·exact d x (by simp [h])
   ·rcases aR.1 h with rfl | h
    ·exact hk _ (by simp)
    ·exact d x (by simp [h])) (fun x g => hk x (by simp [g])) (by simp at j ⊢; omega)
theorem TM (l : List Formula) (h : ∀ x ∈ l, Gd x) (a : l.length ≤ 1000000) : vd l true = some (dd qf (vg l)) := GG l [] List.Pairwise.nil (by simp) h (by simpa using a)
theorem UI (l : List Formula) (h : ∀ x ∈ l, Gd x) (a : l.length ≤ 1000000) : vd l false = some (vg l) := HQ l [] List.Pairwise.nil (by simp) h (by simpa using a)
theorem FV (f : Formula) (op : Int) : vv f op = some (lz op f) := DZ f op
theorem JT (op : Int) (a : op = 2 ∨ op = 3) (s : ll) : ∀ l : List Formula, oW op s l = some (if l.any (lz (5 - op)) then .inl (⟨5 - op, 0, px, []⟩, s) else .inr ())
 | [] => rfl
 | x :: l => by
  have hw : IntKind.i64.wrap (5 - op) = 5 - op := kO (by omega) (by omega)
  rw [oW, hw, FV, aA, fW, JT op a s l]
  cases lz (5 - op) x <;> rfl
theorem On (op : Int) (a : op = 2 ∨ op = 3) (l : List Formula) (j : nodesL l ≤ 64) : nc op ⟨false⟩ [] l = some (if l.any (lz (5 - op)) then ⟨5 - op, 0, px, []⟩ else match dd qf (vg l) with | [x] => x | r => ⟨op, 0, px, r⟩, ⟨false⟩) := by
 have g := pF l
 rw [nc, JT op a, aA]
 cases h : l.any (lz (5 - op))
 ·simp only [aC, aK]
  rw [TM l (fun x d => by have := tk d; unfold Gd; omega) (by omega), aA]
  have i := KT qf (vg l)
  have hp := (yM l).length_eq
  have b : ¬ (((dd qf (vg l)).length : Int) > 64) := by omega
  simp only [b, cD, aC, aK, aA]
  generalize dd qf (vg l) = r
  match r with
  | [] => rfl
  | [x] => rfl
  | x :: y :: r =>
   have : (((x :: y :: r).length : Int) == 1) = false := by simp; omega
   simp only [this, aC, aK]
   rfl
 ·rfl
theorem Hc (op : Int) (d : op = 2 ∨ op = 3) : ∀ (ks acc : List Formula), nodesL acc + nodesL ks ≤ 64 →
  nc op ⟨false⟩ ks acc = some (if (acc ++ nK op ks).any (lz (5 - op)) then ⟨5 - op, 0, px, []⟩ else match dd qf (vg (acc ++ nK op ks)) with | [x] => x | r => ⟨op, 0, px, r⟩, ⟨false⟩)
 | [], acc, h => by
  rw [nodesL] at h
  rw [nK, bI]
  exact On op d acc (by omega)
 | k :: ks, acc, h => by
  rw [nodesL] at h
  have h1 := nR k
  have l := pF k.Kids
  have m := pF acc
  have e : ∀ a b : List Formula, nodesL (a ++ b) = nodesL a + nodesL b := by
   intro a b
   induction a with
   | nil => rw [bH, nodesL]; omega
   | cons x a g => rw [bU, nodesL, nodesL, g]; omega
  have hw : IntKind.i64.wrap (5 - op) = 5 - op := kO (by omega) (by omega)
  rw [nc, nK]
  by_cases c : k.Op = op
  ·simp only [c, aZ, aU]
   rw [mZ (by omega) (by omega), aA, Hc op d ks _ (by rw [e]; omega), aM]
  ·have i : (k.Op == op) = false := by simpa using c
   simp only [i, aC, aK, c]
   rw [FV, hw, aA]
   cases j : lz (5 - op) k
   ·simp only [aC, aK]
    rw [mZ (by simp; omega) (by simp; omega), aA, Hc op d ks _ (by rw [e, nodesL, nodesL]; omega), aM]
   ·simp only [aU]
    have : (acc ++ ([k] ++ nK op ks)).any (lz (5 - op)) = true := by simp [j]
    rw [this]; rfl
theorem MR (op : Int) (a : op = 2 ∨ op = 3) (ks : List Formula) (h : nodesL ks ≤ 64) : oQ ⟨false⟩ op ks = some (oP op ks, ⟨false⟩) := by
 unfold oQ oP
 rw [Hc op a ks [] (by rw [nodesL]; omega), bH]
 rfl
theorem Cd : ∀ (ks acc : List Formula) (k : Int), -1000 ≤ k - (ks.length : Int) → k ≤ 1000 → acc.length + ks.length ≤ 1000 →
  mV ks k acc = some (k - ((ks.filter (lz 2)).length : Int), acc ++ ks.filter fun x => !lz 2 x && !lz 3 x)
 | [], acc, k, h1, a, b => by rw [mV]; simp
 | x :: ks, acc, k, h1, a, b => by
  simp only [aQ] at h1 b
  rw [mV, FV, aA, FV, aA]
  rw [dL, dL]
  cases c2 : lz 2 x
  ·cases d : lz 3 x
   ·simp only [dp, iR, aC, aK, aU]
    rw [mZ (by simp; omega) (by simp; omega), aA, Cd ks _ k (by omega) a (by simp; omega)]
    simp only [aM, bU, bH]
   ·simp only [dp, cJ, iB, aC, aK]
    rw [Cd ks _ k (by omega) a (by omega)]
  ·simp only [cJ, fe, aC, aK, aU]
   rw [kO (by omega) (by omega), Cd ks _ (k - 1) (by omega) (by omega) (by omega)]
   simp only [aQ]
   have e : k - 1 - ((ks.filter (lz 2)).length : Int) = k - (((ks.filter (lz 2)).length + 1 : Nat) : Int) := by omega
   rw [e]
theorem Su : ∀ (n : Nat) (f : Formula), nI f ≤ n → kB f ≤ 64 → tf f = true → mY n ⟨false⟩ f = some (py f, ⟨false⟩) := by
 intro n
 induction n with
 | zero => intro f h; rw [mK] at h; omega
 | succ n ih =>
  intro f A L hw
  rw [mK] at A
  have E := nR f
  obtain ⟨h1, y, t⟩ := xR hw
  rw [mY]
  unfold rX
  rw [Aw]
  by_cases c1 : f.Op = 1
  ·simp only [c1, aZ, aU]
  ·have u : (f.Op == 1) = false := by simpa using c1
   simp only [u, aC, aK, c1]
   have last : ∀ acc : List Formula, nodesL acc ≤ 64 → nm (mY n) f [] acc ⟨false⟩ = some (if f.Op = 4 then sS f.K acc else oP f.Op acc, ⟨false⟩) := by
    intro acc b
    have hlen := pF acc
    have J := zk (fun x => !lz 2 x && !lz 3 x) acc
    rw [nm]
    by_cases p : f.Op = 4
    ·have hk : 0 ≤ f.K ∧ f.K ≤ (f.Kids.length : Int) := by rcases t with h | h | h <;> omega
     have i : ¬ f.Op < 4 := by omega
     simp only [i, p, cD, aC, aK, aU]
     rw [Cd acc [] f.K (by omega) (by omega) (by simp; omega), aA, bH]
     unfold sS
     simp only
     have g := pF (acc.filter fun x => !lz 2 x && !lz 3 x)
     have hm : ∀ x ∈ (acc.filter fun x => !lz 2 x && !lz 3 x), Gd x := fun x G => by have := tk G; unfold Gd; omega
     generalize (acc.filter fun x => !lz 2 x && !lz 3 x) = l at *
     generalize f.K - ((acc.filter (lz 2)).length : Int) = k
     by_cases d1 : k ≤ 0
     ·simp only [d1, cA, aU]; rfl
     ·simp only [d1, cD, aC, aK]
      by_cases d2 : k > (l.length : Int)
      ·simp only [d2, cA, aU]; rfl
      ·simp only [d2, cD, aC, aK]
       by_cases d3 : k = (l.length : Int)
       ·simp only [← d3, aZ, aU]
        rw [MR 2 (.inl rfl) l (by omega), aA]
        rfl
       ·have v : (k == (l.length : Int)) = false := by simpa using d3
        simp only [v, aC, aK, d3]
        by_cases d4 : k = 1
        ·simp only [d4, aZ, aU]
         rw [MR 3 (.inr rfl) l (by omega), aA]
         rfl
        ·have w : (k == 1) = false := by simpa using d4
         simp only [w, aC, aK, d4]
         rw [UI l hm (by omega)]
         rfl
    ·have j : f.Op = 2 ∨ f.Op = 3 := by rcases t with h | h | h <;> omega
     have i : f.Op < 4 := by omega
     simp only [i, p, cA, aU, aK]
     rw [MR f.Op j acc b, aA]
   have key : ∀ (ks acc : List Formula), (∀ k ∈ ks, k ∈ f.Kids) → wellL ks = true → nodesL (acc ++ shapeL ks) ≤ 64 → nodesL ks ≤ 64 → nm (mY n) f ks acc ⟨false⟩ = some (if f.Op = 4 then sS f.K (acc ++ shapeL ks) else oP f.Op (acc ++ shapeL ks), ⟨false⟩) := by
    intro ks
    induction ks with
    | nil =>
     intro acc _ _ b _
     rw [shapeL, bI] at *
     exact last acc b
    | cons k ks m =>
     intro acc hk a b g
     rw [wellL, bo] at a
     rw [nodesL] at g
     rw [shapeL] at b
     have d := pF (acc ++ py k :: shapeL ks)
     simp only [aF, aQ] at d
     rw [nm, ih k (by have := qK (hk k (by simp)); omega) (by omega) a.1, aA, mZ (by simp; omega) (by simp; omega), aA,
      m (acc ++ [py k]) (fun z I => hk z (by simp [I])) a.2 (by rw [aM]; exact b) (by omega), shapeL]
     simp only [aM, bU, bH]
   have := EN f.Kids
   have := key f.Kids [] (fun k hk => hk) y (by simpa using by omega) (by omega)
   simpa using this
theorem QJ (f : Formula) (h : Gd f) : yS f = some (xz f) := by
 unfold yS xz
 rw [Ig f h, aA]
 cases b : nn f
 ·rfl
 ·obtain ⟨h1, d, a⟩ := zT b
  have g := Aj f
  simp only [cJ, aC, aK, aU]
  rw [Su ki f (by rw [mn]; omega) h1 a, aA, Ig (py f) (by unfold Gd; omega)]
  simp only [aC, aK, aA]
  cases nn (py f) <;> rfl
theorem Ij (c : jv) : ∀ (l : List mj) (e o k : Int) (r : ju) (ks : List Formula), (∀ a ∈ l, kB a.jC ≤ 10000000) → kB ⟨o, k, r, ks⟩ ≤ 64 →
  sM c l e o k r ks = some (let t := oS (⟨o, k, r, ks⟩, e) ((l.filter fun a => qF lI a.me c).map (·.jC)); (t.2, t.1.Op, t.1.K, t.1.ju, t.1.Kids))
 | [], e, o, k, r, ks, _, _ => by rw [sM, gP, eT, oS]
 | a :: l, e, o, k, r, ks, h, p => by
  have ha := h a (by simp)
  have j : ∀ x ∈ l, kB x.jC ≤ 10000000 := fun x w => h x (by simp [w])
  rw [sM, dL, Iy]
  by_cases d : e = 0
  ·have i : (e == 0) = true := by simp [d]
   simp only [i, aU, aA]
   cases A : qF lI a.me c
   ·simp only [aC, aK]
    exact Ij c l e o k r ks j p
   ·simp only [aU]
    rw [bL, oS]
    simp only [d, aU]
    have u : Gd ⟨2, 0, px, [⟨o, k, r, ks⟩, a.jC]⟩ := by show kB _ ≤ _; rw [kB, nodesL, nodesL, nodesL]; omega
    rw [show (⟨2, 0, (⟨zS, zS⟩ : ju), [(⟨o, k, r, ks⟩ : Formula), a.jC]⟩ : Formula) = ⟨2, 0, px, [⟨o, k, r, ks⟩, a.jC]⟩ from rfl, QJ _ u, aA]
    have v := yJ (f := ⟨2, 0, px, [⟨o, k, r, ks⟩, a.jC]⟩)
    generalize xz ⟨2, 0, px, [⟨o, k, r, ks⟩, a.jC]⟩ = q at *
    obtain ⟨⟨y, k', z, n⟩, e'⟩ := q
    exact Ij c l e' y k' z n j v
  ·have i : (e == 0) = false := by simpa using d
   simp only [i, aC, aK, aA]
   rw [Ij c l e o k r ks j p]
   have b : ∀ m : List Formula, oS (⟨o, k, r, ks⟩, e) m = (⟨o, k, r, ks⟩, e) := by
    intro m
    cases m with
    | nil => rw [oS]
    | cons g m => rw [oS]; simp only [d, aK]
   rw [b, b]
theorem NW (c : jv) (p : kD) (hp : PB p) : ∀ l : List ke, (∀ x ∈ l, x ∈ p.jJ) → wc c p l = some (match l.find? (fun x => lI x.Signed.jv c) with | none => (GB, 42) | some x => CM x.jC ((yX p c).map (·.jC)))
 | [], _ => rfl
 | x :: l, h => by
  rw [wc, fp]
  cases j : lI x.Signed.jv c
  ·simp only [dp, aU]
   exact NW c p hp l (fun z g => h z (by simp [g]))
  ·simp only [cJ, aC, aK]
   have m := hp.rel x (h x (by simp))
   have d := yJ (f := x.jC)
   rw [QJ _ (by unfold Gd; omega), aA]
   unfold CM yX
   generalize xz x.jC = q at *
   obtain ⟨⟨o, k, r, ks⟩, e⟩ := q
   rw [Ij c p.jW e o k r ks hp.GZ d, aA]
   simp only
   generalize oS (⟨o, k, r, ks⟩, e) ((p.jW.filter fun a => qF lI a.me c).map (·.jC)) = t
   obtain ⟨⟨n, k', u, i⟩, e'⟩ := t
   by_cases c1 : e' = 0
   ·subst c1; rfl
   ·have b : (e' != 0) = true := by simp [c1]
    simp only [b, aU, c1, aK]; rfl
theorem TO (p : kD) (hp : PB p) (c : jv) : A0 p c = some (pb p c) := by
 unfold A0 pb Ae
 refine (NW c p hp _ (fun x a => a)).trans ?_
 cases p.jJ.find? (fun x => lI x.Signed.jv c) <;> rfl
theorem Uz (l : List ju) (r : ju) : Aa l r = some (qF jY l r) := by
 unfold Aa
 induction l with
 | nil => rfl
 | cons x l ih =>
  rw [xj, ih]
  have e : qF jY (x :: l) r = (jY r x || qF jY l r) := rfl
  have a : jY x r = jY r x := by rw [bQ, kc, kc]; exact eq_comm
  rw [e, a]
  cases jY r x <;> rfl
theorem GY (l : List ju) (rec : Formula → List ju → Option Bool) (f : Formula) (v : ju → Bool) : ∀ (ks : List Formula) (x : Nat), (∀ k ∈ ks, rec k l = some (ph v k)) → x + ks.length ≤ 100000000 →
  qZ rec l f ks (x : Int) = some (if f.Op = 2 then decide (x + evN v ks = f.Kids.length) else if f.Op = 3 then decide (0 < x + evN v ks) else decide (f.K ≤ ((x + evN v ks : Nat) : Int)))
 | [], x, _, _ => by
  rw [qZ, evN, gl]
  by_cases c2 : f.Op = 2
  ·simp only [c2, aZ, aU]
   congr 1
   rw [bQ, ga, bO]; omega
  ·have b : (f.Op == 2) = false := by simpa using c2
   simp only [b, aC, aK, c2]
   by_cases a : f.Op = 3
   ·simp only [a, aZ, aU]
    congr 1
    rw [bQ, bO, bO]; omega
   ·have g : (f.Op == 3) = false := by simpa using a
    simp only [g, aC, aK, a]
    first | done | rfl
 | k :: ks, x, h, i => by
  rw [aQ] at i
  rw [qZ, h k (by simp), aA, evN]
  cases ph v k
  ·simp only [aC, aK]
   rw [GY l rec f v ks x (fun z d => h z (by simp [d])) (by omega), ew]
  ·simp only [aU]
   have e : IntKind.i64.wrap ((x : Int) + 1) = ((x + 1 : Nat) : Int) := by rw [kO (by omega) (by omega)]; omega
   rw [e, GY l rec f v ks (x + 1) (fun z d => h z (by simp [d])) (by omega)]
   have b : x + 1 + evN v ks = x + (1 + evN v ks) := by omega
   rw [b]
theorem Qs (l : List ju) : ∀ (n : Nat) (f : Formula), nI f ≤ n → Gd f → qL n f l = some (ph (qF jY l) f) := by
 intro n
 induction n with
 | zero => intro f h; rw [mK] at h; omega
 | succ n ih =>
  intro f b d
  rw [mK] at b
  have g := nR f
  have i := pF f.Kids
  unfold Gd at d
  rw [qL]
  unfold xK
  rw [vY, Uz]
  by_cases c1 : f.Op = 1
  ·simp only [c1, aZ, aU, aA]
  ·have a : (f.Op == 1) = false := by simpa using c1
   simp only [a, aC, aK, c1]
   have := GY l (qL n) f (qF jY l) f.Kids 0 (fun k hk => ih k (by have := qK hk; omega) (by have := tk hk; unfold Gd; omega)) (by omega)
   simpa using this
theorem Jp (F : List jN) (w : ByteArray) : qF jY (HI F w) = vF F w := by
 funext r
 unfold vF HI
 rw [bQ, xa kc, xa xS, bJ]
 constructor
 ·rintro ⟨f, b, rfl⟩
  obtain ⟨h1, a⟩ := cT.1 b
  have := mf.1 a
  rw [← this]; exact h1
 ·intro h
  exact ⟨⟨r, w⟩, cT.2 ⟨h, mf.2 rfl⟩, rfl⟩
theorem D4 (p : kD) (hp : PB p) (l : List ju) (v : ju → Bool) (a : qF jY l = v) : ∀ (xs : List ke) (acc : List jv), acc.length + xs.length ≤ 1000000000 → qV p l xs acc = yc (acc ++ (xs.filter (Ai p v)).map (·.Signed.jv))
 | [], acc, _ => by rw [qV, gP, eT, bI, oC]
 | x :: xs, acc, h => by
  rw [aQ] at h
  have g := I0 p x.Signed.jv
  have d := wu (pb p x.Signed.jv).1
  rw [qV, TO p hp, aA, Qs l ki _ (by rw [mn]; omega) (by unfold Gd; omega), a, dL]
  unfold Ai
  by_cases c : (pb p x.Signed.jv).2 = 0
  ·have b := (N5 c).1
   simp only [c, aZ, aU, cA, dW, aA]
   unfold vA
   rw [b, dW]
   cases i : ph v (pb p x.Signed.jv).1
   ·simp only [aC, aK]
    exact D4 p hp l v a xs acc (by omega)
   ·simp only [aU]
    rw [mZ (by simp; omega) (by simp; omega), aA, D4 p hp l v a xs _ (by simp; omega)]
    simp only [bL, aM, bU, bH]
    rfl
  ·have e : ((pb p x.Signed.jv).2 == 0) = false := by simpa using c
   simp only [e, aC, aK, c, cD, fe, aA]
   exact D4 p hp l v a xs acc (by omega)
theorem Ty {l : List jv} {F : List jN} (h : Nc l F) (peer : ByteArray) : vF F peer = vD l peer := by
 funext r
 rw [bQ, Fo]
 unfold vF
 rw [xa xS, (h.xC (l.filter lH) (fun c => by rw [cT])).2]
theorem QC (p : kD) (hp : PB p) (l : List jv) (d : l.length ≤ 30000) (peer : ByteArray) : wY p l peer = sd p l peer := by
 obtain ⟨F, a⟩ := Tu l d
 obtain ⟨s, e, g⟩ := QV p hp a peer
 have := hp.Cc
 have h1 : (p.jJ.filter (Ai p (vF F peer))).length ≤ p.jJ.length := eO _ _
 have hlen := a.len
 unfold wY
 rw [a.ref, aA, show sK F peer = some (HI F peer) from NY F peer (by omega), aA, e]
 rw [D4 p hp _ (vF F peer) (Jp F peer) p.jJ [] (by simp; omega), bH]
 obtain ⟨t, b, h⟩ := Mu ((p.jJ.filter (Ai p (vF F peer))).map (·.Signed.jv)) (by simp; omega)
 rw [b, wJ.unique Dz h g]
theorem Li : ∀ (l m A : List jv), l.length = m.length → ∃ b, sH (A ++ m) l A.length = some b ∧ (b = true ↔ l = m)
 | [], m, A, d => by
  obtain rfl := aV d.symm
  exact ⟨true, by rw [sH], by simp⟩
 | x :: l, [], A, d => by simp at d
 | x :: l, y :: m, A, d => by
  have i1 : lG (A ++ y :: m) (A.length : Int) = some y := mR _ _ _ _ rfl
  rw [sH, i1, aA]
  cases g : lI x y with
  | false =>
   refine ⟨false, by simp [g], ?_⟩
   have : x ≠ y := fun a => by have := oE.2 a; rw [this] at g; cases g
   simp [this]
  | true =>
   have a := oE.1 g
   obtain ⟨b, h, k⟩ := Li l m (A ++ [y]) (by simpa using d)
   have i : A ++ y :: m = (A ++ [y]) ++ m := by simp
   have j : A.length + 1 = (A ++ [y]).length := by simp
   simp only [cJ, aC, aK]
   rw [i, j, h]
   exact ⟨b, rfl, by rw [k]; simp [a]⟩
theorem TS (l m : List jv) : ∃ b, vh l m = some b ∧ (b = true ↔ l = m) := by
 unfold vh
 by_cases h : l.length = m.length
 ·have : ((l.length : Int) != (m.length : Int)) = false := by simp [h]
  simp only [this, aC, aK]
  exact Li l m [] h
 ·have : ((l.length : Int) != (m.length : Int)) = true := by simp; omega
  simp only [this, aU]
  exact ⟨false, rfl, by simp; intro hk; rw [hk] at h; exact h rfl⟩
theorem Kq {x p : List jv} (sx : ou x) (sp : ou p) (h : ∀ c ∈ x, c ∈ p) : vh p x = some (decide (p.length = x.length)) := by
 obtain ⟨b, e, a⟩ := TS p x
 rw [e]; congr 1
 rw [bQ, a, bO]
 exact ⟨fun q => by rw [q], fun q => (sx.eq sp h (by omega)).symm⟩
theorem Hy (a b : kD) (ha : PB a) (g : PB b) (v : a.jJ.length ≤ 30000) (w : b.jJ.length ≤ 30000) : ∀ (n : Nat) (x y : List jv) (i : Int), ou x → ou y → (∀ c ∈ x, se a y b.Name c) → (∀ c ∈ y, se b x a.Name c) →
  sR a b n x y i = pj a b n x y i
 | 0, x, y, i, sx, sy, h, j => by rw [sR, pj]
 | n + 1, x, y, i, sx, sy, h, j => by
  have h1 := yG sx (fun c d => (h c d).1)
  have z := yG sy (fun c d => (j c d).1)
  obtain ⟨p, t, sp, mp, A⟩ := JJ a ha y (by omega) b.Name
  obtain ⟨q, u, sq, k, E⟩ := JJ b g x (by omega) a.Name
  have l : ∀ c ∈ x, c ∈ p := fun c d => (mp c).2 (h c d)
  have m : ∀ c ∈ y, c ∈ q := fun c d => (k c).2 (j c d)
  rw [sR, pj, QC a ha y (by omega), QC b g x (by omega), t, u]
  simp only [aA]
  rw [Kq sx sp l, Kq sy sq m]
  simp only [aA]
  have ih := Hy a b ha g v w n p q (IntKind.i64.wrap (i + 1)) sp sq (fun c d => wq m ((mp c).1 d)) (fun c d => wq l ((k c).1 d))
  rw [ih]
  have d1 : ((p.length : Int) == (x.length : Int)) = decide (p.length = x.length) := by
   rw [bQ, ga, bO]; omega
  have d2 : ((q.length : Int) == (y.length : Int)) = decide (q.length = y.length) := by
   rw [bQ, ga, bO]; omega
  rw [d1, d2]
theorem FO (a b : kD) (ha : PB a) (d : PB b) (g : a.jJ.length ≤ 30000) (h : b.jJ.length ≤ 30000) : xf a b = wj a b :=
 Hy a b ha d g h ki [] [] 0 ou.nil ou.nil (by simp) (by simp)
mutual
def zt : Formula → Nat
 | ⟨_, _, r, ks⟩ => 1 + r.jw.size + r.Word.size + szFL ks
def szFL : List Formula → Nat
 | [] => 0
 | k :: ks => zt k + szFL ks
end
theorem KK (f : Formula) : zt f = 1 + f.ju.jw.size + f.ju.Word.size + szFL f.Kids := by cases f; rw [zt]
theorem Cf : ∀ f : Formula, kB f ≤ zt f := by
 refine JY fun f ih => ?_
 have : ∀ ks : List Formula, (∀ k ∈ ks, kB k ≤ zt k) → nodesL ks ≤ szFL ks := by
  intro ks
  induction ks with
  | nil => intro _; rw [nodesL]; omega
  | cons k ks a =>
   intro h
   have := a (fun x b => h x (by simp [b]))
   have := h k (by simp)
   rw [nodesL, szFL]; omega
 have := this f.Kids ih
 rw [nR, KK]; omega
def yw : List jv → Nat
 | [] => 0
 | c :: l => 20 + yn c + yw l
theorem g5 : ∀ (l : List jv) (n : Int), 0 ≤ n → n + (yw l : Int) ≤ 4000000000000000000 → rA l n = some (n + (yw l : Int))
 | [], n, _, _ => by rw [rA, yw]; simp
 | c :: l, n, b, a => by
  have e : yn c = c.Head.jw.size + c.Head.Word.size + c.kE.size + c.B.jw.size + c.B.Word.size + c.C.jw.size + c.C.Word.size + c.kL.size := rfl
  rw [yw] at a
  rw [rA]
  rw [kO (x := 20 + (c.Head.jw.size : Int)) (by omega) (by omega), kO (x := 20 + (c.Head.jw.size : Int) + (c.Head.Word.size : Int)) (by omega) (by omega), kO (x := 20 + (c.Head.jw.size : Int) + (c.Head.Word.size : Int) + (c.kE.size : Int)) (by omega) (by omega), kO (x := 20 + (c.Head.jw.size : Int) + (c.Head.Word.size : Int) + (c.kE.size : Int) + (c.B.jw.size : Int)) (by omega) (by omega), kO (x := 20 + (c.Head.jw.size : Int) + (c.Head.Word.size : Int) + (c.kE.size : Int) + (c.B.jw.size : Int) + (c.B.Word.size : Int)) (by omega) (by omega), kO (x := 20 + (c.Head.jw.size : Int) + (c.Head.Word.size : Int) + (c.kE.size : Int) + (c.B.jw.size : Int) + (c.B.Word.size : Int) + (c.C.jw.size : Int)) (by omega) (by omega), kO (x := 20 + (c.Head.jw.size : Int) + (c.Head.Word.size : Int) + (c.kE.size : Int) + (c.B.jw.size : Int) + (c.B.Word.size : Int) + (c.C.jw.size : Int) + (c.C.Word.size : Int)) (by omega) (by omega), kO (x := 20 + (c.Head.jw.size : Int) + (c.Head.Word.size : Int) + (c.kE.size : Int) + (c.B.jw.size : Int) + (c.B.Word.size : Int) + (c.C.jw.size : Int) + (c.C.Word.size : Int) + (c.kL.size : Int)) (by omega) (by omega), kO (by omega) (by omega)]
  rw [g5 l _ (by omega) (by omega), yw]
  congr 1; omega
theorem U9 : ∀ (n : Nat) (l : List Formula), deepL l < n → szFL l ≤ 1000000000000 → ∃ r : Int, oA n l = some r ∧ 0 ≤ r ∧ r ≤ (szFL l : Int) := by
 intro n
 induction n with
 | zero => intro l h; omega
 | succ n ih =>
  intro l h g
  rw [oA]
  unfold wO
  have key : ∀ (l : List Formula) (x : Int), deepL l < n + 1 → 0 ≤ x → x + (szFL l : Int) ≤ 1000000000000 → ∃ r : Int, rE (oA n) l x = some r ∧ 0 ≤ r ∧ r ≤ x + (szFL l : Int) := by
   intro l
   induction l with
   | nil => intro x _ i _; exact ⟨x, by rw [rE], i, by rw [szFL]; simp⟩
   | cons k l b =>
    intro x h i g
    rw [deepL] at h
    rw [szFL] at g
    have hk := KK k
    have := mK k
    obtain ⟨r, e, h1, j⟩ := ih k.Kids (by omega) (by omega)
    rw [rE, e, aA]
    have t : 0 ≤ Int.tdiv ((k.ju.jw.size : Int) + (k.ju.Word.size : Int)) 16 ∧ Int.tdiv ((k.ju.jw.size : Int) + (k.ju.Word.size : Int)) 16 ≤ (k.ju.jw.size : Int) + (k.ju.Word.size : Int) := by
     rw [Int.tdiv_eq_ediv_of_nonneg (by omega)]
     omega
    rw [kO (x := (k.ju.jw.size : Int) + (k.ju.Word.size : Int)) (by omega) (by omega)]
    generalize Int.tdiv ((k.ju.jw.size : Int) + (k.ju.Word.size : Int)) 16 = d at *
    rw [kO (x := d) (by omega) (by omega), kO (x := 1 + d) (by omega) (by omega), kO (x := 1 + d + r) (by omega) (by omega), kO (x := x + (1 + d + r)) (by omega) (by omega)]
    obtain ⟨p, e', a, m⟩ := b (x + (1 + d + r)) (by omega) (by omega) (by omega)
    exact ⟨p, e', a, by rw [szFL]; omega⟩
  obtain ⟨r, e, h1, j⟩ := key l 0 h (by omega) (by omega)
  exact ⟨r, e, h1, by omega⟩
theorem IG (f : Formula) (h : zt f ≤ 50000000) : ∃ r : Int, oA ki [f] = some r ∧ 0 ≤ r ∧ r ≤ (zt f : Int) := by
 have h1 := Cf f
 have d := wu f
 obtain ⟨r, e, a, b⟩ := U9 ki [f] (by rw [deepL, deepL, mn]; omega) (by rw [szFL, szFL]; omega)
 refine ⟨r, e, a, ?_⟩
 rw [szFL, szFL] at b; omega
theorem g6 (s : Signed) (h : yn s.jv + s.Tag.length ≤ 1000000000) : uo [] [s] = some (20 + (yn s.jv : Int) + (s.Tag.length : Int)) := by
 unfold uo
 rw [qk, rF]
 have := g5 [s.jv] 0 (by omega) (by rw [yw, yw]; omega)
 rw [show vR [s.jv] = _ from this, aA, rF, yw, yw]
 rw [kO (x := 0 + ((20 + yn s.jv + 0 : Nat) : Int) + (s.Tag.length : Int)) (by omega) (by omega), kO (by omega) (by omega)]
 simp only [aA]
 congr 1; omega
def Cw : List ke → Nat
 | [] => 0
 | x :: l => 20 + yn x.Signed.jv + x.Signed.Tag.length + 20 * zt x.jC + Cw l
def Bn : List mj → Nat
 | [] => 0
 | a :: l => a.ju.jw.size + a.ju.Word.size + 20 * zt a.jC + yw a.me + Bn l
def Ja (p : kD) : Nat := p.Name.size + Cw p.jJ + Bn p.jW
theorem OV : ∀ (l : List mj) (x : Int), 0 ≤ x → x + (Bn l : Int) ≤ 1000000000 → ∃ r : Int, rH l x = some r ∧ x ≤ r ∧ r ≤ x + (Bn l : Int)
 | [], x, _, _ => ⟨x, by rw [rH], by omega, by rw [Bn]; omega⟩
 | a :: l, x, i, h => by
  rw [Bn] at h
  obtain ⟨r, e, h1, j⟩ := IG a.jC (by omega)
  have b := g5 a.me 0 (by omega) (by omega)
  rw [rH, e, aA, show vR a.me = _ from b, aA]
  rw [kO (x := (a.ju.jw.size : Int) + (a.ju.Word.size : Int)) (by omega) (by omega), kO (x := 20 * r) (by omega) (by omega), kO (x := (a.ju.jw.size : Int) + (a.ju.Word.size : Int) + 20 * r) (by omega) (by omega), kO (x := (a.ju.jw.size : Int) + (a.ju.Word.size : Int) + 20 * r + (0 + (yw a.me : Int))) (by omega) (by omega), kO (by omega) (by omega)]
  obtain ⟨d, e', g, a2⟩ := OV l (x + ((a.ju.jw.size : Int) + (a.ju.Word.size : Int) + 20 * r + (0 + (yw a.me : Int)))) (by omega) (by omega)
  exact ⟨d, e', by omega, by rw [Bn]; omega⟩
theorem Uh (p : kD) (g : Ja p ≤ 1000000000) : ∃ r : Int, wg p = some r ∧ 20 * (p.jJ.length : Int) ≤ r ∧ r ≤ (Ja p : Int) := by
 unfold Ja at g
 have key : ∀ (l : List ke) (x : Int), 0 ≤ x → x + (Cw l : Int) + (Bn p.jW : Int) ≤ 1000000000 → ∃ r : Int, rB p l x = some r ∧ x + 20 * (l.length : Int) ≤ r ∧ r ≤ x + (Cw l : Int) + (Bn p.jW : Int) := by
  intro l
  induction l with
  | nil =>
   intro x d h
   rw [Cw] at h
   obtain ⟨r, e, a, b⟩ := OV p.jW x d (by omega)
   exact ⟨r, by rw [rB, e]; rfl, by simp; omega, by rw [Cw]; omega⟩
  | cons y l ih =>
   intro x d h
   rw [Cw] at h
   obtain ⟨r, e, h1, j⟩ := IG y.jC (by omega)
   rw [rB, g6 y.Signed (by omega)]
   simp only [aA]
   rw [e, aA]
   rw [kO (x := 20 * r) (by omega) (by omega), kO (x := 20 + (yn y.Signed.jv : Int) + (y.Signed.Tag.length : Int) + 20 * r) (by omega) (by omega), kO (by omega) (by omega)]
   obtain ⟨i, e', a, b⟩ := ih (x + (20 + (yn y.Signed.jv : Int) + (y.Signed.Tag.length : Int) + 20 * r)) (by omega) (by omega)
   exact ⟨i, e', by rw [aQ]; omega, by rw [Cw]; omega⟩
 obtain ⟨r, e, a, b⟩ := key p.jJ (p.Name.size : Int) (by omega) (by omega)
 unfold wg
 exact ⟨r, e, by omega, by unfold Ja; omega⟩
def DE : List Key → Nat
 | [] => 0
 | k :: l => 10 + k.kE.size + k.Key.length + DE l
theorem Uk : ∀ (ks : List Key) (x : Int), 0 ≤ x → x + (DE ks : Int) ≤ 2000000000 → qk [] ks x = some (x + (DE ks : Int))
 | [], x, _, _ => by rw [qk, rF, DE]; simp
 | k :: ks, x, a, h => by
  rw [DE] at h
  rw [qk, kO (x := 10 + (k.kE.size : Int)) (by omega) (by omega), kO (x := 10 + (k.kE.size : Int) + (k.Key.length : Int)) (by omega) (by omega), kO (by omega) (by omega), Uk ks _ (by omega) (by omega), DE]
  congr 1; omega
structure PQ (p : mQ) : Prop extends PP p where
 go : Ja p.jw ≤ 1000000000
 gc : Ja p.Client ≤ 1000000000
 fs : zt p.Formula ≤ 50000000
 ks : DE p.Keys ≤ 1000000000
theorem Iv (a b : kD) (f : Formula) (ha : PB a) (h : PB b) (n : a.jJ.length ≤ 30000) (p : b.jJ.length ≤ 30000) (g : Gd f) :
  ∃ x y j, wj a b = some (x, y, j) ∧ N8 a b x y ∧ wI a b f = some (vA (vD y b.Name) f) ∧ tu a b f = some (vA (vD y b.Name) f) := by
 obtain ⟨x, y, j, e, F⟩ := NU a b ha h (by omega) (by omega)
 have v := F.ly
 obtain ⟨G, d⟩ := Tu y (by omega)
 obtain ⟨m, k, _, l⟩ := d.Uq
 have i := Ty d b.Name
 refine ⟨x, y, j, e, F, ?_, ?_⟩
 ·unfold wI AA
  rw [e, aA, k, aA, aA]
  rw [MN (vD y b.Name) _ (fun r => by unfold vJ; rw [oC, l, ← i]; rfl) f g]
  rfl
 ·have t := wu f
  unfold tu
  rw [Ig f g, aA]
  unfold vA
  cases u : nn f
  ·rfl
  ·simp only [aU]
   unfold AB
   rw [FO a b ha h n p, e, aA, d.ref, aA, show sK G b.Name = some (HI G b.Name) from NY G b.Name (by have := d.len; omega)]
   simp only [aA]
   rw [Qs _ ki f (by rw [mn]; unfold Gd at g; omega) g, Jp, i]
   rfl
structure PL (p : mQ) : Prop where
 o : PB p.jw
 c : PB p.Client
 lo : p.jw.jJ.length ≤ 30000
 lc : p.Client.jJ.length ≤ 30000
 f : Gd p.Formula
def RT (l : List ke) (i : Int) : Prop := 0 ≤ i ∧ i < l.length
instance (l : List ke) (i : Int) : Decidable (RT l i) := by unfold RT; infer_instance
def G0 (l : List ke) (i : Int) : List ke := if RT l i then l.eraseIdx i.toNat else l
def Qu (p : mQ) (e i : Int) : mQ :=
 if e = 0 then ⟨⟨p.jw.Name, G0 p.jw.jJ i, p.jw.jW⟩, p.Client, p.Formula, p.rZ, p.my, p.nB, p.pG, p.oh, p.Keys⟩
 else if e = 1 then ⟨p.jw, ⟨p.Client.Name, G0 p.Client.jJ i, p.Client.jW⟩, p.Formula, p.rZ, p.my, p.nB, p.pG, p.oh, p.Keys⟩
 else p
theorem Hj (l : List ke) (i : Int) : (G0 l i).length ≤ l.length := by
 unfold G0
 split
 ·rw [List.length_eraseIdx]; split <;> omega
 ·omega
theorem PE {l : List ke} {i : Int} {x : ke} (h : x ∈ G0 l i) : x ∈ l := by
 unfold G0 at h
 split at h
 ·exact List.mem_of_mem_eraseIdx h
 ·exact h
theorem PB.cut {n : ByteArray} {l : List ke} {k : List mj} (h : PB ⟨n, l, k⟩) (i : Int) : PB ⟨n, G0 l i, k⟩ where
 Cc := dq (Hj l i) h.Cc
 GP := h.GP
 rel := fun x a => h.rel x (PE a)
 GZ := h.GZ
 NT := h.NT
theorem PL.drop {p : mQ} (h : PL p) (e i : Int) : PL (Qu p e i) := by
 unfold Qu
 split
 ·exact ⟨PB.cut (n := p.jw.Name) (k := p.jw.jW) h.o i, h.c, dq (Hj _ i) h.lo, h.lc, h.f⟩
 ·split
  ·exact ⟨h.o, PB.cut (n := p.Client.Name) (k := p.Client.jW) h.c i, h.lo, dq (Hj _ i) h.lc, h.f⟩
  ·exact h
theorem ou.take {s : List jv} (h : ou s) (n : Nat) : ou (s.take n) := ⟨h.1.sublist (List.take_sublist n s), fun c a => h.2 c (List.mem_of_mem_take a)⟩
theorem bb {α β γ : Type} (x : Option α) (f : α → Option β) (g : β → Option γ) : (x.bind fun a => (f a).bind g) = (x.bind f).bind g := by cases x <;> rfl
theorem M1 (f : jv → Option Bool) (p : jv → Bool) (l : List jv) (h : ∀ x ∈ l, f x = some (p x)) : qa l f = some (l.any p) := by
 unfold qa pq
 rw [IX]; exact PV f p l h
structure DQ (p : mQ) (x y : List jv) (g : Bool) : Prop where
 sx : ou x
 sy : ou y
 s : qc p = some (x, y, g)
 r : ∃ j, xf p.jw p.Client = some (x, y, j)
 q : tu p.jw p.Client p.Formula = some g
theorem QA (p : mQ) (h : PL p) : ∃ x y g, DQ p x y g := by
 obtain ⟨x, y, j, e, F, g1, g2⟩ := Iv p.jw p.Client p.Formula h.o h.c h.lo h.lc h.f
 refine ⟨x, y, _, F.sx, F.sy, ?_, ⟨j, by rw [FO _ _ h.o h.c h.lo h.lc, e]⟩, g2⟩
 unfold qc
 rw [e, aA, g1, aA]
def xD (a b : List jv) : Bool := a.all (qF lI b)
theorem LX {a b : List jv} : xD a b = true ↔ ∀ c ∈ a, c ∈ b := by
 unfold xD
 rw [ed]
 exact forall_congr' fun c => forall_congr' fun _ => xa oE b c
theorem BT (a b : List jv) : uu a b = some (xD a b) ∧ vm a b = some (xD a b) := by
 refine ⟨?_, ?_⟩
 ·unfold uu
  rw [M1 _ (fun c => !qF lI b c) a (fun c _ => by unfold uz th; rw [oC, Ku]; rfl), aA]
  unfold xD
  rw [List.all_eq_not_any_not]
 ·unfold vm xD
  induction a with
  | nil => rw [sV]; rfl
  | cons c a ih =>
   rw [sV, Iy, aA, ih, fV]
   cases qF lI b c <;> rfl
def Ei (x y u v : List jv) (g h : Bool) : Bool := xD u x && xD v y && (g || !h)
theorem DN {a b : mQ} {x y u v : List jv} {g h : Bool} (ha : DQ a x y g) (d : DQ b u v h) : oY a b = some (Ei x y u v g h) ∧ sT a b = some (Ei x y u v g h) := by
 obtain ⟨j, i⟩ := ha.r
 obtain ⟨k, l⟩ := d.r
 refine ⟨?_, ?_⟩
 ·unfold oY Ei
  rw [ha.s, d.s]
  simp only [aA]
  rw [(BT u x).1, (BT v y).1]
  cases xD u x <;> cases xD v y <;> cases g <;> cases h <;> rfl
 ·unfold sT Ei
  rw [i, l, ha.q, d.q]
  simp only [aA]
  rw [(BT u x).2, (BT v y).2]
  cases xD u x <;> cases xD v y <;> cases g <;> cases h <;> rfl
theorem KR {a b : List jv} (d : ou a) (g : ou b) : (xD a b && xD b a) = true ↔ a = b := by
 rw [bo, LX, LX]
 exact ⟨fun h => d.ext g fun c => ⟨h.1 c, h.2 c⟩, fun h => by subst h; exact ⟨fun _ h => h, fun _ h => h⟩⟩
theorem GR {a b : mQ} {x y u v : List jv} {g h : Bool} (ha : DQ a x y g) (d : DQ b u v h) : tq a b = some (!(Ei x y u v g h && Ei u v x y h g)) := by
 obtain ⟨i, k, m⟩ := OI x u
 obtain ⟨j, l, n⟩ := OI y v
 have p : i = (xD x u && xD u x) := by rw [bQ, m, KR ha.sx d.sx]
 have t : j = (xD y v && xD v y) := by rw [bQ, n, KR ha.sy d.sy]
 unfold tq Ei
 rw [ha.s, d.s]
 simp only [aA]
 rw [k, l, p, t]
 cases xD x u <;> cases xD u x <;> cases xD y v <;> cases xD v y <;> cases g <;> cases h <;> rfl
theorem PL.of (p : mQ) (hp : PQ p) (a : p.jw.jJ.length ≤ 30000) (b : p.Client.jJ.length ≤ 30000) : PL p := ⟨hp.o.toPB, hp.c.toPB, a, b, by have := hp.f; unfold Gd; omega⟩
theorem RO (p : mQ) (hp : PQ p) : ∃ r : Int, wi p = some r ∧ 20 * (p.jw.jJ.length : Int) + 20 * (p.Client.jJ.length : Int) ≤ r ∧ r ≤ 10000000000 := by
 have d := hp.go
 have b := hp.gc
 have n := hp.ks
 have a := hp.fs
 obtain ⟨g, j, t, u⟩ := Uh p.jw d
 obtain ⟨h, k, a2, v⟩ := Uh p.Client b
 obtain ⟨i, l, a3, w⟩ := IG p.Formula a
 have m := Uk p.Keys 0 (by omega) (by omega)
 unfold wi
 rw [j, aA, k, aA]
 simp only [aA]
 rw [l, aA, show uo p.Keys [] = _ from m, aA]
 rw [kO (x := g + h) (by omega) (by omega), kO (x := 20 * i) (by omega) (by omega), kO (x := g + h + 20 * i) (by omega) (by omega), kO (by omega) (by omega)]
 exact ⟨_, rfl, by omega, by omega⟩
theorem G1 (n : vP = some true) (a b : mQ) (ha : PQ a) (k : PQ b) : tV a b = some true := by
 obtain ⟨g, l, p, ug⟩ := RO a ha
 obtain ⟨h, m, w, z⟩ := RO b k
 unfold tV
 rw [n, l, m]
 simp only [aA, cJ, aC, aK]
 rw [kO (by omega) (by omega)]
 by_cases j : g + h > 8000
 ·simp only [j, cA, aU]
 ·simp only [j, cD, aC, aK]
  obtain ⟨x, y, t, d⟩ := QA a (PL.of a ha (by omega) (by omega))
  obtain ⟨u, v, s, i⟩ := QA b (PL.of b k (by omega) (by omega))
  obtain ⟨t1, t2⟩ := DN d i
  obtain ⟨t3, t4⟩ := DN i d
  rw [t2, t4, t1, t3, GR d i]
  simp only [aA, aZ, aU]
  cases Ei x y u v t s <;> cases Ei u v x y s t <;> rfl
def JO : ByteArray := ⟨#[115, 104, 111, 112]⟩
def Fc : ByteArray := ⟨#[97, 110, 110]⟩
def CE : ju := ⟨⟨#[103, 111, 118]⟩, ⟨#[105, 100]⟩⟩
def EU : jv := ⟨1, CE, Fc, ⟨zS, zS⟩, ⟨zS, zS⟩, zS⟩
def BJ : mQ := ⟨⟨JO, [], []⟩, ⟨Fc, [], []⟩, zX CE, 0, ⟨0, 0⟩, 0, 0, 0, []⟩
def AL : mQ := ⟨⟨JO, [], []⟩, ⟨Fc, [Hi EU zc], []⟩, zX CE, 0, ⟨0, 0⟩, 0, 0, 0, []⟩
theorem Po : lH EU = true := by decide +kernel
theorem UC : nn (zX CE) = true := by decide +kernel
theorem Bf {n : ByteArray} : PB ⟨n, [], []⟩ where
 Cc := by simp
 GP := by simp
 rel := fun x a => by cases a
 GZ := fun x a => by cases a
 NT := fun x a => by cases a
theorem SL : AH BJ AL = some ⟨#[99, 108, 105, 101, 110, 116, 32, 97, 110, 110, 10, 43, 32, 103, 111, 118, 46, 105, 100, 32, 60, 45, 32, 97, 110, 110, 10]⟩ := by decide +kernel
theorem No : xm ⟨Fc, [], []⟩ ⟨Fc, [], []⟩ = some zS := by decide +kernel
theorem Hm : DQ BJ [] [] false := by
 obtain ⟨x, y, j, e, F, g1, g2⟩ := Iv BJ.jw BJ.Client BJ.Formula Bf Bf (by decide +kernel) (by decide +kernel) (by unfold Gd; decide +kernel)
 obtain rfl : x = [] := fh.2 fun c a => by have := (Ci _ _ _ _).1 ((F.fx c).1 a).1; cases this
 obtain rfl : y = [] := fh.2 fun c a => by have := (Ci _ _ _ _).1 ((F.fy c).1 a).1; cases this
 have b : vA (vD [] BJ.Client.Name) BJ.Formula = false := by
  unfold vA
  show (nn (zX CE) && ph _ (zX CE)) = false
  rw [L8, RW, iB]
 rw [b] at g1 g2
 refine ⟨F.sx, F.sy, ?_, ⟨j, by rw [FO BJ.jw BJ.Client Bf Bf (by decide +kernel) (by decide +kernel), e]⟩, g2⟩
 unfold qc
 rw [e, aA, g1, aA]
theorem Nx : DQ AL [] [EU] true := by
 have hp : PB AL.Client := Sg (by decide +kernel)
 obtain ⟨x, y, j, e, F, g1, g2⟩ := Iv AL.jw AL.Client AL.Formula Bf hp (by decide +kernel) (by decide +kernel) (by unfold Gd; decide +kernel)
 have b : ∀ l peer d, se AL.Client l peer d ↔ d = EU := fun l peer d => P8 Po l peer d
 obtain rfl : x = [] := fh.2 fun c a => by have := (Ci _ _ _ _).1 ((F.fx c).1 a).1; cases this
 obtain rfl : y = [EU] := SU F.sy (fun c a => (b _ _ _).1 ((F.fy c).1 a)) ((F.fy EU).2 ((b _ _ _).2 rfl)) Po
 have g : vA (vD [EU] AL.Client.Name) AL.Formula = true := by
  unfold vA
  show (nn (zX CE) && ph _ (zX CE)) = true
  have := SI Po rfl (l := [EU]) (by simp)
  rw [L8, UC]
  exact this
 rw [g] at g1 g2
 refine ⟨F.sx, F.sy, ?_, ⟨j, by rw [FO AL.jw AL.Client Bf hp (by decide +kernel) (by decide +kernel), e]⟩, g2⟩
 unfold qc
 rw [e, aA, g1, aA]
theorem Rz : vP = some true := by
 have g : FB 1 (0 : Int) 8 = some (List.replicate 8 0) := by unfold FB; rw [bB (by decide)]; rfl
 have h : kV (⟨#[99, 108, 105, 101, 110, 116, 32, 97, 110, 110, 10, 43, 32, 103, 111, 118, 46, 105, 100, 32, 60, 45, 32, 97, 110, 110, 10]⟩ : ByteArray) (⟨#[99, 108, 105, 101, 110, 116, 32, 97, 110, 110, 10, 43, 32, 103, 111, 118, 46, 105, 100, 32, 60, 45, 32, 97, 110, 110, 10]⟩ : ByteArray) = true := tm _
 have i : kV zS zS = true := tm _
 have b : Ei [] [] [] [EU] false true = false := by decide +kernel
 have d : Ei [] [EU] [] [] true false = true := by decide +kernel
 have j : Ei [] [] [] [] false false = true := by decide +kernel
 have m1 := GR Hm Nx
 have m2 := GR Hm Hm
 have t1 := (DN Nx Hm).1
 have t2 := (DN Hm Nx).1
 rw [b, d] at m1
 rw [j] at m2
 rw [d] at t1
 rw [b] at t2
 have a := SL
 have a2 := No
 unfold vP
 rw [g, aA]
 unfold BJ AL zX Hi zc px EU CE JO Fc at a m1 t1 t2
 unfold BJ zX CE JO Fc at m2
 unfold Fc at a2
 rw [a, aA, h, bB rfl, a2, aA, i, aA, bB rfl, m1, aA]
 simp only [aA, dp, fe, Bool.and_true, aU]
 rw [m2]
 simp only [aA, dp, cJ, Bool.and_true, aU]
 rw [t1]
 simp only [aA, aU]
 rw [t2]
 rfl
end Go.Proofs.YtjjjihkifgdhgaaGreatDoor
namespace Go.Proofs.YtjjjihkifgdhgaaGreatDoor.Lf
open Go.ChangeShapes Go.WideShapes Go.ChangeAt Go.RowKit
open Go.Proofs.YtjjjihkifgdhgaaGreatDoor (Rows.uptoBulk Rows.uptoBulkAll Rows.uptoSmall)
theorem Tt {H : Type} (d : DataW H) : 1 ≤ Rows.uptoBulk d := by
 cases d with
 | lit l => cases l <;> simp [Rows.uptoBulk]
 | nil => simp [Rows.uptoBulk]
 | ptr d => simp [Rows.uptoBulk]
 | slice a spare => simp [Rows.uptoBulk]
 | agg parts => simp [Rows.uptoBulk]
 | iface t d => simp [Rows.uptoBulk]
 | map entries => simp [Rows.uptoBulk]
 | held h => simp [Rows.uptoBulk]
def Ii {α : Type} (P : Program) (t : TypeId) (enc : α → List Value) (sz : α → Nat) : Prop :=
 ∀ (H : Type) (b : TypeId × Value → H) (W : World) (base : Nat) (sp : Nat → Bool) (d : Bool) (fuel : Nat) (cs : List Value) (x : DataW H × List MemPlace),
  DataW.trod b P W base sp d fuel t cs = some x → ∃ a : α, cs = enc a ∧ sz a ≤ Rows.uptoBulk x.1
theorem M0 {P : Program} {t : TypeId} (a : P.underlying t = some .string) : Ii P t (fun s : ByteArray => [.string s]) (fun s => s.size) := by
 intro H b W base sp d fuel cs x h
 obtain ⟨s, rfl, rfl, _⟩ := DataW.trod_string a h
 refine ⟨s, rfl, ?_⟩
 have e : s.data.toList.length = s.size := by rw [dv]; rfl
 simp [Rows.uptoBulk, e]
theorem Rh {P : Program} {t : TypeId} {k : IntKind} (a : P.underlying t = some (.int k)) : Ii P t (fun n : Int => [.int k n]) (fun _ => 0) := by
 intro H b W base sp d fuel cs x h
 obtain ⟨n, rfl, rfl, _⟩ := DataW.trod_int a h
 exact ⟨n, rfl, ez _⟩
theorem RC {α : Type} {n : Nat} {p : Nat → α → Prop} (h : ∀ i, i < n → ∃ x, p i x) : ∃ l : List α, l.length = n ∧ ∀ i x, l[i]? = some x → p i x := by
 induction n with
 | zero => exact ⟨[], rfl, by simp⟩
 | succ n ih =>
  obtain ⟨l, h1, d⟩ := ih fun i b => h i (by omega)
  obtain ⟨x, j⟩ := h n (by omega)
  refine ⟨l ++ [x], by simp [h1], fun i y a => ?_⟩
  by_cases b : i < l.length
  ·rw [fM b] at a
   exact d i y a
  ·rw [eK (by omega)] at a
   have : i - l.length = 0 := by
    cases g : i - l.length with
    | zero => rfl
    | succ m => rw [g] at a; simp at a
   rw [this] at a
   have e : i = n := by omega
   simp at a
   subst a; rw [e]; exact j
theorem Ko {W : World} {a : Addr} {v : Value} (h : W.cell? a = some v) : ∃ cs T fr, W.heap[a.block]? = some (.cells cs T fr) ∧ a.spot = none ∧ cs[a.off]? = some v := by
 unfold World.cell? at h
 split at h
 ·rename_i c T fr d
  by_cases b : a.spot.isSome
  ·simp [b] at h
  ·simp only [b] at h
   exact ⟨c, T, fr, d, by simpa using b, by simpa using h⟩
 ·cases h
theorem Ex.below {dd : Bool} {W W' : World} (h : Ex dd W W') : Below W.heap.size W W' := ⟨h.os, h.tape, h.output, h.size, h.lZ⟩
theorem En {H : Type} {k : TypeId × Value → H} {P : Program} (m : laidOutB P = true) {W W' : World} {b : Nat → Bool} :
  ∀ {i : List TypeId} {vs : List Value} {ds : List (DataW H)} {g : List MemPlace}, (∀ t ∈ i, P.readableRec t = true ∧ t < P.types.size) →
   DataW.TrodAll k P W 0 (fun _ => true) true i vs ds g → (∀ p ∈ g, W.sameAt W' p) → (∀ p ∈ g, b p.block = true) → DataW.TrodAll k P W' 0 b true i vs ds g
 | [], _, _, _, _, h, _, _ => by
  obtain ⟨rfl, rfl, rfl⟩ := trodAll_nil h
  exact trodAll_mk0
 | t :: i, _, _, _, j, h, h1, l => by
  obtain ⟨v, vs, d, ds, p, q, rfl, rfl, rfl, n, w⟩ := trodAll_cons h
  exact trodAll_cons_mk (WideElems.Trod_stays m (j t (by simp)).1 (j t (by simp)).2 n (fun x a => h1 x (by simp [a])) (fun x a => l x (by simp [a])))
   (En m (fun u hu => j u (by simp [hu])) w (fun x a => h1 x (by simp [a])) (fun x a => l x (by simp [a])))
theorem MU {H : Type} {enc : TypeId × Value → H} {P : Program} (M : laidOutB P = true) {f : Func} {s : ChangeSpec} {apart fresh handsOn again : Bool} {W W' : World} {args : Array Value} {v : Value} {ds gs : List (DataW H)} {before : List MemPlace} (Q : ∀ t ∈ f.params.toList, P.readableRec t = true ∧ t < P.types.size) (m : s.vars = []) (u : DataW.Whole enc P f.params.toList s.vars apart W args.toList ds gs before) {dd : Bool} (G : Ex dd W W') (a : ∀ (b : Nat) (sp : Nat → Bool) (L : Bool), DataW.TrodAll enc P W' b sp L f.resultTypes.toList (v.resultList f.resultTypes.size) (s.fn H (ds ++ gs)).results []) (d : (s.fn H (ds ++ gs)).args = ds) (h : (s.fn H (ds ++ gs)).vars = []) (A : ∀ (j : Nat) (t : TypeId) (r : Value), f.resultTypes[j]? = some t → (v.resultList f.resultTypes.size)[j]? = some r → Value.okWide P W' .any 0 t r) :
  s.post enc P f apart fresh handsOn again W args v W' := by
 have g := u.lt
 have hold : ∀ p ∈ before, (fun b => decide (b < W.heap.size)) p.block = true := fun p hp => by simpa using g p hp
 have z := Ex.below G
 have y := u
 obtain ⟨p, q, J, I, k, R, O⟩ := u
 rw [m] at I
 obtain ⟨rfl, rfl⟩ := trodVars_none I
 rw [bI] at k
 subst k
 have l : ∀ sp : Nat → Bool, (∀ p ∈ before, sp p.block = true) → DataW.TrodAll enc P W' 0 sp true f.params.toList args.toList (s.fn H (ds ++ [])).args before := fun sp E => by
  rw [d]
  exact En M Q J (fun x G => z.same (g x G)) E
 have n : ∀ sp : Nat → Bool, DataW.TrodVars enc P W' sp s.vars (s.fn H (ds ++ [])).vars [] := fun sp => by
  rw [h, m]; rfl
 refine ⟨ds, [], before, [], before, [], y, a _ _ _, l _ hold, n _, World.keptBut_mono (fun p hp => ⟨hp, ?_⟩) (z.frame (· ∈ before)), fun _ => ?_⟩
 ·exact Or.inr (Or.inl hp)
 ·refine ⟨A, _, _, ([] ++ before) ++ [], ⟨[] ++ before, [], trodAll_append (l _ (fun _ _ => rfl)) (a _ _ _), n _, rfl, ?_, ?_⟩, ?_⟩
  ·intro b off hp
   have i : MemPlace.cell b off ∈ before := by simpa using hp
   rw [World.frozen?_of_block (w := W) (z.block b (g _ i))]
   exact R b off i
  ·intro ha
   simpa using O ha
  ·intro p hp _
   simpa using hp
end Go.Proofs.YtjjjihkifgdhgaaGreatDoor.Lf
namespace Go.Proofs.YtjjjihkifgdhgaaGreatDoor.Lf
open Go.ChangeShapes Go.WideShapes Go.ChangeAt Go.RowKit
open Go.Proofs.YtjjjihkifgdhgaaGreatDoor (Rows.uptoBulk Rows.uptoBulkAll Rows.uptoSmall)
def FI {α : Type} (P : Program) (t : TypeId) (R : qe α) (sz : α → Nat) : Prop :=
 ∀ (H : Type) (b : TypeId × Value → H) (W : World) (base : Nat) (sp : Nat → Bool) (d : Bool) (fuel : Nat) (cs : List Value) (x : DataW H × List MemPlace),
  DataW.trod b P W base sp d fuel t cs = some x → ∃ a : α, R (hp W) cs a ∧ sz a ≤ Rows.uptoBulk x.1
theorem Ii.rel {α : Type} {P : Program} {t : TypeId} {enc : α → List Value} {sz : α → Nat} (h : Ii P t enc sz) : FI P t (Pl enc) sz := fun H a W base sp b fuel cs x d => h H a W base sp b fuel cs x d
end Go.Proofs.YtjjjihkifgdhgaaGreatDoor.Lf
namespace Go.Proofs.YtjjjihkifgdhgaaGreatDoor.Lf
open Go.ChangeShapes Go.WideShapes Go.ChangeAt Go.RowKit
open Go.Proofs.YtjjjihkifgdhgaaGreatDoor (Rows.uptoBulk Rows.uptoBulkAll Rows.uptoSmall)
theorem GH {H : Type} : ∀ l : List (DataW H), Rows.uptoBulkAll l = (l.map Rows.uptoBulk).sum
 | [] => by simp [Rows.uptoBulkAll]
 | d :: l => by simp [Rows.uptoBulkAll, GH l]
theorem Oh {α : Type} (g : α → Nat) : ∀ (n : Nat) (f : Nat → Nat) {l : List α}, l.length = n → (∀ i x, l[i]? = some x → g x ≤ f i) → (l.map g).sum ≤ ((List.range n).map f).sum
 | 0, f, l, b, h => by
  obtain rfl := eb.1 b
  simp
 | n + 1, f, [], b, h => by cases b
 | n + 1, f, a :: l, b, h => by
  rw [List.range_succ_eq_map, bL, bL, eW, eW, eE]
  have h1 := h 0 a rfl
  have j := Oh g n (f ∘ Nat.succ) (l := l) (by simpa using b) (fun i x d => h (i + 1) x (by simpa using d))
  omega
def rY {α : Type} (sz : α → Nat) (l : List α) : Nat := (l.map fun a => max 1 (sz a)).sum
theorem Dl {α : Type} (sz : α → Nat) : ∀ l : List α, l.length ≤ rY sz l
 | [] => aX _
 | a :: l => by have := Dl sz l; simp only [rY, bL, eW, aQ] at this ⊢; omega
theorem Ic {α : Type} {sz : α → Nat} : ∀ {l : List α} {a : α}, a ∈ l → sz a ≤ rY sz l
 | b :: l, a, h => by
  simp only [rY, bL, eW]
  rcases aR.1 h with rfl | h
  ·omega
  ·have := Ic (sz := sz) h; simp only [rY] at this; omega
theorem Gp {α : Type} {P : Program} {t e : TypeId} {k : Nat} {R : qe α} {sz : α → Nat} (hk : P.cellsOf e = k) (Y : 0 < k) (ht : P.underlying t = some (.slice e)) {H : Type} {eh : TypeId × Value → H} {W : World} {base : Nat} {sp : Nat → Bool} {held : Bool} {fuel : Nat} {cs : List Value} {x : DataW H × List MemPlace} (hd : ∀ (fuel : Nat) (cs : List Value) (y : DataW H × List MemPlace), DataW.trod eh P W base sp held fuel e cs = some y → SizeOf.sizeOf y.1 < SizeOf.sizeOf x.1 → ∃ a : α, R (hp W) cs a ∧ sz a ≤ Rows.uptoBulk y.1) (hf : DataW.trod eh P W base sp held fuel t cs = some x) :
  ∃ v l, cs = [v] ∧ Sl R k (hp W) v l ∧ rY sz l ≤ Rows.uptoBulk x.1 := by
 rcases Go.Deep.open_slice ht hf with ⟨rfl, rfl⟩ | ⟨a, ln, cp, m, n, D, Q, rfl, hb, hl, hm, a1, rfl, O⟩
 ·exact ⟨_, [], rfl, ⟨none, 0, rfl, aX _, ez _, fun h => absurd h (Nat.lt_irrefl _)⟩, ez _⟩
 ·have ae : ln ≤ m := by rw [a1]; split <;> omega
  have hB : ((List.range ln).map fun i => Rows.uptoBulk (D i)).sum ≤ Rows.uptoBulk (DataW.slice ((List.range ln).map D) ((List.range (m - ln)).map fun j => D (ln + j))) := by
   simp only [Rows.uptoBulk]
   rw [GH, eE]
   have e : ((List.range ln).map fun i => Rows.uptoBulk (D i)) = (List.range ln).map (Rows.uptoBulk ∘ D) := rfl
   rw [e]
   omega
  have hS : ∀ i, i < ln → SizeOf.sizeOf (D i) < SizeOf.sizeOf (DataW.slice ((List.range ln).map D) ((List.range (m - ln)).map fun j => D (ln + j))) := fun i U => by
   have := List.sizeOf_lt_of_mem (bJ.2 ⟨i, List.mem_range.2 U, rfl⟩ : D i ∈ (List.range ln).map D)
   rw [DataW.slice.sizeOf_spec]; omega
  simp only at hd ⊢
  generalize Rows.uptoBulk (DataW.slice ((List.range ln).map D) ((List.range (m - ln)).map fun j => D (ln + j))) = B at hB
  obtain ⟨l, Z, z⟩ := RC (α := α) (n := ln) (p := fun i x => ∃ b, W.cells? base (a.add (i * k)) k = some b ∧ R (hp W) b x ∧ sz x ≤ Rows.uptoBulk (D i)) fun i U => by
   obtain ⟨b, h1, I⟩ := O i (by omega)
   obtain ⟨x, hR, J⟩ := hd _ _ _ I (hS i U)
   rw [hk] at h1
   exact ⟨x, b, h1, hR, J⟩
  subst Z
  refine ⟨_, l, rfl, ⟨some a, cp, rfl, hl, hm, fun h0 => ?_⟩, ?_⟩
  ·have d : ∀ i x, l[i]? = some x → ∃ b, R (hp W) b x ∧ b.length = k ∧ ∀ j, j < k → W.cell? ((a.add (i * k)).add j) = b[j]? := fun i x A =>
    let ⟨b, h1, I, _⟩ := z i x A
    let ⟨_, J, h4⟩ := World.cells?_some h1
    ⟨b, I, J, h4⟩
   obtain ⟨a8, _, h4, h5⟩ := d 0 l[0] (by simp [h0])
   have L := h5 0 Y
   rw [Nat.zero_mul, cX (by omega)] at L
   have e0 : (a.add 0).add 0 = a := rfl
   rw [e0] at L
   obtain ⟨cs, T, fr, M, h8, _⟩ := Ko L
   obtain ⟨E, G, a7⟩ := a
   simp only at M h8
   subst h8
   refine ⟨E, G, cs, T, fr, rfl, M, fun i x A => ?_⟩
   obtain ⟨b, gR, g1, g2⟩ := d i x A
   refine ⟨b, g1, gR, fun j y hy => ?_⟩
   have hj : j < k := by
    rw [← g1]
    exact (bF.1 hy).1
   have h9 := g2 j hj
   rw [Go.Deep.add_add, hy] at h9
   obtain ⟨a6, T', aa, g, ad, u⟩ := Ko h9
   have w : (Addr.add ⟨E, G, none⟩ (i * k + j)).block = E ∧ (Addr.add ⟨E, G, none⟩ (i * k + j)).off = G + (i * k + j) := by
    unfold Addr.add
    split
    ·rename_i hz
     rw [hz]; exact ⟨rfl, rfl⟩
    ·exact ⟨rfl, rfl⟩
   rw [w.1, M] at g
   cases g
   rw [w.2, ← ev] at u
   exact u
  ·refine dq (Oh _ _ _ rfl fun i x A => ?_) hB
   exact Nat.max_le.2 ⟨Tt _, (z i x A).elim fun _ h => h.2.2⟩
theorem oD {α : Type} {P : Program} {t e : TypeId} {k : Nat} {R : qe α} {sz : α → Nat} (hk : P.cellsOf e = k) (a : 0 < k) (d : FI P e R sz) (i : P.underlying t = some (.slice e)) {H : Type} {b : TypeId × Value → H} {W : World} {base : Nat} {sp : Nat → Bool} {held : Bool} {fuel : Nat} {cs : List Value} {x : DataW H × List MemPlace} (g : DataW.trod b P W base sp held fuel t cs = some x) :
  ∃ v l, cs = [v] ∧ Sl R k (hp W) v l ∧ rY sz l ≤ Rows.uptoBulk x.1 := Gp hk a i (fun _ _ _ h _ => d _ _ _ _ _ _ _ _ _ h) g
end Go.Proofs.YtjjjihkifgdhgaaGreatDoor.Lf
namespace Go.Proofs.YtjjjihkifgdhgaaGreatDoor.Lf
open Go.ChangeShapes Go.WideShapes Go.ChangeAt Go.RowKit
open Go.Proofs.YtjjjihkifgdhgaaGreatDoor (Rows.uptoBulk Rows.uptoBulkAll Rows.uptoSmall)
def Mw {α : Type} (R : qe α) (Q : α → Prop) : qe α := fun μ ys x => R μ ys x ∧ Q x
theorem Sl.all {α : Type} {R : qe α} {Q : α → Prop} {k : Nat} {μ : km} {v : Value} {l : List α} (h : Sl (Mw R Q) k μ v l) : Sl R k μ v l ∧ ∀ x ∈ l, Q x := by
 obtain ⟨A, c, rfl, h1, j, t⟩ := h
 cases l with
 | nil => exact ⟨⟨A, c, rfl, h1, j, fun h => absurd h (by simp)⟩, by simp⟩
 | cons a l =>
  obtain ⟨b, o, cs, T, fr, e, u, m⟩ := t (by simp)
  refine ⟨⟨A, c, rfl, h1, j, fun _ => ⟨b, o, cs, T, fr, e, u, fun i x g => ?_⟩⟩, fun x g => ?_⟩
  ·obtain ⟨ys, n, d, p⟩ := m i x g
   exact ⟨ys, n, d.1, p⟩
  ·obtain ⟨i, w⟩ := List.mem_iff_getElem?.1 g
   obtain ⟨ys, n, d, p⟩ := m i x w
   exact d.2
theorem Rj {P : Program} {t : TypeId} (a : P.underlying t = some (.int .u8)) : FI P t (Mw (Pl (kN .u8)) (fun x => 0 ≤ x ∧ x < 256)) (fun _ => 0) := by
 intro H b W base sp d fuel cs x h
 obtain ⟨n, rfl, rfl, hw⟩ := DataW.trod_int a h
 refine ⟨n, ⟨rfl, ?_⟩, ez _⟩
 simp [Lit.wf, IntKind.min, IntKind.max, IntKind.bits, IntKind.signed] at hw
 omega
end Go.Proofs.YtjjjihkifgdhgaaGreatDoor.Lf
namespace Go.Proofs.YtjjjihkifgdhgaaGreatDoor
open Go.Proofs.Tryz renaming prog → pg0
set_option maxRecDepth 10000
open Go.ChangeShapes Go.WideShapes Go.ChangeAt Go.RowKit
open Go.Proofs.YtjjjihkifgdhgaaGreatDoor Go.Proofs.YtjjjihkifgdhgaaGreatDoor.Lf
def gy := @Tryz.underlying34
def gz := @Tryz.underlying25
def gA := @Tryz.underlying22
def gB := @Tryz.underlying23
theorem Mf : Tryz.prog.cellsOf 34 = 18 := by kernel_rfl
theorem O3 {α : Type} {l : List α} (h : l.length = 9) : ∃ a0 a a2 a3 a4 a5 b d g, l = [a0, a, a2, a3, a4, a5, b, d, g] := by
 match l, h with
 | [a0, a, a2, a3, a4, a5, b, d, g], _ => exact ⟨a0, a, a2, a3, a4, a5, b, d, g, rfl⟩
theorem QD {α : Type} {l : List α} (h : l.length = 18) : ∃ a0 k a2 a3 a4 a5 m n p a9 a b a12 d g i j a17, l = [a0, k, a2, a3, a4, a5, m, n, p, a9, a, b, a12, d, g, i, j, a17] := by
 match l, h with
 | [a0, k, a2, a3, a4, a5, m, n, p, a9, a, b, a12, d, g, i, j, a17], _ => exact ⟨a0, k, a2, a3, a4, a5, m, n, p, a9, a, b, a12, d, g, i, j, a17, rfl⟩
theorem ML : Tryz.prog.cellsOf 25 = 3 := by kernel_rfl
theorem Lg {α : Type} {l : List α} (h : l.length = 3) : ∃ a0 a a2, l = [a0, a, a2] := by
 match l, h with
 | [a0, a, a2], _ => exact ⟨a0, a, a2, rfl⟩
theorem Bw : Tryz.prog.cellsOf 9 = 1 := by kernel_rfl
theorem DS : Ii pg0 9 (fun s : ByteArray => [.string s]) (fun s => s.size) := M0 Tryz.underlying9
theorem FL : Tryz.prog.cellsOf 22 = 1 := by kernel_rfl
theorem Di : Tryz.prog.cellsOf 57 = 15 := by kernel_rfl
theorem Ft {α : Type} {l : List α} (h : l.length = 2) : ∃ a0 a, l = [a0, a] := by
 match l, h with
 | [a0, a], _ => exact ⟨a0, a, rfl⟩
theorem TA {α : Type} {l : List α} (h : l.length = 15) : ∃ a0 i a2 a3 a4 a5 j k m a9 a b a12 d g, l = [a0, i, a2, a3, a4, a5, j, k, m, a9, a, b, a12, d, g] := by
 match l, h with
 | [a0, i, a2, a3, a4, a5, j, k, m, a9, a, b, a12, d, g], _ => exact ⟨a0, i, a2, a3, a4, a5, j, k, m, a9, a, b, a12, d, g, rfl⟩
theorem RG : Tryz.prog.cellsOf 55 = 10 := by kernel_rfl
theorem IE : Tryz.prog.cellsOf 52 = 9 := by kernel_rfl
theorem zL : Ii pg0 3 (fun n : Int => [.int .i64 n]) (fun _ => 0) := Rh Tryz.underlying3
theorem E3 : Tryz.prog.cellsOf 3 = 1 := by kernel_rfl
theorem FK : Tryz.prog.cellsOf 27 = 2 := by kernel_rfl
def xV (x : ju) : Nat := x.jw.size + x.Word.size
theorem HA : Ii pg0 27 jE xV := by
 intro H g W base sp j fuel cs x h
 obtain ⟨xs, n, _, rfl, p, hlen, k⟩ := dn Tryz.underlying27 h
 obtain ⟨u, v, rfl⟩ := Ft hlen
 obtain ⟨a, c1, rfl⟩ := Ft (p.trans FK)
 have i : DataW.trod g pg0 W base sp j n 9 (([a, c1].drop 0).take (Tryz.prog.cellsOf 9)) = some u := k 0 _ rfl
 have h1 : DataW.trod g pg0 W base sp j n 9 (([a, c1].drop 1).take (Tryz.prog.cellsOf 9)) = some v := k 1 _ rfl
 simp only [Bw, List.drop, List.take] at i h1
 obtain ⟨t, b, l⟩ := DS _ _ _ _ _ _ _ _ _ i
 obtain ⟨s1, d, m⟩ := DS _ _ _ _ _ _ _ _ _ h1
 simp only [aS, cK] at b d
 obtain rfl := b
 obtain rfl := d
 refine ⟨⟨t, s1⟩, rfl, ?_⟩
 simp only [List.map, Rows.uptoBulk, Rows.uptoBulkAll, xV] at l m ⊢
 omega
theorem Us {α : Type} {l : List α} (h : l.length = 6) : ∃ a0 a a2 a3 a4 a5, l = [a0, a, a2, a3, a4, a5] := by
 match l, h with
 | [a0, a, a2, a3, a4, a5], _ => exact ⟨a0, a, a2, a3, a4, a5, rfl⟩
def vr (x : jv) : Nat := xV x.Head + x.kE.size + xV x.B + xV x.C + x.kL.size
theorem Qq : Ii pg0 52 jz vr := by
 intro H l W base sp m fuel cs x h
 obtain ⟨xs, n, _, rfl, T, hlen, p⟩ := dn Tryz.underlying52 h
 obtain ⟨y0, y1, y2, y3, y4, y5, rfl⟩ := Us hlen
 obtain ⟨a, c1, c2, b, d, g, i, j, k, rfl⟩ := O3 (T.trans IE)
 have A : DataW.trod l pg0 W base sp m n 3 (([a, c1, c2, b, d, g, i, j, k].drop 0).take (Tryz.prog.cellsOf 3)) = some y0 := p 0 _ rfl
 have h1 : DataW.trod l pg0 W base sp m n 27 (([a, c1, c2, b, d, g, i, j, k].drop 1).take (Tryz.prog.cellsOf 27)) = some y1 := p 1 _ rfl
 have E : DataW.trod l pg0 W base sp m n 9 (([a, c1, c2, b, d, g, i, j, k].drop 3).take (Tryz.prog.cellsOf 9)) = some y2 := p 2 _ rfl
 have G : DataW.trod l pg0 W base sp m n 27 (([a, c1, c2, b, d, g, i, j, k].drop 4).take (Tryz.prog.cellsOf 27)) = some y3 := p 3 _ rfl
 have I : DataW.trod l pg0 W base sp m n 27 (([a, c1, c2, b, d, g, i, j, k].drop 6).take (Tryz.prog.cellsOf 27)) = some y4 := p 4 _ rfl
 have J : DataW.trod l pg0 W base sp m n 9 (([a, c1, c2, b, d, g, i, j, k].drop 8).take (Tryz.prog.cellsOf 9)) = some y5 := p 5 _ rfl
 simp only [FK, E3, Bw, List.drop, List.take] at A h1 E G I J
 obtain ⟨U, t, L⟩ := zL _ _ _ _ _ _ _ _ _ A
 obtain ⟨s1, u, M⟩ := HA _ _ _ _ _ _ _ _ _ h1
 obtain ⟨s2, v, O⟩ := DS _ _ _ _ _ _ _ _ _ E
 obtain ⟨Y, w, P⟩ := HA _ _ _ _ _ _ _ _ _ G
 obtain ⟨Z, y, Q⟩ := HA _ _ _ _ _ _ _ _ _ I
 obtain ⟨s5, z, R⟩ := DS _ _ _ _ _ _ _ _ _ J
 simp only [jE, aS, cK] at t u v w y z
 obtain rfl := t
 obtain ⟨rfl, rfl⟩ := u
 obtain rfl := v
 obtain ⟨rfl, rfl⟩ := w
 obtain ⟨rfl, rfl⟩ := y
 obtain rfl := z
 refine ⟨⟨U, s1, s2, Y, Z, s5⟩, rfl, ?_⟩
 simp only [List.map, Rows.uptoBulk, Rows.uptoBulkAll, vr] at L M O P Q R ⊢
 omega
theorem LQ : Tryz.prog.cellsOf 53 = 1 := by kernel_rfl
theorem N6 : Tryz.prog.cellsOf 5 = 1 := by kernel_rfl
theorem QB : FI pg0 5 (Mw (Pl (kN .u8)) (fun x => 0 ≤ x ∧ x < 256)) (fun _ => 0) := Rj Tryz.underlying5
theorem Bh : Tryz.prog.cellsOf 30 = 5 := by kernel_rfl
theorem UG {α : Type} {l : List α} (h : l.length = 4) : ∃ a0 a a2 a3, l = [a0, a, a2, a3] := by
 match l, h with
 | [a0, a, a2, a3], _ => exact ⟨a0, a, a2, a3, rfl⟩
theorem UF {α : Type} {l : List α} (h : l.length = 5) : ∃ a0 a a2 a3 a4, l = [a0, a, a2, a3, a4] := by
 match l, h with
 | [a0, a, a2, a3, a4], _ => exact ⟨a0, a, a2, a3, a4, rfl⟩
theorem QL : Tryz.prog.cellsOf 28 = 1 := by kernel_rfl
theorem Ux {H : Type} {x : DataW H × List MemPlace} {ys : List (DataW H × List MemPlace)} {p : List MemPlace} (a : x = (.agg (ys.map (·.1)), p)) (i : Nat) {y : DataW H × List MemPlace} (h : ys[i]? = some y) : SizeOf.sizeOf y.1 < SizeOf.sizeOf x.1 := by
 subst a
 have := List.sizeOf_lt_of_mem (bJ.2 ⟨y, cY h, rfl⟩ : y.1 ∈ ys.map (·.1))
 simp only [DataW.agg.sizeOf_spec]; omega
theorem Ks : ∀ l : List Formula, szFL l ≤ rY zt l
 | [] => aX _
 | k :: l => by have := Ks l; rw [szFL]; simp only [rY, bL, eW] at this ⊢; omega
theorem Tj : ∀ (N : Nat) (H : Type) (P : TypeId × Value → H) (W : World) (base : Nat) (sp : Nat → Bool) (Q : Bool) (fuel : Nat) (cs : List Value) (x : DataW H × List MemPlace),
  DataW.trod P pg0 W base sp Q fuel 30 cs = some x → SizeOf.sizeOf x.1 < N → ∃ a : Formula, jx (hp W) cs a ∧ zt a ≤ Rows.uptoBulk x.1 := by
 intro N
 induction N with
 | zero => intro _ _ _ _ _ _ _ _ _ _ h; exact absurd h (Nat.not_lt_zero _)
 | succ N ih =>
  intro H P W base sp Q fuel cs x h hN
  obtain ⟨a1, G, _, u, I, t, k⟩ := dn Tryz.underlying30 h
  obtain ⟨v, w, A, E, rfl⟩ := UG t
  obtain ⟨b, d, g, i, j, rfl⟩ := UF (I.trans Bh)
  have l : DataW.trod _ pg0 W _ _ _ G 3 (([b, d, g, i, j].drop 0).take (Tryz.prog.cellsOf 3)) = some v := k 0 _ rfl
  have m : DataW.trod _ pg0 W _ _ _ G 3 (([b, d, g, i, j].drop 1).take (Tryz.prog.cellsOf 3)) = some w := k 1 _ rfl
  have n : DataW.trod _ pg0 W _ _ _ G 27 (([b, d, g, i, j].drop 2).take (Tryz.prog.cellsOf 27)) = some A := k 2 _ rfl
  have p : DataW.trod _ pg0 W _ _ _ G 28 (([b, d, g, i, j].drop 4).take (Tryz.prog.cellsOf 28)) = some E := k 3 _ rfl
  simp only [FK, QL, E3, List.drop, List.take] at l m n p
  obtain ⟨s2, J, U⟩ := zL _ _ _ _ _ _ _ _ _ l
  simp only [aS, cK] at J
  obtain rfl := J
  obtain ⟨s3, L, Y⟩ := zL _ _ _ _ _ _ _ _ _ m
  simp only [aS, cK] at L
  obtain rfl := L
  obtain ⟨s4, M, Z⟩ := HA _ _ _ _ _ _ _ _ _ n
  simp only [jE, aS, cK] at M
  obtain ⟨rfl, rfl⟩ := M
  obtain ⟨v5, R, O, q5, b5⟩ := Gp Bh (by decide) Tryz.underlying28 (fun f cs y h hz => ih _ _ _ _ _ _ _ _ _ h (by have := Ux u 3 rfl; omega)) p
  simp only [aS, cK] at O
  obtain rfl := O
  have T := bA (fun z => Rows.uptoBulk z.1) u
  refine ⟨⟨s2, s3, s4, R⟩, jx.mk ⟨_, rfl, q5⟩, ?_⟩
  have hz := Ks R
  simp only [List.map, Rows.uptoBulk, Rows.uptoBulkAll, xV] at U Y Z b5 T ⊢
  rw [KK]
  simp only
  omega
theorem Hv : FI pg0 30 jx zt := fun H a W base sp b fuel cs x h => Tj _ H a W base sp b fuel cs x h (bG _)
def uJ (x : ke) : Nat := vr x.Signed.jv + rY (fun _ : Int => 0) x.Signed.Tag + 1 + zt x.jC + 1
def ON (x : ke) : Prop := (∀ y ∈ x.Signed.Tag, 0 ≤ y ∧ y < 256)
theorem HH : FI pg0 57 (Mw jU ON) uJ := by
 intro H eh W base sp hd fuel cs x h
 obtain ⟨aa, n6, _, a1, Z, I, O⟩ := dn Tryz.underlying57 h
 obtain ⟨Q, R, rfl⟩ := Ft I
 obtain ⟨a, b, d, g, i, j, k, l, m, n, p, t, u, v, w, rfl⟩ := TA (Z.trans Di)
 have y : DataW.trod _ pg0 W _ _ _ n6 55 (([a, b, d, g, i, j, k, l, m, n, p, t, u, v, w].drop 0).take (Tryz.prog.cellsOf 55)) = some Q := O 0 _ rfl
 have A : DataW.trod _ pg0 W _ _ _ n6 30 (([a, b, d, g, i, j, k, l, m, n, p, t, u, v, w].drop 10).take (Tryz.prog.cellsOf 30)) = some R := O 1 _ rfl
 simp only [Bh, RG, List.drop, List.take] at y A
 obtain ⟨ab, n7, _, a6, a8, J, P⟩ := dn Tryz.underlying55 y
 obtain ⟨T, U, rfl⟩ := Ft J
 have E : DataW.trod _ pg0 W _ _ _ n7 52 (([a, b, d, g, i, j, k, l, m, n].drop 0).take (Tryz.prog.cellsOf 52)) = some T := P 0 _ rfl
 have G : DataW.trod _ pg0 W _ _ _ n7 53 (([a, b, d, g, i, j, k, l, m, n].drop 9).take (Tryz.prog.cellsOf 53)) = some U := P 1 _ rfl
 simp only [IE, LQ, List.drop, List.take] at E G
 obtain ⟨s8, e8, b8⟩ := Qq _ _ _ _ _ _ _ _ _ E
 simp only [jz, jE, aS, cK] at e8
 obtain ⟨rfl, rfl, rfl, rfl, rfl, rfl, rfl, rfl, rfl⟩ := e8
 obtain ⟨v9, s9, e9, q9, b9⟩ := oD N6 (by decide) QB Tryz.underlying53 G
 simp only [aS, cK] at e9
 obtain rfl := e9
 obtain ⟨q9, g9⟩ := Lf.Sl.all q9
 have b7 := bA (fun z => Rows.uptoBulk z.1) a6
 obtain ⟨a7, L, Y⟩ := Hv _ _ _ _ _ _ _ _ _ A
 obtain ⟨v10, M, L⟩ := L.out
 simp only [aS, cK] at M
 obtain ⟨rfl, rfl, rfl, rfl, rfl⟩ := M
 have b6 := bA (fun z => Rows.uptoBulk z.1) a1
 refine ⟨⟨⟨s8, s9⟩, a7⟩, ⟨jU.mk ⟨_, _, rfl, q9, L⟩, g9⟩, ?_⟩
 simp only [List.map, Rows.uptoBulk, Rows.uptoBulkAll, uJ] at b8 b9 b7 Y b6 ⊢
 omega
theorem FT : Tryz.prog.cellsOf 23 = 1 := by kernel_rfl
theorem BB : Tryz.prog.cellsOf 132 = 8 := by kernel_rfl
theorem UK {α : Type} {l : List α} (h : l.length = 8) : ∃ a0 a a2 a3 a4 a5 b d, l = [a0, a, a2, a3, a4, a5, b, d] := by
 match l, h with
 | [a0, a, a2, a3, a4, a5, b, d], _ => exact ⟨a0, a, a2, a3, a4, a5, b, d, rfl⟩
theorem RA : Tryz.prog.cellsOf 45 = 1 := by kernel_rfl
def yk (x : mj) : Nat := xV x.ju + zt x.jC + rY vr x.me + 1
def TX (x : mj) : Prop := True
theorem FW : FI pg0 132 (Mw kH TX) yk := by
 intro H eh W base sp hd fuel cs x h
 obtain ⟨Z, n11, _, L, J, u, t⟩ := dn Tryz.underlying132 h
 obtain ⟨w, y, A, rfl⟩ := Lg u
 obtain ⟨a, b, d, g, i, j, k, l, rfl⟩ := UK (J.trans BB)
 have m : DataW.trod _ pg0 W _ _ _ n11 27 (([a, b, d, g, i, j, k, l].drop 0).take (Tryz.prog.cellsOf 27)) = some w := t 0 _ rfl
 have n : DataW.trod _ pg0 W _ _ _ n11 30 (([a, b, d, g, i, j, k, l].drop 2).take (Tryz.prog.cellsOf 30)) = some y := t 1 _ rfl
 have p : DataW.trod _ pg0 W _ _ _ n11 45 (([a, b, d, g, i, j, k, l].drop 7).take (Tryz.prog.cellsOf 45)) = some A := t 2 _ rfl
 simp only [FK, Bh, RA, List.drop, List.take] at m n p
 obtain ⟨T, E, O⟩ := HA _ _ _ _ _ _ _ _ _ m
 simp only [jE, aS, cK] at E
 obtain ⟨rfl, rfl⟩ := E
 obtain ⟨U, v, P⟩ := Hv _ _ _ _ _ _ _ _ _ n
 obtain ⟨a1, G, v⟩ := v.out
 simp only [aS, cK] at G
 obtain ⟨rfl, rfl, rfl, rfl, rfl⟩ := G
 obtain ⟨a6, Y, I, R, Q⟩ := oD IE (by decide) Qq.rel Tryz.underlying45 p
 simp only [aS, cK] at I
 obtain rfl := I
 have M := bA (fun z => Rows.uptoBulk z.1) L
 refine ⟨⟨T, U, Y⟩, ⟨kH.mk ⟨_, _, rfl, v, R⟩, trivial⟩, ?_⟩
 simp only [List.map, Rows.uptoBulk, Rows.uptoBulkAll, yk] at O P Q M ⊢
 omega
theorem IS : Tryz.prog.cellsOf 31 = 2 := by kernel_rfl
def FG (x : sr) : Nat := 0
theorem Qx : Ii pg0 31 D2 FG := by
 intro H g W base sp j fuel cs x h
 obtain ⟨xs, n, _, rfl, p, hlen, k⟩ := DataW.trod_array Tryz.underlying31 h
 obtain ⟨u, v, rfl⟩ := Ft hlen
 obtain ⟨a, c1, rfl⟩ := Ft (p.trans IS)
 have i : DataW.trod g pg0 W base sp j n 3 (([a, c1].drop (0 * Tryz.prog.cellsOf 3)).take (Tryz.prog.cellsOf 3)) = some u := k 0 (by decide)
 have h1 : DataW.trod g pg0 W base sp j n 3 (([a, c1].drop (1 * Tryz.prog.cellsOf 3)).take (Tryz.prog.cellsOf 3)) = some v := k 1 (by decide)
 simp only [E3, List.drop, List.take, Nat.reduceMul] at i h1
 obtain ⟨t, b, l⟩ := zL _ _ _ _ _ _ _ _ _ i
 obtain ⟨s1, d, m⟩ := zL _ _ _ _ _ _ _ _ _ h1
 simp only [aS, cK] at b d
 obtain rfl := b
 obtain rfl := d
 refine ⟨⟨t, s1⟩, rfl, ?_⟩
 simp only [List.map, Rows.uptoBulk, Rows.uptoBulkAll, FG] at l m ⊢
 omega
theorem My : Tryz.prog.cellsOf 32 = 1 := by kernel_rfl
theorem G2 : Tryz.prog.cellsOf 119 = 2 := by kernel_rfl
def B6 (x : Key) : Nat := x.kE.size + rY (fun _ : Int => 0) x.Key + 1
def TW (x : Key) : Prop := (∀ y ∈ x.Key, 0 ≤ y ∧ y < 256)
theorem MK : FI pg0 119 (Mw ol TW) B6 := by
 intro H I W base sp J fuel cs x h
 obtain ⟨G, n15, _, u, t, i, j⟩ := dn Tryz.underlying119 h
 obtain ⟨l, m, rfl⟩ := Ft i
 obtain ⟨a, b, rfl⟩ := Ft (t.trans G2)
 have d : DataW.trod _ pg0 W _ _ _ n15 9 (([a, b].drop 0).take (Tryz.prog.cellsOf 9)) = some l := j 0 _ rfl
 have g : DataW.trod _ pg0 W _ _ _ n15 53 (([a, b].drop 1).take (Tryz.prog.cellsOf 53)) = some m := j 1 _ rfl
 simp only [LQ, Bw, List.drop, List.take] at d g
 obtain ⟨A, n, w⟩ := DS _ _ _ _ _ _ _ _ _ d
 simp only [aS, cK] at n
 obtain rfl := n
 obtain ⟨v17, E, p, k, y⟩ := oD N6 (by decide) QB Tryz.underlying53 g
 simp only [aS, cK] at p
 obtain rfl := p
 obtain ⟨k, g17⟩ := Lf.Sl.all k
 have v := bA (fun z => Rows.uptoBulk z.1) u
 refine ⟨⟨A, E⟩, ⟨ol.mk ⟨_, rfl, k⟩, g17⟩, ?_⟩
 simp only [List.map, Rows.uptoBulk, Rows.uptoBulkAll, B6] at w y v ⊢
 omega
def Dj (x : mQ) : Nat := x.jw.Name.size + rY uJ x.jw.jJ + rY yk x.jw.jW + 1 + x.Client.Name.size + rY uJ x.Client.jJ + rY yk x.Client.jW + 1 + zt x.Formula + FG x.my + rY B6 x.Keys + 1
theorem RV : Tryz.prog.readableRec 34 = true ∧ 34 < Tryz.prog.types.size := ⟨by kernel_rfl, iN (by kernel_rfl)⟩
theorem DR (c : jv) : yn c = vr c := by unfold yn vr xV; omega
theorem L6 {α : Type} (sz : α → Nat) (h : ∀ a, 2 ≤ sz a) : ∀ l : List α, 2 * l.length ≤ rY sz l
 | [] => ez _
 | a :: l => by have := L6 sz h l; have := h a; simp only [rY, bL, eW, aQ] at *; omega
theorem Bv (y : ke) : uJ y = vr y.Signed.jv + rY (fun _ : Int => 0) y.Signed.Tag + 1 + zt y.jC + 1 := rfl
theorem Le (y : mj) : yk y = xV y.ju + zt y.jC + rY vr y.me + 1 := rfl
theorem P3 (y : Key) : B6 y = y.kE.size + rY (fun _ : Int => 0) y.Key + 1 := rfl
theorem Me : ∀ l : List jv, yw l ≤ 21 * rY vr l
 | [] => ez _
 | c :: l => by have := Me l; rw [yw, DR]; simp only [rY, bL, eW] at *; omega
theorem Mb : ∀ l : List ke, Cw l ≤ 21 * rY uJ l
 | [] => ez _
 | x :: l => by
  have := Mb l
  have := Dl (fun _ : Int => 0) x.Signed.Tag
  rw [Cw, DR]
  have e := Bv x
  simp only [rY, bL, eW] at *; omega
theorem MM : ∀ l : List mj, Bn l ≤ 21 * rY yk l
 | [] => ez _
 | x :: l => by
  have := MM l
  have := Me x.me
  rw [Bn]
  have e := Le x
  unfold xV at e
  have a : rY yk (x :: l) = max 1 (yk x) + rY yk l := rfl
  omega
theorem MC : ∀ l : List Key, DE l ≤ 11 * rY B6 l
 | [] => ez _
 | x :: l => by
  have := MC l
  have := Dl (fun _ : Int => 0) x.Key
  rw [DE]
  have e := P3 x
  have a : rY B6 (x :: l) = max 1 (B6 x) + rY B6 l := rfl
  omega
theorem Kt (x : kD) (d : x.Name.size ≤ 1048576) (h1 : rY uJ x.jJ ≤ 1048576) (g : rY yk x.jW ≤ 1048576) : PG x ∧ x.jJ.length ≤ 600000 ∧ Ja x ≤ 1000000000 := by
 have c1 := L6 uJ (fun y => by rw [Bv]; omega) x.jJ
 have c2 := Dl yk x.jW
 have g1 : ∀ y ∈ x.jJ, vr y.Signed.jv ≤ 1048576 ∧ kB y.jC ≤ 1048576 := fun y a => by
  have := Ic (sz := uJ) a
  have e := Bv y
  have := Cf y.jC
  omega
 have g2 : ∀ y ∈ x.jW, kB y.jC ≤ 1048576 ∧ rY vr y.me ≤ 1048576 := fun y a => by
  have := Ic (sz := yk) a
  have e := Le y
  have := Cf y.jC
  omega
 refine ⟨{ Cc := by omega, GP := by omega, rel := fun y a => ?_, GZ := fun y a => ?_, NT := fun y a => ?_, UP := fun y a => ?_, U6 := fun y a c b => ?_ }, by omega, ?_⟩
 ·have := (g1 y a).2; omega
 ·have := (g2 y a).1; omega
 ·have := (g2 y a).2; have := Dl vr y.me; omega
 ·have := (g1 y a).1; rw [DR]; omega
 ·have := (g2 y a).2; have := Ic (sz := vr) b; rw [DR]; omega
 ·have := Mb x.jJ; have := MM x.jW; unfold Ja; omega
theorem MF (p : mQ) (h : Dj p ≤ 1048576) : PQ p := by
 unfold Dj at h
 have a := Kt p.jw (by omega) (by omega) (by omega)
 have b := Kt p.Client (by omega) (by omega) (by omega)
 have k := MC p.Keys
 have f := Cf p.Formula
 exact { o := a.1, c := b.1, lo := a.2.1, lc := b.2.1, f := by omega, go := a.2.2, gc := b.2.2, fs := by omega, ks := by omega }
theorem own : ownKnob Tryz.prog.godebug = none := by kernel_rfl
theorem PS : laidOutB pg0 = true := by kernel_rfl
theorem PD : Tryz.prog.globalNamed "internal/strconv.uint64pow10" = some 3 := by kernel_rfl
theorem P0 : (Tryz.prog.globals[3]?).map (·.type) = some 331 := by kernel_rfl
theorem Si : Tryz.prog.cellsOf 331 = 20 := by kernel_rfl
theorem Tf : Tryz.prog.cellsOf 272 = 1 := by kernel_rfl
theorem J0 {P : Program} {x : String × DataW Unit} {r : List (String × DataW Unit)} {w : World} (h : laidMet P (x :: r) w) : laidMet P r w := by
 obtain ⟨n, ⟨g, t, cs, fuel, p, q, h1, k, l, m, a, rfl⟩, j, i⟩ := h
 exact ⟨q, a, (bX.1 j).2.1, fun b off d => i b off (aW.2 (.inr d))⟩
theorem Ut {W : World} (h : laidMetH pg0 Rows.changeMovesUptoRow.laid W) : Cm pg0 (hp W) := by
 have b : laidMet pg0 [("math/bits.deBruijn32tab", Rows.laid_math_bits_deBruijn32tab), ("math/bits.deBruijn64tab", Rows.laid_math_bits_deBruijn64tab), ("internal/strconv.uint64pow10", Go.Lib.tabData .u64 Go.Lib.pow10Tab)] W := h
 have h1 := Go.Lib.tabIs_of_head (rest := []) PD P0 Tryz.underlying331 Tryz.underlying272 Tf Si (J0 (J0 b))
 unfold Go.Lib.TabIs World.var? at h1
 rw [PD] at h1
 simp only [aA] at h1
 cases a : W.heap[3]? with
 | none => rw [a] at h1; cases h1
 | some o =>
  rw [a] at h1
  cases o with
  | cells cs T fr =>
   obtain rfl := fq h1
   exact ⟨3, _, _, PD, a⟩
  | _ => exact absurd (show (none : Option (Array Value)) = some _ from h1) (fun h => by cases h)
def TV : DataW Unit → Array Value
 | .agg l => (l.map fun x => match x with | .lit (.int k z) => Value.int k z | _ => Value.nilIface).toArray
 | _ => #[]
def Kj (d : DataW Unit) (o : Obj) : Obj := match o with | .cells _ t frozen => .cells (TV d) t frozen | o => o
theorem PH (H : Type) (enc : TypeId × Value → H) (W : World) (base : Nat) (args : Array Value) (ds gs : List (DataW H)) (before : List MemPlace) (bp : ∀ (j : Nat) t v, Tryz.f6.params[j]? = some t → args[j]? = some v → Value.okWide pg0 W .any base t v) (hW : DataW.Whole enc pg0 Tryz.f6.params.toList Rows.changeMovesSpec.vars false W args.toList ds gs before) (hk : Rows.uptoSmall H (ds ++ gs) = true) (hL : laidMetH pg0 Rows.changeMovesUptoRow.laid W) :
  Calls pg0 6 args W fun e W' => ∃ v, e = .returned v ∧ Rows.changeMovesSpec.post enc pg0 Tryz.f6 false true false false W args v W' := by
 have l8 := hW
 obtain ⟨p, q, l7, hV, rfl, o8, o9⟩ := hW
 have hA : DataW.TrodAll enc pg0 W 0 (fun _ => true) true Tryz.f6.params.toList args.toList ds p := l7
 have hr : ∀ t ∈ Tryz.f6.params.toList, Tryz.prog.readableRec t = true ∧ t < Tryz.prog.types.size := by
  rw [Tryz.params6]
  intro t ht
  simp only [aR, dl, fa] at ht
  rcases ht with rfl | rfl
  ·exact RV
  ·exact RV
 rw [Tryz.params6] at hA bp
 obtain ⟨v0, p2, d0, n1, p0, q0, l9, rfl, rfl, h0, r0⟩ := trodAll_cons hA
 obtain ⟨v1, p3, d1, n2, p1, q1, rfl, rfl, rfl, h1, r1⟩ := trodAll_cons r0
 obtain ⟨rfl, rfl, rfl⟩ := trodAll_nil r1
 obtain rfl : args = #[v0, v1] := by cases args; simp_all
 obtain ⟨rfl, rfl⟩ := trodVars_none hV
 have k0 := bp 0 34 v0 rfl rfl
 have k1 := bp 1 34 v1 rfl rfl
 obtain ⟨h7, rfl, _⟩ := okWide_struct gy k0
 obtain ⟨n3, hN⟩ := h0
 obtain ⟨la, rfl⟩ : ∃ l : List Value, h7 = l.toArray := ⟨h7.toList, by simp⟩
 change DataW.trod _ _ _ _ _ _ _ _ la = some _ at hN
 obtain ⟨lv, n18, _, hS, hQ, bq, af⟩ := dn gy hN
 obtain ⟨dj, dk, e0, e1, e2, e3, e4, e5, e6, rfl⟩ := O3 bq
 obtain ⟨y, a, b, A, d, g, a1, a6, a7, a8, n, I, J, L, M, O, P, u, rfl⟩ := QD (hQ.trans Mf)
 have ah : DataW.trod _ pg0 W _ _ _ n18 25 (([y, a, b, A, d, g, a1, a6, a7, a8, n, I, J, L, M, O, P, u].drop 0).take (Tryz.prog.cellsOf 25)) = some dj := af 0 _ rfl
 have ai : DataW.trod _ pg0 W _ _ _ n18 25 (([y, a, b, A, d, g, a1, a6, a7, a8, n, I, J, L, M, O, P, u].drop 3).take (Tryz.prog.cellsOf 25)) = some dk := af 1 _ rfl
 have aj : DataW.trod _ pg0 W _ _ _ n18 30 (([y, a, b, A, d, g, a1, a6, a7, a8, n, I, J, L, M, O, P, u].drop 6).take (Tryz.prog.cellsOf 30)) = some e0 := af 2 _ rfl
 have ak : DataW.trod _ pg0 W _ _ _ n18 3 (([y, a, b, A, d, g, a1, a6, a7, a8, n, I, J, L, M, O, P, u].drop 11).take (Tryz.prog.cellsOf 3)) = some e1 := af 3 _ rfl
 have al : DataW.trod _ pg0 W _ _ _ n18 31 (([y, a, b, A, d, g, a1, a6, a7, a8, n, I, J, L, M, O, P, u].drop 12).take (Tryz.prog.cellsOf 31)) = some e2 := af 4 _ rfl
 have an : DataW.trod _ pg0 W _ _ _ n18 3 (([y, a, b, A, d, g, a1, a6, a7, a8, n, I, J, L, M, O, P, u].drop 14).take (Tryz.prog.cellsOf 3)) = some e3 := af 5 _ rfl
 have ao : DataW.trod _ pg0 W _ _ _ n18 3 (([y, a, b, A, d, g, a1, a6, a7, a8, n, I, J, L, M, O, P, u].drop 15).take (Tryz.prog.cellsOf 3)) = some e4 := af 6 _ rfl
 have ap : DataW.trod _ pg0 W _ _ _ n18 3 (([y, a, b, A, d, g, a1, a6, a7, a8, n, I, J, L, M, O, P, u].drop 16).take (Tryz.prog.cellsOf 3)) = some e5 := af 7 _ rfl
 have aq : DataW.trod _ pg0 W _ _ _ n18 32 (([y, a, b, A, d, g, a1, a6, a7, a8, n, I, J, L, M, O, P, u].drop 17).take (Tryz.prog.cellsOf 32)) = some e6 := af 8 _ rfl
 simp only [ML, E3, Bh, IS, My, List.drop, List.take] at ah ai aj ak al an ao ap aq
 obtain ⟨mb, n19, _, hT, lb, bs, bi⟩ := dn gz ah
 obtain ⟨e7, e8, e9, rfl⟩ := Lg bs
 have ar : DataW.trod _ pg0 W _ _ _ n19 9 (([y, a, b].drop 0).take (Tryz.prog.cellsOf 9)) = some e7 := bi 0 _ rfl
 have au : DataW.trod _ pg0 W _ _ _ n19 22 (([y, a, b].drop 1).take (Tryz.prog.cellsOf 22)) = some e8 := bi 1 _ rfl
 have av : DataW.trod _ pg0 W _ _ _ n19 23 (([y, a, b].drop 2).take (Tryz.prog.cellsOf 23)) = some e9 := bi 2 _ rfl
 simp only [FL, FT, Bw, List.drop, List.take] at ar au av
 obtain ⟨cd, h9, il⟩ := DS _ _ _ _ _ _ _ _ _ ar
 simp only [aS, cK] at h9
 obtain rfl := h9
 obtain ⟨v21, cf, ha, bz, im⟩ := oD Di (by decide) HH gA au
 simp only [aS, cK] at ha
 obtain rfl := ha
 obtain ⟨bz, g21⟩ := Lf.Sl.all bz
 obtain ⟨v22, cg, hb, c0, ix⟩ := oD BB (by decide) FW gB av
 simp only [aS, cK] at hb
 obtain rfl := hb
 obtain ⟨c0, g22⟩ := Lf.Sl.all c0
 have ik := bA (fun z => Rows.uptoBulk z.1) hT
 obtain ⟨mq, n23, _, hU, lp, bt, bj⟩ := dn gz ai
 obtain ⟨ea, ec, eg, rfl⟩ := Lg bt
 have aw : DataW.trod _ pg0 W _ _ _ n23 9 (([A, d, g].drop 0).take (Tryz.prog.cellsOf 9)) = some ea := bj 0 _ rfl
 have ay : DataW.trod _ pg0 W _ _ _ n23 22 (([A, d, g].drop 1).take (Tryz.prog.cellsOf 22)) = some ec := bj 1 _ rfl
 have az : DataW.trod _ pg0 W _ _ _ n23 23 (([A, d, g].drop 2).take (Tryz.prog.cellsOf 23)) = some eg := bj 2 _ rfl
 simp only [FL, FT, Bw, List.drop, List.take] at aw ay az
 obtain ⟨ch, hc, j3⟩ := DS _ _ _ _ _ _ _ _ _ aw
 simp only [aS, cK] at hc
 obtain rfl := hc
 obtain ⟨v25, cj, hd, c3, j4⟩ := oD Di (by decide) HH gA ay
 simp only [aS, cK] at hd
 obtain rfl := hd
 obtain ⟨c3, o0⟩ := Lf.Sl.all c3
 obtain ⟨v26, ck, hf, c4, j5⟩ := oD BB (by decide) FW gB az
 simp only [aS, cK] at hf
 obtain rfl := hf
 obtain ⟨c4, o1⟩ := Lf.Sl.all c4
 have j0 := bA (fun z => Rows.uptoBulk z.1) hU
 obtain ⟨cm, c5, j6⟩ := Hv _ _ _ _ _ _ _ _ _ aj
 obtain ⟨v27, hh, c5⟩ := c5.out
 simp only [aS, cK] at hh
 obtain ⟨rfl, rfl, rfl, rfl, rfl⟩ := hh
 obtain ⟨cn, hi, j7⟩ := zL _ _ _ _ _ _ _ _ _ ak
 simp only [aS, cK] at hi
 obtain rfl := hi
 obtain ⟨cp, hj, j8⟩ := Qx _ _ _ _ _ _ _ _ _ al
 simp only [D2, aS, cK] at hj
 obtain ⟨rfl, rfl⟩ := hj
 obtain ⟨cq, hl, j9⟩ := zL _ _ _ _ _ _ _ _ _ an
 simp only [aS, cK] at hl
 obtain rfl := hl
 obtain ⟨cr, hn, jn⟩ := zL _ _ _ _ _ _ _ _ _ ao
 simp only [aS, cK] at hn
 obtain rfl := hn
 obtain ⟨cs, ho, k2⟩ := zL _ _ _ _ _ _ _ _ _ ap
 simp only [aS, cK] at ho
 obtain rfl := ho
 obtain ⟨v33, ct, hq, c6, k3⟩ := oD G2 (by decide) MK Tryz.underlying32 aq
 simp only [aS, cK] at hq
 obtain rfl := hq
 obtain ⟨c6, o2⟩ := Lf.Sl.all c6
 have ia := bA (fun z => Rows.uptoBulk z.1) hS
 simp only [List.map, Rows.uptoBulk, Rows.uptoBulkAll] at il im ix ik j3 j4 j5 j0 j6 j7 j8 j9 jn k2 k3 ia
 have z0 : Dj (⟨⟨cd, cf, cg⟩, ⟨ch, cj, ck⟩, cm, cn, cp, cq, cr, cs, ct⟩ : mQ) ≤ Rows.uptoBulk d0 := by simp only [Dj]; omega
 obtain ⟨h8, rfl, _⟩ := okWide_struct gy k1
 obtain ⟨n4, hP⟩ := h1
 obtain ⟨MO, rfl⟩ : ∃ l : List Value, h8 = l.toArray := ⟨h8.toList, by simp⟩
 change DataW.trod _ _ _ _ _ _ _ _ MO = some _ at hP
 obtain ⟨ms, n34, _, hX, hR, bu, ag⟩ := dn gy hP
 obtain ⟨eh, en, eI, eN, eR, fc, fo, fv, gg, rfl⟩ := O3 bu
 obtain ⟨E, h, i, G, k, m, aa, ab, ad, ae, w, Q, R, T, U, Y, Z, x, rfl⟩ := QD (hR.trans Mf)
 have aE : DataW.trod _ pg0 W _ _ _ n34 25 (([E, h, i, G, k, m, aa, ab, ad, ae, w, Q, R, T, U, Y, Z, x].drop 0).take (Tryz.prog.cellsOf 25)) = some eh := ag 0 _ rfl
 have b0 : DataW.trod _ pg0 W _ _ _ n34 25 (([E, h, i, G, k, m, aa, ab, ad, ae, w, Q, R, T, U, Y, Z, x].drop 3).take (Tryz.prog.cellsOf 25)) = some en := ag 1 _ rfl
 have b1 : DataW.trod _ pg0 W _ _ _ n34 30 (([E, h, i, G, k, m, aa, ab, ad, ae, w, Q, R, T, U, Y, Z, x].drop 6).take (Tryz.prog.cellsOf 30)) = some eI := ag 2 _ rfl
 have b2 : DataW.trod _ pg0 W _ _ _ n34 3 (([E, h, i, G, k, m, aa, ab, ad, ae, w, Q, R, T, U, Y, Z, x].drop 11).take (Tryz.prog.cellsOf 3)) = some eN := ag 3 _ rfl
 have b3 : DataW.trod _ pg0 W _ _ _ n34 31 (([E, h, i, G, k, m, aa, ab, ad, ae, w, Q, R, T, U, Y, Z, x].drop 12).take (Tryz.prog.cellsOf 31)) = some eR := ag 4 _ rfl
 have b4 : DataW.trod _ pg0 W _ _ _ n34 3 (([E, h, i, G, k, m, aa, ab, ad, ae, w, Q, R, T, U, Y, Z, x].drop 14).take (Tryz.prog.cellsOf 3)) = some fc := ag 5 _ rfl
 have b5 : DataW.trod _ pg0 W _ _ _ n34 3 (([E, h, i, G, k, m, aa, ab, ad, ae, w, Q, R, T, U, Y, Z, x].drop 15).take (Tryz.prog.cellsOf 3)) = some fo := ag 6 _ rfl
 have b6 : DataW.trod _ pg0 W _ _ _ n34 3 (([E, h, i, G, k, m, aa, ab, ad, ae, w, Q, R, T, U, Y, Z, x].drop 16).take (Tryz.prog.cellsOf 3)) = some fv := ag 7 _ rfl
 have b7 : DataW.trod _ pg0 W _ _ _ n34 32 (([E, h, i, G, k, m, aa, ab, ad, ae, w, Q, R, T, U, Y, Z, x].drop 17).take (Tryz.prog.cellsOf 32)) = some gg := ag 8 _ rfl
 simp only [ML, E3, Bh, IS, My, List.drop, List.take] at aE b0 b1 b2 b3 b4 b5 b6 b7
 obtain ⟨mv, n35, _, hY, lq, bw, bk⟩ := dn gz aE
 obtain ⟨gR, h2, h3, rfl⟩ := Lg bw
 have b9 : DataW.trod _ pg0 W _ _ _ n35 9 (([E, h, i].drop 0).take (Tryz.prog.cellsOf 9)) = some gR := bk 0 _ rfl
 have ba : DataW.trod _ pg0 W _ _ _ n35 22 (([E, h, i].drop 1).take (Tryz.prog.cellsOf 22)) = some h2 := bk 1 _ rfl
 have bc : DataW.trod _ pg0 W _ _ _ n35 23 (([E, h, i].drop 2).take (Tryz.prog.cellsOf 23)) = some h3 := bk 2 _ rfl
 simp only [FL, FT, Bw, List.drop, List.take] at b9 ba bc
 obtain ⟨cu, hs, k6⟩ := DS _ _ _ _ _ _ _ _ _ b9
 simp only [aS, cK] at hs
 obtain rfl := hs
 obtain ⟨v37, cv, hv, c7, k7⟩ := oD Di (by decide) HH gA ba
 simp only [aS, cK] at hv
 obtain rfl := hv
 obtain ⟨c7, o3⟩ := Lf.Sl.all c7
 obtain ⟨oi, cw, hy, c8, k8⟩ := oD BB (by decide) FW gB bc
 simp only [aS, cK] at hy
 obtain rfl := hy
 obtain ⟨c8, o4⟩ := Lf.Sl.all c8
 have k5 := bA (fun z => Rows.uptoBulk z.1) hY
 obtain ⟨n0, n39, _, hZ, ls, bx, bl⟩ := dn gz b0
 obtain ⟨h4, h5, h6, rfl⟩ := Lg bx
 have bd : DataW.trod _ pg0 W _ _ _ n39 9 (([G, k, m].drop 0).take (Tryz.prog.cellsOf 9)) = some h4 := bl 0 _ rfl
 have bf : DataW.trod _ pg0 W _ _ _ n39 22 (([G, k, m].drop 1).take (Tryz.prog.cellsOf 22)) = some h5 := bl 1 _ rfl
 have bh : DataW.trod _ pg0 W _ _ _ n39 23 (([G, k, m].drop 2).take (Tryz.prog.cellsOf 23)) = some h6 := bl 2 _ rfl
 simp only [FL, FT, Bw, List.drop, List.take] at bd bf bh
 obtain ⟨cx, hz, ka⟩ := DS _ _ _ _ _ _ _ _ _ bd
 simp only [aS, cK] at hz
 obtain rfl := hz
 obtain ⟨v41, cy, hC, c9, kb⟩ := oD Di (by decide) HH gA bf
 simp only [aS, cK] at hC
 obtain rfl := hC
 obtain ⟨c9, o5⟩ := Lf.Sl.all c9
 obtain ⟨oj, cz, hD, ca, kt⟩ := oD BB (by decide) FW gB bh
 simp only [aS, cK] at hD
 obtain rfl := hD
 obtain ⟨ca, o6⟩ := Lf.Sl.all ca
 have k9 := bA (fun z => Rows.uptoBulk z.1) hZ
 obtain ⟨cS, cb, l0⟩ := Hv _ _ _ _ _ _ _ _ _ b1
 obtain ⟨oo, hE, cb⟩ := cb.out
 simp only [aS, cK] at hE
 obtain ⟨rfl, rfl, rfl, rfl, rfl⟩ := hE
 obtain ⟨da, hF, l1⟩ := zL _ _ _ _ _ _ _ _ _ b2
 simp only [aS, cK] at hF
 obtain rfl := hF
 obtain ⟨db, hG, l2⟩ := Qx _ _ _ _ _ _ _ _ _ b3
 simp only [D2, aS, cK] at hG
 obtain ⟨rfl, rfl⟩ := hG
 obtain ⟨de, hI, l3⟩ := zL _ _ _ _ _ _ _ _ _ b4
 simp only [aS, cK] at hI
 obtain rfl := hI
 obtain ⟨df, hJ, l4⟩ := zL _ _ _ _ _ _ _ _ _ b5
 simp only [aS, cK] at hJ
 obtain rfl := hJ
 obtain ⟨dh, hK, l5⟩ := zL _ _ _ _ _ _ _ _ _ b6
 simp only [aS, cK] at hK
 obtain rfl := hK
 obtain ⟨v49, di, hM, cc, l6⟩ := oD G2 (by decide) MK Tryz.underlying32 b7
 simp only [aS, cK] at hM
 obtain rfl := hM
 obtain ⟨cc, o7⟩ := Lf.Sl.all cc
 have k4 := bA (fun z => Rows.uptoBulk z.1) hX
 simp only [List.map, Rows.uptoBulk, Rows.uptoBulkAll] at k6 k7 k8 k5 ka kb kt k9 l0 l1 l2 l3 l4 l5 l6 k4
 have z1 : Dj (⟨⟨cu, cv, cw⟩, ⟨cx, cy, cz⟩, cS, da, db, de, df, dh, di⟩ : mQ) ≤ Rows.uptoBulk d1 := by simp only [Dj]; omega
 have hB : Rows.uptoBulkAll ([d0, d1] ++ []) ≤ 1048576 := iN hk
 simp only [bI, Rows.uptoBulkAll] at hB
 have hm : tV (⟨⟨cd, cf, cg⟩, ⟨ch, cj, ck⟩, cm, cn, cp, cq, cr, cs, ct⟩ : mQ) (⟨⟨cu, cv, cw⟩, ⟨cx, cy, cz⟩, cS, da, db, de, df, dh, di⟩ : mQ) = some true := G1 Rz _ _ (MF _ (by omega)) (MF _ (by omega))
 have hg := EA (⟨⟨cd, cf, cg⟩, ⟨ch, cj, ck⟩, cm, cn, cp, cq, cr, cs, ct⟩ : mQ) a b d g n u (⟨⟨cu, cv, cw⟩, ⟨cx, cy, cz⟩, cS, da, db, de, df, dh, di⟩ : mQ) h i k m w x true W (Ut hL) bz c0 c3 c4 c5 c6 c7 c8 c9 ca cb cc hm
 refine cV hg fun e W' ⟨he, hx⟩ => ?_
 subst he
 exact ⟨_, rfl, MU PS hr rfl l8 hx (fun _ _ _ => trodAll_cons_mk (shut_bool Tryz.underlying4 _) trodAll_mk0) rfl rfl (ok_one (by kernel_rfl) rfl (okWide_bool_mk Tryz.underlying4 _))⟩
noncomputable def EF (os : Os) : World :=
 { World.holding pg0 os ⟨#[], #[], []⟩ with heap := (((World.holding pg0 os ⟨#[], #[], []⟩).heap.modify 4 (Kj Rows.laid_math_bits_deBruijn32tab)).modify 5 (Kj Rows.laid_math_bits_deBruijn64tab)).modify 3 (Kj Rows.laid_internal_strconv_uint64pow10) }
theorem PT (os : Os) : laidMet pg0 Rows.changeMovesUptoRow.laid ((EF os).forCall (fun _ _ => 0) ⟨#[], #[.agg #[.string ⟨#[]⟩, .slice none 0 0, .slice none 0 0, .string ⟨#[]⟩, .slice none 0 0, .slice none 0 0, .int .i64 0, .int .i64 0, .string ⟨#[]⟩, .string ⟨#[]⟩, .slice none 0 0, .int .i64 0, .int .i64 0, .int .i64 0, .int .i64 0, .int .i64 0, .int .i64 0, .slice none 0 0], .agg #[.string ⟨#[]⟩, .slice none 0 0, .slice none 0 0, .string ⟨#[]⟩, .slice none 0 0, .slice none 0 0, .int .i64 0, .int .i64 0, .string ⟨#[]⟩, .string ⟨#[]⟩, .slice none 0 0, .int .i64 0, .int .i64 0, .int .i64 0, .int .i64 0, .int .i64 0, .int .i64 0, .slice none 0 0]], []⟩).memory :=
 laidMet_of_run' 8 (by kernel_rfl) (by kernel_rfl)
theorem TC (os : Os) {H : Type} (enc : TypeId × Value → H) : ∃ places, DataW.whole enc pg0 ((EF os).forCall (fun _ _ => 0) ⟨#[], #[.agg #[.string ⟨#[]⟩, .slice none 0 0, .slice none 0 0, .string ⟨#[]⟩, .slice none 0 0, .slice none 0 0, .int .i64 0, .int .i64 0, .string ⟨#[]⟩, .string ⟨#[]⟩, .slice none 0 0, .int .i64 0, .int .i64 0, .int .i64 0, .int .i64 0, .int .i64 0, .int .i64 0, .slice none 0 0], .agg #[.string ⟨#[]⟩, .slice none 0 0, .slice none 0 0, .string ⟨#[]⟩, .slice none 0 0, .slice none 0 0, .int .i64 0, .int .i64 0, .string ⟨#[]⟩, .string ⟨#[]⟩, .slice none 0 0, .int .i64 0, .int .i64 0, .int .i64 0, .int .i64 0, .int .i64 0, .int .i64 0, .slice none 0 0]], []⟩).memory Tryz.f6.params.toList Rows.changeMovesSpec.vars false #[.agg #[.string ⟨#[]⟩, .slice none 0 0, .slice none 0 0, .string ⟨#[]⟩, .slice none 0 0, .slice none 0 0, .int .i64 0, .int .i64 0, .string ⟨#[]⟩, .string ⟨#[]⟩, .slice none 0 0, .int .i64 0, .int .i64 0, .int .i64 0, .int .i64 0, .int .i64 0, .int .i64 0, .slice none 0 0], .agg #[.string ⟨#[]⟩, .slice none 0 0, .slice none 0 0, .string ⟨#[]⟩, .slice none 0 0, .slice none 0 0, .int .i64 0, .int .i64 0, .string ⟨#[]⟩, .string ⟨#[]⟩, .slice none 0 0, .int .i64 0, .int .i64 0, .int .i64 0, .int .i64 0, .int .i64 0, .int .i64 0, .slice none 0 0]].toList 8 = some ([.agg [.agg [.lit (.string []), .nil, .nil], .agg [.lit (.string []), .nil, .nil], .agg [.lit (.int .i64 0), .lit (.int .i64 0), .agg [.lit (.string []), .lit (.string [])], .nil], .lit (.int .i64 0), .agg [.lit (.int .i64 0), .lit (.int .i64 0)], .lit (.int .i64 0), .lit (.int .i64 0), .lit (.int .i64 0), .nil], .agg [.agg [.lit (.string []), .nil, .nil], .agg [.lit (.string []), .nil, .nil], .agg [.lit (.int .i64 0), .lit (.int .i64 0), .agg [.lit (.string []), .lit (.string [])], .nil], .lit (.int .i64 0), .agg [.lit (.int .i64 0), .lit (.int .i64 0)], .lit (.int .i64 0), .lit (.int .i64 0), .lit (.int .i64 0), .nil]], [], places) :=
 ⟨[], by kernel_rfl⟩
set_option maxRecDepth 100000 in
theorem SH (os : Os) (started : os.Started) (H : Type) (enc : TypeId × Value → H) (F : Stop.Interp) :
  ReturnsInHanded {} Tryz.checked os 6 .any ((Rows.OpenSpec.upto Rows.changeMovesSpec).preRow enc pg0 Tryz.f6 Rows.changeMovesUptoRow.domain false Rows.changeMovesUptoRow.laid) (((Rows.OpenSpec.upto Rows.changeMovesSpec).at F).post enc pg0 Tryz.f6 false true false false) := by
 obtain ⟨places, h⟩ := TC os enc
 refine returnsInHanded_of_row (C := Tryz.checked) (s := Rows.OpenSpec.upto Rows.changeMovesSpec) own started (by kernel_rfl) Tryz.func6
  (witness_row_at (enc := enc) (C := Tryz.checked) false (EF os) #[.agg #[.string ⟨#[]⟩, .slice none 0 0, .slice none 0 0, .string ⟨#[]⟩, .slice none 0 0, .slice none 0 0, .int .i64 0, .int .i64 0, .string ⟨#[]⟩, .string ⟨#[]⟩, .slice none 0 0, .int .i64 0, .int .i64 0, .int .i64 0, .int .i64 0, .int .i64 0, .int .i64 0, .slice none 0 0], .agg #[.string ⟨#[]⟩, .slice none 0 0, .slice none 0 0, .string ⟨#[]⟩, .slice none 0 0, .slice none 0 0, .int .i64 0, .int .i64 0, .string ⟨#[]⟩, .string ⟨#[]⟩, .slice none 0 0, .int .i64 0, .int .i64 0, .int .i64 0, .int .i64 0, .int .i64 0, .int .i64 0, .slice none 0 0]] rfl (by kernel_rfl) (by kernel_rfl) (by kernel_rfl)
   (OpenSpec.preRow_of_cond 8 h (by kernel_rfl) (fun k hk => by cases hk; kernel_rfl) (by kernel_rfl) (PT os))) ?_
 intro W base args ds gs before b g _ a _ d _ _
 exact PH H enc W base args ds gs before b g (a _ rfl) d
theorem TP {a b : Bool} (ha : a = true) (d : b = true) : (a && b) = true := by rw [ha, d]; rfl
set_option maxHeartbeats 40000000 in
theorem QN : joinedFacts Tryz.checked.prog 6 Tryz.f6 (Rows.OpenSpec.upto Rows.changeMovesSpec).bare Rows.changeMovesUptoRow = true := by
 unfold joinedFacts
 repeat' with_reducible refine TP ?_ ?_
 all_goals as_aux_lemma => kernel_rfl
theorem Uu : Rows.ChangeMovesUptoSaid :=
 OpenClaim.holds_of_cond 6 Tryz.f6 rfl rfl rfl rfl rfl rfl rfl ⟨rfl, rfl, rfl, rfl, rfl⟩ rfl rfl rfl rfl rfl (by kernel_rfl) Tryz.func6 QN
  (iN (by kernel_rfl)) (by unfold Func.isWrapper; first | (rw [bB (by decide +kernel)]; kernel_rfl) | (rw [bE (by decide +kernel)]; exact ⟨rfl, rfl⟩))
  (fun os started H enc _ F => by rw [OpenClaim.pre_eq_preRow]; exact SH os started H enc F)
theorem Sm (f : FuncId) (fn : Func) (g : Tryz.pinned.checked.prog.funcNamed "entente/ententelaw50.ChangeMoves" = some f) (b : Tryz.pinned.checked.prog.funcs[f]? = some fn) :
  true = Tryz.pinned.checked.prog.looks [] ∧ ∀ (j : Nat) t, fn.params[j]? = some t → Tryz.pinned.checked.prog.wantsStandIn t = false := by
 obtain rfl : f = 6 := fq ((show Tryz.prog.funcNamed "entente/ententelaw50.ChangeMoves" = some 6 by kernel_rfl).symm.trans g) |>.symm
 obtain rfl : fn = Tryz.f6 := (fq (Tryz.func6.symm.trans b)).symm
 refine ⟨by kernel_rfl, fun j t d => ?_⟩
 rw [Tryz.params6] at d
 have hm : t ∈ [34] := by simpa using Array.mem_of_getElem? d
 have a : ([34].all fun u => !Tryz.prog.wantsStandIn u) = true := by kernel_rfl
 exact (show Tryz.prog.wantsStandIn t = false by simpa using ed.1 a t hm)
theorem UU : Rows.changeMovesUptoRow.wfByText (Rows.OpenSpec.upto Rows.changeMovesSpec) = true := by kernel_rfl
theorem UY : Tryz.pinned.checked.prog.mainIs = some (Rows.changeMovesUptoCard.stood.harness.1, Rows.changeMovesUptoCard.stood.harness.2.toList) := by kernel_rfl
theorem UO : false = Rows.changeMovesUptoRow.goesBy Tryz.pinned.checked.prog := by kernel_rfl
theorem proved : Rows.ChangeMovesUptoCardSaid :=
 Claim7.holds_tied_plain_at .later [] _ _ _ _ Uu (fun _ h => by cases h) UU (fun _ h => by cases h) changeMovesUpto_row_tie rfl ⟨rfl, rfl⟩ UY rfl Sm UO
end Go.Proofs.YtjjjihkifgdhgaaGreatDoor
