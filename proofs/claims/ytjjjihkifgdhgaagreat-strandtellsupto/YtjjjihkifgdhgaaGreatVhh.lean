/- a part of a proof of StrandTells -/
import Derived.Test.YtjjjihkifgdhgaaGreatHlh
import Derived.Test.YtjjjihkifgdhgaaGreatRtUh
import Derived.Test.YtjjjihkifgdhgaaGreatRows
import Derived.WalkKit
import Derived.ProofKit
import Derived.OpenShut
import Derived.JoinedCond
import Derived.Deep.Slices
import Derived.Carry
import Derived.ChangeArms
import Derived.ChangeSame
import Derived.Test.YtjjjihkifgdhgaaGreatS3W3h
set_option linter.all false
namespace Go.Proofs.YtjjjihkifgdhgaaGreat
open Go.IntKind renaming wrap → wi0
open Go.Proofs.Tryz renaming prog → pg0
open Go.RowKit
theorem Nu {f : Formula} (hw : tp f = true) (a : kx f ≤ 200) : (yO f).length ≤ 40 * kx f := (M5 (nJ f) f (aY _) hw [] (by simp; omega)).2
theorem QZ : ∀ (n : Nat) (f : Formula), nJ f ≤ n → tp f = true → kx f ≤ 64 → px n f = some (wi (yO f)) := by
 intro n
 induction n with
 | zero => intro f h; rw [mF] at h; omega
 | succ n ih =>
  intro f s hw x
  rw [mF] at s
  have u := nU f
  obtain ⟨h1, m, g⟩ := xA hw
  have b : 0 ≤ f.Op ∧ f.Op < 128 := by rcases g with h | h | h <;> omega
  have hlen : 0 ≤ (f.Kids.length : Int) ∧ (f.Kids.length : Int) < 128 := by omega
  have key : ∀ (ks : List Formula) (l : List Int), (∀ k ∈ ks, k ∈ f.Kids) → wellL ks = true → l.length + 40 * nodesL ks ≤ 8000 → nodesL ks ≤ 64 → rX (px n) ks (wi l) = some (wi (l ++ bytesFL ks)) := by
   intro ks
   induction ks with
   | nil => intro l _ _ _ _; rw [rX, bytesFL, bJ]
   | cons k ks j =>
    intro l hk a t i
    rw [wellL, bF] at a
    rw [nodesL] at t i
    have w := Nu a.1 (by omega)
    rw [rX, ih k (by have := qK (hk k (by simp)); omega) a.1 (by omega), aA, rJ _ _ (by omega), aA,
     j _ (fun z v => hk z (by simp [v])) a.2 (by simp; omega) (by omega), bytesFL, aJ]
  rw [px]
  unfold wF
  rw [yu b.1 b.2, aA, HV]
  by_cases c1 : f.Op = 1
  ·have p : lZ f.jr = true := by rcases g with h | h | h; exact h.2.1; omega; omega
   have := oG p
   simp only [c1, aX, aR]
   rw [AF p, aA, rJ _ _ (by simp; omega)]
   rfl
  ·have q : (f.Op == 1) = false := by simpa using c1
   simp only [q, aB, aI, c1]
   by_cases d : f.Op = 4
   ·have hk : 0 ≤ f.K ∧ f.K < 128 := by rcases g with h | h | h <;> omega
    simp only [d, aX, aR]
    rw [yu hk.1 hk.2, aA, rJ _ _ (by simp), aA, aA, yu hlen.1 hlen.2, aA, rJ _ _ (by simp), aA,
     key f.Kids _ (fun k hk => hk) m (by simp; omega) (by omega)]
    simp
   ·have r : (f.Op == 4) = false := by simpa using d
    simp only [r, aB, aI, d, aA]
    rw [yu hlen.1 hlen.2, aA, rJ _ _ (by simp), aA, key f.Kids _ (fun k hk => hk) m (by simp; omega) (by omega)]
    simp
theorem S0 (f : Formula) (h : Gd f) : ((rk f).bind fun r => if r then (px kd f).bind fun a => some a else some zS) = some (wi (yr f)) := by
 rw [Ke f h, aA]
 unfold yr
 cases d : nB f
 ·rfl
 ·obtain ⟨h1, g, b⟩ := zn d
  simp only [aR]
  rw [QZ kd f (by rw [lX]; omega) b h1, ot]
theorem IX (f g : Formula) (i : Gd f) (j : Gd g) : ∃ c : Int, wj f g = some c ∧ (c > 0 ↔ nq Bf g f = true) := by
 unfold wj
 rw [S0 f i, aA, S0 g j, aA, ym, uM, uM, AE]
 rcases AO (ui (yr f)) (ui (yr g)) with h | h | h
 ·rw [bD h]
  refine ⟨-1, rfl, iff_of_false (by omega) (fun a => ?_)⟩
  have := yd _ _ _ h a
  rw [vw] at this; cases this
 ·have e : kU (wi (yr f)) (wi (yr g)) = true := mg.2 (zN (by rw [uM, uM, h]))
  rw [h, vw, e]
  exact ⟨0, rfl, iff_of_false (by omega) (by simp)⟩
 ·have e : Op.bytesLess (ui (yr f)) (ui (yr g)) = false := by
   rw [← eC]
   intro a
   have := yd _ _ _ h a
   rw [vw] at this; cases this
  have d : kU (wi (yr f)) (wi (yr g)) = false := by
   rw [← eC, mg]
   intro a
   have b := bN (fun s : ByteArray => s.data.toList) a
   simp only [uM] at b
   rw [b, vw] at h; cases h
  rw [e, d]
  exact ⟨1, rfl, iff_of_true (by omega) h⟩
theorem Si : ∀ (n : Nat) (f : Formula), nJ f ≤ n → ∀ g, ∃ b, qP n f g = some b ∧ (b = true ↔ f = g) := by
 intro n
 induction n with
 | zero => intro f h; rw [mF] at h; omega
 | succ n ih =>
  intro f h g
  rw [mF] at h
  have key : ∀ (l m A : List Formula), (∀ x ∈ l, x ∈ f.Kids) → g.Kids = A ++ m → l.length = m.length → ∃ b, sN g (qP n) l A.length = some b ∧ (b = true ↔ l = m) := by
   intro l
   induction l with
   | nil =>
    intro m A _ _ a
    obtain rfl := aW a.symm
    exact ⟨true, by rw [sN], by simp⟩
   | cons x l r =>
    intro m A q t a
    match m, a with
    | y :: m, a =>
     obtain ⟨b, e, p⟩ := ih x (by have := qK (q x (by simp)); omega) y
     rw [sN, t, mL A y m _ rfl, aA, e, aA]
     cases b with
     | false =>
      refine ⟨false, rfl, ?_⟩
      have : x ≠ y := fun i => by have := p.2 i; simp at this
      simp [this]
     | true =>
      have i := p.1 rfl
      obtain ⟨b, s, d⟩ := r m (A ++ [y]) (fun z u => q z (by simp [u])) (by rw [t]; simp) (by simpa using a)
      rw [aF, List.length_singleton] at s
      simp only [cI, aB, aI]
      rw [s]
      exact ⟨b, rfl, by rw [d]; simp [i]⟩
  rw [qP]
  unfold xw
  by_cases h1 : f.Op = g.Op
  ·by_cases d : f.K = g.K
   ·by_cases j : f.jr = g.jr
    ·have k : jQ f.jr g.jr = true := jR.2 j
     by_cases a : f.Kids.length = g.Kids.length
     ·obtain ⟨b, e, p⟩ := key f.Kids g.Kids [] (fun x q => q) rfl a
      rw [bL] at e
      refine ⟨b, ?_, p.trans ⟨fun hk => Formula.ext' h1 d j hk, fun hk => by rw [hk]⟩⟩
      simp [h1, d, k, a, e]
     ·refine ⟨false, ?_, by simp; intro hk; rw [hk] at a; exact a rfl⟩
      have : ((f.Kids.length : Int) != (g.Kids.length : Int)) = true := by simp; omega
      simp [h1, d, k, this]
    ·have k : jQ f.jr g.jr = false := by rw [← eC, jR]; exact j
     exact ⟨false, by simp [h1, d, k], by simp; intro hk; rw [hk] at j; exact j rfl⟩
   ·exact ⟨false, by simp [h1, d], by simp; intro hk; rw [hk] at d; exact d rfl⟩
  ·exact ⟨false, by simp [h1], by simp; intro hk; rw [hk] at h1; exact h1 rfl⟩
theorem N8 (a b : Formula) (h : Gd a) : qP kd a b = some (qf a b) := by
 have := xh a
 unfold Gd at h
 obtain ⟨x, e, d⟩ := Si kd a (by rw [lX]; omega) b
 rw [e]; congr 1
 rw [bU, d, AB]
section
variable {α : Type} {lt : α → α → Bool}
def Lv (lt : α → α → Bool) (l : List α) : Prop := l.Pairwise fun x y => lt y x = false
theorem D9 (h : SWO lt) (k : α) : ∀ {l : List α}, Lv lt l → ∃ A B, l = A ++ B ∧ (∀ x ∈ A, lt k x = false) ∧ (∀ x ∈ B, lt k x = true)
 | [], _ => ⟨[], [], rfl, by simp, by simp⟩
 | x :: l, i => by
  obtain ⟨h1, b⟩ := cJ.1 i
  cases e : lt k x with
  | true =>
   refine ⟨[], x :: l, rfl, by simp, fun y a => ?_⟩
   rcases aP.1 a with rfl | a
   ·exact e
   ·rcases h.MZ _ y _ e with q | q
    ·exact q
    ·rw [h1 y a] at q; cases q
  | false =>
   obtain ⟨A, B, rfl, d, g⟩ := D9 h k b
   exact ⟨x :: A, B, rfl, fun y a => by
    rcases aP.1 a with rfl | a
    ·exact e
    ·exact d y a, g⟩
theorem G3 {k : α} {A B : List α} (b : ∀ x ∈ A, lt k x = false) (d : ∀ x ∈ B, lt k x = true) : Bc lt (A ++ B) k = A ++ k :: B := by
 unfold Bc
 rw [iE, iE]
 rw [gf.2 (fun x a => by rw [b x a]; rfl), List.filter_eq_nil_iff.2 (fun x a => by rw [d x a]; simp), List.filter_eq_nil_iff.2 (fun x a => by rw [b x a]; simp), gf.2 (fun x a => d x a)]
 simp
theorem Lh (h : SWO lt) {k : α} {A B : List α} (g : Lv lt (A ++ B)) (i : ∀ x ∈ A, lt k x = false) (j : ∀ x ∈ B, lt k x = true) : Lv lt (A ++ k :: B) := by
 unfold Lv at *
 rw [cR] at *
 refine ⟨g.1, cJ.2 ⟨fun x l => h.asym (j x l), g.2.1⟩, fun a ha b d => ?_⟩
 rcases aP.1 d with rfl | d
 ·exact i a ha
 ·exact g.2.2 a ha b d
variable {eq : α → α → Bool}
theorem H5 (he : ∀ x y, eq x y = true ↔ x = y) (k : α) : ∀ (l : List α) (p : α), mO eq p (l ++ [k]) = if eq k ((l.getLast?).getD p) then mO eq p l else mO eq p l ++ [k]
 | [], p => by
  rw [aV, mO, mO]
  rfl
 | y :: l, p => by
  have e : ((y :: l).getLast?).getD p = (l.getLast?).getD y := by cases l <;> rfl
  rw [bE, mO, mO, H5 he k l y, e]
  by_cases h1 : eq y p = true
  ·rw [bD h1, bD h1]
  ·rw [bB h1, bB h1]
   split <;> rfl
def zw (eq : α → α → Bool) (l : List α) (k : α) : Bool := match l.getLast? with | some y => eq y k | none => false
theorem NB (x : α) (l : List α) : (x :: l).getLast? = some ((l.getLast?).getD x) := by cases l <;> rfl
theorem PR (he : ∀ x y, eq x y = true ↔ x = y) (k : α) (l : List α) : dd eq (l ++ [k]) = if zw eq l k then dd eq l else dd eq l ++ [k] := by
 cases l with
 | nil => rfl
 | cons x l =>
  have a : dd eq ((x :: l) ++ [k]) = x :: mO eq x (l ++ [k]) := rfl
  have b : dd eq (x :: l) = x :: mO eq x l := rfl
  unfold zw
  rw [a, b, H5 he, NB]
  simp only
  by_cases h : (l.getLast?).getD x = k
  ·rw [h, bD ((he k k).2 rfl), bD ((he k k).2 rfl)]
  ·rw [bB (fun q => h ((he _ _).1 q).symm), bB (fun q => h ((he _ _).1 q))]; rfl
theorem JV (he : ∀ x y, eq x y = true ↔ x = y) (y : α) (B : List α) : ∀ (l : List α) (p : α), y ≠ (l.getLast?).getD p → mO eq p (l ++ y :: B) = mO eq p l ++ y :: mO eq y B
 | [], p, h => by
  have h : y ≠ p := h
  rw [aV]
  have e : mO eq p (y :: B) = if eq y p then mO eq y B else y :: mO eq y B := rfl
  rw [e, bB (fun q => h ((he _ _).1 q))]; rfl
 | z :: l, p, h => by
  have e : ((z :: l).getLast?).getD p = (l.getLast?).getD z := by cases l <;> rfl
  rw [e] at h
  rw [bE, mO, mO, JV he y B l z h]
  split <;> rfl
theorem ND (he : ∀ x y, eq x y = true ↔ x = y) (A : List α) : ∀ B : List α, (∀ y, B.head? = some y → A.getLast? ≠ some y) → dd eq (A ++ B) = dd eq A ++ dd eq B
 | [], _ => by rw [bJ]; show _ = dd eq A ++ []; rw [bJ]
 | y :: B, h => by
  have h := h y rfl
  cases A with
  | nil => rfl
  | cons x A =>
   have e : (x :: A).getLast? = some ((A.getLast?).getD x) := by cases A <;> rfl
   rw [e] at h
   rw [bE, dd, dd, dd, JV he y B A x (fun q => h (by rw [q]))]; rfl
theorem Ie (he : ∀ x y, eq x y = true ↔ x = y) : ∀ (l : List α) (p : α), ((mO eq p l).getLast?).getD p = (l.getLast?).getD p
 | [], p => by rw [mO]
 | y :: l, p => by
  have e : ((y :: l).getLast?).getD p = (l.getLast?).getD y := by cases l <;> rfl
  rw [mO, e, ← Ie he l y]
  by_cases h : eq y p = true
  ·rw [bD h, (he _ _).1 h]
  ·rw [bB h]
   cases mO eq y l <;> rfl
theorem Qs (he : ∀ x y, eq x y = true ↔ x = y) (l : List α) : (dd eq l).getLast? = l.getLast? := by
 cases l with
 | nil => rfl
 | cons x l =>
  have e : ∀ m : List α, (x :: m).getLast? = some ((m.getLast?).getD x) := by intro m; cases m <;> rfl
  rw [dd, e, e, Ie he]
theorem Rg (h : SWO lt) (he : ∀ x y, eq x y = true ↔ x = y) {k : α} {A B : List α} (g : ∀ x ∈ A, lt k x = false) (d : ∀ x ∈ B, lt k x = true) :
  dd eq (A ++ B) = dd eq A ++ dd eq B ∧ dd eq (A ++ k :: B) = (if zw eq A k then dd eq A else dd eq A ++ [k]) ++ dd eq B := by
 have h1 : ∀ y, B.head? = some y → A.getLast? ≠ some y := fun y b a => by
  have := d y (List.mem_of_mem_head? b)
  rw [g y (List.mem_of_getLast? a)] at this; cases this
 refine ⟨ND he A B h1, ?_⟩
 have e : A ++ k :: B = (A ++ [k]) ++ B := by simp
 rw [e, ND he (A ++ [k]) B, PR he]
 intro y b a
 rw [List.getLast?_append] at a
 simp only [List.getLast?_singleton, Option.some_or, gC] at a
 have := d y (List.mem_of_mem_head? b)
 rw [a, h.Pg] at this; cases this
end
theorem Gr (l : List Formula) (k : Formula) (g : ∀ x ∈ l, Gd x) (hk : Gd k) (A : List Formula) (j : ∀ x ∈ A, nq Bf k x = false) : ∀ (m : Nat) (B C : List Formula), B.length = m → l = A ++ B ++ C → (∀ x ∈ B, nq Bf k x = true) → l.length ≤ 1000000 → ∀ n, m < n →
  pI l k n ((A.length + B.length : Nat) : Int) = some (A.length : Int)
 | 0, B, C, hm, a, d, hlen, n + 1, r => by
  obtain rfl := aW hm
  rw [pI]
  simp only [bL, fW]
  rcases dl A with rfl | ⟨A', y, rfl⟩
  ·rfl
  ·rw [dL] at *
   have hp : ((A' ++ [y]).length : Int) > 0 := by simp
   simp only [hp, bY, aR]
   have hw : wi0 .i64 (((A' ++ [y]).length : Int) - 1) = (A'.length : Int) := by
    simp at hlen a ⊢
    rw [a] at hlen
    simp at hlen
    rw [ko (by omega) (by omega)]
   rw [hw, show lE l (A'.length : Int) = some y from by rw [a]; simp only [bJ, aJ]; exact mL A' y C _ rfl, aA]
   have i : y ∈ l := by rw [a]; simp
   obtain ⟨c, e, h⟩ := IX y k (g y i) hk
   have b : ¬ c > 0 := fun q => by have := h.1 q; rw [j y (by simp)] at this; cases this
   rw [e, aA]
   simp [b]
 | m + 1, B, C, hm, a, d, hlen, n + 1, r => by
  rcases dl B with rfl | ⟨B', y, rfl⟩
  ·simp at hm
  ·rw [dL] at *
   rw [pI]
   have hp : ((A.length + (B' ++ [y]).length : Nat) : Int) > 0 := by simp; omega
   simp only [hp, bY, aR]
   have hw : wi0 .i64 (((A.length + (B' ++ [y]).length : Nat) : Int) - 1) = ((A.length + B'.length : Nat) : Int) := by
    rw [a] at hlen
    simp at hlen
    rw [ko (by simp; omega) (by simp; omega)]; simp; omega
   have p : lE l ((A.length + B'.length : Nat) : Int) = some y := by
    rw [a]
    have e : A ++ (B' ++ [y]) ++ C = (A ++ B') ++ y :: C := by simp
    rw [e]
    exact mL (A ++ B') y C _ (by simp)
   rw [hw, p, aA]
   have i : y ∈ l := by rw [a]; simp
   obtain ⟨c, e, h⟩ := IX y k (g y i) hk
   have b : c > 0 := h.2 (d y (by simp))
   rw [e, aA]
   simp only [b, bY, aA, aR]
   exact Gr l k g hk A j m B' (y :: C) (by simp at hm; omega) (by rw [a]; simp) (fun x s => d x (by simp [s])) hlen n (by omega)
theorem Tv {b : Bool} (h : b = true) : rF b = some () := by rw [h]; rfl
theorem Fp (a : Bool) (k : Formula) (ks A B : List Formula) (j : ∀ x ∈ A ++ B, Gd x) (hk : Gd k) (l : ∀ x ∈ A, nq Bf k x = false) (m : ∀ x ∈ B, nq Bf k x = true) (hlen : (A ++ B).length ≤ 1000000) :
  mA a (k :: ks) (A ++ B) = if a && zw qf A k then mA a ks (A ++ B) else mA a ks (A ++ k :: B) := by
 have i := Gr (A ++ B) k j hk A l B.length B [] rfl (by simp) m hlen kd (by rw [lX]; simp at hlen; omega)
 have b : A.length + B.length ≤ 1000000 := by simpa using hlen
 rw [mA, aF, i, aA]
 have rest : ((rF (decide ((0 : Int) ≤ (A.length : Int)) && decide ((A.length : Int) ≤ ((A ++ B).length : Int)))).bind fun _ => (mn 72 ([]) ((A ++ B).take (Int.toNat (A.length : Int)))).bind fun d => (mn 72 d ([k])).bind fun g => (rF (decide ((0 : Int) ≤ (A.length : Int)) && decide ((A.length : Int) ≤ ((A ++ B).length : Int)))).bind fun _ => (mn 72 g ((A ++ B).drop (Int.toNat (A.length : Int)))).bind fun h => mA a ks h) = mA a ks (A ++ k :: B) := by
  rw [Tv (by simp; omega), aA, dC, List.take_left, List.drop_left, me (by simp; omega) (by simp; omega), aA, me (by simp; omega) (by simp; omega), aA, aA, me (by simp; omega) (by simp; omega), aA]
  simp
 rw [aF] at rest
 cases a with
 | false => exact rest
 | true =>
  simp only [aR, aA, dO]
  rcases dl A with rfl | ⟨A', y, rfl⟩
  ·exact rest
  ·rw [dL] at *
   have hp : ((A' ++ [y]).length : Int) > 0 := by simp
   simp only [hp, bY, aR]
   have hw : wi0 .i64 (((A' ++ [y]).length : Int) - 1) = (A'.length : Int) := by
    simp at b ⊢
    rw [ko (by omega) (by omega)]
   have p : lE ((A' ++ [y]) ++ B) (A'.length : Int) = some y := by
    simp only [aJ, bE, aV]
    exact mL A' y B _ rfl
   rw [hw, p, aA, N8 y k (j y (by simp)), aA, aA]
   have n : zw qf (A' ++ [y]) k = qf y k := by unfold zw; rw [List.getLast?_append]; rfl
   rw [n]
   cases qf y k
   ·simp only [aB, aI]; exact rest
   ·rfl
theorem GZ {x : Formula} {l : List Formula} (h : x ∈ dd qf l) : x ∈ l := (Jr (fun _ _ => AB) l x).1 h
theorem FH : ∀ (ks S : List Formula), Lv (nq Bf) S → (∀ x ∈ S, Gd x) → (∀ x ∈ ks, Gd x) → S.length + ks.length ≤ 1000000 → mA true ks (dd qf S) = some (dd qf (ks.foldl (Bc (nq Bf)) S))
 | [], S, _, _, _, _ => by rw [mA]; rfl
 | k :: ks, S, j, g, hk, m => by
  rw [aK] at m
  obtain ⟨A, B, rfl, b, d⟩ := D9 HS k j
  obtain ⟨n, p⟩ := Rg (eq := qf) HS (fun _ _ => AB) b d
  have i := J1 qf (A ++ B)
  rw [n] at i ⊢
  rw [Fp true k ks (dd qf A) (dd qf B) (fun x a => by
   rcases aU.1 a with h | h
   ·exact g x (by simp [GZ h])
   ·exact g x (by simp [GZ h])) (hk k (by simp)) (fun x a => b x (GZ a)) (fun x a => d x (GZ a)) (by omega), gl, G3 b d]
  have q : zw qf (dd qf A) k = zw qf A k := by unfold zw; rw [Qs (eq := qf) (fun _ _ => AB)]
  rw [q, dO]
  have ih := FH ks (A ++ k :: B) (Lh HS j b d) (fun x a => by
   rcases aU.1 a with h | h
   ·exact g x (by simp [h])
   ·rcases aP.1 h with rfl | h
    ·exact hk _ (by simp)
    ·exact g x (by simp [h])) (fun x a => hk x (by simp [a])) (by simp at m ⊢; omega)
  rw [p] at ih
  cases l : zw qf A k
  ·rw [l] at ih
   simp only [aB, aI] at ih ⊢
   rw [← ih]; simp
  ·rw [l] at ih
   simp only [aR] at ih ⊢
   exact ih
theorem GO : ∀ (ks S : List Formula), Lv (nq Bf) S → (∀ x ∈ S, Gd x) → (∀ x ∈ ks, Gd x) → S.length + ks.length ≤ 1000000 → mA false ks S = some (ks.foldl (Bc (nq Bf)) S)
 | [], S, _, _, _, _ => by rw [mA]; rfl
 | k :: ks, S, i, d, hk, j => by
  rw [aK] at j
  obtain ⟨A, B, rfl, a, b⟩ := D9 HS k i
  rw [Fp false k ks A B d (hk k (by simp)) a b (by omega), gl, G3 a b, fV]
  simp only [aB, aI]
  exact GO ks (A ++ k :: B) (Lh HS i a b) (fun x g => by
   rcases aU.1 g with h | h
   ·exact d x (by simp [h])
   ·rcases aP.1 h with rfl | h
    ·exact hk _ (by simp)
    ·exact d x (by simp [h])) (fun x g => hk x (by simp [g])) (by simp at j ⊢; omega)
theorem Sx (l : List Formula) (h : ∀ x ∈ l, Gd x) (a : l.length ≤ 1000000) : vd l true = some (dd qf (vg l)) := FH l [] List.Pairwise.nil (by simp) h (by simpa using a)
theorem TC (l : List Formula) (h : ∀ x ∈ l, Gd x) (a : l.length ≤ 1000000) : vd l false = some (vg l) := GO l [] List.Pairwise.nil (by simp) h (by simpa using a)
theorem E8 (f : Formula) (op : Int) : vt f op = some (li op f) := Dp f op
theorem IY (op : Int) (a : op = 2 ∨ op = 3) (s : kY) : ∀ l : List Formula, pg op s l = some (if l.any (li (5 - op)) then .inl (⟨5 - op, 0, pO, []⟩, s) else .inr ())
 | [] => rfl
 | x :: l => by
  have hw : wi0 .i64 (5 - op) = 5 - op := ko (by omega) (by omega)
  rw [pg, hw, E8, aA, gk, IY op a s l]
  cases li (5 - op) x <;> rfl
theorem Np (op : Int) (a : op = 2 ∨ op = 3) (l : List Formula) (j : nodesL l ≤ 64) : mY op ⟨false⟩ [] l = some (if l.any (li (5 - op)) then ⟨5 - op, 0, pO, []⟩ else match dd qf (vg l) with | [x] => x | r => ⟨op, 0, pO, r⟩, ⟨false⟩) := by
 have g := pM l
 rw [mY, IY op a, aA]
 cases h : l.any (li (5 - op))
 ·simp only [aB, aI]
  rw [Sx l (fun x d => by have := tD d; unfold Gd; omega) (by omega), aA]
  have i := J1 qf (vg l)
  have hp := (yw l).length_eq
  have b : ¬ (((dd qf (vg l)).length : Int) > 64) := by omega
  simp only [b, cD, aB, aI, aA]
  generalize dd qf (vg l) = r
  match r with
  | [] => rfl
  | [x] => rfl
  | x :: y :: r =>
   have : (((x :: y :: r).length : Int) == 1) = false := by simp; omega
   simp only [this, aB, aI]
   rfl
 ·rfl
theorem F7 (op : Int) (d : op = 2 ∨ op = 3) : ∀ (ks acc : List Formula), nodesL acc + nodesL ks ≤ 64 →
  mY op ⟨false⟩ ks acc = some (if (acc ++ nP op ks).any (li (5 - op)) then ⟨5 - op, 0, pO, []⟩ else match dd qf (vg (acc ++ nP op ks)) with | [x] => x | r => ⟨op, 0, pO, r⟩, ⟨false⟩)
 | [], acc, h => by
  rw [nodesL] at h
  rw [nP, bJ]
  exact Np op d acc (by omega)
 | k :: ks, acc, h => by
  rw [nodesL] at h
  have h1 := nU k
  have l := pM k.Kids
  have m := pM acc
  have e : ∀ a b : List Formula, nodesL (a ++ b) = nodesL a + nodesL b := by
   intro a b
   induction a with
   | nil => rw [aV, nodesL]; omega
   | cons x a g => rw [bE, nodesL, nodesL, g]; omega
  have hw : wi0 .i64 (5 - op) = 5 - op := ko (by omega) (by omega)
  rw [mY, nP]
  by_cases c : k.Op = op
  ·simp only [c, aX, aR]
   rw [me (by omega) (by omega), aA, F7 op d ks _ (by rw [e]; omega), aJ]
  ·have i : (k.Op == op) = false := by simpa using c
   simp only [i, aB, aI, c]
   rw [E8, hw, aA]
   cases j : li (5 - op) k
   ·simp only [aB, aI]
    rw [me (by simp; omega) (by simp; omega), aA, F7 op d ks _ (by rw [e, nodesL, nodesL]; omega), aJ]
   ·simp only [aR]
    have : (acc ++ ([k] ++ nP op ks)).any (li (5 - op)) = true := by simp [j]
    rw [this]; rfl
theorem LL (op : Int) (a : op = 2 ∨ op = 3) (ks : List Formula) (h : nodesL ks ≤ 64) : pb ⟨false⟩ op ks = some (oZ op ks, ⟨false⟩) := by
 unfold pb oZ
 rw [F7 op a ks [] (by rw [nodesL]; omega), aV]
 rfl
theorem BC : ∀ (ks acc : List Formula) (k : Int), -1000 ≤ k - (ks.length : Int) → k ≤ 1000 → acc.length + ks.length ≤ 1000 →
  mQ ks k acc = some (k - ((ks.filter (li 2)).length : Int), acc ++ ks.filter fun x => !li 2 x && !li 3 x)
 | [], acc, k, h1, a, b => by rw [mQ]; simp
 | x :: ks, acc, k, h1, a, b => by
  simp only [aK] at h1 b
  rw [mQ, E8, aA, E8, aA]
  rw [dJ, dJ]
  cases c2 : li 2 x
  ·cases d : li 3 x
   ·simp only [dt, iR, aB, aI, aR]
    rw [me (by simp; omega) (by simp; omega), aA, BC ks _ k (by omega) a (by simp; omega)]
    simp only [aJ, bE, aV]
   ·simp only [dt, cI, iG, aB, aI]
    rw [BC ks _ k (by omega) a (by omega)]
  ·simp only [cI, fV, aB, aI, aR]
   rw [ko (by omega) (by omega), BC ks _ (k - 1) (by omega) (by omega) (by omega)]
   simp only [aK]
   have e : k - 1 - ((ks.filter (li 2)).length : Int) = k - (((ks.filter (li 2)).length + 1 : Nat) : Int) := by omega
   rw [e]
theorem Rc : ∀ (n : Nat) (f : Formula), nJ f ≤ n → kx f ≤ 64 → tp f = true → mV n ⟨false⟩ f = some (pE f, ⟨false⟩) := by
 intro n
 induction n with
 | zero => intro f h; rw [mF] at h; omega
 | succ n ih =>
  intro f v I hw
  rw [mF] at v
  have w := nU f
  obtain ⟨h1, u, q⟩ := xA hw
  rw [mV]
  unfold so
  rw [zW]
  by_cases c1 : f.Op = 1
  ·simp only [c1, aX, aR]
  ·have r : (f.Op == 1) = false := by simpa using c1
   simp only [r, aB, aI, c1]
   have last : ∀ acc : List Formula, nodesL acc ≤ 64 → nk (mV n) f [] acc ⟨false⟩ = some (if f.Op = 4 then sW f.K acc else oZ f.Op acc, ⟨false⟩) := by
    intro acc b
    have hlen := pM acc
    have G := yT (fun x => !li 2 x && !li 3 x) acc
    rw [nk]
    by_cases p : f.Op = 4
    ·have hk : 0 ≤ f.K ∧ f.K ≤ (f.Kids.length : Int) := by rcases q with h | h | h <;> omega
     have i : ¬ f.Op < 4 := by omega
     simp only [i, p, cD, aB, aI, aR]
     rw [BC acc [] f.K (by omega) (by omega) (by simp; omega), aA, aV]
     unfold sW
     simp only
     have g := pM (acc.filter fun x => !li 2 x && !li 3 x)
     have hm : ∀ x ∈ (acc.filter fun x => !li 2 x && !li 3 x), Gd x := fun x y => by have := tD y; unfold Gd; omega
     generalize (acc.filter fun x => !li 2 x && !li 3 x) = l at *
     generalize f.K - ((acc.filter (li 2)).length : Int) = k
     by_cases d1 : k ≤ 0
     ·simp only [d1, bY, aR]; rfl
     ·simp only [d1, cD, aB, aI]
      by_cases d2 : k > (l.length : Int)
      ·simp only [d2, bY, aR]; rfl
      ·simp only [d2, cD, aB, aI]
       by_cases d3 : k = (l.length : Int)
       ·simp only [← d3, aX, aR]
        rw [LL 2 (.inl rfl) l (by omega), aA]
        rfl
       ·have s : (k == (l.length : Int)) = false := by simpa using d3
        simp only [s, aB, aI, d3]
        by_cases d4 : k = 1
        ·simp only [d4, aX, aR]
         rw [LL 3 (.inr rfl) l (by omega), aA]
         rfl
        ·have t : (k == 1) = false := by simpa using d4
         simp only [t, aB, aI, d4]
         rw [TC l hm (by omega)]
         rfl
    ·have j : f.Op = 2 ∨ f.Op = 3 := by rcases q with h | h | h <;> omega
     have i : f.Op < 4 := by omega
     simp only [i, p, bY, aR, aI]
     rw [LL f.Op j acc b, aA]
   have key : ∀ (ks acc : List Formula), (∀ k ∈ ks, k ∈ f.Kids) → wellL ks = true → nodesL (acc ++ shapeL ks) ≤ 64 → nodesL ks ≤ 64 → nk (mV n) f ks acc ⟨false⟩ = some (if f.Op = 4 then sW f.K (acc ++ shapeL ks) else oZ f.Op (acc ++ shapeL ks), ⟨false⟩) := by
    intro ks
    induction ks with
    | nil =>
     intro acc _ _ b _
     rw [shapeL, bJ] at *
     exact last acc b
    | cons k ks m =>
     intro acc hk a b g
     rw [wellL, bF] at a
     rw [nodesL] at g
     rw [shapeL] at b
     have d := pM (acc ++ pE k :: shapeL ks)
     simp only [aF, aK] at d
     rw [nk, ih k (by have := qK (hk k (by simp)); omega) (by omega) a.1, aA, me (by simp; omega) (by simp; omega), aA,
      m (acc ++ [pE k]) (fun z E => hk z (by simp [E])) a.2 (by rw [aJ]; exact b) (by omega), shapeL]
     simp only [aJ, bE, aV]
   have := D5 f.Kids
   have := key f.Kids [] (fun k hk => hk) u (by simpa using by omega) (by omega)
   simpa using this
theorem PF (f : Formula) (h : Gd f) : yD f = some (xn f) := by
 unfold yD xn
 rw [Ke f h, aA]
 cases b : nB f
 ·rfl
 ·obtain ⟨h1, d, a⟩ := zn b
  have g := zK f
  simp only [cI, aB, aI, aR]
  rw [Rc kd f (by rw [lX]; omega) h1 a, aA, Ke (pE f) (by unfold Gd; omega)]
  simp only [aB, aI, aA]
  cases nB (pE f) <;> rfl
theorem Hg (c : js) : ∀ (l : List nF) (e o k : Int) (r : jr) (ks : List Formula), (∀ a ∈ l, kx a.jB ≤ 10000000) → kx ⟨o, k, r, ks⟩ ≤ 64 →
  sQ c l e o k r ks = some (let t := pc (⟨o, k, r, ks⟩, e) ((l.filter fun a => po lD a.mu c).map (·.jB)); (t.2, t.1.Op, t.1.K, t.1.jr, t.1.Kids))
 | [], e, o, k, r, ks, _, _ => by rw [sQ, gZ, eG, pc]
 | a :: l, e, o, k, r, ks, h, p => by
  have ha := h a (by simp)
  have j : ∀ x ∈ l, kx x.jB ≤ 10000000 := fun x v => h x (by simp [v])
  rw [sQ, dJ, Ht]
  by_cases d : e = 0
  ·have i : (e == 0) = true := by simp [d]
   simp only [i, aR, aA]
   cases y : po lD a.mu c
   ·simp only [aB, aI]
    exact Hg c l e o k r ks j p
   ·simp only [aR]
    rw [bH, pc]
    simp only [d, aR]
    have s : Gd ⟨2, 0, pO, [⟨o, k, r, ks⟩, a.jB]⟩ := by show kx _ ≤ _; rw [kx, nodesL, nodesL, nodesL]; omega
    rw [show (⟨2, 0, (⟨zS, zS⟩ : jr), [(⟨o, k, r, ks⟩ : Formula), a.jB]⟩ : Formula) = ⟨2, 0, pO, [⟨o, k, r, ks⟩, a.jB]⟩ from rfl, PF _ s, aA]
    have u := yp (f := ⟨2, 0, pO, [⟨o, k, r, ks⟩, a.jB]⟩)
    generalize xn ⟨2, 0, pO, [⟨o, k, r, ks⟩, a.jB]⟩ = q at *
    obtain ⟨⟨o', k', w, n⟩, e'⟩ := q
    exact Hg c l e' o' k' w n j u
  ·have i : (e == 0) = false := by simpa using d
   simp only [i, aB, aI, aA]
   rw [Hg c l e o k r ks j p]
   have b : ∀ m : List Formula, pc (⟨o, k, r, ks⟩, e) m = (⟨o, k, r, ks⟩, e) := by
    intro m
    cases m with
    | nil => rw [pc]
    | cons g m => rw [pc]; simp only [d, aI]
   rw [b, b]
theorem MW (c : js) (p : kL) (hp : PB p) : ∀ l : List kD, (∀ x ∈ l, x ∈ p.jN) → vT c p l = some (match l.find? (fun x => lD x.Signed.js c) with | none => (FD, 42) | some x => B4 x.jB ((yJ p c).map (·.jB)))
 | [], _ => rfl
 | x :: l, h => by
  rw [vT, fK]
  cases j : lD x.Signed.js c
  ·simp only [dt, aR]
   exact MW c p hp l (fun z g => h z (by simp [g]))
  ·simp only [cI, aB, aI]
   have m := hp.rel x (h x (by simp))
   have d := yp (f := x.jB)
   rw [PF _ (by unfold Gd; omega), aA]
   unfold B4 yJ
   generalize xn x.jB = q at *
   obtain ⟨⟨o, k, r, ks⟩, e⟩ := q
   rw [Hg c p.ky e o k r ks hp.OE d, aA]
   simp only
   generalize pc (⟨o, k, r, ks⟩, e) ((p.ky.filter fun a => po lD a.mu c).map (·.jB)) = t
   obtain ⟨⟨o', k', n, i⟩, e'⟩ := t
   by_cases c1 : e' = 0
   ·subst c1; rfl
   ·have b : (e' != 0) = true := by simp [c1]
    simp only [b, aR, c1, aI]; rfl
theorem Sy (p : kL) (hp : PB p) (c : js) : Aw p c = some (pv p c) := by
 unfold Aw pv zD
 refine (MW c p hp _ (fun x a => a)).trans ?_
 cases p.jN.find? (fun x => lD x.Signed.js c) <;> rfl
theorem Tt (l : List jr) (r : jr) : zy l r = some (po jQ l r) := by
 unfold zy
 induction l with
 | nil => rfl
 | cons x l ih =>
  rw [wY, ih]
  have e : po jQ (x :: l) r = (jQ r x || po jQ l r) := rfl
  have a : jQ x r = jQ r x := by rw [bU, jR, jR]; exact eq_comm
  rw [e, a]
  cases jQ r x <;> rfl
theorem FT (l : List jr) (rec : Formula → List jr → Option Bool) (f : Formula) (v : jr → Bool) : ∀ (ks : List Formula) (x : Nat), (∀ k ∈ ks, rec k l = some (pR v k)) → x + ks.length ≤ 100000000 →
  rc rec l f ks (x : Int) = some (if f.Op = 2 then decide (x + evN v ks = f.Kids.length) else if f.Op = 3 then decide (0 < x + evN v ks) else decide (f.K ≤ ((x + evN v ks : Nat) : Int)))
 | [], x, _, _ => by
  rw [rc, evN, fW]
  by_cases c2 : f.Op = 2
  ·simp only [c2, aX, aR]
   congr 1
   rw [bU, iA, bW]; omega
  ·have b : (f.Op == 2) = false := by simpa using c2
   simp only [b, aB, aI, c2]
   by_cases a : f.Op = 3
   ·simp only [a, aX, aR]
    congr 1
    rw [bU, bW, bW]; omega
   ·have g : (f.Op == 3) = false := by simpa using a
    simp only [g, aB, aI, a]
    first | done | rfl
 | k :: ks, x, h, i => by
  rw [aK] at i
  rw [rc, h k (by simp), aA, evN]
  cases pR v k
  ·simp only [aB, aI]
   rw [FT l rec f v ks x (fun z d => h z (by simp [d])) (by omega), dV]
  ·simp only [aR]
   have e : wi0 .i64 ((x : Int) + 1) = ((x + 1 : Nat) : Int) := by rw [ko (by omega) (by omega)]; omega
   rw [e, FT l rec f v ks (x + 1) (fun z d => h z (by simp [d])) (by omega)]
   have b : x + 1 + evN v ks = x + (1 + evN v ks) := by omega
   rw [b]
theorem Sk (l : List jr) : ∀ (n : Nat) (f : Formula), nJ f ≤ n → Gd f → su n f l = some (pR (po jQ l) f) := by
 intro n
 induction n with
 | zero => intro f h; rw [mF] at h; omega
 | succ n ih =>
  intro f b d
  rw [mF] at b
  have g := nU f
  have i := pM f.Kids
  unfold Gd at d
  rw [su]
  unfold xx
  rw [vp, Tt]
  by_cases c1 : f.Op = 1
  ·simp only [c1, aX, aR, aA]
  ·have a : (f.Op == 1) = false := by simpa using c1
   simp only [a, aB, aI, c1]
   have := FT l (su n) f (po jQ l) f.Kids 0 (fun k hk => ih k (by have := qK hk; omega) (by have := tD hk; unfold Gd; omega)) (by omega)
   simpa using this
theorem NZ (F : List jM) (w : ByteArray) : po jQ (Jt F w) = vF F w := by
 funext r
 unfold vF Jt
 rw [bU, sX jR, sX zt, bI]
 constructor
 ·rintro ⟨f, b, rfl⟩
  obtain ⟨h1, a⟩ := cN.1 b
  have := mg.1 a
  rw [← this]; exact h1
 ·intro h
  exact ⟨⟨r, w⟩, cN.2 ⟨h, mg.2 rfl⟩, rfl⟩
theorem Dw (p : kL) (hp : PB p) (l : List jr) (v : jr → Bool) (a : po jQ l = v) : ∀ (xs : List kD) (acc : List js), acc.length + xs.length ≤ 1000000000 → qW p l xs acc = xK (acc ++ (xs.filter (zI p v)).map (·.Signed.js))
 | [], acc, _ => by rw [qW, gZ, eG, bJ, ot]
 | x :: xs, acc, h => by
  rw [aK] at h
  have g := HT p x.Signed.js
  have d := xh (pv p x.Signed.js).1
  rw [qW, Sy p hp, aA, Sk l kd _ (by rw [lX]; omega) (by unfold Gd; omega), a, dJ]
  unfold zI
  by_cases c : (pv p x.Signed.js).2 = 0
  ·have b := (M7 c).1
   simp only [c, aX, aR, bY, dO, aA]
   unfold ux
   rw [b, dO]
   cases i : pR v (pv p x.Signed.js).1
   ·simp only [aB, aI]
    exact Dw p hp l v a xs acc (by omega)
   ·simp only [aR]
    rw [me (by simp; omega) (by simp; omega), aA, Dw p hp l v a xs _ (by simp; omega)]
    simp only [bH, aJ, bE, aV]
    rfl
  ·have e : ((pv p x.Signed.js).2 == 0) = false := by simpa using c
   simp only [e, aB, aI, c, cD, fV, aA]
   exact Dw p hp l v a xs acc (by omega)
theorem IU (p : kL) (hp : PB p) (l : List js) (d : l.length ≤ 30000) (peer : ByteArray) : wM p l peer = pj p l peer := by
 obtain ⟨F, a⟩ := TH l d
 obtain ⟨s, e, g⟩ := PU p hp a peer
 have := hp.IT
 have h1 : (p.jN.filter (zI p (vF F peer))).length ≤ p.jN.length := eu _ _
 have hlen := a.len
 unfold wM
 rw [a.ref, aA, show vH F peer = some (Jt F peer) from QT F peer (by omega), aA, e]
 rw [Dw p hp _ (vF F peer) (NZ F peer) p.jN [] (by simp; omega), aV]
 obtain ⟨t, b, h⟩ := Lj ((p.jN.filter (zI p (vF F peer))).map (·.Signed.js)) (by simp; omega)
 rw [b, wx.unique CF h g]
mutual
def zb : Formula → Nat
 | ⟨_, _, r, ks⟩ => 1 + r.ju.size + r.jy.size + szFL ks
def szFL : List Formula → Nat
 | [] => 0
 | k :: ks => zb k + szFL ks
end
theorem JU (f : Formula) : zb f = 1 + f.jr.ju.size + f.jr.jy.size + szFL f.Kids := by cases f; rw [zb]
theorem BE : ∀ f : Formula, kx f ≤ zb f := by
 refine I4 fun f ih => ?_
 have : ∀ ks : List Formula, (∀ k ∈ ks, kx k ≤ zb k) → nodesL ks ≤ szFL ks := by
  intro ks
  induction ks with
  | nil => intro _; rw [nodesL]; omega
  | cons k ks a =>
   intro h
   have := a (fun x b => h x (by simp [b]))
   have := h k (by simp)
   rw [nodesL, szFL]; omega
 have := this f.Kids ih
 rw [nU, JU]; omega
def ye : List js → Nat
 | [] => 0
 | c :: l => 20 + xV c + ye l
theorem g5 : ∀ (l : List js) (n : Int), 0 ≤ n → n + (ye l : Int) ≤ 4000000000000000000 → rK l n = some (n + (ye l : Int))
 | [], n, _, _ => by rw [rK, ye]; simp
 | c :: l, n, b, a => by
  have e : xV c = c.Head.ju.size + c.Head.jy.size + c.kE.size + c.B.ju.size + c.B.jy.size + c.C.ju.size + c.C.jy.size + c.kM.size := rfl
  rw [ye] at a
  rw [rK]
  rw [ko (x := 20 + (c.Head.ju.size : Int)) (by omega) (by omega), ko (x := 20 + (c.Head.ju.size : Int) + (c.Head.jy.size : Int)) (by omega) (by omega), ko (x := 20 + (c.Head.ju.size : Int) + (c.Head.jy.size : Int) + (c.kE.size : Int)) (by omega) (by omega), ko (x := 20 + (c.Head.ju.size : Int) + (c.Head.jy.size : Int) + (c.kE.size : Int) + (c.B.ju.size : Int)) (by omega) (by omega), ko (x := 20 + (c.Head.ju.size : Int) + (c.Head.jy.size : Int) + (c.kE.size : Int) + (c.B.ju.size : Int) + (c.B.jy.size : Int)) (by omega) (by omega), ko (x := 20 + (c.Head.ju.size : Int) + (c.Head.jy.size : Int) + (c.kE.size : Int) + (c.B.ju.size : Int) + (c.B.jy.size : Int) + (c.C.ju.size : Int)) (by omega) (by omega), ko (x := 20 + (c.Head.ju.size : Int) + (c.Head.jy.size : Int) + (c.kE.size : Int) + (c.B.ju.size : Int) + (c.B.jy.size : Int) + (c.C.ju.size : Int) + (c.C.jy.size : Int)) (by omega) (by omega), ko (x := 20 + (c.Head.ju.size : Int) + (c.Head.jy.size : Int) + (c.kE.size : Int) + (c.B.ju.size : Int) + (c.B.jy.size : Int) + (c.C.ju.size : Int) + (c.C.jy.size : Int) + (c.kM.size : Int)) (by omega) (by omega), ko (by omega) (by omega)]
  rw [g5 l _ (by omega) (by omega), ye]
  congr 1; omega
theorem T5 : ∀ (n : Nat) (l : List Formula), deepL l < n → szFL l ≤ 1000000000000 → ∃ r : Int, oM n l = some r ∧ 0 ≤ r ∧ r ≤ (szFL l : Int) := by
 intro n
 induction n with
 | zero => intro l h; omega
 | succ n ih =>
  intro l h g
  rw [oM]
  unfold wC
  have key : ∀ (l : List Formula) (x : Int), deepL l < n + 1 → 0 ≤ x → x + (szFL l : Int) ≤ 1000000000000 → ∃ r : Int, rR (oM n) l x = some r ∧ 0 ≤ r ∧ r ≤ x + (szFL l : Int) := by
   intro l
   induction l with
   | nil => intro x _ i _; exact ⟨x, by rw [rR], i, by rw [szFL]; simp⟩
   | cons k l b =>
    intro x h i g
    rw [deepL] at h
    rw [szFL] at g
    have hk := JU k
    have := mF k
    obtain ⟨r, e, h1, j⟩ := ih k.Kids (by omega) (by omega)
    rw [rR, e, aA]
    have q : 0 ≤ Int.tdiv ((k.jr.ju.size : Int) + (k.jr.jy.size : Int)) 16 ∧ Int.tdiv ((k.jr.ju.size : Int) + (k.jr.jy.size : Int)) 16 ≤ (k.jr.ju.size : Int) + (k.jr.jy.size : Int) := by
     rw [Int.tdiv_eq_ediv_of_nonneg (by omega)]
     omega
    rw [ko (x := (k.jr.ju.size : Int) + (k.jr.jy.size : Int)) (by omega) (by omega)]
    generalize Int.tdiv ((k.jr.ju.size : Int) + (k.jr.jy.size : Int)) 16 = d at *
    rw [ko (x := d) (by omega) (by omega), ko (x := 1 + d) (by omega) (by omega), ko (x := 1 + d + r) (by omega) (by omega), ko (x := x + (1 + d + r)) (by omega) (by omega)]
    obtain ⟨p, e', a, m⟩ := b (x + (1 + d + r)) (by omega) (by omega) (by omega)
    exact ⟨p, e', a, by rw [szFL]; omega⟩
  obtain ⟨r, e, h1, j⟩ := key l 0 h (by omega) (by omega)
  exact ⟨r, e, h1, by omega⟩
theorem Hx (f : Formula) (h : zb f ≤ 50000000) : ∃ r : Int, oM kd [f] = some r ∧ 0 ≤ r ∧ r ≤ (zb f : Int) := by
 have h1 := BE f
 have d := xh f
 obtain ⟨r, e, a, b⟩ := T5 kd [f] (by rw [deepL, deepL, lX]; omega) (by rw [szFL, szFL]; omega)
 refine ⟨r, e, a, ?_⟩
 rw [szFL, szFL] at b; omega
theorem g6 (s : Signed) (h : xV s.js + s.Tag.length ≤ 1000000000) : uq [] [s] = some (20 + (xV s.js : Int) + (s.Tag.length : Int)) := by
 unfold uq
 rw [qk, rS]
 have := g5 [s.js] 0 (by omega) (by rw [ye, ye]; omega)
 rw [show vL [s.js] = _ from this, aA, rS, ye, ye]
 rw [ko (x := 0 + ((20 + xV s.js + 0 : Nat) : Int) + (s.Tag.length : Int)) (by omega) (by omega), ko (by omega) (by omega)]
 simp only [aA]
 congr 1; omega
def BR : List kD → Nat
 | [] => 0
 | x :: l => 20 + xV x.Signed.js + x.Signed.Tag.length + 20 * zb x.jB + BR l
def AL : List nF → Nat
 | [] => 0
 | a :: l => a.jr.ju.size + a.jr.jy.size + 20 * zb a.jB + ye a.mu + AL l
def H6 (p : kL) : Nat := p.Name.size + BR p.jN + AL p.ky
theorem NU : ∀ (l : List nF) (x : Int), 0 ≤ x → x + (AL l : Int) ≤ 1000000000 → ∃ r : Int, rU l x = some r ∧ x ≤ r ∧ r ≤ x + (AL l : Int)
 | [], x, _, _ => ⟨x, by rw [rU], by omega, by rw [AL]; omega⟩
 | a :: l, x, i, h => by
  rw [AL] at h
  obtain ⟨r, e, h1, j⟩ := Hx a.jB (by omega)
  have b := g5 a.mu 0 (by omega) (by omega)
  rw [rU, e, aA, show vL a.mu = _ from b, aA]
  rw [ko (x := (a.jr.ju.size : Int) + (a.jr.jy.size : Int)) (by omega) (by omega), ko (x := 20 * r) (by omega) (by omega), ko (x := (a.jr.ju.size : Int) + (a.jr.jy.size : Int) + 20 * r) (by omega) (by omega), ko (x := (a.jr.ju.size : Int) + (a.jr.jy.size : Int) + 20 * r + (0 + (ye a.mu : Int))) (by omega) (by omega), ko (by omega) (by omega)]
  obtain ⟨d, e', g, a2⟩ := NU l (x + ((a.jr.ju.size : Int) + (a.jr.jy.size : Int) + 20 * r + (0 + (ye a.mu : Int)))) (by omega) (by omega)
  exact ⟨d, e', by omega, by rw [AL]; omega⟩
theorem Td (p : kL) (g : H6 p ≤ 1000000000) : ∃ r : Int, vV p = some r ∧ 20 * (p.jN.length : Int) ≤ r ∧ r ≤ (H6 p : Int) := by
 unfold H6 at g
 have key : ∀ (l : List kD) (x : Int), 0 ≤ x → x + (BR l : Int) + (AL p.ky : Int) ≤ 1000000000 → ∃ r : Int, rL p l x = some r ∧ x + 20 * (l.length : Int) ≤ r ∧ r ≤ x + (BR l : Int) + (AL p.ky : Int) := by
  intro l
  induction l with
  | nil =>
   intro x d h
   rw [BR] at h
   obtain ⟨r, e, a, b⟩ := NU p.ky x d (by omega)
   exact ⟨r, by rw [rL, e]; rfl, by simp; omega, by rw [BR]; omega⟩
  | cons y l ih =>
   intro x d h
   rw [BR] at h
   obtain ⟨r, e, h1, j⟩ := Hx y.jB (by omega)
   rw [rL, g6 y.Signed (by omega)]
   simp only [aA]
   rw [e, aA]
   rw [ko (x := 20 * r) (by omega) (by omega), ko (x := 20 + (xV y.Signed.js : Int) + (y.Signed.Tag.length : Int) + 20 * r) (by omega) (by omega), ko (by omega) (by omega)]
   obtain ⟨i, e', a, b⟩ := ih (x + (20 + (xV y.Signed.js : Int) + (y.Signed.Tag.length : Int) + 20 * r)) (by omega) (by omega)
   exact ⟨i, e', by rw [aK]; omega, by rw [BR]; omega⟩
 obtain ⟨r, e, a, b⟩ := key p.jN (p.Name.size : Int) (by omega) (by omega)
 unfold vV
 exact ⟨r, e, by omega, by unfold H6; omega⟩
def CL : List Key → Nat
 | [] => 0
 | k :: l => 10 + k.kE.size + k.Key.length + CL l
theorem Tf : ∀ (ks : List Key) (x : Int), 0 ≤ x → x + (CL ks : Int) ≤ 2000000000 → qk [] ks x = some (x + (CL ks : Int))
 | [], x, _, _ => by rw [qk, rS, CL]; simp
 | k :: ks, x, a, h => by
  rw [CL] at h
  rw [qk, ko (x := 10 + (k.kE.size : Int)) (by omega) (by omega), ko (x := 10 + (k.kE.size : Int) + (k.Key.length : Int)) (by omega) (by omega), ko (by omega) (by omega), Tf ks _ (by omega) (by omega), CL]
  congr 1; omega
structure PQ (p : na) : Prop extends PP p where
 go : H6 p.ju ≤ 1000000000
 gc : H6 p.Client ≤ 1000000000
 fs : zb p.Formula ≤ 50000000
 ks : CL p.Keys ≤ 1000000000
theorem TU (p : na) (hp : PQ p) : ∃ r : Int, xY p = some r ∧ 20 * (p.ju.jN.length : Int) + 20 * (p.Client.jN.length : Int) ≤ r := by
 have d := hp.go
 have b := hp.gc
 have n := hp.ks
 have a := hp.fs
 obtain ⟨g, j, q, s⟩ := Td p.ju d
 obtain ⟨h, k, a2, t⟩ := Td p.Client b
 obtain ⟨i, l, a3, u⟩ := Hx p.Formula a
 have m := Tf p.Keys 0 (by omega) (by omega)
 unfold xY
 rw [j, aA, k, aA]
 simp only [aA]
 rw [l, aA, show uq p.Keys [] = _ from m, aA]
 rw [ko (x := g + h) (by omega) (by omega), ko (x := 20 * i) (by omega) (by omega), ko (x := g + h + 20 * i) (by omega) (by omega), ko (by omega) (by omega)]
 exact ⟨_, rfl, by omega⟩
def SY (l : List kD) (i : Int) : Prop := 0 ≤ i ∧ i < l.length
instance (l : List kD) (i : Int) : Decidable (SY l i) := by unfold SY; infer_instance
theorem SS {p x q y : Nat} : ((if ((p : Int) == (x : Int)) then some ((q : Int) == (y : Int)) else some false) : Option Bool) = some (decide (p = x ∧ q = y)) := by
 by_cases h : p = x
 ·subst h
  simp only [aX, aR, true_and]
  congr 1
  rw [bU]; simp; omega
 ·have : ((p : Int) == (x : Int)) = false := by rw [fz]; omega
  rw [this]; simp [h]
abbrev RL := List (List js × List js)
def oK (p x : List js) : List js := p.filter fun c => !po lD x c
theorem pJ {p x : List js} {c : js} : c ∈ oK p x ↔ c ∈ p ∧ c ∉ x := by
 unfold oK
 rw [cN, fj, ← eC, sX nN]
inductive Ao (a b : kL) : List js → List js → RL → List js → List js → Prop
 | done {x y : List js} : oe x → oe y → (∀ c, c ∈ x ↔ qS a y b.Name c) → (∀ c, c ∈ y ↔ qS b x a.Name c) → Ao a b x y [] x y
 | step {x y p q X Y : List js} {L : RL} : oe x → oe y → oe p → oe q → (∀ c ∈ x, c ∈ p) → (∀ c ∈ y, c ∈ q) → (∀ c, c ∈ p ↔ qS a y b.Name c) → (∀ c, c ∈ q ↔ qS b x a.Name c) → ¬ (p.length = x.length ∧ q.length = y.length) → Ao a b p q L X Y → Ao a b x y ((oK p x, oK q y) :: L) X Y
theorem yn {p : kL} (hp : PB p) {l : List js} (a : l.length ≤ 1000000) {peer : ByteArray} {s : List js} (d : oe s) (h : ∀ c, c ∈ s ↔ qS p l peer c) : pj p l peer = some s := by
 obtain ⟨t, e, st, b, _⟩ := LN p hp l a peer
 rw [e, st.ext d (fun c => by rw [b, h])]
theorem MY (a b : kL) (ha : PB a) (s : PB b) (I : a.jN.length ≤ 600000) (J : b.jN.length ≤ 600000) : ∀ (n : Nat) (x y : List js) (i : Nat), oe x → oe y → (∀ c ∈ x, qS a y b.Name c) → (∀ c ∈ y, qS b x a.Name c) →
  a.jN.length + b.jN.length < n + x.length + y.length → i + a.jN.length + b.jN.length ≤ 10000000 + x.length + y.length →
  ∃ L X Y, Ao a b x y L X Y ∧ wU a b n x y (i : Int) = some (X, Y, ((i + L.length : Nat) : Int)) ∧ L.length + x.length + y.length ≤ a.jN.length + b.jN.length
 | 0, x, y, i, g, h, j, k, G, E => by
  have h1 := tG g (fun c d => (j c d).1)
  have w := tG h (fun c d => (k c d).1)
  omega
 | n + 1, x, y, i, g, h, j, k, G, E => by
  have h1 := tG g (fun c d => (j c d).1)
  have w := tG h (fun c d => (k c d).1)
  obtain ⟨p, t, sp, mp, Q⟩ := LN a ha y (by omega) b.Name
  obtain ⟨q, u, sq, l, R⟩ := LN b s x (by omega) a.Name
  have m : ∀ c ∈ x, c ∈ p := fun c d => (mp c).2 (j c d)
  have r : ∀ c ∈ y, c ∈ q := fun c d => (l c).2 (k c d)
  have O := g.le m
  have P := h.le r
  rw [wU, t, aA, u, aA, SS]
  by_cases c1 : p.length = x.length ∧ q.length = y.length
  ·rw [fC c1]
   simp only [aA, aR]
   obtain rfl := g.eq sp m (by omega)
   obtain rfl := h.eq sq r (by omega)
   exact ⟨[], _, _, .done g h mp l, by simp, by simp; omega⟩
  ·rw [decide_eq_false c1]
   simp only [aA, aB, aI]
   obtain ⟨L, X, Y, z, v, M⟩ := MY a b ha s I J n p q (i + 1) sp sq (fun c d => zJ r ((mp c).1 d)) (fun c d => zJ m ((l c).1 d)) (by omega) (by omega)
   refine ⟨_, X, Y, .step g h sp sq m r mp l c1 z, ?_, by simp; omega⟩
   rw [ko (by omega) (by omega), show ((i : Int) + 1) = ((i + 1 : Nat) : Int) by omega, v, aK]
   congr 3; omega
theorem Hh (p x : List js) (h : p.length ≤ 1000000) : vk p x = some (oK p x) := by
 unfold vk
 rw [ot, JA, FP _ (fun c => po lD x c) zC p (by omega) (fun c _ => by unfold uU pB; rw [ot, ot, Dd])]
 rfl
theorem B6 (x : List js) : ∀ (p acc : List js), acc.length + p.length ≤ 1000000 → qi x p acc = some (acc ++ oK p x)
 | [], acc, _ => by rw [qi]; simp [oK]
 | c :: p, acc, h => by
  rw [aK] at h
  rw [qi, Ht, aA]
  cases a : po lD x c
  ·simp only [dt, aR]
   rw [me (by simp; omega) (by simp; omega), aA, B6 x p _ (by simp; omega)]
   simp [oK, a]
  ·simp only [cI, aB, aI]
   rw [B6 x p acc (by omega)]
   simp [oK, a]
theorem Dj (p x : List js) (h : p.length ≤ 1000000) : vI p x = some (oK p x) := by
 unfold vI
 rw [B6 x p [] (by simpa using h), aV]
theorem LD {p x : List js} (i : oe x) (sp : oe p) (b : ∀ c ∈ x, c ∈ p) (k : p.length ≤ 600000) : uD (x ++ oK p x) = some p := by
 have h1 : (oK p x).length ≤ p.length := eu _ _
 have j := i.le b
 obtain ⟨s, e, h⟩ := Oc (x ++ oK p x) (by simp; omega)
 have g : oe s := ⟨h.1, fun c a => ((h.2 c).1 a).2⟩
 rw [e, g.ext sp fun c => by
  rw [h.2, aU, pJ]
  constructor
  ·rintro ⟨h | h, _⟩
   ·exact b c h
   ·exact h.1
  ·intro a
   exact ⟨(Classical.em (c ∈ x)).imp id fun d => ⟨a, d⟩, sp.2 c a⟩]
theorem EW {p x : List js} (j : oe x) (sp : oe p) (k : ∀ c ∈ x, c ∈ p) : x.length + (oK p x).length = p.length := by
 have b : (x ++ oK p x).Nodup := bX.2 ⟨j.nodup, sp.nodup.filter _, fun c a d i h => (pJ.1 (h ▸ i)).2 a⟩
 have h1 := lQ b (m := p) (fun c a => (aU.1 a).elim (k c) fun h => (pJ.1 h).1)
 have g := lQ sp.nodup (m := x ++ oK p x) (fun c a => aU.2 ((Classical.em (c ∈ x)).imp id fun b => pJ.2 ⟨a, b⟩))
 simp at h1 g
 omega
def yQ {σ : Type} (f : σ → Int × kF → Option (Bool × σ)) : Nat → RL → σ → Option σ
 | _, [], s => some s
 | i, r :: L, s => (f s ((i : Int), ⟨r.1, r.2⟩)).bind fun z => if z.1 then yQ f (i + 1) L z.2 else some z.2
theorem Ao.len {a b : kL} {x y X Y : List js} {L : RL} (h : Ao a b x y L X Y) : oe X ∧ oe Y ∧ (∀ c, c ∈ X ↔ qS a Y b.Name c) ∧ (∀ c, c ∈ Y ↔ qS b X a.Name c) ∧ (∀ c ∈ x, c ∈ X) ∧ (∀ c ∈ y, c ∈ Y) := by
 induction h with
 | done j k g i => exact ⟨j, k, g, i, fun _ h => h, fun _ h => h⟩
 | step _ _ _ _ l m _ _ _ _ ih => exact ⟨ih.1, ih.2.1, ih.2.2.1, ih.2.2.2.1, fun c d => ih.2.2.2.2.1 c (l c d), fun c d => ih.2.2.2.2.2 c (m c d)⟩
theorem Gm {σ : Type} {a b : kL} (ha : PB a) (G : PB b) (T : a.jN.length ≤ 600000) (U : b.jN.length ≤ 600000) (f : σ → Int × kF → Option (Bool × σ)) {x y X Y : List js} {L : RL} (h : Ao a b x y L X Y) :
  ∀ (n i : Nat) (s : σ), L.length < n → i + L.length ≤ 10000000 → mN a.Name a.jN a.ky b.Name b.jN b.ky f n x y (i : Int) s = yQ f i L s := by
 have r : (⟨a.Name, a.jN, a.ky⟩ : kL) = a := rfl
 have t : (⟨b.Name, b.jN, b.ky⟩ : kL) = b := rfl
 induction h with
 | @done x y g j w E =>
  intro n i s J I
  obtain ⟨n, rfl⟩ : ∃ m, n = m + 1 := ⟨n - 1, by omega⟩
  have M := tG g (fun c d => ((w c).1 d).1)
  have O := tG j (fun c d => ((E c).1 d).1)
  have P : oK x x = [] := eE.2 fun c d => (pJ.1 d).2 (pJ.1 d).1
  have Q : oK y y = [] := eE.2 fun c d => (pJ.1 d).2 (pJ.1 d).1
  rw [mN, r, t, yn ha (by omega) g w, aA, Hh _ _ (by omega), aA, yn G (by omega) j E, aA, Hh _ _ (by omega), P, Q]
  rfl
 | @step x y p q X Y L g j sp sq k l u v c1 R ih =>
  intro n i s J I
  obtain ⟨n, rfl⟩ : ∃ m, n = m + 1 := ⟨n - 1, by omega⟩
  rw [aK] at J I
  have W := tG sp (fun c d => ((u c).1 d).1)
  have Z := tG sq (fun c d => ((v c).1 d).1)
  have M := g.le k
  have O := j.le l
  have m1 := EW g sp k
  have m2 := EW j sq l
  rw [mN, r, t, yn ha (by omega) sp u, aA, Hh _ _ (by omega), aA, yn G (by omega) sq v, aA, Hh _ _ (by omega), aA]
  have d1 : (wi0 .i64 (((oK p x).length : Int) + ((oK q y).length : Int)) == 0) = false := by
   rw [ko (by omega) (by omega), fz]; omega
  rw [d1, yQ]
  simp only [aB, aI]
  cases f s ((i : Int), ⟨oK p x, oK q y⟩) with
  | none => rfl
  | some z =>
   obtain ⟨go, s'⟩ := z
   cases go
   ·rfl
   ·simp only [aA, cI, aB, aI, aR]
    rw [H8 _ _ (by omega), aA, LD g sp k (by omega), aA, H8 _ _ (by omega), aA, LD j sq l (by omega), aA, ko (by omega) (by omega)]
    exact ih n (i + 1) s' (by omega) (by omega)
theorem Oq {P : na} (ha : PB P.ju) (v : PB P.Client) (la : P.ju.jN.length ≤ 30000) (lb : P.Client.jN.length ≤ 30000) {x y X Y : List js} {L : RL} (h : Ao P.ju P.Client x y L X Y) :
  ∀ (n : Nat) (d j : List js) (acc : List nw), L.length < n → acc.length + L.length ≤ 1000000 → (∀ c, c ∈ d ↔ c ∈ x) → (∀ c, c ∈ j ↔ c ∈ y) → d.length = x.length → j.length = y.length →
  pL P n d j acc = some (acc ++ L.map fun r => ⟨r.1, r.2⟩) := by
 have g : ∀ {p x d : List js}, (∀ c, c ∈ d ↔ c ∈ x) → oK p d = oK p x := by
  intro p x d h
  unfold oK
  congr 1
  funext c
  congr 1
  rw [bU, sX nN, sX nN, h]
 have b : ∀ {p : kL} {l O : List js} {peer : ByteArray} {c : js}, (∀ c, c ∈ O ↔ c ∈ l) → (qS p l peer c ↔ qS p O peer c) := fun h => ⟨zJ fun c a => (h c).2 a, zJ fun c a => (h c).1 a⟩
 induction h with
 | @done x y s t I J =>
  intro n d j acc w M i k ex Q
  obtain ⟨n, rfl⟩ : ∃ m, n = m + 1 := ⟨n - 1, by omega⟩
  have R := tG s (fun c a => ((I c).1 a).1)
  have T := tG t (fun c a => ((J c).1 a).1)
  have U : oK x x = [] := eE.2 fun c a => (pJ.1 a).2 (pJ.1 a).1
  have W : oK y y = [] := eE.2 fun c a => (pJ.1 a).2 (pJ.1 a).1
  rw [pL, IU _ ha j (by omega), yn ha (by omega) s (fun c => (I c).trans (b k)), aA, Dj _ _ (by omega), aA, IU _ v d (by omega), yn v (by omega) t (fun c => (J c).trans (b i)), aA, Dj _ _ (by omega), g i, g k, U, W]
  simp
 | @step x y p q X Y L s t sp sq u z E G c1 Z ih =>
  intro n d j acc w M i k ex Q
  obtain ⟨n, rfl⟩ : ∃ m, n = m + 1 := ⟨n - 1, by omega⟩
  rw [aK] at w M
  have lp := tG sp (fun c a => ((E c).1 a).1)
  have lq := tG sq (fun c a => ((G c).1 a).1)
  have R := s.le u
  have T := t.le z
  have m1 := EW s sp u
  have m2 := EW t sq z
  rw [pL, IU _ ha j (by omega), yn ha (by omega) sp (fun c => (E c).trans (b k)), aA, Dj _ _ (by omega), aA, IU _ v d (by omega), yn v (by omega) sq (fun c => (G c).trans (b i)), aA, Dj _ _ (by omega), g i, g k]
  simp only [aA]
  have d1 : ((if (((oK p x).length : Int) == 0) then some (((oK q y).length : Int) == 0) else some false) : Option Bool) = some false := by
   by_cases c2 : (oK p x).length = 0
   ·have : ¬ (oK q y).length = 0 := by omega
    rw [c2]; simp; intro h; rw [h] at this; simp at this
   ·have : (((oK p x).length : Int) == 0) = false := by rw [fz]; omega
    rw [this]; simp
  rw [d1]
  simp only [aA, aB, aI]
  rw [me (by simp; omega) (by simp; omega), aA, me (by simp; omega) (by simp; omega), aA, aV, me (by omega) (by omega), aA, me (by simp; omega) (by simp; omega), aA, aV, me (by omega) (by omega), aA]
  have mem : ∀ {p x d : List js}, (∀ c ∈ x, c ∈ p) → (∀ c, c ∈ d ↔ c ∈ x) → ∀ c, c ∈ d ++ oK p x ↔ c ∈ p := by
   intro p x d u i c
   rw [aU, i, pJ]
   constructor
   ·rintro (h | h)
    ·exact u c h
    ·exact h.1
   ·exact fun a => (Classical.em (c ∈ x)).imp id fun w => ⟨a, w⟩
  rw [ih n _ _ _ (by omega) (by simp; omega) (mem u i) (mem z k) (by simp; omega) (by simp; omega)]
  simp
theorem MU (P : na) (ha : PB P.ju) (b : PB P.Client) (g : P.ju.jN.length ≤ 30000) (h : P.Client.jN.length ≤ 30000) :
  ∃ L X Y, Ao P.ju P.Client [] [] L X Y ∧ Fv P.ju P.Client = some (X, Y, (L.length : Int)) ∧ L.length ≤ 60000 ∧ xg P = some (L.map fun r => ⟨r.1, r.2⟩) ∧
   ∀ {σ : Type} (f : σ → Int × kF → Option (Bool × σ)) (s : σ), mN P.ju.Name P.ju.jN P.ju.ky P.Client.Name P.Client.jN P.Client.ky f kd [] [] 0 s = yQ f 0 L s := by
 obtain ⟨L, X, Y, a, e, d⟩ := MY P.ju P.Client ha b (by omega) (by omega) kd [] [] 0 oe.nil oe.nil (by simp) (by simp) (by rw [lX]; simp; omega) (by simp; omega)
 simp only [bL, fW] at d
 refine ⟨L, X, Y, a, ?_, by omega, ?_, fun f s => ?_⟩
 ·unfold Fv
  rw [show (0 : Int) = ((0 : Nat) : Int) from rfl, e, dV]
 ·unfold xg
  rw [Oq ha b g h a kd [] [] [] (by rw [lX]; omega) (by simp; omega) (fun _ => Iff.rfl) (fun _ => Iff.rfl) rfl rfl, aV]
 ·exact Gm ha b (by omega) (by omega) f a kd 0 s (by rw [lX]; omega) (by omega)
theorem HU (L : RL) (st : Nat) (b : st ≤ 255) : ∀ (M A : RL), L = A ++ M → L.length ≤ 1000000 → A.length ≤ st →
  yQ (fun (s : Bool × Int) x => od x.1 x.2 s.1 s.2 (L.map fun r => (⟨r.1, r.2⟩ : nw)) (st : Int)) A.length M (true, (A.length : Int)) = some (true, ((min L.length (st + 1) : Nat) : Int))
 | [], A, a, d, ha => by
  rw [yQ, a]
  simp only [bJ]
  rw [dy (by omega)]
 | r :: M, A, a, d, ha => by
  have hlen := bN List.length a
  simp only [aF, aK] at hlen
  rw [yQ]
  have g : lE (L.map fun r => (⟨r.1, r.2⟩ : nw)) (A.length : Int) = some ⟨r.1, r.2⟩ := by
   rw [a, cE, bH]
   exact mL _ _ _ _ (by simp)
  have e : od (A.length : Int) ⟨r.1, r.2⟩ true (A.length : Int) (L.map fun r => (⟨r.1, r.2⟩ : nw)) (st : Int) = some (decide ((A.length : Int) + 1 ≤ (st : Int)), true, (A.length : Int) + 1) := by
   unfold od
   have c1 : ((A.length : Int) < ((L.map fun r => (⟨r.1, r.2⟩ : nw)).length : Int)) := by rw [cP]; omega
   simp only [aR, aX, aA, fC c1]
   rw [g]
   simp only [aA]
   rw [Pw, Pw]
   simp only [aA, aR]
   rw [ko (x := (A.length : Int) + 1) (by omega) (by omega), ko (x := (st : Int)) (by omega) (by omega)]
  simp only
  rw [e]
  simp only [aA]
  by_cases c : A.length + 1 ≤ st
  ·rw [fC (show (A.length : Int) + 1 ≤ (st : Int) by omega)]
   have := HU L st b M (A ++ [r]) (by rw [a]; simp) d (by simp; omega)
   simp only [aF, aK, bL, dV] at this
   simpa using this
  ·rw [decide_eq_false (show ¬ (A.length : Int) + 1 ≤ (st : Int) by omega)]
   simp only [aB, aI]
   rw [Nat.min_eq_right (by omega)]
   congr 2; omega
theorem Ao.new {a b : kL} {x y X Y : List js} {L : RL} (h : Ao a b x y L X Y) : (∀ r ∈ L, ∀ c ∈ r.1, c ∉ x) ∧ ∀ r ∈ L, ∀ c ∈ r.2, c ∉ y := by
 induction h with
 | done => exact ⟨by simp, by simp⟩
 | step _ _ _ _ j k _ _ _ _ ih =>
  refine ⟨fun r d c g => ?_, fun r d c g => ?_⟩
  ·rcases aP.1 d with rfl | d
   ·exact (pJ.1 g).2
   ·exact fun i => ih.1 r d c g (j c i)
  ·rcases aP.1 d with rfl | d
   ·exact (pJ.1 g).2
   ·exact fun i => ih.2 r d c g (k c i)
theorem Pp (c : js) (n : Int) (l : kF) : oC 0 c n l = some (if po lD l.nT c then Sum.inr (true, n) else Sum.inl ()) := by
 unfold oC pB
 have c1 : (0 : Int) ≥ 0 := by omega
 have c2 : (0 : Int) < 2 := by omega
 simp only [fC c1, fC c2, aR, aA, aX, Dd]
 cases po lD l.nT c <;> rfl
theorem SQ (c : js) (n : Int) (l : kF) : oC 1 c n l = some (if po lD l.nD c then Sum.inr (true, n) else Sum.inl ()) := by
 unfold oC pB
 have c1 : (1 : Int) ≥ 0 := by omega
 have c2 : (1 : Int) < 2 := by omega
 have a : ((1 : Int) == 0) = false := rfl
 simp only [fC c1, fC c2, a, aR, aA, aX, Dd, aB, aI]
 cases po lD l.nD c <;> rfl
theorem Oj (c : js) {a b : kL} {x y X Y : List js} {L : RL} (h : Ao a b x y L X Y) : ∀ (i : Nat) (A : RL) (r : List js × List js) (B : RL), L = A ++ r :: B → c ∈ r.1 →
  yQ (xP fun (s : Unit) (x : Int × kF) => oC 0 c x.1 x.2) i L (Sum.inl ()) = some (Sum.inr (true, ((i + A.length : Nat) : Int))) := by
 induction h with
 | done => intro i A r B d; simp at d
 | @step x y p q X Y L v w sp sq z E n t c1 k ih =>
  intro i A r B d g
  rw [yQ]
  have j := Pp c (i : Int) ⟨oK p x, oK q y⟩
  simp only [xP]
  simp only at j
  rw [j]
  cases A with
  | nil =>
   rw [aV] at d
   obtain ⟨rfl, rfl⟩ := List.cons.inj d
   rw [(sX nN _ c).2 g]
   rfl
  | cons u A =>
   rw [bE] at d
   obtain ⟨rfl, rfl⟩ := List.cons.inj d
   have l : po lD (oK p x) c = false := by
    rw [← eC, sX nN]
    exact fun m => k.new.1 r (by simp) c g (pJ.1 m).1
   rw [l]
   simp only [aB, aI, dI, aA, aR]
   rw [ih (i + 1) A r B rfl g, aK]
   congr 4; omega
theorem Jk (P : na) (L : RL) (hw : ∀ (A : RL) (r : List js × List js) (B : RL), L = A ++ r :: B → ∀ c ∈ r.1, rr P 0 c = some ((A.length : Int), true)) : ∀ (M A : RL), L = A ++ M → oQ P (M.map fun r => (⟨r.1, r.2⟩ : nw)) A.length = some true
 | [], A, a => by rw [eG, oQ]
 | r :: M, A, a => by
  have key : ∀ cs : List js, (∀ c ∈ cs, c ∈ r.1) → oP P A.length cs = some (Sum.inr ()) := by
   intro cs
   induction cs with
   | nil => intro _; rw [oP]
   | cons c cs ih =>
    intro h
    rw [oP, hw A r M a c (h c (by simp)), aA]
    simp only [bne_self_eq_false, aB, aI, cI, aA]
    exact ih fun d b => h d (by simp [b])
  rw [bH, oQ]
  simp only
  rw [key r.1 fun _ h => h, aA]
  have := Jk P L hw M (A ++ [r]) (by rw [a]; simp)
  rwa [aF, aK, bL, dV] at this
theorem FO (q : um = some true) (p : na) (hp : PQ p) (st : Int) (u : 0 ≤ st) (h1 : st ≤ 255) : ud p st = some true := by
 obtain ⟨st, rfl⟩ : ∃ n : Nat, st = (n : Int) := ⟨st.toNat, by omega⟩
 obtain ⟨g, j, v⟩ := TU p hp
 unfold ud
 rw [q, j]
 simp only [aA, cI, aB, aI]
 by_cases b : g > 6000
 ·simp only [b, bY, aR]
 ·simp only [b, cD, aB, aI]
  obtain ⟨L, X, Y, l, t, w, i, h⟩ := MU p hp.o.toPB hp.c.toPB (by omega) (by omega)
  rw [i]
  unfold ol
  simp only [aA]
  unfold mU
  rw [h]
  have a := HU L st (by omega) L [] rfl (by omega) (by simp)
  rw [bL] at a
  rw [show ((0 : Nat) : Int) = 0 from rfl] at a
  rw [a]
  simp only [aA, cI, aB, aI]
  rw [ko (x := (st : Int)) (by omega) (by omega), ko (x := (st : Int) + 1) (by omega) (by omega), cP]
  have d : (((min L.length (st + 1) : Nat) : Int) != (if (st : Int) + 1 < (L.length : Int) then (st : Int) + 1 else (L.length : Int))) = false := by
   split <;> simp <;> omega
  rw [d]
  simp only [aB, aI]
  refine Jk p L (fun A r B k c m => ?_) L [] rfl
  have s := Oj c l 0 A r B k m
  unfold rr ol
  simp only [aA]
  unfold mU
  rw [h, s, dV]
  rfl
theorem F4 (P : na) (l : List js) (i : l.length ≤ 1000000) (h : Gd P.Formula) : tZ P l = some (ux (vD l P.Client.Name) P.Formula) := by
 obtain ⟨C, T, j, ws, n, e, m, d, _⟩ := IQ l i
 unfold tZ
 rw [e, aA]
 rw [LG (vD l P.Client.Name) _ (fun r => by
  unfold ub
  rw [ot]
  obtain ⟨b, a, g⟩ := Ju m C j ws [] n r P.Client.Name
  rw [a]
  congr 1
  rw [bU, g, EA]
  exact oJ.congr (fun c => by rw [d, cN]) _) _ h]
 rfl
theorem SD (P : na) (h : Gd P.Formula) (n : Int) (l : kF) (out : List kT) (s : kT) (a : List js) (h1 : a.length + l.nD.length ≤ 1000000) (k : out.length ≤ 1000000) :
  rN P n l out s a = some (let s' : kT := ⟨wi0 .i64 (s.nT + (l.nT.length : Int)), wi0 .i64 (s.nD + (l.nD.length : Int))⟩; if ux (vD (a ++ l.nD) P.Client.Name) P.Formula then Sum.inr (true, out ++ [s']) else Sum.inl (out ++ [s'], s', a ++ l.nD)) := by
 obtain ⟨f, g⟩ : ∃ f, kd = f + 3 := ⟨18446744073709551613, by rw [lX]⟩
 unfold rN
 rw [me (by omega) (by omega), aA, g]
 have i : wi0 .i64 ((0 : Int) + 1) = 1 := ko (by omega) (by omega)
 have j : wi0 .i64 ((1 : Int) + 1) = 2 := ko (by omega) (by omega)
 have b : ((0 : Int) < 2) := by omega
 have c1 : ((1 : Int) < 2) := by omega
 have c2 : ¬ ((2 : Int) < 2) := by omega
 have d : ((1 : Int) == 0) = false := rfl
 rw [nL, i, nL, j]
 simp only [b, c1, c2, d, bY, cD, aR, aB, aI, aX]
 rw [nL]
 simp only [c2, cD, aR, aB, aI]
 rw [me (by simp; omega) (by simp; omega), aA, F4 P _ (by simp; omega) h, aA]
 cases ux (vD (a ++ l.nD) P.Client.Name) P.Formula <;> rfl
theorem Mz {σ : Type} (f : σ → Int × kF → Option (Bool × σ)) (i : Nat) (r : List js × List js) (s : σ) : yQ f i [r] s = (f s ((i : Int), ⟨r.1, r.2⟩)).map fun z => z.2 := by
 rw [yQ]
 cases f s ((i : Int), ⟨r.1, r.2⟩) with
 | none => rfl
 | some z => simp only [aA, yQ, ite_self, dI]
def nO : kL := ⟨N9, [], []⟩
def nC : kL := ⟨OU, [], []⟩
def vM (c : kL) (f : Formula) : na := ⟨nO, c, f, 0, ⟨0, 0⟩, 0, 0, 0, []⟩
theorem R4 (n : ByteArray) : PB ⟨n, [], []⟩ := ⟨by simp, by simp, by simp, by simp, by simp⟩
theorem Sg (f : Formula) (h : kx f ≤ 10000000) : PB (sC f) := ⟨by simp [sC], by simp [sC], by simpa [sC, HR] using h, by simp [sC], by simp [sC]⟩
theorem J7 {n : ByteArray} {l : List js} {peer : ByteArray} {c : js} : ¬ qS ⟨n, [], []⟩ l peer c := fun h => by obtain ⟨x, a, _⟩ := h.1; cases a
theorem Pq : oe [sc] := ⟨by simp, by simp [Q6]⟩
theorem M9 (l : List js) (c : js) : c ∈ [sc] ↔ qS (sC oY) l N9 c := by rw [bO]; exact (O1 Q6 l N9 c).symm
theorem Tp : oK [sc] [] = [sc] := by unfold oK; rfl
theorem OG : Ao nO (sC oY) [] [] [([], [sc])] [] [sc] := by
 have := Ao.step (a := nO) (b := sC oY) oe.nil oe.nil oe.nil Pq (by simp) (by simp) (fun c => ⟨(by simp), fun h => absurd h J7⟩) (M9 []) (by simp) (Ao.done oe.nil Pq (fun c => ⟨(by simp), fun h => absurd h J7⟩) (M9 []))
 rw [Tp] at this
 exact this
theorem Mu {P : na} (ha : PB P.ju) (a : PB P.Client) (d : P.ju.jN.length ≤ 30000) (g : P.Client.jN.length ≤ 30000) {L : RL} {X Y : List js} (h : Ao P.ju P.Client [] [] L X Y) (b : L.length ≤ 10) {σ : Type} (f : σ → Int × kF → Option (Bool × σ)) (s : σ) :
  mN P.ju.Name P.ju.jN P.ju.ky P.Client.Name P.Client.jN P.Client.ky f kd [] [] 0 s = yQ f 0 L s :=
 Gm ha a (by omega) (by omega) f h kd 0 s (by rw [lX]; omega) (by omega)
theorem R9 : Gd oY := by unfold Gd; decide +kernel
theorem Lx : Gd (ua sY) := by unfold Gd; decide +kernel
theorem Qg : sR (vM nC oY) = some ([], true) := by
 unfold sR
 rw [F4 _ _ (by simp) R9]
 have : ux (vD [] (vM nC oY).Client.Name) (vM nC oY).Formula = true := by
  unfold ux
  rw [show nB (vM nC oY).Formula = true by decide +kernel, show (vM nC oY).Formula = oY from rfl, vp]
  rfl
 rw [this]
 rfl
theorem HG : PB (vM (sC oY) (ua sY)).ju ∧ PB (vM (sC oY) (ua sY)).Client := ⟨R4 _, Sg _ (by decide +kernel)⟩
theorem KK : sR (vM (sC oY) (ua sY)) = some ([⟨0, 1⟩], true) := by
 unfold sR
 rw [F4 _ _ (by simp) Lx]
 have v0 : ux (vD [] (vM (sC oY) (ua sY)).Client.Name) (vM (sC oY) (ua sY)).Formula = false := by
  unfold ux
  rw [show (vM (sC oY) (ua sY)).Formula = ua sY from rfl, KQ, QS, iG]
 rw [v0]
 unfold ol
 simp only [aA, aB, aI]
 unfold mU
 rw [Mu HG.1 HG.2 (by simp [vM, nO]) (by simp [vM, sC]) OG (by simp)]
 have e := SD (vM (sC oY) (ua sY)) Lx ((0 : Nat) : Int) ⟨[], [sc]⟩ [] ⟨0, 0⟩ [] (by simp) (by simp)
 rw [Mz]
 simp only [xP]
 simp only at e
 rw [e]
 have v1 : ux (vD ([] ++ [sc]) (vM (sC oY) (ua sY)).Client.Name) (vM (sC oY) (ua sY)).Formula = true := by
  unfold ux
  rw [show (vM (sC oY) (ua sY)).Formula = ua sY from rfl, KQ, show nB (ua sY) = true by decide +kernel, dO]
  exact Rz Q6 rfl (by simp)
 rw [v1]
 simp only [aR, dI, aA, aB, aI, aV, bL, aK]
 rw [ko (by omega) (by omega), ko (by omega) (by omega)]
 rfl
theorem M4 (e : Int) (he : e = 0 ∨ e = 1) : rr (vM (sC oY) (ua sY)) e sc = some (0, decide (e = 1)) := by
 unfold rr ol
 simp only [aA]
 unfold mU
 rw [Mu HG.1 HG.2 (by simp [vM, nO]) (by simp [vM, sC]) OG (by simp), Mz]
 simp only [xP]
 rcases he with rfl | rfl
 ·have a := Pp sc ((0 : Nat) : Int) ⟨[], [sc]⟩
  rw [a]
  rfl
 ·have a := SQ sc ((0 : Nat) : Int) ⟨[], [sc]⟩
  rw [a, (sX nN _ sc).2 (by simp)]
  rfl
theorem P9 : um = some true := by
 have b : EL 1 (0 : Int) 8 = some (List.replicate 8 0) := by unfold EL; rw [bD (by decide)]; rfl
 have g1 : sb (vM nC oY) = some (0, true) := by unfold sb; rw [Qg]; rfl
 have g2 : sb (vM (sC oY) (ua sY)) = some (1, true) := by unfold sb; rw [KK]; rfl
 have g3 : xW (vM (sC oY) (ua sY)) = some ([⟨0, 1⟩], true) := by unfold xW; rw [KK]; rfl
 have d := M4 0 (.inl rfl)
 have h1 := M4 1 (.inr rfl)
 have a := Mu HG.1 HG.2 (by simp [vM, nO]) (by simp [vM, sC]) OG (by simp) (fun (s : Int) (x : Int × kF) => qo x.1 x.2 s) 0
 have hk : yQ (fun (s : Int) (x : Int × kF) => qo x.1 x.2 s) 0 [([], [sc])] 0 = some 1 := by
  rw [Mz]
  unfold qo
  rw [ko (by omega) (by omega)]
  rfl
 rw [hk] at a
 unfold um
 rw [b]
 erw [g1]
 simp only [aA]
 erw [g2]
 simp only [aA]
 erw [h1]
 simp only [aA]
 erw [d]
 simp only [aA]
 erw [g3]
 unfold ol mU
 simp only [aA]
 erw [a]
 rfl
end Go.Proofs.YtjjjihkifgdhgaaGreat
namespace Go.Proofs.YtjjjihkifgdhgaaGreat.Lf
open Go.ChangeShapes Go.WideShapes Go.ChangeAt Go.RowKit
open Go.Proofs.YtjjjihkifgdhgaaGreat (Rows.uptoBulk Rows.uptoBulkAll Rows.uptoSmall)
theorem R5 {H : Type} (d : DataW H) : 1 ≤ Rows.uptoBulk d := by
 cases d with
 | lit l => cases l <;> simp [Rows.uptoBulk]
 | nil => simp [Rows.uptoBulk]
 | ptr d => simp [Rows.uptoBulk]
 | slice a spare => simp [Rows.uptoBulk]
 | agg parts => simp [Rows.uptoBulk]
 | iface t d => simp [Rows.uptoBulk]
 | map entries => simp [Rows.uptoBulk]
 | held h => simp [Rows.uptoBulk]
def Hf {α : Type} (P : Program) (t : TypeId) (enc : α → List Value) (sz : α → Nat) : Prop :=
 ∀ (H : Type) (b : TypeId × Value → H) (W : World) (base : Nat) (sp : Nat → Bool) (d : Bool) (fuel : Nat) (cs : List Value) (x : DataW H × List MemPlace),
  DataW.trod b P W base sp d fuel t cs = some x → ∃ a : α, cs = enc a ∧ sz a ≤ Rows.uptoBulk x.1
theorem LY {P : Program} {t : TypeId} (a : P.underlying t = some .string) : Hf P t (fun s : ByteArray => [.string s]) (fun s => s.size) := by
 intro H b W base sp d fuel cs x h
 obtain ⟨s, rfl, rfl, _⟩ := DataW.trod_string a h
 refine ⟨s, rfl, ?_⟩
 have e : s.data.toList.length = s.size := by rw [dm]; rfl
 simp [Rows.uptoBulk, e]
theorem Qk {P : Program} {t : TypeId} {k : IntKind} (a : P.underlying t = some (.int k)) : Hf P t (fun n : Int => [.int k n]) (fun _ => 0) := by
 intro H b W base sp d fuel cs x h
 obtain ⟨n, rfl, rfl, _⟩ := DataW.trod_int a h
 exact ⟨n, rfl, eH _⟩
theorem Qw {α : Type} {n : Nat} {p : Nat → α → Prop} (h : ∀ i, i < n → ∃ x, p i x) : ∃ l : List α, l.length = n ∧ ∀ i x, l[i]? = some x → p i x := by
 induction n with
 | zero => exact ⟨[], rfl, by simp⟩
 | succ n ih =>
  obtain ⟨l, h1, d⟩ := ih fun i b => h i (by omega)
  obtain ⟨x, j⟩ := h n (by omega)
  refine ⟨l ++ [x], by simp [h1], fun i y a => ?_⟩
  by_cases b : i < l.length
  ·rw [ga b] at a
   exact d i y a
  ·rw [eX (by omega)] at a
   have : i - l.length = 0 := by
    cases g : i - l.length with
    | zero => rfl
    | succ m => rw [g] at a; simp at a
   rw [this] at a
   have e : i = n := by omega
   simp at a
   subst a; rw [e]; exact j
theorem Jw {W : World} {a : Addr} {v : Value} (h : W.cell? a = some v) : ∃ cs T fr, W.heap[a.block]? = some (.cells cs T fr) ∧ a.spot = none ∧ cs[a.off]? = some v := by
 unfold World.cell? at h
 split at h
 ·rename_i c T fr d
  by_cases b : a.spot.isSome
  ·simp [b] at h
  ·simp only [b] at h
   exact ⟨c, T, fr, d, by simpa using b, by simpa using h⟩
 ·cases h
theorem Ex.below {dd : Bool} {W W' : World} (h : Ex dd W W') : Below W.heap.size W W' := ⟨h.os, h.tape, h.output, h.size, h.mj⟩
theorem DJ {H : Type} {k : TypeId × Value → H} {P : Program} (m : laidOutB P = true) {W W' : World} {b : Nat → Bool} :
  ∀ {i : List TypeId} {vs : List Value} {ds : List (DataW H)} {g : List MemPlace}, (∀ t ∈ i, P.readableRec t = true ∧ t < P.types.size) →
   DataW.TrodAll k P W 0 (fun _ => true) true i vs ds g → (∀ p ∈ g, W.sameAt W' p) → (∀ p ∈ g, b p.block = true) → DataW.TrodAll k P W' 0 b true i vs ds g
 | [], _, _, _, _, h, _, _ => by
  obtain ⟨rfl, rfl, rfl⟩ := trodAll_nil h
  exact trodAll_mk0
 | t :: i, _, _, _, j, h, h1, l => by
  obtain ⟨v, vs, d, ds, p, q, rfl, rfl, rfl, n, r⟩ := trodAll_cons h
  exact trodAll_cons_mk (WideElems.Trod_stays m (j t (by simp)).1 (j t (by simp)).2 n (fun x a => h1 x (by simp [a])) (fun x a => l x (by simp [a])))
   (DJ m (fun u hu => j u (by simp [hu])) r (fun x a => h1 x (by simp [a])) (fun x a => l x (by simp [a])))
theorem LQ {H : Type} {enc : TypeId × Value → H} {P : Program} (O : laidOutB P = true) {f : Func} {s : ChangeSpec} {apart fresh handsOn again : Bool} {W W' : World} {args : Array Value} {v : Value} {ds gs : List (DataW H)} {before : List MemPlace} (R : ∀ t ∈ f.params.toList, P.readableRec t = true ∧ t < P.types.size) (m : s.vars = []) (u : DataW.Whole enc P f.params.toList s.vars apart W args.toList ds gs before) {dd : Bool} (I : Ex dd W W') (a : ∀ (b : Nat) (sp : Nat → Bool) (M : Bool), DataW.TrodAll enc P W' b sp M f.resultTypes.toList (v.resultList f.resultTypes.size) (s.fn H (ds ++ gs)).results []) (d : (s.fn H (ds ++ gs)).args = ds) (h : (s.fn H (ds ++ gs)).vars = []) (E : ∀ (j : Nat) (t : TypeId) (r : Value), f.resultTypes[j]? = some t → (v.resultList f.resultTypes.size)[j]? = some r → Value.okWide P W' .any 0 t r) :
  s.post enc P f apart fresh handsOn again W args v W' := by
 have g := u.lt
 have hold : ∀ p ∈ before, (fun b => decide (b < W.heap.size)) p.block = true := fun p hp => by simpa using g p hp
 have z := Ex.below I
 have y := u
 obtain ⟨p, q, L, J, k, T, Q⟩ := u
 rw [m] at J
 obtain ⟨rfl, rfl⟩ := trodVars_none J
 rw [bJ] at k
 subst k
 have l : ∀ sp : Nat → Bool, (∀ p ∈ before, sp p.block = true) → DataW.TrodAll enc P W' 0 sp true f.params.toList args.toList (s.fn H (ds ++ [])).args before := fun sp G => by
  rw [d]
  exact DJ O R L (fun x I => z.same (g x I)) G
 have n : ∀ sp : Nat → Bool, DataW.TrodVars enc P W' sp s.vars (s.fn H (ds ++ [])).vars [] := fun sp => by
  rw [h, m]; rfl
 refine ⟨ds, [], before, [], before, [], y, a _ _ _, l _ hold, n _, World.keptBut_mono (fun p hp => ⟨hp, ?_⟩) (z.frame (· ∈ before)), fun _ => ?_⟩
 ·exact Or.inr (Or.inl hp)
 ·refine ⟨E, _, _, ([] ++ before) ++ [], ⟨[] ++ before, [], trodAll_append (l _ (fun _ _ => rfl)) (a _ _ _), n _, rfl, ?_, ?_⟩, ?_⟩
  ·intro b off hp
   have i : MemPlace.cell b off ∈ before := by simpa using hp
   rw [World.frozen?_of_block (w := W) (z.block b (g _ i))]
   exact T b off i
  ·intro ha
   simpa using Q ha
  ·intro p hp _
   simpa using hp
end Go.Proofs.YtjjjihkifgdhgaaGreat.Lf
namespace Go.Proofs.YtjjjihkifgdhgaaGreat.Lf
open Go.ChangeShapes Go.WideShapes Go.ChangeAt Go.RowKit
open Go.Proofs.YtjjjihkifgdhgaaGreat (Rows.uptoBulk Rows.uptoBulkAll Rows.uptoSmall)
def EU {α : Type} (P : Program) (t : TypeId) (R : pF α) (sz : α → Nat) : Prop :=
 ∀ (H : Type) (b : TypeId × Value → H) (W : World) (base : Nat) (sp : Nat → Bool) (d : Bool) (fuel : Nat) (cs : List Value) (x : DataW H × List MemPlace),
  DataW.trod b P W base sp d fuel t cs = some x → ∃ a : α, R (hp W) cs a ∧ sz a ≤ Rows.uptoBulk x.1
theorem Hf.rel {α : Type} {P : Program} {t : TypeId} {enc : α → List Value} {sz : α → Nat} (h : Hf P t enc sz) : EU P t (Pl enc) sz := fun H a W base sp b fuel cs x d => h H a W base sp b fuel cs x d
end Go.Proofs.YtjjjihkifgdhgaaGreat.Lf
namespace Go.Proofs.YtjjjihkifgdhgaaGreat.Lf
open Go.ChangeShapes Go.WideShapes Go.ChangeAt Go.RowKit
open Go.Proofs.YtjjjihkifgdhgaaGreat (Rows.uptoBulk Rows.uptoBulkAll Rows.uptoSmall)
theorem FI {H : Type} : ∀ l : List (DataW H), Rows.uptoBulkAll l = (l.map Rows.uptoBulk).sum
 | [] => by simp [Rows.uptoBulkAll]
 | d :: l => by simp [Rows.uptoBulkAll, FI l]
theorem Nk {α : Type} (g : α → Nat) : ∀ (n : Nat) (f : Nat → Nat) {l : List α}, l.length = n → (∀ i x, l[i]? = some x → g x ≤ f i) → (l.map g).sum ≤ ((List.range n).map f).sum
 | 0, f, l, b, h => by
  obtain rfl := ed.1 b
  simp
 | n + 1, f, [], b, h => by cases b
 | n + 1, f, a :: l, b, h => by
  rw [List.range_succ_eq_map, bH, bH, ft, ft, eO]
  have h1 := h 0 a rfl
  have j := Nk g n (f ∘ Nat.succ) (l := l) (by simpa using b) (fun i x d => h (i + 1) x (by simpa using d))
  omega
def sr {α : Type} (sz : α → Nat) (l : List α) : Nat := (l.map fun a => max 1 (sz a)).sum
theorem Cu {α : Type} (sz : α → Nat) : ∀ l : List α, l.length ≤ sr sz l
 | [] => aY _
 | a :: l => by have := Cu sz l; simp only [sr, bH, ft, aK] at this ⊢; omega
theorem Ha {α : Type} {sz : α → Nat} : ∀ {l : List α} {a : α}, a ∈ l → sz a ≤ sr sz l
 | b :: l, a, h => by
  simp only [sr, bH, ft]
  rcases aP.1 h with rfl | h
  ·omega
  ·have := Ha (sz := sz) h; simp only [sr] at this; omega
theorem Ft {α : Type} {P : Program} {t e : TypeId} {k : Nat} {R : pF α} {sz : α → Nat} (hk : P.cellsOf e = k) (O : 0 < k) (ht : P.underlying t = some (.slice e)) {H : Type} {eh : TypeId × Value → H} {W : World} {base : Nat} {sp : Nat → Bool} {held : Bool} {fuel : Nat} {cs : List Value} {x : DataW H × List MemPlace} (hd : ∀ (fuel : Nat) (cs : List Value) (y : DataW H × List MemPlace), DataW.trod eh P W base sp held fuel e cs = some y → SizeOf.sizeOf y.1 < SizeOf.sizeOf x.1 → ∃ a : α, R (hp W) cs a ∧ sz a ≤ Rows.uptoBulk y.1) (hf : DataW.trod eh P W base sp held fuel t cs = some x) :
  ∃ v l, cs = [v] ∧ Sl R k (hp W) v l ∧ sr sz l ≤ Rows.uptoBulk x.1 := by
 rcases Go.Deep.open_slice ht hf with ⟨rfl, rfl⟩ | ⟨a, ln, cp, m, n, D, Q, rfl, hb, hl, hm, Y, rfl, L⟩
 ·exact ⟨_, [], rfl, ⟨none, 0, rfl, aY _, eH _, fun h => absurd h (Nat.lt_irrefl _)⟩, eH _⟩
 ·have aa : ln ≤ m := by rw [Y]; split <;> omega
  have hB : ((List.range ln).map fun i => Rows.uptoBulk (D i)).sum ≤ Rows.uptoBulk (DataW.slice ((List.range ln).map D) ((List.range (m - ln)).map fun j => D (ln + j))) := by
   simp only [Rows.uptoBulk]
   rw [FI, eO]
   have e : ((List.range ln).map fun i => Rows.uptoBulk (D i)) = (List.range ln).map (Rows.uptoBulk ∘ D) := rfl
   rw [e]
   omega
  have hS : ∀ i, i < ln → SizeOf.sizeOf (D i) < SizeOf.sizeOf (DataW.slice ((List.range ln).map D) ((List.range (m - ln)).map fun j => D (ln + j))) := fun i M => by
   have := List.sizeOf_lt_of_mem (bI.2 ⟨i, List.mem_range.2 M, rfl⟩ : D i ∈ (List.range ln).map D)
   rw [DataW.slice.sizeOf_spec]; omega
  simp only at hd ⊢
  generalize Rows.uptoBulk (DataW.slice ((List.range ln).map D) ((List.range (m - ln)).map fun j => D (ln + j))) = B at hB
  obtain ⟨l, U, s⟩ := Qw (α := α) (n := ln) (p := fun i x => ∃ b, W.cells? base (a.add (i * k)) k = some b ∧ R (hp W) b x ∧ sz x ≤ Rows.uptoBulk (D i)) fun i M => by
   obtain ⟨b, h1, E⟩ := L i (by omega)
   obtain ⟨x, hR, G⟩ := hd _ _ _ E (hS i M)
   rw [hk] at h1
   exact ⟨x, b, h1, hR, G⟩
  subst U
  refine ⟨_, l, rfl, ⟨some a, cp, rfl, hl, hm, fun h0 => ?_⟩, ?_⟩
  ·have d : ∀ i x, l[i]? = some x → ∃ b, R (hp W) b x ∧ b.length = k ∧ ∀ j, j < k → W.cell? ((a.add (i * k)).add j) = b[j]? := fun i x u =>
    let ⟨b, h1, E, _⟩ := s i x u
    let ⟨_, G, h4⟩ := World.cells?_some h1
    ⟨b, E, G, h4⟩
   obtain ⟨a6, _, h4, h5⟩ := d 0 l[0] (by simp [h0])
   have I := h5 0 O
   rw [Nat.zero_mul, cX (by omega)] at I
   have e0 : (a.add 0).add 0 = a := rfl
   rw [e0] at I
   obtain ⟨cs, T, fr, J, h8, _⟩ := Jw I
   obtain ⟨w, z, a1⟩ := a
   simp only at J h8
   subst h8
   refine ⟨w, z, cs, T, fr, rfl, J, fun i x u => ?_⟩
   obtain ⟨b, gR, g1, g2⟩ := d i x u
   refine ⟨b, g1, gR, fun j y hy => ?_⟩
   have hj : j < k := by
    rw [← g1]
    exact (bK.1 hy).1
   have h9 := g2 j hj
   rw [Go.Deep.add_add, hy] at h9
   obtain ⟨Z, T', a7, g, a8, q⟩ := Jw h9
   have r : (Addr.add ⟨w, z, none⟩ (i * k + j)).block = w ∧ (Addr.add ⟨w, z, none⟩ (i * k + j)).off = z + (i * k + j) := by
    unfold Addr.add
    split
    ·rename_i hz
     rw [hz]; exact ⟨rfl, rfl⟩
    ·exact ⟨rfl, rfl⟩
   rw [r.1, J] at g
   cases g
   rw [r.2, ← eF] at q
   exact q
  ·refine dE (Nk _ _ _ rfl fun i x u => ?_) hB
   exact Nat.max_le.2 ⟨R5 _, (s i x u).elim fun _ h => h.2.2⟩
theorem tC {α : Type} {P : Program} {t e : TypeId} {k : Nat} {R : pF α} {sz : α → Nat} (hk : P.cellsOf e = k) (a : 0 < k) (d : EU P e R sz) (i : P.underlying t = some (.slice e)) {H : Type} {b : TypeId × Value → H} {W : World} {base : Nat} {sp : Nat → Bool} {held : Bool} {fuel : Nat} {cs : List Value} {x : DataW H × List MemPlace} (g : DataW.trod b P W base sp held fuel t cs = some x) :
  ∃ v l, cs = [v] ∧ Sl R k (hp W) v l ∧ sr sz l ≤ Rows.uptoBulk x.1 := Ft hk a i (fun _ _ _ h _ => d _ _ _ _ _ _ _ _ _ h) g
end Go.Proofs.YtjjjihkifgdhgaaGreat.Lf
namespace Go.Proofs.YtjjjihkifgdhgaaGreat.Lf
open Go.ChangeShapes Go.WideShapes Go.ChangeAt Go.RowKit
open Go.Proofs.YtjjjihkifgdhgaaGreat (Rows.uptoBulk Rows.uptoBulkAll Rows.uptoSmall)
def Lq {α : Type} (R : pF α) (Q : α → Prop) : pF α := fun μ ys x => R μ ys x ∧ Q x
theorem Sl.all {α : Type} {R : pF α} {Q : α → Prop} {k : Nat} {μ : jW} {v : Value} {l : List α} (h : Sl (Lq R Q) k μ v l) : Sl R k μ v l ∧ ∀ x ∈ l, Q x := by
 obtain ⟨A, c, rfl, h1, j, q⟩ := h
 cases l with
 | nil => exact ⟨⟨A, c, rfl, h1, j, fun h => absurd h (by simp)⟩, by simp⟩
 | cons a l =>
  obtain ⟨b, o, cs, T, fr, e, r, m⟩ := q (by simp)
  refine ⟨⟨A, c, rfl, h1, j, fun _ => ⟨b, o, cs, T, fr, e, r, fun i x g => ?_⟩⟩, fun x g => ?_⟩
  ·obtain ⟨ys, n, d, p⟩ := m i x g
   exact ⟨ys, n, d.1, p⟩
  ·obtain ⟨i, s⟩ := List.mem_iff_getElem?.1 g
   obtain ⟨ys, n, d, p⟩ := m i x s
   exact d.2
theorem Lb {P : Program} {t : TypeId} (a : P.underlying t = some (.int .u8)) : EU P t (Lq (Pl (lm .u8)) (fun x => 0 ≤ x ∧ x < 256)) (fun _ => 0) := by
 intro H b W base sp d fuel cs x h
 obtain ⟨n, rfl, rfl, hw⟩ := DataW.trod_int a h
 refine ⟨n, ⟨rfl, ?_⟩, eH _⟩
 simp [Lit.wf, IntKind.min, IntKind.max, IntKind.bits, IntKind.signed] at hw
 omega
end Go.Proofs.YtjjjihkifgdhgaaGreat.Lf
namespace Go.Proofs.YtjjjihkifgdhgaaGreat
open Go.IntKind renaming wrap → wi0
open Go.Proofs.Tryz renaming prog → pg0
set_option maxRecDepth 10000
open Go.ChangeShapes Go.WideShapes Go.ChangeAt Go.RowKit
open Go.Proofs.YtjjjihkifgdhgaaGreat Go.Proofs.YtjjjihkifgdhgaaGreat.Lf
def iV := @Tryz.underlying5
theorem Qd : Tryz.prog.cellsOf 34 = 18 := by kernel_rfl
theorem QL {α : Type} {l : List α} (h : l.length = 9) : ∃ a0 a a2 a3 a4 a5 b d g, l = [a0, a, a2, a3, a4, a5, b, d, g] := by
 match l, h with
 | [a0, a, a2, a3, a4, a5, b, d, g], _ => exact ⟨a0, a, a2, a3, a4, a5, b, d, g, rfl⟩
theorem SI {α : Type} {l : List α} (h : l.length = 18) : ∃ a0 k a2 a3 a4 a5 m n p a9 a b a12 d g i j a17, l = [a0, k, a2, a3, a4, a5, m, n, p, a9, a, b, a12, d, g, i, j, a17] := by
 match l, h with
 | [a0, k, a2, a3, a4, a5, m, n, p, a9, a, b, a12, d, g, i, j, a17], _ => exact ⟨a0, k, a2, a3, a4, a5, m, n, p, a9, a, b, a12, d, g, i, j, a17, rfl⟩
theorem QD : Tryz.prog.cellsOf 25 = 3 := by kernel_rfl
theorem Pc {α : Type} {l : List α} (h : l.length = 3) : ∃ a0 a a2, l = [a0, a, a2] := by
 match l, h with
 | [a0, a, a2], _ => exact ⟨a0, a, a2, rfl⟩
theorem Er : Tryz.prog.cellsOf 9 = 1 := by kernel_rfl
theorem FU : Hf pg0 9 (fun s : ByteArray => [.string s]) (fun s => s.size) := LY Tryz.underlying9
theorem KH : Tryz.prog.cellsOf 22 = 1 := by kernel_rfl
theorem HO : Tryz.prog.cellsOf 63 = 15 := by kernel_rfl
theorem ED {α : Type} {l : List α} (h : l.length = 2) : ∃ a0 a, l = [a0, a] := by
 match l, h with
 | [a0, a], _ => exact ⟨a0, a, rfl⟩
theorem Sf {α : Type} {l : List α} (h : l.length = 15) : ∃ a0 i a2 a3 a4 a5 j k m a9 a b a12 d g, l = [a0, i, a2, a3, a4, a5, j, k, m, a9, a, b, a12, d, g] := by
 match l, h with
 | [a0, i, a2, a3, a4, a5, j, k, m, a9, a, b, a12, d, g], _ => exact ⟨a0, i, a2, a3, a4, a5, j, k, m, a9, a, b, a12, d, g, rfl⟩
theorem P4 : Tryz.prog.cellsOf 61 = 10 := by kernel_rfl
theorem Hk : Tryz.prog.cellsOf 49 = 9 := by kernel_rfl
theorem Da : Hf pg0 3 (fun n : Int => [.int .i64 n]) (fun _ => 0) := Qk Tryz.underlying3
theorem Gz : Tryz.prog.cellsOf 3 = 1 := by kernel_rfl
theorem EX : Tryz.prog.cellsOf 27 = 2 := by kernel_rfl
def xE (x : jr) : Nat := x.ju.size + x.jy.size
theorem Gu : Hf pg0 27 jA xE := by
 intro H g W base sp j fuel cs x h
 obtain ⟨xs, n, _, rfl, p, hlen, k⟩ := dM Tryz.underlying27 h
 obtain ⟨r, s, rfl⟩ := ED hlen
 obtain ⟨a, c1, rfl⟩ := ED (p.trans EX)
 have i : DataW.trod g pg0 W base sp j n 9 (([a, c1].drop 0).take (Tryz.prog.cellsOf 9)) = some r := k 0 _ rfl
 have h1 : DataW.trod g pg0 W base sp j n 9 (([a, c1].drop 1).take (Tryz.prog.cellsOf 9)) = some s := k 1 _ rfl
 simp only [Er, List.drop, List.take] at i h1
 obtain ⟨q, b, l⟩ := FU _ _ _ _ _ _ _ _ _ i
 obtain ⟨s1, d, m⟩ := FU _ _ _ _ _ _ _ _ _ h1
 simp only [bk, dv] at b d
 obtain rfl := b
 obtain rfl := d
 refine ⟨⟨q, s1⟩, rfl, ?_⟩
 simp only [List.map, Rows.uptoBulk, Rows.uptoBulkAll, xE] at l m ⊢
 omega
theorem Tl {α : Type} {l : List α} (h : l.length = 6) : ∃ a0 a a2 a3 a4 a5, l = [a0, a, a2, a3, a4, a5] := by
 match l, h with
 | [a0, a, a2, a3, a4, a5], _ => exact ⟨a0, a, a2, a3, a4, a5, rfl⟩
def vq (x : js) : Nat := xE x.Head + x.kE.size + xE x.B + xE x.C + x.kM.size
theorem Pk : Hf pg0 49 jw vq := by
 intro H l W base sp m fuel cs x h
 obtain ⟨xs, n, _, rfl, Q, hlen, p⟩ := dM Tryz.underlying49 h
 obtain ⟨Z, y1, y2, y3, y4, y5, rfl⟩ := Tl hlen
 obtain ⟨a, c1, c2, b, d, g, i, j, k, rfl⟩ := QL (Q.trans Hk)
 have w : DataW.trod l pg0 W base sp m n 3 (([a, c1, c2, b, d, g, i, j, k].drop 0).take (Tryz.prog.cellsOf 3)) = some Z := p 0 _ rfl
 have h1 : DataW.trod l pg0 W base sp m n 27 (([a, c1, c2, b, d, g, i, j, k].drop 1).take (Tryz.prog.cellsOf 27)) = some y1 := p 1 _ rfl
 have y : DataW.trod l pg0 W base sp m n 9 (([a, c1, c2, b, d, g, i, j, k].drop 3).take (Tryz.prog.cellsOf 9)) = some y2 := p 2 _ rfl
 have z : DataW.trod l pg0 W base sp m n 27 (([a, c1, c2, b, d, g, i, j, k].drop 4).take (Tryz.prog.cellsOf 27)) = some y3 := p 3 _ rfl
 have E : DataW.trod l pg0 W base sp m n 27 (([a, c1, c2, b, d, g, i, j, k].drop 6).take (Tryz.prog.cellsOf 27)) = some y4 := p 4 _ rfl
 have G : DataW.trod l pg0 W base sp m n 9 (([a, c1, c2, b, d, g, i, j, k].drop 8).take (Tryz.prog.cellsOf 9)) = some y5 := p 5 _ rfl
 simp only [EX, Gz, Er, List.drop, List.take] at w h1 y z E G
 obtain ⟨R, q, I⟩ := Da _ _ _ _ _ _ _ _ _ w
 obtain ⟨s1, r, J⟩ := Gu _ _ _ _ _ _ _ _ _ h1
 obtain ⟨s2, s, L⟩ := FU _ _ _ _ _ _ _ _ _ y
 obtain ⟨T, t, M⟩ := Gu _ _ _ _ _ _ _ _ _ z
 obtain ⟨U, u, O⟩ := Gu _ _ _ _ _ _ _ _ _ E
 obtain ⟨Y, v, P⟩ := FU _ _ _ _ _ _ _ _ _ G
 simp only [jA, bk, dv] at q r s t u v
 obtain rfl := q
 obtain ⟨rfl, rfl⟩ := r
 obtain rfl := s
 obtain ⟨rfl, rfl⟩ := t
 obtain ⟨rfl, rfl⟩ := u
 obtain rfl := v
 refine ⟨⟨R, s1, s2, T, U, Y⟩, rfl, ?_⟩
 simp only [List.map, Rows.uptoBulk, Rows.uptoBulkAll, vq] at I J L M O P ⊢
 omega
theorem KY : Tryz.prog.cellsOf 59 = 1 := by kernel_rfl
theorem M8 : Tryz.prog.cellsOf 5 = 1 := by kernel_rfl
theorem Pu : EU pg0 5 (Lq (Pl (lm .u8)) (fun x => 0 ≤ x ∧ x < 256)) (fun _ => 0) := Lb iV
theorem CA : Tryz.prog.cellsOf 30 = 5 := by kernel_rfl
theorem Tz {α : Type} {l : List α} (h : l.length = 4) : ∃ a0 a a2 a3, l = [a0, a, a2, a3] := by
 match l, h with
 | [a0, a, a2, a3], _ => exact ⟨a0, a, a2, a3, rfl⟩
theorem Ty {α : Type} {l : List α} (h : l.length = 5) : ∃ a0 a a2 a3 a4, l = [a0, a, a2, a3, a4] := by
 match l, h with
 | [a0, a, a2, a3, a4], _ => exact ⟨a0, a, a2, a3, a4, rfl⟩
theorem PK : Tryz.prog.cellsOf 28 = 1 := by kernel_rfl
theorem Ts {H : Type} {x : DataW H × List MemPlace} {ys : List (DataW H × List MemPlace)} {p : List MemPlace} (a : x = (.agg (ys.map (·.1)), p)) (i : Nat) {y : DataW H × List MemPlace} (h : ys[i]? = some y) : SizeOf.sizeOf y.1 < SizeOf.sizeOf x.1 := by
 subst a
 have := List.sizeOf_lt_of_mem (bI.2 ⟨y, cY h, rfl⟩ : y.1 ∈ ys.map (·.1))
 simp only [DataW.agg.sizeOf_spec]; omega
theorem Jy : ∀ l : List Formula, szFL l ≤ sr zb l
 | [] => aY _
 | k :: l => by have := Jy l; rw [szFL]; simp only [sr, bH, ft] at this ⊢; omega
theorem RT : ∀ (N : Nat) (H : Type) (M : TypeId × Value → H) (W : World) (base : Nat) (sp : Nat → Bool) (O : Bool) (fuel : Nat) (cs : List Value) (x : DataW H × List MemPlace),
  DataW.trod M pg0 W base sp O fuel 30 cs = some x → SizeOf.sizeOf x.1 < N → ∃ a : Formula, jt (hp W) cs a ∧ zb a ≤ Rows.uptoBulk x.1 := by
 intro N
 induction N with
 | zero => intro _ _ _ _ _ _ _ _ _ _ h; exact absurd h (Nat.not_lt_zero _)
 | succ N ih =>
  intro H M W base sp O fuel cs x h hN
  obtain ⟨a1, w, _, r, E, q, k⟩ := dM Tryz.underlying30 h
  obtain ⟨s, t, u, v, rfl⟩ := Tz q
  obtain ⟨b, d, g, i, j, rfl⟩ := Ty (E.trans CA)
  have l : DataW.trod _ pg0 W _ _ _ w 3 (([b, d, g, i, j].drop 0).take (Tryz.prog.cellsOf 3)) = some s := k 0 _ rfl
  have m : DataW.trod _ pg0 W _ _ _ w 3 (([b, d, g, i, j].drop 1).take (Tryz.prog.cellsOf 3)) = some t := k 1 _ rfl
  have n : DataW.trod _ pg0 W _ _ _ w 27 (([b, d, g, i, j].drop 2).take (Tryz.prog.cellsOf 27)) = some u := k 2 _ rfl
  have p : DataW.trod _ pg0 W _ _ _ w 28 (([b, d, g, i, j].drop 4).take (Tryz.prog.cellsOf 28)) = some v := k 3 _ rfl
  simp only [EX, PK, Gz, List.drop, List.take] at l m n p
  obtain ⟨s2, G, R⟩ := Da _ _ _ _ _ _ _ _ _ l
  simp only [bk, dv] at G
  obtain rfl := G
  obtain ⟨s3, I, T⟩ := Da _ _ _ _ _ _ _ _ _ m
  simp only [bk, dv] at I
  obtain rfl := I
  obtain ⟨s4, J, U⟩ := Gu _ _ _ _ _ _ _ _ _ n
  simp only [jA, bk, dv] at J
  obtain ⟨rfl, rfl⟩ := J
  obtain ⟨v5, P, L, q5, Y⟩ := Ft CA (by decide) Tryz.underlying28 (fun f cs y h Z => ih _ _ _ _ _ _ _ _ _ h (by have := Ts r 3 rfl; omega)) p
  simp only [bk, dv] at L
  obtain rfl := L
  have Q := bN (fun z => Rows.uptoBulk z.1) r
  refine ⟨⟨s2, s3, s4, P⟩, jt.mk ⟨_, rfl, q5⟩, ?_⟩
  have Z := Jy P
  simp only [List.map, Rows.uptoBulk, Rows.uptoBulkAll, xE] at R T U Y Q ⊢
  rw [JU]
  simp only
  omega
theorem Jc : EU pg0 30 jt zb := fun H a W base sp b fuel cs x h => RT _ H a W base sp b fuel cs x h (bn _)
def uI (x : kD) : Nat := vq x.Signed.js + sr (fun _ : Int => 0) x.Signed.Tag + 1 + zb x.jB + 1
def NM (x : kD) : Prop := (∀ y ∈ x.Signed.Tag, 0 ≤ y ∧ y < 256)
theorem Na : EU pg0 63 (Lq kz NM) uI := by
 intro H eh W base sp hd fuel cs x h
 obtain ⟨a7, n6, _, Y, U, E, L⟩ := dM Tryz.underlying63 h
 obtain ⟨O, P, rfl⟩ := ED E
 obtain ⟨a, b, d, g, i, j, k, l, m, n, p, q, r, s, t, rfl⟩ := Sf (U.trans HO)
 have u : DataW.trod _ pg0 W _ _ _ n6 61 (([a, b, d, g, i, j, k, l, m, n, p, q, r, s, t].drop 0).take (Tryz.prog.cellsOf 61)) = some O := L 0 _ rfl
 have v : DataW.trod _ pg0 W _ _ _ n6 30 (([a, b, d, g, i, j, k, l, m, n, p, q, r, s, t].drop 10).take (Tryz.prog.cellsOf 30)) = some P := L 1 _ rfl
 simp only [CA, P4, List.drop, List.take] at u v
 obtain ⟨a8, n7, _, Z, a6, G, M⟩ := dM Tryz.underlying61 u
 obtain ⟨Q, R, rfl⟩ := ED G
 have w : DataW.trod _ pg0 W _ _ _ n7 49 (([a, b, d, g, i, j, k, l, m, n].drop 0).take (Tryz.prog.cellsOf 49)) = some Q := M 0 _ rfl
 have y : DataW.trod _ pg0 W _ _ _ n7 59 (([a, b, d, g, i, j, k, l, m, n].drop 9).take (Tryz.prog.cellsOf 59)) = some R := M 1 _ rfl
 simp only [Hk, KY, List.drop, List.take] at w y
 obtain ⟨s8, e8, b8⟩ := Pk _ _ _ _ _ _ _ _ _ w
 simp only [jw, jA, bk, dv] at e8
 obtain ⟨rfl, rfl, rfl, rfl, rfl, rfl, rfl, rfl, rfl⟩ := e8
 obtain ⟨v9, s9, e9, q9, b9⟩ := tC M8 (by decide) Pu Tryz.underlying59 y
 simp only [bk, dv] at e9
 obtain rfl := e9
 obtain ⟨q9, g9⟩ := Lf.Sl.all q9
 have b7 := bN (fun z => Rows.uptoBulk z.1) Z
 obtain ⟨a1, I, T⟩ := Jc _ _ _ _ _ _ _ _ _ v
 obtain ⟨v10, J, I⟩ := I.out
 simp only [bk, dv] at J
 obtain ⟨rfl, rfl, rfl, rfl, rfl⟩ := J
 have b6 := bN (fun z => Rows.uptoBulk z.1) Y
 refine ⟨⟨⟨s8, s9⟩, a1⟩, ⟨kz.mk ⟨_, _, rfl, q9, I⟩, g9⟩, ?_⟩
 simp only [List.map, Rows.uptoBulk, Rows.uptoBulkAll, uI] at b8 b9 b7 T b6 ⊢
 omega
theorem Ld : Tryz.prog.cellsOf 23 = 1 := by kernel_rfl
theorem Hq : Tryz.prog.cellsOf 82 = 8 := by kernel_rfl
theorem TE {α : Type} {l : List α} (h : l.length = 8) : ∃ a0 a a2 a3 a4 a5 b d, l = [a0, a, a2, a3, a4, a5, b, d] := by
 match l, h with
 | [a0, a, a2, a3, a4, a5, b, d], _ => exact ⟨a0, a, a2, a3, a4, a5, b, d, rfl⟩
theorem PV : Tryz.prog.cellsOf 42 = 1 := by kernel_rfl
def xT (x : nF) : Nat := xE x.jr + zb x.jB + sr vq x.mu + 1
def SK (x : nF) : Prop := True
theorem MT : EU pg0 82 (Lq lF SK) xT := by
 intro H eh W base sp hd fuel cs x h
 obtain ⟨U, n11, _, I, G, r, q⟩ := dM Tryz.underlying82 h
 obtain ⟨t, u, v, rfl⟩ := Pc r
 obtain ⟨a, b, d, g, i, j, k, l, rfl⟩ := TE (G.trans Hq)
 have m : DataW.trod _ pg0 W _ _ _ n11 27 (([a, b, d, g, i, j, k, l].drop 0).take (Tryz.prog.cellsOf 27)) = some t := q 0 _ rfl
 have n : DataW.trod _ pg0 W _ _ _ n11 30 (([a, b, d, g, i, j, k, l].drop 2).take (Tryz.prog.cellsOf 30)) = some u := q 1 _ rfl
 have p : DataW.trod _ pg0 W _ _ _ n11 42 (([a, b, d, g, i, j, k, l].drop 7).take (Tryz.prog.cellsOf 42)) = some v := q 2 _ rfl
 simp only [EX, CA, PV, List.drop, List.take] at m n p
 obtain ⟨Q, w, L⟩ := Gu _ _ _ _ _ _ _ _ _ m
 simp only [jA, bk, dv] at w
 obtain ⟨rfl, rfl⟩ := w
 obtain ⟨R, s, M⟩ := Jc _ _ _ _ _ _ _ _ _ n
 obtain ⟨Y, y, s⟩ := s.out
 simp only [bk, dv] at y
 obtain ⟨rfl, rfl, rfl, rfl, rfl⟩ := y
 obtain ⟨Z, T, E, P, O⟩ := tC Hk (by decide) Pk.rel Tryz.underlying42 p
 simp only [bk, dv] at E
 obtain rfl := E
 have J := bN (fun z => Rows.uptoBulk z.1) I
 refine ⟨⟨Q, R, T⟩, ⟨lF.mk ⟨_, _, rfl, s, P⟩, trivial⟩, ?_⟩
 simp only [List.map, Rows.uptoBulk, Rows.uptoBulkAll, xT] at L M O J ⊢
 omega
theorem Ln : Tryz.prog.cellsOf 31 = 2 := by kernel_rfl
def ES (x : kT) : Nat := 0
theorem SC : Hf pg0 31 lP ES := by
 intro H g W base sp j fuel cs x h
 obtain ⟨xs, n, _, rfl, p, hlen, k⟩ := DataW.trod_array Tryz.underlying31 h
 obtain ⟨r, s, rfl⟩ := ED hlen
 obtain ⟨a, c1, rfl⟩ := ED (p.trans Ln)
 have i : DataW.trod g pg0 W base sp j n 3 (([a, c1].drop (0 * Tryz.prog.cellsOf 3)).take (Tryz.prog.cellsOf 3)) = some r := k 0 (by decide)
 have h1 : DataW.trod g pg0 W base sp j n 3 (([a, c1].drop (1 * Tryz.prog.cellsOf 3)).take (Tryz.prog.cellsOf 3)) = some s := k 1 (by decide)
 simp only [Gz, List.drop, List.take, Nat.reduceMul] at i h1
 obtain ⟨q, b, l⟩ := Da _ _ _ _ _ _ _ _ _ i
 obtain ⟨s1, d, m⟩ := Da _ _ _ _ _ _ _ _ _ h1
 simp only [bk, dv] at b d
 obtain rfl := b
 obtain rfl := d
 refine ⟨⟨q, s1⟩, rfl, ?_⟩
 simp only [List.map, Rows.uptoBulk, Rows.uptoBulkAll, ES] at l m ⊢
 omega
theorem Qx : Tryz.prog.cellsOf 32 = 1 := by kernel_rfl
theorem KR : Tryz.prog.cellsOf 86 = 2 := by kernel_rfl
def By (x : Key) : Nat := x.kE.size + sr (fun _ : Int => 0) x.Key + 1
def SJ (x : Key) : Prop := (∀ y ∈ x.Key, 0 ≤ y ∧ y < 256)
theorem QY : EU pg0 86 (Lq qt SJ) By := by
 intro H E W base sp G fuel cs x h
 obtain ⟨y, n15, _, r, q, i, j⟩ := dM Tryz.underlying86 h
 obtain ⟨l, m, rfl⟩ := ED i
 obtain ⟨a, b, rfl⟩ := ED (q.trans KR)
 have d : DataW.trod _ pg0 W _ _ _ n15 9 (([a, b].drop 0).take (Tryz.prog.cellsOf 9)) = some l := j 0 _ rfl
 have g : DataW.trod _ pg0 W _ _ _ n15 59 (([a, b].drop 1).take (Tryz.prog.cellsOf 59)) = some m := j 1 _ rfl
 simp only [KY, Er, List.drop, List.take] at d g
 obtain ⟨v, n, t⟩ := FU _ _ _ _ _ _ _ _ _ d
 simp only [bk, dv] at n
 obtain rfl := n
 obtain ⟨v17, w, p, k, u⟩ := tC M8 (by decide) Pu Tryz.underlying59 g
 simp only [bk, dv] at p
 obtain rfl := p
 obtain ⟨k, g17⟩ := Lf.Sl.all k
 have s := bN (fun z => Rows.uptoBulk z.1) r
 refine ⟨⟨v, w⟩, ⟨qt.mk ⟨_, rfl, k⟩, g17⟩, ?_⟩
 simp only [List.map, Rows.uptoBulk, Rows.uptoBulkAll, By] at t u s ⊢
 omega
def GJ (x : na) : Nat := x.ju.Name.size + sr uI x.ju.jN + sr xT x.ju.ky + 1 + x.Client.Name.size + sr uI x.Client.jN + sr xT x.Client.ky + 1 + zb x.Formula + ES x.nu + sr By x.Keys + 1
theorem To : Tryz.prog.readableRec 34 = true ∧ 34 < Tryz.prog.types.size := ⟨by kernel_rfl, gI (by kernel_rfl)⟩
theorem TQ : Tryz.prog.readableRec 5 = true ∧ 5 < Tryz.prog.types.size := ⟨by kernel_rfl, gI (by kernel_rfl)⟩
theorem Dc (c : js) : xV c = vq c := by unfold xV vq xE; omega
theorem KO {α : Type} (sz : α → Nat) (h : ∀ a, 2 ≤ sz a) : ∀ l : List α, 2 * l.length ≤ sr sz l
 | [] => eH _
 | a :: l => by have := KO sz h l; have := h a; simp only [sr, bH, ft, aK] at *; omega
theorem AW (y : kD) : uI y = vq y.Signed.js + sr (fun _ : Int => 0) y.Signed.Tag + 1 + zb y.jB + 1 := rfl
theorem Kg (y : nF) : xT y = xE y.jr + zb y.jB + sr vq y.mu + 1 := rfl
theorem OX (y : Key) : By y = y.kE.size + sr (fun _ : Int => 0) y.Key + 1 := rfl
theorem KV : ∀ l : List js, ye l ≤ 21 * sr vq l
 | [] => eH _
 | c :: l => by have := KV l; rw [ye, Dc]; simp only [sr, bH, ft] at *; omega
theorem KS : ∀ l : List kD, BR l ≤ 21 * sr uI l
 | [] => eH _
 | x :: l => by
  have := KS l
  have := Cu (fun _ : Int => 0) x.Signed.Tag
  rw [BR, Dc]
  have e := AW x
  simp only [sr, bH, ft] at *; omega
theorem LF : ∀ l : List nF, AL l ≤ 21 * sr xT l
 | [] => eH _
 | x :: l => by
  have := LF l
  have := KV x.mu
  rw [AL]
  have e := Kg x
  unfold xE at e
  have a : sr xT (x :: l) = max 1 (xT x) + sr xT l := rfl
  omega
theorem Lt : ∀ l : List Key, CL l ≤ 11 * sr By l
 | [] => eH _
 | x :: l => by
  have := Lt l
  have := Cu (fun _ : Int => 0) x.Key
  rw [CL]
  have e := OX x
  have a : sr By (x :: l) = max 1 (By x) + sr By l := rfl
  omega
theorem Jz (x : kL) (d : x.Name.size ≤ 1048576) (h1 : sr uI x.jN ≤ 1048576) (g : sr xT x.ky ≤ 1048576) : PG x ∧ x.jN.length ≤ 600000 ∧ H6 x ≤ 1000000000 := by
 have c1 := KO uI (fun y => by rw [AW]; omega) x.jN
 have c2 := Cu xT x.ky
 have g1 : ∀ y ∈ x.jN, vq y.Signed.js ≤ 1048576 ∧ kx y.jB ≤ 1048576 := fun y a => by
  have := Ha (sz := uI) a
  have e := AW y
  have := BE y.jB
  omega
 have g2 : ∀ y ∈ x.ky, kx y.jB ≤ 1048576 ∧ sr vq y.mu ≤ 1048576 := fun y a => by
  have := Ha (sz := xT) a
  have e := Kg y
  have := BE y.jB
  omega
 refine ⟨{ IT := by omega, Om := by omega, rel := fun y a => ?_, OE := fun y a => ?_, TL := fun y a => ?_, TK := fun y a => ?_, TZ := fun y a c b => ?_ }, by omega, ?_⟩
 ·have := (g1 y a).2; omega
 ·have := (g2 y a).1; omega
 ·have := (g2 y a).2; have := Cu vq y.mu; omega
 ·have := (g1 y a).1; rw [Dc]; omega
 ·have := (g2 y a).2; have := Ha (sz := vq) b; rw [Dc]; omega
 ·have := KS x.jN; have := LF x.ky; unfold H6; omega
theorem QA (p : na) (h : GJ p ≤ 1048576) : PQ p := by
 unfold GJ at h
 have a := Jz p.ju (by omega) (by omega) (by omega)
 have b := Jz p.Client (by omega) (by omega) (by omega)
 have k := Lt p.Keys
 have f := BE p.Formula
 exact { o := a.1, c := b.1, lo := a.2.1, lc := b.2.1, f := by omega, go := a.2.2, gc := b.2.2, fs := by omega, ks := by omega }
theorem own : ownKnob Tryz.prog.godebug = none := by kernel_rfl
theorem OS : laidOutB pg0 = true := by kernel_rfl
theorem OM (H : Type) (enc : TypeId × Value → H) (W : World) (base : Nat) (args : Array Value) (ds gs : List (DataW H)) (before : List MemPlace) (af : ∀ (j : Nat) t v, Tryz.f3.params[j]? = some t → args[j]? = some v → Value.okWide pg0 W .any base t v) (hW : DataW.Whole enc pg0 Tryz.f3.params.toList Rows.strandTellsSpec.vars false W args.toList ds gs before) (hk : Rows.uptoSmall H (ds ++ gs) = true) :
  Calls pg0 3 args W fun e W' => ∃ v, e = .returned v ∧ Rows.strandTellsSpec.post enc pg0 Tryz.f3 false true false false W args v W' := by
 have db := hW
 obtain ⟨p, q, da, hV, rfl, e8, e9⟩ := hW
 have hA : DataW.TrodAll enc pg0 W 0 (fun _ => true) true Tryz.f3.params.toList args.toList ds p := da
 have hr : ∀ t ∈ Tryz.f3.params.toList, Tryz.prog.readableRec t = true ∧ t < Tryz.prog.types.size := by
  rw [Tryz.params3]
  intro t ht
  simp only [aP, cO, eZ] at ht
  rcases ht with rfl | rfl
  ·exact To
  ·exact TQ
 rw [Tryz.params3] at hA af
 obtain ⟨v0, ea, d0, e1, p0, q0, de, rfl, rfl, h0, r0⟩ := trodAll_cons hA
 obtain ⟨v1, eb, d1, e2, p1, q1, rfl, rfl, rfl, h1, r1⟩ := trodAll_cons r0
 obtain ⟨rfl, rfl, rfl⟩ := trodAll_nil r1
 obtain rfl : args = #[v0, v1] := by cases args; simp_all
 obtain ⟨rfl, rfl⟩ := trodVars_none hV
 have k0 := af 0 34 v0 rfl rfl
 have k1 := af 1 5 v1 rfl rfl
 obtain ⟨bt, rfl, _⟩ := okWide_struct Tryz.underlying34 k0
 obtain ⟨e3, cb⟩ := h0
 obtain ⟨dg, rfl⟩ : ∃ l : List Value, bt = l.toArray := ⟨bt.toList, by simp⟩
 change DataW.trod _ _ _ _ _ _ _ _ dg = some _ at cb
 obtain ⟨dj, n18, _, cd, cc, ag, J⟩ := dM Tryz.underlying34 cb
 obtain ⟨b6, b7, b9, ba, bb, bc, bd, bf, bh, rfl⟩ := QL ag
 obtain ⟨k, a, b, m, d, g, y, E, G, I, h, n, r, s, u, w, x, i, rfl⟩ := SI (cc.trans Qd)
 have L : DataW.trod _ pg0 W _ _ _ n18 25 (([k, a, b, m, d, g, y, E, G, I, h, n, r, s, u, w, x, i].drop 0).take (Tryz.prog.cellsOf 25)) = some b6 := J 0 _ rfl
 have M : DataW.trod _ pg0 W _ _ _ n18 25 (([k, a, b, m, d, g, y, E, G, I, h, n, r, s, u, w, x, i].drop 3).take (Tryz.prog.cellsOf 25)) = some b7 := J 1 _ rfl
 have O : DataW.trod _ pg0 W _ _ _ n18 30 (([k, a, b, m, d, g, y, E, G, I, h, n, r, s, u, w, x, i].drop 6).take (Tryz.prog.cellsOf 30)) = some b9 := J 2 _ rfl
 have P : DataW.trod _ pg0 W _ _ _ n18 3 (([k, a, b, m, d, g, y, E, G, I, h, n, r, s, u, w, x, i].drop 11).take (Tryz.prog.cellsOf 3)) = some ba := J 3 _ rfl
 have Q : DataW.trod _ pg0 W _ _ _ n18 31 (([k, a, b, m, d, g, y, E, G, I, h, n, r, s, u, w, x, i].drop 12).take (Tryz.prog.cellsOf 31)) = some bb := J 4 _ rfl
 have R : DataW.trod _ pg0 W _ _ _ n18 3 (([k, a, b, m, d, g, y, E, G, I, h, n, r, s, u, w, x, i].drop 14).take (Tryz.prog.cellsOf 3)) = some bc := J 5 _ rfl
 have T : DataW.trod _ pg0 W _ _ _ n18 3 (([k, a, b, m, d, g, y, E, G, I, h, n, r, s, u, w, x, i].drop 15).take (Tryz.prog.cellsOf 3)) = some bd := J 6 _ rfl
 have U : DataW.trod _ pg0 W _ _ _ n18 3 (([k, a, b, m, d, g, y, E, G, I, h, n, r, s, u, w, x, i].drop 16).take (Tryz.prog.cellsOf 3)) = some bf := J 7 _ rfl
 have Y : DataW.trod _ pg0 W _ _ _ n18 32 (([k, a, b, m, d, g, y, E, G, I, h, n, r, s, u, w, x, i].drop 17).take (Tryz.prog.cellsOf 32)) = some bh := J 8 _ rfl
 simp only [QD, Gz, CA, Ln, Qx, List.drop, List.take] at L M O P Q R T U Y
 obtain ⟨dk, n19, _, cf, dh, ah, ad⟩ := dM Tryz.underlying25 L
 obtain ⟨bi, bj, bl, rfl⟩ := Pc ah
 have Z : DataW.trod _ pg0 W _ _ _ n19 9 (([k, a, b].drop 0).take (Tryz.prog.cellsOf 9)) = some bi := ad 0 _ rfl
 have a6 : DataW.trod _ pg0 W _ _ _ n19 22 (([k, a, b].drop 1).take (Tryz.prog.cellsOf 22)) = some bj := ad 1 _ rfl
 have a7 : DataW.trod _ pg0 W _ _ _ n19 23 (([k, a, b].drop 2).take (Tryz.prog.cellsOf 23)) = some bl := ad 2 _ rfl
 simp only [KH, Ld, Er, List.drop, List.take] at Z a6 a7
 obtain ⟨aq, bu, ck⟩ := FU _ _ _ _ _ _ _ _ _ Z
 simp only [bk, dv] at bu
 obtain rfl := bu
 obtain ⟨v21, ar, bw, aj, cm⟩ := tC HO (by decide) Na Tryz.underlying22 a6
 simp only [bk, dv] at bw
 obtain rfl := bw
 obtain ⟨aj, g21⟩ := Lf.Sl.all aj
 obtain ⟨v22, au, bx, ak, cn⟩ := tC Hq (by decide) MT Tryz.underlying23 a7
 simp only [bk, dv] at bx
 obtain rfl := bx
 obtain ⟨ak, g22⟩ := Lf.Sl.all ak
 have cj := bN (fun z => Rows.uptoBulk z.1) cf
 obtain ⟨e0, n23, _, cg, di, ai, ae⟩ := dM Tryz.underlying25 M
 obtain ⟨bp, bq, bs, rfl⟩ := Pc ai
 have a8 : DataW.trod _ pg0 W _ _ _ n23 9 (([m, d, g].drop 0).take (Tryz.prog.cellsOf 9)) = some bp := ae 0 _ rfl
 have aa : DataW.trod _ pg0 W _ _ _ n23 22 (([m, d, g].drop 1).take (Tryz.prog.cellsOf 22)) = some bq := ae 1 _ rfl
 have ab : DataW.trod _ pg0 W _ _ _ n23 23 (([m, d, g].drop 2).take (Tryz.prog.cellsOf 23)) = some bs := ae 2 _ rfl
 simp only [KH, Ld, Er, List.drop, List.take] at a8 aa ab
 obtain ⟨av, bz, cq⟩ := FU _ _ _ _ _ _ _ _ _ a8
 simp only [bk, dv] at bz
 obtain rfl := bz
 obtain ⟨v25, aw, c0, al, cr⟩ := tC HO (by decide) Na Tryz.underlying22 aa
 simp only [bk, dv] at c0
 obtain rfl := c0
 obtain ⟨al, e5⟩ := Lf.Sl.all al
 obtain ⟨v26, ay, c3, an, cs⟩ := tC Hq (by decide) MT Tryz.underlying23 ab
 simp only [bk, dv] at c3
 obtain rfl := c3
 obtain ⟨an, e6⟩ := Lf.Sl.all an
 have cp := bN (fun z => Rows.uptoBulk z.1) cg
 obtain ⟨az, ao, ct⟩ := Jc _ _ _ _ _ _ _ _ _ O
 obtain ⟨v27, c4, ao⟩ := ao.out
 simp only [bk, dv] at c4
 obtain ⟨rfl, rfl, rfl, rfl, rfl⟩ := c4
 obtain ⟨aE, c5, cu⟩ := Da _ _ _ _ _ _ _ _ _ P
 simp only [bk, dv] at c5
 obtain rfl := c5
 obtain ⟨b0, c6, cv⟩ := SC _ _ _ _ _ _ _ _ _ Q
 simp only [lP, bk, dv] at c6
 obtain ⟨rfl, rfl⟩ := c6
 obtain ⟨b2, c7, cw⟩ := Da _ _ _ _ _ _ _ _ _ R
 simp only [bk, dv] at c7
 obtain rfl := c7
 obtain ⟨b3, c8, cx⟩ := Da _ _ _ _ _ _ _ _ _ T
 simp only [bk, dv] at c8
 obtain rfl := c8
 obtain ⟨b4, c9, cy⟩ := Da _ _ _ _ _ _ _ _ _ U
 simp only [bk, dv] at c9
 obtain rfl := c9
 obtain ⟨v33, b5, ca, ap, cz⟩ := tC KR (by decide) QY Tryz.underlying32 Y
 simp only [bk, dv] at ca
 obtain rfl := ca
 obtain ⟨ap, e7⟩ := Lf.Sl.all ap
 have ch := bN (fun z => Rows.uptoBulk z.1) cd
 simp only [List.map, Rows.uptoBulk, Rows.uptoBulkAll] at ck cm cn cj cq cr cs cp ct cu cv cw cx cy cz ch
 have z0 : GJ (⟨⟨aq, ar, au⟩, ⟨av, aw, ay⟩, az, aE, b0, b2, b3, b4, b5⟩ : na) ≤ Rows.uptoBulk d0 := by simp only [GJ]; omega
 obtain ⟨a1, rfl⟩ := okWide_int iV k1
 obtain ⟨e4, df⟩ := h1
 obtain ⟨b1, ⟨cS, z1⟩, _⟩ := Lb iV _ _ _ _ _ _ _ _ _ df
 obtain rfl : a1 = b1 := by simpa [Value.cells, Pl, lm] using cS
 have hB : Rows.uptoBulkAll ([d0, d1] ++ []) ≤ 1048576 := gI hk
 simp only [bJ, Rows.uptoBulkAll] at hB
 have hm : ud (⟨⟨aq, ar, au⟩, ⟨av, aw, ay⟩, az, aE, b0, b2, b3, b4, b5⟩ : na) a1 = some true := FO P9 _ (QA _ (by omega)) _ (by omega) (by omega)
 have hg := DO (⟨⟨aq, ar, au⟩, ⟨av, aw, ay⟩, az, aE, b0, b2, b3, b4, b5⟩ : na) a b d g h i a1 true W aj ak al an ao ap hm
 refine cW hg fun e W' ⟨he, hx⟩ => ?_
 subst he
 exact ⟨_, rfl, LQ OS hr rfl db hx (fun _ _ _ => trodAll_cons_mk (shut_bool Tryz.underlying4 _) trodAll_mk0) rfl rfl (ok_one (by kernel_rfl) rfl (okWide_bool_mk Tryz.underlying4 _))⟩
set_option maxRecDepth 100000 in
theorem Ry (os : Os) (started : os.Started) (H : Type) (enc : TypeId × Value → H) (F : Stop.Interp) :
  ReturnsInHanded {} Tryz.checked os 3 .any ((Rows.OpenSpec.upto Rows.strandTellsSpec).pre6 enc pg0 Tryz.f3 Rows.strandTellsUptoRow.domain false) (((Rows.OpenSpec.upto Rows.strandTellsSpec).at F).post enc pg0 Tryz.f3 false true false false) := by
 refine returnsInHanded_of_cond (C := Tryz.checked) (s := Rows.OpenSpec.upto Rows.strandTellsSpec) (k := Rows.uptoSmall) rfl own started (by kernel_rfl) Tryz.func3
  (OpenSpec.witness (enc := enc) (C := Tryz.checked) (s := Rows.OpenSpec.upto Rows.strandTellsSpec) (k := Rows.uptoSmall) rfl false ⟨#[], #[.agg #[.string ⟨#[]⟩, .slice none 0 0, .slice none 0 0, .string ⟨#[]⟩, .slice none 0 0, .slice none 0 0, .int .i64 0, .int .i64 0, .string ⟨#[]⟩, .string ⟨#[]⟩, .slice none 0 0, .int .i64 0, .int .i64 0, .int .i64 0, .int .i64 0, .int .i64 0, .int .i64 0, .slice none 0 0], .int .u8 0], []⟩ 8 (by kernel_rfl) (by kernel_rfl) (by kernel_rfl)
   (x := ([.agg [.agg [.lit (.string []), .nil, .nil], .agg [.lit (.string []), .nil, .nil], .agg [.lit (.int .i64 0), .lit (.int .i64 0), .agg [.lit (.string []), .lit (.string [])], .nil], .lit (.int .i64 0), .agg [.lit (.int .i64 0), .lit (.int .i64 0)], .lit (.int .i64 0), .lit (.int .i64 0), .lit (.int .i64 0), .nil], .lit (.int .u8 0)], [], [])) (by kernel_rfl) rfl (by kernel_rfl)) ?_
 intro W base args ds gs before a b _ hk _
 exact OM H enc W base args ds gs before a b hk
theorem Sz {a b : Bool} (ha : a = true) (d : b = true) : (a && b) = true := by rw [ha, d]; rfl
set_option maxHeartbeats 40000000 in
theorem PN : joinedFacts Tryz.checked.prog 3 Tryz.f3 (Rows.OpenSpec.upto Rows.strandTellsSpec).bare Rows.strandTellsUptoRow = true := by
 unfold joinedFacts
 repeat' with_reducible refine Sz ?_ ?_
 all_goals as_aux_lemma => kernel_rfl
theorem proved : Rows.StrandTellsUptoSaid :=
 OpenClaim.holds_of_cond 3 Tryz.f3 rfl rfl rfl rfl rfl rfl rfl ⟨rfl, rfl, rfl, rfl, rfl⟩ rfl rfl rfl rfl rfl (by kernel_rfl) Tryz.func3 PN
  (gI (by kernel_rfl)) (by unfold Func.isWrapper; first | (rw [bD (by decide +kernel)]; kernel_rfl) | (rw [bB (by decide +kernel)]; exact ⟨rfl, rfl⟩))
  (fun os started H enc _ F => Ry os started H enc F)
end Go.Proofs.YtjjjihkifgdhgaaGreat
