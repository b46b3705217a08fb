/- a part of a proof of LintTexts -/
import Derived.Test.YtjjjihkifgdhgaaGreatDoorHlk
import Derived.Test.YtjjjihkifgdhgaaGreatDoorRtWk
import Derived.Test.YtjjjihkifgdhgaaGreatDoorRows
import Derived.WalkKit
import Derived.ProofKit
import Derived.OpenShut
import Derived.JoinedCond
import Derived.Deep.Slices
import Derived.Carry
import Derived.ChangeArms
import Derived.ChangeSame
import Derived.Test.YtjjjihkifgdhgaaGreatDoorCards
import Derived.Test.YtjjjihkifgdhgaaGreatDoorTie
import Derived.Deep.DeepHandedRow
import Derived.Lib.LaidTab
import Derived.SevenTiedAt
import Derived.Test.YtjjjihkifgdhgaaGreatDoorDL4W2k
set_option linter.all false
namespace Go.Proofs.YtjjjihkifgdhgaaGreatDoor
open Go.Proofs.Tryz renaming prog → pg0
open Go.RowKit
theorem JI {f : Formula} (hw : qz f = true) (b : jE f ≤ 200) : (wE f).length ≤ 40 * jE f := (J1 (mJ f) f (aQ _) hw [] (by simp; omega)).2
theorem NZ : ∀ (n : Nat) (f : Formula), mJ f ≤ n → qz f = true → jE f ≤ 64 → qm n f = some (tI (wE f)) := by
 intro n
 induction n with
 | zero => intro f h; rw [lL] at h; omega
 | succ n ih =>
  intro f s hw x
  rw [lL] at s
  have u := ni f
  obtain ⟨h1, o, i⟩ := uO hw
  have d : 0 ≤ f.Op ∧ f.Op < 128 := by rcases i with h | h | h <;> omega
  have hlen : 0 ≤ (f.Kids.length : Int) ∧ (f.Kids.length : Int) < 128 := by omega
  have key : ∀ (c : List Formula) (l : List Int), (∀ k ∈ c, k ∈ f.Kids) → wellL c = true → l.length + 40 * nodesL c ≤ 8000 → nodesL c ≤ 64 → qW (qm n) c (tI l) = some (tI (l ++ bytesFL c)) := by
   intro c
   induction c with
   | nil => intro l _ _ _ _; rw [qW, bytesFL, aT]
   | cons k c m =>
    intro l hk b t j
    rw [wellL, aP] at b
    rw [nodesL] at t j
    have w := JI b.1 (by omega)
    rw [qW, ih k (by have := pg (hk k (by simp)); omega) b.1 (by omega), aA, pM _ _ (by omega), aA,
     m _ (fun z v => hk z (by simp [v])) b.2 (by simp; omega) (by omega), bytesFL, aI]
  rw [qm]
  unfold xH
  rw [vH d.1 d.2, aA, Fz]
  by_cases c1 : f.Op = 1
  ·have p : kR f.iX = true := by rcases i with h | h | h; exact h.2.1; omega; omega
   have := ns p
   simp only [c1, aS, aJ]
   rw [yp p, aA, pM _ _ (by simp; omega)]
   rfl
  ·have q : (f.Op == 1) = false := by simpa using c1
   simp only [q, aB, aF, c1]
   by_cases g : f.Op = 4
   ·have hk : 0 ≤ f.K ∧ f.K < 128 := by rcases i with h | h | h <;> omega
    simp only [g, aS, aJ]
    rw [vH hk.1 hk.2, aA, pM _ _ (by simp), aA, aA, vH hlen.1 hlen.2, aA, pM _ _ (by simp), aA,
     key f.Kids _ (fun k hk => hk) o (by simp; omega) (by omega)]
    simp
   ·have r : (f.Op == 4) = false := by simpa using g
    simp only [r, aB, aF, g, aA]
    rw [vH hlen.1 hlen.2, aA, pM _ _ (by simp), aA, key f.Kids _ (fun k hk => hk) o (by simp; omega) (by omega)]
    simp
theorem Pt (f : Formula) (h : Gd f) : ((pA f).bind fun r => if r then (qm jB f).bind fun b => some b else some zS) = some (tI (vz f)) := by
 rw [EH f h, aA]
 unfold vz
 cases d : mw f
 ·rfl
 ·obtain ⟨h1, g, c⟩ := wP d
  simp only [aJ]
  rw [NZ jB f (by rw [ll]; omega) c h1, nq]
theorem Gr (f g : Formula) (j : Gd f) (l : Gd g) : ∃ c : Int, vZ f g = some c ∧ (c > 0 ↔ mo yT g f = true) := by
 unfold vZ
 rw [Pt f j, aA, Pt g l, aA, vG, rV, rV, yn]
 rcases yM (rq (vz f)) (rq (vz g)) with h | h | h
 ·rw [aW h]
  refine ⟨-1, rfl, iff_of_false (by omega) (fun b => ?_)⟩
  have := vt _ _ _ h b
  rw [sO] at this; cases this
 ·have e : jP (tI (vz f)) (tI (vz g)) = true := kU.2 (xz (by rw [rV, rV, h]))
  rw [h, sO, e]
  exact ⟨0, rfl, iff_of_false (by omega) (by simp)⟩
 ·have e : Op.bytesLess (rq (vz f)) (rq (vz g)) = false := by
   rw [← fq]
   intro b
   have := vt _ _ _ h b
   rw [sO] at this; cases this
  have i : jP (tI (vz f)) (tI (vz g)) = false := by
   rw [← fq, kU]
   intro b
   have d := bA (fun s : ByteArray => s.data.toList) b
   simp only [rV] at d
   rw [d, sO] at h; cases h
  rw [e, i]
  exact ⟨1, rfl, iff_of_true (by omega) h⟩
theorem O2 : ∀ (n : Nat) (f : Formula), mJ f ≤ n → ∀ g, ∃ b, sK n f g = some b ∧ (b = true ↔ f = g) := by
 intro n
 induction n with
 | zero => intro f h; rw [lL] at h; omega
 | succ n ih =>
  intro f h g
  rw [lL] at h
  have key : ∀ (l m A : List Formula), (∀ x ∈ l, x ∈ f.Kids) → g.Kids = A ++ m → l.length = m.length → ∃ b, rF g (sK n) l A.length = some b ∧ (b = true ↔ l = m) := by
   intro l
   induction l with
   | nil =>
    intro m A _ _ c
    obtain rfl := aN c.symm
    exact ⟨true, by rw [rF], by simp⟩
   | cons x l r =>
    intro m A q t c
    match m, c with
    | y :: m, c =>
     obtain ⟨b, e, p⟩ := ih x (by have := pg (q x (by simp)); omega) y
     rw [rF, t, lV A y m _ rfl, aA, e, aA]
     cases b with
     | false =>
      refine ⟨false, rfl, ?_⟩
      have : x ≠ y := fun i => by have := p.2 i; simp at this
      simp [this]
     | true =>
      have i := p.1 rfl
      obtain ⟨b, s, d⟩ := r m (A ++ [y]) (fun z u => q z (by simp [u])) (by rw [t]; simp) (by simpa using c)
      rw [aC, List.length_singleton] at s
      simp only [bQ, aB, aF]
      rw [s]
      exact ⟨b, rfl, by rw [d]; simp [i]⟩
  rw [sK]
  unfold yb
  by_cases h1 : f.Op = g.Op
  ·by_cases d : f.K = g.K
   ·by_cases j : f.iX = g.iX
    ·have o : jr f.iX g.iX = true := js.2 j
     by_cases c : f.Kids.length = g.Kids.length
     ·obtain ⟨b, e, p⟩ := key f.Kids g.Kids [] (fun x q => q) rfl c
      rw [bN] at e
      refine ⟨b, ?_, p.trans ⟨fun hk => Formula.ext' h1 d j hk, fun hk => by rw [hk]⟩⟩
      simp [h1, d, o, c, e]
     ·refine ⟨false, ?_, by simp; intro hk; rw [hk] at c; exact c rfl⟩
      have : ((f.Kids.length : Int) != (g.Kids.length : Int)) = true := by simp; omega
      simp [h1, d, o, this]
    ·have o : jr f.iX g.iX = false := by rw [← fq, js]; exact j
     exact ⟨false, by simp [h1, d, o], by simp; intro hk; rw [hk] at j; exact j rfl⟩
   ·exact ⟨false, by simp [h1, d], by simp; intro hk; rw [hk] at d; exact d rfl⟩
  ·exact ⟨false, by simp [h1], by simp; intro hk; rw [hk] at h1; exact h1 rfl⟩
theorem KW (a b : Formula) (h : Gd a) : sK jB a b = some (ou a b) := by
 have := uC a
 unfold Gd at h
 obtain ⟨x, e, c⟩ := O2 jB a (by rw [ll]; omega) b
 rw [e]; congr 1
 rw [bF, c, vJ]
section
variable {α : Type} {lt : α → α → Bool}
def Iu (lt : α → α → Bool) (l : List α) : Prop := l.Pairwise fun x y => lt y x = false
theorem Cc (h : SWO lt) (k : α) : ∀ {l : List α}, Iu lt l → ∃ A B, l = A ++ B ∧ (∀ x ∈ A, lt k x = false) ∧ (∀ x ∈ B, lt k x = true)
 | [], _ => ⟨[], [], rfl, by simp, by simp⟩
 | x :: l, i => by
  obtain ⟨h1, c⟩ := bZ.1 i
  cases e : lt k x with
  | true =>
   refine ⟨[], x :: l, rfl, by simp, fun y b => ?_⟩
   rcases aM.1 b with rfl | b
   ·exact e
   ·rcases h.JW _ y _ e with q | q
    ·exact q
    ·rw [h1 y b] at q; cases q
  | false =>
   obtain ⟨A, B, rfl, d, g⟩ := Cc h k c
   exact ⟨x :: A, B, rfl, fun y b => by
    rcases aM.1 b with rfl | b
    ·exact e
    ·exact d y b, g⟩
theorem Er {k : α} {A B : List α} (c : ∀ x ∈ A, lt k x = false) (d : ∀ x ∈ B, lt k x = true) : yO lt (A ++ B) k = A ++ k :: B := by
 unfold yO
 rw [gT, gT]
 rw [fA.2 (fun x b => by rw [c x b]; rfl), List.filter_eq_nil_iff.2 (fun x b => by rw [d x b]; simp), List.filter_eq_nil_iff.2 (fun x b => by rw [c x b]; simp), fA.2 (fun x b => d x b)]
 simp
theorem Ic (h : SWO lt) {k : α} {A B : List α} (d : Iu lt (A ++ B)) (g : ∀ x ∈ A, lt k x = false) (i : ∀ x ∈ B, lt k x = true) : Iu lt (A ++ k :: B) := by
 unfold Iu at *
 rw [cL] at *
 refine ⟨d.1, bZ.2 ⟨fun x j => h.asym (i x j), d.2.1⟩, fun a ha b c => ?_⟩
 rcases aM.1 c with rfl | c
 ·exact g a ha
 ·exact d.2.2 a ha b c
variable {eq : α → α → Bool}
theorem FL (he : ∀ x y, eq x y = true ↔ x = y) (k : α) : ∀ (l : List α) (p : α), lU eq p (l ++ [k]) = if eq k ((l.getLast?).getD p) then lU eq p l else lU eq p l ++ [k]
 | [], p => by
  rw [aX, lU, lU]
  rfl
 | y :: l, p => by
  have e : ((y :: l).getLast?).getD p = (l.getLast?).getD y := by cases l <;> rfl
  rw [bJ, lU, lU, FL he k l y, e]
  by_cases h1 : eq y p = true
  ·rw [aW h1, aW h1]
  ·rw [aU h1, aU h1]
   split <;> rfl
def xj (eq : α → α → Bool) (l : List α) (k : α) : Bool := match l.getLast? with | some y => eq y k | none => false
theorem JO (x : α) (l : List α) : (x :: l).getLast? = some ((l.getLast?).getD x) := by cases l <;> rfl
theorem MC (he : ∀ x y, eq x y = true ↔ x = y) (k : α) (l : List α) : dd eq (l ++ [k]) = if xj eq l k then dd eq l else dd eq l ++ [k] := by
 cases l with
 | nil => rfl
 | cons x l =>
  have b : dd eq ((x :: l) ++ [k]) = x :: lU eq x (l ++ [k]) := rfl
  have c : dd eq (x :: l) = x :: lU eq x l := rfl
  unfold xj
  rw [b, c, FL he, JO]
  simp only
  by_cases h : (l.getLast?).getD x = k
  ·rw [h, aW ((he k k).2 rfl), aW ((he k k).2 rfl)]
  ·rw [aU (fun q => h ((he _ _).1 q).symm), aU (fun q => h ((he _ _).1 q))]; rfl
theorem G3 (he : ∀ x y, eq x y = true ↔ x = y) (y : α) (B : List α) : ∀ (l : List α) (p : α), y ≠ (l.getLast?).getD p → lU eq p (l ++ y :: B) = lU eq p l ++ y :: lU eq y B
 | [], p, h => by
  have h : y ≠ p := h
  rw [aX]
  have e : lU eq p (y :: B) = if eq y p then lU eq y B else y :: lU eq y B := rfl
  rw [e, aU (fun q => h ((he _ _).1 q))]; rfl
 | z :: l, p, h => by
  have e : ((z :: l).getLast?).getD p = (l.getLast?).getD z := by cases l <;> rfl
  rw [e] at h
  rw [bJ, lU, lU, G3 he y B l z h]
  split <;> rfl
theorem JV (he : ∀ x y, eq x y = true ↔ x = y) (A : List α) : ∀ B : List α, (∀ y, B.head? = some y → A.getLast? ≠ some y) → dd eq (A ++ B) = dd eq A ++ dd eq B
 | [], _ => by rw [aT]; show _ = dd eq A ++ []; rw [aT]
 | y :: B, h => by
  have h := h y rfl
  cases A with
  | nil => rfl
  | cons x A =>
   have e : (x :: A).getLast? = some ((A.getLast?).getD x) := by cases A <;> rfl
   rw [e] at h
   rw [bJ, dd, dd, dd, G3 he y B A x (fun q => h (by rw [q]))]; rfl
theorem FU (he : ∀ x y, eq x y = true ↔ x = y) : ∀ (l : List α) (p : α), ((lU eq p l).getLast?).getD p = (l.getLast?).getD p
 | [], p => by rw [lU]
 | y :: l, p => by
  have e : ((y :: l).getLast?).getD p = (l.getLast?).getD y := by cases l <;> rfl
  rw [lU, e, ← FU he l y]
  by_cases h : eq y p = true
  ·rw [aW h, (he _ _).1 h]
  ·rw [aU h]
   cases lU eq y l <;> rfl
theorem MP (he : ∀ x y, eq x y = true ↔ x = y) (l : List α) : (dd eq l).getLast? = l.getLast? := by
 cases l with
 | nil => rfl
 | cons x l =>
  have e : ∀ m : List α, (x :: m).getLast? = some ((m.getLast?).getD x) := by intro m; cases m <;> rfl
  rw [dd, e, e, FU he]
theorem Nt (h : SWO lt) (he : ∀ x y, eq x y = true ↔ x = y) {k : α} {A B : List α} (g : ∀ x ∈ A, lt k x = false) (d : ∀ x ∈ B, lt k x = true) :
  dd eq (A ++ B) = dd eq A ++ dd eq B ∧ dd eq (A ++ k :: B) = (if xj eq A k then dd eq A else dd eq A ++ [k]) ++ dd eq B := by
 have h1 : ∀ y, B.head? = some y → A.getLast? ≠ some y := fun y c b => by
  have := d y (List.mem_of_mem_head? c)
  rw [g y (List.mem_of_getLast? b)] at this; cases this
 refine ⟨JV he A B h1, ?_⟩
 have e : A ++ k :: B = (A ++ [k]) ++ B := by simp
 rw [e, JV he (A ++ [k]) B, MC he]
 intro y c b
 rw [List.getLast?_append] at b
 simp only [List.getLast?_singleton, Option.some_or, fU] at b
 have := d y (List.mem_of_mem_head? c)
 rw [b, h.Me] at this; cases this
end
theorem D7 (l : List Formula) (k : Formula) (h : ∀ x ∈ l, Gd x) (hk : Gd k) (A : List Formula) (o : ∀ x ∈ A, mo yT k x = false) : ∀ (m : Nat) (B C : List Formula), B.length = m → l = A ++ B ++ C → (∀ x ∈ B, mo yT k x = true) → l.length ≤ 1000000 → ∀ n, m < n →
  qx l k n ((A.length + B.length : Nat) : Int) = some (A.length : Int)
 | 0, B, C, hm, b, g, hlen, n + 1, r => by
  obtain rfl := aN hm
  rw [qx]
  simp only [bN, fT]
  rcases cQ A with rfl | ⟨A', y, rfl⟩
  ·rfl
  ·rw [dC] at *
   have hp : ((A' ++ [y]).length : Int) > 0 := by simp
   simp only [hp, bP, aJ]
   have hw : IntKind.i64.wrap (((A' ++ [y]).length : Int) - 1) = (A'.length : Int) := by
    simp at hlen b ⊢
    rw [b] at hlen
    simp at hlen
    rw [kk (by omega) (by omega)]
   rw [hw, show kp l (A'.length : Int) = some y from by rw [b]; simp only [aT, aI]; exact lV A' y C _ rfl, aA]
   have j : y ∈ l := by rw [b]; simp
   obtain ⟨c, e, i⟩ := Gr y k (h y j) hk
   have d : ¬ c > 0 := fun q => by have := i.1 q; rw [o y (by simp)] at this; cases this
   rw [e, aA]
   simp [d]
 | m + 1, B, C, hm, b, g, hlen, n + 1, r => by
  rcases cQ B with rfl | ⟨B', y, rfl⟩
  ·simp at hm
  ·rw [dC] at *
   rw [qx]
   have hp : ((A.length + (B' ++ [y]).length : Nat) : Int) > 0 := by simp; omega
   simp only [hp, bP, aJ]
   have hw : IntKind.i64.wrap (((A.length + (B' ++ [y]).length : Nat) : Int) - 1) = ((A.length + B'.length : Nat) : Int) := by
    rw [b] at hlen
    simp at hlen
    rw [kk (by simp; omega) (by simp; omega)]; simp; omega
   have p : kp l ((A.length + B'.length : Nat) : Int) = some y := by
    rw [b]
    have e : A ++ (B' ++ [y]) ++ C = (A ++ B') ++ y :: C := by simp
    rw [e]
    exact lV (A ++ B') y C _ (by simp)
   rw [hw, p, aA]
   have j : y ∈ l := by rw [b]; simp
   obtain ⟨c, e, i⟩ := Gr y k (h y j) hk
   have d : c > 0 := i.2 (g y (by simp))
   rw [e, aA]
   simp only [d, bP, aA, aJ]
   exact D7 l k h hk A o m B' (y :: C) (by simp at hm; omega) (by rw [b]; simp) (fun x s => g x (by simp [s])) hlen n (by omega)
theorem PE {b : Bool} (h : b = true) : pH b = some () := by rw [h]; rfl
theorem CV (b : Bool) (k : Formula) (i A B : List Formula) (l : ∀ x ∈ A ++ B, Gd x) (hk : Gd k) (m : ∀ x ∈ A, mo yT k x = false) (n : ∀ x ∈ B, mo yT k x = true) (hlen : (A ++ B).length ≤ 1000000) :
  lM b (k :: i) (A ++ B) = if b && xj ou A k then lM b i (A ++ B) else lM b i (A ++ k :: B) := by
 have j := D7 (A ++ B) k l hk A m B.length B [] rfl (by simp) n hlen jB (by rw [ll]; simp at hlen; omega)
 have c : A.length + B.length ≤ 1000000 := by simpa using hlen
 rw [lM, aC, j, aA]
 have rest : ((pH (decide ((0 : Int) ≤ (A.length : Int)) && decide ((A.length : Int) ≤ ((A ++ B).length : Int)))).bind fun _ => (kN 72 ([]) ((A ++ B).take (Int.toNat (A.length : Int)))).bind fun d => (kN 72 d ([k])).bind fun g => (pH (decide ((0 : Int) ≤ (A.length : Int)) && decide ((A.length : Int) ≤ ((A ++ B).length : Int)))).bind fun _ => (kN 72 g ((A ++ B).drop (Int.toNat (A.length : Int)))).bind fun h => lM b i h) = lM b i (A ++ k :: B) := by
  rw [PE (by simp; omega), aA, dp, fW, List.drop_left, kQ (by simp; omega) (by simp; omega), aA, kQ (by simp; omega) (by simp; omega), aA, aA, kQ (by simp; omega) (by simp; omega), aA]
  simp
 rw [aC] at rest
 cases b with
 | false => exact rest
 | true =>
  simp only [aJ, aA, dq]
  rcases cQ A with rfl | ⟨A', y, rfl⟩
  ·exact rest
  ·rw [dC] at *
   have hp : ((A' ++ [y]).length : Int) > 0 := by simp
   simp only [hp, bP, aJ]
   have hw : IntKind.i64.wrap (((A' ++ [y]).length : Int) - 1) = (A'.length : Int) := by
    simp at c ⊢
    rw [kk (by omega) (by omega)]
   have p : kp ((A' ++ [y]) ++ B) (A'.length : Int) = some y := by
    simp only [aI, bJ, aX]
    exact lV A' y B _ rfl
   rw [hw, p, aA, KW y k (l y (by simp)), aA, aA]
   have o : xj ou (A' ++ [y]) k = ou y k := by unfold xj; rw [List.getLast?_append]; rfl
   rw [o]
   cases ou y k
   ·simp only [aB, aF]; exact rest
   ·rfl
theorem Eh {x : Formula} {l : List Formula} (h : x ∈ dd ou l) : x ∈ l := (Ht (fun _ _ => vJ) l x).1 h
theorem Dl : ∀ (c S : List Formula), Iu (mo yT) S → (∀ x ∈ S, Gd x) → (∀ x ∈ c, Gd x) → S.length + c.length ≤ 1000000 → lM true c (dd ou S) = some (dd ou (c.foldl (yO (mo yT)) S))
 | [], S, _, _, _, _ => by rw [lM]; rfl
 | k :: c, S, l, i, hk, n => by
  rw [aH] at n
  obtain ⟨A, B, rfl, d, g⟩ := Cc Fw k l
  obtain ⟨o, p⟩ := Nt (eq := ou) Fw (fun _ _ => vJ) d g
  have j := He ou (A ++ B)
  rw [o] at j ⊢
  rw [CV true k c (dd ou A) (dd ou B) (fun x b => by
   rcases aO.1 b with h | h
   ·exact i x (by simp [Eh h])
   ·exact i x (by simp [Eh h])) (hk k (by simp)) (fun x b => d x (Eh b)) (fun x b => g x (Eh b)) (by omega), fE, Er d g]
  have q : xj ou (dd ou A) k = xj ou A k := by unfold xj; rw [MP (eq := ou) (fun _ _ => vJ)]
  rw [q, dq]
  have ih := Dl c (A ++ k :: B) (Ic Fw l d g) (fun x b => by
   rcases aO.1 b with h | h
   ·exact i x (by simp [h])
   ·rcases aM.1 h with rfl | h
    ·exact hk _ (by simp)
    ·exact i x (by simp [h])) (fun x b => hk x (by simp [b])) (by simp at n ⊢; omega)
  rw [p] at ih
  cases m : xj ou A k
  ·rw [m] at ih
   simp only [aB, aF] at ih ⊢
   rw [← ih]; simp
  ·rw [m] at ih
   simp only [aJ] at ih ⊢
   exact ih
theorem D0 : ∀ (b S : List Formula), Iu (mo yT) S → (∀ x ∈ S, Gd x) → (∀ x ∈ b, Gd x) → S.length + b.length ≤ 1000000 → lM false b S = some (b.foldl (yO (mo yT)) S)
 | [], S, _, _, _, _ => by rw [lM]; rfl
 | k :: b, S, j, g, hk, l => by
  rw [aH] at l
  obtain ⟨A, B, rfl, c, d⟩ := Cc Fw k j
  rw [CV false k b A B g (hk k (by simp)) c d (by omega), fE, Er c d, eJ]
  simp only [aB, aF]
  exact D0 b (A ++ k :: B) (Ic Fw j c d) (fun x i => by
   rcases aO.1 i with h | h
   ·exact g x (by simp [h])
   ·rcases aM.1 h with rfl | h
    ·exact hk _ (by simp)
    ·exact g x (by simp [h])) (fun x i => hk x (by simp [i])) (by simp at l ⊢; omega)
theorem ON (l : List Formula) (h : ∀ x ∈ l, Gd x) (b : l.length ≤ 1000000) : ux l true = some (dd ou (sJ l)) := Dl l [] List.Pairwise.nil (by simp) h (by simpa using b)
theorem PM (l : List Formula) (h : ∀ x ∈ l, Gd x) (b : l.length ≤ 1000000) : ux l false = some (sJ l) := D0 l [] List.Pairwise.nil (by simp) h (by simpa using b)
theorem CE (f : Formula) (op : Int) : uh f op = some (kc op f) := A6 f op
theorem Gs (op : Int) (b : op = 2 ∨ op = 3) (s : lQ) : ∀ l : List Formula, ph op s l = some (if l.any (kc (5 - op)) then .inl (⟨5 - op, 0, nK, []⟩, s) else .inr ())
 | [] => rfl
 | x :: l => by
  have hw : IntKind.i64.wrap (5 - op) = 5 - op := kk (by omega) (by omega)
  rw [ph, hw, CE, aA, eV, Gs op b s l]
  cases kc (5 - op) x <;> rfl
theorem KJ (op : Int) (b : op = 2 ∨ op = 3) (l : List Formula) (j : nodesL l ≤ 64) : mu op ⟨false⟩ [] l = some (if l.any (kc (5 - op)) then ⟨5 - op, 0, nK, []⟩ else match dd ou (sJ l) with | [x] => x | r => ⟨op, 0, nK, r⟩, ⟨false⟩) := by
 have g := ol l
 rw [mu, Gs op b, aA]
 cases h : l.any (kc (5 - op))
 ·simp only [aB, aF]
  rw [ON l (fun x d => by have := qH d; unfold Gd; omega) (by omega), aA]
  have i := He ou (sJ l)
  have hp := (vI l).length_eq
  have c : ¬ (((dd ou (sJ l)).length : Int) > 64) := by omega
  simp only [c, bW, aB, aF, aA]
  generalize dd ou (sJ l) = r
  match r with
  | [] => rfl
  | [x] => rfl
  | x :: y :: r =>
   have : (((x :: y :: r).length : Int) == 1) = false := by simp; omega
   simp only [this, aB, aF]
   rfl
 ·rfl
theorem DH (op : Int) (g : op = 2 ∨ op = 3) : ∀ (d acc : List Formula), nodesL acc + nodesL d ≤ 64 →
  mu op ⟨false⟩ d acc = some (if (acc ++ mG op d).any (kc (5 - op)) then ⟨5 - op, 0, nK, []⟩ else match dd ou (sJ (acc ++ mG op d)) with | [x] => x | r => ⟨op, 0, nK, r⟩, ⟨false⟩)
 | [], acc, h => by
  rw [nodesL] at h
  rw [mG, aT]
  exact KJ op g acc (by omega)
 | k :: d, acc, h => by
  rw [nodesL] at h
  have h1 := ni k
  have m := ol k.Kids
  have n := ol acc
  have e : ∀ a b : List Formula, nodesL (a ++ b) = nodesL a + nodesL b := by
   intro a b
   induction a with
   | nil => rw [aX, nodesL]; omega
   | cons x a i => rw [bJ, nodesL, nodesL, i]; omega
  have hw : IntKind.i64.wrap (5 - op) = 5 - op := kk (by omega) (by omega)
  rw [mu, mG]
  by_cases c : k.Op = op
  ·simp only [c, aS, aJ]
   rw [kQ (by omega) (by omega), aA, DH op g d _ (by rw [e]; omega), aI]
  ·have j : (k.Op == op) = false := by simpa using c
   simp only [j, aB, aF, c]
   rw [CE, hw, aA]
   cases l : kc (5 - op) k
   ·simp only [aB, aF]
    rw [kQ (by simp; omega) (by simp; omega), aA, DH op g d _ (by rw [e, nodesL, nodesL]; omega), aI]
   ·simp only [aJ]
    have : (acc ++ ([k] ++ mG op d)).any (kc (5 - op)) = true := by simp [l]
    rw [this]; rfl
theorem II (op : Int) (c : op = 2 ∨ op = 3) (b : List Formula) (h : nodesL b ≤ 64) : oR ⟨false⟩ op b = some (nz op b, ⟨false⟩) := by
 unfold oR nz
 rw [DH op c b [] (by rw [nodesL]; omega), aX]
 rfl
theorem zg : ∀ (b acc : List Formula) (k : Int), -1000 ≤ k - (b.length : Int) → k ≤ 1000 → acc.length + b.length ≤ 1000 →
  ml b k acc = some (k - ((b.filter (kc 2)).length : Int), acc ++ b.filter fun x => !kc 2 x && !kc 3 x)
 | [], acc, k, h1, c, d => by rw [ml]; simp
 | x :: b, acc, k, h1, c, d => by
  simp only [aH] at h1 d
  rw [ml, CE, aA, CE, aA]
  rw [dy, dy]
  cases c2 : kc 2 x
  ·cases g : kc 3 x
   ·simp only [cD, iw, aB, aF, aJ]
    rw [kQ (by simp; omega) (by simp; omega), aA, zg b _ k (by omega) c (by simp; omega)]
    simp only [aI, bJ, aX]
   ·simp only [cD, bQ, Bool.and_false, aB, aF]
    rw [zg b _ k (by omega) c (by omega)]
  ·simp only [bQ, eJ, aB, aF, aJ]
   rw [kk (by omega) (by omega), zg b _ (k - 1) (by omega) (by omega) (by omega)]
   simp only [aH]
   have e : k - 1 - ((b.filter (kc 2)).length : Int) = k - (((b.filter (kc 2)).length + 1 : Nat) : Int) := by omega
   rw [e]
theorem OF : ∀ (n : Nat) (f : Formula), mJ f ≤ n → jE f ≤ 64 → qz f = true → ny n ⟨false⟩ f = some (nS f, ⟨false⟩) := by
 intro n
 induction n with
 | zero => intro f h; rw [lL] at h; omega
 | succ n ih =>
  intro f v G hw
  rw [lL] at v
  have w := ni f
  obtain ⟨h1, u, q⟩ := uO hw
  rw [ny]
  unfold sN
  rw [vK]
  by_cases c1 : f.Op = 1
  ·simp only [c1, aS, aJ]
  ·have r : (f.Op == 1) = false := by simpa using c1
   simp only [r, aB, aF, c1]
   have last : ∀ acc : List Formula, nodesL acc ≤ 64 → mO (ny n) f [] acc ⟨false⟩ = some (if f.Op = 4 then qp f.K acc else nz f.Op acc, ⟨false⟩) := by
    intro acc d
    have hlen := ol acc
    have E := wj (fun x => !kc 2 x && !kc 3 x) acc
    rw [mO]
    by_cases p : f.Op = 4
    ·have hk : 0 ≤ f.K ∧ f.K ≤ (f.Kids.length : Int) := by rcases q with h | h | h <;> omega
     have j : ¬ f.Op < 4 := by omega
     simp only [j, p, bW, aB, aF, aJ]
     rw [zg acc [] f.K (by omega) (by omega) (by simp; omega), aA, aX]
     unfold qp
     simp only
     have i := ol (acc.filter fun x => !kc 2 x && !kc 3 x)
     have hm : ∀ x ∈ (acc.filter fun x => !kc 2 x && !kc 3 x), Gd x := fun x y => by have := qH y; unfold Gd; omega
     generalize (acc.filter fun x => !kc 2 x && !kc 3 x) = l at *
     generalize f.K - ((acc.filter (kc 2)).length : Int) = k
     by_cases d1 : k ≤ 0
     ·simp only [d1, bP, aJ]; rfl
     ·simp only [d1, bW, aB, aF]
      by_cases d2 : k > (l.length : Int)
      ·simp only [d2, bP, aJ]; rfl
      ·simp only [d2, bW, aB, aF]
       by_cases d3 : k = (l.length : Int)
       ·simp only [← d3, aS, aJ]
        rw [II 2 (.inl rfl) l (by omega), aA]
        rfl
       ·have s : (k == (l.length : Int)) = false := by simpa using d3
        simp only [s, aB, aF, d3]
        by_cases d4 : k = 1
        ·simp only [d4, aS, aJ]
         rw [II 3 (.inr rfl) l (by omega), aA]
         rfl
        ·have t : (k == 1) = false := by simpa using d4
         simp only [t, aB, aF, d4]
         rw [PM l hm (by omega)]
         rfl
    ·have m : f.Op = 2 ∨ f.Op = 3 := by rcases q with h | h | h <;> omega
     have j : f.Op < 4 := by omega
     simp only [j, p, bP, aJ, aF]
     rw [II f.Op m acc d, aA]
   have key : ∀ (b acc : List Formula), (∀ k ∈ b, k ∈ f.Kids) → wellL b = true → nodesL (acc ++ shapeL b) ≤ 64 → nodesL b ≤ 64 → mO (ny n) f b acc ⟨false⟩ = some (if f.Op = 4 then qp f.K (acc ++ shapeL b) else nz f.Op (acc ++ shapeL b), ⟨false⟩) := by
    intro b
    induction b with
    | nil =>
     intro acc _ _ d _
     rw [shapeL, aT] at *
     exact last acc d
    | cons k b o =>
     intro acc hk c d i
     rw [wellL, aP] at c
     rw [nodesL] at i
     rw [shapeL] at d
     have g := ol (acc ++ nS k :: shapeL b)
     simp only [aC, aH] at g
     rw [mO, ih k (by have := pg (hk k (by simp)); omega) (by omega) c.1, aA, kQ (by simp; omega) (by simp; omega), aA,
      o (acc ++ [nS k]) (fun z A => hk z (by simp [A])) c.2 (by rw [aI]; exact d) (by omega), shapeL]
     simp only [aI, bJ, aX]
   have := BY f.Kids
   have := key f.Kids [] (fun k hk => hk) u (by simpa using by omega) (by omega)
   simpa using this
theorem Ju (f : Formula) (h : Gd f) : vW f = some (nM f) := by
 unfold vW nM
 rw [EH f h, aA]
 cases c : mw f
 ·rfl
 ·obtain ⟨h1, d, b⟩ := wP c
  have g := xo f
  simp only [bQ, aB, aF, aJ]
  rw [OF jB f (by rw [ll]; omega) h1 b, aA, EH (nS f) (by unfold Gd; omega)]
  simp only [aB, aF, aA]
  cases mw (nS f) <;> rfl
theorem EM (c : iY) : ∀ (l : List nA) (e o k : Int) (r : iX) (b : List Formula), (∀ a ∈ l, jE a.ji ≤ 10000000) → jE ⟨o, k, r, b⟩ ≤ 64 →
  rz c l e o k r b = some (let t := nE (⟨o, k, r, b⟩, e) ((l.filter fun a => nc kh a.mn c).map (·.ji)); (t.2, t.1.Op, t.1.K, t.1.iX, t.1.Kids))
 | [], e, o, k, r, b, _, _ => by rw [rz, gA, eo, nE]
 | a :: l, e, o, k, r, b, h, s => by
  have ha := h a (by simp)
  have n : ∀ x ∈ l, jE x.ji ≤ 10000000 := fun x w => h x (by simp [w])
  rw [rz, dy, As]
  by_cases i : e = 0
  ·have j : (e == 0) = true := by simp [i]
   simp only [j, aJ, aA]
   cases A : nc kh a.mn c
   ·simp only [aB, aF]
    exact EM c l e o k r b n s
   ·simp only [aJ]
    rw [bI, nE]
    simp only [i, aJ]
    have u : Gd ⟨2, 0, nK, [⟨o, k, r, b⟩, a.ji]⟩ := by show jE _ ≤ _; rw [jE, nodesL, nodesL, nodesL]; omega
    rw [show (⟨2, 0, (⟨zS, zS⟩ : iX), [(⟨o, k, r, b⟩ : Formula), a.ji]⟩ : Formula) = ⟨2, 0, nK, [⟨o, k, r, b⟩, a.ji]⟩ from rfl, Ju _ u, aA]
    have v := tT (f := ⟨2, 0, nK, [⟨o, k, r, b⟩, a.ji]⟩)
    generalize nM ⟨2, 0, nK, [⟨o, k, r, b⟩, a.ji]⟩ = q at *
    obtain ⟨⟨y, k', z, p⟩, e'⟩ := q
    exact EM c l e' y k' z p n v
  ·have j : (e == 0) = false := by simpa using i
   simp only [j, aB, aF, aA]
   rw [EM c l e o k r b n s]
   have d : ∀ m : List Formula, nE (⟨o, k, r, b⟩, e) m = (⟨o, k, r, b⟩, e) := by
    intro m
    cases m with
    | nil => rw [nE]
    | cons g m => rw [nE]; simp only [i, aF]
   rw [d, d]
theorem JS (c : iY) (p : jL) (hp : PB p) : ∀ l : List kP, (∀ x ∈ l, x ∈ p.jv) → ve c p l = some (match l.find? (fun x => kh x.Signed.iY c) with | none => (El, 42) | some x => zV x.ji ((xG p c).map (·.ji)))
 | [], _ => rfl
 | x :: l, h => by
  rw [ve, fF]
  cases m : kh x.Signed.iY c
  ·simp only [cD, aJ]
   exact JS c p hp l (fun z i => h z (by simp [i]))
  ·simp only [bQ, aB, aF]
   have n := hp.rel x (h x (by simp))
   have g := tT (f := x.ji)
   rw [Ju _ (by unfold Gd; omega), aA]
   unfold zV xG
   generalize nM x.ji = q at *
   obtain ⟨⟨o, k, r, b⟩, e⟩ := q
   rw [EM c p.ke e o k r b hp.Ns g, aA]
   simp only
   generalize nE (⟨o, k, r, b⟩, e) ((p.ke.filter fun a => nc kh a.mn c).map (·.ji)) = t
   obtain ⟨⟨s, k', u, j⟩, e'⟩ := t
   by_cases c1 : e' = 0
   ·subst c1; rfl
   ·have d : (e' != 0) = true := by simp [c1]
    simp only [d, aJ, c1, aF]; rfl
theorem OQ (p : jL) (hp : PB p) (c : iY) : Bj p c = some (oD p c) := by
 unfold Bj oD yd
 refine (JS c p hp _ (fun x b => b)).trans ?_
 cases p.jv.find? (fun x => kh x.Signed.iY c) <;> rfl
theorem PC (l : List iX) (r : iX) : zZ l r = some (nc jr l r) := by
 unfold zZ
 induction l with
 | nil => rfl
 | cons x l ih =>
  rw [wV, ih]
  have e : nc jr (x :: l) r = (jr r x || nc jr l r) := rfl
  have b : jr x r = jr r x := by rw [bF, js, js]; exact eq_comm
  rw [e, b]
  cases jr r x <;> rfl
theorem Dn (l : List iX) (rec : Formula → List iX → Option Bool) (f : Formula) (v : iX → Bool) : ∀ (b : List Formula) (x : Nat), (∀ k ∈ b, rec k l = some (oE v k)) → x + b.length ≤ 100000000 →
  qg rec l f b (x : Int) = some (if f.Op = 2 then decide (x + evN v b = f.Kids.length) else if f.Op = 3 then decide (0 < x + evN v b) else decide (f.K ≤ ((x + evN v b : Nat) : Int)))
 | [], x, _, _ => by
  rw [qg, evN, fT]
  by_cases c2 : f.Op = 2
  ·simp only [c2, aS, aJ]
   congr 1
   rw [bF, fJ, bD]; omega
  ·have d : (f.Op == 2) = false := by simpa using c2
   simp only [d, aB, aF, c2]
   by_cases c : f.Op = 3
   ·simp only [c, aS, aJ]
    congr 1
    rw [bF, bD, bD]; omega
   ·have i : (f.Op == 3) = false := by simpa using c
    simp only [i, aB, aF, c]
    first | done | rfl
 | k :: b, x, h, j => by
  rw [aH] at j
  rw [qg, h k (by simp), aA, evN]
  cases oE v k
  ·simp only [aB, aF]
   rw [Dn l rec f v b x (fun z g => h z (by simp [g])) (by omega), dL]
  ·simp only [aJ]
   have e : IntKind.i64.wrap ((x : Int) + 1) = ((x + 1 : Nat) : Int) := by rw [kk (by omega) (by omega)]; omega
   rw [e, Dn l rec f v b (x + 1) (fun z g => h z (by simp [g])) (by omega)]
   have d : x + 1 + evN v b = x + (1 + evN v b) := by omega
   rw [d]
theorem Mj (l : List iX) : ∀ (n : Nat) (f : Formula), mJ f ≤ n → Gd f → sw n f l = some (oE (nc jr l) f) := by
 intro n
 induction n with
 | zero => intro f h; rw [lL] at h; omega
 | succ n ih =>
  intro f c d
  rw [lL] at c
  have g := ni f
  have i := ol f.Kids
  unfold Gd at d
  rw [sw]
  unfold yc
  rw [tY, PC]
  by_cases c1 : f.Op = 1
  ·simp only [c1, aS, aJ, aA]
  ·have b : (f.Op == 1) = false := by simpa using c1
   simp only [b, aB, aF, c1]
   have := Dn l (sw n) f (nc jr l) f.Kids 0 (fun k hk => ih k (by have := pg hk; omega) (by have := qH hk; unfold Gd; omega)) (by omega)
   simpa using this
theorem FY (F : List jg) (w : ByteArray) : nc jr (EJ F w) = vF F w := by
 funext r
 unfold vF EJ
 rw [bF, vx js, vx uP, bG]
 constructor
 ·rintro ⟨f, c, rfl⟩
  obtain ⟨h1, b⟩ := cN.1 c
  have := kU.1 b
  rw [← this]; exact h1
 ·intro h
  exact ⟨⟨r, w⟩, cN.2 ⟨h, kU.2 rfl⟩, rfl⟩
theorem Bf (p : jL) (hp : PB p) (l : List iX) (v : iX → Bool) (b : nc jr l = v) : ∀ (xs : List kP) (acc : List iY), acc.length + xs.length ≤ 1000000000 → qf p l xs acc = xq (acc ++ (xs.filter (xk p v)).map (·.Signed.iY))
 | [], acc, _ => by rw [qf, gA, eo, aT, nq]
 | x :: xs, acc, h => by
  rw [aH] at h
  have i := Fy p x.Signed.iY
  have g := uC (oD p x.Signed.iY).1
  rw [qf, OQ p hp, aA, Mj l jB _ (by rw [ll]; omega) (by unfold Gd; omega), b, dy]
  unfold xk
  by_cases c : (oD p x.Signed.iY).2 = 0
  ·have d := (J5 c).1
   simp only [c, aS, aJ, bP, dq, aA]
   unfold rk
   rw [d, dq]
   cases j : oE v (oD p x.Signed.iY).1
   ·simp only [aB, aF]
    exact Bf p hp l v b xs acc (by omega)
   ·simp only [aJ]
    rw [kQ (by simp; omega) (by simp; omega), aA, Bf p hp l v b xs _ (by simp; omega)]
    simp only [bI, aI, bJ, aX]
    rfl
  ·have e : ((oD p x.Signed.iY).2 == 0) = false := by simpa using c
   simp only [e, aB, aF, c, bW, eJ, aA]
   exact Bf p hp l v b xs acc (by omega)
theorem OR {l : List iY} {F : List jg} (h : Jm l F) (peer : ByteArray) : vF F peer = vD l peer := by
 funext r
 rw [bF, GN]
 unfold vF
 rw [vx uP, (h.uK (l.filter kG) (fun c => by rw [cN])).2]
theorem Gg (p : jL) (hp : PB p) (l : List iY) (d : l.length ≤ 30000) (peer : ByteArray) : uc p l peer = pq p l peer := by
 obtain ⟨F, b⟩ := OJ l d
 obtain ⟨s, e, g⟩ := MM p hp b peer
 have := hp.IK
 have h1 : (p.jv.filter (xk p (vF F peer))).length ≤ p.jv.length := ey _ _
 have hlen := b.len
 unfold uc
 rw [b.ref, aA, show ry F peer = some (EJ F peer) from JU F peer (by omega), aA, e]
 rw [Bf p hp _ (vF F peer) (FY F peer) p.jv [] (by simp; omega), aX]
 obtain ⟨t, c, h⟩ := Ij ((p.jv.filter (xk p (vF F peer))).map (·.Signed.iY)) (by simp; omega)
 rw [c, tP.unique AO h g]
theorem HD : ∀ (l m A : List iY), l.length = m.length → ∃ b, rG (A ++ m) l A.length = some b ∧ (b = true ↔ l = m)
 | [], m, A, d => by
  obtain rfl := aN d.symm
  exact ⟨true, by rw [rG], by simp⟩
 | x :: l, [], A, d => by simp at d
 | x :: l, y :: m, A, d => by
  have i1 : kp (A ++ y :: m) (A.length : Int) = some y := lV _ _ _ _ rfl
  rw [rG, i1, aA]
  cases g : kh x y with
  | false =>
   refine ⟨false, by simp [g], ?_⟩
   have : x ≠ y := fun c => by have := qa.2 c; rw [this] at g; cases g
   simp [this]
  | true =>
   have c := qa.1 g
   obtain ⟨b, h, n⟩ := HD l m (A ++ [y]) (by simpa using d)
   have i : A ++ y :: m = (A ++ [y]) ++ m := by simp
   have j : A.length + 1 = (A ++ [y]).length := by simp
   simp only [bQ, aB, aF]
   rw [i, j, h]
   exact ⟨b, rfl, by rw [n]; simp [c]⟩
theorem OX (l m : List iY) : ∃ b, uf l m = some b ∧ (b = true ↔ l = m) := by
 unfold uf
 by_cases h : l.length = m.length
 ·have : ((l.length : Int) != (m.length : Int)) = false := by simp [h]
  simp only [this, aB, aF]
  exact HD l m [] h
 ·have : ((l.length : Int) != (m.length : Int)) = true := by simp; omega
  simp only [this, aJ]
  exact ⟨false, rfl, by simp; intro hk; rw [hk] at h; exact h rfl⟩
theorem Hz {x p : List iY} (sx : oe x) (sp : oe p) (h : ∀ c ∈ x, c ∈ p) : uf p x = some (decide (p.length = x.length)) := by
 obtain ⟨b, e, d⟩ := OX p x
 rw [e]; congr 1
 rw [bF, d, bD]
 exact ⟨fun q => by rw [q], fun q => (sx.eq sp h (by omega)).symm⟩
theorem D8 (a b : jL) (ha : PB a) (g : PB b) (t : a.jv.length ≤ 30000) (u : b.jv.length ≤ 30000) : ∀ (n : Nat) (x y : List iY) (i : Int), oe x → oe y → (∀ c ∈ x, qy a y b.Name c) → (∀ c ∈ y, qy b x a.Name c) →
  tg a b n x y i = nV a b n x y i
 | 0, x, y, i, sx, sy, h, j => by rw [tg, nV]
 | n + 1, x, y, i, sx, sy, h, j => by
  have h1 := vM sx (fun c d => (h c d).1)
  have v := vM sy (fun c d => (j c d).1)
  obtain ⟨p, r, sp, mp, w⟩ := Cy a ha y (by omega) b.Name
  obtain ⟨q, s, sq, l, z⟩ := Cy b g x (by omega) a.Name
  have m : ∀ c ∈ x, c ∈ p := fun c d => (mp c).2 (h c d)
  have o : ∀ c ∈ y, c ∈ q := fun c d => (l c).2 (j c d)
  rw [tg, nV, Gg a ha y (by omega), Gg b g x (by omega), r, s]
  simp only [aA]
  rw [Hz sx sp m, Hz sy sq o]
  simp only [aA]
  have ih := D8 a b ha g t u n p q (IntKind.i64.wrap (i + 1)) sp sq (fun c d => tw o ((mp c).1 d)) (fun c d => tw m ((l c).1 d))
  rw [ih]
  have d1 : ((p.length : Int) == (x.length : Int)) = decide (p.length = x.length) := by
   rw [bF, fJ, bD]; omega
  have d2 : ((q.length : Int) == (y.length : Int)) = decide (q.length = y.length) := by
   rw [bF, fJ, bD]; omega
  rw [d1, d2]
theorem Ir (a b : jL) (ha : PB a) (c : PB b) (d : a.jv.length ≤ 30000) (g : b.jv.length ≤ 30000) : AM a b = rX a b :=
 D8 a b ha c d g jB [] [] 0 oe.nil oe.nil (by simp) (by simp)
mutual
def PY : Formula → Nat
 | ⟨_, _, r, ks⟩ => 1 + r.ja.size + r.Word.size + szFL ks
def szFL : List Formula → Nat
 | [] => 0
 | k :: ks => PY k + szFL ks
end
def zU : List iY → Nat
 | [] => 0
 | c :: l => 20 + DY c + zU l
theorem g5 : ∀ (l : List iY) (n : Int), 0 ≤ n → n + (zU l : Int) ≤ 4000000000000000000 → rc l n = some (n + (zU l : Int))
 | [], n, _, _ => by rw [rc, zU]; simp
 | c :: l, n, d, b => by
  have e : DY c = c.Head.ja.size + c.Head.Word.size + c.jM.size + c.B.ja.size + c.B.Word.size + c.C.ja.size + c.C.Word.size + c.ki.size := rfl
  rw [zU] at b
  rw [rc]
  rw [kk (x := 20 + (c.Head.ja.size : Int)) (by omega) (by omega), kk (x := 20 + (c.Head.ja.size : Int) + (c.Head.Word.size : Int)) (by omega) (by omega), kk (x := 20 + (c.Head.ja.size : Int) + (c.Head.Word.size : Int) + (c.jM.size : Int)) (by omega) (by omega), kk (x := 20 + (c.Head.ja.size : Int) + (c.Head.Word.size : Int) + (c.jM.size : Int) + (c.B.ja.size : Int)) (by omega) (by omega), kk (x := 20 + (c.Head.ja.size : Int) + (c.Head.Word.size : Int) + (c.jM.size : Int) + (c.B.ja.size : Int) + (c.B.Word.size : Int)) (by omega) (by omega), kk (x := 20 + (c.Head.ja.size : Int) + (c.Head.Word.size : Int) + (c.jM.size : Int) + (c.B.ja.size : Int) + (c.B.Word.size : Int) + (c.C.ja.size : Int)) (by omega) (by omega), kk (x := 20 + (c.Head.ja.size : Int) + (c.Head.Word.size : Int) + (c.jM.size : Int) + (c.B.ja.size : Int) + (c.B.Word.size : Int) + (c.C.ja.size : Int) + (c.C.Word.size : Int)) (by omega) (by omega), kk (x := 20 + (c.Head.ja.size : Int) + (c.Head.Word.size : Int) + (c.jM.size : Int) + (c.B.ja.size : Int) + (c.B.Word.size : Int) + (c.C.ja.size : Int) + (c.C.Word.size : Int) + (c.ki.size : Int)) (by omega) (by omega), kk (by omega) (by omega)]
  rw [g5 l _ (by omega) (by omega), zU]
  congr 1; omega
theorem g6 (s : Signed) (h : DY s.iY + s.Tag.length ≤ 1000000000) : Bx [] [s] = some (20 + (DY s.iY : Int) + (s.Tag.length : Int)) := by
 unfold Bx
 rw [vq, sZ]
 have := g5 [s.iY] 0 (by omega) (by rw [zU, zU]; omega)
 rw [show Bu [s.iY] = _ from this, aA, sZ, zU, zU]
 rw [kk (x := 0 + ((20 + DY s.iY + 0 : Nat) : Int) + (s.Tag.length : Int)) (by omega) (by omega), kk (by omega) (by omega)]
 simp only [aA]
 congr 1; omega
theorem MK (a b : jL) (f : Formula) (ha : PB a) (g : PB b) (n : a.jv.length ≤ 30000) (o : b.jv.length ≤ 30000) (d : Gd f) :
  ∃ x y j, rX a b = some (x, y, j) ∧ Iq a b x y ∧ rL a b f = some (rk (vD y b.Name) f) ∧ wZ a b f = some (rk (vD y b.Name) f) := by
 obtain ⟨x, y, j, e, F⟩ := JQ a b ha g (by omega) (by omega)
 have s := F.ly
 obtain ⟨G, c⟩ := OJ y (by omega)
 obtain ⟨m, i, _, l⟩ := c.Px
 have h := OR c b.Name
 refine ⟨x, y, j, e, F, ?_, ?_⟩
 ·unfold rL xM
  rw [e, aA, i, aA, aA]
  rw [ID (vD y b.Name) _ (fun r => by unfold sT; rw [nq, l, ← h]; rfl) f d]
  rfl
 ·have p := uC f
  unfold wZ
  rw [EH f d, aA]
  unfold rk
  cases q : mw f
  ·rfl
  ·simp only [aJ]
   unfold Br
   rw [Ir a b ha g n o, e, aA, c.ref, aA, show ry G b.Name = some (EJ G b.Name) from JU G b.Name (by have := c.len; omega)]
   simp only [aA]
   rw [Mj _ jB f (by rw [ll]; unfold Gd at d; omega) d, FY, h]
   rfl
def Po (l : List kP) (i : Int) : Prop := 0 ≤ i ∧ i < l.length
instance (l : List kP) (i : Int) : Decidable (Po l i) := by unfold Po; infer_instance
theorem oe.take {s : List iY} (h : oe s) (n : Nat) : oe (s.take n) := ⟨h.1.sublist (List.take_sublist n s), fun c b => h.2 c (List.mem_of_mem_take b)⟩
theorem bb {α β γ : Type} (x : Option α) (f : α → Option β) (g : β → Option γ) : (x.bind fun a => (f a).bind g) = (x.bind f).bind g := by cases x <;> rfl
theorem IZ (f : iY → Option Bool) (p : iY → Bool) (l : List iY) (h : ∀ x ∈ l, f x = some (p x)) : oG l f = some (l.any p) := by
 unfold oG nW
 rw [Ft]; exact Ls f p l h
def ED (k e : Int) (i : Nat) : ju := ⟨k, e, (i : Int)⟩
def wI (e : Int) (free goes : List iY) : List kP → Nat → List ju
 | [], _ => []
 | x :: xs, i => (if nc kh free x.Signed.iY then (if nc kh goes x.Signed.iY then [] else [ED 1 e i]) else [ED 2 e i]) ++ wI e free goes xs (i + 1)
def vT (e : Int) (all : List iY) : List nA → Nat → List ju
 | [], _ => []
 | a :: l, i => (if a.mn.any (nc kh all) then [] else [ED 3 e i]) ++ vT e all l (i + 1)
theorem Fp (e : Int) (free goes : List iY) : ∀ (l : List kP) (i : Nat), (wI e free goes l i).length ≤ l.length
 | [], i => by simp [wI]
 | x :: l, i => by
  have := Fp e free goes l (i + 1)
  rw [wI, aC, aH]
  split
  ·split <;> simp <;> omega
  ·simp; omega
theorem ER (e : Int) (all : List iY) : ∀ (l : List nA) (i : Nat), (vT e all l i).length ≤ l.length
 | [], i => by simp [vT]
 | x :: l, i => by
  have := ER e all l (i + 1)
  rw [vT, aC, aH]
  split <;> simp <;> omega
def qF (p : jL) : List iY := p.jv.map (·.Signed.iY)
theorem Gl (p : jL) (h : p.jv.length ≤ 1000000) : wD p = some (qF p) ∧ xg p = some (qF p) := by
 have key : ∀ (l : List kP) (acc : List iY), acc.length + l.length ≤ 1000000 → rA l acc = some (acc ++ l.map (·.Signed.iY)) ∧ su l acc = some (acc ++ l.map (·.Signed.iY)) := by
  intro l
  induction l with
  | nil => intro acc _; rw [rA, su]; simp
  | cons x l ih =>
   intro acc h
   rw [aH] at h
   obtain ⟨a, b⟩ := ih (acc ++ [x.Signed.iY]) (by simp; omega)
   rw [rA, su, kQ (by simp; omega) (by simp; omega), aA, aA, a, b]
   simp
 have := key p.jv [] (by simpa using h)
 simpa [wD, xg, qF] using this
theorem Fq (l : List iY) (c : iY) : oH l c = some (nc kh l c) := by unfold oH; rw [nq, HA]
theorem xE (e : Int) (free goes : List iY) : ∀ (l : List kP) (i : Nat) (acc : List ju), acc.length + l.length ≤ 1000000 → oh free e goes l i acc = some (acc ++ wI e free goes l i)
 | [], i, acc, _ => by rw [oh, wI, aT]
 | x :: l, i, acc, h => by
  rw [aH] at h
  rw [oh, wI, Fq, aA, Fq, aA]
  cases nc kh free x.Signed.iY
  ·simp only [cD, aJ, aB, aF]
   rw [kQ (by simp; omega) (by simp; omega), aA, xE e free goes l (i + 1) _ (by simp; omega)]
   simp [ED]
  ·simp only [bQ, aB, aF, aJ]
   cases nc kh goes x.Signed.iY
   ·simp only [cD, aJ, aB, aF]
    rw [kQ (by simp; omega) (by simp; omega), aA, xE e free goes l (i + 1) _ (by simp; omega)]
    simp [ED]
   ·simp only [bQ, aB, aF, aJ]
    rw [xE e free goes l (i + 1) acc (by omega)]
    simp
theorem Bm (e : Int) (all : List iY) : ∀ (l : List nA) (i : Nat) (acc : List ju), acc.length + l.length ≤ 3000000 → pU all e l i acc = some (acc ++ vT e all l i)
 | [], i, acc, _ => by rw [pU, vT, aT]
 | a :: l, i, acc, h => by
  rw [aH] at h
  rw [pU, vT, IZ _ (nc kh all) a.mn (fun c _ => by unfold uu; rw [nq, Fq]), aA]
  cases a.mn.any (nc kh all)
  ·simp only [cD, aJ, aB, aF]
   rw [kQ (by simp; omega) (by simp; omega), aA, Bm e all l (i + 1) _ (by simp; omega)]
   simp [ED]
  ·simp only [bQ, aB, aF, aJ]
   rw [Bm e all l (i + 1) acc (by omega)]
   simp
theorem Fm (p : jL) (hp : p.jv.length ≤ 1000000) : ∀ (cs : List iY) (b : Bool), sv p cs b = some (b && !(cs.any (nc kh (qF p))))
 | [], b => by rw [sv]; simp
 | c :: cs, b => by
  rw [sv, (Gl p hp).2]
  simp only [aA, As]
  cases b
  ·simp only [aB, aF, aA]
   rw [Fm p hp cs false]
   simp
  ·simp only [aJ, aA]
   rw [Fm p hp cs _]
   rw [eV]
   cases nc kh (qF p) c <;> simp
theorem Fg (p : jL) (hp : p.jv.length ≤ 1000000) (e : Int) : ∀ (l : List nA) (i : Nat) (acc : List ju), acc.length + l.length ≤ 3000000 → qL p e l i acc = some (acc ++ vT e (qF p) l i)
 | [], i, acc, _ => by rw [qL, vT, aT]
 | a :: l, i, acc, h => by
  rw [aH] at h
  rw [qL, vT, Fm p hp, aA, dq]
  cases a.mn.any (nc kh (qF p))
  ·simp only [cD, aJ, aB, aF]
   rw [kQ (by simp; omega) (by simp; omega), aA, Fg p hp e l (i + 1) _ (by simp; omega)]
   simp [ED]
  ·simp only [bQ, aB, aF, aJ]
   rw [Fg p hp e l (i + 1) acc (by omega)]
   simp
theorem Ao (p : jL) (hp : p.jv.length ≤ 1000000) (ha : p.ke.length ≤ 2000000) (e : Int) (free goes : List iY) : ∀ (l : List kP) (i : Nat) (acc : List ju), acc.length + l.length ≤ 1000000 →
  pO free e goes p l i acc = some (acc ++ wI e free goes l i ++ vT e (qF p) p.ke 0)
 | [], i, acc, h => by rw [pO, wI, aT, Fg p hp e p.ke 0 acc (by simp at h; omega)]; rfl
 | x :: l, i, acc, h => by
  rw [aH] at h
  rw [pO, wI, As, aA, As, aA]
  cases nc kh free x.Signed.iY
  ·simp only [cD, aJ, aB, aF]
   rw [kQ (by simp; omega) (by simp; omega), aA, Ao p hp ha e free goes l (i + 1) _ (by simp; omega)]
   simp [ED]
  ·simp only [bQ, aB, aF, aJ]
   cases nc kh goes x.Signed.iY
   ·simp only [cD, aJ, aB, aF]
    rw [kQ (by simp; omega) (by simp; omega), aA, Ao p hp ha e free goes l (i + 1) _ (by simp; omega)]
    simp [ED]
   ·simp only [bQ, aB, aF, aJ]
    rw [Ao p hp ha e free goes l (i + 1) acc (by omega)]
    simp
theorem JY (n : Nat) (b : n ≤ 1000000000) : oY (n : Int) = some [] := by
 unfold oY
 rw [aU (by simp), kk (x := 0 - 0) (by omega) (by omega), show (n : Int) - (0 - 0) = n by omega, kk (x := (n : Int)) (by omega) (by omega)]
 by_cases h : 0 < n
 ·rw [aW (by simpa using h)]
  unfold EK
  rw [aW ⟨by omega, by omega, by unfold maxLen; omega⟩]
  simp [pH]
 ·rw [aU (by simpa using h)]; rfl
theorem Ej : ∀ (b : List (List ju)) (acc : List ju), acc.length + (b.map List.length).sum ≤ 1000000000 → mF b acc = some (acc ++ b.flatten)
 | [], acc, _ => by rw [mF]; simp
 | x :: b, acc, h => by
  rw [bI, iy] at h
  rw [mF, kQ (by omega) (by omega), aA, Ej b _ (by simp; omega)]
  simp
theorem Ec (a0 : List (List ju)) (c : (a0.map List.length).sum ≤ 1000000000) : ∀ (b : List (List ju)) (n : Nat), n + (b.map List.length).sum ≤ 1000000000 → mB a0 b (n : Int) = some a0.flatten
 | [], n, h => by
  rw [mB, JY n (by omega), aA, Ej a0 [] (by simpa using c)]
  simp
 | x :: b, n, h => by
  rw [bI, iy] at h
  rw [mB, kk (by omega) (by omega), aU (by simp; omega), show (n : Int) + (x.length : Int) = ((n + x.length : Nat) : Int) by omega]
  exact Ec a0 c b (n + x.length) (by omega)
theorem M4 (b : List (List ju)) (h : (b.map List.length).sum ≤ 1000000000) : pD b = some b.flatten := by
 unfold pD
 exact Ec b h b 0 (by omega)
noncomputable def Ck (f : Formula) : Bool := decide ((nM f).2 = 0) && ou (nM f).1 ⟨2, 0, nK, []⟩
theorem IC (f : Formula) : Ck f = (decide ((nM f).2 = 0) && (decide ((nM f).1.Op = 2) && decide ((nM f).1.Kids.length = 0))) := by
 unfold Ck
 by_cases h : (nM f).2 = 0
 ·have j := (GX (f := f) (g := (nM f).1) (by rw [← h])).2.1
  unfold mw at j
  rw [aP, A0, aP, aP] at j
  have d := j.2.1
  rw [aP] at d
  have i := d.1
  rw [bF]
  simp only [aP, bD, vJ]
  refine ⟨fun ⟨a, b⟩ => ⟨a, by rw [b], by rw [b]; rfl⟩, fun ⟨a, b, c⟩ => ⟨a, ?_⟩⟩
  unfold zo at i
  have p : ¬ (nM f).1.Op = 1 := by omega
  rw [aU p, aW (.inl b), aP, bD] at i
  have l := js.1 i.1
  have m := aN c
  have n := i.2
  generalize (nM f).1 = g at *
  obtain ⟨o, k, r, q⟩ := g
  simp only at b l m n
  rw [b, l, m, n]
 ·simp [h]
noncomputable def H0 (p : wc) (y : List iY) : List ju := if Ck p.Formula then [⟨4, 0, 0⟩] else if rk (vD y p.Client.Name) p.Formula then [] else [⟨5, 0, 0⟩]
structure OC (p : wc) (x y f g : List iY) : Prop where
 F : Iq p.ja p.Client x y
 ff : ∀ c, c ∈ f ↔ qy p.ja (qF p.Client) p.Client.Name c
 fg : ∀ c, c ∈ g ↔ qy p.Client (qF p.ja) p.ja.Name c
noncomputable def EN (p : wc) (x y f g : List iY) : List ju := wI 0 f x p.ja.jv 0 ++ vT 0 (qF p.ja) p.ja.ke 0 ++ (wI 1 g y p.Client.jv 0 ++ vT 1 (qF p.Client) p.Client.ke 0) ++ H0 p y
theorem Nk (p : wc) (ha : PB p.ja) (c : PB p.Client) (n : p.ja.jv.length ≤ 30000) (o : p.Client.jv.length ≤ 30000) (z : p.ja.ke.length ≤ 2000000) (A : p.Client.ke.length ≤ 2000000) (i : Gd p.Formula) :
  ∃ x y j f g, rX p.ja p.Client = some (x, y, j) ∧ OC p x y f g ∧ rL p.ja p.Client p.Formula = some (rk (vD y p.Client.Name) p.Formula) ∧
   tp p = some (EN p x y f g) ∧ B5 p = some (EN p x y f g) := by
 obtain ⟨x, y, j, e, u, g1, g2⟩ := MK p.ja p.Client p.Formula ha c n o i
 have Py : (qF p.ja).length ≤ 30000 := by simpa [qF] using n
 have E : (qF p.Client).length ≤ 30000 := by simpa [qF] using o
 obtain ⟨f, q, U, I, R⟩ := Cy p.ja ha (qF p.Client) (by omega) p.Client.Name
 obtain ⟨g, r, sg, J, T⟩ := Cy p.Client c (qF p.ja) (by omega) p.ja.Name
 have M := Fp 0 f x p.ja.jv 0
 have k2 := Fp 1 g y p.Client.jv 0
 have O := ER 0 (qF p.ja) p.ja.ke 0
 have P := ER 1 (qF p.Client) p.Client.ke 0
 have Q : (H0 p y).length ≤ 1 := by unfold H0; split; exact aQ _; split <;> simp
 refine ⟨x, y, j, f, g, e, ⟨u, I, J⟩, g1, ?_, ?_⟩
 ·have G : wv p = some (H0 p y) := by
   unfold wv H0 Ck
   rw [E5 p.Formula i, g1]
   have L := tT (f := p.Formula)
   have v : Gd (nM p.Formula).1 := by unfold Gd; omega
   unfold rT
   simp only [aA, Iw _ _ v]
   have w : (⟨2, 0, (⟨zS, zS⟩ : iX), []⟩ : Formula) = ⟨2, 0, nK, []⟩ := rfl
   rw [w]
   by_cases d : (nM p.Formula).2 = 0
   ·simp only [d, aS, aJ, aA, bP, dq]
    cases ou (nM p.Formula).1 ⟨2, 0, nK, []⟩ <;> cases rk (vD y p.Client.Name) p.Formula <;> rfl
   ·have : ((nM p.Formula).2 == 0) = false := by simpa using d
    simp only [this, d, aB, aF, aA, bW, eJ]
    cases rk (vD y p.Client.Name) p.Formula <;> rfl
  unfold tp
  rw [e, G]
  unfold wq xt
  rw [(Gl p.ja (by omega)).1, (Gl p.Client (by omega)).1]
  simp only [aA]
  rw [q, r]
  simp only [aA]
  rw [xE 0 f x _ 0 [] (by simp; omega), xE 1 g y _ 0 [] (by simp; omega), Bm 0 _ _ 0 [] (by simp; omega), Bm 1 _ _ 0 [] (by simp; omega)]
  simp only [aA, aX]
  rw [M4 _ (by simp; omega)]
  unfold EN
  simp
 ·unfold B5
  rw [Ir p.ja p.Client ha c n o, e, aA]
  unfold zY
  rw [(Gl p.ja (by omega)).2, (Gl p.Client (by omega)).2]
  simp only [aA]
  rw [Gg _ ha _ (by omega), Gg _ c _ (by omega), q, r]
  simp only [aA]
  rw [Ao p.ja (by omega) z 0 f x _ 0 [] (by simp; omega), aA, Ao p.Client (by omega) A 1 g y _ 0 [] (by simp; omega), aA, aX, aX, kQ (by simp; omega) (by simp; omega), aA, Ju p.Formula i, aA, g2]
  have h := IC p.Formula
  have L1 : (wI 0 f x p.ja.jv 0 ++ vT 0 (qF p.ja) p.ja.ke 0 ++ (wI 1 g y p.Client.jv 0 ++ vT 1 (qF p.Client) p.Client.ke 0)).length ≤ 5000000 := by simp; omega
  unfold EN H0
  rw [h]
  generalize wI 0 f x p.ja.jv 0 ++ vT 0 (qF p.ja) p.ja.ke 0 ++ (wI 1 g y p.Client.jv 0 ++ vT 1 (qF p.Client) p.Client.ke 0) = l at *
  have a4 := kQ (b := 24) (l := l) (m := [(⟨4, 0, 0⟩ : ju)]) (by simp; omega) (by simp; omega)
  have a5 := kQ (b := 24) (l := l) (m := [(⟨5, 0, 0⟩ : ju)]) (by simp; omega) (by simp; omega)
  have d3 : (((nM p.Formula).1.Kids.length : Int) == 0) = decide ((nM p.Formula).1.Kids.length = 0) := by rw [bF]; simp
  rw [a4, a5]
  simp only [aA, d3]
  have s : ((nM p.Formula).2 == 0) = decide ((nM p.Formula).2 = 0) := by rw [bF]; simp
  have t : ((nM p.Formula).1.Op == 2) = decide ((nM p.Formula).1.Op = 2) := by rw [bF]; simp
  rw [s, t]
  cases decide ((nM p.Formula).2 = 0) <;> cases decide ((nM p.Formula).1.Op = 2) <;> cases decide ((nM p.Formula).1.Kids.length = 0) <;> cases rk (vD y p.Client.Name) p.Formula <;> simp
theorem I4 : ∀ (k u : Nat), u < 10 ^ (k + 1) → (Go.Lib.decDigits u).length ≤ k + 1
 | 0, u, h => by rw [Go.Lib.decDigits, dif_pos (by simpa using h)]; simp
 | k + 1, u, h => by
  rw [Nat.pow_succ] at h
  by_cases h1 : u < 10
  ·rw [Go.Lib.decDigits, dif_pos h1]; simp
  ·have := I4 k (u / 10) (by omega)
   rw [Go.Lib.decDigits, dif_neg h1]; simp; omega
def EX (n : Int) : Prop := -9223372036854775808 ≤ n ∧ n ≤ 9223372036854775807
theorem E8 {n : Int} (h : EX n) : xf n = some (uB n) := aW h
theorem wS {n : Int} (h : EX n) : (uB n).size ≤ 20 := by
 obtain ⟨b, h1⟩ := h
 show (Go.Lib.itoa n).toArray.size ≤ 20
 unfold Go.Lib.itoa
 split
 ·have := I4 18 n.natAbs (by omega)
  simp; omega
 ·have := I4 18 n.toNat (by omega)
  simp; omega
theorem PA : zS.size = 0 := rfl
def GU : ByteArray := ⟨#[32]⟩
def JX : ByteArray := ⟨#[10]⟩
def xr (x : ju) : ByteArray := uB x.Kind ++ GU ++ uB x.End ++ GU ++ uB x.At ++ JX
def CB : List ju → ByteArray → ByteArray
 | [], acc => acc
 | x :: l, acc => CB l (acc ++ xr x)
structure JH (x : ju) : Prop where
 k : EX x.Kind
 e : EX x.End
 a : EX x.At
theorem Kv {x : ju} (h : JH x) : (xr x).size ≤ 63 := by
 have h1 := wS h.k
 have b := wS h.e
 have c := wS h.a
 have s1 : GU.size = 1 := rfl
 have s2 : JX.size = 1 := rfl
 unfold xr
 simp only [dJ]; omega
theorem Aj {a b : ByteArray} (h : a.size + b.size ≤ 1000000000) : oN a b = some (a ++ b) := by
 unfold oN
 rw [aU]
 have : IntKind.i64.max = 9223372036854775807 := rfl
 rw [this]; omega
theorem Fa : ∀ (l : List ju) (acc : ByteArray), (∀ x ∈ l, JH x) → acc.size + 63 * l.length ≤ 1000000000 → qQ l acc = some (CB l acc) ∧ qh l acc = some (CB l acc)
 | [], acc, _, _ => by rw [qQ, qh]; exact ⟨rfl, rfl⟩
 | x :: l, acc, d, h => by
  have c := d x (by simp)
  rw [aH] at h
  have h1 := wS c.k
  have n := wS c.e
  have o := wS c.a
  have p := Kv c
  have s1 : GU.size = 1 := rfl
  have s2 : JX.size = 1 := rfl
  obtain ⟨a, b⟩ := Fa l (acc ++ xr x) (fun y m => d y (by simp [m])) (by rw [dJ]; omega)
  have g : (⟨#[32]⟩ : ByteArray) = GU := rfl
  have i : (⟨#[10]⟩ : ByteArray) = JX := rfl
  rw [qQ, qh, E8 c.k, E8 c.e, E8 c.a, g, i]
  simp only [aA]
  rw [Aj (by omega)]
  simp only [aA]
  rw [Aj (by simp only [dJ]; omega)]
  simp only [aA]
  rw [Aj (by simp only [dJ]; omega)]
  simp only [aA]
  rw [Aj (by simp only [dJ]; omega)]
  simp only [aA]
  rw [Aj (by simp only [dJ]; omega)]
  simp only [aA]
  have hw : DQ acc (xr x) = some (acc ++ xr x) := aW (by omega)
  have j : oN acc (xr x) = some (acc ++ xr x) := Aj (by omega)
  rw [show uB x.Kind ++ GU ++ uB x.End ++ GU ++ uB x.At ++ JX = xr x from rfl, hw, j]
  exact ⟨a, b⟩
def vr (k : Int) : List ju → Nat
 | [] => 0
 | x :: l => (if x.Kind == k then 1 else 0) + vr k l
theorem H8 (k : Int) : ∀ l : List ju, vr k l ≤ l.length
 | [] => aQ _
 | x :: l => by have := H8 k l; rw [vr, aH]; split <;> omega
theorem DB (k : Int) : ∀ (l : List ju) (n : Nat), n + l.length ≤ 1000000000 → pw k l (n : Int) = some ((n + vr k l : Nat) : Int)
 | [], n, _ => by rw [pw, vr]; rfl
 | x :: l, n, h => by
  rw [aH] at h
  rw [pw, vr]
  cases x.Kind == k
  ·simp only [aB, aF]
   rw [DB k l n (by omega), dL]
  ·simp only [aJ]
   rw [kk (by omega) (by omega), show (n : Int) + 1 = ((n + 1 : Nat) : Int) by omega, DB k l (n + 1) (by omega), dT]
theorem Fl (k : Int) (l : List ju) (h : l.length ≤ 1000000000) : sH l k = some (vr k l : Int) := by
 unfold sH
 have := DB k l 0 (by omega)
 rw [dL] at this
 exact this
theorem Mq (a : ByteArray) : jP a a = true := kU.2 rfl
def CX (f : Formula) : wc := ⟨⟨PH, [], []⟩, ⟨N5, [], []⟩, f, 0, ⟨0, 0⟩, 0, 0, 0, []⟩
theorem Kn (f : Formula) (l : Gd f) : tp (CX f) = some (if Ck f then [⟨4, 0, 0⟩] else if rk (vD [] N5) f then [] else [⟨5, 0, 0⟩]) := by
 have b : ∀ n, PB ⟨n, [], []⟩ := fun n => ⟨by simp, by simp, by simp, by simp, by simp⟩
 obtain ⟨x, y, j, p, g, e, h, _, d, _⟩ := Nk (CX f) (b _) (b _) (by simp [CX]) (by simp [CX]) (by simp [CX]) (by simp [CX]) l
 have m : y = [] := List.eq_nil_iff_forall_not_mem.2 fun c i => by
  obtain ⟨z, o, _⟩ := ((h.F.fy c).1 i).1
  cases o
 rw [d]
 unfold EN
 rw [show (CX f).ja.jv = [] from rfl, show (CX f).Client.jv = [] from rfl, show (CX f).ja.ke = [] from rfl, show (CX f).Client.ke = [] from rfl, wI, vT, wI, vT, m]
 rfl
def vh : Formula := ⟨3, 0, nK, []⟩
theorem MY : Ck vw = true := by
 have h1 : mw vw = true := by decide +kernel
 have b : nM vw = (vw, 0) := by
  have := ML
  unfold zV at this
  rw [nE] at this
  split at this
  ·exact this
  ·rename_i c
   exact absurd (bA Prod.snd this) c
 unfold Ck
 rw [b]
 simp only [bP, dq]
 exact vJ.2 rfl
theorem Lz : Ck vh = false := by
 rw [IC]
 have d : nS vh = vh := by
  rw [vK]
  have b : ¬ (vh.Op = 1) := by decide
  have c : ¬ (vh.Op = 4) := by decide
  simp only [b, c, aF]
  rw [show vh.Kids = [] from rfl, shapeL]
  unfold nz
  rw [mG]
  rfl
 have h1 : mw vh = true := by decide +kernel
 have g : nM vh = (vh, 0) := by unfold nM; rw [h1, d, h1]; rfl
 rw [g]
 rfl
theorem M6 (v : iX → Bool) : rk v vh = false := by
 unfold rk
 rw [tY]
 simp [vh, evN]
theorem Pe : uB 4 = ⟨#[52]⟩ := by
 unfold uB Go.Lib.itoa
 rw [aU (by omega), Go.Lib.decDigits, dif_pos (by decide)]
 rfl
theorem O9 : uB 0 = ⟨#[48]⟩ := by
 unfold uB Go.Lib.itoa
 rw [aU (by omega), Go.Lib.decDigits, dif_pos (by decide)]
 rfl
theorem MQ : tf = some true := by
 have f1 := Kn vw (by unfold Gd; decide +kernel)
 have f2 := Kn vh (by unfold Gd; decide +kernel)
 rw [MY] at f1
 rw [Lz, M6] at f2
 simp only [aJ, aB, aF] at f1 f2
 have b := (Fa [⟨4, 0, 0⟩] zS (by simp; exact ⟨by constructor <;> simp, by constructor <;> simp, by constructor <;> simp⟩) (by rw [PA]; simp)).1
 have c : CB [⟨4, 0, 0⟩] zS = ⟨#[52, 32, 48, 32, 48, 10]⟩ := by
  rw [CB, CB]
  unfold xr
  simp only [Pe, O9]
  rfl
 rw [c] at b
 have c1 := Fl 4 [⟨4, 0, 0⟩] (by simp)
 have c2 := Fl 5 [⟨4, 0, 0⟩] (by simp)
 unfold tf
 erw [f1]
 simp only [aA]
 erw [f2]
 simp only [aA, aH, bN]
 unfold uT
 rw [b, c1, c2, show vr 4 [(⟨4, 0, 0⟩ : ju)] = 1 from rfl, show vr 5 [(⟨4, 0, 0⟩ : ju)] = 0 from rfl, show kp [(⟨4, 0, 0⟩ : ju)] 0 = some ⟨4, 0, 0⟩ from rfl, show kp [(⟨5, 0, 0⟩ : ju)] 0 = some ⟨5, 0, 0⟩ from rfl]
 simp only [aA, Mq]
 rfl
theorem G1 (k : Int) (F : List ju) (d : ∀ x ∈ F, JH x) (j : F.length ≤ 100) : ∀ (M A : List ju) (n : Nat), F = A ++ M → n = vr k A → np k F M (n : Int) = some true
 | [], A, n, g, c => by
  obtain ⟨a, b⟩ := Fa F zS d (by rw [PA]; omega)
  rw [np]
  unfold uT yC
  rw [a, b, Fl k F (by omega)]
  simp only [aA, Mq, aJ]
  rw [g, aT, c]
  simp
 | x :: M, A, n, g, c => by
  have h : ∀ (A : List ju), vr k (A ++ [x]) = vr k A + (if x.Kind == k then 1 else 0) := by
   intro A
   induction A with
   | nil => simp [vr]
   | cons y A ih => rw [bJ, vr, vr, ih]; omega
  have l := H8 k A
  have i : A.length ≤ F.length := by rw [g]; simp
  have ih := fun n c => G1 k F d j M (A ++ [x]) n (by rw [g]; simp) c
  rw [np]
  cases hk : x.Kind == k
  ·simp only [aB, aF]
   exact ih n (by rw [h, hk, c]; simp)
  ·simp only [aJ]
   rw [kk (by omega) (by omega), show (n : Int) + 1 = ((n + 1 : Nat) : Int) by omega]
   exact ih (n + 1) (by rw [h, hk, c]; simp)
theorem EU (b : tf = some true) (l : List ju) (k : Int) (h : ∀ x ∈ l, JH x) : sc l k = some true := by
 unfold sc
 rw [b]
 simp only [aA, bQ, aB, aF]
 by_cases c : (l.length : Int) > 100
 ·simp only [c, bP, aJ]
 ·simp only [c, bW, aB, aF]
  exact G1 k l h (by omega) l [] 0 rfl rfl
end Go.Proofs.YtjjjihkifgdhgaaGreatDoor
namespace Go.Proofs.YtjjjihkifgdhgaaGreatDoor.Lf
open Go.ChangeShapes Go.WideShapes Go.ChangeAt Go.RowKit
open Go.Proofs.YtjjjihkifgdhgaaGreatDoor (Rows.uptoBulk Rows.uptoBulkAll Rows.uptoSmall)
theorem OH {H : Type} (d : DataW H) : 1 ≤ Rows.uptoBulk d := by
 cases d with
 | lit l => cases l <;> simp [Rows.uptoBulk]
 | nil => simp [Rows.uptoBulk]
 | ptr d => simp [Rows.uptoBulk]
 | slice b spare => simp [Rows.uptoBulk]
 | agg parts => simp [Rows.uptoBulk]
 | iface t d => simp [Rows.uptoBulk]
 | map entries => simp [Rows.uptoBulk]
 | held h => simp [Rows.uptoBulk]
theorem M3 {α : Type} {n : Nat} {p : Nat → α → Prop} (h : ∀ i, i < n → ∃ x, p i x) : ∃ l : List α, l.length = n ∧ ∀ i x, l[i]? = some x → p i x := by
 induction n with
 | zero => exact ⟨[], rfl, by simp⟩
 | succ n ih =>
  obtain ⟨l, h1, d⟩ := ih fun i c => h i (by omega)
  obtain ⟨x, j⟩ := h n (by omega)
  refine ⟨l ++ [x], by simp [h1], fun i y b => ?_⟩
  by_cases c : i < l.length
  ·rw [ft c] at b
   exact d i y b
  ·rw [ev (by omega)] at b
   have : i - l.length = 0 := by
    cases g : i - l.length with
    | zero => rfl
    | succ m => rw [g] at b; simp at b
   rw [this] at b
   have e : i = n := by omega
   simp at b
   subst b; rw [e]; exact j
theorem Hx {W : World} {a : Addr} {v : Value} (h : W.cell? a = some v) : ∃ cs T fr, W.heap[a.block]? = some (.cells cs T fr) ∧ a.spot = none ∧ cs[a.off]? = some v := by
 unfold World.cell? at h
 split at h
 ·rename_i c T fr d
  by_cases b : a.spot.isSome
  ·simp [b] at h
  ·simp only [b] at h
   exact ⟨c, T, fr, d, by simpa using b, by simpa using h⟩
 ·cases h
theorem Ex.below {dd : Bool} {W W' : World} (h : Ex dd W W') : Below W.heap.size W W' := ⟨h.os, h.tape, h.output, h.size, h.kO⟩
theorem Bw {H : Type} {l : TypeId × Value → H} {P : Program} (n : laidOutB P = true) {W W' : World} {c : Nat → Bool} :
  ∀ {i : List TypeId} {vs : List Value} {ds : List (DataW H)} {g : List MemPlace}, (∀ t ∈ i, P.readableRec t = true ∧ t < P.types.size) →
   DataW.TrodAll l P W 0 (fun _ => true) true i vs ds g → (∀ p ∈ g, W.sameAt W' p) → (∀ p ∈ g, c p.block = true) → DataW.TrodAll l P W' 0 c true i vs ds g
 | [], _, _, _, _, h, _, _ => by
  obtain ⟨rfl, rfl, rfl⟩ := trodAll_nil h
  exact trodAll_mk0
 | t :: i, _, _, _, j, h, h1, m => by
  obtain ⟨v, vs, d, ds, p, q, rfl, rfl, rfl, o, r⟩ := trodAll_cons h
  exact trodAll_cons_mk (WideElems.Trod_stays n (j t (by simp)).1 (j t (by simp)).2 o (fun x b => h1 x (by simp [b])) (fun x b => m x (by simp [b])))
   (Bw n (fun u hu => j u (by simp [hu])) r (fun x b => h1 x (by simp [b])) (fun x b => m x (by simp [b])))
theorem IT {H : Type} {enc : TypeId × Value → H} {P : Program} (M : laidOutB P = true) {f : Func} {s : ChangeSpec} {apart fresh handsOn again : Bool} {W W' : World} {args : Array Value} {v : Value} {ds gs : List (DataW H)} {before : List MemPlace} (Q : ∀ t ∈ f.params.toList, P.readableRec t = true ∧ t < P.types.size) (n : s.vars = []) (u : DataW.Whole enc P f.params.toList s.vars apart W args.toList ds gs before) {dd : Bool} (G : Ex dd W W') (c : ∀ (b : Nat) (sp : Nat → Bool) (L : Bool), DataW.TrodAll enc P W' b sp L f.resultTypes.toList (v.resultList f.resultTypes.size) (s.fn H (ds ++ gs)).results []) (d : (s.fn H (ds ++ gs)).args = ds) (h : (s.fn H (ds ++ gs)).vars = []) (A : ∀ (j : Nat) (t : TypeId) (r : Value), f.resultTypes[j]? = some t → (v.resultList f.resultTypes.size)[j]? = some r → Value.okWide P W' .any 0 t r) :
  s.post enc P f apart fresh handsOn again W args v W' := by
 have g := u.lt
 have hold : ∀ p ∈ before, (fun b => decide (b < W.heap.size)) p.block = true := fun p hp => by simpa using g p hp
 have z := Ex.below G
 have y := u
 obtain ⟨p, q, J, I, l, R, O⟩ := u
 rw [n] at I
 obtain ⟨rfl, rfl⟩ := trodVars_none I
 rw [aT] at l
 subst l
 have m : ∀ sp : Nat → Bool, (∀ p ∈ before, sp p.block = true) → DataW.TrodAll enc P W' 0 sp true f.params.toList args.toList (s.fn H (ds ++ [])).args before := fun sp E => by
  rw [d]
  exact Bw M Q J (fun x G => z.same (g x G)) E
 have o : ∀ sp : Nat → Bool, DataW.TrodVars enc P W' sp s.vars (s.fn H (ds ++ [])).vars [] := fun sp => by
  rw [h, n]; rfl
 refine ⟨ds, [], before, [], before, [], y, c _ _ _, m _ hold, o _, World.keptBut_mono (fun p hp => ⟨hp, ?_⟩) (z.frame (· ∈ before)), fun _ => ?_⟩
 ·exact Or.inr (Or.inl hp)
 ·refine ⟨A, _, _, ([] ++ before) ++ [], ⟨[] ++ before, [], trodAll_append (m _ (fun _ _ => rfl)) (c _ _ _), o _, rfl, ?_, ?_⟩, ?_⟩
  ·intro b off hp
   have i : MemPlace.cell b off ∈ before := by simpa using hp
   rw [World.frozen?_of_block (w := W) (z.block b (g _ i))]
   exact R b off i
  ·intro ha
   simpa using O ha
  ·intro p hp _
   simpa using hp
end Go.Proofs.YtjjjihkifgdhgaaGreatDoor.Lf
namespace Go.Proofs.YtjjjihkifgdhgaaGreatDoor.Lf
open Go.ChangeShapes Go.WideShapes Go.ChangeAt Go.RowKit
open Go.Proofs.YtjjjihkifgdhgaaGreatDoor (Rows.uptoBulk Rows.uptoBulkAll Rows.uptoSmall)
def HB {α : Type} (P : Program) (t : TypeId) (R : oF α) (d : α → Nat) : Prop :=
 ∀ (H : Type) (b : TypeId × Value → H) (W : World) (base : Nat) (sp : Nat → Bool) (c : Bool) (fuel : Nat) (cs : List Value) (x : DataW H × List MemPlace),
  DataW.trod b P W base sp c fuel t cs = some x → ∃ a : α, R (hp W) cs a ∧ d a ≤ Rows.uptoBulk x.1
end Go.Proofs.YtjjjihkifgdhgaaGreatDoor.Lf
namespace Go.Proofs.YtjjjihkifgdhgaaGreatDoor.Lf
open Go.ChangeShapes Go.WideShapes Go.ChangeAt Go.RowKit
open Go.Proofs.YtjjjihkifgdhgaaGreatDoor (Rows.uptoBulk Rows.uptoBulkAll Rows.uptoSmall)
theorem Dm {H : Type} : ∀ l : List (DataW H), Rows.uptoBulkAll l = (l.map Rows.uptoBulk).sum
 | [] => by simp [Rows.uptoBulkAll]
 | d :: l => by simp [Rows.uptoBulkAll, Dm l]
theorem KB {α : Type} (g : α → Nat) : ∀ (n : Nat) (f : Nat → Nat) {l : List α}, l.length = n → (∀ i x, l[i]? = some x → g x ≤ f i) → (l.map g).sum ≤ ((List.range n).map f).sum
 | 0, f, l, b, h => by
  obtain rfl := ej.1 b
  simp
 | n + 1, f, [], b, h => by cases b
 | n + 1, f, a :: l, b, h => by
  rw [List.range_succ_eq_map, bI, bI, iy, iy, ep]
  have h1 := h 0 a rfl
  have d := KB g n (f ∘ Nat.succ) (l := l) (by simpa using b) (fun i x c => h (i + 1) x (by simpa using c))
  omega
def ND {α : Type} (b : α → Nat) (l : List α) : Nat := (l.map fun a => max 1 (b a)).sum
theorem HN {α : Type} {P : Program} {t e : TypeId} {k : Nat} {R : oF α} {O : α → Nat} (hk : P.cellsOf e = k) (J : 0 < k) (ht : P.underlying t = some (.slice e)) {H : Type} {Y : TypeId × Value → H} {W : World} {base : Nat} {sp : Nat → Bool} {held : Bool} {fuel : Nat} {cs : List Value} {x : DataW H × List MemPlace} (hd : ∀ (fuel : Nat) (cs : List Value) (y : DataW H × List MemPlace), DataW.trod Y P W base sp held fuel e cs = some y → SizeOf.sizeOf y.1 < SizeOf.sizeOf x.1 → ∃ a : α, R (hp W) cs a ∧ O a ≤ Rows.uptoBulk y.1) (hf : DataW.trod Y P W base sp held fuel t cs = some x) :
  ∃ v l, cs = [v] ∧ Sl R k (hp W) v l ∧ ND O l ≤ Rows.uptoBulk x.1 := by
 rcases Go.Deep.open_slice ht hf with ⟨rfl, rfl⟩ | ⟨a, ln, cp, m, n, D, Q, rfl, hb, hl, hm, M, rfl, G⟩
 ·exact ⟨_, [], rfl, ⟨none, 0, rfl, aQ _, fM _, fun h => absurd h (Nat.lt_irrefl _)⟩, fM _⟩
 ·have aa : ln ≤ m := by rw [M]; split <;> omega
  have hB : ((List.range ln).map fun i => Rows.uptoBulk (D i)).sum ≤ Rows.uptoBulk (DataW.slice ((List.range ln).map D) ((List.range (m - ln)).map fun j => D (ln + j))) := by
   simp only [Rows.uptoBulk]
   rw [Dm, ep]
   have e : ((List.range ln).map fun i => Rows.uptoBulk (D i)) = (List.range ln).map (Rows.uptoBulk ∘ D) := rfl
   rw [e]
   omega
  have hS : ∀ i, i < ln → SizeOf.sizeOf (D i) < SizeOf.sizeOf (DataW.slice ((List.range ln).map D) ((List.range (m - ln)).map fun j => D (ln + j))) := fun i I => by
   have := List.sizeOf_lt_of_mem (bG.2 ⟨i, List.mem_range.2 I, rfl⟩ : D i ∈ (List.range ln).map D)
   rw [DataW.slice.sizeOf_spec]; omega
  simp only at hd ⊢
  generalize Rows.uptoBulk (DataW.slice ((List.range ln).map D) ((List.range (m - ln)).map fun j => D (ln + j))) = B at hB
  obtain ⟨l, L, q⟩ := M3 (α := α) (n := ln) (p := fun i x => ∃ b, W.cells? base (a.add (i * k)) k = some b ∧ R (hp W) b x ∧ O x ≤ Rows.uptoBulk (D i)) fun i I => by
   obtain ⟨b, h1, w⟩ := G i (by omega)
   obtain ⟨x, hR, z⟩ := hd _ _ _ w (hS i I)
   rw [hk] at h1
   exact ⟨x, b, h1, hR, z⟩
  subst L
  refine ⟨_, l, rfl, ⟨some a, cp, rfl, hl, hm, fun h0 => ?_⟩, ?_⟩
  ·have c : ∀ i x, l[i]? = some x → ∃ b, R (hp W) b x ∧ b.length = k ∧ ∀ j, j < k → W.cell? ((a.add (i * k)).add j) = b[j]? := fun i x r =>
    let ⟨b, h1, w, _⟩ := q i x r
    let ⟨_, z, Z⟩ := World.cells?_some h1
    ⟨b, w, z, Z⟩
   obtain ⟨a6, _, Z, h5⟩ := c 0 l[0] (by simp [h0])
   have A := h5 0 J
   rw [Nat.zero_mul, dx (by omega)] at A
   have e0 : (a.add 0).add 0 = a := rfl
   rw [e0] at A
   obtain ⟨cs, T, fr, E, h8, _⟩ := Hx A
   obtain ⟨s, u, a1⟩ := a
   simp only at E h8
   subst h8
   refine ⟨s, u, cs, T, fr, rfl, E, fun i x r => ?_⟩
   obtain ⟨b, gR, g1, g2⟩ := c i x r
   refine ⟨b, g1, gR, fun j y hy => ?_⟩
   have hj : j < k := by
    rw [← g1]
    exact (aY.1 hy).1
   have h9 := g2 j hj
   rw [Go.Deep.add_add, hy] at h9
   obtain ⟨U, T', a7, d, a8, g⟩ := Hx h9
   have o : (Addr.add ⟨s, u, none⟩ (i * k + j)).block = s ∧ (Addr.add ⟨s, u, none⟩ (i * k + j)).off = u + (i * k + j) := by
    unfold Addr.add
    split
    ·rename_i hz
     rw [hz]; exact ⟨rfl, rfl⟩
    ·exact ⟨rfl, rfl⟩
   rw [o.1, E] at d
   cases d
   rw [o.2, ← dT] at g
   exact g
  ·refine dr (KB _ _ _ rfl fun i x r => ?_) hB
   exact Nat.max_le.2 ⟨OH _, (q i x r).elim fun _ h => h.2.2⟩
theorem HG {α : Type} {P : Program} {t e : TypeId} {k : Nat} {R : oF α} {c : α → Nat} (hk : P.cellsOf e = k) (b : 0 < k) (g : HB P e R c) (j : P.underlying t = some (.slice e)) {H : Type} {d : TypeId × Value → H} {W : World} {base : Nat} {sp : Nat → Bool} {held : Bool} {fuel : Nat} {cs : List Value} {x : DataW H × List MemPlace} (i : DataW.trod d P W base sp held fuel t cs = some x) :
  ∃ v l, cs = [v] ∧ Sl R k (hp W) v l ∧ ND c l ≤ Rows.uptoBulk x.1 := HN hk b j (fun _ _ _ h _ => g _ _ _ _ _ _ _ _ _ h) i
end Go.Proofs.YtjjjihkifgdhgaaGreatDoor.Lf
namespace Go.Proofs.YtjjjihkifgdhgaaGreatDoor.Lf
open Go.ChangeShapes Go.WideShapes Go.ChangeAt Go.RowKit
open Go.Proofs.YtjjjihkifgdhgaaGreatDoor (Rows.uptoBulk Rows.uptoBulkAll Rows.uptoSmall)
def J6 {α : Type} (R : oF α) (Q : α → Prop) : oF α := fun μ ys x => R μ ys x ∧ Q x
theorem Sl.all {α : Type} {R : oF α} {Q : α → Prop} {k : Nat} {μ : jx} {v : Value} {l : List α} (h : Sl (J6 R Q) k μ v l) : Sl R k μ v l ∧ ∀ x ∈ l, Q x := by
 obtain ⟨A, c, rfl, h1, j, q⟩ := h
 cases l with
 | nil => exact ⟨⟨A, c, rfl, h1, j, fun h => absurd h (by simp)⟩, by simp⟩
 | cons a l =>
  obtain ⟨b, o, cs, T, fr, e, r, m⟩ := q (by simp)
  refine ⟨⟨A, c, rfl, h1, j, fun _ => ⟨b, o, cs, T, fr, e, r, fun i x g => ?_⟩⟩, fun x g => ?_⟩
  ·obtain ⟨ys, n, d, p⟩ := m i x g
   exact ⟨ys, n, d.1, p⟩
  ·obtain ⟨i, s⟩ := List.mem_iff_getElem?.1 g
   obtain ⟨ys, n, d, p⟩ := m i x s
   exact d.2
theorem Lc {P : Program} {t : TypeId} (b : P.underlying t = some (.int .i64)) : HB P t (J6 (Pl (jN .i64)) (fun x => -9223372036854775808 ≤ x ∧ x ≤ 9223372036854775807)) (fun _ => 0) := by
 intro H c W base sp d fuel cs x h
 obtain ⟨n, rfl, rfl, hw⟩ := DataW.trod_int b h
 refine ⟨n, ⟨rfl, ?_⟩, fM _⟩
 simp [Lit.wf, IntKind.min, IntKind.max, IntKind.bits, IntKind.signed] at hw
 omega
theorem HH {α H : Type} {o : TypeId × Value → H} {P : Program} {t e : TypeId} {k : Nat} {R : oF α} {Q : α → Prop} {m : α → Nat} (hk : P.cellsOf e = k) (c : 0 < k) (s : HB P e (J6 R Q) m) (j : P.underlying t = some (.slice e)) {W : World} {base n : Nat} {r : Reach} {sp : Nat → Bool} {held : Bool} {v : Value} {d : DataW H} {y : List MemPlace} (b : Value.okWide P W r n t v) (h : DataW.Trod o P W base sp held t v d y) :
  ∃ l : List α, Sl R k (hp W) v l ∧ ND m l ≤ Rows.uptoBulk d ∧ ∀ x ∈ l, Q x := by
 obtain ⟨A, ln, g, rfl⟩ := okWide_slice j b
 obtain ⟨fuel, w⟩ := h
 obtain ⟨u, l, h1, i, p⟩ := HG hk c s j w
 have q : (Value.slice A ln g).cells.toList = [Value.slice A ln g] := rfl
 rw [q] at h1
 cases h1
 exact ⟨l, (Sl.all i).1, p, (Sl.all i).2⟩
end Go.Proofs.YtjjjihkifgdhgaaGreatDoor.Lf
namespace Go.Proofs.YtjjjihkifgdhgaaGreatDoor
open Go.Proofs.Tryz renaming prog → pg0
set_option maxRecDepth 10000
open Go.ChangeShapes Go.WideShapes Go.ChangeAt Go.RowKit
open Go.Proofs.YtjjjihkifgdhgaaGreatDoor Go.Proofs.YtjjjihkifgdhgaaGreatDoor.Lf
theorem IB : Tryz.prog.cellsOf 40 = 3 := by kernel_rfl
theorem OK {α : Type} {l : List α} (h : l.length = 3) : ∃ a0 b a2, l = [a0, b, a2] := by
 match l, h with
 | [a0, b, a2], _ => exact ⟨a0, b, a2, rfl⟩
theorem Om : Tryz.prog.cellsOf 3 = 1 := by kernel_rfl
theorem Jd : HB pg0 3 (J6 (Pl (jN .i64)) EX) (fun _ => 0) := Lc Tryz.underlying3
theorem PG : Tryz.prog.readableRec 37 = true ∧ 37 < Tryz.prog.types.size := ⟨by kernel_rfl, gh (by kernel_rfl)⟩
theorem P0 : Tryz.prog.readableRec 3 = true ∧ 3 < Tryz.prog.types.size := ⟨by kernel_rfl, gh (by kernel_rfl)⟩
theorem OI : HB pg0 40 (J6 (Pl jy) JH) (fun _ => 0) := by
 intro H s W base sp t fuel cs x h
 obtain ⟨xs, n, _, u, m, hlen, c⟩ := DataW.trod_struct Tryz.underlying40 h
 obtain ⟨p, q, r, rfl⟩ := OK hlen
 obtain ⟨b, c1, c2, rfl⟩ := OK (m.trans IB)
 have j : DataW.trod _ pg0 W _ _ _ n 3 (([b, c1, c2].drop 0).take (Tryz.prog.cellsOf 3)) = some p := c 0 _ rfl
 have h1 : DataW.trod _ pg0 W _ _ _ n 3 (([b, c1, c2].drop 1).take (Tryz.prog.cellsOf 3)) = some q := c 1 _ rfl
 have l : DataW.trod _ pg0 W _ _ _ n 3 (([b, c1, c2].drop 2).take (Tryz.prog.cellsOf 3)) = some r := c 2 _ rfl
 simp only [Om, List.drop, List.take] at j h1 l
 obtain ⟨o, ⟨d, g0⟩, _⟩ := Jd _ _ _ _ _ _ _ _ _ j
 simp only [Pl, jN, cM, and_true] at d
 obtain rfl := d
 obtain ⟨s1, ⟨g, g1⟩, _⟩ := Jd _ _ _ _ _ _ _ _ _ h1
 simp only [Pl, jN, cM, and_true] at g
 obtain rfl := g
 obtain ⟨s2, ⟨i, g2⟩, _⟩ := Jd _ _ _ _ _ _ _ _ _ l
 simp only [Pl, jN, cM, and_true] at i
 obtain rfl := i
 exact ⟨⟨o, s1, s2⟩, ⟨rfl, ⟨g0, g1, g2⟩⟩, fM _⟩
theorem own : ownKnob Tryz.prog.godebug = none := by kernel_rfl
theorem Ln : laidOutB pg0 = true := by kernel_rfl
theorem KX : Tryz.prog.globalNamed "internal/strconv.uint64pow10" = some 3 := by kernel_rfl
theorem Ly : (Tryz.prog.globals[3]?).map (·.type) = some 331 := by kernel_rfl
theorem Oo : Tryz.prog.cellsOf 331 = 20 := by kernel_rfl
theorem Od : Tryz.prog.cellsOf 272 = 1 := by kernel_rfl
theorem GH {P : Program} {x : String × DataW Unit} {r : List (String × DataW Unit)} {w : World} (h : laidMet P (x :: r) w) : laidMet P r w := by
 obtain ⟨o, ⟨g, t, cs, fuel, p, q, h1, l, m, n, c, rfl⟩, j, i⟩ := h
 exact ⟨q, c, (bO.1 j).2.1, fun b off d => i b off (aO.2 (.inr d))⟩
theorem PF {W : World} (h : laidMetH pg0 Rows.lintTextsUptoRow.laid W) : zH pg0 (hp W) := by
 have c : laidMet pg0 [("math/bits.deBruijn32tab", Rows.laid_math_bits_deBruijn32tab), ("math/bits.deBruijn64tab", Rows.laid_math_bits_deBruijn64tab), ("internal/strconv.uint64pow10", Go.Lib.tabData .u64 Go.Lib.pow10Tab)] W := h
 have h1 := Go.Lib.tabIs_of_head (rest := []) KX Ly Tryz.underlying331 Tryz.underlying272 Od Oo (GH (GH c))
 unfold Go.Lib.TabIs World.var? at h1
 rw [KX] at h1
 simp only [aA] at h1
 cases b : W.heap[3]? with
 | none => rw [b] at h1; cases h1
 | some o =>
  rw [b] at h1
  cases o with
  | cells cs T fr =>
   obtain rfl := fG h1
   exact ⟨3, _, _, KX, b⟩
  | _ => exact absurd (show (none : Option (Array Value)) = some _ from h1) (fun h => by cases h)
def O1 : DataW Unit → Array Value
 | .agg l => (l.map fun x => match x with | .lit (.int k z) => Value.int k z | _ => Value.nilIface).toArray
 | _ => #[]
def Ho (d : DataW Unit) (o : Obj) : Obj := match o with | .cells _ t frozen => .cells (O1 d) t frozen | o => o
theorem K7 (H : Type) (enc : TypeId × Value → H) (W : World) (base : Nat) (args : Array Value) (ds gs : List (DataW H)) (before : List MemPlace) (b : ∀ (j : Nat) t v, Tryz.f4.params[j]? = some t → args[j]? = some v → Value.okWide pg0 W .any base t v) (m : DataW.Whole enc pg0 Tryz.f4.params.toList Rows.lintTextsSpec.vars false W args.toList ds gs before) (hk : Rows.uptoSmall H (ds ++ gs) = true) (w : laidMetH pg0 Rows.lintTextsUptoRow.laid W) :
  Calls pg0 4 args W fun e W' => ∃ v, e = .returned v ∧ Rows.lintTextsSpec.post enc pg0 Tryz.f4 false true false false W args v W' := by
 have g := m
 obtain ⟨p, q, d, x, rfl, y, A⟩ := m
 have l : DataW.TrodAll enc pg0 W 0 (fun _ => true) true Tryz.f4.params.toList args.toList ds p := d
 have E : ∀ t ∈ Tryz.f4.params.toList, Tryz.prog.readableRec t = true ∧ t < Tryz.prog.types.size := by
  rw [Tryz.params4]
  intro t n
  simp only [aM, dm, fj] at n
  rcases n with rfl | rfl
  ·exact PG
  ·exact P0
 rw [Tryz.params4] at l b
 obtain ⟨v0, P, d0, o, R, U, h, rfl, rfl, s, M⟩ := trodAll_cons l
 obtain ⟨v1, Q, d1, r, T, Y, rfl, rfl, rfl, h1, O⟩ := trodAll_cons M
 obtain ⟨rfl, rfl, rfl⟩ := trodAll_nil O
 obtain rfl : args = #[v0, v1] := by cases args; simp_all
 obtain ⟨rfl, rfl⟩ := trodVars_none x
 have I := b 0 37 v0 rfl rfl
 have J := b 1 3 v1 rfl rfl
 obtain ⟨a0, i, z0, L⟩ := HH (k := 3) IB (by decide) OI Tryz.underlying37 I s
 obtain ⟨c, rfl⟩ := okWide_int Tryz.underlying3 J
 have u : Rows.uptoBulkAll ([d0, d1] ++ []) ≤ 1048576 := gh hk
 simp only [aT, Rows.uptoBulkAll] at u
 have hm : sc a0 c = some true := EU MQ a0 c L
 have z := CQ v0 a0 c true W (PF w) i hm
 refine cR z fun e W' ⟨he, G⟩ => ?_
 subst he
 exact ⟨_, rfl, IT Ln E rfl g G (fun _ _ _ => trodAll_cons_mk (shut_bool Tryz.underlying4 _) trodAll_mk0) rfl rfl (ok_one (by kernel_rfl) rfl (okWide_bool_mk Tryz.underlying4 _))⟩
noncomputable def BI (os : Os) : World :=
 { World.holding pg0 os ⟨#[], #[], []⟩ with heap := (((World.holding pg0 os ⟨#[], #[], []⟩).heap.modify 4 (Ho Rows.laid_math_bits_deBruijn32tab)).modify 5 (Ho Rows.laid_math_bits_deBruijn64tab)).modify 3 (Ho Rows.laid_internal_strconv_uint64pow10) }
theorem Lp (os : Os) : laidMet pg0 Rows.lintTextsUptoRow.laid ((BI os).forCall (fun _ _ => 0) ⟨#[], #[.slice none 0 0, .int .i64 0], []⟩).memory :=
 laidMet_of_run' 8 (by kernel_rfl) (by kernel_rfl)
theorem OZ (os : Os) {H : Type} (enc : TypeId × Value → H) : ∃ places, DataW.whole enc pg0 ((BI os).forCall (fun _ _ => 0) ⟨#[], #[.slice none 0 0, .int .i64 0], []⟩).memory Tryz.f4.params.toList Rows.lintTextsSpec.vars false #[.slice none 0 0, .int .i64 0].toList 8 = some ([.nil, .lit (.int .i64 0)], [], places) :=
 ⟨[], by kernel_rfl⟩
set_option maxRecDepth 100000 in
theorem NG (os : Os) (started : os.Started) (H : Type) (enc : TypeId × Value → H) (F : Stop.Interp) :
  ReturnsInHanded {} Tryz.checked os 4 .any ((Rows.OpenSpec.upto Rows.lintTextsSpec).preRow enc pg0 Tryz.f4 Rows.lintTextsUptoRow.domain false Rows.lintTextsUptoRow.laid) (((Rows.OpenSpec.upto Rows.lintTextsSpec).at F).post enc pg0 Tryz.f4 false true false false) := by
 obtain ⟨places, h⟩ := OZ os enc
 refine returnsInHanded_of_row (C := Tryz.checked) (s := Rows.OpenSpec.upto Rows.lintTextsSpec) own started (by kernel_rfl) Tryz.func4
  (witness_row_at (enc := enc) (C := Tryz.checked) false (BI os) #[.slice none 0 0, .int .i64 0] rfl (by kernel_rfl) (by kernel_rfl) (by kernel_rfl)
   (OpenSpec.preRow_of_cond 8 h (by kernel_rfl) (fun k hk => by cases hk; kernel_rfl) (by kernel_rfl) (Lp os))) ?_
 intro W base args ds gs before c g _ b _ d _ _
 exact K7 H enc W base args ds gs before c g (b _ rfl) d
theorem OS {a b : Bool} (ha : a = true) (c : b = true) : (a && b) = true := by rw [ha, c]; rfl
set_option maxHeartbeats 40000000 in
theorem Mz : joinedFacts Tryz.checked.prog 4 Tryz.f4 (Rows.OpenSpec.upto Rows.lintTextsSpec).bare Rows.lintTextsUptoRow = true := by
 unfold joinedFacts
 repeat' with_reducible refine OS ?_ ?_
 all_goals as_aux_lemma => kernel_rfl
theorem PN : Rows.LintTextsUptoSaid :=
 OpenClaim.holds_of_cond 4 Tryz.f4 rfl rfl rfl rfl rfl rfl rfl ⟨rfl, rfl, rfl, rfl, rfl⟩ rfl rfl rfl rfl rfl (by kernel_rfl) Tryz.func4 Mz
  (gh (by kernel_rfl)) (by unfold Func.isWrapper; first | (rw [aW (by decide +kernel)]; kernel_rfl) | (rw [aU (by decide +kernel)]; exact ⟨rfl, rfl⟩))
  (fun os started H enc _ F => by rw [OpenClaim.pre_eq_preRow]; exact NG os started H enc F)
theorem Ou (f : FuncId) (fn : Func) (g : Tryz.pinned.checked.prog.funcNamed "entente/ententelaw31.LintTexts" = some f) (c : Tryz.pinned.checked.prog.funcs[f]? = some fn) :
  true = Tryz.pinned.checked.prog.looks [] ∧ ∀ (j : Nat) t, fn.params[j]? = some t → Tryz.pinned.checked.prog.wantsStandIn t = false := by
 obtain rfl : f = 4 := fG ((show Tryz.prog.funcNamed "entente/ententelaw31.LintTexts" = some 4 by kernel_rfl).symm.trans g) |>.symm
 obtain rfl : fn = Tryz.f4 := (fG (Tryz.func4.symm.trans c)).symm
 refine ⟨by kernel_rfl, fun j t d => ?_⟩
 rw [Tryz.params4] at d
 have hm : t ∈ [37, 3] := by simpa using Array.mem_of_getElem? d
 have b : ([37, 3].all fun u => !Tryz.prog.wantsStandIn u) = true := by kernel_rfl
 exact (show Tryz.prog.wantsStandIn t = false by simpa using dZ.1 b t hm)
theorem Qe : Rows.lintTextsUptoRow.wfByText (Rows.OpenSpec.upto Rows.lintTextsSpec) = true := by kernel_rfl
theorem Qh : Tryz.pinned.checked.prog.mainIs = some (Rows.lintTextsUptoCard.stood.harness.1, Rows.lintTextsUptoCard.stood.harness.2.toList) := by kernel_rfl
theorem PW : false = Rows.lintTextsUptoRow.goesBy Tryz.pinned.checked.prog := by kernel_rfl
theorem proved : Rows.LintTextsUptoCardSaid :=
 Claim7.holds_tied_plain_at .later [] _ _ _ _ PN (fun _ h => by cases h) Qe (fun _ h => by cases h) lintTextsUpto_row_tie rfl ⟨rfl, rfl⟩ Qh rfl Ou PW
end Go.Proofs.YtjjjihkifgdhgaaGreatDoor
