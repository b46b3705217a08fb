/- a part of a proof of StuckTells -/
import Derived.Test.YtmlncblocfcmiaaGreatHit
import Derived.Test.YtmlncblocfcmiaaGreatRtXt
import Derived.Test.YtmlncblocfcmiaaGreatRows
import Derived.WalkKit
import Derived.ProofKit
import Derived.OpenShut
import Derived.JoinedCond
import Derived.Deep.Slices
import Derived.Carry
import Derived.ChangeArms
import Derived.ChangeSame
import Derived.Test.YtmlncblocfcmiaaGreatS1W3t
set_option linter.all false
namespace Go.Proofs.YtmlncblocfcmiaaGreat
open Go.RowKit
def ux : Formula := ⟨2, 0, pu, []⟩
def yr (c : jr) : List kz → List kz
 | [] => []
 | x :: l => if kh x.Signed.jr c then ⟨x.Signed, ux⟩ :: l else x :: yr c l
theorem HH (c : jr) : ∀ (A : List kz) (x : kz) (B : List kz), (∀ y ∈ A, kh y.Signed.jr c = false) → kh x.Signed.jr c = true → yr c (A ++ x :: B) = A ++ ⟨x.Signed, ux⟩ :: B
 | [], x, B, _, h => by rw [aZ, yr, h]; rfl
 | y :: A, x, B, a, h => by
  rw [bR, yr, a y (by simp), HH c A x B (fun z b => a z (by simp [b])) h]; rfl
theorem LX (c : jr) (l : List kz) (h : ∃ x ∈ l, x.Signed.jr = c) : ∃ (i : Nat) (x : kz), mL l (fun y => oY y c) = some (i : Int) ∧ lE l (i : Int) = some x ∧ l.set i ⟨x.Signed, ux⟩ = yr c l := by
 unfold mL
 rw [CE]
 rcases za (fun y => oY y c) (fun y => kh y.Signed.jr c) l 0 (fun x _ => rfl) with ⟨e, h1⟩ | ⟨A, x, B, hp, h1, a, e⟩
 ·obtain ⟨x, b, rfl⟩ := h
  have := h1 x b
  rw [mz.2 rfl] at this; cases this
 ·rw [fe] at e
  refine ⟨A.length, x, e, by rw [hp]; exact mJ A x B _ rfl, ?_⟩
  rw [hp, HH c A x B h1 a, gQ _ _ (aY _)]
  simp
theorem PY (P : nf) (c : jr) (m : P.Client.jH.length ≤ 600000) (h : zu P.Client c) : pQ P 1 c = some (⟨P.js, ⟨P.Client.Name, yr c P.Client.jH, P.Client.ke⟩, P.Formula, P.sI, P.mG, P.nD, P.pP, P.ow, P.Keys⟩, true) := by
 obtain ⟨i, x, a, b, d⟩ := LX c P.Client.jH h
 unfold pQ
 have g : ¬ ((1 : Int) < 0) := by omega
 have j : ¬ ((1 : Int) ≥ 2) := by omega
 have l : ((1 : Int) == 0) = false := rfl
 simp only [g, j, l, cD, aC, aK, aA, aW, aT]
 rw [a, aA]
 have k : ¬ ((i : Int) < 0) := by omega
 simp only [k, cD, aC, aK]
 unfold pD
 rw [mA (by simp; omega) (by simp; omega)]
 simp only [aA, aZ]
 rw [b, aA, dJ]
 rw [show (⟨x.Signed, (⟨2, 0, (⟨zS, zS⟩ : jq), []⟩ : Formula)⟩ : kz) = ⟨x.Signed, ux⟩ from rfl, d]
 have eta : (⟨P.Formula.Op, P.Formula.K, P.Formula.jq, P.Formula.Kids⟩ : Formula) = P.Formula := by cases P.Formula; rfl
 rw [eta]
theorem NF (P : nf) (c : jr) (h : ¬ zu P.js c) : pQ P 0 c = some (P, false) := by
 unfold pQ mL
 have b : ¬ ((0 : Int) < 0) := by omega
 have d : ¬ ((0 : Int) ≥ 2) := by omega
 simp only [b, d, cD, aC, aK, aA, aW, aT]
 rw [CE]
 rcases za (fun y => oY y c) (fun y => kh y.Signed.jr c) P.js.jH 0 (fun x _ => rfl) with ⟨e, h1⟩ | ⟨A, x, B, hp, h1, a, e⟩
 ·rw [e]; rfl
 ·exact absurd ⟨x, by rw [hp]; simp, mz.1 a⟩ h
def KU (l : List kz) (d : jr) : Option Formula := (l.find? fun x => kh x.Signed.jr d).map (·.jx)
theorem My (n : ByteArray) (l : List kz) (k : List oe) (c : jr) : zu ⟨n, l, k⟩ c ↔ c ∈ l.map (·.Signed.jr) := by
 unfold zu; rw [bL]
theorem Dy (n : ByteArray) (l : List kz) (c : jr) : oT ⟨n, l, []⟩ c = match KU l c with | none => (EU, 42) | some r => zX r [] := by
 unfold oT zk KU yk
 simp only
 cases l.find? (fun x => kh x.Signed.jr c) <;> rfl
theorem OP : zX ux [] = (ux, 0) := by
 have h1 : nl ux = true := by decide +kernel
 have d : oS ux = ux := by
  rw [yc]
  have a : ¬ (ux.Op = 1) := by decide
  have b : ¬ (ux.Op = 4) := by decide
  simp only [a, b, aK]
  rw [show ux.Kids = [] from rfl, shapeL]
  unfold oO
  rw [nK]
  rfl
 have g : wc ux = (ux, 0) := by unfold wc; rw [h1, d, h1]; rfl
 unfold zX
 rw [g, oM]; rfl
structure PP (p : nf) : Prop where
 o : PG p.js
 c : PG p.Client
 lo : p.js.jH.length ≤ 600000
 lc : p.Client.jH.length ≤ 600000
 f : kv p.Formula ≤ 10000000
end Go.Proofs.YtmlncblocfcmiaaGreat
namespace Go.Proofs.YtmlncblocfcmiaaGreat
open Go.RowKit
def KK : ByteArray := ⟨#[111, 119, 110]⟩
def KX : ByteArray := ⟨#[99, 108, 105]⟩
def sY : jq := ⟨⟨#[120]⟩, ⟨#[121]⟩⟩
def sZ : jq := ⟨⟨#[120]⟩, ⟨#[122]⟩⟩
def sc : jr := ⟨1, sY, KX, ⟨zS, zS⟩, ⟨zS, zS⟩, zS⟩
def sd : jr := ⟨1, sZ, KK, ⟨zS, zS⟩, ⟨zS, zS⟩, zS⟩
def ol (r : jq) : Formula := ⟨1, 0, r, []⟩
def wD (c : jr) (f : Formula) : kz := ⟨⟨c, List.replicate 8 0⟩, f⟩
def sO : kI := ⟨KK, [wD sd (ol sY)], []⟩
def sC (f : Formula) : kI := ⟨KX, [wD sc f], []⟩
theorem J5 : lC sc = true := by decide +kernel
theorem LH : lC sd = true := by decide +kernel
theorem R3 : sc ≠ sd := fun h => absurd (bN (fun c => c.ky.data.toList) h) (by decide)
theorem J9 (v : jq → Bool) (r : jq) : pt v (ol r) = v r := by rw [vv]; rfl
theorem JX {r : jq} (h : nl (ol r) = true) : zX (ol r) [] = (ol r, 0) := by
 have a : wc (ol r) = (ol r, 0) := by unfold wc; rw [h, QH rfl, h]; rfl
 unfold zX
 rw [a, oM]; rfl
theorem G1 (c d : jr) (f : Formula) : KU [wD c f] d = if kh c d then some f else none := by
 unfold KU
 rw [fP, show (wD c f).Signed.jr = c from rfl]
 cases kh c d <;> rfl
theorem Bf {n : ByteArray} {c d : jr} {f : Formula} : zu ⟨n, [wD c f], []⟩ d ↔ d = c := by
 rw [My]; show d ∈ [c] ↔ _; simp
theorem DO {n : ByteArray} {c : jr} {r : jq} (a : nl (ol r) = true) (b : lC c = true) (l : List jr) (peer : ByteArray) (d : jr) : nN ⟨n, [wD c (ol r)], []⟩ l peer d ↔ d = c ∧ vD l peer r = true := by
 unfold nN
 rw [Bf]
 constructor
 ·rintro ⟨rfl, _, h⟩
  refine ⟨rfl, ?_⟩
  unfold Jj at h
  rw [Dy, G1, bD (mz.2 rfl)] at h
  simp only [JX a] at h
  unfold zl at h
  rw [a, J9, ej] at h
  exact h
 ·rintro ⟨rfl, h⟩
  refine ⟨rfl, b, ?_⟩
  unfold Jj
  rw [Dy, G1, bD (mz.2 rfl)]
  simp only [JX a]
  unfold zl
  rw [a, J9, ej]
  exact h
theorem N0 {n : ByteArray} {c : jr} (a : lC c = true) (l : List jr) (peer : ByteArray) (d : jr) : nN ⟨n, [wD c ux], []⟩ l peer d ↔ d = c := by
 unfold nN
 rw [Bf]
 constructor
 ·exact fun h => h.1
 ·rintro rfl
  refine ⟨rfl, a, ?_⟩
  unfold Jj
  rw [Dy, G1, bD (mz.2 rfl)]
  simp only [OP]
  unfold zl
  rw [show nl ux = true by decide +kernel, vv]
  rfl
theorem IC {c : jr} (a : lC c = true) (hk : c.Kind = 1) {l : List jr} (h : c ∈ l) : vD l c.ky c.Head = true := by
 rw [Gw]
 exact .mem c (cM.2 ⟨h, a⟩) hk
theorem MI (peer : ByteArray) (r : jq) : vD [] peer r = false := by
 rw [← fL, Gw]
 intro h
 obtain ⟨c, a, _⟩ := h.head
 cases a
theorem F0 {n : ByteArray} {c : jr} {f : Formula} (h : kv f ≤ 10000000) : PB ⟨n, [wD c f], []⟩ where
 FQ := by simp
 Ly := by simp
 rel := fun x a => by obtain rfl := bX.1 a; exact h
 KQ := fun x a => by cases a
 Rk := fun x a => by cases a
theorem Hm {c : jr} (a : lC c = true) : nI [c] := ⟨by simp, fun x b => by obtain rfl := bX.1 b; exact a⟩
theorem LP {s : List jr} {c : jr} (d : nI s) (h1 : ∀ x ∈ s, x = c) (a : c ∈ s) (b : lC c = true) : s = [c] :=
 d.ext (Hm b) (fun x => by
  rw [bX]
  exact ⟨h1 x, fun e => by rw [e]; exact a⟩)
theorem LN : nl (ol sY) = true := by decide +kernel
theorem Qx : nl (ol sZ) = true := by decide +kernel
def sP (f : Formula) : nf := ⟨sO, sC f, ⟨0, 0, ⟨zS, zS⟩, []⟩, 0, ⟨0, 0⟩, 0, 0, 0, []⟩
theorem QA : pc (sP (ol sZ)) = some ([sd], [sc]) ∧ qS (sP (ol sZ)) = some ([sd], [sc]) := by
 obtain ⟨a, b, x, y, j, m, h, s, p, n⟩ := Cq (sP (ol sZ)) (F0 (by decide +kernel)) (F0 (by decide +kernel)) (by simp [sP, sO]) (by simp [sP, sC])
 have k : ∀ l peer d, nN sO l peer d ↔ d = sd ∧ vD l peer sY = true := fun l peer d => DO LN LH l peer d
 have i : ∀ l peer d, nN (sC (ol sZ)) l peer d ↔ d = sc ∧ vD l peer sZ = true := fun l peer d => DO Qx J5 l peer d
 have v1 : vD [sc] KX sY = true := IC J5 rfl (by simp)
 have v2 : vD [sd] KK sZ = true := IC LH rfl (by simp)
 obtain ⟨m1, m2⟩ := h.yO [sd] [sc] (Hm LH) (Hm J5)
  (fun c g => by obtain rfl := bX.1 g; exact (k _ _ _).2 ⟨rfl, v1⟩)
  (fun c g => by obtain rfl := bX.1 g; exact (i _ _ _).2 ⟨rfl, v2⟩)
 obtain rfl : a = [sd] := LP h.sa (fun c g => ((k _ _ _).1 (h.fa c g)).1) (m1 sd (by simp)) LH
 obtain rfl : b = [sc] := LP h.sb (fun c g => ((i _ _ _).1 (h.fb c g)).1) (m2 sc (by simp)) J5
 obtain ⟨q, r⟩ := p.least [] [] (fun c g => by have := ((k _ _ _).1 g).2; rw [MI] at this; cases this) (fun c g => by have := ((i _ _ _).1 g).2; rw [MI] at this; cases this)
 obtain rfl : x = [] := gV.2 (fun c g => by have := q c g; cases this)
 obtain rfl : y = [] := gV.2 (fun c g => by have := r c g; cases this)
 exact ⟨m, n⟩
theorem Qo : pC (sP ux) = some true := by
 obtain ⟨a, b, x, y, j, s, m, t, k, p⟩ := Cq (sP ux) (F0 (by decide +kernel)) (F0 (by decide +kernel)) (by simp [sP, sO]) (by simp [sP, sC])
 have i : ∀ l peer d, nN sO l peer d ↔ d = sd ∧ vD l peer sY = true := fun l peer d => DO LN LH l peer d
 have h : ∀ l peer d, nN (sC ux) l peer d ↔ d = sc := fun l peer d => N0 J5 l peer d
 have n : sc ∈ y := (k.fy sc).2 ((h _ _ _).2 rfl)
 have r : sd ∈ x := (k.fx sd).2 ((i _ _ _).2 ⟨rfl, IC J5 rfl n⟩)
 have h1 : a.filter (fun c => !mr kh x c) = [] := by
  rw [fO]
  intro c g
  rw [((i _ _ _).1 (m.fa c g)).1, (sD mz x sd).2 r]; simp
 have q : b.filter (fun c => !mr kh y c) = [] := by
  rw [fO]
  intro c g
  rw [(h _ _ _).1 (m.fb c g), (sD mz y sc).2 n]; simp
 unfold pC
 rw [p, aA, h1, q]
 rfl
theorem OL : vp = some true := by
 have d : Dv 1 (0 : Int) 8 = some (List.replicate 8 0) := by unfold Dv; rw [bD (by decide)]; rfl
 obtain ⟨c1, c2⟩ := QA
 have f1 : pC (sP (ol sZ)) = some false := by
  unfold pC
  rw [c2]; rfl
 have k : pQ (sP (ol sZ)) 1 sc = some (sP ux, true) := by
  rw [PY (sP (ol sZ)) sc (by simp [sP, sC]) (by exact Bf.2 rfl)]
  have : yr sc (sP (ol sZ)).Client.jH = [wD sc ux] := by
   show yr sc [wD sc (ol sZ)] = _
   rw [yr, show (wD sc (ol sZ)).Signed.jr = sc from rfl, mz.2 rfl]; rfl
  rw [this]; rfl
 have j : pQ (sP (ol sZ)) 0 sc = some (sP (ol sZ), false) := NF _ _ (fun h => R3 (Bf.1 h))
 have f2 := Qo
 have hp : sP (ol sZ) = ⟨⟨KK, [wD sd (ol sY)], []⟩, ⟨KX, [wD sc (ol sZ)], []⟩, ⟨0, 0, ⟨zS, zS⟩, []⟩, 0, ⟨0, 0⟩, 0, 0, 0, []⟩ := rfl
 have g : ou sd sY = some [wD sd (ol sY)] := by unfold ou; rw [d]; rfl
 have i : ou sc sZ = some [wD sc (ol sZ)] := by unfold ou; rw [d]; rfl
 unfold vp
 have a : ou (⟨1, (⟨(⟨#[120]⟩ : ByteArray), (⟨#[122]⟩ : ByteArray)⟩ : jq), (⟨#[111, 119, 110]⟩ : ByteArray), (⟨zS, zS⟩ : jq), (⟨zS, zS⟩ : jq), zS⟩ : jr) (⟨(⟨#[120]⟩ : ByteArray), (⟨#[121]⟩ : ByteArray)⟩ : jq) = _ := g
 have b : ou (⟨1, (⟨(⟨#[120]⟩ : ByteArray), (⟨#[121]⟩ : ByteArray)⟩ : jq), (⟨#[99, 108, 105]⟩ : ByteArray), (⟨zS, zS⟩ : jq), (⟨zS, zS⟩ : jq), zS⟩ : jr) (⟨(⟨#[120]⟩ : ByteArray), (⟨#[122]⟩ : ByteArray)⟩ : jq) = _ := i
 rw [a, aA, b, aA, aA]
 simp only
 rw [show (⟨⟨(⟨#[111, 119, 110]⟩ : ByteArray), [wD sd (ol sY)], []⟩, ⟨(⟨#[99, 108, 105]⟩ : ByteArray), [wD sc (ol sZ)], []⟩, ⟨0, 0, (⟨zS, zS⟩ : jq), []⟩, 0, (⟨0, 0⟩ : ye), 0, 0, 0, []⟩ : nf) = sP (ol sZ) from rfl]
 rw [c2, aA, c1, aA]
 rw [show (⟨1, (⟨(⟨#[120]⟩ : ByteArray), (⟨#[121]⟩ : ByteArray)⟩ : jq), (⟨#[99, 108, 105]⟩ : ByteArray), (⟨zS, zS⟩ : jq), (⟨zS, zS⟩ : jq), zS⟩ : jr) = sc from rfl, k, aA, j, aA, f1]
 simp only [aO, bW, aA]
 rw [f2]
 rfl
end Go.Proofs.YtmlncblocfcmiaaGreat
namespace Go.Proofs.YtmlncblocfcmiaaGreat
open Go.RowKit
theorem PZ : ∀ (n : Nat) (f : Formula), nG f ≤ n → Gd f → qU n f = some (kv f : Int) := by
 intro n
 induction n with
 | zero => intro f h; rw [mE] at h; omega
 | succ n ih =>
  intro f d g
  rw [mE] at d
  have a := nP f
  unfold Gd at g
  rw [qU]
  unfold wA
  have key : ∀ (ks : List Formula) (x : Nat), (∀ k ∈ ks, k ∈ f.Kids) → x + nodesL ks ≤ 50000000 → rq (qU n) ks (x : Int) = some ((x + nodesL ks : Nat) : Int) := by
   intro ks
   induction ks with
   | nil => intro x _ _; rw [rq, nodesL]; rfl
   | cons k ks b =>
    intro x hk i
    rw [nodesL] at i
    rw [rq, ih k (by have := qw (hk k (by simp)); omega) (by have := tb (hk k (by simp)); unfold Gd; omega), aA]
    have w : IntKind.i64.wrap ((x : Int) + (kv k : Int)) = ((x + kv k : Nat) : Int) := by rw [kG (by omega) (by omega)]; omega
    rw [w, b _ (fun z j => hk z (by simp [j])) (by omega), nodesL]
    congr 2; omega
  have := key f.Kids 1 (fun k hk => hk) (by omega)
  rw [a]
  exact this
theorem Re : ∀ (n : Nat) (f : Formula), nG f ≤ n → Gd f → rK n f = some (nG f : Int) := by
 intro n
 induction n with
 | zero => intro f h; rw [mE] at h; omega
 | succ n ih =>
  intro f d g
  rw [mE] at d ⊢
  have i := nP f
  have hle := wL f
  rw [mE] at hle
  unfold Gd at g
  rw [rK]
  unfold xh
  have key : ∀ (ks : List Formula) (x : Nat), (∀ k ∈ ks, k ∈ f.Kids) → max x (deepL ks) ≤ 50000000 → sh (rK n) ks (x : Int) = some ((max x (deepL ks) + 1 : Nat) : Int) := by
   intro ks
   induction ks with
   | nil =>
    intro x _ a
    rw [deepL] at a
    rw [sh, deepL, kG (by omega) (by omega)]
    congr 1; omega
   | cons k ks b =>
    intro x hk a
    rw [deepL] at a
    rw [sh, ih k (by have := qw (hk k (by simp)); omega) (by have := tb (hk k (by simp)); unfold Gd; omega), aA]
    have w : (if (nG k : Int) > (x : Int) then (nG k : Int) else (x : Int)) = ((max x (nG k) : Nat) : Int) := by split <;> omega
    rw [w, b _ (fun z j => hk z (by simp [j])) (by omega), deepL]
    congr 2; omega
  have := key f.Kids 0 (fun k hk => hk) (by omega)
  rw [Nat.zero_max] at this
  exact this
theorem QO : ∀ (n : Nat) (f : Formula), nG f ≤ n → rW n f = some (sV f) := by
 intro n
 induction n with
 | zero => intro f h; rw [mE] at h; omega
 | succ n ih =>
  intro f h
  rw [mE] at h
  have key : ∀ ks : List Formula, (∀ k ∈ ks, k ∈ f.Kids) → rY (rW n) ks = some (wellL ks) := by
   intro ks
   induction ks with
   | nil => intro _; rw [rY, wellL]
   | cons k ks p =>
    intro hk
    rw [rY, ih k (by have := qw (hk k (by simp)); omega), aA, p (fun z r => hk z (by simp [r])), wellL]
    cases sV k <;> rfl
  have hk := key f.Kids (fun k hk => hk)
  rw [rW]
  unfold xf
  rw [hk, Fb, AQ]
  unfold CL
  simp only [aA]
  by_cases c1 : f.Op = 1
  ·simp only [c1, aW, aT]
   cases s : lV f.jq
   ·simp
   ·by_cases b : f.Kids.length = 0
    ·have e : f.Kids = [] := aU b
     by_cases m : f.K = 0 <;> simp [e, m, wellL]
    ·have : ((f.Kids.length : Int) == 0) = false := by rw [eY]; omega
     simp [this, b]
  ·have q : (f.Op == 1) = false := by simpa using c1
   simp only [q, aC, aK, c1]
   by_cases i : f.Op = 2 ∨ f.Op = 3
   ·have j : ¬ f.Op < 1 := by omega
    have a2 : ¬ f.Op > 4 := by omega
    have a3 : f.Op < 4 := by omega
    have a4 : (f.Op == 4) = false := by rw [eY]; omega
    simp only [j, a2, a3, a4, i, cD, cA, aC, aK, aT, aA]
    cases g : jP f.jq ⟨zS, zS⟩
    ·simp [pu, g]
    ·by_cases b : f.Kids.length ≤ 8
     ·have d : ¬ ((f.Kids.length : Int) > 8) := by omega
      by_cases m : f.K = 0 <;> simp [pu, g, b, d, m]
     ·have d : ((f.Kids.length : Int) > 8) := by omega
      simp [pu, g, b, d]
   ·by_cases l : f.Op = 4
    ·have j : ¬ f.Op < 1 := by omega
     have a2 : ¬ f.Op > 4 := by omega
     have a3 : ¬ f.Op < 4 := by omega
     simp only [j, a2, a3, i, cD, aC, aK, aA]
     simp only [l, aW, aT, cA, ej]
     cases g : jP f.jq ⟨zS, zS⟩
     ·simp [pu, g]
     ·by_cases b : f.Kids.length ≤ 8
      ·have d : ¬ ((f.Kids.length : Int) > 8) := by omega
       by_cases d1 : 1 ≤ f.Kids.length
       ·have g1 : ¬ ((f.Kids.length : Int) < 1) := by omega
        by_cases d2 : 0 ≤ f.K
        ·have g2 : ¬ f.K < 0 := by omega
         by_cases d3 : f.K ≤ (f.Kids.length : Int)
         ·have g3 : ¬ f.K > (f.Kids.length : Int) := by omega
          simp [pu, g, b, d, d1, g1, d2, g2, d3, g3]
         ·have g3 : f.K > (f.Kids.length : Int) := by omega
          simp [pu, g, b, d, d1, g1, d2, g2, d3, g3]
        ·have g2 : f.K < 0 := by omega
         simp [pu, g, b, d, d1, g1, d2, g2]
       ·have g1 : ((f.Kids.length : Int) < 1) := by omega
        simp [pu, g, b, d, d1, g1]
      ·have d : ((f.Kids.length : Int) > 8) := by omega
       simp [pu, g, b, d]
    ·have a : f.Op < 1 ∨ f.Op > 4 := by omega
     rcases a with a | a
     ·simp [a, i, l]
     ·have : ¬ f.Op < 1 := by omega
      simp [a, this, i, l]
theorem IW (f : Formula) (h : Gd f) : qT f = some (nl f) := by
 have b := wL f
 have a := h
 unfold Gd at a
 unfold qT nl
 rw [PZ jY f (by rw [mc]; omega) h, Re jY f (by rw [mc]; omega) h, QO jY f (by rw [mc]; omega)]
 simp only [aA]
 by_cases c1 : kv f ≤ 64
 ·have d1 : ((kv f : Int) ≤ 64) := by omega
  by_cases c2 : nG f ≤ 6
  ·have d2 : ((nG f : Int) ≤ 6) := by omega
   simp [c1, c2, d1, d2]
  ·have d2 : ¬ ((nG f : Int) ≤ 6) := by omega
   simp [c1, c2, d1, d2]
 ·have d1 : ¬ ((kv f : Int) ≤ 64) := by omega
  simp [c1, d1]
end Go.Proofs.YtmlncblocfcmiaaGreat
namespace Go.Proofs.YtmlncblocfcmiaaGreat
open Go.RowKit
theorem MF {f : Formula} (hw : sV f = true) (a : kv f ≤ 200) : (yl f).length ≤ 40 * kv f := (MO (nG f) f (aY _) hw [] (by simp; omega)).2
theorem QI : ∀ (n : Nat) (f : Formula), nG f ≤ n → sV f = true → kv f ≤ 64 → pd n f = some (vV (yl f)) := by
 intro n
 induction n with
 | zero => intro f h; rw [mE] at h; omega
 | succ n ih =>
  intro f s hw x
  rw [mE] at s
  have u := nP f
  obtain ⟨h1, m, g⟩ := xn hw
  have b : 0 ≤ f.Op ∧ f.Op < 128 := by rcases g with h | h | h <;> omega
  have hlen : 0 ≤ (f.Kids.length : Int) ∧ (f.Kids.length : Int) < 128 := by omega
  have key : ∀ (ks : List Formula) (l : List Int), (∀ k ∈ ks, k ∈ f.Kids) → wellL ks = true → l.length + 40 * nodesL ks ≤ 8000 → nodesL ks ≤ 64 → rn (pd n) ks (vV l) = some (vV (l ++ bytesFL ks)) := by
   intro ks
   induction ks with
   | nil => intro l _ _ _ _; rw [rn, bytesFL, bH]
   | cons k ks j =>
    intro l hk a t i
    rw [wellL, bF] at a
    rw [nodesL] at t i
    have w := MF a.1 (by omega)
    rw [rn, ih k (by have := qw (hk k (by simp)); omega) a.1 (by omega), aA, rh _ _ (by omega), aA,
     j _ (fun z v => hk z (by simp [v])) a.2 (by simp; omega) (by omega), bytesFL, aP]
  rw [pd]
  unfold wB
  rw [xZ b.1 b.2, aA, Hr]
  by_cases c1 : f.Op = 1
  ·have p : lV f.jq = true := by rcases g with h | h | h; exact h.2.1; omega; omega
   have := oy p
   simp only [c1, aW, aT]
   rw [Av p, aA, rh _ _ (by simp; omega)]
   rfl
  ·have q : (f.Op == 1) = false := by simpa using c1
   simp only [q, aC, aK, c1]
   by_cases d : f.Op = 4
   ·have hk : 0 ≤ f.K ∧ f.K < 128 := by rcases g with h | h | h <;> omega
    simp only [d, aW, aT]
    rw [xZ hk.1 hk.2, aA, rh _ _ (by simp), aA, aA, xZ hlen.1 hlen.2, aA, rh _ _ (by simp), aA,
     key f.Kids _ (fun k hk => hk) m (by simp; omega) (by omega)]
    simp
   ·have r : (f.Op == 4) = false := by simpa using d
    simp only [r, aC, aK, d, aA]
    rw [xZ hlen.1 hlen.2, aA, rh _ _ (by simp), aA, key f.Kids _ (fun k hk => hk) m (by simp; omega) (by omega)]
    simp
theorem Rh (f : Formula) (h : Gd f) : ((qT f).bind fun r => if r then (pd jY f).bind fun a => some a else some zS) = some (vV (xY f)) := by
 rw [IW f h, aA]
 unfold xY
 cases d : nl f
 ·rfl
 ·obtain ⟨h1, g, b⟩ := yM d
  simp only [aT]
  rw [QI jY f (by rw [mc]; omega) b h1, nA]
theorem Jq (f g : Formula) (i : Gd f) (j : Gd g) : ∃ c : Int, vW f g = some c ∧ (c > 0 ↔ nq AV g f = true) := by
 unfold vW
 rw [Rh f i, aA, Rh g j, aA, xV, ur, ur, As]
 rcases AP (tS (xY f)) (tS (xY g)) with h | h | h
 ·rw [bD h]
  refine ⟨-1, rfl, iff_of_false (by omega) (fun a => ?_)⟩
  have := xS _ _ _ h a
  rw [uS] at this; cases this
 ·have e : kQ (vV (xY f)) (vV (xY g)) = true := lZ.2 (zy (by rw [ur, ur, h]))
  rw [h, uS, e]
  exact ⟨0, rfl, iff_of_false (by omega) (by simp)⟩
 ·have e : Op.bytesLess (tS (xY f)) (tS (xY g)) = false := by
   rw [← fL]
   intro a
   have := xS _ _ _ h a
   rw [uS] at this; cases this
  have d : kQ (vV (xY f)) (vV (xY g)) = false := by
   rw [← fL, lZ]
   intro a
   have b := bN (fun s : ByteArray => s.data.toList) a
   simp only [ur] at b
   rw [b, uS] at h; cases h
  rw [e, d]
  exact ⟨1, rfl, iff_of_true (by omega) h⟩
theorem Q3 : ∀ (n : Nat) (f : Formula), nG f ≤ n → ∀ g, ∃ b, qu n f g = some b ∧ (b = true ↔ f = g) := by
 intro n
 induction n with
 | zero => intro f h; rw [mE] at h; omega
 | succ n ih =>
  intro f h g
  rw [mE] at h
  have key : ∀ (l m A : List Formula), (∀ x ∈ l, x ∈ f.Kids) → g.Kids = A ++ m → l.length = m.length → ∃ b, sm g (qu n) l A.length = some b ∧ (b = true ↔ l = m) := by
   intro l
   induction l with
   | nil =>
    intro m A _ _ a
    obtain rfl := aU a.symm
    exact ⟨true, by rw [sm], by simp⟩
   | cons x l r =>
    intro m A q t a
    match m, a with
    | y :: m, a =>
     obtain ⟨b, e, p⟩ := ih x (by have := qw (q x (by simp)); omega) y
     rw [sm, t, mJ A y m _ rfl, aA, e, aA]
     cases b with
     | false =>
      refine ⟨false, rfl, ?_⟩
      have : x ≠ y := fun i => by have := p.2 i; simp at this
      simp [this]
     | true =>
      have i := p.1 rfl
      obtain ⟨b, s, d⟩ := r m (A ++ [y]) (fun z u => q z (by simp [u])) (by rw [t]; simp) (by simpa using a)
      rw [aF, List.length_singleton] at s
      simp only [cK, aC, aK]
      rw [s]
      exact ⟨b, rfl, by rw [d]; simp [i]⟩
  rw [qu]
  unfold xe
  by_cases h1 : f.Op = g.Op
  ·by_cases d : f.K = g.K
   ·by_cases j : f.jq = g.jq
    ·have k : jP f.jq g.jq = true := jQ.2 j
     by_cases a : f.Kids.length = g.Kids.length
     ·obtain ⟨b, e, p⟩ := key f.Kids g.Kids [] (fun x q => q) rfl a
      rw [bW] at e
      refine ⟨b, ?_, p.trans ⟨fun hk => Formula.ext' h1 d j hk, fun hk => by rw [hk]⟩⟩
      simp [h1, d, k, a, e]
     ·refine ⟨false, ?_, by simp; intro hk; rw [hk] at a; exact a rfl⟩
      have : ((f.Kids.length : Int) != (g.Kids.length : Int)) = true := by simp; omega
      simp [h1, d, k, this]
    ·have k : jP f.jq g.jq = false := by rw [← fL, jQ]; exact j
     exact ⟨false, by simp [h1, d, k], by simp; intro hk; rw [hk] at j; exact j rfl⟩
   ·exact ⟨false, by simp [h1, d], by simp; intro hk; rw [hk] at d; exact d rfl⟩
  ·exact ⟨false, by simp [h1], by simp; intro hk; rw [hk] at h1; exact h1 rfl⟩
theorem NQ (a b : Formula) (h : Gd a) : qu jY a b = some (pR a b) := by
 have := wL a
 unfold Gd at h
 obtain ⟨x, e, d⟩ := Q3 jY a (by rw [mc]; omega) b
 rw [e]; congr 1
 rw [bU, d, Ar]
end Go.Proofs.YtmlncblocfcmiaaGreat
namespace Go.Proofs.YtmlncblocfcmiaaGreat
open Go.RowKit
section
variable {α : Type} {lt : α → α → Bool}
def Kw (lt : α → α → Bool) (l : List α) : Prop := l.Pairwise fun x y => lt y x = false
theorem DI (h : SWO lt) (k : α) : ∀ {l : List α}, Kw lt l → ∃ A B, l = A ++ B ∧ (∀ x ∈ A, lt k x = false) ∧ (∀ x ∈ B, lt k x = true)
 | [], _ => ⟨[], [], rfl, by simp, by simp⟩
 | x :: l, i => by
  obtain ⟨h1, b⟩ := cI.1 i
  cases e : lt k x with
  | true =>
   refine ⟨[], x :: l, rfl, by simp, fun y a => ?_⟩
   rcases aR.1 a with rfl | a
   ·exact e
   ·rcases h.Mn _ y _ e with q | q
    ·exact q
    ·rw [h1 y a] at q; cases q
  | false =>
   obtain ⟨A, B, rfl, d, g⟩ := DI h k b
   exact ⟨x :: A, B, rfl, fun y a => by
    rcases aR.1 a with rfl | a
    ·exact e
    ·exact d y a, g⟩
theorem FL {k : α} {A B : List α} (b : ∀ x ∈ A, lt k x = false) (d : ∀ x ∈ B, lt k x = true) : Ax lt (A ++ B) k = A ++ k :: B := by
 unfold Ax
 rw [iE, iE]
 rw [gn.2 (fun x a => by rw [b x a]; rfl), fO.2 (fun x a => by rw [d x a]; simp), fO.2 (fun x a => by rw [b x a]; simp), gn.2 (fun x a => d x a)]
 simp
theorem Kv (h : SWO lt) {k : α} {A B : List α} (g : Kw lt (A ++ B)) (i : ∀ x ∈ A, lt k x = false) (j : ∀ x ∈ B, lt k x = true) : Kw lt (A ++ k :: B) := by
 unfold Kw at *
 rw [cV] at *
 refine ⟨g.1, cI.2 ⟨fun x l => h.asym (j x l), g.2.1⟩, fun a ha b d => ?_⟩
 rcases aR.1 d with rfl | d
 ·exact i a ha
 ·exact g.2.2 a ha b d
variable {eq : α → α → Bool}
theorem Hx (he : ∀ x y, eq x y = true ↔ x = y) (k : α) : ∀ (l : List α) (p : α), mP eq p (l ++ [k]) = if eq k ((l.getLast?).getD p) then mP eq p l else mP eq p l ++ [k]
 | [], p => by
  rw [aZ, mP, mP]
  rfl
 | y :: l, p => by
  have e : ((y :: l).getLast?).getD p = (l.getLast?).getD y := by cases l <;> rfl
  rw [bR, mP, mP, Hx he k l y, e]
  by_cases h1 : eq y p = true
  ·rw [bD h1, bD h1]
  ·rw [bI h1, bI h1]
   split <;> rfl
def zi (eq : α → α → Bool) (l : List α) (k : α) : Bool := match l.getLast? with | some y => eq y k | none => false
theorem MG (x : α) (l : List α) : (x :: l).getLast? = some ((l.getLast?).getD x) := by cases l <;> rfl
theorem Pe (he : ∀ x y, eq x y = true ↔ x = y) (k : α) (l : List α) : dd eq (l ++ [k]) = if zi eq l k then dd eq l else dd eq l ++ [k] := by
 cases l with
 | nil => rfl
 | cons x l =>
  have a : dd eq ((x :: l) ++ [k]) = x :: mP eq x (l ++ [k]) := rfl
  have b : dd eq (x :: l) = x :: mP eq x l := rfl
  unfold zi
  rw [a, b, Hx he, MG]
  simp only
  by_cases h : (l.getLast?).getD x = k
  ·rw [h, bD ((he k k).2 rfl), bD ((he k k).2 rfl)]
  ·rw [bI (fun q => h ((he _ _).1 q).symm), bI (fun q => h ((he _ _).1 q))]; rfl
theorem Jv (he : ∀ x y, eq x y = true ↔ x = y) (y : α) (B : List α) : ∀ (l : List α) (p : α), y ≠ (l.getLast?).getD p → mP eq p (l ++ y :: B) = mP eq p l ++ y :: mP eq y B
 | [], p, h => by
  have h : y ≠ p := h
  rw [aZ]
  have e : mP eq p (y :: B) = if eq y p then mP eq y B else y :: mP eq y B := rfl
  rw [e, bI (fun q => h ((he _ _).1 q))]; rfl
 | z :: l, p, h => by
  have e : ((z :: l).getLast?).getD p = (l.getLast?).getD z := by cases l <;> rfl
  rw [e] at h
  rw [bR, mP, mP, Jv he y B l z h]
  split <;> rfl
theorem LR (he : ∀ x y, eq x y = true ↔ x = y) (A : List α) : ∀ B : List α, (∀ y, B.head? = some y → A.getLast? ≠ some y) → dd eq (A ++ B) = dd eq A ++ dd eq B
 | [], _ => by rw [bH]; show _ = dd eq A ++ []; rw [bH]
 | y :: B, h => by
  have h := h y rfl
  cases A with
  | nil => rfl
  | cons x A =>
   have e : (x :: A).getLast? = some ((A.getLast?).getD x) := by cases A <;> rfl
   rw [e] at h
   rw [bR, dd, dd, dd, Jv he y B A x (fun q => h (by rw [q]))]; rfl
theorem HQ (he : ∀ x y, eq x y = true ↔ x = y) : ∀ (l : List α) (p : α), ((mP eq p l).getLast?).getD p = (l.getLast?).getD p
 | [], p => by rw [mP]
 | y :: l, p => by
  have e : ((y :: l).getLast?).getD p = (l.getLast?).getD y := by cases l <;> rfl
  rw [mP, e, ← HQ he l y]
  by_cases h : eq y p = true
  ·rw [bD h, (he _ _).1 h]
  ·rw [bI h]
   cases mP eq y l <;> rfl
theorem O9 (he : ∀ x y, eq x y = true ↔ x = y) (l : List α) : (dd eq l).getLast? = l.getLast? := by
 cases l with
 | nil => rfl
 | cons x l =>
  have e : ∀ m : List α, (x :: m).getLast? = some ((m.getLast?).getD x) := by intro m; cases m <;> rfl
  rw [dd, e, e, HQ he]
theorem P7 (h : SWO lt) (he : ∀ x y, eq x y = true ↔ x = y) {k : α} {A B : List α} (g : ∀ x ∈ A, lt k x = false) (d : ∀ x ∈ B, lt k x = true) :
  dd eq (A ++ B) = dd eq A ++ dd eq B ∧ dd eq (A ++ k :: B) = (if zi eq A k then dd eq A else dd eq A ++ [k]) ++ dd eq B := by
 have h1 : ∀ y, B.head? = some y → A.getLast? ≠ some y := fun y b a => by
  have := d y (List.mem_of_mem_head? b)
  rw [g y (List.mem_of_getLast? a)] at this; cases this
 refine ⟨LR he A B h1, ?_⟩
 have e : A ++ k :: B = (A ++ [k]) ++ B := by simp
 rw [e, LR he (A ++ [k]) B, Pe he]
 intro y b a
 rw [List.getLast?_append] at a
 simp only [List.getLast?_singleton, Option.some_or, fX] at a
 have := d y (List.mem_of_mem_head? b)
 rw [a, h.Oo] at this; cases this
end
end Go.Proofs.YtmlncblocfcmiaaGreat
namespace Go.Proofs.YtmlncblocfcmiaaGreat
open Go.RowKit
theorem F7 (l : List Formula) (k : Formula) (g : ∀ x ∈ l, Gd x) (hk : Gd k) (A : List Formula) (j : ∀ x ∈ A, nq AV k x = false) : ∀ (m : Nat) (B C : List Formula), B.length = m → l = A ++ B ++ C → (∀ x ∈ B, nq AV k x = true) → l.length ≤ 1000000 → ∀ n, m < n →
  pp l k n ((A.length + B.length : Nat) : Int) = some (A.length : Int)
 | 0, B, C, hm, a, d, hlen, n + 1, r => by
  obtain rfl := aU hm
  rw [pp]
  simp only [bW, gG]
  rcases dD A with rfl | ⟨A', y, rfl⟩
  ·rfl
  ·rw [eo] at *
   have hp : ((A' ++ [y]).length : Int) > 0 := by simp
   simp only [hp, cA, aT]
   have hw : IntKind.i64.wrap (((A' ++ [y]).length : Int) - 1) = (A'.length : Int) := by
    simp at hlen a ⊢
    rw [a] at hlen
    simp at hlen
    rw [kG (by omega) (by omega)]
   rw [hw, show lE l (A'.length : Int) = some y from by rw [a]; simp only [bH, aP]; exact mJ A' y C _ rfl, aA]
   have i : y ∈ l := by rw [a]; simp
   obtain ⟨c, e, h⟩ := Jq y k (g y i) hk
   have b : ¬ c > 0 := fun q => by have := h.1 q; rw [j y (by simp)] at this; cases this
   rw [e, aA]
   simp [b]
 | m + 1, B, C, hm, a, d, hlen, n + 1, r => by
  rcases dD B with rfl | ⟨B', y, rfl⟩
  ·simp at hm
  ·rw [eo] at *
   rw [pp]
   have hp : ((A.length + (B' ++ [y]).length : Nat) : Int) > 0 := by simp; omega
   simp only [hp, cA, aT]
   have hw : IntKind.i64.wrap (((A.length + (B' ++ [y]).length : Nat) : Int) - 1) = ((A.length + B'.length : Nat) : Int) := by
    rw [a] at hlen
    simp at hlen
    rw [kG (by simp; omega) (by simp; omega)]; simp; omega
   have p : lE l ((A.length + B'.length : Nat) : Int) = some y := by
    rw [a]
    have e : A ++ (B' ++ [y]) ++ C = (A ++ B') ++ y :: C := by simp
    rw [e]
    exact mJ (A ++ B') y C _ (by simp)
   rw [hw, p, aA]
   have i : y ∈ l := by rw [a]; simp
   obtain ⟨c, e, h⟩ := Jq y k (g y i) hk
   have b : c > 0 := h.2 (d y (by simp))
   rw [e, aA]
   simp only [b, cA, aA, aT]
   exact F7 l k g hk A j m B' (y :: C) (by simp at hm; omega) (by rw [a]; simp) (fun x s => d x (by simp [s])) hlen n (by omega)
theorem RO {b : Bool} (h : b = true) : rV b = some () := by rw [h]; rfl
theorem EW (a : Bool) (k : Formula) (ks A B : List Formula) (j : ∀ x ∈ A ++ B, Gd x) (hk : Gd k) (l : ∀ x ∈ A, nq AV k x = false) (m : ∀ x ∈ B, nq AV k x = true) (hlen : (A ++ B).length ≤ 1000000) :
  mw a (k :: ks) (A ++ B) = if a && zi pR A k then mw a ks (A ++ B) else mw a ks (A ++ k :: B) := by
 have i := F7 (A ++ B) k j hk A l B.length B [] rfl (by simp) m hlen jY (by rw [mc]; simp at hlen; omega)
 have b : A.length + B.length ≤ 1000000 := by simpa using hlen
 rw [mw, aF, i, aA]
 have rest : ((rV (decide ((0 : Int) ≤ (A.length : Int)) && decide ((A.length : Int) ≤ ((A ++ B).length : Int)))).bind fun _ => (mu 72 ([]) ((A ++ B).take (Int.toNat (A.length : Int)))).bind fun d => (mu 72 d ([k])).bind fun g => (rV (decide ((0 : Int) ≤ (A.length : Int)) && decide ((A.length : Int) ≤ ((A ++ B).length : Int)))).bind fun _ => (mu 72 g ((A ++ B).drop (Int.toNat (A.length : Int)))).bind fun h => mw a ks h) = mw a ks (A ++ k :: B) := by
  rw [RO (by simp; omega), aA, dJ, List.take_left, List.drop_left, mA (by simp; omega) (by simp; omega), aA, mA (by simp; omega) (by simp; omega), aA, aA, mA (by simp; omega) (by simp; omega), aA]
  simp
 rw [aF] at rest
 cases a with
 | false => exact rest
 | true =>
  simp only [aT, aA, ej]
  rcases dD A with rfl | ⟨A', y, rfl⟩
  ·exact rest
  ·rw [eo] at *
   have hp : ((A' ++ [y]).length : Int) > 0 := by simp
   simp only [hp, cA, aT]
   have hw : IntKind.i64.wrap (((A' ++ [y]).length : Int) - 1) = (A'.length : Int) := by
    simp at b ⊢
    rw [kG (by omega) (by omega)]
   have p : lE ((A' ++ [y]) ++ B) (A'.length : Int) = some y := by
    simp only [aP, bR, aZ]
    exact mJ A' y B _ rfl
   rw [hw, p, aA, NQ y k (j y (by simp)), aA, aA]
   have n : zi pR (A' ++ [y]) k = pR y k := by unfold zi; rw [List.getLast?_append]; rfl
   rw [n]
   cases pR y k
   ·simp only [aC, aK]; exact rest
   ·rfl
theorem GI {x : Formula} {l : List Formula} (h : x ∈ dd pR l) : x ∈ l := (I4 (fun _ _ => Ar) l x).1 h
theorem E0 : ∀ (ks S : List Formula), Kw (nq AV) S → (∀ x ∈ S, Gd x) → (∀ x ∈ ks, Gd x) → S.length + ks.length ≤ 1000000 → mw true ks (dd pR S) = some (dd pR (ks.foldl (Ax (nq AV)) S))
 | [], S, _, _, _, _ => by rw [mw]; rfl
 | k :: ks, S, j, g, hk, m => by
  rw [aO] at m
  obtain ⟨A, B, rfl, b, d⟩ := DI GP k j
  obtain ⟨n, p⟩ := P7 (eq := pR) GP (fun _ _ => Ar) b d
  have i := IB pR (A ++ B)
  rw [n] at i ⊢
  rw [EW true k ks (dd pR A) (dd pR B) (fun x a => by
   rcases aV.1 a with h | h
   ·exact g x (by simp [GI h])
   ·exact g x (by simp [GI h])) (hk k (by simp)) (fun x a => b x (GI a)) (fun x a => d x (GI a)) (by omega), gv, FL b d]
  have q : zi pR (dd pR A) k = zi pR A k := by unfold zi; rw [O9 (eq := pR) (fun _ _ => Ar)]
  rw [q, ej]
  have ih := E0 ks (A ++ k :: B) (Kv GP j b d) (fun x a => by
   rcases aV.1 a with h | h
   ·exact g x (by simp [h])
   ·rcases aR.1 h with rfl | h
    ·exact hk _ (by simp)
    ·exact g x (by simp [h])) (fun x a => hk x (by simp [a])) (by simp at m ⊢; omega)
  rw [p] at ih
  cases l : zi pR A k
  ·rw [l] at ih
   simp only [aC, aK] at ih ⊢
   rw [← ih]; simp
  ·rw [l] at ih
   simp only [aT] at ih ⊢
   exact ih
theorem Gu : ∀ (ks S : List Formula), Kw (nq AV) S → (∀ x ∈ S, Gd x) → (∀ x ∈ ks, Gd x) → S.length + ks.length ≤ 1000000 → mw false ks S = some (ks.foldl (Ax (nq AV)) S)
 | [], S, _, _, _, _ => by rw [mw]; rfl
 | k :: ks, S, i, d, hk, j => by
  rw [aO] at j
  obtain ⟨A, B, rfl, a, b⟩ := DI GP k i
  rw [EW false k ks A B d (hk k (by simp)) a b (by omega), gv, FL a b, gi]
  simp only [aC, aK]
  exact Gu ks (A ++ k :: B) (Kv GP i a b) (fun x g => by
   rcases aV.1 g with h | h
   ·exact d x (by simp [h])
   ·rcases aR.1 h with rfl | h
    ·exact hk _ (by simp)
    ·exact d x (by simp [h])) (fun x g => hk x (by simp [g])) (by simp at j ⊢; omega)
theorem QP (l : List Formula) (h : ∀ x ∈ l, Gd x) (a : l.length ≤ 1000000) : uE l true = some (dd pR (uK l)) := E0 l [] List.Pairwise.nil (by simp) h (by simpa using a)
theorem RQ (l : List Formula) (h : ∀ x ∈ l, Gd x) (a : l.length ≤ 1000000) : uE l false = some (uK l) := Gu l [] List.Pairwise.nil (by simp) h (by simpa using a)
end Go.Proofs.YtmlncblocfcmiaaGreat
namespace Go.Proofs.YtmlncblocfcmiaaGreat
open Go.RowKit
theorem Ey (f : Formula) (op : Int) : uO f op = some (lj op f) := CP f op
theorem Ix (op : Int) (a : op = 2 ∨ op = 3) (s : kM) : ∀ l : List Formula, pa op s l = some (if l.any (lj (5 - op)) then .inl (⟨5 - op, 0, pu, []⟩, s) else .inr ())
 | [] => rfl
 | x :: l => by
  have hw : IntKind.i64.wrap (5 - op) = 5 - op := kG (by omega) (by omega)
  rw [pa, hw, Ey, aA, gq, Ix op a s l]
  cases lj (5 - op) x <;> rfl
theorem MJ (op : Int) (a : op = 2 ∨ op = 3) (l : List Formula) (j : nodesL l ≤ 64) : mY op ⟨false⟩ [] l = some (if l.any (lj (5 - op)) then ⟨5 - op, 0, pu, []⟩ else match dd pR (uK l) with | [x] => x | r => ⟨op, 0, pu, r⟩, ⟨false⟩) := by
 have g := pz l
 rw [mY, Ix op a, aA]
 cases h : l.any (lj (5 - op))
 ·simp only [aC, aK]
  rw [QP l (fun x d => by have := tb d; unfold Gd; omega) (by omega), aA]
  have i := IB pR (uK l)
  have hp := (xT l).length_eq
  have b : ¬ (((dd pR (uK l)).length : Int) > 64) := by omega
  simp only [b, cD, aC, aK, aA]
  generalize dd pR (uK l) = r
  match r with
  | [] => rfl
  | [x] => rfl
  | x :: y :: r =>
   have : (((x :: y :: r).length : Int) == 1) = false := by simp; omega
   simp only [this, aC, aK]
   rfl
 ·rfl
theorem Fk (op : Int) (d : op = 2 ∨ op = 3) : ∀ (ks acc : List Formula), nodesL acc + nodesL ks ≤ 64 →
  mY op ⟨false⟩ ks acc = some (if (acc ++ nK op ks).any (lj (5 - op)) then ⟨5 - op, 0, pu, []⟩ else match dd pR (uK (acc ++ nK op ks)) with | [x] => x | r => ⟨op, 0, pu, r⟩, ⟨false⟩)
 | [], acc, h => by
  rw [nodesL] at h
  rw [nK, bH]
  exact MJ op d acc (by omega)
 | k :: ks, acc, h => by
  rw [nodesL] at h
  have h1 := nP k
  have l := pz k.Kids
  have m := pz acc
  have e : ∀ a b : List Formula, nodesL (a ++ b) = nodesL a + nodesL b := by
   intro a b
   induction a with
   | nil => rw [aZ, nodesL]; omega
   | cons x a g => rw [bR, nodesL, nodesL, g]; omega
  have hw : IntKind.i64.wrap (5 - op) = 5 - op := kG (by omega) (by omega)
  rw [mY, nK]
  by_cases c : k.Op = op
  ·simp only [c, aW, aT]
   rw [mA (by omega) (by omega), aA, Fk op d ks _ (by rw [e]; omega), aP]
  ·have i : (k.Op == op) = false := by simpa using c
   simp only [i, aC, aK, c]
   rw [Ey, hw, aA]
   cases j : lj (5 - op) k
   ·simp only [aC, aK]
    rw [mA (by simp; omega) (by simp; omega), aA, Fk op d ks _ (by rw [e, nodesL, nodesL]; omega), aP]
   ·simp only [aT]
    have : (acc ++ ([k] ++ nK op ks)).any (lj (5 - op)) = true := by simp [j]
    rw [this]; rfl
theorem Lj (op : Int) (a : op = 2 ∨ op = 3) (ks : List Formula) (h : nodesL ks ≤ 64) : oP ⟨false⟩ op ks = some (oO op ks, ⟨false⟩) := by
 unfold oP oO
 rw [Fk op a ks [] (by rw [nodesL]; omega), aZ]
 rfl
theorem Bk : ∀ (ks acc : List Formula) (k : Int), -1000 ≤ k - (ks.length : Int) → k ≤ 1000 → acc.length + ks.length ≤ 1000 →
  mQ ks k acc = some (k - ((ks.filter (lj 2)).length : Int), acc ++ ks.filter fun x => !lj 2 x && !lj 3 x)
 | [], acc, k, h1, a, b => by rw [mQ]; simp
 | x :: ks, acc, k, h1, a, b => by
  simp only [aO] at h1 b
  rw [mQ, Ey, aA, Ey, aA]
  rw [dH, dH]
  cases c2 : lj 2 x
  ·cases d : lj 3 x
   ·simp only [dK, iR, aC, aK, aT]
    rw [mA (by simp; omega) (by simp; omega), aA, Bk ks _ k (by omega) a (by simp; omega)]
    simp only [aP, bR, aZ]
   ·simp only [dK, cK, Bool.and_false, aC, aK]
    rw [Bk ks _ k (by omega) a (by omega)]
  ·simp only [cK, gi, aC, aK, aT]
   rw [kG (by omega) (by omega), Bk ks _ (k - 1) (by omega) (by omega) (by omega)]
   simp only [aO]
   have e : k - 1 - ((ks.filter (lj 2)).length : Int) = k - (((ks.filter (lj 2)).length + 1 : Nat) : Int) := by omega
   rw [e]
theorem Qd : ∀ (n : Nat) (f : Formula), nG f ≤ n → kv f ≤ 64 → sV f = true → mX n ⟨false⟩ f = some (oS f, ⟨false⟩) := by
 intro n
 induction n with
 | zero => intro f h; rw [mE] at h; omega
 | succ n ih =>
  intro f v E hw
  rw [mE] at v
  have w := nP f
  obtain ⟨h1, u, q⟩ := xn hw
  rw [mX]
  unfold rT
  rw [yc]
  by_cases c1 : f.Op = 1
  ·simp only [c1, aW, aT]
  ·have r : (f.Op == 1) = false := by simpa using c1
   simp only [r, aC, aK, c1]
   have last : ∀ acc : List Formula, nodesL acc ≤ 64 → nj (mX n) f [] acc ⟨false⟩ = some (if f.Op = 4 then sJ f.K acc else oO f.Op acc, ⟨false⟩) := by
    intro acc b
    have hlen := pz acc
    have D := yi (fun x => !lj 2 x && !lj 3 x) acc
    rw [nj]
    by_cases p : f.Op = 4
    ·have hk : 0 ≤ f.K ∧ f.K ≤ (f.Kids.length : Int) := by rcases q with h | h | h <;> omega
     have i : ¬ f.Op < 4 := by omega
     simp only [i, p, cD, aC, aK, aT]
     rw [Bk acc [] f.K (by omega) (by omega) (by simp; omega), aA, aZ]
     unfold sJ
     simp only
     have g := pz (acc.filter fun x => !lj 2 x && !lj 3 x)
     have hm : ∀ x ∈ (acc.filter fun x => !lj 2 x && !lj 3 x), Gd x := fun x y => by have := tb y; unfold Gd; omega
     generalize (acc.filter fun x => !lj 2 x && !lj 3 x) = l at *
     generalize f.K - ((acc.filter (lj 2)).length : Int) = k
     by_cases d1 : k ≤ 0
     ·simp only [d1, cA, aT]; rfl
     ·simp only [d1, cD, aC, aK]
      by_cases d2 : k > (l.length : Int)
      ·simp only [d2, cA, aT]; rfl
      ·simp only [d2, cD, aC, aK]
       by_cases d3 : k = (l.length : Int)
       ·simp only [← d3, aW, aT]
        rw [Lj 2 (.inl rfl) l (by omega), aA]
        rfl
       ·have s : (k == (l.length : Int)) = false := by simpa using d3
        simp only [s, aC, aK, d3]
        by_cases d4 : k = 1
        ·simp only [d4, aW, aT]
         rw [Lj 3 (.inr rfl) l (by omega), aA]
         rfl
        ·have t : (k == 1) = false := by simpa using d4
         simp only [t, aC, aK, d4]
         rw [RQ l hm (by omega)]
         rfl
    ·have j : f.Op = 2 ∨ f.Op = 3 := by rcases q with h | h | h <;> omega
     have i : f.Op < 4 := by omega
     simp only [i, p, cA, aT, aK]
     rw [Lj f.Op j acc b, aA]
   have key : ∀ (ks acc : List Formula), (∀ k ∈ ks, k ∈ f.Kids) → wellL ks = true → nodesL (acc ++ shapeL ks) ≤ 64 → nodesL ks ≤ 64 → nj (mX n) f ks acc ⟨false⟩ = some (if f.Op = 4 then sJ f.K (acc ++ shapeL ks) else oO f.Op (acc ++ shapeL ks), ⟨false⟩) := by
    intro ks
    induction ks with
    | nil =>
     intro acc _ _ b _
     rw [shapeL, bH] at *
     exact last acc b
    | cons k ks m =>
     intro acc hk a b g
     rw [wellL, bF] at a
     rw [nodesL] at g
     rw [shapeL] at b
     have d := pz (acc ++ oS k :: shapeL ks)
     simp only [aF, aO] at d
     rw [nj, ih k (by have := qw (hk k (by simp)); omega) (by omega) a.1, aA, mA (by simp; omega) (by simp; omega), aA,
      m (acc ++ [oS k]) (fun z A => hk z (by simp [A])) a.2 (by rw [aP]; exact b) (by omega), shapeL]
     simp only [aP, bR, aZ]
   have := Dm f.Kids
   have := key f.Kids [] (fun k hk => hk) u (by simpa using by omega) (by omega)
   simpa using this
theorem Om (f : Formula) (h : Gd f) : yy f = some (wc f) := by
 unfold yy wc
 rw [IW f h, aA]
 cases b : nl f
 ·rfl
 ·obtain ⟨h1, d, a⟩ := yM b
  have g := zh f
  simp only [cK, aC, aK, aT]
  rw [Qd jY f (by rw [mc]; omega) h1 a, aA, IW (oS f) (by unfold Gd; omega)]
  simp only [aC, aK, aA]
  cases nl (oS f) <;> rfl
theorem Gt (c : jr) : ∀ (l : List oe) (e o k : Int) (r : jq) (ks : List Formula), (∀ a ∈ l, kv a.jx ≤ 10000000) → kv ⟨o, k, r, ks⟩ ≤ 64 →
  sE c l e o k r ks = some (let t := oM (⟨o, k, r, ks⟩, e) ((l.filter fun a => mr kh a.ms c).map (·.jx)); (t.2, t.1.Op, t.1.K, t.1.jq, t.1.Kids))
 | [], e, o, k, r, ks, _, _ => by rw [sE, fR, eW, oM]
 | a :: l, e, o, k, r, ks, h, p => by
  have ha := h a (by simp)
  have j : ∀ x ∈ l, kv x.jx ≤ 10000000 := fun x v => h x (by simp [v])
  rw [sE, dH, Er]
  by_cases d : e = 0
  ·have i : (e == 0) = true := by simp [d]
   simp only [i, aT, aA]
   cases z : mr kh a.ms c
   ·simp only [aC, aK]
    exact Gt c l e o k r ks j p
   ·simp only [aT]
    rw [bP, oM]
    simp only [d, aT]
    have s : Gd ⟨2, 0, pu, [⟨o, k, r, ks⟩, a.jx]⟩ := by show kv _ ≤ _; rw [kv, nodesL, nodesL, nodesL]; omega
    rw [show (⟨2, 0, (⟨zS, zS⟩ : jq), [(⟨o, k, r, ks⟩ : Formula), a.jx]⟩ : Formula) = ⟨2, 0, pu, [⟨o, k, r, ks⟩, a.jx]⟩ from rfl, Om _ s, aA]
    have u := yb (f := ⟨2, 0, pu, [⟨o, k, r, ks⟩, a.jx]⟩)
    generalize wc ⟨2, 0, pu, [⟨o, k, r, ks⟩, a.jx]⟩ = q at *
    obtain ⟨⟨w, k', y, n⟩, e'⟩ := q
    exact Gt c l e' w k' y n j u
  ·have i : (e == 0) = false := by simpa using d
   simp only [i, aC, aK, aA]
   rw [Gt c l e o k r ks j p]
   have b : ∀ m : List Formula, oM (⟨o, k, r, ks⟩, e) m = (⟨o, k, r, ks⟩, e) := by
    intro m
    cases m with
    | nil => rw [oM]
    | cons g m => rw [oM]; simp only [d, aK]
   rw [b, b]
theorem MA (c : jr) (p : kI) (hp : PB p) : ∀ l : List kz, (∀ x ∈ l, x ∈ p.jH) → vr c p l = some (match l.find? (fun x => kh x.Signed.jr c) with | none => (EU, 42) | some x => zX x.jx ((yk p c).map (·.jx)))
 | [], _ => rfl
 | x :: l, h => by
  rw [vr, fP]
  cases j : kh x.Signed.jr c
  ·simp only [dK, aT]
   exact MA c p hp l (fun z g => h z (by simp [g]))
  ·simp only [cK, aC, aK]
   have m := hp.rel x (h x (by simp))
   have d := yb (f := x.jx)
   rw [Om _ (by unfold Gd; omega), aA]
   unfold zX yk
   generalize wc x.jx = q at *
   obtain ⟨⟨o, k, r, ks⟩, e⟩ := q
   rw [Gt c p.ke e o k r ks hp.KQ d, aA]
   simp only
   generalize oM (⟨o, k, r, ks⟩, e) ((p.ke.filter fun a => mr kh a.ms c).map (·.jx)) = t
   obtain ⟨⟨n, k', s, i⟩, e'⟩ := t
   by_cases c1 : e' = 0
   ·subst c1; rfl
   ·have b : (e' != 0) = true := by simp [c1]
    simp only [b, aT, c1, aK]; rfl
theorem Q0 (p : kI) (hp : PB p) (c : jr) : Ad p c = some (oT p c) := by
 unfold Ad oT zk
 refine (MA c p hp _ (fun x a => a)).trans ?_
 cases p.jH.find? (fun x => kh x.Signed.jr c) <;> rfl
end Go.Proofs.YtmlncblocfcmiaaGreat
namespace Go.Proofs.YtmlncblocfcmiaaGreat
open Go.RowKit
theorem RR (l : List jq) (r : jq) : zr l r = some (mr jP l r) := by
 unfold zr
 induction l with
 | nil => rfl
 | cons x l ih =>
  rw [wY, ih]
  have e : mr jP (x :: l) r = (jP r x || mr jP l r) := rfl
  have a : jP x r = jP r x := by rw [bU, jQ, jQ]; exact eq_comm
  rw [e, a]
  cases jP r x <;> rfl
theorem Fl (l : List jq) (rec : Formula → List jq → Option Bool) (f : Formula) (v : jq → Bool) : ∀ (ks : List Formula) (x : Nat), (∀ k ∈ ks, rec k l = some (pt v k)) → x + ks.length ≤ 100000000 →
  qy rec l f ks (x : Int) = some (if f.Op = 2 then decide (x + evN v ks = f.Kids.length) else if f.Op = 3 then decide (0 < x + evN v ks) else decide (f.K ≤ ((x + evN v ks : Nat) : Int)))
 | [], x, _, _ => by
  rw [qy, evN, gG]
  by_cases c2 : f.Op = 2
  ·simp only [c2, aW, aT]
   congr 1
   rw [bU, gb, bO]; omega
  ·have b : (f.Op == 2) = false := by simpa using c2
   simp only [b, aC, aK, c2]
   by_cases a : f.Op = 3
   ·simp only [a, aW, aT]
    congr 1
    rw [bU, bO, bO]; omega
   ·have g : (f.Op == 3) = false := by simpa using a
    simp only [g, aC, aK, a]
    first | done | rfl
 | k :: ks, x, h, i => by
  rw [aO] at i
  rw [qy, h k (by simp), aA, evN]
  cases pt v k
  ·simp only [aC, aK]
   rw [Fl l rec f v ks x (fun z d => h z (by simp [d])) (by omega), fe]
  ·simp only [aT]
   have e : IntKind.i64.wrap ((x : Int) + 1) = ((x + 1 : Nat) : Int) := by rw [kG (by omega) (by omega)]; omega
   rw [e, Fl l rec f v ks (x + 1) (fun z d => h z (by simp [d])) (by omega)]
   have b : x + 1 + evN v ks = x + (1 + evN v ks) := by omega
   rw [b]
theorem QV (l : List jq) : ∀ (n : Nat) (f : Formula), nG f ≤ n → Gd f → rO n f l = some (pt (mr jP l) f) := by
 intro n
 induction n with
 | zero => intro f h; rw [mE] at h; omega
 | succ n ih =>
  intro f b d
  rw [mE] at b
  have g := nP f
  have i := pz f.Kids
  unfold Gd at d
  rw [rO]
  unfold xi
  rw [vv, RR]
  by_cases c1 : f.Op = 1
  ·simp only [c1, aW, aT, aA]
  ·have a : (f.Op == 1) = false := by simpa using c1
   simp only [a, aC, aK, c1]
   have := Fl l (rO n) f (mr jP l) f.Kids 0 (fun k hk => ih k (by have := qw hk; omega) (by have := tb hk; unfold Gd; omega)) (by omega)
   simpa using this
theorem LZ (F : List jJ) (w : ByteArray) : mr jP (IA F w) = vF F w := by
 funext r
 unfold vF IA
 rw [bU, sD jQ, sD zj, bL]
 constructor
 ·rintro ⟨f, b, rfl⟩
  obtain ⟨h1, a⟩ := cM.1 b
  have := lZ.1 a
  rw [← this]; exact h1
 ·intro h
  exact ⟨⟨r, w⟩, cM.2 ⟨h, lZ.2 rfl⟩, rfl⟩
theorem Ck (p : kI) (hp : PB p) (l : List jq) (v : jq → Bool) (a : mr jP l = v) : ∀ (xs : List kz) (acc : List jr), acc.length + xs.length ≤ 1000000000 → qJ p l xs acc = uz (acc ++ (xs.filter (zn p v)).map (·.Signed.jr))
 | [], acc, _ => by rw [qJ, fR, eW, bH, nA]
 | x :: xs, acc, h => by
  rw [aO] at h
  have g := Ht p x.Signed.jr
  have d := wL (oT p x.Signed.jr).1
  rw [qJ, Q0 p hp, aA, QV l jY _ (by rw [mc]; omega) (by unfold Gd; omega), a, dH]
  unfold zn
  by_cases c : (oT p x.Signed.jr).2 = 0
  ·have b := (LV c).1
   simp only [c, aW, aT, cA, ej, aA]
   unfold zl
   rw [b, ej]
   cases i : pt v (oT p x.Signed.jr).1
   ·simp only [aC, aK]
    exact Ck p hp l v a xs acc (by omega)
   ·simp only [aT]
    rw [mA (by simp; omega) (by simp; omega), aA, Ck p hp l v a xs _ (by simp; omega)]
    simp only [bP, aP, bR, aZ]
    rfl
  ·have e : ((oT p x.Signed.jr).2 == 0) = false := by simpa using c
   simp only [e, aC, aK, c, cD, gi, aA]
   exact Ck p hp l v a xs acc (by omega)
theorem Ik (p : kI) (hp : PB p) (l : List jr) (d : l.length ≤ 30000) (peer : ByteArray) : tL p l peer = pH p l peer := by
 obtain ⟨F, a⟩ := RI l d
 obtain ⟨s, e, g⟩ := Oy p hp a peer
 have := hp.FQ
 have h1 : (p.jH.filter (zn p (vF F peer))).length ≤ p.jH.length := cY _ _
 have hlen := a.len
 unfold tL
 rw [a.ref, aA, show vG F peer = some (IA F peer) from Pw F peer (by omega), aA, e]
 rw [Ck p hp _ (vF F peer) (LZ F peer) p.jH [] (by simp; omega), aZ]
 obtain ⟨t, b, h⟩ := G9 ((p.jH.filter (zn p (vF F peer))).map (·.Signed.jr)) (by simp; omega)
 rw [b, uW.unique Bl h g]
end Go.Proofs.YtmlncblocfcmiaaGreat
namespace Go.Proofs.YtmlncblocfcmiaaGreat
open Go.RowKit
theorem Ju : ∀ (l m A : List jr), l.length = m.length → ∃ b, px (A ++ m) l A.length = some b ∧ (b = true ↔ l = m)
 | [], m, A, d => by
  obtain rfl := aU d.symm
  exact ⟨true, by rw [px], by simp⟩
 | x :: l, [], A, d => by simp at d
 | x :: l, y :: m, A, d => by
  have i1 : lE (A ++ y :: m) (A.length : Int) = some y := mJ _ _ _ _ rfl
  rw [px, i1, aA]
  cases g : kh x y with
  | false =>
   refine ⟨false, by simp [g], ?_⟩
   have : x ≠ y := fun a => by have := mz.2 a; rw [this] at g; cases g
   simp [this]
  | true =>
   have a := mz.1 g
   obtain ⟨b, h, k⟩ := Ju l m (A ++ [y]) (by simpa using d)
   have i : A ++ y :: m = (A ++ [y]) ++ m := by simp
   have j : A.length + 1 = (A ++ [y]).length := by simp
   simp only [cK, aC, aK]
   rw [i, j, h]
   exact ⟨b, rfl, by rw [k]; simp [a]⟩
theorem Ou (l m : List jr) : ∃ b, nv l m = some b ∧ (b = true ↔ l = m) := by
 unfold nv
 by_cases h : l.length = m.length
 ·have : ((l.length : Int) != (m.length : Int)) = false := by simp [h]
  simp only [this, aC, aK]
  exact Ju l m [] h
 ·have : ((l.length : Int) != (m.length : Int)) = true := by simp; omega
  simp only [this, aT]
  exact ⟨false, rfl, by simp; intro hk; rw [hk] at h; exact h rfl⟩
theorem Ja {x p : List jr} (sx : nI x) (sp : nI p) (h : ∀ c ∈ x, c ∈ p) : nv p x = some (decide (p.length = x.length)) := by
 obtain ⟨b, e, a⟩ := Ou p x
 rw [e]; congr 1
 rw [bU, a, bO]
 exact ⟨fun q => by rw [q], fun q => (sx.eq sp h (by omega)).symm⟩
theorem F3 (a b : kI) (ha : PB a) (g : PB b) (la : a.jH.length ≤ 30000) (lb : b.jH.length ≤ 30000) : ∀ (n : Nat) (x y : List jr) (i : Int), nI x → nI y → (∀ c ∈ x, nN a y b.Name c) → (∀ c ∈ y, nN b x a.Name c) →
  sr a b n x y i = pj a b n x y i
 | 0, x, y, i, sx, sy, h, j => by rw [sr, pj]
 | n + 1, x, y, i, sx, sy, h, j => by
  have h1 := rr sx (fun c d => (h c d).1)
  have t := rr sy (fun c d => (j c d).1)
  obtain ⟨p, r, sp, mp, u⟩ := Bq a ha y (by omega) b.Name
  obtain ⟨q, s, sq, k, v⟩ := Bq b g x (by omega) a.Name
  have l : ∀ c ∈ x, c ∈ p := fun c d => (mp c).2 (h c d)
  have m : ∀ c ∈ y, c ∈ q := fun c d => (k c).2 (j c d)
  rw [sr, pj, Ik a ha y (by omega), Ik b g x (by omega), r, s]
  simp only [aA]
  rw [Ja sx sp l, Ja sy sq m]
  simp only [aA]
  have ih := F3 a b ha g la lb n p q (IntKind.i64.wrap (i + 1)) sp sq (fun c d => tf m ((mp c).1 d)) (fun c d => tf l ((k c).1 d))
  rw [ih]
  have d1 : ((p.length : Int) == (x.length : Int)) = decide (p.length = x.length) := by
   rw [bU, gb, bO]; omega
  have d2 : ((q.length : Int) == (y.length : Int)) = decide (q.length = y.length) := by
   rw [bU, gb, bO]; omega
  rw [d1, d2]
theorem OF (a b : kI) (ha : PB a) (d : PB b) (la : a.jH.length ≤ 30000) (lb : b.jH.length ≤ 30000) : Cz a b = xt a b :=
 F3 a b ha d la lb jY [] [] 0 nI.nil nI.nil (by simp) (by simp)
theorem Fv (b : List jr) : ∀ (l acc : List jr), acc.length + l.length ≤ 1000000 → qt b l acc = some (acc ++ l.filter (mr kh b))
 | [], acc, _ => by rw [qt, fR, bH]
 | x :: l, acc, h => by
  rw [aO] at h
  rw [qt, Er, aA, dH]
  cases mr kh b x
  ·simp only [aC, aK]
   exact Fv b l acc (by omega)
  ·simp only [aT]
   rw [mA (by simp; omega) (by simp; omega), aA, Fv b l _ (by simp; omega)]
   simp
theorem Og (a b : List jr) (h : a.length ≤ 1000000) : wu a b = some (a.filter (mr kh b)) := by
 unfold wu
 rw [Fv b a [] (by simpa using h), aZ]
theorem Dp (b : List jr) : ∀ (l acc : List jr), acc.length + l.length ≤ 1000000 → pU b l acc = some (acc ++ l.filter fun c => !mr kh b c)
 | [], acc, _ => by rw [pU, fR, bH]
 | x :: l, acc, h => by
  rw [aO] at h
  rw [pU, Er, aA, dH]
  cases mr kh b x
  ·simp only [dK, aT]
   rw [mA (by simp; omega) (by simp; omega), aA, Dp b l _ (by simp; omega)]
   simp
  ·simp only [cK, aC, aK]
   exact Dp b l acc (by omega)
theorem LQ (a b : List jr) (h : a.length ≤ 1000000) : vt a b = some (a.filter fun c => !mr kh b c) := by
 unfold vt
 rw [Dp b a [] (by simpa using h), aZ]
theorem MQ (p : kI) (hp : p.jH.length ≤ 600000) : xw p = uu p := by
 have h1 : ∀ (l : List kz) (acc : List jr), acc.length + l.length ≤ 1000000000 → tg l acc = uz (acc ++ l.map (·.Signed.jr)) ∧ pg l acc = uh (acc ++ l.map (·.Signed.jr)) := by
  intro l
  induction l with
  | nil => intro acc _; rw [tg, pg, eW, bH, nA, nA]; exact ⟨rfl, rfl⟩
  | cons x l ih =>
   intro acc h
   rw [aO] at h
   rw [tg, pg, mA (by simp; omega) (by simp; omega), aA, aA]
   have := ih (acc ++ [x.Signed.jr]) (by simp; omega)
   simpa using this
 unfold xw uu
 obtain ⟨a, b⟩ := h1 p.jH [] (by simp; omega)
 rw [a, b, aZ]
 obtain ⟨s, e, h⟩ := Li (p.jH.map (·.Signed.jr)) (by simp; omega)
 obtain ⟨t, d, g⟩ := G9 (p.jH.map (·.Signed.jr)) (by simp; omega)
 rw [e, d, uW.unique Bl g h]
theorem HC (p : nf) (ha : PB p.js) (a : PB p.Client) (la : p.js.jH.length ≤ 30000) (lb : p.Client.jH.length ≤ 30000) : ∀ (n : Nat) (x y : List jr), nI x → nI y → x.length ≤ 30000 → y.length ≤ 30000 →
  pS p n x y = om p n x y
 | 0, x, y, sx, sy, lx, ly => by rw [pS, om]
 | n + 1, x, y, sx, sy, lx, ly => by
  obtain ⟨f, d, w, u, r⟩ := Bq p.js ha y (by omega) p.Client.Name
  obtain ⟨g, i, sg, v, t⟩ := Bq p.Client a x (by omega) p.js.Name
  have l := cY (mr kh f) x
  have m := cY (mr kh g) y
  rw [pS, om, Ik p.js ha y (by omega), Ik p.Client a x (by omega), d, i]
  simp only [aA]
  rw [Og x f (by omega), Og y g (by omega), Cu x f (by omega), Cu y g (by omega)]
  simp only [aA]
  rw [HC p ha a la lb n _ _ (sx.filter _) (sy.filter _) (by omega) (by omega)]
  have key : ∀ (s : List jr) (q : jr → Bool), nv (s.filter q) s = some (((s.filter q).length : Int) == (s.length : Int)) := by
   intro s q
   obtain ⟨b, e, a⟩ := Ou (s.filter q) s
   rw [e]; congr 1
   rw [bU, a, gb]
   constructor
   ·intro h; rw [h]
   ·intro h; exact (gp).eq_of_length (by omega)
  rw [key, key]
  simp only [aA]
  by_cases c1 : (x.filter (mr kh f)).length = x.length
  ·have j : (x.filter (mr kh f)) = x := (gp).eq_of_length c1
   by_cases c2 : (y.filter (mr kh g)).length = y.length
   ·have k : (y.filter (mr kh g)) = y := (gp).eq_of_length c2
    rw [j, k]
   ·have : (((y.filter (mr kh g)).length : Int) == (y.length : Int)) = false := by rw [eY]; omega
    rw [c1, this]
    simp
  ·have : (((x.filter (mr kh f)).length : Int) == (x.length : Int)) = false := by rw [eY]; omega
   rw [this]
   simp
theorem Mf (p : nf) (ha : PB p.js) (g : PB p.Client) (la : p.js.jH.length ≤ 30000) (lb : p.Client.jH.length ≤ 30000) : vn p = pc p := by
 unfold vn pc
 rw [MQ p.js (by omega), MQ p.Client (by omega)]
 obtain ⟨x, b, sx, h⟩ := EE p.js (by omega)
 obtain ⟨y, d, sy, i⟩ := EE p.Client (by omega)
 have j := rr sx (fun c a => ((h c).1 a).1)
 have k := rr sy (fun c a => ((i c).1 a).1)
 rw [b, d, aA, aA, aA, aA]
 exact HC p ha g la lb jY x y sx sy (by omega) (by omega)
theorem Qa (p : nf) (ha : PB p.js) (d : PB p.Client) (la : p.js.jH.length ≤ 30000) (lb : p.Client.jH.length ≤ 30000) : xK p = qS p := by
 obtain ⟨a, b, x, y, j, h, g, i, l, k⟩ := Cq p ha d (by omega) (by omega)
 have i1 := g.la
 have i2 := g.lb
 rw [k]
 unfold xK
 rw [Mf p ha d la lb, h, aA, OF _ _ ha d la lb, i, aA]
 simp only
 rw [LQ a x (by omega), aA, LQ b y (by omega), aA]
end Go.Proofs.YtmlncblocfcmiaaGreat
namespace Go.Proofs.YtmlncblocfcmiaaGreat
open Go.RowKit
mutual
def yJ : Formula → Nat
 | ⟨_, _, r, ks⟩ => 1 + r.js.size + r.jy.size + szFL ks
def szFL : List Formula → Nat
 | [] => 0
 | k :: ks => yJ k + szFL ks
end
theorem Jk (f : Formula) : yJ f = 1 + f.jq.js.size + f.jq.jy.size + szFL f.Kids := by cases f; rw [yJ]
theorem Bd : ∀ f : Formula, kv f ≤ yJ f := by
 refine IM fun f ih => ?_
 have : ∀ ks : List Formula, (∀ k ∈ ks, kv k ≤ yJ k) → nodesL ks ≤ szFL ks := by
  intro ks
  induction ks with
  | nil => intro _; rw [nodesL]; omega
  | cons k ks a =>
   intro h
   have := a (fun x b => h x (by simp [b]))
   have := h k (by simp)
   rw [nodesL, szFL]; omega
 have := this f.Kids ih
 rw [nP, Jk]; omega
def xO : List jr → Nat
 | [] => 0
 | c :: l => 20 + xA c + xO l
theorem g5 : ∀ (l : List jr) (n : Int), 0 ≤ n → n + (xO l : Int) ≤ 4000000000000000000 → rk l n = some (n + (xO l : Int))
 | [], n, _, _ => by rw [rk, xO]; simp
 | c :: l, n, b, a => by
  have e : xA c = c.Head.js.size + c.Head.jy.size + c.ky.size + c.B.js.size + c.B.jy.size + c.C.js.size + c.C.jy.size + c.kF.size := rfl
  rw [xO] at a
  rw [rk]
  rw [kG (x := 20 + (c.Head.js.size : Int)) (by omega) (by omega), kG (x := 20 + (c.Head.js.size : Int) + (c.Head.jy.size : Int)) (by omega) (by omega), kG (x := 20 + (c.Head.js.size : Int) + (c.Head.jy.size : Int) + (c.ky.size : Int)) (by omega) (by omega), kG (x := 20 + (c.Head.js.size : Int) + (c.Head.jy.size : Int) + (c.ky.size : Int) + (c.B.js.size : Int)) (by omega) (by omega), kG (x := 20 + (c.Head.js.size : Int) + (c.Head.jy.size : Int) + (c.ky.size : Int) + (c.B.js.size : Int) + (c.B.jy.size : Int)) (by omega) (by omega), kG (x := 20 + (c.Head.js.size : Int) + (c.Head.jy.size : Int) + (c.ky.size : Int) + (c.B.js.size : Int) + (c.B.jy.size : Int) + (c.C.js.size : Int)) (by omega) (by omega), kG (x := 20 + (c.Head.js.size : Int) + (c.Head.jy.size : Int) + (c.ky.size : Int) + (c.B.js.size : Int) + (c.B.jy.size : Int) + (c.C.js.size : Int) + (c.C.jy.size : Int)) (by omega) (by omega), kG (x := 20 + (c.Head.js.size : Int) + (c.Head.jy.size : Int) + (c.ky.size : Int) + (c.B.js.size : Int) + (c.B.jy.size : Int) + (c.C.js.size : Int) + (c.C.jy.size : Int) + (c.kF.size : Int)) (by omega) (by omega), kG (by omega) (by omega)]
  rw [g5 l _ (by omega) (by omega), xO]
  congr 1; omega
theorem RW : ∀ (n : Nat) (l : List Formula), deepL l < n → szFL l ≤ 1000000000000 → ∃ r : Int, ox n l = some r ∧ 0 ≤ r ∧ r ≤ (szFL l : Int) := by
 intro n
 induction n with
 | zero => intro l h; omega
 | succ n ih =>
  intro l h g
  rw [ox]
  unfold wq
  have key : ∀ (l : List Formula) (x : Int), deepL l < n + 1 → 0 ≤ x → x + (szFL l : Int) ≤ 1000000000000 → ∃ r : Int, rC (ox n) l x = some r ∧ 0 ≤ r ∧ r ≤ x + (szFL l : Int) := by
   intro l
   induction l with
   | nil => intro x _ i _; exact ⟨x, by rw [rC], i, by rw [szFL]; simp⟩
   | cons k l b =>
    intro x h i g
    rw [deepL] at h
    rw [szFL] at g
    have hk := Jk k
    have := mE k
    obtain ⟨r, e, h1, j⟩ := ih k.Kids (by omega) (by omega)
    rw [rC, e, aA]
    have q : 0 ≤ Int.tdiv ((k.jq.js.size : Int) + (k.jq.jy.size : Int)) 16 ∧ Int.tdiv ((k.jq.js.size : Int) + (k.jq.jy.size : Int)) 16 ≤ (k.jq.js.size : Int) + (k.jq.jy.size : Int) := by
     rw [Int.tdiv_eq_ediv_of_nonneg (by omega)]
     omega
    rw [kG (x := (k.jq.js.size : Int) + (k.jq.jy.size : Int)) (by omega) (by omega)]
    generalize Int.tdiv ((k.jq.js.size : Int) + (k.jq.jy.size : Int)) 16 = d at *
    rw [kG (x := d) (by omega) (by omega), kG (x := 1 + d) (by omega) (by omega), kG (x := 1 + d + r) (by omega) (by omega), kG (x := x + (1 + d + r)) (by omega) (by omega)]
    obtain ⟨p, e', a, m⟩ := b (x + (1 + d + r)) (by omega) (by omega) (by omega)
    exact ⟨p, e', a, by rw [szFL]; omega⟩
  obtain ⟨r, e, h1, j⟩ := key l 0 h (by omega) (by omega)
  exact ⟨r, e, h1, by omega⟩
theorem GM (f : Formula) (h : yJ f ≤ 50000000) : ∃ r : Int, ox jY [f] = some r ∧ 0 ≤ r ∧ r ≤ (yJ f : Int) := by
 have h1 := Bd f
 have d := wL f
 obtain ⟨r, e, a, b⟩ := RW jY [f] (by rw [deepL, deepL, mc]; omega) (by rw [szFL, szFL]; omega)
 refine ⟨r, e, a, ?_⟩
 rw [szFL, szFL] at b; omega
theorem g6 (s : Signed) (h : xA s.jr + s.Tag.length ≤ 1000000000) : tV [] [s] = some (20 + (xA s.jr : Int) + (s.Tag.length : Int)) := by
 unfold tV
 rw [pV, rf]
 have := g5 [s.jr] 0 (by omega) (by rw [xO, xO]; omega)
 rw [show vA [s.jr] = _ from this, aA, rf, xO, xO]
 rw [kG (x := 0 + ((20 + xA s.jr + 0 : Nat) : Int) + (s.Tag.length : Int)) (by omega) (by omega), kG (by omega) (by omega)]
 simp only [aA]
 congr 1; omega
def BK : List kz → Nat
 | [] => 0
 | x :: l => 20 + xA x.Signed.jr + x.Signed.Tag.length + 20 * yJ x.jx + BK l
def AT : List oe → Nat
 | [] => 0
 | a :: l => a.jq.js.size + a.jq.jy.size + 20 * yJ a.jx + xO a.ms + AT l
def HI (p : kI) : Nat := p.Name.size + BK p.jH + AT p.ke
theorem MK : ∀ (l : List oe) (x : Int), 0 ≤ x → x + (AT l : Int) ≤ 1000000000 → ∃ r : Int, ru l x = some r ∧ x ≤ r ∧ r ≤ x + (AT l : Int)
 | [], x, _, _ => ⟨x, by rw [ru], by omega, by rw [AT]; omega⟩
 | a :: l, x, i, h => by
  rw [AT] at h
  obtain ⟨r, e, h1, j⟩ := GM a.jx (by omega)
  have b := g5 a.ms 0 (by omega) (by omega)
  rw [ru, e, aA, show vA a.ms = _ from b, aA]
  rw [kG (x := (a.jq.js.size : Int) + (a.jq.jy.size : Int)) (by omega) (by omega), kG (x := 20 * r) (by omega) (by omega), kG (x := (a.jq.js.size : Int) + (a.jq.jy.size : Int) + 20 * r) (by omega) (by omega), kG (x := (a.jq.js.size : Int) + (a.jq.jy.size : Int) + 20 * r + (0 + (xO a.ms : Int))) (by omega) (by omega), kG (by omega) (by omega)]
  obtain ⟨d, e', g, a2⟩ := MK l (x + ((a.jq.js.size : Int) + (a.jq.jy.size : Int) + 20 * r + (0 + (xO a.ms : Int)))) (by omega) (by omega)
  exact ⟨d, e', by omega, by rw [AT]; omega⟩
theorem Ry (p : kI) (g : HI p ≤ 1000000000) : ∃ r : Int, vz p = some r ∧ 20 * (p.jH.length : Int) ≤ r ∧ r ≤ (HI p : Int) := by
 unfold HI at g
 have key : ∀ (l : List kz) (x : Int), 0 ≤ x → x + (BK l : Int) + (AT p.ke : Int) ≤ 1000000000 → ∃ r : Int, ri p l x = some r ∧ x + 20 * (l.length : Int) ≤ r ∧ r ≤ x + (BK l : Int) + (AT p.ke : Int) := by
  intro l
  induction l with
  | nil =>
   intro x d h
   rw [BK] at h
   obtain ⟨r, e, a, b⟩ := MK p.ke x d (by omega)
   exact ⟨r, by rw [ri, e]; rfl, by simp; omega, by rw [BK]; omega⟩
  | cons y l ih =>
   intro x d h
   rw [BK] at h
   obtain ⟨r, e, h1, j⟩ := GM y.jx (by omega)
   rw [ri, g6 y.Signed (by omega)]
   simp only [aA]
   rw [e, aA]
   rw [kG (x := 20 * r) (by omega) (by omega), kG (x := 20 + (xA y.Signed.jr : Int) + (y.Signed.Tag.length : Int) + 20 * r) (by omega) (by omega), kG (by omega) (by omega)]
   obtain ⟨i, e', a, b⟩ := ih (x + (20 + (xA y.Signed.jr : Int) + (y.Signed.Tag.length : Int) + 20 * r)) (by omega) (by omega)
   exact ⟨i, e', by rw [aO]; omega, by rw [BK]; omega⟩
 obtain ⟨r, e, a, b⟩ := key p.jH (p.Name.size : Int) (by omega) (by omega)
 unfold vz
 exact ⟨r, e, by omega, by unfold HI; omega⟩
end Go.Proofs.YtmlncblocfcmiaaGreat
namespace Go.Proofs.YtmlncblocfcmiaaGreat
open Go.RowKit
def Cc : List Key → Nat
 | [] => 0
 | k :: l => 10 + k.ky.size + k.Key.length + Cc l
theorem Rs : ∀ (ks : List Key) (x : Int), 0 ≤ x → x + (Cc ks : Int) ≤ 2000000000 → pV [] ks x = some (x + (Cc ks : Int))
 | [], x, _, _ => by rw [pV, rf, Cc]; simp
 | k :: ks, x, a, h => by
  rw [Cc] at h
  rw [pV, kG (x := 10 + (k.ky.size : Int)) (by omega) (by omega), kG (x := 10 + (k.ky.size : Int) + (k.Key.length : Int)) (by omega) (by omega), kG (by omega) (by omega), Rs ks _ (by omega) (by omega), Cc]
  congr 1; omega
structure PQ (p : nf) : Prop extends PP p where
 go : HI p.js ≤ 1000000000
 gc : HI p.Client ≤ 1000000000
 fs : yJ p.Formula ≤ 50000000
 ks : Cc p.Keys ≤ 1000000000
theorem R4 (p : nf) (hp : PQ p) : ∃ r : Int, xL p = some r ∧ 20 * (p.js.jH.length : Int) + 20 * (p.Client.jH.length : Int) ≤ r := by
 have d := hp.go
 have b := hp.gc
 have n := hp.ks
 have a := hp.fs
 obtain ⟨g, j, q, s⟩ := Ry p.js d
 obtain ⟨h, k, a2, t⟩ := Ry p.Client b
 obtain ⟨i, l, a3, u⟩ := GM p.Formula a
 have m := Rs p.Keys 0 (by omega) (by omega)
 unfold xL
 rw [j, aA, k, aA]
 simp only [aA]
 rw [l, aA, show tV p.Keys [] = _ from m, aA]
 rw [kG (x := g + h) (by omega) (by omega), kG (x := 20 * i) (by omega) (by omega), kG (x := g + h + 20 * i) (by omega) (by omega), kG (by omega) (by omega)]
 exact ⟨_, rfl, by omega⟩
theorem GD (q : vp = some true) (p : nf) (hp : PQ p) : uk p = some true := by
 obtain ⟨g, n, t⟩ := R4 p hp
 unfold uk
 rw [q, n]
 simp only [aA, cK, aC, aK]
 by_cases h : g > 6000
 ·simp only [h, cA, aT]
 ·simp only [h, cD, aC, aK]
  have ha := hp.o.toPB
  have d := hp.c.toPB
  obtain ⟨a, b, x, y, j, l, k, r, s, i⟩ := Cq p ha d hp.lo hp.lc
  have i1 := cY (fun c => !mr kh x c) a
  have i2 := cY (fun c => !mr kh y c) b
  have j1 := k.la
  have j2 := k.lb
  have m : pC p = some ((IntKind.i64.wrap (((a.filter fun c => !mr kh x c).length : Int) + ((b.filter fun c => !mr kh y c).length : Int))) == 0) := by
   unfold pC
   rw [i, aA]
  rw [Mf p ha d (by omega) (by omega), Qa p ha d (by omega) (by omega), l, i, m]
  simp only [aA]
  rw [Im, Im, Im, Im]
  simp only [aA, aT, aW]
end Go.Proofs.YtmlncblocfcmiaaGreat
namespace Go.Proofs.YtmlncblocfcmiaaGreat.Lf
open Go.ChangeShapes Go.WideShapes Go.ChangeAt Go.RowKit
open Go.Proofs.YtmlncblocfcmiaaGreat (Rows.uptoBulk Rows.uptoBulkAll Rows.uptoSmall)
theorem Ql {H : Type} (d : DataW H) : 1 ≤ Rows.uptoBulk d := by
 cases d with
 | lit l => cases l <;> simp [Rows.uptoBulk]
 | nil => simp [Rows.uptoBulk]
 | ptr d => simp [Rows.uptoBulk]
 | slice a spare => simp [Rows.uptoBulk]
 | agg parts => simp [Rows.uptoBulk]
 | iface t d => simp [Rows.uptoBulk]
 | map entries => simp [Rows.uptoBulk]
 | held h => simp [Rows.uptoBulk]
def Ge {α : Type} (P : Program) (t : TypeId) (enc : α → List Value) (sz : α → Nat) : Prop :=
 ∀ (H : Type) (b : TypeId × Value → H) (W : World) (base : Nat) (sp : Nat → Bool) (d : Bool) (fuel : Nat) (cs : List Value) (x : DataW H × List MemPlace),
  DataW.trod b P W base sp d fuel t cs = some x → ∃ a : α, cs = enc a ∧ sz a ≤ Rows.uptoBulk x.1
theorem KH {P : Program} {t : TypeId} (a : P.underlying t = some .string) : Ge P t (fun s : ByteArray => [.string s]) (fun s => s.size) := by
 intro H b W base sp d fuel cs x h
 obtain ⟨s, rfl, rfl, _⟩ := DataW.trod_string a h
 refine ⟨s, rfl, ?_⟩
 have e : s.data.toList.length = s.size := by rw [dO]; rfl
 simp [Rows.uptoBulk, e]
theorem Ps {P : Program} {t : TypeId} {k : IntKind} (a : P.underlying t = some (.int k)) : Ge P t (fun n : Int => [.int k n]) (fun _ => 0) := by
 intro H b W base sp d fuel cs x h
 obtain ⟨n, rfl, rfl, _⟩ := DataW.trod_int a h
 exact ⟨n, rfl, eX _⟩
theorem OG {α : Type} {n : Nat} {p : Nat → α → Prop} (h : ∀ i, i < n → ∃ x, p i x) : ∃ l : List α, l.length = n ∧ ∀ i x, l[i]? = some x → p i x := by
 induction n with
 | zero => exact ⟨[], rfl, by simp⟩
 | succ n ih =>
  obtain ⟨l, h1, d⟩ := ih fun i b => h i (by omega)
  obtain ⟨x, j⟩ := h n (by omega)
  refine ⟨l ++ [x], by simp [h1], fun i y a => ?_⟩
  by_cases b : i < l.length
  ·rw [gl b] at a
   exact d i y a
  ·rw [fk (by omega)] at a
   have : i - l.length = 0 := by
    cases g : i - l.length with
    | zero => rfl
    | succ m => rw [g] at a; simp at a
   rw [this] at a
   have e : i = n := by omega
   simp at a
   subst a; rw [e]; exact j
theorem IJ {W : World} {a : Addr} {v : Value} (h : W.cell? a = some v) : ∃ cs T fr, W.heap[a.block]? = some (.cells cs T fr) ∧ a.spot = none ∧ cs[a.off]? = some v := by
 unfold World.cell? at h
 split at h
 ·rename_i c T fr d
  by_cases b : a.spot.isSome
  ·simp [b] at h
  ·simp only [b] at h
   exact ⟨c, T, fr, d, by simpa using b, by simpa using h⟩
 ·cases h
theorem Ex.below {dd : Bool} {W W' : World} (h : Ex dd W W') : Below W.heap.size W W' := ⟨h.os, h.tape, h.output, h.size, h.mo⟩
theorem De {H : Type} {k : TypeId × Value → H} {P : Program} (m : laidOutB P = true) {W W' : World} {b : Nat → Bool} :
  ∀ {i : List TypeId} {vs : List Value} {ds : List (DataW H)} {g : List MemPlace}, (∀ t ∈ i, P.readableRec t = true ∧ t < P.types.size) →
   DataW.TrodAll k P W 0 (fun _ => true) true i vs ds g → (∀ p ∈ g, W.sameAt W' p) → (∀ p ∈ g, b p.block = true) → DataW.TrodAll k P W' 0 b true i vs ds g
 | [], _, _, _, _, h, _, _ => by
  obtain ⟨rfl, rfl, rfl⟩ := trodAll_nil h
  exact trodAll_mk0
 | t :: i, _, _, _, j, h, h1, l => by
  obtain ⟨v, vs, d, ds, p, q, rfl, rfl, rfl, n, r⟩ := trodAll_cons h
  exact trodAll_cons_mk (WideElems.Trod_stays m (j t (by simp)).1 (j t (by simp)).2 n (fun x a => h1 x (by simp [a])) (fun x a => l x (by simp [a])))
   (De m (fun u hu => j u (by simp [hu])) r (fun x a => h1 x (by simp [a])) (fun x a => l x (by simp [a])))
theorem Ld {H : Type} {enc : TypeId × Value → H} {P : Program} (J : laidOutB P = true) {f : Func} {s : ChangeSpec} {apart fresh handsOn again : Bool} {W W' : World} {args : Array Value} {v : Value} {ds gs : List (DataW H)} {before : List MemPlace} (M : ∀ t ∈ f.params.toList, P.readableRec t = true ∧ t < P.types.size) (m : s.vars = []) (u : DataW.Whole enc P f.params.toList s.vars apart W args.toList ds gs before) {dd : Bool} (E : Ex dd W W') (a : ∀ (b : Nat) (sp : Nat → Bool) (I : Bool), DataW.TrodAll enc P W' b sp I f.resultTypes.toList (v.resultList f.resultTypes.size) (s.fn H (ds ++ gs)).results []) (d : (s.fn H (ds ++ gs)).args = ds) (h : (s.fn H (ds ++ gs)).vars = []) (A : ∀ (j : Nat) (t : TypeId) (r : Value), f.resultTypes[j]? = some t → (v.resultList f.resultTypes.size)[j]? = some r → Value.okWide P W' .any 0 t r) :
  s.post enc P f apart fresh handsOn again W args v W' := by
 have g := u.lt
 have hold : ∀ p ∈ before, (fun b => decide (b < W.heap.size)) p.block = true := fun p hp => by simpa using g p hp
 have z := Ex.below E
 have y := u
 obtain ⟨p, q, G, F, k, O, L⟩ := u
 rw [m] at F
 obtain ⟨rfl, rfl⟩ := trodVars_none F
 rw [bH] at k
 subst k
 have l : ∀ sp : Nat → Bool, (∀ p ∈ before, sp p.block = true) → DataW.TrodAll enc P W' 0 sp true f.params.toList args.toList (s.fn H (ds ++ [])).args before := fun sp D => by
  rw [d]
  exact De J M G (fun x E => z.same (g x E)) D
 have n : ∀ sp : Nat → Bool, DataW.TrodVars enc P W' sp s.vars (s.fn H (ds ++ [])).vars [] := fun sp => by
  rw [h, m]; rfl
 refine ⟨ds, [], before, [], before, [], y, a _ _ _, l _ hold, n _, World.keptBut_mono (fun p hp => ⟨hp, ?_⟩) (z.frame (· ∈ before)), fun _ => ?_⟩
 ·exact Or.inr (Or.inl hp)
 ·refine ⟨A, _, _, ([] ++ before) ++ [], ⟨[] ++ before, [], trodAll_append (l _ (fun _ _ => rfl)) (a _ _ _), n _, rfl, ?_, ?_⟩, ?_⟩
  ·intro b off hp
   have i : MemPlace.cell b off ∈ before := by simpa using hp
   rw [World.frozen?_of_block (w := W) (z.block b (g _ i))]
   exact O b off i
  ·intro ha
   simpa using L ha
  ·intro p hp _
   simpa using hp
end Go.Proofs.YtmlncblocfcmiaaGreat.Lf
namespace Go.Proofs.YtmlncblocfcmiaaGreat.Lf
open Go.ChangeShapes Go.WideShapes Go.ChangeAt Go.RowKit
open Go.Proofs.YtmlncblocfcmiaaGreat (Rows.uptoBulk Rows.uptoBulkAll Rows.uptoSmall)
def Ej {α : Type} (P : Program) (t : TypeId) (R : pE α) (sz : α → Nat) : Prop :=
 ∀ (H : Type) (b : TypeId × Value → H) (W : World) (base : Nat) (sp : Nat → Bool) (d : Bool) (fuel : Nat) (cs : List Value) (x : DataW H × List MemPlace),
  DataW.trod b P W base sp d fuel t cs = some x → ∃ a : α, R (hp W) cs a ∧ sz a ≤ Rows.uptoBulk x.1
theorem Ge.rel {α : Type} {P : Program} {t : TypeId} {enc : α → List Value} {sz : α → Nat} (h : Ge P t enc sz) : Ej P t (Pl enc) sz := fun H a W base sp b fuel cs x d => h H a W base sp b fuel cs x d
end Go.Proofs.YtmlncblocfcmiaaGreat.Lf
namespace Go.Proofs.YtmlncblocfcmiaaGreat.Lf
open Go.ChangeShapes Go.WideShapes Go.ChangeAt Go.RowKit
open Go.Proofs.YtmlncblocfcmiaaGreat (Rows.uptoBulk Rows.uptoBulkAll Rows.uptoSmall)
theorem EV {H : Type} : ∀ l : List (DataW H), Rows.uptoBulkAll l = (l.map Rows.uptoBulk).sum
 | [] => by simp [Rows.uptoBulkAll]
 | d :: l => by simp [Rows.uptoBulkAll, EV l]
theorem Mg {α : Type} (g : α → Nat) : ∀ (n : Nat) (f : Nat → Nat) {l : List α}, l.length = n → (∀ i x, l[i]? = some x → g x ≤ f i) → (l.map g).sum ≤ ((List.range n).map f).sum
 | 0, f, l, b, h => by
  obtain rfl := eG.1 b
  simp
 | n + 1, f, [], b, h => by cases b
 | n + 1, f, a :: l, b, h => by
  rw [List.range_succ_eq_map, bP, bP, fE, fE, fg]
  have h1 := h 0 a rfl
  have j := Mg g n (f ∘ Nat.succ) (l := l) (by simpa using b) (fun i x d => h (i + 1) x (by simpa using d))
  omega
def rS {α : Type} (sz : α → Nat) (l : List α) : Nat := (l.map fun a => max 1 (sz a)).sum
theorem BS {α : Type} (sz : α → Nat) : ∀ l : List α, l.length ≤ rS sz l
 | [] => aY _
 | a :: l => by have := BS sz l; simp only [rS, bP, fE, aO] at this ⊢; omega
theorem Gv {α : Type} {sz : α → Nat} : ∀ {l : List α} {a : α}, a ∈ l → sz a ≤ rS sz l
 | b :: l, a, h => by
  simp only [rS, bP, fE]
  rcases aR.1 h with rfl | h
  ·omega
  ·have := Gv (sz := sz) h; simp only [rS] at this; omega
theorem E2 {α : Type} {P : Program} {t e : TypeId} {k : Nat} {R : pE α} {sz : α → Nat} (hk : P.cellsOf e = k) (L : 0 < k) (ht : P.underlying t = some (.slice e)) {H : Type} {Y : TypeId × Value → H} {W : World} {base : Nat} {sp : Nat → Bool} {held : Bool} {fuel : Nat} {cs : List Value} {x : DataW H × List MemPlace} (hd : ∀ (fuel : Nat) (cs : List Value) (y : DataW H × List MemPlace), DataW.trod Y P W base sp held fuel e cs = some y → SizeOf.sizeOf y.1 < SizeOf.sizeOf x.1 → ∃ a : α, R (hp W) cs a ∧ sz a ≤ Rows.uptoBulk y.1) (hf : DataW.trod Y P W base sp held fuel t cs = some x) :
  ∃ v l, cs = [v] ∧ Sl R k (hp W) v l ∧ rS sz l ≤ Rows.uptoBulk x.1 := by
 rcases Go.Deep.open_slice ht hf with ⟨rfl, rfl⟩ | ⟨a, ln, cp, m, n, D, Q, rfl, hb, hl, hm, O, rfl, I⟩
 ·exact ⟨_, [], rfl, ⟨none, 0, rfl, aY _, eX _, fun h => absurd h (Nat.lt_irrefl _)⟩, eX _⟩
 ·have aa : ln ≤ m := by rw [O]; split <;> omega
  have hB : ((List.range ln).map fun i => Rows.uptoBulk (D i)).sum ≤ Rows.uptoBulk (DataW.slice ((List.range ln).map D) ((List.range (m - ln)).map fun j => D (ln + j))) := by
   simp only [Rows.uptoBulk]
   rw [EV, fg]
   have e : ((List.range ln).map fun i => Rows.uptoBulk (D i)) = (List.range ln).map (Rows.uptoBulk ∘ D) := rfl
   rw [e]
   omega
  have hS : ∀ i, i < ln → SizeOf.sizeOf (D i) < SizeOf.sizeOf (DataW.slice ((List.range ln).map D) ((List.range (m - ln)).map fun j => D (ln + j))) := fun i J => by
   have := List.sizeOf_lt_of_mem (bL.2 ⟨i, List.mem_range.2 J, rfl⟩ : D i ∈ (List.range ln).map D)
   rw [DataW.slice.sizeOf_spec]; omega
  simp only at hd ⊢
  generalize Rows.uptoBulk (DataW.slice ((List.range ln).map D) ((List.range (m - ln)).map fun j => D (ln + j))) = B at hB
  obtain ⟨l, M, s⟩ := OG (α := α) (n := ln) (p := fun i x => ∃ b, W.cells? base (a.add (i * k)) k = some b ∧ R (hp W) b x ∧ sz x ≤ Rows.uptoBulk (D i)) fun i J => by
   obtain ⟨b, h1, A⟩ := I i (by omega)
   obtain ⟨x, hR, E⟩ := hd _ _ _ A (hS i J)
   rw [hk] at h1
   exact ⟨x, b, h1, hR, E⟩
  subst M
  refine ⟨_, l, rfl, ⟨some a, cp, rfl, hl, hm, fun h0 => ?_⟩, ?_⟩
  ·have d : ∀ i x, l[i]? = some x → ∃ b, R (hp W) b x ∧ b.length = k ∧ ∀ j, j < k → W.cell? ((a.add (i * k)).add j) = b[j]? := fun i x u =>
    let ⟨b, h1, A, _⟩ := s i x u
    let ⟨_, E, Z⟩ := World.cells?_some h1
    ⟨b, A, E, Z⟩
   obtain ⟨a6, _, Z, h5⟩ := d 0 l[0] (by simp [h0])
   have F := h5 0 L
   rw [Nat.zero_mul, cN (by omega)] at F
   have e0 : (a.add 0).add 0 = a := rfl
   rw [e0] at F
   obtain ⟨cs, T, fr, G, h8, _⟩ := IJ F
   obtain ⟨w, z, a1⟩ := a
   simp only at G h8
   subst h8
   refine ⟨w, z, cs, T, fr, rfl, G, fun i x u => ?_⟩
   obtain ⟨b, gR, g1, g2⟩ := d i x u
   refine ⟨b, g1, gR, fun j y hy => ?_⟩
   have hj : j < k := by
    rw [← g1]
    exact (bK.1 hy).1
   have h9 := g2 j hj
   rw [Go.Deep.add_add, hy] at h9
   obtain ⟨U, T', a7, g, a8, q⟩ := IJ h9
   have r : (Addr.add ⟨w, z, none⟩ (i * k + j)).block = w ∧ (Addr.add ⟨w, z, none⟩ (i * k + j)).off = z + (i * k + j) := by
    unfold Addr.add
    split
    ·rename_i hz
     rw [hz]; exact ⟨rfl, rfl⟩
    ·exact ⟨rfl, rfl⟩
   rw [r.1, G] at g
   cases g
   rw [r.2, ← ev] at q
   exact q
  ·refine dT (Mg _ _ _ rfl fun i x u => ?_) hB
   exact Nat.max_le.2 ⟨Ql _, (s i x u).elim fun _ h => h.2.2⟩
theorem te {α : Type} {P : Program} {t e : TypeId} {k : Nat} {R : pE α} {sz : α → Nat} (hk : P.cellsOf e = k) (a : 0 < k) (d : Ej P e R sz) (i : P.underlying t = some (.slice e)) {H : Type} {b : TypeId × Value → H} {W : World} {base : Nat} {sp : Nat → Bool} {held : Bool} {fuel : Nat} {cs : List Value} {x : DataW H × List MemPlace} (g : DataW.trod b P W base sp held fuel t cs = some x) :
  ∃ v l, cs = [v] ∧ Sl R k (hp W) v l ∧ rS sz l ≤ Rows.uptoBulk x.1 := E2 hk a i (fun _ _ _ h _ => d _ _ _ _ _ _ _ _ _ h) g
end Go.Proofs.YtmlncblocfcmiaaGreat.Lf
namespace Go.Proofs.YtmlncblocfcmiaaGreat.Lf
open Go.ChangeShapes Go.WideShapes Go.ChangeAt Go.RowKit
open Go.Proofs.YtmlncblocfcmiaaGreat (Rows.uptoBulk Rows.uptoBulkAll Rows.uptoSmall)
def JW {α : Type} (R : pE α) (Q : α → Prop) : pE α := fun μ ys x => R μ ys x ∧ Q x
theorem Sl.all {α : Type} {R : pE α} {Q : α → Prop} {k : Nat} {μ : kl} {v : Value} {l : List α} (h : Sl (JW R Q) k μ v l) : Sl R k μ v l ∧ ∀ x ∈ l, Q x := by
 obtain ⟨A, c, rfl, h1, j, q⟩ := h
 cases l with
 | nil => exact ⟨⟨A, c, rfl, h1, j, fun h => absurd h (by simp)⟩, by simp⟩
 | cons a l =>
  obtain ⟨b, o, cs, T, fr, e, r, m⟩ := q (by simp)
  refine ⟨⟨A, c, rfl, h1, j, fun _ => ⟨b, o, cs, T, fr, e, r, fun i x g => ?_⟩⟩, fun x g => ?_⟩
  ·obtain ⟨ys, n, d, p⟩ := m i x g
   exact ⟨ys, n, d.1, p⟩
  ·obtain ⟨i, s⟩ := List.mem_iff_getElem?.1 g
   obtain ⟨ys, n, d, p⟩ := m i x s
   exact d.2
theorem OT {P : Program} {t : TypeId} (a : P.underlying t = some (.int .u8)) : Ej P t (JW (Pl (lu .u8)) (fun x => 0 ≤ x ∧ x < 256)) (fun _ => 0) := by
 intro H b W base sp d fuel cs x h
 obtain ⟨n, rfl, rfl, hw⟩ := DataW.trod_int a h
 refine ⟨n, ⟨rfl, ?_⟩, eX _⟩
 simp [Lit.wf, IntKind.min, IntKind.max, IntKind.bits, IntKind.signed] at hw
 omega
end Go.Proofs.YtmlncblocfcmiaaGreat.Lf
namespace Go.Proofs.YtmlncblocfcmiaaGreat
set_option maxRecDepth 10000
open Go.ChangeShapes Go.WideShapes Go.ChangeAt Go.RowKit
open Go.Proofs.YtmlncblocfcmiaaGreat Go.Proofs.YtmlncblocfcmiaaGreat.Lf
theorem NJ : Tryz.prog.cellsOf 116 = 18 := by kernel_rfl
theorem PI {α : Type} {l : List α} (h : l.length = 9) : ∃ a0 a a2 a3 a4 a5 b d g, l = [a0, a, a2, a3, a4, a5, b, d, g] := by
 match l, h with
 | [a0, a, a2, a3, a4, a5, b, d, g], _ => exact ⟨a0, a, a2, a3, a4, a5, b, d, g, rfl⟩
theorem Rf {α : Type} {l : List α} (h : l.length = 18) : ∃ a0 k a2 a3 a4 a5 m n p a9 a b a12 d g i j a17, l = [a0, k, a2, a3, a4, a5, m, n, p, a9, a, b, a12, d, g, i, j, a17] := by
 match l, h with
 | [a0, k, a2, a3, a4, a5, m, n, p, a9, a, b, a12, d, g, i, j, a17], _ => exact ⟨a0, k, a2, a3, a4, a5, m, n, p, a9, a, b, a12, d, g, i, j, a17, rfl⟩
theorem NK : Tryz.prog.cellsOf 110 = 3 := by kernel_rfl
theorem NN {α : Type} {l : List α} (h : l.length = 3) : ∃ a0 a a2, l = [a0, a, a2] := by
 match l, h with
 | [a0, a, a2], _ => exact ⟨a0, a, a2, rfl⟩
theorem D1 : Tryz.prog.cellsOf 9 = 1 := by kernel_rfl
theorem E8 : Ge Tryz.prog 9 (fun s : ByteArray => [.string s]) (fun s => s.size) := KH Tryz.underlying9
theorem Ir : Tryz.prog.cellsOf 107 = 1 := by kernel_rfl
theorem Fz : Tryz.prog.cellsOf 138 = 15 := by kernel_rfl
theorem D8 {α : Type} {l : List α} (h : l.length = 2) : ∃ a0 a, l = [a0, a] := by
 match l, h with
 | [a0, a], _ => exact ⟨a0, a, rfl⟩
theorem QN {α : Type} {l : List α} (h : l.length = 15) : ∃ a0 i a2 a3 a4 a5 j k m a9 a b a12 d g, l = [a0, i, a2, a3, a4, a5, j, k, m, a9, a, b, a12, d, g] := by
 match l, h with
 | [a0, i, a2, a3, a4, a5, j, k, m, a9, a, b, a12, d, g], _ => exact ⟨a0, i, a2, a3, a4, a5, j, k, m, a9, a, b, a12, d, g, rfl⟩
theorem OI : Tryz.prog.cellsOf 56 = 10 := by kernel_rfl
theorem GO : Tryz.prog.cellsOf 53 = 9 := by kernel_rfl
theorem CF : Ge Tryz.prog 3 (fun n : Int => [.int .i64 n]) (fun _ => 0) := Ps Tryz.underlying3
theorem Gs : Tryz.prog.cellsOf 3 = 1 := by kernel_rfl
theorem EA : Tryz.prog.cellsOf 28 = 2 := by kernel_rfl
def xv (x : jq) : Nat := x.js.size + x.jy.size
theorem Gc : Ge Tryz.prog 28 jA xv := by
 intro H g W base sp j fuel cs x h
 obtain ⟨xs, n, _, rfl, p, hlen, k⟩ := et Tryz.underlying28 h
 obtain ⟨r, s, rfl⟩ := D8 hlen
 obtain ⟨a, c1, rfl⟩ := D8 (p.trans EA)
 have i : DataW.trod g Tryz.prog W base sp j n 9 (([a, c1].drop 0).take (Tryz.prog.cellsOf 9)) = some r := k 0 _ rfl
 have h1 : DataW.trod g Tryz.prog W base sp j n 9 (([a, c1].drop 1).take (Tryz.prog.cellsOf 9)) = some s := k 1 _ rfl
 simp only [D1, List.drop, List.take] at i h1
 obtain ⟨q, b, l⟩ := E8 _ _ _ _ _ _ _ _ _ i
 obtain ⟨s1, d, m⟩ := E8 _ _ _ _ _ _ _ _ _ h1
 simp only [bA, dN] at b d
 obtain rfl := b
 obtain rfl := d
 refine ⟨⟨q, s1⟩, rfl, ?_⟩
 simp only [List.map, Rows.uptoBulk, Rows.uptoBulkAll, xv] at l m ⊢
 omega
theorem RG {α : Type} {l : List α} (h : l.length = 6) : ∃ a0 a a2 a3 a4 a5, l = [a0, a, a2, a3, a4, a5] := by
 match l, h with
 | [a0, a, a2, a3, a4, a5], _ => exact ⟨a0, a, a2, a3, a4, a5, rfl⟩
def uH (x : jr) : Nat := xv x.Head + x.ky.size + xv x.B + xv x.C + x.kF.size
theorem N8 : Ge Tryz.prog 53 jv uH := by
 intro H l W base sp m fuel cs x h
 obtain ⟨xs, n, _, rfl, M, hlen, p⟩ := et Tryz.underlying53 h
 obtain ⟨T, U, Y, Z, y4, y5, rfl⟩ := RG hlen
 obtain ⟨a, c1, c2, b, d, g, i, j, k, rfl⟩ := PI (M.trans GO)
 have w : DataW.trod l Tryz.prog W base sp m n 3 (([a, c1, c2, b, d, g, i, j, k].drop 0).take (Tryz.prog.cellsOf 3)) = some T := p 0 _ rfl
 have h1 : DataW.trod l Tryz.prog W base sp m n 28 (([a, c1, c2, b, d, g, i, j, k].drop 1).take (Tryz.prog.cellsOf 28)) = some U := p 1 _ rfl
 have y : DataW.trod l Tryz.prog W base sp m n 9 (([a, c1, c2, b, d, g, i, j, k].drop 3).take (Tryz.prog.cellsOf 9)) = some Y := p 2 _ rfl
 have z : DataW.trod l Tryz.prog W base sp m n 28 (([a, c1, c2, b, d, g, i, j, k].drop 4).take (Tryz.prog.cellsOf 28)) = some Z := p 3 _ rfl
 have A : DataW.trod l Tryz.prog W base sp m n 28 (([a, c1, c2, b, d, g, i, j, k].drop 6).take (Tryz.prog.cellsOf 28)) = some y4 := p 4 _ rfl
 have D : DataW.trod l Tryz.prog W base sp m n 9 (([a, c1, c2, b, d, g, i, j, k].drop 8).take (Tryz.prog.cellsOf 9)) = some y5 := p 5 _ rfl
 simp only [EA, Gs, D1, List.drop, List.take] at w h1 y z A D
 obtain ⟨O, q, E⟩ := CF _ _ _ _ _ _ _ _ _ w
 obtain ⟨s1, r, F⟩ := Gc _ _ _ _ _ _ _ _ _ h1
 obtain ⟨s2, s, G⟩ := E8 _ _ _ _ _ _ _ _ _ y
 obtain ⟨P, t, I⟩ := Gc _ _ _ _ _ _ _ _ _ z
 obtain ⟨Q, u, J⟩ := Gc _ _ _ _ _ _ _ _ _ A
 obtain ⟨R, v, L⟩ := E8 _ _ _ _ _ _ _ _ _ D
 simp only [jA, bA, dN] at q r s t u v
 obtain rfl := q
 obtain ⟨rfl, rfl⟩ := r
 obtain rfl := s
 obtain ⟨rfl, rfl⟩ := t
 obtain ⟨rfl, rfl⟩ := u
 obtain rfl := v
 refine ⟨⟨O, s1, s2, P, Q, R⟩, rfl, ?_⟩
 simp only [List.map, Rows.uptoBulk, Rows.uptoBulkAll, uH] at E F G I J L ⊢
 omega
theorem Ka : Tryz.prog.cellsOf 54 = 1 := by kernel_rfl
theorem Mp : Tryz.prog.cellsOf 5 = 1 := by kernel_rfl
theorem Oh : Ej Tryz.prog 5 (JW (Pl (lu .u8)) (fun x => 0 ≤ x ∧ x < 256)) (fun _ => 0) := OT Tryz.underlying5
theorem AW : Tryz.prog.cellsOf 113 = 5 := by kernel_rfl
theorem RF {α : Type} {l : List α} (h : l.length = 4) : ∃ a0 a a2 a3, l = [a0, a, a2, a3] := by
 match l, h with
 | [a0, a, a2, a3], _ => exact ⟨a0, a, a2, a3, rfl⟩
theorem RJ {α : Type} {l : List α} (h : l.length = 5) : ∃ a0 a a2 a3 a4, l = [a0, a, a2, a3, a4] := by
 match l, h with
 | [a0, a, a2, a3, a4], _ => exact ⟨a0, a, a2, a3, a4, rfl⟩
theorem M9 : Tryz.prog.cellsOf 111 = 1 := by kernel_rfl
theorem RH {H : Type} {x : DataW H × List MemPlace} {ys : List (DataW H × List MemPlace)} {p : List MemPlace} (a : x = (.agg (ys.map (·.1)), p)) (i : Nat) {y : DataW H × List MemPlace} (h : ys[i]? = some y) : SizeOf.sizeOf y.1 < SizeOf.sizeOf x.1 := by
 subst a
 have := List.sizeOf_lt_of_mem (bL.2 ⟨y, dI h, rfl⟩ : y.1 ∈ ys.map (·.1))
 simp only [DataW.agg.sizeOf_spec]; omega
theorem Jl : ∀ l : List Formula, szFL l ≤ rS yJ l
 | [] => aY _
 | k :: l => by have := Jl l; rw [szFL]; simp only [rS, bP, fE] at this ⊢; omega
theorem O0 : ∀ (N : Nat) (H : Type) (I : TypeId × Value → H) (W : World) (base : Nat) (sp : Nat → Bool) (J : Bool) (fuel : Nat) (cs : List Value) (x : DataW H × List MemPlace),
  DataW.trod I Tryz.prog W base sp J fuel 113 cs = some x → SizeOf.sizeOf x.1 < N → ∃ a : Formula, jt (hp W) cs a ∧ yJ a ≤ Rows.uptoBulk x.1 := by
 intro N
 induction N with
 | zero => intro _ _ _ _ _ _ _ _ _ _ h; exact absurd h (Nat.not_lt_zero _)
 | succ N ih =>
  intro H I W base sp J fuel cs x h hN
  obtain ⟨a1, w, _, r, A, q, k⟩ := et Tryz.underlying113 h
  obtain ⟨s, t, u, v, rfl⟩ := RF q
  obtain ⟨b, d, g, i, j, rfl⟩ := RJ (A.trans AW)
  have l : DataW.trod _ Tryz.prog W _ _ _ w 3 (([b, d, g, i, j].drop 0).take (Tryz.prog.cellsOf 3)) = some s := k 0 _ rfl
  have m : DataW.trod _ Tryz.prog W _ _ _ w 3 (([b, d, g, i, j].drop 1).take (Tryz.prog.cellsOf 3)) = some t := k 1 _ rfl
  have n : DataW.trod _ Tryz.prog W _ _ _ w 28 (([b, d, g, i, j].drop 2).take (Tryz.prog.cellsOf 28)) = some u := k 2 _ rfl
  have p : DataW.trod _ Tryz.prog W _ _ _ w 111 (([b, d, g, i, j].drop 4).take (Tryz.prog.cellsOf 111)) = some v := k 3 _ rfl
  simp only [M9, EA, Gs, List.drop, List.take] at l m n p
  obtain ⟨s2, D, O⟩ := CF _ _ _ _ _ _ _ _ _ l
  simp only [bA, dN] at D
  obtain rfl := D
  obtain ⟨Y, E, P⟩ := CF _ _ _ _ _ _ _ _ _ m
  simp only [bA, dN] at E
  obtain rfl := E
  obtain ⟨Z, F, Q⟩ := Gc _ _ _ _ _ _ _ _ _ n
  simp only [jA, bA, dN] at F
  obtain ⟨rfl, rfl⟩ := F
  obtain ⟨v5, L, G, U, R⟩ := E2 AW (by decide) Tryz.underlying111 (fun f cs y h T => ih _ _ _ _ _ _ _ _ _ h (by have := RH r 3 rfl; omega)) p
  simp only [bA, dN] at G
  obtain rfl := G
  have M := bN (fun z => Rows.uptoBulk z.1) r
  refine ⟨⟨s2, Y, Z, L⟩, jt.mk ⟨_, rfl, U⟩, ?_⟩
  have T := Jl L
  simp only [List.map, Rows.uptoBulk, Rows.uptoBulkAll, xv] at O P Q R M ⊢
  rw [Jk]
  simp only
  omega
theorem G2 : Ej Tryz.prog 113 jt yJ := fun H a W base sp b fuel cs x h => O0 _ H a W base sp b fuel cs x h (bE _)
def ui (x : kz) : Nat := uH x.Signed.jr + rS (fun _ : Int => 0) x.Signed.Tag + 1 + yJ x.jx + 1
def MM (x : kz) : Prop := (∀ y ∈ x.Signed.Tag, 0 ≤ y ∧ y < 256)
theorem J8 : Ej Tryz.prog 138 (JW kc MM) ui := by
 intro H eh W base sp hd fuel cs x h
 obtain ⟨a6, n6, _, R, Q, A, G⟩ := et Tryz.underlying138 h
 obtain ⟨J, L, rfl⟩ := D8 A
 obtain ⟨a, b, d, g, i, j, k, l, m, n, p, q, r, s, t, rfl⟩ := QN (Q.trans Fz)
 have u : DataW.trod _ Tryz.prog W _ _ _ n6 56 (([a, b, d, g, i, j, k, l, m, n, p, q, r, s, t].drop 0).take (Tryz.prog.cellsOf 56)) = some J := G 0 _ rfl
 have v : DataW.trod _ Tryz.prog W _ _ _ n6 113 (([a, b, d, g, i, j, k, l, m, n, p, q, r, s, t].drop 10).take (Tryz.prog.cellsOf 113)) = some L := G 1 _ rfl
 simp only [AW, OI, List.drop, List.take] at u v
 obtain ⟨a7, n7, _, T, a1, D, I⟩ := et Tryz.underlying56 u
 obtain ⟨M, O, rfl⟩ := D8 D
 have w : DataW.trod _ Tryz.prog W _ _ _ n7 53 (([a, b, d, g, i, j, k, l, m, n].drop 0).take (Tryz.prog.cellsOf 53)) = some M := I 0 _ rfl
 have y : DataW.trod _ Tryz.prog W _ _ _ n7 54 (([a, b, d, g, i, j, k, l, m, n].drop 9).take (Tryz.prog.cellsOf 54)) = some O := I 1 _ rfl
 simp only [GO, Ka, List.drop, List.take] at w y
 obtain ⟨s8, Z, b8⟩ := N8 _ _ _ _ _ _ _ _ _ w
 simp only [jv, jA, bA, dN] at Z
 obtain ⟨rfl, rfl, rfl, rfl, rfl, rfl, rfl, rfl, rfl⟩ := Z
 obtain ⟨v9, s9, e9, U, b9⟩ := te Mp (by decide) Oh Tryz.underlying54 y
 simp only [bA, dN] at e9
 obtain rfl := e9
 obtain ⟨U, g9⟩ := Lf.Sl.all U
 have b7 := bN (fun z => Rows.uptoBulk z.1) T
 obtain ⟨Y, E, P⟩ := G2 _ _ _ _ _ _ _ _ _ v
 obtain ⟨v10, F, E⟩ := E.out
 simp only [bA, dN] at F
 obtain ⟨rfl, rfl, rfl, rfl, rfl⟩ := F
 have b6 := bN (fun z => Rows.uptoBulk z.1) R
 refine ⟨⟨⟨s8, s9⟩, Y⟩, ⟨kc.mk ⟨_, _, rfl, U, E⟩, g9⟩, ?_⟩
 simp only [List.map, Rows.uptoBulk, Rows.uptoBulkAll, ui] at b8 b9 b7 P b6 ⊢
 omega
theorem Io : Tryz.prog.cellsOf 108 = 1 := by kernel_rfl
theorem Fc : Tryz.prog.cellsOf 263 = 8 := by kernel_rfl
theorem RS {α : Type} {l : List α} (h : l.length = 8) : ∃ a0 a a2 a3 a4 a5 b d, l = [a0, a, a2, a3, a4, a5, b, d] := by
 match l, h with
 | [a0, a, a2, a3, a4, a5, b, d], _ => exact ⟨a0, a, a2, a3, a4, a5, b, d, rfl⟩
theorem OB : Tryz.prog.cellsOf 22 = 1 := by kernel_rfl
def xB (x : oe) : Nat := xv x.jq + yJ x.jx + rS uH x.ms + 1
def QX (x : oe) : Prop := True
theorem Kh : Ej Tryz.prog 263 (JW kX QX) xB := by
 intro H U W base sp Y fuel cs x h
 obtain ⟨Q, n11, _, E, D, r, q⟩ := et Tryz.underlying263 h
 obtain ⟨t, u, v, rfl⟩ := NN r
 obtain ⟨a, b, d, g, i, j, k, l, rfl⟩ := RS (D.trans Fc)
 have m : DataW.trod _ Tryz.prog W _ _ _ n11 28 (([a, b, d, g, i, j, k, l].drop 0).take (Tryz.prog.cellsOf 28)) = some t := q 0 _ rfl
 have n : DataW.trod _ Tryz.prog W _ _ _ n11 113 (([a, b, d, g, i, j, k, l].drop 2).take (Tryz.prog.cellsOf 113)) = some u := q 1 _ rfl
 have p : DataW.trod _ Tryz.prog W _ _ _ n11 22 (([a, b, d, g, i, j, k, l].drop 7).take (Tryz.prog.cellsOf 22)) = some v := q 2 _ rfl
 simp only [AW, OB, EA, List.drop, List.take] at m n p
 obtain ⟨M, w, G⟩ := Gc _ _ _ _ _ _ _ _ _ m
 simp only [jA, bA, dN] at w
 obtain ⟨rfl, rfl⟩ := w
 obtain ⟨O, s, I⟩ := G2 _ _ _ _ _ _ _ _ _ n
 obtain ⟨R, y, s⟩ := s.out
 simp only [bA, dN] at y
 obtain ⟨rfl, rfl, rfl, rfl, rfl⟩ := y
 obtain ⟨T, P, A, L, J⟩ := te GO (by decide) N8.rel Tryz.underlying22 p
 simp only [bA, dN] at A
 obtain rfl := A
 have F := bN (fun z => Rows.uptoBulk z.1) E
 refine ⟨⟨M, O, P⟩, ⟨kX.mk ⟨_, _, rfl, s, L⟩, trivial⟩, ?_⟩
 simp only [List.map, Rows.uptoBulk, Rows.uptoBulkAll, xB] at G I J F ⊢
 omega
theorem IN : Tryz.prog.cellsOf 114 = 2 := by kernel_rfl
def DZ (x : ye) : Nat := 0
theorem Qm : Ge Tryz.prog 114 FT DZ := by
 intro H g W base sp j fuel cs x h
 obtain ⟨xs, n, _, rfl, p, hlen, k⟩ := DataW.trod_array Tryz.underlying114 h
 obtain ⟨r, s, rfl⟩ := D8 hlen
 obtain ⟨a, c1, rfl⟩ := D8 (p.trans IN)
 have i : DataW.trod g Tryz.prog W base sp j n 3 (([a, c1].drop (0 * Tryz.prog.cellsOf 3)).take (Tryz.prog.cellsOf 3)) = some r := k 0 (by decide)
 have h1 : DataW.trod g Tryz.prog W base sp j n 3 (([a, c1].drop (1 * Tryz.prog.cellsOf 3)).take (Tryz.prog.cellsOf 3)) = some s := k 1 (by decide)
 simp only [Gs, List.drop, List.take, Nat.reduceMul] at i h1
 obtain ⟨q, b, l⟩ := CF _ _ _ _ _ _ _ _ _ i
 obtain ⟨s1, d, m⟩ := CF _ _ _ _ _ _ _ _ _ h1
 simp only [bA, dN] at b d
 obtain rfl := b
 obtain rfl := d
 refine ⟨⟨q, s1⟩, rfl, ?_⟩
 simp only [List.map, Rows.uptoBulk, Rows.uptoBulkAll, DZ] at l m ⊢
 omega
theorem OH : Tryz.prog.cellsOf 49 = 1 := by kernel_rfl
theorem Jn : Tryz.prog.cellsOf 196 = 2 := by kernel_rfl
def Bo (x : Key) : Nat := x.ky.size + rS (fun _ : Int => 0) x.Key + 1
def QZ (x : Key) : Prop := (∀ y ∈ x.Key, 0 ≤ y ∧ y < 256)
theorem Pj : Ej Tryz.prog 196 (JW qa QZ) Bo := by
 intro H A W base sp D fuel cs x h
 obtain ⟨y, n15, _, r, q, i, j⟩ := et Tryz.underlying196 h
 obtain ⟨l, m, rfl⟩ := D8 i
 obtain ⟨a, b, rfl⟩ := D8 (q.trans Jn)
 have d : DataW.trod _ Tryz.prog W _ _ _ n15 9 (([a, b].drop 0).take (Tryz.prog.cellsOf 9)) = some l := j 0 _ rfl
 have g : DataW.trod _ Tryz.prog W _ _ _ n15 54 (([a, b].drop 1).take (Tryz.prog.cellsOf 54)) = some m := j 1 _ rfl
 simp only [Ka, D1, List.drop, List.take] at d g
 obtain ⟨v, n, t⟩ := E8 _ _ _ _ _ _ _ _ _ d
 simp only [bA, dN] at n
 obtain rfl := n
 obtain ⟨v17, w, p, k, u⟩ := te Mp (by decide) Oh Tryz.underlying54 g
 simp only [bA, dN] at p
 obtain rfl := p
 obtain ⟨k, g17⟩ := Lf.Sl.all k
 have s := bN (fun z => Rows.uptoBulk z.1) r
 refine ⟨⟨v, w⟩, ⟨qa.mk ⟨_, rfl, k⟩, g17⟩, ?_⟩
 simp only [List.map, Rows.uptoBulk, Rows.uptoBulkAll, Bo] at t u s ⊢
 omega
def F6 (x : nf) : Nat := x.js.Name.size + rS ui x.js.jH + rS xB x.js.ke + 1 + x.Client.Name.size + rS ui x.Client.jH + rS xB x.Client.ke + 1 + yJ x.Formula + DZ x.mG + rS Bo x.Keys + 1
theorem QT : Tryz.prog.readableRec 116 = true ∧ 116 < Tryz.prog.types.size := ⟨by kernel_rfl, iM (by kernel_rfl)⟩
theorem Cd (c : jr) : xA c = uH c := by unfold xA uH xv; omega
theorem J1 {α : Type} (sz : α → Nat) (h : ∀ a, 2 ≤ sz a) : ∀ l : List α, 2 * l.length ≤ rS sz l
 | [] => eX _
 | a :: l => by have := J1 sz h l; have := h a; simp only [rS, bP, fE, aO] at *; omega
theorem AU (y : kz) : ui y = uH y.Signed.jr + rS (fun _ : Int => 0) y.Signed.Tag + 1 + yJ y.jx + 1 := rfl
theorem I7 (y : oe) : xB y = xv y.jq + yJ y.jx + rS uH y.ms + 1 := rfl
theorem Nq (y : Key) : Bo y = y.ky.size + rS (fun _ : Int => 0) y.Key + 1 := rfl
theorem JS : ∀ l : List jr, xO l ≤ 21 * rS uH l
 | [] => eX _
 | c :: l => by have := JS l; rw [xO, Cd]; simp only [rS, bP, fE] at *; omega
theorem KB : ∀ l : List kz, BK l ≤ 21 * rS ui l
 | [] => eX _
 | x :: l => by
  have := KB l
  have := BS (fun _ : Int => 0) x.Signed.Tag
  rw [BK, Cd]
  have e := AU x
  simp only [rS, bP, fE] at *; omega
theorem Ke : ∀ l : List oe, AT l ≤ 21 * rS xB l
 | [] => eX _
 | x :: l => by
  have := Ke l
  have := JS x.ms
  rw [AT]
  have e := I7 x
  unfold xv at e
  have a : rS xB (x :: l) = max 1 (xB x) + rS xB l := rfl
  omega
theorem Ko : ∀ l : List Key, Cc l ≤ 11 * rS Bo l
 | [] => eX _
 | x :: l => by
  have := Ko l
  have := BS (fun _ : Int => 0) x.Key
  rw [Cc]
  have e := Nq x
  have a : rS Bo (x :: l) = max 1 (Bo x) + rS Bo l := rfl
  omega
theorem I3 (x : kI) (d : x.Name.size ≤ 1048576) (h1 : rS ui x.jH ≤ 1048576) (g : rS xB x.ke ≤ 1048576) : PG x ∧ x.jH.length ≤ 600000 ∧ HI x ≤ 1000000000 := by
 have c1 := J1 ui (fun y => by rw [AU]; omega) x.jH
 have c2 := BS xB x.ke
 have g1 : ∀ y ∈ x.jH, uH y.Signed.jr ≤ 1048576 ∧ kv y.jx ≤ 1048576 := fun y a => by
  have := Gv (sz := ui) a
  have e := AU y
  have := Bd y.jx
  omega
 have g2 : ∀ y ∈ x.ke, kv y.jx ≤ 1048576 ∧ rS uH y.ms ≤ 1048576 := fun y a => by
  have := Gv (sz := xB) a
  have e := I7 y
  have := Bd y.jx
  omega
 refine ⟨{ FQ := by omega, Ly := by omega, rel := fun y a => ?_, KQ := fun y a => ?_, Rk := fun y a => ?_, Sc := fun y a => ?_, R9 := fun y a c b => ?_ }, by omega, ?_⟩
 ·have := (g1 y a).2; omega
 ·have := (g2 y a).1; omega
 ·have := (g2 y a).2; have := BS uH y.ms; omega
 ·have := (g1 y a).1; rw [Cd]; omega
 ·have := (g2 y a).2; have := Gv (sz := uH) b; rw [Cd]; omega
 ·have := KB x.jH; have := Ke x.ke; unfold HI; omega
theorem OS (p : nf) (h : F6 p ≤ 1048576) : PQ p := by
 unfold F6 at h
 have a := I3 p.js (by omega) (by omega) (by omega)
 have b := I3 p.Client (by omega) (by omega) (by omega)
 have k := Ko p.Keys
 have f := Bd p.Formula
 exact { o := a.1, c := b.1, lo := a.2.1, lc := b.2.1, f := by omega, go := a.2.2, gc := b.2.2, fs := by omega, ks := by omega }
theorem own : ownKnob Tryz.prog.godebug = none := by kernel_rfl
theorem M1 : laidOutB Tryz.prog = true := by kernel_rfl
theorem M6 (H : Type) (enc : TypeId × Value → H) (W : World) (base : Nat) (args : Array Value) (ds gs : List (DataW H)) (before : List MemPlace) (ae : ∀ (j : Nat) t v, Tryz.f11.params[j]? = some t → args[j]? = some v → Value.okWide Tryz.prog W .any base t v) (hW : DataW.Whole enc Tryz.prog Tryz.f11.params.toList Rows.stuckTellsSpec.vars false W args.toList ds gs before) (hk : Rows.uptoSmall H (ds ++ gs) = true) :
  Calls Tryz.prog 11 args W fun e W' => ∃ v, e = .returned v ∧ Rows.stuckTellsSpec.post enc Tryz.prog Tryz.f11 false true false false W args v W' := by
 have ct := hW
 obtain ⟨p, q, cs, hV, rfl, dh, di⟩ := hW
 have hA : DataW.TrodAll enc Tryz.prog W 0 (fun _ => true) true Tryz.f11.params.toList args.toList ds p := cs
 have hr : ∀ t ∈ Tryz.f11.params.toList, Tryz.prog.readableRec t = true ∧ t < Tryz.prog.types.size := by
  rw [Tryz.params11]
  intro t ht
  simp only [aR, dR, gd] at ht
  subst ht
  exact QT
 rw [Tryz.params11] at hA ae
 obtain ⟨v0, dj, d0, da, p0, q0, cu, rfl, rfl, h0, r0⟩ := trodAll_cons hA
 obtain ⟨rfl, rfl, rfl⟩ := trodAll_nil r0
 obtain rfl : args = #[v0] := by cases args; simp_all
 obtain ⟨rfl, rfl⟩ := trodVars_none hV
 have k0 := ae 0 116 v0 rfl rfl
 obtain ⟨bj, rfl, _⟩ := okWide_struct Tryz.underlying116 k0
 obtain ⟨db, c3⟩ := h0
 obtain ⟨cv, rfl⟩ : ∃ l : List Value, bj = l.toArray := ⟨bj.toList, by simp⟩
 change DataW.trod _ _ _ _ _ _ _ _ cv = some _ at c3
 obtain ⟨cy, n18, _, c5, c4, aa, F⟩ := et Tryz.underlying116 c3
 obtain ⟨b1, b2, b3, b4, b5, b6, b7, b9, ba, rfl⟩ := PI aa
 obtain ⟨k, a, b, m, d, g, y, A, D, E, h, n, r, s, u, w, x, i, rfl⟩ := Rf (c4.trans NJ)
 have G : DataW.trod _ Tryz.prog W _ _ _ n18 110 (([k, a, b, m, d, g, y, A, D, E, h, n, r, s, u, w, x, i].drop 0).take (Tryz.prog.cellsOf 110)) = some b1 := F 0 _ rfl
 have I : DataW.trod _ Tryz.prog W _ _ _ n18 110 (([k, a, b, m, d, g, y, A, D, E, h, n, r, s, u, w, x, i].drop 3).take (Tryz.prog.cellsOf 110)) = some b2 := F 1 _ rfl
 have J : DataW.trod _ Tryz.prog W _ _ _ n18 113 (([k, a, b, m, d, g, y, A, D, E, h, n, r, s, u, w, x, i].drop 6).take (Tryz.prog.cellsOf 113)) = some b3 := F 2 _ rfl
 have L : DataW.trod _ Tryz.prog W _ _ _ n18 3 (([k, a, b, m, d, g, y, A, D, E, h, n, r, s, u, w, x, i].drop 11).take (Tryz.prog.cellsOf 3)) = some b4 := F 3 _ rfl
 have M : DataW.trod _ Tryz.prog W _ _ _ n18 114 (([k, a, b, m, d, g, y, A, D, E, h, n, r, s, u, w, x, i].drop 12).take (Tryz.prog.cellsOf 114)) = some b5 := F 4 _ rfl
 have O : DataW.trod _ Tryz.prog W _ _ _ n18 3 (([k, a, b, m, d, g, y, A, D, E, h, n, r, s, u, w, x, i].drop 14).take (Tryz.prog.cellsOf 3)) = some b6 := F 5 _ rfl
 have P : DataW.trod _ Tryz.prog W _ _ _ n18 3 (([k, a, b, m, d, g, y, A, D, E, h, n, r, s, u, w, x, i].drop 15).take (Tryz.prog.cellsOf 3)) = some b7 := F 6 _ rfl
 have Q : DataW.trod _ Tryz.prog W _ _ _ n18 3 (([k, a, b, m, d, g, y, A, D, E, h, n, r, s, u, w, x, i].drop 16).take (Tryz.prog.cellsOf 3)) = some b9 := F 7 _ rfl
 have R : DataW.trod _ Tryz.prog W _ _ _ n18 49 (([k, a, b, m, d, g, y, A, D, E, h, n, r, s, u, w, x, i].drop 17).take (Tryz.prog.cellsOf 49)) = some ba := F 8 _ rfl
 simp only [NK, AW, IN, Gs, OH, List.drop, List.take] at G I J L M O P Q R
 obtain ⟨cz, n19, _, c6, cw, ab, a7⟩ := et Tryz.underlying110 G
 obtain ⟨bb, bc, bd, rfl⟩ := NN ab
 have T : DataW.trod _ Tryz.prog W _ _ _ n19 9 (([k, a, b].drop 0).take (Tryz.prog.cellsOf 9)) = some bb := a7 0 _ rfl
 have U : DataW.trod _ Tryz.prog W _ _ _ n19 107 (([k, a, b].drop 1).take (Tryz.prog.cellsOf 107)) = some bc := a7 1 _ rfl
 have Y : DataW.trod _ Tryz.prog W _ _ _ n19 108 (([k, a, b].drop 2).take (Tryz.prog.cellsOf 108)) = some bd := a7 2 _ rfl
 simp only [Ir, Io, D1, List.drop, List.take] at T U Y
 obtain ⟨al, bk, ca⟩ := E8 _ _ _ _ _ _ _ _ _ T
 simp only [bA, dN] at bk
 obtain rfl := bk
 obtain ⟨v21, an, bl, af, cb⟩ := te Fz (by decide) J8 Tryz.underlying107 U
 simp only [bA, dN] at bl
 obtain rfl := bl
 obtain ⟨af, g21⟩ := Lf.Sl.all af
 obtain ⟨v22, ao, bn, ag, cc⟩ := te Fc (by decide) Kh Tryz.underlying108 Y
 simp only [bA, dN] at bn
 obtain rfl := bn
 obtain ⟨ag, g22⟩ := Lf.Sl.all ag
 have c9 := bN (fun z => Rows.uptoBulk z.1) c6
 obtain ⟨cS, n23, _, c7, cx, ad, a8⟩ := et Tryz.underlying110 I
 obtain ⟨bf, bh, bi, rfl⟩ := NN ad
 have Z : DataW.trod _ Tryz.prog W _ _ _ n23 9 (([m, d, g].drop 0).take (Tryz.prog.cellsOf 9)) = some bf := a8 0 _ rfl
 have a1 : DataW.trod _ Tryz.prog W _ _ _ n23 107 (([m, d, g].drop 1).take (Tryz.prog.cellsOf 107)) = some bh := a8 1 _ rfl
 have a6 : DataW.trod _ Tryz.prog W _ _ _ n23 108 (([m, d, g].drop 2).take (Tryz.prog.cellsOf 108)) = some bi := a8 2 _ rfl
 simp only [Ir, Io, D1, List.drop, List.take] at Z a1 a6
 obtain ⟨ap, bo, cf⟩ := E8 _ _ _ _ _ _ _ _ _ Z
 simp only [bA, dN] at bo
 obtain rfl := bo
 obtain ⟨v25, aq, bp, ah, cg⟩ := te Fz (by decide) J8 Tryz.underlying107 a1
 simp only [bA, dN] at bp
 obtain rfl := bp
 obtain ⟨ah, de⟩ := Lf.Sl.all ah
 obtain ⟨v26, ar, bq, ai, ch⟩ := te Fc (by decide) Kh Tryz.underlying108 a6
 simp only [bA, dN] at bq
 obtain rfl := bq
 obtain ⟨ai, df⟩ := Lf.Sl.all ai
 have cd := bN (fun z => Rows.uptoBulk z.1) c7
 obtain ⟨au, aj, cj⟩ := G2 _ _ _ _ _ _ _ _ _ J
 obtain ⟨v27, bs, aj⟩ := aj.out
 simp only [bA, dN] at bs
 obtain ⟨rfl, rfl, rfl, rfl, rfl⟩ := bs
 obtain ⟨av, bt, ck⟩ := CF _ _ _ _ _ _ _ _ _ L
 simp only [bA, dN] at bt
 obtain rfl := bt
 obtain ⟨aw, bu, cm⟩ := Qm _ _ _ _ _ _ _ _ _ M
 simp only [FT, bA, dN] at bu
 obtain ⟨rfl, rfl⟩ := bu
 obtain ⟨ay, bw, cn⟩ := CF _ _ _ _ _ _ _ _ _ O
 simp only [bA, dN] at bw
 obtain rfl := bw
 obtain ⟨az, bx, cp⟩ := CF _ _ _ _ _ _ _ _ _ P
 simp only [bA, dN] at bx
 obtain rfl := bx
 obtain ⟨aE, bz, cq⟩ := CF _ _ _ _ _ _ _ _ _ Q
 simp only [bA, dN] at bz
 obtain rfl := bz
 obtain ⟨v33, b0, c0, ak, cr⟩ := te Jn (by decide) Pj Tryz.underlying49 R
 simp only [bA, dN] at c0
 obtain rfl := c0
 obtain ⟨ak, dg⟩ := Lf.Sl.all ak
 have c8 := bN (fun z => Rows.uptoBulk z.1) c5
 simp only [List.map, Rows.uptoBulk, Rows.uptoBulkAll] at ca cb cc c9 cf cg ch cd cj ck cm cn cp cq cr c8
 have z0 : F6 (⟨⟨al, an, ao⟩, ⟨ap, aq, ar⟩, au, av, aw, ay, az, aE, b0⟩ : nf) ≤ Rows.uptoBulk d0 := by simp only [F6]; omega
 have hB : Rows.uptoBulkAll ([d0] ++ []) ≤ 1048576 := iM hk
 simp only [bH, Rows.uptoBulkAll] at hB
 have hm : uk (⟨⟨al, an, ao⟩, ⟨ap, aq, ar⟩, au, av, aw, ay, az, aE, b0⟩ : nf) = some true := GD OL _ (OS _ (by omega))
 have hg := DF (⟨⟨al, an, ao⟩, ⟨ap, aq, ar⟩, au, av, aw, ay, az, aE, b0⟩ : nf) a b d g h i true W af ag ah ai aj ak hm
 refine dV hg fun e W' ⟨he, hx⟩ => ?_
 subst he
 exact ⟨_, rfl, Ld M1 hr rfl ct hx (fun _ _ _ => trodAll_cons_mk (shut_bool Tryz.underlying4 _) trodAll_mk0) rfl rfl (ok_one (by kernel_rfl) rfl (okWide_bool_mk Tryz.underlying4 _))⟩
set_option maxRecDepth 100000 in
theorem Qq (os : Os) (started : os.Started) (H : Type) (enc : TypeId × Value → H) (F : Stop.Interp) :
  ReturnsInHanded {} Tryz.checked os 11 .any ((Rows.OpenSpec.upto Rows.stuckTellsSpec).pre6 enc Tryz.prog Tryz.f11 Rows.stuckTellsUptoRow.domain false) (((Rows.OpenSpec.upto Rows.stuckTellsSpec).at F).post enc Tryz.prog Tryz.f11 false true false false) := by
 refine returnsInHanded_of_cond (C := Tryz.checked) (s := Rows.OpenSpec.upto Rows.stuckTellsSpec) (k := Rows.uptoSmall) rfl own started (by kernel_rfl) Tryz.func11
  (OpenSpec.witness (enc := enc) (C := Tryz.checked) (s := Rows.OpenSpec.upto Rows.stuckTellsSpec) (k := Rows.uptoSmall) rfl false ⟨#[], #[.agg #[.string ⟨#[]⟩, .slice none 0 0, .slice none 0 0, .string ⟨#[]⟩, .slice none 0 0, .slice none 0 0, .int .i64 0, .int .i64 0, .string ⟨#[]⟩, .string ⟨#[]⟩, .slice none 0 0, .int .i64 0, .int .i64 0, .int .i64 0, .int .i64 0, .int .i64 0, .int .i64 0, .slice none 0 0]], []⟩ 8 (by kernel_rfl) (by kernel_rfl) (by kernel_rfl)
   (x := ([.agg [.agg [.lit (.string []), .nil, .nil], .agg [.lit (.string []), .nil, .nil], .agg [.lit (.int .i64 0), .lit (.int .i64 0), .agg [.lit (.string []), .lit (.string [])], .nil], .lit (.int .i64 0), .agg [.lit (.int .i64 0), .lit (.int .i64 0)], .lit (.int .i64 0), .lit (.int .i64 0), .lit (.int .i64 0), .nil]], [], [])) (by kernel_rfl) rfl (by kernel_rfl)) ?_
 intro W base args ds gs before a b _ hk _
 exact M6 H enc W base args ds gs before a b hk
theorem QW {a b : Bool} (ha : a = true) (d : b = true) : (a && b) = true := by rw [ha, d]; rfl
set_option maxHeartbeats 40000000 in
theorem OC : joinedFacts Tryz.checked.prog 11 Tryz.f11 (Rows.OpenSpec.upto Rows.stuckTellsSpec).bare Rows.stuckTellsUptoRow = true := by
 unfold joinedFacts
 repeat' with_reducible refine QW ?_ ?_
 all_goals as_aux_lemma => kernel_rfl
theorem proved : Rows.StuckTellsUptoSaid :=
 OpenClaim.holds_of_cond 11 Tryz.f11 rfl rfl rfl rfl rfl rfl rfl ⟨rfl, rfl, rfl, rfl, rfl⟩ rfl rfl rfl rfl rfl (by kernel_rfl) Tryz.func11 OC
  (iM (by kernel_rfl)) (by unfold Func.isWrapper; first | (rw [bD (by decide +kernel)]; kernel_rfl) | (rw [bI (by decide +kernel)]; exact ⟨rfl, rfl⟩))
  (fun os started H enc _ F => Qq os started H enc F)
end Go.Proofs.YtmlncblocfcmiaaGreat
