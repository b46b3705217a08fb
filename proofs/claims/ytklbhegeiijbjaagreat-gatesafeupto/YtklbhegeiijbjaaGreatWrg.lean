/- a part of a proof of GateSafe -/
import Derived.Test.YtklbhegeiijbjaaGreatHeg
import Derived.Test.YtklbhegeiijbjaaGreatRtVg
import Derived.Test.YtklbhegeiijbjaaGreatRows
import Derived.WalkKit
import Derived.ProofKit
import Derived.OpenShut
import Derived.JoinedCond
import Derived.Deep.Slices
import Derived.Carry
import Derived.ChangeArms
import Derived.ChangeSame
import Derived.Test.YtklbhegeiijbjaaGreatGSW3g
set_option linter.all false
namespace Go.Proofs.YtklbhegeiijbjaaGreat
open Go.Proofs.Tryz renaming prog → pg0
open Go.RowKit
theorem IK : ∀ (l m A : List lf), l.length = m.length → ∃ b, ri (A ++ m) l A.length = some b ∧ (b = true ↔ l = m)
 | [], m, A, c => by
  obtain rfl := aV c.symm
  exact ⟨true, rfl, by simp⟩
 | x :: l, [], A, c => by simp at c
 | x :: l, y :: m, A, c => by
  have i1 : mZ (A ++ y :: m) (A.length : Int) = some y := oy _ _ _ _ rfl
  rw [ri, i1, aA]
  cases d : nw x y with
  | false =>
   refine ⟨false, rfl, ?_⟩
   have : x ≠ y := fun a => by have := pe.2 a; rw [this] at d; cases d
   simp [this]
  | true =>
   have a := pe.1 d
   obtain ⟨b, g, j⟩ := IK l m (A ++ [y]) (by simpa using c)
   simp only [bU, aB, aK]
   have h : A ++ y :: m = (A ++ [y]) ++ m := by simp
   have i : A.length + 1 = (A ++ [y]).length := by simp
   rw [h, i, g]
   exact ⟨b, rfl, by rw [j]; simp [a]⟩
theorem N1 (l m : List lf) : ∃ b, qe l m = some b ∧ (b = true ↔ l = m) := by
 unfold qe
 by_cases h : l.length = m.length
 ·have : ((l.length : Int) != (m.length : Int)) = false := by simp [h]
  simp only [this, aB, aK]
  exact IK l m [] h
 ·have : ((l.length : Int) != (m.length : Int)) = true := by simp; omega
  simp only [this, aS]
  exact ⟨false, rfl, by simp; intro hk; rw [hk] at h; exact h rfl⟩
theorem Ij (l : List lf) (g : l.length ≤ 1000000000) : ∃ b, vS l = some b ∧ (b = true ↔ yv l l) := by
 obtain ⟨s, e, h⟩ := Eu l g
 obtain ⟨b, c, d⟩ := N1 s l
 unfold vS
 rw [e, aA, c]
 refine ⟨b, rfl, d.trans ⟨fun a => ?_, fun a => vK.unique Az h a⟩⟩
 rw [a] at h; exact h
def RS (l : List mg) : Prop := (∀ x ∈ l, x.Signed.Tag.length = 8 ∧ qO x.ly = true) ∧ yv (l.map (·.Signed.lf)) (l.map (·.Signed.lf))
theorem Iy : ∀ (l : List mg) (acc : List lf), acc.length + l.length ≤ 1000000000 → (∀ x ∈ l, mB x.ly ≤ 10000000) →
  ∃ b, sT l acc = some b ∧ (b = true ↔ (∀ x ∈ l, x.Signed.Tag.length = 8 ∧ qO x.ly = true) ∧ yv (acc ++ l.map (·.Signed.lf)) (acc ++ l.map (·.Signed.lf)))
 | [], acc, h, _ => by
  obtain ⟨b, e, c⟩ := Ij acc (by omega)
  rw [sT, e]
  exact ⟨b, rfl, by simpa using c⟩
 | x :: l, acc, h, d => by
  rw [aI] at h
  have i := d x (by simp)
  rw [sT, Aw _ (by omega)]
  simp only [aA]
  by_cases c1 : x.Signed.Tag.length = 8
  ·have a : ((x.Signed.Tag.length : Int) != 8) = false := by simp [c1]
   simp only [a, aB, aK, aA]
   cases c2 : qO x.ly
   ·refine ⟨false, rfl, ?_⟩
    constructor
    ·intro h; cases h
    ·rintro ⟨h1, _⟩
     have := (h1 x (by simp)).2
     rw [c2] at this; cases this
   ·simp only [bU, aB, aK]
    obtain ⟨b, e, c⟩ := Iy l (acc ++ [x.Signed.lf]) (by simp; omega) (fun z g => d z (by simp [g]))
    rw [ob (by simp; omega) (by simp; omega), aA, e]
    refine ⟨b, rfl, c.trans ?_⟩
    simp only [aQ, cE, bN, bF, ig]
    simp only [c1, c2, true_and]
  ·have a : ((x.Signed.Tag.length : Int) != 8) = true := by simp; omega
   simp only [a, aS, aA]
   refine ⟨false, rfl, ?_⟩
   constructor
   ·intro h; cases h
   ·rintro ⟨h1, _⟩
    exact absurd (h1 x (by simp)).1 c1
def E6 : Option lg → List nQ → Prop
 | _, [] => True
 | q, a :: l => (∀ z, q = some z → Aa z a.lg = true) ∧ E6 (some a.lg) l
def Tg (l : List nQ) : Prop := (∀ a ∈ l, np a.lg = true ∧ qO a.ly = true ∧ yv a.ns a.ns) ∧ E6 none l
theorem PY (A : List nQ) (a : nQ) (l : List nQ) (k : A.length + 1 + l.length ≤ 1000000000) : ∃ b, (((if (decide ((A.length : Int) > 0)) then ((mZ (A ++ a :: l) (IntKind.i64.wrap ((A.length : Int) - 1))).bind fun i => ((oV i.lg a.lg).bind fun d => some (decide (d ≥ 0)))) else some false) : Option Bool).bind fun g => some g) = some b ∧ (b = false ↔ ∀ z, A.getLast?.map (·.lg) = some z → Aa z a.lg = true) := by
 rw [pE]
 rcases dS A with rfl | ⟨B, y, rfl⟩
 ·exact ⟨false, rfl, by simp⟩
 ·have h1 : ((B ++ [y]).length : Int) > 0 := by simp
  simp only [fG] at *
  simp only [h1, bZ, aS]
  have hw : IntKind.i64.wrap (((B ++ [y]).length : Int) - 1) = (B.length : Int) := by rw [mr (by simp) (by simp at *; omega)]; simp
  rw [hw, aQ]
  rw [show B ++ ([y] ++ a :: l) = B ++ y :: (a :: l) from rfl, oy B y (a :: l) _ rfl, aA]
  obtain ⟨c, e, h⟩ := vJ y.lg a.lg
  rw [e, aA]
  refine ⟨_, rfl, ?_⟩
  simp only [List.getLast?_append, List.getLast?_singleton, Option.some_or, dZ, iR]
  rw [decide_eq_false_iff_not]
  constructor
  ·rintro j z rfl; exact h.1 (by omega)
  ·intro j; have := h.2 (j _ rfl); omega
theorem Kw (all : List nQ) : ∀ (l A : List nQ), all = A ++ l → all.length ≤ 1000000000 → (∀ a ∈ l, mB a.ly ≤ 10000000 ∧ a.ns.length ≤ 2000000) →
  ∃ b, tZ all l A.length = some b ∧ (b = true ↔ (∀ a ∈ l, np a.lg = true ∧ qO a.ly = true ∧ yv a.ns a.ns) ∧ E6 (A.getLast?.map (·.lg)) l)
 | [], A, _, _, _ => ⟨true, by rw [tZ], by simp [E6]⟩
 | a :: l, A, c, g, k => by
  have ha := k a (by simp)
  have hlen : A.length + 1 + l.length ≤ 1000000000 := by rw [c] at g; simp at g; omega
  obtain ⟨n, d, j⟩ := PY A a l hlen
  rw [← c] at d
  obtain ⟨o, r, h1⟩ := Ij a.ns (by omega)
  rw [tZ, vj, Aw _ (by omega), r]
  simp only [aA] at d ⊢
  rw [d]
  rw [E6]
  simp only [ig]
  cases c1 : np a.lg
  ·exact ⟨false, by simp, by simp⟩
  ·cases c2 : qO a.ly
   ·exact ⟨false, by simp, by simp⟩
   ·cases o with
    | false =>
     refine ⟨false, by simp, ?_⟩
     have : ¬ yv a.ns a.ns := fun h => by have := h1.2 h; cases this
     simp [this]
    | true =>
     have t := h1.1 rfl
     cases n with
     | true =>
      refine ⟨false, by simp, ?_⟩
      constructor
      ·intro h; cases h
      ·rintro ⟨_, h, _⟩
       have := j.2 h; cases this
     | false =>
      have i := j.1 rfl
      obtain ⟨b, e, s⟩ := Kw all l (A ++ [a]) (by simp [c]) g (fun z i => k z (by simp [i]))
      rw [aD, List.length_singleton] at e
      refine ⟨b, by simpa using e, s.trans ?_⟩
      simp only [List.getLast?_append, List.getLast?_singleton, Option.some_or, dZ, t, true_and]
      exact ⟨fun ⟨p, q⟩ => ⟨p, i, q⟩, fun ⟨p, _, q⟩ => ⟨p, q⟩⟩
def Hi (p : lm) : Bool := decide (256 < p.lJ.length) || decide (8 < p.mf.length) || p.mf.any fun a => decide (32 < a.ns.length)
theorem Qe (p : lm) : zQ p = some (Hi p) := by
 unfold zQ Hi
 rw [Mi _ (fun a => decide (32 < a.ns.length)) _ (fun a _ => by unfold xo; congr 1; rw [cU, bX, bX]; omega)]
 by_cases c1 : 256 < p.lJ.length
 ·have : ((p.lJ.length : Int) > 256) := by omega
  simp [c1, this]
 ·have : ¬ ((p.lJ.length : Int) > 256) := by omega
  by_cases c2 : 8 < p.mf.length
  ·have : ((p.mf.length : Int) > 8) := by omega
   simp [c1, c2, *]
  ·have : ¬ ((p.mf.length : Int) > 8) := by omega
   simp [c1, c2, *]
theorem ND (p : lm) (hp : PB p) : xT p = some (p.lJ.all fun x => decide ((qP p x.Signed.lf).2 = 0)) := by
 unfold xT
 rw [ML _ (fun x => !decide ((qP p x.Signed.lf).2 = 0)) _ (fun x _ => by
  unfold vI
  rw [Hv p hp, aA]
  rfl), aA, List.all_eq_not_any_not]
structure Jh (p : lm) : Prop where
 name : oa p.Name = true
 Sv : Hi p = false
 Cs : RS p.lJ
 EF : Tg p.mf
 guards : ∀ x ∈ p.lJ, (qP p x.Signed.lf).2 = 0
theorem IE (p : lm) (hp : PB p) : ∃ e, wT p = some e ∧ (e = 0 ↔ Jh p) := by
 have r := hp.Cs
 have o := hp.EF
 obtain ⟨g, l, h1⟩ := Iy p.lJ [] (by simp; omega) hp.rel
 obtain ⟨i, n, k⟩ := Kw p.mf p.mf [] rfl (by omega) (fun a ha => ⟨hp.MC a ha, hp.Q2 a ha⟩)
 have b : Bc p = some g := l
 have c : BD p.mf = some i := n
 unfold wT
 rw [sE, aA, Qe, b, c, ND p hp]
 simp only [aA]
 cases c1 : oa p.Name
 ·exact ⟨30, rfl, by simp; intro h; have := h.name; rw [c1] at this; cases this⟩
 ·cases c2 : Hi p
  ·cases g with
   | false => exact ⟨11, rfl, by simp; intro h; have := h1.2 h.Cs; cases this⟩
   | true =>
    cases i with
    | false => exact ⟨11, rfl, by simp; intro h; have := k.2 h.EF; cases this⟩
    | true =>
     cases j : p.lJ.all fun x => decide ((qP p x.Signed.lf).2 = 0)
     ·refine ⟨11, rfl, iff_of_false (by decide) (fun h => ?_)⟩
      obtain ⟨x, d, q⟩ := List.all_eq_false.1 j
      simp [h.guards x d] at q
     ·exact ⟨0, rfl, by simp; exact ⟨c1, c2, h1.1 rfl, k.1 rfl, fun x d => by simpa using kE.1 j x d⟩⟩
  ·exact ⟨12, rfl, by simp; intro h; have := h.Sv; rw [c2] at this; cases this⟩
structure PG (p : lm) : Prop extends PB p where
 TX : ∀ x ∈ p.lJ, xt x.Signed.lf ≤ 1000000000
 Ui : ∀ a ∈ p.mf, ∀ c ∈ a.ns, xt c ≤ 1000000000
theorem RJ {f : Formula} (h : f.Op = 1) : vt f = f := by rw [E3, aZ h]
noncomputable def vD (l : List lf) (peer : ByteArray) (r : lg) : Bool := @decide (qa (l.filter mP) ⟨r, peer⟩) (Classical.propDecidable _)
theorem E0 (l : List lf) (peer : ByteArray) (r : lg) : vD l peer r = true ↔ qa (l.filter mP) ⟨r, peer⟩ := by unfold vD; simp
theorem SO (l : List lf) (h : l.length ≤ 1000000) (peer : ByteArray) : ∃ m, zI l peer = some m ∧ ∀ r, tU r m.1 m.2.1 m.2.2.1 m.2.2.2.1 m.2.2.2.2.1 m.2.2.2.2.2.1 m.2.2.2.2.2.2 = some (vD l peer r) := by
 obtain ⟨C, T, i, ws, n, e, m, d, _⟩ := Mp l h
 unfold zI
 rw [e, aA]
 refine ⟨_, rfl, fun r => ?_⟩
 unfold tU
 rw [pE]
 obtain ⟨b, a, g⟩ := NE m C i ws [] n r peer
 rw [a]
 congr 1
 rw [cU, g, E0]
 exact qa.congr (fun c => by rw [d, cQ]) _
noncomputable def wO (p : lm) (v : lg → Bool) (c : lf) : Bool := decide ((qP p c).2 = 0) && DF v (qP p c).1
theorem Ow {p : lm} {v w : lg → Bool} (h : ∀ r, v r = true → w r = true) (c : lf) (a : wO p v c = true) : wO p w c = true := by
 unfold wO DF at *
 simp only [bA, bX] at *
 exact ⟨a.1, a.2.1, Qx h _ a.2.2⟩
def qL (s : List lf) : Prop := s.Pairwise (fun a b => BQ a b = true) ∧ ∀ c ∈ s, mP c = true
theorem qL.nodup {s : List lf} (h : qL s) : s.Nodup := vA Az h.2 h.1
theorem qL.le {s t : List lf} (h : qL s) (a : ∀ c ∈ s, c ∈ t) : s.length ≤ t.length := nK h.nodup a
theorem qL.ext {s t : List lf} (h : qL s) (k : qL t) (b : ∀ c, c ∈ s ↔ c ∈ t) : s = t :=
 vK.unique Az (l := t) ⟨h.1, fun x => ⟨fun a => ⟨(b x).1 a, h.2 x a⟩, fun a => (b x).2 a.1⟩⟩ ⟨k.1, fun x => ⟨fun a => ⟨a, k.2 x a⟩, fun a => a.1⟩⟩
theorem qL.eq {s t : List lf} (h : qL s) (k : qL t) (b : ∀ c ∈ s, c ∈ t) (i : t.length ≤ s.length) : s = t := by
 refine h.ext k fun c => ⟨b c, fun d => ?_⟩
 refine fX fun g => ?_
 have := nK (l := c :: s) (m := t) (dH.2 ⟨g, h.nodup⟩) (fun x a => by
  rcases aM.1 a with rfl | a
  ·exact d
  ·exact b x a)
 simp at this; omega
theorem qL.nil : qL [] := ⟨by simp, by simp⟩
theorem qL.filter {s : List lf} (h : qL s) (p : lf → Bool) : qL (s.filter p) := ⟨h.1.filter _, fun c a => h.2 c (cQ.1 a).1⟩
def se (p : lm) (c : lf) : Prop := ∃ x ∈ p.lJ, x.Signed.lf = c
def JP (p : lm) (l : List lf) (peer : ByteArray) (c : lf) : Prop := se p c ∧ mP c = true ∧ wO p (vD l peer) c = true
theorem Qg {p : lm} {s : List lf} (h : qL s) (b : ∀ c ∈ s, se p c) : s.length ≤ p.lJ.length := by
 have := h.le (t := p.lJ.map (·.Signed.lf)) (fun c a => by obtain ⟨x, d, e⟩ := b c a; exact bD.2 ⟨x, d, e⟩)
 simpa using this
theorem SG (p : lm) (hp : PB p) (l : List lf) (n : l.length ≤ 1000000) (peer : ByteArray) : ∃ s, tK p l peer = some s ∧ qL s ∧ (∀ c, c ∈ s ↔ JP p l peer c) ∧ s.length ≤ p.lJ.length := by
 obtain ⟨m, e, o⟩ := SO l n peer
 have := hp.Cs
 unfold tK
 rw [e, aA, Ff p hp _ m o p.lJ [] (by simp; omega), bN]
 have h1 : (p.lJ.filter (Jb p (vD l peer))).length ≤ p.lJ.length := gV _ _
 obtain ⟨s, j, a⟩ := Eu ((p.lJ.filter (Jb p (vD l peer))).map (·.Signed.lf)) (by simp; omega)
 have i : qL s := ⟨a.1, fun c d => ((a.2 c).1 d).2⟩
 have hm : ∀ c, c ∈ s ↔ JP p l peer c := fun c => by
  rw [a.2, bD]
  constructor
  ·rintro ⟨⟨x, h, rfl⟩, g⟩
   obtain ⟨k, b⟩ := cQ.1 h
   exact ⟨⟨x, k, rfl⟩, g, b⟩
  ·rintro ⟨⟨x, h, rfl⟩, g, b⟩
   exact ⟨⟨x, cQ.2 ⟨h, b⟩, rfl⟩, g⟩
 exact ⟨s, j, i, hm, Qg i (fun c d => ((hm c).1 d).1)⟩
def TE : Formula := ⟨2, 0, xH, []⟩
def L6 (l : List mg) (d : lf) : Option Formula := (l.find? fun x => nw x.Signed.lf d).map (·.ly)
theorem NS (n : ByteArray) (l : List mg) (k : List nQ) (c : lf) : se ⟨n, l, k⟩ c ↔ c ∈ l.map (·.Signed.lf) := by
 unfold se; rw [bD]
theorem NQ (n : ByteArray) (l : List mg) (c : lf) : qP ⟨n, l, []⟩ c = match L6 l c with | none => (Ht, 42) | some r => GB r [] := by
 unfold qP ur L6 EG
 simp only
 cases l.find? (fun x => nw x.Signed.lf c) <;> rfl
def sY : lg := ⟨⟨#[120]⟩, ⟨#[121]⟩⟩
def sZ : lg := ⟨⟨#[120]⟩, ⟨#[122]⟩⟩
def yD (r : lg) : Formula := ⟨1, 0, r, []⟩
def Sz (c : lf) (f : Formula) : mg := ⟨⟨c, List.replicate 8 0⟩, f⟩
theorem Qa (v : lg → Bool) (r : lg) : DA v (yD r) = v r := by rw [Hh]; rfl
theorem PQ {r : lg} (h : qO (yD r) = true) : GB (yD r) [] = (yD r, 0) := by
 have a : CS (yD r) = (yD r, 0) := by unfold CS; rw [h, RJ rfl, h]; rfl
 unfold GB
 rw [a, wM]; rfl
theorem RZ {c : lf} (a : mP c = true) (hk : c.Kind = 1) {l : List lf} (h : c ∈ l) : vD l c.lM c.Head = true := by
 rw [E0]
 exact .mem c (cQ.2 ⟨h, a⟩) hk
theorem Q3 (peer : ByteArray) (r : lg) : vD [] peer r = false := by
 rw [← kI, E0]
 intro h
 obtain ⟨c, a, _⟩ := h.head
 cases a
theorem Bw {c : lf} (a : mP c = true) : qL [c] := ⟨by simp, fun x b => by obtain rfl := bE.1 b; exact a⟩
theorem NY {s : List lf} {c : lf} (d : qL s) (h1 : ∀ x ∈ s, x = c) (a : c ∈ s) (b : mP c = true) : s = [c] :=
 d.ext (Bw b) (fun x => by
  rw [bE]
  exact ⟨h1 x, fun e => by rw [e]; exact a⟩)
theorem JR : qO (yD sZ) = true := by decide +kernel
theorem LV {l : List lf} {F : List lF} (h : Ry l F) (peer : ByteArray) : vF F peer = vD l peer := by
 funext r
 rw [cU, E0]
 unfold vF
 rw [xO AA, (h.ym (l.filter mP) (fun c => by rw [cQ])).2]
mutual
def Bf : Formula → Nat
 | ⟨_, _, r, ks⟩ => 1 + r.lh.size + r.lp.size + szFL ks
def szFL : List Formula → Nat
 | [] => 0
 | k :: ks => Bf k + szFL ks
end
theorem J4 (f : Formula) : Bf f = 1 + f.lg.lh.size + f.lg.lp.size + szFL f.Kids := by cases f; rw [Bf]
theorem EZ : ∀ f : Formula, mB f ≤ Bf f := by
 refine LZ fun f ih => ?_
 have : ∀ a : List Formula, (∀ k ∈ a, mB k ≤ Bf k) → nodesL a ≤ szFL a := by
  intro a
  induction a with
  | nil => intro _; rw [nodesL]; omega
  | cons k a b =>
   intro h
   have := b (fun x c => h x (by simp [c]))
   have := h k (by simp)
   rw [nodesL, szFL]; omega
 have := this f.Kids ih
 rw [sI, J4]; omega
def tI : List lf → Nat
 | [] => 0
 | c :: l => 20 + xt c + tI l
theorem g5 : ∀ (l : List lf) (n : Int), 0 ≤ n → n + (tI l : Int) ≤ 4000000000000000000 → sV l n = some (n + (tI l : Int))
 | [], n, _, _ => by rw [sV, tI]; simp
 | c :: l, n, b, a => by
  have e : xt c = c.Head.lh.size + c.Head.lp.size + c.lM.size + c.B.lh.size + c.B.lp.size + c.C.lh.size + c.C.lp.size + c.lN.size := rfl
  rw [tI] at a
  rw [sV]
  rw [mr (x := 20 + (c.Head.lh.size : Int)) (by omega) (by omega), mr (x := 20 + (c.Head.lh.size : Int) + (c.Head.lp.size : Int)) (by omega) (by omega), mr (x := 20 + (c.Head.lh.size : Int) + (c.Head.lp.size : Int) + (c.lM.size : Int)) (by omega) (by omega), mr (x := 20 + (c.Head.lh.size : Int) + (c.Head.lp.size : Int) + (c.lM.size : Int) + (c.B.lh.size : Int)) (by omega) (by omega), mr (x := 20 + (c.Head.lh.size : Int) + (c.Head.lp.size : Int) + (c.lM.size : Int) + (c.B.lh.size : Int) + (c.B.lp.size : Int)) (by omega) (by omega), mr (x := 20 + (c.Head.lh.size : Int) + (c.Head.lp.size : Int) + (c.lM.size : Int) + (c.B.lh.size : Int) + (c.B.lp.size : Int) + (c.C.lh.size : Int)) (by omega) (by omega), mr (x := 20 + (c.Head.lh.size : Int) + (c.Head.lp.size : Int) + (c.lM.size : Int) + (c.B.lh.size : Int) + (c.B.lp.size : Int) + (c.C.lh.size : Int) + (c.C.lp.size : Int)) (by omega) (by omega), mr (x := 20 + (c.Head.lh.size : Int) + (c.Head.lp.size : Int) + (c.lM.size : Int) + (c.B.lh.size : Int) + (c.B.lp.size : Int) + (c.C.lh.size : Int) + (c.C.lp.size : Int) + (c.lN.size : Int)) (by omega) (by omega), mr (by omega) (by omega)]
  rw [g5 l _ (by omega) (by omega), tI]
  congr 1; omega
theorem Ul : ∀ (n : Nat) (l : List Formula), deepL l < n → szFL l ≤ 1000000000000 → ∃ r : Int, qH n l = some r ∧ 0 ≤ r ∧ r ≤ (szFL l : Int) := by
 intro n
 induction n with
 | zero => intro l h; omega
 | succ n ih =>
  intro l h c
  rw [qH]
  unfold xB
  have key : ∀ (l : List Formula) (x : Int), deepL l < n + 1 → 0 ≤ x → x + (szFL l : Int) ≤ 1000000000000 → ∃ r : Int, ta (qH n) l x = some r ∧ 0 ≤ r ∧ r ≤ x + (szFL l : Int) := by
   intro l
   induction l with
   | nil => intro x _ g _; exact ⟨x, by rw [ta], g, by rw [szFL]; simp⟩
   | cons k l b =>
    intro x h g c
    rw [deepL] at h
    rw [szFL] at c
    have hk := J4 k
    have := rH k
    obtain ⟨r, e, h1, i⟩ := ih k.Kids (by omega) (by omega)
    rw [ta, e, aA]
    have q : 0 ≤ Int.tdiv ((k.lg.lh.size : Int) + (k.lg.lp.size : Int)) 16 ∧ Int.tdiv ((k.lg.lh.size : Int) + (k.lg.lp.size : Int)) 16 ≤ (k.lg.lh.size : Int) + (k.lg.lp.size : Int) := by
     rw [Int.tdiv_eq_ediv_of_nonneg (by omega)]
     omega
    rw [mr (x := (k.lg.lh.size : Int) + (k.lg.lp.size : Int)) (by omega) (by omega)]
    generalize Int.tdiv ((k.lg.lh.size : Int) + (k.lg.lp.size : Int)) 16 = d at *
    rw [mr (x := d) (by omega) (by omega), mr (x := 1 + d) (by omega) (by omega), mr (x := 1 + d + r) (by omega) (by omega), mr (x := x + (1 + d + r)) (by omega) (by omega)]
    obtain ⟨o, e', a, j⟩ := b (x + (1 + d + r)) (by omega) (by omega) (by omega)
    exact ⟨o, e', a, by rw [szFL]; omega⟩
  obtain ⟨r, e, h1, i⟩ := key l 0 h (by omega) (by omega)
  exact ⟨r, e, h1, by omega⟩
theorem Lh (f : Formula) (h : Bf f ≤ 50000000) : ∃ r : Int, qH mq [f] = some r ∧ 0 ≤ r ∧ r ≤ (Bf f : Int) := by
 have h1 := EZ f
 have c := Dy f
 obtain ⟨r, e, a, b⟩ := Ul mq [f] (by rw [deepL, deepL, oN]; omega) (by rw [szFL, szFL]; omega)
 refine ⟨r, e, a, ?_⟩
 rw [szFL, szFL] at b; omega
theorem g6 (s : Signed) (h : xt s.lf + s.Tag.length ≤ 1000000000) : rD [] [s] = some (20 + (xt s.lf : Int) + (s.Tag.length : Int)) := by
 unfold rD
 rw [qC, pN]
 have := g5 [s.lf] 0 (by omega) (by rw [tI, tI]; omega)
 rw [show po [s.lf] = _ from this, aA, pN, tI, tI]
 rw [mr (x := 0 + ((20 + xt s.lf + 0 : Nat) : Int) + (s.Tag.length : Int)) (by omega) (by omega), mr (by omega) (by omega)]
 simp only [aA]
 congr 1; omega
def A0 : List mg → Nat
 | [] => 0
 | x :: l => 20 + xt x.Signed.lf + x.Signed.Tag.length + 20 * Bf x.ly + A0 l
def BG : List nQ → Nat
 | [] => 0
 | a :: l => a.lg.lh.size + a.lg.lp.size + 20 * Bf a.ly + tI a.ns + BG l
def Im (p : lm) : Nat := p.Name.size + A0 p.lJ + BG p.mf
theorem Od : ∀ (l : List nQ) (x : Int), 0 ≤ x → x + (BG l : Int) ≤ 1000000000 → ∃ r : Int, te l x = some r ∧ x ≤ r ∧ r ≤ x + (BG l : Int)
 | [], x, _, _ => ⟨x, by rw [te], by omega, by rw [BG]; omega⟩
 | a :: l, x, g, h => by
  rw [BG] at h
  obtain ⟨r, e, h1, i⟩ := Lh a.ly (by omega)
  have b := g5 a.ns 0 (by omega) (by omega)
  rw [te, e, aA, show po a.ns = _ from b, aA]
  rw [mr (x := (a.lg.lh.size : Int) + (a.lg.lp.size : Int)) (by omega) (by omega), mr (x := 20 * r) (by omega) (by omega), mr (x := (a.lg.lh.size : Int) + (a.lg.lp.size : Int) + 20 * r) (by omega) (by omega), mr (x := (a.lg.lh.size : Int) + (a.lg.lp.size : Int) + 20 * r + (0 + (tI a.ns : Int))) (by omega) (by omega), mr (by omega) (by omega)]
  obtain ⟨c, e', d, a2⟩ := Od l (x + ((a.lg.lh.size : Int) + (a.lg.lp.size : Int) + 20 * r + (0 + (tI a.ns : Int)))) (by omega) (by omega)
  exact ⟨c, e', by omega, by rw [BG]; omega⟩
theorem T9 (p : lm) (d : Im p ≤ 1000000000) : ∃ r : Int, yO p = some r ∧ 20 * (p.lJ.length : Int) ≤ r ∧ r ≤ (Im p : Int) := by
 unfold Im at d
 have key : ∀ (l : List mg) (x : Int), 0 ≤ x → x + (A0 l : Int) + (BG p.mf : Int) ≤ 1000000000 → ∃ r : Int, sW p l x = some r ∧ x + 20 * (l.length : Int) ≤ r ∧ r ≤ x + (A0 l : Int) + (BG p.mf : Int) := by
  intro l
  induction l with
  | nil =>
   intro x c h
   rw [A0] at h
   obtain ⟨r, e, a, b⟩ := Od p.mf x c (by omega)
   exact ⟨r, by rw [sW, e]; rfl, by simp; omega, by rw [A0]; omega⟩
  | cons y l ih =>
   intro x c h
   rw [A0] at h
   obtain ⟨r, e, h1, i⟩ := Lh y.ly (by omega)
   rw [sW, g6 y.Signed (by omega)]
   simp only [aA]
   rw [e, aA]
   rw [mr (x := 20 * r) (by omega) (by omega), mr (x := 20 + (xt y.Signed.lf : Int) + (y.Signed.Tag.length : Int) + 20 * r) (by omega) (by omega), mr (by omega) (by omega)]
   obtain ⟨g, e', a, b⟩ := ih (x + (20 + (xt y.Signed.lf : Int) + (y.Signed.Tag.length : Int) + 20 * r)) (by omega) (by omega)
   exact ⟨g, e', by rw [aI]; omega, by rw [A0]; omega⟩
 obtain ⟨r, e, a, b⟩ := key p.lJ (p.Name.size : Int) (by omega) (by omega)
 unfold yO
 exact ⟨r, e, by omega, by unfold Im; omega⟩
def BH : List Key → Nat
 | [] => 0
 | k :: l => 10 + k.lM.size + k.Key.length + BH l
theorem Tq : ∀ (a : List Key) (x : Int), 0 ≤ x → x + (BH a : Int) ≤ 2000000000 → qC [] a x = some (x + (BH a : Int))
 | [], x, _, _ => by rw [qC, pN, BH]; simp
 | k :: a, x, b, h => by
  rw [BH] at h
  rw [qC, mr (x := 10 + (k.lM.size : Int)) (by omega) (by omega), mr (x := 10 + (k.lM.size : Int) + (k.Key.length : Int)) (by omega) (by omega), mr (by omega) (by omega), Tq a _ (by omega) (by omega), BH]
  congr 1; omega
noncomputable def TZ (p : Ka) : Bool := (Hu p.lh p.Client p.Formula).getD false
def Q1 (l : List mg) (i : Int) : Prop := 0 ≤ i ∧ i < l.length
instance (l : List mg) (i : Int) : Decidable (Q1 l i) := by unfold Q1; infer_instance
def RI (l : List mg) (i : Int) : List mg := if Q1 l i then l.eraseIdx i.toNat else l
def Pw (p : Ka) (e i : Int) : Ka :=
 if e = 0 then ⟨⟨p.lh.Name, RI p.lh.lJ i, p.lh.mf⟩, p.Client, p.Formula, p.Q7, p.PK, p.Ly, p.Pv, p.Ns, p.Keys⟩
 else if e = 1 then ⟨p.lh, ⟨p.Client.Name, RI p.Client.lJ i, p.Client.mf⟩, p.Formula, p.Q7, p.PK, p.Ly, p.Pv, p.Ns, p.Keys⟩
 else p
noncomputable def shr (e : Int) : Nat → Ka → Ka
 | 0, p => p
 | k + 1, p => shr e k (if TZ (Pw p e k) then Pw p e k else p)
def OP : Signed := ⟨⟨0, ⟨zS, zS⟩, zS, ⟨zS, zS⟩, ⟨zS, zS⟩, zS⟩, []⟩
theorem FI (c : lf) : ∀ l : List mg, uE c l = some (match l.find? (fun x => nw x.Signed.lf c) with | some x => (x.Signed, true) | none => (OP, false))
 | [] => by rw [uE]; rfl
 | x :: l => by
  rw [uE, fY, FI c l]
  cases nw x.Signed.lf c <;> rfl
theorem Ar (p : lm) (c : lf) : yy p c = some (match ur p c with | some x => (x.Signed, true) | none => (OP, false)) := FI c p.lJ
theorem xS {p : lm} {c : lf} (h : se p c) : ∃ x, ur p c = some x ∧ x ∈ p.lJ ∧ x.Signed.lf = c := by
 obtain ⟨y, a, rfl⟩ := h
 unfold ur
 cases e : p.lJ.find? (fun x => nw x.Signed.lf y.Signed.lf) with
 | none => exact absurd (pe.2 rfl) (by simpa using fV.1 e y a)
 | some x => exact ⟨x, rfl, iy e, pe.1 (by simpa using kT e)⟩
theorem HA {p : lm} {c : lf} (h : ¬ se p c) : ur p c = none := by
 unfold ur
 rw [fV]
 intro x a e
 exact h ⟨x, a, pe.1 e⟩
theorem Dd (s : mY) (hp : PB s.lm) (h : s.lE.length ≤ 30000) (c : lf) : vr s c = some (wO s.lm (vD s.lE s.mx) c) := by
 obtain ⟨F, b⟩ := Ph s.lE h
 obtain ⟨m, d, _, g⟩ := b.Su
 have i := LV b s.mx
 have j := El s.lm c
 unfold vr
 rw [Hv _ hp, aA]
 unfold wO
 by_cases a : (qP s.lm c).2 = 0
 ·simp only [a, bT, aS, bZ, gE]
  unfold vo
  rw [d, aA, aA]
  rw [Ic (vD s.lE s.mx) _ (fun r => by unfold qF; rw [pE, g, ← i]; rfl) _ (by unfold Gd; omega)]
  rfl
 ·have : ((qP s.lm c).2 == 0) = false := by simpa using a
  simp only [this, aB, aK, a, cD, jU]
  rfl
theorem Jz (s : mY) {fr : List lf} (e : tK s.lm s.lE s.mx = some fr) (a : fr.length ≤ 1000000000) : yB s = some (fr.filter fun c => !th nw s.Shown c) := by
 unfold yB
 rw [e, aA, pE, JN, DN _ (fun c => th nw s.Shown c) zC fr (by omega) (fun c _ => by unfold xV qM; rw [pE, BP]; rfl)]
def yC (s : mY) (sh : List lf) : mY := ⟨s.lm, s.mx, s.Room, s.lE, sh, s.lT, s.mH⟩
def AH (p : lm) (c : lf) : Signed := match ur p c with | some x => x.Signed | none => OP
def B4 (p : lm) (l : List lf) : List Signed := l.map (AH p)
theorem Iw {l : List lf} (h : qL l) (d : l.length ≤ 1000000000) : pM l = some l := by
 obtain ⟨s, e, a⟩ := Eu l d
 rw [e]
 have : s = l := qL.ext ⟨a.1, fun c b => ((a.2 c).1 b).2⟩ h (fun c => by rw [a.2]; exact ⟨fun x => x.1, fun x => ⟨x, h.2 c x⟩⟩)
 rw [this]
theorem qL.take {s : List lf} (h : qL s) (n : Nat) : qL (s.take n) := ⟨h.1.sublist (List.take_sublist n s), fun c a => h.2 c (List.mem_of_mem_take a)⟩
theorem Ha (s : mY) (hp : PB s.lm) (ha : s.lE.length ≤ 30000) : ∀ l : List lf, (∀ c ∈ l, wO s.lm (vD s.lE s.mx) c = true) → oD s l = some (Sum.inr ())
 | [], _ => by rw [oD]
 | c :: l, h => by
  rw [oD, Dd s hp ha, aA, h c (by simp)]
  simp only [bU, aB, aK]
  exact Ha s hp ha l (fun x a => h x (by simp [a]))
theorem Hd (s : mY) (hp : PB s.lm) (ha : s.lE.length ≤ 30000) (m : List lf) (hm : ∀ c ∈ m, wO s.lm (vD s.lE s.mx) c = true) : ∀ l : List lf, (∀ c ∈ l, se s.lm c) → ov s m l = some 0
 | [], _ => by rw [ov, Ha s hp ha m hm]; rfl
 | c :: l, h => by
  obtain ⟨x, e, _⟩ := xS (h c (by simp))
  rw [ov, Ar, aA, e]
  simp only [bU, aB, aK]
  exact Hd s hp ha m hm l (fun x a => h x (by simp [a]))
theorem Hy (s : mY) (m t : List lf) (e : qI [s.Shown, m] = some (s.Shown ++ m)) (a : pM (s.Shown ++ m) = some t) (d : ∀ x ∈ s.lm.lJ, x.Signed.Tag.length ≤ 1000) : ∀ (l : List lf) (acc : List Signed), (∀ c ∈ l, se s.lm c) → acc.length + l.length ≤ 100000 →
  oP s m l acc = some (acc ++ B4 s.lm l, 0, yC s t)
 | [], acc, _, _ => by
  rw [oP, e, aA, a]
  simp [B4, yC]
 | c :: l, acc, h, g => by
  rw [aI] at g
  obtain ⟨x, b, i, k⟩ := xS (h c (by simp))
  have h1 := d x i
  rw [oP, Ar, aA, b, aA]
  simp only
  unfold sR
  rw [ob (by simp; omega) (by simp; omega)]
  simp only [aA, bN]
  rw [ob (by simp; omega) (by simp; omega), aA]
  have := Hy s m t e a d l (acc ++ [x.Signed]) (fun y j => h y (by simp [j])) (by simp; omega)
  rw [show ([⟨x.Signed.lf, x.Signed.Tag⟩] : List Signed) = [x.Signed] from rfl, this]
  unfold B4
  rw [bF, show AH s.lm c = x.Signed by unfold AH; rw [b]]
  simp
theorem MG (s : mY) (hp : PB s.lm) (ha : s.lE.length ≤ 30000) (d : ∀ x ∈ s.lm.lJ, x.Signed.Tag.length ≤ 1000) (l : List lf) (j : l.length ≤ 8) (g : qL l) (a : ∀ c ∈ l, se s.lm c) (hm : ∀ c ∈ l, wO s.lm (vD s.lE s.mx) c = true) (h : s.Shown.length ≤ 100000) :
  ∃ t, yv (s.Shown ++ l) t ∧ oz s l = some (B4 s.lm l, 0, yC s t) := by
 obtain ⟨t, b, i⟩ := Eu (s.Shown ++ l) (by simp; omega)
 refine ⟨t, i, ?_⟩
 have e := Ip s.Shown l (by omega)
 unfold oz vP
 have : ¬ ((l.length : Int) > 8) := by omega
 simp only [this, cD, aB, aK]
 rw [Hd s hp ha l hm l a, aA]
 simp only [fO, aB, aK]
 rw [Iw g (by omega), aA, Hy s l t e b d l [] a (by simp; omega)]
 rfl
structure QY (s : mY) : Prop where
 SZ : Jh s.lm
 peer : oa s.mx = true
 Te : 0 ≤ s.Room
 room : s.Room ≤ 256
 acc : qL s.lE
 sh : qL s.Shown
 Lq : wY s.lT s.lT
 ask : wY s.mH s.mH
 held : ∀ c ∈ s.Shown, se s.lm c
theorem NU (l : List lf) (j : l.length ≤ 1000000000) : ∃ b, ((pM l).bind fun r => qe r l) = some b ∧ (b = true ↔ qL l) := by
 obtain ⟨s, e, h⟩ := Eu l j
 obtain ⟨b, g, i⟩ := N1 s l
 refine ⟨b, by rw [e, aA, g], i.trans ⟨fun a => ?_, fun a => ?_⟩⟩
 ·subst a; exact ⟨h.1, fun c d => ((h.2 c).1 d).2⟩
 ·exact qL.ext ⟨h.1, fun c d => ((h.2 c).1 d).2⟩ a (fun c => by rw [h.2]; exact ⟨fun x => x.1, fun x => ⟨x, a.2 c x⟩⟩)
theorem M2 (l : List lg) (a : l.length ≤ 1000000000) : ∃ b, ((yg l).bind fun r => qZ r l) = some b ∧ (b = true ↔ wY l l) := by
 obtain ⟨s, e, h⟩ := TJ l a
 refine ⟨decide (s = l), by rw [e, aA, Mz], ?_⟩
 rw [bX]
 constructor
 ·rintro rfl; exact h
 ·intro c; exact vK.unique (Mm _) h c
theorem bb {α β γ : Type} (x : Option α) (f : α → Option β) (g : β → Option γ) : (x.bind fun a => (f a).bind g) = (x.bind f).bind g := by cases x <;> rfl
theorem SP (s : mY) (h1 : s.lE.length ≤ 1000000000) (l : s.Shown.length ≤ 1000000000) (n : s.lT.length ≤ 1000000000) (o : s.mH.length ≤ 1000000000) :
  ∃ b, AF s = some b ∧ (b = true ↔ qL s.lE ∧ qL s.Shown ∧ wY s.lT s.lT ∧ wY s.mH s.mH) := by
 obtain ⟨a, h, q⟩ := NU s.lE h1
 obtain ⟨c, i, k2⟩ := NU s.Shown l
 obtain ⟨d, j, r⟩ := M2 s.lT n
 obtain ⟨g, k, t⟩ := M2 s.mH o
 refine ⟨a && (c && (d && g)), ?_, by simp only [bA, q, k2, r, t]⟩
 unfold AF
 rw [bb, h, aA]
 simp only [bb, pE, i, j, k]
 cases a <;> cases c <;> cases d <;> cases g <;> rfl
theorem Md (f : lf → Option Bool) (p : lf → Bool) (l : List lf) (h : ∀ x ∈ l, f x = some (p x)) : rz l f = some (l.any p) := by
 unfold rz qN
 rw [Ie]; exact GD f p l h
theorem Nx (s : mY) (hp : PB s.lm) (h1 : s.lE.length ≤ 1000000000) (l : s.Shown.length ≤ 1000000000) (n : s.lT.length ≤ 1000000000) (o : s.mH.length ≤ 1000000000) :
  ∃ b, zT s = some b ∧ (b = true ↔ QY s) := by
 obtain ⟨e, i, g⟩ := IE s.lm hp
 obtain ⟨b, j, k2⟩ := SP s h1 l n o
 have k := Md (fun x => vu x s.lm.Name s.lm.lJ s.lm.mf s.mx s.Room s.lE s.Shown s.lT s.mH) (fun c => (ur s.lm c).isNone) s.Shown (fun c _ => by
  unfold vu
  rw [show (⟨s.lm.Name, s.lm.lJ, s.lm.mf⟩ : lm) = s.lm from rfl, Ar, aA]
  cases ur s.lm c <;> rfl)
 have r : (s.Shown.any fun c => (ur s.lm c).isNone) = false ↔ ∀ c ∈ s.Shown, se s.lm c := by
  rw [kw]
  refine forall_congr' fun c => forall_congr' fun y => ?_
  by_cases h : se s.lm c
  ·obtain ⟨x, ex, _⟩ := xS h
   simp [ex, h]
  ·simp [HA h, h]
 unfold zT
 rw [i, aA]
 by_cases a : e = 0
 ·subst a
  have q := g.1 rfl
  simp only [fO, aB, aK]
  rw [sE, aA]
  cases c1 : oa s.mx
  ·exact ⟨false, rfl, by simp; intro h; have := h.peer; rw [c1] at this; cases this⟩
  ·simp only [bU, aB, aK, aA]
   by_cases c2 : s.Room < 0
   ·simp only [c2, bZ, aS, aA]
    exact ⟨false, rfl, by simp; intro h; have := h.Te; omega⟩
   ·simp only [c2, cD, aB, aK, aA]
    by_cases d : s.Room > 256
    ·simp only [d, bZ, aS, aA]
     exact ⟨false, rfl, by simp; intro h; have := h.room; omega⟩
    ·simp only [d, cD, aB, aK, aA]
     rw [j, aA, aA]
     cases b with
     | false => exact ⟨false, rfl, by simp; intro h; have := k2.2 ⟨h.acc, h.sh, h.Lq, h.ask⟩; cases this⟩
     | true =>
      obtain ⟨t, u, v, w⟩ := k2.1 rfl
      simp only [bU, aB, aK]
      rw [k, aA]
      refine ⟨_, rfl, ?_⟩
      rw [gB, r]
      exact ⟨fun h => ⟨q, c1, by omega, by omega, t, u, v, w, h⟩, fun h => h.held⟩
 ·have : (e != 0) = true := by simpa using a
  simp only [this, aS, aA]
  exact ⟨false, rfl, by simp; intro h; exact a (g.2 h.SZ)⟩
theorem Nq {p : lm} {l : List lf} (h : ∀ c ∈ l, se p c) : (B4 p l).map (·.lf) = l := by
 unfold B4
 rw [fB]
 have : ∀ c ∈ l, ((fun x : Signed => x.lf) ∘ AH p) c = c := fun c b => by
  obtain ⟨x, e, _, a⟩ := xS (h c b)
  show (AH p c).lf = c
  unfold AH
  rw [e]; exact a
 rw [iB this, List.map_id']
def Kj : ByteArray := ⟨#[109, 101]⟩
def Am : ByteArray := ⟨#[121, 111, 117]⟩
def eC : lf := ⟨1, sY, Kj, ⟨zS, zS⟩, ⟨zS, zS⟩, zS⟩
def eP : lm := ⟨Kj, [Sz eC TE], []⟩
def eS (sh : List lf) : mY := ⟨eP, Am, 9, [], sh, [], []⟩
theorem Ir : mP eC = true := by decide +kernel
theorem Qi {l : List lf} (h : qL l) : yv l l := ⟨h.1, fun c => ⟨fun a => ⟨a, h.2 c a⟩, fun a => a.1⟩⟩
def vL : List lg → Nat
 | [] => 0
 | r :: l => 5 + r.lh.size + r.lp.size + vL l
theorem Nw : ∀ (l : List lg) (x : Int), 0 ≤ x → x + (vL l : Int) ≤ 4000000000000000000 → tg l x = some (x + (vL l : Int))
 | [], x, _, _ => by rw [tg, vL]; simp
 | r :: l, x, a, h => by
  rw [vL] at h
  rw [tg, mr (x := 5 + (r.lh.size : Int)) (by omega) (by omega), mr (x := 5 + (r.lh.size : Int) + (r.lp.size : Int)) (by omega) (by omega), mr (by omega) (by omega), Nw l _ (by omega) (by omega), vL]
  congr 1; omega
theorem M3 (a b : List lg) : vL (a ++ b) = vL a + vL b := by
 induction a with
 | nil => simp [vL]
 | cons r a ih => rw [cE, vL, vL, ih]; omega
theorem BS : ∀ l : List lf, 20 * l.length ≤ tI l
 | [] => by simp
 | c :: l => by have := BS l; rw [tI, aI]; omega
structure SQ (s : mY) : Prop where
 p : PG s.lm
 go : Im s.lm ≤ 1000000000
 acc : tI s.lE ≤ 1000000000
 sh : tI s.Shown ≤ 1000000000
 wl : s.lT.length ≤ 10000000
 al : s.mH.length ≤ 10000000
 Lq : vL s.lT ≤ 1000000000
 ask : vL s.mH ≤ 1000000000
 peer : s.mx.size ≤ 1000000000
theorem T8 (s : mY) (h : SQ s) : ∃ r : Int, yJ s = some r ∧ 20 * (s.lm.lJ.length : Int) ≤ r ∧ 20 * (s.lE.length : Int) ≤ r := by
 have h1 := h.go
 have j := h.acc
 have k := h.sh
 have l := h.wl
 have n := h.al
 have o := h.Lq
 have q := h.ask
 have t := h.peer
 obtain ⟨a, b, g, i⟩ := T9 s.lm h1
 have c := g5 s.lE 0 (by omega) (by omega)
 have d := g5 s.Shown 0 (by omega) (by omega)
 have c1 := BS s.lE
 have c2 := BS s.Shown
 unfold yJ
 rw [b, aA, show po s.lE = _ from c, aA, show po s.Shown = _ from d, aA]
 rw [ob (by simp; omega) (by simp; omega), aA, bN, ob (by omega) (by omega), aA]
 rw [mr (x := a + (s.mx.size : Int)) (by omega) (by omega), mr (x := a + (s.mx.size : Int) + (0 + (tI s.lE : Int))) (by omega) (by omega), mr (by omega) (by omega)]
 rw [Nw _ _ (by omega) (by rw [M3]; omega)]
 exact ⟨_, rfl, by omega, by omega⟩
mutual
def Uk : Formula → List lg
 | ⟨o, k, r, ks⟩ => if o = 1 then [r] else Q4 ks
def Q4 : List Formula → List lg
 | [] => []
 | k :: ks => Uk k ++ Q4 ks
end
theorem wY.filter {l : List lg} (h : wY l l) (p : lg → Bool) : wY (l.filter p) (l.filter p) := ⟨h.1.filter _, fun x => ⟨fun a => ⟨a, ((h.2 x).1 (cQ.1 a).1).2⟩, fun a => a.1⟩⟩
theorem wY.take {l : List lg} (h : wY l l) (n : Nat) : wY (l.take n) (l.take n) := ⟨h.1.sublist (List.take_sublist n l), fun x => ⟨fun a => ⟨a, ((h.2 x).1 (List.mem_of_mem_take a)).2⟩, fun a => a.1⟩⟩
def tP : lm := ⟨Kj, [Sz eC (yD sZ)], []⟩
def tD : lf := ⟨1, sZ, Am, ⟨zS, zS⟩, ⟨zS, zS⟩, zS⟩
def tS (acc sh : List lf) (Lq ask : List lg) : mY := ⟨tP, Am, 9, acc, sh, Lq, ask⟩
theorem PO : mP tD = true := by decide +kernel
theorem T7 : vD [] Am sZ = false := Q3 _ _
theorem Pp : vD [tD] Am sZ = true := RZ PO rfl (by simp)
theorem F3 (s : mY) (hp : PB s.lm) (ha : s.lE.length ≤ 30000) : ∀ l : List lf, oD s l = some (Sum.inl 44) ∨ (oD s l = some (Sum.inr ()) ∧ ∀ c ∈ l, wO s.lm (vD s.lE s.mx) c = true)
 | [] => .inr ⟨by rw [oD], by simp⟩
 | c :: l => by
  rw [oD, Dd s hp ha, aA]
  cases h : wO s.lm (vD s.lE s.mx) c
  ·exact .inl rfl
  ·simp only [bU, aB, aK]
   rcases F3 s hp ha l with a | ⟨a, d⟩
   ·exact .inl a
   ·exact .inr ⟨a, fun x b => by rcases aM.1 b with rfl | b; exact h; exact d x b⟩
theorem FP (s : mY) (hp : PB s.lm) (ha : s.lE.length ≤ 30000) (m : List lf) : ∀ l : List lf, (∃ e : Int, e ≠ 0 ∧ ov s m l = some e) ∨ (ov s m l = some 0 ∧ (∀ c ∈ l, se s.lm c) ∧ ∀ c ∈ m, wO s.lm (vD s.lE s.mx) c = true)
 | [] => by
  rw [ov]
  rcases F3 s hp ha m with h | ⟨h, a⟩
  ·exact .inl ⟨44, by decide, by rw [h]; rfl⟩
  ·exact .inr ⟨by rw [h]; rfl, by simp, a⟩
 | c :: l => by
  rw [ov, Ar, aA]
  by_cases b : se s.lm c
  ·obtain ⟨x, e, _⟩ := xS b
   rw [e]
   simp only [bU, aB, aK]
   rcases FP s hp ha m l with h | ⟨h1, a, g⟩
   ·exact .inl h
   ·exact .inr ⟨h1, fun x d => by rcases aM.1 d with rfl | d; exact b; exact a x d, g⟩
  ·rw [HA b]
   exact .inl ⟨42, by decide, rfl⟩
theorem FG (s : mY) (m t : List lf) (e : qI [s.Shown, m] = some (s.Shown ++ m)) (a : pM (s.Shown ++ m) = some t) (d : ∀ x ∈ s.lm.lJ, x.Signed.Tag.length ≤ 1000000000) : ∀ (l : List lf) (acc : List Signed), (∀ c ∈ l, se s.lm c) → acc.length + l.length ≤ 100000 →
  oP s m l acc = some (acc ++ B4 s.lm l, 0, yC s t)
 | [], acc, _, _ => by
  rw [oP, e, aA, a]
  simp [B4, yC]
 | c :: l, acc, h, g => by
  rw [aI] at g
  obtain ⟨x, b, i, k⟩ := xS (h c (by simp))
  have h1 := d x i
  rw [oP, Ar, aA, b, aA]
  simp only
  unfold sR
  rw [ob (by simp; omega) (by simp; omega)]
  simp only [aA, bN]
  rw [ob (by simp; omega) (by simp; omega), aA]
  have := FG s m t e a d l (acc ++ [x.Signed]) (fun y j => h y (by simp [j])) (by simp; omega)
  rw [show ([⟨x.Signed.lf, x.Signed.Tag⟩] : List Signed) = [x.Signed] from rfl, this]
  unfold B4
  rw [bF, show AH s.lm c = x.Signed by unfold AH; rw [b]]
  simp
theorem Pj (s : mY) (hp : PB s.lm) (ha : s.lE.length ≤ 30000) (j : ∀ x ∈ s.lm.lJ, x.Signed.Tag.length ≤ 1000000000) (o : s.Shown.length ≤ 100000000) (l : List lf) (r : l.length ≤ 10000) :
  ∃ (out : List Signed) (e : Int) (t : List lf), oz s l = some (out, e, yC s t) ∧ t.length ≤ s.Shown.length + l.length ∧ ∀ x ∈ out, wO s.lm (vD s.lE s.mx) x.lf = true := by
 unfold oz vP
 have v : s = yC s s.Shown := rfl
 by_cases c : (l.length : Int) > 8
 ·simp only [c, bZ, aS, aA]
  exact ⟨[], 12, s.Shown, rfl, by omega, by simp⟩
 ·simp only [c, cD, aB, aK]
  rcases FP s hp ha l l with ⟨e, he, h⟩ | ⟨h, n, hm⟩
  ·rw [h, aA]
   have : (e != 0) = true := by simpa using he
   simp only [this, aS]
   exact ⟨[], e, s.Shown, rfl, by omega, by simp⟩
  ·obtain ⟨t, d, q⟩ := Eu (s.Shown ++ l) (by simp; omega)
   have tl := vR Az q
   rw [aD] at tl
   obtain ⟨u, g, hu⟩ := Eu l (by omega)
   have w := vR Az hu
   have a : ∀ c ∈ u, se s.lm c := fun c k => n c ((hu.2 c).1 k).1
   have i := FG s l t (Ip s.Shown l (by omega)) d j u [] a (by simp; omega)
   rw [h, aA]
   simp only [fO, aB, aK]
   rw [g, aA, i]
   refine ⟨_, _, t, rfl, tl, fun x b => ?_⟩
   rw [bN] at b
   have : x.lf ∈ (B4 s.lm u).map (·.lf) := bD.2 ⟨x, b, rfl⟩
   rw [Nq a] at this
   exact hm _ ((hu.2 _).1 this).1
theorem Tj (a b : List Int) : ∃ r, yM a b = some r := ⟨_, rfl⟩
theorem Rh (a : List Key) (c : wJ [] a = 0) (s : Signed) : ∃ e, qo (some ⟨rl a⟩) s = some e := by
 unfold qo
 rw [Sy]
 simp only [aA]
 cases b : mP s.lf
 ·exact ⟨11, rfl⟩
 simp only [aS]
 cases d : zJ a s.lf.Head.lh with
 | none => exact ⟨21, rfl⟩
 | some k =>
  have hm : Mk a s.lf k := ⟨c, b, d⟩
  obtain ⟨q, eq⟩ := Tj (xm k (oL s.lf)) s.Tag
  have h : yf k (oL s.lf) s.Tag = some q := by
   unfold yf
   have g : tq k = some true := by
    unfold tq
    have := hm.len
    rw [gJ (show (k.length : Int) ≥ 1 by omega), gJ (show (k.length : Int) ≤ 32 by omega)]; rfl
   rw [g]
   simp only [aA, aS, Ib _ hm.len, eq]
  simp only [Sh _ b, aA, h]
  cases q
  ·exact ⟨20, rfl⟩
  ·exact ⟨0, rfl⟩
def GX (s : mY) (acc : List lf) : mY := ⟨s.lm, s.mx, s.Room, acc, s.Shown, s.lT, s.mH⟩
theorem Gf (b : List Key) (g : wJ [] b = 0) (s : mY) : ∀ (l : List Signed) (n : Int) (acc : List lf), acc.length + l.length ≤ 1000000 → 0 ≤ n → n + l.length ≤ 1000000 →
  ∃ i e a, oM (some ⟨rl b⟩) s l n acc = some (i, e, GX s a) ∧ a.length ≤ acc.length + l.length ∧ ∀ c ∈ acc, mP c = true → c ∈ a
 | [], n, acc, _, _, _ => ⟨n, 0, acc, by rw [oM]; rfl, by simp, fun c d _ => d⟩
 | x :: l, n, acc, h, y, w => by
  rw [aI] at h w
  obtain ⟨e, u⟩ := Rh b g x
  obtain ⟨z, q, o, D, I, E⟩ := Gf b g s l n acc (by omega) y (by omega)
  rw [oM, u, aA]
  unfold qM
  rw [BP]
  simp only [aA, aI]
  have skip : ∃ i e a, oM (some ⟨rl b⟩) s l n acc = some (i, e, GX s a) ∧ a.length ≤ acc.length + (l.length + 1) ∧ ∀ c ∈ acc, mP c = true → c ∈ a := ⟨z, q, o, D, by omega, E⟩
  by_cases c1 : (e != 0) = true
  ·simp only [c1, aS, aA]
   exact skip
  ·simp only [c1, aK, aA, aB]
   cases th nw acc x.lf
   ·simp only [aB, aK]
    by_cases c2 : (acc.length : Int) ≥ s.Room
    ·simp only [c2, bZ, aS]
     exact ⟨n, 40, acc, rfl, by omega, fun c d _ => d⟩
    ·simp only [c2, cD, aB, aK]
     obtain ⟨t, v, k⟩ := Eu (acc ++ [x.lf]) (by simp; omega)
     have tl := vR Az k
     rw [aD] at tl
     simp only [aI, bQ] at tl
     obtain ⟨A, r, a2, F, J, G⟩ := Gf b g s l (n + 1) t (by omega) (by omega) (by omega)
     rw [J5 (by omega)]
     simp only [aA]
     rw [ob (by simp; omega) (by simp; omega), aA, v, aA, mr (by omega) (by omega), F]
     exact ⟨A, r, a2, rfl, by omega, fun c d j => G c ((k.2 c).2 ⟨by simp [d], j⟩) j⟩
   ·simp only [aS]
    exact skip
theorem Th (b : List Key) (d : wJ [] b = 0) (s : mY) (l : List Signed) (h : s.lE.length + l.length ≤ 1000000) : ∃ g e a, sH s (some ⟨rl b⟩) l = some (g, e, GX s a) ∧ a.length ≤ s.lE.length + l.length ∧ ∀ c ∈ s.lE, mP c = true → c ∈ a := by
 unfold sH
 rw [aX (by simp)]
 exact Gf b d s l 0 s.lE h (by omega) (by omega)
theorem O4 {l m : List lf} (h : ∀ c ∈ l, mP c = true → c ∈ m) (peer : ByteArray) (r : lg) (b : vD l peer r = true) : vD m peer r = true := by
 rw [E0] at *
 exact b.mono (fun c a => by rw [cQ] at *; exact ⟨h c a.1 a.2, a.2⟩)
theorem Mn (s : mY) (hp : PB s.lm) (ha : s.lE.length ≤ 30000) : ∀ (l : List mg) (acc : List lf), acc.length + l.length ≤ 100000000 →
  qc s.lm.Name s.lm.lJ s.lm.mf s.mx s.Room s.lE s.Shown s.lT s.mH l acc = some (acc ++ (l.filter fun x => wO s.lm (vD s.lE s.mx) x.Signed.lf).map (·.Signed.lf))
 | [], acc, _ => by rw [qc]; simp
 | x :: l, acc, h => by
  rw [aI] at h
  rw [qc, show (⟨⟨s.lm.Name, s.lm.lJ, s.lm.mf⟩, s.mx, s.Room, s.lE, s.Shown, s.lT, s.mH⟩ : mY) = s from rfl, Dd s hp ha, aA, iv]
  cases wO s.lm (vD s.lE s.mx) x.Signed.lf
  ·simp only [aB, aK]
   exact Mn s hp ha l acc (by omega)
  ·simp only [aS]
   rw [ob (by simp; omega) (by simp; omega), aA, Mn s hp ha l _ (by simp; omega)]
   simp
theorem Mo (s : mY) (hp : PB s.lm) (ha : s.lE.length ≤ 30000) : ∀ l : List lf, (∀ c ∈ l, wO s.lm (vD s.lE s.mx) c = true) →
  qX s.lm.Name s.lm.lJ s.lm.mf s.mx s.Room s.lE s.Shown s.lT s.mH l = some (Sum.inr ())
 | [], _ => by rw [qX]
 | c :: l, h => by
  rw [qX, show (⟨⟨s.lm.Name, s.lm.lJ, s.lm.mf⟩, s.mx, s.Room, s.lE, s.Shown, s.lT, s.mH⟩ : mY) = s from rfl, Dd s hp ha, aA, h c (by simp)]
  simp only [bU, aB, aK]
  exact Mo s hp ha l (fun x a => h x (by simp [a]))
theorem Ti (s : mY) (hp : PB s.lm) (ha : s.lE.length ≤ 30000) : ∃ m, vo s = some m ∧ ∀ (o : List Signed) (e : Int) (t : List lf) (l : List Signed), (∀ x ∈ l, wO s.lm (vD s.lE s.mx) x.lf = true) →
  rb (o, e, yC s t) m s.lm.lJ s.lm.mf s.lE s.Shown s.lT s.mH l = some (Sum.inr ()) := by
 obtain ⟨F, b⟩ := Ph s.lE ha
 obtain ⟨m, c, _, d⟩ := b.Su
 have g := LV b s.mx
 refine ⟨_, by unfold vo; rw [c]; rfl, fun o e t l => ?_⟩
 induction l with
 | nil => intro _; rw [rb]
 | cons x l ih =>
  intro h
  have a := h x (by simp)
  have j := El s.lm x.lf
  unfold wO at a
  rw [bA, bX] at a
  rw [rb, show (yC s t).lm = s.lm from rfl, Hv _ hp, aA, a.1]
  simp only [fO, aB, aK]
  rw [Ic (vD s.lE s.mx) _ (fun r => by unfold qF; rw [pE, d, ← g]; rfl) _ (by unfold Gd; omega), a.2]
  simp only [aA, bU, aB, aK]
  exact ih (fun y i => h y (by simp [i]))
def xr : List Signed → Nat
 | [] => 0
 | x :: l => 20 + xt x.lf + x.Tag.length + xr l
theorem ID : ∀ l : List Signed, 20 * l.length ≤ xr l
 | [] => by simp
 | x :: l => by have := ID l; rw [xr, aI]; omega
theorem Nc : ∀ (l : List Signed) (x : Int), 0 ≤ x → x + (xr l : Int) ≤ 4000000000 → pN l x = some (x + (xr l : Int))
 | [], x, _, _ => by rw [pN, xr]; simp
 | y :: l, x, b, h => by
  rw [xr] at h
  have a := g5 [y.lf] 0 (by omega) (by rw [tI, tI]; omega)
  rw [pN, show po [y.lf] = _ from a, aA, tI, tI, xr]
  rw [mr (x := 0 + ((20 + xt y.lf + 0 : Nat) : Int) + (y.Tag.length : Int)) (by omega) (by omega), mr (by omega) (by omega), Nc l _ (by omega) (by omega)]
  congr 1; omega
theorem Uc (l : List Signed) (h : xr l ≤ 2000000000) : rD [] l = some (xr l : Int) := by
 unfold rD
 rw [qC, Nc l 0 (by omega) (by omega), aA]
 congr 1; omega
def Oj (o : uZ) : Prop := xr o.S ≤ 1000000000 ∧ tI o.C ≤ 1000000000
theorem Mw (h : List Key) (k : wJ [] h = 0) : ∀ (ops : List uZ) (i : Nat) (s : mY), (∀ o ∈ ops, Oj o) → PB s.lm → (∀ x ∈ s.lm.lJ, x.Signed.Tag.length ≤ 1000000000) → (i ≤ 12 → s.lE.length ≤ 1000 + i * 100 ∧ s.Shown.length ≤ 90000000 + i * 100) →
  rc (some ⟨rl h⟩, 0) ops i s.lm.Name s.lm.lJ s.lm.mf s.mx s.Room s.lE s.Shown s.lT s.mH = some true
 | [], i, s, _, _, _, _ => by rw [rc]
 | o :: ops, i, s, n, hp, l, u => by
  have hO := n o (by simp)
  have eS : (⟨⟨s.lm.Name, s.lm.lJ, s.lm.mf⟩, s.mx, s.Room, s.lE, s.Shown, s.lT, s.mH⟩ : mY) = s := rfl
  rw [rc, eS]
  by_cases ci : (i : Int) ≥ 12
  ·simp only [ci, bZ, aS, aA]
  ·simp only [ci, cD, aB, aK]
   obtain ⟨z, bs⟩ := u (by omega)
   have A := ID o.S
   have D := BS o.C
   have j := hp.Cs
   rw [Uc o.S (by have := hO.1; omega), aA, show po o.C = _ from g5 o.C 0 (by omega) (by have := hO.2; omega), aA, mr (by have := hO.1; have := hO.2; omega) (by have := hO.1; have := hO.2; omega)]
   by_cases r : (xr o.S : Int) + (0 + (tI o.C : Int)) > 1500
   ·simp only [r, bZ, aS, aA]
   ·simp only [r, cD, aB, aK, aA]
    rw [Mn s hp (by omega) s.lm.lJ [] (by simp; omega), aA, bN]
    have b : ∀ c ∈ (s.lm.lJ.filter fun x => wO s.lm (vD s.lE s.mx) x.Signed.lf).map (·.Signed.lf), wO s.lm (vD s.lE s.mx) c = true := fun c j => by
     obtain ⟨x, g, rfl⟩ := bD.1 j
     exact (cQ.1 g).2
    generalize v : (s.lm.lJ.filter fun x => wO s.lm (vD s.lE s.mx) x.Signed.lf).map (·.Signed.lf) = d at *
    obtain ⟨E, e', a, t1, t2, t3⟩ := Th h k s o.S (by omega)
    obtain ⟨m, m1, m2⟩ := Ti s hp (by omega)
    obtain ⟨out, e, t, w, F, y⟩ := Pj s hp (by omega) l (by omega) o.C (by omega)
    rw [t1, m1, w]
    simp only [aA]
    split
    ·have q := Mo (GX s a) hp (by show a.length ≤ _; omega) d (fun c j => Ow (O4 t3 s.mx) c (b c j))
     have k2 := Mw h k ops (i + 1) (GX s a) (fun x g => n x (by simp [g])) hp l (fun _ => ⟨by show a.length ≤ _; omega, by show s.Shown.length ≤ _; omega⟩)
     simp only [aA]
     rw [q]
     simp only [aA]
     exact k2
    ·rw [m2 out e t out y]
     simp only [aA]
     have q := Mo (yC s t) hp (by show s.lE.length ≤ _; omega) d b
     have k2 := Mw h k ops (i + 1) (yC s t) (fun x g => n x (by simp [g])) hp l (fun _ => ⟨by show s.lE.length ≤ _; omega, by show t.length ≤ _; omega⟩)
     rw [q]
     simp only [aA]
     exact k2
theorem LN : ∀ {l : List mg}, ∀ x ∈ l, x.Signed.Tag.length ≤ A0 l
 | y :: l, x, a => by
  rw [A0]
  rcases aM.1 a with rfl | a
  ·omega
  ·have := LN (l := l) x a; omega
theorem IX (h : vd = some true) (s : mY) (g : List Key) (ops : List uZ) (b : SQ s) (l : BH g ≤ 1000000000) (i : ∀ o ∈ ops, Oj o) : wA s g ops = some true := by
 obtain ⟨r, d, n, q⟩ := T8 s b
 have c2 := BS s.Shown
 have k := b.sh
 unfold wA
 rw [h, d, KX, show rD g [] = _ from Tq g 0 (by omega) (by omega)]
 simp only [aA, bU, aB, aK]
 by_cases c : r > 4000
 ·simp only [c, bZ, aS, aA]
 ·simp only [c, cD, aB, aK, aA]
  cases decide ((0 : Int) + (BH g : Int) > 1500)
  ·simp only [aB, aK, aA]
   by_cases a : wJ [] g = 0
   ·rw [aZ a]
    simp only [fO, aB, aK]
    exact Mw g a ops 0 s i b.p.toPB (fun x j => by have := LN x j; have := b.go; unfold Im at this; omega) (fun _ => ⟨by omega, by omega⟩)
   ·rw [aX a]
    have : (wJ [] g != 0) = true := by simpa using a
    simp only [this, aS]
  ·simp only [aS, aA]
def uK : List Key := [⟨⟨#[120]⟩, [107]⟩]
def uG (T : List Int) : mg := ⟨⟨eC, T⟩, yD sZ⟩
def uP (T : List Int) : lm := ⟨Kj, [uG T], []⟩
def uS (T : List Int) (acc sh : List lf) : mY := ⟨uP T, Am, 1, acc, sh, [], []⟩
theorem Ty (T : List Int) (d : lf) : L6 [uG T] d = if nw eC d then some (yD sZ) else none := by
 unfold L6
 rw [fY, show (uG T).Signed.lf = eC from rfl]
 cases nw eC d <;> rfl
theorem Tm (T : List Int) : qP (uP T) eC = (yD sZ, 0) := by
 show qP ⟨Kj, [uG T], []⟩ eC = _
 rw [NQ, Ty, aZ (pe.2 rfl)]
 exact PQ JR
theorem Lm (T : List Int) : PB (uP T) where
 Cs := by simp [uP]
 EF := by simp [uP]
 rel := fun x a => by obtain rfl := bE.1 a; show mB (yD sZ) ≤ _; decide +kernel
 MC := fun x a => by cases a
 Q2 := fun x a => by cases a
theorem Tw {T : List Int} (h : T.length = 8) : Jh (uP T) where
 name := by show oa Kj = true; decide +kernel
 Sv := by simp [Hi, uP]
 Cs := ⟨fun x b => by obtain rfl := bE.1 b; exact ⟨h, JR⟩, Qi (Bw Ir)⟩
 EF := ⟨fun a ha => (by cases ha), trivial⟩
 guards := fun x b => by
  obtain rfl := bE.1 b
  show (qP (uP T) eC).2 = 0
  rw [Tm]
theorem PD (T : List Int) (v : lg → Bool) : wO (uP T) v eC = v sZ := by
 unfold wO
 rw [Tm]
 unfold DF
 rw [JR, Qa]; rfl
theorem Je {T : List Int} {d : lf} : se (uP T) d ↔ d = eC := by
 show se ⟨Kj, [uG T], []⟩ d ↔ _
 rw [NS]; show d ∈ [eC] ↔ _; simp
theorem PE (T : List Int) : tK (uP T) [tD] Am = some [eC] := by
 obtain ⟨fr, e, b, hm, _⟩ := SG (uP T) (Lm T) [tD] (by simp) Am
 have h : ∀ c, c ∈ fr ↔ c = eC := fun c => by
  rw [hm]
  unfold JP
  rw [Je]
  exact ⟨fun h => h.1, fun h => by subst h; exact ⟨rfl, Ir, by rw [PD]; exact Pp⟩⟩
 rw [e, NY b (fun c a => (h c).1 a) ((h eC).2 rfl) Ir]
theorem Pn (T : List Int) : ur (uP T) eC = some (uG T) := by
 unfold ur
 show List.find? _ [uG T] = _
 rw [fY, show (uG T).Signed.lf = eC from rfl, pe.2 rfl]
theorem P0 : vd = some true := by
 have d : wJ [] uK = 0 := by decide +kernel
 have R : K8 uK := fun k hk => by obtain rfl := bE.1 hk; intro x l; obtain rfl := bE.1 l; decide
 have u := KX uK
 rw [aZ d] at u
 have lk : zJ uK ⟨#[120]⟩ = some [107] := by unfold zJ; decide +kernel
 have w : Mk uK eC [107] := ⟨d, Ir, lk⟩
 have n : Mk uK tD [107] := ⟨d, PO, lk⟩
 obtain ⟨Z, s1, W⟩ := LL uK d eC
 obtain ⟨r2, s2, Y⟩ := LL uK d tD
 rcases W with ⟨_, h⟩ | ⟨c1, k1, m1, d1⟩
 ·exact absurd w (h _)
 rcases Y with ⟨_, h⟩ | ⟨c2, k2, m2, d2⟩
 ·exact absurd n (h _)
 obtain rfl := m1.unique w
 obtain rfl := m2.unique n
 obtain ⟨x1, y1⟩ := Z
 obtain ⟨x2, y2⟩ := r2
 simp only at c1 c2 d1 d2
 subst c1 c2 d1 d2
 have t8 : (xm [107] (oL eC)).length = 8 := rfl
 have b8 : B8 (xm [107] (oL eC)) := I9 _ _
 have y : B8 (xm [107] (oL tD)) := I9 _ _
 generalize hT : xm [107] (oL eC) = T at *
 have D : xD (uP T) Am 1 = some (uS T [] [], 0) := by
  obtain ⟨e, h, M⟩ := IE (uP T) (Lm T)
  rw [M.2 (Tw t8)] at h
  unfold xD
  rw [h, sE, show oa Am = true by decide +kernel]
  rfl
 have J : oz (uS T [] []) [eC] = some ([], 44, uS T [] []) := by
  unfold oz vP
  rw [aX (by decide), ov, Ar, aA, show ur (uS T [] []).lm eC = some (uG T) from Pn T]
  simp only [bU, aB, aK]
  rw [ov, oD, Dd (uS T [] []) (Lm T) (by simp [uS]) eC, show wO (uS T [] []).lm (vD (uS T [] []).lE (uS T [] []).mx) eC = false from (PD T _).trans T7]
  rfl
 obtain ⟨e, o, _, ce⟩ := O7 uK R d ⟨tD, xm [107] (oL tD)⟩ y
 have he : e = 0 := ce.2 ⟨_, n, rfl⟩
 subst he
 have O : th nw [tD] tD = true := (xO pe _ _).2 (by simp)
 have L : sH (uS T [] []) (some ⟨rl uK⟩) [⟨tD, xm [107] (oL tD)⟩, ⟨tD, xm [107] (oL tD)⟩] = some (1, 0, uS T [tD] []) := by
  unfold sH
  rw [aX (by simp), oM, o, aA]
  unfold qM
  rw [BP]
  simp only [fO, aB, aK, aA]
  rw [show th nw (uS T [] []).lE tD = false from rfl]
  simp only [aB, aK]
  rw [aX (by simp [uS]), J5 (by simp [uS])]
  simp only [aA]
  rw [ob (by simp [uS]) (by simp [uS]), aA, show (uS T [] []).lE ++ [tD] = [tD] from rfl, Iw (Bw PO) (by simp), aA, oM, o, aA]
  unfold qM
  rw [BP, O]
  simp only [fO, aB, aK, aA, aS]
  rw [oM]
  rfl
 have r := Jz (uS T [tD] []) (PE T) (by simp)
 obtain ⟨t, g, s⟩ := MG (uS T [tD] []) (Lm T) (by simp [uS]) (fun x l => by obtain rfl := bE.1 l; show T.length ≤ 1000; omega) [eC] (by simp) (Bw Ir) (fun c a => by obtain rfl := bE.1 a; exact Je.2 rfl) (fun c a => by obtain rfl := bE.1 a; exact (PD T _).trans Pp) (by simp [uS])
 have tS : qL t := ⟨g.1, fun c a => ((g.2 c).1 a).2⟩
 obtain rfl : t = [eC] := NY tS (fun c a => by simpa [uS] using ((g.2 c).1 a).1) ((g.2 eC).2 ⟨by simp, Ir⟩) Ir
 have G : B4 (uS T [tD] []).lm [eC] = [⟨eC, T⟩] := by
  show [AH (uP T) eC] = _
  unfold AH
  rw [Pn]; rfl
 rw [G, show yC (uS T [tD] []) [eC] = uS T [tD] [eC] from rfl] at s
 have eM := Dd (uS T [tD] [eC]) (Lm T) (by simp [uS]) eC
 rw [show wO (uS T [tD] [eC]).lm (vD (uS T [tD] [eC]).lE (uS T [tD] [eC]).mx) eC = true from (PD T _).trans Pp] at eM
 obtain ⟨b, I, U⟩ := Nx (uS T [tD] [eC]) (Lm T) (by simp [uS]) (by simp [uS]) (by simp [uS]) (by simp [uS])
 obtain rfl : b = true := U.2 ⟨Tw t8, by show oa Am = true; decide +kernel, by show (0 : Int) ≤ 1; decide, by show (1 : Int) ≤ 256; decide, Bw PO, Bw Ir, ⟨.nil, fun x => ⟨fun h => (by cases h), fun h => (by cases h.1)⟩⟩, ⟨.nil, fun x => ⟨fun h => (by cases h), fun h => (by cases h.1)⟩⟩, fun c a => Je.2 (bE.1 a)⟩
 have E : ∃ m, vo (uS T [tD] [eC]) = some m ∧ qF sZ m.1 m.2.1 m.2.2.1 m.2.2.2.1 m.2.2.2.2.1 m.2.2.2.2.2.1 m.2.2.2.2.2.2.1 (uS T [tD] [eC]).lm.lJ (uS T [tD] [eC]).lm.mf m.2.2.2.2.2.2.2.1 m.2.2.2.2.2.2.2.2 (uS T [tD] [eC]).lE (uS T [tD] [eC]).Shown (uS T [tD] [eC]).lT (uS T [tD] [eC]).mH = some true := by
  obtain ⟨F, v⟩ := Ph [tD] (by simp)
  obtain ⟨m, z, _, A⟩ := v.Su
  have Q := LV v Am
  refine ⟨_, by unfold vo; rw [show (uS T [tD] [eC]).lE = [tD] from rfl, z]; rfl, ?_⟩
  unfold qF
  rw [pE, A]
  congr 1
  have : vF F Am sZ = true := by rw [Q]; exact Pp
  exact this
 obtain ⟨m, i, j⟩ := E
 have q := Jz (uS T [tD] [eC]) (PE T) (by simp)
 have P : th nw [eC] eC = true := (xO pe _ _).2 (by simp)
 have f0 : ([eC].filter fun c => !th nw (uS T [tD] []).Shown c) = [eC] := rfl
 have f1 : ([eC].filter fun c => !th nw (uS T [tD] [eC]).Shown c) = [] := by
  show ([eC].filter fun c => !th nw [eC] c) = []
  rw [List.filter_cons_of_neg (by rw [P]; simp)]; rfl
 rw [f0] at r
 rw [f1] at q
 unfold vd
 rw [show zp [(⟨(⟨#[120]⟩ : ByteArray), [107]⟩ : Key)] = _ from u]
 simp only [aA]
 rw [show pO (some ⟨rl uK⟩) (⟨1, (⟨(⟨#[120]⟩ : ByteArray), (⟨#[121]⟩ : ByteArray)⟩ : lg), (⟨#[109, 101]⟩ : ByteArray), (⟨zS, zS⟩ : lg), (⟨zS, zS⟩ : lg), zS⟩ : lf) = _ from s1]
 simp only [aA]
 rw [show pO (some ⟨rl uK⟩) (⟨1, (⟨(⟨#[120]⟩ : ByteArray), (⟨#[122]⟩ : ByteArray)⟩ : lg), (⟨#[121, 111, 117]⟩ : ByteArray), (⟨zS, zS⟩ : lg), (⟨zS, zS⟩ : lg), zS⟩ : lf) = _ from s2]
 simp only [aA]
 rw [show xD (⟨(⟨#[109, 101]⟩ : ByteArray), [(⟨⟨eC, T⟩, (⟨1, 0, (⟨(⟨#[120]⟩ : ByteArray), (⟨#[122]⟩ : ByteArray)⟩ : lg), []⟩ : Formula)⟩ : mg)], []⟩ : lm) (⟨#[121, 111, 117]⟩ : ByteArray) 1 = _ from D]
 simp only [aA]
 rw [show oz (⟨⟨(uS T [] []).lm.Name, (uS T [] []).lm.lJ, (uS T [] []).lm.mf⟩, (uS T [] []).mx, (uS T [] []).Room, (uS T [] []).lE, (uS T [] []).Shown, (uS T [] []).lT, (uS T [] []).mH⟩ : mY) [(⟨1, (⟨(⟨#[120]⟩ : ByteArray), (⟨#[121]⟩ : ByteArray)⟩ : lg), (⟨#[109, 101]⟩ : ByteArray), (⟨zS, zS⟩ : lg), (⟨zS, zS⟩ : lg), zS⟩ : lf)] = _ from J]
 simp only [aA]
 rw [show sH (⟨⟨(uS T [] []).lm.Name, (uS T [] []).lm.lJ, (uS T [] []).lm.mf⟩, (uS T [] []).mx, (uS T [] []).Room, (uS T [] []).lE, (uS T [] []).Shown, (uS T [] []).lT, (uS T [] []).mH⟩ : mY) (some ⟨rl uK⟩) _ = _ from L]
 simp only [aA]
 rw [r]
 simp only [aA]
 rw [show oz (⟨⟨(uS T [tD] []).lm.Name, (uS T [tD] []).lm.lJ, (uS T [tD] []).lm.mf⟩, (uS T [tD] []).mx, (uS T [tD] []).Room, (uS T [tD] []).lE, (uS T [tD] []).Shown, (uS T [tD] []).lT, (uS T [tD] []).mH⟩ : mY) [(⟨1, (⟨(⟨#[120]⟩ : ByteArray), (⟨#[121]⟩ : ByteArray)⟩ : lg), (⟨#[109, 101]⟩ : ByteArray), (⟨zS, zS⟩ : lg), (⟨zS, zS⟩ : lg), zS⟩ : lf)] = _ from s]
 simp only [aA]
 rw [show mZ [(⟨eC, T⟩ : Signed)] 0 = some ⟨eC, T⟩ from rfl]
 simp only [aA]
 rw [RE ⟨eC, T⟩ b8, show vr (uS T [tD] [eC]) (⟨1, (⟨(⟨#[120]⟩ : ByteArray), (⟨#[121]⟩ : ByteArray)⟩ : lg), (⟨#[109, 101]⟩ : ByteArray), (⟨zS, zS⟩ : lg), (⟨zS, zS⟩ : lg), zS⟩ : lf) = _ from eM, I, i]
 simp only [aA]
 rw [show qF (⟨(⟨#[120]⟩ : ByteArray), (⟨#[122]⟩ : ByteArray)⟩ : lg) m.1 m.2.1 m.2.2.1 m.2.2.2.1 m.2.2.2.2.1 m.2.2.2.2.2.1 m.2.2.2.2.2.2.1 (uS T [tD] [eC]).lm.lJ (uS T [tD] [eC]).lm.mf m.2.2.2.2.2.2.2.1 m.2.2.2.2.2.2.2.2 (uS T [tD] [eC]).lE (uS T [tD] [eC]).Shown (uS T [tD] [eC]).lT (uS T [tD] [eC]).mH = _ from j, q]
 rfl
end Go.Proofs.YtklbhegeiijbjaaGreat
namespace Go.Proofs.YtklbhegeiijbjaaGreat.Lf
open Go.ChangeShapes Go.WideShapes Go.ChangeAt Go.RowKit
open Go.Proofs.YtklbhegeiijbjaaGreat (Rows.uptoBulk Rows.uptoBulkAll Rows.uptoSmall)
theorem Sx {H : Type} (d : DataW H) : 1 ≤ Rows.uptoBulk d := by
 cases d with
 | lit l => cases l <;> simp [Rows.uptoBulk]
 | nil => simp [Rows.uptoBulk]
 | ptr d => simp [Rows.uptoBulk]
 | slice a spare => simp [Rows.uptoBulk]
 | agg parts => simp [Rows.uptoBulk]
 | iface t d => simp [Rows.uptoBulk]
 | map entries => simp [Rows.uptoBulk]
 | held h => simp [Rows.uptoBulk]
def IH {α : Type} (P : Program) (t : TypeId) (enc : α → List Value) (sz : α → Nat) : Prop :=
 ∀ (H : Type) (b : TypeId × Value → H) (W : World) (base : Nat) (sp : Nat → Bool) (c : Bool) (fuel : Nat) (cs : List Value) (x : DataW H × List MemPlace),
  DataW.trod b P W base sp c fuel t cs = some x → ∃ a : α, cs = enc a ∧ sz a ≤ Rows.uptoBulk x.1
theorem Mc {P : Program} {t : TypeId} (a : P.underlying t = some .string) : IH P t (fun s : ByteArray => [.string s]) (fun s => s.size) := by
 intro H b W base sp c fuel cs x h
 obtain ⟨s, rfl, rfl, _⟩ := DataW.trod_string a h
 refine ⟨s, rfl, ?_⟩
 have e : s.data.toList.length = s.size := by rw [dA]; rfl
 simp [Rows.uptoBulk, e]
theorem Qn {P : Program} {t : TypeId} {k : IntKind} (a : P.underlying t = some (.int k)) : IH P t (fun n : Int => [.int k n]) (fun _ => 0) := by
 intro H b W base sp c fuel cs x h
 obtain ⟨n, rfl, rfl, _⟩ := DataW.trod_int a h
 exact ⟨n, rfl, eA _⟩
theorem QH {α : Type} {n : Nat} {p : Nat → α → Prop} (h : ∀ i, i < n → ∃ x, p i x) : ∃ l : List α, l.length = n ∧ ∀ i x, l[i]? = some x → p i x := by
 induction n with
 | zero => exact ⟨[], rfl, by simp⟩
 | succ n ih =>
  obtain ⟨l, h1, c⟩ := ih fun i b => h i (by omega)
  obtain ⟨x, g⟩ := h n (by omega)
  refine ⟨l ++ [x], by simp [h1], fun i y a => ?_⟩
  by_cases b : i < l.length
  ·rw [iw b] at a
   exact c i y a
  ·rw [fT (by omega)] at a
   have : i - l.length = 0 := by
    cases d : i - l.length with
    | zero => rfl
    | succ m => rw [d] at a; simp at a
   rw [this] at a
   have e : i = n := by omega
   simp at a
   subst a; rw [e]; exact g
theorem JK {W : World} {a : Addr} {v : Value} (h : W.cell? a = some v) : ∃ cs T fr, W.heap[a.block]? = some (.cells cs T fr) ∧ a.spot = none ∧ cs[a.off]? = some v := by
 unfold World.cell? at h
 split at h
 ·rename_i c T fr d
  by_cases b : a.spot.isSome
  ·simp [b] at h
  ·simp only [b] at h
   exact ⟨c, T, fr, d, by simpa using b, by simpa using h⟩
 ·cases h
theorem Ex.below {dd : Bool} {W W' : World} (h : Ex dd W W') : Below W.heap.size W W' := ⟨h.os, h.tape, h.output, h.size, h.nO⟩
theorem Ea {H : Type} {j : TypeId × Value → H} {P : Program} (l : laidOutB P = true) {W W' : World} {b : Nat → Bool} :
  ∀ {g : List TypeId} {vs : List Value} {ds : List (DataW H)} {c : List MemPlace}, (∀ t ∈ g, P.readableRec t = true ∧ t < P.types.size) →
   DataW.TrodAll j P W 0 (fun _ => true) true g vs ds c → (∀ p ∈ c, W.sameAt W' p) → (∀ p ∈ c, b p.block = true) → DataW.TrodAll j P W' 0 b true g vs ds c
 | [], _, _, _, _, h, _, _ => by
  obtain ⟨rfl, rfl, rfl⟩ := trodAll_nil h
  exact trodAll_mk0
 | t :: g, _, _, _, i, h, h1, k => by
  obtain ⟨v, vs, d, ds, p, q, rfl, rfl, rfl, n, o⟩ := trodAll_cons h
  exact trodAll_cons_mk (WideElems.Trod_stays l (i t (by simp)).1 (i t (by simp)).2 n (fun x a => h1 x (by simp [a])) (fun x a => k x (by simp [a])))
   (Ea l (fun u hu => i u (by simp [hu])) o (fun x a => h1 x (by simp [a])) (fun x a => k x (by simp [a])))
theorem L3 {H : Type} {enc : TypeId × Value → H} {P : Program} (I : laidOutB P = true) {f : Func} {s : ChangeSpec} {apart fresh handsOn again : Bool} {W W' : World} {args : Array Value} {v : Value} {ds gs : List (DataW H)} {before : List MemPlace} (L : ∀ t ∈ f.params.toList, P.readableRec t = true ∧ t < P.types.size) (l : s.vars = []) (o : DataW.Whole enc P f.params.toList s.vars apart W args.toList ds gs before) {dd : Bool} (D : Ex dd W W') (a : ∀ (b : Nat) (sp : Nat → Bool) (G : Bool), DataW.TrodAll enc P W' b sp G f.resultTypes.toList (v.resultList f.resultTypes.size) (s.fn H (ds ++ gs)).results []) (c : (s.fn H (ds ++ gs)).args = ds) (g : (s.fn H (ds ++ gs)).vars = []) (z : ∀ (j : Nat) (t : TypeId) (r : Value), f.resultTypes[j]? = some t → (v.resultList f.resultTypes.size)[j]? = some r → Value.okWide P W' .any 0 t r) :
  s.post enc P f apart fresh handsOn again W args v W' := by
 have d := o.lt
 have hold : ∀ p ∈ before, (fun b => decide (b < W.heap.size)) p.block = true := fun p hp => by simpa using d p hp
 have y := Ex.below D
 have u := o
 obtain ⟨p, q, F, E, i, M, J⟩ := o
 rw [l] at E
 obtain ⟨rfl, rfl⟩ := trodVars_none E
 rw [bV] at i
 subst i
 have k : ∀ sp : Nat → Bool, (∀ p ∈ before, sp p.block = true) → DataW.TrodAll enc P W' 0 sp true f.params.toList args.toList (s.fn H (ds ++ [])).args before := fun sp A => by
  rw [c]
  exact Ea I L F (fun x D => y.same (d x D)) A
 have n : ∀ sp : Nat → Bool, DataW.TrodVars enc P W' sp s.vars (s.fn H (ds ++ [])).vars [] := fun sp => by
  rw [g, l]; rfl
 refine ⟨ds, [], before, [], before, [], u, a _ _ _, k _ hold, n _, World.keptBut_mono (fun p hp => ⟨hp, ?_⟩) (y.frame (· ∈ before)), fun _ => ?_⟩
 ·exact Or.inr (Or.inl hp)
 ·refine ⟨z, _, _, ([] ++ before) ++ [], ⟨[] ++ before, [], trodAll_append (k _ (fun _ _ => rfl)) (a _ _ _), n _, rfl, ?_, ?_⟩, ?_⟩
  ·intro b off hp
   have h : MemPlace.cell b off ∈ before := by simpa using hp
   rw [World.frozen?_of_block (w := W) (y.block b (d _ h))]
   exact M b off h
  ·intro ha
   simpa using J ha
  ·intro p hp _
   simpa using hp
end Go.Proofs.YtklbhegeiijbjaaGreat.Lf
namespace Go.Proofs.YtklbhegeiijbjaaGreat.Lf
open Go.ChangeShapes Go.WideShapes Go.ChangeAt Go.RowKit
open Go.Proofs.YtklbhegeiijbjaaGreat (Rows.uptoBulk Rows.uptoBulkAll Rows.uptoSmall)
def B6 {α : Type} (P : Program) (t : TypeId) (R : qp α) (sz : α → Nat) : Prop :=
 ∀ (H : Type) (b : TypeId × Value → H) (W : World) (base : Nat) (sp : Nat → Bool) (c : Bool) (fuel : Nat) (cs : List Value) (x : DataW H × List MemPlace),
  DataW.trod b P W base sp c fuel t cs = some x → ∃ a : α, R (hp W) cs a ∧ sz a ≤ Rows.uptoBulk x.1
theorem IH.rel {α : Type} {P : Program} {t : TypeId} {enc : α → List Value} {sz : α → Nat} (h : IH P t enc sz) : B6 P t (Pl enc) sz := fun H a W base sp b fuel cs x c => h H a W base sp b fuel cs x c
end Go.Proofs.YtklbhegeiijbjaaGreat.Lf
namespace Go.Proofs.YtklbhegeiijbjaaGreat.Lf
open Go.ChangeShapes Go.WideShapes Go.ChangeAt Go.RowKit
open Go.Proofs.YtklbhegeiijbjaaGreat (Rows.uptoBulk Rows.uptoBulkAll Rows.uptoSmall)
theorem F6 {H : Type} : ∀ l : List (DataW H), Rows.uptoBulkAll l = (l.map Rows.uptoBulk).sum
 | [] => by simp [Rows.uptoBulkAll]
 | d :: l => by simp [Rows.uptoBulkAll, F6 l]
theorem NG {α : Type} (g : α → Nat) : ∀ (n : Nat) (f : Nat → Nat) {l : List α}, l.length = n → (∀ i x, l[i]? = some x → g x ≤ f i) → (l.map g).sum ≤ ((List.range n).map f).sum
 | 0, f, l, b, h => by
  obtain rfl := eX.1 b
  simp
 | n + 1, f, [], b, h => by cases b
 | n + 1, f, a :: l, b, h => by
  rw [List.range_succ_eq_map, bF, bF, gF, gF, fB]
  have h1 := h 0 a rfl
  have d := NG g n (f ∘ Nat.succ) (l := l) (by simpa using b) (fun i x c => h (i + 1) x (by simpa using c))
  omega
def pQ {α : Type} (sz : α → Nat) (l : List α) : Nat := (l.map fun a => max 1 (sz a)).sum
theorem zj {α : Type} (sz : α → Nat) : ∀ l : List α, l.length ≤ pQ sz l
 | [] => aT _
 | a :: l => by have := zj sz l; simp only [pQ, bF, gF, aI] at this ⊢; omega
theorem E8 {α : Type} {sz : α → Nat} : ∀ {l : List α} {a : α}, a ∈ l → sz a ≤ pQ sz l
 | b :: l, a, h => by
  simp only [pQ, bF, gF]
  rcases aM.1 h with rfl | h
  ·omega
  ·have := E8 (sz := sz) h; simp only [pQ] at this; omega
theorem FL {α : Type} {P : Program} {t e : TypeId} {k : Nat} {R : qp α} {sz : α → Nat} (hk : P.cellsOf e = k) (I : 0 < k) (ht : P.underlying t = some (.slice e)) {H : Type} {O : TypeId × Value → H} {W : World} {base : Nat} {sp : Nat → Bool} {held : Bool} {fuel : Nat} {cs : List Value} {x : DataW H × List MemPlace} (hd : ∀ (fuel : Nat) (cs : List Value) (y : DataW H × List MemPlace), DataW.trod O P W base sp held fuel e cs = some y → SizeOf.sizeOf y.1 < SizeOf.sizeOf x.1 → ∃ a : α, R (hp W) cs a ∧ sz a ≤ Rows.uptoBulk y.1) (hf : DataW.trod O P W base sp held fuel t cs = some x) :
  ∃ v l, cs = [v] ∧ Sl R k (hp W) v l ∧ pQ sz l ≤ Rows.uptoBulk x.1 := by
 rcases Go.Deep.open_slice ht hf with ⟨rfl, rfl⟩ | ⟨a, ln, cp, m, n, D, Q, rfl, hb, hl, hm, L, rfl, F⟩
 ·exact ⟨_, [], rfl, ⟨none, 0, rfl, aT _, eA _, fun h => absurd h (Nat.lt_irrefl _)⟩, eA _⟩
 ·have aa : ln ≤ m := by rw [L]; split <;> omega
  have hB : ((List.range ln).map fun i => Rows.uptoBulk (D i)).sum ≤ Rows.uptoBulk (DataW.slice ((List.range ln).map D) ((List.range (m - ln)).map fun j => D (ln + j))) := by
   simp only [Rows.uptoBulk]
   rw [F6, fB]
   have e : ((List.range ln).map fun i => Rows.uptoBulk (D i)) = (List.range ln).map (Rows.uptoBulk ∘ D) := rfl
   rw [e]
   omega
  have hS : ∀ i, i < ln → SizeOf.sizeOf (D i) < SizeOf.sizeOf (DataW.slice ((List.range ln).map D) ((List.range (m - ln)).map fun j => D (ln + j))) := fun i G => by
   have := List.sizeOf_lt_of_mem (bD.2 ⟨i, List.mem_range.2 G, rfl⟩ : D i ∈ (List.range ln).map D)
   rw [DataW.slice.sizeOf_spec]; omega
  simp only at hd ⊢
  generalize Rows.uptoBulk (DataW.slice ((List.range ln).map D) ((List.range (m - ln)).map fun j => D (ln + j))) = B at hB
  obtain ⟨l, J, q⟩ := QH (α := α) (n := ln) (p := fun i x => ∃ b, W.cells? base (a.add (i * k)) k = some b ∧ R (hp W) b x ∧ sz x ≤ Rows.uptoBulk (D i)) fun i G => by
   obtain ⟨b, h1, w⟩ := F i (by omega)
   obtain ⟨x, hR, z⟩ := hd _ _ _ w (hS i G)
   rw [hk] at h1
   exact ⟨x, b, h1, hR, z⟩
  subst J
  refine ⟨_, l, rfl, ⟨some a, cp, rfl, hl, hm, fun h0 => ?_⟩, ?_⟩
  ·have c : ∀ i x, l[i]? = some x → ∃ b, R (hp W) b x ∧ b.length = k ∧ ∀ j, j < k → W.cell? ((a.add (i * k)).add j) = b[j]? := fun i x r =>
    let ⟨b, h1, w, _⟩ := q i x r
    let ⟨_, z, U⟩ := World.cells?_some h1
    ⟨b, w, z, U⟩
   obtain ⟨a6, _, U, h5⟩ := c 0 l[0] (by simp [h0])
   have A := h5 0 I
   rw [Nat.zero_mul, cW (by omega)] at A
   have e0 : (a.add 0).add 0 = a := rfl
   rw [e0] at A
   obtain ⟨cs, T, fr, E, Y, _⟩ := JK A
   obtain ⟨s, u, a1⟩ := a
   simp only at E Y
   subst Y
   refine ⟨s, u, cs, T, fr, rfl, E, fun i x r => ?_⟩
   obtain ⟨b, gR, g1, g2⟩ := c i x r
   refine ⟨b, g1, gR, fun j y hy => ?_⟩
   have hj : j < k := by
    rw [← g1]
    exact (bG.1 hy).1
   have Z := g2 j hj
   rw [Go.Deep.add_add, hy] at Z
   obtain ⟨M, T', a7, d, a8, g⟩ := JK Z
   have o : (Addr.add ⟨s, u, none⟩ (i * k + j)).block = s ∧ (Addr.add ⟨s, u, none⟩ (i * k + j)).off = u + (i * k + j) := by
    unfold Addr.add
    split
    ·rename_i hz
     rw [hz]; exact ⟨rfl, rfl⟩
    ·exact ⟨rfl, rfl⟩
   rw [o.1, E] at d
   cases d
   rw [o.2, ← fJ] at g
   exact g
  ·refine dM (NG _ _ _ rfl fun i x r => ?_) hB
   exact Nat.max_le.2 ⟨Sx _, (q i x r).elim fun _ h => h.2.2⟩
theorem pY {α : Type} {P : Program} {t e : TypeId} {k : Nat} {R : qp α} {sz : α → Nat} (hk : P.cellsOf e = k) (a : 0 < k) (c : B6 P e R sz) (g : P.underlying t = some (.slice e)) {H : Type} {b : TypeId × Value → H} {W : World} {base : Nat} {sp : Nat → Bool} {held : Bool} {fuel : Nat} {cs : List Value} {x : DataW H × List MemPlace} (d : DataW.trod b P W base sp held fuel t cs = some x) :
  ∃ v l, cs = [v] ∧ Sl R k (hp W) v l ∧ pQ sz l ≤ Rows.uptoBulk x.1 := FL hk a g (fun _ _ _ h _ => c _ _ _ _ _ _ _ _ _ h) d
end Go.Proofs.YtklbhegeiijbjaaGreat.Lf
namespace Go.Proofs.YtklbhegeiijbjaaGreat.Lf
open Go.ChangeShapes Go.WideShapes Go.ChangeAt Go.RowKit
open Go.Proofs.YtklbhegeiijbjaaGreat (Rows.uptoBulk Rows.uptoBulkAll Rows.uptoSmall)
def Hr {α : Type} (R : qp α) (Q : α → Prop) : qp α := fun μ ys x => R μ ys x ∧ Q x
theorem Sl.all {α : Type} {R : qp α} {Q : α → Prop} {k : Nat} {μ : lZ} {v : Value} {l : List α} (h : Sl (Hr R Q) k μ v l) : Sl R k μ v l ∧ ∀ x ∈ l, Q x := by
 obtain ⟨A, c, rfl, h1, j, s⟩ := h
 cases l with
 | nil => exact ⟨⟨A, c, rfl, h1, j, fun h => absurd h (by simp)⟩, by simp⟩
 | cons a l =>
  obtain ⟨b, o, cs, T, fr, e, t, n⟩ := s (by simp)
  refine ⟨⟨A, c, rfl, h1, j, fun _ => ⟨b, o, cs, T, fr, e, t, fun i x g => ?_⟩⟩, fun x g => ?_⟩
  ·obtain ⟨ys, q, d, r⟩ := n i x g
   exact ⟨ys, q, d.1, r⟩
  ·obtain ⟨i, u⟩ := List.mem_iff_getElem?.1 g
   obtain ⟨ys, q, d, r⟩ := n i x u
   exact d.2
theorem Qq {P : Program} {t : TypeId} (a : P.underlying t = some (.int .u8)) : B6 P t (Hr (Pl (mj .u8)) (fun x => 0 ≤ x ∧ x < 256)) (fun _ => 0) := by
 intro H b W base sp c fuel cs x h
 obtain ⟨n, rfl, rfl, hw⟩ := DataW.trod_int a h
 refine ⟨n, ⟨rfl, ?_⟩, eA _⟩
 simp [Lit.wf, IntKind.min, IntKind.max, IntKind.bits, IntKind.signed] at hw
 omega
theorem FW {α H : Type} {n : TypeId × Value → H} {P : Program} {t e : TypeId} {k : Nat} {R : qp α} {Q : α → Prop} {sz : α → Nat} (hk : P.cellsOf e = k) (b : 0 < k) (s : B6 P e (Hr R Q) sz) (i : P.underlying t = some (.slice e)) {W : World} {base j : Nat} {r : Reach} {sp : Nat → Bool} {held : Bool} {v : Value} {d : DataW H} {y : List MemPlace} (a : Value.okWide P W r j t v) (h : DataW.Trod n P W base sp held t v d y) :
  ∃ l : List α, Sl R k (hp W) v l ∧ pQ sz l ≤ Rows.uptoBulk d ∧ ∀ x ∈ l, Q x := by
 obtain ⟨A, ln, c, rfl⟩ := okWide_slice i a
 obtain ⟨fuel, w⟩ := h
 obtain ⟨u, l, h1, g, o⟩ := pY hk b s i w
 have q : (Value.slice A ln c).cells.toList = [Value.slice A ln c] := rfl
 rw [q] at h1
 cases h1
 exact ⟨l, (Sl.all g).1, o, (Sl.all g).2⟩
end Go.Proofs.YtklbhegeiijbjaaGreat.Lf
namespace Go.Proofs.YtklbhegeiijbjaaGreat
open Go.Proofs.Tryz renaming prog → pg0
set_option maxRecDepth 10000
open Go.ChangeShapes Go.WideShapes Go.ChangeAt Go.RowKit
open Go.Proofs.YtklbhegeiijbjaaGreat Go.Proofs.YtklbhegeiijbjaaGreat.Lf
def iU := @Tryz.underlying28
def kx := @Tryz.underlying53
theorem QF : Tryz.prog.cellsOf 36 = 9 := by kernel_rfl
theorem TA {α : Type} {l : List α} (h : l.length = 7) : ∃ a0 a a2 a3 a4 a5 b, l = [a0, a, a2, a3, a4, a5, b] := by
 match l, h with
 | [a0, a, a2, a3, a4, a5, b], _ => exact ⟨a0, a, a2, a3, a4, a5, b, rfl⟩
theorem QW {α : Type} {l : List α} (h : l.length = 9) : ∃ a0 a a2 a3 a4 a5 b c d, l = [a0, a, a2, a3, a4, a5, b, c, d] := by
 match l, h with
 | [a0, a, a2, a3, a4, a5, b, c, d], _ => exact ⟨a0, a, a2, a3, a4, a5, b, c, d, rfl⟩
theorem QO : Tryz.prog.cellsOf 25 = 3 := by kernel_rfl
theorem M0 {α : Type} {l : List α} (h : l.length = 3) : ∃ a0 a a2, l = [a0, a, a2] := by
 match l, h with
 | [a0, a, a2], _ => exact ⟨a0, a, a2, rfl⟩
theorem ER : Tryz.prog.cellsOf 9 = 1 := by kernel_rfl
theorem Gp : IH pg0 9 (fun s : ByteArray => [.string s]) (fun s => s.size) := Mc Tryz.underlying9
theorem PV : Tryz.prog.cellsOf 22 = 1 := by kernel_rfl
theorem Ll : Tryz.prog.cellsOf 60 = 15 := by kernel_rfl
theorem Gx {α : Type} {l : List α} (h : l.length = 2) : ∃ a0 a, l = [a0, a] := by
 match l, h with
 | [a0, a], _ => exact ⟨a0, a, rfl⟩
theorem SD {α : Type} {l : List α} (h : l.length = 15) : ∃ a0 g a2 a3 a4 a5 i j k a9 a b a12 c d, l = [a0, g, a2, a3, a4, a5, i, j, k, a9, a, b, a12, c, d] := by
 match l, h with
 | [a0, g, a2, a3, a4, a5, i, j, k, a9, a, b, a12, c, d], _ => exact ⟨a0, g, a2, a3, a4, a5, i, j, k, a9, a, b, a12, c, d, rfl⟩
theorem Ia : Tryz.prog.cellsOf 55 = 10 := by kernel_rfl
theorem SN {α : Type} {l : List α} (h : l.length = 10) : ∃ a0 a a2 a3 a4 a5 b c d a9, l = [a0, a, a2, a3, a4, a5, b, c, d, a9] := by
 match l, h with
 | [a0, a, a2, a3, a4, a5, b, c, d, a9], _ => exact ⟨a0, a, a2, a3, a4, a5, b, c, d, a9, rfl⟩
theorem Aj : Tryz.prog.cellsOf 52 = 9 := by kernel_rfl
theorem JJ : IH pg0 3 (fun n : Int => [.int .i64 n]) (fun _ => 0) := Qn Tryz.underlying3
theorem G7 : Tryz.prog.cellsOf 3 = 1 := by kernel_rfl
theorem Bt : Tryz.prog.cellsOf 50 = 2 := by kernel_rfl
def so (x : lg) : Nat := x.lh.size + x.lp.size
theorem DS : IH pg0 50 lu so := by
 intro H d W base sp i fuel cs x h
 obtain ⟨xs, n, _, rfl, o, hlen, j⟩ := dL Tryz.underlying50 h
 obtain ⟨r, s, rfl⟩ := Gx hlen
 obtain ⟨a, c1, rfl⟩ := Gx (o.trans Bt)
 have g : DataW.trod d pg0 W base sp i n 9 (([a, c1].drop 0).take (Tryz.prog.cellsOf 9)) = some r := j 0 _ rfl
 have h1 : DataW.trod d pg0 W base sp i n 9 (([a, c1].drop 1).take (Tryz.prog.cellsOf 9)) = some s := j 1 _ rfl
 simp only [ER, List.drop, List.take] at g h1
 obtain ⟨q, b, k⟩ := Gp _ _ _ _ _ _ _ _ _ g
 obtain ⟨s1, c, l⟩ := Gp _ _ _ _ _ _ _ _ _ h1
 simp only [aW, dE] at b c
 obtain rfl := b
 obtain rfl := c
 refine ⟨⟨q, s1⟩, rfl, ?_⟩
 simp only [List.map, Rows.uptoBulk, Rows.uptoBulkAll, so] at k l ⊢
 omega
theorem Tx {α : Type} {l : List α} (h : l.length = 6) : ∃ a0 a a2 a3 a4 a5, l = [a0, a, a2, a3, a4, a5] := by
 match l, h with
 | [a0, a, a2, a3, a4, a5], _ => exact ⟨a0, a, a2, a3, a4, a5, rfl⟩
def sy (x : lf) : Nat := so x.Head + x.lM.size + so x.B + so x.C + x.lN.size
theorem Fk : IH pg0 52 li sy := by
 intro H k W base sp l fuel cs x h
 obtain ⟨xs, n, _, rfl, M, hlen, o⟩ := dL Tryz.underlying52 h
 obtain ⟨T, U, Y, Z, y4, y5, rfl⟩ := Tx hlen
 obtain ⟨a, c1, c2, b, c, d, g, i, j, rfl⟩ := QW (M.trans Aj)
 have w : DataW.trod k pg0 W base sp l n 3 (([a, c1, c2, b, c, d, g, i, j].drop 0).take (Tryz.prog.cellsOf 3)) = some T := o 0 _ rfl
 have h1 : DataW.trod k pg0 W base sp l n 50 (([a, c1, c2, b, c, d, g, i, j].drop 1).take (Tryz.prog.cellsOf 50)) = some U := o 1 _ rfl
 have y : DataW.trod k pg0 W base sp l n 9 (([a, c1, c2, b, c, d, g, i, j].drop 3).take (Tryz.prog.cellsOf 9)) = some Y := o 2 _ rfl
 have z : DataW.trod k pg0 W base sp l n 50 (([a, c1, c2, b, c, d, g, i, j].drop 4).take (Tryz.prog.cellsOf 50)) = some Z := o 3 _ rfl
 have A : DataW.trod k pg0 W base sp l n 50 (([a, c1, c2, b, c, d, g, i, j].drop 6).take (Tryz.prog.cellsOf 50)) = some y4 := o 4 _ rfl
 have D : DataW.trod k pg0 W base sp l n 9 (([a, c1, c2, b, c, d, g, i, j].drop 8).take (Tryz.prog.cellsOf 9)) = some y5 := o 5 _ rfl
 simp only [G7, Bt, ER, List.drop, List.take] at w h1 y z A D
 obtain ⟨O, q, E⟩ := JJ _ _ _ _ _ _ _ _ _ w
 obtain ⟨s1, r, F⟩ := DS _ _ _ _ _ _ _ _ _ h1
 obtain ⟨s2, s, G⟩ := Gp _ _ _ _ _ _ _ _ _ y
 obtain ⟨P, t, I⟩ := DS _ _ _ _ _ _ _ _ _ z
 obtain ⟨Q, u, J⟩ := DS _ _ _ _ _ _ _ _ _ A
 obtain ⟨R, v, L⟩ := Gp _ _ _ _ _ _ _ _ _ D
 simp only [lu, aW, dE] at q r s t u v
 obtain rfl := q
 obtain ⟨rfl, rfl⟩ := r
 obtain rfl := s
 obtain ⟨rfl, rfl⟩ := t
 obtain ⟨rfl, rfl⟩ := u
 obtain rfl := v
 refine ⟨⟨O, s1, s2, P, Q, R⟩, rfl, ?_⟩
 simp only [List.map, Rows.uptoBulk, Rows.uptoBulkAll, sy] at E F G I J L ⊢
 omega
theorem HN : Tryz.prog.cellsOf 53 = 1 := by kernel_rfl
theorem Jx : Tryz.prog.cellsOf 5 = 1 := by kernel_rfl
theorem MK : B6 pg0 5 (Hr (Pl (mj .u8)) (fun x => 0 ≤ x ∧ x < 256)) (fun _ => 0) := Qq Tryz.underlying5
theorem Ft : Tryz.prog.cellsOf 58 = 5 := by kernel_rfl
theorem TP {α : Type} {l : List α} (h : l.length = 4) : ∃ a0 a a2 a3, l = [a0, a, a2, a3] := by
 match l, h with
 | [a0, a, a2, a3], _ => exact ⟨a0, a, a2, a3, rfl⟩
theorem TN {α : Type} {l : List α} (h : l.length = 5) : ∃ a0 a a2 a3 a4, l = [a0, a, a2, a3, a4] := by
 match l, h with
 | [a0, a, a2, a3, a4], _ => exact ⟨a0, a, a2, a3, a4, rfl⟩
theorem QI : Tryz.prog.cellsOf 56 = 1 := by kernel_rfl
theorem TG {H : Type} {x : DataW H × List MemPlace} {ys : List (DataW H × List MemPlace)} {p : List MemPlace} (a : x = (.agg (ys.map (·.1)), p)) (i : Nat) {y : DataW H × List MemPlace} (h : ys[i]? = some y) : SizeOf.sizeOf y.1 < SizeOf.sizeOf x.1 := by
 subst a
 have := List.sizeOf_lt_of_mem (bD.2 ⟨y, dC h, rfl⟩ : y.1 ∈ ys.map (·.1))
 simp only [DataW.agg.sizeOf_spec]; omega
theorem JM : ∀ l : List Formula, szFL l ≤ pQ Bf l
 | [] => aT _
 | k :: l => by have := JM l; rw [szFL]; simp only [pQ, bF, gF] at this ⊢; omega
theorem Rt : ∀ (N : Nat) (H : Type) (I : TypeId × Value → H) (W : World) (base : Nat) (sp : Nat → Bool) (J : Bool) (fuel : Nat) (cs : List Value) (x : DataW H × List MemPlace),
  DataW.trod I pg0 W base sp J fuel 58 cs = some x → SizeOf.sizeOf x.1 < N → ∃ a : Formula, lj (hp W) cs a ∧ Bf a ≤ Rows.uptoBulk x.1 := by
 intro N
 induction N with
 | zero => intro _ _ _ _ _ _ _ _ _ _ h; exact absurd h (Nat.not_lt_zero _)
 | succ N ih =>
  intro H I W base sp J fuel cs x h hN
  obtain ⟨a1, w, _, r, A, q, j⟩ := dL Tryz.underlying58 h
  obtain ⟨s, t, u, v, rfl⟩ := TP q
  obtain ⟨b, c, d, g, i, rfl⟩ := TN (A.trans Ft)
  have k : DataW.trod _ pg0 W _ _ _ w 3 (([b, c, d, g, i].drop 0).take (Tryz.prog.cellsOf 3)) = some s := j 0 _ rfl
  have l : DataW.trod _ pg0 W _ _ _ w 3 (([b, c, d, g, i].drop 1).take (Tryz.prog.cellsOf 3)) = some t := j 1 _ rfl
  have n : DataW.trod _ pg0 W _ _ _ w 50 (([b, c, d, g, i].drop 2).take (Tryz.prog.cellsOf 50)) = some u := j 2 _ rfl
  have o : DataW.trod _ pg0 W _ _ _ w 56 (([b, c, d, g, i].drop 4).take (Tryz.prog.cellsOf 56)) = some v := j 3 _ rfl
  simp only [G7, Bt, QI, List.drop, List.take] at k l n o
  obtain ⟨s2, D, O⟩ := JJ _ _ _ _ _ _ _ _ _ k
  simp only [aW, dE] at D
  obtain rfl := D
  obtain ⟨Y, E, P⟩ := JJ _ _ _ _ _ _ _ _ _ l
  simp only [aW, dE] at E
  obtain rfl := E
  obtain ⟨Z, F, Q⟩ := DS _ _ _ _ _ _ _ _ _ n
  simp only [lu, aW, dE] at F
  obtain ⟨rfl, rfl⟩ := F
  obtain ⟨v5, L, G, U, R⟩ := FL Ft (by decide) Tryz.underlying56 (fun f cs y h T => ih _ _ _ _ _ _ _ _ _ h (by have := TG r 3 rfl; omega)) o
  simp only [aW, dE] at G
  obtain rfl := G
  have M := aY (fun z => Rows.uptoBulk z.1) r
  refine ⟨⟨s2, Y, Z, L⟩, lj.mk ⟨_, rfl, U⟩, ?_⟩
  have T := JM L
  simp only [List.map, Rows.uptoBulk, Rows.uptoBulkAll, so] at O P Q R M ⊢
  rw [J4]
  simp only
  omega
theorem M9 : B6 pg0 58 lj Bf := fun H a W base sp b fuel cs x h => Rt _ H a W base sp b fuel cs x h (bL _)
def wu (x : mg) : Nat := sy x.Signed.lf + pQ (fun _ : Int => 0) x.Signed.Tag + 1 + Bf x.ly + 1
def N2 (x : mg) : Prop := (∀ y ∈ x.Signed.Tag, 0 ≤ y ∧ y < 256)
theorem RU : B6 pg0 60 (Hr mn N2) wu := by
 intro H eh W base sp hd fuel cs x h
 obtain ⟨a6, n6, _, R, Q, A, G⟩ := dL Tryz.underlying60 h
 obtain ⟨J, L, rfl⟩ := Gx A
 obtain ⟨a, b, c, d, g, i, j, k, l, n, o, q, r, s, t, rfl⟩ := SD (Q.trans Ll)
 have u : DataW.trod _ pg0 W _ _ _ n6 55 (([a, b, c, d, g, i, j, k, l, n, o, q, r, s, t].drop 0).take (Tryz.prog.cellsOf 55)) = some J := G 0 _ rfl
 have v : DataW.trod _ pg0 W _ _ _ n6 58 (([a, b, c, d, g, i, j, k, l, n, o, q, r, s, t].drop 10).take (Tryz.prog.cellsOf 58)) = some L := G 1 _ rfl
 simp only [Ia, Ft, List.drop, List.take] at u v
 obtain ⟨a7, n7, _, T, a1, D, I⟩ := dL Tryz.underlying55 u
 obtain ⟨M, O, rfl⟩ := Gx D
 have w : DataW.trod _ pg0 W _ _ _ n7 52 (([a, b, c, d, g, i, j, k, l, n].drop 0).take (Tryz.prog.cellsOf 52)) = some M := I 0 _ rfl
 have y : DataW.trod _ pg0 W _ _ _ n7 53 (([a, b, c, d, g, i, j, k, l, n].drop 9).take (Tryz.prog.cellsOf 53)) = some O := I 1 _ rfl
 simp only [Aj, HN, List.drop, List.take] at w y
 obtain ⟨s8, Z, b8⟩ := Fk _ _ _ _ _ _ _ _ _ w
 simp only [li, lu, aW, dE] at Z
 obtain ⟨rfl, rfl, rfl, rfl, rfl, rfl, rfl, rfl, rfl⟩ := Z
 obtain ⟨v9, s9, e9, U, b9⟩ := pY Jx (by decide) MK kx y
 simp only [aW, dE] at e9
 obtain rfl := e9
 obtain ⟨U, g9⟩ := Lf.Sl.all U
 have b7 := aY (fun z => Rows.uptoBulk z.1) T
 obtain ⟨Y, E, P⟩ := M9 _ _ _ _ _ _ _ _ _ v
 obtain ⟨v10, F, E⟩ := E.out
 simp only [aW, dE] at F
 obtain ⟨rfl, rfl, rfl, rfl, rfl⟩ := F
 have b6 := aY (fun z => Rows.uptoBulk z.1) R
 refine ⟨⟨⟨s8, s9⟩, Y⟩, ⟨mn.mk ⟨_, _, rfl, U, E⟩, g9⟩, ?_⟩
 simp only [List.map, Rows.uptoBulk, Rows.uptoBulkAll, wu] at b8 b9 b7 P b6 ⊢
 omega
theorem Qv : Tryz.prog.cellsOf 23 = 1 := by kernel_rfl
theorem Lu : Tryz.prog.cellsOf 87 = 8 := by kernel_rfl
theorem TS {α : Type} {l : List α} (h : l.length = 8) : ∃ a0 a a2 a3 a4 a5 b c, l = [a0, a, a2, a3, a4, a5, b, c] := by
 match l, h with
 | [a0, a, a2, a3, a4, a5, b, c], _ => exact ⟨a0, a, a2, a3, a4, a5, b, c, rfl⟩
theorem HI : Tryz.prog.cellsOf 28 = 1 := by kernel_rfl
def zD (x : nQ) : Nat := so x.lg + Bf x.ly + pQ sy x.ns + 1
def Ta (x : nQ) : Prop := True
theorem Sp : B6 pg0 87 (Hr mW Ta) zD := by
 intro H U W base sp Y fuel cs x h
 obtain ⟨Q, n11, _, E, D, r, q⟩ := dL Tryz.underlying87 h
 obtain ⟨t, u, v, rfl⟩ := M0 r
 obtain ⟨a, b, c, d, g, i, j, k, rfl⟩ := TS (D.trans Lu)
 have l : DataW.trod _ pg0 W _ _ _ n11 50 (([a, b, c, d, g, i, j, k].drop 0).take (Tryz.prog.cellsOf 50)) = some t := q 0 _ rfl
 have n : DataW.trod _ pg0 W _ _ _ n11 58 (([a, b, c, d, g, i, j, k].drop 2).take (Tryz.prog.cellsOf 58)) = some u := q 1 _ rfl
 have o : DataW.trod _ pg0 W _ _ _ n11 28 (([a, b, c, d, g, i, j, k].drop 7).take (Tryz.prog.cellsOf 28)) = some v := q 2 _ rfl
 simp only [HI, Bt, Ft, List.drop, List.take] at l n o
 obtain ⟨M, w, G⟩ := DS _ _ _ _ _ _ _ _ _ l
 simp only [lu, aW, dE] at w
 obtain ⟨rfl, rfl⟩ := w
 obtain ⟨O, s, I⟩ := M9 _ _ _ _ _ _ _ _ _ n
 obtain ⟨R, y, s⟩ := s.out
 simp only [aW, dE] at y
 obtain ⟨rfl, rfl, rfl, rfl, rfl⟩ := y
 obtain ⟨T, P, A, L, J⟩ := pY Aj (by decide) Fk.rel iU o
 simp only [aW, dE] at A
 obtain rfl := A
 have F := aY (fun z => Rows.uptoBulk z.1) E
 refine ⟨⟨M, O, P⟩, ⟨mW.mk ⟨_, _, rfl, s, L⟩, trivial⟩, ?_⟩
 simp only [List.map, Rows.uptoBulk, Rows.uptoBulkAll, zD] at G I J F ⊢
 omega
theorem Qf : Tryz.prog.cellsOf 34 = 1 := by kernel_rfl
def GS (x : mY) : Nat := x.lm.Name.size + pQ wu x.lm.lJ + pQ zD x.lm.mf + 1 + x.mx.size + pQ sy x.lE + pQ sy x.Shown + pQ so x.lT + pQ so x.mH + 1
theorem Kh : Tryz.prog.cellsOf 118 = 2 := by kernel_rfl
def Ck (x : Key) : Nat := x.lM.size + pQ (fun _ : Int => 0) x.Key + 1
def S5 (x : Key) : Prop := (∀ y ∈ x.Key, 0 ≤ y ∧ y < 256)
theorem QP : B6 pg0 118 (Hr vV S5) Ck := by
 intro H D W base sp E fuel cs x h
 obtain ⟨A, n26, _, r, q, g, i⟩ := dL Tryz.underlying118 h
 obtain ⟨k, l, rfl⟩ := Gx g
 obtain ⟨a, b, rfl⟩ := Gx (q.trans Kh)
 have c : DataW.trod _ pg0 W _ _ _ n26 9 (([a, b].drop 0).take (Tryz.prog.cellsOf 9)) = some k := i 0 _ rfl
 have d : DataW.trod _ pg0 W _ _ _ n26 53 (([a, b].drop 1).take (Tryz.prog.cellsOf 53)) = some l := i 1 _ rfl
 simp only [HN, ER, List.drop, List.take] at c d
 obtain ⟨w, n, t⟩ := Gp _ _ _ _ _ _ _ _ _ c
 simp only [aW, dE] at n
 obtain rfl := n
 obtain ⟨v28, y, o, j, u⟩ := pY Jx (by decide) MK kx d
 simp only [aW, dE] at o
 obtain rfl := o
 obtain ⟨j, v⟩ := Lf.Sl.all j
 have s := aY (fun z => Rows.uptoBulk z.1) r
 refine ⟨⟨w, y⟩, ⟨vV.mk ⟨_, rfl, j⟩, v⟩, ?_⟩
 simp only [List.map, Rows.uptoBulk, Rows.uptoBulkAll, Ck] at t u s ⊢
 omega
theorem Li : Tryz.prog.cellsOf 47 = 3 := by kernel_rfl
theorem QG : Tryz.prog.cellsOf 45 = 1 := by kernel_rfl
def wz (x : Signed) : Nat := sy x.lf + pQ (fun _ : Int => 0) x.Tag + 1
def Jo (x : Signed) : Prop := (∀ y ∈ x.Tag, 0 ≤ y ∧ y < 256)
theorem Rf : B6 pg0 55 (Hr oq Jo) wz := by
 intro H O W base sp P fuel cs x h
 obtain ⟨M, n29, _, D, A, r, s⟩ := dL Tryz.underlying55 h
 obtain ⟨u, v, rfl⟩ := Gx r
 obtain ⟨a, b, c, d, g, i, j, k, l, n, rfl⟩ := SN (A.trans Ia)
 have o : DataW.trod _ pg0 W _ _ _ n29 52 (([a, b, c, d, g, i, j, k, l, n].drop 0).take (Tryz.prog.cellsOf 52)) = some u := s 0 _ rfl
 have q : DataW.trod _ pg0 W _ _ _ n29 53 (([a, b, c, d, g, i, j, k, l, n].drop 9).take (Tryz.prog.cellsOf 53)) = some v := s 1 _ rfl
 simp only [Aj, HN, List.drop, List.take] at o q
 obtain ⟨J, w, F⟩ := Fk _ _ _ _ _ _ _ _ _ o
 simp only [li, lu, aW, dE] at w
 obtain ⟨rfl, rfl, rfl, rfl, rfl, rfl, rfl, rfl, rfl⟩ := w
 obtain ⟨v31, L, y, t, G⟩ := pY Jx (by decide) MK kx q
 simp only [aW, dE] at y
 obtain rfl := y
 obtain ⟨t, I⟩ := Lf.Sl.all t
 have E := aY (fun z => Rows.uptoBulk z.1) D
 refine ⟨⟨J, L⟩, ⟨oq.mk ⟨_, rfl, t⟩, I⟩, ?_⟩
 simp only [List.map, Rows.uptoBulk, Rows.uptoBulkAll, wz] at F G E ⊢
 omega
def AV (x : uZ) : Nat := pQ wz x.S + pQ sy x.C + 1
def NC (x : uZ) : Prop := (∀ y ∈ x.S, Jo y)
theorem Rw : B6 pg0 47 (Hr uv NC) AV := by
 intro H O W base sp P fuel cs x h
 obtain ⟨L, n32, _, v, u, k, j⟩ := dL Tryz.underlying47 h
 obtain ⟨n, o, q, rfl⟩ := M0 k
 obtain ⟨a, b, c, rfl⟩ := M0 (u.trans Li)
 have d : DataW.trod _ pg0 W _ _ _ n32 3 (([a, b, c].drop 0).take (Tryz.prog.cellsOf 3)) = some n := j 0 _ rfl
 have g : DataW.trod _ pg0 W _ _ _ n32 45 (([a, b, c].drop 1).take (Tryz.prog.cellsOf 45)) = some o := j 1 _ rfl
 have i : DataW.trod _ pg0 W _ _ _ n32 28 (([a, b, c].drop 2).take (Tryz.prog.cellsOf 28)) = some q := j 2 _ rfl
 simp only [HI, G7, QG, List.drop, List.take] at d g i
 obtain ⟨G, r, y⟩ := JJ _ _ _ _ _ _ _ _ _ d
 simp only [aW, dE] at r
 obtain rfl := r
 obtain ⟨M, I, s, l, A⟩ := pY Ia (by decide) Rf Tryz.underlying45 g
 simp only [aW, dE] at s
 obtain rfl := s
 obtain ⟨l, E⟩ := Lf.Sl.all l
 obtain ⟨v35, J, t, F, D⟩ := pY Aj (by decide) Fk.rel iU i
 simp only [aW, dE] at t
 obtain rfl := t
 have w := aY (fun z => Rows.uptoBulk z.1) v
 refine ⟨⟨G, I, J⟩, ⟨uv.mk ⟨_, _, rfl, l, F⟩, E⟩, ?_⟩
 simp only [List.map, Rows.uptoBulk, Rows.uptoBulkAll, AV] at y A D w ⊢
 omega
theorem TC : Tryz.prog.readableRec 36 = true ∧ 36 < Tryz.prog.types.size := ⟨by kernel_rfl, gv (by kernel_rfl)⟩
theorem TK : Tryz.prog.readableRec 37 = true ∧ 37 < Tryz.prog.types.size := ⟨by kernel_rfl, gv (by kernel_rfl)⟩
theorem TH : Tryz.prog.readableRec 38 = true ∧ 38 < Tryz.prog.types.size := ⟨by kernel_rfl, gv (by kernel_rfl)⟩
theorem BO (c : lf) : xt c = sy c := by unfold xt sy so; omega
theorem Lg {α : Type} (sz : α → Nat) (h : ∀ a, 2 ≤ sz a) : ∀ l : List α, 2 * l.length ≤ pQ sz l
 | [] => eA _
 | a :: l => by have := Lg sz h l; have := h a; simp only [pQ, bF, gF, aI] at *; omega
theorem BR (y : mg) : wu y = sy y.Signed.lf + pQ (fun _ : Int => 0) y.Signed.Tag + 1 + Bf y.ly + 1 := rfl
theorem KA (y : nQ) : zD y = so y.lg + Bf y.ly + pQ sy y.ns + 1 := rfl
theorem Df : ∀ l : List lf, tI l ≤ 21 * pQ sy l
 | [] => eA _
 | c :: l => by have := Df l; rw [tI, BO]; simp only [pQ, bF, gF] at *; omega
theorem Ln : ∀ l : List mg, A0 l ≤ 21 * pQ wu l
 | [] => eA _
 | x :: l => by
  have := Ln l
  have := zj (fun _ : Int => 0) x.Signed.Tag
  rw [A0, BO]
  have e := BR x
  simp only [pQ, bF, gF] at *; omega
theorem LU : ∀ l : List nQ, BG l ≤ 21 * pQ zD l
 | [] => eA _
 | x :: l => by
  have := LU l
  have := Df x.ns
  rw [BG]
  have e := KA x
  unfold so at e
  have a : pQ zD (x :: l) = max 1 (zD x) + pQ zD l := rfl
  omega
theorem OH (x : lm) (d : x.Name.size ≤ 1048576) (h1 : pQ wu x.lJ ≤ 1048576) (g : pQ zD x.mf ≤ 1048576) : PG x ∧ x.lJ.length ≤ 600000 ∧ Im x ≤ 1000000000 := by
 have c1 := Lg wu (fun y => by rw [BR]; omega) x.lJ
 have c2 := zj zD x.mf
 have g1 : ∀ y ∈ x.lJ, sy y.Signed.lf ≤ 1048576 ∧ mB y.ly ≤ 1048576 := fun y a => by
  have := E8 (sz := wu) a
  have e := BR y
  have := EZ y.ly
  omega
 have g2 : ∀ y ∈ x.mf, mB y.ly ≤ 1048576 ∧ pQ sy y.ns ≤ 1048576 := fun y a => by
  have := E8 (sz := zD) a
  have e := KA y
  have := EZ y.ly
  omega
 refine ⟨{ Cs := by omega, EF := by omega, rel := fun y a => ?_, MC := fun y a => ?_, Q2 := fun y a => ?_, TX := fun y a => ?_, Ui := fun y a c b => ?_ }, by omega, ?_⟩
 ·have := (g1 y a).2; omega
 ·have := (g2 y a).1; omega
 ·have := (g2 y a).2; have := zj sy y.ns; omega
 ·have := (g1 y a).1; rw [BO]; omega
 ·have := (g2 y a).2; have := E8 (sz := sy) b; rw [BO]; omega
 ·have := Ln x.lJ; have := LU x.mf; unfold Im; omega
theorem Gh : ∀ l : List lg, vL l ≤ 6 * pQ so l
 | [] => eA _
 | r :: l => by
  have := Gh l
  have a : pQ so (r :: l) = max 1 (so r) + pQ so l := rfl
  have b : so r = r.lh.size + r.lp.size := rfl
  rw [vL]; omega
theorem Qo (s : mY) (h : GS s ≤ 1048576) : SQ s := by
 unfold GS at h
 have a := OH s.lm (by omega) (by omega) (by omega)
 have c1 := Df s.lE
 have c2 := Df s.Shown
 have d := Gh s.lT
 have g := Gh s.mH
 have b := zj so s.lT
 have c := zj so s.mH
 exact { p := a.1, go := a.2.2, acc := by omega, sh := by omega, wl := by omega, al := by omega, Lq := by omega, ask := by omega, peer := by omega }
theorem O0 (y : Key) : Ck y = y.lM.size + pQ (fun _ : Int => 0) y.Key + 1 := rfl
theorem LI : ∀ l : List Key, BH l ≤ 11 * pQ Ck l
 | [] => eA _
 | x :: l => by
  have := LI l
  have := zj (fun _ : Int => 0) x.Key
  rw [BH]
  have e := O0 x
  have a : pQ Ck (x :: l) = max 1 (Ck x) + pQ Ck l := rfl
  omega
theorem Qm (l : List Key) (h : pQ Ck l ≤ 1048576) : BH l ≤ 1000000000 := by have := LI l; omega
theorem KP (y : Signed) : wz y = sy y.lf + pQ (fun _ : Int => 0) y.Tag + 1 := rfl
theorem JG : ∀ l : List Signed, xr l ≤ 21 * pQ wz l
 | [] => eA _
 | x :: l => by
  have := JG l
  have := zj (fun _ : Int => 0) x.Tag
  rw [xr, BO]
  have e := KP x
  have a : pQ wz (x :: l) = max 1 (wz x) + pQ wz l := rfl
  omega
theorem Rq (l : List uZ) (h : pQ AV l ≤ 1048576) : ∀ o ∈ l, Oj o := fun o a => by
 have h1 := E8 (sz := AV) a
 have e : AV o = pQ wz o.S + pQ sy o.C + 1 := rfl
 have b := JG o.S
 have c := Df o.C
 exact ⟨by omega, by omega⟩
theorem own : ownKnob Tryz.prog.godebug = none := by kernel_rfl
theorem OW : laidOutB pg0 = true := by kernel_rfl
theorem OR (H : Type) (enc : TypeId × Value → H) (W : World) (base : Nat) (args : Array Value) (ds gs : List (DataW H)) (before : List MemPlace) (s : ∀ (j : Nat) t v, Tryz.f4.params[j]? = some t → args[j]? = some v → Value.okWide pg0 W .any base t v) (hW : DataW.Whole enc pg0 Tryz.f4.params.toList Rows.gateSafeSpec.vars false W args.toList ds gs before) (hk : Rows.uptoSmall H (ds ++ gs) = true) :
  Calls pg0 4 args W fun e W' => ∃ v, e = .returned v ∧ Rows.gateSafeSpec.post enc pg0 Tryz.f4 false true false false W args v W' := by
 have bj := hW
 obtain ⟨p, q, bi, hV, rfl, c3, c4⟩ := hW
 have hA : DataW.TrodAll enc pg0 W 0 (fun _ => true) true Tryz.f4.params.toList args.toList ds p := bi
 have hr : ∀ t ∈ Tryz.f4.params.toList, Tryz.prog.readableRec t = true ∧ t < Tryz.prog.types.size := by
  rw [Tryz.params4]
  intro t ht
  simp only [aM, cH, eY] at ht
  rcases ht with rfl | rfl | rfl
  ·exact TC
  ·exact TK
  ·exact TH
 rw [Tryz.params4] at hA s
 obtain ⟨v0, c7, d0, bw, p0, q0, bk, rfl, rfl, h0, r0⟩ := trodAll_cons hA
 obtain ⟨v1, c8, d1, bx, p1, q1, rfl, rfl, rfl, h1, r1⟩ := trodAll_cons r0
 obtain ⟨v2, c9, d2, bz, p2, q2, rfl, rfl, rfl, h2, r2⟩ := trodAll_cons r1
 obtain ⟨rfl, rfl, rfl⟩ := trodAll_nil r2
 obtain rfl : args = #[v0, v1, v2] := by cases args; simp_all
 obtain ⟨rfl, rfl⟩ := trodVars_none hV
 have k0 := s 0 36 v0 rfl rfl
 have k1 := s 1 37 v1 rfl rfl
 have k2 := s 2 38 v2 rfl rfl
 obtain ⟨an, rfl, _⟩ := okWide_struct Tryz.underlying36 k0
 obtain ⟨c0, aE⟩ := h0
 obtain ⟨bl, rfl⟩ : ∃ l : List Value, an = l.toArray := ⟨an.toList, by simp⟩
 change DataW.trod _ _ _ _ _ _ _ _ bl = some _ at aE
 obtain ⟨bt, n15, _, b1, b0, L, r⟩ := dL Tryz.underlying36 aE
 obtain ⟨aa, ab, ad, ae, af, ag, ah, rfl⟩ := TA L
 obtain ⟨c, a, b, n, o, d, g, h, i, rfl⟩ := QW (b0.trans QF)
 have u : DataW.trod _ pg0 W _ _ _ n15 25 (([c, a, b, n, o, d, g, h, i].drop 0).take (Tryz.prog.cellsOf 25)) = some aa := r 0 _ rfl
 have w : DataW.trod _ pg0 W _ _ _ n15 9 (([c, a, b, n, o, d, g, h, i].drop 3).take (Tryz.prog.cellsOf 9)) = some ab := r 1 _ rfl
 have x : DataW.trod _ pg0 W _ _ _ n15 3 (([c, a, b, n, o, d, g, h, i].drop 4).take (Tryz.prog.cellsOf 3)) = some ad := r 2 _ rfl
 have y : DataW.trod _ pg0 W _ _ _ n15 28 (([c, a, b, n, o, d, g, h, i].drop 5).take (Tryz.prog.cellsOf 28)) = some ae := r 3 _ rfl
 have A : DataW.trod _ pg0 W _ _ _ n15 28 (([c, a, b, n, o, d, g, h, i].drop 6).take (Tryz.prog.cellsOf 28)) = some af := r 4 _ rfl
 have D : DataW.trod _ pg0 W _ _ _ n15 34 (([c, a, b, n, o, d, g, h, i].drop 7).take (Tryz.prog.cellsOf 34)) = some ag := r 5 _ rfl
 have E : DataW.trod _ pg0 W _ _ _ n15 34 (([c, a, b, n, o, d, g, h, i].drop 8).take (Tryz.prog.cellsOf 34)) = some ah := r 6 _ rfl
 simp only [QO, HI, G7, Qf, ER, List.drop, List.take] at u w x y A D E
 obtain ⟨bu, n16, _, b2, bs, M, J⟩ := dL Tryz.underlying25 u
 obtain ⟨ai, aj, ak, rfl⟩ := M0 M
 have F : DataW.trod _ pg0 W _ _ _ n16 9 (([c, a, b].drop 0).take (Tryz.prog.cellsOf 9)) = some ai := J 0 _ rfl
 have G : DataW.trod _ pg0 W _ _ _ n16 22 (([c, a, b].drop 1).take (Tryz.prog.cellsOf 22)) = some aj := J 1 _ rfl
 have I : DataW.trod _ pg0 W _ _ _ n16 23 (([c, a, b].drop 2).take (Tryz.prog.cellsOf 23)) = some ak := J 2 _ rfl
 simp only [PV, Qv, ER, List.drop, List.take] at F G I
 obtain ⟨Q, ao, b5⟩ := Gp _ _ _ _ _ _ _ _ _ F
 simp only [aW, dE] at ao
 obtain rfl := ao
 obtain ⟨c5, R, ap, O, b6⟩ := pY Ll (by decide) RU Tryz.underlying22 G
 simp only [aW, dE] at ap
 obtain rfl := ap
 obtain ⟨O, g18⟩ := Lf.Sl.all O
 obtain ⟨c6, T, aq, P, b7⟩ := pY Lu (by decide) Sp Tryz.underlying23 I
 simp only [aW, dE] at aq
 obtain rfl := aq
 obtain ⟨P, g19⟩ := Lf.Sl.all P
 have b4 := aY (fun z => Rows.uptoBulk z.1) b2
 obtain ⟨U, ar, b9⟩ := Gp _ _ _ _ _ _ _ _ _ w
 simp only [aW, dE] at ar
 obtain rfl := ar
 obtain ⟨Y, au, ba⟩ := JJ _ _ _ _ _ _ _ _ _ x
 simp only [aW, dE] at au
 obtain rfl := au
 obtain ⟨v22, Z, av, bn, bc⟩ := pY Aj (by decide) Fk.rel iU y
 simp only [aW, dE] at av
 obtain rfl := av
 obtain ⟨v23, a6, aw, bo, bd⟩ := pY Aj (by decide) Fk.rel iU A
 simp only [aW, dE] at aw
 obtain rfl := aw
 obtain ⟨v24, a7, ay, bp, bf⟩ := pY Bt (by decide) DS.rel Tryz.underlying34 D
 simp only [aW, dE] at ay
 obtain rfl := ay
 obtain ⟨v25, a8, az, bq, bh⟩ := pY Bt (by decide) DS.rel Tryz.underlying34 E
 simp only [aW, dE] at az
 obtain rfl := az
 have b3 := aY (fun z => Rows.uptoBulk z.1) b1
 simp only [List.map, Rows.uptoBulk, Rows.uptoBulkAll] at b5 b6 b7 b4 b9 ba bc bd bf bh b3
 have z0 : GS (⟨⟨Q, R, T⟩, U, Y, Z, a6, a7, a8⟩ : mY) ≤ Rows.uptoBulk d0 := by simp only [GS]; omega
 obtain ⟨a1, s1, z1, o1⟩ := FW (k := 2) Kh (by decide) QP Tryz.underlying37 k1 h1
 obtain ⟨a2, s2, z2, o2⟩ := FW (k := 3) Li (by decide) Rw Tryz.underlying38 k2 h2
 have hB : Rows.uptoBulkAll ([d0, d1, d2] ++ []) ≤ 1048576 := gv hk
 simp only [bV, Rows.uptoBulkAll] at hB
 have hm : wA (⟨⟨Q, R, T⟩, U, Y, Z, a6, a7, a8⟩ : mY) a1 a2 = some true := IX P0 _ _ _ (Qo _ (by omega)) (Qm _ (by omega)) (Rq _ (by omega))
 have hg := Gl (⟨⟨Q, R, T⟩, U, Y, Z, a6, a7, a8⟩ : mY) a b d g h i v1 a1 v2 a2 true W O P bn bo bp bq s1 s2 hm
 refine dJ hg fun e W' ⟨he, hx⟩ => ?_
 subst he
 exact ⟨_, rfl, L3 OW hr rfl bj hx (fun _ _ _ => trodAll_cons_mk (shut_bool Tryz.underlying4 _) trodAll_mk0) rfl rfl (ok_one (by kernel_rfl) rfl (okWide_bool_mk Tryz.underlying4 _))⟩
set_option maxRecDepth 100000 in
theorem RW (os : Os) (started : os.Started) (H : Type) (enc : TypeId × Value → H) (F : Stop.Interp) :
  ReturnsInHanded {} Tryz.checked os 4 .any ((Rows.OpenSpec.upto Rows.gateSafeSpec).pre6 enc pg0 Tryz.f4 Rows.gateSafeUptoRow.domain false) (((Rows.OpenSpec.upto Rows.gateSafeSpec).at F).post enc pg0 Tryz.f4 false true false false) := by
 refine returnsInHanded_of_cond (C := Tryz.checked) (s := Rows.OpenSpec.upto Rows.gateSafeSpec) (k := Rows.uptoSmall) rfl own started (by kernel_rfl) Tryz.func4
  (OpenSpec.witness (enc := enc) (C := Tryz.checked) (s := Rows.OpenSpec.upto Rows.gateSafeSpec) (k := Rows.uptoSmall) rfl false ⟨#[], #[.agg #[.string ⟨#[]⟩, .slice none 0 0, .slice none 0 0, .string ⟨#[]⟩, .int .i64 0, .slice none 0 0, .slice none 0 0, .slice none 0 0, .slice none 0 0], .slice none 0 0, .slice none 0 0], []⟩ 8 (by kernel_rfl) (by kernel_rfl) (by kernel_rfl)
   (x := ([.agg [.agg [.lit (.string []), .nil, .nil], .lit (.string []), .lit (.int .i64 0), .nil, .nil, .nil, .nil], .nil, .nil], [], [])) (by kernel_rfl) rfl (by kernel_rfl)) ?_
 intro W base args ds gs before a b _ hk _
 exact OR H enc W base args ds gs before a b hk
theorem SR {a b : Bool} (ha : a = true) (c : b = true) : (a && b) = true := by rw [ha, c]; rfl
set_option maxHeartbeats 40000000 in
theorem PR : joinedFacts Tryz.checked.prog 4 Tryz.f4 (Rows.OpenSpec.upto Rows.gateSafeSpec).bare Rows.gateSafeUptoRow = true := by
 unfold joinedFacts
 repeat' with_reducible refine SR ?_ ?_
 all_goals as_aux_lemma => kernel_rfl
theorem proved : Rows.GateSafeUptoSaid :=
 OpenClaim.holds_of_cond 4 Tryz.f4 rfl rfl rfl rfl rfl rfl rfl ⟨rfl, rfl, rfl, rfl, rfl⟩ rfl rfl rfl rfl rfl (by kernel_rfl) Tryz.func4 PR
  (gv (by kernel_rfl)) (by unfold Func.isWrapper; first | (rw [aZ (by decide +kernel)]; kernel_rfl) | (rw [aX (by decide +kernel)]; exact ⟨rfl, rfl⟩))
  (fun os started H enc _ F => RW os started H enc F)
end Go.Proofs.YtklbhegeiijbjaaGreat
