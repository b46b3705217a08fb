/- a part of a proof of ThriftSpares -/
import Derived.Test.YtklbhegeiijbjaaGreatHep
import Derived.Test.YtklbhegeiijbjaaGreatRtVp
import Derived.Test.YtklbhegeiijbjaaGreatRows
import Derived.WalkKit
import Derived.ProofKit
import Derived.OpenShut
import Derived.JoinedCond
import Derived.Deep.Slices
import Derived.Carry
import Derived.ChangeArms
import Derived.ChangeSame
import Derived.Test.YtklbhegeiijbjaaGreatTSW3p
set_option linter.all false
namespace Go.Proofs.YtklbhegeiijbjaaGreat
open Go.RowKit
theorem Kx : ∀ (l m A : List lB), l.length = m.length → ∃ b, sb (A ++ m) l A.length = some b ∧ (b = true ↔ l = m)
 | [], m, A, c => by
  obtain rfl := aX c.symm
  exact ⟨true, rfl, by simp⟩
 | x :: l, [], A, c => by simp at c
 | x :: l, y :: m, A, c => by
  have i1 : nD (A ++ y :: m) (A.length : Int) = some y := oS _ _ _ _ rfl
  rw [sb, i1, aA]
  cases d : mC x y with
  | false =>
   refine ⟨false, rfl, ?_⟩
   have : x ≠ y := fun a => by have := nF.2 a; rw [this] at d; cases d
   simp [this]
  | true =>
   have a := nF.1 d
   obtain ⟨b, g, j⟩ := Kx l m (A ++ [y]) (by simpa using c)
   simp only [bX, aB, aN]
   have h : A ++ y :: m = (A ++ [y]) ++ m := by simp
   have i : A.length + 1 = (A ++ [y]).length := by simp
   rw [h, i, g]
   exact ⟨b, rfl, by rw [j]; simp [a]⟩
theorem PT (l m : List lB) : ∃ b, qX l m = some b ∧ (b = true ↔ l = m) := by
 unfold qX
 by_cases h : l.length = m.length
 ·have : ((l.length : Int) != (m.length : Int)) = false := by simp [h]
  simp only [this, aB, aN]
  exact Kx l m [] h
 ·have : ((l.length : Int) != (m.length : Int)) = true := by simp; omega
  simp only [this, aT]
  exact ⟨false, rfl, by simp; intro hk; rw [hk] at h; exact h rfl⟩
theorem J3 (l : List lB) (g : l.length ≤ 1000000000) : ∃ b, xi l = some b ∧ (b = true ↔ uQ l l) := by
 obtain ⟨s, e, h⟩ := E4 l g
 obtain ⟨b, c, d⟩ := PT s l
 unfold xi
 rw [e, aA, c]
 refine ⟨b, rfl, d.trans ⟨fun a => ?_, fun a => sU.unique yO h a⟩⟩
 rw [a] at h; exact h
def TY (l : List mG) : Prop := (∀ x ∈ l, x.Signed.Tag.length = 8 ∧ rq x.lL = true) ∧ uQ (l.map (·.Signed.lB)) (l.map (·.Signed.lB))
theorem Km : ∀ (l : List mG) (acc : List lB), acc.length + l.length ≤ 1000000000 → (∀ x ∈ l, mT x.lL ≤ 10000000) →
  ∃ b, ui l acc = some b ∧ (b = true ↔ (∀ x ∈ l, x.Signed.Tag.length = 8 ∧ rq x.lL = true) ∧ uQ (acc ++ l.map (·.Signed.lB)) (acc ++ l.map (·.Signed.lB)))
 | [], acc, h, _ => by
  obtain ⟨b, e, c⟩ := J3 acc (by omega)
  rw [ui, e]
  exact ⟨b, rfl, by simpa using c⟩
 | x :: l, acc, h, d => by
  rw [aP] at h
  have i := d x (by simp)
  rw [ui, Bs _ (by omega)]
  simp only [aA]
  by_cases c1 : x.Signed.Tag.length = 8
  ·have a : ((x.Signed.Tag.length : Int) != 8) = false := by simp [c1]
   simp only [a, aB, aN, aA]
   cases c2 : rq x.lL
   ·refine ⟨false, rfl, ?_⟩
    constructor
    ·intro h; cases h
    ·rintro ⟨h1, _⟩
     have := (h1 x (by simp)).2
     rw [c2] at this; cases this
   ·simp only [bX, aB, aN]
    obtain ⟨b, e, c⟩ := Km l (acc ++ [x.Signed.lB]) (by simp; omega) (fun z g => d z (by simp [g]))
    rw [om (by simp; omega) (by simp; omega), aA, e]
    refine ⟨b, rfl, c.trans ?_⟩
    simp only [aR, cC, bN, bM, cE]
    simp only [c1, c2, true_and]
  ·have a : ((x.Signed.Tag.length : Int) != 8) = true := by simp; omega
   simp only [a, aT, aA]
   refine ⟨false, rfl, ?_⟩
   constructor
   ·intro h; cases h
   ·rintro ⟨h1, _⟩
    exact absurd (h1 x (by simp)).1 c1
def GS : Option lC → List ny → Prop
 | _, [] => True
 | q, a :: l => (∀ z, q = some z → A8 z a.lC = true) ∧ GS (some a.lC) l
def UY (l : List ny) : Prop := (∀ a ∈ l, nQ a.lC = true ∧ rq a.lL = true ∧ uQ a.nn a.nn) ∧ GS none l
theorem RX (A : List ny) (a : ny) (l : List ny) (k : A.length + 1 + l.length ≤ 1000000000) : ∃ b, (((if (decide ((A.length : Int) > 0)) then ((nD (A ++ a :: l) (IntKind.i64.wrap ((A.length : Int) - 1))).bind fun i => ((pG i.lC a.lC).bind fun d => some (decide (d ≥ 0)))) else some false) : Option Bool).bind fun g => some g) = some b ∧ (b = false ↔ ∀ z, A.getLast?.map (·.lC) = some z → A8 z a.lC = true) := by
 rw [pk]
 rcases dM A with rfl | ⟨B, y, rfl⟩
 ·exact ⟨false, rfl, by simp⟩
 ·have h1 : ((B ++ [y]).length : Int) > 0 := by simp
  simp only [eJ] at *
  simp only [h1, cA, aT]
  have hw : IntKind.i64.wrap (((B ++ [y]).length : Int) - 1) = (B.length : Int) := by rw [nf (by simp) (by simp at *; omega)]; simp
  rw [hw, aR]
  rw [show B ++ ([y] ++ a :: l) = B ++ y :: (a :: l) from rfl, oS B y (a :: l) _ rfl, aA]
  obtain ⟨c, e, h⟩ := wZ y.lC a.lC
  rw [e, aA]
  refine ⟨_, rfl, ?_⟩
  simp only [List.getLast?_append, List.getLast?_singleton, Option.some_or, eG, jf]
  rw [decide_eq_false_iff_not]
  constructor
  ·rintro j z rfl; exact h.1 (by omega)
  ·intro j; have := h.2 (j _ rfl); omega
theorem Mu (all : List ny) : ∀ (l A : List ny), all = A ++ l → all.length ≤ 1000000000 → (∀ a ∈ l, mT a.lL ≤ 10000000 ∧ a.nn.length ≤ 2000000) →
  ∃ b, ve all l A.length = some b ∧ (b = true ↔ (∀ a ∈ l, nQ a.lC = true ∧ rq a.lL = true ∧ uQ a.nn a.nn) ∧ GS (A.getLast?.map (·.lC)) l)
 | [], A, _, _, _ => ⟨true, by rw [ve], by simp [GS]⟩
 | a :: l, A, c, g, k => by
  have ha := k a (by simp)
  have hlen : A.length + 1 + l.length ≤ 1000000000 := by rw [c] at g; simp at g; omega
  obtain ⟨m, d, j⟩ := RX A a l hlen
  rw [← c] at d
  obtain ⟨n, o, h1⟩ := J3 a.nn (by omega)
  rw [ve, wB, Bs _ (by omega), o]
  simp only [aA] at d ⊢
  rw [d]
  rw [GS]
  simp only [cE]
  cases c1 : nQ a.lC
  ·exact ⟨false, by simp, by simp⟩
  ·cases c2 : rq a.lL
   ·exact ⟨false, by simp, by simp⟩
   ·cases n with
    | false =>
     refine ⟨false, by simp, ?_⟩
     have : ¬ uQ a.nn a.nn := fun h => by have := h1.2 h; cases this
     simp [this]
    | true =>
     have s := h1.1 rfl
     cases m with
     | true =>
      refine ⟨false, by simp, ?_⟩
      constructor
      ·intro h; cases h
      ·rintro ⟨_, h, _⟩
       have := j.2 h; cases this
     | false =>
      have i := j.1 rfl
      obtain ⟨b, e, r⟩ := Mu all l (A ++ [a]) (by simp [c]) g (fun z i => k z (by simp [i]))
      rw [aC, List.length_singleton] at e
      refine ⟨b, by simpa using e, r.trans ?_⟩
      simp only [List.getLast?_append, List.getLast?_singleton, Option.some_or, eG, s, true_and]
      exact ⟨fun ⟨p, q⟩ => ⟨p, i, q⟩, fun ⟨p, _, q⟩ => ⟨p, q⟩⟩
def I2 (p : lF) : Bool := decide (256 < p.lX.length) || decide (8 < p.ml.length) || p.ml.any fun a => decide (32 < a.nn.length)
theorem Sd (p : lF) : AW p = some (I2 p) := by
 unfold AW I2
 rw [N9 _ (fun a => decide (32 < a.nn.length)) _ (fun a _ => by unfold ym; congr 1; rw [cJ, cH, cH]; omega)]
 by_cases c1 : 256 < p.lX.length
 ·have : ((p.lX.length : Int) > 256) := by omega
  simp [c1, this]
 ·have : ¬ ((p.lX.length : Int) > 256) := by omega
  by_cases c2 : 8 < p.ml.length
  ·have : ((p.ml.length : Int) > 8) := by omega
   simp [c1, c2, *]
  ·have : ¬ ((p.ml.length : Int) > 8) := by omega
   simp [c1, c2, *]
theorem Pk (p : lF) (hp : PB p) : yP p = some (p.lX.all fun x => decide ((rc p x.Signed.lB).2 = 0)) := by
 unfold yP
 rw [OC _ (fun x => !decide ((rc p x.Signed.lB).2 = 0)) _ (fun x _ => by
  unfold wY
  rw [GO p hp, aA]
  rfl), aA, List.all_eq_not_any_not]
structure BI (p : lF) : Prop where
 name : oV p.Name = true
 Q9 : I2 p = false
 xG : TY p.lX
 AI : UY p.ml
 guards : ∀ x ∈ p.lX, (rc p x.Signed.lB).2 = 0
theorem Ks (p : lF) (hp : PB p) : ∃ e, xS p = some e ∧ (e = 0 ↔ BI p) := by
 have q := hp.xG
 have n := hp.AI
 obtain ⟨g, l, h1⟩ := Km p.lX [] (by simp; omega) hp.rel
 obtain ⟨i, m, k⟩ := Mu p.ml p.ml [] rfl (by omega) (fun a ha => ⟨hp.LQ a ha, hp.M2 a ha⟩)
 have b : B5 p = some g := l
 have c : CF p.ml = some i := m
 unfold xS
 rw [vc, aA, Sd, b, c, Pk p hp]
 simp only [aA]
 cases c1 : oV p.Name
 ·exact ⟨30, rfl, by simp; intro h; have := h.name; rw [c1] at this; cases this⟩
 ·cases c2 : I2 p
  ·cases g with
   | false => exact ⟨11, rfl, by simp; intro h; have := h1.2 h.xG; cases this⟩
   | true =>
    cases i with
    | false => exact ⟨11, rfl, by simp; intro h; have := k.2 h.AI; cases this⟩
    | true =>
     cases j : p.lX.all fun x => decide ((rc p x.Signed.lB).2 = 0)
     ·refine ⟨11, rfl, iff_of_false (by decide) (fun h => ?_)⟩
      obtain ⟨x, d, o⟩ := List.all_eq_false.1 j
      simp [h.guards x d] at o
     ·exact ⟨0, rfl, by simp; exact ⟨c1, c2, h1.1 rfl, k.1 rfl, fun x d => by simpa using kT.1 j x d⟩⟩
  ·exact ⟨12, rfl, by simp; intro h; have := h.Q9; rw [c2] at this; cases this⟩
end Go.Proofs.YtklbhegeiijbjaaGreat
namespace Go.Proofs.YtklbhegeiijbjaaGreat
open Go.RowKit
structure PG (p : lF) : Prop extends PB p where
 Vx : ∀ x ∈ p.lX, zV x.Signed.lB ≤ 1000000000
 VT : ∀ a ∈ p.ml, ∀ c ∈ a.nn, zV c ≤ 1000000000
end Go.Proofs.YtklbhegeiijbjaaGreat
namespace Go.Proofs.YtklbhegeiijbjaaGreat
open Go.RowKit
def gA : lC := ⟨⟨#[97]⟩, ⟨#[114]⟩⟩
def gB : lC := ⟨⟨#[98]⟩, ⟨#[115]⟩⟩
def gX : lC := ⟨⟨#[120]⟩, ⟨#[121]⟩⟩
def Vw : Formula := ⟨1, 0, gA, []⟩
def VG : Formula := ⟨1, 0, gB, []⟩
def gc : lB := ⟨1, gX, ⟨#[109, 101]⟩, ⟨zS, zS⟩, ⟨zS, zS⟩, zS⟩
def gx : mG := ⟨⟨gc, List.replicate 8 0⟩, VG⟩
def gk : ny := ⟨gX, Vw, [gc]⟩
def gp : lF := ⟨⟨#[109, 101]⟩, [gx], [gk]⟩
def N8 : ByteArray := ⟨#[121, 111, 117]⟩
def gm (r : lC) : lB := ⟨1, r, N8, ⟨zS, zS⟩, ⟨zS, zS⟩, zS⟩
theorem TO {f : Formula} (h : f.Op = 1) : wI f = f := by rw [GP, aV h]
theorem gv {l : List lB} {F : List lY} (h : QB l F) (d : ∀ c ∈ l, c.Kind = 1) (r : lC) : vF F N8 r = true ↔ ∃ c ∈ l, ns c = true ∧ c.Head = r ∧ c.mS = N8 := by
 unfold vF
 rw [oT zu, (h.yC (l.filter ns) (fun c => by rw [bT])).2]
 constructor
 ·intro g
  generalize j : (⟨r, N8⟩ : lY) = f at g
  cases g with
  | mem c a hk =>
   rw [bT] at a
   injection j with h1 i
   exact ⟨c, a.1, a.2, h1.symm, i.symm⟩
  | inc c w a hk _ => rw [d c (bT.1 a).1] at hk; exact absurd hk (by decide)
  | Hw c b w a hk _ _ => rw [d c (bT.1 a).1] at hk; exact absurd hk (by decide)
  | both c w a hk _ _ => rw [d c (bT.1 a).1] at hk; exact absurd hk (by decide)
 ·rintro ⟨c, a, k, rfl, hw⟩
  rw [← hw]
  exact .mem c (bT.2 ⟨a, k⟩) (d c a)
end Go.Proofs.YtklbhegeiijbjaaGreat
namespace Go.Proofs.YtklbhegeiijbjaaGreat
open Go.RowKit
noncomputable def vD (l : List lB) (peer : ByteArray) (r : lC) : Bool := @decide (qW (l.filter ns) ⟨r, peer⟩) (Classical.propDecidable _)
theorem I1 (l : List lB) (peer : ByteArray) (r : lC) : vD l peer r = true ↔ qW (l.filter ns) ⟨r, peer⟩ := by unfold vD; simp
theorem UI (l : List lB) (h : l.length ≤ 1000000) (peer : ByteArray) : ∃ m, AR l peer = some m ∧ ∀ r, uZ r m.1 m.2.1 m.2.2.1 m.2.2.2.1 m.2.2.2.2.1 m.2.2.2.2.2.1 m.2.2.2.2.2.2 = some (vD l peer r) := by
 obtain ⟨C, T, i, ws, n, e, m, d, _⟩ := Oc l h
 unfold AR
 rw [e, aA]
 refine ⟨_, rfl, fun r => ?_⟩
 unfold uZ
 rw [pk]
 obtain ⟨b, a, g⟩ := Pm m C i ws [] n r peer
 rw [a]
 congr 1
 rw [cJ, g, I1]
 exact qW.congr (fun c => by rw [d, bT]) _
noncomputable def FJ (p : lF) (v : lC → Bool) (c : lB) : Bool := decide ((rc p c).2 = 0) && Bv v (rc p c).1
def qL (s : List lB) : Prop := s.Pairwise (fun a b => AS a b = true) ∧ ∀ c ∈ s, ns c = true
theorem qL.nodup {s : List lB} (h : qL s) : s.Nodup := vB yO h.2 h.1
theorem qL.le {s t : List lB} (h : qL s) (a : ∀ c ∈ s, c ∈ t) : s.length ≤ t.length := oe h.nodup a
theorem qL.ext {s t : List lB} (h : qL s) (k : qL t) (b : ∀ c, c ∈ s ↔ c ∈ t) : s = t :=
 sU.unique yO (l := t) ⟨h.1, fun x => ⟨fun a => ⟨(b x).1 a, h.2 x a⟩, fun a => (b x).2 a.1⟩⟩ ⟨k.1, fun x => ⟨fun a => ⟨a, k.2 x a⟩, fun a => a.1⟩⟩
theorem qL.eq {s t : List lB} (h : qL s) (k : qL t) (b : ∀ c ∈ s, c ∈ t) (i : t.length ≤ s.length) : s = t := by
 refine h.ext k fun c => ⟨b c, fun d => ?_⟩
 refine fZ fun g => ?_
 have := oe (l := c :: s) (m := t) (dC.2 ⟨g, h.nodup⟩) (fun x a => by
  rcases aS.1 a with rfl | a
  ·exact d
  ·exact b x a)
 simp at this; omega
theorem qL.nil : qL [] := ⟨by simp, by simp⟩
theorem qL.filter {s : List lB} (h : qL s) (p : lB → Bool) : qL (s.filter p) := ⟨h.1.filter _, fun c a => h.2 c (bT.1 a).1⟩
def vm (p : lF) (c : lB) : Prop := ∃ x ∈ p.lX, x.Signed.lB = c
def Et (p : lF) (l : List lB) (peer : ByteArray) (c : lB) : Prop := vm p c ∧ ns c = true ∧ FJ p (vD l peer) c = true
theorem JI {p : lF} {s : List lB} (h : qL s) (b : ∀ c ∈ s, vm p c) : s.length ≤ p.lX.length := by
 have := h.le (t := p.lX.map (·.Signed.lB)) (fun c a => by obtain ⟨x, d, e⟩ := b c a; exact bG.2 ⟨x, d, e⟩)
 simpa using this
theorem Rt (p : lF) (hp : PB p) (l : List lB) (n : l.length ≤ 1000000) (peer : ByteArray) : ∃ s, tz p l peer = some s ∧ qL s ∧ (∀ c, c ∈ s ↔ Et p l peer c) ∧ s.length ≤ p.lX.length := by
 obtain ⟨m, e, o⟩ := UI l n peer
 have := hp.xG
 unfold tz
 rw [e, aA, G4 p hp _ m o p.lX [] (by simp; omega), bN]
 have h1 : (p.lX.filter (KX p (vD l peer))).length ≤ p.lX.length := cQ _ _
 obtain ⟨s, j, a⟩ := E4 ((p.lX.filter (KX p (vD l peer))).map (·.Signed.lB)) (by simp; omega)
 have i : qL s := ⟨a.1, fun c d => ((a.2 c).1 d).2⟩
 have hm : ∀ c, c ∈ s ↔ Et p l peer c := fun c => by
  rw [a.2, bG]
  constructor
  ·rintro ⟨⟨x, h, rfl⟩, g⟩
   obtain ⟨k, b⟩ := bT.1 h
   exact ⟨⟨x, k, rfl⟩, g, b⟩
  ·rintro ⟨⟨x, h, rfl⟩, g, b⟩
   exact ⟨⟨x, bT.2 ⟨h, b⟩, rfl⟩, g⟩
 exact ⟨s, j, i, hm, JI i (fun c d => ((hm c).1 d).1)⟩
end Go.Proofs.YtklbhegeiijbjaaGreat
namespace Go.Proofs.YtklbhegeiijbjaaGreat
open Go.RowKit
def N0 (l : List mG) (d : lB) : Option Formula := (l.find? fun x => mC x.Signed.lB d).map (·.lL)
theorem PF (n : ByteArray) (l : List mG) (k : List ny) (c : lB) : vm ⟨n, l, k⟩ c ↔ c ∈ l.map (·.Signed.lB) := by
 unfold vm; rw [bG]
theorem GD (n : ByteArray) (l : List mG) (c : lB) : rc ⟨n, l, []⟩ c = match N0 l c with | none => (Jb, 42) | some r => Ie r [] := by
 unfold rc wX N0 Gp
 simp only
 cases l.find? (fun x => mC x.Signed.lB c) <;> rfl
end Go.Proofs.YtklbhegeiijbjaaGreat
namespace Go.Proofs.YtklbhegeiijbjaaGreat
open Go.RowKit
def sY : lC := ⟨⟨#[120]⟩, ⟨#[121]⟩⟩
def sZ : lC := ⟨⟨#[120]⟩, ⟨#[122]⟩⟩
def xy (r : lC) : Formula := ⟨1, 0, r, []⟩
def Iu (c : lB) (f : Formula) : mG := ⟨⟨c, List.replicate 8 0⟩, f⟩
theorem JF (v : lC → Bool) (r : lC) : Kv v (xy r) = v r := by rw [PE]; rfl
theorem Jt {r : lC} (h : rq (xy r) = true) : Ie (xy r) [] = (xy r, 0) := by
 have a : Eb (xy r) = (xy r, 0) := by unfold Eb; rw [h, TO rfl, h]; rfl
 unfold Ie
 rw [a, xK]; rfl
theorem JH (c d : lB) (f : Formula) : N0 [Iu c f] d = if mC c d then some f else none := by
 unfold N0
 rw [gZ, show (Iu c f).Signed.lB = c from rfl]
 cases mC c d <;> rfl
theorem PS {n : ByteArray} {c d : lB} {f : Formula} : vm ⟨n, [Iu c f], []⟩ d ↔ d = c := by
 rw [PF]; show d ∈ [c] ↔ _; simp
theorem PC {n : ByteArray} {c : lB} {r : lC} (a : rq (xy r) = true) (b : ns c = true) (l : List lB) (peer : ByteArray) (d : lB) : Et ⟨n, [Iu c (xy r)], []⟩ l peer d ↔ d = c ∧ vD l peer r = true := by
 unfold Et
 rw [PS]
 constructor
 ·rintro ⟨rfl, _, h⟩
  refine ⟨rfl, ?_⟩
  unfold FJ at h
  rw [GD, JH, aV (nF.2 rfl)] at h
  simp only [Jt a] at h
  unfold Bv at h
  rw [a, JF, fF] at h
  exact h
 ·rintro ⟨rfl, h⟩
  refine ⟨rfl, b, ?_⟩
  unfold FJ
  rw [GD, JH, aV (nF.2 rfl)]
  simp only [Jt a]
  unfold Bv
  rw [a, JF, fF]
  exact h
theorem T7 {c : lB} (a : ns c = true) (hk : c.Kind = 1) {l : List lB} (h : c ∈ l) : vD l c.mS c.Head = true := by
 rw [I1]
 exact .mem c (bT.2 ⟨h, a⟩) hk
theorem Tl (peer : ByteArray) (r : lC) : vD [] peer r = false := by
 rw [← iH, I1]
 intro h
 obtain ⟨c, a, _⟩ := h.head
 cases a
theorem Tz {n : ByteArray} {c : lB} {f : Formula} (h : mT f ≤ 10000000) : PB ⟨n, [Iu c f], []⟩ where
 xG := by simp
 AI := by simp
 rel := fun x a => by obtain rfl := bF.1 a; exact h
 LQ := fun x a => by cases a
 M2 := fun x a => by cases a
theorem Ha {c : lB} (a : ns c = true) : qL [c] := ⟨by simp, fun x b => by obtain rfl := bF.1 b; exact a⟩
theorem PN {s : List lB} {c : lB} (d : qL s) (h1 : ∀ x ∈ s, x = c) (a : c ∈ s) (b : ns c = true) : s = [c] :=
 d.ext (Ha b) (fun x => by
  rw [bF]
  exact ⟨h1 x, fun e => by rw [e]; exact a⟩)
theorem LP : rq (xy sZ) = true := by decide +kernel
end Go.Proofs.YtklbhegeiijbjaaGreat
namespace Go.Proofs.YtklbhegeiijbjaaGreat
open Go.RowKit
theorem Rr {l : List lB} {F : List lY} (h : QB l F) (peer : ByteArray) : vF F peer = vD l peer := by
 funext r
 rw [cJ, I1]
 unfold vF
 rw [oT zu, (h.yC (l.filter ns) (fun c => by rw [bT])).2]
end Go.Proofs.YtklbhegeiijbjaaGreat
namespace Go.Proofs.YtklbhegeiijbjaaGreat
open Go.RowKit
mutual
def Ce : Formula → Nat
 | ⟨_, _, r, ks⟩ => 1 + r.lI.size + r.lM.size + szFL ks
def szFL : List Formula → Nat
 | [] => 0
 | k :: ks => Ce k + szFL ks
end
theorem L5 (f : Formula) : Ce f = 1 + f.lC.lI.size + f.lC.lM.size + szFL f.Kids := by cases f; rw [Ce]
theorem GJ : ∀ f : Formula, mT f ≤ Ce f := by
 refine NW fun f ih => ?_
 have : ∀ a : List Formula, (∀ k ∈ a, mT k ≤ Ce k) → nodesL a ≤ szFL a := by
  intro a
  induction a with
  | nil => intro _; rw [nodesL]; omega
  | cons k a b =>
   intro h
   have := b (fun x c => h x (by simp [c]))
   have := h k (by simp)
   rw [nodesL, szFL]; omega
 have := this f.Kids ih
 rw [rV, L5]; omega
def xf : List lB → Nat
 | [] => 0
 | c :: l => 20 + zV c + xf l
theorem g5 : ∀ (l : List lB) (n : Int), 0 ≤ n → n + (xf l : Int) ≤ 4000000000000000000 → uj l n = some (n + (xf l : Int))
 | [], n, _, _ => by rw [uj, xf]; simp
 | c :: l, n, b, a => by
  have e : zV c = c.Head.lI.size + c.Head.lM.size + c.mS.size + c.B.lI.size + c.B.lM.size + c.C.lI.size + c.C.lM.size + c.mK.size := rfl
  rw [xf] at a
  rw [uj]
  rw [nf (x := 20 + (c.Head.lI.size : Int)) (by omega) (by omega), nf (x := 20 + (c.Head.lI.size : Int) + (c.Head.lM.size : Int)) (by omega) (by omega), nf (x := 20 + (c.Head.lI.size : Int) + (c.Head.lM.size : Int) + (c.mS.size : Int)) (by omega) (by omega), nf (x := 20 + (c.Head.lI.size : Int) + (c.Head.lM.size : Int) + (c.mS.size : Int) + (c.B.lI.size : Int)) (by omega) (by omega), nf (x := 20 + (c.Head.lI.size : Int) + (c.Head.lM.size : Int) + (c.mS.size : Int) + (c.B.lI.size : Int) + (c.B.lM.size : Int)) (by omega) (by omega), nf (x := 20 + (c.Head.lI.size : Int) + (c.Head.lM.size : Int) + (c.mS.size : Int) + (c.B.lI.size : Int) + (c.B.lM.size : Int) + (c.C.lI.size : Int)) (by omega) (by omega), nf (x := 20 + (c.Head.lI.size : Int) + (c.Head.lM.size : Int) + (c.mS.size : Int) + (c.B.lI.size : Int) + (c.B.lM.size : Int) + (c.C.lI.size : Int) + (c.C.lM.size : Int)) (by omega) (by omega), nf (x := 20 + (c.Head.lI.size : Int) + (c.Head.lM.size : Int) + (c.mS.size : Int) + (c.B.lI.size : Int) + (c.B.lM.size : Int) + (c.C.lI.size : Int) + (c.C.lM.size : Int) + (c.mK.size : Int)) (by omega) (by omega), nf (by omega) (by omega)]
  rw [g5 l _ (by omega) (by omega), xf]
  congr 1; omega
theorem VV : ∀ (n : Nat) (l : List Formula), deepL l < n → szFL l ≤ 1000000000000 → ∃ r : Int, rF n l = some r ∧ 0 ≤ r ∧ r ≤ (szFL l : Int) := by
 intro n
 induction n with
 | zero => intro l h; omega
 | succ n ih =>
  intro l h c
  rw [rF]
  unfold yy
  have key : ∀ (l : List Formula) (x : Int), deepL l < n + 1 → 0 ≤ x → x + (szFL l : Int) ≤ 1000000000000 → ∃ r : Int, uo (rF n) l x = some r ∧ 0 ≤ r ∧ r ≤ x + (szFL l : Int) := by
   intro l
   induction l with
   | nil => intro x _ g _; exact ⟨x, by rw [uo], g, by rw [szFL]; simp⟩
   | cons k l b =>
    intro x h g c
    rw [deepL] at h
    rw [szFL] at c
    have hk := L5 k
    have := rr k
    obtain ⟨r, e, h1, i⟩ := ih k.Kids (by omega) (by omega)
    rw [uo, e, aA]
    have o : 0 ≤ Int.tdiv ((k.lC.lI.size : Int) + (k.lC.lM.size : Int)) 16 ∧ Int.tdiv ((k.lC.lI.size : Int) + (k.lC.lM.size : Int)) 16 ≤ (k.lC.lI.size : Int) + (k.lC.lM.size : Int) := by
     rw [Int.tdiv_eq_ediv_of_nonneg (by omega)]
     omega
    rw [nf (x := (k.lC.lI.size : Int) + (k.lC.lM.size : Int)) (by omega) (by omega)]
    generalize Int.tdiv ((k.lC.lI.size : Int) + (k.lC.lM.size : Int)) 16 = d at *
    rw [nf (x := d) (by omega) (by omega), nf (x := 1 + d) (by omega) (by omega), nf (x := 1 + d + r) (by omega) (by omega), nf (x := x + (1 + d + r)) (by omega) (by omega)]
    obtain ⟨m, e', a, j⟩ := b (x + (1 + d + r)) (by omega) (by omega) (by omega)
    exact ⟨m, e', a, by rw [szFL]; omega⟩
  obtain ⟨r, e, h1, i⟩ := key l 0 h (by omega) (by omega)
  exact ⟨r, e, h1, by omega⟩
theorem Nf (f : Formula) (h : Ce f ≤ 50000000) : ∃ r : Int, rF mR [f] = some r ∧ 0 ≤ r ∧ r ≤ (Ce f : Int) := by
 have h1 := GJ f
 have c := CC f
 obtain ⟨r, e, a, b⟩ := VV mR [f] (by rw [deepL, deepL, oY]; omega) (by rw [szFL, szFL]; omega)
 refine ⟨r, e, a, ?_⟩
 rw [szFL, szFL] at b; omega
theorem g6 (s : Signed) (h : zV s.lB + s.Tag.length ≤ 1000000000) : Ac [] [s] = some (20 + (zV s.lB : Int) + (s.Tag.length : Int)) := by
 unfold Ac
 rw [xH, vW]
 have := g5 [s.lB] 0 (by omega) (by rw [xf, xf]; omega)
 rw [show sv [s.lB] = _ from this, aA, vW, xf, xf]
 rw [nf (x := 0 + ((20 + zV s.lB + 0 : Nat) : Int) + (s.Tag.length : Int)) (by omega) (by omega), nf (by omega) (by omega)]
 simp only [aA]
 congr 1; omega
def DS : List mG → Nat
 | [] => 0
 | x :: l => 20 + zV x.Signed.lB + x.Signed.Tag.length + 20 * Ce x.lL + DS l
def CK : List ny → Nat
 | [] => 0
 | a :: l => a.lC.lI.size + a.lC.lM.size + 20 * Ce a.lL + xf a.nn + CK l
def Lx (p : lF) : Nat := p.Name.size + DS p.lX + CK p.ml
theorem Qd : ∀ (l : List ny) (x : Int), 0 ≤ x → x + (CK l : Int) ≤ 1000000000 → ∃ r : Int, ur l x = some r ∧ x ≤ r ∧ r ≤ x + (CK l : Int)
 | [], x, _, _ => ⟨x, by rw [ur], by omega, by rw [CK]; omega⟩
 | a :: l, x, g, h => by
  rw [CK] at h
  obtain ⟨r, e, h1, i⟩ := Nf a.lL (by omega)
  have b := g5 a.nn 0 (by omega) (by omega)
  rw [ur, e, aA, show sv a.nn = _ from b, aA]
  rw [nf (x := (a.lC.lI.size : Int) + (a.lC.lM.size : Int)) (by omega) (by omega), nf (x := 20 * r) (by omega) (by omega), nf (x := (a.lC.lI.size : Int) + (a.lC.lM.size : Int) + 20 * r) (by omega) (by omega), nf (x := (a.lC.lI.size : Int) + (a.lC.lM.size : Int) + 20 * r + (0 + (xf a.nn : Int))) (by omega) (by omega), nf (by omega) (by omega)]
  obtain ⟨c, e', d, a2⟩ := Qd l (x + ((a.lC.lI.size : Int) + (a.lC.lM.size : Int) + 20 * r + (0 + (xf a.nn : Int)))) (by omega) (by omega)
  exact ⟨c, e', by omega, by rw [CK]; omega⟩
theorem VK (p : lF) (d : Lx p ≤ 1000000000) : ∃ r : Int, Ab p = some r ∧ 20 * (p.lX.length : Int) ≤ r ∧ r ≤ (Lx p : Int) := by
 unfold Lx at d
 have key : ∀ (l : List mG) (x : Int), 0 ≤ x → x + (DS l : Int) + (CK p.ml : Int) ≤ 1000000000 → ∃ r : Int, uk p l x = some r ∧ x + 20 * (l.length : Int) ≤ r ∧ r ≤ x + (DS l : Int) + (CK p.ml : Int) := by
  intro l
  induction l with
  | nil =>
   intro x c h
   rw [DS] at h
   obtain ⟨r, e, a, b⟩ := Qd p.ml x c (by omega)
   exact ⟨r, by rw [uk, e]; rfl, by simp; omega, by rw [DS]; omega⟩
  | cons y l ih =>
   intro x c h
   rw [DS] at h
   obtain ⟨r, e, h1, i⟩ := Nf y.lL (by omega)
   rw [uk, g6 y.Signed (by omega)]
   simp only [aA]
   rw [e, aA]
   rw [nf (x := 20 * r) (by omega) (by omega), nf (x := 20 + (zV y.Signed.lB : Int) + (y.Signed.Tag.length : Int) + 20 * r) (by omega) (by omega), nf (by omega) (by omega)]
   obtain ⟨g, e', a, b⟩ := ih (x + (20 + (zV y.Signed.lB : Int) + (y.Signed.Tag.length : Int) + 20 * r)) (by omega) (by omega)
   exact ⟨g, e', by rw [aP]; omega, by rw [DS]; omega⟩
 obtain ⟨r, e, a, b⟩ := key p.lX (p.Name.size : Int) (by omega) (by omega)
 unfold Ab
 exact ⟨r, e, by omega, by unfold Lx; omega⟩
end Go.Proofs.YtklbhegeiijbjaaGreat
namespace Go.Proofs.YtklbhegeiijbjaaGreat
open Go.RowKit
noncomputable def VC (p : Mc) : Bool := (Jc p.lI p.Client p.Formula).getD false
def Tk (l : List mG) (i : Int) : Prop := 0 ≤ i ∧ i < l.length
instance (l : List mG) (i : Int) : Decidable (Tk l i) := by unfold Tk; infer_instance
def TN (l : List mG) (i : Int) : List mG := if Tk l i then l.eraseIdx i.toNat else l
def RA (p : Mc) (e i : Int) : Mc :=
 if e = 0 then ⟨⟨p.lI.Name, TN p.lI.lX i, p.lI.ml⟩, p.Client, p.Formula, p.uM, p.RL, p.ND, p.Rz, p.Pc, p.Keys⟩
 else if e = 1 then ⟨p.lI, ⟨p.Client.Name, TN p.Client.lX i, p.Client.ml⟩, p.Formula, p.uM, p.RL, p.ND, p.Rz, p.Pc, p.Keys⟩
 else p
end Go.Proofs.YtklbhegeiijbjaaGreat
namespace Go.Proofs.YtklbhegeiijbjaaGreat
open Go.RowKit
noncomputable def shr (e : Int) : Nat → Mc → Mc
 | 0, p => p
 | k + 1, p => shr e k (if VC (RA p e k) then RA p e k else p)
end Go.Proofs.YtklbhegeiijbjaaGreat
namespace Go.Proofs.YtklbhegeiijbjaaGreat
open Go.RowKit
def QQ : Signed := ⟨⟨0, ⟨zS, zS⟩, zS, ⟨zS, zS⟩, ⟨zS, zS⟩, zS⟩, []⟩
theorem Hs (c : lB) : ∀ l : List mG, vM c l = some (match l.find? (fun x => mC x.Signed.lB c) with | some x => (x.Signed, true) | none => (QQ, false))
 | [] => by rw [vM]; rfl
 | x :: l => by
  rw [vM, gZ, Hs c l]
  cases mC x.Signed.lB c <;> rfl
theorem Ii (p : lF) (c : lB) : zH p c = some (match wX p c with | some x => (x.Signed, true) | none => (QQ, false)) := Hs c p.lX
theorem AB {p : lF} {c : lB} (h : vm p c) : ∃ x, wX p c = some x ∧ x ∈ p.lX ∧ x.Signed.lB = c := by
 obtain ⟨y, a, rfl⟩ := h
 unfold wX
 cases e : p.lX.find? (fun x => mC x.Signed.lB y.Signed.lB) with
 | none => exact absurd (nF.2 rfl) (by simpa using fW.1 e y a)
 | some x => exact ⟨x, rfl, fY e, nF.1 (by simpa using jG e)⟩
theorem OO {p : lF} {c : lB} (h : ¬ vm p c) : wX p c = none := by
 unfold wX
 rw [fW]
 intro x a e
 exact h ⟨x, a, nF.1 e⟩
theorem IN (s : mW) (hp : PB s.lF) (h : s.lQ.length ≤ 30000) (c : lB) : zd s c = some (FJ s.lF (vD s.lQ s.na) c) := by
 obtain ⟨F, b⟩ := Us s.lQ h
 obtain ⟨m, d, _, g⟩ := b.U9
 have i := Rr b s.na
 have j := F3 s.lF c
 unfold zd
 rw [GO _ hp, aA]
 unfold FJ
 by_cases a : (rc s.lF c).2 = 0
 ·simp only [a, bP, aT, cA, fF]
  unfold BR
  rw [d, aA, aA]
  rw [JY (vD s.lQ s.na) _ (fun r => by unfold uS; rw [pk, g, ← i]; rfl) _ (by unfold Gd; omega)]
  rfl
 ·have : ((rc s.lF c).2 == 0) = false := by simpa using a
  simp only [this, aB, aN, a, cL, kj]
  rfl
theorem Qw (s : mW) {fr : List lB} (e : tz s.lF s.lQ s.na = some fr) (a : fr.length ≤ 1000000000) : BH s = some (fr.filter fun c => !ov mC s.Shown c) := by
 unfold BH
 rw [e, aA, pk, Fh, xC _ (fun c => ov mC s.Shown c) zC fr (by omega) (fun c _ => by unfold yS rL; rw [pk, Fi]; rfl)]
theorem UC (l : List lB) (h : l.length ≤ 1000000000) : ((rG (decide (0 ≤ (if 8 < (l.length : Int) then 8 else (l.length : Int))) && decide ((if 8 < (l.length : Int) then 8 else (l.length : Int)) ≤ (l.length : Int)))).bind fun _ => some (l.take (Int.toNat (if 8 < (l.length : Int) then 8 else (l.length : Int))))) = some (l.take 8) := by
 by_cases c : 8 < (l.length : Int)
 ·rw [aV c, Ax (by omega) (by omega), aA]; rfl
 ·rw [aY c, Ax (by omega) (by omega), aA, show Int.toNat (l.length : Int) = l.length by omega, kR, cX (by omega)]
def KR (s : mW) (sh : List lB) : mW := ⟨s.lF, s.na, s.Room, s.lQ, sh, s.mg, s.mj⟩
def Fx (p : lF) (c : lB) : Signed := match wX p c with | some x => x.Signed | none => QQ
def Al (p : lF) (l : List lB) : List Signed := l.map (Fx p)
theorem DG {l : List lB} (h : qL l) (d : l.length ≤ 1000000000) : oW l = some l := by
 obtain ⟨s, e, a⟩ := E4 l d
 rw [e]
 have : s = l := qL.ext ⟨a.1, fun c b => ((a.2 c).1 b).2⟩ h (fun c => by rw [a.2]; exact ⟨fun x => x.1, fun x => ⟨x, h.2 c x⟩⟩)
 rw [this]
theorem qL.take {s : List lB} (h : qL s) (n : Nat) : qL (s.take n) := ⟨h.1.sublist (List.take_sublist n s), fun c a => h.2 c (iD a)⟩
theorem IR (s : mW) (hp : PB s.lF) (ha : s.lQ.length ≤ 30000) : ∀ l : List lB, (∀ c ∈ l, FJ s.lF (vD s.lQ s.na) c = true) → tR s l = some (Sum.inr ())
 | [], _ => by rw [tR]
 | c :: l, h => by
  rw [tR, IN s hp ha, aA, h c (by simp)]
  simp only [bX, aB, aN]
  exact IR s hp ha l (fun x a => h x (by simp [a]))
theorem IT (s : mW) (hp : PB s.lF) (ha : s.lQ.length ≤ 30000) (m : List lB) (hm : ∀ c ∈ m, FJ s.lF (vD s.lQ s.na) c = true) : ∀ l : List lB, (∀ c ∈ l, vm s.lF c) → tT s m l = some 0
 | [], _ => by rw [tT, IR s hp ha m hm]; rfl
 | c :: l, h => by
  obtain ⟨x, e, _⟩ := AB (h c (by simp))
  rw [tT, Ii, aA, e]
  simp only [bX, aB, aN]
  exact IT s hp ha m hm l (fun x a => h x (by simp [a]))
theorem Jf (s : mW) (m t : List lB) (e : tE [s.Shown, m] = some (s.Shown ++ m)) (a : oW (s.Shown ++ m) = some t) (d : ∀ x ∈ s.lF.lX, x.Signed.Tag.length ≤ 1000) : ∀ (l : List lB) (acc : List Signed), (∀ c ∈ l, vm s.lF c) → acc.length + l.length ≤ 100000 →
  rY s m l acc = some (acc ++ Al s.lF l, 0, KR s t)
 | [], acc, _, _ => by
  rw [rY, e, aA, a]
  simp [Al, KR]
 | c :: l, acc, h, g => by
  rw [aP] at g
  obtain ⟨x, b, i, k⟩ := AB (h c (by simp))
  have h1 := d x i
  rw [rY, Ii, aA, b, aA]
  simp only
  unfold wi
  rw [om (by simp; omega) (by simp; omega)]
  simp only [aA, bN]
  rw [om (by simp; omega) (by simp; omega), aA]
  have := Jf s m t e a d l (acc ++ [x.Signed]) (fun y j => h y (by simp [j])) (by simp; omega)
  rw [show ([⟨x.Signed.lB, x.Signed.Tag⟩] : List Signed) = [x.Signed] from rfl, this]
  unfold Al
  rw [bM, show Fx s.lF c = x.Signed by unfold Fx; rw [b]]
  simp
theorem Ow (s : mW) (hp : PB s.lF) (ha : s.lQ.length ≤ 30000) (d : ∀ x ∈ s.lF.lX, x.Signed.Tag.length ≤ 1000) (l : List lB) (j : l.length ≤ 8) (g : qL l) (a : ∀ c ∈ l, vm s.lF c) (hm : ∀ c ∈ l, FJ s.lF (vD s.lQ s.na) c = true) (h : s.Shown.length ≤ 100000) :
  ∃ t, uQ (s.Shown ++ l) t ∧ xI s l = some (Al s.lF l, 0, KR s t) := by
 obtain ⟨t, b, i⟩ := E4 (s.Shown ++ l) (by simp; omega)
 refine ⟨t, i, ?_⟩
 have e := Pe s.Shown l (by omega)
 unfold xI Bj
 have : ¬ ((l.length : Int) > 8) := by omega
 simp only [this, cL, aB, aN]
 rw [IT s hp ha l hm l a, aA]
 simp only [jl, aB, aN]
 rw [DG g (by omega), aA, Jf s l t e b d l [] a (by simp; omega)]
 rfl
end Go.Proofs.YtklbhegeiijbjaaGreat
namespace Go.Proofs.YtklbhegeiijbjaaGreat
open Go.RowKit
theorem TD (x : Signed) : vP x x = some true := by
 unfold vP B7
 rw [aV (nF.2 rfl), show nq (BU x.Tag) (BU x.Tag) = true from nY.2 rfl]
 rfl
theorem Nn (f : Signed × Signed → Option Bool) (a : ∀ x, f (x, x) = some true) : ∀ (l A : List Signed), nk (A ++ l) f l A.length = some true
 | [], A => by rw [nk]
 | x :: l, A => by
  rw [nk, oS A x l _ rfl, aA, a x, aA]
  simp only [bX, aB, aN]
  have := Nn f a l (A ++ [x])
  rw [aC, aR] at this
  exact this
theorem Vf (l : List Signed) (f : Signed × Signed → Option Bool) (a : ∀ x, f (x, x) = some true) : ob l l f = some true := by
 unfold ob
 rw [aY (by simp)]
 exact Nn f a l []
theorem SH (m : zA) : Cv m m = some true := by
 unfold Cv
 have h1 : nq m.Name m.Name = true := nY.2 rfl
 simp only [bP, aT, aA, h1]
 rw [Fj, Vf _ _ (fun x => TD x)]
 simp
theorem CS : pj [] = some [] := by
 obtain ⟨s, e, h⟩ := Fo [] (by simp)
 rw [e]
 cases s with
 | nil => rfl
 | cons x l => exact absurd ((h.2 x).1 (by simp)).1 (by simp)
theorem LY (all : List Signed) (i : all.length ≤ 8) (j : ∀ x ∈ all, ns x.lB = true ∧ x.Tag.length = 8) (hp : all.Pairwise fun a b => AS a.lB b.lB = true) : ∀ (l A : List Signed), all = A ++ l → vE all l A.length = some true
 | [], A, _ => by
  rw [vE]
  have : ((all.length : Int) ≤ 8) := by omega
  simp [this]
 | x :: l, A, e => by
  have k := j x (by rw [e]; simp)
  have prev : (if (decide ((A.length : Int) > 0)) then ((nD all (IntKind.i64.wrap ((A.length : Int) - 1))).bind fun g => ((sN g.lB x.lB).bind fun d => some (decide (d ≥ 0)))) else some false) = some false := by
   rcases dM A with rfl | ⟨B, y, rfl⟩
   ·rfl
   ·simp only [eJ] at *
    have n : B.length ≤ 8 := by rw [e] at i; simp at i; omega
    have h1 : ((B ++ [y]).length : Int) > 0 := by simp
    simp only [h1, cA, aT]
    rw [nf (by simp) (by simp; omega), show ((B ++ [y]).length : Int) - 1 = (B.length : Int) by simp, e, aR]
    rw [show B ++ ([y] ++ x :: l) = B ++ y :: (x :: l) from rfl, oS B y (x :: l) _ rfl, aA]
    obtain ⟨c, m, h⟩ := Cd y.lB x.lB
    rw [m, aA]
    have : AS y.lB x.lB = true := by
     rw [e] at hp
     exact (cY.1 hp).2.2 y (by simp) x (by simp)
    have := h.2 this
    have : ¬ (c ≥ 0) := by omega
    simp [this]
  rw [vE, wH, k.1, aA, k.2]
  simp only [bX, aB, aN, aA]
  rw [aY (by decide), prev]
  simp only [aA, aB, aN]
  have := LY all i j hp l (A ++ [x]) (by rw [e]; simp)
  rw [aC] at this
  exact this
structure F7 (s : mW) : Prop where
 Hd : BI s.lF
 peer : oV s.na = true
 RH : 0 ≤ s.Room
 room : s.Room ≤ 256
 acc : qL s.lQ
 sh : qL s.Shown
 zz : pA s.mg s.mg
 ask : pA s.mj s.mj
 held : ∀ c ∈ s.Shown, vm s.lF c
theorem PH (l : List lB) (j : l.length ≤ 1000000000) : ∃ b, ((oW l).bind fun r => qX r l) = some b ∧ (b = true ↔ qL l) := by
 obtain ⟨s, e, h⟩ := E4 l j
 obtain ⟨b, g, i⟩ := PT s l
 refine ⟨b, by rw [e, aA, g], i.trans ⟨fun a => ?_, fun a => ?_⟩⟩
 ·subst a; exact ⟨h.1, fun c d => ((h.2 c).1 d).2⟩
 ·exact qL.ext ⟨h.1, fun c d => ((h.2 c).1 d).2⟩ a (fun c => by rw [h.2]; exact ⟨fun x => x.1, fun x => ⟨x, a.2 c x⟩⟩)
theorem OU (l : List lC) (a : l.length ≤ 1000000000) : ∃ b, ((pj l).bind fun r => pU r l) = some b ∧ (b = true ↔ pA l l) := by
 obtain ⟨s, e, h⟩ := Fo l a
 refine ⟨decide (s = l), by rw [e, aA, Fj], ?_⟩
 rw [cH]
 constructor
 ·rintro rfl; exact h
 ·intro c; exact sU.unique (AM _) h c
theorem bb {α β γ : Type} (x : Option α) (f : α → Option β) (g : β → Option γ) : (x.bind fun a => (f a).bind g) = (x.bind f).bind g := by cases x <;> rfl
theorem UJ (s : mW) (h1 : s.lQ.length ≤ 1000000000) (l : s.Shown.length ≤ 1000000000) (m : s.mg.length ≤ 1000000000) (n : s.mj.length ≤ 1000000000) :
  ∃ b, BB s = some b ∧ (b = true ↔ qL s.lQ ∧ qL s.Shown ∧ pA s.mg s.mg ∧ pA s.mj s.mj) := by
 obtain ⟨a, h, o⟩ := PH s.lQ h1
 obtain ⟨c, i, k2⟩ := PH s.Shown l
 obtain ⟨d, j, q⟩ := OU s.mg m
 obtain ⟨g, k, r⟩ := OU s.mj n
 refine ⟨a && (c && (d && g)), ?_, by simp only [bD, o, k2, q, r]⟩
 unfold BB
 rw [bb, h, aA]
 simp only [bb, pk, i, j, k]
 cases a <;> cases c <;> cases d <;> cases g <;> rfl
theorem N4 (f : lB → Option Bool) (p : lB → Bool) (l : List lB) (h : ∀ x ∈ l, f x = some (p x)) : sx l f = some (l.any p) := by
 unfold sx rM
 rw [JZ]; exact Ih f p l h
theorem J9 (s : mW) (hp : PB s.lF) (h1 : s.lQ.length ≤ 1000000000) (l : s.Shown.length ≤ 1000000000) (m : s.mg.length ≤ 1000000000) (n : s.mj.length ≤ 1000000000) :
  ∃ b, yK s = some b ∧ (b = true ↔ F7 s) := by
 obtain ⟨e, i, g⟩ := Ks s.lF hp
 obtain ⟨b, j, k2⟩ := UJ s h1 l m n
 have k := N4 (fun x => wM x s.lF.Name s.lF.lX s.lF.ml s.na s.Room s.lQ s.Shown s.mg s.mj) (fun c => (wX s.lF c).isNone) s.Shown (fun c _ => by
  unfold wM
  rw [show (⟨s.lF.Name, s.lF.lX, s.lF.ml⟩ : lF) = s.lF from rfl, Ii, aA]
  cases wX s.lF c <;> rfl)
 have q : (s.Shown.any fun c => (wX s.lF c).isNone) = false ↔ ∀ c ∈ s.Shown, vm s.lF c := by
  rw [jk]
  refine forall_congr' fun c => forall_congr' fun w => ?_
  by_cases h : vm s.lF c
  ·obtain ⟨x, ex, _⟩ := AB h
   simp [ex, h]
  ·simp [OO h, h]
 unfold yK
 rw [i, aA]
 by_cases a : e = 0
 ·subst a
  have o := g.1 rfl
  simp only [jl, aB, aN]
  rw [vc, aA]
  cases c1 : oV s.na
  ·exact ⟨false, rfl, by simp; intro h; have := h.peer; rw [c1] at this; cases this⟩
  ·simp only [bX, aB, aN, aA]
   by_cases c2 : s.Room < 0
   ·simp only [c2, cA, aT, aA]
    exact ⟨false, rfl, by simp; intro h; have := h.RH; omega⟩
   ·simp only [c2, cL, aB, aN, aA]
    by_cases d : s.Room > 256
    ·simp only [d, cA, aT, aA]
     exact ⟨false, rfl, by simp; intro h; have := h.room; omega⟩
    ·simp only [d, cL, aB, aN, aA]
     rw [j, aA, aA]
     cases b with
     | false => exact ⟨false, rfl, by simp; intro h; have := k2.2 ⟨h.acc, h.sh, h.zz, h.ask⟩; cases this⟩
     | true =>
      obtain ⟨r, t, u, v⟩ := k2.1 rfl
      simp only [bX, aB, aN]
      rw [k, aA]
      refine ⟨_, rfl, ?_⟩
      rw [gJ, q]
      exact ⟨fun h => ⟨o, c1, by omega, by omega, r, t, u, v, h⟩, fun h => h.held⟩
 ·have : (e != 0) = true := by simpa using a
  simp only [this, aT, aA]
  exact ⟨false, rfl, by simp; intro h; exact a (g.2 h.Hd)⟩
end Go.Proofs.YtklbhegeiijbjaaGreat
namespace Go.Proofs.YtklbhegeiijbjaaGreat
open Go.RowKit
def BF (mp : List (lB × Bool)) (s : List lB) : Prop := ∀ c, ua mC mp c false = ov mC s c
theorem BF.put {mp : List (lB × Bool)} {s : List lB} (h : BF mp s) (k : lB) : BF (oz mC mp k true) (s ++ [k]) := fun c => by
 have h1 := h c
 unfold ua at *
 rw [BP nF]
 have a := oT nF (s ++ [k]) c
 have b := oT nF s c
 cases e : mC c k
 ·simp only [aB, aN]
  rw [h1, cJ, a, b]
  have : c ≠ k := fun d => by rw [d, nF.2 rfl] at e; cases e
  simp [this]
 ·simp only [aT, gS]
  rw [eq_comm, a]
  simp [nF.1 e]
theorem BF.congr {mp : List (lB × Bool)} {s t : List lB} (h : BF mp s) (e : ∀ c, c ∈ s ↔ c ∈ t) : BF mp t := fun c => by
 rw [h c, cJ, oT nF, oT nF, e]
theorem J6 {p : lF} {l : List lB} (h : ∀ c ∈ l, vm p c) : (Al p l).map (·.lB) = l := by
 unfold Al
 rw [fD]
 have : ∀ c ∈ l, ((fun x : Signed => x.lB) ∘ Fx p) c = c := fun c b => by
  obtain ⟨x, e, _, a⟩ := AB (h c b)
  show (Fx p c).lB = c
  unfold Fx
  rw [e]; exact a
 rw [jJ this, List.map_id']
theorem OB {p : lF} (j : BI p) {l : List lB} (g : qL l) (h : ∀ c ∈ l, vm p c) : (∀ x ∈ Al p l, ns x.lB = true ∧ x.Tag.length = 8) ∧ (Al p l).Pairwise fun a b => AS a.lB b.lB = true := by
 constructor
 ·intro x k
  obtain ⟨c, d, rfl⟩ := bG.1 k
  obtain ⟨y, e, m, i⟩ := AB (h c d)
  unfold Fx
  rw [e]
  exact ⟨by rw [show y.Signed.lB = c from i]; exact g.2 c d, (j.xG.1 y m).1⟩
 ·have := g.1
  rw [← J6 h] at this
  exact gF.1 this
end Go.Proofs.YtklbhegeiijbjaaGreat
namespace Go.Proofs.YtklbhegeiijbjaaGreat
open Go.RowKit
def Ul : ByteArray := ⟨#[109, 101]⟩
def Bk : ByteArray := ⟨#[121, 111, 117]⟩
def eC : lB := ⟨1, sY, Ul, ⟨zS, zS⟩, ⟨zS, zS⟩, zS⟩
theorem LD : ns eC = true := by decide +kernel
theorem Sh {l : List lB} (h : qL l) : uQ l l := ⟨h.1, fun c => ⟨fun a => ⟨a, h.2 c a⟩, fun a => a.1⟩⟩
def xb : List lC → Nat
 | [] => 0
 | r :: l => 5 + r.lI.size + r.lM.size + xb l
theorem Pg : ∀ (l : List lC) (x : Int), 0 ≤ x → x + (xb l : Int) ≤ 4000000000000000000 → uv l x = some (x + (xb l : Int))
 | [], x, _, _ => by rw [uv, xb]; simp
 | r :: l, x, a, h => by
  rw [xb] at h
  rw [uv, nf (x := 5 + (r.lI.size : Int)) (by omega) (by omega), nf (x := 5 + (r.lI.size : Int) + (r.lM.size : Int)) (by omega) (by omega), nf (by omega) (by omega), Pg l _ (by omega) (by omega), xb]
  congr 1; omega
theorem OV (a b : List lC) : xb (a ++ b) = xb a + xb b := by
 induction a with
 | nil => simp [xb]
 | cons r a ih => rw [cC, xb, xb, ih]; omega
theorem Fk : ∀ l : List lB, 20 * l.length ≤ xf l
 | [] => by simp
 | c :: l => by have := Fk l; rw [xf, aP]; omega
structure SQ (s : mW) : Prop where
 p : PG s.lF
 go : Lx s.lF ≤ 1000000000
 acc : xf s.lQ ≤ 1000000000
 sh : xf s.Shown ≤ 1000000000
 wl : s.mg.length ≤ 10000000
 al : s.mj.length ≤ 10000000
 zz : xb s.mg ≤ 1000000000
 ask : xb s.mj ≤ 1000000000
 peer : s.na.size ≤ 1000000000
theorem VI (s : mW) (h : SQ s) : ∃ r : Int, zU s = some r ∧ 20 * (s.lF.lX.length : Int) ≤ r ∧ 20 * (s.lQ.length : Int) ≤ r := by
 have h1 := h.go
 have j := h.acc
 have k := h.sh
 have l := h.wl
 have m := h.al
 have n := h.zz
 have o := h.ask
 have q := h.peer
 obtain ⟨a, b, g, i⟩ := VK s.lF h1
 have c := g5 s.lQ 0 (by omega) (by omega)
 have d := g5 s.Shown 0 (by omega) (by omega)
 have c1 := Fk s.lQ
 have c2 := Fk s.Shown
 unfold zU
 rw [b, aA, show sv s.lQ = _ from c, aA, show sv s.Shown = _ from d, aA]
 rw [om (by simp; omega) (by simp; omega), aA, bN, om (by omega) (by omega), aA]
 rw [nf (x := a + (s.na.size : Int)) (by omega) (by omega), nf (x := a + (s.na.size : Int) + (0 + (xf s.lQ : Int))) (by omega) (by omega), nf (by omega) (by omega)]
 rw [Pg _ _ (by omega) (by rw [OV]; omega)]
 exact ⟨_, rfl, by omega, by omega⟩
end Go.Proofs.YtklbhegeiijbjaaGreat
namespace Go.Proofs.YtklbhegeiijbjaaGreat
open Go.RowKit
theorem Uu (f : ny → Option Bool) (p : ny → Bool) (l : List ny) (b : l.length ≤ 1000000000) (h : ∀ a ∈ l, f a = some (p a)) : oP l f = some (l.filter fun a => !p a) := by
 have : oP l f = D0 f PY l := by
  unfold oP D0 qV
  simp only [EX, HR]
 rw [this, xC _ p PY _ (by omega) h]
theorem PV {l : List ny} (a : l.length ≤ 1000000) : qu l = some l := by
 unfold qu
 rw [om (by simp; omega) (by simp; omega)]; rfl
def Ck (l : List ny) (c : lB) : List ny := l.filter fun a => ov mC a.nn c
theorem EL (l : List ny) (c : lB) (b : l.length ≤ 1000000) : uX l c = some (Ck l c) := by
 unfold uX Ck
 rw [PV b, aA, pk, Uu _ (fun a => !ov mC a.nn c) l (by omega) (fun a _ => by unfold wN rL; rw [pk, Fi]; rfl)]
 simp only [fO]
noncomputable def sV (s : mW) : lC → Bool := vD s.lQ s.na
noncomputable def uh (s : mW) : List ny := s.lF.ml.filter fun a => !Bv (sV s) a.lL
theorem JL (s : mW) (hp : PB s.lF) (hk : s.lF.ml.length ≤ 1000000) (g : s.lQ.length ≤ 30000) : wK s = some (uh s) := by
 obtain ⟨F, b⟩ := Us s.lQ g
 obtain ⟨m, c, _, d⟩ := b.U9
 have h := Rr b s.na
 unfold wK BR
 rw [c, aA, aA, PV hk, aA, pk]
 rw [Uu _ (fun a => Bv (sV s) a.lL) _ (by omega) (fun a ha => by
  unfold wL
  rw [pk, JY (sV s) _ (fun r => by unfold uS; rw [pk, d]; unfold sV; rw [← h]; rfl) _ (by have := hp.LQ a ha; unfold Gd; omega)])]
 rfl
theorem E0 (s : mW) : ∀ a ∈ uh s, a ∈ s.lF.ml := fun a h => (bT.1 h).1
def zZ : List ny → List lB
 | [] => []
 | a :: l => a.nn ++ zZ l
theorem Gz {n : Nat} : ∀ {l : List ny}, (∀ a ∈ l, a.nn.length ≤ n) → (zZ l).length ≤ l.length * n
 | [], _ => by rw [zZ]; simp
 | a :: l, h => by
  have h1 := h a (by simp)
  have d := Gz (l := l) (fun b c => h b (by simp [c]))
  rw [zZ, aC, aP, Nat.succ_mul]; omega
def Dy (k : List ny) (l : List mG) : List lB := (l.filter fun x => (Ck k x.Signed.lB).isEmpty).map (·.Signed.lB)
theorem L8 : ∀ (l : List ny) (acc : List lB), acc.length + (zZ l).length ≤ 100000000 → ul l acc = some (acc ++ zZ l)
 | [], acc, _ => by rw [ul, zZ, bO]
 | a :: l, acc, h => by
  rw [zZ, aC] at h
  rw [ul, om (by omega) (by omega), aA, L8 l _ (by rw [aC]; omega), zZ, aR]
theorem HQ (k : List ny) (hk : k.length ≤ 1000000) : ∀ (l : List mG) (acc : List lB), acc.length + l.length + (zZ k).length ≤ 100000000 → sF k l acc = oW (acc ++ Dy k l ++ zZ k)
 | [], acc, h => by
  rw [sF, L8 _ _ (by simp at h; omega), aA, pk]
  rw [show Dy k [] = [] from rfl, bO]
 | x :: l, acc, h => by
  rw [aP] at h
  rw [sF, EL k _ hk, aA]
  have e : Dy k (x :: l) = (if (Ck k x.Signed.lB).isEmpty then [x.Signed.lB] else []) ++ Dy k l := by
   unfold Dy
   rw [iI]
   split <;> rfl
  rw [e]
  cases c : Ck k x.Signed.lB with
  | nil =>
   simp only [bV, List.isEmpty_nil, aT]
   rw [aV (by rfl), om (by simp; omega) (by simp; omega), aA, HQ k hk l _ (by simp; omega)]
   simp
  | cons a b =>
   have : (((a :: b).length : Int) == 0) = false := by rw [beq_eq_false_iff_ne, aP]; omega
   simp only [this, aB, aN, List.isEmpty_cons]
   rw [HQ k hk l _ (by omega)]
   simp
structure Sm (p : lF) : Prop where
 xG : p.lX.length ≤ 256
 AI : p.ml.length ≤ 8
 M2 : ∀ a ∈ p.ml, a.nn.length ≤ 32
 rel : ∀ a ∈ p.ml, mT a.lL ≤ 64
theorem BI.sm {p : lF} (h : BI p) : Sm p := by
 have h1 := h.Q9
 unfold I2 at h1
 simp only [Bool.or_eq_false_iff, decide_eq_false_iff_not, jk, cH] at h1
 exact ⟨by omega, by omega, fun a ha => by have := h1.2 a ha; omega, fun a ha => (Ft (h.AI.1 a ha).2.1).1⟩
noncomputable def IW (s : mW) : List lB := Dy (uh s) s.lF.lX ++ zZ (uh s)
theorem O8 (s : mW) (h : Sm s.lF) : (IW s).length ≤ 512 := by
 have h1 : (uh s).length ≤ s.lF.ml.length := cQ _ _
 have b := Gz (l := uh s) (fun a ha => h.M2 a (E0 s a ha))
 have c : (Dy (uh s) s.lF.lX).length ≤ s.lF.lX.length := by unfold Dy; rw [cV]; exact cQ _ _
 have d := h.xG
 have g := h.AI
 unfold IW
 rw [aC]; omega
theorem Od (s : mW) (hp : PB s.lF) (b : Sm s.lF) (c : s.lQ.length ≤ 30000) : vi s = oW (IW s) := by
 have h1 : (uh s).length ≤ s.lF.ml.length := cQ _ _
 have d := Gz (l := uh s) (fun a ha => b.M2 a (E0 s a ha))
 have g := b.xG
 have h := b.AI
 unfold vi
 rw [JL s hp (by omega) c, aA, HQ _ (by omega) _ _ (by simp; omega), bN]
 rfl
theorem IQ (s : mW) (hp : PB s.lF) (i : Sm s.lF) (l : s.lQ.length ≤ 30000) (hw : s.mg.length ≤ 1000000000) :
  ∃ o all ws b, vi s = some o ∧ uQ (IW s) o ∧ uQ o all ∧ pA s.mg ws ∧ pJ s = some b ∧ qL b ∧ b.length ≤ 512 ∧ ∀ c, c ∈ b ↔ wU all ws (.inr (.inr c)) := by
 have hlen := O8 s i
 obtain ⟨o, k, m⟩ := E4 (IW s) (by omega)
 have x := ru yO m
 obtain ⟨all, ws, T, W, R, ha, j, g, t, n⟩ := Ti o s.mg (by omega) hw
 have u := ru yO ha
 obtain ⟨b, y, d⟩ := E4 R (by have := g.lR; omega)
 have v := ru yO d
 have r := g.lR
 have a : ∀ c ∈ R, c ∈ all := g.sub
 have q := MA ha (by omega) (tt T) (tt W) R a d
 refine ⟨o, all, ws, b, (Od s hp i l).trans k, m, ha, j, ?_, ⟨d.1, fun c w => ((d.2 c).1 w).2⟩, by omega, fun c => ?_⟩
 ·unfold pJ
  rw [Od s hp i l, k, aA, n, aA]
  simp only
  rw [q]; rfl
 ·rw [d.2, ← g.UW t]
  exact ⟨fun h => h.1, fun h => ⟨h, ((ha.2 c).1 (a c h)).2⟩⟩
mutual
def HG : Formula → List lC
 | ⟨o, k, r, ks⟩ => if o = 1 then [r] else FL ks
def FL : List Formula → List lC
 | [] => []
 | k :: ks => HG k ++ FL ks
end
theorem Pp (f : Formula) : HG f = if f.Op = 1 then [f.lC] else FL f.Kids := by cases f; rw [HG]
theorem M7 : ∀ f : Formula, (HG f).length ≤ mT f := by
 refine NW fun f ih => ?_
 have key : ∀ a : List Formula, (∀ k ∈ a, (HG k).length ≤ mT k) → (FL a).length ≤ nodesL a := by
  intro a
  induction a with
  | nil => intro _; rw [FL]; simp
  | cons k a b =>
   intro h
   have h1 := h k (by simp)
   have d := b (fun x c => h x (by simp [c]))
   rw [FL, aC, nodesL]; omega
 have := key _ ih
 rw [Pp, rV]
 split
 ·simp
 ·omega
theorem Pv (rec : Formula → Option (List lC)) : ∀ (a : List Formula) (acc : List lC), (∀ k ∈ a, rec k = some (HG k)) → acc.length + (FL a).length ≤ 100000000 → sJ rec a acc = some (acc ++ FL a)
 | [], acc, _, _ => by rw [sJ, FL, bO]
 | k :: a, acc, h, b => by
  rw [FL, aC] at b
  rw [sJ, h k (by simp), aA, om (by omega) (by omega), aA, Pv rec a _ (fun x c => h x (by simp [c])) (by rw [aC]; omega), FL, aR]
theorem Td : ∀ (n : Nat) (f : Formula), uH f ≤ n → mT f ≤ 10000000 → tp n f = some (HG f) := by
 intro n
 induction n with
 | zero => intro f h; rw [rr] at h; omega
 | succ n ih =>
  intro f b d
  rw [rr] at b
  have c := rV f
  have hlen := M7 f
  rw [tp]
  unfold xx
  rw [Pp] at *
  by_cases c1 : f.Op = 1
  ·simp only [c1, bP, aT]
  ·have a : (f.Op == 1) = false := by simpa using c1
   simp only [a, aB, aN, c1] at *
   rw [Pv _ f.Kids [] (fun k hk => ih k (by have := yv hk; omega) (by have := Aq hk; omega)) (by simp; omega), bN]
theorem HT (f : Formula) (h : mT f ≤ 10000000) : ∃ r, uY f = some r ∧ pA (HG f) r ∧ r.length ≤ mT f := by
 have h1 := M7 f
 obtain ⟨r, e, a⟩ := Fo (HG f) (by omega)
 have := ru (AM _) a
 refine ⟨r, ?_, a, by omega⟩
 unfold uY
 have := CC f
 rw [Td mR f (by rw [oY]; omega) h, aA, e]; rfl
end Go.Proofs.YtklbhegeiijbjaaGreat
namespace Go.Proofs.YtklbhegeiijbjaaGreat
open Go.RowKit
theorem Kl (s : mW) (hp : PB s.lF) (ha : s.lQ.length ≤ 30000) (k : List ny) (hk : k.length ≤ 1000000) (c : lB) : ∀ (l : List ny) (acc : List lC), (∀ a ∈ l, mT a.lL ≤ 64) → acc.length + l.length * 64 ≤ 10000 →
  ∃ r, rS k c s l acc = some r ∧ r.length ≤ 10064
 | [], acc, _, h => by
  have i := F3 s.lF c
  obtain ⟨r, e, _, b⟩ := HT (rc s.lF c).1 (by omega)
  rw [rS, EL k c hk, aA, IN s hp ha, GO _ hp]
  simp only [aA, e]
  by_cases c1 : ((Ck k c).length : Int) > 0
  ·simp only [c1, cA, aT, aA]
   exact ⟨acc, rfl, by simp at h; omega⟩
  ·simp only [c1, cL, aB, aN, aA]
   cases FJ s.lF (vD s.lQ s.na) c
   ·simp only [aB, aN]
    by_cases c2 : ((rc s.lF c).2 != 0) = true
    ·rw [aV c2]; exact ⟨[], rfl, by simp⟩
    ·rw [aY c2]; exact ⟨r, rfl, by omega⟩
   ·simp only [aT]
    exact ⟨acc, rfl, by simp at h; omega⟩
 | a :: l, acc, b, h => by
  rw [aP] at h
  have h1 := b a (by simp)
  obtain ⟨r, e, _, g⟩ := HT a.lL (by omega)
  rw [rS, e, aA, om (by omega) (by omega), aA]
  exact Kl s hp ha k hk c l _ (fun x d => b x (by simp [d])) (by rw [aC]; omega)
theorem SD (s : mW) (hp : PB s.lF) (b : Sm s.lF) (ha : s.lQ.length ≤ 30000) (c : lB) : ∃ r, vI s (uh s) c = some r ∧ r.length ≤ 10064 := by
 have h1 : (uh s).length ≤ s.lF.ml.length := cQ _ _
 have d : (Ck (uh s) c).length ≤ (uh s).length := cQ _ _
 have g := b.AI
 unfold vI
 rw [EL _ c (by omega), aA]
 exact Kl s hp ha _ (by omega) c _ [] (fun a h => b.rel a (E0 s a (bT.1 h).1)) (by simp; omega)
theorem Nk (s : mW) (hp : PB s.lF) (b : Sm s.lF) (ha : s.lQ.length ≤ 30000) : ∀ (l : List lB) (acc : List lC), acc.length + l.length * 10064 ≤ 10000000 → ∃ q r, pz s (uh s) l acc = some r ∧ pA q r ∧ r.length ≤ 10000000
 | [], acc, h => by
  obtain ⟨r, e, a⟩ := Fo acc (by omega)
  have := ru (AM _) a
  exact ⟨acc, r, by rw [pz, e]; rfl, a, by omega⟩
 | c :: l, acc, h => by
  rw [aP] at h
  obtain ⟨r, e, a⟩ := SD s hp b ha c
  rw [pz, e, aA, om (by omega) (by omega), aA]
  exact Nk s hp b ha l _ (by rw [aC]; omega)
theorem Ue (s : mW) (hp : PB s.lF) (a : Sm s.lF) (ha : s.lQ.length ≤ 30000) (hw : s.mg.length ≤ 1000000000) : ∃ q r, rH s = some r ∧ pA q r ∧ r.length ≤ 10000000 := by
 obtain ⟨o, all, ws, b, _, _, _, _, e, _, c, _⟩ := IQ s hp a ha hw
 unfold rH
 rw [JL s hp (by have := a.AI; omega) ha, aA, e, aA]
 exact Nk s hp a ha b [] (by simp; omega)
theorem P9 (n : Nat) (b : n ≤ 1000000000) : uG (n : Int) = some [] := by
 unfold uG
 rw [aY (by simp)]
 have a : IntKind.i64.wrap (0 - 0) = 0 := by decide
 rw [a, Int.sub_zero, nf (by omega) (by omega)]
 by_cases h : (n : Int) > 0
 ·rw [aV (by simpa using h)]
  unfold FE
  rw [aV ⟨by omega, by omega, by unfold maxLen; omega⟩]
  simp [rG]
 ·rw [aY (by simpa using h)]; rfl
theorem Hk (a b : List lC) (h : a.length + b.length ≤ 1000000000) : rK [a, b] = some (a ++ b) := by
 unfold rK
 rw [qE, nf (by omega) (by omega), aY (by simp), qE, nf (by omega) (by omega), aY (by simp; omega), qE]
 rw [show (0 : Int) + (a.length : Int) + (b.length : Int) = ((a.length + b.length : Nat) : Int) by omega, P9 _ h]
 simp only [aA]
 rw [qx, om (by simp; omega) (by simp; omega)]
 simp only [aA, bN]
 rw [qx, om (by omega) (by omega)]
 simp only [aA]
 rw [qx]
 rfl
theorem MW (x : lC) : ∀ (l : List lC) (i : Nat), ∃ q : Int, se x l i = some q ∧ (q ≥ 0 ↔ x ∈ l)
 | [], i => ⟨-1, rfl, by simp⟩
 | y :: l, i => by
  rw [se]
  by_cases h : lZ x y = true
  ·rw [aV h]; exact ⟨i, rfl, by rw [mi.1 h]; simp⟩
  ·rw [aY h]
   obtain ⟨q, e, a⟩ := MW x l (i + 1)
   refine ⟨q, e, a.trans ?_⟩
   have : x ≠ y := fun e => h (mi.2 e)
   simp [this]
theorem NA (l : List lC) (x : lC) : Ct l x = some (ov lZ l x) := by
 obtain ⟨q, e, a⟩ := MW x l 0
 unfold Ct wP ye
 rw [e, aA, aA]
 congr 1
 rw [cJ, cH, a, oT mi]
theorem PP (l : List lC) (h : l.length ≤ 1000000000) : ((rG (decide (0 ≤ (if 16 < (l.length : Int) then 16 else (l.length : Int))) && decide ((if 16 < (l.length : Int) then 16 else (l.length : Int)) ≤ (l.length : Int)))).bind fun _ => some (l.take (Int.toNat (if 16 < (l.length : Int) then 16 else (l.length : Int))))) = some (l.take 16) := by
 by_cases c : 16 < (l.length : Int)
 ·rw [aV c, Ax (by omega) (by omega), aA]; rfl
 ·rw [aY c, Ax (by omega) (by omega), aA, show Int.toNat (l.length : Int) = l.length by omega, kR, cX (by omega)]
theorem Gn {l : List lC} (h : pA l l) (a : l.length ≤ 1000000000) : pj l = some l := by
 obtain ⟨s, e, b⟩ := Fo l a
 rw [e, sU.unique (AM _) b h]
theorem pA.self {q l : List lC} (h : pA q l) : pA l l := ⟨h.1, fun x => ⟨fun a => ⟨a, ((h.2 x).1 a).2⟩, fun a => a.1⟩⟩
theorem pA.filter {l : List lC} (h : pA l l) (p : lC → Bool) : pA (l.filter p) (l.filter p) := ⟨h.1.filter _, fun x => ⟨fun a => ⟨a, ((h.2 x).1 (bT.1 a).1).2⟩, fun a => a.1⟩⟩
theorem pA.take {l : List lC} (h : pA l l) (n : Nat) : pA (l.take n) (l.take n) := ⟨h.1.sublist (List.take_sublist n l), fun x => ⟨fun a => ⟨a, ((h.2 x).1 (iD a)).2⟩, fun a => a.1⟩⟩
theorem UT (s : mW) (hp : PB s.lF) (h : Sm s.lF) (ha : s.lQ.length ≤ 30000) (hw : s.mg.length ≤ 1000000000) (own : List lC) (g : own.length ≤ 1000) {nd : List lC} (b : rH s = some nd) (d : nd.length ≤ 10000000) :
  ∃ u, pA (nd ++ own) u ∧ sw s own = some ((u.filter fun r => !ov lZ s.mj r).take 16) := by
 obtain ⟨u, e, hu⟩ := Fo (nd ++ own) (by rw [aC]; omega)
 have a := ru (AM _) hu
 rw [aC] at a
 have c : (u.filter fun r => !ov lZ s.mj r).length ≤ u.length := cQ _ _
 refine ⟨u, hu, ?_⟩
 unfold sw
 rw [b, aA, Hk _ _ (by omega), aA, e, aA, Il, xC _ (fun r => ov lZ s.mj r) zR u (by omega) (fun r _ => by unfold vS; rw [pk, NA]), aA, PP _ (by omega)]
theorem GL (s : mW) {fr b : List lB} (e : tz s.lF s.lQ s.na = some fr) (g : fr.length ≤ 1000000) (a : pJ s = some b) :
  sI s = some (((fr.filter fun c => !ov mC s.Shown c).filter fun c => ov mC b c).take 8) := by
 have h1 : (fr.filter fun c => !ov mC s.Shown c).length ≤ fr.length := cQ _ _
 have d : ((fr.filter fun c => !ov mC s.Shown c).filter fun c => ov mC b c).length ≤ (fr.filter fun c => !ov mC s.Shown c).length := cQ _ _
 unfold sI
 rw [a, aA, Qw s e (by omega), aA, Fh, xC _ (fun c => !ov mC b c) zC _ (by omega) (fun c _ => by unfold xa rL; rw [pk, Fi]; rfl)]
 simp only [fO, aA]
 rw [UC _ (by omega)]
def Ad (s : mW) (sh : List lB) (k : List lC) : mW := ⟨s.lF, s.na, s.Room, s.lQ, sh, s.mg, k⟩
end Go.Proofs.YtklbhegeiijbjaaGreat
namespace Go.Proofs.YtklbhegeiijbjaaGreat
open Go.RowKit
theorem RE (s : mW) (hp : PB s.lF) (A : BI s.lF) (ha : s.lQ.length ≤ 30000) (hw : s.mg.length ≤ 1000000000) (l : s.Shown.length ≤ 100000) (hk : s.mj.length ≤ 100000000) (own : List lC) (T : own.length ≤ 1000) :
  ∃ b sh w t k, pJ s = some b ∧ sw s own = some w ∧ sI s = some sh ∧ qL sh ∧ sh.length ≤ 8 ∧ (∀ c ∈ sh, Et s.lF s.lQ s.na c ∧ c ∉ s.Shown ∧ c ∈ b) ∧ pA w w ∧ w.length ≤ 16 ∧ (∀ r ∈ w, r ∉ s.mj) ∧
   uQ (s.Shown ++ sh) t ∧ pA (s.mj ++ w) k ∧ tk s own = some (⟨2, 0, 0, zS, w, Al s.lF sh⟩, 0, Ad s t k) := by
 have g := A.sm
 obtain ⟨o, all, ws, b, _, _, _, _, n, O, P, _⟩ := IQ s hp g ha hw
 obtain ⟨q, nd, I, _, R⟩ := Ue s hp g ha hw
 obtain ⟨u, hu, m⟩ := UT s hp g ha hw own T I R
 obtain ⟨fr, F, Q, hm, hlen⟩ := Rt s.lF hp s.lQ (by omega) s.na
 have d := g.xG
 have es := GL s F (by omega) n
 have a : ∀ c ∈ ((fr.filter fun c => !ov mC s.Shown c).filter fun c => ov mC b c).take 8, Et s.lF s.lQ s.na c ∧ c ∉ s.Shown ∧ c ∈ b := fun c d => by
  have h1 := bT.1 (iD d)
  have v := bT.1 h1.1
  refine ⟨(hm c).1 v.1, fun h => ?_, (oT nF b c).1 h1.2⟩
  have y := v.2
  rw [(oT nF _ c).2 h] at y
  cases y
 have D : qL (((fr.filter fun c => !ov mC s.Shown c).filter fun c => ov mC b c).take 8) := ((Q.filter _).filter _).take 8
 have z : (((fr.filter fun c => !ov mC s.Shown c).filter fun c => ov mC b c).take 8).length ≤ 8 := by rw [dB]; omega
 have M : pA ((u.filter fun r => !ov lZ s.mj r).take 16) ((u.filter fun r => !ov lZ s.mj r).take 16) := ((pA.self hu).filter _).take 16
 have i : ((u.filter fun r => !ov lZ s.mj r).take 16).length ≤ 16 := by rw [dB]; omega
 have j : ∀ r ∈ (u.filter fun r => !ov lZ s.mj r).take 16, r ∉ s.mj := fun r U h => by
  have h1 := (bT.1 (iD U)).2
  rw [(oT mi _ r).2 h] at h1
  cases h1
 generalize ((fr.filter fun c => !ov mC s.Shown c).filter fun c => ov mC b c).take 8 = sh at *
 generalize (u.filter fun r => !ov lZ s.mj r).take 16 = w at *
 obtain ⟨t, W, J⟩ := Ow s hp ha (fun x Y => by have := (A.xG.1 x Y).1; omega) sh z D (fun c d => (a c d).1.1) (fun c d => (a c d).1.2.2) l
 obtain ⟨k, G, L⟩ := Fo (s.mj ++ w) (by rw [aC]; omega)
 refine ⟨b, sh, w, t, k, n, m, es, D, z, a, M, i, j, W, L, ?_⟩
 unfold tk
 rw [m, aA, es, aA, show (⟨⟨s.lF.Name, s.lF.lX, s.lF.ml⟩, s.na, s.Room, s.lQ, s.Shown, s.mg, s.mj⟩ : mW) = s from rfl, J, aA]
 simp only [jl, aB, aN]
 rw [show (KR s t).mj = s.mj from rfl, Hk _ _ (by omega), aA, G, aA]
 rfl
theorem PU (w : List lC) (hw : pA w w) (c : w.length ≤ 16) (l : List Signed) (g : l.length ≤ 8) (h : ∀ x ∈ l, ns x.lB = true ∧ x.Tag.length = 8) (hp : l.Pairwise fun a b => AS a.lB b.lB = true) : Bw ⟨2, 0, 0, zS, w, l⟩ = some true := by
 have d : ET ⟨2, 0, 0, zS, w, l⟩ = some ⟨2, 0, 0, zS, w, l⟩ := rfl
 have h1 : Bx w = some true := by
  unfold Bx
  rw [aV (by simpa using (by omega : (w.length : Int) ≤ 16)), Gn hw (by omega), aA, Fj]
  simp
 have i : D9 l = some true := LY l g h hp l [] rfl
 unfold Bw
 rw [d, aA, SH, aA]
 have j : ((2 : Int) == 1) = false := rfl
 simp only [bX, aB, aN, j, bP, aT]
 rw [h1, i]
 rfl
def CN (mp : List (lC × Bool)) (s : List lC) : Prop := ∀ c, ua lZ mp c false = ov lZ s c
theorem CN.put {mp : List (lC × Bool)} {s : List lC} (h : CN mp s) (k : lC) : CN (oz lZ mp k true) (s ++ [k]) := fun c => by
 have h1 := h c
 unfold ua at *
 rw [BP mi]
 have a := oT mi (s ++ [k]) c
 have b := oT mi s c
 cases e : lZ c k
 ·simp only [aB, aN]
  rw [h1, cJ, a, b]
  have : c ≠ k := fun d => by rw [d, mi.2 rfl] at e; cases e
  simp [this]
 ·simp only [aT, gS]
  rw [eq_comm, a]
  simp [mi.1 e]
theorem CN.congr {mp : List (lC × Bool)} {s t : List lC} (h : CN mp s) (e : ∀ c, c ∈ s ↔ c ∈ t) : CN mp t := fun c => by
 rw [h c, cJ, oT mi, oT mi, e]
theorem J2 : ∀ (l : List lC) (mp : List (lC × Bool)) (sh : List lC), CN mp sh → l.Nodup → (∀ x ∈ l, x ∉ sh) →
  ∃ a, qI l mp = some (Sum.inr a) ∧ CN a (sh ++ l)
 | [], mp, sh, h, _, _ => ⟨mp, by rw [qI], by simpa using h⟩
 | x :: l, mp, sh, h, c, d => by
  rw [dC] at c
  have h1 : ua lZ mp x false = false := by
   rw [h, ← iH, oT mi]; exact d x (by simp)
  obtain ⟨a, i, j⟩ := J2 l (oz lZ mp x true) (sh ++ [x]) (h.put x) c.2 (fun y g => by
   rw [aO, bF]
   rintro (b | b)
   ·exact d y (by simp [g]) b
   ·exact c.1 (b ▸ g))
  refine ⟨a, ?_, by simpa using j⟩
  rw [qI, h1]
  simp only [aB, aN]
  exact i
theorem Kw (m : zA) (e : Int) (s : mW) (b : List lB) (hp : PB s.lF) (ha : s.lQ.length ≤ 30000) : ∀ (l : List Signed) (mp : List (lB × Bool)) (sh : List lB), BF mp sh → (l.map (·.lB)).Nodup → (∀ x ∈ l, x.lB ∉ sh) → (∀ x ∈ l, FJ s.lF (vD s.lQ s.na) x.lB = true) → (∀ x ∈ l, x.lB ∈ b) →
  ∃ a, qG (m, e, s) b l mp = some (Sum.inr a) ∧ BF a (sh ++ l.map (·.lB))
 | [], mp, sh, h, _, _, _, _ => ⟨mp, by rw [qG], by simpa using h⟩
 | x :: l, mp, sh, h, g, j, hm, i => by
  rw [bM, dC] at g
  have h1 : ua mC mp x.lB false = false := by
   rw [h, ← iH, oT nF]; exact j x (by simp)
  obtain ⟨a, k, n⟩ := Kw m e s b hp ha l (oz mC mp x.lB true) (sh ++ [x.lB]) (h.put x.lB) g.2 (fun y c => by
   rw [aO, bF]
   rintro (d | d)
   ·exact j y (by simp [c]) d
   ·exact g.1 (bG.2 ⟨y, c, d⟩)) (fun y c => hm y (by simp [c])) (fun y c => i y (by simp [c]))
  refine ⟨a, ?_, by simpa using n⟩
  rw [qG, h1]
  simp only [aB, aN]
  rw [IN s hp ha, aA, hm x (by simp)]
  simp only [bX, aA, aB, aN]
  rw [M5, (oT nF b x.lB).2 (i x (by simp))]
  simp only [bX, aA, aB, aN]
  exact k
theorem Qa (own : List lC) (ho : own.length ≤ 1000) : ∀ (m n : Nat) (s : mW) (mp : List (lB × Bool)) (v : List (lC × Bool)), PB s.lF → F7 s → s.lQ.length ≤ 30000 → s.mg.length ≤ 1000000000 → s.mj.length + 16 * m ≤ 100000000 → BF mp s.Shown → CN v s.mj → m ≤ 5 → m < n →
  ∃ d : mW, PB d.lF ∧ F7 d ∧ d.lQ.length ≤ 30000 ∧ d.mg.length ≤ 1000000000 ∧ d.mj.length ≤ 100000000 ∧
   pD own n mp v ((5 - m : Nat) : Int) s.lF.Name s.lF.lX s.lF.ml s.na s.Room s.lQ s.Shown s.mg s.mj = some (Sum.inr (d.lF.Name, d.lF.lX, d.lF.ml, d.na, d.Room, d.lQ, d.Shown, d.mg, d.mj)) := by
 intro m
 induction m with
 | zero =>
  intro n s mp v hp a ha hw hk hm R h5 hn
  refine ⟨s, hp, a, ha, hw, by omega, ?_⟩
  cases n with
  | zero => omega
  | succ n =>
   rw [pD, aY (by decide)]
 | succ m ih =>
  intro n s mp v hp a ha hw hk hm R h5 hn
  cases n with
  | zero => omega
  | succ n =>
   have a1 := JI a.sh a.held
   have J := a.Hd.sm
   have u := J.xG
   obtain ⟨b, sh, w, t, k, Y, ea, es, l, h8, g, y, z, G, L, A, e⟩ := RE s hp a.Hd ha hw (by omega) (by omega) own ho
   have F : ∀ c ∈ sh, vm s.lF c := fun c u => (g c u).1.1
   have j := OB a.Hd l F
   have q := J6 (p := s.lF) F
   have I : (Al s.lF sh).length ≤ 8 := by unfold Al; rw [cV]; exact h8
   have o : ∀ x ∈ Al s.lF sh, x.lB ∈ sh := fun x i => by rw [← q]; exact bG.2 ⟨x, i, rfl⟩
   obtain ⟨O, U, Q⟩ := Kw (⟨2, 0, 0, zS, w, Al s.lF sh⟩ : zA) 0 (Ad s t k) b hp ha (Al s.lF sh) mp s.Shown hm (by rw [q]; exact l.nodup) (fun x i => (g _ (o x i)).2.1) (fun x i => (g _ (o x i)).1.2.2) (fun x i => (g _ (o x i)).2.2)
   rw [q] at Q
   have M : w.Nodup := vB (AM _) (fun x i => ((y.2 x).1 i).2) y.1
   obtain ⟨P, W, Z⟩ := J2 w v s.mj R M G
   have tS : qL t := ⟨L.1, fun c u => ((L.2 c).1 u).2⟩
   have T : ∀ c, c ∈ t ↔ c ∈ s.Shown ++ sh := fun c => by
    rw [L.2]
    refine ⟨fun h => h.1, fun h => ⟨h, ?_⟩⟩
    rcases aO.1 h with h | h
    ·exact a.sh.2 c h
    ·exact l.2 c h
   have km : ∀ r, r ∈ k ↔ r ∈ s.mj ++ w := fun r => by
    rw [A.2]
    refine ⟨fun h => h.1, fun h => ⟨h, ?_⟩⟩
    rcases aO.1 h with h | h
    ·exact ((a.ask.2 r).1 h).2
    ·exact ((y.2 r).1 h).2
   have kl := ru (AM _) A
   rw [aC] at kl
   have D : F7 (Ad s t k) := ⟨a.Hd, a.peer, a.RH, a.room, a.acc, tS, a.zz, pA.self A, fun c u => by
    rcases aO.1 ((T c).1 u) with h | h
    ·exact a.held c h
    ·exact F c h⟩
   obtain ⟨d, q1, q2, q3, q4, q5, q6⟩ := ih n (Ad s t k) O P hp D ha hw (by show k.length + _ ≤ _; omega) (Q.congr (fun c => (T c).symm)) (Z.congr (fun c => (km c).symm)) (by omega) (by omega)
   refine ⟨d, q1, q2, q3, q4, q5, ?_⟩
   have c1 : (((5 - (m + 1) : Nat) : Int) < 5) := by omega
   have c2 : IntKind.i64.wrap (((5 - (m + 1) : Nat) : Int) + 1) = ((5 - m : Nat) : Int) := by rw [nf (by omega) (by omega)]; omega
   rw [pD, c2]
   simp only [c1, cA, aT]
   rw [show (⟨⟨s.lF.Name, s.lF.lX, s.lF.ml⟩, s.na, s.Room, s.lQ, s.Shown, s.mg, s.mj⟩ : mW) = s from rfl, Y, aA, e, aA]
   simp only [jl, aB, aN]
   rw [PU w y z _ I j.1 j.2]
   simp only [aA, bX, aB, aN]
   rw [U, aA]
   simp only
   rw [W, aA]
   exact q6
theorem Kf : ∀ (l A : List lC) (mp : List (lC × Bool)), CN mp A → ∃ a, qz l mp = some a ∧ CN a (A ++ l)
 | [], A, mp, h => ⟨mp, by rw [qz], by simpa using h⟩
 | x :: l, A, mp, h => by
  obtain ⟨a, e, b⟩ := Kf l (A ++ [x]) _ (h.put x)
  exact ⟨a, by rw [qz, e], by simpa using b⟩
theorem Kq (s : mW) (own : List lC) (i : own.length ≤ 1000) (hp : PB s.lF) (g : F7 s) (ha : s.lQ.length ≤ 30000) (hw : s.mg.length ≤ 1000000000) (hk : s.mj.length ≤ 10000000) : ∀ (l A : List lB) (mp : List (lB × Bool)), s.Shown = A ++ l → BF mp A → qC s own l mp = some true
 | [], A, mp, e, h => by
  rw [bO] at e
  subst e
  obtain ⟨o, k, m⟩ := Kf s.mj [] [] (fun c => rfl)
  obtain ⟨a, q, d, v, r, w, t⟩ := Qa own i 5 mR s mp o hp g ha hw (by omega) h m (by omega) (by rw [oY]; omega)
  rw [qC, k, aA, show (0 : Int) = ((5 - 5 : Nat) : Int) from rfl, t, aA]
  simp only
  rw [show (⟨⟨a.lF.Name, a.lF.lX, a.lF.ml⟩, a.na, a.Room, a.lQ, a.Shown, a.mg, a.mj⟩ : mW) = a from rfl]
  have n := JI d.sh d.held
  have u := d.Hd.sm.xG
  obtain ⟨b, j, k2⟩ := J9 a q (by omega) (by omega) r (by omega)
  rw [j, k2.2 d]; rfl
 | c :: l, A, mp, e, h => by
  rw [qC]
  exact Kq s own i hp g ha hw hk l (A ++ [c]) _ (by rw [e]; simp) (h.put c)
theorem Ho (j : xO = some true) (s : mW) (own : List lC) (a : SQ s) : vt s own = some true := by
 obtain ⟨g, i, o, q⟩ := VI s a
 have c2 := Fk s.Shown
 have l := a.sh
 have m := a.wl
 have n := a.al
 unfold vt
 rw [j, i]
 simp only [aA, bX, aB, aN]
 by_cases h : g > 3500
 ·simp only [h, cA, aT, aA]
 ·simp only [h, cL, aB, aN]
  obtain ⟨b, e, k⟩ := J9 s a.p.toPB (by omega) (by omega) (by omega) (by omega)
  rw [e]
  simp only [aA]
  cases b
  ·rfl
  ·simp only [bX, aB, aN, aA]
   by_cases d : (own.length : Int) > 20
   ·simp only [d, cA, aT]
   ·simp only [d, cL, aB, aN]
    exact Kq s own (by omega) a.p.toPB (k.1 rfl) (by omega) (by omega) (by omega) s.Shown [] [] rfl (fun c => rfl)
end Go.Proofs.YtklbhegeiijbjaaGreat
namespace Go.Proofs.YtklbhegeiijbjaaGreat
open Go.RowKit
def tP : lF := ⟨Ul, [Iu eC (xy sZ)], []⟩
def tD : lB := ⟨1, sZ, Bk, ⟨zS, zS⟩, ⟨zS, zS⟩, zS⟩
def tS (acc sh : List lB) (zz ask : List lC) : mW := ⟨tP, Bk, 9, acc, sh, zz, ask⟩
theorem VX : ns tD = true := by decide +kernel
theorem HJ : PB tP := Tz (by decide +kernel)
theorem tG : rc tP eC = (xy sZ, 0) := by
 show rc ⟨Ul, [Iu eC (xy sZ)], []⟩ eC = _
 rw [GD, JH, aV (nF.2 rfl)]
 exact Jt LP
theorem Nd : BI tP where
 name := by decide +kernel
 Q9 := by decide +kernel
 xG := ⟨fun x b => by obtain rfl := bF.1 b; exact ⟨rfl, by decide +kernel⟩, Sh (Ha LD)⟩
 AI := ⟨fun a ha => (by cases ha), trivial⟩
 guards := fun x b => by
  obtain rfl := bF.1 b
  show (rc tP eC).2 = 0
  rw [tG]
theorem VZ (v : lC → Bool) : FJ tP v eC = v sZ := by
 unfold FJ
 rw [tG]
 unfold Bv
 rw [LP, JF]; rfl
theorem KY (acc : List lB) (g : acc.length ≤ 10) {v : Bool} (d : vD acc Bk sZ = v) : tz tP acc Bk = some (if v then [eC] else []) := by
 obtain ⟨fr, e, b, hm, _⟩ := Rt tP HJ acc (by omega) Bk
 have h : ∀ c, c ∈ fr ↔ c = eC ∧ vD acc Bk sZ = true := fun c => by rw [hm]; exact PC LP LD acc Bk c
 rw [d] at h
 cases v
 ·have : fr = [] := ju.2 (fun c a => by have := ((h c).1 a).2; cases this)
  rw [e, this]; rfl
 ·have : fr = [eC] := PN b (fun c a => ((h c).1 a).1) ((h eC).2 ⟨rfl, rfl⟩) LD
  rw [e, this]; rfl
theorem VP (acc sh : List lB) (zz ask : List lC) : uh (tS acc sh zz ask) = [] := rfl
theorem U2 (acc sh : List lB) (zz ask : List lC) (a : acc.length ≤ 10) : vi (tS acc sh zz ask) = some [eC] := by
 rw [Od (tS acc sh zz ask) HJ Nd.sm (by show acc.length ≤ _; omega)]
 show oW [eC] = _
 exact DG (Ha LD) (by simp)
theorem Sf {all : List lB} {ws : List lC} (h : ∀ r, r ∉ ws) : ∀ x, ¬ wU all ws x := by
 intro x d
 induction d with
 | want r b => exact h r b
 | HY c a _ ih => exact ih
 | JV c a _ ih => exact ih
 | HI c _ _ ih => exact ih
 | IX c _ _ ih => exact ih
 | IZ c _ _ ih => exact ih
theorem TL {all : List lB} {ws : List lC} {c : lB} (h : wU all ws (.inr (.inr c))) : c ∈ all := by
 cases h with
 | HY c a _ => exact a
 | JV c a _ => exact a
theorem Tf (acc sh : List lB) (ask : List lC) (h : acc.length ≤ 10) : pJ (tS acc sh [] ask) = some [] := by
 obtain ⟨o, all, ws, b, _, _, _, hw, e, _, _, a⟩ := IQ (tS acc sh [] ask) HJ Nd.sm (by show acc.length ≤ _; omega) (by simp [tS])
 have : b = [] := ju.2 (fun c d => Sf (fun r g => by have := ((hw.2 r).1 g).1; cases this) _ ((a c).1 d))
 rw [e, this]
theorem HV (acc sh : List lB) (ask : List lC) (h : acc.length ≤ 10) : pJ (tS acc sh [sY] ask) = some [eC] := by
 obtain ⟨o, all, ws, b, d, k, ha, hw, e, i, _, g⟩ := IQ (tS acc sh [sY] ask) HJ Nd.sm (by show acc.length ≤ _; omega) (by simp [tS])
 rw [U2 acc sh [sY] ask h] at d
 obtain rfl := gC d
 have j : sY ∈ ws := (hw.2 sY).2 ⟨by simp [tS], by decide +kernel⟩
 have a : eC ∈ all := (ha.2 eC).2 ⟨by simp, LD⟩
 have : b = [eC] := PN i (fun c a => by simpa using ((ha.2 c).1 (TL ((g c).1 a))).1) ((g eC).2 (.HY eC a (.want _ j))) LD
 rw [e, this]
theorem VW : uY (xy sZ) = some [sZ] := by
 obtain ⟨r, e, h, b⟩ := HT (xy sZ) (by decide +kernel)
 rw [e, sU.unique (AM _) h (⟨by simp, fun x => ⟨fun a => ⟨a, by obtain rfl := bF.1 a; decide +kernel⟩, fun a => a.1⟩⟩ : pA (HG (xy sZ)) [sZ])]
theorem N1 : pj [sZ] = some [sZ] := Gn ⟨by simp, fun x => ⟨fun a => ⟨a, by obtain rfl := bF.1 a; decide +kernel⟩, fun a => a.1⟩⟩ (by simp)
theorem Rq (acc sh : List lB) (zz ask : List lC) (h : acc.length ≤ 10) {b : List lB} (a : pJ (tS acc sh zz ask) = some b) {v : Bool} (g : vD acc Bk sZ = v) (c : b = [] ∨ b = [eC]) :
  rH (tS acc sh zz ask) = some (if v || b.isEmpty then [] else [sZ]) := by
 have hu := JL (tS acc sh zz ask) HJ (by show tP.ml.length ≤ _; decide) (by show acc.length ≤ _; omega)
 rw [VP] at hu
 unfold rH
 rw [hu, aA, a, aA]
 rcases c with rfl | rfl
 ·rw [pz, CS]; simp
 ·have d : vI (tS acc sh zz ask) [] eC = some (if v then [] else [sZ]) := by
   unfold vI
   rw [EL [] eC (by simp), aA, show Ck [] eC = [] from rfl, rS, EL [] eC (by simp), aA, show Ck [] eC = [] from rfl]
   rw [IN (tS acc sh zz ask) HJ (by show acc.length ≤ _; omega) eC, show (tS acc sh zz ask).lF = tP from rfl, show (tS acc sh zz ask).lQ = acc from rfl, show (tS acc sh zz ask).na = Bk from rfl, VZ, g, GO tP HJ, tG]
   cases v
   ·simp [VW]
   ·simp
  rw [pz, d, aA]
  cases v
  ·rw [om (by simp) (by simp), aA, pz]
   simp only [aB, aN, bN, N1, aA]
   rfl
  ·rw [om (by simp) (by simp), aA, pz]
   simp only [aT, bN, CS, aA]
   rfl
theorem Ry (s : mW) {nd l : List lC} (b : rH s = some nd) (e : pj nd = some nd) (h : nd.length ≤ 10) (a : (nd.filter fun r => !ov lZ s.mj r) = l) : sw s [] = some l := by
 have c : l.length ≤ nd.length := by rw [← a]; exact cQ _ _
 unfold sw
 rw [b, aA, Hk _ _ (by simp; omega), aA, bO, e, aA, Il, xC _ (fun r => ov lZ s.mj r) zR nd (by omega) (fun r _ => by unfold vS; rw [pk, NA]), aA, PP _ (by rw [a]; omega), a, cX (by omega)]
theorem RB : vD [] Bk sZ = false := Tl _ _
theorem Ro : vD [tD] Bk sZ = true := T7 VX rfl (by simp)
theorem NC {s : mW} {b sh t : List lB} {w k : List lC} (hp : PB s.lF) (q : BI s.lF) (ha : s.lQ.length ≤ 10) (hw : s.mg.length ≤ 10) (r : s.Shown.length ≤ 10) (hk : s.mj.length ≤ 10) (j : sw s [] = some w) (es : sI s = some sh) (m : oW (s.Shown ++ sh) = some t) (l : pj (s.mj ++ w) = some k) : tk s [] = some (⟨2, 0, 0, zS, w, Al s.lF sh⟩, 0, Ad s t k) := by
 obtain ⟨x, v, A, z, k', _, a, c, _, y, _, _, n, _, u, o, e⟩ := RE s hp q (by omega) (by omega) (by omega) (by omega) [] (by simp)
 rw [j] at a; rw [es] at c
 obtain rfl := gC a
 obtain rfl := gC c
 obtain ⟨t2, h, g⟩ := E4 (s.Shown ++ sh) (by simp; omega)
 obtain ⟨k2, i, d⟩ := Fo (s.mj ++ w) (by simp; omega)
 rw [m] at h; rw [l] at i
 obtain rfl := gC h
 obtain rfl := gC i
 rw [e, sU.unique yO u g, sU.unique (AM _) o d]
theorem Q3 : oW [] = some [] := DG qL.nil (by simp)
theorem SX : xO = some true := by
 have r : GU 1 (0 : Int) 8 = some (List.replicate 8 0) := by unfold GU; rw [aV (by decide)]; rfl
 have y : yD tP Bk 9 = some (tS [] [] [] [], 0) := by
  obtain ⟨e, h, u⟩ := Ks tP HJ
  rw [u.2 Nd] at h
  unfold yD
  rw [h, vc, show oV Bk = true by decide +kernel]
  rfl
 have L : oW [eC] = some [eC] := DG (Ha LD) (by simp)
 have z := Rq [] [] [] [] (by simp) (Tf [] [] [] (by simp)) RB (.inl rfl)
 have a0 := Ry (tS [] [] [] []) (l := []) z CS (by simp) rfl
 have J := GL (tS [] [] [] []) (KY [] (by simp) RB) (by simp) (Tf [] [] [] (by simp))
 have G : vj (tS [] [] [] []) [] = some true := by
  unfold vj
  rw [a0, aA, J]; rfl
 have a : pj [sY] = some [sY] := Gn ⟨by simp, fun x => ⟨fun d => ⟨d, by obtain rfl := bF.1 d; decide +kernel⟩, fun d => d.1⟩⟩ (by simp)
 have M : wJ (tS [] [] [] []) [sY] = some (tS [] [] [sY] []) := by
  unfold wJ
  rw [Hk _ _ (by simp [tS]), aA, show (tS [] [] [] []).mg ++ [sY] = [sY] from rfl, a]; rfl
 have m := Rq [] [] [sY] [] (by simp) (HV [] [] [] (by simp)) RB (.inr rfl)
 have o := Ry (tS [] [] [sY] []) (l := [sZ]) m N1 (by simp) rfl
 have s1 := GL (tS [] [] [sY] []) (KY [] (by simp) RB) (by simp) (HV [] [] [] (by simp))
 have t1 := NC (b := []) (s := tS [] [] [sY] []) (t := []) (k := [sZ]) HJ Nd (by simp [tS]) (by simp [tS]) (by simp [tS]) (by simp [tS]) o s1 Q3 N1
 have s2 := GL (tS [tD] [] [sY] [sZ]) (KY [tD] (by simp) Ro) (by simp) (HV [tD] [] [sZ] (by simp))
 have j : ov mC [eC] eC = true := (oT nF _ _).2 (by simp)
 have g : ((((if true = true then [eC] else []).filter fun c => !ov mC (tS [tD] [] [sY] [sZ]).Shown c).filter fun c => ov mC [eC] c).take 8) = [eC] := by
  rw [aV rfl, show (tS [tD] [] [sY] [sZ]).Shown = [] from rfl, show ([eC].filter fun c => !ov mC [] c) = [eC] from rfl, List.filter_cons_of_pos j]; rfl
 rw [g] at s2
 have A := Rq [tD] [] [sY] [sZ] (by simp) (HV [tD] [] [sZ] (by simp)) Ro (.inr rfl)
 have a2 := Ry (tS [tD] [] [sY] [sZ]) (l := []) A CS (by simp) rfl
 have t2 := NC (b := []) (s := tS [tD] [] [sY] [sZ]) (t := [eC]) (k := [sZ]) HJ Nd (by simp [tS]) (by simp [tS]) (by simp [tS]) (by simp [tS]) a2 s2 L N1
 have D := Rq [tD] [eC] [sY] [sZ] (by simp) (HV [tD] [eC] [sZ] (by simp)) Ro (.inr rfl)
 have a3 := Ry (tS [tD] [eC] [sY] [sZ]) (l := []) D CS (by simp) rfl
 have n := GL (tS [tD] [eC] [sY] [sZ]) (KY [tD] (by simp) Ro) (by simp) (HV [tD] [eC] [sZ] (by simp))
 have i : ((((if true = true then [eC] else []).filter fun c => !ov mC (tS [tD] [eC] [sY] [sZ]).Shown c).filter fun c => ov mC [eC] c).take 8) = [] := by
  rw [aV rfl, show (tS [tD] [eC] [sY] [sZ]).Shown = [eC] from rfl, List.filter_cons_of_neg (by rw [j]; simp)]; rfl
 rw [i] at n
 have I : vj (tS [tD] [eC] [sY] [sZ]) [] = some true := by
  unfold vj
  rw [a3, aA, n]; rfl
 have F := U2 [tD] [eC] [sY] [sZ] (by simp)
 have q := HV [tD] [eC] [sZ] (by simp)
 unfold xO
 rw [r, aA, aA]
 simp only
 rw [show yD (⟨(⟨#[109, 101]⟩ : ByteArray), [⟨⟨⟨1, ⟨(⟨#[120]⟩ : ByteArray), (⟨#[121]⟩ : ByteArray)⟩, (⟨#[109, 101]⟩ : ByteArray), ⟨zS, zS⟩, ⟨zS, zS⟩, zS⟩, List.replicate 8 0⟩, ⟨1, 0, ⟨(⟨#[120]⟩ : ByteArray), (⟨#[122]⟩ : ByteArray)⟩, []⟩⟩], []⟩ : lF) (⟨#[121, 111, 117]⟩ : ByteArray) 9 = _ from y]
 simp only [aA]
 rw [G]
 simp only [aA]
 rw [show wJ (⟨⟨(tS [] [] [] []).lF.Name, (tS [] [] [] []).lF.lX, (tS [] [] [] []).lF.ml⟩, (tS [] [] [] []).na, (tS [] [] [] []).Room, (tS [] [] [] []).lQ, (tS [] [] [] []).Shown, (tS [] [] [] []).mg, (tS [] [] [] []).mj⟩ : mW) [(⟨(⟨#[120]⟩ : ByteArray), (⟨#[121]⟩ : ByteArray)⟩ : lC)] = _ from M]
 simp only [aA]
 rw [m]
 simp only [aA]
 rw [t1]
 simp only [aA]
 rw [show (⟨(Ad (tS [] [] [sY] []) [] [sZ]).lF, (Ad (tS [] [] [sY] []) [] [sZ]).na, (Ad (tS [] [] [sY] []) [] [sZ]).Room, [(⟨1, (⟨(⟨#[120]⟩ : ByteArray), (⟨#[122]⟩ : ByteArray)⟩ : lC), (⟨#[121, 111, 117]⟩ : ByteArray), (⟨zS, zS⟩ : lC), (⟨zS, zS⟩ : lC), zS⟩ : lB)], (Ad (tS [] [] [sY] []) [] [sZ]).Shown, (Ad (tS [] [] [sY] []) [] [sZ]).mg, (Ad (tS [] [] [sY] []) [] [sZ]).mj⟩ : mW) = tS [tD] [] [sY] [sZ] from rfl, s2]
 simp only [aA]
 rw [t2]
 simp only [aA]
 rw [show Ad (tS [tD] [] [sY] [sZ]) [eC] [sZ] = tS [tD] [eC] [sY] [sZ] from rfl, I, F, q]
 have v : lZ sZ (⟨(⟨#[120]⟩ : ByteArray), (⟨#[122]⟩ : ByteArray)⟩ : lC) = true := mi.2 rfl
 have w : nD (if (false || [eC].isEmpty) = true then [] else [sZ]) 0 = some sZ := rfl
 unfold zm
 rw [w]
 simp only [aA, v]
 rfl
end Go.Proofs.YtklbhegeiijbjaaGreat
namespace Go.Proofs.YtklbhegeiijbjaaGreat.Lf
open Go.ChangeShapes Go.WideShapes Go.ChangeAt Go.RowKit
open Go.Proofs.YtklbhegeiijbjaaGreat (Rows.uptoBulk Rows.uptoBulkAll Rows.uptoSmall)
theorem Ur {H : Type} (d : DataW H) : 1 ≤ Rows.uptoBulk d := by
 cases d with
 | lit l => cases l <;> simp [Rows.uptoBulk]
 | nil => simp [Rows.uptoBulk]
 | ptr d => simp [Rows.uptoBulk]
 | slice a spare => simp [Rows.uptoBulk]
 | agg parts => simp [Rows.uptoBulk]
 | iface t d => simp [Rows.uptoBulk]
 | map entries => simp [Rows.uptoBulk]
 | held h => simp [Rows.uptoBulk]
def Jm {α : Type} (P : Program) (t : TypeId) (enc : α → List Value) (sz : α → Nat) : Prop :=
 ∀ (H : Type) (b : TypeId × Value → H) (W : World) (base : Nat) (sp : Nat → Bool) (c : Bool) (fuel : Nat) (cs : List Value) (x : DataW H × List MemPlace),
  DataW.trod b P W base sp c fuel t cs = some x → ∃ a : α, cs = enc a ∧ sz a ≤ Rows.uptoBulk x.1
theorem N3 {P : Program} {t : TypeId} (a : P.underlying t = some .string) : Jm P t (fun s : ByteArray => [.string s]) (fun s => s.size) := by
 intro H b W base sp c fuel cs x h
 obtain ⟨s, rfl, rfl, _⟩ := DataW.trod_string a h
 refine ⟨s, rfl, ?_⟩
 have e : s.data.toList.length = s.size := by rw [dG]; rfl
 simp [Rows.uptoBulk, e]
theorem Sp {P : Program} {t : TypeId} {k : IntKind} (a : P.underlying t = some (.int k)) : Jm P t (fun n : Int => [.int k n]) (fun _ => 0) := by
 intro H b W base sp c fuel cs x h
 obtain ⟨n, rfl, rfl, _⟩ := DataW.trod_int a h
 exact ⟨n, rfl, fG _⟩
theorem SJ {α : Type} {n : Nat} {p : Nat → α → Prop} (h : ∀ i, i < n → ∃ x, p i x) : ∃ l : List α, l.length = n ∧ ∀ i x, l[i]? = some x → p i x := by
 induction n with
 | zero => exact ⟨[], rfl, by simp⟩
 | succ n ih =>
  obtain ⟨l, h1, c⟩ := ih fun i b => h i (by omega)
  obtain ⟨x, g⟩ := h n (by omega)
  refine ⟨l ++ [x], by simp [h1], fun i y a => ?_⟩
  by_cases b : i < l.length
  ·rw [iJ b] at a
   exact c i y a
  ·rw [fU (by omega)] at a
   have : i - l.length = 0 := by
    cases d : i - l.length with
    | zero => rfl
    | succ m => rw [d] at a; simp at a
   rw [this] at a
   have e : i = n := by omega
   simp at a
   subst a; rw [e]; exact g
theorem LH {W : World} {a : Addr} {v : Value} (h : W.cell? a = some v) : ∃ cs T fr, W.heap[a.block]? = some (.cells cs T fr) ∧ a.spot = none ∧ cs[a.off]? = some v := by
 unfold World.cell? at h
 split at h
 ·rename_i c T fr d
  by_cases b : a.spot.isSome
  ·simp [b] at h
  ·simp only [b] at h
   exact ⟨c, T, fr, d, by simpa using b, by simpa using h⟩
 ·cases h
theorem Ex.below {dd : Bool} {W W' : World} (h : Ex dd W W') : Below W.heap.size W W' := ⟨h.os, h.tape, h.output, h.size, h.oy⟩
theorem FR {H : Type} {j : TypeId × Value → H} {P : Program} (l : laidOutB P = true) {W W' : World} {b : Nat → Bool} :
  ∀ {g : List TypeId} {vs : List Value} {ds : List (DataW H)} {c : List MemPlace}, (∀ t ∈ g, P.readableRec t = true ∧ t < P.types.size) →
   DataW.TrodAll j P W 0 (fun _ => true) true g vs ds c → (∀ p ∈ c, W.sameAt W' p) → (∀ p ∈ c, b p.block = true) → DataW.TrodAll j P W' 0 b true g vs ds c
 | [], _, _, _, _, h, _, _ => by
  obtain ⟨rfl, rfl, rfl⟩ := trodAll_nil h
  exact trodAll_mk0
 | t :: g, _, _, _, i, h, h1, k => by
  obtain ⟨v, vs, d, ds, p, q, rfl, rfl, rfl, m, n⟩ := trodAll_cons h
  exact trodAll_cons_mk (WideElems.Trod_stays l (i t (by simp)).1 (i t (by simp)).2 m (fun x a => h1 x (by simp [a])) (fun x a => k x (by simp [a])))
   (FR l (fun u hu => i u (by simp [hu])) n (fun x a => h1 x (by simp [a])) (fun x a => k x (by simp [a])))
theorem NX {H : Type} {enc : TypeId × Value → H} {P : Program} (I : laidOutB P = true) {f : Func} {s : ChangeSpec} {apart fresh handsOn again : Bool} {W W' : World} {args : Array Value} {v : Value} {ds gs : List (DataW H)} {before : List MemPlace} (L : ∀ t ∈ f.params.toList, P.readableRec t = true ∧ t < P.types.size) (l : s.vars = []) (n : DataW.Whole enc P f.params.toList s.vars apart W args.toList ds gs before) {dd : Bool} (A : Ex dd W W') (a : ∀ (b : Nat) (sp : Nat → Bool) (G : Bool), DataW.TrodAll enc P W' b sp G f.resultTypes.toList (v.resultList f.resultTypes.size) (s.fn H (ds ++ gs)).results []) (c : (s.fn H (ds ++ gs)).args = ds) (g : (s.fn H (ds ++ gs)).vars = []) (y : ∀ (j : Nat) (t : TypeId) (r : Value), f.resultTypes[j]? = some t → (v.resultList f.resultTypes.size)[j]? = some r → Value.okWide P W' .any 0 t r) :
  s.post enc P f apart fresh handsOn again W args v W' := by
 have d := n.lt
 have hold : ∀ p ∈ before, (fun b => decide (b < W.heap.size)) p.block = true := fun p hp => by simpa using d p hp
 have u := Ex.below A
 have o := n
 obtain ⟨p, q, F, D, i, M, J⟩ := n
 rw [l] at D
 obtain ⟨rfl, rfl⟩ := trodVars_none D
 rw [bO] at i
 subst i
 have k : ∀ sp : Nat → Bool, (∀ p ∈ before, sp p.block = true) → DataW.TrodAll enc P W' 0 sp true f.params.toList args.toList (s.fn H (ds ++ [])).args before := fun sp z => by
  rw [c]
  exact FR I L F (fun x A => u.same (d x A)) z
 have m : ∀ sp : Nat → Bool, DataW.TrodVars enc P W' sp s.vars (s.fn H (ds ++ [])).vars [] := fun sp => by
  rw [g, l]; rfl
 refine ⟨ds, [], before, [], before, [], o, a _ _ _, k _ hold, m _, World.keptBut_mono (fun p hp => ⟨hp, ?_⟩) (u.frame (· ∈ before)), fun _ => ?_⟩
 ·exact Or.inr (Or.inl hp)
 ·refine ⟨y, _, _, ([] ++ before) ++ [], ⟨[] ++ before, [], trodAll_append (k _ (fun _ _ => rfl)) (a _ _ _), m _, rfl, ?_, ?_⟩, ?_⟩
  ·intro b off hp
   have h : MemPlace.cell b off ∈ before := by simpa using hp
   rw [World.frozen?_of_block (w := W) (u.block b (d _ h))]
   exact M b off h
  ·intro ha
   simpa using J ha
  ·intro p hp _
   simpa using hp
end Go.Proofs.YtklbhegeiijbjaaGreat.Lf
namespace Go.Proofs.YtklbhegeiijbjaaGreat.Lf
open Go.ChangeShapes Go.WideShapes Go.ChangeAt Go.RowKit
open Go.Proofs.YtklbhegeiijbjaaGreat (Rows.uptoBulk Rows.uptoBulkAll Rows.uptoSmall)
def Iv {α : Type} (P : Program) (t : TypeId) (R : su α) (sz : α → Nat) : Prop :=
 ∀ (H : Type) (b : TypeId × Value → H) (W : World) (base : Nat) (sp : Nat → Bool) (c : Bool) (fuel : Nat) (cs : List Value) (x : DataW H × List MemPlace),
  DataW.trod b P W base sp c fuel t cs = some x → ∃ a : α, R (hp W) cs a ∧ sz a ≤ Rows.uptoBulk x.1
theorem Jm.rel {α : Type} {P : Program} {t : TypeId} {enc : α → List Value} {sz : α → Nat} (h : Jm P t enc sz) : Iv P t (Pl enc) sz := fun H a W base sp b fuel cs x c => h H a W base sp b fuel cs x c
end Go.Proofs.YtklbhegeiijbjaaGreat.Lf
namespace Go.Proofs.YtklbhegeiijbjaaGreat.Lf
open Go.ChangeShapes Go.WideShapes Go.ChangeAt Go.RowKit
open Go.Proofs.YtklbhegeiijbjaaGreat (Rows.uptoBulk Rows.uptoBulkAll Rows.uptoSmall)
theorem HM {H : Type} : ∀ l : List (DataW H), Rows.uptoBulkAll l = (l.map Rows.uptoBulk).sum
 | [] => by simp [Rows.uptoBulkAll]
 | d :: l => by simp [Rows.uptoBulkAll, HM l]
theorem Po {α : Type} (g : α → Nat) : ∀ (n : Nat) (f : Nat → Nat) {l : List α}, l.length = n → (∀ i x, l[i]? = some x → g x ≤ f i) → (l.map g).sum ≤ ((List.range n).map f).sum
 | 0, f, l, b, h => by
  obtain rfl := eS.1 b
  simp
 | n + 1, f, [], b, h => by cases b
 | n + 1, f, a :: l, b, h => by
  rw [List.range_succ_eq_map, bM, bM, gN, gN, fD]
  have h1 := h 0 a rfl
  have d := Po g n (f ∘ Nat.succ) (l := l) (by simpa using b) (fun i x c => h (i + 1) x (by simpa using c))
  omega
def uL {α : Type} (sz : α → Nat) (l : List α) : Nat := (l.map fun a => max 1 (sz a)).sum
theorem CB {α : Type} (sz : α → Nat) : ∀ l : List α, l.length ≤ uL sz l
 | [] => aW _
 | a :: l => by have := CB sz l; simp only [uL, bM, gN, aP] at this ⊢; omega
theorem Jj {α : Type} {sz : α → Nat} : ∀ {l : List α} {a : α}, a ∈ l → sz a ≤ uL sz l
 | b :: l, a, h => by
  simp only [uL, bM, gN]
  rcases aS.1 h with rfl | h
  ·omega
  ·have := Jj (sz := sz) h; simp only [uL] at this; omega
theorem Hx {α : Type} {P : Program} {t e : TypeId} {k : Nat} {R : su α} {sz : α → Nat} (hk : P.cellsOf e = k) (J : 0 < k) (ht : P.underlying t = some (.slice e)) {H : Type} {U : TypeId × Value → H} {W : World} {base : Nat} {sp : Nat → Bool} {held : Bool} {fuel : Nat} {cs : List Value} {x : DataW H × List MemPlace} (hd : ∀ (fuel : Nat) (cs : List Value) (y : DataW H × List MemPlace), DataW.trod U P W base sp held fuel e cs = some y → SizeOf.sizeOf y.1 < SizeOf.sizeOf x.1 → ∃ a : α, R (hp W) cs a ∧ sz a ≤ Rows.uptoBulk y.1) (hf : DataW.trod U P W base sp held fuel t cs = some x) :
  ∃ v l, cs = [v] ∧ Sl R k (hp W) v l ∧ uL sz l ≤ Rows.uptoBulk x.1 := by
 rcases Go.Deep.open_slice ht hf with ⟨rfl, rfl⟩ | ⟨a, ln, cp, m, n, D, Q, rfl, hb, hl, hm, M, rfl, G⟩
 ·exact ⟨_, [], rfl, ⟨none, 0, rfl, aW _, fG _, fun h => absurd h (Nat.lt_irrefl _)⟩, fG _⟩
 ·have aa : ln ≤ m := by rw [M]; split <;> omega
  have hB : ((List.range ln).map fun i => Rows.uptoBulk (D i)).sum ≤ Rows.uptoBulk (DataW.slice ((List.range ln).map D) ((List.range (m - ln)).map fun j => D (ln + j))) := by
   simp only [Rows.uptoBulk]
   rw [HM, fD]
   have e : ((List.range ln).map fun i => Rows.uptoBulk (D i)) = (List.range ln).map (Rows.uptoBulk ∘ D) := rfl
   rw [e]
   omega
  have hS : ∀ i, i < ln → SizeOf.sizeOf (D i) < SizeOf.sizeOf (DataW.slice ((List.range ln).map D) ((List.range (m - ln)).map fun j => D (ln + j))) := fun i I => by
   have := List.sizeOf_lt_of_mem (bG.2 ⟨i, List.mem_range.2 I, rfl⟩ : D i ∈ (List.range ln).map D)
   rw [DataW.slice.sizeOf_spec]; omega
  simp only at hd ⊢
  generalize Rows.uptoBulk (DataW.slice ((List.range ln).map D) ((List.range (m - ln)).map fun j => D (ln + j))) = B at hB
  obtain ⟨l, L, q⟩ := SJ (α := α) (n := ln) (p := fun i x => ∃ b, W.cells? base (a.add (i * k)) k = some b ∧ R (hp W) b x ∧ sz x ≤ Rows.uptoBulk (D i)) fun i I => by
   obtain ⟨b, h1, w⟩ := G i (by omega)
   obtain ⟨x, hR, z⟩ := hd _ _ _ w (hS i I)
   rw [hk] at h1
   exact ⟨x, b, h1, hR, z⟩
  subst L
  refine ⟨_, l, rfl, ⟨some a, cp, rfl, hl, hm, fun h0 => ?_⟩, ?_⟩
  ·have c : ∀ i x, l[i]? = some x → ∃ b, R (hp W) b x ∧ b.length = k ∧ ∀ j, j < k → W.cell? ((a.add (i * k)).add j) = b[j]? := fun i x r =>
    let ⟨b, h1, w, _⟩ := q i x r
    let ⟨_, z, Y⟩ := World.cells?_some h1
    ⟨b, w, z, Y⟩
   obtain ⟨a6, _, Y, h5⟩ := c 0 l[0] (by simp [h0])
   have A := h5 0 J
   rw [Nat.zero_mul, dA (by omega)] at A
   have e0 : (a.add 0).add 0 = a := rfl
   rw [e0] at A
   obtain ⟨cs, T, fr, F, Z, _⟩ := LH A
   obtain ⟨s, u, a1⟩ := a
   simp only at F Z
   subst Z
   refine ⟨s, u, cs, T, fr, rfl, F, fun i x r => ?_⟩
   obtain ⟨b, gR, g1, g2⟩ := c i x r
   refine ⟨b, g1, gR, fun j y hy => ?_⟩
   have hj : j < k := by
    rw [← g1]
    exact (bK.1 hy).1
   have h9 := g2 j hj
   rw [Go.Deep.add_add, hy] at h9
   obtain ⟨O, T', a7, d, a8, g⟩ := LH h9
   have o : (Addr.add ⟨s, u, none⟩ (i * k + j)).block = s ∧ (Addr.add ⟨s, u, none⟩ (i * k + j)).off = u + (i * k + j) := by
    unfold Addr.add
    split
    ·rename_i hz
     rw [hz]; exact ⟨rfl, rfl⟩
    ·exact ⟨rfl, rfl⟩
   rw [o.1, F] at d
   cases d
   rw [o.2, ← fC] at g
   exact g
  ·refine dR (Po _ _ _ rfl fun i x r => ?_) hB
   exact Nat.max_le.2 ⟨Ur _, (q i x r).elim fun _ h => h.2.2⟩
theorem uz {α : Type} {P : Program} {t e : TypeId} {k : Nat} {R : su α} {sz : α → Nat} (hk : P.cellsOf e = k) (a : 0 < k) (c : Iv P e R sz) (g : P.underlying t = some (.slice e)) {H : Type} {b : TypeId × Value → H} {W : World} {base : Nat} {sp : Nat → Bool} {held : Bool} {fuel : Nat} {cs : List Value} {x : DataW H × List MemPlace} (d : DataW.trod b P W base sp held fuel t cs = some x) :
  ∃ v l, cs = [v] ∧ Sl R k (hp W) v l ∧ uL sz l ≤ Rows.uptoBulk x.1 := Hx hk a g (fun _ _ _ h _ => c _ _ _ _ _ _ _ _ _ h) d
theorem MO {α H : Type} {j : TypeId × Value → H} {P : Program} {t e : TypeId} {k : Nat} {enc : α → List Value} {sz : α → Nat} (hk : P.cellsOf e = k) (b : 0 < k) (q : Jm P e enc sz) (g : P.underlying t = some (.slice e)) {W : World} {base i : Nat} {r : Reach} {sp : Nat → Bool} {held : Bool} {v : Value} {d : DataW H} {w : List MemPlace} (a : Value.okWide P W r i t v) (h : DataW.Trod j P W base sp held t v d w) :
  ∃ l : List α, Sl (Pl enc) k (hp W) v l ∧ uL sz l ≤ Rows.uptoBulk d := by
 obtain ⟨A, ln, c, rfl⟩ := okWide_slice g a
 obtain ⟨fuel, s⟩ := h
 obtain ⟨u, l, h1, m, n⟩ := uz hk b q.rel g s
 have o : (Value.slice A ln c).cells.toList = [Value.slice A ln c] := rfl
 rw [o] at h1
 cases h1
 exact ⟨l, m, n⟩
end Go.Proofs.YtklbhegeiijbjaaGreat.Lf
namespace Go.Proofs.YtklbhegeiijbjaaGreat.Lf
open Go.ChangeShapes Go.WideShapes Go.ChangeAt Go.RowKit
open Go.Proofs.YtklbhegeiijbjaaGreat (Rows.uptoBulk Rows.uptoBulkAll Rows.uptoSmall)
def PQ {α : Type} (R : su α) (Q : α → Prop) : su α := fun μ ys x => R μ ys x ∧ Q x
theorem Sl.all {α : Type} {R : su α} {Q : α → Prop} {k : Nat} {μ : mF} {v : Value} {l : List α} (h : Sl (PQ R Q) k μ v l) : Sl R k μ v l ∧ ∀ x ∈ l, Q x := by
 obtain ⟨A, c, rfl, h1, j, r⟩ := h
 cases l with
 | nil => exact ⟨⟨A, c, rfl, h1, j, fun h => absurd h (by simp)⟩, by simp⟩
 | cons a l =>
  obtain ⟨b, o, cs, T, fr, e, s, m⟩ := r (by simp)
  refine ⟨⟨A, c, rfl, h1, j, fun _ => ⟨b, o, cs, T, fr, e, s, fun i x g => ?_⟩⟩, fun x g => ?_⟩
  ·obtain ⟨ys, n, d, q⟩ := m i x g
   exact ⟨ys, n, d.1, q⟩
  ·obtain ⟨i, t⟩ := List.mem_iff_getElem?.1 g
   obtain ⟨ys, n, d, q⟩ := m i x t
   exact d.2
theorem Sw {P : Program} {t : TypeId} (a : P.underlying t = some (.int .u8)) : Iv P t (PQ (Pl (nr .u8)) (fun x => 0 ≤ x ∧ x < 256)) (fun _ => 0) := by
 intro H b W base sp c fuel cs x h
 obtain ⟨n, rfl, rfl, hw⟩ := DataW.trod_int a h
 refine ⟨n, ⟨rfl, ?_⟩, fG _⟩
 simp [Lit.wf, IntKind.min, IntKind.max, IntKind.bits, IntKind.signed] at hw
 omega
end Go.Proofs.YtklbhegeiijbjaaGreat.Lf
namespace Go.Proofs.YtklbhegeiijbjaaGreat
set_option maxRecDepth 10000
open Go.ChangeShapes Go.WideShapes Go.ChangeAt Go.RowKit
open Go.Proofs.YtklbhegeiijbjaaGreat Go.Proofs.YtklbhegeiijbjaaGreat.Lf
def kq := @Tryz.underlying28
def kE := @Tryz.underlying34
theorem SI : Tryz.prog.cellsOf 36 = 9 := by kernel_rfl
theorem Vd {α : Type} {l : List α} (h : l.length = 7) : ∃ a0 a a2 a3 a4 a5 b, l = [a0, a, a2, a3, a4, a5, b] := by
 match l, h with
 | [a0, a, a2, a3, a4, a5, b], _ => exact ⟨a0, a, a2, a3, a4, a5, b, rfl⟩
theorem Te {α : Type} {l : List α} (h : l.length = 9) : ∃ a0 a a2 a3 a4 a5 b c d, l = [a0, a, a2, a3, a4, a5, b, c, d] := by
 match l, h with
 | [a0, a, a2, a3, a4, a5, b, c, d], _ => exact ⟨a0, a, a2, a3, a4, a5, b, c, d, rfl⟩
theorem SS : Tryz.prog.cellsOf 25 = 3 := by kernel_rfl
theorem Uv {α : Type} {l : List α} (h : l.length = 3) : ∃ a0 a a2, l = [a0, a, a2] := by
 match l, h with
 | [a0, a, a2], _ => exact ⟨a0, a, a2, rfl⟩
theorem I0 : Tryz.prog.cellsOf 9 = 1 := by kernel_rfl
theorem JP : Jm Tryz.prog 9 (fun s : ByteArray => [.string s]) (fun s => s.size) := N3 Tryz.underlying9
theorem RW : Tryz.prog.cellsOf 22 = 1 := by kernel_rfl
theorem Ni : Tryz.prog.cellsOf 60 = 15 := by kernel_rfl
theorem OD {α : Type} {l : List α} (h : l.length = 2) : ∃ a0 a, l = [a0, a] := by
 match l, h with
 | [a0, a], _ => exact ⟨a0, a, rfl⟩
theorem Uy {α : Type} {l : List α} (h : l.length = 15) : ∃ a0 g a2 a3 a4 a5 i j k a9 a b a12 c d, l = [a0, g, a2, a3, a4, a5, i, j, k, a9, a, b, a12, c, d] := by
 match l, h with
 | [a0, g, a2, a3, a4, a5, i, j, k, a9, a, b, a12, c, d], _ => exact ⟨a0, g, a2, a3, a4, a5, i, j, k, a9, a, b, a12, c, d, rfl⟩
theorem SP : Tryz.prog.cellsOf 55 = 10 := by kernel_rfl
theorem Ef : Tryz.prog.cellsOf 52 = 9 := by kernel_rfl
theorem Om : Jm Tryz.prog 3 (fun n : Int => [.int .i64 n]) (fun _ => 0) := Sp Tryz.underlying3
theorem LB : Tryz.prog.cellsOf 3 = 1 := by kernel_rfl
theorem Bb : Tryz.prog.cellsOf 50 = 2 := by kernel_rfl
def tF (x : lC) : Nat := x.lI.size + x.lM.size
theorem DI : Jm Tryz.prog 50 lE tF := by
 intro H d W base sp i fuel cs x h
 obtain ⟨xs, n, _, rfl, m, hlen, j⟩ := eY Tryz.underlying50 h
 obtain ⟨q, r, rfl⟩ := OD hlen
 obtain ⟨a, c1, rfl⟩ := OD (m.trans Bb)
 have g : DataW.trod d Tryz.prog W base sp i n 9 (([a, c1].drop 0).take (Tryz.prog.cellsOf 9)) = some q := j 0 _ rfl
 have h1 : DataW.trod d Tryz.prog W base sp i n 9 (([a, c1].drop 1).take (Tryz.prog.cellsOf 9)) = some r := j 1 _ rfl
 simp only [I0, List.drop, List.take] at g h1
 obtain ⟨o, b, k⟩ := JP _ _ _ _ _ _ _ _ _ g
 obtain ⟨s1, c, l⟩ := JP _ _ _ _ _ _ _ _ _ h1
 simp only [bJ, eP] at b c
 obtain rfl := b
 obtain rfl := c
 refine ⟨⟨o, s1⟩, rfl, ?_⟩
 simp only [List.map, Rows.uptoBulk, Rows.uptoBulkAll, tF] at k l ⊢
 omega
theorem Vb {α : Type} {l : List α} (h : l.length = 6) : ∃ a0 a a2 a3 a4 a5, l = [a0, a, a2, a3, a4, a5] := by
 match l, h with
 | [a0, a, a2, a3, a4, a5], _ => exact ⟨a0, a, a2, a3, a4, a5, rfl⟩
def wc (x : lB) : Nat := tF x.Head + x.mS.size + tF x.B + tF x.C + x.mK.size
theorem KU : Jm Tryz.prog 52 lD wc := by
 intro H k W base sp l fuel cs x h
 obtain ⟨xs, n, _, rfl, M, hlen, m⟩ := eY Tryz.underlying52 h
 obtain ⟨T, U, Y, Z, y4, y5, rfl⟩ := Vb hlen
 obtain ⟨a, c1, c2, b, c, d, g, i, j, rfl⟩ := Te (M.trans Ef)
 have v : DataW.trod k Tryz.prog W base sp l n 3 (([a, c1, c2, b, c, d, g, i, j].drop 0).take (Tryz.prog.cellsOf 3)) = some T := m 0 _ rfl
 have h1 : DataW.trod k Tryz.prog W base sp l n 50 (([a, c1, c2, b, c, d, g, i, j].drop 1).take (Tryz.prog.cellsOf 50)) = some U := m 1 _ rfl
 have w : DataW.trod k Tryz.prog W base sp l n 9 (([a, c1, c2, b, c, d, g, i, j].drop 3).take (Tryz.prog.cellsOf 9)) = some Y := m 2 _ rfl
 have y : DataW.trod k Tryz.prog W base sp l n 50 (([a, c1, c2, b, c, d, g, i, j].drop 4).take (Tryz.prog.cellsOf 50)) = some Z := m 3 _ rfl
 have z : DataW.trod k Tryz.prog W base sp l n 50 (([a, c1, c2, b, c, d, g, i, j].drop 6).take (Tryz.prog.cellsOf 50)) = some y4 := m 4 _ rfl
 have A : DataW.trod k Tryz.prog W base sp l n 9 (([a, c1, c2, b, c, d, g, i, j].drop 8).take (Tryz.prog.cellsOf 9)) = some y5 := m 5 _ rfl
 simp only [LB, Bb, I0, List.drop, List.take] at v h1 w y z A
 obtain ⟨O, o, D⟩ := Om _ _ _ _ _ _ _ _ _ v
 obtain ⟨s1, q, F⟩ := DI _ _ _ _ _ _ _ _ _ h1
 obtain ⟨s2, r, G⟩ := JP _ _ _ _ _ _ _ _ _ w
 obtain ⟨P, s, I⟩ := DI _ _ _ _ _ _ _ _ _ y
 obtain ⟨Q, t, J⟩ := DI _ _ _ _ _ _ _ _ _ z
 obtain ⟨R, u, L⟩ := JP _ _ _ _ _ _ _ _ _ A
 simp only [lE, bJ, eP] at o q r s t u
 obtain rfl := o
 obtain ⟨rfl, rfl⟩ := q
 obtain rfl := r
 obtain ⟨rfl, rfl⟩ := s
 obtain ⟨rfl, rfl⟩ := t
 obtain rfl := u
 refine ⟨⟨O, s1, s2, P, Q, R⟩, rfl, ?_⟩
 simp only [List.map, Rows.uptoBulk, Rows.uptoBulkAll, wc] at D F G I J L ⊢
 omega
theorem RT : Tryz.prog.cellsOf 53 = 1 := by kernel_rfl
theorem Tv : Tryz.prog.cellsOf 5 = 1 := by kernel_rfl
theorem UP : Iv Tryz.prog 5 (PQ (Pl (nr .u8)) (fun x => 0 ≤ x ∧ x < 256)) (fun _ => 0) := Sw Tryz.underlying5
theorem Hc : Tryz.prog.cellsOf 58 = 5 := by kernel_rfl
theorem Vo {α : Type} {l : List α} (h : l.length = 4) : ∃ a0 a a2 a3, l = [a0, a, a2, a3] := by
 match l, h with
 | [a0, a, a2, a3], _ => exact ⟨a0, a, a2, a3, rfl⟩
theorem Vm {α : Type} {l : List α} (h : l.length = 5) : ∃ a0 a a2 a3 a4, l = [a0, a, a2, a3, a4] := by
 match l, h with
 | [a0, a, a2, a3, a4], _ => exact ⟨a0, a, a2, a3, a4, rfl⟩
theorem SK : Tryz.prog.cellsOf 56 = 1 := by kernel_rfl
theorem Vi {H : Type} {x : DataW H × List MemPlace} {ys : List (DataW H × List MemPlace)} {p : List MemPlace} (a : x = (.agg (ys.map (·.1)), p)) (i : Nat) {y : DataW H × List MemPlace} (h : ys[i]? = some y) : SizeOf.sizeOf y.1 < SizeOf.sizeOf x.1 := by
 subst a
 have := List.sizeOf_lt_of_mem (bG.2 ⟨y, dK h, rfl⟩ : y.1 ∈ ys.map (·.1))
 simp only [DataW.agg.sizeOf_spec]; omega
theorem LL : ∀ l : List Formula, szFL l ≤ uL Ce l
 | [] => aW _
 | k :: l => by have := LL l; rw [szFL]; simp only [uL, bM, gN] at this ⊢; omega
theorem TB : ∀ (N : Nat) (H : Type) (I : TypeId × Value → H) (W : World) (base : Nat) (sp : Nat → Bool) (J : Bool) (fuel : Nat) (cs : List Value) (x : DataW H × List MemPlace),
  DataW.trod I Tryz.prog W base sp J fuel 58 cs = some x → SizeOf.sizeOf x.1 < N → ∃ a : Formula, lH (hp W) cs a ∧ Ce a ≤ Rows.uptoBulk x.1 := by
 intro N
 induction N with
 | zero => intro _ _ _ _ _ _ _ _ _ _ h; exact absurd h (Nat.not_lt_zero _)
 | succ N ih =>
  intro H I W base sp J fuel cs x h hN
  obtain ⟨a1, v, _, q, w, o, j⟩ := eY Tryz.underlying58 h
  obtain ⟨r, s, t, u, rfl⟩ := Vo o
  obtain ⟨b, c, d, g, i, rfl⟩ := Vm (w.trans Hc)
  have k : DataW.trod _ Tryz.prog W _ _ _ v 3 (([b, c, d, g, i].drop 0).take (Tryz.prog.cellsOf 3)) = some r := j 0 _ rfl
  have l : DataW.trod _ Tryz.prog W _ _ _ v 3 (([b, c, d, g, i].drop 1).take (Tryz.prog.cellsOf 3)) = some s := j 1 _ rfl
  have m : DataW.trod _ Tryz.prog W _ _ _ v 50 (([b, c, d, g, i].drop 2).take (Tryz.prog.cellsOf 50)) = some t := j 2 _ rfl
  have n : DataW.trod _ Tryz.prog W _ _ _ v 56 (([b, c, d, g, i].drop 4).take (Tryz.prog.cellsOf 56)) = some u := j 3 _ rfl
  simp only [LB, Bb, SK, List.drop, List.take] at k l m n
  obtain ⟨s2, A, O⟩ := Om _ _ _ _ _ _ _ _ _ k
  simp only [bJ, eP] at A
  obtain rfl := A
  obtain ⟨Y, D, P⟩ := Om _ _ _ _ _ _ _ _ _ l
  simp only [bJ, eP] at D
  obtain rfl := D
  obtain ⟨Z, F, Q⟩ := DI _ _ _ _ _ _ _ _ _ m
  simp only [lE, bJ, eP] at F
  obtain ⟨rfl, rfl⟩ := F
  obtain ⟨v5, L, G, U, R⟩ := Hx Hc (by decide) Tryz.underlying56 (fun f cs y h T => ih _ _ _ _ _ _ _ _ _ h (by have := Vi q 3 rfl; omega)) n
  simp only [bJ, eP] at G
  obtain rfl := G
  have M := bA (fun z => Rows.uptoBulk z.1) q
  refine ⟨⟨s2, Y, Z, L⟩, lH.mk ⟨_, rfl, U⟩, ?_⟩
  have T := LL L
  simp only [List.map, Rows.uptoBulk, Rows.uptoBulkAll, tF] at O P Q R M ⊢
  rw [L5]
  simp only
  omega
theorem O1 : Iv Tryz.prog 58 lH Ce := fun H a W base sp b fuel cs x h => TB _ H a W base sp b fuel cs x h (bL _)
def xv (x : mG) : Nat := wc x.Signed.lB + uL (fun _ : Int => 0) x.Signed.Tag + 1 + Ce x.lL + 1
def PZ (x : mG) : Prop := (∀ y ∈ x.Signed.Tag, 0 ≤ y ∧ y < 256)
theorem T4 : Iv Tryz.prog 60 (PQ mx PZ) xv := by
 intro H eh W base sp hd fuel cs x h
 obtain ⟨a6, n6, _, R, Q, y, G⟩ := eY Tryz.underlying60 h
 obtain ⟨J, L, rfl⟩ := OD y
 obtain ⟨a, b, c, d, g, i, j, k, l, m, n, o, q, r, s, rfl⟩ := Uy (Q.trans Ni)
 have t : DataW.trod _ Tryz.prog W _ _ _ n6 55 (([a, b, c, d, g, i, j, k, l, m, n, o, q, r, s].drop 0).take (Tryz.prog.cellsOf 55)) = some J := G 0 _ rfl
 have u : DataW.trod _ Tryz.prog W _ _ _ n6 58 (([a, b, c, d, g, i, j, k, l, m, n, o, q, r, s].drop 10).take (Tryz.prog.cellsOf 58)) = some L := G 1 _ rfl
 simp only [SP, Hc, List.drop, List.take] at t u
 obtain ⟨a7, n7, _, T, a1, A, I⟩ := eY Tryz.underlying55 t
 obtain ⟨M, O, rfl⟩ := OD A
 have v : DataW.trod _ Tryz.prog W _ _ _ n7 52 (([a, b, c, d, g, i, j, k, l, m].drop 0).take (Tryz.prog.cellsOf 52)) = some M := I 0 _ rfl
 have w : DataW.trod _ Tryz.prog W _ _ _ n7 53 (([a, b, c, d, g, i, j, k, l, m].drop 9).take (Tryz.prog.cellsOf 53)) = some O := I 1 _ rfl
 simp only [Ef, RT, List.drop, List.take] at v w
 obtain ⟨s8, Z, b8⟩ := KU _ _ _ _ _ _ _ _ _ v
 simp only [lD, lE, bJ, eP] at Z
 obtain ⟨rfl, rfl, rfl, rfl, rfl, rfl, rfl, rfl, rfl⟩ := Z
 obtain ⟨v9, s9, e9, U, b9⟩ := uz Tv (by decide) UP Tryz.underlying53 w
 simp only [bJ, eP] at e9
 obtain rfl := e9
 obtain ⟨U, g9⟩ := Lf.Sl.all U
 have b7 := bA (fun z => Rows.uptoBulk z.1) T
 obtain ⟨Y, D, P⟩ := O1 _ _ _ _ _ _ _ _ _ u
 obtain ⟨v10, F, D⟩ := D.out
 simp only [bJ, eP] at F
 obtain ⟨rfl, rfl, rfl, rfl, rfl⟩ := F
 have b6 := bA (fun z => Rows.uptoBulk z.1) R
 refine ⟨⟨⟨s8, s9⟩, Y⟩, ⟨mx.mk ⟨_, _, rfl, U, D⟩, g9⟩, ?_⟩
 simp only [List.map, Rows.uptoBulk, Rows.uptoBulkAll, xv] at b8 b9 b7 P b6 ⊢
 omega
theorem SA : Tryz.prog.cellsOf 23 = 1 := by kernel_rfl
theorem Nv : Tryz.prog.cellsOf 87 = 8 := by kernel_rfl
theorem Vq {α : Type} {l : List α} (h : l.length = 8) : ∃ a0 a a2 a3 a4 a5 b c, l = [a0, a, a2, a3, a4, a5, b, c] := by
 match l, h with
 | [a0, a, a2, a3, a4, a5, b, c], _ => exact ⟨a0, a, a2, a3, a4, a5, b, c, rfl⟩
theorem MX : Tryz.prog.cellsOf 28 = 1 := by kernel_rfl
def AP (x : ny) : Nat := tF x.lC + Ce x.lL + uL wc x.nn + 1
def UR (x : ny) : Prop := True
theorem Uo : Iv Tryz.prog 87 (PQ mV UR) AP := by
 intro H U W base sp Y fuel cs x h
 obtain ⟨Q, n11, _, D, A, q, o⟩ := eY Tryz.underlying87 h
 obtain ⟨s, t, u, rfl⟩ := Uv q
 obtain ⟨a, b, c, d, g, i, j, k, rfl⟩ := Vq (A.trans Nv)
 have l : DataW.trod _ Tryz.prog W _ _ _ n11 50 (([a, b, c, d, g, i, j, k].drop 0).take (Tryz.prog.cellsOf 50)) = some s := o 0 _ rfl
 have m : DataW.trod _ Tryz.prog W _ _ _ n11 58 (([a, b, c, d, g, i, j, k].drop 2).take (Tryz.prog.cellsOf 58)) = some t := o 1 _ rfl
 have n : DataW.trod _ Tryz.prog W _ _ _ n11 28 (([a, b, c, d, g, i, j, k].drop 7).take (Tryz.prog.cellsOf 28)) = some u := o 2 _ rfl
 simp only [MX, Bb, Hc, List.drop, List.take] at l m n
 obtain ⟨M, v, G⟩ := DI _ _ _ _ _ _ _ _ _ l
 simp only [lE, bJ, eP] at v
 obtain ⟨rfl, rfl⟩ := v
 obtain ⟨O, r, I⟩ := O1 _ _ _ _ _ _ _ _ _ m
 obtain ⟨R, w, r⟩ := r.out
 simp only [bJ, eP] at w
 obtain ⟨rfl, rfl, rfl, rfl, rfl⟩ := w
 obtain ⟨T, P, y, L, J⟩ := uz Ef (by decide) KU.rel kq n
 simp only [bJ, eP] at y
 obtain rfl := y
 have F := bA (fun z => Rows.uptoBulk z.1) D
 refine ⟨⟨M, O, P⟩, ⟨mV.mk ⟨_, _, rfl, r, L⟩, trivial⟩, ?_⟩
 simp only [List.map, Rows.uptoBulk, Rows.uptoBulkAll, AP] at G I J F ⊢
 omega
theorem Se : Tryz.prog.cellsOf 34 = 1 := by kernel_rfl
def Iz (x : mW) : Nat := x.lF.Name.size + uL xv x.lF.lX + uL AP x.lF.ml + 1 + x.na.size + uL wc x.lQ + uL wc x.Shown + uL tF x.mg + uL tF x.mj + 1
theorem Ve : Tryz.prog.readableRec 36 = true ∧ 36 < Tryz.prog.types.size := ⟨by kernel_rfl, jm (by kernel_rfl)⟩
theorem Vc : Tryz.prog.readableRec 34 = true ∧ 34 < Tryz.prog.types.size := ⟨by kernel_rfl, jm (by kernel_rfl)⟩
theorem Fg (c : lB) : zV c = wc c := by unfold zV wc tF; omega
theorem Nc {α : Type} (sz : α → Nat) (h : ∀ a, 2 ≤ sz a) : ∀ l : List α, 2 * l.length ≤ uL sz l
 | [] => fG _
 | a :: l => by have := Nc sz h l; have := h a; simp only [uL, bM, gN, aP] at *; omega
theorem CX (y : mG) : xv y = wc y.Signed.lB + uL (fun _ : Int => 0) y.Signed.Tag + 1 + Ce y.lL + 1 := rfl
theorem Mv (y : ny) : AP y = tF y.lC + Ce y.lL + uL wc y.nn + 1 := rfl
theorem Hb : ∀ l : List lB, xf l ≤ 21 * uL wc l
 | [] => fG _
 | c :: l => by have := Hb l; rw [xf, Fg]; simp only [uL, bM, gN] at *; omega
theorem Nl : ∀ l : List mG, DS l ≤ 21 * uL xv l
 | [] => fG _
 | x :: l => by
  have := Nl l
  have := CB (fun _ : Int => 0) x.Signed.Tag
  rw [DS, Fg]
  have e := CX x
  simp only [uL, bM, gN] at *; omega
theorem NS : ∀ l : List ny, CK l ≤ 21 * uL AP l
 | [] => fG _
 | x :: l => by
  have := NS l
  have := Hb x.nn
  rw [CK]
  have e := Mv x
  unfold tF at e
  have a : uL AP (x :: l) = max 1 (AP x) + uL AP l := rfl
  omega
theorem QG (x : lF) (d : x.Name.size ≤ 1048576) (h1 : uL xv x.lX ≤ 1048576) (g : uL AP x.ml ≤ 1048576) : PG x ∧ x.lX.length ≤ 600000 ∧ Lx x ≤ 1000000000 := by
 have c1 := Nc xv (fun y => by rw [CX]; omega) x.lX
 have c2 := CB AP x.ml
 have g1 : ∀ y ∈ x.lX, wc y.Signed.lB ≤ 1048576 ∧ mT y.lL ≤ 1048576 := fun y a => by
  have := Jj (sz := xv) a
  have e := CX y
  have := GJ y.lL
  omega
 have g2 : ∀ y ∈ x.ml, mT y.lL ≤ 1048576 ∧ uL wc y.nn ≤ 1048576 := fun y a => by
  have := Jj (sz := AP) a
  have e := Mv y
  have := GJ y.lL
  omega
 refine ⟨{ xG := by omega, AI := by omega, rel := fun y a => ?_, LQ := fun y a => ?_, M2 := fun y a => ?_, Vx := fun y a => ?_, VT := fun y a c b => ?_ }, by omega, ?_⟩
 ·have := (g1 y a).2; omega
 ·have := (g2 y a).1; omega
 ·have := (g2 y a).2; have := CB wc y.nn; omega
 ·have := (g1 y a).1; rw [Fg]; omega
 ·have := (g2 y a).2; have := Jj (sz := wc) b; rw [Fg]; omega
 ·have := Nl x.lX; have := NS x.ml; unfold Lx; omega
theorem HX : ∀ l : List lC, xb l ≤ 6 * uL tF l
 | [] => fG _
 | r :: l => by
  have := HX l
  have a : uL tF (r :: l) = max 1 (tF r) + uL tF l := rfl
  have b : tF r = r.lI.size + r.lM.size := rfl
  rw [xb]; omega
theorem Sq (s : mW) (h : Iz s ≤ 1048576) : SQ s := by
 unfold Iz at h
 have a := QG s.lF (by omega) (by omega) (by omega)
 have c1 := Hb s.lQ
 have c2 := Hb s.Shown
 have d := HX s.mg
 have g := HX s.mj
 have b := CB tF s.mg
 have c := CB tF s.mj
 exact { p := a.1, go := a.2.2, acc := by omega, sh := by omega, wl := by omega, al := by omega, zz := by omega, ask := by omega, peer := by omega }
theorem own : ownKnob Tryz.prog.godebug = none := by kernel_rfl
theorem QY : laidOutB Tryz.prog = true := by kernel_rfl
theorem QS (H : Type) (enc : TypeId × Value → H) (W : World) (base : Nat) (args : Array Value) (ds gs : List (DataW H)) (before : List MemPlace) (J : ∀ (j : Nat) t v, Tryz.f5.params[j]? = some t → args[j]? = some v → Value.okWide Tryz.prog W .any base t v) (hW : DataW.Whole enc Tryz.prog Tryz.f5.params.toList Rows.thriftSparesSpec.vars false W args.toList ds gs before) (hk : Rows.uptoSmall H (ds ++ gs) = true) :
  Calls Tryz.prog 5 args W fun e W' => ∃ v, e = .returned v ∧ Rows.thriftSparesSpec.post enc Tryz.prog Tryz.f5 false true false false W args v W' := by
 have bj := hW
 obtain ⟨p, q, bi, hV, rfl, c0, c3⟩ := hW
 have hA : DataW.TrodAll enc Tryz.prog W 0 (fun _ => true) true Tryz.f5.params.toList args.toList ds p := bi
 have hr : ∀ t ∈ Tryz.f5.params.toList, Tryz.prog.readableRec t = true ∧ t < Tryz.prog.types.size := by
  rw [Tryz.params5]
  intro t ht
  simp only [aS, dV, iM] at ht
  rcases ht with rfl | rfl
  ·exact Ve
  ·exact Vc
 rw [Tryz.params5] at hA J
 obtain ⟨v0, c6, d0, bw, p0, q0, bk, rfl, rfl, h0, r0⟩ := trodAll_cons hA
 obtain ⟨v1, c7, d1, bx, p1, q1, rfl, rfl, rfl, h1, r1⟩ := trodAll_cons r0
 obtain ⟨rfl, rfl, rfl⟩ := trodAll_nil r1
 obtain rfl : args = #[v0, v1] := by cases args; simp_all
 obtain ⟨rfl, rfl⟩ := trodVars_none hV
 have k0 := J 0 36 v0 rfl rfl
 have k1 := J 1 34 v1 rfl rfl
 obtain ⟨an, rfl, _⟩ := okWide_struct Tryz.underlying36 k0
 obtain ⟨bz, aE⟩ := h0
 obtain ⟨bl, rfl⟩ : ∃ l : List Value, an = l.toArray := ⟨an.toList, by simp⟩
 change DataW.trod _ _ _ _ _ _ _ _ bl = some _ at aE
 obtain ⟨bt, n15, _, b1, b0, L, o⟩ := eY Tryz.underlying36 aE
 obtain ⟨aa, ab, ad, ae, af, ag, ah, rfl⟩ := Vd L
 obtain ⟨c, a, b, m, n, d, g, h, i, rfl⟩ := Te (b0.trans SI)
 have r : DataW.trod _ Tryz.prog W _ _ _ n15 25 (([c, a, b, m, n, d, g, h, i].drop 0).take (Tryz.prog.cellsOf 25)) = some aa := o 0 _ rfl
 have s : DataW.trod _ Tryz.prog W _ _ _ n15 9 (([c, a, b, m, n, d, g, h, i].drop 3).take (Tryz.prog.cellsOf 9)) = some ab := o 1 _ rfl
 have u : DataW.trod _ Tryz.prog W _ _ _ n15 3 (([c, a, b, m, n, d, g, h, i].drop 4).take (Tryz.prog.cellsOf 3)) = some ad := o 2 _ rfl
 have w : DataW.trod _ Tryz.prog W _ _ _ n15 28 (([c, a, b, m, n, d, g, h, i].drop 5).take (Tryz.prog.cellsOf 28)) = some ae := o 3 _ rfl
 have x : DataW.trod _ Tryz.prog W _ _ _ n15 28 (([c, a, b, m, n, d, g, h, i].drop 6).take (Tryz.prog.cellsOf 28)) = some af := o 4 _ rfl
 have y : DataW.trod _ Tryz.prog W _ _ _ n15 34 (([c, a, b, m, n, d, g, h, i].drop 7).take (Tryz.prog.cellsOf 34)) = some ag := o 5 _ rfl
 have A : DataW.trod _ Tryz.prog W _ _ _ n15 34 (([c, a, b, m, n, d, g, h, i].drop 8).take (Tryz.prog.cellsOf 34)) = some ah := o 6 _ rfl
 simp only [SS, MX, LB, Se, I0, List.drop, List.take] at r s u w x y A
 obtain ⟨bu, n16, _, b2, bs, M, I⟩ := eY Tryz.underlying25 r
 obtain ⟨ai, aj, ak, rfl⟩ := Uv M
 have D : DataW.trod _ Tryz.prog W _ _ _ n16 9 (([c, a, b].drop 0).take (Tryz.prog.cellsOf 9)) = some ai := I 0 _ rfl
 have F : DataW.trod _ Tryz.prog W _ _ _ n16 22 (([c, a, b].drop 1).take (Tryz.prog.cellsOf 22)) = some aj := I 1 _ rfl
 have G : DataW.trod _ Tryz.prog W _ _ _ n16 23 (([c, a, b].drop 2).take (Tryz.prog.cellsOf 23)) = some ak := I 2 _ rfl
 simp only [RW, SA, I0, List.drop, List.take] at D F G
 obtain ⟨Q, ao, b5⟩ := JP _ _ _ _ _ _ _ _ _ D
 simp only [bJ, eP] at ao
 obtain rfl := ao
 obtain ⟨c4, R, ap, O, b6⟩ := uz Ni (by decide) T4 Tryz.underlying22 F
 simp only [bJ, eP] at ap
 obtain rfl := ap
 obtain ⟨O, g18⟩ := Lf.Sl.all O
 obtain ⟨c5, T, aq, P, b7⟩ := uz Nv (by decide) Uo Tryz.underlying23 G
 simp only [bJ, eP] at aq
 obtain rfl := aq
 obtain ⟨P, g19⟩ := Lf.Sl.all P
 have b4 := bA (fun z => Rows.uptoBulk z.1) b2
 obtain ⟨U, ar, b9⟩ := JP _ _ _ _ _ _ _ _ _ s
 simp only [bJ, eP] at ar
 obtain rfl := ar
 obtain ⟨Y, au, ba⟩ := Om _ _ _ _ _ _ _ _ _ u
 simp only [bJ, eP] at au
 obtain rfl := au
 obtain ⟨v22, Z, av, bn, bc⟩ := uz Ef (by decide) KU.rel kq w
 simp only [bJ, eP] at av
 obtain rfl := av
 obtain ⟨v23, a6, aw, bo, bd⟩ := uz Ef (by decide) KU.rel kq x
 simp only [bJ, eP] at aw
 obtain rfl := aw
 obtain ⟨v24, a7, ay, bp, bf⟩ := uz Bb (by decide) DI.rel kE y
 simp only [bJ, eP] at ay
 obtain rfl := ay
 obtain ⟨v25, a8, az, bq, bh⟩ := uz Bb (by decide) DI.rel kE A
 simp only [bJ, eP] at az
 obtain rfl := az
 have b3 := bA (fun z => Rows.uptoBulk z.1) b1
 simp only [List.map, Rows.uptoBulk, Rows.uptoBulkAll] at b5 b6 b7 b4 b9 ba bc bd bf bh b3
 have z0 : Iz (⟨⟨Q, R, T⟩, U, Y, Z, a6, a7, a8⟩ : mW) ≤ Rows.uptoBulk d0 := by simp only [Iz]; omega
 obtain ⟨a1, s1, z1⟩ := MO (k := 2) Bb (by decide) DI kE k1 h1
 have hB : Rows.uptoBulkAll ([d0, d1] ++ []) ≤ 1048576 := jm hk
 simp only [bO, Rows.uptoBulkAll] at hB
 have hm : vt (⟨⟨Q, R, T⟩, U, Y, Z, a6, a7, a8⟩ : mW) a1 = some true := Ho SX _ _ (Sq _ (by omega))
 have hg := Fu (⟨⟨Q, R, T⟩, U, Y, Z, a6, a7, a8⟩ : mW) a b d g h i v1 a1 true W O P bn bo bp bq s1 hm
 refine dS hg fun e W' ⟨he, hx⟩ => ?_
 subst he
 exact ⟨_, rfl, NX QY hr rfl bj hx (fun _ _ _ => trodAll_cons_mk (shut_bool Tryz.underlying4 _) trodAll_mk0) rfl rfl (ok_one (by kernel_rfl) rfl (okWide_bool_mk Tryz.underlying4 _))⟩
set_option maxRecDepth 100000 in
theorem T6 (os : Os) (started : os.Started) (H : Type) (enc : TypeId × Value → H) (F : Stop.Interp) :
  ReturnsInHanded {} Tryz.checked os 5 .any ((Rows.OpenSpec.upto Rows.thriftSparesSpec).pre6 enc Tryz.prog Tryz.f5 Rows.thriftSparesUptoRow.domain false) (((Rows.OpenSpec.upto Rows.thriftSparesSpec).at F).post enc Tryz.prog Tryz.f5 false true false false) := by
 refine returnsInHanded_of_cond (C := Tryz.checked) (s := Rows.OpenSpec.upto Rows.thriftSparesSpec) (k := Rows.uptoSmall) rfl own started (by kernel_rfl) Tryz.func5
  (OpenSpec.witness (enc := enc) (C := Tryz.checked) (s := Rows.OpenSpec.upto Rows.thriftSparesSpec) (k := Rows.uptoSmall) rfl false ⟨#[], #[.agg #[.string ⟨#[]⟩, .slice none 0 0, .slice none 0 0, .string ⟨#[]⟩, .int .i64 0, .slice none 0 0, .slice none 0 0, .slice none 0 0, .slice none 0 0], .slice none 0 0], []⟩ 8 (by kernel_rfl) (by kernel_rfl) (by kernel_rfl)
   (x := ([.agg [.agg [.lit (.string []), .nil, .nil], .lit (.string []), .lit (.int .i64 0), .nil, .nil, .nil, .nil], .nil], [], [])) (by kernel_rfl) rfl (by kernel_rfl)) ?_
 intro W base args ds gs before a b _ hk _
 exact QS H enc W base args ds gs before a b hk
theorem UK {a b : Bool} (ha : a = true) (c : b = true) : (a && b) = true := by rw [ha, c]; rfl
set_option maxHeartbeats 40000000 in
theorem RR : joinedFacts Tryz.checked.prog 5 Tryz.f5 (Rows.OpenSpec.upto Rows.thriftSparesSpec).bare Rows.thriftSparesUptoRow = true := by
 unfold joinedFacts
 repeat' with_reducible refine UK ?_ ?_
 all_goals as_aux_lemma => kernel_rfl
theorem proved : Rows.ThriftSparesUptoSaid :=
 OpenClaim.holds_of_cond 5 Tryz.f5 rfl rfl rfl rfl rfl rfl rfl ⟨rfl, rfl, rfl, rfl, rfl⟩ rfl rfl rfl rfl rfl (by kernel_rfl) Tryz.func5 RR
  (jm (by kernel_rfl)) (by unfold Func.isWrapper; first | (rw [aV (by decide +kernel)]; kernel_rfl) | (rw [aY (by decide +kernel)]; exact ⟨rfl, rfl⟩))
  (fun os started H enc _ F => T6 os started H enc F)
end Go.Proofs.YtklbhegeiijbjaaGreat
