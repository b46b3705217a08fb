/- a part of a proof of ThriftHides -/
import Derived.Test.YtklbhegeiijbjaaGreatHdq
import Derived.Test.YtklbhegeiijbjaaGreatRtVq
import Derived.Test.YtklbhegeiijbjaaGreatRows
import Derived.WalkKit
import Derived.ProofKit
import Derived.OpenShut
import Derived.JoinedCond
import Derived.Deep.Slices
import Derived.Carry
import Derived.ChangeArms
import Derived.ChangeSame
import Derived.Test.YtklbhegeiijbjaaGreatTHW3q
set_option linter.all false
namespace Go.Proofs.YtklbhegeiijbjaaGreat
open Go.Proofs.Tryz renaming prog → pg0
open Go.RowKit
structure PB (p : lH) : Prop where
 wR : p.lZ.length ≤ 2000000
 xX : p.mq.length ≤ 2000000
 rel : ∀ x ∈ p.lZ, mW x.lM ≤ 10000000
 Hj : ∀ a ∈ p.mq, mW a.lM ≤ 10000000
 Jy : ∀ a ∈ p.mq, a.nj.length ≤ 2000000
theorem IZ (f : mI → Option Bool) : ∀ (l : List mI) (i : Nat), pw f l i = Ao f l i
 | [], i => by rw [pw]; rfl
 | x :: l, i => by
  rw [pw, Ao]
  cases f x with
  | none => rfl
  | some b =>
   simp only [aA]
   rw [IZ f l (i + 1)]
theorem FK (f : nx → Option Bool) : ∀ (l : List nx) (i : Nat), qb f l i = Ao f l i
 | [], i => by rw [qb]; rfl
 | x :: l, i => by
  rw [qb, Ao]
  cases f x with
  | none => rfl
  | some b =>
   simp only [aA]
   rw [FK f l (i + 1)]
theorem Jb {α : Type} (f : α → Option Bool) (p : α → Bool) (l : List α) (h : ∀ x ∈ l, f x = some (p x)) : ((Ao f l 0).bind fun c => some (decide (c ≥ 0))) = some (l.any p) := by
 rcases DU f p l 0 h with ⟨e, h1⟩ | ⟨A, x, B, rfl, h1, a, e⟩
 ·rw [e, aA]
  have : l.any p = false := by rw [jw]; intro x b; rw [h1 x b]; simp
  rw [this]; rfl
 ·rw [e, aA]
  have : (A ++ x :: B).any p = true := by simp [a]
  rw [this]
  congr 1
theorem PU (f : mI → Option Bool) (p : mI → Bool) (l : List mI) (h : ∀ x ∈ l, f x = some (p x)) : rD l f = some (l.any p) := by
 unfold rD qX
 rw [IZ]; exact Jb f p l h
theorem Px (f : nx → Option Bool) (p : nx → Bool) (l : List nx) (h : ∀ x ∈ l, f x = some (p x)) : tz l f = some (l.any p) := by
 unfold tz rc
 rw [FK]; exact Jb f p l h
def wg (p : lH) (c : lD) : Option mI := p.lZ.find? fun x => mO x.Signed.lD c
theorem UA (p : lH) (c : lD) : ∃ z, Bq p c = some (match wg p c with | some x => (x, true) | none => (z, false)) := by
 unfold Bq qX wg
 rw [IZ]
 rcases DU (fun x => zi x c) (fun x => mO x.Signed.lD c) p.lZ 0 (fun x _ => rfl) with ⟨e, h1⟩ | ⟨A, x, B, hp, h1, b, e⟩
 ·rw [e, aA, gI.2 (fun x a => by rw [h1 x a]; simp)]
  exact ⟨_, rfl⟩
 ·rw [e, aA, hp, kX, gI.2 (fun x a => by rw [h1 x a]; simp), fG, b]
  have : ¬ (((0 + A.length : Nat) : Int) < 0) := by omega
  simp only [this, cI, aB, aN]
  rw [oU A x B _ (by omega)]
  exact ⟨x, rfl⟩
def Ry : nx := ⟨⟨zS, zS⟩, ⟨0, 0, ⟨zS, zS⟩, []⟩, []⟩
theorem IM (f : nx → Option Bool) : ∀ (n : Nat) (l : List nx) (i j : Int), pR f n l i j = DV f Ry n l i j
 | 0, _, _, _ => rfl
 | n + 1, l, i, j => by
  rw [pR, DV]
  simp only [IM f n]
  rfl
def Fa (p : lH) (c : lD) : List nx := p.mq.filter fun a => ob mO a.nj c
theorem SF (p : lH) (hp : PB p) (c : lD) : AP p c = some (Fa p c) := by
 have := hp.xX
 unfold AP qH Fa
 rw [nX (by simp; omega) (by simp; omega)]
 simp only [aA, bK, pz]
 have : pd p.mq (fun x => uV x c) = EW (fun x => uV x c) Ry p.mq := by
  unfold pd EW rc
  simp only [FK, IM]
 rw [this, yt _ (fun a => !ob mO a.nj c) Ry _ (by omega) (fun a _ => by unfold uV rZ; rw [pz, F5]; rfl)]
 simp only [fV]
noncomputable def vH : Formula × Int → List Formula → Formula × Int
 | t, [] => t
 | t, g :: l => if t.2 = 0 then vH (Bk ⟨2, 0, tY, [t.1, g]⟩) l else t
theorem Oj : ∀ (l : List Formula) (e o k : Int) (r : lC) (a : List Formula), (∀ g ∈ l, mW g ≤ 10000000) → mW ⟨o, k, r, a⟩ ≤ 64 →
  wm l e o k r a = some ((vH (⟨o, k, r, a⟩, e) l).2, (vH (⟨o, k, r, a⟩, e) l).1.Op, (vH (⟨o, k, r, a⟩, e) l).1.K, (vH (⟨o, k, r, a⟩, e) l).1.lC, (vH (⟨o, k, r, a⟩, e) l).1.Kids)
 | [], e, o, k, r, a, _, _ => by rw [wm, vH]
 | g :: l, e, o, k, r, a, h, s => by
  rw [wm, vH]
  by_cases c : e = 0
  ·have b : (e != 0) = false := by simp [c]
   simp only [b, aB, aN, c, aU]
   rw [Uk _ g (by omega) (h g (by simp)), aA]
   have i := Ev (f := ⟨2, 0, tY, [⟨o, k, r, a⟩, g]⟩)
   generalize Bk ⟨2, 0, tY, [⟨o, k, r, a⟩, g]⟩ = q at *
   obtain ⟨⟨m, k', n, d⟩, e'⟩ := q
   exact Oj l e' m k' n d (fun z j => h z (by simp [j])) i
  ·have b : (e != 0) = true := by simp [c]
   simp only [b, aU, c, aN]
noncomputable def HA (g : Formula) (l : List Formula) : Formula × Int := if (vH (Bk g) l).2 = 0 then vH (Bk g) l else (Ke, (vH (Bk g) l).2)
theorem Uc (g : Formula) (l : List Formula) (n : mW g ≤ 10000000) (i : ∀ x ∈ l, mW x ≤ 10000000) : yS (g :: l) = some (HA g l) := by
 unfold yS HA
 have d : nG (g :: l) 0 = some g := oU [] g l 0 rfl
 have a : rU (decide (0 ≤ 1) && decide ((1 : Int) ≤ ((g :: l).length : Int))) = some () := by
  rw [aO]
  have : (1 : Int) ≤ ((l.length + 1 : Nat) : Int) := by omega
  simp [rU]; omega
 have j := Ev (f := g)
 rw [d, aA, Oq g (by unfold Gd; omega), aA, a, aA]
 generalize Bk g = q at *
 obtain ⟨⟨o, k, r, b⟩, e⟩ := q
 have h : (g :: l).drop (Int.toNat 1) = l := rfl
 rw [h, Oj l e o k r b i j, aA]
 generalize vH (⟨o, k, r, b⟩, e) l = t
 obtain ⟨⟨s, k', u, m⟩, e'⟩ := t
 by_cases c : e' = 0
 ·subst c; rfl
 ·have a : (e' != 0) = true := by simp [c]
  simp only [a, aU, c, aN]; rfl
noncomputable def qg (p : lH) (c : lD) : Formula × Int := match wg p c with | none => (Ke, 42) | some x => HA x.lM ((Fa p c).map (·.lM))
theorem Rq : ∀ (l : List nx) (acc : List Formula), acc.length + l.length ≤ 3000000 → xa l acc = yS (acc ++ l.map (·.lM))
 | [], acc, _ => by
  rw [xa, iu, bT]
  cases yS acc <;> rfl
 | a :: l, acc, h => by
  rw [aO] at h
  rw [xa, nX (by simp; omega) (by simp; omega), aA, Rq l _ (by simp; omega)]
  simp
theorem D2 {p : lH} {c : lD} {x : mI} (h : wg p c = some x) : x ∈ p.lZ ∧ x.Signed.lD = c := by
 unfold wg at h
 have h1 := gL h
 have a := jP h
 exact ⟨h1, ou.1 a⟩
theorem D6 (p : lH) (hp : PB p) (c : lD) : yz p c = some (qg p c) := by
 unfold yz qg
 obtain ⟨z, e⟩ := UA p c
 rw [e, aA]
 cases h : wg p c with
 | none => rfl
 | some x =>
  simp only [bY, aB, aN]
  have d := D2 h
  have i : (Fa p c).length ≤ p.mq.length := cQ _ _
  have := hp.xX
  rw [SF p hp c, aA, Rq _ _ (by simp; omega)]
  exact Uc x.lM _ (hp.rel x d.1) (fun g b => by
   obtain ⟨a, ha, rfl⟩ := bJ.1 b
   exact hp.Hj a (bU.1 ha).1)
theorem GP (p : lH) (c : lD) : mW (qg p c).1 ≤ 64 := by
 have a : mW Ke ≤ 64 := by rw [Ke, mW, nodesL]; omega
 have b : ∀ (l : List Formula) (t : Formula × Int), mW t.1 ≤ 64 → mW (vH t l).1 ≤ 64 := by
  intro l
  induction l with
  | nil => intro t h; exact h
  | cons g l ih =>
   intro t h
   rw [vH]
   split
   ·exact ih _ Ev
   ·exact h
 unfold qg
 split
 ·exact a
 ·unfold HA
  split
  ·exact b _ _ Ev
  ·exact a
def vF (F : List mc) (peer : ByteArray) (r : lC) : Bool := ob Dy F ⟨r, peer⟩
noncomputable def ME (p : lH) (v : lC → Bool) (x : mI) : Bool := decide ((qg p x.Signed.lD).2 = 0) && xM v (qg p x.Signed.lD).1
theorem HS (p : lH) (hp : PB p) (v : lC → Bool) (m) (a : ∀ r, vG r m.1 m.2.1 m.2.2.1 m.2.2.2.1 m.2.2.2.2.1 m.2.2.2.2.2.1 m.2.2.2.2.2.2 = some (v r)) : ∀ (l : List mI) (acc : List lD), acc.length + l.length ≤ 1000000000 →
  tR p m l acc = pj (acc ++ (l.filter (ME p v)).map (·.Signed.lD))
 | [], acc, _ => by
  rw [tR, List.filter_nil, iu, bT, pz]
 | x :: l, acc, h => by
  rw [aO] at h
  have b := GP p x.Signed.lD
  rw [tR, D6 p hp, aA, Lg v _ a _ (by unfold Gd; omega), dN]
  unfold ME
  by_cases c : (qg p x.Signed.lD).2 = 0
  ·simp only [c, bH, aU, cC, eU, aA]
   cases d : xM v (qg p x.Signed.lD).1
   ·simp only [aB, aN]
    exact HS p hp v m a l acc (by omega)
   ·simp only [aU]
    rw [nX (by simp; omega) (by simp; omega), aA, HS p hp v m a l _ (by simp; omega)]
    simp only [bM, aR, cJ, bK]
    rfl
  ·have e : ((qg p x.Signed.lD).2 == 0) = false := by simpa using c
   simp only [e, aB, aN, c, cI, jv, aA]
   exact HS p hp v m a l acc (by omega)
theorem LX : ∀ (l m A : List lD), l.length = m.length → ∃ b, sw (A ++ m) l A.length = some b ∧ (b = true ↔ l = m)
 | [], m, A, c => by
  obtain rfl := aW c.symm
  exact ⟨true, rfl, by simp⟩
 | x :: l, [], A, c => by simp at c
 | x :: l, y :: m, A, c => by
  have i1 : nG (A ++ y :: m) (A.length : Int) = some y := oU _ _ _ _ rfl
  rw [sw, i1, aA]
  cases d : mO x y with
  | false =>
   refine ⟨false, rfl, ?_⟩
   have : x ≠ y := fun a => by have := ou.2 a; rw [this] at d; cases d
   simp [this]
  | true =>
   have a := ou.1 d
   obtain ⟨b, g, j⟩ := LX l m (A ++ [y]) (by simpa using c)
   simp only [bY, aB, aN]
   have h : A ++ y :: m = (A ++ [y]) ++ m := by simp
   have i : A.length + 1 = (A ++ [y]).length := by simp
   rw [h, i, g]
   exact ⟨b, rfl, by rw [j]; simp [a]⟩
theorem Rt (l m : List lD) : ∃ b, rj l m = some b ∧ (b = true ↔ l = m) := by
 unfold rj
 by_cases h : l.length = m.length
 ·have : ((l.length : Int) != (m.length : Int)) = false := by simp [h]
  simp only [this, aB, aN]
  exact LX l m [] h
 ·have : ((l.length : Int) != (m.length : Int)) = true := by simp; omega
  simp only [this, aU]
  exact ⟨false, rfl, by simp; intro hk; rw [hk] at h; exact h rfl⟩
theorem Lp (l : List lD) (g : l.length ≤ 1000000000) : ∃ b, xY l = some b ∧ (b = true ↔ vp l l) := by
 obtain ⟨s, e, h⟩ := FR l g
 obtain ⟨b, c, d⟩ := Rt s l
 unfold xY
 rw [e, aA, c]
 refine ⟨b, rfl, d.trans ⟨fun a => ?_, fun a => sk.unique zf h a⟩⟩
 rw [a] at h; exact h
def Vv (l : List mI) : Prop := (∀ x ∈ l, x.Signed.Tag.length = 8 ∧ pD x.lM = true) ∧ vp (l.map (·.Signed.lD)) (l.map (·.Signed.lD))
theorem LL : ∀ (l : List mI) (acc : List lD), acc.length + l.length ≤ 1000000000 → (∀ x ∈ l, mW x.lM ≤ 10000000) →
  ∃ b, uD l acc = some b ∧ (b = true ↔ (∀ x ∈ l, x.Signed.Tag.length = 8 ∧ pD x.lM = true) ∧ vp (acc ++ l.map (·.Signed.lD)) (acc ++ l.map (·.Signed.lD)))
 | [], acc, h, _ => by
  obtain ⟨b, e, c⟩ := Lp acc (by omega)
  rw [uD, e]
  exact ⟨b, rfl, by simpa using c⟩
 | x :: l, acc, h, d => by
  rw [aO] at h
  have i := d x (by simp)
  rw [uD, Ch _ (by omega)]
  simp only [aA]
  by_cases c1 : x.Signed.Tag.length = 8
  ·have a : ((x.Signed.Tag.length : Int) != 8) = false := by simp [c1]
   simp only [a, aB, aN, aA]
   cases c2 : pD x.lM
   ·refine ⟨false, rfl, ?_⟩
    constructor
    ·intro h; cases h
    ·rintro ⟨h1, _⟩
     have := (h1 x (by simp)).2
     rw [c2] at this; cases this
   ·simp only [bY, aB, aN]
    obtain ⟨b, e, c⟩ := LL l (acc ++ [x.Signed.lD]) (by simp; omega) (fun z g => d z (by simp [g]))
    rw [nX (by simp; omega) (by simp; omega), aA, e]
    refine ⟨b, rfl, c.trans ?_⟩
    simp only [aR, cJ, bK, bM, cE]
    simp only [c1, c2, true_and]
  ·have a : ((x.Signed.Tag.length : Int) != 8) = true := by simp; omega
   simp only [a, aU, aA]
   refine ⟨false, rfl, ?_⟩
   constructor
   ·intro h; cases h
   ·rintro ⟨h1, _⟩
    exact absurd (h1 x (by simp)).1 c1
def HF : Option lC → List nx → Prop
 | _, [] => True
 | q, a :: l => (∀ z, q = some z → BN z a.lC = true) ∧ HF (some a.lC) l
def WN (l : List nx) : Prop := (∀ a ∈ l, nP a.lC = true ∧ pD a.lM = true ∧ vp a.nj a.nj) ∧ HF none l
theorem TM (A : List nx) (a : nx) (l : List nx) (k : A.length + 1 + l.length ≤ 1000000000) : ∃ b, (((if (decide ((A.length : Int) > 0)) then ((nG (A ++ a :: l) (IntKind.i64.wrap ((A.length : Int) - 1))).bind fun i => ((pQ i.lC a.lC).bind fun d => some (decide (d ≥ 0)))) else some false) : Option Bool).bind fun g => some g) = some b ∧ (b = false ↔ ∀ z, A.getLast?.map (·.lC) = some z → BN z a.lC = true) := by
 rw [pz]
 rcases eB A with rfl | ⟨B, y, rfl⟩
 ·exact ⟨false, rfl, by simp⟩
 ·have h1 : ((B ++ [y]).length : Int) > 0 := by simp
  simp only [fI] at *
  simp only [h1, cC, aU]
  have hw : IntKind.i64.wrap (((B ++ [y]).length : Int) - 1) = (B.length : Int) := by rw [ni (by simp) (by simp at *; omega)]; simp
  rw [hw, aR]
  rw [show B ++ ([y] ++ a :: l) = B ++ y :: (a :: l) from rfl, oU B y (a :: l) _ rfl, aA]
  obtain ⟨c, e, h⟩ := xQ y.lC a.lC
  rw [e, aA]
  refine ⟨_, rfl, ?_⟩
  simp only [List.getLast?_append, List.getLast?_singleton, Option.some_or, eO, iH]
  rw [decide_eq_false_iff_not]
  constructor
  ·rintro j z rfl; exact h.1 (by omega)
  ·intro j; have := h.2 (j _ rfl); omega
theorem NS (all : List nx) : ∀ (l A : List nx), all = A ++ l → all.length ≤ 1000000000 → (∀ a ∈ l, mW a.lM ≤ 10000000 ∧ a.nj.length ≤ 2000000) →
  ∃ b, vL all l A.length = some b ∧ (b = true ↔ (∀ a ∈ l, nP a.lC = true ∧ pD a.lM = true ∧ vp a.nj a.nj) ∧ HF (A.getLast?.map (·.lC)) l)
 | [], A, _, _, _ => ⟨true, by rw [vL], by simp [HF]⟩
 | a :: l, A, c, g, k => by
  have ha := k a (by simp)
  have hlen : A.length + 1 + l.length ≤ 1000000000 := by rw [c] at g; simp at g; omega
  obtain ⟨m, d, j⟩ := TM A a l hlen
  rw [← c] at d
  obtain ⟨n, o, h1⟩ := Lp a.nj (by omega)
  rw [vL, xo, Ch _ (by omega), o]
  simp only [aA] at d ⊢
  rw [d]
  rw [HF]
  simp only [cE]
  cases c1 : nP a.lC
  ·exact ⟨false, by simp, by simp⟩
  ·cases c2 : pD a.lM
   ·exact ⟨false, by simp, by simp⟩
   ·cases n with
    | false =>
     refine ⟨false, by simp, ?_⟩
     have : ¬ vp a.nj a.nj := fun h => by have := h1.2 h; cases this
     simp [this]
    | true =>
     have s := h1.1 rfl
     cases m with
     | true =>
      refine ⟨false, by simp, ?_⟩
      constructor
      ·intro h; cases h
      ·rintro ⟨_, h, _⟩
       have := j.2 h; cases this
     | false =>
      have i := j.1 rfl
      obtain ⟨b, e, r⟩ := NS all l (A ++ [a]) (by simp [c]) g (fun z i => k z (by simp [i]))
      rw [aD, List.length_singleton] at e
      refine ⟨b, by simpa using e, r.trans ?_⟩
      simp only [List.getLast?_append, List.getLast?_singleton, Option.some_or, eO, s, true_and]
      exact ⟨fun ⟨p, q⟩ => ⟨p, i, q⟩, fun ⟨p, _, q⟩ => ⟨p, q⟩⟩
def J1 (p : lH) : Bool := decide (256 < p.lZ.length) || decide (8 < p.mq.length) || p.mq.any fun a => decide (32 < a.nj.length)
theorem TW (p : lH) : BC p = some (J1 p) := by
 unfold BC J1
 rw [Px _ (fun a => decide (32 < a.nj.length)) _ (fun a _ => by unfold zg; congr 1; rw [bX, bR, bR]; omega)]
 by_cases c1 : 256 < p.lZ.length
 ·have : ((p.lZ.length : Int) > 256) := by omega
  simp [c1, this]
 ·have : ¬ ((p.lZ.length : Int) > 256) := by omega
  by_cases c2 : 8 < p.mq.length
  ·have : ((p.mq.length : Int) > 8) := by omega
   simp [c1, c2, *]
  ·have : ¬ ((p.mq.length : Int) > 8) := by omega
   simp [c1, c2, *]
theorem QN (p : lH) (hp : PB p) : zP p = some (p.lZ.all fun x => decide ((qg p x.Signed.lD).2 = 0)) := by
 unfold zP
 rw [PU _ (fun x => !decide ((qg p x.Signed.lD).2 = 0)) _ (fun x _ => by
  unfold xP
  rw [D6 p hp, aA]
  rfl), aA, List.all_eq_not_any_not]
structure Cy (p : lH) : Prop where
 name : pg p.Name = true
 SV : J1 p = false
 wR : Vv p.lZ
 xX : WN p.mq
 guards : ∀ x ∈ p.lZ, (qg p x.Signed.lD).2 = 0
theorem LQ (p : lH) (hp : PB p) : ∃ e, yK p = some e ∧ (e = 0 ↔ Cy p) := by
 have q := hp.wR
 have n := hp.xX
 obtain ⟨g, l, h1⟩ := LL p.lZ [] (by simp; omega) hp.rel
 obtain ⟨i, m, k⟩ := NS p.mq p.mq [] rfl (by omega) (fun a ha => ⟨hp.Hj a ha, hp.Jy a ha⟩)
 have b : CX p = some g := l
 have c : DE p.mq = some i := m
 unfold yK
 rw [vJ, aA, TW, b, c, QN p hp]
 simp only [aA]
 cases c1 : pg p.Name
 ·exact ⟨30, rfl, by simp; intro h; have := h.name; rw [c1] at this; cases this⟩
 ·cases c2 : J1 p
  ·cases g with
   | false => exact ⟨11, rfl, by simp; intro h; have := h1.2 h.wR; cases this⟩
   | true =>
    cases i with
    | false => exact ⟨11, rfl, by simp; intro h; have := k.2 h.xX; cases this⟩
    | true =>
     cases j : p.lZ.all fun x => decide ((qg p x.Signed.lD).2 = 0)
     ·refine ⟨11, rfl, iff_of_false (by decide) (fun h => ?_)⟩
      obtain ⟨x, d, o⟩ := List.all_eq_false.1 j
      simp [h.guards x d] at o
     ·exact ⟨0, rfl, by simp; exact ⟨c1, c2, h1.1 rfl, k.1 rfl, fun x d => by simpa using gE.1 j x d⟩⟩
  ·exact ⟨12, rfl, by simp; intro h; have := h.SV; rw [c2] at this; cases this⟩
structure PG (p : lH) : Prop extends PB p where
 XB : ∀ x ∈ p.lZ, AR x.Signed.lD ≤ 1000000000
 XV : ∀ a ∈ p.mq, ∀ c ∈ a.nj, AR c ≤ 1000000000
def gA : lC := ⟨⟨#[97]⟩, ⟨#[114]⟩⟩
def gB : lC := ⟨⟨#[98]⟩, ⟨#[115]⟩⟩
def gX : lC := ⟨⟨#[120]⟩, ⟨#[121]⟩⟩
def XA : Formula := ⟨1, 0, gA, []⟩
def XJ : Formula := ⟨1, 0, gB, []⟩
def gc : lD := ⟨1, gX, ⟨#[109, 101]⟩, ⟨zS, zS⟩, ⟨zS, zS⟩, zS⟩
def gx : mI := ⟨⟨gc, List.replicate 8 0⟩, XJ⟩
def gk : nx := ⟨gX, XA, [gc]⟩
def gp : lH := ⟨⟨#[109, 101]⟩, [gx], [gk]⟩
def Pw : ByteArray := ⟨#[121, 111, 117]⟩
def gm (r : lC) : lD := ⟨1, r, Pw, ⟨zS, zS⟩, ⟨zS, zS⟩, zS⟩
theorem Vi {f : Formula} (h : f.Op = 1) : vq f = f := by rw [EF, aZ h]
theorem gv {l : List lD} {F : List mc} (h : Sd l F) (d : ∀ c ∈ l, c.Kind = 1) (r : lC) : vF F Pw r = true ↔ ∃ c ∈ l, nD c = true ∧ c.Head = r ∧ c.mX = Pw := by
 unfold vF
 rw [rl yQ, (h.zx (l.filter nD) (fun c => by rw [bU])).2]
 constructor
 ·intro g
  generalize j : (⟨r, Pw⟩ : mc) = f at g
  cases g with
  | mem c a hk =>
   rw [bU] at a
   injection j with h1 i
   exact ⟨c, a.1, a.2, h1.symm, i.symm⟩
  | inc c w a hk _ => rw [d c (bU.1 a).1] at hk; exact absurd hk (by decide)
  | Il c b w a hk _ _ => rw [d c (bU.1 a).1] at hk; exact absurd hk (by decide)
  | both c w a hk _ _ => rw [d c (bU.1 a).1] at hk; exact absurd hk (by decide)
 ·rintro ⟨c, a, k, rfl, hw⟩
  rw [← hw]
  exact .mem c (bU.2 ⟨a, k⟩) (d c a)
noncomputable def vD (l : List lD) (peer : ByteArray) (r : lC) : Bool := @decide (rf (l.filter nD) ⟨r, peer⟩) (Classical.propDecidable _)
theorem J0 (l : List lD) (peer : ByteArray) (r : lC) : vD l peer r = true ↔ rf (l.filter nD) ⟨r, peer⟩ := by unfold vD; simp
theorem Wt (l : List lD) (h : l.length ≤ 1000000) (peer : ByteArray) : ∃ m, By l peer = some m ∧ ∀ r, vG r m.1 m.2.1 m.2.2.1 m.2.2.2.1 m.2.2.2.2.1 m.2.2.2.2.2.1 m.2.2.2.2.2.2 = some (vD l peer r) := by
 obtain ⟨C, T, i, ws, n, e, m, d, _⟩ := PA l h
 unfold By
 rw [e, aA]
 refine ⟨_, rfl, fun r => ?_⟩
 unfold vG
 rw [pz]
 obtain ⟨b, a, g⟩ := QP m C i ws [] n r peer
 rw [a]
 congr 1
 rw [bX, g, J0]
 exact rf.congr (fun c => by rw [d, bU]) _
noncomputable def Af (p : lH) (v : lC → Bool) (c : lD) : Bool := decide ((qg p c).2 = 0) && xM v (qg p c).1
def rk (s : List lD) : Prop := s.Pairwise (fun a b => DS a b = true) ∧ ∀ c ∈ s, nD c = true
theorem rk.nodup {s : List lD} (h : rk s) : s.Nodup := xI zf h.2 h.1
theorem rk.le {s t : List lD} (h : rk s) (a : ∀ c ∈ s, c ∈ t) : s.length ≤ t.length := om h.nodup a
theorem rk.ext {s t : List lD} (h : rk s) (k : rk t) (b : ∀ c, c ∈ s ↔ c ∈ t) : s = t :=
 sk.unique zf (l := t) ⟨h.1, fun x => ⟨fun a => ⟨(b x).1 a, h.2 x a⟩, fun a => (b x).2 a.1⟩⟩ ⟨k.1, fun x => ⟨fun a => ⟨a, k.2 x a⟩, fun a => a.1⟩⟩
theorem rk.eq {s t : List lD} (h : rk s) (k : rk t) (b : ∀ c ∈ s, c ∈ t) (i : t.length ≤ s.length) : s = t := by
 refine h.ext k fun c => ⟨b c, fun d => ?_⟩
 refine gM fun g => ?_
 have := om (l := c :: s) (m := t) (dT.2 ⟨g, h.nodup⟩) (fun x a => by
  rcases aS.1 a with rfl | a
  ·exact d
  ·exact b x a)
 simp at this; omega
theorem rk.nil : rk [] := ⟨by simp, by simp⟩
theorem rk.filter {s : List lD} (h : rk s) (p : lD → Bool) : rk (s.filter p) := ⟨h.1.filter _, fun c a => h.2 c (bU.1 a).1⟩
def wz (p : lH) (c : lD) : Prop := ∃ x ∈ p.lZ, x.Signed.lD = c
def Ay (p : lH) (l : List lD) (peer : ByteArray) (c : lD) : Prop := wz p c ∧ nD c = true ∧ Af p (vD l peer) c = true
theorem OM {p : lH} {s : List lD} (h : rk s) (b : ∀ c ∈ s, wz p c) : s.length ≤ p.lZ.length := by
 have := h.le (t := p.lZ.map (·.Signed.lD)) (fun c a => by obtain ⟨x, d, e⟩ := b c a; exact bJ.2 ⟨x, d, e⟩)
 simpa using this
theorem Mx (p : lH) (hp : PB p) (l : List lD) (n : l.length ≤ 1000000) (peer : ByteArray) : ∃ s, sC p l peer = some s ∧ rk s ∧ (∀ c, c ∈ s ↔ Ay p l peer c) ∧ s.length ≤ p.lZ.length := by
 obtain ⟨m, e, o⟩ := Wt l n peer
 have := hp.wR
 unfold sC
 rw [e, aA, HS p hp _ m o p.lZ [] (by simp; omega), bK]
 have h1 : (p.lZ.filter (ME p (vD l peer))).length ≤ p.lZ.length := cQ _ _
 obtain ⟨s, j, a⟩ := FR ((p.lZ.filter (ME p (vD l peer))).map (·.Signed.lD)) (by simp; omega)
 have i : rk s := ⟨a.1, fun c d => ((a.2 c).1 d).2⟩
 have hm : ∀ c, c ∈ s ↔ Ay p l peer c := fun c => by
  rw [a.2, bJ]
  constructor
  ·rintro ⟨⟨x, h, rfl⟩, g⟩
   obtain ⟨k, b⟩ := bU.1 h
   exact ⟨⟨x, k, rfl⟩, g, b⟩
  ·rintro ⟨⟨x, h, rfl⟩, g, b⟩
   exact ⟨⟨x, bU.2 ⟨h, b⟩, rfl⟩, g⟩
 exact ⟨s, j, i, hm, OM i (fun c d => ((hm c).1 d).1)⟩
def Pn (l : List mI) (d : lD) : Option Formula := (l.find? fun x => mO x.Signed.lD d).map (·.lM)
theorem Rc (n : ByteArray) (l : List mI) (k : List nx) (c : lD) : wz ⟨n, l, k⟩ c ↔ c ∈ l.map (·.Signed.lD) := by
 unfold wz; rw [bJ]
theorem Hq (n : ByteArray) (l : List mI) (c : lD) : qg ⟨n, l, []⟩ c = match Pn l c with | none => (Ke, 42) | some r => HA r [] := by
 unfold qg wg Pn Fa
 simp only
 cases l.find? (fun x => mO x.Signed.lD c) <;> rfl
def sY : lC := ⟨⟨#[120]⟩, ⟨#[121]⟩⟩
def sZ : lC := ⟨⟨#[120]⟩, ⟨#[122]⟩⟩
def yo (r : lC) : Formula := ⟨1, 0, r, []⟩
def Jo (c : lD) (f : Formula) : mI := ⟨⟨c, List.replicate 8 0⟩, f⟩
theorem KN (v : lC → Bool) (r : lC) : uo v (yo r) = v r := by rw [AA]; rfl
theorem Ky {r : lC} (h : pD (yo r) = true) : HA (yo r) [] = (yo r, 0) := by
 have a : Bk (yo r) = (yo r, 0) := by unfold Bk; rw [h, Vi rfl, h]; rfl
 unfold HA
 rw [a, vH]; rfl
theorem KP (c d : lD) (f : Formula) : Pn [Jo c f] d = if mO c d then some f else none := by
 unfold Pn
 rw [fG, show (Jo c f).Signed.lD = c from rfl]
 cases mO c d <;> rfl
theorem Rs {n : ByteArray} {c d : lD} {f : Formula} : wz ⟨n, [Jo c f], []⟩ d ↔ d = c := by
 rw [Rc]; show d ∈ [c] ↔ _; simp
theorem Q7 {n : ByteArray} {c : lD} {r : lC} (a : pD (yo r) = true) (b : nD c = true) (l : List lD) (peer : ByteArray) (d : lD) : Ay ⟨n, [Jo c (yo r)], []⟩ l peer d ↔ d = c ∧ vD l peer r = true := by
 unfold Ay
 rw [Rs]
 constructor
 ·rintro ⟨rfl, _, h⟩
  refine ⟨rfl, ?_⟩
  unfold Af at h
  rw [Hq, KP, aZ (ou.2 rfl)] at h
  simp only [Ky a] at h
  unfold xM at h
  rw [a, KN, eU] at h
  exact h
 ·rintro ⟨rfl, h⟩
  refine ⟨rfl, b, ?_⟩
  unfold Af
  rw [Hq, KP, aZ (ou.2 rfl)]
  simp only [Ky a]
  unfold xM
  rw [a, KN, eU]
  exact h
theorem VD {c : lD} (a : nD c = true) (hk : c.Kind = 1) {l : List lD} (h : c ∈ l) : vD l c.mX c.Head = true := by
 rw [J0]
 exact .mem c (bU.2 ⟨h, a⟩) hk
theorem UQ (peer : ByteArray) (r : lC) : vD [] peer r = false := by
 rw [← gF, J0]
 intro h
 obtain ⟨c, a, _⟩ := h.head
 cases a
theorem U4 {n : ByteArray} {c : lD} {f : Formula} (h : mW f ≤ 10000000) : PB ⟨n, [Jo c f], []⟩ where
 wR := by simp
 xX := by simp
 rel := fun x a => by obtain rfl := bP.1 a; exact h
 Hj := fun x a => by cases a
 Jy := fun x a => by cases a
theorem HX {c : lD} (a : nD c = true) : rk [c] := ⟨by simp, fun x b => by obtain rfl := bP.1 b; exact a⟩
theorem Ri {s : List lD} {c : lD} (d : rk s) (h1 : ∀ x ∈ s, x = c) (a : c ∈ s) (b : nD c = true) : s = [c] :=
 d.ext (HX b) (fun x => by
  rw [bP]
  exact ⟨h1 x, fun e => by rw [e]; exact a⟩)
theorem Nk : pD (yo sZ) = true := by decide +kernel
theorem VP : ∀ (n : Nat) (f : Formula), qE f ≤ n → Gd f → ui n f = some (mW f : Int) := by
 intro n
 induction n with
 | zero => intro f h; rw [pp] at h; omega
 | succ n ih =>
  intro f d g
  rw [pp] at d
  have b := qG f
  unfold Gd at g
  rw [ui]
  unfold zB
  have key : ∀ (a : List Formula) (x : Nat), (∀ k ∈ a, k ∈ f.Kids) → x + nodesL a ≤ 50000000 → uO (ui n) a (x : Int) = some ((x + nodesL a : Nat) : Int) := by
   intro a
   induction a with
   | nil => intro x _ _; rw [uO, nodesL]; rfl
   | cons k a c =>
    intro x hk i
    rw [nodesL] at i
    rw [uO, ih k (by have := vN (hk k (by simp)); omega) (by have := xk (hk k (by simp)); unfold Gd; omega), aA]
    have w : IntKind.i64.wrap ((x : Int) + (mW k : Int)) = ((x + mW k : Nat) : Int) := by rw [ni (by omega) (by omega)]; omega
    rw [w, c _ (fun z j => hk z (by simp [j])) (by omega), nodesL]
    congr 2; omega
  have := key f.Kids 1 (fun k hk => hk) (by omega)
  rw [b]
  exact this
theorem WO : ∀ (n : Nat) (f : Formula), qE f ≤ n → Gd f → vl n f = some (qE f : Int) := by
 intro n
 induction n with
 | zero => intro f h; rw [pp] at h; omega
 | succ n ih =>
  intro f d g
  rw [pp] at d ⊢
  have i := qG f
  have hle := Ab f
  rw [pp] at hle
  unfold Gd at g
  rw [vl]
  unfold Ar
  have key : ∀ (a : List Formula) (x : Nat), (∀ k ∈ a, k ∈ f.Kids) → max x (deepL a) ≤ 50000000 → vw (vl n) a (x : Int) = some ((max x (deepL a) + 1 : Nat) : Int) := by
   intro a
   induction a with
   | nil =>
    intro x _ b
    rw [deepL] at b
    rw [vw, deepL, ni (by omega) (by omega)]
    congr 1; omega
   | cons k a c =>
    intro x hk b
    rw [deepL] at b
    rw [vw, ih k (by have := vN (hk k (by simp)); omega) (by have := xk (hk k (by simp)); unfold Gd; omega), aA]
    have w : (if (qE k : Int) > (x : Int) then (qE k : Int) else (x : Int)) = ((max x (qE k) : Nat) : Int) := by split <;> omega
    rw [w, c _ (fun z j => hk z (by simp [j])) (by omega), deepL]
    congr 2; omega
  have := key f.Kids 0 (fun k hk => hk) (by omega)
  rw [Nat.zero_max] at this
  exact this
theorem V8 : ∀ (n : Nat) (f : Formula), qE f ≤ n → vr n f = some (xO f) := by
 intro n
 induction n with
 | zero => intro f h; rw [pp] at h; omega
 | succ n ih =>
  intro f h
  rw [pp] at h
  have key : ∀ i : List Formula, (∀ k ∈ i, k ∈ f.Kids) → vI (vr n) i = some (wellL i) := by
   intro i
   induction i with
   | nil => intro _; rw [vI, wellL]
   | cons k i o =>
    intro hk
    rw [vI, ih k (by have := vN (hk k (by simp)); omega), aA, o (fun z r => hk z (by simp [r])), wellL]
    cases xO k <;> rfl
  have hk := key f.Kids (fun k hk => hk)
  rw [vr]
  unfold Am
  rw [hk, I7, DW]
  unfold Ge
  simp only [aA]
  by_cases c1 : f.Op = 1
  ·simp only [c1, bH, aU]
   cases s : nP f.lC
   ·simp
   ·by_cases b : f.Kids.length = 0
    ·have e : f.Kids = [] := aW b
     by_cases m : f.K = 0 <;> simp [e, m, wellL]
    ·have : ((f.Kids.length : Int) == 0) = false := by rw [jV]; omega
     simp [this, b]
  ·have q : (f.Op == 1) = false := by simpa using c1
   simp only [q, aB, aN, c1]
   by_cases g : f.Op = 2 ∨ f.Op = 3
   ·have j : ¬ f.Op < 1 := by omega
    have a2 : ¬ f.Op > 4 := by omega
    have a3 : f.Op < 4 := by omega
    have a4 : (f.Op == 4) = false := by rw [jV]; omega
    simp only [j, a2, a3, a4, g, cI, cC, aB, aN, aU, aA]
    cases d : me f.lC ⟨zS, zS⟩
    ·simp [tY, d]
    ·by_cases b : f.Kids.length ≤ 8
     ·have c : ¬ ((f.Kids.length : Int) > 8) := by omega
      by_cases m : f.K = 0 <;> simp [tY, d, b, c, m]
     ·have c : ((f.Kids.length : Int) > 8) := by omega
      simp [tY, d, b, c]
   ·by_cases l : f.Op = 4
    ·have j : ¬ f.Op < 1 := by omega
     have a2 : ¬ f.Op > 4 := by omega
     have a3 : ¬ f.Op < 4 := by omega
     simp only [j, a2, a3, g, cI, aB, aN, aA]
     simp only [l, bH, aU, cC, eU]
     cases d : me f.lC ⟨zS, zS⟩
     ·simp [tY, d]
     ·by_cases b : f.Kids.length ≤ 8
      ·have c : ¬ ((f.Kids.length : Int) > 8) := by omega
       by_cases d1 : 1 ≤ f.Kids.length
       ·have g1 : ¬ ((f.Kids.length : Int) < 1) := by omega
        by_cases d2 : 0 ≤ f.K
        ·have g2 : ¬ f.K < 0 := by omega
         by_cases d3 : f.K ≤ (f.Kids.length : Int)
         ·have g3 : ¬ f.K > (f.Kids.length : Int) := by omega
          simp [tY, d, b, c, d1, g1, d2, g2, d3, g3]
         ·have g3 : f.K > (f.Kids.length : Int) := by omega
          simp [tY, d, b, c, d1, g1, d2, g2, d3, g3]
        ·have g2 : f.K < 0 := by omega
         simp [tY, d, b, c, d1, g1, d2, g2]
       ·have g1 : ((f.Kids.length : Int) < 1) := by omega
        simp [tY, d, b, c, d1, g1]
      ·have c : ((f.Kids.length : Int) > 8) := by omega
       simp [tY, d, b, c]
    ·have a : f.Op < 1 ∨ f.Op > 4 := by omega
     rcases a with a | a
     ·simp [a, g, l]
     ·have : ¬ f.Op < 1 := by omega
      simp [a, this, g, l]
theorem V1 (f : Formula) (h : Gd f) : AJ f = some (pD f) := by
 have b := Ab f
 have a := h
 unfold Gd at a
 unfold AJ pD
 rw [VP mR f (by rw [pa]; omega) h, WO mR f (by rw [pa]; omega) h, V8 mR f (by rw [pa]; omega)]
 simp only [aA]
 by_cases c1 : mW f ≤ 64
 ·have d1 : ((mW f : Int) ≤ 64) := by omega
  by_cases c2 : qE f ≤ 6
  ·have d2 : ((qE f : Int) ≤ 6) := by omega
   simp [c1, c2, d1, d2]
  ·have d2 : ¬ ((qE f : Int) ≤ 6) := by omega
   simp [c1, c2, d1, d2]
 ·have d1 : ¬ ((mW f : Int) ≤ 64) := by omega
  simp [c1, d1]
theorem Xo (l : List lC) (r : lC) : Cp l r = some (ob me l r) := by
 unfold Cp
 induction l with
 | nil => rfl
 | cons x l ih =>
  rw [zT, ih]
  have e : ob me (x :: l) r = (me r x || ob me l r) := rfl
  have a : me x r = me r x := by rw [bX, mn, mn]; exact eq_comm
  rw [e, a]
  cases me r x <;> rfl
theorem IY (l : List lC) (rec : Formula → List lC → Option Bool) (f : Formula) (v : lC → Bool) : ∀ (a : List Formula) (x : Nat), (∀ k ∈ a, rec k l = some (uo v k)) → x + a.length ≤ 100000000 →
  ub rec l f a (x : Int) = some (if f.Op = 2 then decide (x + evN v a = f.Kids.length) else if f.Op = 3 then decide (0 < x + evN v a) else decide (f.K ≤ ((x + evN v a : Nat) : Int)))
 | [], x, _, _ => by
  rw [ub, evN, jX]
  by_cases c2 : f.Op = 2
  ·simp only [c2, bH, aU]
   congr 1
   rw [bX, kh, bR]; omega
  ·have c : (f.Op == 2) = false := by simpa using c2
   simp only [c, aB, aN, c2]
   by_cases b : f.Op = 3
   ·simp only [b, bH, aU]
    congr 1
    rw [bX, bR, bR]; omega
   ·have g : (f.Op == 3) = false := by simpa using b
    simp only [g, aB, aN, b]
    first | done | rfl
 | k :: a, x, h, i => by
  rw [aO] at i
  rw [ub, h k (by simp), aA, evN]
  cases uo v k
  ·simp only [aB, aN]
   rw [IY l rec f v a x (fun z d => h z (by simp [d])) (by omega), gQ]
  ·simp only [aU]
   have e : IntKind.i64.wrap ((x : Int) + 1) = ((x + 1 : Nat) : Int) := by rw [ni (by omega) (by omega)]; omega
   rw [e, IY l rec f v a (x + 1) (fun z d => h z (by simp [d])) (by omega)]
   have c : x + 1 + evN v a = x + (1 + evN v a) := by omega
   rw [c]
theorem Wp (l : List lC) : ∀ (n : Nat) (f : Formula), qE f ≤ n → Gd f → vn n f l = some (uo (ob me l) f) := by
 intro n
 induction n with
 | zero => intro f h; rw [pp] at h; omega
 | succ n ih =>
  intro f b c
  rw [pp] at b
  have d := qG f
  have g := yg f.Kids
  unfold Gd at c
  rw [vn]
  unfold Aq
  rw [AA, Xo]
  by_cases c1 : f.Op = 1
  ·simp only [c1, bH, aU, aA]
  ·have a : (f.Op == 1) = false := by simpa using c1
   simp only [a, aB, aN, c1]
   have := IY l (vn n) f (ob me l) f.Kids 0 (fun k hk => ih k (by have := vN hk; omega) (by have := xk hk; unfold Gd; omega)) (by omega)
   simpa using this
theorem RR (F : List mc) (w : ByteArray) : ob me (JR F w) = vF F w := by
 funext r
 unfold vF JR
 rw [bX, rl mn, rl yQ, bJ]
 constructor
 ·rintro ⟨f, b, rfl⟩
  obtain ⟨h1, a⟩ := bU.1 b
  have := nU.1 a
  rw [← this]; exact h1
 ·intro h
  exact ⟨⟨r, w⟩, bU.2 ⟨h, nU.2 rfl⟩, rfl⟩
theorem Pe {l : List lD} {F : List mc} (h : Sd l F) (peer : ByteArray) : vF F peer = vD l peer := by
 funext r
 rw [bX, J0]
 unfold vF
 rw [rl yQ, (h.zx (l.filter nD) (fun c => by rw [bU])).2]
mutual
def De : Formula → Nat
 | ⟨_, _, r, ks⟩ => 1 + r.lK.size + r.lN.size + szFL ks
def szFL : List Formula → Nat
 | [] => 0
 | k :: ks => De k + szFL ks
end
theorem Nx (f : Formula) : De f = 1 + f.lC.lK.size + f.lC.lN.size + szFL f.Kids := by cases f; rw [De]
theorem Hv : ∀ f : Formula, mW f ≤ De f := by
 refine MN fun f ih => ?_
 have : ∀ a : List Formula, (∀ k ∈ a, mW k ≤ De k) → nodesL a ≤ szFL a := by
  intro a
  induction a with
  | nil => intro _; rw [nodesL]; omega
  | cons k a b =>
   intro h
   have := b (fun x c => h x (by simp [c]))
   have := h k (by simp)
   rw [nodesL, szFL]; omega
 have := this f.Kids ih
 rw [qG, Nx]; omega
def xW : List lD → Nat
 | [] => 0
 | c :: l => 20 + AR c + xW l
theorem g5 : ∀ (l : List lD) (n : Int), 0 ≤ n → n + (xW l : Int) ≤ 4000000000000000000 → uF l n = some (n + (xW l : Int))
 | [], n, _, _ => by rw [uF, xW]; simp
 | c :: l, n, b, a => by
  have e : AR c = c.Head.lK.size + c.Head.lN.size + c.mX.size + c.B.lK.size + c.B.lN.size + c.C.lK.size + c.C.lN.size + c.mQ.size := rfl
  rw [xW] at a
  rw [uF]
  rw [ni (x := 20 + (c.Head.lK.size : Int)) (by omega) (by omega), ni (x := 20 + (c.Head.lK.size : Int) + (c.Head.lN.size : Int)) (by omega) (by omega), ni (x := 20 + (c.Head.lK.size : Int) + (c.Head.lN.size : Int) + (c.mX.size : Int)) (by omega) (by omega), ni (x := 20 + (c.Head.lK.size : Int) + (c.Head.lN.size : Int) + (c.mX.size : Int) + (c.B.lK.size : Int)) (by omega) (by omega), ni (x := 20 + (c.Head.lK.size : Int) + (c.Head.lN.size : Int) + (c.mX.size : Int) + (c.B.lK.size : Int) + (c.B.lN.size : Int)) (by omega) (by omega), ni (x := 20 + (c.Head.lK.size : Int) + (c.Head.lN.size : Int) + (c.mX.size : Int) + (c.B.lK.size : Int) + (c.B.lN.size : Int) + (c.C.lK.size : Int)) (by omega) (by omega), ni (x := 20 + (c.Head.lK.size : Int) + (c.Head.lN.size : Int) + (c.mX.size : Int) + (c.B.lK.size : Int) + (c.B.lN.size : Int) + (c.C.lK.size : Int) + (c.C.lN.size : Int)) (by omega) (by omega), ni (x := 20 + (c.Head.lK.size : Int) + (c.Head.lN.size : Int) + (c.mX.size : Int) + (c.B.lK.size : Int) + (c.B.lN.size : Int) + (c.C.lK.size : Int) + (c.C.lN.size : Int) + (c.mQ.size : Int)) (by omega) (by omega), ni (by omega) (by omega)]
  rw [g5 l _ (by omega) (by omega), xW]
  congr 1; omega
theorem XY : ∀ (n : Nat) (l : List Formula), deepL l < n → szFL l ≤ 1000000000000 → ∃ r : Int, rT n l = some r ∧ 0 ≤ r ∧ r ≤ (szFL l : Int) := by
 intro n
 induction n with
 | zero => intro l h; omega
 | succ n ih =>
  intro l h c
  rw [rT]
  unfold zr
  have key : ∀ (l : List Formula) (x : Int), deepL l < n + 1 → 0 ≤ x → x + (szFL l : Int) ≤ 1000000000000 → ∃ r : Int, uM (rT n) l x = some r ∧ 0 ≤ r ∧ r ≤ x + (szFL l : Int) := by
   intro l
   induction l with
   | nil => intro x _ g _; exact ⟨x, by rw [uM], g, by rw [szFL]; simp⟩
   | cons k l b =>
    intro x h g c
    rw [deepL] at h
    rw [szFL] at c
    have hk := Nx k
    have := pp k
    obtain ⟨r, e, h1, i⟩ := ih k.Kids (by omega) (by omega)
    rw [uM, e, aA]
    have o : 0 ≤ Int.tdiv ((k.lC.lK.size : Int) + (k.lC.lN.size : Int)) 16 ∧ Int.tdiv ((k.lC.lK.size : Int) + (k.lC.lN.size : Int)) 16 ≤ (k.lC.lK.size : Int) + (k.lC.lN.size : Int) := by
     rw [Int.tdiv_eq_ediv_of_nonneg (by omega)]
     omega
    rw [ni (x := (k.lC.lK.size : Int) + (k.lC.lN.size : Int)) (by omega) (by omega)]
    generalize Int.tdiv ((k.lC.lK.size : Int) + (k.lC.lN.size : Int)) 16 = d at *
    rw [ni (x := d) (by omega) (by omega), ni (x := 1 + d) (by omega) (by omega), ni (x := 1 + d + r) (by omega) (by omega), ni (x := x + (1 + d + r)) (by omega) (by omega)]
    obtain ⟨m, e', a, j⟩ := b (x + (1 + d + r)) (by omega) (by omega) (by omega)
    exact ⟨m, e', a, by rw [szFL]; omega⟩
  obtain ⟨r, e, h1, i⟩ := key l 0 h (by omega) (by omega)
  exact ⟨r, e, h1, by omega⟩
theorem OC (f : Formula) (h : De f ≤ 50000000) : ∃ r : Int, rT mR [f] = some r ∧ 0 ≤ r ∧ r ≤ (De f : Int) := by
 have h1 := Hv f
 have c := Ab f
 obtain ⟨r, e, a, b⟩ := XY mR [f] (by rw [deepL, deepL, pa]; omega) (by rw [szFL, szFL]; omega)
 refine ⟨r, e, a, ?_⟩
 rw [szFL, szFL] at b; omega
theorem g6 (s : Signed) (h : AR s.lD + s.Tag.length ≤ 1000000000) : AW [] [s] = some (20 + (AR s.lD : Int) + (s.Tag.length : Int)) := by
 unfold AW
 rw [yw, wG]
 have := g5 [s.lD] 0 (by omega) (by rw [xW, xW]; omega)
 rw [show sP [s.lD] = _ from this, aA, wG, xW, xW]
 rw [ni (x := 0 + ((20 + AR s.lD + 0 : Nat) : Int) + (s.Tag.length : Int)) (by omega) (by omega), ni (by omega) (by omega)]
 simp only [aA]
 congr 1; omega
def EP : List mI → Nat
 | [] => 0
 | x :: l => 20 + AR x.Signed.lD + x.Signed.Tag.length + 20 * De x.lM + EP l
def DH : List nx → Nat
 | [] => 0
 | a :: l => a.lC.lK.size + a.lC.lN.size + 20 * De a.lM + xW a.nj + DH l
def M3 (p : lH) : Nat := p.Name.size + EP p.lZ + DH p.mq
theorem RJ : ∀ (l : List nx) (x : Int), 0 ≤ x → x + (DH l : Int) ≤ 1000000000 → ∃ r : Int, uP l x = some r ∧ x ≤ r ∧ r ≤ x + (DH l : Int)
 | [], x, _, _ => ⟨x, by rw [uP], by omega, by rw [DH]; omega⟩
 | a :: l, x, g, h => by
  rw [DH] at h
  obtain ⟨r, e, h1, i⟩ := OC a.lM (by omega)
  have b := g5 a.nj 0 (by omega) (by omega)
  rw [uP, e, aA, show sP a.nj = _ from b, aA]
  rw [ni (x := (a.lC.lK.size : Int) + (a.lC.lN.size : Int)) (by omega) (by omega), ni (x := 20 * r) (by omega) (by omega), ni (x := (a.lC.lK.size : Int) + (a.lC.lN.size : Int) + 20 * r) (by omega) (by omega), ni (x := (a.lC.lK.size : Int) + (a.lC.lN.size : Int) + 20 * r + (0 + (xW a.nj : Int))) (by omega) (by omega), ni (by omega) (by omega)]
  obtain ⟨c, e', d, a2⟩ := RJ l (x + ((a.lC.lK.size : Int) + (a.lC.lN.size : Int) + 20 * r + (0 + (xW a.nj : Int)))) (by omega) (by omega)
  exact ⟨c, e', by omega, by rw [DH]; omega⟩
theorem XN (p : lH) (d : M3 p ≤ 1000000000) : ∃ r : Int, AV p = some r ∧ 20 * (p.lZ.length : Int) ≤ r ∧ r ≤ (M3 p : Int) := by
 unfold M3 at d
 have key : ∀ (l : List mI) (x : Int), 0 ≤ x → x + (EP l : Int) + (DH p.mq : Int) ≤ 1000000000 → ∃ r : Int, uG p l x = some r ∧ x + 20 * (l.length : Int) ≤ r ∧ r ≤ x + (EP l : Int) + (DH p.mq : Int) := by
  intro l
  induction l with
  | nil =>
   intro x c h
   rw [EP] at h
   obtain ⟨r, e, a, b⟩ := RJ p.mq x c (by omega)
   exact ⟨r, by rw [uG, e]; rfl, by simp; omega, by rw [EP]; omega⟩
  | cons y l ih =>
   intro x c h
   rw [EP] at h
   obtain ⟨r, e, h1, i⟩ := OC y.lM (by omega)
   rw [uG, g6 y.Signed (by omega)]
   simp only [aA]
   rw [e, aA]
   rw [ni (x := 20 * r) (by omega) (by omega), ni (x := 20 + (AR y.Signed.lD : Int) + (y.Signed.Tag.length : Int) + 20 * r) (by omega) (by omega), ni (by omega) (by omega)]
   obtain ⟨g, e', a, b⟩ := ih (x + (20 + (AR y.Signed.lD : Int) + (y.Signed.Tag.length : Int) + 20 * r)) (by omega) (by omega)
   exact ⟨g, e', by rw [aO]; omega, by rw [EP]; omega⟩
 obtain ⟨r, e, a, b⟩ := key p.lZ (p.Name.size : Int) (by omega) (by omega)
 unfold AV
 exact ⟨r, e, by omega, by unfold M3; omega⟩
noncomputable def XF (p : NE) : Bool := (Kf p.lK p.Client p.Formula).getD false
def UP (l : List mI) (i : Int) : Prop := 0 ≤ i ∧ i < l.length
instance (l : List mI) (i : Int) : Decidable (UP l i) := by unfold UP; infer_instance
def Vh (l : List mI) (i : Int) : List mI := if UP l i then l.eraseIdx i.toNat else l
def Ts (p : NE) (e i : Int) : NE :=
 if e = 0 then ⟨⟨p.lK.Name, Vh p.lK.lZ i, p.lK.mq⟩, p.Client, p.Formula, p.xU, p.TB, p.OW, p.Tp, p.QC, p.Keys⟩
 else if e = 1 then ⟨p.lK, ⟨p.Client.Name, Vh p.Client.lZ i, p.Client.mq⟩, p.Formula, p.xU, p.TB, p.OW, p.Tp, p.QC, p.Keys⟩
 else p
noncomputable def shr (e : Int) : Nat → NE → NE
 | 0, p => p
 | k + 1, p => shr e k (if XF (Ts p e k) then Ts p e k else p)
def Sz : Signed := ⟨⟨0, ⟨zS, zS⟩, zS, ⟨zS, zS⟩, ⟨zS, zS⟩, zS⟩, []⟩
theorem Ih (c : lD) : ∀ l : List mI, wx c l = some (match l.find? (fun x => mO x.Signed.lD c) with | some x => (x.Signed, true) | none => (Sz, false))
 | [] => by rw [wx]; rfl
 | x :: l => by
  rw [wx, fG, Ih c l]
  cases mO x.Signed.lD c <;> rfl
theorem Jc (p : lH) (c : lD) : AE p c = some (match wg p c with | some x => (x.Signed, true) | none => (Sz, false)) := Ih c p.lZ
theorem Bm {p : lH} {c : lD} (h : wz p c) : ∃ x, wg p c = some x ∧ x ∈ p.lZ ∧ x.Signed.lD = c := by
 obtain ⟨y, a, rfl⟩ := h
 unfold wg
 cases e : p.lZ.find? (fun x => mO x.Signed.lD y.Signed.lD) with
 | none => exact absurd (ou.2 rfl) (by simpa using gI.1 e y a)
 | some x => exact ⟨x, rfl, gL e, ou.1 (by simpa using jP e)⟩
theorem P8 {p : lH} {c : lD} (h : ¬ wz p c) : wg p c = none := by
 unfold wg
 rw [gI]
 intro x a e
 exact h ⟨x, a, ou.1 e⟩
theorem Hc (s : ng) (hp : PB s.lH) (h : s.lV.length ≤ 30000) (c : lD) : BB s c = some (Af s.lH (vD s.lV s.mU) c) := by
 obtain ⟨F, b⟩ := Tc s.lV h
 obtain ⟨m, d, _, g⟩ := b.Xb
 have i := Pe b s.mU
 have j := GP s.lH c
 unfold BB
 rw [D6 _ hp, aA]
 unfold Af
 by_cases a : (qg s.lH c).2 = 0
 ·simp only [a, bH, aU, cC, eU]
  unfold CG
  rw [d, aA, aA]
  rw [Lg (vD s.lV s.mU) _ (fun r => by unfold vt; rw [pz, g, ← i]; rfl) _ (by unfold Gd; omega)]
  rfl
 ·have : ((qg s.lH c).2 == 0) = false := by simpa using a
  simp only [this, aB, aN, a, cI, jv]
  rfl
theorem R7 (s : ng) {fr : List lD} (e : sC s.lH s.lV s.mU = some fr) (a : fr.length ≤ 1000000000) : AH s = some (fr.filter fun c => !ob mO s.Shown c) := by
 unfold AH
 rw [e, aA, pz, F4, yt _ (fun c => ob mO s.Shown c) zC fr (by omega) (fun c _ => by unfold zV rZ; rw [pz, F5]; rfl)]
theorem Wk (l : List lD) (h : l.length ≤ 1000000000) : ((rU (decide (0 ≤ (if 8 < (l.length : Int) then 8 else (l.length : Int))) && decide ((if 8 < (l.length : Int) then 8 else (l.length : Int)) ≤ (l.length : Int)))).bind fun _ => some (l.take (Int.toNat (if 8 < (l.length : Int) then 8 else (l.length : Int))))) = some (l.take 8) := by
 by_cases c : 8 < (l.length : Int)
 ·rw [aZ c, Bi (by omega) (by omega), aA]; rfl
 ·rw [aY c, Bi (by omega) (by omega), aA, show Int.toNat (l.length : Int) = l.length by omega, lc, cZ (by omega)]
def Jr (s : ng) (sh : List lD) : ng := ⟨s.lH, s.mU, s.Room, s.lV, sh, s.ml, s.ms⟩
def MC (p : lH) (c : lD) : Signed := match wg p c with | some x => x.Signed | none => Sz
def Gj (p : lH) (l : List lD) : List Signed := l.map (MC p)
theorem EA {l : List lD} (h : rk l) (d : l.length ≤ 1000000000) : pj l = some l := by
 obtain ⟨s, e, a⟩ := FR l d
 rw [e]
 have : s = l := rk.ext ⟨a.1, fun c b => ((a.2 c).1 b).2⟩ h (fun c => by rw [a.2]; exact ⟨fun x => x.1, fun x => ⟨x, h.2 c x⟩⟩)
 rw [this]
theorem rk.take {s : List lD} (h : rk s) (n : Nat) : rk (s.take n) := ⟨h.1.sublist (List.take_sublist n s), fun c a => h.2 c (iP a)⟩
theorem JP (s : ng) (hp : PB s.lH) (ha : s.lV.length ≤ 30000) : ∀ l : List lD, (∀ c ∈ l, Af s.lH (vD s.lV s.mU) c = true) → uf s l = some (Sum.inr ())
 | [], _ => by rw [uf]
 | c :: l, h => by
  rw [uf, Hc s hp ha, aA, h c (by simp)]
  simp only [bY, aB, aN]
  exact JP s hp ha l (fun x a => h x (by simp [a]))
theorem JS (s : ng) (hp : PB s.lH) (ha : s.lV.length ≤ 30000) (m : List lD) (hm : ∀ c ∈ m, Af s.lH (vD s.lV s.mU) c = true) : ∀ l : List lD, (∀ c ∈ l, wz s.lH c) → uh s m l = some 0
 | [], _ => by rw [uh, JP s hp ha m hm]; rfl
 | c :: l, h => by
  obtain ⟨x, e, _⟩ := Bm (h c (by simp))
  rw [uh, Jc, aA, e]
  simp only [bY, aB, aN]
  exact JS s hp ha m hm l (fun x a => h x (by simp [a]))
theorem Kl (s : ng) (m t : List lD) (e : tO [s.Shown, m] = some (s.Shown ++ m)) (a : pj (s.Shown ++ m) = some t) (d : ∀ x ∈ s.lH.lZ, x.Signed.Tag.length ≤ 1000) : ∀ (l : List lD) (acc : List Signed), (∀ c ∈ l, wz s.lH c) → acc.length + l.length ≤ 100000 →
  sr s m l acc = some (acc ++ Gj s.lH l, 0, Jr s t)
 | [], acc, _, _ => by
  rw [sr, e, aA, a]
  simp [Gj, Jr]
 | c :: l, acc, h, g => by
  rw [aO] at g
  obtain ⟨x, b, i, k⟩ := Bm (h c (by simp))
  have h1 := d x i
  rw [sr, Jc, aA, b, aA]
  simp only
  unfold wT
  rw [nX (by simp; omega) (by simp; omega)]
  simp only [aA, bK]
  rw [nX (by simp; omega) (by simp; omega), aA]
  have := Kl s m t e a d l (acc ++ [x.Signed]) (fun y j => h y (by simp [j])) (by simp; omega)
  rw [show ([⟨x.Signed.lD, x.Signed.Tag⟩] : List Signed) = [x.Signed] from rfl, this]
  unfold Gj
  rw [bM, show MC s.lH c = x.Signed by unfold MC; rw [b]]
  simp
theorem JZ (s : ng) (hp : PB s.lH) (ha : s.lV.length ≤ 30000) (d : ∀ x ∈ s.lH.lZ, x.Signed.Tag.length ≤ 1000) (l : List lD) (j : l.length ≤ 8) (g : rk l) (a : ∀ c ∈ l, wz s.lH c) (hm : ∀ c ∈ l, Af s.lH (vD s.lV s.mU) c = true) (h : s.Shown.length ≤ 100000) :
  ∃ t, vp (s.Shown ++ l) t ∧ yx s l = some (Gj s.lH l, 0, Jr s t) := by
 obtain ⟨t, b, i⟩ := FR (s.Shown ++ l) (by simp; omega)
 refine ⟨t, i, ?_⟩
 have e := QF s.Shown l (by omega)
 unfold yx B0
 have : ¬ ((l.length : Int) > 8) := by omega
 simp only [this, cI, aB, aN]
 rw [JS s hp ha l hm l a, aA]
 simp only [jx, aB, aN]
 rw [EA g (by omega), aA, Kl s l t e b d l [] a (by simp; omega)]
 rfl
theorem U8 (x : Signed) : wB x x = some true := by
 unfold wB CZ
 rw [aZ (ou.2 rfl), show np (CM x.Tag) (CM x.Tag) = true from nU.2 rfl]
 rfl
theorem OJ (f : Signed × Signed → Option Bool) (a : ∀ x, f (x, x) = some true) : ∀ (l A : List Signed), nr (A ++ l) f l A.length = some true
 | [], A => by rw [nr]
 | x :: l, A => by
  rw [nr, oU A x l _ rfl, aA, a x, aA]
  simp only [bY, aB, aN]
  have := OJ f a l (A ++ [x])
  rw [aD, aR] at this
  exact this
theorem Xk (l : List Signed) (f : Signed × Signed → Option Bool) (a : ∀ x, f (x, x) = some true) : oh l l f = some true := by
 unfold oh
 rw [aY (by simp)]
 exact OJ f a l []
theorem Up (m : DR) : Dv m m = some true := by
 unfold Dv
 have h1 : np m.Name m.Name = true := nU.2 rfl
 simp only [bH, aU, aA, h1]
 rw [JU, Xk _ _ (fun x => U8 x)]
 simp
theorem DN : pG [] = some [] := by
 obtain ⟨s, e, h⟩ := EZ [] (by simp)
 rw [e]
 cases s with
 | nil => rfl
 | cons x l => exact absurd ((h.2 x).1 (by simp)).1 (by simp)
structure Qp (s : ng) : Prop where
 J2 : Cy s.lH
 peer : pg s.mU = true
 WK : 0 ≤ s.Room
 room : s.Room ≤ 256
 acc : rk s.lV
 sh : rk s.Shown
 Bd : qe s.ml s.ml
 ask : qe s.ms s.ms
 held : ∀ c ∈ s.Shown, wz s.lH c
theorem Rf (l : List lD) (j : l.length ≤ 1000000000) : ∃ b, ((pj l).bind fun r => rj r l) = some b ∧ (b = true ↔ rk l) := by
 obtain ⟨s, e, h⟩ := FR l j
 obtain ⟨b, g, i⟩ := Rt s l
 refine ⟨b, by rw [e, aA, g], i.trans ⟨fun a => ?_, fun a => ?_⟩⟩
 ·subst a; exact ⟨h.1, fun c d => ((h.2 c).1 d).2⟩
 ·exact rk.ext ⟨h.1, fun c d => ((h.2 c).1 d).2⟩ a (fun c => by rw [h.2]; exact ⟨fun x => x.1, fun x => ⟨x, a.2 c x⟩⟩)
theorem Qg (l : List lC) (a : l.length ≤ 1000000000) : ∃ b, ((pG l).bind fun r => ri r l) = some b ∧ (b = true ↔ qe l l) := by
 obtain ⟨s, e, h⟩ := EZ l a
 refine ⟨decide (s = l), by rw [e, aA, JU], ?_⟩
 rw [bR]
 constructor
 ·rintro rfl; exact h
 ·intro c; exact sk.unique (Co _) h c
theorem bb {α β γ : Type} (x : Option α) (f : α → Option β) (g : β → Option γ) : (x.bind fun a => (f a).bind g) = (x.bind f).bind g := by cases x <;> rfl
theorem Wu (s : ng) (h1 : s.lV.length ≤ 1000000000) (l : s.Shown.length ≤ 1000000000) (m : s.ml.length ≤ 1000000000) (n : s.ms.length ≤ 1000000000) :
  ∃ b, Ct s = some b ∧ (b = true ↔ rk s.lV ∧ rk s.Shown ∧ qe s.ml s.ml ∧ qe s.ms s.ms) := by
 obtain ⟨a, h, o⟩ := Rf s.lV h1
 obtain ⟨c, i, k2⟩ := Rf s.Shown l
 obtain ⟨d, j, q⟩ := Qg s.ml m
 obtain ⟨g, k, r⟩ := Qg s.ms n
 refine ⟨a && (c && (d && g)), ?_, by simp only [bE, o, k2, q, r]⟩
 unfold Ct
 rw [bb, h, aA]
 simp only [bb, pz, i, j, k]
 cases a <;> cases c <;> cases d <;> cases g <;> rfl
theorem Ps (f : lD → Option Bool) (p : lD → Bool) (l : List lD) (h : ∀ x ∈ l, f x = some (p x)) : sQ l f = some (l.any p) := by
 unfold sQ sb
 rw [Li]; exact Jb f p l h
theorem QJ (s : ng) (hp : PB s.lH) (h1 : s.lV.length ≤ 1000000000) (l : s.Shown.length ≤ 1000000000) (m : s.ml.length ≤ 1000000000) (n : s.ms.length ≤ 1000000000) :
  ∃ b, BE s = some b ∧ (b = true ↔ Qp s) := by
 obtain ⟨e, i, g⟩ := LQ s.lH hp
 obtain ⟨b, j, k2⟩ := Wu s h1 l m n
 have k := Ps (fun x => xC x s.lH.Name s.lH.lZ s.lH.mq s.mU s.Room s.lV s.Shown s.ml s.ms) (fun c => (wg s.lH c).isNone) s.Shown (fun c _ => by
  unfold xC
  rw [show (⟨s.lH.Name, s.lH.lZ, s.lH.mq⟩ : lH) = s.lH from rfl, Jc, aA]
  cases wg s.lH c <;> rfl)
 have q : (s.Shown.any fun c => (wg s.lH c).isNone) = false ↔ ∀ c ∈ s.Shown, wz s.lH c := by
  rw [jw]
  refine forall_congr' fun c => forall_congr' fun w => ?_
  by_cases h : wz s.lH c
  ·obtain ⟨x, ex, _⟩ := Bm h
   simp [ex, h]
  ·simp [P8 h, h]
 unfold BE
 rw [i, aA]
 by_cases a : e = 0
 ·subst a
  have o := g.1 rfl
  simp only [jx, aB, aN]
  rw [vJ, aA]
  cases c1 : pg s.mU
  ·exact ⟨false, rfl, by simp; intro h; have := h.peer; rw [c1] at this; cases this⟩
  ·simp only [bY, aB, aN, aA]
   by_cases c2 : s.Room < 0
   ·simp only [c2, cC, aU, aA]
    exact ⟨false, rfl, by simp; intro h; have := h.WK; omega⟩
   ·simp only [c2, cI, aB, aN, aA]
    by_cases d : s.Room > 256
    ·simp only [d, cC, aU, aA]
     exact ⟨false, rfl, by simp; intro h; have := h.room; omega⟩
    ·simp only [d, cI, aB, aN, aA]
     rw [j, aA, aA]
     cases b with
     | false => exact ⟨false, rfl, by simp; intro h; have := k2.2 ⟨h.acc, h.sh, h.Bd, h.ask⟩; cases this⟩
     | true =>
      obtain ⟨r, t, u, v⟩ := k2.1 rfl
      simp only [bY, aB, aN]
      rw [k, aA]
      refine ⟨_, rfl, ?_⟩
      rw [gY, q]
      exact ⟨fun h => ⟨o, c1, by omega, by omega, r, t, u, v, h⟩, fun h => h.held⟩
 ·have : (e != 0) = true := by simpa using a
  simp only [this, aU, aA]
  exact ⟨false, rfl, by simp; intro h; exact a (g.2 h.J2)⟩
def VV : ByteArray := ⟨#[109, 101]⟩
def B5 : ByteArray := ⟨#[121, 111, 117]⟩
def eC : lD := ⟨1, sY, VV, ⟨zS, zS⟩, ⟨zS, zS⟩, zS⟩
theorem M9 : nD eC = true := by decide +kernel
theorem T5 {l : List lD} (h : rk l) : vp l l := ⟨h.1, fun c => ⟨fun a => ⟨a, h.2 c a⟩, fun a => a.1⟩⟩
def xS : List lC → Nat
 | [] => 0
 | r :: l => 5 + r.lK.size + r.lN.size + xS l
theorem QI : ∀ (l : List lC) (x : Int), 0 ≤ x → x + (xS l : Int) ≤ 4000000000000000000 → uS l x = some (x + (xS l : Int))
 | [], x, _, _ => by rw [uS, xS]; simp
 | r :: l, x, a, h => by
  rw [xS] at h
  rw [uS, ni (x := 5 + (r.lK.size : Int)) (by omega) (by omega), ni (x := 5 + (r.lK.size : Int) + (r.lN.size : Int)) (by omega) (by omega), ni (by omega) (by omega), QI l _ (by omega) (by omega), xS]
  congr 1; omega
theorem Qh (a b : List lC) : xS (a ++ b) = xS a + xS b := by
 induction a with
 | nil => simp [xS]
 | cons r a ih => rw [cJ, xS, xS, ih]; omega
theorem F6 : ∀ l : List lD, 20 * l.length ≤ xW l
 | [] => by simp
 | c :: l => by have := F6 l; rw [xW, aO]; omega
structure SQ (s : ng) : Prop where
 p : PG s.lH
 go : M3 s.lH ≤ 1000000000
 acc : xW s.lV ≤ 1000000000
 sh : xW s.Shown ≤ 1000000000
 wl : s.ml.length ≤ 10000000
 al : s.ms.length ≤ 10000000
 Bd : xS s.ml ≤ 1000000000
 ask : xS s.ms ≤ 1000000000
 peer : s.mU.size ≤ 1000000000
theorem XL (s : ng) (h : SQ s) : ∃ r : Int, AQ s = some r ∧ 20 * (s.lH.lZ.length : Int) ≤ r ∧ 20 * (s.lV.length : Int) ≤ r := by
 have h1 := h.go
 have j := h.acc
 have k := h.sh
 have l := h.wl
 have m := h.al
 have n := h.Bd
 have o := h.ask
 have q := h.peer
 obtain ⟨a, b, g, i⟩ := XN s.lH h1
 have c := g5 s.lV 0 (by omega) (by omega)
 have d := g5 s.Shown 0 (by omega) (by omega)
 have c1 := F6 s.lV
 have c2 := F6 s.Shown
 unfold AQ
 rw [b, aA, show sP s.lV = _ from c, aA, show sP s.Shown = _ from d, aA]
 rw [nX (by simp; omega) (by simp; omega), aA, bK, nX (by omega) (by omega), aA]
 rw [ni (x := a + (s.mU.size : Int)) (by omega) (by omega), ni (x := a + (s.mU.size : Int) + (0 + (xW s.lV : Int))) (by omega) (by omega), ni (by omega) (by omega)]
 rw [QI _ _ (by omega) (by rw [Qh]; omega)]
 exact ⟨_, rfl, by omega, by omega⟩
theorem V4 (f : nx → Option Bool) (p : nx → Bool) (l : List nx) (b : l.length ≤ 1000000000) (h : ∀ a ∈ l, f a = some (p a)) : pd l f = some (l.filter fun a => !p a) := by
 have : pd l f = EW f Ry l := by
  unfold pd EW rc
  simp only [FK, IM]
 rw [this, yt _ p Ry _ (by omega) h]
theorem Rw {l : List nx} (a : l.length ≤ 1000000) : qH l = some l := by
 unfold qH
 rw [nX (by simp; omega) (by simp; omega)]; rfl
def wQ (l : List nx) (c : lD) : List nx := l.filter fun a => ob mO a.nj c
theorem DB (l : List nx) (c : lD) (b : l.length ≤ 1000000) : vB l c = some (wQ l c) := by
 unfold vB wQ
 rw [Rw b, aA, pz, V4 _ (fun a => !ob mO a.nj c) l (by omega) (fun a _ => by unfold xD rZ; rw [pz, F5]; rfl)]
 simp only [fV]
noncomputable def sV (s : ng) : lC → Bool := vD s.lV s.mU
noncomputable def oO (s : ng) : List nx := s.lH.mq.filter fun a => !xM (sV s) a.lM
theorem Fk (s : ng) (hp : PB s.lH) (hk : s.lH.mq.length ≤ 1000000) (g : s.lV.length ≤ 30000) : xA s = some (oO s) := by
 obtain ⟨F, b⟩ := Tc s.lV g
 obtain ⟨m, c, _, d⟩ := b.Xb
 have h := Pe b s.mU
 unfold xA CG
 rw [c, aA, aA, Rw hk, aA, pz]
 rw [V4 _ (fun a => xM (sV s) a.lM) _ (by omega) (fun a ha => by
  unfold xB
  rw [pz, Lg (sV s) _ (fun r => by unfold vt; rw [pz, d]; unfold sV; rw [← h]; rfl) _ (by have := hp.Hj a ha; unfold Gd; omega)])]
 rfl
theorem FO (s : ng) : ∀ a ∈ oO s, a ∈ s.lH.mq := fun a h => (bU.1 h).1
def AU : List nx → List lD
 | [] => []
 | a :: l => a.nj ++ AU l
theorem Hl {n : Nat} : ∀ {l : List nx}, (∀ a ∈ l, a.nj.length ≤ n) → (AU l).length ≤ l.length * n
 | [], _ => by rw [AU]; simp
 | a :: l, h => by
  have h1 := h a (by simp)
  have d := Hl (l := l) (fun b c => h b (by simp [c]))
  rw [AU, aD, aO, Nat.succ_mul]; omega
def Bu (k : List nx) (l : List mI) : List lD := (l.filter fun x => (wQ k x.Signed.lD).isEmpty).map (·.Signed.lD)
theorem NC : ∀ (l : List nx) (acc : List lD), acc.length + (AU l).length ≤ 100000000 → uH l acc = some (acc ++ AU l)
 | [], acc, _ => by rw [uH, AU, bT]
 | a :: l, acc, h => by
  rw [AU, aD] at h
  rw [uH, nX (by omega) (by omega), aA, NC l _ (by rw [aD]; omega), AU, aR]
theorem IL (k : List nx) (hk : k.length ≤ 1000000) : ∀ (l : List mI) (acc : List lD), acc.length + l.length + (AU k).length ≤ 100000000 → te k l acc = pj (acc ++ Bu k l ++ AU k)
 | [], acc, h => by
  rw [te, NC _ _ (by simp at h; omega), aA, pz]
  rw [show Bu k [] = [] from rfl, bT]
 | x :: l, acc, h => by
  rw [aO] at h
  rw [te, DB k _ hk, aA]
  have e : Bu k (x :: l) = (if (wQ k x.Signed.lD).isEmpty then [x.Signed.lD] else []) ++ Bu k l := by
   unfold Bu
   rw [dN]
   split <;> rfl
  rw [e]
  cases c : wQ k x.Signed.lD with
  | nil =>
   simp only [bZ, List.isEmpty_nil, aU]
   rw [aZ (by rfl), nX (by simp; omega) (by simp; omega), aA, IL k hk l _ (by simp; omega)]
   simp
  | cons a b =>
   have : (((a :: b).length : Int) == 0) = false := by rw [jV, aO]; omega
   simp only [this, aB, aN, List.isEmpty_cons]
   rw [IL k hk l _ (by omega)]
   simp
structure Sm (p : lH) : Prop where
 wR : p.lZ.length ≤ 256
 xX : p.mq.length ≤ 8
 Jy : ∀ a ∈ p.mq, a.nj.length ≤ 32
 rel : ∀ a ∈ p.mq, mW a.lM ≤ 64
theorem Cy.sm {p : lH} (h : Cy p) : Sm p := by
 have h1 := h.SV
 unfold J1 at h1
 simp only [Bool.or_eq_false_iff, decide_eq_false_iff_not, jw, bR] at h1
 exact ⟨by omega, by omega, fun a ha => by have := h1.2 a ha; omega, fun a ha => (DX (h.xX.1 a ha).2.1).1⟩
noncomputable def Ey (s : ng) : List lD := Bu (oO s) s.lH.lZ ++ AU (oO s)
theorem Qy (s : ng) (h : Sm s.lH) : (Ey s).length ≤ 512 := by
 have h1 : (oO s).length ≤ s.lH.mq.length := cQ _ _
 have b := Hl (l := oO s) (fun a ha => h.Jy a (FO s a ha))
 have c : (Bu (oO s) s.lH.lZ).length ≤ s.lH.lZ.length := by unfold Bu; rw [dE]; exact cQ _ _
 have d := h.wR
 have g := h.xX
 unfold Ey
 rw [aD]; omega
theorem JJ (s : ng) (hp : PB s.lH) (b : Sm s.lH) (c : s.lV.length ≤ 30000) : vO s = pj (Ey s) := by
 have h1 : (oO s).length ≤ s.lH.mq.length := cQ _ _
 have d := Hl (l := oO s) (fun a ha => b.Jy a (FO s a ha))
 have g := b.wR
 have h := b.xX
 unfold vO
 rw [Fk s hp (by omega) c, aA, IL _ (by omega) _ _ (by simp; omega), bK]
 rfl
theorem JO (s : ng) (hp : PB s.lH) (i : Sm s.lH) (l : s.lV.length ≤ 30000) (hw : s.ml.length ≤ 1000000000) :
  ∃ o all ws b, vO s = some o ∧ vp (Ey s) o ∧ vp o all ∧ qe s.ml ws ∧ pq s = some b ∧ rk b ∧ b.length ≤ 512 ∧ ∀ c, c ∈ b ↔ xK all ws (.inr (.inr c)) := by
 have hlen := Qy s i
 obtain ⟨o, k, m⟩ := FR (Ey s) (by omega)
 have x := sG zf m
 obtain ⟨all, ws, T, W, R, ha, j, g, t, n⟩ := UN o s.ml (by omega) hw
 have u := sG zf ha
 obtain ⟨b, y, d⟩ := FR R (by have := g.lR; omega)
 have v := sG zf d
 have r := g.lR
 have a : ∀ c ∈ R, c ∈ all := g.sub
 have q := NZ ha (by omega) (tt T) (tt W) R a d
 refine ⟨o, all, ws, b, (JJ s hp i l).trans k, m, ha, j, ?_, ⟨d.1, fun c w => ((d.2 c).1 w).2⟩, by omega, fun c => ?_⟩
 ·unfold pq
  rw [JJ s hp i l, k, aA, n, aA]
  simp only
  rw [q]; rfl
 ·rw [d.2, ← g.WL t]
  exact ⟨fun h => h.1, fun h => ⟨h, ((ha.2 c).1 (a c h)).2⟩⟩
mutual
def Iz : Formula → List lC
 | ⟨o, k, r, ks⟩ => if o = 1 then [r] else Gv ks
def Gv : List Formula → List lC
 | [] => []
 | k :: ks => Iz k ++ Gv ks
end
theorem QT (f : Formula) : Iz f = if f.Op = 1 then [f.lC] else Gv f.Kids := by cases f; rw [Iz]
theorem Ov : ∀ f : Formula, (Iz f).length ≤ mW f := by
 refine MN fun f ih => ?_
 have key : ∀ a : List Formula, (∀ k ∈ a, (Iz k).length ≤ mW k) → (Gv a).length ≤ nodesL a := by
  intro a
  induction a with
  | nil => intro _; rw [Gv]; simp
  | cons k a b =>
   intro h
   have h1 := h k (by simp)
   have d := b (fun x c => h x (by simp [c]))
   rw [Gv, aD, nodesL]; omega
 have := key _ ih
 rw [QT, qG]
 split
 ·simp
 ·omega
theorem QZ (rec : Formula → Option (List lC)) : ∀ (a : List Formula) (acc : List lC), (∀ k ∈ a, rec k = some (Iz k)) → acc.length + (Gv a).length ≤ 100000000 → th rec a acc = some (acc ++ Gv a)
 | [], acc, _, _ => by rw [th, Gv, bT]
 | k :: a, acc, h, b => by
  rw [Gv, aD] at b
  rw [th, h k (by simp), aA, nX (by omega) (by omega), aA, QZ rec a _ (fun x c => h x (by simp [c])) (by rw [aD]; omega), Gv, aR]
theorem UH : ∀ (n : Nat) (f : Formula), qE f ≤ n → mW f ≤ 10000000 → tJ n f = some (Iz f) := by
 intro n
 induction n with
 | zero => intro f h; rw [pp] at h; omega
 | succ n ih =>
  intro f b d
  rw [pp] at b
  have c := qG f
  have hlen := Ov f
  rw [tJ]
  unfold yn
  rw [QT] at *
  by_cases c1 : f.Op = 1
  ·simp only [c1, bH, aU]
  ·have a : (f.Op == 1) = false := by simpa using c1
   simp only [a, aB, aN, c1] at *
   rw [QZ _ f.Kids [] (fun k hk => ih k (by have := vN hk; omega) (by have := xk hk; omega)) (by simp; omega), bK]
theorem IP (f : Formula) (h : mW f ≤ 10000000) : ∃ r, vE f = some r ∧ qe (Iz f) r ∧ r.length ≤ mW f := by
 have h1 := Ov f
 obtain ⟨r, e, a⟩ := EZ (Iz f) (by omega)
 have := sG (Co _) a
 refine ⟨r, ?_, a, by omega⟩
 unfold vE
 have := Ab f
 rw [UH mR f (by rw [pa]; omega) h, aA, e]; rfl
theorem LI (s : ng) (hp : PB s.lH) (ha : s.lV.length ≤ 30000) (k : List nx) (hk : k.length ≤ 1000000) (c : lD) : ∀ (l : List nx) (acc : List lC), (∀ a ∈ l, mW a.lM ≤ 64) → acc.length + l.length * 64 ≤ 10000 →
  ∃ r, oW k c s l acc = some r ∧ r.length ≤ 10064
 | [], acc, _, h => by
  have i := GP s.lH c
  obtain ⟨r, e, _, b⟩ := IP (qg s.lH c).1 (by omega)
  rw [oW, DB k c hk, aA, Hc s hp ha, D6 _ hp]
  simp only [aA, e]
  by_cases c1 : ((wQ k c).length : Int) > 0
  ·simp only [c1, cC, aU, aA]
   exact ⟨acc, rfl, by simp at h; omega⟩
  ·simp only [c1, cI, aB, aN, aA]
   cases Af s.lH (vD s.lV s.mU) c
   ·simp only [aB, aN]
    by_cases c2 : ((qg s.lH c).2 != 0) = true
    ·rw [aZ c2]; exact ⟨[], rfl, by simp⟩
    ·rw [aY c2]; exact ⟨r, rfl, by omega⟩
   ·simp only [aU]
    exact ⟨acc, rfl, by simp at h; omega⟩
 | a :: l, acc, b, h => by
  rw [aO] at h
  have h1 := b a (by simp)
  obtain ⟨r, e, _, g⟩ := IP a.lM (by omega)
  rw [oW, e, aA, nX (by omega) (by omega), aA]
  exact LI s hp ha k hk c l _ (fun x d => b x (by simp [d])) (by rw [aD]; omega)
theorem Ul (s : ng) (hp : PB s.lH) (b : Sm s.lH) (ha : s.lV.length ≤ 30000) (c : lD) : ∃ r, uL s (oO s) c = some r ∧ r.length ≤ 10064 := by
 have h1 : (oO s).length ≤ s.lH.mq.length := cQ _ _
 have d : (wQ (oO s) c).length ≤ (oO s).length := cQ _ _
 have g := b.xX
 unfold uL
 rw [DB _ c (by omega), aA]
 exact LI s hp ha _ (by omega) c _ [] (fun a h => b.rel a (FO s a (bU.1 h).1)) (by simp; omega)
theorem OH (s : ng) (hp : PB s.lH) (b : Sm s.lH) (ha : s.lV.length ≤ 30000) : ∀ (l : List lD) (acc : List lC), acc.length + l.length * 10064 ≤ 10000000 → ∃ q r, ol s (oO s) l acc = some r ∧ qe q r ∧ r.length ≤ 10000000
 | [], acc, h => by
  obtain ⟨r, e, a⟩ := EZ acc (by omega)
  have := sG (Co _) a
  exact ⟨acc, r, by rw [ol, e]; rfl, a, by omega⟩
 | c :: l, acc, h => by
  rw [aO] at h
  obtain ⟨r, e, a⟩ := Ul s hp b ha c
  rw [ol, e, aA, nX (by omega) (by omega), aA]
  exact OH s hp b ha l _ (by rw [aD]; omega)
theorem VM (s : ng) (hp : PB s.lH) (a : Sm s.lH) (ha : s.lV.length ≤ 30000) (hw : s.ml.length ≤ 1000000000) : ∃ q r, pP s = some r ∧ qe q r ∧ r.length ≤ 10000000 := by
 obtain ⟨o, all, ws, b, _, _, _, _, e, _, c, _⟩ := JO s hp a ha hw
 unfold pP
 rw [Fk s hp (by have := a.xX; omega) ha, aA, e, aA]
 exact OH s hp a ha b [] (by simp; omega)
theorem RH (n : Nat) (b : n ≤ 1000000000) : vh (n : Int) = some [] := by
 unfold vh
 rw [aY (by simp)]
 have a : IntKind.i64.wrap (0 - 0) = 0 := by decide
 rw [a, Int.sub_zero, ni (by omega) (by omega)]
 by_cases h : (n : Int) > 0
 ·rw [aZ (by simpa using h)]
  unfold Gp
  rw [aZ ⟨by omega, by omega, by unfold maxLen; omega⟩]
  simp [rU]
 ·rw [aY (by simpa using h)]; rfl
theorem FG (a b : List lC) (h : a.length + b.length ≤ 1000000000) : rY [a, b] = some (a ++ b) := by
 unfold rY
 rw [qM, ni (by omega) (by omega), aY (by simp), qM, ni (by omega) (by omega), aY (by simp; omega), qM]
 rw [show (0 : Int) + (a.length : Int) + (b.length : Int) = ((a.length + b.length : Nat) : Int) by omega, RH _ h]
 simp only [aA]
 rw [qJ, nX (by simp; omega) (by simp; omega)]
 simp only [aA, bK]
 rw [qJ, nX (by omega) (by omega)]
 simp only [aA]
 rw [qJ]
 rfl
theorem Oh (x : lC) : ∀ (l : List lC) (i : Nat), ∃ q : Int, sF x l i = some q ∧ (q ≥ 0 ↔ x ∈ l)
 | [], i => ⟨-1, rfl, by simp⟩
 | y :: l, i => by
  rw [sF]
  by_cases h : me x y = true
  ·rw [aZ h]; exact ⟨i, rfl, by rw [mn.1 h]; simp⟩
  ·rw [aY h]
   obtain ⟨q, e, a⟩ := Oh x l (i + 1)
   refine ⟨q, e, a.trans ?_⟩
   have : x ≠ y := fun e => h (mn.2 e)
   simp [this]
theorem OU (l : List lC) (x : lC) : Ds l x = some (ob me l x) := by
 obtain ⟨q, e, a⟩ := Oh x l 0
 unfold Ds xF yW
 rw [e, aA, aA]
 congr 1
 rw [bX, bR, a, rl mn]
theorem Rk (l : List lC) (h : l.length ≤ 1000000000) : ((rU (decide (0 ≤ (if 16 < (l.length : Int) then 16 else (l.length : Int))) && decide ((if 16 < (l.length : Int) then 16 else (l.length : Int)) ≤ (l.length : Int)))).bind fun _ => some (l.take (Int.toNat (if 16 < (l.length : Int) then 16 else (l.length : Int))))) = some (l.take 16) := by
 by_cases c : 16 < (l.length : Int)
 ·rw [aZ c, Bi (by omega) (by omega), aA]; rfl
 ·rw [aY c, Bi (by omega) (by omega), aA, show Int.toNat (l.length : Int) = l.length by omega, lc, cZ (by omega)]
theorem Lu {l : List lC} (h : qe l l) (a : l.length ≤ 1000000000) : pG l = some l := by
 obtain ⟨s, e, b⟩ := EZ l a
 rw [e, sk.unique (Co _) b h]
theorem qe.self {q l : List lC} (h : qe q l) : qe l l := ⟨h.1, fun x => ⟨fun a => ⟨a, ((h.2 x).1 a).2⟩, fun a => a.1⟩⟩
theorem qe.filter {l : List lC} (h : qe l l) (p : lC → Bool) : qe (l.filter p) (l.filter p) := ⟨h.1.filter _, fun x => ⟨fun a => ⟨a, ((h.2 x).1 (bU.1 a).1).2⟩, fun a => a.1⟩⟩
theorem qe.take {l : List lC} (h : qe l l) (n : Nat) : qe (l.take n) (l.take n) := ⟨h.1.sublist (List.take_sublist n l), fun x => ⟨fun a => ⟨a, ((h.2 x).1 (iP a)).2⟩, fun a => a.1⟩⟩
theorem WH (s : ng) (hp : PB s.lH) (h : Sm s.lH) (ha : s.lV.length ≤ 30000) (hw : s.ml.length ≤ 1000000000) (own : List lC) (g : own.length ≤ 1000) {nd : List lC} (b : pP s = some nd) (d : nd.length ≤ 10000000) :
  ∃ u, qe (nd ++ own) u ∧ qU s own = some ((u.filter fun r => !ob me s.ms r).take 16) := by
 obtain ⟨u, e, hu⟩ := EZ (nd ++ own) (by rw [aD]; omega)
 have a := sG (Co _) hu
 rw [aD] at a
 have c : (u.filter fun r => !ob me s.ms r).length ≤ u.length := cQ _ _
 refine ⟨u, hu, ?_⟩
 unfold qU
 rw [b, aA, FG _ _ (by omega), aA, e, aA, Jg, yt _ (fun r => ob me s.ms r) zR u (by omega) (fun r _ => by unfold wE; rw [pz, OU]), aA, Rk _ (by omega)]
theorem Hz (s : ng) {fr b : List lD} (e : sC s.lH s.lV s.mU = some fr) (g : fr.length ≤ 1000000) (a : pq s = some b) :
  qZ s = some (((fr.filter fun c => !ob mO s.Shown c).filter fun c => ob mO b c).take 8) := by
 have h1 : (fr.filter fun c => !ob mO s.Shown c).length ≤ fr.length := cQ _ _
 have d : ((fr.filter fun c => !ob mO s.Shown c).filter fun c => ob mO b c).length ≤ (fr.filter fun c => !ob mO s.Shown c).length := cQ _ _
 unfold qZ
 rw [a, aA, R7 s e (by omega), aA, F4, yt _ (fun c => !ob mO b c) zC _ (by omega) (fun c _ => by unfold xR rZ; rw [pz, F5]; rfl)]
 simp only [fV, aA]
 rw [Wk _ (by omega)]
def yD (s : ng) (sh : List lD) (k : List lC) : ng := ⟨s.lH, s.mU, s.Room, s.lV, sh, s.ml, k⟩
theorem Tv (s : ng) (hp : PB s.lH) (A : Cy s.lH) (ha : s.lV.length ≤ 30000) (hw : s.ml.length ≤ 1000000000) (l : s.Shown.length ≤ 100000) (hk : s.ms.length ≤ 100000000) (own : List lC) (T : own.length ≤ 1000) :
  ∃ b sh w t k, pq s = some b ∧ qU s own = some w ∧ qZ s = some sh ∧ rk sh ∧ sh.length ≤ 8 ∧ (∀ c ∈ sh, Ay s.lH s.lV s.mU c ∧ c ∉ s.Shown ∧ c ∈ b) ∧ qe w w ∧ w.length ≤ 16 ∧ (∀ r ∈ w, r ∉ s.ms) ∧
   vp (s.Shown ++ sh) t ∧ qe (s.ms ++ w) k ∧ pT s own = some (⟨2, 0, 0, zS, w, Gj s.lH sh⟩, 0, yD s t k) := by
 have g := A.sm
 obtain ⟨o, all, ws, b, _, _, _, _, n, O, P, _⟩ := JO s hp g ha hw
 obtain ⟨q, nd, I, _, R⟩ := VM s hp g ha hw
 obtain ⟨u, hu, m⟩ := WH s hp g ha hw own T I R
 obtain ⟨fr, F, Q, hm, hlen⟩ := Mx s.lH hp s.lV (by omega) s.mU
 have d := g.wR
 have es := Hz s F (by omega) n
 have a : ∀ c ∈ ((fr.filter fun c => !ob mO s.Shown c).filter fun c => ob mO b c).take 8, Ay s.lH s.lV s.mU c ∧ c ∉ s.Shown ∧ c ∈ b := fun c d => by
  have h1 := bU.1 (iP d)
  have v := bU.1 h1.1
  refine ⟨(hm c).1 v.1, fun h => ?_, (rl ou b c).1 h1.2⟩
  have y := v.2
  rw [(rl ou _ c).2 h] at y
  cases y
 have D : rk (((fr.filter fun c => !ob mO s.Shown c).filter fun c => ob mO b c).take 8) := ((Q.filter _).filter _).take 8
 have z : (((fr.filter fun c => !ob mO s.Shown c).filter fun c => ob mO b c).take 8).length ≤ 8 := by rw [cX]; omega
 have M : qe ((u.filter fun r => !ob me s.ms r).take 16) ((u.filter fun r => !ob me s.ms r).take 16) := ((qe.self hu).filter _).take 16
 have i : ((u.filter fun r => !ob me s.ms r).take 16).length ≤ 16 := by rw [cX]; omega
 have j : ∀ r ∈ (u.filter fun r => !ob me s.ms r).take 16, r ∉ s.ms := fun r U h => by
  have h1 := (bU.1 (iP U)).2
  rw [(rl mn _ r).2 h] at h1
  cases h1
 generalize ((fr.filter fun c => !ob mO s.Shown c).filter fun c => ob mO b c).take 8 = sh at *
 generalize (u.filter fun r => !ob me s.ms r).take 16 = w at *
 obtain ⟨t, W, J⟩ := JZ s hp ha (fun x Y => by have := (A.wR.1 x Y).1; omega) sh z D (fun c d => (a c d).1.1) (fun c d => (a c d).1.2.2) l
 obtain ⟨k, G, L⟩ := EZ (s.ms ++ w) (by rw [aD]; omega)
 refine ⟨b, sh, w, t, k, n, m, es, D, z, a, M, i, j, W, L, ?_⟩
 unfold pT
 rw [m, aA, es, aA, show (⟨⟨s.lH.Name, s.lH.lZ, s.lH.mq⟩, s.mU, s.Room, s.lV, s.Shown, s.ml, s.ms⟩ : ng) = s from rfl, J, aA]
 simp only [jx, aB, aN]
 rw [show (Jr s t).ms = s.ms from rfl, FG _ _ (by omega), aA, G, aA]
 rfl
def tP : lH := ⟨VV, [Jo eC (yo sZ)], []⟩
def tD : lD := ⟨1, sZ, B5, ⟨zS, zS⟩, ⟨zS, zS⟩, zS⟩
def tS (acc sh : List lD) (Bd ask : List lC) : ng := ⟨tP, B5, 9, acc, sh, Bd, ask⟩
theorem X0 : nD tD = true := by decide +kernel
theorem IB : PB tP := U4 (by decide +kernel)
theorem tG : qg tP eC = (yo sZ, 0) := by
 show qg ⟨VV, [Jo eC (yo sZ)], []⟩ eC = _
 rw [Hq, KP, aZ (ou.2 rfl)]
 exact Ky Nk
theorem OB : Cy tP where
 name := by decide +kernel
 SV := by decide +kernel
 wR := ⟨fun x b => by obtain rfl := bP.1 b; exact ⟨rfl, by decide +kernel⟩, T5 (HX M9)⟩
 xX := ⟨fun a ha => (by cases ha), trivial⟩
 guards := fun x b => by
  obtain rfl := bP.1 b
  show (qg tP eC).2 = 0
  rw [tG]
theorem X4 (v : lC → Bool) : Af tP v eC = v sZ := by
 unfold Af
 rw [tG]
 unfold xM
 rw [Nk, KN]; rfl
theorem MF (acc : List lD) (g : acc.length ≤ 10) {v : Bool} (d : vD acc B5 sZ = v) : sC tP acc B5 = some (if v then [eC] else []) := by
 obtain ⟨fr, e, b, hm, _⟩ := Mx tP IB acc (by omega) B5
 have h : ∀ c, c ∈ fr ↔ c = eC ∧ vD acc B5 sZ = true := fun c => by rw [hm]; exact Q7 Nk M9 acc B5 c
 rw [d] at h
 cases v
 ·have : fr = [] := jD.2 (fun c a => by have := ((h c).1 a).2; cases this)
  rw [e, this]; rfl
 ·have : fr = [eC] := Ri b (fun c a => ((h c).1 a).1) ((h eC).2 ⟨rfl, rfl⟩) M9
  rw [e, this]; rfl
theorem XS (acc sh : List lD) (Bd ask : List lC) : oO (tS acc sh Bd ask) = [] := rfl
theorem WT (acc sh : List lD) (Bd ask : List lC) (a : acc.length ≤ 10) : vO (tS acc sh Bd ask) = some [eC] := by
 rw [JJ (tS acc sh Bd ask) IB OB.sm (by show acc.length ≤ _; omega)]
 show pj [eC] = _
 exact EA (HX M9) (by simp)
theorem TZ {all : List lD} {ws : List lC} (h : ∀ r, r ∉ ws) : ∀ x, ¬ xK all ws x := by
 intro x d
 induction d with
 | want r b => exact h r b
 | IU c a _ ih => exact ih
 | Lc c a _ ih => exact ih
 | IA c _ _ ih => exact ih
 | JV c _ _ ih => exact ih
 | JX c _ _ ih => exact ih
theorem Vf {all : List lD} {ws : List lC} {c : lD} (h : xK all ws (.inr (.inr c))) : c ∈ all := by
 cases h with
 | IU c a _ => exact a
 | Lc c a _ => exact a
theorem UK (acc sh : List lD) (ask : List lC) (h : acc.length ≤ 10) : pq (tS acc sh [] ask) = some [] := by
 obtain ⟨o, all, ws, b, _, _, _, hw, e, _, _, a⟩ := JO (tS acc sh [] ask) IB OB.sm (by show acc.length ≤ _; omega) (by simp [tS])
 have : b = [] := jD.2 (fun c d => TZ (fun r g => by have := ((hw.2 r).1 g).1; cases this) _ ((a c).1 d))
 rw [e, this]
theorem IR (acc sh : List lD) (ask : List lC) (h : acc.length ≤ 10) : pq (tS acc sh [sY] ask) = some [eC] := by
 obtain ⟨o, all, ws, b, d, k, ha, hw, e, i, _, g⟩ := JO (tS acc sh [sY] ask) IB OB.sm (by show acc.length ≤ _; omega) (by simp [tS])
 rw [WT acc sh [sY] ask h] at d
 obtain rfl := fQ d
 have j : sY ∈ ws := (hw.2 sY).2 ⟨by simp [tS], by decide +kernel⟩
 have a : eC ∈ all := (ha.2 eC).2 ⟨by simp, M9⟩
 have : b = [eC] := Ri i (fun c a => by simpa using ((ha.2 c).1 (Vf ((g c).1 a))).1) ((g eC).2 (.IU eC a (.want _ j))) M9
 rw [e, this]
theorem XZ : vE (yo sZ) = some [sZ] := by
 obtain ⟨r, e, h, b⟩ := IP (yo sZ) (by decide +kernel)
 rw [e, sk.unique (Co _) h (⟨by simp, fun x => ⟨fun a => ⟨a, by obtain rfl := bP.1 a; decide +kernel⟩, fun a => a.1⟩⟩ : qe (Iz (yo sZ)) [sZ])]
theorem Po : pG [sZ] = some [sZ] := Lu ⟨by simp, fun x => ⟨fun a => ⟨a, by obtain rfl := bP.1 a; decide +kernel⟩, fun a => a.1⟩⟩ (by simp)
theorem Ti (acc sh : List lD) (Bd ask : List lC) (h : acc.length ≤ 10) {b : List lD} (a : pq (tS acc sh Bd ask) = some b) {v : Bool} (g : vD acc B5 sZ = v) (c : b = [] ∨ b = [eC]) :
  pP (tS acc sh Bd ask) = some (if v || b.isEmpty then [] else [sZ]) := by
 have hu := Fk (tS acc sh Bd ask) IB (by show tP.mq.length ≤ _; decide) (by show acc.length ≤ _; omega)
 rw [XS] at hu
 unfold pP
 rw [hu, aA, a, aA]
 rcases c with rfl | rfl
 ·rw [ol, DN]; simp
 ·have d : uL (tS acc sh Bd ask) [] eC = some (if v then [] else [sZ]) := by
   unfold uL
   rw [DB [] eC (by simp), aA, show wQ [] eC = [] from rfl, oW, DB [] eC (by simp), aA, show wQ [] eC = [] from rfl]
   rw [Hc (tS acc sh Bd ask) IB (by show acc.length ≤ _; omega) eC, show (tS acc sh Bd ask).lH = tP from rfl, show (tS acc sh Bd ask).lV = acc from rfl, show (tS acc sh Bd ask).mU = B5 from rfl, X4, g, D6 tP IB, tG]
   cases v
   ·simp [XZ]
   ·simp
  rw [ol, d, aA]
  cases v
  ·rw [nX (by simp) (by simp), aA, ol]
   simp only [aB, aN, bK, Po, aA]
   rfl
  ·rw [nX (by simp) (by simp), aA, ol]
   simp only [aU, bK, DN, aA]
   rfl
theorem To (s : ng) {nd l : List lC} (b : pP s = some nd) (e : pG nd = some nd) (h : nd.length ≤ 10) (a : (nd.filter fun r => !ob me s.ms r) = l) : qU s [] = some l := by
 have c : l.length ≤ nd.length := by rw [← a]; exact cQ _ _
 unfold qU
 rw [b, aA, FG _ _ (by simp; omega), aA, bT, e, aA, Jg, yt _ (fun r => ob me s.ms r) zR nd (by omega) (fun r _ => by unfold wE; rw [pz, OU]), aA, Rk _ (by rw [a]; omega), a, cZ (by omega)]
theorem Tt : vD [] B5 sZ = false := UQ _ _
theorem Th : vD [tD] B5 sZ = true := VD X0 rfl (by simp)
theorem OV {s : ng} {b sh t : List lD} {w k : List lC} (hp : PB s.lH) (q : Cy s.lH) (ha : s.lV.length ≤ 10) (hw : s.ml.length ≤ 10) (r : s.Shown.length ≤ 10) (hk : s.ms.length ≤ 10) (j : qU s [] = some w) (es : qZ s = some sh) (m : pj (s.Shown ++ sh) = some t) (l : pG (s.ms ++ w) = some k) : pT s [] = some (⟨2, 0, 0, zS, w, Gj s.lH sh⟩, 0, yD s t k) := by
 obtain ⟨x, v, A, z, k', _, a, c, _, y, _, _, n, _, u, o, e⟩ := Tv s hp q (by omega) (by omega) (by omega) (by omega) [] (by simp)
 rw [j] at a; rw [es] at c
 obtain rfl := fQ a
 obtain rfl := fQ c
 obtain ⟨t2, h, g⟩ := FR (s.Shown ++ sh) (by simp; omega)
 obtain ⟨k2, i, d⟩ := EZ (s.ms ++ w) (by simp; omega)
 rw [m] at h; rw [l] at i
 obtain rfl := fQ h
 obtain rfl := fQ i
 rw [e, sk.unique zf u g, sk.unique (Co _) o d]
theorem SL : pj [] = some [] := EA rk.nil (by simp)
theorem UB : yF = some true := by
 have r : HG 1 (0 : Int) 8 = some (List.replicate 8 0) := by unfold HG; rw [aZ (by decide)]; rfl
 have y : zy tP B5 9 = some (tS [] [] [] [], 0) := by
  obtain ⟨e, h, u⟩ := LQ tP IB
  rw [u.2 OB] at h
  unfold zy
  rw [h, vJ, show pg B5 = true by decide +kernel]
  rfl
 have L : pj [eC] = some [eC] := EA (HX M9) (by simp)
 have z := Ti [] [] [] [] (by simp) (UK [] [] [] (by simp)) Tt (.inl rfl)
 have a0 := To (tS [] [] [] []) (l := []) z DN (by simp) rfl
 have J := Hz (tS [] [] [] []) (MF [] (by simp) Tt) (by simp) (UK [] [] [] (by simp))
 have G : vP (tS [] [] [] []) [] = some true := by
  unfold vP
  rw [a0, aA, J]; rfl
 have a : pG [sY] = some [sY] := Lu ⟨by simp, fun x => ⟨fun d => ⟨d, by obtain rfl := bP.1 d; decide +kernel⟩, fun d => d.1⟩⟩ (by simp)
 have M : xz (tS [] [] [] []) [sY] = some (tS [] [] [sY] []) := by
  unfold xz
  rw [FG _ _ (by simp [tS]), aA, show (tS [] [] [] []).ml ++ [sY] = [sY] from rfl, a]; rfl
 have m := Ti [] [] [sY] [] (by simp) (IR [] [] [] (by simp)) Tt (.inr rfl)
 have o := To (tS [] [] [sY] []) (l := [sZ]) m Po (by simp) rfl
 have s1 := Hz (tS [] [] [sY] []) (MF [] (by simp) Tt) (by simp) (IR [] [] [] (by simp))
 have t1 := OV (b := []) (s := tS [] [] [sY] []) (t := []) (k := [sZ]) IB OB (by simp [tS]) (by simp [tS]) (by simp [tS]) (by simp [tS]) o s1 SL Po
 have s2 := Hz (tS [tD] [] [sY] [sZ]) (MF [tD] (by simp) Th) (by simp) (IR [tD] [] [sZ] (by simp))
 have j : ob mO [eC] eC = true := (rl ou _ _).2 (by simp)
 have g : ((((if true = true then [eC] else []).filter fun c => !ob mO (tS [tD] [] [sY] [sZ]).Shown c).filter fun c => ob mO [eC] c).take 8) = [eC] := by
  rw [aZ rfl, show (tS [tD] [] [sY] [sZ]).Shown = [] from rfl, show ([eC].filter fun c => !ob mO [] c) = [eC] from rfl, List.filter_cons_of_pos j]; rfl
 rw [g] at s2
 have A := Ti [tD] [] [sY] [sZ] (by simp) (IR [tD] [] [sZ] (by simp)) Th (.inr rfl)
 have a2 := To (tS [tD] [] [sY] [sZ]) (l := []) A DN (by simp) rfl
 have t2 := OV (b := []) (s := tS [tD] [] [sY] [sZ]) (t := [eC]) (k := [sZ]) IB OB (by simp [tS]) (by simp [tS]) (by simp [tS]) (by simp [tS]) a2 s2 L Po
 have D := Ti [tD] [eC] [sY] [sZ] (by simp) (IR [tD] [eC] [sZ] (by simp)) Th (.inr rfl)
 have a3 := To (tS [tD] [eC] [sY] [sZ]) (l := []) D DN (by simp) rfl
 have n := Hz (tS [tD] [eC] [sY] [sZ]) (MF [tD] (by simp) Th) (by simp) (IR [tD] [eC] [sZ] (by simp))
 have i : ((((if true = true then [eC] else []).filter fun c => !ob mO (tS [tD] [eC] [sY] [sZ]).Shown c).filter fun c => ob mO [eC] c).take 8) = [] := by
  rw [aZ rfl, show (tS [tD] [eC] [sY] [sZ]).Shown = [eC] from rfl, List.filter_cons_of_neg (by rw [j]; simp)]; rfl
 rw [i] at n
 have I : vP (tS [tD] [eC] [sY] [sZ]) [] = some true := by
  unfold vP
  rw [a3, aA, n]; rfl
 have F := WT [tD] [eC] [sY] [sZ] (by simp)
 have q := IR [tD] [eC] [sZ] (by simp)
 unfold yF
 rw [r, aA, aA]
 simp only
 rw [show zy (⟨(⟨#[109, 101]⟩ : ByteArray), [⟨⟨⟨1, ⟨(⟨#[120]⟩ : ByteArray), (⟨#[121]⟩ : ByteArray)⟩, (⟨#[109, 101]⟩ : ByteArray), ⟨zS, zS⟩, ⟨zS, zS⟩, zS⟩, List.replicate 8 0⟩, ⟨1, 0, ⟨(⟨#[120]⟩ : ByteArray), (⟨#[122]⟩ : ByteArray)⟩, []⟩⟩], []⟩ : lH) (⟨#[121, 111, 117]⟩ : ByteArray) 9 = _ from y]
 simp only [aA]
 rw [G]
 simp only [aA]
 rw [show xz (⟨⟨(tS [] [] [] []).lH.Name, (tS [] [] [] []).lH.lZ, (tS [] [] [] []).lH.mq⟩, (tS [] [] [] []).mU, (tS [] [] [] []).Room, (tS [] [] [] []).lV, (tS [] [] [] []).Shown, (tS [] [] [] []).ml, (tS [] [] [] []).ms⟩ : ng) [(⟨(⟨#[120]⟩ : ByteArray), (⟨#[121]⟩ : ByteArray)⟩ : lC)] = _ from M]
 simp only [aA]
 rw [m]
 simp only [aA]
 rw [t1]
 simp only [aA]
 rw [show (⟨(yD (tS [] [] [sY] []) [] [sZ]).lH, (yD (tS [] [] [sY] []) [] [sZ]).mU, (yD (tS [] [] [sY] []) [] [sZ]).Room, [(⟨1, (⟨(⟨#[120]⟩ : ByteArray), (⟨#[122]⟩ : ByteArray)⟩ : lC), (⟨#[121, 111, 117]⟩ : ByteArray), (⟨zS, zS⟩ : lC), (⟨zS, zS⟩ : lC), zS⟩ : lD)], (yD (tS [] [] [sY] []) [] [sZ]).Shown, (yD (tS [] [] [sY] []) [] [sZ]).ml, (yD (tS [] [] [sY] []) [] [sZ]).ms⟩ : ng) = tS [tD] [] [sY] [sZ] from rfl, s2]
 simp only [aA]
 rw [t2]
 simp only [aA]
 rw [show yD (tS [tD] [] [sY] [sZ]) [eC] [sZ] = tS [tD] [eC] [sY] [sZ] from rfl, I, F, q]
 have v : me sZ (⟨(⟨#[120]⟩ : ByteArray), (⟨#[122]⟩ : ByteArray)⟩ : lC) = true := mn.2 rfl
 have w : nG (if (false || [eC].isEmpty) = true then [] else [sZ]) 0 = some sZ := rfl
 unfold Ak
 rw [w]
 simp only [aA, v]
 rfl
theorem Vj {v : lC → Bool} {t g : Formula} (h : (Bk ⟨2, 0, tY, [t, g]⟩).2 = 0) (he : uo v (Bk ⟨2, 0, tY, [t, g]⟩).1 = true) : uo v t = true ∧ uo v g = true := by
 unfold Bk at h he
 by_cases c : pD (⟨2, 0, tY, [t, g]⟩ : Formula) = true
 ·rw [aZ c] at h he
  by_cases d : pD (vq ⟨2, 0, tY, [t, g]⟩) = true
  ·rw [aZ d] at he
   simp only at he
   rw [Se v _ (DX c).2.2, AA] at he
   have c1 : ¬ ((2 : Int) = 1) := by decide
   simp only [c1, aN, aU, bR] at he
   have := (HR v [t, g]).1 he
   exact ⟨this t (by simp), this g (by simp)⟩
  ·rw [aY d] at h; cases h
 ·rw [aY c] at h; cases h
theorem Ot (v : lC → Bool) : ∀ (l : List Formula) (t : Formula × Int), (vH t l).2 = 0 → uo v (vH t l).1 = true → uo v t.1 = true ∧ ∀ g ∈ l, uo v g = true
 | [], t, _, h => ⟨h, by simp⟩
 | g :: l, t, h, he => by
  rw [vH] at h he
  by_cases c : t.2 = 0
  ·rw [aZ c] at h he
   obtain ⟨h1, b⟩ := Ot v l _ h he
   have k : (Bk ⟨2, 0, tY, [t.1, g]⟩).2 = 0 := by
    cases l with
    | nil => exact h
    | cons x l =>
     rw [vH] at h
     by_cases d : (Bk ⟨2, 0, tY, [t.1, g]⟩).2 = 0
     ·exact d
     ·rw [aY d] at h; exact absurd h d
   obtain ⟨i, j⟩ := Vj k h1
   exact ⟨i, fun x a => by rcases aS.1 a with rfl | a; exact j; exact b x a⟩
  ·rw [aY c] at h; exact absurd h c
theorem Re {p : lH} {v : lC → Bool} {c : lD} (h : Af p v c = true) : ∀ a ∈ p.mq, ob mO a.nj c = true → uo v a.lM = true := by
 intro a ha i
 unfold Af xM at h
 rw [bE, bE, bR] at h
 obtain ⟨h1, _, b⟩ := h
 unfold qg at h1 b
 cases g : wg p c with
 | none => rw [g] at h1; cases h1
 | some x =>
  rw [g] at h1 b
  simp only at h1 b
  unfold HA at h1 b
  by_cases d : (vH (Bk x.lM) ((Fa p c).map (·.lM))).2 = 0
  ·rw [aZ d] at b
   exact (Ot v _ _ d b).2 a.lM (bJ.2 ⟨a, bU.2 ⟨ha, i⟩, rfl⟩)
  ·rw [aY d] at h1; exact absurd h1 d
inductive sN (H : lD → Prop) : List mI → List mI → Prop
 | nil : sN H [] []
 | An (x : mI) {l k : List mI} : sN H l k → sN H (x :: l) (x :: k)
 | drop (x : mI) {l k : List mI} : H x.Signed.lD → sN H l k → sN H (x :: l) k
theorem sN.refl {H : lD → Prop} : ∀ l, sN H l l
 | [] => .nil
 | x :: l => .An x (sN.refl l)
section
variable {H : lD → Prop} {l k : List mI}
theorem sN.sub (h : sN H l k) : ∀ x ∈ k, x ∈ l := by
 induction h with
 | nil => simp
 | An x _ ih => intro y a; rcases aS.1 a with rfl | a; simp; simp [ih y a]
 | drop x _ _ ih => intro y a; simp [ih y a]
theorem sN.VC {a k2 : List mI} (h : sN H l k) (b : sN H a k2) : sN H (l ++ a) (k ++ k2) := by
 induction h with
 | nil => exact b
 | An x _ ih => exact .An x ih
 | drop x c _ ih => exact .drop x c ih
theorem sN.len (h : sN H l k) : k.length ≤ l.length := by
 induction h with
 | nil => simp
 | An x _ ih => simp; omega
 | drop x _ _ ih => simp; omega
theorem sN.find (h : sN H l k) {c : lD} (a : ¬ H c) : (k.find? fun x => mO x.Signed.lD c) = l.find? fun x => mO x.Signed.lD c := by
 induction h with
 | nil => rfl
 | An x _ ih => rw [fG, fG, ih]
 | drop x b _ ih =>
  rw [fG, ih]
  have : mO x.Signed.lD c = false := by
   rw [← gF, ou]
   rintro rfl; exact a b
  rw [this]
theorem sN.free (h : sN H l k) {u : List nx} (hu : ∀ c, H c → (wQ u c).isEmpty = false) : Bu u k = Bu u l := by
 unfold Bu
 induction h with
 | nil => rfl
 | An x _ ih =>
  rw [dN, dN]
  split
  ·rw [bM, bM, ih]
  ·exact ih
 | drop x a _ ih =>
  rw [dN, hu _ a, ih]
  rfl
end
def oP (s : ng) (k : List mI) : ng := ⟨⟨s.lH.Name, k, s.lH.mq⟩, s.mU, s.Room, s.lV, s.Shown, s.ml, s.ms⟩
def Aw (s : ng) (c : lD) : Prop := (wQ (oO s) c).isEmpty = false
section
variable {s : ng} {k : List mI}
theorem Jd (h : sN (Aw s) s.lH.lZ k) {c : lD} (a : ¬ Aw s c) : wg (oP s k).lH c = wg s.lH c := h.find a
theorem Lm (h : sN (Aw s) s.lH.lZ k) {c : lD} (a : ¬ Aw s c) : qg (oP s k).lH c = qg s.lH c := by
 unfold qg
 rw [Jd h a]; rfl
theorem Q1 (h : sN (Aw s) s.lH.lZ k) {c : lD} (a : ¬ Aw s c) (v : lC → Bool) : Af (oP s k).lH v c = Af s.lH v c := by
 unfold Af
 rw [Lm h a]
theorem MG (g : ∀ a ∈ s.lH.mq, pD a.lM = true) {p : lH} (hp : p.mq = s.lH.mq) {c : lD} (d : Aw s c) : Af p (sV s) c = false := by
 rw [← gF]
 intro h
 unfold Aw wQ oO at d
 rw [← gF, List.isEmpty_iff] at d
 apply d
 rw [List.filter_eq_nil_iff]
 intro a ha i
 obtain ⟨h1, b⟩ := bU.1 ha
 have := Re h a (by rw [hp]; exact h1) i
 unfold xM at b
 rw [g a h1, this] at b
 cases b
theorem NB (g : ∀ a ∈ s.lH.mq, pD a.lM = true) (h : sN (Aw s) s.lH.lZ k) (c : lD) : Ay (oP s k).lH s.lV s.mU c ↔ Ay s.lH s.lV s.mU c := by
 unfold Ay
 by_cases d : Aw s c
 ·have b : Af (oP s k).lH (vD s.lV s.mU) c = false := MG (p := (oP s k).lH) g rfl d
  have i : Af s.lH (vD s.lV s.mU) c = false := MG g rfl d
  rw [b, i]; simp
 ·rw [Q1 h d]
  have : wz (oP s k).lH c ↔ wz s.lH c := by
   have e := Jd h d
   constructor
   ·intro h1
    obtain ⟨x, b, _⟩ := Bm h1
    rw [e] at b
    exact ⟨x, (D2 b).1, (D2 b).2⟩
   ·intro h1
    obtain ⟨x, b, _⟩ := Bm h1
    rw [← e] at b
    exact ⟨x, (D2 b).1, (D2 b).2⟩
  rw [this]
theorem PB.kept (hp : PB s.lH) (h : sN (Aw s) s.lH.lZ k) : PB (oP s k).lH where
 wR := dO h.len hp.wR
 xX := hp.xX
 rel := fun x a => hp.rel x (h.sub x a)
 Hj := hp.Hj
 Jy := hp.Jy
theorem Sm.kept (hp : Sm s.lH) (h : sN (Aw s) s.lH.lZ k) : Sm (oP s k).lH := ⟨dO h.len hp.wR, hp.xX, hp.Jy, hp.rel⟩
theorem Sk (h : sN (Aw s) s.lH.lZ k) : Ey (oP s k) = Ey s := by
 have e : oO (oP s k) = oO s := rfl
 unfold Ey
 rw [e, show (oP s k).lH.lZ = k from rfl, h.free (u := oO s) (fun c a => a)]
theorem Ls (hp : PB s.lH) (a : Sm s.lH) (ha : s.lV.length ≤ 30000) (h : sN (Aw s) s.lH.lZ k) : pq (oP s k) = pq s := by
 unfold pq
 rw [JJ s hp a ha, JJ (oP s k) (hp.kept h) (a.kept h) ha, Sk h]
 rfl
theorem G7 (hp : PB s.lH) (ha : s.lV.length ≤ 30000) (d : (oO s).length ≤ 1000000) (h : sN (Aw s) s.lH.lZ k) (c : lD) : ∀ (l : List nx) (acc : List lC), oW (oO s) c (oP s k) l acc = oW (oO s) c s l acc
 | [], acc => by
  rw [oW, oW, DB _ c d]
  simp only [aA]
  by_cases b : Aw s c
  ·have : ((wQ (oO s) c).length : Int) > 0 := by
    unfold Aw at b
    rw [← gF, List.isEmpty_iff] at b
    have := List.length_pos_iff.2 b
    omega
   simp only [this, cC, aU, aA]
  ·rw [Hc s hp ha, Hc (oP s k) (hp.kept h) ha, D6 _ hp, D6 _ (hp.kept h), Lm h b]
   rw [show Af (oP s k).lH (vD (oP s k).lV (oP s k).mU) c = Af s.lH (vD s.lV s.mU) c from Q1 h b _]
 | a :: l, acc => by
  rw [oW, oW]
  simp only [G7 hp ha d h c l]
theorem QE (hp : PB s.lH) (a : Sm s.lH) (ha : s.lV.length ≤ 30000) (h : sN (Aw s) s.lH.lZ k) : pP (oP s k) = pP s := by
 have hk := a.xX
 have h1 : (oO s).length ≤ s.lH.mq.length := cQ _ _
 have key : ∀ (l : List lD) (acc : List lC), ol (oP s k) (oO s) l acc = ol s (oO s) l acc := by
  intro l
  induction l with
  | nil => intro acc; rw [ol, ol]
  | cons c l ih =>
   intro acc
   rw [ol, ol]
   unfold uL
   simp only [G7 hp ha (by omega) h c, ih]
 unfold pP
 rw [Ls hp a ha h, Fk s hp (by omega) ha, Fk (oP s k) (hp.kept h) (by show s.lH.mq.length ≤ _; omega) ha, show oO (oP s k) = oO s from rfl]
 simp only [aA, key]
theorem Te (hp : PB s.lH) (o : Cy s.lH) (ha : s.lV.length ≤ 30000) (hw : s.ml.length ≤ 1000000000) (n : s.Shown.length ≤ 100000) (hk : s.ms.length ≤ 100000000) (own : List lC) (W : own.length ≤ 1000) (h : sN (Aw s) s.lH.lZ k) :
  ∃ (m : DR) (t : List lD) (q : List lC), pT s own = some (m, 0, yD s t q) ∧ pT (oP s k) own = some (m, 0, yD (oP s k) t q) := by
 have G := o.sm
 have l := hp.kept h
 have d : ∀ a ∈ s.lH.mq, pD a.lM = true := fun a ha => (o.xX.1 a ha).2.1
 obtain ⟨b, sh, w, t, q, eb, L, es, y, Q, j, hW, P, U, Y, R, e⟩ := Tv s hp o ha hw n hk own W
 refine ⟨_, t, q, e, ?_⟩
 have r : qU (oP s k) own = some w := by
  rw [← L]
  unfold qU
  rw [QE hp G ha h]
  rfl
 obtain ⟨fr, I, f1, m1, _⟩ := Mx s.lH hp s.lV (by omega) s.mU
 obtain ⟨v, J, f2, m2, _⟩ := Mx (oP s k).lH l s.lV (by omega) s.mU
 obtain rfl : v = fr := f2.ext f1 (fun c => by rw [m1, m2]; exact NB d h c)
 have u : qZ (oP s k) = some sh := by
  rw [← es]
  unfold qZ AH
  rw [Ls hp G ha h, I, show sC (oP s k).lH (oP s k).lV (oP s k).mU = _ from J]
  rfl
 have i : ∀ c ∈ sh, Ay (oP s k).lH s.lV s.mU c := fun c g => (NB d h c).2 (j c g).1
 have z : ∀ c ∈ sh, ¬ Aw s c := fun c g T => by
  have h1 := (j c g).1.2.2
  rw [show Af s.lH (vD s.lV s.mU) c = false from MG d rfl T] at h1
  cases h1
 obtain ⟨t2, D, F⟩ := JZ (oP s k) l ha (fun x Z => by have := (o.wR.1 x (h.sub x Z)).1; omega) sh Q y (fun c g => (i c g).1) (fun c g => (i c g).2.2) n
 obtain rfl : t2 = t := sk.unique zf D Y
 have O : Gj (oP s k).lH sh = Gj s.lH sh := by
  unfold Gj
  refine jS fun c g => ?_
  unfold MC
  rw [Jd h (z c g)]
 obtain ⟨q2, M, A⟩ := EZ (s.ms ++ w) (by rw [aD]; omega)
 obtain rfl : q2 = q := sk.unique (Co _) A R
 rw [O] at F
 unfold pT
 rw [r, aA, u, aA, show (⟨⟨(oP s k).lH.Name, (oP s k).lH.lZ, (oP s k).lH.mq⟩, (oP s k).mU, (oP s k).Room, (oP s k).lV, (oP s k).Shown, (oP s k).ml, (oP s k).ms⟩ : ng) = oP s k from rfl, F, aA]
 simp only [jx, aB, aN]
 rw [show (Jr (oP s k) t2).ms = s.ms from rfl, FG _ _ (by omega), aA, M, aA]
 rfl
end
theorem Dj (l : List lC) (v : lC → Bool) (d : ob me l = v) : ∀ (xs acc : List nx), (∀ a ∈ xs, mW a.lM ≤ 10000000) → acc.length + xs.length ≤ 1000000 → sd l xs acc = some (acc ++ xs.filter fun a => !xM v a.lM)
 | [], acc, _, _ => by rw [sd]; simp
 | a :: xs, acc, c, h => by
  rw [aO] at h
  have h1 := c a (by simp)
  have g := Ab a.lM
  rw [sd, V1 a.lM (by unfold Gd; omega), aA, Wp l mR _ (by rw [pa]; omega) (by unfold Gd; omega), d, dN]
  unfold xM
  cases pD a.lM
  ·simp only [dI, aU, aA, jv]
   rw [nX (by simp; omega) (by simp; omega), aA, Dj l v d xs _ (fun x b => c x (by simp [b])) (by simp; omega)]
   unfold xM
   simp
  ·simp only [bY, aB, aN, aA, eU]
   cases uo v a.lM
   ·simp only [dI, aU]
    rw [nX (by simp; omega) (by simp; omega), aA, Dj l v d xs _ (fun x b => c x (by simp [b])) (by simp; omega)]
    unfold xM
    simp
   ·simp only [bY, aB, aN]
    rw [Dj l v d xs _ (fun x b => c x (by simp [b])) (by omega)]
    rfl
theorem TX (s : ng) (hp : PB s.lH) (hk : s.lH.mq.length ≤ 1000000) (ha : s.lV.length ≤ 30000) : zN s = some (oO s) := by
 obtain ⟨F, a⟩ := Tc s.lV ha
 have hlen := a.len
 unfold zN CU
 rw [a.ref, aA, show yE F s.mU = some (JR F s.mU) from US F s.mU (by omega), aA, aA]
 rw [Dj (JR F s.mU) (sV s) (by rw [RR, Pe a]; rfl) s.lH.mq [] hp.Hj (by simp; omega), bK]
 rfl
theorem IK (x : mI) : ∀ (l : List nx) (b : Bool), rb x l b = some (b || !(wQ l x.Signed.lD).isEmpty)
 | [], b => by rw [rb]; simp [wQ]
 | a :: l, b => by
  rw [rb, KF]
  unfold wQ
  rw [dN]
  cases b
  ·simp only [aB, aN, aA]
   rw [IK x l]
   cases ob mO a.nj x.Signed.lD
   ·simp [wQ]
   ·simp
  ·simp only [aU, aA]
   rw [IK x l]
   simp
theorem I0 (s : ng) (own : List lC) (drop : List Bool) (k : own.length ≤ 1000) (hp : PB s.lH) (a : Qp s) (ha : s.lV.length ≤ 30000) (hw : s.ml.length ≤ 1000000000) (hk : s.ms.length ≤ 100000000) : ∀ (l acc : List mI) (A : List mI) (n : Int), s.lH.lZ = A ++ l → sN (Aw s) A acc → 0 ≤ n → n ≤ A.length →
  ph (oO s) s drop own l n acc = some true
 | [], acc, A, n, e, h, _, _ => by
  rw [bT] at e
  subst e
  have D := OM a.sh a.held
  have i := a.J2.sm.wR
  obtain ⟨m, t, q, o, r⟩ := Te hp a.J2 ha hw (by omega) hk own k h
  rw [ph, o, aA, show (⟨⟨s.lH.Name, acc, s.lH.mq⟩, s.mU, s.Room, s.lV, s.Shown, s.ml, s.ms⟩ : ng) = oP s acc from rfl, r, aA]
  simp only [bH, aU]
  rw [show (⟨m.Kind, m.xU, m.E, m.Name, m.tW, m.tV⟩ : DR) = m from rfl, Up]
  simp only [aA, aU]
  rw [show (yD s t q).ms = q from rfl, show (yD (oP s acc) t q).ms = q from rfl, Wj]
  simp only [aA, aU]
  rw [show (yD s t q).Shown = t from rfl, show (yD (oP s acc) t q).Shown = t from rfl, WJ]
  rfl
 | x :: l, acc, A, n, e, h, c, J => by
  have i := a.J2.sm.wR
  rw [e] at i
  simp only [aD, aO] at i
  have v := h.len
  have F : ∀ m : Int, 0 ≤ m → m ≤ (A ++ [x]).length → ph (oO s) s drop own l m (acc ++ [x]) = some true := fun m h1 g =>
   I0 s own drop k hp a ha hw hk l (acc ++ [x]) (A ++ [x]) m (by rw [e]; simp) (h.VC (.An x .nil)) h1 g
  have An : ∀ m : Int, 0 ≤ m → m ≤ (A ++ [x]).length → ((oH 232 acc [x]).bind fun b => ph (oO s) s drop own l m b) = some true := fun m h1 g => by
   rw [nX (by simp; omega) (by simp; omega), aA]
   exact F m h1 g
  have G : IntKind.i64.wrap (n + 1) = n + 1 := ni (by omega) (by omega)
  have I : IntKind.i64.wrap (n + 1 - 1) = n := by rw [ni (by omega) (by omega)]; omega
  rw [ph, IK, aA, KF, G, I]
  simp only [Bool.false_or]
  cases y : (wQ (oO s) x.Signed.lD).isEmpty
  ·simp only [dI, aU, aA]
   cases ob mO s.Shown x.Signed.lD
   ·simp only [dI, aU]
    by_cases c1 : n + 1 ≤ (drop.length : Int)
    ·simp only [c1, cC, aU]
     obtain ⟨d, u⟩ : ∃ d, nG drop n = some d := by
      obtain ⟨j, rfl⟩ := Int.eq_ofNat_of_zero_le c
      have z : j < drop.length := by omega
      refine ⟨drop[j], ?_⟩
      have w : drop = drop.take j ++ drop[j] :: drop.drop (j + 1) := by rw [← List.drop_eq_getElem_cons z, iE]
      conv => lhs; rw [w]
      exact oU _ _ _ _ (by rw [cX]; omega)
     rw [u]
     simp only [aA]
     cases d
     ·simp only [aB, aN, aA]
      exact An _ (by omega) (by simp; omega)
     ·simp only [aU]
      rw [I0 s own drop k hp a ha hw hk l acc (A ++ [x]) (n + 1) (by rw [e]; simp) (by simpa using h.VC (.drop x y .nil)) (by omega) (by simp; omega)]
      rfl
    ·simp only [c1, cI, aB, aN, aA]
     exact An _ (by omega) (by simp; omega)
   ·simp only [bY, aB, aN, aA]
    exact An _ c (by simp; omega)
  ·simp only [bY, aB, aN, aA]
   exact An _ c (by simp; omega)
theorem IH (j : yF = some true) (s : ng) (own : List lC) (drop : List Bool) (a : SQ s) : wS s own drop = some true := by
 obtain ⟨g, i, o, q⟩ := XL s a
 have c2 := F6 s.Shown
 have l := a.sh
 have m := a.wl
 have n := a.al
 unfold wS
 rw [j, i]
 simp only [aA, bY, aB, aN]
 by_cases d : g > 3500
 ·simp only [d, cC, aU, aA]
 ·simp only [d, cI, aB, aN]
  obtain ⟨b, e, k⟩ := QJ s a.p.toPB (by omega) (by omega) (by omega) (by omega)
  rw [e]
  simp only [aA]
  cases b
  ·rfl
  ·simp only [bY, aB, aN, aA]
   by_cases c : (own.length : Int) > 20
   ·simp only [c, cC, aU]
   ·simp only [c, cI, aB, aN]
    have h := k.1 rfl
    rw [TX s a.p.toPB (by have := h.J2.sm.xX; omega) (by omega), aA]
    exact I0 s own drop (by omega) a.p.toPB h (by omega) (by omega) (by omega) s.lH.lZ [] [] 0 rfl .nil (by omega) (by simp)
end Go.Proofs.YtklbhegeiijbjaaGreat
namespace Go.Proofs.YtklbhegeiijbjaaGreat.Lf
open Go.ChangeShapes Go.WideShapes Go.ChangeAt Go.RowKit
open Go.Proofs.YtklbhegeiijbjaaGreat (Rows.uptoBulk Rows.uptoBulkAll Rows.uptoSmall)
theorem V2 {H : Type} (d : DataW H) : 1 ≤ Rows.uptoBulk d := by
 cases d with
 | lit l => cases l <;> simp [Rows.uptoBulk]
 | nil => simp [Rows.uptoBulk]
 | ptr d => simp [Rows.uptoBulk]
 | slice a spare => simp [Rows.uptoBulk]
 | agg parts => simp [Rows.uptoBulk]
 | iface t d => simp [Rows.uptoBulk]
 | map entries => simp [Rows.uptoBulk]
 | held h => simp [Rows.uptoBulk]
def IC {α : Type} (P : Program) (t : TypeId) (enc : α → List Value) (sz : α → Nat) : Prop :=
 ∀ (H : Type) (b : TypeId × Value → H) (W : World) (base : Nat) (sp : Nat → Bool) (c : Bool) (fuel : Nat) (cs : List Value) (x : DataW H × List MemPlace),
  DataW.trod b P W base sp c fuel t cs = some x → ∃ a : α, cs = enc a ∧ sz a ≤ Rows.uptoBulk x.1
theorem Pq {P : Program} {t : TypeId} (a : P.underlying t = some .string) : IC P t (fun s : ByteArray => [.string s]) (fun s => s.size) := by
 intro H b W base sp c fuel cs x h
 obtain ⟨s, rfl, rfl, _⟩ := DataW.trod_string a h
 refine ⟨s, rfl, ?_⟩
 have e : s.data.toList.length = s.size := by rw [dJ]; rfl
 simp [Rows.uptoBulk, e]
theorem T9 {P : Program} {t : TypeId} {k : IntKind} (a : P.underlying t = some (.int k)) : IC P t (fun n : Int => [.int k n]) (fun _ => 0) := by
 intro H b W base sp c fuel cs x h
 obtain ⟨n, rfl, rfl, _⟩ := DataW.trod_int a h
 exact ⟨n, rfl, fO _⟩
theorem Ur {α : Type} {n : Nat} {p : Nat → α → Prop} (h : ∀ i, i < n → ∃ x, p i x) : ∃ l : List α, l.length = n ∧ ∀ i x, l[i]? = some x → p i x := by
 induction n with
 | zero => exact ⟨[], rfl, by simp⟩
 | succ n ih =>
  obtain ⟨l, h1, c⟩ := ih fun i b => h i (by omega)
  obtain ⟨x, g⟩ := h n (by omega)
  refine ⟨l ++ [x], by simp [h1], fun i y a => ?_⟩
  by_cases b : i < l.length
  ·rw [iU b] at a
   exact c i y a
  ·rw [gG (by omega)] at a
   have : i - l.length = 0 := by
    cases d : i - l.length with
    | zero => rfl
    | succ m => rw [d] at a; simp at a
   rw [this] at a
   have e : i = n := by omega
   simp at a
   subst a; rw [e]; exact g
theorem Nf {W : World} {a : Addr} {v : Value} (h : W.cell? a = some v) : ∃ cs T fr, W.heap[a.block]? = some (.cells cs T fr) ∧ a.spot = none ∧ cs[a.off]? = some v := by
 unfold World.cell? at h
 split at h
 ·rename_i c T fr d
  by_cases b : a.spot.isSome
  ·simp [b] at h
  ·simp only [b] at h
   exact ⟨c, T, fr, d, by simpa using b, by simpa using h⟩
 ·cases h
theorem Ex.below {dd : Bool} {W W' : World} (h : Ex dd W W') : Below W.heap.size W W' := ⟨h.os, h.tape, h.output, h.size, h.oG⟩
theorem GC {H : Type} {j : TypeId × Value → H} {P : Program} (l : laidOutB P = true) {W W' : World} {b : Nat → Bool} :
  ∀ {g : List TypeId} {vs : List Value} {ds : List (DataW H)} {c : List MemPlace}, (∀ t ∈ g, P.readableRec t = true ∧ t < P.types.size) →
   DataW.TrodAll j P W 0 (fun _ => true) true g vs ds c → (∀ p ∈ c, W.sameAt W' p) → (∀ p ∈ c, b p.block = true) → DataW.TrodAll j P W' 0 b true g vs ds c
 | [], _, _, _, _, h, _, _ => by
  obtain ⟨rfl, rfl, rfl⟩ := trodAll_nil h
  exact trodAll_mk0
 | t :: g, _, _, _, i, h, h1, k => by
  obtain ⟨v, vs, d, ds, p, q, rfl, rfl, rfl, m, n⟩ := trodAll_cons h
  exact trodAll_cons_mk (WideElems.Trod_stays l (i t (by simp)).1 (i t (by simp)).2 m (fun x a => h1 x (by simp [a])) (fun x a => k x (by simp [a])))
   (GC l (fun u hu => i u (by simp [hu])) n (fun x a => h1 x (by simp [a])) (fun x a => k x (by simp [a])))
theorem Pj {H : Type} {enc : TypeId × Value → H} {P : Program} (I : laidOutB P = true) {f : Func} {s : ChangeSpec} {apart fresh handsOn again : Bool} {W W' : World} {args : Array Value} {v : Value} {ds gs : List (DataW H)} {before : List MemPlace} (L : ∀ t ∈ f.params.toList, P.readableRec t = true ∧ t < P.types.size) (l : s.vars = []) (n : DataW.Whole enc P f.params.toList s.vars apart W args.toList ds gs before) {dd : Bool} (A : Ex dd W W') (a : ∀ (b : Nat) (sp : Nat → Bool) (G : Bool), DataW.TrodAll enc P W' b sp G f.resultTypes.toList (v.resultList f.resultTypes.size) (s.fn H (ds ++ gs)).results []) (c : (s.fn H (ds ++ gs)).args = ds) (g : (s.fn H (ds ++ gs)).vars = []) (y : ∀ (j : Nat) (t : TypeId) (r : Value), f.resultTypes[j]? = some t → (v.resultList f.resultTypes.size)[j]? = some r → Value.okWide P W' .any 0 t r) :
  s.post enc P f apart fresh handsOn again W args v W' := by
 have d := n.lt
 have hold : ∀ p ∈ before, (fun b => decide (b < W.heap.size)) p.block = true := fun p hp => by simpa using d p hp
 have u := Ex.below A
 have o := n
 obtain ⟨p, q, F, D, i, M, J⟩ := n
 rw [l] at D
 obtain ⟨rfl, rfl⟩ := trodVars_none D
 rw [bT] at i
 subst i
 have k : ∀ sp : Nat → Bool, (∀ p ∈ before, sp p.block = true) → DataW.TrodAll enc P W' 0 sp true f.params.toList args.toList (s.fn H (ds ++ [])).args before := fun sp z => by
  rw [c]
  exact GC I L F (fun x A => u.same (d x A)) z
 have m : ∀ sp : Nat → Bool, DataW.TrodVars enc P W' sp s.vars (s.fn H (ds ++ [])).vars [] := fun sp => by
  rw [g, l]; rfl
 refine ⟨ds, [], before, [], before, [], o, a _ _ _, k _ hold, m _, World.keptBut_mono (fun p hp => ⟨hp, ?_⟩) (u.frame (· ∈ before)), fun _ => ?_⟩
 ·exact Or.inr (Or.inl hp)
 ·refine ⟨y, _, _, ([] ++ before) ++ [], ⟨[] ++ before, [], trodAll_append (k _ (fun _ _ => rfl)) (a _ _ _), m _, rfl, ?_, ?_⟩, ?_⟩
  ·intro b off hp
   have h : MemPlace.cell b off ∈ before := by simpa using hp
   rw [World.frozen?_of_block (w := W) (u.block b (d _ h))]
   exact M b off h
  ·intro ha
   simpa using J ha
  ·intro p hp _
   simpa using hp
end Go.Proofs.YtklbhegeiijbjaaGreat.Lf
namespace Go.Proofs.YtklbhegeiijbjaaGreat.Lf
open Go.ChangeShapes Go.WideShapes Go.ChangeAt Go.RowKit
open Go.Proofs.YtklbhegeiijbjaaGreat (Rows.uptoBulk Rows.uptoBulkAll Rows.uptoSmall)
def Jp {α : Type} (P : Program) (t : TypeId) (R : sO α) (sz : α → Nat) : Prop :=
 ∀ (H : Type) (b : TypeId × Value → H) (W : World) (base : Nat) (sp : Nat → Bool) (c : Bool) (fuel : Nat) (cs : List Value) (x : DataW H × List MemPlace),
  DataW.trod b P W base sp c fuel t cs = some x → ∃ a : α, R (hp W) cs a ∧ sz a ≤ Rows.uptoBulk x.1
theorem IC.rel {α : Type} {P : Program} {t : TypeId} {enc : α → List Value} {sz : α → Nat} (h : IC P t enc sz) : Jp P t (Pl enc) sz := fun H a W base sp b fuel cs x c => h H a W base sp b fuel cs x c
end Go.Proofs.YtklbhegeiijbjaaGreat.Lf
namespace Go.Proofs.YtklbhegeiijbjaaGreat.Lf
open Go.ChangeShapes Go.WideShapes Go.ChangeAt Go.RowKit
open Go.Proofs.YtklbhegeiijbjaaGreat (Rows.uptoBulk Rows.uptoBulkAll Rows.uptoSmall)
theorem IF {H : Type} : ∀ l : List (DataW H), Rows.uptoBulkAll l = (l.map Rows.uptoBulk).sum
 | [] => by simp [Rows.uptoBulkAll]
 | d :: l => by simp [Rows.uptoBulkAll, IF l]
theorem QS {α : Type} (g : α → Nat) : ∀ (n : Nat) (f : Nat → Nat) {l : List α}, l.length = n → (∀ i x, l[i]? = some x → g x ≤ f i) → (l.map g).sum ≤ ((List.range n).map f).sum
 | 0, f, l, b, h => by
  obtain rfl := fA.1 b
  simp
 | n + 1, f, [], b, h => by cases b
 | n + 1, f, a :: l, b, h => by
  rw [List.range_succ_eq_map, bM, bM, ie, ie, fS]
  have h1 := h 0 a rfl
  have d := QS g n (f ∘ Nat.succ) (l := l) (by simpa using b) (fun i x c => h (i + 1) x (by simpa using c))
  omega
def vm {α : Type} (sz : α → Nat) (l : List α) : Nat := (l.map fun a => max 1 (sz a)).sum
theorem DA {α : Type} (sz : α → Nat) : ∀ l : List α, l.length ≤ vm sz l
 | [] => bA _
 | a :: l => by have := DA sz l; simp only [vm, bM, ie, aO] at this ⊢; omega
theorem Ko {α : Type} {sz : α → Nat} : ∀ {l : List α} {a : α}, a ∈ l → sz a ≤ vm sz l
 | b :: l, a, h => by
  simp only [vm, bM, ie]
  rcases aS.1 h with rfl | h
  ·omega
  ·have := Ko (sz := sz) h; simp only [vm] at this; omega
theorem Io {α : Type} {P : Program} {t e : TypeId} {k : Nat} {R : sO α} {sz : α → Nat} (hk : P.cellsOf e = k) (J : 0 < k) (ht : P.underlying t = some (.slice e)) {H : Type} {U : TypeId × Value → H} {W : World} {base : Nat} {sp : Nat → Bool} {held : Bool} {fuel : Nat} {cs : List Value} {x : DataW H × List MemPlace} (hd : ∀ (fuel : Nat) (cs : List Value) (y : DataW H × List MemPlace), DataW.trod U P W base sp held fuel e cs = some y → SizeOf.sizeOf y.1 < SizeOf.sizeOf x.1 → ∃ a : α, R (hp W) cs a ∧ sz a ≤ Rows.uptoBulk y.1) (hf : DataW.trod U P W base sp held fuel t cs = some x) :
  ∃ v l, cs = [v] ∧ Sl R k (hp W) v l ∧ vm sz l ≤ Rows.uptoBulk x.1 := by
 rcases Go.Deep.open_slice ht hf with ⟨rfl, rfl⟩ | ⟨a, ln, cp, m, n, D, Q, rfl, hb, hl, hm, M, rfl, G⟩
 ·exact ⟨_, [], rfl, ⟨none, 0, rfl, bA _, fO _, fun h => absurd h (Nat.lt_irrefl _)⟩, fO _⟩
 ·have aa : ln ≤ m := by rw [M]; split <;> omega
  have hB : ((List.range ln).map fun i => Rows.uptoBulk (D i)).sum ≤ Rows.uptoBulk (DataW.slice ((List.range ln).map D) ((List.range (m - ln)).map fun j => D (ln + j))) := by
   simp only [Rows.uptoBulk]
   rw [IF, fS]
   have e : ((List.range ln).map fun i => Rows.uptoBulk (D i)) = (List.range ln).map (Rows.uptoBulk ∘ D) := rfl
   rw [e]
   omega
  have hS : ∀ i, i < ln → SizeOf.sizeOf (D i) < SizeOf.sizeOf (DataW.slice ((List.range ln).map D) ((List.range (m - ln)).map fun j => D (ln + j))) := fun i I => by
   have := List.sizeOf_lt_of_mem (bJ.2 ⟨i, List.mem_range.2 I, rfl⟩ : D i ∈ (List.range ln).map D)
   rw [DataW.slice.sizeOf_spec]; omega
  simp only at hd ⊢
  generalize Rows.uptoBulk (DataW.slice ((List.range ln).map D) ((List.range (m - ln)).map fun j => D (ln + j))) = B at hB
  obtain ⟨l, L, q⟩ := Ur (α := α) (n := ln) (p := fun i x => ∃ b, W.cells? base (a.add (i * k)) k = some b ∧ R (hp W) b x ∧ sz x ≤ Rows.uptoBulk (D i)) fun i I => by
   obtain ⟨b, h1, w⟩ := G i (by omega)
   obtain ⟨x, hR, z⟩ := hd _ _ _ w (hS i I)
   rw [hk] at h1
   exact ⟨x, b, h1, hR, z⟩
  subst L
  refine ⟨_, l, rfl, ⟨some a, cp, rfl, hl, hm, fun h0 => ?_⟩, ?_⟩
  ·have c : ∀ i x, l[i]? = some x → ∃ b, R (hp W) b x ∧ b.length = k ∧ ∀ j, j < k → W.cell? ((a.add (i * k)).add j) = b[j]? := fun i x r =>
    let ⟨b, h1, w, _⟩ := q i x r
    let ⟨_, z, Y⟩ := World.cells?_some h1
    ⟨b, w, z, Y⟩
   obtain ⟨a6, _, Y, h5⟩ := c 0 l[0] (by simp [h0])
   have A := h5 0 J
   rw [Nat.zero_mul, dF (by omega)] at A
   have e0 : (a.add 0).add 0 = a := rfl
   rw [e0] at A
   obtain ⟨cs, T, fr, F, Z, _⟩ := Nf A
   obtain ⟨s, u, a1⟩ := a
   simp only at F Z
   subst Z
   refine ⟨s, u, cs, T, fr, rfl, F, fun i x r => ?_⟩
   obtain ⟨b, gR, g1, g2⟩ := c i x r
   refine ⟨b, g1, gR, fun j y hy => ?_⟩
   have hj : j < k := by
    rw [← g1]
    exact (bN.1 hy).1
   have h9 := g2 j hj
   rw [Go.Deep.add_add, hy] at h9
   obtain ⟨O, T', a7, d, a8, g⟩ := Nf h9
   have o : (Addr.add ⟨s, u, none⟩ (i * k + j)).block = s ∧ (Addr.add ⟨s, u, none⟩ (i * k + j)).off = u + (i * k + j) := by
    unfold Addr.add
    split
    ·rename_i hz
     rw [hz]; exact ⟨rfl, rfl⟩
    ·exact ⟨rfl, rfl⟩
   rw [o.1, F] at d
   cases d
   rw [o.2, ← fL] at g
   exact g
  ·refine dO (QS _ _ _ rfl fun i x r => ?_) hB
   exact Nat.max_le.2 ⟨V2 _, (q i x r).elim fun _ h => h.2.2⟩
theorem uX {α : Type} {P : Program} {t e : TypeId} {k : Nat} {R : sO α} {sz : α → Nat} (hk : P.cellsOf e = k) (a : 0 < k) (c : Jp P e R sz) (g : P.underlying t = some (.slice e)) {H : Type} {b : TypeId × Value → H} {W : World} {base : Nat} {sp : Nat → Bool} {held : Bool} {fuel : Nat} {cs : List Value} {x : DataW H × List MemPlace} (d : DataW.trod b P W base sp held fuel t cs = some x) :
  ∃ v l, cs = [v] ∧ Sl R k (hp W) v l ∧ vm sz l ≤ Rows.uptoBulk x.1 := Io hk a g (fun _ _ _ h _ => c _ _ _ _ _ _ _ _ _ h) d
theorem Ix {α H : Type} {j : TypeId × Value → H} {P : Program} {t e : TypeId} {k : Nat} {enc : α → List Value} {sz : α → Nat} (hk : P.cellsOf e = k) (b : 0 < k) (q : IC P e enc sz) (g : P.underlying t = some (.slice e)) {W : World} {base i : Nat} {r : Reach} {sp : Nat → Bool} {held : Bool} {v : Value} {d : DataW H} {w : List MemPlace} (a : Value.okWide P W r i t v) (h : DataW.Trod j P W base sp held t v d w) :
  ∃ l : List α, Sl (Pl enc) k (hp W) v l ∧ vm sz l ≤ Rows.uptoBulk d := by
 obtain ⟨A, ln, c, rfl⟩ := okWide_slice g a
 obtain ⟨fuel, s⟩ := h
 obtain ⟨u, l, h1, m, n⟩ := uX hk b q.rel g s
 have o : (Value.slice A ln c).cells.toList = [Value.slice A ln c] := rfl
 rw [o] at h1
 cases h1
 exact ⟨l, m, n⟩
end Go.Proofs.YtklbhegeiijbjaaGreat.Lf
namespace Go.Proofs.YtklbhegeiijbjaaGreat.Lf
open Go.ChangeShapes Go.WideShapes Go.ChangeAt Go.RowKit
open Go.Proofs.YtklbhegeiijbjaaGreat (Rows.uptoBulk Rows.uptoBulkAll Rows.uptoSmall)
def Ro {α : Type} (R : sO α) (Q : α → Prop) : sO α := fun μ ys x => R μ ys x ∧ Q x
theorem Sl.all {α : Type} {R : sO α} {Q : α → Prop} {k : Nat} {μ : mN} {v : Value} {l : List α} (h : Sl (Ro R Q) k μ v l) : Sl R k μ v l ∧ ∀ x ∈ l, Q x := by
 obtain ⟨A, c, rfl, h1, j, r⟩ := h
 cases l with
 | nil => exact ⟨⟨A, c, rfl, h1, j, fun h => absurd h (by simp)⟩, by simp⟩
 | cons a l =>
  obtain ⟨b, o, cs, T, fr, e, s, m⟩ := r (by simp)
  refine ⟨⟨A, c, rfl, h1, j, fun _ => ⟨b, o, cs, T, fr, e, s, fun i x g => ?_⟩⟩, fun x g => ?_⟩
  ·obtain ⟨ys, n, d, q⟩ := m i x g
   exact ⟨ys, n, d.1, q⟩
  ·obtain ⟨i, t⟩ := List.mem_iff_getElem?.1 g
   obtain ⟨ys, n, d, q⟩ := m i x t
   exact d.2
theorem Ue {P : Program} {t : TypeId} (a : P.underlying t = some (.int .u8)) : Jp P t (Ro (Pl (ns .u8)) (fun x => 0 ≤ x ∧ x < 256)) (fun _ => 0) := by
 intro H b W base sp c fuel cs x h
 obtain ⟨n, rfl, rfl, hw⟩ := DataW.trod_int a h
 refine ⟨n, ⟨rfl, ?_⟩, fO _⟩
 simp [Lit.wf, IntKind.min, IntKind.max, IntKind.bits, IntKind.signed] at hw
 omega
end Go.Proofs.YtklbhegeiijbjaaGreat.Lf
namespace Go.Proofs.YtklbhegeiijbjaaGreat
open Go.Proofs.Tryz renaming prog → pg0
set_option maxRecDepth 10000
open Go.ChangeShapes Go.WideShapes Go.ChangeAt Go.RowKit
open Go.Proofs.YtklbhegeiijbjaaGreat Go.Proofs.YtklbhegeiijbjaaGreat.Lf
def kF := @Tryz.underlying28
def kQ := @Tryz.underlying34
theorem Uq : Tryz.prog.cellsOf 36 = 9 := by kernel_rfl
theorem Xh {α : Type} {l : List α} (h : l.length = 7) : ∃ a0 a a2 a3 a4 a5 b, l = [a0, a, a2, a3, a4, a5, b] := by
 match l, h with
 | [a0, a, a2, a3, a4, a5, b], _ => exact ⟨a0, a, a2, a3, a4, a5, b, rfl⟩
theorem UJ {α : Type} {l : List α} (h : l.length = 9) : ∃ a0 a a2 a3 a4 a5 b c d, l = [a0, a, a2, a3, a4, a5, b, c, d] := by
 match l, h with
 | [a0, a, a2, a3, a4, a5, b, c, d], _ => exact ⟨a0, a, a2, a3, a4, a5, b, c, d, rfl⟩
theorem Uy : Tryz.prog.cellsOf 25 = 3 := by kernel_rfl
theorem V5 {α : Type} {l : List α} (h : l.length = 3) : ∃ a0 a a2, l = [a0, a, a2] := by
 match l, h with
 | [a0, a, a2], _ => exact ⟨a0, a, a2, rfl⟩
theorem JY : Tryz.prog.cellsOf 9 = 1 := by kernel_rfl
theorem KW : IC pg0 9 (fun s : ByteArray => [.string s]) (fun s => s.size) := Pq Tryz.underlying9
theorem TL : Tryz.prog.cellsOf 22 = 1 := by kernel_rfl
theorem OF : Tryz.prog.cellsOf 60 = 15 := by kernel_rfl
theorem PV {α : Type} {l : List α} (h : l.length = 2) : ∃ a0 a, l = [a0, a] := by
 match l, h with
 | [a0, a], _ => exact ⟨a0, a, rfl⟩
theorem Wb {α : Type} {l : List α} (h : l.length = 15) : ∃ a0 g a2 a3 a4 a5 i j k a9 a b a12 c d, l = [a0, g, a2, a3, a4, a5, i, j, k, a9, a, b, a12, c, d] := by
 match l, h with
 | [a0, g, a2, a3, a4, a5, i, j, k, a9, a, b, a12, c, d], _ => exact ⟨a0, g, a2, a3, a4, a5, i, j, k, a9, a, b, a12, c, d, rfl⟩
theorem Uw : Tryz.prog.cellsOf 55 = 10 := by kernel_rfl
theorem E9 : Tryz.prog.cellsOf 52 = 9 := by kernel_rfl
theorem PI : IC pg0 3 (fun n : Int => [.int .i64 n]) (fun _ => 0) := T9 Tryz.underlying3
theorem M7 : Tryz.prog.cellsOf 3 = 1 := by kernel_rfl
theorem BP : Tryz.prog.cellsOf 50 = 2 := by kernel_rfl
def tQ (x : lC) : Nat := x.lK.size + x.lN.size
theorem EC : IC pg0 50 lG tQ := by
 intro H d W base sp i fuel cs x h
 obtain ⟨xs, n, _, rfl, m, hlen, j⟩ := fF Tryz.underlying50 h
 obtain ⟨q, r, rfl⟩ := PV hlen
 obtain ⟨a, c1, rfl⟩ := PV (m.trans BP)
 have g : DataW.trod d pg0 W base sp i n 9 (([a, c1].drop 0).take (Tryz.prog.cellsOf 9)) = some q := j 0 _ rfl
 have h1 : DataW.trod d pg0 W base sp i n 9 (([a, c1].drop 1).take (Tryz.prog.cellsOf 9)) = some r := j 1 _ rfl
 simp only [JY, List.drop, List.take] at g h1
 obtain ⟨o, b, k⟩ := KW _ _ _ _ _ _ _ _ _ g
 obtain ⟨s1, c, l⟩ := KW _ _ _ _ _ _ _ _ _ h1
 simp only [bL, eW] at b c
 obtain rfl := b
 obtain rfl := c
 refine ⟨⟨o, s1⟩, rfl, ?_⟩
 simp only [List.map, Rows.uptoBulk, Rows.uptoBulkAll, tQ] at k l ⊢
 omega
theorem Xd {α : Type} {l : List α} (h : l.length = 6) : ∃ a0 a a2 a3 a4 a5, l = [a0, a, a2, a3, a4, a5] := by
 match l, h with
 | [a0, a, a2, a3, a4, a5], _ => exact ⟨a0, a, a2, a3, a4, a5, rfl⟩
def wN (x : lD) : Nat := tQ x.Head + x.mX.size + tQ x.B + tQ x.C + x.mQ.size
theorem Mz : IC pg0 52 lE wN := by
 intro H k W base sp l fuel cs x h
 obtain ⟨xs, n, _, rfl, M, hlen, m⟩ := fF Tryz.underlying52 h
 obtain ⟨T, U, Y, Z, y4, y5, rfl⟩ := Xd hlen
 obtain ⟨a, c1, c2, b, c, d, g, i, j, rfl⟩ := UJ (M.trans E9)
 have v : DataW.trod k pg0 W base sp l n 3 (([a, c1, c2, b, c, d, g, i, j].drop 0).take (Tryz.prog.cellsOf 3)) = some T := m 0 _ rfl
 have h1 : DataW.trod k pg0 W base sp l n 50 (([a, c1, c2, b, c, d, g, i, j].drop 1).take (Tryz.prog.cellsOf 50)) = some U := m 1 _ rfl
 have w : DataW.trod k pg0 W base sp l n 9 (([a, c1, c2, b, c, d, g, i, j].drop 3).take (Tryz.prog.cellsOf 9)) = some Y := m 2 _ rfl
 have y : DataW.trod k pg0 W base sp l n 50 (([a, c1, c2, b, c, d, g, i, j].drop 4).take (Tryz.prog.cellsOf 50)) = some Z := m 3 _ rfl
 have z : DataW.trod k pg0 W base sp l n 50 (([a, c1, c2, b, c, d, g, i, j].drop 6).take (Tryz.prog.cellsOf 50)) = some y4 := m 4 _ rfl
 have A : DataW.trod k pg0 W base sp l n 9 (([a, c1, c2, b, c, d, g, i, j].drop 8).take (Tryz.prog.cellsOf 9)) = some y5 := m 5 _ rfl
 simp only [M7, BP, JY, List.drop, List.take] at v h1 w y z A
 obtain ⟨O, o, D⟩ := PI _ _ _ _ _ _ _ _ _ v
 obtain ⟨s1, q, F⟩ := EC _ _ _ _ _ _ _ _ _ h1
 obtain ⟨s2, r, G⟩ := KW _ _ _ _ _ _ _ _ _ w
 obtain ⟨P, s, I⟩ := EC _ _ _ _ _ _ _ _ _ y
 obtain ⟨Q, t, J⟩ := EC _ _ _ _ _ _ _ _ _ z
 obtain ⟨R, u, L⟩ := KW _ _ _ _ _ _ _ _ _ A
 simp only [lG, bL, eW] at o q r s t u
 obtain rfl := o
 obtain ⟨rfl, rfl⟩ := q
 obtain rfl := r
 obtain ⟨rfl, rfl⟩ := s
 obtain ⟨rfl, rfl⟩ := t
 obtain rfl := u
 refine ⟨⟨O, s1, s2, P, Q, R⟩, rfl, ?_⟩
 simp only [List.map, Rows.uptoBulk, Rows.uptoBulkAll, wN] at D F G I J L ⊢
 omega
theorem TI : Tryz.prog.cellsOf 53 = 1 := by kernel_rfl
theorem U0 : Tryz.prog.cellsOf 5 = 1 := by kernel_rfl
theorem WC : Jp pg0 5 (Ro (Pl (ns .u8)) (fun x => 0 ≤ x ∧ x < 256)) (fun _ => 0) := Ue Tryz.underlying5
theorem H0 : Tryz.prog.cellsOf 58 = 5 := by kernel_rfl
theorem Xt {α : Type} {l : List α} (h : l.length = 4) : ∃ a0 a a2 a3, l = [a0, a, a2, a3] := by
 match l, h with
 | [a0, a, a2, a3], _ => exact ⟨a0, a, a2, a3, rfl⟩
theorem Xs {α : Type} {l : List α} (h : l.length = 5) : ∃ a0 a a2 a3 a4, l = [a0, a, a2, a3, a4] := by
 match l, h with
 | [a0, a, a2, a3, a4], _ => exact ⟨a0, a, a2, a3, a4, rfl⟩
theorem Us : Tryz.prog.cellsOf 56 = 1 := by kernel_rfl
theorem Xm {H : Type} {x : DataW H × List MemPlace} {ys : List (DataW H × List MemPlace)} {p : List MemPlace} (a : x = (.agg (ys.map (·.1)), p)) (i : Nat) {y : DataW H × List MemPlace} (h : ys[i]? = some y) : SizeOf.sizeOf y.1 < SizeOf.sizeOf x.1 := by
 subst a
 have := List.sizeOf_lt_of_mem (bJ.2 ⟨y, dQ h, rfl⟩ : y.1 ∈ ys.map (·.1))
 simp only [DataW.agg.sizeOf_spec]; omega
theorem Nh : ∀ l : List Formula, szFL l ≤ vm De l
 | [] => bA _
 | k :: l => by have := Nh l; rw [szFL]; simp only [vm, bM, ie] at this ⊢; omega
theorem U6 : ∀ (N : Nat) (H : Type) (I : TypeId × Value → H) (W : World) (base : Nat) (sp : Nat → Bool) (J : Bool) (fuel : Nat) (cs : List Value) (x : DataW H × List MemPlace),
  DataW.trod I pg0 W base sp J fuel 58 cs = some x → SizeOf.sizeOf x.1 < N → ∃ a : Formula, lI (hp W) cs a ∧ De a ≤ Rows.uptoBulk x.1 := by
 intro N
 induction N with
 | zero => intro _ _ _ _ _ _ _ _ _ _ h; exact absurd h (Nat.not_lt_zero _)
 | succ N ih =>
  intro H I W base sp J fuel cs x h hN
  obtain ⟨a1, v, _, q, w, o, j⟩ := fF Tryz.underlying58 h
  obtain ⟨r, s, t, u, rfl⟩ := Xt o
  obtain ⟨b, c, d, g, i, rfl⟩ := Xs (w.trans H0)
  have k : DataW.trod _ pg0 W _ _ _ v 3 (([b, c, d, g, i].drop 0).take (Tryz.prog.cellsOf 3)) = some r := j 0 _ rfl
  have l : DataW.trod _ pg0 W _ _ _ v 3 (([b, c, d, g, i].drop 1).take (Tryz.prog.cellsOf 3)) = some s := j 1 _ rfl
  have m : DataW.trod _ pg0 W _ _ _ v 50 (([b, c, d, g, i].drop 2).take (Tryz.prog.cellsOf 50)) = some t := j 2 _ rfl
  have n : DataW.trod _ pg0 W _ _ _ v 56 (([b, c, d, g, i].drop 4).take (Tryz.prog.cellsOf 56)) = some u := j 3 _ rfl
  simp only [M7, BP, Us, List.drop, List.take] at k l m n
  obtain ⟨s2, A, O⟩ := PI _ _ _ _ _ _ _ _ _ k
  simp only [bL, eW] at A
  obtain rfl := A
  obtain ⟨Y, D, P⟩ := PI _ _ _ _ _ _ _ _ _ l
  simp only [bL, eW] at D
  obtain rfl := D
  obtain ⟨Z, F, Q⟩ := EC _ _ _ _ _ _ _ _ _ m
  simp only [lG, bL, eW] at F
  obtain ⟨rfl, rfl⟩ := F
  obtain ⟨v5, L, G, U, R⟩ := Io H0 (by decide) Tryz.underlying56 (fun f cs y h T => ih _ _ _ _ _ _ _ _ _ h (by have := Xm q 3 rfl; omega)) n
  simp only [bL, eW] at G
  obtain rfl := G
  have M := bB (fun z => Rows.uptoBulk z.1) q
  refine ⟨⟨s2, Y, Z, L⟩, lI.mk ⟨_, rfl, U⟩, ?_⟩
  have T := Nh L
  simp only [List.map, Rows.uptoBulk, Rows.uptoBulkAll, tQ] at O P Q R M ⊢
  rw [Nx]
  simp only
  omega
theorem Qn : Jp pg0 58 lI De := fun H a W base sp b fuel cs x h => U6 _ H a W base sp b fuel cs x h (bF _)
def yl (x : mI) : Nat := wN x.Signed.lD + vm (fun _ : Int => 0) x.Signed.Tag + 1 + De x.lM + 1
def Rz (x : mI) : Prop := (∀ y ∈ x.Signed.Tag, 0 ≤ y ∧ y < 256)
theorem Vx : Jp pg0 60 (Ro mC Rz) yl := by
 intro H eh W base sp hd fuel cs x h
 obtain ⟨a6, n6, _, R, Q, y, G⟩ := fF Tryz.underlying60 h
 obtain ⟨J, L, rfl⟩ := PV y
 obtain ⟨a, b, c, d, g, i, j, k, l, m, n, o, q, r, s, rfl⟩ := Wb (Q.trans OF)
 have t : DataW.trod _ pg0 W _ _ _ n6 55 (([a, b, c, d, g, i, j, k, l, m, n, o, q, r, s].drop 0).take (Tryz.prog.cellsOf 55)) = some J := G 0 _ rfl
 have u : DataW.trod _ pg0 W _ _ _ n6 58 (([a, b, c, d, g, i, j, k, l, m, n, o, q, r, s].drop 10).take (Tryz.prog.cellsOf 58)) = some L := G 1 _ rfl
 simp only [Uw, H0, List.drop, List.take] at t u
 obtain ⟨a7, n7, _, T, a1, A, I⟩ := fF Tryz.underlying55 t
 obtain ⟨M, O, rfl⟩ := PV A
 have v : DataW.trod _ pg0 W _ _ _ n7 52 (([a, b, c, d, g, i, j, k, l, m].drop 0).take (Tryz.prog.cellsOf 52)) = some M := I 0 _ rfl
 have w : DataW.trod _ pg0 W _ _ _ n7 53 (([a, b, c, d, g, i, j, k, l, m].drop 9).take (Tryz.prog.cellsOf 53)) = some O := I 1 _ rfl
 simp only [E9, TI, List.drop, List.take] at v w
 obtain ⟨s8, Z, b8⟩ := Mz _ _ _ _ _ _ _ _ _ v
 simp only [lE, lG, bL, eW] at Z
 obtain ⟨rfl, rfl, rfl, rfl, rfl, rfl, rfl, rfl, rfl⟩ := Z
 obtain ⟨v9, s9, e9, U, b9⟩ := uX U0 (by decide) WC Tryz.underlying53 w
 simp only [bL, eW] at e9
 obtain rfl := e9
 obtain ⟨U, g9⟩ := Lf.Sl.all U
 have b7 := bB (fun z => Rows.uptoBulk z.1) T
 obtain ⟨Y, D, P⟩ := Qn _ _ _ _ _ _ _ _ _ u
 obtain ⟨v10, F, D⟩ := D.out
 simp only [bL, eW] at F
 obtain ⟨rfl, rfl, rfl, rfl, rfl⟩ := F
 have b6 := bB (fun z => Rows.uptoBulk z.1) R
 refine ⟨⟨⟨s8, s9⟩, Y⟩, ⟨mC.mk ⟨_, _, rfl, U, D⟩, g9⟩, ?_⟩
 simp only [List.map, Rows.uptoBulk, Rows.uptoBulkAll, yl] at b8 b9 b7 P b6 ⊢
 omega
theorem Ui : Tryz.prog.cellsOf 23 = 1 := by kernel_rfl
theorem OQ : Tryz.prog.cellsOf 87 = 8 := by kernel_rfl
theorem Xw {α : Type} {l : List α} (h : l.length = 8) : ∃ a0 a a2 a3 a4 a5 b c, l = [a0, a, a2, a3, a4, a5, b, c] := by
 match l, h with
 | [a0, a, a2, a3, a4, a5, b, c], _ => exact ⟨a0, a, a2, a3, a4, a5, b, c, rfl⟩
theorem Oi : Tryz.prog.cellsOf 28 = 1 := by kernel_rfl
def Bw (x : nx) : Nat := tQ x.lC + De x.lM + vm wN x.nj + 1
def WE (x : nx) : Prop := True
theorem VY : Jp pg0 87 (Ro mZ WE) Bw := by
 intro H U W base sp Y fuel cs x h
 obtain ⟨Q, n11, _, D, A, q, o⟩ := fF Tryz.underlying87 h
 obtain ⟨s, t, u, rfl⟩ := V5 q
 obtain ⟨a, b, c, d, g, i, j, k, rfl⟩ := Xw (A.trans OQ)
 have l : DataW.trod _ pg0 W _ _ _ n11 50 (([a, b, c, d, g, i, j, k].drop 0).take (Tryz.prog.cellsOf 50)) = some s := o 0 _ rfl
 have m : DataW.trod _ pg0 W _ _ _ n11 58 (([a, b, c, d, g, i, j, k].drop 2).take (Tryz.prog.cellsOf 58)) = some t := o 1 _ rfl
 have n : DataW.trod _ pg0 W _ _ _ n11 28 (([a, b, c, d, g, i, j, k].drop 7).take (Tryz.prog.cellsOf 28)) = some u := o 2 _ rfl
 simp only [Oi, BP, H0, List.drop, List.take] at l m n
 obtain ⟨M, v, G⟩ := EC _ _ _ _ _ _ _ _ _ l
 simp only [lG, bL, eW] at v
 obtain ⟨rfl, rfl⟩ := v
 obtain ⟨O, r, I⟩ := Qn _ _ _ _ _ _ _ _ _ m
 obtain ⟨R, w, r⟩ := r.out
 simp only [bL, eW] at w
 obtain ⟨rfl, rfl, rfl, rfl, rfl⟩ := w
 obtain ⟨T, P, y, L, J⟩ := uX E9 (by decide) Mz.rel kF n
 simp only [bL, eW] at y
 obtain rfl := y
 have F := bB (fun z => Rows.uptoBulk z.1) D
 refine ⟨⟨M, O, P⟩, ⟨mZ.mk ⟨_, _, rfl, r, L⟩, trivial⟩, ?_⟩
 simp only [List.map, Rows.uptoBulk, Rows.uptoBulkAll, Bw] at G I J F ⊢
 omega
theorem TY : Tryz.prog.cellsOf 34 = 1 := by kernel_rfl
def Jv (x : ng) : Nat := x.lH.Name.size + vm yl x.lH.lZ + vm Bw x.lH.mq + 1 + x.mU.size + vm wN x.lV + vm wN x.Shown + vm tQ x.ml + vm tQ x.ms + 1
theorem Xi : IC pg0 4 (fun b : Bool => [.bool b]) (fun _ => 0) := by
 intro H eh W base sp hd fuel cs x h
 obtain ⟨n, rfl, rfl, _⟩ := DataW.trod_bool Tryz.underlying4 h
 exact ⟨n, rfl, Nat.zero_le _⟩
theorem UI : Tryz.prog.cellsOf 4 = 1 := by kernel_rfl
theorem Xj : Tryz.prog.readableRec 36 = true ∧ 36 < Tryz.prog.types.size := ⟨by kernel_rfl, iJ (by kernel_rfl)⟩
theorem Xf : Tryz.prog.readableRec 34 = true ∧ 34 < Tryz.prog.types.size := ⟨by kernel_rfl, iJ (by kernel_rfl)⟩
theorem Xe : Tryz.prog.readableRec 84 = true ∧ 84 < Tryz.prog.types.size := ⟨by kernel_rfl, iJ (by kernel_rfl)⟩
theorem F3 (c : lD) : AR c = wN c := by unfold AR wN tQ; omega
theorem OA {α : Type} (sz : α → Nat) (h : ∀ a, 2 ≤ sz a) : ∀ l : List α, 2 * l.length ≤ vm sz l
 | [] => fO _
 | a :: l => by have := OA sz h l; have := h a; simp only [vm, bM, ie, aO] at *; omega
theorem DT (y : mI) : yl y = wN y.Signed.lD + vm (fun _ : Int => 0) y.Signed.Tag + 1 + De y.lM + 1 := rfl
theorem NT (y : nx) : Bw y = tQ y.lC + De y.lM + vm wN y.nj + 1 := rfl
theorem HY : ∀ l : List lD, xW l ≤ 21 * vm wN l
 | [] => fO _
 | c :: l => by have := HY l; rw [xW, F3]; simp only [vm, bM, ie] at *; omega
theorem OI : ∀ l : List mI, EP l ≤ 21 * vm yl l
 | [] => fO _
 | x :: l => by
  have := OI l
  have := DA (fun _ : Int => 0) x.Signed.Tag
  rw [EP, F3]
  have e := DT x
  simp only [vm, bM, ie] at *; omega
theorem Pd : ∀ l : List nx, DH l ≤ 21 * vm Bw l
 | [] => fO _
 | x :: l => by
  have := Pd l
  have := HY x.nj
  rw [DH]
  have e := NT x
  unfold tQ at e
  have a : vm Bw (x :: l) = max 1 (Bw x) + vm Bw l := rfl
  omega
theorem Sj (x : lH) (d : x.Name.size ≤ 1048576) (h1 : vm yl x.lZ ≤ 1048576) (g : vm Bw x.mq ≤ 1048576) : PG x ∧ x.lZ.length ≤ 600000 ∧ M3 x ≤ 1000000000 := by
 have c1 := OA yl (fun y => by rw [DT]; omega) x.lZ
 have c2 := DA Bw x.mq
 have g1 : ∀ y ∈ x.lZ, wN y.Signed.lD ≤ 1048576 ∧ mW y.lM ≤ 1048576 := fun y a => by
  have := Ko (sz := yl) a
  have e := DT y
  have := Hv y.lM
  omega
 have g2 : ∀ y ∈ x.mq, mW y.lM ≤ 1048576 ∧ vm wN y.nj ≤ 1048576 := fun y a => by
  have := Ko (sz := Bw) a
  have e := NT y
  have := Hv y.lM
  omega
 refine ⟨{ wR := by omega, xX := by omega, rel := fun y a => ?_, Hj := fun y a => ?_, Jy := fun y a => ?_, XB := fun y a => ?_, XV := fun y a c b => ?_ }, by omega, ?_⟩
 ·have := (g1 y a).2; omega
 ·have := (g2 y a).1; omega
 ·have := (g2 y a).2; have := DA wN y.nj; omega
 ·have := (g1 y a).1; rw [F3]; omega
 ·have := (g2 y a).2; have := Ko (sz := wN) b; rw [F3]; omega
 ·have := OI x.lZ; have := Pd x.mq; unfold M3; omega
theorem IT : ∀ l : List lC, xS l ≤ 6 * vm tQ l
 | [] => fO _
 | r :: l => by
  have := IT l
  have a : vm tQ (r :: l) = max 1 (tQ r) + vm tQ l := rfl
  have b : tQ r = r.lK.size + r.lN.size := rfl
  rw [xS]; omega
theorem Ua (s : ng) (h : Jv s ≤ 1048576) : SQ s := by
 unfold Jv at h
 have a := Sj s.lH (by omega) (by omega) (by omega)
 have c1 := HY s.lV
 have c2 := HY s.Shown
 have d := IT s.ml
 have g := IT s.ms
 have b := DA tQ s.ml
 have c := DA tQ s.ms
 exact { p := a.1, go := a.2.2, acc := by omega, sh := by omega, wl := by omega, al := by omega, Bd := by omega, ask := by omega, peer := by omega }
theorem own : ownKnob Tryz.prog.godebug = none := by kernel_rfl
theorem SG : laidOutB pg0 = true := by kernel_rfl
theorem SB (H : Type) (enc : TypeId × Value → H) (W : World) (base : Nat) (args : Array Value) (ds gs : List (DataW H)) (before : List MemPlace) (r : ∀ (j : Nat) t v, Tryz.f6.params[j]? = some t → args[j]? = some v → Value.okWide pg0 W .any base t v) (hW : DataW.Whole enc pg0 Tryz.f6.params.toList Rows.thriftHidesSpec.vars false W args.toList ds gs before) (hk : Rows.uptoSmall H (ds ++ gs) = true) :
  Calls pg0 6 args W fun e W' => ∃ v, e = .returned v ∧ Rows.thriftHidesSpec.post enc pg0 Tryz.f6 false true false false W args v W' := by
 have bj := hW
 obtain ⟨p, q, bi, hV, rfl, c3, c4⟩ := hW
 have hA : DataW.TrodAll enc pg0 W 0 (fun _ => true) true Tryz.f6.params.toList args.toList ds p := bi
 have hr : ∀ t ∈ Tryz.f6.params.toList, Tryz.prog.readableRec t = true ∧ t < Tryz.prog.types.size := by
  rw [Tryz.params6]
  intro t ht
  simp only [aS, dY, iY] at ht
  rcases ht with rfl | rfl | rfl
  ·exact Xj
  ·exact Xf
  ·exact Xe
 rw [Tryz.params6] at hA r
 obtain ⟨v0, c7, d0, bw, p0, q0, bk, rfl, rfl, h0, r0⟩ := trodAll_cons hA
 obtain ⟨v1, c8, d1, bx, p1, q1, rfl, rfl, rfl, h1, r1⟩ := trodAll_cons r0
 obtain ⟨v2, c9, d2, bz, p2, q2, rfl, rfl, rfl, h2, r2⟩ := trodAll_cons r1
 obtain ⟨rfl, rfl, rfl⟩ := trodAll_nil r2
 obtain rfl : args = #[v0, v1, v2] := by cases args; simp_all
 obtain ⟨rfl, rfl⟩ := trodVars_none hV
 have k0 := r 0 36 v0 rfl rfl
 have k1 := r 1 34 v1 rfl rfl
 have k2 := r 2 84 v2 rfl rfl
 obtain ⟨an, rfl, _⟩ := okWide_struct Tryz.underlying36 k0
 obtain ⟨c0, aE⟩ := h0
 obtain ⟨bl, rfl⟩ : ∃ l : List Value, an = l.toArray := ⟨an.toList, by simp⟩
 change DataW.trod _ _ _ _ _ _ _ _ bl = some _ at aE
 obtain ⟨bt, n15, _, b1, b0, L, o⟩ := fF Tryz.underlying36 aE
 obtain ⟨aa, ab, ad, ae, af, ag, ah, rfl⟩ := Xh L
 obtain ⟨c, a, b, m, n, d, g, h, i, rfl⟩ := UJ (b0.trans Uq)
 have s : DataW.trod _ pg0 W _ _ _ n15 25 (([c, a, b, m, n, d, g, h, i].drop 0).take (Tryz.prog.cellsOf 25)) = some aa := o 0 _ rfl
 have u : DataW.trod _ pg0 W _ _ _ n15 9 (([c, a, b, m, n, d, g, h, i].drop 3).take (Tryz.prog.cellsOf 9)) = some ab := o 1 _ rfl
 have w : DataW.trod _ pg0 W _ _ _ n15 3 (([c, a, b, m, n, d, g, h, i].drop 4).take (Tryz.prog.cellsOf 3)) = some ad := o 2 _ rfl
 have x : DataW.trod _ pg0 W _ _ _ n15 28 (([c, a, b, m, n, d, g, h, i].drop 5).take (Tryz.prog.cellsOf 28)) = some ae := o 3 _ rfl
 have y : DataW.trod _ pg0 W _ _ _ n15 28 (([c, a, b, m, n, d, g, h, i].drop 6).take (Tryz.prog.cellsOf 28)) = some af := o 4 _ rfl
 have A : DataW.trod _ pg0 W _ _ _ n15 34 (([c, a, b, m, n, d, g, h, i].drop 7).take (Tryz.prog.cellsOf 34)) = some ag := o 5 _ rfl
 have D : DataW.trod _ pg0 W _ _ _ n15 34 (([c, a, b, m, n, d, g, h, i].drop 8).take (Tryz.prog.cellsOf 34)) = some ah := o 6 _ rfl
 simp only [Uy, Oi, M7, TY, JY, List.drop, List.take] at s u w x y A D
 obtain ⟨bu, n16, _, b2, bs, M, J⟩ := fF Tryz.underlying25 s
 obtain ⟨ai, aj, ak, rfl⟩ := V5 M
 have F : DataW.trod _ pg0 W _ _ _ n16 9 (([c, a, b].drop 0).take (Tryz.prog.cellsOf 9)) = some ai := J 0 _ rfl
 have G : DataW.trod _ pg0 W _ _ _ n16 22 (([c, a, b].drop 1).take (Tryz.prog.cellsOf 22)) = some aj := J 1 _ rfl
 have I : DataW.trod _ pg0 W _ _ _ n16 23 (([c, a, b].drop 2).take (Tryz.prog.cellsOf 23)) = some ak := J 2 _ rfl
 simp only [TL, Ui, JY, List.drop, List.take] at F G I
 obtain ⟨Q, ao, b5⟩ := KW _ _ _ _ _ _ _ _ _ F
 simp only [bL, eW] at ao
 obtain rfl := ao
 obtain ⟨c5, R, ap, O, b6⟩ := uX OF (by decide) Vx Tryz.underlying22 G
 simp only [bL, eW] at ap
 obtain rfl := ap
 obtain ⟨O, g18⟩ := Lf.Sl.all O
 obtain ⟨c6, T, aq, P, b7⟩ := uX OQ (by decide) VY Tryz.underlying23 I
 simp only [bL, eW] at aq
 obtain rfl := aq
 obtain ⟨P, g19⟩ := Lf.Sl.all P
 have b4 := bB (fun z => Rows.uptoBulk z.1) b2
 obtain ⟨U, ar, b9⟩ := KW _ _ _ _ _ _ _ _ _ u
 simp only [bL, eW] at ar
 obtain rfl := ar
 obtain ⟨Y, au, ba⟩ := PI _ _ _ _ _ _ _ _ _ w
 simp only [bL, eW] at au
 obtain rfl := au
 obtain ⟨v22, Z, av, bn, bc⟩ := uX E9 (by decide) Mz.rel kF x
 simp only [bL, eW] at av
 obtain rfl := av
 obtain ⟨v23, a6, aw, bo, bd⟩ := uX E9 (by decide) Mz.rel kF y
 simp only [bL, eW] at aw
 obtain rfl := aw
 obtain ⟨v24, a7, ay, bp, bf⟩ := uX BP (by decide) EC.rel kQ A
 simp only [bL, eW] at ay
 obtain rfl := ay
 obtain ⟨v25, a8, az, bq, bh⟩ := uX BP (by decide) EC.rel kQ D
 simp only [bL, eW] at az
 obtain rfl := az
 have b3 := bB (fun z => Rows.uptoBulk z.1) b1
 simp only [List.map, Rows.uptoBulk, Rows.uptoBulkAll] at b5 b6 b7 b4 b9 ba bc bd bf bh b3
 have z0 : Jv (⟨⟨Q, R, T⟩, U, Y, Z, a6, a7, a8⟩ : ng) ≤ Rows.uptoBulk d0 := by simp only [Jv]; omega
 obtain ⟨a1, s1, z1⟩ := Ix (k := 2) BP (by decide) EC kQ k1 h1
 obtain ⟨a2, s2, z2⟩ := Ix (k := 1) UI (by decide) Xi Tryz.underlying84 k2 h2
 have hB : Rows.uptoBulkAll ([d0, d1, d2] ++ []) ≤ 1048576 := iJ hk
 simp only [bT, Rows.uptoBulkAll] at hB
 have hm : wS (⟨⟨Q, R, T⟩, U, Y, Z, a6, a7, a8⟩ : ng) a1 a2 = some true := IH UB _ _ _ (Ua _ (by omega))
 have hg := GO (⟨⟨Q, R, T⟩, U, Y, Z, a6, a7, a8⟩ : ng) a b d g h i v1 a1 v2 a2 true W O P bn bo bp bq s1 s2 hm
 refine dW hg fun e W' ⟨he, hx⟩ => ?_
 subst he
 exact ⟨_, rfl, Pj SG hr rfl bj hx (fun _ _ _ => trodAll_cons_mk (shut_bool Tryz.underlying4 _) trodAll_mk0) rfl rfl (ok_one (by kernel_rfl) rfl (okWide_bool_mk Tryz.underlying4 _))⟩
set_option maxRecDepth 100000 in
theorem Vz (os : Os) (started : os.Started) (H : Type) (enc : TypeId × Value → H) (F : Stop.Interp) :
  ReturnsInHanded {} Tryz.checked os 6 .any ((Rows.OpenSpec.upto Rows.thriftHidesSpec).pre6 enc pg0 Tryz.f6 Rows.thriftHidesUptoRow.domain false) (((Rows.OpenSpec.upto Rows.thriftHidesSpec).at F).post enc pg0 Tryz.f6 false true false false) := by
 refine returnsInHanded_of_cond (C := Tryz.checked) (s := Rows.OpenSpec.upto Rows.thriftHidesSpec) (k := Rows.uptoSmall) rfl own started (by kernel_rfl) Tryz.func6
  (OpenSpec.witness (enc := enc) (C := Tryz.checked) (s := Rows.OpenSpec.upto Rows.thriftHidesSpec) (k := Rows.uptoSmall) rfl false ⟨#[], #[.agg #[.string ⟨#[]⟩, .slice none 0 0, .slice none 0 0, .string ⟨#[]⟩, .int .i64 0, .slice none 0 0, .slice none 0 0, .slice none 0 0, .slice none 0 0], .slice none 0 0, .slice none 0 0], []⟩ 8 (by kernel_rfl) (by kernel_rfl) (by kernel_rfl)
   (x := ([.agg [.agg [.lit (.string []), .nil, .nil], .lit (.string []), .lit (.int .i64 0), .nil, .nil, .nil, .nil], .nil, .nil], [], [])) (by kernel_rfl) rfl (by kernel_rfl)) ?_
 intro W base args ds gs before a b _ hk _
 exact SB H enc W base args ds gs before a b hk
theorem Wv {a b : Bool} (ha : a = true) (c : b = true) : (a && b) = true := by rw [ha, c]; rfl
set_option maxHeartbeats 40000000 in
theorem TG : joinedFacts Tryz.checked.prog 6 Tryz.f6 (Rows.OpenSpec.upto Rows.thriftHidesSpec).bare Rows.thriftHidesUptoRow = true := by
 unfold joinedFacts
 repeat' with_reducible refine Wv ?_ ?_
 all_goals as_aux_lemma => kernel_rfl
theorem proved : Rows.ThriftHidesUptoSaid :=
 OpenClaim.holds_of_cond 6 Tryz.f6 rfl rfl rfl rfl rfl rfl rfl ⟨rfl, rfl, rfl, rfl, rfl⟩ rfl rfl rfl rfl rfl (by kernel_rfl) Tryz.func6 TG
  (iJ (by kernel_rfl)) (by unfold Func.isWrapper; first | (rw [aZ (by decide +kernel)]; kernel_rfl) | (rw [aY (by decide +kernel)]; exact ⟨rfl, rfl⟩))
  (fun os started H enc _ F => Vz os started H enc F)
end Go.Proofs.YtklbhegeiijbjaaGreat
