/- a part of a proof of OutcomeTells -/
import Derived.Test.YtbnbdigcbldfhaaGreatKhg
import Derived.Test.YtbnbdigcbldfhaaGreatRtSg
import Derived.Test.YtbnbdigcbldfhaaGreatRows
import Derived.WalkKit
import Derived.ProofKit
import Derived.OpenShut
import Derived.JoinedCond
import Derived.Deep.Slices
import Derived.Carry
import Derived.ChangeArms
import Derived.ChangeSame
import Derived.Test.YtbnbdigcbldfhaaGreatO6W3g
set_option linter.all false
namespace Go.Proofs.YtbnbdigcbldfhaaGreat
open Go.IntKind renaming wrap → wi0
open Go.Proofs.Tryz renaming prog → pg0
open Go.RowKit
def EP (n : Int) : List Int := if n < 128 then [n] else [n % 128 + 128, n / 128]
theorem DU (n : Int) : (EP n).length ≤ 2 ∧ 1 ≤ (EP n).length := by unfold EP; split <;> simp
def Wo (k : Nat) : Bool := decide (IntKind.u8.wrap (BitVec.ofInt (IntKind.bits .u8) (IntKind.u8.wrap (k : Int)) ||| BitVec.ofInt (IntKind.bits .u8) 128).toNat = (k : Int) % 128 + 128) && decide (Int.fdiv (k : Int) (2 ^ min (Int.toNat 7) (IntKind.bits .i64)) = (k : Int) / 128) && decide (IntKind.u8.wrap ((k : Int) / 128) = (k : Int) / 128) && decide (IntKind.u8.wrap (wi0 .i64 (128 + (Int.tmod (k : Int) 128))) = (k : Int) % 128 + 128) && decide (wi0 .i64 (Int.tdiv (k : Int) 128) = (k : Int) / 128)
theorem Vq : (List.range 300).all Wo = true := by decide +kernel
theorem WA {n : Int} (g : 0 ≤ n) (h1 : n < 300) : IntKind.u8.wrap (BitVec.ofInt (IntKind.bits .u8) (IntKind.u8.wrap n) ||| BitVec.ofInt (IntKind.bits .u8) 128).toNat = n % 128 + 128 ∧ Int.fdiv n (2 ^ min (Int.toNat 7) (IntKind.bits .i64)) = n / 128 ∧ IntKind.u8.wrap (n / 128) = n / 128 ∧ IntKind.u8.wrap (wi0 .i64 (128 + (Int.tmod n 128))) = n % 128 + 128 ∧ wi0 .i64 (Int.tdiv n 128) = n / 128 := by
 obtain ⟨k, rfl⟩ : ∃ k : Nat, n = k := ⟨n.toNat, by omega⟩
 have := dI.1 Vq k (ju.2 (by omega))
 unfold Wo at this
 simp only [aU, bV] at this
 obtain ⟨⟨⟨⟨a, b⟩, c⟩, d⟩, e⟩ := this
 exact ⟨a, b, c, d, e⟩
theorem JA {l : List Int} {n : Int} (d : 0 ≤ n) (h1 : n < 300) (g : l.length ≤ 99000) : mV l n = some (true, l ++ EP n) := by
 unfold EP
 by_cases h : n < 128
 ·rw [aM h]; exact El d h (by omega)
 ·obtain ⟨a, b, c, _, _⟩ := WA d h1
  rw [aK h]
  unfold mV
  rw [aK (by simp; omega), show lC = 18446744073709551614 + 1 + 1 by rw [pp], oG, aM (by simp; omega), a, Cz (by simp; omega), aA, b, oG, aK (by simp; omega), c, Cz (by simp; omega)]
  simp
theorem IW {l : List Int} {s : ByteArray} (h : mZ s = true) (a : l.length ≤ 99000) : rj l s = some (true, l ++ tY s) := by
 have h1 := nz h
 unfold rj
 simp only [sF, aA, h, bc, EL h1.2]
 unfold xm
 rw [aK (by rw [nD]; simp; omega)]
 rw [nD, El (by omega) (by omega) (by omega)]
 simp only [aA]
 rw [Cz (by simp [nD]; omega)]
 simp [tY]
theorem TI {l : List Int} {r : kw} (h : ml r = true) (c : l.length ≤ 98000) : oU l r = some (true, l ++ pv r) := by
 have a := h
 simp only [ml, aU] at h
 have h1 := nz h.1
 unfold oU
 simp only [uz, aA, a, bc]
 rw [IW h.1 (by omega)]
 simp only [aA, bc]
 rw [IW h.2 (by simp [qc]; omega)]
 simp [pv]
def Ez (s : kV) : List Int := qM s.ky ++ tY s.kB.lx
def yJ (s : kV) : Bool := mf s.ky && kN s.kB.kw s.ky.Head && mZ s.kB.lx
theorem KS {s : kV} (h : yJ s = true) : (Ez s).length ≤ 217 := by
 simp only [yJ, aU] at h
 have h1 := G1 h.1.1
 have a := nz h.2
 unfold Ez
 rw [aH, qc]; omega
theorem Um {α : Type} (f : α → List Int) (k : Nat) : ∀ l : List α, (∀ x ∈ l, (f x).length ≤ k) → (l.flatMap f).length ≤ k * l.length
 | [], _ => by simp
 | x :: l, h => by
  have h1 := h x (by simp)
  have c := Um f k l (fun y a => h y (by simp [a]))
  rw [fH, aH, aJ, Nat.mul_add]; omega
theorem TZ (s : kV) : z7 s = some (yJ s) := by
 unfold z7 yJ
 rw [pV, sF]
 cases mf s.ky <;> cases kN s.kB.kw s.ky.Head <;> simp
theorem ML : ∀ (l : List kV) (acc : List Int), l.all yJ = true → acc.length + 217 * l.length ≤ 90000 → tl l acc = some (true, acc ++ l.flatMap Ez)
 | [], acc, _, _ => by rw [tl]; simp
 | s :: l, acc, h, c => by
  rw [fA, aU] at h
  have h1 := KS h.1
  have a := h.1
  simp only [yJ, aU] at a
  have d := G1 a.1.1
  simp only [aJ] at c
  rw [tl, Zg _ a.1.1, aA]
  unfold vW
  rw [Cz (by omega)]
  simp only [aA]
  rw [IW a.2 (by simp; omega)]
  simp only [aA]
  rw [ML l _ h.2 (by unfold Ez at h1; simp at h1 ⊢; omega)]
  simp [Ez]
def I5 (l : List kV) : Bool := decide (l.length ≤ 256) && l.all yJ
def E7 (l : List kV) : List Int := EP l.length ++ l.flatMap Ez
theorem Qu {l : List kV} (h : I5 l = true) : (E7 l).length ≤ 56000 := by
 simp only [I5, aU, bV] at h
 have h1 := Um Ez 217 l (fun x a => KS (dI.1 h.2 x a))
 have := DU (l.length : Int)
 unfold E7
 rw [aH]; omega
theorem Px (f : kV → Option Bool) : ∀ (l : List kV) (i : Nat), pB f l i = yo f l i
 | [], i => rfl
 | x :: l, i => by rw [pB, yo, Px f l]
theorem W0 (f : kV → Option Bool) (p : kV → Bool) (l : List kV) (h : ∀ x ∈ l, f x = some (p x)) : rr l f = some (l.any p) := by
 unfold rr wj
 rw [Px]; exact N4 f p l h
theorem O6 (f : kw → Option Bool) : ∀ (l : List kw) (i : Nat), nk f l i = yo f l i
 | [], i => rfl
 | x :: l, i => by rw [nk, yo, O6 f l]
theorem Sh (f : kw → Option Bool) (p : kw → Bool) (l : List kw) (h : ∀ x ∈ l, f x = some (p x)) : ou l f = some (l.any p) := by
 unfold ou ph
 rw [O6]; exact N4 f p l h
theorem KB {α : Type} (p : α → Bool) (l : List α) : (l.any fun x => !p x) = !l.all p := by
 induction l with
 | nil => rfl
 | cons x l ih => rw [List.any_cons, fA, ih, Bool.not_and]
theorem Ym (l : List kV) : Aj [] l = some (if I5 l = true then (true, E7 l) else (false, [])) := by
 unfold Aj I5
 by_cases h : l.length ≤ 256
 ·rw [aK (by simp; omega), W0 _ (fun s => !yJ s) l (fun x _ => by unfold zy; rw [TZ]; rfl), KB]
  simp only [aA]
  cases a : l.all yJ
  ·simp
  ·simp only [bM, aB, aP]
   rw [JA (by omega) (by omega) (by simp)]
   simp only [aA]
   have := DU (l.length : Int)
   rw [ML l _ a (by simp; omega)]
   simp [h, E7]
 ·rw [aM (by simp; omega)]
  simp [h]
def Pw (o : lZ) : Bool := decide (0 ≤ o.State ∧ o.State ≤ 3 ∧ 0 ≤ o.oE ∧ o.oE ≤ 99 ∧ o.lP.length ≤ 64) && o.lP.all ml
theorem TD (o : lZ) : yv o = some (Pw o) := by
 unfold yv Pw
 rw [Sh _ (fun r => !ml r) o.lP (fun x _ => by unfold wQ; rw [uz]; rfl), KB]
 by_cases h1 : 0 ≤ o.State
 ·by_cases c : o.State ≤ 3
  ·by_cases d : 0 ≤ o.oE
   ·by_cases g : o.oE ≤ 99
    ·by_cases h : o.lP.length ≤ 64
     ·have a : (o.lP.length : Int) ≤ 64 := by omega
      simp [h1, c, d, g, h, a]
     ·have a : ¬ (o.lP.length : Int) ≤ 64 := by omega
      simp [h1, c, d, g, h, a]
    ·simp [h1, c, d, g]
   ·simp [h1, c, d]
  ·simp [h1, c]
 ·simp [h1]
def Gf (o : lZ) : List Int := EP o.State ++ (EP o.oE ++ (EP o.lP.length ++ (o.lP.flatMap pv ++ E7 o.lX)))
theorem OV (c : List Int) (d : c.length ≤ 56000) : ∀ (l : List kw) (acc : List Int), l.all ml = true → acc.length + 34 * l.length ≤ 30000 → rS c l acc = some (true, acc ++ (l.flatMap pv ++ c))
 | [], acc, _, a => by
  rw [rS, NP (by omega), aA]
  unfold vW
  rw [Cz (by simp at a; omega)]
  simp
 | r :: l, acc, h, a => by
  rw [fA, aU] at h
  have h1 := nF h.1
  simp only [aJ] at a
  rw [rS, TI h.1 (by omega), aA, OV c d l _ h.2 (by simp; omega)]
  simp
theorem YE (o : lZ) : wJ [] o = some (if Pw o = true ∧ I5 o.lX = true then (true, Gf o) else (false, [])) := by
 unfold wJ
 rw [TD]
 simp only [aA]
 cases a : Pw o
 ·simp
 ·simp only [bM, aB, aP]
  rw [Ym]
  simp only [aA]
  cases g : I5 o.lX
  ·simp
  ·simp only [bc, bM, aB, aP, and_self]
   simp only [Pw, aU, bV] at a
   obtain ⟨⟨c, a2, a3, a4, a5⟩, d⟩ := a
   have h := DU o.State
   have i := DU o.oE
   have j := DU (o.lP.length : Int)
   rw [JA c (by omega) (by simp)]
   simp only [aA]
   rw [JA a3 (by omega) (by simp; omega)]
   simp only [aA]
   rw [JA (by omega) (by omega) (by simp; omega)]
   simp only [aA]
   rw [OV _ (Qu g) o.lP _ d (by simp; omega)]
   simp [Gf]
theorem Lh : ∀ (l m A : List kw), l.length = m.length → ∃ b, rf (A ++ m) l A.length = some b ∧ wE (A ++ m) l A.length = some b ∧ (b = true ↔ l = m)
 | [], [], A, _ => ⟨true, rfl, rfl, by simp⟩
 | x :: l, y :: m, A, h => by
  rw [rf, wE, sI A y m _ rfl]
  simp only [aA]
  by_cases e : x = y
  ·subst e
   obtain ⟨b, h1, a, c⟩ := Lh l m (A ++ [x]) (by simpa using h)
   simp only [aT, db, aH, aJ, bW, df] at h1 a
   rw [kP.2 rfl]
   exact ⟨b, by simpa using h1, by simpa using a, by rw [c]; simp⟩
  ·have : kN x y = false := by rw [← cv, kP]; exact e
   rw [this]
   exact ⟨false, rfl, rfl, by simp [e]⟩
theorem Ri (l m : List kw) : ∃ b, vZ l m = some b ∧ yV l m = some b ∧ (b = true ↔ l = m) := by
 unfold vZ yV
 by_cases h : l.length = m.length
 ·obtain ⟨b, h1, a, c⟩ := Lh l m [] h
  have : ((l.length : Int) != (m.length : Int)) = false := by simp [h]
  rw [this]
  exact ⟨b, h1, a, c⟩
 ·have : ((l.length : Int) != (m.length : Int)) = true := by simp; omega
  rw [this]
  exact ⟨false, rfl, rfl, by simp; intro e; exact h (by rw [e])⟩
theorem Ll : ∀ (l m A : List kV), l.length = m.length → ∃ b, rq (A ++ m) l A.length = some b ∧ yB (A ++ m) l A.length = some b ∧ (b = true ↔ l = m)
 | [], [], A, _ => ⟨true, rfl, rfl, by simp⟩
 | x :: l, y :: m, A, h => by
  rw [rq, yB, sI A y m _ rfl]
  simp only [aA]
  by_cases e : x = y
  ·subst e
   obtain ⟨b, h1, a, c⟩ := Ll l m (A ++ [x]) (by simpa using h)
   simp only [aT, db, aH, aJ, bW, df] at h1 a
   rw [Io.2 rfl]
   exact ⟨b, by simpa using h1, by simpa using a, by rw [c]; simp⟩
  ·have : Df x y = false := by rw [← cv, Io]; exact e
   rw [this]
   exact ⟨false, rfl, rfl, by simp [e]⟩
theorem Wd (l m : List kV) : ∃ b, vY l m = some b ∧ Dv l m = some b ∧ (b = true ↔ l = m) := by
 unfold vY Dv
 by_cases h : l.length = m.length
 ·obtain ⟨b, h1, a, c⟩ := Ll l m [] h
  have : ((l.length : Int) != (m.length : Int)) = false := by simp [h]
  rw [this]
  exact ⟨b, h1, a, c⟩
 ·have : ((l.length : Int) != (m.length : Int)) = true := by simp; omega
  rw [this]
  exact ⟨false, rfl, rfl, by simp; intro e; exact h (by rw [e])⟩
theorem QI (a b : lZ) : ∃ q, xy a b = some q ∧ Hz a b = some q ∧ (a = b → q = true) := by
 obtain ⟨x, h1, c, d⟩ := Ri a.lP b.lP
 obtain ⟨y, g, k2, h⟩ := Wd a.lX b.lX
 unfold xy Hz
 rw [h1, c, g, k2]
 refine ⟨(a.State == b.State) && (a.oE == b.oE) && x && y, ?_, ?_, ?_⟩
 ·cases a.State == b.State <;> cases a.oE == b.oE <;> cases x <;> cases y <;> rfl
 ·cases a.State == b.State <;> cases a.oE == b.oE <;> cases x <;> cases y <;> rfl
 ·intro e
  subst e
  rw [d.2 rfl, h.2 rfl]
  simp
def sT (f : Formula) (S : List kw) : Bool := Bj (nK kN S) f
def Cc (a : kw) (S : List kw) : List kw := S.filter fun x => !kN x a
def Dp (f : Formula) (S : List kw) : Prop := sT f S = true ∧ ∀ a ∈ S, sT f (Cc a S) = false
theorem Fq (a x : kw) (S : List kw) : x ∈ Cc a S ↔ x ∈ S ∧ x ≠ a := by
 unfold Cc
 rw [cT]
 constructor
 ·rintro ⟨h1, c⟩
  refine ⟨h1, fun e => ?_⟩
  rw [kP.2 e] at c; cases c
 ·rintro ⟨h1, c⟩
  refine ⟨h1, ?_⟩
  have : kN x a = false := by rw [← cv, kP]; exact c
  rw [this]; rfl
theorem D7 {f : Formula} {S T : List kw} (h : ∀ x ∈ S, x ∈ T) (a : sT f S = true) : sT f T = true :=
 Vm (fun r c => (nn kP _ _).2 (h r ((nn kP _ _).1 c))) f a
theorem MG (A : List kw) (f : Formula) (q : A.Nodup) (s : A.length ≤ 12) (b : Nat) (n : b < 2 ^ 12) : DE A (fun b => sT f (nE A b)) b = true ↔ Dp f (nE A b) := by
 have i : b < 2 ^ 62 := cO n (by decide)
 unfold DE Dp
 rw [aU, jC, ← cv, Lz]
 have key : ∀ j a, j < 12 → A[j]? = some a → nE A (Eu b j) = Cc a (nE A b) := fun j a c ha => Im A j b (Eu b j) a q ha (Pd b j i (by omega))
 constructor
 ·rintro ⟨h1, g⟩
  refine ⟨h1, fun a ha => ?_⟩
  obtain ⟨j, c, m⟩ := (GQ A b a).1 ha
  have o : j < A.length := by
   rcases iU j A.length with h | h
   ·exact h
   ·rw [cR h] at c; cases c
  rw [← key j a (by omega) c, ← cv]
  exact fun k => g ⟨j, by omega, by omega, m, k⟩
 ·rintro ⟨h1, g⟩
  refine ⟨h1, ?_⟩
  rintro ⟨j, _, o, m, k⟩
  have c : A[j]? = some A[j] := cj (by omega)
  have := g A[j] ((GQ A b _).2 ⟨j, c, m⟩)
  rw [← key j _ (by omega) c] at this
  have d : sT f (nE A (Eu b j)) = true := k
  rw [this] at d; cases d
def AX (A : List kw) (f : Formula) : List Nat := (List.range (2 ^ A.length)).filter (DE A fun b => sT f (nE A b))
def vJ (A : List kw) (f : Formula) : List (List kw) := (AX A f).map (nE A)
theorem Mz {n : Nat} (h : n ≤ 12) : 2 ^ n ≤ 2 ^ 12 := ev (by decide) h
theorem xH {A : List kw} {f : Formula} (d : A.Nodup) (a : A.length ≤ 12) (b : Nat) : b ∈ AX A f ↔ b < 2 ^ A.length ∧ Dp f (nE A b) := by
 unfold AX
 rw [cT, ju]
 constructor
 ·rintro ⟨h1, c⟩
  exact ⟨h1, (MG A f d a b (cO h1 (Mz a))).1 c⟩
 ·rintro ⟨h1, c⟩
  exact ⟨h1, (MG A f d a b (cO h1 (Mz a))).2 c⟩
theorem AY {A : List kw} {f : Formula} (d : A.Nodup) (c : A.length ≤ 12) (S : List kw) : S ∈ vJ A f ↔ S.Sublist A ∧ Dp f S := by
 unfold vJ
 rw [bH]
 constructor
 ·rintro ⟨b, a, rfl⟩
  exact ⟨yG A b, ((xH d c b).1 a).2⟩
 ·rintro ⟨h1, g⟩
  obtain ⟨b, a, rfl⟩ := Qm h1
  exact ⟨b, (xH d c b).2 ⟨a, g⟩, rfl⟩
theorem DN {α β : Type} (g : α → β) : ∀ (l : List α), l.Nodup → (∀ x ∈ l, ∀ y ∈ l, g x = g y → x = y) → (l.map g).Nodup
 | [], _, _ => by simp
 | x :: l, h, c => by
  rw [cK] at h
  rw [bD, cK]
  refine ⟨fun hm => ?_, DN g l h.2 fun a ha b i => c a (by simp [ha]) b (by simp [i])⟩
  obtain ⟨y, d, e⟩ := bH.1 hm
  have := c y (by simp [d]) x (by simp) e
  subst this
  exact h.1 d
theorem Ik (A : List kw) (f : Formula) : (AX A f).Nodup := List.nodup_range.sublist (dS)
theorem MM {A : List kw} {f : Formula} (a : A.Nodup) (d : A.length ≤ 12) : (vJ A f).Nodup :=
 DN _ _ (Ik A f) fun b g c h e => Hl A a b c ((xH a d b).1 g).1 ((xH a d c).1 h).1 e
theorem Oa (a : kw) (S : List kw) (h : a ∉ S) : Cc a (a :: S) = S := by
 unfold Cc
 rw [fi, kP.2 rfl]
 exact G4 h
theorem FU {A : List kw} {f : Formula} (n : A.Nodup) (t : A.length ≤ 8) : (vJ A f).length ≤ 128 := by
 unfold vJ
 rw [dy]
 cases A with
 | nil =>
  have := ec (DE [] fun b => sT f (nE [] b)) (List.range (2 ^ ([] : List kw).length))
  unfold AX
  simp only [jF, bW, Nat.pow_zero] at this
  simp only [bW, Nat.pow_zero]
  omega
 | cons a l =>
  have q := cK.1 n
  have v : l.length ≤ 7 := by simpa using t
  have h1 : ((AX (a :: l) f).map (· / 2)).Nodup := by
   refine DN _ _ (Ik _ f) fun b o c u e => ?_
   have e : b / 2 = c / 2 := e
   have i := ((xH n (by omega) b).1 o).2
   have j := ((xH n (by omega) c).1 u).2
   have ha : ∀ k, a ∉ nE l k := fun k h => q.1 ((yG l k).subset h)
   rw [nE] at i j
   by_cases d : b % 2 = 1 <;> by_cases g : c % 2 = 1
   ·omega
   ·rw [aM d] at i
    rw [aK g, ← e] at j
    have := i.2 a (by simp)
    rw [Oa a _ (ha _), j.1] at this
    cases this
   ·rw [aM g] at j
    rw [aK d, e] at i
    have := j.2 a (by simp)
    rw [Oa a _ (ha _), i.1] at this
    cases this
   ·omega
  have s := mF (m := List.range (2 ^ l.length)) h1 (fun x w => by
   obtain ⟨b, o, rfl⟩ := bH.1 w
   have := ((xH n (by omega) b).1 o).1
   rw [aJ, ib] at this
   rw [ju]; omega)
  rw [dy, jF] at s
  have y : 2 ^ l.length ≤ 2 ^ 7 := ev (by decide) v
  omega
def xQ : List kw → List kw → Bool
 | x :: a, y :: b => if kN x y then xQ a b else xg x y
 | _, _ => false
def xb (a b : List kw) : Bool := decide (a.length < b.length) || (decide (a.length = b.length) && xQ a b)
theorem Iw : ∀ a : List kw, xQ a a = false
 | [] => rfl
 | x :: a => by rw [xQ, aM (kP.2 rfl), Iw a]
theorem JV : ∀ a b c : List kw, xQ a b = true → xQ b c = true → xQ a c = true
 | x :: a, y :: b, z :: c, h1, d => by
  have H := uy (fun _ => True)
  rw [xQ] at h1 d ⊢
  by_cases h : kN x y = true
  ·rw [aM h] at h1
   obtain rfl := kP.1 h
   by_cases g : kN x z = true
   ·rw [aM g] at d ⊢
    exact JV a b c h1 d
   ·rw [aK g] at d ⊢
    exact d
  ·rw [aK h] at h1
   by_cases g : kN y z = true
   ·rw [aM g] at d
    obtain rfl := kP.1 g
    rw [aK h]; exact h1
   ·rw [aK g] at d
    have i := H.trans x y z trivial trivial trivial h1 d
    have : ¬ kN x z = true := fun e => by
     obtain rfl := kP.1 e
     exact H.irrefl x trivial i
    rw [aK this]; exact i
theorem J3 : ∀ a b : List kw, a.length = b.length → xQ a b = true ∨ a = b ∨ xQ b a = true
 | [], [], _ => .inr (.inl rfl)
 | x :: a, y :: b, h => by
  have H := uy (fun _ => True)
  rw [xQ, xQ]
  by_cases c : x = y
  ·subst c
   rw [aM (kP.2 rfl), aM (kP.2 rfl)]
   rcases J3 a b (by simpa using h) with h | h | h
   ·exact .inl h
   ·exact .inr (.inl (by rw [h]))
   ·exact .inr (.inr h)
  ·rw [aK (fun e => c (kP.1 e)), aK (fun e => c (kP.1 e).symm)]
   rcases H.total x y trivial trivial with h | h | h
   ·exact .inl h
   ·exact absurd h c
   ·exact .inr (.inr h)
theorem Jd : BD (fun a b => xb a b = true) (fun _ : List kw => True) := by
 refine ⟨fun x _ h => ?_, fun x y z _ _ _ h1 c => ?_, fun x y _ _ => ?_⟩
 ·unfold xb at h
  rw [Iw] at h
  simp at h
 ·unfold xb at *
  simp only [dW, aU, bV] at *
  rcases h1 with h1 | ⟨h1, d⟩ <;> rcases c with c | ⟨c, k2⟩
  ·exact .inl (by omega)
  ·exact .inl (by omega)
  ·exact .inl (by omega)
  ·exact .inr ⟨by omega, JV x y z d k2⟩
 ·unfold xb
  simp only [dW, aU, bV]
  rcases fG x.length y.length with h | h | h
  ·exact .inl (.inl h)
  ·rcases J3 x y h with k | k | k
   ·exact .inl (.inr ⟨h, k⟩)
   ·exact .inr (.inl k)
   ·exact .inr (.inr (.inr ⟨h.symm, k⟩))
  ·exact .inr (.inr (.inl h))
theorem VX (a b : Int) : uY a b = some (if a < b then -1 else if b < a then 1 else 0) := by
 unfold uY yx
 simp only [aA, dR, aB, aP]
 by_cases h : a < b
 ·simp [h]
 ·by_cases c : b < a <;> simp [h, c]
theorem TQ (a b : kw) (c : Int) (e : nw a b = some c) : c = 0 ↔ a = b := by
 have i : ∀ a b : ByteArray, (oz a b = 0 ↔ a = b) := fun a b => by
  unfold oz; rw [Ge]; exact ⟨BW, fun h => by rw [h]⟩
 unfold nw at e
 simp only [pN, nC, aA, se, pc] at e
 cases a with | mk j k =>
 cases b with | mk m n =>
 simp only at e
 by_cases d : oz j m = 0
 ·rw [aK (by simp [d])] at e
  obtain rfl := (i _ _).1 d
  by_cases g : oz k n = 0
  ·rw [aK (by simp [g])] at e
   obtain rfl := (i _ _).1 g
   cases e; simp
  ·rw [aM (by simp [g])] at e
   cases e
   have : k ≠ n := fun h => g ((i _ _).2 h)
   simp [g, this]
 ·rw [aM (by simp [d])] at e
  cases e
  have : j ≠ m := fun h => d ((i _ _).2 h)
  simp [d, this]
theorem NU (a0 : List kw) : ∀ (l m A : List kw), ∃ c, lF (A ++ m) (fun x => nw x.1 x.2) a0 l A.length = some c ∧ (a0.length = (A ++ m).length → l.length = m.length → (c < 0 ↔ xQ l m = true))
 | [], m, A => by
  rw [lF]
  by_cases j : (a0.length : Int) < ((A ++ m).length : Int)
  ·refine ⟨-1, by rw [aM (by simpa using j)], fun e => by omega⟩
  ·refine ⟨0, by rw [aK (by simpa using j)], fun _ _ => by simp [xQ]⟩
 | x :: l, [], A => by
  rw [lF, aM (by simp)]
  exact ⟨1, rfl, fun _ h => by simp at h⟩
 | x :: l, y :: m, A => by
  rw [lF, aK (by simp; omega), sI A y m _ rfl, aA]
  obtain ⟨c, e, o⟩ := vk x y
  simp only [e, aA]
  have k : c = 0 ↔ x = y := TQ x y c e
  by_cases a : c = 0
  ·obtain rfl := k.1 a
   rw [aK (by simp [a])]
   obtain ⟨d, g, i⟩ := NU a0 l m (A ++ [x])
   simp only [aT, db, aH, aJ, bW, df] at g i
   refine ⟨d, g, fun h1 n => ?_⟩
   rw [xQ, aM (kP.2 rfl)]
   exact i (by simpa using h1) (by simpa using n)
  ·refine ⟨c, by rw [aM (by simpa using a)], fun _ _ => ?_⟩
   rw [xQ, aK (fun e => a (k.2 (kP.1 e)))]
   exact o
theorem UW (a b : List kw) : ∃ c, oS a b = some c ∧ (c < 0 ↔ xb a b = true) := by
 unfold oS nj
 obtain ⟨c, e, i⟩ := NU a a b []
 simp only [bU, bW] at e i
 rw [VX, aA, e, aA]
 unfold se xb
 rw [pc, pc, pc]
 rcases fG a.length b.length with h | h | h
 ·rw [aM (show (a.length : Int) < b.length by omega), aM (by decide)]
  exact ⟨-1, rfl, by simp [h]⟩
 ·rw [aK (show ¬ (a.length : Int) < b.length by omega), aK (show ¬ (b.length : Int) < a.length by omega), aK (by decide)]
  have := i h h
  by_cases d : c = 0
  ·rw [aK (by simp [d])]
   refine ⟨0, rfl, ?_⟩
   rw [d] at this
   have g : xQ a b = false := by rw [← cv, ← this]; decide
   simp [h, g]
  ·rw [aM (by simpa using d)]
   refine ⟨c, rfl, ?_⟩
   rw [this]
   simp [h]
 ·rw [aK (show ¬ (a.length : Int) < b.length by omega), aM (show (b.length : Int) < a.length by omega), aM (by decide)]
  refine ⟨1, rfl, ?_⟩
  have h1 : ¬ a.length < b.length := by omega
  have g : ¬ a.length = b.length := by omega
  simp [h1, g]
open Classical in
theorem VV (l : List (List kw)) (hn : l.Nodup) (hl : l.length ≤ 1000000) : ∃ s, EC (fun (x : ((List kw) × (List kw))) => oS x.1 x.2) l = some s ∧ qP (fun a b => xb a b = true) (fun _ => True) l s := by
 have he : ∀ x y : List kw, (fun x y => decide (x = y) : List kw → List kw → Bool) x y = true ↔ x = y := fun x y => by simp
 obtain ⟨s, h1, h2, h3⟩ := zY (eq := fun x y : List kw => decide (x = y)) (cf := fun (x : ((List kw) × (List kw))) => oS x.1 x.2) he Jd (l := l) (fun _ _ => trivial) (by omega) (fun x y _ _ => UW x y)
 have hp : s.Nodup := by
  have : s = pQ (fun (x : ((List kw) × (List kw))) => oS x.1 x.2) l := by
   unfold yA at h1
   split at h1
   ·exact (kj h1).symm
   ·cases h1
  rw [this]
  unfold pQ
  exact (fZ l _).nodup_iff.2 hn
 rw [Uw he s hp] at h3
 exact ⟨s, by unfold EC; rw [aM hn, h1], h3⟩
theorem Pn (A : List kw) (d : A.length ≤ 12) : ∀ (a : List Nat) (acc : List (List kw)), (∀ b ∈ a, b < 4611686018427387904) → acc.length + a.length ≤ 1000000 → pU A (a.map (fun b : Nat => (b : Int))) acc = pU A [] (acc ++ a.map (nE A))
 | [], acc, _, _ => by simp
 | b :: a, acc, c, g => by
  simp only [aJ] at g
  conv => lhs; rw [bD, pU, Lc A b (c b (by simp)) (by omega), aA, mG (by simp; omega) (by simp; omega), aA, Pn A d a _ (fun x h => c x (by simp [h])) (by simp; omega)]
  simp
theorem J6 {f : Formula} (h : uZ f = true) : mz f ≤ 64 := by
 simp only [uZ, aU, bV] at h; exact h.1.1
theorem QN (f : Formula) (j : Gd f) (d : uZ f = true) : ∃ A, uH f = some A ∧ B5 (Ca f) A ∧ A.length ≤ mz f ∧
  ((A.length ≤ 12 ∧ (vJ A f).length ≤ 128 ∧ ∃ s, sw f = some (s, 0) ∧ qP (fun a b => xb a b = true) (fun _ => True) (vJ A f) s) ∨ ((12 < A.length ∨ 128 < (vJ A f).length) ∧ sw f = some ([], 12))) := by
 obtain ⟨A, e, i, n⟩ := MZ f (by have := J6 d; omega)
 refine ⟨A, e, i, n, ?_⟩
 have k : A.Nodup := i.1.imp fun {a b} h e => by subst e; exact (uy (fun _ => True)).irrefl a trivial h
 unfold sw
 rw [Gi f j, d, aA]
 simp only [bM, aB, aP]
 rw [e, aA]
 by_cases c : A.length ≤ 12
 ·rw [aK (by simp; omega)]
  rw [TE A f (fun b => sT f (nE A b)) c (fun b _ => by rw [P4 f _ j]; unfold Ac; rw [d]; rfl), aA]
  have hlen : (AX A f).length ≤ 4096 := by
   have := ec (DE A fun b => sT f (nE A b)) (List.range (2 ^ A.length))
   have g := Mz c
   rw [jF] at this
   unfold AX; omega
  rw [show ((List.range (2 ^ A.length)).filter (DE A fun b => sT f (nE A b))) = AX A f from rfl, Pn A c (AX A f) [] (fun b m => by have := ((xH k c b).1 m).1; have := Mz c; omega) (by simp; omega), pU, bU, show (AX A f).map (nE A) = vJ A f from rfl]
  by_cases hk : (vJ A f).length ≤ 128
  ·rw [aK (by simp; omega)]
   obtain ⟨s, h1, g⟩ := VV (vJ A f) (MM k c) (by omega)
   rw [h1]
   exact .inl ⟨c, hk, s, rfl, g⟩
  ·rw [aM (by simp; omega)]
   exact .inr ⟨.inr (by omega), rfl⟩
 ·rw [aM (by simp; omega)]
  exact .inr ⟨.inl (by omega), rfl⟩
theorem OP (f : Formula) (a : Gd f) (c : uZ f = false) : sw f = some ([], 11) := by
 unfold sw
 rw [Gi f a, c]
 rfl
theorem M3 (v : kw → Bool) (f1 : kw → Option Bool) (a : ∀ r, f1 r = some (v r)) : ∀ l : List (List kw), uG f1 l = some (match l.find? (fun S => S.all v) with | some S => (S, true) | none => ([], false))
 | [] => rfl
 | S :: l => by
  rw [uG, Sh _ (fun r => !v r) S (fun x _ => by unfold wR; rw [a]; rfl), KB, aA, gf]
  cases S.all v
  ·simp only [cV, bM, aB, aP]
   exact M3 v f1 a l
  ·rfl
theorem M8 : ∀ (l m A : List kw), l.length = m.length → wO (A ++ m) l A.length = some (xQ l m)
 | [], [], A, _ => rfl
 | x :: l, y :: m, A, h => by
  rw [wO, sI A y m _ rfl, aA, xQ]
  by_cases e : kN x y = true
  ·rw [aM e, e]
   have ih := M8 l m (A ++ [y]) (by simpa using h)
   simp only [aT, db, aH, aJ, bW, df] at ih
   simpa using ih
  ·rw [aK e]
   rw [cv] at e
   rw [e]
   simp only [cV, bc, aA]
   rw [ux, aA]
theorem XR (a b : List kw) : AV a b = some (xb a b) := by
 unfold AV xb
 by_cases h : a.length = b.length
 ·have : ((a.length : Int) != (b.length : Int)) = false := by simp [h]
  rw [this]
  have e := M8 a b [] h
  simp only [bU, bW] at e
  simp [h, e]
 ·have : ((a.length : Int) != (b.length : Int)) = true := by simp; omega
  rw [this]
  simp [h]
theorem O2 (s : List kw) (out : List (List kw)) (m : out.length ≤ 1000000) : ∀ (k : Nat) (P Q : List (List kw)) (n : Nat), P.length = k → out = P ++ Q → (∀ x ∈ Q, xb s x = true) → P.length < n → ∃ P1 Q1, out = P1 ++ Q1 ∧ qJ out s n (P.length : Int) = some (P1.length : Int) ∧ (∀ x ∈ Q1, xb s x = true) ∧ (P1 = [] ∨ ∃ P0 y, P1 = P0 ++ [y] ∧ xb s y = false)
 | 0, P, Q, n + 1, hk, e, a, g => by
  obtain rfl : P = [] := bR hk
  exact ⟨[], Q, e, by rw [qJ]; rfl, a, .inl rfl⟩
 | k + 1, P, Q, n + 1, hk, e, a, g => by
  obtain ⟨P0, y, rfl⟩ : ∃ P0 y, P = P0 ++ [y] := ⟨P.dropLast, P.getLast (by intro h; rw [h] at hk; simp at hk), (List.dropLast_concat_getLast _).symm⟩
  have i : P0.length = k := by simpa using hk
  have o : P0.length ≤ 1000000 := by have := aV List.length e; simp at this; omega
  have hw : wi0 .i64 (((P0 ++ [y]).length : Int) - 1) = (P0.length : Int) := by
   rw [aH, aJ, bW, lQ (by omega) (by omega)]; omega
  have j : mx out (P0.length : Int) = some y := by rw [e, aT]; exact sI P0 y Q _ rfl
  rw [qJ, aM (decide_eq_true (by rw [aH, aJ, bW]; omega)), hw, j, aA, XR, aA, aA]
  cases d : xb s y
  ·exact ⟨P0 ++ [y], Q, e, rfl, a, .inr ⟨P0, y, rfl, d⟩⟩
  ·simp only [bc]
   exact O2 s out m k P0 (y :: Q) n i (by rw [e]; simp) (fun x c => by rcases aR.1 c with rfl | c; exact d; exact a x c) (by simp at g; omega)
theorem JW : ∀ (l acc : List (List kw)), (acc ++ l).Nodup → acc.length + l.length ≤ 1000000 → acc.Pairwise (fun a b => xb a b = true) → ∃ s, sK l acc = some s ∧ s.Pairwise (fun a b => xb a b = true) ∧ ∀ x, x ∈ s ↔ x ∈ acc ∨ x ∈ l
 | [], acc, _, _, hp => ⟨acc, by rw [sK], hp, by simp⟩
 | s :: l, acc, m, w, hp => by
  simp only [aJ] at w
  obtain ⟨P, Q, e, h1, u, t⟩ := O2 s acc (by omega) acc.length acc [] lC rfl (by simp) (by simp) (by rw [pp]; omega)
  have z : s ∉ acc := fun hm => by
   rw [bN] at m
   exact m.2.2 s hm s (by simp) rfl
  have c := hp
  rw [e, dv] at c
  have g : ∀ x ∈ P, xb x s = true := by
   rcases t with rfl | ⟨P0, y, rfl, D⟩
   ·simp
   ·have j : xb y s = true := by
     rcases Jd.total y s trivial trivial with h | h | h
     ·exact h
     ·exact absurd (by rw [e, ← h]; simp) z
     ·rw [D] at h; cases h
    intro x i
    rcases aS.1 i with i | i
    ·have := (dv.1 c.1).2.2 x i y (by simp)
     exact Jd.trans x y s trivial trivial trivial this j
    ·obtain rfl := aO.1 i; exact j
  have hlen : acc.length = P.length + Q.length := by rw [e]; simp
  rw [sK, h1, aA, wD (by omega) (by omega), aA]
  have A : acc.take (Int.toNat (P.length : Int)) = P := by rw [e]; simp
  have v : acc.drop (Int.toNat (P.length : Int)) = Q := by rw [e]; simp
  rw [A, v, mG (by simp; omega) (by simp; omega), aA, mG (by simp; omega) (by simp; omega), aA]
  simp only [aA]
  rw [mG (by simp; omega) (by simp; omega), aA]
  have hm : ∀ x, x ∈ [] ++ P ++ [s] ++ Q ↔ x ∈ acc ∨ x = s := fun x => by
   rw [e]
   simp only [bU, aS, aO]
   constructor
   ·rintro ((h | h) | h)
    ·exact .inl (.inl h)
    ·exact .inr h
    ·exact .inl (.inr h)
   ·rintro ((h | h) | h)
    ·exact .inl (.inl h)
    ·exact .inr h
    ·exact .inl (.inr h)
  obtain ⟨r, n, o, q⟩ := JW l ([] ++ P ++ [s] ++ Q) (by
   have d : ([] ++ P ++ [s] ++ Q ++ l).Perm (acc ++ s :: l) := by
    rw [e]
    simp only [bU, aT, db]
    refine cL P ?_
    exact List.perm_middle.symm
   exact d.nodup_iff.2 m) (by simp; omega) (by
   simp only [bU, aT, db]
   rw [dv, ed]
   refine ⟨c.1, ⟨u, c.2.1⟩, fun a ha b k => ?_⟩
   rcases aR.1 k with rfl | k
   ·exact g a ha
   ·exact c.2.2 a ha b k)
  refine ⟨r, n, o, fun x => ?_⟩
  rw [q, hm]
  simp only [aR]
  constructor
  ·rintro ((h | h) | h)
   ·exact .inl h
   ·exact .inr (.inl h)
   ·exact .inr (.inr h)
  ·rintro (h | h | h)
   ·exact .inl (.inl h)
   ·exact .inl (.inr h)
   ·exact .inr h
theorem VK (l : List (List kw)) (g : l.Nodup) (d : l.length ≤ 1000000) : ∃ s, zg l = some s ∧ qP (fun a b => xb a b = true) (fun _ => True) l s := by
 obtain ⟨s, e, h1, c⟩ := JW l [] (by simpa using g) (by simpa using d) List.Pairwise.nil
 exact ⟨s, e, h1, fun x => by rw [c]; simp⟩
def AJ (a b : List kw) : Bool := a.all fun r => nK kN b r
theorem FZ (a b : List kw) : AJ a b = true ↔ ∀ x ∈ a, x ∈ b := by
 unfold AJ
 rw [dI]
 exact ⟨fun h x c => (nn kP _ _).1 (h x c), fun h x c => (nn kP _ _).2 (h x c)⟩
theorem Kd (b : List kw) : ∀ a : List kw, vh b a = some (AJ a b)
 | [] => rfl
 | x :: a => by
  rw [vh, WJ, aA]
  unfold AJ
  rw [fA]
  cases nK kN b x
  ·rfl
  ·simp only [bM, aB, aP, ek]
   exact Kd b a
theorem Ty (s : List kw) : ∀ (out : List (List kw)) (b : Bool), tO s out b = some (b || out.any fun o => AJ o s)
 | [], b => by rw [tO]; simp
 | o :: out, b => by
  rw [tO]
  unfold xw
  rw [Kd]
  cases b
  ·simp only [aB, aP, aA]
   rw [Ty s out]; simp
  ·simp only [bc, aA]
   rw [Ty s out]; simp
def yX (s : List kw) (r : kw) : Bool := match s.getLast? with
 | none => true
 | some y => xg y r
theorem T7 (s : List kw) (d : s.length ≤ 1000) : ∀ (A : List kw) (acc : List (List kw)), acc.length + A.length ≤ 1000000000 → rB s A acc = some (acc ++ (A.filter (yX s)).map fun r => s ++ [r])
 | [], acc, _ => by rw [rB]; simp
 | r :: A, acc, h => by
  simp only [aJ] at h
  have g : (if ((s.length : Int) == 0) = true then some true else (mx s (wi0 .i64 ((s.length : Int) - 1))).bind fun c => (qZ c r).bind fun a => some a : Option Bool) = some (yX s r) := by
   unfold yX
   rcases dg s with rfl | ⟨P, y, rfl⟩
   ·rfl
   ·have hw : wi0 .i64 (((P.concat y).length : Int) - 1) = (P.length : Int) := by
     rw [List.length_concat] at d ⊢
     rw [lQ (by omega) (by omega)]; omega
    rw [aK (by simp; omega), hw, iq, sI P y [] _ rfl, aA, ux]
    simp
  rw [rB, g, aA, fi]
  cases yX s r
  ·simp only [aB, aP]
   exact T7 s d A acc (by omega)
  ·simp only [bc]
   rw [mG (by simp; omega) (by simp; omega)]
   simp only [aA]
   rw [mG (by simp; omega) (by simp; omega), aA, mG (by simp; omega) (by simp; omega), aA, T7 s d A _ (by simp; omega)]
   simp
theorem Is (f : Formula) : ∀ (k : Nat) (T : List kw), T.length = k → T.Nodup → sT f T = true → ∃ m, m.Sublist T ∧ Dp f m
 | k, T, hk, n, i => by
  by_cases h : ∀ a ∈ T, sT f (Cc a T) = false
  ·exact ⟨T, .refl _, i, h⟩
  ·obtain ⟨a, ha⟩ := Classical.not_forall.1 h
   obtain ⟨ha, d⟩ := Classical.not_imp.1 ha
   rw [Bool.not_eq_false] at d
   have j : (Cc a T).length < T.length := by
    have c : (Cc a T).Sublist T := dS
    have hle := c.length_le
    rcases iU (Cc a T).length T.length with h | h
    ·exact h
    ·have e := c.eq_of_length (by omega)
     have : a ∈ Cc a T := by rw [e]; exact ha
     exact absurd rfl ((Fq a a T).1 this).2
   obtain ⟨m, h1, g⟩ := Is f (Cc a T).length (Cc a T) rfl (n.sublist dS) d
   exact ⟨m, h1.trans dS, g⟩
termination_by k => k
decreasing_by omega
theorem VL {A S T : List kw} (c : A.Pairwise (fun a b => xg a b = true)) (d : S.Sublist A) (g : T.Sublist A) (h : ∀ x, x ∈ S ↔ x ∈ T) : S = T :=
 qP.unique (P := fun _ => True) (l := S) (uy _) ⟨c.sublist d, fun x => by simp⟩ ⟨c.sublist g, fun x => by simp [h]⟩
structure Yo (A : List kw) (f : Formula) (k : Nat) (level out : List (List kw)) : Prop where
 QH : ∀ S ∈ level, S.Sublist A ∧ S.length = k
 MB : ∀ S : List kw, S.Sublist A → S.length = k → (∀ j, j < k → sT f (S.take j) = false) → S ∈ level
 DI : ∀ S ∈ out, S.Sublist A ∧ Dp f S
 Ih : out.Nodup
 NO : ∀ S : List kw, S.Sublist A → Dp f S → S.length < k → S ∈ out
structure Yu (A : List kw) (f : Formula) (k : Nat) (D out out' next : List (List kw)) : Prop where
 DI : ∀ S ∈ out', S.Sublist A ∧ Dp f S
 Ih : out'.Nodup
 sup : ∀ S ∈ out, S ∈ out'
 Hh : ∀ S ∈ D, Dp f S → S ∈ out'
 G7 : ∀ S ∈ D, sT f S = false → ∀ r ∈ A, yX S r = true → S ++ [r] ∈ next
 Q3 : ∀ T ∈ next, T.Sublist A ∧ T.length = k + 1
theorem Tu {A S : List kw} {r : kw} (n : A.Pairwise (fun a b => xg a b = true)) (i : S.Sublist A) (o : r ∈ A) (d : yX S r = true) : (S ++ [r]).Sublist A := by
 obtain ⟨P, Q, rfl⟩ := jt o
 have k : ∀ x ∈ S, xg x r = true := by
  intro x c
  unfold yX at d
  rcases dg S with rfl | ⟨P0, y, rfl⟩
  ·cases c
  ·simp at d
   rw [iq] at c i
   rcases aS.1 c with c | c
   ·have := (dv.1 (n.sublist i)).2.2 x c y (by simp)
    exact (uy (fun _ => True)).trans x y r trivial trivial trivial this d
   ·obtain rfl := aO.1 c; exact d
 have j : S.Sublist P := by
  have h := dv.1 n
  have m : ∀ x ∈ S, x ∉ r :: Q := fun x c hm => by
   have h1 := k x c
   rcases aR.1 hm with rfl | hm
   ·exact (uy (fun _ => True)).irrefl x trivial h1
   ·have g := (ed.1 h.2.1).1 x hm
    exact (uy (fun _ => True)).irrefl x trivial ((uy (fun _ => True)).trans x r x trivial trivial trivial h1 g)
  obtain ⟨S1, S2, rfl, h1, g⟩ := List.sublist_append_iff.1 i
  cases S2 with
  | nil => simpa using h1
  | cons z S2 => exact absurd (g.subset (by simp : z ∈ z :: S2)) (m z (by simp))
 exact j.append ((List.nil_sublist Q).cons_cons r)
theorem FY (A : List kw) (f : Formula) (M : Gd f) (G : A.Pairwise (fun a b => xg a b = true)) (z : A.length ≤ 8) (k : Nat) (level out : List (List kw)) (H : Yo A f k level out) : ∀ (l D d next : List (List kw)), level = D ++ l → Yu A f k D out d next → next.length + 8 * l.length ≤ 900000000 →
  ∃ n i, qb f A l d next = some (n, i) ∧ Yu A f k level out n i ∧ i.length ≤ next.length + 8 * l.length
 | [], D, d, next, e, h, Y => by
  rw [cu] at e
  subst e
  exact ⟨d, next, by rw [qb], h, by simp⟩
 | s :: l, D, d, next, e, h, Y => by
  simp only [aJ] at Y
  have w := H.QH s (by rw [e]; simp)
  have q : A.Nodup := G.imp fun {a b} h e => by subst e; exact (uy (fun _ => True)).irrefl a trivial h
  have a8 : s.Nodup := q.sublist w.1
  have ad : s.length ≤ 8 := dj w.1.length_le z
  have ab : d.length ≤ 128 := by
   have := mF (m := vJ A f) h.Ih (fun S c => (AY q (by omega) S).2 (h.DI S c))
   have := FU (f := f) q z
   omega
  rw [qb, Ty, aA, iG, Ui s lC f (by have := xz f; unfold Gd at M; rw [pp]; omega) M]
  by_cases L : (d.any fun o => AJ o s) = true
  ·rw [aM L]
   obtain ⟨o, ho, hw⟩ := dN.1 L
   have hw := (FZ o s).1 hw
   have u := h.DI o ho
   have Z : sT f s = true := D7 hw u.2.1
   obtain ⟨n, i, U, W, r3⟩ := FY A f M G z k level out H l (D ++ [s]) d next (by rw [e]; simp) { h with
    Hh := fun S c hm => by
     rcases aS.1 c with c | c
     ·exact h.Hh S c hm
     ·obtain rfl := aO.1 c
      have : o = S := VL G u.1 w.1 (fun x => ⟨hw x, fun R => dX fun t => by
       have := hm.2 x R
       rw [D7 (S := o) (fun y hy => (Fq x y S).2 ⟨hw y hy, fun e => t (e ▸ hy)⟩) u.2.1] at this
       cases this⟩)
      rw [← this]; exact ho
    G7 := fun S c g => by
     rcases aS.1 c with c | c
     ·exact h.G7 S c g
     ·obtain rfl := aO.1 c
      rw [Z] at g; cases g } (by omega)
   exact ⟨n, i, U, W, by simp only [aJ]; omega⟩
  ·rw [aK L, aA]
   cases Z : Bj (nK kN s) f
   ·simp only [aB, aP]
    have aa : (A.filter (yX s)).length ≤ 8 := dj (ec _ _) z
    rw [T7 s (by omega) A next (by omega), aA]
    obtain ⟨n, i, U, W, r3⟩ := FY A f M G z k level out H l (D ++ [s]) d (next ++ (A.filter (yX s)).map fun r => s ++ [r]) (by rw [e]; simp) { h with
     Hh := fun S c hm => by
      rcases aS.1 c with c | c
      ·exact h.Hh S c hm
      ·obtain rfl := aO.1 c
       have := hm.1
       unfold sT at this
       rw [Z] at this; cases this
     G7 := fun S c g r v J => by
      rcases aS.1 c with c | c
      ·exact bI _ (h.G7 S c g r v J)
      ·obtain rfl := aO.1 c
       exact cD _ (bH.2 ⟨r, cT.2 ⟨v, J⟩, rfl⟩)
     Q3 := fun T I => by
      rcases aS.1 I with I | I
      ·exact h.Q3 T I
      ·obtain ⟨r, v, rfl⟩ := bH.1 I
       have v := cT.1 v
       exact ⟨Tu G w.1 v.1 v.2, by simp [w.2]⟩ } (by simp; omega)
    exact ⟨n, i, U, W, by simp at r3; simp only [aJ]; omega⟩
   ·simp only [bc]
    have O : sT f s = true := Z
    have P : Dp f s := ⟨O, fun a ha => by
     rw [← cv]
     intro a1
     obtain ⟨m, h1, h2⟩ := Is f _ (Cc a s) rfl (a8.sublist dS) a1
     have a6 : m.length < k := by
      have hle := h1.length_le
      have j : (Cc a s).Sublist s := dS
      rcases iU (Cc a s).length s.length with h | h
      ·omega
      ·have e := j.eq_of_length (by have := j.length_le; omega)
       have : a ∈ Cc a s := by rw [e]; exact ha
       exact absurd rfl ((Fq a a s).1 this).2
     have Q : m.Sublist s := h1.trans dS
     have a7 := h.sup m (H.NO m (Q.trans w.1) h2 a6)
     exact L (dN.2 ⟨m, a7, (FZ m s).2 fun x R => Q.subset R⟩)⟩
    have t : s ∉ d := fun hm => L (dN.2 ⟨s, hm, (FZ s s).2 fun x R => R⟩)
    rw [mG (by simp; omega) (by simp; omega), aA]
    obtain ⟨n, i, U, W, r3⟩ := FY A f M G z k level out H l (D ++ [s]) (d ++ [s]) next (by rw [e]; simp) { h with
     DI := fun S c => by
      rcases aS.1 c with c | c
      ·exact h.DI S c
      ·obtain rfl := aO.1 c; exact ⟨w.1, P⟩
     Ih := by
      rw [bN]
      exact ⟨h.Ih, by simp, fun a ha b Y e9 => by obtain rfl := aO.1 Y; rw [e9] at ha; exact t ha⟩
     sup := fun S c => bI _ (h.sup S c)
     Hh := fun S c hm => by
      rcases aS.1 c with c | c
      ·exact bI _ (h.Hh S c hm)
      ·exact cD _ c
     G7 := fun S c g => by
      rcases aS.1 c with c | c
      ·exact h.G7 S c g
      ·obtain rfl := aO.1 c
       rw [O] at g; cases g } (by omega)
    exact ⟨n, i, U, W, by simp only [aJ]; omega⟩
theorem Lw {l : List kw} (h : l.Nodup) {i j : Nat} {a : i < l.length} {c : j < l.length} (e : l[i] = l[j]) : i = j := by
 have h := fU.1 h
 rcases fG i j with k | k | k
 ·exact absurd e (h i j a c k)
 ·exact k
 ·exact absurd e.symm (h j i c a k)
theorem RB (S : List kw) (k : Nat) (h : S.length = k + 1) : ∃ r, S = S.take k ++ [r] := by
 refine ⟨S[k], ?_⟩
 rw [← List.take_succ_eq_append_getElem (by omega), cX (by omega)]
theorem Na (A : List kw) (f : Formula) (U : Gd f) (I : A.Pairwise (fun a b => xg a b = true)) (T : A.length ≤ 8) : ∀ (d k : Nat) (level out : List (List kw)) (n : Nat), k + d = 10 → Yo A f k level out → level.length ≤ 8 ^ k → d < n →
  ∃ g, tj f A n level out = (zg g) ∧ g.Nodup ∧ ∀ S, S ∈ g ↔ S.Sublist A ∧ Dp f S
 | d, k, level, out, n + 1, hk, H, hl, hn => by
  have z : A.Nodup := I.imp fun {a b} h e => by subst e; exact (uy (fun _ => True)).irrefl a trivial h
  rw [tj]
  by_cases L : level = []
  ·subst L
   rw [aK (by simp)]
   refine ⟨out, by rw [uN], H.Ih, fun S => ⟨H.DI S, fun ⟨h1, R⟩ => ?_⟩⟩
   by_cases u : S.length < k
   ·exact H.NO S h1 R u
   ·exfalso
    have := H.MB (S.take k) ((List.take_sublist k S).trans h1) (by simp; omega) (fun j W => by
     rw [eJ, cP (by omega)]
     rw [← cv]
     intro M
     have t : S[j] ∈ S := dM (by omega)
     have c := R.2 S[j] t
     rw [D7 (S := S.take j) (fun x G => (Fq _ _ _).2 ⟨iM G, fun e => by
      have q := z.sublist h1
      obtain ⟨i, O, w⟩ := List.mem_iff_getElem.1 G
      rw [List.getElem_take] at w
      rw [cy] at O
      have := Lw q (w.trans e)
      omega⟩) M] at c
     cases c)
    cases this
  ·have Y : 0 < level.length := List.length_pos_iff.2 L
   have Q : k ≤ 8 := by
    obtain ⟨s, hs⟩ := List.exists_mem_of_ne_nil _ L
    have := H.QH s hs
    have := this.1.length_le
    omega
   have a1 : 8 ^ k ≤ 8 ^ 8 := ev (by decide) Q
   rw [aM (by simp; omega)]
   obtain ⟨o2, n2, r1, v, r3⟩ := FY A f U I T k level out H level [] out [] rfl { DI := H.DI, Ih := H.Ih, sup := fun _ h => h, Hh := fun _ h => (nomatch h), G7 := fun _ h => (nomatch h), Q3 := fun _ h => (nomatch h) } (by simp; omega)
   rw [r1, aA]
   obtain ⟨d, rfl⟩ : ∃ Z, d = Z + 1 := ⟨d - 1, by omega⟩
   refine Na A f U I T d (k + 1) n2 o2 n (by omega) { QH := v.Q3, MB := fun S o D m => ?_, DI := v.DI, Ih := v.Ih, NO := fun S o hm D => ?_ } (by rw [ib]; simp at r3; omega) (by omega)
   ·obtain ⟨r, J⟩ := RB S k D
    have ht : S.take k ∈ level := H.MB _ ((List.take_sublist k S).trans o) (by simp; omega) (fun j W => by rw [eJ, cP (by omega)]; exact m j (by omega))
    have hr : r ∈ A := o.subset (by rw [J]; simp)
    have hb : yX (S.take k) r = true := by
     have hp := I.sublist o
     rw [J, dv] at hp
     unfold yX
     rcases dg (S.take k) with e | ⟨P, y, e⟩
     ·rw [e]; rfl
     ·rw [e]
      simp
      exact hp.2.2 y (by rw [e]; simp) r (by simp)
    rw [J]
    exact v.G7 _ ht (m k (by omega)) r hr hb
   ·by_cases u : S.length < k
    ·exact v.sup S (H.NO S o hm u)
    ·refine v.Hh S (H.MB S o (by omega) fun j W => ?_) hm
     rw [← cv]
     intro M
     have t : S[j]'(by omega) ∈ S := dM (by omega)
     have c := hm.2 _ t
     rw [D7 (S := S.take j) (fun x G => (Fq _ _ _).2 ⟨iM G, fun e => by
      have q := z.sublist o
      obtain ⟨i, O, w⟩ := List.mem_iff_getElem.1 G
      rw [List.getElem_take] at w
      rw [cy] at O
      have := Lw q (w.trans e)
      omega⟩) M] at c
     cases c
theorem KR (s : tH) (g : s.lH.length ≤ 30000) : ∃ m, Eo s = some m ∧ ∀ r, yY r m.1 m.2.1 m.2.2.1 m.2.2.2.1 m.2.2.2.2.1 m.2.2.2.2.2.1 m.2.2.2.2.2.2.1 s.lR.nr s.lR.oq m.2.2.2.2.2.2.2.1 m.2.2.2.2.2.2.2.2 s.lH s.Shown s.mA s.qz = some (vD s.lH s.og r) := by
 obtain ⟨F, a⟩ := Xz s.lH g
 obtain ⟨m, c, _, d⟩ := a.Zk
 have h := Ua a s.og
 refine ⟨_, by unfold Eo; rw [c]; rfl, fun r => ?_⟩
 unfold yY
 rw [uN, d, ← h]; rfl
def yW : ByteArray := ⟨#[121, 111, 117]⟩
def yC : ky := ⟨1, sY, yW, ⟨zS, zS⟩, ⟨zS, zS⟩, zS⟩
def yS : tH := ⟨⟨⟨#[109, 101]⟩, [], []⟩, yW, 3, [yC], [], [], []⟩
def yZ : kV := ⟨yC, ⟨sY, yW⟩⟩
theorem PT : mf yC = true := by decide +kernel
theorem YM : vD [yC] yW sY = true := by
 unfold vD
 have h : [yC].filter mf = [yC] := by rw [fi, PT]; rfl
 rw [h]
 exact @decide_eq_true _ (Classical.propDecidable _) (ol.mem yC (by simp) rfl)
theorem Uc : vM [yC] ⟨sY, yW⟩ = some ([yZ], true) ∧ Dq [yZ] := by
 obtain ⟨C, d, h⟩ := PQ [yC] (by simp) ⟨sY, yW⟩
 have hm : ∀ c, c ∈ C ↔ c = yC := fun c => by rw [d.2]; exact ⟨fun h => by simpa using h.1, fun h => by subst h; exact ⟨by simp, PT⟩⟩
 have i := qg D2 d
 rcases h with ⟨o, e, a⟩ | ⟨_, m⟩
 ·obtain ⟨P, z, rfl, j⟩ := a.last
  have := a.len
  have n : C.length * C.length ≤ 1 * 1 := fh i i
  simp only [aH, aJ, bW] at this
  have k : P = [] := bR (by omega)
  subst k
  have g := (hm _).1 (a.cr z (by simp))
  have : z = yZ := by cases z; simp only at j g; subst j g; rfl
  subst this
  exact ⟨e, a.tg⟩
 ·exact absurd (.mem yC ((hm yC).2 rfl) rfl) m
theorem Ze : oW yS (sa sY) 1 0 true = some ⟨1, 0, [sY], [yZ]⟩ := by
 obtain ⟨m, e, h⟩ := KR yS (by decide)
 unfold oW
 rw [aK (by decide)]
 simp only [aA, dR, aB, aP]
 rw [e, aA, VY _ (by rw [h]; exact aV some YM), aA]
 simp only [bM, aB, aP]
 rw [qK, show yS.lH = [yC] from rfl, show yS.og = yW from rfl, Uc.1, aA, MY _ (by simp [tot]), aA, qK]
 simp [xG, mo, nK]
theorem YR : oW yS (sa sY) 1 0 false = some ⟨1, 0, [], []⟩ := by
 unfold oW
 simp
theorem Zb : pn [yC] [] [yZ] = true := (BR _ _ _).2 ⟨fun s a => by obtain rfl := aO.1 a; exact aO.2 rfl, by have := Uc.2; exact this.2.1⟩
theorem gY : Gd (sa sY) := by unfold Gd; decide +kernel
theorem dY : pu (sa sY) ≤ lC := by rw [pp]; decide +kernel
theorem yT (l : List kw) : Ac (nK kN l) (sa sY) = nK kN l sY := by
 unfold Ac; rw [M7, Pm]; rfl
theorem WV : nK kN [sY] sY = true := (nn kP _ _).2 (by simp)
theorem XS : oB ⟨1, 0, [sY], [yZ]⟩ [yC] (sa sY) yW = some 0 := by
 rw [(E9 _ _ _ _ (by simp) gY dY).1]
 unfold F4
 rw [aK (by simp)]
 simp only [yT, WV, Zb]
 have : nK nq (mo [yZ]) ⟨sY, yW⟩ = true := (nn mH _ _).2 (by simp [mo, yZ])
 simp [this]
theorem Yk : oB ⟨1, 0, [sY], [yZ]⟩ [] (sa sY) yW = some 50 := by
 rw [(E9 _ _ _ _ (by simp) gY dY).1]
 unfold F4
 rw [aK (by simp)]
 have : pn [] [] [yZ] = false := by rw [← cv, BR]; simp
 simp only [yT, WV, this]
 simp
theorem XM : oB ⟨1, 0, [], []⟩ [yC] (sa sY) yW = some 44 := by
 rw [(E9 _ _ _ _ (by simp) gY dY).1]
 unfold F4
 rw [aK (by simp)]
 have : nK kN [] sY = false := by rw [← cv, nn kP]; simp
 simp only [yT, this]
 simp
theorem XF : oB zO [] (sa sY) yW = some 43 := by
 rw [(E9 _ _ _ _ (by simp) gY dY).1]
 unfold F4
 rw [aM (by simp)]
theorem Ur : ml sY = true := by decide +kernel
theorem Ud : mZ yW = true := by decide +kernel
theorem YV : wJ [] ⟨1, 0, [sY], [yZ]⟩ = some (true, Gf ⟨1, 0, [sY], [yZ]⟩) := by
 rw [YE, aM]
 refine ⟨?_, ?_⟩
 ·unfold Pw
  simp [Ur]
 ·unfold I5
  have : yJ yZ = true := by
   unfold yJ
   rw [show yZ.ky = yC from rfl, PT, show yZ.kB.lx = yW from rfl, Ud, show yZ.kB.kw = yC.Head from rfl, kP.2 rfl]; rfl
  simp [this]
theorem QR : Gf ⟨1, 0, [sY], [yZ]⟩ = 1 :: 0 :: 1 :: (pv sY ++ (1 :: (qM yC ++ (tY yW ++ [])))) := by
 unfold Gf E7
 simp [EP, Ez, yZ]
theorem X5 : Rj (Gf ⟨1, 0, [sY], [yZ]⟩) = (0, ⟨1, 0, [sY], [yZ]⟩) := by
 rw [QR]
 unfold Rj Nh
 rw [BF 3 1 _ (by decide) (by decide) (by decide)]
 simp only [nB]
 rw [BF 99 0 _ (by decide) (by decide) (by decide)]
 simp only
 rw [BF 64 1 _ (by decide) (by decide) (by decide)]
 simp only
 rw [show Int.toNat 1 = 0 + 1 from rfl, xi, AK Ur]
 simp only [nB, xi]
 unfold KI
 rw [BF 256 1 _ (by decide) (by decide) (by decide)]
 simp only [nB]
 rw [show Int.toNat 1 = 0 + 1 from rfl, xi]
 unfold CM
 rw [Sf PT]
 simp only [nB]
 rw [B7 Ud]
 rfl
theorem U3 : z8 = some true := by
 have hlen : (Gf ⟨1, 0, [sY], [yZ]⟩).length ≤ 1000000 := by
  have h1 := nF Ur
  have t := G1 PT
  have u := nz Ud
  rw [QR]
  simp [qc]
  omega
 have c : B8 (Gf ⟨1, 0, [sY], [yZ]⟩) := by
  rw [QR]
  intro x a
  simp only [aR, aS, di, fw] at a
  rcases a with rfl | rfl | rfl | a | rfl | a | a
  ·omega
  ·omega
  ·omega
  ·exact yk Ur x a
  ·omega
  ·exact EF PT x a
  ·exact zQ Ud x a
 have rd := Xa _ c hlen
 rw [X5] at rd
 have n := NP hlen
 obtain ⟨q, o, _, d⟩ := QI ⟨1, 0, [sY], [yZ]⟩ ⟨1, 0, [sY], [yZ]⟩
 have d := d rfl
 subst d
 have g := XS
 have k2 := Yk
 have h := XM
 have i := XF
 have m := YV
 have j := Ze
 have k := YR
 generalize v : Gf ⟨1, 0, [sY], [yZ]⟩ = T at *
 unfold z8
 rw [show oW (⟨(⟨(⟨#[109, 101]⟩ : ByteArray), [], []⟩ : lR), (⟨#[121, 111, 117]⟩ : ByteArray), 3, [(⟨1, (⟨(⟨#[120]⟩ : ByteArray), (⟨#[121]⟩ : ByteArray)⟩ : kw), (⟨#[121, 111, 117]⟩ : ByteArray), (⟨zS, zS⟩ : kw), (⟨zS, zS⟩ : kw), zS⟩ : ky)], [], [], []⟩ : tH) (⟨1, 0, (⟨(⟨#[120]⟩ : ByteArray), (⟨#[121]⟩ : ByteArray)⟩ : kw), []⟩ : Formula) 1 0 true = _ from j, aA]
 rw [show oW (⟨(⟨(⟨#[109, 101]⟩ : ByteArray), [], []⟩ : lR), (⟨#[121, 111, 117]⟩ : ByteArray), 3, [(⟨1, (⟨(⟨#[120]⟩ : ByteArray), (⟨#[121]⟩ : ByteArray)⟩ : kw), (⟨#[121, 111, 117]⟩ : ByteArray), (⟨zS, zS⟩ : kw), (⟨zS, zS⟩ : kw), zS⟩ : ky)], [], [], []⟩ : tH) (⟨1, 0, (⟨(⟨#[120]⟩ : ByteArray), (⟨#[121]⟩ : ByteArray)⟩ : kw), []⟩ : Formula) 1 0 false = _ from k, aA]
 rw [m, aA]
 simp only
 rw [n, aA, rd, aA]
 rw [show (⟨1, (⟨(⟨#[120]⟩ : ByteArray), (⟨#[121]⟩ : ByteArray)⟩ : kw), (⟨#[121, 111, 117]⟩ : ByteArray), (⟨zS, zS⟩ : kw), (⟨zS, zS⟩ : kw), zS⟩ : ky) = yC from rfl, show (⟨1, 0, (⟨(⟨#[120]⟩ : ByteArray), (⟨#[121]⟩ : ByteArray)⟩ : kw), []⟩ : Formula) = sa sY from rfl, show (⟨#[121, 111, 117]⟩ : ByteArray) = yW from rfl]
 simp only
 rw [g, k2, h, i, o]
 have s : wi0 .i64 (0 : Int) = 0 := by rw [lQ (by omega) (by omega)]
 simp [s]
theorem PV (rec : Formula → Option (List kw)) : ∀ (a : List Formula) (acc : List kw), (∀ k ∈ a, rec k = some (Ca k)) → acc.length + (BX a).length ≤ 100000000 → te rec a acc = some (acc ++ BX a)
 | [], acc, _, _ => by rw [te, BX, cu]
 | k :: a, acc, h, c => by
  rw [BX, aH] at c
  rw [te, h k (by simp), aA, mG (by omega) (by omega), aA, PV rec a _ (fun x d => h x (by simp [d])) (by rw [aH]; omega), BX, aT]
theorem U7 : ∀ (n : Nat) (f : Formula), pu f ≤ n → mz f ≤ 10000000 → uV n f = some (Ca f) := by
 intro n
 induction n with
 | zero => intro f h; rw [nV] at h; omega
 | succ n ih =>
  intro f c g
  rw [nV] at c
  have d := sR f
  have hlen := HL f
  rw [uV]
  unfold yM
  rw [Nv] at *
  by_cases c1 : f.Op = 1
  ·simp only [c1, bY, bc]
  ·have a : (f.Op == 1) = false := by simpa using c1
   simp only [a, aB, aP, c1] at *
   rw [PV _ f.Kids [] (fun k hk => ih k (by have := wX hk; omega) (by have := xC hk; omega)) (by simp; omega), bU]
theorem RX (f : Formula) (h : mz f ≤ 10000000) {A : List kw} (a : B5 (Ca f) A) : yc f = some A := by
 have h1 := HL f
 obtain ⟨r, e, c⟩ := UH (Ca f) (by omega)
 obtain rfl := qP.unique (uy _) c a
 unfold yc
 have := xz f
 rw [U7 lC f (by rw [tM]; omega) h, aA, e]; rfl
theorem V2 (f : Formula) (o : Gd f) (q : mz f ≤ 10000000) {A : List kw} (i : B5 (Ca f) A) (j : A.length ≤ 8) : ∃ s, Al f = some s ∧ qP (fun a b => xb a b = true) (fun _ => True) (vJ A f) s := by
 have c : A.Nodup := i.1.imp fun {a b} h e => by subst e; exact (uy (fun _ => True)).irrefl a trivial h
 obtain ⟨k, e, g, hm⟩ := Na A f o i.1 j 10 0 [[]] [] lC rfl {
  QH := fun S d => by obtain rfl := aO.1 d; exact ⟨List.nil_sublist _, rfl⟩
  MB := fun S _ h _ => by rw [bR h]; simp
  DI := fun S d => nomatch d
  Ih := List.nodup_nil
  NO := fun S _ _ h => by omega } (by simp) (by rw [pp]; omega)
 have hlen : k.length ≤ 128 := by
  have := mF (m := vJ A f) g (fun S d => (AY c (by omega) S).2 ((hm S).1 d))
  have := FU (f := f) c j
  omega
 obtain ⟨s, n, t⟩ := VK k g (by omega)
 refine ⟨s, ?_, t.congr fun S => by rw [hm, AY c (by omega)]⟩
 unfold Al
 rw [RX f q i, aA, e, n]
theorem HK : ∀ (l acc : List kV), ∀ f ∈ mo acc, f ∈ mo (xG l acc)
 | [], acc, f, h => h
 | s :: l, acc, f, h => by
  rw [xG]; split
  ·exact HK l acc f h
  ·exact HK l _ f (by rw [qH]; exact bI _ h)
theorem HV : ∀ (l acc : List kV), ∀ f ∈ mo l, f ∈ mo (xG l acc)
 | s :: l, acc, f, h => by
  rw [xG]
  have h : f = s.kB ∨ f ∈ mo l := by simpa [mo] using h
  split
  ·rename_i a
   rcases h with rfl | h
   ·exact HK l acc _ ((nn mH _ _).1 a)
   ·exact HV l acc f h
  ·rcases h with rfl | h
   ·exact HK l _ _ (by rw [qH]; simp [mo])
   ·exact HV l _ f h
theorem MU {l : List kV} (h : Dq l) : nl [] l := h.2.1
theorem Uh (s : tH) (ha : s.lH.length ≤ 1000) (a2 a3 : Int) (q : List kw × Bool) : ∀ (a : List kw) (acc : List kV), acc.length + 1000000 * a.length ≤ 50000000 → nl [] acc → (∀ z ∈ acc, z.ky ∈ s.lH) →
  ∃ i, qK s a2 a3 q a acc = some ⟨a2, a3, q.1, i⟩ ∧ i.length ≤ 50000000 ∧ nl [] i ∧ (∀ z ∈ i, z.ky ∈ s.lH) ∧ (∀ f ∈ mo acc, f ∈ mo i) ∧ ∀ r ∈ a, vD s.lH s.og r = true → (⟨r, s.og⟩ : kB) ∈ mo i
 | [], acc, A, v, t => ⟨acc, by rw [qK], by omega, v, t, fun _ h => h, fun _ h => nomatch h⟩
 | r :: a, acc, A, v, t => by
  simp only [aJ] at A
  rw [qK]
  obtain ⟨C, n, h⟩ := PQ s.lH (by omega) ⟨r, s.og⟩
  have L := qg D2 n
  have O : C.length * C.length ≤ 1000 * 1000 := fh (by omega) (by omega)
  have u : ∀ c, c ∈ C ↔ c ∈ s.lH.filter mf := fun c => by rw [n.2, cT]
  have j : ∃ o b, vM s.lH ⟨r, s.og⟩ = some (o, b) ∧ o.length ≤ 1000000 ∧ nl [] o ∧ (∀ z ∈ o, z.ky ∈ s.lH) ∧ (vD s.lH s.og r = true → (⟨r, s.og⟩ : kB) ∈ mo o) := by
   rcases h with ⟨o, e, g⟩ | ⟨e, g⟩
   ·have := g.len
    exact ⟨o, true, e, by omega, MU g.tg, fun z d => ((n.2 _).1 (g.cr z d)).1, fun _ => g.Vv⟩
   ·refine ⟨[], false, e, by simp, trivial, (fun _ h => nomatch h), fun m => ?_⟩
    unfold vD at m
    have := @of_decide_eq_true _ (Classical.propDecidable _) m
    exact absurd ((ol.congr u _).2 this) g
  obtain ⟨o, b, e, h1, G, I, J⟩ := j
  rw [e, aA, MY [acc, o] (by simp [tot]; omega), aA]
  simp only [dt, jT, cu]
  have hm : xG (acc ++ o) [] = xG o (xG acc []) := PP acc o []
  have w : nl [] (xG (acc ++ o) []) := by
   rw [hm]
   exact CL o _ [] G (fun _ h => nomatch h) (CL acc [] [] v (fun _ h => nomatch h) trivial)
  have k := FI (acc ++ o) []
  rw [aH] at k
  obtain ⟨i, P, Q, R, T, D, U⟩ := Uh s ha a2 a3 q a (xG (acc ++ o) []) (by simp at k; omega) w (fun z d => by
   rcases Kj _ _ _ d with d | d
   ·rcases aS.1 d with d | d
    ·exact t z d
    ·exact I z d
   ·cases d)
  refine ⟨i, P, Q, R, T, fun f M => D f (HV _ _ f (by rw [qH]; exact bI _ M)), fun x y m => ?_⟩
  rcases aR.1 y with rfl | y
  ·exact D _ (HV _ _ _ (by rw [qH]; exact cD _ (J m)))
  ·exact U x y m
theorem RY {o : lZ} {C : List ky} {f : Formula} {peer : ByteArray} : F4 o C f peer = 0 ↔ o.State = 1 ∧ Ac (nK kN o.lP) f = true ∧ pn C [] o.lX = true ∧ ∀ r ∈ o.lP, (⟨r, peer⟩ : kB) ∈ mo o.lX := by
 unfold F4
 by_cases h1 : o.State = 1
 ·rw [aK (by simpa using h1)]
  cases d : Ac (nK kN o.lP) f
  ·simp
  ·rw [aK (by simp)]
   cases g : pn C [] o.lX
   ·simp
   ·rw [aK (by simp)]
    by_cases a : (o.lP.all fun r => nK nq (mo o.lX) ⟨r, peer⟩) = true
    ·rw [aM a]
     simp only [h1, true_and, true_iff]
     exact fun r c => (nn mH _ _).1 (dI.1 a r c)
    ·rw [aK a]
     simp only [h1, true_and]
     refine ⟨fun h => absurd h (by decide), fun h => absurd (dI.2 fun r c => (nn mH _ _).2 (h r c)) a⟩
 ·rw [aM h1]
  simp [h1]
theorem UM (s : tH) (f : Formula) (ha : s.lH.length ≤ 1000) (x : Gd f) (st e : Int) (owner : Bool) :
  (((owner = false ∨ st ≠ 1 ∨ uZ f = false) ∧ oW s f st e owner = some ⟨st, e, [], []⟩) ∨
  (owner = true ∧ st = 1 ∧ uZ f = true ∧ ∃ A, B5 (Ca f) A ∧ A.length ≤ mz f ∧ ∃ o, oW s f st e owner = some o ∧ o.State = st ∧ o.oE = e ∧ o.lX.length ≤ 50000000 ∧
   (A.length ≤ 8 → ∃ L, qP (fun a b => xb a b = true) (fun _ => True) (vJ A f) L ∧
    ((L.find? (fun S => S.all (vD s.lH s.og)) = none ∧ o.lP = [] ∧ o.lX = []) ∨ (∃ S, L.find? (fun S => S.all (vD s.lH s.og)) = some S ∧ o.lP = S ∧ nl [] o.lX ∧ (∀ z ∈ o.lX, z.ky ∈ s.lH) ∧ ∀ r ∈ S, (⟨r, s.og⟩ : kB) ∈ mo o.lX))))) := by
 unfold oW
 by_cases h1 : owner = true ∧ st = 1
 ·obtain ⟨rfl, rfl⟩ := h1
  obtain ⟨m, D, O⟩ := KR s (by omega)
  have j : (if (!true) = true then some true else some ((1 : Int) != 1) : Option Bool) = some false := rfl
  rw [j, aA]
  simp only [aB, aP]
  rw [D, aA]
  unfold yN
  cases y : uZ f
  ·rw [OP f x y]
   exact .inl ⟨by simp, rfl⟩
  ·obtain ⟨A, Y, w, q, h⟩ := QN f x y
   refine .inr ⟨trivial, trivial, by first | exact rfl | trivial, A, w, q, ?_⟩
   have d : A.Nodup := w.1.imp fun {a b} h e => by subst e; exact (uy (fun _ => True)).irrefl a trivial h
   rcases h with ⟨n, v, L, k, t⟩ | ⟨M, k⟩
   ·rw [k, aA]
    simp only [dR, aB, aP, aA]
    rw [M3 (vD s.lH s.og) _ O L]
    cases c : L.find? (fun S => S.all (vD s.lH s.og)) with
    | none => exact ⟨_, rfl, rfl, rfl, by simp, fun _ => ⟨L, t, .inl ⟨c, rfl, rfl⟩⟩⟩
    | some S =>
     have I := eO c
     have u := ((AY d n S).1 ((t.2 S).1 I).1).1
     have J := u.length_le
     simp only [aA, bM, aB, aP]
     obtain ⟨W, P, Q, R, T, _, U⟩ := Uh s ha 1 e (S, true) S [] (by simp; omega) trivial (fun _ h => nomatch h)
     have g := ki c
     exact ⟨_, P, rfl, rfl, Q, fun _ => ⟨L, t, .inr ⟨S, c, rfl, R, T, fun r i => U r i (dI.1 g r i)⟩⟩⟩
   ·rw [k]
    refine ⟨_, rfl, rfl, rfl, by simp, fun G => ?_⟩
    have := FU (f := f) d G
    omega
 ·refine .inl ⟨?_, ?_⟩
  ·cases owner
   ·exact .inl rfl
   ·exact .inr (.inl fun h => h1 ⟨rfl, h⟩)
  ·have j : (if (!owner) = true then some true else some (st != 1) : Option Bool) = some true := by
    cases owner
    ·rfl
    ·have : st ≠ 1 := fun h => h1 ⟨rfl, h⟩
     simp [this]
   rw [j]; rfl
theorem TF (s : tH) (ha : s.lH.length ≤ 30000) : ∃ R, Af s = some R ∧ ∀ r, nK kN R r = vD s.lH s.og r := by
 obtain ⟨F, a⟩ := Xz s.lH ha
 have hlen := a.len
 refine ⟨Jw F s.og, ?_, fun r => by rw [SL, Ua a]⟩
 unfold Af
 rw [a.ref, aA, show xS F s.og = some (Jw F s.og) from V5 F s.og (by omega)]
 rfl
theorem Wp (a b : Bool) : (if a = true then some true else some b : Option Bool) = some (a || b) := Uu
theorem Lq (R : List kw) (v : kw → Bool) (a : ∀ r, nK kN R r = v r) : ∀ L : List (List kw), rE R L = some (match L.find? (fun S => S.all v) with | some S => (S, true) | none => ([], false))
 | [] => rfl
 | S :: L => by
  have e : AJ S R = S.all v := by
   unfold AJ
   rw [bF, dI, dI]
   exact ⟨fun h x c => by rw [← a]; exact h x c, fun h x c => by rw [a]; exact h x c⟩
  rw [rE]
  unfold xw
  rw [Kd, aA, e, gf]
  cases S.all v
  ·simp only [aB, aP]
   exact Lq R v a L
  ·rfl
theorem H7 (s : tH) (f : Formula) (st e : Int) (owner : Bool) (hS : SQ s) (d : Gd f) : sE ⟨s, f, st, e, owner⟩ = some true := by
 unfold sE
 obtain ⟨r1, O, _, ha⟩ := Yq s hS
 obtain ⟨r2, P⟩ := Q6 f d
 rw [U3]
 simp only [aA, bM, aB, aP]
 rw [O, P]
 simp only [aA]
 rw [Wp]
 simp only [aA]
 split
 ·rfl
 rename_i hg
 have a6 : r1 ≤ 4000 := by simp at hg; omega
 have hd := xz f
 have M : wi0 .i64 (0 : Int) = 0 := by rw [lQ (by omega) (by omega)]
 rcases UM s f (by omega) d st e owner with ⟨hc, m⟩ | ⟨rfl, rfl, k, A, n, W, o, m, j, v, a1, h⟩
 ·obtain ⟨q, I, _, x⟩ := QI ⟨st, e, [], []⟩ ⟨st, e, [], []⟩
  obtain rfl := x rfl
  rw [m, aA]
  simp only [dR, aB, aP, aA]
  rw [I]
  simp only [aA, bM, aB, aP]
  rw [Wp]
  simp only [aA]
  rw [Oh f d]
  simp only [aA]
  rw [Wp]
  simp only [aA]
  rw [aM]
  ·simp [M]
  ·rcases hc with rfl | h | h
   ·simp
   ·simp [h]
   ·simp [h]
 ·obtain ⟨q, I, _, x⟩ := QI o o
  obtain rfl := x rfl
  rw [m, aA]
  simp only [j, v, dR, aB, aP, aA]
  rw [I]
  simp only [aA, bM, aB, aP]
  rw [Oh f d, k]
  simp only [aA, bM, aB, aP]
  rw [RX f (by have := J6 k; omega) n, aA]
  by_cases J : A.length ≤ 8
  ·rw [aK (by simp; omega)]
   obtain ⟨L, Y, h⟩ := h J
   obtain ⟨R, T, Z⟩ := TF s (by omega)
   obtain ⟨L2, Q, g⟩ := V2 f d (by have := J6 k; omega) n J
   obtain rfl := qP.unique Jd g Y
   have t : A.Nodup := n.1.imp fun {a b} h e => by subst e; exact (uy (fun _ => True)).irrefl a trivial h
   have U : ye s f = some (match L2.find? (fun S => S.all (vD s.lH s.og)) with | some S => (S, true) | none => ([], false)) := by
    unfold ye
    rw [T, aA, Q, aA, Lq R _ Z L2]
   rw [U, aA]
   rcases h with ⟨h, c, u⟩ | ⟨S, i, c, z, D, G⟩
   ·rw [h, c, u]
    simp [M]
   ·rw [i]
    simp only [bM, aB, aP]
    obtain ⟨b, _, sb, hb⟩ := Ri o.lP S
    obtain rfl := hb.2 c
    have w : sT f S = true := ((AY t (by omega) S).1 ((g.2 S).1 (eO i)).1).2.1
    rw [sb, aA, (E9 o s.lH f s.og (by omega) d (by unfold Gd at d; rw [pp]; omega)).2, RY.2 ⟨j, by unfold Ac; rw [k, c]; exact w, (BR _ _ _).2 ⟨D, z⟩, fun r y => G r (c ▸ y)⟩]
    simp
  ·rw [aM (by simp; omega)]
end Go.Proofs.YtbnbdigcbldfhaaGreat
namespace Go.Proofs.YtbnbdigcbldfhaaGreat.Lf
open Go.ChangeShapes Go.WideShapes Go.ChangeAt Go.RowKit
open Go.Proofs.YtbnbdigcbldfhaaGreat (Rows.uptoBulk Rows.uptoBulkAll Rows.uptoSmall)
theorem SI {H : Type} (d : DataW H) : 1 ≤ Rows.uptoBulk d := by
 cases d with
 | lit l => cases l <;> simp [Rows.uptoBulk]
 | nil => simp [Rows.uptoBulk]
 | ptr d => simp [Rows.uptoBulk]
 | slice a spare => simp [Rows.uptoBulk]
 | agg parts => simp [Rows.uptoBulk]
 | iface t d => simp [Rows.uptoBulk]
 | map entries => simp [Rows.uptoBulk]
 | held h => simp [Rows.uptoBulk]
theorem length_le {H : Type} (l : List (DataW H)) : l.length ≤ Rows.uptoBulkAll l := by
 induction l with
 | nil => simp [Rows.uptoBulkAll]
 | cons x r ih => have := SI x; simp only [Rows.uptoBulkAll, aJ]; omega
def J2 {α : Type} (P : Program) (t : TypeId) (enc : α → List Value) (sz : α → Nat) : Prop :=
 ∀ (H : Type) (c : TypeId × Value → H) (W : World) (base : Nat) (sp : Nat → Bool) (d : Bool) (fuel : Nat) (cs : List Value) (x : DataW H × List MemPlace),
  DataW.trod c P W base sp d fuel t cs = some x → ∃ a : α, cs = enc a ∧ sz a ≤ Rows.uptoBulk x.1
theorem Qf {P : Program} {t : TypeId} (a : P.underlying t = some .string) : J2 P t (fun s : ByteArray => [.string s]) (fun s => s.size) := by
 intro H c W base sp d fuel cs x h
 obtain ⟨s, rfl, rfl, _⟩ := DataW.trod_string a h
 refine ⟨s, rfl, ?_⟩
 have e : s.data.toList.length = s.size := by rw [cU]; rfl
 simp [Rows.uptoBulk, e]
theorem Vc {P : Program} {t : TypeId} {k : IntKind} (a : P.underlying t = some (.int k)) : J2 P t (fun n : Int => [.int k n]) (fun _ => 0) := by
 intro H c W base sp d fuel cs x h
 obtain ⟨n, rfl, rfl, _⟩ := DataW.trod_int a h
 exact ⟨n, rfl, dV _⟩
theorem Vw {α : Type} {n : Nat} {p : Nat → α → Prop} (h : ∀ i, i < n → ∃ x, p i x) : ∃ l : List α, l.length = n ∧ ∀ i x, l[i]? = some x → p i x := by
 induction n with
 | zero => exact ⟨[], rfl, by simp⟩
 | succ n ih =>
  obtain ⟨l, h1, d⟩ := ih fun i c => h i (by omega)
  obtain ⟨x, j⟩ := h n (by omega)
  refine ⟨l ++ [x], by simp [h1], fun i y a => ?_⟩
  by_cases c : i < l.length
  ·rw [List.getElem?_append_left c] at a
   exact d i y a
  ·rw [fK (by omega)] at a
   have : i - l.length = 0 := by
    cases g : i - l.length with
    | zero => rfl
    | succ m => rw [g] at a; simp at a
   rw [this] at a
   have e : i = n := by omega
   simp at a
   subst a; rw [e]; exact j
theorem Nw {W : World} {a : Addr} {v : Value} (h : W.cell? a = some v) : ∃ cs T fr, W.heap[a.block]? = some (.cells cs T fr) ∧ a.spot = none ∧ cs[a.off]? = some v := by
 unfold World.cell? at h
 split at h
 ·rename_i c T fr g
  by_cases d : a.spot.isSome
  ·simp [d] at h
  ·simp only [d] at h
   exact ⟨c, T, fr, g, by simpa using d, by simpa using h⟩
 ·cases h
theorem Ex.below {dd : Bool} {W W' : World} (h : Ex dd W W') : Below W.heap.size W W' := ⟨h.os, h.tape, h.output, h.size, h.na⟩
theorem Gw {H : Type} {m : TypeId × Value → H} {P : Program} (o : laidOutB P = true) {W W' : World} {c : Nat → Bool} :
  ∀ {i : List TypeId} {vs : List Value} {j : List (DataW H)} {g : List MemPlace}, (∀ t ∈ i, P.readableRec t = true ∧ t < P.types.size) →
   DataW.TrodAll m P W 0 (fun _ => true) true i vs j g → (∀ p ∈ g, W.sameAt W' p) → (∀ p ∈ g, c p.block = true) → DataW.TrodAll m P W' 0 c true i vs j g
 | [], _, _, _, _, h, _, _ => by
  obtain ⟨rfl, rfl, rfl⟩ := trodAll_nil h
  exact trodAll_mk0
 | t :: i, _, _, _, k, h, h1, n => by
  obtain ⟨v, vs, d, j, p, q, rfl, rfl, rfl, s, w⟩ := trodAll_cons h
  exact trodAll_cons_mk (WideElems.Trod_stays o (k t (by simp)).1 (k t (by simp)).2 s (fun x a => h1 x (by simp [a])) (fun x a => n x (by simp [a])))
   (Gw o (fun u hu => k u (by simp [hu])) w (fun x a => h1 x (by simp [a])) (fun x a => n x (by simp [a])))
theorem Qe {H : Type} {enc : TypeId × Value → H} {P : Program} (M : laidOutB P = true) {f : Func} {s : ChangeSpec} {apart fresh handsOn again : Bool} {W W' : World} {args : Array Value} {v : Value} {a gs : List (DataW H)} {before : List MemPlace} (Q : ∀ t ∈ f.params.toList, P.readableRec t = true ∧ t < P.types.size) (n : s.vars = []) (u : DataW.Whole enc P f.params.toList s.vars apart W args.toList a gs before) {dd : Bool} (G : Ex dd W W') (c : ∀ (b : Nat) (sp : Nat → Bool) (L : Bool), DataW.TrodAll enc P W' b sp L f.resultTypes.toList (v.resultList f.resultTypes.size) (s.fn H (a ++ gs)).results []) (d : (s.fn H (a ++ gs)).args = a) (h : (s.fn H (a ++ gs)).vars = []) (A : ∀ (j : Nat) (t : TypeId) (r : Value), f.resultTypes[j]? = some t → (v.resultList f.resultTypes.size)[j]? = some r → Value.okWide P W' .any 0 t r) :
  s.post enc P f apart fresh handsOn again W args v W' := by
 have g := u.lt
 have hold : ∀ p ∈ before, (fun b => decide (b < W.heap.size)) p.block = true := fun p hp => by simpa using g p hp
 have z := Ex.below G
 have y := u
 obtain ⟨p, q, J, I, k, R, O⟩ := u
 rw [n] at I
 obtain ⟨rfl, rfl⟩ := trodVars_none I
 rw [cu] at k
 subst k
 have m : ∀ sp : Nat → Bool, (∀ p ∈ before, sp p.block = true) → DataW.TrodAll enc P W' 0 sp true f.params.toList args.toList (s.fn H (a ++ [])).args before := fun sp D => by
  rw [d]
  exact Gw M Q J (fun x G => z.same (g x G)) D
 have o : ∀ sp : Nat → Bool, DataW.TrodVars enc P W' sp s.vars (s.fn H (a ++ [])).vars [] := fun sp => by
  rw [h, n]; rfl
 refine ⟨a, [], before, [], before, [], y, c _ _ _, m _ hold, o _, World.keptBut_mono (fun p hp => ⟨hp, ?_⟩) (z.frame (· ∈ before)), fun _ => ?_⟩
 ·exact Or.inr (Or.inl hp)
 ·refine ⟨A, _, _, ([] ++ before) ++ [], ⟨[] ++ before, [], trodAll_append (m _ (fun _ _ => rfl)) (c _ _ _), o _, rfl, ?_, ?_⟩, ?_⟩
  ·intro b off hp
   have i : MemPlace.cell b off ∈ before := by simpa using hp
   rw [World.frozen?_of_block (w := W) (z.block b (g _ i))]
   exact R b off i
  ·intro ha
   simpa using O ha
  ·intro p hp _
   simpa using hp
end Go.Proofs.YtbnbdigcbldfhaaGreat.Lf
namespace Go.Proofs.YtbnbdigcbldfhaaGreat.Lf
open Go.ChangeShapes Go.WideShapes Go.ChangeAt Go.RowKit
open Go.Proofs.YtbnbdigcbldfhaaGreat (Rows.uptoBulk Rows.uptoBulkAll Rows.uptoSmall)
def I6 {α : Type} (P : Program) (t : TypeId) (R : rA α) (sz : α → Nat) : Prop :=
 ∀ (H : Type) (c : TypeId × Value → H) (W : World) (base : Nat) (sp : Nat → Bool) (d : Bool) (fuel : Nat) (cs : List Value) (x : DataW H × List MemPlace),
  DataW.trod c P W base sp d fuel t cs = some x → ∃ a : α, R (hp W) cs a ∧ sz a ≤ Rows.uptoBulk x.1
theorem J2.rel {α : Type} {P : Program} {t : TypeId} {enc : α → List Value} {sz : α → Nat} (h : J2 P t enc sz) : I6 P t (Pl enc) sz := fun H a W base sp c fuel cs x d => h H a W base sp c fuel cs x d
end Go.Proofs.YtbnbdigcbldfhaaGreat.Lf
namespace Go.Proofs.YtbnbdigcbldfhaaGreat.Lf
open Go.ChangeShapes Go.WideShapes Go.ChangeAt Go.RowKit
open Go.Proofs.YtbnbdigcbldfhaaGreat (Rows.uptoBulk Rows.uptoBulkAll Rows.uptoSmall)
theorem Ix {H : Type} : ∀ l : List (DataW H), Rows.uptoBulkAll l = (l.map Rows.uptoBulk).sum
 | [] => by simp [Rows.uptoBulkAll]
 | d :: l => by simp [Rows.uptoBulkAll, Ix l]
theorem RQ {α : Type} (g : α → Nat) : ∀ (n : Nat) (f : Nat → Nat) {l : List α}, l.length = n → (∀ i x, l[i]? = some x → g x ≤ f i) → (l.map g).sum ≤ ((List.range n).map f).sum
 | 0, f, l, c, h => by
  obtain rfl := dF.1 c
  simp
 | n + 1, f, [], c, h => by cases c
 | n + 1, f, a :: l, c, h => by
  rw [List.range_succ_eq_map, bD, bD, ep, ep, dQ]
  have h1 := h 0 a rfl
  have j := RQ g n (f ∘ Nat.succ) (l := l) (by simpa using c) (fun i x d => h (i + 1) x (by simpa using d))
  omega
def rY {α : Type} (sz : α → Nat) (l : List α) : Nat := (l.map fun a => max 1 (sz a)).sum
theorem Dh {α : Type} (sz : α → Nat) : ∀ l : List α, l.length ≤ rY sz l
 | [] => bB _
 | a :: l => by have := Dh sz l; simp only [rY, bD, ep, aJ] at this ⊢; omega
theorem JZ {α : Type} {sz : α → Nat} : ∀ {l : List α} {a : α}, a ∈ l → sz a ≤ rY sz l
 | b :: l, a, h => by
  simp only [rY, bD, ep]
  rcases aR.1 h with rfl | h
  ·omega
  ·have := JZ (sz := sz) h; simp only [rY] at this; omega
theorem Ij {α : Type} {P : Program} {t e : TypeId} {k : Nat} {R : rA α} {sz : α → Nat} (hk : P.cellsOf e = k) (M : 0 < k) (ht : P.underlying t = some (.slice e)) {H : Type} {Z : TypeId × Value → H} {W : World} {base : Nat} {sp : Nat → Bool} {held : Bool} {fuel : Nat} {cs : List Value} {x : DataW H × List MemPlace} (hd : ∀ (fuel : Nat) (cs : List Value) (y : DataW H × List MemPlace), DataW.trod Z P W base sp held fuel e cs = some y → SizeOf.sizeOf y.1 < SizeOf.sizeOf x.1 → ∃ a : α, R (hp W) cs a ∧ sz a ≤ Rows.uptoBulk y.1) (hf : DataW.trod Z P W base sp held fuel t cs = some x) :
  ∃ v l, cs = [v] ∧ Sl R k (hp W) v l ∧ rY sz l ≤ Rows.uptoBulk x.1 := by
 rcases Go.Deep.open_slice ht hf with ⟨rfl, rfl⟩ | ⟨a, ln, cp, m, n, D, Q, rfl, hb, hl, hm, U, rfl, J⟩
 ·exact ⟨_, [], rfl, ⟨none, 0, rfl, bB _, dV _, fun h => absurd h (Nat.lt_irrefl _)⟩, dV _⟩
 ·have aa : ln ≤ m := by rw [U]; split <;> omega
  have hB : ((List.range ln).map fun i => Rows.uptoBulk (D i)).sum ≤ Rows.uptoBulk (DataW.slice ((List.range ln).map D) ((List.range (m - ln)).map fun j => D (ln + j))) := by
   simp only [Rows.uptoBulk]
   rw [Ix, dQ]
   have e : ((List.range ln).map fun i => Rows.uptoBulk (D i)) = (List.range ln).map (Rows.uptoBulk ∘ D) := rfl
   rw [e]
   omega
  have hS : ∀ i, i < ln → SizeOf.sizeOf (D i) < SizeOf.sizeOf (DataW.slice ((List.range ln).map D) ((List.range (m - ln)).map fun j => D (ln + j))) := fun i L => by
   have := List.sizeOf_lt_of_mem (bH.2 ⟨i, ju.2 L, rfl⟩ : D i ∈ (List.range ln).map D)
   rw [DataW.slice.sizeOf_spec]; omega
  simp only at hd ⊢
  generalize Rows.uptoBulk (DataW.slice ((List.range ln).map D) ((List.range (m - ln)).map fun j => D (ln + j))) = B at hB
  obtain ⟨l, O, q⟩ := Vw (α := α) (n := ln) (p := fun i x => ∃ cs', W.cells? base (a.add (i * k)) k = some cs' ∧ R (hp W) cs' x ∧ sz x ≤ Rows.uptoBulk (D i)) fun i L => by
   obtain ⟨cs', h1, z⟩ := J i (by omega)
   obtain ⟨x, hR, A⟩ := hd _ _ _ z (hS i L)
   rw [hk] at h1
   exact ⟨x, cs', h1, hR, A⟩
  subst O
  refine ⟨_, l, rfl, ⟨some a, cp, rfl, hl, hm, fun h0 => ?_⟩, ?_⟩
  ·have c : ∀ i x, l[i]? = some x → ∃ cs', R (hp W) cs' x ∧ cs'.length = k ∧ ∀ j, j < k → W.cell? ((a.add (i * k)).add j) = cs'[j]? := fun i x s =>
    let ⟨cs', h1, z, _⟩ := q i x s
    let ⟨_, A, h4⟩ := World.cells?_some h1
    ⟨cs', z, A, h4⟩
   obtain ⟨a6, _, h4, h5⟩ := c 0 l[0] (by simp [h0])
   have G := h5 0 M
   rw [Nat.zero_mul, cj (by omega)] at G
   have e0 : (a.add 0).add 0 = a := rfl
   rw [e0] at G
   obtain ⟨cs, T, fr, I, h8, _⟩ := Nw G
   obtain ⟨u, w, a1⟩ := a
   simp only at I h8
   subst h8
   refine ⟨u, w, cs, T, fr, rfl, I, fun i x s => ?_⟩
   obtain ⟨cs', gR, g1, g2⟩ := c i x s
   refine ⟨cs', g1, gR, fun j y hy => ?_⟩
   have hj : j < k := by
    rw [← g1]
    exact (bA.1 hy).1
   have h9 := g2 j hj
   rw [Go.Deep.add_add, hy] at h9
   obtain ⟨Y, T', a7, d, a8, g⟩ := Nw h9
   have o : (Addr.add ⟨u, w, none⟩ (i * k + j)).block = u ∧ (Addr.add ⟨u, w, none⟩ (i * k + j)).off = w + (i * k + j) := by
    unfold Addr.add
    split
    ·rename_i hz
     rw [hz]; exact ⟨rfl, rfl⟩
    ·exact ⟨rfl, rfl⟩
   rw [o.1, I] at d
   cases d
   rw [o.2, ← eX] at g
   exact g
  ·refine dj (RQ _ _ _ rfl fun i x s => ?_) hB
   exact Nat.max_le.2 ⟨SI _, (q i x s).elim fun _ h => h.2.2⟩
theorem vv {α : Type} {P : Program} {t e : TypeId} {k : Nat} {R : rA α} {sz : α → Nat} (hk : P.cellsOf e = k) (a : 0 < k) (d : I6 P e R sz) (i : P.underlying t = some (.slice e)) {H : Type} {c : TypeId × Value → H} {W : World} {base : Nat} {sp : Nat → Bool} {held : Bool} {fuel : Nat} {cs : List Value} {x : DataW H × List MemPlace} (g : DataW.trod c P W base sp held fuel t cs = some x) :
  ∃ v l, cs = [v] ∧ Sl R k (hp W) v l ∧ rY sz l ≤ Rows.uptoBulk x.1 := Ij hk a i (fun _ _ _ h _ => d _ _ _ _ _ _ _ _ _ h) g
end Go.Proofs.YtbnbdigcbldfhaaGreat.Lf
namespace Go.Proofs.YtbnbdigcbldfhaaGreat.Lf
open Go.ChangeShapes Go.WideShapes Go.ChangeAt Go.RowKit
open Go.Proofs.YtbnbdigcbldfhaaGreat (Rows.uptoBulk Rows.uptoBulkAll Rows.uptoSmall)
def Su {α : Type} (R : rA α) (Q : α → Prop) : rA α := fun μ ys x => R μ ys x ∧ Q x
theorem Sl.all {α : Type} {R : rA α} {Q : α → Prop} {k : Nat} {μ : lm} {v : Value} {l : List α} (h : Sl (Su R Q) k μ v l) : Sl R k μ v l ∧ ∀ x ∈ l, Q x := by
 obtain ⟨A, c, rfl, h1, j, s⟩ := h
 cases l with
 | nil => exact ⟨⟨A, c, rfl, h1, j, fun h => absurd h (by simp)⟩, by simp⟩
 | cons a l =>
  obtain ⟨b, o, cs, T, fr, e, t, m⟩ := s (by simp)
  refine ⟨⟨A, c, rfl, h1, j, fun _ => ⟨b, o, cs, T, fr, e, t, fun i x g => ?_⟩⟩, fun x g => ?_⟩
  ·obtain ⟨ys, n, d, q⟩ := m i x g
   exact ⟨ys, n, d.1, q⟩
  ·obtain ⟨i, u⟩ := List.mem_iff_getElem?.1 g
   obtain ⟨ys, n, d, q⟩ := m i x u
   exact d.2
theorem Vf {P : Program} {t : TypeId} (a : P.underlying t = some (.int .u8)) : I6 P t (Su (Pl (lJ .u8)) (fun x => 0 ≤ x ∧ x < 256)) (fun _ => 0) := by
 intro H c W base sp d fuel cs x h
 obtain ⟨n, rfl, rfl, hw⟩ := DataW.trod_int a h
 refine ⟨n, ⟨rfl, ?_⟩, dV _⟩
 simp [Lit.wf, IntKind.min, IntKind.max, IntKind.bits, IntKind.signed] at hw
 omega
end Go.Proofs.YtbnbdigcbldfhaaGreat.Lf
namespace Go.Proofs.YtbnbdigcbldfhaaGreat
open Go.IntKind renaming wrap → wi0
open Go.Proofs.Tryz renaming prog → pg0
set_option maxRecDepth 10000
open Go.ChangeShapes Go.WideShapes Go.ChangeAt Go.RowKit
open Go.Proofs.YtbnbdigcbldfhaaGreat Go.Proofs.YtbnbdigcbldfhaaGreat.Lf
def jy := @Tryz.underlying22
theorem Vb : Tryz.prog.cellsOf 59 = 17 := by kernel_rfl
theorem WY {α : Type} {l : List α} (h : l.length = 5) : ∃ a0 a a2 a3 a4, l = [a0, a, a2, a3, a4] := by
 match l, h with
 | [a0, a, a2, a3, a4], _ => exact ⟨a0, a, a2, a3, a4, rfl⟩
theorem XI {α : Type} {l : List α} (h : l.length = 17) : ∃ a0 k a2 a3 a4 a5 m n o a9 a c a12 d g i j, l = [a0, k, a2, a3, a4, a5, m, n, o, a9, a, c, a12, d, g, i, j] := by
 match l, h with
 | [a0, k, a2, a3, a4, a5, m, n, o, a9, a, c, a12, d, g, i, j], _ => exact ⟨a0, k, a2, a3, a4, a5, m, n, o, a9, a, c, a12, d, g, i, j, rfl⟩
theorem Vo : Tryz.prog.cellsOf 54 = 9 := by kernel_rfl
theorem YD {α : Type} {l : List α} (h : l.length = 7) : ∃ a0 a a2 a3 a4 a5 c, l = [a0, a, a2, a3, a4, a5, c] := by
 match l, h with
 | [a0, a, a2, a3, a4, a5, c], _ => exact ⟨a0, a, a2, a3, a4, a5, c, rfl⟩
theorem YA {α : Type} {l : List α} (h : l.length = 9) : ∃ a0 a a2 a3 a4 a5 c d g, l = [a0, a, a2, a3, a4, a5, c, d, g] := by
 match l, h with
 | [a0, a, a2, a3, a4, a5, c, d, g], _ => exact ⟨a0, a, a2, a3, a4, a5, c, d, g, rfl⟩
theorem UZ : Tryz.prog.cellsOf 52 = 3 := by kernel_rfl
theorem XC {α : Type} {l : List α} (h : l.length = 3) : ∃ a0 a a2, l = [a0, a, a2] := by
 match l, h with
 | [a0, a, a2], _ => exact ⟨a0, a, a2, rfl⟩
theorem JG : Tryz.prog.cellsOf 9 = 1 := by kernel_rfl
theorem Ks : J2 pg0 9 (fun s : ByteArray => [.string s]) (fun s => s.size) := Qf Tryz.underlying9
theorem UJ : Tryz.prog.cellsOf 49 = 1 := by kernel_rfl
theorem Od : Tryz.prog.cellsOf 199 = 15 := by kernel_rfl
theorem QU {α : Type} {l : List α} (h : l.length = 2) : ∃ a0 a, l = [a0, a] := by
 match l, h with
 | [a0, a], _ => exact ⟨a0, a, rfl⟩
theorem XL {α : Type} {l : List α} (h : l.length = 15) : ∃ a0 i a2 a3 a4 a5 j k m a9 a c a12 d g, l = [a0, i, a2, a3, a4, a5, j, k, m, a9, a, c, a12, d, g] := by
 match l, h with
 | [a0, i, a2, a3, a4, a5, j, k, m, a9, a, c, a12, d, g], _ => exact ⟨a0, i, a2, a3, a4, a5, j, k, m, a9, a, c, a12, d, g, rfl⟩
theorem TT : Tryz.prog.cellsOf 197 = 10 := by kernel_rfl
theorem DL : Tryz.prog.cellsOf 108 = 9 := by kernel_rfl
theorem Kn : J2 pg0 3 (fun n : Int => [.int .i64 n]) (fun _ => 0) := Vc Tryz.underlying3
theorem Jq : Tryz.prog.cellsOf 3 = 1 := by kernel_rfl
theorem CY : Tryz.prog.cellsOf 28 = 2 := by kernel_rfl
def re (x : kw) : Nat := x.kE.size + x.kT.size
theorem F7 : J2 pg0 28 kx re := by
 intro H g W base sp j fuel cs x h
 obtain ⟨xs, n, _, rfl, q, hlen, k⟩ := dJ Tryz.underlying28 h
 obtain ⟨t, u, rfl⟩ := QU hlen
 obtain ⟨a, c1, rfl⟩ := QU (q.trans CY)
 have i : DataW.trod g pg0 W base sp j n 9 (([a, c1].drop 0).take (Tryz.prog.cellsOf 9)) = some t := k 0 _ rfl
 have h1 : DataW.trod g pg0 W base sp j n 9 (([a, c1].drop 1).take (Tryz.prog.cellsOf 9)) = some u := k 1 _ rfl
 simp only [JG, List.drop, List.take] at i h1
 obtain ⟨s, c, m⟩ := Ks _ _ _ _ _ _ _ _ _ i
 obtain ⟨s1, d, o⟩ := Ks _ _ _ _ _ _ _ _ _ h1
 simp only [bL, dE] at c d
 obtain rfl := c
 obtain rfl := d
 refine ⟨⟨s, s1⟩, rfl, ?_⟩
 simp only [List.map, Rows.uptoBulk, Rows.uptoBulkAll, re] at m o ⊢
 omega
theorem Yy {α : Type} {l : List α} (h : l.length = 6) : ∃ a0 a a2 a3 a4 a5, l = [a0, a, a2, a3, a4, a5] := by
 match l, h with
 | [a0, a, a2, a3, a4, a5], _ => exact ⟨a0, a, a2, a3, a4, a5, rfl⟩
def ul (x : ky) : Nat := re x.Head + x.lx.size + re x.B + re x.C + x.lU.size
theorem JJ : J2 pg0 108 kC ul := by
 intro H m W base sp o fuel cs x h
 obtain ⟨xs, n, _, rfl, R, hlen, q⟩ := dJ Tryz.underlying108 h
 obtain ⟨y0, y1, y2, y3, y4, y5, rfl⟩ := Yy hlen
 obtain ⟨a, c1, c2, c, d, g, i, j, k, rfl⟩ := YA (R.trans DL)
 have z : DataW.trod m pg0 W base sp o n 3 (([a, c1, c2, c, d, g, i, j, k].drop 0).take (Tryz.prog.cellsOf 3)) = some y0 := q 0 _ rfl
 have h1 : DataW.trod m pg0 W base sp o n 28 (([a, c1, c2, c, d, g, i, j, k].drop 1).take (Tryz.prog.cellsOf 28)) = some y1 := q 1 _ rfl
 have A : DataW.trod m pg0 W base sp o n 9 (([a, c1, c2, c, d, g, i, j, k].drop 3).take (Tryz.prog.cellsOf 9)) = some y2 := q 2 _ rfl
 have D : DataW.trod m pg0 W base sp o n 28 (([a, c1, c2, c, d, g, i, j, k].drop 4).take (Tryz.prog.cellsOf 28)) = some y3 := q 3 _ rfl
 have G : DataW.trod m pg0 W base sp o n 28 (([a, c1, c2, c, d, g, i, j, k].drop 6).take (Tryz.prog.cellsOf 28)) = some y4 := q 4 _ rfl
 have I : DataW.trod m pg0 W base sp o n 9 (([a, c1, c2, c, d, g, i, j, k].drop 8).take (Tryz.prog.cellsOf 9)) = some y5 := q 5 _ rfl
 simp only [CY, Jq, JG, List.drop, List.take] at z h1 A D G I
 obtain ⟨T, s, J⟩ := Kn _ _ _ _ _ _ _ _ _ z
 obtain ⟨s1, t, L⟩ := F7 _ _ _ _ _ _ _ _ _ h1
 obtain ⟨s2, u, M⟩ := Ks _ _ _ _ _ _ _ _ _ A
 obtain ⟨U, v, O⟩ := F7 _ _ _ _ _ _ _ _ _ D
 obtain ⟨Y, w, P⟩ := F7 _ _ _ _ _ _ _ _ _ G
 obtain ⟨Z, y, Q⟩ := Ks _ _ _ _ _ _ _ _ _ I
 simp only [kx, bL, dE] at s t u v w y
 obtain rfl := s
 obtain ⟨rfl, rfl⟩ := t
 obtain rfl := u
 obtain ⟨rfl, rfl⟩ := v
 obtain ⟨rfl, rfl⟩ := w
 obtain rfl := y
 refine ⟨⟨T, s1, s2, U, Y, Z⟩, rfl, ?_⟩
 simp only [List.map, Rows.uptoBulk, Rows.uptoBulkAll, ul] at J L M O P Q ⊢
 omega
theorem Vl : Tryz.prog.cellsOf 78 = 1 := by kernel_rfl
theorem We : Tryz.prog.cellsOf 5 = 1 := by kernel_rfl
theorem Ya : I6 pg0 5 (Su (Pl (lJ .u8)) (fun x => 0 ≤ x ∧ x < 256)) (fun _ => 0) := Vf Tryz.underlying5
theorem Fo : Tryz.prog.cellsOf 57 = 5 := by kernel_rfl
theorem YX {α : Type} {l : List α} (h : l.length = 4) : ∃ a0 a a2 a3, l = [a0, a, a2, a3] := by
 match l, h with
 | [a0, a, a2, a3], _ => exact ⟨a0, a, a2, a3, rfl⟩
theorem Vz : Tryz.prog.cellsOf 55 = 1 := by kernel_rfl
theorem YL {H : Type} {x : DataW H × List MemPlace} {ys : List (DataW H × List MemPlace)} {p : List MemPlace} (a : x = (.agg (ys.map (·.1)), p)) (i : Nat) {y : DataW H × List MemPlace} (h : ys[i]? = some y) : SizeOf.sizeOf y.1 < SizeOf.sizeOf x.1 := by
 subst a
 have := List.sizeOf_lt_of_mem (bH.2 ⟨y, iI h, rfl⟩ : y.1 ∈ ys.map (·.1))
 simp only [DataW.agg.sizeOf_spec]; omega
theorem NC : ∀ l : List Formula, szFL l ≤ rY B3 l
 | [] => bB _
 | k :: l => by have := NC l; rw [szFL]; simp only [rY, bD, ep] at this ⊢; omega
theorem Ww : ∀ (N : Nat) (H : Type) (O : TypeId × Value → H) (W : World) (base : Nat) (sp : Nat → Bool) (P : Bool) (fuel : Nat) (cs : List Value) (x : DataW H × List MemPlace),
  DataW.trod O pg0 W base sp P fuel 57 cs = some x → SizeOf.sizeOf x.1 < N → ∃ a : Formula, kW (hp W) cs a ∧ B3 a ≤ Rows.uptoBulk x.1 := by
 intro N
 induction N with
 | zero => intro _ _ _ _ _ _ _ _ _ _ h; exact absurd h (Nat.not_lt_zero _)
 | succ N ih =>
  intro H O W base sp P fuel cs x h hN
  obtain ⟨a1, D, _, t, G, s, k⟩ := dJ Tryz.underlying57 h
  obtain ⟨u, v, w, A, rfl⟩ := YX s
  obtain ⟨c, d, g, i, j, rfl⟩ := WY (G.trans Fo)
  have m : DataW.trod _ pg0 W _ _ _ D 3 (([c, d, g, i, j].drop 0).take (Tryz.prog.cellsOf 3)) = some u := k 0 _ rfl
  have n : DataW.trod _ pg0 W _ _ _ D 3 (([c, d, g, i, j].drop 1).take (Tryz.prog.cellsOf 3)) = some v := k 1 _ rfl
  have o : DataW.trod _ pg0 W _ _ _ D 28 (([c, d, g, i, j].drop 2).take (Tryz.prog.cellsOf 28)) = some w := k 2 _ rfl
  have q : DataW.trod _ pg0 W _ _ _ D 55 (([c, d, g, i, j].drop 4).take (Tryz.prog.cellsOf 55)) = some A := k 3 _ rfl
  simp only [CY, Jq, Vz, List.drop, List.take] at m n o q
  obtain ⟨s2, I, T⟩ := Kn _ _ _ _ _ _ _ _ _ m
  simp only [bL, dE] at I
  obtain rfl := I
  obtain ⟨s3, J, U⟩ := Kn _ _ _ _ _ _ _ _ _ n
  simp only [bL, dE] at J
  obtain rfl := J
  obtain ⟨s4, L, Y⟩ := F7 _ _ _ _ _ _ _ _ _ o
  simp only [kx, bL, dE] at L
  obtain ⟨rfl, rfl⟩ := L
  obtain ⟨v5, Q, M, q5, Z⟩ := Ij Fo (by decide) Tryz.underlying55 (fun f cs y h hz => ih _ _ _ _ _ _ _ _ _ h (by have := YL t 3 rfl; omega)) q
  simp only [bL, dE] at M
  obtain rfl := M
  have R := aV (fun z => Rows.uptoBulk z.1) t
  refine ⟨⟨s2, s3, s4, Q⟩, kW.mk ⟨_, rfl, q5⟩, ?_⟩
  have hz := NC Q
  simp only [List.map, Rows.uptoBulk, Rows.uptoBulkAll, re] at T U Y Z R ⊢
  rw [NY]
  simp only
  omega
theorem Nq : I6 pg0 57 kW B3 := fun H a W base sp c fuel cs x h => Ww _ H a W base sp c fuel cs x h (bT _)
def wV (x : nS) : Nat := ul x.Signed.ky + rY (fun _ : Int => 0) x.Signed.Tag + 1 + B3 x.lo + 1
def Sy (x : nS) : Prop := (∀ y ∈ x.Signed.Tag, 0 ≤ y ∧ y < 256)
theorem VG : I6 pg0 199 (Su oL Sy) wV := by
 intro H eh W base sp hd fuel cs x h
 obtain ⟨a8, n6, _, Z, Y, G, M⟩ := dJ Tryz.underlying199 h
 obtain ⟨P, Q, rfl⟩ := QU G
 obtain ⟨a, c, d, g, i, j, k, m, n, o, q, s, t, u, v, rfl⟩ := XL (Y.trans Od)
 have w : DataW.trod _ pg0 W _ _ _ n6 197 (([a, c, d, g, i, j, k, m, n, o, q, s, t, u, v].drop 0).take (Tryz.prog.cellsOf 197)) = some P := M 0 _ rfl
 have y : DataW.trod _ pg0 W _ _ _ n6 57 (([a, c, d, g, i, j, k, m, n, o, q, s, t, u, v].drop 10).take (Tryz.prog.cellsOf 57)) = some Q := M 1 _ rfl
 simp only [TT, Fo, List.drop, List.take] at w y
 obtain ⟨aa, n7, _, a1, a7, I, O⟩ := dJ Tryz.underlying197 w
 obtain ⟨R, T, rfl⟩ := QU I
 have A : DataW.trod _ pg0 W _ _ _ n7 108 (([a, c, d, g, i, j, k, m, n, o].drop 0).take (Tryz.prog.cellsOf 108)) = some R := O 0 _ rfl
 have D : DataW.trod _ pg0 W _ _ _ n7 78 (([a, c, d, g, i, j, k, m, n, o].drop 9).take (Tryz.prog.cellsOf 78)) = some T := O 1 _ rfl
 simp only [DL, Vl, List.drop, List.take] at A D
 obtain ⟨s8, e8, b8⟩ := JJ _ _ _ _ _ _ _ _ _ A
 simp only [kC, kx, bL, dE] at e8
 obtain ⟨rfl, rfl, rfl, rfl, rfl, rfl, rfl, rfl, rfl⟩ := e8
 obtain ⟨v9, s9, e9, q9, b9⟩ := vv We (by decide) Ya Tryz.underlying78 D
 simp only [bL, dE] at e9
 obtain rfl := e9
 obtain ⟨q9, g9⟩ := Lf.Sl.all q9
 have b7 := aV (fun z => Rows.uptoBulk z.1) a1
 obtain ⟨a6, J, U⟩ := Nq _ _ _ _ _ _ _ _ _ y
 obtain ⟨v10, L, J⟩ := J.out
 simp only [bL, dE] at L
 obtain ⟨rfl, rfl, rfl, rfl, rfl⟩ := L
 have b6 := aV (fun z => Rows.uptoBulk z.1) Z
 refine ⟨⟨⟨s8, s9⟩, a6⟩, ⟨oL.mk ⟨_, _, rfl, q9, J⟩, g9⟩, ?_⟩
 simp only [List.map, Rows.uptoBulk, Rows.uptoBulkAll, wV] at b8 b9 b7 U b6 ⊢
 omega
theorem UI : Tryz.prog.cellsOf 50 = 1 := by kernel_rfl
theorem Oc : Tryz.prog.cellsOf 202 = 8 := by kernel_rfl
theorem Y0 {α : Type} {l : List α} (h : l.length = 8) : ∃ a0 a a2 a3 a4 a5 c d, l = [a0, a, a2, a3, a4, a5, c, d] := by
 match l, h with
 | [a0, a, a2, a3, a4, a5, c, d], _ => exact ⟨a0, a, a2, a3, a4, a5, c, d, rfl⟩
theorem O0 : Tryz.prog.cellsOf 22 = 1 := by kernel_rfl
def Ah (x : vd) : Nat := re x.kw + B3 x.lo + rY ul x.qv + 1
def Yd (x : vd) : Prop := True
theorem VH : I6 pg0 202 (Su vc Yd) Ah := by
 intro H eh W base sp hd fuel cs x h
 obtain ⟨Y, n11, _, J, I, t, s⟩ := dJ Tryz.underlying202 h
 obtain ⟨v, w, y, rfl⟩ := XC t
 obtain ⟨a, c, d, g, i, j, k, m, rfl⟩ := Y0 (I.trans Oc)
 have n : DataW.trod _ pg0 W _ _ _ n11 28 (([a, c, d, g, i, j, k, m].drop 0).take (Tryz.prog.cellsOf 28)) = some v := s 0 _ rfl
 have o : DataW.trod _ pg0 W _ _ _ n11 57 (([a, c, d, g, i, j, k, m].drop 2).take (Tryz.prog.cellsOf 57)) = some w := s 1 _ rfl
 have q : DataW.trod _ pg0 W _ _ _ n11 22 (([a, c, d, g, i, j, k, m].drop 7).take (Tryz.prog.cellsOf 22)) = some y := s 2 _ rfl
 simp only [O0, CY, Fo, List.drop, List.take] at n o q
 obtain ⟨R, A, M⟩ := F7 _ _ _ _ _ _ _ _ _ n
 simp only [kx, bL, dE] at A
 obtain ⟨rfl, rfl⟩ := A
 obtain ⟨T, u, O⟩ := Nq _ _ _ _ _ _ _ _ _ o
 obtain ⟨Z, D, u⟩ := u.out
 simp only [bL, dE] at D
 obtain ⟨rfl, rfl, rfl, rfl, rfl⟩ := D
 obtain ⟨a1, U, G, Q, P⟩ := vv DL (by decide) JJ.rel jy q
 simp only [bL, dE] at G
 obtain rfl := G
 have L := aV (fun z => Rows.uptoBulk z.1) J
 refine ⟨⟨R, T, U⟩, ⟨vc.mk ⟨_, _, rfl, u, Q⟩, trivial⟩, ?_⟩
 simp only [List.map, Rows.uptoBulk, Rows.uptoBulkAll, Ah] at M O P L ⊢
 omega
theorem U4 : Tryz.prog.cellsOf 34 = 1 := by kernel_rfl
theorem VU : Tryz.prog.cellsOf 4 = 1 := by kernel_rfl
theorem YF : J2 pg0 4 (fun b : Bool => [.bool b]) (fun _ => 0) := by
 intro H a W base sp c fuel cs x h
 obtain ⟨n, rfl, rfl, _⟩ := DataW.trod_bool Tryz.underlying4 h
 exact ⟨n, rfl, dV _⟩
def BN (x : yR) : Nat := x.S.lR.Name.size + rY wV x.S.lR.nr + rY Ah x.S.lR.oq + 1 + x.S.og.size + rY ul x.S.lH + rY ul x.S.Shown + rY re x.S.mA + rY re x.S.qz + 1 + B3 x.F + 1
theorem YI : Tryz.prog.readableRec 59 = true ∧ 59 < Tryz.prog.types.size := ⟨by kernel_rfl, gJ (by kernel_rfl)⟩
theorem FV (c : ky) : An c = ul c := by unfold An ul re; omega
theorem Pg {α : Type} (sz : α → Nat) (h : ∀ a, 2 ≤ sz a) : ∀ l : List α, 2 * l.length ≤ rY sz l
 | [] => dV _
 | a :: l => by have := Pg sz h l; have := h a; simp only [rY, bD, ep, aJ] at *; omega
theorem DA (y : nS) : wV y = ul y.Signed.ky + rY (fun _ : Int => 0) y.Signed.Tag + 1 + B3 y.lo + 1 := rfl
theorem Oo (y : vd) : Ah y = re y.kw + B3 y.lo + rY ul y.qv + 1 := rfl
theorem HR : ∀ l : List ky, xp l ≤ 21 * rY ul l
 | [] => dV _
 | c :: l => by have := HR l; rw [xp, FV]; simp only [rY, bD, ep] at *; omega
theorem Po : ∀ l : List nS, EJ l ≤ 21 * rY wV l
 | [] => dV _
 | x :: l => by
  have := Po l
  have := Dh (fun _ : Int => 0) x.Signed.Tag
  rw [EJ, FV]
  have e := DA x
  simp only [rY, bD, ep] at *; omega
theorem P2 : ∀ l : List vd, Dl l ≤ 21 * rY Ah l
 | [] => dV _
 | x :: l => by
  have := P2 l
  have := HR x.qv
  rw [Dl]
  have e := Oo x
  unfold re at e
  have a : rY Ah (x :: l) = max 1 (Ah x) + rY Ah l := rfl
  omega
theorem Tp (x : lR) (g : x.Name.size ≤ 1048576) (h1 : rY wV x.nr ≤ 1048576) (h : rY Ah x.oq ≤ 1048576) : PG x ∧ x.nr.length ≤ 600000 ∧ M9 x ≤ 1000000000 := by
 have c1 := Pg wV (fun y => by rw [DA]; omega) x.nr
 have c2 := Dh Ah x.oq
 have g1 : ∀ y ∈ x.nr, ul y.Signed.ky ≤ 1048576 ∧ mz y.lo ≤ 1048576 := fun y a => by
  have := JZ (sz := wV) a
  have e := DA y
  have := Ep y.lo
  omega
 have g2 : ∀ y ∈ x.oq, mz y.lo ≤ 1048576 ∧ rY ul y.qv ≤ 1048576 := fun y a => by
  have := JZ (sz := Ah) a
  have e := Oo y
  have := Ep y.lo
  omega
 refine ⟨{ X7 := by omega, YG := by omega, rel := fun y a => ?_, YP := fun y a => ?_, Y4 := fun y a => ?_, Y3 := fun y a => ?_, Zd := fun y a c d => ?_ }, by omega, ?_⟩
 ·have := (g1 y a).2; omega
 ·have := (g2 y a).1; omega
 ·have := (g2 y a).2; have := Dh ul y.qv; omega
 ·have := (g1 y a).1; rw [FV]; omega
 ·have := (g2 y a).2; have := JZ (sz := ul) d; rw [FV]; omega
 ·have := Po x.nr; have := P2 x.oq; unfold M9; omega
theorem ID : ∀ l : List kw, xo l ≤ 6 * rY re l
 | [] => dV _
 | r :: l => by
  have := ID l
  have a : rY re (r :: l) = max 1 (re r) + rY re l := rfl
  have c : re r = r.kE.size + r.kT.size := rfl
  rw [xo]; omega
def MJ (x : tH) : Nat := x.lR.Name.size + rY wV x.lR.nr + rY Ah x.lR.oq + 1 + x.og.size + rY ul x.lH + rY ul x.Shown + rY re x.mA + rY re x.qz + 1
theorem Ve (s : tH) (h : MJ s ≤ 1048576) : SQ s := by
 unfold MJ at h
 have a := Tp s.lR (by omega) (by omega) (by omega)
 have c1 := HR s.lH
 have c2 := HR s.Shown
 have g := ID s.mA
 have i := ID s.qz
 have c := Dh re s.mA
 have d := Dh re s.qz
 exact { p := a.1, go := a.2.2, acc := by omega, sh := by omega, wl := by omega, al := by omega, Yp := by omega, ask := by omega, peer := by omega }
theorem Qo (x : yR) (h : BN x ≤ 1048576) : sE x = some true := by
 unfold BN at h
 have a := Ep x.F
 exact H7 x.S x.F x.State x.E x.kE (Ve _ (by unfold MJ; omega)) (by unfold Gd; omega)
theorem own : ownKnob Tryz.prog.godebug = none := by kernel_rfl
theorem TJ : laidOutB pg0 = true := by kernel_rfl
theorem TB (H : Type) (enc : TypeId × Value → H) (W : World) (base : Nat) (args : Array Value) (ds gs : List (DataW H)) (before : List MemPlace) (af : ∀ (j : Nat) t v, Tryz.f6.params[j]? = some t → args[j]? = some v → Value.okWide pg0 W .any base t v) (hW : DataW.Whole enc pg0 Tryz.f6.params.toList Rows.outcomeTellsSpec.vars false W args.toList ds gs before) (hk : Rows.uptoSmall H (ds ++ gs) = true) :
  Calls pg0 6 args W fun e W' => ∃ v, e = .returned v ∧ Rows.outcomeTellsSpec.post enc pg0 Tryz.f6 false true false false W args v W' := by
 have e5 := hW
 obtain ⟨p, q, e4, hV, rfl, eA, eI⟩ := hW
 have hA : DataW.TrodAll enc pg0 W 0 (fun _ => true) true Tryz.f6.params.toList args.toList ds p := e4
 have hr : ∀ t ∈ Tryz.f6.params.toList, Tryz.prog.readableRec t = true ∧ t < Tryz.prog.types.size := by
  rw [Tryz.params6]
  intro t ht
  simp only [aR, di, fw] at ht
  subst ht
  exact YI
 rw [Tryz.params6] at hA af
 obtain ⟨v0, eN, d0, eo, p0, q0, e6, rfl, rfl, h0, r0⟩ := trodAll_cons hA
 obtain ⟨rfl, rfl, rfl⟩ := trodAll_nil r0
 obtain rfl : args = #[v0] := by cases args; simp_all
 obtain ⟨rfl, rfl⟩ := trodVars_none hV
 have k0 := af 0 59 v0 rfl rfl
 obtain ⟨bk, rfl, _⟩ := okWide_struct Tryz.underlying59 k0
 obtain ⟨er, c4⟩ := h0
 obtain ⟨e7, rfl⟩ : ∃ l : List Value, bk = l.toArray := ⟨bk.toList, by simp⟩
 change DataW.trod _ _ _ _ _ _ _ _ e7 = some _ at c4
 obtain ⟨eh, n15, _, c6, c5, ab, I⟩ := dJ Tryz.underlying59 c4
 obtain ⟨b0, b1, b2, b3, b4, rfl⟩ := WY ab
 obtain ⟨d, a, c, m, n, g, h, i, k, D, s, u, w, o, x, y, A, rfl⟩ := XI (c5.trans Vb)
 have J : DataW.trod _ pg0 W _ _ _ n15 54 (([d, a, c, m, n, g, h, i, k, D, s, u, w, o, x, y, A].drop 0).take (Tryz.prog.cellsOf 54)) = some b0 := I 0 _ rfl
 have L : DataW.trod _ pg0 W _ _ _ n15 57 (([d, a, c, m, n, g, h, i, k, D, s, u, w, o, x, y, A].drop 9).take (Tryz.prog.cellsOf 57)) = some b1 := I 1 _ rfl
 have M : DataW.trod _ pg0 W _ _ _ n15 3 (([d, a, c, m, n, g, h, i, k, D, s, u, w, o, x, y, A].drop 14).take (Tryz.prog.cellsOf 3)) = some b2 := I 2 _ rfl
 have O : DataW.trod _ pg0 W _ _ _ n15 3 (([d, a, c, m, n, g, h, i, k, D, s, u, w, o, x, y, A].drop 15).take (Tryz.prog.cellsOf 3)) = some b3 := I 3 _ rfl
 have P : DataW.trod _ pg0 W _ _ _ n15 4 (([d, a, c, m, n, g, h, i, k, D, s, u, w, o, x, y, A].drop 16).take (Tryz.prog.cellsOf 4)) = some b4 := I 4 _ rfl
 simp only [Jq, VU, Vo, Fo, List.drop, List.take] at J L M O P
 obtain ⟨ei, n16, _, c7, ef, ad, G⟩ := dJ Tryz.underlying54 J
 obtain ⟨b5, b6, b7, b9, ba, bd, bf, rfl⟩ := YD ad
 have Q : DataW.trod _ pg0 W _ _ _ n16 52 (([d, a, c, m, n, g, h, i, k].drop 0).take (Tryz.prog.cellsOf 52)) = some b5 := G 0 _ rfl
 have R : DataW.trod _ pg0 W _ _ _ n16 9 (([d, a, c, m, n, g, h, i, k].drop 3).take (Tryz.prog.cellsOf 9)) = some b6 := G 1 _ rfl
 have T : DataW.trod _ pg0 W _ _ _ n16 3 (([d, a, c, m, n, g, h, i, k].drop 4).take (Tryz.prog.cellsOf 3)) = some b7 := G 2 _ rfl
 have U : DataW.trod _ pg0 W _ _ _ n16 22 (([d, a, c, m, n, g, h, i, k].drop 5).take (Tryz.prog.cellsOf 22)) = some b9 := G 3 _ rfl
 have Y : DataW.trod _ pg0 W _ _ _ n16 22 (([d, a, c, m, n, g, h, i, k].drop 6).take (Tryz.prog.cellsOf 22)) = some ba := G 4 _ rfl
 have Z : DataW.trod _ pg0 W _ _ _ n16 34 (([d, a, c, m, n, g, h, i, k].drop 7).take (Tryz.prog.cellsOf 34)) = some bd := G 5 _ rfl
 have a1 : DataW.trod _ pg0 W _ _ _ n16 34 (([d, a, c, m, n, g, h, i, k].drop 8).take (Tryz.prog.cellsOf 34)) = some bf := G 6 _ rfl
 simp only [O0, Jq, U4, UZ, JG, List.drop, List.take] at Q R T U Y Z a1
 obtain ⟨en, n17, _, c8, eg, ae, aa⟩ := dJ Tryz.underlying52 Q
 obtain ⟨bh, bi, bj, rfl⟩ := XC ae
 have a6 : DataW.trod _ pg0 W _ _ _ n17 9 (([d, a, c].drop 0).take (Tryz.prog.cellsOf 9)) = some bh := aa 0 _ rfl
 have a7 : DataW.trod _ pg0 W _ _ _ n17 49 (([d, a, c].drop 1).take (Tryz.prog.cellsOf 49)) = some bi := aa 1 _ rfl
 have a8 : DataW.trod _ pg0 W _ _ _ n17 50 (([d, a, c].drop 2).take (Tryz.prog.cellsOf 50)) = some bj := aa 2 _ rfl
 simp only [UJ, UI, JG, List.drop, List.take] at a6 a7 a8
 obtain ⟨aj, bl, cc⟩ := Ks _ _ _ _ _ _ _ _ _ a6
 simp only [bL, dE] at bl
 obtain rfl := bl
 obtain ⟨eL, ak, bn, ag, cf⟩ := vv Od (by decide) VG Tryz.underlying49 a7
 simp only [bL, dE] at bn
 obtain rfl := bn
 obtain ⟨ag, g19⟩ := Lf.Sl.all ag
 obtain ⟨v20, an, bo, ah, ch⟩ := vv Oc (by decide) VH Tryz.underlying50 a8
 simp only [bL, dE] at bo
 obtain rfl := bo
 obtain ⟨ah, Yq⟩ := Lf.Sl.all ah
 have cb := aV (fun z => Rows.uptoBulk z.1) c8
 obtain ⟨ao, bp, ck⟩ := Ks _ _ _ _ _ _ _ _ _ R
 simp only [bL, dE] at bp
 obtain rfl := bp
 obtain ⟨ap, bq, cm⟩ := Kn _ _ _ _ _ _ _ _ _ T
 simp only [bL, dE] at bq
 obtain rfl := bq
 obtain ⟨v23, aq, bs, e8, cp⟩ := vv DL (by decide) JJ.rel jy U
 simp only [bL, dE] at bs
 obtain rfl := bs
 obtain ⟨v24, ar, bt, e9, cs⟩ := vv DL (by decide) JJ.rel jy Y
 simp only [bL, dE] at bt
 obtain rfl := bt
 obtain ⟨v25, au, bu, ea, cS⟩ := vv CY (by decide) F7.rel Tryz.underlying34 Z
 simp only [bL, dE] at bu
 obtain rfl := bu
 obtain ⟨v26, av, bw, eb, dk⟩ := vv CY (by decide) F7.rel Tryz.underlying34 a1
 simp only [bL, dE] at bw
 obtain rfl := bw
 have ca := aV (fun z => Rows.uptoBulk z.1) c7
 obtain ⟨aw, ai, e0⟩ := Nq _ _ _ _ _ _ _ _ _ L
 obtain ⟨v27, bx, ai⟩ := ai.out
 simp only [bL, dE] at bx
 obtain ⟨rfl, rfl, rfl, rfl, rfl⟩ := bx
 obtain ⟨ay, bz, e1⟩ := Kn _ _ _ _ _ _ _ _ _ M
 simp only [bL, dE] at bz
 obtain rfl := bz
 obtain ⟨az, c0, e2⟩ := Kn _ _ _ _ _ _ _ _ _ O
 simp only [bL, dE] at c0
 obtain rfl := c0
 obtain ⟨aE, c3, e3⟩ := YF _ _ _ _ _ _ _ _ _ P
 simp only [bL, dE] at c3
 obtain rfl := c3
 have c9 := aV (fun z => Rows.uptoBulk z.1) c6
 simp only [List.map, Rows.uptoBulk, Rows.uptoBulkAll] at cc cf ch cb ck cm cp cs cS dk ca e0 e1 e2 e3 c9
 have z0 : BN (⟨⟨⟨aj, ak, an⟩, ao, ap, aq, ar, au, av⟩, aw, ay, az, aE⟩ : yR) ≤ Rows.uptoBulk d0 := by simp only [BN]; omega
 have hB : Rows.uptoBulkAll ([d0] ++ []) ≤ 1048576 := gJ hk
 simp only [cu, Rows.uptoBulkAll] at hB
 have hm : sE (⟨⟨⟨aj, ak, an⟩, ao, ap, aq, ar, au, av⟩, aw, ay, az, aE⟩ : yR) = some true := Qo _ (by omega)
 have hg := Gc (⟨⟨⟨aj, ak, an⟩, ao, ap, aq, ar, au, av⟩, aw, ay, az, aE⟩ : yR) a c g h i k o true W ag ah e8 e9 ea eb ai hm
 refine cH hg fun e W' ⟨he, hx⟩ => ?_
 subst he
 exact ⟨_, rfl, Qe TJ hr rfl e5 hx (fun _ _ _ => trodAll_cons_mk (shut_bool Tryz.underlying4 _) trodAll_mk0) rfl rfl (ok_one (by kernel_rfl) rfl (okWide_bool_mk Tryz.underlying4 _))⟩
set_option maxRecDepth 100000 in
theorem WW (os : Os) (started : os.Started) (H : Type) (enc : TypeId × Value → H) (F : Stop.Interp) :
  ReturnsInHanded {} Tryz.checked os 6 .any ((Rows.OpenSpec.upto Rows.outcomeTellsSpec).pre6 enc pg0 Tryz.f6 Rows.outcomeTellsUptoRow.domain false) (((Rows.OpenSpec.upto Rows.outcomeTellsSpec).at F).post enc pg0 Tryz.f6 false true false false) := by
 refine returnsInHanded_of_cond (C := Tryz.checked) (s := Rows.OpenSpec.upto Rows.outcomeTellsSpec) (k := Rows.uptoSmall) rfl own started (by kernel_rfl) Tryz.func6
  (OpenSpec.witness (enc := enc) (C := Tryz.checked) (s := Rows.OpenSpec.upto Rows.outcomeTellsSpec) (k := Rows.uptoSmall) rfl false ⟨#[], #[.agg #[.string ⟨#[]⟩, .slice none 0 0, .slice none 0 0, .string ⟨#[]⟩, .int .i64 0, .slice none 0 0, .slice none 0 0, .slice none 0 0, .slice none 0 0, .int .i64 0, .int .i64 0, .string ⟨#[]⟩, .string ⟨#[]⟩, .slice none 0 0, .int .i64 0, .int .i64 0, .bool false]], []⟩ 8 (by kernel_rfl) (by kernel_rfl) (by kernel_rfl)
   (x := ([.agg [.agg [.agg [.lit (.string []), .nil, .nil], .lit (.string []), .lit (.int .i64 0), .nil, .nil, .nil, .nil], .agg [.lit (.int .i64 0), .lit (.int .i64 0), .agg [.lit (.string []), .lit (.string [])], .nil], .lit (.int .i64 0), .lit (.int .i64 0), .lit (.bool false)]], [], [])) (by kernel_rfl) rfl (by kernel_rfl)) ?_
 intro W base args c gs before a d _ hk _
 exact TB H enc W base args c gs before a d hk
theorem X6 {a b : Bool} (ha : a = true) (c : b = true) : (a && b) = true := by rw [ha, c]; rfl
set_option maxHeartbeats 40000000 in
theorem UL : joinedFacts Tryz.checked.prog 6 Tryz.f6 (Rows.OpenSpec.upto Rows.outcomeTellsSpec).bare Rows.outcomeTellsUptoRow = true := by
 unfold joinedFacts
 repeat' with_reducible refine X6 ?_ ?_
 all_goals as_aux_lemma => kernel_rfl
theorem proved : Rows.OutcomeTellsUptoSaid :=
 OpenClaim.holds_of_cond 6 Tryz.f6 rfl rfl rfl rfl rfl rfl rfl ⟨rfl, rfl, rfl, rfl, rfl⟩ rfl rfl rfl rfl rfl (by kernel_rfl) Tryz.func6 UL
  (gJ (by kernel_rfl)) (by unfold Func.isWrapper; first | (rw [aM (by decide +kernel)]; kernel_rfl) | (rw [aK (by decide +kernel)]; exact ⟨rfl, rfl⟩))
  (fun os started H enc _ F => WW os started H enc F)
end Go.Proofs.YtbnbdigcbldfhaaGreat
