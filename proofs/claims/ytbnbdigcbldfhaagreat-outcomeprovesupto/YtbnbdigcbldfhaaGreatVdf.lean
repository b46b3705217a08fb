/- a part of a proof of OutcomeProves -/
import Derived.Test.YtbnbdigcbldfhaaGreatKhf
import Derived.Test.YtbnbdigcbldfhaaGreatRtSf
import Derived.Test.YtbnbdigcbldfhaaGreatRows
import Derived.WalkKit
import Derived.ProofKit
import Derived.OpenShut
import Derived.JoinedCond
import Derived.Deep.Slices
import Derived.Carry
import Derived.ChangeArms
import Derived.ChangeSame
import Derived.Test.YtbnbdigcbldfhaaGreatO9W3f
set_option linter.all false
namespace Go.Proofs.YtbnbdigcbldfhaaGreat
open Go.Proofs.Tryz renaming prog → pg0
open Go.RowKit
def EU (n : Int) : List Int := if n < 128 then [n] else [n % 128 + 128, n / 128]
theorem DZ (n : Int) : (EU n).length ≤ 2 ∧ 1 ≤ (EU n).length := by unfold EU; split <;> simp
def WO (k : Nat) : Bool := decide (IntKind.u8.wrap (BitVec.ofInt (IntKind.bits .u8) (IntKind.u8.wrap (k : Int)) ||| BitVec.ofInt (IntKind.bits .u8) 128).toNat = (k : Int) % 128 + 128) && decide (Int.fdiv (k : Int) (2 ^ min (Int.toNat 7) (IntKind.bits .i64)) = (k : Int) / 128) && decide (IntKind.u8.wrap ((k : Int) / 128) = (k : Int) / 128) && decide (IntKind.u8.wrap (IntKind.i64.wrap (128 + (Int.tmod (k : Int) 128))) = (k : Int) % 128 + 128) && decide (IntKind.i64.wrap (Int.tdiv (k : Int) 128) = (k : Int) / 128)
theorem VT : (List.range 300).all WO = true := by decide +kernel
theorem Xb {n : Int} (g : 0 ≤ n) (h1 : n < 300) : IntKind.u8.wrap (BitVec.ofInt (IntKind.bits .u8) (IntKind.u8.wrap n) ||| BitVec.ofInt (IntKind.bits .u8) 128).toNat = n % 128 + 128 ∧ Int.fdiv n (2 ^ min (Int.toNat 7) (IntKind.bits .i64)) = n / 128 ∧ IntKind.u8.wrap (n / 128) = n / 128 ∧ IntKind.u8.wrap (IntKind.i64.wrap (128 + (Int.tmod n 128))) = n % 128 + 128 ∧ IntKind.i64.wrap (Int.tdiv n 128) = n / 128 := by
 obtain ⟨k, rfl⟩ : ∃ k : Nat, n = k := ⟨n.toNat, by omega⟩
 have := dE.1 VT k (jy.2 (by omega))
 unfold WO at this
 simp only [aP, bK] at this
 obtain ⟨⟨⟨⟨a, b⟩, c⟩, d⟩, e⟩ := this
 exact ⟨a, b, c, d, e⟩
theorem JT {l : List Int} {n : Int} (d : 0 ≤ n) (h1 : n < 300) (g : l.length ≤ 99000) : mZ l n = some (true, l ++ EU n) := by
 unfold EU
 by_cases h : n < 128
 ·rw [aK h]; exact Er d h (by omega)
 ·obtain ⟨a, b, c, _, _⟩ := Xb d h1
  rw [aJ h]
  unfold mZ
  rw [aJ (by simp; omega), show lE = 18446744073709551614 + 1 + 1 by rw [pe], oN, aK (by simp; omega), a, CA (by simp; omega), aA, b, oN, aJ (by simp; omega), c, CA (by simp; omega)]
  simp
theorem Jh {l : List Int} {s : ByteArray} (h : nf s = true) (a : l.length ≤ 99000) : rA l s = some (true, l ++ ua s) := by
 have h1 := nD h
 unfold rA
 simp only [sQ, aA, h, bA, EQ h1.2]
 unfold xt
 rw [aJ (by rw [nJ]; simp; omega)]
 rw [nJ, Er (by omega) (by omega) (by omega)]
 simp only [aA]
 rw [CA (by simp [nJ]; omega)]
 simp [ua]
theorem T8 {l : List Int} {r : kA} (h : ml r = true) (c : l.length ≤ 98000) : pc l r = some (true, l ++ pA r) := by
 have a := h
 simp only [ml, aP] at h
 have h1 := nD h.1
 unfold pc
 simp only [uA, aA, a, bA]
 rw [Jh h.1 (by omega)]
 simp only [aA, bA]
 rw [Jh h.2 (by simp [qg]; omega)]
 simp [pA]
def EE (s : kY) : List Int := qT s.kB ++ ua s.kF.ly
def yN (s : kY) : Bool := mf s.kB && kQ s.kF.kA s.kB.Head && nf s.kF.ly
theorem Lk {s : kY} (h : yN s = true) : (EE s).length ≤ 217 := by
 simp only [yN, aP] at h
 have h1 := Hj h.1.1
 have a := nD h.2
 unfold EE
 rw [aI, qg]; omega
theorem UJ {α : Type} (f : α → List Int) (k : Nat) : ∀ l : List α, (∀ x ∈ l, (f x).length ≤ k) → (l.flatMap f).length ≤ k * l.length
 | [], _ => by simp
 | x :: l, h => by
  have h1 := h x (by simp)
  have c := UJ f k l (fun y a => h y (by simp [a]))
  rw [fI, aI, aH, Nat.mul_add]; omega
theorem Up (s : kY) : Ak s = some (yN s) := by
 unfold Ak yN
 rw [pZ, sQ]
 cases mf s.kB <;> cases kQ s.kF.kA s.kB.Head <;> simp
theorem M0 : ∀ (l : List kY) (acc : List Int), l.all yN = true → acc.length + 217 * l.length ≤ 90000 → tz l acc = some (true, acc ++ l.flatMap EE)
 | [], acc, _, _ => by rw [tz]; simp
 | s :: l, acc, h, c => by
  rw [fB, aP] at h
  have h1 := Lk h.1
  have a := h.1
  simp only [yN, aP] at a
  have d := Hj a.1.1
  simp only [aH] at c
  rw [tz, ZK _ a.1.1, aA]
  unfold vZ
  rw [CA (by omega)]
  simp only [aA]
  rw [Jh a.2 (by simp; omega)]
  simp only [aA]
  rw [M0 l _ h.2 (by unfold EE at h1; simp at h1 ⊢; omega)]
  simp [EE]
def Jp (l : List kY) : Bool := decide (l.length ≤ 256) && l.all yN
def Fg (l : List kY) : List Int := EU l.length ++ l.flatMap EE
theorem QO {l : List kY} (h : Jp l = true) : (Fg l).length ≤ 56000 := by
 simp only [Jp, aP, bK] at h
 have h1 := UJ EE 217 l (fun x a => Lk (dE.1 h.2 x a))
 have := DZ (l.length : Int)
 unfold Fg
 rw [aI]; omega
theorem PT (f : kY → Option Bool) : ∀ (l : List kY) (i : Nat), pG f l i = yt f l i
 | [], i => rfl
 | x :: l, i => by rw [pG, yt, PT f l]
theorem XB (f : kY → Option Bool) (p : kY → Bool) (l : List kY) (h : ∀ x ∈ l, f x = some (p x)) : rE l f = some (l.any p) := by
 unfold rE wq
 rw [PT]; exact On f p l h
theorem Po (f : kA → Option Bool) : ∀ (l : List kA) (i : Nat), nl f l i = yt f l i
 | [], i => rfl
 | x :: l, i => by rw [nl, yt, Po f l]
theorem SB (f : kA → Option Bool) (p : kA → Bool) (l : List kA) (h : ∀ x ∈ l, f x = some (p x)) : oA l f = some (l.any p) := by
 unfold oA pq
 rw [Po]; exact On f p l h
theorem KQ {α : Type} (p : α → Bool) (l : List α) : (l.any fun x => !p x) = !l.all p := by
 induction l with
 | nil => rfl
 | cons x l ih => rw [List.any_cons, fB, ih, Bool.not_and]
theorem YQ (l : List kY) : As [] l = some (if Jp l = true then (true, Fg l) else (false, [])) := by
 unfold As Jp
 by_cases h : l.length ≤ 256
 ·rw [aJ (by simp; omega), XB _ (fun s => !yN s) l (fun x _ => by unfold zG; rw [Up]; rfl), KQ]
  simp only [aA]
  cases a : l.all yN
  ·simp
  ·simp only [bW, aB, aS]
   rw [JT (by omega) (by omega) (by simp)]
   simp only [aA]
   have := DZ (l.length : Int)
   rw [M0 l _ a (by simp; omega)]
   simp [h, Fg]
 ·rw [aK (by simp; omega)]
  simp [h]
def PS (o : lX) : Bool := decide (0 ≤ o.State ∧ o.State ≤ 3 ∧ 0 ≤ o.ox ∧ o.ox ≤ 99 ∧ o.lV.length ≤ 64) && o.lV.all ml
theorem TY (o : lX) : yA o = some (PS o) := by
 unfold yA PS
 rw [SB _ (fun r => !ml r) o.lV (fun x _ => by unfold wV; rw [uA]; rfl), KQ]
 by_cases h1 : 0 ≤ o.State
 ·by_cases c : o.State ≤ 3
  ·by_cases d : 0 ≤ o.ox
   ·by_cases g : o.ox ≤ 99
    ·by_cases h : o.lV.length ≤ 64
     ·have a : (o.lV.length : Int) ≤ 64 := by omega
      simp [h1, c, d, g, h, a]
     ·have a : ¬ (o.lV.length : Int) ≤ 64 := by omega
      simp [h1, c, d, g, h, a]
    ·simp [h1, c, d, g]
   ·simp [h1, c, d]
  ·simp [h1, c]
 ·simp [h1]
def Gn (o : lX) : List Int := EU o.State ++ (EU o.ox ++ (EU o.lV.length ++ (o.lV.flatMap pA ++ Fg o.lW)))
theorem Pc (c : List Int) (d : c.length ≤ 56000) : ∀ (l : List kA) (acc : List Int), l.all ml = true → acc.length + 34 * l.length ≤ 30000 → rZ c l acc = some (true, acc ++ (l.flatMap pA ++ c))
 | [], acc, _, a => by
  rw [rZ, N4 (by omega), aA]
  unfold vZ
  rw [CA (by simp at a; omega)]
  simp
 | r :: l, acc, h, a => by
  rw [fB, aP] at h
  have h1 := nL h.1
  simp only [aH] at a
  rw [rZ, T8 h.1 (by omega), aA, Pc c d l _ h.2 (by simp; omega)]
  simp
theorem Y9 (o : lX) : wP [] o = some (if PS o = true ∧ Jp o.lW = true then (true, Gn o) else (false, [])) := by
 unfold wP
 rw [TY]
 simp only [aA]
 cases a : PS o
 ·simp
 ·simp only [bW, aB, aS]
  rw [YQ]
  simp only [aA]
  cases g : Jp o.lW
  ·simp
  ·simp only [bA, bW, aB, aS, and_self]
   simp only [PS, aP, bK] at a
   obtain ⟨⟨c, a2, a3, a4, a5⟩, d⟩ := a
   have h := DZ o.State
   have i := DZ o.ox
   have j := DZ (o.lV.length : Int)
   rw [JT c (by omega) (by simp)]
   simp only [aA]
   rw [JT a3 (by omega) (by simp; omega)]
   simp only [aA]
   rw [JT (by omega) (by omega) (by simp; omega)]
   simp only [aA]
   rw [Pc _ (QO g) o.lV _ d (by simp; omega)]
   simp [Gn]
theorem Lz : ∀ (l m A : List kA), l.length = m.length → ∃ b, ry (A ++ m) l A.length = some b ∧ yy (A ++ m) l A.length = some b ∧ (b = true ↔ l = m)
 | [], [], A, _ => ⟨true, rfl, rfl, by simp⟩
 | x :: l, y :: m, A, h => by
  rw [ry, yy, sT A y m _ rfl]
  simp only [aA]
  by_cases e : x = y
  ·subst e
   obtain ⟨b, h1, a, c⟩ := Lz l m (A ++ [x]) (by simpa using h)
   simp only [aV, de, aI, aH, bX, dg] at h1 a
   rw [kP.2 rfl]
   exact ⟨b, by simpa using h1, by simpa using a, by rw [c]; simp⟩
  ·have : kQ x y = false := by rw [← cv, kP]; exact e
   rw [this]
   exact ⟨false, rfl, rfl, by simp [e]⟩
theorem Ws (l m : List kA) : ∃ b, wh l m = some b ∧ DW l m = some b ∧ (b = true ↔ l = m) := by
 unfold wh DW
 by_cases h : l.length = m.length
 ·obtain ⟨b, h1, a, c⟩ := Lz l m [] h
  have : ((l.length : Int) != (m.length : Int)) = false := by simp [h]
  rw [this]
  exact ⟨b, h1, a, c⟩
 ·have : ((l.length : Int) != (m.length : Int)) = true := by simp; omega
  rw [this]
  exact ⟨false, rfl, rfl, by simp; intro e; exact h (by rw [e])⟩
theorem LF : ∀ (l m A : List kY), l.length = m.length → ∃ b, rD (A ++ m) l A.length = some b ∧ yG (A ++ m) l A.length = some b ∧ (b = true ↔ l = m)
 | [], [], A, _ => ⟨true, rfl, rfl, by simp⟩
 | x :: l, y :: m, A, h => by
  rw [rD, yG, sT A y m _ rfl]
  simp only [aA]
  by_cases e : x = y
  ·subst e
   obtain ⟨b, h1, a, c⟩ := LF l m (A ++ [x]) (by simpa using h)
   simp only [aV, de, aI, aH, bX, dg] at h1 a
   rw [IH.2 rfl]
   exact ⟨b, by simpa using h1, by simpa using a, by rw [c]; simp⟩
  ·have : Dj x y = false := by rw [← cv, IH]; exact e
   rw [this]
   exact ⟨false, rfl, rfl, by simp [e]⟩
theorem WJ (l m : List kY) : ∃ b, wg l m = some b ∧ Dx l m = some b ∧ (b = true ↔ l = m) := by
 unfold wg Dx
 by_cases h : l.length = m.length
 ·obtain ⟨b, h1, a, c⟩ := LF l m [] h
  have : ((l.length : Int) != (m.length : Int)) = false := by simp [h]
  rw [this]
  exact ⟨b, h1, a, c⟩
 ·have : ((l.length : Int) != (m.length : Int)) = true := by simp; omega
  rw [this]
  exact ⟨false, rfl, rfl, by simp; intro e; exact h (by rw [e])⟩
theorem YB (a b : lX) : ∃ q, zH a b = some q ∧ HR a b = some q ∧ (a = b → q = true) := by
 obtain ⟨x, h1, c, d⟩ := Ws a.lV b.lV
 obtain ⟨y, g, k2, h⟩ := WJ a.lW b.lW
 unfold zH HR
 rw [h1, c, g, k2]
 refine ⟨(a.State == b.State) && (a.ox == b.ox) && x && y, ?_, ?_, ?_⟩
 ·cases a.State == b.State <;> cases a.ox == b.ox <;> cases x <;> cases y <;> rfl
 ·cases a.State == b.State <;> cases a.ox == b.ox <;> cases x <;> cases y <;> rfl
 ·intro e
  subst e
  rw [d.2 rfl, h.2 rfl]
  simp
theorem Qg : ∀ (l : List kY) (x : Int), (∀ s ∈ l, uI s.kB ≤ 1000000000) → ∃ r, vT l x = some r
 | [], x, _ => ⟨x, rfl⟩
 | s :: l, x, h => by
  rw [vT]
  obtain ⟨r, e⟩ := TD [s.kB] (by simp) (fun c a => by rw [aN] at a; rw [a]; exact h s (by simp))
  rw [e, aA]
  exact Qg l _ (fun s d => h s (by simp [d]))
theorem JL : ∀ (l : List kA) (x : Int), ∃ r, vN l x = some r
 | [], x => ⟨x, rfl⟩
 | r :: l, x => by rw [vN]; exact JL l _
theorem VY (o : lX) (h : ∀ s ∈ o.lW, uI s.kB ≤ 1000000000) : ∃ r, Ao o = some r := by
 unfold Ao Cy
 obtain ⟨r, e⟩ := Qg o.lW 0 h
 rw [e, aA]
 exact JL _ _
def sf (f : Formula) (S : List kA) : Bool := xL (nO kQ S) f
def Cg (a : kA) (S : List kA) : List kA := S.filter fun x => !kQ x a
def Ds (f : Formula) (S : List kA) : Prop := sf f S = true ∧ ∀ a ∈ S, sf f (Cg a S) = false
theorem FA (a x : kA) (S : List kA) : x ∈ Cg a S ↔ x ∈ S ∧ x ≠ a := by
 unfold Cg
 rw [cJ]
 constructor
 ·rintro ⟨h1, c⟩
  refine ⟨h1, fun e => ?_⟩
  rw [kP.2 e] at c; cases c
 ·rintro ⟨h1, c⟩
  refine ⟨h1, ?_⟩
  have : kQ x a = false := by rw [← cv, kP]; exact c
  rw [this]; rfl
theorem Ec {f : Formula} {S T : List kA} (h : ∀ x ∈ S, x ∈ T) (a : sf f S = true) : sf f T = true :=
 P3 (fun r c => (ni kP _ _).2 (h r ((ni kP _ _).1 c))) f a
theorem MW (A : List kA) (f : Formula) (q : A.Nodup) (s : A.length ≤ 12) (b : Nat) (n : b < 2 ^ 12) : DF A (fun b => sf f (nK A b)) b = true ↔ Ds f (nK A b) := by
 have i : b < 2 ^ 62 := cO n (by decide)
 unfold DF Ds
 rw [aP, jG, ← cv, LV]
 have key : ∀ j a, j < 12 → A[j]? = some a → nK A (EA b j) = Cg a (nK A b) := fun j a c ha => IF A j b (EA b j) a q ha (Pw b j i (by omega))
 constructor
 ·rintro ⟨h1, g⟩
  refine ⟨h1, fun a ha => ?_⟩
  obtain ⟨j, c, m⟩ := (G6 A b a).1 ha
  have o : j < A.length := by
   rcases iW j A.length with h | h
   ·exact h
   ·rw [cQ h] at c; cases c
  rw [← key j a (by omega) c, ← cv]
  exact fun k => g ⟨j, by omega, by omega, m, k⟩
 ·rintro ⟨h1, g⟩
  refine ⟨h1, ?_⟩
  rintro ⟨j, _, o, m, k⟩
  have c : A[j]? = some A[j] := cj (by omega)
  have := g A[j] ((G6 A b _).2 ⟨j, c, m⟩)
  rw [← key j _ (by omega) c] at this
  have d : sf f (nK A (EA b j)) = true := k
  rw [this] at d; cases d
def Bb (A : List kA) (f : Formula) : List Nat := (List.range (2 ^ A.length)).filter (DF A fun b => sf f (nK A b))
def uZ (A : List kA) (f : Formula) : List (List kA) := (Bb A f).map (nK A)
theorem MO {n : Nat} (h : n ≤ 12) : 2 ^ n ≤ 2 ^ 12 := et (by decide) h
theorem xK {A : List kA} {f : Formula} (d : A.Nodup) (a : A.length ≤ 12) (b : Nat) : b ∈ Bb A f ↔ b < 2 ^ A.length ∧ Ds f (nK A b) := by
 unfold Bb
 rw [cJ, jy]
 constructor
 ·rintro ⟨h1, c⟩
  exact ⟨h1, (MW A f d a b (cO h1 (MO a))).1 c⟩
 ·rintro ⟨h1, c⟩
  exact ⟨h1, (MW A f d a b (cO h1 (MO a))).2 c⟩
theorem zp {A : List kA} {f : Formula} (d : A.Nodup) (c : A.length ≤ 12) (S : List kA) : S ∈ uZ A f ↔ S.Sublist A ∧ Ds f S := by
 unfold uZ
 rw [bI]
 constructor
 ·rintro ⟨b, a, rfl⟩
  exact ⟨yK A b, ((xK d c b).1 a).2⟩
 ·rintro ⟨h1, g⟩
  obtain ⟨b, a, rfl⟩ := QI h1
  exact ⟨b, (xK d c b).2 ⟨a, g⟩, rfl⟩
theorem DP {α β : Type} (g : α → β) : ∀ (l : List α), l.Nodup → (∀ x ∈ l, ∀ y ∈ l, g x = g y → x = y) → (l.map g).Nodup
 | [], _, _ => by simp
 | x :: l, h, c => by
  rw [cL] at h
  rw [bE, cL]
  refine ⟨fun hm => ?_, DP g l h.2 fun a ha b i => c a (by simp [ha]) b (by simp [i])⟩
  obtain ⟨y, d, e⟩ := bI.1 hm
  have := c y (by simp [d]) x (by simp) e
  subst this
  exact h.1 d
theorem ID (A : List kA) (f : Formula) : (Bb A f).Nodup := List.nodup_range.sublist (dF)
theorem M1 {A : List kA} {f : Formula} (a : A.Nodup) (d : A.length ≤ 12) : (uZ A f).Nodup :=
 DP _ _ (ID A f) fun b g c h e => HD A a b c ((xK a d b).1 g).1 ((xK a d c).1 h).1 e
theorem Ow (a : kA) (S : List kA) (h : a ∉ S) : Cg a (a :: S) = S := by
 unfold Cg
 rw [fl, kP.2 rfl]
 exact Hm h
theorem F4 {A : List kA} {f : Formula} (n : A.Nodup) (t : A.length ≤ 8) : (uZ A f).length ≤ 128 := by
 unfold uZ
 rw [dB]
 cases A with
 | nil =>
  have := dW (DF [] fun b => sf f (nK [] b)) (List.range (2 ^ ([] : List kA).length))
  unfold Bb
  simp only [jJ, bX, Nat.pow_zero] at this
  simp only [bX, Nat.pow_zero]
  omega
 | cons a l =>
  have q := cL.1 n
  have v : l.length ≤ 7 := by simpa using t
  have h1 : ((Bb (a :: l) f).map (· / 2)).Nodup := by
   refine DP _ _ (ID _ f) fun b o c u e => ?_
   have e : b / 2 = c / 2 := e
   have i := ((xK n (by omega) b).1 o).2
   have j := ((xK n (by omega) c).1 u).2
   have ha : ∀ k, a ∉ nK l k := fun k h => q.1 ((yK l k).subset h)
   rw [nK] at i j
   by_cases d : b % 2 = 1 <;> by_cases g : c % 2 = 1
   ·omega
   ·rw [aK d] at i
    rw [aJ g, ← e] at j
    have := i.2 a (by simp)
    rw [Ow a _ (ha _), j.1] at this
    cases this
   ·rw [aK g] at j
    rw [aJ d, e] at i
    have := j.2 a (by simp)
    rw [Ow a _ (ha _), i.1] at this
    cases this
   ·omega
  have s := mI (m := List.range (2 ^ l.length)) h1 (fun x w => by
   obtain ⟨b, o, rfl⟩ := bI.1 w
   have := ((xK n (by omega) b).1 o).1
   rw [aH, ia] at this
   rw [jy]; omega)
  rw [dB, jJ] at s
  have y : 2 ^ l.length ≤ 2 ^ 7 := et (by decide) v
  omega
def xU : List kA → List kA → Bool
 | x :: a, y :: b => if kQ x y then xU a b else xl x y
 | _, _ => false
def wv (a b : List kA) : Bool := decide (a.length < b.length) || (decide (a.length = b.length) && xU a b)
theorem IP : ∀ a : List kA, xU a a = false
 | [] => rfl
 | x :: a => by rw [xU, aK (kP.2 rfl), IP a]
theorem Kd : ∀ a b c : List kA, xU a b = true → xU b c = true → xU a c = true
 | x :: a, y :: b, z :: c, h1, d => by
  have H := tU (fun _ => True)
  rw [xU] at h1 d ⊢
  by_cases h : kQ x y = true
  ·rw [aK h] at h1
   obtain rfl := kP.1 h
   by_cases g : kQ x z = true
   ·rw [aK g] at d ⊢
    exact Kd a b c h1 d
   ·rw [aJ g] at d ⊢
    exact d
  ·rw [aJ h] at h1
   by_cases g : kQ y z = true
   ·rw [aK g] at d
    obtain rfl := kP.1 g
    rw [aJ h]; exact h1
   ·rw [aJ g] at d
    have i := H.trans x y z trivial trivial trivial h1 d
    have : ¬ kQ x z = true := fun e => by
     obtain rfl := kP.1 e
     exact H.irrefl x trivial i
    rw [aJ this]; exact i
theorem Kj : ∀ a b : List kA, a.length = b.length → xU a b = true ∨ a = b ∨ xU b a = true
 | [], [], _ => .inr (.inl rfl)
 | x :: a, y :: b, h => by
  have H := tU (fun _ => True)
  rw [xU, xU]
  by_cases c : x = y
  ·subst c
   rw [aK (kP.2 rfl), aK (kP.2 rfl)]
   rcases Kj a b (by simpa using h) with h | h | h
   ·exact .inl h
   ·exact .inr (.inl (by rw [h]))
   ·exact .inr (.inr h)
  ·rw [aJ (fun e => c (kP.1 e)), aJ (fun e => c (kP.1 e).symm)]
   rcases H.total x y trivial trivial with h | h | h
   ·exact .inl h
   ·exact absurd h c
   ·exact .inr (.inr h)
theorem M3 : BN (fun a b => wv a b = true) (fun _ : List kA => True) := by
 refine ⟨fun x _ h => ?_, fun x y z _ _ _ h1 c => ?_, fun x y _ _ => ?_⟩
 ·unfold wv at h
  rw [IP] at h
  simp at h
 ·unfold wv at *
  simp only [dU, aP, bK] at *
  rcases h1 with h1 | ⟨h1, d⟩ <;> rcases c with c | ⟨c, k2⟩
  ·exact .inl (by omega)
  ·exact .inl (by omega)
  ·exact .inl (by omega)
  ·exact .inr ⟨by omega, Kd x y z d k2⟩
 ·unfold wv
  simp only [dU, aP, bK]
  rcases fH x.length y.length with h | h | h
  ·exact .inl (.inl h)
  ·rcases Kj x y h with k | k | k
   ·exact .inl (.inr ⟨h, k⟩)
   ·exact .inr (.inl k)
   ·exact .inr (.inr (.inr ⟨h.symm, k⟩))
  ·exact .inr (.inr (.inl h))
theorem Wu (a b : Int) : vd a b = some (if a < b then -1 else if b < a then 1 else 0) := by
 unfold vd yB
 simp only [aA, ev, aB, aS]
 by_cases h : a < b
 ·simp [h]
 ·by_cases c : b < a <;> simp [h, c]
theorem Ug (a b : kA) (c : Int) (e : nB a b = some c) : c = 0 ↔ a = b := by
 have i : ∀ a b : ByteArray, (oH a b = 0 ↔ a = b) := fun a b => by
  unfold oH; rw [Gm]; exact ⟨B3, fun h => by rw [h]⟩
 unfold nB at e
 simp only [pQ, nI, aA, sv, pk] at e
 cases a with | mk j k =>
 cases b with | mk m n =>
 simp only at e
 by_cases d : oH j m = 0
 ·rw [aJ (by simp [d])] at e
  obtain rfl := (i _ _).1 d
  by_cases g : oH k n = 0
  ·rw [aJ (by simp [g])] at e
   obtain rfl := (i _ _).1 g
   cases e; simp
  ·rw [aK (by simp [g])] at e
   cases e
   have : k ≠ n := fun h => g ((i _ _).2 h)
   simp [g, this]
 ·rw [aK (by simp [d])] at e
  cases e
  have : j ≠ m := fun h => d ((i _ _).2 h)
  simp [d, this]
theorem Oa (a0 : List kA) : ∀ (l m A : List kA), ∃ c, lH (A ++ m) (fun x => nB x.1 x.2) a0 l A.length = some c ∧ (a0.length = (A ++ m).length → l.length = m.length → (c < 0 ↔ xU l m = true))
 | [], m, A => by
  rw [lH]
  by_cases j : (a0.length : Int) < ((A ++ m).length : Int)
  ·refine ⟨-1, by rw [aK (by simpa using j)], fun e => by omega⟩
  ·refine ⟨0, by rw [aJ (by simpa using j)], fun _ _ => by simp [xU]⟩
 | x :: l, [], A => by
  rw [lH, aK (by simp)]
  exact ⟨1, rfl, fun _ h => by simp at h⟩
 | x :: l, y :: m, A => by
  rw [lH, aJ (by simp; omega), sT A y m _ rfl, aA]
  obtain ⟨c, e, o⟩ := vm x y
  simp only [e, aA]
  have k : c = 0 ↔ x = y := Ug x y c e
  by_cases a : c = 0
  ·obtain rfl := k.1 a
   rw [aJ (by simp [a])]
   obtain ⟨d, g, i⟩ := Oa a0 l m (A ++ [x])
   simp only [aV, de, aI, aH, bX, dg] at g i
   refine ⟨d, g, fun h1 n => ?_⟩
   rw [xU, aK (kP.2 rfl)]
   exact i (by simpa using h1) (by simpa using n)
  ·refine ⟨c, by rw [aK (by simpa using a)], fun _ _ => ?_⟩
   rw [xU, aJ (fun e => a (k.2 (kP.1 e)))]
   exact o
theorem Vm (a b : List kA) : ∃ c, oZ a b = some c ∧ (c < 0 ↔ wv a b = true) := by
 unfold oZ nk
 obtain ⟨c, e, i⟩ := Oa a a b []
 simp only [bV, bX] at e i
 rw [Wu, aA, e, aA]
 unfold sv wv
 rw [pk, pk, pk]
 rcases fH a.length b.length with h | h | h
 ·rw [aK (show (a.length : Int) < b.length by omega), aK (by decide)]
  exact ⟨-1, rfl, by simp [h]⟩
 ·rw [aJ (show ¬ (a.length : Int) < b.length by omega), aJ (show ¬ (b.length : Int) < a.length by omega), aJ (by decide)]
  have := i h h
  by_cases d : c = 0
  ·rw [aJ (by simp [d])]
   refine ⟨0, rfl, ?_⟩
   rw [d] at this
   have g : xU a b = false := by rw [← cv, ← this]; decide
   simp [h, g]
  ·rw [aK (by simpa using d)]
   refine ⟨c, rfl, ?_⟩
   rw [this]
   simp [h]
 ·rw [aJ (show ¬ (a.length : Int) < b.length by omega), aK (show (b.length : Int) < a.length by omega), aK (by decide)]
  refine ⟨1, rfl, ?_⟩
  have h1 : ¬ a.length < b.length := by omega
  have g : ¬ a.length = b.length := by omega
  simp [h1, g]
open Classical in
theorem Wr (l : List (List kA)) (hn : l.Nodup) (hl : l.length ≤ 1000000) : ∃ s, EG (fun (x : ((List kA) × (List kA))) => oZ x.1 x.2) l = some s ∧ qJ (fun a b => wv a b = true) (fun _ => True) l s := by
 have he : ∀ x y : List kA, (fun x y => decide (x = y) : List kA → List kA → Bool) x y = true ↔ x = y := fun x y => by simp
 obtain ⟨s, h1, h2, h3⟩ := Ai (eq := fun x y : List kA => decide (x = y)) (cf := fun (x : ((List kA) × (List kA))) => oZ x.1 x.2) he M3 (l := l) (fun _ _ => trivial) (by omega) (fun x y _ _ => Vm x y)
 have hp : s.Nodup := by
  have : s = pS (fun (x : ((List kA) × (List kA))) => oZ x.1 x.2) l := by
   unfold yF at h1
   split at h1
   ·exact (iP h1).symm
   ·cases h1
  rw [this]
  unfold pS
  exact (fZ l _).nodup_iff.2 hn
 rw [UT he s hp] at h3
 exact ⟨s, by unfold EG; rw [aK hn, h1], h3⟩
theorem PH (A : List kA) (d : A.length ≤ 12) : ∀ (a : List Nat) (acc : List (List kA)), (∀ b ∈ a, b < 4611686018427387904) → acc.length + a.length ≤ 1000000 → pX A (a.map (fun b : Nat => (b : Int))) acc = pX A [] (acc ++ a.map (nK A))
 | [], acc, _, _ => by simp
 | b :: a, acc, c, g => by
  simp only [aH] at g
  conv => lhs; rw [bE, pX, Lv A b (c b (by simp)) (by omega), aA, mK (by simp; omega) (by simp; omega), aA, PH A d a _ (fun x h => c x (by simp [h])) (by simp; omega)]
  simp
theorem H5 {f : Formula} (h : rn f = true) : mB f ≤ 64 := by
 simp only [rn, aP, bK] at h; exact h.1.1
theorem Q6 (f : Formula) (j : Gd f) (d : rn f = true) : ∃ A, uM f = some A ∧ Ac (zb f) A ∧ A.length ≤ mB f ∧
  ((A.length ≤ 12 ∧ (uZ A f).length ≤ 128 ∧ ∃ s, sG f = some (s, 0) ∧ qJ (fun a b => wv a b = true) (fun _ => True) (uZ A f) s) ∨ ((12 < A.length ∨ 128 < (uZ A f).length) ∧ sG f = some ([], 12))) := by
 obtain ⟨A, e, i, n⟩ := IV f (by have := H5 d; omega)
 refine ⟨A, e, i, n, ?_⟩
 have k : A.Nodup := i.1.imp fun {a b} h e => by subst e; exact (tU (fun _ => True)).irrefl a trivial h
 unfold sG
 rw [Gs f j, d, aA]
 simp only [bW, aB, aS]
 rw [e, aA]
 by_cases c : A.length ≤ 12
 ·rw [aJ (by simp; omega)]
  rw [TZ A f (fun b => sf f (nK A b)) c (fun b _ => by rw [Qo f _ j]; unfold yz; rw [d]; rfl), aA]
  have hlen : (Bb A f).length ≤ 4096 := by
   have := dW (DF A fun b => sf f (nK A b)) (List.range (2 ^ A.length))
   have g := MO c
   rw [jJ] at this
   unfold Bb; omega
  rw [show ((List.range (2 ^ A.length)).filter (DF A fun b => sf f (nK A b))) = Bb A f from rfl, PH A c (Bb A f) [] (fun b m => by have := ((xK k c b).1 m).1; have := MO c; omega) (by simp; omega), pX, bV, show (Bb A f).map (nK A) = uZ A f from rfl]
  by_cases hk : (uZ A f).length ≤ 128
  ·rw [aJ (by simp; omega)]
   obtain ⟨s, h1, g⟩ := Wr (uZ A f) (M1 k c) (by omega)
   rw [h1]
   exact .inl ⟨c, hk, s, rfl, g⟩
  ·rw [aK (by simp; omega)]
   exact .inr ⟨.inr (by omega), rfl⟩
 ·rw [aK (by simp; omega)]
  exact .inr ⟨.inl (by omega), rfl⟩
theorem O4 (f : Formula) (a : Gd f) (c : rn f = false) : sG f = some ([], 11) := by
 unfold sG
 rw [Gs f a, c]
 rfl
theorem Nj (v : kA → Bool) (f1 : kA → Option Bool) (a : ∀ r, f1 r = some (v r)) : ∀ l : List (List kA), uL f1 l = some (match l.find? (fun S => S.all v) with | some S => (S, true) | none => ([], false))
 | [] => rfl
 | S :: l => by
  rw [uL, SB _ (fun r => !v r) S (fun x _ => by unfold wX; rw [a]; rfl), KQ, aA, iN]
  cases S.all v
  ·simp only [cT, bW, aB, aS]
   exact Nj v f1 a l
  ·rfl
theorem Nq : ∀ (l m A : List kA), l.length = m.length → wT (A ++ m) l A.length = some (xU l m)
 | [], [], A, _ => rfl
 | x :: l, y :: m, A, h => by
  rw [wT, sT A y m _ rfl, aA, xU]
  by_cases e : kQ x y = true
  ·rw [aK e, e]
   have ih := Nq l m (A ++ [y]) (by simpa using h)
   simp only [aV, de, aI, aH, bX, dg] at ih
   simpa using ih
  ·rw [aJ e]
   rw [cv] at e
   rw [e]
   simp only [cT, bA, aA]
   rw [uz, aA]
theorem Yg (a b : List kA) : A8 a b = some (wv a b) := by
 unfold A8 wv
 by_cases h : a.length = b.length
 ·have : ((a.length : Int) != (b.length : Int)) = false := by simp [h]
  rw [this]
  have e := Nq a b [] h
  simp only [bV, bX] at e
  simp [h, e]
 ·have : ((a.length : Int) != (b.length : Int)) = true := by simp; omega
  rw [this]
  simp [h]
theorem Pj (s : List kA) (out : List (List kA)) (m : out.length ≤ 1000000) : ∀ (k : Nat) (P Q : List (List kA)) (n : Nat), P.length = k → out = P ++ Q → (∀ x ∈ Q, wv s x = true) → P.length < n → ∃ P1 Q1, out = P1 ++ Q1 ∧ qP out s n (P.length : Int) = some (P1.length : Int) ∧ (∀ x ∈ Q1, wv s x = true) ∧ (P1 = [] ∨ ∃ P0 y, P1 = P0 ++ [y] ∧ wv s y = false)
 | 0, P, Q, n + 1, hk, e, a, g => by
  obtain rfl : P = [] := bP hk
  exact ⟨[], Q, e, by rw [qP]; rfl, a, .inl rfl⟩
 | k + 1, P, Q, n + 1, hk, e, a, g => by
  obtain ⟨P0, y, rfl⟩ : ∃ P0 y, P = P0 ++ [y] := ⟨P.dropLast, P.getLast (by intro h; rw [h] at hk; simp at hk), (List.dropLast_concat_getLast _).symm⟩
  have i : P0.length = k := by simpa using hk
  have o : P0.length ≤ 1000000 := by have := aU List.length e; simp at this; omega
  have hw : IntKind.i64.wrap (((P0 ++ [y]).length : Int) - 1) = (P0.length : Int) := by
   rw [aI, aH, bX, lC (by omega) (by omega)]; omega
  have j : mC out (P0.length : Int) = some y := by rw [e, aV]; exact sT P0 y Q _ rfl
  rw [qP, aK (decide_eq_true (by rw [aI, aH, bX]; omega)), hw, j, aA, Yg, aA, aA]
  cases d : wv s y
  ·exact ⟨P0 ++ [y], Q, e, rfl, a, .inr ⟨P0, y, rfl, d⟩⟩
  ·simp only [bA]
   exact Pj s out m k P0 (y :: Q) n i (by rw [e]; simp) (fun x c => by rcases aQ.1 c with rfl | c; exact d; exact a x c) (by simp at g; omega)
theorem Ke : ∀ (l acc : List (List kA)), (acc ++ l).Nodup → acc.length + l.length ≤ 1000000 → acc.Pairwise (fun a b => wv a b = true) → ∃ s, sV l acc = some s ∧ s.Pairwise (fun a b => wv a b = true) ∧ ∀ x, x ∈ s ↔ x ∈ acc ∨ x ∈ l
 | [], acc, _, _, hp => ⟨acc, by rw [sV], hp, by simp⟩
 | s :: l, acc, m, w, hp => by
  simp only [aH] at w
  obtain ⟨P, Q, e, h1, u, t⟩ := Pj s acc (by omega) acc.length acc [] lE rfl (by simp) (by simp) (by rw [pe]; omega)
  have z : s ∉ acc := fun hm => by
   rw [bO] at m
   exact m.2.2 s hm s (by simp) rfl
  have c := hp
  rw [e, dy] at c
  have g : ∀ x ∈ P, wv x s = true := by
   rcases t with rfl | ⟨P0, y, rfl, D⟩
   ·simp
   ·have j : wv y s = true := by
     rcases M3.total y s trivial trivial with h | h | h
     ·exact h
     ·exact absurd (by rw [e, ← h]; simp) z
     ·rw [D] at h; cases h
    intro x i
    rcases aR.1 i with i | i
    ·have := (dy.1 c.1).2.2 x i y (by simp)
     exact M3.trans x y s trivial trivial trivial this j
    ·obtain rfl := aN.1 i; exact j
  have hlen : acc.length = P.length + Q.length := by rw [e]; simp
  rw [sV, h1, aA, wJ (by omega) (by omega), aA]
  have A : acc.take (Int.toNat (P.length : Int)) = P := by rw [e]; simp
  have v : acc.drop (Int.toNat (P.length : Int)) = Q := by rw [e]; simp
  rw [A, v, mK (by simp; omega) (by simp; omega), aA, mK (by simp; omega) (by simp; omega), aA]
  simp only [aA]
  rw [mK (by simp; omega) (by simp; omega), aA]
  have hm : ∀ x, x ∈ [] ++ P ++ [s] ++ Q ↔ x ∈ acc ∨ x = s := fun x => by
   rw [e]
   simp only [bV, aR, aN]
   constructor
   ·rintro ((h | h) | h)
    ·exact .inl (.inl h)
    ·exact .inr h
    ·exact .inl (.inr h)
   ·rintro ((h | h) | h)
    ·exact .inl (.inl h)
    ·exact .inr h
    ·exact .inl (.inr h)
  obtain ⟨r, n, o, q⟩ := Ke l ([] ++ P ++ [s] ++ Q) (by
   have d : ([] ++ P ++ [s] ++ Q ++ l).Perm (acc ++ s :: l) := by
    rw [e]
    simp only [bV, aV, de]
    refine cM P ?_
    exact List.perm_middle.symm
   exact d.nodup_iff.2 m) (by simp; omega) (by
   simp only [bV, aV, de]
   rw [dy, dX]
   refine ⟨c.1, ⟨u, c.2.1⟩, fun a ha b k => ?_⟩
   rcases aQ.1 k with rfl | k
   ·exact g a ha
   ·exact c.2.2 a ha b k)
  refine ⟨r, n, o, fun x => ?_⟩
  rw [q, hm]
  simp only [aQ]
  constructor
  ·rintro ((h | h) | h)
   ·exact .inl h
   ·exact .inr (.inl h)
   ·exact .inr (.inr h)
  ·rintro (h | h | h)
   ·exact .inl (.inl h)
   ·exact .inl (.inr h)
   ·exact .inr h
theorem We (l : List (List kA)) (g : l.Nodup) (d : l.length ≤ 1000000) : ∃ s, zm l = some s ∧ qJ (fun a b => wv a b = true) (fun _ => True) l s := by
 obtain ⟨s, e, h1, c⟩ := Ke l [] (by simpa using g) (by simpa using d) List.Pairwise.nil
 exact ⟨s, e, h1, fun x => by rw [c]; simp⟩
def Df (a b : List kA) : Bool := a.all fun r => nO kQ b r
theorem F9 (a b : List kA) : Df a b = true ↔ ∀ x ∈ a, x ∈ b := by
 unfold Df
 rw [dE]
 exact ⟨fun h x c => (ni kP _ _).1 (h x c), fun h x c => (ni kP _ _).2 (h x c)⟩
theorem Pp (b : List kA) : ∀ a : List kA, vi b a = some (Df a b)
 | [] => rfl
 | x :: a => by
  rw [vi, Xk, aA]
  unfold Df
  rw [fB]
  cases nO kQ b x
  ·rfl
  ·simp only [bW, aB, aS, ed]
   exact Pp b a
theorem TS (s : List kA) : ∀ (out : List (List kA)) (b : Bool), tP s out b = some (b || out.any fun o => Df o s)
 | [], b => by rw [tP]; simp
 | o :: out, b => by
  rw [tP]
  unfold BM
  rw [Pp]
  cases b
  ·simp only [aB, aS, aA]
   rw [TS s out]; simp
  ·simp only [bA, aA]
   rw [TS s out]; simp
def zc (s : List kA) (r : kA) : Bool := match s.getLast? with
 | none => true
 | some y => xl y r
theorem Uw (s : List kA) (d : s.length ≤ 1000) : ∀ (A : List kA) (acc : List (List kA)), acc.length + A.length ≤ 1000000000 → rI s A acc = some (acc ++ (A.filter (zc s)).map fun r => s ++ [r])
 | [], acc, _ => by rw [rI]; simp
 | r :: A, acc, h => by
  simp only [aH] at h
  have g : (if ((s.length : Int) == 0) = true then some true else (mC s (IntKind.i64.wrap ((s.length : Int) - 1))).bind fun c => (rq c r).bind fun a => some a : Option Bool) = some (zc s r) := by
   unfold zc
   rcases dh s with rfl | ⟨P, y, rfl⟩
   ·rfl
   ·have hw : IntKind.i64.wrap (((P.concat y).length : Int) - 1) = (P.length : Int) := by
     rw [List.length_concat] at d ⊢
     rw [lC (by omega) (by omega)]; omega
    rw [aJ (by simp; omega), hw, ij, sT P y [] _ rfl, aA, uz]
    simp
  rw [rI, g, aA, fl]
  cases zc s r
  ·simp only [aB, aS]
   exact Uw s d A acc (by omega)
  ·simp only [bA]
   rw [mK (by simp; omega) (by simp; omega)]
   simp only [aA]
   rw [mK (by simp; omega) (by simp; omega), aA, mK (by simp; omega) (by simp; omega), aA, Uw s d A _ (by simp; omega)]
   simp
theorem E4 (f : Formula) : ∀ (k : Nat) (T : List kA), T.length = k → T.Nodup → sf f T = true → ∃ m, m.Sublist T ∧ Ds f m
 | k, T, hk, n, i => by
  by_cases h : ∀ a ∈ T, sf f (Cg a T) = false
  ·exact ⟨T, .refl _, i, h⟩
  ·obtain ⟨a, ha⟩ := Classical.not_forall.1 h
   obtain ⟨ha, d⟩ := Classical.not_imp.1 ha
   rw [Bool.not_eq_false] at d
   have j : (Cg a T).length < T.length := by
    have c : (Cg a T).Sublist T := dF
    have hle := c.length_le
    rcases iW (Cg a T).length T.length with h | h
    ·exact h
    ·have e := c.eq_of_length (by omega)
     have : a ∈ Cg a T := by rw [e]; exact ha
     exact absurd rfl ((FA a a T).1 this).2
   obtain ⟨m, h1, g⟩ := E4 f (Cg a T).length (Cg a T) rfl (n.sublist dF) d
   exact ⟨m, h1.trans dF, g⟩
termination_by k => k
decreasing_by omega
theorem Wj {A S T : List kA} (c : A.Pairwise (fun a b => xl a b = true)) (d : S.Sublist A) (g : T.Sublist A) (h : ∀ x, x ∈ S ↔ x ∈ T) : S = T :=
 qJ.unique (P := fun _ => True) (l := S) (tU _) ⟨c.sublist d, fun x => by simp⟩ ⟨c.sublist g, fun x => by simp [h]⟩
structure YS (A : List kA) (f : Formula) (k : Nat) (level out : List (List kA)) : Prop where
 Q0 : ∀ S ∈ level, S.Sublist A ∧ S.length = k
 MQ : ∀ S : List kA, S.Sublist A → S.length = k → (∀ j, j < k → sf f (S.take j) = false) → S ∈ level
 DL : ∀ S ∈ out, S.Sublist A ∧ Ds f S
 IA : out.Nodup
 N3 : ∀ S : List kA, S.Sublist A → Ds f S → S.length < k → S ∈ out
structure YY (A : List kA) (f : Formula) (k : Nat) (D out out' next : List (List kA)) : Prop where
 DL : ∀ S ∈ out', S.Sublist A ∧ Ds f S
 IA : out'.Nodup
 sup : ∀ S ∈ out, S ∈ out'
 Hz : ∀ S ∈ D, Ds f S → S ∈ out'
 Hp : ∀ S ∈ D, sf f S = false → ∀ r ∈ A, zc S r = true → S ++ [r] ∈ next
 Rs : ∀ T ∈ next, T.Sublist A ∧ T.length = k + 1
theorem TO {A S : List kA} {r : kA} (n : A.Pairwise (fun a b => xl a b = true)) (i : S.Sublist A) (o : r ∈ A) (d : zc S r = true) : (S ++ [r]).Sublist A := by
 obtain ⟨P, Q, rfl⟩ := jw o
 have k : ∀ x ∈ S, xl x r = true := by
  intro x c
  unfold zc at d
  rcases dh S with rfl | ⟨P0, y, rfl⟩
  ·cases c
  ·simp at d
   rw [ij] at c i
   rcases aR.1 c with c | c
   ·have := (dy.1 (n.sublist i)).2.2 x c y (by simp)
    exact (tU (fun _ => True)).trans x y r trivial trivial trivial this d
   ·obtain rfl := aN.1 c; exact d
 have j : S.Sublist P := by
  have h := dy.1 n
  have m : ∀ x ∈ S, x ∉ r :: Q := fun x c hm => by
   have h1 := k x c
   rcases aQ.1 hm with rfl | hm
   ·exact (tU (fun _ => True)).irrefl x trivial h1
   ·have g := (dX.1 h.2.1).1 x hm
    exact (tU (fun _ => True)).irrefl x trivial ((tU (fun _ => True)).trans x r x trivial trivial trivial h1 g)
  obtain ⟨S1, S2, rfl, h1, g⟩ := List.sublist_append_iff.1 i
  cases S2 with
  | nil => simpa using h1
  | cons z S2 => exact absurd (g.subset (by simp : z ∈ z :: S2)) (m z (by simp))
 exact j.append ((List.nil_sublist Q).cons_cons r)
theorem F8 (A : List kA) (f : Formula) (L : Gd f) (E : A.Pairwise (fun a b => xl a b = true)) (z : A.length ≤ 8) (k : Nat) (level out : List (List kA)) (H : YS A f k level out) : ∀ (l D d next : List (List kA)), level = D ++ l → YY A f k D out d next → next.length + 8 * l.length ≤ 900000000 →
  ∃ n i, qf f A l d next = some (n, i) ∧ YY A f k level out n i ∧ i.length ≤ next.length + 8 * l.length
 | [], D, d, next, e, h, Y => by
  rw [ct] at e
  subst e
  exact ⟨d, next, by rw [qf], h, by simp⟩
 | s :: l, D, d, next, e, h, Y => by
  simp only [aH] at Y
  have w := H.Q0 s (by rw [e]; simp)
  have q : A.Nodup := E.imp fun {a b} h e => by subst e; exact (tU (fun _ => True)).irrefl a trivial h
  have a8 : s.Nodup := q.sublist w.1
  have ad : s.length ≤ 8 := dj w.1.length_le z
  have ab : d.length ≤ 128 := by
   have := mI (m := uZ A f) h.IA (fun S c => (zp q (by omega) S).2 (h.DL S c))
   have := F4 (f := f) q z
   omega
  rw [qf, TS, aA, iF, QF s lE f (by have := wH f; unfold Gd at L; rw [pe]; omega) L]
  by_cases J : (d.any fun o => Df o s) = true
  ·rw [aK J]
   obtain ⟨o, ho, hw⟩ := dR.1 J
   have hw := (F9 o s).1 hw
   have u := h.DL o ho
   have Z : sf f s = true := Ec hw u.2.1
   obtain ⟨n, i, U, W, r3⟩ := F8 A f L E z k level out H l (D ++ [s]) d next (by rw [e]; simp) { h with
    Hz := fun S c hm => by
     rcases aR.1 c with c | c
     ·exact h.Hz S c hm
     ·obtain rfl := aN.1 c
      have : o = S := Wj E u.1 w.1 (fun x => ⟨hw x, fun R => dV fun t => by
       have := hm.2 x R
       rw [Ec (S := o) (fun y hy => (FA x y S).2 ⟨hw y hy, fun e => t (e ▸ hy)⟩) u.2.1] at this
       cases this⟩)
      rw [← this]; exact ho
    Hp := fun S c g => by
     rcases aR.1 c with c | c
     ·exact h.Hp S c g
     ·obtain rfl := aN.1 c
      rw [Z] at g; cases g } (by omega)
   exact ⟨n, i, U, W, by simp only [aH]; omega⟩
  ·rw [aJ J, aA]
   cases Z : xL (nO kQ s) f
   ·simp only [aB, aS]
    have aa : (A.filter (zc s)).length ≤ 8 := dj (dW _ _) z
    rw [Uw s (by omega) A next (by omega), aA]
    obtain ⟨n, i, U, W, r3⟩ := F8 A f L E z k level out H l (D ++ [s]) d (next ++ (A.filter (zc s)).map fun r => s ++ [r]) (by rw [e]; simp) { h with
     Hz := fun S c hm => by
      rcases aR.1 c with c | c
      ·exact h.Hz S c hm
      ·obtain rfl := aN.1 c
       have := hm.1
       unfold sf at this
       rw [Z] at this; cases this
     Hp := fun S c g r v I => by
      rcases aR.1 c with c | c
      ·exact bF _ (h.Hp S c g r v I)
      ·obtain rfl := aN.1 c
       exact cy _ (bI.2 ⟨r, cJ.2 ⟨v, I⟩, rfl⟩)
     Rs := fun T G => by
      rcases aR.1 G with G | G
      ·exact h.Rs T G
      ·obtain ⟨r, v, rfl⟩ := bI.1 G
       have v := cJ.1 v
       exact ⟨TO E w.1 v.1 v.2, by simp [w.2]⟩ } (by simp; omega)
    exact ⟨n, i, U, W, by simp at r3; simp only [aH]; omega⟩
   ·simp only [bA]
    have M : sf f s = true := Z
    have P : Ds f s := ⟨M, fun a ha => by
     rw [← cv]
     intro a1
     obtain ⟨m, h1, h2⟩ := E4 f _ (Cg a s) rfl (a8.sublist dF) a1
     have a6 : m.length < k := by
      have hle := h1.length_le
      have j : (Cg a s).Sublist s := dF
      rcases iW (Cg a s).length s.length with h | h
      ·omega
      ·have e := j.eq_of_length (by have := j.length_le; omega)
       have : a ∈ Cg a s := by rw [e]; exact ha
       exact absurd rfl ((FA a a s).1 this).2
     have Q : m.Sublist s := h1.trans dF
     have a7 := h.sup m (H.N3 m (Q.trans w.1) h2 a6)
     exact J (dR.2 ⟨m, a7, (F9 m s).2 fun x R => Q.subset R⟩)⟩
    have t : s ∉ d := fun hm => J (dR.2 ⟨s, hm, (F9 s s).2 fun x R => R⟩)
    rw [mK (by simp; omega) (by simp; omega), aA]
    obtain ⟨n, i, U, W, r3⟩ := F8 A f L E z k level out H l (D ++ [s]) (d ++ [s]) next (by rw [e]; simp) { h with
     DL := fun S c => by
      rcases aR.1 c with c | c
      ·exact h.DL S c
      ·obtain rfl := aN.1 c; exact ⟨w.1, P⟩
     IA := by
      rw [bO]
      exact ⟨h.IA, by simp, fun a ha b Y e9 => by obtain rfl := aN.1 Y; rw [e9] at ha; exact t ha⟩
     sup := fun S c => bF _ (h.sup S c)
     Hz := fun S c hm => by
      rcases aR.1 c with c | c
      ·exact bF _ (h.Hz S c hm)
      ·exact cy _ c
     Hp := fun S c g => by
      rcases aR.1 c with c | c
      ·exact h.Hp S c g
      ·obtain rfl := aN.1 c
       rw [M] at g; cases g } (by omega)
    exact ⟨n, i, U, W, by simp only [aH]; omega⟩
theorem LR {l : List kA} (h : l.Nodup) {i j : Nat} {a : i < l.length} {c : j < l.length} (e : l[i] = l[j]) : i = j := by
 have h := fU.1 h
 rcases fH i j with k | k | k
 ·exact absurd e (h i j a c k)
 ·exact k
 ·exact absurd e.symm (h j i c a k)
theorem RR (S : List kA) (k : Nat) (h : S.length = k + 1) : ∃ r, S = S.take k ++ [r] := by
 refine ⟨S[k], ?_⟩
 rw [← List.take_succ_eq_append_getElem (by omega), cV (by omega)]
theorem Nt (A : List kA) (f : Formula) (U : Gd f) (G : A.Pairwise (fun a b => xl a b = true)) (T : A.length ≤ 8) : ∀ (d k : Nat) (level out : List (List kA)) (n : Nat), k + d = 10 → YS A f k level out → level.length ≤ 8 ^ k → d < n →
  ∃ g, tw f A n level out = (zm g) ∧ g.Nodup ∧ ∀ S, S ∈ g ↔ S.Sublist A ∧ Ds f S
 | d, k, level, out, n + 1, hk, H, hl, hn => by
  have z : A.Nodup := G.imp fun {a b} h e => by subst e; exact (tU (fun _ => True)).irrefl a trivial h
  rw [tw]
  by_cases J : level = []
  ·subst J
   rw [aJ (by simp)]
   refine ⟨out, by rw [ud], H.IA, fun S => ⟨H.DL S, fun ⟨h1, R⟩ => ?_⟩⟩
   by_cases u : S.length < k
   ·exact H.N3 S h1 R u
   ·exfalso
    have := H.MQ (S.take k) ((List.take_sublist k S).trans h1) (by simp; omega) (fun j W => by
     rw [eK, cP (by omega)]
     rw [← cv]
     intro L
     have t : S[j] ∈ S := dP (by omega)
     have c := R.2 S[j] t
     rw [Ec (S := S.take j) (fun x E => (FA _ _ _).2 ⟨iL E, fun e => by
      have q := z.sublist h1
      obtain ⟨i, M, w⟩ := List.mem_iff_getElem.1 E
      rw [List.getElem_take] at w
      rw [cz] at M
      have := LR q (w.trans e)
      omega⟩) L] at c
     cases c)
    cases this
  ·have Y : 0 < level.length := List.length_pos_iff.2 J
   have Q : k ≤ 8 := by
    obtain ⟨s, hs⟩ := List.exists_mem_of_ne_nil _ J
    have := H.Q0 s hs
    have := this.1.length_le
    omega
   have a1 : 8 ^ k ≤ 8 ^ 8 := et (by decide) Q
   rw [aK (by simp; omega)]
   obtain ⟨o2, n2, r1, v, r3⟩ := F8 A f U G T k level out H level [] out [] rfl { DL := H.DL, IA := H.IA, sup := fun _ h => h, Hz := fun _ h => (nomatch h), Hp := fun _ h => (nomatch h), Rs := fun _ h => (nomatch h) } (by simp; omega)
   rw [r1, aA]
   obtain ⟨d, rfl⟩ : ∃ Z, d = Z + 1 := ⟨d - 1, by omega⟩
   refine Nt A f U G T d (k + 1) n2 o2 n (by omega) { Q0 := v.Rs, MQ := fun S o D m => ?_, DL := v.DL, IA := v.IA, N3 := fun S o hm D => ?_ } (by rw [ia]; simp at r3; omega) (by omega)
   ·obtain ⟨r, I⟩ := RR S k D
    have ht : S.take k ∈ level := H.MQ _ ((List.take_sublist k S).trans o) (by simp; omega) (fun j W => by rw [eK, cP (by omega)]; exact m j (by omega))
    have hr : r ∈ A := o.subset (by rw [I]; simp)
    have hb : zc (S.take k) r = true := by
     have hp := G.sublist o
     rw [I, dy] at hp
     unfold zc
     rcases dh (S.take k) with e | ⟨P, y, e⟩
     ·rw [e]; rfl
     ·rw [e]
      simp
      exact hp.2.2 y (by rw [e]; simp) r (by simp)
    rw [I]
    exact v.Hp _ ht (m k (by omega)) r hr hb
   ·by_cases u : S.length < k
    ·exact v.sup S (H.N3 S o hm u)
    ·refine v.Hz S (H.MQ S o (by omega) fun j W => ?_) hm
     rw [← cv]
     intro L
     have t : S[j]'(by omega) ∈ S := dP (by omega)
     have c := hm.2 _ t
     rw [Ec (S := S.take j) (fun x E => (FA _ _ _).2 ⟨iL E, fun e => by
      have q := z.sublist o
      obtain ⟨i, M, w⟩ := List.mem_iff_getElem.1 E
      rw [List.getElem_take] at w
      rw [cz] at M
      have := LR q (w.trans e)
      omega⟩) L] at c
     cases c
theorem Lj (s : ur) (g : s.lL.length ≤ 30000) : ∃ m, Eu s = some m ∧ ∀ r, zd r m.1 m.2.1 m.2.2.1 m.2.2.2.1 m.2.2.2.2.1 m.2.2.2.2.2.1 m.2.2.2.2.2.2.1 s.mg.mY s.mg.oX m.2.2.2.2.2.2.2.1 m.2.2.2.2.2.2.2.2 s.lL s.Shown s.mG s.sI = some (vD s.lL s.od r) := by
 obtain ⟨F, a⟩ := Ur s.lL g
 obtain ⟨m, c, _, d⟩ := a.Y2
 have h := Qt a s.od
 refine ⟨_, by unfold Eu; rw [c]; rfl, fun r => ?_⟩
 unfold zd
 rw [ud, d, ← h]; rfl
def yW : ByteArray := ⟨#[121, 111, 117]⟩
def yC : kB := ⟨1, sY, yW, ⟨zS, zS⟩, ⟨zS, zS⟩, zS⟩
def yS : ur := ⟨⟨⟨#[109, 101]⟩, [], []⟩, yW, 3, [yC], [], [], []⟩
def yZ : kY := ⟨yC, ⟨sY, yW⟩⟩
theorem Qh : mf yC = true := by decide +kernel
theorem Zf : vD [yC] yW sY = true := by
 unfold vD
 have h : [yC].filter mf = [yC] := by rw [fl, Qh]; rfl
 rw [h]
 exact @decide_eq_true _ (Classical.propDecidable _) (nY.mem yC (by simp) rfl)
theorem UA : vM [yC] ⟨sY, yW⟩ = some ([yZ], true) ∧ Dt [yZ] := by
 obtain ⟨C, d, h⟩ := Qd [yC] (by simp) ⟨sY, yW⟩
 have hm : ∀ c, c ∈ C ↔ c = yC := fun c => by rw [d.2]; exact ⟨fun h => by simpa using h.1, fun h => by subst h; exact ⟨by simp, Qh⟩⟩
 have i := qj D7 d
 rcases h with ⟨o, e, a⟩ | ⟨_, m⟩
 ·obtain ⟨P, z, rfl, j⟩ := a.last
  have := a.len
  have n : C.length * C.length ≤ 1 * 1 := fj i i
  simp only [aI, aH, bX] at this
  have k : P = [] := bP (by omega)
  subst k
  have g := (hm _).1 (a.cr z (by simp))
  have : z = yZ := by cases z; simp only at j g; subst j g; rfl
  subst this
  exact ⟨e, a.tg⟩
 ·exact absurd (.mem yC ((hm yC).2 rfl) rfl) m
theorem ZI : oK yS (sr sY) 1 0 true = some ⟨1, 0, [sY], [yZ]⟩ := by
 obtain ⟨m, e, h⟩ := Lj yS (by decide)
 unfold oK
 rw [aJ (by decide)]
 simp only [aA, ev, aB, aS]
 rw [e, aA, Wv _ (by rw [h]; exact aU some Zf), aA]
 simp only [bW, aB, aS]
 rw [qQ, show yS.lL = [yC] from rfl, show yS.od = yW from rfl, UA.1, aA, Nf _ (by simp [tot]), aA, qQ]
 simp [xJ, mr, nO]
theorem Zk : oK yS (sr sY) 1 0 false = some ⟨1, 0, [], []⟩ := by
 unfold oK
 simp
theorem ZF : pu [yC] [] [yZ] = true := (Ab _ _ _).2 ⟨fun s a => by obtain rfl := aN.1 a; exact aN.2 rfl, by have := UA.2; exact this.2.1⟩
theorem gY : Gd (sr sY) := by unfold Gd; decide +kernel
theorem dY : oS (sr sY) ≤ lE := by rw [pe]; decide +kernel
theorem yT (l : List kA) : yz (nO kQ l) (sr sY) = nO kQ l sY := by
 unfold yz; rw [Np, PF]; rfl
theorem Xw : nO kQ [sY] sY = true := (ni kP _ _).2 (by simp)
theorem Yj : nv ⟨1, 0, [sY], [yZ]⟩ [yC] (sr sY) yW = some 0 := by
 rw [(Dd _ _ _ _ (by simp) gY dY).1]
 unfold DI
 rw [aJ (by simp)]
 simp only [yT, Xw, ZF]
 have : nO nq (mr [yZ]) ⟨sY, yW⟩ = true := (ni mL _ _).2 (by simp [mr, yZ])
 simp [this]
theorem YO : nv ⟨1, 0, [sY], [yZ]⟩ [] (sr sY) yW = some 50 := by
 rw [(Dd _ _ _ _ (by simp) gY dY).1]
 unfold DI
 rw [aJ (by simp)]
 have : pu [] [] [yZ] = false := by rw [← cv, Ab]; simp
 simp only [yT, Xw, this]
 simp
theorem Yc : nv ⟨1, 0, [], []⟩ [yC] (sr sY) yW = some 44 := by
 rw [(Dd _ _ _ _ (by simp) gY dY).1]
 unfold DI
 rw [aJ (by simp)]
 have : nO kQ [] sY = false := by rw [← cv, ni kP]; simp
 simp only [yT, this]
 simp
theorem X7 : nv zO [] (sr sY) yW = some 43 := by
 rw [(Dd _ _ _ _ (by simp) gY dY).1]
 unfold DI
 rw [aK (by simp)]
theorem UO : ml sY = true := by decide +kernel
theorem UB : nf yW = true := by decide +kernel
theorem Zp : wP [] ⟨1, 0, [sY], [yZ]⟩ = some (true, Gn ⟨1, 0, [sY], [yZ]⟩) := by
 rw [Y9, aK]
 refine ⟨?_, ?_⟩
 ·unfold PS
  simp [UO]
 ·unfold Jp
  have : yN yZ = true := by
   unfold yN
   rw [show yZ.kB = yC from rfl, Qh, show yZ.kF.ly = yW from rfl, UB, show yZ.kF.kA = yC.Head from rfl, kP.2 rfl]; rfl
  simp [this]
theorem Rc : Gn ⟨1, 0, [sY], [yZ]⟩ = 1 :: 0 :: 1 :: (pA sY ++ (1 :: (qT yC ++ (ua yW ++ [])))) := by
 unfold Gn Fg
 simp [EU, EE, yZ]
theorem Yy : RF (Gn ⟨1, 0, [sY], [yZ]⟩) = (0, ⟨1, 0, [sY], [yZ]⟩) := by
 rw [Rc]
 unfold RF Ny
 rw [BP 3 1 _ (by decide) (by decide) (by decide)]
 simp only [nG]
 rw [BP 99 0 _ (by decide) (by decide) (by decide)]
 simp only
 rw [BP 64 1 _ (by decide) (by decide) (by decide)]
 simp only
 rw [show Int.toNat 1 = 0 + 1 from rfl, xn, AT UO]
 simp only [nG, xn]
 unfold KY
 rw [BP 256 1 _ (by decide) (by decide) (by decide)]
 simp only [nG]
 rw [show Int.toNat 1 = 0 + 1 from rfl, xn]
 unfold CN
 rw [Sz Qh]
 simp only [nG]
 rw [Ce UB]
 rfl
theorem Vv : Al = some true := by
 have hlen : (Gn ⟨1, 0, [sY], [yZ]⟩).length ≤ 1000000 := by
  have h1 := nL UO
  have t := Hj Qh
  have u := nD UB
  rw [Rc]
  simp [qg]
  omega
 have c : B8 (Gn ⟨1, 0, [sY], [yZ]⟩) := by
  rw [Rc]
  intro x a
  simp only [aQ, aR, da, fh] at a
  rcases a with rfl | rfl | rfl | a | rfl | a | a
  ·omega
  ·omega
  ·omega
  ·exact yo UO x a
  ·omega
  ·exact EK Qh x a
  ·exact zZ UB x a
 have rd := XC _ c hlen
 rw [Yy] at rd
 have n := N4 hlen
 obtain ⟨q, o, _, d⟩ := YB ⟨1, 0, [sY], [yZ]⟩ ⟨1, 0, [sY], [yZ]⟩
 have d := d rfl
 subst d
 have g := Yj
 have k2 := YO
 have h := Yc
 have i := X7
 have m := Zp
 have j := ZI
 have k := Zk
 generalize v : Gn ⟨1, 0, [sY], [yZ]⟩ = T at *
 unfold Al
 rw [show oK (⟨(⟨(⟨#[109, 101]⟩ : ByteArray), [], []⟩ : mg), (⟨#[121, 111, 117]⟩ : ByteArray), 3, [(⟨1, (⟨(⟨#[120]⟩ : ByteArray), (⟨#[121]⟩ : ByteArray)⟩ : kA), (⟨#[121, 111, 117]⟩ : ByteArray), (⟨zS, zS⟩ : kA), (⟨zS, zS⟩ : kA), zS⟩ : kB)], [], [], []⟩ : ur) (⟨1, 0, (⟨(⟨#[120]⟩ : ByteArray), (⟨#[121]⟩ : ByteArray)⟩ : kA), []⟩ : Formula) 1 0 true = _ from j, aA]
 rw [show oK (⟨(⟨(⟨#[109, 101]⟩ : ByteArray), [], []⟩ : mg), (⟨#[121, 111, 117]⟩ : ByteArray), 3, [(⟨1, (⟨(⟨#[120]⟩ : ByteArray), (⟨#[121]⟩ : ByteArray)⟩ : kA), (⟨#[121, 111, 117]⟩ : ByteArray), (⟨zS, zS⟩ : kA), (⟨zS, zS⟩ : kA), zS⟩ : kB)], [], [], []⟩ : ur) (⟨1, 0, (⟨(⟨#[120]⟩ : ByteArray), (⟨#[121]⟩ : ByteArray)⟩ : kA), []⟩ : Formula) 1 0 false = _ from k, aA]
 rw [m, aA]
 simp only
 rw [n, aA, rd, aA]
 rw [show (⟨1, (⟨(⟨#[120]⟩ : ByteArray), (⟨#[121]⟩ : ByteArray)⟩ : kA), (⟨#[121, 111, 117]⟩ : ByteArray), (⟨zS, zS⟩ : kA), (⟨zS, zS⟩ : kA), zS⟩ : kB) = yC from rfl, show (⟨1, 0, (⟨(⟨#[120]⟩ : ByteArray), (⟨#[121]⟩ : ByteArray)⟩ : kA), []⟩ : Formula) = sr sY from rfl, show (⟨#[121, 111, 117]⟩ : ByteArray) = yW from rfl]
 simp only
 rw [g, k2, h, i, o]
 have s : IntKind.i64.wrap (0 : Int) = 0 := by rw [lC (by omega) (by omega)]
 simp [s]
theorem Yt {v w : kA → Bool} : ∀ f : Formula, (∀ r ∈ zb f, v r = w r) → xL v f = xL w f := by
 refine Ko fun f ih h => ?_
 have key : ∀ c : List Formula, (∀ k ∈ c, (∀ r ∈ zb k, v r = w r) → xL v k = xL w k) → (∀ r ∈ zM c, v r = w r) → evN v c = evN w c := by
  intro c
  induction c with
  | nil => intro _ _; rfl
  | cons k c g =>
   intro hk d
   rw [zM] at d
   rw [evN, evN, hk k (by simp) (fun r a => d r (bF _ a)), g (fun x i => hk x (by simp [i])) (fun r a => d r (cy _ a))]
 rw [Hv] at h
 rw [DG, DG]
 by_cases h1 : f.Op = 1
 ·rw [aK h1] at h
  rw [aK h1, aK h1]
  exact h _ (by simp)
 ·rw [aJ h1] at h
  rw [aJ h1, aJ h1, key f.Kids ih h]
theorem Ts : ∀ f : Formula, yE f = true → ∀ r ∈ zb f, ml r = true := by
 refine Ko fun f ih hw => ?_
 obtain ⟨h1, g, i⟩ := OI hw
 rw [HQ, dE] at g
 have key : ∀ c : List Formula, (∀ k ∈ c, ∀ r ∈ zb k, ml r = true) → ∀ r ∈ zM c, ml r = true := by
  intro c
  induction c with
  | nil => intro _ r a; rw [zM] at a; cases a
  | cons k c d =>
   intro hk r a
   rw [zM] at a
   rcases aR.1 a with a | a
   ·exact hk k (by simp) r a
   ·exact d (fun x j => hk x (by simp [j])) r a
 rw [Hv]
 split
 ·rename_i m
  intro r a
  obtain rfl := aN.1 a
  rcases i with h | h | h
  ·exact h.2.1
  ·omega
  ·omega
 ·exact key f.Kids (fun k hk => ih k hk (g k hk))
theorem Qj (rec : Formula → Option (List kA)) : ∀ (a : List Formula) (acc : List kA), (∀ k ∈ a, rec k = some (zb k)) → acc.length + (zM a).length ≤ 100000000 → tp rec a acc = some (acc ++ zM a)
 | [], acc, _, _ => by rw [tp, zM, ct]
 | k :: a, acc, h, c => by
  rw [zM, aI] at c
  rw [tp, h k (by simp), aA, mK (by omega) (by omega), aA, Qj rec a _ (fun x d => h x (by simp [d])) (by rw [aI]; omega), zM, aV]
theorem Vy : ∀ (n : Nat) (f : Formula), oS f ≤ n → mB f ≤ 10000000 → uY n f = some (zb f) := by
 intro n
 induction n with
 | zero => intro f h; rw [oe] at h; omega
 | succ n ih =>
  intro f c g
  rw [oe] at c
  have d := te f
  have hlen := H6 f
  rw [uY]
  unfold yP
  rw [Hv] at *
  by_cases c1 : f.Op = 1
  ·simp only [c1, bY, bA]
  ·have a : (f.Op == 1) = false := by simpa using c1
   simp only [a, aB, aS, c1] at *
   rw [Qj _ f.Kids [] (fun k hk => ih k (by have := xc hk; omega) (by have := xG hk; omega)) (by simp; omega), bV]
theorem Sj (f : Formula) (h : mB f ≤ 10000000) {A : List kA} (a : Ac (zb f) A) : yg f = some A := by
 have h1 := H6 f
 obtain ⟨r, e, c⟩ := U7 (zb f) (by omega)
 obtain rfl := qJ.unique (tU _) c a
 unfold yg
 have := wH f
 rw [Vy lE f (by rw [tN]; omega) h, aA, e]; rfl
theorem Wz (f : Formula) (o : Gd f) (q : mB f ≤ 10000000) {A : List kA} (i : Ac (zb f) A) (j : A.length ≤ 8) : ∃ s, Aw f = some s ∧ qJ (fun a b => wv a b = true) (fun _ => True) (uZ A f) s := by
 have c : A.Nodup := i.1.imp fun {a b} h e => by subst e; exact (tU (fun _ => True)).irrefl a trivial h
 obtain ⟨k, e, g, hm⟩ := Nt A f o i.1 j 10 0 [[]] [] lE rfl {
  Q0 := fun S d => by obtain rfl := aN.1 d; exact ⟨List.nil_sublist _, rfl⟩
  MQ := fun S _ h _ => by rw [bP h]; simp
  DL := fun S d => nomatch d
  IA := List.nodup_nil
  N3 := fun S _ _ h => by omega } (by simp) (by rw [pe]; omega)
 have hlen : k.length ≤ 128 := by
  have := mI (m := uZ A f) g (fun S d => (zp c (by omega) S).2 ((hm S).1 d))
  have := F4 (f := f) c j
  omega
 obtain ⟨s, n, t⟩ := We k g (by omega)
 refine ⟨s, ?_, t.congr fun S => by rw [hm, zp c (by omega)]⟩
 unfold Aw
 rw [Sj f q i, aA, e, n]
theorem TH (f : Formula) (t : rn f = true) {A : List kA} (j : Ac (zb f) A) (g : A.length ≤ 12) (v : kA → Bool) (u : xL v f = true) {s : List (List kA)} (n : qJ (fun a b => wv a b = true) (fun _ => True) (uZ A f) s) : ∃ S, s.find? (fun S => S.all v) = some S ∧ S ∈ s ∧ (∀ r ∈ S, v r = true) ∧ sf f S = true := by
 have d : A.Nodup := j.1.imp fun {a b} h e => by subst e; exact (tU (fun _ => True)).irrefl a trivial h
 have hw := (TV t).2.2
 have q : sf f (A.filter v) = true := by
  unfold sf
  rw [Yt (w := v) f fun r c => ?_]
  ·exact u
  ·rw [bH, ni kP, cJ, j.2]
   exact ⟨fun h => h.2, fun h => ⟨⟨c, Ts f hw r c⟩, h⟩⟩
 obtain ⟨m, h1, o⟩ := E4 f _ (A.filter v) rfl (d.sublist dF) q
 have hm : m ∈ s := (n.2 m).2 ⟨(zp d g m).2 ⟨h1.trans dF, o⟩, trivial⟩
 cases i : s.find? (fun S => S.all v) with
 | none =>
  have := jx.1 i m hm
  exact absurd (dE.2 fun r c => (cJ.1 (h1.subset c)).2) this
 | some S =>
  have k := eQ i
  refine ⟨S, rfl, k, fun r c => by
   have := iO i
   exact dE.1 (show S.all v = true from this) r c, ?_⟩
  exact ((zp d g S).1 ((n.2 S).1 k).1).2.1
theorem H4 : ∀ (l acc : List kY), ∀ f ∈ mr acc, f ∈ mr (xJ l acc)
 | [], acc, f, h => h
 | s :: l, acc, f, h => by
  rw [xJ]; split
  ·exact H4 l acc f h
  ·exact H4 l _ f (by rw [qN]; exact bF _ h)
theorem Ih : ∀ (l acc : List kY), ∀ f ∈ mr l, f ∈ mr (xJ l acc)
 | s :: l, acc, f, h => by
  rw [xJ]
  have h : f = s.kF ∨ f ∈ mr l := by simpa [mr] using h
  split
  ·rename_i a
   rcases h with rfl | h
   ·exact H4 l acc _ ((ni mL _ _).1 a)
   ·exact Ih l acc f h
  ·rcases h with rfl | h
   ·exact H4 l _ _ (by rw [qN]; simp [mr])
   ·exact Ih l _ f h
theorem M9 {l : List kY} (h : Dt l) : nc [] l := h.2.1
theorem UF (s : ur) (ha : s.lL.length ≤ 1000) (a2 a3 : Int) (q : List kA × Bool) : ∀ (a : List kA) (acc : List kY), acc.length + 1000000 * a.length ≤ 50000000 → nc [] acc → (∀ z ∈ acc, z.kB ∈ s.lL) →
  ∃ i, qQ s a2 a3 q a acc = some ⟨a2, a3, q.1, i⟩ ∧ i.length ≤ 50000000 ∧ nc [] i ∧ (∀ z ∈ i, z.kB ∈ s.lL) ∧ (∀ f ∈ mr acc, f ∈ mr i) ∧ ∀ r ∈ a, vD s.lL s.od r = true → (⟨r, s.od⟩ : kF) ∈ mr i
 | [], acc, A, v, t => ⟨acc, by rw [qQ], by omega, v, t, fun _ h => h, fun _ h => nomatch h⟩
 | r :: a, acc, A, v, t => by
  simp only [aH] at A
  rw [qQ]
  obtain ⟨C, n, h⟩ := Qd s.lL (by omega) ⟨r, s.od⟩
  have J := qj D7 n
  have M : C.length * C.length ≤ 1000 * 1000 := fj (by omega) (by omega)
  have u : ∀ c, c ∈ C ↔ c ∈ s.lL.filter mf := fun c => by rw [n.2, cJ]
  have j : ∃ o b, vM s.lL ⟨r, s.od⟩ = some (o, b) ∧ o.length ≤ 1000000 ∧ nc [] o ∧ (∀ z ∈ o, z.kB ∈ s.lL) ∧ (vD s.lL s.od r = true → (⟨r, s.od⟩ : kF) ∈ mr o) := by
   rcases h with ⟨o, e, g⟩ | ⟨e, g⟩
   ·have := g.len
    exact ⟨o, true, e, by omega, M9 g.tg, fun z d => ((n.2 _).1 (g.cr z d)).1, fun _ => g.VX⟩
   ·refine ⟨[], false, e, by simp, trivial, (fun _ h => nomatch h), fun m => ?_⟩
    unfold vD at m
    have := @of_decide_eq_true _ (Classical.propDecidable _) m
    exact absurd ((nY.congr u _).2 this) g
  obtain ⟨o, b, e, h1, E, G, I⟩ := j
  rw [e, aA, Nf [acc, o] (by simp [tot]; omega), aA]
  simp only [dv, jX, ct]
  have hm : xJ (acc ++ o) [] = xJ o (xJ acc []) := Qc acc o []
  have w : nc [] (xJ (acc ++ o) []) := by
   rw [hm]
   exact CM o _ [] E (fun _ h => nomatch h) (CM acc [] [] v (fun _ h => nomatch h) trivial)
  have k := FT (acc ++ o) []
  rw [aI] at k
  obtain ⟨i, P, Q, R, T, D, U⟩ := UF s ha a2 a3 q a (xJ (acc ++ o) []) (by simp at k; omega) w (fun z d => by
   rcases KA _ _ _ d with d | d
   ·rcases aR.1 d with d | d
    ·exact t z d
    ·exact G z d
   ·cases d)
  refine ⟨i, P, Q, R, T, fun f L => D f (Ih _ _ f (by rw [qN]; exact bF _ L)), fun x y m => ?_⟩
  rcases aQ.1 y with rfl | y
  ·exact D _ (Ih _ _ _ (by rw [qN]; exact cy _ (I m)))
  ·exact U x y m
theorem LB {o : lX} {C : List kB} {f : Formula} {peer : ByteArray} : DI o C f peer = 0 ↔ o.State = 1 ∧ yz (nO kQ o.lV) f = true ∧ pu C [] o.lW = true ∧ ∀ r ∈ o.lV, (⟨r, peer⟩ : kF) ∈ mr o.lW := by
 unfold DI
 by_cases h1 : o.State = 1
 ·rw [aJ (by simpa using h1)]
  cases d : yz (nO kQ o.lV) f
  ·simp
  ·rw [aJ (by simp)]
   cases g : pu C [] o.lW
   ·simp
   ·rw [aJ (by simp)]
    by_cases a : (o.lV.all fun r => nO nq (mr o.lW) ⟨r, peer⟩) = true
    ·rw [aK a]
     simp only [h1, true_and, true_iff]
     exact fun r c => (ni mL _ _).1 (dE.1 a r c)
    ·rw [aJ a]
     simp only [h1, true_and]
     refine ⟨fun h => absurd h (by decide), fun h => absurd (dE.2 fun r c => (ni mL _ _).2 (h r c)) a⟩
 ·rw [aK h1]
  simp [h1]
theorem Vc (s : ur) (f : Formula) (ha : s.lL.length ≤ 1000) (x : Gd f) (st e : Int) (owner : Bool) :
  (((owner = false ∨ st ≠ 1 ∨ rn f = false) ∧ oK s f st e owner = some ⟨st, e, [], []⟩) ∨
  (owner = true ∧ st = 1 ∧ rn f = true ∧ ∃ A, Ac (zb f) A ∧ A.length ≤ mB f ∧ ∃ o, oK s f st e owner = some o ∧ o.State = st ∧ o.ox = e ∧ o.lW.length ≤ 50000000 ∧
   (A.length ≤ 8 → ∃ L, qJ (fun a b => wv a b = true) (fun _ => True) (uZ A f) L ∧
    ((L.find? (fun S => S.all (vD s.lL s.od)) = none ∧ o.lV = [] ∧ o.lW = []) ∨ (∃ S, L.find? (fun S => S.all (vD s.lL s.od)) = some S ∧ o.lV = S ∧ nc [] o.lW ∧ (∀ z ∈ o.lW, z.kB ∈ s.lL) ∧ ∀ r ∈ S, (⟨r, s.od⟩ : kF) ∈ mr o.lW))))) := by
 unfold oK
 by_cases h1 : owner = true ∧ st = 1
 ·obtain ⟨rfl, rfl⟩ := h1
  obtain ⟨m, D, M⟩ := Lj s (by omega)
  have j : (if (!true) = true then some true else some ((1 : Int) != 1) : Option Bool) = some false := rfl
  rw [j, aA]
  simp only [aB, aS]
  rw [D, aA]
  unfold yQ
  cases y : rn f
  ·rw [O4 f x y]
   exact .inl ⟨by simp, rfl⟩
  ·obtain ⟨A, Y, w, q, h⟩ := Q6 f x y
   refine .inr ⟨trivial, trivial, by first | exact rfl | trivial, A, w, q, ?_⟩
   have d : A.Nodup := w.1.imp fun {a b} h e => by subst e; exact (tU (fun _ => True)).irrefl a trivial h
   rcases h with ⟨n, v, L, k, t⟩ | ⟨J, k⟩
   ·rw [k, aA]
    simp only [ev, aB, aS, aA]
    rw [Nj (vD s.lL s.od) _ M L]
    cases c : L.find? (fun S => S.all (vD s.lL s.od)) with
    | none => exact ⟨_, rfl, rfl, rfl, by simp, fun _ => ⟨L, t, .inl ⟨c, rfl, rfl⟩⟩⟩
    | some S =>
     have G := eQ c
     have u := ((zp d n S).1 ((t.2 S).1 G).1).1
     have I := u.length_le
     simp only [aA, bW, aB, aS]
     obtain ⟨W, P, Q, R, T, _, U⟩ := UF s ha 1 e (S, true) S [] (by simp; omega) trivial (fun _ h => nomatch h)
     have g := iO c
     exact ⟨_, P, rfl, rfl, Q, fun _ => ⟨L, t, .inr ⟨S, c, rfl, R, T, fun r i => U r i (dE.1 g r i)⟩⟩⟩
   ·rw [k]
    refine ⟨_, rfl, rfl, rfl, by simp, fun E => ?_⟩
    have := F4 (f := f) d E
    omega
 ·refine .inl ⟨?_, ?_⟩
  ·cases owner
   ·exact .inl rfl
   ·exact .inr (.inl fun h => h1 ⟨rfl, h⟩)
  ·have j : (if (!owner) = true then some true else some (st != 1) : Option Bool) = some true := by
    cases owner
    ·rfl
    ·have : st ≠ 1 := fun h => h1 ⟨rfl, h⟩
     simp [this]
   rw [j]; rfl
theorem T4 (s : ur) (ha : s.lL.length ≤ 30000) : ∃ R, Aq s = some R ∧ ∀ r, nO kQ R r = vD s.lL s.od r := by
 obtain ⟨F, a⟩ := Ur s.lL ha
 have hlen := a.len
 refine ⟨JQ F s.od, ?_, fun r => by rw [Tf, Qt a]⟩
 unfold Aq
 rw [a.ref, aA, show xW F s.od = some (JQ F s.od) from WC F s.od (by omega)]
 rfl
theorem VG (s : ur) (f : Formula) (ha : s.lL.length ≤ 1000) (j : Gd f) (m : rn f = true) {A : List kA} (t : Ac (zb f) A) (u : A.length ≤ 8) (y : xL (vD s.lL s.od) f = true) : ∃ o, oK s f 1 0 true = some o ∧ nv o s.lL f s.od = some 0 := by
 rcases Vc s f ha j 1 0 true with ⟨h, _⟩ | ⟨_, _, _, A', g, _, o, e, st, _, E, h⟩
 ·rcases h with h | h | h
  ·cases h
  ·exact absurd rfl h
  ·rw [m] at h; cases h
 ·obtain rfl := qJ.unique (tU _) g t
  obtain ⟨L, v, h⟩ := h u
  obtain ⟨S, c, z, w, x⟩ := TH f m t (by omega) _ y v
  rcases h with ⟨h, _⟩ | ⟨S', a, d, q, i, k⟩
  ·rw [h] at c; cases c
  ·rw [c] at a
   obtain rfl := iP a
   refine ⟨o, e, ?_⟩
   have D := wH f
   rw [(Dd o s.lL f s.od (by omega) j (by unfold Gd at j; rw [pe]; omega)).1, LB.2 ⟨st, ?_, (Ab _ _ _).2 ⟨i, q⟩, fun r n => k r (d ▸ n)⟩]
   unfold yz
   rw [m, d]; exact x
theorem Wb (o : lX) (C : List kB) (f : Formula) (peer : ByteArray) (h : DI o C f peer = 0) : yz (vD C peer) f = true := by
 obtain ⟨_, j, q, s⟩ := LB.1 h
 unfold yz at *
 rw [aP] at *
 refine ⟨j.1, P3 (fun r i => ?_) f j.2⟩
 have i := (ni kP _ _).1 i
 obtain ⟨t, k⟩ := (Ab _ _ _).1 q
 have g := s r i
 obtain ⟨z, d, n⟩ := bI.1 g
 have c : ∀ (l : List kY) (a : List kF), nc a l → ∀ z ∈ l, mf z.kB = true := by
  intro l
  induction l with
  | nil => intro a _ z d; cases d
  | cons y l ih =>
   intro a ha z d
   rcases aQ.1 d with rfl | d
   ·exact ha.1.1
   ·exact ih _ ha.2 z d
 have := Jv (C.filter mf) o.lW [] k (fun _ h => nomatch h) (fun y m => cJ.2 ⟨t y m, c _ _ k y m⟩) z d
 rw [n] at this
 unfold vD
 exact @decide_eq_true _ (Classical.propDecidable _) this
theorem WQ (a b : Bool) : (if a = true then some true else some b : Option Bool) = some (a || b) := UR
theorem H2 (s : ur) (f : Formula) (o : lX) (C : List kB) (W : SQ s) (d : Gd f) (ho : ∀ z ∈ o.lW, uI z.kB ≤ 1000000000) (hl : o.lW.length ≤ 10000000) (T : C.length ≤ 10000000) (Y : ∀ c ∈ C, uI c ≤ 1000000000) : sc ⟨s, f, o, C⟩ = some true := by
 unfold sc
 obtain ⟨r1, D, _, ha⟩ := YU s W
 obtain ⟨r2, E⟩ := Rw f d
 obtain ⟨r3, G⟩ := VY o ho
 obtain ⟨r4, I, h4, _⟩ := Rh C T Y
 rw [Vv]
 simp only [aA, bW, aB, aS]
 rw [D, E, G, I]
 simp only [aA]
 rw [WQ]
 simp only [aA]
 rw [WQ]
 simp only [aA]
 rw [WQ]
 simp only [aA]
 split
 ·rfl
 rename_i Z
 have a1 : r1 ≤ 4000 ∧ r4 ≤ 1500 := by simp at Z; omega
 have hd := wH f
 have g : oS f ≤ lE := by unfold Gd at d; rw [pe]; omega
 have fin : ((nv o C f (⟨#[98, 111, 98]⟩ : ByteArray)).bind fun h => if (h != 0) = true then some true else (vp C).bind fun a => (sb f fun x => qw x a.1 a.2.1 a.2.2.1 a.2.2.2.1 a.2.2.2.2.1 a.2.2.2.2.2).bind fun i => some i) = some true := by
  rw [(Dd o C f _ (by omega) d g).1, aA]
  by_cases k : DI o C f (⟨#[98, 111, 98]⟩ : ByteArray) = 0
  ·rw [aJ (by simp [k])]
   obtain ⟨F, v⟩ := Ur C (by omega)
   obtain ⟨m, em, _, q⟩ := v.Y2
   have t := Qt v (⟨#[98, 111, 98]⟩ : ByteArray)
   rw [em, aA, Lb (vD C (⟨#[98, 111, 98]⟩ : ByteArray)) _ (fun r => by unfold qw; rw [ud, q, ← t]; rfl) f d, Wb o C f _ k]
   rfl
  ·rw [aK (by simpa using k)]
 rw [SX f d]
 simp only [aA]
 cases j : rn f
 ·simp only [aB, aS, aA]
  exact fin
 ·simp only [bA]
  obtain ⟨A, _, n, Q⟩ := IV f (by have := H5 j; omega)
  rw [Sj f (by have := H5 j; omega) n]
  simp only [aA]
  by_cases u : A.length ≤ 8
  ·rw [decide_eq_true (show (A.length : Int) ≤ 8 by omega)]
   simp only [bA]
   obtain ⟨R, M, U⟩ := T4 s (by omega)
   obtain ⟨L, J, hL⟩ := Wz f d (by have := H5 j; omega) n u
   rw [M]
   simp only [aA]
   rw [QF R lE f g d]
   simp only [aA]
   rw [show nO kQ R = vD s.lL s.od from funext U]
   cases t : xL (vD s.lL s.od) f
   ·simp only [aB, aS, aA]
    exact fin
   ·simp only [bA]
    rw [J]
    simp only [aA]
    by_cases hk : (L.length : Int) ≤ 128
    ·rw [decide_eq_true hk]
     simp only [bA]
     obtain ⟨y, P, w⟩ := VG s f (by omega) d j n u t
     rw [P, aA, w, aA]
     simp only [ev, aB, aS, aA]
     exact fin
    ·rw [decide_eq_false hk]
     simp only [aB, aS, aA]
     exact fin
  ·rw [decide_eq_false (show ¬ (A.length : Int) ≤ 8 by omega)]
   simp only [aB, aS, aA]
   exact fin
end Go.Proofs.YtbnbdigcbldfhaaGreat
namespace Go.Proofs.YtbnbdigcbldfhaaGreat.Lf
open Go.ChangeShapes Go.WideShapes Go.ChangeAt Go.RowKit
open Go.Proofs.YtbnbdigcbldfhaaGreat (Rows.uptoBulk Rows.uptoBulkAll Rows.uptoSmall)
theorem Tc {H : Type} (d : DataW H) : 1 ≤ Rows.uptoBulk d := by
 cases d with
 | lit l => cases l <;> simp [Rows.uptoBulk]
 | nil => simp [Rows.uptoBulk]
 | ptr d => simp [Rows.uptoBulk]
 | slice a spare => simp [Rows.uptoBulk]
 | agg parts => simp [Rows.uptoBulk]
 | iface t d => simp [Rows.uptoBulk]
 | map entries => simp [Rows.uptoBulk]
 | held h => simp [Rows.uptoBulk]
theorem length_le {H : Type} (l : List (DataW H)) : l.length ≤ Rows.uptoBulkAll l := by
 induction l with
 | nil => simp [Rows.uptoBulkAll]
 | cons x r ih => have := Tc x; simp only [Rows.uptoBulkAll, aH]; omega
def H0 {α : Type} (P : Program) (t : TypeId) (enc : α → List Value) (sz : α → Nat) : Prop :=
 ∀ (H : Type) (c : TypeId × Value → H) (W : World) (base : Nat) (sp : Nat → Bool) (d : Bool) (fuel : Nat) (cs : List Value) (x : DataW H × List MemPlace),
  DataW.trod c P W base sp d fuel t cs = some x → ∃ a : α, cs = enc a ∧ sz a ≤ Rows.uptoBulk x.1
theorem QA {P : Program} {t : TypeId} (a : P.underlying t = some .string) : H0 P t (fun s : ByteArray => [.string s]) (fun s => s.size) := by
 intro H c W base sp d fuel cs x h
 obtain ⟨s, rfl, rfl, _⟩ := DataW.trod_string a h
 refine ⟨s, rfl, ?_⟩
 have e : s.data.toList.length = s.size := by rw [cR]; rfl
 simp [Rows.uptoBulk, e]
theorem PV {P : Program} {t : TypeId} {k : IntKind} (a : P.underlying t = some (.int k)) : H0 P t (fun n : Int => [.int k n]) (fun _ => 0) := by
 intro H c W base sp d fuel cs x h
 obtain ⟨n, rfl, rfl, _⟩ := DataW.trod_int a h
 exact ⟨n, rfl, ej _⟩
theorem V0 {α : Type} {n : Nat} {p : Nat → α → Prop} (h : ∀ i, i < n → ∃ x, p i x) : ∃ l : List α, l.length = n ∧ ∀ i x, l[i]? = some x → p i x := by
 induction n with
 | zero => exact ⟨[], rfl, by simp⟩
 | succ n ih =>
  obtain ⟨l, h1, d⟩ := ih fun i c => h i (by omega)
  obtain ⟨x, j⟩ := h n (by omega)
  refine ⟨l ++ [x], by simp [h1], fun i y a => ?_⟩
  by_cases c : i < l.length
  ·rw [List.getElem?_append_left c] at a
   exact d i y a
  ·rw [fL (by omega)] at a
   have : i - l.length = 0 := by
    cases g : i - l.length with
    | zero => rfl
    | succ m => rw [g] at a; simp at a
   rw [this] at a
   have e : i = n := by omega
   simp at a
   subst a; rw [e]; exact j
theorem NM {W : World} {a : Addr} {v : Value} (h : W.cell? a = some v) : ∃ cs T fr, W.heap[a.block]? = some (.cells cs T fr) ∧ a.spot = none ∧ cs[a.off]? = some v := by
 unfold World.cell? at h
 split at h
 ·rename_i c T fr g
  by_cases d : a.spot.isSome
  ·simp [d] at h
  ·simp only [d] at h
   exact ⟨c, T, fr, g, by simpa using d, by simpa using h⟩
 ·cases h
theorem Ex.below {dd : Bool} {W W' : World} (h : Ex dd W W') : Below W.heap.size W W' := ⟨h.os, h.tape, h.output, h.size, h.ng⟩
theorem GK {H : Type} {m : TypeId × Value → H} {P : Program} (o : laidOutB P = true) {W W' : World} {c : Nat → Bool} :
  ∀ {i : List TypeId} {vs : List Value} {j : List (DataW H)} {g : List MemPlace}, (∀ t ∈ i, P.readableRec t = true ∧ t < P.types.size) →
   DataW.TrodAll m P W 0 (fun _ => true) true i vs j g → (∀ p ∈ g, W.sameAt W' p) → (∀ p ∈ g, c p.block = true) → DataW.TrodAll m P W' 0 c true i vs j g
 | [], _, _, _, _, h, _, _ => by
  obtain ⟨rfl, rfl, rfl⟩ := trodAll_nil h
  exact trodAll_mk0
 | t :: i, _, _, _, k, h, h1, n => by
  obtain ⟨v, vs, d, j, p, q, rfl, rfl, rfl, s, w⟩ := trodAll_cons h
  exact trodAll_cons_mk (WideElems.Trod_stays o (k t (by simp)).1 (k t (by simp)).2 s (fun x a => h1 x (by simp [a])) (fun x a => n x (by simp [a])))
   (GK o (fun u hu => k u (by simp [hu])) w (fun x a => h1 x (by simp [a])) (fun x a => n x (by simp [a])))
theorem Qy {H : Type} {enc : TypeId × Value → H} {P : Program} (L : laidOutB P = true) {f : Func} {s : ChangeSpec} {apart fresh handsOn again : Bool} {W W' : World} {args : Array Value} {v : Value} {a gs : List (DataW H)} {before : List MemPlace} (Q : ∀ t ∈ f.params.toList, P.readableRec t = true ∧ t < P.types.size) (n : s.vars = []) (u : DataW.Whole enc P f.params.toList s.vars apart W args.toList a gs before) {dd : Bool} (E : Ex dd W W') (c : ∀ (b : Nat) (sp : Nat → Bool) (J : Bool), DataW.TrodAll enc P W' b sp J f.resultTypes.toList (v.resultList f.resultTypes.size) (s.fn H (a ++ gs)).results []) (d : (s.fn H (a ++ gs)).args = a) (h : (s.fn H (a ++ gs)).vars = []) (A : ∀ (j : Nat) (t : TypeId) (r : Value), f.resultTypes[j]? = some t → (v.resultList f.resultTypes.size)[j]? = some r → Value.okWide P W' .any 0 t r) :
  s.post enc P f apart fresh handsOn again W args v W' := by
 have g := u.lt
 have hold : ∀ p ∈ before, (fun b => decide (b < W.heap.size)) p.block = true := fun p hp => by simpa using g p hp
 have z := Ex.below E
 have y := u
 obtain ⟨p, q, I, G, k, R, M⟩ := u
 rw [n] at G
 obtain ⟨rfl, rfl⟩ := trodVars_none G
 rw [ct] at k
 subst k
 have m : ∀ sp : Nat → Bool, (∀ p ∈ before, sp p.block = true) → DataW.TrodAll enc P W' 0 sp true f.params.toList args.toList (s.fn H (a ++ [])).args before := fun sp D => by
  rw [d]
  exact GK L Q I (fun x E => z.same (g x E)) D
 have o : ∀ sp : Nat → Bool, DataW.TrodVars enc P W' sp s.vars (s.fn H (a ++ [])).vars [] := fun sp => by
  rw [h, n]; rfl
 refine ⟨a, [], before, [], before, [], y, c _ _ _, m _ hold, o _, World.keptBut_mono (fun p hp => ⟨hp, ?_⟩) (z.frame (· ∈ before)), fun _ => ?_⟩
 ·exact Or.inr (Or.inl hp)
 ·refine ⟨A, _, _, ([] ++ before) ++ [], ⟨[] ++ before, [], trodAll_append (m _ (fun _ _ => rfl)) (c _ _ _), o _, rfl, ?_, ?_⟩, ?_⟩
  ·intro b off hp
   have i : MemPlace.cell b off ∈ before := by simpa using hp
   rw [World.frozen?_of_block (w := W) (z.block b (g _ i))]
   exact R b off i
  ·intro ha
   simpa using M ha
  ·intro p hp _
   simpa using hp
end Go.Proofs.YtbnbdigcbldfhaaGreat.Lf
namespace Go.Proofs.YtbnbdigcbldfhaaGreat.Lf
open Go.ChangeShapes Go.WideShapes Go.ChangeAt Go.RowKit
open Go.Proofs.YtbnbdigcbldfhaaGreat (Rows.uptoBulk Rows.uptoBulkAll Rows.uptoSmall)
def Jq {α : Type} (P : Program) (t : TypeId) (R : rH α) (sz : α → Nat) : Prop :=
 ∀ (H : Type) (c : TypeId × Value → H) (W : World) (base : Nat) (sp : Nat → Bool) (d : Bool) (fuel : Nat) (cs : List Value) (x : DataW H × List MemPlace),
  DataW.trod c P W base sp d fuel t cs = some x → ∃ a : α, R (hp W) cs a ∧ sz a ≤ Rows.uptoBulk x.1
theorem H0.rel {α : Type} {P : Program} {t : TypeId} {enc : α → List Value} {sz : α → Nat} (h : H0 P t enc sz) : Jq P t (Pl enc) sz := fun H a W base sp c fuel cs x d => h H a W base sp c fuel cs x d
end Go.Proofs.YtbnbdigcbldfhaaGreat.Lf
namespace Go.Proofs.YtbnbdigcbldfhaaGreat.Lf
open Go.ChangeShapes Go.WideShapes Go.ChangeAt Go.RowKit
open Go.Proofs.YtbnbdigcbldfhaaGreat (Rows.uptoBulk Rows.uptoBulkAll Rows.uptoSmall)
theorem IQ {H : Type} : ∀ l : List (DataW H), Rows.uptoBulkAll l = (l.map Rows.uptoBulk).sum
 | [] => by simp [Rows.uptoBulkAll]
 | d :: l => by simp [Rows.uptoBulkAll, IQ l]
theorem Sc {α : Type} (g : α → Nat) : ∀ (n : Nat) (f : Nat → Nat) {l : List α}, l.length = n → (∀ i x, l[i]? = some x → g x ≤ f i) → (l.map g).sum ≤ ((List.range n).map f).sum
 | 0, f, l, c, h => by
  obtain rfl := dH.1 c
  simp
 | n + 1, f, [], c, h => by cases c
 | n + 1, f, a :: l, c, h => by
  rw [List.range_succ_eq_map, bE, bE, ee, ee, dT]
  have h1 := h 0 a rfl
  have j := Sc g n (f ∘ Nat.succ) (l := l) (by simpa using c) (fun i x d => h (i + 1) x (by simpa using d))
  omega
def rc {α : Type} (sz : α → Nat) (l : List α) : Nat := (l.map fun a => max 1 (sz a)).sum
theorem AS {α : Type} (sz : α → Nat) : ∀ l : List α, l.length ≤ rc sz l
 | [] => bD _
 | a :: l => by have := AS sz l; simp only [rc, bE, ee, aH] at this ⊢; omega
theorem FM {α : Type} {sz : α → Nat} : ∀ {l : List α} {a : α}, a ∈ l → sz a ≤ rc sz l
 | b :: l, a, h => by
  simp only [rc, bE, ee]
  rcases aQ.1 h with rfl | h
  ·omega
  ·have := FM (sz := sz) h; simp only [rc] at this; omega
theorem IC {α : Type} {P : Program} {t e : TypeId} {k : Nat} {R : rH α} {sz : α → Nat} (hk : P.cellsOf e = k) (L : 0 < k) (ht : P.underlying t = some (.slice e)) {H : Type} {Z : TypeId × Value → H} {W : World} {base : Nat} {sp : Nat → Bool} {held : Bool} {fuel : Nat} {cs : List Value} {x : DataW H × List MemPlace} (hd : ∀ (fuel : Nat) (cs : List Value) (y : DataW H × List MemPlace), DataW.trod Z P W base sp held fuel e cs = some y → SizeOf.sizeOf y.1 < SizeOf.sizeOf x.1 → ∃ a : α, R (hp W) cs a ∧ sz a ≤ Rows.uptoBulk y.1) (hf : DataW.trod Z P W base sp held fuel t cs = some x) :
  ∃ v l, cs = [v] ∧ Sl R k (hp W) v l ∧ rc sz l ≤ Rows.uptoBulk x.1 := by
 rcases Go.Deep.open_slice ht hf with ⟨rfl, rfl⟩ | ⟨a, ln, cp, m, n, D, Q, rfl, hb, hl, hm, U, rfl, I⟩
 ·exact ⟨_, [], rfl, ⟨none, 0, rfl, bD _, ej _, fun h => absurd h (Nat.lt_irrefl _)⟩, ej _⟩
 ·have aa : ln ≤ m := by rw [U]; split <;> omega
  have hB : ((List.range ln).map fun i => Rows.uptoBulk (D i)).sum ≤ Rows.uptoBulk (DataW.slice ((List.range ln).map D) ((List.range (m - ln)).map fun j => D (ln + j))) := by
   simp only [Rows.uptoBulk]
   rw [IQ, dT]
   have e : ((List.range ln).map fun i => Rows.uptoBulk (D i)) = (List.range ln).map (Rows.uptoBulk ∘ D) := rfl
   rw [e]
   omega
  have hS : ∀ i, i < ln → SizeOf.sizeOf (D i) < SizeOf.sizeOf (DataW.slice ((List.range ln).map D) ((List.range (m - ln)).map fun j => D (ln + j))) := fun i J => by
   have := List.sizeOf_lt_of_mem (bI.2 ⟨i, jy.2 J, rfl⟩ : D i ∈ (List.range ln).map D)
   rw [DataW.slice.sizeOf_spec]; omega
  simp only at hd ⊢
  generalize Rows.uptoBulk (DataW.slice ((List.range ln).map D) ((List.range (m - ln)).map fun j => D (ln + j))) = B at hB
  obtain ⟨l, M, q⟩ := V0 (α := α) (n := ln) (p := fun i x => ∃ cs', W.cells? base (a.add (i * k)) k = some cs' ∧ R (hp W) cs' x ∧ sz x ≤ Rows.uptoBulk (D i)) fun i J => by
   obtain ⟨cs', h1, z⟩ := I i (by omega)
   obtain ⟨x, hR, A⟩ := hd _ _ _ z (hS i J)
   rw [hk] at h1
   exact ⟨x, cs', h1, hR, A⟩
  subst M
  refine ⟨_, l, rfl, ⟨some a, cp, rfl, hl, hm, fun h0 => ?_⟩, ?_⟩
  ·have c : ∀ i x, l[i]? = some x → ∃ cs', R (hp W) cs' x ∧ cs'.length = k ∧ ∀ j, j < k → W.cell? ((a.add (i * k)).add j) = cs'[j]? := fun i x s =>
    let ⟨cs', h1, z, _⟩ := q i x s
    let ⟨_, A, h4⟩ := World.cells?_some h1
    ⟨cs', z, A, h4⟩
   obtain ⟨a6, _, h4, h5⟩ := c 0 l[0] (by simp [h0])
   have E := h5 0 L
   rw [Nat.zero_mul, cj (by omega)] at E
   have e0 : (a.add 0).add 0 = a := rfl
   rw [e0] at E
   obtain ⟨cs, T, fr, G, h8, _⟩ := NM E
   obtain ⟨u, w, a1⟩ := a
   simp only at G h8
   subst h8
   refine ⟨u, w, cs, T, fr, rfl, G, fun i x s => ?_⟩
   obtain ⟨cs', gR, g1, g2⟩ := c i x s
   refine ⟨cs', g1, gR, fun j y hy => ?_⟩
   have hj : j < k := by
    rw [← g1]
    exact (bB.1 hy).1
   have h9 := g2 j hj
   rw [Go.Deep.add_add, hy] at h9
   obtain ⟨Y, T', a7, d, a8, g⟩ := NM h9
   have o : (Addr.add ⟨u, w, none⟩ (i * k + j)).block = u ∧ (Addr.add ⟨u, w, none⟩ (i * k + j)).off = w + (i * k + j) := by
    unfold Addr.add
    split
    ·rename_i hz
     rw [hz]; exact ⟨rfl, rfl⟩
    ·exact ⟨rfl, rfl⟩
   rw [o.1, G] at d
   cases d
   rw [o.2, ← eZ] at g
   exact g
  ·refine dj (Sc _ _ _ rfl fun i x s => ?_) hB
   exact Nat.max_le.2 ⟨Tc _, (q i x s).elim fun _ h => h.2.2⟩
theorem qZ {α : Type} {P : Program} {t e : TypeId} {k : Nat} {R : rH α} {sz : α → Nat} (hk : P.cellsOf e = k) (a : 0 < k) (d : Jq P e R sz) (i : P.underlying t = some (.slice e)) {H : Type} {c : TypeId × Value → H} {W : World} {base : Nat} {sp : Nat → Bool} {held : Bool} {fuel : Nat} {cs : List Value} {x : DataW H × List MemPlace} (g : DataW.trod c P W base sp held fuel t cs = some x) :
  ∃ v l, cs = [v] ∧ Sl R k (hp W) v l ∧ rc sz l ≤ Rows.uptoBulk x.1 := IC hk a i (fun _ _ _ h _ => d _ _ _ _ _ _ _ _ _ h) g
end Go.Proofs.YtbnbdigcbldfhaaGreat.Lf
namespace Go.Proofs.YtbnbdigcbldfhaaGreat.Lf
open Go.ChangeShapes Go.WideShapes Go.ChangeAt Go.RowKit
open Go.Proofs.YtbnbdigcbldfhaaGreat (Rows.uptoBulk Rows.uptoBulkAll Rows.uptoSmall)
def SK {α : Type} (R : rH α) (Q : α → Prop) : rH α := fun μ ys x => R μ ys x ∧ Q x
theorem Sl.all {α : Type} {R : rH α} {Q : α → Prop} {k : Nat} {μ : lq} {v : Value} {l : List α} (h : Sl (SK R Q) k μ v l) : Sl R k μ v l ∧ ∀ x ∈ l, Q x := by
 obtain ⟨A, c, rfl, h1, j, s⟩ := h
 cases l with
 | nil => exact ⟨⟨A, c, rfl, h1, j, fun h => absurd h (by simp)⟩, by simp⟩
 | cons a l =>
  obtain ⟨b, o, cs, T, fr, e, t, m⟩ := s (by simp)
  refine ⟨⟨A, c, rfl, h1, j, fun _ => ⟨b, o, cs, T, fr, e, t, fun i x g => ?_⟩⟩, fun x g => ?_⟩
  ·obtain ⟨ys, n, d, q⟩ := m i x g
   exact ⟨ys, n, d.1, q⟩
  ·obtain ⟨i, u⟩ := List.mem_iff_getElem?.1 g
   obtain ⟨ys, n, d, q⟩ := m i x u
   exact d.2
theorem VJ {P : Program} {t : TypeId} (a : P.underlying t = some (.int .u8)) : Jq P t (SK (Pl (lM .u8)) (fun x => 0 ≤ x ∧ x < 256)) (fun _ => 0) := by
 intro H c W base sp d fuel cs x h
 obtain ⟨n, rfl, rfl, hw⟩ := DataW.trod_int a h
 refine ⟨n, ⟨rfl, ?_⟩, ej _⟩
 simp [Lit.wf, IntKind.min, IntKind.max, IntKind.bits, IntKind.signed] at hw
 omega
end Go.Proofs.YtbnbdigcbldfhaaGreat.Lf
namespace Go.Proofs.YtbnbdigcbldfhaaGreat
open Go.Proofs.Tryz renaming prog → pg0
set_option maxRecDepth 10000
open Go.ChangeShapes Go.WideShapes Go.ChangeAt Go.RowKit
open Go.Proofs.YtbnbdigcbldfhaaGreat Go.Proofs.YtbnbdigcbldfhaaGreat.Lf
def gJ := @Tryz.underlying22
def jC := @Tryz.underlying34
theorem Vr : Tryz.prog.cellsOf 96 = 19 := by kernel_rfl
theorem T6 {α : Type} {l : List α} (h : l.length = 4) : ∃ a0 a a2 a3, l = [a0, a, a2, a3] := by
 match l, h with
 | [a0, a, a2, a3], _ => exact ⟨a0, a, a2, a3, rfl⟩
theorem Yh {α : Type} {l : List α} (h : l.length = 19) : ∃ a0 m a2 a3 a4 a5 n o q a9 a c a12 d g i j a17 k, l = [a0, m, a2, a3, a4, a5, n, o, q, a9, a, c, a12, d, g, i, j, a17, k] := by
 match l, h with
 | [a0, m, a2, a3, a4, a5, n, o, q, a9, a, c, a12, d, g, i, j, a17, k], _ => exact ⟨a0, m, a2, a3, a4, a5, n, o, q, a9, a, c, a12, d, g, i, j, a17, k, rfl⟩
theorem VR : Tryz.prog.cellsOf 54 = 9 := by kernel_rfl
theorem Y8 {α : Type} {l : List α} (h : l.length = 7) : ∃ a0 a a2 a3 a4 a5 c, l = [a0, a, a2, a3, a4, a5, c] := by
 match l, h with
 | [a0, a, a2, a3, a4, a5, c], _ => exact ⟨a0, a, a2, a3, a4, a5, c, rfl⟩
theorem Y5 {α : Type} {l : List α} (h : l.length = 9) : ∃ a0 a a2 a3 a4 a5 c d g, l = [a0, a, a2, a3, a4, a5, c, d, g] := by
 match l, h with
 | [a0, a, a2, a3, a4, a5, c, d, g], _ => exact ⟨a0, a, a2, a3, a4, a5, c, d, g, rfl⟩
theorem Vq : Tryz.prog.cellsOf 52 = 3 := by kernel_rfl
theorem Uu {α : Type} {l : List α} (h : l.length = 3) : ∃ a0 a a2, l = [a0, a, a2] := by
 match l, h with
 | [a0, a, a2], _ => exact ⟨a0, a, a2, rfl⟩
theorem HF : Tryz.prog.cellsOf 9 = 1 := by kernel_rfl
theorem I4 : H0 pg0 9 (fun s : ByteArray => [.string s]) (fun s => s.size) := QA Tryz.underlying9
theorem U9 : Tryz.prog.cellsOf 49 = 1 := by kernel_rfl
theorem Oy : Tryz.prog.cellsOf 199 = 15 := by kernel_rfl
theorem KP {α : Type} {l : List α} (h : l.length = 2) : ∃ a0 a, l = [a0, a] := by
 match l, h with
 | [a0, a], _ => exact ⟨a0, a, rfl⟩
theorem Yb {α : Type} {l : List α} (h : l.length = 15) : ∃ a0 i a2 a3 a4 a5 j k m a9 a c a12 d g, l = [a0, i, a2, a3, a4, a5, j, k, m, a9, a, c, a12, d, g] := by
 match l, h with
 | [a0, i, a2, a3, a4, a5, j, k, m, a9, a, c, a12, d, g], _ => exact ⟨a0, i, a2, a3, a4, a5, j, k, m, a9, a, c, a12, d, g, rfl⟩
theorem Uj : Tryz.prog.cellsOf 197 = 10 := by kernel_rfl
theorem AM : Tryz.prog.cellsOf 108 = 9 := by kernel_rfl
theorem NL : H0 pg0 3 (fun n : Int => [.int .i64 n]) (fun _ => 0) := PV Tryz.underlying3
theorem JJ : Tryz.prog.cellsOf 3 = 1 := by kernel_rfl
theorem AP : Tryz.prog.cellsOf 28 = 2 := by kernel_rfl
def qk (x : kA) : Nat := x.kI.size + x.kU.size
theorem CP : H0 pg0 28 kC qk := by
 intro H g W base sp j fuel cs x h
 obtain ⟨xs, n, _, rfl, q, hlen, k⟩ := dm Tryz.underlying28 h
 obtain ⟨t, u, rfl⟩ := KP hlen
 obtain ⟨a, c1, rfl⟩ := KP (q.trans AP)
 have i : DataW.trod g pg0 W base sp j n 9 (([a, c1].drop 0).take (Tryz.prog.cellsOf 9)) = some t := k 0 _ rfl
 have h1 : DataW.trod g pg0 W base sp j n 9 (([a, c1].drop 1).take (Tryz.prog.cellsOf 9)) = some u := k 1 _ rfl
 simp only [HF, List.drop, List.take] at i h1
 obtain ⟨s, c, m⟩ := I4 _ _ _ _ _ _ _ _ _ i
 obtain ⟨s1, d, o⟩ := I4 _ _ _ _ _ _ _ _ _ h1
 simp only [bG, dn] at c d
 obtain rfl := c
 obtain rfl := d
 refine ⟨⟨s, s1⟩, rfl, ?_⟩
 simp only [List.map, Rows.uptoBulk, Rows.uptoBulkAll, qk] at m o ⊢
 omega
theorem Y3 {α : Type} {l : List α} (h : l.length = 6) : ∃ a0 a a2 a3 a4 a5, l = [a0, a, a2, a3, a4, a5] := by
 match l, h with
 | [a0, a, a2, a3, a4, a5], _ => exact ⟨a0, a, a2, a3, a4, a5, rfl⟩
def qL (x : kB) : Nat := qk x.Head + x.ly.size + qk x.B + qk x.C + x.lU.size
theorem FC : H0 pg0 108 kG qL := by
 intro H m W base sp o fuel cs x h
 obtain ⟨xs, n, _, rfl, R, hlen, q⟩ := dm Tryz.underlying108 h
 obtain ⟨y0, y1, y2, y3, y4, y5, rfl⟩ := Y3 hlen
 obtain ⟨a, c1, c2, c, d, g, i, j, k, rfl⟩ := Y5 (R.trans AM)
 have z : DataW.trod m pg0 W base sp o n 3 (([a, c1, c2, c, d, g, i, j, k].drop 0).take (Tryz.prog.cellsOf 3)) = some y0 := q 0 _ rfl
 have h1 : DataW.trod m pg0 W base sp o n 28 (([a, c1, c2, c, d, g, i, j, k].drop 1).take (Tryz.prog.cellsOf 28)) = some y1 := q 1 _ rfl
 have A : DataW.trod m pg0 W base sp o n 9 (([a, c1, c2, c, d, g, i, j, k].drop 3).take (Tryz.prog.cellsOf 9)) = some y2 := q 2 _ rfl
 have D : DataW.trod m pg0 W base sp o n 28 (([a, c1, c2, c, d, g, i, j, k].drop 4).take (Tryz.prog.cellsOf 28)) = some y3 := q 3 _ rfl
 have E : DataW.trod m pg0 W base sp o n 28 (([a, c1, c2, c, d, g, i, j, k].drop 6).take (Tryz.prog.cellsOf 28)) = some y4 := q 4 _ rfl
 have G : DataW.trod m pg0 W base sp o n 9 (([a, c1, c2, c, d, g, i, j, k].drop 8).take (Tryz.prog.cellsOf 9)) = some y5 := q 5 _ rfl
 simp only [AP, JJ, HF, List.drop, List.take] at z h1 A D E G
 obtain ⟨T, s, I⟩ := NL _ _ _ _ _ _ _ _ _ z
 obtain ⟨s1, t, J⟩ := CP _ _ _ _ _ _ _ _ _ h1
 obtain ⟨s2, u, L⟩ := I4 _ _ _ _ _ _ _ _ _ A
 obtain ⟨U, v, M⟩ := CP _ _ _ _ _ _ _ _ _ D
 obtain ⟨Y, w, P⟩ := CP _ _ _ _ _ _ _ _ _ E
 obtain ⟨Z, y, Q⟩ := I4 _ _ _ _ _ _ _ _ _ G
 simp only [kC, bG, dn] at s t u v w y
 obtain rfl := s
 obtain ⟨rfl, rfl⟩ := t
 obtain rfl := u
 obtain ⟨rfl, rfl⟩ := v
 obtain ⟨rfl, rfl⟩ := w
 obtain rfl := y
 refine ⟨⟨T, s1, s2, U, Y, Z⟩, rfl, ?_⟩
 simp only [List.map, Rows.uptoBulk, Rows.uptoBulkAll, qL] at I J L M P Q ⊢
 omega
theorem VP : Tryz.prog.cellsOf 78 = 1 := by kernel_rfl
theorem WK : Tryz.prog.cellsOf 5 = 1 := by kernel_rfl
theorem YE : Jq pg0 5 (SK (Pl (lM .u8)) (fun x => 0 ≤ x ∧ x < 256)) (fun _ => 0) := VJ Tryz.underlying5
theorem Fx : Tryz.prog.cellsOf 57 = 5 := by kernel_rfl
theorem Zo {α : Type} {l : List α} (h : l.length = 5) : ∃ a0 a a2 a3 a4, l = [a0, a, a2, a3, a4] := by
 match l, h with
 | [a0, a, a2, a3, a4], _ => exact ⟨a0, a, a2, a3, a4, rfl⟩
theorem V3 : Tryz.prog.cellsOf 55 = 1 := by kernel_rfl
theorem Ze {H : Type} {x : DataW H × List MemPlace} {ys : List (DataW H × List MemPlace)} {p : List MemPlace} (a : x = (.agg (ys.map (·.1)), p)) (i : Nat) {y : DataW H × List MemPlace} (h : ys[i]? = some y) : SizeOf.sizeOf y.1 < SizeOf.sizeOf x.1 := by
 subst a
 have := List.sizeOf_lt_of_mem (bI.2 ⟨y, iH h, rfl⟩ : y.1 ∈ ys.map (·.1))
 simp only [DataW.agg.sizeOf_spec]; omega
theorem NR : ∀ l : List Formula, szFL l ≤ rc Ca l
 | [] => bD _
 | k :: l => by have := NR l; rw [szFL]; simp only [rc, bE, ee] at this ⊢; omega
theorem WZ : ∀ (N : Nat) (H : Type) (M : TypeId × Value → H) (W : World) (base : Nat) (sp : Nat → Bool) (P : Bool) (fuel : Nat) (cs : List Value) (x : DataW H × List MemPlace),
  DataW.trod M pg0 W base sp P fuel 57 cs = some x → SizeOf.sizeOf x.1 < N → ∃ a : Formula, la (hp W) cs a ∧ Ca a ≤ Rows.uptoBulk x.1 := by
 intro N
 induction N with
 | zero => intro _ _ _ _ _ _ _ _ _ _ h; exact absurd h (Nat.not_lt_zero _)
 | succ N ih =>
  intro H M W base sp P fuel cs x h hN
  obtain ⟨a1, D, _, t, E, s, k⟩ := dm Tryz.underlying57 h
  obtain ⟨u, v, w, A, rfl⟩ := T6 s
  obtain ⟨c, d, g, i, j, rfl⟩ := Zo (E.trans Fx)
  have m : DataW.trod _ pg0 W _ _ _ D 3 (([c, d, g, i, j].drop 0).take (Tryz.prog.cellsOf 3)) = some u := k 0 _ rfl
  have n : DataW.trod _ pg0 W _ _ _ D 3 (([c, d, g, i, j].drop 1).take (Tryz.prog.cellsOf 3)) = some v := k 1 _ rfl
  have o : DataW.trod _ pg0 W _ _ _ D 28 (([c, d, g, i, j].drop 2).take (Tryz.prog.cellsOf 28)) = some w := k 2 _ rfl
  have q : DataW.trod _ pg0 W _ _ _ D 55 (([c, d, g, i, j].drop 4).take (Tryz.prog.cellsOf 55)) = some A := k 3 _ rfl
  simp only [AP, JJ, V3, List.drop, List.take] at m n o q
  obtain ⟨s2, G, T⟩ := NL _ _ _ _ _ _ _ _ _ m
  simp only [bG, dn] at G
  obtain rfl := G
  obtain ⟨s3, I, U⟩ := NL _ _ _ _ _ _ _ _ _ n
  simp only [bG, dn] at I
  obtain rfl := I
  obtain ⟨s4, J, Y⟩ := CP _ _ _ _ _ _ _ _ _ o
  simp only [kC, bG, dn] at J
  obtain ⟨rfl, rfl⟩ := J
  obtain ⟨v5, Q, L, q5, Z⟩ := IC Fx (by decide) Tryz.underlying55 (fun f cs y h hz => ih _ _ _ _ _ _ _ _ _ h (by have := Ze t 3 rfl; omega)) q
  simp only [bG, dn] at L
  obtain rfl := L
  have R := aU (fun z => Rows.uptoBulk z.1) t
  refine ⟨⟨s2, s3, s4, Q⟩, la.mk ⟨_, rfl, q5⟩, ?_⟩
  have hz := NR Q
  simp only [List.map, Rows.uptoBulk, Rows.uptoBulkAll, qk] at T U Y Z R ⊢
  rw [Og]
  simp only
  omega
theorem NH : Jq pg0 57 la Ca := fun H a W base sp c fuel cs x h => WZ _ H a W base sp c fuel cs x h (bT _)
def xa (x : nR) : Nat := qL x.Signed.kB + rc (fun _ : Int => 0) x.Signed.Tag + 1 + Ca x.lp + 1
def SP (x : nR) : Prop := (∀ y ∈ x.Signed.Tag, 0 ≤ y ∧ y < 256)
theorem V8 : Jq pg0 199 (SK oR SP) xa := by
 intro H eh W base sp hd fuel cs x h
 obtain ⟨a8, n6, _, Z, Y, E, L⟩ := dm Tryz.underlying199 h
 obtain ⟨P, Q, rfl⟩ := KP E
 obtain ⟨a, c, d, g, i, j, k, m, n, o, q, s, t, u, v, rfl⟩ := Yb (Y.trans Oy)
 have w : DataW.trod _ pg0 W _ _ _ n6 197 (([a, c, d, g, i, j, k, m, n, o, q, s, t, u, v].drop 0).take (Tryz.prog.cellsOf 197)) = some P := L 0 _ rfl
 have y : DataW.trod _ pg0 W _ _ _ n6 57 (([a, c, d, g, i, j, k, m, n, o, q, s, t, u, v].drop 10).take (Tryz.prog.cellsOf 57)) = some Q := L 1 _ rfl
 simp only [Uj, Fx, List.drop, List.take] at w y
 obtain ⟨aa, n7, _, a1, a7, G, M⟩ := dm Tryz.underlying197 w
 obtain ⟨R, T, rfl⟩ := KP G
 have A : DataW.trod _ pg0 W _ _ _ n7 108 (([a, c, d, g, i, j, k, m, n, o].drop 0).take (Tryz.prog.cellsOf 108)) = some R := M 0 _ rfl
 have D : DataW.trod _ pg0 W _ _ _ n7 78 (([a, c, d, g, i, j, k, m, n, o].drop 9).take (Tryz.prog.cellsOf 78)) = some T := M 1 _ rfl
 simp only [AM, VP, List.drop, List.take] at A D
 obtain ⟨s8, e8, b8⟩ := FC _ _ _ _ _ _ _ _ _ A
 simp only [kG, kC, bG, dn] at e8
 obtain ⟨rfl, rfl, rfl, rfl, rfl, rfl, rfl, rfl, rfl⟩ := e8
 obtain ⟨v9, s9, e9, q9, b9⟩ := qZ WK (by decide) YE Tryz.underlying78 D
 simp only [bG, dn] at e9
 obtain rfl := e9
 obtain ⟨q9, g9⟩ := Lf.Sl.all q9
 have b7 := aU (fun z => Rows.uptoBulk z.1) a1
 obtain ⟨a6, I, U⟩ := NH _ _ _ _ _ _ _ _ _ y
 obtain ⟨v10, J, I⟩ := I.out
 simp only [bG, dn] at J
 obtain ⟨rfl, rfl, rfl, rfl, rfl⟩ := J
 have b6 := aU (fun z => Rows.uptoBulk z.1) Z
 refine ⟨⟨⟨s8, s9⟩, a6⟩, ⟨oR.mk ⟨_, _, rfl, q9, I⟩, g9⟩, ?_⟩
 simp only [List.map, Rows.uptoBulk, Rows.uptoBulkAll, xa] at b8 b9 b7 U b6 ⊢
 omega
theorem U8 : Tryz.prog.cellsOf 50 = 1 := by kernel_rfl
theorem Ox : Tryz.prog.cellsOf 202 = 8 := by kernel_rfl
theorem Zt {α : Type} {l : List α} (h : l.length = 8) : ∃ a0 a a2 a3 a4 a5 c d, l = [a0, a, a2, a3, a4, a5, c, d] := by
 match l, h with
 | [a0, a, a2, a3, a4, a5, c, d], _ => exact ⟨a0, a, a2, a3, a4, a5, c, d, rfl⟩
theorem Kp : Tryz.prog.cellsOf 22 = 1 := by kernel_rfl
def Ar (x : uJ) : Nat := qk x.kA + Ca x.lp + rc qL x.qE + 1
def YH (x : uJ) : Prop := True
theorem V9 : Jq pg0 202 (SK ve YH) Ar := by
 intro H eh W base sp hd fuel cs x h
 obtain ⟨Y, n11, _, I, G, t, s⟩ := dm Tryz.underlying202 h
 obtain ⟨v, w, y, rfl⟩ := Uu t
 obtain ⟨a, c, d, g, i, j, k, m, rfl⟩ := Zt (G.trans Ox)
 have n : DataW.trod _ pg0 W _ _ _ n11 28 (([a, c, d, g, i, j, k, m].drop 0).take (Tryz.prog.cellsOf 28)) = some v := s 0 _ rfl
 have o : DataW.trod _ pg0 W _ _ _ n11 57 (([a, c, d, g, i, j, k, m].drop 2).take (Tryz.prog.cellsOf 57)) = some w := s 1 _ rfl
 have q : DataW.trod _ pg0 W _ _ _ n11 22 (([a, c, d, g, i, j, k, m].drop 7).take (Tryz.prog.cellsOf 22)) = some y := s 2 _ rfl
 simp only [Kp, AP, Fx, List.drop, List.take] at n o q
 obtain ⟨R, A, L⟩ := CP _ _ _ _ _ _ _ _ _ n
 simp only [kC, bG, dn] at A
 obtain ⟨rfl, rfl⟩ := A
 obtain ⟨T, u, M⟩ := NH _ _ _ _ _ _ _ _ _ o
 obtain ⟨Z, D, u⟩ := u.out
 simp only [bG, dn] at D
 obtain ⟨rfl, rfl, rfl, rfl, rfl⟩ := D
 obtain ⟨a1, U, E, Q, P⟩ := qZ AM (by decide) FC.rel gJ q
 simp only [bG, dn] at E
 obtain rfl := E
 have J := aU (fun z => Rows.uptoBulk z.1) I
 refine ⟨⟨R, T, U⟩, ⟨ve.mk ⟨_, _, rfl, u, Q⟩, trivial⟩, ?_⟩
 simp only [List.map, Rows.uptoBulk, Rows.uptoBulkAll, Ar] at L M P J ⊢
 omega
theorem PO : Tryz.prog.cellsOf 34 = 1 := by kernel_rfl
theorem V5 : Tryz.prog.cellsOf 64 = 4 := by kernel_rfl
theorem VH : Tryz.prog.cellsOf 62 = 1 := by kernel_rfl
theorem Yi : H0 pg0 62 (fun n : Int => [.int .i64 n]) (fun _ => 0) := PV Tryz.underlying62
theorem VZ : Tryz.prog.cellsOf 45 = 1 := by kernel_rfl
theorem Nl : Tryz.prog.cellsOf 140 = 12 := by kernel_rfl
theorem PE : Tryz.prog.cellsOf 38 = 3 := by kernel_rfl
def JX (x : kF) : Nat := qk x.kA + x.ly.size
theorem Yd : H0 pg0 38 kO JX := by
 intro H g W base sp j fuel cs x h
 obtain ⟨xs, n, _, rfl, q, hlen, k⟩ := dm Tryz.underlying38 h
 obtain ⟨t, u, rfl⟩ := KP hlen
 obtain ⟨a, c1, c2, rfl⟩ := Uu (q.trans PE)
 have i : DataW.trod g pg0 W base sp j n 28 (([a, c1, c2].drop 0).take (Tryz.prog.cellsOf 28)) = some t := k 0 _ rfl
 have h1 : DataW.trod g pg0 W base sp j n 9 (([a, c1, c2].drop 2).take (Tryz.prog.cellsOf 9)) = some u := k 1 _ rfl
 simp only [AP, HF, List.drop, List.take] at i h1
 obtain ⟨s, c, m⟩ := CP _ _ _ _ _ _ _ _ _ i
 obtain ⟨s1, d, o⟩ := I4 _ _ _ _ _ _ _ _ _ h1
 simp only [kC, bG, dn] at c d
 obtain ⟨rfl, rfl⟩ := c
 obtain rfl := d
 refine ⟨⟨s, s1⟩, rfl, ?_⟩
 simp only [List.map, Rows.uptoBulk, Rows.uptoBulkAll, JX] at m o ⊢
 omega
theorem Yp {α : Type} {l : List α} (h : l.length = 12) : ∃ a0 d a2 a3 a4 a5 g i j a9 a c, l = [a0, d, a2, a3, a4, a5, g, i, j, a9, a, c] := by
 match l, h with
 | [a0, d, a2, a3, a4, a5, g, i, j, a9, a, c], _ => exact ⟨a0, d, a2, a3, a4, a5, g, i, j, a9, a, c, rfl⟩
def FJ (x : kY) : Nat := qL x.kB + JX x.kF
theorem X0 : H0 pg0 140 lf FJ := by
 intro H u W base sp w fuel cs x h
 obtain ⟨xs, n, _, rfl, D, hlen, y⟩ := dm Tryz.underlying140 h
 obtain ⟨G, I, rfl⟩ := KP hlen
 obtain ⟨d, c1, c2, g, i, j, k, m, o, q, a, c, rfl⟩ := Yp (D.trans Nl)
 have v : DataW.trod u pg0 W base sp w n 108 (([d, c1, c2, g, i, j, k, m, o, q, a, c].drop 0).take (Tryz.prog.cellsOf 108)) = some G := y 0 _ rfl
 have h1 : DataW.trod u pg0 W base sp w n 38 (([d, c1, c2, g, i, j, k, m, o, q, a, c].drop 9).take (Tryz.prog.cellsOf 38)) = some I := y 1 _ rfl
 simp only [AM, PE, List.drop, List.take] at v h1
 obtain ⟨E, s, z⟩ := FC _ _ _ _ _ _ _ _ _ v
 obtain ⟨s1, t, A⟩ := Yd _ _ _ _ _ _ _ _ _ h1
 simp only [kG, kO, kC, bG, dn] at s t
 obtain ⟨rfl, rfl, rfl, rfl, rfl, rfl, rfl, rfl, rfl⟩ := s
 obtain ⟨rfl, rfl, rfl⟩ := t
 refine ⟨⟨E, s1⟩, rfl, ?_⟩
 simp only [List.map, Rows.uptoBulk, Rows.uptoBulkAll, FJ] at z A ⊢
 omega
def Av (x : xd) : Nat := x.S.mg.Name.size + rc xa x.S.mg.mY + rc Ar x.S.mg.oX + 1 + x.S.od.size + rc qL x.S.lL + rc qL x.S.Shown + rc qk x.S.mG + rc qk x.S.sI + 1 + Ca x.F + rc qk x.O.lV + rc FJ x.O.lW + 1 + rc qL x.mY + 1
theorem Zu : Tryz.prog.readableRec 96 = true ∧ 96 < Tryz.prog.types.size := ⟨by kernel_rfl, gG (by kernel_rfl)⟩
theorem BH (c : kB) : uI c = qL c := by unfold uI qL qk; omega
theorem Py {α : Type} (sz : α → Nat) (h : ∀ a, 2 ≤ sz a) : ∀ l : List α, 2 * l.length ≤ rc sz l
 | [] => ej _
 | a :: l => by have := Py sz h l; have := h a; simp only [rc, bE, ee, aH] at *; omega
theorem DC (y : nR) : xa y = qL y.Signed.kB + rc (fun _ : Int => 0) y.Signed.Tag + 1 + Ca y.lp + 1 := rfl
theorem OG (y : uJ) : Ar y = qk y.kA + Ca y.lp + rc qL y.qE + 1 := rfl
theorem Ic : ∀ l : List kB, xw l ≤ 21 * rc qL l
 | [] => ej _
 | c :: l => by have := Ic l; rw [xw, BH]; simp only [rc, bE, ee] at *; omega
theorem PI : ∀ l : List nR, EO l ≤ 21 * rc xa l
 | [] => ej _
 | x :: l => by
  have := PI l
  have := AS (fun _ : Int => 0) x.Signed.Tag
  rw [EO, BH]
  have e := DC x
  simp only [rc, bE, ee] at *; omega
theorem Qn : ∀ l : List uJ, Dn l ≤ 21 * rc Ar l
 | [] => ej _
 | x :: l => by
  have := Qn l
  have := Ic x.qE
  rw [Dn]
  have e := OG x
  unfold qk at e
  have a : rc Ar (x :: l) = max 1 (Ar x) + rc Ar l := rfl
  omega
theorem TK (x : mg) (g : x.Name.size ≤ 1048576) (h1 : rc xa x.mY ≤ 1048576) (h : rc Ar x.oX ≤ 1048576) : PG x ∧ x.mY.length ≤ 600000 ∧ Ns x ≤ 1000000000 := by
 have c1 := Py xa (fun y => by rw [DC]; omega) x.mY
 have c2 := AS Ar x.oX
 have g1 : ∀ y ∈ x.mY, qL y.Signed.kB ≤ 1048576 ∧ mB y.lp ≤ 1048576 := fun y a => by
  have := FM (sz := xa) a
  have e := DC y
  have := Ev y.lp
  omega
 have g2 : ∀ y ∈ x.oX, mB y.lp ≤ 1048576 ∧ rc qL y.qE ≤ 1048576 := fun y a => by
  have := FM (sz := Ar) a
  have e := OG y
  have := Ev y.lp
  omega
 refine ⟨{ YA := by omega, Za := by omega, rel := fun y a => ?_, Zi := fun y a => ?_, Zy := fun y a => ?_, Zx := fun y a => ?_, ZH := fun y a c d => ?_ }, by omega, ?_⟩
 ·have := (g1 y a).2; omega
 ·have := (g2 y a).1; omega
 ·have := (g2 y a).2; have := AS qL y.qE; omega
 ·have := (g1 y a).1; rw [BH]; omega
 ·have := (g2 y a).2; have := FM (sz := qL) d; rw [BH]; omega
 ·have := PI x.mY; have := Qn x.oX; unfold Ns; omega
theorem IX : ∀ l : List kA, xv l ≤ 6 * rc qk l
 | [] => ej _
 | r :: l => by
  have := IX l
  have a : rc qk (r :: l) = max 1 (qk r) + rc qk l := rfl
  have c : qk r = r.kI.size + r.kU.size := rfl
  rw [xv]; omega
def MY (x : ur) : Nat := x.mg.Name.size + rc xa x.mg.mY + rc Ar x.mg.oX + 1 + x.od.size + rc qL x.lL + rc qL x.Shown + rc qk x.mG + rc qk x.sI + 1
theorem VI (s : ur) (h : MY s ≤ 1048576) : SQ s := by
 unfold MY at h
 have a := TK s.mg (by omega) (by omega) (by omega)
 have c1 := Ic s.lL
 have c2 := Ic s.Shown
 have g := IX s.mG
 have i := IX s.sI
 have c := AS qk s.mG
 have d := AS qk s.sI
 exact { p := a.1, go := a.2.2, acc := by omega, sh := by omega, wl := by omega, al := by omega, YT := by omega, ask := by omega, peer := by omega }
theorem O9 (x : xd) (h : Av x ≤ 1048576) : sc x = some true := by
 unfold Av at h
 have g := Ev x.F
 have e : ∀ s : kY, FJ s = qL s.kB + JX s.kF := fun _ => rfl
 exact H2 x.S x.F x.O x.mY (VI _ (by unfold MY; omega)) (by unfold Gd; omega) (fun s d => by have := FM (sz := FJ) d; have := e s; rw [BH]; omega) (by have := AS FJ x.O.lW; omega) (by have := AS qL x.mY; omega) (fun c a => by have := FM (sz := qL) a; rw [BH]; omega)
theorem own : ownKnob Tryz.prog.godebug = none := by kernel_rfl
theorem T9 : laidOutB pg0 = true := by kernel_rfl
theorem TW (H : Type) (enc : TypeId × Value → H) (W : World) (base : Nat) (args : Array Value) (ds gs : List (DataW H)) (before : List MemPlace) (ao : ∀ (j : Nat) t v, Tryz.f9.params[j]? = some t → args[j]? = some v → Value.okWide pg0 W .any base t v) (hW : DataW.Whole enc pg0 Tryz.f9.params.toList Rows.outcomeProvesSpec.vars false W args.toList ds gs before) (hk : Rows.uptoSmall H (ds ++ gs) = true) :
  Calls pg0 9 args W fun e W' => ∃ v, e = .returned v ∧ Rows.outcomeProvesSpec.post enc pg0 Tryz.f9 false true false false W args v W' := by
 have eL := hW
 obtain ⟨p, q, eI, hV, rfl, hb, hc⟩ := hW
 have hA : DataW.TrodAll enc pg0 W 0 (fun _ => true) true Tryz.f9.params.toList args.toList ds p := eI
 have hr : ∀ t ∈ Tryz.f9.params.toList, Tryz.prog.readableRec t = true ∧ t < Tryz.prog.types.size := by
  rw [Tryz.params9]
  intro t ht
  simp only [aQ, da, fh] at ht
  subst ht
  exact Zu
 rw [Tryz.params9] at hA ao
 obtain ⟨v0, hf, d0, h9, p0, q0, eN, rfl, rfl, h0, r0⟩ := trodAll_cons hA
 obtain ⟨rfl, rfl, rfl⟩ := trodAll_nil r0
 obtain rfl : args = #[v0] := by cases args; simp_all
 obtain ⟨rfl, rfl⟩ := trodVars_none hV
 have k0 := ao 0 96 v0 rfl rfl
 obtain ⟨bz, rfl, _⟩ := okWide_struct Tryz.underlying96 k0
 obtain ⟨ha, cp⟩ := h0
 obtain ⟨eR, rfl⟩ : ∃ l : List Value, bz = l.toArray := ⟨bz.toList, by simp⟩
 change DataW.trod _ _ _ _ _ _ _ _ eR = some _ at cp
 obtain ⟨h5, n15, _, cS, cs, ai, J⟩ := dm Tryz.underlying96 cp
 obtain ⟨ba, bc, bd, bf, rfl⟩ := T6 ai
 obtain ⟨d, a, c, o, s, g, h, i, k, I, A, D, E, x, u, w, m, n, y, rfl⟩ := Yh (cs.trans Vr)
 have M : DataW.trod _ pg0 W _ _ _ n15 54 (([d, a, c, o, s, g, h, i, k, I, A, D, E, x, u, w, m, n, y].drop 0).take (Tryz.prog.cellsOf 54)) = some ba := J 0 _ rfl
 have P : DataW.trod _ pg0 W _ _ _ n15 57 (([d, a, c, o, s, g, h, i, k, I, A, D, E, x, u, w, m, n, y].drop 9).take (Tryz.prog.cellsOf 57)) = some bc := J 1 _ rfl
 have Q : DataW.trod _ pg0 W _ _ _ n15 64 (([d, a, c, o, s, g, h, i, k, I, A, D, E, x, u, w, m, n, y].drop 14).take (Tryz.prog.cellsOf 64)) = some bd := J 2 _ rfl
 have R : DataW.trod _ pg0 W _ _ _ n15 22 (([d, a, c, o, s, g, h, i, k, I, A, D, E, x, u, w, m, n, y].drop 18).take (Tryz.prog.cellsOf 22)) = some bf := J 3 _ rfl
 simp only [Kp, VR, Fx, V5, List.drop, List.take] at M P Q R
 obtain ⟨h6, n16, _, dk, h2, aj, G⟩ := dm Tryz.underlying54 M
 obtain ⟨bh, bi, bj, bk, bl, bn, bo, rfl⟩ := Y8 aj
 have T : DataW.trod _ pg0 W _ _ _ n16 52 (([d, a, c, o, s, g, h, i, k].drop 0).take (Tryz.prog.cellsOf 52)) = some bh := G 0 _ rfl
 have U : DataW.trod _ pg0 W _ _ _ n16 9 (([d, a, c, o, s, g, h, i, k].drop 3).take (Tryz.prog.cellsOf 9)) = some bi := G 1 _ rfl
 have Y : DataW.trod _ pg0 W _ _ _ n16 3 (([d, a, c, o, s, g, h, i, k].drop 4).take (Tryz.prog.cellsOf 3)) = some bj := G 2 _ rfl
 have Z : DataW.trod _ pg0 W _ _ _ n16 22 (([d, a, c, o, s, g, h, i, k].drop 5).take (Tryz.prog.cellsOf 22)) = some bk := G 3 _ rfl
 have a1 : DataW.trod _ pg0 W _ _ _ n16 22 (([d, a, c, o, s, g, h, i, k].drop 6).take (Tryz.prog.cellsOf 22)) = some bl := G 4 _ rfl
 have a6 : DataW.trod _ pg0 W _ _ _ n16 34 (([d, a, c, o, s, g, h, i, k].drop 7).take (Tryz.prog.cellsOf 34)) = some bn := G 5 _ rfl
 have a7 : DataW.trod _ pg0 W _ _ _ n16 34 (([d, a, c, o, s, g, h, i, k].drop 8).take (Tryz.prog.cellsOf 34)) = some bo := G 6 _ rfl
 simp only [Kp, JJ, PO, Vq, HF, List.drop, List.take] at T U Y Z a1 a6 a7
 obtain ⟨h7, n17, _, e0, h3, ak, ah⟩ := dm Tryz.underlying52 T
 obtain ⟨bp, bq, bs, rfl⟩ := Uu ak
 have a8 : DataW.trod _ pg0 W _ _ _ n17 9 (([d, a, c].drop 0).take (Tryz.prog.cellsOf 9)) = some bp := ah 0 _ rfl
 have aa : DataW.trod _ pg0 W _ _ _ n17 49 (([d, a, c].drop 1).take (Tryz.prog.cellsOf 49)) = some bq := ah 1 _ rfl
 have ab : DataW.trod _ pg0 W _ _ _ n17 50 (([d, a, c].drop 2).take (Tryz.prog.cellsOf 50)) = some bs := ah 2 _ rfl
 simp only [U9, U8, HF, List.drop, List.take] at a8 aa ab
 obtain ⟨au, c0, e5⟩ := I4 _ _ _ _ _ _ _ _ _ a8
 simp only [bG, dn] at c0
 obtain rfl := c0
 obtain ⟨hd, av, c3, ap, e6⟩ := qZ Oy (by decide) V8 Tryz.underlying49 aa
 simp only [bG, dn] at c3
 obtain rfl := c3
 obtain ⟨ap, g19⟩ := Lf.Sl.all ap
 obtain ⟨v20, aw, c4, aq, e7⟩ := qZ Ox (by decide) V9 Tryz.underlying50 ab
 simp only [bG, dn] at c4
 obtain rfl := c4
 obtain ⟨aq, YU⟩ := Lf.Sl.all aq
 have e4 := aU (fun z => Rows.uptoBulk z.1) e0
 obtain ⟨ay, c5, e8⟩ := I4 _ _ _ _ _ _ _ _ _ U
 simp only [bG, dn] at c5
 obtain rfl := c5
 obtain ⟨az, c6, e9⟩ := NL _ _ _ _ _ _ _ _ _ Y
 simp only [bG, dn] at c6
 obtain rfl := c6
 obtain ⟨v23, aE, c7, fb, ea⟩ := qZ AM (by decide) FC.rel gJ Z
 simp only [bG, dn] at c7
 obtain rfl := c7
 obtain ⟨v24, b0, c8, fk, eb⟩ := qZ AM (by decide) FC.rel gJ a1
 simp only [bG, dn] at c8
 obtain rfl := c8
 obtain ⟨v25, b1, c9, fo, ef⟩ := qZ AP (by decide) CP.rel jC a6
 simp only [bG, dn] at c9
 obtain rfl := c9
 obtain ⟨v26, b2, ca, fs, eg⟩ := qZ AP (by decide) CP.rel jC a7
 simp only [bG, dn] at ca
 obtain rfl := ca
 have e3 := aU (fun z => Rows.uptoBulk z.1) dk
 obtain ⟨b3, ar, eh⟩ := NH _ _ _ _ _ _ _ _ _ P
 obtain ⟨v27, cb, ar⟩ := ar.out
 simp only [bG, dn] at cb
 obtain ⟨rfl, rfl, rfl, rfl, rfl⟩ := cb
 obtain ⟨h8, n28, _, e1, h4, an, L⟩ := dm Tryz.underlying64 Q
 obtain ⟨bt, bu, bw, bx, rfl⟩ := T6 an
 have ad : DataW.trod _ pg0 W _ _ _ n28 3 (([u, w, m, n].drop 0).take (Tryz.prog.cellsOf 3)) = some bt := L 0 _ rfl
 have ae : DataW.trod _ pg0 W _ _ _ n28 62 (([u, w, m, n].drop 1).take (Tryz.prog.cellsOf 62)) = some bu := L 1 _ rfl
 have af : DataW.trod _ pg0 W _ _ _ n28 34 (([u, w, m, n].drop 2).take (Tryz.prog.cellsOf 34)) = some bw := L 2 _ rfl
 have ag : DataW.trod _ pg0 W _ _ _ n28 45 (([u, w, m, n].drop 3).take (Tryz.prog.cellsOf 45)) = some bx := L 3 _ rfl
 simp only [JJ, PO, VZ, VH, List.drop, List.take] at ad ae af ag
 obtain ⟨b4, cc, en⟩ := NL _ _ _ _ _ _ _ _ _ ad
 simp only [bG, dn] at cc
 obtain rfl := cc
 obtain ⟨b5, cf, er⟩ := Yi _ _ _ _ _ _ _ _ _ ae
 simp only [bG, dn] at cf
 obtain rfl := cf
 obtain ⟨v31, b6, ch, fv, ey⟩ := qZ AP (by decide) CP.rel jC af
 simp only [bG, dn] at ch
 obtain rfl := ch
 obtain ⟨v32, b7, ck, gg, ez⟩ := qZ Nl (by decide) X0.rel Tryz.underlying45 ag
 simp only [bG, dn] at ck
 obtain rfl := ck
 have ei := aU (fun z => Rows.uptoBulk z.1) e1
 obtain ⟨v33, b9, cm, gR, eA⟩ := qZ AM (by decide) FC.rel gJ R
 simp only [bG, dn] at cm
 obtain rfl := cm
 have e2 := aU (fun z => Rows.uptoBulk z.1) cS
 simp only [List.map, Rows.uptoBulk, Rows.uptoBulkAll] at e5 e6 e7 e4 e8 e9 ea eb ef eg e3 eh en er ey ez ei eA e2
 have z0 : Av (⟨⟨⟨au, av, aw⟩, ay, az, aE, b0, b1, b2⟩, b3, ⟨b4, b5, b6, b7⟩, b9⟩ : xd) ≤ Rows.uptoBulk d0 := by simp only [Av]; omega
 have hB : Rows.uptoBulkAll ([d0] ++ []) ≤ 1048576 := gG hk
 simp only [ct, Rows.uptoBulkAll] at hB
 have hm : sc (⟨⟨⟨au, av, aw⟩, ay, az, aE, b0, b1, b2⟩, b3, ⟨b4, b5, b6, b7⟩, b9⟩ : xd) = some true := O9 _ (by omega)
 have hg := Fy (⟨⟨⟨au, av, aw⟩, ay, az, aE, b0, b1, b2⟩, b3, ⟨b4, b5, b6, b7⟩, b9⟩ : xd) a c g h i k x m n y true W ap aq fb fk fo fs ar fv gg gR hm
 refine cD hg fun e W' ⟨he, hx⟩ => ?_
 subst he
 exact ⟨_, rfl, Qy T9 hr rfl eL hx (fun _ _ _ => trodAll_cons_mk (shut_bool Tryz.underlying4 _) trodAll_mk0) rfl rfl (ok_one (by kernel_rfl) rfl (okWide_bool_mk Tryz.underlying4 _))⟩
set_option maxRecDepth 100000 in
theorem Xy (os : Os) (started : os.Started) (H : Type) (enc : TypeId × Value → H) (F : Stop.Interp) :
  ReturnsInHanded {} Tryz.checked os 9 .any ((Rows.OpenSpec.upto Rows.outcomeProvesSpec).pre6 enc pg0 Tryz.f9 Rows.outcomeProvesUptoRow.domain false) (((Rows.OpenSpec.upto Rows.outcomeProvesSpec).at F).post enc pg0 Tryz.f9 false true false false) := by
 refine returnsInHanded_of_cond (C := Tryz.checked) (s := Rows.OpenSpec.upto Rows.outcomeProvesSpec) (k := Rows.uptoSmall) rfl own started (by kernel_rfl) Tryz.func9
  (OpenSpec.witness (enc := enc) (C := Tryz.checked) (s := Rows.OpenSpec.upto Rows.outcomeProvesSpec) (k := Rows.uptoSmall) rfl false ⟨#[], #[.agg #[.string ⟨#[]⟩, .slice none 0 0, .slice none 0 0, .string ⟨#[]⟩, .int .i64 0, .slice none 0 0, .slice none 0 0, .slice none 0 0, .slice none 0 0, .int .i64 0, .int .i64 0, .string ⟨#[]⟩, .string ⟨#[]⟩, .slice none 0 0, .int .i64 0, .int .i64 0, .slice none 0 0, .slice none 0 0, .slice none 0 0]], []⟩ 8 (by kernel_rfl) (by kernel_rfl) (by kernel_rfl)
   (x := ([.agg [.agg [.agg [.lit (.string []), .nil, .nil], .lit (.string []), .lit (.int .i64 0), .nil, .nil, .nil, .nil], .agg [.lit (.int .i64 0), .lit (.int .i64 0), .agg [.lit (.string []), .lit (.string [])], .nil], .agg [.lit (.int .i64 0), .lit (.int .i64 0), .nil, .nil], .nil]], [], [])) (by kernel_rfl) rfl (by kernel_rfl)) ?_
 intro W base args c gs before a d _ hk _
 exact TW H enc W base args c gs before a d hk
theorem Yz {a b : Bool} (ha : a = true) (c : b = true) : (a && b) = true := by rw [ha, c]; rfl
set_option maxHeartbeats 40000000 in
theorem Vb : joinedFacts Tryz.checked.prog 9 Tryz.f9 (Rows.OpenSpec.upto Rows.outcomeProvesSpec).bare Rows.outcomeProvesUptoRow = true := by
 unfold joinedFacts
 repeat' with_reducible refine Yz ?_ ?_
 all_goals as_aux_lemma => kernel_rfl
theorem proved : Rows.OutcomeProvesUptoSaid :=
 OpenClaim.holds_of_cond 9 Tryz.f9 rfl rfl rfl rfl rfl rfl rfl ⟨rfl, rfl, rfl, rfl, rfl⟩ rfl rfl rfl rfl rfl (by kernel_rfl) Tryz.func9 Vb
  (gG (by kernel_rfl)) (by unfold Func.isWrapper; first | (rw [aK (by decide +kernel)]; kernel_rfl) | (rw [aJ (by decide +kernel)]; exact ⟨rfl, rfl⟩))
  (fun os started H enc _ F => Xy os started H enc F)
end Go.Proofs.YtbnbdigcbldfhaaGreat
