/- a part of a proof of OutcomeGets -/
import Derived.Test.YtbnbdigcbldfhaaGreatKhe
import Derived.Test.YtbnbdigcbldfhaaGreatRtTe
import Derived.Test.YtbnbdigcbldfhaaGreatRows
import Derived.WalkKit
import Derived.ProofKit
import Derived.OpenShut
import Derived.JoinedCond
import Derived.Deep.Slices
import Derived.Carry
import Derived.ChangeArms
import Derived.ChangeSame
import Derived.Test.YtbnbdigcbldfhaaGreatO8W3e
set_option linter.all false
namespace Go.Proofs.YtbnbdigcbldfhaaGreat
open Go.Proofs.Tryz renaming prog → pg0
open Go.RowKit
def Aj (n : Int) : List Int := if n < 128 then [n] else [n % 128 + 128, n / 128]
theorem qG (n : Int) : (Aj n).length ≤ 2 ∧ 1 ≤ (Aj n).length := by unfold Aj; split <;> simp
def RP (k : Nat) : Bool := decide (IntKind.u8.wrap (BitVec.ofInt (IntKind.bits .u8) (IntKind.u8.wrap (k : Int)) ||| BitVec.ofInt (IntKind.bits .u8) 128).toNat = (k : Int) % 128 + 128) && decide (Int.fdiv (k : Int) (2 ^ min (Int.toNat 7) (IntKind.bits .i64)) = (k : Int) / 128) && decide (IntKind.u8.wrap ((k : Int) / 128) = (k : Int) / 128) && decide (IntKind.u8.wrap (IntKind.i64.wrap (128 + (Int.tmod (k : Int) 128))) = (k : Int) % 128 + 128) && decide (IntKind.i64.wrap (Int.tdiv (k : Int) 128) = (k : Int) / 128)
theorem Q7 : (List.range 300).all RP = true := by decide +kernel
theorem Od {n : Int} (g : 0 ≤ n) (h1 : n < 300) : IntKind.u8.wrap (BitVec.ofInt (IntKind.bits .u8) (IntKind.u8.wrap n) ||| BitVec.ofInt (IntKind.bits .u8) 128).toNat = n % 128 + 128 ∧ Int.fdiv n (2 ^ min (Int.toNat 7) (IntKind.bits .i64)) = n / 128 ∧ IntKind.u8.wrap (n / 128) = n / 128 ∧ IntKind.u8.wrap (IntKind.i64.wrap (128 + (Int.tmod n 128))) = n % 128 + 128 ∧ IntKind.i64.wrap (Int.tdiv n 128) = n / 128 := by
 obtain ⟨k, rfl⟩ : ∃ k : Nat, n = k := ⟨n.toNat, by omega⟩
 have := ew.1 Q7 k (List.mem_range.2 (by omega))
 unfold RP at this
 simp only [az, bk] at this
 obtain ⟨⟨⟨⟨a, b⟩, c⟩, d⟩, e⟩ := this
 exact ⟨a, b, c, d, e⟩
theorem G5 {l : List Int} {n : Int} (d : 0 ≤ n) (h1 : n < 300) (g : l.length ≤ 99000) : kX l n = some (true, l ++ Aj n) := by
 unfold Aj
 by_cases h : n < 128
 ·rw [aj h]; exact BT d h (by omega)
 ·obtain ⟨a, b, c, _, _⟩ := Od d h1
  rw [ai h]
  unfold kX
  rw [ai (by simp; omega), show jX = 18446744073709551614 + 1 + 1 by rw [nG], mS, aj (by simp; omega), a, Ar (by simp; omega), aa, b, mS, ai (by simp; omega), c, Ar (by simp; omega)]
  simp
theorem G3 {n : Int} (a : 0 ≤ n) (h1 : n < 300) : nv n = some (kT (Aj n)) := by
 unfold Aj
 by_cases h : n < 128
 ·rw [aj h]; exact EW a h
 ·obtain ⟨_, _, c, d, e⟩ := Od a h1
  rw [ai h]
  unfold nv
  rw [show jX = 18446744073709551614 + 1 + 1 by rw [nG], pj, aj (by simp; omega), d, AR, show zS = kT [] from rfl, pp _ _ (by simp), aa, e, pj, ai (by simp; omega), c, AR, pp _ _ (by simp)]
  simp
theorem Gu {l : List Int} {s : ByteArray} (h : kR s = true) (a : l.length ≤ 99000) : pD l s = some (true, l ++ qS s) := by
 have h1 := lB h
 unfold pD
 simp only [qE, aa, h, aD, Cg h1.2]
 unfold uQ
 rw [ai (by rw [lQ]; simp; omega)]
 rw [lQ, BT (by omega) (by omega) (by omega)]
 simp only [aa]
 rw [Ar (by simp [lQ]; omega)]
 simp [qS]
theorem PV {l : List Int} {r : ja} (h : kB r = true) (c : l.length ≤ 98000) : nm l r = some (true, l ++ nf r) := by
 have a := h
 simp only [kB, az] at h
 have h1 := lB h.1
 unfold nm
 simp only [rY, aa, a, aD]
 rw [Gu h.1 (by omega)]
 simp only [aa, aD]
 rw [Gu h.2 (by simp [nO]; omega)]
 simp [nf]
def zI (s : jv) : List Int := ov s.jb ++ qS s.jd.jL
def sB (s : jv) : Bool := kc s.jb && jt s.jd.ja s.jb.Head && kR s.jd.jL
theorem Eo {s : jv} (h : sB s = true) : (zI s).length ≤ 217 := by
 simp only [sB, az] at h
 have h1 := BL h.1.1
 have a := lB h.2
 unfold zI
 rw [ah, nO]; omega
theorem M6 {α : Type} (f : α → List Int) (k : Nat) : ∀ l : List α, (∀ x ∈ l, (f x).length ≤ k) → (l.flatMap f).length ≤ k * l.length
 | [], _ => by simp
 | x :: l, h => by
  have h1 := h x (by simp)
  have c := M6 f k l (fun y a => h y (by simp [a]))
  rw [ec, ah, aA, Nat.mul_add]; omega
theorem Qd (s : jv) : xv s = some (sB s) := by
 unfold xv sB
 rw [oe, qE]
 cases kc s.jb <;> cases jt s.jd.ja s.jb.Head <;> simp
theorem Jm : ∀ (l : List jv) (acc : List Int), l.all sB = true → acc.length + 217 * l.length ≤ 90000 → rc l acc = some (true, acc ++ l.flatMap zI)
 | [], acc, _, _ => by rw [rc]; simp
 | s :: l, acc, h, c => by
  rw [dI, az] at h
  have h1 := Eo h.1
  have a := h.1
  simp only [sB, az] at a
  have d := BL a.1.1
  simp only [aA] at c
  rw [rc, UC _ a.1.1, aa]
  unfold tF
  rw [Ar (by omega)]
  simp only [aa]
  rw [Gu a.2 (by simp; omega)]
  simp only [aa]
  rw [Jm l _ h.2 (by unfold zI at h1; simp at h1 ⊢; omega)]
  simp [zI]
def zz (l : List jv) : Bool := decide (l.length ≤ 256) && l.all sB
def wE (l : List jv) : List Int := Aj l.length ++ l.flatMap zI
theorem Dp {l : List jv} (h : zz l = true) : (wE l).length ≤ 56000 := by
 simp only [zz, az, bk] at h
 have h1 := M6 zI 217 l (fun x a => Eo (ew.1 h.2 x a))
 have := qG (l.length : Int)
 unfold wE
 rw [ah]; omega
theorem Me (f : jv → Option Bool) : ∀ (l : List jv) (i : Nat), nT f l i = vZ f l i
 | [], i => rfl
 | x :: l, i => by rw [nT, vZ, Me f l]
theorem Sq (f : jv → Option Bool) (p : jv → Bool) (l : List jv) (h : ∀ x ∈ l, f x = some (p x)) : pI l f = some (l.any p) := by
 unfold pI tT
 rw [Me]; exact KF f p l h
theorem LI (f : ja → Option Bool) : ∀ (l : List ja) (i : Nat), lq f l i = vZ f l i
 | [], i => rfl
 | x :: l, i => by rw [lq, vZ, LI f l]
theorem Si (f : ja → Option Bool) (p : ja → Bool) (l : List ja) (h : ∀ x ∈ l, f x = some (p x)) : mF l f = some (l.any p) := by
 unfold mF nC
 rw [LI]; exact KF f p l h
theorem Mr {α : Type} (p : α → Bool) (l : List α) : (l.any fun x => !p x) = !l.all p := by
 induction l with
 | nil => rfl
 | cons x l ih => rw [List.any_cons, dI, ih, Bool.not_and]
theorem TM (l : List jv) : xE [] l = some (if zz l = true then (true, wE l) else (false, [])) := by
 unfold xE zz
 by_cases h : l.length ≤ 256
 ·rw [ai (by simp; omega), Sq _ (fun s => !sB s) l (fun x _ => by unfold xc; rw [Qd]; rfl), Mr]
  simp only [aa]
  cases a : l.all sB
  ·simp
  ·simp only [aU, ae, aq]
   rw [G5 (by omega) (by omega) (by simp)]
   simp only [aa]
   have := qG (l.length : Int)
   rw [Jm l _ a (by simp; omega)]
   simp [h, wE]
 ·rw [aj (by simp; omega)]
  simp [h]
def FP (o : jI) : Bool := decide (0 ≤ o.State ∧ o.State ≤ 3 ∧ 0 ≤ o.lc ∧ o.lc ≤ 99 ∧ o.jM.length ≤ 64) && o.jM.all kB
theorem PS (o : jI) : wm o = some (FP o) := by
 unfold wm FP
 rw [Si _ (fun r => !kB r) o.jM (fun x _ => by unfold ur; rw [rY]; rfl), Mr]
 by_cases h1 : 0 ≤ o.State
 ·by_cases c : o.State ≤ 3
  ·by_cases d : 0 ≤ o.lc
   ·by_cases g : o.lc ≤ 99
    ·by_cases h : o.jM.length ≤ 64
     ·have a : (o.jM.length : Int) ≤ 64 := by omega
      simp [h1, c, d, g, h, a]
     ·have a : ¬ (o.jM.length : Int) ≤ 64 := by omega
      simp [h1, c, d, g, h, a]
    ·simp [h1, c, d, g]
   ·simp [h1, c, d]
  ·simp [h1, c]
 ·simp [h1]
def xl (o : jI) : List Int := Aj o.State ++ (Aj o.lc ++ (Aj o.jM.length ++ (o.jM.flatMap nf ++ wE o.jO)))
theorem Lz (c : List Int) (d : c.length ≤ 56000) : ∀ (l : List ja) (acc : List Int), l.all kB = true → acc.length + 34 * l.length ≤ 30000 → pY c l acc = some (true, acc ++ (l.flatMap nf ++ c))
 | [], acc, _, a => by
  rw [pY, Gf (by omega), aa]
  unfold tF
  rw [Ar (by simp at a; omega)]
  simp
 | r :: l, acc, h, a => by
  rw [dI, az] at h
  have h1 := lD h.1
  simp only [aA] at a
  rw [pY, PV h.1 (by omega), aa, Lz c d l _ h.2 (by simp; omega)]
  simp
theorem RI (o : jI) : sa [] o = some (if FP o = true ∧ zz o.jO = true then (true, xl o) else (false, [])) := by
 unfold sa
 rw [PS]
 simp only [aa]
 cases a : FP o
 ·simp
 ·simp only [aU, ae, aq]
  rw [TM]
  simp only [aa]
  cases g : zz o.jO
  ·simp
  ·simp only [aD, aU, ae, aq, and_self]
   simp only [FP, az, bk] at a
   obtain ⟨⟨c, a2, a3, a4, a5⟩, d⟩ := a
   have h := qG o.State
   have i := qG o.lc
   have j := qG (o.jM.length : Int)
   rw [G5 c (by omega) (by simp)]
   simp only [aa]
   rw [G5 a3 (by omega) (by simp; omega)]
   simp only [aa]
   rw [G5 (by omega) (by omega) (by simp; omega)]
   simp only [aa]
   rw [Lz _ (Dp g) o.jM _ d (by simp; omega)]
   simp [xl]
theorem JJ : ∀ (l : List jv) (acc : List Int), acc.length + 217 * l.length ≤ 900000 → ry l (kT acc) = some (if l.all sB = true then kT (acc ++ l.flatMap zI) else zS)
 | [], acc, _ => by rw [ry]; simp
 | s :: l, acc, d => by
  simp only [aA] at d
  rw [ry, rk, aa, tz, dI]
  have e : (if (!kc s.jb) = true then some true else some (!jt s.jd.ja s.jb.Head) : Option Bool) = some (!kc s.jb || !jt s.jd.ja s.jb.Head) := Kn
  rw [e]
  simp only [aa]
  have e : (if (!kc s.jb || !jt s.jd.ja s.jb.Head) = true then some true else some (!kR s.jd.jL) : Option Bool) = some ((!kc s.jb || !jt s.jd.ja s.jb.Head) || !kR s.jd.jL) := Kn
  rw [e]
  simp only [aa]
  have e : ((!kc s.jb || !jt s.jd.ja s.jb.Head) || !kR s.jd.jL) = !sB s := by unfold sB; cases kc s.jb <;> cases jt s.jd.ja s.jb.Head <;> cases kR s.jd.jL <;> rfl
  rw [e]
  cases c : sB s
  ·simp
  ·have h1 := Eo c
   have a := c
   simp only [sB, az] at a
   have g := BL a.1.1
   have h := lB a.2
   simp only [aU, ae, aq, cV]
   rw [rB _ a.1.1, aa, CY a.2, aa, pp _ _ (by rw [nO]; omega), aa]
   rw [show ov s.jb ++ qS s.jd.jL = zI s from rfl, pp _ _ (by omega), aa, JJ l _ (by simp; omega)]
   simp
theorem TJ (l : List jv) : xD l = some (if zz l = true then kT (wE l) else zS) := by
 unfold xD zz
 by_cases h : l.length ≤ 256
 ·have := qG (l.length : Int)
  rw [ai (by simp; omega), G3 (by omega) (by omega), aa, JJ l _ (by omega)]
  simp [h, wE]
 ·rw [aj (by simp; omega)]
  simp [h]
theorem Mf {l : List Int} (h : 1 ≤ l.length) : ke (kT l) zS = false := by
 cases l with
 | nil => simp at h
 | cons c l => exact Ke c l
theorem Jt (o : jI) : ∀ (l : List ja) (acc : List Int), acc.length + 34 * l.length ≤ 90000 → ra o l (kT acc) = some (if l.all kB = true ∧ zz o.jO = true then kT (acc ++ (l.flatMap nf ++ wE o.jO)) else zS)
 | [], acc, a => by
  rw [ra, TJ, aa]
  cases g : zz o.jO
  ·simp only [ae, aq, and_false]
   rw [aj (kK.2 rfl)]
  ·have h1 := Dp g
   have d : 1 ≤ (wE o.jO).length := by unfold wE; have := qG (o.jO.length : Int); rw [ah]; omega
   simp only [aD]
   rw [Mf d, pp _ _ (by omega)]
   simp
 | r :: l, acc, a => by
  simp only [aA] at a
  rw [ra, xS, aa, dI]
  cases c : kB r
  ·simp
  ·have h1 := lD c
   simp only [aU, ae, aq, cV]
   rw [AW c, aa, pp _ _ (by omega), aa, Jt o l _ (by simp; omega)]
   simp
theorem Tc (o : jI) : xz o = some (if FP o = true ∧ zz o.jO = true then kT (xl o) else zS) := by
 unfold xz FP
 by_cases h : 0 ≤ o.State ∧ o.State ≤ 3 ∧ 0 ≤ o.lc ∧ o.lc ≤ 99 ∧ o.jM.length ≤ 64
 ·obtain ⟨c, a2, a3, a4, a5⟩ := h
  have d := qG o.State
  have g := qG o.lc
  have i := qG (o.jM.length : Int)
  rw [ai (by simp; omega)]
  simp only [aa]
  rw [eO (show ¬ o.State > 3 by omega)]
  simp only [ae, aq, aa]
  rw [eO (show ¬ o.lc < 0 by omega)]
  simp only [ae, aq, aa]
  rw [eO (show ¬ o.lc > 99 by omega)]
  simp only [ae, aq, aa]
  rw [eO (show ¬ (o.jM.length : Int) > 64 by omega)]
  simp only [ae, aq]
  rw [G3 c (by omega), aa, G3 a3 (by omega), aa, pp _ _ (by omega), aa, G3 (by omega) (by omega), aa, pp _ _ (by simp; omega), aa, Jt o o.jM _ (by simp; omega)]
  simp [c, a2, a3, a4, a5, xl]
 ·have e : ∀ (a b : Bool), (if a = true then some true else some b : Option Bool) = some (a || b) := fun a b => Kn
  rw [e]
  simp only [aa]
  rw [e]
  simp only [aa]
  rw [e]
  simp only [aa]
  rw [e]
  simp only [aa]
  rw [aj]
  ·simp [h]
  ·simp only [dz, bk]; omega
theorem Ik : ∀ (l m A : List ja), l.length = m.length → ∃ b, pB (A ++ m) l A.length = some b ∧ uh (A ++ m) l A.length = some b ∧ (b = true ↔ l = m)
 | [], [], A, _ => ⟨true, rfl, rfl, by simp⟩
 | x :: l, y :: m, A, h => by
  rw [pB, uh, tX A y m _ rfl]
  simp only [aa]
  by_cases e : x = y
  ·subst e
   obtain ⟨b, h1, a, c⟩ := Ik l m (A ++ [x]) (by simpa using h)
   simp only [aC, de, ah, aA, bG, bW] at h1 a
   rw [jB.2 rfl]
   exact ⟨b, by simpa using h1, by simpa using a, by rw [c]; simp⟩
  ·have : jt x y = false := by rw [← cd, jB]; exact e
   rw [this]
   exact ⟨false, rfl, rfl, by simp [e]⟩
theorem Rx (l m : List ja) : ∃ b, tM l m = some b ∧ yV l m = some b ∧ (b = true ↔ l = m) := by
 unfold tM yV
 by_cases h : l.length = m.length
 ·obtain ⟨b, h1, a, c⟩ := Ik l m [] h
  have : ((l.length : Int) != (m.length : Int)) = false := by simp [h]
  rw [this]
  exact ⟨b, h1, a, c⟩
 ·have : ((l.length : Int) != (m.length : Int)) = true := by simp; omega
  rw [this]
  exact ⟨false, rfl, rfl, by simp; intro e; exact h (by rw [e])⟩
theorem Ip : ∀ (l m A : List jv), l.length = m.length → ∃ b, pG (A ++ m) l A.length = some b ∧ uw (A ++ m) l A.length = some b ∧ (b = true ↔ l = m)
 | [], [], A, _ => ⟨true, rfl, rfl, by simp⟩
 | x :: l, y :: m, A, h => by
  rw [pG, uw, tX A y m _ rfl]
  simp only [aa]
  by_cases e : x = y
  ·subst e
   obtain ⟨b, h1, a, c⟩ := Ip l m (A ++ [x]) (by simpa using h)
   simp only [aC, de, ah, aA, bG, bW] at h1 a
   rw [FQ.2 rfl]
   exact ⟨b, by simpa using h1, by simpa using a, by rw [c]; simp⟩
  ·have : AU x y = false := by rw [← cd, FQ]; exact e
   rw [this]
   exact ⟨false, rfl, rfl, by simp [e]⟩
theorem RL (l m : List jv) : ∃ b, tK l m = some b ∧ yq l m = some b ∧ (b = true ↔ l = m) := by
 unfold tK yq
 by_cases h : l.length = m.length
 ·obtain ⟨b, h1, a, c⟩ := Ip l m [] h
  have : ((l.length : Int) != (m.length : Int)) = false := by simp [h]
  rw [this]
  exact ⟨b, h1, a, c⟩
 ·have : ((l.length : Int) != (m.length : Int)) = true := by simp; omega
  rw [this]
  exact ⟨false, rfl, rfl, by simp; intro e; exact h (by rw [e])⟩
theorem Ni (a b : jI) : ∃ q, vd a b = some q ∧ uZ a b = some q ∧ (a = b → q = true) := by
 obtain ⟨x, h1, c, d⟩ := Rx a.jM b.jM
 obtain ⟨y, g, k2, h⟩ := RL a.jO b.jO
 unfold vd uZ
 rw [h1, c, g, k2]
 refine ⟨(a.State == b.State) && (a.lc == b.lc) && x && y, ?_, ?_, ?_⟩
 ·cases a.State == b.State <;> cases a.lc == b.lc <;> cases x <;> cases y <;> rfl
 ·cases a.State == b.State <;> cases a.lc == b.lc <;> cases x <;> cases y <;> rfl
 ·intro e
  subst e
  rw [d.2 rfl, h.2 rfl]
  simp
theorem ME : ∀ (l : List jv) (x : Int), (∀ s ∈ l, xG s.jb ≤ 1000000000) → ∃ r, tA l x = some r
 | [], x, _ => ⟨x, rfl⟩
 | s :: l, x, h => by
  rw [tA]
  obtain ⟨r, e⟩ := Px [s.jb] (by simp) (fun c a => by rw [aF] at a; rw [a]; exact h s (by simp))
  rw [e, aa]
  exact ME l _ (fun s d => h s (by simp [d]))
theorem GY : ∀ (l : List ja) (x : Int), ∃ r, tm l x = some r
 | [], x => ⟨x, rfl⟩
 | r :: l, x => by rw [tm]; exact GY l _
theorem My (o : jI) (h : ∀ s ∈ o.jO, xG s.jb ≤ 1000000000) : ∃ r, vE o = some r := by
 unfold vE Ap
 obtain ⟨r, e⟩ := ME o.jO 0 h
 rw [e, aa]
 exact GY _ _
theorem F9 (I : vC = some true) (o p : jI) (b : List Int) (A : B8 b) (L : ∀ s ∈ o.jO, xG s.jb ≤ 1000000000) (hp : ∀ s ∈ p.jO, xG s.jb ≤ 1000000000) : qW o p b = some true := by
 unfold qW
 rw [I]
 simp only [aa, aU, ae, aq]
 obtain ⟨r, e⟩ := My o L
 obtain ⟨Y, D⟩ := My p hp
 rw [e, D]
 simp only [aa]
 have F : ∀ (a b : Bool), (if a = true then some true else some b : Option Bool) = some (a || b) := fun a b => Kn
 rw [F]
 simp only [aa]
 split
 ·rfl
 rename_i J
 have j : b.length ≤ 1000000 := by simp at J; omega
 rw [Tc, RI]
 simp only [aa]
 obtain ⟨q, s1, s2, _⟩ := Ni o p
 obtain ⟨t, t1, t2⟩ := QQ b A j
 obtain ⟨W, _, O, P⟩ := Ni (FJ b).2 (FJ b).2
 have y := P rfl
 subst y
 have d : ∀ (p : Bool × List Int) (w : ByteArray), p.2.length ≤ 1000000 → kT p.2 = w → p.1 = (!ke w zS) →
   ((if (p.1 != (!ke w zS)) = true then some true else (mT p.2).bind fun k => some (!ke (vY k) w) : Option Bool) = some false) := fun p w v hw hp => by
  rw [ai (by simp [hp]), Gf v]
  simp only [aa, AR, hw]
  rw [show ke w w = true from kK.2 rfl]; rfl
 have fin : (if (q != q) = true then some true else some false : Option Bool) = some false := by simp
 have c : ((mX b (⟨0, 0, [], []⟩ : jI)).bind fun g => (tW ⟨vY b, 0⟩).bind fun h => (uZ g.2 h.1).bind fun m => (if m = true then (qY h.2).bind fun n => some (g.1 == n) else some false : Option Bool).bind fun u => some u) = some true := by
  rw [Om b A j, AR, aa, t1, aa, O, aa]
  simp only [aD, t2, aa, aO]
 by_cases i : FP o = true ∧ zz o.jO = true
 ·rw [aj i, aj i]
  have v : (xl o).length ≤ 1000000 := by
   have z := i.1
   simp only [FP, az, bk] at z
   have Q := qG o.State
   have R := qG o.lc
   have T := qG (o.jM.length : Int)
   have U := M6 nf 34 o.jM (fun x M => lD (ew.1 z.2 x M))
   have n5 := Dp i.2
   unfold xl
   simp only [ah]
   omega
  have G : 1 ≤ (xl o).length := by unfold xl; have := qG o.State; rw [ah]; omega
  rw [d (true, xl o) _ v rfl (by rw [Mf G]; rfl)]
  simp only [aa, ae, aq, uS, s1, s2, dE]
  exact c
 ·rw [ai i, ai i]
  rw [d (false, []) zS (by simp) rfl (by rw [show ke zS zS = true from kK.2 rfl]; rfl)]
  simp only [aa, ae, aq, uS, s1, s2, dE]
  exact c
theorem NP (s : Al) (g : s.ph.length ≤ 30000) : ∃ m, BW s = some m ∧ ∀ r, wO r m.1 m.2.1 m.2.2.1 m.2.2.2.1 m.2.2.2.2.1 m.2.2.2.2.2.1 m.2.2.2.2.2.2.1 s.mD.w6 s.mD.A8 m.2.2.2.2.2.2.2.1 m.2.2.2.2.2.2.2.2 s.ph s.Shown s.lV s.Dy = some (vD s.ph s.Ae r) := by
 obtain ⟨F, a⟩ := Uo s.ph g
 obtain ⟨m, c, _, d⟩ := a.UF
 have h := SV a s.Ae
 refine ⟨_, by unfold BW; rw [c]; rfl, fun r => ?_⟩
 unfold wO
 rw [sR, d, ← h]; rfl
def yW : ByteArray := ⟨#[121, 111, 117]⟩
def yC : jb := ⟨1, sY, yW, ⟨zS, zS⟩, ⟨zS, zS⟩, zS⟩
def yS : Al := ⟨⟨⟨#[109, 101]⟩, [], []⟩, yW, 3, [yC], [], [], []⟩
def yZ : jv := ⟨yC, ⟨sY, yW⟩⟩
theorem MF : kc yC = true := by decide +kernel
theorem T8 : vD [yC] yW sY = true := by
 unfold vD
 have h : [yC].filter kc = [yC] := by rw [List.filter_cons, MF]; rfl
 rw [h]
 exact @decide_eq_true _ (Classical.propDecidable _) (mE.mem yC (by simp) rfl)
theorem Ql : uV [yC] ⟨sY, yW⟩ = some ([yZ], true) ∧ CB [yZ] := by
 obtain ⟨C, d, h⟩ := Re [yC] (by simp) ⟨sY, yW⟩
 have hm : ∀ c, c ∈ C ↔ c = yC := fun c => by rw [d.2]; exact ⟨fun h => by simpa using h.1, fun h => by subst h; exact ⟨by simp, MF⟩⟩
 have i := qt De d
 rcases h with ⟨o, e, a⟩ | ⟨_, m⟩
 ·obtain ⟨P, z, rfl, j⟩ := a.last
  have := a.len
  have n : C.length * C.length ≤ 1 * 1 := eu i i
  simp only [ah, aA, bG] at this
  have k : P = [] := aX (by omega)
  subst k
  have g := (hm _).1 (a.cr z (by simp))
  have : z = yZ := by cases z; simp only at j g; subst j g; rfl
  subst this
  exact ⟨e, a.tg⟩
 ·exact absurd (.mem yC ((hm yC).2 rfl) rfl) m
theorem UA : qz yS (qh sY) 1 0 true = some ⟨1, 0, [sY], [yZ]⟩ := by
 obtain ⟨m, e, h⟩ := NP yS (by decide)
 unfold qz
 rw [ai (by decide)]
 simp only [aa, dE, ae, aq]
 rw [e, aa, Rz _ (by rw [h]; exact ay some T8), aa]
 simp only [aU, ae, aq]
 rw [ue, show yS.ph = [yC] from rfl, show yS.Ae = yW from rfl, Ql.1, aa, Pk _ (by simp [tot]), aa, ue]
 simp [MG, kP, nq]
theorem Ue : qz yS (qh sY) 1 0 false = some ⟨1, 0, [], []⟩ := by
 unfold qz
 simp
theorem Uy : oq [yC] [] [yZ] = true := (Cp _ _ _).2 ⟨fun s a => by obtain rfl := aF.1 a; exact aF.2 rfl, by have := Ql.2; exact this.2.1⟩
theorem gY : Gd (qh sY) := by unfold Gd; decide +kernel
theorem dY : nX (qh sY) ≤ jX := by rw [nG]; decide +kernel
theorem yT (l : List ja) : BB (nq jt l) (qh sY) = nq jt l sY := by
 unfold BB; rw [JF, LX]; rfl
theorem Sg : nq jt [sY] sY = true := (nu jB _ _).2 (by simp)
theorem Td : mN ⟨1, 0, [sY], [yZ]⟩ [yC] (qh sY) yW = some 0 := by
 rw [(Fb _ _ _ _ (by simp) gY dY).1]
 unfold Gk
 rw [ai (by simp)]
 simp only [yT, Sg, Uy]
 have : nq lH (kP [yZ]) ⟨sY, yW⟩ = true := (nu lp _ _).2 (by simp [kP, yZ])
 simp [this]
theorem TK : mN ⟨1, 0, [sY], [yZ]⟩ [] (qh sY) yW = some 50 := by
 rw [(Fb _ _ _ _ (by simp) gY dY).1]
 unfold Gk
 rw [ai (by simp)]
 have : oq [] [] [yZ] = false := by rw [← cd, Cp]; simp
 simp only [yT, Sg, this]
 simp
theorem SZ : mN ⟨1, 0, [], []⟩ [yC] (qh sY) yW = some 44 := by
 rw [(Fb _ _ _ _ (by simp) gY dY).1]
 unfold Gk
 rw [ai (by simp)]
 have : nq jt [] sY = false := by rw [← cd, nu jB]; simp
 simp only [yT, this]
 simp
theorem SS : mN zO [] (qh sY) yW = some 43 := by
 rw [(Fb _ _ _ _ (by simp) gY dY).1]
 unfold Gk
 rw [aj (by simp)]
theorem Qy : kB sY = true := by decide +kernel
theorem Qm : kR yW = true := by decide +kernel
theorem Uj : sa [] ⟨1, 0, [sY], [yZ]⟩ = some (true, xl ⟨1, 0, [sY], [yZ]⟩) := by
 rw [RI, aj]
 refine ⟨?_, ?_⟩
 ·unfold FP
  simp [Qy]
 ·unfold zz
  have : sB yZ = true := by
   unfold sB
   rw [show yZ.jb = yC from rfl, MF, show yZ.jd.jL = yW from rfl, Qm, show yZ.jd.ja = yC.Head from rfl, jB.2 rfl]; rfl
  simp [this]
theorem Np : xl ⟨1, 0, [sY], [yZ]⟩ = 1 :: 0 :: 1 :: (nf sY ++ (1 :: (ov yC ++ (qS yW ++ [])))) := by
 unfold xl wE
 simp [Aj, zI, yZ]
theorem Tu : FJ (xl ⟨1, 0, [sY], [yZ]⟩) = (0, ⟨1, 0, [sY], [yZ]⟩) := by
 rw [Np]
 unfold FJ EB
 rw [zu 3 1 _ (by decide) (by decide) (by decide)]
 simp only [lb]
 rw [zu 99 0 _ (by decide) (by decide) (by decide)]
 simp only
 rw [zu 64 1 _ (by decide) (by decide) (by decide)]
 simp only
 rw [show Int.toNat 1 = 0 + 1 from rfl, rW, yc Qy]
 simp only [lb, rW]
 unfold Cv
 rw [zu 256 1 _ (by decide) (by decide) (by decide)]
 simp only [lb]
 rw [show Int.toNat 1 = 0 + 1 from rfl, rW]
 unfold uM
 rw [OA MF]
 simp only [lb]
 rw [zZ Qm]
 rfl
theorem QW : vC = some true := by
 have hlen : (xl ⟨1, 0, [sY], [yZ]⟩).length ≤ 1000000 := by
  have h1 := lD Qy
  have s := BL MF
  have t := lB Qm
  rw [Np]
  simp [nO]
  omega
 have c : B8 (xl ⟨1, 0, [sY], [yZ]⟩) := by
  rw [Np]
  intro x a
  simp only [aB, aI, bZ, er] at a
  rcases a with rfl | rfl | rfl | a | rfl | a | a
  ·omega
  ·omega
  ·omega
  ·exact vU Qy x a
  ·omega
  ·exact B7 MF x a
  ·exact xn Qm x a
 have rd := Ss _ c hlen
 rw [Tu] at rd
 have n := Gf hlen
 obtain ⟨q, o, _, d⟩ := Ni ⟨1, 0, [sY], [yZ]⟩ ⟨1, 0, [sY], [yZ]⟩
 have d := d rfl
 subst d
 have g := Td
 have k2 := TK
 have h := SZ
 have i := SS
 have m := Uj
 have j := UA
 have k := Ue
 generalize u : xl ⟨1, 0, [sY], [yZ]⟩ = T at *
 unfold vC
 rw [show qz (⟨(⟨(⟨#[109, 101]⟩ : ByteArray), [], []⟩ : mD), (⟨#[121, 111, 117]⟩ : ByteArray), 3, [(⟨1, (⟨(⟨#[120]⟩ : ByteArray), (⟨#[121]⟩ : ByteArray)⟩ : ja), (⟨#[121, 111, 117]⟩ : ByteArray), (⟨zS, zS⟩ : ja), (⟨zS, zS⟩ : ja), zS⟩ : jb)], [], [], []⟩ : Al) (⟨1, 0, (⟨(⟨#[120]⟩ : ByteArray), (⟨#[121]⟩ : ByteArray)⟩ : ja), []⟩ : Formula) 1 0 true = _ from j, aa]
 rw [show qz (⟨(⟨(⟨#[109, 101]⟩ : ByteArray), [], []⟩ : mD), (⟨#[121, 111, 117]⟩ : ByteArray), 3, [(⟨1, (⟨(⟨#[120]⟩ : ByteArray), (⟨#[121]⟩ : ByteArray)⟩ : ja), (⟨#[121, 111, 117]⟩ : ByteArray), (⟨zS, zS⟩ : ja), (⟨zS, zS⟩ : ja), zS⟩ : jb)], [], [], []⟩ : Al) (⟨1, 0, (⟨(⟨#[120]⟩ : ByteArray), (⟨#[121]⟩ : ByteArray)⟩ : ja), []⟩ : Formula) 1 0 false = _ from k, aa]
 rw [m, aa]
 simp only
 rw [n, aa, rd, aa]
 rw [show (⟨1, (⟨(⟨#[120]⟩ : ByteArray), (⟨#[121]⟩ : ByteArray)⟩ : ja), (⟨#[121, 111, 117]⟩ : ByteArray), (⟨zS, zS⟩ : ja), (⟨zS, zS⟩ : ja), zS⟩ : jb) = yC from rfl, show (⟨1, 0, (⟨(⟨#[120]⟩ : ByteArray), (⟨#[121]⟩ : ByteArray)⟩ : ja), []⟩ : Formula) = qh sY from rfl, show (⟨#[121, 111, 117]⟩ : ByteArray) = yW from rfl]
 simp only
 rw [g, k2, h, i, o]
 have p : IntKind.i64.wrap (0 : Int) = 0 := by rw [kp (by omega) (by omega)]
 simp [p]
end Go.Proofs.YtbnbdigcbldfhaaGreat
namespace Go.Proofs.YtbnbdigcbldfhaaGreat.Lf
open Go.ChangeShapes Go.WideShapes Go.ChangeAt Go.RowKit
open Go.Proofs.YtbnbdigcbldfhaaGreat (Rows.uptoBulk Rows.uptoBulkAll Rows.uptoSmall)
theorem O1 {H : Type} (d : DataW H) : 1 ≤ Rows.uptoBulk d := by
 cases d with
 | lit l => cases l <;> simp [Rows.uptoBulk]
 | nil => simp [Rows.uptoBulk]
 | ptr d => simp [Rows.uptoBulk]
 | slice a spare => simp [Rows.uptoBulk]
 | agg parts => simp [Rows.uptoBulk]
 | iface t d => simp [Rows.uptoBulk]
 | map entries => simp [Rows.uptoBulk]
 | held h => simp [Rows.uptoBulk]
theorem length_le {H : Type} (l : List (DataW H)) : l.length ≤ Rows.uptoBulkAll l := by
 induction l with
 | nil => simp [Rows.uptoBulkAll]
 | cons x r ih => have := O1 x; simp only [Rows.uptoBulkAll, aA]; omega
def E8 {α : Type} (P : Program) (t : TypeId) (enc : α → List Value) (sz : α → Nat) : Prop :=
 ∀ (H : Type) (c : TypeId × Value → H) (W : World) (base : Nat) (sp : Nat → Bool) (d : Bool) (fuel : Nat) (cs : List Value) (x : DataW H × List MemPlace),
  DataW.trod c P W base sp d fuel t cs = some x → ∃ a : α, cs = enc a ∧ sz a ≤ Rows.uptoBulk x.1
theorem MV {P : Program} {t : TypeId} (a : P.underlying t = some .string) : E8 P t (fun s : ByteArray => [.string s]) (fun s => s.size) := by
 intro H c W base sp d fuel cs x h
 obtain ⟨s, rfl, rfl, _⟩ := DataW.trod_string a h
 refine ⟨s, rfl, ?_⟩
 have e : s.data.toList.length = s.size := by rw [bL]; rfl
 simp [Rows.uptoBulk, e]
theorem Mg {P : Program} {t : TypeId} {k : IntKind} (a : P.underlying t = some (.int k)) : E8 P t (fun n : Int => [.int k n]) (fun _ => 0) := by
 intro H c W base sp d fuel cs x h
 obtain ⟨n, rfl, rfl, _⟩ := DataW.trod_int a h
 exact ⟨n, rfl, fg _⟩
theorem Rf {α : Type} {n : Nat} {p : Nat → α → Prop} (h : ∀ i, i < n → ∃ x, p i x) : ∃ l : List α, l.length = n ∧ ∀ i x, l[i]? = some x → p i x := by
 induction n with
 | zero => exact ⟨[], rfl, by simp⟩
 | succ n ih =>
  obtain ⟨l, h1, c⟩ := ih fun i hi => h i (by omega)
  obtain ⟨x, g⟩ := h n (by omega)
  refine ⟨l ++ [x], by simp [h1], fun i y a => ?_⟩
  by_cases hi : i < l.length
  ·rw [List.getElem?_append_left hi] at a
   exact c i y a
  ·rw [ej (by omega)] at a
   have : i - l.length = 0 := by
    cases d : i - l.length with
    | zero => rfl
    | succ m => rw [d] at a; simp at a
   rw [this] at a
   have e : i = n := by omega
   simp at a
   subst a; rw [e]; exact g
theorem JZ {W : World} {a : Addr} {v : Value} (h : W.cell? a = some v) : ∃ cs T fr, W.heap[a.block]? = some (.cells cs T fr) ∧ a.spot = none ∧ cs[a.off]? = some v := by
 unfold World.cell? at h
 split at h
 ·rename_i c T fr g
  by_cases d : a.spot.isSome
  ·simp [d] at h
  ·simp only [d] at h
   exact ⟨c, T, fr, g, by simpa using d, by simpa using h⟩
 ·cases h
theorem Ex.below {dd : Bool} {W W' : World} (h : Ex dd W W') : Below W.heap.size W W' := ⟨h.os, h.tape, h.output, h.size, h.ll⟩
theorem DV {H : Type} {m : TypeId × Value → H} {P : Program} (o : laidOutB P = true) {W W' : World} {c : Nat → Bool} :
  ∀ {i : List TypeId} {vs : List Value} {j : List (DataW H)} {g : List MemPlace}, (∀ t ∈ i, P.readableRec t = true ∧ t < P.types.size) →
   DataW.TrodAll m P W 0 (fun _ => true) true i vs j g → (∀ p ∈ g, W.sameAt W' p) → (∀ p ∈ g, c p.block = true) → DataW.TrodAll m P W' 0 c true i vs j g
 | [], _, _, _, _, h, _, _ => by
  obtain ⟨rfl, rfl, rfl⟩ := trodAll_nil h
  exact trodAll_mk0
 | t :: i, _, _, _, k, h, h1, n => by
  obtain ⟨v, vs, d, j, p, q, rfl, rfl, rfl, s, w⟩ := trodAll_cons h
  exact trodAll_cons_mk (WideElems.Trod_stays o (k t (by simp)).1 (k t (by simp)).2 s (fun x a => h1 x (by simp [a])) (fun x a => n x (by simp [a])))
   (DV o (fun u hu => k u (by simp [hu])) w (fun x a => h1 x (by simp [a])) (fun x a => n x (by simp [a])))
theorem MR {H : Type} {enc : TypeId × Value → H} {P : Program} (M : laidOutB P = true) {f : Func} {s : ChangeSpec} {apart fresh handsOn again : Bool} {W W' : World} {args : Array Value} {v : Value} {a gs : List (DataW H)} {before : List MemPlace} (Q : ∀ t ∈ f.params.toList, P.readableRec t = true ∧ t < P.types.size) (n : s.vars = []) (u : DataW.Whole enc P f.params.toList s.vars apart W args.toList a gs before) {dd : Bool} (F : Ex dd W W') (c : ∀ (b : Nat) (sp : Nat → Bool) (L : Bool), DataW.TrodAll enc P W' b sp L f.resultTypes.toList (v.resultList f.resultTypes.size) (s.fn H (a ++ gs)).results []) (d : (s.fn H (a ++ gs)).args = a) (h : (s.fn H (a ++ gs)).vars = []) (A : ∀ (j : Nat) (t : TypeId) (r : Value), f.resultTypes[j]? = some t → (v.resultList f.resultTypes.size)[j]? = some r → Value.okWide P W' .any 0 t r) :
  s.post enc P f apart fresh handsOn again W args v W' := by
 have g := u.lt
 have hold : ∀ p ∈ before, (fun b => decide (b < W.heap.size)) p.block = true := fun p hp => by simpa using g p hp
 have z := Ex.below F
 have y := u
 obtain ⟨p, q, I, G, k, R, O⟩ := u
 rw [n] at G
 obtain ⟨rfl, rfl⟩ := trodVars_none G
 rw [bp] at k
 subst k
 have m : ∀ sp : Nat → Bool, (∀ p ∈ before, sp p.block = true) → DataW.TrodAll enc P W' 0 sp true f.params.toList args.toList (s.fn H (a ++ [])).args before := fun sp D => by
  rw [d]
  exact DV M Q I (fun x F => z.same (g x F)) D
 have o : ∀ sp : Nat → Bool, DataW.TrodVars enc P W' sp s.vars (s.fn H (a ++ [])).vars [] := fun sp => by
  rw [h, n]; rfl
 refine ⟨a, [], before, [], before, [], y, c _ _ _, m _ hold, o _, World.keptBut_mono (fun p hp => ⟨hp, ?_⟩) (z.frame (· ∈ before)), fun _ => ?_⟩
 ·exact Or.inr (Or.inl hp)
 ·refine ⟨A, _, _, ([] ++ before) ++ [], ⟨[] ++ before, [], trodAll_append (m _ (fun _ _ => rfl)) (c _ _ _), o _, rfl, ?_, ?_⟩, ?_⟩
  ·intro b off hp
   have i : MemPlace.cell b off ∈ before := by simpa using hp
   rw [World.frozen?_of_block (w := W) (z.block b (g _ i))]
   exact R b off i
  ·intro J
   simpa using O J
  ·intro p hp _
   simpa using hp
end Go.Proofs.YtbnbdigcbldfhaaGreat.Lf
namespace Go.Proofs.YtbnbdigcbldfhaaGreat.Lf
open Go.ChangeShapes Go.WideShapes Go.ChangeAt Go.RowKit
open Go.Proofs.YtbnbdigcbldfhaaGreat (Rows.uptoBulk Rows.uptoBulkAll Rows.uptoSmall)
def KX {α : Type} (P : Program) (t : TypeId) (R : qa α) (sz : α → Nat) : Prop :=
 ∀ (H : Type) (c : TypeId × Value → H) (W : World) (base : Nat) (sp : Nat → Bool) (d : Bool) (fuel : Nat) (cs : List Value) (x : DataW H × List MemPlace),
  DataW.trod c P W base sp d fuel t cs = some x → ∃ a : α, R (hp W) cs a ∧ sz a ≤ Rows.uptoBulk x.1
theorem E8.rel {α : Type} {P : Program} {t : TypeId} {enc : α → List Value} {sz : α → Nat} (h : E8 P t enc sz) : KX P t (Pl enc) sz := fun H a W base sp c fuel cs x d => h H a W base sp c fuel cs x d
end Go.Proofs.YtbnbdigcbldfhaaGreat.Lf
namespace Go.Proofs.YtbnbdigcbldfhaaGreat.Lf
open Go.ChangeShapes Go.WideShapes Go.ChangeAt Go.RowKit
open Go.Proofs.YtbnbdigcbldfhaaGreat (Rows.uptoBulk Rows.uptoBulkAll Rows.uptoSmall)
theorem F0 {H : Type} : ∀ l : List (DataW H), Rows.uptoBulkAll l = (l.map Rows.uptoBulk).sum
 | [] => by simp [Rows.uptoBulkAll]
 | d :: l => by simp [Rows.uptoBulkAll, F0 l]
theorem Oc {α : Type} (g : α → Nat) : ∀ (n : Nat) (f : Nat → Nat) {l : List α}, l.length = n → (∀ i x, l[i]? = some x → g x ≤ f i) → (l.map g).sum ≤ ((List.range n).map f).sum
 | 0, f, l, c, h => by
  obtain rfl := cA.1 c
  simp
 | n + 1, f, [], c, h => by cases c
 | n + 1, f, a :: l, c, h => by
  rw [List.range_succ_eq_map, aQ, aQ, gb, gb, cW]
  have h1 := h 0 a rfl
  have j := Oc g n (f ∘ Nat.succ) (l := l) (by simpa using c) (fun i x d => h (i + 1) x (by simpa using d))
  omega
def H5 {α : Type} (sz : α → Nat) (l : List α) : Nat := (l.map fun a => max 1 (sz a)).sum
theorem KR {α : Type} {sz : α → Nat} : ∀ {l : List α} {a : α}, a ∈ l → sz a ≤ H5 sz l
 | b :: l, a, h => by
  simp only [H5, aQ, gb]
  rcases aB.1 h with rfl | h
  ·omega
  ·have := KR (sz := sz) h; simp only [H5] at this; omega
theorem Le {α : Type} {P : Program} {t e : TypeId} {k : Nat} {R : qa α} {sz : α → Nat} (hk : P.cellsOf e = k) (J : 0 < k) (ht : P.underlying t = some (.slice e)) {H : Type} {U : TypeId × Value → H} {W : World} {base : Nat} {sp : Nat → Bool} {held : Bool} {fuel : Nat} {cs : List Value} {x : DataW H × List MemPlace} (hd : ∀ (fuel : Nat) (cs : List Value) (y : DataW H × List MemPlace), DataW.trod U P W base sp held fuel e cs = some y → SizeOf.sizeOf y.1 < SizeOf.sizeOf x.1 → ∃ a : α, R (hp W) cs a ∧ sz a ≤ Rows.uptoBulk y.1) (hf : DataW.trod U P W base sp held fuel t cs = some x) :
  ∃ v l, cs = [v] ∧ Sl R k (hp W) v l ∧ H5 sz l ≤ Rows.uptoBulk x.1 := by
 rcases Go.Deep.open_slice ht hf with ⟨rfl, rfl⟩ | ⟨a, ln, cp, m, n, D, Q, rfl, hb, hl, hm, M, rfl, I⟩
 ·exact ⟨_, [], rfl, ⟨none, 0, rfl, aM _, fg _, fun h => absurd h (Nat.lt_irrefl _)⟩, fg _⟩
 ·have ad : ln ≤ m := by rw [M]; split <;> omega
  have hB : ((List.range ln).map fun i => Rows.uptoBulk (D i)).sum ≤ Rows.uptoBulk (DataW.slice ((List.range ln).map D) ((List.range (m - ln)).map fun j => D (ln + j))) := by
   simp only [Rows.uptoBulk]
   rw [F0, cW]
   have e : ((List.range ln).map fun i => Rows.uptoBulk (D i)) = (List.range ln).map (Rows.uptoBulk ∘ D) := rfl
   rw [e]
   omega
  have hS : ∀ i, i < ln → SizeOf.sizeOf (D i) < SizeOf.sizeOf (DataW.slice ((List.range ln).map D) ((List.range (m - ln)).map fun j => D (ln + j))) := fun i hi => by
   have := List.sizeOf_lt_of_mem (aR.2 ⟨i, List.mem_range.2 hi, rfl⟩ : D i ∈ (List.range ln).map D)
   rw [DataW.slice.sizeOf_spec]; omega
  simp only at hd ⊢
  generalize Rows.uptoBulk (DataW.slice ((List.range ln).map D) ((List.range (m - ln)).map fun j => D (ln + j))) = B at hB
  obtain ⟨l, L, q⟩ := Rf (α := α) (n := ln) (p := fun i x => ∃ cs', W.cells? base (a.add (i * k)) k = some cs' ∧ R (hp W) cs' x ∧ sz x ≤ Rows.uptoBulk (D i)) fun i hi => by
   obtain ⟨cs', h1, z⟩ := I i (by omega)
   obtain ⟨x, hR, A⟩ := hd _ _ _ z (hS i hi)
   rw [hk] at h1
   exact ⟨x, cs', h1, hR, A⟩
  subst L
  refine ⟨_, l, rfl, ⟨some a, cp, rfl, hl, hm, fun h0 => ?_⟩, ?_⟩
  ·have c : ∀ i x, l[i]? = some x → ∃ cs', R (hp W) cs' x ∧ cs'.length = k ∧ ∀ j, j < k → W.cell? ((a.add (i * k)).add j) = cs'[j]? := fun i x s =>
    let ⟨cs', h1, z, _⟩ := q i x s
    let ⟨_, A, Y⟩ := World.cells?_some h1
    ⟨cs', z, A, Y⟩
   obtain ⟨a6, _, Y, h5⟩ := c 0 l[0] (by simp [h0])
   have F := h5 0 J
   rw [Nat.zero_mul, bq (by omega)] at F
   have e0 : (a.add 0).add 0 = a := rfl
   rw [e0] at F
   obtain ⟨cs, T, fr, G, Z, _⟩ := JZ F
   obtain ⟨u, w, a1⟩ := a
   simp only at G Z
   subst Z
   refine ⟨u, w, cs, T, fr, rfl, G, fun i x s => ?_⟩
   obtain ⟨cs', gR, g1, g2⟩ := c i x s
   refine ⟨cs', g1, gR, fun j y hy => ?_⟩
   have hj : j < k := by
    rw [← g1]
    exact (aH.1 hy).1
   have h9 := g2 j hj
   rw [Go.Deep.add_add, hy] at h9
   obtain ⟨O, T', a7, d, a8, g⟩ := JZ h9
   have o : (Addr.add ⟨u, w, none⟩ (i * k + j)).block = u ∧ (Addr.add ⟨u, w, none⟩ (i * k + j)).off = w + (i * k + j) := by
    unfold Addr.add
    split
    ·rename_i hz
     rw [hz]; exact ⟨rfl, rfl⟩
    ·exact ⟨rfl, rfl⟩
   rw [o.1, G] at d
   cases d
   rw [o.2, ← dG] at g
   exact g
  ·refine cn (Oc _ _ _ rfl fun i x s => ?_) hB
   exact Nat.max_le.2 ⟨O1 _, (q i x s).elim fun _ h => h.2.2⟩
theorem xm {α : Type} {P : Program} {t e : TypeId} {k : Nat} {R : qa α} {sz : α → Nat} (hk : P.cellsOf e = k) (a : 0 < k) (d : KX P e R sz) (i : P.underlying t = some (.slice e)) {H : Type} {c : TypeId × Value → H} {W : World} {base : Nat} {sp : Nat → Bool} {held : Bool} {fuel : Nat} {cs : List Value} {x : DataW H × List MemPlace} (g : DataW.trod c P W base sp held fuel t cs = some x) :
  ∃ v l, cs = [v] ∧ Sl R k (hp W) v l ∧ H5 sz l ≤ Rows.uptoBulk x.1 := Le hk a i (fun _ _ _ h _ => d _ _ _ _ _ _ _ _ _ h) g
end Go.Proofs.YtbnbdigcbldfhaaGreat.Lf
namespace Go.Proofs.YtbnbdigcbldfhaaGreat.Lf
open Go.ChangeShapes Go.WideShapes Go.ChangeAt Go.RowKit
open Go.Proofs.YtbnbdigcbldfhaaGreat (Rows.uptoBulk Rows.uptoBulkAll Rows.uptoSmall)
def QC {α : Type} (R : qa α) (Q : α → Prop) : qa α := fun μ ys x => R μ ys x ∧ Q x
theorem Sl.all {α : Type} {R : qa α} {Q : α → Prop} {k : Nat} {μ : jF} {v : Value} {l : List α} (h : Sl (QC R Q) k μ v l) : Sl R k μ v l ∧ ∀ x ∈ l, Q x := by
 obtain ⟨A, c, rfl, h1, j, q⟩ := h
 cases l with
 | nil => exact ⟨⟨A, c, rfl, h1, j, fun h => absurd h (by simp)⟩, by simp⟩
 | cons a l =>
  obtain ⟨b, o, cs, T, fr, e, s, m⟩ := q (by simp)
  refine ⟨⟨A, c, rfl, h1, j, fun _ => ⟨b, o, cs, T, fr, e, s, fun i x g => ?_⟩⟩, fun x g => ?_⟩
  ·obtain ⟨ys, n, d, p⟩ := m i x g
   exact ⟨ys, n, d.1, p⟩
  ·obtain ⟨i, hi⟩ := List.mem_iff_getElem?.1 g
   obtain ⟨ys, n, d, p⟩ := m i x hi
   exact d.2
theorem Q1 {P : Program} {t : TypeId} (a : P.underlying t = some (.int .u8)) : KX P t (QC (Pl (jS .u8)) (fun x => 0 ≤ x ∧ x < 256)) (fun _ => 0) := by
 intro H c W base sp d fuel cs x h
 obtain ⟨n, rfl, rfl, hw⟩ := DataW.trod_int a h
 refine ⟨n, ⟨rfl, ?_⟩, fg _⟩
 simp [Lit.wf, IntKind.min, IntKind.max, IntKind.bits, IntKind.signed] at hw
 omega
theorem Lr {α H : Type} {n : TypeId × Value → H} {P : Program} {t e : TypeId} {k : Nat} {R : qa α} {Q : α → Prop} {sz : α → Nat} (hk : P.cellsOf e = k) (c : 0 < k) (q : KX P e (QC R Q) sz) (j : P.underlying t = some (.slice e)) {W : World} {base m : Nat} {r : Reach} {sp : Nat → Bool} {held : Bool} {v : Value} {d : DataW H} {w : List MemPlace} (a : Value.okWide P W r m t v) (h : DataW.Trod n P W base sp held t v d w) :
  ∃ l : List α, Sl R k (hp W) v l ∧ H5 sz l ≤ Rows.uptoBulk d ∧ ∀ x ∈ l, Q x := by
 obtain ⟨A, ln, g, rfl⟩ := okWide_slice j a
 obtain ⟨fuel, s⟩ := h
 obtain ⟨u, l, h1, i, o⟩ := xm hk c q j s
 have p : (Value.slice A ln g).cells.toList = [Value.slice A ln g] := rfl
 rw [p] at h1
 cases h1
 exact ⟨l, (Sl.all i).1, o, (Sl.all i).2⟩
end Go.Proofs.YtbnbdigcbldfhaaGreat.Lf
namespace Go.Proofs.YtbnbdigcbldfhaaGreat
open Go.Proofs.Tryz renaming prog → pg0
set_option maxRecDepth 10000
open Go.ChangeShapes Go.WideShapes Go.ChangeAt Go.RowKit
open Go.Proofs.YtbnbdigcbldfhaaGreat Go.Proofs.YtbnbdigcbldfhaaGreat.Lf
def fL := @Tryz.underlying64
theorem MI : Tryz.prog.cellsOf 64 = 4 := by kernel_rfl
theorem Nv {α : Type} {l : List α} (h : l.length = 4) : ∃ a0 a a2 a3, l = [a0, a, a2, a3] := by
 match l, h with
 | [a0, a, a2, a3], _ => exact ⟨a0, a, a2, a3, rfl⟩
theorem JO : Tryz.prog.cellsOf 3 = 1 := by kernel_rfl
theorem PE : E8 pg0 3 (fun n : Int => [.int .i64 n]) (fun _ => 0) := Mg Tryz.underlying3
theorem Mi : Tryz.prog.cellsOf 62 = 1 := by kernel_rfl
theorem Qk : E8 pg0 62 (fun n : Int => [.int .i64 n]) (fun _ => 0) := Mg Tryz.underlying62
theorem Mb : Tryz.prog.cellsOf 34 = 1 := by kernel_rfl
theorem Cy : Tryz.prog.cellsOf 28 = 2 := by kernel_rfl
theorem Kj : E8 pg0 9 (fun s : ByteArray => [.string s]) (fun s => s.size) := MV Tryz.underlying9
theorem Km : Tryz.prog.cellsOf 9 = 1 := by kernel_rfl
theorem Nu {α : Type} {l : List α} (h : l.length = 2) : ∃ a0 a, l = [a0, a] := by
 match l, h with
 | [a0, a], _ => exact ⟨a0, a, rfl⟩
def zU (x : ja) : Nat := x.jn.size + x.jK.size
theorem Fu : E8 pg0 28 jc zU := by
 intro H g W base sp j fuel cs x h
 obtain ⟨xs, n, _, rfl, p, hlen, k⟩ := dF Tryz.underlying28 h
 obtain ⟨s, t, rfl⟩ := Nu hlen
 obtain ⟨a, c1, rfl⟩ := Nu (p.trans Cy)
 have i : DataW.trod g pg0 W base sp j n 9 (([a, c1].drop 0).take (Tryz.prog.cellsOf 9)) = some s := k 0 _ rfl
 have h1 : DataW.trod g pg0 W base sp j n 9 (([a, c1].drop 1).take (Tryz.prog.cellsOf 9)) = some t := k 1 _ rfl
 simp only [Km, List.drop, List.take] at i h1
 obtain ⟨q, c, m⟩ := Kj _ _ _ _ _ _ _ _ _ i
 obtain ⟨s1, d, o⟩ := Kj _ _ _ _ _ _ _ _ _ h1
 simp only [bB, ev] at c d
 obtain rfl := c
 obtain rfl := d
 refine ⟨⟨q, s1⟩, rfl, ?_⟩
 simp only [List.map, Rows.uptoBulk, Rows.uptoBulkAll, zU] at m o ⊢
 omega
theorem MA : Tryz.prog.cellsOf 45 = 1 := by kernel_rfl
theorem F5 : Tryz.prog.cellsOf 140 = 12 := by kernel_rfl
theorem KB : Tryz.prog.cellsOf 108 = 9 := by kernel_rfl
theorem TV {α : Type} {l : List α} (h : l.length = 6) : ∃ a0 a a2 a3 a4 a5, l = [a0, a, a2, a3, a4, a5] := by
 match l, h with
 | [a0, a, a2, a3, a4, a5], _ => exact ⟨a0, a, a2, a3, a4, a5, rfl⟩
theorem TX {α : Type} {l : List α} (h : l.length = 9) : ∃ a0 a a2 a3 a4 a5 c d g, l = [a0, a, a2, a3, a4, a5, c, d, g] := by
 match l, h with
 | [a0, a, a2, a3, a4, a5, c, d, g], _ => exact ⟨a0, a, a2, a3, a4, a5, c, d, g, rfl⟩
def CT (x : jb) : Nat := zU x.Head + x.jL.size + zU x.B + zU x.C + x.kk.size
theorem Sp : E8 pg0 108 jg CT := by
 intro H m W base sp o fuel cs x h
 obtain ⟨xs, n, _, rfl, P, hlen, p⟩ := dF Tryz.underlying108 h
 obtain ⟨Y, Z, y2, y3, y4, y5, rfl⟩ := TV hlen
 obtain ⟨a, c1, c2, c, d, g, i, j, k, rfl⟩ := TX (P.trans KB)
 have y : DataW.trod m pg0 W base sp o n 3 (([a, c1, c2, c, d, g, i, j, k].drop 0).take (Tryz.prog.cellsOf 3)) = some Y := p 0 _ rfl
 have h1 : DataW.trod m pg0 W base sp o n 28 (([a, c1, c2, c, d, g, i, j, k].drop 1).take (Tryz.prog.cellsOf 28)) = some Z := p 1 _ rfl
 have z : DataW.trod m pg0 W base sp o n 9 (([a, c1, c2, c, d, g, i, j, k].drop 3).take (Tryz.prog.cellsOf 9)) = some y2 := p 2 _ rfl
 have A : DataW.trod m pg0 W base sp o n 28 (([a, c1, c2, c, d, g, i, j, k].drop 4).take (Tryz.prog.cellsOf 28)) = some y3 := p 3 _ rfl
 have D : DataW.trod m pg0 W base sp o n 28 (([a, c1, c2, c, d, g, i, j, k].drop 6).take (Tryz.prog.cellsOf 28)) = some y4 := p 4 _ rfl
 have F : DataW.trod m pg0 W base sp o n 9 (([a, c1, c2, c, d, g, i, j, k].drop 8).take (Tryz.prog.cellsOf 9)) = some y5 := p 5 _ rfl
 simp only [Cy, JO, Km, List.drop, List.take] at y h1 z A D F
 obtain ⟨Q, q, G⟩ := PE _ _ _ _ _ _ _ _ _ y
 obtain ⟨s1, s, I⟩ := Fu _ _ _ _ _ _ _ _ _ h1
 obtain ⟨s2, t, J⟩ := Kj _ _ _ _ _ _ _ _ _ z
 obtain ⟨R, u, L⟩ := Fu _ _ _ _ _ _ _ _ _ A
 obtain ⟨T, v, M⟩ := Fu _ _ _ _ _ _ _ _ _ D
 obtain ⟨U, w, O⟩ := Kj _ _ _ _ _ _ _ _ _ F
 simp only [jc, bB, ev] at q s t u v w
 obtain rfl := q
 obtain ⟨rfl, rfl⟩ := s
 obtain rfl := t
 obtain ⟨rfl, rfl⟩ := u
 obtain ⟨rfl, rfl⟩ := v
 obtain rfl := w
 refine ⟨⟨Q, s1, s2, R, T, U⟩, rfl, ?_⟩
 simp only [List.map, Rows.uptoBulk, Rows.uptoBulkAll, CT] at G I J L M O ⊢
 omega
theorem LV : Tryz.prog.cellsOf 38 = 3 := by kernel_rfl
theorem Up {α : Type} {l : List α} (h : l.length = 3) : ∃ a0 a a2, l = [a0, a, a2] := by
 match l, h with
 | [a0, a, a2], _ => exact ⟨a0, a, a2, rfl⟩
def G9 (x : jd) : Nat := zU x.ja + x.jL.size
theorem S0 : E8 pg0 38 jw G9 := by
 intro H g W base sp j fuel cs x h
 obtain ⟨xs, n, _, rfl, p, hlen, k⟩ := dF Tryz.underlying38 h
 obtain ⟨s, t, rfl⟩ := Nu hlen
 obtain ⟨a, c1, c2, rfl⟩ := Up (p.trans LV)
 have i : DataW.trod g pg0 W base sp j n 28 (([a, c1, c2].drop 0).take (Tryz.prog.cellsOf 28)) = some s := k 0 _ rfl
 have h1 : DataW.trod g pg0 W base sp j n 9 (([a, c1, c2].drop 2).take (Tryz.prog.cellsOf 9)) = some t := k 1 _ rfl
 simp only [Cy, Km, List.drop, List.take] at i h1
 obtain ⟨q, c, m⟩ := Fu _ _ _ _ _ _ _ _ _ i
 obtain ⟨s1, d, o⟩ := Kj _ _ _ _ _ _ _ _ _ h1
 simp only [jc, bB, ev] at c d
 obtain ⟨rfl, rfl⟩ := c
 obtain rfl := d
 refine ⟨⟨q, s1⟩, rfl, ?_⟩
 simp only [List.map, Rows.uptoBulk, Rows.uptoBulkAll, G9] at m o ⊢
 omega
theorem Tk {α : Type} {l : List α} (h : l.length = 12) : ∃ a0 d a2 a3 a4 a5 g i j a9 a c, l = [a0, d, a2, a3, a4, a5, g, i, j, a9, a, c] := by
 match l, h with
 | [a0, d, a2, a3, a4, a5, g, i, j, a9, a, c], _ => exact ⟨a0, d, a2, a3, a4, a5, g, i, j, a9, a, c, rfl⟩
def CX (x : jv) : Nat := CT x.jb + G9 x.jd
theorem OV : E8 pg0 140 js CX := by
 intro H t W base sp v fuel cs x h
 obtain ⟨xs, n, _, rfl, A, hlen, w⟩ := dF Tryz.underlying140 h
 obtain ⟨F, G, rfl⟩ := Nu hlen
 obtain ⟨d, c1, c2, g, i, j, k, m, o, p, a, c, rfl⟩ := Tk (A.trans F5)
 have u : DataW.trod t pg0 W base sp v n 108 (([d, c1, c2, g, i, j, k, m, o, p, a, c].drop 0).take (Tryz.prog.cellsOf 108)) = some F := w 0 _ rfl
 have h1 : DataW.trod t pg0 W base sp v n 38 (([d, c1, c2, g, i, j, k, m, o, p, a, c].drop 9).take (Tryz.prog.cellsOf 38)) = some G := w 1 _ rfl
 simp only [KB, LV, List.drop, List.take] at u h1
 obtain ⟨D, q, y⟩ := Sp _ _ _ _ _ _ _ _ _ u
 obtain ⟨s1, s, z⟩ := S0 _ _ _ _ _ _ _ _ _ h1
 simp only [jg, jw, jc, bB, ev] at q s
 obtain ⟨rfl, rfl, rfl, rfl, rfl, rfl, rfl, rfl, rfl⟩ := q
 obtain ⟨rfl, rfl, rfl⟩ := s
 refine ⟨⟨D, s1⟩, rfl, ?_⟩
 simp only [List.map, Rows.uptoBulk, Rows.uptoBulkAll, CX] at y z ⊢
 omega
def wJ (x : jI) : Nat := H5 zU x.jM + H5 CX x.jO + 1
theorem Tz : KX pg0 5 (QC (Pl (jS .u8)) (fun x => 0 ≤ x ∧ x < 256)) (fun _ => 0) := Q1 Tryz.underlying5
theorem RM : Tryz.prog.cellsOf 5 = 1 := by kernel_rfl
theorem RC : Tryz.prog.readableRec 64 = true ∧ 64 < Tryz.prog.types.size := ⟨by kernel_rfl, dZ (by kernel_rfl)⟩
theorem TY : Tryz.prog.readableRec 78 = true ∧ 78 < Tryz.prog.types.size := ⟨by kernel_rfl, dZ (by kernel_rfl)⟩
theorem J5 (c : jb) : xG c = CT c := by unfold xG CT zU; omega
theorem OI (o p : jI) (b : List Int) (d : B8 b) (h1 : wJ o ≤ 1048576) (c : wJ p ≤ 1048576) : qW o p b = some true := by
 unfold wJ at h1 c
 have e : ∀ s : jv, CX s = CT s.jb + G9 s.jd := fun _ => rfl
 exact F9 QW o p b d (fun s a => by have := KR (sz := CX) a; have := e s; rw [J5]; omega) (fun s a => by have := KR (sz := CX) a; have := e s; rw [J5]; omega)
theorem own : ownKnob Tryz.prog.godebug = none := by kernel_rfl
theorem PW : laidOutB pg0 = true := by kernel_rfl
theorem PQ (H : Type) (enc : TypeId × Value → H) (W : World) (base : Nat) (args : Array Value) (ds gs : List (DataW H)) (before : List MemPlace) (s : ∀ (j : Nat) t v, Tryz.f8.params[j]? = some t → args[j]? = some v → Value.okWide pg0 W .any base t v) (hW : DataW.Whole enc pg0 Tryz.f8.params.toList Rows.outcomeGetsSpec.vars false W args.toList ds gs before) (hk : Rows.uptoSmall H (ds ++ gs) = true) :
  Calls pg0 8 args W fun e W' => ∃ v, e = .returned v ∧ Rows.outcomeGetsSpec.post enc pg0 Tryz.f8 false true false false W args v W' := by
 have af := hW
 obtain ⟨p, q, ad, hV, rfl, c9, ca⟩ := hW
 have hA : DataW.TrodAll enc pg0 W 0 (fun _ => true) true Tryz.f8.params.toList args.toList ds p := ad
 have hr : ∀ t ∈ Tryz.f8.params.toList, Tryz.prog.readableRec t = true ∧ t < Tryz.prog.types.size := by
  rw [Tryz.params8]
  intro t ht
  simp only [aB, bZ, er] at ht
  rcases ht with rfl | rfl | rfl
  ·exact RC
  ·exact RC
  ·exact TY
 rw [Tryz.params8] at hA s
 obtain ⟨v0, cb, d0, c4, p0, q0, ao, rfl, rfl, h0, r0⟩ := trodAll_cons hA
 obtain ⟨v1, cc, d1, c5, p1, q1, rfl, rfl, rfl, h1, r1⟩ := trodAll_cons r0
 obtain ⟨v2, cf, d2, c6, p2, q2, rfl, rfl, rfl, h2, r2⟩ := trodAll_cons r1
 obtain ⟨rfl, rfl, rfl⟩ := trodAll_nil r2
 obtain rfl : args = #[v0, v1, v2] := by cases args; simp_all
 obtain ⟨rfl, rfl⟩ := trodVars_none hV
 have k0 := s 0 64 v0 rfl rfl
 have k1 := s 1 64 v1 rfl rfl
 have k2 := s 2 78 v2 rfl rfl
 obtain ⟨O, rfl, _⟩ := okWide_struct fL k0
 obtain ⟨c7, R⟩ := h0
 obtain ⟨bs, rfl⟩ : ∃ l : List Value, O = l.toArray := ⟨O.toList, by simp⟩
 change DataW.trod _ _ _ _ _ _ _ _ bs = some _ at R
 obtain ⟨ch, n1, _, b0, av, J, h⟩ := dF fL R
 obtain ⟨T, U, Y, Z, rfl⟩ := Nv J
 obtain ⟨i, m, a, c, rfl⟩ := Nv (av.trans MI)
 have w : DataW.trod _ pg0 W _ _ _ n1 3 (([i, m, a, c].drop 0).take (Tryz.prog.cellsOf 3)) = some T := h 0 _ rfl
 have x : DataW.trod _ pg0 W _ _ _ n1 62 (([i, m, a, c].drop 1).take (Tryz.prog.cellsOf 62)) = some U := h 1 _ rfl
 have y : DataW.trod _ pg0 W _ _ _ n1 34 (([i, m, a, c].drop 2).take (Tryz.prog.cellsOf 34)) = some Y := h 2 _ rfl
 have A : DataW.trod _ pg0 W _ _ _ n1 45 (([i, m, a, c].drop 3).take (Tryz.prog.cellsOf 45)) = some Z := h 3 _ rfl
 simp only [JO, Mb, MA, Mi, List.drop, List.take] at w x y A
 obtain ⟨s2, e2, b2⟩ := PE _ _ _ _ _ _ _ _ _ w
 simp only [bB, ev] at e2
 obtain rfl := e2
 obtain ⟨s3, e3, b3⟩ := Qk _ _ _ _ _ _ _ _ _ x
 simp only [bB, ev] at e3
 obtain rfl := e3
 obtain ⟨v4, s4, e4, q4, b4⟩ := xm Cy (by decide) Fu.rel Tryz.underlying34 y
 simp only [bB, ev] at e4
 obtain rfl := e4
 obtain ⟨v5, s5, e5, q5, b5⟩ := xm F5 (by decide) OV.rel Tryz.underlying45 A
 simp only [bB, ev] at e5
 obtain rfl := e5
 have b1 := ay (fun z => Rows.uptoBulk z.1) b0
 simp only [List.map, Rows.uptoBulk, Rows.uptoBulkAll] at b2 b3 b4 b5 b1
 have z0 : wJ (⟨s2, s3, s4, s5⟩ : jI) ≤ Rows.uptoBulk d0 := by simp only [wJ]; omega
 obtain ⟨P, rfl, _⟩ := okWide_struct fL k1
 obtain ⟨c8, h⟩ := h1
 obtain ⟨TU, rfl⟩ : ∃ l : List Value, P = l.toArray := ⟨P.toList, by simp⟩
 change DataW.trod _ _ _ _ _ _ _ _ TU = some _ at h
 obtain ⟨cm, n6, _, ba, aE, L, u⟩ := dF fL h
 obtain ⟨a1, a6, a7, a8, rfl⟩ := Nv L
 obtain ⟨n, o, d, g, rfl⟩ := Nv (aE.trans MI)
 have D : DataW.trod _ pg0 W _ _ _ n6 3 (([n, o, d, g].drop 0).take (Tryz.prog.cellsOf 3)) = some a1 := u 0 _ rfl
 have F : DataW.trod _ pg0 W _ _ _ n6 62 (([n, o, d, g].drop 1).take (Tryz.prog.cellsOf 62)) = some a6 := u 1 _ rfl
 have G : DataW.trod _ pg0 W _ _ _ n6 34 (([n, o, d, g].drop 2).take (Tryz.prog.cellsOf 34)) = some a7 := u 2 _ rfl
 have I : DataW.trod _ pg0 W _ _ _ n6 45 (([n, o, d, g].drop 3).take (Tryz.prog.cellsOf 45)) = some a8 := u 3 _ rfl
 simp only [JO, Mb, MA, Mi, List.drop, List.take] at D F G I
 obtain ⟨s7, e7, b7⟩ := PE _ _ _ _ _ _ _ _ _ D
 simp only [bB, ev] at e7
 obtain rfl := e7
 obtain ⟨s8, e8, b8⟩ := Qk _ _ _ _ _ _ _ _ _ F
 simp only [bB, ev] at e8
 obtain rfl := e8
 obtain ⟨v9, s9, e9, q9, b9⟩ := xm Cy (by decide) Fu.rel Tryz.underlying34 G
 simp only [bB, ev] at e9
 obtain rfl := e9
 obtain ⟨v10, M, Q, c3, ab⟩ := xm F5 (by decide) OV.rel Tryz.underlying45 I
 simp only [bB, ev] at Q
 obtain rfl := Q
 have b6 := ay (fun z => Rows.uptoBulk z.1) ba
 simp only [List.map, Rows.uptoBulk, Rows.uptoBulkAll] at b7 b8 b9 ab b6
 have z1 : wJ (⟨s7, s8, s9, M⟩ : jI) ≤ Rows.uptoBulk d1 := by simp only [wJ]; omega
 obtain ⟨a2, c0, z2, o2⟩ := Lr (k := 1) RM (by decide) Tz Tryz.underlying78 k2 h2
 have hB : Rows.uptoBulkAll ([d0, d1, d2] ++ []) ≤ 1048576 := dZ hk
 simp only [bp, Rows.uptoBulkAll] at hB
 have hm : qW (⟨s2, s3, s4, s5⟩ : jI) (⟨s7, s8, s9, M⟩ : jI) a2 = some true := OI _ _ _ o2 (by omega) (by omega)
 have hg := Ed (⟨s2, s3, s4, s5⟩ : jI) a c (⟨s7, s8, s9, M⟩ : jI) d g v2 a2 true W q4 q5 q9 c3 c0 hm
 refine bw hg fun e W' ⟨he, hx⟩ => ?_
 subst he
 exact ⟨_, rfl, MR PW hr rfl af hx (fun _ _ _ => trodAll_cons_mk (shut_bool Tryz.underlying4 _) trodAll_mk0) rfl rfl (ok_one (by kernel_rfl) rfl (okWide_bool_mk Tryz.underlying4 _))⟩
set_option maxRecDepth 100000 in
theorem Sj (os : Os) (started : os.Started) (H : Type) (enc : TypeId × Value → H) (F : Stop.Interp) :
  ReturnsInHanded {} Tryz.checked os 8 .any ((Rows.OpenSpec.upto Rows.outcomeGetsSpec).pre6 enc pg0 Tryz.f8 Rows.outcomeGetsUptoRow.domain false) (((Rows.OpenSpec.upto Rows.outcomeGetsSpec).at F).post enc pg0 Tryz.f8 false true false false) := by
 refine returnsInHanded_of_cond (C := Tryz.checked) (s := Rows.OpenSpec.upto Rows.outcomeGetsSpec) (k := Rows.uptoSmall) rfl own started (by kernel_rfl) Tryz.func8
  (OpenSpec.witness (enc := enc) (C := Tryz.checked) (s := Rows.OpenSpec.upto Rows.outcomeGetsSpec) (k := Rows.uptoSmall) rfl false ⟨#[], #[.agg #[.int .i64 0, .int .i64 0, .slice none 0 0, .slice none 0 0], .agg #[.int .i64 0, .int .i64 0, .slice none 0 0, .slice none 0 0], .slice none 0 0], []⟩ 8 (by kernel_rfl) (by kernel_rfl) (by kernel_rfl)
   (x := ([.agg [.lit (.int .i64 0), .lit (.int .i64 0), .nil, .nil], .agg [.lit (.int .i64 0), .lit (.int .i64 0), .nil, .nil], .nil], [], [])) (by kernel_rfl) rfl (by kernel_rfl)) ?_
 intro W base args c gs before a d _ hk _
 exact PQ H enc W base args c gs before a d hk
theorem Tv {a b : Bool} (c : a = true) (d : b = true) : (a && b) = true := by rw [c, d]; rfl
set_option maxHeartbeats 40000000 in
theorem QM : joinedFacts Tryz.checked.prog 8 Tryz.f8 (Rows.OpenSpec.upto Rows.outcomeGetsSpec).bare Rows.outcomeGetsUptoRow = true := by
 unfold joinedFacts
 repeat' with_reducible refine Tv ?_ ?_
 all_goals as_aux_lemma => kernel_rfl
theorem proved : Rows.OutcomeGetsUptoSaid :=
 OpenClaim.holds_of_cond 8 Tryz.f8 rfl rfl rfl rfl rfl rfl rfl ⟨rfl, rfl, rfl, rfl, rfl⟩ rfl rfl rfl rfl rfl (by kernel_rfl) Tryz.func8 QM
  (dZ (by kernel_rfl)) (by unfold Func.isWrapper; first | (rw [aj (by decide +kernel)]; kernel_rfl) | (rw [ai (by decide +kernel)]; exact ⟨rfl, rfl⟩))
  (fun os started H enc _ F => Sj os started H enc F)
end Go.Proofs.YtbnbdigcbldfhaaGreat
