/- a part of a proof of EagerRests -/
import Derived.Test.YtmlncblocfcmiaaGreatHqe
import Derived.Test.YtmlncblocfcmiaaGreatRtVe
import Derived.Test.YtmlncblocfcmiaaGreatRows
import Derived.WalkKit
import Derived.ProofKit
import Derived.OpenShut
import Derived.JoinedCond
import Derived.Deep.Slices
import Derived.Carry
import Derived.ChangeArms
import Derived.ChangeSame
import Derived.Test.YtmlncblocfcmiaaGreatE9W3e
set_option linter.all false
namespace Go.Proofs.YtmlncblocfcmiaaGreat
open Go.RowKit
mutual
def yL : Formula → Nat
 | ⟨_, _, r, ks⟩ => 1 + r.jF.size + r.jK.size + szFL ks
def szFL : List Formula → Nat
 | [] => 0
 | k :: ks => yL k + szFL ks
end
theorem HM (f : Formula) : yL f = 1 + f.jB.jF.size + f.jB.jK.size + szFL f.Kids := by cases f; rw [yL]
theorem CU : ∀ f : Formula, kG f ≤ yL f := by
 refine MV fun f ih => ?_
 have : ∀ a : List Formula, (∀ k ∈ a, kG k ≤ yL k) → nodesL a ≤ szFL a := by
  intro a
  induction a with
  | nil => intro _; rw [nodesL]; omega
  | cons k a b =>
   intro h
   have := b (fun x c => h x (by simp [c]))
   have := h k (by simp)
   rw [nodesL, szFL]; omega
 have := this f.Kids ih
 rw [qu, HM]; omega
def tJ : List jA → Nat
 | [] => 0
 | c :: l => 20 + wA c + tJ l
theorem g5 : ∀ (l : List jA) (n : Int), 0 ≤ n → n + (tJ l : Int) ≤ 4000000000000000000 → qP l n = some (n + (tJ l : Int))
 | [], n, _, _ => by rw [qP, tJ]; simp
 | c :: l, n, b, a => by
  have e : wA c = c.Head.jF.size + c.Head.jK.size + c.kA.size + c.B.jF.size + c.B.jK.size + c.C.jF.size + c.C.jK.size + c.kz.size := rfl
  rw [tJ] at a
  rw [qP]
  rw [kN (x := 20 + (c.Head.jF.size : Int)) (by omega) (by omega), kN (x := 20 + (c.Head.jF.size : Int) + (c.Head.jK.size : Int)) (by omega) (by omega), kN (x := 20 + (c.Head.jF.size : Int) + (c.Head.jK.size : Int) + (c.kA.size : Int)) (by omega) (by omega), kN (x := 20 + (c.Head.jF.size : Int) + (c.Head.jK.size : Int) + (c.kA.size : Int) + (c.B.jF.size : Int)) (by omega) (by omega), kN (x := 20 + (c.Head.jF.size : Int) + (c.Head.jK.size : Int) + (c.kA.size : Int) + (c.B.jF.size : Int) + (c.B.jK.size : Int)) (by omega) (by omega), kN (x := 20 + (c.Head.jF.size : Int) + (c.Head.jK.size : Int) + (c.kA.size : Int) + (c.B.jF.size : Int) + (c.B.jK.size : Int) + (c.C.jF.size : Int)) (by omega) (by omega), kN (x := 20 + (c.Head.jF.size : Int) + (c.Head.jK.size : Int) + (c.kA.size : Int) + (c.B.jF.size : Int) + (c.B.jK.size : Int) + (c.C.jF.size : Int) + (c.C.jK.size : Int)) (by omega) (by omega), kN (x := 20 + (c.Head.jF.size : Int) + (c.Head.jK.size : Int) + (c.kA.size : Int) + (c.B.jF.size : Int) + (c.B.jK.size : Int) + (c.C.jF.size : Int) + (c.C.jK.size : Int) + (c.kz.size : Int)) (by omega) (by omega), kN (by omega) (by omega)]
  rw [g5 l _ (by omega) (by omega), tJ]
  congr 1; omega
theorem QK : ∀ (n : Nat) (l : List Formula), deepL l < n → szFL l ≤ 1000000000000 → ∃ r : Int, oR n l = some r ∧ 0 ≤ r ∧ r ≤ (szFL l : Int) := by
 intro n
 induction n with
 | zero => intro l h; omega
 | succ n ih =>
  intro l h c
  rw [oR]
  unfold uW
  have key : ∀ (l : List Formula) (x : Int), deepL l < n + 1 → 0 ≤ x → x + (szFL l : Int) ≤ 1000000000000 → ∃ r : Int, qR (oR n) l x = some r ∧ 0 ≤ r ∧ r ≤ x + (szFL l : Int) := by
   intro l
   induction l with
   | nil => intro x _ g _; exact ⟨x, by rw [qR], g, by rw [szFL]; simp⟩
   | cons k l b =>
    intro x h g c
    rw [deepL] at h
    rw [szFL] at c
    have hk := HM k
    have := pD k
    obtain ⟨r, e, h1, i⟩ := ih k.Kids (by omega) (by omega)
    rw [qR, e, aA]
    have o : 0 ≤ Int.tdiv ((k.jB.jF.size : Int) + (k.jB.jK.size : Int)) 16 ∧ Int.tdiv ((k.jB.jF.size : Int) + (k.jB.jK.size : Int)) 16 ≤ (k.jB.jF.size : Int) + (k.jB.jK.size : Int) := by
     rw [Int.tdiv_eq_ediv_of_nonneg (by omega)]
     omega
    rw [kN (x := (k.jB.jF.size : Int) + (k.jB.jK.size : Int)) (by omega) (by omega)]
    generalize Int.tdiv ((k.jB.jF.size : Int) + (k.jB.jK.size : Int)) 16 = d at *
    rw [kN (x := d) (by omega) (by omega), kN (x := 1 + d) (by omega) (by omega), kN (x := 1 + d + r) (by omega) (by omega), kN (x := x + (1 + d + r)) (by omega) (by omega)]
    obtain ⟨m, e', a, j⟩ := b (x + (1 + d + r)) (by omega) (by omega) (by omega)
    exact ⟨m, e', a, by rw [szFL]; omega⟩
  obtain ⟨r, e, h1, i⟩ := key l 0 h (by omega) (by omega)
  exact ⟨r, e, h1, by omega⟩
theorem IZ (f : Formula) (h : yL f ≤ 50000000) : ∃ r : Int, oR kC [f] = some r ∧ 0 ≤ r ∧ r ≤ (yL f : Int) := by
 have h1 := CU f
 have c := Bb f
 obtain ⟨r, e, a, b⟩ := QK kC [f] (by rw [deepL, deepL, mU]; omega) (by rw [szFL, szFL]; omega)
 refine ⟨r, e, a, ?_⟩
 rw [szFL, szFL] at b; omega
theorem g6 (s : Signed) (h : wA s.jA + s.Tag.length ≤ 1000000000) : wD [] [s] = some (20 + (wA s.jA : Int) + (s.Tag.length : Int)) := by
 unfold wD
 rw [uh, sw]
 have := g5 [s.jA] 0 (by omega) (by rw [tJ, tJ]; omega)
 rw [show py [s.jA] = _ from this, aA, sw, tJ, tJ]
 rw [kN (x := 0 + ((20 + wA s.jA + 0 : Nat) : Int) + (s.Tag.length : Int)) (by omega) (by omega), kN (by omega) (by omega)]
 simp only [aA]
 congr 1; omega
def Ao : List kw → Nat
 | [] => 0
 | x :: l => 20 + wA x.Signed.jA + x.Signed.Tag.length + 20 * yL x.jL + Ao l
def zq : List ml → Nat
 | [] => 0
 | a :: l => a.jB.jF.size + a.jB.jK.size + 20 * yL a.jL + tJ a.lI + zq l
def HZ (p : jI) : Nat := p.Name.size + Ao p.jV + zq p.kx
theorem Ln : ∀ (l : List ml) (x : Int), 0 ≤ x → x + (zq l : Int) ≤ 1000000000 → ∃ r : Int, qM l x = some r ∧ x ≤ r ∧ r ≤ x + (zq l : Int)
 | [], x, _, _ => ⟨x, by rw [qM], by omega, by rw [zq]; omega⟩
 | a :: l, x, g, h => by
  rw [zq] at h
  obtain ⟨r, e, h1, i⟩ := IZ a.jL (by omega)
  have b := g5 a.lI 0 (by omega) (by omega)
  rw [qM, e, aA, show py a.lI = _ from b, aA]
  rw [kN (x := (a.jB.jF.size : Int) + (a.jB.jK.size : Int)) (by omega) (by omega), kN (x := 20 * r) (by omega) (by omega), kN (x := (a.jB.jF.size : Int) + (a.jB.jK.size : Int) + 20 * r) (by omega) (by omega), kN (x := (a.jB.jF.size : Int) + (a.jB.jK.size : Int) + 20 * r + (0 + (tJ a.lI : Int))) (by omega) (by omega), kN (by omega) (by omega)]
  obtain ⟨c, e', d, a2⟩ := Ln l (x + ((a.jB.jF.size : Int) + (a.jB.jK.size : Int) + 20 * r + (0 + (tJ a.lI : Int)))) (by omega) (by omega)
  exact ⟨c, e', by omega, by rw [zq]; omega⟩
theorem QV (p : jI) (d : HZ p ≤ 1000000000) : ∃ r : Int, wo p = some r ∧ 20 * (p.jV.length : Int) ≤ r ∧ r ≤ (HZ p : Int) := by
 unfold HZ at d
 have key : ∀ (l : List kw) (x : Int), 0 ≤ x → x + (Ao l : Int) + (zq p.kx : Int) ≤ 1000000000 → ∃ r : Int, qI p l x = some r ∧ x + 20 * (l.length : Int) ≤ r ∧ r ≤ x + (Ao l : Int) + (zq p.kx : Int) := by
  intro l
  induction l with
  | nil =>
   intro x c h
   rw [Ao] at h
   obtain ⟨r, e, a, b⟩ := Ln p.kx x c (by omega)
   exact ⟨r, by rw [qI, e]; rfl, by simp; omega, by rw [Ao]; omega⟩
  | cons y l ih =>
   intro x c h
   rw [Ao] at h
   obtain ⟨r, e, h1, i⟩ := IZ y.jL (by omega)
   rw [qI, g6 y.Signed (by omega)]
   simp only [aA]
   rw [e, aA]
   rw [kN (x := 20 * r) (by omega) (by omega), kN (x := 20 + (wA y.Signed.jA : Int) + (y.Signed.Tag.length : Int) + 20 * r) (by omega) (by omega), kN (by omega) (by omega)]
   obtain ⟨g, e', a, b⟩ := ih (x + (20 + (wA y.Signed.jA : Int) + (y.Signed.Tag.length : Int) + 20 * r)) (by omega) (by omega)
   exact ⟨g, e', by rw [aO]; omega, by rw [Ao]; omega⟩
 obtain ⟨r, e, a, b⟩ := key p.jV (p.Name.size : Int) (by omega) (by omega)
 unfold wo
 exact ⟨r, e, by omega, by unfold HZ; omega⟩
end Go.Proofs.YtmlncblocfcmiaaGreat
namespace Go.Proofs.YtmlncblocfcmiaaGreat
open Go.RowKit
noncomputable def QW (p : Hf) : Bool := (Fk p.jF p.Client p.Formula).getD false
def OB (l : List kw) (i : Int) : Prop := 0 ≤ i ∧ i < l.length
instance (l : List kw) (i : Int) : Decidable (OB l i) := by unfold OB; infer_instance
def Po (l : List kw) (i : Int) : List kw := if OB l i then l.eraseIdx i.toNat else l
def M2 (p : Hf) (e i : Int) : Hf :=
 if e = 0 then ⟨⟨p.jF.Name, Po p.jF.jV i, p.jF.kx⟩, p.Client, p.Formula, p.qN, p.Nn, p.Jq, p.Np, p.KO, p.Keys⟩
 else if e = 1 then ⟨p.jF, ⟨p.Client.Name, Po p.Client.jV i, p.Client.kx⟩, p.Formula, p.qN, p.Nn, p.Jq, p.Np, p.KO, p.Keys⟩
 else p
end Go.Proofs.YtmlncblocfcmiaaGreat
namespace Go.Proofs.YtmlncblocfcmiaaGreat
open Go.RowKit
noncomputable def shr (e : Int) : Nat → Hf → Hf
 | 0, p => p
 | k + 1, p => shr e k (if QW (M2 p e k) then M2 p e k else p)
end Go.Proofs.YtmlncblocfcmiaaGreat
namespace Go.Proofs.YtmlncblocfcmiaaGreat
open Go.RowKit
def Mv : Signed := ⟨⟨0, ⟨zS, zS⟩, zS, ⟨zS, zS⟩, ⟨zS, zS⟩, zS⟩, []⟩
theorem DL (c : jA) : ∀ l : List kw, sc c l = some (match l.find? (fun x => kp x.Signed.jA c) with | some x => (x.Signed, true) | none => (Mv, false))
 | [] => by rw [sc]; rfl
 | x :: l => by
  rw [sc, fq, DL c l]
  cases kp x.Signed.jA c <;> rfl
theorem Ek (p : jI) (c : jA) : vZ p c = some (match tC p c with | some x => (x.Signed, true) | none => (Mv, false)) := DL c p.jV
theorem xd {p : jI} {c : jA} (h : rk p c) : ∃ x, tC p c = some x ∧ x ∈ p.jV ∧ x.Signed.jA = c := by
 obtain ⟨y, a, rfl⟩ := h
 unfold tC
 cases e : p.jV.find? (fun x => kp x.Signed.jA y.Signed.jA) with
 | none => exact absurd (lK.2 rfl) (by simpa using eQ.1 e y a)
 | some x => exact ⟨x, rfl, fM e, lK.1 (by simpa using jo e)⟩
theorem JP {p : jI} {c : jA} (h : ¬ rk p c) : tC p c = none := by
 unfold tC
 rw [eQ]
 intro x a e
 exact h ⟨x, a, lK.1 e⟩
theorem Kq (s : lP) (hp : PB s.jI) (h : s.jU.length ≤ 30000) (c : jA) : xv s c = some (Gc s.jI (vD s.jU s.lG) c) := by
 obtain ⟨F, b⟩ := Qp s.jU h
 obtain ⟨m, d, _, g⟩ := b.QS
 have i := PN b s.lG
 have j := Gm s.jI c
 unfold xv
 rw [Hs _ hp, aA]
 unfold Gc
 by_cases a : (pH s.jI c).2 = 0
 ·simp only [a, bJ, aW, cH, fb]
  unfold CK
  rw [d, aA, aA]
  rw [Ji (vD s.jU s.lG) _ (fun r => by unfold xw; rw [og, g, ← i]; rfl) _ (by unfold Gd; omega)]
  rfl
 ·have : ((pH s.jI c).2 == 0) = false := by simpa using a
  simp only [this, aB, aM, a, cK, iw]
  rfl
theorem BQ (s : lP) {fr : List jA} (e : pn s.jI s.jU s.lG = some fr) (a : fr.length ≤ 1000000000) : vX s = some (fr.filter fun c => !mR kp s.Shown c) := by
 unfold vX
 rw [e, aA, og, Hn, BY _ (fun c => mR kp s.Shown c) zC fr (by omega) (fun c _ => by unfold vz rV; rw [og, HE]; rfl)]
theorem PM (l : List jA) (h : l.length ≤ 1000000000) : ((qj (decide (0 ≤ (if 8 < (l.length : Int) then 8 else (l.length : Int))) && decide ((if 8 < (l.length : Int) then 8 else (l.length : Int)) ≤ (l.length : Int)))).bind fun _ => some (l.take (Int.toNat (if 8 < (l.length : Int) then 8 else (l.length : Int))))) = some (l.take 8) := by
 by_cases c : 8 < (l.length : Int)
 ·rw [aZ c, zk (by omega) (by omega), aA]; rfl
 ·rw [aY c, zk (by omega) (by omega), aA, show Int.toNat (l.length : Int) = l.length by omega, List.take_length, dr (by omega)]
theorem BC (s : lP) {fr : List jA} (e : vX s = some fr) (h : fr.length ≤ 1000000000) : qv s = some (fr.take 8) ∧ re s = some (fr.isEmpty) := by
 have h1 : qv s = some (fr.take 8) := by
  unfold qv
  rw [e, aA, PM fr h]
 refine ⟨h1, ?_⟩
 unfold re
 rw [h1, aA]
 cases fr with
 | nil => rfl
 | cons x l => rfl
def rO (s : lP) (sh : List jA) : lP := ⟨s.jI, s.lG, s.Room, s.jU, sh, s.kq, s.lc⟩
def BT (p : jI) (c : jA) : Signed := match tC p c with | some x => x.Signed | none => Mv
def vU (p : jI) (l : List jA) : List Signed := l.map (BT p)
theorem Ld {l : List jA} (h : nv l) (d : l.length ≤ 1000000000) : oW l = some l := by
 obtain ⟨s, e, a⟩ := Hu l d
 rw [e]
 have : s = l := nv.ext ⟨a.1, fun c b => ((a.2 c).1 b).2⟩ h (fun c => by rw [a.2]; exact ⟨fun x => x.1, fun x => ⟨x, h.2 c x⟩⟩)
 rw [this]
theorem nv.take {s : List jA} (h : nv s) (n : Nat) : nv (s.take n) := ⟨h.1.sublist (List.take_sublist n s), fun c a => h.2 c (gG a)⟩
theorem E5 (s : lP) (hp : PB s.jI) (ha : s.jU.length ≤ 30000) : ∀ l : List jA, (∀ c ∈ l, Gc s.jI (vD s.jU s.lG) c = true) → qn s l = some (Sum.inr ())
 | [], _ => by rw [qn]
 | c :: l, h => by
  rw [qn, Kq s hp ha, aA, h c (by simp)]
  simp only [bW, aB, aM]
  exact E5 s hp ha l (fun x a => h x (by simp [a]))
theorem EX (s : lP) (hp : PB s.jI) (ha : s.jU.length ≤ 30000) (m : List jA) (hm : ∀ c ∈ m, Gc s.jI (vD s.jU s.lG) c = true) : ∀ l : List jA, (∀ c ∈ l, rk s.jI c) → qo s m l = some 0
 | [], _ => by rw [qo, E5 s hp ha m hm]; rfl
 | c :: l, h => by
  obtain ⟨x, e, _⟩ := xd (h c (by simp))
  rw [qo, Ek, aA, e]
  simp only [bW, aB, aM]
  exact EX s hp ha m hm l (fun x a => h x (by simp [a]))
theorem EJ (s : lP) (m t : List jA) (e : qa [s.Shown, m] = some (s.Shown ++ m)) (a : oW (s.Shown ++ m) = some t) (d : ∀ x ∈ s.jI.jV, x.Signed.Tag.length ≤ 1000) : ∀ (l : List jA) (acc : List Signed), (∀ c ∈ l, rk s.jI c) → acc.length + l.length ≤ 100000 →
  pf s m l acc = some (acc ++ vU s.jI l, 0, rO s t)
 | [], acc, _, _ => by
  rw [pf, e, aA, a]
  simp [vU, rO]
 | c :: l, acc, h, g => by
  rw [aO] at g
  obtain ⟨x, b, i, k⟩ := xd (h c (by simp))
  have h1 := d x i
  rw [pf, Ek, aA, b, aA]
  simp only
  unfold sF
  rw [mJ (by simp; omega) (by simp; omega)]
  simp only [aA, bO]
  rw [mJ (by simp; omega) (by simp; omega), aA]
  have := EJ s m t e a d l (acc ++ [x.Signed]) (fun y j => h y (by simp [j])) (by simp; omega)
  rw [show ([⟨x.Signed.jA, x.Signed.Tag⟩] : List Signed) = [x.Signed] from rfl, this]
  unfold vU
  rw [bH, show BT s.jI c = x.Signed by unfold BT; rw [b]]
  simp
theorem JA (s : lP) (hp : PB s.jI) (ha : s.jU.length ≤ 30000) (d : ∀ x ∈ s.jI.jV, x.Signed.Tag.length ≤ 1000) (l : List jA) (j : l.length ≤ 8) (g : nv l) (a : ∀ c ∈ l, rk s.jI c) (hm : ∀ c ∈ l, Gc s.jI (vD s.jU s.lG) c = true) (h : s.Shown.length ≤ 100000) :
  ∃ t, uu (s.Shown ++ l) t ∧ ud s l = some (vU s.jI l, 0, rO s t) := by
 obtain ⟨t, b, i⟩ := Hu (s.Shown ++ l) (by simp; omega)
 refine ⟨t, i, ?_⟩
 have e := Lc s.Shown l (by omega)
 unfold ud xP
 have : ¬ ((l.length : Int) > 8) := by omega
 simp only [this, cK, aB, aM]
 rw [EX s hp ha l hm l a, aA]
 simp only [fB, aB, aM]
 rw [Ld g (by omega), aA, EJ s l t e b d l [] a (by simp; omega)]
 rfl
end Go.Proofs.YtmlncblocfcmiaaGreat
namespace Go.Proofs.YtmlncblocfcmiaaGreat
open Go.RowKit
theorem Pp (x : Signed) : sx x x = some true := by
 unfold sx yE
 rw [aZ (lK.2 rfl), show lh (yt x.Tag) (yt x.Tag) = true from mc.2 rfl]
 rfl
theorem IH (f : Signed × Signed → Option Bool) (a : ∀ x, f (x, x) = some true) : ∀ (l A : List Signed), kO (A ++ l) f l A.length = some true
 | [], A => by rw [kO]
 | x :: l, A => by
  rw [kO, mD A x l _ rfl, aA, a x, aA]
  simp only [bW, aB, aM]
  have := IH f a l (A ++ [x])
  rw [aD, aN] at this
  exact this
theorem QF (l : List Signed) (f : Signed × Signed → Option Bool) (a : ∀ x, f (x, x) = some true) : lW l l f = some true := by
 unfold lW
 rw [aY (by simp)]
 exact IH f a l []
theorem Oh (m : vo) : yN m m = some true := by
 unfold yN
 have h1 : lh m.Name m.Name = true := mc.2 rfl
 simp only [bJ, aW, aA, h1]
 rw [Br, QF _ _ (fun x => Pp x)]
 simp
theorem LP : sS [] = some [] := by
 obtain ⟨s, e, h⟩ := OQ [] (by simp)
 rw [e]
 cases s with
 | nil => rfl
 | cons x l => exact absurd ((h.2 x).1 (by simp)).1 (by simp)
theorem H3 (all : List Signed) (i : all.length ≤ 8) (j : ∀ x ∈ all, lz x.jA = true ∧ x.Tag.length = 8) (hp : all.Pairwise fun a b => xx a.jA b.jA = true) : ∀ (l A : List Signed), all = A ++ l → rZ all l A.length = some true
 | [], A, _ => by
  rw [rZ]
  have : ((all.length : Int) ≤ 8) := by omega
  simp [this]
 | x :: l, A, e => by
  have k := j x (by rw [e]; simp)
  have prev : (if (decide ((A.length : Int) > 0)) then ((lj all (IntKind.i64.wrap ((A.length : Int) - 1))).bind fun g => ((pJ g.jA x.jA).bind fun d => some (decide (d ≥ 0)))) else some false) = some false := by
   rcases dv A with rfl | ⟨B, y, rfl⟩
   ·rfl
   ·simp only [dU] at *
    have n : B.length ≤ 8 := by rw [e] at i; simp at i; omega
    have h1 : ((B ++ [y]).length : Int) > 0 := by simp
    simp only [h1, cH, aW]
    rw [kN (by simp) (by simp; omega), show ((B ++ [y]).length : Int) - 1 = (B.length : Int) by simp, e, aN]
    rw [show B ++ ([y] ++ x :: l) = B ++ y :: (x :: l) from rfl, mD B y (x :: l) _ rfl, aA]
    obtain ⟨c, m, h⟩ := yJ y.jA x.jA
    rw [m, aA]
    have : xx y.jA x.jA = true := by
     rw [e] at hp
     exact (cR.1 hp).2.2 y (by simp) x (by simp)
    have := h.2 this
    have : ¬ (c ≥ 0) := by omega
    simp [this]
  rw [rZ, sX, k.1, aA, k.2]
  simp only [bW, aB, aM, aA]
  rw [aY (by decide), prev]
  simp only [aA, aB, aM]
  have := H3 all i j hp l (A ++ [x]) (by rw [e]; simp)
  rw [aD] at this
  exact this
theorem MJ (l : List Signed) (d : l.length ≤ 8) (g : ∀ x ∈ l, lz x.jA = true ∧ x.Tag.length = 8) (hp : l.Pairwise fun a b => xx a.jA b.jA = true) : xY ⟨2, 0, 0, zS, [], l⟩ = some true := by
 have c : BS ⟨2, 0, 0, zS, [], l⟩ = some ⟨2, 0, 0, zS, [], l⟩ := rfl
 have hw : yc [] = some true := by
  unfold yc
  rw [aZ (by decide), LP, aA, Br]
  simp
 have h : AE l = some true := H3 l d g hp l [] rfl
 unfold xY
 rw [c, aA, Oh, aA]
 have i : ((2 : Int) == 1) = false := rfl
 simp only [bW, aB, aM, i, bJ, aW]
 rw [hw, h]
 rfl
theorem Mo (l : List Signed) (a : l.length ≤ 8) : uE ⟨2, 0, 0, zS, [], l⟩ = some l.isEmpty := by
 unfold uE
 simp only [bJ, aW, aA]
 rw [kN (by simp) (by simp; omega)]
 cases l with
 | nil => rfl
 | cons x l => congr 1
structure La (s : lP) : Prop where
 JI : AQ s.jI
 peer : mE s.lG = true
 Ng : 0 ≤ s.Room
 room : s.Room ≤ 256
 acc : nv s.jU
 sh : nv s.Shown
 KX : AX s.kq s.kq
 ask : AX s.lc s.lc
 held : ∀ c ∈ s.Shown, rk s.jI c
theorem KW (l : List jA) (j : l.length ≤ 1000000000) : ∃ b, ((oW l).bind fun r => ou r l) = some b ∧ (b = true ↔ nv l) := by
 obtain ⟨s, e, h⟩ := Hu l j
 obtain ⟨b, g, i⟩ := Lu s l
 refine ⟨b, by rw [e, aA, g], i.trans ⟨fun a => ?_, fun a => ?_⟩⟩
 ·subst a; exact ⟨h.1, fun c d => ((h.2 c).1 d).2⟩
 ·exact nv.ext ⟨h.1, fun c d => ((h.2 c).1 d).2⟩ a (fun c => by rw [h.2]; exact ⟨fun x => x.1, fun x => ⟨x, a.2 c x⟩⟩)
theorem LA (l : List jB) (a : l.length ≤ 1000000000) : ∃ b, ((sS l).bind fun r => nw r l) = some b ∧ (b = true ↔ AX l l) := by
 obtain ⟨s, e, h⟩ := OQ l a
 refine ⟨decide (s = l), by rw [e, aA, Br], ?_⟩
 rw [cI]
 constructor
 ·rintro rfl; exact h
 ·intro c; exact tw.unique (JK _) h c
theorem bb {α β γ : Type} (x : Option α) (f : α → Option β) (g : β → Option γ) : (x.bind fun a => (f a).bind g) = (x.bind f).bind g := by cases x <;> rfl
theorem P8 (s : lP) (h1 : s.jU.length ≤ 1000000000) (l : s.Shown.length ≤ 1000000000) (m : s.kq.length ≤ 1000000000) (n : s.lc.length ≤ 1000000000) :
  ∃ b, xW s = some b ∧ (b = true ↔ nv s.jU ∧ nv s.Shown ∧ AX s.kq s.kq ∧ AX s.lc s.lc) := by
 obtain ⟨a, h, o⟩ := KW s.jU h1
 obtain ⟨c, i, k2⟩ := KW s.Shown l
 obtain ⟨d, j, q⟩ := LA s.kq m
 obtain ⟨g, k, r⟩ := LA s.lc n
 refine ⟨a && (c && (d && g)), ?_, by simp only [bA, o, k2, q, r]⟩
 unfold xW
 rw [bb, h, aA]
 simp only [bb, og, i, j, k]
 cases a <;> cases c <;> cases d <;> cases g <;> rfl
theorem JH (f : jA → Option Bool) (p : jA → Bool) (l : List jA) (h : ∀ x ∈ l, f x = some (p x)) : pz l f = some (l.any p) := by
 unfold pz oX
 rw [FF]; exact ED f p l h
theorem Gb (s : lP) (hp : PB s.jI) (h1 : s.jU.length ≤ 1000000000) (l : s.Shown.length ≤ 1000000000) (m : s.kq.length ≤ 1000000000) (n : s.lc.length ≤ 1000000000) :
  ∃ b, vi s = some b ∧ (b = true ↔ La s) := by
 obtain ⟨e, i, g⟩ := Gj s.jI hp
 obtain ⟨b, j, k2⟩ := P8 s h1 l m n
 have k := JH (fun x => sP x s.jI.Name s.jI.jV s.jI.kx s.lG s.Room s.jU s.Shown s.kq s.lc) (fun c => (tC s.jI c).isNone) s.Shown (fun c _ => by
  unfold sP
  rw [show (⟨s.jI.Name, s.jI.jV, s.jI.kx⟩ : jI) = s.jI from rfl, Ek, aA]
  cases tC s.jI c <;> rfl)
 have q : (s.Shown.any fun c => (tC s.jI c).isNone) = false ↔ ∀ c ∈ s.Shown, rk s.jI c := by
  rw [iS]
  refine forall_congr' fun c => forall_congr' fun w => ?_
  by_cases h : rk s.jI c
  ·obtain ⟨x, ex, _⟩ := xd h
   simp [ex, h]
  ·simp [JP h, h]
 unfold vi
 rw [i, aA]
 by_cases a : e = 0
 ·subst a
  have o := g.1 rfl
  simp only [fB, aB, aM]
  rw [rE, aA]
  cases c1 : mE s.lG
  ·exact ⟨false, rfl, by simp; intro h; have := h.peer; rw [c1] at this; cases this⟩
  ·simp only [bW, aB, aM, aA]
   by_cases c2 : s.Room < 0
   ·simp only [c2, cH, aW, aA]
    exact ⟨false, rfl, by simp; intro h; have := h.Ng; omega⟩
   ·simp only [c2, cK, aB, aM, aA]
    by_cases d : s.Room > 256
    ·simp only [d, cH, aW, aA]
     exact ⟨false, rfl, by simp; intro h; have := h.room; omega⟩
    ·simp only [d, cK, aB, aM, aA]
     rw [j, aA, aA]
     cases b with
     | false => exact ⟨false, rfl, by simp; intro h; have := k2.2 ⟨h.acc, h.sh, h.KX, h.ask⟩; cases this⟩
     | true =>
      obtain ⟨r, t, u, v⟩ := k2.1 rfl
      simp only [bW, aB, aM]
      rw [k, aA]
      refine ⟨_, rfl, ?_⟩
      rw [eZ, q]
      exact ⟨fun h => ⟨o, c1, by omega, by omega, r, t, u, v, h⟩, fun h => h.held⟩
 ·have : (e != 0) = true := by simpa using a
  simp only [this, aW, aA]
  exact ⟨false, rfl, by simp; intro h; exact a (g.2 h.JI)⟩
end Go.Proofs.YtmlncblocfcmiaaGreat
namespace Go.Proofs.YtmlncblocfcmiaaGreat
open Go.RowKit
def yd (mp : List (jA × Bool)) (s : List jA) : Prop := ∀ c, uM kp mp c false = mR kp s c
theorem yd.put {mp : List (jA × Bool)} {s : List jA} (h : yd mp s) (k : jA) : yd (mS kp mp k true) (s ++ [k]) := fun c => by
 have h1 := h c
 unfold uM at *
 rw [zN lK]
 have a := pC lK (s ++ [k]) c
 have b := pC lK s c
 cases e : kp c k
 ·simp only [aB, aM]
  rw [h1, cP, a, b]
  have : c ≠ k := fun d => by rw [d, lK.2 rfl] at e; cases e
  simp [this]
 ·simp only [aW, fE]
  rw [eq_comm, a]
  simp [lK.1 e]
theorem yd.congr {mp : List (jA × Bool)} {s t : List jA} (h : yd mp s) (e : ∀ c, c ∈ s ↔ c ∈ t) : yd mp t := fun c => by
 rw [h c, cP, pC lK, pC lK, e]
theorem Gx {p : jI} {l : List jA} (h : ∀ c ∈ l, rk p c) : (vU p l).map (·.jA) = l := by
 unfold vU
 rw [er]
 have : ∀ c ∈ l, ((fun x : Signed => x.jA) ∘ BT p) c = c := fun c b => by
  obtain ⟨x, e, _, a⟩ := xd (h c b)
  show (BT p c).jA = c
  unfold BT
  rw [e]; exact a
 rw [gK this, List.map_id']
theorem Ih (m : vo) (e : Int) (s : lP) (hp : PB s.jI) (ha : s.jU.length ≤ 30000) : ∀ (l : List Signed) (mp : List (jA × Bool)) (sh : List jA), yd mp sh → (l.map (·.jA)).Nodup → (∀ x ∈ l, x.jA ∉ sh) → (∀ x ∈ l, Gc s.jI (vD s.jU s.lG) x.jA = true) →
  ∃ a, oD (m, e, s) l mp = some (Sum.inr a) ∧ yd a (sh ++ l.map (·.jA))
 | [], mp, sh, h, _, _, _ => ⟨mp, by rw [oD], by simpa using h⟩
 | x :: l, mp, sh, h, d, g, hm => by
  rw [bH, dn] at d
  have h1 : uM kp mp x.jA false = false := by
   rw [h, ← je, pC lK]; exact g x (by simp)
  obtain ⟨a, i, j⟩ := Ih m e s hp ha l (mS kp mp x.jA true) (sh ++ [x.jA]) (h.put x.jA) d.2 (fun y b => by
   rw [aR, bM]
   rintro (c | c)
   ·exact g y (by simp [b]) c
   ·exact d.1 (bB.2 ⟨y, b, c⟩)) (fun y b => hm y (by simp [b]))
  refine ⟨a, ?_, by simpa using j⟩
  rw [oD, h1]
  simp only [aB, aM]
  rw [Kq s hp ha, aA, hm x (by simp), aA, aY (by decide)]
  exact i
theorem JN {p : jI} (j : AQ p) {l : List jA} (g : nv l) (h : ∀ c ∈ l, rk p c) : (∀ x ∈ vU p l, lz x.jA = true ∧ x.Tag.length = 8) ∧ (vU p l).Pairwise fun a b => xx a.jA b.jA = true := by
 constructor
 ·intro x k
  obtain ⟨c, d, rfl⟩ := bB.1 k
  obtain ⟨y, e, m, i⟩ := xd (h c d)
  unfold BT
  rw [e]
  exact ⟨by rw [show y.Signed.jA = c from i]; exact g.2 c d, (j.yO.1 y m).1⟩
 ·have := g.1
  rw [← Gx h] at this
  exact eX.1 this
theorem I0 (s : lP) (hp : PB s.jI) (i : AQ s.jI) (ha : s.jU.length ≤ 30000) {fr : List jA} (e : pn s.jI s.jU s.lG = some fr) (j : nv fr) (hm : ∀ c, c ∈ fr ↔ xf s.jI s.jU s.lG c) (hlen : fr.length ≤ 1000000) (d : s.Shown.length ≤ 100000) :
  ∃ t, uu (s.Shown ++ (fr.filter fun c => !mR kp s.Shown c).take 8) t ∧ qQ s = some (⟨2, 0, 0, zS, [], vU s.jI ((fr.filter fun c => !mR kp s.Shown c).take 8)⟩, 0, rO s t) := by
 have h1 : (fr.filter fun c => !mR kp s.Shown c).length ≤ fr.length := dw _ _
 have g := (BC s (BQ s e (by omega)) (by omega)).1
 have b : ∀ c ∈ (fr.filter fun c => !mR kp s.Shown c).take 8, xf s.jI s.jU s.lG c := fun c a => (hm c).1 (cV.1 (gG a)).1
 obtain ⟨t, k, h⟩ := JA s hp ha (fun x l => by have := (i.yO.1 x l).1; omega) ((fr.filter fun c => !mR kp s.Shown c).take 8) (by rw [cY]; omega) ((j.filter _).take 8) (fun c a => (b c a).1) (fun c a => (b c a).2.2) d
 refine ⟨t, k, ?_⟩
 unfold qQ
 rw [g, aA, show (⟨⟨s.jI.Name, s.jI.jV, s.jI.kx⟩, s.lG, s.Room, s.jU, s.Shown, s.kq, s.lc⟩ : lP) = s from rfl, h, aA]
 simp only [fB, aB, aM]
theorem Ik (s : lP) (hp : PB s.jI) (A : AQ s.jI) (ha : s.jU.length ≤ 30000) (i : s.jI.jV.length ≤ 30000) {fr : List jA} (e : pn s.jI s.jU s.lG = some fr) (D : nv fr) (hm : ∀ c, c ∈ fr ↔ xf s.jI s.jU s.lG c) (hlen : fr.length ≤ 1000000) :
  ∀ (xs : List kw) (mp : List (jA × Bool)) (sh : List jA), nv sh → (∀ c ∈ sh, rk s.jI c) → yd mp sh → (fr.filter fun c => !mR kp sh c).length ≤ xs.length →
  ∃ g, nv g ∧ (∀ c ∈ g, rk s.jI c) ∧ (fr.filter fun c => !mR kp g c) = [] ∧
   oC xs mp s.jI.Name s.jI.jV s.jI.kx s.lG s.Room s.jU sh s.kq s.lc = some (Sum.inr (s.jI.Name, s.jI.jV, s.jI.kx, s.lG, s.Room, s.jU, g, s.kq, s.lc))
 | [], mp, sh, u, r, o, G => ⟨sh, u, r, dM.1 (by simpa using G), by rw [oC]⟩
 | x :: xs, mp, sh, u, r, o, G => by
  have Q := FZ u r
  obtain ⟨t, v, O⟩ := I0 (rO s sh) hp A ha e D hm hlen (by show sh.length ≤ _; omega)
  have M := (BC (rO s sh) (BQ (rO s sh) e (by omega)) (by have := dw (fun c => !mR kp sh c) fr; show (fr.filter fun c => !mR kp sh c).length ≤ _; omega)).2
  rw [show (rO s sh).Shown = sh from rfl, show (rO s sh).jI = s.jI from rfl] at O
  rw [show (rO s sh).Shown = sh from rfl] at v M
  have j : ∀ c ∈ (fr.filter fun c => !mR kp sh c).take 8, xf s.jI s.jU s.lG c ∧ c ∉ sh := fun c i => by
   have z := cV.1 (gG i)
   refine ⟨(hm c).1 z.1, fun n => ?_⟩
   have P := z.2
   rw [(pC lK sh c).2 n] at P
   cases P
  have I : ((fr.filter fun c => !mR kp sh c).take 8).length ≤ 8 := by rw [cY]; omega
  have m : nv ((fr.filter fun c => !mR kp sh c).take 8) := (D.filter _).take 8
  generalize F : (fr.filter fun c => !mR kp sh c) = d at *
  have l := JN A m (fun c i => (j c i).1.1)
  have k := Gx (p := s.jI) (fun c i => (j c i).1.1)
  have q : (vU s.jI (d.take 8)).length ≤ 8 := by unfold vU; rw [cU]; exact I
  obtain ⟨L, R, n⟩ := Ih (⟨2, 0, 0, zS, [], vU s.jI (d.take 8)⟩ : vo) 0 (rO (rO s sh) t) hp ha (vU s.jI (d.take 8)) mp sh o (by rw [k]; exact m.nodup) (fun x J => by
   have : x.jA ∈ d.take 8 := by rw [← k]; exact bB.2 ⟨x, J, rfl⟩
   exact (j _ this).2) (fun x J => by
   have : x.jA ∈ d.take 8 := by rw [← k]; exact bB.2 ⟨x, J, rfl⟩
   exact (j _ this).1.2.2)
  rw [k] at n
  have tS : nv t := ⟨v.1, fun c i => ((v.2 c).1 i).2⟩
  have w : ∀ c, c ∈ t ↔ c ∈ sh ++ d.take 8 := fun c => by
   rw [v.2]
   refine ⟨fun h => h.1, fun h => ⟨h, ?_⟩⟩
   rcases aR.1 h with h | h
   ·exact u.2 c h
   ·exact m.2 c h
  have tl : (fr.filter fun c => !mR kp t c).length ≤ xs.length := by
   have : (fr.filter fun c => !mR kp t c) = d.filter fun c => !mR kp t c := by
    rw [← F, List.filter_filter]
    refine List.filter_congr fun c i => ?_
    have h1 := pC lK t c
    have z := pC lK sh c
    have n := w c
    cases a : mR kp t c <;> cases b : mR kp sh c <;> simp_all
   rw [this]
   cases d with
   | nil => simp
   | cons y d =>
    have T : mR kp t y = true := (pC lK t y).2 ((w y).2 (by simp))
    rw [fK, T]
    have := dw (fun c => !mR kp t c) d
    simp only [bW, aB, aM]
    rw [aO, aO] at G
    omega
  obtain ⟨g, U, W, Y, Z⟩ := Ik s hp A ha i e D hm hlen xs L t tS (fun c i => by
   rcases aR.1 ((w c).1 i) with h | h
   ·exact r c h
   ·exact (j c h).1.1) (n.congr (fun c => (w c).symm)) tl
  refine ⟨g, U, W, Y, ?_⟩
  rw [oC]
  rw [show (⟨⟨s.jI.Name, s.jI.jV, s.jI.kx⟩, s.lG, s.Room, s.jU, sh, s.kq, s.lc⟩ : lP) = rO s sh from rfl, M, aA, O, aA]
  simp only [fB, aB, aM]
  rw [MJ _ q l.1 l.2, aA, aA]
  simp only [bW, aB, aM]
  rw [Mo _ q, aA, aA]
  have : (vU s.jI (d.take 8)).isEmpty = d.isEmpty := by cases d <;> rfl
  rw [this]
  simp only [fB, aB, aM]
  rw [R, aA]
  exact Z
theorem Ib (s : lP) (hp : PB s.jI) (d : La s) (ha : s.jU.length ≤ 30000) (j : s.jI.jV.length ≤ 30000) (hw : s.kq.length ≤ 1000000000) (hk : s.lc.length ≤ 1000000000) : ∀ (l A : List jA) (mp : List (jA × Bool)), s.Shown = A ++ l → yd mp A → oE s l mp = some true
 | [], A, mp, e, h => by
  rw [bP] at e
  subst e
  obtain ⟨fr, i, q, hm, hlen⟩ := Nf s.jI hp s.jU (by omega) s.lG
  have h1 := dw (fun c => !mR kp s.Shown c) fr
  obtain ⟨a, k, m, n, t⟩ := Ik s hp d.JI ha j i q hm (by omega) s.jI.jV mp s.Shown d.sh d.held h (by omega)
  have r := FZ k m
  rw [oE, t, aA]
  simp only
  rw [show (⟨⟨s.jI.Name, s.jI.jV, s.jI.kx⟩, s.lG, s.Room, s.jU, a, s.kq, s.lc⟩ : lP) = rO s a from rfl]
  have g := (BC (rO s a) (BQ (rO s a) i (by omega)) (by rw [show (rO s a).Shown = a from rfl, n]; simp)).2
  rw [show (rO s a).Shown = a from rfl, n] at g
  obtain ⟨b, o, k2⟩ := Gb (rO s a) hp (by show s.jU.length ≤ _; omega) (by show a.length ≤ _; omega) hw hk
  have : b = true := k2.2 ⟨d.JI, d.peer, d.Ng, d.room, d.acc, k, d.KX, d.ask, m⟩
  subst this
  rw [g, aA, o]
  rfl
 | c :: l, A, mp, e, h => by
  rw [oE]
  exact Ib s hp d ha j hw hk l (A ++ [c]) _ (by rw [e]; simp) (h.put c)
end Go.Proofs.YtmlncblocfcmiaaGreat
namespace Go.Proofs.YtmlncblocfcmiaaGreat
open Go.RowKit
def O8 : ByteArray := ⟨#[109, 101]⟩
def D8 : ByteArray := ⟨#[121, 111, 117]⟩
def eC : jA := ⟨1, sY, O8, ⟨zS, zS⟩, ⟨zS, zS⟩, zS⟩
def eP : jI := ⟨O8, [D6 eC vT], []⟩
def eS (sh : List jA) : lP := ⟨eP, D8, 9, [], sh, [], []⟩
theorem Gg : lz eC = true := by decide +kernel
theorem O1 : PB eP := OT J7
theorem NR {l : List jA} (h : nv l) : uu l l := ⟨h.1, fun c => ⟨fun a => ⟨a, h.2 c a⟩, fun a => a.1⟩⟩
theorem Qd : AQ eP where
 name := by decide +kernel
 OF := by decide +kernel
 yO := ⟨fun x b => by obtain rfl := bM.1 b; exact ⟨rfl, by decide +kernel⟩, NR (FC Gg)⟩
 Cp := ⟨fun a ha => (by cases ha), trivial⟩
 guards := fun x b => by
  obtain rfl := bM.1 b
  show (pH ⟨O8, [D6 eC vT], []⟩ eC).2 = 0
  rw [Gv, I2, aZ (lK.2 rfl)]
  simp only [I3]
theorem J3 : pn eP [] D8 = some [eC] ∧ (∀ c, c ∈ [eC] ↔ xf eP [] D8 c) := by
 obtain ⟨fr, e, b, hm, _⟩ := Nf eP O1 [] (by simp) D8
 have h : ∀ c, c ∈ fr ↔ c = eC := fun c => by rw [hm]; exact Mg Gg [] D8 c
 have : fr = [eC] := HD b (fun c a => (h c).1 a) ((h eC).2 rfl) Gg
 subst this
 exact ⟨e, hm⟩
theorem PF : ve eP D8 9 = some (eS [], 0) := by
 obtain ⟨e, h, a⟩ := Gj eP O1
 rw [a.2 Qd] at h
 unfold ve
 rw [h, rE, show mE D8 = true by decide +kernel]
 rfl
theorem Nk (sh : List jA) (a : sh.length ≤ 10) : ∃ t, uu (sh ++ ([eC].filter fun c => !mR kp sh c).take 8) t ∧ qQ (eS sh) = some (⟨2, 0, 0, zS, [], vU eP (([eC].filter fun c => !mR kp sh c).take 8)⟩, 0, eS t) :=
 I0 (eS sh) O1 Qd (by simp [eS]) J3.1 (FC Gg) J3.2 (by simp) (by show sh.length ≤ _; omega)
theorem Li (sh : List jA) : qv (eS sh) = some (([eC].filter fun c => !mR kp sh c).take 8) ∧ re (eS sh) = some ([eC].filter fun c => !mR kp sh c).isEmpty :=
 BC (eS sh) (BQ (eS sh) J3.1 (by simp)) (by have := dw (fun c => !mR kp sh c) [eC]; simp at this; show ([eC].filter fun c => !mR kp sh c).length ≤ _; omega)
theorem Qh : ([eC].filter fun c => !mR kp [] c) = [eC] := rfl
theorem Qc : ([eC].filter fun c => !mR kp [eC] c) = [] := by
 have : mR kp [eC] eC = true := (pC lK _ _).2 (by simp)
 simp [this]
theorem NW : ur = some true := by
 have l : CY 1 (0 : Int) 8 = some (List.replicate 8 0) := by unfold CY; rw [aZ (by decide)]; rfl
 obtain ⟨t, d, i⟩ := Nk [] (by simp)
 rw [Qh] at d i
 have n : nv t := ⟨d.1, fun c b => ((d.2 c).1 b).2⟩
 have : t = [eC] := HD n (fun c b => by simpa using ((d.2 c).1 b).1) ((d.2 eC).2 ⟨by simp, Gg⟩) Gg
 subst this
 obtain ⟨t2, a, g⟩ := Nk [eC] (by simp)
 rw [Qc] at a g
 have h : nv t2 := ⟨a.1, fun c b => ((a.2 c).1 b).2⟩
 have : t2 = [eC] := HD h (fun c b => by simpa using ((a.2 c).1 b).1) ((a.2 eC).2 ⟨by simp, Gg⟩) Gg
 subst this
 obtain ⟨s1, j⟩ := Li []
 obtain ⟨s2, k⟩ := Li [eC]
 rw [Qh] at s1 j
 rw [Qc] at s2 k
 have m := PF
 have em : uE ⟨2, 0, 0, zS, [], vU eP []⟩ = some true := rfl
 unfold ur
 rw [l, aA, aA]
 simp only
 rw [show ve (⟨(⟨#[109, 101]⟩ : ByteArray), [⟨⟨⟨1, ⟨(⟨#[120]⟩ : ByteArray), (⟨#[121]⟩ : ByteArray)⟩, (⟨#[109, 101]⟩ : ByteArray), ⟨zS, zS⟩, ⟨zS, zS⟩, zS⟩, List.replicate 8 0⟩, ⟨2, 0, ⟨zS, zS⟩, []⟩⟩], []⟩ : jI) (⟨#[121, 111, 117]⟩ : ByteArray) 9 = _ from m]
 simp only [aA]
 rw [s1, j, i]
 simp only [aA]
 rw [show List.take 8 ([] : List jA) = [] from rfl] at g
 rw [g]
 simp only [aA]
 rw [em, k]
 rw [show lj (List.take 8 [eC]) 0 = some eC from rfl]
 simp only [aA]
 rw [show kp eC (⟨1, ⟨(⟨#[120]⟩ : ByteArray), (⟨#[121]⟩ : ByteArray)⟩, (⟨#[109, 101]⟩ : ByteArray), ⟨zS, zS⟩, ⟨zS, zS⟩, zS⟩ : jA) = true from lK.2 rfl]
 rfl
def tu : List jB → Nat
 | [] => 0
 | r :: l => 5 + r.jF.size + r.jK.size + tu l
theorem Ls : ∀ (l : List jB) (x : Int), 0 ≤ x → x + (tu l : Int) ≤ 4000000000000000000 → qT l x = some (x + (tu l : Int))
 | [], x, _, _ => by rw [qT, tu]; simp
 | r :: l, x, a, h => by
  rw [tu] at h
  rw [qT, kN (x := 5 + (r.jF.size : Int)) (by omega) (by omega), kN (x := 5 + (r.jF.size : Int) + (r.jK.size : Int)) (by omega) (by omega), kN (by omega) (by omega), Ls l _ (by omega) (by omega), tu]
  congr 1; omega
theorem KD (a b : List jB) : tu (a ++ b) = tu a + tu b := by
 induction a with
 | nil => simp [tu]
 | cons r a ih => rw [cA, tu, tu, ih]; omega
theorem BD : ∀ l : List jA, 20 * l.length ≤ tJ l
 | [] => by simp
 | c :: l => by have := BD l; rw [tJ, aO]; omega
structure SQ (s : lP) : Prop where
 p : PG s.jI
 go : HZ s.jI ≤ 1000000000
 acc : tJ s.jU ≤ 1000000000
 sh : tJ s.Shown ≤ 1000000000
 wl : s.kq.length ≤ 10000000
 al : s.lc.length ≤ 10000000
 KX : tu s.kq ≤ 1000000000
 ask : tu s.lc ≤ 1000000000
 peer : s.lG.size ≤ 1000000000
theorem QR (s : lP) (h : SQ s) : ∃ r : Int, wF s = some r ∧ 20 * (s.jI.jV.length : Int) ≤ r ∧ 20 * (s.jU.length : Int) ≤ r := by
 have h1 := h.go
 have j := h.acc
 have k := h.sh
 have l := h.wl
 have m := h.al
 have n := h.KX
 have o := h.ask
 have q := h.peer
 obtain ⟨a, b, g, i⟩ := QV s.jI h1
 have c := g5 s.jU 0 (by omega) (by omega)
 have d := g5 s.Shown 0 (by omega) (by omega)
 have c1 := BD s.jU
 have c2 := BD s.Shown
 unfold wF
 rw [b, aA, show py s.jU = _ from c, aA, show py s.Shown = _ from d, aA]
 rw [mJ (by simp; omega) (by simp; omega), aA, bO, mJ (by omega) (by omega), aA]
 rw [kN (x := a + (s.lG.size : Int)) (by omega) (by omega), kN (x := a + (s.lG.size : Int) + (0 + (tJ s.jU : Int))) (by omega) (by omega), kN (by omega) (by omega)]
 rw [Ls _ _ (by omega) (by rw [KD]; omega)]
 exact ⟨_, rfl, by omega, by omega⟩
theorem Fb (i : ur = some true) (s : lP) (a : SQ s) : sM s = some true := by
 obtain ⟨g, h, n, o⟩ := QR s a
 have c2 := BD s.Shown
 have j := a.sh
 have l := a.wl
 have m := a.al
 unfold sM
 rw [i, h]
 simp only [aA, bW, aB, aM]
 by_cases d : g > 4000
 ·simp only [d, cH, aW, aA]
 ·simp only [d, cK, aB, aM]
  obtain ⟨b, e, k⟩ := Gb s a.p.toPB (by omega) (by omega) (by omega) (by omega)
  rw [e]
  simp only [aA]
  cases b
  ·rfl
  ·simp only [bW, aB, aM]
   exact Ib s a.p.toPB (k.1 rfl) (by omega) (by omega) (by omega) (by omega) s.Shown [] [] rfl (fun c => rfl)
end Go.Proofs.YtmlncblocfcmiaaGreat
namespace Go.Proofs.YtmlncblocfcmiaaGreat.Lf
open Go.ChangeShapes Go.WideShapes Go.ChangeAt Go.RowKit
open Go.Proofs.YtmlncblocfcmiaaGreat (Rows.uptoBulk Rows.uptoBulkAll Rows.uptoSmall)
theorem Ou {H : Type} (d : DataW H) : 1 ≤ Rows.uptoBulk d := by
 cases d with
 | lit l => cases l <;> simp [Rows.uptoBulk]
 | nil => simp [Rows.uptoBulk]
 | ptr d => simp [Rows.uptoBulk]
 | slice a spare => simp [Rows.uptoBulk]
 | agg parts => simp [Rows.uptoBulk]
 | iface t d => simp [Rows.uptoBulk]
 | map entries => simp [Rows.uptoBulk]
 | held h => simp [Rows.uptoBulk]
def Gw {α : Type} (P : Program) (t : TypeId) (enc : α → List Value) (sz : α → Nat) : Prop :=
 ∀ (H : Type) (b : TypeId × Value → H) (W : World) (base : Nat) (sp : Nat → Bool) (c : Bool) (fuel : Nat) (cs : List Value) (x : DataW H × List MemPlace),
  DataW.trod b P W base sp c fuel t cs = some x → ∃ a : α, cs = enc a ∧ sz a ≤ Rows.uptoBulk x.1
theorem Jz {P : Program} {t : TypeId} (a : P.underlying t = some .string) : Gw P t (fun s : ByteArray => [.string s]) (fun s => s.size) := by
 intro H b W base sp c fuel cs x h
 obtain ⟨s, rfl, rfl, _⟩ := DataW.trod_string a h
 refine ⟨s, rfl, ?_⟩
 have e : s.data.toList.length = s.size := by rw [dl]; rfl
 simp [Rows.uptoBulk, e]
theorem Od {P : Program} {t : TypeId} {k : IntKind} (a : P.underlying t = some (.int k)) : Gw P t (fun n : Int => [.int k n]) (fun _ => 0) := by
 intro H b W base sp c fuel cs x h
 obtain ⟨n, rfl, rfl, _⟩ := DataW.trod_int a h
 exact ⟨n, rfl, ev _⟩
theorem NJ {α : Type} {n : Nat} {p : Nat → α → Prop} (h : ∀ i, i < n → ∃ x, p i x) : ∃ l : List α, l.length = n ∧ ∀ i x, l[i]? = some x → p i x := by
 induction n with
 | zero => exact ⟨[], rfl, by simp⟩
 | succ n ih =>
  obtain ⟨l, h1, c⟩ := ih fun i b => h i (by omega)
  obtain ⟨x, g⟩ := h n (by omega)
  refine ⟨l ++ [x], by simp [h1], fun i y a => ?_⟩
  by_cases b : i < l.length
  ·rw [fL b] at a
   exact c i y a
  ·rw [eK (by omega)] at a
   have : i - l.length = 0 := by
    cases d : i - l.length with
    | zero => rfl
    | succ m => rw [d] at a; simp at a
   rw [this] at a
   have e : i = n := by omega
   simp at a
   subst a; rw [e]; exact g
theorem Ha {W : World} {a : Addr} {v : Value} (h : W.cell? a = some v) : ∃ cs T fr, W.heap[a.block]? = some (.cells cs T fr) ∧ a.spot = none ∧ cs[a.off]? = some v := by
 unfold World.cell? at h
 split at h
 ·rename_i c T fr d
  by_cases b : a.spot.isSome
  ·simp [b] at h
  ·simp only [b] at h
   exact ⟨c, T, fr, d, by simpa using b, by simpa using h⟩
 ·cases h
theorem Ex.below {dd : Bool} {W W' : World} (h : Ex dd W W') : Below W.heap.size W W' := ⟨h.os, h.tape, h.output, h.size, h.mh⟩
theorem B4 {H : Type} {j : TypeId × Value → H} {P : Program} (l : laidOutB P = true) {W W' : World} {b : Nat → Bool} :
  ∀ {g : List TypeId} {vs : List Value} {ds : List (DataW H)} {c : List MemPlace}, (∀ t ∈ g, P.readableRec t = true ∧ t < P.types.size) →
   DataW.TrodAll j P W 0 (fun _ => true) true g vs ds c → (∀ p ∈ c, W.sameAt W' p) → (∀ p ∈ c, b p.block = true) → DataW.TrodAll j P W' 0 b true g vs ds c
 | [], _, _, _, _, h, _, _ => by
  obtain ⟨rfl, rfl, rfl⟩ := trodAll_nil h
  exact trodAll_mk0
 | t :: g, _, _, _, i, h, h1, k => by
  obtain ⟨v, vs, d, ds, p, q, rfl, rfl, rfl, m, n⟩ := trodAll_cons h
  exact trodAll_cons_mk (WideElems.Trod_stays l (i t (by simp)).1 (i t (by simp)).2 m (fun x a => h1 x (by simp [a])) (fun x a => k x (by simp [a])))
   (B4 l (fun u hu => i u (by simp [hu])) n (fun x a => h1 x (by simp [a])) (fun x a => k x (by simp [a])))
theorem J6 {H : Type} {enc : TypeId × Value → H} {P : Program} (I : laidOutB P = true) {f : Func} {s : ChangeSpec} {apart fresh handsOn again : Bool} {W W' : World} {args : Array Value} {v : Value} {ds gs : List (DataW H)} {before : List MemPlace} (L : ∀ t ∈ f.params.toList, P.readableRec t = true ∧ t < P.types.size) (l : s.vars = []) (n : DataW.Whole enc P f.params.toList s.vars apart W args.toList ds gs before) {dd : Bool} (A : Ex dd W W') (a : ∀ (b : Nat) (sp : Nat → Bool) (G : Bool), DataW.TrodAll enc P W' b sp G f.resultTypes.toList (v.resultList f.resultTypes.size) (s.fn H (ds ++ gs)).results []) (c : (s.fn H (ds ++ gs)).args = ds) (g : (s.fn H (ds ++ gs)).vars = []) (y : ∀ (j : Nat) (t : TypeId) (r : Value), f.resultTypes[j]? = some t → (v.resultList f.resultTypes.size)[j]? = some r → Value.okWide P W' .any 0 t r) :
  s.post enc P f apart fresh handsOn again W args v W' := by
 have d := n.lt
 have hold : ∀ p ∈ before, (fun b => decide (b < W.heap.size)) p.block = true := fun p hp => by simpa using d p hp
 have u := Ex.below A
 have o := n
 obtain ⟨p, q, F, D, i, M, J⟩ := n
 rw [l] at D
 obtain ⟨rfl, rfl⟩ := trodVars_none D
 rw [bP] at i
 subst i
 have k : ∀ sp : Nat → Bool, (∀ p ∈ before, sp p.block = true) → DataW.TrodAll enc P W' 0 sp true f.params.toList args.toList (s.fn H (ds ++ [])).args before := fun sp z => by
  rw [c]
  exact B4 I L F (fun x A => u.same (d x A)) z
 have m : ∀ sp : Nat → Bool, DataW.TrodVars enc P W' sp s.vars (s.fn H (ds ++ [])).vars [] := fun sp => by
  rw [g, l]; rfl
 refine ⟨ds, [], before, [], before, [], o, a _ _ _, k _ hold, m _, World.keptBut_mono (fun p hp => ⟨hp, ?_⟩) (u.frame (· ∈ before)), fun _ => ?_⟩
 ·exact Or.inr (Or.inl hp)
 ·refine ⟨y, _, _, ([] ++ before) ++ [], ⟨[] ++ before, [], trodAll_append (k _ (fun _ _ => rfl)) (a _ _ _), m _, rfl, ?_, ?_⟩, ?_⟩
  ·intro b off hp
   have h : MemPlace.cell b off ∈ before := by simpa using hp
   rw [World.frozen?_of_block (w := W) (u.block b (d _ h))]
   exact M b off h
  ·intro ha
   simpa using J ha
  ·intro p hp _
   simpa using hp
end Go.Proofs.YtmlncblocfcmiaaGreat.Lf
namespace Go.Proofs.YtmlncblocfcmiaaGreat.Lf
open Go.ChangeShapes Go.WideShapes Go.ChangeAt Go.RowKit
open Go.Proofs.YtmlncblocfcmiaaGreat (Rows.uptoBulk Rows.uptoBulkAll Rows.uptoSmall)
def Em {α : Type} (P : Program) (t : TypeId) (R : pj α) (sz : α → Nat) : Prop :=
 ∀ (H : Type) (b : TypeId × Value → H) (W : World) (base : Nat) (sp : Nat → Bool) (c : Bool) (fuel : Nat) (cs : List Value) (x : DataW H × List MemPlace),
  DataW.trod b P W base sp c fuel t cs = some x → ∃ a : α, R (hp W) cs a ∧ sz a ≤ Rows.uptoBulk x.1
theorem Gw.rel {α : Type} {P : Program} {t : TypeId} {enc : α → List Value} {sz : α → Nat} (h : Gw P t enc sz) : Em P t (Pl enc) sz := fun H a W base sp b fuel cs x c => h H a W base sp b fuel cs x c
end Go.Proofs.YtmlncblocfcmiaaGreat.Lf
namespace Go.Proofs.YtmlncblocfcmiaaGreat.Lf
open Go.ChangeShapes Go.WideShapes Go.ChangeAt Go.RowKit
open Go.Proofs.YtmlncblocfcmiaaGreat (Rows.uptoBulk Rows.uptoBulkAll Rows.uptoSmall)
theorem D1 {H : Type} : ∀ l : List (DataW H), Rows.uptoBulkAll l = (l.map Rows.uptoBulk).sum
 | [] => by simp [Rows.uptoBulkAll]
 | d :: l => by simp [Rows.uptoBulkAll, D1 l]
theorem Ku {α : Type} (g : α → Nat) : ∀ (n : Nat) (f : Nat → Nat) {l : List α}, l.length = n → (∀ i x, l[i]? = some x → g x ≤ f i) → (l.map g).sum ≤ ((List.range n).map f).sum
 | 0, f, l, b, h => by
  obtain rfl := dM.1 b
  simp
 | n + 1, f, [], b, h => by cases b
 | n + 1, f, a :: l, b, h => by
  rw [List.range_succ_eq_map, bH, bH, fc, fc, er]
  have h1 := h 0 a rfl
  have d := Ku g n (f ∘ Nat.succ) (l := l) (by simpa using b) (fun i x c => h (i + 1) x (by simpa using c))
  omega
def rC {α : Type} (sz : α → Nat) (l : List α) : Nat := (l.map fun a => max 1 (sz a)).sum
theorem zc {α : Type} (sz : α → Nat) : ∀ l : List α, l.length ≤ rC sz l
 | [] => aV _
 | a :: l => by have := zc sz l; simp only [rC, bH, fc, aO] at this ⊢; omega
theorem EU {α : Type} {sz : α → Nat} : ∀ {l : List α} {a : α}, a ∈ l → sz a ≤ rC sz l
 | b :: l, a, h => by
  simp only [rC, bH, fc]
  rcases aQ.1 h with rfl | h
  ·omega
  ·have := EU (sz := sz) h; simp only [rC] at this; omega
theorem DU {α : Type} {P : Program} {t e : TypeId} {k : Nat} {R : pj α} {sz : α → Nat} (hk : P.cellsOf e = k) (J : 0 < k) (ht : P.underlying t = some (.slice e)) {H : Type} {U : TypeId × Value → H} {W : World} {base : Nat} {sp : Nat → Bool} {held : Bool} {fuel : Nat} {cs : List Value} {x : DataW H × List MemPlace} (hd : ∀ (fuel : Nat) (cs : List Value) (y : DataW H × List MemPlace), DataW.trod U P W base sp held fuel e cs = some y → SizeOf.sizeOf y.1 < SizeOf.sizeOf x.1 → ∃ a : α, R (hp W) cs a ∧ sz a ≤ Rows.uptoBulk y.1) (hf : DataW.trod U P W base sp held fuel t cs = some x) :
  ∃ v l, cs = [v] ∧ Sl R k (hp W) v l ∧ rC sz l ≤ Rows.uptoBulk x.1 := by
 rcases Go.Deep.open_slice ht hf with ⟨rfl, rfl⟩ | ⟨a, ln, cp, m, n, D, Q, rfl, hb, hl, hm, M, rfl, G⟩
 ·exact ⟨_, [], rfl, ⟨none, 0, rfl, aV _, ev _, fun h => absurd h (Nat.lt_irrefl _)⟩, ev _⟩
 ·have aa : ln ≤ m := by rw [M]; split <;> omega
  have hB : ((List.range ln).map fun i => Rows.uptoBulk (D i)).sum ≤ Rows.uptoBulk (DataW.slice ((List.range ln).map D) ((List.range (m - ln)).map fun j => D (ln + j))) := by
   simp only [Rows.uptoBulk]
   rw [D1, er]
   have e : ((List.range ln).map fun i => Rows.uptoBulk (D i)) = (List.range ln).map (Rows.uptoBulk ∘ D) := rfl
   rw [e]
   omega
  have hS : ∀ i, i < ln → SizeOf.sizeOf (D i) < SizeOf.sizeOf (DataW.slice ((List.range ln).map D) ((List.range (m - ln)).map fun j => D (ln + j))) := fun i I => by
   have := List.sizeOf_lt_of_mem (bB.2 ⟨i, List.mem_range.2 I, rfl⟩ : D i ∈ (List.range ln).map D)
   rw [DataW.slice.sizeOf_spec]; omega
  simp only at hd ⊢
  generalize Rows.uptoBulk (DataW.slice ((List.range ln).map D) ((List.range (m - ln)).map fun j => D (ln + j))) = B at hB
  obtain ⟨l, L, q⟩ := NJ (α := α) (n := ln) (p := fun i x => ∃ b, W.cells? base (a.add (i * k)) k = some b ∧ R (hp W) b x ∧ sz x ≤ Rows.uptoBulk (D i)) fun i I => by
   obtain ⟨b, h1, w⟩ := G i (by omega)
   obtain ⟨x, hR, z⟩ := hd _ _ _ w (hS i I)
   rw [hk] at h1
   exact ⟨x, b, h1, hR, z⟩
  subst L
  refine ⟨_, l, rfl, ⟨some a, cp, rfl, hl, hm, fun h0 => ?_⟩, ?_⟩
  ·have c : ∀ i x, l[i]? = some x → ∃ b, R (hp W) b x ∧ b.length = k ∧ ∀ j, j < k → W.cell? ((a.add (i * k)).add j) = b[j]? := fun i x r =>
    let ⟨b, h1, w, _⟩ := q i x r
    let ⟨_, z, Y⟩ := World.cells?_some h1
    ⟨b, w, z, Y⟩
   obtain ⟨a6, _, Y, h5⟩ := c 0 l[0] (by simp [h0])
   have A := h5 0 J
   rw [Nat.zero_mul, cW (by omega)] at A
   have e0 : (a.add 0).add 0 = a := rfl
   rw [e0] at A
   obtain ⟨cs, T, fr, F, Z, _⟩ := Ha A
   obtain ⟨s, u, a1⟩ := a
   simp only at F Z
   subst Z
   refine ⟨s, u, cs, T, fr, rfl, F, fun i x r => ?_⟩
   obtain ⟨b, gR, g1, g2⟩ := c i x r
   refine ⟨b, g1, gR, fun j y hy => ?_⟩
   have hj : j < k := by
    rw [← g1]
    exact (bG.1 hy).1
   have h9 := g2 j hj
   rw [Go.Deep.add_add, hy] at h9
   obtain ⟨O, T', a7, d, a8, g⟩ := Ha h9
   have o : (Addr.add ⟨s, u, none⟩ (i * k + j)).block = s ∧ (Addr.add ⟨s, u, none⟩ (i * k + j)).off = u + (i * k + j) := by
    unfold Addr.add
    split
    ·rename_i hz
     rw [hz]; exact ⟨rfl, rfl⟩
    ·exact ⟨rfl, rfl⟩
   rw [o.1, F] at d
   cases d
   rw [o.2, ← ep] at g
   exact g
  ·refine dB (Ku _ _ _ rfl fun i x r => ?_) hB
   exact Nat.max_le.2 ⟨Ou _, (q i x r).elim fun _ h => h.2.2⟩
theorem rX {α : Type} {P : Program} {t e : TypeId} {k : Nat} {R : pj α} {sz : α → Nat} (hk : P.cellsOf e = k) (a : 0 < k) (c : Em P e R sz) (g : P.underlying t = some (.slice e)) {H : Type} {b : TypeId × Value → H} {W : World} {base : Nat} {sp : Nat → Bool} {held : Bool} {fuel : Nat} {cs : List Value} {x : DataW H × List MemPlace} (d : DataW.trod b P W base sp held fuel t cs = some x) :
  ∃ v l, cs = [v] ∧ Sl R k (hp W) v l ∧ rC sz l ≤ Rows.uptoBulk x.1 := DU hk a g (fun _ _ _ h _ => c _ _ _ _ _ _ _ _ _ h) d
end Go.Proofs.YtmlncblocfcmiaaGreat.Lf
namespace Go.Proofs.YtmlncblocfcmiaaGreat.Lf
open Go.ChangeShapes Go.WideShapes Go.ChangeAt Go.RowKit
open Go.Proofs.YtmlncblocfcmiaaGreat (Rows.uptoBulk Rows.uptoBulkAll Rows.uptoSmall)
def KB {α : Type} (R : pj α) (Q : α → Prop) : pj α := fun μ ys x => R μ ys x ∧ Q x
theorem Sl.all {α : Type} {R : pj α} {Q : α → Prop} {k : Nat} {μ : km} {v : Value} {l : List α} (h : Sl (KB R Q) k μ v l) : Sl R k μ v l ∧ ∀ x ∈ l, Q x := by
 obtain ⟨A, c, rfl, h1, j, r⟩ := h
 cases l with
 | nil => exact ⟨⟨A, c, rfl, h1, j, fun h => absurd h (by simp)⟩, by simp⟩
 | cons a l =>
  obtain ⟨b, o, cs, T, fr, e, s, m⟩ := r (by simp)
  refine ⟨⟨A, c, rfl, h1, j, fun _ => ⟨b, o, cs, T, fr, e, s, fun i x g => ?_⟩⟩, fun x g => ?_⟩
  ·obtain ⟨ys, n, d, q⟩ := m i x g
   exact ⟨ys, n, d.1, q⟩
  ·obtain ⟨i, t⟩ := List.mem_iff_getElem?.1 g
   obtain ⟨ys, n, d, q⟩ := m i x t
   exact d.2
theorem Oe {P : Program} {t : TypeId} (a : P.underlying t = some (.int .u8)) : Em P t (KB (Pl (kU .u8)) (fun x => 0 ≤ x ∧ x < 256)) (fun _ => 0) := by
 intro H b W base sp c fuel cs x h
 obtain ⟨n, rfl, rfl, hw⟩ := DataW.trod_int a h
 refine ⟨n, ⟨rfl, ?_⟩, ev _⟩
 simp [Lit.wf, IntKind.min, IntKind.max, IntKind.bits, IntKind.signed] at hw
 omega
end Go.Proofs.YtmlncblocfcmiaaGreat.Lf
namespace Go.Proofs.YtmlncblocfcmiaaGreat
set_option maxRecDepth 10000
open Go.ChangeShapes Go.WideShapes Go.ChangeAt Go.RowKit
open Go.Proofs.YtmlncblocfcmiaaGreat Go.Proofs.YtmlncblocfcmiaaGreat.Lf
def iB := @Tryz.underlying22
theorem Mw : Tryz.prog.cellsOf 160 = 9 := by kernel_rfl
theorem Qt {α : Type} {l : List α} (h : l.length = 7) : ∃ a0 a a2 a3 a4 a5 b, l = [a0, a, a2, a3, a4, a5, b] := by
 match l, h with
 | [a0, a, a2, a3, a4, a5, b], _ => exact ⟨a0, a, a2, a3, a4, a5, b, rfl⟩
theorem OW {α : Type} {l : List α} (h : l.length = 9) : ∃ a0 a a2 a3 a4 a5 b c d, l = [a0, a, a2, a3, a4, a5, b, c, d] := by
 match l, h with
 | [a0, a, a2, a3, a4, a5, b, c, d], _ => exact ⟨a0, a, a2, a3, a4, a5, b, c, d, rfl⟩
theorem MT : Tryz.prog.cellsOf 110 = 3 := by kernel_rfl
theorem O6 {α : Type} {l : List α} (h : l.length = 3) : ∃ a0 a a2, l = [a0, a, a2] := by
 match l, h with
 | [a0, a, a2], _ => exact ⟨a0, a, a2, rfl⟩
theorem EI : Tryz.prog.cellsOf 9 = 1 := by kernel_rfl
theorem FD : Gw Tryz.prog 9 (fun s : ByteArray => [.string s]) (fun s => s.size) := Jz Tryz.underlying9
theorem MZ : Tryz.prog.cellsOf 107 = 1 := by kernel_rfl
theorem Hm : Tryz.prog.cellsOf 138 = 15 := by kernel_rfl
theorem JL {α : Type} {l : List α} (h : l.length = 2) : ∃ a0 a, l = [a0, a] := by
 match l, h with
 | [a0, a], _ => exact ⟨a0, a, rfl⟩
theorem P4 {α : Type} {l : List α} (h : l.length = 15) : ∃ a0 g a2 a3 a4 a5 i j k a9 a b a12 c d, l = [a0, g, a2, a3, a4, a5, i, j, k, a9, a, b, a12, c, d] := by
 match l, h with
 | [a0, g, a2, a3, a4, a5, i, j, k, a9, a, b, a12, c, d], _ => exact ⟨a0, g, a2, a3, a4, a5, i, j, k, a9, a, b, a12, c, d, rfl⟩
theorem NI : Tryz.prog.cellsOf 56 = 10 := by kernel_rfl
theorem Bc : Tryz.prog.cellsOf 53 = 9 := by kernel_rfl
theorem JQ : Gw Tryz.prog 3 (fun n : Int => [.int .i64 n]) (fun _ => 0) := Od Tryz.underlying3
theorem G9 : Tryz.prog.cellsOf 3 = 1 := by kernel_rfl
theorem za : Tryz.prog.cellsOf 28 = 2 := by kernel_rfl
def qg (x : jB) : Nat := x.jF.size + x.jK.size
theorem Bz : Gw Tryz.prog 28 jH qg := by
 intro H d W base sp i fuel cs x h
 obtain ⟨xs, n, _, rfl, m, hlen, j⟩ := ei Tryz.underlying28 h
 obtain ⟨q, r, rfl⟩ := JL hlen
 obtain ⟨a, c1, rfl⟩ := JL (m.trans za)
 have g : DataW.trod d Tryz.prog W base sp i n 9 (([a, c1].drop 0).take (Tryz.prog.cellsOf 9)) = some q := j 0 _ rfl
 have h1 : DataW.trod d Tryz.prog W base sp i n 9 (([a, c1].drop 1).take (Tryz.prog.cellsOf 9)) = some r := j 1 _ rfl
 simp only [EI, List.drop, List.take] at g h1
 obtain ⟨o, b, k⟩ := FD _ _ _ _ _ _ _ _ _ g
 obtain ⟨s1, c, l⟩ := FD _ _ _ _ _ _ _ _ _ h1
 simp only [bE, dY] at b c
 obtain rfl := b
 obtain rfl := c
 refine ⟨⟨o, s1⟩, rfl, ?_⟩
 simp only [List.map, Rows.uptoBulk, Rows.uptoBulkAll, qg] at k l ⊢
 omega
theorem QD {α : Type} {l : List α} (h : l.length = 6) : ∃ a0 a a2 a3 a4 a5, l = [a0, a, a2, a3, a4, a5] := by
 match l, h with
 | [a0, a, a2, a3, a4, a5], _ => exact ⟨a0, a, a2, a3, a4, a5, rfl⟩
def sk (x : jA) : Nat := qg x.Head + x.kA.size + qg x.B + qg x.C + x.kz.size
theorem GU : Gw Tryz.prog 53 jD sk := by
 intro H k W base sp l fuel cs x h
 obtain ⟨xs, n, _, rfl, M, hlen, m⟩ := ei Tryz.underlying53 h
 obtain ⟨T, U, Y, Z, y4, y5, rfl⟩ := QD hlen
 obtain ⟨a, c1, c2, b, c, d, g, i, j, rfl⟩ := OW (M.trans Bc)
 have v : DataW.trod k Tryz.prog W base sp l n 3 (([a, c1, c2, b, c, d, g, i, j].drop 0).take (Tryz.prog.cellsOf 3)) = some T := m 0 _ rfl
 have h1 : DataW.trod k Tryz.prog W base sp l n 28 (([a, c1, c2, b, c, d, g, i, j].drop 1).take (Tryz.prog.cellsOf 28)) = some U := m 1 _ rfl
 have w : DataW.trod k Tryz.prog W base sp l n 9 (([a, c1, c2, b, c, d, g, i, j].drop 3).take (Tryz.prog.cellsOf 9)) = some Y := m 2 _ rfl
 have y : DataW.trod k Tryz.prog W base sp l n 28 (([a, c1, c2, b, c, d, g, i, j].drop 4).take (Tryz.prog.cellsOf 28)) = some Z := m 3 _ rfl
 have z : DataW.trod k Tryz.prog W base sp l n 28 (([a, c1, c2, b, c, d, g, i, j].drop 6).take (Tryz.prog.cellsOf 28)) = some y4 := m 4 _ rfl
 have A : DataW.trod k Tryz.prog W base sp l n 9 (([a, c1, c2, b, c, d, g, i, j].drop 8).take (Tryz.prog.cellsOf 9)) = some y5 := m 5 _ rfl
 simp only [za, G9, EI, List.drop, List.take] at v h1 w y z A
 obtain ⟨O, o, D⟩ := JQ _ _ _ _ _ _ _ _ _ v
 obtain ⟨s1, q, F⟩ := Bz _ _ _ _ _ _ _ _ _ h1
 obtain ⟨s2, r, G⟩ := FD _ _ _ _ _ _ _ _ _ w
 obtain ⟨P, s, I⟩ := Bz _ _ _ _ _ _ _ _ _ y
 obtain ⟨Q, t, J⟩ := Bz _ _ _ _ _ _ _ _ _ z
 obtain ⟨R, u, L⟩ := FD _ _ _ _ _ _ _ _ _ A
 simp only [jH, bE, dY] at o q r s t u
 obtain rfl := o
 obtain ⟨rfl, rfl⟩ := q
 obtain rfl := r
 obtain ⟨rfl, rfl⟩ := s
 obtain ⟨rfl, rfl⟩ := t
 obtain rfl := u
 refine ⟨⟨O, s1, s2, P, Q, R⟩, rfl, ?_⟩
 simp only [List.map, Rows.uptoBulk, Rows.uptoBulkAll, sk] at D F G I J L ⊢
 omega
theorem Oi : Tryz.prog.cellsOf 54 = 1 := by kernel_rfl
theorem Pf : Tryz.prog.cellsOf 5 = 1 := by kernel_rfl
theorem P7 : Em Tryz.prog 5 (KB (Pl (kU .u8)) (fun x => 0 ≤ x ∧ x < 256)) (fun _ => 0) := Oe Tryz.underlying5
theorem Bt : Tryz.prog.cellsOf 113 = 5 := by kernel_rfl
theorem Qu {α : Type} {l : List α} (h : l.length = 4) : ∃ a0 a a2 a3, l = [a0, a, a2, a3] := by
 match l, h with
 | [a0, a, a2, a3], _ => exact ⟨a0, a, a2, a3, rfl⟩
theorem Qw {α : Type} {l : List α} (h : l.length = 5) : ∃ a0 a a2 a3 a4, l = [a0, a, a2, a3, a4] := by
 match l, h with
 | [a0, a, a2, a3, a4], _ => exact ⟨a0, a, a2, a3, a4, rfl⟩
theorem MY : Tryz.prog.cellsOf 111 = 1 := by kernel_rfl
theorem Qx {H : Type} {x : DataW H × List MemPlace} {ys : List (DataW H × List MemPlace)} {p : List MemPlace} (a : x = (.agg (ys.map (·.1)), p)) (i : Nat) {y : DataW H × List MemPlace} (h : ys[i]? = some y) : SizeOf.sizeOf y.1 < SizeOf.sizeOf x.1 := by
 subst a
 have := List.sizeOf_lt_of_mem (bB.2 ⟨y, dt h, rfl⟩ : y.1 ∈ ys.map (·.1))
 simp only [DataW.agg.sizeOf_spec]; omega
theorem HT : ∀ l : List Formula, szFL l ≤ rC yL l
 | [] => aV _
 | k :: l => by have := HT l; rw [szFL]; simp only [rC, bH, fc] at this ⊢; omega
theorem NY : ∀ (N : Nat) (H : Type) (I : TypeId × Value → H) (W : World) (base : Nat) (sp : Nat → Bool) (J : Bool) (fuel : Nat) (cs : List Value) (x : DataW H × List MemPlace),
  DataW.trod I Tryz.prog W base sp J fuel 113 cs = some x → SizeOf.sizeOf x.1 < N → ∃ a : Formula, jC (hp W) cs a ∧ yL a ≤ Rows.uptoBulk x.1 := by
 intro N
 induction N with
 | zero => intro _ _ _ _ _ _ _ _ _ _ h; exact absurd h (Nat.not_lt_zero _)
 | succ N ih =>
  intro H I W base sp J fuel cs x h hN
  obtain ⟨a1, v, _, q, w, o, j⟩ := ei Tryz.underlying113 h
  obtain ⟨r, s, t, u, rfl⟩ := Qu o
  obtain ⟨b, c, d, g, i, rfl⟩ := Qw (w.trans Bt)
  have k : DataW.trod _ Tryz.prog W _ _ _ v 3 (([b, c, d, g, i].drop 0).take (Tryz.prog.cellsOf 3)) = some r := j 0 _ rfl
  have l : DataW.trod _ Tryz.prog W _ _ _ v 3 (([b, c, d, g, i].drop 1).take (Tryz.prog.cellsOf 3)) = some s := j 1 _ rfl
  have m : DataW.trod _ Tryz.prog W _ _ _ v 28 (([b, c, d, g, i].drop 2).take (Tryz.prog.cellsOf 28)) = some t := j 2 _ rfl
  have n : DataW.trod _ Tryz.prog W _ _ _ v 111 (([b, c, d, g, i].drop 4).take (Tryz.prog.cellsOf 111)) = some u := j 3 _ rfl
  simp only [MY, za, G9, List.drop, List.take] at k l m n
  obtain ⟨s2, A, O⟩ := JQ _ _ _ _ _ _ _ _ _ k
  simp only [bE, dY] at A
  obtain rfl := A
  obtain ⟨Y, D, P⟩ := JQ _ _ _ _ _ _ _ _ _ l
  simp only [bE, dY] at D
  obtain rfl := D
  obtain ⟨Z, F, Q⟩ := Bz _ _ _ _ _ _ _ _ _ m
  simp only [jH, bE, dY] at F
  obtain ⟨rfl, rfl⟩ := F
  obtain ⟨v5, L, G, U, R⟩ := DU Bt (by decide) Tryz.underlying111 (fun f cs y h T => ih _ _ _ _ _ _ _ _ _ h (by have := Qx q 3 rfl; omega)) n
  simp only [bE, dY] at G
  obtain rfl := G
  have M := aX (fun z => Rows.uptoBulk z.1) q
  refine ⟨⟨s2, Y, Z, L⟩, jC.mk ⟨_, rfl, U⟩, ?_⟩
  have T := HT L
  simp only [List.map, Rows.uptoBulk, Rows.uptoBulkAll, qg] at O P Q R M ⊢
  rw [HM]
  simp only
  omega
theorem IQ : Em Tryz.prog 113 jC yL := fun H a W base sp b fuel cs x h => NY _ H a W base sp b fuel cs x h (bI _)
def tT (x : kw) : Nat := sk x.Signed.jA + rC (fun _ : Int => 0) x.Signed.Tag + 1 + yL x.jL + 1
def KN (x : kw) : Prop := (∀ y ∈ x.Signed.Tag, 0 ≤ y ∧ y < 256)
theorem NQ : Em Tryz.prog 138 (KB ku KN) tT := by
 intro H eh W base sp hd fuel cs x h
 obtain ⟨a6, n6, _, R, Q, y, G⟩ := ei Tryz.underlying138 h
 obtain ⟨J, L, rfl⟩ := JL y
 obtain ⟨a, b, c, d, g, i, j, k, l, m, n, o, q, r, s, rfl⟩ := P4 (Q.trans Hm)
 have t : DataW.trod _ Tryz.prog W _ _ _ n6 56 (([a, b, c, d, g, i, j, k, l, m, n, o, q, r, s].drop 0).take (Tryz.prog.cellsOf 56)) = some J := G 0 _ rfl
 have u : DataW.trod _ Tryz.prog W _ _ _ n6 113 (([a, b, c, d, g, i, j, k, l, m, n, o, q, r, s].drop 10).take (Tryz.prog.cellsOf 113)) = some L := G 1 _ rfl
 simp only [Bt, NI, List.drop, List.take] at t u
 obtain ⟨a7, n7, _, T, a1, A, I⟩ := ei Tryz.underlying56 t
 obtain ⟨M, O, rfl⟩ := JL A
 have v : DataW.trod _ Tryz.prog W _ _ _ n7 53 (([a, b, c, d, g, i, j, k, l, m].drop 0).take (Tryz.prog.cellsOf 53)) = some M := I 0 _ rfl
 have w : DataW.trod _ Tryz.prog W _ _ _ n7 54 (([a, b, c, d, g, i, j, k, l, m].drop 9).take (Tryz.prog.cellsOf 54)) = some O := I 1 _ rfl
 simp only [Bc, Oi, List.drop, List.take] at v w
 obtain ⟨s8, Z, b8⟩ := GU _ _ _ _ _ _ _ _ _ v
 simp only [jD, jH, bE, dY] at Z
 obtain ⟨rfl, rfl, rfl, rfl, rfl, rfl, rfl, rfl, rfl⟩ := Z
 obtain ⟨v9, s9, e9, U, b9⟩ := rX Pf (by decide) P7 Tryz.underlying54 w
 simp only [bE, dY] at e9
 obtain rfl := e9
 obtain ⟨U, g9⟩ := Lf.Sl.all U
 have b7 := aX (fun z => Rows.uptoBulk z.1) T
 obtain ⟨Y, D, P⟩ := IQ _ _ _ _ _ _ _ _ _ u
 obtain ⟨v10, F, D⟩ := D.out
 simp only [bE, dY] at F
 obtain ⟨rfl, rfl, rfl, rfl, rfl⟩ := F
 have b6 := aX (fun z => Rows.uptoBulk z.1) R
 refine ⟨⟨⟨s8, s9⟩, Y⟩, ⟨ku.mk ⟨_, _, rfl, U, D⟩, g9⟩, ?_⟩
 simp only [List.map, Rows.uptoBulk, Rows.uptoBulkAll, tT] at b8 b9 b7 P b6 ⊢
 omega
theorem LU : Tryz.prog.cellsOf 108 = 1 := by kernel_rfl
theorem Hg : Tryz.prog.cellsOf 263 = 8 := by kernel_rfl
theorem QE {α : Type} {l : List α} (h : l.length = 8) : ∃ a0 a a2 a3 a4 a5 b c, l = [a0, a, a2, a3, a4, a5, b, c] := by
 match l, h with
 | [a0, a, a2, a3, a4, a5, b, c], _ => exact ⟨a0, a, a2, a3, a4, a5, b, c, rfl⟩
theorem I9 : Tryz.prog.cellsOf 22 = 1 := by kernel_rfl
def xA (x : ml) : Nat := qg x.jB + yL x.jL + rC sk x.lI + 1
def PW (x : ml) : Prop := True
theorem NO : Em Tryz.prog 263 (KB kW PW) xA := by
 intro H U W base sp Y fuel cs x h
 obtain ⟨Q, n11, _, D, A, q, o⟩ := ei Tryz.underlying263 h
 obtain ⟨s, t, u, rfl⟩ := O6 q
 obtain ⟨a, b, c, d, g, i, j, k, rfl⟩ := QE (A.trans Hg)
 have l : DataW.trod _ Tryz.prog W _ _ _ n11 28 (([a, b, c, d, g, i, j, k].drop 0).take (Tryz.prog.cellsOf 28)) = some s := o 0 _ rfl
 have m : DataW.trod _ Tryz.prog W _ _ _ n11 113 (([a, b, c, d, g, i, j, k].drop 2).take (Tryz.prog.cellsOf 113)) = some t := o 1 _ rfl
 have n : DataW.trod _ Tryz.prog W _ _ _ n11 22 (([a, b, c, d, g, i, j, k].drop 7).take (Tryz.prog.cellsOf 22)) = some u := o 2 _ rfl
 simp only [Bt, I9, za, List.drop, List.take] at l m n
 obtain ⟨M, v, G⟩ := Bz _ _ _ _ _ _ _ _ _ l
 simp only [jH, bE, dY] at v
 obtain ⟨rfl, rfl⟩ := v
 obtain ⟨O, r, I⟩ := IQ _ _ _ _ _ _ _ _ _ m
 obtain ⟨R, w, r⟩ := r.out
 simp only [bE, dY] at w
 obtain ⟨rfl, rfl, rfl, rfl, rfl⟩ := w
 obtain ⟨T, P, y, L, J⟩ := rX Bc (by decide) GU.rel iB n
 simp only [bE, dY] at y
 obtain rfl := y
 have F := aX (fun z => Rows.uptoBulk z.1) D
 refine ⟨⟨M, O, P⟩, ⟨kW.mk ⟨_, _, rfl, r, L⟩, trivial⟩, ?_⟩
 simp only [List.map, Rows.uptoBulk, Rows.uptoBulkAll, xA] at G I J F ⊢
 omega
theorem NP : Tryz.prog.cellsOf 34 = 1 := by kernel_rfl
def Fo (x : lP) : Nat := x.jI.Name.size + rC tT x.jI.jV + rC xA x.jI.kx + 1 + x.lG.size + rC sk x.jU + rC sk x.Shown + rC qg x.kq + rC qg x.lc + 1
theorem PY : Tryz.prog.readableRec 160 = true ∧ 160 < Tryz.prog.types.size := ⟨by kernel_rfl, iT (by kernel_rfl)⟩
theorem BO (c : jA) : wA c = sk c := by unfold wA sk qg; omega
theorem IU {α : Type} (sz : α → Nat) (h : ∀ a, 2 ≤ sz a) : ∀ l : List α, 2 * l.length ≤ rC sz l
 | [] => ev _
 | a :: l => by have := IU sz h l; have := h a; simp only [rC, bH, fc, aO] at *; omega
theorem zm (y : kw) : tT y = sk y.Signed.jA + rC (fun _ : Int => 0) y.Signed.Tag + 1 + yL y.jL + 1 := rfl
theorem Hi (y : ml) : xA y = qg y.jB + yL y.jL + rC sk y.lI + 1 := rfl
theorem DA : ∀ l : List jA, tJ l ≤ 21 * rC sk l
 | [] => ev _
 | c :: l => by have := DA l; rw [tJ, BO]; simp only [rC, bH, fc] at *; omega
theorem I8 : ∀ l : List kw, Ao l ≤ 21 * rC tT l
 | [] => ev _
 | x :: l => by
  have := I8 l
  have := zc (fun _ : Int => 0) x.Signed.Tag
  rw [Ao, BO]
  have e := zm x
  simp only [rC, bH, fc] at *; omega
theorem I4 : ∀ l : List ml, zq l ≤ 21 * rC xA l
 | [] => ev _
 | x :: l => by
  have := I4 l
  have := DA x.lI
  rw [zq]
  have e := Hi x
  unfold qg at e
  have a : rC xA (x :: l) = max 1 (xA x) + rC xA l := rfl
  omega
theorem L3 (x : jI) (d : x.Name.size ≤ 1048576) (h1 : rC tT x.jV ≤ 1048576) (g : rC xA x.kx ≤ 1048576) : PG x ∧ x.jV.length ≤ 600000 ∧ HZ x ≤ 1000000000 := by
 have c1 := IU tT (fun y => by rw [zm]; omega) x.jV
 have c2 := zc xA x.kx
 have g1 : ∀ y ∈ x.jV, sk y.Signed.jA ≤ 1048576 ∧ kG y.jL ≤ 1048576 := fun y a => by
  have := EU (sz := tT) a
  have e := zm y
  have := CU y.jL
  omega
 have g2 : ∀ y ∈ x.kx, kG y.jL ≤ 1048576 ∧ rC sk y.lI ≤ 1048576 := fun y a => by
  have := EU (sz := xA) a
  have e := Hi y
  have := CU y.jL
  omega
 refine ⟨{ yO := by omega, Cp := by omega, rel := fun y a => ?_, Js := fun y a => ?_, OO := fun y a => ?_, QO := fun y a => ?_, QJ := fun y a c b => ?_ }, by omega, ?_⟩
 ·have := (g1 y a).2; omega
 ·have := (g2 y a).1; omega
 ·have := (g2 y a).2; have := zc sk y.lI; omega
 ·have := (g1 y a).1; rw [BO]; omega
 ·have := (g2 y a).2; have := EU (sz := sk) b; rw [BO]; omega
 ·have := I8 x.jV; have := I4 x.kx; unfold HZ; omega
theorem Ef : ∀ l : List jB, tu l ≤ 6 * rC qg l
 | [] => ev _
 | r :: l => by
  have := Ef l
  have a : rC qg (r :: l) = max 1 (qg r) + rC qg l := rfl
  have b : qg r = r.jF.size + r.jK.size := rfl
  rw [tu]; omega
theorem N6 (s : lP) (h : Fo s ≤ 1048576) : SQ s := by
 unfold Fo at h
 have a := L3 s.jI (by omega) (by omega) (by omega)
 have c1 := DA s.jU
 have c2 := DA s.Shown
 have d := Ef s.kq
 have g := Ef s.lc
 have b := zc qg s.kq
 have c := zc qg s.lc
 exact { p := a.1, go := a.2.2, acc := by omega, sh := by omega, wl := by omega, al := by omega, KX := by omega, ask := by omega, peer := by omega }
theorem own : ownKnob Tryz.prog.godebug = none := by kernel_rfl
theorem L7 : laidOutB Tryz.prog = true := by kernel_rfl
theorem L8 (H : Type) (enc : TypeId × Value → H) (W : World) (base : Nat) (args : Array Value) (ds gs : List (DataW H)) (before : List MemPlace) (L : ∀ (j : Nat) t v, Tryz.f19.params[j]? = some t → args[j]? = some v → Value.okWide Tryz.prog W .any base t v) (hW : DataW.Whole enc Tryz.prog Tryz.f19.params.toList Rows.eagerRestsSpec.vars false W args.toList ds gs before) (hk : Rows.uptoSmall H (ds ++ gs) = true) :
  Calls Tryz.prog 19 args W fun e W' => ∃ v, e = .returned v ∧ Rows.eagerRestsSpec.post enc Tryz.prog Tryz.f19 false true false false W args v W' := by
 have bh := hW
 obtain ⟨p, q, bf, hV, rfl, bw, bx⟩ := hW
 have hA : DataW.TrodAll enc Tryz.prog W 0 (fun _ => true) true Tryz.f19.params.toList args.toList ds p := bf
 have hr : ∀ t ∈ Tryz.f19.params.toList, Tryz.prog.readableRec t = true ∧ t < Tryz.prog.types.size := by
  rw [Tryz.params19]
  intro t ht
  simp only [aQ, dF, fP] at ht
  subst ht
  exact PY
 rw [Tryz.params19] at hA L
 obtain ⟨v0, c3, d0, bt, p0, q0, bi, rfl, rfl, h0, r0⟩ := trodAll_cons hA
 obtain ⟨rfl, rfl, rfl⟩ := trodAll_nil r0
 obtain rfl : args = #[v0] := by cases args; simp_all
 obtain ⟨rfl, rfl⟩ := trodVars_none hV
 have k0 := L 0 160 v0 rfl rfl
 obtain ⟨aj, rfl, _⟩ := okWide_struct Tryz.underlying160 k0
 obtain ⟨bu, ay⟩ := h0
 obtain ⟨bj, rfl⟩ : ∃ l : List Value, aj = l.toArray := ⟨aj.toList, by simp⟩
 change DataW.trod _ _ _ _ _ _ _ _ bj = some _ at ay
 obtain ⟨bq, n15, _, aE, az, I, n⟩ := ei Tryz.underlying160 ay
 obtain ⟨a7, a8, aa, ab, ad, ae, af, rfl⟩ := Qt I
 obtain ⟨c, a, b, k, m, d, g, h, i, rfl⟩ := OW (az.trans Mw)
 have o : DataW.trod _ Tryz.prog W _ _ _ n15 110 (([c, a, b, k, m, d, g, h, i].drop 0).take (Tryz.prog.cellsOf 110)) = some a7 := n 0 _ rfl
 have r : DataW.trod _ Tryz.prog W _ _ _ n15 9 (([c, a, b, k, m, d, g, h, i].drop 3).take (Tryz.prog.cellsOf 9)) = some a8 := n 1 _ rfl
 have s : DataW.trod _ Tryz.prog W _ _ _ n15 3 (([c, a, b, k, m, d, g, h, i].drop 4).take (Tryz.prog.cellsOf 3)) = some aa := n 2 _ rfl
 have u : DataW.trod _ Tryz.prog W _ _ _ n15 22 (([c, a, b, k, m, d, g, h, i].drop 5).take (Tryz.prog.cellsOf 22)) = some ab := n 3 _ rfl
 have w : DataW.trod _ Tryz.prog W _ _ _ n15 22 (([c, a, b, k, m, d, g, h, i].drop 6).take (Tryz.prog.cellsOf 22)) = some ad := n 4 _ rfl
 have x : DataW.trod _ Tryz.prog W _ _ _ n15 34 (([c, a, b, k, m, d, g, h, i].drop 7).take (Tryz.prog.cellsOf 34)) = some ae := n 5 _ rfl
 have y : DataW.trod _ Tryz.prog W _ _ _ n15 34 (([c, a, b, k, m, d, g, h, i].drop 8).take (Tryz.prog.cellsOf 34)) = some af := n 6 _ rfl
 simp only [MT, I9, G9, NP, EI, List.drop, List.take] at o r s u w x y
 obtain ⟨bs, n16, _, b0, bp, J, G⟩ := ei Tryz.underlying110 o
 obtain ⟨ag, ah, ai, rfl⟩ := O6 J
 have A : DataW.trod _ Tryz.prog W _ _ _ n16 9 (([c, a, b].drop 0).take (Tryz.prog.cellsOf 9)) = some ag := G 0 _ rfl
 have D : DataW.trod _ Tryz.prog W _ _ _ n16 107 (([c, a, b].drop 1).take (Tryz.prog.cellsOf 107)) = some ah := G 1 _ rfl
 have F : DataW.trod _ Tryz.prog W _ _ _ n16 108 (([c, a, b].drop 2).take (Tryz.prog.cellsOf 108)) = some ai := G 2 _ rfl
 simp only [MZ, LU, EI, List.drop, List.take] at A D F
 obtain ⟨P, ak, b3⟩ := FD _ _ _ _ _ _ _ _ _ A
 simp only [bE, dY] at ak
 obtain rfl := ak
 obtain ⟨bz, Q, an, M, b4⟩ := rX Hm (by decide) NQ Tryz.underlying107 D
 simp only [bE, dY] at an
 obtain rfl := an
 obtain ⟨M, g18⟩ := Lf.Sl.all M
 obtain ⟨c0, R, ao, O, b5⟩ := rX Hg (by decide) NO Tryz.underlying108 F
 simp only [bE, dY] at ao
 obtain rfl := ao
 obtain ⟨O, g19⟩ := Lf.Sl.all O
 have b2 := aX (fun z => Rows.uptoBulk z.1) b0
 obtain ⟨T, ap, b6⟩ := FD _ _ _ _ _ _ _ _ _ r
 simp only [bE, dY] at ap
 obtain rfl := ap
 obtain ⟨U, aq, b7⟩ := JQ _ _ _ _ _ _ _ _ _ s
 simp only [bE, dY] at aq
 obtain rfl := aq
 obtain ⟨v22, Y, ar, bk, b9⟩ := rX Bc (by decide) GU.rel iB u
 simp only [bE, dY] at ar
 obtain rfl := ar
 obtain ⟨v23, Z, au, bl, ba⟩ := rX Bc (by decide) GU.rel iB w
 simp only [bE, dY] at au
 obtain rfl := au
 obtain ⟨v24, a1, av, bn, bc⟩ := rX za (by decide) Bz.rel Tryz.underlying34 x
 simp only [bE, dY] at av
 obtain rfl := av
 obtain ⟨v25, a6, aw, bo, bd⟩ := rX za (by decide) Bz.rel Tryz.underlying34 y
 simp only [bE, dY] at aw
 obtain rfl := aw
 have b1 := aX (fun z => Rows.uptoBulk z.1) aE
 simp only [List.map, Rows.uptoBulk, Rows.uptoBulkAll] at b3 b4 b5 b2 b6 b7 b9 ba bc bd b1
 have z0 : Fo (⟨⟨P, Q, R⟩, T, U, Y, Z, a1, a6⟩ : lP) ≤ Rows.uptoBulk d0 := by simp only [Fo]; omega
 have hB : Rows.uptoBulkAll ([d0] ++ []) ≤ 1048576 := iT hk
 simp only [bP, Rows.uptoBulkAll] at hB
 have hm : sM (⟨⟨P, Q, R⟩, T, U, Y, Z, a1, a6⟩ : lP) = some true := Fb NW _ (N6 _ (by omega))
 have hg := CP (⟨⟨P, Q, R⟩, T, U, Y, Z, a1, a6⟩ : lP) a b d g h i true W M O bk bl bn bo hm
 refine dC hg fun e W' ⟨he, hx⟩ => ?_
 subst he
 exact ⟨_, rfl, J6 L7 hr rfl bh hx (fun _ _ _ => trodAll_cons_mk (shut_bool Tryz.underlying4 _) trodAll_mk0) rfl rfl (ok_one (by kernel_rfl) rfl (okWide_bool_mk Tryz.underlying4 _))⟩
set_option maxRecDepth 100000 in
theorem OX (os : Os) (started : os.Started) (H : Type) (enc : TypeId × Value → H) (F : Stop.Interp) :
  ReturnsInHanded {} Tryz.checked os 19 .any ((Rows.OpenSpec.upto Rows.eagerRestsSpec).pre6 enc Tryz.prog Tryz.f19 Rows.eagerRestsUptoRow.domain false) (((Rows.OpenSpec.upto Rows.eagerRestsSpec).at F).post enc Tryz.prog Tryz.f19 false true false false) := by
 refine returnsInHanded_of_cond (C := Tryz.checked) (s := Rows.OpenSpec.upto Rows.eagerRestsSpec) (k := Rows.uptoSmall) rfl own started (by kernel_rfl) Tryz.func19
  (OpenSpec.witness (enc := enc) (C := Tryz.checked) (s := Rows.OpenSpec.upto Rows.eagerRestsSpec) (k := Rows.uptoSmall) rfl false ⟨#[], #[.agg #[.string ⟨#[]⟩, .slice none 0 0, .slice none 0 0, .string ⟨#[]⟩, .int .i64 0, .slice none 0 0, .slice none 0 0, .slice none 0 0, .slice none 0 0]], []⟩ 8 (by kernel_rfl) (by kernel_rfl) (by kernel_rfl)
   (x := ([.agg [.agg [.lit (.string []), .nil, .nil], .lit (.string []), .lit (.int .i64 0), .nil, .nil, .nil, .nil]], [], [])) (by kernel_rfl) rfl (by kernel_rfl)) ?_
 intro W base args ds gs before a b _ hk _
 exact L8 H enc W base args ds gs before a b hk
theorem PZ {a b : Bool} (ha : a = true) (c : b = true) : (a && b) = true := by rw [ha, c]; rfl
set_option maxHeartbeats 40000000 in
theorem N8 : joinedFacts Tryz.checked.prog 19 Tryz.f19 (Rows.OpenSpec.upto Rows.eagerRestsSpec).bare Rows.eagerRestsUptoRow = true := by
 unfold joinedFacts
 repeat' with_reducible refine PZ ?_ ?_
 all_goals as_aux_lemma => kernel_rfl
theorem proved : Rows.EagerRestsUptoSaid :=
 OpenClaim.holds_of_cond 19 Tryz.f19 rfl rfl rfl rfl rfl rfl rfl ⟨rfl, rfl, rfl, rfl, rfl⟩ rfl rfl rfl rfl rfl (by kernel_rfl) Tryz.func19 N8
  (iT (by kernel_rfl)) (by unfold Func.isWrapper; first | (rw [aZ (by decide +kernel)]; kernel_rfl) | (rw [aY (by decide +kernel)]; exact ⟨rfl, rfl⟩))
  (fun os started H enc _ F => OX os started H enc F)
end Go.Proofs.YtmlncblocfcmiaaGreat
