/- a part of a proof of UnlockMeets -/
import Derived.Test.YtklbhegeiijbjaaGreatHbu
import Derived.Test.YtklbhegeiijbjaaGreatRtTu
import Derived.Test.YtklbhegeiijbjaaGreatRows
import Derived.WalkKit
import Derived.ProofKit
import Derived.OpenShut
import Derived.JoinedCond
import Derived.Deep.Slices
import Derived.Carry
import Derived.ChangeArms
import Derived.ChangeSame
import Derived.Test.YtklbhegeiijbjaaGreatUMW3u
set_option linter.all false
namespace Go.Proofs.YtklbhegeiijbjaaGreat
open Go.IntKind renaming wrap → wi0
open Go.Proofs.Tryz renaming prog → pg0
open Go.RowKit
def pq (op : Int) (f : Formula) : Bool := decide (f.Op = op) && f.Kids.isEmpty
theorem Gi (f : Formula) (op : Int) : tU f op = some (pq op f) := by
 unfold tU pq
 rw [oY]
 by_cases h : f.Op = op
 ·simp only [h, bN, aZ, cT, ey]
  congr 1
  cases hk : f.Kids with
  | nil => rfl
  | cons a l => simp; omega
 ·have e : (f.Op == op) = false := by simpa using h
  simp [e, h]
def tG (op : Int) : List Formula → List Formula
 | [] => []
 | k :: a => (if k.Op = op then k.Kids else [k]) ++ tG op a
theorem DE (op : Int) : ∀ c : List Formula, nodesL (tG op c) ≤ nodesL c
 | [] => aS _
 | k :: c => by
  have ih := DE op c
  have e : ∀ a b : List Formula, nodesL (a ++ b) = nodesL a + nodesL b := by
   intro a b
   induction a with
   | nil => rw [bJ, nodesL]; omega
   | cons x a d => rw [bW, nodesL, nodesL, d]; omega
  have := qi k
  rw [tG, e, nodesL]
  split
  ·omega
  ·rw [nodesL, nodesL]; omega
theorem HP (op : Int) : ∀ (a acc : List Formula), acc.length + nodesL a ≤ 100000000 → qN op a acc = some (acc ++ tG op a)
 | [], acc, _ => by rw [qN, tG, bE]
 | k :: a, acc, h => by
  rw [nodesL] at h
  have h1 := qi k
  have b := xc k.Kids
  rw [qN, tG]
  by_cases c : k.Op = op
  ·simp only [c, bN, aZ]
   rw [mT (by omega) (by omega), aA, HP op a _ (by simp; omega), aK]
  ·have e : (k.Op == op) = false := by simpa using c
   simp only [e, aB, aN, c]
   rw [mT (by simp; omega) (by simp; omega), aA, HP op a _ (by simp; omega), aK]
noncomputable def uI (op : Int) (a : List Formula) : Formula :=
 if (tG op a).any (pq (5 - op)) then ⟨5 - op, 0, xj, []⟩ else
  match dd AK (Cv (tG op a)) with
  | [x] => x
  | r => ⟨op, 0, xj, r⟩
theorem R7 {α : Type} (eq : α → α → Bool) (l : List α) : (dd eq l).length ≤ l.length := by
 cases l with
 | nil => exact aS _
 | cons x l =>
  have : ∀ (l : List α) (x : α), (pF eq x l).length ≤ l.length := by
   intro l
   induction l with
   | nil => intro x; exact aS _
   | cons y l ih => intro x; rw [pF]; have := ih y; have := ih x; split <;> simp <;> omega
  have := this l x
  rw [dd, aJ, aJ]; omega
theorem EV (s : lh) (op : Int) (g : op = 2 ∨ op = 3) (a : List Formula) (h : nodesL a ≤ 64) : oG s op a = some (uI op a, s) := by
 have h1 := DE op a
 have i := xc (tG op a)
 have c : ∀ x ∈ tG op a, Gd x := fun x b => by have := yO b; unfold Gd; omega
 have hw : wi0 .i64 (5 - op) = 5 - op := lG (by omega) (by omega)
 unfold oG Az uI
 rw [HP op a [] (by simp; omega), aA, bJ, hw, FK _ (pq (5 - op)) _ (fun x _ => by unfold qU; rw [Gi, oY]), aA]
 cases j : (tG op a).any (pq (5 - op))
 ·simp only [aB, aN]
  have hp := EW (tG op a)
  have l := hp.length_eq
  rw [Jc _ c (by omega), aA, Mu _ (fun x b => c x (hp.mem_iff.1 b)) (by omega), aA]
  have k := R7 AK (Cv (tG op a))
  have d : ¬ (((dd AK (Cv (tG op a))).length : Int) > 64) := by omega
  simp only [d, cX, aB, aN, aA]
  generalize dd AK (Cv (tG op a)) = r
  match r with
  | [] => rfl
  | [x] => rfl
  | x :: y :: r =>
   have : (((x :: y :: r).length : Int) == 1) = false := by simp; omega
   simp only [this, aB, aN]
   rfl
 ·rfl
noncomputable def yH (k : Int) (a : List Formula) : Formula :=
 let n := k - ((a.filter (pq 2)).length : Int)
 let l := a.filter fun x => !pq 2 x && !pq 3 x
 if n ≤ 0 then ⟨2, 0, xj, []⟩ else if n > (l.length : Int) then ⟨3, 0, xj, []⟩ else if n = (l.length : Int) then uI 2 l else if n = 1 then uI 3 l else ⟨4, n, xj, Cv l⟩
theorem BC (p : Formula → Bool) : ∀ a : List Formula, nodesL (a.filter p) ≤ nodesL a
 | [] => aS _
 | k :: a => by
  have := BC p a
  rw [iy]
  split
  ·rw [nodesL, nodesL]; omega
  ·rw [nodesL]; omega
theorem AT (s : lh) : ∀ (a acc : List Formula) (k : Int), -1000 ≤ k - (a.length : Int) → k ≤ 1000 → acc.length + a.length ≤ 1000 → nodesL (acc ++ a.filter fun x => !pq 2 x && !pq 3 x) ≤ 64 →
  mU s a k acc = some (let n := k - ((a.filter (pq 2)).length : Int); let l := acc ++ a.filter fun x => !pq 2 x && !pq 3 x; if n ≤ 0 then ⟨2, 0, xj, []⟩ else if n > (l.length : Int) then ⟨3, 0, xj, []⟩ else if n = (l.length : Int) then uI 2 l else if n = 1 then uI 3 l else ⟨4, n, xj, Cv l⟩, s)
 | [], acc, k, h1, g, h, b => by
  simp only [List.filter_nil, bE, bP] at b ⊢
  rw [mU]
  simp only [Int.ofNat_zero, Int.sub_zero, zi, zI, aA, Int.natCast_zero]
  have o := xc acc
  by_cases c1 : k ≤ 0
  ·simp only [c1, cT, aZ]; rfl
  ·simp only [c1, cX, aB, aN]
   by_cases c2 : k > (acc.length : Int)
   ·simp only [c2, cT, aZ]; rfl
   ·simp only [c2, cX, aB, aN]
    by_cases c : k = (acc.length : Int)
    ·simp only [← c, bN, aZ]
     rw [EV s 2 (.inl rfl) acc b, aA]
    ·have i : (k == (acc.length : Int)) = false := by simpa using c
     simp only [i, aB, aN, c]
     by_cases d : k = 1
     ·simp only [d, bN, aZ]
      rw [EV s 3 (.inr rfl) acc b, aA]
     ·have j : (k == 1) = false := by simpa using d
      simp only [j, aB, aN, d]
      rw [Jc acc (fun x m => by have := yO m; unfold Gd; omega) (by omega)]
      rfl
 | x :: a, acc, k, h1, g, h, b => by
  simp only [aJ] at h1 h
  rw [mU, Gi, aA, Gi, aA]
  rw [iy, iy] at *
  cases c2 : pq 2 x
  ·cases c : pq 3 x
   ·simp only [c2, c, cV, Bool.and_self, aB, aN, aZ] at b ⊢
    rw [mT (by simp; omega) (by simp; omega), aA, AT s a _ k (by omega) g (by simp; omega) (by rw [aK]; exact b)]
    simp only [aK, bW, bJ]
   ·simp only [c2, c, cV, bV, jh, aB, aN] at b ⊢
    rw [AT s a _ k (by omega) g (by omega) b]
  ·simp only [c2, bV, Bool.false_and, aB, aN, aZ] at b ⊢
   rw [lG (by omega) (by omega), AT s a _ (k - 1) (by omega) (by omega) (by omega) b]
   simp only [aJ]
   have e : k - 1 - ((a.filter (pq 2)).length : Int) = k - (((a.filter (pq 2)).length + 1 : Nat) : Int) := by omega
   rw [e]
theorem MB (s : lh) (k : Int) (hk : 0 ≤ k ∧ k ≤ 1000) (a : List Formula) (h : nodesL a ≤ 64) : qV s k a = some (yH k a, s) := by
 have := xc a
 have := BC (fun x => !pq 2 x && !pq 3 x) a
 unfold qV yH
 rw [AT s a [] k (by omega) (by omega) (by simp; omega) (by simpa using by omega)]
 rfl
mutual
noncomputable def ux : Formula → Formula
 | ⟨o, k, r, ks⟩ => if o = 1 then ⟨o, k, r, ks⟩ else if o = 4 then yH k (shapeL ks) else uI o (shapeL ks)
noncomputable def shapeL : List Formula → List Formula
 | [] => []
 | k :: ks => ux k :: shapeL ks
end
theorem Cf (f : Formula) : ux f = if f.Op = 1 then f else if f.Op = 4 then yH f.K (shapeL f.Kids) else uI f.Op (shapeL f.Kids) := by cases f; rw [ux]
theorem FO {a b : List Formula} (h : a.Perm b) : nodesL a = nodesL b := by
 induction h with
 | nil => rfl
 | cons x _ ih => rw [nodesL, nodesL, ih]
 | swap x y l => rw [nodesL, nodesL, nodesL, nodesL]; omega
 | trans _ _ h1 c => rw [h1, c]
theorem DW (eq : Formula → Formula → Bool) : ∀ (l : List Formula) (x : Formula), nodesL (pF eq x l) ≤ nodesL l
 | [], x => aS _
 | y :: l, x => by
  have h1 := DW eq l y
  have a := DW eq l x
  rw [pF]
  split
  ·rw [nodesL]; omega
  ·rw [nodesL, nodesL]; omega
theorem OH (eq : Formula → Formula → Bool) (l : List Formula) : nodesL (dd eq l) ≤ nodesL l := by
 cases l with
 | nil => exact aS _
 | cons x l => have := DW eq l x; rw [dd, nodesL, nodesL]; omega
theorem BB (op : Int) (a : List Formula) : lf (uI op a) ≤ 1 + nodesL a := by
 unfold uI
 split
 ·rw [lf, nodesL]; omega
 ·have h1 := OH AK (Cv (tG op a))
  have b := FO (EW (tG op a))
  have c := DE op a
  generalize dd AK (Cv (tG op a)) = r at *
  split
  ·rename_i x
   rw [nodesL, nodesL] at h1; omega
  ·rw [lf]; omega
theorem IV (k : Int) (a : List Formula) : lf (yH k a) ≤ 1 + nodesL a := by
 have h := BC (fun x => !pq 2 x && !pq 3 x) a
 unfold yH
 simp only
 generalize a.filter (fun x => !pq 2 x && !pq 3 x) = l at *
 generalize k - ((a.filter (pq 2)).length : Int) = n
 split
 ·rw [lf, nodesL]; omega
 ·split
  ·rw [lf, nodesL]; omega
  ·split
   ·have := BB 2 l; omega
   ·split
    ·have := BB 3 l; omega
    ·have := FO (EW l); rw [lf]; omega
theorem CE : ∀ f : Formula, lf (ux f) ≤ lf f := by
 refine Jl fun f ih => ?_
 have h : ∀ a : List Formula, (∀ k ∈ a, lf (ux k) ≤ lf k) → nodesL (shapeL a) ≤ nodesL a := by
  intro a
  induction a with
  | nil => intro _; rw [shapeL]; exact aS _
  | cons k a b =>
   intro h
   have := b (fun x c => h x (by simp [c]))
   have := h k (by simp)
   rw [shapeL, nodesL, nodesL]; omega
 have h := h f.Kids ih
 rw [Cf, qi f]
 split
 ·rw [qi]; omega
 ·split
  ·have := IV f.K (shapeL f.Kids); omega
  ·have := BB f.Op (shapeL f.Kids); omega
theorem Jr (a : List Formula) : nodesL (shapeL a) ≤ nodesL a := by
 induction a with
 | nil => rw [shapeL]; exact aS _
 | cons k a ih => have := CE k; rw [shapeL, nodesL, nodesL]; omega
theorem O7 : ∀ (n : Nat) (f : Formula), sH f ≤ n → lf f ≤ 64 → xE f = true → ∀ s : lh, nC n s f = some (ux f, s) := by
 intro n
 induction n with
 | zero => intro f h; rw [pE] at h; omega
 | succ n ih =>
  intro f q u hw s
  rw [pE] at q
  have r := qi f
  obtain ⟨h1, p, l⟩ := FD hw
  rw [nC]
  unfold sr
  rw [Cf]
  by_cases c1 : f.Op = 1
  ·simp only [c1, bN, aZ]
  ·have m : (f.Op == 1) = false := by simpa using c1
   simp only [m, aB, aN, c1]
   have key : ∀ (a acc : List Formula), (∀ k ∈ a, k ∈ f.Kids) → wellL a = true → nodesL (acc ++ shapeL a) ≤ 64 → nodesL a ≤ 64 → nX (nC n) f a acc s = some (if f.Op = 4 then yH f.K (acc ++ shapeL a) else uI f.Op (acc ++ shapeL a), s) := by
    intro a
    induction a with
    | nil =>
     intro acc _ _ d _
     rw [shapeL, bE] at *
     rw [nX]
     by_cases g : f.Op = 4
     ·simp only [g, bN, aZ]
      rw [MB s f.K (by rcases l with h | h | h <;> omega) acc d, aA]
     ·have o : (f.Op == 4) = false := by simpa using g
      simp only [o, aB, aN, g]
      rw [EV s f.Op (by rcases l with h | h | h <;> omega) acc d, aA]
    | cons k a j =>
     intro acc hk b d i
     rw [wellL, bn] at b
     rw [nodesL] at i
     rw [shapeL] at d
     have c := xc (acc ++ ux k :: shapeL a)
     simp only [aC, aJ] at c
     rw [nX, ih k (by have := xa (hk k (by simp)); omega) (by omega) b.1 s, aA, mT (by simp; omega) (by simp; omega), aA,
      j (acc ++ [ux k]) (fun z t => hk z (by simp [t])) b.2 (by rw [aK]; exact d) (by omega), shapeL]
     simp only [aK, bW, bJ]
   have := Jr f.Kids
   have := key f.Kids [] (fun k hk => hk) p (by simpa using by omega) (by omega)
   simpa using this
def Ho : Formula := ⟨0, 0, xj, []⟩
noncomputable def Bh (f : Formula) : Formula × Int := if qu f then (if qu (ux f) then (ux f, 0) else (Ho, 12)) else (Ho, 11)
theorem KX (f : Formula) (h : Gd f) : yd f = some (Bh f) := by
 unfold yd Bh
 rw [BH f h, aA]
 cases b : qu f
 ·rfl
 ·obtain ⟨h1, c, a⟩ := Gg b
  have d := CE f
  simp only [bV, aB, aN, aZ]
  rw [O7 kT f (by rw [nt]; omega) h1 a, aA, BH (ux f) (by omega)]
  have e : (((⟨0⟩ : lh).e) != 0) = false := rfl
  simp only [e, aB, aN, aA]
  cases qu (ux f) <;> rfl
theorem B7 {f : Formula} : lf (Bh f).1 ≤ 64 := by
 unfold Bh
 cases h : qu f
 ·exact by simp only [aB, aN, Ho]; rw [lf, nodesL]; omega
 ·obtain ⟨h1, a, b⟩ := Gg h
  have := CE f
  simp only [aZ]
  split
  ·show lf (ux f) ≤ 64; omega
  ·rw [Ho, lf, nodesL]; omega
theorem QH (f g : Formula) (a : lf f ≤ 10000000) (b : lf g ≤ 10000000) : yk f g = some (Bh ⟨2, 0, xj, [f, g]⟩) := by
 unfold yk
 have := KX ⟨2, 0, xj, [f, g]⟩ (by show lf _ ≤ _; rw [lf, nodesL, nodesL, nodesL]; omega)
 rw [show (⟨2, 0, (⟨zS, zS⟩ : kd), [f, g]⟩ : Formula) = ⟨2, 0, xj, [f, g]⟩ from rfl, this]
 rfl
mutual
def Dj (v : kd → Bool) : Formula → Bool
 | ⟨o, k, r, ks⟩ => if o = 1 then v r else if o = 2 then decide (evN v ks = ks.length) else if o = 3 then decide (0 < evN v ks) else decide (k ≤ (evN v ks : Int))
def evN (v : kd → Bool) : List Formula → Nat
 | [] => 0
 | k :: ks => (if Dj v k then 1 else 0) + evN v ks
end
theorem ET (v : kd → Bool) (f : Formula) : Dj v f = if f.Op = 1 then v f.kd else if f.Op = 2 then decide (evN v f.Kids = f.Kids.length) else if f.Op = 3 then decide (0 < evN v f.Kids) else decide (f.K ≤ (evN v f.Kids : Int)) := by cases f; rw [Dj]
theorem NK (v : kd → Bool) : ∀ a : List Formula, evN v a ≤ a.length
 | [] => by rw [evN]; exact aS _
 | k :: a => by have := NK v a; rw [evN, aJ]; split <;> omega
theorem QF {v w : kd → Bool} (h : ∀ r, v r = true → w r = true) : ∀ f : Formula, Dj v f = true → Dj w f = true := by
 refine Jl fun f ih => ?_
 have key : evN v f.Kids ≤ evN w f.Kids := by
  have : ∀ a : List Formula, (∀ k ∈ a, Dj v k = true → Dj w k = true) → evN v a ≤ evN w a := by
   intro a
   induction a with
   | nil => intro _; rw [evN, evN]; exact aS _
   | cons k a b =>
    intro hk
    have h1 := b (fun x g => hk x (by simp [g]))
    have c := hk k (by simp)
    rw [evN, evN]
    cases d : Dj v k
    ·simp; omega
    ·rw [c d]; simp; omega
  exact this _ ih
 have hle := NK w f.Kids
 rw [ET, ET]
 split
 ·exact h _
 ·split
  ·simp only [cH]; omega
  ·split
   ·simp only [cH]; omega
   ·simp only [cH]; omega
theorem Ey (v : kd → Bool) (f1 : kd → Option Bool) (rec : Formula → (kd → Option Bool) → Option Bool) (f : Formula) : ∀ (a : List Formula) (x : Nat), (∀ k ∈ a, rec k f1 = some (Dj v k)) → x + a.length ≤ 100000000 →
  pI rec f1 f a (x : Int) = some (if f.Op = 2 then decide (x + evN v a = f.Kids.length) else if f.Op = 3 then decide (0 < x + evN v a) else decide (f.K ≤ ((x + evN v a : Nat) : Int)))
 | [], x, _, _ => by
  rw [pI, evN, jK]
  by_cases c2 : f.Op = 2
  ·simp only [c2, bN, aZ]
   congr 1
   rw [bR, jL, cH]; omega
  ·have c : (f.Op == 2) = false := by simpa using c2
   simp only [c, aB, aN, c2]
   by_cases b : f.Op = 3
   ·simp only [b, bN, aZ]
    congr 1
    rw [bR, cH, cH]; omega
   ·have g : (f.Op == 3) = false := by simpa using b
    simp only [g, aB, aN, b]
 | k :: a, x, h, i => by
  rw [aJ] at i
  rw [pI, h k (by simp), aA, evN]
  cases Dj v k
  ·simp only [aB, aN]
   rw [Ey v f1 rec f a x (fun z d => h z (by simp [d])) (by omega), dZ]
  ·simp only [aZ]
   have e : wi0 .i64 ((x : Int) + 1) = ((x + 1 : Nat) : Int) := by rw [lG (by omega) (by omega)]; omega
   rw [e, Ey v f1 rec f a (x + 1) (fun z d => h z (by simp [d])) (by omega)]
   have c : x + 1 + evN v a = x + (1 + evN v a) := by omega
   rw [c]
theorem Nn (v : kd → Bool) (f1 : kd → Option Bool) (g : ∀ r, f1 r = some (v r)) : ∀ (n : Nat) (f : Formula), sH f ≤ n → Gd f → qj n f f1 = some (Dj v f) := by
 intro n
 induction n with
 | zero => intro f h; rw [pE] at h; omega
 | succ n ih =>
  intro f b c
  rw [pE] at b
  have d := qi f
  have i := xc f.Kids
  unfold Gd at c
  rw [qj]
  unfold vR
  rw [ET]
  by_cases c1 : f.Op = 1
  ·simp only [c1, bN, aZ, g, aA]
  ·have a : (f.Op == 1) = false := by simpa using c1
   simp only [a, aB, aN, c1]
   have := Ey v f1 (qj n) f f.Kids 0 (fun k hk => ih k (by have := xa hk; omega) (by have := yO hk; unfold Gd; omega)) (by omega)
   simpa using this
def yh (v : kd → Bool) (f : Formula) : Bool := qu f && Dj v f
theorem Fv (v : kd → Bool) (f1 : kd → Option Bool) (a : ∀ r, f1 r = some (v r)) (f : Formula) (h : Gd f) : sm f f1 = some (yh v f) := by
 unfold sm yh
 rw [BH f h, aA]
 have := A8 f
 cases qu f
 ·rfl
 ·unfold Gd at h
  simp only [aZ, Nn v f1 a kT f (by rw [nt]; omega) h, aA, ey]
structure PB (p : lD) : Prop where
 Mv : p.kZ.length ≤ 2000000
 Me : p.mu.length ≤ 2000000
 rel : ∀ x ∈ p.kZ, lf x.kv ≤ 10000000
 OX : ∀ a ∈ p.mu, lf a.kv ≤ 10000000
 Te : ∀ a ∈ p.mu, a.nv.length ≤ 2000000
theorem JW (f : ml → Option Bool) : ∀ (l : List ml) (i : Nat), nE f l i = xg f l i
 | [], i => by rw [nE]; rfl
 | x :: l, i => by
  rw [nE, xg]
  cases f x with
  | none => rfl
  | some b =>
   simp only [aA]
   rw [JW f l (i + 1)]
theorem Jh (f : oZ → Option Bool) : ∀ (l : List oZ) (i : Nat), oq f l i = xg f l i
 | [], i => by rw [oq]; rfl
 | x :: l, i => by
  rw [oq, xg]
  cases f x with
  | none => rfl
  | some b =>
   simp only [aA]
   rw [Jh f l (i + 1)]
def DG (p : lD) (c : ke) : Option ml := p.kZ.find? fun x => nr x.Signed.ke c
theorem QU (p : lD) (c : ke) : ∃ z, yZ p c = some (match DG p c with | some x => (x, true) | none => (z, false)) := by
 unfold yZ tp DG
 rw [JW]
 rcases Bt (fun x => wR x c) (fun x => nr x.Signed.ke c) p.kZ 0 (fun x _ => rfl) with ⟨e, h1⟩ | ⟨A, x, B, hp, h1, b, e⟩
 ·rw [e, aA, gy.2 (fun x a => by rw [h1 x a]; simp)]
  exact ⟨_, rfl⟩
 ·rw [e, aA, hp, jr, gy.2 (fun x a => by rw [h1 x a]; simp), gf, b]
  have : ¬ (((0 + A.length : Nat) : Int) < 0) := by omega
  simp only [this, cX, aB, aN]
  rw [nI A x B _ (by omega)]
  exact ⟨x, rfl⟩
def Sd : oZ := ⟨⟨zS, zS⟩, ⟨0, 0, ⟨zS, zS⟩, []⟩, []⟩
theorem Jo (f : oZ → Option Bool) : ∀ (n : Nat) (l : List oZ) (i j : Int), nV f n l i j = Bv f Sd n l i j
 | 0, _, _, _ => rfl
 | n + 1, l, i, j => by
  rw [nV, Bv]
  simp only [Jo f n]
  rfl
def EB (p : lD) (c : ke) : List oZ := p.mu.filter fun a => ur nr a.nv c
theorem Pa (p : lD) (hp : PB p) (c : ke) : ym p c = some (EB p c) := by
 have := hp.Me
 unfold ym uQ EB
 rw [mT (by simp; omega) (by simp; omega)]
 simp only [aA, bJ, oY]
 have : rN p.mu (fun x => su x c) = EG (fun x => su x c) Sd p.mu := by
  unfold rN EG vd
  simp only [Jh, Jo]
 rw [this, F6 _ (fun a => !ur nr a.nv c) Sd _ (by omega) (fun a _ => by unfold su wc; rw [oY, OU]; rfl)]
 simp only [fR]
noncomputable def vj : Formula × Int → List Formula → Formula × Int
 | t, [] => t
 | t, g :: l => if t.2 = 0 then vj (Bh ⟨2, 0, xj, [t.1, g]⟩) l else t
theorem KP : ∀ (l : List Formula) (e o k : Int) (r : kd) (a : List Formula), (∀ g ∈ l, lf g ≤ 10000000) → lf ⟨o, k, r, a⟩ ≤ 64 →
  tQ l e o k r a = some ((vj (⟨o, k, r, a⟩, e) l).2, (vj (⟨o, k, r, a⟩, e) l).1.Op, (vj (⟨o, k, r, a⟩, e) l).1.K, (vj (⟨o, k, r, a⟩, e) l).1.kd, (vj (⟨o, k, r, a⟩, e) l).1.Kids)
 | [], e, o, k, r, a, _, _ => by rw [tQ, vj]
 | g :: l, e, o, k, r, a, h, p => by
  rw [tQ, vj]
  by_cases c : e = 0
  ·have b : (e != 0) = false := by simp [c]
   simp only [b, aB, aN, c, aZ]
   rw [QH _ g (by omega) (h g (by simp)), aA]
   have i := B7 (f := ⟨2, 0, xj, [⟨o, k, r, a⟩, g]⟩)
   generalize Bh ⟨2, 0, xj, [⟨o, k, r, a⟩, g]⟩ = q at *
   obtain ⟨⟨m, k', n, d⟩, e'⟩ := q
   exact KP l e' m k' n d (fun z j => h z (by simp [j])) i
  ·have b : (e != 0) = true := by simp [c]
   simp only [b, aZ, c, aN]
noncomputable def DL (g : Formula) (l : List Formula) : Formula × Int := if (vj (Bh g) l).2 = 0 then vj (Bh g) l else (Ho, (vj (Bh g) l).2)
theorem Qx (g : Formula) (l : List Formula) (n : lf g ≤ 10000000) (i : ∀ x ∈ l, lf x ≤ 10000000) : wF (g :: l) = some (DL g l) := by
 unfold wF DL
 have d : lN (g :: l) 0 = some g := nI [] g l 0 rfl
 have a : ot (decide (0 ≤ 1) && decide ((1 : Int) ≤ ((g :: l).length : Int))) = some () := by
  rw [aJ]
  have : (1 : Int) ≤ ((l.length + 1 : Nat) : Int) := by omega
  simp [ot]; omega
 have j := B7 (f := g)
 rw [d, aA, KX g (by unfold Gd; omega), aA, a, aA]
 generalize Bh g = q at *
 obtain ⟨⟨o, k, r, b⟩, e⟩ := q
 have h : (g :: l).drop (Int.toNat 1) = l := rfl
 rw [h, KP l e o k r b i j, aA]
 generalize vj (⟨o, k, r, b⟩, e) l = t
 obtain ⟨⟨p, k', s, m⟩, e'⟩ := t
 by_cases c : e' = 0
 ·subst c; rfl
 ·have a : (e' != 0) = true := by simp [c]
  simp only [a, aZ, c, aN]; rfl
noncomputable def vC (p : lD) (c : ke) : Formula × Int := match DG p c with | none => (Ho, 42) | some x => DL x.kv ((EB p c).map (·.kv))
theorem NZ : ∀ (l : List oZ) (acc : List Formula), acc.length + l.length ≤ 3000000 → uJ l acc = wF (acc ++ l.map (·.kv))
 | [], acc, _ => by
  rw [uJ, ev, bE]
  cases wF acc <;> rfl
 | a :: l, acc, h => by
  rw [aJ] at h
  rw [uJ, mT (by simp; omega) (by simp; omega), aA, NZ l _ (by simp; omega)]
  simp
theorem O8 {p : lD} {c : ke} {x : ml} (h : DG p c = some x) : x ∈ p.kZ ∧ x.Signed.ke = c := by
 unfold DG at h
 have h1 := fT h
 have a := jR h
 exact ⟨h1, re.1 a⟩
theorem R3 (p : lD) (hp : PB p) (c : ke) : AV p c = some (vC p c) := by
 unfold AV vC
 obtain ⟨z, e⟩ := QU p c
 rw [e, aA]
 cases h : DG p c with
 | none => rfl
 | some x =>
  simp only [bV, aB, aN]
  have d := O8 h
  have i : (EB p c).length ≤ p.mu.length := eY _ _
  have := hp.Me
  rw [Pa p hp c, aA, NZ _ _ (by simp; omega)]
  exact Qx x.kv _ (hp.rel x d.1) (fun g b => by
   obtain ⟨a, ha, rfl⟩ := bG.1 b
   exact hp.OX a (cM.1 ha).1)
theorem MZ (p : lD) (c : ke) : lf (vC p c).1 ≤ 64 := by
 have a : lf Ho ≤ 64 := by rw [Ho, lf, nodesL]; omega
 have b : ∀ (l : List Formula) (t : Formula × Int), lf t.1 ≤ 64 → lf (vj t l).1 ≤ 64 := by
  intro l
  induction l with
  | nil => intro t h; exact h
  | cons g l ih =>
   intro t h
   rw [vj]
   split
   ·exact ih _ B7
   ·exact h
 unfold vC
 split
 ·exact a
 ·unfold DL
  split
  ·exact b _ _ B7
  ·exact a
def vF (F : List kk) (peer : ByteArray) (r : kd) : Bool := ur nJ F ⟨r, peer⟩
noncomputable def Ja (p : lD) (v : kd → Bool) (x : ml) : Bool := decide ((vC p x.Signed.ke).2 = 0) && yh v (vC p x.Signed.ke).1
theorem E8 (p : lD) (hp : PB p) (v : kd → Bool) (m) (a : ∀ r, sV r m.1 m.2.1 m.2.2.1 m.2.2.2.1 m.2.2.2.2.1 m.2.2.2.2.2.1 m.2.2.2.2.2.2 = some (v r)) : ∀ (l : List ml) (acc : List ke), acc.length + l.length ≤ 1000000000 →
  ry p m l acc = xx (acc ++ (l.filter (Ja p v)).map (·.Signed.ke))
 | [], acc, _ => by
  rw [ry, List.filter_nil, ev, bE, oY]
 | x :: l, acc, h => by
  rw [aJ] at h
  have b := MZ p x.Signed.ke
  rw [ry, R3 p hp, aA, Fv v _ a _ (by unfold Gd; omega), iy]
  unfold Ja
  by_cases c : (vC p x.Signed.ke).2 = 0
  ·simp only [c, bN, aZ, cT, ey, aA]
   cases d : yh v (vC p x.Signed.ke).1
   ·simp only [aB, aN]
    exact E8 p hp v m a l acc (by omega)
   ·simp only [aZ]
    rw [mT (by simp; omega) (by simp; omega), aA, E8 p hp v m a l _ (by simp; omega)]
    simp only [bH, aK, bW, bJ]
    rfl
  ·have e : ((vC p x.Signed.ke).2 == 0) = false := by simpa using c
   simp only [e, aB, aN, c, cX, Bool.false_and, aA]
   exact E8 p hp v m a l acc (by omega)
structure PG (p : lD) : Prop extends PB p where
 TM : ∀ x ∈ p.kZ, yo x.Signed.ke ≤ 1000000000
 TX : ∀ a ∈ p.mu, ∀ c ∈ a.nv, yo c ≤ 1000000000
theorem RF {f : Formula} (h : f.Op = 1) : ux f = f := by rw [Cf, aV h]
noncomputable def vD (l : List ke) (peer : ByteArray) (r : kd) : Bool := @decide (nU (l.filter lI) ⟨r, peer⟩) (Classical.propDecidable _)
theorem CZ (l : List ke) (peer : ByteArray) (r : kd) : vD l peer r = true ↔ nU (l.filter lI) ⟨r, peer⟩ := by unfold vD; simp
theorem P7 {l m : List ke} (h : ∀ c ∈ l, c ∈ m) (peer : ByteArray) (r : kd) (b : vD l peer r = true) : vD m peer r = true := by
 rw [CZ] at *
 exact b.mono (fun c a => by rw [cM] at *; exact ⟨h c a.1, a.2⟩)
theorem SI (l : List ke) (h : l.length ≤ 1000000) (peer : ByteArray) : ∃ m, zj l peer = some m ∧ ∀ r, sV r m.1 m.2.1 m.2.2.1 m.2.2.2.1 m.2.2.2.2.1 m.2.2.2.2.2.1 m.2.2.2.2.2.2 = some (vD l peer r) := by
 obtain ⟨C, T, i, ws, n, e, m, d, _⟩ := Mi l h
 unfold zj
 rw [e, aA]
 refine ⟨_, rfl, fun r => ?_⟩
 unfold sV
 rw [oY]
 obtain ⟨b, a, g⟩ := Nu m C i ws [] n r peer
 rw [a]
 congr 1
 rw [bR, g, CZ]
 exact nU.congr (fun c => by rw [d, cM]) _
noncomputable def Jf (p : lD) (v : kd → Bool) (c : ke) : Bool := decide ((vC p c).2 = 0) && yh v (vC p c).1
theorem OD {p : lD} {v w : kd → Bool} (h : ∀ r, v r = true → w r = true) (c : ke) (a : Jf p v c = true) : Jf p w c = true := by
 unfold Jf yh at *
 simp only [bn, cH] at *
 exact ⟨a.1, a.2.1, QF h _ a.2.2⟩
def qE (s : List ke) : Prop := s.Pairwise (fun a b => Br a b = true) ∧ ∀ c ∈ s, lI c = true
theorem qE.nodup {s : List ke} (h : qE s) : s.Nodup := vc AM h.2 h.1
theorem qE.le {s t : List ke} (h : qE s) (a : ∀ c ∈ s, c ∈ t) : s.length ≤ t.length := mA h.nodup a
theorem qE.ext {s t : List ke} (h : qE s) (k : qE t) (b : ∀ c, c ∈ s ↔ c ∈ t) : s = t :=
 tM.unique AM (l := t) ⟨h.1, fun x => ⟨fun a => ⟨(b x).1 a, h.2 x a⟩, fun a => (b x).2 a.1⟩⟩ ⟨k.1, fun x => ⟨fun a => ⟨a, k.2 x a⟩, fun a => a.1⟩⟩
theorem qE.eq {s t : List ke} (h : qE s) (k : qE t) (b : ∀ c ∈ s, c ∈ t) (i : t.length ≤ s.length) : s = t := by
 refine h.ext k fun c => ⟨b c, fun d => ?_⟩
 refine ep fun g => ?_
 have := mA (l := c :: s) (m := t) (dF.2 ⟨g, h.nodup⟩) (fun x a => by
  rcases aO.1 a with rfl | a
  ·exact d
  ·exact b x a)
 simp at this; omega
theorem qE.nil : qE [] := ⟨by simp, by simp⟩
theorem qE.filter {s : List ke} (h : qE s) (p : ke → Bool) : qE (s.filter p) := ⟨h.1.filter _, fun c a => h.2 c (cM.1 a).1⟩
def En (p : lD) (c : ke) : Prop := ∃ x ∈ p.kZ, x.Signed.ke = c
def uo (p : lD) (l : List ke) (peer : ByteArray) (c : ke) : Prop := En p c ∧ lI c = true ∧ Jf p (vD l peer) c = true
theorem FV {p : lD} {l m : List ke} (h : ∀ c ∈ l, c ∈ m) {peer : ByteArray} {c : ke} (a : uo p l peer c) : uo p m peer c := ⟨a.1, a.2.1, OD (P7 h peer) c a.2.2⟩
theorem xy {p : lD} {s : List ke} (h : qE s) (b : ∀ c ∈ s, En p c) : s.length ≤ p.kZ.length := by
 have := h.le (t := p.kZ.map (·.Signed.ke)) (fun c a => by obtain ⟨x, d, e⟩ := b c a; exact bG.2 ⟨x, d, e⟩)
 simpa using this
theorem E9 (p : lD) (hp : PB p) (l : List ke) (n : l.length ≤ 1000000) (peer : ByteArray) : ∃ s, od p l peer = some s ∧ qE s ∧ (∀ c, c ∈ s ↔ uo p l peer c) ∧ s.length ≤ p.kZ.length := by
 obtain ⟨m, e, o⟩ := SI l n peer
 have := hp.Mv
 unfold od
 rw [e, aA, E8 p hp _ m o p.kZ [] (by simp; omega), bJ]
 have h1 : (p.kZ.filter (Ja p (vD l peer))).length ≤ p.kZ.length := eY _ _
 obtain ⟨s, j, a⟩ := Q6 ((p.kZ.filter (Ja p (vD l peer))).map (·.Signed.ke)) (by simp; omega)
 have i : qE s := ⟨a.1, fun c d => ((a.2 c).1 d).2⟩
 have hm : ∀ c, c ∈ s ↔ uo p l peer c := fun c => by
  rw [a.2, bG]
  constructor
  ·rintro ⟨⟨x, h, rfl⟩, g⟩
   obtain ⟨k, b⟩ := cM.1 h
   exact ⟨⟨x, k, rfl⟩, g, b⟩
  ·rintro ⟨⟨x, h, rfl⟩, g, b⟩
   exact ⟨⟨x, cM.2 ⟨h, b⟩, rfl⟩, g⟩
 exact ⟨s, j, i, hm, xy i (fun c d => ((hm c).1 d).1)⟩
def yD : Formula := ⟨2, 0, xj, []⟩
def L5 (l : List ml) (d : ke) : Option Formula := (l.find? fun x => nr x.Signed.ke d).map (·.kv)
theorem NT (n : ByteArray) (l : List ml) (k : List oZ) (c : ke) : En ⟨n, l, k⟩ c ↔ c ∈ l.map (·.Signed.ke) := by
 unfold En; rw [bG]
theorem EN (n : ByteArray) (l : List ml) (c : ke) : vC ⟨n, l, []⟩ c = match L5 l c with | none => (Ho, 42) | some r => DL r [] := by
 unfold vC DG L5 EB
 simp only
 cases l.find? (fun x => nr x.Signed.ke c) <;> rfl
theorem Qd : DL yD [] = (yD, 0) := by
 have h1 : qu yD = true := by decide +kernel
 have c : ux yD = yD := by
  rw [Cf]
  have a : ¬ (yD.Op = 1) := by decide
  have b : ¬ (yD.Op = 4) := by decide
  simp only [a, b, aN]
  rw [show yD.Kids = [] from rfl, shapeL]
  unfold uI
  rw [tG]
  rfl
 have d : Bh yD = (yD, 0) := by unfold Bh; rw [h1, c, h1]; rfl
 unfold DL
 rw [d, vj]; rfl
theorem LX : lf yD ≤ 10000000 := by unfold yD; rw [lf, nodesL]; omega
def sY : kd := ⟨⟨#[120]⟩, ⟨#[121]⟩⟩
def sZ : kd := ⟨⟨#[120]⟩, ⟨#[122]⟩⟩
def nG (r : kd) : Formula := ⟨1, 0, r, []⟩
def xm (c : ke) (f : Formula) : ml := ⟨⟨c, List.replicate 8 0⟩, f⟩
theorem CR (v : kd → Bool) (r : kd) : Dj v (nG r) = v r := by rw [ET]; rfl
theorem KQ {r : kd} (h : qu (nG r) = true) : DL (nG r) [] = (nG r, 0) := by
 have a : Bh (nG r) = (nG r, 0) := by unfold Bh; rw [h, RF rfl, h]; rfl
 unfold DL
 rw [a, vj]; rfl
theorem HN (c d : ke) (f : Formula) : L5 [xm c f] d = if nr c d then some f else none := by
 unfold L5
 rw [gf, show (xm c f).Signed.ke = c from rfl]
 cases nr c d <;> rfl
theorem Iy {n : ByteArray} {c d : ke} {f : Formula} : En ⟨n, [xm c f], []⟩ d ↔ d = c := by
 rw [NT]; show d ∈ [c] ↔ _; simp
theorem ES {n : ByteArray} {c : ke} {r : kd} (a : qu (nG r) = true) (b : lI c = true) (l : List ke) (peer : ByteArray) (d : ke) : uo ⟨n, [xm c (nG r)], []⟩ l peer d ↔ d = c ∧ vD l peer r = true := by
 unfold uo
 rw [Iy]
 constructor
 ·rintro ⟨rfl, _, h⟩
  refine ⟨rfl, ?_⟩
  unfold Jf at h
  rw [EN, HN, aV (re.2 rfl)] at h
  simp only [KQ a] at h
  unfold yh at h
  rw [a, CR, ey] at h
  exact h
 ·rintro ⟨rfl, h⟩
  refine ⟨rfl, b, ?_⟩
  unfold Jf
  rw [EN, HN, aV (re.2 rfl)]
  simp only [KQ a]
  unfold yh
  rw [a, CR, ey]
  exact h
theorem Pm {n : ByteArray} {c : ke} (a : lI c = true) (l : List ke) (peer : ByteArray) (d : ke) : uo ⟨n, [xm c yD], []⟩ l peer d ↔ d = c := by
 unfold uo
 rw [Iy]
 constructor
 ·exact fun h => h.1
 ·rintro rfl
  refine ⟨rfl, a, ?_⟩
  unfold Jf
  rw [EN, HN, aV (re.2 rfl)]
  simp only [Qd]
  unfold yh
  rw [show qu yD = true by decide +kernel, ET]
  rfl
theorem NR {c : ke} (a : lI c = true) (hk : c.Kind = 1) {l : List ke} (h : c ∈ l) : vD l c.kR c.Head = true := by
 rw [CZ]
 exact .mem c (cM.2 ⟨h, a⟩) hk
theorem Q5 (peer : ByteArray) (r : kd) : vD [] peer r = false := by
 rw [← fq, CZ]
 intro h
 obtain ⟨c, a, _⟩ := h.head
 cases a
theorem JF {n : ByteArray} {c : ke} {f : Formula} (h : lf f ≤ 10000000) : PB ⟨n, [xm c f], []⟩ where
 Mv := by simp
 Me := by simp
 rel := fun x a => by obtain rfl := aW.1 a; exact h
 OX := fun x a => by cases a
 Te := fun x a => by cases a
theorem Qo {c : ke} (a : lI c = true) : qE [c] := ⟨by simp, fun x b => by obtain rfl := aW.1 b; exact a⟩
theorem NW {s : List ke} {c : ke} (d : qE s) (h1 : ∀ x ∈ s, x = c) (a : c ∈ s) (b : lI c = true) : s = [c] :=
 d.ext (Qo b) (fun x => by
  rw [aW]
  exact ⟨h1 x, fun e => by rw [e]; exact a⟩)
theorem GQ : qu (nG sY) = true := by decide +kernel
theorem G7 : qu (nG sZ) = true := by decide +kernel
theorem Ss {l : List ke} {F : List kk} (h : Rt l F) (peer : ByteArray) : vF F peer = vD l peer := by
 funext r
 rw [bR, CZ]
 unfold vF
 rw [qL nj, (h.xO (l.filter lI) (fun c => by rw [cM])).2]
mutual
def AG : Formula → Nat
 | ⟨_, _, r, ks⟩ => 1 + r.kj.size + r.kq.size + szFL ks
def szFL : List Formula → Nat
 | [] => 0
 | k :: ks => AG k + szFL ks
end
theorem Ka (f : Formula) : AG f = 1 + f.kd.kj.size + f.kd.kq.size + szFL f.Kids := by cases f; rw [AG]
theorem ER : ∀ f : Formula, lf f ≤ AG f := by
 refine Jl fun f ih => ?_
 have : ∀ a : List Formula, (∀ k ∈ a, lf k ≤ AG k) → nodesL a ≤ szFL a := by
  intro a
  induction a with
  | nil => intro _; rw [nodesL]; omega
  | cons k a b =>
   intro h
   have := b (fun x c => h x (by simp [c]))
   have := h k (by simp)
   rw [nodesL, szFL]; omega
 have := this f.Kids ih
 rw [qi, Ka]; omega
def yA : List ke → Nat
 | [] => 0
 | c :: l => 20 + yo c + yA l
theorem g5 : ∀ (l : List ke) (n : Int), 0 ≤ n → n + (yA l : Int) ≤ 4000000000000000000 → rZ l n = some (n + (yA l : Int))
 | [], n, _, _ => by rw [rZ, yA]; simp
 | c :: l, n, b, a => by
  have e : yo c = c.Head.kj.size + c.Head.kq.size + c.kR.size + c.B.kj.size + c.B.kq.size + c.C.kj.size + c.C.kq.size + c.lj.size := rfl
  rw [yA] at a
  rw [rZ]
  rw [lG (x := 20 + (c.Head.kj.size : Int)) (by omega) (by omega), lG (x := 20 + (c.Head.kj.size : Int) + (c.Head.kq.size : Int)) (by omega) (by omega), lG (x := 20 + (c.Head.kj.size : Int) + (c.Head.kq.size : Int) + (c.kR.size : Int)) (by omega) (by omega), lG (x := 20 + (c.Head.kj.size : Int) + (c.Head.kq.size : Int) + (c.kR.size : Int) + (c.B.kj.size : Int)) (by omega) (by omega), lG (x := 20 + (c.Head.kj.size : Int) + (c.Head.kq.size : Int) + (c.kR.size : Int) + (c.B.kj.size : Int) + (c.B.kq.size : Int)) (by omega) (by omega), lG (x := 20 + (c.Head.kj.size : Int) + (c.Head.kq.size : Int) + (c.kR.size : Int) + (c.B.kj.size : Int) + (c.B.kq.size : Int) + (c.C.kj.size : Int)) (by omega) (by omega), lG (x := 20 + (c.Head.kj.size : Int) + (c.Head.kq.size : Int) + (c.kR.size : Int) + (c.B.kj.size : Int) + (c.B.kq.size : Int) + (c.C.kj.size : Int) + (c.C.kq.size : Int)) (by omega) (by omega), lG (x := 20 + (c.Head.kj.size : Int) + (c.Head.kq.size : Int) + (c.kR.size : Int) + (c.B.kj.size : Int) + (c.B.kq.size : Int) + (c.C.kj.size : Int) + (c.C.kq.size : Int) + (c.lj.size : Int)) (by omega) (by omega), lG (by omega) (by omega)]
  rw [g5 l _ (by omega) (by omega), yA]
  congr 1; omega
theorem T4 : ∀ (n : Nat) (l : List Formula), deepL l < n → szFL l ≤ 1000000000000 → ∃ r : Int, pO n l = some r ∧ 0 ≤ r ∧ r ≤ (szFL l : Int) := by
 intro n
 induction n with
 | zero => intro l h; omega
 | succ n ih =>
  intro l h c
  rw [pO]
  unfold xd
  have key : ∀ (l : List Formula) (x : Int), deepL l < n + 1 → 0 ≤ x → x + (szFL l : Int) ≤ 1000000000000 → ∃ r : Int, se (pO n) l x = some r ∧ 0 ≤ r ∧ r ≤ x + (szFL l : Int) := by
   intro l
   induction l with
   | nil => intro x _ g _; exact ⟨x, by rw [se], g, by rw [szFL]; simp⟩
   | cons k l b =>
    intro x h g c
    rw [deepL] at h
    rw [szFL] at c
    have hk := Ka k
    have := pE k
    obtain ⟨r, e, h1, i⟩ := ih k.Kids (by omega) (by omega)
    rw [se, e, aA]
    have o : 0 ≤ Int.tdiv ((k.kd.kj.size : Int) + (k.kd.kq.size : Int)) 16 ∧ Int.tdiv ((k.kd.kj.size : Int) + (k.kd.kq.size : Int)) 16 ≤ (k.kd.kj.size : Int) + (k.kd.kq.size : Int) := by
     rw [Int.tdiv_eq_ediv_of_nonneg (by omega)]
     omega
    rw [lG (x := (k.kd.kj.size : Int) + (k.kd.kq.size : Int)) (by omega) (by omega)]
    generalize Int.tdiv ((k.kd.kj.size : Int) + (k.kd.kq.size : Int)) 16 = d at *
    rw [lG (x := d) (by omega) (by omega), lG (x := 1 + d) (by omega) (by omega), lG (x := 1 + d + r) (by omega) (by omega), lG (x := x + (1 + d + r)) (by omega) (by omega)]
    obtain ⟨m, e', a, j⟩ := b (x + (1 + d + r)) (by omega) (by omega) (by omega)
    exact ⟨m, e', a, by rw [szFL]; omega⟩
  obtain ⟨r, e, h1, i⟩ := key l 0 h (by omega) (by omega)
  exact ⟨r, e, h1, by omega⟩
theorem Lh (f : Formula) (h : AG f ≤ 50000000) : ∃ r : Int, pO kT [f] = some r ∧ 0 ≤ r ∧ r ≤ (AG f : Int) := by
 have h1 := ER f
 have c := A8 f
 obtain ⟨r, e, a, b⟩ := T4 kT [f] (by rw [deepL, deepL, nt]; omega) (by rw [szFL, szFL]; omega)
 refine ⟨r, e, a, ?_⟩
 rw [szFL, szFL] at b; omega
theorem g6 (s : Signed) (h : yo s.ke + s.Tag.length ≤ 1000000000) : yv [] [s] = some (20 + (yo s.ke : Int) + (s.Tag.length : Int)) := by
 unfold yv
 rw [vV, ul]
 have := g5 [s.ke] 0 (by omega) (by rw [yA, yA]; omega)
 rw [show wi [s.ke] = _ from this, aA, ul, yA, yA]
 rw [lG (x := 0 + ((20 + yo s.ke + 0 : Nat) : Int) + (s.Tag.length : Int)) (by omega) (by omega), lG (by omega) (by omega)]
 simp only [aA]
 congr 1; omega
def Cq : List ml → Nat
 | [] => 0
 | x :: l => 20 + yo x.Signed.ke + x.Signed.Tag.length + 20 * AG x.kv + Cq l
def Bf : List oZ → Nat
 | [] => 0
 | a :: l => a.kd.kj.size + a.kd.kq.size + 20 * AG a.kv + yA a.nv + Bf l
def GR (p : lD) : Nat := p.Name.size + Cq p.kZ + Bf p.mu
theorem Oe : ∀ (l : List oZ) (x : Int), 0 ≤ x → x + (Bf l : Int) ≤ 1000000000 → ∃ r : Int, si l x = some r ∧ x ≤ r ∧ r ≤ x + (Bf l : Int)
 | [], x, _, _ => ⟨x, by rw [si], by omega, by rw [Bf]; omega⟩
 | a :: l, x, g, h => by
  rw [Bf] at h
  obtain ⟨r, e, h1, i⟩ := Lh a.kv (by omega)
  have b := g5 a.nv 0 (by omega) (by omega)
  rw [si, e, aA, show wi a.nv = _ from b, aA]
  rw [lG (x := (a.kd.kj.size : Int) + (a.kd.kq.size : Int)) (by omega) (by omega), lG (x := 20 * r) (by omega) (by omega), lG (x := (a.kd.kj.size : Int) + (a.kd.kq.size : Int) + 20 * r) (by omega) (by omega), lG (x := (a.kd.kj.size : Int) + (a.kd.kq.size : Int) + 20 * r + (0 + (yA a.nv : Int))) (by omega) (by omega), lG (by omega) (by omega)]
  obtain ⟨c, e', d, a2⟩ := Oe l (x + ((a.kd.kj.size : Int) + (a.kd.kq.size : Int) + 20 * r + (0 + (yA a.nv : Int)))) (by omega) (by omega)
  exact ⟨c, e', by omega, by rw [Bf]; omega⟩
theorem Ti (p : lD) (d : GR p ≤ 1000000000) : ∃ r : Int, wv p = some r ∧ 20 * (p.kZ.length : Int) ≤ r ∧ r ≤ (GR p : Int) := by
 unfold GR at d
 have key : ∀ (l : List ml) (x : Int), 0 ≤ x → x + (Cq l : Int) + (Bf p.mu : Int) ≤ 1000000000 → ∃ r : Int, sa p l x = some r ∧ x + 20 * (l.length : Int) ≤ r ∧ r ≤ x + (Cq l : Int) + (Bf p.mu : Int) := by
  intro l
  induction l with
  | nil =>
   intro x c h
   rw [Cq] at h
   obtain ⟨r, e, a, b⟩ := Oe p.mu x c (by omega)
   exact ⟨r, by rw [sa, e]; rfl, by simp; omega, by rw [Cq]; omega⟩
  | cons y l ih =>
   intro x c h
   rw [Cq] at h
   obtain ⟨r, e, h1, i⟩ := Lh y.kv (by omega)
   rw [sa, g6 y.Signed (by omega)]
   simp only [aA]
   rw [e, aA]
   rw [lG (x := 20 * r) (by omega) (by omega), lG (x := 20 + (yo y.Signed.ke : Int) + (y.Signed.Tag.length : Int) + 20 * r) (by omega) (by omega), lG (by omega) (by omega)]
   obtain ⟨g, e', a, b⟩ := ih (x + (20 + (yo y.Signed.ke : Int) + (y.Signed.Tag.length : Int) + 20 * r)) (by omega) (by omega)
   exact ⟨g, e', by rw [aJ]; omega, by rw [Cq]; omega⟩
 obtain ⟨r, e, a, b⟩ := key p.kZ (p.Name.size : Int) (by omega) (by omega)
 unfold wv
 exact ⟨r, e, by omega, by unfold GR; omega⟩
noncomputable def TO (p : Kg) : Bool := (qk p.kj p.Client p.Formula).getD false
def Q4 (l : List ml) (i : Int) : Prop := 0 ≤ i ∧ i < l.length
instance (l : List ml) (i : Int) : Decidable (Q4 l i) := by unfold Q4; infer_instance
def RE (l : List ml) (i : Int) : List ml := if Q4 l i then l.eraseIdx i.toNat else l
def PL (p : Kg) (e i : Int) : Kg :=
 if e = 0 then ⟨⟨p.kj.Name, RE p.kj.kZ i, p.kj.mu⟩, p.Client, p.Formula, p.Q7, p.PV, p.Lv, p.PI, p.Ni, p.Keys⟩
 else if e = 1 then ⟨p.kj, ⟨p.Client.Name, RE p.Client.kZ i, p.Client.mu⟩, p.Formula, p.Q7, p.PV, p.Lv, p.PI, p.Ni, p.Keys⟩
 else p
noncomputable def shr (e : Int) : Nat → Kg → Kg
 | 0, p => p
 | k + 1, p => shr e k (if TO (PL p e k) then PL p e k else p)
theorem qE.take {s : List ke} (h : qE s) (n : Nat) : qE (s.take n) := ⟨h.1.sublist (List.take_sublist n s), fun c a => h.2 c (List.mem_of_mem_take a)⟩
theorem bb {α β γ : Type} (x : Option α) (f : α → Option β) (g : β → Option γ) : (x.bind fun a => (f a).bind g) = (x.bind f).bind g := by cases x <;> rfl
theorem S0 {p x q y : Nat} : ((if ((p : Int) == (x : Int)) then some ((q : Int) == (y : Int)) else some false) : Option Bool) = some (decide (p = x ∧ q = y)) := by
 by_cases h : p = x
 ·subst h
  simp only [bN, aZ, true_and]
  congr 1
  rw [bR]; simp; omega
 ·have : ((p : Int) == (x : Int)) = false := by rw [beq_eq_false_iff_ne]; omega
  rw [this]; simp [h]
theorem GI (a b : lD) (ha : PB a) (v : PB b) (I : a.kZ.length ≤ 600000) (J : b.kZ.length ≤ 600000) : ∀ (n : Nat) (x y : List ke) (i : Int), qE x → qE y → (∀ c ∈ x, uo a y b.Name c) → (∀ c ∈ y, uo b x a.Name c) →
  a.kZ.length + b.kZ.length < n + x.length + y.length → 0 ≤ i → i ≤ (x.length + y.length : Nat) →
  ∃ g k j, oA a b n x y i = some (g, k, j) ∧ oA b a n y x i = some (k, g, j) ∧ qE g ∧ qE k ∧ (∀ c, c ∈ g ↔ uo a k b.Name c) ∧ (∀ c, c ∈ k ↔ uo b g a.Name c) ∧ j ≤ (g.length + k.length : Nat)
 | 0, x, y, i, l, m, o, r, G, E, F => by
  have h1 := xy l (fun c d => (o c d).1)
  have D := xy m (fun c d => (r c d).1)
  omega
 | n + 1, x, y, i, l, m, o, r, G, E, F => by
  have h1 := xy l (fun c d => (o c d).1)
  have D := xy m (fun c d => (r c d).1)
  obtain ⟨p, w, sp, mp, O⟩ := E9 a ha y (by omega) b.Name
  obtain ⟨q, z, sq, s, P⟩ := E9 b v x (by omega) a.Name
  have t : ∀ c ∈ x, c ∈ p := fun c d => (mp c).2 (o c d)
  have u : ∀ c ∈ y, c ∈ q := fun c d => (s c).2 (r c d)
  have L := l.le t
  have M := m.le u
  have A : wi0 .i64 (i + 1) = i + 1 := lG (by omega) (by omega)
  rw [oA, oA, w, z, A]
  simp only [aA, S0]
  by_cases c1 : p.length = x.length ∧ q.length = y.length
  ·have c2 : q.length = y.length ∧ p.length = x.length := ⟨c1.2, c1.1⟩
   simp only [c1, c2, and_self, cT, aA, aZ]
   obtain rfl := l.eq sp t (by omega)
   obtain rfl := m.eq sq u (by omega)
   exact ⟨_, _, _, rfl, rfl, l, m, mp, s, by omega⟩
  ·have c2 : ¬ (q.length = y.length ∧ p.length = x.length) := fun h => c1 ⟨h.2, h.1⟩
   simp only [c1, c2, cX, aA, aB, aN]
   obtain ⟨g, k, j, g1, g2, g3, g4, g5, g6, g7⟩ := GI a b ha v I J n p q (i + 1) sp sq (fun c d => FV u ((mp c).1 d)) (fun c d => FV t ((s c).1 d)) (by omega) (by omega) (by omega)
   exact ⟨g, k, j, g1, g2, g3, g4, g5, g6, by omega⟩
theorem MK (a b : lD) (ha : PB a) (g : PB b) (h : a.kZ.length ≤ 600000) (i : b.kZ.length ≤ 600000) : ∃ x y j, rb a b = some (x, y, j) ∧ rb b a = some (y, x, j) ∧ qE x ∧ qE y ∧ (∀ c, c ∈ x ↔ uo a y b.Name c) ∧ (∀ c, c ∈ y ↔ uo b x a.Name c) ∧ j ≤ a.kZ.length + b.kZ.length := by
 obtain ⟨x, y, j, g1, g2, g3, g4, g5, g6, g7⟩ := GI a b ha g h i kT [] [] 0 qE.nil qE.nil (by simp) (by simp) (by rw [nt]; simp; omega) (by omega) (by simp)
 have h1 := xy g3 (fun c d => ((g5 c).1 d).1)
 have k := xy g4 (fun c d => ((g6 c).1 d).1)
 exact ⟨x, y, j, g1, g2, g3, g4, g5, g6, by omega⟩
theorem JA {a : lD} (ha : PB a) {y x : List ke} {peer : ByteArray} (b : y.length ≤ 1000000) (i : qE x) (h : ∀ c, c ∈ x ↔ uo a y peer c) : od a y peer = some x := by
 obtain ⟨s, e, g, d, _⟩ := E9 a ha y b peer
 rw [e, g.ext i (fun c => by rw [d, h])]
mutual
def FU : Formula → List kd
 | ⟨o, k, r, ks⟩ => if o = 1 then [r] else D1 ks
def D1 : List Formula → List kd
 | [] => []
 | k :: ks => FU k ++ D1 ks
end
theorem Ny (f : Formula) : FU f = if f.Op = 1 then [f.kd] else D1 f.Kids := by cases f; rw [FU]
theorem La : ∀ f : Formula, (FU f).length ≤ lf f := by
 refine Jl fun f ih => ?_
 have key : ∀ a : List Formula, (∀ k ∈ a, (FU k).length ≤ lf k) → (D1 a).length ≤ nodesL a := by
  intro a
  induction a with
  | nil => intro _; rw [D1]; simp
  | cons k a b =>
   intro h
   have h1 := h k (by simp)
   have d := b (fun x c => h x (by simp [c]))
   rw [D1, aC, nodesL]; omega
 have := key _ ih
 rw [Ny, qi]
 split
 ·simp
 ·omega
theorem NH (rec : Formula → Option (List kd)) : ∀ (a : List Formula) (acc : List kd), (∀ k ∈ a, rec k = some (FU k)) → acc.length + (D1 a).length ≤ 100000000 → qP rec a acc = some (acc ++ D1 a)
 | [], acc, _, _ => by rw [qP, D1, bE]
 | k :: a, acc, h, b => by
  rw [D1, aC] at b
  rw [qP, h k (by simp), aA, mT (by omega) (by omega), aA, NH rec a _ (fun x c => h x (by simp [c])) (by rw [aC]; omega), D1, aK]
theorem QZ : ∀ (n : Nat) (f : Formula), sH f ≤ n → lf f ≤ 10000000 → rj n f = some (FU f) := by
 intro n
 induction n with
 | zero => intro f h; rw [pE] at h; omega
 | succ n ih =>
  intro f b d
  rw [pE] at b
  have c := qi f
  have hlen := La f
  rw [rj]
  unfold vP
  rw [Ny] at *
  by_cases c1 : f.Op = 1
  ·simp only [c1, bN, aZ]
  ·have a : (f.Op == 1) = false := by simpa using c1
   simp only [a, aB, aN, c1] at *
   rw [NH _ f.Kids [] (fun k hk => ih k (by have := xa hk; omega) (by have := yO hk; omega)) (by simp; omega), bJ]
theorem OB (f : Formula) (h : lf f ≤ 10000000) : ∃ r, uU f = some r ∧ J5 (FU f) r ∧ r.length ≤ lf f := by
 have h1 := La f
 obtain ⟨r, e, a⟩ := Tz (FU f) (by omega)
 have := ru (I3 _) a
 refine ⟨r, ?_, a, by omega⟩
 unfold uU
 have := A8 f
 rw [QZ kT f (by rw [nt]; omega) h, aA, e]; rfl
def wA : ByteArray := ⟨#[97]⟩
def wB : ByteArray := ⟨#[98]⟩
def wD : ke := ⟨1, sZ, wA, ⟨zS, zS⟩, ⟨zS, zS⟩, zS⟩
def wC : ke := ⟨1, sY, wB, ⟨zS, zS⟩, ⟨zS, zS⟩, zS⟩
def pA : lD := ⟨wA, [xm wD yD], []⟩
def pB : lD := ⟨wB, [xm wC (nG sZ)], []⟩
theorem Q8 : lI wD = true := by decide +kernel
theorem LD : lI wC = true := by decide +kernel
theorem TL : sY ≠ sZ := fun h => absurd (aR (fun r => r.kq.data.toList) h) (by decide)
theorem Sy (l : List ke) (d : l.length ≤ 10) : od pA l wB = some [wD] := by
 obtain ⟨fr, e, b, hm, _⟩ := E9 pA (JF LX) l (by omega) wB
 have h : ∀ c, c ∈ fr ↔ c = wD := fun c => by rw [hm]; exact Pm Q8 l wB c
 rw [e, NW b (fun c a => (h c).1 a) ((h wD).2 rfl) Q8]
theorem Q3 : od pB [] wA = some [] := by
 obtain ⟨fr, e, b, hm, _⟩ := E9 pB (JF (by decide +kernel)) [] (by simp) wA
 have : fr = [] := List.eq_nil_iff_forall_not_mem.2 (fun c a => by have := ((ES G7 LD [] wA c).1 ((hm c).1 a)).2; rw [Q5] at this; cases this)
 rw [e, this]
theorem Rj : od pB [wD] wA = some [wC] := by
 obtain ⟨fr, e, b, hm, _⟩ := E9 pB (JF (by decide +kernel)) [wD] (by simp) wA
 have h : ∀ c, c ∈ fr ↔ c = wC := fun c => by
  rw [hm]
  exact ⟨fun h => ((ES G7 LD [wD] wA c).1 h).1, fun h => (ES G7 LD [wD] wA c).2 ⟨h, NR Q8 rfl (by simp)⟩⟩
 rw [e, NW b (fun c a => (h c).1 a) ((h wC).2 rfl) LD]
theorem RA : rb pA pB = some ([wD], [wC], 2) := by
 have fA : ∀ l : List ke, l.length ≤ 10 → od pA l pB.Name = some [wD] := Sy
 have f0 : od pB [] pA.Name = some [] := Q3
 have f1 : od pB [wD] pA.Name = some [wC] := Rj
 unfold rb
 rw [show kT = 18446744073709551613 + 1 + 1 + 1 from by rw [tW], oA, fA [] (by simp), aA, f0, aA]
 simp only [aJ, bP, aA]
 rw [oA, fA [] (by simp), aA, f1, aA]
 simp only [aJ, bP, aA]
 rw [oA, fA [wC] (by simp), aA, f1, aA]
 rfl
theorem Ri : vD [wC] wB sY = true := NR LD rfl (by simp)
theorem TW : vD [wC] wB sZ = false := by
 rw [← fq, CZ]
 intro h
 obtain ⟨c, a, e⟩ := h.head
 have : c = wC := by simpa using (cM.1 a).1
 subst this
 exact TL e
theorem Na : ∃ m, wg pA pB = some m ∧ m.1 = [wC] ∧ ∀ r, oX r m.2.1 m.2.2.1 m.2.2.2.1 m.2.2.2.2.1 m.2.2.2.2.2.1 m.2.2.2.2.2.2.1 m.2.2.2.2.2.2.2 pB.kZ pB.mu = some (vD [wC] wB r) := by
 obtain ⟨F, a⟩ := TJ [wC] (by simp)
 obtain ⟨m, b, _, c⟩ := a.T6
 have d := Ss a wB
 refine ⟨_, by unfold wg; rw [RA, aA, show (([wD], [wC], 2) : List ke × List ke × Int).2.1 = [wC] from rfl, b]; rfl, rfl, fun r => ?_⟩
 unfold oX
 rw [oY, c, ← d]
 rfl
theorem Kv (r : kd) (a : qu (nG r) = true) : qk pA pB (nG r) = some (vD [wC] wB r) := by
 obtain ⟨m, e, _, h⟩ := Na
 have b : lf (nG r) = 1 := by unfold nG; rw [lf, nodesL]
 unfold qk
 rw [e, aA, Fv (vD [wC] wB) _ h (nG r) (by unfold Gd; omega)]
 unfold yh
 rw [a, CR]; rfl
theorem T5 : uU (nG sY) = some [sY] := by
 obtain ⟨r, e, h, b⟩ := OB (nG sY) (by decide +kernel)
 rw [e, tM.unique (I3 _) h (⟨by simp, fun x => ⟨fun a => ⟨a, by obtain rfl := aW.1 a; decide +kernel⟩, fun a => a.1⟩⟩ : J5 (FU (nG sY)) [sY])]
theorem TI (l : List kd) (x : kd) : ∃ q, AX l x = some q ∧ (q = true ↔ x ∈ l) := by
 have key : ∀ (l : List kd) (i : Nat), ∃ q : Int, qw x l i = some q ∧ (q ≥ 0 ↔ x ∈ l) := by
  intro l
  induction l with
  | nil => intro i; exact ⟨-1, rfl, by simp⟩
  | cons y l ih =>
   intro i
   rw [qw]
   by_cases h : kG x y = true
   ·rw [aV h]; exact ⟨i, rfl, by rw [kE.1 h]; simp⟩
   ·rw [aU h]
    obtain ⟨q, e, a⟩ := ih (i + 1)
    refine ⟨q, e, a.trans ?_⟩
    have : x ≠ y := fun e => h (kE.2 e)
    simp [this]
 obtain ⟨q, e, a⟩ := key l 0
 unfold AX uZ wJ
 rw [e]
 exact ⟨decide (q ≥ 0), rfl, by rw [cH, a]⟩
theorem PN (l : List kd) {b : Bool} (a : b = true ↔ sY ∈ l) : sO (nG sY) l = some b := by
 have d : ∀ r, sL r l = some (ur kG l r) := fun r => by
  obtain ⟨q, e, c⟩ := TI l r
  unfold sL
  rw [oY, e]
  congr 1
  rw [bR, c, qL kE]
 unfold sO
 rw [Fv (ur kG l) _ d (nG sY) (by unfold Gd; decide +kernel)]
 unfold yh
 rw [GQ, CR]
 simp only [ey, aA]
 congr 1
 rw [bR, a, qL kE]
theorem PO : (wi0 .i64 (BitVec.ofInt (IntKind.bits .i64) (Int.fdiv (0 : Int) (2 ^ min (Int.toNat ((0 : Nat) : Int)) (IntKind.bits .i64))) &&& BitVec.ofInt (IntKind.bits .i64) 1).toNat) = 0 := by decide +kernel
theorem PR : (wi0 .i64 (BitVec.ofInt (IntKind.bits .i64) (Int.fdiv (1 : Int) (2 ^ min (Int.toNat ((0 : Nat) : Int)) (IntKind.bits .i64))) &&& BitVec.ofInt (IntKind.bits .i64) 1).toNat) = 1 := by decide +kernel
theorem Tx : (wi0 .i64 (BitVec.ofInt (IntKind.bits .i64) ((1 : Nat) : Int) &&& ~~~ BitVec.ofInt (IntKind.bits .i64) (wi0 .i64 (1 * 2 ^ min (Int.toNat ((0 : Nat) : Int)) (IntKind.bits .i64)))).toNat) = 0 := by decide +kernel
theorem MC : ot (decide (0 ≤ ((0 : Nat) : Int))) = some () := by decide +kernel
theorem SD : tq [sY] 0 = some [] := by
 unfold tq
 rw [pL, MC, aA, PO, pL]
 rfl
theorem PS : tq [sY] 1 = some [sY] := by
 unfold tq
 rw [pL, MC, aA, PR]
 simp only [bN, aZ]
 rw [mT (by simp) (by simp), aA, pL]
 rfl
theorem RZ : zl (nG sY) [sY] = some [1] := by
 have c : An 1 false (wi0 .i64 (1 * 2 ^ min (Int.toNat (([sY] : List kd).length : Int)) (IntKind.bits .i64))) = some [false, false] := by
  rw [show (wi0 .i64 (1 * 2 ^ min (Int.toNat (([sY] : List kd).length : Int)) (IntKind.bits .i64))) = 2 by decide +kernel]
  unfold An
  rw [aV (by decide)]; rfl
 have d : sO (nG sY) [] = some false := PN [] (by simp)
 have s1 : sO (nG sY) [sY] = some true := PN [sY] (by simp)
 unfold zl
 rw [show ot (decide (0 ≤ (([sY] : List kd).length : Int))) = some () by decide +kernel, aA, c, aA]
 rw [ri, show ((0 : Nat) : Int) = 0 from rfl, SD, aA, d, aA, show lN [false, false] 0 = some false from rfl, aA]
 rw [rF]
 simp only [aB, aN]
 rw [MC, aA, show ((0 : Nat) : Int) = 0 from rfl]
 have a := PO
 rw [show ((0 : Nat) : Int) = 0 from rfl] at a
 rw [a]
 simp only [show ((0 : Int) == 1) = false from rfl, aB, aN, aA]
 rw [rF, aA, show lN (([false, false]).set (Int.toNat 0) false) 0 = some false from rfl]
 simp only [aA, aB, aN]
 rw [ri, show ((0 + 1 : Nat) : Int) = 1 from rfl, PS, aA, s1, aA, show lN (([false, false]).set (Int.toNat 0) false) 1 = some false from rfl, aA]
 rw [rF]
 simp only [aB, aN]
 rw [MC, aA, show ((0 + 1 : Nat) : Int) = 1 from rfl, PR]
 simp only [bN, aZ, aA]
 have b := Tx
 rw [show ((1 : Nat) : Int) = 1 from rfl] at b
 rw [b, show lN ((([false, false]).set (Int.toNat 0) false).set (Int.toNat 1) true) 0 = some false from rfl]
 simp only [aA]
 rw [rF, aA, show lN ((([false, false]).set (Int.toNat 0) false).set (Int.toNat 1) true) 1 = some true from rfl]
 simp only [aA, aZ, cV]
 rw [mT (by simp) (by simp), aA, ri]
 rfl
theorem RR : zg (nG sY) = some ([[sY]], 0) := by
 have b : ∃ c, tR [sY] [sY] = some c ∧ c = 0 := by
  obtain ⟨q, e, h⟩ := vk sY sY
  have i : xQ 1 1 = some 0 := by decide +kernel
  have j : nK sY sY = some 0 := by decide +kernel
  refine ⟨0, ?_, rfl⟩
  unfold tR
  rw [show (([sY] : List kd).length : Int) = 1 from rfl, i, aA]
  unfold nz
  rw [mo, aU (by decide +kernel), show lN [sY] ((0 : Nat) : Int) = some sY from rfl, aA]
  simp only
  rw [j, aA]
  simp only [bne_self_eq_false, aB, aN]
  rw [mo]
  decide +kernel
 obtain ⟨c, g, rfl⟩ := b
 have k : Fw (fun (x : (List kd × List kd)) => tR x.1 x.2) [[sY]] = some [[sY]] := by
  unfold Fw
  rw [aV (by simp), Ku]
  ·simp [pR]
  ·exact {
    is := fun x a y d => by obtain rfl := aW.1 a; obtain rfl := aW.1 d; exact ⟨_, g⟩
    irrefl := fun x a => by obtain rfl := aW.1 a; unfold sN; simp [g]
    trans := fun x a y d z l => by obtain rfl := aW.1 a; obtain rfl := aW.1 d; obtain rfl := aW.1 l; exact fun h _ => h
    total := fun x a y d _ _ => by obtain rfl := aW.1 a; obtain rfl := aW.1 d; rfl
    short := by simp }
 unfold zg
 rw [BH (nG sY) (by decide +kernel), GQ, aA]
 simp only [bV, aB, aN]
 rw [T5, aA, aU (by decide), RZ, aA, uR, PS, aA, mT (by simp) (by simp), aA, uR, aU (by decide), bJ, k]
 rfl
theorem Q1 (f1 : kd → Option Bool) (h : f1 sY = some true) : zc (nG sY) f1 = some ([sY], true) := by
 unfold zc
 rw [RR, aA]
 simp only [bne_self_eq_false, aB, aN, aA]
 rw [wT]
 unfold tk pU
 rw [nA]
 unfold wV
 rw [h]
 simp only [aA, bV, aB, aN]
 rw [nA]
 rfl
theorem Tc : ∃ z : kW, vq [wC] ⟨sY, wB⟩ = some ([z], true) ∧ z.ke = wC := by
 obtain ⟨C, b, h⟩ := QL [wC] (by simp) ⟨sY, wB⟩
 have hm : ∀ c, c ∈ C ↔ c = wC := fun c => by rw [b.2]; exact ⟨fun h => by simpa using h.1, fun h => by subst h; exact ⟨by simp, LD⟩⟩
 have d := ru AM b
 rcases h with ⟨o, e, a⟩ | ⟨_, i⟩
 ·obtain ⟨P, z, rfl, _⟩ := a.last
  have := a.len
  have j : C.length * C.length ≤ 1 * 1 := gZ d d
  simp only [aC, aJ, bP] at this
  have g : P = [] := aP (by omega)
  subst g
  exact ⟨z, e, (hm _).1 (a.cr z (by simp))⟩
 ·exact absurd (.mem wC ((hm wC).2 rfl) rfl) i
theorem P8 : ∃ z : kW, vE pA pB (nG sY) = some ([z], true) ∧ z.ke = wC := by
 obtain ⟨m, e, a, h⟩ := Na
 obtain ⟨z, b, c⟩ := Tc
 refine ⟨z, ?_, c⟩
 have d : lf (nG sY) = 1 := by unfold nG; rw [lf, nodesL]
 unfold vE
 rw [e, aA, Fv (vD [wC] wB) _ h (nG sY) (by unfold Gd; omega)]
 unfold yh
 rw [GQ, CR, Ri]
 simp only [aA, Bool.and_self, bV, aB, aN]
 rw [Q1 _ (by rw [h, Ri]), aA]
 simp only [bV, aB, aN]
 rw [tF, a, show pB.Name = wB from rfl, b, aA, OA _ (by simp [tot]), aA, tF]
 simp [LG, nB, ur]
theorem Qe : wo = some true := by
 have a : An 1 (0 : Int) 8 = some (List.replicate 8 0) := by unfold An; rw [aV (by decide)]; rfl
 have c2 : ∀ c f, uj c f = some [xm c f] := fun c f => by unfold uj; rw [a]; rfl
 have c1 : ∀ r, sn r = some (nG r) := fun r => rfl
 obtain ⟨z, b, d⟩ := P8
 have g1 := Kv sY GQ
 have g2 := Kv sZ G7
 rw [Ri] at g1
 rw [TW] at g2
 unfold wo
 simp only [c2, c1, aA]
 rw [show rb (⟨(⟨#[97]⟩ : ByteArray), [xm (⟨1, (⟨(⟨#[120]⟩ : ByteArray), (⟨#[122]⟩ : ByteArray)⟩ : kd), (⟨#[97]⟩ : ByteArray), (⟨zS, zS⟩ : kd), (⟨zS, zS⟩ : kd), zS⟩ : ke) (⟨2, 0, (⟨zS, zS⟩ : kd), []⟩ : Formula)], []⟩ : lD) (⟨(⟨#[98]⟩ : ByteArray), [xm (⟨1, (⟨(⟨#[120]⟩ : ByteArray), (⟨#[121]⟩ : ByteArray)⟩ : kd), (⟨#[98]⟩ : ByteArray), (⟨zS, zS⟩ : kd), (⟨zS, zS⟩ : kd), zS⟩ : ke) (nG (⟨(⟨#[120]⟩ : ByteArray), (⟨#[122]⟩ : ByteArray)⟩ : kd))], []⟩ : lD) = _ from RA]
 simp only [aA]
 rw [show vE (⟨(⟨#[97]⟩ : ByteArray), [xm (⟨1, (⟨(⟨#[120]⟩ : ByteArray), (⟨#[122]⟩ : ByteArray)⟩ : kd), (⟨#[97]⟩ : ByteArray), (⟨zS, zS⟩ : kd), (⟨zS, zS⟩ : kd), zS⟩ : ke) (⟨2, 0, (⟨zS, zS⟩ : kd), []⟩ : Formula)], []⟩ : lD) (⟨(⟨#[98]⟩ : ByteArray), [xm (⟨1, (⟨(⟨#[120]⟩ : ByteArray), (⟨#[121]⟩ : ByteArray)⟩ : kd), (⟨#[98]⟩ : ByteArray), (⟨zS, zS⟩ : kd), (⟨zS, zS⟩ : kd), zS⟩ : ke) (nG (⟨(⟨#[120]⟩ : ByteArray), (⟨#[122]⟩ : ByteArray)⟩ : kd))], []⟩ : lD) (nG (⟨(⟨#[120]⟩ : ByteArray), (⟨#[121]⟩ : ByteArray)⟩ : kd)) = _ from b]
 simp only [aA, aJ, bP]
 rw [show qk (⟨(⟨#[97]⟩ : ByteArray), [xm (⟨1, (⟨(⟨#[120]⟩ : ByteArray), (⟨#[122]⟩ : ByteArray)⟩ : kd), (⟨#[97]⟩ : ByteArray), (⟨zS, zS⟩ : kd), (⟨zS, zS⟩ : kd), zS⟩ : ke) (⟨2, 0, (⟨zS, zS⟩ : kd), []⟩ : Formula)], []⟩ : lD) (⟨(⟨#[98]⟩ : ByteArray), [xm (⟨1, (⟨(⟨#[120]⟩ : ByteArray), (⟨#[121]⟩ : ByteArray)⟩ : kd), (⟨#[98]⟩ : ByteArray), (⟨zS, zS⟩ : kd), (⟨zS, zS⟩ : kd), zS⟩ : ke) (nG (⟨(⟨#[120]⟩ : ByteArray), (⟨#[122]⟩ : ByteArray)⟩ : kd))], []⟩ : lD) (nG (⟨(⟨#[120]⟩ : ByteArray), (⟨#[121]⟩ : ByteArray)⟩ : kd)) = _ from g1]
 rw [show qk (⟨(⟨#[97]⟩ : ByteArray), [xm (⟨1, (⟨(⟨#[120]⟩ : ByteArray), (⟨#[122]⟩ : ByteArray)⟩ : kd), (⟨#[97]⟩ : ByteArray), (⟨zS, zS⟩ : kd), (⟨zS, zS⟩ : kd), zS⟩ : ke) (⟨2, 0, (⟨zS, zS⟩ : kd), []⟩ : Formula)], []⟩ : lD) (⟨(⟨#[98]⟩ : ByteArray), [xm (⟨1, (⟨(⟨#[120]⟩ : ByteArray), (⟨#[121]⟩ : ByteArray)⟩ : kd), (⟨#[98]⟩ : ByteArray), (⟨zS, zS⟩ : kd), (⟨zS, zS⟩ : kd), zS⟩ : ke) (nG (⟨(⟨#[120]⟩ : ByteArray), (⟨#[122]⟩ : ByteArray)⟩ : kd))], []⟩ : lD) (nG (⟨(⟨#[120]⟩ : ByteArray), (⟨#[122]⟩ : ByteArray)⟩ : kd)) = _ from g2]
 rw [show lN [z] 0 = some z from rfl]
 simp only [aA]
 rw [d, show nr wC (⟨1, (⟨(⟨#[120]⟩ : ByteArray), (⟨#[121]⟩ : ByteArray)⟩ : kd), (⟨#[98]⟩ : ByteArray), (⟨zS, zS⟩ : kd), (⟨zS, zS⟩ : kd), zS⟩ : ke) = true from re.2 rfl]
 rfl
theorem Gw (q : wo = some true) (a b : lD) (ha : PB a) (i : PB b) (r : a.kZ.length ≤ 600000) (s : b.kZ.length ≤ 600000) (o : GR a ≤ 1000000000) (p : GR b ≤ 1000000000) : uA a b = some true := by
 obtain ⟨A, m, _, _⟩ := Ti a o
 obtain ⟨D, n, _, _⟩ := Ti b p
 obtain ⟨x, y, j, t, u, k, l, g, h, v⟩ := MK a b ha i r s
 have w := xy k (fun c d => ((g c).1 d).1)
 have z := xy l (fun c d => ((h c).1 d).1)
 unfold uA
 rw [q, m, n]
 simp only [aA, bV, aB, aN]
 split
 ·rfl
 ·rw [t, aA, u, aA, I8]
  simp only [aA, aZ]
  rw [I8]
  simp only [aA, aZ, bN]
  rw [JA ha (by omega) k g, aA, I8]
  simp only [aA, aZ]
  rw [JA i (by omega) l h, aA, I8]
  simp only [aA, aZ]
  rw [lG (by omega) (by omega), decide_eq_true (by omega)]
end Go.Proofs.YtklbhegeiijbjaaGreat
namespace Go.Proofs.YtklbhegeiijbjaaGreat.Lf
open Go.ChangeShapes Go.WideShapes Go.ChangeAt Go.RowKit
open Go.Proofs.YtklbhegeiijbjaaGreat (Rows.uptoBulk Rows.uptoBulkAll Rows.uptoSmall)
theorem Oi {H : Type} (d : DataW H) : 1 ≤ Rows.uptoBulk d := by
 cases d with
 | lit l => cases l <;> simp [Rows.uptoBulk]
 | nil => simp [Rows.uptoBulk]
 | ptr d => simp [Rows.uptoBulk]
 | slice a spare => simp [Rows.uptoBulk]
 | agg parts => simp [Rows.uptoBulk]
 | iface t d => simp [Rows.uptoBulk]
 | map entries => simp [Rows.uptoBulk]
 | held h => simp [Rows.uptoBulk]
theorem length_le {H : Type} (l : List (DataW H)) : l.length ≤ Rows.uptoBulkAll l := by
 induction l with
 | nil => simp [Rows.uptoBulkAll]
 | cons x r ih => have := Oi x; simp only [Rows.uptoBulkAll, aJ]; omega
def IF {α : Type} (P : Program) (t : TypeId) (enc : α → List Value) (sz : α → Nat) : Prop :=
 ∀ (H : Type) (b : TypeId × Value → H) (W : World) (base : Nat) (sp : Nat → Bool) (c : Bool) (fuel : Nat) (cs : List Value) (x : DataW H × List MemPlace),
  DataW.trod b P W base sp c fuel t cs = some x → ∃ a : α, cs = enc a ∧ sz a ≤ Rows.uptoBulk x.1
theorem L7 {P : Program} {t : TypeId} (a : P.underlying t = some .string) : IF P t (fun s : ByteArray => [.string s]) (fun s => s.size) := by
 intro H b W base sp c fuel cs x h
 obtain ⟨s, rfl, rfl, _⟩ := DataW.trod_string a h
 refine ⟨s, rfl, ?_⟩
 have e : s.data.toList.length = s.size := by rw [dl]; rfl
 simp [Rows.uptoBulk, e]
theorem Qw {P : Program} {t : TypeId} {k : IntKind} (a : P.underlying t = some (.int k)) : IF P t (fun n : Int => [.int k n]) (fun _ => 0) := by
 intro H b W base sp c fuel cs x h
 obtain ⟨n, rfl, rfl, _⟩ := DataW.trod_int a h
 exact ⟨n, rfl, eH _⟩
theorem QM {α : Type} {n : Nat} {p : Nat → α → Prop} (h : ∀ i, i < n → ∃ x, p i x) : ∃ l : List α, l.length = n ∧ ∀ i x, l[i]? = some x → p i x := by
 induction n with
 | zero => exact ⟨[], rfl, by simp⟩
 | succ n ih =>
  obtain ⟨l, h1, c⟩ := ih fun i b => h i (by omega)
  obtain ⟨x, g⟩ := h n (by omega)
  refine ⟨l ++ [x], by simp [h1], fun i y a => ?_⟩
  by_cases b : i < l.length
  ·rw [fS b] at a
   exact c i y a
  ·rw [eS (by omega)] at a
   have : i - l.length = 0 := by
    cases d : i - l.length with
    | zero => rfl
    | succ m => rw [d] at a; simp at a
   rw [this] at a
   have e : i = n := by omega
   simp at a
   subst a; rw [e]; exact g
theorem JN {W : World} {a : Addr} {v : Value} (h : W.cell? a = some v) : ∃ cs T fr, W.heap[a.block]? = some (.cells cs T fr) ∧ a.spot = none ∧ cs[a.off]? = some v := by
 unfold World.cell? at h
 split at h
 ·rename_i c T fr d
  by_cases b : a.spot.isSome
  ·simp [b] at h
  ·simp only [b] at h
   exact ⟨c, T, fr, d, by simpa using b, by simpa using h⟩
 ·cases h
theorem Ex.below {dd : Bool} {W W' : World} (h : Ex dd W W') : Below W.heap.size W W' := ⟨h.os, h.tape, h.output, h.size, h.mR⟩
theorem D8 {H : Type} {j : TypeId × Value → H} {P : Program} (l : laidOutB P = true) {W W' : World} {b : Nat → Bool} :
  ∀ {g : List TypeId} {vs : List Value} {ds : List (DataW H)} {c : List MemPlace}, (∀ t ∈ g, P.readableRec t = true ∧ t < P.types.size) →
   DataW.TrodAll j P W 0 (fun _ => true) true g vs ds c → (∀ p ∈ c, W.sameAt W' p) → (∀ p ∈ c, b p.block = true) → DataW.TrodAll j P W' 0 b true g vs ds c
 | [], _, _, _, _, h, _, _ => by
  obtain ⟨rfl, rfl, rfl⟩ := trodAll_nil h
  exact trodAll_mk0
 | t :: g, _, _, _, i, h, h1, k => by
  obtain ⟨v, vs, d, ds, p, q, rfl, rfl, rfl, m, n⟩ := trodAll_cons h
  exact trodAll_cons_mk (WideElems.Trod_stays l (i t (by simp)).1 (i t (by simp)).2 m (fun x a => h1 x (by simp [a])) (fun x a => k x (by simp [a])))
   (D8 l (fun u hu => i u (by simp [hu])) n (fun x a => h1 x (by simp [a])) (fun x a => k x (by simp [a])))
theorem L3 {H : Type} {enc : TypeId × Value → H} {P : Program} (G : laidOutB P = true) {f : Func} {s : ChangeSpec} {apart fresh handsOn again : Bool} {W W' : World} {args : Array Value} {v : Value} {ds gs : List (DataW H)} {before : List MemPlace} (J : ∀ t ∈ f.params.toList, P.readableRec t = true ∧ t < P.types.size) (l : s.vars = []) (n : DataW.Whole enc P f.params.toList s.vars apart W args.toList ds gs before) {dd : Bool} (A : Ex dd W W') (a : ∀ (b : Nat) (sp : Nat → Bool) (F : Bool), DataW.TrodAll enc P W' b sp F f.resultTypes.toList (v.resultList f.resultTypes.size) (s.fn H (ds ++ gs)).results []) (c : (s.fn H (ds ++ gs)).args = ds) (g : (s.fn H (ds ++ gs)).vars = []) (y : ∀ (j : Nat) (t : TypeId) (r : Value), f.resultTypes[j]? = some t → (v.resultList f.resultTypes.size)[j]? = some r → Value.okWide P W' .any 0 t r) :
  s.post enc P f apart fresh handsOn again W args v W' := by
 have d := n.lt
 have hold : ∀ p ∈ before, (fun b => decide (b < W.heap.size)) p.block = true := fun p hp => by simpa using d p hp
 have u := Ex.below A
 have o := n
 obtain ⟨p, q, E, D, i, L, I⟩ := n
 rw [l] at D
 obtain ⟨rfl, rfl⟩ := trodVars_none D
 rw [bE] at i
 subst i
 have k : ∀ sp : Nat → Bool, (∀ p ∈ before, sp p.block = true) → DataW.TrodAll enc P W' 0 sp true f.params.toList args.toList (s.fn H (ds ++ [])).args before := fun sp z => by
  rw [c]
  exact D8 G J E (fun x A => u.same (d x A)) z
 have m : ∀ sp : Nat → Bool, DataW.TrodVars enc P W' sp s.vars (s.fn H (ds ++ [])).vars [] := fun sp => by
  rw [g, l]; rfl
 refine ⟨ds, [], before, [], before, [], o, a _ _ _, k _ hold, m _, World.keptBut_mono (fun p hp => ⟨hp, ?_⟩) (u.frame (· ∈ before)), fun _ => ?_⟩
 ·exact Or.inr (Or.inl hp)
 ·refine ⟨y, _, _, ([] ++ before) ++ [], ⟨[] ++ before, [], trodAll_append (k _ (fun _ _ => rfl)) (a _ _ _), m _, rfl, ?_, ?_⟩, ?_⟩
  ·intro b off hp
   have h : MemPlace.cell b off ∈ before := by simpa using hp
   rw [World.frozen?_of_block (w := W) (u.block b (d _ h))]
   exact L b off h
  ·intro ha
   simpa using I ha
  ·intro p hp _
   simpa using hp
end Go.Proofs.YtklbhegeiijbjaaGreat.Lf
namespace Go.Proofs.YtklbhegeiijbjaaGreat.Lf
open Go.ChangeShapes Go.WideShapes Go.ChangeAt Go.RowKit
open Go.Proofs.YtklbhegeiijbjaaGreat (Rows.uptoBulk Rows.uptoBulkAll Rows.uptoSmall)
def Gy {α : Type} (P : Program) (t : TypeId) (R : pW α) (sz : α → Nat) : Prop :=
 ∀ (H : Type) (b : TypeId × Value → H) (W : World) (base : Nat) (sp : Nat → Bool) (c : Bool) (fuel : Nat) (cs : List Value) (x : DataW H × List MemPlace),
  DataW.trod b P W base sp c fuel t cs = some x → ∃ a : α, R (hp W) cs a ∧ sz a ≤ Rows.uptoBulk x.1
theorem IF.rel {α : Type} {P : Program} {t : TypeId} {enc : α → List Value} {sz : α → Nat} (h : IF P t enc sz) : Gy P t (Pl enc) sz := fun H a W base sp b fuel cs x c => h H a W base sp b fuel cs x c
end Go.Proofs.YtklbhegeiijbjaaGreat.Lf
namespace Go.Proofs.YtklbhegeiijbjaaGreat.Lf
open Go.ChangeShapes Go.WideShapes Go.ChangeAt Go.RowKit
open Go.Proofs.YtklbhegeiijbjaaGreat (Rows.uptoBulk Rows.uptoBulkAll Rows.uptoSmall)
theorem FZ {H : Type} : ∀ l : List (DataW H), Rows.uptoBulkAll l = (l.map Rows.uptoBulk).sum
 | [] => by simp [Rows.uptoBulkAll]
 | d :: l => by simp [Rows.uptoBulkAll, FZ l]
theorem Nw {α : Type} (g : α → Nat) : ∀ (n : Nat) (f : Nat → Nat) {l : List α}, l.length = n → (∀ i x, l[i]? = some x → g x ≤ f i) → (l.map g).sum ≤ ((List.range n).map f).sum
 | 0, f, l, b, h => by
  obtain rfl := ee.1 b
  simp
 | n + 1, f, [], b, h => by cases b
 | n + 1, f, a :: l, b, h => by
  rw [List.range_succ_eq_map, bH, bH, eA, eA, ej]
  have h1 := h 0 a rfl
  have d := Nw g n (f ∘ Nat.succ) (l := l) (by simpa using b) (fun i x c => h (i + 1) x (by simpa using c))
  omega
def vp {α : Type} (sz : α → Nat) (l : List α) : Nat := (l.map fun a => max 1 (sz a)).sum
theorem Fk {α : Type} (sz : α → Nat) : ∀ l : List α, l.length ≤ vp sz l
 | [] => aS _
 | a :: l => by have := Fk sz l; simp only [vp, bH, eA, aJ] at this ⊢; omega
theorem Ht {α : Type} {sz : α → Nat} : ∀ {l : List α} {a : α}, a ∈ l → sz a ≤ vp sz l
 | b :: l, a, h => by
  simp only [vp, bH, eA]
  rcases aO.1 h with rfl | h
  ·omega
  ·have := Ht (sz := sz) h; simp only [vp] at this; omega
theorem FJ {α : Type} {P : Program} {t e : TypeId} {k : Nat} {R : pW α} {sz : α → Nat} (hk : P.cellsOf e = k) (I : 0 < k) (ht : P.underlying t = some (.slice e)) {H : Type} {O : TypeId × Value → H} {W : World} {base : Nat} {sp : Nat → Bool} {held : Bool} {fuel : Nat} {cs : List Value} {x : DataW H × List MemPlace} (hd : ∀ (fuel : Nat) (cs : List Value) (y : DataW H × List MemPlace), DataW.trod O P W base sp held fuel e cs = some y → SizeOf.sizeOf y.1 < SizeOf.sizeOf x.1 → ∃ a : α, R (hp W) cs a ∧ sz a ≤ Rows.uptoBulk y.1) (hf : DataW.trod O P W base sp held fuel t cs = some x) :
  ∃ v l, cs = [v] ∧ Sl R k (hp W) v l ∧ vp sz l ≤ Rows.uptoBulk x.1 := by
 rcases Go.Deep.open_slice ht hf with ⟨rfl, rfl⟩ | ⟨a, ln, cp, m, n, D, Q, rfl, hb, hl, hm, L, rfl, F⟩
 ·exact ⟨_, [], rfl, ⟨none, 0, rfl, aS _, eH _, fun h => absurd h (Nat.lt_irrefl _)⟩, eH _⟩
 ·have aa : ln ≤ m := by rw [L]; split <;> omega
  have hB : ((List.range ln).map fun i => Rows.uptoBulk (D i)).sum ≤ Rows.uptoBulk (DataW.slice ((List.range ln).map D) ((List.range (m - ln)).map fun j => D (ln + j))) := by
   simp only [Rows.uptoBulk]
   rw [FZ, ej]
   have e : ((List.range ln).map fun i => Rows.uptoBulk (D i)) = (List.range ln).map (Rows.uptoBulk ∘ D) := rfl
   rw [e]
   omega
  have hS : ∀ i, i < ln → SizeOf.sizeOf (D i) < SizeOf.sizeOf (DataW.slice ((List.range ln).map D) ((List.range (m - ln)).map fun j => D (ln + j))) := fun i G => by
   have := List.sizeOf_lt_of_mem (bG.2 ⟨i, List.mem_range.2 G, rfl⟩ : D i ∈ (List.range ln).map D)
   rw [DataW.slice.sizeOf_spec]; omega
  simp only at hd ⊢
  generalize Rows.uptoBulk (DataW.slice ((List.range ln).map D) ((List.range (m - ln)).map fun j => D (ln + j))) = B at hB
  obtain ⟨l, J, q⟩ := QM (α := α) (n := ln) (p := fun i x => ∃ b, W.cells? base (a.add (i * k)) k = some b ∧ R (hp W) b x ∧ sz x ≤ Rows.uptoBulk (D i)) fun i G => by
   obtain ⟨b, h1, w⟩ := F i (by omega)
   obtain ⟨x, hR, z⟩ := hd _ _ _ w (hS i G)
   rw [hk] at h1
   exact ⟨x, b, h1, hR, z⟩
  subst J
  refine ⟨_, l, rfl, ⟨some a, cp, rfl, hl, hm, fun h0 => ?_⟩, ?_⟩
  ·have c : ∀ i x, l[i]? = some x → ∃ b, R (hp W) b x ∧ b.length = k ∧ ∀ j, j < k → W.cell? ((a.add (i * k)).add j) = b[j]? := fun i x r =>
    let ⟨b, h1, w, _⟩ := q i x r
    let ⟨_, z, U⟩ := World.cells?_some h1
    ⟨b, w, z, U⟩
   obtain ⟨a6, _, U, h5⟩ := c 0 l[0] (by simp [h0])
   have A := h5 0 I
   rw [Nat.zero_mul, cF (by omega)] at A
   have e0 : (a.add 0).add 0 = a := rfl
   rw [e0] at A
   obtain ⟨cs, T, fr, E, Y, _⟩ := JN A
   obtain ⟨s, u, a1⟩ := a
   simp only at E Y
   subst Y
   refine ⟨s, u, cs, T, fr, rfl, E, fun i x r => ?_⟩
   obtain ⟨b, gR, g1, g2⟩ := c i x r
   refine ⟨b, g1, gR, fun j y hy => ?_⟩
   have hj : j < k := by
    rw [← g1]
    exact (bF.1 hy).1
   have Z := g2 j hj
   rw [Go.Deep.add_add, hy] at Z
   obtain ⟨M, T', a7, d, a8, g⟩ := JN Z
   have o : (Addr.add ⟨s, u, none⟩ (i * k + j)).block = s ∧ (Addr.add ⟨s, u, none⟩ (i * k + j)).off = u + (i * k + j) := by
    unfold Addr.add
    split
    ·rename_i hz
     rw [hz]; exact ⟨rfl, rfl⟩
    ·exact ⟨rfl, rfl⟩
   rw [o.1, E] at d
   cases d
   rw [o.2, ← eu] at g
   exact g
  ·refine dJ (Nw _ _ _ rfl fun i x r => ?_) hB
   exact Nat.max_le.2 ⟨Oi _, (q i x r).elim fun _ h => h.2.2⟩
theorem wy {α : Type} {P : Program} {t e : TypeId} {k : Nat} {R : pW α} {sz : α → Nat} (hk : P.cellsOf e = k) (a : 0 < k) (c : Gy P e R sz) (g : P.underlying t = some (.slice e)) {H : Type} {b : TypeId × Value → H} {W : World} {base : Nat} {sp : Nat → Bool} {held : Bool} {fuel : Nat} {cs : List Value} {x : DataW H × List MemPlace} (d : DataW.trod b P W base sp held fuel t cs = some x) :
  ∃ v l, cs = [v] ∧ Sl R k (hp W) v l ∧ vp sz l ≤ Rows.uptoBulk x.1 := FJ hk a g (fun _ _ _ h _ => c _ _ _ _ _ _ _ _ _ h) d
end Go.Proofs.YtklbhegeiijbjaaGreat.Lf
namespace Go.Proofs.YtklbhegeiijbjaaGreat.Lf
open Go.ChangeShapes Go.WideShapes Go.ChangeAt Go.RowKit
open Go.Proofs.YtklbhegeiijbjaaGreat (Rows.uptoBulk Rows.uptoBulkAll Rows.uptoSmall)
def NY {α : Type} (R : pW α) (Q : α → Prop) : pW α := fun μ ys x => R μ ys x ∧ Q x
theorem Sl.all {α : Type} {R : pW α} {Q : α → Prop} {k : Nat} {μ : kL} {v : Value} {l : List α} (h : Sl (NY R Q) k μ v l) : Sl R k μ v l ∧ ∀ x ∈ l, Q x := by
 obtain ⟨A, c, rfl, h1, j, q⟩ := h
 cases l with
 | nil => exact ⟨⟨A, c, rfl, h1, j, fun h => absurd h (by simp)⟩, by simp⟩
 | cons a l =>
  obtain ⟨b, o, cs, T, fr, e, r, m⟩ := q (by simp)
  refine ⟨⟨A, c, rfl, h1, j, fun _ => ⟨b, o, cs, T, fr, e, r, fun i x g => ?_⟩⟩, fun x g => ?_⟩
  ·obtain ⟨ys, n, d, p⟩ := m i x g
   exact ⟨ys, n, d.1, p⟩
  ·obtain ⟨i, s⟩ := List.mem_iff_getElem?.1 g
   obtain ⟨ys, n, d, p⟩ := m i x s
   exact d.2
theorem QA {P : Program} {t : TypeId} (a : P.underlying t = some (.int .u8)) : Gy P t (NY (Pl (mc .u8)) (fun x => 0 ≤ x ∧ x < 256)) (fun _ => 0) := by
 intro H b W base sp c fuel cs x h
 obtain ⟨n, rfl, rfl, hw⟩ := DataW.trod_int a h
 refine ⟨n, ⟨rfl, ?_⟩, eH _⟩
 simp [Lit.wf, IntKind.min, IntKind.max, IntKind.bits, IntKind.signed] at hw
 omega
end Go.Proofs.YtklbhegeiijbjaaGreat.Lf
namespace Go.Proofs.YtklbhegeiijbjaaGreat
open Go.IntKind renaming wrap → wi0
open Go.Proofs.Tryz renaming prog → pg0
set_option maxRecDepth 10000
open Go.ChangeShapes Go.WideShapes Go.ChangeAt Go.RowKit
open Go.Proofs.YtklbhegeiijbjaaGreat Go.Proofs.YtklbhegeiijbjaaGreat.Lf
def ic := @Tryz.underlying25
theorem LP : Tryz.prog.cellsOf 25 = 3 := by kernel_rfl
theorem Ky {α : Type} {l : List α} (h : l.length = 3) : ∃ a0 a a2, l = [a0, a, a2] := by
 match l, h with
 | [a0, a, a2], _ => exact ⟨a0, a, a2, rfl⟩
theorem Ha : Tryz.prog.cellsOf 9 = 1 := by kernel_rfl
theorem HT : IF pg0 9 (fun s : ByteArray => [.string s]) (fun s => s.size) := L7 Tryz.underlying9
theorem KU : Tryz.prog.cellsOf 22 = 1 := by kernel_rfl
theorem HL : Tryz.prog.cellsOf 60 = 15 := by kernel_rfl
theorem ME {α : Type} {l : List α} (h : l.length = 2) : ∃ a0 a, l = [a0, a] := by
 match l, h with
 | [a0, a], _ => exact ⟨a0, a, rfl⟩
theorem Sv {α : Type} {l : List α} (h : l.length = 15) : ∃ a0 g a2 a3 a4 a5 i j k a9 a b a12 c d, l = [a0, g, a2, a3, a4, a5, i, j, k, a9, a, b, a12, c, d] := by
 match l, h with
 | [a0, g, a2, a3, a4, a5, i, j, k, a9, a, b, a12, c, d], _ => exact ⟨a0, g, a2, a3, a4, a5, i, j, k, a9, a, b, a12, c, d, rfl⟩
theorem QR : Tryz.prog.cellsOf 55 = 10 := by kernel_rfl
theorem HI : Tryz.prog.cellsOf 52 = 9 := by kernel_rfl
theorem OQ : IF pg0 3 (fun n : Int => [.int .i64 n]) (fun _ => 0) := Qw Tryz.underlying3
theorem Np : Tryz.prog.cellsOf 3 = 1 := by kernel_rfl
theorem E6 : Tryz.prog.cellsOf 50 = 2 := by kernel_rfl
def xY (x : kd) : Nat := x.kj.size + x.kq.size
theorem Hd : IF pg0 50 ki xY := by
 intro H d W base sp i fuel cs x h
 obtain ⟨xs, n, _, rfl, m, hlen, j⟩ := eo Tryz.underlying50 h
 obtain ⟨p, q, rfl⟩ := ME hlen
 obtain ⟨a, c1, rfl⟩ := ME (m.trans E6)
 have g : DataW.trod d pg0 W base sp i n 9 (([a, c1].drop 0).take (Tryz.prog.cellsOf 9)) = some p := j 0 _ rfl
 have h1 : DataW.trod d pg0 W base sp i n 9 (([a, c1].drop 1).take (Tryz.prog.cellsOf 9)) = some q := j 1 _ rfl
 simp only [Ha, List.drop, List.take] at g h1
 obtain ⟨o, b, k⟩ := HT _ _ _ _ _ _ _ _ _ g
 obtain ⟨s1, c, l⟩ := HT _ _ _ _ _ _ _ _ _ h1
 simp only [bO, er] at b c
 obtain rfl := b
 obtain rfl := c
 refine ⟨⟨o, s1⟩, rfl, ?_⟩
 simp only [List.map, Rows.uptoBulk, Rows.uptoBulkAll, xY] at k l ⊢
 omega
theorem Tq {α : Type} {l : List α} (h : l.length = 6) : ∃ a0 a a2 a3 a4 a5, l = [a0, a, a2, a3, a4, a5] := by
 match l, h with
 | [a0, a, a2, a3, a4, a5], _ => exact ⟨a0, a, a2, a3, a4, a5, rfl⟩
theorem Ts {α : Type} {l : List α} (h : l.length = 9) : ∃ a0 a a2 a3 a4 a5 b c d, l = [a0, a, a2, a3, a4, a5, b, c, d] := by
 match l, h with
 | [a0, a, a2, a3, a4, a5, b, c, d], _ => exact ⟨a0, a, a2, a3, a4, a5, b, c, d, rfl⟩
def vy (x : ke) : Nat := xY x.Head + x.kR.size + xY x.B + xY x.C + x.lj.size
theorem PH : IF pg0 52 km vy := by
 intro H k W base sp l fuel cs x h
 obtain ⟨xs, n, _, rfl, J, hlen, m⟩ := eo Tryz.underlying52 h
 obtain ⟨Q, R, T, U, Y, Z, rfl⟩ := Tq hlen
 obtain ⟨a, c1, c2, b, c, d, g, i, j, rfl⟩ := Ts (J.trans HI)
 have u : DataW.trod k pg0 W base sp l n 3 (([a, c1, c2, b, c, d, g, i, j].drop 0).take (Tryz.prog.cellsOf 3)) = some Q := m 0 _ rfl
 have h1 : DataW.trod k pg0 W base sp l n 50 (([a, c1, c2, b, c, d, g, i, j].drop 1).take (Tryz.prog.cellsOf 50)) = some R := m 1 _ rfl
 have v : DataW.trod k pg0 W base sp l n 9 (([a, c1, c2, b, c, d, g, i, j].drop 3).take (Tryz.prog.cellsOf 9)) = some T := m 2 _ rfl
 have w : DataW.trod k pg0 W base sp l n 50 (([a, c1, c2, b, c, d, g, i, j].drop 4).take (Tryz.prog.cellsOf 50)) = some U := m 3 _ rfl
 have y : DataW.trod k pg0 W base sp l n 50 (([a, c1, c2, b, c, d, g, i, j].drop 6).take (Tryz.prog.cellsOf 50)) = some Y := m 4 _ rfl
 have z : DataW.trod k pg0 W base sp l n 9 (([a, c1, c2, b, c, d, g, i, j].drop 8).take (Tryz.prog.cellsOf 9)) = some Z := m 5 _ rfl
 simp only [Np, E6, Ha, List.drop, List.take] at u h1 v w y z
 obtain ⟨L, o, A⟩ := OQ _ _ _ _ _ _ _ _ _ u
 obtain ⟨s1, p, D⟩ := Hd _ _ _ _ _ _ _ _ _ h1
 obtain ⟨s2, q, E⟩ := HT _ _ _ _ _ _ _ _ _ v
 obtain ⟨M, r, F⟩ := Hd _ _ _ _ _ _ _ _ _ w
 obtain ⟨O, s, G⟩ := Hd _ _ _ _ _ _ _ _ _ y
 obtain ⟨P, t, I⟩ := HT _ _ _ _ _ _ _ _ _ z
 simp only [ki, bO, er] at o p q r s t
 obtain rfl := o
 obtain ⟨rfl, rfl⟩ := p
 obtain rfl := q
 obtain ⟨rfl, rfl⟩ := r
 obtain ⟨rfl, rfl⟩ := s
 obtain rfl := t
 refine ⟨⟨L, s1, s2, M, O, P⟩, rfl, ?_⟩
 simp only [List.map, Rows.uptoBulk, Rows.uptoBulkAll, vy] at A D E F G I ⊢
 omega
theorem P9 : Tryz.prog.cellsOf 53 = 1 := by kernel_rfl
theorem Rk : Tryz.prog.cellsOf 5 = 1 := by kernel_rfl
theorem SQ : Gy pg0 5 (NY (Pl (mc .u8)) (fun x => 0 ≤ x ∧ x < 256)) (fun _ => 0) := QA Tryz.underlying5
theorem Fj : Tryz.prog.cellsOf 58 = 5 := by kernel_rfl
theorem TD {α : Type} {l : List α} (h : l.length = 4) : ∃ a0 a a2 a3, l = [a0, a, a2, a3] := by
 match l, h with
 | [a0, a, a2, a3], _ => exact ⟨a0, a, a2, a3, rfl⟩
theorem TC {α : Type} {l : List α} (h : l.length = 5) : ∃ a0 a a2 a3 a4, l = [a0, a, a2, a3, a4] := by
 match l, h with
 | [a0, a, a2, a3, a4], _ => exact ⟨a0, a, a2, a3, a4, rfl⟩
theorem QN : Tryz.prog.cellsOf 56 = 1 := by kernel_rfl
theorem Tv {H : Type} {x : DataW H × List MemPlace} {ys : List (DataW H × List MemPlace)} {p : List MemPlace} (a : x = (.agg (ys.map (·.1)), p)) (i : Nat) {y : DataW H × List MemPlace} (h : ys[i]? = some y) : SizeOf.sizeOf y.1 < SizeOf.sizeOf x.1 := by
 subst a
 have := List.sizeOf_lt_of_mem (bG.2 ⟨y, dy h, rfl⟩ : y.1 ∈ ys.map (·.1))
 simp only [DataW.agg.sizeOf_spec]; omega
theorem JS : ∀ l : List Formula, szFL l ≤ vp AG l
 | [] => aS _
 | k :: l => by have := JS l; rw [szFL]; simp only [vp, bH, eA] at this ⊢; omega
theorem Rr : ∀ (N : Nat) (H : Type) (F : TypeId × Value → H) (W : World) (base : Nat) (sp : Nat → Bool) (G : Bool) (fuel : Nat) (cs : List Value) (x : DataW H × List MemPlace),
  DataW.trod F pg0 W base sp G fuel 58 cs = some x → SizeOf.sizeOf x.1 < N → ∃ a : Formula, kf (hp W) cs a ∧ AG a ≤ Rows.uptoBulk x.1 := by
 intro N
 induction N with
 | zero => intro _ _ _ _ _ _ _ _ _ _ h; exact absurd h (Nat.not_lt_zero _)
 | succ N ih =>
  intro H F W base sp G fuel cs x h Z
  obtain ⟨Y, u, _, p, v, o, j⟩ := eo Tryz.underlying58 h
  obtain ⟨q, r, s, t, rfl⟩ := TD o
  obtain ⟨b, c, d, g, i, rfl⟩ := TC (v.trans Fj)
  have k : DataW.trod _ pg0 W _ _ _ u 3 (([b, c, d, g, i].drop 0).take (Tryz.prog.cellsOf 3)) = some q := j 0 _ rfl
  have l : DataW.trod _ pg0 W _ _ _ u 3 (([b, c, d, g, i].drop 1).take (Tryz.prog.cellsOf 3)) = some r := j 1 _ rfl
  have m : DataW.trod _ pg0 W _ _ _ u 50 (([b, c, d, g, i].drop 2).take (Tryz.prog.cellsOf 50)) = some s := j 2 _ rfl
  have n : DataW.trod _ pg0 W _ _ _ u 56 (([b, c, d, g, i].drop 4).take (Tryz.prog.cellsOf 56)) = some t := j 3 _ rfl
  simp only [Np, E6, QN, List.drop, List.take] at k l m n
  obtain ⟨s2, w, L⟩ := OQ _ _ _ _ _ _ _ _ _ k
  simp only [bO, er] at w
  obtain rfl := w
  obtain ⟨T, A, M⟩ := OQ _ _ _ _ _ _ _ _ _ l
  simp only [bO, er] at A
  obtain rfl := A
  obtain ⟨U, D, O⟩ := Hd _ _ _ _ _ _ _ _ _ m
  simp only [ki, bO, er] at D
  obtain ⟨rfl, rfl⟩ := D
  obtain ⟨v5, I, E, R, P⟩ := FJ Fj (by decide) Tryz.underlying56 (fun f cs y h Q => ih _ _ _ _ _ _ _ _ _ h (by have := Tv p 3 rfl; omega)) n
  simp only [bO, er] at E
  obtain rfl := E
  have J := aR (fun z => Rows.uptoBulk z.1) p
  refine ⟨⟨s2, T, U, I⟩, kf.mk ⟨_, rfl, R⟩, ?_⟩
  have Q := JS I
  simp only [List.map, Rows.uptoBulk, Rows.uptoBulkAll, xY] at L M O P J ⊢
  rw [Ka]
  simp only
  omega
theorem M5 : Gy pg0 58 kf AG := fun H a W base sp b fuel cs x h => Rr _ H a W base sp b fuel cs x h (bD _)
def vM (x : ml) : Nat := vy x.Signed.ke + vp (fun _ : Int => 0) x.Signed.Tag + 1 + AG x.kv + 1
def N2 (x : ml) : Prop := (∀ y ∈ x.Signed.Tag, 0 ≤ y ∧ y < 256)
theorem NQ : Gy pg0 60 (NY mh N2) vM := by
 intro H eh W base sp hd fuel cs x h
 obtain ⟨a6, n6, _, P, O, w, E⟩ := eo Tryz.underlying60 h
 obtain ⟨G, I, rfl⟩ := ME w
 obtain ⟨a, b, c, d, g, i, j, k, l, m, n, o, p, q, r, rfl⟩ := Sv (O.trans HL)
 have s : DataW.trod _ pg0 W _ _ _ n6 55 (([a, b, c, d, g, i, j, k, l, m, n, o, p, q, r].drop 0).take (Tryz.prog.cellsOf 55)) = some G := E 0 _ rfl
 have t : DataW.trod _ pg0 W _ _ _ n6 58 (([a, b, c, d, g, i, j, k, l, m, n, o, p, q, r].drop 10).take (Tryz.prog.cellsOf 58)) = some I := E 1 _ rfl
 simp only [QR, Fj, List.drop, List.take] at s t
 obtain ⟨a7, n7, _, Q, a1, y, F⟩ := eo Tryz.underlying55 s
 obtain ⟨J, L, rfl⟩ := ME y
 have u : DataW.trod _ pg0 W _ _ _ n7 52 (([a, b, c, d, g, i, j, k, l, m].drop 0).take (Tryz.prog.cellsOf 52)) = some J := F 0 _ rfl
 have v : DataW.trod _ pg0 W _ _ _ n7 53 (([a, b, c, d, g, i, j, k, l, m].drop 9).take (Tryz.prog.cellsOf 53)) = some L := F 1 _ rfl
 simp only [HI, P9, List.drop, List.take] at u v
 obtain ⟨s8, U, b8⟩ := PH _ _ _ _ _ _ _ _ _ u
 simp only [km, ki, bO, er] at U
 obtain ⟨rfl, rfl, rfl, rfl, rfl, rfl, rfl, rfl, rfl⟩ := U
 obtain ⟨v9, s9, Y, R, b9⟩ := wy Rk (by decide) SQ Tryz.underlying53 v
 simp only [bO, er] at Y
 obtain rfl := Y
 obtain ⟨R, g9⟩ := Lf.Sl.all R
 have b7 := aR (fun z => Rows.uptoBulk z.1) Q
 obtain ⟨T, A, M⟩ := M5 _ _ _ _ _ _ _ _ _ t
 obtain ⟨v10, D, A⟩ := A.out
 simp only [bO, er] at D
 obtain ⟨rfl, rfl, rfl, rfl, rfl⟩ := D
 have Z := aR (fun z => Rows.uptoBulk z.1) P
 refine ⟨⟨⟨s8, s9⟩, T⟩, ⟨mh.mk ⟨_, _, rfl, R, A⟩, g9⟩, ?_⟩
 simp only [List.map, Rows.uptoBulk, Rows.uptoBulkAll, vM] at b8 b9 b7 M Z ⊢
 omega
theorem Lu : Tryz.prog.cellsOf 23 = 1 := by kernel_rfl
theorem HS : Tryz.prog.cellsOf 87 = 8 := by kernel_rfl
theorem TF {α : Type} {l : List α} (h : l.length = 8) : ∃ a0 a a2 a3 a4 a5 b c, l = [a0, a, a2, a3, a4, a5, b, c] := by
 match l, h with
 | [a0, a, a2, a3, a4, a5, b, c], _ => exact ⟨a0, a, a2, a3, a4, a5, b, c, rfl⟩
theorem P3 : Tryz.prog.cellsOf 28 = 1 := by kernel_rfl
def zh (x : oZ) : Nat := xY x.kd + AG x.kv + vp vy x.nv + 1
def SV (x : oZ) : Prop := True
theorem N8 : Gy pg0 87 (NY mN SV) zh := by
 intro H R W base sp T fuel cs x h
 obtain ⟨O, n11, _, A, y, p, o⟩ := eo Tryz.underlying87 h
 obtain ⟨r, s, t, rfl⟩ := Ky p
 obtain ⟨a, b, c, d, g, i, j, k, rfl⟩ := TF (y.trans HS)
 have l : DataW.trod _ pg0 W _ _ _ n11 50 (([a, b, c, d, g, i, j, k].drop 0).take (Tryz.prog.cellsOf 50)) = some r := o 0 _ rfl
 have m : DataW.trod _ pg0 W _ _ _ n11 58 (([a, b, c, d, g, i, j, k].drop 2).take (Tryz.prog.cellsOf 58)) = some s := o 1 _ rfl
 have n : DataW.trod _ pg0 W _ _ _ n11 28 (([a, b, c, d, g, i, j, k].drop 7).take (Tryz.prog.cellsOf 28)) = some t := o 2 _ rfl
 simp only [P3, E6, Fj, List.drop, List.take] at l m n
 obtain ⟨J, u, E⟩ := Hd _ _ _ _ _ _ _ _ _ l
 simp only [ki, bO, er] at u
 obtain ⟨rfl, rfl⟩ := u
 obtain ⟨L, q, F⟩ := M5 _ _ _ _ _ _ _ _ _ m
 obtain ⟨P, v, q⟩ := q.out
 simp only [bO, er] at v
 obtain ⟨rfl, rfl, rfl, rfl, rfl⟩ := v
 obtain ⟨Q, M, w, I, G⟩ := wy HI (by decide) PH.rel Tryz.underlying28 n
 simp only [bO, er] at w
 obtain rfl := w
 have D := aR (fun z => Rows.uptoBulk z.1) A
 refine ⟨⟨J, L, M⟩, ⟨mN.mk ⟨_, _, rfl, q, I⟩, trivial⟩, ?_⟩
 simp only [List.map, Rows.uptoBulk, Rows.uptoBulkAll, zh] at E F G D ⊢
 omega
def Ba (x : lD) : Nat := x.Name.size + vp vM x.kZ + vp zh x.mu + 1
theorem Sj : Tryz.prog.readableRec 25 = true ∧ 25 < Tryz.prog.types.size := ⟨by kernel_rfl, gL (by kernel_rfl)⟩
theorem DF (c : ke) : yo c = vy c := by unfold yo vy xY; omega
theorem Lg {α : Type} (sz : α → Nat) (h : ∀ a, 2 ≤ sz a) : ∀ l : List α, 2 * l.length ≤ vp sz l
 | [] => eH _
 | a :: l => by have := Lg sz h l; have := h a; simp only [vp, bH, eA, aJ] at *; omega
theorem Bs (y : ml) : vM y = vy y.Signed.ke + vp (fun _ : Int => 0) y.Signed.Tag + 1 + AG y.kv + 1 := rfl
theorem Kx (y : oZ) : zh y = xY y.kd + AG y.kv + vp vy y.nv + 1 := rfl
theorem Lm : ∀ l : List ke, yA l ≤ 21 * vp vy l
 | [] => eH _
 | c :: l => by have := Lm l; rw [yA, DF]; simp only [vp, bH, eA] at *; omega
theorem Lj : ∀ l : List ml, Cq l ≤ 21 * vp vM l
 | [] => eH _
 | x :: l => by
  have := Lj l
  have := Fk (fun _ : Int => 0) x.Signed.Tag
  rw [Cq, DF]
  have e := Bs x
  simp only [vp, bH, eA] at *; omega
theorem LQ : ∀ l : List oZ, Bf l ≤ 21 * vp zh l
 | [] => eH _
 | x :: l => by
  have := LQ l
  have := Lm x.nv
  rw [Bf]
  have e := Kx x
  unfold xY at e
  have a : vp zh (x :: l) = max 1 (zh x) + vp zh l := rfl
  omega
theorem OS (x : lD) (d : x.Name.size ≤ 1048576) (h1 : vp vM x.kZ ≤ 1048576) (g : vp zh x.mu ≤ 1048576) : PG x ∧ x.kZ.length ≤ 600000 ∧ GR x ≤ 1000000000 := by
 have c1 := Lg vM (fun y => by rw [Bs]; omega) x.kZ
 have c2 := Fk zh x.mu
 have g1 : ∀ y ∈ x.kZ, vy y.Signed.ke ≤ 1048576 ∧ lf y.kv ≤ 1048576 := fun y a => by
  have := Ht (sz := vM) a
  have e := Bs y
  have := ER y.kv
  omega
 have g2 : ∀ y ∈ x.mu, lf y.kv ≤ 1048576 ∧ vp vy y.nv ≤ 1048576 := fun y a => by
  have := Ht (sz := zh) a
  have e := Kx y
  have := ER y.kv
  omega
 refine ⟨{ Mv := by omega, Me := by omega, rel := fun y a => ?_, OX := fun y a => ?_, Te := fun y a => ?_, TM := fun y a => ?_, TX := fun y a c b => ?_ }, by omega, ?_⟩
 ·have := (g1 y a).2; omega
 ·have := (g2 y a).1; omega
 ·have := (g2 y a).2; have := Fk vy y.nv; omega
 ·have := (g1 y a).1; rw [DF]; omega
 ·have := (g2 y a).2; have := Ht (sz := vy) b; rw [DF]; omega
 ·have := Lj x.kZ; have := LQ x.mu; unfold GR; omega
theorem yQ (x : lD) (h : Ba x ≤ 1048576) : PG x ∧ x.kZ.length ≤ 600000 ∧ GR x ≤ 1000000000 := by
 unfold Ba at h
 exact OS x (by omega) (by omega) (by omega)
theorem own : ownKnob Tryz.prog.godebug = none := by kernel_rfl
theorem Pc : laidOutB pg0 = true := by kernel_rfl
theorem O4 (H : Type) (enc : TypeId × Value → H) (W : World) (base : Nat) (args : Array Value) (ds gs : List (DataW H)) (before : List MemPlace) (w : ∀ (j : Nat) t v, Tryz.f3.params[j]? = some t → args[j]? = some v → Value.okWide pg0 W .any base t v) (hW : DataW.Whole enc pg0 Tryz.f3.params.toList Rows.unlockMeetsSpec.vars false W args.toList ds gs before) (hk : Rows.uptoSmall H (ds ++ gs) = true) :
  Calls pg0 3 args W fun e W' => ∃ v, e = .returned v ∧ Rows.unlockMeetsSpec.post enc pg0 Tryz.f3 false true false false W args v W' := by
 have aw := hW
 obtain ⟨p, q, av, hV, rfl, b5, b6⟩ := hW
 have hA : DataW.TrodAll enc pg0 W 0 (fun _ => true) true Tryz.f3.params.toList args.toList ds p := av
 have hr : ∀ t ∈ Tryz.f3.params.toList, Tryz.prog.readableRec t = true ∧ t < Tryz.prog.types.size := by
  rw [Tryz.params3]
  intro t ht
  simp only [aO, dG, fL] at ht
  rcases ht with rfl | rfl
  ·exact Sj
  ·exact Sj
 rw [Tryz.params3] at hA w
 obtain ⟨v0, b9, d0, b1, p0, q0, ay, rfl, rfl, h0, r0⟩ := trodAll_cons hA
 obtain ⟨v1, ba, d1, b2, p1, q1, rfl, rfl, rfl, h1, r1⟩ := trodAll_cons r0
 obtain ⟨rfl, rfl, rfl⟩ := trodAll_nil r1
 obtain rfl : args = #[v0, v1] := by cases args; simp_all
 obtain ⟨rfl, rfl⟩ := trodVars_none hV
 have k0 := w 0 25 v0 rfl rfl
 have k1 := w 1 25 v1 rfl rfl
 obtain ⟨Z, rfl, _⟩ := okWide_struct ic k0
 obtain ⟨b3, ae⟩ := h0
 obtain ⟨az, rfl⟩ : ∃ l : List Value, Z = l.toArray := ⟨Z.toList, by simp⟩
 change DataW.trod _ _ _ _ _ _ _ _ az = some _ at ae
 obtain ⟨aE, n15, _, ai, ag, x, s⟩ := eo ic ae
 obtain ⟨P, Q, R, rfl⟩ := Ky x
 obtain ⟨g, a, b, rfl⟩ := Ky (ag.trans LP)
 have i : DataW.trod _ pg0 W _ _ _ n15 9 (([g, a, b].drop 0).take (Tryz.prog.cellsOf 9)) = some P := s 0 _ rfl
 have k : DataW.trod _ pg0 W _ _ _ n15 22 (([g, a, b].drop 1).take (Tryz.prog.cellsOf 22)) = some Q := s 1 _ rfl
 have m : DataW.trod _ pg0 W _ _ _ n15 23 (([g, a, b].drop 2).take (Tryz.prog.cellsOf 23)) = some R := s 2 _ rfl
 simp only [KU, Lu, Ha, List.drop, List.take] at i k m
 obtain ⟨G, a6, al⟩ := HT _ _ _ _ _ _ _ _ _ i
 simp only [bO, er] at a6
 obtain rfl := a6
 obtain ⟨v17, I, a7, A, an⟩ := wy HL (by decide) NQ Tryz.underlying22 k
 simp only [bO, er] at a7
 obtain rfl := a7
 obtain ⟨A, g17⟩ := Lf.Sl.all A
 obtain ⟨b7, J, a8, D, ao⟩ := wy HS (by decide) N8 Tryz.underlying23 m
 simp only [bO, er] at a8
 obtain rfl := a8
 obtain ⟨D, g18⟩ := Lf.Sl.all D
 have ak := aR (fun z => Rows.uptoBulk z.1) ai
 simp only [List.map, Rows.uptoBulk, Rows.uptoBulkAll] at al an ao ak
 have z0 : Ba (⟨G, I, J⟩ : lD) ≤ Rows.uptoBulk d0 := by simp only [Ba]; omega
 obtain ⟨a1, rfl, _⟩ := okWide_struct ic k1
 obtain ⟨b4, af⟩ := h1
 obtain ⟨Sk, rfl⟩ : ∃ l : List Value, a1 = l.toArray := ⟨a1.toList, by simp⟩
 change DataW.trod _ _ _ _ _ _ _ _ Sk = some _ at af
 obtain ⟨b0, n19, _, aj, ah, y, u⟩ := eo ic af
 obtain ⟨T, U, Y, rfl⟩ := Ky y
 obtain ⟨h, c, d, rfl⟩ := Ky (ah.trans LP)
 have n : DataW.trod _ pg0 W _ _ _ n19 9 (([h, c, d].drop 0).take (Tryz.prog.cellsOf 9)) = some T := u 0 _ rfl
 have o : DataW.trod _ pg0 W _ _ _ n19 22 (([h, c, d].drop 1).take (Tryz.prog.cellsOf 22)) = some U := u 1 _ rfl
 have r : DataW.trod _ pg0 W _ _ _ n19 23 (([h, c, d].drop 2).take (Tryz.prog.cellsOf 23)) = some Y := u 2 _ rfl
 simp only [KU, Lu, Ha, List.drop, List.take] at n o r
 obtain ⟨L, aa, aq⟩ := HT _ _ _ _ _ _ _ _ _ n
 simp only [bO, er] at aa
 obtain rfl := aa
 obtain ⟨v21, M, ab, E, ar⟩ := wy HL (by decide) NQ Tryz.underlying22 o
 simp only [bO, er] at ab
 obtain rfl := ab
 obtain ⟨E, g21⟩ := Lf.Sl.all E
 obtain ⟨v22, O, ad, F, au⟩ := wy HS (by decide) N8 Tryz.underlying23 r
 simp only [bO, er] at ad
 obtain rfl := ad
 obtain ⟨F, g22⟩ := Lf.Sl.all F
 have ap := aR (fun z => Rows.uptoBulk z.1) aj
 simp only [List.map, Rows.uptoBulk, Rows.uptoBulkAll] at aq ar au ap
 have z1 : Ba (⟨L, M, O⟩ : lD) ≤ Rows.uptoBulk d1 := by simp only [Ba]; omega
 have hB : Rows.uptoBulkAll ([d0, d1] ++ []) ≤ 1048576 := gL hk
 simp only [bE, Rows.uptoBulkAll] at hB
 have hm : uA (⟨G, I, J⟩ : lD) (⟨L, M, O⟩ : lD) = some true := Gw Qe _ _ (yQ _ (by omega)).1.toPB (yQ _ (by omega)).1.toPB (yQ _ (by omega)).2.1 (yQ _ (by omega)).2.1 (yQ _ (by omega)).2.2 (yQ _ (by omega)).2.2
 have hg := Ek (⟨G, I, J⟩ : lD) a b (⟨L, M, O⟩ : lD) c d true W A D E F hm
 refine cZ hg fun e W' ⟨he, hx⟩ => ?_
 subst he
 exact ⟨_, rfl, L3 Pc hr rfl aw hx (fun _ _ _ => trodAll_cons_mk (shut_bool Tryz.underlying4 _) trodAll_mk0) rfl rfl (ok_one (by kernel_rfl) rfl (okWide_bool_mk Tryz.underlying4 _))⟩
set_option maxRecDepth 100000 in
theorem RQ (os : Os) (started : os.Started) (H : Type) (enc : TypeId × Value → H) (F : Stop.Interp) :
  ReturnsInHanded {} Tryz.checked os 3 .any ((Rows.OpenSpec.upto Rows.unlockMeetsSpec).pre6 enc pg0 Tryz.f3 Rows.unlockMeetsUptoRow.domain false) (((Rows.OpenSpec.upto Rows.unlockMeetsSpec).at F).post enc pg0 Tryz.f3 false true false false) := by
 refine returnsInHanded_of_cond (C := Tryz.checked) (s := Rows.OpenSpec.upto Rows.unlockMeetsSpec) (k := Rows.uptoSmall) rfl own started (by kernel_rfl) Tryz.func3
  (OpenSpec.witness (enc := enc) (C := Tryz.checked) (s := Rows.OpenSpec.upto Rows.unlockMeetsSpec) (k := Rows.uptoSmall) rfl false ⟨#[], #[.agg #[.string ⟨#[]⟩, .slice none 0 0, .slice none 0 0], .agg #[.string ⟨#[]⟩, .slice none 0 0, .slice none 0 0]], []⟩ 8 (by kernel_rfl) (by kernel_rfl) (by kernel_rfl)
   (x := ([.agg [.lit (.string []), .nil, .nil], .agg [.lit (.string []), .nil, .nil]], [], [])) (by kernel_rfl) rfl (by kernel_rfl)) ?_
 intro W base args ds gs before a b _ hk _
 exact O4 H enc W base args ds gs before a b hk
theorem SJ {a b : Bool} (ha : a = true) (c : b = true) : (a && b) = true := by rw [ha, c]; rfl
set_option maxHeartbeats 40000000 in
theorem P5 : joinedFacts Tryz.checked.prog 3 Tryz.f3 (Rows.OpenSpec.upto Rows.unlockMeetsSpec).bare Rows.unlockMeetsUptoRow = true := by
 unfold joinedFacts
 repeat' with_reducible refine SJ ?_ ?_
 all_goals as_aux_lemma => kernel_rfl
theorem proved : Rows.UnlockMeetsUptoSaid :=
 OpenClaim.holds_of_cond 3 Tryz.f3 rfl rfl rfl rfl rfl rfl rfl ⟨rfl, rfl, rfl, rfl, rfl⟩ rfl rfl rfl rfl rfl (by kernel_rfl) Tryz.func3 P5
  (gL (by kernel_rfl)) (by unfold Func.isWrapper; first | (rw [aV (by decide +kernel)]; kernel_rfl) | (rw [aU (by decide +kernel)]; exact ⟨rfl, rfl⟩))
  (fun os started H enc _ F => RQ os started H enc F)
end Go.Proofs.YtklbhegeiijbjaaGreat
